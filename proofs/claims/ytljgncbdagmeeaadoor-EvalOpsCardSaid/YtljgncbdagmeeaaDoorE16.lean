/- Variables are written, slices appended to. -/
import Derived.Test.YtljgncbdagmeeaaDoorE15
import Derived.MapKept
namespace Go.Proofs.YtljgncbdagmeeaaDoorE
open Go
set_option linter.unusedVariables false
set_option linter.unusedSimpArgs false

theorem setRange_mono {α : Type} {A B vs : List α} {o : Nat} (h : ∀ (j : Nat) v, A[j]? = some v → B[j]? = some v) : ∀ (j : Nat) v, (setRange A o vs)[j]? = some v → (setRange B o vs)[j]? = some v := by
  intro j v hj
  rw [setRange_get] at hj ⊢
  split at hj
  · rename_i hc
    rw [if_pos hc]
    split at hj
    · rename_i hl
      have := h j _ (List.getElem?_eq_getElem hl)
      rw [if_pos (List.getElem?_eq_some_iff.1 this).1]
      exact hj
    · cases hj
  · rename_i hc
    rw [if_neg hc]
    exact h j v hj

theorem setRange_set {α : Type} {A cs vs : List α} {o k : Nat} (hA : ∀ (j : Nat), j < cs.length → A[o + j]? = cs[j]?) (hk : k + vs.length ≤ cs.length) : setRange A o (setRange cs k vs) = setRange A (o + k) vs := by
  apply List.ext_getElem?
  intro j
  rw [setRange_get, setRange_get, setRange_len, setRange_get]
  by_cases h2 : o ≤ j ∧ j < o + cs.length
  · have hA' := hA (j - o) (by omega)
    rw [show o + (j - o) = j by omega] at hA'
    have hjA : j < A.length := by
      rw [List.getElem?_eq_getElem (show j - o < cs.length by omega)] at hA'
      exact (List.getElem?_eq_some_iff.1 hA').1
    rw [if_pos h2, if_pos hjA]
    by_cases h1 : o + k ≤ j ∧ j < o + k + vs.length
    · rw [if_pos (show k ≤ j - o ∧ j - o < k + vs.length by omega), if_pos (show j - o < cs.length by omega), if_pos h1, if_pos hjA]
      congr 1; omega
    · rw [if_neg (show ¬ (k ≤ j - o ∧ j - o < k + vs.length) by omega), if_neg h1, hA']
  · rw [if_neg h2, if_neg (by omega)]

theorem escs_iff : ∀ (cs : List D), D.escs cs = true ↔ ∀ c ∈ cs, c.esc = true ∧ c.isAgg = false
  | [] => by simp [D.escs]
  | c :: cs => by
    simp only [D.escs, Bool.and_eq_true, Bool.not_eq_true', escs_iff cs, List.mem_cons, forall_eq_or_imp, and_assoc]

theorem escs_set (vs cs : List D) (k : Nat) (h : D.escs cs = true) (hv : D.escs vs = true) : D.escs (setRange cs k vs) = true := by
  rw [escs_iff] at h hv ⊢
  intro c hc
  obtain ⟨j, hj⟩ := List.mem_iff_getElem?.1 hc
  rw [setRange_get] at hj
  split at hj
  · split at hj
    · exact hv c (List.mem_of_getElem? hj)
    · cases hj
  · exact h c (List.mem_of_getElem? hj)

theorem escs_cells {y : D} (he : y.esc = true) : D.escs y.cells = true := by
  cases y <;> simp_all [D.cells, D.escs, D.esc, D.isAgg]

theorem kills_eq (ks : List Nat) : ks.map (fun j => (j, Blk.dead)) = kills ks := rfl

theorem elem_iff : ∀ (l : List Nat) (b : Nat), elem l b = true ↔ b ∈ l
  | [], b => by simp [elem]
  | a :: l, b => by
    simp only [elem, List.mem_cons]
    cases h : Nat.beq a b with
    | true => obtain rfl := Nat.eq_of_beq_eq_true h; simp
    | false =>
      have : b ≠ a := fun e => by subst e; rw [Nat.beq_refl] at h; cases h
      simp [elem_iff l b, this]

section
variable {P : Program} {G : Globs} {R : RP} {w : World} {e : Env} {a : Act} {Hm H' : Heap} {nid : Nat} {o : Oper}

theorem run_storeAt {t : TypeId} {n b off : Nat} {u : Value} {cs : Array Value} {el : TypeId} {fr : Nat × Nat} (hsz : szOf P t = some n) (hn : u.cells.size = n) (hc : w.heap[b]? = some (.cells cs el fr)) (hf : Unfz fr) (hlen : off + n ≤ cs.size) (h1 : ∀ v ∈ u.cells.toList, v.oneCell' = true) :
    (Instr.storeAt t (.pointer (some ⟨b, off, none⟩)) u).run P w = .ok () (w.setCells b off u.cells.toList) := by
  have hst := run_storeCells_cells (P := P) b off u.cells.toList 0 w (fun j hj => by
    rw [cell_of_heap hc]
    have : off + 0 + j < cs.size := by simp at hj; omega
    rw [Array.getElem?_eq_getElem this]; rfl) (fun j _ => hf.not hc _) h1
  simp only [Nat.add_zero] at hst
  simp [Instr.storeAt, Instr.sureAddr, storeVar, run_sizeOf hsz, hn, hst]

theorem opOK_u {s : Sem Unit} {w' : World} {Po : Value → World → Prop} (hx : execOp a.eval o = (do s; pure .skip)) (hr : s.run P w = .ok () w') (hp : Po undef w') : OpOK P o a w Po :=
  .inr (.inl ⟨w', by rw [hx]; simp [hr], hp⟩)

theorem s_store (pre : Pre G R w e a Hm) {t : TypeId} {n : Nat} {x y : Operand} {x' y' : Opd} {up : List (Nat × Blk)} {nw : List Blk} {r : V} (hop : o.op = .store t x y) (hx : okOpd G x x' = true) (hy : okOpd G y y' = true) (hsz : szOf P t = some n)
    (h : storeE Hm n (x'.val e) (y'.val e) = some (r, up, nw)) (hp : Placed R.H up nid nw H') : OpOK P o a w (Post R w nid nw.length H' r) := by
  have hv1 := pre.opd hx
  have hv2 := pre.opd hy
  unfold storeE at h
  split at h
  · rename_i b off hxe
    rw [hxe] at hv1
    cases hb : nth Hm b with
    | none => rw [hb] at h; cases h
    | some blk =>
      rw [hb] at h
      cases blk <;> try (cases h; done)
      rename_i cs
      dsimp only at h
      cases hc : (Nat.beq (y'.val e).cells.length n && Nat.ble (off + n) cs.length && (y'.val e).okb && flats (y'.val e).cells) with
      | false => rw [hc] at h; cases h
      | true =>
        rw [hc] at h
        simp only [cond_true, Option.some.injEq, Prod.mk.injEq] at h
        obtain ⟨rfl, rfl, rfl⟩ := h
        simp only [Bool.and_eq_true, Nat.ble_eq] at hc
        obtain ⟨⟨⟨c1, c2⟩, c3⟩, c4⟩ := hc
        have hcn := Nat.eq_of_beq_eq_true c1
        have hb' := pre.le b _ hb (by simp)
        obtain ⟨c, h1, hpt⟩ := hv1
        rw [nth_eq] at hb'
        obtain ⟨c', cs', el, fr, e1, e2, e3, e4, e5⟩ := pre.ok.blk b _ _ hb' h1
        cases e1
        have hcells := cells_ok hv2 c3
        have hlen := denVs_len _ _ hcells
        simp only [Array.length_toList] at hlen
        have hrun := run_storeAt (P := P) (u := a.eval y) (off := off) hsz (by omega) e2 e3 (by omega) (flat_one _ _ c4 hcells)
        obtain ⟨⟨cs1, g1, g2⟩, g3, g4, g5, g6, g7⟩ := heap_setCells c (a.eval y).cells.toList off w cs' el fr e2
        refine opOK_u (s := Instr.storeAt t (a.eval x) (a.eval y)) (by unfold execOp; rw [hop]) (by rw [hpt]; exact hrun) ?_
        have hl1 : cs1.size = cs'.size := by rw [← Array.length_toList, g1, setRange_len, Array.length_toList]
        refine Post.write (ks := []) pre.ok hb' h1 (by simp [Blk.like]) e2 g2 hl1 g3 g4 g5 g6 g7 (by simp) hp (fun R' hx hL hlv hb0 => ?_) (fun R' hx hM hh => trivial)
        refine ⟨c, cs1, el, fr, rfl, g2, e3, by rw [setRange_len, hl1]; exact e4, fun k v hk => ?_⟩
        rw [setRange_get] at hk
        rw [← Array.getElem?_toList, g1, setRange_get, Array.length_toList, hlen]
        split at hk
        · rename_i hr
          rw [if_pos hr]
          split at hk
          · rename_i hkl
            rw [if_pos (by simp; omega)]
            obtain ⟨u, q1, q2⟩ := denVs_at _ _ _ v hcells hk
            exact ⟨u, q1, hx.denV pre.ok.b01 _ _ q2⟩
          · cases hk
        · rename_i hr
          rw [if_neg hr]
          obtain ⟨u, q1, q2⟩ := e5 k v hk
          exact ⟨u, by simpa using q1, hx.denV pre.ok.b01 _ _ q2⟩
  · rename_i b sz i k hxe
    rw [hxe] at hv1
    cases hb : nth Hm b with
    | none => rw [hb] at h; cases h
    | some blk =>
      rw [hb] at h
      cases blk <;> try (cases h; done)
      rename_i sz' xs
      dsimp only at h
      cases hs : Nat.beq sz sz' with
      | false => rw [hs] at h; cases h
      | true =>
        rw [hs] at h
        obtain rfl := Nat.eq_of_beq_eq_true hs
        simp only [cond_true] at h
        cases hxi : nth xs i with
        | none => rw [hxi] at h; cases h
        | some x0 =>
          cases hfr : fr Hm 6 (y'.val e) with
          | none => rw [hxi, hfr] at h; cases h
          | some q =>
            obtain ⟨z, ks⟩ := q
            rw [hxi, hfr] at h
            dsimp only at h
            cases hel : elem ks b with
            | true => rw [hel] at h; cases h
            | false =>
              rw [hel] at h
              simp only [cond_false] at h
              cases hc : (Nat.beq z.cells.length n && Nat.ble (k + n) x0.cells.length && (V.d z).okb && (x0.isAgg || !z.isAgg)) with
              | false => rw [hc] at h; cases h
              | true =>
                rw [hc] at h
                simp only [cond_true, Option.some.injEq, Prod.mk.injEq] at h
                obtain ⟨rfl, rfl, rfl⟩ := h
                simp only [Bool.and_eq_true, Nat.ble_eq] at hc
                obtain ⟨⟨⟨c1, c2⟩, c3⟩, c4⟩ := hc
                have hcn := Nat.eq_of_beq_eq_true c1
                have hb' := pre.le b _ hb (by simp)
                obtain ⟨c, h1, hpt⟩ := hv1
                rw [nth_eq] at hb' hxi
                have hblk := pre.ok.blk b _ _ hb' h1
                obtain ⟨us, cs, el, hE, e2, e3⟩ := blk_els' hblk
                have hiu : i < us.length := by rw [hE.len]; exact (List.getElem?_eq_some_iff.1 hxi).1
                have hu0 := List.getElem?_eq_getElem hiu
                have hd0 : R.den w x0 us[i] := hE.den i x0 _ hxi hu0
                have hx0e : x0.esc = true := hE.esc x0 (List.mem_of_getElem? hxi)
                have hx0b : (V.d x0).okb = true := by cases x0 <;> simp_all [V.okb, D.esc]
                have hs0 : us[i].cells.size = x0.cells.length := esc_size hx0b hd0
                have hssz : us[i].cells.size = sz := hE.size _ (List.getElem_mem hiu)
                -- the value that is written
                have hvs : ∀ R1 : RP, Less R R1 ks → R1.den w z (a.eval y) ∧ (∀ A0' AL', DenD R1.A1 A0' AL' w z (a.eval y)) ∧ z.esc = true := by
                  intro R1 hL
                  obtain ⟨q1, q2⟩ := frV_esc 6 _ z ks pre hfr hL (fun _ h => h) _ hv2
                  refine ⟨q2 _ _, q2, ?_⟩
                  rcases q1 with q1 | ⟨ts, rfl⟩
                  · exact q1
                  · cases c3
                obtain ⟨hz1, _, hze⟩ := hvs _ (Less.kill R ks)
                have hzs : (a.eval y).cells.size = n := by rw [esc_size c3 hz1]; exact hcn
                have hone := esc_cells hze hz1
                have hcl : us.length * sz ≤ cs.size := by
                  rw [← flat_len us hE.size]
                  rcases Nat.eq_zero_or_pos (cellsOf us).length with hz | hz
                  · omega
                  · have := e3 ((cellsOf us).length - 1) _ (List.getElem?_eq_getElem (by omega))
                    have := (Array.getElem?_eq_some_iff.1 this).1
                    omega
                have hroom : i * sz + k + n ≤ cs.size := by
                  have := Nat.mul_le_mul_right sz (Nat.succ_le_of_lt hiu)
                  rw [Nat.succ_mul] at this
                  omega
                have hrun := run_storeAt (P := P) (u := a.eval y) (off := i * sz + k) hsz hzs e2 (show Unfz (0, 0) from Nat.le_refl _) (by omega) hone
                obtain ⟨⟨cs1, g1, g2⟩, g3, g4, g5, g6, g7⟩ := heap_setCells c (a.eval y).cells.toList (i * sz + k) w cs el (0, 0) e2
                refine opOK_u (s := Instr.storeAt t (a.eval x) (a.eval y)) (by unfold execOp; rw [hop]) (by rw [hpt]; exact hrun) ?_
                have hl1 : cs1.size = cs.size := by rw [← Array.length_toList, g1, setRange_len, Array.length_toList]
                have hbk : b ∉ ks := fun hm => by rw [(elem_iff ks b).2 hm] at hel; cases hel
                refine Post.write (ks := ks) pre.ok hb' h1 (by simp [Blk.like, setAt_eq]) e2 g2 hl1 g3 g4 g5 g6 g7 hbk hp (fun R' hx hL hlv hb0 => ?_) (fun R' hx hM hh => trivial)
                obtain ⟨hz2, hz3, _⟩ := hvs R' hL
                -- the same, in the new world
                have b01' : ∀ c, R'.B0 c → R'.B1 c := fun c hc => by rw [hL.b1]; rw [hb0] at hc; exact pre.ok.b01 c hc
                have hz4 : R'.den (w.setCells c (i * sz + k) (a.eval y).cells.toList) z (a.eval y) := by
                  refine DenD.change R'.A1 R'.A1 R'.A1 R'.A0 (fun _ _ h => h) (fun _ _ h => ⟨h.1, fun h0 => h.2 (b01' _ h0)⟩) (fun _ _ h => h) (fun b' _ hAL => g3 b' fun e => ?_) (by omega) (fun _ h => h.1) (fun _ h => h.1) z _ (hz3 R'.A1 R'.AL)
                  subst e; exact hAL hlv
                have hE' := hE.ext hx pre.ok.b01
                have hd0' : R'.den (w.setCells c (i * sz + k) (a.eval y).cells.toList) x0 us[i] := hE'.den i x0 _ hxi hu0
                -- the element's new value
                have key : ∃ u', R'.den (w.setCells c (i * sz + k) (a.eval y).cells.toList) (bif x0.isAgg then .agg (setRange x0.cells k z.cells) else z) u' ∧ u'.cells.toList = setRange us[i].cells.toList k (a.eval y).cells.toList ∧ (bif x0.isAgg then D.agg (setRange x0.cells k z.cells) else z).esc = true := by
                  cases hagg : x0.isAgg with
                  | true =>
                    cases x0 <;> try (cases hagg; done)
                    rename_i ds
                    obtain ⟨us0, f1, f2⟩ := hd0'
                    have f3 := (denVs_mapd ds us0).2 f2
                    have hzc := cells_ok (R := R') (v := .d z) hz4 c3
                    have hVc : (V.d z).cells = mapd z.cells := by cases z <;> rfl
                    rw [hVc] at hzc
                    have f4 := denVs_set f3 hzc k
                    have f5 : setRange (mapd ds) k (mapd z.cells) = mapd (setRange ds k z.cells) := by
                      apply List.ext_getElem?
                      intro j
                      simp only [mapd_eq, setRange_get, List.getElem?_map, List.length_map]
                      split
                      · split <;> simp
                      · rfl
                    rw [f5, denVs_mapd] at f4
                    refine ⟨.agg (setRange us0 k (a.eval y).cells.toList).toArray, ⟨_, rfl, f4⟩, by simp [Value.cells, f1], ?_⟩
                    exact escs_set _ _ _ hx0e (escs_cells hze)
                  | false =>
                    have hza : z.isAgg = false := by rw [hagg] at c4; simpa using c4
                    have hx1 : x0.cells = [x0] := by cases x0 <;> simp_all [D.cells, D.isAgg]
                    have hz1' : z.cells = [z] := by cases z <;> simp_all [D.cells, D.isAgg]
                    rw [hx1] at c2 hs0
                    rw [hz1'] at hcn
                    simp only [List.length_singleton] at c2 hs0 hcn
                    obtain rfl : k = 0 := by omega
                    refine ⟨a.eval y, hz4, ?_, hze⟩
                    have q1 : us[i].cells.toList.length = 1 := by simpa using hs0
                    have q2 : (a.eval y).cells.toList.length = 1 := by rw [Array.length_toList]; omega
                    obtain ⟨p1, hp1⟩ := List.length_eq_one_iff.1 q1
                    obtain ⟨p2, hp2⟩ := List.length_eq_one_iff.1 q2
                    rw [hp1, hp2]; rfl
                obtain ⟨u', k1, k2, k3⟩ := key
                have hus : u'.cells.size = sz := by rw [← Array.length_toList, k2, setRange_len, Array.length_toList]; exact hssz
                have hEn := hE'.set (i := i) k1 hus k3
                rw [setAt_eq]
                refine Els.blk hEn hblk.1 g2 fun j v hj => ?_
                have hsr : setRange (cellsOf us) (i * sz) (setRange us[i].cells.toList k (a.eval y).cells.toList) = setRange (cellsOf us) (i * sz + k) (a.eval y).cells.toList := by
                  refine setRange_set (fun j hj => ?_) ?_
                  · have hj' : j < us[i].cells.size := by simpa using hj
                    rw [flat_get us hE.size i j us[i] _ hu0 (Array.getElem?_eq_getElem hj'), Array.getElem?_toList, Array.getElem?_eq_getElem hj']
                  · simp only [Array.length_toList]; omega
                rw [← cellsOf_set hE.size hus hiu, k2, hsr] at hj
                rw [← Array.getElem?_toList, g1]
                exact setRange_mono (fun j v hv => by rw [Array.getElem?_toList]; exact e3 j v hv) j v hj
  · cases h
end

/-! ## Maps -/
mutual
theorem eqD_true : ∀ (x y : D), eqD x y = some true → x = y
  | .bool a, y, h => by
    cases y <;> simp only [eqD] at h <;> try (cases h; done)
    simp only [Option.some.injEq, beq_iff_eq] at h; rw [h]
  | .int k a, y, h => by
    cases y <;> simp only [eqD] at h <;> try (cases h; done)
    rename_i k' b
    cases hk : k == k' with
    | false => rw [hk] at h; cases h
    | true =>
      rw [hk] at h
      simp only [cond_true, Option.some.injEq, beq_iff_eq] at h
      rw [h, show k = k' by simpa using hk]
  | .agg xs, y, h => by
    cases y <;> simp only [eqD] at h <;> try (cases h; done)
    rw [eqDs_true xs _ h]
  | .str _, y, h => by cases y <;> cases h
  | .list _ _, y, h => by cases y <;> cases h
  | .tup _, y, h => by cases y <;> cases h
  | .fn _ _, y, h => by cases y <;> cases h
  | .nilfn, y, h => by cases y <;> cases h
  | .rptr _, y, h => by cases y <;> cases h
  | .nilp, y, h => by cases y <;> cases h
  | .iface _ _, y, h => by cases y <;> cases h
  | .nilI, y, h => by cases y <;> cases h
theorem eqDs_true : ∀ (xs ys : List D), eqDs xs ys = some true → xs = ys
  | [], ys, h => by cases ys with | nil => rfl | cons => cases h
  | x :: xs, ys, h => by
    cases ys with
    | nil => cases h
    | cons y ys =>
      simp only [eqDs] at h
      cases h1 : eqD x y with
      | none => rw [h1] at h; cases h
      | some a =>
        cases h2 : eqDs xs ys with
        | none => rw [h1, h2] at h; cases h
        | some b =>
          rw [h1, h2] at h
          simp only [Option.some.injEq, Bool.and_eq_true] at h
          obtain ⟨rfl, rfl⟩ := h
          rw [eqD_true x y h1, eqDs_true xs ys h2]
end

theorem kindsB_flat : ∀ (ks : List Bool) (cs : List D), kindsB ks cs = true → cs.all flat1 = true
  | [], [], _ => rfl
  | [], _ :: _, h => by cases h
  | true :: ks, c :: cs, h => by
    cases c <;> try (cases h; done)
    simpa [flat1] using kindsB_flat ks cs h
  | false :: ks, c :: cs, h => by
    cases c <;> try (cases h; done)
    simpa [flat1] using kindsB_flat ks cs h
  | true :: _, [], h => by cases h
  | false :: _, [], h => by cases h

theorem kindsD_flat {ks : List Bool} {k : D} (h : kindsD ks k = true) : flatK k = true := by
  unfold kindsD at h
  split at h
  · split at h
    · cases h
    · exact kindsB_flat _ _ h
  · rename_i hx
    split at h
    · have := kindsB_flat _ _ h
      cases k <;> simp_all [flatK]
    · cases h

section
variable {A1 A0 AL : Nat → Prop} {w : World}
theorem den_flat {y : D} {u : Value} (hf : flat1 y = true) : DenD A1 A0 AL w y u ↔ u = flatU y := by
  cases y <;> first | (cases hf; done) | exact Iff.rfl
theorem dens_flat : ∀ (cs : List D) (us : List Value), cs.all flat1 = true → (DenDs A1 A0 AL w cs us ↔ us = cs.map flatU)
  | [], us, _ => Iff.rfl
  | c :: cs, us, hf => by
    simp only [List.all_cons, Bool.and_eq_true] at hf
    simp only [DenDs, List.map_cons]
    constructor
    · rintro ⟨u, us', rfl, h1, h2⟩
      rw [(den_flat hf.1).1 h1, (dens_flat cs us' hf.2).1 h2]
    · rintro rfl
      exact ⟨_, _, rfl, (den_flat hf.1).2 rfl, (dens_flat cs _ hf.2).2 rfl⟩
theorem den_key {k : D} {u : Value} (hf : flatK k = true) : DenD A1 A0 AL w k u ↔ u = keyU k := by
  cases k with
  | agg cs =>
    constructor
    · rintro ⟨us, rfl, h⟩
      rw [(dens_flat cs us hf).1 h]; rfl
    · rintro rfl
      exact ⟨_, rfl, (dens_flat cs _ hf).2 rfl⟩
  | bool b => exact den_flat (y := .bool b) rfl
  | int q n => exact den_flat (y := .int q n) rfl
  | _ => cases hf
end

theorem sameBits_flat {y : D} (hf : flat1 y = true) (n : Nat) : Instr.sameBits n (flatU y) (flatU y) = true := by
  cases y <;> first | (cases hf; done) | skip
  all_goals (unfold Instr.sameBits flatU; simp)
theorem sameBits_key {k : D} (hf : flatK k = true) : Instr.sameBits 10000 (keyU k) (keyU k) = true := by
  cases k with
  | agg cs =>
    show Instr.sameBits (9999 + 1) (.agg (cs.map flatU).toArray) (.agg (cs.map flatU).toArray) = true
    unfold Instr.sameBits
    simp only [beq_self_eq_true, Bool.true_and, List.all_eq_true]
    rintro ⟨x, y⟩ hxy
    have hf' : cs.all flat1 = true := hf
    rw [List.all_eq_true] at hf'
    have zz : ∀ (l : List Value), (x, y) ∈ l.zip l → x = y ∧ x ∈ l := fun l => by
      induction l with
      | nil => intro h; cases h
      | cons a l ih =>
        intro h
        rw [List.zip_cons_cons] at h
        rcases List.mem_cons.1 h with h | h
        · cases h; exact ⟨rfl, List.mem_cons_self ..⟩
        · exact ⟨(ih h).1, List.mem_cons_of_mem _ (ih h).2⟩
    obtain ⟨rfl, hx⟩ := zz _ (by simpa using hxy)
    obtain ⟨c, hc, rfl⟩ := List.mem_map.1 hx
    exact sameBits_flat (hf' c hc) _
  | bool b => exact sameBits_flat (y := .bool b) rfl _
  | int k n => exact sameBits_flat (y := .int k n) rfl _
  | _ => cases hf

section
variable {P : Program} {w : World}
theorem run_stays {k : D} (hf : flatK k = true) : (Instr.keyThatStays (keyU k) (keyU k)).run P w = .ok (keyU k) w := by
  unfold Instr.keyThatStays
  rw [if_pos (sameBits_key hf)]; rfl

theorem check_cell {t : TypeId} {b em : Bool} (ht : kindTy P t = some b) (u : Value) (n : Nat) : (Instr.checkKey em (n + 1) t u).run P w = .ok () w := by
  unfold kindTy at ht
  split at ht
  · rename_i hu
    rw [Instr.checkKey]
    simp [run_underlying hu]
  · rename_i k0 hu
    rw [Instr.checkKey]
    simp [run_underlying hu]
  · cases ht

theorem check_fields (em : Bool) (n : Nat) (us : List Value) : ∀ (fs : List Field) (i : Nat) (ks : List Bool) (xs : List D), flatFields P i fs = some ks → kindsB ks xs = true → (∀ (j : Nat) x, xs[j]? = some x → ∃ u, us[i + j]? = some u) →
    (forIn (m := Sem) fs PUnit.unit (fun f _ => do
      if f.name ≠ "_" then Instr.checkKey em (n + 1) f.type (← part f.type us.toArray f.offset)
      pure (ForInStep.yield PUnit.unit))).run P w = .ok PUnit.unit w
  | [], i, ks, xs, _, _, _ => by simp
  | f :: fs, i, ks, xs, hf, hk, h1 => by
    simp only [flatFields] at hf
    cases hc : ((f.name != "_") && Nat.beq f.offset i) with
    | false => rw [hc] at hf; cases hf
    | true =>
      rw [hc] at hf
      simp only [cond_true] at hf
      simp only [Bool.and_eq_true] at hc
      cases hkt : kindTy P f.type with
      | none => rw [hkt] at hf; cases hf
      | some b =>
        rw [hkt] at hf
        cases hff : flatFields P (i + 1) fs with
        | none => rw [hff] at hf; cases hf
        | some ks' =>
          rw [hff] at hf
          simp only [Option.some.injEq] at hf
          subst hf
          cases xs with
          | nil => cases b <;> simp [kindsB] at hk
          | cons x xs =>
            obtain ⟨k1, k2⟩ := kindsB_cons hk
            obtain ⟨u, f1⟩ := h1 0 x rfl
            have hn : f.name ≠ "_" := by simpa using hc.1
            have ho := Nat.eq_of_beq_eq_true hc.2
            simp only [Nat.add_zero] at f1
            have p1 : (part f.type us.toArray f.offset).run P w = .ok u w := by simp [part, run_isAgg (kindTy_agg hkt), ho, f1]
            have p2 := check_cell (P := P) (w := w) (em := em) hkt u n
            have hrest := check_fields em n us fs (i + 1) ks' xs hff k2 (fun j x hj => by have := h1 (j + 1) x (by simpa using hj); rwa [show i + (j + 1) = i + 1 + j from by omega] at this)
            simp only [List.forIn_cons, Sem.run_bind, hn, ne_eq, not_false_eq_true, if_true, Result.andThen_ok, p1, p2, Sem.run_pure]
            exact hrest

theorem run_check {t : TypeId} {ks : List Bool} {k : D} (em : Bool) (ht : eqTy P t = some ks) (hk : kindsD ks k = true) : (Instr.checkKey em 10000 t (keyU k)).run P w = .ok () w := by
  unfold eqTy at ht
  split at ht
  · rename_i hu
    exact check_cell (b := true) (by unfold kindTy; rw [hu]) _ 9999
  · rename_i q hu
    exact check_cell (b := false) (by unfold kindTy; rw [hu]) _ 9999
  · rename_i fs hu
    cases hg : (!(Nat.beq fs.toList.length 1) && (!(P.stoodInHeld t) && !(P.eqGuardType P.depth t))) with
    | false => rw [hg] at ht; cases ht
    | true =>
      rw [hg] at ht
      simp only [cond_true] at ht
      have hl := flatFields_len _ _ _ ht
      have hk' : ∃ cs, k = .agg cs ∧ kindsB ks cs = true := by
        unfold kindsD at hk
        split at hk
        · split at hk
          · cases hk
          · exact ⟨_, rfl, hk⟩
        · split at hk
          · rw [← hl] at hg; cases hg
          · cases hk
      obtain ⟨cs, rfl, hkb⟩ := hk'
      show (Instr.checkKey em (9998 + 1 + 1) t (.agg (cs.map flatU).toArray)).run P w = .ok () w
      rw [Instr.checkKey]
      simp only [Sem.run_bind, run_underlying hu, Result.andThen_ok]
      rw [← Array.forIn_toList]
      have := check_fields (P := P) (w := w) em 9998 (cs.map flatU) fs.toList 0 ks cs ht hkb (fun j x hj => ⟨flatU x, by simp [hj]⟩)
      refine (congrArg (fun r => Result.andThen r _) this).trans ?_
      rfl
  · cases ht

/-- what is found, and what is put -/
inductive Found (es : List (D × D)) (k : D) : Option D → Prop where
  | no : (∀ v, setM es k v = some (es ++ [(k, v)])) → Found es k none
  | yes (j : Nat) (y : D) : es[j]? = some (k, y) → (∀ v, setM es k v = some (es.set j (k, v))) → Found es k (some y)

def kv (e : MapEntry) : Value × Value := (e.key, e.val)
def kvU (q : D × D) : Value × Value := (keyU q.1, flatU q.2)

theorem findNow_ok {q kd : IntKind} {n : Int} : ∀ (es : List (D × D)) (mes : List MapEntry) (i : Nat) (r : Option D), mes.map kv = es.map kvU → findM es (.int kd n) = some r →
    (r = none ∧ Instr.findNow (.int q) (.int kd n) mes i = some none ∧ ∀ v, setM es (.int kd n) v = some (es ++ [(.int kd n, v)])) ∨
    ∃ j y, r = some y ∧ es[j]? = some (.int kd n, y) ∧ Instr.findNow (.int q) (.int kd n) mes i = some (some (i + j, flatU y)) ∧ ∀ v, setM es (.int kd n) v = some (es.set j (.int kd n, v))
  | [], mes, i, r, hm, h => by
    cases mes with
    | cons => simp at hm
    | nil =>
      simp only [findM, Option.some.injEq] at h
      subst h
      exact .inl ⟨rfl, rfl, fun v => rfl⟩
  | (a, x) :: es, mes, i, r, hm, h => by
    cases mes with
    | nil => simp at hm
    | cons e mes =>
      simp only [List.map_cons, List.cons.injEq] at hm
      obtain ⟨hm1, hm2⟩ := hm
      simp only [kv, kvU, Prod.mk.injEq] at hm1
      simp only [findM] at h
      cases a <;> try (cases h; done)
      rename_i kd' m
      cases hk : kd == kd' with
      | false => simp only [eqD, hk, cond_false] at h; cases h
      | true =>
        obtain rfl : kd = kd' := by simpa using hk
        simp only [eqD, hk, cond_true] at h
        have hkey : e.key = .int kd m := hm1.1
        cases hb : n == m with
        | true =>
          rw [hb] at h
          simp only [Option.some.injEq] at h
          subst h
          obtain rfl : n = m := by simpa using hb
          refine .inr ⟨0, x, rfl, rfl, ?_, fun v => ?_⟩
          · simp [Instr.findNow, Instr.sameNow, hkey, hm1.2]
          · simp [setM, eqD, hk]
        | false =>
          rw [hb] at h
          simp only at h
          rcases findNow_ok (q := q) es mes (i + 1) r hm2 h with ⟨rfl, h1, h2⟩ | ⟨j, y, rfl, h1, h2, h3⟩
          · refine .inl ⟨rfl, ?_, fun v => ?_⟩
            · simp [Instr.findNow, Instr.sameNow, hkey, hb, h1]
            · simp only [setM, eqD, hk, cond_true, hb]
              rw [h2]; rfl
          · refine .inr ⟨j + 1, y, rfl, by simpa using h1, ?_, fun v => ?_⟩
            · simp only [Instr.findNow, Instr.sameNow, hkey, if_true, hb, h2]
              rw [show i + (j + 1) = i + 1 + j by omega]
            · simp only [setM, eqD, hk, cond_true, hb]
              rw [h3]; rfl

theorem eq_agg {R : RP} {t : TypeId} {ks : List Bool} (ht : eqTy P t = some ks) {cs cs' : List D} (hk : kindsD ks (.agg cs) = true) {r : Bool} (h : eqD (.agg cs) (.agg cs') = some r) (hf : cs'.all flat1 = true) : (Op.equal t (keyU (.agg cs)) (keyU (.agg cs'))).run P w = .ok r w := by
  have hk' : (∀ b, ks ≠ [b]) ∧ kindsB ks cs = true := by
    unfold kindsD at hk
    dsimp only at hk
    split at hk
    · cases hk
    · rename_i hn; exact ⟨fun b hb => hn b hb, hk⟩
  obtain ⟨hn1, hk1⟩ := hk'
  have hf1 := kindsB_flat _ _ hk1
  simp only [eqD] at h
  unfold eqTy at ht
  split at ht
  · cases ht; exact absurd rfl (hn1 _)
  · cases ht; exact absurd rfl (hn1 _)
  · rename_i fs hu
    cases hg' : (!(Nat.beq fs.toList.length 1) && (!(P.stoodInHeld t) && !(P.eqGuardType P.depth t))) with
    | false => rw [hg'] at ht; cases ht
    | true =>
      rw [hg'] at ht
      simp only [cond_true] at ht
      simp only [Bool.and_eq_true, Bool.not_eq_true'] at hg'
      obtain ⟨_, hg⟩ := hg'
      have hfs : P.fieldsOf t = fs := by unfold Program.fieldsOf; rw [hu]
      have e2 : DenDs R.A1 R.A0 R.AL w cs (cs.map flatU) := (dens_flat cs _ hf1).2 rfl
      have e4 : DenDs R.A1 R.A0 R.AL w cs' (cs'.map flatU) := (dens_flat cs' _ hf).2 rfl
      show (Op.equalIn 10000 t (.agg (cs.map flatU).toArray) (.agg (cs'.map flatU).toArray)).run P w = .ok r w
      rw [run_equalIn_struct w 9999 t _ _ (by rw [hfs]; exact hu) hg.1, hfs]
      exact eq_fields (R := R) 9998 _ _ fs.toList 0 ks cs cs' r ht hk1 h (fun j x hj => by simpa using denDs_at cs _ j x e2 hj) (fun j x hj => by simpa using denDs_at cs' _ j x e4 hj)
  · cases ht

theorem findAsk_ok (R : RP) {t : TypeId} {ks : List Bool} (ht : eqTy P t = some ks) {cs : List D} (hk : kindsD ks (.agg cs) = true) : ∀ (es : List (D × D)) (mes : List MapEntry) (i : Nat) (r : Option D), mes.map kv = es.map kvU → (∀ q ∈ es, flatK q.1 = true) → findM es (.agg cs) = some r →
    (r = none ∧ (Instr.findAsking t (keyU (.agg cs)) mes i).run P w = .ok none w ∧ ∀ v, setM es (.agg cs) v = some (es ++ [(.agg cs, v)])) ∨
    ∃ j y, r = some y ∧ es[j]? = some (.agg cs, y) ∧ (Instr.findAsking t (keyU (.agg cs)) mes i).run P w = .ok (some (i + j, flatU y)) w ∧ ∀ v, setM es (.agg cs) v = some (es.set j (.agg cs, v))
  | [], mes, i, r, hm, _, h => by
    cases mes with
    | cons => simp at hm
    | nil =>
      simp only [findM, Option.some.injEq] at h
      subst h
      exact .inl ⟨rfl, by simp [Instr.findAsking], fun v => rfl⟩
  | (a, x) :: es, mes, i, r, hm, hfl, h => by
    cases mes with
    | nil => simp at hm
    | cons e mes =>
      simp only [List.map_cons, List.cons.injEq] at hm
      obtain ⟨hm1, hm2⟩ := hm
      simp only [kv, kvU, Prod.mk.injEq] at hm1
      simp only [findM] at h
      cases he : eqD (.agg cs) a with
      | none => rw [he] at h; cases h
      | some b =>
        rw [he] at h
        have ha : ∃ cs', a = .agg cs' := by cases a <;> first | (cases he; done) | exact ⟨_, rfl⟩
        obtain ⟨cs', rfl⟩ := ha
        have heq := eq_agg (P := P) (w := w) (R := R) ht hk he (hfl _ (List.mem_cons_self ..))
        rw [← hm1.1] at heq
        cases b with
        | true =>
          simp only [Option.some.injEq] at h
          subst h
          have := eqD_true _ _ he
          refine .inr ⟨0, x, rfl, by rw [← this]; rfl, ?_, fun v => ?_⟩
          · simp [Instr.findAsking, heq, hm1.2]
          · simp only [setM, he]; rw [← this]; rfl
        | false =>
          simp only at h
          rcases findAsk_ok R ht hk es mes (i + 1) r hm2 (fun q hq => hfl q (List.mem_cons_of_mem _ hq)) h with ⟨rfl, h1, h2⟩ | ⟨j, y, rfl, h1, h2, h3⟩
          · refine .inl ⟨rfl, ?_, fun v => ?_⟩
            · simp [Instr.findAsking, heq, h1]
            · simp only [setM, he]
              rw [h2]; rfl
          · refine .inr ⟨j + 1, y, rfl, by simpa using h1, ?_, fun v => ?_⟩
            · simp only [Instr.findAsking, Sem.run_bind, heq, Result.andThen_ok, h2, Bool.false_eq_true, if_false]
              rw [show i + (j + 1) = i + 1 + j by omega]
            · simp only [setM, he]
              rw [h3]; rfl

theorem find_ok (R : RP) {t : TypeId} {ks : List Bool} (ht : eqTy P t = some ks) (hne : ks ≠ [true]) {k : D} (hk : kindsD ks k = true) {es : List (D × D)} {mes : List MapEntry} {r : Option D} (hm : mes.map kv = es.map kvU) (hfl : ∀ q ∈ es, flatK q.1 = true) (h : findM es k = some r) :
    (r = none ∧ (Instr.findKey t (keyU k) mes).run P w = .ok none w ∧ ∀ v, setM es k v = some (es ++ [(k, v)])) ∨
    ∃ j y, r = some y ∧ es[j]? = some (k, y) ∧ (Instr.findKey t (keyU k) mes).run P w = .ok (some (j, flatU y)) w ∧ ∀ v, setM es k v = some (es.set j (k, v)) := by
  cases hag : k.isAgg with
  | true =>
    cases k <;> try (cases hag; done)
    rename_i cs
    have hu : ∃ fs, P.underlying t = some (.struct fs) := by
      unfold kindsD at hk
      dsimp only at hk
      unfold eqTy at ht
      split at ht
      · cases ht; cases hk
      · cases ht; cases hk
      · exact ⟨_, by assumption⟩
      · cases ht
    obtain ⟨fs, hu⟩ := hu
    have key : (Instr.findKey t (keyU (.agg cs)) mes).run P w = (Instr.findAsking t (keyU (.agg cs)) mes 0).run P w := by
      unfold Instr.findKey
      simp only [Sem.run_bind, run_underlying hu, Result.andThen_ok]
      cases mes with
      | nil => simp [Instr.findNow, Instr.findAsking]
      | cons e mes => simp [Instr.findNow, Instr.sameNow]
    rw [key]
    rcases findAsk_ok (P := P) (w := w) R ht hk es mes 0 r hm hfl h with h1 | ⟨j, y, h1, h2, h3, h4⟩
    · exact .inl h1
    · exact .inr ⟨j, y, h1, h2, by simpa using h3, h4⟩
  | false =>
    have hk1 : ∃ b, ks = [b] ∧ kindsB [b] [k] = true := by
      unfold kindsD at hk
      split at hk
      · cases hag
      · split at hk
        · exact ⟨_, rfl, hk⟩
        · cases hk
    obtain ⟨b, rfl, hkb⟩ := hk1
    cases b with
    | true => exact absurd rfl hne
    | false =>
      cases k <;> try (cases hkb; done)
      rename_i kd n
      have hu : ∃ q, P.underlying t = some (.int q) := by
        unfold eqTy at ht
        split at ht
        · cases ht
        · exact ⟨_, by assumption⟩
        · rename_i fs hu
          cases hg : (!(Nat.beq fs.toList.length 1) && (!(P.stoodInHeld t) && !(P.eqGuardType P.depth t))) with
          | false => rw [hg] at ht; cases ht
          | true =>
            rw [hg] at ht
            simp only [cond_true] at ht
            rw [← flatFields_len _ _ _ ht] at hg
            cases hg
        · cases ht
      obtain ⟨q, hu⟩ := hu
      have key : ∀ x, Instr.findNow (.int q) (.int kd n) mes 0 = some x → (Instr.findKey t (keyU (.int kd n)) mes).run P w = .ok x w := fun x hx => by
        unfold Instr.findKey
        simp only [Sem.run_bind, run_underlying hu, Result.andThen_ok]
        show (match Instr.findNow (.int q) (.int kd n) mes 0 with | some r => (pure r : Sem _) | none => Instr.findAsking t (.int kd n) mes).run P w = .ok x w
        rw [hx]; rfl
      rcases findNow_ok (q := q) es mes 0 r hm h with ⟨h1, h2, h3⟩ | ⟨j, y, h1, h2, h3, h4⟩
      · exact .inl ⟨h1, key _ h2, h3⟩
      · exact .inr ⟨j, y, h1, h2, by have := key _ h3; simpa using this, h4⟩

theorem setM_find : ∀ (es : List (D × D)) (k v : D) (l : List (D × D)), setM es k v = some l → ∃ r, findM es k = some r
  | [], k, v, l, _ => ⟨none, rfl⟩
  | (a, x) :: es, k, v, l, h => by
    simp only [setM] at h
    simp only [findM]
    cases he : eqD k a with
    | none => rw [he] at h; cases h
    | some b =>
      rw [he] at h
      cases b with
      | true => exact ⟨_, rfl⟩
      | false =>
        simp only at h
        cases hs : setM es k v with
        | none => rw [hs] at h; cases h
        | some l' => exact setM_find es k v l' hs
end

/-- a map's type: its keys' kinds, its elements' zero -/
def mapTy (P : Program) (t : TypeId) (ks : List Bool) (z : Option D) : Bool :=
  match P.underlying t with
  | some (.map k el) => (match eqTy P k with | some l => l == ks | none => false) && (!(ks == [true]) && (match z with | none => true | some z => (match zeroOf P el with | some zv => cv (.d z) zv | none => false)))
  | _ => false
theorem mapTy_spec {P : Program} {t : TypeId} {ks : List Bool} {z : Option D} (h : mapTy P t ks z = true) : ∃ k el, P.underlying t = some (.map k el) ∧ eqTy P k = some ks ∧ ks ≠ [true] ∧ ∀ z', z = some z' → ∃ zv, zeroOf P el = some zv ∧ cv (.d z') zv = true := by
  unfold mapTy at h
  split at h
  · rename_i k el hu
    simp only [Bool.and_eq_true, Bool.not_eq_true', beq_eq_false_iff_ne, ne_eq] at h
    obtain ⟨h1, h2, h3⟩ := h
    refine ⟨k, el, hu, ?_, h2, ?_⟩
    · split at h1
      · rename_i l hl; rw [hl]; rw [show l = ks by simpa using h1]
      · cases h1
    · rintro z' rfl
      dsimp only at h3
      split at h3
      · rename_i zv hz; exact ⟨zv, hz, h3⟩
      · cases h3
  · cases h

section
variable {P : Program} {G : Globs} {R : RP} {w : World} {e : Env} {a : Act} {Hm H' : Heap} {nid : Nat} {o : Oper}

theorem s_mkmap (pre : Pre G R w e a Hm) {t : TypeId} {r : Option Operand} (hop : o.op = .makeMap t r) (hr : r = none) (hn : R.M nid = none) (hp : Placed R.H [] nid [.mp []] H') : OpOK P o a w (Post R w nid 1 H' (.mp nid)) := by
  subst hr
  refine opOK_v (s := Instr.makeMap t none) (u := .map (some w.heap.size)) (w' := w.alloc (.map #[] 0)) (by unfold execOp; rw [hop]; rfl) (by simp [Instr.makeMap]) ?_
  refine Post.new (m := some w.heap.size) _ pre.ok hp hn (.inr rfl) fun R' hx hM hH => ⟨⟨_, rfl, ⟨#[], 0, heap_new w _, rfl⟩, by simp⟩, fun _ => ⟨⟨_, rfl⟩, _, hM, fun es _ => ⟨_, rfl, rfl⟩⟩⟩

theorem map_at (pre : Pre G R w e a Hm) {x : Operand} {x' : Opd} {b : Nat} {es : List (D × D)} (hx : okOpd G x x' = true) (he : x'.val e = .mp b) (hb : nth Hm b = some (.mp es)) :
    ∃ c, a.eval x = .map (some c) ∧ R.H[b]? = some (.mp es) ∧ R.M b = some (some c) ∧ ∃ mes clock, w.heap[c]? = some (.map mes clock) ∧ mes.toList.map kv = es.map kvU ∧ ∀ q ∈ es, flatK q.1 = true ∧ flat1 q.2 = true := by
  have hv := pre.opd hx
  rw [he] at hv
  have hb' := pre.le b _ hb (by simp)
  obtain ⟨_, m, h1, h2⟩ := hv
  obtain ⟨c, rfl, hpt⟩ := h2 es hb'
  rw [nth_eq] at hb'
  obtain ⟨c', e1, ⟨mes, clock, e2, e3⟩, e4⟩ := pre.ok.blk b _ _ hb' h1
  cases e1
  exact ⟨c, hpt, hb', h1, mes, clock, e2, e3, e4⟩

theorem s_mapget (pre : Pre G R w e a Hm) {t : TypeId} {ks : List Bool} {z r : D} {m k : Operand} {m' k' : Opd} (hop : o.op = .lookup t m k false) (hm : okOpd G m m' = true) (hk : okOpd G k k' = true) (ht : mapTy P t ks (some z) = true)
    (h : mapgetE Hm ks z (m'.val e) (k'.val e) = some r) (hp : Placed R.H [] nid [] H') : OpOK P o a w (Post R w nid 0 H' (.d r)) := by
  obtain ⟨kt, el, hu, hkt, hne, hz⟩ := mapTy_spec ht
  obtain ⟨zv, hz1, hz2⟩ := hz z rfl
  unfold mapgetE at h
  split at h
  · rename_i b k0 he hke
    split at h
    · rename_i es hb
      split at h
      · rename_i hkd
        obtain ⟨c, h1, h2, h3, mes, clock, h4, h5, h6⟩ := map_at pre hm he hb
        have hkv := pre.opd hk
        rw [hke] at hkv
        have hku := (den_key (kindsD_flat hkd)).1 hkv
        unfold getM at h
        have hzv : (zeroValue el).run P w = .ok zv w := by
          unfold zeroOf at hz1
          cases hi : P.info? el with
          | none => rw [hi] at hz1; cases hz1
          | some i => rw [hi] at hz1; simp [zeroValue, typeInfo, hi, hz1]
        cases hfm : findM es k0 with
        | none => rw [hfm] at h; cases h
        | some q =>
          rw [hfm] at h
          rcases find_ok (P := P) (w := w) R hkt hne hkd h5 (fun q hq => (h6 q hq).1) hfm with ⟨rfl, g1, _⟩ | ⟨j, y, rfl, g1, g2, _⟩
          · simp only [Option.some.injEq] at h
            subst h
            refine opOK_v (s := Instr.lookup t (a.eval m) (a.eval k) false) (u := zv) (w' := w) (by unfold execOp; rw [hop]) ?_ (Post.stay pre.ok hp (cv_ok _ _ hz2))
            rw [h1, hku]
            simp [Instr.lookup, run_underlying hu, MapKept.run_getObj_map h4, run_check _ hkt hkd, g1, hzv]
          · simp only [Option.some.injEq] at h
            subst h
            refine opOK_v (s := Instr.lookup t (a.eval m) (a.eval k) false) (u := flatU y) (w' := w) (by unfold execOp; rw [hop]) ?_ (Post.stay pre.ok hp ((den_flat (h6 _ (List.mem_of_getElem? g1)).2).2 rfl))
            rw [h1, hku]
            simp [Instr.lookup, run_underlying hu, MapKept.run_getObj_map h4, run_check _ hkt hkd, g2]
      · cases h
    · cases h
  · cases h

theorem s_mapset (pre : Pre G R w e a Hm) {t : TypeId} {ks : List Bool} {m k x : Operand} {m' k' x' : Opd} {up : List (Nat × Blk)} {nw : List Blk} {r : V} (hop : o.op = .mapUpdate t m k x) (hm : okOpd G m m' = true) (hk : okOpd G k k' = true) (hx : okOpd G x x' = true) (ht : mapTy P t ks none = true)
    (h : mapsetE Hm ks (m'.val e) (k'.val e) (x'.val e) = some (r, up, nw)) (hp : Placed R.H up nid nw H') : OpOK P o a w (Post R w nid nw.length H' r) := by
  obtain ⟨kt, el, hu, hkt, hne, _⟩ := mapTy_spec ht
  unfold mapsetE at h
  split at h
  · rename_i b k0 y he hke hxe
    split at h
    · rename_i es hb
      split at h
      · rename_i hkd
        simp only [Bool.and_eq_true] at hkd
        obtain ⟨hkd, hy⟩ := hkd
        split at h
        · rename_i l hs
          simp only [Option.some.injEq, Prod.mk.injEq] at h
          obtain ⟨rfl, rfl, rfl⟩ := h
          obtain ⟨c, h1, h2, h3, mes, clock, h4, h5, h6⟩ := map_at pre hm he hb
          have hkv := pre.opd hk
          rw [hke] at hkv
          have hku := (den_key (kindsD_flat hkd)).1 hkv
          have hxv := pre.opd hx
          rw [hxe] at hxv
          have hxu := (den_flat hy).1 hxv
          obtain ⟨q, hq⟩ := setM_find _ _ _ _ hs
          have hcs : c < w.heap.size := (Array.getElem?_eq_some_iff.1 h4).1
          have fin : ∀ mes' clock', (Instr.mapUpdate t (a.eval m) (a.eval k) (a.eval x)).run P w = .ok () { w with heap := w.heap.setIfInBounds c (.map mes' clock') } → mes'.toList.map kv = l.map kvU → (∀ q ∈ l, flatK q.1 = true ∧ flat1 q.2 = true) →
              OpOK P o a w (Post R w nid 0 H' .bad) := by
            intro mes' clock' hrun g1 g2
            refine opOK_u (s := Instr.mapUpdate t (a.eval m) (a.eval k) (a.eval x)) (by unfold execOp; rw [hop]) hrun ?_
            refine Post.writeM (ks := []) (old := .mp es) (blk := .mp l) pre.ok h2 h3 (by simp [Blk.like]) h4 (fun c' hc' => ?_) ?_ rfl rfl rfl (by simp) hp (fun R' hx hL hlv hb0 => ?_) (fun R' hx hM hh => trivial)
            · show (w.heap.setIfInBounds c _)[c']? = w.heap[c']?
              rw [Array.getElem?_setIfInBounds, if_neg (fun h => hc' h.symm)]
            · show (w.heap.setIfInBounds c _).size = w.heap.size
              simp
            · refine ⟨c, rfl, ⟨mes', clock', ?_, g1⟩, g2⟩
              show (w.heap.setIfInBounds c _)[c]? = _
              rw [Array.getElem?_setIfInBounds, if_pos rfl, if_pos hcs]
          rcases find_ok (P := P) (w := w) R hkt hne hkd h5 (fun q hq => (h6 q hq).1) hq with ⟨rfl, g1, g2⟩ | ⟨j, y0, rfl, g1, g2, g3⟩
          · rw [g2 y] at hs
            cases hs
            refine fin (mes.push ⟨keyU k0, flatU y, clock⟩) (clock + 1) ?_ ?_ ?_
            · rw [h1, hku, hxu]
              simp [Instr.mapUpdate, run_underlying hu, MapKept.run_getObj_map h4, run_check _ hkt hkd, g1, MapKept.run_setObj_map _ h4]
            · simp only [Array.toList_push, List.map_append, h5, List.map_singleton]; rfl
            · intro q hq
              rcases List.mem_append.1 hq with hq | hq
              · exact h6 q hq
              · rw [List.mem_singleton.1 hq]; exact ⟨kindsD_flat hkd, hy⟩
          · rw [g3 y] at hs
            cases hs
            have hkj : ∃ e0, mes[j]? = some e0 ∧ e0.key = keyU k0 := by
              have : (mes.toList.map kv)[j]? = (es.map kvU)[j]? := by rw [h5]
              rw [List.getElem?_map, List.getElem?_map, g1] at this
              cases he0 : mes.toList[j]? with
              | none => rw [he0] at this; cases this
              | some e0 =>
                rw [he0] at this
                simp only [Option.map_some, Option.some.injEq, kv, kvU, Prod.mk.injEq] at this
                exact ⟨e0, by simpa using he0, this.1⟩
            obtain ⟨e0, k1, k2⟩ := hkj
            refine fin (mes.modify j fun e => { e with key := keyU k0, val := flatU y }) clock ?_ ?_ ?_
            · rw [h1, hku, hxu]
              simp [Instr.mapUpdate, run_underlying hu, MapKept.run_getObj_map h4, run_check _ hkt hkd, g2, k1, k2, run_stays (kindsD_flat hkd), MapKept.run_setObj_map _ h4]
            · apply List.ext_getElem?
              intro i
              have hi : (mes.toList.map kv)[i]? = (es.map kvU)[i]? := by rw [h5]
              simp only [List.getElem?_map, Array.getElem?_toList, Array.getElem?_modify, List.getElem?_set] at hi ⊢
              by_cases hji : j = i
              · subst hji
                rw [if_pos rfl, if_pos rfl, k1, if_pos (List.getElem?_eq_some_iff.1 g1).1]
                rfl
              · rw [if_neg hji, if_neg hji]; exact hi
            · intro q hq
              rcases List.mem_or_eq_of_mem_set hq with hq | hq
              · exact h6 q hq
              · rw [hq]; exact ⟨kindsD_flat hkd, hy⟩
        · cases h
      · cases h
    · cases h
  · cases h
end

end Go.Proofs.YtljgncbdagmeeaaDoorE
