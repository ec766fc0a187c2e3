/- Variables are written, slices appended to. -/
import Derived.Test.YtakebhleglnpjaaDoorE15
namespace Go.Proofs.YtakebhleglnpjaaDoorE
open Go
set_option linter.unusedVariables false
set_option linter.unusedSimpArgs false

theorem setRange_mono {α : Type} {A B vs : List α} {o : Nat} (h : ∀ (j : Nat) v, A[j]? = some v → B[j]? = some v) : ∀ (j : Nat) v, (setRange A o vs)[j]? = some v → (setRange B o vs)[j]? = some v := by
  intro j v hj
  rw [setRange_get] at hj ⊢
  split at hj
  · rename_i hc
    rw [if_pos hc]
    split at hj
    · rename_i hl
      have := h j _ (List.getElem?_eq_getElem hl)
      rw [if_pos (List.getElem?_eq_some_iff.1 this).1]
      exact hj
    · cases hj
  · rename_i hc
    rw [if_neg hc]
    exact h j v hj

theorem setRange_set {α : Type} {A cs vs : List α} {o k : Nat} (hA : ∀ (j : Nat), j < cs.length → A[o + j]? = cs[j]?) (hk : k + vs.length ≤ cs.length) : setRange A o (setRange cs k vs) = setRange A (o + k) vs := by
  apply List.ext_getElem?
  intro j
  rw [setRange_get, setRange_get, setRange_len, setRange_get]
  by_cases h2 : o ≤ j ∧ j < o + cs.length
  · have hA' := hA (j - o) (by omega)
    rw [show o + (j - o) = j by omega] at hA'
    have hjA : j < A.length := by
      rw [List.getElem?_eq_getElem (show j - o < cs.length by omega)] at hA'
      exact (List.getElem?_eq_some_iff.1 hA').1
    rw [if_pos h2, if_pos hjA]
    by_cases h1 : o + k ≤ j ∧ j < o + k + vs.length
    · rw [if_pos (show k ≤ j - o ∧ j - o < k + vs.length by omega), if_pos (show j - o < cs.length by omega), if_pos h1, if_pos hjA]
      congr 1; omega
    · rw [if_neg (show ¬ (k ≤ j - o ∧ j - o < k + vs.length) by omega), if_neg h1, hA']
  · rw [if_neg h2, if_neg (by omega)]

theorem escs_iff : ∀ (cs : List D), D.escs cs = true ↔ ∀ c ∈ cs, c.esc = true ∧ c.isAgg = false
  | [] => by simp [D.escs]
  | c :: cs => by
    simp only [D.escs, Bool.and_eq_true, Bool.not_eq_true', escs_iff cs, List.mem_cons, forall_eq_or_imp, and_assoc]

theorem escs_set (vs cs : List D) (k : Nat) (h : D.escs cs = true) (hv : D.escs vs = true) : D.escs (setRange cs k vs) = true := by
  rw [escs_iff] at h hv ⊢
  intro c hc
  obtain ⟨j, hj⟩ := List.mem_iff_getElem?.1 hc
  rw [setRange_get] at hj
  split at hj
  · split at hj
    · exact hv c (List.mem_of_getElem? hj)
    · cases hj
  · exact h c (List.mem_of_getElem? hj)

theorem escs_cells {y : D} (he : y.esc = true) : D.escs y.cells = true := by
  cases y <;> simp_all [D.cells, D.escs, D.esc, D.isAgg]

theorem kills_eq (ks : List Nat) : ks.map (fun j => (j, Blk.dead)) = kills ks := rfl

theorem elem_iff : ∀ (l : List Nat) (b : Nat), elem l b = true ↔ b ∈ l
  | [], b => by simp [elem]
  | a :: l, b => by
    simp only [elem, List.mem_cons]
    cases h : Nat.beq a b with
    | true => obtain rfl := Nat.eq_of_beq_eq_true h; simp
    | false =>
      have : b ≠ a := fun e => by subst e; rw [Nat.beq_refl] at h; cases h
      simp [elem_iff l b, this]

section
variable {P : Program} {G : Globs} {R : RP} {w : World} {e : Env} {a : Act} {Hm H' : Heap} {nid : Nat} {o : Oper}

theorem run_storeAt {t : TypeId} {n b off : Nat} {u : Value} {cs : Array Value} {el : TypeId} {fr : Nat × Nat} (hsz : szOf P t = some n) (hn : u.cells.size = n) (hc : w.heap[b]? = some (.cells cs el fr)) (hf : Unfz fr) (hlen : off + n ≤ cs.size) (h1 : ∀ v ∈ u.cells.toList, v.oneCell' = true) :
    (Instr.storeAt t (.pointer (some ⟨b, off, none⟩)) u).run P w = .ok () (w.setCells b off u.cells.toList) := by
  have hst := run_storeCells_cells (P := P) b off u.cells.toList 0 w (fun j hj => by
    rw [cell_of_heap hc]
    have : off + 0 + j < cs.size := by simp at hj; omega
    rw [Array.getElem?_eq_getElem this]; rfl) (fun j _ => hf.not hc _) h1
  simp only [Nat.add_zero] at hst
  simp [Instr.storeAt, Instr.sureAddr, storeVar, run_sizeOf hsz, hn, hst]

theorem opOK_u {s : Sem Unit} {w' : World} {Po : Value → World → Prop} (hx : execOp a.eval o = (do s; pure .skip)) (hr : s.run P w = .ok () w') (hp : Po undef w') : OpOK P o a w Po :=
  .inr (.inl ⟨w', by rw [hx]; simp [hr], hp⟩)

theorem s_store (pre : Pre G R w e a Hm) {t : TypeId} {n : Nat} {x y : Operand} {x' y' : Opd} {up : List (Nat × Blk)} {nw : List Blk} {r : V} (hop : o.op = .store t x y) (hx : okOpd G x x' = true) (hy : okOpd G y y' = true) (hsz : szOf P t = some n)
    (h : storeE Hm n (x'.val e) (y'.val e) = some (r, up, nw)) (hp : Placed R.H up nid nw H') : OpOK P o a w (Post R w nid nw.length H' r) := by
  have hv1 := pre.opd hx
  have hv2 := pre.opd hy
  unfold storeE at h
  split at h
  · rename_i b off hxe
    rw [hxe] at hv1
    cases hb : nth Hm b with
    | none => rw [hb] at h; cases h
    | some blk =>
      rw [hb] at h
      cases blk <;> try (cases h; done)
      rename_i cs
      dsimp only at h
      cases hc : (Nat.beq (y'.val e).cells.length n && Nat.ble (off + n) cs.length && (y'.val e).okb && flats (y'.val e).cells) with
      | false => rw [hc] at h; cases h
      | true =>
        rw [hc] at h
        simp only [cond_true, Option.some.injEq, Prod.mk.injEq] at h
        obtain ⟨rfl, rfl, rfl⟩ := h
        simp only [Bool.and_eq_true, Nat.ble_eq] at hc
        obtain ⟨⟨⟨c1, c2⟩, c3⟩, c4⟩ := hc
        have hcn := Nat.eq_of_beq_eq_true c1
        have hb' := pre.le b _ hb (by simp)
        obtain ⟨_, m, h1, h2⟩ := hv1
        obtain ⟨c, rfl, hpt⟩ := h2 cs hb'
        rw [nth_eq] at hb'
        obtain ⟨c', cs', el, fr, e1, e2, e3, e4, e5⟩ := pre.ok.blk b _ _ hb' h1
        cases e1
        have hcells := cells_ok hv2 c3
        have hlen := denVs_len _ _ hcells
        simp only [Array.length_toList] at hlen
        have hrun := run_storeAt (P := P) (u := a.eval y) (off := off) hsz (by omega) e2 e3 (by omega) (flat_one _ _ c4 hcells)
        obtain ⟨⟨cs1, g1, g2⟩, g3, g4, g5, g6, g7⟩ := heap_setCells c (a.eval y).cells.toList off w cs' el fr e2
        refine opOK_u (s := Instr.storeAt t (a.eval x) (a.eval y)) (by unfold execOp; rw [hop]) (by rw [hpt]; exact hrun) ?_
        have hl1 : cs1.size = cs'.size := by rw [← Array.length_toList, g1, setRange_len, Array.length_toList]
        refine Post.write (ks := []) pre.ok hb' h1 (by simp [Blk.like]) e2 g2 hl1 g3 g4 g5 g6 g7 (by simp) hp (fun R' hx hL hlv hb0 => ?_) (fun R' hx hM hh => trivial)
        refine ⟨c, cs1, el, fr, rfl, g2, e3, by rw [setRange_len, hl1]; exact e4, fun k v hk => ?_⟩
        rw [setRange_get] at hk
        rw [← Array.getElem?_toList, g1, setRange_get, Array.length_toList, hlen]
        split at hk
        · rename_i hr
          rw [if_pos hr]
          split at hk
          · rename_i hkl
            rw [if_pos (by simp; omega)]
            obtain ⟨u, q1, q2⟩ := denVs_at _ _ _ v hcells hk
            exact ⟨u, q1, hx.denV pre.ok.b01 _ _ q2⟩
          · cases hk
        · rename_i hr
          rw [if_neg hr]
          obtain ⟨u, q1, q2⟩ := e5 k v hk
          exact ⟨u, by simpa using q1, hx.denV pre.ok.b01 _ _ q2⟩
  · rename_i b sz i k hxe
    rw [hxe] at hv1
    cases hb : nth Hm b with
    | none => rw [hb] at h; cases h
    | some blk =>
      rw [hb] at h
      cases blk <;> try (cases h; done)
      rename_i sz' xs
      dsimp only at h
      cases hs : Nat.beq sz sz' with
      | false => rw [hs] at h; cases h
      | true =>
        rw [hs] at h
        obtain rfl := Nat.eq_of_beq_eq_true hs
        simp only [cond_true] at h
        cases hxi : nth xs i with
        | none => rw [hxi] at h; cases h
        | some x0 =>
          cases hfr : fr Hm 6 (y'.val e) with
          | none => rw [hxi, hfr] at h; cases h
          | some q =>
            obtain ⟨z, ks⟩ := q
            rw [hxi, hfr] at h
            dsimp only at h
            cases hel : elem ks b with
            | true => rw [hel] at h; cases h
            | false =>
              rw [hel] at h
              simp only [cond_false] at h
              cases hc : (Nat.beq z.cells.length n && Nat.ble (k + n) x0.cells.length && (V.d z).okb && (x0.isAgg || !z.isAgg)) with
              | false => rw [hc] at h; cases h
              | true =>
                rw [hc] at h
                simp only [cond_true, Option.some.injEq, Prod.mk.injEq] at h
                obtain ⟨rfl, rfl, rfl⟩ := h
                simp only [Bool.and_eq_true, Nat.ble_eq] at hc
                obtain ⟨⟨⟨c1, c2⟩, c3⟩, c4⟩ := hc
                have hcn := Nat.eq_of_beq_eq_true c1
                have hb' := pre.le b _ hb (by simp)
                obtain ⟨_, m, h1, h2⟩ := hv1
                obtain ⟨c, rfl, hpt⟩ := h2 xs hb'
                rw [nth_eq] at hb' hxi
                have hblk := pre.ok.blk b _ _ hb' h1
                obtain ⟨us, cs, el, hE, e2, e3⟩ := blk_els' hblk
                have hiu : i < us.length := by rw [hE.len]; exact (List.getElem?_eq_some_iff.1 hxi).1
                have hu0 := List.getElem?_eq_getElem hiu
                have hd0 : R.den w x0 us[i] := hE.den i x0 _ hxi hu0
                have hx0e : x0.esc = true := hE.esc x0 (List.mem_of_getElem? hxi)
                have hx0b : (V.d x0).okb = true := by cases x0 <;> simp_all [V.okb, D.esc]
                have hs0 : us[i].cells.size = x0.cells.length := esc_size hx0b hd0
                have hssz : us[i].cells.size = sz := hE.size _ (List.getElem_mem hiu)
                -- the value that is written
                have hvs : ∀ R1 : RP, Less R R1 ks → R1.den w z (a.eval y) ∧ (∀ A0' AL', DenD R1.A1 A0' AL' w z (a.eval y)) ∧ z.esc = true := by
                  intro R1 hL
                  obtain ⟨q1, q2⟩ := frV_esc 6 _ z ks pre hfr hL (fun _ h => h) _ hv2
                  refine ⟨q2 _ _, q2, ?_⟩
                  rcases q1 with q1 | ⟨ts, rfl⟩
                  · exact q1
                  · cases c3
                obtain ⟨hz1, _, hze⟩ := hvs _ (Less.kill R ks)
                have hzs : (a.eval y).cells.size = n := by rw [esc_size c3 hz1]; exact hcn
                have hone := esc_cells hze hz1
                have hcl : us.length * sz ≤ cs.size := by
                  rw [← flat_len us hE.size]
                  rcases Nat.eq_zero_or_pos (cellsOf us).length with hz | hz
                  · omega
                  · have := e3 ((cellsOf us).length - 1) _ (List.getElem?_eq_getElem (by omega))
                    have := (Array.getElem?_eq_some_iff.1 this).1
                    omega
                have hroom : i * sz + k + n ≤ cs.size := by
                  have := Nat.mul_le_mul_right sz (Nat.succ_le_of_lt hiu)
                  rw [Nat.succ_mul] at this
                  omega
                have hrun := run_storeAt (P := P) (u := a.eval y) (off := i * sz + k) hsz hzs e2 (show Unfz (0, 0) from Nat.le_refl _) (by omega) hone
                obtain ⟨⟨cs1, g1, g2⟩, g3, g4, g5, g6, g7⟩ := heap_setCells c (a.eval y).cells.toList (i * sz + k) w cs el (0, 0) e2
                refine opOK_u (s := Instr.storeAt t (a.eval x) (a.eval y)) (by unfold execOp; rw [hop]) (by rw [hpt]; exact hrun) ?_
                have hl1 : cs1.size = cs.size := by rw [← Array.length_toList, g1, setRange_len, Array.length_toList]
                have hbk : b ∉ ks := fun hm => by rw [(elem_iff ks b).2 hm] at hel; cases hel
                refine Post.write (ks := ks) pre.ok hb' h1 (by simp [Blk.like, setAt_eq]) e2 g2 hl1 g3 g4 g5 g6 g7 hbk hp (fun R' hx hL hlv hb0 => ?_) (fun R' hx hM hh => trivial)
                obtain ⟨hz2, hz3, _⟩ := hvs R' hL
                -- the same, in the new world
                have b01' : ∀ c, R'.B0 c → R'.B1 c := fun c hc => by rw [hL.b1]; rw [hb0] at hc; exact pre.ok.b01 c hc
                have hz4 : R'.den (w.setCells c (i * sz + k) (a.eval y).cells.toList) z (a.eval y) := by
                  refine DenD.change R'.A1 R'.A1 R'.A1 R'.A0 (fun _ _ h => h) (fun _ _ h => ⟨h.1, fun h0 => h.2 (b01' _ h0)⟩) (fun _ _ h => h) (fun b' _ hAL => g3 b' fun e => ?_) (by omega) (fun _ h => h.1) (fun _ h => h.1) z _ (hz3 R'.A1 R'.AL)
                  subst e; exact hAL hlv
                have hE' := hE.ext hx pre.ok.b01
                have hd0' : R'.den (w.setCells c (i * sz + k) (a.eval y).cells.toList) x0 us[i] := hE'.den i x0 _ hxi hu0
                -- the element's new value
                have key : ∃ u', R'.den (w.setCells c (i * sz + k) (a.eval y).cells.toList) (bif x0.isAgg then .agg (setRange x0.cells k z.cells) else z) u' ∧ u'.cells.toList = setRange us[i].cells.toList k (a.eval y).cells.toList ∧ (bif x0.isAgg then D.agg (setRange x0.cells k z.cells) else z).esc = true := by
                  cases hagg : x0.isAgg with
                  | true =>
                    cases x0 <;> try (cases hagg; done)
                    rename_i ds
                    obtain ⟨us0, f1, f2⟩ := hd0'
                    have f3 := (denVs_mapd ds us0).2 f2
                    have hzc := cells_ok (R := R') (v := .d z) hz4 c3
                    have hVc : (V.d z).cells = mapd z.cells := by cases z <;> rfl
                    rw [hVc] at hzc
                    have f4 := denVs_set f3 hzc k
                    have f5 : setRange (mapd ds) k (mapd z.cells) = mapd (setRange ds k z.cells) := by
                      apply List.ext_getElem?
                      intro j
                      simp only [mapd_eq, setRange_get, List.getElem?_map, List.length_map]
                      split
                      · split <;> simp
                      · rfl
                    rw [f5, denVs_mapd] at f4
                    refine ⟨.agg (setRange us0 k (a.eval y).cells.toList).toArray, ⟨_, rfl, f4⟩, by simp [Value.cells, f1], ?_⟩
                    exact escs_set _ _ _ hx0e (escs_cells hze)
                  | false =>
                    have hza : z.isAgg = false := by rw [hagg] at c4; simpa using c4
                    have hx1 : x0.cells = [x0] := by cases x0 <;> simp_all [D.cells, D.isAgg]
                    have hz1' : z.cells = [z] := by cases z <;> simp_all [D.cells, D.isAgg]
                    rw [hx1] at c2 hs0
                    rw [hz1'] at hcn
                    simp only [List.length_singleton] at c2 hs0 hcn
                    obtain rfl : k = 0 := by omega
                    refine ⟨a.eval y, hz4, ?_, hze⟩
                    have q1 : us[i].cells.toList.length = 1 := by simpa using hs0
                    have q2 : (a.eval y).cells.toList.length = 1 := by rw [Array.length_toList]; omega
                    obtain ⟨p1, hp1⟩ := List.length_eq_one_iff.1 q1
                    obtain ⟨p2, hp2⟩ := List.length_eq_one_iff.1 q2
                    rw [hp1, hp2]; rfl
                obtain ⟨u', k1, k2, k3⟩ := key
                have hus : u'.cells.size = sz := by rw [← Array.length_toList, k2, setRange_len, Array.length_toList]; exact hssz
                have hEn := hE'.set (i := i) k1 hus k3
                rw [setAt_eq]
                refine Els.blk hEn hblk.1 g2 fun j v hj => ?_
                have hsr : setRange (cellsOf us) (i * sz) (setRange us[i].cells.toList k (a.eval y).cells.toList) = setRange (cellsOf us) (i * sz + k) (a.eval y).cells.toList := by
                  refine setRange_set (fun j hj => ?_) ?_
                  · have hj' : j < us[i].cells.size := by simpa using hj
                    rw [flat_get us hE.size i j us[i] _ hu0 (Array.getElem?_eq_getElem hj'), Array.getElem?_toList, Array.getElem?_eq_getElem hj']
                  · simp only [Array.length_toList]; omega
                rw [← cellsOf_set hE.size hus hiu, k2, hsr] at hj
                rw [← Array.getElem?_toList, g1]
                exact setRange_mono (fun j v hv => by rw [Array.getElem?_toList]; exact e3 j v hv) j v hj
  · cases h
end

end Go.Proofs.YtakebhleglnpjaaDoorE
