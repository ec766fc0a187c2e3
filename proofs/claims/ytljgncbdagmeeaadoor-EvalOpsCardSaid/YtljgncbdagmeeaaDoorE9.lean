/- The operations, one by one: slices, arrays, structs. -/
import Derived.Test.YtljgncbdagmeeaaDoorE8
namespace Go.Proofs.YtljgncbdagmeeaaDoorE
open Go
set_option linter.unusedVariables false
set_option linter.unusedSimpArgs false

section
variable {P : Program} {G : Globs} {R : RP} {w : World} {e : Env} {a : Act} {Hm H' : Heap} {nid : Nat} {o : Oper}

/-- a part of an aggregate -/
theorem part_ok {n : Nat} {ag : Bool} {cs : List V} {us : List Value} {v : V} {t : TypeId} {off : Nat} (hd : DenVs R w cs us) (hag : aggOf P t = some ag) (hsz : szOf P t = some n) (h : oneCell n ag (cs.drop off) = some v) :
    ∃ u, (part t us.toArray off).run P w = .ok u w ∧ DenV R w v u := by
  unfold oneCell at h
  cases ag with
  | false =>
    simp only [cond_false] at h
    rw [List.head?_eq_getElem?, List.getElem?_drop] at h
    obtain ⟨u, h1, h2⟩ := denVs_at cs us _ v hd h
    refine ⟨u, ?_, h2⟩
    simp only [Nat.add_zero] at h1
    simp [part, run_isAgg hag, h1]
  | true =>
    simp only [cond_true] at h
    cases hl : Nat.beq ((cs.drop off).take n).length n with
    | false => rw [hl] at h; cases h
    | true =>
      rw [hl] at h
      simp only [cond_true, Option.some.injEq] at h
      subst h
      have hl' : ((cs.drop off).take n).length = n := Nat.eq_of_beq_eq_true hl
      refine ⟨.agg (((us.drop off).take n).toArray), ?_, mkAgg_ok (denVs_mk _ _ ?_ ?_)⟩
      · simp [part, run_isAgg hag, run_sizeOf hsz, List.drop_take]
      · have := denVs_len cs us hd
        simp only [List.length_take, List.length_drop] at hl' ⊢
        omega
      · intro j v u hv hu
        have hj : j < n := by have := (List.getElem?_eq_some_iff.1 hv).1; omega
        rw [List.getElem?_take, if_pos hj, List.getElem?_drop] at hv hu
        obtain ⟨u', g1, g2⟩ := denVs_at cs us _ v hd hv
        rw [hu] at g1; cases g1; exact g2

theorem s_field (pre : Pre G R w e a Hm) {s t : TypeId} {f off n : Nat} {ag : Bool} {x : Operand} {y : Opd} {v : V} (hop : o.op = .field s x f) (hx : okOpd G x y = true) (hf : fieldOf P s f = some (off, t)) (hag : aggOf P t = some ag) (hsz : szOf P t = some n)
    (h : (∃ cs, y.val e = .d (.agg cs) ∧ oneCell n ag (mapd (cs.drop off)) = some v) ∨ (∃ cs, y.val e = .agg cs ∧ oneCell n ag (cs.drop off) = some v)) (hp : Placed R.H [] nid [] H') : OpOK P o a w (Post R w nid 0 H' v) := by
  obtain ⟨fields, fd, h1, h2, rfl, rfl⟩ := fieldOf_spec hf
  have hv := pre.opd hx
  have key : ∃ us : List Value, a.eval x = .agg us.toArray ∧ ∃ u, (part fd.type us.toArray fd.offset).run P w = .ok u w ∧ DenV R w v u := by
    rcases h with ⟨cs, h3, h4⟩ | ⟨cs, h3, h4⟩
    · rw [h3] at hv
      obtain ⟨us, h5, h6⟩ := hv
      refine ⟨us, h5, part_ok (cs := mapd cs) ((denVs_mapd cs us).2 h6) hag hsz ?_⟩
      rw [mapd_eq] at h4 ⊢
      rw [← List.map_drop]; exact h4
    · rw [h3] at hv
      obtain ⟨us, h5, h6⟩ := hv
      exact ⟨us, h5, part_ok h6 hag hsz h4⟩
  obtain ⟨us, h5, u, h6, h7⟩ := key
  exact opOK_v (s := Instr.field s (a.eval x) f) (by unfold execOp; rw [hop]) (by rw [h5]; simp [Instr.field, run_underlying h1, h2, asAgg, h6]) (Post.stay pre.ok hp h7)

def arrOf (P : Program) (t : TypeId) : Option (Nat × TypeId) := match P.underlying t with | some (.array n e) => some (n, e) | _ => none
theorem arrOf_spec {t el : TypeId} {n : Nat} (h : arrOf P t = some (n, el)) : P.underlying t = some (.array n el) := by
  unfold arrOf at h; split at h <;> simp_all
def slOf (P : Program) (t : TypeId) : Option TypeId := match P.underlying t with | some (.slice e) => some e | _ => none
theorem slOf_spec {t el : TypeId} (h : slOf P t = some el) : P.underlying t = some (.slice el) := by
  unfold slOf at h; split at h <;> simp_all

theorem s_index (pre : Pre G R w e a Hm) {t el : TypeId} {len n : Nat} {ag : Bool} {x i : Operand} {y j : Opd} {v : V} (hop : o.op = .index t x i) (hx : okOpd G x y = true) (hi : okOpd G i j = true) (ht : arrOf P t = some (len, el)) (hag : aggOf P el = some ag) (hsz : szOf P el = some n)
    (h : indexE len n ag (y.val e) (j.val e) = some v) (hp : Placed R.H [] nid [] H') : OpOK P o a w (Post R w nid 0 H' v) := by
  have hv := pre.opd hx
  have hiv := pre.opd hi
  unfold indexE at h
  split at h
  · rename_i k m hj
    rw [hj] at hiv
    cases hc : ((y.val e).isAggV && (decide (0 ≤ m) && decide (m < len))) with
    | false => rw [hc] at h; cases h
    | true =>
      rw [hc] at h
      simp only [cond_true] at h
      simp only [Bool.and_eq_true, decide_eq_true_eq] at hc
      obtain ⟨hav, hc⟩ := hc
      have hagg : (∃ cs, y.val e = .d (.agg cs)) ∨ ∃ cs, y.val e = .agg cs := by
        unfold V.isAggV at hav
        split at hav
        · rename_i cs hv'; exact .inl ⟨cs, hv'⟩
        · rename_i cs hv'; exact .inr ⟨cs, hv'⟩
        · cases hav
      have hb : (y.val e).okb = true := by rcases hagg with ⟨cs, h3⟩ | ⟨cs, h3⟩ <;> rw [h3] <;> rfl
      have hcs := cells_ok hv hb
      have hag' : ∃ us, a.eval x = .agg us := by
        rcases hagg with ⟨cs, h3⟩ | ⟨cs, h3⟩ <;> (rw [h3] at hv; obtain ⟨us, h5, _⟩ := hv; exact ⟨_, h5⟩)
      obtain ⟨us, hus⟩ := hag'
      rw [hus] at hcs
      obtain ⟨u, h1, h2⟩ := part_ok (P := P) hcs hag hsz h
      refine opOK_v (s := Instr.index t (a.eval x) (a.eval i)) (u := u) (by unfold execOp; rw [hop]) ?_ (Post.stay pre.ok hp h2)
      rw [hus, denI hiv]
      simp only [Value.cells, Array.toArray_toList] at h1
      simp [Instr.index, asIntOf, run_underlying (arrOf_spec ht), hc, run_sizeOf hsz, h1]
  · cases h

theorem s_indexS (pre : Pre G R w e a Hm) {t : TypeId} {x i : Operand} {y j : Opd} {v : V} (hop : o.op = .index t x i) (hx : okOpd G x y = true) (hi : okOpd G i j = true) (ht : P.underlying t = some .string)
    (h : indexSE (y.val e) (j.val e) = some v) (hp : Placed R.H [] nid [] H') : OpOK P o a w (Post R w nid 0 H' v) := by
  have hv := pre.opd hx
  have hiv := pre.opd hi
  unfold indexSE at h
  split at h
  · rename_i s k m hy hj
    rw [hj] at hiv
    rw [hy] at hv
    cases hc : decide (0 ≤ m) with
    | false => rw [hc] at h; cases h
    | true =>
      rw [hc] at h
      simp only [cond_true] at h
      have h0 : 0 ≤ m := of_decide_eq_true hc
      cases hs : s[m.toNat]? with
      | none => rw [hs] at h; cases h
      | some b =>
        rw [hs] at h
        simp only [Option.some.injEq] at h
        subst h
        refine opOK_v (s := Instr.index t (a.eval x) (a.eval i)) (u := .int .u8 b.toNat) (by unfold execOp; rw [hop]) ?_ (Post.stay pre.ok hp rfl)
        rw [denI hiv, show a.eval x = .string s from hv]
        simp [Instr.index, asIntOf, run_underlying ht, h0, hs]
  · cases h

/-! slices -/
theorem slAt_real {m : Option Nat} {xs : List D} {sz of len : Nat} {u : Value} (h : SlAt w m xs sz of len u) (h0 : 0 < len ∨ of < xs.length) :
    ∃ c cs el fr cap, m = some c ∧ u = .slice (some ⟨c, of * sz, none⟩) len cap ∧ len ≤ cap ∧ w.heap[c]? = some (.cells cs el fr) ∧ cs.size = (of + cap) * sz := by
  obtain ⟨h1, ad, cap, rfl, h3, h4⟩ := h
  rcases h4 with ⟨rfl, h4⟩ | ⟨c, cs, el, fr, rfl, rfl, h6, h7⟩
  · exfalso; omega
  · exact ⟨c, cs, el, fr, cap, rfl, rfl, h3, h6, h7⟩

theorem run_indexAt {t el : TypeId} {n : Nat} {ad : Addr} {len cap : Nat} {k : IntKind} {i : Int} (ht : slOf P t = some el) (hsz : szOf P el = some n) (h0 : 0 ≤ i) (h1 : i < len) :
    (Instr.indexAt t (.slice (some ad) len cap) (.int k i)).run P w = .ok (.pointer (some (ad.add (i.toNat * n)))) w := by
  simp [Instr.indexAt, asIntOf, run_underlying (slOf_spec ht), run_sizeOf hsz, h0, h1]

/-- the cells of a datum that lies in memory -/
theorem el_cells {A1 A0 AL : Nat → Prop} {b off : Nat} {x : D} {u : Value} (hu : DenD A1 A0 AL w x u) (hb : (V.d x).okb = true) (hc : ∀ (k : Nat) v, u.cells[k]? = some v → w.cell? ⟨b, off + k, none⟩ = some v) :
    u.cells.size = x.cells.length ∧ DenCells A1 A0 AL w b off x.cells := by
  have one : ∀ {x : D} {u : Value}, DenD A1 A0 AL w x u → u.cells = #[u] → x.cells = [x] → (∀ (k : Nat) v, u.cells[k]? = some v → w.cell? ⟨b, off + k, none⟩ = some v) → u.cells.size = x.cells.length ∧ DenCells A1 A0 AL w b off x.cells := by
    intro x u h1 h2 h3 h4
    have h5 := h4 0 u (by rw [h2]; rfl)
    rw [h2, h3]
    exact ⟨rfl, ⟨u, by simpa using h5, h1⟩, trivial⟩
  cases x with
  | agg cs =>
    obtain ⟨us, rfl, h⟩ := hu
    refine ⟨by simpa [Value.cells, D.cells] using denDs_len cs us h, denCells_mk _ _ fun j y hj => ?_⟩
    obtain ⟨u, h1, h2⟩ := denDs_at cs us j y h hj
    exact ⟨u, hc j u (by simpa [Value.cells] using h1), h2⟩
  | tup cs => simp [V.okb] at hb
  | bool b => cases hu; exact one (x := .bool b) rfl rfl rfl hc
  | int k n => cases hu; exact one (x := .int k n) rfl rfl rfl hc
  | str s => cases hu; exact one (x := .str s) rfl rfl rfl hc
  | nilfn => cases hu; exact one (x := .nilfn) rfl rfl rfl hc
  | nilp => cases hu; exact one (x := .nilp) rfl rfl rfl hc
  | nilI => cases hu; exact one (x := .nilI) rfl rfl rfl hc
  | list own xs =>
    have hu' := hu
    obtain ⟨ad, len, cap, rfl, _⟩ := hu'
    exact one hu rfl rfl hc
  | fn f caps =>
    have hu' := hu
    obtain ⟨us, rfl, _⟩ := hu'
    exact one hu rfl rfl hc
  | rptr cs =>
    have hu' := hu
    obtain ⟨b', off', rfl, _⟩ := hu'
    exact one hu rfl rfl hc
  | iface t v =>
    have hu' := hu
    obtain ⟨u', rfl, _⟩ := hu'
    exact one hu rfl rfl hc

/-- a slice of a block of one's own -/
theorem own_sl (pre : Pre G R w e a Hm) {b sz : Nat} {xs : List D} {u : Value} (hb : nth Hm b = some (.arr sz xs)) (h : DenV R w (.sl b sz) u) :
    ∃ m, R.M b = some m ∧ nth R.H b = some (.arr sz xs) ∧ BlkOK R w m (.arr sz xs) ∧ SlAt w m xs sz 0 xs.length u := by
  have hb' := pre.le b _ hb (by simp)
  obtain ⟨_, m, h1, h2⟩ := h
  exact ⟨m, h1, hb', pre.ok.blk b _ _ (by rw [← nth_eq]; exact hb') h1, h2 xs hb'⟩
theorem own_slp (pre : Pre G R w e a Hm) {b sz o len : Nat} {xs : List D} {u : Value} (hb : nth Hm b = some (.arr sz xs)) (h : DenV R w (.slp b sz o len) u) :
    ∃ m, R.M b = some m ∧ nth R.H b = some (.arr sz xs) ∧ BlkOK R w m (.arr sz xs) ∧ SlAt w m xs sz o len u := by
  have hb' := pre.le b _ hb (by simp)
  obtain ⟨_, m, h1, h2⟩ := h
  exact ⟨m, h1, hb', pre.ok.blk b _ _ (by rw [← nth_eq]; exact hb') h1, h2 xs hb'⟩

theorem s_iaddr (pre : Pre G R w e a Hm) {t el : TypeId} {n : Nat} {x i : Operand} {y j : Opd} {v : V} (hop : o.op = .indexAddr t x i) (hx : okOpd G x y = true) (hi : okOpd G i j = true) (ht : slOf P t = some el) (hsz : szOf P el = some n)
    (h : iaddrE Hm n (y.val e) (j.val e) = some v) (hp : Placed R.H [] nid [] H') : OpOK P o a w (Post R w nid 0 H' v) := by
  have hv := pre.opd hx
  have hiv := pre.opd hi
  unfold iaddrE at h
  have fin : ∀ {k : IntKind} {m : Int} {ad : Addr} {len cap : Nat} , a.eval i = .int k m → a.eval x = .slice (some ad) len cap → 0 ≤ m → m < len → DenV R w v (.pointer (some (ad.add (m.toNat * n)))) → OpOK P o a w (Post R w nid 0 H' v) :=
    fun h1 h2 h3 h4 h5 => opOK_v (s := Instr.indexAt t (a.eval x) (a.eval i)) (by unfold execOp; rw [hop]) (by rw [h1, h2]; exact run_indexAt ht hsz h3 h4) (Post.stay pre.ok hp h5)
  split at h
  · rename_i k m hj
    rw [hj] at hiv
    split at h
    · rename_i own xs hy
      rw [hy] at hv
      cases hg : getI xs m with
      | none => rw [hg] at h; cases h
      | some z =>
        rw [hg] at h
        dsimp only at h
        cases hc : (Nat.beq z.cells.length n && (V.d z).okb) with
        | false => rw [hc] at h; cases h
        | true =>
          rw [hc] at h
          simp only [cond_true, Option.some.injEq] at h
          subst h
          simp only [Bool.and_eq_true] at hc
          obtain ⟨h0, h1, h2⟩ := getI_eq xs m z hg
          obtain ⟨ad, len, cap, e1, rfl, e3, e4, e5⟩ := hv
          obtain ⟨b, off, sz, rfl, f2, f3, f4⟩ := e5 (by intro hn; rw [hn] at h2; simp at h2)
          obtain ⟨u, g1, g2, g3⟩ := denEls_at xs off m.toNat z f4 h2
          obtain ⟨q1, q2⟩ := el_cells (b := b) (off := off + m.toNat * sz) g1 hc.2 g3
          have hn : sz = n := by rw [← g2, q1]; exact Nat.eq_of_beq_eq_true hc.1
          subst hn
          refine fin (denI hiv) e1 h0 h1 ⟨b, off + m.toNat * sz, by rw [Addr.add_lit], ?_, f3, q2⟩
          cases own
          · exact f2
          · exact ⟨f2.1, fun hb => f2.2 (pre.ok.b01 _ hb)⟩
    · rename_i b sz' hy
      rw [hy] at hv
      cases hb : nth Hm b with
      | none => rw [hb] at h; cases h
      | some blk =>
        rw [hb] at h
        cases blk <;> try (cases h; done)
        rename_i sz'' xs
        dsimp only at h
        cases hs : (Nat.beq n sz' && Nat.beq n sz'') with
        | false => rw [hs] at h; cases h
        | true =>
          rw [hs] at h
          simp only [Bool.and_eq_true] at hs
          obtain rfl := Nat.eq_of_beq_eq_true hs.1
          obtain rfl := Nat.eq_of_beq_eq_true hs.2
          simp only [cond_true] at h
          cases hg : getI xs m with
          | none => rw [hg] at h; cases h
          | some z =>
            rw [hg] at h
            simp only [Option.some.injEq] at h
            subst h
            obtain ⟨h0, h1, h2⟩ := getI_eq xs m z hg
            obtain ⟨mm, q1, q2, q3, q4⟩ := own_sl pre hb hv
            obtain ⟨c, cs, el', fr, cap, rfl, e1, e2, e3, e4⟩ := slAt_real q4 (.inr (by omega))
            refine fin (denI hiv) e1 h0 h1 ⟨c, q1, ?_⟩
            rw [Addr.add_lit, Nat.zero_mul, Nat.zero_add]; rfl
    · rename_i b sz' of ln hy
      rw [hy] at hv
      cases hb : nth Hm b with
      | none => rw [hb] at h; cases h
      | some blk =>
        rw [hb] at h
        cases blk <;> try (cases h; done)
        rename_i sz'' xs
        dsimp only at h
        cases hs : (Nat.beq n sz' && Nat.beq n sz'') with
        | false => rw [hs] at h; cases h
        | true =>
          rw [hs] at h
          simp only [Bool.and_eq_true] at hs
          obtain rfl := Nat.eq_of_beq_eq_true hs.1
          obtain rfl := Nat.eq_of_beq_eq_true hs.2
          simp only [cond_true] at h
          cases hg : getI ((xs.drop of).take ln) m with
          | none => rw [hg] at h; cases h
          | some z =>
            rw [hg] at h
            simp only [Option.some.injEq] at h
            subst h
            obtain ⟨h0, h1, h2⟩ := getI_eq _ m z hg
            simp only [List.length_take, List.length_drop] at h1
            obtain ⟨mm, q1, q2, q3, q4⟩ := own_slp pre hb hv
            obtain ⟨c, cs, el', fr, cap, rfl, e1, e2, e3, e4⟩ := slAt_real q4 (.inr (by omega))
            refine fin (denI hiv) e1 h0 (by omega) ⟨c, q1, ?_⟩
            rw [Addr.add_lit, Nat.add_mul]; rfl
    · cases h
  · cases h
end

end Go.Proofs.YtljgncbdagmeeaaDoorE
