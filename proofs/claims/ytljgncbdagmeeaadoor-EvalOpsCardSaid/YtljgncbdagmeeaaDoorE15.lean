/- Slices: made, built, appended to; variables: written. -/
import Derived.Test.YtljgncbdagmeeaaDoorE14
namespace Go.Proofs.YtljgncbdagmeeaaDoorE
open Go
set_option linter.unusedVariables false
set_option linter.unusedSimpArgs false

theorem ltbl {sz i n k : Nat} (hi : i < n) (hk : k < sz) : i * sz + k < n * sz := by
  have := Nat.mul_le_mul_right sz (Nat.succ_le_of_lt hi)
  rw [Nat.succ_mul] at this
  omega

theorem cellsOf_set {sz : Nat} {us : List Value} {v : Value} {i : Nat} (hs : ∀ u ∈ us, u.cells.size = sz) (hv : v.cells.size = sz) (hi : i < us.length) : setRange (cellsOf us) (i * sz) v.cells.toList = cellsOf (us.set i v) := by
  have hs' : ∀ u ∈ us.set i v, u.cells.size = sz := fun u hu => by
    rcases List.mem_or_eq_of_mem_set hu with h | h
    · exact hs u h
    · rw [h]; exact hv
  apply List.ext_getElem?
  intro j
  rw [setRange_get, Array.length_toList, hv, flat_len us hs]
  by_cases hj : j < us.length * sz
  · have h0 : 0 < sz := Nat.pos_of_ne_zero fun h => by subst h; simp at hj
    have hdm : j = (j / sz) * sz + j % sz := by rw [Nat.mul_comm]; exact (Nat.div_add_mod j sz).symm
    have hq : j / sz < us.length := Nat.div_lt_of_lt_mul (by rwa [Nat.mul_comm])
    have hk : j % sz < sz := Nat.mod_lt _ h0
    rw [if_pos hj]
    generalize hqq : j / sz = q at *
    generalize hkk : j % sz = k at *
    subst hdm
    have hul := List.getElem?_eq_getElem hq
    by_cases hqi : q = i
    · subst hqi
      rw [if_pos (by omega), Nat.add_sub_cancel_left]
      have hkv : v.cells[k]? = some v.cells[k] := Array.getElem?_eq_getElem (by omega)
      rw [flat_get (us.set q v) hs' q k v _ (by rw [List.getElem?_set, if_pos rfl, if_pos hq]) hkv]
      simp
    · have hne : ¬ (i * sz ≤ q * sz + k ∧ q * sz + k < i * sz + sz) := by
        rcases Nat.lt_or_gt_of_ne hqi with h | h
        · have := ltbl (sz := sz) h hk; omega
        · have := Nat.mul_le_mul_right sz (Nat.succ_le_of_lt h)
          rw [Nat.succ_mul] at this; omega
      rw [if_neg hne]
      have hkq : k < us[q].cells.size := by rw [hs _ (List.getElem_mem hq)]; exact hk
      have hku : us[q].cells[k]? = some us[q].cells[k] := Array.getElem?_eq_getElem hkq
      rw [flat_get us hs q k _ _ hul hku, flat_get (us.set i v) hs' q k us[q] _ (by rw [List.getElem?_set, if_neg (fun h => hqi h.symm)]; exact hul) hku]
  · have h1 : (cellsOf us)[j]? = none := List.getElem?_eq_none (by rw [flat_len us hs]; omega)
    have h2 : (cellsOf (us.set i v))[j]? = none := List.getElem?_eq_none (by rw [flat_len _ hs', List.length_set]; omega)
    rw [h1, h2, if_neg hj]
    split <;> rfl

theorem rep_cells (z : Value) (n : Nat) : ((Array.range (n * z.cells.size)).map (z.cells[· % z.cells.size]!)).toList = cellsOf (List.replicate n z) := by
  have hs : ∀ u ∈ List.replicate n z, u.cells.size = z.cells.size := fun u hu => by rw [(List.mem_replicate.1 hu).2]
  apply List.ext_getElem?
  intro j
  by_cases hj : j < n * z.cells.size
  · have h0 : 0 < z.cells.size := Nat.pos_of_ne_zero fun h => by rw [h] at hj; simp at hj
    have hdm : j = (j / z.cells.size) * z.cells.size + j % z.cells.size := by rw [Nat.mul_comm]; exact (Nat.div_add_mod j _).symm
    have hq : j / z.cells.size < n := Nat.div_lt_of_lt_mul (by rwa [Nat.mul_comm])
    have hk : j % z.cells.size < z.cells.size := Nat.mod_lt _ h0
    have := flat_get (List.replicate n z) hs (j / z.cells.size) (j % z.cells.size) z _ (by rw [List.getElem?_replicate, if_pos hq]) (Array.getElem?_eq_getElem hk)
    rw [← hdm] at this
    rw [this]
    simp [hj, getElem!_def, Array.getElem?_eq_getElem hk]
  · rw [List.getElem?_eq_none (by simp; omega), List.getElem?_eq_none (by rw [flat_len _ hs, List.length_replicate]; omega)]

section
variable {P : Program} {G : Globs} {R : RP} {w : World} {e : Env} {a : Act} {Hm H' : Heap} {nid : Nat} {o : Oper}

theorem Els.set {sz : Nat} {xs : List D} {us : List Value} {y : D} {v : Value} {i : Nat} (h : Els R w sz xs us) (hv : R.den w y v) (hs : v.cells.size = sz) (he : y.esc = true) : Els R w sz (xs.set i y) (us.set i v) where
  len := by simp [h.len]
  den := fun j x u hx hu => by
    rw [List.getElem?_set] at hx hu
    split at hx
    · rename_i e
      rw [if_pos e] at hu
      split at hx
      · cases hx
        split at hu
        · cases hu; exact hv
        · cases hu
      · cases hx
    · rename_i e
      rw [if_neg e] at hu
      exact h.den j x u hx hu
  size := fun u hu => by
    rcases List.mem_or_eq_of_mem_set hu with h1 | h1
    · exact h.size u h1
    · rw [h1]; exact hs
  esc := fun x hx => by
    rcases List.mem_or_eq_of_mem_set hx with h1 | h1
    · exact h.esc x h1
    · rw [h1]; exact he

theorem Els.rep {sz : Nat} {z : D} {v : Value} (n : Nat) (hv : R.den w z v) (hs : v.cells.size = sz) (he : z.esc = true) : Els R w sz (List.replicate n z) (List.replicate n v) where
  len := by simp
  den := fun j x u hx hu => by
    rw [List.getElem?_replicate] at hx hu
    split at hx
    · cases hx
      rename_i hj
      rw [if_pos hj] at hu; cases hu; exact hv
    · cases hx
  size := fun u hu => by rw [(List.mem_replicate.1 hu).2]; exact hs
  esc := fun x hx => by rw [(List.mem_replicate.1 hx).2]; exact he

/-- a new block of elements -/
theorem post_arr (ok : R.OK w) {sz cap : Nat} {xs : List D} {us : List Value} {cs : Array Value} {el : TypeId} (h0 : 0 < sz) (h : Els R w sz xs us) (hcs : ∀ (j : Nat) v, (cellsOf us)[j]? = some v → cs[j]? = some v) (hsz : cs.size = cap * sz) (hcap : xs.length ≤ cap)
    (hn : R.M nid = none) (hp : Placed R.H [] nid [.arr sz xs] H') : Post R w nid 1 H' (.sl nid sz) (.slice (some ⟨w.heap.size, 0, none⟩) xs.length cap) (w.alloc (.cells cs el)) := by
  refine Post.new (m := some w.heap.size) _ ok hp hn (.inr rfl) fun R' hx hM hH => ⟨?_, fun _ => ?_⟩
  · exact Els.blk (h.ext hx ok.b01) h0 (heap_new w _) hcs
  · refine ⟨⟨_, _, _, rfl⟩, _, hM, fun ys hy => ?_⟩
    rw [nth_eq, hH] at hy; cases hy
    exact ⟨by omega, _, _, rfl, hcap, .inr ⟨w.heap.size, cs, el, (0, 0), rfl, by rw [Nat.zero_mul], heap_new w _, by rw [hsz, Nat.zero_add]⟩⟩

/-! a slice's literal -/
def partsB (G : Globs) : List (Nat × Operand) → List (Nat × Opd) → Bool
  | [], [] => true
  | (i, x) :: r, (j, y) :: s => Nat.beq i j && okOpd G x y && partsB G r s
  | _, _ => false

theorem fill_bs (pre : Pre G R w e a Hm) {sz : Nat} {R1 : RP} {ks' : List Nat} (hL : Less R R1 ks') : ∀ (ps : List (Nat × Operand)) (qs : List (Nat × Opd)) (xs : List D) (us : List Value) (cells : Array Value) (xs' : List D) (ks : List Nat), partsB G ps qs = true →
    cells.toList = cellsOf us → Els R1 w sz xs us → fillD Hm sz xs (qs.map fun (i, x) => (i, x.val e)) = some (xs', ks) → (∀ k ∈ ks, k ∈ ks') →
    ∃ cells' us', Instr.fill (fun i => some (i * sz, sz)) cells (ps.map fun (i, x) => (i, a.eval x)) = some cells' ∧ cells'.toList = cellsOf us' ∧ Els R1 w sz xs' us' ∧ xs'.length = xs.length
  | [], [], xs, us, cells, xs', ks, _, hc, hE, h, _ => by
    simp only [List.map_nil, fillD, Option.some.injEq, Prod.mk.injEq] at h
    obtain ⟨rfl, rfl⟩ := h
    exact ⟨cells, us, rfl, hc, hE, rfl⟩
  | [], _ :: _, xs, us, cells, xs', ks, hp, _, _, _, _ => by cases hp
  | _ :: _, [], xs, us, cells, xs', ks, hp, _, _, _, _ => by cases hp
  | (i, x) :: ps, (i', y) :: qs, xs, us, cells, xs', ks, hp, hc, hE, h, hks => by
    simp only [partsB, Bool.and_eq_true] at hp
    obtain ⟨⟨h1, h2⟩, h3⟩ := hp
    obtain rfl := Nat.eq_of_beq_eq_true h1
    simp only [List.map_cons, fillD] at h
    cases hf : fr Hm 6 (y.val e) with
    | none => rw [hf] at h; cases h
    | some q =>
      obtain ⟨z, k1⟩ := q
      rw [hf] at h
      dsimp only at h
      cases hcond : (Nat.blt i xs.length && Nat.beq z.cells.length sz && (V.d z).okb) with
      | false => rw [hcond] at h; cases h
      | true =>
        rw [hcond] at h
        simp only [cond_true] at h
        simp only [Bool.and_eq_true] at hcond
        have hi : i < xs.length := by have := hcond.1.1; simp [Nat.blt] at this; omega
        cases hr : fillD Hm sz (setAt xs i z) (qs.map fun (i, x) => (i, x.val e)) with
        | none => rw [hr] at h; cases h
        | some q2 =>
          obtain ⟨l, k2⟩ := q2
          rw [hr] at h
          simp only [Option.some.injEq, Prod.mk.injEq] at h
          obtain ⟨rfl, rfl⟩ := h
          have hv := pre.opd h2
          obtain ⟨g1, g2⟩ := frV_esc 6 _ z k1 pre hf hL (fun k hk => hks k (by simp [hk])) _ hv
          have hz : R1.den w z (a.eval x) := g2 _ _
          have hze : z.esc = true := by
            rcases g1 with g1 | ⟨ts, rfl⟩
            · exact g1
            · cases hcond.2
          have hzs : (a.eval x).cells.size = sz := by rw [esc_size hcond.2 hz]; exact Nat.eq_of_beq_eq_true hcond.1.2
          have hiu : i < us.length := by rw [hE.len]; exact hi
          rw [setAt_eq] at hr
          obtain ⟨cells', us', e1, e2, e3, e4⟩ := fill_bs pre hL ps qs (xs.set i z) (us.set i (a.eval x)) ((a.eval x).cells.zipIdx.foldl (fun cs (c, j) => cs.setIfInBounds (i * sz + j) c) cells) l k2 h3 (by
            have : ((a.eval x).cells.zipIdx.foldl (fun cs (c, j) => cs.setIfInBounds (i * sz + j) c) cells).toList = setRange cells.toList (i * sz) (a.eval x).cells.toList := by
              rw [← Array.foldl_toList, Array.toList_zipIdx]
              exact fold_set _ 0 _ cells
            rw [this, hc, cellsOf_set hE.size hzs hiu]) (hE.set hz hzs hze) hr (fun k hk => hks k (by simp [hk]))
          refine ⟨cells', us', ?_, e2, e3, by rw [e4, List.length_set]⟩
          simp only [List.map_cons, Instr.fill]
          rw [if_neg ?_]
          · exact e1
          · have hcl : cells.size = us.length * sz := by rw [← Array.length_toList, hc, flat_len us hE.size]
            have := Nat.mul_le_mul_right sz (Nat.succ_le_of_lt hiu)
            rw [Nat.succ_mul] at this
            simp [hzs, hcl]; omega

/-- what is known of an element type -/
structure ElTy (P : Program) (t el : TypeId) (sz : Nat) (i : TypeInfo) (zv : Value) : Prop where
  u : P.underlying t = some (.slice el)
  inf : P.info? el = some i
  s : i.size = sz
  z : i.zero = some zv
  zs : zv.cells.size = sz
  pos : 0 < sz
  by_ : i.bytes ≤ 131072

theorem s_bslice0 (pre : Pre G R w e a Hm) {t el : TypeId} {sz : Nat} {i : TypeInfo} {zv : Value} {parts : Array (Nat × Operand)} (hop : o.op = .buildSlice t 0 parts) (he : ElTy P t el sz i zv) (hps : parts = #[]) (hp : Placed R.H [] nid [] H') :
    OpOK P o a w (Post R w nid 0 H' (.nilsl sz)) := by
  subst hps
  refine opOK_v (s := Instr.buildSlice t 0 (#[].map fun (i, x) => (i, a.eval x))) (u := .slice (some ⟨w.heap.size, 0, none⟩) 0 0) (w' := w.alloc (.cells #[] el)) (by unfold execOp; rw [hop]) ?_ (Post.junk _ pre.ok hp ⟨_, rfl⟩)
  simp [Instr.buildSlice, run_underlying he.u, sizeOf, typeInfo, he.inf, Instr.fill, newRow, Array.range_zero']

theorem s_bslice (pre : Pre G R w e a Hm) {t el : TypeId} {sz len : Nat} {i : TypeInfo} {zv : Value} {parts : Array (Nat × Operand)} {z : D} {ps : List (Nat × Opd)} {xs : List D} {ks : List Nat} (hop : o.op = .buildSlice t len parts) (he : ElTy P t el sz i zv) (hz : cv (.d z) zv = true) (hze : z.esc = true)
    (hl0 : len ≠ 0) (hl : len * sz ≤ 16777216) (hps : partsB G parts.toList ps = true) (h : fillD Hm sz (List.replicate len z) (ps.map fun (i, x) => (i, x.val e)) = some (xs, ks)) (hn : R.M nid = none) (hp : Placed R.H (kills ks) nid [.arr sz xs] H') :
    OpOK P o a w (Post R w nid 1 H' (.sl nid sz)) := by
  have hL := Less.kill R ks
  have ok1 : RP.OK { R with H := updH R.H (kills ks) } w := pre.ok.kill (fun i blk => kill_le ks _ i blk)
  have hzd : ∀ R1 : RP, R1.den w z zv := fun R1 => cv_ok (R := R1) (.d z) zv hz
  obtain ⟨cells', us', f1, f2, f3, f4⟩ := fill_bs pre hL parts.toList ps (List.replicate len z) (List.replicate len zv) ((Array.range (len * zv.cells.size)).map (zv.cells[· % zv.cells.size]!)) xs ks hps (rep_cells zv len) (Els.rep len (hzd _) he.zs hze) h (fun _ h => h)
  have hlen : xs.length = len := by rw [f4, List.length_replicate]
  refine opOK_v (s := Instr.buildSlice t len (parts.map fun (i, x) => (i, a.eval x))) (u := .slice (some ⟨w.heap.size, 0, none⟩) xs.length len) (w' := w.alloc (.cells cells' el)) (by unfold execOp; rw [hop]) ?_ (Post.afterKill pre.ok (post_arr ok1 he.pos f3 (fun j v hv => by rw [← f2] at hv; simpa using hv) ?_ (by omega) hn hp))
  · have hne : ¬ (len * sz = 0) := by
      have := Nat.mul_pos (Nat.pos_of_ne_zero hl0) he.pos
      omega
    have hbig : ¬ (16777216 < len * sz) := by omega
    rw [he.zs] at f1
    have f1' : Instr.fill (fun i => some (i * sz, sz)) ((Array.range (len * sz)).map (zv.cells[· % sz]!)) (parts.map fun (i, x) => (i, a.eval x)).toList = some cells' := by
      rw [Array.toList_map]; exact f1
    rw [hlen]
    simp only [Instr.buildSlice, Sem.run_bind, run_underlying he.u, Result.andThen_ok, run_sizeOf (P := P) (show szOf P el = some sz by simp [szOf, he.inf, he.s]), Nat.reducePow, hbig, if_false, hne, zeroValue, typeInfo, run_program, he.inf, he.z, Sem.run_pure, he.zs, f1', newRow, run_newObj_alloc]
  · rw [← Array.length_toList, f2, flat_len us' f3.size, f3.len, hlen]

theorem s_mkslice (pre : Pre G R w e a Hm) {t el : TypeId} {sz : Nat} {i : TypeInfo} {zv : Value} {x y : Operand} {x' y' : Opd} {z : D} {k1 k2 : IntKind} {n : Int} (hop : o.op = .makeSlice t x y) (he : ElTy P t el sz i zv) (hz : cv (.d z) zv = true) (hze : z.esc = true)
    (hx : okOpd G x x' = true) (hy : okOpd G y y' = true) (h1 : x'.val e = .d (.int k1 n)) (h2 : y'.val e = .d (.int k2 n)) (h0 : 0 ≤ n) (hl : n ≤ lim) (hn : R.M nid = none) (hp : Placed R.H [] nid [.arr sz (List.replicate n.toNat z)] H') :
    OpOK P o a w (Post R w nid 1 H' (.sl nid sz)) := by
  have hv1 := pre.opd hx
  have hv2 := pre.opd hy
  rw [h1] at hv1
  rw [h2] at hv2
  have hzd : R.den w z zv := cv_ok (R := R) (.d z) zv hz
  have hl' : n ≤ 1073741824 := hl
  have hrun := run_make (P := P) w t el i zv he.u he.inf he.z k1 k2 n n h0 (Int.le_refl _) (by
    have hb := he.by_
    have : (i.bytes : Int) * n ≤ 131072 * n := Int.mul_le_mul_of_nonneg_right (by omega) h0
    omega) (by omega)
  refine opOK_v (s := Instr.makeSlice t (a.eval x) (a.eval y)) (u := .slice (some ⟨w.heap.size, 0, none⟩) (List.replicate n.toNat z).length n.toNat) (w' := w.alloc (.cells (madeCells zv.cells (n.toNat * i.size)) el)) (by unfold execOp; rw [hop]) (by rw [denI hv1, denI hv2, List.length_replicate]; exact hrun)
    (post_arr pre.ok he.pos (Els.rep n.toNat hzd he.zs hze) ?_ (by rw [size_madeCells, he.s]) (by simp) hn hp)
  intro j v hv
  rw [← rep_cells, he.zs] at hv
  have hm : madeCells zv.cells (n.toNat * i.size) = (Array.range (n.toNat * sz)).map (zv.cells[· % sz]!) := by unfold madeCells; rw [he.s, he.zs]
  rw [hm, ← Array.getElem?_toList]
  exact hv
end

end Go.Proofs.YtljgncbdagmeeaaDoorE
