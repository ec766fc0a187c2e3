/- Slices, appended to. -/
import Derived.Test.YtljgncbdagmeeaaDoorE16
namespace Go.Proofs.YtljgncbdagmeeaaDoorE
open Go
set_option linter.unusedVariables false
set_option linter.unusedSimpArgs false

section
variable {P : Program} {G : Globs} {R : RP} {w : World} {e : Env} {a : Act} {Hm H' : Heap} {nid : Nat} {o : Oper}

/-- An empty block that is none of the model's. -/
theorem Post.number (ok : R.OK w) {sz : Nat} {u : Value} (h0 : 0 < sz) (hn : R.M nid = none) (hp : Placed R.H [] nid [.arr sz []] H') (hu : ∃ ad, u = .slice ad 0 0) : Post R w nid 1 H' (.sl nid sz) u w := by
  have hH : ∀ i, i ≠ nid → H'[i]? = R.H[i]? := fun i hi => by
    have := hp i
    rw [this, if_neg (by simp; omega)]; rfl
  have hb : H'[nid]? = some (.arr sz []) := by
    have := hp nid
    rw [this, if_pos (by simp)]; simp
  have lv : ∀ i, i ≠ nid → isLive H' i = true → isLive R.H i = true := fun i hi h => by
    obtain ⟨blk, g1, g2⟩ := isLive_iff.1 h
    exact isLive_iff.2 ⟨blk, by rw [← hH i hi]; exact g1, g2⟩
  have e : Ext R w { R with M := fun i => if i = nid then some none else R.M i, H := H' } w := by
    refine ⟨?_, ?_, rfl, rfl, fun _ _ _ => rfl, fun _ cs el fr h => ⟨cs, el, fr, h, rfl⟩, Nat.le_refl _, ?_, rfl, rfl, rfl⟩
    · intro i x hx
      have : i ≠ nid := fun e => by rw [e, hn] at hx; cases hx
      simp [this, hx]
    · intro i x blk' hx hi hd
      have : i ≠ nid := fun e => by rw [e, hn] at hx; cases hx
      exact ⟨blk', by rw [← hH i this]; exact hi, Blk.like_refl hd⟩
    · rintro c _ ⟨i, g1, g2⟩
      simp only at g1 g2
      by_cases hi : i = nid
      · rw [if_pos hi] at g2; cases g2
      · rw [if_neg hi] at g2
        exact ⟨i, lv i hi g1, g2⟩
  refine ⟨_, e, ⟨ok.b01, ?_, ?_, ?_, ?_, ?_, ok.bl⟩, rfl, ?_, fun i h hni => by
    have : i ≠ nid := fun h => hni (by subst h; simp)
    simp [this, h]⟩
  · intro i blk' hi hd
    by_cases hin : i = nid
    · exact ⟨none, by simp [hin]⟩
    · obtain ⟨x, hx⟩ := ok.al i blk' (by rw [← hH i hin]; exact hi) hd
      exact ⟨x, by simp [hin, hx]⟩
  · intro i j c hi hj g1 g2
    simp only at g1 g2
    by_cases hin : i = nid
    · rw [if_pos hin] at g1; cases g1
    · by_cases hjn : j = nid
      · rw [if_pos hjn] at g2; cases g2
      · rw [if_neg hin] at g1; rw [if_neg hjn] at g2
        exact ok.inj i j c (lv i hin hi) (lv j hjn hj) g1 g2
  · intro i c hc
    simp only at hc
    by_cases hin : i = nid
    · rw [if_pos hin] at hc; cases hc
    · rw [if_neg hin] at hc; exact ok.lt i c hc
  · intro i m blk' hi hm
    simp only at hi hm
    by_cases hin : i = nid
    · subst hin
      rw [if_pos rfl] at hm; cases hm
      rw [hb] at hi; cases hi
      exact ⟨h0, by simp, .inl ⟨rfl, rfl⟩⟩
    · rw [if_neg hin] at hm
      rw [hH i hin] at hi
      exact e.blkOK ok.b01 (fun _ _ => rfl) (ok.blk i m blk' hi hm)
  · intro i c hl hc
    simp only at hc
    by_cases hin : i = nid
    · rw [if_pos hin] at hc; cases hc
    · rw [if_neg hin] at hc; exact ok.nb i c (lv i hin hl) hc
  · obtain ⟨ad, rfl⟩ := hu
    refine ⟨⟨_, _, _, rfl⟩, none, by simp, fun xs hx => ?_⟩
    simp only [nth_eq, hb] at hx
    cases hx
    exact ⟨by simp, _, _, rfl, Nat.le_refl _, .inl ⟨rfl, rfl⟩⟩

theorem Els.sub {sz : Nat} {xs : List D} {us : List Value} (h : Els R w sz xs us) (l n : Nat) : Els R w sz ((xs.drop l).take n) ((us.drop l).take n) where
  len := by simp [h.len]
  den := fun j x u hx hu => by
    rw [List.getElem?_take] at hx hu
    split at hx
    · rename_i hj
      rw [if_pos hj] at hu
      rw [List.getElem?_drop] at hx hu
      exact h.den _ x u hx hu
    · cases hx
  size := fun u hu => h.size u (List.mem_of_mem_drop (List.mem_of_mem_take hu))
  esc := fun x hx => h.esc x (List.mem_of_mem_drop (List.mem_of_mem_take hx))

theorem blk_write {sz p : Nat} {xs ys : List D} {us us2 : List Value} {cs cs1 : Array Value} (hE : Els R w sz xs us) (hE2 : Els R w sz ys us2) (hp : p ≤ xs.length) (hcs : ∀ (j : Nat) v, (cellsOf us)[j]? = some v → cs[j]? = some v) (hroom : (p + ys.length) * sz ≤ cs.size)
    (h1 : cs1.toList = setRange cs.toList (p * sz) (cellsOf us2)) : ∃ us', Els R w sz (xs.take p ++ (ys ++ xs.drop (p + ys.length))) us' ∧ ∀ (j : Nat) v, (cellsOf us')[j]? = some v → cs1[j]? = some v := by
  have hA := hE.sub 0 p
  have hC := hE.sub (p + ys.length) xs.length
  have e1 : (xs.drop (p + ys.length)).take xs.length = xs.drop (p + ys.length) := List.take_of_length_le (by simp)
  have e2 : (us.drop (p + ys.length)).take xs.length = us.drop (p + ys.length) := List.take_of_length_le (by simp [hE.len])
  rw [e1, e2] at hC
  simp only [List.drop_zero] at hA
  have hEn := hA.append (hE2.append hC)
  refine ⟨_, hEn, fun j v hj => ?_⟩
  obtain ⟨i, k, u, g1, g2, rfl⟩ := flat_inv _ hEn.size j v hj
  have hk : k < sz := by rw [← hEn.size u (List.mem_of_getElem? g1)]; exact (Array.getElem?_eq_some_iff.1 g2).1
  have hlp : (us.take p).length = p := by rw [List.length_take, hE.len]; omega
  have hl2 : (cellsOf us2).length = ys.length * sz := by rw [flat_len us2 hE2.size, hE2.len]
  rw [← Array.getElem?_toList, h1, setRange_get, hl2]
  by_cases c1 : i < p
  · rw [List.getElem?_append_left (by omega), List.getElem?_take, if_pos c1] at g1
    have := ltbl (sz := sz) c1 hk
    rw [if_neg (by omega), Array.getElem?_toList]
    exact hcs _ v (flat_get us hE.size i k u v g1 g2)
  · rw [List.getElem?_append_right (by omega), hlp] at g1
    have hge : p * sz ≤ i * sz := Nat.mul_le_mul_right sz (by omega)
    by_cases c2 : i - p < ys.length
    · rw [List.getElem?_append_left (by rw [hE2.len]; exact c2)] at g1
      have h3 := ltbl (sz := sz) c2 hk
      rw [Nat.sub_mul] at h3
      have h4 : (p + ys.length) * sz = p * sz + ys.length * sz := Nat.add_mul _ _ _
      rw [if_pos (by omega), if_pos (by simp only [Array.length_toList]; omega)]
      have := flat_get us2 hE2.size (i - p) k u v g1 g2
      rw [Nat.sub_mul] at this
      rw [← this]
      congr 1; omega
    · rw [List.getElem?_append_right (by rw [hE2.len]; omega), List.getElem?_drop, hE2.len] at g1
      have h3 : (p + ys.length) * sz ≤ i * sz := Nat.mul_le_mul_right sz (by omega)
      rw [Nat.add_mul] at h3
      rw [if_neg (by omega), Array.getElem?_toList]
      have h5 : p + ys.length + (i - p - ys.length) = i := by omega
      rw [h5] at g1
      exact hcs _ v (flat_get us hE.size i k u v g1 g2)

/-! how append runs -/
theorem run_first {i : TypeInfo} {ad : Option Addr} {n len cap : Nat} {news : List Value} (hl : news.length = n * i.size) (h : 0 < n → ∃ b off, ad = some ⟨b, off, none⟩ ∧ ∀ (j : Nat) v, news[j]? = some v → w.cell? ⟨b, off + j, none⟩ = some v) :
    (Builtin.firstCells i.size n (.slice ad len cap)).run P w = .ok news.toArray w := by
  rcases Nat.eq_zero_or_pos n with rfl | hn
  · have : news = [] := by simpa using hl
    subst this
    cases ad with
    | none => simp [Builtin.firstCells]
    | some ad => simp [Builtin.firstCells, loadCells, loadCellsFrom]
  · obtain ⟨b, off, rfl, h2⟩ := h hn
    exact run_firstCells_some (P := P) w i.size n ⟨b, off, none⟩ len cap news hl (fun j v hj => by rw [Addr.add_lit]; exact h2 j v hj)

theorem run_app_grow {t t2 ty el el2 : TypeId} {i : TypeInfo} {zv : Value} (ht : P.underlying t = some (.slice el)) (ht2 : P.underlying t2 = some (.slice el2)) (hi : P.info? el = some i) (hz : i.zero = some zv) {ad ad2 : Option Addr} {sLen sCap n cap2 : Nat} {olds news : List Value}
    (hfo : (Builtin.firstCells i.size sLen (.slice ad sLen sCap)).run P w.drew = .ok olds.toArray w.drew) (hf : (Builtin.firstCells i.size n (.slice ad2 n cap2)).run P w.drew = .ok news.toArray w.drew)
    (hg : sCap < sLen + n) (h63 : ((sLen + n : Nat) : Int) ≤ 9223372036854775807) (hfit : Builtin.nextslicecap (sLen + n) sCap * i.bytes ≤ 281474976710656) :
    (Builtin.append_ #[t, t2] ty #[.slice ad sLen sCap, .slice ad2 n cap2]).run P w =
      .ok (.slice (some ⟨w.heap.size, 0, none⟩) (sLen + n) (grownCap w (sLen + n) sCap el))
        (w.drew.alloc (.cells (olds.toArray ++ news.toArray ++ Builtin.zeroCells zv.cells (grownCap w (sLen + n) sCap el - (sLen + n))) el)) := by
  have hn : ¬ (sLen + n ≤ sCap) := by omega
  have h63' : ¬ (9223372036854775807 < ((sLen : Int) + (n : Int))) := by omega
  have h48' : ¬ (281474976710656 < Builtin.nextslicecap (sLen + n) sCap * i.bytes) := by omega
  simp [Builtin.append_, run_underlying ht, run_underlying ht2, sizeOf, typeInfo, zeroValue, hi, hz, Builtin.lenOf, hn, h63', h48', Question.forced, hf, hfo, newRow, grownCap]
  congr 2
  apply Array.ext'
  simp [List.append_assoc]

theorem run_app_room {t t2 ty el el2 : TypeId} {i : TypeInfo} (ht : P.underlying t = some (.slice el)) (ht2 : P.underlying t2 = some (.slice el2)) (hi : P.info? el = some i) {ad ad2 : Option Addr} {sLen sCap n cap2 : Nat} {news : List Value} {w' : World}
    (hf : (Builtin.firstCells i.size n (.slice ad2 n cap2)).run P w = .ok news.toArray w) (hroom : sLen + n ≤ sCap)
    (hst : ∀ b, ad = some b → (storeCells (b.add (sLen * i.size)) news).run P w = .ok () w') (h0 : ad = none → w' = w) :
    (Builtin.append_ #[t, t2] ty #[.slice ad sLen sCap, .slice ad2 n cap2]).run P w = .ok (.slice ad (sLen + n) sCap) w' := by
  cases ad with
  | none =>
    rw [h0 rfl]
    simp [Builtin.append_, run_underlying ht, run_underlying ht2, sizeOf, typeInfo, hi, Builtin.lenOf, hroom, hf]
  | some b =>
    have := hst b rfl
    simp [Builtin.append_, run_underlying ht, run_underlying ht2, sizeOf, typeInfo, hi, Builtin.lenOf, hroom, hf, this]

theorem zeroCells_size (z : Array Value) (n : Nat) : (Builtin.zeroCells z n).size = n * z.size := by simp [Builtin.zeroCells]

theorem s_append (pre : Pre G R w e a Hm) {t t2 el el2 : TypeId} {sz : Nat} {i : TypeInfo} {zv : Value} {x y : Operand} {x' y' : Opd} {v : V} {up : List (Nat × Blk)} {nw : List Blk} (hop : o.op = .call { callee := .builtin .append, args := #[x, y], argTypes := #[t, t2] })
    (he : ElTy P t el sz i zv) (ht2 : P.underlying t2 = some (.slice el2)) (hx : okOpd G x x' = true) (hy : okOpd G y y' = true) (h : appendE nid Hm sz (x'.val e) (y'.val e) = some (v, up, nw)) (hn : ∀ i, nid ≤ i → i < nid + nw.length → R.M i = none) (hp : Placed R.H up nid nw H') :
    OpOK P o a w (Post R w nid nw.length H' v) := by
  have hv1 := pre.opd hx
  have hv2 := pre.opd hy
  unfold appendE at h
  cases hes : elems Hm (y'.val e) with
  | none => rw [hes] at h; cases h
  | some ys =>
    rw [hes] at h
    dsimp only at h
    cases hsz : szAt sz ys 0 with
    | false => rw [hsz] at h; cases h
    | true =>
      rw [hsz] at h
      simp only [cond_true] at h
      obtain ⟨us2, ad2, cap2, q1, q2, hE2, q4⟩ := src_ok pre hes hsz hv2
      have hl2 : (cellsOf us2).length = ys.length * i.size := by rw [flat_len us2 hE2.size, hE2.len, he.s]
      have hloc : 0 < ys.length → ∃ b off, ad2 = some ⟨b, off, none⟩ ∧ ∀ (j : Nat) v, (cellsOf us2)[j]? = some v → w.cell? ⟨b, off + j, none⟩ = some v := fun h => q4 (List.length_pos_iff.1 h)
      have hf := run_first (P := P) (w := w) (ad := ad2) (len := ys.length) (cap := cap2) hl2 hloc
      have hfd := run_first (P := P) (w := w.drew) (ad := ad2) (len := ys.length) (cap := cap2) hl2 hloc
      have fin : ∀ {v : V} {u : Value} {w' : World} {n : Nat}, (Builtin.append_ #[t, t2] o.type #[a.eval x, a.eval y]).run P w = .ok u w' → Post R w nid n H' v u w' → OpOK P o a w (Post R w nid n H' v) :=
        fun h1 h2 => opOK_v (s := Builtin.append_ #[t, t2] o.type #[a.eval x, a.eval y]) (by rw [exec_builtin hop, BigFrame.builtin_append]; simp) h1 h2
      -- it grows
      have grow : ∀ {R1 : RP} {xs : List D} {us1 : List Value} {ad : Option Addr} {cap : Nat}, R1.OK w → R1.M nid = none → Els R1 w sz xs us1 → Els R1 w sz ys us2 → Placed R1.H [] nid [.arr sz (xs ++ ys)] H' → (∀ {n H' v u w'}, Post R1 w nid n H' v u w' → Post R w nid n H' v u w') →
          a.eval x = .slice ad xs.length cap → (0 < xs.length → ∃ b off, ad = some ⟨b, off, none⟩ ∧ ∀ (j : Nat) v, (cellsOf us1)[j]? = some v → w.cell? ⟨b, off + j, none⟩ = some v) → cap < xs.length + ys.length → xs.length + ys.length ≤ lim →
          OpOK P o a w (Post R w nid 1 H' (.sl nid sz)) := by
        intro R1 xs us1 ad cap ok1 hn1 hE1 hE2' hp1 hup h1 h2 h3 h4
        have hl1 : (cellsOf us1).length = xs.length * i.size := by rw [flat_len us1 hE1.size, hE1.len, he.s]
        have hfo := run_first (P := P) (w := w.drew) (ad := ad) (len := xs.length) (cap := cap) hl1 h2
        have hby := he.by_
        have h4' : xs.length + ys.length ≤ 1073741824 := h4
        have hmul : (xs.length + ys.length) * i.bytes ≤ 140737488355328 := Nat.le_trans (Nat.mul_le_mul h4' hby) (by omega)
        have hrun := run_app_grow (P := P) (w := w) (ty := o.type) he.u ht2 he.inf he.z hfo hfd h3 (by omega) (growslice_fits h3 hmul)
        have hge := grownCap_ge w (xs.length + ys.length) cap el
        refine fin (by rw [h1, q1]; exact hrun) (hup (Post.drew ?_))
        have hd : Ext R1 w R1 w.drew := Ext.draw rfl rfl rfl rfl
        have hE := (hE1.append hE2').ext hd ok1.b01
        have hll : (xs ++ ys).length = xs.length + ys.length := List.length_append
        have := post_arr (R := R1) (w := w.drew) (el := el) (cap := grownCap w (xs.length + ys.length) cap el) (ok1.draw rfl rfl rfl rfl) he.pos hE (cs := (cellsOf us1).toArray ++ (cellsOf us2).toArray ++ Builtin.zeroCells zv.cells (grownCap w (xs.length + ys.length) cap el - (xs.length + ys.length))) (fun j v hv => by
          rw [cellsOf_append] at hv
          have hlt := (List.getElem?_eq_some_iff.1 hv).1
          rw [Array.getElem?_append_left (by simpa using hlt)]
          simpa using hv) (by
          simp only [Array.size_append, List.size_toArray, hl1, hl2, he.s, zeroCells_size, he.zs]
          rw [← Nat.add_mul, ← Nat.add_mul]; congr 1; omega) (by rw [hll]; exact hge) hn1 hp1
        rwa [hll] at this
      -- nothing lies there yet
      have fresh : ∀ {R1 : RP} {ad : Option Addr}, R1.OK w → R1.M nid = none → Els R1 w sz ys us2 → Placed R1.H [] nid [.arr sz ys] H' → (∀ {n H' v u w'}, Post R1 w nid n H' v u w' → Post R w nid n H' v u w') → a.eval x = .slice ad 0 0 → ys.length ≤ lim →
          OpOK P o a w (Post R w nid 1 H' (.sl nid sz)) := by
        intro R1 ad ok1 hn1 hE2' hp1 hup h1 h4
        rcases Nat.eq_zero_or_pos ys.length with hy0 | hy0
        · have hys : ys = [] := List.eq_nil_of_length_eq_zero hy0
          subst hys
          have hus : cellsOf us2 = [] := List.eq_nil_of_length_eq_zero (by simpa using hl2)
          rw [hus] at hf
          refine fin (u := .slice ad 0 0) (w' := w) (by
            rw [h1, q1]
            exact run_app_room (P := P) he.u ht2 he.inf hf (Nat.le_refl _) (fun b _ => rfl) (fun _ => rfl)) (hup (Post.number ok1 he.pos hn1 hp1 ⟨_, rfl⟩))
        · have := grow (R1 := R1) (xs := []) (us1 := []) (ad := ad) (cap := 0) ok1 hn1 ⟨rfl, by simp, by simp, by simp⟩ hE2' hp1 hup h1 (fun h => by simp at h) (by simpa using hy0) (by simpa using h4)
          exact this
      -- it is written where it lies
      have room : ∀ {b c off p cap len : Nat} {xs : List D} {us : List Value} {cs : Array Value} {el' : TypeId}, a.eval x = .slice (some ⟨c, off, none⟩) len cap → off + len * sz = p * sz → len + ys.length ≤ cap → w.heap[c]? = some (.cells cs el' (0, 0)) → (p + ys.length) * sz ≤ cs.size →
          ∃ cs1 : Array Value, (Builtin.append_ #[t, t2] o.type #[a.eval x, a.eval y]).run P w = .ok (.slice (some ⟨c, off, none⟩) (len + ys.length) cap) (w.setCells c (p * sz) (cellsOf us2)) ∧ cs1.toList = setRange cs.toList (p * sz) (cellsOf us2) ∧ (w.setCells c (p * sz) (cellsOf us2)).heap[c]? = some (.cells cs1 el' (0, 0)) ∧ cs1.size = cs.size := by
        intro b c off p cap len xs us cs el' h1 h2 h3 h4 h5
        obtain ⟨⟨cs1, g1, g2⟩, _⟩ := heap_setCells c (cellsOf us2) (p * sz) w cs el' (0, 0) h4
        refine ⟨cs1, ?_, g1, g2, by rw [← Array.length_toList, g1, setRange_len, Array.length_toList]⟩
        rw [h1, q1]
        have hst := run_storeCells_cells (P := P) c (p * sz) (cellsOf us2) 0 w (fun j hj => by
          rw [cell_of_heap h4]
          rw [hl2, he.s] at hj
          have : p * sz + 0 + j < cs.size := by rw [Nat.add_mul] at h5; omega
          rw [Array.getElem?_eq_getElem this]; rfl) (fun j _ => Unfz.not (show Unfz (0, 0) from Nat.le_refl _) h4 _) hE2.one
        refine run_app_room (P := P) he.u ht2 he.inf hf h3 (fun b hb => ?_) (fun h => by cases h)
        cases hb
        rw [Addr.add_lit, he.s, h2]
        exact hst
      split at h
      · rename_i szx hxe
        rw [hxe] at hv1
        obtain ⟨ad, hu1⟩ := hv1
        cases hc : Nat.ble ys.length lim with
        | false => rw [hc] at h; cases h
        | true =>
          rw [hc] at h
          simp only [cond_true, Option.some.injEq, Prod.mk.injEq] at h
          obtain ⟨rfl, rfl, rfl⟩ := h
          have hn := hn nid (Nat.le_refl _) (by simp)
          exact fresh pre.ok hn hE2 hp (fun h => h) hu1 (Nat.le_of_ble_eq_true hc)
      · rename_i b sz' hxe
        rw [hxe] at hv1
        cases hb : nth Hm b with
        | none => rw [hb] at h; cases h
        | some blk =>
          rw [hb] at h
          cases blk <;> try (cases h; done)
          rename_i sz'' xs
          dsimp only at h
          cases hs : (Nat.beq sz sz' && Nat.beq sz sz'') with
          | false => rw [hs] at h; cases h
          | true =>
            rw [hs] at h
            simp only [cond_true] at h
            simp only [Bool.and_eq_true] at hs
            obtain rfl := Nat.eq_of_beq_eq_true hs.1
            obtain rfl := Nat.eq_of_beq_eq_true hs.2
            cases hc : Nat.ble (xs.length + ys.length) lim with
            | false => rw [hc] at h; cases h
            | true =>
              rw [hc] at h
              simp only [cond_true, Option.some.injEq, Prod.mk.injEq] at h
              obtain ⟨rfl, rfl, rfl⟩ := h
              have hnn : R.M nid = none := hn nid (Nat.le_refl _) (by simp)
              have hc' := Nat.le_of_ble_eq_true hc
              obtain ⟨m, r1, r2, r3, r4⟩ := own_sl pre hb hv1
              have ok1 : RP.OK { R with H := updH R.H (kills [b]) } w := pre.ok.kill (fun i blk => kill_le [b] _ i blk)
              have hx1 : Ext R w { R with H := updH R.H (kills [b]) } w := Ext.kill (fun i blk => kill_le [b] _ i blk)
              obtain ⟨s0, ad, cap, s1, s2, s3⟩ := r4
              rcases s3 with ⟨s3, s4⟩ | ⟨c, cs, el', fr', s4, s5, s6, s7⟩
              · have hxs : xs = [] := List.eq_nil_of_length_eq_zero s4.symm
                subst hxs
                subst s3
                exact fresh ok1 hnn (hE2.ext hx1 pre.ok.b01) (show Placed (updH R.H (kills [b])) [] nid [.arr sz ys] H' from hp) (fun h => Post.afterKill pre.ok h) s1 (by simpa using hc')
              · subst s4; subst s5
                obtain ⟨us1, cs2, el2', hE1, t1, t2'⟩ := blk_els' r3
                rw [s6] at t1; cases t1; have t1 := s6
                by_cases hroom : xs.length + ys.length ≤ cap
                · obtain ⟨cs1, u1, u2, u3, u4⟩ := room (b := b) (p := xs.length) (xs := xs) (us := us1) s1 (by rw [Nat.zero_mul, Nat.zero_add]) hroom t1 (by rw [s7, Nat.zero_add]; exact Nat.mul_le_mul_right sz hroom)
                  obtain ⟨_, g3, g4, g5, g6, g7⟩ := heap_setCells c (cellsOf us2) (xs.length * sz) w cs el' (0, 0) t1
                  refine fin u1 (Post.reuse pre.ok (by rw [← nth_eq]; exact r2) (by simp) r1 hnn t1 u3 u4 g3 g4 g5 g6 g7 hp fun R' hx' hM hH => ⟨?_, ?_⟩)
                  · obtain ⟨us', v1, v2⟩ := blk_write (R := R') (hE1.ext hx' pre.ok.b01) (hE2.ext hx' pre.ok.b01) (Nat.le_refl _) t2' (by rw [s7, Nat.zero_add]; exact Nat.mul_le_mul_right sz hroom) u2
                    have hlist : xs.take xs.length ++ (ys ++ xs.drop (xs.length + ys.length)) = xs ++ ys := by
                      rw [List.take_length, List.drop_eq_nil_of_le (by omega), List.append_nil]
                    rw [hlist] at v1
                    exact Els.blk v1 he.pos u3 v2
                  · refine ⟨⟨_, _, _, rfl⟩, _, hM, fun zs hz => ?_⟩
                    rw [nth_eq, hH] at hz; cases hz
                    exact ⟨by omega, _, _, by rw [List.length_append], by rw [List.length_append]; exact hroom, .inr ⟨c, cs1, el', (0, 0), rfl, by rw [Nat.zero_mul], u3, by rw [u4, s7]⟩⟩
                · refine grow (us1 := us1) ok1 hnn (hE1.ext hx1 pre.ok.b01) (hE2.ext hx1 pre.ok.b01) hp (fun h => Post.afterKill pre.ok h) s1 (fun _ => ⟨c, 0 * sz, rfl, fun j v hj => ?_⟩) (by omega) hc'
                  rw [cell_of_heap t1, Nat.zero_mul, Nat.zero_add]
                  exact t2' j v hj
      · rename_i b sz' of len hxe
        rw [hxe] at hv1
        cases hb : nth Hm b with
        | none => rw [hb] at h; cases h
        | some blk =>
          rw [hb] at h
          cases blk <;> try (cases h; done)
          rename_i sz'' xs
          dsimp only at h
          cases hs : (Nat.beq sz sz' && Nat.beq sz sz'' && Nat.ble (of + len + ys.length) xs.length) with
          | false => rw [hs] at h; cases h
          | true =>
            rw [hs] at h
            simp only [cond_true, Option.some.injEq, Prod.mk.injEq] at h
            obtain ⟨rfl, rfl, rfl⟩ := h
            simp only [Bool.and_eq_true, Nat.ble_eq] at hs
            obtain ⟨⟨hs1, hs2⟩, hs3⟩ := hs
            obtain rfl := Nat.eq_of_beq_eq_true hs1
            obtain rfl := Nat.eq_of_beq_eq_true hs2
            obtain ⟨m, r1, r2, r3, r4⟩ := own_slp pre hb hv1
            obtain ⟨s0, ad, cap, s1, s2, s3⟩ := r4
            rcases s3 with ⟨s3, s4⟩ | ⟨c, cs, el', fr', s4, s5, s6, s7⟩
            · subst s3
              have hl0 : len = 0 := by omega
              subst hl0
              have hy0 : ys.length = 0 := by omega
              have hys : ys = [] := List.eq_nil_of_length_eq_zero hy0
              subst hys
              have hus : cellsOf us2 = [] := List.eq_nil_of_length_eq_zero (by simpa using hl2)
              rw [hus] at hf
              refine fin (u := .slice ad 0 0) (w' := w) (by
                rw [s1, q1]
                exact run_app_room (P := P) he.u ht2 he.inf hf (Nat.le_refl _) (fun b _ => rfl) (fun _ => rfl)) ?_
              have hlist : xs.take (of + 0) ++ ([] ++ xs.drop (of + 0 + ([] : List D).length)) = xs := by simp
              rw [hlist] at hp
              have hsame : updH R.H [(b, .arr sz xs)] = R.H := by
                show setAt R.H b (.arr sz xs) = R.H
                rw [setAt_eq]
                apply List.ext_getElem?
                intro j
                rw [List.getElem?_set]
                split
                · rename_i hbj
                  subst hbj
                  rw [nth_eq] at r2
                  rw [if_pos (List.getElem?_eq_some_iff.1 r2).1, r2]
                · rfl
              have hp' : Placed R.H [] nid [] H' := fun j => by
                have := hp j
                rwa [hsame] at this
              refine Post.stay pre.ok hp' ?_
              rw [s1] at hv1
              exact hv1
            · subst s4; subst s5
              obtain ⟨us1, cs2, el2', hE1, t1, t2'⟩ := blk_els' r3
              rw [s6] at t1; cases t1; have t1 := s6
              have hxl : xs.length ≤ of + cap := by
                obtain ⟨k0, _, k1⟩ := r3
                rcases k1 with ⟨k1, _⟩ | ⟨c', cs2, el2', k1, k2, k3, _⟩
                · cases k1
                · cases k1
                  rw [t1] at k2; cases k2
                  rw [s7] at k3
                  exact Nat.le_of_mul_le_mul_right k3 k0
              have hfit : (of + len + ys.length) * sz ≤ cs.size := by
                rw [s7]; exact Nat.mul_le_mul_right sz (by omega)
              obtain ⟨cs1, u1, u2, u3, u4⟩ := room (b := b) (p := of + len) (xs := xs) (us := us1) s1 (by rw [Nat.add_mul]) (by omega) t1 hfit
              obtain ⟨_, g3, g4, g5, g6, g7⟩ := heap_setCells c (cellsOf us2) ((of + len) * sz) w cs el' (0, 0) t1
              have hnl : (xs.take (of + len) ++ (ys ++ xs.drop (of + len + ys.length))).length = xs.length := by
                simp only [List.length_append, List.length_take, List.length_drop]; omega
              refine fin u1 (Post.write (ks := []) pre.ok (by rw [← nth_eq]; exact r2) r1 (blk := .arr sz (xs.take (of + len) ++ (ys ++ xs.drop (of + len + ys.length)))) (old := .arr sz xs) ⟨rfl, hnl⟩ t1 u3 u4 g3 g4 g5 g6 g7 (by simp) hp (fun R' hx' hL hlv hb0 => ?_) (fun R' hx' hM hh => ?_))
              · obtain ⟨us', v1, v2⟩ := blk_write (R := R') (hE1.ext hx' pre.ok.b01) (hE2.ext hx' pre.ok.b01) (by omega) t2' hfit u2
                exact Els.blk v1 he.pos u3 v2
              · refine ⟨⟨_, _, _, rfl⟩, some c, by rw [hM]; exact r1, fun zs hz => ?_⟩
                rw [nth_eq] at hz
                have := hh _ hz (by simp)
                cases this
                exact ⟨by rw [hnl]; omega, _, _, rfl, by omega, .inr ⟨c, cs1, el', (0, 0), rfl, rfl, u3, by rw [u4, s7]⟩⟩
      · cases h
theorem Ext.aside (ok : R.OK w) (ob : Obj) : Ext R w R (w.alloc ob) where
  m := fun i x hx => hx
  h := fun i x blk _ hb hd => ⟨blk, hb, Blk.like_refl hd⟩
  b1 := rfl
  b0 := rfl
  same := fun b hb _ => Go.RowKit.Below.heap_alloc _ _ _ hb
  row := fun b cs el fr hb => by
    have hlt : b < w.heap.size := (Array.getElem?_eq_some_iff.1 hb).1
    exact ⟨cs, el, fr, by rw [Go.RowKit.Below.heap_alloc _ _ _ hlt]; exact hb, rfl⟩
  grow := by show w.heap.size ≤ (w.heap.push ob).size; simp
  liv := fun c _ h => h
  os := rfl
  tape := rfl
  output := rfl

theorem RP.OK.aside (ok : R.OK w) (ob : Obj) : R.OK (w.alloc ob) where
  b01 := ok.b01
  al := ok.al
  inj := ok.inj
  lt := fun i c h => Nat.lt_of_lt_of_le (ok.lt i c h) (Ext.aside ok ob).grow
  blk := fun i m blk h hm => (Ext.aside ok ob).blkOK ok.b01 (fun c hc => Go.RowKit.Below.heap_alloc _ _ _ (ok.lt i c (by rw [hm, hc]))) (ok.blk i m blk h hm)
  nb := ok.nb
  bl := fun c h => Nat.lt_of_lt_of_le (ok.bl c h) (Ext.aside ok ob).grow

theorem s_appendD (pre : Pre G R w e a Hm) {t t2 el el2 : TypeId} {sz : Nat} {i : TypeInfo} {zv : Value} {x y : Operand} {x' y' : Opd} {v : V} (hop : o.op = .call { callee := .builtin .append, args := #[x, y], argTypes := #[t, t2] })
    (he : ElTy P t el sz i zv) (ht2 : P.underlying t2 = some (.slice el2)) (hx : okOpd G x x' = true) (hy : okOpd G y y' = true) (h : appendDE Hm sz (x'.val e) (y'.val e) = some v) (hp : Placed R.H [] nid [] H') :
    OpOK P o a w (Post R w nid 0 H' v) := by
  have hv1 := pre.opd hx
  have hv2 := pre.opd hy
  unfold appendDE at h
  split at h
  · rename_i szx hxe
    rw [hxe] at hv1
    obtain ⟨ad, hu1⟩ := hv1
    cases hes : elems Hm (y'.val e) with
    | none => rw [hes] at h; cases h
    | some ys =>
      rw [hes] at h
      dsimp only at h
      cases hc : (szAt sz ys 0 && Nat.ble ys.length lim) with
      | false => rw [hc] at h; cases h
      | true =>
        rw [hc] at h
        simp only [cond_true, Option.some.injEq] at h
        subst h
        simp only [Bool.and_eq_true] at hc
        have h4 : ys.length ≤ 1073741824 := Nat.le_of_ble_eq_true hc.2
        obtain ⟨us2, ad2, cap2, q1, q2, hE2, q4⟩ := src_ok pre hes hc.1 hv2
        have hl2 : (cellsOf us2).length = ys.length * i.size := by rw [flat_len us2 hE2.size, hE2.len, he.s]
        have hloc : 0 < ys.length → ∃ b off, ad2 = some ⟨b, off, none⟩ ∧ ∀ (j : Nat) v, (cellsOf us2)[j]? = some v → w.cell? ⟨b, off + j, none⟩ = some v := fun h => q4 (List.length_pos_iff.1 h)
        have hf := run_first (P := P) (w := w) (ad := ad2) (len := ys.length) (cap := cap2) hl2 hloc
        have hfd := run_first (P := P) (w := w.drew) (ad := ad2) (len := ys.length) (cap := cap2) hl2 hloc
        have fin : ∀ {v : V} {u : Value} {w' : World} {n : Nat}, (Builtin.append_ #[t, t2] o.type #[a.eval x, a.eval y]).run P w = .ok u w' → Post R w nid n H' v u w' → OpOK P o a w (Post R w nid n H' v) :=
          fun h1 h2 => opOK_v (s := Builtin.append_ #[t, t2] o.type #[a.eval x, a.eval y]) (by rw [exec_builtin hop, BigFrame.builtin_append]; simp) h1 h2
        rcases Nat.eq_zero_or_pos ys.length with hy0 | hy0
        · have hys : ys = [] := List.eq_nil_of_length_eq_zero hy0
          subst hys
          have hus : cellsOf us2 = [] := List.eq_nil_of_length_eq_zero (by simpa using hl2)
          rw [hus] at hf
          refine fin (u := .slice ad 0 0) (w' := w) (by
            rw [hu1, q1]
            exact run_app_room (P := P) he.u ht2 he.inf hf (Nat.le_refl _) (fun b _ => rfl) (fun _ => rfl)) (Post.stay pre.ok hp ⟨ad, 0, 0, rfl, rfl, Nat.le_refl _, by simp, fun hne => absurd rfl hne⟩)
        · have hby := he.by_
          have hmul : (0 + ys.length) * i.bytes ≤ 140737488355328 := by rw [Nat.zero_add]; exact Nat.le_trans (Nat.mul_le_mul h4 hby) (by omega)
          have hfo : (Builtin.firstCells i.size 0 (.slice ad 0 0)).run P w.drew = .ok ([] : List Value).toArray w.drew := run_first (by simp) (fun h => by omega)
          have hrun := run_app_grow (P := P) (w := w) (ty := o.type) he.u ht2 he.inf he.z hfo hfd (sLen := 0) (sCap := 0) (by omega) (by omega) (growslice_fits (by omega) hmul)
          have hge := grownCap_ge w (0 + ys.length) 0 el
          refine fin (by rw [hu1, q1]; exact hrun) (Post.drew ?_)
          have okd : R.OK w.drew := pre.ok.draw rfl rfl rfl rfl
          have xd : Ext R w R w.drew := Ext.draw rfl rfl rfl rfl
          have xa := Ext.aside okd (.cells (([] : List Value).toArray ++ (cellsOf us2).toArray ++ Builtin.zeroCells zv.cells (grownCap w (0 + ys.length) 0 el - (0 + ys.length))) el)
          refine ⟨R, xa, okd.aside _, hp.same.symm, ⟨some ⟨w.heap.size, 0, none⟩, 0 + ys.length, _, rfl, Nat.zero_add _, hge, hE2.esc, fun _ => ⟨w.heap.size, 0, sz, rfl, ⟨fun hl => ?_, fun hb => ?_⟩, ?_, denEls_mk ys 0 fun j x hj => ?_⟩⟩, fun i h _ => h⟩
          · obtain ⟨i', _, hi'⟩ := hl
            exact absurd (pre.ok.lt i' _ hi') (Nat.lt_irrefl _)
          · exact absurd (pre.ok.bl _ hb) (Nat.lt_irrefl _)
          · show w.heap.size < (w.heap.push _).size; simp
          · have hju : j < us2.length := by rw [hE2.len]; exact (List.getElem?_eq_some_iff.1 hj).1
            have hu : us2[j]? = some us2[j] := List.getElem?_eq_getElem hju
            refine ⟨us2[j], xa.den pre.ok.b01 (xd.den pre.ok.b01 (hE2.den j x _ hj hu)), hE2.size _ (List.getElem_mem hju), fun k v hk => ?_⟩
            have hfl := flat_get us2 hE2.size j k us2[j] v hu hk
            have hheap : (w.drew.alloc (.cells (([] : List Value).toArray ++ (cellsOf us2).toArray ++ Builtin.zeroCells zv.cells (grownCap w (0 + ys.length) 0 el - (0 + ys.length))) el)).heap[w.heap.size]? = some (.cells (([] : List Value).toArray ++ (cellsOf us2).toArray ++ Builtin.zeroCells zv.cells (grownCap w (0 + ys.length) 0 el - (0 + ys.length))) el (0, 0)) := by
              show (w.heap.push _)[w.heap.size]? = _
              simp
            rw [cell_of_heap hheap]
            have hlt := (List.getElem?_eq_some_iff.1 hfl).1
            rw [Array.getElem?_append_left (by simp; omega), Array.getElem?_append_right (by simp)]
            simpa using hfl
  · cases h
end

end Go.Proofs.YtljgncbdagmeeaaDoorE
