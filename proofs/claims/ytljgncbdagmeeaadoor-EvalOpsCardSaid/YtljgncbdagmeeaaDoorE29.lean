/- Regions that draw their order: whichever order is drawn. -/
import Derived.Test.YtljgncbdagmeeaaDoorE28
namespace Go.Proofs.YtljgncbdagmeeaaDoorE
open Go
set_option linter.unusedVariables false
set_option linter.unusedSimpArgs false

/-! heaps out of sight -/
theorem hideR_get : ∀ (n : Nat) (H : Heap) (b i : Nat) (blk : Blk), (hideR H b n)[i]? = some blk → blk ≠ .dead → H[i]? = some blk ∧ ¬ (b ≤ i ∧ i < b + n)
  | 0, H, b, i, blk, h, _ => ⟨h, by omega⟩
  | n + 1, H, b, i, blk, h, hd => by
    obtain ⟨h1, h2⟩ := hideR_get n _ _ i blk h hd
    rw [setAt_eq, List.getElem?_set] at h1
    by_cases hbi : b = i
    · rw [if_pos hbi] at h1
      split at h1
      · cases h1; exact absurd rfl hd
      · cases h1
    · rw [if_neg hbi] at h1
      exact ⟨h1, by omega⟩

theorem hideH_get (pos : List (Nat × Nat)) : ∀ (mask : List Nat) (H : Heap) (i : Nat) (blk : Blk), (hideH H pos mask)[i]? = some blk → blk ≠ .dead → H[i]? = some blk ∧ ∀ m ∈ mask, ∀ b n, pos[m]? = some (b, n) → ¬ (b ≤ i ∧ i < b + n)
  | [], H, i, blk, h, _ => ⟨h, by simp⟩
  | m :: mask, H, i, blk, h, hd => by
    simp only [hideH] at h
    rw [nth_eq] at h
    cases hp : pos[m]? with
    | none =>
      rw [hp] at h
      obtain ⟨h1, h2⟩ := hideH_get pos mask H i blk h hd
      refine ⟨h1, fun k hk b n hb => ?_⟩
      rcases List.mem_cons.1 hk with rfl | hk
      · rw [hp] at hb; cases hb
      · exact h2 k hk b n hb
    | some q =>
      obtain ⟨b0, n0⟩ := q
      rw [hp] at h
      obtain ⟨h1, h2⟩ := hideH_get pos mask _ i blk h hd
      obtain ⟨h3, h4⟩ := hideR_get n0 H b0 i blk h1 hd
      refine ⟨h3, fun k hk b n hb => ?_⟩
      rcases List.mem_cons.1 hk with rfl | hk
      · rw [hp] at hb; cases hb; exact h4
      · exact h2 k hk b n hb

theorem Blk.like_symm {a b : Blk} (h : a.like b) : b.like a := by
  cases a <;> cases b <;> simp_all [Blk.like]

/-! what operations leave -/
theorem cls0_new {Γ : Ctx} {cf : CallF} {e : Env} {nid : Nat} {H : Heap} {op : O} {v : V} {up : List (Nat × Blk)} {nw : List Blk} (hc : cls0 op = true ∨ cls1 op = true) (h : opE Γ cf e nid H op = some (v, up, nw)) : nw = [] := by
  have key : ∀ (x : Option V), (match x with | some v => ret1 v | none => none) = some (v, up, nw) → nw = [] := fun x h => by
    cases x with
    | none => cases h
    | some y => exact (ret1_inv h).2.2
  have keyD : ∀ (x : Option D), (match x with | some r => ret1 (.d r) | none => none) = some (v, up, nw) → nw = [] := fun x h => by
    cases x with
    | none => cases h
    | some y => exact (ret1_inv h).2.2
  cases op <;> first | (rcases hc with hc | hc <;> cases hc; done) | skip
  case mov x => exact (ret1_inv h).2.2
  case mkfn f caps => exact (ret1_inv h).2.2
  case build z ps => simp only [opE] at h; split at h <;> first | exact (ret1_inv h).2.2 | cases h
  case pick c a b => simp only [opE] at h; split at h <;> first | exact (ret1_inv h).2.2 | cases h
  case conv k x => simp only [opE] at h; split at h <;> first | exact (ret1_inv h).2.2 | cases h
  case eqv ks neg x y =>
    simp only [opE] at h
    split at h
    · split at h
      · split at h
        · exact (ret1_inv h).2.2
        · cases h
      · cases h
    · cases h
  case field off n ag x =>
    simp only [opE] at h
    split at h
    · exact key _ h
    · exact key _ h
    · cases h
  case extract x i =>
    simp only [opE] at h
    split at h
    · exact key _ h
    · split at h <;> first | exact (ret1_inv h).2.2 | cases h
    · cases h
  all_goals (simp only [opE] at h; first | exact key _ h | exact keyD _ h)

theorem eff3_like {Γ : Ctx} {cf : CallF} {e : Env} {nid : Nat} {H : Heap} {op : O} {v : V} {up : List (Nat × Blk)} {nw : List Blk} (hs : (∃ n x y, op = .store n x y) ∨ ∃ sz x y, op = .append sz x y) (h : opE Γ cf e nid H op = some (v, up, nw)) (hu : effOK 3 up nw = true) :
    nw = [] ∧ (up = [] ∨ ∃ b blk old, up = [(b, blk)] ∧ H[b]? = some old ∧ old.like blk) := by
  simp only [effOK, Bool.and_eq_true, List.isEmpty_iff] at hu
  obtain ⟨hu, rfl⟩ := hu
  refine ⟨rfl, ?_⟩
  rcases hs with ⟨n, x, y, rfl⟩ | ⟨sz, x, y, rfl⟩
  · simp only [opE] at h
    unfold storeE at h
    split at h
    · rename_i b o _
      split at h
      · rename_i cs hb
        cases hc : (Nat.beq (y.val e).cells.length n && Nat.ble (o + n) cs.length && (y.val e).okb && flats (y.val e).cells) with
        | false => rw [hc] at h; cases h
        | true =>
          rw [hc] at h
          simp only [cond_true, Option.some.injEq, Prod.mk.injEq] at h
          obtain ⟨rfl, rfl, _⟩ := h
          exact .inr ⟨_, _, .cells cs, rfl, by rw [← nth_eq]; exact hb, trivial⟩
      · cases h
    · rename_i b sz i k _
      split at h
      · rename_i sz' xs hb
        cases hq : Nat.beq sz sz' with
        | false => rw [hq] at h; cases h
        | true =>
          obtain rfl := Nat.eq_of_beq_eq_true hq
          rw [hq] at h
          simp only [cond_true] at h
          split at h
          · rename_i x0 y0 ks h1 h2
            cases he : elem ks b with
            | true => rw [he] at h; cases h
            | false =>
              rw [he] at h
              simp only [cond_false] at h
              cases hc : (Nat.beq y0.cells.length n && Nat.ble (k + n) x0.cells.length && (V.d y0).okb && (x0.isAgg || !y0.isAgg)) with
              | false => rw [hc] at h; cases h
              | true =>
                rw [hc] at h
                simp only [cond_true, Option.some.injEq, Prod.mk.injEq] at h
                obtain ⟨rfl, rfl, _⟩ := h
                cases ks with
                | nil => exact .inr ⟨_, _, .arr sz xs, rfl, by rw [← nth_eq]; exact hb, rfl, by rw [setAt_eq]; simp⟩
                | cons a r => simp [noDead] at hu
          · cases h
      · cases h
    · cases h
  · simp only [opE] at h
    unfold appendE at h
    split at h
    · cases h
    · rename_i ys hy
      cases hz : szAt sz ys 0 with
      | false => rw [hz] at h; cases h
      | true =>
        rw [hz] at h
        simp only [cond_true] at h
        split at h
        · cases hl : Nat.ble ys.length lim with
          | false => rw [hl] at h; cases h
          | true => rw [hl] at h; cases h
        · rename_i b sz' _
          split at h
          · rename_i sz'' xs hb
            cases hc : (Nat.beq sz sz' && Nat.beq sz sz'') with
            | false => rw [hc] at h; cases h
            | true =>
              rw [hc] at h
              simp only [cond_true] at h
              cases hl : Nat.ble (xs.length + ys.length) lim with
              | false => rw [hl] at h; cases h
              | true => rw [hl] at h; cases h
          · cases h
        · rename_i b sz' o len _
          split at h
          · rename_i sz'' xs hb
            cases hc : (Nat.beq sz sz' && Nat.beq sz sz'' && Nat.ble (o + len + ys.length) xs.length) with
            | false => rw [hc] at h; cases h
            | true =>
              rw [hc] at h
              simp only [cond_true, Option.some.injEq, Prod.mk.injEq] at h
              obtain ⟨rfl, rfl, _⟩ := h
              simp only [Bool.and_eq_true, Nat.ble_eq] at hc
              obtain ⟨⟨c1, c2⟩, c3⟩ := hc
              refine .inr ⟨_, _, .arr sz'' xs, rfl, by rw [← nth_eq]; exact hb, (Nat.eq_of_beq_eq_true c2).symm, ?_⟩
              simp only [List.length_append, List.length_take, List.length_drop]
              omega
          · cases h
        · cases h

theorem effC_iff {e : Env} {H : Heap} {o : Op1} {up : List (Nat × Blk)} {nw : List Blk} (h : effC e H o up nw = true) : effOK o.eff up nw = true ∧ chkO e H up o.op = true := by
  unfold effC at h
  rwa [Bool.and_eq_true] at h

/-! the trace -/
def Trace.len (t : Trace) (j : Nat) : Nat := (t.HH j).length

theorem clsOf_eff {p : Op1} : (clsOf p ≤ 2 ↔ (p.eff = 0 ∨ p.eff = 1)) ∧ (clsOf p = 3 ↔ p.eff = 3) := by
  unfold clsOf
  split
  · rename_i h
    rw [h]
    cases cls0 p.op <;> cases cls1 p.op <;> simp
  · rename_i h; rw [h]; simp
  · rename_i h; rw [h]; simp
  · rename_i h0 h1 h3
    constructor
    · simp; exact ⟨h0, h1⟩
    · simp; exact h3
theorem clsOf_e1 {p : Op1} (h : p.eff = 1) : clsOf p = 1 := by unfold clsOf; simp only [h]
theorem clsOf_one {p : Op1} (h : clsOf p ≤ 1) : (clsOf p = 0 ∧ cls0 p.op = true) ∨ (clsOf p = 1 ∧ cls1 p.op = true ∧ p.eff ≠ 1) ∨ (clsOf p = 1 ∧ p.eff = 1) := by
  rcases (clsOf_eff (p := p)).1.1 (by omega) with h0 | h0
  · unfold clsOf at h ⊢
    rw [h0] at h ⊢
    cases h1 : cls0 p.op <;> cases h2 : cls1 p.op <;> simp_all
  · exact .inr (.inr ⟨clsOf_e1 h0, h0⟩)

/-! loads, over heaps -/
def locB : V → Option Nat
  | .ptr b _ => some b
  | .eptr b _ _ _ => some b
  | _ => none
theorem loadE_at {H H' : Heap} {n : Nat} {ag : Bool} {x v : V} (h : loadE H n ag x = some v) (hs : ∀ b, locB x = some b → ∀ blk, H[b]? = some blk → blk ≠ .dead → H'[b]? = some blk) : loadE H' n ag x = some v := by
  cases x <;> try exact h
  · rename_i d
    cases d <;> exact h
  · rename_i b o
    unfold loadE at h ⊢
    simp only [nth_eq] at h ⊢
    cases hb : H[b]? with
    | none => rw [hb] at h; cases h
    | some blk =>
      rw [hb] at h
      cases blk <;> try (cases h; done)
      rw [hs b rfl _ hb (by simp)]; exact h
  · rename_i b sz i k
    unfold loadE at h ⊢
    simp only [nth_eq] at h ⊢
    cases hb : H[b]? with
    | none => rw [hb] at h; cases h
    | some blk =>
      rw [hb] at h
      cases blk <;> try (cases h; done)
      rw [hs b rfl _ hb (by simp)]; exact h
theorem loadE_loc {H : Heap} {n : Nat} {ag : Bool} {x v : V} {b : Nat} (h : loadE H n ag x = some v) (hx : locB x = some b) : ∃ blk, H[b]? = some blk ∧ blk ≠ .dead := by
  cases x <;> try (cases hx; done)
  · rename_i b' o
    cases hx
    unfold loadE at h
    simp only [nth_eq] at h
    cases hb : H[b]? with
    | none => rw [hb] at h; cases h
    | some blk =>
      rw [hb] at h
      cases blk <;> try (cases h; done)
      exact ⟨_, rfl, by simp⟩
  · rename_i b' sz i k
    cases hx
    unfold loadE at h
    simp only [nth_eq] at h
    cases hb : H[b]? with
    | none => rw [hb] at h; cases h
    | some blk =>
      rw [hb] at h
      cases blk <;> try (cases h; done)
      exact ⟨_, rfl, by simp⟩
theorem chkE_t {e : Env} {H H' : Heap} {s : Nat} : ∀ {l : List Opd}, chkE e H H' l = true → hasT l s = true → ∃ i, loadE H 1 false (e s) = some (.mp i) ∧ loadE H' 1 false (e s) = some (.mp i)
  | [], _, hs => by cases hs
  | .c v :: l, h, hs => by
    simp only [chkE, Bool.and_eq_true] at h
    exact chkE_t (l := l) h.2 hs
  | .t i :: l, h, hs => by
    simp only [chkE, Bool.and_eq_true] at h
    simp only [hasT, Bool.or_eq_true] at hs
    rcases hs with hs | hs
    · obtain rfl := Nat.eq_of_beq_eq_true hs
      have h1 := h.1
      change (match e i with
        | .ptr b o => (match loadE H 1 false (.ptr b o), loadE H' 1 false (.ptr b o) with | some (.mp i), some (.mp j) => Nat.beq i j | _, _ => false)
        | _ => false) = true at h1
      split at h1
      · rename_i b o hx
        rw [hx]
        split at h1
        · rename_i i1 j1 e1 e2
          rw [e1, e2, Nat.eq_of_beq_eq_true h1]
          exact ⟨_, rfl, rfl⟩
        · cases h1
      · cases h1
    · exact chkE_t (l := l) h.2 hs

section
variable {P : Program} {G : Globs} {N : Nat} {Γ : Ctx} {cf : CallF} {t : Trace} {l : List Op1} {e : Env} {H : Heap} {e' : Env} {H' : Heap} {os : Array Oper} {B : Nat → Nat → Prop} {D : Nat → Bool}

theorem Trace.OK.len_succ (ht : t.OK Γ cf [] l e H e' H') {j : Nat} (hj : j < l.length) : t.len (j + 1) = t.len j + (t.NW j).length := by
  unfold Trace.len
  rw [ht.h j _ (List.getElem?_eq_getElem hj), List.length_append, updH_len]

theorem Trace.OK.len_mono (ht : t.OK Γ cf [] l e H e' H') {a : Nat} : ∀ (b : Nat), a ≤ b → b ≤ l.length → t.len a ≤ t.len b := by
  intro b
  induction b with
  | zero => intro h _; have : a = 0 := by omega
            subst this; exact Nat.le_refl _
  | succ b ih =>
    intro h hb
    by_cases hab : a = b + 1
    · subst hab; exact Nat.le_refl _
    · have h1 := ih (by omega) (by omega)
      have h2 := ht.len_succ (j := b) (by omega)
      omega

/-- whose block is it? -/
theorem Trace.OK.whose (ht : t.OK Γ cf [] l e H e' H') {a i : Nat} : ∀ (b : Nat), a ≤ b → b ≤ l.length → t.len a ≤ i → i < t.len b → ∃ j, a ≤ j ∧ j < b ∧ t.len j ≤ i ∧ i < t.len (j + 1) := by
  intro b
  induction b with
  | zero => intro h _ h1 h2; have : a = 0 := by omega
            subst this; omega
  | succ b ih =>
    intro h hb h1 h2
    by_cases hab : a = b + 1
    · subst hab; omega
    · by_cases hi : i < t.len b
      · obtain ⟨j, g1, g2, g3⟩ := ih (by omega) (by omega) h1 hi
        exact ⟨j, g1, by omega, g3⟩
      · exact ⟨b, by omega, by omega, by omega, h2⟩

theorem Trace.OK.one (ht : t.OK Γ cf [] l e H e' H') {i j k : Nat} (hj : j < l.length) (hk : k < l.length) (h1 : t.len j ≤ i ∧ i < t.len (j + 1)) (h2 : t.len k ≤ i ∧ i < t.len (k + 1)) : j = k := by
  rcases Nat.lt_trichotomy j k with h | h | h
  · have := ht.len_mono (a := j + 1) k (by omega) (by omega); omega
  · exact h
  · have := ht.len_mono (a := k + 1) j (by omega) (by omega); omega

theorem Trace.OK.noUp (ht : t.OK Γ cf [] l e H e' H') {j : Nat} {p : Op1} (hp : l[j]? = some p) (hc : clsOf p ≤ 2) : t.UP j = [] := by
  cases hw : t.W j with
  | false => exact (ht.n j p hp hw).2.1
  | true =>
    have := (effC_iff (ht.y j p hp hw).2).1
    rcases (clsOf_eff (p := p)).1.1 hc with h | h
    · rw [h] at this; simpa [effOK] using this
    · rw [h] at this
      simp only [effOK, Bool.and_eq_true, List.isEmpty_iff] at this
      exact this.1

theorem Trace.OK.noNew (ht : t.OK Γ cf [] l e H e' H') {j : Nat} {p : Op1} (hp : l[j]? = some p) (hc : clsOf p ≤ 1) : t.NW j = [] := by
  cases hw : t.W j with
  | false => exact (ht.n j p hp hw).2.2
  | true =>
    rcases clsOf_one hc with h | h | h
    · exact cls0_new (.inl h.2) (ht.y j p hp hw).1
    · exact cls0_new (.inr h.2.1) (ht.y j p hp hw).1
    · have := (effC_iff (ht.y j p hp hw).2).1
      rw [h.2] at this
      simp only [effOK, Bool.and_eq_true, List.isEmpty_iff] at this
      exact this.2

theorem Trace.OK.new2 (ht : t.OK Γ cf [] l e H e' H') {i j : Nat} {p : Op1} (hp : l[j]? = some p) (h : t.len j ≤ i ∧ i < t.len (j + 1)) : 2 ≤ clsOf p := by
  have hj := (List.getElem?_eq_some_iff.1 hp).1
  rcases Nat.lt_or_ge (clsOf p) 2 with h' | h'
  · have := ht.len_succ hj
    rw [ht.noNew hp (by omega)] at this
    simp at this
    omega
  · exact h'

theorem Trace.OK.stay1 (ht : t.OK Γ cf [] l e H e' H') {j : Nat} {p : Op1} (hp : l[j]? = some p) (hc : clsOf p ≤ 2) : t.HH (j + 1) = t.HH j ++ t.NW j := by
  rw [ht.h j p hp, ht.noUp hp hc]; rfl

theorem Trace.OK.stay (ht : t.OK Γ cf [] l e H e' H') {a : Nat} : ∀ (b : Nat), a ≤ b → b ≤ l.length → (∀ m p, a ≤ m → m < b → l[m]? = some p → clsOf p ≤ 2) → ∀ i, i < t.len a → (t.HH b)[i]? = (t.HH a)[i]? := by
  intro b
  induction b with
  | zero => intro h _ _ i _; have : a = 0 := by omega
            subst this; rfl
  | succ b ih =>
    intro h hb hc i hi
    by_cases hab : a = b + 1
    · subst hab; rfl
    · have hp : l[b]? = some (l[b]'(by omega)) := List.getElem?_eq_getElem (by omega)
      have hm := ht.len_mono (a := a) b (by omega) (by omega)
      rw [ht.stay1 hp (hc b _ (by omega) (by omega) hp), List.getElem?_append_left (by unfold Trace.len at *; omega)]
      exact ih (by omega) (by omega) (fun m p h1 h2 => hc m p h1 (by omega)) i hi

theorem Trace.OK.like1 (ht : t.OK Γ cf [] l e H e' H') (hk : Chk P G N os l B) {j : Nat} {p : Op1} (hp : l[j]? = some p) (hc : clsOf p ≤ 3) {i : Nat} (hi : i < t.len j) : ∃ x y, (t.HH j)[i]? = some x ∧ (t.HH (j + 1))[i]? = some y ∧ (x = y ∨ x.like y) := by
  have same : t.UP j = [] → ∃ x y, (t.HH j)[i]? = some x ∧ (t.HH (j + 1))[i]? = some y ∧ (x = y ∨ x.like y) := fun hu => by
    refine ⟨_, _, List.getElem?_eq_getElem hi, ?_, .inl rfl⟩
    rw [ht.h j p hp, hu]
    show (t.HH j ++ t.NW j)[i]? = _
    rw [List.getElem?_append_left hi]
    exact List.getElem?_eq_getElem hi
  rcases Nat.lt_or_ge (clsOf p) 3 with h | h
  · exact same (ht.noUp hp (by omega))
  · have he := (clsOf_eff (p := p)).2.1 (by omega)
    cases hw : t.W j with
    | false => exact same (ht.n j p hp hw).2.1
    | true =>
      obtain ⟨y1, y2⟩ := ht.y j p hp hw
      rw [hk.mask j p hp h] at y1
      have y2 := (effC_iff y2).1
      rw [he] at y2
      have hs : (∃ n x y, p.op = .store n x y) ∨ ∃ sz x y, p.op = .append sz x y := by
        have := hk.eff3 j p hp
        unfold eff3OK at this
        rw [he] at this
        cases hop : p.op <;> rw [hop] at this <;> first | (cases this; done) | exact .inl ⟨_, _, _, rfl⟩ | exact .inr ⟨_, _, _, rfl⟩
      obtain ⟨f1, f2⟩ := eff3_like hs y1 y2
      rcases f2 with f2 | ⟨b, blk, old, f2, f3, f4⟩
      · exact same f2
      · by_cases hbi : b = i
        · subst hbi
          refine ⟨old, blk, f3, ?_, .inr f4⟩
          rw [ht.h j p hp, f1, f2]
          simp only [updH, List.append_nil, setAt_eq]
          rw [List.getElem?_set, if_pos rfl, if_pos (show b < (t.HH j).length from hi)]
        · refine ⟨_, _, List.getElem?_eq_getElem hi, ?_, .inl rfl⟩
          rw [ht.h j p hp, f1, f2]
          simp only [updH, List.append_nil, setAt_eq]
          rw [List.getElem?_set, if_neg hbi]
          exact List.getElem?_eq_getElem hi

theorem Trace.OK.like (ht : t.OK Γ cf [] l e H e' H') (hk : Chk P G N os l B) {a : Nat} : ∀ (b : Nat), a ≤ b → b ≤ l.length → (∀ m p, a ≤ m → m < b → l[m]? = some p → clsOf p ≤ 3) → ∀ i, i < t.len a → ∃ x y, (t.HH a)[i]? = some x ∧ (t.HH b)[i]? = some y ∧ (x = y ∨ x.like y) := by
  intro b
  induction b with
  | zero => intro h _ _ i hi; have : a = 0 := by omega
            subst this; exact ⟨_, _, List.getElem?_eq_getElem hi, List.getElem?_eq_getElem hi, .inl rfl⟩
  | succ b ih =>
    intro h hb hc i hi
    by_cases hab : a = b + 1
    · subst hab; exact ⟨_, _, List.getElem?_eq_getElem hi, List.getElem?_eq_getElem hi, .inl rfl⟩
    · have hp : l[b]? = some (l[b]'(by omega)) := List.getElem?_eq_getElem (by omega)
      have hm := ht.len_mono (a := a) b (by omega) (by omega)
      obtain ⟨x, y, h1, h2, h3⟩ := ih (by omega) (by omega) (fun m p h1 h2 => hc m p h1 (by omega)) i hi
      obtain ⟨y', z, g1, g2, g3⟩ := ht.like1 hk hp (hc b _ (by omega) (by omega) hp) (i := i) (by omega)
      rw [h2] at g1
      cases g1
      refine ⟨x, z, h1, g2, ?_⟩
      rcases h3 with rfl | h3
      · exact g3
      · rcases g3 with rfl | g3
        · exact .inr h3
        · exact .inr (Blk.like_trans h3 g3)

/-- where the slots stand -/
theorem Trace.OK.env0 (ht : t.OK Γ cf [] l e H e' H') {x : Nat} : ∀ (j : Nat), j ≤ l.length → (∀ i p, i < j → l[i]? = some p → p.dst ≠ some x) → t.E j x = e x := by
  intro j
  induction j with
  | zero => intro _ _; rw [ht.e0]
  | succ j ih =>
    intro hj hn
    have hp : l[j]? = some (l[j]'(by omega)) := List.getElem?_eq_getElem (by omega)
    rw [ht.e j _ hp]
    have h1 := hn j _ (by omega) hp
    have h2 := ih (by omega) (fun i p hi => hn i p (by omega))
    cases hd : (l[j]'(by omega)).dst with
    | none => exact h2
    | some d =>
      rw [hd] at h1
      show (bif Nat.beq d x then t.VV j else t.E j x) = e x
      have : Nat.beq d x = false := by
        cases hb : Nat.beq d x with
        | false => rfl
        | true => exact absurd (congrArg some (Nat.eq_of_beq_eq_true hb)) h1
      rw [this]; exact h2

theorem Trace.OK.envd (ht : t.OK Γ cf [] l e H e' H') (hk : Chk P G N os l B) {i x : Nat} {p : Op1} (hp : l[i]? = some p) (hd : p.dst = some x) : ∀ (j : Nat), i < j → j ≤ l.length → t.E j x = t.VV i := by
  intro j
  induction j with
  | zero => intro h; omega
  | succ j ih =>
    intro hij hj
    have hq : l[j]? = some (l[j]'(by omega)) := List.getElem?_eq_getElem (by omega)
    rw [ht.e j _ hq]
    by_cases h : i = j
    · subst h
      rw [hp] at hq
      cases hq
      rw [hd]
      show (bif Nat.beq x x then t.VV i else _) = _
      rw [Nat.beq_refl]; rfl
    · have h2 := ih (by omega) (by omega)
      cases hd' : (l[j]'(by omega)).dst with
      | none => exact h2
      | some d =>
        show (bif Nat.beq d x then t.VV j else t.E j x) = _
        have : Nat.beq d x = false := by
          cases hb : Nat.beq d x with
          | false => rfl
          | true =>
            obtain rfl := Nat.eq_of_beq_eq_true hb
            exact absurd (hk.dst i j p _ d hp hq hd hd') h
        rw [this]; exact h2

theorem Trace.OK.envs (ht : t.OK Γ cf [] l e H e' H') (hk : Chk P G N os l B) {j x : Nat} {q : Op1} (hq : l[j]? = some q) (he : q.eff = 1) (hx : x ∈ slotsOf q) : ∀ (k : Nat), j ≤ k → k ≤ l.length → t.E k x = t.E j x := by
  intro k
  induction k with
  | zero => intro h _; have : j = 0 := by omega
            subst this; rfl
  | succ k ih =>
    intro hjk hk'
    by_cases h : j = k + 1
    · subst h; rfl
    · have hp : l[k]? = some (l[k]'(by omega)) := List.getElem?_eq_getElem (by omega)
      have h2 := ih (by omega) (by omega)
      rw [ht.e k _ hp]
      cases hd : (l[k]'(by omega)).dst with
      | none => exact h2
      | some d =>
        show (bif Nat.beq d x then t.VV k else t.E k x) = _
        have : Nat.beq d x = false := by
          cases hb : Nat.beq d x with
          | false => rfl
          | true =>
            obtain rfl := Nat.eq_of_beq_eq_true hb
            exact absurd hx (hk.stay k j _ q d hp hq he (by omega) hd)
        rw [this]; exact h2

/-! what comes ahead -/
theorem Chk.lt (hk : Chk P G N os l B) : ∀ (j i : Nat), j < l.length → B i j → i < j := by
  intro j
  induction j using Nat.strongRecOn with
  | ind j ih =>
    intro i hj hb
    obtain ⟨k, h1, h2⟩ := hk.bef j _ i (Array.getElem?_eq_getElem (by rw [hk.len]; exact hj)) hb
    have h3 := hk.pre j _ (Array.getElem?_eq_getElem (by rw [hk.len]; exact hj)) k h1
    rcases h2 with rfl | ⟨h4, h5⟩
    · exact h3
    · have := ih k h4 i (by omega) h5; omega

def Closed1 (os : Array Oper) (D : Nat → Bool) : Prop := ∀ (j : Nat) o, os[j]? = some o → D j = true → ∀ i ∈ preO o, D i = true

theorem Chk.down (hk : Chk P G N os l B) (hD : Closed1 os D) : ∀ (j i : Nat) o, os[j]? = some o → (∀ k ∈ preO o, D k = true) → B i j → D i = true := by
  intro j
  induction j using Nat.strongRecOn with
  | ind j ih =>
    intro i o ho hp hb
    obtain ⟨k, h1, h2⟩ := hk.bef j o i ho hb
    rcases h2 with rfl | ⟨h4, h5⟩
    · exact hp _ h1
    · have hk' : k < os.size := by
        have := (Array.getElem?_eq_some_iff.1 ho).1; omega
      exact ih k h4 i _ (Array.getElem?_eq_getElem hk') (fun m hm => hD k _ (Array.getElem?_eq_getElem hk') (hp k h1) m hm) h5

theorem Chk.downD (hk : Chk P G N os l B) (hD : Closed1 os D) {i j : Nat} (hj : j < l.length) (h : D j = true) (hb : B i j) : D i = true :=
  hk.down hD j i _ (Array.getElem?_eq_getElem (by rw [hk.len]; exact hj)) (hD j _ (Array.getElem?_eq_getElem (by rw [hk.len]; exact hj)) h) hb

/-- an effect and an operation that looks at the heap are in order -/
theorem Chk.order (hk : Chk P G N os l B) {i j : Nat} {p q : Op1} (hp : l[i]? = some p) (hq : l[j]? = some q) (hc : 3 ≤ clsOf p) (hc2 : 2 ≤ clsOf q) : i = j ∨ (i < j ∧ B i j) ∨ (j < i ∧ B j i) := by
  have hi := (List.getElem?_eq_some_iff.1 hp).1
  have hj := (List.getElem?_eq_some_iff.1 hq).1
  rcases hk.pair i j p q hp hq hc with h | h | h | h | h | h
  · exact .inl h
  · exact .inr (.inl ⟨hk.lt j i hj h, h⟩)
  · exact .inr (.inr ⟨hk.lt i j hi h, h⟩)
  · omega
  · omega
  · have := clsOf_e1 h.1; omega

def hid (t : Trace) (D : Nat → Bool) (K i : Nat) : Bool := (List.range K).any fun j => !(D j) && (decide (t.len j ≤ i) && decide (i < t.len (j + 1)))
def stage (t : Trace) (D : Nat → Bool) (K : Nat) : Heap := (t.HH K).mapIdx fun i b => bif hid t D K i then .dead else b

theorem hid_iff {K i : Nat} : hid t D K i = true ↔ ∃ j, j < K ∧ D j = false ∧ t.len j ≤ i ∧ i < t.len (j + 1) := by
  unfold hid
  simp [List.any_eq_true]
theorem hid_not {K i : Nat} : hid t D K i = false ↔ ∀ j, j < K → t.len j ≤ i → i < t.len (j + 1) → D j = true := by
  rw [← Bool.not_eq_true, hid_iff]
  constructor
  · intro h j h1 h2 h3
    cases hd : D j with
    | true => rfl
    | false => exact absurd ⟨j, h1, hd, h2, h3⟩ h
  · rintro h ⟨j, h1, h2, h3, h4⟩
    rw [h j h1 h3 h4] at h2; cases h2

theorem stage_get {K i : Nat} : (stage t D K)[i]? = ((t.HH K)[i]?).map fun b => bif hid t D K i then .dead else b := by
  unfold stage
  rw [List.getElem?_mapIdx]
theorem stage_live {K i : Nat} {blk : Blk} (h : (stage t D K)[i]? = some blk) (hd : blk ≠ .dead) : (t.HH K)[i]? = some blk ∧ hid t D K i = false := by
  rw [stage_get] at h
  cases hb : (t.HH K)[i]? with
  | none => rw [hb] at h; cases h
  | some b =>
    rw [hb] at h
    simp only [Option.map_some, Option.some.injEq] at h
    cases hh : hid t D K i with
    | true => rw [hh] at h; exact absurd h.symm hd
    | false => rw [hh] at h; exact ⟨by rw [← h]; rfl, rfl⟩
theorem stage_show {K i : Nat} (h : hid t D K i = false) : (stage t D K)[i]? = (t.HH K)[i]? := by
  rw [stage_get, h]
  cases (t.HH K)[i]? <;> rfl

/-- the next effect -/
theorem next_eff (l : List Op1) (a : Nat) (ha : a ≤ l.length) : ∃ K, a ≤ K ∧ K ≤ l.length ∧ (∀ m p, a ≤ m → m < K → l[m]? = some p → clsOf p ≤ 2) ∧ (K < l.length → ∃ p, l[K]? = some p ∧ 3 ≤ clsOf p) := by
  have key : ∀ n a, l.length - a = n → a ≤ l.length → ∃ K, a ≤ K ∧ K ≤ l.length ∧ (∀ m p, a ≤ m → m < K → l[m]? = some p → clsOf p ≤ 2) ∧ (K < l.length → ∃ p, l[K]? = some p ∧ 3 ≤ clsOf p) := by
    intro n
    induction n with
    | zero => intro a h1 h2; exact ⟨a, Nat.le_refl _, h2, fun m p h3 h4 => by omega, fun h => by omega⟩
    | succ n ih =>
      intro a h1 h2
      have hp : l[a]? = some (l[a]'(by omega)) := List.getElem?_eq_getElem (by omega)
      rcases Nat.lt_or_ge (clsOf (l[a]'(by omega))) 3 with h | h
      · obtain ⟨K, g1, g2, g3, g4⟩ := ih (a + 1) (by omega) (by omega)
        refine ⟨K, by omega, g2, fun m p h3 h4 h5 => ?_, g4⟩
        by_cases hm : m = a
        · subst hm; rw [hp] at h5; cases h5; omega
        · exact g3 m p (by omega) h4 h5
      · exact ⟨a, Nat.le_refl _, h2, fun m p h3 h4 => by omega, fun _ => ⟨_, hp, h⟩⟩
  exact key _ a rfl ha
end
end Go.Proofs.YtljgncbdagmeeaaDoorE
