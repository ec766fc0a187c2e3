/- The entry: what came in, read as data; a law called on it. -/
import Derived.Test.YtljgncbdagmeeaaDoorE30
import Derived.ChangeArms
import Derived.Deep.Slices
import Derived.ChangeOld
import Derived.WideShapes
import Derived.FnData
namespace Go.Proofs.YtljgncbdagmeeaaDoorE
open Go
set_option linter.unusedVariables false
set_option linter.unusedSimpArgs false

/-- what a cell holds -/
inductive Lf where
  | bool | int (k : IntKind) | str | sl (ag : Bool) (els : List Lf)

mutual
def okLf : Lf → D → Prop
  | .bool, x => ∃ b, x = .bool b
  | .int k, x => ∃ n, x = .int k n ∧ (Lit.int k n).wf = true
  | .str, x => ∃ s, x = .str s ∧ s.size ≤ maxLen
  | .sl ag els, x => ∃ xs, x = .list true xs ∧ xs.length ≤ maxLen ∧ ∀ y ∈ xs, y.isAgg = ag ∧ okLfs els y.cells
def okLfs : List Lf → List D → Prop
  | [], ds => ds = []
  | l :: ls, ds => ∃ d r, ds = d :: r ∧ okLf l d ∧ okLfs ls r
end

def fieldsL (P : Program) (g : TypeId → Option (List Lf × Bool)) : Nat → List Field → Option (List Lf)
  | _, [] => some []
  | off, f :: fs => match g f.type with
    | some (l, _) => (match fieldsL P g (off + l.length) fs with
      | some r => bif Nat.beq f.offset off && Nat.beq (P.cellsOf f.type) l.length then some (l ++ r) else none
      | none => none)
    | none => none

/-- a type's cells; is it a struct? -/
def lfs (P : Program) : Nat → TypeId → Option (List Lf × Bool)
  | 0, _ => none
  | n + 1, t => match P.underlying t with
    | some .bool => some ([.bool], false)
    | some (.int k) => some ([.int k], false)
    | some .string => some ([.str], false)
    | some (.slice e) => (match lfs P n e with | some (l, ag) => bif Nat.beq (P.cellsOf e) l.length && Nat.blt 0 l.length then some ([.sl ag l], false) else none | none => none)
    | some (.struct fs) => (match fieldsL P (lfs P n) 0 fs.toList with | some l => bif Nat.beq (P.cellsOf t) l.length then some (l, true) else none | none => none)
    | _ => none

mutual
theorem okLf_esc : ∀ (l : Lf) (x : D), okLf l x → x.esc = true ∧ x.isAgg = false ∧ x.cells = [x]
  | .bool, x, h => by obtain ⟨b, rfl⟩ := h; exact ⟨rfl, rfl, rfl⟩
  | .int k, x, h => by obtain ⟨n, rfl, _⟩ := h; exact ⟨rfl, rfl, rfl⟩
  | .str, x, h => by obtain ⟨s, rfl, _⟩ := h; exact ⟨rfl, rfl, rfl⟩
  | .sl ag els, x, h => by obtain ⟨xs, rfl, _⟩ := h; exact ⟨rfl, rfl, rfl⟩
theorem okLfs_esc : ∀ (ls : List Lf) (ds : List D), okLfs ls ds → D.escs ds = true ∧ ds.length = ls.length
  | [], ds, h => by obtain rfl := h; exact ⟨rfl, rfl⟩
  | l :: ls, ds, h => by
    obtain ⟨d, r, rfl, h1, h2⟩ := h
    obtain ⟨e1, e2, _⟩ := okLf_esc l d h1
    obtain ⟨e3, e4⟩ := okLfs_esc ls r h2
    exact ⟨by simp [D.escs, e1, e2, e3], by simp [e4]⟩
end

theorem okLfs_app : ∀ (l r : List Lf) (ds es : List D), okLfs l ds → okLfs r es → okLfs (l ++ r) (ds ++ es)
  | [], r, ds, es, h, k => by obtain rfl := h; exact k
  | a :: l, r, ds, es, h, k => by
    obtain ⟨d, ds', rfl, h1, h2⟩ := h
    exact ⟨d, ds' ++ es, rfl, h1, okLfs_app l r ds' es h2 k⟩

section
variable {H : Type} {enc : TypeId × Value → H} {P : Program} {W : World} {sp : Nat → Bool} {held : Bool}

abbrev All : Nat → Prop := fun _ => True

theorem denDs_app : ∀ (ds es : List D) (us vs : List Value), DenDs All All All W ds us → DenDs All All All W es vs → DenDs All All All W (ds ++ es) (us ++ vs)
  | [], es, us, vs, h, k => by obtain rfl := h; exact k
  | x :: ds, es, us, vs, h, k => by
    obtain ⟨u, us', rfl, h1, h2⟩ := h
    exact ⟨u, us' ++ vs, rfl, h1, denDs_app ds es us' vs h2 k⟩
theorem cells_at {a : Addr} {n : Nat} {cs : List Value} (h : W.cells? 0 a n = some cs) : cs.length = n ∧ ∀ k, k < n → W.cell? (a.add k) = cs[k]? := by
  unfold World.cells? at h
  rw [if_pos (Nat.zero_le _)] at h
  exact ⟨by simpa using mapM_some_length h, fun k hk => mapM_some_get h k k (by simp [hk])⟩

theorem fields_ok {g : TypeId → Option (List Lf × Bool)} {m : Nat} {cs : List Value}
    (hg : ∀ t l ag cs x, g t = some (l, ag) → DataW.trod enc P W 0 sp held m t cs = some x → ∃ ds, DenDs All All All W ds cs ∧ okLfs l ds) :
    ∀ (fs : List Field) (off : Nat) (l : List Lf) (xs : List (DataW H × List MemPlace)), fieldsL P g off fs = some l → xs.length = fs.length → off + l.length ≤ cs.length →
      (∀ (i : Nat) f, fs[i]? = some f → DataW.trod enc P W 0 sp held m f.type ((cs.drop f.offset).take (P.cellsOf f.type)) = xs[i]?) → ∃ ds, DenDs All All All W ds ((cs.drop off).take l.length) ∧ okLfs l ds
  | [], off, l, xs, h, _, _, _ => by
    simp only [fieldsL, Option.some.injEq] at h
    subst h
    exact ⟨[], by simp [DenDs], rfl⟩
  | f :: fs, off, l, xs, h, hl, hle, hx => by
    simp only [fieldsL] at h
    cases hgf : g f.type with
    | none => rw [hgf] at h; cases h
    | some q =>
      obtain ⟨l1, ag⟩ := q
      rw [hgf] at h
      dsimp only at h
      cases hr : fieldsL P g (off + l1.length) fs with
      | none => rw [hr] at h; cases h
      | some r =>
        rw [hr] at h
        dsimp only at h
        cases hc : (Nat.beq f.offset off && Nat.beq (P.cellsOf f.type) l1.length) with
        | false => rw [hc] at h; cases h
        | true =>
          rw [hc] at h
          simp only [cond_true, Option.some.injEq] at h
          subst h
          simp only [Bool.and_eq_true] at hc
          have h1 := Nat.eq_of_beq_eq_true hc.1
          have h2 := Nat.eq_of_beq_eq_true hc.2
          rw [List.length_append] at hle
          cases xs with
          | nil => simp at hl
          | cons x xs =>
            have hx0 := hx 0 f rfl
            rw [h1, h2] at hx0
            simp only [List.getElem?_cons_zero] at hx0
            obtain ⟨d1, e1, e2⟩ := hg f.type l1 ag _ x hgf hx0
            obtain ⟨d2, e3, e4⟩ := fields_ok (cs := cs) hg fs (off + l1.length) r xs hr (by simpa using hl) (by omega) (fun i f' hf' => by simpa using hx (i + 1) f' (by simpa using hf'))
            refine ⟨d1 ++ d2, ?_, okLfs_app _ _ _ _ e2 e4⟩
            have hspl : (cs.drop off).take (l1 ++ r).length = (cs.drop off).take l1.length ++ (cs.drop (off + l1.length)).take r.length := by
              rw [List.length_append, List.take_add, List.drop_drop]
            rw [hspl]
            exact denDs_app _ _ _ _ e1 e3

theorem trod_lfs : ∀ (n : Nat) (t : TypeId) (l : List Lf) (ag : Bool), lfs P n t = some (l, ag) → ∀ (fuel : Nat) (cs : List Value) (x : DataW H × List MemPlace), DataW.trod enc P W 0 sp held fuel t cs = some x →
    ∃ ds, DenDs All All All W ds cs ∧ okLfs l ds ∧ (ag = false → ∃ u y, cs = [u] ∧ ds = [y] ∧ u.cells = #[u] ∧ y.isAgg = false)
  | 0, t, l, ag, h, fuel, cs, x, hx => by cases h
  | n + 1, t, l, ag, h, fuel, cs, x, hx => by
    simp only [lfs] at h
    split at h
    · rename_i ht
      cases h
      obtain ⟨b, rfl, _⟩ := DataW.trod_bool ht hx
      exact ⟨[.bool b], ⟨_, _, rfl, rfl, rfl⟩, ⟨_, _, rfl, ⟨b, rfl⟩, rfl⟩, fun _ => ⟨_, _, rfl, rfl, rfl, rfl⟩⟩
    · rename_i k ht
      cases h
      obtain ⟨m, rfl, _, hw⟩ := DataW.trod_int ht hx
      exact ⟨[.int k m], ⟨_, _, rfl, rfl, rfl⟩, ⟨_, _, rfl, ⟨m, rfl, hw⟩, rfl⟩, fun _ => ⟨_, _, rfl, rfl, rfl, rfl⟩⟩
    · rename_i ht
      cases h
      obtain ⟨s, rfl, _, hs⟩ := DataW.trod_string ht hx
      exact ⟨[.str s], ⟨_, _, rfl, rfl, rfl⟩, ⟨_, _, rfl, ⟨s, rfl, hs⟩, rfl⟩, fun _ => ⟨_, _, rfl, rfl, rfl, rfl⟩⟩
    · rename_i e ht
      cases he : lfs P n e with
      | none => rw [he] at h; cases h
      | some q =>
        obtain ⟨le, age⟩ := q
        rw [he] at h
        dsimp only at h
        cases hc : (Nat.beq (P.cellsOf e) le.length && Nat.blt 0 le.length) with
        | false => rw [hc] at h; cases h
        | true =>
          rw [hc] at h
          simp only [cond_true, Option.some.injEq, Prod.mk.injEq] at h
          obtain ⟨rfl, rfl⟩ := h
          simp only [Bool.and_eq_true] at hc
          have hsz := Nat.eq_of_beq_eq_true hc.1
          have hpos : 0 < le.length := by have := hc.2; simp [Nat.blt] at this; omega
          rcases Go.Deep.open_slice ht hx with ⟨rfl, _⟩ | ⟨a, len, cap, m, fu, Dd, Pl, rfl, _, hlc, hcap, hm, _, hel⟩
          · exact ⟨[.list true []], ⟨_, _, rfl, ⟨_, 0, 0, rfl, rfl, Nat.le_refl _, by simp, by simp⟩, rfl⟩, ⟨_, _, rfl, ⟨[], rfl, by simp, by simp⟩, rfl⟩, fun _ => ⟨_, _, rfl, rfl, rfl, rfl⟩⟩
          · rw [hsz] at hel
            have hlm : len ≤ m := by rw [hm]; split <;> omega
            -- each element
            have each : ∀ i, i < len → ∃ y u, DenD All All All W y u ∧ y.isAgg = age ∧ okLfs le y.cells ∧ u.cells.size = le.length ∧ (∀ k v, u.cells[k]? = some v → W.cell? ((a.add (i * le.length)).add k) = some v) ∧ y.esc = true := fun i hi => by
              obtain ⟨cs', h1, h2⟩ := hel i (by omega)
              obtain ⟨c1, c2⟩ := cells_at h1
              obtain ⟨ds, d1, d2, d3⟩ := trod_lfs n e le age he fu cs' _ h2
              obtain ⟨s1, s2⟩ := okLfs_esc _ _ d2
              cases age with
              | true =>
                refine ⟨.agg ds, .agg cs'.toArray, ⟨cs', rfl, d1⟩, rfl, d2, by simpa [Value.cells] using c1, fun k v hk => ?_, s1⟩
                have hk' : cs'[k]? = some v := by simpa [Value.cells] using hk
                rw [c2 k (by rw [← c1]; exact (List.getElem?_eq_some_iff.1 hk').1)]; exact hk'
              | false =>
                obtain ⟨u, y, rfl, rfl, e1, e2⟩ := d3 rfl
                obtain ⟨u', us', f1, f2, _⟩ := d1
                cases f1
                have hy : y.cells = [y] := by
                  cases y <;> first | rfl | (simp [D.isAgg] at e2)
                have hesc : y.esc = true := by
                  match le, d2, hpos with
                  | l0 :: ls, d2, _ =>
                    obtain ⟨d, r, g1, g2, _⟩ := d2
                    cases g1
                    exact (okLf_esc l0 y g2).1
                refine ⟨y, u, f2, e2, by rw [hy]; exact d2, by rw [e1, ← c1]; rfl, fun k v hk => ?_, hesc⟩
                rw [e1] at hk
                have hk0 : k = 0 := by
                  have := (Array.getElem?_eq_some_iff.1 hk).1; simp at this; exact this
                subst hk0
                simp at hk; subst hk
                rw [c2 0 (by omega)]; rfl
            -- all
            have all : ∀ j, j ≤ len → ∃ ys : List D, ys.length = j ∧ (∀ y ∈ ys, y.isAgg = age ∧ okLfs le y.cells ∧ y.esc = true) ∧ ∀ (i : Nat) y, ys[i]? = some y → ∃ u, DenD All All All W y u ∧ u.cells.size = le.length ∧ ∀ k v, u.cells[k]? = some v → W.cell? ((a.add (i * le.length)).add k) = some v := by
              intro j
              induction j with
              | zero => intro _; exact ⟨[], rfl, by simp, by simp⟩
              | succ j ih =>
                intro hj
                obtain ⟨ys, y1, y2, y3⟩ := ih (by omega)
                obtain ⟨y, u, z1, z2, z3, z4, z5, z6⟩ := each j (by omega)
                refine ⟨ys ++ [y], by simp [y1], fun z hz => ?_, fun i z hz => ?_⟩
                · rcases List.mem_append.1 hz with hz | hz
                  · exact y2 z hz
                  · simp at hz; subst hz; exact ⟨z2, z3, z6⟩
                · by_cases hi : i < ys.length
                  · rw [List.getElem?_append_left hi] at hz; exact y3 i z hz
                  · rw [List.getElem?_append_right (by omega)] at hz
                    have hij : i - ys.length = 0 := by
                      have := (List.getElem?_eq_some_iff.1 hz).1; simp at this; omega
                    rw [hij] at hz
                    simp at hz; subst hz
                    have : i = j := by omega
                    subst this
                    exact ⟨u, z1, z4, z5⟩
            obtain ⟨ys, y1, y2, y3⟩ := all len (Nat.le_refl _)
            refine ⟨[.list true ys], ⟨_, _, rfl, ⟨_, len, cap, rfl, y1.symm, hlc, fun z hz => (y2 z hz).2.2, fun hne => ?_⟩, rfl⟩, ⟨_, _, rfl, ⟨ys, rfl, by omega, fun z hz => ⟨(y2 z hz).1, (y2 z hz).2.1⟩⟩, rfl⟩, fun _ => ⟨_, _, rfl, rfl, rfl, rfl⟩⟩
            have hlen : 0 < len := by
              rw [← y1]; exact List.length_pos_iff.2 hne
            obtain ⟨cs0, h1, _⟩ := hel 0 (by omega)
            obtain ⟨c1, c2⟩ := cells_at h1
            have c3 := c2 0 hpos
            have hcell : ∃ v, W.cell? a = some v := by
              refine ⟨cs0[0]'(by omega), ?_⟩
              have e0 : (a.add (0 * le.length)).add 0 = a := by simp [Addr.add]
              rw [e0] at c3
              rw [c3]; exact List.getElem?_eq_getElem (by omega)
            obtain ⟨v, hv⟩ := hcell
            have hspot : a.spot = none ∧ a.block < W.heap.size := by
              unfold World.cell? at hv
              split at hv
              · rename_i hb
                cases hsx : a.spot with
                | none => exact ⟨rfl, (Array.getElem?_eq_some_iff.1 hb).1⟩
                | some z => rw [hsx] at hv; simp at hv
              · cases hv
            obtain ⟨b, off, spot⟩ := a
            obtain ⟨hs1, hs2⟩ := hspot
            simp only at hs1 hs2
            subst hs1
            refine ⟨b, off, le.length, rfl, trivial, hs2, denEls_mk ys off fun j y hj => ?_⟩
            obtain ⟨u, u1, u2, u3⟩ := y3 j y hj
            refine ⟨u, u1, u2, fun k v hk => ?_⟩
            rw [← u3 k v hk]
            congr 1
            unfold Addr.add
            by_cases hj0 : j * le.length = 0
            · by_cases hk0 : k = 0 <;> simp [hj0, hk0]
            · by_cases hk0 : k = 0 <;> simp [hj0, hk0]
    · rename_i fs ht
      cases hf : fieldsL P (lfs P n) 0 fs.toList with
      | none => rw [hf] at h; cases h
      | some l' =>
        rw [hf] at h
        dsimp only at h
        cases hc : Nat.beq (P.cellsOf t) l'.length with
        | false => rw [hc] at h; cases h
        | true =>
          rw [hc] at h
          simp only [cond_true, Option.some.injEq, Prod.mk.injEq] at h
          obtain ⟨rfl, rfl⟩ := h
          have hcl := Nat.eq_of_beq_eq_true hc
          obtain ⟨xs, m, _, _, hlen, hxl, hxs⟩ := DataW.trod_struct ht hx
          have hlen' : cs.length = l'.length := hlen.trans hcl
          obtain ⟨ds, e1, e2⟩ := fields_ok (m := m) (cs := cs) (g := lfs P n) (fun t l ag cs x hg hx => by
            obtain ⟨ds, d1, d2, _⟩ := trod_lfs n t l ag hg m cs x hx
            exact ⟨ds, d1, d2⟩) fs.toList 0 l' xs hf (by simpa using hxl) (by omega) (fun i f hf' => hxs i f (by simpa using hf'))
          refine ⟨ds, ?_, e2, fun h => by cases h⟩
          have : (cs.drop 0).take l'.length = cs := by rw [List.drop_zero, List.take_of_length_le (by omega)]
          rw [this] at e1; exact e1
    · cases h

/-- a parameter's value, as data -/
def parD (ag : Bool) (ds : List D) : D := match ag, ds with | true, ds => .agg ds | false, d :: _ => d | false, [] => .nilp

theorem par_ok {n : Nat} {t : TypeId} {l : List Lf} {ag : Bool} (h : lfs P n t = some (l, ag)) {base : Nat} {v : Value} {d : DataW H} {ps : List MemPlace} (hv : Value.okWide P W .any base t v) (hx : DataW.Trod enc P W 0 sp held t v d ps) :
    ∃ ds, okLfs l ds ∧ DenD All All All W (parD ag ds) v := by
  obtain ⟨fuel, hf⟩ := hx
  obtain ⟨ds, d1, d2, d3⟩ := trod_lfs n t l ag h fuel _ _ hf
  refine ⟨ds, d2, ?_⟩
  have one : ag = false → v.cells = #[v] → DenD All All All W (parD ag ds) v := fun hag hc => by
    subst hag
    obtain ⟨u, y, e1, rfl, _, _⟩ := d3 rfl
    rw [hc] at e1
    cases e1
    obtain ⟨u', us', f1, f2, _⟩ := d1
    rw [hc] at f1
    cases f1
    exact f2
  cases n with
  | zero => cases h
  | succ n =>
    simp only [lfs] at h
    split at h
    · rename_i ht
      cases h
      obtain ⟨b, rfl⟩ := Go.WideShapes.okWide_bool ht hv
      exact one rfl rfl
    · rename_i k ht
      cases h
      obtain ⟨b, rfl⟩ := Go.WideShapes.okWide_int ht hv
      exact one rfl rfl
    · rename_i ht
      cases h
      obtain ⟨b, rfl⟩ := Go.WideShapes.okWide_string ht hv
      exact one rfl rfl
    · rename_i e ht
      obtain ⟨a, len, cap, rfl⟩ := Go.WideShapes.okWide_slice ht hv
      split at h
      · rename_i le age hq
        cases hc : (Nat.beq (P.cellsOf e) le.length && Nat.blt 0 le.length) with
        | false => rw [hc] at h; cases h
        | true => rw [hc] at h; cases h; exact one rfl rfl
      · cases h
    · rename_i fs ht
      obtain ⟨cs, rfl, _⟩ := Go.WideShapes.okWide_struct ht hv
      split at h
      · rename_i q hq
        cases hc : Nat.beq (P.cellsOf t) q.length with
        | false => rw [hc] at h; cases h
        | true =>
          rw [hc] at h
          cases h
          exact ⟨cs.toList, by simp, by simpa [Value.cells] using d1⟩
      · cases h
    · cases h
end
end Go.Proofs.YtljgncbdagmeeaaDoorE
