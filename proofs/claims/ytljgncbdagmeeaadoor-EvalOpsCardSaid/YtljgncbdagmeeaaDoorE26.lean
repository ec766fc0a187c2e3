/- Regions that draw their order: what an operation depends on. -/
import Derived.Test.YtljgncbdagmeeaaDoorE25
namespace Go.Proofs.YtljgncbdagmeeaaDoorE
open Go
set_option linter.unusedVariables false
set_option linter.unusedSimpArgs false

def optL (x : Option Opd) : List Opd := match x with | some y => [y] | none => []
/-- what it reads of the slots -/
def opdsO : O → List Opd
  | .mov x => [x]
  | .pick c a b => [c, a, b]
  | .alloc z => []
  | .box x => [x]
  | .build z ps => ps.map (·.2.2)
  | .bslice sz z len ps => ps.map (·.2)
  | .load n ag x => [x]
  | .store n x v => [x, v]
  | .nilck x => [x]
  | .bin op x y => [x, y]
  | .eqv ks neg x y => [x, y]
  | .un op x => [x]
  | .conv k x => [x]
  | .mkfn f caps => caps
  | .mkslice sz z n c => [n, c]
  | .slice sz x lo hi mx => x :: (optL lo ++ (optL hi ++ optL mx))
  | .faddr off x => [x]
  | .field off n ag x => [x]
  | .iaddr sz x i => [x, i]
  | .index len sz ag x i => [x, i]
  | .indexS x i => [x, i]
  | .iaddrA len sz x i => [x, i]
  | .len x => [x]
  | .append sz x y => [x, y]
  | .appendD sz x y => [x, y]
  | .mx isMax xs => xs
  | .extract x i => [x]
  | .mkif t x => [x]
  | .call f args => args
  | .callv x args => x :: args
  | .invoke tab x args => x :: args
  | .mkmap => []
  | .mapset _ m k v => [m, k, v]
  | .mapget _ _ m k => [m, k]
  | .panic => []
  | .callk _ args _ => args
  | .nilq x => [x]
  | .spec _ args => args

theorem vals_congr {e e' : Env} : ∀ (l : List Opd), (∀ y ∈ l, y.val e = y.val e') → vals e l = vals e' l
  | [], _ => rfl
  | y :: l, h => by
    simp only [vals]
    rw [h y (by simp), vals_congr l (fun z hz => h z (by simp [hz]))]

theorem optV_congr {e e' : Env} {x : Option Opd} (h : ∀ y ∈ optL x, y.val e = y.val e') : x.map (·.val e) = x.map (·.val e') := by
  cases x with
  | none => rfl
  | some y => simp only [Option.map_some]; rw [h y (by simp [optL])]

theorem opE_congr {Γ : Ctx} {cf : CallF} {e e' : Env} {nid : Nat} {H : Heap} : ∀ (op : O), (∀ y ∈ opdsO op, y.val e = y.val e') → opE Γ cf e nid H op = opE Γ cf e' nid H op := by
  intro op h
  cases op <;> simp only [opdsO, List.mem_cons, List.not_mem_nil, or_false, forall_eq_or_imp, forall_eq, List.mem_append] at h
  case build z ps =>
    simp only [opE]
    have : (ps.map fun (o, s, x) => (o, s, x.val e)) = ps.map fun (o, s, x) => (o, s, x.val e') := by
      apply List.map_congr_left
      rintro ⟨o, s, x⟩ hx
      simp only [h x (List.mem_map.2 ⟨_, hx, rfl⟩)]
    rw [this]
  case bslice sz z len ps =>
    simp only [opE]
    have : (ps.map fun (i, x) => (i, x.val e)) = ps.map fun (i, x) => (i, x.val e') := by
      apply List.map_congr_left
      rintro ⟨i, x⟩ hx
      simp only [h x (List.mem_map.2 ⟨_, hx, rfl⟩)]
    rw [this]
  case mkfn f caps =>
    cases caps with
    | nil => rfl
    | cons c cs => show ret1 (.fn f (vals e (c :: cs))) = ret1 (.fn f (vals e' (c :: cs))); rw [vals_congr (c :: cs) h]
  case spec id args => simp only [opE]; rw [vals_congr args h]
  case mx b xs => simp only [opE]; rw [vals_congr xs h]
  case call f args => simp only [opE]; rw [vals_congr args h]
  case callk f args chk => simp only [opE]; rw [vals_congr args h]
  case callv x args => rw [opE_callv, opE_callv, h.1, vals_congr args h.2]
  case invoke tab x args => rw [opE_invoke, opE_invoke, h.1, vals_congr args h.2]
  case slice sz x lo hi mx =>
    simp only [opE]
    rw [h.1, optV_congr (x := lo) (fun y hy => h.2 y (.inl hy)), optV_congr (x := hi) (fun y hy => h.2 y (.inr (.inl hy))), optV_congr (x := mx) (fun y hy => h.2 y (.inr (.inr hy)))]
  all_goals (first | rfl | (simp only [opE]; simp only [h]; done) | (simp only [opE, h.1, h.2]; done) | (simp only [opE]; rw [h]; done) | skip)

/-- it looks at no heap -/
def cls0 : O → Bool
  | .mov _ => true
  | .pick _ _ _ => true
  | .build _ _ => true
  | .bin _ _ _ => true
  | .eqv _ _ _ _ => true
  | .un _ _ => true
  | .conv _ _ => true
  | .mkfn _ _ => true
  | .field _ _ _ _ => true
  | .index _ _ _ _ _ => true
  | .indexS _ _ => true
  | .mx _ _ => true
  | .extract _ _ => true
  | .nilck _ => true
  | .faddr _ _ => true
  | _ => false
theorem cls0_ok {Γ : Ctx} {cf : CallF} {e : Env} {nid nid' : Nat} {H H' : Heap} {op : O} (h : cls0 op = true) : opE Γ cf e nid H op = opE Γ cf e nid' H' op := by
  cases op <;> first | rfl | (cases h; done)

/-- it looks at shapes alone -/
def cls1 : O → Bool
  | .slice _ _ _ _ _ => true
  | .faddr _ _ => true
  | .iaddr _ _ _ => true
  | .iaddrA _ _ _ _ => true
  | .len _ => true
  | _ => false

/-- H' has at least H's blocks, shaped alike -/
def LikeH (H H' : Heap) : Prop := ∀ b blk, nth H b = some blk → blk ≠ .dead → ∃ blk', nth H' b = some blk' ∧ blk.like blk'

section
variable {H H' : Heap}
theorem LikeH.arr (h : LikeH H H') {b sz : Nat} {xs : List D} (hb : nth H b = some (.arr sz xs)) : ∃ ys, nth H' b = some (.arr sz ys) ∧ ys.length = xs.length := by
  obtain ⟨blk', h1, h2⟩ := h b _ hb (by simp)
  cases blk' <;> simp [Blk.like] at h2
  obtain ⟨rfl, h2⟩ := h2
  exact ⟨_, h1, h2⟩
theorem LikeH.cells (h : LikeH H H') {b : Nat} {cs : List V} (hb : nth H b = some (.cells cs)) : ∃ ds, nth H' b = some (.cells ds) := by
  obtain ⟨blk', h1, h2⟩ := h b _ hb (by simp)
  cases blk' <;> simp [Blk.like] at h2
  exact ⟨_, h1⟩

theorem elems_like (h : LikeH H H') {x : V} {xs : List D} (he : elems H x = some xs) : ∃ ys, elems H' x = some ys ∧ ys.length = xs.length ∧ ∀ own zs, x = .d (.list own zs) → ys = xs := by
  unfold elems at he
  split at he
  · cases he; exact ⟨_, rfl, rfl, fun _ _ _ => rfl⟩
  · rename_i b sz
    cases hb : nth H b with
    | none => rw [hb] at he; cases he
    | some blk =>
      rw [hb] at he
      cases blk <;> try (cases he; done)
      rename_i sz' xs'
      obtain ⟨ys, h1, h2⟩ := h.arr hb
      dsimp only at he
      cases hs : Nat.beq sz sz' with
      | false => rw [hs] at he; cases he
      | true =>
        rw [hs] at he
        cases he
        exact ⟨ys, by simp only [elems, h1, hs, cond_true], h2, fun _ _ h => by cases h⟩
  · rename_i b sz o len
    cases hb : nth H b with
    | none => rw [hb] at he; cases he
    | some blk =>
      rw [hb] at he
      cases blk <;> try (cases he; done)
      rename_i sz' xs'
      obtain ⟨ys, h1, h2⟩ := h.arr hb
      dsimp only at he
      cases hs : Nat.beq sz sz' with
      | false => rw [hs] at he; cases he
      | true =>
        rw [hs] at he
        cases he
        exact ⟨(ys.drop o).take len, by simp only [elems, h1, hs, cond_true], by simp [h2], fun _ _ h => by cases h⟩
  · cases he; exact ⟨[], rfl, rfl, fun _ _ h => by cases h⟩
  · cases he

theorem there_like (h : LikeH H H') {x : V} (ht : there H x = true) : there H' x = true := by
  unfold there at ht ⊢
  split at ht
  · rename_i b o
    split at ht
    · rename_i cs hb
      obtain ⟨ds, h1⟩ := h.cells hb
      rw [h1]
    · cases ht
  · rename_i b sz i k
    split at ht
    · rename_i sz' xs hb
      obtain ⟨ys, h1, _⟩ := h.arr hb
      rw [h1]; exact ht
    · cases ht
  · rfl
  · cases ht

theorem faddr_like (h : LikeH H H') {off : Nat} {x v : V} (hf : faddrE H off x = some v) : faddrE H' off x = some v := hf

theorem iaddrA_like (h : LikeH H H') {len sz : Nat} {x i v : V} (hf : iaddrAE H len sz x i = some v) : iaddrAE H' len sz x i = some v := by
  unfold iaddrAE at hf ⊢
  split at hf
  · rename_i k m
    cases hc : (decide (0 ≤ m) && decide (m < len)) with
    | false => rw [hc] at hf; cases hf
    | true =>
      rw [hc] at hf
      exact faddr_like h hf
  · cases hf

theorem len_like (h : LikeH H H') {x : V} {r : D} (hf : lenE H x = some r) : lenE H' x = some r := by
  unfold lenE at hf ⊢
  cases he : elems H x with
  | none => rw [he] at hf; cases hf
  | some xs =>
    rw [he] at hf
    obtain ⟨ys, h1, h2, _⟩ := elems_like h he
    rw [h1]
    cases hf
    simp only [h2]

theorem getI_len {α : Type} {xs ys : List α} {i : Int} {x : α} (hl : ys.length = xs.length) (h : getI xs i = some x) : ∃ y, getI ys i = some y := by
  obtain ⟨h0, h1, _⟩ := getI_eq xs i x h
  have hlt : i.toNat < ys.length := by omega
  refine ⟨ys[i.toNat], ?_⟩
  unfold getI
  simp only [h0, decide_true, cond_true, nth_eq]
  exact List.getElem?_eq_getElem hlt

theorem iaddr_like (h : LikeH H H') {sz : Nat} {x i v : V} (hf : iaddrE H sz x i = some v) : iaddrE H' sz x i = some v := by
  unfold iaddrE at hf ⊢
  split at hf
  · rename_i k m
    split at hf
    · exact hf
    · rename_i b sz'
      cases hb : nth H b with
      | none => rw [hb] at hf; cases hf
      | some blk =>
        rw [hb] at hf
        cases blk <;> try (cases hf; done)
        rename_i sz'' xs
        obtain ⟨ys, h1, h2⟩ := h.arr hb
        rw [h1]
        dsimp only at hf ⊢
        cases hs : (Nat.beq sz sz' && Nat.beq sz sz'') with
        | false => rw [hs] at hf; cases hf
        | true =>
          rw [hs] at hf
          simp only [cond_true] at hf ⊢
          cases hg : getI xs m with
          | none => rw [hg] at hf; cases hf
          | some z =>
            rw [hg] at hf
            obtain ⟨y, hy⟩ := getI_len h2 hg
            rw [hy]; exact hf
    · rename_i b sz' o len
      cases hb : nth H b with
      | none => rw [hb] at hf; cases hf
      | some blk =>
        rw [hb] at hf
        cases blk <;> try (cases hf; done)
        rename_i sz'' xs
        obtain ⟨ys, h1, h2⟩ := h.arr hb
        rw [h1]
        dsimp only at hf ⊢
        cases hs : (Nat.beq sz sz' && Nat.beq sz sz'') with
        | false => rw [hs] at hf; cases hf
        | true =>
          rw [hs] at hf
          simp only [cond_true] at hf ⊢
          cases hg : getI ((xs.drop o).take len) m with
          | none => rw [hg] at hf; cases hf
          | some z =>
            rw [hg] at hf
            obtain ⟨y, hy⟩ := getI_len (ys := (ys.drop o).take len) (by simp [h2]) hg
            rw [hy]; exact hf
    · cases hf
  · cases hf

theorem slice_like (h : LikeH H H') {sz : Nat} {x v : V} {lo hi mx : Option V} (hf : sliceE H sz x lo hi mx = some v) : sliceE H' sz x lo hi mx = some v := by
  unfold sliceE at hf ⊢
  cases he : elems H x with
  | none => rw [he] at hf; cases hf
  | some xs =>
    rw [he] at hf
    obtain ⟨ys, h1, h2, h3⟩ := elems_like h he
    rw [h1]
    dsimp only at hf ⊢
    rw [h2]
    cases hl : asNat lo 0 with
    | none => rw [hl] at hf; cases hf
    | some l =>
      rw [hl] at hf
      cases hh : asNat hi xs.length with
      | none => rw [hh] at hf; cases hf
      | some n =>
        rw [hh] at hf
        dsimp only at hf ⊢
        cases hc : (Nat.ble l n && Nat.ble n xs.length) with
        | false => rw [hc] at hf; cases hf
        | true =>
          rw [hc] at hf
          simp only [cond_true] at hf ⊢
          cases mx with
          | some m => exact hf
          | none =>
            dsimp only at hf ⊢
            split at hf
            · rename_i own zs
              rw [h3 own zs rfl]; exact hf
            · exact hf
            · exact hf
            · exact hf
            · cases hf

theorem cls1_ok (h : LikeH H H') {Γ : Ctx} {cf : CallF} {e : Env} {nid nid' : Nat} {op : O} {r : V × List (Nat × Blk) × List Blk} (hc : cls1 op = true) (ho : opE Γ cf e nid H op = some r) : opE Γ cf e nid' H' op = some r := by
  cases op <;> first | (cases hc; done) | skip
  case slice sz x lo hi mx =>
    simp only [opE] at ho ⊢
    cases hf : sliceE H sz (x.val e) (lo.map (·.val e)) (hi.map (·.val e)) (mx.map (·.val e)) with
    | none => rw [hf] at ho; cases ho
    | some v => rw [hf] at ho; rw [slice_like h hf]; exact ho
  case faddr off x =>
    simp only [opE] at ho ⊢
    cases hf : faddrE H off (x.val e) with
    | none => rw [hf] at ho; cases ho
    | some v => rw [hf] at ho; rw [faddr_like h hf]; exact ho
  case iaddr sz x i =>
    simp only [opE] at ho ⊢
    cases hf : iaddrE H sz (x.val e) (i.val e) with
    | none => rw [hf] at ho; cases ho
    | some v => rw [hf] at ho; rw [iaddr_like h hf]; exact ho
  case iaddrA len sz x i =>
    simp only [opE] at ho ⊢
    cases hf : iaddrAE H len sz (x.val e) (i.val e) with
    | none => rw [hf] at ho; cases ho
    | some v => rw [hf] at ho; rw [iaddrA_like h hf]; exact ho
  case len x =>
    simp only [opE] at ho ⊢
    cases hf : lenE H (x.val e) with
    | none => rw [hf] at ho; cases ho
    | some v => rw [hf] at ho; rw [len_like h hf]; exact ho
end
end Go.Proofs.YtljgncbdagmeeaaDoorE
