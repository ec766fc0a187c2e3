/- One operation: the check that the small code's is the program's, and what follows from it. -/
import Derived.Test.YtljgncbdagmeeaaDoorE21
namespace Go.Proofs.YtljgncbdagmeeaaDoorE
open Go
set_option linter.unusedVariables false
set_option linter.unusedSimpArgs false

def optB {α : Type} (x : Option α) (f : α → Bool) : Bool := match x with | some a => f a | none => false
theorem optB_some {α : Type} {x : Option α} {f : α → Bool} (h : optB x f = true) : ∃ a, x = some a ∧ f a = true := by
  cases x with
  | none => cases h
  | some a => exact ⟨a, rfl, h⟩

/-- a type of slices, its elements' zero -/
def elOK (P : Program) (t : TypeId) (sz : Nat) (z : Value → Bool) : Bool :=
  match P.underlying t with
  | some (.slice el) => optB (P.info? el) fun i => optB i.zero fun zv => Nat.beq i.size sz && (Nat.beq zv.cells.size sz && (Nat.blt 0 sz && (Nat.ble i.bytes 131072 && z zv)))
  | _ => false

theorem elOK_spec {P : Program} {t : TypeId} {sz : Nat} {z : Value → Bool} (h : elOK P t sz z = true) : ∃ el i zv, ElTy P t el sz i zv ∧ z zv = true := by
  unfold elOK at h
  split at h
  · rename_i el hu
    obtain ⟨i, h1, h⟩ := optB_some h
    obtain ⟨zv, h2, h⟩ := optB_some h
    simp only [Bool.and_eq_true, Nat.ble_eq] at h
    obtain ⟨h3, h4, h5, h6, h7⟩ := h
    exact ⟨el, i, zv, ⟨hu, h1, Nat.eq_of_beq_eq_true h3, h2, Nat.eq_of_beq_eq_true h4, by simp [Nat.blt] at h5; omega, h6⟩, h7⟩
  · cases h

def isSlice (P : Program) (t : TypeId) : Bool := match P.underlying t with | some (.slice _) => true | _ => false
def zOf (z : List D) : D := match z with | [x] => x | z => .agg z

def eqNats (a b : List Bool) : Bool := a == b

def okOp (P : Program) (G : Globs) (o : Oper) (op : O) : Bool :=
  match op with
  | .mov y => (match o.op with | .move x => okOpd G x y | .assign x => okOpd G x y | _ => false)
  | .pick c' x' y' => (match o.op with | .pick c x y => okOpd G c c' && (okOpd G x x' && okOpd G y y') | _ => false)
  | .alloc z => (match o.op with | .alloc t => z.okb && optB (zeroOf P t) (cv z) | _ => false)
  | .box y => (match o.op with | .box _ x => okOpd G x y | _ => false)
  | .build z ps => (match o.op with | .build t parts => optB (placesOf P t) fun place => optB (zeroOf P t) fun zv => cvs z zv.cells.toList && partsOK G place parts.toList ps | _ => false)
  | .bslice sz z len ps => (match o.op with | .buildSlice t l parts => Nat.beq l len && ((!(Nat.beq len 0) || parts.isEmpty) && partsB G parts.toList ps && (Nat.ble (len * sz) 16777216 && elOK P t sz fun zv => cv (.d (zOf z)) zv && (zOf z).esc)) | _ => false)
  | .load n ag y => (match o.op with | .load t x => okOpd G x y && (optB (aggOf P t) (fun b => b == ag) && optB (szOf P t) (fun m => Nat.beq m n)) | _ => false)
  | .store n x' y' => (match o.op with | .store t x y => okOpd G x x' && (okOpd G y y' && optB (szOf P t) (fun m => Nat.beq m n)) | _ => false)
  | .nilck y => (match o.op with | .nilCheck x => okOpd G x y | _ => false)
  | .bin b x' y' => (match o.op with | .binOp b' _ x y _ => decide (b' = b) && (okOpd G x x' && okOpd G y y') | _ => false)
  | .eqv ks neg x' y' => (match o.op with | .binOp b t x y _ => decide (b = (bif neg then .neq else .eql)) && (okOpd G x x' && (okOpd G y y' && optB (eqTy P t) (fun l => l == ks))) | _ => false)
  | .un b y => (match o.op with | .unOp b' _ x => decide (b' = b) && okOpd G x y | _ => false)
  | .conv k y => (match o.op with | .convert s t x => okOpd G x y && ((P.underlying s).isSome && (match P.underlying t with | some (.int k') => decide (k' = k) | _ => false)) | _ => false)
  | .mkfn f ys => (match o.op with | .makeFunc (.func f') first caps => Nat.beq f' f && (first.isEmpty && okOpds G caps.toList ys) | _ => false)
  | .mkslice sz z x' y' => (match o.op with | .makeSlice t x y => okOpd G x x' && (okOpd G y y' && elOK P t sz fun zv => cv (.d (zOf z)) zv && (zOf z).esc) | _ => false)
  | .slice sz y lo' hi' mx' => (match o.op with | .slice t x lo hi mx => okOpd G x y && (okOpdO G lo lo' && (okOpdO G hi hi' && (okOpdO G mx mx' && ((mx'.isNone || hi'.isSome) && optB (slOf P t) (fun el => optB (szOf P el) fun n => Nat.beq n sz))))) | _ => false)
  | .faddr off y => (match o.op with | .fieldAddr s x f => okOpd G x y && optB (fieldOf P s f) (fun q => Nat.beq q.1 off && optB (szOf P q.2) (fun n => !(Nat.beq n 0))) | _ => false)
  | .field off n ag y => (match o.op with | .field s x f => okOpd G x y && optB (fieldOf P s f) (fun q => Nat.beq q.1 off && (optB (szOf P q.2) (fun m => Nat.beq m n) && optB (aggOf P q.2) (fun b => b == ag))) | _ => false)
  | .iaddr sz x' i' => (match o.op with | .indexAddr t x i => okOpd G x x' && (okOpd G i i' && optB (slOf P t) (fun el => optB (szOf P el) fun n => Nat.beq n sz)) | _ => false)
  | .iaddrA len sz x' i' => (match o.op with | .indexAddr t x i => okOpd G x x' && (okOpd G i i' && optB (arrOf P t) (fun q => Nat.beq q.1 len && optB (szOf P q.2) fun n => Nat.beq n sz)) | _ => false)
  | .index len sz ag x' i' => (match o.op with | .index t x i => okOpd G x x' && (okOpd G i i' && optB (arrOf P t) (fun q => Nat.beq q.1 len && (optB (szOf P q.2) (fun n => Nat.beq n sz) && optB (aggOf P q.2) (fun b => b == ag)))) | _ => false)
  | .indexS x' i' => (match o.op with | .index t x i => okOpd G x x' && (okOpd G i i' && (match P.underlying t with | some .string => true | _ => false)) | _ => false)
  | .len y => (match o.op with | .call c => (match c.callee, c.args.toList, c.argTypes.toList with | .builtin .len, [x], [t] => okOpd G x y && isSlice P t | _, _, _ => false) | _ => false)
  | .append sz x' y' => (match o.op with | .call c => (match c.callee, c.args.toList, c.argTypes.toList with | .builtin .append, [x, y], [t, t2] => okOpd G x x' && (okOpd G y y' && (isSlice P t2 && elOK P t sz fun _ => true)) | _, _, _ => false) | _ => false)
  | .appendD sz x' y' => (match o.op with | .call c => (match c.callee, c.args.toList, c.argTypes.toList with | .builtin .append, [x, y], [t, t2] => okOpd G x x' && (okOpd G y y' && (isSlice P t2 && elOK P t sz fun _ => true)) | _, _, _ => false) | _ => false)
  | .mx b ys => (match o.op with | .call c => (match c.callee with | .builtin .max => b && okOpds G c.args.toList ys | .builtin .min => !b && okOpds G c.args.toList ys | _ => false) | _ => false)
  | .extract y i => (match o.op with | .extract x j => okOpd G x y && Nat.beq j i | _ => false)
  | .mkif t y => (match o.op with | .makeInterface t' x => Nat.beq t' t && (okOpd G x y && P.concrete t) | _ => false)
  | .call f ys => (match o.op with | .call c => (match c.callee with | .value (.func f') => Nat.beq f' f && okOpds G c.args.toList ys | _ => false) | _ => false)
  | .callv y ys => (match o.op with | .call c => (match c.callee with | .value x => okOpd G x y && okOpds G c.args.toList ys | _ => false) | _ => false)
  | .invoke tab y ys => (match o.op with | .call c => (match c.callee with | .invoke x name => okOpd G x y && (okOpds G c.args.toList ys && tabOK P name tab) | _ => false) | _ => false)
  | .panic => true
  | .nilq y => (match o.op with | .binOp .eql t x (.const (.slice none _ _)) _ => okOpd G x y && isSlice P t | _ => false)
  | .spec _ _ => false
  | .callk f ys _ => (match o.op with | .call c => (match c.callee with | .value (.func f') => Nat.beq f' f && okOpds G c.args.toList ys | _ => false) | _ => false)
  | .mkmap => (match o.op with | .makeMap t r => r.isNone | _ => false)
  | .mapset ks m' k' v' => (match o.op with | .mapUpdate t m k v => okOpd G m m' && (okOpd G k k' && (okOpd G v v' && mapTy P t ks none)) | _ => false)
  | .mapget ks z m' k' => (match o.op with | .lookup t m k ok => !ok && (okOpd G m m' && (okOpd G k k' && mapTy P t ks (some z))) | _ => false)

section
variable {P : Program} {G : Globs} {R : RP} {w : World} {e : Env} {a : Act} {Hm H' : Heap} {nid : Nat} {o : Oper}

theorem ret1_inv {v v' : V} {up : List (Nat × Blk)} {nw : List Blk} (h : ret1 v = some (v', up, nw)) : v = v' ∧ up = [] ∧ nw = [] := by
  unfold ret1 at h; cases h; exact ⟨rfl, rfl, rfl⟩

theorem op_ok (pre : Pre G R w e a Hm) {Γ : Ctx} {cf : CallF} (hcf : CallOK P G cf) {op : O} {v : V} {up : List (Nat × Blk)} {nw : List Blk} (hc : okOp P G o op = true) (h : opE Γ cf e nid Hm op = some (v, up, nw)) (hn : ∀ i, nid ≤ i → i < nid + nw.length → R.M i = none) (hp : Placed R.H up nid nw H') :
    OpOK P o a w (Post R w nid nw.length H' v) := by
  cases op with
  | mov y =>
    obtain ⟨rfl, rfl, rfl⟩ := ret1_inv h
    simp only [okOp] at hc
    split at hc
    · rename_i x hop; exact s_mov pre (.inl hop) hc hp
    · rename_i x hop; exact s_mov pre (.inr hop) hc hp
    · cases hc
  | pick c' x' y' =>
    simp only [okOp] at hc
    split at hc
    · rename_i c x y hop
      simp only [Bool.and_eq_true] at hc
      simp only [opE] at h
      split at h
      · rename_i t ht
        obtain ⟨rfl, rfl, rfl⟩ := ret1_inv h
        exact s_pick pre hop hc.1 hc.2.1 hc.2.2 ht hp
      · cases h
    · cases hc
  | alloc z =>
    simp only [okOp] at hc
    split at hc
    · rename_i t hop
      simp only [Bool.and_eq_true] at hc
      obtain ⟨zv, h1, h2⟩ := optB_some hc.2
      simp only [opE, Option.some.injEq, Prod.mk.injEq] at h
      obtain ⟨rfl, rfl, rfl⟩ := h
      exact s_alloc pre hop h1 h2 hc.1 (hn nid (Nat.le_refl _) (by simp)) hp
    · cases hc
  | box y =>
    simp only [okOp] at hc
    split at hc
    · rename_i t x hop
      simp only [opE] at h
      cases hb : (y.val e).okb with
      | false => rw [hb] at h; cases h
      | true =>
        rw [hb] at h
        simp only [cond_true, Option.some.injEq, Prod.mk.injEq] at h
        obtain ⟨rfl, rfl, rfl⟩ := h
        exact s_box pre hop hc hb (hn nid (Nat.le_refl _) (by simp)) hp
    · cases hc
  | build z ps =>
    simp only [okOp] at hc
    split at hc
    · rename_i t parts hop
      obtain ⟨place, h1, hc⟩ := optB_some hc
      obtain ⟨zv, h2, hc⟩ := optB_some hc
      simp only [Bool.and_eq_true] at hc
      simp only [opE] at h
      split at h
      · rename_i cs hf
        obtain ⟨rfl, rfl, rfl⟩ := ret1_inv h
        exact s_build pre hop h1 h2 hc.1 hc.2 hf hp
      · cases h
    · cases hc
  | bslice sz z len ps =>
    simp only [okOp] at hc
    split at hc
    · rename_i t l parts hop
      simp only [Bool.and_eq_true, Nat.ble_eq] at hc
      obtain ⟨c1, ⟨c0, c2⟩, c3, c4⟩ := hc
      obtain rfl := Nat.eq_of_beq_eq_true c1
      obtain ⟨el, i, zv, he, hz⟩ := elOK_spec c4
      simp only [Bool.and_eq_true] at hz
      simp only [opE] at h
      cases hl : Nat.beq l 0 with
      | true =>
        rw [hl] at h
        obtain rfl := Nat.eq_of_beq_eq_true hl
        obtain ⟨rfl, rfl, rfl⟩ := ret1_inv h
        exact s_bslice0 pre hop he (Array.isEmpty_iff.1 (by simpa using c0)) hp
      | false =>
        rw [hl] at h
        simp only [cond_false] at h
        split at h
        · rename_i xs ks hf
          simp only [Option.some.injEq, Prod.mk.injEq] at h
          obtain ⟨rfl, rfl, rfl⟩ := h
          exact s_bslice pre hop he hz.1 hz.2 (fun h0 => by subst h0; cases hl) c3 c2 hf (hn nid (Nat.le_refl _) (by simp)) hp
        · cases h
    · cases hc
  | load n ag y =>
    simp only [okOp] at hc
    split at hc
    · rename_i t x hop
      simp only [Bool.and_eq_true] at hc
      obtain ⟨b, h1, h2⟩ := optB_some hc.2.1
      obtain ⟨m, h3, h4⟩ := optB_some hc.2.2
      obtain rfl := Nat.eq_of_beq_eq_true h4
      obtain rfl : b = ag := by simpa using h2
      simp only [opE] at h
      split at h
      · rename_i v' hl
        obtain ⟨rfl, rfl, rfl⟩ := ret1_inv h
        exact s_load pre hop hc.1 h1 h3 hl hp
      · cases h
    · cases hc
  | store n x' y' =>
    simp only [okOp] at hc
    split at hc
    · rename_i t x y hop
      simp only [Bool.and_eq_true] at hc
      obtain ⟨m, h3, h4⟩ := optB_some hc.2.2
      obtain rfl := Nat.eq_of_beq_eq_true h4
      simp only [opE] at h
      exact s_store pre hop hc.1 hc.2.1 h3 h hp
    · cases hc
  | nilck y =>
    simp only [okOp] at hc
    split at hc
    · rename_i x hop
      simp only [opE] at h
      split at h
      · rename_i v' hl
        obtain ⟨rfl, rfl, rfl⟩ := ret1_inv h
        exact s_nilck pre hop hc hl hp
      · cases h
    · cases hc
  | bin b x' y' =>
    simp only [okOp] at hc
    split at hc
    · rename_i b' t x y t' hop
      simp only [Bool.and_eq_true, decide_eq_true_eq] at hc
      obtain ⟨rfl, c1, c2⟩ := hc
      simp only [opE] at h
      split at h
      · rename_i v' hl
        obtain ⟨rfl, rfl, rfl⟩ := ret1_inv h
        exact s_bin pre hop c1 c2 hl hp
      · cases h
    · cases hc
  | eqv ks neg x' y' =>
    simp only [okOp] at hc
    split at hc
    · rename_i b t x y t' hop
      simp only [Bool.and_eq_true, decide_eq_true_eq] at hc
      obtain ⟨rfl, c1, c2, c3⟩ := hc
      obtain ⟨l, h1, h2⟩ := optB_some c3
      obtain rfl : l = ks := by simpa using h2
      simp only [opE] at h
      split at h
      · rename_i d1 d2 e1 e2
        split at h
        · rename_i hk
          split at h
          · rename_i r hr
            obtain ⟨rfl, rfl, rfl⟩ := ret1_inv h
            exact s_eqv pre hop c1 c2 h1 e1 e2 hk hr hp
          · cases h
        · cases h
      · cases h
    · cases hc
  | un b y =>
    simp only [okOp] at hc
    split at hc
    · rename_i b' t x hop
      simp only [Bool.and_eq_true, decide_eq_true_eq] at hc
      obtain ⟨rfl, c1⟩ := hc
      simp only [opE] at h
      split at h
      · rename_i v' hl
        obtain ⟨rfl, rfl, rfl⟩ := ret1_inv h
        exact s_un pre hop c1 hl hp
      · cases h
    · cases hc
  | conv k y =>
    simp only [okOp] at hc
    split at hc
    · rename_i s t x hop
      simp only [Bool.and_eq_true] at hc
      obtain ⟨c1, c2, c3⟩ := hc
      obtain ⟨ds, hds⟩ := Option.isSome_iff_exists.1 c2
      split at c3
      · rename_i k' hk
        simp only [decide_eq_true_eq] at c3
        subst c3
        simp only [opE] at h
        split at h
        · rename_i k0 n hv
          obtain ⟨rfl, rfl, rfl⟩ := ret1_inv h
          exact s_conv pre hop c1 hds hk hv hp
        · cases h
      · cases c3
    · cases hc
  | mkfn f ys =>
    simp only [okOp] at hc
    split at hc
    · rename_i f' first caps hop
      simp only [Bool.and_eq_true] at hc
      obtain ⟨c1, c2, c3⟩ := hc
      obtain rfl := Nat.eq_of_beq_eq_true c1
      simp only [opE] at h
      obtain ⟨rfl, rfl, rfl⟩ := ret1_inv h
      have := s_mkfn (P := P) pre hop (Array.isEmpty_iff.1 c2) c3 hp
      cases ys <;> exact this
    · cases hc
  | mkslice sz z x' y' =>
    simp only [okOp] at hc
    split at hc
    · rename_i t x y hop
      simp only [Bool.and_eq_true] at hc
      obtain ⟨c1, c2, c3⟩ := hc
      obtain ⟨el, i, zv, he, hz⟩ := elOK_spec c3
      simp only [Bool.and_eq_true] at hz
      simp only [opE] at h
      split at h
      · rename_i k1 n k2 m e1 e2
        cases hb : (decide (0 ≤ n) && decide (n ≤ lim) && decide (n == m)) with
        | false => rw [hb] at h; cases h
        | true =>
          rw [hb] at h
          simp only [cond_true, Option.some.injEq, Prod.mk.injEq] at h
          obtain ⟨rfl, rfl, rfl⟩ := h
          simp only [Bool.and_eq_true, decide_eq_true_eq, beq_iff_eq] at hb
          obtain ⟨⟨b1, b2⟩, rfl⟩ := hb
          exact s_mkslice pre hop he hz.1 hz.2 c1 c2 e1 e2 b1 b2 (hn nid (Nat.le_refl _) (by simp)) hp
      · cases h
    · cases hc
  | slice sz y lo' hi' mx' =>
    simp only [okOp] at hc
    split at hc
    · rename_i t x lo hi mx hop
      simp only [Bool.and_eq_true] at hc
      obtain ⟨c1, c2, c3, c4, c5, c6⟩ := hc
      obtain ⟨el, h1, h2⟩ := optB_some c6
      obtain ⟨n, h3, h4⟩ := optB_some h2
      obtain rfl := Nat.eq_of_beq_eq_true h4
      simp only [opE] at h
      split at h
      · rename_i v' hl
        obtain ⟨rfl, rfl, rfl⟩ := ret1_inv h
        exact s_slice pre hop c1 c2 c3 c4 (fun hm => by cases mx' <;> simp_all) h1 h3 hl hp
      · cases h
    · cases hc
  | faddr off y =>
    simp only [okOp] at hc
    split at hc
    · rename_i s x f hop
      simp only [Bool.and_eq_true] at hc
      obtain ⟨⟨off', t⟩, h1, h2⟩ := optB_some hc.2
      simp only [Bool.and_eq_true] at h2
      obtain ⟨n, h3, h4⟩ := optB_some h2.2
      obtain rfl := Nat.eq_of_beq_eq_true h2.1
      simp only [opE] at h
      split at h
      · rename_i v' hl
        obtain ⟨rfl, rfl, rfl⟩ := ret1_inv h
        exact s_faddr pre hop hc.1 h1 h3 (fun h0 => by subst h0; cases h4) hl hp
      · cases h
    · cases hc
  | field off n ag y =>
    simp only [okOp] at hc
    split at hc
    · rename_i s x f hop
      simp only [Bool.and_eq_true] at hc
      obtain ⟨⟨off', t⟩, h1, h2⟩ := optB_some hc.2
      simp only [Bool.and_eq_true] at h2
      obtain ⟨m, h3, h4⟩ := optB_some h2.2.1
      obtain ⟨b, h5, h6⟩ := optB_some h2.2.2
      obtain rfl := Nat.eq_of_beq_eq_true h2.1
      obtain rfl := Nat.eq_of_beq_eq_true h4
      obtain rfl : b = ag := by simpa using h6
      simp only [opE] at h
      split at h
      · rename_i cs hy
        split at h
        · rename_i v' hl
          obtain ⟨rfl, rfl, rfl⟩ := ret1_inv h
          exact s_field pre hop hc.1 h1 h5 h3 (.inl ⟨cs, hy, hl⟩) hp
        · cases h
      · rename_i cs hy
        split at h
        · rename_i v' hl
          obtain ⟨rfl, rfl, rfl⟩ := ret1_inv h
          exact s_field pre hop hc.1 h1 h5 h3 (.inr ⟨cs, hy, hl⟩) hp
        · cases h
      · cases h
    · cases hc
  | iaddr sz x' i' =>
    simp only [okOp] at hc
    split at hc
    · rename_i t x i hop
      simp only [Bool.and_eq_true] at hc
      obtain ⟨c1, c2, c3⟩ := hc
      obtain ⟨el, h1, h2⟩ := optB_some c3
      obtain ⟨n, h3, h4⟩ := optB_some h2
      obtain rfl := Nat.eq_of_beq_eq_true h4
      simp only [opE] at h
      split at h
      · rename_i v' hl
        obtain ⟨rfl, rfl, rfl⟩ := ret1_inv h
        exact s_iaddr pre hop c1 c2 h1 h3 hl hp
      · cases h
    · cases hc
  | iaddrA len sz x' i' =>
    simp only [okOp] at hc
    split at hc
    · rename_i t x i hop
      simp only [Bool.and_eq_true] at hc
      obtain ⟨c1, c2, c3⟩ := hc
      obtain ⟨⟨len', el⟩, h1, h2⟩ := optB_some c3
      simp only [Bool.and_eq_true] at h2
      obtain ⟨n, h3, h4⟩ := optB_some h2.2
      obtain rfl := Nat.eq_of_beq_eq_true h4
      obtain rfl := Nat.eq_of_beq_eq_true h2.1
      simp only [opE] at h
      split at h
      · rename_i v' hl
        obtain ⟨rfl, rfl, rfl⟩ := ret1_inv h
        exact s_iaddrA pre hop c1 c2 h1 h3 hl hp
      · cases h
    · cases hc
  | indexS x' i' =>
    simp only [okOp] at hc
    split at hc
    · rename_i t x i hop
      simp only [Bool.and_eq_true] at hc
      obtain ⟨c1, c2, c3⟩ := hc
      split at c3
      · rename_i hu
        simp only [opE] at h
        split at h
        · rename_i v' hl
          obtain ⟨rfl, rfl, rfl⟩ := ret1_inv h
          exact s_indexS pre hop c1 c2 hu hl hp
        · cases h
      · cases c3
    · cases hc
  | len y =>
    simp only [okOp] at hc
    split at hc
    · rename_i c hop
      obtain ⟨callee, args, ats⟩ := c
      dsimp only at hc
      split at hc
      · rename_i x t hargs hats
        simp only [Bool.and_eq_true] at hc
        have e1 : args = #[x] := by apply Array.ext'; simpa using hargs
        have e2 : ats = #[t] := by apply Array.ext'; simpa using hats
        subst e1; subst e2
        obtain ⟨el, hel⟩ : ∃ el, slOf P t = some el := by
          have := hc.2
          unfold isSlice at this; unfold slOf
          split at this
          · rename_i el hu; rw [hu]; exact ⟨el, rfl⟩
          · cases this
        simp only [opE] at h
        split at h
        · rename_i v' hl
          obtain ⟨rfl, rfl, rfl⟩ := ret1_inv h
          exact s_len pre hop hc.1 hel hl hp
        · cases h
      · cases hc
    · cases hc
  | append sz x' y' =>
    simp only [okOp] at hc
    split at hc
    · rename_i c hop
      obtain ⟨callee, args, ats⟩ := c
      dsimp only at hc
      split at hc
      · rename_i x y t t2 hargs hats
        simp only [Bool.and_eq_true] at hc
        obtain ⟨c1, c2, c3, c4⟩ := hc
        have e1 : args = #[x, y] := by apply Array.ext'; simpa using hargs
        have e2 : ats = #[t, t2] := by apply Array.ext'; simpa using hats
        subst e1; subst e2
        obtain ⟨el, i, zv, he, _⟩ := elOK_spec c4
        obtain ⟨el2, hel⟩ : ∃ el2, P.underlying t2 = some (.slice el2) := by
          unfold isSlice at c3
          split at c3
          · rename_i el hu; exact ⟨el, hu⟩
          · cases c3
        simp only [opE] at h
        exact s_append pre hop he hel c1 c2 h hn hp
      · cases hc
    · cases hc
  | appendD sz x' y' =>
    simp only [okOp] at hc
    split at hc
    · rename_i c hop
      obtain ⟨callee, args, ats⟩ := c
      dsimp only at hc
      split at hc
      · rename_i x y t t2 hargs hats
        simp only [Bool.and_eq_true] at hc
        obtain ⟨c1, c2, c3, c4⟩ := hc
        have e1 : args = #[x, y] := by apply Array.ext'; simpa using hargs
        have e2 : ats = #[t, t2] := by apply Array.ext'; simpa using hats
        subst e1; subst e2
        obtain ⟨el, i, zv, he, _⟩ := elOK_spec c4
        obtain ⟨el2, hel⟩ : ∃ el2, P.underlying t2 = some (.slice el2) := by
          unfold isSlice at c3
          split at c3
          · rename_i el hu; exact ⟨el, hu⟩
          · cases c3
        simp only [opE] at h
        split at h
        · rename_i v' hv'
          obtain ⟨rfl, rfl, rfl⟩ := ret1_inv h
          exact s_appendD pre hop he hel c1 c2 hv' hp
        · cases h
      · cases hc
    · cases hc
  | mx b ys =>
    simp only [okOp] at hc
    split at hc
    · rename_i c hop
      obtain ⟨callee, args, ats⟩ := c
      dsimp only at hc
      simp only [opE] at h
      split at h
      · rename_i r hr
        obtain ⟨rfl, rfl, rfl⟩ := ret1_inv h
        split at hc
        · simp only [Bool.and_eq_true] at hc
          obtain ⟨rfl, c2⟩ := hc
          exact s_mx pre (b := true) hop c2 hr hp
        · simp only [Bool.and_eq_true, Bool.not_eq_true'] at hc
          obtain ⟨rfl, c2⟩ := hc
          exact s_mx pre (b := false) hop c2 hr hp
        · cases hc
      · cases h
    · cases hc
  | extract y i =>
    simp only [okOp] at hc
    split at hc
    · rename_i x j hop
      simp only [Bool.and_eq_true] at hc
      obtain rfl := Nat.eq_of_beq_eq_true hc.2
      simp only [opE] at h
      split at h
      · rename_i vs hy
        split at h
        · rename_i v' hl
          obtain ⟨rfl, rfl, rfl⟩ := ret1_inv h
          exact s_extract pre hop hc.1 (.inl ⟨vs, hy, hl⟩) hp
        · cases h
      · rename_i vs hy
        split at h
        · rename_i v' hl
          obtain ⟨rfl, rfl, rfl⟩ := ret1_inv h
          exact s_extract pre hop hc.1 (.inr ⟨vs, v', hy, hl, rfl⟩) hp
        · cases h
      · cases h
    · cases hc
  | mkif t y =>
    simp only [okOp] at hc
    split at hc
    · rename_i t' x hop
      simp only [Bool.and_eq_true] at hc
      obtain rfl := Nat.eq_of_beq_eq_true hc.1
      simp only [opE] at h
      split at h
      · rename_i z hf
        obtain ⟨rfl, rfl, rfl⟩ := ret1_inv h
        exact s_mkif pre hop hc.2.1 hc.2.2 hf hp
      · cases h
    · cases hc
  | call f ys =>
    simp only [okOp] at hc
    split at hc
    · rename_i c hop
      obtain ⟨callee, args, ats⟩ := c
      dsimp only at hc
      split at hc
      · simp only [Bool.and_eq_true] at hc
        obtain rfl := Nat.eq_of_beq_eq_true hc.1
        simp only [opE] at h
        exact s_call pre hcf hop hc.2 h hn hp
      · cases hc
    · cases hc
  | callv y ys =>
    simp only [okOp] at hc
    split at hc
    · rename_i c hop
      obtain ⟨callee, args, ats⟩ := c
      dsimp only at hc
      split at hc
      · simp only [Bool.and_eq_true] at hc
        rw [opE_callv] at h
        split at h
        · rename_i f caps hcaps
          split at h
          · cases h
          · rename_i hbad
            exact s_callv pre hcf hop hc.2 hc.1 hcaps hbad h hn hp
        · cases h
      · cases hc
    · cases hc
  | index len sz ag x' i' =>
    simp only [okOp] at hc
    split at hc
    · rename_i t x i hop
      simp only [Bool.and_eq_true] at hc
      obtain ⟨c1, c2, c3⟩ := hc
      obtain ⟨⟨len', el⟩, h1, h2⟩ := optB_some c3
      simp only [Bool.and_eq_true] at h2
      obtain ⟨n, h3, h4⟩ := optB_some h2.2.1
      obtain ⟨b, h5, h6⟩ := optB_some h2.2.2
      obtain rfl := Nat.eq_of_beq_eq_true h4
      obtain rfl := Nat.eq_of_beq_eq_true h2.1
      obtain rfl : b = ag := by simpa using h6
      simp only [opE] at h
      split at h
      · rename_i v' hl
        obtain ⟨rfl, rfl, rfl⟩ := ret1_inv h
        exact s_index pre hop c1 c2 h1 h5 h3 hl hp
      · cases h
    · cases hc
  | invoke tab y ys =>
    simp only [okOp] at hc
    split at hc
    · rename_i c hop
      obtain ⟨callee, args, ats⟩ := c
      dsimp only at hc
      split at hc
      · simp only [Bool.and_eq_true] at hc
        rw [opE_invoke] at h
        split at h
        · rename_i t z hval
          split at h
          · rename_i f hl
            exact s_invoke pre hcf hop hc.1 hc.2.1 hc.2.2 hval hl h hn hp
          · cases h
        · cases h
      · cases hc
    · cases hc
  | panic => cases h
  | spec id args => cases hc
  | nilq y =>
    simp only [okOp] at hc
    split at hc
    · rename_i t x n1 n2 t' hop
      simp only [Bool.and_eq_true] at hc
      simp only [opE] at h
      split at h
      · rename_i xs hxs
        split at h
        · rename_i hb
          obtain ⟨rfl, rfl, rfl⟩ := ret1_inv h
          have hl : 0 < xs.length := by have := hb; simp [Nat.blt] at this; omega
          unfold isSlice at hc
          obtain ⟨c1, c2⟩ := hc
          split at c2
          · rename_i el hu
            obtain ⟨ad, cap, hval⟩ := elems_some pre (pre.opd c1) hxs hl
            refine opOK_v (s := do eqGuard .eql t x (.const (.slice none n1 n2)) (a.eval x) (.slice none n1 n2); binOp .eql t (a.eval x) (.slice none n1 n2)) (u := .bool false) (by unfold execOp; rw [hop]; rfl) ?_ (Post.stay pre.ok hp rfl)
            rw [hval]
            have hq : (Op.equalIn 10000 t (.slice (some ad) xs.length cap) (.slice none n1 n2)).run P w = .ok false w := by
              show (Op.equalIn (9999 + 1) t (.slice (some ad) xs.length cap) (.slice none n1 n2)).run P w = .ok false w
              rw [Op.equalIn]
              simp only [Sem.run_bind, run_underlying hu, Result.andThen_ok]
              rfl
            simp [eqGuard, binOp, Op.equal, Op.maxDepth, hq]
          · cases c2
        · cases h
      · cases h
    · cases hc
  | callk f ys chk =>
    simp only [okOp] at hc
    split at hc
    · rename_i c hop
      obtain ⟨callee, args, ats⟩ := c
      dsimp only at hc
      split at hc
      · simp only [Bool.and_eq_true] at hc
        obtain rfl := Nat.eq_of_beq_eq_true hc.1
        simp only [opE] at h
        exact s_call pre hcf hop hc.2 h hn hp
      · cases hc
    · cases hc
  | mkmap =>
    simp only [okOp] at hc
    split at hc
    · rename_i t r hop
      simp only [opE, Option.some.injEq, Prod.mk.injEq] at h
      obtain ⟨rfl, rfl, rfl⟩ := h
      exact s_mkmap pre hop (by simpa using hc) (hn nid (Nat.le_refl _) (by simp)) hp
    · cases hc
  | mapset ks m' k' v' =>
    simp only [okOp] at hc
    split at hc
    · rename_i t m k v hop
      simp only [Bool.and_eq_true] at hc
      obtain ⟨c1, c2, c3, c4⟩ := hc
      simp only [opE] at h
      exact s_mapset pre hop c1 c2 c3 c4 h hp
    · cases hc
  | mapget ks z m' k' =>
    simp only [okOp] at hc
    split at hc
    · rename_i t m k ok hop
      simp only [Bool.and_eq_true, Bool.not_eq_true'] at hc
      obtain ⟨c0, c1, c2, c3⟩ := hc
      subst c0
      simp only [opE] at h
      cases hr : mapgetE Hm ks z (m'.val e) (k'.val e) with
      | none => rw [hr] at h; cases h
      | some r =>
        rw [hr] at h
        obtain ⟨rfl, rfl, rfl⟩ := ret1_inv h
        exact s_mapget pre hop c1 c2 c3 hr hp
    · cases hc
end

end Go.Proofs.YtljgncbdagmeeaaDoorE
