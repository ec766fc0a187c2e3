/- The evaluator without a bound on rounds and calls, and its equations. -/
import Derived.Test.YtljgncbdagmeeaaDoorE1
namespace Go.Proofs.YtljgncbdagmeeaaDoorE
open Go
set_option linter.unusedVariables false
set_option linter.unusedSimpArgs false

/-- says at most what y says -/
def Le {α : Type} (x y : Option α) : Prop := ∀ a, x = some a → y = some a
theorem Le.refl {α : Type} (x : Option α) : Le x x := fun _ h => h
theorem Le.trans {α : Type} {x y z : Option α} (h : Le x y) (k : Le y z) : Le x z := fun a ha => k a (h a ha)
theorem Le.none {α : Type} (x : Option α) : Le none x := fun _ h => by cases h
theorem Le.of_eq {α : Type} {x y : Option α} (h : x = y) : Le x y := h ▸ Le.refl x

noncomputable def lim_ {α : Type} (F : Nat → Option α) : Option α := open Classical in if h : ∃ n, (F n).isSome = true then F (Classical.choose h) else none

theorem lim_iff {α : Type} {F : Nat → Option α} (mono : ∀ n m, n ≤ m → Le (F n) (F m)) (a : α) : lim_ F = some a ↔ ∃ n, F n = some a := by
  unfold lim_
  constructor
  · intro h
    split at h
    · rename_i hx; exact ⟨_, h⟩
    · cases h
  · rintro ⟨n, hn⟩
    have hx : ∃ n, (F n).isSome = true := ⟨n, by simp [hn]⟩
    rw [dif_pos hx]
    have hs := Classical.choose_spec hx
    cases hv : F (Classical.choose hx) with
    | none => rw [hv] at hs; cases hs
    | some b =>
      rcases Nat.le_total n (Classical.choose hx) with h | h
      · rw [← hv]; exact mono _ _ h a hn
      · have := mono _ _ h b hv; rw [hn] at this; exact this.symm

def LeC (f g : CallF) : Prop := ∀ a b c, Le (f a b c) (g a b c)
abbrev Rnd := List V → Heap → Option Lp
abbrev ItF := Rnd → List V → Heap → Option (Ex × List V × Heap)
def LeR (f g : Rnd) : Prop := ∀ a b, Le (f a b) (g a b)
def LeI (f g : ItF) : Prop := ∀ F G, LeR F G → ∀ a b, Le (f F a b) (g G a b)

theorem callE_mono {Γ : Ctx} {cf cg : CallF} (h : LeC cf cg) (nid : Nat) (H : Heap) (f : Nat) (args : List V) : Le (callE Γ cf nid H f args) (callE Γ cg nid H f args) := by
  intro r hr
  unfold callE at hr ⊢
  split at hr
  · rename_i hm
    cases h1 : fzs H args with
    | none => simp [h1] at hr
    | some l =>
      simp only [h1] at hr ⊢
      cases h2 : cf f (mapd l) [] with
      | none => simp [h2] at hr
      | some p => rw [h2] at hr; rw [h _ _ _ p h2]; exact hr
  · rename_i hm
    cases h1 : fzs H args with
    | none => simp [h1] at hr
    | some l =>
      simp only [h1] at hr ⊢
      cases h2 : cf f (mapd l) [] with
      | none => simp [h2] at hr
      | some p => rw [h2] at hr; rw [h _ _ _ p h2]; exact hr
  · cases h1 : extract 0 args H with
    | none => simp [h1] at hr
    | some q =>
      obtain ⟨L, args', H0⟩ := q
      simp only [h1] at hr ⊢
      cases h2 : cf f args' H0 with
      | none => simp [h2] at hr
      | some p => rw [h2] at hr; rw [h _ _ _ p h2]; exact hr

theorem opE_callv {Γ : Ctx} {cf : CallF} (e : Env) (nid : Nat) (H : Heap) (x : Opd) (args : List Opd) :
    opE Γ cf e nid H (.callv x args) = match capsOf (x.val e) with | some (f, caps) => (match callvBad Γ (x.val e) f caps with | true => none | false => callE Γ cf nid H f (vals e args ++ caps)) | none => none := rfl
theorem opE_invoke {Γ : Ctx} {cf : CallF} (e : Env) (nid : Nat) (H : Heap) (tab : List (Nat × Nat)) (x : Opd) (args : List Opd) :
    opE Γ cf e nid H (.invoke tab x args) = match x.val e with
      | .d (.iface t y) => (match lookT tab t with | some f => callE Γ cf nid H f (.d y :: vals e args) | none => none)
      | _ => none := rfl

theorem opE_mono {Γ : Ctx} {cf cg : CallF} (h : LeC cf cg) (e : Env) (nid : Nat) (H : Heap) (o : O) : Le (opE Γ cf e nid H o) (opE Γ cg e nid H o) := by
  intro r hr
  cases o <;> try exact hr
  · exact callE_mono h _ _ _ _ r hr
  · rename_i x args
    rw [opE_callv] at hr ⊢
    cases h1 : capsOf (x.val e) with
    | none => simp [h1] at hr
    | some q =>
      obtain ⟨f, caps⟩ := q; simp only [h1] at hr ⊢
      cases hb : callvBad Γ (x.val e) f caps with
      | true => rw [hb] at hr; cases hr
      | false => rw [hb] at hr; exact callE_mono h _ _ _ _ r hr
  · rename_i tab x args
    rw [opE_invoke] at hr ⊢
    split at hr
    · rename_i t y hx
      split at hr
      · exact callE_mono h _ _ _ _ r hr
      · cases hr
    · cases hr
  · exact callE_mono h _ _ _ _ r hr

theorem opsE_mono {Γ : Ctx} {cf cg : CallF} (h : LeC cf cg) : ∀ (l : List Op1) (e : Env) (H : Heap), Le (opsE Γ cf l e H) (opsE Γ cg l e H)
  | [], e, H, r, hr => hr
  | o :: l, e, H, r, hr => by
    unfold opsE at hr ⊢
    cases hw : wants e o.guard with
    | none => simp [hw] at hr
    | some b =>
      cases b with
      | false => simp only [hw] at hr ⊢; exact opsE_mono h l _ _ r hr
      | true =>
        simp only [hw] at hr ⊢
        cases ho : opE Γ cf e H.length H o.op with
        | none => simp [ho] at hr
        | some q =>
          rw [ho] at hr; rw [opE_mono h _ _ _ _ q ho]
          exact opsE_mono h l _ _ r hr

theorem drawE_mono {Γ : Ctx} {cf cg : CallF} (h : LeC cf cg) : ∀ (l : List Op1) (pos : List (Nat × Nat)) (e : Env) (H : Heap), Le (drawE Γ cf pos l e H) (drawE Γ cg pos l e H)
  | [], pos, e, H, r, hr => hr
  | o :: l, pos, e, H, r, hr => by
    unfold drawE at hr ⊢
    cases hw : wants e o.guard with
    | none => simp [hw] at hr
    | some b =>
      cases b with
      | false => simp only [hw] at hr ⊢; exact drawE_mono h l _ _ _ r hr
      | true =>
        simp only [hw] at hr ⊢
        cases ho : opE Γ cf e H.length (hideH H pos o.mask) o.op with
        | none => simp [ho] at hr
        | some q =>
          rw [ho] at hr; rw [opE_mono h _ _ _ _ q ho]
          obtain ⟨v, up, nw⟩ := q
          dsimp only at hr ⊢
          cases hb : (effC e H o up nw) with
          | false => simp [hb] at hr
          | true => simp only [hb, cond_true] at hr ⊢; exact drawE_mono h l _ _ _ r hr

theorem roundE_mono {k : Nat} {live outs : List Nat} {x y : Option (Ex × Env × Heap)} (h : Le x y) : Le (roundE k live outs x) (roundE k live outs y) := by
  intro r hr
  cases x with
  | none => simp [roundE] at hr
  | some q => rw [h q rfl]; exact hr

theorem codeE_mono {Γ : Ctx} {cf cg : CallF} {It Jt : ItF} (h : LeC cf cg) (hi : LeI It Jt) (k : Nat) : ∀ (c : C) (e : Env) (H : Heap), Le (codeE Γ cf It k c e H) (codeE Γ cg Jt k c e H) := by
  intro c
  induction c with
  | skip => intro e H; exact Le.refl _
  | ret => intro e H; exact Le.refl _
  | exit id => intro e H; exact Le.refl _
  | seq a b iha ihb =>
    intro e H r hr
    unfold codeE at hr ⊢
    cases ha : codeE Γ cf It k a e H with
    | none => simp [ha] at hr
    | some q =>
      rw [ha] at hr; rw [iha e H q ha]
      obtain ⟨x, e1, H1⟩ := q
      cases x with
      | normal => exact ihb e1 H1 r hr
      | exit id => exact hr
      | ret => exact hr
  | cond x a b iha ihb =>
    intro e H r hr
    unfold codeE at hr ⊢
    split at hr
    · rename_i t ht
      cases t with
      | true => exact iha e H r hr
      | false => exact ihb e H r hr
    · cases hr
  | block id a iha =>
    intro e H r hr
    unfold codeE at hr ⊢
    cases ha : codeE Γ cf It k a e H with
    | none => simp [ha] at hr
    | some q => rw [ha] at hr; rw [iha e H q ha]; exact hr
  | loop live outs a iha =>
    intro e H r hr
    unfold codeE at hr ⊢
    cases hh : head k (live.map e) H with
    | none => simp [hh] at hr
    | some q =>
      obtain ⟨vs, H1⟩ := q
      simp only [hh] at hr ⊢
      cases hit : It (fun vs H => roundE k live outs (codeE Γ cf It k a (envOf live vs) H)) vs H1 with
      | none => simp [hit] at hr
      | some p =>
        rw [hit] at hr
        rw [hi _ (fun vs H => roundE k live outs (codeE Γ cg Jt k a (envOf live vs) H)) (fun vs H => roundE_mono (iha (envOf live vs) H)) vs H1 p hit]
        exact hr
  | ops l =>
    intro e H r hr
    unfold codeE at hr ⊢
    cases ho : opsE Γ cf l e H with
    | none => simp [ho] at hr
    | some q => rw [ho] at hr; rw [opsE_mono h l e H q ho]; exact hr
  | draw l =>
    intro e H r hr
    unfold codeE at hr ⊢
    cases ho : drawE Γ cf [] l e H with
    | none => simp [ho] at hr
    | some q => rw [ho] at hr; rw [drawE_mono h l _ e H q ho]; exact hr

theorem funE_mono {Γ : Ctx} {cf cg : CallF} {It Jt : ItF} (h : LeC cf cg) (hi : LeI It Jt) (f : Nat) (args : List V) (H : Heap) : Le (funE Γ cf It f args H) (funE Γ cg Jt f args H) := by
  intro r hr
  unfold funE at hr ⊢
  cases hc : Γ.code f with
  | none => simp [hc] at hr
  | some fn =>
    simp only [hc] at hr ⊢
    cases hn : Nat.beq args.length fn.nargs with
    | false => simp [hn] at hr
    | true =>
      simp only [hn, cond_true] at hr ⊢
      cases hx : codeE Γ cf It H.length fn.body (argEnv 0 args) H with
      | none => simp [hx] at hr
      | some q => rw [hx] at hr; rw [codeE_mono h hi _ _ _ _ q hx]; exact hr

theorem iterN_mono {F G : Rnd} (h : LeR F G) : ∀ (n m : Nat), n ≤ m → ∀ vs H, Le (iterN F n vs H) (iterN G m vs H)
  | 0, m, _, vs, H => Le.none _
  | n + 1, 0, hm, vs, H => absurd hm (by omega)
  | n + 1, m + 1, hm, vs, H => by
    intro r hr
    unfold iterN at hr ⊢
    cases hf : F vs H with
    | none => simp [hf] at hr
    | some q =>
      rw [hf] at hr; rw [h vs H q hf]
      cases q with
      | again vs H => exact iterN_mono h n m (by omega) vs H r hr
      | done x vs H => exact hr

theorem evN_mono (Γ : Ctx) : ∀ (n m : Nat), n ≤ m → LeC (evN Γ n) (evN Γ m)
  | 0, m, _ => fun _ _ _ => Le.none _
  | n + 1, 0, hm => absurd hm (by omega)
  | n + 1, m + 1, hm => fun f args H => funE_mono (evN_mono Γ n m (by omega)) (fun F G h vs H => iterN_mono h n m (by omega) vs H) f args H

/-- the answer of a call, if it ever comes -/
noncomputable def evW (Γ : Ctx) : CallF := fun f args H => lim_ fun n => evN Γ n f args H
noncomputable def itW : ItF := fun F vs H => lim_ fun n => iterN F n vs H

theorem evW_iff (Γ : Ctx) (f : Nat) (args : List V) (H : Heap) (r : V × Heap) : evW Γ f args H = some r ↔ ∃ n, evN Γ n f args H = some r :=
  lim_iff (fun n m h => evN_mono Γ n m h f args H) r
theorem itW_iff (F : Rnd) (vs : List V) (H : Heap) (r : Ex × List V × Heap) : itW F vs H = some r ↔ ∃ n, iterN F n vs H = some r :=
  lim_iff (fun n m h => iterN_mono (fun _ _ => Le.refl _) n m h vs H) r

theorem itW_eq (F : Rnd) (vs : List V) (H : Heap) : itW F vs H = match F vs H with | some (.again vs H) => itW F vs H | some (.done x vs H) => some (x, vs, H) | none => none := by
  cases hf : F vs H with
  | none =>
    cases h : itW F vs H with
    | none => rfl
    | some r =>
      obtain ⟨n, hn⟩ := (itW_iff F vs H r).1 h
      cases n with
      | zero => simp [iterN] at hn
      | succ n => simp [iterN, hf] at hn
  | some q =>
    cases q with
    | done x vs' H' => exact (itW_iff F vs H _).2 ⟨1, by simp [iterN, hf]⟩
    | again vs' H' =>
      dsimp only
      cases h : itW F vs' H' with
      | some r =>
        obtain ⟨n, hn⟩ := (itW_iff F vs' H' r).1 h
        exact (itW_iff F vs H r).2 ⟨n + 1, by simp [iterN, hf, hn]⟩
      | none =>
        cases h2 : itW F vs H with
        | none => rfl
        | some r =>
          obtain ⟨n, hn⟩ := (itW_iff F vs H r).1 h2
          cases n with
          | zero => simp [iterN] at hn
          | succ n =>
            simp [iterN, hf] at hn
            rw [(itW_iff F vs' H' r).2 ⟨n, hn⟩] at h
            cases h

/-! ### what is said without a bound is said within one -/
section
variable {Γ : Ctx}

theorem callE_cont (nid : Nat) (H : Heap) (f : Nat) (args : List V) (r : V × List (Nat × Blk) × List Blk) (hr : callE Γ (evW Γ) nid H f args = some r) : ∃ n, callE Γ (evN Γ n) nid H f args = some r := by
  unfold callE at hr ⊢
  split at hr
  · cases h1 : fzs H args with
    | none => simp [h1] at hr
    | some l =>
      simp only [h1] at hr ⊢
      cases h2 : evW Γ f (mapd l) [] with
      | none => simp [h2] at hr
      | some p => obtain ⟨n, hn⟩ := (evW_iff Γ f (mapd l) [] p).1 h2; exact ⟨n, by rw [hn]; rw [h2] at hr; exact hr⟩
  · cases h1 : fzs H args with
    | none => simp [h1] at hr
    | some l =>
      simp only [h1] at hr ⊢
      cases h2 : evW Γ f (mapd l) [] with
      | none => simp [h2] at hr
      | some p => obtain ⟨n, hn⟩ := (evW_iff Γ f (mapd l) [] p).1 h2; exact ⟨n, by rw [hn]; rw [h2] at hr; exact hr⟩
  · cases h1 : extract 0 args H with
    | none => simp [h1] at hr
    | some q =>
      obtain ⟨L, args', H0⟩ := q
      simp only [h1] at hr ⊢
      cases h2 : evW Γ f args' H0 with
      | none => simp [h2] at hr
      | some p => obtain ⟨n, hn⟩ := (evW_iff Γ f args' H0 p).1 h2; exact ⟨n, by rw [hn]; rw [h2] at hr; exact hr⟩

theorem opE_cont (e : Env) (nid : Nat) (H : Heap) (o : O) (r : V × List (Nat × Blk) × List Blk) (hr : opE Γ (evW Γ) e nid H o = some r) : ∃ n, opE Γ (evN Γ n) e nid H o = some r := by
  cases o <;> try exact ⟨0, hr⟩
  · exact callE_cont _ _ _ _ r hr
  · rename_i x args
    rw [opE_callv] at hr
    cases h1 : capsOf (x.val e) with
    | none => simp [h1] at hr
    | some q =>
      obtain ⟨f, caps⟩ := q; simp only [h1] at hr
      cases hb : callvBad Γ (x.val e) f caps with
      | true => rw [hb] at hr; cases hr
      | false =>
        rw [hb] at hr
        obtain ⟨n, hn⟩ := callE_cont _ _ _ _ r hr
        exact ⟨n, by rw [opE_callv]; simp only [h1, hb]; exact hn⟩
  · rename_i tab x args
    rw [opE_invoke] at hr
    split at hr
    · rename_i t y hx
      cases hl : lookT tab t with
      | none => simp [hl] at hr
      | some f =>
        simp only [hl] at hr
        obtain ⟨n, hn⟩ := callE_cont _ _ _ _ r hr
        exact ⟨n, by rw [opE_invoke]; simp only [hx, hl]; exact hn⟩
    · cases hr
  · exact callE_cont _ _ _ _ r hr

theorem opsE_cont : ∀ (l : List Op1) (e : Env) (H : Heap) (r : Env × Heap), opsE Γ (evW Γ) l e H = some r → ∃ n, opsE Γ (evN Γ n) l e H = some r
  | [], e, H, r, hr => ⟨0, hr⟩
  | o :: l, e, H, r, hr => by
    unfold opsE at hr
    cases hw : wants e o.guard with
    | none => simp [hw] at hr
    | some b =>
      cases b with
      | false =>
        simp only [hw] at hr
        obtain ⟨n, hn⟩ := opsE_cont l _ _ r hr
        exact ⟨n, by unfold opsE; simp only [hw]; exact hn⟩
      | true =>
        simp only [hw] at hr
        cases ho : opE Γ (evW Γ) e H.length H o.op with
        | none => simp [ho] at hr
        | some q =>
          rw [ho] at hr
          obtain ⟨n, hn⟩ := opE_cont _ _ _ _ q ho
          obtain ⟨v, up, nw⟩ := q
          obtain ⟨m, hm⟩ := opsE_cont l _ _ r hr
          refine ⟨max n m, ?_⟩
          unfold opsE
          simp only [hw]
          rw [opE_mono (evN_mono Γ n (max n m) (Nat.le_max_left _ _)) _ _ _ _ _ hn]
          exact opsE_mono (evN_mono Γ m (max n m) (Nat.le_max_right _ _)) l _ _ r hm

theorem drawE_cont : ∀ (l : List Op1) (pos : List (Nat × Nat)) (e : Env) (H : Heap) (r : Env × Heap), drawE Γ (evW Γ) pos l e H = some r → ∃ n, drawE Γ (evN Γ n) pos l e H = some r
  | [], pos, e, H, r, hr => ⟨0, hr⟩
  | o :: l, pos, e, H, r, hr => by
    unfold drawE at hr
    cases hw : wants e o.guard with
    | none => simp [hw] at hr
    | some b =>
      cases b with
      | false =>
        simp only [hw] at hr
        obtain ⟨n, hn⟩ := drawE_cont l _ _ _ r hr
        exact ⟨n, by unfold drawE; simp only [hw]; exact hn⟩
      | true =>
        simp only [hw] at hr
        cases ho : opE Γ (evW Γ) e H.length (hideH H pos o.mask) o.op with
        | none => simp [ho] at hr
        | some q =>
          rw [ho] at hr
          obtain ⟨n, hn⟩ := opE_cont _ _ _ _ q ho
          obtain ⟨v, up, nw⟩ := q
          dsimp only at hr
          cases hb : (effC e H o up nw) with
          | false => simp [hb] at hr
          | true =>
            simp only [hb, cond_true] at hr
            obtain ⟨m, hm⟩ := drawE_cont l _ _ _ r hr
            refine ⟨max n m, ?_⟩
            unfold drawE
            simp only [hw]
            rw [opE_mono (evN_mono Γ n (max n m) (Nat.le_max_left _ _)) _ _ _ _ _ hn]
            simp only [hb, cond_true]
            exact drawE_mono (evN_mono Γ m (max n m) (Nat.le_max_right _ _)) l _ _ _ r hm

theorem codeE_cont (k : Nat) : ∀ (c : C) (e : Env) (H : Heap) (r : Ex × Env × Heap), codeE Γ (evW Γ) itW k c e H = some r → ∃ n, codeE Γ (evN Γ n) (fun F => iterN F n) k c e H = some r := by
  have up : ∀ (c : C) (e : Env) (H : Heap) (r : Ex × Env × Heap) (n m : Nat), n ≤ m → codeE Γ (evN Γ n) (fun F => iterN F n) k c e H = some r → codeE Γ (evN Γ m) (fun F => iterN F m) k c e H = some r :=
    fun c e H r n m h => codeE_mono (evN_mono Γ n m h) (fun F G hFG vs H => iterN_mono hFG n m h vs H) k c e H r
  intro c
  induction c with
  | skip => intro e H r hr; exact ⟨0, hr⟩
  | ret => intro e H r hr; exact ⟨0, hr⟩
  | exit id => intro e H r hr; exact ⟨0, hr⟩
  | seq a b iha ihb =>
    intro e H r hr
    unfold codeE at hr
    cases ha : codeE Γ (evW Γ) itW k a e H with
    | none => simp [ha] at hr
    | some q =>
      rw [ha] at hr
      obtain ⟨n, hn⟩ := iha e H q ha
      obtain ⟨x, e1, H1⟩ := q
      cases x with
      | normal =>
        obtain ⟨m, hm⟩ := ihb e1 H1 r hr
        refine ⟨max n m, ?_⟩
        unfold codeE
        rw [up a e H _ n _ (Nat.le_max_left _ _) hn]
        exact up b e1 H1 r m _ (Nat.le_max_right _ _) hm
      | exit id => exact ⟨n, by unfold codeE; rw [hn]; exact hr⟩
      | ret => exact ⟨n, by unfold codeE; rw [hn]; exact hr⟩
  | cond x a b iha ihb =>
    intro e H r hr
    unfold codeE at hr
    split at hr
    · rename_i t ht
      cases t with
      | true => obtain ⟨n, hn⟩ := iha e H r hr; exact ⟨n, by unfold codeE; simp only [ht]; exact hn⟩
      | false => obtain ⟨n, hn⟩ := ihb e H r hr; exact ⟨n, by unfold codeE; simp only [ht]; exact hn⟩
    · cases hr
  | block id a iha =>
    intro e H r hr
    unfold codeE at hr
    cases ha : codeE Γ (evW Γ) itW k a e H with
    | none => simp [ha] at hr
    | some q => rw [ha] at hr; obtain ⟨n, hn⟩ := iha e H q ha; exact ⟨n, by unfold codeE; rw [hn]; exact hr⟩
  | loop live outs a iha =>
    intro e H r hr
    unfold codeE at hr
    cases hh : head k (live.map e) H with
    | none => simp [hh] at hr
    | some q =>
      obtain ⟨vs, H1⟩ := q
      simp only [hh] at hr
      cases hit : itW (fun vs H => roundE k live outs (codeE Γ (evW Γ) itW k a (envOf live vs) H)) vs H1 with
      | none => simp [hit] at hr
      | some p =>
        rw [hit] at hr
        obtain ⟨n, hn⟩ := (itW_iff _ vs H1 p).1 hit
        have key : ∀ (n : Nat) (vs : List V) (H1 : Heap) (p : Ex × List V × Heap), iterN (fun vs H => roundE k live outs (codeE Γ (evW Γ) itW k a (envOf live vs) H)) n vs H1 = some p →
            ∃ m, iterN (fun vs H => roundE k live outs (codeE Γ (evN Γ m) (fun F => iterN F m) k a (envOf live vs) H)) n vs H1 = some p := by
          intro n
          induction n with
          | zero => intro vs H1 p h; simp [iterN] at h
          | succ n ih =>
            intro vs H1 p h
            unfold iterN at h
            cases hc : codeE Γ (evW Γ) itW k a (envOf live vs) H1 with
            | none => simp [hc, roundE] at h
            | some q =>
              obtain ⟨m1, hm1⟩ := iha _ _ q hc
              simp only [hc] at h
              cases hr2 : roundE k live outs (some q) with
              | none => simp [hr2] at h
              | some z =>
                rw [hr2] at h
                cases z with
                | done x vs' H' => exact ⟨m1, by unfold iterN; simp only [hm1, hr2]; exact h⟩
                | again vs' H' =>
                  obtain ⟨m2, hm2⟩ := ih vs' H' p h
                  refine ⟨max m1 m2, ?_⟩
                  unfold iterN
                  simp only [up a _ _ q m1 _ (Nat.le_max_left m1 m2) hm1, hr2]
                  exact iterN_mono (fun vs H => roundE_mono (fun q hq => up a _ _ q m2 _ (Nat.le_max_right m1 m2) hq)) n n (Nat.le_refl _) vs' H' p hm2
        obtain ⟨m, hm⟩ := key n vs H1 p hn
        refine ⟨max n m, ?_⟩
        unfold codeE
        simp only [hh]
        rw [iterN_mono (fun vs H => roundE_mono (fun q hq => up a _ _ q m _ (Nat.le_max_right n m) hq)) n _ (Nat.le_max_left n m) vs H1 p hm]
        exact hr
  | ops l =>
    intro e H r hr
    unfold codeE at hr
    cases ho : opsE Γ (evW Γ) l e H with
    | none => simp [ho] at hr
    | some q => rw [ho] at hr; obtain ⟨n, hn⟩ := opsE_cont l e H q ho; exact ⟨n, by unfold codeE; rw [hn]; exact hr⟩
  | draw l =>
    intro e H r hr
    unfold codeE at hr
    cases ho : drawE Γ (evW Γ) [] l e H with
    | none => simp [ho] at hr
    | some q => rw [ho] at hr; obtain ⟨n, hn⟩ := drawE_cont l _ e H q ho; exact ⟨n, by unfold codeE; rw [hn]; exact hr⟩

/-- THE EQUATION OF A CALL. -/
theorem evW_eq (f : Nat) (args : List V) (H : Heap) : evW Γ f args H = funE Γ (evW Γ) itW f args H := by
  have h1 : Le (evW Γ f args H) (funE Γ (evW Γ) itW f args H) := by
    intro r hr
    obtain ⟨n, hn⟩ := (evW_iff Γ f args H r).1 hr
    cases n with
    | zero => simp [evN] at hn
    | succ n => exact funE_mono (fun a b c r h => (evW_iff Γ a b c r).2 ⟨n, h⟩) (fun F G h vs H r hr => (itW_iff G vs H r).2 ⟨n, iterN_mono h n n (Nat.le_refl _) vs H r hr⟩) f args H r hn
  have h2 : Le (funE Γ (evW Γ) itW f args H) (evW Γ f args H) := by
    intro r hr
    unfold funE at hr
    cases hc : Γ.code f with
    | none => simp [hc] at hr
    | some fn =>
      simp only [hc] at hr
      cases hn : Nat.beq args.length fn.nargs with
      | false => simp [hn] at hr
      | true =>
        simp only [hn, cond_true] at hr
        cases hx : codeE Γ (evW Γ) itW H.length fn.body (argEnv 0 args) H with
        | none => simp [hx] at hr
        | some q =>
          rw [hx] at hr
          obtain ⟨n, hn2⟩ := codeE_cont _ _ _ _ q hx
          refine (evW_iff Γ f args H r).2 ⟨n + 1, ?_⟩
          show funE Γ (evN Γ n) (fun F => iterN F n) f args H = some r
          unfold funE
          simp only [hc, hn, cond_true, hn2]
          exact hr
  cases h : evW Γ f args H with
  | some r => exact (h1 r h).symm
  | none =>
    cases h' : funE Γ (evW Γ) itW f args H with
    | none => rfl
    | some r => rw [h2 r h'] at h; cases h
end

end Go.Proofs.YtljgncbdagmeeaaDoorE
