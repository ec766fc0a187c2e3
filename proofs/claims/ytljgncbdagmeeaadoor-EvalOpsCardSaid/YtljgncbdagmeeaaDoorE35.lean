/- Walks: what a plain text says, the evaluator says. -/
import Derived.Test.YtljgncbdagmeeaaDoorE34
namespace Go.Proofs.YtljgncbdagmeeaaDoorE
open Go
set_option linter.unusedVariables false
set_option linter.unusedSimpArgs false

/-! ## Plain loops -/
def lpN {S R : Type} (step : S → Option (S ⊕ R)) : Nat → S → Option R
  | 0, _ => none
  | n + 1, s => (match step s with | some (.inl s') => lpN step n s' | some (.inr r) => some r | none => none)
theorem lpN_up {S R : Type} (step : S → Option (S ⊕ R)) : ∀ (n m : Nat) (s : S) (r : R), n ≤ m → lpN step n s = some r → lpN step m s = some r
  | 0, _, _, _, _, h => by cases h
  | n + 1, 0, _, _, hm, _ => by omega
  | n + 1, m + 1, s, r, hm, h => by
    unfold lpN at h ⊢
    cases hs : step s with
    | none => rw [hs] at h; cases h
    | some t =>
      rw [hs] at h
      cases t with
      | inl s' => exact lpN_up step n m s' r (by omega) h
      | inr r' => exact h
/-- a loop: gone round as often as it takes -/
noncomputable def lp {S R : Type} (step : S → Option (S ⊕ R)) (s : S) : Option R := @dite _ (∃ n, (lpN step n s).isSome = true) (Classical.propDecidable _) (fun h => lpN step (Classical.choose h) s) fun _ => none
theorem lp_of {S R : Type} {step : S → Option (S ⊕ R)} {s : S} {r : R} {n : Nat} (h : lpN step n s = some r) : lp step s = some r := by
  unfold lp
  have hx : ∃ n, (lpN step n s).isSome = true := ⟨n, by rw [h]; rfl⟩
  rw [dif_pos hx]
  have h2 := Classical.choose_spec hx
  cases h3 : lpN step (Classical.choose hx) s with
  | none => rw [h3] at h2; cases h2
  | some q =>
    have h4 := lpN_up step _ (max n (Classical.choose hx)) s q (by omega) h3
    have h5 := lpN_up step _ (max n (Classical.choose hx)) s r (by omega) h
    rw [h4] at h5
    exact h5
theorem lp_ex {S R : Type} {step : S → Option (S ⊕ R)} {s : S} {r : R} (h : lp step s = some r) : ∃ n, lpN step n s = some r := by
  unfold lp at h
  split at h
  · exact ⟨_, h⟩
  · cases h
theorem lp_eq {S R : Type} (step : S → Option (S ⊕ R)) (s : S) : lp step s = (match step s with | some (.inl s') => lp step s' | some (.inr r) => some r | none => none) := by
  have key : ∀ r, lp step s = some r ↔ (match step s with | some (.inl s') => lp step s' | some (.inr r) => some r | none => none) = some r := by
    intro r
    constructor
    · intro h
      obtain ⟨n, hn⟩ := lp_ex h
      cases n with
      | zero => cases hn
      | succ n =>
        unfold lpN at hn
        cases hs : step s with
        | none => rw [hs] at hn; cases hn
        | some t =>
          rw [hs] at hn
          cases t with
          | inl s' => exact lp_of hn
          | inr r' => exact hn
    · intro h
      cases hs : step s with
      | none => rw [hs] at h; cases h
      | some t =>
        rw [hs] at h
        cases t with
        | inl s' =>
          obtain ⟨n, hn⟩ := lp_ex h
          exact lp_of (n := n + 1) (by unfold lpN; rw [hs]; exact hn)
        | inr r' => exact lp_of (n := 1) (by unfold lpN; rw [hs]; exact h)
  cases h1 : lp step s with
  | some r => exact ((key r).1 h1).symm
  | none =>
    cases h2 : (match step s with | some (.inl s') => lp step s' | some (.inr r) => some r | none => none) with
    | none => rfl
    | some r => rw [(key r).2 h2] at h1; cases h1
theorem lp_again {S R : Type} {step : S → Option (S ⊕ R)} {s s' : S} (h : step s = some (.inl s')) : lp step s = lp step s' := by rw [lp_eq, h]
theorem lp_done {S R : Type} {step : S → Option (S ⊕ R)} {s : S} {r : R} (h : step s = some (.inr r)) : lp step s = some r := by rw [lp_eq, h]

/-- a function that calls itself: as deep as it takes (what it says from some depth on) -/
noncomputable def lim1 {R : Type} (g : Nat → Option R) : Option R := @dite _ (∃ r : R, ∃ N, ∀ n, N ≤ n → g n = some r) (Classical.propDecidable _) (fun h => some (Classical.choose h)) fun _ => none
theorem lim1_ex {R : Type} {g : Nat → Option R} {r : R} (h : lim1 g = some r) : ∃ n, g n = some r := by
  unfold lim1 at h
  split at h
  · rename_i hx
    obtain ⟨N, hN⟩ := Classical.choose_spec hx
    exact ⟨N, (hN N (Nat.le_refl _)).trans h⟩
  · cases h
theorem lim1_of {R : Type} {g : Nat → Option R} {N : Nat} {r : R} (h : ∀ n, N ≤ n → g n = some r) : lim1 g = some r := by
  have hx : ∃ r : R, ∃ N, ∀ n, N ≤ n → g n = some r := ⟨r, N, h⟩
  unfold lim1
  rw [dif_pos hx]
  obtain ⟨M, hM⟩ := Classical.choose_spec hx
  rw [← hM (max N M) (by omega), h (max N M) (by omega)]

/-! ## What a plain text says -/
def Says {α β : Type} (E : Option α) (Q : α → Option β → Prop) (rhs : Option β) : Prop := ∀ a, E = some a → Q a rhs

section
variable {α β : Type} {A B : Option α} {Q : α → Option β → Prop}
theorem sim_br {c c' : Bool} {X Y : Option β} (h : c = c') (h1 : Says A Q X) (h2 : Says B Q Y) : Says (bif c' then A else B) Q (br c X Y) := by
  subst h
  cases c with
  | true => rw [br_t]; exact h1
  | false => rw [br_f]; exact h2
theorem sim_t {c : Bool} {X Y : Option β} (h : c = true) (h1 : Says A Q X) : Says A Q (br c X Y) := by rw [h, br_t]; exact h1
theorem sim_f {c : Bool} {X Y : Option β} (h : c = false) (h1 : Says A Q Y) : Says A Q (br c X Y) := by rw [h, br_f]; exact h1
theorem sim_let {γ : Type} {x x' : γ} {K : γ → Option β} (h : x = x') (k : Says A Q (K x')) : Says A Q (bnd (some x) K) := by rw [h, bnd_s]; exact k
theorem sim_known {γ : Type} {X : Option γ} {x : γ} {K : γ → Option β} (h : X = some x) (k : Says A Q (K x)) : Says A Q (bnd X K) := by rw [h, bnd_s]; exact k
theorem sim_bind {γ δ : Type} {E : Option γ} {A : γ → Option α} {X : Option δ} {K : δ → Option β} (enc : γ → δ) (h : ∀ r, E = some r → X = some (enc r)) (k : ∀ r, E = some r → Says (A r) Q (K (enc r))) : Says (E.bind A) Q (bnd X K) := by
  intro a ha
  cases hE : E with
  | none => rw [hE] at ha; cases ha
  | some r =>
    rw [hE] at ha
    rw [h r hE, bnd_s]
    exact k r hE a ha
theorem getI_enc {γ δ : Type} (f : γ → δ) (l : List γ) (i : Int) : getI (l.map f) i = (getI l i).map f := by
  unfold getI
  cases decide (0 ≤ i) with
  | false => rfl
  | true => simp only [cond_true, nth_eq, List.getElem?_map]
theorem sim_get {γ : Type} {f : γ → D} {l : List γ} {xs : List D} {i i' : Int} {A : γ → Option α} {K : D → Option β} (hx : xs = l.map f) (hi : i = i') (k : ∀ r, getI l i' = some r → Says (A r) Q (K (f r))) : Says ((getI l i').bind A) Q (bnd (getI xs i) K) := by
  subst hx hi
  exact sim_bind f (fun r h => by rw [getI_enc, h]; rfl) k
theorem sim_nth {γ : Type} {f : γ → D} {l : List γ} {xs : List D} {i i' : Nat} {A : γ → Option α} {K : D → Option β} (hx : xs = l.map f) (hi : i = i') (k : ∀ r, l[i']? = some r → Says (A r) Q (K (f r))) : Says ((l[i']?).bind A) Q (bnd (nth xs i) K) := by
  subst hx hi
  exact sim_bind f (fun r h => by rw [nth_eq, List.getElem?_map, h]; rfl) k
theorem nth_of {γ : Type} {f : γ → D} {l : List γ} {xs : List D} {i : Int} {r : γ} (hx : xs = l.map f) (h : getI l i = some r) : nth xs i.toNat = some (f r) := by
  subst hx
  unfold getI at h
  cases hd : decide (0 ≤ i) with
  | false => rw [hd] at h; cases h
  | true => rw [hd, cond_true, nth_eq] at h; rw [nth_eq, List.getElem?_map, h]; rfl
theorem get_of {γ : Type} {f : γ → D} {l : List γ} {xs : List D} {i : Int} {r : γ} (hx : xs = l.map f) (h : getI l i = some r) : getI xs i = some (f r) := by
  subst hx
  rw [getI_enc, h]; rfl
theorem sim_same {γ : Type} {E X : Option γ} {A : γ → Option α} {K : γ → Option β} (h : X = E) (k : ∀ r, E = some r → Says (A r) Q (K r)) : Says (E.bind A) Q (bnd X K) := by
  subst h
  exact sim_bind id (fun r h => h) k
theorem sim_ret {a : α} {X : Option β} (h : Q a X) : Says (some a) Q X := fun b hb => by cases hb; exact h
theorem sim_none {X : Option β} : Says (none : Option α) Q X := fun b hb => by cases hb

theorem sim_split4 {sz : Nat} {ag : Bool} {cs : List V} {i e : Int} {A0 A1 A2 A3 : Option α} {K : V → Option β} (hi : i = e) (h0 : Says A0 Q (bnd (oneCell sz ag (cs.drop ((0 : Int).toNat * sz))) K)) (h1 : Says A1 Q (bnd (oneCell sz ag (cs.drop ((1 : Int).toNat * sz))) K))
    (h2 : Says A2 Q (bnd (oneCell sz ag (cs.drop ((2 : Int).toNat * sz))) K)) (h3 : Says A3 Q (bnd (oneCell sz ag (cs.drop ((3 : Int).toNat * sz))) K)) :
    Says (bif (e == 0) then A0 else bif (e == 1) then A1 else bif (e == 2) then A2 else bif (e == 3) then A3 else none) Q (bnd (oneCell sz ag (cs.drop (i.toNat * sz))) K) := by
  subst hi
  by_cases c0 : i = 0
  · subst c0; exact h0
  by_cases c1 : i = 1
  · subst c1; exact h1
  by_cases c2 : i = 2
  · subst c2; exact h2
  by_cases c3 : i = 3
  · subst c3; exact h3
  rw [beq_false_of_ne c0, beq_false_of_ne c1, beq_false_of_ne c2, beq_false_of_ne c3]
  exact sim_none

theorem blt_enc {γ : Type} (f : γ → D) (l : List γ) : Nat.blt 0 (List.map f l).length = Nat.blt 0 (List.length l) := by rw [List.length_map]

/-! ### Maps -/
def mpD {K W : Type} (f : K → D) (g : W → D) (l : List (K × W)) : List (D × D) := l.map fun q => (f q.1, g q.2)
def mapGet {K W : Type} (eq : K → K → Bool) : List (K × W) → K → W → W
  | [], _, z => z
  | (a, v) :: r, k, z => bif eq k a then v else mapGet eq r k z
def mapPut {K W : Type} (eq : K → K → Bool) : List (K × W) → K → W → List (K × W)
  | [], k, v => [(k, v)]
  | (a, u) :: r, k, v => bif eq k a then (a, v) :: r else (a, u) :: mapPut eq r k v
theorem getM_enc {K W : Type} {f : K → D} {g : W → D} (eq : K → K → Bool) (he : ∀ a b, eqD (f a) (f b) = some (eq a b)) (l : List (K × W)) (k : K) (z : W) : getM (mpD f g l) (f k) (g z) = some (g (mapGet eq l k z)) := by
  induction l with
  | nil => rfl
  | cons q r ih =>
    obtain ⟨a, v⟩ := q
    show (match (match eqD (f k) (f a) with | some true => some (some (g v)) | some false => findM (mpD f g r) (f k) | none => none) with | some (some y) => some y | some none => some (g z) | none => none) = _
    rw [he]
    unfold mapGet
    cases eq k a with
    | true => rfl
    | false => exact ih
theorem setM_enc {K W : Type} {f : K → D} {g : W → D} (eq : K → K → Bool) (he : ∀ a b, eqD (f a) (f b) = some (eq a b)) (l : List (K × W)) (k : K) (v : W) : setM (mpD f g l) (f k) (g v) = some (mpD f g (mapPut eq l k v)) := by
  induction l with
  | nil => rfl
  | cons q r ih =>
    obtain ⟨a, u⟩ := q
    show (match eqD (f k) (f a) with | some true => some ((f a, g v) :: mpD f g r) | some false => (match setM (mpD f g r) (f k) (g v) with | some l => some ((f a, g u) :: l) | none => none) | none => none) = _
    rw [he]
    unfold mapPut
    cases eq k a with
    | true => rfl
    | false => dsimp only; rw [ih]; rfl

/-! ### What is known by what it comes to alone -/
def lastP (zs : List (Int × Int)) (p : Int) : Option Int := bif Nat.ble zs.length lim then some (lastFrom zs p zs.length) else none
theorem pcsD_map {γ : Type} {f : γ → D} {g : γ → Int × Int} (hf : ∀ x, f x = .agg [.int .i64 (g x).1, .int .i64 (g x).2]) : ∀ l : List γ, pcsD (List.map f l) = some (List.map g l)
  | [] => rfl
  | x :: l => by
    rw [List.map_cons, hf x, List.map_cons]
    unfold pcsD
    rw [pcsD_map hf l]
theorem sim_last {γ : Type} {f : γ → D} {g : γ → Int × Int} {l : List γ} {x y : D} {t : Bool} {p : Int} {A : Int → Option α} {K : D → Option β} (hf : ∀ x, f x = .agg [.int .i64 (g x).1, .int .i64 (g x).2])
    (k : ∀ r, lastP (List.map g l) p = some r → Says (A r) Q (K (intD r))) : Says ((lastP (List.map g l) p).bind A) Q (bnd (specE 0 [.agg [x, y, .list t (List.map f l)], .int .i64 p]) K) := by
  refine sim_bind intD (fun r h => ?_) k
  show (match pcsD (List.map f l) with | some zs => bif Nat.ble zs.length lim then some (D.int .i64 (lastFrom zs p zs.length)) else none | none => none) = _
  rw [pcsD_map hf l]
  unfold lastP at h
  dsimp only
  cases hb : Nat.ble (List.map g l).length lim with
  | false => rw [hb] at h; cases h
  | true => rw [hb] at h; cases h; rfl

/-! ### Functions on data -/
noncomputable def evD (Γ : Ctx) (f : Nat) (args : List V) : Option D := bnd (evW Γ f args []) fun r => (match fr r.2 6 r.1 with | some (x, _) => some x | none => none)
theorem call0_evD (Γ : Ctx) (f : Nat) (args : List V) (K : V → Option β) : bnd (evW Γ f args []) (call0K K) = bnd (evD Γ f args) (fun x => tellD x K) := by
  unfold evD call0K
  simp only [bnd_eq]
  cases evW Γ f args [] with
  | none => rfl
  | some r =>
    dsimp only
    cases fr r.2 6 r.1 with
    | none => rfl
    | some q => rfl
theorem sim_call {γ : Type} {Γ : Ctx} {f : Nat} {args args' : List V} {E : Option γ} {A : γ → Option α} {K : V → Option β} (enc : γ → D) (w : ∀ r, E = some r → evD Γ f args' = some (enc r)) (ha : args = args') (k : ∀ r, E = some r → Says (A r) Q (tellD (enc r) K)) : Says (E.bind A) Q (bnd (evW Γ f args []) (call0K K)) := by
  subst ha
  rw [call0_evD]
  exact sim_bind enc w k
end

theorem codeK_bnd {β δ : Type} (Γ : Ctx) (k0 : Nat) (c : C) (e : Env) (H : Heap) (k : Ex → Env → Heap → Option β) (p : β → Option δ) : bnd (codeK Γ k0 c e H k) p = codeK Γ k0 c e H fun x e H => bnd (k x e H) p := by
  rw [codeK_eq, codeK_eq]
  cases codeE Γ (evW Γ) itW k0 c e H with
  | none => exact bnd_eq _ _
  | some q => rfl

theorem evD_K (Γ : Ctx) (f : Nat) (fn : FnI) (args : List V) (hc : Γ.code f = some fn) (hn : Nat.beq args.length fn.nargs = true) :
    evD Γ f args = codeK Γ 0 fn.body (argEnv 0 args) [] fun x e H1 => (match x with
      | .exit _ => none
      | _ => (match resV e H1 fn.res with
        | some l => extractK 0 [oneRes l] H1 fun _ vs H2 => (match vs with | [v] => (match fr H2 6 v with | some (x, _) => some x | none => none) | _ => none)
        | none => none)) := by
  unfold evD
  rw [evW_K Γ f fn args [] hc hn, codeK_bnd]
  refine congrArg (codeK Γ 0 fn.body (argEnv 0 args) []) ?_
  funext x e H1
  have none_b : ∀ {γ δ : Type} (p : γ → Option δ), bnd none p = none := fun p => bnd_eq _ _
  cases x with
  | exit j => exact none_b _
  | normal =>
    dsimp only
    cases resV e H1 fn.res with
    | none => exact none_b _
    | some l =>
      dsimp only
      rw [extractK_eq, extractK_eq]
      show bnd (match extract 0 [oneRes l] H1 with | some (L, vs, H) => _ | none => none) _ = _
      cases extract 0 [oneRes l] H1 with
      | none => exact none_b _
      | some q =>
        obtain ⟨L, vs, H2⟩ := q
        match vs with
        | [] => exact none_b _
        | [v] => exact bnd_s _ _
        | _ :: _ :: _ => exact none_b _
  | ret =>
    dsimp only
    cases resV e H1 fn.res with
    | none => exact none_b _
    | some l =>
      dsimp only
      rw [extractK_eq, extractK_eq]
      show bnd (match extract 0 [oneRes l] H1 with | some (L, vs, H) => _ | none => none) _ = _
      cases extract 0 [oneRes l] H1 with
      | none => exact none_b _
      | some q =>
        obtain ⟨L, vs, H2⟩ := q
        match vs with
        | [] => exact none_b _
        | [v] => exact bnd_s _ _
        | _ :: _ :: _ => exact none_b _

theorem evD_of {Γ : Ctx} {f : Nat} {args : List V} {x : D} (n : Nat) (h : (match evN Γ n f args [] with | some (v, H) => (match fr H 6 v with | some (x, _) => some x | none => none) | none => none) = some x) : evD Γ f args = some x := by
  cases hn : evN Γ n f args [] with
  | none => rw [hn] at h; cases h
  | some r =>
    rw [hn] at h
    obtain ⟨v, H⟩ := r
    unfold evD
    rw [evW_of n hn, bnd_s]
    exact h

/-! ### Loops -/
theorem lp_ok {S R β : Type} {step : S → Option (S ⊕ R)} {G : S → Option β} (x : R → β)
    (h : ∀ (s : S) (rec : S → Option R), (∀ s r, rec s = some r → G s = some (x r)) → Says (step s) (fun t rhs => (match t with | .inl s' => ∀ r, rec s' = some r → rhs = some (x r) | .inr r => rhs = some (x r))) (G s)) : ∀ s r, lp step s = some r → G s = some (x r) := by
  intro s r hr
  obtain ⟨n, hn⟩ := lp_ex hr
  clear hr
  induction n generalizing s r with
  | zero => cases hn
  | succ n ih =>
    unfold lpN at hn
    cases hs : step s with
    | none => rw [hs] at hn; cases hn
    | some t =>
      rw [hs] at hn
      have := h s (lpN step n) ih t hs
      cases t with
      | inl s' => exact this r hn
      | inr r' => cases hn; exact this
theorem sim_again {S R β : Type} {G : Option β} {rec : S → Option R} {x : R → β} {s' : S} (h : ∀ r, rec s' = some r → G = some (x r)) : Says (some (Sum.inl s')) (fun (t : S ⊕ R) (rhs : Option β) => (match t with | .inl s' => ∀ r, rec s' = some r → rhs = some (x r) | .inr r => rhs = some (x r))) (bnd G some) := by
  intro a ha
  cases ha
  intro r hr
  rw [bnd_some]
  exact h r hr

/-- A law's answer. -/
theorem evD_true {Γ : Ctx} {f : Nat} {args : List V} (h : evD Γ f args = some (.bool true)) : ∃ H', evW Γ f args [] = some (.d (.bool true), H') := by
  unfold evD at h
  rw [bnd_eq] at h
  cases he : evW Γ f args [] with
  | none => rw [he] at h; cases h
  | some r =>
    obtain ⟨v, H⟩ := r
    rw [he] at h
    refine ⟨H, ?_⟩
    dsimp only at h
    cases hf : fr H 6 v with
    | none => rw [hf] at h; cases h
    | some q =>
      obtain ⟨x, ks⟩ := q
      rw [hf] at h
      cases h
      unfold fr at hf
      split at hf
      · rename_i x
        split at hf
        · rename_i ts
          cases he : escT ts <;> rw [he] at hf <;> cases hf
        · rename_i y hy
          cases he : x.esc <;> rw [he] at hf <;> cases hf
          rfl
      all_goals
        first
        | cases hf
        | (split at hf <;> first | cases hf | (rename_i sz' xs _; revert hf; cases Nat.beq _ sz' <;> intro hf <;> cases hf) | skip)
      all_goals
        rename_i l ks _
        first
        | (cases he : D.escs l <;> rw [he] at hf <;> cases hf)
        | cases hf
theorem sim_ct {α β : Type} {A B : Option α} {Q : α → Option β → Prop} {X : Option β} (h : Says A Q X) : Says (bif true then A else B) Q X := h
theorem sim_cf {α β : Type} {A B : Option α} {Q : α → Option β → Prop} {X : Option β} (h : Says B Q X) : Says (bif false then A else B) Q X := h
abbrev w64 (n : Int) : Int := IntKind.i64.wrap n

/-! ### Lists, as they are laid -/
section
variable {γ : Type}
theorem len_enc (f : γ → D) (l : List γ) : (((List.map f l).length : Nat) : Int) = ((l.length : Nat) : Int) := by rw [List.length_map]
theorem rep_enc (f : γ → D) (z : γ) (n : Int) : List.replicate n.toNat (f z) = List.map f (List.replicate n.toNat z) := by rw [List.map_replicate]
theorem setAt_set {α : Type} : ∀ (l : List α) (i : Nat) (y : α), setAt l i y = l.set i y
  | [], _, _ => rfl
  | _ :: _, 0, _ => rfl
  | x :: l, i + 1, y => congrArg (x :: ·) (setAt_set l i y)
theorem set_enc (f : γ → D) (l : List γ) (i : Nat) (y : γ) : setAt (List.map f l) i (f y) = List.map f (List.set l i y) := by rw [setAt_set, List.map_set]
theorem app_enc (f : γ → D) (l m : List γ) : List.map f l ++ List.map f m = List.map f (l ++ m) := by rw [List.map_append]
theorem app_enc' (f : γ → D) (l m : List γ) (ms : List D) (h : ms = List.map f m) : List.map f l ++ ms = List.map f (l ++ m) := by rw [h, List.map_append]
theorem ble_enc (f : γ → D) (l : List γ) (n : Nat) : Nat.ble ((List.map f l).length + n) lim = Nat.ble (l.length + n) lim := by rw [List.length_map]
theorem ble_enc1 (f : γ → D) (l : List γ) : Nat.ble (List.map f l).length lim = Nat.ble l.length lim := by rw [List.length_map]
theorem ble_enc2 (f : γ → D) (l m : List γ) : Nat.ble ((List.map f l).length + (List.map f m).length) lim = Nat.ble (l.length + m.length) lim := by rw [List.length_map, List.length_map]
theorem dt_enc (f : γ → D) (l : List γ) (o n : Nat) : List.take n (List.drop o (List.map f l)) = List.map f (List.take n (List.drop o l)) := by rw [← List.map_drop, ← List.map_take]
theorem sl_enc (f : γ → D) (l : List γ) (lo hi : Nat) : List.take (hi - lo) (List.drop lo (List.map f l)) = List.map f (List.take (hi - lo) (List.drop lo l)) := dt_enc f l lo (hi - lo)
theorem sl_enc0 (f : γ → D) (l : List γ) (hi : Nat) : List.take (hi - 0) (List.drop 0 (List.map f l)) = List.map f (List.take hi l) := by rw [dt_enc]; rfl
theorem sl_enc_all (f : γ → D) (l : List γ) (lo : Nat) : List.take ((List.map f l).length - lo) (List.drop lo (List.map f l)) = List.map f (List.drop lo l) := by
  rw [dt_enc, List.length_map, List.take_of_length_le (by rw [List.length_drop]; exact Nat.le_refl _)]
theorem sl_enc_all0 (f : γ → D) (l : List γ) : List.take ((List.map f l).length - 0) (List.drop 0 (List.map f l)) = List.map f l := sl_enc_all f l 0
theorem sz_enc (f : γ → D) {sz : Nat} (hf : ∀ x, (f x).cells.length = sz ∧ (V.d (f x)).okb = true) (l : List γ) (i : Nat) : (Nat.beq i 0 || szAt sz (List.map f l) i) = true := by rw [szAt_map hf, Bool.or_true]
theorem sl_all0 (n : Nat) : (Nat.ble 0 n && Nat.ble n n) = true := by rw [Nat.ble_eq_true_of_le (Nat.le_refl n)]; cases n <;> rfl
theorem sl_c_all (f : γ → D) (l : List γ) (lo : Nat) : (Nat.ble lo (List.map f l).length && Nat.ble (List.map f l).length (List.map f l).length) = Nat.ble lo l.length := by rw [List.length_map, Nat.ble_eq_true_of_le (Nat.le_refl l.length), Bool.and_true]
theorem sl_c0 (f : γ → D) (l : List γ) (hi : Nat) : (Nat.ble 0 hi && Nat.ble hi (List.map f l).length) = Nat.ble hi l.length := by rw [List.length_map]; cases hi <;> rfl
theorem sl_c (f : γ → D) (l : List γ) (lo hi : Nat) : (Nat.ble lo hi && Nat.ble hi (List.map f l).length) = (Nat.ble lo hi && Nat.ble hi l.length) := by rw [List.length_map]
theorem cut_enc (f : γ → D) (l m : List γ) (ms : List D) (h : ms = List.map f m) (o n : Nat) : List.take (o + n) (List.map f l) ++ (ms ++ List.drop (o + n + ms.length) (List.map f l)) = List.map f (List.take (o + n) l ++ (m ++ List.drop (o + n + m.length) l)) := by
  rw [h, List.map_append, List.map_append, List.map_take, List.map_drop, List.length_map]
theorem ble_cut (f : γ → D) (l m : List γ) (ms : List D) (h : ms = List.map f m) (n : Nat) : Nat.ble (n + ms.length) (List.map f l).length = Nat.ble (n + m.length) l.length := by rw [h, List.length_map, List.length_map]
theorem ins_enc (f : γ → D) (l m : List γ) (o n k : Nat) (hk : (List.map f m).length = k) : List.take (o + n) (List.map f l) ++ (List.map f m ++ List.drop (o + n + k) (List.map f l)) = List.map f (List.take (o + n) l ++ (m ++ List.drop (o + n + k) l)) := by
  rw [List.map_append, List.map_append, List.map_take, List.map_drop]
end
end Go.Proofs.YtljgncbdagmeeaaDoorE
