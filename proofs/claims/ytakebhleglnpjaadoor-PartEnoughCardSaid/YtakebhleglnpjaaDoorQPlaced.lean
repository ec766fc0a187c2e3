/- Chapter 16: what is placed, plainly. -/
import Derived.Test.YtakebhleglnpjaaDoorQPlace
namespace Go.Proofs.YtakebhleglnpjaaDoor
open Go Go.Proofs.YtakebhleglnpjaaDoorE
set_option linter.unusedVariables false
set_option linter.unusedSimpArgs false

theorem awake_if (k : Option Bool) : ((some true).bind fun x => bif x then k else (g_law16_awake.bind fun x => bif x then some true else some false)) = k := rfl
theorem placeL_len {l : List ShapeT} {n : Nat} : ∀ {o at_ a : List Int}, placeL l n o at_ = some a → a.length = at_.length
  | [], at_, a, h => by cases h; rfl
  | i :: o, at_, a, h => by
    unfold placeL at h
    cases hl : least l at_ i.toNat 0 n with
    | none => rw [hl] at h; cases h
    | some c =>
      rw [hl] at h
      have := placeL_len (at_ := at_.set i.toNat (c : Int)) h
      rwa [List.length_set] at this
/-- what is not placed any more stays -/
theorem placeL_stay {l : List ShapeT} {n : Nat} : ∀ {o at_ a : List Int} {j : Nat}, placeL l n o at_ = some a → (∀ i ∈ o, i.toNat ≠ j) → a[j]? = at_[j]?
  | [], at_, a, j, h, _ => by cases h; rfl
  | i :: o, at_, a, j, h, hj => by
    unfold placeL at h
    cases hl : least l at_ i.toNat 0 n with
    | none => rw [hl] at h; cases h
    | some c =>
      rw [hl] at h
      have := placeL_stay (at_ := at_.set i.toNat (c : Int)) (j := j) h (fun x hx => hj x (by simp [hx]))
      rw [this, List.getElem?_set_ne (hj i (by simp))]

/-- so far all that is placed is right -/
structure PInv (l : List ShapeT) (n : Nat) (at_ : List Int) (o : List Int) : Prop where
  len : at_.length = l.length
  fit : ∀ core : Nat, core < n → fits (on l at_ core) = true
  left : ∀ i ∈ o, InL l i ∧ at_[i.toNat]? = some (-1)
  nodup : o.Nodup
  rest : ∀ (j : Nat) (x : Int), at_[j]? = some x → (0 ≤ x ∧ x < n) ∨ (x = -1 ∧ (j : Int) ∈ o)
theorem inv_step {l : List ShapeT} {n c : Nat} {at_ o : List Int} {i : Int} (h : PInv l n at_ (i :: o)) (hc : least l at_ i.toNat 0 n = some c) : PInv l n (at_.set i.toNat (c : Int)) o := by
  obtain ⟨_, h2, h3, _⟩ := least_some hc
  obtain ⟨hi, hm⟩ := h.left i (by simp)
  have hnd := List.nodup_cons.1 h.nodup
  refine ⟨by rw [List.length_set]; exact h.len, fun core hcore => ?_, fun k hk => ?_, hnd.2, fun j x hx => ?_⟩
  · by_cases he : core = c
    · subst he; exact h3
    · rw [on_set (core : Int) (c : Int) (by omega) l at_ i.toNat (fun x hx => by rw [hm] at hx; cases hx; omega)]
      exact h.fit core hcore
  · obtain ⟨g1, g2⟩ := h.left k (by simp [hk])
    refine ⟨g1, ?_⟩
    have hne : k ≠ i := fun e => hnd.1 (e ▸ hk)
    rw [List.getElem?_set_ne (by have := g1.1; have := hi.1; omega)]
    exact g2
  · by_cases he : j = i.toNat
    · subst he
      have hlt : i.toNat < at_.length := by rw [h.len]; exact hi.2
      rw [List.getElem?_set_self hlt] at hx
      cases hx
      left; omega
    · rw [List.getElem?_set_ne (Ne.symm he)] at hx
      rcases h.rest j x hx with g | ⟨g1, g2⟩
      · exact .inl g
      · rcases List.mem_cons.1 g2 with e | e
        · exact absurd (by omega) he
        · exact .inr ⟨g1, e⟩
theorem inv_all {l : List ShapeT} {n : Nat} : ∀ {o at_ a : List Int}, PInv l n at_ o → placeL l n o at_ = some a → PInv l n a []
  | [], at_, a, h, hp => by cases hp; exact h
  | i :: o, at_, a, h, hp => by
    unfold placeL at hp
    cases hl : least l at_ i.toNat 0 n with
    | none => rw [hl] at hp; cases hp
    | some c =>
      rw [hl] at hp
      exact inv_all (inv_step h hl) hp
theorem inv_zero {l : List ShapeT} {o : List Int} (n : Nat) (ho : IsOrder l o) : PInv l n (List.replicate l.length (-1)) o := by
  refine ⟨by simp, fun core hc => ?_, fun i hi => ?_, ho.nodup, fun j x hx => ?_⟩
  · rw [on_nil l _ core (fun x hx => by have := (List.mem_replicate.1 hx).2; omega)]
    exact fits_nil
  · have := (ho.mem i).1 hi
    exact ⟨this, by rw [List.getElem?_replicate, if_pos this.2]⟩
  · rw [List.getElem?_replicate] at hx
    split at hx
    · rename_i hj
      cases hx
      refine .inr ⟨rfl, (ho.mem _).2 ⟨by omega, by simpa using hj⟩⟩
    · cases hx
theorem placed_right {l : List ShapeT} {o a : List Int} {c : Int} (hc : cores8 c = true) (ho : IsOrder l o) (h : placeL l c.toNat o (List.replicate l.length (-1)) = some a) : RightP l a c := by
  have c8 : 0 ≤ c ∧ c ≤ 8 := by unfold cores8 at hc; simpa using hc
  have inv := inv_all (inv_zero c.toNat ho) h
  refine ⟨c8, inv.len, fun x hx => ?_, fun core hcore => inv.fit core (by omega)⟩
  obtain ⟨j, hj⟩ := List.getElem?_of_mem hx
  rcases inv.rest j x hj with g | ⟨_, g⟩
  · omega
  · cases g
theorem more_same {l : List ShapeT} {n : Nat} : ∀ {o at_ a : List Int}, placeL l n o at_ = some a → placeL l (n + 1) o at_ = some a
  | [], at_, a, h => h
  | i :: o, at_, a, h => by
    unfold placeL at h ⊢
    cases hl : least l at_ i.toNat 0 n with
    | none => rw [hl] at h; cases h
    | some c =>
      rw [hl] at h
      rw [least_more hl]
      exact more_same h
theorem right_more {l : List ShapeT} {a : List Int} {c : Int} (h : RightP l a c) (h8 : c < 8) : RightP l a (c + 1) := by
  refine ⟨by have := h.cc; omega, h.len, fun x hx => by have := h.ok x hx; omega, fun core hcore => ?_⟩
  by_cases he : (core : Int) = c
  · rw [on_nil l a core (fun x hx => by have := h.ok x hx; omega)]
    exact fits_nil
  · exact h.fit core (by omega)
theorem right_less {l : List ShapeT} {a : List Int} {c : Int} (h : RightP l a c) (i : Nat) : RightP (l.eraseIdx i) (a.eraseIdx i) c := by
  refine ⟨h.cc, ?_, fun x hx => h.ok x (List.mem_of_mem_eraseIdx hx), fun core hcore => ?_⟩
  · rw [List.length_eraseIdx, List.length_eraseIdx, h.len]
  · exact fits_sub (h.fit core hcore) (on_erase l a core i h.len.symm)
theorem ref_ints (a b : List Int) (hl : a.length < 9223372036854775808) : g_ref02_Ints a b = some (decide (a = b)) := by
  unfold g_ref02_Ints
  by_cases he : a.length = b.length
  · have key := lp_same a b he (g_ref02_Ints_L0 a b) (fun i x y hi hx hy => by
        simp only [g_ref02_Ints_L0, lt_t hi, at_some hx, at_some hy, Option.bind_some, w64_succ hi hl, cond_true]
        have e : (x != y) = !decide (x = y) := by rw [Bool.eq_iff_iff]; simp
        rw [e]
        cases decide (x = y) <;> rfl) (by simp only [g_ref02_Ints_L0, lt_f]; rfl)
    rw [key, show ((a.length : Int) != (b.length : Int)) = false by rw [he]; simp]
    cases decide (a = b) <;> rfl
  · rw [show ((a.length : Int) != (b.length : Int)) = true by simp; omega, decide_eq_false (fun h => he (by rw [h]))]
    rfl
theorem shape_of {x : D} (h : okLf (.sl true [.int .i64, .int .i64, .int .i64, .int .i64, .int .i64]) x) : ∃ l : List ShapeT, x = .list true (l.map shapeD) := by
  obtain ⟨l, h1, _, _⟩ := aggs_of (f := shapeD) (p := fun _ => True) h fun cs hc => by
    obtain ⟨_, _, rfl, ⟨a, rfl, _⟩, _, _, rfl, ⟨b, rfl, _⟩, _, _, rfl, ⟨c, rfl, _⟩, _, _, rfl, ⟨d, rfl, _⟩, _, _, rfl, ⟨e, rfl, _⟩, rfl⟩ := hc
    exact ⟨⟨a, b, c, d, e⟩, rfl, trivial⟩
  exact ⟨l, h1⟩
end Go.Proofs.YtakebhleglnpjaaDoor
