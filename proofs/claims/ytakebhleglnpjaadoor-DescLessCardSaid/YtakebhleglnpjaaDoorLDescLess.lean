/- DescLess: what the law comes to. -/
import Derived.Test.YtakebhleglnpjaaDoorP05d
import Derived.Test.YtakebhleglnpjaaDoorWDescLess
import Derived.Test.YtakebhleglnpjaaDoorI3
namespace Go.Proofs.YtakebhleglnpjaaDoor
open Go Go.Proofs.YtakebhleglnpjaaDoorE
set_option linter.unusedVariables false
set_option linter.unusedSimpArgs false

/-! what is good of each, and of no two -/
theorem anyI_pair {γ : Type} (bad : γ → Bool) (r : γ → γ → Bool) : ∀ (l pre : List γ), anyI (fun i e => bad e || ((pre ++ l).take i).any (r e)) pre.length l = false ↔
    ((∀ e ∈ l, bad e = false) ∧ (∀ e ∈ l, pre.any (r e) = false) ∧ l.Pairwise (fun x y => r y x = false))
  | [], pre => by simp [anyI]
  | x :: l, pre => by
    have ih := anyI_pair bad r l (pre ++ [x])
    rw [List.append_assoc, List.singleton_append, List.length_append, List.length_singleton] at ih
    unfold anyI
    rw [Bool.or_eq_false_iff, ih, List.take_left' rfl, Bool.or_eq_false_iff]
    constructor
    · rintro ⟨⟨h1, h2⟩, h3, h4, h5⟩
      refine ⟨?_, ?_, ?_⟩
      · intro e he
        rcases List.mem_cons.1 he with rfl | he
        · exact h1
        · exact h3 e he
      · intro e he
        rcases List.mem_cons.1 he with rfl | he
        · exact h2
        · have := h4 e he
          rw [List.any_append, Bool.or_eq_false_iff] at this
          exact this.1
      · rw [List.pairwise_cons]
        refine ⟨fun y hy => ?_, h5⟩
        have := h4 y hy
        rw [List.any_append, Bool.or_eq_false_iff] at this
        simpa using this.2
    · rintro ⟨h1, h2, h3⟩
      rw [List.pairwise_cons] at h3
      refine ⟨⟨h1 x (by simp), h2 x (by simp)⟩, fun e he => h1 e (by simp [he]), fun e he => ?_, h3.2⟩
      rw [List.any_append, Bool.or_eq_false_iff]
      exact ⟨h2 e (by simp [he]), by simpa using h3.1 e he⟩
theorem anyI_good {γ : Type} (bad : γ → Bool) (r : γ → γ → Bool) (l : List γ) : anyI (fun i e => bad e || (l.take i).any (r e)) 0 l = false ↔ ((∀ e ∈ l, bad e = false) ∧ l.Pairwise (fun x y => r y x = false)) := by
  have := anyI_pair bad r l []
  simpa using this
theorem anyI_erase {γ : Type} (bad : γ → Bool) (r : γ → γ → Bool) (l : List γ) (i : Nat) (h : anyI (fun i e => bad e || (l.take i).any (r e)) 0 l = false) : anyI (fun j e => bad e || ((l.eraseIdx i).take j).any (r e)) 0 (l.eraseIdx i) = false := by
  rw [anyI_good] at h ⊢
  exact ⟨fun e he => h.1 e (List.mem_of_mem_eraseIdx he), h.2.sublist (List.eraseIdx_sublist l i)⟩

theorem good_iff (d : DescT) : checkD d = 0 ↔ manyOK d = true ∧ timeOK d = true ∧ d.parts.any badPart = false ∧ anyI (badEdge d) 0 d.edges = false ∧ anyI (badFuture d) 0 d.futures = false ∧ d.barriers.any (badBarrier d.parts.length) = false := by
  unfold checkD
  cases manyOK d <;> cases timeOK d <;> cases d.parts.any badPart <;> cases anyI (badEdge d) 0 d.edges <;> cases anyI (badFuture d) 0 d.futures <;> cases d.barriers.any (badBarrier d.parts.length) <;> simp
theorem many_le {d e : DescT} (hp : e.parts = d.parts) (h1 : e.edges.length ≤ d.edges.length) (h2 : e.futures.length ≤ d.futures.length) (h3 : e.barriers.length ≤ d.barriers.length) (h : manyOK d = true) : manyOK e = true := by
  unfold manyOK at h ⊢
  rw [hp]
  simp only [Bool.and_eq_true, Bool.not_eq_true', decide_eq_false_iff_not] at h ⊢
  exact ⟨h.1, by omega, by omega, by omega⟩
theorem badFuture_eq (d : DescT) : badFuture d = fun (i : Nat) (f : FutureT) => (!(two d.parts.length f.maker f.user) || !(within f.pos 1 (workAt d.parts f.user - 1))) || (d.futures.take i).any (again f) := by
  funext i f
  unfold badFuture
  rw [Bool.or_assoc]
theorem erase_len {γ : Type} (l : List γ) (i : Nat) : (l.eraseIdx i).length ≤ l.length := (List.eraseIdx_sublist l i).length_le

theorem less_edge (d : DescT) (i : Nat) (h : checkD d = 0) : checkD { d with edges := d.edges.eraseIdx i } = 0 := by
  rw [good_iff] at h ⊢
  obtain ⟨h1, h2, h3, h4, h5, h6⟩ := h
  exact ⟨many_le (d := d) rfl (erase_len _ _) (Nat.le_refl _) (Nat.le_refl _) h1, h2, h3, anyI_erase (fun e : EdgeT => !(two d.parts.length e.src e.dst)) sameE d.edges i h4, h5, h6⟩
theorem less_future (d : DescT) (i : Nat) (h : checkD d = 0) : checkD { d with futures := d.futures.eraseIdx i } = 0 := by
  rw [good_iff] at h ⊢
  obtain ⟨h1, h2, h3, h4, h5, h6⟩ := h
  refine ⟨many_le (d := d) rfl (Nat.le_refl _) (erase_len _ _) (Nat.le_refl _) h1, h2, h3, h4, ?_, h6⟩
  rw [badFuture_eq] at h5 ⊢
  exact anyI_erase (fun f : FutureT => !(two d.parts.length f.maker f.user) || !(within f.pos 1 (workAt d.parts f.user - 1))) again d.futures i h5
theorem less_barrier (d : DescT) (i : Nat) (h : checkD d = 0) : checkD { d with barriers := d.barriers.eraseIdx i } = 0 := by
  rw [good_iff] at h ⊢
  obtain ⟨h1, h2, h3, h4, h5, h6⟩ := h
  refine ⟨many_le (d := d) rfl (Nat.le_refl _) (Nat.le_refl _) (erase_len _ _) h1, h2, h3, h4, h5, ?_⟩
  rw [List.any_eq_false] at h6 ⊢
  exact fun b hb => h6 b (List.mem_of_mem_eraseIdx hb)

/-- what is cut out of a list, as the program cuts it -/
theorem cut_eq {γ : Type} (l : List γ) (i : Nat) (hi : i < l.length) :
    List.take (i + List.length (List.take (List.length l - (i + 1)) (List.drop (i + 1) l))) (List.drop 0 (List.take (0 + i) l ++ (List.take (List.length l - (i + 1)) (List.drop (i + 1) l) ++ List.drop (0 + i + List.length (List.take (List.length l - (i + 1)) (List.drop (i + 1) l))) l))) = l.eraseIdx i := by
  have hm : List.take (List.length l - (i + 1)) (List.drop (i + 1) l) = List.drop (i + 1) l := List.take_of_length_le (by rw [List.length_drop]; exact Nat.le_refl _)
  rw [hm, List.drop_zero, Nat.zero_add, List.eraseIdx_eq_take_drop_succ, ← List.append_assoc]
  rw [List.take_left']
  rw [List.length_append, List.length_take, Nat.min_eq_left (Nat.le_of_lt hi)]
theorem cut_ble {γ : Type} (l : List γ) (i : Nat) (hi : i < l.length) : Nat.ble (0 + i + List.length (List.take (List.length l - (i + 1)) (List.drop (i + 1) l))) (List.length l) = true := by
  refine Nat.ble_eq_true_of_le ?_
  rw [List.length_take, List.length_drop]
  omega
theorem erase_ne {γ : Type} (l : List γ) (i : Nat) (hi : i < l.length) : l.eraseIdx i ≠ l := by
  intro h
  have := congrArg List.length h
  rw [List.length_eraseIdx_of_lt hi] at this
  omega

theorem law_DescLess (a : DescT) (b : Int) (hb : I64 b) : g_law05_DescLess a b = some true := by
  unfold g_law05_DescLess
  simp only [g_law05_awake, few_p, Option.bind_some, cond_true]
  cases ha : few a with
  | false => rfl
  | true =>
    have sa := few_sized ha
    have pe := sa.e
    have pf := sa.f
    have pb := sa.b
    have sh := sa.short
    simp only [own_p a sa, Option.bind_some, check_p _ sh, cond_true]
    by_cases hc : checkD a = 0
    case neg => rw [show (checkD a != 0) = true by simpa using hc]; rfl
    rw [show (checkD a != 0) = false by simpa using hc]
    by_cases h0 : b < 0
    case pos => rw [decide_eq_true h0]; rfl
    rw [decide_eq_false h0]
    simp only [cond_false]
    obtain ⟨i, rfl⟩ : ∃ i : Nat, b = (i : Int) := ⟨b.toNat, by omega⟩
    have hlt : ∀ n : Nat, ¬ i < n → decide ((i : Int) < (n : Int)) = false := fun n h => decide_eq_false (by omega)
    have hge : ∀ n : Nat, i < n → decide ((n : Int) ≤ (i : Int)) = false := fun n h => decide_eq_false (by omega)
    have hle : ∀ n : Nat, ¬ i < n → decide ((n : Int) ≤ (i : Int)) = true := fun n h => decide_eq_true (by omega)
    have hz : decide ((0 : Int) ≤ (i : Int)) = true := decide_eq_true (by omega)
    have hz1 : decide ((0 : Int) ≤ ((i + 1 : Nat) : Int)) = true := decide_eq_true (by omega)
    have hw : ∀ n : Nat, i < n → n ≤ 60 → w64 ((i : Int) + 1) = ((i + 1 : Nat) : Int) := fun n h1 h2 => w64_succ h1 (by omega)
    have e1 := less_edge a i hc
    have e2 := less_future a i hc
    have e3 := less_barrier a i hc
    have s1 : ShortD { a with edges := a.edges.eraseIdx i } := ⟨sh.p, Nat.lt_of_le_of_lt (erase_len _ _) sh.e, sh.f, sh.b, sh.i⟩
    have s2 : ShortD { a with futures := a.futures.eraseIdx i } := ⟨sh.p, sh.e, Nat.lt_of_le_of_lt (erase_len _ _) sh.f, sh.b, sh.i⟩
    have s3 : ShortD { a with barriers := a.barriers.eraseIdx i } := ⟨sh.p, sh.e, sh.f, Nat.lt_of_le_of_lt (erase_len _ _) sh.b, fun b hb => sh.i b (List.mem_of_mem_eraseIdx hb)⟩
    have c0 : g_desc_Check a = some 0 := by rw [check_p a sh, hc]
    have c1 : g_desc_Check { a with edges := a.edges.eraseIdx i } = some 0 := by rw [check_p _ s1, e1]
    have c2 : g_desc_Check { a with futures := a.futures.eraseIdx i } = some 0 := by rw [check_p _ s2, e2]
    have c3 : g_desc_Check { a with barriers := a.barriers.eraseIdx i } = some 0 := by rw [check_p _ s3, e3]
    have m0 : g_desc_Same a a = some true := by rw [same_p a a sh, decide_eq_true rfl]
    have m1 : i < a.edges.length → g_desc_Same { a with edges := a.edges.eraseIdx i } a = some false := fun h => by
      rw [same_p _ a s1, decide_eq_false (fun h2 => erase_ne _ _ h (congrArg DescT.edges h2))]
    have m3 : i < a.barriers.length → g_desc_Same { a with barriers := a.barriers.eraseIdx i } a = some false := fun h => by
      rw [same_p _ a s3, decide_eq_false (fun h2 => erase_ne _ _ h (congrArg DescT.barriers h2))]
    have ble : ∀ n : Nat, i < n → Nat.ble i n = true := fun n h => Nat.ble_eq_true_of_le (Nat.le_of_lt h)
    have ble1 : ∀ n : Nat, i < n → Nat.ble (i + 1) n = true := fun n h => Nat.ble_eq_true_of_le h
    by_cases he : i < a.edges.length <;> by_cases hf : i < a.futures.length <;> by_cases hbb : i < a.barriers.length
    · have w := hw _ he pe
      simp only [lt_t he, lt_t hf, lt_t hbb, hz, w, hz1, Int.toNat_natCast, ble _ he, ble _ hf, ble _ hbb, ble1 _ he, ble1 _ hf, ble1 _ hbb, cond_true, cut_ble _ _ he, cut_ble _ _ hf, cut_ble _ _ hbb, cut_eq _ _ he, cut_eq _ _ hf, cut_eq _ _ hbb, c1, c2, c3, Option.bind_some, m1 he, m3 hbb, hge _ he, hge _ hbb, hc, cond_false]
      rfl
    · have w := hw _ he pe
      simp only [lt_t he, lt_t hf, hlt _ hbb, hz, w, hz1, Int.toNat_natCast, ble _ he, ble _ hf, ble1 _ he, ble1 _ hf, cond_true, cut_ble _ _ he, cut_ble _ _ hf, cut_eq _ _ he, cut_eq _ _ hf, c1, c2, c0, Option.bind_some, m1 he, m0, hge _ he, hle _ hbb, hc, cond_false]
      rfl
    · have w := hw _ he pe
      simp only [lt_t he, hlt _ hf, lt_t hbb, hz, w, hz1, Int.toNat_natCast, ble _ he, ble _ hbb, ble1 _ he, ble1 _ hbb, cond_true, cut_ble _ _ he, cut_ble _ _ hbb, cut_eq _ _ he, cut_eq _ _ hbb, c1, c0, c3, Option.bind_some, m1 he, m3 hbb, hge _ he, hge _ hbb, hc, cond_false]
      rfl
    · have w := hw _ he pe
      simp only [lt_t he, hlt _ hf, hlt _ hbb, hz, w, hz1, Int.toNat_natCast, ble _ he, ble1 _ he, cond_true, cut_ble _ _ he, cut_eq _ _ he, c1, c0, Option.bind_some, m1 he, m0, hge _ he, hle _ hbb, hc, cond_false]
      rfl
    · have w := hw _ hf (by omega)
      simp only [hlt _ he, lt_t hf, lt_t hbb, hz, w, hz1, Int.toNat_natCast, ble _ hf, ble _ hbb, ble1 _ hf, ble1 _ hbb, cond_true, cut_ble _ _ hf, cut_ble _ _ hbb, cut_eq _ _ hf, cut_eq _ _ hbb, c0, c2, c3, Option.bind_some, m0, m3 hbb, hle _ he, hge _ hbb, hc, cond_false]
      rfl
    · have w := hw _ hf (by omega)
      simp only [hlt _ he, lt_t hf, hlt _ hbb, hz, w, hz1, Int.toNat_natCast, ble _ hf, ble1 _ hf, cond_true, cut_ble _ _ hf, cut_eq _ _ hf, c2, c0, Option.bind_some, m0, hle _ he, hle _ hbb, hc, cond_false]
      rfl
    · have w := hw _ hbb (by omega)
      simp only [hlt _ he, hlt _ hf, lt_t hbb, hz, w, hz1, Int.toNat_natCast, ble _ hbb, ble1 _ hbb, cond_true, cut_ble _ _ hbb, cut_eq _ _ hbb, c0, c3, Option.bind_some, m0, m3 hbb, hle _ he, hge _ hbb, hc, cond_false]
      rfl
    · simp only [hlt _ he, hlt _ hf, hlt _ hbb, cond_true, c0, Option.bind_some, m0, hle _ he, hle _ hbb, hc, cond_false]
      rfl

theorem ev_DescLess (xs : List D) (h : okLfs par27.1 xs) (ys : List D) (k : okLfs par3.1 ys) : ∃ H', evW ctx 7 (mapd [parD par27.2 xs, parD par3.2 ys]) [] = some (.d (.bool true), H') := by
  obtain ⟨d, hd, okd⟩ := desc_of h
  obtain ⟨n, hn, okn⟩ := int_of k
  show ∃ H', evW ctx 7 [.d (D.agg xs), .d (parD false ys)] [] = _
  rw [hd, hn]
  exact evD_true (g_law05_DescLess_ok true true true true d n true (law_DescLess d n okn))
end Go.Proofs.YtakebhleglnpjaaDoor
