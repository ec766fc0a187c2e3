/- Regions that draw their order: the check, in full. -/
import Derived.Test.YtljgncbdagmeeaaDoorE27
namespace Go.Proofs.YtljgncbdagmeeaaDoorE
open Go
set_option linter.unusedVariables false
set_option linter.unusedSimpArgs false

def clsOf (p : Op1) : Nat := match p.eff with | 0 => bif cls0 p.op then 0 else bif cls1 p.op then 1 else 2 | 1 => 1 | 3 => 3 | _ => 4
def eff3OK (p : Op1) : Bool := match p.eff with | 3 => (match p.op with | .store _ _ _ => true | .append _ _ _ => true | _ => false) | _ => true
/-- a load that is not ordered against some calls -/
def eff1OK (p : Op1) : Bool := match p.eff with | 1 => (match p.op, p.guard with | .load 1 false (.t _), none => true | _, _ => false) | _ => true
def hasT : List Opd → Nat → Bool
  | [], _ => false
  | .t i :: l, s => Nat.beq i s || hasT l s
  | _ :: l, s => hasT l s
/-- this call looks whether that load stays -/
def keeps (p q : Op1) : Bool := match p.op, q.op with | .callk _ _ chk, .load _ _ (.t s) => hasT chk s | _, _ => false
def slotOf : Opd → Option Nat
  | .t i => some i
  | .c _ => none
def slotsOf (p : Op1) : List Nat := (opdsO p.op).filterMap slotOf ++ (match p.guard with | some (s, _) => [s] | none => [])

/-- a row: the operation, its kind, what it reads, what must come ahead of it -/
structure Row where
  p : Op1
  c : Nat
  s : List Nat
  b : Nat

def pairOK (i : Nat) (p : Row) (j : Nat) (q : Row) : Bool :=
  Nat.ble p.c 2 || (Nat.beq i j || (tb q.b i || (tb p.b j || (Nat.beq q.c 0 || ((Nat.beq q.c 1 && (Nat.beq p.c 3 && !(Nat.beq q.p.eff 1))) || (Nat.beq q.p.eff 1 && (Nat.blt j i && keeps p.p q.p)))))))
def dstNe (p q : Op1) : Bool := match p.dst, q.dst with | some a, some b => !(Nat.beq a b) | _, _ => true
/-- i < j -/
def earlyOK (i : Nat) (p q : Row) : Bool := dstNe p.p q.p && (Nat.ble 3 q.c || (tb q.b i || elem q.p.mask i))
def readsOK (i : Nat) (p : Row) (j : Nat) (q : Row) : Bool := match p.p.dst with | some d => tb q.b i || (!(elem q.s d) || (tb p.b j || Nat.beq i j)) | none => true

def stayOK (i : Nat) (p : Row) (j : Nat) (q : Row) : Bool := !(Nat.beq q.p.eff 1) || (Nat.blt i j || (match p.p.dst with | some d => !(elem q.s d) | none => true))

def allI {α : Type} (f : Nat → α → Bool) : Nat → List α → Bool
  | _, [] => true
  | i, a :: l => f i a && allI f (i + 1) l
theorem allI_spec {α : Type} {f : Nat → α → Bool} : ∀ (l : List α) (k : Nat), allI f k l = true → ∀ (i : Nat) a, l[i]? = some a → f (k + i) a = true
  | [], k, _, i, a, h => by simp at h
  | x :: l, k, hk, i, a, h => by
    simp only [allI, Bool.and_eq_true] at hk
    cases i with
    | zero => simp at h; subst h; exact hk.1
    | succ i =>
      have := allI_spec l (k + 1) hk.2 i a (by simpa using h)
      rwa [show k + 1 + i = k + (i + 1) by omega] at this

def mkRows : List Op1 → List Nat → List Row
  | p :: l, b :: bs => ⟨p, clsOf p, slotsOf p, b⟩ :: mkRows l bs
  | _, _ => []
theorem mkRows_get : ∀ (l : List Op1) (bs : List Nat) (j : Nat) (p : Op1) (b : Nat), l[j]? = some p → bs[j]? = some b → (mkRows l bs)[j]? = some ⟨p, clsOf p, slotsOf p, b⟩
  | [], bs, j, p, b, h, _ => by simp at h
  | _ :: _, [], j, p, b, _, h => by simp at h
  | x :: l, y :: bs, 0, p, b, h1, h2 => by simp at h1 h2; subst h1; subst h2; rfl
  | x :: l, y :: bs, j + 1, p, b, h1, h2 => by simpa [mkRows] using mkRows_get l bs j p b (by simpa using h1) (by simpa using h2)

def okDraw (P : Program) (G : Globs) (N : Nat) (os : Array Oper) (l : List Op1) : Bool :=
  P.follows .mixedOrders && (okOps P G N os os.toList l && (allI (fun j o => (preO o).all fun i => Nat.blt i j) 0 os.toList &&
    (let rows := mkRows l (befs os.toList)
     allI (fun j q => (eff3OK q.p && (eff1OK q.p && (Nat.ble q.c 2 || q.p.mask.isEmpty))) && allI (fun i p => pairOK i p j q && (readsOK i p j q && (stayOK i p j q && (!(Nat.blt i j) || earlyOK i p q)))) 0 rows) 0 rows)))

/-- what the check says -/
structure Chk (P : Program) (G : Globs) (N : Nat) (os : Array Oper) (l : List Op1) (B : Nat → Nat → Prop) : Prop where
  mixed : P.follows .mixedOrders = true
  oper : ∀ (j : Nat) o p, os[j]? = some o → l[j]? = some p → okOper P G N os o p = true
  len : os.size = l.length
  pre : ∀ (j : Nat) o, os[j]? = some o → ∀ i ∈ preO o, i < j
  bef : ∀ (j : Nat) o k, os[j]? = some o → B k j → ∃ i ∈ preO o, k = i ∨ (i < j ∧ B k i)
  pair : ∀ (i j : Nat) p q, l[i]? = some p → l[j]? = some q → 3 ≤ clsOf p → i = j ∨ B i j ∨ B j i ∨ clsOf q = 0 ∨ (clsOf q = 1 ∧ clsOf p = 3 ∧ q.eff ≠ 1) ∨ (q.eff = 1 ∧ j < i ∧ keeps p q = true)
  dst : ∀ (i j : Nat) p q d, l[i]? = some p → l[j]? = some q → p.dst = some d → q.dst = some d → i = j
  early : ∀ (i j : Nat) p q, l[i]? = some p → l[j]? = some q → i < j → 3 ≤ clsOf q ∨ B i j ∨ i ∈ q.mask
  reads : ∀ (i j : Nat) p q d, l[i]? = some p → l[j]? = some q → p.dst = some d → d ∈ slotsOf q → B i j ∨ B j i ∨ i = j
  eff3 : ∀ (j : Nat) q, l[j]? = some q → eff3OK q = true
  mask : ∀ (j : Nat) q, l[j]? = some q → 3 ≤ clsOf q → q.mask = []
  eff1 : ∀ (j : Nat) q, l[j]? = some q → eff1OK q = true
  stay : ∀ (i j : Nat) p q d, l[i]? = some p → l[j]? = some q → q.eff = 1 → j ≤ i → p.dst = some d → ¬ d ∈ slotsOf q

theorem elem_mem : ∀ (l : List Nat) (b : Nat), elem l b = true ↔ b ∈ l
  | [], b => by simp [elem]
  | a :: l, b => by
    simp only [elem]
    cases h : Nat.beq a b with
    | true => obtain rfl := Nat.eq_of_beq_eq_true h; simp
    | false =>
      have hne : ¬ b = a := fun h' => by subst h'; rw [Nat.beq_refl] at h; cases h
      simp [elem_mem l b, hne]

theorem okOps_get {P : Program} {G : Globs} {N : Nat} {ops : Array Oper} : ∀ (os : List Oper) (l : List Op1), okOps P G N ops os l = true → os.length = l.length ∧ ∀ (j : Nat) o p, os[j]? = some o → l[j]? = some p → okOper P G N ops o p = true
  | [], [], _ => ⟨rfl, fun j o p h => by simp at h⟩
  | [], _ :: _, h => by cases h
  | _ :: _, [], h => by cases h
  | o :: os, p :: l, h => by
    simp only [okOps, Bool.and_eq_true] at h
    obtain ⟨h1, h2⟩ := okOps_get os l h.2
    refine ⟨by simp [h1], fun j o' p' ho hp => ?_⟩
    cases j with
    | zero => simp at ho hp; subst ho; subst hp; exact h.1
    | succ j => exact h2 j o' p' (by simpa using ho) (by simpa using hp)

theorem okDraw_chk {P : Program} {G : Globs} {N : Nat} {os : Array Oper} {l : List Op1} (h : okDraw P G N os l = true) : ∃ B, Chk P G N os l B := by
  unfold okDraw at h
  simp only [Bool.and_eq_true] at h
  obtain ⟨h1, h2, h3, h4⟩ := h
  obtain ⟨l1, l2⟩ := okOps_get _ _ h2
  have bl : (befs os.toList).length = l.length := by
    have := (befsGo_spec os.toList []).1
    rw [show befsGo [] os.toList = befs os.toList from rfl] at this
    rw [this, l1]; simp
  have row : ∀ (j : Nat) p, l[j]? = some p → ∃ b, (befs os.toList)[j]? = some b ∧ (mkRows l (befs os.toList))[j]? = some ⟨p, clsOf p, slotsOf p, b⟩ := fun j p hp => by
    have hj := (List.getElem?_eq_some_iff.1 hp).1
    refine ⟨(befs os.toList)[j]'(by omega), List.getElem?_eq_getElem (by omega), mkRows_get _ _ _ _ _ hp (List.getElem?_eq_getElem (by omega))⟩
  have pairs : ∀ (i j : Nat) p q bp bq, l[i]? = some p → l[j]? = some q → (befs os.toList)[i]? = some bp → (befs os.toList)[j]? = some bq →
      pairOK i ⟨p, clsOf p, slotsOf p, bp⟩ j ⟨q, clsOf q, slotsOf q, bq⟩ = true ∧ readsOK i ⟨p, clsOf p, slotsOf p, bp⟩ j ⟨q, clsOf q, slotsOf q, bq⟩ = true ∧ stayOK i ⟨p, clsOf p, slotsOf p, bp⟩ j ⟨q, clsOf q, slotsOf q, bq⟩ = true ∧ (i < j → earlyOK i ⟨p, clsOf p, slotsOf p, bp⟩ ⟨q, clsOf q, slotsOf q, bq⟩ = true) := fun i j p q bp bq hp hq e1 e2 => by
    have a1 := allI_spec _ _ h4 j _ (mkRows_get _ _ _ _ _ hq e2)
    simp only [Bool.and_eq_true, Nat.zero_add] at a1
    have a2 := allI_spec _ _ a1.2 i _ (mkRows_get _ _ _ _ _ hp e1)
    simp only [Bool.and_eq_true, Nat.zero_add, Bool.or_eq_true, Bool.not_eq_true'] at a2
    refine ⟨a2.1, a2.2.1, a2.2.2.1, fun hij => ?_⟩
    rcases a2.2.2.2 with a3 | a3
    · rw [show Nat.blt i j = Nat.ble (i + 1) j from rfl, Nat.ble_eq_true_of_le hij] at a3; cases a3
    · exact a3
  refine ⟨fun i j => ∃ b, (befs os.toList)[j]? = some b ∧ tb b i = true, h1, fun j o p ho hp => l2 j o p (by simpa using ho) hp, by simpa using l1, fun j o ho i hi => ?_, fun j o k ho ⟨b, e1, e2⟩ => ?_, fun i j p q hp hq hc => ?_, fun i j p q d hp hq hd hd' => ?_, fun i j p q hp hq hij => ?_, fun i j p q d hp hq hd hs => ?_, fun j q hq => ?_, fun j q hq hc => ?_, fun j q hq => ?_, fun i j p q d hp hq he hij hd => ?_⟩
  · have a1 := allI_spec _ _ h3 j o (by simpa using ho)
    simp only [List.all_eq_true, Nat.zero_add] at a1
    have := a1 i hi
    simp [Nat.blt] at this; omega
  · obtain ⟨i, f1, f2⟩ := befs_spec (by simpa using ho) e1 e2
    exact ⟨i, f1, f2⟩
  · obtain ⟨bp, e1, _⟩ := row i p hp
    obtain ⟨bq, e2, _⟩ := row j q hq
    have a := (pairs i j p q bp bq hp hq e1 e2).1
    simp only [pairOK, Bool.or_eq_true, Bool.and_eq_true, Nat.ble_eq] at a
    rcases a with a | a | a | a | a | a
    · omega
    · exact .inl (Nat.eq_of_beq_eq_true a)
    · exact .inr (.inl ⟨bq, e2, a⟩)
    · exact .inr (.inr (.inl ⟨bp, e1, a⟩))
    · exact .inr (.inr (.inr (.inl (Nat.eq_of_beq_eq_true a))))
    · rcases a with a | a
      · refine .inr (.inr (.inr (.inr (.inl ⟨Nat.eq_of_beq_eq_true a.1, Nat.eq_of_beq_eq_true a.2.1, fun h => ?_⟩))))
        rw [h] at a
        exact absurd a.2.2 (by decide)
      · refine .inr (.inr (.inr (.inr (.inr ⟨Nat.eq_of_beq_eq_true a.1, ?_, a.2.2⟩))))
        have := a.2.1
        simp [Nat.blt] at this; omega
  · obtain ⟨bp, e1, _⟩ := row i p hp
    obtain ⟨bq, e2, _⟩ := row j q hq
    have key : ∀ (i j : Nat) p q bp bq, l[i]? = some p → l[j]? = some q → (befs os.toList)[i]? = some bp → (befs os.toList)[j]? = some bq → p.dst = some d → q.dst = some d → ¬ i < j := fun i j p q bp bq hp hq e1 e2 hd hd' hlt => by
      have a := (pairs i j p q bp bq hp hq e1 e2).2.2.2 hlt
      simp [earlyOK, dstNe, hd, hd'] at a
    have k1 := key i j p q bp bq hp hq e1 e2 hd hd'
    have k2 := key j i q p bq bp hq hp e2 e1 hd' hd
    omega
  · obtain ⟨bp, e1, _⟩ := row i p hp
    obtain ⟨bq, e2, _⟩ := row j q hq
    have a := (pairs i j p q bp bq hp hq e1 e2).2.2.2 hij
    simp only [earlyOK, Bool.or_eq_true, Bool.and_eq_true, Nat.ble_eq] at a
    rcases a.2 with a | a | a
    · exact .inl a
    · exact .inr (.inl ⟨bq, e2, a⟩)
    · exact .inr (.inr ((elem_mem _ _).1 a))
  · obtain ⟨bp, e1, _⟩ := row i p hp
    obtain ⟨bq, e2, _⟩ := row j q hq
    have a := (pairs i j p q bp bq hp hq e1 e2).2.1
    simp only [readsOK, hd, Bool.or_eq_true, Bool.not_eq_true'] at a
    rcases a with a | a | a | a
    · exact .inl ⟨bq, e2, a⟩
    · rw [(elem_mem _ _).2 hs] at a; cases a
    · exact .inr (.inl ⟨bp, e1, a⟩)
    · exact .inr (.inr (Nat.eq_of_beq_eq_true a))
  · obtain ⟨bq, e2, e3⟩ := row j q hq
    have a1 := allI_spec _ _ h4 j _ e3
    simp only [Bool.and_eq_true] at a1
    exact a1.1.1
  · obtain ⟨bq, e2, e3⟩ := row j q hq
    have a1 := allI_spec _ _ h4 j _ e3
    simp only [Bool.and_eq_true, Bool.or_eq_true, Nat.ble_eq, List.isEmpty_iff] at a1
    rcases a1.1.2.2 with a2 | a2
    · omega
    · exact a2
  · obtain ⟨bq, e2, e3⟩ := row j q hq
    have a1 := allI_spec _ _ h4 j _ e3
    simp only [Bool.and_eq_true] at a1
    exact a1.1.2.1
  · obtain ⟨bp, e1, _⟩ := row i p hp
    obtain ⟨bq, e2, _⟩ := row j q hq
    have a := (pairs i j p q bp bq hp hq e1 e2).2.2.1
    simp only [stayOK, hd, he, Nat.beq_refl, Bool.not_true, Bool.false_or, Bool.or_eq_true, Bool.not_eq_true'] at a
    intro hs
    rcases a with a | a
    · simp [Nat.blt] at a; omega
    · rw [(elem_mem _ _).2 hs] at a; cases a

end Go.Proofs.YtljgncbdagmeeaaDoorE
