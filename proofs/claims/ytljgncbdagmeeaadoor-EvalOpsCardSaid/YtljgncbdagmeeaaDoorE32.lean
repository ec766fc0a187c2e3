/- A law's call: what is evaluated, over what came in. -/
import Derived.Test.YtljgncbdagmeeaaDoorE31
import Derived.MakeChecks
import Derived.LaidMore
import Derived.OpenShut
namespace Go.Proofs.YtljgncbdagmeeaaDoorE
open Go
set_option linter.unusedVariables false
set_option linter.unusedSimpArgs false

/-- nothing of its own yet -/
def R0 : RP := { B1 := fun _ => False, B0 := fun _ => False, M := fun _ => none, H := [] }

section
variable {P : Program} {G : Globs} {Γ : Ctx} {W : World}

theorem R0_live (c : Nat) : ¬ R0.live c := by
  rintro ⟨i, h, _⟩
  simp [R0, isLive, nth] at h
theorem R0_ok : R0.OK W where
  b01 := fun c h => h.elim
  al := fun i blk h => by simp [R0] at h
  inj := fun i j c h => by simp [R0, isLive, nth] at h
  lt := fun i c h => by cases h
  blk := fun i m blk h => by simp [R0] at h
  nb := fun i c h => by simp [R0, isLive, nth] at h
  bl := fun c h => h.elim

theorem R0_den {x : D} {u : Value} (h : DenD All All All W x u) : R0.den W x u :=
  DenD.change _ _ _ _ (fun b _ _ => ⟨R0_live b, fun h => h⟩) (fun b _ _ => ⟨R0_live b, fun h => h⟩) (fun b _ _ => R0_live b) (fun _ _ _ => rfl) (Nat.le_refl _) (fun _ _ => trivial) (fun _ _ => trivial) x u h
theorem R0_dens {xs : List D} {us : List Value} (h : DenDs All All All W xs us) : DenVs R0 W (mapd xs) us :=
  (denVs_mapd xs us).2 (DenDs.change _ _ _ _ (fun b _ _ => ⟨R0_live b, fun h => h⟩) (fun b _ _ => ⟨R0_live b, fun h => h⟩) (fun b _ _ => R0_live b) (fun _ _ _ => rfl) (Nat.le_refl _) (fun _ _ => trivial) (fun _ _ => trivial) xs us h)

/-- A law that is evaluated to true. -/
theorem law_calls (hs : CallOK P G (evW Γ)) (hg : GOK G R0 W) {f : Nat} {xs : List D} {us : List Value} (hd : DenDs All All All W xs us) {H' : Heap} (he : evW Γ f (mapd xs) [] = some (.d (.bool true), H')) :
    Calls P f us.toArray W fun e W' => e = .returned (.bool true) ∧ Go.RowKit.Below W.heap.size W W' := by
  obtain ⟨_, h⟩ := hs f (mapd xs) [] _ _ he
  refine (h R0 W us R0_ok hg rfl (fun i _ => rfl) (R0_dens hd)).mono fun e W' ⟨u, h1, R', x, ok, hH, hv, _, _⟩ => ?_
  have hu : u = .bool true := hv
  subst hu
  exact ⟨h1, ⟨x.os, x.tape, x.output, x.grow, fun k hk => x.same k hk (R0_live k)⟩⟩

/-! the tables that are laid -/
def litsOf (l : List (IntKind × Int)) : List (DataW Unit) := l.map fun q => .lit (.int q.1 q.2)

theorem laid_mem {n : String} {d : DataW Unit} : ∀ {L : List (String × DataW Unit)} {ps : List MemPlace}, DataW.LaidVars P W L ps → (n, d) ∈ L →
    ∃ g t cs fuel p, P.globalNamed n = some g ∧ (P.globals[g]?).map (·.type) = some t ∧ W.var? P n = some cs ∧ DataW.trod (fun _ => ()) P W 0 (fun _ => true) false fuel t cs.toList = some (d, p)
  | [], _, _, h => by cases h
  | (m, e) :: L, ps, h, hm => by
    obtain ⟨g, t, cs, fuel, p, q, h1, h2, h3, h4, h5, _⟩ := h
    rcases List.mem_cons.1 hm with hm | hm
    · cases hm; exact ⟨g, t, cs, fuel, p, h1, h2, h3, h4⟩
    · exact laid_mem h5 hm

theorem laid_table {L : List (String × DataW Unit)} (h : laidMetH P L W) (hl : (L.all fun x => x.2.handleName?.isNone) = true) {n : String} {l : List (IntKind × Int)} (hm : (n, DataW.agg (litsOf l)) ∈ L) {g t N e : Nat} {k : IntKind}
    (hg : P.globalNamed n = some g) (ht : (P.globals[g]?).map (·.type) = some t) (hu : P.underlying t = some (.array N e)) (he : P.underlying e = some (.int k)) (hc : P.cellsOf e = 1) (hN : l.length = N) (hne : 0 < N) :
    R0.den W (.rptr (gD l)) (.pointer (some ⟨g, 0, none⟩)) := by
  rw [MakeChecks.laidMetH_plain _ _ _ hl] at h
  obtain ⟨ps, hL, _, _⟩ := h
  obtain ⟨g', t', cs, fuel, p, h1, h2, h3, h4⟩ := laid_mem hL hm
  obtain rfl := Option.some.inj (hg.symm.trans h1)
  obtain rfl := Option.some.inj (ht.symm.trans h2)
  obtain ⟨xs, m, _, hx, hlen, hxn, hel⟩ := DataW.trod_array hu h4
  have hmap : litsOf l = xs.map (·.1) := by
    have := (Prod.mk.inj hx).1
    exact DataW.agg.inj this
  have cell : ∀ (i : Nat) q, l[i]? = some q → W.cell? ⟨g, i, none⟩ = some (.int q.1 q.2) := fun i q hq => by
    have hi : i < N := by rw [← hN]; exact (List.getElem?_eq_some_iff.1 hq).1
    have hi2 : i < xs.length := by omega
    have e1 := hel i hi
    rw [List.getElem?_eq_getElem hi2] at e1
    obtain ⟨z, z1, z2, _⟩ := DataW.trod_int he e1
    have e3 : (litsOf l)[i]? = some (xs[i]'hi2).1 := by rw [hmap]; simp [hi2]
    rw [z2] at e3
    have e4 : (litsOf l)[i]? = some (.lit (.int q.1 q.2)) := by simp [litsOf, hq]
    rw [e4] at e3
    have e5 : q.1 = k ∧ q.2 = z := by
      have := Option.some.inj e3
      simpa using this
    rw [World.var?_cell h1 h3 i, hc] at *
    have e6 : (cs.toList.drop (i * 1)).take 1 = [.int k z] := z1
    have e7 : cs.toList[i]? = some (.int k z) := by
      have : (cs.toList.drop (i * 1))[0]? = some (.int k z) := by
        have h8 : ((cs.toList.drop (i * 1)).take 1)[0]? = some (.int k z) := by rw [e6]; rfl
        rwa [List.getElem?_take_of_lt (by omega)] at h8
      simpa using this
    rw [e5.1, e5.2]
    simpa using e7
  have hb : g < W.heap.size := by
    have := cell 0 (l[0]'(by omega)) (List.getElem?_eq_getElem (by omega))
    unfold World.cell? at this
    split at this
    · rename_i hb; exact (Array.getElem?_eq_some_iff.1 hb).1
    · cases this
  have gd : ∀ (l : List (IntKind × Int)) (i : Nat) x, (gD l)[i]? = some x → ∃ q, l[i]? = some q ∧ x = .int q.1 q.2 := by
    intro l
    induction l with
    | nil => intro i x h; simp [gD] at h
    | cons a r ih =>
      intro i x h
      obtain ⟨k, z⟩ := a
      cases i with
      | zero => simp [gD] at h; exact ⟨(k, z), rfl, h.symm⟩
      | succ i => simpa using ih i x (by simpa [gD] using h)
  refine R0_den ⟨g, 0, rfl, trivial, hb, denCells_mk _ _ fun j x hj => ?_⟩
  obtain ⟨q, q1, rfl⟩ := gd l j x hj
  exact ⟨_, by rw [Nat.zero_add]; exact cell j q q1, rfl⟩
end
end Go.Proofs.YtljgncbdagmeeaaDoorE
