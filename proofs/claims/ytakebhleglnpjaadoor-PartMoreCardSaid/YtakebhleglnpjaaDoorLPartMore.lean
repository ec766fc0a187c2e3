/- PartMore: what the law comes to. -/
import Derived.Test.YtakebhleglnpjaaDoorQPlaced
import Derived.Test.YtakebhleglnpjaaDoorWPartMore
import Derived.Test.YtakebhleglnpjaaDoorJ3
namespace Go.Proofs.YtakebhleglnpjaaDoor
open Go Go.Proofs.YtakebhleglnpjaaDoorE
set_option linter.unusedVariables false
set_option linter.unusedSimpArgs false

theorem law_PartMore (l : List ShapeT) (b : Int) (hb : I64 b) : g_law16_PartMore l b = some true := by
  unfold g_law16_PartMore
  simp only [g_law16_awake, Option.bind_some, cond_true]
  by_cases h20 : (20 : Int) < (l.length : Int)
  · rw [decide_eq_true h20]; rfl
  rw [decide_eq_false h20]
  have hl : l.length ≤ 1000 := by omega
  by_cases h0 : b < 0
  · rw [decide_eq_true h0]; rfl
  rw [decide_eq_false h0]
  by_cases h8 : 8 ≤ b
  · rw [decide_eq_true h8]; rfl
  rw [decide_eq_false h8]
  obtain ⟨o, o1, o2⟩ := order_p l hl
  have w : w64 (b + 1) = b + 1 := w64_id (by omega) (by omega)
  have c1 : cores8 b = true := by unfold cores8; simp; omega
  have c2 : cores8 (b + 1) = true := by unfold cores8; simp; omega
  have e : (b + 1).toNat = b.toNat + 1 := by omega
  simp only [cond_false, own_s l hl, Option.bind_some, w, place_p l hl o1 o2, c1, c2, Bool.and_true, e]
  cases hc : checkL l with
  | false => rfl
  | true =>
    simp only [cond_true]
    cases hp : placeL l b.toNat o (List.replicate l.length (-1)) with
    | none => rfl
    | some a =>
      have hl2 := placeL_len hp
      rw [List.length_replicate] at hl2
      rw [more_same hp]
      simp only [bne_self_eq_false, cond_false, beq_self_eq_true, cond_true, ref_ints a a (show a.length < 9223372036854775808 by omega), Option.bind_some, decide_true]

theorem ev_PartMore (xs : List D) (h : okLfs par43.1 xs) (ys : List D) (k : okLfs par3.1 ys) : ∃ H', evW ctx 11 (mapd [parD par43.2 xs, parD par3.2 ys]) [] = some (.d (.bool true), H') := by
  obtain ⟨x, r, rfl, h1, rfl⟩ := h
  obtain ⟨l, rfl⟩ := shape_of h1
  obtain ⟨n, hn, okn⟩ := int_of k
  show ∃ H', evW ctx 11 [.d (.list true (l.map shapeD)), .d (parD false ys)] [] = _
  rw [hn]
  exact evD_true (g_law16_PartMore_ok true l n true (law_PartMore l n okn))
end Go.Proofs.YtakebhleglnpjaaDoor
