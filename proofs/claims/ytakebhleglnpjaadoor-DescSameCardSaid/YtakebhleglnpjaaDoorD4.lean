/- A task of its own memory. -/
import Derived.Test.YtakebhleglnpjaaDoorD3
namespace Go.Proofs.YtakebhleglnpjaaDoor
open Go Go.Proofs.YtakebhleglnpjaaDoorE
set_option linter.unusedVariables false
set_option linter.unusedSimpArgs false

abbrev zeroH (a b c d : Nat) : List V := [.d (intD 0), .d (intD 0), .sl a 3, .sl b 2, .sl c 3, .sl d 2]
abbrev ownC (d : DescT) (a b c e : Nat) : List V := [.d (intD d.period), .d (intD d.deadline), .sl a 3, .sl b 2, .sl c 3, .sl e 2]
abbrev ownSt (τ : Bool) (d : DescT) (bs : List BarrierT) : Heap :=
  [.cells (descH τ d), .cells (zeroH 3 4 5 6), .cells (ownC d 7 8 9 10), .arr 3 [], .arr 2 [], .arr 3 [], .arr 2 [], .arr 3 (d.parts.map partD), .arr 2 (d.edges.map edgeD), .arr 3 (d.futures.map futureD), .arr 2 (bs.map barrierD)]
abbrev ownOut (d : DescT) (bs : List BarrierT) : Heap :=
  [.cells (zeroH 2 3 4 5), .cells (ownC d 6 7 8 9), .arr 3 [], .arr 2 [], .arr 3 [], .arr 2 [], .arr 3 (d.parts.map partD), .arr 2 (d.edges.map edgeD), .arr 3 (d.futures.map futureD), .arr 2 (bs.map barrierD)]

set_option maxRecDepth 100000 in
theorem own_loop (τ : Bool) (d : DescT) (h : Sized d) : ∀ (k i : Nat), i + k = d.barriers.length →
    lpW ctx 0 [1, 2, 3, 4] [2, 3] ir18L0 [.ptr 0 0, .ptr 1 0, .ptr 2 0, .d (intD i)] (ownSt τ d (d.barriers.take i)) =
      some (.exit 0, [.ptr 0 0, .ptr 1 0], ownOut d d.barriers) := by
  intro k
  induction k with
  | zero =>
    intro i hi
    rw [lpW_b]
    conv => lhs; whnf
    rw [List.length_map]
    rw [decide_eq_false (by omega), br_f]
    rw [List.take_of_length_le (by omega)]
    conv => lhs; whnf
  | succ k ih =>
    intro i hi
    have hi' : i < d.barriers.length := by omega
    have hb := h.i _ (List.getElem_mem hi')
    have hbl := h.b
    rw [lpW_b]
    conv => lhs; whnf
    rw [List.length_map, decide_eq_true (by omega), br_t]
    conv => lhs; whnf
    rw [getI_map _ _ _ hi', bnd_s]
    conv => lhs; whnf
    rw [szAt_int, br_t]
    conv => lhs; whnf
    rw [List.length_map, ble_lim (by omega), br_t]
    conv => lhs; whnf
    rw [getI_map _ _ _ hi', bnd_s]
    conv => lhs; whnf
    rw [szAt_int, br_t]
    conv => lhs; whnf
    rw [List.length_map, ble_lim (by omega), br_t]
    conv => lhs; whnf
    refine (br_tt (by rfl)).trans ?_
    conv => lhs; whnf
    refine (br_tt (by show Nat.ble (((d.barriers.take i).map barrierD).length + 1) lim = true; exact ble_lim (by simp; omega))).trans ?_
    conv => lhs; whnf
    rw [succ64 i (by omega), bnd_some]
    have hl : (d.barriers.take (i + 1)).map barrierD = (d.barriers.take i).map barrierD ++ [barrierD d.barriers[i]] := by
      rw [List.take_succ_eq_append_getElem hi', List.map_append]; rfl
    have key := ih (i + 1) (by omega)
    unfold ownSt at key
    rw [hl] at key
    exact key

set_option maxRecDepth 100000 in
theorem own_ev (τ : Bool) (d : DescT) (h : Sized d) : evW ctx 18 [.d (descD τ d)] [] =
    some (.agg (ownC d 0 1 2 3), [.arr 3 (d.parts.map partD), .arr 2 (d.edges.map edgeD), .arr 3 (d.futures.map futureD), .arr 2 (d.barriers.map barrierD)]) := by
  have h1 := h.p; have h2 := h.e; have h3 := h.f; have h4 := h.b
  rw [evW_K ctx 18 fn18 _ _ rfl rfl]
  conv => lhs; whnf
  rw [szAt_part, br_t]
  conv => lhs; whnf
  rw [List.length_map, ble_lim (by omega), br_t]
  conv => lhs; whnf
  rw [szAt_edge, br_t]
  conv => lhs; whnf
  rw [List.length_map, ble_lim (by omega), br_t]
  conv => lhs; whnf
  rw [szAt_future, br_t]
  conv => lhs; whnf
  rw [List.length_map, ble_lim (by omega), br_t]
  conv => lhs; whnf
  refine (bnd_ss (own_loop τ d h d.barriers.length 0 (by omega))).trans ?_
  conv => lhs; whnf
end Go.Proofs.YtakebhleglnpjaaDoor
