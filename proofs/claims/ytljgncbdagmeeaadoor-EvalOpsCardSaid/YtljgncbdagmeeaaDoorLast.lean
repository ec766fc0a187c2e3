/- lower.Last: the place of the last piece of a part, by a walk over the pieces from the back (a range over a function): what the call comes to. -/
import Derived.RangeFuncNested
import Derived.RangeFuncBox
import Derived.RangeFuncLeaves
import Derived.Shelf.Abstract
import Derived.WalkKit
import Derived.OwnWalkIn
import Derived.TacticsInMore
import Derived.LoopNIn
import Derived.LoopIn
import Derived.Scope
import Derived.Test.YtljgncbdagmeeaaDoorProg
import Derived.Test.YtljgncbdagmeeaaDoorE30
import Derived.KernelRfl
namespace Go.Proofs.YtljgncbdagmeeaaDoor.Last
open Go Go.RowKit Go.Shelf Go.Proofs.YtljgncbdagmeeaaDoorE
attribute [local go_sem] Oper.semAt_some

/-- what has come when k rounds are over -/
def upto {α : Type} (f : Nat → α) (k : Nat) : List α := (List.range k).map f
theorem upto_succ {α : Type} (f : Nat → α) (k : Nat) : upto f (k + 1) = upto f k ++ [f k] := by simp [upto, List.range_succ]
theorem upto_length {α : Type} (f : Nat → α) (k : Nat) : (upto f k).length = k := by simp [upto]

/-- what a round keeps: what lay below n₀, and the block of the iterator's own -/
def Kp (n₀ Bs : Nat) (A B : World) : Prop := Below n₀ A B ∧ B.heap[Bs]? = A.heap[Bs]?
theorem Kp.trans {n₀ Bs : Nat} {A B C : World} (h : Kp n₀ Bs A B) (k : Kp n₀ Bs B C) : Kp n₀ Bs A C := ⟨h.1.trans k.1, k.2.trans h.2⟩
theorem Kp.refl (n₀ Bs : Nat) (A : World) : Kp n₀ Bs A A := ⟨Below.refl _ _, rfl⟩
theorem Kp.cellB {n₀ Bs o : Nat} {A B : World} (h : Kp n₀ Bs A B) : B.cell? ⟨Bs, o, none⟩ = A.cell? ⟨Bs, o, none⟩ := by
  unfold World.cell?
  rw [h.2]
/-- what the k-th round is handed -/
def rnd (zs : List (Int × Int)) (len k : Nat) : Nat × (Int × Int) := (len - 1 - k, pc zs (len - 1 - k))

set_option maxRecDepth 100000 in
set_option maxHeartbeats 2000000 in
theorem back1_in (F : Fence) (n : Nat) (h8 : F.fn 98) (hro : F.round = none) (hn : 1 ≤ n) (l Bs n₀ b off len cap : Nat) (zs : List (Int × Int)) (hreach : len ≤ 1073741824) (hb : b < n₀) (J Jx : List (Nat × (Int × Int)) → World → Prop)
    (hY : ∀ pre x W, J pre W → pre.length < len → YieldAt F (n - 1) Tryd.prog l #[.int .i64 (x.1 : Int), .agg #[.int .i64 x.2.1, .int .i64 x.2.2]] W fun e W' =>
      (e = .returned (.bool true) ∧ J (pre ++ [x]) W' ∧ Kp n₀ Bs W W') ∨ (e = .returned (.bool false) ∧ Jx (pre ++ [x]) W'))
    (W : World) (hBs : W.cell? ⟨Bs, 0, none⟩ = some (.slice (some ⟨b, off, none⟩) len cap)) (hc : ∀ j, j < len → W.cell? ⟨b, off + j * 2, none⟩ = some (.int .i64 (pc zs j).1) ∧ W.cell? ⟨b, off + j * 2 + 1, none⟩ = some (.int .i64 (pc zs j).2)) (h0 : J [] W) :
    CallsIn F n Tryd.prog 98 #[.func (.yield l) #[] #[], .pointer (some ⟨Bs, 0, none⟩)] W fun e W' => (∃ v, e = .returned v) ∧
      ((∃ ys, ys = upto (rnd zs len) len ∧ J ys W') ∨ (∃ pre, (∃ k, k ≤ len ∧ pre = upto (rnd zs len) k) ∧ Jx pre W')) := by
  refine callsIn_of_wp Tryd.func98 rfl h8 ?_ hro
  simp only [Tryd.ntmps98, List.size_toArray, List.length_cons, List.length_nil, Nat.reduceAdd, Nat.reduceSub, Array.replicate_succ, Array.replicate_zero, List.push_toArray, List.append_toArray, List.nil_append, List.cons_append]
  gi_wp2
  gi_loopw [3] (fun i wr => ∃ k : Nat, k ≤ len ∧ i = .int .i64 ((len : Int) - 1 - k) ∧ J (upto (rnd zs len) k) wr ∧ Kp n₀ Bs W wr)
    (fun i _ => (intOf i + 1).toNat)
  case atStart =>
    refine ⟨0, Nat.zero_le _, ?_, h0, Kp.refl _ _ _⟩
    simp
  case round =>
    obtain ⟨k, hk, rfl, hJs, hnx⟩ := hrel
    have hcx : k < len → wr.cell? ⟨b, off + (len - 1 - k) * 2, none⟩ = some (.int .i64 (pc zs (len - 1 - k)).1) ∧ wr.cell? ⟨b, off + (len - 1 - k) * 2 + 1, none⟩ = some (.int .i64 (pc zs (len - 1 - k)).2) := fun h => ⟨(hnx.1.cell (p := ⟨b, off + (len - 1 - k) * 2, none⟩) hb).trans (hc _ (by omega)).1, (hnx.1.cell (p := ⟨b, off + (len - 1 - k) * 2 + 1, none⟩) hb).trans (hc _ (by omega)).2⟩
    by_cases hlt : k < len
    · obtain ⟨fn, tmps, assign, body, hy, hR⟩ := hY _ (rnd zs len k) wr hJs (by rw [upto_length]; exact hlt)
      dsimp only [rnd] at hy
      obtain ⟨hcx1, hcx2⟩ := hcx hlt
      obtain ⟨m, hm⟩ : ∃ m : Nat, len - 1 - k = m := ⟨_, rfl⟩
      rw [hm] at hy hcx1 hcx2
      rw [show (len : Int) - 1 - k = (m : Int) by omega]
      have hBw := hnx.cellB.trans hBs
      gi_wp2
      refine hR.mono ?_
      rintro e W3 (⟨rfl, hJ3, hk3⟩ | ⟨rfl, hJx3⟩)
      · gi_wp2
        go_roundw
        case rel => exact ⟨k + 1, by omega, by congr 1; omega, by rw [upto_succ]; exact hJ3, hnx.trans hk3⟩
        case measure => simp [intOf]
      · gi_wp2
        refine bodyPost_ret (results_none rfl _ _ _) rfl ?_
        exact ⟨⟨_, rfl⟩, .inr ⟨_, ⟨k + 1, by omega, (upto_succ _ _).symm⟩, hJx3⟩⟩
    · obtain rfl : k = len := by omega
      rw [show (k : Int) - 1 - k = -1 by omega]
      gi_wp2
      go_end0
      exact ⟨⟨_, rfl⟩, .inl ⟨_, rfl, hJs⟩⟩

set_option maxRecDepth 100000 in
set_option maxHeartbeats 2000000 in
/-- .. where there is nothing: no round. -/
theorem back0_in (F : Fence) (n : Nat) (h8 : F.fn 98) (hro : F.round = none) (l Bs cap : Nat) (a : Option Addr) (J : List (Nat × (Int × Int)) → World → Prop) (W : World) (hBs : W.cell? ⟨Bs, 0, none⟩ = some (.slice a 0 cap)) (h0 : J [] W) :
    CallsIn F n Tryd.prog 98 #[.func (.yield l) #[] #[], .pointer (some ⟨Bs, 0, none⟩)] W fun e W' => (∃ v, e = .returned v) ∧ J [] W' := by
  refine callsIn_of_wp Tryd.func98 rfl h8 ?_ hro
  simp only [Tryd.ntmps98, List.size_toArray, List.length_cons, List.length_nil, Nat.reduceAdd, Nat.reduceSub, Array.replicate_succ, Array.replicate_zero, List.push_toArray, List.append_toArray, List.nil_append, List.cons_append]
  gi_wp2
  gi_loopw [3] (fun i wr => i = .int .i64 (-1) ∧ J [] wr) (fun _ _ => 0)
  case atStart => exact ⟨by simp, h0⟩
  case round =>
    obtain ⟨rfl, hJs⟩ := hrel
    gi_wp2
    go_end0
    exact ⟨⟨_, rfl⟩, hJs⟩

theorem kp_b {n₀ Bs : Nat} {w : World} (h1 : n₀ ≤ w.heap.size) (h2 : Bs < w.heap.size) : ∀ (W : World) (l : Nat) (o o' : Obj), w.heap.size ≤ l → W.heap[l]? = some o → o.isCells = false → o.isWalk = false → Kp n₀ Bs W (W.putObj l o') := fun W l o o' hl ho hc hw =>
  ⟨belowK_b (w := w) h1 W l o o' hl ho hc hw, (belowK_b (w := w) (Nat.le_refl _) W l o o' hl ho hc hw).block _ h2⟩
/-- the slice value holds these pieces, in a block below n₀ -/
def Pcs (n₀ : Nat) (W : World) (sv : Value) (zs : List (Int × Int)) : Prop :=
  (∃ a cap, sv = .slice a 0 cap ∧ zs = []) ∨ ∃ b off cap, sv = .slice (some ⟨b, off, none⟩) zs.length cap ∧ b < n₀ ∧ ∀ j, j < zs.length → W.cell? ⟨b, off + j * 2, none⟩ = some (.int .i64 (pc zs j).1) ∧ W.cell? ⟨b, off + j * 2 + 1, none⟩ = some (.int .i64 (pc zs j).2)
theorem Pcs.below {n₀ : Nat} {A B : World} (h : Below n₀ A B) {sv : Value} {zs : List (Int × Int)} : Pcs n₀ A sv zs → Pcs n₀ B sv zs
  | .inl e => .inl e
  | .inr ⟨b, off, cap, e, hb, hc⟩ => .inr ⟨b, off, cap, e, hb, fun j hj => ⟨(h.cell (p := ⟨b, off + j * 2, none⟩) hb).trans (hc j hj).1, (h.cell (p := ⟨b, off + j * 2 + 1, none⟩) hb).trans (hc j hj).2⟩⟩

set_option maxHeartbeats 1000000 in
/-- the iterator: the slice is boxed -/
theorem back_in (F : Fence) (n : Nat) (h5 : F.fn 50) (hro : F.round = none) (sv : Value) (w : World) (hs : ∃ a len cap, sv = .slice a len cap) :
    CallsIn F n Tryd.prog 50 #[sv] w fun e w' => e = .returned (.func (.func 98) #[] #[.pointer (some ⟨w.heap.size, 0, none⟩)]) ∧ w' = w.alloc (.cells #[sv] 33) := by
  obtain ⟨a, len, cap, rfl⟩ := hs
  refine callsIn_of_wp Tryd.func50 rfl h5 ?_ hro
  simp only [Tryd.ntmps50, List.size_toArray, List.length_cons, List.length_nil, Nat.reduceAdd, Nat.reduceSub, Array.replicate_succ, Array.replicate_zero, List.push_toArray, List.append_toArray, List.nil_append, List.cons_append]
  gi_wp2
  go_ret
  exact ⟨rfl, rfl⟩

theorem back_stops (F : Fence) (n : Nat) (h8 : F.fn 98) (hro : F.round = none) (hn : 1 ≤ n) (Bs n₀ : Nat) (sv : Value) (zs : List (Int × Int)) (hreach : zs.length ≤ 1073741824) (w : World) (hBs : Bs < w.heap.size) (hn₀ : n₀ ≤ w.heap.size)
    (hc : w.cell? ⟨Bs, 0, none⟩ = some sv) (hI : Pcs n₀ w sv zs) :
    SeqStopsK F n Tryd.prog 98 #[.pointer (some ⟨Bs, 0, none⟩)] (fun x : Nat × (Int × Int) => #[Value.int .i64 (x.1 : Int), .agg #[.int .i64 x.2.1, .int .i64 x.2.2]]) (Kp n₀ Bs) (fun ys => ys = upto (rnd zs zs.length) zs.length)
      (fun pre => ∃ k, k ≤ zs.length ∧ pre = upto (rnd zs zs.length) k) zs.length w := fun l J Jx W hW _ _ hY h0 => by
  have hc' := (hW.cell (p := ⟨Bs, 0, none⟩) hBs).trans hc
  rcases hI.below (hW.mono hn₀) with ⟨a, cap, rfl, rfl⟩ | ⟨b, off, cap, rfl, hb, hcs⟩
  · exact (back0_in F n h8 hro l Bs cap a J W hc' h0).mono fun e W' ⟨he, hj⟩ => ⟨he, .inl ⟨_, rfl, hj⟩⟩
  · exact back1_in F n h8 hro hn l Bs n₀ b off zs.length cap zs hreach hb J Jx hY W hc' hcs h0

theorem wpIn_scope {n : Nat} {P : Program} {Q : Exit → Act → World → Prop} {a : Act} {w : World} {c : Code} (h : c.wpIn Fence.wide n P (Exit.noGoto Q) a w) : (Code.scope c).wpIn Fence.wide n P Q a w := wpIn_wide.2 (wp_scope_straight (wpIn_wide.1 h))


theorem lastFrom_none (zs : List (Int × Int)) (p : Int) : ∀ n : Nat, (∀ j, j < n → (pc zs j).1 ≠ p ∨ p < 0) → lastFrom zs p n = -1
  | 0, _ => rfl
  | n + 1, h => by
    unfold lastFrom
    have : ((pc zs n).1 != p || decide (p < 0)) = true := by
      rcases h n (by omega) with h | h
      · simp [bne_iff_ne.2 h]
      · simp [h]
    rw [this]
    exact lastFrom_none zs p n fun j hj => h j (by omega)
theorem lastFrom_some (zs : List (Int × Int)) (p : Int) : ∀ (n k : Nat), k < n → (pc zs k).1 = p → 0 ≤ p → (∀ j, k < j → j < n → (pc zs j).1 ≠ p ∨ p < 0) → lastFrom zs p n = (k : Int)
  | 0, _, h, _, _, _ => by omega
  | n + 1, k, h, h1, h2, h3 => by
    unfold lastFrom
    by_cases hk : k = n
    · subst hk
      have : ((pc zs k).1 != p || decide (p < 0)) = false := by simp [h1]; exact h2
      rw [this]; rfl
    · have : ((pc zs n).1 != p || decide (p < 0)) = true := by
        rcases h3 n (by omega) (by omega) with h | h
        · simp [bne_iff_ne.2 h]
        · simp [h]
      rw [this]
      exact lastFrom_some zs p n k (by omega) h1 h2 fun j a b => h3 j a (by omega)

set_option maxRecDepth 100000 in
set_option maxHeartbeats 2000000 in
theorem last_in (u0 u1 sv : Value) (p : Int) (zs : List (Int × Int)) (hreach : zs.length ≤ 1073741824) (w : World)
    (hs : ∃ a len cap, sv = .slice a len cap) (hI : Pcs w.heap.size w sv zs) :
    CallsIn Fence.wide 5 Tryd.prog 23 #[.agg #[u0, u1, sv], .int .i64 p] w fun e W' => e = .returned (.int .i64 (lastFrom zs p zs.length)) ∧ Below w.heap.size w W' := by
  obtain ⟨a, len, cap, rfl⟩ := hs
  refine callsIn_of_wp_marks Tryd.func23 rfl trivial ?_ rfl
  simp only [Tryd.ntmps23, List.size_toArray, List.length_cons, List.length_nil, Nat.reduceAdd, Nat.reduceSub, Array.replicate_succ, Array.replicate_zero, List.push_toArray, List.append_toArray, List.nil_append, List.cons_append]
  gi_wp2
  refine wpIn_scope ?_
  gi_wp2
  rename_i K hK
  refine wpIn_label (hK _ _ ?_)
  clear hK K
  gi_wp2
  refine ⟨trivial, (back_in Fence.wide 4 trivial rfl _ _ ⟨_, _, _, rfl⟩).mono ?_⟩
  rintro e w' ⟨rfl, rfl⟩
  gi_wp2
  have bP := (((Boxed.new (w.alloc (.cells #[u0, u1, .slice a len cap] 35)) 3 (.int .i64 p)).alloc (.cells #[.int .i64 (-1)] 3)).alloc (.cells #[.slice a len cap] 33))
  have bA := (Boxed.new ((w.alloc (.cells #[u0, u1, .slice a len cap] 35)).alloc (.cells #[.int .i64 p] 3)) 3 (.int .i64 (-1))).alloc (.cells #[.slice a len cap] 33)
  have bN := Boxed.new (((w.alloc (.cells #[u0, u1, .slice a len cap] 35)).alloc (.cells #[.int .i64 p] 3)).alloc (.cells #[.int .i64 (-1)] 3)) 33 (.slice a len cap)
  simp only [World.size_alloc] at bP bA bN
  have hB0 : Below w.heap.size w ((((w.alloc (.cells #[u0, u1, .slice a len cap] 35)).alloc (.cells #[.int .i64 p] 3)).alloc (.cells #[.int .i64 (-1)] 3)).alloc (.cells #[.slice a len cap] 33)) := ((((Below.refl _ w).alloc (Nat.le_refl _) _).alloc (by simp) _).alloc (by simp; omega) _).alloc (by simp; omega) _
  have hsz : ((((w.alloc (.cells #[u0, u1, .slice a len cap] 35)).alloc (.cells #[.int .i64 p] 3)).alloc (.cells #[.int .i64 (-1)] 3)).alloc (.cells #[.slice a len cap] 33)).heap.size = w.heap.size + 4 := by simp
  obtain ⟨W0, hW0⟩ : ∃ W0, (((w.alloc (.cells #[u0, u1, .slice a len cap] 35)).alloc (.cells #[.int .i64 p] 3)).alloc (.cells #[.int .i64 (-1)] 3)).alloc (.cells #[.slice a len cap] 33) = W0 := ⟨_, rfl⟩
  rw [hW0] at bP bA bN hB0 hsz ⊢
  clear hW0
  refine wpIn_rangeFunc_ownH rfl (by omega) (gf := 98) (lb := #[.pointer (some ⟨w.heap.size + 1 + 1 + 1, 0, none⟩)]) rfl trivial (enters_of Tryd.func98 (by kernel_rfl) rfl)
    (back_stops Fence.wide 4 trivial rfl (by omega) (w.heap.size + 1 + 1 + 1) w.heap.size _ zs hreach W0 (by omega) (by omega) bN.cell (hI.below hB0)) Kp.trans (kp_b (by omega) (by omega)) (Below.refl _ _) (fun _ => rfl)
    (fun pre W => ((Boxed W (w.heap.size + 1) 3 (.int .i64 p) ∧ Boxed W (w.heap.size + 1 + 1) 3 (.int .i64 (-1))) ∧ Boxed W (w.heap.size + 1 + 1 + 1) 33 (.slice a len cap) ∧ (∀ x ∈ pre, x.2.1 ≠ p ∨ p < 0)) ∧ Below w.heap.size w W)
    (fun c pre W => (c = .exit 0 ∧ ∃ ini lst, pre = ini ++ [lst] ∧ (∀ x ∈ ini, x.2.1 ≠ p ∨ p < 0) ∧ (lst.2.1 = p ∧ 0 ≤ p) ∧ Boxed W (w.heap.size + 1 + 1) 3 (.int .i64 (lst.1 : Int))) ∧ Below w.heap.size w W)
    (OwnFrom.and (OwnFrom.and (OwnFrom.and (Own.from (boxed_own _ _ _) _) (Own.from (boxed_own _ _ _) _)) (OwnFrom.and (Own.from (boxed_own _ _ _) _) (ownFrom_pure _ _))) (ownFrom_below (Nat.le_refl _) (by omega)))
    (fun c => OwnFrom.and (Own.from (fun s A B row hs hg hr => by obtain ⟨hc, ini, lst, e1, e2, e3, e4⟩ := hs; exact ⟨hc, ini, lst, e1, e2, e3, boxed_own (w.heap.size + 1 + 1) 3 (fun (_ : Unit) => Value.int .i64 (lst.1 : Int)) () A B row e4 hg hr⟩) _) (ownFrom_below (Nat.le_refl _) (by omega)))
    ⟨⟨⟨bP, bA⟩, bN, by simp⟩, hB0⟩
    (fun x a' W => ∃ Bx, W.cell? ⟨Bx, 0, none⟩ = some (.int .i64 x.2.1) ∧ a' = { tmps := #[.agg #[u0, u1, .slice a len cap], .int .i64 p, .pointer (some ⟨w.heap.size, 0, none⟩), .pointer (some ⟨w.heap.size + 1, 0, none⟩), .int .i64 0, .pointer (some ⟨w.heap.size + 1 + 1, 0, none⟩), .int .i64 (x.1 : Int), .pointer (some ⟨Bx, 0, none⟩), .pointer (some ⟨w.heap.size, 2, none⟩), .slice a len cap, .func (.func 98) #[] #[.pointer (some ⟨w.heap.size + 1 + 1 + 1, 0, none⟩)], .int .i64 (x.1 : Int), .agg #[.int .i64 x.2.1, .int .i64 x.2.2], undef, undef, undef, undef, undef, undef, undef, undef, undef, undef, undef], defers := [] })
    (fun x a' _ X Y row hs hg hr => by obtain ⟨Bx, h1, h2⟩ := hs; exact ⟨Bx, cell_kept h1 hg (fun r e => (hr r e).2), h2⟩)
    ?assign ?body ?done ?stop
  case assign =>
    rintro l pre x W K ⟨⟨⟨bP1, bA1⟩, bN1, hp1⟩, hB1⟩ hK
    gi_wp2
    refine hK _ _ ((KeepsOthers.alloc _ _).from _) ⟨(Below.refl _ W).alloc hB1.size _, ?_⟩ ⟨⟨⟨bP1.alloc _, bA1.alloc _⟩, bN1.alloc _, hp1⟩, hB1.alloc hB1.size _⟩ ⟨W.heap.size, ?_, rfl⟩
    · exact (bN1.alloc _).trans bN1.symm
    · show (match (W.alloc (.cells #[.int .i64 x.2.1, .int .i64 x.2.2] 42)).heap[W.heap.size]? with | some (.cells c _ _) => _ | _ => none) = _
      rw [World.alloc_heap_new]
      rfl
  case body =>
    rintro l pre x a' W hl ⟨r, hr⟩ ⟨⟨⟨bP1, bA1⟩, bN1, hp1⟩, hB1⟩ ⟨Bx, hBx, rfl⟩ hlt
    have cP := bP1.cell
    have cA := bA1.cell
    have fA := bA1.frozen
    gi_wp2
    · have hx : p < 0 := by assumption
      exact ⟨KeepsFrom.refl _ _, Kp.refl _ _ _, ⟨⟨⟨bP1, bA1⟩, bN1, fun y hy => .inr hx⟩, hB1⟩⟩
    · have hx : x.2.1 = p := by assumption
      have hp : 0 ≤ p := by assumption
      exact ⟨(KeepsOthers.setCell _ _ _).from _, ⟨rfl, pre, x, rfl, hp1, ⟨hx, hp⟩, bA1.set _⟩, hB1.setCell (p := ⟨w.heap.size + 1 + 1, 0, none⟩) (by simp; omega) _⟩
    · have hx : ¬ x.2.1 = p := by assumption
      exact ⟨KeepsFrom.refl _ _, Kp.refl _ _ _, ⟨⟨⟨bP1, bA1⟩, bN1, fun y hy => (List.mem_append.1 hy).elim (hp1 y) fun e => by simp at e; subst e; exact .inl hx⟩, hB1⟩⟩
  case done =>
    rintro D ys W hD rfl ⟨⟨⟨bP1, bA1⟩, bN1, hp1⟩, hB1⟩ hK
    have cA := bA1.cell
    gi_wp2
    refine ⟨by simp, .inl ⟨_, _, rfl, run_takeDeferred hK, ?_⟩⟩
    refine ⟨_, results_tmp rfl _ _ _, ?_, hB1.trans (belowK_b (w := w) (Nat.le_refl _) W D _ _ (by omega) hK rfl rfl)⟩
    show Ending.returned (.int .i64 (-1)) = _
    rw [lastFrom_none zs p zs.length fun j hj => hp1 (rnd zs zs.length (zs.length - 1 - j)) (by simp only [upto, List.mem_map, List.mem_range]; exact ⟨zs.length - 1 - j, by omega, rfl⟩) |> fun h => by unfold rnd at h; rwa [show zs.length - 1 - (zs.length - 1 - j) = j by omega] at h]
  case stop =>
    rintro D c pre W hD ⟨k, hk, rfl⟩ ⟨⟨rfl, ini, lst, e1, e2, e3, bA1⟩, hB1⟩ hK
    have cA := bA1.cell
    gi_wp2
    refine ⟨by simp, .inl ⟨_, _, rfl, run_takeDeferred hK, ?_⟩⟩
    refine ⟨_, results_tmp rfl _ _ _, ?_, hB1.trans (belowK_b (w := w) (Nat.le_refl _) W D _ _ (by omega) hK rfl rfl)⟩
    obtain ⟨k', rfl⟩ : ∃ k', k = k' + 1 := by
      cases k with
      | zero => simp [upto] at e1
      | succ k' => exact ⟨k', rfl⟩
    rw [upto_succ] at e1
    obtain ⟨rfl, e5⟩ := List.append_inj' e1 rfl
    obtain rfl : rnd zs zs.length k' = lst := by simpa using e5
    show Ending.returned (.int .i64 ((zs.length - 1 - k' : Nat) : Int)) = _
    rw [lastFrom_some zs p zs.length (zs.length - 1 - k') (by omega) e3.1 e3.2 fun j h1 h2 => e2 (rnd zs zs.length (zs.length - 1 - j)) (by simp only [upto, List.mem_map, List.mem_range]; exact ⟨zs.length - 1 - j, by omega, rfl⟩) |> fun h => by unfold rnd at h; rwa [show zs.length - 1 - (zs.length - 1 - j) = j by omega] at h]
theorem pcs_of {A1 A0 AL : Nat → Prop} {w : World} : ∀ (xs : List D) (zs : List (Int × Int)), pcsD xs = some zs → ∀ (b sz off : Nat), DenEls A1 A0 AL w b sz off xs → zs.length = xs.length ∧ (xs ≠ [] → sz = 2) ∧ ∀ j, j < zs.length → w.cell? ⟨b, off + j * 2, none⟩ = some (.int .i64 (pc zs j).1) ∧ w.cell? ⟨b, off + j * 2 + 1, none⟩ = some (.int .i64 (pc zs j).2)
  | [], zs, h, b, sz, off, _ => by cases h; exact ⟨rfl, fun h => absurd rfl h, fun j hj => absurd hj (by simp)⟩
  | x :: xs, zs, h, b, sz, off, hd => by
    unfold pcsD at h
    split at h
    · cases h
      rename_i heq; cases heq
    · rename_i p q r heq
      cases heq
      cases hr : pcsD xs with
      | none => rw [hr] at h; cases h
      | some l =>
        rw [hr] at h
        cases h
        obtain ⟨⟨u, ⟨us, rfl, u1, us1, rfl, rfl, u2, us2, rfl, rfl, rfl⟩, h2, h3⟩, h4⟩ := hd
        have hsz : sz = 2 := by rw [← h2]; rfl
        subst hsz
        obtain ⟨i1, _, i3⟩ := pcs_of xs l hr b 2 (off + 2) h4
        refine ⟨by simp [i1], fun _ => rfl, fun j hj => ?_⟩
        cases j with
        | zero => exact ⟨by simpa [pc] using h3 0 (.int .i64 p) rfl, by simpa [pc] using h3 1 (.int .i64 q) rfl⟩
        | succ j =>
          have := i3 j (by simpa using hj)
          rw [show off + (j + 1) * 2 = off + 2 + j * 2 by omega]
          simpa [pc] using this
    · cases h

/-- What is said of lower.Last is what it does. -/
theorem special : SpecOK Tryd.prog 23 (specFn 0) := by
  refine ⟨by kernel_rfl, 0, rfl, fun l r R w us hs ok hH hd => ?_⟩
  unfold specE at hs
  split at hs
  · rename_i a b t xs p _
    obtain ⟨u1, us1, rfl, ⟨vs, rfl, v0, vs0, rfl, _, v1, vs1, rfl, _, v2, vs2, rfl, hv, rfl⟩, u2, us2, rfl, rfl, rfl⟩ := hd
    cases hz : pcsD xs with
    | none => rw [hz] at hs; cases hs
    | some zs =>
      rw [hz] at hs
      dsimp only at hs
      cases hb : Nat.ble zs.length lim with
      | false => rw [hb] at hs; cases hs
      | true =>
        rw [hb] at hs
        cases hs
        obtain ⟨ad, len, cap, rfl, rfl, hcap, _, hel⟩ := hv
        have hI : Pcs w.heap.size w (.slice ad xs.length cap) zs := by
          by_cases hne : xs = []
          · subst hne; cases hz; exact .inl ⟨ad, cap, rfl, rfl⟩
          · obtain ⟨b, off, sz, rfl, _, hlt, hels⟩ := hel hne
            obtain ⟨i1, _, i3⟩ := pcs_of xs zs hz b sz off hels
            exact .inr ⟨b, off, cap, by rw [i1], hlt, i3⟩
        refine (callsIn_wide.1 (last_in v0 v1 _ p zs (Nat.le_of_ble_eq_true hb) w ⟨_, _, _, rfl⟩ hI)).mono ?_
        rintro e w' ⟨he, hB⟩
        refine ⟨_, he, rfl, ⟨fun _ _ h => h, fun i x blk _ h hd => ⟨blk, h, Blk.like_refl hd⟩, rfl, rfl, fun b hb _ => hB.block b hb, fun b cs el fr h => ⟨cs, el, fr, (hB.block b (Array.getElem?_eq_some_iff.1 h).1).trans h, rfl⟩, hB.size, fun _ _ h => h, hB.os, hB.tape, hB.output⟩⟩
  · cases hs
end Go.Proofs.YtljgncbdagmeeaaDoor.Last
