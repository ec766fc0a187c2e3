/- SourceOrder: part 3 of 5 of the proof. -/
import Derived.Test.YtnmbdjkbaihicaaDoorZSourceOrderb
import Derived.KernelRfl
import Derived.ChangeArms
import Derived.Deep.Slices
import Derived.ChangeOld
import Derived.WideShapes
import Derived.FnData
import Derived.MakeChecks
import Derived.LaidMore
import Derived.OpenShut
set_option maxRecDepth 100000
set_option maxHeartbeats 40000000
namespace Go.Proofs.YtnmbdjkbaihicaaDoorE
open Go
set_option linter.unusedVariables false
set_option linter.unusedSimpArgs false
def ZsJ (x : Option Opd) : List Opd := match x with | some y => [y] | none => []
def ZqR : O → List Opd
 | .mov x => [x]
 | .pick c a b => [c, a, b]
 | .alloc z => []
 | .box x => [x]
 | .build z ps => ps.map (·.2.2)
 | .bslice sz z len ps => ps.map (·.2)
 | .load n ag x => [x]
 | .store n x v => [x, v]
 | .nilck x => [x]
 | .bin op x y => [x, y]
 | .eqv ks neg x y => [x, y]
 | .un op x => [x]
 | .conv k x => [x]
 | .mkfn f caps => caps
 | .mkslice sz z n c => [n, c]
 | .slice sz x lo hi mx => x :: (ZsJ lo ++ (ZsJ hi ++ ZsJ mx))
 | .faddr off x => [x]
 | .field off n ag x => [x]
 | .iaddr sz x i => [x, i]
 | .index len sz ag x i => [x, i]
 | .indexS x i => [x, i]
 | .iaddrA len sz x i => [x, i]
 | .len x => [x]
 | .append sz x y => [x, y]
 | .appendD sz x y => [x, y]
 | .mx isMax xs => xs
 | .extract x i => [x]
 | .mkif t x => [x]
 | .call f args => args
 | .callv x args => x :: args
 | .invoke tab x args => x :: args
 | .mkmap => []
 | .mapset _ m k v => [m, k, v]
 | .mapget _ _ m k => [m, k]
 | .panic => []
 | .callk _ args _ => args
 | .nilq x => [x]
 | .spec _ args => args
theorem Zew {e e' : Env} : ∀ (l : List Opd), (∀ y ∈ l, y.val e = y.val e') → vals e l = vals e' l
 | [], _ => rfl
 | y :: l, h => by
  simp only [vals]
  rw [h y (by simp), Zew l (fun z hz => h z (by simp [hz]))]
theorem ZjV {e e' : Env} {x : Option Opd} (h : ∀ y ∈ ZsJ x, y.val e = y.val e') : x.map (·.val e) = x.map (·.val e') := by
 cases x with
 | none => rfl
 | some y => simp only [Option.map_some]; rw [h y (by simp [ZsJ])]
theorem ZrU {Γ : Ctx} {cf : Zbe} {e e' : Env} {nid : Nat} {H : Zm} : ∀ (op : O), (∀ y ∈ ZqR op, y.val e = y.val e') → opE Γ cf e nid H op = opE Γ cf e' nid H op := by
 intro op h
 cases op <;> simp only [ZqR, List.mem_cons, List.not_mem_nil, or_false, forall_eq_or_imp, forall_eq, List.mem_append] at h
 case build z ps =>
  simp only [opE]
  have : (ps.map fun (o, s, x) => (o, s, x.val e)) = ps.map fun (o, s, x) => (o, s, x.val e') := by
   apply List.map_congr_left
   rintro ⟨o, s, x⟩ hx
   simp only [h x (List.mem_map.2 ⟨_, hx, rfl⟩)]
  rw [this]
 case bslice sz z len ps =>
  simp only [opE]
  have : (ps.map fun (i, x) => (i, x.val e)) = ps.map fun (i, x) => (i, x.val e') := by
   apply List.map_congr_left
   rintro ⟨i, x⟩ hx
   simp only [h x (List.mem_map.2 ⟨_, hx, rfl⟩)]
  rw [this]
 case mkfn f caps =>
  cases caps with
  | nil => rfl
  | cons c cs => show ZcF (.fn f (vals e (c :: cs))) = ZcF (.fn f (vals e' (c :: cs))); rw [Zew (c :: cs) h]
 case spec id args => simp only [opE]; rw [Zew args h]
 case mx b xs => simp only [opE]; rw [Zew xs h]
 case call f args => simp only [opE]; rw [Zew args h]
 case callk f args chk => simp only [opE]; rw [Zew args h]
 case callv x args => rw [ZfF, ZfF, h.1, Zew args h.2]
 case invoke tab x args => rw [Ze7, Ze7, h.1, Zew args h.2]
 case slice sz x lo hi mx =>
  simp only [opE]
  rw [h.1, ZjV (x := lo) (fun y hy => h.2 y (.inl hy)), ZjV (x := hi) (fun y hy => h.2 y (.inr (.inl hy))), ZjV (x := mx) (fun y hy => h.2 y (.inr (.inr hy)))]
 all_goals (first | rfl | (simp only [opE]; simp only [h]; done) | (simp only [opE, h.1, h.2]; done) | (simp only [opE]; rw [h]; done) | skip)
def Zr5 : O → Bool
 | .mov _ => true
 | .pick _ _ _ => true
 | .build _ _ => true
 | .bin _ _ _ => true
 | .eqv _ _ _ _ => true
 | .un _ _ => true
 | .conv _ _ => true
 | .mkfn _ _ => true
 | .field _ _ _ _ => true
 | .index _ _ _ _ _ => true
 | .indexS _ _ => true
 | .mx _ _ => true
 | .extract _ _ => true
 | .nilck _ => true
 | .faddr _ _ => true
 | _ => false
theorem Zvf {Γ : Ctx} {cf : Zbe} {e : Env} {nid nid' : Nat} {H H' : Zm} {op : O} (h : Zr5 op = true) : opE Γ cf e nid H op = opE Γ cf e nid' H' op := by
 cases op <;> first | rfl | (cases h; done)
def Zr3 : O → Bool
 | .slice _ _ _ _ _ => true
 | .faddr _ _ => true
 | .iaddr _ _ _ => true
 | .iaddrA _ _ _ _ => true
 | .len _ => true
 | _ => false
def ZiR (H H' : Zm) : Prop := ∀ b blk, nth H b = some blk → blk ≠ .dead → ∃ blk', nth H' b = some blk' ∧ blk.like blk'
section
variable {H H' : Zm}
theorem ZiR.arr (h : ZiR H H') {b sz : Nat} {xs : List D} (hb : nth H b = some (.arr sz xs)) : ∃ ys, nth H' b = some (.arr sz ys) ∧ ys.length = xs.length := by
 obtain ⟨blk', h1, h2⟩ := h b _ hb (by simp)
 cases blk' <;> simp [Blk.like] at h2
 obtain ⟨rfl, h2⟩ := h2
 exact ⟨_, h1, h2⟩
theorem ZiR.cells (h : ZiR H H') {b : Nat} {cs : List V} (hb : nth H b = some (.cells cs)) : ∃ ds, nth H' b = some (.cells ds) := by
 obtain ⟨blk', h1, h2⟩ := h b _ hb (by simp)
 cases blk' <;> simp [Blk.like] at h2
 exact ⟨_, h1⟩
theorem Zl2 (h : ZiR H H') {x : V} {xs : List D} (he : elems H x = some xs) : ∃ ys, elems H' x = some ys ∧ ys.length = xs.length ∧ ∀ own zs, x = .d (.list own zs) → ys = xs := by
 unfold elems at he
 split at he
 ·cases he; exact ⟨_, rfl, rfl, fun _ _ _ => rfl⟩
 ·rename_i b sz
  cases hb : nth H b with
  | none => rw [hb] at he; cases he
  | some blk =>
   rw [hb] at he
   cases blk <;> try (cases he; done)
   rename_i sz' xs'
   obtain ⟨ys, h1, h2⟩ := h.arr hb
   dsimp only at he
   cases hs : Nat.beq sz sz' with
   | false => rw [hs] at he; cases he
   | true =>
    rw [hs] at he
    cases he
    exact ⟨ys, by simp only [elems, h1, hs, cond_true], h2, fun _ _ h => by cases h⟩
 ·rename_i b sz o len
  cases hb : nth H b with
  | none => rw [hb] at he; cases he
  | some blk =>
   rw [hb] at he
   cases blk <;> try (cases he; done)
   rename_i sz' xs'
   obtain ⟨ys, h1, h2⟩ := h.arr hb
   dsimp only at he
   cases hs : Nat.beq sz sz' with
   | false => rw [hs] at he; cases he
   | true =>
    rw [hs] at he
    cases he
    exact ⟨(ys.drop o).take len, by simp only [elems, h1, hs, cond_true], by simp [h2], fun _ _ h => by cases h⟩
 ·cases he; exact ⟨[], rfl, rfl, fun _ _ h => by cases h⟩
 ·cases he
theorem Zmg (h : ZiR H H') {off : Nat} {x v : V} (hf : Zid H off x = some v) : Zid H' off x = some v := hf
theorem Zpo (h : ZiR H H') {len sz : Nat} {x i v : V} (hf : Zfk H len sz x i = some v) : Zfk H' len sz x i = some v := by
 unfold Zfk at hf ⊢
 split at hf
 ·rename_i k m
  cases hc : (decide (0 ≤ m) && decide (m < len)) with
  | false => rw [hc] at hf; cases hf
  | true =>
   rw [hc] at hf
   exact Zmg h hf
 ·cases hf
theorem Zsz (h : ZiR H H') {x : V} {r : D} (hf : ZoK H x = some r) : ZoK H' x = some r := by
 unfold ZoK at hf ⊢
 cases he : elems H x with
 | none => rw [he] at hf; cases hf
 | some xs =>
  rw [he] at hf
  obtain ⟨ys, h1, h2, _⟩ := Zl2 h he
  rw [h1]
  cases hf
  simp only [h2]
theorem Zo8 {α : Type} {xs ys : List α} {i : Int} {x : α} (hl : ys.length = xs.length) (h : ZB xs i = some x) : ∃ y, ZB ys i = some y := by
 obtain ⟨h0, h1, _⟩ := ZlO xs i x h
 have hlt : i.toNat < ys.length := by omega
 refine ⟨ys[i.toNat], ?_⟩
 unfold ZB
 simp only [h0, decide_true, cond_true, ZW]
 exact List.getElem?_eq_getElem hlt
theorem Zqe (h : ZiR H H') {sz : Nat} {x i v : V} (hf : Zgt H sz x i = some v) : Zgt H' sz x i = some v := by
 unfold Zgt at hf ⊢
 split at hf
 ·rename_i k m
  split at hf
  ·exact hf
  ·rename_i b sz'
   cases hb : nth H b with
   | none => rw [hb] at hf; cases hf
   | some blk =>
    rw [hb] at hf
    cases blk <;> try (cases hf; done)
    rename_i sz'' xs
    obtain ⟨ys, h1, h2⟩ := h.arr hb
    rw [h1]
    dsimp only at hf ⊢
    cases hs : (Nat.beq sz sz' && Nat.beq sz sz'') with
    | false => rw [hs] at hf; cases hf
    | true =>
     rw [hs] at hf
     simp only [cond_true] at hf ⊢
     cases hg : ZB xs m with
     | none => rw [hg] at hf; cases hf
     | some z =>
      rw [hg] at hf
      obtain ⟨y, hy⟩ := Zo8 h2 hg
      rw [hy]; exact hf
  ·rename_i b sz' o len
   cases hb : nth H b with
   | none => rw [hb] at hf; cases hf
   | some blk =>
    rw [hb] at hf
    cases blk <;> try (cases hf; done)
    rename_i sz'' xs
    obtain ⟨ys, h1, h2⟩ := h.arr hb
    rw [h1]
    dsimp only at hf ⊢
    cases hs : (Nat.beq sz sz' && Nat.beq sz sz'') with
    | false => rw [hs] at hf; cases hf
    | true =>
     rw [hs] at hf
     simp only [cond_true] at hf ⊢
     cases hg : ZB ((xs.drop o).take len) m with
     | none => rw [hg] at hf; cases hf
     | some z =>
      rw [hg] at hf
      obtain ⟨y, hy⟩ := Zo8 (ys := (ys.drop o).take len) (by simp [h2]) hg
      rw [hy]; exact hf
  ·cases hf
 ·cases hf
theorem Zqb (h : ZiR H H') {sz : Nat} {x v : V} {lo hi mx : Option V} (hf : ZgA H sz x lo hi mx = some v) : ZgA H' sz x lo hi mx = some v := by
 unfold ZgA at hf ⊢
 cases he : elems H x with
 | none => rw [he] at hf; cases hf
 | some xs =>
  rw [he] at hf
  obtain ⟨ys, h1, h2, h3⟩ := Zl2 h he
  rw [h1]
  dsimp only at hf ⊢
  rw [h2]
  cases hl : Zgf lo 0 with
  | none => rw [hl] at hf; cases hf
  | some l =>
   rw [hl] at hf
   cases hh : Zgf hi xs.length with
   | none => rw [hh] at hf; cases hf
   | some n =>
    rw [hh] at hf
    dsimp only at hf ⊢
    cases hc : (Nat.ble l n && Nat.ble n xs.length) with
    | false => rw [hc] at hf; cases hf
    | true =>
     rw [hc] at hf
     simp only [cond_true] at hf ⊢
     cases mx with
     | some m => exact hf
     | none =>
      dsimp only at hf ⊢
      split at hf
      ·rename_i own zs
       rw [h3 own zs rfl]; exact hf
      ·exact hf
      ·exact hf
      ·exact hf
      ·cases hf
theorem Zum (h : ZiR H H') {Γ : Ctx} {cf : Zbe} {e : Env} {nid nid' : Nat} {op : O} {r : V × List (Nat × Blk) × List Blk} (hc : Zr3 op = true) (ho : opE Γ cf e nid H op = some r) : opE Γ cf e nid' H' op = some r := by
 cases op <;> first | (cases hc; done) | skip
 case slice sz x lo hi mx =>
  simp only [opE] at ho ⊢
  cases hf : ZgA H sz (x.val e) (lo.map (·.val e)) (hi.map (·.val e)) (mx.map (·.val e)) with
  | none => rw [hf] at ho; cases ho
  | some v => rw [hf] at ho; rw [Zqb h hf]; exact ho
 case faddr off x =>
  simp only [opE] at ho ⊢
  cases hf : Zid H off (x.val e) with
  | none => rw [hf] at ho; cases ho
  | some v => rw [hf] at ho; rw [Zmg h hf]; exact ho
 case iaddr sz x i =>
  simp only [opE] at ho ⊢
  cases hf : Zgt H sz (x.val e) (i.val e) with
  | none => rw [hf] at ho; cases ho
  | some v => rw [hf] at ho; rw [Zqe h hf]; exact ho
 case iaddrA len sz x i =>
  simp only [opE] at ho ⊢
  cases hf : Zfk H len sz (x.val e) (i.val e) with
  | none => rw [hf] at ho; cases ho
  | some v => rw [hf] at ho; rw [Zpo h hf]; exact ho
 case len x =>
  simp only [opE] at ho ⊢
  cases hf : ZoK H (x.val e) with
  | none => rw [hf] at ho; cases ho
  | some v => rw [hf] at ho; rw [Zsz h hf]; exact ho
end
end Go.Proofs.YtnmbdjkbaihicaaDoorE
namespace Go.Proofs.YtnmbdjkbaihicaaDoorE
open Go
set_option linter.unusedVariables false
set_option linter.unusedSimpArgs false
def Zk5 (o : Oper) : List Nat := (o.after.toList.filter (Region.binds .any)).map (·.on)
def tb (b i : Nat) : Bool := !(Nat.beq (Nat.land (Nat.shiftRight b i) 1) 0)
def Zlu (acc : List Nat) : List Nat → Nat
 | [] => 0
 | i :: l => Nat.lor (Nat.lor (Nat.shiftLeft 1 i) (match nth acc i with | some b => b | none => 0)) (Zlu acc l)
def Zhi (acc : List Nat) : List Oper → List Nat
 | [] => acc
 | o :: os => Zhi (acc ++ [Zlu acc (Zk5 o)]) os
def Zkp (os : List Oper) : List Nat := Zhi [] os
theorem Zri (b i : Nat) : tb b i = b.testBit i := by
 unfold tb Nat.testBit
 rw [show Nat.land (Nat.shiftRight b i) 1 = 1 &&& (b >>> i) from Nat.and_comm _ _]
 cases h : (1 &&& b >>> i) with
 | zero => rfl
 | succ n => rfl
theorem Zl8 (acc : List Nat) (k : Nat) : ∀ (l : List Nat), tb (Zlu acc l) k = true → ∃ i ∈ l, k = i ∨ ∃ b, acc[i]? = some b ∧ tb b k = true
 | [], h => by rw [Zri] at h; simp [Zlu] at h
 | i :: l, h => by
  rw [Zri] at h
  change ((1 <<< i ||| (match nth acc i with | some b => b | none => 0)) ||| Zlu acc l).testBit k = true at h
  rw [Nat.testBit_or, Nat.testBit_or, Bool.or_eq_true, Bool.or_eq_true] at h
  rcases h with (h | h) | h
  ·rw [Nat.testBit_shiftLeft] at h
   simp only [Bool.and_eq_true, decide_eq_true_eq, Nat.testBit_one_eq_true_iff_self_eq_zero] at h
   exact ⟨i, by simp, .inl (by omega)⟩
  ·cases ha : nth acc i with
   | none => rw [ha] at h; simp at h
   | some b => rw [ha] at h; exact ⟨i, by simp, .inr ⟨b, by rw [← ZW]; exact ha, by rw [Zri]; exact h⟩⟩
  ·obtain ⟨j, h1, h2⟩ := Zl8 acc k l (by rw [Zri]; exact h)
   exact ⟨j, by simp [h1], h2⟩
theorem ZiU : ∀ (os : List Oper) (acc : List Nat), (Zhi acc os).length = acc.length + os.length ∧ (∀ i, i < acc.length → (Zhi acc os)[i]? = acc[i]?) ∧
  ∀ (j : Nat) o, os[j]? = some o → (Zhi acc os)[acc.length + j]? = some (Zlu ((Zhi acc os).take (acc.length + j)) (Zk5 o))
 | [], acc => ⟨rfl, fun _ _ => rfl, fun j o h => by simp at h⟩
 | o :: os, acc => by
  obtain ⟨h1, h2, h3⟩ := ZiU os (acc ++ [Zlu acc (Zk5 o)])
  simp only [Zhi]
  rw [List.length_append, List.length_singleton] at h1 h2 h3
  refine ⟨by rw [h1, List.length_cons]; omega, fun i hi => ?_, fun j o' hj => ?_⟩
  ·rw [h2 i (by omega), List.getElem?_append_left hi]
  ·cases j with
   | zero =>
    simp at hj; subst hj
    have htake : (Zhi (acc ++ [Zlu acc (Zk5 o)]) os).take (acc.length + 0) = acc := by
     apply List.ext_getElem?
     intro i
     rw [List.getElem?_take]
     by_cases hi : i < acc.length
     ·rw [if_pos (by omega), h2 i (by omega), List.getElem?_append_left hi]
     ·rw [if_neg (by omega), List.getElem?_eq_none (by omega)]
    rw [htake, Nat.add_zero, h2 acc.length (by omega), List.getElem?_append_right (Nat.le_refl _)]
    simp
   | succ j =>
    have e1 := h3 j o' (by simpa using hj)
    rw [show acc.length + 1 + j = acc.length + (j + 1) by omega] at e1
    exact e1
theorem Zr7 {os : List Oper} {j k b : Nat} {o : Oper} (ho : os[j]? = some o) (hb : (Zkp os)[j]? = some b) (h : tb b k = true) : ∃ i ∈ Zk5 o, k = i ∨ (i < j ∧ ∃ b', (Zkp os)[i]? = some b' ∧ tb b' k = true) := by
 obtain ⟨_, _, h3⟩ := ZiU os []
 have e := h3 j o ho
 simp only [List.length_nil, Nat.zero_add] at e
 rw [show Zhi [] os = Zkp os from rfl, hb] at e
 cases e
 obtain ⟨i, h1, h2⟩ := Zl8 _ k _ h
 refine ⟨i, h1, ?_⟩
 rcases h2 with h2 | ⟨b', f1, f2⟩
 ·exact .inl h2
 ·rw [List.getElem?_take] at f1
  by_cases hi : i < j
  ·rw [if_pos hi] at f1
   exact .inr ⟨hi, b', f1, f2⟩
  ·rw [if_neg hi] at f1; cases f1
structure Zcm where
 E : Nat → Env
 HH : Nat → Zm
 W : Nat → Bool
 VV : Nat → V
 UP : Nat → List (Nat × Blk)
 NW : Nat → List Blk
def Zcm.pos (t : Zcm) (j : Nat) : List (Nat × Nat) := (List.range j).map fun i => ((t.HH i).length, (t.NW i).length)
structure Zcm.OK (t : Zcm) (Γ : Ctx) (cf : Zbe) (p0 : List (Nat × Nat)) (l : List Op1) (e : Env) (H : Zm) (e' : Env) (H' : Zm) : Prop where
 e0 : t.E 0 = e
 h0 : t.HH 0 = H
 e1 : t.E l.length = e'
 h1 : t.HH l.length = H'
 w : ∀ (j : Nat) p, l[j]? = some p → ZeW (t.E j) p.guard = some (t.W j)
 e : ∀ (j : Nat) p, l[j]? = some p → t.E (j + 1) = Zm7 (t.E j) p.dst (t.VV j)
 h : ∀ (j : Nat) p, l[j]? = some p → t.HH (j + 1) = ZdE (t.HH j) (t.UP j) ++ t.NW j
 y : ∀ (j : Nat) p, l[j]? = some p → t.W j = true → opE Γ cf (t.E j) (t.HH j).length (Zfu (t.HH j) (p0 ++ t.pos j) p.mask) p.op = some (t.VV j, t.UP j, t.NW j) ∧ Znd (t.E j) (t.HH j) p (t.UP j) (t.NW j) = true
 n : ∀ (j : Nat) p, l[j]? = some p → t.W j = false → t.VV j = .d (.tup []) ∧ t.UP j = [] ∧ t.NW j = []
def Zhp {α : Type} (a : α) (f : Nat → α) : Nat → α
 | 0 => a
 | n + 1 => f n
theorem Znm {Γ : Ctx} {cf : Zbe} : ∀ (l : List Op1) (p0 : List (Nat × Nat)) (e : Env) (H : Zm) (e' : Env) (H' : Zm), ZeL Γ cf p0 l e H = some (e', H') → ∃ t : Zcm, t.OK Γ cf p0 l e H e' H'
 | [], p0, e, H, e', H', h => by
  simp only [ZeL, Option.some.injEq, Prod.mk.injEq] at h
  obtain ⟨rfl, rfl⟩ := h
  exact ⟨⟨fun _ => e, fun _ => H, fun _ => false, fun _ => .bad, fun _ => [], fun _ => []⟩, rfl, rfl, rfl, rfl, by simp, by simp, by simp, by simp, by simp⟩
 | o :: l, p0, e, H, e', H', h => by
  simp only [ZeL] at h
  have step : ∀ (b : Bool) (v : V) (up : List (Nat × Blk)) (nw : List Blk), ZeW e o.guard = some b → ZeL Γ cf (p0 ++ [(H.length, nw.length)]) l (Zm7 e o.dst v) (ZdE H up ++ nw) = some (e', H') →
    (b = true → opE Γ cf e H.length (Zfu H p0 o.mask) o.op = some (v, up, nw) ∧ Znd e H o up nw = true) → (b = false → v = .d (.tup []) ∧ up = [] ∧ nw = []) → ∃ t : Zcm, t.OK Γ cf p0 (o :: l) e H e' H' := by
   intro b v up nw hw hr hy hn
   obtain ⟨t, ht⟩ := Znm l _ _ _ e' H' hr
   refine ⟨⟨Zhp e t.E, Zhp H t.HH, Zhp b t.W, Zhp v t.VV, Zhp up t.UP, Zhp nw t.NW⟩, rfl, rfl, ht.e1, ht.h1, ?_, ?_, ?_, ?_, ?_⟩
   ·intro j p hj
    cases j with
    | zero => simp at hj; subst hj; exact hw
    | succ j => exact ht.w j p (by simpa using hj)
   ·intro j p hj
    cases j with
    | zero => simp at hj; subst hj; exact ht.e0
    | succ j => exact ht.e j p (by simpa using hj)
   ·intro j p hj
    cases j with
    | zero => simp at hj; subst hj; exact ht.h0
    | succ j => exact ht.h j p (by simpa using hj)
   ·intro j p hj hwj
    cases j with
    | zero =>
     simp at hj; subst hj
     have := hy hwj
     simpa [Zcm.pos, Zhp] using this
    | succ j =>
     have := ht.y j p (by simpa using hj) hwj
     have hpos : p0 ++ Zcm.pos ⟨Zhp e t.E, Zhp H t.HH, Zhp b t.W, Zhp v t.VV, Zhp up t.UP, Zhp nw t.NW⟩ (j + 1) = p0 ++ [(H.length, nw.length)] ++ t.pos j := by
      unfold Zcm.pos
      rw [List.range_succ_eq_map, List.map_cons, List.map_map, List.append_assoc]
      rfl
     rw [hpos]
     exact this
   ·intro j p hj hwj
    cases j with
    | zero => exact hn hwj
    | succ j => exact ht.n j p (by simpa using hj) hwj
  cases hw : ZeW e o.guard with
  | none => rw [hw] at h; cases h
  | some b =>
   rw [hw] at h
   cases b with
   | false =>
    exact step false (.d (.tup [])) [] [] hw (by simpa [ZdE] using h) (fun h => by cases h) (fun _ => ⟨rfl, rfl, rfl⟩)
   | true =>
    dsimp only at h
    cases ho : opE Γ cf e H.length (Zfu H p0 o.mask) o.op with
    | none => rw [ho] at h; cases h
    | some q =>
     obtain ⟨v, up, nw⟩ := q
     rw [ho] at h
     dsimp only at h
     cases hb : Znd e H o up nw with
     | false => rw [hb] at h; cases h
     | true =>
      rw [hb] at h
      exact step true v up nw hw h (fun _ => ⟨ho, hb⟩) (fun h => by cases h)
end Go.Proofs.YtnmbdjkbaihicaaDoorE
namespace Go.Proofs.YtnmbdjkbaihicaaDoorE
open Go
set_option linter.unusedVariables false
set_option linter.unusedSimpArgs false
def ZaA (p : Op1) : Nat := match p.eff with | 0 => bif Zr5 p.op then 0 else bif Zr3 p.op then 1 else 2 | 1 => 1 | 3 => 3 | _ => 4
def Zqs (p : Op1) : Bool := match p.eff with | 3 => (match p.op with | .store _ _ _ => true | .append _ _ _ => true | _ => false) | _ => true
def ZpV (p : Op1) : Bool := match p.eff with | 1 => (match p.op, p.guard with | .load 1 false (.t _), none => true | _, _ => false) | _ => true
def Zs5 : List Opd → Nat → Bool
  | [], _ => false
  | .t i :: l, s => Nat.beq i s || Zs5 l s
  | _ :: l, s => Zs5 l s
def ZsQ (p q : Op1) : Bool := match p.op, q.op with | .callk _ _ chk, .load _ _ (.t s) => Zs5 chk s | _, _ => false
def ZtY : Opd → Option Nat
  | .t i => some i
  | .c _ => none
def Zc3 (p : Op1) : List Nat := (ZqR p.op).filterMap ZtY ++ (match p.guard with | some (s, _) => [s] | none => [])
structure Row where
  p : Op1
  c : Nat
  s : List Nat
  b : Nat
def Zql (i : Nat) (p : Row) (j : Nat) (q : Row) : Bool :=
  Nat.ble p.c 2 || (Nat.beq i j || (tb q.b i || (tb p.b j || (Nat.beq q.c 0 || ((Nat.beq q.c 1 && (Nat.beq p.c 3 && !(Nat.beq q.p.eff 1))) || (Nat.beq q.p.eff 1 && (Nat.blt j i && ZsQ p.p q.p)))))))
def ZvD (p q : Op1) : Bool := match p.dst, q.dst with | some a, some b => !(Nat.beq a b) | _, _ => true
def ZlP (i : Nat) (p q : Row) : Bool := ZvD p.p q.p && (Nat.ble 3 q.c || (tb q.b i || Zhf q.p.mask i))
def ZoM (i : Nat) (p : Row) (j : Nat) (q : Row) : Bool := match p.p.dst with | some d => tb q.b i || (!(Zhf q.s d) || (tb p.b j || Nat.beq i j)) | none => true
def Zqc (i : Nat) (p : Row) (j : Nat) (q : Row) : Bool := !(Nat.beq q.p.eff 1) || (Nat.blt i j || (match p.p.dst with | some d => !(Zhf q.s d) | none => true))
def ZrR {α : Type} (f : Nat → α → Bool) : Nat → List α → Bool
  | _, [] => true
  | i, a :: l => f i a && ZrR f (i + 1) l
theorem ZfE {α : Type} {f : Nat → α → Bool} : ∀ (l : List α) (k : Nat), ZrR f k l = true → ∀ (i : Nat) a, l[i]? = some a → f (k + i) a = true
  | [], k, _, i, a, h => by simp at h
  | x :: l, k, hk, i, a, h => by
    simp only [ZrR, Bool.and_eq_true] at hk
    cases i with
    | zero => simp at h; subst h; exact hk.1
    | succ i =>
      have := ZfE l (k + 1) hk.2 i a (by simpa using h)
      rwa [show k + 1 + i = k + (i + 1) by omega] at this
def Zl7 : List Op1 → List Nat → List Row
  | p :: l, b :: bs => ⟨p, ZaA p, Zc3 p, b⟩ :: Zl7 l bs
  | _, _ => []
theorem ZhU : ∀ (l : List Op1) (bs : List Nat) (j : Nat) (p : Op1) (b : Nat), l[j]? = some p → bs[j]? = some b → (Zl7 l bs)[j]? = some ⟨p, ZaA p, Zc3 p, b⟩
  | [], bs, j, p, b, h, _ => by simp at h
  | _ :: _, [], j, p, b, _, h => by simp at h
  | x :: l, y :: bs, 0, p, b, h1, h2 => by simp at h1 h2; subst h1; subst h2; rfl
  | x :: l, y :: bs, j + 1, p, b, h1, h2 => by simpa [Zl7] using ZhU l bs j p b (by simpa using h1) (by simpa using h2)
def ZM (P : Program) (G : Zbt) (N : Nat) (os : Array Oper) (l : List Op1) : Bool :=
  P.follows .mixedOrders && (Zm8 P G N os os.toList l && (ZrR (fun j o => (Zk5 o).all fun i => Nat.blt i j) 0 os.toList &&
    (let rows := Zl7 l (Zkp os.toList)
     ZrR (fun j q => (Zqs q.p && (ZpV q.p && (Nat.ble q.c 2 || q.p.mask.isEmpty))) && ZrR (fun i p => Zql i p j q && (ZoM i p j q && (Zqc i p j q && (!(Nat.blt i j) || ZlP i p q)))) 0 rows) 0 rows)))
structure Chk (P : Program) (G : Zbt) (N : Nat) (os : Array Oper) (l : List Op1) (B : Nat → Nat → Prop) : Prop where
  mixed : P.follows .mixedOrders = true
  oper : ∀ (j : Nat) o p, os[j]? = some o → l[j]? = some p → Zmm P G N os o p = true
  len : os.size = l.length
  pre : ∀ (j : Nat) o, os[j]? = some o → ∀ i ∈ Zk5 o, i < j
  bef : ∀ (j : Nat) o k, os[j]? = some o → B k j → ∃ i ∈ Zk5 o, k = i ∨ (i < j ∧ B k i)
  pair : ∀ (i j : Nat) p q, l[i]? = some p → l[j]? = some q → 3 ≤ ZaA p → i = j ∨ B i j ∨ B j i ∨ ZaA q = 0 ∨ (ZaA q = 1 ∧ ZaA p = 3 ∧ q.eff ≠ 1) ∨ (q.eff = 1 ∧ j < i ∧ ZsQ p q = true)
  dst : ∀ (i j : Nat) p q d, l[i]? = some p → l[j]? = some q → p.dst = some d → q.dst = some d → i = j
  early : ∀ (i j : Nat) p q, l[i]? = some p → l[j]? = some q → i < j → 3 ≤ ZaA q ∨ B i j ∨ i ∈ q.mask
  reads : ∀ (i j : Nat) p q d, l[i]? = some p → l[j]? = some q → p.dst = some d → d ∈ Zc3 q → B i j ∨ B j i ∨ i = j
  eff3 : ∀ (j : Nat) q, l[j]? = some q → Zqs q = true
  mask : ∀ (j : Nat) q, l[j]? = some q → 3 ≤ ZaA q → q.mask = []
  eff1 : ∀ (j : Nat) q, l[j]? = some q → ZpV q = true
  stay : ∀ (i j : Nat) p q d, l[i]? = some p → l[j]? = some q → q.eff = 1 → j ≤ i → p.dst = some d → ¬ d ∈ Zc3 q
theorem Zkd : ∀ (l : List Nat) (b : Nat), Zhf l b = true ↔ b ∈ l
  | [], b => by simp [Zhf]
  | a :: l, b => by
    simp only [Zhf]
    cases h : Nat.beq a b with
    | true => obtain rfl := Nat.eq_of_beq_eq_true h; simp
    | false =>
      have hne : ¬ b = a := fun h' => by subst h'; rw [Nat.beq_refl] at h; cases h
      simp [Zkd l b, hne]
theorem Znt {P : Program} {G : Zbt} {N : Nat} {ops : Array Oper} : ∀ (os : List Oper) (l : List Op1), Zm8 P G N ops os l = true → os.length = l.length ∧ ∀ (j : Nat) o p, os[j]? = some o → l[j]? = some p → Zmm P G N ops o p = true
  | [], [], _ => ⟨rfl, fun j o p h => by simp at h⟩
  | [], _ :: _, h => by cases h
  | _ :: _, [], h => by cases h
  | o :: os, p :: l, h => by
    simp only [Zm8, Bool.and_eq_true] at h
    obtain ⟨h1, h2⟩ := Znt os l h.2
    refine ⟨by simp [h1], fun j o' p' ho hp => ?_⟩
    cases j with
    | zero => simp at ho hp; subst ho; subst hp; exact h.1
    | succ j => exact h2 j o' p' (by simpa using ho) (by simpa using hp)
theorem Zqu {P : Program} {G : Zbt} {N : Nat} {os : Array Oper} {l : List Op1} (h : ZM P G N os l = true) : ∃ B, Chk P G N os l B := by
  unfold ZM at h
  simp only [Bool.and_eq_true] at h
  obtain ⟨h1, h2, h3, h4⟩ := h
  obtain ⟨l1, l2⟩ := Znt _ _ h2
  have bl : (Zkp os.toList).length = l.length := by
    have := (ZiU os.toList []).1
    rw [show Zhi [] os.toList = Zkp os.toList from rfl] at this
    rw [this, l1]; simp
  have row : ∀ (j : Nat) p, l[j]? = some p → ∃ b, (Zkp os.toList)[j]? = some b ∧ (Zl7 l (Zkp os.toList))[j]? = some ⟨p, ZaA p, Zc3 p, b⟩ := fun j p hp => by
    have hj := (List.getElem?_eq_some_iff.1 hp).1
    refine ⟨(Zkp os.toList)[j]'(by omega), List.getElem?_eq_getElem (by omega), ZhU _ _ _ _ _ hp (List.getElem?_eq_getElem (by omega))⟩
  have pairs : ∀ (i j : Nat) p q bp bq, l[i]? = some p → l[j]? = some q → (Zkp os.toList)[i]? = some bp → (Zkp os.toList)[j]? = some bq →
      Zql i ⟨p, ZaA p, Zc3 p, bp⟩ j ⟨q, ZaA q, Zc3 q, bq⟩ = true ∧ ZoM i ⟨p, ZaA p, Zc3 p, bp⟩ j ⟨q, ZaA q, Zc3 q, bq⟩ = true ∧ Zqc i ⟨p, ZaA p, Zc3 p, bp⟩ j ⟨q, ZaA q, Zc3 q, bq⟩ = true ∧ (i < j → ZlP i ⟨p, ZaA p, Zc3 p, bp⟩ ⟨q, ZaA q, Zc3 q, bq⟩ = true) := fun i j p q bp bq hp hq e1 e2 => by
    have a1 := ZfE _ _ h4 j _ (ZhU _ _ _ _ _ hq e2)
    simp only [Bool.and_eq_true, Nat.zero_add] at a1
    have a2 := ZfE _ _ a1.2 i _ (ZhU _ _ _ _ _ hp e1)
    simp only [Bool.and_eq_true, Nat.zero_add, Bool.or_eq_true, Bool.not_eq_true'] at a2
    refine ⟨a2.1, a2.2.1, a2.2.2.1, fun hij => ?_⟩
    rcases a2.2.2.2 with a3 | a3
    · rw [show Nat.blt i j = Nat.ble (i + 1) j from rfl, Nat.ble_eq_true_of_le hij] at a3; cases a3
    · exact a3
  refine ⟨fun i j => ∃ b, (Zkp os.toList)[j]? = some b ∧ tb b i = true, h1, fun j o p ho hp => l2 j o p (by simpa using ho) hp, by simpa using l1, fun j o ho i hi => ?_, fun j o k ho ⟨b, e1, e2⟩ => ?_, fun i j p q hp hq hc => ?_, fun i j p q d hp hq hd hd' => ?_, fun i j p q hp hq hij => ?_, fun i j p q d hp hq hd hs => ?_, fun j q hq => ?_, fun j q hq hc => ?_, fun j q hq => ?_, fun i j p q d hp hq he hij hd => ?_⟩
  · have a1 := ZfE _ _ h3 j o (by simpa using ho)
    simp only [List.all_eq_true, Nat.zero_add] at a1
    have := a1 i hi
    simp [Nat.blt] at this; omega
  · obtain ⟨i, f1, f2⟩ := Zr7 (by simpa using ho) e1 e2
    exact ⟨i, f1, f2⟩
  · obtain ⟨bp, e1, _⟩ := row i p hp
    obtain ⟨bq, e2, _⟩ := row j q hq
    have a := (pairs i j p q bp bq hp hq e1 e2).1
    simp only [Zql, Bool.or_eq_true, Bool.and_eq_true, Nat.ble_eq] at a
    rcases a with a | a | a | a | a | a
    · omega
    · exact .inl (Nat.eq_of_beq_eq_true a)
    · exact .inr (.inl ⟨bq, e2, a⟩)
    · exact .inr (.inr (.inl ⟨bp, e1, a⟩))
    · exact .inr (.inr (.inr (.inl (Nat.eq_of_beq_eq_true a))))
    · rcases a with a | a
      · refine .inr (.inr (.inr (.inr (.inl ⟨Nat.eq_of_beq_eq_true a.1, Nat.eq_of_beq_eq_true a.2.1, fun h => ?_⟩))))
        rw [h] at a
        exact absurd a.2.2 (by decide)
      · refine .inr (.inr (.inr (.inr (.inr ⟨Nat.eq_of_beq_eq_true a.1, ?_, a.2.2⟩))))
        have := a.2.1
        simp [Nat.blt] at this; omega
  · obtain ⟨bp, e1, _⟩ := row i p hp
    obtain ⟨bq, e2, _⟩ := row j q hq
    have key : ∀ (i j : Nat) p q bp bq, l[i]? = some p → l[j]? = some q → (Zkp os.toList)[i]? = some bp → (Zkp os.toList)[j]? = some bq → p.dst = some d → q.dst = some d → ¬ i < j := fun i j p q bp bq hp hq e1 e2 hd hd' hlt => by
      have a := (pairs i j p q bp bq hp hq e1 e2).2.2.2 hlt
      simp [ZlP, ZvD, hd, hd'] at a
    have k1 := key i j p q bp bq hp hq e1 e2 hd hd'
    have k2 := key j i q p bq bp hq hp e2 e1 hd' hd
    omega
  · obtain ⟨bp, e1, _⟩ := row i p hp
    obtain ⟨bq, e2, _⟩ := row j q hq
    have a := (pairs i j p q bp bq hp hq e1 e2).2.2.2 hij
    simp only [ZlP, Bool.or_eq_true, Bool.and_eq_true, Nat.ble_eq] at a
    rcases a.2 with a | a | a
    · exact .inl a
    · exact .inr (.inl ⟨bq, e2, a⟩)
    · exact .inr (.inr ((Zkd _ _).1 a))
  · obtain ⟨bp, e1, _⟩ := row i p hp
    obtain ⟨bq, e2, _⟩ := row j q hq
    have a := (pairs i j p q bp bq hp hq e1 e2).2.1
    simp only [ZoM, hd, Bool.or_eq_true, Bool.not_eq_true'] at a
    rcases a with a | a | a | a
    · exact .inl ⟨bq, e2, a⟩
    · rw [(Zkd _ _).2 hs] at a; cases a
    · exact .inr (.inl ⟨bp, e1, a⟩)
    · exact .inr (.inr (Nat.eq_of_beq_eq_true a))
  · obtain ⟨bq, e2, e3⟩ := row j q hq
    have a1 := ZfE _ _ h4 j _ e3
    simp only [Bool.and_eq_true] at a1
    exact a1.1.1
  · obtain ⟨bq, e2, e3⟩ := row j q hq
    have a1 := ZfE _ _ h4 j _ e3
    simp only [Bool.and_eq_true, Bool.or_eq_true, Nat.ble_eq, List.isEmpty_iff] at a1
    rcases a1.1.2.2 with a2 | a2
    · omega
    · exact a2
  · obtain ⟨bq, e2, e3⟩ := row j q hq
    have a1 := ZfE _ _ h4 j _ e3
    simp only [Bool.and_eq_true] at a1
    exact a1.1.2.1
  · obtain ⟨bp, e1, _⟩ := row i p hp
    obtain ⟨bq, e2, _⟩ := row j q hq
    have a := (pairs i j p q bp bq hp hq e1 e2).2.2.1
    simp only [Zqc, hd, he, Nat.beq_refl, Bool.not_true, Bool.false_or, Bool.or_eq_true, Bool.not_eq_true'] at a
    intro hs
    rcases a with a | a
    · simp [Nat.blt] at a; omega
    · rw [(Zkd _ _).2 hs] at a; cases a
end Go.Proofs.YtnmbdjkbaihicaaDoorE
namespace Go.Proofs.YtnmbdjkbaihicaaDoorE
open Go
set_option linter.unusedVariables false
set_option linter.unusedSimpArgs false
theorem Znu : ∀ (n : Nat) (H : Zm) (b i : Nat) (blk : Blk), (Zsg H b n)[i]? = some blk → blk ≠ .dead → H[i]? = some blk ∧ ¬ (b ≤ i ∧ i < b + n)
  | 0, H, b, i, blk, h, _ => ⟨h, by omega⟩
  | n + 1, H, b, i, blk, h, hd => by
    obtain ⟨h1, h2⟩ := Znu n _ _ i blk h hd
    rw [ZbM, List.getElem?_set] at h1
    by_cases hbi : b = i
    · rw [if_pos hbi] at h1
      split at h1
      · cases h1; exact absurd rfl hd
      · cases h1
    · rw [if_neg hbi] at h1
      exact ⟨h1, by omega⟩
theorem Zlg (pos : List (Nat × Nat)) : ∀ (mask : List Nat) (H : Zm) (i : Nat) (blk : Blk), (Zfu H pos mask)[i]? = some blk → blk ≠ .dead → H[i]? = some blk ∧ ∀ m ∈ mask, ∀ b n, pos[m]? = some (b, n) → ¬ (b ≤ i ∧ i < b + n)
  | [], H, i, blk, h, _ => ⟨h, by simp⟩
  | m :: mask, H, i, blk, h, hd => by
    simp only [Zfu] at h
    rw [ZW] at h
    cases hp : pos[m]? with
    | none =>
      rw [hp] at h
      obtain ⟨h1, h2⟩ := Zlg pos mask H i blk h hd
      refine ⟨h1, fun k hk b n hb => ?_⟩
      rcases List.mem_cons.1 hk with rfl | hk
      · rw [hp] at hb; cases hb
      · exact h2 k hk b n hb
    | some q =>
      obtain ⟨b0, n0⟩ := q
      rw [hp] at h
      obtain ⟨h1, h2⟩ := Zlg pos mask _ i blk h hd
      obtain ⟨h3, h4⟩ := Znu n0 H b0 i blk h1 hd
      refine ⟨h3, fun k hk b n hb => ?_⟩
      rcases List.mem_cons.1 hk with rfl | hk
      · rw [hp] at hb; cases hb; exact h4
      · exact h2 k hk b n hb
theorem Blk.like_symm {a b : Blk} (h : a.like b) : b.like a := by
  cases a <;> cases b <;> simp_all [Blk.like]
theorem ZpF {Γ : Ctx} {cf : Zbe} {e : Env} {nid : Nat} {H : Zm} {op : O} {v : V} {up : List (Nat × Blk)} {nw : List Blk} (hc : Zr5 op = true ∨ Zr3 op = true) (h : opE Γ cf e nid H op = some (v, up, nw)) : nw = [] := by
  have key : ∀ (x : Option V), (match x with | some v => ZcF v | none => none) = some (v, up, nw) → nw = [] := fun x h => by
    cases x with
    | none => cases h
    | some y => exact (Zah h).2.2
  have keyD : ∀ (x : Option D), (match x with | some r => ZcF (.d r) | none => none) = some (v, up, nw) → nw = [] := fun x h => by
    cases x with
    | none => cases h
    | some y => exact (Zah h).2.2
  cases op <;> first | (rcases hc with hc | hc <;> cases hc; done) | skip
  case mov x => exact (Zah h).2.2
  case mkfn f caps => exact (Zah h).2.2
  case build z ps => simp only [opE] at h; split at h <;> first | exact (Zah h).2.2 | cases h
  case pick c a b => simp only [opE] at h; split at h <;> first | exact (Zah h).2.2 | cases h
  case conv k x => simp only [opE] at h; split at h <;> first | exact (Zah h).2.2 | cases h
  case eqv ks neg x y =>
    simp only [opE] at h
    split at h
    · split at h
      · split at h
        · exact (Zah h).2.2
        · cases h
      · cases h
    · cases h
  case field off n ag x =>
    simp only [opE] at h
    split at h
    · exact key _ h
    · exact key _ h
    · cases h
  case extract x i =>
    simp only [opE] at h
    split at h
    · exact key _ h
    · split at h <;> first | exact (Zah h).2.2 | cases h
    · cases h
  all_goals (simp only [opE] at h; first | exact key _ h | exact keyD _ h)
theorem ZrI {Γ : Ctx} {cf : Zbe} {e : Env} {nid : Nat} {H : Zm} {op : O} {v : V} {up : List (Nat × Blk)} {nw : List Blk} (hs : (∃ n x y, op = .store n x y) ∨ ∃ sz x y, op = .append sz x y) (h : opE Γ cf e nid H op = some (v, up, nw)) (hu : ZmV 3 up nw = true) :
    nw = [] ∧ (up = [] ∨ ∃ b blk old, up = [(b, blk)] ∧ H[b]? = some old ∧ old.like blk) := by
  simp only [ZmV, Bool.and_eq_true, List.isEmpty_iff] at hu
  obtain ⟨hu, rfl⟩ := hu
  refine ⟨rfl, ?_⟩
  rcases hs with ⟨n, x, y, rfl⟩ | ⟨sz, x, y, rfl⟩
  · simp only [opE] at h
    unfold ZjQ at h
    split at h
    · rename_i b o _
      split at h
      · rename_i cs hb
        cases hc : (Nat.beq (y.val e).cells.length n && Nat.ble (o + n) cs.length && (y.val e).okb && ZnB (y.val e).cells) with
        | false => rw [hc] at h; cases h
        | true =>
          rw [hc] at h
          simp only [cond_true, Option.some.injEq, Prod.mk.injEq] at h
          obtain ⟨rfl, rfl, _⟩ := h
          exact .inr ⟨_, _, .cells cs, rfl, by rw [← ZW]; exact hb, trivial⟩
      · cases h
    · rename_i b sz i k _
      split at h
      · rename_i sz' xs hb
        cases hq : Nat.beq sz sz' with
        | false => rw [hq] at h; cases h
        | true =>
          obtain rfl := Nat.eq_of_beq_eq_true hq
          rw [hq] at h
          simp only [cond_true] at h
          split at h
          · rename_i x0 y0 ks h1 h2
            cases he : Zhf ks b with
            | true => rw [he] at h; cases h
            | false =>
              rw [he] at h
              simp only [cond_false] at h
              cases hc : (Nat.beq y0.cells.length n && Nat.ble (k + n) x0.cells.length && (V.d y0).okb && (x0.isAgg || !y0.isAgg)) with
              | false => rw [hc] at h; cases h
              | true =>
                rw [hc] at h
                simp only [cond_true, Option.some.injEq, Prod.mk.injEq] at h
                obtain ⟨rfl, rfl, _⟩ := h
                cases ks with
                | nil => exact .inr ⟨_, _, .arr sz xs, rfl, by rw [← ZW]; exact hb, rfl, by rw [ZbM]; simp⟩
                | cons a r => simp [ZpW] at hu
          · cases h
      · cases h
    · cases h
  · simp only [opE] at h
    unfold Zjf at h
    split at h
    · cases h
    · rename_i ys hy
      cases hz : Zir sz ys 0 with
      | false => rw [hz] at h; cases h
      | true =>
        rw [hz] at h
        simp only [cond_true] at h
        split at h
        · cases hl : Nat.ble ys.length lim with
          | false => rw [hl] at h; cases h
          | true => rw [hl] at h; cases h
        · rename_i b sz' _
          split at h
          · rename_i sz'' xs hb
            cases hc : (Nat.beq sz sz' && Nat.beq sz sz'') with
            | false => rw [hc] at h; cases h
            | true =>
              rw [hc] at h
              simp only [cond_true] at h
              cases hl : Nat.ble (xs.length + ys.length) lim with
              | false => rw [hl] at h; cases h
              | true => rw [hl] at h; cases h
          · cases h
        · rename_i b sz' o len _
          split at h
          · rename_i sz'' xs hb
            cases hc : (Nat.beq sz sz' && Nat.beq sz sz'' && Nat.ble (o + len + ys.length) xs.length) with
            | false => rw [hc] at h; cases h
            | true =>
              rw [hc] at h
              simp only [cond_true, Option.some.injEq, Prod.mk.injEq] at h
              obtain ⟨rfl, rfl, _⟩ := h
              simp only [Bool.and_eq_true, Nat.ble_eq] at hc
              obtain ⟨⟨c1, c2⟩, c3⟩ := hc
              refine .inr ⟨_, _, .arr sz'' xs, rfl, by rw [← ZW]; exact hb, (Nat.eq_of_beq_eq_true c2).symm, ?_⟩
              simp only [List.length_append, List.length_take, List.length_drop]
              omega
          · cases h
        · cases h
theorem ZkF {e : Env} {H : Zm} {o : Op1} {up : List (Nat × Blk)} {nw : List Blk} (h : Znd e H o up nw = true) : ZmV o.eff up nw = true ∧ Zxe e H up o.op = true := by
  unfold Znd at h
  rwa [Bool.and_eq_true] at h
def Zcm.len (t : Zcm) (j : Nat) : Nat := (t.HH j).length
theorem Zle {p : Op1} : (ZaA p ≤ 2 ↔ (p.eff = 0 ∨ p.eff = 1)) ∧ (ZaA p = 3 ↔ p.eff = 3) := by
  unfold ZaA
  split
  · rename_i h
    rw [h]
    cases Zr5 p.op <;> cases Zr3 p.op <;> simp
  · rename_i h; rw [h]; simp
  · rename_i h; rw [h]; simp
  · rename_i h0 h1 h3
    constructor
    · simp; exact ⟨h0, h1⟩
    · simp; exact h3
theorem Zo5 {p : Op1} (h : p.eff = 1) : ZaA p = 1 := by unfold ZaA; simp only [h]
theorem Zn0 {p : Op1} (h : ZaA p ≤ 1) : (ZaA p = 0 ∧ Zr5 p.op = true) ∨ (ZaA p = 1 ∧ Zr3 p.op = true ∧ p.eff ≠ 1) ∨ (ZaA p = 1 ∧ p.eff = 1) := by
  rcases (Zle (p := p)).1.1 (by omega) with h0 | h0
  · unfold ZaA at h ⊢
    rw [h0] at h ⊢
    cases h1 : Zr5 p.op <;> cases h2 : Zr3 p.op <;> simp_all
  · exact .inr (.inr ⟨Zo5 h0, h0⟩)
def Zyc : V → Option Nat
  | .ptr b _ => some b
  | .eptr b _ _ _ => some b
  | _ => none
theorem Zkq {H H' : Zm} {n : Nat} {ag : Bool} {x v : V} (h : ZcY H n ag x = some v) (hs : ∀ b, Zyc x = some b → ∀ blk, H[b]? = some blk → blk ≠ .dead → H'[b]? = some blk) : ZcY H' n ag x = some v := by
  cases x <;> try exact h
  · rename_i d
    cases d <;> exact h
  · rename_i b o
    unfold ZcY at h ⊢
    simp only [ZW] at h ⊢
    cases hb : H[b]? with
    | none => rw [hb] at h; cases h
    | some blk =>
      rw [hb] at h
      cases blk <;> try (cases h; done)
      rw [hs b rfl _ hb (by simp)]; exact h
  · rename_i b sz i k
    unfold ZcY at h ⊢
    simp only [ZW] at h ⊢
    cases hb : H[b]? with
    | none => rw [hb] at h; cases h
    | some blk =>
      rw [hb] at h
      cases blk <;> try (cases h; done)
      rw [hs b rfl _ hb (by simp)]; exact h
theorem ZrH {H : Zm} {n : Nat} {ag : Bool} {x v : V} {b : Nat} (h : ZcY H n ag x = some v) (hx : Zyc x = some b) : ∃ blk, H[b]? = some blk ∧ blk ≠ .dead := by
  cases x <;> try (cases hx; done)
  · rename_i b' o
    cases hx
    unfold ZcY at h
    simp only [ZW] at h
    cases hb : H[b]? with
    | none => rw [hb] at h; cases h
    | some blk =>
      rw [hb] at h
      cases blk <;> try (cases h; done)
      exact ⟨_, rfl, by simp⟩
  · rename_i b' sz i k
    cases hx
    unfold ZcY at h
    simp only [ZW] at h
    cases hb : H[b]? with
    | none => rw [hb] at h; cases h
    | some blk =>
      rw [hb] at h
      cases blk <;> try (cases h; done)
      exact ⟨_, rfl, by simp⟩
theorem Zp2 {e : Env} {H H' : Zm} {s : Nat} : ∀ {l : List Opd}, ZrZ e H H' l = true → Zs5 l s = true → ∃ i, ZcY H 1 false (e s) = some (.mp i) ∧ ZcY H' 1 false (e s) = some (.mp i)
  | [], _, hs => by cases hs
  | .c v :: l, h, hs => by
    simp only [ZrZ, Bool.and_eq_true] at h
    exact Zp2 (l := l) h.2 hs
  | .t i :: l, h, hs => by
    simp only [ZrZ, Bool.and_eq_true] at h
    simp only [Zs5, Bool.or_eq_true] at hs
    rcases hs with hs | hs
    · obtain rfl := Nat.eq_of_beq_eq_true hs
      have h1 := h.1
      change (match e i with
        | .ptr b o => (match ZcY H 1 false (.ptr b o), ZcY H' 1 false (.ptr b o) with | some (.mp i), some (.mp j) => Nat.beq i j | _, _ => false)
        | _ => false) = true at h1
      split at h1
      · rename_i b o hx
        rw [hx]
        split at h1
        · rename_i i1 j1 e1 e2
          rw [e1, e2, Nat.eq_of_beq_eq_true h1]
          exact ⟨_, rfl, rfl⟩
        · cases h1
      · cases h1
    · exact Zp2 (l := l) h.2 hs
section
variable {P : Program} {G : Zbt} {N : Nat} {Γ : Ctx} {cf : Zbe} {t : Zcm} {l : List Op1} {e : Env} {H : Zm} {e' : Env} {H' : Zm} {os : Array Oper} {B : Nat → Nat → Prop} {D : Nat → Bool}
theorem Zcm.OK.len_succ (ht : t.OK Γ cf [] l e H e' H') {j : Nat} (hj : j < l.length) : t.len (j + 1) = t.len j + (t.NW j).length := by
  unfold Zcm.len
  rw [ht.h j _ (List.getElem?_eq_getElem hj), List.length_append, Zi1]
theorem Zcm.OK.len_mono (ht : t.OK Γ cf [] l e H e' H') {a : Nat} : ∀ (b : Nat), a ≤ b → b ≤ l.length → t.len a ≤ t.len b := by
  intro b
  induction b with
  | zero => intro h _; have : a = 0 := by omega
            subst this; exact Nat.le_refl _
  | succ b ih =>
    intro h hb
    by_cases hab : a = b + 1
    · subst hab; exact Nat.le_refl _
    · have h1 := ih (by omega) (by omega)
      have h2 := ht.len_succ (j := b) (by omega)
      omega
theorem Zcm.OK.whose (ht : t.OK Γ cf [] l e H e' H') {a i : Nat} : ∀ (b : Nat), a ≤ b → b ≤ l.length → t.len a ≤ i → i < t.len b → ∃ j, a ≤ j ∧ j < b ∧ t.len j ≤ i ∧ i < t.len (j + 1) := by
  intro b
  induction b with
  | zero => intro h _ h1 h2; have : a = 0 := by omega
            subst this; omega
  | succ b ih =>
    intro h hb h1 h2
    by_cases hab : a = b + 1
    · subst hab; omega
    · by_cases hi : i < t.len b
      · obtain ⟨j, g1, g2, g3⟩ := ih (by omega) (by omega) h1 hi
        exact ⟨j, g1, by omega, g3⟩
      · exact ⟨b, by omega, by omega, by omega, h2⟩
theorem Zcm.OK.one (ht : t.OK Γ cf [] l e H e' H') {i j k : Nat} (hj : j < l.length) (hk : k < l.length) (h1 : t.len j ≤ i ∧ i < t.len (j + 1)) (h2 : t.len k ≤ i ∧ i < t.len (k + 1)) : j = k := by
  rcases Nat.lt_trichotomy j k with h | h | h
  · have := ht.len_mono (a := j + 1) k (by omega) (by omega); omega
  · exact h
  · have := ht.len_mono (a := k + 1) j (by omega) (by omega); omega
theorem Zcm.OK.noUp (ht : t.OK Γ cf [] l e H e' H') {j : Nat} {p : Op1} (hp : l[j]? = some p) (hc : ZaA p ≤ 2) : t.UP j = [] := by
  cases hw : t.W j with
  | false => exact (ht.n j p hp hw).2.1
  | true =>
    have := (ZkF (ht.y j p hp hw).2).1
    rcases (Zle (p := p)).1.1 hc with h | h
    · rw [h] at this; simpa [ZmV] using this
    · rw [h] at this
      simp only [ZmV, Bool.and_eq_true, List.isEmpty_iff] at this
      exact this.1
theorem Zcm.OK.noNew (ht : t.OK Γ cf [] l e H e' H') {j : Nat} {p : Op1} (hp : l[j]? = some p) (hc : ZaA p ≤ 1) : t.NW j = [] := by
  cases hw : t.W j with
  | false => exact (ht.n j p hp hw).2.2
  | true =>
    rcases Zn0 hc with h | h | h
    · exact ZpF (.inl h.2) (ht.y j p hp hw).1
    · exact ZpF (.inr h.2.1) (ht.y j p hp hw).1
    · have := (ZkF (ht.y j p hp hw).2).1
      rw [h.2] at this
      simp only [ZmV, Bool.and_eq_true, List.isEmpty_iff] at this
      exact this.2
theorem Zcm.OK.new2 (ht : t.OK Γ cf [] l e H e' H') {i j : Nat} {p : Op1} (hp : l[j]? = some p) (h : t.len j ≤ i ∧ i < t.len (j + 1)) : 2 ≤ ZaA p := by
  have hj := (List.getElem?_eq_some_iff.1 hp).1
  rcases Nat.lt_or_ge (ZaA p) 2 with h' | h'
  · have := ht.len_succ hj
    rw [ht.noNew hp (by omega)] at this
    simp at this
    omega
  · exact h'
theorem Zcm.OK.stay1 (ht : t.OK Γ cf [] l e H e' H') {j : Nat} {p : Op1} (hp : l[j]? = some p) (hc : ZaA p ≤ 2) : t.HH (j + 1) = t.HH j ++ t.NW j := by
  rw [ht.h j p hp, ht.noUp hp hc]; rfl
theorem Zcm.OK.stay (ht : t.OK Γ cf [] l e H e' H') {a : Nat} : ∀ (b : Nat), a ≤ b → b ≤ l.length → (∀ m p, a ≤ m → m < b → l[m]? = some p → ZaA p ≤ 2) → ∀ i, i < t.len a → (t.HH b)[i]? = (t.HH a)[i]? := by
  intro b
  induction b with
  | zero => intro h _ _ i _; have : a = 0 := by omega
            subst this; rfl
  | succ b ih =>
    intro h hb hc i hi
    by_cases hab : a = b + 1
    · subst hab; rfl
    · have hp : l[b]? = some (l[b]'(by omega)) := List.getElem?_eq_getElem (by omega)
      have hm := ht.len_mono (a := a) b (by omega) (by omega)
      rw [ht.stay1 hp (hc b _ (by omega) (by omega) hp), List.getElem?_append_left (by unfold Zcm.len at *; omega)]
      exact ih (by omega) (by omega) (fun m p h1 h2 => hc m p h1 (by omega)) i hi
theorem Zcm.OK.like1 (ht : t.OK Γ cf [] l e H e' H') (hk : Chk P G N os l B) {j : Nat} {p : Op1} (hp : l[j]? = some p) (hc : ZaA p ≤ 3) {i : Nat} (hi : i < t.len j) : ∃ x y, (t.HH j)[i]? = some x ∧ (t.HH (j + 1))[i]? = some y ∧ (x = y ∨ x.like y) := by
  have same : t.UP j = [] → ∃ x y, (t.HH j)[i]? = some x ∧ (t.HH (j + 1))[i]? = some y ∧ (x = y ∨ x.like y) := fun hu => by
    refine ⟨_, _, List.getElem?_eq_getElem hi, ?_, .inl rfl⟩
    rw [ht.h j p hp, hu]
    show (t.HH j ++ t.NW j)[i]? = _
    rw [List.getElem?_append_left hi]
    exact List.getElem?_eq_getElem hi
  rcases Nat.lt_or_ge (ZaA p) 3 with h | h
  · exact same (ht.noUp hp (by omega))
  · have he := (Zle (p := p)).2.1 (by omega)
    cases hw : t.W j with
    | false => exact same (ht.n j p hp hw).2.1
    | true =>
      obtain ⟨y1, y2⟩ := ht.y j p hp hw
      rw [hk.mask j p hp h] at y1
      have y2 := (ZkF y2).1
      rw [he] at y2
      have hs : (∃ n x y, p.op = .store n x y) ∨ ∃ sz x y, p.op = .append sz x y := by
        have := hk.eff3 j p hp
        unfold Zqs at this
        rw [he] at this
        cases hop : p.op <;> rw [hop] at this <;> first | (cases this; done) | exact .inl ⟨_, _, _, rfl⟩ | exact .inr ⟨_, _, _, rfl⟩
      obtain ⟨f1, f2⟩ := ZrI hs y1 y2
      rcases f2 with f2 | ⟨b, blk, old, f2, f3, f4⟩
      · exact same f2
      · by_cases hbi : b = i
        · subst hbi
          refine ⟨old, blk, f3, ?_, .inr f4⟩
          rw [ht.h j p hp, f1, f2]
          simp only [ZdE, List.append_nil, ZbM]
          rw [List.getElem?_set, if_pos rfl, if_pos (show b < (t.HH j).length from hi)]
        · refine ⟨_, _, List.getElem?_eq_getElem hi, ?_, .inl rfl⟩
          rw [ht.h j p hp, f1, f2]
          simp only [ZdE, List.append_nil, ZbM]
          rw [List.getElem?_set, if_neg hbi]
          exact List.getElem?_eq_getElem hi
theorem Zcm.OK.like (ht : t.OK Γ cf [] l e H e' H') (hk : Chk P G N os l B) {a : Nat} : ∀ (b : Nat), a ≤ b → b ≤ l.length → (∀ m p, a ≤ m → m < b → l[m]? = some p → ZaA p ≤ 3) → ∀ i, i < t.len a → ∃ x y, (t.HH a)[i]? = some x ∧ (t.HH b)[i]? = some y ∧ (x = y ∨ x.like y) := by
  intro b
  induction b with
  | zero => intro h _ _ i hi; have : a = 0 := by omega
            subst this; exact ⟨_, _, List.getElem?_eq_getElem hi, List.getElem?_eq_getElem hi, .inl rfl⟩
  | succ b ih =>
    intro h hb hc i hi
    by_cases hab : a = b + 1
    · subst hab; exact ⟨_, _, List.getElem?_eq_getElem hi, List.getElem?_eq_getElem hi, .inl rfl⟩
    · have hp : l[b]? = some (l[b]'(by omega)) := List.getElem?_eq_getElem (by omega)
      have hm := ht.len_mono (a := a) b (by omega) (by omega)
      obtain ⟨x, y, h1, h2, h3⟩ := ih (by omega) (by omega) (fun m p h1 h2 => hc m p h1 (by omega)) i hi
      obtain ⟨y', z, g1, g2, g3⟩ := ht.like1 hk hp (hc b _ (by omega) (by omega) hp) (i := i) (by omega)
      rw [h2] at g1
      cases g1
      refine ⟨x, z, h1, g2, ?_⟩
      rcases h3 with rfl | h3
      · exact g3
      · rcases g3 with rfl | g3
        · exact .inr h3
        · exact .inr (Blk.like_trans h3 g3)
theorem Zcm.OK.env0 (ht : t.OK Γ cf [] l e H e' H') {x : Nat} : ∀ (j : Nat), j ≤ l.length → (∀ i p, i < j → l[i]? = some p → p.dst ≠ some x) → t.E j x = e x := by
  intro j
  induction j with
  | zero => intro _ _; rw [ht.e0]
  | succ j ih =>
    intro hj hn
    have hp : l[j]? = some (l[j]'(by omega)) := List.getElem?_eq_getElem (by omega)
    rw [ht.e j _ hp]
    have h1 := hn j _ (by omega) hp
    have h2 := ih (by omega) (fun i p hi => hn i p (by omega))
    cases hd : (l[j]'(by omega)).dst with
    | none => exact h2
    | some d =>
      rw [hd] at h1
      show (bif Nat.beq d x then t.VV j else t.E j x) = e x
      have : Nat.beq d x = false := by
        cases hb : Nat.beq d x with
        | false => rfl
        | true => exact absurd (congrArg some (Nat.eq_of_beq_eq_true hb)) h1
      rw [this]; exact h2
theorem Zcm.OK.envd (ht : t.OK Γ cf [] l e H e' H') (hk : Chk P G N os l B) {i x : Nat} {p : Op1} (hp : l[i]? = some p) (hd : p.dst = some x) : ∀ (j : Nat), i < j → j ≤ l.length → t.E j x = t.VV i := by
  intro j
  induction j with
  | zero => intro h; omega
  | succ j ih =>
    intro hij hj
    have hq : l[j]? = some (l[j]'(by omega)) := List.getElem?_eq_getElem (by omega)
    rw [ht.e j _ hq]
    by_cases h : i = j
    · subst h
      rw [hp] at hq
      cases hq
      rw [hd]
      show (bif Nat.beq x x then t.VV i else _) = _
      rw [Nat.beq_refl]; rfl
    · have h2 := ih (by omega) (by omega)
      cases hd' : (l[j]'(by omega)).dst with
      | none => exact h2
      | some d =>
        show (bif Nat.beq d x then t.VV j else t.E j x) = _
        have : Nat.beq d x = false := by
          cases hb : Nat.beq d x with
          | false => rfl
          | true =>
            obtain rfl := Nat.eq_of_beq_eq_true hb
            exact absurd (hk.dst i j p _ d hp hq hd hd') h
        rw [this]; exact h2
theorem Zcm.OK.envs (ht : t.OK Γ cf [] l e H e' H') (hk : Chk P G N os l B) {j x : Nat} {q : Op1} (hq : l[j]? = some q) (he : q.eff = 1) (hx : x ∈ Zc3 q) : ∀ (k : Nat), j ≤ k → k ≤ l.length → t.E k x = t.E j x := by
  intro k
  induction k with
  | zero => intro h _; have : j = 0 := by omega
            subst this; rfl
  | succ k ih =>
    intro hjk hk'
    by_cases h : j = k + 1
    · subst h; rfl
    · have hp : l[k]? = some (l[k]'(by omega)) := List.getElem?_eq_getElem (by omega)
      have h2 := ih (by omega) (by omega)
      rw [ht.e k _ hp]
      cases hd : (l[k]'(by omega)).dst with
      | none => exact h2
      | some d =>
        show (bif Nat.beq d x then t.VV k else t.E k x) = _
        have : Nat.beq d x = false := by
          cases hb : Nat.beq d x with
          | false => rfl
          | true =>
            obtain rfl := Nat.eq_of_beq_eq_true hb
            exact absurd hx (hk.stay k j _ q d hp hq he (by omega) hd)
        rw [this]; exact h2
theorem Chk.lt (hk : Chk P G N os l B) : ∀ (j i : Nat), j < l.length → B i j → i < j := by
  intro j
  induction j using Nat.strongRecOn with
  | ind j ih =>
    intro i hj hb
    obtain ⟨k, h1, h2⟩ := hk.bef j _ i (Array.getElem?_eq_getElem (by rw [hk.len]; exact hj)) hb
    have h3 := hk.pre j _ (Array.getElem?_eq_getElem (by rw [hk.len]; exact hj)) k h1
    rcases h2 with rfl | ⟨h4, h5⟩
    · exact h3
    · have := ih k h4 i (by omega) h5; omega
def Zl1 (os : Array Oper) (D : Nat → Bool) : Prop := ∀ (j : Nat) o, os[j]? = some o → D j = true → ∀ i ∈ Zk5 o, D i = true
theorem Chk.down (hk : Chk P G N os l B) (hD : Zl1 os D) : ∀ (j i : Nat) o, os[j]? = some o → (∀ k ∈ Zk5 o, D k = true) → B i j → D i = true := by
  intro j
  induction j using Nat.strongRecOn with
  | ind j ih =>
    intro i o ho hp hb
    obtain ⟨k, h1, h2⟩ := hk.bef j o i ho hb
    rcases h2 with rfl | ⟨h4, h5⟩
    · exact hp _ h1
    · have hk' : k < os.size := by
        have := (Array.getElem?_eq_some_iff.1 ho).1; omega
      exact ih k h4 i _ (Array.getElem?_eq_getElem hk') (fun m hm => hD k _ (Array.getElem?_eq_getElem hk') (hp k h1) m hm) h5
theorem Chk.downD (hk : Chk P G N os l B) (hD : Zl1 os D) {i j : Nat} (hj : j < l.length) (h : D j = true) (hb : B i j) : D i = true :=
  hk.down hD j i _ (Array.getElem?_eq_getElem (by rw [hk.len]; exact hj)) (hD j _ (Array.getElem?_eq_getElem (by rw [hk.len]; exact hj)) h) hb
theorem Chk.order (hk : Chk P G N os l B) {i j : Nat} {p q : Op1} (hp : l[i]? = some p) (hq : l[j]? = some q) (hc : 3 ≤ ZaA p) (hc2 : 2 ≤ ZaA q) : i = j ∨ (i < j ∧ B i j) ∨ (j < i ∧ B j i) := by
  have hi := (List.getElem?_eq_some_iff.1 hp).1
  have hj := (List.getElem?_eq_some_iff.1 hq).1
  rcases hk.pair i j p q hp hq hc with h | h | h | h | h | h
  · exact .inl h
  · exact .inr (.inl ⟨hk.lt j i hj h, h⟩)
  · exact .inr (.inr ⟨hk.lt i j hi h, h⟩)
  · omega
  · omega
  · have := Zo5 h.1; omega
def hid (t : Zcm) (D : Nat → Bool) (K i : Nat) : Bool := (List.range K).any fun j => !(D j) && (decide (t.len j ≤ i) && decide (i < t.len (j + 1)))
def Zhb (t : Zcm) (D : Nat → Bool) (K : Nat) : Zm := (t.HH K).mapIdx fun i b => bif hid t D K i then .dead else b
theorem ZoV {K i : Nat} : hid t D K i = true ↔ ∃ j, j < K ∧ D j = false ∧ t.len j ≤ i ∧ i < t.len (j + 1) := by
  unfold hid
  simp [List.any_eq_true]
theorem ZhT {K i : Nat} : hid t D K i = false ↔ ∀ j, j < K → t.len j ≤ i → i < t.len (j + 1) → D j = true := by
  rw [← Bool.not_eq_true, ZoV]
  constructor
  · intro h j h1 h2 h3
    cases hd : D j with
    | true => rfl
    | false => exact absurd ⟨j, h1, hd, h2, h3⟩ h
  · rintro h ⟨j, h1, h2, h3, h4⟩
    rw [h j h1 h3 h4] at h2; cases h2
theorem Zi8 {K i : Nat} : (Zhb t D K)[i]? = ((t.HH K)[i]?).map fun b => bif hid t D K i then .dead else b := by
  unfold Zhb
  rw [List.getElem?_mapIdx]
theorem Zqm {K i : Nat} {blk : Blk} (h : (Zhb t D K)[i]? = some blk) (hd : blk ≠ .dead) : (t.HH K)[i]? = some blk ∧ hid t D K i = false := by
  rw [Zi8] at h
  cases hb : (t.HH K)[i]? with
  | none => rw [hb] at h; cases h
  | some b =>
    rw [hb] at h
    simp only [Option.map_some, Option.some.injEq] at h
    cases hh : hid t D K i with
    | true => rw [hh] at h; exact absurd h.symm hd
    | false => rw [hh] at h; exact ⟨by rw [← h]; rfl, rfl⟩
theorem ZfB {K i : Nat} (h : hid t D K i = false) : (Zhb t D K)[i]? = (t.HH K)[i]? := by
  rw [Zi8, h]
  cases (t.HH K)[i]? <;> rfl
theorem Zsu (l : List Op1) (a : Nat) (ha : a ≤ l.length) : ∃ K, a ≤ K ∧ K ≤ l.length ∧ (∀ m p, a ≤ m → m < K → l[m]? = some p → ZaA p ≤ 2) ∧ (K < l.length → ∃ p, l[K]? = some p ∧ 3 ≤ ZaA p) := by
  have key : ∀ n a, l.length - a = n → a ≤ l.length → ∃ K, a ≤ K ∧ K ≤ l.length ∧ (∀ m p, a ≤ m → m < K → l[m]? = some p → ZaA p ≤ 2) ∧ (K < l.length → ∃ p, l[K]? = some p ∧ 3 ≤ ZaA p) := by
    intro n
    induction n with
    | zero => intro a h1 h2; exact ⟨a, Nat.le_refl _, h2, fun m p h3 h4 => by omega, fun h => by omega⟩
    | succ n ih =>
      intro a h1 h2
      have hp : l[a]? = some (l[a]'(by omega)) := List.getElem?_eq_getElem (by omega)
      rcases Nat.lt_or_ge (ZaA (l[a]'(by omega))) 3 with h | h
      · obtain ⟨K, g1, g2, g3, g4⟩ := ih (a + 1) (by omega) (by omega)
        refine ⟨K, by omega, g2, fun m p h3 h4 h5 => ?_, g4⟩
        by_cases hm : m = a
        · subst hm; rw [hp] at h5; cases h5; omega
        · exact g3 m p (by omega) h4 h5
      · exact ⟨a, Nat.le_refl _, h2, fun m p h3 h4 => by omega, fun _ => ⟨_, hp, h⟩⟩
  exact key _ a rfl ha
end
end Go.Proofs.YtnmbdjkbaihicaaDoorE
namespace Go.Proofs.YtnmbdjkbaihicaaDoorE
open Go
set_option linter.unusedVariables false
set_option linter.unusedSimpArgs false
theorem ZpL {e e' : Env} : ∀ (g : Option (Nat × Bool)), (∀ s b, g = some (s, b) → e s = e' s) → ZeW e g = ZeW e' g
 | none, _ => rfl
 | some (s, b), h => by simp only [ZeW, h s b rfl]
section
variable {P : Program} {G : Zbt} {N : Nat} {Γ : Ctx} {cf : Zbe} {t : Zcm} {l : List Op1} {e : Env} {H : Zm} {e' : Env} {H' : Zm} {os : Array Oper} {B : Nat → Nat → Prop} {Rf : RP} {wf : World}
structure ZrW (P : Program) (N : Nat) (t : Zcm) (l : List Op1) (os : Array Oper) (e : Env) (H : Zm) (Rf : RP) (wf : World) (D : Nat → Bool) (a : Act) (w : World) : Prop where
 closed : Zl1 os D
 ex : ∃ K R env, K ≤ l.length ∧ (∀ m p, l[m]? = some p → m < K → 3 ≤ ZaA p → D m = true) ∧ (K < l.length → ∃ p, l[K]? = some p ∧ 3 ≤ ZaA p ∧ D K = false) ∧
  Ext Rf wf R w ∧ R.OK w ∧ R.H = Zhb t D K ∧ (∀ i, H.length ≤ i → (∀ j, j < l.length → D j = true → ¬ (t.len j ≤ i ∧ i < t.len (j + 1))) → R.M i = none) ∧ Zgg R w env a ∧
  (∀ j p d, l[j]? = some p → p.dst = some d → D j = true → env d = t.VV j) ∧ (∀ d, (∀ j p, l[j]? = some p → p.dst = some d → D j = false) → env d = e d)
 tm : N ≤ a.tmps.size
 df : a.defers = []
theorem Zt5 (ht : t.OK Γ cf [] l e H e' H') {D : Nat → Bool} {s : Nat} {R : RP} {w : World} (hs : s ≤ l.length) (ok : R.OK w) (hH : R.H = t.HH s) (hb : ∀ m p, l[m]? = some p → m < s → 2 ≤ ZaA p → D m = true) (ha : ∀ m p, l[m]? = some p → s ≤ m → 2 ≤ ZaA p → D m = false) :
  ∃ K, K ≤ l.length ∧ (∀ m p, l[m]? = some p → m < K → 3 ≤ ZaA p → D m = true) ∧ (K < l.length → ∃ p, l[K]? = some p ∧ 3 ≤ ZaA p ∧ D K = false) ∧ Ext R w { R with H := Zhb t D K } w ∧ RP.OK { R with H := Zhb t D K } w := by
 obtain ⟨K, h1, h2, h3, h4⟩ := Zsu l s hs
 have live : ∀ (i : Nat) blk, (Zhb t D K)[i]? = some blk → blk ≠ .dead → R.H[i]? = some blk := fun i blk h hd => by
  obtain ⟨g1, g2⟩ := Zqm h hd
  rw [ZhT] at g2
  have hiK : i < t.len K := (List.getElem?_eq_some_iff.1 g1).1
  by_cases hi : i < t.len s
  ·rw [hH, ← ht.stay K h1 h2 h3 i hi]; exact g1
  ·obtain ⟨j, f1, f2, f3, f4⟩ := ht.whose K h1 h2 (by omega) hiK
   have hp : l[j]? = some (l[j]'(by omega)) := List.getElem?_eq_getElem (by omega)
   have d1 := ha j _ hp f1 (ht.new2 hp ⟨f3, f4⟩)
   rw [g2 j f2 f3 f4] at d1; cases d1
 refine ⟨K, h2, fun m p hp hm hc => ?_, fun hK => ?_, Ext.kill live, ok.kill live⟩
 ·rcases Nat.lt_or_ge m s with h | h
  ·exact hb m p hp h (by omega)
  ·have := h3 m p h hm hp; omega
 ·obtain ⟨p, f1, f2⟩ := h4 hK
  exact ⟨p, f1, f2, ha K p f1 h1 (by omega)⟩
def upd (D : Nat → Bool) (j : Nat) : Nat → Bool := fun i => if i = j then true else D i
theorem step (c : Zkc P G cf Rf wf) (hlo : Rf.H.length ≤ H.length) (ht : t.OK Γ cf [] l e H e' H') (hk : Chk P G N os l B) {Q : Exit → Act → World → Prop} {D : Nat → Bool} {a : Act} {w : World} (s : ZrW P N t l os e H Rf wf D a w) {j : Nat} {o : Oper} (ho : os[j]? = some o) (hDj : D j = false) (hpre : ∀ i ∈ Zk5 o, D i = true) :
  wpOp P os Q j (fun a' w' => ZrW P N t l os e H Rf wf (upd D j) a' w') a w := by
 obtain ⟨K, R, env, hK, hKd, hKn, x, ok, hH, hM, hE, hV, hO⟩ := s.ex
 have hjl : j < l.length := by rw [← hk.len]; exact (Array.getElem?_eq_some_iff.1 ho).1
 obtain ⟨p, hp⟩ : ∃ p, l[j]? = some p := ⟨_, List.getElem?_eq_getElem hjl⟩
 have hoper := hk.oper j o p ho hp
 simp only [Zmm, Bool.and_eq_true] at hoper
 obtain ⟨k1, k2, k3⟩ := hoper
 have down : ∀ i, B i j → D i = true := fun i hb => hk.down s.closed j i o ho hpre hb
 have downD : ∀ i k, k < l.length → D k = true → B i k → D i = true := fun i k h1 h2 h3 => hk.downD s.closed h1 h2 h3
 have slot : ∀ d, d ∈ Zc3 p → env d = t.E j d := fun d hd => by
  by_cases hx : ∃ (i : Nat) (q : Op1), l[i]? = some q ∧ q.dst = some d
  ·obtain ⟨i, q, hq, hqd⟩ := hx
   have old : j ≤ i → D i = false → env d = t.E j d := fun hji hDi => by
    rw [hO d fun i' q' hq' hqd' => by rw [hk.dst i' i q' q d hq' hq hqd' hqd]; exact hDi, ht.env0 j (by omega) fun i' q' hi' hq' hqd' => by
     have := hk.dst i' i q' q d hq' hq hqd' hqd; omega]
   rcases hk.reads i j q p d hq hp hqd hd with hb | hb | hb
   ·rw [hV i q d hq hqd (down i hb), ht.envd hk hq hqd j (hk.lt j i hjl hb) (by omega)]
   ·have hi := (List.getElem?_eq_some_iff.1 hq).1
    refine old (Nat.le_of_lt (hk.lt i j hi hb)) ?_
    cases hDi : D i with
    | false => rfl
    | true => have := downD j i hi hDi hb; rw [hDj] at this; cases this
   ·subst hb; exact old (Nat.le_refl _) hDj
  ·have hn : ∀ (i : Nat) (q : Op1), l[i]? = some q → q.dst ≠ some d := fun i q hq hqd => hx ⟨i, q, hq, hqd⟩
   rw [hO d fun i q hq hqd => absurd hqd (hn i q hq), ht.env0 j (by omega) fun i q _ hq => hn i q hq]
 have hg : ZeW env p.guard = some (t.W j) := by
  rw [← ht.w j p hp]
  refine ZpL _ fun s' b hs => slot s' ?_
  unfold Zc3
  rw [hs]; simp
 have hwant := ZpK (a := a) hE k2 hg
 have hop : ∀ nid Hm, opE Γ cf env nid Hm p.op = opE Γ cf (t.E j) nid Hm p.op := fun nid Hm => by
  refine ZrU _ fun y hy => ?_
  cases y with
  | c v => rfl
  | t i =>
   refine slot i ?_
   unfold Zc3
   exact List.mem_append_left _ (List.mem_filterMap.2 ⟨.t i, hy, rfl⟩)
 have closed' : Zl1 os (upd D j) := fun k o' hk' hd i hi => by
  unfold upd at hd ⊢
  by_cases hik : i = j
  ·rw [if_pos hik]
  ·rw [if_neg hik]
   by_cases hkj : k = j
   ·subst hkj; rw [ho] at hk'; cases hk'; exact hpre i hi
   ·rw [if_neg hkj] at hd; exact s.closed k o' hk' hd i hi
 have fin : ∀ (K' : Nat) (R' : RP) (u : Value) (w' : World), K' ≤ l.length → (∀ m p, l[m]? = some p → m < K' → 3 ≤ ZaA p → upd D j m = true) → (K' < l.length → ∃ p, l[K']? = some p ∧ 3 ≤ ZaA p ∧ upd D j K' = false) →
   Ext R w R' w' → R'.OK w' → R'.H = Zhb t (upd D j) K' → (∀ i, R.M i = none → ¬ (t.len j ≤ i ∧ i < t.len (j + 1)) → R'.M i = none) → ZaR R' w' (t.VV j) u → ZrW P N t l os e H Rf wf (upd D j) (a.put o.dst u) w' := by
  intro K' R' u w' hK' hKd' hKn' x' ok' hH' hM' hv
  refine ⟨closed', ⟨K', R', Zm7 env p.dst (t.VV j), hK', hKd', hKn', x.trans x', ok', hH', fun i hi hni => ?_, Zow (x'.envOK ok.b01 hE) k1 s.tm hv, fun i q d hq hqd hd => ?_, fun d hd => ?_⟩, by rw [Zp4]; exact s.tm, by rw [ZqB]; exact s.df⟩
  ·refine hM' i (hM i hi fun m hm hd => hni m hm ?_) (hni j hjl ?_)
   ·unfold upd; split
    ·rfl
    ·exact hd
   ·unfold upd; rw [if_pos rfl]
  ·cases hpd : p.dst with
   | none =>
    show env d = _
    have hij : i ≠ j := fun h => by subst h; rw [hp] at hq; cases hq; rw [hpd] at hqd; cases hqd
    refine hV i q d hq hqd ?_
    unfold upd at hd; rw [if_neg hij] at hd; exact hd
   | some d' =>
    show (bif Nat.beq d' d then t.VV j else env d) = _
    cases hb : Nat.beq d' d with
    | true =>
     obtain rfl := Nat.eq_of_beq_eq_true hb
     obtain rfl := hk.dst i j q p d' hq hp hqd hpd
     rfl
    | false =>
     have hij : i ≠ j := fun h => by
      subst h; rw [hp] at hq; cases hq; rw [hpd] at hqd; cases hqd; rw [Nat.beq_refl] at hb; cases hb
     refine hV i q d hq hqd ?_
     unfold upd at hd; rw [if_neg hij] at hd; exact hd
  ·have h0 : env d = e d := hO d fun i q hq hqd => by
    have := hd i q hq hqd
    unfold upd at this
    by_cases hij : i = j
    ·rw [if_pos hij] at this; cases this
    ·rw [if_neg hij] at this; exact this
   cases hpd : p.dst with
   | none => exact h0
   | some d' =>
    show (bif Nat.beq d' d then t.VV j else env d) = _
    cases hb : Nat.beq d' d with
    | false => exact h0
    | true =>
     obtain rfl := Nat.eq_of_beq_eq_true hb
     have := hd j p hp hpd
     unfold upd at this; rw [if_pos rfl] at this; cases this
 have hlen := ht.len_succ hjl
 have own : ∀ i m, m < l.length → (t.len m ≤ i ∧ i < t.len (m + 1)) → (t.len j ≤ i ∧ i < t.len (j + 1)) → m = j := fun i m hm h1 h2 => ht.one hm hjl h1 h2
 have base : H.length ≤ t.len j := by
  have := ht.len_mono (a := 0) j (by omega) (by omega)
  unfold Zcm.len at this ⊢; rw [ht.h0] at this; exact this
 have free : ∀ i, t.len j ≤ i → i < t.len j + (t.NW j).length → R.M i = none := fun i h1 h2 => hM i (by omega) fun m hm hd h => by
  have := own i m hm h ⟨h1, by omega⟩
  subst this; rw [hDj] at hd; cases hd
 rcases Nat.lt_or_ge (ZaA p) 3 with hc | hc
 ·
  have hKd' : ∀ m p, l[m]? = some p → m < K → 3 ≤ ZaA p → upd D j m = true := fun m p' h1 h2 h3 => by
   unfold upd; split
   ·rfl
   ·exact hKd m p' h1 h2 h3
  have hKn' : K < l.length → ∃ p, l[K]? = some p ∧ 3 ≤ ZaA p ∧ upd D j K = false := fun h => by
   obtain ⟨q, h1, h2, h3⟩ := hKn h
   refine ⟨q, h1, h2, ?_⟩
   unfold upd; rw [if_neg (fun h => by subst h; rw [hp] at h1; cases h1; omega)]; exact h3
  have two : 2 ≤ ZaA p → j < K ∧ ∀ m q, j ≤ m → m < K → l[m]? = some q → ZaA q ≤ 2 := fun h2 => by
   constructor
   ·rcases Nat.lt_or_ge j K with h | h
    ·exact h
    ·obtain ⟨q, g1, g2, g3⟩ := hKn (by omega)
     rcases hk.order g1 hp g2 h2 with f | f | f
     ·subst f; rw [hp] at g1; cases g1; omega
     ·rw [down K f.2] at g3; cases g3
     ·omega
   ·intro m q h3 h4 hq
    rcases Nat.lt_or_ge (ZaA q) 3 with h | h
    ·omega
    ·rcases hk.order hq hp h h2 with f | f | f
     ·subst f; rw [hp] at hq; cases hq; omega
     ·omega
     ·have := downD j m (by omega) (hKd m q hq h4 h) f.2
      rw [hDj] at this; cases this
  have stg : ∀ i, (Zhb t (upd D j) K)[i]? = if t.len j ≤ i ∧ i < t.len j + (t.NW j).length then (t.NW j)[i - t.len j]? else (Zhb t D K)[i]? := fun i => by
   by_cases hi : t.len j ≤ i ∧ i < t.len j + (t.NW j).length
   ·rw [if_pos hi]
    have h2 := ht.new2 hp (i := i) ⟨hi.1, by omega⟩
    obtain ⟨t1, t2⟩ := two h2
    rw [ZfB]
    ·rw [ht.stay (a := j + 1) K (by omega) hK (fun m q h3 h4 hq => t2 m q (by omega) h4 hq) i (by omega), ht.stay1 hp (by omega), List.getElem?_append_right hi.1]
     rfl
    ·rw [ZhT]
     intro m hm h3 h4
     have := own i m (by omega) ⟨h3, h4⟩ ⟨hi.1, by omega⟩
     unfold upd; rw [if_pos this]
   ·rw [if_neg hi, Zi8, Zi8]
    have : hid t (upd D j) K i = hid t D K i := by
     rw [Bool.eq_iff_iff, ZoV, ZoV]
     constructor
     ·rintro ⟨m, h1, h2, h3⟩
      unfold upd at h2
      by_cases hm : m = j
      ·rw [if_pos hm] at h2; cases h2
      ·rw [if_neg hm] at h2; exact ⟨m, h1, h2, h3⟩
     ·rintro ⟨m, h1, h2, h3, h4⟩
      have hm : m ≠ j := fun h => by subst h; omega
      exact ⟨m, h1, by unfold upd; rw [if_neg hm]; exact h2, h3, h4⟩
    rw [this]
  have hpl : t.UP j = [] := ht.noUp hp (by omega)
  unfold wpOp
  simp only [ho]
  cases hw : t.W j with
  | false =>
   rw [hw] at hwant
   rw [hwant]
   simp only [Bool.false_eq_true, if_false]
   obtain ⟨n1, n2, n3⟩ := ht.n j p hp hw
   refine fin K R undef w hK hKd' hKn' (Ext.refl R w) ok ?_ (fun i h _ => h) (by rw [n1]; exact ZmC)
   rw [hH]
   apply List.ext_getElem?
   intro i
   rw [stg i, n3, if_neg (by rintro ⟨h1, h2⟩; simp at h2; omega)]
  | true =>
   rw [hw] at hwant
   rw [hwant]
   simp only [if_true]
   obtain ⟨y1, y2⟩ := ht.y j p hp hw
   rw [hpl] at y1
   have see : ZaA p ≤ 2 → ∀ i blk, (Zfu (t.HH j) ([] ++ t.pos j) p.mask)[i]? = some blk → blk ≠ .dead → (t.HH j)[i]? = some blk ∧ ∀ m, m < j → t.len m ≤ i → i < t.len (m + 1) → D m = true := fun _ i blk h hd => by
    obtain ⟨h1, h2⟩ := Zlg _ _ _ i blk h hd
    refine ⟨h1, fun m hm h3 h4 => ?_⟩
    have hq : l[m]? = some (l[m]'(by omega)) := List.getElem?_eq_getElem (by omega)
    rcases hk.early m j _ p hq hp hm with f | f | f
    ·omega
    ·exact down m f
    ·have h5 := h2 m f (t.len m) (t.NW m).length (by simp [Zcm.pos, hm, Zcm.len])
     have := ht.len_succ (j := m) (by omega)
     omega
   have hHm : ∃ Hm, (∀ b blk, nth Hm b = some blk → blk ≠ .dead → nth R.H b = some blk) ∧ opE Γ cf env (t.len j) Hm p.op = some (t.VV j, [], t.NW j) := by
    rcases Nat.lt_or_ge (ZaA p) 2 with h2 | h2
    ·rcases Zn0 (p := p) (by omega) with ⟨_, h0⟩ | ⟨h01, h1, hne⟩ | ⟨h01, he1⟩
     ·refine ⟨[], fun b blk hb => by simp [nth] at hb, ?_⟩
      rw [hop, Zvf (nid' := (t.HH j).length) (H' := Zfu (t.HH j) ([] ++ t.pos j) p.mask) h0]; exact y1
     ·refine ⟨R.H, fun b blk hb _ => hb, ?_⟩
      rw [hop]
      refine Zum (H := Zfu (t.HH j) ([] ++ t.pos j) p.mask) (fun b blk hb hd => ?_) h1 y1
      rw [ZW] at hb
      obtain ⟨g1, g2⟩ := see (by omega) b blk hb hd
      have hbj : b < t.len j := (List.getElem?_eq_some_iff.1 g1).1
      have hbK : b < t.len K := by
       rcases Nat.lt_or_ge j K with h | h
       ·have := ht.len_mono (a := j) K (by omega) hK; omega
       ·by_cases hb0 : b < t.len 0
        ·have := ht.len_mono (a := 0) K (by omega) hK; omega
        ·obtain ⟨m, _, f2, f3, f4⟩ := ht.whose (a := 0) j (by omega) (by omega) (by omega) hbj
         have hdm := g2 m f2 f3 f4
         have hq : l[m]? = some (l[m]'(by omega)) := List.getElem?_eq_getElem (by omega)
         have hmK : m < K := by
          rcases Nat.lt_or_ge m K with h' | h'
          ·exact h'
          ·obtain ⟨q, q1, q2, q3⟩ := hKn (by omega)
           rcases hk.order q1 hq q2 (ht.new2 hq ⟨f3, f4⟩) with f | f | f
           ·subst f; rw [hdm] at q3; cases q3
           ·rw [downD K m (by omega) hdm f.2] at q3; cases q3
           ·omega
         have := ht.len_mono (a := m + 1) K (by omega) hK; omega
      have hhid : hid t D K b = false := by
       rw [ZhT]
       intro m hm h3 h4
       rcases Nat.lt_or_ge m j with h | h
       ·exact g2 m h h3 h4
       ·have := ht.len_mono (a := j) m h (by omega); omega
      rw [ZW, hH, ZfB hhid]
      have three : ∀ m q, l[m]? = some q → (j ≤ m ∧ m < K ∨ K ≤ m ∧ m < j) → ZaA q ≤ 3 := fun m q hq hm => by
       rcases Nat.lt_or_ge (ZaA q) 3 with h | h
       ·omega
       ·rcases hk.pair m j q p hq hp h with f | f | f | f | f | f
        ·subst f; rw [hp] at hq; cases hq; omega
        ·rcases hm with hm | hm
         ·have := hk.lt j m hjl f; omega
         ·have hdm := down m f
          obtain ⟨q', q1, q2, q3⟩ := hKn (by omega)
          rcases hk.order q1 hq q2 (by omega) with g | g | g
          ·subst g; rw [hdm] at q3; cases q3
          ·rw [downD K m (by omega) hdm g.2] at q3; cases q3
          ·omega
        ·rcases hm with hm | hm
         ·have := downD j m (by omega) (hKd m q hq hm.2 h) f
          rw [hDj] at this; cases this
         ·have := hk.lt m j (by omega) f; omega
        ·omega
        ·omega
        ·exact absurd f.1 hne
      rcases Nat.le_total j K with h | h
      ·obtain ⟨x1, y1', z1, z2, z3⟩ := ht.like hk (a := j) K h hK (fun m q h3 h4 hq => three m q hq (.inl ⟨h3, h4⟩)) b hbj
       rw [g1] at z1; cases z1
       exact ⟨y1', z2, z3.elim (fun h => h ▸ Blk.like_refl hd) id⟩
      ·obtain ⟨x1, y1', z1, z2, z3⟩ := ht.like hk (a := K) j h (by omega) (fun m q h3 h4 hq => three m q hq (.inr ⟨h3, h4⟩)) b hbK
       rw [g1] at z2; cases z2
       exact ⟨x1, z1, z3.elim (fun h => by subst h; exact Blk.like_refl hd) Blk.like_symm⟩
     ·
      obtain ⟨s', hops, hgd⟩ : ∃ s', p.op = .load 1 false (.t s') ∧ p.guard = none := by
       have := hk.eff1 j p hp
       unfold ZpV at this
       rw [he1] at this
       change (match p.op, p.guard with | .load 1 false (.t _), none => true | _, _ => false) = true at this
       split at this
       ·exact ⟨_, by assumption, by assumption⟩
       ·cases this
      have hsl : s' ∈ Zc3 p := by unfold Zc3; rw [hops]; simp [ZqR, ZtY]
      have hjK : j < K := by
       rcases Nat.lt_or_ge j K with h | h
       ·exact h
       ·obtain ⟨q, g1, g2, g3⟩ := hKn (by omega)
        rcases hk.pair K j q p g1 hp g2 with f | f | f | f | f | f
        ·subst f; rw [hp] at g1; cases g1; omega
        ·rw [down K f] at g3; cases g3
        ·have := hk.lt K j (by omega) f; omega
        ·omega
        ·exact absurd he1 f.2.2
        ·omega
      have ldE : ∀ (Hx : Zm) (k : Nat), opE Γ cf (t.E j) k Hx p.op = (match ZcY Hx 1 false (t.E j s') with | some v => ZcF v | none => none) := fun Hx k => by rw [hops]; rfl
      rw [ldE] at y1
      have hyl : ZcY (Zfu (t.HH j) ([] ++ t.pos j) p.mask) 1 false (t.E j s') = some (t.VV j) ∧ t.NW j = [] := by
       cases hl : ZcY (Zfu (t.HH j) ([] ++ t.pos j) p.mask) 1 false (t.E j s') with
       | none => rw [hl] at y1; cases y1
       | some v =>
        rw [hl] at y1
        obtain ⟨rfl, _, h3⟩ := Zah y1
        exact ⟨rfl, h3⟩
      obtain ⟨hyl, hnw⟩ := hyl
      have key : ∀ k, j ≤ k → k ≤ K → ZcY (t.HH k) 1 false (t.E j s') = some (t.VV j) := by
       intro k
       induction k with
       | zero =>
        intro h _
        have : j = 0 := by omega
        subst this
        exact Zkq hyl fun b _ blk hb hd => (see (by omega) b blk hb hd).1
       | succ k ih =>
        intro hjk hkK
        by_cases hjk' : j = k + 1
        ·subst hjk'
         exact Zkq hyl fun b _ blk hb hd => (see (by omega) b blk hb hd).1
        ·have ih' := ih (by omega) (by omega)
         have hq : l[k]? = some (l[k]'(by omega)) := List.getElem?_eq_getElem (by omega)
         have app : ∀ (Ha Hb : Zm), ZcY Ha 1 false (t.E j s') = some (t.VV j) → ZcY (Ha ++ Hb) 1 false (t.E j s') = some (t.VV j) := fun Ha Hb hl =>
          Zkq hl fun b _ blk hb _ => by rw [List.getElem?_append_left (List.getElem?_eq_some_iff.1 hb).1]; exact hb
         rcases Nat.lt_or_ge (ZaA (l[k]'(by omega))) 3 with h | h
         ·rw [ht.stay1 hq (by omega)]
          exact app _ _ ih'
         ·rcases hk.pair k j _ p hq hp h with f | f | f | f | f | f
          ·subst f
           rw [hp] at hq
           have hq' := Option.some.inj hq
           rw [← hq'] at h
           omega
          ·have := hk.lt j k hjl f; omega
          ·have := downD j k (by omega) (hKd k _ hq (by omega) h) f
           rw [hDj] at this; cases this
          ·omega
          ·exact absurd he1 f.2.2
          ·cases hwk : t.W k with
           | false =>
            obtain ⟨_, n2, n3⟩ := ht.n k _ hq hwk
            rw [ht.h k _ hq, n2, n3]
            exact app _ _ ih'
           | true =>
            have zc := (ZkF (ht.y k _ hq hwk).2).2
            have hkp := f.2.2
            unfold ZsQ at hkp
            rw [hops] at hkp
            split at hkp
            ·rename_i f' args chk x' y' s'' hopk hsx
             cases hsx
             rw [hopk] at zc
             obtain ⟨i0, q1, q2⟩ := Zp2 (show ZrZ (t.E k) (t.HH k) (ZdE (t.HH k) (t.UP k)) chk = true from zc) hkp
             rw [ht.envs hk hp he1 hsl k (by omega) (by omega)] at q1 q2
             rw [q1] at ih'
             rw [ht.h k _ hq]
             exact app _ _ (q2.trans ih')
            ·cases hkp
      refine ⟨R.H, fun b blk hb _ => hb, ?_⟩
      rw [hop, ldE]
      have : ZcY R.H 1 false (t.E j s') = some (t.VV j) := by
       refine Zkq (key K (by omega) (Nat.le_refl _)) fun b hb blk hbk hd => ?_
       obtain ⟨blk0, h5, h6⟩ := ZrH hyl hb
       obtain ⟨g1, g2⟩ := see (by omega) b blk0 h5 h6
       have hbj : b < t.len j := (List.getElem?_eq_some_iff.1 g1).1
       rw [hH, ZfB]
       ·exact hbk
       ·rw [ZhT]
        intro m hm h3 h4
        rcases Nat.lt_or_ge m j with h | h
        ·exact g2 m h h3 h4
        ·have := ht.len_mono (a := j) m h (by omega); omega
      rw [this, hnw]; rfl
    ·obtain ⟨t1, t2⟩ := two h2
     refine ⟨_, fun b blk hb hd => ?_, by rw [hop]; exact y1⟩
     rw [ZW] at hb
     obtain ⟨g1, g2⟩ := see (by omega) b blk hb hd
     have hbj : b < t.len j := (List.getElem?_eq_some_iff.1 g1).1
     rw [ZW, hH, ZfB, ht.stay K (by omega) hK t2 b hbj]
     ·exact g1
     ·rw [ZhT]
      intro m hm h3 h4
      rcases Nat.lt_or_ge m j with h | h
      ·exact g2 m h h3 h4
      ·have := ht.len_mono (a := j) m h (by omega); omega
   obtain ⟨Hm, hle, hop'⟩ := hHm
   have pre : Pre G R w env a Hm := ⟨ok, x.gok c.ok.b01 c.g, hE, hle⟩
   have hplaced : Zaa R.H [] (t.len j) (t.NW j) (Zhb t (upd D j) K) := fun i => by rw [stg i, hH]; rfl
   refine .inl ((Zs9 pre c.cf k3 hop' free hplaced).wp fun u w' hpost => ?_)
   obtain ⟨R', x', ok', hH', hv, hM'⟩ := hpost
   exact fin K R' u w' hK hKd' hKn' x' ok' hH' (fun i h1 h2 => hM' i h1 (by omega)) hv
 ·
  have hjK : j = K := by
   rcases Nat.lt_trichotomy j K with h | h | h
   ·rw [hKd j p hp h hc] at hDj; cases hDj
   ·exact h
   ·obtain ⟨q, g1, g2, g3⟩ := hKn (by omega)
    rcases hk.order g1 hp g2 (by omega) with f | f | f
    ·omega
    ·rw [down K f.2] at g3; cases g3
    ·omega
  subst hjK
  have below : ∀ m q, l[m]? = some q → m < j → 2 ≤ ZaA q → D m = true := fun m q hq hm h2 => by
   rcases hk.order hp hq hc h2 with f | f | f
   ·omega
   ·omega
   ·exact down m f.2
  have above : ∀ m q, l[m]? = some q → j < m → 2 ≤ ZaA q → D m = false := fun m q hq hm h2 => by
   cases hd : D m with
   | false => rfl
   | true =>
    rcases hk.order hp hq hc h2 with f | f | f
    ·omega
    ·have := downD j m (List.getElem?_eq_some_iff.1 hq).1 hd f.2
     rw [hDj] at this; cases this
    ·omega
  have full : Zhb t D j = t.HH j := by
   apply List.ext_getElem?
   intro i
   refine ZfB (ZhT.2 fun m hm h3 h4 => ?_)
   have hq : l[m]? = some (l[m]'(by omega)) := List.getElem?_eq_getElem (by omega)
   exact below m _ hq hm (ht.new2 hq ⟨h3, h4⟩)
  rw [full] at hH
  have go : ∀ (R' : RP) (u : Value) (w' : World), Ext R w R' w' → R'.OK w' → R'.H = t.HH (j + 1) → (∀ i, R.M i = none → ¬ (t.len j ≤ i ∧ i < t.len (j + 1)) → R'.M i = none) → ZaR R' w' (t.VV j) u → ZrW P N t l os e H Rf wf (upd D j) (a.put o.dst u) w' := by
   intro R' u w' x' ok' hH' hM' hv
   obtain ⟨K', g1, g2, g3, g4, g5⟩ := Zt5 ht (D := upd D j) (s := j + 1) (by omega) ok' hH' (fun m q hq hm h2 => by
    unfold upd
    by_cases hmj : m = j
    ·rw [if_pos hmj]
    ·rw [if_neg hmj]; exact below m q hq (by omega) h2) (fun m q hq hm h2 => by
    unfold upd; rw [if_neg (by omega)]; exact above m q hq (by omega) h2)
   exact fin K' _ u w' g1 g2 g3 (x'.trans g4) g5 rfl hM' (g4.denV ok'.b01 _ _ hv)
  unfold wpOp
  simp only [ho]
  cases hw : t.W j with
  | false =>
   rw [hw] at hwant
   rw [hwant]
   simp only [Bool.false_eq_true, if_false]
   obtain ⟨n1, n2, n3⟩ := ht.n j p hp hw
   refine go R undef w (Ext.refl R w) ok ?_ (fun i h _ => h) (by rw [n1]; exact ZmC)
   rw [hH, ht.h j p hp, n2, n3]; simp [ZdE]
  | true =>
   rw [hw] at hwant
   rw [hwant]
   simp only [if_true]
   obtain ⟨y1, y2⟩ := ht.y j p hp hw
   rw [hk.mask j p hp hc] at y1
   have pre : Pre G R w env a (t.HH j) := ⟨ok, x.gok c.ok.b01 c.g, hE, fun b blk hb _ => by rw [hH]; exact hb⟩
   have hplaced : Zaa R.H (t.UP j) (t.len j) (t.NW j) (t.HH (j + 1)) := by
    rw [hH, ht.h j p hp]; exact Znk _ _ _
   refine .inl ((Zs9 pre c.cf k3 (by rw [hop]; exact y1) free hplaced).wp fun u w' hpost => ?_)
   obtain ⟨R', x', ok', hH', hv, hM'⟩ := hpost
   exact go R' u w' x' ok' hH' (fun i h1 h2 => hM' i h1 (by omega)) hv
theorem Zn2 {p q : Nat → Bool} : ∀ (l : List Nat) (j : Nat), (∀ x, q x = true → p x = true) → j ∈ l → p j = true → q j = false → l.countP q < l.countP p
 | [], j, _, h, _, _ => by cases h
 | x :: l, j, hq, h, h1, h2 => by
  have mono : ∀ l : List Nat, l.countP q ≤ l.countP p := fun l => List.countP_mono_left fun x _ h => hq x h
  rw [List.countP_cons, List.countP_cons]
  by_cases hx : x = j
  ·subst hx
   have := mono l
   rw [h1, h2]; simp; omega
  ·have := Zn2 l j hq ((List.mem_cons.1 h).resolve_left (fun h => hx h.symm)) h1 h2
   cases hqx : q x with
   | true => rw [hq x hqx]; simp; omega
   | false => cases hpx : p x <;> simp <;> omega
theorem Ztd (c : Zkc P G cf Rf wf) (hlo : Rf.H.length ≤ H.length) (ht : t.OK Γ cf [] l e H e' H') (hk : Chk P G N os l B) {Q : Exit → Act → World → Prop} (hQ : ∀ D a w, (∀ j, j < l.length → D j = true) → ZrW P N t l os e H Rf wf D a w → Q .normal a w) :
  ∀ (fuel : Nat) (listed : Array Bool) (a : Act) (w : World), listed.size = os.size → ZrW P N t l os e H Rf wf (fun j => listed.getD j false) a w → (List.range os.size).countP (fun j => !listed.getD j false) ≤ fuel → wpAny P .any os Q fuel listed a w := by
 have full : ∀ (listed : Array Bool), listed.size = os.size → (Region.ready .any os listed = []) → ∀ j, j < l.length → listed.getD j false = true := by
  intro listed hsz hr j
  induction j using Nat.strongRecOn with
  | ind j ih =>
   intro hj
   have hjs : j < os.size := by rw [hk.len]; exact hj
   cases hd : listed.getD j false with
   | true => rfl
   | false =>
    have : j ∈ Region.ready .any os listed := by
     rw [mem_ready]
     refine ⟨?_, os[j], Array.getElem?_eq_getElem hjs, fun ed he hb => ?_⟩
     ·simp only [Array.getD_eq_getD_getElem?] at hd ⊢
      rw [Array.getElem?_eq_getElem (by omega)] at hd ⊢; exact hd
     ·have hlt := hk.pre j _ (Array.getElem?_eq_getElem hjs) ed.on (by
       unfold Zk5
       exact List.mem_map.2 ⟨ed, List.mem_filter.2 ⟨by simpa using he, hb⟩, rfl⟩)
      exact ih ed.on hlt (by omega)
    rw [hr] at this; cases this
 intro fuel
 induction fuel with
 | zero =>
  intro listed a w hsz s hc
  have hall : ∀ j, j < l.length → listed.getD j false = true := fun j hj => by
   cases hd : listed.getD j false with
   | true => rfl
   | false =>
    have h1 : 0 < (List.range os.size).countP (fun j => !listed.getD j false) := List.countP_pos_iff.2 ⟨j, by simp [hk.len, hj], by simp only [hd]; rfl⟩
    omega
  refine ⟨?_, hQ _ a w hall s⟩
  apply List.eq_nil_iff_forall_not_mem.2
  intro j hj
  obtain ⟨h1, o, h2, _⟩ := mem_ready.1 hj
  have hjs := (Array.getElem?_eq_some_iff.1 h2).1
  have := hall j (by rw [← hk.len]; exact hjs)
  simp only [Array.getD_eq_getD_getElem?] at h1 this
  rw [Array.getElem?_eq_getElem (by omega)] at h1 this
  simp at h1 this; rw [h1] at this; cases this
 | succ fuel ih =>
  intro listed a w hsz s hc
  refine ⟨fun hr => hQ _ a w (full listed hsz hr) s, fun j hj => ?_⟩
  obtain ⟨h1, o, h2, h3⟩ := mem_ready.1 hj
  have hjs := (Array.getElem?_eq_some_iff.1 h2).1
  have hd : listed.getD j false = false := by
   simp only [Array.getD_eq_getD_getElem?] at h1 ⊢
   rw [Array.getElem?_eq_getElem (by omega)] at h1 ⊢; exact h1
  have hup : upd (fun j => listed.getD j false) j = fun k => (listed.setIfInBounds j true).getD k false := by
   funext k
   unfold upd
   by_cases hkj : k = j
   ·subst hkj
    rw [if_pos rfl]
    simp [Array.getD_eq_getD_getElem?, hsz, hjs]
   ·rw [if_neg hkj, getD_set_ne false (fun h => hkj h.symm)]
  refine wpOp_mono (fun a' w' s' => ih _ a' w' (by simp [hsz]) s' ?_) (hup ▸ step c hlo ht hk s h2 hd fun i hi => ?_)
  ·have := Zn2 (p := fun j => !listed.getD j false) (q := fun k => !(listed.setIfInBounds j true).getD k false) (List.range os.size) j (fun k hk' => by
    by_cases hkj : j = k
    ·subst hkj; simp only [hd]; rfl
    ·rw [getD_set_ne false hkj] at hk'; exact hk') (by simp [hjs]) (by simp only [hd]; rfl) (by simp [Array.getD_eq_getD_getElem?, hsz, hjs])
   omega
  ·unfold Zk5 at hi
   obtain ⟨ed, f1, rfl⟩ := List.mem_map.1 hi
   obtain ⟨f2, f3⟩ := List.mem_filter.1 f1
   exact h3 ed (by simpa using f2) f3
end
theorem Zu4 {P : Program} {G : Zbt} {N : Nat} {Γ : Ctx} {cf : Zbe} : Zm5 P G N Γ cf (ZM P G N) := by
 intro id os l Rf wf e H e' H' a w hok hd c s
 obtain ⟨B, hk⟩ := Zqu hok
 obtain ⟨t, ht⟩ := Znm l [] e H e' H' hd
 obtain ⟨R, x, ok, hH, hM, hE⟩ := s.ex
 refine wp_region_any hk.mixed ?_
 have xd : Ext R w R { w with drawn := w.drawn + 1 } := Ext.draw rfl rfl rfl rfl
 have okd : R.OK { w with drawn := w.drawn + 1 } := ok.draw rfl rfl rfl rfl
 refine Ztd c s.hl ht hk (fun D a' w' hall s' => ?_) os.size _ a _ (by simp) ?_ ?_
 ·obtain ⟨K, R', env, h1, h2, h3, x', ok', hH', hM', hE', hV, hO⟩ := s'.ex
  have hKl : K = l.length := by
   rcases Nat.lt_or_ge K l.length with h | h
   ·obtain ⟨_, _, _, h4⟩ := h3 h
    rw [hall K h] at h4; cases h4
   ·omega
  subst hKl
  have hHe : Zhb t D l.length = H' := by
   rw [← ht.h1]
   apply List.ext_getElem?
   intro i
   exact ZfB (ZhT.2 fun m hm _ _ => hall m hm)
  have hle : H.length ≤ H'.length := by
   have := ht.len_mono (a := 0) l.length (by omega) (Nat.le_refl _)
   unfold Zcm.len at this; rw [ht.h0, ht.h1] at this; exact this
  have henv : ∀ d, env d = e' d := fun d => by
   rw [← ht.e1]
   by_cases hx : ∃ (i : Nat) (q : Op1), l[i]? = some q ∧ q.dst = some d
   ·obtain ⟨i, q, hq, hqd⟩ := hx
    have hi := (List.getElem?_eq_some_iff.1 hq).1
    rw [hV i q d hq hqd (hall i hi), ht.envd hk hq hqd l.length hi (Nat.le_refl _)]
   ·have hn : ∀ (i : Nat) (q : Op1), l[i]? = some q → q.dst ≠ some d := fun i q hq hqd => hx ⟨i, q, hq, hqd⟩
    rw [hO d fun i q hq hqd => absurd hqd (hn i q hq), ht.env0 l.length (Nat.le_refl _) fun i q _ hq => hn i q hq]
  refine ⟨rfl, ⟨⟨R', x', ok', by rw [hH', hHe], fun i hi => hM' i (by omega) fun j hj _ hb => ?_, fun d => by rw [← henv d]; exact hE' d⟩, s'.tm, s'.df, by have := s.hl; omega⟩⟩
  have := ht.len_mono (a := j + 1) l.length (by omega) (Nat.le_refl _)
  have h2 : t.len l.length = H'.length := by unfold Zcm.len; rw [ht.h1]
  omega
 ·have hf : ∀ j, (Array.replicate os.size false).getD j false = false := fun j => by
   by_cases hj : j < os.size <;> simp [Array.getD_eq_getD_getElem?, hj]
  obtain ⟨K, g1, g2, g3, g4, g5⟩ := Zt5 ht (D := fun j => (Array.replicate os.size false).getD j false) (s := 0) (Nat.zero_le _) okd (by rw [ht.h0]; exact hH) (fun m p _ hm => by omega) (fun m p _ _ _ => hf m)
  refine ⟨fun j o _ hd => (by rw [hf j] at hd; cases hd), ⟨K, _, e, g1, g2, g3, (x.trans xd).trans g4, g5, rfl, fun i hi _ => hM i hi, g4.envOK okd.b01 (xd.envOK ok.b01 hE), fun j p d _ _ hd => (by rw [hf j] at hd; cases hd), fun d _ => rfl⟩, s.tm, s.df⟩
 ·exact Nat.le_trans List.countP_le_length (by simp)
theorem ZtG {P : Program} {G : Zbt} {Γ : Ctx} (hall : ∀ f fn, Γ.code f = some fn → Za0 P G (fun N => ZM P G N) f fn = true ∨ Zmv P f fn) : Ze9 P G (evW Γ) :=
 Zwz (fun _ _ _ => Zu4) hall
end Go.Proofs.YtnmbdjkbaihicaaDoorE
namespace Go.Proofs.YtnmbdjkbaihicaaDoor
open Go Go.Proofs.YtnmbdjkbaihicaaDoorE
def Zvk : List (IntKind × Int) := [(.u8, 0), (.u8, 1), (.u8, 28), (.u8, 2), (.u8, 29), (.u8, 14), (.u8, 24), (.u8, 3), (.u8, 30), (.u8, 22), (.u8, 20), (.u8, 15), (.u8, 25), (.u8, 17), (.u8, 4), (.u8, 8), (.u8, 31), (.u8, 27), (.u8, 13), (.u8, 23), (.u8, 21), (.u8, 19), (.u8, 16), (.u8, 7), (.u8, 26), (.u8, 12), (.u8, 18), (.u8, 6), (.u8, 11), (.u8, 5), (.u8, 10), (.u8, 9)]
def Zvy : List (IntKind × Int) := [(.u8, 0), (.u8, 1), (.u8, 56), (.u8, 2), (.u8, 57), (.u8, 49), (.u8, 28), (.u8, 3), (.u8, 61), (.u8, 58), (.u8, 42), (.u8, 50), (.u8, 38), (.u8, 29), (.u8, 17), (.u8, 4), (.u8, 62), (.u8, 47), (.u8, 59), (.u8, 36), (.u8, 45), (.u8, 43), (.u8, 51), (.u8, 22), (.u8, 53), (.u8, 39), (.u8, 33), (.u8, 30), (.u8, 24), (.u8, 18), (.u8, 12), (.u8, 5), (.u8, 63), (.u8, 55), (.u8, 48), (.u8, 27), (.u8, 60), (.u8, 41), (.u8, 37), (.u8, 16), (.u8, 46), (.u8, 35), (.u8, 44), (.u8, 21), (.u8, 52), (.u8, 32), (.u8, 23), (.u8, 11), (.u8, 54), (.u8, 26), (.u8, 40), (.u8, 15), (.u8, 34), (.u8, 20), (.u8, 31), (.u8, 10), (.u8, 25), (.u8, 14), (.u8, 19), (.u8, 9), (.u8, 13), (.u8, 8), (.u8, 7), (.u8, 6)]
def Zy : Zbt
 | 0 => some Zvk
 | 1 => some Zvy
 | _ => none
theorem ok8 : Za0 Tryd.prog Zy (fun N => ZM Tryd.prog Zy N) 8 fn8 = true := by kernel_rfl
theorem Zzn : Za0 Tryd.prog Zy (fun N => ZM Tryd.prog Zy N) 15 ZvL = true := by kernel_rfl
theorem Zy2 : Za0 Tryd.prog Zy (fun N => ZM Tryd.prog Zy N) 20 Zwk = true := by kernel_rfl
theorem ZyL : Za0 Tryd.prog Zy (fun N => ZM Tryd.prog Zy N) 22 Zxi = true := by kernel_rfl
theorem ZzE : Za0 Tryd.prog Zy (fun N => ZM Tryd.prog Zy N) 23 ZwM = true := by kernel_rfl
theorem Zze : Za0 Tryd.prog Zy (fun N => ZM Tryd.prog Zy N) 24 ZwK = true := by kernel_rfl
theorem Zyu : Za0 Tryd.prog Zy (fun N => ZM Tryd.prog Zy N) 25 ZwO = true := by kernel_rfl
theorem Zzq : Za0 Tryd.prog Zy (fun N => ZM Tryd.prog Zy N) 28 ZvI = true := by kernel_rfl
theorem Zy4 : Za0 Tryd.prog Zy (fun N => ZM Tryd.prog Zy N) 31 ZvK = true := by kernel_rfl
theorem Zzg : Za0 Tryd.prog Zy (fun N => ZM Tryd.prog Zy N) 32 Zyo = true := by kernel_rfl
theorem ZyB : Za0 Tryd.prog Zy (fun N => ZM Tryd.prog Zy N) 33 Zwm = true := by kernel_rfl
theorem ZyN : Za0 Tryd.prog Zy (fun N => ZM Tryd.prog Zy N) 35 Zwu = true := by kernel_rfl
theorem Zzs : Za0 Tryd.prog Zy (fun N => ZM Tryd.prog Zy N) 39 Zwi = true := by kernel_rfl
theorem ZyS : Za0 Tryd.prog Zy (fun N => ZM Tryd.prog Zy N) 40 ZvU = true := by kernel_rfl
theorem ZyT : Za0 Tryd.prog Zy (fun N => ZM Tryd.prog Zy N) 46 ZvO = true := by kernel_rfl
theorem Zy6 : Za0 Tryd.prog Zy (fun N => ZM Tryd.prog Zy N) 47 Zwe = true := by kernel_rfl
theorem Zzz : Za0 Tryd.prog Zy (fun N => ZM Tryd.prog Zy N) 48 ZvS = true := by kernel_rfl
theorem Zzd : Za0 Tryd.prog Zy (fun N => ZM Tryd.prog Zy N) 54 Zv9 = true := by kernel_rfl
theorem Zyw : Za0 Tryd.prog Zy (fun N => ZM Tryd.prog Zy N) 55 ZwP = true := by kernel_rfl
theorem Zzi : Za0 Tryd.prog Zy (fun N => ZM Tryd.prog Zy N) 56 Zv6 = true := by kernel_rfl
theorem Zys : Za0 Tryd.prog Zy (fun N => ZM Tryd.prog Zy N) 57 ZwX = true := by kernel_rfl
theorem ZzA : Za0 Tryd.prog Zy (fun N => ZM Tryd.prog Zy N) 64 Zwg = true := by kernel_rfl
theorem ZyR : Za0 Tryd.prog Zy (fun N => ZM Tryd.prog Zy N) 65 Zv1 = true := by kernel_rfl
theorem ZyE : Za0 Tryd.prog Zy (fun N => ZM Tryd.prog Zy N) 74 Zwf = true := by kernel_rfl
theorem Zzp : Za0 Tryd.prog Zy (fun N => ZM Tryd.prog Zy N) 76 ZvJ = true := by kernel_rfl
theorem Zzm : Za0 Tryd.prog Zy (fun N => ZM Tryd.prog Zy N) 78 Zv7 = true := by kernel_rfl
theorem Zza : Za0 Tryd.prog Zy (fun N => ZM Tryd.prog Zy N) 82 ZvT = true := by kernel_rfl
theorem Zy1 : Za0 Tryd.prog Zy (fun N => ZM Tryd.prog Zy N) 83 Zwl = true := by kernel_rfl
theorem ZyI : Za0 Tryd.prog Zy (fun N => ZM Tryd.prog Zy N) 84 Zv2 = true := by kernel_rfl
theorem ZzF : Za0 Tryd.prog Zy (fun N => ZM Tryd.prog Zy N) 85 ZwA = true := by kernel_rfl
theorem Zyx : Za0 Tryd.prog Zy (fun N => ZM Tryd.prog Zy N) 86 Zv8 = true := by kernel_rfl
theorem Zzt : Za0 Tryd.prog Zy (fun N => ZM Tryd.prog Zy N) 87 ZwC = true := by kernel_rfl
theorem ZyQ : Za0 Tryd.prog Zy (fun N => ZM Tryd.prog Zy N) 88 ZvZ = true := by kernel_rfl
theorem Zyv : Za0 Tryd.prog Zy (fun N => ZM Tryd.prog Zy N) 89 ZuU = true := by kernel_rfl
theorem ZzG : Za0 Tryd.prog Zy (fun N => ZM Tryd.prog Zy N) 90 Zwd = true := by kernel_rfl
theorem Zzx : Za0 Tryd.prog Zy (fun N => ZM Tryd.prog Zy N) 91 ZwJ = true := by kernel_rfl
theorem ZyJ : Za0 Tryd.prog Zy (fun N => ZM Tryd.prog Zy N) 92 ZvH = true := by kernel_rfl
theorem ZzI : Za0 Tryd.prog Zy (fun N => ZM Tryd.prog Zy N) 93 Zwn = true := by kernel_rfl
theorem ZyZ : Za0 Tryd.prog Zy (fun N => ZM Tryd.prog Zy N) 94 ZwH = true := by kernel_rfl
theorem ZyM : Za0 Tryd.prog Zy (fun N => ZM Tryd.prog Zy N) 97 ZwB = true := by kernel_rfl
theorem ZyG : Za0 Tryd.prog Zy (fun N => ZM Tryd.prog Zy N) 98 Zwx = true := by kernel_rfl
theorem Zzu : Za0 Tryd.prog Zy (fun N => ZM Tryd.prog Zy N) 99 Zww = true := by kernel_rfl
theorem ZxA : Za0 Tryd.prog Zy (fun N => ZM Tryd.prog Zy N) 100 Zs4 = true := by kernel_rfl
theorem ZxE : Za0 Tryd.prog Zy (fun N => ZM Tryd.prog Zy N) 101 ZsY = true := by kernel_rfl
theorem Zxh : Za0 Tryd.prog Zy (fun N => ZM Tryd.prog Zy N) 109 Zte = true := by kernel_rfl
theorem Zxc : Za0 Tryd.prog Zy (fun N => ZM Tryd.prog Zy N) 110 Zsl = true := by kernel_rfl
theorem Zxm : Za0 Tryd.prog Zy (fun N => ZM Tryd.prog Zy N) 111 ZsA = true := by kernel_rfl
theorem Zya : Za0 Tryd.prog Zy (fun N => ZM Tryd.prog Zy N) 112 Zsx = true := by kernel_rfl
theorem ZxU : Za0 Tryd.prog Zy (fun N => ZM Tryd.prog Zy N) 113 Ztq = true := by kernel_rfl
theorem Zyn : Za0 Tryd.prog Zy (fun N => ZM Tryd.prog Zy N) 114 Zq0 = true := by kernel_rfl
theorem Zxw : Za0 Tryd.prog Zy (fun N => ZM Tryd.prog Zy N) 115 Zuh = true := by kernel_rfl
theorem Zyi : Za0 Tryd.prog Zy (fun N => ZM Tryd.prog Zy N) 116 ZsW = true := by kernel_rfl
theorem ZxF : Za0 Tryd.prog Zy (fun N => ZM Tryd.prog Zy N) 117 Ztk = true := by kernel_rfl
theorem ZxP : Za0 Tryd.prog Zy (fun N => ZM Tryd.prog Zy N) 118 ZsM = true := by kernel_rfl
theorem Zyl : Za0 Tryd.prog Zy (fun N => ZM Tryd.prog Zy N) 120 ZvF = true := by kernel_rfl
theorem ZxX : Za0 Tryd.prog Zy (fun N => ZM Tryd.prog Zy N) 121 ZtR = true := by kernel_rfl
theorem Zyb : Za0 Tryd.prog Zy (fun N => ZM Tryd.prog Zy N) 122 ZvC = true := by kernel_rfl
theorem Zx2 : Za0 Tryd.prog Zy (fun N => ZM Tryd.prog Zy N) 123 ZtZ = true := by kernel_rfl
theorem ZxL : Za0 Tryd.prog Zy (fun N => ZM Tryd.prog Zy N) 124 ZtI = true := by kernel_rfl
theorem Zxf : Za0 Tryd.prog Zy (fun N => ZM Tryd.prog Zy N) 125 Zt4 = true := by kernel_rfl
theorem ZxB : Za0 Tryd.prog Zy (fun N => ZM Tryd.prog Zy N) 126 ZsO = true := by kernel_rfl
theorem ZxQ : Za0 Tryd.prog Zy (fun N => ZM Tryd.prog Zy N) 127 ZtA = true := by kernel_rfl
theorem Zxk : Za0 Tryd.prog Zy (fun N => ZM Tryd.prog Zy N) 128 ZsE = true := by kernel_rfl
theorem Zxq : Za0 Tryd.prog Zy (fun N => ZM Tryd.prog Zy N) 129 ZsU = true := by kernel_rfl
theorem Zxz : Za0 Tryd.prog Zy (fun N => ZM Tryd.prog Zy N) 130 ZsZ = true := by kernel_rfl
theorem ZxG : Za0 Tryd.prog Zy (fun N => ZM Tryd.prog Zy N) 131 ZsT = true := by kernel_rfl
theorem ZxZ : Za0 Tryd.prog Zy (fun N => ZM Tryd.prog Zy N) 132 Ztx = true := by kernel_rfl
theorem Zxu : Za0 Tryd.prog Zy (fun N => ZM Tryd.prog Zy N) 133 Ztp = true := by kernel_rfl
theorem Zxp : Za0 Tryd.prog Zy (fun N => ZM Tryd.prog Zy N) 134 Zvu = true := by kernel_rfl
theorem Zw9 : Za0 Tryd.prog Zy (fun N => ZM Tryd.prog Zy N) 135 Zuf = true := by kernel_rfl
theorem ZxT : Za0 Tryd.prog Zy (fun N => ZM Tryd.prog Zy N) 136 Zto = true := by kernel_rfl
theorem Zx1 : Za0 Tryd.prog Zy (fun N => ZM Tryd.prog Zy N) 137 Zt6 = true := by kernel_rfl
theorem Zxg : Za0 Tryd.prog Zy (fun N => ZM Tryd.prog Zy N) 138 Ztl = true := by kernel_rfl
theorem Zx8 : Za0 Tryd.prog Zy (fun N => ZM Tryd.prog Zy N) 139 Ztz = true := by kernel_rfl
theorem ZwU : Za0 Tryd.prog Zy (fun N => ZM Tryd.prog Zy N) 140 Zt8 = true := by kernel_rfl
theorem Zw7 : Za0 Tryd.prog Zy (fun N => ZM Tryd.prog Zy N) 141 ZtF = true := by kernel_rfl
theorem Zyp : ∀ f fn, ctx.code f = some fn → Za0 Tryd.prog Zy (fun N => ZM Tryd.prog Zy N) f fn = true ∨ Zmv Tryd.prog f fn := by
 intro f fn h
 change code f = some fn at h
 unfold code at h
 split at h
 ·cases h; exact .inl ok8
 ·cases h; exact .inl Zzn
 ·cases h; exact .inl Zy2
 ·cases h; exact .inl ZyL
 ·cases h; exact .inl ZzE
 ·cases h; exact .inl Zze
 ·cases h; exact .inl Zyu
 ·cases h; exact .inl Zzq
 ·cases h; exact .inl Zy4
 ·cases h; exact .inl Zzg
 ·cases h; exact .inl ZyB
 ·cases h; exact .inl ZyN
 ·cases h; exact .inl Zzs
 ·cases h; exact .inl ZyS
 ·cases h; exact .inl ZyT
 ·cases h; exact .inl Zy6
 ·cases h; exact .inl Zzz
 ·cases h; exact .inl Zzd
 ·cases h; exact .inl Zyw
 ·cases h; exact .inl Zzi
 ·cases h; exact .inl Zys
 ·cases h; exact .inl ZzA
 ·cases h; exact .inl ZyR
 ·cases h; exact .inl ZyE
 ·cases h; exact .inl Zzp
 ·cases h; exact .inl Zzm
 ·cases h; exact .inl Zza
 ·cases h; exact .inl Zy1
 ·cases h; exact .inl ZyI
 ·cases h; exact .inl ZzF
 ·cases h; exact .inl Zyx
 ·cases h; exact .inl Zzt
 ·cases h; exact .inl ZyQ
 ·cases h; exact .inl Zyv
 ·cases h; exact .inl ZzG
 ·cases h; exact .inl Zzx
 ·cases h; exact .inl ZyJ
 ·cases h; exact .inl ZzI
 ·cases h; exact .inl ZyZ
 ·cases h; exact .inl ZyM
 ·cases h; exact .inl ZyG
 ·cases h; exact .inl Zzu
 ·cases h; exact .inl ZxA
 ·cases h; exact .inl ZxE
 ·cases h; exact .inl Zxh
 ·cases h; exact .inl Zxc
 ·cases h; exact .inl Zxm
 ·cases h; exact .inl Zya
 ·cases h; exact .inl ZxU
 ·cases h; exact .inl Zyn
 ·cases h; exact .inl Zxw
 ·cases h; exact .inl Zyi
 ·cases h; exact .inl ZxF
 ·cases h; exact .inl ZxP
 ·cases h; exact .inl Zyl
 ·cases h; exact .inl ZxX
 ·cases h; exact .inl Zyb
 ·cases h; exact .inl Zx2
 ·cases h; exact .inl ZxL
 ·cases h; exact .inl Zxf
 ·cases h; exact .inl ZxB
 ·cases h; exact .inl ZxQ
 ·cases h; exact .inl Zxk
 ·cases h; exact .inl Zxq
 ·cases h; exact .inl Zxz
 ·cases h; exact .inl ZxG
 ·cases h; exact .inl ZxZ
 ·cases h; exact .inl Zxu
 ·cases h; exact .inl Zxp
 ·cases h; exact .inl Zw9
 ·cases h; exact .inl ZxT
 ·cases h; exact .inl Zx1
 ·cases h; exact .inl Zxg
 ·cases h; exact .inl Zx8
 ·cases h; exact .inl ZwU
 ·cases h; exact .inl Zw7
 ·cases h
theorem Zxb : Ze9 Tryd.prog Zy (evW ctx) := ZtG Zyp
end Go.Proofs.YtnmbdjkbaihicaaDoor
namespace Go.Proofs.YtnmbdjkbaihicaaDoorE
open Go
set_option linter.unusedVariables false
set_option linter.unusedSimpArgs false
inductive Lf where
 | bool | int (k : IntKind) | str | sl (ag : Bool) (els : List Lf)
mutual
def ZuN : Lf → D → Prop
 | .bool, x => ∃ b, x = .bool b
 | .int k, x => ∃ n, x = .int k n ∧ (Lit.int k n).wf = true
 | .str, x => ∃ s, x = .str s ∧ s.size ≤ maxLen
 | .sl ag els, x => ∃ xs, x = .list true xs ∧ xs.length ≤ maxLen ∧ ∀ y ∈ xs, y.isAgg = ag ∧ Zfv els y.cells
def Zfv : List Lf → List D → Prop
 | [], ds => ds = []
 | l :: ls, ds => ∃ d r, ds = d :: r ∧ ZuN l d ∧ Zfv ls r
end
def Zh9 (P : Program) (g : TypeId → Option (List Lf × Bool)) : Nat → List Field → Option (List Lf)
 | _, [] => some []
 | off, f :: fs => match g f.type with
  | some (l, _) => (match Zh9 P g (off + l.length) fs with
   | some r => bif Nat.beq f.offset off && Nat.beq (P.cellsOf f.type) l.length then some (l ++ r) else none
   | none => none)
  | none => none
def lfs (P : Program) : Nat → TypeId → Option (List Lf × Bool)
 | 0, _ => none
 | n + 1, t => match P.underlying t with
  | some .bool => some ([.bool], false)
  | some (.int k) => some ([.int k], false)
  | some .string => some ([.str], false)
  | some (.slice e) => (match lfs P n e with | some (l, ag) => bif Nat.beq (P.cellsOf e) l.length && Nat.blt 0 l.length then some ([.sl ag l], false) else none | none => none)
  | some (.struct fs) => (match Zh9 P (lfs P n) 0 fs.toList with | some l => bif Nat.beq (P.cellsOf t) l.length then some (l, true) else none | none => none)
  | _ => none
mutual
theorem Zo0 : ∀ (l : Lf) (x : D), ZuN l x → x.esc = true ∧ x.isAgg = false ∧ x.cells = [x]
 | .bool, x, h => by obtain ⟨b, rfl⟩ := h; exact ⟨rfl, rfl, rfl⟩
 | .int k, x, h => by obtain ⟨n, rfl, _⟩ := h; exact ⟨rfl, rfl, rfl⟩
 | .str, x, h => by obtain ⟨s, rfl, _⟩ := h; exact ⟨rfl, rfl, rfl⟩
 | .sl ag els, x, h => by obtain ⟨xs, rfl, _⟩ := h; exact ⟨rfl, rfl, rfl⟩
theorem Znv : ∀ (ls : List Lf) (ds : List D), Zfv ls ds → D.escs ds = true ∧ ds.length = ls.length
 | [], ds, h => by obtain rfl := h; exact ⟨rfl, rfl⟩
 | l :: ls, ds, h => by
  obtain ⟨d, r, rfl, h1, h2⟩ := h
  obtain ⟨e1, e2, _⟩ := Zo0 l d h1
  obtain ⟨e3, e4⟩ := Znv ls r h2
  exact ⟨by simp [D.escs, e1, e2, e3], by simp [e4]⟩
end
theorem ZnF : ∀ (l r : List Lf) (ds es : List D), Zfv l ds → Zfv r es → Zfv (l ++ r) (ds ++ es)
 | [], r, ds, es, h, k => by obtain rfl := h; exact k
 | a :: l, r, ds, es, h, k => by
  obtain ⟨d, ds', rfl, h1, h2⟩ := h
  exact ⟨d, ds' ++ es, rfl, h1, ZnF l r ds' es h2 k⟩
section
variable {H : Type} {enc : TypeId × Value → H} {P : Program} {W : World} {sp : Nat → Bool} {held : Bool}
abbrev All : Nat → Prop := fun _ => True
theorem ZnO : ∀ (ds es : List D) (us vs : List Value), ZaK All All All W ds us → ZaK All All All W es vs → ZaK All All All W (ds ++ es) (us ++ vs)
 | [], es, us, vs, h, k => by obtain rfl := h; exact k
 | x :: ds, es, us, vs, h, k => by
  obtain ⟨u, us', rfl, h1, h2⟩ := h
  exact ⟨u, us' ++ vs, rfl, h1, ZnO ds es us' vs h2 k⟩
theorem ZpB {a : Addr} {n : Nat} {cs : List Value} (h : W.cells? 0 a n = some cs) : cs.length = n ∧ ∀ k, k < n → W.cell? (a.add k) = cs[k]? := by
 unfold World.cells? at h
 rw [if_pos (Nat.zero_le _)] at h
 exact ⟨by simpa using mapM_some_length h, fun k hk => mapM_some_get h k k (by simp [hk])⟩
theorem ZnI {g : TypeId → Option (List Lf × Bool)} {m : Nat} {cs : List Value}
  (hg : ∀ t l ag cs x, g t = some (l, ag) → DataW.trod enc P W 0 sp held m t cs = some x → ∃ ds, ZaK All All All W ds cs ∧ Zfv l ds) :
  ∀ (fs : List Field) (off : Nat) (l : List Lf) (xs : List (DataW H × List MemPlace)), Zh9 P g off fs = some l → xs.length = fs.length → off + l.length ≤ cs.length →
   (∀ (i : Nat) f, fs[i]? = some f → DataW.trod enc P W 0 sp held m f.type ((cs.drop f.offset).take (P.cellsOf f.type)) = xs[i]?) → ∃ ds, ZaK All All All W ds ((cs.drop off).take l.length) ∧ Zfv l ds
 | [], off, l, xs, h, _, _, _ => by
  simp only [Zh9, Option.some.injEq] at h
  subst h
  exact ⟨[], by simp [ZaK], rfl⟩
 | f :: fs, off, l, xs, h, hl, hle, hx => by
  simp only [Zh9] at h
  cases hgf : g f.type with
  | none => rw [hgf] at h; cases h
  | some q =>
   obtain ⟨l1, ag⟩ := q
   rw [hgf] at h
   dsimp only at h
   cases hr : Zh9 P g (off + l1.length) fs with
   | none => rw [hr] at h; cases h
   | some r =>
    rw [hr] at h
    dsimp only at h
    cases hc : (Nat.beq f.offset off && Nat.beq (P.cellsOf f.type) l1.length) with
    | false => rw [hc] at h; cases h
    | true =>
     rw [hc] at h
     simp only [cond_true, Option.some.injEq] at h
     subst h
     simp only [Bool.and_eq_true] at hc
     have h1 := Nat.eq_of_beq_eq_true hc.1
     have h2 := Nat.eq_of_beq_eq_true hc.2
     rw [List.length_append] at hle
     cases xs with
     | nil => simp at hl
     | cons x xs =>
      have hx0 := hx 0 f rfl
      rw [h1, h2] at hx0
      simp only [List.getElem?_cons_zero] at hx0
      obtain ⟨d1, e1, e2⟩ := hg f.type l1 ag _ x hgf hx0
      obtain ⟨d2, e3, e4⟩ := ZnI (cs := cs) hg fs (off + l1.length) r xs hr (by simpa using hl) (by omega) (fun i f' hf' => by simpa using hx (i + 1) f' (by simpa using hf'))
      refine ⟨d1 ++ d2, ?_, ZnF _ _ _ _ e2 e4⟩
      have hspl : (cs.drop off).take (l1 ++ r).length = (cs.drop off).take l1.length ++ (cs.drop (off + l1.length)).take r.length := by
       rw [List.length_append, List.take_add, List.drop_drop]
      rw [hspl]
      exact ZnO _ _ _ _ e1 e3
theorem Zmw : ∀ (n : Nat) (t : TypeId) (l : List Lf) (ag : Bool), lfs P n t = some (l, ag) → ∀ (fuel : Nat) (cs : List Value) (x : DataW H × List MemPlace), DataW.trod enc P W 0 sp held fuel t cs = some x →
  ∃ ds, ZaK All All All W ds cs ∧ Zfv l ds ∧ (ag = false → ∃ u y, cs = [u] ∧ ds = [y] ∧ u.cells = #[u] ∧ y.isAgg = false)
 | 0, t, l, ag, h, fuel, cs, x, hx => by cases h
 | n + 1, t, l, ag, h, fuel, cs, x, hx => by
  simp only [lfs] at h
  split at h
  ·rename_i ht
   cases h
   obtain ⟨b, rfl, _⟩ := DataW.trod_bool ht hx
   exact ⟨[.bool b], ⟨_, _, rfl, rfl, rfl⟩, ⟨_, _, rfl, ⟨b, rfl⟩, rfl⟩, fun _ => ⟨_, _, rfl, rfl, rfl, rfl⟩⟩
  ·rename_i k ht
   cases h
   obtain ⟨m, rfl, _, hw⟩ := DataW.trod_int ht hx
   exact ⟨[.int k m], ⟨_, _, rfl, rfl, rfl⟩, ⟨_, _, rfl, ⟨m, rfl, hw⟩, rfl⟩, fun _ => ⟨_, _, rfl, rfl, rfl, rfl⟩⟩
  ·rename_i ht
   cases h
   obtain ⟨s, rfl, _, hs⟩ := DataW.trod_string ht hx
   exact ⟨[.str s], ⟨_, _, rfl, rfl, rfl⟩, ⟨_, _, rfl, ⟨s, rfl, hs⟩, rfl⟩, fun _ => ⟨_, _, rfl, rfl, rfl, rfl⟩⟩
  ·rename_i e ht
   cases he : lfs P n e with
   | none => rw [he] at h; cases h
   | some q =>
    obtain ⟨le, age⟩ := q
    rw [he] at h
    dsimp only at h
    cases hc : (Nat.beq (P.cellsOf e) le.length && Nat.blt 0 le.length) with
    | false => rw [hc] at h; cases h
    | true =>
     rw [hc] at h
     simp only [cond_true, Option.some.injEq, Prod.mk.injEq] at h
     obtain ⟨rfl, rfl⟩ := h
     simp only [Bool.and_eq_true] at hc
     have hsz := Nat.eq_of_beq_eq_true hc.1
     have hpos : 0 < le.length := by have := hc.2; simp [Nat.blt] at this; omega
     rcases Go.Deep.open_slice ht hx with ⟨rfl, _⟩ | ⟨a, len, cap, m, fu, Dd, Pl, rfl, _, hlc, hcap, hm, _, hel⟩
     ·exact ⟨[.list true []], ⟨_, _, rfl, ⟨_, 0, 0, rfl, rfl, Nat.le_refl _, by simp, by simp⟩, rfl⟩, ⟨_, _, rfl, ⟨[], rfl, by simp, by simp⟩, rfl⟩, fun _ => ⟨_, _, rfl, rfl, rfl, rfl⟩⟩
     ·rw [hsz] at hel
      have hlm : len ≤ m := by rw [hm]; split <;> omega
      have each : ∀ i, i < len → ∃ y u, ZaZ All All All W y u ∧ y.isAgg = age ∧ Zfv le y.cells ∧ u.cells.size = le.length ∧ (∀ k v, u.cells[k]? = some v → W.cell? ((a.add (i * le.length)).add k) = some v) ∧ y.esc = true := fun i hi => by
       obtain ⟨cs', h1, h2⟩ := hel i (by omega)
       obtain ⟨c1, c2⟩ := ZpB h1
       obtain ⟨ds, d1, d2, d3⟩ := Zmw n e le age he fu cs' _ h2
       obtain ⟨s1, s2⟩ := Znv _ _ d2
       cases age with
       | true =>
        refine ⟨.agg ds, .agg cs'.toArray, ⟨cs', rfl, d1⟩, rfl, d2, by simpa [Value.cells] using c1, fun k v hk => ?_, s1⟩
        have hk' : cs'[k]? = some v := by simpa [Value.cells] using hk
        rw [c2 k (by rw [← c1]; exact (List.getElem?_eq_some_iff.1 hk').1)]; exact hk'
       | false =>
        obtain ⟨u, y, rfl, rfl, e1, e2⟩ := d3 rfl
        obtain ⟨u', us', f1, f2, _⟩ := d1
        cases f1
        have hy : y.cells = [y] := by
         cases y <;> first | rfl | (simp [D.isAgg] at e2)
        have hesc : y.esc = true := by
         match le, d2, hpos with
         | l0 :: ls, d2, _ =>
          obtain ⟨d, r, g1, g2, _⟩ := d2
          cases g1
          exact (Zo0 l0 y g2).1
        refine ⟨y, u, f2, e2, by rw [hy]; exact d2, by rw [e1, ← c1]; rfl, fun k v hk => ?_, hesc⟩
        rw [e1] at hk
        have hk0 : k = 0 := by
         have := (Array.getElem?_eq_some_iff.1 hk).1; simp at this; exact this
        subst hk0
        simp at hk; subst hk
        rw [c2 0 (by omega)]; rfl
      have all : ∀ j, j ≤ len → ∃ ys : List D, ys.length = j ∧ (∀ y ∈ ys, y.isAgg = age ∧ Zfv le y.cells ∧ y.esc = true) ∧ ∀ (i : Nat) y, ys[i]? = some y → ∃ u, ZaZ All All All W y u ∧ u.cells.size = le.length ∧ ∀ k v, u.cells[k]? = some v → W.cell? ((a.add (i * le.length)).add k) = some v := by
       intro j
       induction j with
       | zero => intro _; exact ⟨[], rfl, by simp, by simp⟩
       | succ j ih =>
        intro hj
        obtain ⟨ys, y1, y2, y3⟩ := ih (by omega)
        obtain ⟨y, u, z1, z2, z3, z4, z5, z6⟩ := each j (by omega)
        refine ⟨ys ++ [y], by simp [y1], fun z hz => ?_, fun i z hz => ?_⟩
        ·rcases List.mem_append.1 hz with hz | hz
         ·exact y2 z hz
         ·simp at hz; subst hz; exact ⟨z2, z3, z6⟩
        ·by_cases hi : i < ys.length
         ·rw [List.getElem?_append_left hi] at hz; exact y3 i z hz
         ·rw [List.getElem?_append_right (by omega)] at hz
          have hij : i - ys.length = 0 := by
           have := (List.getElem?_eq_some_iff.1 hz).1; simp at this; omega
          rw [hij] at hz
          simp at hz; subst hz
          have : i = j := by omega
          subst this
          exact ⟨u, z1, z4, z5⟩
      obtain ⟨ys, y1, y2, y3⟩ := all len (Nat.le_refl _)
      refine ⟨[.list true ys], ⟨_, _, rfl, ⟨_, len, cap, rfl, y1.symm, hlc, fun z hz => (y2 z hz).2.2, fun hne => ?_⟩, rfl⟩, ⟨_, _, rfl, ⟨ys, rfl, by omega, fun z hz => ⟨(y2 z hz).1, (y2 z hz).2.1⟩⟩, rfl⟩, fun _ => ⟨_, _, rfl, rfl, rfl, rfl⟩⟩
      have hlen : 0 < len := by
       rw [← y1]; exact List.length_pos_iff.2 hne
      obtain ⟨cs0, h1, _⟩ := hel 0 (by omega)
      obtain ⟨c1, c2⟩ := ZpB h1
      have c3 := c2 0 hpos
      have hcell : ∃ v, W.cell? a = some v := by
       refine ⟨cs0[0]'(by omega), ?_⟩
       have e0 : (a.add (0 * le.length)).add 0 = a := by simp [Addr.add]
       rw [e0] at c3
       rw [c3]; exact List.getElem?_eq_getElem (by omega)
      obtain ⟨v, hv⟩ := hcell
      have hspot : a.spot = none ∧ a.block < W.heap.size := by
       unfold World.cell? at hv
       split at hv
       ·rename_i hb
        cases hsx : a.spot with
        | none => exact ⟨rfl, (Array.getElem?_eq_some_iff.1 hb).1⟩
        | some z => rw [hsx] at hv; simp at hv
       ·cases hv
      obtain ⟨b, off, spot⟩ := a
      obtain ⟨hs1, hs2⟩ := hspot
      simp only at hs1 hs2
      subst hs1
      refine ⟨b, off, le.length, rfl, trivial, hs2, ZhL ys off fun j y hj => ?_⟩
      obtain ⟨u, u1, u2, u3⟩ := y3 j y hj
      refine ⟨u, u1, u2, fun k v hk => ?_⟩
      rw [← u3 k v hk]
      congr 1
      unfold Addr.add
      by_cases hj0 : j * le.length = 0
      ·by_cases hk0 : k = 0 <;> simp [hj0, hk0]
      ·by_cases hk0 : k = 0 <;> simp [hj0, hk0]
  ·rename_i fs ht
   cases hf : Zh9 P (lfs P n) 0 fs.toList with
   | none => rw [hf] at h; cases h
   | some l' =>
    rw [hf] at h
    dsimp only at h
    cases hc : Nat.beq (P.cellsOf t) l'.length with
    | false => rw [hc] at h; cases h
    | true =>
     rw [hc] at h
     simp only [cond_true, Option.some.injEq, Prod.mk.injEq] at h
     obtain ⟨rfl, rfl⟩ := h
     have hcl := Nat.eq_of_beq_eq_true hc
     obtain ⟨xs, m, _, _, hlen, hxl, hxs⟩ := DataW.trod_struct ht hx
     have hlen' : cs.length = l'.length := hlen.trans hcl
     obtain ⟨ds, e1, e2⟩ := ZnI (m := m) (cs := cs) (g := lfs P n) (fun t l ag cs x hg hx => by
      obtain ⟨ds, d1, d2, _⟩ := Zmw n t l ag hg m cs x hx
      exact ⟨ds, d1, d2⟩) fs.toList 0 l' xs hf (by simpa using hxl) (by omega) (fun i f hf' => hxs i f (by simpa using hf'))
     refine ⟨ds, ?_, e2, fun h => by cases h⟩
     have : (cs.drop 0).take l'.length = cs := by rw [List.drop_zero, List.take_of_length_le (by omega)]
     rw [this] at e1; exact e1
  ·cases h
def Zmd (ag : Bool) (ds : List D) : D := match ag, ds with | true, ds => .agg ds | false, d :: _ => d | false, [] => .nilp
theorem Zp8 {n : Nat} {t : TypeId} {l : List Lf} {ag : Bool} (h : lfs P n t = some (l, ag)) {base : Nat} {v : Value} {d : DataW H} {ps : List MemPlace} (hv : Value.okWide P W .any base t v) (hx : DataW.Trod enc P W 0 sp held t v d ps) :
  ∃ ds, Zfv l ds ∧ ZaZ All All All W (Zmd ag ds) v := by
 obtain ⟨fuel, hf⟩ := hx
 obtain ⟨ds, d1, d2, d3⟩ := Zmw n t l ag h fuel _ _ hf
 refine ⟨ds, d2, ?_⟩
 have one : ag = false → v.cells = #[v] → ZaZ All All All W (Zmd ag ds) v := fun hag hc => by
  subst hag
  obtain ⟨u, y, e1, rfl, _, _⟩ := d3 rfl
  rw [hc] at e1
  cases e1
  obtain ⟨u', us', f1, f2, _⟩ := d1
  rw [hc] at f1
  cases f1
  exact f2
 cases n with
 | zero => cases h
 | succ n =>
  simp only [lfs] at h
  split at h
  ·rename_i ht
   cases h
   obtain ⟨b, rfl⟩ := Go.WideShapes.okWide_bool ht hv
   exact one rfl rfl
  ·rename_i k ht
   cases h
   obtain ⟨b, rfl⟩ := Go.WideShapes.okWide_int ht hv
   exact one rfl rfl
  ·rename_i ht
   cases h
   obtain ⟨b, rfl⟩ := Go.WideShapes.okWide_string ht hv
   exact one rfl rfl
  ·rename_i e ht
   obtain ⟨a, len, cap, rfl⟩ := Go.WideShapes.okWide_slice ht hv
   split at h
   ·rename_i le age hq
    cases hc : (Nat.beq (P.cellsOf e) le.length && Nat.blt 0 le.length) with
    | false => rw [hc] at h; cases h
    | true => rw [hc] at h; cases h; exact one rfl rfl
   ·cases h
  ·rename_i fs ht
   obtain ⟨cs, rfl, _⟩ := Go.WideShapes.okWide_struct ht hv
   split at h
   ·rename_i q hq
    cases hc : Nat.beq (P.cellsOf t) q.length with
    | false => rw [hc] at h; cases h
    | true =>
     rw [hc] at h
     cases h
     exact ⟨cs.toList, by simp, by simpa [Value.cells] using d1⟩
   ·cases h
  ·cases h
end
end Go.Proofs.YtnmbdjkbaihicaaDoorE
namespace Go.Proofs.YtnmbdjkbaihicaaDoorE
open Go
set_option linter.unusedVariables false
set_option linter.unusedSimpArgs false
def R0 : RP := { B1 := fun _ => False, B0 := fun _ => False, M := fun _ => none, H := [] }
section
variable {P : Program} {G : Zbt} {Γ : Ctx} {W : World}
theorem Zh0 (c : Nat) : ¬ R0.live c := by
 rintro ⟨i, h, _⟩
 simp [R0, Z3, nth] at h
theorem ZxH : R0.OK W where
 b01 := fun c h => h.elim
 al := fun i blk h => by simp [R0] at h
 inj := fun i j c h => by simp [R0, Z3, nth] at h
 lt := fun i c h => by cases h
 blk := fun i m blk h => by simp [R0] at h
 nb := fun i c h => by simp [R0, Z3, nth] at h
 bl := fun c h => h.elim
theorem Zwb {x : D} {u : Value} (h : ZaZ All All All W x u) : R0.den W x u :=
 ZaZ.change _ _ _ _ (fun b _ _ => ⟨Zh0 b, fun h => h⟩) (fun b _ _ => ⟨Zh0 b, fun h => h⟩) (fun b _ _ => Zh0 b) (fun _ _ _ => rfl) (Nat.le_refl _) (fun _ _ => trivial) (fun _ _ => trivial) x u h
theorem Zuy {xs : List D} {us : List Value} (h : ZaK All All All W xs us) : Zay R0 W (Zcq xs) us :=
 (ZcR xs us).2 (ZaK.change _ _ _ _ (fun b _ _ => ⟨Zh0 b, fun h => h⟩) (fun b _ _ => ⟨Zh0 b, fun h => h⟩) (fun b _ _ => Zh0 b) (fun _ _ _ => rfl) (Nat.le_refl _) (fun _ _ => trivial) (fun _ _ => trivial) xs us h)
theorem ZrO (hs : Ze9 P G (evW Γ)) (hg : GOK G R0 W) {f : Nat} {xs : List D} {us : List Value} (hd : ZaK All All All W xs us) {H' : Zm} (he : evW Γ f (Zcq xs) [] = some (.d (.bool true), H')) :
  Calls P f us.toArray W fun e W' => e = .returned (.bool true) ∧ Go.RowKit.Below W.heap.size W W' := by
 obtain ⟨_, h⟩ := hs f (Zcq xs) [] _ _ he
 refine (h R0 W us ZxH hg rfl (fun i _ => rfl) (Zuy hd)).mono fun e W' ⟨u, h1, R', x, ok, hH, hv, _, _⟩ => ?_
 have hu : u = .bool true := hv
 subst hu
 exact ⟨h1, ⟨x.os, x.tape, x.output, x.grow, fun k hk => x.same k hk (Zh0 k)⟩⟩
def ZjP (l : List (IntKind × Int)) : List (DataW Unit) := l.map fun q => .lit (.int q.1 q.2)
theorem Zpd {n : String} {d : DataW Unit} : ∀ {L : List (String × DataW Unit)} {ps : List MemPlace}, DataW.LaidVars P W L ps → (n, d) ∈ L →
  ∃ g t cs fuel p, P.globalNamed n = some g ∧ (P.globals[g]?).map (·.type) = some t ∧ W.var? P n = some cs ∧ DataW.trod (fun _ => ()) P W 0 (fun _ => true) false fuel t cs.toList = some (d, p)
 | [], _, _, h => by cases h
 | (m, e) :: L, ps, h, hm => by
  obtain ⟨g, t, cs, fuel, p, q, h1, h2, h3, h4, h5, _⟩ := h
  rcases List.mem_cons.1 hm with hm | hm
  ·cases hm; exact ⟨g, t, cs, fuel, p, h1, h2, h3, h4⟩
  ·exact Zpd h5 hm
theorem Zl5 {L : List (String × DataW Unit)} (h : laidMetH P L W) (hl : (L.all fun x => x.2.handleName?.isNone) = true) {n : String} {l : List (IntKind × Int)} (hm : (n, DataW.agg (ZjP l)) ∈ L) {g t N e : Nat} {k : IntKind}
  (hg : P.globalNamed n = some g) (ht : (P.globals[g]?).map (·.type) = some t) (hu : P.underlying t = some (.array N e)) (he : P.underlying e = some (.int k)) (hc : P.cellsOf e = 1) (hN : l.length = N) (hne : 0 < N) :
  R0.den W (.rptr (gD l)) (.pointer (some ⟨g, 0, none⟩)) := by
 rw [MakeChecks.laidMetH_plain _ _ _ hl] at h
 obtain ⟨ps, hL, _, _⟩ := h
 obtain ⟨g', t', cs, fuel, p, h1, h2, h3, h4⟩ := Zpd hL hm
 obtain rfl := Option.some.inj (hg.symm.trans h1)
 obtain rfl := Option.some.inj (ht.symm.trans h2)
 obtain ⟨xs, m, _, hx, hlen, hxn, hel⟩ := DataW.trod_array hu h4
 have hmap : ZjP l = xs.map (·.1) := by
  have := (Prod.mk.inj hx).1
  exact DataW.agg.inj this
 have cell : ∀ (i : Nat) q, l[i]? = some q → W.cell? ⟨g, i, none⟩ = some (.int q.1 q.2) := fun i q hq => by
  have hi : i < N := by rw [← hN]; exact (List.getElem?_eq_some_iff.1 hq).1
  have hi2 : i < xs.length := by omega
  have e1 := hel i hi
  rw [List.getElem?_eq_getElem hi2] at e1
  obtain ⟨z, z1, z2, _⟩ := DataW.trod_int he e1
  have e3 : (ZjP l)[i]? = some (xs[i]'hi2).1 := by rw [hmap]; simp [hi2]
  rw [z2] at e3
  have e4 : (ZjP l)[i]? = some (.lit (.int q.1 q.2)) := by simp [ZjP, hq]
  rw [e4] at e3
  have e5 : q.1 = k ∧ q.2 = z := by
   have := Option.some.inj e3
   simpa using this
  rw [World.var?_cell h1 h3 i, hc] at *
  have e6 : (cs.toList.drop (i * 1)).take 1 = [.int k z] := z1
  have e7 : cs.toList[i]? = some (.int k z) := by
   have : (cs.toList.drop (i * 1))[0]? = some (.int k z) := by
    have h8 : ((cs.toList.drop (i * 1)).take 1)[0]? = some (.int k z) := by rw [e6]; rfl
    rwa [List.getElem?_take_of_lt (by omega)] at h8
   simpa using this
  rw [e5.1, e5.2]
  simpa using e7
 have hb : g < W.heap.size := by
  have := cell 0 (l[0]'(by omega)) (List.getElem?_eq_getElem (by omega))
  unfold World.cell? at this
  split at this
  ·rename_i hb; exact (Array.getElem?_eq_some_iff.1 hb).1
  ·cases this
 have gd : ∀ (l : List (IntKind × Int)) (i : Nat) x, (gD l)[i]? = some x → ∃ q, l[i]? = some q ∧ x = .int q.1 q.2 := by
  intro l
  induction l with
  | nil => intro i x h; simp [gD] at h
  | cons a r ih =>
   intro i x h
   obtain ⟨k, z⟩ := a
   cases i with
   | zero => simp [gD] at h; exact ⟨(k, z), rfl, h.symm⟩
   | succ i => simpa using ih i x (by simpa [gD] using h)
 refine Zwb ⟨g, 0, rfl, trivial, hb, ZfN _ _ fun j x hj => ?_⟩
 obtain ⟨q, q1, rfl⟩ := gd l j x hj
 exact ⟨_, by rw [Nat.zero_add]; exact cell j q q1, rfl⟩
end
end Go.Proofs.YtnmbdjkbaihicaaDoorE
namespace Go.Proofs.YtnmbdjkbaihicaaDoorE
open Go
set_option linter.unusedVariables false
set_option linter.unusedSimpArgs false
noncomputable def bnd {α β : Type} (x : Option α) (k : α → Option β) : Option β := @dite _ (∃ a, x = some a) (Classical.propDecidable _) (fun h => k (Classical.choose h)) fun _ => none
theorem Zel {α β : Type} (x : Option α) (k : α → Option β) : bnd x k = (match x with | some a => k a | none => none) := by
  unfold bnd
  cases x with
  | none => exact dif_neg (fun ⟨a, h⟩ => by cases h)
  | some a =>
    have h : ∃ b, some a = some b := ⟨a, rfl⟩
    rw [dif_pos h]
    have := Classical.choose_spec h
    rw [← Option.some.inj this]
theorem ZiK {α β : Type} (a : α) (k : α → Option β) : bnd (some a) k = k a := Zel _ _
section
variable {β : Type}
def Zyy : List Nat := [0, 1, 2, 3, 4, 5, 6, 7, 8, 9, 10, 11, 12, 13, 14, 15, 16, 17, 18, 19, 20, 21, 22, 23, 24, 25, 26, 27, 28, 29, 30, 31, 32, 33, 34, 35, 36, 37, 38, 39, 40, 41, 42, 43, 44, 45, 46, 47, 48, 49, 50, 51, 52, 53, 54, 55, 56, 57, 58, 59, 60, 61, 62, 63]
def fgo (n : Nat) (k : Nat → Option β) : List Nat → Option β
  | [] => k n
  | a :: l => match Nat.beq n a with | true => k a | false => fgo n k l
def Zdg (n : Nat) (k : Nat → Option β) : Option β := fgo n k Zyy
def ZgP (v : V) (k : V → Option β) : Option β :=
  match v with
  | .d x => k (.d x) | .bad => k .bad | .ptr b o => Zdg b fun b => Zdg o fun o => k (.ptr b o) | .eptr b sz i j => Zdg b fun b => Zdg j fun j => k (.eptr b sz i j)
  | .sl b sz => Zdg b fun b => k (.sl b sz) | .slp b sz o l => Zdg b fun b => k (.slp b sz o l) | .nilsl sz => k (.nilsl sz)
  | .agg cs => k (.agg cs) | .tup cs => k (.tup cs) | .fn f cs => k (.fn f cs) | .mp b => Zdg b fun b => k (.mp b)
def ZhI (l : List V) (k : List V → Option β) : Option β :=
  match l with
  | [] => k []
  | v :: vs => ZgP v fun v => ZhI vs fun vs => k (v :: vs)
def ZoF (v : V) (k : V → Option β) : Option β :=
  match v with
  | .d x => k (.d x) | .bad => k .bad | .ptr b o => ZgP (.ptr b o) k | .eptr b sz i j => ZgP (.eptr b sz i j) k
  | .sl b sz => ZgP (.sl b sz) k | .slp b sz o l => ZgP (.slp b sz o l) k | .nilsl sz => k (.nilsl sz)
  | .agg cs => ZhI cs fun cs => k (.agg cs) | .tup cs => ZhI cs fun cs => k (.tup cs) | .fn f cs => ZhI cs fun cs => k (.fn f cs) | .mp b => ZgP (.mp b) k
def Zg1 (l : List V) (k : List V → Option β) : Option β :=
  match l with
  | [] => k []
  | v :: vs => ZoF v fun v => Zg1 vs fun vs => k (v :: vs)
def ZpZ (b : Blk) (k : Blk → Option β) : Option β :=
  match b with
  | .dead => k .dead | .cells cs => Zg1 cs fun cs => k (.cells cs) | .arr sz xs => k (.arr sz xs) | .mp es => k (.mp es)
def ZiN (H : Zm) (k : Zm → Option β) : Option β :=
  match H with
  | [] => k []
  | b :: bs => ZpZ b fun b => ZiN bs fun bs => k (b :: bs)
theorem ZtM (n : Nat) (k : Nat → Option β) : ∀ (l : List Nat), fgo n k l = k n
  | [] => rfl
  | a :: l => by
    unfold fgo
    cases h : Nat.beq n a with
    | true => rw [Nat.eq_of_beq_eq_true h]
    | false => exact ZtM n k l
theorem Zdy (n : Nat) (k : Nat → Option β) : Zdg n k = k n := ZtM n k _
theorem Znc (v : V) (k : V → Option β) : ZgP v k = k v := by cases v <;> simp [ZgP, Zdy]
theorem Zlx : ∀ (l : List V) (k : List V → Option β), ZhI l k = k l
  | [], k => rfl
  | v :: vs, k => by unfold ZhI; rw [Znc, Zlx vs]
theorem Zof (v : V) (k : V → Option β) : ZoF v k = k v := by cases v <;> simp [ZoF, Znc, Zlx]
theorem ZgE : ∀ (l : List V) (k : List V → Option β), Zg1 l k = k l
  | [], k => rfl
  | v :: vs, k => by unfold Zg1; rw [Zof, ZgE vs]
theorem Zrz (b : Blk) (k : Blk → Option β) : ZpZ b k = k b := by cases b <;> simp [ZpZ, ZgE]
theorem Zhz : ∀ (l : Zm) (k : Zm → Option β), ZiN l k = k l
  | [], k => rfl
  | v :: vs, k => by unfold ZiN; rw [Zrz, Zhz vs]
def Zic (l : List Nat) (k : List Nat → Option β) : Option β :=
  match l with
  | [] => k []
  | a :: l => Zdg a fun a => Zic l fun l => k (a :: l)
theorem Zh2 : ∀ (l : List Nat) (k : List Nat → Option β), Zic l k = k l
  | [], k => rfl
  | a :: l, k => by unfold Zic; rw [Zdy, Zh2 l]
def Zja (H : Zm) (l : List Nat) (bs : List Nat) (k : List Nat → Option β) : Option β :=
  match bs with
  | [] => k l
  | b :: bs => (match Zhf l b || !(Z3 H b) with
    | true => Zja H l bs k
    | false => Zic (l ++ [b]) fun l => Zja H l bs k)
theorem Zh7 (H : Zm) : ∀ (bs l : List Nat) (k : List Nat → Option β), Zja H l bs k = k (Ze6 H l bs)
  | [], l, k => rfl
  | b :: bs, l, k => by
    unfold Zja Ze6
    cases h : (Zhf l b || !(Z3 H b)) with
    | true => exact Zh7 H bs l k
    | false => simp only [Zh2, cond_false]; exact Zh7 H bs _ k
def ZoT (H : Zm) (n i : Nat) (l : List Nat) (k : List Nat → Option β) : Option β :=
  match n with
  | 0 => k l
  | n + 1 => (match nth l i with
    | some b => Zic (Zrj H b) fun bs => Zja H l bs fun l => Zdg (i + 1) fun i => ZoT H n i l k
    | none => k l)
theorem Zn6 (H : Zm) : ∀ (n i : Nat) (l : List Nat) (k : List Nat → Option β), ZoT H n i l k = k (Zi0 H n i l)
  | 0, i, l, k => rfl
  | n + 1, i, l, k => by
    unfold ZoT Zi0
    cases h : nth l i with
    | none => rfl
    | some b => simp only [Zh2, Zdy, Zh7]; exact Zn6 H n (i + 1) _ k
def Zfr (m : Nat) (vs : List V) (H : Zm) (k : List Nat → List V → Zm → Option β) : Option β :=
  Zg1 vs fun vs => Zic (ZkG m) fun u => Zic (ZgB vs) fun r => Zja H u r fun l => ZoT H (H.length + 1) 0 l fun L =>
    (match ZjY L && Zmt H.length L with
    | true => Zg1 (ZgH (fun b => idx L b 0) vs) fun vs => ZiN (pick H (fun b => idx L b 0) L) fun H => k L vs H
    | false => none)
theorem Zc6 (m : Nat) (vs : List V) (H : Zm) (k : List Nat → List V → Zm → Option β) : Zfr m vs H k = (match extract m vs H with | some (L, vs, H) => k L vs H | none => none) := by
  unfold Zfr extract Zkn
  simp only [ZgE, Zh2, Zh7, Zn6, Zhz]
  cases (ZjY (Zi0 H (H.length + 1) 0 (Ze6 H (ZkG m) (ZgB vs))) && Zmt H.length (Zi0 H (H.length + 1) 0 (Ze6 H (ZkG m) (ZgB vs)))) <;> rfl
def Zj2 (n : Nat) (vs : List V) (k : List V → List Blk → Option β) : Option β :=
  match vs with
  | [] => k [] []
  | v :: vs => (match v with
    | .nilsl sz => (match Nat.blt 0 sz with
      | true => Zdg (n + 1) fun n1 => Zj2 n1 vs fun vs bs => k (.sl n sz :: vs) (.arr sz [] :: bs)
      | false => Zj2 n vs fun vs bs => k (.nilsl sz :: vs) bs)
    | v => Zj2 n vs fun vs bs => k (v :: vs) bs)
theorem ZhG : ∀ (vs : List V) (n : Nat) (k : List V → List Blk → Option β), Zj2 n vs k = k (ZbS n vs).1 (ZbS n vs).2
  | [], n, k => rfl
  | v :: vs, n, k => by
    unfold Zj2
    split
    · rename_i sz
      simp only [ZbS]
      cases h : Nat.blt 0 sz with
      | true => simp only [Zdy, cond_true]; exact ZhG vs (n + 1) _
      | false => exact ZhG vs n _
    · rename_i h
      rw [ZhG vs n]
      cases v <;> first | rfl | exact absurd rfl (h _)
def Zkm (n : Nat) (H : Zm) (k : Zm → List Blk → Option β) : Option β :=
  match H with
  | [] => k [] []
  | b :: H => (match b with
    | .cells cs => Zj2 n cs fun cs bs => Zdg (n + bs.length) fun n1 => Zkm n1 H fun H q => k (.cells cs :: H) (bs ++ q)
    | b => Zkm n H fun H q => k (b :: H) q)
theorem ZjW : ∀ (H : Zm) (n : Nat) (k : Zm → List Blk → Option β), Zkm n H k = k (Zcr n H).1 (Zcr n H).2
  | [], n, k => rfl
  | b :: H, n, k => by
    unfold Zkm
    cases b <;> first | exact ZjW H n _ | skip
    rename_i cs
    simp only [ZhG, Zdy, Zcr]
    exact ZjW H _ _
def ZmZ (m : Nat) (vs : List V) (H : Zm) (k : List V → Zm → Option β) : Option β :=
  Zfr m vs H fun _ vs1 H1 => Zj2 H1.length vs1 fun vs2 bs => Zdg (H1.length + bs.length) fun n => Zkm n H1 fun H2 q => ZiN (H2 ++ (bs ++ q)) fun H2 => Zfr m vs2 H2 fun _ vs3 H3 => k vs3 H3
theorem Zpb (m : Nat) (vs : List V) (H : Zm) (k : List V → Zm → Option β) : ZmZ m vs H k = (match ZlJ m vs H with | some (vs, H) => k vs H | none => none) := by
  unfold ZmZ ZlJ
  rw [Zc6]
  cases h : extract m vs H with
  | none => rfl
  | some p =>
    obtain ⟨L, vs1, H1⟩ := p
    simp only [ZhG, Zdy, ZjW, Zhz, Zc6]
    cases extract m (ZbS H1.length vs1).1 ((Zcr (H1.length + (ZbS H1.length vs1).2.length) H1).1 ++ ((ZbS H1.length vs1).2 ++ (Zcr (H1.length + (ZbS H1.length vs1).2.length) H1).2)) <;> rfl
noncomputable def br (c : Bool) (x y : Option β) : Option β := @ite _ (c = true) (Classical.propDecidable _) x y
theorem Zdz (c : Bool) (x y : Option β) : br c x y = bif c then x else y := by
  unfold br
  cases c with
  | true => exact if_pos rfl
  | false => exact if_neg (by simp)
def brL (c : Bool) (x y : Option β) : Option β := match c with | true => x | false => y
noncomputable def ZiP (c : Bool) (k : V → Option β) : Option β := br c (k (.d (.bool true))) (k (.d (.bool false)))
theorem ZhJ (c : Bool) (k : V → Option β) : ZiP c k = k (.d (.bool c)) := by
  unfold ZiP
  rw [Zdz]
  cases c <;> rfl
noncomputable def ZnQ (v : V) (k : V → Option β) : Option β := match v with | .d (.bool c) => ZiP c k | v => k v
theorem ZpR (v : V) (k : V → Option β) : ZnQ v k = k v := by
  unfold ZnQ
  split
  · exact ZhJ _ _
  · rfl
noncomputable def Zty (x : D) (k : V → Option β) : Option β := match x with | .bool c => ZiP c k | .tup ts => k (.tup (Zcq ts)) | x => k (.d x)
abbrev K3 (β : Type) := V → List (Nat × Blk) → List Blk → Option β
noncomputable def ZuI (op : BinOp) (x y : V) (k : V → Option β) : Option β :=
  match op, x, y with
  | .quo, .d (.int i a), .d (.int j b) => (match i == j with | true => br (b == 0) none (k (.d (.int i (i.wrap (a.tdiv b))))) | false => none)
  | .rem, .d (.int i a), .d (.int j b) => (match i == j with | true => br (b == 0) none (k (.d (.int i (a.tmod b)))) | false => none)
  | .shl, .d (.int i a), .d (.int _ b) => br (decide (b < 0)) none (k (.d (.int i (i.wrap (a * 2 ^ (min b.toNat i.bits))))))
  | .shr, .d (.int i a), .d (.int _ b) => br (decide (b < 0)) none (k (.d (.int i (a.fdiv (2 ^ (min b.toNat i.bits))))))
  | op, x, y => match ZkQ op x y with | some (.bool c) => ZiP c k | some r => k (.d r) | none => none
noncomputable def ZqU (H : Zm) (n : Nat) (ag : Bool) (x : V) (k : V → Option β) : Option β :=
  match x with
  | .eptr b sz i j => (match nth H b with
    | some (.arr sz' xs) => (match Nat.beq sz sz' with
      | true => bnd (nth xs i) fun x => (match ZcI n ag (Zcq (x.cells.drop j)) with | some v => ZnQ v k | none => none)
      | false => none)
    | _ => none)
  | x => match ZcY H n ag x with | some v => ZnQ v k | none => none
noncomputable def Zqz (H : Zm) (n : Nat) (x v : V) (k : K3 β) : Option β :=
  match x with
  | .eptr b sz i j => (match nth H b with
    | some (.arr sz' xs) => (match Nat.beq sz sz' with
      | true => bnd (nth xs i) fun x => (match fr H 6 v with
        | some (y, ks) => (match Zhf ks b with
          | true => none
          | false => (match Nat.beq y.cells.length n && Nat.ble (j + n) x.cells.length && (V.d y).okb && (x.isAgg || !y.isAgg) with
            | true => bnd (some (Zez xs i (bif x.isAgg then .agg (Zag x.cells j y.cells) else y))) fun zs => k .bad ((b, .arr sz zs) :: ks.map (fun j => (j, .dead))) []
            | false => none))
        | none => none)
      | false => none)
    | _ => none)
  | x => match ZjQ H n x v with | some (a, b, c) => k a b c | none => none
noncomputable def ZoB (nid : Nat) (H : Zm) (sz : Nat) (x y : V) (k : K3 β) : Option β :=
  match elems H y with
  | none => none
  | some ys =>
    br (Zir sz ys 0) (match x with
    | .nilsl _ => br (Nat.ble ys.length lim) (bnd (some ys) fun zs => k (.sl nid sz) [] [.arr sz zs]) none
    | .sl b sz' => (match nth H b with
      | some (.arr sz'' xs) => (match Nat.beq sz sz' && Nat.beq sz sz'' with
        | true => br (Nat.ble (xs.length + ys.length) lim) (bnd (some (xs ++ ys)) fun zs => k (.sl nid sz) [(b, .dead)] [.arr sz zs]) none
        | false => none)
      | _ => none)
    | .slp b sz' o len => (match nth H b with
      | some (.arr sz'' xs) => (match Nat.beq sz sz' && Nat.beq sz sz'' with
        | true => br (Nat.ble (o + len + ys.length) xs.length) (bnd (some (xs.take (o + len) ++ (ys ++ xs.drop (o + len + ys.length)))) fun zs => bnd (some (len + ys.length)) fun n => k (.slp b sz o n) [(b, .arr sz zs)] []) none
        | false => none)
      | _ => none)
    | _ => none) none
noncomputable def ZkL (H : Zm) (sz : Nat) (x y : V) (k : V → Option β) : Option β :=
  match x with
  | .nilsl _ => (match elems H y with
    | some ys => br (Zir sz ys 0) (br (Nat.ble ys.length lim) (bnd (some ys) fun zs => k (.d (.list true zs))) none) none
    | none => none)
  | _ => none
noncomputable def ZmS (v : Option V) (dflt : Nat) (k : Nat → Option β) : Option β :=
  match v with
  | none => k dflt
  | some (.d (.int _ n)) => br (decide (0 ≤ n)) (k n.toNat) none
  | _ => none
noncomputable def Zoy (H : Zm) (sz : Nat) (x : V) (lo hi mx : Option V) (k : V → Option β) : Option β :=
  match elems H x with
  | none => none
  | some xs =>
    ZmS lo 0 fun l => ZmS hi xs.length fun h =>
      br (Nat.ble l h && Nat.ble h xs.length)
        (match mx with
        | none => (match x with
          | .d (.list own _) => br (Nat.beq l 0 || Zir sz xs l) (bnd (some ((xs.drop l).take (h - l))) fun zs => k (.d (.list own zs))) none
          | .sl b sz' => (match Nat.beq sz sz' with | true => bnd (some l) fun l' => bnd (some (h - l)) fun n => k (.slp b sz l' n) | false => none)
          | .slp b sz' o _ => (match Nat.beq sz sz' with | true => bnd (some (o + l)) fun l' => bnd (some (h - l)) fun n => k (.slp b sz l' n) | false => none)
          | .nilsl _ => k (.nilsl sz)
          | _ => none)
        | some m => ZmS (some m) 0 fun m => br (Nat.beq m l && Nat.beq m h) (k (.nilsl sz)) none)
        none
noncomputable def ZoI (H : Zm) (sz : Nat) (x i : V) (k : V → Option β) : Option β :=
  match i with
  | .d (.int _ i) => (match x with
    | .d (.list _ xs) => bnd (ZB xs i) fun x => (match Nat.beq x.cells.length sz && (V.d x).okb with | true => k (.d (.rptr x.cells)) | false => none)
    | .sl b sz' => (match nth H b with
      | some (.arr sz'' xs) => (match Nat.beq sz sz' && Nat.beq sz sz'' with | true => bnd (ZB xs i) fun _ => k (.eptr b sz i.toNat 0) | false => none)
      | _ => none)
    | .slp b sz' o len => (match nth H b with
      | some (.arr sz'' xs) => (match Nat.beq sz sz' && Nat.beq sz sz'' with | true => bnd (ZB ((xs.drop o).take len) i) fun _ => k (.eptr b sz (o + i.toNat) 0) | false => none)
      | _ => none)
    | _ => none)
  | _ => none
noncomputable def ZoW (len sz : Nat) (ag : Bool) (x i : V) (k : V → Option β) : Option β :=
  match i with
  | .d (.int _ i) => br (x.isAggV && (decide (0 ≤ i) && decide (i < len))) (bnd (ZcI sz ag (x.cells.drop (i.toNat * sz))) k) none
  | _ => none
noncomputable def ZlQ (H : Zm) (len sz : Nat) (x i : V) (k : V → Option β) : Option β :=
  match i with
  | .d (.int _ i) => br (decide (0 ≤ i) && decide (i < len)) (match Zid H (i.toNat * sz) x with | some v => k v | none => none) none
  | _ => none
noncomputable def ZlT (x i : V) (k : V → Option β) : Option β :=
  match x, i with
  | .d (.str s), .d (.int _ i) => br (decide (0 ≤ i)) (bnd s[i.toNat]? fun b => k (.d (.int .u8 b.toNat))) none
  | _, _ => none
noncomputable def ZmY (k : V → Option β) (r : V × Zm) : Option β := match fr r.2 6 r.1 with | some (x, _) => Zty x k | none => none
noncomputable def Zlk (Γ : Ctx) (cf : Zbe) (nid : Nat) (H : Zm) (f : Nat) (args : List V) (k : K3 β) : Option β :=
  match Γ.mode f with
  | 0 => (match fzs H args with
    | some l => Zg1 (Zcq l) fun l => bnd (cf f l []) (ZmY fun v => k v [] [])
    | none => none)
  | 1 => (match fzs H args with
    | some l => Zg1 (Zcq l) fun l => bnd (cf f l []) fun r => (match Znp r.1 && Zjr r.2 with | true => k (Zkb (fun j => some (nid + j)) r.1) [] (r.2.map (Zgn (fun j => some (nid + j)))) | false => none)
    | none => none)
  | _ => (Zfr 0 args H fun L args' H0 => bnd (cf f args' H0) fun r => (match Zjp r.1 && Zhh r.2 with
        | true => k (Zkb (fun j => match nth L j with | some b => some b | none => some (nid + (j - L.length))) r.1)
          (L.zip (r.2.map (Zgn (fun j => match nth L j with | some b => some b | none => some (nid + (j - L.length))))))
          ((r.2.drop L.length).map (Zgn (fun j => match nth L j with | some b => some b | none => some (nid + (j - L.length)))))
        | false => none))
noncomputable def ZoQ (H : Zm) (ks : List Bool) (m k v : V) (kk : K3 β) : Option β :=
  match m, k, v with
  | .mp b, .d k, .d y => (match nth H b with
    | some (.mp es) => (match ZcZ ks k && Zga y with | true => bnd (Zhc es k y) fun l => kk .bad [(b, .mp l)] [] | false => none)
    | _ => none)
  | _, _, _ => none
noncomputable def Zox (H : Zm) (ks : List Bool) (z : D) (m k : V) (kk : K3 β) : Option β :=
  match m, k with
  | .mp b, .d k => (match nth H b with
    | some (.mp es) => (match ZcZ ks k with | true => bnd (ZsH es k z) fun y => kk (.d y) [] [] | false => none)
    | _ => none)
  | _, _ => none
noncomputable def opK (Γ : Ctx) (cf : Zbe) (e : Env) (nid : Nat) (H : Zm) (o : O) (k : K3 β) : Option β :=
  match o with
  | .mov x => k (x.val e) [] []
  | .pick c a b => (match c.val e with | .d (.bool t) => brL t (k (a.val e) [] []) (k (b.val e) [] []) | _ => none)
  | .load n ag x => ZqU H n ag (x.val e) fun v => k v [] []
  | .store n x v => Zqz H n (x.val e) (v.val e) k
  | .bin op x y => ZuI op (x.val e) (y.val e) fun v => k v [] []
  | .slice sz x lo hi mx => Zoy H sz (x.val e) (lo.map (·.val e)) (hi.map (·.val e)) (mx.map (·.val e)) fun v => k v [] []
  | .iaddr sz x i => ZoI H sz (x.val e) (i.val e) fun v => k v [] []
  | .index len sz ag x i => ZoW len sz ag (x.val e) (i.val e) fun v => k v [] []
  | .iaddrA len sz x i => ZlQ H len sz (x.val e) (i.val e) fun v => k v [] []
  | .indexS x i => ZlT (x.val e) (i.val e) fun v => k v [] []
  | .append sz x y => ZoB nid H sz (x.val e) (y.val e) k
  | .appendD sz x y => ZkL H sz (x.val e) (y.val e) fun v => k v [] []
  | .eqv ks neg x y => (match x.val e, y.val e with
    | .d a, .d b => (match ZcZ ks a with | true => (match eqD a b with | some r => ZiP (bif neg then !r else r) fun v => k v [] [] | none => none) | false => none)
    | _, _ => none)
  | .un .not x => (match x.val e with | .d (.bool b) => brL b (k (.d (.bool false)) [] []) (k (.d (.bool true)) [] []) | _ => none)
  | .extract x i => (match x.val e with
    | .tup vs => (match nth vs i with | some (.d (.bool c)) => ZiP c fun v => k v [] [] | some v => k v [] [] | none => none)
    | .d (.tup vs) => (match nth vs i with | some (.bool c) => ZiP c fun v => k v [] [] | some v => k (.d v) [] [] | none => none)
    | _ => none)
  | .mkslice sz z n c => (match n.val e, c.val e with
    | .d (.int _ n), .d (.int _ c) => br (decide (0 ≤ n) && decide (n ≤ lim) && decide (n == c))
        (bnd (some (List.replicate n.toNat (match z with | [x] => x | z => .agg z))) fun zs => k (.sl nid sz) [] [.arr sz zs]) none
    | _, _ => none)
  | .len x => (match elems H (x.val e) with | some xs => bnd (some (xs.length : Int)) fun n => k (.d (.int .i64 n)) [] [] | none => none)
  | .call f args => Zlk Γ cf nid H f (vals e args) k
  | .callv x args => (match Zia (x.val e) with | some (f, caps) => (match Zfp Γ (x.val e) f caps with | true => none | false => Zlk Γ cf nid H f (vals e args ++ caps) k) | none => none)
  | .invoke tab x args => (match x.val e with
    | .d (.iface t y) => (match Zjz tab t with | some f => Zlk Γ cf nid H f (.d y :: vals e args) k | none => none)
    | _ => none)
  | .callk f args _ => Zlk Γ cf nid H f (vals e args) k
  | .spec id args => (match H, ZiZ (vals e args) with | [], some l => bnd (ZjC id l) fun r => k (.d r) [] [] | _, _ => none)
  | .nilq x => (match elems H (x.val e) with | some xs => br (Nat.blt 0 xs.length) (k (.d (.bool false)) [] []) none | none => none)
  | .mapset ks m x v => ZoQ H ks (m.val e) (x.val e) (v.val e) k
  | .mapget ks z m x => Zox H ks z (m.val e) (x.val e) k
  | o => match opE Γ cf e nid H o with | some (v, up, nw) => ZnQ v fun v => k v up nw | none => none
def on3 (x : Res) (k : K3 β) : Option β := match x with | some (v, up, nw) => k v up nw | none => none
theorem Zkv (Γ : Ctx) (cf : Zbe) (nid : Nat) (H : Zm) (f : Nat) (args : List V) (k : K3 β) : Zlk Γ cf nid H f args k = on3 (Zfn Γ cf nid H f args) k := by
  unfold Zlk Zfn
  generalize Γ.mode f = m
  match m with
  | 0 =>
    dsimp only
    simp only [Zel]
    cases h1 : fzs H args with
    | none => rfl
    | some l =>
      simp only [ZgE]
      cases h2 : cf f (Zcq l) [] with
      | none => rfl
      | some r =>
        obtain ⟨v, H1⟩ := r
        dsimp only [ZmY]
        cases h3 : fr H1 6 v with
        | none => rfl
        | some q => obtain ⟨x, ks⟩ := q; cases x <;> try rfl
                    exact ZhJ _ (fun v => k v [] [])
  | 1 =>
    dsimp only
    simp only [Zel]
    cases h1 : fzs H args with
    | none => rfl
    | some l =>
      simp only [ZgE]
      cases h2 : cf f (Zcq l) [] with
      | none => rfl
      | some r =>
        dsimp only
        cases h3 : (Znp r.1 && Zjr r.2) <;> rfl
  | m + 2 =>
    dsimp only
    simp only [Zel]
    rw [Zc6]
    cases h1 : extract 0 args H with
    | none => rfl
    | some q =>
      obtain ⟨L, args', H0⟩ := q
      dsimp only
      cases h2 : cf f args' H0 with
      | none => rfl
      | some r =>
        dsimp only
        cases h3 : (Zjp r.1 && Zhh r.2) <;> rfl
theorem ZuY (op : BinOp) (x y : V) (k : V → Option β) : ZuI op x y k = (match ZkQ op x y with | some r => k (.d r) | none => none) := by
  unfold ZuI
  split
  · rename_i i a j b
    simp only [ZkQ, Zvj]
    cases h : (i == j) <;> simp only [cond_true, cond_false, Zdz]
    cases h2 : (b == 0) <;> rfl
  · rename_i i a j b
    simp only [ZkQ, Zvj]
    cases h : (i == j) <;> simp only [cond_true, cond_false, Zdz]
    cases h2 : (b == 0) <;> rfl
  · rename_i i a j b
    simp only [ZkQ, shI, Zdz]
    cases h : decide (b < 0) <;> rfl
  · rename_i i a j b
    simp only [ZkQ, shI, Zdz]
    cases h : decide (b < 0) <;> rfl
  · cases h : ZkQ op x y with
    | none => rfl
    | some r => cases r <;> try rfl
                exact ZhJ _ _
theorem ZtH (H : Zm) (n : Nat) (ag : Bool) (x : V) (k : V → Option β) : ZqU H n ag x k = (match ZcY H n ag x with | some v => k v | none => none) := by
  unfold ZqU
  simp only [Zel]
  simp only [ZpR]
  split
  · rename_i b sz i j
    simp only [ZcY]
    cases h : nth H b with
    | none => rfl
    | some blk =>
      cases blk <;> try rfl
      rename_i sz' xs
      dsimp only
      cases h2 : Nat.beq sz sz' <;> simp only [cond_true, cond_false]
      cases h3 : nth xs i <;> rfl
  · rfl
theorem ZrJ (H : Zm) (n : Nat) (x v : V) (k : K3 β) : Zqz H n x v k = on3 (ZjQ H n x v) k := by
  unfold Zqz
  simp only [Zel]
  split
  · rename_i b sz i j
    simp only [ZjQ]
    cases h : nth H b with
    | none => rfl
    | some blk =>
      cases blk <;> try rfl
      rename_i sz' xs
      dsimp only
      cases h2 : Nat.beq sz sz' <;> simp only [cond_true, cond_false] <;> try rfl
      cases h3 : nth xs i with
      | none => rfl
      | some x =>
        cases h4 : fr H 6 v with
        | none => rfl
        | some q =>
          obtain ⟨y, ks⟩ := q
          dsimp only
          cases h5 : Zhf ks b <;> simp only [cond_true, cond_false] <;> try rfl
          cases h6 : (Nat.beq y.cells.length n && Nat.ble (j + n) x.cells.length && (V.d y).okb && (x.isAgg || !y.isAgg)) <;> rfl
  · rfl
theorem Zp3 (nid : Nat) (H : Zm) (sz : Nat) (x y : V) (k : K3 β) : ZoB nid H sz x y k = on3 (Zjf nid H sz x y) k := by
  unfold ZoB Zjf
  cases h : elems H y with
  | none => rfl
  | some ys =>
    simp only [Zdz, ZiK]
    cases h0 : Zir sz ys 0 <;> simp only [cond_true, cond_false] <;> try rfl
    cases x <;> try rfl
    · rename_i b sz'
      dsimp only
      cases h1 : nth H b with
      | none => rfl
      | some blk =>
        cases blk <;> try rfl
        rename_i sz'' xs
        dsimp only
        cases h2 : (Nat.beq sz sz' && Nat.beq sz sz'') <;> simp only [cond_true, cond_false] <;> try rfl
        cases h3 : Nat.ble (xs.length + ys.length) lim <;> rfl
    · rename_i b sz' o len
      dsimp only
      cases h1 : nth H b with
      | none => rfl
      | some blk =>
        cases blk <;> try rfl
        rename_i sz'' xs
        dsimp only
        cases h2 : (Nat.beq sz sz' && Nat.beq sz sz'')
        · simp only [Bool.false_and, cond_false]; rfl
        · simp only [Bool.true_and, Zdz]
          cases h3 : Nat.ble (o + len + ys.length) xs.length <;> rfl
    · dsimp only
      cases h3 : Nat.ble ys.length lim <;> rfl
theorem Zpe (H : Zm) (sz : Nat) (x y : V) (k : V → Option β) : ZkL H sz x y k = (match ZgD H sz x y with | some v => k v | none => none) := by
  unfold ZkL ZgD
  cases x <;> try rfl
  dsimp only
  cases h : elems H y with
  | none => rfl
  | some ys =>
    simp only [Zdz, ZiK]
    cases h0 : Zir sz ys 0 <;> cases h1 : Nat.ble ys.length lim <;> rfl
theorem Zru (v : Option V) (d : Nat) (k : Nat → Option β) : ZmS v d k = (match Zgf v d with | some n => k n | none => none) := by
  unfold ZmS Zgf
  cases v with
  | none => rfl
  | some v =>
    cases v <;> try rfl
    rename_i x
    cases x <;> try rfl
    rename_i i n
    dsimp only
    rw [Zdz]
    cases h : decide (0 ≤ n) <;> rfl
theorem Zr4 (H : Zm) (sz : Nat) (x : V) (lo hi mx : Option V) (k : V → Option β) : Zoy H sz x lo hi mx k = (match ZgA H sz x lo hi mx with | some v => k v | none => none) := by
  unfold Zoy ZgA
  cases h : elems H x with
  | none => rfl
  | some xs =>
    simp only [Zru]
    cases h1 : Zgf lo 0 with
    | none => rfl
    | some l =>
      cases h2 : Zgf hi xs.length with
      | none => rfl
      | some hh =>
        simp only [Zdz, ZiK]
        cases h3 : (Nat.ble l hh && Nat.ble hh xs.length) <;> simp only [cond_true, cond_false]
        cases mx with
        | none =>
          cases x <;> try rfl
          · rename_i x
            cases x <;> try rfl
            dsimp only
            cases h4 : (Nat.beq l 0 || Zir sz xs l) <;> rfl
          · rename_i b sz'
            dsimp only
            cases h4 : Nat.beq sz sz' <;> rfl
          · rename_i b sz' o len
            dsimp only
            cases h4 : Nat.beq sz sz' <;> rfl
        | some m =>
          dsimp only
          cases h4 : Zgf (some m) 0 with
          | none => rfl
          | some m =>
            dsimp only
            cases h5 : (Nat.beq m l && Nat.beq m hh) <;> rfl
theorem ZrQ (H : Zm) (sz : Nat) (x i : V) (k : V → Option β) : ZoI H sz x i k = (match Zgt H sz x i with | some v => k v | none => none) := by
  unfold ZoI Zgt
  simp only [Zel]
  cases i <;> try rfl
  rename_i i
  cases i <;> try rfl
  rename_i ki i
  cases x <;> try rfl
  · rename_i x
    cases x <;> try rfl
    rename_i own xs
    dsimp only
    cases h : ZB xs i with
    | none => rfl
    | some x =>
      dsimp only
      cases h2 : (Nat.beq x.cells.length sz && (V.d x).okb) <;> rfl
  · rename_i b sz'
    dsimp only
    cases h1 : nth H b with
    | none => rfl
    | some blk =>
      cases blk <;> try rfl
      rename_i sz'' xs
      dsimp only
      cases h2 : (Nat.beq sz sz' && Nat.beq sz sz'') <;> simp only [cond_true, cond_false]
      cases h : ZB xs i <;> rfl
  · rename_i b sz' o len
    dsimp only
    cases h1 : nth H b with
    | none => rfl
    | some blk =>
      cases blk <;> try rfl
      rename_i sz'' xs
      dsimp only
      cases h2 : (Nat.beq sz sz' && Nat.beq sz sz'') <;> simp only [cond_true, cond_false]
      cases h : ZB ((xs.drop o).take len) i <;> rfl
theorem Zr2 (len sz : Nat) (ag : Bool) (x i : V) (k : V → Option β) : ZoW len sz ag x i k = (match ZjI len sz ag x i with | some v => k v | none => none) := by
  unfold ZoW ZjI
  cases i <;> try rfl
  rename_i i
  cases i <;> try rfl
  rename_i ki i
  dsimp only
  rw [Zdz, Zel]
  cases (x.isAggV && (decide (0 ≤ i) && decide (i < (len : Int)))) with
  | false => rfl
  | true => simp only [cond_true]; cases ZcI sz ag (List.drop (i.toNat * sz) x.cells) <;> rfl
theorem Zqk (H : Zm) (len sz : Nat) (x i : V) (k : V → Option β) : ZlQ H len sz x i k = (match Zfk H len sz x i with | some v => k v | none => none) := by
  unfold ZlQ Zfk
  cases i <;> try rfl
  rename_i i
  cases i <;> try rfl
  rename_i ki i
  dsimp only
  rw [Zdz]
  cases (decide (0 ≤ i) && decide (i < (len : Int))) <;> rfl
theorem ZpU (x i : V) (k : V → Option β) : ZlT x i k = (match Zh8 x i with | some v => k v | none => none) := by
  unfold ZlT Zh8
  cases x <;> try rfl
  rename_i x
  cases x <;> try rfl
  rename_i s
  cases i <;> try rfl
  rename_i i
  cases i <;> try rfl
  rename_i ki i
  dsimp only
  rw [Zdz, Zel]
  cases decide (0 ≤ i) with
  | false => rfl
  | true => simp only [cond_true]; cases s[i.toNat]? <;> rfl
theorem Zrm (x : Res) (k : K3 β) : (match x with | some (v, up, nw) => ZnQ v fun v => k v up nw | none => none) = on3 x k := by
  cases x with
  | none => rfl
  | some q => exact ZpR _ _
theorem Zp6 (H : Zm) (ks : List Bool) (m x v : V) (k : K3 β) : ZoQ H ks m x v k = on3 (Zkj H ks m x v) k := by
  unfold ZoQ Zkj
  cases m <;> try rfl
  cases x <;> try rfl
  cases v <;> try rfl
  rename_i b x y
  dsimp only
  cases hb : nth H b with
  | none => rfl
  | some blk =>
    cases blk <;> try rfl
    rename_i es
    dsimp only
    cases hk : (ZcZ ks x && Zga y) with
    | false => rfl
    | true =>
      dsimp only
      rw [Zel]
      cases hs : Zhc es x y <;> rfl
theorem ZpX (H : Zm) (ks : List Bool) (z : D) (m x : V) (k : K3 β) : Zox H ks z m x k = on3 (match Zjd H ks z m x with | some r => ZcF (.d r) | none => none) k := by
  unfold Zox Zjd
  cases m <;> try rfl
  cases x <;> try rfl
  rename_i b x
  dsimp only
  cases hb : nth H b with
  | none => rfl
  | some blk =>
    cases blk <;> try rfl
    rename_i es
    dsimp only
    cases hk : ZcZ ks x with
    | false => rfl
    | true =>
      dsimp only
      rw [Zel]
      cases hs : ZsH es x z <;> rfl
theorem ZoU (Γ : Ctx) (cf : Zbe) (e : Env) (nid : Nat) (H : Zm) (o : O) (k : K3 β) : opK Γ cf e nid H o k = on3 (opE Γ cf e nid H o) k := by
  cases o <;> try (first | rfl | exact Zrm _ _)
  · rename_i c a b
    show (match c.val e with | .d (.bool t) => brL t (k (a.val e) [] []) (k (b.val e) [] []) | _ => none) = on3 (match c.val e with | .d (.bool t) => ZcF (bif t then a.val e else b.val e) | _ => none) k
    cases c.val e <;> try rfl
    rename_i x
    cases x <;> try rfl
    rename_i t
    cases t <;> rfl
  · rename_i n ag x
    show ZqU H n ag (x.val e) (fun v => k v [] []) = on3 (match ZcY H n ag (x.val e) with | some v => ZcF v | none => none) k
    rw [ZtH]
    cases h : ZcY H n ag (x.val e) <;> rfl
  · exact ZrJ _ _ _ _ _
  · rename_i op x y
    show ZuI op (x.val e) (y.val e) (fun v => k v [] []) = on3 (match ZkQ op (x.val e) (y.val e) with | some r => ZcF (.d r) | none => none) k
    rw [ZuY]
    cases h : ZkQ op (x.val e) (y.val e) <;> rfl
  · rename_i ks neg x y
    show (match x.val e, y.val e with
      | .d a, .d b => (match ZcZ ks a with | true => (match eqD a b with | some r => ZiP (bif neg then !r else r) (fun v => k v [] []) | none => none) | false => none)
      | _, _ => none) = on3 (match x.val e, y.val e with
      | .d a, .d b => (match ZcZ ks a with | true => (match eqD a b with | some r => ZcF (.d (.bool (bif neg then !r else r))) | none => none) | false => none)
      | _, _ => none) k
    cases x.val e <;> try rfl
    rename_i a
    cases y.val e <;> try rfl
    rename_i b
    dsimp only
    cases hn : ZcZ ks a <;> try rfl
    dsimp only
    cases h : eqD a b with
    | none => rfl
    | some r => exact ZhJ _ _
  · rename_i op x
    cases op <;> try (first | rfl | exact Zrm _ _)
    show (match x.val e with | .d (.bool b) => brL b (k (.d (.bool false)) [] []) (k (.d (.bool true)) [] []) | _ => none) = on3 (match unE .not (x.val e) with | some r => ZcF (.d r) | none => none) k
    cases x.val e <;> try rfl
    rename_i a
    cases a <;> try rfl
    rename_i b
    cases b <;> rfl
  · rename_i f caps
    cases caps <;> rfl
  · rename_i sz z n c
    show (match n.val e, c.val e with
      | .d (.int _ n), .d (.int _ c) => br (decide (0 ≤ n) && decide (n ≤ lim) && decide (n == c)) (bnd (some (List.replicate n.toNat (match z with | [x] => x | z => .agg z))) fun zs => k (.sl nid sz) [] [.arr sz zs]) none
      | _, _ => none) = on3 (match n.val e, c.val e with
      | .d (.int _ n), .d (.int _ c) => bif decide (0 ≤ n) && decide (n ≤ lim) && decide (n == c) then some (.sl nid sz, [], [.arr sz (List.replicate n.toNat (match z with | [x] => x | z => .agg z))]) else none
      | _, _ => none) k
    cases n.val e <;> try rfl
    rename_i x
    cases x <;> try rfl
    rename_i i n1
    cases c.val e <;> try rfl
    rename_i x
    cases x <;> try rfl
    rename_i j c1
    dsimp only
    simp only [Zdz, ZiK]
    cases h3 : (decide (0 ≤ n1) && decide (n1 ≤ lim) && decide (n1 == c1)) <;> rfl
  · rename_i sz x lo hi mx
    show Zoy H sz (x.val e) (lo.map (·.val e)) (hi.map (·.val e)) (mx.map (·.val e)) (fun v => k v [] []) = on3 (match ZgA H sz (x.val e) (lo.map (·.val e)) (hi.map (·.val e)) (mx.map (·.val e)) with | some v => ZcF v | none => none) k
    rw [Zr4]
    cases h : ZgA H sz (x.val e) (lo.map (·.val e)) (hi.map (·.val e)) (mx.map (·.val e)) <;> rfl
  · rename_i sz x i
    show ZoI H sz (x.val e) (i.val e) (fun v => k v [] []) = on3 (match Zgt H sz (x.val e) (i.val e) with | some v => ZcF v | none => none) k
    rw [ZrQ]
    cases h : Zgt H sz (x.val e) (i.val e) <;> rfl
  · rename_i len sz ag x i
    show ZoW len sz ag (x.val e) (i.val e) (fun v => k v [] []) = on3 (match ZjI len sz ag (x.val e) (i.val e) with | some v => ZcF v | none => none) k
    rw [Zr2]
    cases h : ZjI len sz ag (x.val e) (i.val e) <;> rfl
  · rename_i x i
    show ZlT (x.val e) (i.val e) (fun v => k v [] []) = on3 (match Zh8 (x.val e) (i.val e) with | some v => ZcF v | none => none) k
    rw [ZpU]
    cases h : Zh8 (x.val e) (i.val e) <;> rfl
  · rename_i len sz x i
    show ZlQ H len sz (x.val e) (i.val e) (fun v => k v [] []) = on3 (match Zfk H len sz (x.val e) (i.val e) with | some v => ZcF v | none => none) k
    rw [Zqk]
    cases h : Zfk H len sz (x.val e) (i.val e) <;> rfl
  · rename_i x
    show (match elems H (x.val e) with | some xs => bnd (some (xs.length : Int)) fun n => k (.d (.int .i64 n)) [] [] | none => none) = on3 (match ZoK H (x.val e) with | some r => ZcF (.d r) | none => none) k
    unfold ZoK
    cases elems H (x.val e) with
    | none => rfl
    | some xs => exact ZiK _ _
  · exact Zp3 _ _ _ _ _ _
  · rename_i sz x y
    show ZkL H sz (x.val e) (y.val e) (fun v => k v [] []) = on3 (match ZgD H sz (x.val e) (y.val e) with | some v => ZcF v | none => none) k
    rw [Zpe]
    cases h : ZgD H sz (x.val e) (y.val e) <;> rfl
  · rename_i x i
    show (match x.val e with
      | .tup vs => (match nth vs i with | some (.d (.bool c)) => ZiP c (fun v => k v [] []) | some v => k v [] [] | none => none)
      | .d (.tup vs) => (match nth vs i with | some (.bool c) => ZiP c (fun v => k v [] []) | some v => k (.d v) [] [] | none => none)
      | _ => none) = on3 (match x.val e with
      | .tup vs => (match nth vs i with | some v => ZcF v | none => none)
      | .d (.tup vs) => (match nth vs i with | some v => ZcF (.d v) | none => none)
      | _ => none) k
    cases x.val e <;> try rfl
    · rename_i y
      cases y <;> try rfl
      rename_i vs
      dsimp only
      cases nth vs i with
      | none => rfl
      | some v => cases v <;> try rfl
                  exact ZhJ _ _
    · rename_i vs
      dsimp only
      cases nth vs i with
      | none => rfl
      | some v => cases v <;> try rfl
                  rename_i y
                  cases y <;> try rfl
                  exact ZhJ _ _
  · exact Zkv _ _ _ _ _ _ _
  · rename_i x args
    show (match Zia (x.val e) with | some (f, caps) => (match Zfp Γ (x.val e) f caps with | true => none | false => Zlk Γ cf nid H f (vals e args ++ caps) k) | none => none) = _
    rw [ZfF]
    cases h : Zia (x.val e) with
    | none => rfl
    | some q =>
      obtain ⟨f, caps⟩ := q
      dsimp only
      cases hb : Zfp Γ (x.val e) f caps
      · exact Zkv _ _ _ _ _ _ _
      · rfl
  · rename_i tab x args
    show (match x.val e with
      | .d (.iface t y) => (match Zjz tab t with | some f => Zlk Γ cf nid H f (.d y :: vals e args) k | none => none)
      | _ => none) = _
    rw [Ze7]
    cases h : x.val e <;> try rfl
    rename_i y
    cases y <;> try rfl
    rename_i t y
    dsimp only
    cases h2 : Zjz tab t with
    | none => rfl
    | some f => exact Zkv _ _ _ _ _ _ _
  · exact Zp6 _ _ _ _ _ _
  · exact ZpX _ _ _ _ _ _
  · exact Zkv _ _ _ _ _ _ _
  · rename_i x
    show (match elems H (x.val e) with | some xs => br (Nat.blt 0 xs.length) (k (.d (.bool false)) [] []) none | none => none) = on3 (match elems H (x.val e) with | some xs => (match Nat.blt 0 xs.length with | true => ZcF (.d (.bool false)) | false => none) | none => none) k
    cases elems H (x.val e) with
    | none => rfl
    | some xs =>
      dsimp only
      rw [Zdz]
      cases Nat.blt 0 xs.length <;> rfl
  · rename_i id args
    show (match H, ZiZ (vals e args) with | [], some l => bnd (ZjC id l) fun r => k (.d r) [] [] | _, _ => none) = on3 (match H, ZiZ (vals e args) with | [], some l => (match ZjC id l with | some r => ZcF (.d r) | none => none) | _, _ => none) k
    cases H <;> cases ZiZ (vals e args) <;> try rfl
    rename_i l
    dsimp only
    rw [Zel]
    cases ZjC id l <;> rfl
def Zlc (e : Env) (g : Option (Nat × Bool)) (x y : Option β) : Option β :=
  match g with
  | none => x
  | some (s, b) => match e s with | .d (.bool t) => brL (t == b) x y | .d (.tup []) => y | _ => none
theorem ZnD (e : Env) (g : Option (Nat × Bool)) (x y : Option β) : Zlc e g x y = (match ZeW e g with | some true => x | some false => y | none => none) := by
  unfold Zlc ZeW
  cases g with
  | none => rfl
  | some p =>
    obtain ⟨s, b⟩ := p
    dsimp only
    split <;> rename_i h
    · simp only [h, brL]; rename_i t; cases h2 : t == b <;> rfl
    · simp only [h]
    · split <;> simp_all
end
section
variable {β : Type}
def Zoc (e : Env) (dst : Option Nat) (H : Zm) (v : V) (up : List (Nat × Blk)) (nw : List Blk) (k : Env → Zm → Option β) : Option β :=
  ZoF v fun v => match dst with
    | some i => (match up, nw with
      | [], [] => k (e.set i v) H
      | up, nw => ZiN (ZdE H up ++ nw) fun H => k (e.set i v) H)
    | none => (match up, nw with
      | [], [] => k e H
      | up, nw => ZiN (ZdE H up ++ nw) fun H => k e H)
theorem Zpu (e : Env) (dst : Option Nat) (H : Zm) (v : V) (up : List (Nat × Blk)) (nw : List Blk) (k : Env → Zm → Option β) : Zoc e dst H v up nw k = k (Zm7 e dst v) (ZdE H up ++ nw) := by
  unfold Zoc
  rw [Zof]
  cases dst <;> dsimp only [Zm7]
  all_goals
    split
    · simp [ZdE]
    · rw [Zhz]
def Zpc (e : Env) (dst : Option Nat) (k : Env → Option β) : Option β := match dst with | some i => k (e.set i (.d (.tup []))) | none => k e
theorem Zpi (e : Env) (dst : Option Nat) (k : Env → Option β) : Zpc e dst k = k (Zm7 e dst (.d (.tup []))) := by cases dst <;> rfl
def ZqE : O → Bool
  | .mov _ => true
  | .pick _ _ _ => true
  | .build _ _ => true
  | .bin _ _ _ => true
  | .eqv _ _ _ _ => true
  | .un _ _ => true
  | .conv _ _ => true
  | .mkfn _ _ => true
  | .field _ _ _ _ => true
  | .index _ _ _ _ _ => true
  | .indexS _ _ => true
  | .mx _ _ => true
  | .extract _ _ => true
  | .bslice _ _ 0 _ => true
  | .alloc _ => true
  | .box _ => true
  | _ => false
theorem Zsb {Γ : Ctx} {cf : Zbe} {e : Env} {nid : Nat} {H H' : Zm} {op : O} (h : ZqE op = true) : opE Γ cf e nid H op = opE Γ cf e nid H' op := by
  cases op <;> first | rfl | (cases h; done) | skip
  rename_i sz z len ps
  cases len with
  | zero => rfl
  | succ n => cases h
noncomputable def ZrX (Γ : Ctx) (cf : Zbe) (l : List Op1) (e : Env) (H : Zm) (k : Env → Zm → Option β) : Option β :=
  List.rec (motive := fun _ => Env → Zm → (Env → Zm → Option β) → Option β) (fun e H k => k e H)
    (fun o _ ih e H k => Zlc e o.guard (Zdg H.length fun nid => opK Γ cf e nid H o.op fun v up nw => Zoc e o.dst H v up nw fun e H => ih e H k) (Zpc e o.dst fun e => ih e H k)) l e H k
theorem ZrN (Γ : Ctx) (cf : Zbe) (o : Op1) (r : List Op1) (e : Env) (H : Zm) (k : Env → Zm → Option β) :
    ZrX Γ cf (o :: r) e H k = Zlc e o.guard (Zdg H.length fun nid => opK Γ cf e nid H o.op fun v up nw => Zoc e o.dst H v up nw fun e H => ZrX Γ cf r e H k) (Zpc e o.dst fun e => ZrX Γ cf r e H k) := rfl
theorem ZoC (Γ : Ctx) (cf : Zbe) : ∀ (l : List Op1) (e : Env) (H : Zm) (k : Env → Zm → Option β), ZrX Γ cf l e H k = (match Zgy Γ cf l e H with | some (e, H) => k e H | none => none)
  | [], e, H, k => rfl
  | o :: l, e, H, k => by
    rw [ZrN]
    unfold Zgy
    rw [ZnD, Zdy, ZoU, Zpi]
    cases hw : ZeW e o.guard with
    | none => rfl
    | some b =>
      cases b with
      | false => exact ZoC Γ cf l _ _ k
      | true =>
        dsimp only
        cases ho : opE Γ cf e H.length H o.op with
        | none => rfl
        | some q => obtain ⟨v, up, nw⟩ := q; simp only [on3, Zpu]; exact ZoC Γ cf l _ _ k
def Zj1 (l : List (Nat × Nat)) (k : List (Nat × Nat) → Option β) : Option β :=
  match l with
  | [] => k []
  | p :: l => Zdg p.1 fun a => Zdg p.2 fun b => Zj1 l fun l => k ((a, b) :: l)
theorem Zld : ∀ (l : List (Nat × Nat)) (k : List (Nat × Nat) → Option β), Zj1 l k = k l
  | [], k => rfl
  | p :: l, k => by unfold Zj1; rw [Zdy, Zdy, Zld l]
def Zuj (o : O) (mask : List Nat) (H : Zm) (pos : List (Nat × Nat)) (k : Zm → Option β) : Option β :=
  match ZqE o with
  | true => k H
  | false => (match mask with | [] => k H | mask => ZiN (Zfu H pos mask) k)
noncomputable def Zog (Γ : Ctx) (cf : Zbe) (pos : List (Nat × Nat)) (l : List Op1) (e : Env) (H : Zm) (k : Env → Zm → Option β) : Option β :=
  List.rec (motive := fun _ => List (Nat × Nat) → Env → Zm → (Env → Zm → Option β) → Option β) (fun _ e H k => k e H)
    (fun o _ ih pos e H k => Zlc e o.guard (Zdg H.length fun nid => Zuj o.op o.mask H pos fun Hm => opK Γ cf e nid Hm o.op fun v up nw =>
      (match Znd e H o up nw with | true => Zdg nw.length fun m => Zj1 (pos ++ [(nid, m)]) fun pos => Zoc e o.dst H v up nw fun e' H' => ih pos e' H' k | false => none)) (Zpc e o.dst fun e' => Zdg H.length fun nid => Zj1 (pos ++ [(nid, 0)]) fun pos => ih pos e' H k)) l pos e H k
theorem Zqa (Γ : Ctx) (cf : Zbe) (pos : List (Nat × Nat)) (o : Op1) (r : List Op1) (e : Env) (H : Zm) (k : Env → Zm → Option β) :
    Zog Γ cf pos (o :: r) e H k = Zlc e o.guard (Zdg H.length fun nid => Zuj o.op o.mask H pos fun Hm => opK Γ cf e nid Hm o.op fun v up nw =>
      (match Znd e H o up nw with | true => Zdg nw.length fun m => Zj1 (pos ++ [(nid, m)]) fun pos => Zoc e o.dst H v up nw fun e' H' => Zog Γ cf pos r e' H' k | false => none)) (Zpc e o.dst fun e' => Zdg H.length fun nid => Zj1 (pos ++ [(nid, 0)]) fun pos => Zog Γ cf pos r e' H k) := rfl
theorem Zti (Γ : Ctx) (cf : Zbe) (e : Env) (nid : Nat) (o : O) (mask : List Nat) (H : Zm) (pos : List (Nat × Nat)) (k : K3 β) : (Zuj o mask H pos fun Hm => opK Γ cf e nid Hm o k) = opK Γ cf e nid (Zfu H pos mask) o k := by
  unfold Zuj
  cases h : ZqE o with
  | true => dsimp only; rw [ZoU, ZoU, Zsb h (H := H) (H' := Zfu H pos mask)]
  | false =>
    dsimp only
    cases mask with
    | nil => rfl
    | cons a l => dsimp only; rw [Zhz]
theorem Zm4 (Γ : Ctx) (cf : Zbe) : ∀ (l : List Op1) (pos : List (Nat × Nat)) (e : Env) (H : Zm) (k : Env → Zm → Option β), Zog Γ cf pos l e H k = (match ZeL Γ cf pos l e H with | some (e, H) => k e H | none => none)
  | [], pos, e, H, k => rfl
  | o :: l, pos, e, H, k => by
    rw [Zqa]
    unfold ZeL
    rw [ZnD, Zdy, Zti, ZoU, Zpi, Zdy, Zld]
    cases hw : ZeW e o.guard with
    | none => rfl
    | some b =>
      cases b with
      | false => exact Zm4 Γ cf l _ _ _ k
      | true =>
        dsimp only
        cases ho : opE Γ cf e H.length (Zfu H pos o.mask) o.op with
        | none => rfl
        | some q =>
          obtain ⟨v, up, nw⟩ := q
          simp only [on3]
          cases hb : (Znd e H o up nw) <;> simp only [cond_true, cond_false, Zpu, Zdy, Zld]
          exact Zm4 Γ cf l _ _ _ k
noncomputable def lpW (Γ : Ctx) (k : Nat) (live outs : List Nat) (a : C) (vs : List V) (H : Zm) : Option (Ex × List V × Zm) :=
  itW (fun vs H => ZdY k live outs (Zaf Γ (evW Γ) itW k a (ZdB live vs) H)) vs H
noncomputable def ZgO (Γ : Ctx) (k0 : Nat) (c : C) (e : Env) (H : Zm) (k : Ex → Env → Zm → Option β) : Option β :=
  C.rec (motive := fun _ => Env → Zm → (Ex → Env → Zm → Option β) → Option β)
    (fun e H k => k .normal e H) (fun e H k => k .ret e H) (fun id e H k => k (.exit id) e H)
    (fun _ _ ia ib e H k => ia e H fun x e H => (match x with | .normal => ib e H k | .exit i => k (.exit i) e H | .ret => k .ret e H))
    (fun x _ _ ia ib e H k => (match x.val e with | .d (.bool t) => brL t (ia e H k) (ib e H k) | _ => none))
    (fun id _ ia e H k => ia e H fun x e H => (match x with | .exit j => (match Nat.beq j id with | true => k .normal e H | false => k (.exit j) e H) | .normal => k .normal e H | .ret => k .ret e H))
    (fun live outs a _ e H k => ZmZ k0 (live.map e) H fun vs H => bnd (lpW Γ k0 live outs a vs H) fun r => k r.1 (ZdB outs r.2.1) r.2.2)
    (fun l e H k => ZrX Γ (evW Γ) l e H fun e H => k .normal e H)
    (fun l e H k => Zog Γ (evW Γ) [] l e H fun e H => k .normal e H) c e H k
theorem Zks (Γ : Ctx) (k0 : Nat) : ∀ (c : C) (e : Env) (H : Zm) (k : Ex → Env → Zm → Option β), ZgO Γ k0 c e H k = (match Zaf Γ (evW Γ) itW k0 c e H with | some (x, e, H) => k x e H | none => none) := by
  intro c
  induction c with
  | skip => intros; rfl
  | ret => intros; rfl
  | exit id => intros; rfl
  | seq a b iha ihb =>
    intro e H k
    show (ZgO Γ k0 a e H fun x e H => (match x with | .normal => ZgO Γ k0 b e H k | .exit i => k (.exit i) e H | .ret => k .ret e H)) = _
    unfold Zaf
    rw [iha]
    cases h : Zaf Γ (evW Γ) itW k0 a e H with
    | none => rfl
    | some q =>
      obtain ⟨x, e1, H1⟩ := q
      cases x with
      | normal => exact ihb e1 H1 k
      | exit i => rfl
      | ret => rfl
  | cond x a b iha ihb =>
    intro e H k
    show (match x.val e with | .d (.bool t) => brL t (ZgO Γ k0 a e H k) (ZgO Γ k0 b e H k) | _ => none) = _
    unfold Zaf
    cases h : x.val e <;> try rfl
    rename_i y
    cases y <;> try rfl
    rename_i t
    cases t
    · exact ihb e H k
    · exact iha e H k
  | block id a iha =>
    intro e H k
    show (ZgO Γ k0 a e H fun x e H => (match x with | .exit j => (match Nat.beq j id with | true => k .normal e H | false => k (.exit j) e H) | .normal => k .normal e H | .ret => k .ret e H)) = _
    unfold Zaf
    rw [iha]
    cases h : Zaf Γ (evW Γ) itW k0 a e H with
    | none => rfl
    | some q =>
      obtain ⟨x, e1, H1⟩ := q
      cases x with
      | normal => rfl
      | exit j => dsimp only; cases h2 : Nat.beq j id <;> rfl
      | ret => rfl
  | loop live outs a iha =>
    intro e H k
    show (ZmZ k0 (live.map e) H fun vs H => bnd (lpW Γ k0 live outs a vs H) fun r => k r.1 (ZdB outs r.2.1) r.2.2) = _
    unfold Zaf
    rw [Zpb]
    cases h : ZlJ k0 (live.map e) H with
    | none => rfl
    | some q =>
      obtain ⟨vs, H1⟩ := q
      simp only [lpW, Zel]
      cases h2 : itW (fun vs H => ZdY k0 live outs (Zaf Γ (evW Γ) itW k0 a (ZdB live vs) H)) vs H1 with
      | none => rfl
      | some r => obtain ⟨x, vs, H⟩ := r; rfl
  | ops l =>
    intro e H k
    show (ZrX Γ (evW Γ) l e H fun e H => k .normal e H) = _
    unfold Zaf
    rw [ZoC]
    cases h : Zgy Γ (evW Γ) l e H <;> rfl
  | draw l =>
    intro e H k
    show (Zog Γ (evW Γ) [] l e H fun e H => k .normal e H) = _
    unfold Zaf
    rw [Zm4]
    cases h : ZeL Γ (evW Γ) [] l e H <;> rfl
theorem ZwG (Γ : Ctx) (k : Nat) (live outs : List Nat) (a : C) (vs : List V) (H : Zm) :
    lpW Γ k live outs a vs H = ZgO Γ k a (ZdB live vs) H fun x e H => (match x with
      | .normal => ZmZ k (live.map e) H fun vs H => lpW Γ k live outs a vs H
      | x => Zfr k (outs.map e) H fun _ vs H => some (x, vs, H)) := by
  unfold lpW
  rw [Zwo, Zks]
  cases h : Zaf Γ (evW Γ) itW k a (ZdB live vs) H with
  | none => rfl
  | some q =>
    obtain ⟨x, e, H1⟩ := q
    cases x with
    | normal =>
      simp only [ZdY]
      rw [Zpb]
      cases h2 : ZlJ k (live.map e) H1 with
      | none => rfl
      | some r => obtain ⟨vs, H2⟩ := r; rfl
    | exit j =>
      simp only [ZdY]
      rw [Zc6]
      cases h2 : extract k (outs.map e) H1 with
      | none => rfl
      | some r => obtain ⟨L, vs, H2⟩ := r; rfl
    | ret =>
      simp only [ZdY]
      rw [Zc6]
      cases h2 : extract k (outs.map e) H1 with
      | none => rfl
      | some r => obtain ⟨L, vs, H2⟩ := r; rfl
theorem Zfm (Γ : Ctx) (f : Nat) (fn : FnI) (args : List V) (H : Zm) (hc : Γ.code f = some fn) (hn : Nat.beq args.length fn.nargs = true) :
    evW Γ f args H = ZgO Γ H.length fn.body (Zd4 0 args) H fun x e H1 => (match x with
      | .exit _ => none
      | _ => (match Zjl e H1 fn.res with
        | some l => Zfr H.length [Zf9 l] H1 fun _ vs H2 => (match vs with | [v] => some (v, H2) | _ => none)
        | none => none)) := by
  rw [ZwN]
  unfold Zis
  simp only [hc, hn, cond_true]
  rw [Zks]
  cases h : Zaf Γ (evW Γ) itW H.length fn.body (Zd4 0 args) H with
  | none => rfl
  | some q =>
    obtain ⟨x, e, H1⟩ := q
    cases x <;> try rfl
    all_goals
      dsimp only
      cases h2 : Zjl e H1 fn.res with
      | none => rfl
      | some l =>
        dsimp only
        rw [Zc6]
        cases h3 : extract H.length [Zf9 l] H1 with
        | none => rfl
        | some q =>
          obtain ⟨L, vs, H2⟩ := q
          match vs with
          | [] => rfl
          | [v] => rfl
          | _ :: _ :: _ => rfl
end
theorem ZuC {β : Type} (x y : Option β) : br true x y = x := Zdz _ _ _
theorem Zup {β : Type} (x y : Option β) : br false x y = y := Zdz _ _ _
theorem Zpp {β : Type} (x : Option β) : bnd x some = x := by rw [Zel]; cases x <;> rfl
attribute [irreducible] br bnd lpW
end Go.Proofs.YtnmbdjkbaihicaaDoorE
namespace Go.Proofs.YtnmbdjkbaihicaaDoorE
open Go
structure ZH where
 op : Int
 arg : Int
 work : Int
 deriving DecidableEq
structure ZJ where
 src : Int
 dst : Int
 deriving DecidableEq
structure Zr where
 maker : Int
 user : Int
 pos : Int
 deriving DecidableEq
structure Zn where
 ins : List Int
 outs : List Int
 deriving DecidableEq
structure Zi where
 period : Int
 deadline : Int
 parts : List ZH
 edges : List ZJ
 futures : List Zr
 barriers : List Zn
 deriving DecidableEq
abbrev Zb (n : Int) : D := .int .i64 n
abbrev ZqJ (τ : Bool) (l : List Int) : D := .list τ (l.map Zb)
abbrev ZV (p : ZH) : D := .agg [Zb p.op, Zb p.arg, Zb p.work]
abbrev ZS (e : ZJ) : D := .agg [Zb e.src, Zb e.dst]
abbrev Zu (f : Zr) : D := .agg [Zb f.maker, Zb f.user, Zb f.pos]
abbrev Zs (b : Zn) : D := .agg [ZqJ true b.ins, ZqJ true b.outs]
abbrev ZwV (τ : Bool) (d : Zi) : D := .agg [Zb d.period, Zb d.deadline, .list τ (d.parts.map ZV), .list τ (d.edges.map ZS), .list τ (d.futures.map Zu), .list τ (d.barriers.map Zs)]
end Go.Proofs.YtnmbdjkbaihicaaDoorE
namespace Go.Proofs.YtnmbdjkbaihicaaDoorE
open Go
set_option linter.unusedVariables false
set_option linter.unusedSimpArgs false
theorem Zwr {n : Int} (h1 : -9223372036854775808 ≤ n) (h2 : n < 9223372036854775808) : IntKind.i64.wrap n = n := by
 show (if (true && decide (n % 18446744073709551616 ≥ 9223372036854775808)) = true then n % 18446744073709551616 - 18446744073709551616 else n % 18446744073709551616) = n
 by_cases h : n % 18446744073709551616 ≥ 9223372036854775808
 ·rw [decide_eq_true h]; simp only [Bool.and_self, if_true]; omega
 ·rw [decide_eq_false h]; simp only [Bool.and_false, Bool.false_eq_true, if_false]; omega
theorem ZsF {α : Type} (xs : List α) (i : Nat) : ZB xs (i : Int) = xs[i]? := by
 unfold ZB
 have : decide ((0 : Int) ≤ i) = true := by simp
 rw [this]; simp [ZW]
theorem ZaW (Γ : Ctx) (k : Nat) (live outs : List Nat) (a : C) (vs : List V) (H : Zm) :
  lpW Γ k live outs a vs H = ZgO Γ k a (ZdB live vs) H fun x e H => (match x with
   | .normal => ZmZ k (live.map e) H fun vs H => bnd (lpW Γ k live outs a vs H) some
   | x => Zfr k (outs.map e) H fun _ vs H => some (x, vs, H)) := by
 refine (ZwG Γ k live outs a vs H).trans (congrArg (ZgO Γ k a (ZdB live vs) H) ?_)
 funext x e H
 cases x
 ·exact congrArg (ZmZ k (live.map e) H) (funext fun vs => funext fun H => (Zpp _).symm)
 ·rfl
 ·rfl
theorem Zec {α : Type} {f : α → D} {sz : Nat} (hf : ∀ x, (f x).cells.length = sz ∧ (V.d (f x)).okb = true) (l : List α) (i : Nat) : Zir sz (l.map f) i = true := by
 unfold Zir
 rw [ZW, List.getElem?_map]
 cases l[i]? with
 | none => rfl
 | some x => simp [hf x]
theorem Zw5 {β : Type} {c : Bool} {x y : Option β} (h : c = true) : br c x y = x := by rw [h, ZuC]
theorem ZxR {β : Type} {c : Bool} {x y : Option β} (h : c = false) : br c x y = y := by rw [h, Zup]
def first {α : Type} (p : α → Bool) : Nat → List α → Option Nat
 | _, [] => none
 | i, x :: l => bif p x then some i else first p (i + 1) l
theorem ZvX {Γ : Ctx} {f : Nat} {args : List V} {H : Zm} {r : V × Zm} (n : Nat) (h : evN Γ n f args H = some r) : evW Γ f args H = some r := (ZgW Γ f args H r).2 ⟨n, h⟩
end Go.Proofs.YtnmbdjkbaihicaaDoorE
namespace Go.Proofs.YtnmbdjkbaihicaaDoorE
open Go
set_option linter.unusedVariables false
set_option linter.unusedSimpArgs false
theorem ZoJ {α : Type} {f : α → D} {p : α → Prop} : ∀ {xs : List D}, (∀ y ∈ xs, ∃ a, y = f a ∧ p a) → ∃ l : List α, xs = l.map f ∧ ∀ a ∈ l, p a
 | [], _ => ⟨[], rfl, by simp⟩
 | x :: xs, h => by
  obtain ⟨a, ha, hp⟩ := h x (by simp)
  obtain ⟨l, hl, hq⟩ := ZoJ (xs := xs) fun y hy => h y (by simp [hy])
  refine ⟨a :: l, by rw [ha, hl]; rfl, fun b hb => ?_⟩
  rcases List.mem_cons.1 hb with rfl | hb
  ·exact hp
  ·exact hq b hb
def I64 (n : Int) : Prop := -9223372036854775808 ≤ n ∧ n < 9223372036854775808
theorem ZgC {n : Int} (h : (Lit.int .i64 n).wf = true) : I64 n := by
 unfold Lit.wf at h
 simp only [Bool.and_eq_true, decide_eq_true_eq] at h
 have e1 : IntKind.i64.min = -9223372036854775808 := by decide
 have e2 : IntKind.i64.max = 9223372036854775807 := by decide
 rw [e1, e2] at h
 unfold I64
 omega
theorem ZwE {y : D} {n : Nat} (h : y.isAgg = true) : y = .agg y.cells := by
 cases y <;> first | rfl | cases h
theorem Zun {y : D} (h : y.isAgg = false) : y.cells = [y] := by
 cases y <;> first | rfl | cases h
theorem ZvB {n : Nat} (h : n ≤ maxLen) : n < 9223372036854775808 := by
 unfold maxLen at h; omega
def Zuk (l : List Int) : Prop := l.length < 9223372036854775808 ∧ ∀ n ∈ l, I64 n
theorem Zot {x : D} (h : ZuN (.sl false [.int .i64]) x) : ∃ l, x = ZqJ true l ∧ Zuk l := by
 obtain ⟨xs, rfl, h1, h2⟩ := h
 obtain ⟨l, hl, hp⟩ := ZoJ (f := Zb) (p := I64) (xs := xs) fun y hy => by
  obtain ⟨a1, a2⟩ := h2 y hy
  rw [Zun a1] at a2
  obtain ⟨d, r, e1, ⟨n, e2, e3⟩, _⟩ := a2
  cases e1
  exact ⟨n, e2, ZgC e3⟩
 subst hl
 exact ⟨l, rfl, by simpa using ZvB h1, hp⟩
def ZtP (p : ZH) : Prop := I64 p.op ∧ I64 p.arg ∧ I64 p.work
def ZsI (e : ZJ) : Prop := I64 e.src ∧ I64 e.dst
def ZpT (f : Zr) : Prop := I64 f.maker ∧ I64 f.user ∧ I64 f.pos
def Zod (b : Zn) : Prop := Zuk b.ins ∧ Zuk b.outs
structure ZwI (d : Zi) : Prop where
 period : I64 d.period
 deadline : I64 d.deadline
 pl : d.parts.length < 9223372036854775808
 p : ∀ x ∈ d.parts, ZtP x
 el : d.edges.length < 9223372036854775808
 e : ∀ x ∈ d.edges, ZsI x
 fl : d.futures.length < 9223372036854775808
 f : ∀ x ∈ d.futures, ZpT x
 bl : d.barriers.length < 9223372036854775808
 b : ∀ x ∈ d.barriers, Zod x
theorem ZlZ {x : D} {els : List Lf} {α : Type} {f : α → D} {p : α → Prop} (h : ZuN (.sl true els) x) (hf : ∀ cs, Zfv els cs → ∃ a, D.agg cs = f a ∧ p a) : ∃ l : List α, x = .list true (l.map f) ∧ l.length < 9223372036854775808 ∧ ∀ a ∈ l, p a := by
 obtain ⟨xs, rfl, h1, h2⟩ := h
 obtain ⟨l, hl, hp⟩ := ZoJ (f := f) (p := p) (xs := xs) fun y hy => by
  obtain ⟨a1, a2⟩ := h2 y hy
  rw [ZwE (n := 0) a1]
  exact hf _ a2
 subst hl
 exact ⟨l, rfl, by simpa using ZvB h1, hp⟩
abbrev Zxr : List Lf := [.int .i64, .int .i64, .sl true [.int .i64, .int .i64, .int .i64], .sl true [.int .i64, .int .i64], .sl true [.int .i64, .int .i64, .int .i64], .sl true [.sl false [.int .i64], .sl false [.int .i64]]]
theorem ZuM {xs : List D} (h : Zfv Zxr xs) : ∃ d, D.agg xs = ZwV true d ∧ ZwI d := by
 obtain ⟨x1, r1, rfl, ⟨n1, rfl, w1⟩, x2, r2, rfl, ⟨n2, rfl, w2⟩, x3, r3, rfl, h3, x4, r4, rfl, h4, x5, r5, rfl, h5, x6, r6, rfl, h6, rfl⟩ := h
 obtain ⟨l3, rfl, b3, p3⟩ := ZlZ (f := ZV) (p := ZtP) h3 fun cs hc => by
  obtain ⟨_, _, rfl, ⟨a, rfl, wa⟩, _, _, rfl, ⟨b, rfl, wb⟩, _, _, rfl, ⟨c, rfl, wc⟩, rfl⟩ := hc
  exact ⟨⟨a, b, c⟩, rfl, ZgC wa, ZgC wb, ZgC wc⟩
 obtain ⟨l4, rfl, b4, p4⟩ := ZlZ (f := ZS) (p := ZsI) h4 fun cs hc => by
  obtain ⟨_, _, rfl, ⟨a, rfl, wa⟩, _, _, rfl, ⟨b, rfl, wb⟩, rfl⟩ := hc
  exact ⟨⟨a, b⟩, rfl, ZgC wa, ZgC wb⟩
 obtain ⟨l5, rfl, b5, p5⟩ := ZlZ (f := Zu) (p := ZpT) h5 fun cs hc => by
  obtain ⟨_, _, rfl, ⟨a, rfl, wa⟩, _, _, rfl, ⟨b, rfl, wb⟩, _, _, rfl, ⟨c, rfl, wc⟩, rfl⟩ := hc
  exact ⟨⟨a, b, c⟩, rfl, ZgC wa, ZgC wb, ZgC wc⟩
 obtain ⟨l6, rfl, b6, p6⟩ := ZlZ (f := Zs) (p := Zod) h6 fun cs hc => by
  obtain ⟨_, _, rfl, ha, _, _, rfl, hb, rfl⟩ := hc
  obtain ⟨a, rfl, wa⟩ := Zot ha
  obtain ⟨b, rfl, wb⟩ := Zot hb
  exact ⟨⟨a, b⟩, rfl, wa, wb⟩
 exact ⟨⟨n1, n2, l3, l4, l5, l6⟩, rfl, ZgC w1, ZgC w2, b3, p3, b4, p4, b5, p5, b6, p6⟩
end Go.Proofs.YtnmbdjkbaihicaaDoorE
namespace Go.Proofs.YtnmbdjkbaihicaaDoorE
open Go
set_option linter.unusedVariables false
set_option linter.unusedSimpArgs false
def lpN {S R : Type} (step : S → Option (S ⊕ R)) : Nat → S → Option R
 | 0, _ => none
 | n + 1, s => (match step s with | some (.inl s') => lpN step n s' | some (.inr r) => some r | none => none)
theorem Zp7 {S R : Type} (step : S → Option (S ⊕ R)) : ∀ (n m : Nat) (s : S) (r : R), n ≤ m → lpN step n s = some r → lpN step m s = some r
 | 0, _, _, _, _, h => by cases h
 | n + 1, 0, _, _, hm, _ => by omega
 | n + 1, m + 1, s, r, hm, h => by
  unfold lpN at h ⊢
  cases hs : step s with
  | none => rw [hs] at h; cases h
  | some t =>
   rw [hs] at h
   cases t with
   | inl s' => exact Zp7 step n m s' r (by omega) h
   | inr r' => exact h
noncomputable def lp {S R : Type} (step : S → Option (S ⊕ R)) (s : S) : Option R := @dite _ (∃ n, (lpN step n s).isSome = true) (Classical.propDecidable _) (fun h => lpN step (Classical.choose h) s) fun _ => none
theorem ZtL {S R : Type} {step : S → Option (S ⊕ R)} {s : S} {r : R} {n : Nat} (h : lpN step n s = some r) : lp step s = some r := by
 unfold lp
 have hx : ∃ n, (lpN step n s).isSome = true := ⟨n, by rw [h]; rfl⟩
 rw [dif_pos hx]
 have h2 := Classical.choose_spec hx
 cases h3 : lpN step (Classical.choose hx) s with
 | none => rw [h3] at h2; cases h2
 | some q =>
  have h4 := Zp7 step _ (max n (Classical.choose hx)) s q (by omega) h3
  have h5 := Zp7 step _ (max n (Classical.choose hx)) s r (by omega) h
  rw [h4] at h5
  exact h5
theorem Zs0 {S R : Type} {step : S → Option (S ⊕ R)} {s : S} {r : R} (h : lp step s = some r) : ∃ n, lpN step n s = some r := by
 unfold lp at h
 split at h
 ·exact ⟨_, h⟩
 ·cases h
theorem Zbv {S R : Type} (step : S → Option (S ⊕ R)) (s : S) : lp step s = (match step s with | some (.inl s') => lp step s' | some (.inr r) => some r | none => none) := by
 have key : ∀ r, lp step s = some r ↔ (match step s with | some (.inl s') => lp step s' | some (.inr r) => some r | none => none) = some r := by
  intro r
  constructor
  ·intro h
   obtain ⟨n, hn⟩ := Zs0 h
   cases n with
   | zero => cases hn
   | succ n =>
    unfold lpN at hn
    cases hs : step s with
    | none => rw [hs] at hn; cases hn
    | some t =>
     rw [hs] at hn
     cases t with
     | inl s' => exact ZtL hn
     | inr r' => exact hn
  ·intro h
   cases hs : step s with
   | none => rw [hs] at h; cases h
   | some t =>
    rw [hs] at h
    cases t with
    | inl s' =>
     obtain ⟨n, hn⟩ := Zs0 h
     exact ZtL (n := n + 1) (by unfold lpN; rw [hs]; exact hn)
    | inr r' => exact ZtL (n := 1) (by unfold lpN; rw [hs]; exact h)
 cases h1 : lp step s with
 | some r => exact ((key r).1 h1).symm
 | none =>
  cases h2 : (match step s with | some (.inl s') => lp step s' | some (.inr r) => some r | none => none) with
  | none => rfl
  | some r => rw [(key r).2 h2] at h1; cases h1
theorem Zl3 {S R : Type} {step : S → Option (S ⊕ R)} {s s' : S} (h : step s = some (.inl s')) : lp step s = lp step s' := by rw [Zbv, h]
theorem Zvb {S R : Type} {step : S → Option (S ⊕ R)} {s : S} {r : R} (h : step s = some (.inr r)) : lp step s = some r := by rw [Zbv, h]
noncomputable def Zsj {R : Type} (g : Nat → Option R) : Option R := @dite _ (∃ r : R, ∃ N, ∀ n, N ≤ n → g n = some r) (Classical.propDecidable _) (fun h => some (Classical.choose h)) fun _ => none
theorem Zut {R : Type} {g : Nat → Option R} {r : R} (h : Zsj g = some r) : ∃ n, g n = some r := by
 unfold Zsj at h
 split at h
 ·rename_i hx
  obtain ⟨N, hN⟩ := Classical.choose_spec hx
  exact ⟨N, (hN N (Nat.le_refl _)).trans h⟩
 ·cases h
theorem Zuv {R : Type} {g : Nat → Option R} {N : Nat} {r : R} (h : ∀ n, N ≤ n → g n = some r) : Zsj g = some r := by
 have hx : ∃ r : R, ∃ N, ∀ n, N ≤ n → g n = some r := ⟨r, N, h⟩
 unfold Zsj
 rw [dif_pos hx]
 obtain ⟨M, hM⟩ := Classical.choose_spec hx
 rw [← hM (max N M) (by omega), h (max N M) (by omega)]
def ZP {α β : Type} (E : Option α) (Q : α → Option β → Prop) (rhs : Option β) : Prop := ∀ a, E = some a → Q a rhs
section
variable {α β : Type} {A B : Option α} {Q : α → Option β → Prop}
theorem Ze {c c' : Bool} {X Y : Option β} (h : c = c') (h1 : ZP A Q X) (h2 : ZP B Q Y) : ZP (bif c' then A else B) Q (br c X Y) := by
 subst h
 cases c with
 | true => rw [ZuC]; exact h1
 | false => rw [Zup]; exact h2
theorem ZbZ {c : Bool} {X Y : Option β} (h : c = true) (h1 : ZP A Q X) : ZP A Q (br c X Y) := by rw [h, ZuC]; exact h1
theorem Zae {c : Bool} {X Y : Option β} (h : c = false) (h1 : ZP A Q Y) : ZP A Q (br c X Y) := by rw [h, Zup]; exact h1
theorem Zo {γ : Type} {x x' : γ} {K : γ → Option β} (h : x = x') (k : ZP A Q (K x')) : ZP A Q (bnd (some x) K) := by rw [h, ZiK]; exact k
theorem Zg {γ : Type} {X : Option γ} {x : γ} {K : γ → Option β} (h : X = some x) (k : ZP A Q (K x)) : ZP A Q (bnd X K) := by rw [h, ZiK]; exact k
theorem Zc {γ δ : Type} {E : Option γ} {A : γ → Option α} {X : Option δ} {K : δ → Option β} (enc : γ → δ) (h : ∀ r, E = some r → X = some (enc r)) (k : ∀ r, E = some r → ZP (A r) Q (K (enc r))) : ZP (E.bind A) Q (bnd X K) := by
 intro a ha
 cases hE : E with
 | none => rw [hE] at ha; cases ha
 | some r =>
  rw [hE] at ha
  rw [h r hE, ZiK]
  exact k r hE a ha
theorem Zpw {γ δ : Type} (f : γ → δ) (l : List γ) (i : Int) : ZB (l.map f) i = (ZB l i).map f := by
 unfold ZB
 cases decide (0 ≤ i) with
 | false => rfl
 | true => simp only [cond_true, ZW, List.getElem?_map]
theorem Zl {γ : Type} {f : γ → D} {l : List γ} {xs : List D} {i i' : Int} {A : γ → Option α} {K : D → Option β} (hx : xs = l.map f) (hi : i = i') (k : ∀ r, ZB l i' = some r → ZP (A r) Q (K (f r))) : ZP ((ZB l i').bind A) Q (bnd (ZB xs i) K) := by
 subst hx hi
 exact Zc f (fun r h => by rw [Zpw, h]; rfl) k
theorem Zv {γ : Type} {f : γ → D} {l : List γ} {xs : List D} {i : Int} {r : γ} (hx : xs = l.map f) (h : ZB l i = some r) : nth xs i.toNat = some (f r) := by
 subst hx
 unfold ZB at h
 cases hd : decide (0 ≤ i) with
 | false => rw [hd] at h; cases h
 | true => rw [hd, cond_true, ZW] at h; rw [ZW, List.getElem?_map, h]; rfl
theorem Zbc {γ : Type} {f : γ → D} {l : List γ} {xs : List D} {i : Int} {r : γ} (hx : xs = l.map f) (h : ZB l i = some r) : ZB xs i = some (f r) := by
 subst hx
 rw [Zpw, h]; rfl
theorem ZfO {γ : Type} {E X : Option γ} {A : γ → Option α} {K : γ → Option β} (h : X = E) (k : ∀ r, E = some r → ZP (A r) Q (K r)) : ZP (E.bind A) Q (bnd X K) := by
 subst h
 exact Zc id (fun r h => h) k
theorem Zf {a : α} {X : Option β} (h : Q a X) : ZP (some a) Q X := fun b hb => by cases hb; exact h
theorem Z9 {X : Option β} : ZP (none : Option α) Q X := fun b hb => by cases hb
theorem Zp5 {sz : Nat} {ag : Bool} {cs : List V} {i e : Int} {A0 A1 A2 A3 : Option α} {K : V → Option β} (hi : i = e) (h0 : ZP A0 Q (bnd (ZcI sz ag (cs.drop ((0 : Int).toNat * sz))) K)) (h1 : ZP A1 Q (bnd (ZcI sz ag (cs.drop ((1 : Int).toNat * sz))) K))
  (h2 : ZP A2 Q (bnd (ZcI sz ag (cs.drop ((2 : Int).toNat * sz))) K)) (h3 : ZP A3 Q (bnd (ZcI sz ag (cs.drop ((3 : Int).toNat * sz))) K)) :
  ZP (bif (e == 0) then A0 else bif (e == 1) then A1 else bif (e == 2) then A2 else bif (e == 3) then A3 else none) Q (bnd (ZcI sz ag (cs.drop (i.toNat * sz))) K) := by
 subst hi
 by_cases c0 : i = 0
 ·subst c0; exact h0
 by_cases c1 : i = 1
 ·subst c1; exact h1
 by_cases c2 : i = 2
 ·subst c2; exact h2
 by_cases c3 : i = 3
 ·subst c3; exact h3
 rw [beq_false_of_ne c0, beq_false_of_ne c1, beq_false_of_ne c2, beq_false_of_ne c3]
 exact Z9
theorem ZuH {γ : Type} (f : γ → D) (l : List γ) : Nat.blt 0 (List.map f l).length = Nat.blt 0 (List.length l) := by rw [List.length_map]
def mpD {K W : Type} (f : K → D) (g : W → D) (l : List (K × W)) : List (D × D) := l.map fun q => (f q.1, g q.2)
def Zfx {K W : Type} (eq : K → K → Bool) : List (K × W) → K → W → W
 | [], _, z => z
 | (a, v) :: r, k, z => bif eq k a then v else Zfx eq r k z
def ZkT {K W : Type} (eq : K → K → Bool) : List (K × W) → K → W → List (K × W)
 | [], k, v => [(k, v)]
 | (a, u) :: r, k, v => bif eq k a then (a, v) :: r else (a, u) :: ZkT eq r k v
theorem Zso {K W : Type} {f : K → D} {g : W → D} (eq : K → K → Bool) (he : ∀ a b, eqD (f a) (f b) = some (eq a b)) (l : List (K × W)) (k : K) (z : W) : ZsH (mpD f g l) (f k) (g z) = some (g (Zfx eq l k z)) := by
 induction l with
 | nil => rfl
 | cons q r ih =>
  obtain ⟨a, v⟩ := q
  show (match (match eqD (f k) (f a) with | some true => some (some (g v)) | some false => ZhK (mpD f g r) (f k) | none => none) with | some (some y) => some y | some none => some (g z) | none => none) = _
  rw [he]
  unfold Zfx
  cases eq k a with
  | true => rfl
  | false => exact ih
theorem ZtX {K W : Type} {f : K → D} {g : W → D} (eq : K → K → Bool) (he : ∀ a b, eqD (f a) (f b) = some (eq a b)) (l : List (K × W)) (k : K) (v : W) : Zhc (mpD f g l) (f k) (g v) = some (mpD f g (ZkT eq l k v)) := by
 induction l with
 | nil => rfl
 | cons q r ih =>
  obtain ⟨a, u⟩ := q
  show (match eqD (f k) (f a) with | some true => some ((f a, g v) :: mpD f g r) | some false => (match Zhc (mpD f g r) (f k) (g v) with | some l => some ((f a, g u) :: l) | none => none) | none => none) = _
  rw [he]
  unfold ZkT
  cases eq k a with
  | true => rfl
  | false => dsimp only; rw [ih]; rfl
noncomputable def evD (Γ : Ctx) (f : Nat) (args : List V) : Option D := bnd (evW Γ f args []) fun r => (match fr r.2 6 r.1 with | some (x, _) => some x | none => none)
theorem Zsa (Γ : Ctx) (f : Nat) (args : List V) (K : V → Option β) : bnd (evW Γ f args []) (ZmY K) = bnd (evD Γ f args) (fun x => Zty x K) := by
 unfold evD ZmY
 simp only [Zel]
 cases evW Γ f args [] with
 | none => rfl
 | some r =>
  dsimp only
  cases fr r.2 6 r.1 with
  | none => rfl
  | some q => rfl
theorem Zk {γ : Type} {Γ : Ctx} {f : Nat} {args args' : List V} {E : Option γ} {A : γ → Option α} {K : V → Option β} (enc : γ → D) (w : ∀ r, E = some r → evD Γ f args' = some (enc r)) (ha : args = args') (k : ∀ r, E = some r → ZP (A r) Q (Zty (enc r) K)) : ZP (E.bind A) Q (bnd (evW Γ f args []) (ZmY K)) := by
 subst ha
 rw [Zsa]
 exact Zc enc w k
end
theorem ZrS {β δ : Type} (Γ : Ctx) (k0 : Nat) (c : C) (e : Env) (H : Zm) (k : Ex → Env → Zm → Option β) (p : β → Option δ) : bnd (ZgO Γ k0 c e H k) p = ZgO Γ k0 c e H fun x e H => bnd (k x e H) p := by
 rw [Zks, Zks]
 cases Zaf Γ (evW Γ) itW k0 c e H with
 | none => exact Zel _ _
 | some q => rfl
theorem Za1 (Γ : Ctx) (f : Nat) (fn : FnI) (args : List V) (hc : Γ.code f = some fn) (hn : Nat.beq args.length fn.nargs = true) :
  evD Γ f args = ZgO Γ 0 fn.body (Zd4 0 args) [] fun x e H1 => (match x with
   | .exit _ => none
   | _ => (match Zjl e H1 fn.res with
    | some l => Zfr 0 [Zf9 l] H1 fun _ vs H2 => (match vs with | [v] => (match fr H2 6 v with | some (x, _) => some x | none => none) | _ => none)
    | none => none)) := by
 unfold evD
 rw [Zfm Γ f fn args [] hc hn, ZrS]
 refine congrArg (ZgO Γ 0 fn.body (Zd4 0 args) []) ?_
 funext x e H1
 have none_b : ∀ {γ δ : Type} (p : γ → Option δ), bnd none p = none := fun p => Zel _ _
 cases x with
 | exit j => exact none_b _
 | normal =>
  dsimp only
  cases Zjl e H1 fn.res with
  | none => exact none_b _
  | some l =>
   dsimp only
   rw [Zc6, Zc6]
   show bnd (match extract 0 [Zf9 l] H1 with | some (L, vs, H) => _ | none => none) _ = _
   cases extract 0 [Zf9 l] H1 with
   | none => exact none_b _
   | some q =>
    obtain ⟨L, vs, H2⟩ := q
    match vs with
    | [] => exact none_b _
    | [v] => exact ZiK _ _
    | _ :: _ :: _ => exact none_b _
 | ret =>
  dsimp only
  cases Zjl e H1 fn.res with
  | none => exact none_b _
  | some l =>
   dsimp only
   rw [Zc6, Zc6]
   show bnd (match extract 0 [Zf9 l] H1 with | some (L, vs, H) => _ | none => none) _ = _
   cases extract 0 [Zf9 l] H1 with
   | none => exact none_b _
   | some q =>
    obtain ⟨L, vs, H2⟩ := q
    match vs with
    | [] => exact none_b _
    | [v] => exact ZiK _ _
    | _ :: _ :: _ => exact none_b _
theorem ZvR {Γ : Ctx} {f : Nat} {args : List V} {x : D} (n : Nat) (h : (match evN Γ n f args [] with | some (v, H) => (match fr H 6 v with | some (x, _) => some x | none => none) | none => none) = some x) : evD Γ f args = some x := by
 cases hn : evN Γ n f args [] with
 | none => rw [hn] at h; cases h
 | some r =>
  rw [hn] at h
  obtain ⟨v, H⟩ := r
  unfold evD
  rw [ZvX n hn, ZiK]
  exact h
theorem ZaY {S R β : Type} {step : S → Option (S ⊕ R)} {G : S → Option β} (x : R → β)
  (h : ∀ (s : S) (rec : S → Option R), (∀ s r, rec s = some r → G s = some (x r)) → ZP (step s) (fun t rhs => (match t with | .inl s' => ∀ r, rec s' = some r → rhs = some (x r) | .inr r => rhs = some (x r))) (G s)) : ∀ s r, lp step s = some r → G s = some (x r) := by
 intro s r hr
 obtain ⟨n, hn⟩ := Zs0 hr
 clear hr
 induction n generalizing s r with
 | zero => cases hn
 | succ n ih =>
  unfold lpN at hn
  cases hs : step s with
  | none => rw [hs] at hn; cases hn
  | some t =>
   rw [hs] at hn
   have := h s (lpN step n) ih t hs
   cases t with
   | inl s' => exact this r hn
   | inr r' => cases hn; exact this
theorem Zd {S R β : Type} {G : Option β} {rec : S → Option R} {x : R → β} {s' : S} (h : ∀ r, rec s' = some r → G = some (x r)) : ZP (some (Sum.inl s')) (fun (t : S ⊕ R) (rhs : Option β) => (match t with | .inl s' => ∀ r, rec s' = some r → rhs = some (x r) | .inr r => rhs = some (x r))) (bnd G some) := by
 intro a ha
 cases ha
 intro r hr
 rw [Zpp]
 exact h r hr
theorem ZtJ {Γ : Ctx} {f : Nat} {args : List V} (h : evD Γ f args = some (.bool true)) : ∃ H', evW Γ f args [] = some (.d (.bool true), H') := by
 unfold evD at h
 rw [Zel] at h
 cases he : evW Γ f args [] with
 | none => rw [he] at h; cases h
 | some r =>
  obtain ⟨v, H⟩ := r
  rw [he] at h
  refine ⟨H, ?_⟩
  dsimp only at h
  cases hf : fr H 6 v with
  | none => rw [hf] at h; cases h
  | some q =>
   obtain ⟨x, ks⟩ := q
   rw [hf] at h
   cases h
   unfold fr at hf
   split at hf
   ·rename_i x
    split at hf
    ·rename_i ts
     cases he : Zqx ts <;> rw [he] at hf <;> cases hf
    ·rename_i y hy
     cases he : x.esc <;> rw [he] at hf <;> cases hf
     rfl
   all_goals
    first
    | cases hf
    | (split at hf <;> first | cases hf | (rename_i sz' xs _; revert hf; cases Nat.beq _ sz' <;> intro hf <;> cases hf) | skip)
   all_goals
    rename_i l ks _
    first
    | (cases he : D.escs l <;> rw [he] at hf <;> cases hf)
    | cases hf
theorem ZoO {α β : Type} {A B : Option α} {Q : α → Option β → Prop} {X : Option β} (h : ZP A Q X) : ZP (bif true then A else B) Q X := h
theorem ZoH {α β : Type} {A B : Option α} {Q : α → Option β → Prop} {X : Option β} (h : ZP B Q X) : ZP (bif false then A else B) Q X := h
abbrev w64 (n : Int) : Int := IntKind.i64.wrap n
section
variable {γ : Type}
theorem ZI (f : γ → D) (l : List γ) : (((List.map f l).length : Nat) : Int) = ((l.length : Nat) : Int) := by rw [List.length_map]
theorem Zro (f : γ → D) (z : γ) (n : Int) : List.replicate n.toNat (f z) = List.map f (List.replicate n.toNat z) := by rw [List.map_replicate]
theorem Zn4 {α : Type} : ∀ (l : List α) (i : Nat) (y : α), Zez l i y = l.set i y
 | [], _, _ => rfl
 | _ :: _, 0, _ => rfl
 | x :: l, i + 1, y => congrArg (x :: ·) (Zn4 l i y)
theorem Zat (f : γ → D) (l : List γ) (i : Nat) (y : γ) : Zez (List.map f l) i (f y) = List.map f (List.set l i y) := by rw [Zn4, List.map_set]
theorem Zi4 (f : γ → D) (l m : List γ) : List.map f l ++ List.map f m = List.map f (l ++ m) := by rw [List.map_append]
theorem Zje (f : γ → D) (l : List γ) (n : Nat) : Nat.ble ((List.map f l).length + n) lim = Nat.ble (l.length + n) lim := by rw [List.length_map]
theorem Zeb (f : γ → D) (l : List γ) : Nat.ble (List.map f l).length lim = Nat.ble l.length lim := by rw [List.length_map]
theorem Zwp (f : γ → D) (l : List γ) (o n : Nat) : List.take n (List.drop o (List.map f l)) = List.map f (List.take n (List.drop o l)) := by rw [← List.map_drop, ← List.map_take]
theorem Zq6 (f : γ → D) (l : List γ) (hi : Nat) : List.take (hi - 0) (List.drop 0 (List.map f l)) = List.map f (List.take hi l) := by rw [Zwp]; rfl
theorem Zvm (f : γ → D) (l : List γ) (hi : Nat) : (Nat.ble 0 hi && Nat.ble hi (List.map f l).length) = Nat.ble hi l.length := by rw [List.length_map]; cases hi <;> rfl
end
end Go.Proofs.YtnmbdjkbaihicaaDoorE
