/- SourceMay: part 5 of 7 of the proof. -/
import Derived.Test.YtnmbdjkbaihicaaDoorZSourceMayd
import Derived.KernelRfl
import Derived.Sort.AssemblyPlain
set_option maxRecDepth 100000
set_option maxHeartbeats 40000000
namespace Go.Proofs.YtnmbdjkbaihicaaDoorE
open Go
set_option linter.unusedVariables false
set_option linter.unusedSimpArgs false
noncomputable def bnd {α β : Type} (x : Option α) (k : α → Option β) : Option β := @dite _ (∃ a, x = some a) (Classical.propDecidable _) (fun h => k (Classical.choose h)) fun _ => none
theorem Zd8 {α β : Type} (x : Option α) (k : α → Option β) : bnd x k = (match x with | some a => k a | none => none) := by
  unfold bnd
  cases x with
  | none => exact dif_neg (fun ⟨a, h⟩ => by cases h)
  | some a =>
    have h : ∃ b, some a = some b := ⟨a, rfl⟩
    rw [dif_pos h]
    have := Classical.choose_spec h
    rw [← Option.some.inj this]
theorem ZiF {α β : Type} (a : α) (k : α → Option β) : bnd (some a) k = k a := Zd8 _ _
section
variable {β : Type}
def ZBh : List Nat := [0, 1, 2, 3, 4, 5, 6, 7, 8, 9, 10, 11, 12, 13, 14, 15, 16, 17, 18, 19, 20, 21, 22, 23, 24, 25, 26, 27, 28, 29, 30, 31, 32, 33, 34, 35, 36, 37, 38, 39, 40, 41, 42, 43, 44, 45, 46, 47, 48, 49, 50, 51, 52, 53, 54, 55, 56, 57, 58, 59, 60, 61, 62, 63]
def fgo (n : Nat) (k : Nat → Option β) : List Nat → Option β
  | [] => k n
  | a :: l => match Nat.beq n a with | true => k a | false => fgo n k l
def Zdh (n : Nat) (k : Nat → Option β) : Option β := fgo n k ZBh
def ZgH (v : V) (k : V → Option β) : Option β :=
  match v with
  | .d x => k (.d x) | .bad => k .bad | .ptr b o => Zdh b fun b => Zdh o fun o => k (.ptr b o) | .eptr b sz i j => Zdh b fun b => Zdh j fun j => k (.eptr b sz i j)
  | .sl b sz => Zdh b fun b => k (.sl b sz) | .slp b sz o l => Zdh b fun b => k (.slp b sz o l) | .nilsl sz => k (.nilsl sz)
  | .agg cs => k (.agg cs) | .tup cs => k (.tup cs) | .fn f cs => k (.fn f cs) | .mp b => Zdh b fun b => k (.mp b)
def Zhg (l : List V) (k : List V → Option β) : Option β :=
  match l with
  | [] => k []
  | v :: vs => ZgH v fun v => Zhg vs fun vs => k (v :: vs)
def Zn7 (v : V) (k : V → Option β) : Option β :=
  match v with
  | .d x => k (.d x) | .bad => k .bad | .ptr b o => ZgH (.ptr b o) k | .eptr b sz i j => ZgH (.eptr b sz i j) k
  | .sl b sz => ZgH (.sl b sz) k | .slp b sz o l => ZgH (.slp b sz o l) k | .nilsl sz => k (.nilsl sz)
  | .agg cs => Zhg cs fun cs => k (.agg cs) | .tup cs => Zhg cs fun cs => k (.tup cs) | .fn f cs => Zhg cs fun cs => k (.fn f cs) | .mp b => ZgH (.mp b) k
def ZgO (l : List V) (k : List V → Option β) : Option β :=
  match l with
  | [] => k []
  | v :: vs => Zn7 v fun v => ZgO vs fun vs => k (v :: vs)
def Zp0 (b : Blk) (k : Blk → Option β) : Option β :=
  match b with
  | .dead => k .dead | .cells cs => ZgO cs fun cs => k (.cells cs) | .arr sz xs => k (.arr sz xs) | .mp es => k (.mp es)
def Ziw (H : Zk) (k : Zk → Option β) : Option β :=
  match H with
  | [] => k []
  | b :: bs => Zp0 b fun b => Ziw bs fun bs => k (b :: bs)
theorem Zsz (n : Nat) (k : Nat → Option β) : ∀ (l : List Nat), fgo n k l = k n
  | [] => rfl
  | a :: l => by
    unfold fgo
    cases h : Nat.beq n a with
    | true => rw [Nat.eq_of_beq_eq_true h]
    | false => exact Zsz n k l
theorem Zdu (n : Nat) (k : Nat → Option β) : Zdh n k = k n := Zsz n k _
theorem ZmJ (v : V) (k : V → Option β) : ZgH v k = k v := by cases v <;> simp [ZgH, Zdu]
theorem ZkU : ∀ (l : List V) (k : List V → Option β), Zhg l k = k l
  | [], k => rfl
  | v :: vs, k => by unfold Zhg; rw [ZmJ, ZkU vs]
theorem Zne (v : V) (k : V → Option β) : Zn7 v k = k v := by cases v <;> simp [Zn7, ZmJ, ZkU]
theorem Zgg : ∀ (l : List V) (k : List V → Option β), ZgO l k = k l
  | [], k => rfl
  | v :: vs, k => by unfold ZgO; rw [Zne, Zgg vs]
theorem ZqY (b : Blk) (k : Blk → Option β) : Zp0 b k = k b := by cases b <;> simp [Zp0, Zgg]
theorem Zhe : ∀ (l : Zk) (k : Zk → Option β), Ziw l k = k l
  | [], k => rfl
  | v :: vs, k => by unfold Ziw; rw [ZqY, Zhe vs]
def ZhM (l : List Nat) (k : List Nat → Option β) : Option β :=
  match l with
  | [] => k []
  | a :: l => Zdh a fun a => ZhM l fun l => k (a :: l)
theorem ZhH : ∀ (l : List Nat) (k : List Nat → Option β), ZhM l k = k l
  | [], k => rfl
  | a :: l, k => by unfold ZhM; rw [Zdu, ZhH l]
def ZiT (H : Zk) (l : List Nat) (bs : List Nat) (k : List Nat → Option β) : Option β :=
  match bs with
  | [] => k l
  | b :: bs => (match Zg1 l b || !(Z5 H b) with
    | true => ZiT H l bs k
    | false => ZhM (l ++ [b]) fun l => ZiT H l bs k)
theorem ZhR (H : Zk) : ∀ (bs l : List Nat) (k : List Nat → Option β), ZiT H l bs k = k (ZeL H l bs)
  | [], l, k => rfl
  | b :: bs, l, k => by
    unfold ZiT ZeL
    cases h : (Zg1 l b || !(Z5 H b)) with
    | true => exact ZhR H bs l k
    | false => simp only [ZhH, cond_false]; exact ZhR H bs _ k
def Zn8 (H : Zk) (n i : Nat) (l : List Nat) (k : List Nat → Option β) : Option β :=
  match n with
  | 0 => k l
  | n + 1 => (match nth l i with
    | some b => ZhM (Zqz H b) fun bs => ZiT H l bs fun l => Zdh (i + 1) fun i => Zn8 H n i l k
    | none => k l)
theorem Zm5 (H : Zk) : ∀ (n i : Nat) (l : List Nat) (k : List Nat → Option β), Zn8 H n i l k = k (Zil H n i l)
  | 0, i, l, k => rfl
  | n + 1, i, l, k => by
    unfold Zn8 Zil
    cases h : nth l i with
    | none => rfl
    | some b => simp only [ZhH, Zdu, ZhR]; exact Zm5 H n (i + 1) _ k
def ZeT (m : Nat) (vs : List V) (H : Zk) (k : List Nat → List V → Zk → Option β) : Option β :=
  ZgO vs fun vs => ZhM (Zj5 m) fun u => ZhM (Zgq vs) fun r => ZiT H u r fun l => Zn8 H (H.length + 1) 0 l fun L =>
    (match Zjo L && ZlX H.length L with
    | true => ZgO (Zgm (fun b => idx L b 0) vs) fun vs => Ziw (pick H (fun b => idx L b 0) L) fun H => k L vs H
    | false => none)
theorem Zc4 (m : Nat) (vs : List V) (H : Zk) (k : List Nat → List V → Zk → Option β) : ZeT m vs H k = (match extract m vs H with | some (L, vs, H) => k L vs H | none => none) := by
  unfold ZeT extract Zj8
  simp only [Zgg, ZhH, ZhR, Zm5, Zhe]
  cases (Zjo (Zil H (H.length + 1) 0 (ZeL H (Zj5 m) (Zgq vs))) && ZlX H.length (Zil H (H.length + 1) 0 (ZeL H (Zj5 m) (Zgq vs)))) <;> rfl
def Zjp (n : Nat) (vs : List V) (k : List V → List Blk → Option β) : Option β :=
  match vs with
  | [] => k [] []
  | v :: vs => (match v with
    | .nilsl sz => (match Nat.blt 0 sz with
      | true => Zdh (n + 1) fun n1 => Zjp n1 vs fun vs bs => k (.sl n sz :: vs) (.arr sz [] :: bs)
      | false => Zjp n vs fun vs bs => k (.nilsl sz :: vs) bs)
    | v => Zjp n vs fun vs bs => k (v :: vs) bs)
theorem Zhu : ∀ (vs : List V) (n : Nat) (k : List V → List Blk → Option β), Zjp n vs k = k (ZbQ n vs).1 (ZbQ n vs).2
  | [], n, k => rfl
  | v :: vs, n, k => by
    unfold Zjp
    split
    · rename_i sz
      simp only [ZbQ]
      cases h : Nat.blt 0 sz with
      | true => simp only [Zdu, cond_true]; exact Zhu vs (n + 1) _
      | false => exact Zhu vs n _
    · rename_i h
      rw [Zhu vs n]
      cases v <;> first | rfl | exact absurd rfl (h _)
def ZjW (n : Nat) (H : Zk) (k : Zk → List Blk → Option β) : Option β :=
  match H with
  | [] => k [] []
  | b :: H => (match b with
    | .cells cs => Zjp n cs fun cs bs => Zdh (n + bs.length) fun n1 => ZjW n1 H fun H q => k (.cells cs :: H) (bs ++ q)
    | b => ZjW n H fun H q => k (b :: H) q)
theorem ZjD : ∀ (H : Zk) (n : Nat) (k : Zk → List Blk → Option β), ZjW n H k = k (Zcr n H).1 (Zcr n H).2
  | [], n, k => rfl
  | b :: H, n, k => by
    unfold ZjW
    cases b <;> first | exact ZjD H n _ | skip
    rename_i cs
    simp only [Zhu, Zdu, Zcr]
    exact ZjD H _ _
def Zmd (m : Nat) (vs : List V) (H : Zk) (k : List V → Zk → Option β) : Option β :=
  ZeT m vs H fun _ vs1 H1 => Zjp H1.length vs1 fun vs2 bs => Zdh (H1.length + bs.length) fun n => ZjW n H1 fun H2 q => Ziw (H2 ++ (bs ++ q)) fun H2 => ZeT m vs2 H2 fun _ vs3 H3 => k vs3 H3
theorem ZoM (m : Nat) (vs : List V) (H : Zk) (k : List V → Zk → Option β) : Zmd m vs H k = (match Zlc m vs H with | some (vs, H) => k vs H | none => none) := by
  unfold Zmd Zlc
  rw [Zc4]
  cases h : extract m vs H with
  | none => rfl
  | some p =>
    obtain ⟨L, vs1, H1⟩ := p
    simp only [Zhu, Zdu, ZjD, Zhe, Zc4]
    cases extract m (ZbQ H1.length vs1).1 ((Zcr (H1.length + (ZbQ H1.length vs1).2.length) H1).1 ++ ((ZbQ H1.length vs1).2 ++ (Zcr (H1.length + (ZbQ H1.length vs1).2.length) H1).2)) <;> rfl
noncomputable def br (c : Bool) (x y : Option β) : Option β := @ite _ (c = true) (Classical.propDecidable _) x y
theorem Zdv (c : Bool) (x y : Option β) : br c x y = bif c then x else y := by
  unfold br
  cases c with
  | true => exact if_pos rfl
  | false => exact if_neg (by simp)
def brL (c : Bool) (x y : Option β) : Option β := match c with | true => x | false => y
noncomputable def Ziq (c : Bool) (k : V → Option β) : Option β := br c (k (.d (.bool true))) (k (.d (.bool false)))
theorem Zhj (c : Bool) (k : V → Option β) : Ziq c k = k (.d (.bool c)) := by
  unfold Ziq
  rw [Zdv]
  cases c <;> rfl
noncomputable def ZmU (v : V) (k : V → Option β) : Option β := match v with | .d (.bool c) => Ziq c k | v => k v
theorem Zon (v : V) (k : V → Option β) : ZmU v k = k v := by
  unfold ZmU
  split
  · exact Zhj _ _
  · rfl
noncomputable def ZtJ (x : D) (k : V → Option β) : Option β := match x with | .bool c => Ziq c k | .tup ts => k (.tup (Zcn ts)) | x => k (.d x)
abbrev K3 (β : Type) := V → List (Nat × Blk) → List Blk → Option β
noncomputable def ZtO (op : BinOp) (x y : V) (k : V → Option β) : Option β :=
  match op, x, y with
  | .quo, .d (.int i a), .d (.int j b) => (match i == j with | true => br (b == 0) none (k (.d (.int i (i.wrap (a.tdiv b))))) | false => none)
  | .rem, .d (.int i a), .d (.int j b) => (match i == j with | true => br (b == 0) none (k (.d (.int i (a.tmod b)))) | false => none)
  | .shl, .d (.int i a), .d (.int _ b) => br (decide (b < 0)) none (k (.d (.int i (i.wrap (a * 2 ^ (min b.toNat i.bits))))))
  | .shr, .d (.int i a), .d (.int _ b) => br (decide (b < 0)) none (k (.d (.int i (a.fdiv (2 ^ (min b.toNat i.bits))))))
  | op, x, y => match ZkC op x y with | some (.bool c) => Ziq c k | some r => k (.d r) | none => none
noncomputable def ZqK (H : Zk) (n : Nat) (ag : Bool) (x : V) (k : V → Option β) : Option β :=
  match x with
  | .eptr b sz i j => (match nth H b with
    | some (.arr sz' xs) => (match Nat.beq sz sz' with
      | true => bnd (nth xs i) fun x => (match ZcG n ag (Zcn (x.cells.drop j)) with | some v => ZmU v k | none => none)
      | false => none)
    | _ => none)
  | x => match ZcU H n ag x with | some v => ZmU v k | none => none
noncomputable def Zp2 (H : Zk) (n : Nat) (x v : V) (k : K3 β) : Option β :=
  match x with
  | .eptr b sz i j => (match nth H b with
    | some (.arr sz' xs) => (match Nat.beq sz sz' with
      | true => bnd (nth xs i) fun x => (match fr H 6 v with
        | some (y, ks) => (match Zg1 ks b with
          | true => none
          | false => (match Nat.beq y.cells.length n && Nat.ble (j + n) x.cells.length && (V.d y).okb && (x.isAgg || !y.isAgg) with
            | true => bnd (some (Zen xs i (bif x.isAgg then .agg (Zah x.cells j y.cells) else y))) fun zs => k .bad ((b, .arr sz zs) :: ks.map (fun j => (j, .dead))) []
            | false => none))
        | none => none)
      | false => none)
    | _ => none)
  | x => match Zjt H n x v with | some (a, b, c) => k a b c | none => none
noncomputable def ZnL (nid : Nat) (H : Zk) (sz : Nat) (x y : V) (k : K3 β) : Option β :=
  match elems H y with
  | none => none
  | some ys =>
    br (Zid sz ys 0) (match x with
    | .nilsl _ => br (Nat.ble ys.length lim) (bnd (some ys) fun zs => k (.sl nid sz) [] [.arr sz zs]) none
    | .sl b sz' => (match nth H b with
      | some (.arr sz'' xs) => (match Nat.beq sz sz' && Nat.beq sz sz'' with
        | true => br (Nat.ble (xs.length + ys.length) lim) (bnd (some (xs ++ ys)) fun zs => k (.sl nid sz) [(b, .dead)] [.arr sz zs]) none
        | false => none)
      | _ => none)
    | .slp b sz' o len => (match nth H b with
      | some (.arr sz'' xs) => (match Nat.beq sz sz' && Nat.beq sz sz'' with
        | true => br (Nat.ble (o + len + ys.length) xs.length) (bnd (some (xs.take (o + len) ++ (ys ++ xs.drop (o + len + ys.length)))) fun zs => bnd (some (len + ys.length)) fun n => k (.slp b sz o n) [(b, .arr sz zs)] []) none
        | false => none)
      | _ => none)
    | _ => none) none
noncomputable def Zkf (H : Zk) (sz : Nat) (x y : V) (k : V → Option β) : Option β :=
  match x with
  | .nilsl _ => (match elems H y with
    | some ys => br (Zid sz ys 0) (br (Nat.ble ys.length lim) (bnd (some ys) fun zs => k (.d (.list true zs))) none) none
    | none => none)
  | _ => none
noncomputable def Zmr (v : Option V) (dflt : Nat) (k : Nat → Option β) : Option β :=
  match v with
  | none => k dflt
  | some (.d (.int _ n)) => br (decide (0 ≤ n)) (k n.toNat) none
  | _ => none
noncomputable def Zog (H : Zk) (sz : Nat) (x : V) (lo hi mx : Option V) (k : V → Option β) : Option β :=
  match elems H x with
  | none => none
  | some xs =>
    Zmr lo 0 fun l => Zmr hi xs.length fun h =>
      br (Nat.ble l h && Nat.ble h xs.length)
        (match mx with
        | none => (match x with
          | .d (.list own _) => br (Nat.beq l 0 || Zid sz xs l) (bnd (some ((xs.drop l).take (h - l))) fun zs => k (.d (.list own zs))) none
          | .sl b sz' => (match Nat.beq sz sz' with | true => bnd (some l) fun l' => bnd (some (h - l)) fun n => k (.slp b sz l' n) | false => none)
          | .slp b sz' o _ => (match Nat.beq sz sz' with | true => bnd (some (o + l)) fun l' => bnd (some (h - l)) fun n => k (.slp b sz l' n) | false => none)
          | .nilsl _ => k (.nilsl sz)
          | _ => none)
        | some m => Zmr (some m) 0 fun m => br (Nat.beq m l && Nat.beq m h) (k (.nilsl sz)) none)
        none
noncomputable def Zoi (H : Zk) (sz : Nat) (x i : V) (k : V → Option β) : Option β :=
  match i with
  | .d (.int _ i) => (match x with
    | .d (.list _ xs) => bnd (ZC xs i) fun x => (match Nat.beq x.cells.length sz && (V.d x).okb with | true => k (.d (.rptr x.cells)) | false => none)
    | .sl b sz' => (match nth H b with
      | some (.arr sz'' xs) => (match Nat.beq sz sz' && Nat.beq sz sz'' with | true => bnd (ZC xs i) fun _ => k (.eptr b sz i.toNat 0) | false => none)
      | _ => none)
    | .slp b sz' o len => (match nth H b with
      | some (.arr sz'' xs) => (match Nat.beq sz sz' && Nat.beq sz sz'' with | true => bnd (ZC ((xs.drop o).take len) i) fun _ => k (.eptr b sz (o + i.toNat) 0) | false => none)
      | _ => none)
    | _ => none)
  | _ => none
noncomputable def ZnO (len sz : Nat) (ag : Bool) (x i : V) (k : V → Option β) : Option β :=
  match i with
  | .d (.int _ i) => br (x.isAggV && (decide (0 ≤ i) && decide (i < len))) (bnd (ZcG sz ag (x.cells.drop (i.toNat * sz))) k) none
  | _ => none
noncomputable def Zlp (H : Zk) (len sz : Nat) (x i : V) (k : V → Option β) : Option β :=
  match i with
  | .d (.int _ i) => br (decide (0 ≤ i) && decide (i < len)) (match ZhC H (i.toNat * sz) x with | some v => k v | none => none) none
  | _ => none
noncomputable def Zlm (x i : V) (k : V → Option β) : Option β :=
  match x, i with
  | .d (.str s), .d (.int _ i) => br (decide (0 ≤ i)) (bnd s[i.toNat]? fun b => k (.d (.int .u8 b.toNat))) none
  | _, _ => none
noncomputable def Zmo (k : V → Option β) (r : V × Zk) : Option β := match fr r.2 6 r.1 with | some (x, _) => ZtJ x k | none => none
noncomputable def Zk2 (Γ : Ctx) (cf : Za9) (nid : Nat) (H : Zk) (f : Nat) (args : List V) (k : K3 β) : Option β :=
  match Γ.mode f with
  | 0 => (match fzs H args with
    | some l => ZgO (Zcn l) fun l => bnd (cf f l []) (Zmo fun v => k v [] [])
    | none => none)
  | 1 => (match fzs H args with
    | some l => ZgO (Zcn l) fun l => bnd (cf f l []) fun r => (match ZmQ r.1 && Zje r.2 with | true => k (ZjZ (fun j => some (nid + j)) r.1) [] (r.2.map (Zgc (fun j => some (nid + j)))) | false => none)
    | none => none)
  | _ => (ZeT 0 args H fun L args' H0 => bnd (cf f args' H0) fun r => (match Zji r.1 && ZgV r.2 with
        | true => k (ZjZ (fun j => match nth L j with | some b => some b | none => some (nid + (j - L.length))) r.1)
          (L.zip (r.2.map (Zgc (fun j => match nth L j with | some b => some b | none => some (nid + (j - L.length))))))
          ((r.2.drop L.length).map (Zgc (fun j => match nth L j with | some b => some b | none => some (nid + (j - L.length)))))
        | false => none))
noncomputable def Zof (H : Zk) (ks : List Bool) (m k v : V) (kk : K3 β) : Option β :=
  match m, k, v with
  | .mp b, .d k, .d y => (match nth H b with
    | some (.mp es) => (match Zc2 ks k && ZfZ y with | true => bnd (ZgZ es k y) fun l => kk .bad [(b, .mp l)] [] | false => none)
    | _ => none)
  | _, _, _ => none
noncomputable def ZnP (H : Zk) (ks : List Bool) (z : D) (m k : V) (kk : K3 β) : Option β :=
  match m, k with
  | .mp b, .d k => (match nth H b with
    | some (.mp es) => (match Zc2 ks k with | true => bnd (Zr3 es k z) fun y => kk (.d y) [] [] | false => none)
    | _ => none)
  | _, _ => none
noncomputable def opK (Γ : Ctx) (cf : Za9) (e : Env) (nid : Nat) (H : Zk) (o : O) (k : K3 β) : Option β :=
  match o with
  | .mov x => k (x.val e) [] []
  | .pick c a b => (match c.val e with | .d (.bool t) => brL t (k (a.val e) [] []) (k (b.val e) [] []) | _ => none)
  | .load n ag x => ZqK H n ag (x.val e) fun v => k v [] []
  | .store n x v => Zp2 H n (x.val e) (v.val e) k
  | .bin op x y => ZtO op (x.val e) (y.val e) fun v => k v [] []
  | .slice sz x lo hi mx => Zog H sz (x.val e) (lo.map (·.val e)) (hi.map (·.val e)) (mx.map (·.val e)) fun v => k v [] []
  | .iaddr sz x i => Zoi H sz (x.val e) (i.val e) fun v => k v [] []
  | .index len sz ag x i => ZnO len sz ag (x.val e) (i.val e) fun v => k v [] []
  | .iaddrA len sz x i => Zlp H len sz (x.val e) (i.val e) fun v => k v [] []
  | .indexS x i => Zlm (x.val e) (i.val e) fun v => k v [] []
  | .append sz x y => ZnL nid H sz (x.val e) (y.val e) k
  | .appendD sz x y => Zkf H sz (x.val e) (y.val e) fun v => k v [] []
  | .eqv ks neg x y => (match x.val e, y.val e with
    | .d a, .d b => (match Zc2 ks a with | true => (match eqD a b with | some r => Ziq (bif neg then !r else r) fun v => k v [] [] | none => none) | false => none)
    | _, _ => none)
  | .un .not x => (match x.val e with | .d (.bool b) => brL b (k (.d (.bool false)) [] []) (k (.d (.bool true)) [] []) | _ => none)
  | .extract x i => (match x.val e with
    | .tup vs => (match nth vs i with | some (.d (.bool c)) => Ziq c fun v => k v [] [] | some v => k v [] [] | none => none)
    | .d (.tup vs) => (match nth vs i with | some (.bool c) => Ziq c fun v => k v [] [] | some v => k (.d v) [] [] | none => none)
    | _ => none)
  | .mkslice sz z n c => (match n.val e, c.val e with
    | .d (.int _ n), .d (.int _ c) => br (decide (0 ≤ n) && decide (n ≤ lim) && decide (n == c))
        (bnd (some (List.replicate n.toNat (match z with | [x] => x | z => .agg z))) fun zs => k (.sl nid sz) [] [.arr sz zs]) none
    | _, _ => none)
  | .len x => (match elems H (x.val e) with | some xs => bnd (some (xs.length : Int)) fun n => k (.d (.int .i64 n)) [] [] | none => none)
  | .call f args => Zk2 Γ cf nid H f (vals e args) k
  | .callv x args => (match ZhG (x.val e) with | some (f, caps) => (match ZeV Γ (x.val e) f caps with | true => none | false => Zk2 Γ cf nid H f (vals e args ++ caps) k) | none => none)
  | .invoke tab x args => (match x.val e with
    | .d (.iface t y) => (match Zjl tab t with | some f => Zk2 Γ cf nid H f (.d y :: vals e args) k | none => none)
    | _ => none)
  | .callk f args _ => Zk2 Γ cf nid H f (vals e args) k
  | .spec id args => (match H, Zii (vals e args) with | [], some l => bnd (Ziu id l) fun r => k (.d r) [] [] | _, _ => none)
  | .nilq x => (match elems H (x.val e) with | some xs => br (Nat.blt 0 xs.length) (k (.d (.bool false)) [] []) none | none => none)
  | .mapset ks m x v => Zof H ks (m.val e) (x.val e) (v.val e) k
  | .mapget ks z m x => ZnP H ks z (m.val e) (x.val e) k
  | o => match opE Γ cf e nid H o with | some (v, up, nw) => ZmU v fun v => k v up nw | none => none
def on3 (x : Res) (k : K3 β) : Option β := match x with | some (v, up, nw) => k v up nw | none => none
theorem ZjY (Γ : Ctx) (cf : Za9) (nid : Nat) (H : Zk) (f : Nat) (args : List V) (k : K3 β) : Zk2 Γ cf nid H f args k = on3 (Ze1 Γ cf nid H f args) k := by
  unfold Zk2 Ze1
  generalize Γ.mode f = m
  match m with
  | 0 =>
    dsimp only
    simp only [Zd8]
    cases h1 : fzs H args with
    | none => rfl
    | some l =>
      simp only [Zgg]
      cases h2 : cf f (Zcn l) [] with
      | none => rfl
      | some r =>
        obtain ⟨v, H1⟩ := r
        dsimp only [Zmo]
        cases h3 : fr H1 6 v with
        | none => rfl
        | some q => obtain ⟨x, ks⟩ := q; cases x <;> try rfl
                    exact Zhj _ (fun v => k v [] [])
  | 1 =>
    dsimp only
    simp only [Zd8]
    cases h1 : fzs H args with
    | none => rfl
    | some l =>
      simp only [Zgg]
      cases h2 : cf f (Zcn l) [] with
      | none => rfl
      | some r =>
        dsimp only
        cases h3 : (ZmQ r.1 && Zje r.2) <;> rfl
  | m + 2 =>
    dsimp only
    simp only [Zd8]
    rw [Zc4]
    cases h1 : extract 0 args H with
    | none => rfl
    | some q =>
      obtain ⟨L, args', H0⟩ := q
      dsimp only
      cases h2 : cf f args' H0 with
      | none => rfl
      | some r =>
        dsimp only
        cases h3 : (Zji r.1 && ZgV r.2) <;> rfl
theorem ZtY (op : BinOp) (x y : V) (k : V → Option β) : ZtO op x y k = (match ZkC op x y with | some r => k (.d r) | none => none) := by
  unfold ZtO
  split
  · rename_i i a j b
    simp only [ZkC, ZuL]
    cases h : (i == j) <;> simp only [cond_true, cond_false, Zdv]
    cases h2 : (b == 0) <;> rfl
  · rename_i i a j b
    simp only [ZkC, ZuL]
    cases h : (i == j) <;> simp only [cond_true, cond_false, Zdv]
    cases h2 : (b == 0) <;> rfl
  · rename_i i a j b
    simp only [ZkC, shI, Zdv]
    cases h : decide (b < 0) <;> rfl
  · rename_i i a j b
    simp only [ZkC, shI, Zdv]
    cases h : decide (b < 0) <;> rfl
  · cases h : ZkC op x y with
    | none => rfl
    | some r => cases r <;> try rfl
                exact Zhj _ _
theorem ZsC (H : Zk) (n : Nat) (ag : Bool) (x : V) (k : V → Option β) : ZqK H n ag x k = (match ZcU H n ag x with | some v => k v | none => none) := by
  unfold ZqK
  simp only [Zd8]
  simp only [Zon]
  split
  · rename_i b sz i j
    simp only [ZcU]
    cases h : nth H b with
    | none => rfl
    | some blk =>
      cases blk <;> try rfl
      rename_i sz' xs
      dsimp only
      cases h2 : Nat.beq sz sz' <;> simp only [cond_true, cond_false]
      cases h3 : nth xs i <;> rfl
  · rfl
theorem Zrw (H : Zk) (n : Nat) (x v : V) (k : K3 β) : Zp2 H n x v k = on3 (Zjt H n x v) k := by
  unfold Zp2
  simp only [Zd8]
  split
  · rename_i b sz i j
    simp only [Zjt]
    cases h : nth H b with
    | none => rfl
    | some blk =>
      cases blk <;> try rfl
      rename_i sz' xs
      dsimp only
      cases h2 : Nat.beq sz sz' <;> simp only [cond_true, cond_false] <;> try rfl
      cases h3 : nth xs i with
      | none => rfl
      | some x =>
        cases h4 : fr H 6 v with
        | none => rfl
        | some q =>
          obtain ⟨y, ks⟩ := q
          dsimp only
          cases h5 : Zg1 ks b <;> simp only [cond_true, cond_false] <;> try rfl
          cases h6 : (Nat.beq y.cells.length n && Nat.ble (j + n) x.cells.length && (V.d y).okb && (x.isAgg || !y.isAgg)) <;> rfl
  · rfl
theorem Zps (nid : Nat) (H : Zk) (sz : Nat) (x y : V) (k : K3 β) : ZnL nid H sz x y k = on3 (ZiL nid H sz x y) k := by
  unfold ZnL ZiL
  cases h : elems H y with
  | none => rfl
  | some ys =>
    simp only [Zdv, ZiF]
    cases h0 : Zid sz ys 0 <;> simp only [cond_true, cond_false] <;> try rfl
    cases x <;> try rfl
    · rename_i b sz'
      dsimp only
      cases h1 : nth H b with
      | none => rfl
      | some blk =>
        cases blk <;> try rfl
        rename_i sz'' xs
        dsimp only
        cases h2 : (Nat.beq sz sz' && Nat.beq sz sz'') <;> simp only [cond_true, cond_false] <;> try rfl
        cases h3 : Nat.ble (xs.length + ys.length) lim <;> rfl
    · rename_i b sz' o len
      dsimp only
      cases h1 : nth H b with
      | none => rfl
      | some blk =>
        cases blk <;> try rfl
        rename_i sz'' xs
        dsimp only
        cases h2 : (Nat.beq sz sz' && Nat.beq sz sz'')
        · simp only [Bool.false_and, cond_false]; rfl
        · simp only [Bool.true_and, Zdv]
          cases h3 : Nat.ble (o + len + ys.length) xs.length <;> rfl
    · dsimp only
      cases h3 : Nat.ble ys.length lim <;> rfl
theorem Zpf (H : Zk) (sz : Nat) (x y : V) (k : V → Option β) : Zkf H sz x y k = (match Zgj H sz x y with | some v => k v | none => none) := by
  unfold Zkf Zgj
  cases x <;> try rfl
  dsimp only
  cases h : elems H y with
  | none => rfl
  | some ys =>
    simp only [Zdv, ZiF]
    cases h0 : Zid sz ys 0 <;> cases h1 : Nat.ble ys.length lim <;> rfl
theorem Zro (v : Option V) (d : Nat) (k : Nat → Option β) : Zmr v d k = (match Zf3 v d with | some n => k n | none => none) := by
  unfold Zmr Zf3
  cases v with
  | none => rfl
  | some v =>
    cases v <;> try rfl
    rename_i x
    cases x <;> try rfl
    rename_i i n
    dsimp only
    rw [Zdv]
    cases h : decide (0 ≤ n) <;> rfl
theorem Zrs (H : Zk) (sz : Nat) (x : V) (lo hi mx : Option V) (k : V → Option β) : Zog H sz x lo hi mx k = (match Zgn H sz x lo hi mx with | some v => k v | none => none) := by
  unfold Zog Zgn
  cases h : elems H x with
  | none => rfl
  | some xs =>
    simp only [Zro]
    cases h1 : Zf3 lo 0 with
    | none => rfl
    | some l =>
      cases h2 : Zf3 hi xs.length with
      | none => rfl
      | some hh =>
        simp only [Zdv, ZiF]
        cases h3 : (Nat.ble l hh && Nat.ble hh xs.length) <;> simp only [cond_true, cond_false]
        cases mx with
        | none =>
          cases x <;> try rfl
          · rename_i x
            cases x <;> try rfl
            dsimp only
            cases h4 : (Nat.beq l 0 || Zid sz xs l) <;> rfl
          · rename_i b sz'
            dsimp only
            cases h4 : Nat.beq sz sz' <;> rfl
          · rename_i b sz' o len
            dsimp only
            cases h4 : Nat.beq sz sz' <;> rfl
        | some m =>
          dsimp only
          cases h4 : Zf3 (some m) 0 with
          | none => rfl
          | some m =>
            dsimp only
            cases h5 : (Nat.beq m l && Nat.beq m hh) <;> rfl
theorem ZrE (H : Zk) (sz : Nat) (x i : V) (k : V → Option β) : Zoi H sz x i k = (match Zgp H sz x i with | some v => k v | none => none) := by
  unfold Zoi Zgp
  simp only [Zd8]
  cases i <;> try rfl
  rename_i i
  cases i <;> try rfl
  rename_i ki i
  cases x <;> try rfl
  · rename_i x
    cases x <;> try rfl
    rename_i own xs
    dsimp only
    cases h : ZC xs i with
    | none => rfl
    | some x =>
      dsimp only
      cases h2 : (Nat.beq x.cells.length sz && (V.d x).okb) <;> rfl
  · rename_i b sz'
    dsimp only
    cases h1 : nth H b with
    | none => rfl
    | some blk =>
      cases blk <;> try rfl
      rename_i sz'' xs
      dsimp only
      cases h2 : (Nat.beq sz sz' && Nat.beq sz sz'') <;> simp only [cond_true, cond_false]
      cases h : ZC xs i <;> rfl
  · rename_i b sz' o len
    dsimp only
    cases h1 : nth H b with
    | none => rfl
    | some blk =>
      cases blk <;> try rfl
      rename_i sz'' xs
      dsimp only
      cases h2 : (Nat.beq sz sz' && Nat.beq sz sz'') <;> simp only [cond_true, cond_false]
      cases h : ZC ((xs.drop o).take len) i <;> rfl
theorem ZrA (len sz : Nat) (ag : Bool) (x i : V) (k : V → Option β) : ZnO len sz ag x i k = (match Zjz len sz ag x i with | some v => k v | none => none) := by
  unfold ZnO Zjz
  cases i <;> try rfl
  rename_i i
  cases i <;> try rfl
  rename_i ki i
  dsimp only
  rw [Zdv, Zd8]
  cases (x.isAggV && (decide (0 ≤ i) && decide (i < (len : Int)))) with
  | false => rfl
  | true => simp only [cond_true]; cases ZcG sz ag (List.drop (i.toNat * sz) x.cells) <;> rfl
theorem ZpK (H : Zk) (len sz : Nat) (x i : V) (k : V → Option β) : Zlp H len sz x i k = (match Zfe H len sz x i with | some v => k v | none => none) := by
  unfold Zlp Zfe
  cases i <;> try rfl
  rename_i i
  cases i <;> try rfl
  rename_i ki i
  dsimp only
  rw [Zdv]
  cases (decide (0 ≤ i) && decide (i < (len : Int))) <;> rfl
theorem Zp5 (x i : V) (k : V → Option β) : Zlm x i k = (match ZhQ x i with | some v => k v | none => none) := by
  unfold Zlm ZhQ
  cases x <;> try rfl
  rename_i x
  cases x <;> try rfl
  rename_i s
  cases i <;> try rfl
  rename_i i
  cases i <;> try rfl
  rename_i ki i
  dsimp only
  rw [Zdv, Zd8]
  cases decide (0 ≤ i) with
  | false => rfl
  | true => simp only [cond_true]; cases s[i.toNat]? <;> rfl
theorem ZqF (x : Res) (k : K3 β) : (match x with | some (v, up, nw) => ZmU v fun v => k v up nw | none => none) = on3 x k := by
  cases x with
  | none => rfl
  | some q => exact Zon _ _
theorem Zp3 (H : Zk) (ks : List Bool) (m x v : V) (k : K3 β) : Zof H ks m x v k = on3 (Zkj H ks m x v) k := by
  unfold Zof Zkj
  cases m <;> try rfl
  cases x <;> try rfl
  cases v <;> try rfl
  rename_i b x y
  dsimp only
  cases hb : nth H b with
  | none => rfl
  | some blk =>
    cases blk <;> try rfl
    rename_i es
    dsimp only
    cases hk : (Zc2 ks x && ZfZ y) with
    | false => rfl
    | true =>
      dsimp only
      rw [Zd8]
      cases hs : ZgZ es x y <;> rfl
theorem ZpS (H : Zk) (ks : List Bool) (z : D) (m x : V) (k : K3 β) : ZnP H ks z m x k = on3 (match ZiX H ks z m x with | some r => ZcC (.d r) | none => none) k := by
  unfold ZnP ZiX
  cases m <;> try rfl
  cases x <;> try rfl
  rename_i b x
  dsimp only
  cases hb : nth H b with
  | none => rfl
  | some blk =>
    cases blk <;> try rfl
    rename_i es
    dsimp only
    cases hk : Zc2 ks x with
    | false => rfl
    | true =>
      dsimp only
      rw [Zd8]
      cases hs : Zr3 es x z <;> rfl
theorem ZnG (Γ : Ctx) (cf : Za9) (e : Env) (nid : Nat) (H : Zk) (o : O) (k : K3 β) : opK Γ cf e nid H o k = on3 (opE Γ cf e nid H o) k := by
  cases o <;> try (first | rfl | exact ZqF _ _)
  · rename_i c a b
    show (match c.val e with | .d (.bool t) => brL t (k (a.val e) [] []) (k (b.val e) [] []) | _ => none) = on3 (match c.val e with | .d (.bool t) => ZcC (bif t then a.val e else b.val e) | _ => none) k
    cases c.val e <;> try rfl
    rename_i x
    cases x <;> try rfl
    rename_i t
    cases t <;> rfl
  · rename_i n ag x
    show ZqK H n ag (x.val e) (fun v => k v [] []) = on3 (match ZcU H n ag (x.val e) with | some v => ZcC v | none => none) k
    rw [ZsC]
    cases h : ZcU H n ag (x.val e) <;> rfl
  · exact Zrw _ _ _ _ _
  · rename_i op x y
    show ZtO op (x.val e) (y.val e) (fun v => k v [] []) = on3 (match ZkC op (x.val e) (y.val e) with | some r => ZcC (.d r) | none => none) k
    rw [ZtY]
    cases h : ZkC op (x.val e) (y.val e) <;> rfl
  · rename_i ks neg x y
    show (match x.val e, y.val e with
      | .d a, .d b => (match Zc2 ks a with | true => (match eqD a b with | some r => Ziq (bif neg then !r else r) (fun v => k v [] []) | none => none) | false => none)
      | _, _ => none) = on3 (match x.val e, y.val e with
      | .d a, .d b => (match Zc2 ks a with | true => (match eqD a b with | some r => ZcC (.d (.bool (bif neg then !r else r))) | none => none) | false => none)
      | _, _ => none) k
    cases x.val e <;> try rfl
    rename_i a
    cases y.val e <;> try rfl
    rename_i b
    dsimp only
    cases hn : Zc2 ks a <;> try rfl
    dsimp only
    cases h : eqD a b with
    | none => rfl
    | some r => exact Zhj _ _
  · rename_i op x
    cases op <;> try (first | rfl | exact ZqF _ _)
    show (match x.val e with | .d (.bool b) => brL b (k (.d (.bool false)) [] []) (k (.d (.bool true)) [] []) | _ => none) = on3 (match unE .not (x.val e) with | some r => ZcC (.d r) | none => none) k
    cases x.val e <;> try rfl
    rename_i a
    cases a <;> try rfl
    rename_i b
    cases b <;> rfl
  · rename_i f caps
    cases caps <;> rfl
  · rename_i sz z n c
    show (match n.val e, c.val e with
      | .d (.int _ n), .d (.int _ c) => br (decide (0 ≤ n) && decide (n ≤ lim) && decide (n == c)) (bnd (some (List.replicate n.toNat (match z with | [x] => x | z => .agg z))) fun zs => k (.sl nid sz) [] [.arr sz zs]) none
      | _, _ => none) = on3 (match n.val e, c.val e with
      | .d (.int _ n), .d (.int _ c) => bif decide (0 ≤ n) && decide (n ≤ lim) && decide (n == c) then some (.sl nid sz, [], [.arr sz (List.replicate n.toNat (match z with | [x] => x | z => .agg z))]) else none
      | _, _ => none) k
    cases n.val e <;> try rfl
    rename_i x
    cases x <;> try rfl
    rename_i i n1
    cases c.val e <;> try rfl
    rename_i x
    cases x <;> try rfl
    rename_i j c1
    dsimp only
    simp only [Zdv, ZiF]
    cases h3 : (decide (0 ≤ n1) && decide (n1 ≤ lim) && decide (n1 == c1)) <;> rfl
  · rename_i sz x lo hi mx
    show Zog H sz (x.val e) (lo.map (·.val e)) (hi.map (·.val e)) (mx.map (·.val e)) (fun v => k v [] []) = on3 (match Zgn H sz (x.val e) (lo.map (·.val e)) (hi.map (·.val e)) (mx.map (·.val e)) with | some v => ZcC v | none => none) k
    rw [Zrs]
    cases h : Zgn H sz (x.val e) (lo.map (·.val e)) (hi.map (·.val e)) (mx.map (·.val e)) <;> rfl
  · rename_i sz x i
    show Zoi H sz (x.val e) (i.val e) (fun v => k v [] []) = on3 (match Zgp H sz (x.val e) (i.val e) with | some v => ZcC v | none => none) k
    rw [ZrE]
    cases h : Zgp H sz (x.val e) (i.val e) <;> rfl
  · rename_i len sz ag x i
    show ZnO len sz ag (x.val e) (i.val e) (fun v => k v [] []) = on3 (match Zjz len sz ag (x.val e) (i.val e) with | some v => ZcC v | none => none) k
    rw [ZrA]
    cases h : Zjz len sz ag (x.val e) (i.val e) <;> rfl
  · rename_i x i
    show Zlm (x.val e) (i.val e) (fun v => k v [] []) = on3 (match ZhQ (x.val e) (i.val e) with | some v => ZcC v | none => none) k
    rw [Zp5]
    cases h : ZhQ (x.val e) (i.val e) <;> rfl
  · rename_i len sz x i
    show Zlp H len sz (x.val e) (i.val e) (fun v => k v [] []) = on3 (match Zfe H len sz (x.val e) (i.val e) with | some v => ZcC v | none => none) k
    rw [ZpK]
    cases h : Zfe H len sz (x.val e) (i.val e) <;> rfl
  · rename_i x
    show (match elems H (x.val e) with | some xs => bnd (some (xs.length : Int)) fun n => k (.d (.int .i64 n)) [] [] | none => none) = on3 (match Zn6 H (x.val e) with | some r => ZcC (.d r) | none => none) k
    unfold Zn6
    cases elems H (x.val e) with
    | none => rfl
    | some xs => exact ZiF _ _
  · exact Zps _ _ _ _ _ _
  · rename_i sz x y
    show Zkf H sz (x.val e) (y.val e) (fun v => k v [] []) = on3 (match Zgj H sz (x.val e) (y.val e) with | some v => ZcC v | none => none) k
    rw [Zpf]
    cases h : Zgj H sz (x.val e) (y.val e) <;> rfl
  · rename_i x i
    show (match x.val e with
      | .tup vs => (match nth vs i with | some (.d (.bool c)) => Ziq c (fun v => k v [] []) | some v => k v [] [] | none => none)
      | .d (.tup vs) => (match nth vs i with | some (.bool c) => Ziq c (fun v => k v [] []) | some v => k (.d v) [] [] | none => none)
      | _ => none) = on3 (match x.val e with
      | .tup vs => (match nth vs i with | some v => ZcC v | none => none)
      | .d (.tup vs) => (match nth vs i with | some v => ZcC (.d v) | none => none)
      | _ => none) k
    cases x.val e <;> try rfl
    · rename_i y
      cases y <;> try rfl
      rename_i vs
      dsimp only
      cases nth vs i with
      | none => rfl
      | some v => cases v <;> try rfl
                  exact Zhj _ _
    · rename_i vs
      dsimp only
      cases nth vs i with
      | none => rfl
      | some v => cases v <;> try rfl
                  rename_i y
                  cases y <;> try rfl
                  exact Zhj _ _
  · exact ZjY _ _ _ _ _ _ _
  · rename_i x args
    show (match ZhG (x.val e) with | some (f, caps) => (match ZeV Γ (x.val e) f caps with | true => none | false => Zk2 Γ cf nid H f (vals e args ++ caps) k) | none => none) = _
    rw [Zfk]
    cases h : ZhG (x.val e) with
    | none => rfl
    | some q =>
      obtain ⟨f, caps⟩ := q
      dsimp only
      cases hb : ZeV Γ (x.val e) f caps
      · exact ZjY _ _ _ _ _ _ _
      · rfl
  · rename_i tab x args
    show (match x.val e with
      | .d (.iface t y) => (match Zjl tab t with | some f => Zk2 Γ cf nid H f (.d y :: vals e args) k | none => none)
      | _ => none) = _
    rw [ZeK]
    cases h : x.val e <;> try rfl
    rename_i y
    cases y <;> try rfl
    rename_i t y
    dsimp only
    cases h2 : Zjl tab t with
    | none => rfl
    | some f => exact ZjY _ _ _ _ _ _ _
  · exact Zp3 _ _ _ _ _ _
  · exact ZpS _ _ _ _ _ _
  · exact ZjY _ _ _ _ _ _ _
  · rename_i x
    show (match elems H (x.val e) with | some xs => br (Nat.blt 0 xs.length) (k (.d (.bool false)) [] []) none | none => none) = on3 (match elems H (x.val e) with | some xs => (match Nat.blt 0 xs.length with | true => ZcC (.d (.bool false)) | false => none) | none => none) k
    cases elems H (x.val e) with
    | none => rfl
    | some xs =>
      dsimp only
      rw [Zdv]
      cases Nat.blt 0 xs.length <;> rfl
  · rename_i id args
    show (match H, Zii (vals e args) with | [], some l => bnd (Ziu id l) fun r => k (.d r) [] [] | _, _ => none) = on3 (match H, Zii (vals e args) with | [], some l => (match Ziu id l with | some r => ZcC (.d r) | none => none) | _, _ => none) k
    cases H <;> cases Zii (vals e args) <;> try rfl
    rename_i l
    dsimp only
    rw [Zd8]
    cases Ziu id l <;> rfl
def Zku (e : Env) (g : Option (Nat × Bool)) (x y : Option β) : Option β :=
  match g with
  | none => x
  | some (s, b) => match e s with | .d (.bool t) => brL (t == b) x y | .d (.tup []) => y | _ => none
theorem ZnB (e : Env) (g : Option (Nat × Bool)) (x y : Option β) : Zku e g x y = (match ZeE e g with | some true => x | some false => y | none => none) := by
  unfold Zku ZeE
  cases g with
  | none => rfl
  | some p =>
    obtain ⟨s, b⟩ := p
    dsimp only
    split <;> rename_i h
    · simp only [h, brL]; rename_i t; cases h2 : t == b <;> rfl
    · simp only [h]
    · split <;> simp_all
end
section
variable {β : Type}
def Zm7 (e : Env) (dst : Option Nat) (H : Zk) (v : V) (up : List (Nat × Blk)) (nw : List Blk) (k : Env → Zk → Option β) : Option β :=
  Zn7 v fun v => match dst with
    | some i => (match up, nw with
      | [], [] => k (e.set i v) H
      | up, nw => Ziw (ZdC H up ++ nw) fun H => k (e.set i v) H)
    | none => (match up, nw with
      | [], [] => k e H
      | up, nw => Ziw (ZdC H up ++ nw) fun H => k e H)
theorem Zow (e : Env) (dst : Option Nat) (H : Zk) (v : V) (up : List (Nat × Blk)) (nw : List Blk) (k : Env → Zk → Option β) : Zm7 e dst H v up nw k = k (Zlx e dst v) (ZdC H up ++ nw) := by
  unfold Zm7
  rw [Zne]
  cases dst <;> dsimp only [Zlx]
  all_goals
    split
    · simp [ZdC]
    · rw [Zhe]
def Zop (e : Env) (dst : Option Nat) (k : Env → Option β) : Option β := match dst with | some i => k (e.set i (.d (.tup []))) | none => k e
theorem ZoU (e : Env) (dst : Option Nat) (k : Env → Option β) : Zop e dst k = k (Zlx e dst (.d (.tup []))) := by cases dst <;> rfl
def Zpq : O → Bool
  | .mov _ => true
  | .pick _ _ _ => true
  | .build _ _ => true
  | .bin _ _ _ => true
  | .eqv _ _ _ _ => true
  | .un _ _ => true
  | .conv _ _ => true
  | .mkfn _ _ => true
  | .field _ _ _ _ => true
  | .index _ _ _ _ _ => true
  | .indexS _ _ => true
  | .mx _ _ => true
  | .extract _ _ => true
  | .bslice _ _ 0 _ => true
  | .alloc _ => true
  | .box _ => true
  | _ => false
theorem ZqZ {Γ : Ctx} {cf : Za9} {e : Env} {nid : Nat} {H H' : Zk} {op : O} (h : Zpq op = true) : opE Γ cf e nid H op = opE Γ cf e nid H' op := by
  cases op <;> first | rfl | (cases h; done) | skip
  rename_i sz z len ps
  cases len with
  | zero => rfl
  | succ n => cases h
noncomputable def ZrD (Γ : Ctx) (cf : Za9) (l : List Op1) (e : Env) (H : Zk) (k : Env → Zk → Option β) : Option β :=
  List.rec (motive := fun _ => Env → Zk → (Env → Zk → Option β) → Option β) (fun e H k => k e H)
    (fun o _ ih e H k => Zku e o.guard (Zdh H.length fun nid => opK Γ cf e nid H o.op fun v up nw => Zm7 e o.dst H v up nw fun e H => ih e H k) (Zop e o.dst fun e => ih e H k)) l e H k
theorem ZqX (Γ : Ctx) (cf : Za9) (o : Op1) (r : List Op1) (e : Env) (H : Zk) (k : Env → Zk → Option β) :
    ZrD Γ cf (o :: r) e H k = Zku e o.guard (Zdh H.length fun nid => opK Γ cf e nid H o.op fun v up nw => Zm7 e o.dst H v up nw fun e H => ZrD Γ cf r e H k) (Zop e o.dst fun e => ZrD Γ cf r e H k) := rfl
theorem Zn3 (Γ : Ctx) (cf : Za9) : ∀ (l : List Op1) (e : Env) (H : Zk) (k : Env → Zk → Option β), ZrD Γ cf l e H k = (match Zgs Γ cf l e H with | some (e, H) => k e H | none => none)
  | [], e, H, k => rfl
  | o :: l, e, H, k => by
    rw [ZqX]
    unfold Zgs
    rw [ZnB, Zdu, ZnG, ZoU]
    cases hw : ZeE e o.guard with
    | none => rfl
    | some b =>
      cases b with
      | false => exact Zn3 Γ cf l _ _ k
      | true =>
        dsimp only
        cases ho : opE Γ cf e H.length H o.op with
        | none => rfl
        | some q => obtain ⟨v, up, nw⟩ := q; simp only [on3, Zow]; exact Zn3 Γ cf l _ _ k
def ZjA (l : List (Nat × Nat)) (k : List (Nat × Nat) → Option β) : Option β :=
  match l with
  | [] => k []
  | p :: l => Zdh p.1 fun a => Zdh p.2 fun b => ZjA l fun l => k ((a, b) :: l)
theorem Zkv : ∀ (l : List (Nat × Nat)) (k : List (Nat × Nat) → Option β), ZjA l k = k l
  | [], k => rfl
  | p :: l, k => by unfold ZjA; rw [Zdu, Zdu, Zkv l]
def ZtS (o : O) (mask : List Nat) (H : Zk) (pos : List (Nat × Nat)) (k : Zk → Option β) : Option β :=
  match Zpq o with
  | true => k H
  | false => (match mask with | [] => k H | mask => Ziw (ZeU H pos mask) k)
noncomputable def ZmZ (Γ : Ctx) (cf : Za9) (pos : List (Nat × Nat)) (l : List Op1) (e : Env) (H : Zk) (k : Env → Zk → Option β) : Option β :=
  List.rec (motive := fun _ => List (Nat × Nat) → Env → Zk → (Env → Zk → Option β) → Option β) (fun _ e H k => k e H)
    (fun o _ ih pos e H k => Zku e o.guard (Zdh H.length fun nid => ZtS o.op o.mask H pos fun Hm => opK Γ cf e nid Hm o.op fun v up nw =>
      (match ZlE e H o up nw with | true => Zdh nw.length fun m => ZjA (pos ++ [(nid, m)]) fun pos => Zm7 e o.dst H v up nw fun e' H' => ih pos e' H' k | false => none)) (Zop e o.dst fun e' => Zdh H.length fun nid => ZjA (pos ++ [(nid, 0)]) fun pos => ih pos e' H k)) l pos e H k
theorem ZpO (Γ : Ctx) (cf : Za9) (pos : List (Nat × Nat)) (o : Op1) (r : List Op1) (e : Env) (H : Zk) (k : Env → Zk → Option β) :
    ZmZ Γ cf pos (o :: r) e H k = Zku e o.guard (Zdh H.length fun nid => ZtS o.op o.mask H pos fun Hm => opK Γ cf e nid Hm o.op fun v up nw =>
      (match ZlE e H o up nw with | true => Zdh nw.length fun m => ZjA (pos ++ [(nid, m)]) fun pos => Zm7 e o.dst H v up nw fun e' H' => ZmZ Γ cf pos r e' H' k | false => none)) (Zop e o.dst fun e' => Zdh H.length fun nid => ZjA (pos ++ [(nid, 0)]) fun pos => ZmZ Γ cf pos r e' H k) := rfl
theorem Ztl (Γ : Ctx) (cf : Za9) (e : Env) (nid : Nat) (o : O) (mask : List Nat) (H : Zk) (pos : List (Nat × Nat)) (k : K3 β) : (ZtS o mask H pos fun Hm => opK Γ cf e nid Hm o k) = opK Γ cf e nid (ZeU H pos mask) o k := by
  unfold ZtS
  cases h : Zpq o with
  | true => dsimp only; rw [ZnG, ZnG, ZqZ h (H := H) (H' := ZeU H pos mask)]
  | false =>
    dsimp only
    cases mask with
    | nil => rfl
    | cons a l => dsimp only; rw [Zhe]
theorem ZmA (Γ : Ctx) (cf : Za9) : ∀ (l : List Op1) (pos : List (Nat × Nat)) (e : Env) (H : Zk) (k : Env → Zk → Option β), ZmZ Γ cf pos l e H k = (match Zey Γ cf pos l e H with | some (e, H) => k e H | none => none)
  | [], pos, e, H, k => rfl
  | o :: l, pos, e, H, k => by
    rw [ZpO]
    unfold Zey
    rw [ZnB, Zdu, Ztl, ZnG, ZoU, Zdu, Zkv]
    cases hw : ZeE e o.guard with
    | none => rfl
    | some b =>
      cases b with
      | false => exact ZmA Γ cf l _ _ _ k
      | true =>
        dsimp only
        cases ho : opE Γ cf e H.length (ZeU H pos o.mask) o.op with
        | none => rfl
        | some q =>
          obtain ⟨v, up, nw⟩ := q
          simp only [on3]
          cases hb : (ZlE e H o up nw) <;> simp only [cond_true, cond_false, Zow, Zdu, Zkv]
          exact ZmA Γ cf l _ _ _ k
noncomputable def lpW (Γ : Ctx) (k : Nat) (live outs : List Nat) (a : C) (vs : List V) (H : Zk) : Option (Ex × List V × Zk) :=
  itW (fun vs H => ZdN k live outs (Zae Γ (evW Γ) itW k a (Zdy live vs) H)) vs H
noncomputable def ZgR (Γ : Ctx) (k0 : Nat) (c : C) (e : Env) (H : Zk) (k : Ex → Env → Zk → Option β) : Option β :=
  C.rec (motive := fun _ => Env → Zk → (Ex → Env → Zk → Option β) → Option β)
    (fun e H k => k .normal e H) (fun e H k => k .ret e H) (fun id e H k => k (.exit id) e H)
    (fun _ _ ia ib e H k => ia e H fun x e H => (match x with | .normal => ib e H k | .exit i => k (.exit i) e H | .ret => k .ret e H))
    (fun x _ _ ia ib e H k => (match x.val e with | .d (.bool t) => brL t (ia e H k) (ib e H k) | _ => none))
    (fun id _ ia e H k => ia e H fun x e H => (match x with | .exit j => (match Nat.beq j id with | true => k .normal e H | false => k (.exit j) e H) | .normal => k .normal e H | .ret => k .ret e H))
    (fun live outs a _ e H k => Zmd k0 (live.map e) H fun vs H => bnd (lpW Γ k0 live outs a vs H) fun r => k r.1 (Zdy outs r.2.1) r.2.2)
    (fun l e H k => ZrD Γ (evW Γ) l e H fun e H => k .normal e H)
    (fun l e H k => ZmZ Γ (evW Γ) [] l e H fun e H => k .normal e H) c e H k
theorem ZjP (Γ : Ctx) (k0 : Nat) : ∀ (c : C) (e : Env) (H : Zk) (k : Ex → Env → Zk → Option β), ZgR Γ k0 c e H k = (match Zae Γ (evW Γ) itW k0 c e H with | some (x, e, H) => k x e H | none => none) := by
  intro c
  induction c with
  | skip => intros; rfl
  | ret => intros; rfl
  | exit id => intros; rfl
  | seq a b iha ihb =>
    intro e H k
    show (ZgR Γ k0 a e H fun x e H => (match x with | .normal => ZgR Γ k0 b e H k | .exit i => k (.exit i) e H | .ret => k .ret e H)) = _
    unfold Zae
    rw [iha]
    cases h : Zae Γ (evW Γ) itW k0 a e H with
    | none => rfl
    | some q =>
      obtain ⟨x, e1, H1⟩ := q
      cases x with
      | normal => exact ihb e1 H1 k
      | exit i => rfl
      | ret => rfl
  | cond x a b iha ihb =>
    intro e H k
    show (match x.val e with | .d (.bool t) => brL t (ZgR Γ k0 a e H k) (ZgR Γ k0 b e H k) | _ => none) = _
    unfold Zae
    cases h : x.val e <;> try rfl
    rename_i y
    cases y <;> try rfl
    rename_i t
    cases t
    · exact ihb e H k
    · exact iha e H k
  | block id a iha =>
    intro e H k
    show (ZgR Γ k0 a e H fun x e H => (match x with | .exit j => (match Nat.beq j id with | true => k .normal e H | false => k (.exit j) e H) | .normal => k .normal e H | .ret => k .ret e H)) = _
    unfold Zae
    rw [iha]
    cases h : Zae Γ (evW Γ) itW k0 a e H with
    | none => rfl
    | some q =>
      obtain ⟨x, e1, H1⟩ := q
      cases x with
      | normal => rfl
      | exit j => dsimp only; cases h2 : Nat.beq j id <;> rfl
      | ret => rfl
  | loop live outs a iha =>
    intro e H k
    show (Zmd k0 (live.map e) H fun vs H => bnd (lpW Γ k0 live outs a vs H) fun r => k r.1 (Zdy outs r.2.1) r.2.2) = _
    unfold Zae
    rw [ZoM]
    cases h : Zlc k0 (live.map e) H with
    | none => rfl
    | some q =>
      obtain ⟨vs, H1⟩ := q
      simp only [lpW, Zd8]
      cases h2 : itW (fun vs H => ZdN k0 live outs (Zae Γ (evW Γ) itW k0 a (Zdy live vs) H)) vs H1 with
      | none => rfl
      | some r => obtain ⟨x, vs, H⟩ := r; rfl
  | ops l =>
    intro e H k
    show (ZrD Γ (evW Γ) l e H fun e H => k .normal e H) = _
    unfold Zae
    rw [Zn3]
    cases h : Zgs Γ (evW Γ) l e H <;> rfl
  | draw l =>
    intro e H k
    show (ZmZ Γ (evW Γ) [] l e H fun e H => k .normal e H) = _
    unfold Zae
    rw [ZmA]
    cases h : Zey Γ (evW Γ) [] l e H <;> rfl
theorem Zw3 (Γ : Ctx) (k : Nat) (live outs : List Nat) (a : C) (vs : List V) (H : Zk) :
    lpW Γ k live outs a vs H = ZgR Γ k a (Zdy live vs) H fun x e H => (match x with
      | .normal => Zmd k (live.map e) H fun vs H => lpW Γ k live outs a vs H
      | x => ZeT k (outs.map e) H fun _ vs H => some (x, vs, H)) := by
  unfold lpW
  rw [ZvV, ZjP]
  cases h : Zae Γ (evW Γ) itW k a (Zdy live vs) H with
  | none => rfl
  | some q =>
    obtain ⟨x, e, H1⟩ := q
    cases x with
    | normal =>
      simp only [ZdN]
      rw [ZoM]
      cases h2 : Zlc k (live.map e) H1 with
      | none => rfl
      | some r => obtain ⟨vs, H2⟩ := r; rfl
    | exit j =>
      simp only [ZdN]
      rw [Zc4]
      cases h2 : extract k (outs.map e) H1 with
      | none => rfl
      | some r => obtain ⟨L, vs, H2⟩ := r; rfl
    | ret =>
      simp only [ZdN]
      rw [Zc4]
      cases h2 : extract k (outs.map e) H1 with
      | none => rfl
      | some r => obtain ⟨L, vs, H2⟩ := r; rfl
theorem Ze7 (Γ : Ctx) (f : Nat) (fn : FnI) (args : List V) (H : Zk) (hc : Γ.code f = some fn) (hn : Nat.beq args.length fn.nargs = true) :
    evW Γ f args H = ZgR Γ H.length fn.body (ZdU 0 args) H fun x e H1 => (match x with
      | .exit _ => none
      | _ => (match Zi0 e H1 fn.res with
        | some l => ZeT H.length [ZfV l] H1 fun _ vs H2 => (match vs with | [v] => some (v, H2) | _ => none)
        | none => none)) := by
  rw [Zvu]
  unfold Zib
  simp only [hc, hn, cond_true]
  rw [ZjP]
  cases h : Zae Γ (evW Γ) itW H.length fn.body (ZdU 0 args) H with
  | none => rfl
  | some q =>
    obtain ⟨x, e, H1⟩ := q
    cases x <;> try rfl
    all_goals
      dsimp only
      cases h2 : Zi0 e H1 fn.res with
      | none => rfl
      | some l =>
        dsimp only
        rw [Zc4]
        cases h3 : extract H.length [ZfV l] H1 with
        | none => rfl
        | some q =>
          obtain ⟨L, vs, H2⟩ := q
          match vs with
          | [] => rfl
          | [v] => rfl
          | _ :: _ :: _ => rfl
end
theorem Zux {β : Type} (x y : Option β) : br true x y = x := Zdv _ _ _
theorem Zut {β : Type} (x y : Option β) : br false x y = y := Zdv _ _ _
theorem Zpc {β : Type} (x : Option β) : bnd x some = x := by rw [Zd8]; cases x <;> rfl
attribute [irreducible] br bnd lpW
end Go.Proofs.YtnmbdjkbaihicaaDoorE
namespace Go.Proofs.YtnmbdjkbaihicaaDoorE
open Go
structure ZK where
 op : Int
 arg : Int
 work : Int
 deriving DecidableEq
structure ZI where
 src : Int
 dst : Int
 deriving DecidableEq
structure Zq where
 maker : Int
 user : Int
 pos : Int
 deriving DecidableEq
structure Zm where
 ins : List Int
 outs : List Int
 deriving DecidableEq
structure Zo where
 period : Int
 deadline : Int
 parts : List ZK
 edges : List ZI
 futures : List Zq
 barriers : List Zm
 deriving DecidableEq
abbrev Zb (n : Int) : D := .int .i64 n
abbrev ZtE (τ : Bool) (l : List Int) : D := .list τ (l.map Zb)
abbrev ZV (p : ZK) : D := .agg [Zb p.op, Zb p.arg, Zb p.work]
abbrev ZQ (e : ZI) : D := .agg [Zb e.src, Zb e.dst]
abbrev Zw (f : Zq) : D := .agg [Zb f.maker, Zb f.user, Zb f.pos]
abbrev Zr (b : Zm) : D := .agg [ZtE true b.ins, ZtE true b.outs]
abbrev ZyD (τ : Bool) (d : Zo) : D := .agg [Zb d.period, Zb d.deadline, .list τ (d.parts.map ZV), .list τ (d.edges.map ZQ), .list τ (d.futures.map Zw), .list τ (d.barriers.map Zr)]
end Go.Proofs.YtnmbdjkbaihicaaDoorE
namespace Go.Proofs.YtnmbdjkbaihicaaDoorE
open Go
set_option linter.unusedVariables false
set_option linter.unusedSimpArgs false
theorem ZwF {n : Int} (h1 : -9223372036854775808 ≤ n) (h2 : n < 9223372036854775808) : IntKind.i64.wrap n = n := by
 show (if (true && decide (n % 18446744073709551616 ≥ 9223372036854775808)) = true then n % 18446744073709551616 - 18446744073709551616 else n % 18446744073709551616) = n
 by_cases h : n % 18446744073709551616 ≥ 9223372036854775808
 ·rw [decide_eq_true h]; simp only [Bool.and_self, if_true]; omega
 ·rw [decide_eq_false h]; simp only [Bool.and_false, Bool.false_eq_true, if_false]; omega
theorem Zsn {α : Type} (xs : List α) (i : Nat) : ZC xs (i : Int) = xs[i]? := by
 unfold ZC
 have : decide ((0 : Int) ≤ i) = true := by simp
 rw [this]; simp [ZX]
theorem Za2 (Γ : Ctx) (k : Nat) (live outs : List Nat) (a : C) (vs : List V) (H : Zk) :
  lpW Γ k live outs a vs H = ZgR Γ k a (Zdy live vs) H fun x e H => (match x with
   | .normal => Zmd k (live.map e) H fun vs H => bnd (lpW Γ k live outs a vs H) some
   | x => ZeT k (outs.map e) H fun _ vs H => some (x, vs, H)) := by
 refine (Zw3 Γ k live outs a vs H).trans (congrArg (ZgR Γ k a (Zdy live vs) H) ?_)
 funext x e H
 cases x
 ·exact congrArg (Zmd k (live.map e) H) (funext fun vs => funext fun H => (Zpc _).symm)
 ·rfl
 ·rfl
theorem Zfu {α : Type} {f : α → D} {sz : Nat} (hf : ∀ x, (f x).cells.length = sz ∧ (V.d (f x)).okb = true) (l : List α) (i : Nat) : Zid sz (l.map f) i = true := by
 unfold Zid
 rw [ZX, List.getElem?_map]
 cases l[i]? with
 | none => rfl
 | some x => simp [hf x]
theorem ZzT {β : Type} {c : Bool} {x y : Option β} (h : c = true) : br c x y = x := by rw [h, Zux]
theorem Zx4 {β : Type} {c : Bool} {x y : Option β} (h : c = false) : br c x y = y := by rw [h, Zut]
def first {α : Type} (p : α → Bool) : Nat → List α → Option Nat
 | _, [] => none
 | i, x :: l => bif p x then some i else first p (i + 1) l
theorem ZvJ {Γ : Ctx} {f : Nat} {args : List V} {H : Zk} {r : V × Zk} (n : Nat) (h : evN Γ n f args H = some r) : evW Γ f args H = some r := (ZgL Γ f args H r).2 ⟨n, h⟩
end Go.Proofs.YtnmbdjkbaihicaaDoorE
namespace Go.Proofs.YtnmbdjkbaihicaaDoorE
open Go
set_option linter.unusedVariables false
set_option linter.unusedSimpArgs false
theorem ZnI {α : Type} {f : α → D} {p : α → Prop} : ∀ {xs : List D}, (∀ y ∈ xs, ∃ a, y = f a ∧ p a) → ∃ l : List α, xs = l.map f ∧ ∀ a ∈ l, p a
 | [], _ => ⟨[], rfl, by simp⟩
 | x :: xs, h => by
  obtain ⟨a, ha, hp⟩ := h x (by simp)
  obtain ⟨l, hl, hq⟩ := ZnI (xs := xs) fun y hy => h y (by simp [hy])
  refine ⟨a :: l, by rw [ha, hl]; rfl, fun b hb => ?_⟩
  rcases List.mem_cons.1 hb with rfl | hb
  ·exact hp
  ·exact hq b hb
def I64 (n : Int) : Prop := -9223372036854775808 ≤ n ∧ n < 9223372036854775808
theorem ZfX {n : Int} (h : (Lit.int .i64 n).wf = true) : I64 n := by
 unfold Lit.wf at h
 simp only [Bool.and_eq_true, decide_eq_true_eq] at h
 have e1 : IntKind.i64.min = -9223372036854775808 := by decide
 have e2 : IntKind.i64.max = 9223372036854775807 := by decide
 rw [e1, e2] at h
 unfold I64
 omega
theorem ZvH {y : D} {n : Nat} (h : y.isAgg = true) : y = .agg y.cells := by
 cases y <;> first | rfl | cases h
theorem Zt9 {y : D} (h : y.isAgg = false) : y.cells = [y] := by
 cases y <;> first | rfl | cases h
theorem ZuV {n : Nat} (h : n ≤ maxLen) : n < 9223372036854775808 := by
 unfold maxLen at h; omega
def ZtD (l : List Int) : Prop := l.length < 9223372036854775808 ∧ ∀ n ∈ l, I64 n
theorem Zls {x : D} (h : ZuI (.sl false [.int .i64]) x) : ∃ l, x = ZtE true l ∧ ZtD l := by
 obtain ⟨xs, rfl, h1, h2⟩ := h
 obtain ⟨l, hl, hp⟩ := ZnI (f := Zb) (p := I64) (xs := xs) fun y hy => by
  obtain ⟨a1, a2⟩ := h2 y hy
  rw [Zt9 a1] at a2
  obtain ⟨d, r, e1, ⟨n, e2, e3⟩, _⟩ := a2
  cases e1
  exact ⟨n, e2, ZfX e3⟩
 subst hl
 exact ⟨l, rfl, by simpa using ZuV h1, hp⟩
def Zsu (p : ZK) : Prop := I64 p.op ∧ I64 p.arg ∧ I64 p.work
def Ztc (e : ZI) : Prop := I64 e.src ∧ I64 e.dst
def Zo1 (f : Zq) : Prop := I64 f.maker ∧ I64 f.user ∧ I64 f.pos
def Zm3 (b : Zm) : Prop := ZtD b.ins ∧ ZtD b.outs
structure Zvk (d : Zo) : Prop where
 period : I64 d.period
 deadline : I64 d.deadline
 pl : d.parts.length < 9223372036854775808
 p : ∀ x ∈ d.parts, Zsu x
 el : d.edges.length < 9223372036854775808
 e : ∀ x ∈ d.edges, Ztc x
 fl : d.futures.length < 9223372036854775808
 f : ∀ x ∈ d.futures, Zo1 x
 bl : d.barriers.length < 9223372036854775808
 b : ∀ x ∈ d.barriers, Zm3 x
theorem Zlj {x : D} {els : List Lf} {α : Type} {f : α → D} {p : α → Prop} (h : ZuI (.sl true els) x) (hf : ∀ cs, Ze9 els cs → ∃ a, D.agg cs = f a ∧ p a) : ∃ l : List α, x = .list true (l.map f) ∧ l.length < 9223372036854775808 ∧ ∀ a ∈ l, p a := by
 obtain ⟨xs, rfl, h1, h2⟩ := h
 obtain ⟨l, hl, hp⟩ := ZnI (f := f) (p := p) (xs := xs) fun y hy => by
  obtain ⟨a1, a2⟩ := h2 y hy
  rw [ZvH (n := 0) a1]
  exact hf _ a2
 subst hl
 exact ⟨l, rfl, by simpa using ZuV h1, hp⟩
abbrev Zzo : List Lf := [.int .i64, .int .i64, .sl true [.int .i64, .int .i64, .int .i64], .sl true [.int .i64, .int .i64], .sl true [.int .i64, .int .i64, .int .i64], .sl true [.sl false [.int .i64], .sl false [.int .i64]]]
theorem ZuB {xs : List D} (h : Ze9 Zzo xs) : ∃ d, D.agg xs = ZyD true d ∧ Zvk d := by
 obtain ⟨x1, r1, rfl, ⟨n1, rfl, w1⟩, x2, r2, rfl, ⟨n2, rfl, w2⟩, x3, r3, rfl, h3, x4, r4, rfl, h4, x5, r5, rfl, h5, x6, r6, rfl, h6, rfl⟩ := h
 obtain ⟨l3, rfl, b3, p3⟩ := Zlj (f := ZV) (p := Zsu) h3 fun cs hc => by
  obtain ⟨_, _, rfl, ⟨a, rfl, wa⟩, _, _, rfl, ⟨b, rfl, wb⟩, _, _, rfl, ⟨c, rfl, wc⟩, rfl⟩ := hc
  exact ⟨⟨a, b, c⟩, rfl, ZfX wa, ZfX wb, ZfX wc⟩
 obtain ⟨l4, rfl, b4, p4⟩ := Zlj (f := ZQ) (p := Ztc) h4 fun cs hc => by
  obtain ⟨_, _, rfl, ⟨a, rfl, wa⟩, _, _, rfl, ⟨b, rfl, wb⟩, rfl⟩ := hc
  exact ⟨⟨a, b⟩, rfl, ZfX wa, ZfX wb⟩
 obtain ⟨l5, rfl, b5, p5⟩ := Zlj (f := Zw) (p := Zo1) h5 fun cs hc => by
  obtain ⟨_, _, rfl, ⟨a, rfl, wa⟩, _, _, rfl, ⟨b, rfl, wb⟩, _, _, rfl, ⟨c, rfl, wc⟩, rfl⟩ := hc
  exact ⟨⟨a, b, c⟩, rfl, ZfX wa, ZfX wb, ZfX wc⟩
 obtain ⟨l6, rfl, b6, p6⟩ := Zlj (f := Zr) (p := Zm3) h6 fun cs hc => by
  obtain ⟨_, _, rfl, ha, _, _, rfl, hb, rfl⟩ := hc
  obtain ⟨a, rfl, wa⟩ := Zls ha
  obtain ⟨b, rfl, wb⟩ := Zls hb
  exact ⟨⟨a, b⟩, rfl, wa, wb⟩
 exact ⟨⟨n1, n2, l3, l4, l5, l6⟩, rfl, ZfX w1, ZfX w2, b3, p3, b4, p4, b5, p5, b6, p6⟩
theorem Zvv {xs : List D} (h : Ze9 [.int .i64] xs) : ∃ n, ZmN false xs = Zb n ∧ I64 n := by
 obtain ⟨_, _, rfl, ⟨n, rfl, w⟩, rfl⟩ := h
 exact ⟨n, rfl, ZfX w⟩
end Go.Proofs.YtnmbdjkbaihicaaDoorE
namespace Go.Proofs.YtnmbdjkbaihicaaDoorE
open Go
set_option linter.unusedVariables false
set_option linter.unusedSimpArgs false
def lpN {S R : Type} (step : S → Option (S ⊕ R)) : Nat → S → Option R
 | 0, _ => none
 | n + 1, s => (match step s with | some (.inl s') => lpN step n s' | some (.inr r) => some r | none => none)
theorem ZpH {S R : Type} (step : S → Option (S ⊕ R)) : ∀ (n m : Nat) (s : S) (r : R), n ≤ m → lpN step n s = some r → lpN step m s = some r
 | 0, _, _, _, _, h => by cases h
 | n + 1, 0, _, _, hm, _ => by omega
 | n + 1, m + 1, s, r, hm, h => by
  unfold lpN at h ⊢
  cases hs : step s with
  | none => rw [hs] at h; cases h
  | some t =>
   rw [hs] at h
   cases t with
   | inl s' => exact ZpH step n m s' r (by omega) h
   | inr r' => exact h
noncomputable def lp {S R : Type} (step : S → Option (S ⊕ R)) (s : S) : Option R := @dite _ (∃ n, (lpN step n s).isSome = true) (Classical.propDecidable _) (fun h => lpN step (Classical.choose h) s) fun _ => none
theorem Ztq {S R : Type} {step : S → Option (S ⊕ R)} {s : S} {r : R} {n : Nat} (h : lpN step n s = some r) : lp step s = some r := by
 unfold lp
 have hx : ∃ n, (lpN step n s).isSome = true := ⟨n, by rw [h]; rfl⟩
 rw [dif_pos hx]
 have h2 := Classical.choose_spec hx
 cases h3 : lpN step (Classical.choose hx) s with
 | none => rw [h3] at h2; cases h2
 | some q =>
  have h4 := ZpH step _ (max n (Classical.choose hx)) s q (by omega) h3
  have h5 := ZpH step _ (max n (Classical.choose hx)) s r (by omega) h
  rw [h4] at h5
  exact h5
theorem Zsp {S R : Type} {step : S → Option (S ⊕ R)} {s : S} {r : R} (h : lp step s = some r) : ∃ n, lpN step n s = some r := by
 unfold lp at h
 split at h
 ·exact ⟨_, h⟩
 ·cases h
theorem Zb8 {S R : Type} (step : S → Option (S ⊕ R)) (s : S) : lp step s = (match step s with | some (.inl s') => lp step s' | some (.inr r) => some r | none => none) := by
 have key : ∀ r, lp step s = some r ↔ (match step s with | some (.inl s') => lp step s' | some (.inr r) => some r | none => none) = some r := by
  intro r
  constructor
  ·intro h
   obtain ⟨n, hn⟩ := Zsp h
   cases n with
   | zero => cases hn
   | succ n =>
    unfold lpN at hn
    cases hs : step s with
    | none => rw [hs] at hn; cases hn
    | some t =>
     rw [hs] at hn
     cases t with
     | inl s' => exact Ztq hn
     | inr r' => exact hn
  ·intro h
   cases hs : step s with
   | none => rw [hs] at h; cases h
   | some t =>
    rw [hs] at h
    cases t with
    | inl s' =>
     obtain ⟨n, hn⟩ := Zsp h
     exact Ztq (n := n + 1) (by unfold lpN; rw [hs]; exact hn)
    | inr r' => exact Ztq (n := 1) (by unfold lpN; rw [hs]; exact h)
 cases h1 : lp step s with
 | some r => exact ((key r).1 h1).symm
 | none =>
  cases h2 : (match step s with | some (.inl s') => lp step s' | some (.inr r) => some r | none => none) with
  | none => rfl
  | some r => rw [(key r).2 h2] at h1; cases h1
theorem ZlR {S R : Type} {step : S → Option (S ⊕ R)} {s s' : S} (h : step s = some (.inl s')) : lp step s = lp step s' := by rw [Zb8, h]
theorem Zqj {S R : Type} {step : S → Option (S ⊕ R)} {s : S} {r : R} (h : step s = some (.inr r)) : lp step s = some r := by rw [Zb8, h]
noncomputable def ZrW {R : Type} (g : Nat → Option R) : Option R := @dite _ (∃ r : R, ∃ N, ∀ n, N ≤ n → g n = some r) (Classical.propDecidable _) (fun h => some (Classical.choose h)) fun _ => none
theorem Zuw {R : Type} {g : Nat → Option R} {r : R} (h : ZrW g = some r) : ∃ n, g n = some r := by
 unfold ZrW at h
 split at h
 ·rename_i hx
  obtain ⟨N, hN⟩ := Classical.choose_spec hx
  exact ⟨N, (hN N (Nat.le_refl _)).trans h⟩
 ·cases h
theorem ZuN {R : Type} {g : Nat → Option R} {N : Nat} {r : R} (h : ∀ n, N ≤ n → g n = some r) : ZrW g = some r := by
 have hx : ∃ r : R, ∃ N, ∀ n, N ≤ n → g n = some r := ⟨r, N, h⟩
 unfold ZrW
 rw [dif_pos hx]
 obtain ⟨M, hM⟩ := Classical.choose_spec hx
 rw [← hM (max N M) (by omega), h (max N M) (by omega)]
def ZR {α β : Type} (E : Option α) (Q : α → Option β → Prop) (rhs : Option β) : Prop := ∀ a, E = some a → Q a rhs
section
variable {α β : Type} {A B : Option α} {Q : α → Option β → Prop}
theorem Ze {c c' : Bool} {X Y : Option β} (h : c = c') (h1 : ZR A Q X) (h2 : ZR B Q Y) : ZR (bif c' then A else B) Q (br c X Y) := by
 subst h
 cases c with
 | true => rw [Zux]; exact h1
 | false => rw [Zut]; exact h2
theorem Zcg {c : Bool} {X Y : Option β} (h : c = true) (h1 : ZR A Q X) : ZR A Q (br c X Y) := by rw [h, Zux]; exact h1
theorem Zad {c : Bool} {X Y : Option β} (h : c = false) (h1 : ZR A Q Y) : ZR A Q (br c X Y) := by rw [h, Zut]; exact h1
theorem Zu {γ : Type} {x x' : γ} {K : γ → Option β} (h : x = x') (k : ZR A Q (K x')) : ZR A Q (bnd (some x) K) := by rw [h, ZiF]; exact k
theorem Zg {γ : Type} {X : Option γ} {x : γ} {K : γ → Option β} (h : X = some x) (k : ZR A Q (K x)) : ZR A Q (bnd X K) := by rw [h, ZiF]; exact k
theorem Zc {γ δ : Type} {E : Option γ} {A : γ → Option α} {X : Option δ} {K : δ → Option β} (enc : γ → δ) (h : ∀ r, E = some r → X = some (enc r)) (k : ∀ r, E = some r → ZR (A r) Q (K (enc r))) : ZR (E.bind A) Q (bnd X K) := by
 intro a ha
 cases hE : E with
 | none => rw [hE] at ha; cases ha
 | some r =>
  rw [hE] at ha
  rw [h r hE, ZiF]
  exact k r hE a ha
theorem ZoJ {γ δ : Type} (f : γ → δ) (l : List γ) (i : Int) : ZC (l.map f) i = (ZC l i).map f := by
 unfold ZC
 cases decide (0 ≤ i) with
 | false => rfl
 | true => simp only [cond_true, ZX, List.getElem?_map]
theorem Zj {γ : Type} {f : γ → D} {l : List γ} {xs : List D} {i i' : Int} {A : γ → Option α} {K : D → Option β} (hx : xs = l.map f) (hi : i = i') (k : ∀ r, ZC l i' = some r → ZR (A r) Q (K (f r))) : ZR ((ZC l i').bind A) Q (bnd (ZC xs i) K) := by
 subst hx hi
 exact Zc f (fun r h => by rw [ZoJ, h]; rfl) k
theorem Zx {γ : Type} {f : γ → D} {l : List γ} {xs : List D} {i : Int} {r : γ} (hx : xs = l.map f) (h : ZC l i = some r) : nth xs i.toNat = some (f r) := by
 subst hx
 unfold ZC at h
 cases hd : decide (0 ≤ i) with
 | false => rw [hd] at h; cases h
 | true => rw [hd, cond_true, ZX] at h; rw [ZX, List.getElem?_map, h]; rfl
theorem Zbj {γ : Type} {f : γ → D} {l : List γ} {xs : List D} {i : Int} {r : γ} (hx : xs = l.map f) (h : ZC l i = some r) : ZC xs i = some (f r) := by
 subst hx
 rw [ZoJ, h]; rfl
theorem ZfA {γ : Type} {E X : Option γ} {A : γ → Option α} {K : γ → Option β} (h : X = E) (k : ∀ r, E = some r → ZR (A r) Q (K r)) : ZR (E.bind A) Q (bnd X K) := by
 subst h
 exact Zc id (fun r h => h) k
theorem Zf {a : α} {X : Option β} (h : Q a X) : ZR (some a) Q X := fun b hb => by cases hb; exact h
theorem ZaE {X : Option β} : ZR (none : Option α) Q X := fun b hb => by cases hb
theorem ZpI {sz : Nat} {ag : Bool} {cs : List V} {i e : Int} {A0 A1 A2 A3 : Option α} {K : V → Option β} (hi : i = e) (h0 : ZR A0 Q (bnd (ZcG sz ag (cs.drop ((0 : Int).toNat * sz))) K)) (h1 : ZR A1 Q (bnd (ZcG sz ag (cs.drop ((1 : Int).toNat * sz))) K))
  (h2 : ZR A2 Q (bnd (ZcG sz ag (cs.drop ((2 : Int).toNat * sz))) K)) (h3 : ZR A3 Q (bnd (ZcG sz ag (cs.drop ((3 : Int).toNat * sz))) K)) :
  ZR (bif (e == 0) then A0 else bif (e == 1) then A1 else bif (e == 2) then A2 else bif (e == 3) then A3 else none) Q (bnd (ZcG sz ag (cs.drop (i.toNat * sz))) K) := by
 subst hi
 by_cases c0 : i = 0
 ·subst c0; exact h0
 by_cases c1 : i = 1
 ·subst c1; exact h1
 by_cases c2 : i = 2
 ·subst c2; exact h2
 by_cases c3 : i = 3
 ·subst c3; exact h3
 rw [beq_false_of_ne c0, beq_false_of_ne c1, beq_false_of_ne c2, beq_false_of_ne c3]
 exact ZaE
theorem Zuj {γ : Type} (f : γ → D) (l : List γ) : Nat.blt 0 (List.map f l).length = Nat.blt 0 (List.length l) := by rw [List.length_map]
def mpD {K W : Type} (f : K → D) (g : W → D) (l : List (K × W)) : List (D × D) := l.map fun q => (f q.1, g q.2)
def Zfm {K W : Type} (eq : K → K → Bool) : List (K × W) → K → W → W
 | [], _, z => z
 | (a, v) :: r, k, z => bif eq k a then v else Zfm eq r k z
def Zkz {K W : Type} (eq : K → K → Bool) : List (K × W) → K → W → List (K × W)
 | [], k, v => [(k, v)]
 | (a, u) :: r, k, v => bif eq k a then (a, v) :: r else (a, u) :: Zkz eq r k v
theorem Zs9 {K W : Type} {f : K → D} {g : W → D} (eq : K → K → Bool) (he : ∀ a b, eqD (f a) (f b) = some (eq a b)) (l : List (K × W)) (k : K) (z : W) : Zr3 (mpD f g l) (f k) (g z) = some (g (Zfm eq l k z)) := by
 induction l with
 | nil => rfl
 | cons q r ih =>
  obtain ⟨a, v⟩ := q
  show (match (match eqD (f k) (f a) with | some true => some (some (g v)) | some false => Zg4 (mpD f g r) (f k) | none => none) with | some (some y) => some y | some none => some (g z) | none => none) = _
  rw [he]
  unfold Zfm
  cases eq k a with
  | true => rfl
  | false => exact ih
theorem Zss {K W : Type} {f : K → D} {g : W → D} (eq : K → K → Bool) (he : ∀ a b, eqD (f a) (f b) = some (eq a b)) (l : List (K × W)) (k : K) (v : W) : ZgZ (mpD f g l) (f k) (g v) = some (mpD f g (Zkz eq l k v)) := by
 induction l with
 | nil => rfl
 | cons q r ih =>
  obtain ⟨a, u⟩ := q
  show (match eqD (f k) (f a) with | some true => some ((f a, g v) :: mpD f g r) | some false => (match ZgZ (mpD f g r) (f k) (g v) with | some l => some ((f a, g u) :: l) | none => none) | none => none) = _
  rw [he]
  unfold Zkz
  cases eq k a with
  | true => rfl
  | false => dsimp only; rw [ih]; rfl
noncomputable def evD (Γ : Ctx) (f : Nat) (args : List V) : Option D := bnd (evW Γ f args []) fun r => (match fr r.2 6 r.1 with | some (x, _) => some x | none => none)
theorem Zq9 (Γ : Ctx) (f : Nat) (args : List V) (K : V → Option β) : bnd (evW Γ f args []) (Zmo K) = bnd (evD Γ f args) (fun x => ZtJ x K) := by
 unfold evD Zmo
 simp only [Zd8]
 cases evW Γ f args [] with
 | none => rfl
 | some r =>
  dsimp only
  cases fr r.2 6 r.1 with
  | none => rfl
  | some q => rfl
theorem Zl {γ : Type} {Γ : Ctx} {f : Nat} {args args' : List V} {E : Option γ} {A : γ → Option α} {K : V → Option β} (enc : γ → D) (w : ∀ r, E = some r → evD Γ f args' = some (enc r)) (ha : args = args') (k : ∀ r, E = some r → ZR (A r) Q (ZtJ (enc r) K)) : ZR (E.bind A) Q (bnd (evW Γ f args []) (Zmo K)) := by
 subst ha
 rw [Zq9]
 exact Zc enc w k
end
theorem Zru {β δ : Type} (Γ : Ctx) (k0 : Nat) (c : C) (e : Env) (H : Zk) (k : Ex → Env → Zk → Option β) (p : β → Option δ) : bnd (ZgR Γ k0 c e H k) p = ZgR Γ k0 c e H fun x e H => bnd (k x e H) p := by
 rw [ZjP, ZjP]
 cases Zae Γ (evW Γ) itW k0 c e H with
 | none => exact Zd8 _ _
 | some q => rfl
theorem Zba (Γ : Ctx) (f : Nat) (fn : FnI) (args : List V) (hc : Γ.code f = some fn) (hn : Nat.beq args.length fn.nargs = true) :
  evD Γ f args = ZgR Γ 0 fn.body (ZdU 0 args) [] fun x e H1 => (match x with
   | .exit _ => none
   | _ => (match Zi0 e H1 fn.res with
    | some l => ZeT 0 [ZfV l] H1 fun _ vs H2 => (match vs with | [v] => (match fr H2 6 v with | some (x, _) => some x | none => none) | _ => none)
    | none => none)) := by
 unfold evD
 rw [Ze7 Γ f fn args [] hc hn, Zru]
 refine congrArg (ZgR Γ 0 fn.body (ZdU 0 args) []) ?_
 funext x e H1
 have none_b : ∀ {γ δ : Type} (p : γ → Option δ), bnd none p = none := fun p => Zd8 _ _
 cases x with
 | exit j => exact none_b _
 | normal =>
  dsimp only
  cases Zi0 e H1 fn.res with
  | none => exact none_b _
  | some l =>
   dsimp only
   rw [Zc4, Zc4]
   show bnd (match extract 0 [ZfV l] H1 with | some (L, vs, H) => _ | none => none) _ = _
   cases extract 0 [ZfV l] H1 with
   | none => exact none_b _
   | some q =>
    obtain ⟨L, vs, H2⟩ := q
    match vs with
    | [] => exact none_b _
    | [v] => exact ZiF _ _
    | _ :: _ :: _ => exact none_b _
 | ret =>
  dsimp only
  cases Zi0 e H1 fn.res with
  | none => exact none_b _
  | some l =>
   dsimp only
   rw [Zc4, Zc4]
   show bnd (match extract 0 [ZfV l] H1 with | some (L, vs, H) => _ | none => none) _ = _
   cases extract 0 [ZfV l] H1 with
   | none => exact none_b _
   | some q =>
    obtain ⟨L, vs, H2⟩ := q
    match vs with
    | [] => exact none_b _
    | [v] => exact ZiF _ _
    | _ :: _ :: _ => exact none_b _
theorem ZwV {Γ : Ctx} {f : Nat} {args : List V} {x : D} (n : Nat) (h : (match evN Γ n f args [] with | some (v, H) => (match fr H 6 v with | some (x, _) => some x | none => none) | none => none) = some x) : evD Γ f args = some x := by
 cases hn : evN Γ n f args [] with
 | none => rw [hn] at h; cases h
 | some r =>
  rw [hn] at h
  obtain ⟨v, H⟩ := r
  unfold evD
  rw [ZvJ n hn, ZiF]
  exact h
theorem ZaZ {S R β : Type} {step : S → Option (S ⊕ R)} {G : S → Option β} (x : R → β)
  (h : ∀ (s : S) (rec : S → Option R), (∀ s r, rec s = some r → G s = some (x r)) → ZR (step s) (fun t rhs => (match t with | .inl s' => ∀ r, rec s' = some r → rhs = some (x r) | .inr r => rhs = some (x r))) (G s)) : ∀ s r, lp step s = some r → G s = some (x r) := by
 intro s r hr
 obtain ⟨n, hn⟩ := Zsp hr
 clear hr
 induction n generalizing s r with
 | zero => cases hn
 | succ n ih =>
  unfold lpN at hn
  cases hs : step s with
  | none => rw [hs] at hn; cases hn
  | some t =>
   rw [hs] at hn
   have := h s (lpN step n) ih t hs
   cases t with
   | inl s' => exact this r hn
   | inr r' => cases hn; exact this
theorem Zd {S R β : Type} {G : Option β} {rec : S → Option R} {x : R → β} {s' : S} (h : ∀ r, rec s' = some r → G = some (x r)) : ZR (some (Sum.inl s')) (fun (t : S ⊕ R) (rhs : Option β) => (match t with | .inl s' => ∀ r, rec s' = some r → rhs = some (x r) | .inr r => rhs = some (x r))) (bnd G some) := by
 intro a ha
 cases ha
 intro r hr
 rw [Zpc]
 exact h r hr
theorem ZsG {Γ : Ctx} {f : Nat} {args : List V} (h : evD Γ f args = some (.bool true)) : ∃ H', evW Γ f args [] = some (.d (.bool true), H') := by
 unfold evD at h
 rw [Zd8] at h
 cases he : evW Γ f args [] with
 | none => rw [he] at h; cases h
 | some r =>
  obtain ⟨v, H⟩ := r
  rw [he] at h
  refine ⟨H, ?_⟩
  dsimp only at h
  cases hf : fr H 6 v with
  | none => rw [hf] at h; cases h
  | some q =>
   obtain ⟨x, ks⟩ := q
   rw [hf] at h
   cases h
   unfold fr at hf
   split at hf
   ·rename_i x
    split at hf
    ·rename_i ts
     cases he : ZpX ts <;> rw [he] at hf <;> cases hf
    ·rename_i y hy
     cases he : x.esc <;> rw [he] at hf <;> cases hf
     rfl
   all_goals
    first
    | cases hf
    | (split at hf <;> first | cases hf | (rename_i sz' xs _; revert hf; cases Nat.beq _ sz' <;> intro hf <;> cases hf) | skip)
   all_goals
    rename_i l ks _
    first
    | (cases he : D.escs l <;> rw [he] at hf <;> cases hf)
    | cases hf
theorem ZnN {α β : Type} {A B : Option α} {Q : α → Option β → Prop} {X : Option β} (h : ZR A Q X) : ZR (bif true then A else B) Q X := h
theorem ZnT {α β : Type} {A B : Option α} {Q : α → Option β → Prop} {X : Option β} (h : ZR B Q X) : ZR (bif false then A else B) Q X := h
abbrev w64 (n : Int) : Int := IntKind.i64.wrap n
section
variable {γ : Type}
theorem ZU (f : γ → D) (l : List γ) : (((List.map f l).length : Nat) : Int) = ((l.length : Nat) : Int) := by rw [List.length_map]
theorem Zny {α : Type} : ∀ (l : List α) (i : Nat) (y : α), Zen l i y = l.set i y
 | [], _, _ => rfl
 | _ :: _, 0, _ => rfl
 | x :: l, i + 1, y => congrArg (x :: ·) (Zny l i y)
theorem Zat (f : γ → D) (l : List γ) (i : Nat) (y : γ) : Zen (List.map f l) i (f y) = List.map f (List.set l i y) := by rw [Zny, List.map_set]
theorem ZiN (f : γ → D) (l m : List γ) : List.map f l ++ List.map f m = List.map f (l ++ m) := by rw [List.map_append]
theorem ZiR (f : γ → D) (l : List γ) (n : Nat) : Nat.ble ((List.map f l).length + n) lim = Nat.ble (l.length + n) lim := by rw [List.length_map]
theorem ZfB (f : γ → D) (l : List γ) : Nat.ble (List.map f l).length lim = Nat.ble l.length lim := by rw [List.length_map]
theorem Zvs (f : γ → D) (l : List γ) (o n : Nat) : List.take n (List.drop o (List.map f l)) = List.map f (List.take n (List.drop o l)) := by rw [← List.map_drop, ← List.map_take]
theorem Zqc (f : γ → D) (l : List γ) (hi : Nat) : List.take (hi - 0) (List.drop 0 (List.map f l)) = List.map f (List.take hi l) := by rw [Zvs]; rfl
theorem ZuT (f : γ → D) (l : List γ) (hi : Nat) : (Nat.ble 0 hi && Nat.ble hi (List.map f l).length) = Nat.ble hi l.length := by rw [List.length_map]; cases hi <;> rfl
end
end Go.Proofs.YtnmbdjkbaihicaaDoorE
namespace Go.Proofs.YtnmbdjkbaihicaaDoor
open Go Go.Proofs.YtnmbdjkbaihicaaDoorE
set_option linter.unusedVariables false
structure Zs where
 work : (List Int)
 vals : (List Int)
 deriving DecidableEq
abbrev ZwH (x : Zs) : D := (D.agg [(D.list true (List.map Zb x.work)), (D.list true (List.map Zb x.vals))])
def Zo0 : ByteArray := ⟨#[0, 1, 2, 2, 3, 3, 3, 3, 4, 4, 4, 4, 4, 4, 4, 4, 5, 5, 5, 5, 5, 5, 5, 5, 5, 5, 5, 5, 5, 5, 5, 5, 6, 6, 6, 6, 6, 6, 6, 6, 6, 6, 6, 6, 6, 6, 6, 6, 6, 6, 6, 6, 6, 6, 6, 6, 6, 6, 6, 6, 6, 6, 6, 6, 7, 7, 7, 7, 7, 7, 7, 7, 7, 7, 7, 7, 7, 7, 7, 7, 7, 7, 7, 7, 7, 7, 7, 7, 7, 7, 7, 7, 7, 7, 7, 7, 7, 7, 7, 7, 7, 7, 7, 7, 7, 7, 7, 7, 7, 7, 7, 7, 7, 7, 7, 7, 7, 7, 7, 7, 7, 7, 7, 7, 7, 7, 7, 7, 8, 8, 8, 8, 8, 8, 8, 8, 8, 8, 8, 8, 8, 8, 8, 8, 8, 8, 8, 8, 8, 8, 8, 8, 8, 8, 8, 8, 8, 8, 8, 8, 8, 8, 8, 8, 8, 8, 8, 8, 8, 8, 8, 8, 8, 8, 8, 8, 8, 8, 8, 8, 8, 8, 8, 8, 8, 8, 8, 8, 8, 8, 8, 8, 8, 8, 8, 8, 8, 8, 8, 8, 8, 8, 8, 8, 8, 8, 8, 8, 8, 8, 8, 8, 8, 8, 8, 8, 8, 8, 8, 8, 8, 8, 8, 8, 8, 8, 8, 8, 8, 8, 8, 8, 8, 8, 8, 8, 8, 8, 8, 8, 8, 8, 8, 8, 8, 8, 8, 8, 8, 8, 8, 8, 8, 8, 8, 8]⟩
abbrev dA (t0 t1 t2 t3 : Bool) (a : Zo) : List D := [(Zb a.period), (Zb a.deadline), (D.list t0 (List.map ZV a.parts)), (D.list t1 (List.map ZQ a.edges)), (D.list t2 (List.map Zw a.futures)), (D.list t3 (List.map Zr a.barriers))]
abbrev dV (t0 t1 t2 t3 : Bool) (a : Zo) : List V := [(.d (Zb a.period)), (.d (Zb a.deadline)), (.d (D.list t0 (List.map ZV a.parts))), (.d (D.list t1 (List.map ZQ a.edges))), (.d (D.list t2 (List.map Zw a.futures))), (.d (D.list t3 (List.map Zr a.barriers)))]
def Zd5 : Option Bool := some true
noncomputable def ZdK (a : Zo) (s0 : Int) : Option (Int ⊕ (Unit ⊕ Unit)) :=
 bif (decide (s0 < (a.barriers.length : Int))) then
  bif (decide (s0 < 9)) then
   (ZC a.barriers s0).bind fun x1 =>
   bif (decide (20 < (x1.ins.length : Int))) then
    some (.inr (.inl ()))
   else
    bif (decide (20 < (x1.outs.length : Int))) then
     some (.inr (.inl ()))
    else
     some (.inl (w64 (s0 + 1)))
  else
   some (.inr (.inr ()))
 else
  some (.inr (.inr ()))
noncomputable def ZfH (a : Zo) : Option Bool :=
 (lp (ZdK a) 0).bind fun r2 =>
 match r2 with
 | (.inl r2) =>
  some false
 | (.inr r2) =>
  bif (decide ((a.parts.length : Int) ≤ 20)) then
   bif (decide ((a.edges.length : Int) ≤ 60)) then
    bif (decide ((a.futures.length : Int) ≤ 20)) then
     bif (decide ((a.barriers.length : Int) ≤ 8)) then
      some true
     else
      some false
    else
     some false
   else
    some false
  else
   some false
noncomputable def Zfy (a : Zo) (b : (List Int)) (c : Zs) : Option Bool :=
 (ZfH a).bind fun x0 =>
 bif x0 then
  bif (decide ((b.length : Int) ≤ 60)) then
   bif (decide ((c.work.length : Int) ≤ 20)) then
    bif (decide ((c.vals.length : Int) ≤ 20)) then
     some true
    else
     some false
   else
    some false
  else
   some false
 else
  some false
noncomputable def Zdc (a : Zo) (s0 : Int × (List Zm)) : Option ((Int × (List Zm)) ⊕ (List Zm)) :=
 bif (decide (s0.1 < (a.barriers.length : Int))) then
  (ZC a.barriers s0.1).bind fun x1 =>
  bif (Nat.ble (List.length x1.ins) lim) then
   bif (Nat.ble (List.length x1.outs) lim) then
    bif (Nat.ble (List.length s0.2 + 1) lim) then
     some (.inl ((w64 (s0.1 + 1)), (s0.2 ++ [x1])))
    else
     none
   else
    none
  else
   none
 else
  some (.inr s0.2)
noncomputable def ZdR (a : Zo) : Option (List Zm) :=
 bif (Nat.ble (List.length a.parts) lim) then
  bif (Nat.ble (List.length a.edges) lim) then
   bif (Nat.ble (List.length a.futures) lim) then
    (lp (Zdc a) (0, ([] : (List Zm)))).bind fun r2 =>
    some r2
   else
    none
  else
   none
 else
  none
noncomputable def ZdS (a : Zs) : Option Unit :=
 bif (Nat.ble (List.length a.work) lim) then
  bif (Nat.ble (List.length a.vals) lim) then
   some ()
  else
   none
 else
  none
noncomputable def Zbf (a : Int) (b : Int) (c : Int) : Option Bool :=
 bif (decide (b ≤ a)) then
  bif (decide (a ≤ c)) then
   some true
  else
   some false
 else
  some false
noncomputable def ZfJ (a : Int) : Option Int :=
 bif (decide (a < 0)) then
  some 10
 else
  bif (decide (1099511627775 < a)) then
   some 11
  else
   some 0
noncomputable def Zb1 (a : Int) : Option Int :=
 some (IntKind.i64.wrap (BitVec.ofInt IntKind.i64.bits (w64 (IntKind.u64.wrap ((IntKind.u64.wrap ((IntKind.u64.wrap ((IntKind.u64.wrap (BitVec.ofInt IntKind.u64.bits (IntKind.u64.wrap ((Int.fdiv (IntKind.u64.wrap ((IntKind.u64.wrap (BitVec.ofInt IntKind.u64.bits (Int.fdiv (IntKind.u64.wrap ((IntKind.u64.wrap (BitVec.ofInt IntKind.u64.bits (Int.fdiv a (2 ^ 1)) &&& BitVec.ofInt IntKind.u64.bits 6148914691236517205).toNat) + (IntKind.u64.wrap (BitVec.ofInt IntKind.u64.bits a &&& BitVec.ofInt IntKind.u64.bits 6148914691236517205).toNat))) (2 ^ 2)) &&& BitVec.ofInt IntKind.u64.bits 3689348814741910323).toNat) + (IntKind.u64.wrap (BitVec.ofInt IntKind.u64.bits (IntKind.u64.wrap ((IntKind.u64.wrap (BitVec.ofInt IntKind.u64.bits (Int.fdiv a (2 ^ 1)) &&& BitVec.ofInt IntKind.u64.bits 6148914691236517205).toNat) + (IntKind.u64.wrap (BitVec.ofInt IntKind.u64.bits a &&& BitVec.ofInt IntKind.u64.bits 6148914691236517205).toNat))) &&& BitVec.ofInt IntKind.u64.bits 3689348814741910323).toNat))) (2 ^ 4)) + (IntKind.u64.wrap ((IntKind.u64.wrap (BitVec.ofInt IntKind.u64.bits (Int.fdiv (IntKind.u64.wrap ((IntKind.u64.wrap (BitVec.ofInt IntKind.u64.bits (Int.fdiv a (2 ^ 1)) &&& BitVec.ofInt IntKind.u64.bits 6148914691236517205).toNat) + (IntKind.u64.wrap (BitVec.ofInt IntKind.u64.bits a &&& BitVec.ofInt IntKind.u64.bits 6148914691236517205).toNat))) (2 ^ 2)) &&& BitVec.ofInt IntKind.u64.bits 3689348814741910323).toNat) + (IntKind.u64.wrap (BitVec.ofInt IntKind.u64.bits (IntKind.u64.wrap ((IntKind.u64.wrap (BitVec.ofInt IntKind.u64.bits (Int.fdiv a (2 ^ 1)) &&& BitVec.ofInt IntKind.u64.bits 6148914691236517205).toNat) + (IntKind.u64.wrap (BitVec.ofInt IntKind.u64.bits a &&& BitVec.ofInt IntKind.u64.bits 6148914691236517205).toNat))) &&& BitVec.ofInt IntKind.u64.bits 3689348814741910323).toNat))))) &&& BitVec.ofInt IntKind.u64.bits 1085102592571150095).toNat) + (Int.fdiv (IntKind.u64.wrap (BitVec.ofInt IntKind.u64.bits (IntKind.u64.wrap ((Int.fdiv (IntKind.u64.wrap ((IntKind.u64.wrap (BitVec.ofInt IntKind.u64.bits (Int.fdiv (IntKind.u64.wrap ((IntKind.u64.wrap (BitVec.ofInt IntKind.u64.bits (Int.fdiv a (2 ^ 1)) &&& BitVec.ofInt IntKind.u64.bits 6148914691236517205).toNat) + (IntKind.u64.wrap (BitVec.ofInt IntKind.u64.bits a &&& BitVec.ofInt IntKind.u64.bits 6148914691236517205).toNat))) (2 ^ 2)) &&& BitVec.ofInt IntKind.u64.bits 3689348814741910323).toNat) + (IntKind.u64.wrap (BitVec.ofInt IntKind.u64.bits (IntKind.u64.wrap ((IntKind.u64.wrap (BitVec.ofInt IntKind.u64.bits (Int.fdiv a (2 ^ 1)) &&& BitVec.ofInt IntKind.u64.bits 6148914691236517205).toNat) + (IntKind.u64.wrap (BitVec.ofInt IntKind.u64.bits a &&& BitVec.ofInt IntKind.u64.bits 6148914691236517205).toNat))) &&& BitVec.ofInt IntKind.u64.bits 3689348814741910323).toNat))) (2 ^ 4)) + (IntKind.u64.wrap ((IntKind.u64.wrap (BitVec.ofInt IntKind.u64.bits (Int.fdiv (IntKind.u64.wrap ((IntKind.u64.wrap (BitVec.ofInt IntKind.u64.bits (Int.fdiv a (2 ^ 1)) &&& BitVec.ofInt IntKind.u64.bits 6148914691236517205).toNat) + (IntKind.u64.wrap (BitVec.ofInt IntKind.u64.bits a &&& BitVec.ofInt IntKind.u64.bits 6148914691236517205).toNat))) (2 ^ 2)) &&& BitVec.ofInt IntKind.u64.bits 3689348814741910323).toNat) + (IntKind.u64.wrap (BitVec.ofInt IntKind.u64.bits (IntKind.u64.wrap ((IntKind.u64.wrap (BitVec.ofInt IntKind.u64.bits (Int.fdiv a (2 ^ 1)) &&& BitVec.ofInt IntKind.u64.bits 6148914691236517205).toNat) + (IntKind.u64.wrap (BitVec.ofInt IntKind.u64.bits a &&& BitVec.ofInt IntKind.u64.bits 6148914691236517205).toNat))) &&& BitVec.ofInt IntKind.u64.bits 3689348814741910323).toNat))))) &&& BitVec.ofInt IntKind.u64.bits 1085102592571150095).toNat) (2 ^ 8)))) + (Int.fdiv (IntKind.u64.wrap ((IntKind.u64.wrap (BitVec.ofInt IntKind.u64.bits (IntKind.u64.wrap ((Int.fdiv (IntKind.u64.wrap ((IntKind.u64.wrap (BitVec.ofInt IntKind.u64.bits (Int.fdiv (IntKind.u64.wrap ((IntKind.u64.wrap (BitVec.ofInt IntKind.u64.bits (Int.fdiv a (2 ^ 1)) &&& BitVec.ofInt IntKind.u64.bits 6148914691236517205).toNat) + (IntKind.u64.wrap (BitVec.ofInt IntKind.u64.bits a &&& BitVec.ofInt IntKind.u64.bits 6148914691236517205).toNat))) (2 ^ 2)) &&& BitVec.ofInt IntKind.u64.bits 3689348814741910323).toNat) + (IntKind.u64.wrap (BitVec.ofInt IntKind.u64.bits (IntKind.u64.wrap ((IntKind.u64.wrap (BitVec.ofInt IntKind.u64.bits (Int.fdiv a (2 ^ 1)) &&& BitVec.ofInt IntKind.u64.bits 6148914691236517205).toNat) + (IntKind.u64.wrap (BitVec.ofInt IntKind.u64.bits a &&& BitVec.ofInt IntKind.u64.bits 6148914691236517205).toNat))) &&& BitVec.ofInt IntKind.u64.bits 3689348814741910323).toNat))) (2 ^ 4)) + (IntKind.u64.wrap ((IntKind.u64.wrap (BitVec.ofInt IntKind.u64.bits (Int.fdiv (IntKind.u64.wrap ((IntKind.u64.wrap (BitVec.ofInt IntKind.u64.bits (Int.fdiv a (2 ^ 1)) &&& BitVec.ofInt IntKind.u64.bits 6148914691236517205).toNat) + (IntKind.u64.wrap (BitVec.ofInt IntKind.u64.bits a &&& BitVec.ofInt IntKind.u64.bits 6148914691236517205).toNat))) (2 ^ 2)) &&& BitVec.ofInt IntKind.u64.bits 3689348814741910323).toNat) + (IntKind.u64.wrap (BitVec.ofInt IntKind.u64.bits (IntKind.u64.wrap ((IntKind.u64.wrap (BitVec.ofInt IntKind.u64.bits (Int.fdiv a (2 ^ 1)) &&& BitVec.ofInt IntKind.u64.bits 6148914691236517205).toNat) + (IntKind.u64.wrap (BitVec.ofInt IntKind.u64.bits a &&& BitVec.ofInt IntKind.u64.bits 6148914691236517205).toNat))) &&& BitVec.ofInt IntKind.u64.bits 3689348814741910323).toNat))))) &&& BitVec.ofInt IntKind.u64.bits 1085102592571150095).toNat) + (Int.fdiv (IntKind.u64.wrap (BitVec.ofInt IntKind.u64.bits (IntKind.u64.wrap ((Int.fdiv (IntKind.u64.wrap ((IntKind.u64.wrap (BitVec.ofInt IntKind.u64.bits (Int.fdiv (IntKind.u64.wrap ((IntKind.u64.wrap (BitVec.ofInt IntKind.u64.bits (Int.fdiv a (2 ^ 1)) &&& BitVec.ofInt IntKind.u64.bits 6148914691236517205).toNat) + (IntKind.u64.wrap (BitVec.ofInt IntKind.u64.bits a &&& BitVec.ofInt IntKind.u64.bits 6148914691236517205).toNat))) (2 ^ 2)) &&& BitVec.ofInt IntKind.u64.bits 3689348814741910323).toNat) + (IntKind.u64.wrap (BitVec.ofInt IntKind.u64.bits (IntKind.u64.wrap ((IntKind.u64.wrap (BitVec.ofInt IntKind.u64.bits (Int.fdiv a (2 ^ 1)) &&& BitVec.ofInt IntKind.u64.bits 6148914691236517205).toNat) + (IntKind.u64.wrap (BitVec.ofInt IntKind.u64.bits a &&& BitVec.ofInt IntKind.u64.bits 6148914691236517205).toNat))) &&& BitVec.ofInt IntKind.u64.bits 3689348814741910323).toNat))) (2 ^ 4)) + (IntKind.u64.wrap ((IntKind.u64.wrap (BitVec.ofInt IntKind.u64.bits (Int.fdiv (IntKind.u64.wrap ((IntKind.u64.wrap (BitVec.ofInt IntKind.u64.bits (Int.fdiv a (2 ^ 1)) &&& BitVec.ofInt IntKind.u64.bits 6148914691236517205).toNat) + (IntKind.u64.wrap (BitVec.ofInt IntKind.u64.bits a &&& BitVec.ofInt IntKind.u64.bits 6148914691236517205).toNat))) (2 ^ 2)) &&& BitVec.ofInt IntKind.u64.bits 3689348814741910323).toNat) + (IntKind.u64.wrap (BitVec.ofInt IntKind.u64.bits (IntKind.u64.wrap ((IntKind.u64.wrap (BitVec.ofInt IntKind.u64.bits (Int.fdiv a (2 ^ 1)) &&& BitVec.ofInt IntKind.u64.bits 6148914691236517205).toNat) + (IntKind.u64.wrap (BitVec.ofInt IntKind.u64.bits a &&& BitVec.ofInt IntKind.u64.bits 6148914691236517205).toNat))) &&& BitVec.ofInt IntKind.u64.bits 3689348814741910323).toNat))))) &&& BitVec.ofInt IntKind.u64.bits 1085102592571150095).toNat) (2 ^ 8)))) (2 ^ 16)))) + (Int.fdiv (IntKind.u64.wrap ((IntKind.u64.wrap ((IntKind.u64.wrap (BitVec.ofInt IntKind.u64.bits (IntKind.u64.wrap ((Int.fdiv (IntKind.u64.wrap ((IntKind.u64.wrap (BitVec.ofInt IntKind.u64.bits (Int.fdiv (IntKind.u64.wrap ((IntKind.u64.wrap (BitVec.ofInt IntKind.u64.bits (Int.fdiv a (2 ^ 1)) &&& BitVec.ofInt IntKind.u64.bits 6148914691236517205).toNat) + (IntKind.u64.wrap (BitVec.ofInt IntKind.u64.bits a &&& BitVec.ofInt IntKind.u64.bits 6148914691236517205).toNat))) (2 ^ 2)) &&& BitVec.ofInt IntKind.u64.bits 3689348814741910323).toNat) + (IntKind.u64.wrap (BitVec.ofInt IntKind.u64.bits (IntKind.u64.wrap ((IntKind.u64.wrap (BitVec.ofInt IntKind.u64.bits (Int.fdiv a (2 ^ 1)) &&& BitVec.ofInt IntKind.u64.bits 6148914691236517205).toNat) + (IntKind.u64.wrap (BitVec.ofInt IntKind.u64.bits a &&& BitVec.ofInt IntKind.u64.bits 6148914691236517205).toNat))) &&& BitVec.ofInt IntKind.u64.bits 3689348814741910323).toNat))) (2 ^ 4)) + (IntKind.u64.wrap ((IntKind.u64.wrap (BitVec.ofInt IntKind.u64.bits (Int.fdiv (IntKind.u64.wrap ((IntKind.u64.wrap (BitVec.ofInt IntKind.u64.bits (Int.fdiv a (2 ^ 1)) &&& BitVec.ofInt IntKind.u64.bits 6148914691236517205).toNat) + (IntKind.u64.wrap (BitVec.ofInt IntKind.u64.bits a &&& BitVec.ofInt IntKind.u64.bits 6148914691236517205).toNat))) (2 ^ 2)) &&& BitVec.ofInt IntKind.u64.bits 3689348814741910323).toNat) + (IntKind.u64.wrap (BitVec.ofInt IntKind.u64.bits (IntKind.u64.wrap ((IntKind.u64.wrap (BitVec.ofInt IntKind.u64.bits (Int.fdiv a (2 ^ 1)) &&& BitVec.ofInt IntKind.u64.bits 6148914691236517205).toNat) + (IntKind.u64.wrap (BitVec.ofInt IntKind.u64.bits a &&& BitVec.ofInt IntKind.u64.bits 6148914691236517205).toNat))) &&& BitVec.ofInt IntKind.u64.bits 3689348814741910323).toNat))))) &&& BitVec.ofInt IntKind.u64.bits 1085102592571150095).toNat) + (Int.fdiv (IntKind.u64.wrap (BitVec.ofInt IntKind.u64.bits (IntKind.u64.wrap ((Int.fdiv (IntKind.u64.wrap ((IntKind.u64.wrap (BitVec.ofInt IntKind.u64.bits (Int.fdiv (IntKind.u64.wrap ((IntKind.u64.wrap (BitVec.ofInt IntKind.u64.bits (Int.fdiv a (2 ^ 1)) &&& BitVec.ofInt IntKind.u64.bits 6148914691236517205).toNat) + (IntKind.u64.wrap (BitVec.ofInt IntKind.u64.bits a &&& BitVec.ofInt IntKind.u64.bits 6148914691236517205).toNat))) (2 ^ 2)) &&& BitVec.ofInt IntKind.u64.bits 3689348814741910323).toNat) + (IntKind.u64.wrap (BitVec.ofInt IntKind.u64.bits (IntKind.u64.wrap ((IntKind.u64.wrap (BitVec.ofInt IntKind.u64.bits (Int.fdiv a (2 ^ 1)) &&& BitVec.ofInt IntKind.u64.bits 6148914691236517205).toNat) + (IntKind.u64.wrap (BitVec.ofInt IntKind.u64.bits a &&& BitVec.ofInt IntKind.u64.bits 6148914691236517205).toNat))) &&& BitVec.ofInt IntKind.u64.bits 3689348814741910323).toNat))) (2 ^ 4)) + (IntKind.u64.wrap ((IntKind.u64.wrap (BitVec.ofInt IntKind.u64.bits (Int.fdiv (IntKind.u64.wrap ((IntKind.u64.wrap (BitVec.ofInt IntKind.u64.bits (Int.fdiv a (2 ^ 1)) &&& BitVec.ofInt IntKind.u64.bits 6148914691236517205).toNat) + (IntKind.u64.wrap (BitVec.ofInt IntKind.u64.bits a &&& BitVec.ofInt IntKind.u64.bits 6148914691236517205).toNat))) (2 ^ 2)) &&& BitVec.ofInt IntKind.u64.bits 3689348814741910323).toNat) + (IntKind.u64.wrap (BitVec.ofInt IntKind.u64.bits (IntKind.u64.wrap ((IntKind.u64.wrap (BitVec.ofInt IntKind.u64.bits (Int.fdiv a (2 ^ 1)) &&& BitVec.ofInt IntKind.u64.bits 6148914691236517205).toNat) + (IntKind.u64.wrap (BitVec.ofInt IntKind.u64.bits a &&& BitVec.ofInt IntKind.u64.bits 6148914691236517205).toNat))) &&& BitVec.ofInt IntKind.u64.bits 3689348814741910323).toNat))))) &&& BitVec.ofInt IntKind.u64.bits 1085102592571150095).toNat) (2 ^ 8)))) + (Int.fdiv (IntKind.u64.wrap ((IntKind.u64.wrap (BitVec.ofInt IntKind.u64.bits (IntKind.u64.wrap ((Int.fdiv (IntKind.u64.wrap ((IntKind.u64.wrap (BitVec.ofInt IntKind.u64.bits (Int.fdiv (IntKind.u64.wrap ((IntKind.u64.wrap (BitVec.ofInt IntKind.u64.bits (Int.fdiv a (2 ^ 1)) &&& BitVec.ofInt IntKind.u64.bits 6148914691236517205).toNat) + (IntKind.u64.wrap (BitVec.ofInt IntKind.u64.bits a &&& BitVec.ofInt IntKind.u64.bits 6148914691236517205).toNat))) (2 ^ 2)) &&& BitVec.ofInt IntKind.u64.bits 3689348814741910323).toNat) + (IntKind.u64.wrap (BitVec.ofInt IntKind.u64.bits (IntKind.u64.wrap ((IntKind.u64.wrap (BitVec.ofInt IntKind.u64.bits (Int.fdiv a (2 ^ 1)) &&& BitVec.ofInt IntKind.u64.bits 6148914691236517205).toNat) + (IntKind.u64.wrap (BitVec.ofInt IntKind.u64.bits a &&& BitVec.ofInt IntKind.u64.bits 6148914691236517205).toNat))) &&& BitVec.ofInt IntKind.u64.bits 3689348814741910323).toNat))) (2 ^ 4)) + (IntKind.u64.wrap ((IntKind.u64.wrap (BitVec.ofInt IntKind.u64.bits (Int.fdiv (IntKind.u64.wrap ((IntKind.u64.wrap (BitVec.ofInt IntKind.u64.bits (Int.fdiv a (2 ^ 1)) &&& BitVec.ofInt IntKind.u64.bits 6148914691236517205).toNat) + (IntKind.u64.wrap (BitVec.ofInt IntKind.u64.bits a &&& BitVec.ofInt IntKind.u64.bits 6148914691236517205).toNat))) (2 ^ 2)) &&& BitVec.ofInt IntKind.u64.bits 3689348814741910323).toNat) + (IntKind.u64.wrap (BitVec.ofInt IntKind.u64.bits (IntKind.u64.wrap ((IntKind.u64.wrap (BitVec.ofInt IntKind.u64.bits (Int.fdiv a (2 ^ 1)) &&& BitVec.ofInt IntKind.u64.bits 6148914691236517205).toNat) + (IntKind.u64.wrap (BitVec.ofInt IntKind.u64.bits a &&& BitVec.ofInt IntKind.u64.bits 6148914691236517205).toNat))) &&& BitVec.ofInt IntKind.u64.bits 3689348814741910323).toNat))))) &&& BitVec.ofInt IntKind.u64.bits 1085102592571150095).toNat) + (Int.fdiv (IntKind.u64.wrap (BitVec.ofInt IntKind.u64.bits (IntKind.u64.wrap ((Int.fdiv (IntKind.u64.wrap ((IntKind.u64.wrap (BitVec.ofInt IntKind.u64.bits (Int.fdiv (IntKind.u64.wrap ((IntKind.u64.wrap (BitVec.ofInt IntKind.u64.bits (Int.fdiv a (2 ^ 1)) &&& BitVec.ofInt IntKind.u64.bits 6148914691236517205).toNat) + (IntKind.u64.wrap (BitVec.ofInt IntKind.u64.bits a &&& BitVec.ofInt IntKind.u64.bits 6148914691236517205).toNat))) (2 ^ 2)) &&& BitVec.ofInt IntKind.u64.bits 3689348814741910323).toNat) + (IntKind.u64.wrap (BitVec.ofInt IntKind.u64.bits (IntKind.u64.wrap ((IntKind.u64.wrap (BitVec.ofInt IntKind.u64.bits (Int.fdiv a (2 ^ 1)) &&& BitVec.ofInt IntKind.u64.bits 6148914691236517205).toNat) + (IntKind.u64.wrap (BitVec.ofInt IntKind.u64.bits a &&& BitVec.ofInt IntKind.u64.bits 6148914691236517205).toNat))) &&& BitVec.ofInt IntKind.u64.bits 3689348814741910323).toNat))) (2 ^ 4)) + (IntKind.u64.wrap ((IntKind.u64.wrap (BitVec.ofInt IntKind.u64.bits (Int.fdiv (IntKind.u64.wrap ((IntKind.u64.wrap (BitVec.ofInt IntKind.u64.bits (Int.fdiv a (2 ^ 1)) &&& BitVec.ofInt IntKind.u64.bits 6148914691236517205).toNat) + (IntKind.u64.wrap (BitVec.ofInt IntKind.u64.bits a &&& BitVec.ofInt IntKind.u64.bits 6148914691236517205).toNat))) (2 ^ 2)) &&& BitVec.ofInt IntKind.u64.bits 3689348814741910323).toNat) + (IntKind.u64.wrap (BitVec.ofInt IntKind.u64.bits (IntKind.u64.wrap ((IntKind.u64.wrap (BitVec.ofInt IntKind.u64.bits (Int.fdiv a (2 ^ 1)) &&& BitVec.ofInt IntKind.u64.bits 6148914691236517205).toNat) + (IntKind.u64.wrap (BitVec.ofInt IntKind.u64.bits a &&& BitVec.ofInt IntKind.u64.bits 6148914691236517205).toNat))) &&& BitVec.ofInt IntKind.u64.bits 3689348814741910323).toNat))))) &&& BitVec.ofInt IntKind.u64.bits 1085102592571150095).toNat) (2 ^ 8)))) (2 ^ 16)))) (2 ^ 32))))) &&& BitVec.ofInt IntKind.i64.bits 127).toNat)
noncomputable def Zci (a : Int) : Option Int :=
 (Zb1 a).bind fun x0 =>
 some x0
def Zoe : List Int := [0, 1, 56, 2, 57, 49, 28, 3, 61, 58, 42, 50, 38, 29, 17, 4, 62, 47, 59, 36, 45, 43, 51, 22, 53, 39, 33, 30, 24, 18, 12, 5, 63, 55, 48, 27, 60, 41, 37, 16, 46, 35, 44, 21, 52, 32, 23, 11, 54, 26, 40, 15, 34, 20, 31, 10, 25, 14, 19, 9, 13, 8, 7, 6]
def ZcZ (a : Int) : Option Int := some (bif a == 0 then 64 else w64 (Zoe.getD (Int.fdiv (IntKind.u64.wrap ((IntKind.u64.wrap (BitVec.ofInt IntKind.u64.bits a &&& BitVec.ofInt IntKind.u64.bits (IntKind.u64.wrap (0 - a))).toNat) * 285870213051353865)) (2 ^ (min (Int.toNat 58) IntKind.u64.bits))).toNat 0))
noncomputable def Zch (a : Int) : Option Int :=
 (ZcZ a).bind fun x0 =>
 some x0
noncomputable def Zhx (a : Int) : Option (Int × Bool) :=
 (ZfJ a).bind fun x0 =>
 bif (x0 != 0) then
  some (0, false)
 else
  (Zci (IntKind.u64.wrap a)).bind fun x1 =>
  bif (x1 != 1) then
   some (0, false)
  else
   (Zch (IntKind.u64.wrap a)).bind fun x2 =>
   some (x2, true)
noncomputable def ZdO (a : ZK) : Option Bool :=
 (Zbf a.op 0 5).bind fun x0 =>
 bif x0 then
  (Zbf a.arg 0 2147483647).bind fun x1 =>
  bif x1 then
   (Zbf a.work 1 100).bind fun x2 =>
   bif x2 then
    some false
   else
    some true
  else
   some true
 else
  some true
noncomputable def ZaF (a : (List ZK)) (b : (ZK → Option Bool)) (s0 : Int) : Option (Int ⊕ (Int ⊕ Unit)) :=
 bif (decide (s0 < (a.length : Int))) then
  (ZC a s0).bind fun x1 =>
  (b x1).bind fun x2 =>
  bif x2 then
   some (.inr (.inl s0))
  else
   some (.inl (w64 (s0 + 1)))
 else
  some (.inr (.inr ()))
noncomputable def ZbG (a : (List ZK)) (b : (ZK → Option Bool)) : Option Int :=
 (lp (ZaF a b) 0).bind fun r3 =>
 match r3 with
 | (.inl r3) =>
  some r3
 | (.inr r3) =>
  some (-1)
noncomputable def ZaD (a : (List ZK)) (b : (ZK → Option Bool)) : Option Bool :=
 (ZbG a b).bind fun x0 =>
 bif (decide (0 ≤ x0)) then
  some true
 else
  some false
noncomputable def Zfg (a : Zo) (b : Int) (c : Int) : Option Bool :=
 bif (b != c) then
  (Zbf b 0 (w64 ((a.parts.length : Int) - 1))).bind fun x0 =>
  bif x0 then
   (Zbf c 0 (w64 ((a.parts.length : Int) - 1))).bind fun x1 =>
   bif x1 then
    some true
   else
    some false
  else
   some false
 else
  some false
noncomputable def ZaY (a : (List ZI)) (b : ZI) (s0 : Int) : Option (Int ⊕ (Int ⊕ Unit)) :=
 bif (decide (s0 < (a.length : Int))) then
  (ZC a s0).bind fun x1 =>
  bif ((b.src == x1.src) && ((b.dst == x1.dst) && true)) then
   some (.inr (.inl s0))
  else
   some (.inl (w64 (s0 + 1)))
 else
  some (.inr (.inr ()))
noncomputable def Zce (a : (List ZI)) (b : ZI) : Option Int :=
 (lp (ZaY a b) 0).bind fun r2 =>
 match r2 with
 | (.inl r2) =>
  some r2
 | (.inr r2) =>
  some (-1)
noncomputable def Za1 (a : (List ZI)) (b : ZI) : Option Bool :=
 (Zce a b).bind fun x0 =>
 bif (decide (0 ≤ x0)) then
  some true
 else
  some false
noncomputable def Zcw (a : Zq) (b1 : Int) (b2 : Int) : Option Bool :=
 bif (a.user == b1) then
  bif (a.pos == b2) then
   some true
  else
   some false
 else
  some false
noncomputable def ZY (a : (List Zq)) (b : (Zq → Option Bool)) (s0 : Int) : Option (Int ⊕ (Int ⊕ Unit)) :=
 bif (decide (s0 < (a.length : Int))) then
  (ZC a s0).bind fun x1 =>
  (b x1).bind fun x2 =>
  bif x2 then
   some (.inr (.inl s0))
  else
   some (.inl (w64 (s0 + 1)))
 else
  some (.inr (.inr ()))
noncomputable def Zaj (a : (List Zq)) (b : (Zq → Option Bool)) : Option Int :=
 (lp (ZY a b) 0).bind fun r3 =>
 match r3 with
 | (.inl r3) =>
  some r3
 | (.inr r3) =>
  some (-1)
noncomputable def ZO (a : (List Zq)) (b : (Zq → Option Bool)) : Option Bool :=
 (Zaj a b).bind fun x0 =>
 bif (decide (0 ≤ x0)) then
  some true
 else
  some false
noncomputable def Zd3 (a : Zo) (b : (List Int)) (s0 : Int) : Option (Int ⊕ (Unit ⊕ Unit)) :=
 bif (decide (s0 < (b.length : Int))) then
  (ZC b s0).bind fun x1 =>
  (Zbf x1 0 (w64 ((a.parts.length : Int) - 1))).bind fun x2 =>
  bif x2 then
   bif (decide (0 < s0)) then
    (ZC b (w64 (s0 - 1))).bind fun x3 =>
    bif (decide (x1 ≤ x3)) then
     some (.inr (.inl ()))
    else
     some (.inl (w64 (s0 + 1)))
   else
    some (.inl (w64 (s0 + 1)))
  else
   some (.inr (.inl ()))
 else
  some (.inr (.inr ()))
noncomputable def Zfj (a : Zo) (b : (List Int)) : Option Bool :=
 (lp (Zd3 a b) 0).bind fun r4 =>
 match r4 with
 | (.inl r4) =>
  some false
 | (.inr r4) =>
  bif (decide (0 < (b.length : Int))) then
   some true
  else
   some false
noncomputable def Zbm (a : (List Int)) (b : Int) (s0 : Int) : Option (Int ⊕ (Int ⊕ Unit)) :=
 bif (decide (s0 < (a.length : Int))) then
  (ZC a s0).bind fun x1 =>
  bif (b == x1) then
   some (.inr (.inl s0))
  else
   some (.inl (w64 (s0 + 1)))
 else
  some (.inr (.inr ()))
noncomputable def Zct (a : (List Int)) (b : Int) : Option Int :=
 (lp (Zbm a b) 0).bind fun r2 =>
 match r2 with
 | (.inl r2) =>
  some r2
 | (.inr r2) =>
  some (-1)
noncomputable def ZaO (a : (List Int)) (b : Int) : Option Bool :=
 (Zct a b).bind fun x0 =>
 bif (decide (0 ≤ x0)) then
  some true
 else
  some false
noncomputable def Zcy (a : Int) (b1 : (List Int)) : Option Bool :=
 (ZaO b1 a).bind fun x0 =>
 bif x0 then
  some true
 else
  some false
noncomputable def ZaQ (a : (List Int)) (b : (Int → Option Bool)) (s0 : Int) : Option (Int ⊕ (Int ⊕ Unit)) :=
 bif (decide (s0 < (a.length : Int))) then
  (ZC a s0).bind fun x1 =>
  (b x1).bind fun x2 =>
  bif x2 then
   some (.inr (.inl s0))
  else
   some (.inl (w64 (s0 + 1)))
 else
  some (.inr (.inr ()))
noncomputable def ZbW (a : (List Int)) (b : (Int → Option Bool)) : Option Int :=
 (lp (ZaQ a b) 0).bind fun r3 =>
 match r3 with
 | (.inl r3) =>
  some r3
 | (.inr r3) =>
  some (-1)
noncomputable def ZaR (a : (List Int)) (b : (Int → Option Bool)) : Option Bool :=
 (ZbW a b).bind fun x0 =>
 bif (decide (0 ≤ x0)) then
  some true
 else
  some false
noncomputable def ZcL (a : Zo) (s4 : Int) : Option (Int ⊕ (Unit ⊕ Unit)) :=
 bif (decide (s4 < (a.edges.length : Int))) then
  (ZC a.edges s4).bind fun x5 =>
  (Zfg a x5.src x5.dst).bind fun x6 =>
  bif x6 then
   bif (decide (0 ≤ s4)) then
    bif (Nat.ble s4.toNat (List.length a.edges)) then
     (Za1 (List.take s4.toNat a.edges) x5).bind fun x7 =>
     bif x7 then
      some (.inr (.inl ()))
     else
      some (.inl (w64 (s4 + 1)))
    else
     none
   else
    none
  else
   some (.inr (.inl ()))
 else
  some (.inr (.inr ()))
noncomputable def ZcT (a : Zo) (s9 : Int) : Option (Int ⊕ (Unit ⊕ Unit)) :=
 bif (decide (s9 < (a.futures.length : Int))) then
  (ZC a.futures s9).bind fun x10 =>
  (Zfg a x10.maker x10.user).bind fun x11 =>
  bif x11 then
   (ZC a.parts x10.user).bind fun x12 =>
   (Zbf x10.pos 1 (w64 (x12.work - 1))).bind fun x13 =>
   bif x13 then
    bif (decide (0 ≤ s9)) then
     bif (Nat.ble s9.toNat (List.length a.futures)) then
      (ZO (List.take s9.toNat a.futures) (fun z0 => Zcw z0 x10.user x10.pos)).bind fun x14 =>
      bif x14 then
       some (.inr (.inl ()))
      else
       some (.inl (w64 (s9 + 1)))
     else
      none
    else
     none
   else
    some (.inr (.inl ()))
  else
   some (.inr (.inl ()))
 else
  some (.inr (.inr ()))
noncomputable def ZcR (a : Zo) (s16 : Int) : Option (Int ⊕ (Unit ⊕ Unit)) :=
 bif (decide (s16 < (a.barriers.length : Int))) then
  (ZC a.barriers s16).bind fun x17 =>
  (Zfj a x17.ins).bind fun x18 =>
  bif x18 then
   (Zfj a x17.outs).bind fun x19 =>
   bif x19 then
    (ZaR x17.ins (fun z0 => Zcy z0 x17.outs)).bind fun x20 =>
    bif x20 then
     some (.inr (.inl ()))
    else
     some (.inl (w64 (s16 + 1)))
   else
    some (.inr (.inl ()))
  else
   some (.inr (.inl ()))
 else
  some (.inr (.inr ()))
noncomputable def ZdW (a : Zo) : Option Int :=
 (Zbf (a.parts.length : Int) 1 16).bind fun x0 =>
 bif x0 then
  bif (decide (48 < (a.edges.length : Int))) then
   some 50
  else
   bif (decide (16 < (a.futures.length : Int))) then
    some 50
   else
    bif (decide (4 < (a.barriers.length : Int))) then
     some 50
    else
     (Zhx a.period).bind fun x1 =>
     bif x1.2 then
      bif (decide (4096 < a.period)) then
       some 51
      else
       (Zbf a.deadline 1 a.period).bind fun x2 =>
       bif x2 then
        (ZaD a.parts (fun z0 => ZdO z0)).bind fun x3 =>
        bif x3 then
         some 52
        else
         (lp (ZcL a) 0).bind fun r8 =>
         match r8 with
         | (.inl r8) =>
          some 53
         | (.inr r8) =>
          (lp (ZcT a) 0).bind fun r15 =>
          match r15 with
          | (.inl r15) =>
           some 54
          | (.inr r15) =>
           (lp (ZcR a) 0).bind fun r21 =>
           match r21 with
           | (.inl r21) =>
            some 55
           | (.inr r21) =>
            some 0
       else
        some 51
     else
      some 51
 else
  some 50
noncomputable def ZaX (a : Zo) (b : Zs) (c : Int) : Option Bool :=
 (ZC b.work c).bind fun x0 =>
 (ZC a.parts c).bind fun x1 =>
 bif (x0 == x1.work) then
  some true
 else
  some false
noncomputable def Zco (a : Zo) (b : Zs) (c : Int) (s0 : Int) : Option (Int ⊕ (Unit ⊕ Unit)) :=
 bif (decide (s0 < (a.edges.length : Int))) then
  (ZC a.edges s0).bind fun x1 =>
  bif (x1.dst == c) then
   (ZaX a b x1.src).bind fun x2 =>
   bif x2 then
    some (.inl (w64 (s0 + 1)))
   else
    some (.inr (.inl ()))
  else
   some (.inl (w64 (s0 + 1)))
 else
  some (.inr (.inr ()))
noncomputable def ZbY (a : Zo) (b : Zs) (x5 : Zm) (s7 : Int) : Option (Int ⊕ (Unit ⊕ Unit)) :=
 bif (decide (s7 < (x5.ins.length : Int))) then
  (ZC x5.ins s7).bind fun x8 =>
  (ZaX a b x8).bind fun x9 =>
  bif x9 then
   some (.inl (w64 (s7 + 1)))
  else
   some (.inr (.inl ()))
 else
  some (.inr (.inr ()))
noncomputable def Zcq (a : Zo) (b : Zs) (c : Int) (s4 : Int) : Option (Int ⊕ (Unit ⊕ Unit)) :=
 bif (decide (s4 < (a.barriers.length : Int))) then
  (ZC a.barriers s4).bind fun x5 =>
  (ZaO x5.outs c).bind fun x6 =>
  bif x6 then
   (lp (ZbY a b x5) 0).bind fun r10 =>
   match r10 with
   | (.inl r10) =>
    some (.inr (.inl ()))
   | (.inr r10) =>
    some (.inl (w64 (s4 + 1)))
  else
   some (.inl (w64 (s4 + 1)))
 else
  some (.inr (.inr ()))
noncomputable def Zdp (a : Zo) (b : Zs) (c : Int) : Option Bool :=
 (lp (Zco a b c) 0).bind fun r3 =>
 match r3 with
 | (.inl r3) =>
  some false
 | (.inr r3) =>
  (lp (Zcq a b c) 0).bind fun r11 =>
  match r11 with
  | (.inl r11) =>
   some false
  | (.inr r11) =>
   some true
noncomputable def Zb5 (a : Zq) (b0 : (List Int)) (b1 : (List Int)) (c0 : Int) (c1 : Int) (c2 : (List ZK)) (c3 : (List ZI)) (c4 : (List Zq)) (c5 : (List Zm)) : Option Bool :=
 (ZC b0 a.user).bind fun x0 =>
 bif (decide (a.pos < x0)) then
  (ZaX (Zo.mk c0 c1 c2 c3 c4 c5) (Zs.mk b0 b1) a.maker).bind fun x1 =>
  bif x1 then
   some false
  else
   some true
 else
  some false
noncomputable def ZcH (a : Zo) (b : Zs) (s0 : Int) : Option (Int ⊕ (Unit ⊕ Unit)) :=
 bif (decide (s0 < (b.work.length : Int))) then
  (ZC b.work s0).bind fun x1 =>
  bif (decide (x1 < 0)) then
   some (.inr (.inl ()))
  else
   (ZC a.parts s0).bind fun x2 =>
   bif (decide (x2.work < x1)) then
    some (.inr (.inl ()))
   else
    some (.inl (w64 (s0 + 1)))
 else
  some (.inr (.inr ()))
noncomputable def ZcI (a : Zo) (b : Zs) (s4 : Int) : Option (Int ⊕ (Unit ⊕ Unit)) :=
 bif (decide (s4 < (b.work.length : Int))) then
  (ZC b.work s4).bind fun x5 =>
  bif (decide (0 < x5)) then
   (Zdp a b s4).bind fun x6 =>
   bif x6 then
    some (.inl (w64 (s4 + 1)))
   else
    some (.inr (.inl ()))
  else
   some (.inl (w64 (s4 + 1)))
 else
  some (.inr (.inr ()))
noncomputable def Zef (a : Zo) (b : Zs) : Option Bool :=
 bif ((b.work.length : Int) != (a.parts.length : Int)) then
  some false
 else
  bif ((b.vals.length : Int) != (a.parts.length : Int)) then
   some false
  else
   (lp (ZcH a b) 0).bind fun r3 =>
   match r3 with
   | (.inl r3) =>
    some false
   | (.inr r3) =>
    (lp (ZcI a b) 0).bind fun r7 =>
    match r7 with
    | (.inl r7) =>
     some false
    | (.inr r7) =>
     (ZO a.futures (fun z0 => Zb5 z0 b.work b.vals a.period a.deadline a.parts a.edges a.futures a.barriers)).bind fun x8 =>
     bif x8 then
      some false
     else
      some true
noncomputable def Zcz (a : Zo) (b : Zs) : Option Int :=
 (ZdW a).bind fun x0 =>
 bif (x0 == 0) then
  (Zef a b).bind fun x1 =>
  bif x1 then
   some x0
  else
   some 90
 else
  some x0
noncomputable def Zcl (a : Zo) (b : Zs) (c : Int) (s3 : Int) : Option (Int ⊕ (Unit ⊕ Unit)) :=
 bif (decide (s3 < (a.futures.length : Int))) then
  (ZC a.futures s3).bind fun x4 =>
  bif (x4.user == c) then
   (ZC b.work c).bind fun x5 =>
   bif (x4.pos == x5) then
    (ZaX a b x4.maker).bind fun x6 =>
    bif x6 then
     some (.inr (.inl ()))
    else
     some (.inr (.inr ()))
   else
    some (.inl (w64 (s3 + 1)))
  else
   some (.inl (w64 (s3 + 1)))
 else
  some (.inr (.inl ()))
noncomputable def ZeO (a : Zo) (b : Zs) (c : Int) (s8 : Int) : Option (Int ⊕ (Unit ⊕ Unit)) :=
 bif (decide (s8 < (a.futures.length : Int))) then
  (ZC a.futures s8).bind fun x9 =>
  bif (x9.user == c) then
   (ZC b.work c).bind fun x10 =>
   bif (x9.pos == x10) then
    (ZaX a b x9.maker).bind fun x11 =>
    bif x11 then
     some (.inr (.inl ()))
    else
     some (.inr (.inr ()))
   else
    some (.inl (w64 (s8 + 1)))
  else
   some (.inl (w64 (s8 + 1)))
 else
  some (.inr (.inl ()))
noncomputable def ZdA (a : Zo) (b : Zs) (c : Int) : Option Bool :=
 (ZaX a b c).bind fun x0 =>
 bif x0 then
  some false
 else
  (ZC b.work c).bind fun x1 =>
  bif (x1 == 0) then
   (Zdp a b c).bind fun x2 =>
   bif x2 then
    (lp (Zcl a b c) 0).bind fun r7 =>
    match r7 with
    | (.inl r7) =>
     some true
    | (.inr r7) =>
     some false
   else
    some false
  else
   (lp (ZeO a b c) 0).bind fun r12 =>
   match r12 with
   | (.inl r12) =>
    some true
   | (.inr r12) =>
    some false
noncomputable def Zds (a : Zo) (b : Zs) (s0 : Int × (List Int)) : Option ((Int × (List Int)) ⊕ (List Int)) :=
 bif (decide (s0.1 < (a.parts.length : Int))) then
  (ZdA a b s0.1).bind fun x1 =>
  bif x1 then
   bif (Nat.ble (List.length s0.2 + 1) lim) then
    some (.inl ((w64 (s0.1 + 1)), (s0.2 ++ [s0.1])))
   else
    none
  else
   some (.inl ((w64 (s0.1 + 1)), s0.2))
 else
  some (.inr s0.2)
noncomputable def Zfc (a : Zo) (b : Zs) : Option (List Int) :=
 (lp (Zds a b) (0, ([] : (List Int)))).bind fun r2 =>
 some r2
noncomputable def Zfb (a : Zo) (b : Zs) : Option (List Int) :=
 (Zcz a b).bind fun x0 =>
 bif (x0 != 0) then
  some ([] : List Int)
 else
  (Zfc a b).bind fun x1 =>
  some x1
noncomputable def Zbe (a : (List Int)) : Option Unit :=
 bif (Nat.blt 0 (List.length a)) then
  bif (Nat.ble (List.length a) lim) then
   some ()
  else
   none
 else
  none
noncomputable def Zp (a : Int) (b : Int) (c4 : (List Zq)) : Option Int :=
 (ZC c4 a).bind fun x0 =>
 (ZC c4 b).bind fun x1 =>
 some (w64 (x0.pos - x1.pos))
noncomputable def Ze0 (a : Int) : Option Int :=
 bif (decide (4294967296 ≤ a)) then
  bif (decide (65536 ≤ (Int.fdiv a (2 ^ 32)))) then
   bif (decide (256 ≤ (Int.fdiv (Int.fdiv a (2 ^ 32)) (2 ^ 16)))) then
    bif (decide (0 ≤ (IntKind.u8.wrap (Int.fdiv (Int.fdiv (Int.fdiv a (2 ^ 32)) (2 ^ 16)) (2 ^ 8))))) then
     (Zo0[(IntKind.u8.wrap (Int.fdiv (Int.fdiv (Int.fdiv a (2 ^ 32)) (2 ^ 16)) (2 ^ 8))).toNat]?).bind fun x0 =>
     some (w64 (56 + (w64 (x0.toNat : Int))))
    else
     none
   else
    bif (decide (0 ≤ (IntKind.u8.wrap (Int.fdiv (Int.fdiv a (2 ^ 32)) (2 ^ 16))))) then
     (Zo0[(IntKind.u8.wrap (Int.fdiv (Int.fdiv a (2 ^ 32)) (2 ^ 16))).toNat]?).bind fun x1 =>
     some (w64 (48 + (w64 (x1.toNat : Int))))
    else
     none
  else
   bif (decide (256 ≤ (Int.fdiv a (2 ^ 32)))) then
    bif (decide (0 ≤ (IntKind.u8.wrap (Int.fdiv (Int.fdiv a (2 ^ 32)) (2 ^ 8))))) then
     (Zo0[(IntKind.u8.wrap (Int.fdiv (Int.fdiv a (2 ^ 32)) (2 ^ 8))).toNat]?).bind fun x2 =>
     some (w64 (40 + (w64 (x2.toNat : Int))))
    else
     none
   else
    bif (decide (0 ≤ (IntKind.u8.wrap (Int.fdiv a (2 ^ 32))))) then
     (Zo0[(IntKind.u8.wrap (Int.fdiv a (2 ^ 32))).toNat]?).bind fun x3 =>
     some (w64 (32 + (w64 (x3.toNat : Int))))
    else
     none
 else
  bif (decide (65536 ≤ a)) then
   bif (decide (256 ≤ (Int.fdiv a (2 ^ 16)))) then
    bif (decide (0 ≤ (IntKind.u8.wrap (Int.fdiv (Int.fdiv a (2 ^ 16)) (2 ^ 8))))) then
     (Zo0[(IntKind.u8.wrap (Int.fdiv (Int.fdiv a (2 ^ 16)) (2 ^ 8))).toNat]?).bind fun x4 =>
     some (w64 (24 + (w64 (x4.toNat : Int))))
    else
     none
   else
    bif (decide (0 ≤ (IntKind.u8.wrap (Int.fdiv a (2 ^ 16))))) then
     (Zo0[(IntKind.u8.wrap (Int.fdiv a (2 ^ 16))).toNat]?).bind fun x5 =>
     some (w64 (16 + (w64 (x5.toNat : Int))))
    else
     none
  else
   bif (decide (256 ≤ a)) then
    bif (decide (0 ≤ (IntKind.u8.wrap (Int.fdiv a (2 ^ 8))))) then
     (Zo0[(IntKind.u8.wrap (Int.fdiv a (2 ^ 8))).toNat]?).bind fun x6 =>
     some (w64 (8 + (w64 (x6.toNat : Int))))
    else
     none
   else
    bif (decide (0 ≤ (IntKind.u8.wrap a))) then
     (Zo0[(IntKind.u8.wrap a).toNat]?).bind fun x7 =>
     some (w64 (0 + (w64 (x7.toNat : Int))))
    else
     none
noncomputable def Zdo (a : Int) : Option Int :=
 (Ze0 a).bind fun x0 =>
 some x0
noncomputable def ZS (b : Int) (d : (Int → Int → Option Int)) (s1 : Int × (List Int)) : Option ((Int × (List Int)) ⊕ (List Int)) :=
 bif (decide (b < s1.1)) then
  (ZC s1.2 s1.1).bind fun x2 =>
  (ZC s1.2 (w64 (s1.1 - 1))).bind fun x3 =>
  (d x2 x3).bind fun x4 =>
  bif (decide (x4 < 0)) then
   (ZC (List.set s1.2 s1.1.toNat x3) (w64 (s1.1 - 1))).bind fun x5 =>
   some (.inl ((w64 (s1.1 - 1)), (List.set (List.set s1.2 s1.1.toNat x3) (w64 (s1.1 - 1)).toNat x2)))
  else
   some (.inr s1.2)
 else
  some (.inr s1.2)
noncomputable def Zac (b : Int) (c : Int) (d : (Int → Int → Option Int)) (s0 : Int × (List Int)) : Option ((Int × (List Int)) ⊕ (List Int)) :=
 bif (decide (s0.1 < c)) then
  (lp (ZS b d) (s0.1, s0.2)).bind fun r6 =>
  some (.inl ((w64 (s0.1 + 1)), r6))
 else
  some (.inr s0.2)
noncomputable def ZP (b : Int) (c : Int) (d : (Int → Int → Option Int)) (m0_0 : (List Int)) : Option (List Int) :=
 (lp (Zac b c d) ((w64 (b + 1)), m0_0)).bind fun r7 =>
 some r7
noncomputable def ZD (c : Int) (d : Int) (e : (Int → Int → Option Int)) (s0 : Int × (List Int)) : Option ((Int × (List Int)) ⊕ ((List Int) ⊕ (List Int))) :=
 bif (decide (c ≤ (w64 ((w64 (2 * s0.1)) + 1)))) then
  some (.inr (.inl s0.2))
 else
  bif (decide ((w64 ((w64 ((w64 (2 * s0.1)) + 1)) + 1)) < c)) then
   (ZC s0.2 (w64 (d + (w64 ((w64 (2 * s0.1)) + 1))))).bind fun x1 =>
   (ZC s0.2 (w64 ((w64 (d + (w64 ((w64 (2 * s0.1)) + 1)))) + 1))).bind fun x2 =>
   (e x1 x2).bind fun x3 =>
   bif (decide (x3 < 0)) then
    (ZC s0.2 (w64 (d + s0.1))).bind fun x4 =>
    (ZC s0.2 (w64 (d + (w64 ((w64 ((w64 (2 * s0.1)) + 1)) + 1))))).bind fun x5 =>
    (e x4 x5).bind fun x6 =>
    bif (decide (x6 < 0)) then
     (ZC (List.set s0.2 (w64 (d + s0.1)).toNat x5) (w64 (d + (w64 ((w64 ((w64 (2 * s0.1)) + 1)) + 1))))).bind fun x7 =>
     some (.inl ((w64 ((w64 ((w64 (2 * s0.1)) + 1)) + 1)), (List.set (List.set s0.2 (w64 (d + s0.1)).toNat x5) (w64 (d + (w64 ((w64 ((w64 (2 * s0.1)) + 1)) + 1)))).toNat x4)))
    else
     some (.inr (.inr s0.2))
   else
    (ZC s0.2 (w64 (d + s0.1))).bind fun x8 =>
    (e x8 x1).bind fun x9 =>
    bif (decide (x9 < 0)) then
     (ZC (List.set s0.2 (w64 (d + s0.1)).toNat x1) (w64 (d + (w64 ((w64 (2 * s0.1)) + 1))))).bind fun x10 =>
     some (.inl ((w64 ((w64 (2 * s0.1)) + 1)), (List.set (List.set s0.2 (w64 (d + s0.1)).toNat x1) (w64 (d + (w64 ((w64 (2 * s0.1)) + 1)))).toNat x8)))
    else
     some (.inr (.inr s0.2))
  else
   (ZC s0.2 (w64 (d + s0.1))).bind fun x11 =>
   (ZC s0.2 (w64 (d + (w64 ((w64 (2 * s0.1)) + 1))))).bind fun x12 =>
   (e x11 x12).bind fun x13 =>
   bif (decide (x13 < 0)) then
    (ZC (List.set s0.2 (w64 (d + s0.1)).toNat x12) (w64 (d + (w64 ((w64 (2 * s0.1)) + 1))))).bind fun x14 =>
    some (.inl ((w64 ((w64 (2 * s0.1)) + 1)), (List.set (List.set s0.2 (w64 (d + s0.1)).toNat x12) (w64 (d + (w64 ((w64 (2 * s0.1)) + 1)))).toNat x11)))
   else
    some (.inr (.inr s0.2))
noncomputable def Zas (b : Int) (c : Int) (d : Int) (e : (Int → Int → Option Int)) (m0_0 : (List Int)) : Option (List Int) :=
 (lp (ZD c d e) (b, m0_0)).bind fun r15 =>
 match r15 with
 | (.inl r15) =>
  some r15
 | (.inr r15) =>
  some r15
noncomputable def Zaw (b : Int) (c : Int) (d : (Int → Int → Option Int)) (s0 : Int × (List Int)) : Option ((Int × (List Int)) ⊕ (List Int)) :=
 bif (decide (0 ≤ s0.1)) then
  (Zas s0.1 (w64 (c - b)) b d s0.2).bind fun x1 =>
  some (.inl ((w64 (s0.1 - 1)), x1))
 else
  some (.inr s0.2)
noncomputable def Zax (b : Int) (d : (Int → Int → Option Int)) (s3 : Int × (List Int)) : Option ((Int × (List Int)) ⊕ (List Int)) :=
 bif (decide (0 ≤ s3.1)) then
  (ZC s3.2 (w64 (b + s3.1))).bind fun x4 =>
  (ZC s3.2 b).bind fun x5 =>
  (ZC (List.set s3.2 b.toNat x4) (w64 (b + s3.1))).bind fun x6 =>
  (Zas 0 s3.1 b d (List.set (List.set s3.2 b.toNat x4) (w64 (b + s3.1)).toNat x5)).bind fun x7 =>
  some (.inl ((w64 (s3.1 - 1)), x7))
 else
  some (.inr s3.2)
noncomputable def Z1 (b : Int) (c : Int) (d : (Int → Int → Option Int)) (m0_0 : (List Int)) : Option (List Int) :=
 (lp (Zaw b c d) ((w64 (Int.tdiv (w64 ((w64 (c - b)) - 1)) 2)), m0_0)).bind fun r2 =>
 (lp (Zax b d) ((w64 ((w64 (c - b)) - 1)), r2)).bind fun r8 =>
 some r8
noncomputable def ZaB (b : Int) (c : Int) (e : (Int → Int → Option Int)) (m0_0 : (List Int)) (m1_0 : Int) : Option (Int × Int × Int) :=
 (ZC m0_0 c).bind fun x0 =>
 (ZC m0_0 b).bind fun x1 =>
 (e x0 x1).bind fun x2 =>
 bif (decide (x2 < 0)) then
  some (c, b, (w64 (m1_0 + 1)))
 else
  some (b, c, m1_0)
noncomputable def ZaC (b : Int) (c : Int) (d : Int) (f : (Int → Int → Option Int)) (m0_0 : (List Int)) (m1_0 : Int) : Option (Int × Int) :=
 (ZaB b c f m0_0 m1_0).bind fun x0 =>
 (ZaB x0.2.1 d f m0_0 x0.2.2).bind fun x1 =>
 (ZaB x0.1 x1.1 f m0_0 x1.2.2).bind fun x2 =>
 some (x2.2.1, x2.2.2)
noncomputable def Z2 (b : Int) (d : (Int → Int → Option Int)) (m0_0 : (List Int)) (m1_0 : Int) : Option (Int × Int) :=
 (ZaC (w64 (b - 1)) b (w64 (b + 1)) d m0_0 m1_0).bind fun x0 =>
 some (x0.1, x0.2)
noncomputable def ZG (b : Int) (c : Int) (d : (Int → Int → Option Int)) (m0_0 : (List Int)) : Option (Int × Int) :=
 bif (decide (8 ≤ (w64 (c - b)))) then
  bif (decide (50 ≤ (w64 (c - b)))) then
   (Z2 (w64 (b + (w64 ((w64 (Int.tdiv (w64 (c - b)) 4)) * 1)))) d m0_0 0).bind fun x0 =>
   (Z2 (w64 (b + (w64 ((w64 (Int.tdiv (w64 (c - b)) 4)) * 2)))) d m0_0 x0.2).bind fun x1 =>
   (Z2 (w64 (b + (w64 ((w64 (Int.tdiv (w64 (c - b)) 4)) * 3)))) d m0_0 x1.2).bind fun x2 =>
   (ZaC x0.1 x1.1 x2.1 d m0_0 x2.2).bind fun x3 =>
   bif (x3.2 == 0) then
    some (x3.1, 1)
   else
    bif (x3.2 == 12) then
     some (x3.1, 2)
    else
     some (x3.1, 0)
  else
   (ZaC (w64 (b + (w64 ((w64 (Int.tdiv (w64 (c - b)) 4)) * 1)))) (w64 (b + (w64 ((w64 (Int.tdiv (w64 (c - b)) 4)) * 2)))) (w64 (b + (w64 ((w64 (Int.tdiv (w64 (c - b)) 4)) * 3)))) d m0_0 0).bind fun x4 =>
   bif (x4.2 == 0) then
    some (x4.1, 1)
   else
    bif (x4.2 == 12) then
     some (x4.1, 2)
    else
     some (x4.1, 0)
 else
  some ((w64 (b + (w64 ((w64 (Int.tdiv (w64 (c - b)) 4)) * 2)))), 1)
noncomputable def Z0 (s0 : Int × Int × (List Int)) : Option ((Int × Int × (List Int)) ⊕ (List Int)) :=
 bif (decide (s0.1 < s0.2.1)) then
  (ZC s0.2.2 s0.2.1).bind fun x1 =>
  (ZC s0.2.2 s0.1).bind fun x2 =>
  (ZC (List.set s0.2.2 s0.1.toNat x1) s0.2.1).bind fun x3 =>
  some (.inl ((w64 (s0.1 + 1)), (w64 (s0.2.1 - 1)), (List.set (List.set s0.2.2 s0.1.toNat x1) s0.2.1.toNat x2)))
 else
  some (.inr s0.2.2)
noncomputable def ZF (b : Int) (c : Int) (d : (Int → Int → Option Int)) (m0_0 : (List Int)) : Option (List Int) :=
 (lp (Z0) (b, (w64 (c - 1)), m0_0)).bind fun r4 =>
 some r4
noncomputable def ZE (c : Int) (d : (Int → Int → Option Int)) (s0 : Int × Int × (List Int)) (s1 : Int) : Option (Int ⊕ Int) :=
 bif (decide (s1 < c)) then
  (ZC s0.2.2 s1).bind fun x2 =>
  (ZC s0.2.2 (w64 (s1 - 1))).bind fun x3 =>
  (d x2 x3).bind fun x4 =>
  bif (decide (x4 < 0)) then
   some (.inr s1)
  else
   some (.inl (w64 (s1 + 1)))
 else
  some (.inr s1)
noncomputable def ZL (d : (Int → Int → Option Int)) (s9 : Int × (List Int)) : Option ((Int × (List Int)) ⊕ (List Int)) :=
 bif (decide (1 ≤ s9.1)) then
  (ZC s9.2 s9.1).bind fun x10 =>
  (ZC s9.2 (w64 (s9.1 - 1))).bind fun x11 =>
  (d x10 x11).bind fun x12 =>
  bif (decide (x12 < 0)) then
   (ZC (List.set s9.2 s9.1.toNat x11) (w64 (s9.1 - 1))).bind fun x13 =>
   some (.inl ((w64 (s9.1 - 1)), (List.set (List.set s9.2 s9.1.toNat x11) (w64 (s9.1 - 1)).toNat x10)))
  else
   some (.inr s9.2)
 else
  some (.inr s9.2)
noncomputable def ZB (c : Int) (d : (Int → Int → Option Int)) (s15 : Int × (List Int)) : Option ((Int × (List Int)) ⊕ (List Int)) :=
 bif (decide (s15.1 < c)) then
  (ZC s15.2 s15.1).bind fun x16 =>
  (ZC s15.2 (w64 (s15.1 - 1))).bind fun x17 =>
  (d x16 x17).bind fun x18 =>
  bif (decide (x18 < 0)) then
   (ZC (List.set s15.2 s15.1.toNat x17) (w64 (s15.1 - 1))).bind fun x19 =>
   some (.inl ((w64 (s15.1 + 1)), (List.set (List.set s15.2 s15.1.toNat x17) (w64 (s15.1 - 1)).toNat x16)))
  else
   some (.inr s15.2)
 else
  some (.inr s15.2)
noncomputable def Zal (c : Int) (d : (Int → Int → Option Int)) (s21 : Int × (List Int)) : Option ((Int × (List Int)) ⊕ (List Int)) :=
 bif (decide (s21.1 < c)) then
  (ZC s21.2 s21.1).bind fun x22 =>
  (ZC s21.2 (w64 (s21.1 - 1))).bind fun x23 =>
  (d x22 x23).bind fun x24 =>
  bif (decide (x24 < 0)) then
   (ZC (List.set s21.2 s21.1.toNat x23) (w64 (s21.1 - 1))).bind fun x25 =>
   some (.inl ((w64 (s21.1 + 1)), (List.set (List.set s21.2 s21.1.toNat x23) (w64 (s21.1 - 1)).toNat x22)))
  else
   some (.inr s21.2)
 else
  some (.inr s21.2)
noncomputable def ZM (b : Int) (c : Int) (d : (Int → Int → Option Int)) (s0 : Int × Int × (List Int)) : Option ((Int × Int × (List Int)) ⊕ ((List Int) ⊕ ((List Int) ⊕ (List Int)))) :=
 bif (decide (s0.2.1 < 5)) then
  (lp (ZE c d s0) s0.1).bind fun r5 =>
  bif (r5 == c) then
   some (.inr (.inl s0.2.2))
  else
   bif (decide ((w64 (c - b)) < 50)) then
    some (.inr (.inr (.inl s0.2.2)))
   else
    (ZC s0.2.2 (w64 (r5 - 1))).bind fun x6 =>
    (ZC s0.2.2 r5).bind fun x7 =>
    (ZC (List.set s0.2.2 r5.toNat x6) (w64 (r5 - 1))).bind fun x8 =>
    bif (decide (2 ≤ (w64 (r5 - b)))) then
     (lp (ZL d) ((w64 (r5 - 1)), (List.set (List.set s0.2.2 r5.toNat x6) (w64 (r5 - 1)).toNat x7))).bind fun r14 =>
     bif (decide (2 ≤ (w64 (c - r5)))) then
      (lp (ZB c d) ((w64 (r5 + 1)), r14)).bind fun r20 =>
      some (.inl (r5, (w64 (s0.2.1 + 1)), r20))
     else
      some (.inl (r5, (w64 (s0.2.1 + 1)), r14))
    else
     bif (decide (2 ≤ (w64 (c - r5)))) then
      (lp (Zal c d) ((w64 (r5 + 1)), (List.set (List.set s0.2.2 r5.toNat x6) (w64 (r5 - 1)).toNat x7))).bind fun r26 =>
      some (.inl (r5, (w64 (s0.2.1 + 1)), r26))
     else
      some (.inl (r5, (w64 (s0.2.1 + 1)), (List.set (List.set s0.2.2 r5.toNat x6) (w64 (r5 - 1)).toNat x7)))
 else
  some (.inr (.inr (.inr s0.2.2)))
noncomputable def ZH (b : Int) (c : Int) (d : (Int → Int → Option Int)) (m0_0 : (List Int)) : Option ((List Int) ⊕ (List Int)) :=
 (lp (ZM b c d) ((w64 (b + 1)), 0, m0_0)).bind fun r27 =>
 match r27 with
 | (.inl r27) =>
  some (.inl r27)
 | (.inr (.inl r27)) =>
  some (.inr r27)
 | (.inr (.inr r27)) =>
  some (.inr r27)
noncomputable def Zar (b : Int) (c : Int) (d : Int) (m0_0 : (List Int)) (e : (Int → Int → Option Int)) (x0 : Int) (x1 : Int) (s3 : Int) : Option (Int ⊕ Int) :=
 bif (decide (s3 ≤ (w64 (c - 1)))) then
  (ZC (List.set (List.set m0_0 b.toNat x0) d.toNat x1) s3).bind fun x4 =>
  (ZC (List.set (List.set m0_0 b.toNat x0) d.toNat x1) b).bind fun x5 =>
  (e x4 x5).bind fun x6 =>
  bif (decide (x6 < 0)) then
   some (.inl (w64 (s3 + 1)))
  else
   some (.inr s3)
 else
  some (.inr s3)
noncomputable def Zaq (b : Int) (d : Int) (m0_0 : (List Int)) (e : (Int → Int → Option Int)) (x0 : Int) (x1 : Int) (r7 : Int) (s8 : Int) : Option (Int ⊕ Int) :=
 bif (decide (r7 ≤ s8)) then
  (ZC (List.set (List.set m0_0 b.toNat x0) d.toNat x1) s8).bind fun x9 =>
  (ZC (List.set (List.set m0_0 b.toNat x0) d.toNat x1) b).bind fun x10 =>
  (e x9 x10).bind fun x11 =>
  bif (decide (x11 < 0)) then
   some (.inr s8)
  else
   some (.inl (w64 (s8 - 1)))
 else
  some (.inr s8)
noncomputable def Zao (b : Int) (e : (Int → Int → Option Int)) (s19 : Int × Int × (List Int)) (s20 : Int) : Option (Int ⊕ Int) :=
 bif (decide (s20 ≤ s19.2.1)) then
  (ZC s19.2.2 s20).bind fun x21 =>
  (ZC s19.2.2 b).bind fun x22 =>
  (e x21 x22).bind fun x23 =>
  bif (decide (x23 < 0)) then
   some (.inl (w64 (s20 + 1)))
  else
   some (.inr s20)
 else
  some (.inr s20)
noncomputable def Zap (b : Int) (e : (Int → Int → Option Int)) (s19 : Int × Int × (List Int)) (r24 : Int) (s25 : Int) : Option (Int ⊕ Int) :=
 bif (decide (r24 ≤ s25)) then
  (ZC s19.2.2 s25).bind fun x26 =>
  (ZC s19.2.2 b).bind fun x27 =>
  (e x26 x27).bind fun x28 =>
  bif (decide (x28 < 0)) then
   some (.inr s25)
  else
   some (.inl (w64 (s25 - 1)))
 else
  some (.inr s25)
noncomputable def ZaJ (b : Int) (e : (Int → Int → Option Int)) (s19 : Int × Int × (List Int)) : Option ((Int × Int × (List Int)) ⊕ (Int × (List Int))) :=
 (lp (Zao b e s19) s19.1).bind fun r24 =>
 (lp (Zap b e s19 r24) s19.2.1).bind fun r29 =>
 bif (decide (r29 < r24)) then
  some (.inr (r29, s19.2.2))
 else
  (ZC s19.2.2 r29).bind fun x30 =>
  (ZC s19.2.2 r24).bind fun x31 =>
  (ZC (List.set s19.2.2 r24.toNat x30) r29).bind fun x32 =>
  some (.inl ((w64 (r24 + 1)), (w64 (r29 - 1)), (List.set (List.set s19.2.2 r24.toNat x30) r29.toNat x31)))
noncomputable def Zn (b : Int) (c : Int) (d : Int) (e : (Int → Int → Option Int)) (m0_0 : (List Int)) : Option ((Int × (List Int)) ⊕ (Int × (List Int))) :=
 (ZC m0_0 d).bind fun x0 =>
 (ZC m0_0 b).bind fun x1 =>
 (ZC (List.set m0_0 b.toNat x0) d).bind fun x2 =>
 (lp (Zar b c d m0_0 e x0 x1) (w64 (b + 1))).bind fun r7 =>
 (lp (Zaq b d m0_0 e x0 x1 r7) (w64 (c - 1))).bind fun r12 =>
 bif (decide (r12 < r7)) then
  (ZC (List.set (List.set m0_0 b.toNat x0) d.toNat x1) b).bind fun x13 =>
  (ZC (List.set (List.set m0_0 b.toNat x0) d.toNat x1) r12).bind fun x14 =>
  (ZC (List.set (List.set (List.set m0_0 b.toNat x0) d.toNat x1) r12.toNat x13) b).bind fun x15 =>
  some (.inl (r12, (List.set (List.set (List.set (List.set m0_0 b.toNat x0) d.toNat x1) r12.toNat x13) b.toNat x14)))
 else
  (ZC (List.set (List.set m0_0 b.toNat x0) d.toNat x1) r12).bind fun x16 =>
  (ZC (List.set (List.set m0_0 b.toNat x0) d.toNat x1) r7).bind fun x17 =>
  (ZC (List.set (List.set (List.set m0_0 b.toNat x0) d.toNat x1) r7.toNat x16) r12).bind fun x18 =>
  (lp (ZaJ b e) ((w64 (r7 + 1)), (w64 (r12 - 1)), (List.set (List.set (List.set (List.set m0_0 b.toNat x0) d.toNat x1) r7.toNat x16) r12.toNat x17))).bind fun r33 =>
  (ZC r33.2 b).bind fun x34 =>
  (ZC r33.2 r33.1).bind fun x35 =>
  (ZC (List.set r33.2 r33.1.toNat x34) b).bind fun x36 =>
  some (.inr (r33.1, (List.set (List.set r33.2 r33.1.toNat x34) b.toNat x35)))
noncomputable def Z8 (b : Int) (e : (Int → Int → Option Int)) (s3 : Int × Int × (List Int)) (s4 : Int) : Option (Int ⊕ Int) :=
 bif (decide (s4 ≤ s3.2.1)) then
  (ZC s3.2.2 b).bind fun x5 =>
  (ZC s3.2.2 s4).bind fun x6 =>
  (e x5 x6).bind fun x7 =>
  bif (decide (x7 < 0)) then
   some (.inr s4)
  else
   some (.inl (w64 (s4 + 1)))
 else
  some (.inr s4)
noncomputable def Z7 (b : Int) (e : (Int → Int → Option Int)) (s3 : Int × Int × (List Int)) (r8 : Int) (s9 : Int) : Option (Int ⊕ Int) :=
 bif (decide (r8 ≤ s9)) then
  (ZC s3.2.2 b).bind fun x10 =>
  (ZC s3.2.2 s9).bind fun x11 =>
  (e x10 x11).bind fun x12 =>
  bif (decide (x12 < 0)) then
   some (.inl (w64 (s9 - 1)))
  else
   some (.inr s9)
 else
  some (.inr s9)
noncomputable def Zan (b : Int) (e : (Int → Int → Option Int)) (s3 : Int × Int × (List Int)) : Option ((Int × Int × (List Int)) ⊕ (Int × (List Int))) :=
 (lp (Z8 b e s3) s3.1).bind fun r8 =>
 (lp (Z7 b e s3 r8) s3.2.1).bind fun r13 =>
 bif (decide (r13 < r8)) then
  some (.inr (r8, s3.2.2))
 else
  (ZC s3.2.2 r13).bind fun x14 =>
  (ZC s3.2.2 r8).bind fun x15 =>
  (ZC (List.set s3.2.2 r8.toNat x14) r13).bind fun x16 =>
  some (.inl ((w64 (r8 + 1)), (w64 (r13 - 1)), (List.set (List.set s3.2.2 r8.toNat x14) r13.toNat x15)))
noncomputable def Zz (b : Int) (c : Int) (d : Int) (e : (Int → Int → Option Int)) (m0_0 : (List Int)) : Option (Int × (List Int)) :=
 (ZC m0_0 d).bind fun x0 =>
 (ZC m0_0 b).bind fun x1 =>
 (ZC (List.set m0_0 b.toNat x0) d).bind fun x2 =>
 (lp (Zan b e) ((w64 (b + 1)), (w64 (c - 1)), (List.set (List.set m0_0 b.toNat x0) d.toNat x1))).bind fun r17 =>
 some (r17.1, r17.2)
noncomputable def Zb3 (a : Int) : Option Int :=
 (Zdo (IntKind.u64.wrap a)).bind fun x0 =>
 bif (decide (x0 < 0)) then
  none
 else
  some (IntKind.u64.wrap (1 * 2 ^ (min (x0).toNat IntKind.u64.bits)))
noncomputable def Zc3 : Option Unit :=
 some ()
noncomputable def Zav (b : Int) (c : Int) (x0 : Int) (s1 : Int × (List Int) × Int) : Option ((Int × (List Int) × Int) ⊕ (List Int)) :=
 bif (decide (s1.1 ≤ (w64 ((w64 (b + (w64 ((w64 (Int.tdiv (w64 (c - b)) 4)) * 2)))) + 1)))) then
  Zc3.bind fun x2 =>
  bif (decide ((w64 (c - b)) ≤ (w64 (IntKind.u64.wrap (BitVec.ofInt IntKind.u64.bits (IntKind.u64.wrap (BitVec.ofInt IntKind.u64.bits (IntKind.u64.wrap (BitVec.ofInt IntKind.u64.bits (IntKind.u64.wrap (BitVec.ofInt IntKind.u64.bits s1.2.2 ^^^ BitVec.ofInt IntKind.u64.bits (IntKind.u64.wrap (s1.2.2 * 2 ^ 13))).toNat) ^^^ BitVec.ofInt IntKind.u64.bits (Int.fdiv (IntKind.u64.wrap (BitVec.ofInt IntKind.u64.bits s1.2.2 ^^^ BitVec.ofInt IntKind.u64.bits (IntKind.u64.wrap (s1.2.2 * 2 ^ 13))).toNat) (2 ^ 7))).toNat) ^^^ BitVec.ofInt IntKind.u64.bits (IntKind.u64.wrap ((IntKind.u64.wrap (BitVec.ofInt IntKind.u64.bits (IntKind.u64.wrap (BitVec.ofInt IntKind.u64.bits s1.2.2 ^^^ BitVec.ofInt IntKind.u64.bits (IntKind.u64.wrap (s1.2.2 * 2 ^ 13))).toNat) ^^^ BitVec.ofInt IntKind.u64.bits (Int.fdiv (IntKind.u64.wrap (BitVec.ofInt IntKind.u64.bits s1.2.2 ^^^ BitVec.ofInt IntKind.u64.bits (IntKind.u64.wrap (s1.2.2 * 2 ^ 13))).toNat) (2 ^ 7))).toNat) * 2 ^ 17))).toNat) &&& BitVec.ofInt IntKind.u64.bits (IntKind.u64.wrap (x0 - 1))).toNat)))) then
   (ZC s1.2.1 (w64 (b + (w64 ((w64 (IntKind.u64.wrap (BitVec.ofInt IntKind.u64.bits (IntKind.u64.wrap (BitVec.ofInt IntKind.u64.bits (IntKind.u64.wrap (BitVec.ofInt IntKind.u64.bits (IntKind.u64.wrap (BitVec.ofInt IntKind.u64.bits s1.2.2 ^^^ BitVec.ofInt IntKind.u64.bits (IntKind.u64.wrap (s1.2.2 * 2 ^ 13))).toNat) ^^^ BitVec.ofInt IntKind.u64.bits (Int.fdiv (IntKind.u64.wrap (BitVec.ofInt IntKind.u64.bits s1.2.2 ^^^ BitVec.ofInt IntKind.u64.bits (IntKind.u64.wrap (s1.2.2 * 2 ^ 13))).toNat) (2 ^ 7))).toNat) ^^^ BitVec.ofInt IntKind.u64.bits (IntKind.u64.wrap ((IntKind.u64.wrap (BitVec.ofInt IntKind.u64.bits (IntKind.u64.wrap (BitVec.ofInt IntKind.u64.bits s1.2.2 ^^^ BitVec.ofInt IntKind.u64.bits (IntKind.u64.wrap (s1.2.2 * 2 ^ 13))).toNat) ^^^ BitVec.ofInt IntKind.u64.bits (Int.fdiv (IntKind.u64.wrap (BitVec.ofInt IntKind.u64.bits s1.2.2 ^^^ BitVec.ofInt IntKind.u64.bits (IntKind.u64.wrap (s1.2.2 * 2 ^ 13))).toNat) (2 ^ 7))).toNat) * 2 ^ 17))).toNat) &&& BitVec.ofInt IntKind.u64.bits (IntKind.u64.wrap (x0 - 1))).toNat)) - (w64 (c - b))))))).bind fun x3 =>
   (ZC s1.2.1 s1.1).bind fun x4 =>
   (ZC (List.set s1.2.1 s1.1.toNat x3) (w64 (b + (w64 ((w64 (IntKind.u64.wrap (BitVec.ofInt IntKind.u64.bits (IntKind.u64.wrap (BitVec.ofInt IntKind.u64.bits (IntKind.u64.wrap (BitVec.ofInt IntKind.u64.bits (IntKind.u64.wrap (BitVec.ofInt IntKind.u64.bits s1.2.2 ^^^ BitVec.ofInt IntKind.u64.bits (IntKind.u64.wrap (s1.2.2 * 2 ^ 13))).toNat) ^^^ BitVec.ofInt IntKind.u64.bits (Int.fdiv (IntKind.u64.wrap (BitVec.ofInt IntKind.u64.bits s1.2.2 ^^^ BitVec.ofInt IntKind.u64.bits (IntKind.u64.wrap (s1.2.2 * 2 ^ 13))).toNat) (2 ^ 7))).toNat) ^^^ BitVec.ofInt IntKind.u64.bits (IntKind.u64.wrap ((IntKind.u64.wrap (BitVec.ofInt IntKind.u64.bits (IntKind.u64.wrap (BitVec.ofInt IntKind.u64.bits s1.2.2 ^^^ BitVec.ofInt IntKind.u64.bits (IntKind.u64.wrap (s1.2.2 * 2 ^ 13))).toNat) ^^^ BitVec.ofInt IntKind.u64.bits (Int.fdiv (IntKind.u64.wrap (BitVec.ofInt IntKind.u64.bits s1.2.2 ^^^ BitVec.ofInt IntKind.u64.bits (IntKind.u64.wrap (s1.2.2 * 2 ^ 13))).toNat) (2 ^ 7))).toNat) * 2 ^ 17))).toNat) &&& BitVec.ofInt IntKind.u64.bits (IntKind.u64.wrap (x0 - 1))).toNat)) - (w64 (c - b))))))).bind fun x5 =>
   some (.inl ((w64 (s1.1 + 1)), (List.set (List.set s1.2.1 s1.1.toNat x3) (w64 (b + (w64 ((w64 (IntKind.u64.wrap (BitVec.ofInt IntKind.u64.bits (IntKind.u64.wrap (BitVec.ofInt IntKind.u64.bits (IntKind.u64.wrap (BitVec.ofInt IntKind.u64.bits (IntKind.u64.wrap (BitVec.ofInt IntKind.u64.bits s1.2.2 ^^^ BitVec.ofInt IntKind.u64.bits (IntKind.u64.wrap (s1.2.2 * 2 ^ 13))).toNat) ^^^ BitVec.ofInt IntKind.u64.bits (Int.fdiv (IntKind.u64.wrap (BitVec.ofInt IntKind.u64.bits s1.2.2 ^^^ BitVec.ofInt IntKind.u64.bits (IntKind.u64.wrap (s1.2.2 * 2 ^ 13))).toNat) (2 ^ 7))).toNat) ^^^ BitVec.ofInt IntKind.u64.bits (IntKind.u64.wrap ((IntKind.u64.wrap (BitVec.ofInt IntKind.u64.bits (IntKind.u64.wrap (BitVec.ofInt IntKind.u64.bits s1.2.2 ^^^ BitVec.ofInt IntKind.u64.bits (IntKind.u64.wrap (s1.2.2 * 2 ^ 13))).toNat) ^^^ BitVec.ofInt IntKind.u64.bits (Int.fdiv (IntKind.u64.wrap (BitVec.ofInt IntKind.u64.bits s1.2.2 ^^^ BitVec.ofInt IntKind.u64.bits (IntKind.u64.wrap (s1.2.2 * 2 ^ 13))).toNat) (2 ^ 7))).toNat) * 2 ^ 17))).toNat) &&& BitVec.ofInt IntKind.u64.bits (IntKind.u64.wrap (x0 - 1))).toNat)) - (w64 (c - b)))))).toNat x4), (IntKind.u64.wrap (BitVec.ofInt IntKind.u64.bits (IntKind.u64.wrap (BitVec.ofInt IntKind.u64.bits (IntKind.u64.wrap (BitVec.ofInt IntKind.u64.bits s1.2.2 ^^^ BitVec.ofInt IntKind.u64.bits (IntKind.u64.wrap (s1.2.2 * 2 ^ 13))).toNat) ^^^ BitVec.ofInt IntKind.u64.bits (Int.fdiv (IntKind.u64.wrap (BitVec.ofInt IntKind.u64.bits s1.2.2 ^^^ BitVec.ofInt IntKind.u64.bits (IntKind.u64.wrap (s1.2.2 * 2 ^ 13))).toNat) (2 ^ 7))).toNat) ^^^ BitVec.ofInt IntKind.u64.bits (IntKind.u64.wrap ((IntKind.u64.wrap (BitVec.ofInt IntKind.u64.bits (IntKind.u64.wrap (BitVec.ofInt IntKind.u64.bits s1.2.2 ^^^ BitVec.ofInt IntKind.u64.bits (IntKind.u64.wrap (s1.2.2 * 2 ^ 13))).toNat) ^^^ BitVec.ofInt IntKind.u64.bits (Int.fdiv (IntKind.u64.wrap (BitVec.ofInt IntKind.u64.bits s1.2.2 ^^^ BitVec.ofInt IntKind.u64.bits (IntKind.u64.wrap (s1.2.2 * 2 ^ 13))).toNat) (2 ^ 7))).toNat) * 2 ^ 17))).toNat)))
  else
   (ZC s1.2.1 (w64 (b + (w64 (IntKind.u64.wrap (BitVec.ofInt IntKind.u64.bits (IntKind.u64.wrap (BitVec.ofInt IntKind.u64.bits (IntKind.u64.wrap (BitVec.ofInt IntKind.u64.bits (IntKind.u64.wrap (BitVec.ofInt IntKind.u64.bits s1.2.2 ^^^ BitVec.ofInt IntKind.u64.bits (IntKind.u64.wrap (s1.2.2 * 2 ^ 13))).toNat) ^^^ BitVec.ofInt IntKind.u64.bits (Int.fdiv (IntKind.u64.wrap (BitVec.ofInt IntKind.u64.bits s1.2.2 ^^^ BitVec.ofInt IntKind.u64.bits (IntKind.u64.wrap (s1.2.2 * 2 ^ 13))).toNat) (2 ^ 7))).toNat) ^^^ BitVec.ofInt IntKind.u64.bits (IntKind.u64.wrap ((IntKind.u64.wrap (BitVec.ofInt IntKind.u64.bits (IntKind.u64.wrap (BitVec.ofInt IntKind.u64.bits s1.2.2 ^^^ BitVec.ofInt IntKind.u64.bits (IntKind.u64.wrap (s1.2.2 * 2 ^ 13))).toNat) ^^^ BitVec.ofInt IntKind.u64.bits (Int.fdiv (IntKind.u64.wrap (BitVec.ofInt IntKind.u64.bits s1.2.2 ^^^ BitVec.ofInt IntKind.u64.bits (IntKind.u64.wrap (s1.2.2 * 2 ^ 13))).toNat) (2 ^ 7))).toNat) * 2 ^ 17))).toNat) &&& BitVec.ofInt IntKind.u64.bits (IntKind.u64.wrap (x0 - 1))).toNat))))).bind fun x6 =>
   (ZC s1.2.1 s1.1).bind fun x7 =>
   (ZC (List.set s1.2.1 s1.1.toNat x6) (w64 (b + (w64 (IntKind.u64.wrap (BitVec.ofInt IntKind.u64.bits (IntKind.u64.wrap (BitVec.ofInt IntKind.u64.bits (IntKind.u64.wrap (BitVec.ofInt IntKind.u64.bits (IntKind.u64.wrap (BitVec.ofInt IntKind.u64.bits s1.2.2 ^^^ BitVec.ofInt IntKind.u64.bits (IntKind.u64.wrap (s1.2.2 * 2 ^ 13))).toNat) ^^^ BitVec.ofInt IntKind.u64.bits (Int.fdiv (IntKind.u64.wrap (BitVec.ofInt IntKind.u64.bits s1.2.2 ^^^ BitVec.ofInt IntKind.u64.bits (IntKind.u64.wrap (s1.2.2 * 2 ^ 13))).toNat) (2 ^ 7))).toNat) ^^^ BitVec.ofInt IntKind.u64.bits (IntKind.u64.wrap ((IntKind.u64.wrap (BitVec.ofInt IntKind.u64.bits (IntKind.u64.wrap (BitVec.ofInt IntKind.u64.bits s1.2.2 ^^^ BitVec.ofInt IntKind.u64.bits (IntKind.u64.wrap (s1.2.2 * 2 ^ 13))).toNat) ^^^ BitVec.ofInt IntKind.u64.bits (Int.fdiv (IntKind.u64.wrap (BitVec.ofInt IntKind.u64.bits s1.2.2 ^^^ BitVec.ofInt IntKind.u64.bits (IntKind.u64.wrap (s1.2.2 * 2 ^ 13))).toNat) (2 ^ 7))).toNat) * 2 ^ 17))).toNat) &&& BitVec.ofInt IntKind.u64.bits (IntKind.u64.wrap (x0 - 1))).toNat))))).bind fun x8 =>
   some (.inl ((w64 (s1.1 + 1)), (List.set (List.set s1.2.1 s1.1.toNat x6) (w64 (b + (w64 (IntKind.u64.wrap (BitVec.ofInt IntKind.u64.bits (IntKind.u64.wrap (BitVec.ofInt IntKind.u64.bits (IntKind.u64.wrap (BitVec.ofInt IntKind.u64.bits (IntKind.u64.wrap (BitVec.ofInt IntKind.u64.bits s1.2.2 ^^^ BitVec.ofInt IntKind.u64.bits (IntKind.u64.wrap (s1.2.2 * 2 ^ 13))).toNat) ^^^ BitVec.ofInt IntKind.u64.bits (Int.fdiv (IntKind.u64.wrap (BitVec.ofInt IntKind.u64.bits s1.2.2 ^^^ BitVec.ofInt IntKind.u64.bits (IntKind.u64.wrap (s1.2.2 * 2 ^ 13))).toNat) (2 ^ 7))).toNat) ^^^ BitVec.ofInt IntKind.u64.bits (IntKind.u64.wrap ((IntKind.u64.wrap (BitVec.ofInt IntKind.u64.bits (IntKind.u64.wrap (BitVec.ofInt IntKind.u64.bits s1.2.2 ^^^ BitVec.ofInt IntKind.u64.bits (IntKind.u64.wrap (s1.2.2 * 2 ^ 13))).toNat) ^^^ BitVec.ofInt IntKind.u64.bits (Int.fdiv (IntKind.u64.wrap (BitVec.ofInt IntKind.u64.bits s1.2.2 ^^^ BitVec.ofInt IntKind.u64.bits (IntKind.u64.wrap (s1.2.2 * 2 ^ 13))).toNat) (2 ^ 7))).toNat) * 2 ^ 17))).toNat) &&& BitVec.ofInt IntKind.u64.bits (IntKind.u64.wrap (x0 - 1))).toNat)))).toNat x7), (IntKind.u64.wrap (BitVec.ofInt IntKind.u64.bits (IntKind.u64.wrap (BitVec.ofInt IntKind.u64.bits (IntKind.u64.wrap (BitVec.ofInt IntKind.u64.bits s1.2.2 ^^^ BitVec.ofInt IntKind.u64.bits (IntKind.u64.wrap (s1.2.2 * 2 ^ 13))).toNat) ^^^ BitVec.ofInt IntKind.u64.bits (Int.fdiv (IntKind.u64.wrap (BitVec.ofInt IntKind.u64.bits s1.2.2 ^^^ BitVec.ofInt IntKind.u64.bits (IntKind.u64.wrap (s1.2.2 * 2 ^ 13))).toNat) (2 ^ 7))).toNat) ^^^ BitVec.ofInt IntKind.u64.bits (IntKind.u64.wrap ((IntKind.u64.wrap (BitVec.ofInt IntKind.u64.bits (IntKind.u64.wrap (BitVec.ofInt IntKind.u64.bits s1.2.2 ^^^ BitVec.ofInt IntKind.u64.bits (IntKind.u64.wrap (s1.2.2 * 2 ^ 13))).toNat) ^^^ BitVec.ofInt IntKind.u64.bits (Int.fdiv (IntKind.u64.wrap (BitVec.ofInt IntKind.u64.bits s1.2.2 ^^^ BitVec.ofInt IntKind.u64.bits (IntKind.u64.wrap (s1.2.2 * 2 ^ 13))).toNat) (2 ^ 7))).toNat) * 2 ^ 17))).toNat)))
 else
  some (.inr s1.2.1)
noncomputable def Z4 (b : Int) (c : Int) (d : (Int → Int → Option Int)) (m0_0 : (List Int)) : Option (List Int) :=
 bif (decide (8 ≤ (w64 (c - b)))) then
  (Zb3 (w64 (c - b))).bind fun x0 =>
  (lp (Zav b c x0) ((w64 ((w64 (b + (w64 ((w64 (Int.tdiv (w64 (c - b)) 4)) * 2)))) - 1)), m0_0, (IntKind.u64.wrap (w64 (c - b))))).bind fun r9 =>
  some r9
 else
  some m0_0
noncomputable def ZJ (e : (Int → Int → Option Int)) (rc : Int → Int → Int → (Int → Int → Option Int) → (List Int) → Option (List Int)) (s0 : Int × Int × Int × Bool × Bool × (List Int)) : Option ((Int × Int × Int × Bool × Bool × (List Int)) ⊕ (List Int)) :=
 bif s0.2.2.2.1 then
  bif s0.2.2.2.2.1 then
   bif (decide ((w64 (s0.2.1 - s0.1)) ≤ 12)) then
    (ZP s0.1 s0.2.1 e s0.2.2.2.2.2).bind fun x1 =>
    some (.inr x1)
   else
    bif (s0.2.2.1 == 0) then
     (Z1 s0.1 s0.2.1 e s0.2.2.2.2.2).bind fun x2 =>
     some (.inr x2)
    else
     (ZG s0.1 s0.2.1 e s0.2.2.2.2.2).bind fun x3 =>
     bif (x3.2 == 2) then
      (ZF s0.1 s0.2.1 e s0.2.2.2.2.2).bind fun x4 =>
      (ZH s0.1 s0.2.1 e x4).bind fun x5 =>
      match x5 with
      | (.inl x5) =>
       some (.inr x5)
      | (.inr x5) =>
       bif (decide (0 < s0.1)) then
        (ZC x5 (w64 (s0.1 - 1))).bind fun x6 =>
        (ZC x5 (w64 ((w64 (s0.2.1 - 1)) - (w64 (x3.1 - s0.1))))).bind fun x7 =>
        (e x6 x7).bind fun x8 =>
        bif (decide (x8 < 0)) then
         (Zn s0.1 s0.2.1 (w64 ((w64 (s0.2.1 - 1)) - (w64 (x3.1 - s0.1)))) e x5).bind fun x9 =>
         match x9 with
         | (.inl x9) =>
          bif (decide ((w64 (x9.1 - s0.1)) < (w64 (s0.2.1 - x9.1)))) then
           bif (decide ((w64 (Int.tdiv (w64 (s0.2.1 - s0.1)) 8)) ≤ (w64 (x9.1 - s0.1)))) then
            (rc s0.1 x9.1 s0.2.2.1 e x9.2).bind fun x10 =>
            some (.inl ((w64 (x9.1 + 1)), s0.2.1, s0.2.2.1, true, true, x10))
           else
            (rc s0.1 x9.1 s0.2.2.1 e x9.2).bind fun x11 =>
            some (.inl ((w64 (x9.1 + 1)), s0.2.1, s0.2.2.1, false, true, x11))
          else
           bif (decide ((w64 (Int.tdiv (w64 (s0.2.1 - s0.1)) 8)) ≤ (w64 (s0.2.1 - x9.1)))) then
            (rc (w64 (x9.1 + 1)) s0.2.1 s0.2.2.1 e x9.2).bind fun x12 =>
            some (.inl (s0.1, x9.1, s0.2.2.1, true, true, x12))
           else
            (rc (w64 (x9.1 + 1)) s0.2.1 s0.2.2.1 e x9.2).bind fun x13 =>
            some (.inl (s0.1, x9.1, s0.2.2.1, false, true, x13))
         | (.inr x9) =>
          bif (decide ((w64 (x9.1 - s0.1)) < (w64 (s0.2.1 - x9.1)))) then
           bif (decide ((w64 (Int.tdiv (w64 (s0.2.1 - s0.1)) 8)) ≤ (w64 (x9.1 - s0.1)))) then
            (rc s0.1 x9.1 s0.2.2.1 e x9.2).bind fun x14 =>
            some (.inl ((w64 (x9.1 + 1)), s0.2.1, s0.2.2.1, true, false, x14))
           else
            (rc s0.1 x9.1 s0.2.2.1 e x9.2).bind fun x15 =>
            some (.inl ((w64 (x9.1 + 1)), s0.2.1, s0.2.2.1, false, false, x15))
          else
           bif (decide ((w64 (Int.tdiv (w64 (s0.2.1 - s0.1)) 8)) ≤ (w64 (s0.2.1 - x9.1)))) then
            (rc (w64 (x9.1 + 1)) s0.2.1 s0.2.2.1 e x9.2).bind fun x16 =>
            some (.inl (s0.1, x9.1, s0.2.2.1, true, false, x16))
           else
            (rc (w64 (x9.1 + 1)) s0.2.1 s0.2.2.1 e x9.2).bind fun x17 =>
            some (.inl (s0.1, x9.1, s0.2.2.1, false, false, x17))
        else
         (Zz s0.1 s0.2.1 (w64 ((w64 (s0.2.1 - 1)) - (w64 (x3.1 - s0.1)))) e x5).bind fun x18 =>
         some (.inl (x18.1, s0.2.1, s0.2.2.1, true, true, x18.2))
       else
        (Zn s0.1 s0.2.1 (w64 ((w64 (s0.2.1 - 1)) - (w64 (x3.1 - s0.1)))) e x5).bind fun x19 =>
        match x19 with
        | (.inl x19) =>
         bif (decide ((w64 (x19.1 - s0.1)) < (w64 (s0.2.1 - x19.1)))) then
          bif (decide ((w64 (Int.tdiv (w64 (s0.2.1 - s0.1)) 8)) ≤ (w64 (x19.1 - s0.1)))) then
           (rc s0.1 x19.1 s0.2.2.1 e x19.2).bind fun x20 =>
           some (.inl ((w64 (x19.1 + 1)), s0.2.1, s0.2.2.1, true, true, x20))
          else
           (rc s0.1 x19.1 s0.2.2.1 e x19.2).bind fun x21 =>
           some (.inl ((w64 (x19.1 + 1)), s0.2.1, s0.2.2.1, false, true, x21))
         else
          bif (decide ((w64 (Int.tdiv (w64 (s0.2.1 - s0.1)) 8)) ≤ (w64 (s0.2.1 - x19.1)))) then
           (rc (w64 (x19.1 + 1)) s0.2.1 s0.2.2.1 e x19.2).bind fun x22 =>
           some (.inl (s0.1, x19.1, s0.2.2.1, true, true, x22))
          else
           (rc (w64 (x19.1 + 1)) s0.2.1 s0.2.2.1 e x19.2).bind fun x23 =>
           some (.inl (s0.1, x19.1, s0.2.2.1, false, true, x23))
        | (.inr x19) =>
         bif (decide ((w64 (x19.1 - s0.1)) < (w64 (s0.2.1 - x19.1)))) then
          bif (decide ((w64 (Int.tdiv (w64 (s0.2.1 - s0.1)) 8)) ≤ (w64 (x19.1 - s0.1)))) then
           (rc s0.1 x19.1 s0.2.2.1 e x19.2).bind fun x24 =>
           some (.inl ((w64 (x19.1 + 1)), s0.2.1, s0.2.2.1, true, false, x24))
          else
           (rc s0.1 x19.1 s0.2.2.1 e x19.2).bind fun x25 =>
           some (.inl ((w64 (x19.1 + 1)), s0.2.1, s0.2.2.1, false, false, x25))
         else
          bif (decide ((w64 (Int.tdiv (w64 (s0.2.1 - s0.1)) 8)) ≤ (w64 (s0.2.1 - x19.1)))) then
           (rc (w64 (x19.1 + 1)) s0.2.1 s0.2.2.1 e x19.2).bind fun x26 =>
           some (.inl (s0.1, x19.1, s0.2.2.1, true, false, x26))
          else
           (rc (w64 (x19.1 + 1)) s0.2.1 s0.2.2.1 e x19.2).bind fun x27 =>
           some (.inl (s0.1, x19.1, s0.2.2.1, false, false, x27))
     else
      bif (x3.2 == 1) then
       (ZH s0.1 s0.2.1 e s0.2.2.2.2.2).bind fun x28 =>
       match x28 with
       | (.inl x28) =>
        some (.inr x28)
       | (.inr x28) =>
        bif (decide (0 < s0.1)) then
         (ZC x28 (w64 (s0.1 - 1))).bind fun x29 =>
         (ZC x28 x3.1).bind fun x30 =>
         (e x29 x30).bind fun x31 =>
         bif (decide (x31 < 0)) then
          (Zn s0.1 s0.2.1 x3.1 e x28).bind fun x32 =>
          match x32 with
          | (.inl x32) =>
           bif (decide ((w64 (x32.1 - s0.1)) < (w64 (s0.2.1 - x32.1)))) then
            bif (decide ((w64 (Int.tdiv (w64 (s0.2.1 - s0.1)) 8)) ≤ (w64 (x32.1 - s0.1)))) then
             (rc s0.1 x32.1 s0.2.2.1 e x32.2).bind fun x33 =>
             some (.inl ((w64 (x32.1 + 1)), s0.2.1, s0.2.2.1, true, true, x33))
            else
             (rc s0.1 x32.1 s0.2.2.1 e x32.2).bind fun x34 =>
             some (.inl ((w64 (x32.1 + 1)), s0.2.1, s0.2.2.1, false, true, x34))
           else
            bif (decide ((w64 (Int.tdiv (w64 (s0.2.1 - s0.1)) 8)) ≤ (w64 (s0.2.1 - x32.1)))) then
             (rc (w64 (x32.1 + 1)) s0.2.1 s0.2.2.1 e x32.2).bind fun x35 =>
             some (.inl (s0.1, x32.1, s0.2.2.1, true, true, x35))
            else
             (rc (w64 (x32.1 + 1)) s0.2.1 s0.2.2.1 e x32.2).bind fun x36 =>
             some (.inl (s0.1, x32.1, s0.2.2.1, false, true, x36))
          | (.inr x32) =>
           bif (decide ((w64 (x32.1 - s0.1)) < (w64 (s0.2.1 - x32.1)))) then
            bif (decide ((w64 (Int.tdiv (w64 (s0.2.1 - s0.1)) 8)) ≤ (w64 (x32.1 - s0.1)))) then
             (rc s0.1 x32.1 s0.2.2.1 e x32.2).bind fun x37 =>
             some (.inl ((w64 (x32.1 + 1)), s0.2.1, s0.2.2.1, true, false, x37))
            else
             (rc s0.1 x32.1 s0.2.2.1 e x32.2).bind fun x38 =>
             some (.inl ((w64 (x32.1 + 1)), s0.2.1, s0.2.2.1, false, false, x38))
           else
            bif (decide ((w64 (Int.tdiv (w64 (s0.2.1 - s0.1)) 8)) ≤ (w64 (s0.2.1 - x32.1)))) then
             (rc (w64 (x32.1 + 1)) s0.2.1 s0.2.2.1 e x32.2).bind fun x39 =>
             some (.inl (s0.1, x32.1, s0.2.2.1, true, false, x39))
            else
             (rc (w64 (x32.1 + 1)) s0.2.1 s0.2.2.1 e x32.2).bind fun x40 =>
             some (.inl (s0.1, x32.1, s0.2.2.1, false, false, x40))
         else
          (Zz s0.1 s0.2.1 x3.1 e x28).bind fun x41 =>
          some (.inl (x41.1, s0.2.1, s0.2.2.1, true, true, x41.2))
        else
         (Zn s0.1 s0.2.1 x3.1 e x28).bind fun x42 =>
         match x42 with
         | (.inl x42) =>
          bif (decide ((w64 (x42.1 - s0.1)) < (w64 (s0.2.1 - x42.1)))) then
           bif (decide ((w64 (Int.tdiv (w64 (s0.2.1 - s0.1)) 8)) ≤ (w64 (x42.1 - s0.1)))) then
            (rc s0.1 x42.1 s0.2.2.1 e x42.2).bind fun x43 =>
            some (.inl ((w64 (x42.1 + 1)), s0.2.1, s0.2.2.1, true, true, x43))
           else
            (rc s0.1 x42.1 s0.2.2.1 e x42.2).bind fun x44 =>
            some (.inl ((w64 (x42.1 + 1)), s0.2.1, s0.2.2.1, false, true, x44))
          else
           bif (decide ((w64 (Int.tdiv (w64 (s0.2.1 - s0.1)) 8)) ≤ (w64 (s0.2.1 - x42.1)))) then
            (rc (w64 (x42.1 + 1)) s0.2.1 s0.2.2.1 e x42.2).bind fun x45 =>
            some (.inl (s0.1, x42.1, s0.2.2.1, true, true, x45))
           else
            (rc (w64 (x42.1 + 1)) s0.2.1 s0.2.2.1 e x42.2).bind fun x46 =>
            some (.inl (s0.1, x42.1, s0.2.2.1, false, true, x46))
         | (.inr x42) =>
          bif (decide ((w64 (x42.1 - s0.1)) < (w64 (s0.2.1 - x42.1)))) then
           bif (decide ((w64 (Int.tdiv (w64 (s0.2.1 - s0.1)) 8)) ≤ (w64 (x42.1 - s0.1)))) then
            (rc s0.1 x42.1 s0.2.2.1 e x42.2).bind fun x47 =>
            some (.inl ((w64 (x42.1 + 1)), s0.2.1, s0.2.2.1, true, false, x47))
           else
            (rc s0.1 x42.1 s0.2.2.1 e x42.2).bind fun x48 =>
            some (.inl ((w64 (x42.1 + 1)), s0.2.1, s0.2.2.1, false, false, x48))
          else
           bif (decide ((w64 (Int.tdiv (w64 (s0.2.1 - s0.1)) 8)) ≤ (w64 (s0.2.1 - x42.1)))) then
            (rc (w64 (x42.1 + 1)) s0.2.1 s0.2.2.1 e x42.2).bind fun x49 =>
            some (.inl (s0.1, x42.1, s0.2.2.1, true, false, x49))
           else
            (rc (w64 (x42.1 + 1)) s0.2.1 s0.2.2.1 e x42.2).bind fun x50 =>
            some (.inl (s0.1, x42.1, s0.2.2.1, false, false, x50))
      else
       bif (decide (0 < s0.1)) then
        (ZC s0.2.2.2.2.2 (w64 (s0.1 - 1))).bind fun x51 =>
        (ZC s0.2.2.2.2.2 x3.1).bind fun x52 =>
        (e x51 x52).bind fun x53 =>
        bif (decide (x53 < 0)) then
         (Zn s0.1 s0.2.1 x3.1 e s0.2.2.2.2.2).bind fun x54 =>
         match x54 with
         | (.inl x54) =>
          bif (decide ((w64 (x54.1 - s0.1)) < (w64 (s0.2.1 - x54.1)))) then
           bif (decide ((w64 (Int.tdiv (w64 (s0.2.1 - s0.1)) 8)) ≤ (w64 (x54.1 - s0.1)))) then
            (rc s0.1 x54.1 s0.2.2.1 e x54.2).bind fun x55 =>
            some (.inl ((w64 (x54.1 + 1)), s0.2.1, s0.2.2.1, true, true, x55))
           else
            (rc s0.1 x54.1 s0.2.2.1 e x54.2).bind fun x56 =>
            some (.inl ((w64 (x54.1 + 1)), s0.2.1, s0.2.2.1, false, true, x56))
          else
           bif (decide ((w64 (Int.tdiv (w64 (s0.2.1 - s0.1)) 8)) ≤ (w64 (s0.2.1 - x54.1)))) then
            (rc (w64 (x54.1 + 1)) s0.2.1 s0.2.2.1 e x54.2).bind fun x57 =>
            some (.inl (s0.1, x54.1, s0.2.2.1, true, true, x57))
           else
            (rc (w64 (x54.1 + 1)) s0.2.1 s0.2.2.1 e x54.2).bind fun x58 =>
            some (.inl (s0.1, x54.1, s0.2.2.1, false, true, x58))
         | (.inr x54) =>
          bif (decide ((w64 (x54.1 - s0.1)) < (w64 (s0.2.1 - x54.1)))) then
           bif (decide ((w64 (Int.tdiv (w64 (s0.2.1 - s0.1)) 8)) ≤ (w64 (x54.1 - s0.1)))) then
            (rc s0.1 x54.1 s0.2.2.1 e x54.2).bind fun x59 =>
            some (.inl ((w64 (x54.1 + 1)), s0.2.1, s0.2.2.1, true, false, x59))
           else
            (rc s0.1 x54.1 s0.2.2.1 e x54.2).bind fun x60 =>
            some (.inl ((w64 (x54.1 + 1)), s0.2.1, s0.2.2.1, false, false, x60))
          else
           bif (decide ((w64 (Int.tdiv (w64 (s0.2.1 - s0.1)) 8)) ≤ (w64 (s0.2.1 - x54.1)))) then
            (rc (w64 (x54.1 + 1)) s0.2.1 s0.2.2.1 e x54.2).bind fun x61 =>
            some (.inl (s0.1, x54.1, s0.2.2.1, true, false, x61))
           else
            (rc (w64 (x54.1 + 1)) s0.2.1 s0.2.2.1 e x54.2).bind fun x62 =>
            some (.inl (s0.1, x54.1, s0.2.2.1, false, false, x62))
        else
         (Zz s0.1 s0.2.1 x3.1 e s0.2.2.2.2.2).bind fun x63 =>
         some (.inl (x63.1, s0.2.1, s0.2.2.1, true, true, x63.2))
       else
        (Zn s0.1 s0.2.1 x3.1 e s0.2.2.2.2.2).bind fun x64 =>
        match x64 with
        | (.inl x64) =>
         bif (decide ((w64 (x64.1 - s0.1)) < (w64 (s0.2.1 - x64.1)))) then
          bif (decide ((w64 (Int.tdiv (w64 (s0.2.1 - s0.1)) 8)) ≤ (w64 (x64.1 - s0.1)))) then
           (rc s0.1 x64.1 s0.2.2.1 e x64.2).bind fun x65 =>
           some (.inl ((w64 (x64.1 + 1)), s0.2.1, s0.2.2.1, true, true, x65))
          else
           (rc s0.1 x64.1 s0.2.2.1 e x64.2).bind fun x66 =>
           some (.inl ((w64 (x64.1 + 1)), s0.2.1, s0.2.2.1, false, true, x66))
         else
          bif (decide ((w64 (Int.tdiv (w64 (s0.2.1 - s0.1)) 8)) ≤ (w64 (s0.2.1 - x64.1)))) then
           (rc (w64 (x64.1 + 1)) s0.2.1 s0.2.2.1 e x64.2).bind fun x67 =>
           some (.inl (s0.1, x64.1, s0.2.2.1, true, true, x67))
          else
           (rc (w64 (x64.1 + 1)) s0.2.1 s0.2.2.1 e x64.2).bind fun x68 =>
           some (.inl (s0.1, x64.1, s0.2.2.1, false, true, x68))
        | (.inr x64) =>
         bif (decide ((w64 (x64.1 - s0.1)) < (w64 (s0.2.1 - x64.1)))) then
          bif (decide ((w64 (Int.tdiv (w64 (s0.2.1 - s0.1)) 8)) ≤ (w64 (x64.1 - s0.1)))) then
           (rc s0.1 x64.1 s0.2.2.1 e x64.2).bind fun x69 =>
           some (.inl ((w64 (x64.1 + 1)), s0.2.1, s0.2.2.1, true, false, x69))
          else
           (rc s0.1 x64.1 s0.2.2.1 e x64.2).bind fun x70 =>
           some (.inl ((w64 (x64.1 + 1)), s0.2.1, s0.2.2.1, false, false, x70))
         else
          bif (decide ((w64 (Int.tdiv (w64 (s0.2.1 - s0.1)) 8)) ≤ (w64 (s0.2.1 - x64.1)))) then
           (rc (w64 (x64.1 + 1)) s0.2.1 s0.2.2.1 e x64.2).bind fun x71 =>
           some (.inl (s0.1, x64.1, s0.2.2.1, true, false, x71))
          else
           (rc (w64 (x64.1 + 1)) s0.2.1 s0.2.2.1 e x64.2).bind fun x72 =>
           some (.inl (s0.1, x64.1, s0.2.2.1, false, false, x72))
  else
   bif (decide ((w64 (s0.2.1 - s0.1)) ≤ 12)) then
    (ZP s0.1 s0.2.1 e s0.2.2.2.2.2).bind fun x73 =>
    some (.inr x73)
   else
    bif (s0.2.2.1 == 0) then
     (Z1 s0.1 s0.2.1 e s0.2.2.2.2.2).bind fun x74 =>
     some (.inr x74)
    else
     (ZG s0.1 s0.2.1 e s0.2.2.2.2.2).bind fun x75 =>
     bif (x75.2 == 2) then
      (ZF s0.1 s0.2.1 e s0.2.2.2.2.2).bind fun x76 =>
      bif (decide (0 < s0.1)) then
       (ZC x76 (w64 (s0.1 - 1))).bind fun x77 =>
       (ZC x76 (w64 ((w64 (s0.2.1 - 1)) - (w64 (x75.1 - s0.1))))).bind fun x78 =>
       (e x77 x78).bind fun x79 =>
       bif (decide (x79 < 0)) then
        (Zn s0.1 s0.2.1 (w64 ((w64 (s0.2.1 - 1)) - (w64 (x75.1 - s0.1)))) e x76).bind fun x80 =>
        match x80 with
        | (.inl x80) =>
         bif (decide ((w64 (x80.1 - s0.1)) < (w64 (s0.2.1 - x80.1)))) then
          bif (decide ((w64 (Int.tdiv (w64 (s0.2.1 - s0.1)) 8)) ≤ (w64 (x80.1 - s0.1)))) then
           (rc s0.1 x80.1 s0.2.2.1 e x80.2).bind fun x81 =>
           some (.inl ((w64 (x80.1 + 1)), s0.2.1, s0.2.2.1, true, true, x81))
          else
           (rc s0.1 x80.1 s0.2.2.1 e x80.2).bind fun x82 =>
           some (.inl ((w64 (x80.1 + 1)), s0.2.1, s0.2.2.1, false, true, x82))
         else
          bif (decide ((w64 (Int.tdiv (w64 (s0.2.1 - s0.1)) 8)) ≤ (w64 (s0.2.1 - x80.1)))) then
           (rc (w64 (x80.1 + 1)) s0.2.1 s0.2.2.1 e x80.2).bind fun x83 =>
           some (.inl (s0.1, x80.1, s0.2.2.1, true, true, x83))
          else
           (rc (w64 (x80.1 + 1)) s0.2.1 s0.2.2.1 e x80.2).bind fun x84 =>
           some (.inl (s0.1, x80.1, s0.2.2.1, false, true, x84))
        | (.inr x80) =>
         bif (decide ((w64 (x80.1 - s0.1)) < (w64 (s0.2.1 - x80.1)))) then
          bif (decide ((w64 (Int.tdiv (w64 (s0.2.1 - s0.1)) 8)) ≤ (w64 (x80.1 - s0.1)))) then
           (rc s0.1 x80.1 s0.2.2.1 e x80.2).bind fun x85 =>
           some (.inl ((w64 (x80.1 + 1)), s0.2.1, s0.2.2.1, true, false, x85))
          else
           (rc s0.1 x80.1 s0.2.2.1 e x80.2).bind fun x86 =>
           some (.inl ((w64 (x80.1 + 1)), s0.2.1, s0.2.2.1, false, false, x86))
         else
          bif (decide ((w64 (Int.tdiv (w64 (s0.2.1 - s0.1)) 8)) ≤ (w64 (s0.2.1 - x80.1)))) then
           (rc (w64 (x80.1 + 1)) s0.2.1 s0.2.2.1 e x80.2).bind fun x87 =>
           some (.inl (s0.1, x80.1, s0.2.2.1, true, false, x87))
          else
           (rc (w64 (x80.1 + 1)) s0.2.1 s0.2.2.1 e x80.2).bind fun x88 =>
           some (.inl (s0.1, x80.1, s0.2.2.1, false, false, x88))
       else
        (Zz s0.1 s0.2.1 (w64 ((w64 (s0.2.1 - 1)) - (w64 (x75.1 - s0.1)))) e x76).bind fun x89 =>
        some (.inl (x89.1, s0.2.1, s0.2.2.1, true, false, x89.2))
      else
       (Zn s0.1 s0.2.1 (w64 ((w64 (s0.2.1 - 1)) - (w64 (x75.1 - s0.1)))) e x76).bind fun x90 =>
       match x90 with
       | (.inl x90) =>
        bif (decide ((w64 (x90.1 - s0.1)) < (w64 (s0.2.1 - x90.1)))) then
         bif (decide ((w64 (Int.tdiv (w64 (s0.2.1 - s0.1)) 8)) ≤ (w64 (x90.1 - s0.1)))) then
          (rc s0.1 x90.1 s0.2.2.1 e x90.2).bind fun x91 =>
          some (.inl ((w64 (x90.1 + 1)), s0.2.1, s0.2.2.1, true, true, x91))
         else
          (rc s0.1 x90.1 s0.2.2.1 e x90.2).bind fun x92 =>
          some (.inl ((w64 (x90.1 + 1)), s0.2.1, s0.2.2.1, false, true, x92))
        else
         bif (decide ((w64 (Int.tdiv (w64 (s0.2.1 - s0.1)) 8)) ≤ (w64 (s0.2.1 - x90.1)))) then
          (rc (w64 (x90.1 + 1)) s0.2.1 s0.2.2.1 e x90.2).bind fun x93 =>
          some (.inl (s0.1, x90.1, s0.2.2.1, true, true, x93))
         else
          (rc (w64 (x90.1 + 1)) s0.2.1 s0.2.2.1 e x90.2).bind fun x94 =>
          some (.inl (s0.1, x90.1, s0.2.2.1, false, true, x94))
       | (.inr x90) =>
        bif (decide ((w64 (x90.1 - s0.1)) < (w64 (s0.2.1 - x90.1)))) then
         bif (decide ((w64 (Int.tdiv (w64 (s0.2.1 - s0.1)) 8)) ≤ (w64 (x90.1 - s0.1)))) then
          (rc s0.1 x90.1 s0.2.2.1 e x90.2).bind fun x95 =>
          some (.inl ((w64 (x90.1 + 1)), s0.2.1, s0.2.2.1, true, false, x95))
         else
          (rc s0.1 x90.1 s0.2.2.1 e x90.2).bind fun x96 =>
          some (.inl ((w64 (x90.1 + 1)), s0.2.1, s0.2.2.1, false, false, x96))
        else
         bif (decide ((w64 (Int.tdiv (w64 (s0.2.1 - s0.1)) 8)) ≤ (w64 (s0.2.1 - x90.1)))) then
          (rc (w64 (x90.1 + 1)) s0.2.1 s0.2.2.1 e x90.2).bind fun x97 =>
          some (.inl (s0.1, x90.1, s0.2.2.1, true, false, x97))
         else
          (rc (w64 (x90.1 + 1)) s0.2.1 s0.2.2.1 e x90.2).bind fun x98 =>
          some (.inl (s0.1, x90.1, s0.2.2.1, false, false, x98))
     else
      bif (decide (0 < s0.1)) then
       (ZC s0.2.2.2.2.2 (w64 (s0.1 - 1))).bind fun x99 =>
       (ZC s0.2.2.2.2.2 x75.1).bind fun x100 =>
       (e x99 x100).bind fun x101 =>
       bif (decide (x101 < 0)) then
        (Zn s0.1 s0.2.1 x75.1 e s0.2.2.2.2.2).bind fun x102 =>
        match x102 with
        | (.inl x102) =>
         bif (decide ((w64 (x102.1 - s0.1)) < (w64 (s0.2.1 - x102.1)))) then
          bif (decide ((w64 (Int.tdiv (w64 (s0.2.1 - s0.1)) 8)) ≤ (w64 (x102.1 - s0.1)))) then
           (rc s0.1 x102.1 s0.2.2.1 e x102.2).bind fun x103 =>
           some (.inl ((w64 (x102.1 + 1)), s0.2.1, s0.2.2.1, true, true, x103))
          else
           (rc s0.1 x102.1 s0.2.2.1 e x102.2).bind fun x104 =>
           some (.inl ((w64 (x102.1 + 1)), s0.2.1, s0.2.2.1, false, true, x104))
         else
          bif (decide ((w64 (Int.tdiv (w64 (s0.2.1 - s0.1)) 8)) ≤ (w64 (s0.2.1 - x102.1)))) then
           (rc (w64 (x102.1 + 1)) s0.2.1 s0.2.2.1 e x102.2).bind fun x105 =>
           some (.inl (s0.1, x102.1, s0.2.2.1, true, true, x105))
          else
           (rc (w64 (x102.1 + 1)) s0.2.1 s0.2.2.1 e x102.2).bind fun x106 =>
           some (.inl (s0.1, x102.1, s0.2.2.1, false, true, x106))
        | (.inr x102) =>
         bif (decide ((w64 (x102.1 - s0.1)) < (w64 (s0.2.1 - x102.1)))) then
          bif (decide ((w64 (Int.tdiv (w64 (s0.2.1 - s0.1)) 8)) ≤ (w64 (x102.1 - s0.1)))) then
           (rc s0.1 x102.1 s0.2.2.1 e x102.2).bind fun x107 =>
           some (.inl ((w64 (x102.1 + 1)), s0.2.1, s0.2.2.1, true, false, x107))
          else
           (rc s0.1 x102.1 s0.2.2.1 e x102.2).bind fun x108 =>
           some (.inl ((w64 (x102.1 + 1)), s0.2.1, s0.2.2.1, false, false, x108))
         else
          bif (decide ((w64 (Int.tdiv (w64 (s0.2.1 - s0.1)) 8)) ≤ (w64 (s0.2.1 - x102.1)))) then
           (rc (w64 (x102.1 + 1)) s0.2.1 s0.2.2.1 e x102.2).bind fun x109 =>
           some (.inl (s0.1, x102.1, s0.2.2.1, true, false, x109))
          else
           (rc (w64 (x102.1 + 1)) s0.2.1 s0.2.2.1 e x102.2).bind fun x110 =>
           some (.inl (s0.1, x102.1, s0.2.2.1, false, false, x110))
       else
        (Zz s0.1 s0.2.1 x75.1 e s0.2.2.2.2.2).bind fun x111 =>
        some (.inl (x111.1, s0.2.1, s0.2.2.1, true, false, x111.2))
      else
       (Zn s0.1 s0.2.1 x75.1 e s0.2.2.2.2.2).bind fun x112 =>
       match x112 with
       | (.inl x112) =>
        bif (decide ((w64 (x112.1 - s0.1)) < (w64 (s0.2.1 - x112.1)))) then
         bif (decide ((w64 (Int.tdiv (w64 (s0.2.1 - s0.1)) 8)) ≤ (w64 (x112.1 - s0.1)))) then
          (rc s0.1 x112.1 s0.2.2.1 e x112.2).bind fun x113 =>
          some (.inl ((w64 (x112.1 + 1)), s0.2.1, s0.2.2.1, true, true, x113))
         else
          (rc s0.1 x112.1 s0.2.2.1 e x112.2).bind fun x114 =>
          some (.inl ((w64 (x112.1 + 1)), s0.2.1, s0.2.2.1, false, true, x114))
        else
         bif (decide ((w64 (Int.tdiv (w64 (s0.2.1 - s0.1)) 8)) ≤ (w64 (s0.2.1 - x112.1)))) then
          (rc (w64 (x112.1 + 1)) s0.2.1 s0.2.2.1 e x112.2).bind fun x115 =>
          some (.inl (s0.1, x112.1, s0.2.2.1, true, true, x115))
         else
          (rc (w64 (x112.1 + 1)) s0.2.1 s0.2.2.1 e x112.2).bind fun x116 =>
          some (.inl (s0.1, x112.1, s0.2.2.1, false, true, x116))
       | (.inr x112) =>
        bif (decide ((w64 (x112.1 - s0.1)) < (w64 (s0.2.1 - x112.1)))) then
         bif (decide ((w64 (Int.tdiv (w64 (s0.2.1 - s0.1)) 8)) ≤ (w64 (x112.1 - s0.1)))) then
          (rc s0.1 x112.1 s0.2.2.1 e x112.2).bind fun x117 =>
          some (.inl ((w64 (x112.1 + 1)), s0.2.1, s0.2.2.1, true, false, x117))
         else
          (rc s0.1 x112.1 s0.2.2.1 e x112.2).bind fun x118 =>
          some (.inl ((w64 (x112.1 + 1)), s0.2.1, s0.2.2.1, false, false, x118))
        else
         bif (decide ((w64 (Int.tdiv (w64 (s0.2.1 - s0.1)) 8)) ≤ (w64 (s0.2.1 - x112.1)))) then
          (rc (w64 (x112.1 + 1)) s0.2.1 s0.2.2.1 e x112.2).bind fun x119 =>
          some (.inl (s0.1, x112.1, s0.2.2.1, true, false, x119))
         else
          (rc (w64 (x112.1 + 1)) s0.2.1 s0.2.2.1 e x112.2).bind fun x120 =>
          some (.inl (s0.1, x112.1, s0.2.2.1, false, false, x120))
 else
  bif s0.2.2.2.2.1 then
   bif (decide ((w64 (s0.2.1 - s0.1)) ≤ 12)) then
    (ZP s0.1 s0.2.1 e s0.2.2.2.2.2).bind fun x121 =>
    some (.inr x121)
   else
    bif (s0.2.2.1 == 0) then
     (Z1 s0.1 s0.2.1 e s0.2.2.2.2.2).bind fun x122 =>
     some (.inr x122)
    else
     (Z4 s0.1 s0.2.1 e s0.2.2.2.2.2).bind fun x123 =>
     (ZG s0.1 s0.2.1 e x123).bind fun x124 =>
     bif (x124.2 == 2) then
      (ZF s0.1 s0.2.1 e x123).bind fun x125 =>
      bif (decide (0 < s0.1)) then
       (ZC x125 (w64 (s0.1 - 1))).bind fun x126 =>
       (ZC x125 (w64 ((w64 (s0.2.1 - 1)) - (w64 (x124.1 - s0.1))))).bind fun x127 =>
       (e x126 x127).bind fun x128 =>
       bif (decide (x128 < 0)) then
        (Zn s0.1 s0.2.1 (w64 ((w64 (s0.2.1 - 1)) - (w64 (x124.1 - s0.1)))) e x125).bind fun x129 =>
        match x129 with
        | (.inl x129) =>
         bif (decide ((w64 (x129.1 - s0.1)) < (w64 (s0.2.1 - x129.1)))) then
          bif (decide ((w64 (Int.tdiv (w64 (s0.2.1 - s0.1)) 8)) ≤ (w64 (x129.1 - s0.1)))) then
           (rc s0.1 x129.1 (w64 (s0.2.2.1 - 1)) e x129.2).bind fun x130 =>
           some (.inl ((w64 (x129.1 + 1)), s0.2.1, (w64 (s0.2.2.1 - 1)), true, true, x130))
          else
           (rc s0.1 x129.1 (w64 (s0.2.2.1 - 1)) e x129.2).bind fun x131 =>
           some (.inl ((w64 (x129.1 + 1)), s0.2.1, (w64 (s0.2.2.1 - 1)), false, true, x131))
         else
          bif (decide ((w64 (Int.tdiv (w64 (s0.2.1 - s0.1)) 8)) ≤ (w64 (s0.2.1 - x129.1)))) then
           (rc (w64 (x129.1 + 1)) s0.2.1 (w64 (s0.2.2.1 - 1)) e x129.2).bind fun x132 =>
           some (.inl (s0.1, x129.1, (w64 (s0.2.2.1 - 1)), true, true, x132))
          else
           (rc (w64 (x129.1 + 1)) s0.2.1 (w64 (s0.2.2.1 - 1)) e x129.2).bind fun x133 =>
           some (.inl (s0.1, x129.1, (w64 (s0.2.2.1 - 1)), false, true, x133))
        | (.inr x129) =>
         bif (decide ((w64 (x129.1 - s0.1)) < (w64 (s0.2.1 - x129.1)))) then
          bif (decide ((w64 (Int.tdiv (w64 (s0.2.1 - s0.1)) 8)) ≤ (w64 (x129.1 - s0.1)))) then
           (rc s0.1 x129.1 (w64 (s0.2.2.1 - 1)) e x129.2).bind fun x134 =>
           some (.inl ((w64 (x129.1 + 1)), s0.2.1, (w64 (s0.2.2.1 - 1)), true, false, x134))
          else
           (rc s0.1 x129.1 (w64 (s0.2.2.1 - 1)) e x129.2).bind fun x135 =>
           some (.inl ((w64 (x129.1 + 1)), s0.2.1, (w64 (s0.2.2.1 - 1)), false, false, x135))
         else
          bif (decide ((w64 (Int.tdiv (w64 (s0.2.1 - s0.1)) 8)) ≤ (w64 (s0.2.1 - x129.1)))) then
           (rc (w64 (x129.1 + 1)) s0.2.1 (w64 (s0.2.2.1 - 1)) e x129.2).bind fun x136 =>
           some (.inl (s0.1, x129.1, (w64 (s0.2.2.1 - 1)), true, false, x136))
          else
           (rc (w64 (x129.1 + 1)) s0.2.1 (w64 (s0.2.2.1 - 1)) e x129.2).bind fun x137 =>
           some (.inl (s0.1, x129.1, (w64 (s0.2.2.1 - 1)), false, false, x137))
       else
        (Zz s0.1 s0.2.1 (w64 ((w64 (s0.2.1 - 1)) - (w64 (x124.1 - s0.1)))) e x125).bind fun x138 =>
        some (.inl (x138.1, s0.2.1, (w64 (s0.2.2.1 - 1)), false, true, x138.2))
      else
       (Zn s0.1 s0.2.1 (w64 ((w64 (s0.2.1 - 1)) - (w64 (x124.1 - s0.1)))) e x125).bind fun x139 =>
       match x139 with
       | (.inl x139) =>
        bif (decide ((w64 (x139.1 - s0.1)) < (w64 (s0.2.1 - x139.1)))) then
         bif (decide ((w64 (Int.tdiv (w64 (s0.2.1 - s0.1)) 8)) ≤ (w64 (x139.1 - s0.1)))) then
          (rc s0.1 x139.1 (w64 (s0.2.2.1 - 1)) e x139.2).bind fun x140 =>
          some (.inl ((w64 (x139.1 + 1)), s0.2.1, (w64 (s0.2.2.1 - 1)), true, true, x140))
         else
          (rc s0.1 x139.1 (w64 (s0.2.2.1 - 1)) e x139.2).bind fun x141 =>
          some (.inl ((w64 (x139.1 + 1)), s0.2.1, (w64 (s0.2.2.1 - 1)), false, true, x141))
        else
         bif (decide ((w64 (Int.tdiv (w64 (s0.2.1 - s0.1)) 8)) ≤ (w64 (s0.2.1 - x139.1)))) then
          (rc (w64 (x139.1 + 1)) s0.2.1 (w64 (s0.2.2.1 - 1)) e x139.2).bind fun x142 =>
          some (.inl (s0.1, x139.1, (w64 (s0.2.2.1 - 1)), true, true, x142))
         else
          (rc (w64 (x139.1 + 1)) s0.2.1 (w64 (s0.2.2.1 - 1)) e x139.2).bind fun x143 =>
          some (.inl (s0.1, x139.1, (w64 (s0.2.2.1 - 1)), false, true, x143))
       | (.inr x139) =>
        bif (decide ((w64 (x139.1 - s0.1)) < (w64 (s0.2.1 - x139.1)))) then
         bif (decide ((w64 (Int.tdiv (w64 (s0.2.1 - s0.1)) 8)) ≤ (w64 (x139.1 - s0.1)))) then
          (rc s0.1 x139.1 (w64 (s0.2.2.1 - 1)) e x139.2).bind fun x144 =>
          some (.inl ((w64 (x139.1 + 1)), s0.2.1, (w64 (s0.2.2.1 - 1)), true, false, x144))
         else
          (rc s0.1 x139.1 (w64 (s0.2.2.1 - 1)) e x139.2).bind fun x145 =>
          some (.inl ((w64 (x139.1 + 1)), s0.2.1, (w64 (s0.2.2.1 - 1)), false, false, x145))
        else
         bif (decide ((w64 (Int.tdiv (w64 (s0.2.1 - s0.1)) 8)) ≤ (w64 (s0.2.1 - x139.1)))) then
          (rc (w64 (x139.1 + 1)) s0.2.1 (w64 (s0.2.2.1 - 1)) e x139.2).bind fun x146 =>
          some (.inl (s0.1, x139.1, (w64 (s0.2.2.1 - 1)), true, false, x146))
         else
          (rc (w64 (x139.1 + 1)) s0.2.1 (w64 (s0.2.2.1 - 1)) e x139.2).bind fun x147 =>
          some (.inl (s0.1, x139.1, (w64 (s0.2.2.1 - 1)), false, false, x147))
     else
      bif (decide (0 < s0.1)) then
       (ZC x123 (w64 (s0.1 - 1))).bind fun x148 =>
       (ZC x123 x124.1).bind fun x149 =>
       (e x148 x149).bind fun x150 =>
       bif (decide (x150 < 0)) then
        (Zn s0.1 s0.2.1 x124.1 e x123).bind fun x151 =>
        match x151 with
        | (.inl x151) =>
         bif (decide ((w64 (x151.1 - s0.1)) < (w64 (s0.2.1 - x151.1)))) then
          bif (decide ((w64 (Int.tdiv (w64 (s0.2.1 - s0.1)) 8)) ≤ (w64 (x151.1 - s0.1)))) then
           (rc s0.1 x151.1 (w64 (s0.2.2.1 - 1)) e x151.2).bind fun x152 =>
           some (.inl ((w64 (x151.1 + 1)), s0.2.1, (w64 (s0.2.2.1 - 1)), true, true, x152))
          else
           (rc s0.1 x151.1 (w64 (s0.2.2.1 - 1)) e x151.2).bind fun x153 =>
           some (.inl ((w64 (x151.1 + 1)), s0.2.1, (w64 (s0.2.2.1 - 1)), false, true, x153))
         else
          bif (decide ((w64 (Int.tdiv (w64 (s0.2.1 - s0.1)) 8)) ≤ (w64 (s0.2.1 - x151.1)))) then
           (rc (w64 (x151.1 + 1)) s0.2.1 (w64 (s0.2.2.1 - 1)) e x151.2).bind fun x154 =>
           some (.inl (s0.1, x151.1, (w64 (s0.2.2.1 - 1)), true, true, x154))
          else
           (rc (w64 (x151.1 + 1)) s0.2.1 (w64 (s0.2.2.1 - 1)) e x151.2).bind fun x155 =>
           some (.inl (s0.1, x151.1, (w64 (s0.2.2.1 - 1)), false, true, x155))
        | (.inr x151) =>
         bif (decide ((w64 (x151.1 - s0.1)) < (w64 (s0.2.1 - x151.1)))) then
          bif (decide ((w64 (Int.tdiv (w64 (s0.2.1 - s0.1)) 8)) ≤ (w64 (x151.1 - s0.1)))) then
           (rc s0.1 x151.1 (w64 (s0.2.2.1 - 1)) e x151.2).bind fun x156 =>
           some (.inl ((w64 (x151.1 + 1)), s0.2.1, (w64 (s0.2.2.1 - 1)), true, false, x156))
          else
           (rc s0.1 x151.1 (w64 (s0.2.2.1 - 1)) e x151.2).bind fun x157 =>
           some (.inl ((w64 (x151.1 + 1)), s0.2.1, (w64 (s0.2.2.1 - 1)), false, false, x157))
         else
          bif (decide ((w64 (Int.tdiv (w64 (s0.2.1 - s0.1)) 8)) ≤ (w64 (s0.2.1 - x151.1)))) then
           (rc (w64 (x151.1 + 1)) s0.2.1 (w64 (s0.2.2.1 - 1)) e x151.2).bind fun x158 =>
           some (.inl (s0.1, x151.1, (w64 (s0.2.2.1 - 1)), true, false, x158))
          else
           (rc (w64 (x151.1 + 1)) s0.2.1 (w64 (s0.2.2.1 - 1)) e x151.2).bind fun x159 =>
           some (.inl (s0.1, x151.1, (w64 (s0.2.2.1 - 1)), false, false, x159))
       else
        (Zz s0.1 s0.2.1 x124.1 e x123).bind fun x160 =>
        some (.inl (x160.1, s0.2.1, (w64 (s0.2.2.1 - 1)), false, true, x160.2))
      else
       (Zn s0.1 s0.2.1 x124.1 e x123).bind fun x161 =>
       match x161 with
       | (.inl x161) =>
        bif (decide ((w64 (x161.1 - s0.1)) < (w64 (s0.2.1 - x161.1)))) then
         bif (decide ((w64 (Int.tdiv (w64 (s0.2.1 - s0.1)) 8)) ≤ (w64 (x161.1 - s0.1)))) then
          (rc s0.1 x161.1 (w64 (s0.2.2.1 - 1)) e x161.2).bind fun x162 =>
          some (.inl ((w64 (x161.1 + 1)), s0.2.1, (w64 (s0.2.2.1 - 1)), true, true, x162))
         else
          (rc s0.1 x161.1 (w64 (s0.2.2.1 - 1)) e x161.2).bind fun x163 =>
          some (.inl ((w64 (x161.1 + 1)), s0.2.1, (w64 (s0.2.2.1 - 1)), false, true, x163))
        else
         bif (decide ((w64 (Int.tdiv (w64 (s0.2.1 - s0.1)) 8)) ≤ (w64 (s0.2.1 - x161.1)))) then
          (rc (w64 (x161.1 + 1)) s0.2.1 (w64 (s0.2.2.1 - 1)) e x161.2).bind fun x164 =>
          some (.inl (s0.1, x161.1, (w64 (s0.2.2.1 - 1)), true, true, x164))
         else
          (rc (w64 (x161.1 + 1)) s0.2.1 (w64 (s0.2.2.1 - 1)) e x161.2).bind fun x165 =>
          some (.inl (s0.1, x161.1, (w64 (s0.2.2.1 - 1)), false, true, x165))
       | (.inr x161) =>
        bif (decide ((w64 (x161.1 - s0.1)) < (w64 (s0.2.1 - x161.1)))) then
         bif (decide ((w64 (Int.tdiv (w64 (s0.2.1 - s0.1)) 8)) ≤ (w64 (x161.1 - s0.1)))) then
          (rc s0.1 x161.1 (w64 (s0.2.2.1 - 1)) e x161.2).bind fun x166 =>
          some (.inl ((w64 (x161.1 + 1)), s0.2.1, (w64 (s0.2.2.1 - 1)), true, false, x166))
         else
          (rc s0.1 x161.1 (w64 (s0.2.2.1 - 1)) e x161.2).bind fun x167 =>
          some (.inl ((w64 (x161.1 + 1)), s0.2.1, (w64 (s0.2.2.1 - 1)), false, false, x167))
        else
         bif (decide ((w64 (Int.tdiv (w64 (s0.2.1 - s0.1)) 8)) ≤ (w64 (s0.2.1 - x161.1)))) then
          (rc (w64 (x161.1 + 1)) s0.2.1 (w64 (s0.2.2.1 - 1)) e x161.2).bind fun x168 =>
          some (.inl (s0.1, x161.1, (w64 (s0.2.2.1 - 1)), true, false, x168))
         else
          (rc (w64 (x161.1 + 1)) s0.2.1 (w64 (s0.2.2.1 - 1)) e x161.2).bind fun x169 =>
          some (.inl (s0.1, x161.1, (w64 (s0.2.2.1 - 1)), false, false, x169))
  else
   bif (decide ((w64 (s0.2.1 - s0.1)) ≤ 12)) then
    (ZP s0.1 s0.2.1 e s0.2.2.2.2.2).bind fun x170 =>
    some (.inr x170)
   else
    bif (s0.2.2.1 == 0) then
     (Z1 s0.1 s0.2.1 e s0.2.2.2.2.2).bind fun x171 =>
     some (.inr x171)
    else
     (Z4 s0.1 s0.2.1 e s0.2.2.2.2.2).bind fun x172 =>
     (ZG s0.1 s0.2.1 e x172).bind fun x173 =>
     bif (x173.2 == 2) then
      (ZF s0.1 s0.2.1 e x172).bind fun x174 =>
      bif (decide (0 < s0.1)) then
       (ZC x174 (w64 (s0.1 - 1))).bind fun x175 =>
       (ZC x174 (w64 ((w64 (s0.2.1 - 1)) - (w64 (x173.1 - s0.1))))).bind fun x176 =>
       (e x175 x176).bind fun x177 =>
       bif (decide (x177 < 0)) then
        (Zn s0.1 s0.2.1 (w64 ((w64 (s0.2.1 - 1)) - (w64 (x173.1 - s0.1)))) e x174).bind fun x178 =>
        match x178 with
        | (.inl x178) =>
         bif (decide ((w64 (x178.1 - s0.1)) < (w64 (s0.2.1 - x178.1)))) then
          bif (decide ((w64 (Int.tdiv (w64 (s0.2.1 - s0.1)) 8)) ≤ (w64 (x178.1 - s0.1)))) then
           (rc s0.1 x178.1 (w64 (s0.2.2.1 - 1)) e x178.2).bind fun x179 =>
           some (.inl ((w64 (x178.1 + 1)), s0.2.1, (w64 (s0.2.2.1 - 1)), true, true, x179))
          else
           (rc s0.1 x178.1 (w64 (s0.2.2.1 - 1)) e x178.2).bind fun x180 =>
           some (.inl ((w64 (x178.1 + 1)), s0.2.1, (w64 (s0.2.2.1 - 1)), false, true, x180))
         else
          bif (decide ((w64 (Int.tdiv (w64 (s0.2.1 - s0.1)) 8)) ≤ (w64 (s0.2.1 - x178.1)))) then
           (rc (w64 (x178.1 + 1)) s0.2.1 (w64 (s0.2.2.1 - 1)) e x178.2).bind fun x181 =>
           some (.inl (s0.1, x178.1, (w64 (s0.2.2.1 - 1)), true, true, x181))
          else
           (rc (w64 (x178.1 + 1)) s0.2.1 (w64 (s0.2.2.1 - 1)) e x178.2).bind fun x182 =>
           some (.inl (s0.1, x178.1, (w64 (s0.2.2.1 - 1)), false, true, x182))
        | (.inr x178) =>
         bif (decide ((w64 (x178.1 - s0.1)) < (w64 (s0.2.1 - x178.1)))) then
          bif (decide ((w64 (Int.tdiv (w64 (s0.2.1 - s0.1)) 8)) ≤ (w64 (x178.1 - s0.1)))) then
           (rc s0.1 x178.1 (w64 (s0.2.2.1 - 1)) e x178.2).bind fun x183 =>
           some (.inl ((w64 (x178.1 + 1)), s0.2.1, (w64 (s0.2.2.1 - 1)), true, false, x183))
          else
           (rc s0.1 x178.1 (w64 (s0.2.2.1 - 1)) e x178.2).bind fun x184 =>
           some (.inl ((w64 (x178.1 + 1)), s0.2.1, (w64 (s0.2.2.1 - 1)), false, false, x184))
         else
          bif (decide ((w64 (Int.tdiv (w64 (s0.2.1 - s0.1)) 8)) ≤ (w64 (s0.2.1 - x178.1)))) then
           (rc (w64 (x178.1 + 1)) s0.2.1 (w64 (s0.2.2.1 - 1)) e x178.2).bind fun x185 =>
           some (.inl (s0.1, x178.1, (w64 (s0.2.2.1 - 1)), true, false, x185))
          else
           (rc (w64 (x178.1 + 1)) s0.2.1 (w64 (s0.2.2.1 - 1)) e x178.2).bind fun x186 =>
           some (.inl (s0.1, x178.1, (w64 (s0.2.2.1 - 1)), false, false, x186))
       else
        (Zz s0.1 s0.2.1 (w64 ((w64 (s0.2.1 - 1)) - (w64 (x173.1 - s0.1)))) e x174).bind fun x187 =>
        some (.inl (x187.1, s0.2.1, (w64 (s0.2.2.1 - 1)), false, false, x187.2))
      else
       (Zn s0.1 s0.2.1 (w64 ((w64 (s0.2.1 - 1)) - (w64 (x173.1 - s0.1)))) e x174).bind fun x188 =>
       match x188 with
       | (.inl x188) =>
        bif (decide ((w64 (x188.1 - s0.1)) < (w64 (s0.2.1 - x188.1)))) then
         bif (decide ((w64 (Int.tdiv (w64 (s0.2.1 - s0.1)) 8)) ≤ (w64 (x188.1 - s0.1)))) then
          (rc s0.1 x188.1 (w64 (s0.2.2.1 - 1)) e x188.2).bind fun x189 =>
          some (.inl ((w64 (x188.1 + 1)), s0.2.1, (w64 (s0.2.2.1 - 1)), true, true, x189))
         else
          (rc s0.1 x188.1 (w64 (s0.2.2.1 - 1)) e x188.2).bind fun x190 =>
          some (.inl ((w64 (x188.1 + 1)), s0.2.1, (w64 (s0.2.2.1 - 1)), false, true, x190))
        else
         bif (decide ((w64 (Int.tdiv (w64 (s0.2.1 - s0.1)) 8)) ≤ (w64 (s0.2.1 - x188.1)))) then
          (rc (w64 (x188.1 + 1)) s0.2.1 (w64 (s0.2.2.1 - 1)) e x188.2).bind fun x191 =>
          some (.inl (s0.1, x188.1, (w64 (s0.2.2.1 - 1)), true, true, x191))
         else
          (rc (w64 (x188.1 + 1)) s0.2.1 (w64 (s0.2.2.1 - 1)) e x188.2).bind fun x192 =>
          some (.inl (s0.1, x188.1, (w64 (s0.2.2.1 - 1)), false, true, x192))
       | (.inr x188) =>
        bif (decide ((w64 (x188.1 - s0.1)) < (w64 (s0.2.1 - x188.1)))) then
         bif (decide ((w64 (Int.tdiv (w64 (s0.2.1 - s0.1)) 8)) ≤ (w64 (x188.1 - s0.1)))) then
          (rc s0.1 x188.1 (w64 (s0.2.2.1 - 1)) e x188.2).bind fun x193 =>
          some (.inl ((w64 (x188.1 + 1)), s0.2.1, (w64 (s0.2.2.1 - 1)), true, false, x193))
         else
          (rc s0.1 x188.1 (w64 (s0.2.2.1 - 1)) e x188.2).bind fun x194 =>
          some (.inl ((w64 (x188.1 + 1)), s0.2.1, (w64 (s0.2.2.1 - 1)), false, false, x194))
        else
         bif (decide ((w64 (Int.tdiv (w64 (s0.2.1 - s0.1)) 8)) ≤ (w64 (s0.2.1 - x188.1)))) then
          (rc (w64 (x188.1 + 1)) s0.2.1 (w64 (s0.2.2.1 - 1)) e x188.2).bind fun x195 =>
          some (.inl (s0.1, x188.1, (w64 (s0.2.2.1 - 1)), true, false, x195))
         else
          (rc (w64 (x188.1 + 1)) s0.2.1 (w64 (s0.2.2.1 - 1)) e x188.2).bind fun x196 =>
          some (.inl (s0.1, x188.1, (w64 (s0.2.2.1 - 1)), false, false, x196))
     else
      bif (decide (0 < s0.1)) then
       (ZC x172 (w64 (s0.1 - 1))).bind fun x197 =>
       (ZC x172 x173.1).bind fun x198 =>
       (e x197 x198).bind fun x199 =>
       bif (decide (x199 < 0)) then
        (Zn s0.1 s0.2.1 x173.1 e x172).bind fun x200 =>
        match x200 with
        | (.inl x200) =>
         bif (decide ((w64 (x200.1 - s0.1)) < (w64 (s0.2.1 - x200.1)))) then
          bif (decide ((w64 (Int.tdiv (w64 (s0.2.1 - s0.1)) 8)) ≤ (w64 (x200.1 - s0.1)))) then
           (rc s0.1 x200.1 (w64 (s0.2.2.1 - 1)) e x200.2).bind fun x201 =>
           some (.inl ((w64 (x200.1 + 1)), s0.2.1, (w64 (s0.2.2.1 - 1)), true, true, x201))
          else
           (rc s0.1 x200.1 (w64 (s0.2.2.1 - 1)) e x200.2).bind fun x202 =>
           some (.inl ((w64 (x200.1 + 1)), s0.2.1, (w64 (s0.2.2.1 - 1)), false, true, x202))
         else
          bif (decide ((w64 (Int.tdiv (w64 (s0.2.1 - s0.1)) 8)) ≤ (w64 (s0.2.1 - x200.1)))) then
           (rc (w64 (x200.1 + 1)) s0.2.1 (w64 (s0.2.2.1 - 1)) e x200.2).bind fun x203 =>
           some (.inl (s0.1, x200.1, (w64 (s0.2.2.1 - 1)), true, true, x203))
          else
           (rc (w64 (x200.1 + 1)) s0.2.1 (w64 (s0.2.2.1 - 1)) e x200.2).bind fun x204 =>
           some (.inl (s0.1, x200.1, (w64 (s0.2.2.1 - 1)), false, true, x204))
        | (.inr x200) =>
         bif (decide ((w64 (x200.1 - s0.1)) < (w64 (s0.2.1 - x200.1)))) then
          bif (decide ((w64 (Int.tdiv (w64 (s0.2.1 - s0.1)) 8)) ≤ (w64 (x200.1 - s0.1)))) then
           (rc s0.1 x200.1 (w64 (s0.2.2.1 - 1)) e x200.2).bind fun x205 =>
           some (.inl ((w64 (x200.1 + 1)), s0.2.1, (w64 (s0.2.2.1 - 1)), true, false, x205))
          else
           (rc s0.1 x200.1 (w64 (s0.2.2.1 - 1)) e x200.2).bind fun x206 =>
           some (.inl ((w64 (x200.1 + 1)), s0.2.1, (w64 (s0.2.2.1 - 1)), false, false, x206))
         else
          bif (decide ((w64 (Int.tdiv (w64 (s0.2.1 - s0.1)) 8)) ≤ (w64 (s0.2.1 - x200.1)))) then
           (rc (w64 (x200.1 + 1)) s0.2.1 (w64 (s0.2.2.1 - 1)) e x200.2).bind fun x207 =>
           some (.inl (s0.1, x200.1, (w64 (s0.2.2.1 - 1)), true, false, x207))
          else
           (rc (w64 (x200.1 + 1)) s0.2.1 (w64 (s0.2.2.1 - 1)) e x200.2).bind fun x208 =>
           some (.inl (s0.1, x200.1, (w64 (s0.2.2.1 - 1)), false, false, x208))
       else
        (Zz s0.1 s0.2.1 x173.1 e x172).bind fun x209 =>
        some (.inl (x209.1, s0.2.1, (w64 (s0.2.2.1 - 1)), false, false, x209.2))
      else
       (Zn s0.1 s0.2.1 x173.1 e x172).bind fun x210 =>
       match x210 with
       | (.inl x210) =>
        bif (decide ((w64 (x210.1 - s0.1)) < (w64 (s0.2.1 - x210.1)))) then
         bif (decide ((w64 (Int.tdiv (w64 (s0.2.1 - s0.1)) 8)) ≤ (w64 (x210.1 - s0.1)))) then
          (rc s0.1 x210.1 (w64 (s0.2.2.1 - 1)) e x210.2).bind fun x211 =>
          some (.inl ((w64 (x210.1 + 1)), s0.2.1, (w64 (s0.2.2.1 - 1)), true, true, x211))
         else
          (rc s0.1 x210.1 (w64 (s0.2.2.1 - 1)) e x210.2).bind fun x212 =>
          some (.inl ((w64 (x210.1 + 1)), s0.2.1, (w64 (s0.2.2.1 - 1)), false, true, x212))
        else
         bif (decide ((w64 (Int.tdiv (w64 (s0.2.1 - s0.1)) 8)) ≤ (w64 (s0.2.1 - x210.1)))) then
          (rc (w64 (x210.1 + 1)) s0.2.1 (w64 (s0.2.2.1 - 1)) e x210.2).bind fun x213 =>
          some (.inl (s0.1, x210.1, (w64 (s0.2.2.1 - 1)), true, true, x213))
         else
          (rc (w64 (x210.1 + 1)) s0.2.1 (w64 (s0.2.2.1 - 1)) e x210.2).bind fun x214 =>
          some (.inl (s0.1, x210.1, (w64 (s0.2.2.1 - 1)), false, true, x214))
       | (.inr x210) =>
        bif (decide ((w64 (x210.1 - s0.1)) < (w64 (s0.2.1 - x210.1)))) then
         bif (decide ((w64 (Int.tdiv (w64 (s0.2.1 - s0.1)) 8)) ≤ (w64 (x210.1 - s0.1)))) then
          (rc s0.1 x210.1 (w64 (s0.2.2.1 - 1)) e x210.2).bind fun x215 =>
          some (.inl ((w64 (x210.1 + 1)), s0.2.1, (w64 (s0.2.2.1 - 1)), true, false, x215))
         else
          (rc s0.1 x210.1 (w64 (s0.2.2.1 - 1)) e x210.2).bind fun x216 =>
          some (.inl ((w64 (x210.1 + 1)), s0.2.1, (w64 (s0.2.2.1 - 1)), false, false, x216))
        else
         bif (decide ((w64 (Int.tdiv (w64 (s0.2.1 - s0.1)) 8)) ≤ (w64 (s0.2.1 - x210.1)))) then
          (rc (w64 (x210.1 + 1)) s0.2.1 (w64 (s0.2.2.1 - 1)) e x210.2).bind fun x217 =>
          some (.inl (s0.1, x210.1, (w64 (s0.2.2.1 - 1)), true, false, x217))
         else
          (rc (w64 (x210.1 + 1)) s0.2.1 (w64 (s0.2.2.1 - 1)) e x210.2).bind fun x218 =>
          some (.inl (s0.1, x210.1, (w64 (s0.2.2.1 - 1)), false, false, x218))
noncomputable def Zak (rc : Int → Int → Int → (Int → Int → Option Int) → (List Int) → Option (List Int)) (b : Int) (c : Int) (d : Int) (e : (Int → Int → Option Int)) (m0_0 : (List Int)) : Option (List Int) :=
 (lp (ZJ e rc) (b, c, d, true, true, m0_0)).bind fun r219 =>
 some r219
noncomputable def ZT : Nat → Int → Int → Int → (Int → Int → Option Int) → (List Int) → Option (List Int)
 | 0 => fun _ _ _ _ _ => none
 | n + 1 => Zak (ZT n)
noncomputable def Zc1 (b : Int) (c : Int) (d : Int) (e : (Int → Int → Option Int)) (m0_0 : (List Int)) : Option (List Int) := ZrW fun n => ZT n b c d e m0_0
noncomputable def Zaz (b : (Int → Int → Option Int)) (m0_0 : (List Int)) : Option (List Int) :=
 (Zdo (IntKind.u64.wrap (m0_0.length : Int))).bind fun x0 =>
 (Zc1 0 (m0_0.length : Int) x0 b m0_0).bind fun x1 =>
 some x1
noncomputable def ZcK (a : Zo) (b : Int) (s1 : Int × (List Int)) : Option ((Int × (List Int)) ⊕ (List Int)) :=
 bif (decide (s1.1 < (a.futures.length : Int))) then
  (ZC a.futures s1.1).bind fun x2 =>
  bif (x2.user == b) then
   bif (Nat.ble (List.length s1.2 + 1) lim) then
    some (.inl ((w64 (s1.1 + 1)), (s1.2 ++ [s1.1])))
   else
    none
  else
   some (.inl ((w64 (s1.1 + 1)), s1.2))
 else
  some (.inr s1.2)
noncomputable def Zeg (a : Zo) (b : Int) : Option (List Int) :=
 (ZdW a).bind fun x0 =>
 bif (x0 != 0) then
  some ([] : List Int)
 else
  (lp (ZcK a b) (0, ([] : (List Int)))).bind fun r3 =>
  (Zaz (fun z0 z1 => Zp z0 z1 a.futures) r3).bind fun x4 =>
  some x4
noncomputable def ZeI (a : Zo) (b : Int) (s1 : Int × (List Int)) : Option ((Int × (List Int)) ⊕ (List Int)) :=
 bif (decide (s1.1 < (a.edges.length : Int))) then
  (ZC a.edges s1.1).bind fun x2 =>
  bif (x2.dst == b) then
   bif (Nat.ble (List.length s1.2 + 1) lim) then
    some (.inl ((w64 (s1.1 + 1)), (s1.2 ++ [x2.src])))
   else
    none
  else
   some (.inl ((w64 (s1.1 + 1)), s1.2))
 else
  some (.inr s1.2)
noncomputable def ZeJ (a : Zo) (x4 : (List Int)) (s5 : Int × (List Int)) : Option ((Int × (List Int)) ⊕ (List Int)) :=
 bif (decide (s5.1 < (x4.length : Int))) then
  (ZC x4 s5.1).bind fun x6 =>
  (ZC a.futures x6).bind fun x7 =>
  bif (Nat.ble (List.length s5.2 + 1) lim) then
   some (.inl ((w64 (s5.1 + 1)), (s5.2 ++ [x7.maker])))
  else
   none
 else
  some (.inr s5.2)
noncomputable def Zes (a : Zo) (b : Int) : Option (List Int) :=
 (ZdW a).bind fun x0 =>
 bif (x0 != 0) then
  some ([] : List Int)
 else
  (lp (ZeI a b) (0, ([] : (List Int)))).bind fun r3 =>
  (Zeg a b).bind fun x4 =>
  (lp (ZeJ a x4) (0, r3)).bind fun r8 =>
  some r8
noncomputable def Zcs (a : Int) : Option Int :=
 some (IntKind.u32.wrap a)
noncomputable def ZgI : Option Unit :=
 some ()
noncomputable def ZeA (a : Int) (b : Int) : Option Int :=
 some (IntKind.u32.wrap (a + b))
noncomputable def ZeC (a : Int) (b : Int) : Option Int :=
 some (IntKind.u32.wrap (a * b))
noncomputable def ZeF (a : Int) (b : Int) : Option Int :=
 some (bif decide (a < b) then b else a)
noncomputable def ZeD (a : Int) (b : Int) : Option Int :=
 some (IntKind.u32.wrap ((IntKind.u32.wrap (a * 31)) + b))
noncomputable def ZdT (b : (List Int)) (s0 : Int × (List (Int × Int))) : Option ((Int × (List (Int × Int))) ⊕ (List (Int × Int))) :=
 bif (decide (s0.1 < (b.length : Int))) then
  (ZC b s0.1).bind fun x1 =>
  some (.inl ((w64 (s0.1 + 1)), (Zkz (fun ka kb : Int => (ka == kb)) s0.2 s0.1 x1)))
 else
  some (.inr s0.2)
noncomputable def ZdY (c : (List Int)) (s6 : Int × Int) : Option ((Int × Int) ⊕ Int) :=
 bif (decide (s6.2 < (c.length : Int))) then
  (ZC c s6.2).bind fun x7 =>
  (Zcs x7).bind fun x8 =>
  (ZeA s6.1 x8).bind fun x9 =>
  some (.inl (x9, (w64 (s6.2 + 1))))
 else
  some (.inr s6.1)
noncomputable def Zdf (c : (List Int)) (s11 : Int × Int) : Option ((Int × Int) ⊕ Int) :=
 bif (decide (s11.2 < (c.length : Int))) then
  (ZC c s11.2).bind fun x12 =>
  (Zcs x12).bind fun x13 =>
  (ZeC s11.1 x13).bind fun x14 =>
  some (.inl (x14, (w64 (s11.2 + 1))))
 else
  some (.inr s11.1)
noncomputable def Zdi (c : (List Int)) (s16 : Int × Int) : Option ((Int × Int) ⊕ Int) :=
 bif (decide (s16.2 < (c.length : Int))) then
  (ZC c s16.2).bind fun x17 =>
  (Zcs x17).bind fun x18 =>
  (ZeF s16.1 x18).bind fun x19 =>
  some (.inl (x19, (w64 (s16.2 + 1))))
 else
  some (.inr s16.1)
noncomputable def Zdg (c : (List Int)) (s21 : Int × Int) : Option ((Int × Int) ⊕ Int) :=
 bif (decide (s21.2 < (c.length : Int))) then
  (ZC c s21.2).bind fun x22 =>
  (Zcs x22).bind fun x23 =>
  (ZeD s21.1 x23).bind fun x24 =>
  some (.inl (x24, (w64 (s21.2 + 1))))
 else
  some (.inr s21.1)
noncomputable def Zhr (a : ZK) (b : (List Int)) (c : (List Int)) : Option Int :=
 bif (a.op == 0) then
  (lp (ZdT b) (0, ([] : (List (Int × Int))))).bind fun r2 =>
  (Zcs (Zfm (fun ka kb : Int => (ka == kb)) r2 a.arg 0)).bind fun x3 =>
  some (w64 x3)
 else
  bif (a.op == 1) then
   (Zcs a.arg).bind fun x4 =>
   some (w64 x4)
  else
   bif (decide (a.op < 0)) then
    some 0
   else
    bif (decide (5 < a.op)) then
     some 0
    else
     ZgI.bind fun x5 =>
     bif (decide (0 ≤ (w64 (a.op - 2))) && decide ((w64 (a.op - 2)) < 4)) then
      bif ((w64 (a.op - 2)) == 0) then
       (lp (ZdY c) (0, 0)).bind fun r10 =>
       some (w64 r10)
      else
      bif ((w64 (a.op - 2)) == 1) then
       (lp (Zdf c) (1, 0)).bind fun r15 =>
       some (w64 r15)
      else
      bif ((w64 (a.op - 2)) == 2) then
       (lp (Zdi c) (0, 0)).bind fun r20 =>
       some (w64 r20)
      else
      bif ((w64 (a.op - 2)) == 3) then
       (lp (Zdg c) (7, 0)).bind fun r25 =>
       some (w64 r25)
      else
       none
     else
      none
noncomputable def Zet (c : Zs) (x4 : (List Int)) (s5 : Int × (List Int)) : Option ((Int × (List Int)) ⊕ (List Int)) :=
 bif (decide (s5.1 < (x4.length : Int))) then
  (ZC x4 s5.1).bind fun x6 =>
  (ZC c.vals x6).bind fun x7 =>
  bif (Nat.ble (List.length s5.2 + 1) lim) then
   some (.inl ((w64 (s5.1 + 1)), (s5.2 ++ [x7])))
  else
   none
 else
  some (.inr s5.2)
noncomputable def Zd4 (a : Zo) (b : (List Int)) (c : Zs) (d : Int) : Option Zs :=
 (Zbe c.work).bind fun x0 =>
 (Zbe c.vals).bind fun x1 =>
 (ZC c.work d).bind fun x2 =>
 (ZaX a (Zs.mk (List.set c.work d.toNat (w64 (x2 + 1))) c.vals) d).bind fun x3 =>
 bif x3 then
  (Zes a d).bind fun x4 =>
  (lp (Zet c x4) (0, ([] : (List Int)))).bind fun r8 =>
  (ZC a.parts d).bind fun x9 =>
  (Zhr x9 b r8).bind fun x10 =>
  (ZC c.vals d).bind fun x11 =>
  some (Zs.mk (List.set c.work d.toNat (w64 (x2 + 1))) (List.set c.vals d.toNat x10))
 else
  some (Zs.mk (List.set c.work d.toNat (w64 (x2 + 1))) c.vals)
noncomputable def ZfN (a : Zo) (b : (List Int)) (c : Zs) (d : Int) : Option (Zs × Int) :=
 (Zcz a c).bind fun x0 =>
 bif (x0 == 0) then
  bif (decide (d < 0)) then
   some ((Zs.mk ([] : List Int) ([] : List Int)), 91)
  else
   bif (decide ((a.parts.length : Int) ≤ d)) then
    some ((Zs.mk ([] : List Int) ([] : List Int)), 91)
   else
    bif (x0 != 0) then
     some ((Zs.mk ([] : List Int) ([] : List Int)), x0)
    else
     (ZaX a c d).bind fun x1 =>
     bif x1 then
      some ((Zs.mk ([] : List Int) ([] : List Int)), 92)
     else
      (ZdA a c d).bind fun x2 =>
      bif x2 then
       (Zd4 a b c d).bind fun x3 =>
       some (x3, 0)
      else
       some ((Zs.mk ([] : List Int) ([] : List Int)), 93)
 else
  bif (x0 != 0) then
   some ((Zs.mk ([] : List Int) ([] : List Int)), x0)
  else
   (ZaX a c d).bind fun x4 =>
   bif x4 then
    some ((Zs.mk ([] : List Int) ([] : List Int)), 92)
   else
    (ZdA a c d).bind fun x5 =>
    bif x5 then
     (Zd4 a b c d).bind fun x6 =>
     some (x6, 0)
    else
     some ((Zs.mk ([] : List Int) ([] : List Int)), 93)
noncomputable def Za0 (c : Int) (x8 : (List Int)) (s12 : Bool × Int) : Option ((Bool × Int) ⊕ (Unit ⊕ Unit)) :=
 bif s12.1 then
  bif (decide (s12.2 < (x8.length : Int))) then
   some (.inl (true, (w64 (s12.2 + 1))))
  else
   some (.inr (.inl ()))
 else
  bif (decide (s12.2 < (x8.length : Int))) then
   (ZC x8 s12.2).bind fun x13 =>
   bif (x13 == c) then
    some (.inl (true, (w64 (s12.2 + 1))))
   else
    some (.inl (false, (w64 (s12.2 + 1))))
  else
   some (.inr (.inr ()))
noncomputable def Zbx (b : Zs) (c : Int) (x11 : (Zs × Int)) (s15 : Int) : Option (Int ⊕ (Unit ⊕ Unit)) :=
 bif (decide (s15 < (b.work.length : Int))) then
  bif (s15 == c) then
   bif (decide ((x11.1.work.length : Int) ≤ s15)) then
    some (.inr (.inl ()))
   else
    (ZC x11.1.work s15).bind fun x16 =>
    (ZC b.work s15).bind fun x17 =>
    bif (x16 != (w64 (x17 + 1))) then
     some (.inr (.inl ()))
    else
     some (.inl (w64 (s15 + 1)))
  else
   bif (decide ((x11.1.work.length : Int) ≤ s15)) then
    some (.inr (.inl ()))
   else
    (ZC x11.1.work s15).bind fun x18 =>
    (ZC b.work s15).bind fun x19 =>
    bif (x18 != (w64 (x19 + 0))) then
     some (.inr (.inl ()))
    else
     some (.inl (w64 (s15 + 1)))
 else
  some (.inr (.inr ()))
noncomputable def Zca (b : Zs) (s24 : Unit) : Option (Unit ⊕ Unit) :=
 bif (decide (0 < (b.work.length : Int))) then
  some (.inr ())
 else
  some (.inr ())
noncomputable def Zed (a : Zo) (b : Zs) (c : Int) : Option Bool :=
 Zd5.bind fun x0 =>
 bif x0 then
  (Zfy a ([] : List Int) b).bind fun x1 =>
  bif x1 then
   (ZdR a).bind fun x2 =>
   (ZdS b).bind fun x3 =>
   (Zcz (Zo.mk a.period a.deadline a.parts a.edges a.futures x2) b).bind fun x4 =>
   bif (x4 != 0) then
    Zd5.bind fun x5 =>
    bif x5 then
     some true
    else
     some false
   else
    (ZdR a).bind fun x6 =>
    (ZdS b).bind fun x7 =>
    (Zfb (Zo.mk a.period a.deadline a.parts a.edges a.futures x6) b).bind fun x8 =>
    (ZdR a).bind fun x9 =>
    (ZdS b).bind fun x10 =>
    (ZfN (Zo.mk a.period a.deadline a.parts a.edges a.futures x9) ([] : List Int) b c).bind fun x11 =>
    (lp (Za0 c x8) (false, 0)).bind fun r14 =>
    match r14 with
    | (.inl r14) =>
     (lp (Zbx b c x11) 0).bind fun r20 =>
     match r20 with
     | (.inl r20) =>
      some false
     | (.inr r20) =>
      bif (x11.2 == 0) then
       (ZdR a).bind fun x21 =>
       (ZdS x11.1).bind fun x22 =>
       (Zcz (Zo.mk a.period a.deadline a.parts a.edges a.futures x21) x11.1).bind fun x23 =>
       bif (x23 == 0) then
        some true
       else
        some false
      else
       some false
    | (.inr r14) =>
     (lp (Zca b) ()).bind fun r25 =>
     bif (x11.2 == 0) then
      some false
     else
      some true
  else
   Zd5.bind fun x26 =>
   bif x26 then
    some true
   else
    some false
 else
  Zd5.bind fun x27 =>
  bif x27 then
   some true
  else
   some false
end Go.Proofs.YtnmbdjkbaihicaaDoor
namespace Go.Proofs.YtnmbdjkbaihicaaDoorE
open Go
set_option linter.unusedVariables false
set_option linter.unusedSimpArgs false
theorem ZeS {i n : Nat} (h : i < n) : decide ((i : Int) < (n : Int)) = true := decide_eq_true (by omega)
theorem Zff (n : Nat) : decide ((n : Int) < (n : Int)) = false := decide_eq_false (by omega)
theorem Za3 {γ : Type} {l : List γ} {i : Nat} {x : γ} (h : l[i]? = some x) : ZC l (i : Int) = some x := (Zsn l i).trans h
theorem Zpu {γ : Type} {l : List γ} {i : Int} {x : γ} (h0 : 0 ≤ i) (h : l[i.toNat]? = some x) : ZC l i = some x := by
 have := Za3 h
 rwa [Int.toNat_of_nonneg h0] at this
theorem ZdV {n : Int} (h1 : -9223372036854775808 ≤ n) (h2 : n < 9223372036854775808) : w64 n = n := ZwF h1 h2
theorem Zag {i n : Nat} (h : i < n) (hn : n < 9223372036854775808) : w64 ((i : Int) + 1) = ((i + 1 : Nat) : Int) := by rw [ZdV (by omega) (by omega)]; omega
theorem Zig {n : Nat} (h : n ≤ 1073741824) : Nat.ble n lim = true := Nat.ble_eq_true_of_le h
def ZkS {γ S R : Type} (f : Nat → γ → S → Option (S ⊕ R)) (fin : S → Option R) : Nat → List γ → S → Option R
 | _, [], s => fin s
 | i, x :: l, s => (match f i x s with | some (.inl s') => ZkS f fin (i + 1) l s' | some (.inr r) => some r | none => none)
theorem ZnW {γ S St R : Type} (l : List γ) (step : St → Option (St ⊕ R)) (st : Nat → S → St) (f : Nat → γ → S → Option (S ⊕ R)) (fin : S → Option R)
  (h1 : ∀ i x s, i < l.length → l[i]? = some x → step (st i s) = (match f i x s with | some (.inl s') => some (.inl (st (i + 1) s')) | some (.inr r) => some (.inr r) | none => none))
  (h2 : ∀ s, step (st l.length s) = (fin s).map Sum.inr) : ∀ s, lp step (st 0 s) = ZkS f fin 0 l s := by
 have key : ∀ (k i : Nat) (s : S), i + k = l.length → lp step (st i s) = ZkS f fin i (l.drop i) s := by
  intro k
  induction k with
  | zero =>
   intro i s hi
   have : i = l.length := by omega
   subst this
   rw [List.drop_length, Zb8, h2]
   unfold ZkS
   cases fin s <;> rfl
  | succ k ih =>
   intro i s hi
   have hi' : i < l.length := by omega
   rw [List.drop_eq_getElem_cons hi', Zb8, h1 i l[i] s hi' (List.getElem?_eq_getElem hi')]
   conv => rhs; unfold ZkS
   cases f i l[i] s with
   | none => rfl
   | some t =>
    cases t with
    | inl s' => exact ih (i + 1) s' (by omega)
    | inr r => rfl
 intro s
 have := key l.length 0 s (by omega)
 rwa [List.drop_zero] at this
def ZkK {γ R : Type} (p : Nat → γ → Bool) (out : Nat → γ → R) (fin : R) : Nat → List γ → R
 | _, [] => fin
 | i, x :: l => bif p i x then out i x else ZkK p out fin (i + 1) l
theorem Zew {γ R : Type} (l : List γ) (step : Int → Option (Int ⊕ R)) (p : Nat → γ → Bool) (out : Nat → γ → R) (fin : R)
  (h1 : ∀ i x, i < l.length → l[i]? = some x → step (i : Int) = some (bif p i x then .inr (out i x) else .inl ((i + 1 : Nat) : Int)))
  (h2 : step (l.length : Int) = some (.inr fin)) : lp step 0 = some (ZkK p out fin 0 l) := by
 have key := ZnW (S := Unit) l step (fun i _ => (i : Int)) (fun i x _ => some (bif p i x then .inr (out i x) else .inl ())) (fun _ => some fin)
  (fun i x s hi hx => by rw [h1 i x hi hx]; cases p i x <;> rfl) (fun _ => h2) ()
 refine (key : lp step 0 = _).trans ?_
 have : ∀ (l : List γ) (i : Nat), ZkS (S := Unit) (fun i x _ => some (bif p i x then Sum.inr (out i x) else Sum.inl ())) (fun _ => some fin) i l () = some (ZkK p out fin i l) := by
  intro l
  induction l with
  | nil => intro i; rfl
  | cons x l ih =>
   intro i
   unfold ZkS ZkK
   cases p i x with
   | true => rfl
   | false => exact ih (i + 1)
 exact this l 0
def Ze8 {γ : Type} (p : Nat → γ → Bool) : Nat → List γ → Bool
 | _, [] => false
 | i, x :: l => p i x || Ze8 p (i + 1) l
theorem Zhz {γ : Type} (p : γ → Bool) : ∀ (l : List γ) (i : Nat), Ze8 (fun _ => p) i l = l.any p
 | [], _ => rfl
 | x :: l, i => by rw [Ze8, List.any_cons, Zhz p l]
theorem ZcS {γ R : Type} (p : Nat → γ → Bool) (c fin : R) : ∀ (l : List γ) (i : Nat), ZkK p (fun _ _ => c) fin i l = bif Ze8 p i l then c else fin
 | [], _ => rfl
 | x :: l, i => by
  unfold ZkK Ze8
  rw [ZcS p c fin l (i + 1)]
  cases p i x <;> rfl
theorem ZlF {γ R : Type} (p : γ → Bool) (fin : R) : ∀ (l : List γ) (i : Nat), (∃ j : Nat, ZkK (fun _ => p) (fun i _ => (Sum.inl (i : Int) : Int ⊕ R)) (.inr fin) i l = .inl (j : Int) ∧ l.any p = true) ∨ (ZkK (fun _ => p) (fun i _ => (Sum.inl (i : Int) : Int ⊕ R)) (.inr fin) i l = .inr fin ∧ l.any p = false)
 | [], _ => .inr ⟨rfl, rfl⟩
 | x :: l, i => by
  unfold ZkK
  rw [List.any_cons]
  cases h : p x with
  | true => exact .inl ⟨i, rfl, rfl⟩
  | false => simpa using ZlF p fin l (i + 1)
theorem Zg2 {γ : Type} (p : Nat → γ → Bool) : ∀ (l : List γ) (i : Nat), Ze8 p i l = true ↔ ∃ j x, l[j]? = some x ∧ p (i + j) x = true
 | [], i => by simp [Ze8]
 | x :: l, i => by
  rw [Ze8, Bool.or_eq_true, Zg2 p l (i + 1)]
  constructor
  ·rintro (h | ⟨j, y, hj, hp⟩)
   ·exact ⟨0, x, rfl, h⟩
   ·exact ⟨j + 1, y, by simpa using hj, by rw [show i + (j + 1) = i + 1 + j by omega]; exact hp⟩
  ·rintro ⟨j, y, hj, hp⟩
   cases j with
   | zero => left; simp at hj; subst hj; exact hp
   | succ j => right; exact ⟨j, y, by simpa using hj, by rw [show i + 1 + j = i + (j + 1) by omega]; exact hp⟩
end Go.Proofs.YtnmbdjkbaihicaaDoorE
namespace Go.Proofs.YtnmbdjkbaihicaaDoor
open Go Go.Proofs.YtnmbdjkbaihicaaDoorE
set_option linter.unusedVariables false
set_option linter.unusedSimpArgs false
def ZcN (n a b : Int) : Bool := decide (a ≤ n) && decide (n ≤ b)
theorem Ziy (n a b : Int) : Zbf n a b = some (ZcN n a b) := by
 unfold Zbf ZcN
 cases decide (a ≤ n) <;> cases decide (n ≤ b) <;> rfl
def Zfs (p : ZK) : Bool := !(ZcN p.op 0 5 && (ZcN p.arg 0 2147483647 && ZcN p.work 1 100))
theorem Zwl (p : ZK) : ZdO p = some (Zfs p) := by
 unfold ZdO Zfs
 simp only [Ziy, Option.bind_some]
 cases ZcN p.op 0 5 <;> cases ZcN p.arg 0 2147483647 <;> cases ZcN p.work 1 100 <;> rfl
theorem Zir {γ : Type} (l : List γ) (p : γ → Bool) (step : Int → Option (Int ⊕ (Int ⊕ Unit)))
  (h1 : ∀ i x, i < l.length → l[i]? = some x → step (i : Int) = some (bif p x then .inr (.inl (i : Int)) else .inl ((i + 1 : Nat) : Int)))
  (h2 : step (l.length : Int) = some (.inr (.inr ()))) :
  (((lp step 0).bind fun (r : Int ⊕ Unit) => match r with | .inl r => some r | .inr _ => some (-1)).bind fun x => bif decide (0 ≤ x) then some true else some false) = some (l.any p) := by
 rw [Zew l step (fun _ => p) (fun i _ => .inl (i : Int)) (.inr ()) h1 h2]
 rcases ZlF p () l 0 with ⟨j, e1, e2⟩ | ⟨e1, e2⟩
 ·rw [e1, e2]
  show (bif decide ((0 : Int) ≤ (j : Int)) then some true else some false) = some true
  rw [decide_eq_true (by omega)]
  rfl
 ·rw [e1, e2]
  rfl
theorem ZmG (l : List ZK) (f : ZK → Option Bool) (p : ZK → Bool) (hf : ∀ x ∈ l, f x = some (p x)) (hl : l.length < 9223372036854775808) : ZaD l f = some (l.any p) := by
 unfold ZaD ZbG
 refine Zir l p _ (fun i x hi hx => ?_) ?_
 ·simp only [ZaF, ZeS hi, Za3 hx, Option.bind_some, hf x (List.mem_of_getElem? hx), Zag hi hl, cond_true]
  cases p x <;> rfl
 ·simp only [ZaF, Zff]; rfl
def ZoY (e x : ZI) : Bool := e.src == x.src && (e.dst == x.dst && true)
theorem Zrm (l : List ZI) (e : ZI) (hl : l.length < 9223372036854775808) : Za1 l e = some (l.any (ZoY e)) := by
 unfold Za1 Zce
 refine Zir l (ZoY e) _ (fun i x hi hx => ?_) ?_
 ·simp only [ZaY, ZeS hi, Za3 hx, Option.bind_some, Zag hi hl, cond_true, ZoY]
  cases (e.src == x.src && (e.dst == x.dst && true)) <;> rfl
 ·simp only [ZaY, Zff]; rfl
def again (f g : Zq) : Bool := g.user == f.user && g.pos == f.pos
theorem Zhs (l : List Zq) (f : Zq → Option Bool) (p : Zq → Bool) (hf : ∀ x ∈ l, f x = some (p x)) (hl : l.length < 9223372036854775808) : ZO l f = some (l.any p) := by
 unfold ZO Zaj
 refine Zir l p _ (fun i x hi hx => ?_) ?_
 ·simp only [ZY, ZeS hi, Za3 hx, Option.bind_some, hf x (List.mem_of_getElem? hx), Zag hi hl, cond_true]
  cases p x <;> rfl
 ·simp only [ZY, Zff]; rfl
theorem Zuo (f g : Zq) : Zcw g f.user f.pos = some (again f g) := by
 unfold Zcw again
 cases (g.user == f.user) <;> cases (g.pos == f.pos) <;> rfl
theorem Zoz (l : List Int) (n : Int) (hl : l.length < 9223372036854775808) : ZaO l n = some (l.any (fun x => n == x)) := by
 unfold ZaO Zct
 refine Zir l (fun x => n == x) _ (fun i x hi hx => ?_) ?_
 ·simp only [Zbm, ZeS hi, Za3 hx, Option.bind_some, Zag hi hl, cond_true]
  cases (n == x) <;> rfl
 ·simp only [Zbm, Zff]; rfl
def Zmz (b : Zm) (n : Int) : Bool := b.outs.any fun x => n == x
theorem ZmS (l : List Int) (f : Int → Option Bool) (p : Int → Bool) (hf : ∀ x ∈ l, f x = some (p x)) (hl : l.length < 9223372036854775808) : ZaR l f = some (l.any p) := by
 unfold ZaR ZbW
 refine Zir l p _ (fun i x hi hx => ?_) ?_
 ·simp only [ZaQ, ZeS hi, Za3 hx, Option.bind_some, hf x (List.mem_of_getElem? hx), Zag hi hl, cond_true]
  cases p x <;> rfl
 ·simp only [ZaQ, Zff]; rfl
theorem Zy0 (b : Zm) (h2 : b.outs.length < 9223372036854775808) (n : Int) : Zcy n b.outs = some (Zmz b n) := by
 unfold Zcy
 simp only [Zoz _ _ h2, Option.bind_some]
 unfold Zmz
 cases (b.outs.any fun y => n == y) <;> rfl
def two (n : Nat) (a b : Int) : Bool := (a != b) && (ZcN a 0 (n - 1) && ZcN b 0 (n - 1))
theorem ZuU (d : Zo) (hl : d.parts.length < 9223372036854775808) (a b : Int) : Zfg d a b = some (two d.parts.length a b) := by
 unfold Zfg two
 rw [ZdV (by omega) (by omega)]
 simp only [Ziy, Option.bind_some]
 cases (a != b) <;> cases ZcN a 0 (d.parts.length - 1) <;> cases ZcN b 0 (d.parts.length - 1) <;> rfl
def Znt (n : Nat) (l : List Int) (i : Nat) (x : Int) : Bool := !(ZcN x 0 (n - 1)) || (match i with | 0 => false | j + 1 => match l[j]? with | some y => decide (x ≤ y) | none => false)
def Zjd (n : Nat) (l : List Int) : Bool := !(Ze8 (Znt n l) 0 l) && !l.isEmpty
theorem ZuM (b : Bool) (l : List Int) : ((some (bif b then (Sum.inl () : Unit ⊕ Unit) else .inr ())).bind fun r => match r with | .inl _ => some false | .inr _ => bif decide (0 < (l.length : Int)) then some true else some false) = some (!b && !l.isEmpty) := by
 cases b with
 | true => rfl
 | false =>
  cases l with
  | nil => rfl
  | cons x l => show (bif decide (0 < ((x :: l).length : Int)) then some true else some false) = some true; rw [decide_eq_true (by rw [List.length_cons]; omega)]; rfl
theorem ZuX (d : Zo) (hd : d.parts.length < 9223372036854775808) (l : List Int) (hl : l.length < 9223372036854775808) : Zfj d l = some (Zjd d.parts.length l) := by
 have key := Zew l (Zd3 d l) (Znt d.parts.length l) (fun _ _ => .inl ()) (.inr ()) (fun i x hi hx => by
   simp only [Zd3, ZeS hi, Za3 hx, Option.bind_some, Zag hi hl, cond_true, Ziy, Znt]
   rw [ZdV (by omega) (by omega)]
   cases ZcN x 0 (d.parts.length - 1) with
   | false => rfl
   | true =>
    cases i with
    | zero => rfl
    | succ i =>
     rw [decide_eq_true (show (0 : Int) < ((i + 1 : Nat) : Int) by omega), ZdV (by omega) (by omega), show (((i + 1 : Nat) : Int) - 1) = (i : Int) by omega]
     have hi2 : l[i]? = some l[i] := List.getElem?_eq_getElem (by omega)
     rw [Za3 hi2]
     simp only [cond_true, Option.bind_some, Bool.not_true, Bool.false_or, hi2]
     cases decide (x ≤ l[i]) <;> rfl) (by simp only [Zd3, Zff]; rfl)
 unfold Zfj Zjd
 rw [key, ZcS]
 exact ZuM _ _
end Go.Proofs.YtnmbdjkbaihicaaDoor
namespace Go.Proofs.YtnmbdjkbaihicaaDoor
open Go Go.Proofs.YtnmbdjkbaihicaaDoorE
set_option linter.unusedVariables false
set_option linter.unusedSimpArgs false
def Zoh (n : Int) : Int := bif decide (n < 0) then 10 else bif decide (1099511627775 < n) then 11 else 0
theorem ZpC (n : Int) : ZfJ n = some (Zoh n) := by
 unfold ZfJ Zoh
 cases decide (n < 0) <;> cases decide (1099511627775 < n) <;> rfl
noncomputable def Zuk (x : Int) : Int := match Zb1 x with | some n => n | none => 0
theorem Zvq (x : Int) : Zci x = some (Zuk x) := by
 unfold Zci Zuk Zb1
 rfl
noncomputable def ZuG (n : Int) : Bool := !(Zoh n != 0) && !(Zuk (IntKind.u64.wrap n) != 1)
theorem Zsk (n : Int) : ∃ k, Zhx n = some (k, ZuG n) := by
 have tz : ∃ k, Zch (IntKind.u64.wrap n) = some k := ⟨_, rfl⟩
 obtain ⟨k, hk⟩ := tz
 unfold Zhx ZuG
 simp only [ZpC, Zvq, Option.bind_some, hk]
 cases (Zoh n != 0)
 ·cases (Zuk (IntKind.u64.wrap n) != 1)
  ·exact ⟨k, rfl⟩
  ·exact ⟨0, rfl⟩
 ·exact ⟨0, rfl⟩
end Go.Proofs.YtnmbdjkbaihicaaDoor
namespace Go.Proofs.YtnmbdjkbaihicaaDoor
open Go Go.Proofs.YtnmbdjkbaihicaaDoorE
set_option linter.unusedVariables false
set_option linter.unusedSimpArgs false
def Zmc (b : Zm) : Prop := b.ins.length < 9223372036854775808 ∧ b.outs.length < 9223372036854775808
structure ZfU (d : Zo) : Prop where
 p : d.parts.length < 9223372036854775808
 e : d.edges.length < 9223372036854775808
 f : d.futures.length < 9223372036854775808
 b : d.barriers.length < 9223372036854775808
 i : ∀ b ∈ d.barriers, Zmc b
theorem Zl7 {γ : Type} {l : List γ} {i n : Nat} (h : l.length < n) : (l.take i).length < n := by rw [List.length_take]; omega
def ZeX (d : Zo) (i : Nat) (e : ZI) : Bool := !(two d.parts.length e.src e.dst) || (d.edges.take i).any (ZoY e)
theorem Zt3 (d : Zo) (h : ZfU d) : lp (ZcL d) 0 = some (bif Ze8 (ZeX d) 0 d.edges then .inl () else .inr ()) := by
 have key := Zew d.edges (ZcL d) (ZeX d) (fun _ _ => .inl ()) (.inr ()) (fun i x hi hx => by
   simp only [ZcL, ZeS hi, Za3 hx, Option.bind_some, Zag hi h.e, cond_true, ZuU d h.p, ZeX, Int.toNat_natCast, Zrm _ _ (Zl7 h.e)]
   rw [decide_eq_true (show (0 : Int) ≤ (i : Int) by omega), Nat.ble_eq_true_of_le (Nat.le_of_lt hi)]
   cases two d.parts.length x.src x.dst <;> cases (d.edges.take i).any (ZoY x) <;> rfl) (by simp only [ZcL, Zff]; rfl)
 rw [key, ZcS]
def Zd7 (ps : List ZK) (z : Int) : Int := match ps[z.toNat]? with | some p => p.work | none => 0
def Zdt (d : Zo) (i : Nat) (f : Zq) : Bool := !(two d.parts.length f.maker f.user) || (!(ZcN f.pos 1 (Zd7 d.parts f.user - 1)) || (d.futures.take i).any (again f))
theorem Zmh {n : Nat} {a b : Int} (h : two n a b = true) : (0 ≤ a ∧ a.toNat < n) ∧ (0 ≤ b ∧ b.toNat < n) ∧ a ≠ b := by
 simp only [two, ZcN, Bool.and_eq_true, decide_eq_true_eq, bne_iff_ne] at h
 omega
theorem Zj1 {γ : Type} {l : List γ} {z : Int} (h0 : 0 ≤ z) (h : z.toNat < l.length) : ZC l z = some l[z.toNat] := Zpu h0 (List.getElem?_eq_getElem h)
theorem ZqW (d : Zo) (h : ZfU d) (hg : ∀ p ∈ d.parts, 1 ≤ p.work ∧ p.work ≤ 100) : lp (ZcT d) 0 = some (bif Ze8 (Zdt d) 0 d.futures then .inl () else .inr ()) := by
 have key := Zew d.futures (ZcT d) (Zdt d) (fun _ _ => .inl ()) (.inr ()) (fun i x hi hx => by
   simp only [ZcT, ZeS hi, Za3 hx, Option.bind_some, Zag hi h.f, cond_true, ZuU d h.p, Zdt]
   cases h1 : two d.parts.length x.maker x.user with
   | false => rfl
   | true =>
    obtain ⟨_, ⟨u1, u2⟩, _⟩ := Zmh h1
    have w := hg _ (List.getElem_mem u2)
    have wa : Zd7 d.parts x.user = d.parts[x.user.toNat].work := by simp only [Zd7, List.getElem?_eq_getElem u2]
    rw [← wa] at w
    rw [Zj1 u1 u2]
    simp only [cond_true, Option.bind_some, Ziy, ← wa, ZdV (show -9223372036854775808 ≤ Zd7 d.parts x.user - 1 by omega) (by omega), Int.toNat_natCast]
    rw [decide_eq_true (show (0 : Int) ≤ (i : Int) by omega), Nat.ble_eq_true_of_le (Nat.le_of_lt hi), Zhs _ _ (again x) (fun y _ => Zuo x y) (Zl7 h.f)]
    cases ZcN x.pos 1 (Zd7 d.parts x.user - 1) <;> cases (d.futures.take i).any (again x) <;> rfl) (by simp only [ZcT, Zff]; rfl)
 rw [key, ZcS]
def Zek (n : Nat) (b : Zm) : Bool := !(Zjd n b.ins) || (!(Zjd n b.outs) || b.ins.any (Zmz b))
theorem ZpR (d : Zo) (h : ZfU d) : lp (ZcR d) 0 = some (bif d.barriers.any (Zek d.parts.length) then .inl () else .inr ()) := by
 have key := Zew d.barriers (ZcR d) (fun _ => Zek d.parts.length) (fun _ _ => .inl ()) (.inr ()) (fun i x hi hx => by
   have hb := h.i x (List.mem_of_getElem? hx)
   simp only [ZcR, ZeS hi, Za3 hx, Option.bind_some, Zag hi h.b, cond_true, ZuX d h.p _ hb.1, ZuX d h.p _ hb.2, Zek, ZmS x.ins _ (Zmz x) (fun y _ => Zy0 x hb.2 y) hb.1]
   cases Zjd d.parts.length x.ins <;> cases Zjd d.parts.length x.outs <;> cases x.ins.any (Zmz x) <;> rfl) (by simp only [ZcR, Zff]; rfl)
 rw [key, ZcS, Zhz]
noncomputable def Zmt (d : Zo) : Bool := ZuG d.period && (!decide (4096 < d.period) && ZcN d.deadline 1 d.period)
def Zjn (d : Zo) : Bool := ZcN (d.parts.length : Int) 1 16 && (!decide ((48 : Int) < d.edges.length) && (!decide ((16 : Int) < d.futures.length) && !decide ((4 : Int) < d.barriers.length)))
noncomputable def Zem (d : Zo) : Int :=
 bif Zjn d then bif Zmt d then bif d.parts.any Zfs then 52 else bif Ze8 (ZeX d) 0 d.edges then 53 else
 bif Ze8 (Zdt d) 0 d.futures then 54 else bif d.barriers.any (Zek d.parts.length) then 55 else 0 else 51 else 50
theorem ZlY {ps : List ZK} (h : ps.any Zfs = false) : ∀ p ∈ ps, 1 ≤ p.work ∧ p.work ≤ 100 := fun p hp => by
 have := List.any_eq_false.1 h p hp
 simp only [Zfs, ZcN, Bool.not_eq_true, Bool.not_eq_false', Bool.and_eq_true, decide_eq_true_eq] at this
 exact this.2.2
theorem ZnM (d : Zo) (h : ZfU d) : ZdW d = some (Zem d) := by
 obtain ⟨k, hk⟩ := Zsk d.period
 unfold ZdW Zem Zjn Zmt
 simp only [Ziy, Option.bind_some, hk, ZmG _ _ Zfs (fun x _ => Zwl x) h.p, Zt3 d h, ZpR d h]
 cases ZcN (d.parts.length : Int) 1 16 with
 | false => rfl
 | true =>
  cases decide ((48 : Int) < d.edges.length) with
  | true => rfl
  | false =>
   cases decide ((16 : Int) < d.futures.length) with
   | true => rfl
   | false =>
    cases decide ((4 : Int) < d.barriers.length) with
    | true => rfl
    | false =>
     cases ZuG d.period with
     | false => rfl
     | true =>
      cases decide (4096 < d.period) with
      | true => rfl
      | false =>
       cases ZcN d.deadline 1 d.period with
       | false => rfl
       | true =>
        cases hp : d.parts.any Zfs with
        | true => rfl
        | false =>
         rw [ZqW d h (ZlY hp)]
         cases Ze8 (ZeX d) 0 d.edges <;> cases Ze8 (Zdt d) 0 d.futures <;> cases d.barriers.any (Zek d.parts.length) <;> rfl
end Go.Proofs.YtnmbdjkbaihicaaDoor
namespace Go.Proofs.YtnmbdjkbaihicaaDoor
open Go Go.Proofs.YtnmbdjkbaihicaaDoorE
set_option linter.unusedVariables false
set_option linter.unusedSimpArgs false
def ZmL (b : Zm) : Bool := decide (20 < (b.ins.length : Int)) || decide (20 < (b.outs.length : Int))
def few (d : Zo) : Bool := !((d.barriers.take 9).any ZmL) && (decide ((d.parts.length : Int) ≤ 20) && (decide ((d.edges.length : Int) ≤ 60) && (decide ((d.futures.length : Int) ≤ 20) && decide ((d.barriers.length : Int) ≤ 8))))
theorem Zxc (d : Zo) : ZfH d = some (few d) := by
 have hl : (d.barriers.take 9).length = min 9 d.barriers.length := List.length_take
 have key := Zew (d.barriers.take 9) (ZdK d) (fun _ => ZmL) (fun _ _ => .inl ()) (.inr ()) (fun i x hi hx => by
   have h9 : i < 9 := by omega
   rw [List.getElem?_take_of_lt h9] at hx
   simp only [ZdK, ZeS (show i < d.barriers.length by omega), Za3 hx, Option.bind_some, Zag h9 (by omega), cond_true, ZmL, decide_eq_true (show (i : Int) < 9 by omega)]
   cases decide (20 < (x.ins.length : Int)) <;> cases decide (20 < (x.outs.length : Int)) <;> rfl) (by
   rw [hl]
   unfold ZdK
   by_cases h : d.barriers.length ≤ 9
   ·rw [Nat.min_eq_right h, Zff]; rfl
   ·rw [Nat.min_eq_left (by omega), decide_eq_true (show ((9 : Nat) : Int) < d.barriers.length by omega)]; rfl)
 unfold ZfH few
 rw [key, ZcS, Zhz]
 cases (d.barriers.take 9).any ZmL <;> cases decide ((d.parts.length : Int) ≤ 20) <;> cases decide ((d.edges.length : Int) ≤ 60) <;> cases decide ((d.futures.length : Int) ≤ 20) <;> cases decide ((d.barriers.length : Int) ≤ 8) <;> rfl
structure Zov (d : Zo) : Prop where
 p : d.parts.length ≤ 20
 e : d.edges.length ≤ 60
 f : d.futures.length ≤ 20
 b : d.barriers.length ≤ 8
 i : ∀ b ∈ d.barriers, b.ins.length ≤ 20 ∧ b.outs.length ≤ 20
theorem Zrr {d : Zo} (h : few d = true) : Zov d := by
 unfold few at h
 simp only [Bool.and_eq_true, decide_eq_true_eq, Bool.not_eq_true'] at h
 obtain ⟨h1, h2, h3, h4, h5⟩ := h
 refine ⟨by omega, by omega, by omega, by omega, fun b hb => ?_⟩
 have := List.any_eq_false.1 h1 b (by rw [List.take_of_length_le (by omega)]; exact hb)
 simp only [ZmL, Bool.or_eq_true, decide_eq_true_eq, not_or] at this
 omega
theorem Zov.short {d : Zo} (h : Zov d) : ZfU d :=
 ⟨by have := h.p; omega, by have := h.e; omega, by have := h.f; omega, by have := h.b; omega, fun b hb => ⟨by have := (h.i b hb).1; omega, by have := (h.i b hb).2; omega⟩⟩
theorem ZyO (d : Zo) (h : Zov d) : ZdR d = some d.barriers := by
 have key := ZnW d.barriers (Zdc d) (fun i (s : List Zm) => ((i : Int), s)) (fun i x s => bif Nat.ble (s.length + 1) lim then some (.inl (s ++ [x])) else none) (fun s => some s) (fun i x s hi hx => by
   have hb := h.i x (List.mem_of_getElem? hx)
   simp only [Zdc, ZeS hi, Za3 hx, Option.bind_some, Zag hi h.short.b, cond_true, Zig (show x.ins.length ≤ 1073741824 by omega), Zig (show x.outs.length ≤ 1073741824 by omega)]
   cases Nat.ble (s.length + 1) lim <;> rfl) (fun s => by simp only [Zdc, Zff]; rfl) []
 have sc : ∀ (l : List Zm) (i : Nat) (s : List Zm), s.length + l.length ≤ 1073741824 → ZkS (fun i x s => bif Nat.ble (s.length + 1) lim then some (Sum.inl (s ++ [x])) else (none : Option (List Zm ⊕ List Zm))) (fun s => some s) i l s = some (s ++ l) := by
  intro l
  induction l with
  | nil => intro i s _; simp [ZkS]
  | cons x l ih =>
   intro i s hs
   rw [List.length_cons] at hs
   unfold ZkS
   rw [Zig (by omega)]
   simp only [cond_true]
   rw [ih (i + 1) (s ++ [x]) (by rw [List.length_append]; simp; omega)]
   simp
 rw [sc _ _ _ (by have := h.b; simp; omega)] at key
 unfold ZdR
 rw [Zig (show List.length d.parts ≤ 1073741824 by have := h.p; omega), Zig (show List.length d.edges ≤ 1073741824 by have := h.e; omega), Zig (show List.length d.futures ≤ 1073741824 by have := h.f; omega)]
 show (lp (Zdc d) (((0 : Nat) : Int), [])).bind _ = _
 rw [key]
 rfl
end Go.Proofs.YtnmbdjkbaihicaaDoor
namespace Go.Proofs.YtnmbdjkbaihicaaDoor
open Go Go.Proofs.YtnmbdjkbaihicaaDoorE Go.Sort
set_option linter.unusedVariables false
set_option linter.unusedSimpArgs false
structure OKA (P : Int → Prop) (d : Array Int) : Prop where
 el : ∀ i, i < d.size → P d[i]!
 sz : d.size ≤ 1000
theorem Zbp {d : Array Int} {i : Nat} (h : i < d.size) : ZC d.toList (i : Int) = some d[i]! := by
 refine Za3 ?_
 rw [Array.getElem?_toList, Array.getElem?_eq_getElem h, getElem!_pos d i h]
theorem ZvN (d : Array Int) (i : Nat) (x : Int) : List.set d.toList i x = (d.setIfInBounds i x).toList := by simp
theorem ZfC (d : Array Int) (i j : Nat) : List.set (List.set d.toList i d[j]!) j d[i]! = (swp d i j).toList := by
 unfold swp
 rw [ZvN, ZvN]
theorem Ziz {d : Array Int} {i j : Nat} {x : Int} (h : j < d.size) : ∃ y, ZC (List.set d.toList i x) (j : Int) = some y := by
 rw [ZvN]
 exact ⟨_, Zbp (by simpa using h)⟩
theorem Z6 (d : Array Int) (i j : Nat) : (swp d i j).size = d.size := by unfold swp; simp
theorem ZuO {d : Array Int} {i j k : Nat} (hi : i < d.size) (hj : j < d.size) : (swp d i j)[k]! = if k = j then d[i]! else if k = i then d[j]! else d[k]! := by
 unfold swp
 by_cases hk : k < d.size
 ·rw [getElem!_pos _ k (by simpa using hk), getElem!_pos d k hk, Array.getElem_setIfInBounds (by simpa using hk)]
  by_cases h1 : j = k
  ·rw [if_pos h1, if_pos h1.symm]
  ·rw [if_neg h1, if_neg (Ne.symm h1), Array.getElem_setIfInBounds hk]
   by_cases h2 : i = k
   ·rw [if_pos h2, if_pos h2.symm]
   ·rw [if_neg h2, if_neg (Ne.symm h2)]
 ·rw [getElem!_neg _ k (by simpa using hk), getElem!_neg d k hk, if_neg (by omega), if_neg (by omega)]
theorem OKA.swp {P : Int → Prop} {d : Array Int} (h : OKA P d) {i j : Nat} (hi : i < d.size) (hj : j < d.size) : OKA P (swp d i j) :=
 ⟨fun k hk => by
  rw [Z6] at hk
  rw [ZuO hi hj]
  split
  ·exact h.el _ hi
  ·split
   ·exact h.el _ hj
   ·exact h.el _ hk, by rw [Z6]; exact h.sz⟩
theorem ZeZ {a b : Nat} : decide ((a : Int) < (b : Int)) = decide (a < b) := decide_eq_decide.2 (by omega)
theorem ZfI {a b : Nat} : decide ((a : Int) ≤ (b : Int)) = decide (a ≤ b) := decide_eq_decide.2 (by omega)
theorem Zam {z : Int} {n : Nat} (h : z = (n : Int)) (hn : n < 9223372036854775808) : w64 z = (n : Int) := by rw [h, ZdV (by omega) (by omega)]
section
variable (cmp : Int → Int → Option Int) (c : Int → Int → Int) (P : Int → Prop)
def ZoF : Prop := ∀ x y, P x → P y → cmp x y = some (c x y)
def ltC (x y : Int) : Bool := decide (c x y < 0)
variable {cmp c P} (hc : ZoF cmp c P)
include hc
theorem Zm6 (a : Nat) : ∀ (j : Nat) (d : Array Int), OKA P d → j < d.size → lp (ZS (a : Int) cmp) ((j : Int), d.toList) = some (insInner (ltC c) a j d).toList ∧ OKA P (insInner (ltC c) a j d) ∧ (insInner (ltC c) a j d).size = d.size
 | 0, d, hd, hj => by
  rw [Zb8]
  simp only [ZS, decide_eq_false (show ¬ ((a : Int) < ((0 : Nat) : Int)) by omega), cond_false]
  exact ⟨rfl, hd, rfl⟩
 | j + 1, d, hd, hj => by
  have hj' : j < d.size := by omega
  have hz := hd.sz
  rw [Zb8]
  have e2 : w64 (((j + 1 : Nat) : Int) - 1) = (j : Int) := Zam (by omega) (by omega)
  have e3 := hc _ _ (hd.el (j + 1) hj) (hd.el j hj')
  unfold insInner
  by_cases h1 : a < j + 1
  ·by_cases h2 : c d[j + 1]! d[j]! < 0
   ·have ih := Zm6 a j (swp d (j + 1) j) (hd.swp hj hj') (by rw [Z6]; omega)
    obtain ⟨y, e5⟩ := Ziz (i := j + 1) (x := d[j]!) hj'
    simp only [ZS, ZeZ, decide_eq_true h1, cond_true, Zbp hj, e2, Zbp hj', Option.bind_some, e3, decide_eq_true h2, Int.toNat_natCast, e5, ZfC]
    rw [if_pos (by simp [h1, h2, ltC])]
    rw [Z6] at ih
    exact ih
   ·simp only [ZS, ZeZ, decide_eq_true h1, cond_true, Zbp hj, e2, Zbp hj', Option.bind_some, e3, decide_eq_false h2, cond_false]
    rw [if_neg (by simp [h1, h2, ltC])]
    exact ⟨rfl, hd, rfl⟩
  ·simp only [ZS, ZeZ, decide_eq_false h1, cond_false]
   rw [if_neg (by simp [h1])]
   exact ⟨rfl, hd, rfl⟩
theorem ZmY (a b : Nat) : ∀ (k i : Nat) (d : Array Int), i + k = max i b → b ≤ d.size → OKA P d → lp (Zac (a : Int) (b : Int) cmp) ((i : Int), d.toList) = some (insOuter (ltC c) a b i d).toList ∧ OKA P (insOuter (ltC c) a b i d) ∧ (insOuter (ltC c) a b i d).size = d.size
 | 0, i, d, hi, hb, hd => by
  rw [Zb8]
  unfold insOuter
  simp only [Zac, ZeZ, decide_eq_false (show ¬ i < b by omega), cond_false]
  rw [if_neg (by omega)]
  exact ⟨rfl, hd, rfl⟩
 | k + 1, i, d, hi, hb, hd => by
  have hib : i < b := by omega
  have hz := hd.sz
  obtain ⟨h1, h2, h3⟩ := Zm6 hc a i d hd (by omega)
  have ih := ZmY a b k (i + 1) (insInner (ltC c) a i d) (by omega) (by rw [h3]; exact hb) h2
  rw [Zb8]
  unfold insOuter
  simp only [Zac, ZeZ, decide_eq_true hib, cond_true, h1, Option.bind_some, Zag hib (by omega)]
  rw [if_pos hib, ← h3]
  exact ih
theorem ZuZ (a b : Nat) (d : Array Int) (hb : b ≤ d.size) (ha : a ≤ b) (hd : OKA P d) : ZP (a : Int) (b : Int) cmp d.toList = some (insertionSort (ltC c) d a b).toList ∧ OKA P (insertionSort (ltC c) d a b) ∧ (insertionSort (ltC c) d a b).size = d.size := by
 have hz := hd.sz
 obtain ⟨h1, h2⟩ := ZmY hc a b (max (a + 1) b - (a + 1)) (a + 1) d (by omega) hb hd
 unfold ZP insertionSort
 rw [Zam (n := a + 1) (by omega) (by omega), h1]
 exact ⟨rfl, h2⟩
theorem ZtZ (hi first : Nat) : ∀ (k root : Nat) (d : Array Int), hi - root ≤ k → root ≤ hi → first + hi ≤ d.size → OKA P d → ∃ r, lp (ZD (hi : Int) (first : Int) cmp) ((root : Int), d.toList) = some r ∧ (r = .inl (siftDown (ltC c) hi first root d).toList ∨ r = .inr (siftDown (ltC c) hi first root d).toList) ∧ OKA P (siftDown (ltC c) hi first root d) ∧ (siftDown (ltC c) hi first root d).size = d.size := by
 intro k
 induction k with
 | zero =>
  intro root d hk hr hs hd
  have hz := hd.sz
  rw [Zb8]
  unfold siftDown
  have e0 : w64 (2 * (root : Int)) = ((2 * root : Nat) : Int) := Zam (by omega) (by omega)
  have e1 : w64 (((2 * root : Nat) : Int) + 1) = ((2 * root + 1 : Nat) : Int) := Zam (by omega) (by omega)
  simp only [ZD, e0, e1, ZfI, decide_eq_true (show hi ≤ 2 * root + 1 by omega), cond_true]
  rw [dif_pos (by omega)]
  exact ⟨_, rfl, .inl rfl, hd, rfl⟩
 | succ k ih =>
  intro root d hk hr hs hd
  have hz := hd.sz
  rw [Zb8]
  unfold siftDown
  have e0 : w64 (2 * (root : Int)) = ((2 * root : Nat) : Int) := Zam (by omega) (by omega)
  have e1 : w64 (((2 * root : Nat) : Int) + 1) = ((2 * root + 1 : Nat) : Int) := Zam (by omega) (by omega)
  by_cases h1 : hi ≤ 2 * root + 1
  ·simp only [ZD, e0, e1, ZfI, decide_eq_true h1, cond_true]
   rw [dif_pos (by omega)]
   exact ⟨_, rfl, .inl rfl, hd, rfl⟩
  have e2 : w64 (((2 * root + 1 : Nat) : Int) + 1) = ((2 * root + 2 : Nat) : Int) := Zam (by omega) (by omega)
  have er : w64 ((first : Int) + (root : Int)) = ((first + root : Nat) : Int) := Zam (by omega) (by omega)
  have ef : w64 ((first : Int) + ((2 * root + 1 : Nat) : Int)) = ((first + (2 * root + 1) : Nat) : Int) := Zam (by omega) (by omega)
  have ef1 : w64 (((first + (2 * root + 1) : Nat) : Int) + 1) = ((first + (2 * root + 1) + 1 : Nat) : Int) := Zam (by omega) (by omega)
  have ef2 : w64 ((first : Int) + ((2 * root + 2 : Nat) : Int)) = ((first + (2 * root + 2) : Nat) : Int) := Zam (by omega) (by omega)
  have ir : first + root < d.size := by omega
  have i1 : first + (2 * root + 1) < d.size := by omega
  have cr1 := hc _ _ (hd.el _ ir) (hd.el _ i1)
  have one : ∀ {r : List Int ⊕ List Int} {A : Array Int}, A = d → (r = .inl d.toList ∨ r = .inr d.toList) → ∃ q, some r = some q ∧ (q = .inl A.toList ∨ q = .inr A.toList) ∧ OKA P A ∧ A.size = d.size := fun hA hr => by
   subst hA
   exact ⟨_, rfl, hr, hd, rfl⟩
  rw [dif_neg (by omega)]
  by_cases h2 : 2 * root + 2 < hi
  ·have i2 : first + (2 * root + 2) < d.size := by omega
   have i2' : first + (2 * root + 1) + 1 < d.size := by omega
   have c12 := hc _ _ (hd.el _ i1) (hd.el _ i2')
   have cr2 := hc _ _ (hd.el _ ir) (hd.el _ i2)
   by_cases h3 : c d[first + (2 * root + 1)]! d[first + (2 * root + 1) + 1]! < 0
   ·rw [if_pos (by simp [h3, ltC]; omega)]
    by_cases h4 : c d[first + root]! d[first + (2 * root + 2)]! < 0
    ·obtain ⟨y, em⟩ := Ziz (i := first + root) (x := d[first + (2 * root + 2)]!) i2
     simp only [ZD, e0, e1, e2, ZfI, ZeZ, decide_eq_false h1, decide_eq_true h2, cond_false, cond_true, ef, ef1, ef2, er, Zbp i1, Zbp i2', Zbp ir, Zbp i2, Option.bind_some, c12, cr2, decide_eq_true h3, decide_eq_true h4, Int.toNat_natCast, em, ZfC]
     rw [if_neg (by simp [h4, ltC]), dif_pos h2]
     have := ih (2 * root + 2) (swp d (first + root) (first + (2 * root + 2))) (by omega) (by omega) (by rw [Z6]; omega) (hd.swp ir i2)
     rw [Z6] at this
     exact this
    ·simp only [ZD, e0, e1, e2, ZfI, ZeZ, decide_eq_false h1, decide_eq_true h2, cond_false, cond_true, ef, ef1, ef2, er, Zbp i1, Zbp i2', Zbp ir, Zbp i2, Option.bind_some, c12, cr2, decide_eq_true h3, decide_eq_false h4]
     rw [if_pos (by simp [h4, ltC])]
     exact one rfl (.inr rfl)
   ·rw [if_neg (by simp [h3, ltC])]
    by_cases h4 : c d[first + root]! d[first + (2 * root + 1)]! < 0
    ·obtain ⟨y, em⟩ := Ziz (i := first + root) (x := d[first + (2 * root + 1)]!) i1
     simp only [ZD, e0, e1, e2, ZfI, ZeZ, decide_eq_false h1, decide_eq_true h2, cond_false, cond_true, ef, ef1, ef2, er, Zbp i1, Zbp i2', Zbp ir, Option.bind_some, c12, cr1, decide_eq_false h3, decide_eq_true h4, Int.toNat_natCast, em, ZfC]
     rw [if_neg (by simp [h4, ltC])]
     have := ih (2 * root + 1) (swp d (first + root) (first + (2 * root + 1))) (by omega) (by omega) (by rw [Z6]; omega) (hd.swp ir i1)
     rw [Z6] at this
     exact this
    ·simp only [ZD, e0, e1, e2, ZfI, ZeZ, decide_eq_false h1, decide_eq_true h2, cond_false, cond_true, ef, ef1, ef2, er, Zbp i1, Zbp i2', Zbp ir, Option.bind_some, c12, cr1, decide_eq_false h3, decide_eq_false h4]
     rw [if_pos (by simp [h4, ltC])]
     exact one rfl (.inr rfl)
  ·rw [if_neg (by simp; omega)]
   by_cases h4 : c d[first + root]! d[first + (2 * root + 1)]! < 0
   ·obtain ⟨y, em⟩ := Ziz (i := first + root) (x := d[first + (2 * root + 1)]!) i1
    simp only [ZD, e0, e1, e2, ZfI, ZeZ, decide_eq_false h1, decide_eq_false h2, cond_false, cond_true, ef, er, Zbp i1, Zbp ir, Option.bind_some, cr1, decide_eq_true h4, Int.toNat_natCast, em, ZfC]
    rw [if_neg (by simp [h4, ltC])]
    have := ih (2 * root + 1) (swp d (first + root) (first + (2 * root + 1))) (by omega) (by omega) (by rw [Z6]; omega) (hd.swp ir i1)
    rw [Z6] at this
    exact this
   ·simp only [ZD, e0, e1, e2, ZfI, ZeZ, decide_eq_false h1, decide_eq_false h2, cond_false, cond_true, ef, er, Zbp i1, Zbp ir, Option.bind_some, cr1, decide_eq_false h4]
    rw [if_pos (by simp [h4, ltC])]
    exact one rfl (.inr rfl)
theorem Zs0 (hi first root : Nat) (d : Array Int) (hr : root ≤ hi) (hs : first + hi ≤ d.size) (hd : OKA P d) : Zas (root : Int) (hi : Int) (first : Int) cmp d.toList = some (siftDown (ltC c) hi first root d).toList ∧ OKA P (siftDown (ltC c) hi first root d) ∧ (siftDown (ltC c) hi first root d).size = d.size := by
 obtain ⟨r, h1, h2, h3⟩ := ZtZ hc hi first _ root d (Nat.le_refl _) hr hs hd
 unfold Zas
 rw [h1]
 rcases h2 with rfl | rfl
 ·exact ⟨rfl, h3⟩
 ·exact ⟨rfl, h3⟩
theorem Zqi (hi first b : Nat) (hb : (b : Int) = first + hi) : ∀ (k : Nat) (d : Array Int), k ≤ hi + 1 → first + hi ≤ d.size → OKA P d → lp (Zaw (first : Int) (b : Int) cmp) ((k : Int) - 1, d.toList) = some (heapBuild (ltC c) hi first k d).toList ∧ OKA P (heapBuild (ltC c) hi first k d) ∧ (heapBuild (ltC c) hi first k d).size = d.size
 | 0, d, hk, hs, hd => by
  rw [Zb8]
  simp only [Zaw, decide_eq_false (show ¬ ((0 : Int) ≤ ((0 : Nat) : Int) - 1) by omega), cond_false]
  exact ⟨rfl, hd, rfl⟩
 | k + 1, d, hk, hs, hd => by
  have hz := hd.sz
  obtain ⟨h1, h2, h3⟩ := Zs0 hc hi first k d (by omega) hs hd
  have ih := Zqi hi first b hb k (siftDown (ltC c) hi first k d) (by omega) (by rw [h3]; exact hs) h2
  have e1 : w64 ((b : Int) - (first : Int)) = (hi : Int) := Zam (by omega) (by omega)
  have e2 : (((k + 1 : Nat) : Int) - 1) = (k : Int) := by omega
  have e3 : w64 ((k : Int) - 1) = (k : Int) - 1 := ZdV (by omega) (by omega)
  rw [Zb8, e2]
  simp only [Zaw, decide_eq_true (show (0 : Int) ≤ (k : Int) by omega), cond_true, e1, h1, Option.bind_some, e3]
  rw [← h3]
  exact ih
theorem Zvg (first : Nat) : ∀ (k : Nat) (d : Array Int), first + k ≤ d.size → OKA P d → lp (Zax (first : Int) cmp) ((k : Int) - 1, d.toList) = some (heapPop (ltC c) first k d).toList ∧ OKA P (heapPop (ltC c) first k d) ∧ (heapPop (ltC c) first k d).size = d.size
 | 0, d, hs, hd => by
  rw [Zb8]
  simp only [Zax, decide_eq_false (show ¬ ((0 : Int) ≤ ((0 : Nat) : Int) - 1) by omega), cond_false]
  exact ⟨rfl, hd, rfl⟩
 | k + 1, d, hs, hd => by
  have hz := hd.sz
  have i1 : first + k < d.size := by omega
  have i2 : first < d.size := by omega
  obtain ⟨h1, h2, h3⟩ := Zs0 hc k first 0 (swp d first (first + k)) (by omega) (by rw [Z6]; omega) (hd.swp i2 i1)
  rw [Z6] at h3
  have ih := Zvg first k (siftDown (ltC c) k first 0 (swp d first (first + k))) (by rw [h3]; omega) h2
  have e2 : (((k + 1 : Nat) : Int) - 1) = (k : Int) := by omega
  have e3 : w64 ((k : Int) - 1) = (k : Int) - 1 := ZdV (by omega) (by omega)
  have e4 : w64 ((first : Int) + (k : Int)) = ((first + k : Nat) : Int) := Zam (by omega) (by omega)
  obtain ⟨y, em⟩ := Ziz (i := first) (x := d[first + k]!) i1
  have h1' : Zas 0 (k : Int) (first : Int) cmp (swp d first (first + k)).toList = _ := h1
  rw [Zb8, e2]
  simp only [Zax, decide_eq_true (show (0 : Int) ≤ (k : Int) by omega), cond_true, e4, Zbp i1, Zbp i2, Option.bind_some, Int.toNat_natCast, em, ZfC, h1', e3]
  rw [← h3]
  exact ih
theorem ZwB (a b : Nat) (d : Array Int) (ha : a ≤ b) (hb : b ≤ d.size) (hd : OKA P d) : Z1 (a : Int) (b : Int) cmp d.toList = some (heapSort (ltC c) d a b).toList ∧ OKA P (heapSort (ltC c) d a b) ∧ (heapSort (ltC c) d a b).size = d.size := by
 have hz := hd.sz
 have e1 : w64 ((b : Int) - (a : Int)) = ((b - a : Nat) : Int) := Zam (by omega) (by omega)
 have e2 : w64 (((b - a : Nat) : Int) - 1) = ((b - a : Nat) : Int) - 1 := ZdV (by omega) (by omega)
 have e3 : w64 (Int.tdiv (((b - a : Nat) : Int) - 1) 2) = (((b - a - 1) / 2 + 1 : Nat) : Int) - 1 := by
  by_cases h : b - a = 0
  ·rw [h]; rfl
  ·rw [Int.tdiv_eq_ediv_of_nonneg (by omega), ZdV (by omega) (by omega)]
   omega
 obtain ⟨h1, h2, h3⟩ := Zqi hc (b - a) a b (by omega) ((b - a - 1) / 2 + 1) d (by omega) (by omega) hd
 obtain ⟨h4, h5, h6⟩ := Zvg hc a (b - a) (heapBuild (ltC c) (b - a) a ((b - a - 1) / 2 + 1) d) (by rw [h3]; omega) h2
 unfold Z1 heapSort
 simp only [e1, e2, e3, h1, h4, Option.bind_some]
 exact ⟨trivial, h5, by rw [h6, h3]⟩
end
end Go.Proofs.YtnmbdjkbaihicaaDoor
namespace Go.Proofs.YtnmbdjkbaihicaaDoor
open Go Go.Proofs.YtnmbdjkbaihicaaDoorE Go.Sort
set_option linter.unusedVariables false
set_option linter.unusedSimpArgs false
theorem Zkw (step : Int → Option (Int ⊕ Int)) (p : Int → Bool) (d : Array Int) (j : Nat) (h : ∀ i : Nat, i ≤ j + 2 → step (i : Int) = some (bif decide (i ≤ j) && p d[i]! then .inl ((i + 1 : Nat) : Int) else .inr (i : Int))) :
  ∀ (k i : Nat), j + 2 - i ≤ k → i ≤ j + 2 → lp step (i : Int) = some ((scanUp p d j i : Nat) : Int) ∧ i ≤ scanUp p d j i ∧ scanUp p d j i ≤ max i (j + 1) := by
 intro k
 induction k with
 | zero =>
  intro i hk hi
  rw [Zb8, h i hi]
  unfold scanUp
  rw [decide_eq_false (show ¬ i ≤ j by omega)]
  simp [show ¬ i ≤ j by omega]
  omega
 | succ k ih =>
  intro i hk hi
  rw [Zb8, h i hi]
  unfold scanUp
  by_cases h1 : i ≤ j
  ·cases h2 : p d[i]! with
   | true =>
    rw [decide_eq_true h1, if_pos (by simp [h1])]
    obtain ⟨a1, a2, a3⟩ := ih (i + 1) (by omega) (by omega)
    exact ⟨a1, by omega, by omega⟩
   | false =>
    rw [decide_eq_true h1, if_neg (by simp)]
    exact ⟨rfl, by omega, by omega⟩
  ·rw [decide_eq_false h1, if_neg (by simp [h1])]
   exact ⟨rfl, by omega, by omega⟩
theorem ZgQ (step : Int → Option (Int ⊕ Int)) (p : Int → Bool) (d : Array Int) (i : Nat) (hi : 1 ≤ i) : ∀ (j : Nat), (∀ k : Nat, k ≤ j → step (k : Int) = some (bif decide (i ≤ k) && p d[k]! then .inl ((k : Int) - 1) else .inr (k : Int))) → lp step (j : Int) = some ((scanDown p d i j : Nat) : Int) ∧ scanDown p d i j ≤ j
 | 0, h => by
  rw [Zb8, h 0 (Nat.le_refl _), decide_eq_false (show ¬ i ≤ 0 by omega)]
  exact ⟨rfl, Nat.le_refl _⟩
 | j + 1, h => by
  rw [Zb8, h (j + 1) (Nat.le_refl _)]
  unfold scanDown
  by_cases h1 : i ≤ j + 1
  ·cases h2 : p d[j + 1]! with
   | true =>
    rw [decide_eq_true h1, if_pos (by simp [h1])]
    have ih := ZgQ step p d i hi j (fun k hk => h k (by omega))
    have e : (((j + 1 : Nat) : Int) - 1) = (j : Int) := by omega
    simp only [Bool.and_self, cond_true, e]
    exact ⟨ih.1, by omega⟩
   | false =>
    rw [decide_eq_true h1, if_neg (by simp)]
    exact ⟨rfl, Nat.le_refl _⟩
  ·rw [decide_eq_false h1, if_neg (by simp [h1])]
   exact ⟨rfl, Nat.le_refl _⟩
section
variable {cmp : Int → Int → Option Int} {c : Int → Int → Int} {P : Int → Prop} (hc : ZoF cmp c P)
include hc
theorem Zrl (a : Nat) : ∀ (k i j : Nat) (d : Array Int), j + 3 - i ≤ k → 1 ≤ i → i ≤ j + 2 → j < d.size → a < d.size → OKA P d →
  lp (ZaJ (a : Int) cmp) ((i : Int), (j : Int), d.toList) = some (((partLoop (ltC c) a i j d).1 : Int), (partLoop (ltC c) a i j d).2.toList) ∧ OKA P (partLoop (ltC c) a i j d).2 ∧ (partLoop (ltC c) a i j d).2.size = d.size ∧ (partLoop (ltC c) a i j d).1 ≤ j := by
 intro k
 induction k with
 | zero =>
  intro i j d hk h1 h2 hj ha hd
  exact absurd hk (by omega)
 | succ k ih =>
  intro i j d hk h1 h2 hj ha hd
  have hz := hd.sz
  obtain ⟨u1, u2, u3⟩ := Zkw (Zao (a : Int) cmp ((i : Int), (j : Int), d.toList)) (fun x => ltC c x d[a]!) d j (fun m hm => by
    by_cases hmj : m ≤ j
    ·have im : m < d.size := by omega
     simp only [Zao, ZfI, decide_eq_true hmj, cond_true, Zbp im, Zbp ha, Option.bind_some, hc _ _ (hd.el _ im) (hd.el _ ha), ltC, Bool.true_and, Zag (show m < j + 1 by omega) (by omega)]
     cases decide (c d[m]! d[a]! < 0) <;> rfl
    ·simp only [Zao, ZfI, decide_eq_false hmj, cond_false, Bool.false_and]) (j + 2 - i) i (Nat.le_refl _) h2
  generalize hi2 : scanUp (fun x => ltC c x d[a]!) d j i = i2 at u1 u2 u3
  obtain ⟨v1, v2⟩ := ZgQ (Zap (a : Int) cmp ((i : Int), (j : Int), d.toList) (i2 : Int)) (fun x => !ltC c x d[a]!) d i2 (by omega) j (fun m hm => by
    have im : m < d.size := by omega
    by_cases hmi : i2 ≤ m
    ·simp only [Zap, ZfI, decide_eq_true hmi, cond_true, Zbp im, Zbp ha, Option.bind_some, hc _ _ (hd.el _ im) (hd.el _ ha), ltC, Bool.true_and, ZdV (show -9223372036854775808 ≤ (m : Int) - 1 by omega) (by omega)]
     cases decide (c d[m]! d[a]! < 0) <;> rfl
    ·simp only [Zap, ZfI, decide_eq_false hmi, cond_false, Bool.false_and])
  generalize hj2 : scanDown (fun x => !ltC c x d[a]!) d i2 j = j2 at v1 v2
  rw [Zb8]
  unfold partLoop
  simp only [ZaJ, u1, v1, Option.bind_some, ZeZ, hi2, hj2]
  by_cases hij : j2 < i2
  ·rw [decide_eq_true hij, if_pos hij]
   exact ⟨rfl, hd, rfl, v2⟩
  ·have k1 : i2 < d.size := by omega
   have k2 : j2 < d.size := by omega
   obtain ⟨y, em⟩ := Ziz (i := i2) (x := d[j2]!) k2
   have e1 : w64 ((i2 : Int) + 1) = ((i2 + 1 : Nat) : Int) := Zam (by omega) (by omega)
   have e2 : w64 ((j2 : Int) - 1) = ((j2 - 1 : Nat) : Int) := Zam (by omega) (by omega)
   rw [decide_eq_false hij, if_neg hij, dif_pos (by omega)]
   simp only [cond_false, Zbp k1, Zbp k2, Option.bind_some, Int.toNat_natCast, em, ZfC, e1, e2]
   obtain ⟨q1, q2, q3, q4⟩ := ih (i2 + 1) (j2 - 1) (swp d i2 j2) (by omega) (by omega) (by omega) (by rw [Z6]; omega) (by rw [Z6]; exact ha) (hd.swp k1 k2)
   rw [Z6] at q3
   exact ⟨q1, q2, q3, by omega⟩
theorem Zt7 (a b pivot : Nat) (d : Array Int) (h1 : a ≤ pivot) (h2 : pivot < b) (hb : b ≤ d.size) (hd : OKA P d) :
  Zn (a : Int) (b : Int) (pivot : Int) cmp d.toList = some (bif (partition (ltC c) d a b pivot).2.1 then .inl (((partition (ltC c) d a b pivot).1 : Int), (partition (ltC c) d a b pivot).2.2.toList) else .inr (((partition (ltC c) d a b pivot).1 : Int), (partition (ltC c) d a b pivot).2.2.toList)) ∧
  OKA P (partition (ltC c) d a b pivot).2.2 ∧ (partition (ltC c) d a b pivot).2.2.size = d.size := by
 have hz := hd.sz
 have ip : pivot < d.size := by omega
 have ia : a < d.size := by omega
 have hd1 := hd.swp ia ip
 have s1 := Z6 d a pivot
 obtain ⟨y, em⟩ := Ziz (i := a) (x := d[pivot]!) ip
 have e1 : w64 ((a : Int) + 1) = ((a + 1 : Nat) : Int) := Zam (by omega) (by omega)
 have e2 : w64 ((b : Int) - 1) = ((b - 1 : Nat) : Int) := Zam (by omega) (by omega)
 have sw := ZfC d a pivot
 have ia1 : a < (swp d a pivot).size := by omega
 obtain ⟨u1, u2, u3⟩ := Zkw (Zar (a : Int) (b : Int) (pivot : Int) d.toList cmp d[pivot]! d[a]!) (fun x => ltC c x (swp d a pivot)[a]!) (swp d a pivot) (b - 1) (fun m hm => by
   by_cases hmj : m ≤ b - 1
   ·have im : m < (swp d a pivot).size := by omega
    simp only [Zar, e2, ZfI, decide_eq_true hmj, cond_true, Int.toNat_natCast, sw, Zbp im, Zbp ia1, Option.bind_some, hc _ _ (hd1.el _ im) (hd1.el _ ia1), ltC, Bool.true_and, Zag (show m < b by omega) (by omega)]
    cases decide (c (swp d a pivot)[m]! (swp d a pivot)[a]! < 0) <;> rfl
   ·simp only [Zar, e2, ZfI, decide_eq_false hmj, cond_false, Bool.false_and]) (b - 1 + 2 - (a + 1)) (a + 1) (Nat.le_refl _) (by omega)
 generalize hi2 : scanUp (fun x => ltC c x (swp d a pivot)[a]!) (swp d a pivot) (b - 1) (a + 1) = i2 at u1 u2 u3
 obtain ⟨v1, v2⟩ := ZgQ (Zaq (a : Int) (pivot : Int) d.toList cmp d[pivot]! d[a]! (i2 : Int)) (fun x => !ltC c x (swp d a pivot)[a]!) (swp d a pivot) i2 (by omega) (b - 1) (fun m hm => by
   have im : m < (swp d a pivot).size := by omega
   by_cases hmi : i2 ≤ m
   ·simp only [Zaq, ZfI, decide_eq_true hmi, cond_true, Int.toNat_natCast, sw, Zbp im, Zbp ia1, Option.bind_some, hc _ _ (hd1.el _ im) (hd1.el _ ia1), ltC, Bool.true_and, ZdV (show -9223372036854775808 ≤ (m : Int) - 1 by omega) (by omega)]
    cases decide (c (swp d a pivot)[m]! (swp d a pivot)[a]! < 0) <;> rfl
   ·simp only [Zaq, ZfI, decide_eq_false hmi, cond_false, Bool.false_and])
 generalize hj2 : scanDown (fun x => !ltC c x (swp d a pivot)[a]!) (swp d a pivot) i2 (b - 1) = j2 at v1 v2
 unfold Zn partition
 simp only [Zbp ip, Zbp ia, Option.bind_some, Int.toNat_natCast, em, e1, e2, u1, v1, ZeZ, sw, hi2, hj2]
 have kj : j2 < (swp d a pivot).size := by omega
 by_cases hij : j2 < i2
 ·obtain ⟨y2, em2⟩ := Ziz (i := j2) (x := (swp d a pivot)[a]!) ia1
  rw [decide_eq_true hij, if_pos hij]
  simp only [cond_true, Zbp ia1, Zbp kj, Option.bind_some, Int.toNat_natCast, em2, ZfC]
  exact ⟨trivial, hd1.swp kj ia1, by rw [Z6, s1]⟩
 ·have ki : i2 < (swp d a pivot).size := by omega
  obtain ⟨y2, em2⟩ := Ziz (i := i2) (x := (swp d a pivot)[j2]!) kj
  have e3 : w64 ((i2 : Int) + 1) = ((i2 + 1 : Nat) : Int) := Zam (by omega) (by omega)
  have e4 : w64 ((j2 : Int) - 1) = ((j2 - 1 : Nat) : Int) := Zam (by omega) (by omega)
  obtain ⟨q1, q2, q3, q4⟩ := Zrl hc a (j2 - 1 + 3 - (i2 + 1)) (i2 + 1) (j2 - 1) (swp (swp d a pivot) i2 j2) (by omega) (by omega) (by omega) (by rw [Z6]; omega) (by rw [Z6]; exact ia1) (hd1.swp ki kj)
  rw [Z6, s1] at q3
  rw [decide_eq_false hij, if_neg hij]
  simp only [cond_false, Zbp ki, Zbp kj, Option.bind_some, Int.toNat_natCast, em2, ZfC, e3, e4, q1]
  generalize partLoop (ltC c) a (i2 + 1) (j2 - 1) (swp (swp d a pivot) i2 j2) = r at *
  have kr : r.1 < r.2.size := by omega
  have kr2 : a < r.2.size := by omega
  obtain ⟨y3, em3⟩ := Ziz (i := r.1) (x := r.2[a]!) kr2
  simp only [Zbp kr, Zbp kr2, Option.bind_some, em3, ZfC]
  exact ⟨trivial, q2.swp kr kr2, by rw [Z6, q3]⟩
theorem ZoP (a : Nat) : ∀ (k i j : Nat) (d : Array Int), j + 3 - i ≤ k → 1 ≤ i → i ≤ j + 2 → j < d.size → a < d.size → OKA P d →
  lp (Zan (a : Int) cmp) ((i : Int), (j : Int), d.toList) = some (((partEqLoop (ltC c) a i j d).1 : Int), (partEqLoop (ltC c) a i j d).2.toList) ∧ OKA P (partEqLoop (ltC c) a i j d).2 ∧ (partEqLoop (ltC c) a i j d).2.size = d.size ∧ i ≤ (partEqLoop (ltC c) a i j d).1 ∧ (partEqLoop (ltC c) a i j d).1 ≤ max i (j + 1) := by
 intro k
 induction k with
 | zero =>
  intro i j d hk h1 h2 hj ha hd
  exact absurd hk (by omega)
 | succ k ih =>
  intro i j d hk h1 h2 hj ha hd
  have hz := hd.sz
  obtain ⟨u1, u2, u3⟩ := Zkw (Z8 (a : Int) cmp ((i : Int), (j : Int), d.toList)) (fun x => !ltC c d[a]! x) d j (fun m hm => by
    by_cases hmj : m ≤ j
    ·have im : m < d.size := by omega
     simp only [Z8, ZfI, decide_eq_true hmj, cond_true, Zbp im, Zbp ha, Option.bind_some, hc _ _ (hd.el _ ha) (hd.el _ im), ltC, Bool.true_and, Zag (show m < j + 1 by omega) (by omega)]
     cases decide (c d[a]! d[m]! < 0) <;> rfl
    ·simp only [Z8, ZfI, decide_eq_false hmj, cond_false, Bool.false_and]) (j + 2 - i) i (Nat.le_refl _) h2
  generalize hi2 : scanUp (fun x => !ltC c d[a]! x) d j i = i2 at u1 u2 u3
  obtain ⟨v1, v2⟩ := ZgQ (Z7 (a : Int) cmp ((i : Int), (j : Int), d.toList) (i2 : Int)) (fun x => ltC c d[a]! x) d i2 (by omega) j (fun m hm => by
    have im : m < d.size := by omega
    by_cases hmi : i2 ≤ m
    ·simp only [Z7, ZfI, decide_eq_true hmi, cond_true, Zbp im, Zbp ha, Option.bind_some, hc _ _ (hd.el _ ha) (hd.el _ im), ltC, Bool.true_and, ZdV (show -9223372036854775808 ≤ (m : Int) - 1 by omega) (by omega)]
     cases decide (c d[a]! d[m]! < 0) <;> rfl
    ·simp only [Z7, ZfI, decide_eq_false hmi, cond_false, Bool.false_and])
  generalize hj2 : scanDown (fun x => ltC c d[a]! x) d i2 j = j2 at v1 v2
  rw [Zb8]
  unfold partEqLoop
  simp only [Zan, u1, v1, Option.bind_some, ZeZ, hi2, hj2]
  by_cases hij : j2 < i2
  ·rw [decide_eq_true hij, if_pos hij]
   exact ⟨rfl, hd, rfl, u2, u3⟩
  ·have k1 : i2 < d.size := by omega
   have k2 : j2 < d.size := by omega
   obtain ⟨y, em⟩ := Ziz (i := i2) (x := d[j2]!) k2
   have e1 : w64 ((i2 : Int) + 1) = ((i2 + 1 : Nat) : Int) := Zam (by omega) (by omega)
   have e2 : w64 ((j2 : Int) - 1) = ((j2 - 1 : Nat) : Int) := Zam (by omega) (by omega)
   rw [decide_eq_false hij, if_neg hij, dif_pos (by omega)]
   simp only [cond_false, Zbp k1, Zbp k2, Option.bind_some, Int.toNat_natCast, em, ZfC, e1, e2]
   obtain ⟨q1, q2, q3, q4, q5⟩ := ih (i2 + 1) (j2 - 1) (swp d i2 j2) (by omega) (by omega) (by omega) (by rw [Z6]; omega) (by rw [Z6]; exact ha) (hd.swp k1 k2)
   rw [Z6] at q3
   exact ⟨q1, q2, q3, by omega, by omega⟩
theorem Zsf (a b pivot : Nat) (d : Array Int) (h1 : a ≤ pivot) (h2 : pivot < b) (hb : b ≤ d.size) (hd : OKA P d) :
  Zz (a : Int) (b : Int) (pivot : Int) cmp d.toList = some (((partitionEqual (ltC c) d a b pivot).1 : Int), (partitionEqual (ltC c) d a b pivot).2.toList) ∧ OKA P (partitionEqual (ltC c) d a b pivot).2 ∧ (partitionEqual (ltC c) d a b pivot).2.size = d.size ∧ a < (partitionEqual (ltC c) d a b pivot).1 ∧ (partitionEqual (ltC c) d a b pivot).1 ≤ b := by
 have hz := hd.sz
 have ip : pivot < d.size := by omega
 have ia : a < d.size := by omega
 obtain ⟨y, em⟩ := Ziz (i := a) (x := d[pivot]!) ip
 have e1 : w64 ((a : Int) + 1) = ((a + 1 : Nat) : Int) := Zam (by omega) (by omega)
 have e2 : w64 ((b : Int) - 1) = ((b - 1 : Nat) : Int) := Zam (by omega) (by omega)
 obtain ⟨q1, q2, q3, q4, q5⟩ := ZoP hc a (b - 1 + 3 - (a + 1)) (a + 1) (b - 1) (swp d a pivot) (by omega) (by omega) (by omega) (by rw [Z6]; omega) (by rw [Z6]; omega) (hd.swp ia ip)
 rw [Z6] at q3
 unfold Zz partitionEqual
 simp only [Zbp ip, Zbp ia, Option.bind_some, Int.toNat_natCast, em, e1, e2, ZfC, q1]
 exact ⟨trivial, q2, q3, by omega, by omega⟩
end
end Go.Proofs.YtnmbdjkbaihicaaDoor
namespace Go.Proofs.YtnmbdjkbaihicaaDoor
open Go Go.Proofs.YtnmbdjkbaihicaaDoorE Go.Sort
set_option linter.unusedVariables false
set_option linter.unusedSimpArgs false
theorem Zxa : Zal = ZB := rfl
def ZlB : Hint → Int
 | .unknown => 0
 | .increasing => 1
 | .decreasing => 2
theorem ZsD (p : Int × Int) (n : Nat) (x : Int) (h : p.2 = (n : Int)) (hx : p.1 = x) : (bif p.2 == 0 then some (p.1, (1 : Int)) else bif p.2 == 12 then some (p.1, 2) else some (p.1, 0)) = some (x, ZlB (if n = 0 then Hint.increasing else if n = 12 then .decreasing else .unknown)) := by
 rw [h, hx]
 by_cases h0 : n = 0
 ·subst h0; rfl
 ·by_cases h1 : n = 12
  ·subst h1; rfl
  ·rw [show ((n : Int) == 0) = false by simpa using h0, show ((n : Int) == 12) = false by simp; omega, if_neg h0, if_neg h1]
   rfl
section
variable {cmp : Int → Int → Option Int} {c : Int → Int → Int} {P : Int → Prop} (hc : ZoF cmp c P)
include hc
theorem Zu2 : ∀ (j : Nat) (d : Array Int), OKA P d → j < d.size → lp (ZL cmp) ((j : Int), d.toList) = some (shiftDown (ltC c) j d).toList ∧ OKA P (shiftDown (ltC c) j d) ∧ (shiftDown (ltC c) j d).size = d.size
 | 0, d, hd, hj => by
  rw [Zb8]
  simp only [ZL, decide_eq_false (show ¬ ((1 : Int) ≤ ((0 : Nat) : Int)) by omega), cond_false]
  exact ⟨rfl, hd, rfl⟩
 | j + 1, d, hd, hj => by
  have hj' : j < d.size := by omega
  have hz := hd.sz
  rw [Zb8]
  have e2 : w64 (((j + 1 : Nat) : Int) - 1) = (j : Int) := Zam (by omega) (by omega)
  have e3 := hc _ _ (hd.el (j + 1) hj) (hd.el j hj')
  unfold shiftDown
  by_cases h2 : c d[j + 1]! d[j]! < 0
  ·obtain ⟨y, e5⟩ := Ziz (i := j + 1) (x := d[j]!) hj'
   simp only [ZL, decide_eq_true (show (1 : Int) ≤ ((j + 1 : Nat) : Int) by omega), cond_true, Zbp hj, e2, Zbp hj', Option.bind_some, e3, decide_eq_true h2, Int.toNat_natCast, e5, ZfC]
   rw [if_neg (by simp [h2, ltC])]
   have ih := Zu2 j (swp d (j + 1) j) (hd.swp hj hj') (by rw [Z6]; omega)
   rw [Z6] at ih
   exact ih
  ·simp only [ZL, decide_eq_true (show (1 : Int) ≤ ((j + 1 : Nat) : Int) by omega), cond_true, Zbp hj, e2, Zbp hj', Option.bind_some, e3, decide_eq_false h2, cond_false]
   rw [if_pos (by simp [h2, ltC])]
   exact ⟨rfl, hd, rfl⟩
theorem ZuW (b : Nat) : ∀ (k j : Nat) (d : Array Int), b - j ≤ k → 1 ≤ j → b ≤ d.size → OKA P d → lp (ZB (b : Int) cmp) ((j : Int), d.toList) = some (shiftUp (ltC c) b j d).toList ∧ OKA P (shiftUp (ltC c) b j d) ∧ (shiftUp (ltC c) b j d).size = d.size := by
 intro k
 induction k with
 | zero =>
  intro j d hk hj hb hd
  rw [Zb8]
  unfold shiftUp
  simp only [ZB, ZeZ, decide_eq_false (show ¬ j < b by omega), cond_false]
  rw [if_neg (by omega)]
  exact ⟨rfl, hd, rfl⟩
 | succ k ih =>
  intro j d hk hj hb hd
  have hz := hd.sz
  rw [Zb8]
  unfold shiftUp
  by_cases h1 : j < b
  ·have i1 : j < d.size := by omega
   have i2 : j - 1 < d.size := by omega
   have e2 : w64 ((j : Int) - 1) = ((j - 1 : Nat) : Int) := Zam (by omega) (by omega)
   have e3 := hc _ _ (hd.el j i1) (hd.el (j - 1) i2)
   rw [if_pos h1]
   by_cases h2 : c d[j]! d[j - 1]! < 0
   ·obtain ⟨y, e5⟩ := Ziz (i := j) (x := d[j - 1]!) i2
    simp only [ZB, ZeZ, decide_eq_true h1, cond_true, Zbp i1, e2, Zbp i2, Option.bind_some, e3, decide_eq_true h2, Int.toNat_natCast, e5, ZfC, Zag h1 (by omega)]
    rw [if_neg (by simp [h2, ltC])]
    have := ih (j + 1) (swp d j (j - 1)) (by omega) (by omega) (by rw [Z6]; exact hb) (hd.swp i1 i2)
    rw [Z6] at this
    exact this
   ·simp only [ZB, ZeZ, decide_eq_true h1, cond_true, Zbp i1, e2, Zbp i2, Option.bind_some, e3, decide_eq_false h2, cond_false]
    rw [if_pos (by simp [h2, ltC])]
    exact ⟨rfl, hd, rfl⟩
  ·simp only [ZB, ZeZ, decide_eq_false h1, cond_false]
   rw [if_neg h1]
   exact ⟨rfl, hd, rfl⟩
theorem Ztj (b : Nat) (z : Int) (d : Array Int) (hb : b ≤ d.size) (hd : OKA P d) (y1 y2 : Int) : ∀ (k i : Nat), b - i ≤ k → 1 ≤ i → i ≤ b → lp (ZE (b : Int) cmp (y1, y2, d.toList)) (i : Int) = some ((scanSorted (ltC c) d b i : Nat) : Int) ∧ i ≤ scanSorted (ltC c) d b i ∧ scanSorted (ltC c) d b i ≤ b := by
 have hz := hd.sz
 intro k
 induction k with
 | zero =>
  intro i hk hi hib
  rw [Zb8]
  unfold scanSorted
  simp only [ZE, ZeZ, decide_eq_false (show ¬ i < b by omega), cond_false]
  rw [if_neg (by simp [show ¬ i < b by omega])]
  exact ⟨rfl, Nat.le_refl _, hib⟩
 | succ k ih =>
  intro i hk hi hib
  rw [Zb8]
  unfold scanSorted
  by_cases h1 : i < b
  ·have i1 : i < d.size := by omega
   have i2 : i - 1 < d.size := by omega
   have e2 : w64 ((i : Int) - 1) = ((i - 1 : Nat) : Int) := Zam (by omega) (by omega)
   have e3 := hc _ _ (hd.el i i1) (hd.el (i - 1) i2)
   by_cases h2 : c d[i]! d[i - 1]! < 0
   ·simp only [ZE, ZeZ, decide_eq_true h1, cond_true, Zbp i1, e2, Zbp i2, Option.bind_some, e3, decide_eq_true h2]
    rw [if_neg (by simp [h2, ltC])]
    exact ⟨rfl, Nat.le_refl _, hib⟩
   ·simp only [ZE, ZeZ, decide_eq_true h1, cond_true, Zbp i1, e2, Zbp i2, Option.bind_some, e3, decide_eq_false h2, cond_false, Zag h1 (by omega)]
    rw [if_pos (by simp [h1, h2, ltC])]
    obtain ⟨a1, a2, a3⟩ := ih (i + 1) (by omega) (by omega) (by omega)
    exact ⟨a1, by omega, a3⟩
  ·simp only [ZE, ZeZ, decide_eq_false h1, cond_false]
   rw [if_neg (by simp [h1])]
   exact ⟨rfl, Nat.le_refl _, hib⟩
theorem Zsv (a b : Nat) : ∀ (s i : Nat) (d : Array Int), s ≤ 5 → a < i → i ≤ b → b ≤ d.size → OKA P d →
  ∃ r, lp (ZM (a : Int) (b : Int) cmp) ((i : Int), ((5 - s : Nat) : Int), d.toList) = some r ∧ (match r with | .inl l => l = (partialIns (ltC c) a b s i d).1.toList ∧ (partialIns (ltC c) a b s i d).2 = true | .inr (.inl l) => l = (partialIns (ltC c) a b s i d).1.toList ∧ (partialIns (ltC c) a b s i d).2 = false | .inr (.inr l) => l = (partialIns (ltC c) a b s i d).1.toList ∧ (partialIns (ltC c) a b s i d).2 = false) ∧
   OKA P (partialIns (ltC c) a b s i d).1 ∧ (partialIns (ltC c) a b s i d).1.size = d.size
 | 0, i, d, hs, ha, hi, hb, hd => by
  rw [Zb8]
  simp only [ZM, decide_eq_false (show ¬ (((5 - 0 : Nat) : Int) < 5) by omega), cond_false]
  exact ⟨_, rfl, by simp [partialIns], by first | exact hd | (simpa [partialIns] using hd), by first | rfl | simp [partialIns]⟩
 | s + 1, i, d, hs, ha, hi, hb, hd => by
  have hz := hd.sz
  obtain ⟨u1, u2, u3⟩ := Ztj hc b 0 d hb hd (i : Int) ((5 - (s + 1) : Nat) : Int) (b - i) i (Nat.le_refl _) (by omega) hi
  rw [Zb8]
  unfold partialIns
  generalize hi2 : scanSorted (ltC c) d b i = i2 at u1 u2 u3 ⊢
  simp only [ZM, decide_eq_true (show (((5 - (s + 1) : Nat) : Int) < 5) by omega), cond_true, u1, Option.bind_some]
  by_cases h1 : i2 = b
  ·rw [show ((i2 : Int) == (b : Int)) = true by simp [h1], if_pos h1]
   exact ⟨_, rfl, by simp [partialIns], by first | exact hd | (simpa [partialIns] using hd), by first | rfl | simp [partialIns]⟩
  ·have e1 : w64 ((b : Int) - (a : Int)) = ((b - a : Nat) : Int) := Zam (by omega) (by omega)
   rw [show ((i2 : Int) == (b : Int)) = false by simpa using (show ¬ (i2 : Int) = (b : Int) by omega), if_neg h1]
   by_cases h2 : b - a < 50
   ·rw [if_pos h2]
    simp only [cond_false, e1, decide_eq_true (show ((b - a : Nat) : Int) < 50 by omega), cond_true]
    exact ⟨_, rfl, by simp [partialIns], by first | exact hd | (simpa [partialIns] using hd), by first | rfl | simp [partialIns]⟩
   ·rw [if_neg h2]
    have i1 : i2 < d.size := by omega
    have i3 : i2 - 1 < d.size := by omega
    have e2 : w64 ((i2 : Int) - 1) = ((i2 - 1 : Nat) : Int) := Zam (by omega) (by omega)
    have e3 : w64 ((i2 : Int) - (a : Int)) = ((i2 - a : Nat) : Int) := Zam (by omega) (by omega)
    have e4 : w64 ((b : Int) - (i2 : Int)) = ((b - i2 : Nat) : Int) := Zam (by omega) (by omega)
    have e5 : w64 ((i2 : Int) + 1) = ((i2 + 1 : Nat) : Int) := Zam (by omega) (by omega)
    have e6 : w64 (((5 - (s + 1) : Nat) : Int) + 1) = ((5 - s : Nat) : Int) := Zam (by omega) (by omega)
    obtain ⟨y, em⟩ := Ziz (i := i2) (x := d[i2 - 1]!) i3
    have hd2 := hd.swp i1 i3
    simp only [cond_false, e1, decide_eq_false (show ¬ ((b - a : Nat) : Int) < 50 by omega), e2, Zbp i1, Zbp i3, Option.bind_some, Int.toNat_natCast, em, ZfC, e3, e4, e5, e6, Zxa]
    have n2 : ∀ n : Nat, decide ((2 : Int) ≤ (n : Int)) = decide (n ≥ 2) := fun n => decide_eq_decide.2 (by omega)
    rw [n2, n2]
    have go : ∀ d' : Array Int, OKA P d' → d'.size = d.size → ∃ r, lp (ZM (a : Int) (b : Int) cmp) ((i2 : Int), ((5 - s : Nat) : Int), d'.toList) = some r ∧ (match r with | .inl l => l = (partialIns (ltC c) a b s i2 d').1.toList ∧ (partialIns (ltC c) a b s i2 d').2 = true | .inr (.inl l) => l = (partialIns (ltC c) a b s i2 d').1.toList ∧ (partialIns (ltC c) a b s i2 d').2 = false | .inr (.inr l) => l = (partialIns (ltC c) a b s i2 d').1.toList ∧ (partialIns (ltC c) a b s i2 d').2 = false) ∧
      OKA P (partialIns (ltC c) a b s i2 d').1 ∧ (partialIns (ltC c) a b s i2 d').1.size = d.size := fun d' h h' => by
     have := Zsv a b s i2 d' (by omega) (by omega) u3 (by omega) h
     rw [h'] at this
     exact this
    by_cases h3 : i2 - a ≥ 2
    ·obtain ⟨v1, v2, v3⟩ := Zu2 hc (i2 - 1) (swp d i2 (i2 - 1)) hd2 (by rw [Z6]; exact i3)
     rw [Z6] at v3
     rw [decide_eq_true h3, if_pos h3]
     simp only [cond_true, v1, Option.bind_some]
     by_cases h4 : b - i2 ≥ 2
     ·obtain ⟨w1, w2, w3⟩ := ZuW hc b (b - (i2 + 1)) (i2 + 1) (shiftDown (ltC c) (i2 - 1) (swp d i2 (i2 - 1))) (Nat.le_refl _) (by omega) (by omega) v2
      rw [decide_eq_true h4, if_pos h4]
      simp only [cond_true, w1, Option.bind_some]
      exact go _ w2 (by omega)
     ·rw [decide_eq_false h4, if_neg h4]
      exact go _ v2 v3
    ·rw [decide_eq_false h3, if_neg h3]
     simp only [cond_false]
     by_cases h4 : b - i2 ≥ 2
     ·obtain ⟨w1, w2, w3⟩ := ZuW hc b (b - (i2 + 1)) (i2 + 1) (swp d i2 (i2 - 1)) (Nat.le_refl _) (by omega) (by rw [Z6]; omega) hd2
      rw [Z6] at w3
      rw [decide_eq_true h4, if_pos h4]
      simp only [cond_true, w1, Option.bind_some]
      exact go _ w2 w3
     ·rw [decide_eq_false h4, if_neg h4]
      exact go _ hd2 (Z6 _ _ _)
theorem Zu7 (a b : Nat) (d : Array Int) (h1 : a < b) (hb : b ≤ d.size) (hd : OKA P d) :
  ZH (a : Int) (b : Int) cmp d.toList = some (bif (partialInsertionSort (ltC c) d a b).2 then .inl (partialInsertionSort (ltC c) d a b).1.toList else .inr (partialInsertionSort (ltC c) d a b).1.toList) ∧ OKA P (partialInsertionSort (ltC c) d a b).1 ∧ (partialInsertionSort (ltC c) d a b).1.size = d.size := by
 have hz := hd.sz
 obtain ⟨r, e, h2, h3⟩ := Zsv hc a b 5 (a + 1) d (Nat.le_refl _) (by omega) (by omega) hb hd
 unfold ZH partialInsertionSort
 have e0 : ((5 - 5 : Nat) : Int) = 0 := rfl
 rw [e0] at e
 rw [Zam (n := a + 1) (by omega) (by omega), e]
 refine ⟨?_, h3⟩
 rcases r with l | l | l
 ·obtain ⟨rfl, h⟩ := h2; rw [h]; rfl
 ·obtain ⟨rfl, h⟩ := h2; rw [h]; rfl
 ·obtain ⟨rfl, h⟩ := h2; rw [h]; rfl
theorem ZrR (d : Array Int) (hd : OKA P d) (a b n : Nat) (ha : a < d.size) (hb : b < d.size) (hn : n < 1000) : ZaB (a : Int) (b : Int) cmp d.toList (n : Int) = some (((order2 (ltC c) d a b n).1 : Int), ((order2 (ltC c) d a b n).2.1 : Int), ((order2 (ltC c) d a b n).2.2 : Int)) ∧
  (order2 (ltC c) d a b n).1 < d.size ∧ (order2 (ltC c) d a b n).2.1 < d.size ∧ (order2 (ltC c) d a b n).2.2 ≤ n + 1 := by
 unfold ZaB order2
 simp only [Zbp ha, Zbp hb, Option.bind_some, hc _ _ (hd.el b hb) (hd.el a ha)]
 by_cases h : c d[b]! d[a]! < 0
 ·rw [if_pos (by simp [h, ltC]), decide_eq_true h, Zam (n := n + 1) (by omega) (by omega)]
  exact ⟨rfl, hb, ha, Nat.le_refl _⟩
 ·rw [if_neg (by simp [h, ltC]), decide_eq_false h]
  exact ⟨rfl, ha, hb, Nat.le_succ _⟩
theorem Zsl (d : Array Int) (hd : OKA P d) (i j k n : Nat) (hi : i < d.size) (hj : j < d.size) (hk : k < d.size) (hn : n < 990) : ZaC (i : Int) (j : Int) (k : Int) cmp d.toList (n : Int) = some (((median (ltC c) d i j k n).1 : Int), ((median (ltC c) d i j k n).2 : Int)) ∧ (median (ltC c) d i j k n).1 < d.size ∧ (median (ltC c) d i j k n).2 ≤ n + 3 := by
 obtain ⟨a1, a2, a3, a4⟩ := ZrR hc d hd i j n hi hj (by omega)
 obtain ⟨b1, b2, b3, b4⟩ := ZrR hc d hd (order2 (ltC c) d i j n).2.1 k (order2 (ltC c) d i j n).2.2 a3 hk (by omega)
 obtain ⟨c1, c2, c3, c4⟩ := ZrR hc d hd (order2 (ltC c) d i j n).1 (order2 (ltC c) d (order2 (ltC c) d i j n).2.1 k (order2 (ltC c) d i j n).2.2).1 (order2 (ltC c) d (order2 (ltC c) d i j n).2.1 k (order2 (ltC c) d i j n).2.2).2.2 a2 b2 (by omega)
 unfold ZaC median
 simp only [a1, b1, c1, Option.bind_some]
 exact ⟨trivial, c3, by omega⟩
theorem Ztg (d : Array Int) (hd : OKA P d) (i n : Nat) (h1 : 1 ≤ i) (hi : i + 1 < d.size) (hn : n < 990) : Z2 (i : Int) cmp d.toList (n : Int) = some (((medianAdjacent (ltC c) d i n).1 : Int), ((medianAdjacent (ltC c) d i n).2 : Int)) ∧ (medianAdjacent (ltC c) d i n).1 < d.size ∧ (medianAdjacent (ltC c) d i n).2 ≤ n + 3 := by
 have hz := hd.sz
 obtain ⟨a1, a2⟩ := Zsl hc d hd (i - 1) i (i + 1) n (by omega) (by omega) hi hn
 unfold Z2 medianAdjacent
 rw [Zam (n := i - 1) (by omega) (by omega), Zam (n := i + 1) (by omega) (by omega), a1]
 exact ⟨rfl, a2⟩
theorem Zvc (a b : Nat) (d : Array Int) (hab : a < b) (hb : b ≤ d.size) (hd : OKA P d) : ZG (a : Int) (b : Int) cmp d.toList = some (((choosePivot (ltC c) d a b).1 : Int), ZlB (choosePivot (ltC c) d a b).2) := by
 have hz := hd.sz
 have e1 : w64 ((b : Int) - (a : Int)) = ((b - a : Nat) : Int) := Zam (by omega) (by omega)
 have e2 : w64 (Int.tdiv ((b - a : Nat) : Int) 4) = (((b - a) / 4 : Nat) : Int) := by
  rw [Int.tdiv_eq_ediv_of_nonneg (by omega)]
  exact Zam (by omega) (by omega)
 have q : ∀ m : Nat, m ≤ 3 → w64 ((((b - a) / 4 : Nat) : Int) * (m : Int)) = (((b - a) / 4 * m : Nat) : Int) := fun m hm => by
  refine Zam (by rw [Int.natCast_mul]) ?_
  have : (b - a) / 4 * m ≤ (b - a) / 4 * 3 := Nat.mul_le_mul_left _ hm
  omega
 have q1 := q 1 (by omega)
 have q2 := q 2 (by omega)
 have q3 := q 3 (by omega)
 have p : ∀ m : Nat, m ≤ 3 → w64 ((a : Int) + (((b - a) / 4 * m : Nat) : Int)) = ((a + (b - a) / 4 * m : Nat) : Int) := fun m hm => by
  refine Zam (by omega) ?_
  have : (b - a) / 4 * m ≤ (b - a) / 4 * 3 := Nat.mul_le_mul_left _ hm
  omega
 have p1 := p 1 (by omega)
 have p2 := p 2 (by omega)
 have p3 := p 3 (by omega)
 unfold ZG choosePivot
 have q1' : w64 ((((b - a) / 4 : Nat) : Int) * 1) = _ := q1
 have q2' : w64 ((((b - a) / 4 : Nat) : Int) * 2) = _ := q2
 have q3' : w64 ((((b - a) / 4 : Nat) : Int) * 3) = _ := q3
 simp only [e1, e2, q1', q2', q3', p1, p2, p3]
 have z : ((0 : Nat) : Int) = 0 := rfl
 by_cases h8 : b - a ≥ 8
 ·rw [decide_eq_true (show (8 : Int) ≤ ((b - a : Nat) : Int) by omega), if_pos h8]
  by_cases h50 : b - a ≥ 50
  ·obtain ⟨m1, m2, m3⟩ := Ztg hc d hd (a + (b - a) / 4 * 1) 0 (by omega) (by omega) (by omega)
   obtain ⟨n1, n2, n3⟩ := Ztg hc d hd (a + (b - a) / 4 * 2) (medianAdjacent (ltC c) d (a + (b - a) / 4 * 1) 0).2 (by omega) (by omega) (by omega)
   obtain ⟨o1, o2, o3⟩ := Ztg hc d hd (a + (b - a) / 4 * 3) (medianAdjacent (ltC c) d (a + (b - a) / 4 * 2) (medianAdjacent (ltC c) d (a + (b - a) / 4 * 1) 0).2).2 (by omega) (by omega) (by omega)
   obtain ⟨r1, r2, r3⟩ := Zsl hc d hd _ _ _ (medianAdjacent (ltC c) d (a + (b - a) / 4 * 3) (medianAdjacent (ltC c) d (a + (b - a) / 4 * 2) (medianAdjacent (ltC c) d (a + (b - a) / 4 * 1) 0).2).2).2 m2 n2 o2 (by omega)
   rw [z] at m1
   rw [decide_eq_true (show (50 : Int) ≤ ((b - a : Nat) : Int) by omega), if_pos h50]
   simp only [cond_true, m1, n1, o1, r1, Option.bind_some]
   exact ZsD (_, _) _ _ rfl rfl
  ·obtain ⟨r1, r2, r3⟩ := Zsl hc d hd (a + (b - a) / 4 * 1) (a + (b - a) / 4 * 2) (a + (b - a) / 4 * 3) 0 (by omega) (by omega) (by omega) (by omega)
   rw [z] at r1
   rw [decide_eq_false (show ¬ (50 : Int) ≤ ((b - a : Nat) : Int) by omega), if_neg h50]
   simp only [cond_true, cond_false, r1, Option.bind_some]
   exact ZsD (_, _) _ _ rfl rfl
 ·rw [decide_eq_false (show ¬ (8 : Int) ≤ ((b - a : Nat) : Int) by omega), if_neg h8]
  rfl
end
theorem Zwm {P : Int → Prop} : ∀ (k i j : Nat) (d : Array Int), j - i ≤ k → j < d.size ∨ j ≤ i → OKA P d → lp Z0 ((i : Int), (j : Int), d.toList) = some (reverseLoop i j d).toList ∧ OKA P (reverseLoop i j d) ∧ (reverseLoop i j d).size = d.size := by
 intro k
 induction k with
 | zero =>
  intro i j d hk hj hd
  rw [Zb8]
  unfold reverseLoop
  simp only [Z0, ZeZ, decide_eq_false (show ¬ i < j by omega), cond_false]
  rw [if_neg (by omega)]
  exact ⟨rfl, hd, rfl⟩
 | succ k ih =>
  intro i j d hk hj hd
  have hz := hd.sz
  rw [Zb8]
  unfold reverseLoop
  by_cases h : i < j
  ·have i1 : j < d.size := by omega
   have i2 : i < d.size := by omega
   obtain ⟨y, em⟩ := Ziz (i := i) (x := d[j]!) i1
   have e2 : w64 ((j : Int) - 1) = ((j - 1 : Nat) : Int) := Zam (by omega) (by omega)
   simp only [Z0, ZeZ, decide_eq_true h, cond_true, Zbp i1, Zbp i2, Option.bind_some, Int.toNat_natCast, em, ZfC, Zag h (by omega), e2]
   rw [if_pos h]
   have := ih (i + 1) (j - 1) (swp d i j) (by omega) (by rw [Z6]; omega) (hd.swp i2 i1)
   rw [Z6] at this
   exact this
  ·simp only [Z0, ZeZ, decide_eq_false h, cond_false]
   rw [if_neg h]
   exact ⟨rfl, hd, rfl⟩
theorem Ztw {P : Int → Prop} (cmp : Int → Int → Option Int) (a b : Nat) (d : Array Int) (hab : a < b) (hb : b ≤ d.size) (hd : OKA P d) : ZF (a : Int) (b : Int) cmp d.toList = some (reverseRange d a b).toList ∧ OKA P (reverseRange d a b) ∧ (reverseRange d a b).size = d.size := by
 have hz := hd.sz
 obtain ⟨h1, h2⟩ := Zwm (b - 1 - a) a (b - 1) d (Nat.le_refl _) (by omega) hd
 unfold ZF reverseRange
 rw [Zam (n := b - 1) (by omega) (by omega)]
 simp only [h1, Option.bind_some]
 exact ⟨trivial, h2⟩
end Go.Proofs.YtnmbdjkbaihicaaDoor
namespace Go.Proofs.YtnmbdjkbaihicaaDoor
open Go Go.Proofs.YtnmbdjkbaihicaaDoorE Go.Sort
set_option linter.unusedVariables false
set_option linter.unusedSimpArgs false
theorem Zo5 (n : Int) : IntKind.u64.wrap n = n % 18446744073709551616 := by
 show (if (false && decide (n % 18446744073709551616 ≥ 9223372036854775808)) = true then n % 18446744073709551616 - 18446744073709551616 else n % 18446744073709551616) = _
 simp
theorem Zgb {n : Nat} (h : n < 18446744073709551616) : IntKind.u64.wrap (n : Int) = (n : Int) := by rw [Zo5]; omega
def ZnQ (a b : Int) : Int := IntKind.u64.wrap (BitVec.ofInt IntKind.u64.bits a ^^^ BitVec.ofInt IntKind.u64.bits b).toNat
def Ztp (a b : Int) : Int := IntKind.u64.wrap (BitVec.ofInt IntKind.u64.bits a &&& BitVec.ofInt IntKind.u64.bits b).toNat
def xs (r : Int) : Int := ZnQ (ZnQ (ZnQ r (IntKind.u64.wrap (r * 2 ^ 13))) (Int.fdiv (ZnQ r (IntKind.u64.wrap (r * 2 ^ 13))) (2 ^ 7))) (IntKind.u64.wrap (ZnQ (ZnQ r (IntKind.u64.wrap (r * 2 ^ 13))) (Int.fdiv (ZnQ r (IntKind.u64.wrap (r * 2 ^ 13))) (2 ^ 7)) * 2 ^ 17))
theorem Zn1 (u : UInt64) : BitVec.ofInt IntKind.u64.bits (u.toNat : Int) = u.toBitVec := by
 show BitVec.ofInt 64 (u.toNat : Int) = u.toBitVec
 rw [BitVec.ofInt_natCast]
 apply BitVec.eq_of_toNat_eq
 rw [BitVec.toNat_ofNat]
 exact Nat.mod_eq_of_lt u.toNat_lt
theorem ZtB (u v : UInt64) : ZnQ (u.toNat : Int) (v.toNat : Int) = ((u ^^^ v).toNat : Int) := by
 unfold ZnQ
 rw [Zn1, Zn1]
 exact Zgb (u ^^^ v).toNat_lt
theorem ZuQ (u : UInt64) (k : Nat) (v : UInt64) (hk : v.toNat % 64 = k) : IntKind.u64.wrap ((u.toNat : Int) * 2 ^ k) = ((u <<< v).toNat : Int) := by
 rw [Zo5, UInt64.toNat_shiftLeft, hk, Nat.shiftLeft_eq]
 have : ((2 : Int) ^ k) = ((2 ^ k : Nat) : Int) := by rw [Int.natCast_pow]; rfl
 rw [this]
 omega
theorem ZzR (u : UInt64) (k : Nat) (v : UInt64) (hk : v.toNat % 64 = k) : Int.fdiv (u.toNat : Int) (2 ^ k) = ((u >>> v).toNat : Int) := by
 have e : ((2 : Int) ^ k) = ((2 ^ k : Nat) : Int) := by rw [Int.natCast_pow]; rfl
 rw [UInt64.toNat_shiftRight, hk, Nat.shiftRight_eq_div_pow, e, Int.fdiv_eq_ediv_of_nonneg _ (Int.natCast_nonneg _)]
 exact (Int.natCast_ediv _ _).symm
theorem Zxv (u : UInt64) : xs (u.toNat : Int) = ((xorNext u).toNat : Int) := by
 unfold xs xorNext
 rw [ZuQ u 13 13 rfl, ZtB, ZzR _ 7 7 rfl, ZtB, ZuQ _ 17 17 rfl, ZtB]
theorem Zus (u : UInt64) (m : Nat) (hm : m < 18446744073709551616) : Ztp (u.toNat : Int) (m : Int) = ((u.toNat &&& m : Nat) : Int) := by
 unfold Ztp
 rw [Zn1]
 have : BitVec.ofInt IntKind.u64.bits (m : Int) = BitVec.ofNat 64 m := BitVec.ofInt_natCast _ _
 rw [this]
 show IntKind.u64.wrap ((((u.toBitVec &&& BitVec.ofNat 64 m : BitVec 64)).toNat : Nat) : Int) = _
 rw [BitVec.toNat_and, BitVec.toNat_ofNat, Nat.mod_eq_of_lt hm]
 refine Zgb (Nat.lt_of_le_of_lt Nat.and_le_left u.toNat_lt)
theorem Zq3 : ((List.range 1001).all fun n => (match Zdo (IntKind.u64.wrap (n : Int)) with | some v => v == (bitsLen n : Int) | none => false) && ((match Zb3 (n : Int) with | some v => v == ((1 <<< bitsLen n : Nat) : Int) | none => false) && (decide (1 <<< bitsLen n ≤ 2 * n) || n == 0))) = true := by kernel_rfl
theorem ZrP {n : Nat} (h : n ≤ 1000) : Zdo (IntKind.u64.wrap (n : Int)) = some (bitsLen n : Int) ∧ Zb3 (n : Int) = some ((1 <<< bitsLen n : Nat) : Int) ∧ (0 < n → 1 <<< bitsLen n ≤ 2 * n) := by
 have := List.all_eq_true.1 Zq3 n (by simp; omega)
 simp only [Bool.and_eq_true, Bool.or_eq_true, decide_eq_true_eq, beq_iff_eq] at this
 obtain ⟨h1, h2, h3⟩ := this
 refine ⟨?_, ?_, fun h => by omega⟩
 ·split at h1
  ·rename_i v hv; rw [hv, eq_of_beq h1]
  ·cases h1
 ·split at h2
  ·rename_i v hv; rw [hv, eq_of_beq h2]
  ·cases h2
def Zlw (s : Int × List Int × Int) (o : Int) : Option ((Int × List Int × Int) ⊕ List Int) :=
 (ZC s.2.1 o).bind fun x3 => (ZC s.2.1 s.1).bind fun x4 => (ZC (List.set s.2.1 s.1.toNat x3) o).bind fun _ => some (Sum.inl (w64 (s.1 + 1), List.set (List.set s.2.1 s.1.toNat x3) o.toNat x4, xs s.2.2))
theorem Zve (b c x0 : Int) (s : Int × List Int × Int) : Zav b c x0 s = (bif (decide (s.1 ≤ (w64 ((w64 (b + (w64 ((w64 (Int.tdiv (w64 (c - b)) 4)) * 2)))) + 1)))) then
  Zc3.bind fun _ => bif decide (w64 (c - b) ≤ w64 (Ztp (xs s.2.2) (IntKind.u64.wrap (x0 - 1)))) then Zlw s (w64 (b + w64 (w64 (Ztp (xs s.2.2) (IntKind.u64.wrap (x0 - 1))) - w64 (c - b)))) else Zlw s (w64 (b + w64 (Ztp (xs s.2.2) (IntKind.u64.wrap (x0 - 1)))))
 else some (.inr s.2.1)) := rfl
theorem ZoI {P : Int → Prop} (d : Array Int) (hd : OKA P d) (i o : Nat) (u : UInt64) (hi : i < d.size) (ho : o < d.size) : Zlw ((i : Int), d.toList, (u.toNat : Int)) (o : Int) = some (.inl (((i + 1 : Nat) : Int), (swp d i o).toList, ((xorNext u).toNat : Int))) := by
 have hz := hd.sz
 obtain ⟨y, em⟩ := Ziz (i := i) (x := d[o]!) ho
 unfold Zlw
 simp only [Zbp ho, Zbp hi, Option.bind_some, Int.toNat_natCast, em, ZfC, Zxv, Zag hi (by omega)]
theorem Zoc {P : Int → Prop} (a b : Nat) (d : Array Int) (hd : OKA P d) (h8 : 8 ≤ b - a) (hb : b ≤ d.size) (i : Nat) (hi : i ≤ a + (b - a) / 4 * 2 + 1) (u : UInt64) :
  Zav (a : Int) (b : Int) ((1 <<< bitsLen (b - a) : Nat) : Int) ((i : Int), d.toList, (u.toNat : Int)) = some (.inl (((i + 1 : Nat) : Int), (breakStep a (b - a) (1 <<< bitsLen (b - a)) (u, d) i).2.toList, ((breakStep a (b - a) (1 <<< bitsLen (b - a)) (u, d) i).1.toNat : Int))) ∧
  OKA P (breakStep a (b - a) (1 <<< bitsLen (b - a)) (u, d) i).2 ∧ (breakStep a (b - a) (1 <<< bitsLen (b - a)) (u, d) i).2.size = d.size := by
 have hz := hd.sz
 obtain ⟨_, _, l3⟩ := ZrP (show b - a ≤ 1000 by omega)
 have l4 := l3 (by omega)
 have l5 : 0 < 1 <<< bitsLen (b - a) := by rw [Nat.shiftLeft_eq, Nat.one_mul]; exact Nat.pow_pos (by omega)
 generalize hm : 1 <<< bitsLen (b - a) = m at *
 have e1 : w64 ((b : Int) - (a : Int)) = ((b - a : Nat) : Int) := Zam (by omega) (by omega)
 have e2 : w64 (Int.tdiv ((b - a : Nat) : Int) 4) = (((b - a) / 4 : Nat) : Int) := by
  rw [Int.tdiv_eq_ediv_of_nonneg (by omega)]
  exact Zam (by omega) (by omega)
 have e3 : w64 ((((b - a) / 4 : Nat) : Int) * 2) = (((b - a) / 4 * 2 : Nat) : Int) := Zam (by omega) (by omega)
 have e4 : w64 ((a : Int) + (((b - a) / 4 * 2 : Nat) : Int)) = ((a + (b - a) / 4 * 2 : Nat) : Int) := Zam (by omega) (by omega)
 have e5 : w64 (((a + (b - a) / 4 * 2 : Nat) : Int) + 1) = ((a + (b - a) / 4 * 2 + 1 : Nat) : Int) := Zam (by omega) (by omega)
 have e6 : IntKind.u64.wrap ((m : Int) - 1) = ((m - 1 : Nat) : Int) := by
  rw [show (m : Int) - 1 = ((m - 1 : Nat) : Int) by omega]; exact Zgb (by omega)
 have hand : (xorNext u).toNat &&& (m - 1) ≤ m - 1 := Nat.and_le_right
 have e7 : w64 (((xorNext u).toNat &&& (m - 1) : Nat) : Int) = (((xorNext u).toNat &&& (m - 1) : Nat) : Int) := Zam rfl (by omega)
 have ii : i < d.size := by omega
 rw [Zve]
 unfold breakStep
 simp only [e1, e2, e3, e4, e5, ZfI, decide_eq_true hi, cond_true, Zxv, e6, Zus _ (m - 1) (by omega), e7]
 generalize (xorNext u).toNat &&& (m - 1) = o at *
 show (bif decide (b - a ≤ o) then _ else _) = _ ∧ _
 by_cases ho : b - a ≤ o
 ·have e8 : w64 ((o : Int) - ((b - a : Nat) : Int)) = ((o - (b - a) : Nat) : Int) := Zam (by omega) (by omega)
  have e9 : w64 ((a : Int) + ((o - (b - a) : Nat) : Int)) = ((a + (o - (b - a)) : Nat) : Int) := Zam (by omega) (by omega)
  rw [decide_eq_true ho, if_pos ho]
  simp only [cond_true, e8, e9]
  exact ⟨ZoI d hd i _ u ii (by omega), hd.swp ii (by omega), Z6 _ _ _⟩
 ·have e9 : w64 ((a : Int) + (o : Int)) = ((a + o : Nat) : Int) := Zam (by omega) (by omega)
  rw [decide_eq_false ho, if_neg ho]
  simp only [cond_false, e9]
  exact ⟨ZoI d hd i _ u ii (by omega), hd.swp ii (by omega), Z6 _ _ _⟩
theorem ZBm {P : Int → Prop} (cmp : Int → Int → Option Int) (a b : Nat) (d : Array Int) (hab : a ≤ b) (hb : b ≤ d.size) (hd : OKA P d) : Z4 (a : Int) (b : Int) cmp d.toList = some (breakPatterns d a b).toList ∧ OKA P (breakPatterns d a b) ∧ (breakPatterns d a b).size = d.size := by
 have hz := hd.sz
 have e1 : w64 ((b : Int) - (a : Int)) = ((b - a : Nat) : Int) := Zam (by omega) (by omega)
 unfold Z4 breakPatterns
 simp only [e1]
 by_cases h8 : 8 ≤ b - a
 ·obtain ⟨_, l2, _⟩ := ZrP (show b - a ≤ 1000 by omega)
  have e2 : w64 (Int.tdiv ((b - a : Nat) : Int) 4) = (((b - a) / 4 : Nat) : Int) := by
   rw [Int.tdiv_eq_ediv_of_nonneg (by omega)]
   exact Zam (by omega) (by omega)
  have e3 : w64 ((((b - a) / 4 : Nat) : Int) * 2) = (((b - a) / 4 * 2 : Nat) : Int) := Zam (by omega) (by omega)
  have e4 : w64 ((a : Int) + (((b - a) / 4 * 2 : Nat) : Int)) = ((a + (b - a) / 4 * 2 : Nat) : Int) := Zam (by omega) (by omega)
  have e5 : w64 (((a + (b - a) / 4 * 2 : Nat) : Int) - 1) = ((a + (b - a) / 4 * 2 - 1 : Nat) : Int) := Zam (by omega) (by omega)
  have e6 : IntKind.u64.wrap ((b - a : Nat) : Int) = ((UInt64.ofNat (b - a)).toNat : Int) := by
   rw [Zgb (by omega), UInt64.toNat_ofNat_of_lt' (by show b - a < 2 ^ 64; omega)]
  rw [decide_eq_true (show (8 : Int) ≤ ((b - a : Nat) : Int) by omega), if_pos h8]
  simp only [cond_true, l2, Option.bind_some, e2, e3, e4, e5, e6]
  generalize hi0 : a + (b - a) / 4 * 2 - 1 = i0
  obtain ⟨p1, p2, p3⟩ := Zoc a b d hd h8 hb i0 (by omega) (UInt64.ofNat (b - a))
  generalize breakStep a (b - a) (1 <<< bitsLen (b - a)) (UInt64.ofNat (b - a), d) i0 = r1 at *
  obtain ⟨q1, q2, q3⟩ := Zoc a b r1.2 p2 h8 (by omega) (i0 + 1) (by omega) r1.1
  generalize breakStep a (b - a) (1 <<< bitsLen (b - a)) (r1.1, r1.2) (i0 + 1) = r2 at *
  obtain ⟨s1, s2, s3⟩ := Zoc a b r2.2 q2 h8 (by omega) (i0 + 2) (by omega) r2.1
  generalize breakStep a (b - a) (1 <<< bitsLen (b - a)) (r2.1, r2.2) (i0 + 2) = r3 at *
  rw [ZlR p1, ZlR q1, ZlR s1, Zqj (r := r3.2.toList)]
  ·exact ⟨rfl, s2, by omega⟩
  ·rw [Zve]
   have e7 : w64 (((a + (b - a) / 4 * 2 : Nat) : Int) + 1) = ((a + (b - a) / 4 * 2 + 1 : Nat) : Int) := Zam (by omega) (by omega)
   simp only [e1, e2, e3, e4, e7, ZfI, decide_eq_false (show ¬ i0 + 2 + 1 ≤ a + (b - a) / 4 * 2 + 1 by omega), cond_false]
 ·rw [decide_eq_false (show ¬ (8 : Int) ≤ ((b - a : Nat) : Int) by omega), if_neg h8]
  exact ⟨rfl, hd, rfl⟩
end Go.Proofs.YtnmbdjkbaihicaaDoor
namespace Go.Proofs.YtnmbdjkbaihicaaDoor
open Go Go.Proofs.YtnmbdjkbaihicaaDoorE Go.Sort
set_option linter.unusedVariables false
set_option linter.unusedSimpArgs false
abbrev Zui := Int × Int × Int × Bool × Bool × List Int
noncomputable def ZqJ (e : Int → Int → Option Int) (rc : Int → Int → Int → (Int → Int → Option Int) → List Int → Option (List Int)) (a b limit pivot : Int) (x5 : List Int) : Option (Zui ⊕ List Int) :=
 (Zn a b pivot e x5).bind fun x9 =>
 match x9 with
 | .inl x9 =>
  bif decide (w64 (x9.1 - a) < w64 (b - x9.1)) then
   bif decide (w64 (Int.tdiv (w64 (b - a)) 8) ≤ w64 (x9.1 - a)) then (rc a x9.1 limit e x9.2).bind fun x10 => some (.inl (w64 (x9.1 + 1), b, limit, true, true, x10))
   else (rc a x9.1 limit e x9.2).bind fun x10 => some (.inl (w64 (x9.1 + 1), b, limit, false, true, x10))
  else
   bif decide (w64 (Int.tdiv (w64 (b - a)) 8) ≤ w64 (b - x9.1)) then (rc (w64 (x9.1 + 1)) b limit e x9.2).bind fun x10 => some (.inl (a, x9.1, limit, true, true, x10))
   else (rc (w64 (x9.1 + 1)) b limit e x9.2).bind fun x10 => some (.inl (a, x9.1, limit, false, true, x10))
 | .inr x9 =>
  bif decide (w64 (x9.1 - a) < w64 (b - x9.1)) then
   bif decide (w64 (Int.tdiv (w64 (b - a)) 8) ≤ w64 (x9.1 - a)) then (rc a x9.1 limit e x9.2).bind fun x10 => some (.inl (w64 (x9.1 + 1), b, limit, true, false, x10))
   else (rc a x9.1 limit e x9.2).bind fun x10 => some (.inl (w64 (x9.1 + 1), b, limit, false, false, x10))
  else
   bif decide (w64 (Int.tdiv (w64 (b - a)) 8) ≤ w64 (b - x9.1)) then (rc (w64 (x9.1 + 1)) b limit e x9.2).bind fun x10 => some (.inl (a, x9.1, limit, true, false, x10))
   else (rc (w64 (x9.1 + 1)) b limit e x9.2).bind fun x10 => some (.inl (a, x9.1, limit, false, false, x10))
noncomputable def Zj0 (e : Int → Int → Option Int) (rc : Int → Int → Int → (Int → Int → Option Int) → List Int → Option (List Int)) (a b limit pivot : Int) (wb wp : Bool) (x5 : List Int) : Option (Zui ⊕ List Int) :=
 bif decide (0 < a) then
  (ZC x5 (w64 (a - 1))).bind fun x6 => (ZC x5 pivot).bind fun x7 => (e x6 x7).bind fun x8 =>
  bif decide (x8 < 0) then ZqJ e rc a b limit pivot x5
  else (Zz a b pivot e x5).bind fun x18 => some (.inl (x18.1, b, limit, wb, wp, x18.2))
 else ZqJ e rc a b limit pivot x5
theorem Znh (e : Int → Int → Option Int) (rc : Int → Int → Int → (Int → Int → Option Int) → List Int → Option (List Int)) (a b limit : Int) (wb wp : Bool) (l : List Int) : ZJ e rc (a, b, limit, wb, wp, l) =
  (bif decide (w64 (b - a) ≤ 12) then (ZP a b e l).bind fun x => some (.inr x)
  else bif limit == 0 then (Z1 a b e l).bind fun x => some (.inr x)
  else (bif wb then bif wp then
    (ZG a b e l).bind fun x3 =>
    bif x3.2 == 2 then (ZF a b e l).bind fun x4 => (ZH a b e x4).bind fun x5 => (match x5 with | .inl x5 => some (.inr x5) | .inr x5 => Zj0 e rc a b limit (w64 (w64 (b - 1) - w64 (x3.1 - a))) true true x5)
    else bif x3.2 == 1 then (ZH a b e l).bind fun x5 => (match x5 with | .inl x5 => some (.inr x5) | .inr x5 => Zj0 e rc a b limit x3.1 true true x5)
    else Zj0 e rc a b limit x3.1 true true l
   else
    (ZG a b e l).bind fun x3 =>
    bif x3.2 == 2 then (ZF a b e l).bind fun x4 => Zj0 e rc a b limit (w64 (w64 (b - 1) - w64 (x3.1 - a))) true false x4
    else Zj0 e rc a b limit x3.1 true false l
  else
   (Z4 a b e l).bind fun x0 => (ZG a b e x0).bind fun x3 =>
    bif x3.2 == 2 then (ZF a b e x0).bind fun x4 => Zj0 e rc a b (w64 (limit - 1)) (w64 (w64 (b - 1) - w64 (x3.1 - a))) false wp x4
    else Zj0 e rc a b (w64 (limit - 1)) x3.1 false wp x0)) := by
 cases wb <;> cases wp <;> rfl
end Go.Proofs.YtnmbdjkbaihicaaDoor
