/- The evaluator once more, with what comes behind handed in: for proofs that go through a function's text at arguments that are not closed. -/
import Derived.Test.YtljgncbdagmeeaaDoorE5
namespace Go.Proofs.YtljgncbdagmeeaaDoorE
open Go
set_option linter.unusedVariables false
set_option linter.unusedSimpArgs false

/-- what was said, handed on -/
noncomputable def bnd {α β : Type} (x : Option α) (k : α → Option β) : Option β := @dite _ (∃ a, x = some a) (Classical.propDecidable _) (fun h => k (Classical.choose h)) fun _ => none
theorem bnd_eq {α β : Type} (x : Option α) (k : α → Option β) : bnd x k = (match x with | some a => k a | none => none) := by
  unfold bnd
  cases x with
  | none => exact dif_neg (fun ⟨a, h⟩ => by cases h)
  | some a =>
    have h : ∃ b, some a = some b := ⟨a, rfl⟩
    rw [dif_pos h]
    have := Classical.choose_spec h
    rw [← Option.some.inj this]

theorem bnd_s {α β : Type} (a : α) (k : α → Option β) : bnd (some a) k = k a := bnd_eq _ _

section
variable {β : Type}

/-! values laid open -/
def litN : List Nat := [0, 1, 2, 3, 4, 5, 6, 7, 8, 9, 10, 11, 12, 13, 14, 15, 16, 17, 18, 19, 20, 21, 22, 23, 24, 25, 26, 27, 28, 29, 30, 31, 32, 33, 34, 35, 36, 37, 38, 39, 40, 41, 42, 43, 44, 45, 46, 47, 48, 49, 50, 51, 52, 53, 54, 55, 56, 57, 58, 59, 60, 61, 62, 63]
def fgo (n : Nat) (k : Nat → Option β) : List Nat → Option β
  | [] => k n
  | a :: l => match Nat.beq n a with | true => k a | false => fgo n k l
/-- a number, as it is written -/
def forceN (n : Nat) (k : Nat → Option β) : Option β := fgo n k litN
def forceV0 (v : V) (k : V → Option β) : Option β :=
  match v with
  | .d x => k (.d x) | .bad => k .bad | .ptr b o => forceN b fun b => forceN o fun o => k (.ptr b o) | .eptr b sz i j => forceN b fun b => forceN j fun j => k (.eptr b sz i j)
  | .sl b sz => forceN b fun b => k (.sl b sz) | .slp b sz o l => forceN b fun b => k (.slp b sz o l) | .nilsl sz => k (.nilsl sz)
  | .agg cs => k (.agg cs) | .tup cs => k (.tup cs) | .fn f cs => k (.fn f cs) | .mp b => forceN b fun b => k (.mp b)
def forceVs0 (l : List V) (k : List V → Option β) : Option β :=
  match l with
  | [] => k []
  | v :: vs => forceV0 v fun v => forceVs0 vs fun vs => k (v :: vs)
def forceV (v : V) (k : V → Option β) : Option β :=
  match v with
  | .d x => k (.d x) | .bad => k .bad | .ptr b o => forceV0 (.ptr b o) k | .eptr b sz i j => forceV0 (.eptr b sz i j) k
  | .sl b sz => forceV0 (.sl b sz) k | .slp b sz o l => forceV0 (.slp b sz o l) k | .nilsl sz => k (.nilsl sz)
  | .agg cs => forceVs0 cs fun cs => k (.agg cs) | .tup cs => forceVs0 cs fun cs => k (.tup cs) | .fn f cs => forceVs0 cs fun cs => k (.fn f cs) | .mp b => forceV0 (.mp b) k
def forceVs (l : List V) (k : List V → Option β) : Option β :=
  match l with
  | [] => k []
  | v :: vs => forceV v fun v => forceVs vs fun vs => k (v :: vs)
def forceB (b : Blk) (k : Blk → Option β) : Option β :=
  match b with
  | .dead => k .dead | .cells cs => forceVs cs fun cs => k (.cells cs) | .arr sz xs => k (.arr sz xs) | .mp es => k (.mp es)
def forceH (H : Heap) (k : Heap → Option β) : Option β :=
  match H with
  | [] => k []
  | b :: bs => forceB b fun b => forceH bs fun bs => k (b :: bs)
def forceDs (l : List D) (k : List D → Option β) : Option β :=
  match l with
  | [] => k []
  | x :: xs => forceDs xs fun xs => k (x :: xs)

theorem fgo_eq (n : Nat) (k : Nat → Option β) : ∀ (l : List Nat), fgo n k l = k n
  | [] => rfl
  | a :: l => by
    unfold fgo
    cases h : Nat.beq n a with
    | true => rw [Nat.eq_of_beq_eq_true h]
    | false => exact fgo_eq n k l
theorem forceN_eq (n : Nat) (k : Nat → Option β) : forceN n k = k n := fgo_eq n k _
theorem forceV0_eq (v : V) (k : V → Option β) : forceV0 v k = k v := by cases v <;> simp [forceV0, forceN_eq]
theorem forceVs0_eq : ∀ (l : List V) (k : List V → Option β), forceVs0 l k = k l
  | [], k => rfl
  | v :: vs, k => by unfold forceVs0; rw [forceV0_eq, forceVs0_eq vs]
theorem forceV_eq (v : V) (k : V → Option β) : forceV v k = k v := by cases v <;> simp [forceV, forceV0_eq, forceVs0_eq]
theorem forceVs_eq : ∀ (l : List V) (k : List V → Option β), forceVs l k = k l
  | [], k => rfl
  | v :: vs, k => by unfold forceVs; rw [forceV_eq, forceVs_eq vs]
theorem forceB_eq (b : Blk) (k : Blk → Option β) : forceB b k = k b := by cases b <;> simp [forceB, forceVs_eq]
theorem forceH_eq : ∀ (l : Heap) (k : Heap → Option β), forceH l k = k l
  | [], k => rfl
  | v :: vs, k => by unfold forceH; rw [forceB_eq, forceH_eq vs]
theorem forceDs_eq : ∀ (l : List D) (k : List D → Option β), forceDs l k = k l
  | [], k => rfl
  | v :: vs, k => by unfold forceDs; rw [forceDs_eq vs]

/-! least heaps, laid open step by step -/
def forceNs (l : List Nat) (k : List Nat → Option β) : Option β :=
  match l with
  | [] => k []
  | a :: l => forceN a fun a => forceNs l fun l => k (a :: l)
theorem forceNs_eq : ∀ (l : List Nat) (k : List Nat → Option β), forceNs l k = k l
  | [], k => rfl
  | a :: l, k => by unfold forceNs; rw [forceN_eq, forceNs_eq l]
def addAllK (H : Heap) (l : List Nat) (bs : List Nat) (k : List Nat → Option β) : Option β :=
  match bs with
  | [] => k l
  | b :: bs => (match elem l b || !(isLive H b) with
    | true => addAllK H l bs k
    | false => forceNs (l ++ [b]) fun l => addAllK H l bs k)
theorem addAllK_eq (H : Heap) : ∀ (bs l : List Nat) (k : List Nat → Option β), addAllK H l bs k = k (addAll H l bs)
  | [], l, k => rfl
  | b :: bs, l, k => by
    unfold addAllK addAll
    cases h : (elem l b || !(isLive H b)) with
    | true => exact addAllK_eq H bs l k
    | false => simp only [forceNs_eq, cond_false]; exact addAllK_eq H bs _ k
def reachK (H : Heap) (n i : Nat) (l : List Nat) (k : List Nat → Option β) : Option β :=
  match n with
  | 0 => k l
  | n + 1 => (match nth l i with
    | some b => forceNs (refsB H b) fun bs => addAllK H l bs fun l => forceN (i + 1) fun i => reachK H n i l k
    | none => k l)
theorem reachK_eq (H : Heap) : ∀ (n i : Nat) (l : List Nat) (k : List Nat → Option β), reachK H n i l k = k (reach H n i l)
  | 0, i, l, k => rfl
  | n + 1, i, l, k => by
    unfold reachK reach
    cases h : nth l i with
    | none => rfl
    | some b => simp only [forceNs_eq, forceN_eq, addAllK_eq]; exact reachK_eq H n (i + 1) _ k
def renK (L : List Nat) (vs : List V) (k : List V → Option β) : Option β := forceVs (renVs (fun b => idx L b 0) vs) k
def extractK (m : Nat) (vs : List V) (H : Heap) (k : List Nat → List V → Heap → Option β) : Option β :=
  forceVs vs fun vs => forceNs (upTo m) fun u => forceNs (refsVs vs) fun r => addAllK H u r fun l => reachK H (H.length + 1) 0 l fun L =>
    (match nodupB L && ltAll H.length L with
    | true => forceVs (renVs (fun b => idx L b 0) vs) fun vs => forceH (pick H (fun b => idx L b 0) L) fun H => k L vs H
    | false => none)
theorem extractK_eq (m : Nat) (vs : List V) (H : Heap) (k : List Nat → List V → Heap → Option β) : extractK m vs H k = (match extract m vs H with | some (L, vs, H) => k L vs H | none => none) := by
  unfold extractK extract collect
  simp only [forceVs_eq, forceNs_eq, addAllK_eq, reachK_eq, forceH_eq]
  cases (nodupB (reach H (H.length + 1) 0 (addAll H (upTo m) (refsVs vs))) && ltAll H.length (reach H (H.length + 1) 0 (addAll H (upTo m) (refsVs vs)))) <;> rfl
def denilK (n : Nat) (vs : List V) (k : List V → List Blk → Option β) : Option β :=
  match vs with
  | [] => k [] []
  | v :: vs => (match v with
    | .nilsl sz => (match Nat.blt 0 sz with
      | true => forceN (n + 1) fun n1 => denilK n1 vs fun vs bs => k (.sl n sz :: vs) (.arr sz [] :: bs)
      | false => denilK n vs fun vs bs => k (.nilsl sz :: vs) bs)
    | v => denilK n vs fun vs bs => k (v :: vs) bs)
theorem denilK_eq : ∀ (vs : List V) (n : Nat) (k : List V → List Blk → Option β), denilK n vs k = k (denil n vs).1 (denil n vs).2
  | [], n, k => rfl
  | v :: vs, n, k => by
    unfold denilK
    split
    · rename_i sz
      simp only [denil]
      cases h : Nat.blt 0 sz with
      | true => simp only [forceN_eq, cond_true]; exact denilK_eq vs (n + 1) _
      | false => exact denilK_eq vs n _
    · rename_i h
      rw [denilK_eq vs n]
      cases v <;> first | rfl | exact absurd rfl (h _)
def denilBK (n : Nat) (H : Heap) (k : Heap → List Blk → Option β) : Option β :=
  match H with
  | [] => k [] []
  | b :: H => (match b with
    | .cells cs => denilK n cs fun cs bs => forceN (n + bs.length) fun n1 => denilBK n1 H fun H q => k (.cells cs :: H) (bs ++ q)
    | b => denilBK n H fun H q => k (b :: H) q)
theorem denilBK_eq : ∀ (H : Heap) (n : Nat) (k : Heap → List Blk → Option β), denilBK n H k = k (denilB n H).1 (denilB n H).2
  | [], n, k => rfl
  | b :: H, n, k => by
    unfold denilBK
    cases b <;> first | exact denilBK_eq H n _ | skip
    rename_i cs
    simp only [denilK_eq, forceN_eq, denilB]
    exact denilBK_eq H _ _
def headK (m : Nat) (vs : List V) (H : Heap) (k : List V → Heap → Option β) : Option β :=
  extractK m vs H fun _ vs1 H1 => denilK H1.length vs1 fun vs2 bs => forceN (H1.length + bs.length) fun n => denilBK n H1 fun H2 q => forceH (H2 ++ (bs ++ q)) fun H2 => extractK m vs2 H2 fun _ vs3 H3 => k vs3 H3
theorem headK_eq (m : Nat) (vs : List V) (H : Heap) (k : List V → Heap → Option β) : headK m vs H k = (match head m vs H with | some (vs, H) => k vs H | none => none) := by
  unfold headK head
  rw [extractK_eq]
  cases h : extract m vs H with
  | none => rfl
  | some p =>
    obtain ⟨L, vs1, H1⟩ := p
    simp only [denilK_eq, forceN_eq, denilBK_eq, forceH_eq, extractK_eq]
    cases extract m (denil H1.length vs1).1 ((denilB (H1.length + (denil H1.length vs1).2.length) H1).1 ++ ((denil H1.length vs1).2 ++ (denilB (H1.length + (denil H1.length vs1).2.length) H1).2)) <;> rfl

/-- 'if' -/
noncomputable def br (c : Bool) (x y : Option β) : Option β := @ite _ (c = true) (Classical.propDecidable _) x y
theorem br_cond (c : Bool) (x y : Option β) : br c x y = bif c then x else y := by
  unfold br
  cases c with
  | true => exact if_pos rfl
  | false => exact if_neg (by simp)

/-- 'if', of a truth value that is told already -/
def brL (c : Bool) (x y : Option β) : Option β := match c with | true => x | false => y

/-- a truth value is told apart as soon as it is there -/
noncomputable def boolK (c : Bool) (k : V → Option β) : Option β := br c (k (.d (.bool true))) (k (.d (.bool false)))
theorem boolK_eq (c : Bool) (k : V → Option β) : boolK c k = k (.d (.bool c)) := by
  unfold boolK
  rw [br_cond]
  cases c <;> rfl
noncomputable def tellV (v : V) (k : V → Option β) : Option β := match v with | .d (.bool c) => boolK c k | v => k v
theorem tellV_eq (v : V) (k : V → Option β) : tellV v k = k v := by
  unfold tellV
  split
  · exact boolK_eq _ _
  · rfl
noncomputable def tellD (x : D) (k : V → Option β) : Option β := match x with | .bool c => boolK c k | .tup ts => k (.tup (mapd ts)) | x => k (.d x)

abbrev K3 (β : Type) := V → List (Nat × Blk) → List Blk → Option β

noncomputable def binK (op : BinOp) (x y : V) (k : V → Option β) : Option β :=
  match op, x, y with
  | .quo, .d (.int i a), .d (.int j b) => (match i == j with | true => br (b == 0) none (k (.d (.int i (i.wrap (a.tdiv b))))) | false => none)
  | .rem, .d (.int i a), .d (.int j b) => (match i == j with | true => br (b == 0) none (k (.d (.int i (a.tmod b)))) | false => none)
  | .shl, .d (.int i a), .d (.int _ b) => br (decide (b < 0)) none (k (.d (.int i (i.wrap (a * 2 ^ (min b.toNat i.bits))))))
  | .shr, .d (.int i a), .d (.int _ b) => br (decide (b < 0)) none (k (.d (.int i (a.fdiv (2 ^ (min b.toNat i.bits))))))
  | op, x, y => match binE op x y with | some (.bool c) => boolK c k | some r => k (.d r) | none => none

noncomputable def loadK (H : Heap) (n : Nat) (ag : Bool) (x : V) (k : V → Option β) : Option β :=
  match x with
  | .eptr b sz i j => (match nth H b with
    | some (.arr sz' xs) => (match Nat.beq sz sz' with
      | true => bnd (nth xs i) fun x => (match oneCell n ag (mapd (x.cells.drop j)) with | some v => tellV v k | none => none)
      | false => none)
    | _ => none)
  | x => match loadE H n ag x with | some v => tellV v k | none => none

noncomputable def storeK (H : Heap) (n : Nat) (x v : V) (k : K3 β) : Option β :=
  match x with
  | .eptr b sz i j => (match nth H b with
    | some (.arr sz' xs) => (match Nat.beq sz sz' with
      | true => bnd (nth xs i) fun x => (match fr H 6 v with
        | some (y, ks) => (match elem ks b with
          | true => none
          | false => (match Nat.beq y.cells.length n && Nat.ble (j + n) x.cells.length && (V.d y).okb && (x.isAgg || !y.isAgg) with
            | true => bnd (some (setAt xs i (bif x.isAgg then .agg (setRange x.cells j y.cells) else y))) fun zs => k .bad ((b, .arr sz zs) :: ks.map (fun j => (j, .dead))) []
            | false => none))
        | none => none)
      | false => none)
    | _ => none)
  | x => match storeE H n x v with | some (a, b, c) => k a b c | none => none

noncomputable def appendK (nid : Nat) (H : Heap) (sz : Nat) (x y : V) (k : K3 β) : Option β :=
  match elems H y with
  | none => none
  | some ys =>
    br (szAt sz ys 0) (match x with
    | .nilsl _ => br (Nat.ble ys.length lim) (bnd (some ys) fun zs => k (.sl nid sz) [] [.arr sz zs]) none
    | .sl b sz' => (match nth H b with
      | some (.arr sz'' xs) => (match Nat.beq sz sz' && Nat.beq sz sz'' with
        | true => br (Nat.ble (xs.length + ys.length) lim) (bnd (some (xs ++ ys)) fun zs => k (.sl nid sz) [(b, .dead)] [.arr sz zs]) none
        | false => none)
      | _ => none)
    | .slp b sz' o len => (match nth H b with
      | some (.arr sz'' xs) => (match Nat.beq sz sz' && Nat.beq sz sz'' with
        | true => br (Nat.ble (o + len + ys.length) xs.length) (bnd (some (xs.take (o + len) ++ (ys ++ xs.drop (o + len + ys.length)))) fun zs => bnd (some (len + ys.length)) fun n => k (.slp b sz o n) [(b, .arr sz zs)] []) none
        | false => none)
      | _ => none)
    | _ => none) none

noncomputable def appendDK (H : Heap) (sz : Nat) (x y : V) (k : V → Option β) : Option β :=
  match x with
  | .nilsl _ => (match elems H y with
    | some ys => br (szAt sz ys 0) (br (Nat.ble ys.length lim) (bnd (some ys) fun zs => k (.d (.list true zs))) none) none
    | none => none)
  | _ => none

noncomputable def asNatK (v : Option V) (dflt : Nat) (k : Nat → Option β) : Option β :=
  match v with
  | none => k dflt
  | some (.d (.int _ n)) => br (decide (0 ≤ n)) (k n.toNat) none
  | _ => none

noncomputable def sliceK (H : Heap) (sz : Nat) (x : V) (lo hi mx : Option V) (k : V → Option β) : Option β :=
  match elems H x with
  | none => none
  | some xs =>
    asNatK lo 0 fun l => asNatK hi xs.length fun h =>
      br (Nat.ble l h && Nat.ble h xs.length)
        (match mx with
        | none => (match x with
          | .d (.list own _) => br (Nat.beq l 0 || szAt sz xs l) (bnd (some ((xs.drop l).take (h - l))) fun zs => k (.d (.list own zs))) none
          | .sl b sz' => (match Nat.beq sz sz' with | true => bnd (some l) fun l' => bnd (some (h - l)) fun n => k (.slp b sz l' n) | false => none)
          | .slp b sz' o _ => (match Nat.beq sz sz' with | true => bnd (some (o + l)) fun l' => bnd (some (h - l)) fun n => k (.slp b sz l' n) | false => none)
          | .nilsl _ => k (.nilsl sz)
          | _ => none)
        | some m => asNatK (some m) 0 fun m => br (Nat.beq m l && Nat.beq m h) (k (.nilsl sz)) none)
        none

noncomputable def iaddrK (H : Heap) (sz : Nat) (x i : V) (k : V → Option β) : Option β :=
  match i with
  | .d (.int _ i) => (match x with
    | .d (.list _ xs) => bnd (getI xs i) fun x => (match Nat.beq x.cells.length sz && (V.d x).okb with | true => k (.d (.rptr x.cells)) | false => none)
    | .sl b sz' => (match nth H b with
      | some (.arr sz'' xs) => (match Nat.beq sz sz' && Nat.beq sz sz'' with | true => bnd (getI xs i) fun _ => k (.eptr b sz i.toNat 0) | false => none)
      | _ => none)
    | .slp b sz' o len => (match nth H b with
      | some (.arr sz'' xs) => (match Nat.beq sz sz' && Nat.beq sz sz'' with | true => bnd (getI ((xs.drop o).take len) i) fun _ => k (.eptr b sz (o + i.toNat) 0) | false => none)
      | _ => none)
    | _ => none)
  | _ => none

noncomputable def indexK (len sz : Nat) (ag : Bool) (x i : V) (k : V → Option β) : Option β :=
  match i with
  | .d (.int _ i) => br (x.isAggV && (decide (0 ≤ i) && decide (i < len))) (bnd (oneCell sz ag (x.cells.drop (i.toNat * sz))) k) none
  | _ => none

noncomputable def iaddrAK (H : Heap) (len sz : Nat) (x i : V) (k : V → Option β) : Option β :=
  match i with
  | .d (.int _ i) => br (decide (0 ≤ i) && decide (i < len)) (match faddrE H (i.toNat * sz) x with | some v => k v | none => none) none
  | _ => none

noncomputable def indexSK (x i : V) (k : V → Option β) : Option β :=
  match x, i with
  | .d (.str s), .d (.int _ i) => br (decide (0 ≤ i)) (bnd s[i.toNat]? fun b => k (.d (.int .u8 b.toNat))) none
  | _, _ => none

noncomputable def call0K (k : V → Option β) (r : V × Heap) : Option β := match fr r.2 6 r.1 with | some (x, _) => tellD x k | none => none
noncomputable def callK (Γ : Ctx) (cf : CallF) (nid : Nat) (H : Heap) (f : Nat) (args : List V) (k : K3 β) : Option β :=
  match Γ.mode f with
  | 0 => (match fzs H args with
    | some l => forceVs (mapd l) fun l => bnd (cf f l []) (call0K fun v => k v [] [])
    | none => none)
  | 1 => (match fzs H args with
    | some l => forceVs (mapd l) fun l => bnd (cf f l []) fun r => (match escV r.1 && escBs r.2 with | true => k (renV (fun j => some (nid + j)) r.1) [] (r.2.map (renB (fun j => some (nid + j)))) | false => none)
    | none => none)
  | _ => (extractK 0 args H fun L args' H0 => bnd (cf f args' H0) fun r => (match nofnV r.1 && nofnBs r.2 with
        | true => k (renV (fun j => match nth L j with | some b => some b | none => some (nid + (j - L.length))) r.1)
          (L.zip (r.2.map (renB (fun j => match nth L j with | some b => some b | none => some (nid + (j - L.length))))))
          ((r.2.drop L.length).map (renB (fun j => match nth L j with | some b => some b | none => some (nid + (j - L.length)))))
        | false => none))

noncomputable def mapsetK (H : Heap) (ks : List Bool) (m k v : V) (kk : K3 β) : Option β :=
  match m, k, v with
  | .mp b, .d k, .d y => (match nth H b with
    | some (.mp es) => (match kindsD ks k && flat1 y with | true => bnd (setM es k y) fun l => kk .bad [(b, .mp l)] [] | false => none)
    | _ => none)
  | _, _, _ => none
noncomputable def mapgetK (H : Heap) (ks : List Bool) (z : D) (m k : V) (kk : K3 β) : Option β :=
  match m, k with
  | .mp b, .d k => (match nth H b with
    | some (.mp es) => (match kindsD ks k with | true => bnd (getM es k z) fun y => kk (.d y) [] [] | false => none)
    | _ => none)
  | _, _ => none

noncomputable def opK (Γ : Ctx) (cf : CallF) (e : Env) (nid : Nat) (H : Heap) (o : O) (k : K3 β) : Option β :=
  match o with
  | .mov x => k (x.val e) [] []
  | .pick c a b => (match c.val e with | .d (.bool t) => brL t (k (a.val e) [] []) (k (b.val e) [] []) | _ => none)
  | .load n ag x => loadK H n ag (x.val e) fun v => k v [] []
  | .store n x v => storeK H n (x.val e) (v.val e) k
  | .bin op x y => binK op (x.val e) (y.val e) fun v => k v [] []
  | .slice sz x lo hi mx => sliceK H sz (x.val e) (lo.map (·.val e)) (hi.map (·.val e)) (mx.map (·.val e)) fun v => k v [] []
  | .iaddr sz x i => iaddrK H sz (x.val e) (i.val e) fun v => k v [] []
  | .index len sz ag x i => indexK len sz ag (x.val e) (i.val e) fun v => k v [] []
  | .iaddrA len sz x i => iaddrAK H len sz (x.val e) (i.val e) fun v => k v [] []
  | .indexS x i => indexSK (x.val e) (i.val e) fun v => k v [] []
  | .append sz x y => appendK nid H sz (x.val e) (y.val e) k
  | .appendD sz x y => appendDK H sz (x.val e) (y.val e) fun v => k v [] []
  | .eqv ks neg x y => (match x.val e, y.val e with
    | .d a, .d b => (match kindsD ks a with | true => (match eqD a b with | some r => boolK (bif neg then !r else r) fun v => k v [] [] | none => none) | false => none)
    | _, _ => none)
  | .un .not x => (match x.val e with | .d (.bool b) => brL b (k (.d (.bool false)) [] []) (k (.d (.bool true)) [] []) | _ => none)
  | .extract x i => (match x.val e with
    | .tup vs => (match nth vs i with | some (.d (.bool c)) => boolK c fun v => k v [] [] | some v => k v [] [] | none => none)
    | .d (.tup vs) => (match nth vs i with | some (.bool c) => boolK c fun v => k v [] [] | some v => k (.d v) [] [] | none => none)
    | _ => none)
  | .mkslice sz z n c => (match n.val e, c.val e with
    | .d (.int _ n), .d (.int _ c) => br (decide (0 ≤ n) && decide (n ≤ lim) && decide (n == c))
        (bnd (some (List.replicate n.toNat (match z with | [x] => x | z => .agg z))) fun zs => k (.sl nid sz) [] [.arr sz zs]) none
    | _, _ => none)
  | .len x => (match elems H (x.val e) with | some xs => bnd (some (xs.length : Int)) fun n => k (.d (.int .i64 n)) [] [] | none => none)
  | .call f args => callK Γ cf nid H f (vals e args) k
  | .callv x args => (match capsOf (x.val e) with | some (f, caps) => (match callvBad Γ (x.val e) f caps with | true => none | false => callK Γ cf nid H f (vals e args ++ caps) k) | none => none)
  | .invoke tab x args => (match x.val e with
    | .d (.iface t y) => (match lookT tab t with | some f => callK Γ cf nid H f (.d y :: vals e args) k | none => none)
    | _ => none)
  | .callk f args _ => callK Γ cf nid H f (vals e args) k
  | .spec id args => (match H, allD (vals e args) with | [], some l => bnd (specE id l) fun r => k (.d r) [] [] | _, _ => none)
  | .nilq x => (match elems H (x.val e) with | some xs => br (Nat.blt 0 xs.length) (k (.d (.bool false)) [] []) none | none => none)
  | .mapset ks m x v => mapsetK H ks (m.val e) (x.val e) (v.val e) k
  | .mapget ks z m x => mapgetK H ks z (m.val e) (x.val e) k
  | o => match opE Γ cf e nid H o with | some (v, up, nw) => tellV v fun v => k v up nw | none => none

def on3 (x : Res) (k : K3 β) : Option β := match x with | some (v, up, nw) => k v up nw | none => none


theorem callK_eq (Γ : Ctx) (cf : CallF) (nid : Nat) (H : Heap) (f : Nat) (args : List V) (k : K3 β) : callK Γ cf nid H f args k = on3 (callE Γ cf nid H f args) k := by
  unfold callK callE
  generalize Γ.mode f = m
  match m with
  | 0 =>
    dsimp only
    simp only [bnd_eq]
    cases h1 : fzs H args with
    | none => rfl
    | some l =>
      simp only [forceVs_eq]
      cases h2 : cf f (mapd l) [] with
      | none => rfl
      | some r =>
        obtain ⟨v, H1⟩ := r
        dsimp only [call0K]
        cases h3 : fr H1 6 v with
        | none => rfl
        | some q => obtain ⟨x, ks⟩ := q; cases x <;> try rfl
                    exact boolK_eq _ (fun v => k v [] [])
  | 1 =>
    dsimp only
    simp only [bnd_eq]
    cases h1 : fzs H args with
    | none => rfl
    | some l =>
      simp only [forceVs_eq]
      cases h2 : cf f (mapd l) [] with
      | none => rfl
      | some r =>
        dsimp only
        cases h3 : (escV r.1 && escBs r.2) <;> rfl
  | m + 2 =>
    dsimp only
    simp only [bnd_eq]
    rw [extractK_eq]
    cases h1 : extract 0 args H with
    | none => rfl
    | some q =>
      obtain ⟨L, args', H0⟩ := q
      dsimp only
      cases h2 : cf f args' H0 with
      | none => rfl
      | some r =>
        dsimp only
        cases h3 : (nofnV r.1 && nofnBs r.2) <;> rfl

theorem binK_eq (op : BinOp) (x y : V) (k : V → Option β) : binK op x y k = (match binE op x y with | some r => k (.d r) | none => none) := by
  unfold binK
  split
  · rename_i i a j b
    simp only [binE, binI]
    cases h : (i == j) <;> simp only [cond_true, cond_false, br_cond]
    cases h2 : (b == 0) <;> rfl
  · rename_i i a j b
    simp only [binE, binI]
    cases h : (i == j) <;> simp only [cond_true, cond_false, br_cond]
    cases h2 : (b == 0) <;> rfl
  · rename_i i a j b
    simp only [binE, shI, br_cond]
    cases h : decide (b < 0) <;> rfl
  · rename_i i a j b
    simp only [binE, shI, br_cond]
    cases h : decide (b < 0) <;> rfl
  · cases h : binE op x y with
    | none => rfl
    | some r => cases r <;> try rfl
                exact boolK_eq _ _

theorem loadK_eq (H : Heap) (n : Nat) (ag : Bool) (x : V) (k : V → Option β) : loadK H n ag x k = (match loadE H n ag x with | some v => k v | none => none) := by
  unfold loadK
  simp only [bnd_eq]
  simp only [tellV_eq]
  split
  · rename_i b sz i j
    simp only [loadE]
    cases h : nth H b with
    | none => rfl
    | some blk =>
      cases blk <;> try rfl
      rename_i sz' xs
      dsimp only
      cases h2 : Nat.beq sz sz' <;> simp only [cond_true, cond_false]
      cases h3 : nth xs i <;> rfl
  · rfl

theorem storeK_eq (H : Heap) (n : Nat) (x v : V) (k : K3 β) : storeK H n x v k = on3 (storeE H n x v) k := by
  unfold storeK
  simp only [bnd_eq]
  split
  · rename_i b sz i j
    simp only [storeE]
    cases h : nth H b with
    | none => rfl
    | some blk =>
      cases blk <;> try rfl
      rename_i sz' xs
      dsimp only
      cases h2 : Nat.beq sz sz' <;> simp only [cond_true, cond_false] <;> try rfl
      cases h3 : nth xs i with
      | none => rfl
      | some x =>
        cases h4 : fr H 6 v with
        | none => rfl
        | some q =>
          obtain ⟨y, ks⟩ := q
          dsimp only
          cases h5 : elem ks b <;> simp only [cond_true, cond_false] <;> try rfl
          cases h6 : (Nat.beq y.cells.length n && Nat.ble (j + n) x.cells.length && (V.d y).okb && (x.isAgg || !y.isAgg)) <;> rfl
  · rfl

theorem appendK_eq (nid : Nat) (H : Heap) (sz : Nat) (x y : V) (k : K3 β) : appendK nid H sz x y k = on3 (appendE nid H sz x y) k := by
  unfold appendK appendE
  cases h : elems H y with
  | none => rfl
  | some ys =>
    simp only [br_cond, bnd_s]
    cases h0 : szAt sz ys 0 <;> simp only [cond_true, cond_false] <;> try rfl
    cases x <;> try rfl
    · rename_i b sz'
      dsimp only
      cases h1 : nth H b with
      | none => rfl
      | some blk =>
        cases blk <;> try rfl
        rename_i sz'' xs
        dsimp only
        cases h2 : (Nat.beq sz sz' && Nat.beq sz sz'') <;> simp only [cond_true, cond_false] <;> try rfl
        cases h3 : Nat.ble (xs.length + ys.length) lim <;> rfl
    · rename_i b sz' o len
      dsimp only
      cases h1 : nth H b with
      | none => rfl
      | some blk =>
        cases blk <;> try rfl
        rename_i sz'' xs
        dsimp only
        cases h2 : (Nat.beq sz sz' && Nat.beq sz sz'')
        · simp only [Bool.false_and, cond_false]; rfl
        · simp only [Bool.true_and, br_cond]
          cases h3 : Nat.ble (o + len + ys.length) xs.length <;> rfl
    · dsimp only
      cases h3 : Nat.ble ys.length lim <;> rfl

theorem appendDK_eq (H : Heap) (sz : Nat) (x y : V) (k : V → Option β) : appendDK H sz x y k = (match appendDE H sz x y with | some v => k v | none => none) := by
  unfold appendDK appendDE
  cases x <;> try rfl
  dsimp only
  cases h : elems H y with
  | none => rfl
  | some ys =>
    simp only [br_cond, bnd_s]
    cases h0 : szAt sz ys 0 <;> cases h1 : Nat.ble ys.length lim <;> rfl

theorem asNatK_eq (v : Option V) (d : Nat) (k : Nat → Option β) : asNatK v d k = (match asNat v d with | some n => k n | none => none) := by
  unfold asNatK asNat
  cases v with
  | none => rfl
  | some v =>
    cases v <;> try rfl
    rename_i x
    cases x <;> try rfl
    rename_i i n
    dsimp only
    rw [br_cond]
    cases h : decide (0 ≤ n) <;> rfl

theorem sliceK_eq (H : Heap) (sz : Nat) (x : V) (lo hi mx : Option V) (k : V → Option β) : sliceK H sz x lo hi mx k = (match sliceE H sz x lo hi mx with | some v => k v | none => none) := by
  unfold sliceK sliceE
  cases h : elems H x with
  | none => rfl
  | some xs =>
    simp only [asNatK_eq]
    cases h1 : asNat lo 0 with
    | none => rfl
    | some l =>
      cases h2 : asNat hi xs.length with
      | none => rfl
      | some hh =>
        simp only [br_cond, bnd_s]
        cases h3 : (Nat.ble l hh && Nat.ble hh xs.length) <;> simp only [cond_true, cond_false]
        cases mx with
        | none =>
          cases x <;> try rfl
          · rename_i x
            cases x <;> try rfl
            dsimp only
            cases h4 : (Nat.beq l 0 || szAt sz xs l) <;> rfl
          · rename_i b sz'
            dsimp only
            cases h4 : Nat.beq sz sz' <;> rfl
          · rename_i b sz' o len
            dsimp only
            cases h4 : Nat.beq sz sz' <;> rfl
        | some m =>
          dsimp only
          cases h4 : asNat (some m) 0 with
          | none => rfl
          | some m =>
            dsimp only
            cases h5 : (Nat.beq m l && Nat.beq m hh) <;> rfl

theorem iaddrK_eq (H : Heap) (sz : Nat) (x i : V) (k : V → Option β) : iaddrK H sz x i k = (match iaddrE H sz x i with | some v => k v | none => none) := by
  unfold iaddrK iaddrE
  simp only [bnd_eq]
  cases i <;> try rfl
  rename_i i
  cases i <;> try rfl
  rename_i ki i
  cases x <;> try rfl
  · rename_i x
    cases x <;> try rfl
    rename_i own xs
    dsimp only
    cases h : getI xs i with
    | none => rfl
    | some x =>
      dsimp only
      cases h2 : (Nat.beq x.cells.length sz && (V.d x).okb) <;> rfl
  · rename_i b sz'
    dsimp only
    cases h1 : nth H b with
    | none => rfl
    | some blk =>
      cases blk <;> try rfl
      rename_i sz'' xs
      dsimp only
      cases h2 : (Nat.beq sz sz' && Nat.beq sz sz'') <;> simp only [cond_true, cond_false]
      cases h : getI xs i <;> rfl
  · rename_i b sz' o len
    dsimp only
    cases h1 : nth H b with
    | none => rfl
    | some blk =>
      cases blk <;> try rfl
      rename_i sz'' xs
      dsimp only
      cases h2 : (Nat.beq sz sz' && Nat.beq sz sz'') <;> simp only [cond_true, cond_false]
      cases h : getI ((xs.drop o).take len) i <;> rfl

theorem on3_some (o : Option V) (k : V → Option β) : on3 (match o with | some v => ret1 v | none => none) (fun v _ _ => k v) = (match o with | some v => k v | none => none) := by
  cases o <;> rfl

theorem indexK_eq (len sz : Nat) (ag : Bool) (x i : V) (k : V → Option β) : indexK len sz ag x i k = (match indexE len sz ag x i with | some v => k v | none => none) := by
  unfold indexK indexE
  cases i <;> try rfl
  rename_i i
  cases i <;> try rfl
  rename_i ki i
  dsimp only
  rw [br_cond, bnd_eq]
  cases (x.isAggV && (decide (0 ≤ i) && decide (i < (len : Int)))) with
  | false => rfl
  | true => simp only [cond_true]; cases oneCell sz ag (List.drop (i.toNat * sz) x.cells) <;> rfl

theorem iaddrAK_eq (H : Heap) (len sz : Nat) (x i : V) (k : V → Option β) : iaddrAK H len sz x i k = (match iaddrAE H len sz x i with | some v => k v | none => none) := by
  unfold iaddrAK iaddrAE
  cases i <;> try rfl
  rename_i i
  cases i <;> try rfl
  rename_i ki i
  dsimp only
  rw [br_cond]
  cases (decide (0 ≤ i) && decide (i < (len : Int))) <;> rfl

theorem indexSK_eq (x i : V) (k : V → Option β) : indexSK x i k = (match indexSE x i with | some v => k v | none => none) := by
  unfold indexSK indexSE
  cases x <;> try rfl
  rename_i x
  cases x <;> try rfl
  rename_i s
  cases i <;> try rfl
  rename_i i
  cases i <;> try rfl
  rename_i ki i
  dsimp only
  rw [br_cond, bnd_eq]
  cases decide (0 ≤ i) with
  | false => rfl
  | true => simp only [cond_true]; cases s[i.toNat]? <;> rfl

theorem fall_eq (x : Res) (k : K3 β) : (match x with | some (v, up, nw) => tellV v fun v => k v up nw | none => none) = on3 x k := by
  cases x with
  | none => rfl
  | some q => exact tellV_eq _ _

theorem mapsetK_eq (H : Heap) (ks : List Bool) (m x v : V) (k : K3 β) : mapsetK H ks m x v k = on3 (mapsetE H ks m x v) k := by
  unfold mapsetK mapsetE
  cases m <;> try rfl
  cases x <;> try rfl
  cases v <;> try rfl
  rename_i b x y
  dsimp only
  cases hb : nth H b with
  | none => rfl
  | some blk =>
    cases blk <;> try rfl
    rename_i es
    dsimp only
    cases hk : (kindsD ks x && flat1 y) with
    | false => rfl
    | true =>
      dsimp only
      rw [bnd_eq]
      cases hs : setM es x y <;> rfl
theorem mapgetK_eq (H : Heap) (ks : List Bool) (z : D) (m x : V) (k : K3 β) : mapgetK H ks z m x k = on3 (match mapgetE H ks z m x with | some r => ret1 (.d r) | none => none) k := by
  unfold mapgetK mapgetE
  cases m <;> try rfl
  cases x <;> try rfl
  rename_i b x
  dsimp only
  cases hb : nth H b with
  | none => rfl
  | some blk =>
    cases blk <;> try rfl
    rename_i es
    dsimp only
    cases hk : kindsD ks x with
    | false => rfl
    | true =>
      dsimp only
      rw [bnd_eq]
      cases hs : getM es x z <;> rfl
theorem opK_eq (Γ : Ctx) (cf : CallF) (e : Env) (nid : Nat) (H : Heap) (o : O) (k : K3 β) : opK Γ cf e nid H o k = on3 (opE Γ cf e nid H o) k := by
  cases o <;> try (first | rfl | exact fall_eq _ _)
  · rename_i c a b
    show (match c.val e with | .d (.bool t) => brL t (k (a.val e) [] []) (k (b.val e) [] []) | _ => none) = on3 (match c.val e with | .d (.bool t) => ret1 (bif t then a.val e else b.val e) | _ => none) k
    cases c.val e <;> try rfl
    rename_i x
    cases x <;> try rfl
    rename_i t
    cases t <;> rfl
  · rename_i n ag x
    show loadK H n ag (x.val e) (fun v => k v [] []) = on3 (match loadE H n ag (x.val e) with | some v => ret1 v | none => none) k
    rw [loadK_eq]
    cases h : loadE H n ag (x.val e) <;> rfl
  · exact storeK_eq _ _ _ _ _
  · rename_i op x y
    show binK op (x.val e) (y.val e) (fun v => k v [] []) = on3 (match binE op (x.val e) (y.val e) with | some r => ret1 (.d r) | none => none) k
    rw [binK_eq]
    cases h : binE op (x.val e) (y.val e) <;> rfl
  · rename_i ks neg x y
    show (match x.val e, y.val e with
      | .d a, .d b => (match kindsD ks a with | true => (match eqD a b with | some r => boolK (bif neg then !r else r) (fun v => k v [] []) | none => none) | false => none)
      | _, _ => none) = on3 (match x.val e, y.val e with
      | .d a, .d b => (match kindsD ks a with | true => (match eqD a b with | some r => ret1 (.d (.bool (bif neg then !r else r))) | none => none) | false => none)
      | _, _ => none) k
    cases x.val e <;> try rfl
    rename_i a
    cases y.val e <;> try rfl
    rename_i b
    dsimp only
    cases hn : kindsD ks a <;> try rfl
    dsimp only
    cases h : eqD a b with
    | none => rfl
    | some r => exact boolK_eq _ _
  · rename_i op x
    cases op <;> try (first | rfl | exact fall_eq _ _)
    show (match x.val e with | .d (.bool b) => brL b (k (.d (.bool false)) [] []) (k (.d (.bool true)) [] []) | _ => none) = on3 (match unE .not (x.val e) with | some r => ret1 (.d r) | none => none) k
    cases x.val e <;> try rfl
    rename_i a
    cases a <;> try rfl
    rename_i b
    cases b <;> rfl
  · rename_i f caps
    cases caps <;> rfl
  · rename_i sz z n c
    show (match n.val e, c.val e with
      | .d (.int _ n), .d (.int _ c) => br (decide (0 ≤ n) && decide (n ≤ lim) && decide (n == c)) (bnd (some (List.replicate n.toNat (match z with | [x] => x | z => .agg z))) fun zs => k (.sl nid sz) [] [.arr sz zs]) none
      | _, _ => none) = on3 (match n.val e, c.val e with
      | .d (.int _ n), .d (.int _ c) => bif decide (0 ≤ n) && decide (n ≤ lim) && decide (n == c) then some (.sl nid sz, [], [.arr sz (List.replicate n.toNat (match z with | [x] => x | z => .agg z))]) else none
      | _, _ => none) k
    cases n.val e <;> try rfl
    rename_i x
    cases x <;> try rfl
    rename_i i n1
    cases c.val e <;> try rfl
    rename_i x
    cases x <;> try rfl
    rename_i j c1
    dsimp only
    simp only [br_cond, bnd_s]
    cases h3 : (decide (0 ≤ n1) && decide (n1 ≤ lim) && decide (n1 == c1)) <;> rfl
  · rename_i sz x lo hi mx
    show sliceK H sz (x.val e) (lo.map (·.val e)) (hi.map (·.val e)) (mx.map (·.val e)) (fun v => k v [] []) = on3 (match sliceE H sz (x.val e) (lo.map (·.val e)) (hi.map (·.val e)) (mx.map (·.val e)) with | some v => ret1 v | none => none) k
    rw [sliceK_eq]
    cases h : sliceE H sz (x.val e) (lo.map (·.val e)) (hi.map (·.val e)) (mx.map (·.val e)) <;> rfl
  · rename_i sz x i
    show iaddrK H sz (x.val e) (i.val e) (fun v => k v [] []) = on3 (match iaddrE H sz (x.val e) (i.val e) with | some v => ret1 v | none => none) k
    rw [iaddrK_eq]
    cases h : iaddrE H sz (x.val e) (i.val e) <;> rfl
  · rename_i len sz ag x i
    show indexK len sz ag (x.val e) (i.val e) (fun v => k v [] []) = on3 (match indexE len sz ag (x.val e) (i.val e) with | some v => ret1 v | none => none) k
    rw [indexK_eq]
    cases h : indexE len sz ag (x.val e) (i.val e) <;> rfl
  · rename_i x i
    show indexSK (x.val e) (i.val e) (fun v => k v [] []) = on3 (match indexSE (x.val e) (i.val e) with | some v => ret1 v | none => none) k
    rw [indexSK_eq]
    cases h : indexSE (x.val e) (i.val e) <;> rfl
  · rename_i len sz x i
    show iaddrAK H len sz (x.val e) (i.val e) (fun v => k v [] []) = on3 (match iaddrAE H len sz (x.val e) (i.val e) with | some v => ret1 v | none => none) k
    rw [iaddrAK_eq]
    cases h : iaddrAE H len sz (x.val e) (i.val e) <;> rfl
  · rename_i x
    show (match elems H (x.val e) with | some xs => bnd (some (xs.length : Int)) fun n => k (.d (.int .i64 n)) [] [] | none => none) = on3 (match lenE H (x.val e) with | some r => ret1 (.d r) | none => none) k
    unfold lenE
    cases elems H (x.val e) with
    | none => rfl
    | some xs => exact bnd_s _ _
  · exact appendK_eq _ _ _ _ _ _
  · rename_i sz x y
    show appendDK H sz (x.val e) (y.val e) (fun v => k v [] []) = on3 (match appendDE H sz (x.val e) (y.val e) with | some v => ret1 v | none => none) k
    rw [appendDK_eq]
    cases h : appendDE H sz (x.val e) (y.val e) <;> rfl
  · rename_i x i
    show (match x.val e with
      | .tup vs => (match nth vs i with | some (.d (.bool c)) => boolK c (fun v => k v [] []) | some v => k v [] [] | none => none)
      | .d (.tup vs) => (match nth vs i with | some (.bool c) => boolK c (fun v => k v [] []) | some v => k (.d v) [] [] | none => none)
      | _ => none) = on3 (match x.val e with
      | .tup vs => (match nth vs i with | some v => ret1 v | none => none)
      | .d (.tup vs) => (match nth vs i with | some v => ret1 (.d v) | none => none)
      | _ => none) k
    cases x.val e <;> try rfl
    · rename_i y
      cases y <;> try rfl
      rename_i vs
      dsimp only
      cases nth vs i with
      | none => rfl
      | some v => cases v <;> try rfl
                  exact boolK_eq _ _
    · rename_i vs
      dsimp only
      cases nth vs i with
      | none => rfl
      | some v => cases v <;> try rfl
                  rename_i y
                  cases y <;> try rfl
                  exact boolK_eq _ _
  · exact callK_eq _ _ _ _ _ _ _
  · rename_i x args
    show (match capsOf (x.val e) with | some (f, caps) => (match callvBad Γ (x.val e) f caps with | true => none | false => callK Γ cf nid H f (vals e args ++ caps) k) | none => none) = _
    rw [opE_callv]
    cases h : capsOf (x.val e) with
    | none => rfl
    | some q =>
      obtain ⟨f, caps⟩ := q
      dsimp only
      cases hb : callvBad Γ (x.val e) f caps
      · exact callK_eq _ _ _ _ _ _ _
      · rfl
  · rename_i tab x args
    show (match x.val e with
      | .d (.iface t y) => (match lookT tab t with | some f => callK Γ cf nid H f (.d y :: vals e args) k | none => none)
      | _ => none) = _
    rw [opE_invoke]
    cases h : x.val e <;> try rfl
    rename_i y
    cases y <;> try rfl
    rename_i t y
    dsimp only
    cases h2 : lookT tab t with
    | none => rfl
    | some f => exact callK_eq _ _ _ _ _ _ _
  · exact mapsetK_eq _ _ _ _ _ _
  · exact mapgetK_eq _ _ _ _ _ _
  · exact callK_eq _ _ _ _ _ _ _
  · rename_i x
    show (match elems H (x.val e) with | some xs => br (Nat.blt 0 xs.length) (k (.d (.bool false)) [] []) none | none => none) = on3 (match elems H (x.val e) with | some xs => (match Nat.blt 0 xs.length with | true => ret1 (.d (.bool false)) | false => none) | none => none) k
    cases elems H (x.val e) with
    | none => rfl
    | some xs =>
      dsimp only
      rw [br_cond]
      cases Nat.blt 0 xs.length <;> rfl
  · rename_i id args
    show (match H, allD (vals e args) with | [], some l => bnd (specE id l) fun r => k (.d r) [] [] | _, _ => none) = on3 (match H, allD (vals e args) with | [], some l => (match specE id l with | some r => ret1 (.d r) | none => none) | _, _ => none) k
    cases H <;> cases allD (vals e args) <;> try rfl
    rename_i l
    dsimp only
    rw [bnd_eq]
    cases specE id l <;> rfl

def wantsK (e : Env) (g : Option (Nat × Bool)) (x y : Option β) : Option β :=
  match g with
  | none => x
  | some (s, b) => match e s with | .d (.bool t) => brL (t == b) x y | .d (.tup []) => y | _ => none

theorem wantsK_eq (e : Env) (g : Option (Nat × Bool)) (x y : Option β) : wantsK e g x y = (match wants e g with | some true => x | some false => y | none => none) := by
  unfold wantsK wants
  cases g with
  | none => rfl
  | some p =>
    obtain ⟨s, b⟩ := p
    dsimp only
    split <;> rename_i h
    · simp only [h, brL]; rename_i t; cases h2 : t == b <;> rfl
    · simp only [h]
    · split <;> simp_all
end

section
variable {β : Type}
/-- behind an operation: its slot, and the heap, laid open -/
def contK (e : Env) (dst : Option Nat) (H : Heap) (v : V) (up : List (Nat × Blk)) (nw : List Blk) (k : Env → Heap → Option β) : Option β :=
  forceV v fun v => match dst with
    | some i => (match up, nw with
      | [], [] => k (e.set i v) H
      | up, nw => forceH (updH H up ++ nw) fun H => k (e.set i v) H)
    | none => (match up, nw with
      | [], [] => k e H
      | up, nw => forceH (updH H up ++ nw) fun H => k e H)

theorem contK_eq (e : Env) (dst : Option Nat) (H : Heap) (v : V) (up : List (Nat × Blk)) (nw : List Blk) (k : Env → Heap → Option β) : contK e dst H v up nw k = k (setO e dst v) (updH H up ++ nw) := by
  unfold contK
  rw [forceV_eq]
  cases dst <;> dsimp only [setO]
  all_goals
    split
    · simp [updH]
    · rw [forceH_eq]

def skipK (e : Env) (dst : Option Nat) (k : Env → Option β) : Option β := match dst with | some i => k (e.set i (.d (.tup []))) | none => k e
theorem skipK_eq (e : Env) (dst : Option Nat) (k : Env → Option β) : skipK e dst k = k (setO e dst (.d (.tup []))) := by cases dst <;> rfl

/-- it looks at no heap -/
def noLook : O → Bool
  | .mov _ => true
  | .pick _ _ _ => true
  | .build _ _ => true
  | .bin _ _ _ => true
  | .eqv _ _ _ _ => true
  | .un _ _ => true
  | .conv _ _ => true
  | .mkfn _ _ => true
  | .field _ _ _ _ => true
  | .index _ _ _ _ _ => true
  | .indexS _ _ => true
  | .mx _ _ => true
  | .extract _ _ => true
  | .bslice _ _ 0 _ => true
  | .alloc _ => true
  | .box _ => true
  | _ => false
theorem noLook_ok {Γ : Ctx} {cf : CallF} {e : Env} {nid : Nat} {H H' : Heap} {op : O} (h : noLook op = true) : opE Γ cf e nid H op = opE Γ cf e nid H' op := by
  cases op <;> first | rfl | (cases h; done) | skip
  rename_i sz z len ps
  cases len with
  | zero => rfl
  | succ n => cases h

/-- (By the recursor itself: what is left to do then reads the same to whoever looks at it.) -/
noncomputable def opsK (Γ : Ctx) (cf : CallF) (l : List Op1) (e : Env) (H : Heap) (k : Env → Heap → Option β) : Option β :=
  List.rec (motive := fun _ => Env → Heap → (Env → Heap → Option β) → Option β) (fun e H k => k e H)
    (fun o _ ih e H k => wantsK e o.guard (forceN H.length fun nid => opK Γ cf e nid H o.op fun v up nw => contK e o.dst H v up nw fun e H => ih e H k) (skipK e o.dst fun e => ih e H k)) l e H k
theorem opsK_cons (Γ : Ctx) (cf : CallF) (o : Op1) (r : List Op1) (e : Env) (H : Heap) (k : Env → Heap → Option β) :
    opsK Γ cf (o :: r) e H k = wantsK e o.guard (forceN H.length fun nid => opK Γ cf e nid H o.op fun v up nw => contK e o.dst H v up nw fun e H => opsK Γ cf r e H k) (skipK e o.dst fun e => opsK Γ cf r e H k) := rfl

theorem opsK_eq (Γ : Ctx) (cf : CallF) : ∀ (l : List Op1) (e : Env) (H : Heap) (k : Env → Heap → Option β), opsK Γ cf l e H k = (match opsE Γ cf l e H with | some (e, H) => k e H | none => none)
  | [], e, H, k => rfl
  | o :: l, e, H, k => by
    rw [opsK_cons]
    unfold opsE
    rw [wantsK_eq, forceN_eq, opK_eq, skipK_eq]
    cases hw : wants e o.guard with
    | none => rfl
    | some b =>
      cases b with
      | false => exact opsK_eq Γ cf l _ _ k
      | true =>
        dsimp only
        cases ho : opE Γ cf e H.length H o.op with
        | none => rfl
        | some q => obtain ⟨v, up, nw⟩ := q; simp only [on3, contK_eq]; exact opsK_eq Γ cf l _ _ k

def forceP (l : List (Nat × Nat)) (k : List (Nat × Nat) → Option β) : Option β :=
  match l with
  | [] => k []
  | p :: l => forceN p.1 fun a => forceN p.2 fun b => forceP l fun l => k ((a, b) :: l)
theorem forceP_eq : ∀ (l : List (Nat × Nat)) (k : List (Nat × Nat) → Option β), forceP l k = k l
  | [], k => rfl
  | p :: l, k => by unfold forceP; rw [forceN_eq, forceN_eq, forceP_eq l]

/-- the heap in sight, laid open where it is looked at -/
def seeK (o : O) (mask : List Nat) (H : Heap) (pos : List (Nat × Nat)) (k : Heap → Option β) : Option β :=
  match noLook o with
  | true => k H
  | false => (match mask with | [] => k H | mask => forceH (hideH H pos mask) k)

noncomputable def drawK (Γ : Ctx) (cf : CallF) (pos : List (Nat × Nat)) (l : List Op1) (e : Env) (H : Heap) (k : Env → Heap → Option β) : Option β :=
  List.rec (motive := fun _ => List (Nat × Nat) → Env → Heap → (Env → Heap → Option β) → Option β) (fun _ e H k => k e H)
    (fun o _ ih pos e H k => wantsK e o.guard (forceN H.length fun nid => seeK o.op o.mask H pos fun Hm => opK Γ cf e nid Hm o.op fun v up nw =>
      (match effC e H o up nw with | true => forceN nw.length fun m => forceP (pos ++ [(nid, m)]) fun pos => contK e o.dst H v up nw fun e' H' => ih pos e' H' k | false => none)) (skipK e o.dst fun e' => forceN H.length fun nid => forceP (pos ++ [(nid, 0)]) fun pos => ih pos e' H k)) l pos e H k
theorem drawK_cons (Γ : Ctx) (cf : CallF) (pos : List (Nat × Nat)) (o : Op1) (r : List Op1) (e : Env) (H : Heap) (k : Env → Heap → Option β) :
    drawK Γ cf pos (o :: r) e H k = wantsK e o.guard (forceN H.length fun nid => seeK o.op o.mask H pos fun Hm => opK Γ cf e nid Hm o.op fun v up nw =>
      (match effC e H o up nw with | true => forceN nw.length fun m => forceP (pos ++ [(nid, m)]) fun pos => contK e o.dst H v up nw fun e' H' => drawK Γ cf pos r e' H' k | false => none)) (skipK e o.dst fun e' => forceN H.length fun nid => forceP (pos ++ [(nid, 0)]) fun pos => drawK Γ cf pos r e' H k) := rfl

theorem seeK_opK (Γ : Ctx) (cf : CallF) (e : Env) (nid : Nat) (o : O) (mask : List Nat) (H : Heap) (pos : List (Nat × Nat)) (k : K3 β) : (seeK o mask H pos fun Hm => opK Γ cf e nid Hm o k) = opK Γ cf e nid (hideH H pos mask) o k := by
  unfold seeK
  cases h : noLook o with
  | true => dsimp only; rw [opK_eq, opK_eq, noLook_ok h (H := H) (H' := hideH H pos mask)]
  | false =>
    dsimp only
    cases mask with
    | nil => rfl
    | cons a l => dsimp only; rw [forceH_eq]

theorem drawK_eq (Γ : Ctx) (cf : CallF) : ∀ (l : List Op1) (pos : List (Nat × Nat)) (e : Env) (H : Heap) (k : Env → Heap → Option β), drawK Γ cf pos l e H k = (match drawE Γ cf pos l e H with | some (e, H) => k e H | none => none)
  | [], pos, e, H, k => rfl
  | o :: l, pos, e, H, k => by
    rw [drawK_cons]
    unfold drawE
    rw [wantsK_eq, forceN_eq, seeK_opK, opK_eq, skipK_eq, forceN_eq, forceP_eq]
    cases hw : wants e o.guard with
    | none => rfl
    | some b =>
      cases b with
      | false => exact drawK_eq Γ cf l _ _ _ k
      | true =>
        dsimp only
        cases ho : opE Γ cf e H.length (hideH H pos o.mask) o.op with
        | none => rfl
        | some q =>
          obtain ⟨v, up, nw⟩ := q
          simp only [on3]
          cases hb : (effC e H o up nw) <;> simp only [cond_true, cond_false, contK_eq, forceN_eq, forceP_eq]
          exact drawK_eq Γ cf l _ _ _ k

/-- a loop, gone round as often as it takes -/
noncomputable def lpW (Γ : Ctx) (k : Nat) (live outs : List Nat) (a : C) (vs : List V) (H : Heap) : Option (Ex × List V × Heap) :=
  itW (fun vs H => roundE k live outs (codeE Γ (evW Γ) itW k a (envOf live vs) H)) vs H

noncomputable def codeK (Γ : Ctx) (k0 : Nat) (c : C) (e : Env) (H : Heap) (k : Ex → Env → Heap → Option β) : Option β :=
  C.rec (motive := fun _ => Env → Heap → (Ex → Env → Heap → Option β) → Option β)
    (fun e H k => k .normal e H) (fun e H k => k .ret e H) (fun id e H k => k (.exit id) e H)
    (fun _ _ ia ib e H k => ia e H fun x e H => (match x with | .normal => ib e H k | .exit i => k (.exit i) e H | .ret => k .ret e H))
    (fun x _ _ ia ib e H k => (match x.val e with | .d (.bool t) => brL t (ia e H k) (ib e H k) | _ => none))
    (fun id _ ia e H k => ia e H fun x e H => (match x with | .exit j => (match Nat.beq j id with | true => k .normal e H | false => k (.exit j) e H) | .normal => k .normal e H | .ret => k .ret e H))
    (fun live outs a _ e H k => headK k0 (live.map e) H fun vs H => bnd (lpW Γ k0 live outs a vs H) fun r => k r.1 (envOf outs r.2.1) r.2.2)
    (fun l e H k => opsK Γ (evW Γ) l e H fun e H => k .normal e H)
    (fun l e H k => drawK Γ (evW Γ) [] l e H fun e H => k .normal e H) c e H k

theorem codeK_eq (Γ : Ctx) (k0 : Nat) : ∀ (c : C) (e : Env) (H : Heap) (k : Ex → Env → Heap → Option β), codeK Γ k0 c e H k = (match codeE Γ (evW Γ) itW k0 c e H with | some (x, e, H) => k x e H | none => none) := by
  intro c
  induction c with
  | skip => intros; rfl
  | ret => intros; rfl
  | exit id => intros; rfl
  | seq a b iha ihb =>
    intro e H k
    show (codeK Γ k0 a e H fun x e H => (match x with | .normal => codeK Γ k0 b e H k | .exit i => k (.exit i) e H | .ret => k .ret e H)) = _
    unfold codeE
    rw [iha]
    cases h : codeE Γ (evW Γ) itW k0 a e H with
    | none => rfl
    | some q =>
      obtain ⟨x, e1, H1⟩ := q
      cases x with
      | normal => exact ihb e1 H1 k
      | exit i => rfl
      | ret => rfl
  | cond x a b iha ihb =>
    intro e H k
    show (match x.val e with | .d (.bool t) => brL t (codeK Γ k0 a e H k) (codeK Γ k0 b e H k) | _ => none) = _
    unfold codeE
    cases h : x.val e <;> try rfl
    rename_i y
    cases y <;> try rfl
    rename_i t
    cases t
    · exact ihb e H k
    · exact iha e H k
  | block id a iha =>
    intro e H k
    show (codeK Γ k0 a e H fun x e H => (match x with | .exit j => (match Nat.beq j id with | true => k .normal e H | false => k (.exit j) e H) | .normal => k .normal e H | .ret => k .ret e H)) = _
    unfold codeE
    rw [iha]
    cases h : codeE Γ (evW Γ) itW k0 a e H with
    | none => rfl
    | some q =>
      obtain ⟨x, e1, H1⟩ := q
      cases x with
      | normal => rfl
      | exit j => dsimp only; cases h2 : Nat.beq j id <;> rfl
      | ret => rfl
  | loop live outs a iha =>
    intro e H k
    show (headK k0 (live.map e) H fun vs H => bnd (lpW Γ k0 live outs a vs H) fun r => k r.1 (envOf outs r.2.1) r.2.2) = _
    unfold codeE
    rw [headK_eq]
    cases h : head k0 (live.map e) H with
    | none => rfl
    | some q =>
      obtain ⟨vs, H1⟩ := q
      simp only [lpW, bnd_eq]
      cases h2 : itW (fun vs H => roundE k0 live outs (codeE Γ (evW Γ) itW k0 a (envOf live vs) H)) vs H1 with
      | none => rfl
      | some r => obtain ⟨x, vs, H⟩ := r; rfl
  | ops l =>
    intro e H k
    show (opsK Γ (evW Γ) l e H fun e H => k .normal e H) = _
    unfold codeE
    rw [opsK_eq]
    cases h : opsE Γ (evW Γ) l e H <;> rfl
  | draw l =>
    intro e H k
    show (drawK Γ (evW Γ) [] l e H fun e H => k .normal e H) = _
    unfold codeE
    rw [drawK_eq]
    cases h : drawE Γ (evW Γ) [] l e H <;> rfl

/-- one round of a loop, and the loop -/
theorem lpW_eq (Γ : Ctx) (k : Nat) (live outs : List Nat) (a : C) (vs : List V) (H : Heap) :
    lpW Γ k live outs a vs H = codeK Γ k a (envOf live vs) H fun x e H => (match x with
      | .normal => headK k (live.map e) H fun vs H => lpW Γ k live outs a vs H
      | x => extractK k (outs.map e) H fun _ vs H => some (x, vs, H)) := by
  unfold lpW
  rw [itW_eq, codeK_eq]
  cases h : codeE Γ (evW Γ) itW k a (envOf live vs) H with
  | none => rfl
  | some q =>
    obtain ⟨x, e, H1⟩ := q
    cases x with
    | normal =>
      simp only [roundE]
      rw [headK_eq]
      cases h2 : head k (live.map e) H1 with
      | none => rfl
      | some r => obtain ⟨vs, H2⟩ := r; rfl
    | exit j =>
      simp only [roundE]
      rw [extractK_eq]
      cases h2 : extract k (outs.map e) H1 with
      | none => rfl
      | some r => obtain ⟨L, vs, H2⟩ := r; rfl
    | ret =>
      simp only [roundE]
      rw [extractK_eq]
      cases h2 : extract k (outs.map e) H1 with
      | none => rfl
      | some r => obtain ⟨L, vs, H2⟩ := r; rfl

/-- a call -/
theorem evW_K (Γ : Ctx) (f : Nat) (fn : FnI) (args : List V) (H : Heap) (hc : Γ.code f = some fn) (hn : Nat.beq args.length fn.nargs = true) :
    evW Γ f args H = codeK Γ H.length fn.body (argEnv 0 args) H fun x e H1 => (match x with
      | .exit _ => none
      | _ => (match resV e H1 fn.res with
        | some l => extractK H.length [oneRes l] H1 fun _ vs H2 => (match vs with | [v] => some (v, H2) | _ => none)
        | none => none)) := by
  rw [evW_eq]
  unfold funE
  simp only [hc, hn, cond_true]
  rw [codeK_eq]
  cases h : codeE Γ (evW Γ) itW H.length fn.body (argEnv 0 args) H with
  | none => rfl
  | some q =>
    obtain ⟨x, e, H1⟩ := q
    cases x <;> try rfl
    all_goals
      dsimp only
      cases h2 : resV e H1 fn.res with
      | none => rfl
      | some l =>
        dsimp only
        rw [extractK_eq]
        cases h3 : extract H.length [oneRes l] H1 with
        | none => rfl
        | some q =>
          obtain ⟨L, vs, H2⟩ := q
          match vs with
          | [] => rfl
          | [v] => rfl
          | _ :: _ :: _ => rfl

end
theorem br_t {β : Type} (x y : Option β) : br true x y = x := br_cond _ _ _
theorem br_f {β : Type} (x y : Option β) : br false x y = y := br_cond _ _ _
theorem bnd_some {β : Type} (x : Option β) : bnd x some = x := by rw [bnd_eq]; cases x <;> rfl
/- where a proof stops to look -/
attribute [irreducible] br bnd lpW
end Go.Proofs.YtljgncbdagmeeaaDoorE
