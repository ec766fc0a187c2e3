/- DescCounts: part 4 of 7 of the proof. -/
import Derived.Test.YtakebhleglnpjaaDoorZDescCountsc
import Derived.KernelRfl
namespace Go.Proofs.YtakebhleglnpjaaDoorE
open Go
set_option linter.unusedVariables false
set_option linter.unusedSimpArgs false
noncomputable def bnd {α β : Type} (x : Option α) (k : α → Option β) : Option β := @dite _ (∃ a, x = some a) (Classical.propDecidable _) (fun h => k (Classical.choose h)) fun _ => none
theorem bnd_eq {α β : Type} (x : Option α) (k : α → Option β) : bnd x k = (match x with | some a => k a | none => none) := by
  unfold bnd
  cases x with
  | none => exact dif_neg (fun ⟨a, h⟩ => by cases h)
  | some a =>
    have h : ∃ b, some a = some b := ⟨a, rfl⟩
    rw [dif_pos h]
    have := Classical.choose_spec h
    rw [← Option.some.inj this]
theorem bnd_s {α β : Type} (a : α) (k : α → Option β) : bnd (some a) k = k a := bnd_eq _ _
section
variable {β : Type}
def litN : List Nat := [0, 1, 2, 3, 4, 5, 6, 7, 8, 9, 10, 11, 12, 13, 14, 15, 16, 17, 18, 19, 20, 21, 22, 23, 24, 25, 26, 27, 28, 29, 30, 31, 32, 33, 34, 35, 36, 37, 38, 39, 40, 41, 42, 43, 44, 45, 46, 47, 48, 49, 50, 51, 52, 53, 54, 55, 56, 57, 58, 59, 60, 61, 62, 63]
def fgo (n : Nat) (k : Nat → Option β) : List Nat → Option β
  | [] => k n
  | a :: l => match Nat.beq n a with | true => k a | false => fgo n k l
def forceN (n : Nat) (k : Nat → Option β) : Option β := fgo n k litN
def forceV0 (v : V) (k : V → Option β) : Option β :=
  match v with
  | .d x => k (.d x) | .bad => k .bad | .ptr b o => forceN b fun b => forceN o fun o => k (.ptr b o) | .eptr b sz i j => forceN b fun b => forceN j fun j => k (.eptr b sz i j)
  | .sl b sz => forceN b fun b => k (.sl b sz) | .slp b sz o l => forceN b fun b => k (.slp b sz o l) | .nilsl sz => k (.nilsl sz)
  | .agg cs => k (.agg cs) | .tup cs => k (.tup cs) | .fn f cs => k (.fn f cs) | .mp b => forceN b fun b => k (.mp b)
def forceVs0 (l : List V) (k : List V → Option β) : Option β :=
  match l with
  | [] => k []
  | v :: vs => forceV0 v fun v => forceVs0 vs fun vs => k (v :: vs)
def forceV (v : V) (k : V → Option β) : Option β :=
  match v with
  | .d x => k (.d x) | .bad => k .bad | .ptr b o => forceV0 (.ptr b o) k | .eptr b sz i j => forceV0 (.eptr b sz i j) k
  | .sl b sz => forceV0 (.sl b sz) k | .slp b sz o l => forceV0 (.slp b sz o l) k | .nilsl sz => k (.nilsl sz)
  | .agg cs => forceVs0 cs fun cs => k (.agg cs) | .tup cs => forceVs0 cs fun cs => k (.tup cs) | .fn f cs => forceVs0 cs fun cs => k (.fn f cs) | .mp b => forceV0 (.mp b) k
def forceVs (l : List V) (k : List V → Option β) : Option β :=
  match l with
  | [] => k []
  | v :: vs => forceV v fun v => forceVs vs fun vs => k (v :: vs)
def forceB (b : Blk) (k : Blk → Option β) : Option β :=
  match b with
  | .dead => k .dead | .cells cs => forceVs cs fun cs => k (.cells cs) | .arr sz xs => k (.arr sz xs) | .mp es => k (.mp es)
def forceH (H : Heap) (k : Heap → Option β) : Option β :=
  match H with
  | [] => k []
  | b :: bs => forceB b fun b => forceH bs fun bs => k (b :: bs)
def forceDs (l : List D) (k : List D → Option β) : Option β :=
  match l with
  | [] => k []
  | x :: xs => forceDs xs fun xs => k (x :: xs)
theorem fgo_eq (n : Nat) (k : Nat → Option β) : ∀ (l : List Nat), fgo n k l = k n
  | [] => rfl
  | a :: l => by
    unfold fgo
    cases h : Nat.beq n a with
    | true => rw [Nat.eq_of_beq_eq_true h]
    | false => exact fgo_eq n k l
theorem forceN_eq (n : Nat) (k : Nat → Option β) : forceN n k = k n := fgo_eq n k _
theorem forceV0_eq (v : V) (k : V → Option β) : forceV0 v k = k v := by cases v <;> simp [forceV0, forceN_eq]
theorem forceVs0_eq : ∀ (l : List V) (k : List V → Option β), forceVs0 l k = k l
  | [], k => rfl
  | v :: vs, k => by unfold forceVs0; rw [forceV0_eq, forceVs0_eq vs]
theorem forceV_eq (v : V) (k : V → Option β) : forceV v k = k v := by cases v <;> simp [forceV, forceV0_eq, forceVs0_eq]
theorem forceVs_eq : ∀ (l : List V) (k : List V → Option β), forceVs l k = k l
  | [], k => rfl
  | v :: vs, k => by unfold forceVs; rw [forceV_eq, forceVs_eq vs]
theorem forceB_eq (b : Blk) (k : Blk → Option β) : forceB b k = k b := by cases b <;> simp [forceB, forceVs_eq]
theorem forceH_eq : ∀ (l : Heap) (k : Heap → Option β), forceH l k = k l
  | [], k => rfl
  | v :: vs, k => by unfold forceH; rw [forceB_eq, forceH_eq vs]
theorem forceDs_eq : ∀ (l : List D) (k : List D → Option β), forceDs l k = k l
  | [], k => rfl
  | v :: vs, k => by unfold forceDs; rw [forceDs_eq vs]
def forceNs (l : List Nat) (k : List Nat → Option β) : Option β :=
  match l with
  | [] => k []
  | a :: l => forceN a fun a => forceNs l fun l => k (a :: l)
theorem forceNs_eq : ∀ (l : List Nat) (k : List Nat → Option β), forceNs l k = k l
  | [], k => rfl
  | a :: l, k => by unfold forceNs; rw [forceN_eq, forceNs_eq l]
def addAllK (H : Heap) (l : List Nat) (bs : List Nat) (k : List Nat → Option β) : Option β :=
  match bs with
  | [] => k l
  | b :: bs => (match elem l b || !(isLive H b) with
    | true => addAllK H l bs k
    | false => forceNs (l ++ [b]) fun l => addAllK H l bs k)
theorem addAllK_eq (H : Heap) : ∀ (bs l : List Nat) (k : List Nat → Option β), addAllK H l bs k = k (addAll H l bs)
  | [], l, k => rfl
  | b :: bs, l, k => by
    unfold addAllK addAll
    cases h : (elem l b || !(isLive H b)) with
    | true => exact addAllK_eq H bs l k
    | false => simp only [forceNs_eq, cond_false]; exact addAllK_eq H bs _ k
def reachK (H : Heap) (n i : Nat) (l : List Nat) (k : List Nat → Option β) : Option β :=
  match n with
  | 0 => k l
  | n + 1 => (match nth l i with
    | some b => forceNs (refsB H b) fun bs => addAllK H l bs fun l => forceN (i + 1) fun i => reachK H n i l k
    | none => k l)
theorem reachK_eq (H : Heap) : ∀ (n i : Nat) (l : List Nat) (k : List Nat → Option β), reachK H n i l k = k (reach H n i l)
  | 0, i, l, k => rfl
  | n + 1, i, l, k => by
    unfold reachK reach
    cases h : nth l i with
    | none => rfl
    | some b => simp only [forceNs_eq, forceN_eq, addAllK_eq]; exact reachK_eq H n (i + 1) _ k
def renK (L : List Nat) (vs : List V) (k : List V → Option β) : Option β := forceVs (renVs (fun b => idx L b 0) vs) k
def extractK (m : Nat) (vs : List V) (H : Heap) (k : List Nat → List V → Heap → Option β) : Option β :=
  forceVs vs fun vs => forceNs (upTo m) fun u => forceNs (refsVs vs) fun r => addAllK H u r fun l => reachK H (H.length + 1) 0 l fun L =>
    (match nodupB L && ltAll H.length L with
    | true => forceVs (renVs (fun b => idx L b 0) vs) fun vs => forceH (pick H (fun b => idx L b 0) L) fun H => k L vs H
    | false => none)
theorem extractK_eq (m : Nat) (vs : List V) (H : Heap) (k : List Nat → List V → Heap → Option β) : extractK m vs H k = (match extract m vs H with | some (L, vs, H) => k L vs H | none => none) := by
  unfold extractK extract collect
  simp only [forceVs_eq, forceNs_eq, addAllK_eq, reachK_eq, forceH_eq]
  cases (nodupB (reach H (H.length + 1) 0 (addAll H (upTo m) (refsVs vs))) && ltAll H.length (reach H (H.length + 1) 0 (addAll H (upTo m) (refsVs vs)))) <;> rfl
def denilK (n : Nat) (vs : List V) (k : List V → List Blk → Option β) : Option β :=
  match vs with
  | [] => k [] []
  | v :: vs => (match v with
    | .nilsl sz => (match Nat.blt 0 sz with
      | true => forceN (n + 1) fun n1 => denilK n1 vs fun vs bs => k (.sl n sz :: vs) (.arr sz [] :: bs)
      | false => denilK n vs fun vs bs => k (.nilsl sz :: vs) bs)
    | v => denilK n vs fun vs bs => k (v :: vs) bs)
theorem denilK_eq : ∀ (vs : List V) (n : Nat) (k : List V → List Blk → Option β), denilK n vs k = k (denil n vs).1 (denil n vs).2
  | [], n, k => rfl
  | v :: vs, n, k => by
    unfold denilK
    split
    · rename_i sz
      simp only [denil]
      cases h : Nat.blt 0 sz with
      | true => simp only [forceN_eq, cond_true]; exact denilK_eq vs (n + 1) _
      | false => exact denilK_eq vs n _
    · rename_i h
      rw [denilK_eq vs n]
      cases v <;> first | rfl | exact absurd rfl (h _)
def denilBK (n : Nat) (H : Heap) (k : Heap → List Blk → Option β) : Option β :=
  match H with
  | [] => k [] []
  | b :: H => (match b with
    | .cells cs => denilK n cs fun cs bs => forceN (n + bs.length) fun n1 => denilBK n1 H fun H q => k (.cells cs :: H) (bs ++ q)
    | b => denilBK n H fun H q => k (b :: H) q)
theorem denilBK_eq : ∀ (H : Heap) (n : Nat) (k : Heap → List Blk → Option β), denilBK n H k = k (denilB n H).1 (denilB n H).2
  | [], n, k => rfl
  | b :: H, n, k => by
    unfold denilBK
    cases b <;> first | exact denilBK_eq H n _ | skip
    rename_i cs
    simp only [denilK_eq, forceN_eq, denilB]
    exact denilBK_eq H _ _
def headK (m : Nat) (vs : List V) (H : Heap) (k : List V → Heap → Option β) : Option β :=
  extractK m vs H fun _ vs1 H1 => denilK H1.length vs1 fun vs2 bs => forceN (H1.length + bs.length) fun n => denilBK n H1 fun H2 q => forceH (H2 ++ (bs ++ q)) fun H2 => extractK m vs2 H2 fun _ vs3 H3 => k vs3 H3
theorem headK_eq (m : Nat) (vs : List V) (H : Heap) (k : List V → Heap → Option β) : headK m vs H k = (match head m vs H with | some (vs, H) => k vs H | none => none) := by
  unfold headK head
  rw [extractK_eq]
  cases h : extract m vs H with
  | none => rfl
  | some p =>
    obtain ⟨L, vs1, H1⟩ := p
    simp only [denilK_eq, forceN_eq, denilBK_eq, forceH_eq, extractK_eq]
    cases extract m (denil H1.length vs1).1 ((denilB (H1.length + (denil H1.length vs1).2.length) H1).1 ++ ((denil H1.length vs1).2 ++ (denilB (H1.length + (denil H1.length vs1).2.length) H1).2)) <;> rfl
noncomputable def br (c : Bool) (x y : Option β) : Option β := @ite _ (c = true) (Classical.propDecidable _) x y
theorem br_cond (c : Bool) (x y : Option β) : br c x y = bif c then x else y := by
  unfold br
  cases c with
  | true => exact if_pos rfl
  | false => exact if_neg (by simp)
def brL (c : Bool) (x y : Option β) : Option β := match c with | true => x | false => y
noncomputable def boolK (c : Bool) (k : V → Option β) : Option β := br c (k (.d (.bool true))) (k (.d (.bool false)))
theorem boolK_eq (c : Bool) (k : V → Option β) : boolK c k = k (.d (.bool c)) := by
  unfold boolK
  rw [br_cond]
  cases c <;> rfl
noncomputable def tellV (v : V) (k : V → Option β) : Option β := match v with | .d (.bool c) => boolK c k | v => k v
theorem tellV_eq (v : V) (k : V → Option β) : tellV v k = k v := by
  unfold tellV
  split
  · exact boolK_eq _ _
  · rfl
noncomputable def tellD (x : D) (k : V → Option β) : Option β := match x with | .bool c => boolK c k | .tup ts => k (.tup (mapd ts)) | x => k (.d x)
abbrev K3 (β : Type) := V → List (Nat × Blk) → List Blk → Option β
noncomputable def binK (op : BinOp) (x y : V) (k : V → Option β) : Option β :=
  match op, x, y with
  | .quo, .d (.int i a), .d (.int j b) => (match i == j with | true => br (b == 0) none (k (.d (.int i (i.wrap (a.tdiv b))))) | false => none)
  | .rem, .d (.int i a), .d (.int j b) => (match i == j with | true => br (b == 0) none (k (.d (.int i (a.tmod b)))) | false => none)
  | .shl, .d (.int i a), .d (.int _ b) => br (decide (b < 0)) none (k (.d (.int i (i.wrap (a * 2 ^ (min b.toNat i.bits))))))
  | .shr, .d (.int i a), .d (.int _ b) => br (decide (b < 0)) none (k (.d (.int i (a.fdiv (2 ^ (min b.toNat i.bits))))))
  | op, x, y => match binE op x y with | some (.bool c) => boolK c k | some r => k (.d r) | none => none
noncomputable def loadK (H : Heap) (n : Nat) (ag : Bool) (x : V) (k : V → Option β) : Option β :=
  match x with
  | .eptr b sz i j => (match nth H b with
    | some (.arr sz' xs) => (match Nat.beq sz sz' with
      | true => bnd (nth xs i) fun x => (match oneCell n ag (mapd (x.cells.drop j)) with | some v => tellV v k | none => none)
      | false => none)
    | _ => none)
  | x => match loadE H n ag x with | some v => tellV v k | none => none
noncomputable def storeK (H : Heap) (n : Nat) (x v : V) (k : K3 β) : Option β :=
  match x with
  | .eptr b sz i j => (match nth H b with
    | some (.arr sz' xs) => (match Nat.beq sz sz' with
      | true => bnd (nth xs i) fun x => (match fr H 6 v with
        | some (y, ks) => (match elem ks b with
          | true => none
          | false => (match Nat.beq y.cells.length n && Nat.ble (j + n) x.cells.length && (V.d y).okb && (x.isAgg || !y.isAgg) with
            | true => bnd (some (setAt xs i (bif x.isAgg then .agg (setRange x.cells j y.cells) else y))) fun zs => k .bad ((b, .arr sz zs) :: ks.map (fun j => (j, .dead))) []
            | false => none))
        | none => none)
      | false => none)
    | _ => none)
  | x => match storeE H n x v with | some (a, b, c) => k a b c | none => none
noncomputable def appendK (nid : Nat) (H : Heap) (sz : Nat) (x y : V) (k : K3 β) : Option β :=
  match elems H y with
  | none => none
  | some ys =>
    br (szAt sz ys 0) (match x with
    | .nilsl _ => br (Nat.ble ys.length lim) (bnd (some ys) fun zs => k (.sl nid sz) [] [.arr sz zs]) none
    | .sl b sz' => (match nth H b with
      | some (.arr sz'' xs) => (match Nat.beq sz sz' && Nat.beq sz sz'' with
        | true => br (Nat.ble (xs.length + ys.length) lim) (bnd (some (xs ++ ys)) fun zs => k (.sl nid sz) [(b, .dead)] [.arr sz zs]) none
        | false => none)
      | _ => none)
    | .slp b sz' o len => (match nth H b with
      | some (.arr sz'' xs) => (match Nat.beq sz sz' && Nat.beq sz sz'' with
        | true => br (Nat.ble (o + len + ys.length) xs.length) (bnd (some (xs.take (o + len) ++ (ys ++ xs.drop (o + len + ys.length)))) fun zs => bnd (some (len + ys.length)) fun n => k (.slp b sz o n) [(b, .arr sz zs)] []) none
        | false => none)
      | _ => none)
    | _ => none) none
noncomputable def appendDK (H : Heap) (sz : Nat) (x y : V) (k : V → Option β) : Option β :=
  match x with
  | .nilsl _ => (match elems H y with
    | some ys => br (szAt sz ys 0) (br (Nat.ble ys.length lim) (bnd (some ys) fun zs => k (.d (.list true zs))) none) none
    | none => none)
  | _ => none
noncomputable def asNatK (v : Option V) (dflt : Nat) (k : Nat → Option β) : Option β :=
  match v with
  | none => k dflt
  | some (.d (.int _ n)) => br (decide (0 ≤ n)) (k n.toNat) none
  | _ => none
noncomputable def sliceK (H : Heap) (sz : Nat) (x : V) (lo hi mx : Option V) (k : V → Option β) : Option β :=
  match elems H x with
  | none => none
  | some xs =>
    asNatK lo 0 fun l => asNatK hi xs.length fun h =>
      br (Nat.ble l h && Nat.ble h xs.length)
        (match mx with
        | none => (match x with
          | .d (.list own _) => br (Nat.beq l 0 || szAt sz xs l) (bnd (some ((xs.drop l).take (h - l))) fun zs => k (.d (.list own zs))) none
          | .sl b sz' => (match Nat.beq sz sz' with | true => bnd (some l) fun l' => bnd (some (h - l)) fun n => k (.slp b sz l' n) | false => none)
          | .slp b sz' o _ => (match Nat.beq sz sz' with | true => bnd (some (o + l)) fun l' => bnd (some (h - l)) fun n => k (.slp b sz l' n) | false => none)
          | .nilsl _ => k (.nilsl sz)
          | _ => none)
        | some m => asNatK (some m) 0 fun m => br (Nat.beq m l && Nat.beq m h) (k (.nilsl sz)) none)
        none
noncomputable def iaddrK (H : Heap) (sz : Nat) (x i : V) (k : V → Option β) : Option β :=
  match i with
  | .d (.int _ i) => (match x with
    | .d (.list _ xs) => bnd (getI xs i) fun x => (match Nat.beq x.cells.length sz && (V.d x).okb with | true => k (.d (.rptr x.cells)) | false => none)
    | .sl b sz' => (match nth H b with
      | some (.arr sz'' xs) => (match Nat.beq sz sz' && Nat.beq sz sz'' with | true => bnd (getI xs i) fun _ => k (.eptr b sz i.toNat 0) | false => none)
      | _ => none)
    | .slp b sz' o len => (match nth H b with
      | some (.arr sz'' xs) => (match Nat.beq sz sz' && Nat.beq sz sz'' with | true => bnd (getI ((xs.drop o).take len) i) fun _ => k (.eptr b sz (o + i.toNat) 0) | false => none)
      | _ => none)
    | _ => none)
  | _ => none
noncomputable def indexK (len sz : Nat) (ag : Bool) (x i : V) (k : V → Option β) : Option β :=
  match i with
  | .d (.int _ i) => br (x.isAggV && (decide (0 ≤ i) && decide (i < len))) (bnd (oneCell sz ag (x.cells.drop (i.toNat * sz))) k) none
  | _ => none
noncomputable def iaddrAK (H : Heap) (len sz : Nat) (x i : V) (k : V → Option β) : Option β :=
  match i with
  | .d (.int _ i) => br (decide (0 ≤ i) && decide (i < len)) (match faddrE H (i.toNat * sz) x with | some v => k v | none => none) none
  | _ => none
noncomputable def indexSK (x i : V) (k : V → Option β) : Option β :=
  match x, i with
  | .d (.str s), .d (.int _ i) => br (decide (0 ≤ i)) (bnd s[i.toNat]? fun b => k (.d (.int .u8 b.toNat))) none
  | _, _ => none
noncomputable def call0K (k : V → Option β) (r : V × Heap) : Option β := match fr r.2 6 r.1 with | some (x, _) => tellD x k | none => none
noncomputable def callK (Γ : Ctx) (cf : CallF) (nid : Nat) (H : Heap) (f : Nat) (args : List V) (k : K3 β) : Option β :=
  match Γ.mode f with
  | 0 => (match fzs H args with
    | some l => forceVs (mapd l) fun l => bnd (cf f l []) (call0K fun v => k v [] [])
    | none => none)
  | 1 => (match fzs H args with
    | some l => forceVs (mapd l) fun l => bnd (cf f l []) fun r => (match escV r.1 && escBs r.2 with | true => k (renV (fun j => some (nid + j)) r.1) [] (r.2.map (renB (fun j => some (nid + j)))) | false => none)
    | none => none)
  | _ => (extractK 0 args H fun L args' H0 => bnd (cf f args' H0) fun r => (match nofnV r.1 && nofnBs r.2 with
        | true => k (renV (fun j => match nth L j with | some b => some b | none => some (nid + (j - L.length))) r.1)
          (L.zip (r.2.map (renB (fun j => match nth L j with | some b => some b | none => some (nid + (j - L.length))))))
          ((r.2.drop L.length).map (renB (fun j => match nth L j with | some b => some b | none => some (nid + (j - L.length)))))
        | false => none))
noncomputable def opK (Γ : Ctx) (cf : CallF) (e : Env) (nid : Nat) (H : Heap) (o : O) (k : K3 β) : Option β :=
  match o with
  | .mov x => k (x.val e) [] []
  | .pick c a b => (match c.val e with | .d (.bool t) => brL t (k (a.val e) [] []) (k (b.val e) [] []) | _ => none)
  | .load n ag x => loadK H n ag (x.val e) fun v => k v [] []
  | .store n x v => storeK H n (x.val e) (v.val e) k
  | .bin op x y => binK op (x.val e) (y.val e) fun v => k v [] []
  | .slice sz x lo hi mx => sliceK H sz (x.val e) (lo.map (·.val e)) (hi.map (·.val e)) (mx.map (·.val e)) fun v => k v [] []
  | .iaddr sz x i => iaddrK H sz (x.val e) (i.val e) fun v => k v [] []
  | .index len sz ag x i => indexK len sz ag (x.val e) (i.val e) fun v => k v [] []
  | .iaddrA len sz x i => iaddrAK H len sz (x.val e) (i.val e) fun v => k v [] []
  | .indexS x i => indexSK (x.val e) (i.val e) fun v => k v [] []
  | .append sz x y => appendK nid H sz (x.val e) (y.val e) k
  | .appendD sz x y => appendDK H sz (x.val e) (y.val e) fun v => k v [] []
  | .eqv ks neg x y => (match x.val e, y.val e with
    | .d a, .d b => (match kindsD ks a with | true => (match eqD a b with | some r => boolK (bif neg then !r else r) fun v => k v [] [] | none => none) | false => none)
    | _, _ => none)
  | .un .not x => (match x.val e with | .d (.bool b) => brL b (k (.d (.bool false)) [] []) (k (.d (.bool true)) [] []) | _ => none)
  | .extract x i => (match x.val e with
    | .tup vs => (match nth vs i with | some (.d (.bool c)) => boolK c fun v => k v [] [] | some v => k v [] [] | none => none)
    | .d (.tup vs) => (match nth vs i with | some (.bool c) => boolK c fun v => k v [] [] | some v => k (.d v) [] [] | none => none)
    | _ => none)
  | .mkslice sz z n c => (match n.val e, c.val e with
    | .d (.int _ n), .d (.int _ c) => br (decide (0 ≤ n) && decide (n ≤ lim) && decide (n == c))
        (bnd (some (List.replicate n.toNat (match z with | [x] => x | z => .agg z))) fun zs => k (.sl nid sz) [] [.arr sz zs]) none
    | _, _ => none)
  | .len x => (match elems H (x.val e) with | some xs => bnd (some (xs.length : Int)) fun n => k (.d (.int .i64 n)) [] [] | none => none)
  | .call f args => callK Γ cf nid H f (vals e args) k
  | .callv x args => (match capsOf (x.val e) with | some (f, caps) => (match callvBad Γ (x.val e) f caps with | true => none | false => callK Γ cf nid H f (vals e args ++ caps) k) | none => none)
  | .invoke tab x args => (match x.val e with
    | .d (.iface t y) => (match lookT tab t with | some f => callK Γ cf nid H f (.d y :: vals e args) k | none => none)
    | _ => none)
  | o => match opE Γ cf e nid H o with | some (v, up, nw) => tellV v fun v => k v up nw | none => none
def on3 (x : Res) (k : K3 β) : Option β := match x with | some (v, up, nw) => k v up nw | none => none
theorem callK_eq (Γ : Ctx) (cf : CallF) (nid : Nat) (H : Heap) (f : Nat) (args : List V) (k : K3 β) : callK Γ cf nid H f args k = on3 (callE Γ cf nid H f args) k := by
  unfold callK callE
  generalize Γ.mode f = m
  match m with
  | 0 =>
    dsimp only
    simp only [bnd_eq]
    cases h1 : fzs H args with
    | none => rfl
    | some l =>
      simp only [forceVs_eq]
      cases h2 : cf f (mapd l) [] with
      | none => rfl
      | some r =>
        obtain ⟨v, H1⟩ := r
        dsimp only [call0K]
        cases h3 : fr H1 6 v with
        | none => rfl
        | some q => obtain ⟨x, ks⟩ := q; cases x <;> try rfl
                    exact boolK_eq _ (fun v => k v [] [])
  | 1 =>
    dsimp only
    simp only [bnd_eq]
    cases h1 : fzs H args with
    | none => rfl
    | some l =>
      simp only [forceVs_eq]
      cases h2 : cf f (mapd l) [] with
      | none => rfl
      | some r =>
        dsimp only
        cases h3 : (escV r.1 && escBs r.2) <;> rfl
  | m + 2 =>
    dsimp only
    simp only [bnd_eq]
    rw [extractK_eq]
    cases h1 : extract 0 args H with
    | none => rfl
    | some q =>
      obtain ⟨L, args', H0⟩ := q
      dsimp only
      cases h2 : cf f args' H0 with
      | none => rfl
      | some r =>
        dsimp only
        cases h3 : (nofnV r.1 && nofnBs r.2) <;> rfl
theorem binK_eq (op : BinOp) (x y : V) (k : V → Option β) : binK op x y k = (match binE op x y with | some r => k (.d r) | none => none) := by
  unfold binK
  split
  · rename_i i a j b
    simp only [binE, binI]
    cases h : (i == j) <;> simp only [cond_true, cond_false, br_cond]
    cases h2 : (b == 0) <;> rfl
  · rename_i i a j b
    simp only [binE, binI]
    cases h : (i == j) <;> simp only [cond_true, cond_false, br_cond]
    cases h2 : (b == 0) <;> rfl
  · rename_i i a j b
    simp only [binE, shI, br_cond]
    cases h : decide (b < 0) <;> rfl
  · rename_i i a j b
    simp only [binE, shI, br_cond]
    cases h : decide (b < 0) <;> rfl
  · cases h : binE op x y with
    | none => rfl
    | some r => cases r <;> try rfl
                exact boolK_eq _ _
theorem loadK_eq (H : Heap) (n : Nat) (ag : Bool) (x : V) (k : V → Option β) : loadK H n ag x k = (match loadE H n ag x with | some v => k v | none => none) := by
  unfold loadK
  simp only [bnd_eq]
  simp only [tellV_eq]
  split
  · rename_i b sz i j
    simp only [loadE]
    cases h : nth H b with
    | none => rfl
    | some blk =>
      cases blk <;> try rfl
      rename_i sz' xs
      dsimp only
      cases h2 : Nat.beq sz sz' <;> simp only [cond_true, cond_false]
      cases h3 : nth xs i <;> rfl
  · rfl
theorem storeK_eq (H : Heap) (n : Nat) (x v : V) (k : K3 β) : storeK H n x v k = on3 (storeE H n x v) k := by
  unfold storeK
  simp only [bnd_eq]
  split
  · rename_i b sz i j
    simp only [storeE]
    cases h : nth H b with
    | none => rfl
    | some blk =>
      cases blk <;> try rfl
      rename_i sz' xs
      dsimp only
      cases h2 : Nat.beq sz sz' <;> simp only [cond_true, cond_false] <;> try rfl
      cases h3 : nth xs i with
      | none => rfl
      | some x =>
        cases h4 : fr H 6 v with
        | none => rfl
        | some q =>
          obtain ⟨y, ks⟩ := q
          dsimp only
          cases h5 : elem ks b <;> simp only [cond_true, cond_false] <;> try rfl
          cases h6 : (Nat.beq y.cells.length n && Nat.ble (j + n) x.cells.length && (V.d y).okb && (x.isAgg || !y.isAgg)) <;> rfl
  · rfl
theorem appendK_eq (nid : Nat) (H : Heap) (sz : Nat) (x y : V) (k : K3 β) : appendK nid H sz x y k = on3 (appendE nid H sz x y) k := by
  unfold appendK appendE
  cases h : elems H y with
  | none => rfl
  | some ys =>
    simp only [br_cond, bnd_s]
    cases h0 : szAt sz ys 0 <;> simp only [cond_true, cond_false] <;> try rfl
    cases x <;> try rfl
    · rename_i b sz'
      dsimp only
      cases h1 : nth H b with
      | none => rfl
      | some blk =>
        cases blk <;> try rfl
        rename_i sz'' xs
        dsimp only
        cases h2 : (Nat.beq sz sz' && Nat.beq sz sz'') <;> simp only [cond_true, cond_false] <;> try rfl
        cases h3 : Nat.ble (xs.length + ys.length) lim <;> rfl
    · rename_i b sz' o len
      dsimp only
      cases h1 : nth H b with
      | none => rfl
      | some blk =>
        cases blk <;> try rfl
        rename_i sz'' xs
        dsimp only
        cases h2 : (Nat.beq sz sz' && Nat.beq sz sz'')
        · simp only [Bool.false_and, cond_false]; rfl
        · simp only [Bool.true_and, br_cond]
          cases h3 : Nat.ble (o + len + ys.length) xs.length <;> rfl
    · dsimp only
      cases h3 : Nat.ble ys.length lim <;> rfl
theorem appendDK_eq (H : Heap) (sz : Nat) (x y : V) (k : V → Option β) : appendDK H sz x y k = (match appendDE H sz x y with | some v => k v | none => none) := by
  unfold appendDK appendDE
  cases x <;> try rfl
  dsimp only
  cases h : elems H y with
  | none => rfl
  | some ys =>
    simp only [br_cond, bnd_s]
    cases h0 : szAt sz ys 0 <;> cases h1 : Nat.ble ys.length lim <;> rfl
theorem asNatK_eq (v : Option V) (d : Nat) (k : Nat → Option β) : asNatK v d k = (match asNat v d with | some n => k n | none => none) := by
  unfold asNatK asNat
  cases v with
  | none => rfl
  | some v =>
    cases v <;> try rfl
    rename_i x
    cases x <;> try rfl
    rename_i i n
    dsimp only
    rw [br_cond]
    cases h : decide (0 ≤ n) <;> rfl
theorem sliceK_eq (H : Heap) (sz : Nat) (x : V) (lo hi mx : Option V) (k : V → Option β) : sliceK H sz x lo hi mx k = (match sliceE H sz x lo hi mx with | some v => k v | none => none) := by
  unfold sliceK sliceE
  cases h : elems H x with
  | none => rfl
  | some xs =>
    simp only [asNatK_eq]
    cases h1 : asNat lo 0 with
    | none => rfl
    | some l =>
      cases h2 : asNat hi xs.length with
      | none => rfl
      | some hh =>
        simp only [br_cond, bnd_s]
        cases h3 : (Nat.ble l hh && Nat.ble hh xs.length) <;> simp only [cond_true, cond_false]
        cases mx with
        | none =>
          cases x <;> try rfl
          · rename_i x
            cases x <;> try rfl
            dsimp only
            cases h4 : (Nat.beq l 0 || szAt sz xs l) <;> rfl
          · rename_i b sz'
            dsimp only
            cases h4 : Nat.beq sz sz' <;> rfl
          · rename_i b sz' o len
            dsimp only
            cases h4 : Nat.beq sz sz' <;> rfl
        | some m =>
          dsimp only
          cases h4 : asNat (some m) 0 with
          | none => rfl
          | some m =>
            dsimp only
            cases h5 : (Nat.beq m l && Nat.beq m hh) <;> rfl
theorem iaddrK_eq (H : Heap) (sz : Nat) (x i : V) (k : V → Option β) : iaddrK H sz x i k = (match iaddrE H sz x i with | some v => k v | none => none) := by
  unfold iaddrK iaddrE
  simp only [bnd_eq]
  cases i <;> try rfl
  rename_i i
  cases i <;> try rfl
  rename_i ki i
  cases x <;> try rfl
  · rename_i x
    cases x <;> try rfl
    rename_i own xs
    dsimp only
    cases h : getI xs i with
    | none => rfl
    | some x =>
      dsimp only
      cases h2 : (Nat.beq x.cells.length sz && (V.d x).okb) <;> rfl
  · rename_i b sz'
    dsimp only
    cases h1 : nth H b with
    | none => rfl
    | some blk =>
      cases blk <;> try rfl
      rename_i sz'' xs
      dsimp only
      cases h2 : (Nat.beq sz sz' && Nat.beq sz sz'') <;> simp only [cond_true, cond_false]
      cases h : getI xs i <;> rfl
  · rename_i b sz' o len
    dsimp only
    cases h1 : nth H b with
    | none => rfl
    | some blk =>
      cases blk <;> try rfl
      rename_i sz'' xs
      dsimp only
      cases h2 : (Nat.beq sz sz' && Nat.beq sz sz'') <;> simp only [cond_true, cond_false]
      cases h : getI ((xs.drop o).take len) i <;> rfl
theorem on3_some (o : Option V) (k : V → Option β) : on3 (match o with | some v => ret1 v | none => none) (fun v _ _ => k v) = (match o with | some v => k v | none => none) := by
  cases o <;> rfl
theorem indexK_eq (len sz : Nat) (ag : Bool) (x i : V) (k : V → Option β) : indexK len sz ag x i k = (match indexE len sz ag x i with | some v => k v | none => none) := by
  unfold indexK indexE
  cases i <;> try rfl
  rename_i i
  cases i <;> try rfl
  rename_i ki i
  dsimp only
  rw [br_cond, bnd_eq]
  cases (x.isAggV && (decide (0 ≤ i) && decide (i < (len : Int)))) with
  | false => rfl
  | true => simp only [cond_true]; cases oneCell sz ag (List.drop (i.toNat * sz) x.cells) <;> rfl
theorem iaddrAK_eq (H : Heap) (len sz : Nat) (x i : V) (k : V → Option β) : iaddrAK H len sz x i k = (match iaddrAE H len sz x i with | some v => k v | none => none) := by
  unfold iaddrAK iaddrAE
  cases i <;> try rfl
  rename_i i
  cases i <;> try rfl
  rename_i ki i
  dsimp only
  rw [br_cond]
  cases (decide (0 ≤ i) && decide (i < (len : Int))) <;> rfl
theorem indexSK_eq (x i : V) (k : V → Option β) : indexSK x i k = (match indexSE x i with | some v => k v | none => none) := by
  unfold indexSK indexSE
  cases x <;> try rfl
  rename_i x
  cases x <;> try rfl
  rename_i s
  cases i <;> try rfl
  rename_i i
  cases i <;> try rfl
  rename_i ki i
  dsimp only
  rw [br_cond, bnd_eq]
  cases decide (0 ≤ i) with
  | false => rfl
  | true => simp only [cond_true]; cases s[i.toNat]? <;> rfl
theorem fall_eq (x : Res) (k : K3 β) : (match x with | some (v, up, nw) => tellV v fun v => k v up nw | none => none) = on3 x k := by
  cases x with
  | none => rfl
  | some q => exact tellV_eq _ _
theorem opK_eq (Γ : Ctx) (cf : CallF) (e : Env) (nid : Nat) (H : Heap) (o : O) (k : K3 β) : opK Γ cf e nid H o k = on3 (opE Γ cf e nid H o) k := by
  cases o <;> try (first | rfl | exact fall_eq _ _)
  · rename_i c a b
    show (match c.val e with | .d (.bool t) => brL t (k (a.val e) [] []) (k (b.val e) [] []) | _ => none) = on3 (match c.val e with | .d (.bool t) => ret1 (bif t then a.val e else b.val e) | _ => none) k
    cases c.val e <;> try rfl
    rename_i x
    cases x <;> try rfl
    rename_i t
    cases t <;> rfl
  · rename_i n ag x
    show loadK H n ag (x.val e) (fun v => k v [] []) = on3 (match loadE H n ag (x.val e) with | some v => ret1 v | none => none) k
    rw [loadK_eq]
    cases h : loadE H n ag (x.val e) <;> rfl
  · exact storeK_eq _ _ _ _ _
  · rename_i op x y
    show binK op (x.val e) (y.val e) (fun v => k v [] []) = on3 (match binE op (x.val e) (y.val e) with | some r => ret1 (.d r) | none => none) k
    rw [binK_eq]
    cases h : binE op (x.val e) (y.val e) <;> rfl
  · rename_i ks neg x y
    show (match x.val e, y.val e with
      | .d a, .d b => (match kindsD ks a with | true => (match eqD a b with | some r => boolK (bif neg then !r else r) (fun v => k v [] []) | none => none) | false => none)
      | _, _ => none) = on3 (match x.val e, y.val e with
      | .d a, .d b => (match kindsD ks a with | true => (match eqD a b with | some r => ret1 (.d (.bool (bif neg then !r else r))) | none => none) | false => none)
      | _, _ => none) k
    cases x.val e <;> try rfl
    rename_i a
    cases y.val e <;> try rfl
    rename_i b
    dsimp only
    cases hn : kindsD ks a <;> try rfl
    dsimp only
    cases h : eqD a b with
    | none => rfl
    | some r => exact boolK_eq _ _
  · rename_i op x
    cases op <;> try (first | rfl | exact fall_eq _ _)
    show (match x.val e with | .d (.bool b) => brL b (k (.d (.bool false)) [] []) (k (.d (.bool true)) [] []) | _ => none) = on3 (match unE .not (x.val e) with | some r => ret1 (.d r) | none => none) k
    cases x.val e <;> try rfl
    rename_i a
    cases a <;> try rfl
    rename_i b
    cases b <;> rfl
  · rename_i f caps
    cases caps <;> rfl
  · rename_i sz z n c
    show (match n.val e, c.val e with
      | .d (.int _ n), .d (.int _ c) => br (decide (0 ≤ n) && decide (n ≤ lim) && decide (n == c)) (bnd (some (List.replicate n.toNat (match z with | [x] => x | z => .agg z))) fun zs => k (.sl nid sz) [] [.arr sz zs]) none
      | _, _ => none) = on3 (match n.val e, c.val e with
      | .d (.int _ n), .d (.int _ c) => bif decide (0 ≤ n) && decide (n ≤ lim) && decide (n == c) then some (.sl nid sz, [], [.arr sz (List.replicate n.toNat (match z with | [x] => x | z => .agg z))]) else none
      | _, _ => none) k
    cases n.val e <;> try rfl
    rename_i x
    cases x <;> try rfl
    rename_i i n1
    cases c.val e <;> try rfl
    rename_i x
    cases x <;> try rfl
    rename_i j c1
    dsimp only
    simp only [br_cond, bnd_s]
    cases h3 : (decide (0 ≤ n1) && decide (n1 ≤ lim) && decide (n1 == c1)) <;> rfl
  · rename_i sz x lo hi mx
    show sliceK H sz (x.val e) (lo.map (·.val e)) (hi.map (·.val e)) (mx.map (·.val e)) (fun v => k v [] []) = on3 (match sliceE H sz (x.val e) (lo.map (·.val e)) (hi.map (·.val e)) (mx.map (·.val e)) with | some v => ret1 v | none => none) k
    rw [sliceK_eq]
    cases h : sliceE H sz (x.val e) (lo.map (·.val e)) (hi.map (·.val e)) (mx.map (·.val e)) <;> rfl
  · rename_i sz x i
    show iaddrK H sz (x.val e) (i.val e) (fun v => k v [] []) = on3 (match iaddrE H sz (x.val e) (i.val e) with | some v => ret1 v | none => none) k
    rw [iaddrK_eq]
    cases h : iaddrE H sz (x.val e) (i.val e) <;> rfl
  · rename_i len sz ag x i
    show indexK len sz ag (x.val e) (i.val e) (fun v => k v [] []) = on3 (match indexE len sz ag (x.val e) (i.val e) with | some v => ret1 v | none => none) k
    rw [indexK_eq]
    cases h : indexE len sz ag (x.val e) (i.val e) <;> rfl
  · rename_i x i
    show indexSK (x.val e) (i.val e) (fun v => k v [] []) = on3 (match indexSE (x.val e) (i.val e) with | some v => ret1 v | none => none) k
    rw [indexSK_eq]
    cases h : indexSE (x.val e) (i.val e) <;> rfl
  · rename_i len sz x i
    show iaddrAK H len sz (x.val e) (i.val e) (fun v => k v [] []) = on3 (match iaddrAE H len sz (x.val e) (i.val e) with | some v => ret1 v | none => none) k
    rw [iaddrAK_eq]
    cases h : iaddrAE H len sz (x.val e) (i.val e) <;> rfl
  · rename_i x
    show (match elems H (x.val e) with | some xs => bnd (some (xs.length : Int)) fun n => k (.d (.int .i64 n)) [] [] | none => none) = on3 (match lenE H (x.val e) with | some r => ret1 (.d r) | none => none) k
    unfold lenE
    cases elems H (x.val e) with
    | none => rfl
    | some xs => exact bnd_s _ _
  · exact appendK_eq _ _ _ _ _ _
  · rename_i sz x y
    show appendDK H sz (x.val e) (y.val e) (fun v => k v [] []) = on3 (match appendDE H sz (x.val e) (y.val e) with | some v => ret1 v | none => none) k
    rw [appendDK_eq]
    cases h : appendDE H sz (x.val e) (y.val e) <;> rfl
  · rename_i x i
    show (match x.val e with
      | .tup vs => (match nth vs i with | some (.d (.bool c)) => boolK c (fun v => k v [] []) | some v => k v [] [] | none => none)
      | .d (.tup vs) => (match nth vs i with | some (.bool c) => boolK c (fun v => k v [] []) | some v => k (.d v) [] [] | none => none)
      | _ => none) = on3 (match x.val e with
      | .tup vs => (match nth vs i with | some v => ret1 v | none => none)
      | .d (.tup vs) => (match nth vs i with | some v => ret1 (.d v) | none => none)
      | _ => none) k
    cases x.val e <;> try rfl
    · rename_i y
      cases y <;> try rfl
      rename_i vs
      dsimp only
      cases nth vs i with
      | none => rfl
      | some v => cases v <;> try rfl
                  exact boolK_eq _ _
    · rename_i vs
      dsimp only
      cases nth vs i with
      | none => rfl
      | some v => cases v <;> try rfl
                  rename_i y
                  cases y <;> try rfl
                  exact boolK_eq _ _
  · exact callK_eq _ _ _ _ _ _ _
  · rename_i x args
    show (match capsOf (x.val e) with | some (f, caps) => (match callvBad Γ (x.val e) f caps with | true => none | false => callK Γ cf nid H f (vals e args ++ caps) k) | none => none) = _
    rw [opE_callv]
    cases h : capsOf (x.val e) with
    | none => rfl
    | some q =>
      obtain ⟨f, caps⟩ := q
      dsimp only
      cases hb : callvBad Γ (x.val e) f caps
      · exact callK_eq _ _ _ _ _ _ _
      · rfl
  · rename_i tab x args
    show (match x.val e with
      | .d (.iface t y) => (match lookT tab t with | some f => callK Γ cf nid H f (.d y :: vals e args) k | none => none)
      | _ => none) = _
    rw [opE_invoke]
    cases h : x.val e <;> try rfl
    rename_i y
    cases y <;> try rfl
    rename_i t y
    dsimp only
    cases h2 : lookT tab t with
    | none => rfl
    | some f => exact callK_eq _ _ _ _ _ _ _
def wantsK (e : Env) (g : Option (Nat × Bool)) (x y : Option β) : Option β :=
  match g with
  | none => x
  | some (s, b) => match e s with | .d (.bool t) => brL (t == b) x y | .d (.tup []) => y | _ => none
theorem wantsK_eq (e : Env) (g : Option (Nat × Bool)) (x y : Option β) : wantsK e g x y = (match wants e g with | some true => x | some false => y | none => none) := by
  unfold wantsK wants
  cases g with
  | none => rfl
  | some p =>
    obtain ⟨s, b⟩ := p
    dsimp only
    split <;> rename_i h
    · simp only [h, brL]; rename_i t; cases h2 : t == b <;> rfl
    · simp only [h]
    · split <;> simp_all
end
section
variable {β : Type}
def contK (e : Env) (dst : Option Nat) (H : Heap) (v : V) (up : List (Nat × Blk)) (nw : List Blk) (k : Env → Heap → Option β) : Option β :=
  forceV v fun v => match dst with
    | some i => (match up, nw with
      | [], [] => k (e.set i v) H
      | up, nw => forceH (updH H up ++ nw) fun H => k (e.set i v) H)
    | none => (match up, nw with
      | [], [] => k e H
      | up, nw => forceH (updH H up ++ nw) fun H => k e H)
theorem contK_eq (e : Env) (dst : Option Nat) (H : Heap) (v : V) (up : List (Nat × Blk)) (nw : List Blk) (k : Env → Heap → Option β) : contK e dst H v up nw k = k (setO e dst v) (updH H up ++ nw) := by
  unfold contK
  rw [forceV_eq]
  cases dst <;> dsimp only [setO]
  all_goals
    split
    · simp [updH]
    · rw [forceH_eq]
def skipK (e : Env) (dst : Option Nat) (k : Env → Option β) : Option β := match dst with | some i => k (e.set i (.d (.tup []))) | none => k e
theorem skipK_eq (e : Env) (dst : Option Nat) (k : Env → Option β) : skipK e dst k = k (setO e dst (.d (.tup []))) := by cases dst <;> rfl
def noLook : O → Bool
  | .mov _ => true
  | .pick _ _ _ => true
  | .build _ _ => true
  | .bin _ _ _ => true
  | .eqv _ _ _ _ => true
  | .un _ _ => true
  | .conv _ _ => true
  | .mkfn _ _ => true
  | .field _ _ _ _ => true
  | .index _ _ _ _ _ => true
  | .indexS _ _ => true
  | .mx _ _ => true
  | .extract _ _ => true
  | .bslice _ _ 0 _ => true
  | .alloc _ => true
  | .box _ => true
  | _ => false
theorem noLook_ok {Γ : Ctx} {cf : CallF} {e : Env} {nid : Nat} {H H' : Heap} {op : O} (h : noLook op = true) : opE Γ cf e nid H op = opE Γ cf e nid H' op := by
  cases op <;> first | rfl | (cases h; done) | skip
  rename_i sz z len ps
  cases len with
  | zero => rfl
  | succ n => cases h
noncomputable def opsK (Γ : Ctx) (cf : CallF) (l : List Op1) (e : Env) (H : Heap) (k : Env → Heap → Option β) : Option β :=
  List.rec (motive := fun _ => Env → Heap → (Env → Heap → Option β) → Option β) (fun e H k => k e H)
    (fun o _ ih e H k => wantsK e o.guard (forceN H.length fun nid => opK Γ cf e nid H o.op fun v up nw => contK e o.dst H v up nw fun e H => ih e H k) (skipK e o.dst fun e => ih e H k)) l e H k
theorem opsK_cons (Γ : Ctx) (cf : CallF) (o : Op1) (r : List Op1) (e : Env) (H : Heap) (k : Env → Heap → Option β) :
    opsK Γ cf (o :: r) e H k = wantsK e o.guard (forceN H.length fun nid => opK Γ cf e nid H o.op fun v up nw => contK e o.dst H v up nw fun e H => opsK Γ cf r e H k) (skipK e o.dst fun e => opsK Γ cf r e H k) := rfl
theorem opsK_eq (Γ : Ctx) (cf : CallF) : ∀ (l : List Op1) (e : Env) (H : Heap) (k : Env → Heap → Option β), opsK Γ cf l e H k = (match opsE Γ cf l e H with | some (e, H) => k e H | none => none)
  | [], e, H, k => rfl
  | o :: l, e, H, k => by
    rw [opsK_cons]
    unfold opsE
    rw [wantsK_eq, forceN_eq, opK_eq, skipK_eq]
    cases hw : wants e o.guard with
    | none => rfl
    | some b =>
      cases b with
      | false => exact opsK_eq Γ cf l _ _ k
      | true =>
        dsimp only
        cases ho : opE Γ cf e H.length H o.op with
        | none => rfl
        | some q => obtain ⟨v, up, nw⟩ := q; simp only [on3, contK_eq]; exact opsK_eq Γ cf l _ _ k
def forceP (l : List (Nat × Nat)) (k : List (Nat × Nat) → Option β) : Option β :=
  match l with
  | [] => k []
  | p :: l => forceN p.1 fun a => forceN p.2 fun b => forceP l fun l => k ((a, b) :: l)
theorem forceP_eq : ∀ (l : List (Nat × Nat)) (k : List (Nat × Nat) → Option β), forceP l k = k l
  | [], k => rfl
  | p :: l, k => by unfold forceP; rw [forceN_eq, forceN_eq, forceP_eq l]
def seeK (o : O) (mask : List Nat) (H : Heap) (pos : List (Nat × Nat)) (k : Heap → Option β) : Option β :=
  match noLook o with
  | true => k H
  | false => (match mask with | [] => k H | mask => forceH (hideH H pos mask) k)
noncomputable def drawK (Γ : Ctx) (cf : CallF) (pos : List (Nat × Nat)) (l : List Op1) (e : Env) (H : Heap) (k : Env → Heap → Option β) : Option β :=
  List.rec (motive := fun _ => List (Nat × Nat) → Env → Heap → (Env → Heap → Option β) → Option β) (fun _ e H k => k e H)
    (fun o _ ih pos e H k => wantsK e o.guard (forceN H.length fun nid => seeK o.op o.mask H pos fun Hm => opK Γ cf e nid Hm o.op fun v up nw =>
      (match effOK o.eff up nw with | true => forceN nw.length fun m => forceP (pos ++ [(nid, m)]) fun pos => contK e o.dst H v up nw fun e' H' => ih pos e' H' k | false => none)) (skipK e o.dst fun e' => forceN H.length fun nid => forceP (pos ++ [(nid, 0)]) fun pos => ih pos e' H k)) l pos e H k
theorem drawK_cons (Γ : Ctx) (cf : CallF) (pos : List (Nat × Nat)) (o : Op1) (r : List Op1) (e : Env) (H : Heap) (k : Env → Heap → Option β) :
    drawK Γ cf pos (o :: r) e H k = wantsK e o.guard (forceN H.length fun nid => seeK o.op o.mask H pos fun Hm => opK Γ cf e nid Hm o.op fun v up nw =>
      (match effOK o.eff up nw with | true => forceN nw.length fun m => forceP (pos ++ [(nid, m)]) fun pos => contK e o.dst H v up nw fun e' H' => drawK Γ cf pos r e' H' k | false => none)) (skipK e o.dst fun e' => forceN H.length fun nid => forceP (pos ++ [(nid, 0)]) fun pos => drawK Γ cf pos r e' H k) := rfl
theorem seeK_opK (Γ : Ctx) (cf : CallF) (e : Env) (nid : Nat) (o : O) (mask : List Nat) (H : Heap) (pos : List (Nat × Nat)) (k : K3 β) : (seeK o mask H pos fun Hm => opK Γ cf e nid Hm o k) = opK Γ cf e nid (hideH H pos mask) o k := by
  unfold seeK
  cases h : noLook o with
  | true => dsimp only; rw [opK_eq, opK_eq, noLook_ok h (H := H) (H' := hideH H pos mask)]
  | false =>
    dsimp only
    cases mask with
    | nil => rfl
    | cons a l => dsimp only; rw [forceH_eq]
theorem drawK_eq (Γ : Ctx) (cf : CallF) : ∀ (l : List Op1) (pos : List (Nat × Nat)) (e : Env) (H : Heap) (k : Env → Heap → Option β), drawK Γ cf pos l e H k = (match drawE Γ cf pos l e H with | some (e, H) => k e H | none => none)
  | [], pos, e, H, k => rfl
  | o :: l, pos, e, H, k => by
    rw [drawK_cons]
    unfold drawE
    rw [wantsK_eq, forceN_eq, seeK_opK, opK_eq, skipK_eq, forceN_eq, forceP_eq]
    cases hw : wants e o.guard with
    | none => rfl
    | some b =>
      cases b with
      | false => exact drawK_eq Γ cf l _ _ _ k
      | true =>
        dsimp only
        cases ho : opE Γ cf e H.length (hideH H pos o.mask) o.op with
        | none => rfl
        | some q =>
          obtain ⟨v, up, nw⟩ := q
          simp only [on3]
          cases hb : (effOK o.eff up nw) <;> simp only [cond_true, cond_false, contK_eq, forceN_eq, forceP_eq]
          exact drawK_eq Γ cf l _ _ _ k
noncomputable def lpW (Γ : Ctx) (k : Nat) (live outs : List Nat) (a : C) (vs : List V) (H : Heap) : Option (Ex × List V × Heap) :=
  itW (fun vs H => roundE k live outs (codeE Γ (evW Γ) itW k a (envOf live vs) H)) vs H
noncomputable def codeK (Γ : Ctx) (k0 : Nat) (c : C) (e : Env) (H : Heap) (k : Ex → Env → Heap → Option β) : Option β :=
  C.rec (motive := fun _ => Env → Heap → (Ex → Env → Heap → Option β) → Option β)
    (fun e H k => k .normal e H) (fun e H k => k .ret e H) (fun id e H k => k (.exit id) e H)
    (fun _ _ ia ib e H k => ia e H fun x e H => (match x with | .normal => ib e H k | .exit i => k (.exit i) e H | .ret => k .ret e H))
    (fun x _ _ ia ib e H k => (match x.val e with | .d (.bool t) => brL t (ia e H k) (ib e H k) | _ => none))
    (fun id _ ia e H k => ia e H fun x e H => (match x with | .exit j => (match Nat.beq j id with | true => k .normal e H | false => k (.exit j) e H) | .normal => k .normal e H | .ret => k .ret e H))
    (fun live outs a _ e H k => headK k0 (live.map e) H fun vs H => bnd (lpW Γ k0 live outs a vs H) fun r => k r.1 (envOf outs r.2.1) r.2.2)
    (fun l e H k => opsK Γ (evW Γ) l e H fun e H => k .normal e H)
    (fun l e H k => drawK Γ (evW Γ) [] l e H fun e H => k .normal e H) c e H k
theorem codeK_eq (Γ : Ctx) (k0 : Nat) : ∀ (c : C) (e : Env) (H : Heap) (k : Ex → Env → Heap → Option β), codeK Γ k0 c e H k = (match codeE Γ (evW Γ) itW k0 c e H with | some (x, e, H) => k x e H | none => none) := by
  intro c
  induction c with
  | skip => intros; rfl
  | ret => intros; rfl
  | exit id => intros; rfl
  | seq a b iha ihb =>
    intro e H k
    show (codeK Γ k0 a e H fun x e H => (match x with | .normal => codeK Γ k0 b e H k | .exit i => k (.exit i) e H | .ret => k .ret e H)) = _
    unfold codeE
    rw [iha]
    cases h : codeE Γ (evW Γ) itW k0 a e H with
    | none => rfl
    | some q =>
      obtain ⟨x, e1, H1⟩ := q
      cases x with
      | normal => exact ihb e1 H1 k
      | exit i => rfl
      | ret => rfl
  | cond x a b iha ihb =>
    intro e H k
    show (match x.val e with | .d (.bool t) => brL t (codeK Γ k0 a e H k) (codeK Γ k0 b e H k) | _ => none) = _
    unfold codeE
    cases h : x.val e <;> try rfl
    rename_i y
    cases y <;> try rfl
    rename_i t
    cases t
    · exact ihb e H k
    · exact iha e H k
  | block id a iha =>
    intro e H k
    show (codeK Γ k0 a e H fun x e H => (match x with | .exit j => (match Nat.beq j id with | true => k .normal e H | false => k (.exit j) e H) | .normal => k .normal e H | .ret => k .ret e H)) = _
    unfold codeE
    rw [iha]
    cases h : codeE Γ (evW Γ) itW k0 a e H with
    | none => rfl
    | some q =>
      obtain ⟨x, e1, H1⟩ := q
      cases x with
      | normal => rfl
      | exit j => dsimp only; cases h2 : Nat.beq j id <;> rfl
      | ret => rfl
  | loop live outs a iha =>
    intro e H k
    show (headK k0 (live.map e) H fun vs H => bnd (lpW Γ k0 live outs a vs H) fun r => k r.1 (envOf outs r.2.1) r.2.2) = _
    unfold codeE
    rw [headK_eq]
    cases h : head k0 (live.map e) H with
    | none => rfl
    | some q =>
      obtain ⟨vs, H1⟩ := q
      simp only [lpW, bnd_eq]
      cases h2 : itW (fun vs H => roundE k0 live outs (codeE Γ (evW Γ) itW k0 a (envOf live vs) H)) vs H1 with
      | none => rfl
      | some r => obtain ⟨x, vs, H⟩ := r; rfl
  | ops l =>
    intro e H k
    show (opsK Γ (evW Γ) l e H fun e H => k .normal e H) = _
    unfold codeE
    rw [opsK_eq]
    cases h : opsE Γ (evW Γ) l e H <;> rfl
  | draw l =>
    intro e H k
    show (drawK Γ (evW Γ) [] l e H fun e H => k .normal e H) = _
    unfold codeE
    rw [drawK_eq]
    cases h : drawE Γ (evW Γ) [] l e H <;> rfl
theorem lpW_eq (Γ : Ctx) (k : Nat) (live outs : List Nat) (a : C) (vs : List V) (H : Heap) :
    lpW Γ k live outs a vs H = codeK Γ k a (envOf live vs) H fun x e H => (match x with
      | .normal => headK k (live.map e) H fun vs H => lpW Γ k live outs a vs H
      | x => extractK k (outs.map e) H fun _ vs H => some (x, vs, H)) := by
  unfold lpW
  rw [itW_eq, codeK_eq]
  cases h : codeE Γ (evW Γ) itW k a (envOf live vs) H with
  | none => rfl
  | some q =>
    obtain ⟨x, e, H1⟩ := q
    cases x with
    | normal =>
      simp only [roundE]
      rw [headK_eq]
      cases h2 : head k (live.map e) H1 with
      | none => rfl
      | some r => obtain ⟨vs, H2⟩ := r; rfl
    | exit j =>
      simp only [roundE]
      rw [extractK_eq]
      cases h2 : extract k (outs.map e) H1 with
      | none => rfl
      | some r => obtain ⟨L, vs, H2⟩ := r; rfl
    | ret =>
      simp only [roundE]
      rw [extractK_eq]
      cases h2 : extract k (outs.map e) H1 with
      | none => rfl
      | some r => obtain ⟨L, vs, H2⟩ := r; rfl
theorem evW_K (Γ : Ctx) (f : Nat) (fn : FnI) (args : List V) (H : Heap) (hc : Γ.code f = some fn) (hn : Nat.beq args.length fn.nargs = true) :
    evW Γ f args H = codeK Γ H.length fn.body (argEnv 0 args) H fun x e H1 => (match x with
      | .exit _ => none
      | _ => (match resV e H1 fn.res with
        | some l => extractK H.length [oneRes l] H1 fun _ vs H2 => (match vs with | [v] => some (v, H2) | _ => none)
        | none => none)) := by
  rw [evW_eq]
  unfold funE
  simp only [hc, hn, cond_true]
  rw [codeK_eq]
  cases h : codeE Γ (evW Γ) itW H.length fn.body (argEnv 0 args) H with
  | none => rfl
  | some q =>
    obtain ⟨x, e, H1⟩ := q
    cases x <;> try rfl
    all_goals
      dsimp only
      cases h2 : resV e H1 fn.res with
      | none => rfl
      | some l =>
        dsimp only
        rw [extractK_eq]
        cases h3 : extract H.length [oneRes l] H1 with
        | none => rfl
        | some q =>
          obtain ⟨L, vs, H2⟩ := q
          match vs with
          | [] => rfl
          | [v] => rfl
          | _ :: _ :: _ => rfl
end
theorem br_t {β : Type} (x y : Option β) : br true x y = x := br_cond _ _ _
theorem br_f {β : Type} (x y : Option β) : br false x y = y := br_cond _ _ _
theorem bnd_some {β : Type} (x : Option β) : bnd x some = x := by rw [bnd_eq]; cases x <;> rfl
attribute [irreducible] br bnd lpW
end Go.Proofs.YtakebhleglnpjaaDoorE

namespace Go.Proofs.YtakebhleglnpjaaDoorE
open Go
structure PartT where
  op : Int
  arg : Int
  work : Int
  deriving DecidableEq
structure EdgeT where
  src : Int
  dst : Int
  deriving DecidableEq
structure FutureT where
  maker : Int
  user : Int
  pos : Int
  deriving DecidableEq
structure BarrierT where
  ins : List Int
  outs : List Int
  deriving DecidableEq
structure DescT where
  period : Int
  deadline : Int
  parts : List PartT
  edges : List EdgeT
  futures : List FutureT
  barriers : List BarrierT
  deriving DecidableEq
abbrev intD (n : Int) : D := .int .i64 n
abbrev boolD (b : Bool) : D := .bool b
abbrev intsD (τ : Bool) (l : List Int) : D := .list τ (l.map intD)
abbrev partD (p : PartT) : D := .agg [intD p.op, intD p.arg, intD p.work]
abbrev edgeD (e : EdgeT) : D := .agg [intD e.src, intD e.dst]
abbrev futureD (f : FutureT) : D := .agg [intD f.maker, intD f.user, intD f.pos]
abbrev barrierD (b : BarrierT) : D := .agg [intsD true b.ins, intsD true b.outs]
abbrev descD (τ : Bool) (d : DescT) : D := .agg [intD d.period, intD d.deadline, .list τ (d.parts.map partD), .list τ (d.edges.map edgeD), .list τ (d.futures.map futureD), .list τ (d.barriers.map barrierD)]
end Go.Proofs.YtakebhleglnpjaaDoorE

namespace Go.Proofs.YtakebhleglnpjaaDoorE
open Go
set_option linter.unusedVariables false
set_option linter.unusedSimpArgs false
theorem wrap64 {n : Int} (h1 : -9223372036854775808 ≤ n) (h2 : n < 9223372036854775808) : IntKind.i64.wrap n = n := by
  show (if (true && decide (n % 18446744073709551616 ≥ 9223372036854775808)) = true then n % 18446744073709551616 - 18446744073709551616 else n % 18446744073709551616) = n
  by_cases h : n % 18446744073709551616 ≥ 9223372036854775808
  · rw [decide_eq_true h]; simp only [Bool.and_self, if_true]; omega
  · rw [decide_eq_false h]; simp only [Bool.and_false, Bool.false_eq_true, if_false]; omega
theorem getI_nat {α : Type} (xs : List α) (i : Nat) : getI xs (i : Int) = xs[i]? := by
  unfold getI
  have : decide ((0 : Int) ≤ i) = true := by simp
  rw [this]; simp [nth_eq]
theorem getI_map {α β : Type} (f : α → β) (xs : List α) (i : Nat) (h : i < xs.length) : getI (xs.map f) (i : Int) = some (f xs[i]) := by
  rw [getI_nat]; simp [h]
theorem lpW_b (Γ : Ctx) (k : Nat) (live outs : List Nat) (a : C) (vs : List V) (H : Heap) :
    lpW Γ k live outs a vs H = codeK Γ k a (envOf live vs) H fun x e H => (match x with
      | .normal => headK k (live.map e) H fun vs H => bnd (lpW Γ k live outs a vs H) some
      | x => extractK k (outs.map e) H fun _ vs H => some (x, vs, H)) := by
  refine (lpW_eq Γ k live outs a vs H).trans (congrArg (codeK Γ k a (envOf live vs) H) ?_)
  funext x e H
  cases x
  · exact congrArg (headK k (live.map e) H) (funext fun vs => funext fun H => (bnd_some _).symm)
  · rfl
  · rfl
theorem szAt_map {α : Type} {f : α → D} {sz : Nat} (hf : ∀ x, (f x).cells.length = sz ∧ (V.d (f x)).okb = true) (l : List α) (i : Nat) : szAt sz (l.map f) i = true := by
  unfold szAt
  rw [nth_eq, List.getElem?_map]
  cases l[i]? with
  | none => rfl
  | some x => simp [hf x]
theorem szAt_part (l : List PartT) (i : Nat) : szAt 3 (l.map partD) i = true := szAt_map (f := partD) (fun x => ⟨rfl, rfl⟩) l i
theorem szAt_edge (l : List EdgeT) (i : Nat) : szAt 2 (l.map edgeD) i = true := szAt_map (f := edgeD) (fun x => ⟨rfl, rfl⟩) l i
theorem szAt_future (l : List FutureT) (i : Nat) : szAt 3 (l.map futureD) i = true := szAt_map (f := futureD) (fun x => ⟨rfl, rfl⟩) l i
theorem szAt_barrier (l : List BarrierT) (i : Nat) : szAt 2 (l.map barrierD) i = true := szAt_map (f := barrierD) (fun x => ⟨rfl, rfl⟩) l i
theorem szAt_int (l : List Int) (i : Nat) : szAt 1 (l.map intD) i = true := szAt_map (f := intD) (fun x => ⟨rfl, rfl⟩) l i
theorem ble_lim {n : Nat} (h : n ≤ 1073741824) : Nat.ble n lim = true := Nat.ble_eq_true_of_le h
theorem succ64 (i : Nat) (h : i + 1 < 9223372036854775808) : IntKind.i64.wrap ((i : Int) + 1) = ((i + 1 : Nat) : Int) := by rw [wrap64 (by omega) (by omega)]; omega
theorem zero64 : V.d (D.int .i64 0) = V.d (intD ((0 : Nat) : Int)) := rfl
theorem br_tt {β : Type} {c : Bool} {x y : Option β} (h : c = true) : br c x y = x := by rw [h, br_t]
theorem br_ff {β : Type} {c : Bool} {x y : Option β} (h : c = false) : br c x y = y := by rw [h, br_f]
theorem bnd_ss {α β : Type} {x : Option α} {a : α} {k : α → Option β} (h : x = some a) : bnd x k = k a := by rw [h, bnd_s]
def first {α : Type} (p : α → Bool) : Nat → List α → Option Nat
  | _, [] => none
  | i, x :: l => bif p x then some i else first p (i + 1) l
theorem first_t {α : Type} {p : α → Bool} {i : Nat} {x : α} {l : List α} (h : p x = true) : first p i (x :: l) = some i := by rw [first, h]; rfl
theorem first_f {α : Type} {p : α → Bool} {i : Nat} {x : α} {l : List α} (h : p x = false) : first p i (x :: l) = first p (i + 1) l := by rw [first, h]; rfl
theorem any_first {α : Type} (p : α → Bool) : ∀ (i : Nat) (l : List α), l.any p = (first p i l).isSome
  | _, [] => rfl
  | i, x :: l => by
    rw [List.any_cons, first]
    cases h : p x with
    | true => rfl
    | false => simpa using any_first p (i + 1) l
theorem evW_of {Γ : Ctx} {f : Nat} {args : List V} {H : Heap} {r : V × Heap} (n : Nat) (h : evN Γ n f args H = some r) : evW Γ f args H = some r := (evW_iff Γ f args H r).2 ⟨n, h⟩
end Go.Proofs.YtakebhleglnpjaaDoorE

namespace Go.Proofs.YtakebhleglnpjaaDoorE
open Go
set_option linter.unusedVariables false
set_option linter.unusedSimpArgs false
theorem list_of {α : Type} {f : α → D} {p : α → Prop} : ∀ {xs : List D}, (∀ y ∈ xs, ∃ a, y = f a ∧ p a) → ∃ l : List α, xs = l.map f ∧ ∀ a ∈ l, p a
  | [], _ => ⟨[], rfl, by simp⟩
  | x :: xs, h => by
    obtain ⟨a, ha, hp⟩ := h x (by simp)
    obtain ⟨l, hl, hq⟩ := list_of (xs := xs) fun y hy => h y (by simp [hy])
    refine ⟨a :: l, by rw [ha, hl]; rfl, fun b hb => ?_⟩
    rcases List.mem_cons.1 hb with rfl | hb
    · exact hp
    · exact hq b hb
def I64 (n : Int) : Prop := -9223372036854775808 ≤ n ∧ n < 9223372036854775808
theorem i64_of {n : Int} (h : (Lit.int .i64 n).wf = true) : I64 n := by
  unfold Lit.wf at h
  simp only [Bool.and_eq_true, decide_eq_true_eq] at h
  have e1 : IntKind.i64.min = -9223372036854775808 := by decide
  have e2 : IntKind.i64.max = 9223372036854775807 := by decide
  rw [e1, e2] at h
  unfold I64
  omega
theorem agg_of {y : D} {n : Nat} (h : y.isAgg = true) : y = .agg y.cells := by
  cases y <;> first | rfl | cases h
theorem cell_of {y : D} (h : y.isAgg = false) : y.cells = [y] := by
  cases y <;> first | rfl | cases h
theorem len63 {n : Nat} (h : n ≤ maxLen) : n < 9223372036854775808 := by
  unfold maxLen at h; omega
def Ints (l : List Int) : Prop := l.length < 9223372036854775808 ∧ ∀ n ∈ l, I64 n
theorem ints_of {x : D} (h : okLf (.sl false [.int .i64]) x) : ∃ l, x = intsD true l ∧ Ints l := by
  obtain ⟨xs, rfl, h1, h2⟩ := h
  obtain ⟨l, hl, hp⟩ := list_of (f := intD) (p := I64) (xs := xs) fun y hy => by
    obtain ⟨a1, a2⟩ := h2 y hy
    rw [cell_of a1] at a2
    obtain ⟨d, r, e1, ⟨n, e2, e3⟩, _⟩ := a2
    cases e1
    exact ⟨n, e2, i64_of e3⟩
  subst hl
  exact ⟨l, rfl, by simpa using len63 h1, hp⟩
def PartOK (p : PartT) : Prop := I64 p.op ∧ I64 p.arg ∧ I64 p.work
def EdgeOK (e : EdgeT) : Prop := I64 e.src ∧ I64 e.dst
def FutureOK (f : FutureT) : Prop := I64 f.maker ∧ I64 f.user ∧ I64 f.pos
def BarrierOK (b : BarrierT) : Prop := Ints b.ins ∧ Ints b.outs
structure DescOK (d : DescT) : Prop where
  period : I64 d.period
  deadline : I64 d.deadline
  pl : d.parts.length < 9223372036854775808
  p : ∀ x ∈ d.parts, PartOK x
  el : d.edges.length < 9223372036854775808
  e : ∀ x ∈ d.edges, EdgeOK x
  fl : d.futures.length < 9223372036854775808
  f : ∀ x ∈ d.futures, FutureOK x
  bl : d.barriers.length < 9223372036854775808
  b : ∀ x ∈ d.barriers, BarrierOK x
theorem aggs_of {x : D} {els : List Lf} {α : Type} {f : α → D} {p : α → Prop} (h : okLf (.sl true els) x) (hf : ∀ cs, okLfs els cs → ∃ a, D.agg cs = f a ∧ p a) : ∃ l : List α, x = .list true (l.map f) ∧ l.length < 9223372036854775808 ∧ ∀ a ∈ l, p a := by
  obtain ⟨xs, rfl, h1, h2⟩ := h
  obtain ⟨l, hl, hp⟩ := list_of (f := f) (p := p) (xs := xs) fun y hy => by
    obtain ⟨a1, a2⟩ := h2 y hy
    rw [agg_of (n := 0) a1]
    exact hf _ a2
  subst hl
  exact ⟨l, rfl, by simpa using len63 h1, hp⟩
abbrev descL : List Lf := [.int .i64, .int .i64, .sl true [.int .i64, .int .i64, .int .i64], .sl true [.int .i64, .int .i64], .sl true [.int .i64, .int .i64, .int .i64], .sl true [.sl false [.int .i64], .sl false [.int .i64]]]
theorem desc_of {xs : List D} (h : okLfs descL xs) : ∃ d, D.agg xs = descD true d ∧ DescOK d := by
  obtain ⟨x1, r1, rfl, ⟨n1, rfl, w1⟩, x2, r2, rfl, ⟨n2, rfl, w2⟩, x3, r3, rfl, h3, x4, r4, rfl, h4, x5, r5, rfl, h5, x6, r6, rfl, h6, rfl⟩ := h
  obtain ⟨l3, rfl, b3, p3⟩ := aggs_of (f := partD) (p := PartOK) h3 fun cs hc => by
    obtain ⟨_, _, rfl, ⟨a, rfl, wa⟩, _, _, rfl, ⟨b, rfl, wb⟩, _, _, rfl, ⟨c, rfl, wc⟩, rfl⟩ := hc
    exact ⟨⟨a, b, c⟩, rfl, i64_of wa, i64_of wb, i64_of wc⟩
  obtain ⟨l4, rfl, b4, p4⟩ := aggs_of (f := edgeD) (p := EdgeOK) h4 fun cs hc => by
    obtain ⟨_, _, rfl, ⟨a, rfl, wa⟩, _, _, rfl, ⟨b, rfl, wb⟩, rfl⟩ := hc
    exact ⟨⟨a, b⟩, rfl, i64_of wa, i64_of wb⟩
  obtain ⟨l5, rfl, b5, p5⟩ := aggs_of (f := futureD) (p := FutureOK) h5 fun cs hc => by
    obtain ⟨_, _, rfl, ⟨a, rfl, wa⟩, _, _, rfl, ⟨b, rfl, wb⟩, _, _, rfl, ⟨c, rfl, wc⟩, rfl⟩ := hc
    exact ⟨⟨a, b, c⟩, rfl, i64_of wa, i64_of wb, i64_of wc⟩
  obtain ⟨l6, rfl, b6, p6⟩ := aggs_of (f := barrierD) (p := BarrierOK) h6 fun cs hc => by
    obtain ⟨_, _, rfl, ha, _, _, rfl, hb, rfl⟩ := hc
    obtain ⟨a, rfl, wa⟩ := ints_of ha
    obtain ⟨b, rfl, wb⟩ := ints_of hb
    exact ⟨⟨a, b⟩, rfl, wa, wb⟩
  exact ⟨⟨n1, n2, l3, l4, l5, l6⟩, rfl, i64_of w1, i64_of w2, b3, p3, b4, p4, b5, p5, b6, p6⟩
theorem int_of {xs : List D} (h : okLfs [.int .i64] xs) : ∃ n, parD false xs = intD n ∧ I64 n := by
  obtain ⟨_, _, rfl, ⟨n, rfl, w⟩, rfl⟩ := h
  exact ⟨n, rfl, i64_of w⟩
end Go.Proofs.YtakebhleglnpjaaDoorE

namespace Go.Proofs.YtakebhleglnpjaaDoorE
open Go
set_option linter.unusedVariables false
set_option linter.unusedSimpArgs false
def lpN {S R : Type} (step : S → Option (S ⊕ R)) : Nat → S → Option R
  | 0, _ => none
  | n + 1, s => (match step s with | some (.inl s') => lpN step n s' | some (.inr r) => some r | none => none)
theorem lpN_up {S R : Type} (step : S → Option (S ⊕ R)) : ∀ (n m : Nat) (s : S) (r : R), n ≤ m → lpN step n s = some r → lpN step m s = some r
  | 0, _, _, _, _, h => by cases h
  | n + 1, 0, _, _, hm, _ => by omega
  | n + 1, m + 1, s, r, hm, h => by
    unfold lpN at h ⊢
    cases hs : step s with
    | none => rw [hs] at h; cases h
    | some t =>
      rw [hs] at h
      cases t with
      | inl s' => exact lpN_up step n m s' r (by omega) h
      | inr r' => exact h
noncomputable def lp {S R : Type} (step : S → Option (S ⊕ R)) (s : S) : Option R := @dite _ (∃ n, (lpN step n s).isSome = true) (Classical.propDecidable _) (fun h => lpN step (Classical.choose h) s) fun _ => none
theorem lp_of {S R : Type} {step : S → Option (S ⊕ R)} {s : S} {r : R} {n : Nat} (h : lpN step n s = some r) : lp step s = some r := by
  unfold lp
  have hx : ∃ n, (lpN step n s).isSome = true := ⟨n, by rw [h]; rfl⟩
  rw [dif_pos hx]
  have h2 := Classical.choose_spec hx
  cases h3 : lpN step (Classical.choose hx) s with
  | none => rw [h3] at h2; cases h2
  | some q =>
    have h4 := lpN_up step _ (max n (Classical.choose hx)) s q (by omega) h3
    have h5 := lpN_up step _ (max n (Classical.choose hx)) s r (by omega) h
    rw [h4] at h5
    exact h5
theorem lp_ex {S R : Type} {step : S → Option (S ⊕ R)} {s : S} {r : R} (h : lp step s = some r) : ∃ n, lpN step n s = some r := by
  unfold lp at h
  split at h
  · exact ⟨_, h⟩
  · cases h
theorem lp_eq {S R : Type} (step : S → Option (S ⊕ R)) (s : S) : lp step s = (match step s with | some (.inl s') => lp step s' | some (.inr r) => some r | none => none) := by
  have key : ∀ r, lp step s = some r ↔ (match step s with | some (.inl s') => lp step s' | some (.inr r) => some r | none => none) = some r := by
    intro r
    constructor
    · intro h
      obtain ⟨n, hn⟩ := lp_ex h
      cases n with
      | zero => cases hn
      | succ n =>
        unfold lpN at hn
        cases hs : step s with
        | none => rw [hs] at hn; cases hn
        | some t =>
          rw [hs] at hn
          cases t with
          | inl s' => exact lp_of hn
          | inr r' => exact hn
    · intro h
      cases hs : step s with
      | none => rw [hs] at h; cases h
      | some t =>
        rw [hs] at h
        cases t with
        | inl s' =>
          obtain ⟨n, hn⟩ := lp_ex h
          exact lp_of (n := n + 1) (by unfold lpN; rw [hs]; exact hn)
        | inr r' => exact lp_of (n := 1) (by unfold lpN; rw [hs]; exact h)
  cases h1 : lp step s with
  | some r => exact ((key r).1 h1).symm
  | none =>
    cases h2 : (match step s with | some (.inl s') => lp step s' | some (.inr r) => some r | none => none) with
    | none => rfl
    | some r => rw [(key r).2 h2] at h1; cases h1
theorem lp_again {S R : Type} {step : S → Option (S ⊕ R)} {s s' : S} (h : step s = some (.inl s')) : lp step s = lp step s' := by rw [lp_eq, h]
theorem lp_done {S R : Type} {step : S → Option (S ⊕ R)} {s : S} {r : R} (h : step s = some (.inr r)) : lp step s = some r := by rw [lp_eq, h]
noncomputable def lim1 {R : Type} (g : Nat → Option R) : Option R := @dite _ (∃ r : R, ∃ N, ∀ n, N ≤ n → g n = some r) (Classical.propDecidable _) (fun h => some (Classical.choose h)) fun _ => none
theorem lim1_ex {R : Type} {g : Nat → Option R} {r : R} (h : lim1 g = some r) : ∃ n, g n = some r := by
  unfold lim1 at h
  split at h
  · rename_i hx
    obtain ⟨N, hN⟩ := Classical.choose_spec hx
    exact ⟨N, (hN N (Nat.le_refl _)).trans h⟩
  · cases h
theorem lim1_of {R : Type} {g : Nat → Option R} {N : Nat} {r : R} (h : ∀ n, N ≤ n → g n = some r) : lim1 g = some r := by
  have hx : ∃ r : R, ∃ N, ∀ n, N ≤ n → g n = some r := ⟨r, N, h⟩
  unfold lim1
  rw [dif_pos hx]
  obtain ⟨M, hM⟩ := Classical.choose_spec hx
  rw [← hM (max N M) (by omega), h (max N M) (by omega)]
def Says {α β : Type} (E : Option α) (Q : α → Option β → Prop) (rhs : Option β) : Prop := ∀ a, E = some a → Q a rhs
section
variable {α β : Type} {A B : Option α} {Q : α → Option β → Prop}
theorem sim_br {c c' : Bool} {X Y : Option β} (h : c = c') (h1 : Says A Q X) (h2 : Says B Q Y) : Says (bif c' then A else B) Q (br c X Y) := by
  subst h
  cases c with
  | true => rw [br_t]; exact h1
  | false => rw [br_f]; exact h2
theorem sim_t {c : Bool} {X Y : Option β} (h : c = true) (h1 : Says A Q X) : Says A Q (br c X Y) := by rw [h, br_t]; exact h1
theorem sim_f {c : Bool} {X Y : Option β} (h : c = false) (h1 : Says A Q Y) : Says A Q (br c X Y) := by rw [h, br_f]; exact h1
theorem sim_let {γ : Type} {x x' : γ} {K : γ → Option β} (h : x = x') (k : Says A Q (K x')) : Says A Q (bnd (some x) K) := by rw [h, bnd_s]; exact k
theorem sim_known {γ : Type} {X : Option γ} {x : γ} {K : γ → Option β} (h : X = some x) (k : Says A Q (K x)) : Says A Q (bnd X K) := by rw [h, bnd_s]; exact k
theorem sim_bind {γ δ : Type} {E : Option γ} {A : γ → Option α} {X : Option δ} {K : δ → Option β} (enc : γ → δ) (h : ∀ r, E = some r → X = some (enc r)) (k : ∀ r, E = some r → Says (A r) Q (K (enc r))) : Says (E.bind A) Q (bnd X K) := by
  intro a ha
  cases hE : E with
  | none => rw [hE] at ha; cases ha
  | some r =>
    rw [hE] at ha
    rw [h r hE, bnd_s]
    exact k r hE a ha
theorem getI_enc {γ δ : Type} (f : γ → δ) (l : List γ) (i : Int) : getI (l.map f) i = (getI l i).map f := by
  unfold getI
  cases decide (0 ≤ i) with
  | false => rfl
  | true => simp only [cond_true, nth_eq, List.getElem?_map]
theorem sim_get {γ : Type} {f : γ → D} {l : List γ} {xs : List D} {i i' : Int} {A : γ → Option α} {K : D → Option β} (hx : xs = l.map f) (hi : i = i') (k : ∀ r, getI l i' = some r → Says (A r) Q (K (f r))) : Says ((getI l i').bind A) Q (bnd (getI xs i) K) := by
  subst hx hi
  exact sim_bind f (fun r h => by rw [getI_enc, h]; rfl) k
theorem sim_nth {γ : Type} {f : γ → D} {l : List γ} {xs : List D} {i i' : Nat} {A : γ → Option α} {K : D → Option β} (hx : xs = l.map f) (hi : i = i') (k : ∀ r, l[i']? = some r → Says (A r) Q (K (f r))) : Says ((l[i']?).bind A) Q (bnd (nth xs i) K) := by
  subst hx hi
  exact sim_bind f (fun r h => by rw [nth_eq, List.getElem?_map, h]; rfl) k
theorem nth_of {γ : Type} {f : γ → D} {l : List γ} {xs : List D} {i : Int} {r : γ} (hx : xs = l.map f) (h : getI l i = some r) : nth xs i.toNat = some (f r) := by
  subst hx
  unfold getI at h
  cases hd : decide (0 ≤ i) with
  | false => rw [hd] at h; cases h
  | true => rw [hd, cond_true, nth_eq] at h; rw [nth_eq, List.getElem?_map, h]; rfl
theorem get_of {γ : Type} {f : γ → D} {l : List γ} {xs : List D} {i : Int} {r : γ} (hx : xs = l.map f) (h : getI l i = some r) : getI xs i = some (f r) := by
  subst hx
  rw [getI_enc, h]; rfl
theorem sim_same {γ : Type} {E X : Option γ} {A : γ → Option α} {K : γ → Option β} (h : X = E) (k : ∀ r, E = some r → Says (A r) Q (K r)) : Says (E.bind A) Q (bnd X K) := by
  subst h
  exact sim_bind id (fun r h => h) k
theorem sim_ret {a : α} {X : Option β} (h : Q a X) : Says (some a) Q X := fun b hb => by cases hb; exact h
theorem sim_none {X : Option β} : Says (none : Option α) Q X := fun b hb => by cases hb
noncomputable def evD (Γ : Ctx) (f : Nat) (args : List V) : Option D := bnd (evW Γ f args []) fun r => (match fr r.2 6 r.1 with | some (x, _) => some x | none => none)
theorem call0_evD (Γ : Ctx) (f : Nat) (args : List V) (K : V → Option β) : bnd (evW Γ f args []) (call0K K) = bnd (evD Γ f args) (fun x => tellD x K) := by
  unfold evD call0K
  simp only [bnd_eq]
  cases evW Γ f args [] with
  | none => rfl
  | some r =>
    dsimp only
    cases fr r.2 6 r.1 with
    | none => rfl
    | some q => rfl
theorem sim_call {γ : Type} {Γ : Ctx} {f : Nat} {args args' : List V} {E : Option γ} {A : γ → Option α} {K : V → Option β} (enc : γ → D) (w : ∀ r, E = some r → evD Γ f args' = some (enc r)) (ha : args = args') (k : ∀ r, E = some r → Says (A r) Q (tellD (enc r) K)) : Says (E.bind A) Q (bnd (evW Γ f args []) (call0K K)) := by
  subst ha
  rw [call0_evD]
  exact sim_bind enc w k
end
theorem codeK_bnd {β δ : Type} (Γ : Ctx) (k0 : Nat) (c : C) (e : Env) (H : Heap) (k : Ex → Env → Heap → Option β) (p : β → Option δ) : bnd (codeK Γ k0 c e H k) p = codeK Γ k0 c e H fun x e H => bnd (k x e H) p := by
  rw [codeK_eq, codeK_eq]
  cases codeE Γ (evW Γ) itW k0 c e H with
  | none => exact bnd_eq _ _
  | some q => rfl
theorem evD_K (Γ : Ctx) (f : Nat) (fn : FnI) (args : List V) (hc : Γ.code f = some fn) (hn : Nat.beq args.length fn.nargs = true) :
    evD Γ f args = codeK Γ 0 fn.body (argEnv 0 args) [] fun x e H1 => (match x with
      | .exit _ => none
      | _ => (match resV e H1 fn.res with
        | some l => extractK 0 [oneRes l] H1 fun _ vs H2 => (match vs with | [v] => (match fr H2 6 v with | some (x, _) => some x | none => none) | _ => none)
        | none => none)) := by
  unfold evD
  rw [evW_K Γ f fn args [] hc hn, codeK_bnd]
  refine congrArg (codeK Γ 0 fn.body (argEnv 0 args) []) ?_
  funext x e H1
  have none_b : ∀ {γ δ : Type} (p : γ → Option δ), bnd none p = none := fun p => bnd_eq _ _
  cases x with
  | exit j => exact none_b _
  | normal =>
    dsimp only
    cases resV e H1 fn.res with
    | none => exact none_b _
    | some l =>
      dsimp only
      rw [extractK_eq, extractK_eq]
      show bnd (match extract 0 [oneRes l] H1 with | some (L, vs, H) => _ | none => none) _ = _
      cases extract 0 [oneRes l] H1 with
      | none => exact none_b _
      | some q =>
        obtain ⟨L, vs, H2⟩ := q
        match vs with
        | [] => exact none_b _
        | [v] => exact bnd_s _ _
        | _ :: _ :: _ => exact none_b _
  | ret =>
    dsimp only
    cases resV e H1 fn.res with
    | none => exact none_b _
    | some l =>
      dsimp only
      rw [extractK_eq, extractK_eq]
      show bnd (match extract 0 [oneRes l] H1 with | some (L, vs, H) => _ | none => none) _ = _
      cases extract 0 [oneRes l] H1 with
      | none => exact none_b _
      | some q =>
        obtain ⟨L, vs, H2⟩ := q
        match vs with
        | [] => exact none_b _
        | [v] => exact bnd_s _ _
        | _ :: _ :: _ => exact none_b _
theorem evD_of {Γ : Ctx} {f : Nat} {args : List V} {x : D} (n : Nat) (h : (match evN Γ n f args [] with | some (v, H) => (match fr H 6 v with | some (x, _) => some x | none => none) | none => none) = some x) : evD Γ f args = some x := by
  cases hn : evN Γ n f args [] with
  | none => rw [hn] at h; cases h
  | some r =>
    rw [hn] at h
    obtain ⟨v, H⟩ := r
    unfold evD
    rw [evW_of n hn, bnd_s]
    exact h
theorem lp_ok {S R β : Type} {step : S → Option (S ⊕ R)} {G : S → Option β} (x : R → β)
    (h : ∀ (s : S) (rec : S → Option R), (∀ s r, rec s = some r → G s = some (x r)) → Says (step s) (fun t rhs => (match t with | .inl s' => ∀ r, rec s' = some r → rhs = some (x r) | .inr r => rhs = some (x r))) (G s)) : ∀ s r, lp step s = some r → G s = some (x r) := by
  intro s r hr
  obtain ⟨n, hn⟩ := lp_ex hr
  clear hr
  induction n generalizing s r with
  | zero => cases hn
  | succ n ih =>
    unfold lpN at hn
    cases hs : step s with
    | none => rw [hs] at hn; cases hn
    | some t =>
      rw [hs] at hn
      have := h s (lpN step n) ih t hs
      cases t with
      | inl s' => exact this r hn
      | inr r' => cases hn; exact this
theorem sim_again {S R β : Type} {G : Option β} {rec : S → Option R} {x : R → β} {s' : S} (h : ∀ r, rec s' = some r → G = some (x r)) : Says (some (Sum.inl s')) (fun (t : S ⊕ R) (rhs : Option β) => (match t with | .inl s' => ∀ r, rec s' = some r → rhs = some (x r) | .inr r => rhs = some (x r))) (bnd G some) := by
  intro a ha
  cases ha
  intro r hr
  rw [bnd_some]
  exact h r hr
theorem evD_true {Γ : Ctx} {f : Nat} {args : List V} (h : evD Γ f args = some (.bool true)) : ∃ H', evW Γ f args [] = some (.d (.bool true), H') := by
  unfold evD at h
  rw [bnd_eq] at h
  cases he : evW Γ f args [] with
  | none => rw [he] at h; cases h
  | some r =>
    obtain ⟨v, H⟩ := r
    rw [he] at h
    refine ⟨H, ?_⟩
    dsimp only at h
    cases hf : fr H 6 v with
    | none => rw [hf] at h; cases h
    | some q =>
      obtain ⟨x, ks⟩ := q
      rw [hf] at h
      cases h
      unfold fr at hf
      split at hf
      · rename_i x
        split at hf
        · rename_i ts
          cases he : escT ts <;> rw [he] at hf <;> cases hf
        · rename_i y hy
          cases he : x.esc <;> rw [he] at hf <;> cases hf
          rfl
      all_goals
        first
        | cases hf
        | (split at hf <;> first | cases hf | (rename_i sz' xs _; revert hf; cases Nat.beq _ sz' <;> intro hf <;> cases hf) | skip)
      all_goals
        rename_i l ks _
        first
        | (cases he : D.escs l <;> rw [he] at hf <;> cases hf)
        | cases hf
theorem sim_ct {α β : Type} {A B : Option α} {Q : α → Option β → Prop} {X : Option β} (h : Says A Q X) : Says (bif true then A else B) Q X := h
theorem sim_cf {α β : Type} {A B : Option α} {Q : α → Option β → Prop} {X : Option β} (h : Says B Q X) : Says (bif false then A else B) Q X := h
abbrev w64 (n : Int) : Int := IntKind.i64.wrap n
section
variable {γ : Type}
theorem len_enc (f : γ → D) (l : List γ) : (((List.map f l).length : Nat) : Int) = ((l.length : Nat) : Int) := by rw [List.length_map]
theorem rep_enc (f : γ → D) (z : γ) (n : Int) : List.replicate n.toNat (f z) = List.map f (List.replicate n.toNat z) := by rw [List.map_replicate]
theorem setAt_set {α : Type} : ∀ (l : List α) (i : Nat) (y : α), setAt l i y = l.set i y
  | [], _, _ => rfl
  | _ :: _, 0, _ => rfl
  | x :: l, i + 1, y => congrArg (x :: ·) (setAt_set l i y)
theorem set_enc (f : γ → D) (l : List γ) (i : Nat) (y : γ) : setAt (List.map f l) i (f y) = List.map f (List.set l i y) := by rw [setAt_set, List.map_set]
theorem app_enc (f : γ → D) (l m : List γ) : List.map f l ++ List.map f m = List.map f (l ++ m) := by rw [List.map_append]
theorem app_enc' (f : γ → D) (l m : List γ) (ms : List D) (h : ms = List.map f m) : List.map f l ++ ms = List.map f (l ++ m) := by rw [h, List.map_append]
theorem ble_enc (f : γ → D) (l : List γ) (n : Nat) : Nat.ble ((List.map f l).length + n) lim = Nat.ble (l.length + n) lim := by rw [List.length_map]
theorem ble_enc1 (f : γ → D) (l : List γ) : Nat.ble (List.map f l).length lim = Nat.ble l.length lim := by rw [List.length_map]
theorem ble_enc2 (f : γ → D) (l m : List γ) : Nat.ble ((List.map f l).length + (List.map f m).length) lim = Nat.ble (l.length + m.length) lim := by rw [List.length_map, List.length_map]
theorem dt_enc (f : γ → D) (l : List γ) (o n : Nat) : List.take n (List.drop o (List.map f l)) = List.map f (List.take n (List.drop o l)) := by rw [← List.map_drop, ← List.map_take]
theorem sl_enc (f : γ → D) (l : List γ) (lo hi : Nat) : List.take (hi - lo) (List.drop lo (List.map f l)) = List.map f (List.take (hi - lo) (List.drop lo l)) := dt_enc f l lo (hi - lo)
theorem sl_enc0 (f : γ → D) (l : List γ) (hi : Nat) : List.take (hi - 0) (List.drop 0 (List.map f l)) = List.map f (List.take hi l) := by rw [dt_enc]; rfl
theorem sl_enc_all (f : γ → D) (l : List γ) (lo : Nat) : List.take ((List.map f l).length - lo) (List.drop lo (List.map f l)) = List.map f (List.drop lo l) := by
  rw [dt_enc, List.length_map, List.take_of_length_le (by rw [List.length_drop]; exact Nat.le_refl _)]
theorem sl_enc_all0 (f : γ → D) (l : List γ) : List.take ((List.map f l).length - 0) (List.drop 0 (List.map f l)) = List.map f l := sl_enc_all f l 0
theorem sz_enc (f : γ → D) {sz : Nat} (hf : ∀ x, (f x).cells.length = sz ∧ (V.d (f x)).okb = true) (l : List γ) (i : Nat) : (Nat.beq i 0 || szAt sz (List.map f l) i) = true := by rw [szAt_map hf, Bool.or_true]
theorem sl_all0 (n : Nat) : (Nat.ble 0 n && Nat.ble n n) = true := by rw [Nat.ble_eq_true_of_le (Nat.le_refl n)]; cases n <;> rfl
theorem sl_c_all (f : γ → D) (l : List γ) (lo : Nat) : (Nat.ble lo (List.map f l).length && Nat.ble (List.map f l).length (List.map f l).length) = Nat.ble lo l.length := by rw [List.length_map, Nat.ble_eq_true_of_le (Nat.le_refl l.length), Bool.and_true]
theorem sl_c0 (f : γ → D) (l : List γ) (hi : Nat) : (Nat.ble 0 hi && Nat.ble hi (List.map f l).length) = Nat.ble hi l.length := by rw [List.length_map]; cases hi <;> rfl
theorem sl_c (f : γ → D) (l : List γ) (lo hi : Nat) : (Nat.ble lo hi && Nat.ble hi (List.map f l).length) = (Nat.ble lo hi && Nat.ble hi l.length) := by rw [List.length_map]
theorem cut_enc (f : γ → D) (l m : List γ) (ms : List D) (h : ms = List.map f m) (o n : Nat) : List.take (o + n) (List.map f l) ++ (ms ++ List.drop (o + n + ms.length) (List.map f l)) = List.map f (List.take (o + n) l ++ (m ++ List.drop (o + n + m.length) l)) := by
  rw [h, List.map_append, List.map_append, List.map_take, List.map_drop, List.length_map]
theorem ble_cut (f : γ → D) (l m : List γ) (ms : List D) (h : ms = List.map f m) (n : Nat) : Nat.ble (n + ms.length) (List.map f l).length = Nat.ble (n + m.length) l.length := by rw [h, List.length_map, List.length_map]
theorem ins_enc (f : γ → D) (l m : List γ) (o n k : Nat) (hk : (List.map f m).length = k) : List.take (o + n) (List.map f l) ++ (List.map f m ++ List.drop (o + n + k) (List.map f l)) = List.map f (List.take (o + n) l ++ (m ++ List.drop (o + n + k) l)) := by
  rw [List.map_append, List.map_append, List.map_take, List.map_drop]
end
end Go.Proofs.YtakebhleglnpjaaDoorE

namespace Go.Proofs.YtakebhleglnpjaaDoor
open Go Go.Proofs.YtakebhleglnpjaaDoorE
set_option linter.unusedVariables false
structure DagT where
  work : (List Int)
  edges : (List EdgeT)
  deriving DecidableEq
abbrev dagD (x : DagT) : D := (D.agg [(D.list true (List.map intD x.work)), (D.list true (List.map edgeD x.edges))])
def str0 : ByteArray := ⟨#[0, 1, 2, 2, 3, 3, 3, 3, 4, 4, 4, 4, 4, 4, 4, 4, 5, 5, 5, 5, 5, 5, 5, 5, 5, 5, 5, 5, 5, 5, 5, 5, 6, 6, 6, 6, 6, 6, 6, 6, 6, 6, 6, 6, 6, 6, 6, 6, 6, 6, 6, 6, 6, 6, 6, 6, 6, 6, 6, 6, 6, 6, 6, 6, 7, 7, 7, 7, 7, 7, 7, 7, 7, 7, 7, 7, 7, 7, 7, 7, 7, 7, 7, 7, 7, 7, 7, 7, 7, 7, 7, 7, 7, 7, 7, 7, 7, 7, 7, 7, 7, 7, 7, 7, 7, 7, 7, 7, 7, 7, 7, 7, 7, 7, 7, 7, 7, 7, 7, 7, 7, 7, 7, 7, 7, 7, 7, 7, 8, 8, 8, 8, 8, 8, 8, 8, 8, 8, 8, 8, 8, 8, 8, 8, 8, 8, 8, 8, 8, 8, 8, 8, 8, 8, 8, 8, 8, 8, 8, 8, 8, 8, 8, 8, 8, 8, 8, 8, 8, 8, 8, 8, 8, 8, 8, 8, 8, 8, 8, 8, 8, 8, 8, 8, 8, 8, 8, 8, 8, 8, 8, 8, 8, 8, 8, 8, 8, 8, 8, 8, 8, 8, 8, 8, 8, 8, 8, 8, 8, 8, 8, 8, 8, 8, 8, 8, 8, 8, 8, 8, 8, 8, 8, 8, 8, 8, 8, 8, 8, 8, 8, 8, 8, 8, 8, 8, 8, 8, 8, 8, 8, 8, 8, 8, 8, 8, 8, 8, 8, 8, 8, 8, 8, 8, 8, 8]⟩
def g_law05_awake : Option Bool := some true
noncomputable def g_ref05_Few_L0 (a : DescT) (s0 : Int) : Option (Int ⊕ (Unit ⊕ Unit)) :=
  bif (decide (s0 < (a.barriers.length : Int))) then
    bif (decide (s0 < 9)) then
      (getI a.barriers s0).bind fun x1 =>
      bif (decide (20 < (x1.ins.length : Int))) then
        some (.inr (.inl ()))
      else
        bif (decide (20 < (x1.outs.length : Int))) then
          some (.inr (.inl ()))
        else
          some (.inl (w64 (s0 + 1)))
    else
      some (.inr (.inr ()))
  else
    some (.inr (.inr ()))
noncomputable def g_ref05_Few (a : DescT) : Option Bool :=
  (lp (g_ref05_Few_L0 a) 0).bind fun r2 =>
  match r2 with
  | (.inl r2) =>
    some false
  | (.inr r2) =>
    bif (decide ((a.parts.length : Int) ≤ 20)) then
      bif (decide ((a.edges.length : Int) ≤ 60)) then
        bif (decide ((a.futures.length : Int) ≤ 20)) then
          bif (decide ((a.barriers.length : Int) ≤ 8)) then
            some true
          else
            some false
        else
          some false
      else
        some false
    else
      some false
noncomputable def g_law05_Own_L0 (a : DescT) (s0 : Int × (List BarrierT)) : Option ((Int × (List BarrierT)) ⊕ (List BarrierT)) :=
  bif (decide (s0.1 < (a.barriers.length : Int))) then
    (getI a.barriers s0.1).bind fun x1 =>
    bif (Nat.ble (List.length x1.ins) lim) then
      bif (Nat.ble (List.length x1.outs) lim) then
        bif (Nat.ble (List.length s0.2 + 1) lim) then
          some (.inl ((w64 (s0.1 + 1)), (s0.2 ++ [x1])))
        else
          none
      else
        none
    else
      none
  else
    some (.inr s0.2)
noncomputable def g_law05_Own (a : DescT) : Option (List BarrierT) :=
  bif (Nat.ble (List.length a.parts) lim) then
    bif (Nat.ble (List.length a.edges) lim) then
      bif (Nat.ble (List.length a.futures) lim) then
        (lp (g_law05_Own_L0 a) (0, ([] : (List BarrierT)))).bind fun r2 =>
        some r2
      else
        none
    else
      none
  else
    none
noncomputable def g_desc_within (a : Int) (b : Int) (c : Int) : Option Bool :=
  bif (decide (b ≤ a)) then
    bif (decide (a ≤ c)) then
      some true
    else
      some false
  else
    some false
noncomputable def g_num_Check (a : Int) : Option Int :=
  bif (decide (a < 0)) then
    some 10
  else
    bif (decide (1099511627775 < a)) then
      some 11
    else
      some 0
noncomputable def g_math_bits_OnesCount64 (a : Int) : Option Int :=
  some (IntKind.i64.wrap (BitVec.ofInt IntKind.i64.bits (w64 (IntKind.u64.wrap ((IntKind.u64.wrap ((IntKind.u64.wrap ((IntKind.u64.wrap (BitVec.ofInt IntKind.u64.bits (IntKind.u64.wrap ((Int.fdiv (IntKind.u64.wrap ((IntKind.u64.wrap (BitVec.ofInt IntKind.u64.bits (Int.fdiv (IntKind.u64.wrap ((IntKind.u64.wrap (BitVec.ofInt IntKind.u64.bits (Int.fdiv a (2 ^ 1)) &&& BitVec.ofInt IntKind.u64.bits 6148914691236517205).toNat) + (IntKind.u64.wrap (BitVec.ofInt IntKind.u64.bits a &&& BitVec.ofInt IntKind.u64.bits 6148914691236517205).toNat))) (2 ^ 2)) &&& BitVec.ofInt IntKind.u64.bits 3689348814741910323).toNat) + (IntKind.u64.wrap (BitVec.ofInt IntKind.u64.bits (IntKind.u64.wrap ((IntKind.u64.wrap (BitVec.ofInt IntKind.u64.bits (Int.fdiv a (2 ^ 1)) &&& BitVec.ofInt IntKind.u64.bits 6148914691236517205).toNat) + (IntKind.u64.wrap (BitVec.ofInt IntKind.u64.bits a &&& BitVec.ofInt IntKind.u64.bits 6148914691236517205).toNat))) &&& BitVec.ofInt IntKind.u64.bits 3689348814741910323).toNat))) (2 ^ 4)) + (IntKind.u64.wrap ((IntKind.u64.wrap (BitVec.ofInt IntKind.u64.bits (Int.fdiv (IntKind.u64.wrap ((IntKind.u64.wrap (BitVec.ofInt IntKind.u64.bits (Int.fdiv a (2 ^ 1)) &&& BitVec.ofInt IntKind.u64.bits 6148914691236517205).toNat) + (IntKind.u64.wrap (BitVec.ofInt IntKind.u64.bits a &&& BitVec.ofInt IntKind.u64.bits 6148914691236517205).toNat))) (2 ^ 2)) &&& BitVec.ofInt IntKind.u64.bits 3689348814741910323).toNat) + (IntKind.u64.wrap (BitVec.ofInt IntKind.u64.bits (IntKind.u64.wrap ((IntKind.u64.wrap (BitVec.ofInt IntKind.u64.bits (Int.fdiv a (2 ^ 1)) &&& BitVec.ofInt IntKind.u64.bits 6148914691236517205).toNat) + (IntKind.u64.wrap (BitVec.ofInt IntKind.u64.bits a &&& BitVec.ofInt IntKind.u64.bits 6148914691236517205).toNat))) &&& BitVec.ofInt IntKind.u64.bits 3689348814741910323).toNat))))) &&& BitVec.ofInt IntKind.u64.bits 1085102592571150095).toNat) + (Int.fdiv (IntKind.u64.wrap (BitVec.ofInt IntKind.u64.bits (IntKind.u64.wrap ((Int.fdiv (IntKind.u64.wrap ((IntKind.u64.wrap (BitVec.ofInt IntKind.u64.bits (Int.fdiv (IntKind.u64.wrap ((IntKind.u64.wrap (BitVec.ofInt IntKind.u64.bits (Int.fdiv a (2 ^ 1)) &&& BitVec.ofInt IntKind.u64.bits 6148914691236517205).toNat) + (IntKind.u64.wrap (BitVec.ofInt IntKind.u64.bits a &&& BitVec.ofInt IntKind.u64.bits 6148914691236517205).toNat))) (2 ^ 2)) &&& BitVec.ofInt IntKind.u64.bits 3689348814741910323).toNat) + (IntKind.u64.wrap (BitVec.ofInt IntKind.u64.bits (IntKind.u64.wrap ((IntKind.u64.wrap (BitVec.ofInt IntKind.u64.bits (Int.fdiv a (2 ^ 1)) &&& BitVec.ofInt IntKind.u64.bits 6148914691236517205).toNat) + (IntKind.u64.wrap (BitVec.ofInt IntKind.u64.bits a &&& BitVec.ofInt IntKind.u64.bits 6148914691236517205).toNat))) &&& BitVec.ofInt IntKind.u64.bits 3689348814741910323).toNat))) (2 ^ 4)) + (IntKind.u64.wrap ((IntKind.u64.wrap (BitVec.ofInt IntKind.u64.bits (Int.fdiv (IntKind.u64.wrap ((IntKind.u64.wrap (BitVec.ofInt IntKind.u64.bits (Int.fdiv a (2 ^ 1)) &&& BitVec.ofInt IntKind.u64.bits 6148914691236517205).toNat) + (IntKind.u64.wrap (BitVec.ofInt IntKind.u64.bits a &&& BitVec.ofInt IntKind.u64.bits 6148914691236517205).toNat))) (2 ^ 2)) &&& BitVec.ofInt IntKind.u64.bits 3689348814741910323).toNat) + (IntKind.u64.wrap (BitVec.ofInt IntKind.u64.bits (IntKind.u64.wrap ((IntKind.u64.wrap (BitVec.ofInt IntKind.u64.bits (Int.fdiv a (2 ^ 1)) &&& BitVec.ofInt IntKind.u64.bits 6148914691236517205).toNat) + (IntKind.u64.wrap (BitVec.ofInt IntKind.u64.bits a &&& BitVec.ofInt IntKind.u64.bits 6148914691236517205).toNat))) &&& BitVec.ofInt IntKind.u64.bits 3689348814741910323).toNat))))) &&& BitVec.ofInt IntKind.u64.bits 1085102592571150095).toNat) (2 ^ 8)))) + (Int.fdiv (IntKind.u64.wrap ((IntKind.u64.wrap (BitVec.ofInt IntKind.u64.bits (IntKind.u64.wrap ((Int.fdiv (IntKind.u64.wrap ((IntKind.u64.wrap (BitVec.ofInt IntKind.u64.bits (Int.fdiv (IntKind.u64.wrap ((IntKind.u64.wrap (BitVec.ofInt IntKind.u64.bits (Int.fdiv a (2 ^ 1)) &&& BitVec.ofInt IntKind.u64.bits 6148914691236517205).toNat) + (IntKind.u64.wrap (BitVec.ofInt IntKind.u64.bits a &&& BitVec.ofInt IntKind.u64.bits 6148914691236517205).toNat))) (2 ^ 2)) &&& BitVec.ofInt IntKind.u64.bits 3689348814741910323).toNat) + (IntKind.u64.wrap (BitVec.ofInt IntKind.u64.bits (IntKind.u64.wrap ((IntKind.u64.wrap (BitVec.ofInt IntKind.u64.bits (Int.fdiv a (2 ^ 1)) &&& BitVec.ofInt IntKind.u64.bits 6148914691236517205).toNat) + (IntKind.u64.wrap (BitVec.ofInt IntKind.u64.bits a &&& BitVec.ofInt IntKind.u64.bits 6148914691236517205).toNat))) &&& BitVec.ofInt IntKind.u64.bits 3689348814741910323).toNat))) (2 ^ 4)) + (IntKind.u64.wrap ((IntKind.u64.wrap (BitVec.ofInt IntKind.u64.bits (Int.fdiv (IntKind.u64.wrap ((IntKind.u64.wrap (BitVec.ofInt IntKind.u64.bits (Int.fdiv a (2 ^ 1)) &&& BitVec.ofInt IntKind.u64.bits 6148914691236517205).toNat) + (IntKind.u64.wrap (BitVec.ofInt IntKind.u64.bits a &&& BitVec.ofInt IntKind.u64.bits 6148914691236517205).toNat))) (2 ^ 2)) &&& BitVec.ofInt IntKind.u64.bits 3689348814741910323).toNat) + (IntKind.u64.wrap (BitVec.ofInt IntKind.u64.bits (IntKind.u64.wrap ((IntKind.u64.wrap (BitVec.ofInt IntKind.u64.bits (Int.fdiv a (2 ^ 1)) &&& BitVec.ofInt IntKind.u64.bits 6148914691236517205).toNat) + (IntKind.u64.wrap (BitVec.ofInt IntKind.u64.bits a &&& BitVec.ofInt IntKind.u64.bits 6148914691236517205).toNat))) &&& BitVec.ofInt IntKind.u64.bits 3689348814741910323).toNat))))) &&& BitVec.ofInt IntKind.u64.bits 1085102592571150095).toNat) + (Int.fdiv (IntKind.u64.wrap (BitVec.ofInt IntKind.u64.bits (IntKind.u64.wrap ((Int.fdiv (IntKind.u64.wrap ((IntKind.u64.wrap (BitVec.ofInt IntKind.u64.bits (Int.fdiv (IntKind.u64.wrap ((IntKind.u64.wrap (BitVec.ofInt IntKind.u64.bits (Int.fdiv a (2 ^ 1)) &&& BitVec.ofInt IntKind.u64.bits 6148914691236517205).toNat) + (IntKind.u64.wrap (BitVec.ofInt IntKind.u64.bits a &&& BitVec.ofInt IntKind.u64.bits 6148914691236517205).toNat))) (2 ^ 2)) &&& BitVec.ofInt IntKind.u64.bits 3689348814741910323).toNat) + (IntKind.u64.wrap (BitVec.ofInt IntKind.u64.bits (IntKind.u64.wrap ((IntKind.u64.wrap (BitVec.ofInt IntKind.u64.bits (Int.fdiv a (2 ^ 1)) &&& BitVec.ofInt IntKind.u64.bits 6148914691236517205).toNat) + (IntKind.u64.wrap (BitVec.ofInt IntKind.u64.bits a &&& BitVec.ofInt IntKind.u64.bits 6148914691236517205).toNat))) &&& BitVec.ofInt IntKind.u64.bits 3689348814741910323).toNat))) (2 ^ 4)) + (IntKind.u64.wrap ((IntKind.u64.wrap (BitVec.ofInt IntKind.u64.bits (Int.fdiv (IntKind.u64.wrap ((IntKind.u64.wrap (BitVec.ofInt IntKind.u64.bits (Int.fdiv a (2 ^ 1)) &&& BitVec.ofInt IntKind.u64.bits 6148914691236517205).toNat) + (IntKind.u64.wrap (BitVec.ofInt IntKind.u64.bits a &&& BitVec.ofInt IntKind.u64.bits 6148914691236517205).toNat))) (2 ^ 2)) &&& BitVec.ofInt IntKind.u64.bits 3689348814741910323).toNat) + (IntKind.u64.wrap (BitVec.ofInt IntKind.u64.bits (IntKind.u64.wrap ((IntKind.u64.wrap (BitVec.ofInt IntKind.u64.bits (Int.fdiv a (2 ^ 1)) &&& BitVec.ofInt IntKind.u64.bits 6148914691236517205).toNat) + (IntKind.u64.wrap (BitVec.ofInt IntKind.u64.bits a &&& BitVec.ofInt IntKind.u64.bits 6148914691236517205).toNat))) &&& BitVec.ofInt IntKind.u64.bits 3689348814741910323).toNat))))) &&& BitVec.ofInt IntKind.u64.bits 1085102592571150095).toNat) (2 ^ 8)))) (2 ^ 16)))) + (Int.fdiv (IntKind.u64.wrap ((IntKind.u64.wrap ((IntKind.u64.wrap (BitVec.ofInt IntKind.u64.bits (IntKind.u64.wrap ((Int.fdiv (IntKind.u64.wrap ((IntKind.u64.wrap (BitVec.ofInt IntKind.u64.bits (Int.fdiv (IntKind.u64.wrap ((IntKind.u64.wrap (BitVec.ofInt IntKind.u64.bits (Int.fdiv a (2 ^ 1)) &&& BitVec.ofInt IntKind.u64.bits 6148914691236517205).toNat) + (IntKind.u64.wrap (BitVec.ofInt IntKind.u64.bits a &&& BitVec.ofInt IntKind.u64.bits 6148914691236517205).toNat))) (2 ^ 2)) &&& BitVec.ofInt IntKind.u64.bits 3689348814741910323).toNat) + (IntKind.u64.wrap (BitVec.ofInt IntKind.u64.bits (IntKind.u64.wrap ((IntKind.u64.wrap (BitVec.ofInt IntKind.u64.bits (Int.fdiv a (2 ^ 1)) &&& BitVec.ofInt IntKind.u64.bits 6148914691236517205).toNat) + (IntKind.u64.wrap (BitVec.ofInt IntKind.u64.bits a &&& BitVec.ofInt IntKind.u64.bits 6148914691236517205).toNat))) &&& BitVec.ofInt IntKind.u64.bits 3689348814741910323).toNat))) (2 ^ 4)) + (IntKind.u64.wrap ((IntKind.u64.wrap (BitVec.ofInt IntKind.u64.bits (Int.fdiv (IntKind.u64.wrap ((IntKind.u64.wrap (BitVec.ofInt IntKind.u64.bits (Int.fdiv a (2 ^ 1)) &&& BitVec.ofInt IntKind.u64.bits 6148914691236517205).toNat) + (IntKind.u64.wrap (BitVec.ofInt IntKind.u64.bits a &&& BitVec.ofInt IntKind.u64.bits 6148914691236517205).toNat))) (2 ^ 2)) &&& BitVec.ofInt IntKind.u64.bits 3689348814741910323).toNat) + (IntKind.u64.wrap (BitVec.ofInt IntKind.u64.bits (IntKind.u64.wrap ((IntKind.u64.wrap (BitVec.ofInt IntKind.u64.bits (Int.fdiv a (2 ^ 1)) &&& BitVec.ofInt IntKind.u64.bits 6148914691236517205).toNat) + (IntKind.u64.wrap (BitVec.ofInt IntKind.u64.bits a &&& BitVec.ofInt IntKind.u64.bits 6148914691236517205).toNat))) &&& BitVec.ofInt IntKind.u64.bits 3689348814741910323).toNat))))) &&& BitVec.ofInt IntKind.u64.bits 1085102592571150095).toNat) + (Int.fdiv (IntKind.u64.wrap (BitVec.ofInt IntKind.u64.bits (IntKind.u64.wrap ((Int.fdiv (IntKind.u64.wrap ((IntKind.u64.wrap (BitVec.ofInt IntKind.u64.bits (Int.fdiv (IntKind.u64.wrap ((IntKind.u64.wrap (BitVec.ofInt IntKind.u64.bits (Int.fdiv a (2 ^ 1)) &&& BitVec.ofInt IntKind.u64.bits 6148914691236517205).toNat) + (IntKind.u64.wrap (BitVec.ofInt IntKind.u64.bits a &&& BitVec.ofInt IntKind.u64.bits 6148914691236517205).toNat))) (2 ^ 2)) &&& BitVec.ofInt IntKind.u64.bits 3689348814741910323).toNat) + (IntKind.u64.wrap (BitVec.ofInt IntKind.u64.bits (IntKind.u64.wrap ((IntKind.u64.wrap (BitVec.ofInt IntKind.u64.bits (Int.fdiv a (2 ^ 1)) &&& BitVec.ofInt IntKind.u64.bits 6148914691236517205).toNat) + (IntKind.u64.wrap (BitVec.ofInt IntKind.u64.bits a &&& BitVec.ofInt IntKind.u64.bits 6148914691236517205).toNat))) &&& BitVec.ofInt IntKind.u64.bits 3689348814741910323).toNat))) (2 ^ 4)) + (IntKind.u64.wrap ((IntKind.u64.wrap (BitVec.ofInt IntKind.u64.bits (Int.fdiv (IntKind.u64.wrap ((IntKind.u64.wrap (BitVec.ofInt IntKind.u64.bits (Int.fdiv a (2 ^ 1)) &&& BitVec.ofInt IntKind.u64.bits 6148914691236517205).toNat) + (IntKind.u64.wrap (BitVec.ofInt IntKind.u64.bits a &&& BitVec.ofInt IntKind.u64.bits 6148914691236517205).toNat))) (2 ^ 2)) &&& BitVec.ofInt IntKind.u64.bits 3689348814741910323).toNat) + (IntKind.u64.wrap (BitVec.ofInt IntKind.u64.bits (IntKind.u64.wrap ((IntKind.u64.wrap (BitVec.ofInt IntKind.u64.bits (Int.fdiv a (2 ^ 1)) &&& BitVec.ofInt IntKind.u64.bits 6148914691236517205).toNat) + (IntKind.u64.wrap (BitVec.ofInt IntKind.u64.bits a &&& BitVec.ofInt IntKind.u64.bits 6148914691236517205).toNat))) &&& BitVec.ofInt IntKind.u64.bits 3689348814741910323).toNat))))) &&& BitVec.ofInt IntKind.u64.bits 1085102592571150095).toNat) (2 ^ 8)))) + (Int.fdiv (IntKind.u64.wrap ((IntKind.u64.wrap (BitVec.ofInt IntKind.u64.bits (IntKind.u64.wrap ((Int.fdiv (IntKind.u64.wrap ((IntKind.u64.wrap (BitVec.ofInt IntKind.u64.bits (Int.fdiv (IntKind.u64.wrap ((IntKind.u64.wrap (BitVec.ofInt IntKind.u64.bits (Int.fdiv a (2 ^ 1)) &&& BitVec.ofInt IntKind.u64.bits 6148914691236517205).toNat) + (IntKind.u64.wrap (BitVec.ofInt IntKind.u64.bits a &&& BitVec.ofInt IntKind.u64.bits 6148914691236517205).toNat))) (2 ^ 2)) &&& BitVec.ofInt IntKind.u64.bits 3689348814741910323).toNat) + (IntKind.u64.wrap (BitVec.ofInt IntKind.u64.bits (IntKind.u64.wrap ((IntKind.u64.wrap (BitVec.ofInt IntKind.u64.bits (Int.fdiv a (2 ^ 1)) &&& BitVec.ofInt IntKind.u64.bits 6148914691236517205).toNat) + (IntKind.u64.wrap (BitVec.ofInt IntKind.u64.bits a &&& BitVec.ofInt IntKind.u64.bits 6148914691236517205).toNat))) &&& BitVec.ofInt IntKind.u64.bits 3689348814741910323).toNat))) (2 ^ 4)) + (IntKind.u64.wrap ((IntKind.u64.wrap (BitVec.ofInt IntKind.u64.bits (Int.fdiv (IntKind.u64.wrap ((IntKind.u64.wrap (BitVec.ofInt IntKind.u64.bits (Int.fdiv a (2 ^ 1)) &&& BitVec.ofInt IntKind.u64.bits 6148914691236517205).toNat) + (IntKind.u64.wrap (BitVec.ofInt IntKind.u64.bits a &&& BitVec.ofInt IntKind.u64.bits 6148914691236517205).toNat))) (2 ^ 2)) &&& BitVec.ofInt IntKind.u64.bits 3689348814741910323).toNat) + (IntKind.u64.wrap (BitVec.ofInt IntKind.u64.bits (IntKind.u64.wrap ((IntKind.u64.wrap (BitVec.ofInt IntKind.u64.bits (Int.fdiv a (2 ^ 1)) &&& BitVec.ofInt IntKind.u64.bits 6148914691236517205).toNat) + (IntKind.u64.wrap (BitVec.ofInt IntKind.u64.bits a &&& BitVec.ofInt IntKind.u64.bits 6148914691236517205).toNat))) &&& BitVec.ofInt IntKind.u64.bits 3689348814741910323).toNat))))) &&& BitVec.ofInt IntKind.u64.bits 1085102592571150095).toNat) + (Int.fdiv (IntKind.u64.wrap (BitVec.ofInt IntKind.u64.bits (IntKind.u64.wrap ((Int.fdiv (IntKind.u64.wrap ((IntKind.u64.wrap (BitVec.ofInt IntKind.u64.bits (Int.fdiv (IntKind.u64.wrap ((IntKind.u64.wrap (BitVec.ofInt IntKind.u64.bits (Int.fdiv a (2 ^ 1)) &&& BitVec.ofInt IntKind.u64.bits 6148914691236517205).toNat) + (IntKind.u64.wrap (BitVec.ofInt IntKind.u64.bits a &&& BitVec.ofInt IntKind.u64.bits 6148914691236517205).toNat))) (2 ^ 2)) &&& BitVec.ofInt IntKind.u64.bits 3689348814741910323).toNat) + (IntKind.u64.wrap (BitVec.ofInt IntKind.u64.bits (IntKind.u64.wrap ((IntKind.u64.wrap (BitVec.ofInt IntKind.u64.bits (Int.fdiv a (2 ^ 1)) &&& BitVec.ofInt IntKind.u64.bits 6148914691236517205).toNat) + (IntKind.u64.wrap (BitVec.ofInt IntKind.u64.bits a &&& BitVec.ofInt IntKind.u64.bits 6148914691236517205).toNat))) &&& BitVec.ofInt IntKind.u64.bits 3689348814741910323).toNat))) (2 ^ 4)) + (IntKind.u64.wrap ((IntKind.u64.wrap (BitVec.ofInt IntKind.u64.bits (Int.fdiv (IntKind.u64.wrap ((IntKind.u64.wrap (BitVec.ofInt IntKind.u64.bits (Int.fdiv a (2 ^ 1)) &&& BitVec.ofInt IntKind.u64.bits 6148914691236517205).toNat) + (IntKind.u64.wrap (BitVec.ofInt IntKind.u64.bits a &&& BitVec.ofInt IntKind.u64.bits 6148914691236517205).toNat))) (2 ^ 2)) &&& BitVec.ofInt IntKind.u64.bits 3689348814741910323).toNat) + (IntKind.u64.wrap (BitVec.ofInt IntKind.u64.bits (IntKind.u64.wrap ((IntKind.u64.wrap (BitVec.ofInt IntKind.u64.bits (Int.fdiv a (2 ^ 1)) &&& BitVec.ofInt IntKind.u64.bits 6148914691236517205).toNat) + (IntKind.u64.wrap (BitVec.ofInt IntKind.u64.bits a &&& BitVec.ofInt IntKind.u64.bits 6148914691236517205).toNat))) &&& BitVec.ofInt IntKind.u64.bits 3689348814741910323).toNat))))) &&& BitVec.ofInt IntKind.u64.bits 1085102592571150095).toNat) (2 ^ 8)))) (2 ^ 16)))) (2 ^ 32))))) &&& BitVec.ofInt IntKind.i64.bits 127).toNat)
noncomputable def g_math_bits_OnesCount (a : Int) : Option Int :=
  (g_math_bits_OnesCount64 a).bind fun x0 =>
  some x0
def tz64tab : List Int := [0, 1, 56, 2, 57, 49, 28, 3, 61, 58, 42, 50, 38, 29, 17, 4, 62, 47, 59, 36, 45, 43, 51, 22, 53, 39, 33, 30, 24, 18, 12, 5, 63, 55, 48, 27, 60, 41, 37, 16, 46, 35, 44, 21, 52, 32, 23, 11, 54, 26, 40, 15, 34, 20, 31, 10, 25, 14, 19, 9, 13, 8, 7, 6]
def g_math_bits_TrailingZeros64 (a : Int) : Option Int := some (bif a == 0 then 64 else w64 (tz64tab.getD (Int.fdiv (IntKind.u64.wrap ((IntKind.u64.wrap (BitVec.ofInt IntKind.u64.bits a &&& BitVec.ofInt IntKind.u64.bits (IntKind.u64.wrap (0 - a))).toNat) * 285870213051353865)) (2 ^ (min (Int.toNat 58) IntKind.u64.bits))).toNat 0))
noncomputable def g_math_bits_TrailingZeros (a : Int) : Option Int :=
  (g_math_bits_TrailingZeros64 a).bind fun x0 =>
  some x0
noncomputable def g_num_Two (a : Int) : Option (Int × Bool) :=
  (g_num_Check a).bind fun x0 =>
  bif (x0 != 0) then
    some (0, false)
  else
    (g_math_bits_OnesCount (IntKind.u64.wrap a)).bind fun x1 =>
    bif (x1 != 1) then
      some (0, false)
    else
      (g_math_bits_TrailingZeros (IntKind.u64.wrap a)).bind fun x2 =>
      some (x2, true)
noncomputable def g_desc_part (a : PartT) : Option Bool :=
  (g_desc_within a.op 0 5).bind fun x0 =>
  bif x0 then
    (g_desc_within a.arg 0 2147483647).bind fun x1 =>
    bif x1 then
      (g_desc_within a.work 1 100).bind fun x2 =>
      bif x2 then
        some false
      else
        some true
    else
      some true
  else
    some true
noncomputable def g_slices_IndexFunc_l_Part_Part_L0 (a : (List PartT)) (b : (PartT → Option Bool)) (s0 : Int) : Option (Int ⊕ (Int ⊕ Unit)) :=
  bif (decide (s0 < (a.length : Int))) then
    (getI a s0).bind fun x1 =>
    (b x1).bind fun x2 =>
    bif x2 then
      some (.inr (.inl s0))
    else
      some (.inl (w64 (s0 + 1)))
  else
    some (.inr (.inr ()))
noncomputable def g_slices_IndexFunc_l_Part_Part (a : (List PartT)) (b : (PartT → Option Bool)) : Option Int :=
  (lp (g_slices_IndexFunc_l_Part_Part_L0 a b) 0).bind fun r3 =>
  match r3 with
  | (.inl r3) =>
    some r3
  | (.inr r3) =>
    some (-1)
noncomputable def g_slices_ContainsFunc_l_Part_Part (a : (List PartT)) (b : (PartT → Option Bool)) : Option Bool :=
  (g_slices_IndexFunc_l_Part_Part a b).bind fun x0 =>
  bif (decide (0 ≤ x0)) then
    some true
  else
    some false
noncomputable def g_desc_two (a : DescT) (b : Int) (c : Int) : Option Bool :=
  bif (b != c) then
    (g_desc_within b 0 (w64 ((a.parts.length : Int) - 1))).bind fun x0 =>
    bif x0 then
      (g_desc_within c 0 (w64 ((a.parts.length : Int) - 1))).bind fun x1 =>
      bif x1 then
        some true
      else
        some false
    else
      some false
  else
    some false
noncomputable def g_slices_Index_l_Edge_Edge_L0 (a : (List EdgeT)) (b : EdgeT) (s0 : Int) : Option (Int ⊕ (Int ⊕ Unit)) :=
  bif (decide (s0 < (a.length : Int))) then
    (getI a s0).bind fun x1 =>
    bif ((b.src == x1.src) && ((b.dst == x1.dst) && true)) then
      some (.inr (.inl s0))
    else
      some (.inl (w64 (s0 + 1)))
  else
    some (.inr (.inr ()))
noncomputable def g_slices_Index_l_Edge_Edge (a : (List EdgeT)) (b : EdgeT) : Option Int :=
  (lp (g_slices_Index_l_Edge_Edge_L0 a b) 0).bind fun r2 =>
  match r2 with
  | (.inl r2) =>
    some r2
  | (.inr r2) =>
    some (-1)
noncomputable def g_slices_Contains_l_Edge_Edge (a : (List EdgeT)) (b : EdgeT) : Option Bool :=
  (g_slices_Index_l_Edge_Edge a b).bind fun x0 =>
  bif (decide (0 ≤ x0)) then
    some true
  else
    some false
noncomputable def g_desc_Check_1 (a : FutureT) (b1 : Int) (b2 : Int) : Option Bool :=
  bif (a.user == b1) then
    bif (a.pos == b2) then
      some true
    else
      some false
  else
    some false
noncomputable def g_slices_IndexFunc_l_Future_Future_L0 (a : (List FutureT)) (b : (FutureT → Option Bool)) (s0 : Int) : Option (Int ⊕ (Int ⊕ Unit)) :=
  bif (decide (s0 < (a.length : Int))) then
    (getI a s0).bind fun x1 =>
    (b x1).bind fun x2 =>
    bif x2 then
      some (.inr (.inl s0))
    else
      some (.inl (w64 (s0 + 1)))
  else
    some (.inr (.inr ()))
noncomputable def g_slices_IndexFunc_l_Future_Future (a : (List FutureT)) (b : (FutureT → Option Bool)) : Option Int :=
  (lp (g_slices_IndexFunc_l_Future_Future_L0 a b) 0).bind fun r3 =>
  match r3 with
  | (.inl r3) =>
    some r3
  | (.inr r3) =>
    some (-1)
noncomputable def g_slices_ContainsFunc_l_Future_Future (a : (List FutureT)) (b : (FutureT → Option Bool)) : Option Bool :=
  (g_slices_IndexFunc_l_Future_Future a b).bind fun x0 =>
  bif (decide (0 ≤ x0)) then
    some true
  else
    some false
noncomputable def g_desc_row_L0 (a : DescT) (b : (List Int)) (s0 : Int) : Option (Int ⊕ (Unit ⊕ Unit)) :=
  bif (decide (s0 < (b.length : Int))) then
    (getI b s0).bind fun x1 =>
    (g_desc_within x1 0 (w64 ((a.parts.length : Int) - 1))).bind fun x2 =>
    bif x2 then
      bif (decide (0 < s0)) then
        (getI b (w64 (s0 - 1))).bind fun x3 =>
        bif (decide (x1 ≤ x3)) then
          some (.inr (.inl ()))
        else
          some (.inl (w64 (s0 + 1)))
      else
        some (.inl (w64 (s0 + 1)))
    else
      some (.inr (.inl ()))
  else
    some (.inr (.inr ()))
noncomputable def g_desc_row (a : DescT) (b : (List Int)) : Option Bool :=
  (lp (g_desc_row_L0 a b) 0).bind fun r4 =>
  match r4 with
  | (.inl r4) =>
    some false
  | (.inr r4) =>
    bif (decide (0 < (b.length : Int))) then
      some true
    else
      some false
noncomputable def g_slices_Index_l_int_int_L0 (a : (List Int)) (b : Int) (s0 : Int) : Option (Int ⊕ (Int ⊕ Unit)) :=
  bif (decide (s0 < (a.length : Int))) then
    (getI a s0).bind fun x1 =>
    bif (b == x1) then
      some (.inr (.inl s0))
    else
      some (.inl (w64 (s0 + 1)))
  else
    some (.inr (.inr ()))
noncomputable def g_slices_Index_l_int_int (a : (List Int)) (b : Int) : Option Int :=
  (lp (g_slices_Index_l_int_int_L0 a b) 0).bind fun r2 =>
  match r2 with
  | (.inl r2) =>
    some r2
  | (.inr r2) =>
    some (-1)
noncomputable def g_slices_Contains_l_int_int (a : (List Int)) (b : Int) : Option Bool :=
  (g_slices_Index_l_int_int a b).bind fun x0 =>
  bif (decide (0 ≤ x0)) then
    some true
  else
    some false
noncomputable def g_desc_Check_2 (a : Int) (b1 : (List Int)) : Option Bool :=
  (g_slices_Contains_l_int_int b1 a).bind fun x0 =>
  bif x0 then
    some true
  else
    some false
noncomputable def g_slices_IndexFunc_l_int_int_L0 (a : (List Int)) (b : (Int → Option Bool)) (s0 : Int) : Option (Int ⊕ (Int ⊕ Unit)) :=
  bif (decide (s0 < (a.length : Int))) then
    (getI a s0).bind fun x1 =>
    (b x1).bind fun x2 =>
    bif x2 then
      some (.inr (.inl s0))
    else
      some (.inl (w64 (s0 + 1)))
  else
    some (.inr (.inr ()))
noncomputable def g_slices_IndexFunc_l_int_int (a : (List Int)) (b : (Int → Option Bool)) : Option Int :=
  (lp (g_slices_IndexFunc_l_int_int_L0 a b) 0).bind fun r3 =>
  match r3 with
  | (.inl r3) =>
    some r3
  | (.inr r3) =>
    some (-1)
noncomputable def g_slices_ContainsFunc_l_int_int (a : (List Int)) (b : (Int → Option Bool)) : Option Bool :=
  (g_slices_IndexFunc_l_int_int a b).bind fun x0 =>
  bif (decide (0 ≤ x0)) then
    some true
  else
    some false
noncomputable def g_desc_Check_L0 (a : DescT) (s4 : Int) : Option (Int ⊕ (Unit ⊕ Unit)) :=
  bif (decide (s4 < (a.edges.length : Int))) then
    (getI a.edges s4).bind fun x5 =>
    (g_desc_two a x5.src x5.dst).bind fun x6 =>
    bif x6 then
      bif (decide (0 ≤ s4)) then
        bif (Nat.ble s4.toNat (List.length a.edges)) then
          (g_slices_Contains_l_Edge_Edge (List.take s4.toNat a.edges) x5).bind fun x7 =>
          bif x7 then
            some (.inr (.inl ()))
          else
            some (.inl (w64 (s4 + 1)))
        else
          none
      else
        none
    else
      some (.inr (.inl ()))
  else
    some (.inr (.inr ()))
noncomputable def g_desc_Check_L1 (a : DescT) (s9 : Int) : Option (Int ⊕ (Unit ⊕ Unit)) :=
  bif (decide (s9 < (a.futures.length : Int))) then
    (getI a.futures s9).bind fun x10 =>
    (g_desc_two a x10.maker x10.user).bind fun x11 =>
    bif x11 then
      (getI a.parts x10.user).bind fun x12 =>
      (g_desc_within x10.pos 1 (w64 (x12.work - 1))).bind fun x13 =>
      bif x13 then
        bif (decide (0 ≤ s9)) then
          bif (Nat.ble s9.toNat (List.length a.futures)) then
            (g_slices_ContainsFunc_l_Future_Future (List.take s9.toNat a.futures) (fun z0 => g_desc_Check_1 z0 x10.user x10.pos)).bind fun x14 =>
            bif x14 then
              some (.inr (.inl ()))
            else
              some (.inl (w64 (s9 + 1)))
          else
            none
        else
          none
      else
        some (.inr (.inl ()))
    else
      some (.inr (.inl ()))
  else
    some (.inr (.inr ()))
noncomputable def g_desc_Check_L2 (a : DescT) (s16 : Int) : Option (Int ⊕ (Unit ⊕ Unit)) :=
  bif (decide (s16 < (a.barriers.length : Int))) then
    (getI a.barriers s16).bind fun x17 =>
    (g_desc_row a x17.ins).bind fun x18 =>
    bif x18 then
      (g_desc_row a x17.outs).bind fun x19 =>
      bif x19 then
        (g_slices_ContainsFunc_l_int_int x17.ins (fun z0 => g_desc_Check_2 z0 x17.outs)).bind fun x20 =>
        bif x20 then
          some (.inr (.inl ()))
        else
          some (.inl (w64 (s16 + 1)))
      else
        some (.inr (.inl ()))
    else
      some (.inr (.inl ()))
  else
    some (.inr (.inr ()))
noncomputable def g_desc_Check (a : DescT) : Option Int :=
  (g_desc_within (a.parts.length : Int) 1 16).bind fun x0 =>
  bif x0 then
    bif (decide (48 < (a.edges.length : Int))) then
      some 50
    else
      bif (decide (16 < (a.futures.length : Int))) then
        some 50
      else
        bif (decide (4 < (a.barriers.length : Int))) then
          some 50
        else
          (g_num_Two a.period).bind fun x1 =>
          bif x1.2 then
            bif (decide (4096 < a.period)) then
              some 51
            else
              (g_desc_within a.deadline 1 a.period).bind fun x2 =>
              bif x2 then
                (g_slices_ContainsFunc_l_Part_Part a.parts (fun z0 => g_desc_part z0)).bind fun x3 =>
                bif x3 then
                  some 52
                else
                  (lp (g_desc_Check_L0 a) 0).bind fun r8 =>
                  match r8 with
                  | (.inl r8) =>
                    some 53
                  | (.inr r8) =>
                    (lp (g_desc_Check_L1 a) 0).bind fun r15 =>
                    match r15 with
                    | (.inl r15) =>
                      some 54
                    | (.inr r15) =>
                      (lp (g_desc_Check_L2 a) 0).bind fun r21 =>
                      match r21 with
                      | (.inl r21) =>
                        some 55
                      | (.inr r21) =>
                        some 0
              else
                some 51
          else
            some 51
  else
    some 50
noncomputable def g_ref01_Two_L0 (a : Int) (s0 : Int × Int) : Option ((Int × Int) ⊕ (Int ⊕ Unit)) :=
  bif (decide (s0.2 < 40)) then
    bif (s0.1 == a) then
      some (.inr (.inl s0.2))
    else
      some (.inl ((w64 (2 * s0.1)), (w64 (s0.2 + 1))))
  else
    some (.inr (.inr ()))
noncomputable def g_ref01_Two (a : Int) : Option (Int × Bool) :=
  (lp (g_ref01_Two_L0 a) (1, 0)).bind fun r1 =>
  match r1 with
  | (.inl r1) =>
    some (r1, true)
  | (.inr r1) =>
    some (0, false)
noncomputable def g_ref05_time (a : DescT) : Option Bool :=
  (g_ref01_Two a.period).bind fun x0 =>
  bif x0.2 then
    bif (decide (a.period ≤ 4096)) then
      bif (decide (1 ≤ a.deadline)) then
        bif (decide (a.deadline ≤ a.period)) then
          some true
        else
          some false
      else
        some false
    else
      some false
  else
    some false
noncomputable def g_ref05_parts_L0 (a : DescT) (s0 : Int) : Option (Int ⊕ (Unit ⊕ Unit)) :=
  bif (decide (s0 < (a.parts.length : Int))) then
    (getI a.parts s0).bind fun x1 =>
    bif (decide (x1.op < 0)) then
      some (.inr (.inl ()))
    else
      bif (decide (5 < x1.op)) then
        some (.inr (.inl ()))
      else
        bif (decide (x1.arg < 0)) then
          some (.inr (.inl ()))
        else
          bif (decide (2147483647 < x1.arg)) then
            some (.inr (.inl ()))
          else
            bif (decide (x1.work < 1)) then
              some (.inr (.inl ()))
            else
              bif (decide (100 < x1.work)) then
                some (.inr (.inl ()))
              else
                some (.inl (w64 (s0 + 1)))
  else
    some (.inr (.inr ()))
noncomputable def g_ref05_parts (a : DescT) : Option Bool :=
  (lp (g_ref05_parts_L0 a) 0).bind fun r2 =>
  match r2 with
  | (.inl r2) =>
    some false
  | (.inr r2) =>
    some true
noncomputable def g_ref05_Part (a : DescT) (b : Int) : Option Bool :=
  bif (decide (0 ≤ b)) then
    bif (decide (b < (a.parts.length : Int))) then
      some true
    else
      some false
  else
    some false
noncomputable def g_ref05_edges_L0 (a : DescT) (s0 : Int) (x1 : EdgeT) (s4 : Int) : Option (Int ⊕ (Unit ⊕ Unit)) :=
  bif (decide (s4 < s0)) then
    (getI a.edges s4).bind fun x5 =>
    bif (x5.src == x1.src) then
      bif (x5.dst == x1.dst) then
        some (.inr (.inl ()))
      else
        some (.inl (w64 (s4 + 1)))
    else
      some (.inl (w64 (s4 + 1)))
  else
    some (.inr (.inr ()))
noncomputable def g_ref05_edges_L1 (a : DescT) (s0 : Int) : Option (Int ⊕ (Unit ⊕ Unit)) :=
  bif (decide (s0 < (a.edges.length : Int))) then
    (getI a.edges s0).bind fun x1 =>
    (g_ref05_Part a x1.src).bind fun x2 =>
    bif x2 then
      (g_ref05_Part a x1.dst).bind fun x3 =>
      bif x3 then
        bif (x1.src == x1.dst) then
          some (.inr (.inl ()))
        else
          (lp (g_ref05_edges_L0 a s0 x1) 0).bind fun r6 =>
          match r6 with
          | (.inl r6) =>
            some (.inr (.inl ()))
          | (.inr r6) =>
            some (.inl (w64 (s0 + 1)))
      else
        some (.inr (.inl ()))
    else
      some (.inr (.inl ()))
  else
    some (.inr (.inr ()))
noncomputable def g_ref05_edges (a : DescT) : Option Bool :=
  (lp (g_ref05_edges_L1 a) 0).bind fun r7 =>
  match r7 with
  | (.inl r7) =>
    some false
  | (.inr r7) =>
    some true
noncomputable def g_ref05_futures_L0 (a : DescT) (s0 : Int) (x1 : FutureT) (s5 : Int) : Option (Int ⊕ (Unit ⊕ Unit)) :=
  bif (decide (s5 < s0)) then
    (getI a.futures s5).bind fun x6 =>
    bif (x6.user == x1.user) then
      bif (x6.pos == x1.pos) then
        some (.inr (.inl ()))
      else
        some (.inl (w64 (s5 + 1)))
    else
      some (.inl (w64 (s5 + 1)))
  else
    some (.inr (.inr ()))
noncomputable def g_ref05_futures_L1 (a : DescT) (s0 : Int) : Option (Int ⊕ (Unit ⊕ Unit)) :=
  bif (decide (s0 < (a.futures.length : Int))) then
    (getI a.futures s0).bind fun x1 =>
    (g_ref05_Part a x1.maker).bind fun x2 =>
    bif x2 then
      (g_ref05_Part a x1.user).bind fun x3 =>
      bif x3 then
        bif (x1.maker == x1.user) then
          some (.inr (.inl ()))
        else
          bif (decide (x1.pos < 1)) then
            some (.inr (.inl ()))
          else
            (getI a.parts x1.user).bind fun x4 =>
            bif (decide (x4.work ≤ x1.pos)) then
              some (.inr (.inl ()))
            else
              (lp (g_ref05_futures_L0 a s0 x1) 0).bind fun r7 =>
              match r7 with
              | (.inl r7) =>
                some (.inr (.inl ()))
              | (.inr r7) =>
                some (.inl (w64 (s0 + 1)))
      else
        some (.inr (.inl ()))
    else
      some (.inr (.inl ()))
  else
    some (.inr (.inr ()))
noncomputable def g_ref05_futures (a : DescT) : Option Bool :=
  (lp (g_ref05_futures_L1 a) 0).bind fun r8 =>
  match r8 with
  | (.inl r8) =>
    some false
  | (.inr r8) =>
    some true
noncomputable def g_ref05_row_L0 (a : DescT) (b : (List Int)) (s0 : Int) : Option (Int ⊕ (Unit ⊕ Unit)) :=
  bif (decide (s0 < (b.length : Int))) then
    (getI b s0).bind fun x1 =>
    (g_ref05_Part a x1).bind fun x2 =>
    bif x2 then
      bif (decide (0 < s0)) then
        (getI b (w64 (s0 - 1))).bind fun x3 =>
        bif (decide (x1 ≤ x3)) then
          some (.inr (.inl ()))
        else
          some (.inl (w64 (s0 + 1)))
      else
        some (.inl (w64 (s0 + 1)))
    else
      some (.inr (.inl ()))
  else
    some (.inr (.inr ()))
noncomputable def g_ref05_row (a : DescT) (b : (List Int)) : Option Bool :=
  (lp (g_ref05_row_L0 a b) 0).bind fun r4 =>
  match r4 with
  | (.inl r4) =>
    some false
  | (.inr r4) =>
    bif (decide (0 < (b.length : Int))) then
      some true
    else
      some false
noncomputable def g_ref04_Has_L0 (a : (List Int)) (b : Int) (s0 : Int) : Option (Int ⊕ (Unit ⊕ Unit)) :=
  bif (decide (s0 < (a.length : Int))) then
    (getI a s0).bind fun x1 =>
    bif (x1 == b) then
      some (.inr (.inl ()))
    else
      some (.inl (w64 (s0 + 1)))
  else
    some (.inr (.inr ()))
noncomputable def g_ref04_Has (a : (List Int)) (b : Int) : Option Bool :=
  (lp (g_ref04_Has_L0 a b) 0).bind fun r2 =>
  match r2 with
  | (.inl r2) =>
    some true
  | (.inr r2) =>
    some false
noncomputable def g_ref05_barriers_L0 (x1 : BarrierT) (s4 : Int) : Option (Int ⊕ (Unit ⊕ Unit)) :=
  bif (decide (s4 < (x1.ins.length : Int))) then
    (getI x1.ins s4).bind fun x5 =>
    (g_ref04_Has x1.outs x5).bind fun x6 =>
    bif x6 then
      some (.inr (.inl ()))
    else
      some (.inl (w64 (s4 + 1)))
  else
    some (.inr (.inr ()))
noncomputable def g_ref05_barriers_L1 (a : DescT) (s0 : Int) : Option (Int ⊕ (Unit ⊕ Unit)) :=
  bif (decide (s0 < (a.barriers.length : Int))) then
    (getI a.barriers s0).bind fun x1 =>
    (g_ref05_row a x1.ins).bind fun x2 =>
    bif x2 then
      (g_ref05_row a x1.outs).bind fun x3 =>
      bif x3 then
        (lp (g_ref05_barriers_L0 x1) 0).bind fun r7 =>
        match r7 with
        | (.inl r7) =>
          some (.inr (.inl ()))
        | (.inr r7) =>
          some (.inl (w64 (s0 + 1)))
      else
        some (.inr (.inl ()))
    else
      some (.inr (.inl ()))
  else
    some (.inr (.inr ()))
noncomputable def g_ref05_barriers (a : DescT) : Option Bool :=
  (lp (g_ref05_barriers_L1 a) 0).bind fun r8 =>
  match r8 with
  | (.inl r8) =>
    some false
  | (.inr r8) =>
    some true
noncomputable def g_ref05_Check (a : DescT) : Option Int :=
  bif (decide ((a.parts.length : Int) < 1)) then
    some 50
  else
    bif (decide (16 < (a.parts.length : Int))) then
      some 50
    else
      bif (decide (48 < (a.edges.length : Int))) then
        some 50
      else
        bif (decide (16 < (a.futures.length : Int))) then
          some 50
        else
          bif (decide (4 < (a.barriers.length : Int))) then
            some 50
          else
            (g_ref05_time a).bind fun x0 =>
            bif x0 then
              (g_ref05_parts a).bind fun x1 =>
              bif x1 then
                (g_ref05_edges a).bind fun x2 =>
                bif x2 then
                  (g_ref05_futures a).bind fun x3 =>
                  bif x3 then
                    (g_ref05_barriers a).bind fun x4 =>
                    bif x4 then
                      some 0
                    else
                      some 55
                  else
                    some 54
                else
                  some 53
              else
                some 52
            else
              some 51
noncomputable def g_slices_Equal_l_Part_Part_L0 (a : (List PartT)) (b : (List PartT)) (s0 : Int) : Option (Int ⊕ (Unit ⊕ Unit)) :=
  bif (decide (s0 < (a.length : Int))) then
    (getI a s0).bind fun x1 =>
    (getI b s0).bind fun x2 =>
    bif (!((x1.op == x2.op) && ((x1.arg == x2.arg) && ((x1.work == x2.work) && true)))) then
      some (.inr (.inl ()))
    else
      some (.inl (w64 (s0 + 1)))
  else
    some (.inr (.inr ()))
noncomputable def g_slices_Equal_l_Part_Part (a : (List PartT)) (b : (List PartT)) : Option Bool :=
  bif ((a.length : Int) != (b.length : Int)) then
    some false
  else
    (lp (g_slices_Equal_l_Part_Part_L0 a b) 0).bind fun r3 =>
    match r3 with
    | (.inl r3) =>
      some false
    | (.inr r3) =>
      some true
noncomputable def g_slices_Equal_l_Edge_Edge_L0 (a : (List EdgeT)) (b : (List EdgeT)) (s0 : Int) : Option (Int ⊕ (Unit ⊕ Unit)) :=
  bif (decide (s0 < (a.length : Int))) then
    (getI a s0).bind fun x1 =>
    (getI b s0).bind fun x2 =>
    bif (!((x1.src == x2.src) && ((x1.dst == x2.dst) && true))) then
      some (.inr (.inl ()))
    else
      some (.inl (w64 (s0 + 1)))
  else
    some (.inr (.inr ()))
noncomputable def g_slices_Equal_l_Edge_Edge (a : (List EdgeT)) (b : (List EdgeT)) : Option Bool :=
  bif ((a.length : Int) != (b.length : Int)) then
    some false
  else
    (lp (g_slices_Equal_l_Edge_Edge_L0 a b) 0).bind fun r3 =>
    match r3 with
    | (.inl r3) =>
      some false
    | (.inr r3) =>
      some true
noncomputable def g_slices_Equal_l_Future_Future_L0 (a : (List FutureT)) (b : (List FutureT)) (s0 : Int) : Option (Int ⊕ (Unit ⊕ Unit)) :=
  bif (decide (s0 < (a.length : Int))) then
    (getI a s0).bind fun x1 =>
    (getI b s0).bind fun x2 =>
    bif (!((x1.maker == x2.maker) && ((x1.user == x2.user) && ((x1.pos == x2.pos) && true)))) then
      some (.inr (.inl ()))
    else
      some (.inl (w64 (s0 + 1)))
  else
    some (.inr (.inr ()))
noncomputable def g_slices_Equal_l_Future_Future (a : (List FutureT)) (b : (List FutureT)) : Option Bool :=
  bif ((a.length : Int) != (b.length : Int)) then
    some false
  else
    (lp (g_slices_Equal_l_Future_Future_L0 a b) 0).bind fun r3 =>
    match r3 with
    | (.inl r3) =>
      some false
    | (.inr r3) =>
      some true
noncomputable def g_slices_Equal_l_int_int_L0 (a : (List Int)) (b : (List Int)) (s0 : Int) : Option (Int ⊕ (Unit ⊕ Unit)) :=
  bif (decide (s0 < (a.length : Int))) then
    (getI a s0).bind fun x1 =>
    (getI b s0).bind fun x2 =>
    bif (x1 != x2) then
      some (.inr (.inl ()))
    else
      some (.inl (w64 (s0 + 1)))
  else
    some (.inr (.inr ()))
noncomputable def g_slices_Equal_l_int_int (a : (List Int)) (b : (List Int)) : Option Bool :=
  bif ((a.length : Int) != (b.length : Int)) then
    some false
  else
    (lp (g_slices_Equal_l_int_int_L0 a b) 0).bind fun r3 =>
    match r3 with
    | (.inl r3) =>
      some false
    | (.inr r3) =>
      some true
noncomputable def g_desc_Same_1 (a : BarrierT) (b : BarrierT) : Option Bool :=
  (g_slices_Equal_l_int_int a.ins b.ins).bind fun x0 =>
  bif x0 then
    (g_slices_Equal_l_int_int a.outs b.outs).bind fun x1 =>
    bif x1 then
      some true
    else
      some false
  else
    some false
noncomputable def g_slices_EqualFunc_l_Barrier_l_Barrier_Barrier_Barrier_L0 (a : (List BarrierT)) (b : (List BarrierT)) (c : (BarrierT → BarrierT → Option Bool)) (s0 : Int) : Option (Int ⊕ (Unit ⊕ Unit)) :=
  bif (decide (s0 < (a.length : Int))) then
    (getI a s0).bind fun x1 =>
    (getI b s0).bind fun x2 =>
    (c x1 x2).bind fun x3 =>
    bif x3 then
      some (.inl (w64 (s0 + 1)))
    else
      some (.inr (.inl ()))
  else
    some (.inr (.inr ()))
noncomputable def g_slices_EqualFunc_l_Barrier_l_Barrier_Barrier_Barrier (a : (List BarrierT)) (b : (List BarrierT)) (c : (BarrierT → BarrierT → Option Bool)) : Option Bool :=
  bif ((a.length : Int) != (b.length : Int)) then
    some false
  else
    (lp (g_slices_EqualFunc_l_Barrier_l_Barrier_Barrier_Barrier_L0 a b c) 0).bind fun r4 =>
    match r4 with
    | (.inl r4) =>
      some false
    | (.inr r4) =>
      some true
noncomputable def g_desc_Same (a : DescT) (b : DescT) : Option Bool :=
  bif (a.period == b.period) then
    bif (a.deadline == b.deadline) then
      (g_slices_Equal_l_Part_Part a.parts b.parts).bind fun x0 =>
      bif x0 then
        (g_slices_Equal_l_Edge_Edge a.edges b.edges).bind fun x1 =>
        bif x1 then
          (g_slices_Equal_l_Future_Future a.futures b.futures).bind fun x2 =>
          bif x2 then
            (g_slices_EqualFunc_l_Barrier_l_Barrier_Barrier_Barrier a.barriers b.barriers (fun z0 z1 => g_desc_Same_1 z0 z1)).bind fun x3 =>
            bif x3 then
              some true
            else
              some false
          else
            some false
        else
          some false
      else
        some false
    else
      some false
  else
    some false
noncomputable def g_ref04_Same_L0 (a : DagT) (b : DagT) (s0 : Int) : Option (Int ⊕ (Unit ⊕ Unit)) :=
  bif (decide (s0 < (a.work.length : Int))) then
    (getI a.work s0).bind fun x1 =>
    (getI b.work s0).bind fun x2 =>
    bif (x1 != x2) then
      some (.inr (.inl ()))
    else
      some (.inl (w64 (s0 + 1)))
  else
    some (.inr (.inr ()))
noncomputable def g_ref04_Same_L1 (a : DagT) (b : DagT) (s4 : Int) : Option (Int ⊕ (Unit ⊕ Unit)) :=
  bif (decide (s4 < (a.edges.length : Int))) then
    (getI a.edges s4).bind fun x5 =>
    (getI b.edges s4).bind fun x6 =>
    bif (!((x5.src == x6.src) && ((x5.dst == x6.dst) && true))) then
      some (.inr (.inl ()))
    else
      some (.inl (w64 (s4 + 1)))
  else
    some (.inr (.inr ()))
noncomputable def g_ref04_Same (a : DagT) (b : DagT) : Option Bool :=
  bif ((a.work.length : Int) != (b.work.length : Int)) then
    some false
  else
    bif ((a.edges.length : Int) != (b.edges.length : Int)) then
      some false
    else
      (lp (g_ref04_Same_L0 a b) 0).bind fun r3 =>
      match r3 with
      | (.inl r3) =>
        some false
      | (.inr r3) =>
        (lp (g_ref04_Same_L1 a b) 0).bind fun r7 =>
        match r7 with
        | (.inl r7) =>
          some false
        | (.inr r7) =>
          some true
noncomputable def g_ref02_Ints_L0 (a : (List Int)) (b : (List Int)) (s0 : Int) : Option (Int ⊕ (Unit ⊕ Unit)) :=
  bif (decide (s0 < (a.length : Int))) then
    (getI a s0).bind fun x1 =>
    (getI b s0).bind fun x2 =>
    bif (x1 != x2) then
      some (.inr (.inl ()))
    else
      some (.inl (w64 (s0 + 1)))
  else
    some (.inr (.inr ()))
noncomputable def g_ref02_Ints (a : (List Int)) (b : (List Int)) : Option Bool :=
  bif ((a.length : Int) != (b.length : Int)) then
    some false
  else
    (lp (g_ref02_Ints_L0 a b) 0).bind fun r3 =>
    match r3 with
    | (.inl r3) =>
      some false
    | (.inr r3) =>
      some true
noncomputable def g_ref05_Same_L0 (a : DescT) (b : DescT) (s1 : Int) : Option (Int ⊕ (Unit ⊕ Unit)) :=
  bif (decide (s1 < (a.parts.length : Int))) then
    (getI a.parts s1).bind fun x2 =>
    (getI b.parts s1).bind fun x3 =>
    bif (!((x2.op == x3.op) && ((x2.arg == x3.arg) && ((x2.work == x3.work) && true)))) then
      some (.inr (.inl ()))
    else
      some (.inl (w64 (s1 + 1)))
  else
    some (.inr (.inr ()))
noncomputable def g_ref05_Same_L1 (a : DescT) (b : DescT) (s5 : Int) : Option (Int ⊕ (Unit ⊕ Unit)) :=
  bif (decide (s5 < (a.futures.length : Int))) then
    (getI a.futures s5).bind fun x6 =>
    (getI b.futures s5).bind fun x7 =>
    bif (!((x6.maker == x7.maker) && ((x6.user == x7.user) && ((x6.pos == x7.pos) && true)))) then
      some (.inr (.inl ()))
    else
      some (.inl (w64 (s5 + 1)))
  else
    some (.inr (.inr ()))
noncomputable def g_ref05_Same_L2 (a : DescT) (b : DescT) (s9 : Int) : Option (Int ⊕ (Unit ⊕ Unit)) :=
  bif (decide (s9 < (a.barriers.length : Int))) then
    (getI a.barriers s9).bind fun x10 =>
    (getI b.barriers s9).bind fun x11 =>
    (g_ref02_Ints x10.ins x11.ins).bind fun x12 =>
    bif x12 then
      (g_ref02_Ints x10.outs x11.outs).bind fun x13 =>
      bif x13 then
        some (.inl (w64 (s9 + 1)))
      else
        some (.inr (.inl ()))
    else
      some (.inr (.inl ()))
  else
    some (.inr (.inr ()))
noncomputable def g_ref05_Same (a : DescT) (b : DescT) : Option Bool :=
  bif (a.period != b.period) then
    some false
  else
    bif (a.deadline != b.deadline) then
      some false
    else
      bif ((a.parts.length : Int) != (b.parts.length : Int)) then
        some false
      else
        bif ((a.futures.length : Int) != (b.futures.length : Int)) then
          some false
        else
          bif ((a.barriers.length : Int) != (b.barriers.length : Int)) then
            some false
          else
            (g_ref04_Same (DagT.mk ([] : List Int) a.edges) (DagT.mk ([] : List Int) b.edges)).bind fun x0 =>
            bif x0 then
              (lp (g_ref05_Same_L0 a b) 0).bind fun r4 =>
              match r4 with
              | (.inl r4) =>
                some false
              | (.inr r4) =>
                (lp (g_ref05_Same_L1 a b) 0).bind fun r8 =>
                match r8 with
                | (.inl r8) =>
                  some false
                | (.inr r8) =>
                  (lp (g_ref05_Same_L2 a b) 0).bind fun r14 =>
                  match r14 with
                  | (.inl r14) =>
                    some false
                  | (.inr r14) =>
                    some true
            else
              some false
noncomputable def g_law05_DescChecks (a : DescT) (b : DescT) : Option Bool :=
  g_law05_awake.bind fun x0 =>
  bif x0 then
    (g_ref05_Few a).bind fun x1 =>
    bif x1 then
      (g_ref05_Few b).bind fun x2 =>
      bif x2 then
        (g_law05_Own a).bind fun x3 =>
        (g_desc_Check (DescT.mk a.period a.deadline a.parts a.edges a.futures x3)).bind fun x4 =>
        (g_ref05_Check a).bind fun x5 =>
        bif (x4 == x5) then
          (g_law05_Own a).bind fun x6 =>
          (g_law05_Own b).bind fun x7 =>
          (g_desc_Same (DescT.mk a.period a.deadline a.parts a.edges a.futures x6) (DescT.mk b.period b.deadline b.parts b.edges b.futures x7)).bind fun x8 =>
          bif x8 then
            (g_ref05_Same a b).bind fun x9 =>
            bif x9 then
              some true
            else
              some false
          else
            (g_ref05_Same a b).bind fun x10 =>
            bif x10 then
              some false
            else
              some true
        else
          some false
      else
        g_law05_awake.bind fun x11 =>
        bif x11 then
          some true
        else
          some false
    else
      g_law05_awake.bind fun x12 =>
      bif x12 then
        some true
      else
        some false
  else
    g_law05_awake.bind fun x13 =>
    bif x13 then
      some true
    else
      some false
noncomputable def g_desc_Touches_1 (a : Int) (b : Int) (c4 : (List FutureT)) : Option Int :=
  (getI c4 a).bind fun x0 =>
  (getI c4 b).bind fun x1 =>
  some (w64 (x0.pos - x1.pos))
noncomputable def g_math_bits_Len64 (a : Int) : Option Int :=
  bif (decide (4294967296 ≤ a)) then
    bif (decide (65536 ≤ (Int.fdiv a (2 ^ 32)))) then
      bif (decide (256 ≤ (Int.fdiv (Int.fdiv a (2 ^ 32)) (2 ^ 16)))) then
        bif (decide (0 ≤ (IntKind.u8.wrap (Int.fdiv (Int.fdiv (Int.fdiv a (2 ^ 32)) (2 ^ 16)) (2 ^ 8))))) then
          (str0[(IntKind.u8.wrap (Int.fdiv (Int.fdiv (Int.fdiv a (2 ^ 32)) (2 ^ 16)) (2 ^ 8))).toNat]?).bind fun x0 =>
          some (w64 (56 + (w64 (x0.toNat : Int))))
        else
          none
      else
        bif (decide (0 ≤ (IntKind.u8.wrap (Int.fdiv (Int.fdiv a (2 ^ 32)) (2 ^ 16))))) then
          (str0[(IntKind.u8.wrap (Int.fdiv (Int.fdiv a (2 ^ 32)) (2 ^ 16))).toNat]?).bind fun x1 =>
          some (w64 (48 + (w64 (x1.toNat : Int))))
        else
          none
    else
      bif (decide (256 ≤ (Int.fdiv a (2 ^ 32)))) then
        bif (decide (0 ≤ (IntKind.u8.wrap (Int.fdiv (Int.fdiv a (2 ^ 32)) (2 ^ 8))))) then
          (str0[(IntKind.u8.wrap (Int.fdiv (Int.fdiv a (2 ^ 32)) (2 ^ 8))).toNat]?).bind fun x2 =>
          some (w64 (40 + (w64 (x2.toNat : Int))))
        else
          none
      else
        bif (decide (0 ≤ (IntKind.u8.wrap (Int.fdiv a (2 ^ 32))))) then
          (str0[(IntKind.u8.wrap (Int.fdiv a (2 ^ 32))).toNat]?).bind fun x3 =>
          some (w64 (32 + (w64 (x3.toNat : Int))))
        else
          none
  else
    bif (decide (65536 ≤ a)) then
      bif (decide (256 ≤ (Int.fdiv a (2 ^ 16)))) then
        bif (decide (0 ≤ (IntKind.u8.wrap (Int.fdiv (Int.fdiv a (2 ^ 16)) (2 ^ 8))))) then
          (str0[(IntKind.u8.wrap (Int.fdiv (Int.fdiv a (2 ^ 16)) (2 ^ 8))).toNat]?).bind fun x4 =>
          some (w64 (24 + (w64 (x4.toNat : Int))))
        else
          none
      else
        bif (decide (0 ≤ (IntKind.u8.wrap (Int.fdiv a (2 ^ 16))))) then
          (str0[(IntKind.u8.wrap (Int.fdiv a (2 ^ 16))).toNat]?).bind fun x5 =>
          some (w64 (16 + (w64 (x5.toNat : Int))))
        else
          none
    else
      bif (decide (256 ≤ a)) then
        bif (decide (0 ≤ (IntKind.u8.wrap (Int.fdiv a (2 ^ 8))))) then
          (str0[(IntKind.u8.wrap (Int.fdiv a (2 ^ 8))).toNat]?).bind fun x6 =>
          some (w64 (8 + (w64 (x6.toNat : Int))))
        else
          none
      else
        bif (decide (0 ≤ (IntKind.u8.wrap a))) then
          (str0[(IntKind.u8.wrap a).toNat]?).bind fun x7 =>
          some (w64 (0 + (w64 (x7.toNat : Int))))
        else
          none
noncomputable def g_math_bits_Len (a : Int) : Option Int :=
  (g_math_bits_Len64 a).bind fun x0 =>
  some x0
noncomputable def g_slices_insertionSortCmpFunc_int_L0 (b : Int) (d : (Int → Int → Option Int)) (s1 : Int × (List Int)) : Option ((Int × (List Int)) ⊕ (List Int)) :=
  bif (decide (b < s1.1)) then
    (getI s1.2 s1.1).bind fun x2 =>
    (getI s1.2 (w64 (s1.1 - 1))).bind fun x3 =>
    (d x2 x3).bind fun x4 =>
    bif (decide (x4 < 0)) then
      (getI (List.set s1.2 s1.1.toNat x3) (w64 (s1.1 - 1))).bind fun x5 =>
      some (.inl ((w64 (s1.1 - 1)), (List.set (List.set s1.2 s1.1.toNat x3) (w64 (s1.1 - 1)).toNat x2)))
    else
      some (.inr s1.2)
  else
    some (.inr s1.2)
noncomputable def g_slices_insertionSortCmpFunc_int_L1 (b : Int) (c : Int) (d : (Int → Int → Option Int)) (s0 : Int × (List Int)) : Option ((Int × (List Int)) ⊕ (List Int)) :=
  bif (decide (s0.1 < c)) then
    (lp (g_slices_insertionSortCmpFunc_int_L0 b d) (s0.1, s0.2)).bind fun r6 =>
    some (.inl ((w64 (s0.1 + 1)), r6))
  else
    some (.inr s0.2)
noncomputable def g_slices_insertionSortCmpFunc_int (b : Int) (c : Int) (d : (Int → Int → Option Int)) (m0_0 : (List Int)) : Option (List Int) :=
  (lp (g_slices_insertionSortCmpFunc_int_L1 b c d) ((w64 (b + 1)), m0_0)).bind fun r7 =>
  some r7
noncomputable def g_slices_siftDownCmpFunc_int_L0 (c : Int) (d : Int) (e : (Int → Int → Option Int)) (s0 : Int × (List Int)) : Option ((Int × (List Int)) ⊕ ((List Int) ⊕ (List Int))) :=
  bif (decide (c ≤ (w64 ((w64 (2 * s0.1)) + 1)))) then
    some (.inr (.inl s0.2))
  else
    bif (decide ((w64 ((w64 ((w64 (2 * s0.1)) + 1)) + 1)) < c)) then
      (getI s0.2 (w64 (d + (w64 ((w64 (2 * s0.1)) + 1))))).bind fun x1 =>
      (getI s0.2 (w64 ((w64 (d + (w64 ((w64 (2 * s0.1)) + 1)))) + 1))).bind fun x2 =>
      (e x1 x2).bind fun x3 =>
      bif (decide (x3 < 0)) then
        (getI s0.2 (w64 (d + s0.1))).bind fun x4 =>
        (getI s0.2 (w64 (d + (w64 ((w64 ((w64 (2 * s0.1)) + 1)) + 1))))).bind fun x5 =>
        (e x4 x5).bind fun x6 =>
        bif (decide (x6 < 0)) then
          (getI (List.set s0.2 (w64 (d + s0.1)).toNat x5) (w64 (d + (w64 ((w64 ((w64 (2 * s0.1)) + 1)) + 1))))).bind fun x7 =>
          some (.inl ((w64 ((w64 ((w64 (2 * s0.1)) + 1)) + 1)), (List.set (List.set s0.2 (w64 (d + s0.1)).toNat x5) (w64 (d + (w64 ((w64 ((w64 (2 * s0.1)) + 1)) + 1)))).toNat x4)))
        else
          some (.inr (.inr s0.2))
      else
        (getI s0.2 (w64 (d + s0.1))).bind fun x8 =>
        (e x8 x1).bind fun x9 =>
        bif (decide (x9 < 0)) then
          (getI (List.set s0.2 (w64 (d + s0.1)).toNat x1) (w64 (d + (w64 ((w64 (2 * s0.1)) + 1))))).bind fun x10 =>
          some (.inl ((w64 ((w64 (2 * s0.1)) + 1)), (List.set (List.set s0.2 (w64 (d + s0.1)).toNat x1) (w64 (d + (w64 ((w64 (2 * s0.1)) + 1)))).toNat x8)))
        else
          some (.inr (.inr s0.2))
    else
      (getI s0.2 (w64 (d + s0.1))).bind fun x11 =>
      (getI s0.2 (w64 (d + (w64 ((w64 (2 * s0.1)) + 1))))).bind fun x12 =>
      (e x11 x12).bind fun x13 =>
      bif (decide (x13 < 0)) then
        (getI (List.set s0.2 (w64 (d + s0.1)).toNat x12) (w64 (d + (w64 ((w64 (2 * s0.1)) + 1))))).bind fun x14 =>
        some (.inl ((w64 ((w64 (2 * s0.1)) + 1)), (List.set (List.set s0.2 (w64 (d + s0.1)).toNat x12) (w64 (d + (w64 ((w64 (2 * s0.1)) + 1)))).toNat x11)))
      else
        some (.inr (.inr s0.2))
noncomputable def g_slices_siftDownCmpFunc_int (b : Int) (c : Int) (d : Int) (e : (Int → Int → Option Int)) (m0_0 : (List Int)) : Option (List Int) :=
  (lp (g_slices_siftDownCmpFunc_int_L0 c d e) (b, m0_0)).bind fun r15 =>
  match r15 with
  | (.inl r15) =>
    some r15
  | (.inr r15) =>
    some r15
noncomputable def g_slices_heapSortCmpFunc_int_L0 (b : Int) (c : Int) (d : (Int → Int → Option Int)) (s0 : Int × (List Int)) : Option ((Int × (List Int)) ⊕ (List Int)) :=
  bif (decide (0 ≤ s0.1)) then
    (g_slices_siftDownCmpFunc_int s0.1 (w64 (c - b)) b d s0.2).bind fun x1 =>
    some (.inl ((w64 (s0.1 - 1)), x1))
  else
    some (.inr s0.2)
noncomputable def g_slices_heapSortCmpFunc_int_L1 (b : Int) (d : (Int → Int → Option Int)) (s3 : Int × (List Int)) : Option ((Int × (List Int)) ⊕ (List Int)) :=
  bif (decide (0 ≤ s3.1)) then
    (getI s3.2 (w64 (b + s3.1))).bind fun x4 =>
    (getI s3.2 b).bind fun x5 =>
    (getI (List.set s3.2 b.toNat x4) (w64 (b + s3.1))).bind fun x6 =>
    (g_slices_siftDownCmpFunc_int 0 s3.1 b d (List.set (List.set s3.2 b.toNat x4) (w64 (b + s3.1)).toNat x5)).bind fun x7 =>
    some (.inl ((w64 (s3.1 - 1)), x7))
  else
    some (.inr s3.2)
noncomputable def g_slices_heapSortCmpFunc_int (b : Int) (c : Int) (d : (Int → Int → Option Int)) (m0_0 : (List Int)) : Option (List Int) :=
  (lp (g_slices_heapSortCmpFunc_int_L0 b c d) ((w64 (Int.tdiv (w64 ((w64 (c - b)) - 1)) 2)), m0_0)).bind fun r2 =>
  (lp (g_slices_heapSortCmpFunc_int_L1 b d) ((w64 ((w64 (c - b)) - 1)), r2)).bind fun r8 =>
  some r8
noncomputable def g_slices_order2CmpFunc_int (b : Int) (c : Int) (e : (Int → Int → Option Int)) (m0_0 : (List Int)) (m1_0 : Int) : Option (Int × Int × Int) :=
  (getI m0_0 c).bind fun x0 =>
  (getI m0_0 b).bind fun x1 =>
  (e x0 x1).bind fun x2 =>
  bif (decide (x2 < 0)) then
    some (c, b, (w64 (m1_0 + 1)))
  else
    some (b, c, m1_0)
noncomputable def g_slices_medianCmpFunc_int (b : Int) (c : Int) (d : Int) (f : (Int → Int → Option Int)) (m0_0 : (List Int)) (m1_0 : Int) : Option (Int × Int) :=
  (g_slices_order2CmpFunc_int b c f m0_0 m1_0).bind fun x0 =>
  (g_slices_order2CmpFunc_int x0.2.1 d f m0_0 x0.2.2).bind fun x1 =>
  (g_slices_order2CmpFunc_int x0.1 x1.1 f m0_0 x1.2.2).bind fun x2 =>
  some (x2.2.1, x2.2.2)
noncomputable def g_slices_medianAdjacentCmpFunc_int (b : Int) (d : (Int → Int → Option Int)) (m0_0 : (List Int)) (m1_0 : Int) : Option (Int × Int) :=
  (g_slices_medianCmpFunc_int (w64 (b - 1)) b (w64 (b + 1)) d m0_0 m1_0).bind fun x0 =>
  some (x0.1, x0.2)
noncomputable def g_slices_choosePivotCmpFunc_int (b : Int) (c : Int) (d : (Int → Int → Option Int)) (m0_0 : (List Int)) : Option (Int × Int) :=
  bif (decide (8 ≤ (w64 (c - b)))) then
    bif (decide (50 ≤ (w64 (c - b)))) then
      (g_slices_medianAdjacentCmpFunc_int (w64 (b + (w64 ((w64 (Int.tdiv (w64 (c - b)) 4)) * 1)))) d m0_0 0).bind fun x0 =>
      (g_slices_medianAdjacentCmpFunc_int (w64 (b + (w64 ((w64 (Int.tdiv (w64 (c - b)) 4)) * 2)))) d m0_0 x0.2).bind fun x1 =>
      (g_slices_medianAdjacentCmpFunc_int (w64 (b + (w64 ((w64 (Int.tdiv (w64 (c - b)) 4)) * 3)))) d m0_0 x1.2).bind fun x2 =>
      (g_slices_medianCmpFunc_int x0.1 x1.1 x2.1 d m0_0 x2.2).bind fun x3 =>
      bif (x3.2 == 0) then
        some (x3.1, 1)
      else
        bif (x3.2 == 12) then
          some (x3.1, 2)
        else
          some (x3.1, 0)
    else
      (g_slices_medianCmpFunc_int (w64 (b + (w64 ((w64 (Int.tdiv (w64 (c - b)) 4)) * 1)))) (w64 (b + (w64 ((w64 (Int.tdiv (w64 (c - b)) 4)) * 2)))) (w64 (b + (w64 ((w64 (Int.tdiv (w64 (c - b)) 4)) * 3)))) d m0_0 0).bind fun x4 =>
      bif (x4.2 == 0) then
        some (x4.1, 1)
      else
        bif (x4.2 == 12) then
          some (x4.1, 2)
        else
          some (x4.1, 0)
  else
    some ((w64 (b + (w64 ((w64 (Int.tdiv (w64 (c - b)) 4)) * 2)))), 1)
noncomputable def g_slices_reverseRangeCmpFunc_int_L0 (s0 : Int × Int × (List Int)) : Option ((Int × Int × (List Int)) ⊕ (List Int)) :=
  bif (decide (s0.1 < s0.2.1)) then
    (getI s0.2.2 s0.2.1).bind fun x1 =>
    (getI s0.2.2 s0.1).bind fun x2 =>
    (getI (List.set s0.2.2 s0.1.toNat x1) s0.2.1).bind fun x3 =>
    some (.inl ((w64 (s0.1 + 1)), (w64 (s0.2.1 - 1)), (List.set (List.set s0.2.2 s0.1.toNat x1) s0.2.1.toNat x2)))
  else
    some (.inr s0.2.2)
noncomputable def g_slices_reverseRangeCmpFunc_int (b : Int) (c : Int) (d : (Int → Int → Option Int)) (m0_0 : (List Int)) : Option (List Int) :=
  (lp (g_slices_reverseRangeCmpFunc_int_L0) (b, (w64 (c - 1)), m0_0)).bind fun r4 =>
  some r4
noncomputable def g_slices_partialInsertionSortCmpFunc_int_L0 (c : Int) (d : (Int → Int → Option Int)) (s0 : Int × Int × (List Int)) (s1 : Int) : Option (Int ⊕ Int) :=
  bif (decide (s1 < c)) then
    (getI s0.2.2 s1).bind fun x2 =>
    (getI s0.2.2 (w64 (s1 - 1))).bind fun x3 =>
    (d x2 x3).bind fun x4 =>
    bif (decide (x4 < 0)) then
      some (.inr s1)
    else
      some (.inl (w64 (s1 + 1)))
  else
    some (.inr s1)
noncomputable def g_slices_partialInsertionSortCmpFunc_int_L1 (d : (Int → Int → Option Int)) (s9 : Int × (List Int)) : Option ((Int × (List Int)) ⊕ (List Int)) :=
  bif (decide (1 ≤ s9.1)) then
    (getI s9.2 s9.1).bind fun x10 =>
    (getI s9.2 (w64 (s9.1 - 1))).bind fun x11 =>
    (d x10 x11).bind fun x12 =>
    bif (decide (x12 < 0)) then
      (getI (List.set s9.2 s9.1.toNat x11) (w64 (s9.1 - 1))).bind fun x13 =>
      some (.inl ((w64 (s9.1 - 1)), (List.set (List.set s9.2 s9.1.toNat x11) (w64 (s9.1 - 1)).toNat x10)))
    else
      some (.inr s9.2)
  else
    some (.inr s9.2)
noncomputable def g_slices_partialInsertionSortCmpFunc_int_L2 (c : Int) (d : (Int → Int → Option Int)) (s15 : Int × (List Int)) : Option ((Int × (List Int)) ⊕ (List Int)) :=
  bif (decide (s15.1 < c)) then
    (getI s15.2 s15.1).bind fun x16 =>
    (getI s15.2 (w64 (s15.1 - 1))).bind fun x17 =>
    (d x16 x17).bind fun x18 =>
    bif (decide (x18 < 0)) then
      (getI (List.set s15.2 s15.1.toNat x17) (w64 (s15.1 - 1))).bind fun x19 =>
      some (.inl ((w64 (s15.1 + 1)), (List.set (List.set s15.2 s15.1.toNat x17) (w64 (s15.1 - 1)).toNat x16)))
    else
      some (.inr s15.2)
  else
    some (.inr s15.2)
noncomputable def g_slices_partialInsertionSortCmpFunc_int_L2_2 (c : Int) (d : (Int → Int → Option Int)) (s21 : Int × (List Int)) : Option ((Int × (List Int)) ⊕ (List Int)) :=
  bif (decide (s21.1 < c)) then
    (getI s21.2 s21.1).bind fun x22 =>
    (getI s21.2 (w64 (s21.1 - 1))).bind fun x23 =>
    (d x22 x23).bind fun x24 =>
    bif (decide (x24 < 0)) then
      (getI (List.set s21.2 s21.1.toNat x23) (w64 (s21.1 - 1))).bind fun x25 =>
      some (.inl ((w64 (s21.1 + 1)), (List.set (List.set s21.2 s21.1.toNat x23) (w64 (s21.1 - 1)).toNat x22)))
    else
      some (.inr s21.2)
  else
    some (.inr s21.2)
noncomputable def g_slices_partialInsertionSortCmpFunc_int_L3 (b : Int) (c : Int) (d : (Int → Int → Option Int)) (s0 : Int × Int × (List Int)) : Option ((Int × Int × (List Int)) ⊕ ((List Int) ⊕ ((List Int) ⊕ (List Int)))) :=
  bif (decide (s0.2.1 < 5)) then
    (lp (g_slices_partialInsertionSortCmpFunc_int_L0 c d s0) s0.1).bind fun r5 =>
    bif (r5 == c) then
      some (.inr (.inl s0.2.2))
    else
      bif (decide ((w64 (c - b)) < 50)) then
        some (.inr (.inr (.inl s0.2.2)))
      else
        (getI s0.2.2 (w64 (r5 - 1))).bind fun x6 =>
        (getI s0.2.2 r5).bind fun x7 =>
        (getI (List.set s0.2.2 r5.toNat x6) (w64 (r5 - 1))).bind fun x8 =>
        bif (decide (2 ≤ (w64 (r5 - b)))) then
          (lp (g_slices_partialInsertionSortCmpFunc_int_L1 d) ((w64 (r5 - 1)), (List.set (List.set s0.2.2 r5.toNat x6) (w64 (r5 - 1)).toNat x7))).bind fun r14 =>
          bif (decide (2 ≤ (w64 (c - r5)))) then
            (lp (g_slices_partialInsertionSortCmpFunc_int_L2 c d) ((w64 (r5 + 1)), r14)).bind fun r20 =>
            some (.inl (r5, (w64 (s0.2.1 + 1)), r20))
          else
            some (.inl (r5, (w64 (s0.2.1 + 1)), r14))
        else
          bif (decide (2 ≤ (w64 (c - r5)))) then
            (lp (g_slices_partialInsertionSortCmpFunc_int_L2_2 c d) ((w64 (r5 + 1)), (List.set (List.set s0.2.2 r5.toNat x6) (w64 (r5 - 1)).toNat x7))).bind fun r26 =>
            some (.inl (r5, (w64 (s0.2.1 + 1)), r26))
          else
            some (.inl (r5, (w64 (s0.2.1 + 1)), (List.set (List.set s0.2.2 r5.toNat x6) (w64 (r5 - 1)).toNat x7)))
  else
    some (.inr (.inr (.inr s0.2.2)))
noncomputable def g_slices_partialInsertionSortCmpFunc_int (b : Int) (c : Int) (d : (Int → Int → Option Int)) (m0_0 : (List Int)) : Option ((List Int) ⊕ (List Int)) :=
  (lp (g_slices_partialInsertionSortCmpFunc_int_L3 b c d) ((w64 (b + 1)), 0, m0_0)).bind fun r27 =>
  match r27 with
  | (.inl r27) =>
    some (.inl r27)
  | (.inr (.inl r27)) =>
    some (.inr r27)
  | (.inr (.inr r27)) =>
    some (.inr r27)
noncomputable def g_slices_partitionCmpFunc_int_L0 (b : Int) (c : Int) (d : Int) (m0_0 : (List Int)) (e : (Int → Int → Option Int)) (x0 : Int) (x1 : Int) (s3 : Int) : Option (Int ⊕ Int) :=
  bif (decide (s3 ≤ (w64 (c - 1)))) then
    (getI (List.set (List.set m0_0 b.toNat x0) d.toNat x1) s3).bind fun x4 =>
    (getI (List.set (List.set m0_0 b.toNat x0) d.toNat x1) b).bind fun x5 =>
    (e x4 x5).bind fun x6 =>
    bif (decide (x6 < 0)) then
      some (.inl (w64 (s3 + 1)))
    else
      some (.inr s3)
  else
    some (.inr s3)
noncomputable def g_slices_partitionCmpFunc_int_L1 (b : Int) (d : Int) (m0_0 : (List Int)) (e : (Int → Int → Option Int)) (x0 : Int) (x1 : Int) (r7 : Int) (s8 : Int) : Option (Int ⊕ Int) :=
  bif (decide (r7 ≤ s8)) then
    (getI (List.set (List.set m0_0 b.toNat x0) d.toNat x1) s8).bind fun x9 =>
    (getI (List.set (List.set m0_0 b.toNat x0) d.toNat x1) b).bind fun x10 =>
    (e x9 x10).bind fun x11 =>
    bif (decide (x11 < 0)) then
      some (.inr s8)
    else
      some (.inl (w64 (s8 - 1)))
  else
    some (.inr s8)
noncomputable def g_slices_partitionCmpFunc_int_L2 (b : Int) (e : (Int → Int → Option Int)) (s19 : Int × Int × (List Int)) (s20 : Int) : Option (Int ⊕ Int) :=
  bif (decide (s20 ≤ s19.2.1)) then
    (getI s19.2.2 s20).bind fun x21 =>
    (getI s19.2.2 b).bind fun x22 =>
    (e x21 x22).bind fun x23 =>
    bif (decide (x23 < 0)) then
      some (.inl (w64 (s20 + 1)))
    else
      some (.inr s20)
  else
    some (.inr s20)
noncomputable def g_slices_partitionCmpFunc_int_L3 (b : Int) (e : (Int → Int → Option Int)) (s19 : Int × Int × (List Int)) (r24 : Int) (s25 : Int) : Option (Int ⊕ Int) :=
  bif (decide (r24 ≤ s25)) then
    (getI s19.2.2 s25).bind fun x26 =>
    (getI s19.2.2 b).bind fun x27 =>
    (e x26 x27).bind fun x28 =>
    bif (decide (x28 < 0)) then
      some (.inr s25)
    else
      some (.inl (w64 (s25 - 1)))
  else
    some (.inr s25)
noncomputable def g_slices_partitionCmpFunc_int_L4 (b : Int) (e : (Int → Int → Option Int)) (s19 : Int × Int × (List Int)) : Option ((Int × Int × (List Int)) ⊕ (Int × (List Int))) :=
  (lp (g_slices_partitionCmpFunc_int_L2 b e s19) s19.1).bind fun r24 =>
  (lp (g_slices_partitionCmpFunc_int_L3 b e s19 r24) s19.2.1).bind fun r29 =>
  bif (decide (r29 < r24)) then
    some (.inr (r29, s19.2.2))
  else
    (getI s19.2.2 r29).bind fun x30 =>
    (getI s19.2.2 r24).bind fun x31 =>
    (getI (List.set s19.2.2 r24.toNat x30) r29).bind fun x32 =>
    some (.inl ((w64 (r24 + 1)), (w64 (r29 - 1)), (List.set (List.set s19.2.2 r24.toNat x30) r29.toNat x31)))
noncomputable def g_slices_partitionCmpFunc_int (b : Int) (c : Int) (d : Int) (e : (Int → Int → Option Int)) (m0_0 : (List Int)) : Option ((Int × (List Int)) ⊕ (Int × (List Int))) :=
  (getI m0_0 d).bind fun x0 =>
  (getI m0_0 b).bind fun x1 =>
  (getI (List.set m0_0 b.toNat x0) d).bind fun x2 =>
  (lp (g_slices_partitionCmpFunc_int_L0 b c d m0_0 e x0 x1) (w64 (b + 1))).bind fun r7 =>
  (lp (g_slices_partitionCmpFunc_int_L1 b d m0_0 e x0 x1 r7) (w64 (c - 1))).bind fun r12 =>
  bif (decide (r12 < r7)) then
    (getI (List.set (List.set m0_0 b.toNat x0) d.toNat x1) b).bind fun x13 =>
    (getI (List.set (List.set m0_0 b.toNat x0) d.toNat x1) r12).bind fun x14 =>
    (getI (List.set (List.set (List.set m0_0 b.toNat x0) d.toNat x1) r12.toNat x13) b).bind fun x15 =>
    some (.inl (r12, (List.set (List.set (List.set (List.set m0_0 b.toNat x0) d.toNat x1) r12.toNat x13) b.toNat x14)))
  else
    (getI (List.set (List.set m0_0 b.toNat x0) d.toNat x1) r12).bind fun x16 =>
    (getI (List.set (List.set m0_0 b.toNat x0) d.toNat x1) r7).bind fun x17 =>
    (getI (List.set (List.set (List.set m0_0 b.toNat x0) d.toNat x1) r7.toNat x16) r12).bind fun x18 =>
    (lp (g_slices_partitionCmpFunc_int_L4 b e) ((w64 (r7 + 1)), (w64 (r12 - 1)), (List.set (List.set (List.set (List.set m0_0 b.toNat x0) d.toNat x1) r7.toNat x16) r12.toNat x17))).bind fun r33 =>
    (getI r33.2 b).bind fun x34 =>
    (getI r33.2 r33.1).bind fun x35 =>
    (getI (List.set r33.2 r33.1.toNat x34) b).bind fun x36 =>
    some (.inr (r33.1, (List.set (List.set r33.2 r33.1.toNat x34) b.toNat x35)))
noncomputable def g_slices_partitionEqualCmpFunc_int_L0 (b : Int) (e : (Int → Int → Option Int)) (s3 : Int × Int × (List Int)) (s4 : Int) : Option (Int ⊕ Int) :=
  bif (decide (s4 ≤ s3.2.1)) then
    (getI s3.2.2 b).bind fun x5 =>
    (getI s3.2.2 s4).bind fun x6 =>
    (e x5 x6).bind fun x7 =>
    bif (decide (x7 < 0)) then
      some (.inr s4)
    else
      some (.inl (w64 (s4 + 1)))
  else
    some (.inr s4)
noncomputable def g_slices_partitionEqualCmpFunc_int_L1 (b : Int) (e : (Int → Int → Option Int)) (s3 : Int × Int × (List Int)) (r8 : Int) (s9 : Int) : Option (Int ⊕ Int) :=
  bif (decide (r8 ≤ s9)) then
    (getI s3.2.2 b).bind fun x10 =>
    (getI s3.2.2 s9).bind fun x11 =>
    (e x10 x11).bind fun x12 =>
    bif (decide (x12 < 0)) then
      some (.inl (w64 (s9 - 1)))
    else
      some (.inr s9)
  else
    some (.inr s9)
noncomputable def g_slices_partitionEqualCmpFunc_int_L2 (b : Int) (e : (Int → Int → Option Int)) (s3 : Int × Int × (List Int)) : Option ((Int × Int × (List Int)) ⊕ (Int × (List Int))) :=
  (lp (g_slices_partitionEqualCmpFunc_int_L0 b e s3) s3.1).bind fun r8 =>
  (lp (g_slices_partitionEqualCmpFunc_int_L1 b e s3 r8) s3.2.1).bind fun r13 =>
  bif (decide (r13 < r8)) then
    some (.inr (r8, s3.2.2))
  else
    (getI s3.2.2 r13).bind fun x14 =>
    (getI s3.2.2 r8).bind fun x15 =>
    (getI (List.set s3.2.2 r8.toNat x14) r13).bind fun x16 =>
    some (.inl ((w64 (r8 + 1)), (w64 (r13 - 1)), (List.set (List.set s3.2.2 r8.toNat x14) r13.toNat x15)))
noncomputable def g_slices_partitionEqualCmpFunc_int (b : Int) (c : Int) (d : Int) (e : (Int → Int → Option Int)) (m0_0 : (List Int)) : Option (Int × (List Int)) :=
  (getI m0_0 d).bind fun x0 =>
  (getI m0_0 b).bind fun x1 =>
  (getI (List.set m0_0 b.toNat x0) d).bind fun x2 =>
  (lp (g_slices_partitionEqualCmpFunc_int_L2 b e) ((w64 (b + 1)), (w64 (c - 1)), (List.set (List.set m0_0 b.toNat x0) d.toNat x1))).bind fun r17 =>
  some (r17.1, r17.2)
noncomputable def g_slices_nextPowerOfTwo (a : Int) : Option Int :=
  (g_math_bits_Len (IntKind.u64.wrap a)).bind fun x0 =>
  bif (decide (x0 < 0)) then
    none
  else
    some (IntKind.u64.wrap (1 * 2 ^ (min (x0).toNat IntKind.u64.bits)))
noncomputable def g_slices_xorshift_Next : Option Unit :=
  some ()
noncomputable def g_slices_breakPatternsCmpFunc_int_L0 (b : Int) (c : Int) (x0 : Int) (s1 : Int × (List Int) × Int) : Option ((Int × (List Int) × Int) ⊕ (List Int)) :=
  bif (decide (s1.1 ≤ (w64 ((w64 (b + (w64 ((w64 (Int.tdiv (w64 (c - b)) 4)) * 2)))) + 1)))) then
    g_slices_xorshift_Next.bind fun x2 =>
    bif (decide ((w64 (c - b)) ≤ (w64 (IntKind.u64.wrap (BitVec.ofInt IntKind.u64.bits (IntKind.u64.wrap (BitVec.ofInt IntKind.u64.bits (IntKind.u64.wrap (BitVec.ofInt IntKind.u64.bits (IntKind.u64.wrap (BitVec.ofInt IntKind.u64.bits s1.2.2 ^^^ BitVec.ofInt IntKind.u64.bits (IntKind.u64.wrap (s1.2.2 * 2 ^ 13))).toNat) ^^^ BitVec.ofInt IntKind.u64.bits (Int.fdiv (IntKind.u64.wrap (BitVec.ofInt IntKind.u64.bits s1.2.2 ^^^ BitVec.ofInt IntKind.u64.bits (IntKind.u64.wrap (s1.2.2 * 2 ^ 13))).toNat) (2 ^ 7))).toNat) ^^^ BitVec.ofInt IntKind.u64.bits (IntKind.u64.wrap ((IntKind.u64.wrap (BitVec.ofInt IntKind.u64.bits (IntKind.u64.wrap (BitVec.ofInt IntKind.u64.bits s1.2.2 ^^^ BitVec.ofInt IntKind.u64.bits (IntKind.u64.wrap (s1.2.2 * 2 ^ 13))).toNat) ^^^ BitVec.ofInt IntKind.u64.bits (Int.fdiv (IntKind.u64.wrap (BitVec.ofInt IntKind.u64.bits s1.2.2 ^^^ BitVec.ofInt IntKind.u64.bits (IntKind.u64.wrap (s1.2.2 * 2 ^ 13))).toNat) (2 ^ 7))).toNat) * 2 ^ 17))).toNat) &&& BitVec.ofInt IntKind.u64.bits (IntKind.u64.wrap (x0 - 1))).toNat)))) then
      (getI s1.2.1 (w64 (b + (w64 ((w64 (IntKind.u64.wrap (BitVec.ofInt IntKind.u64.bits (IntKind.u64.wrap (BitVec.ofInt IntKind.u64.bits (IntKind.u64.wrap (BitVec.ofInt IntKind.u64.bits (IntKind.u64.wrap (BitVec.ofInt IntKind.u64.bits s1.2.2 ^^^ BitVec.ofInt IntKind.u64.bits (IntKind.u64.wrap (s1.2.2 * 2 ^ 13))).toNat) ^^^ BitVec.ofInt IntKind.u64.bits (Int.fdiv (IntKind.u64.wrap (BitVec.ofInt IntKind.u64.bits s1.2.2 ^^^ BitVec.ofInt IntKind.u64.bits (IntKind.u64.wrap (s1.2.2 * 2 ^ 13))).toNat) (2 ^ 7))).toNat) ^^^ BitVec.ofInt IntKind.u64.bits (IntKind.u64.wrap ((IntKind.u64.wrap (BitVec.ofInt IntKind.u64.bits (IntKind.u64.wrap (BitVec.ofInt IntKind.u64.bits s1.2.2 ^^^ BitVec.ofInt IntKind.u64.bits (IntKind.u64.wrap (s1.2.2 * 2 ^ 13))).toNat) ^^^ BitVec.ofInt IntKind.u64.bits (Int.fdiv (IntKind.u64.wrap (BitVec.ofInt IntKind.u64.bits s1.2.2 ^^^ BitVec.ofInt IntKind.u64.bits (IntKind.u64.wrap (s1.2.2 * 2 ^ 13))).toNat) (2 ^ 7))).toNat) * 2 ^ 17))).toNat) &&& BitVec.ofInt IntKind.u64.bits (IntKind.u64.wrap (x0 - 1))).toNat)) - (w64 (c - b))))))).bind fun x3 =>
      (getI s1.2.1 s1.1).bind fun x4 =>
      (getI (List.set s1.2.1 s1.1.toNat x3) (w64 (b + (w64 ((w64 (IntKind.u64.wrap (BitVec.ofInt IntKind.u64.bits (IntKind.u64.wrap (BitVec.ofInt IntKind.u64.bits (IntKind.u64.wrap (BitVec.ofInt IntKind.u64.bits (IntKind.u64.wrap (BitVec.ofInt IntKind.u64.bits s1.2.2 ^^^ BitVec.ofInt IntKind.u64.bits (IntKind.u64.wrap (s1.2.2 * 2 ^ 13))).toNat) ^^^ BitVec.ofInt IntKind.u64.bits (Int.fdiv (IntKind.u64.wrap (BitVec.ofInt IntKind.u64.bits s1.2.2 ^^^ BitVec.ofInt IntKind.u64.bits (IntKind.u64.wrap (s1.2.2 * 2 ^ 13))).toNat) (2 ^ 7))).toNat) ^^^ BitVec.ofInt IntKind.u64.bits (IntKind.u64.wrap ((IntKind.u64.wrap (BitVec.ofInt IntKind.u64.bits (IntKind.u64.wrap (BitVec.ofInt IntKind.u64.bits s1.2.2 ^^^ BitVec.ofInt IntKind.u64.bits (IntKind.u64.wrap (s1.2.2 * 2 ^ 13))).toNat) ^^^ BitVec.ofInt IntKind.u64.bits (Int.fdiv (IntKind.u64.wrap (BitVec.ofInt IntKind.u64.bits s1.2.2 ^^^ BitVec.ofInt IntKind.u64.bits (IntKind.u64.wrap (s1.2.2 * 2 ^ 13))).toNat) (2 ^ 7))).toNat) * 2 ^ 17))).toNat) &&& BitVec.ofInt IntKind.u64.bits (IntKind.u64.wrap (x0 - 1))).toNat)) - (w64 (c - b))))))).bind fun x5 =>
      some (.inl ((w64 (s1.1 + 1)), (List.set (List.set s1.2.1 s1.1.toNat x3) (w64 (b + (w64 ((w64 (IntKind.u64.wrap (BitVec.ofInt IntKind.u64.bits (IntKind.u64.wrap (BitVec.ofInt IntKind.u64.bits (IntKind.u64.wrap (BitVec.ofInt IntKind.u64.bits (IntKind.u64.wrap (BitVec.ofInt IntKind.u64.bits s1.2.2 ^^^ BitVec.ofInt IntKind.u64.bits (IntKind.u64.wrap (s1.2.2 * 2 ^ 13))).toNat) ^^^ BitVec.ofInt IntKind.u64.bits (Int.fdiv (IntKind.u64.wrap (BitVec.ofInt IntKind.u64.bits s1.2.2 ^^^ BitVec.ofInt IntKind.u64.bits (IntKind.u64.wrap (s1.2.2 * 2 ^ 13))).toNat) (2 ^ 7))).toNat) ^^^ BitVec.ofInt IntKind.u64.bits (IntKind.u64.wrap ((IntKind.u64.wrap (BitVec.ofInt IntKind.u64.bits (IntKind.u64.wrap (BitVec.ofInt IntKind.u64.bits s1.2.2 ^^^ BitVec.ofInt IntKind.u64.bits (IntKind.u64.wrap (s1.2.2 * 2 ^ 13))).toNat) ^^^ BitVec.ofInt IntKind.u64.bits (Int.fdiv (IntKind.u64.wrap (BitVec.ofInt IntKind.u64.bits s1.2.2 ^^^ BitVec.ofInt IntKind.u64.bits (IntKind.u64.wrap (s1.2.2 * 2 ^ 13))).toNat) (2 ^ 7))).toNat) * 2 ^ 17))).toNat) &&& BitVec.ofInt IntKind.u64.bits (IntKind.u64.wrap (x0 - 1))).toNat)) - (w64 (c - b)))))).toNat x4), (IntKind.u64.wrap (BitVec.ofInt IntKind.u64.bits (IntKind.u64.wrap (BitVec.ofInt IntKind.u64.bits (IntKind.u64.wrap (BitVec.ofInt IntKind.u64.bits s1.2.2 ^^^ BitVec.ofInt IntKind.u64.bits (IntKind.u64.wrap (s1.2.2 * 2 ^ 13))).toNat) ^^^ BitVec.ofInt IntKind.u64.bits (Int.fdiv (IntKind.u64.wrap (BitVec.ofInt IntKind.u64.bits s1.2.2 ^^^ BitVec.ofInt IntKind.u64.bits (IntKind.u64.wrap (s1.2.2 * 2 ^ 13))).toNat) (2 ^ 7))).toNat) ^^^ BitVec.ofInt IntKind.u64.bits (IntKind.u64.wrap ((IntKind.u64.wrap (BitVec.ofInt IntKind.u64.bits (IntKind.u64.wrap (BitVec.ofInt IntKind.u64.bits s1.2.2 ^^^ BitVec.ofInt IntKind.u64.bits (IntKind.u64.wrap (s1.2.2 * 2 ^ 13))).toNat) ^^^ BitVec.ofInt IntKind.u64.bits (Int.fdiv (IntKind.u64.wrap (BitVec.ofInt IntKind.u64.bits s1.2.2 ^^^ BitVec.ofInt IntKind.u64.bits (IntKind.u64.wrap (s1.2.2 * 2 ^ 13))).toNat) (2 ^ 7))).toNat) * 2 ^ 17))).toNat)))
    else
      (getI s1.2.1 (w64 (b + (w64 (IntKind.u64.wrap (BitVec.ofInt IntKind.u64.bits (IntKind.u64.wrap (BitVec.ofInt IntKind.u64.bits (IntKind.u64.wrap (BitVec.ofInt IntKind.u64.bits (IntKind.u64.wrap (BitVec.ofInt IntKind.u64.bits s1.2.2 ^^^ BitVec.ofInt IntKind.u64.bits (IntKind.u64.wrap (s1.2.2 * 2 ^ 13))).toNat) ^^^ BitVec.ofInt IntKind.u64.bits (Int.fdiv (IntKind.u64.wrap (BitVec.ofInt IntKind.u64.bits s1.2.2 ^^^ BitVec.ofInt IntKind.u64.bits (IntKind.u64.wrap (s1.2.2 * 2 ^ 13))).toNat) (2 ^ 7))).toNat) ^^^ BitVec.ofInt IntKind.u64.bits (IntKind.u64.wrap ((IntKind.u64.wrap (BitVec.ofInt IntKind.u64.bits (IntKind.u64.wrap (BitVec.ofInt IntKind.u64.bits s1.2.2 ^^^ BitVec.ofInt IntKind.u64.bits (IntKind.u64.wrap (s1.2.2 * 2 ^ 13))).toNat) ^^^ BitVec.ofInt IntKind.u64.bits (Int.fdiv (IntKind.u64.wrap (BitVec.ofInt IntKind.u64.bits s1.2.2 ^^^ BitVec.ofInt IntKind.u64.bits (IntKind.u64.wrap (s1.2.2 * 2 ^ 13))).toNat) (2 ^ 7))).toNat) * 2 ^ 17))).toNat) &&& BitVec.ofInt IntKind.u64.bits (IntKind.u64.wrap (x0 - 1))).toNat))))).bind fun x6 =>
      (getI s1.2.1 s1.1).bind fun x7 =>
      (getI (List.set s1.2.1 s1.1.toNat x6) (w64 (b + (w64 (IntKind.u64.wrap (BitVec.ofInt IntKind.u64.bits (IntKind.u64.wrap (BitVec.ofInt IntKind.u64.bits (IntKind.u64.wrap (BitVec.ofInt IntKind.u64.bits (IntKind.u64.wrap (BitVec.ofInt IntKind.u64.bits s1.2.2 ^^^ BitVec.ofInt IntKind.u64.bits (IntKind.u64.wrap (s1.2.2 * 2 ^ 13))).toNat) ^^^ BitVec.ofInt IntKind.u64.bits (Int.fdiv (IntKind.u64.wrap (BitVec.ofInt IntKind.u64.bits s1.2.2 ^^^ BitVec.ofInt IntKind.u64.bits (IntKind.u64.wrap (s1.2.2 * 2 ^ 13))).toNat) (2 ^ 7))).toNat) ^^^ BitVec.ofInt IntKind.u64.bits (IntKind.u64.wrap ((IntKind.u64.wrap (BitVec.ofInt IntKind.u64.bits (IntKind.u64.wrap (BitVec.ofInt IntKind.u64.bits s1.2.2 ^^^ BitVec.ofInt IntKind.u64.bits (IntKind.u64.wrap (s1.2.2 * 2 ^ 13))).toNat) ^^^ BitVec.ofInt IntKind.u64.bits (Int.fdiv (IntKind.u64.wrap (BitVec.ofInt IntKind.u64.bits s1.2.2 ^^^ BitVec.ofInt IntKind.u64.bits (IntKind.u64.wrap (s1.2.2 * 2 ^ 13))).toNat) (2 ^ 7))).toNat) * 2 ^ 17))).toNat) &&& BitVec.ofInt IntKind.u64.bits (IntKind.u64.wrap (x0 - 1))).toNat))))).bind fun x8 =>
      some (.inl ((w64 (s1.1 + 1)), (List.set (List.set s1.2.1 s1.1.toNat x6) (w64 (b + (w64 (IntKind.u64.wrap (BitVec.ofInt IntKind.u64.bits (IntKind.u64.wrap (BitVec.ofInt IntKind.u64.bits (IntKind.u64.wrap (BitVec.ofInt IntKind.u64.bits (IntKind.u64.wrap (BitVec.ofInt IntKind.u64.bits s1.2.2 ^^^ BitVec.ofInt IntKind.u64.bits (IntKind.u64.wrap (s1.2.2 * 2 ^ 13))).toNat) ^^^ BitVec.ofInt IntKind.u64.bits (Int.fdiv (IntKind.u64.wrap (BitVec.ofInt IntKind.u64.bits s1.2.2 ^^^ BitVec.ofInt IntKind.u64.bits (IntKind.u64.wrap (s1.2.2 * 2 ^ 13))).toNat) (2 ^ 7))).toNat) ^^^ BitVec.ofInt IntKind.u64.bits (IntKind.u64.wrap ((IntKind.u64.wrap (BitVec.ofInt IntKind.u64.bits (IntKind.u64.wrap (BitVec.ofInt IntKind.u64.bits s1.2.2 ^^^ BitVec.ofInt IntKind.u64.bits (IntKind.u64.wrap (s1.2.2 * 2 ^ 13))).toNat) ^^^ BitVec.ofInt IntKind.u64.bits (Int.fdiv (IntKind.u64.wrap (BitVec.ofInt IntKind.u64.bits s1.2.2 ^^^ BitVec.ofInt IntKind.u64.bits (IntKind.u64.wrap (s1.2.2 * 2 ^ 13))).toNat) (2 ^ 7))).toNat) * 2 ^ 17))).toNat) &&& BitVec.ofInt IntKind.u64.bits (IntKind.u64.wrap (x0 - 1))).toNat)))).toNat x7), (IntKind.u64.wrap (BitVec.ofInt IntKind.u64.bits (IntKind.u64.wrap (BitVec.ofInt IntKind.u64.bits (IntKind.u64.wrap (BitVec.ofInt IntKind.u64.bits s1.2.2 ^^^ BitVec.ofInt IntKind.u64.bits (IntKind.u64.wrap (s1.2.2 * 2 ^ 13))).toNat) ^^^ BitVec.ofInt IntKind.u64.bits (Int.fdiv (IntKind.u64.wrap (BitVec.ofInt IntKind.u64.bits s1.2.2 ^^^ BitVec.ofInt IntKind.u64.bits (IntKind.u64.wrap (s1.2.2 * 2 ^ 13))).toNat) (2 ^ 7))).toNat) ^^^ BitVec.ofInt IntKind.u64.bits (IntKind.u64.wrap ((IntKind.u64.wrap (BitVec.ofInt IntKind.u64.bits (IntKind.u64.wrap (BitVec.ofInt IntKind.u64.bits s1.2.2 ^^^ BitVec.ofInt IntKind.u64.bits (IntKind.u64.wrap (s1.2.2 * 2 ^ 13))).toNat) ^^^ BitVec.ofInt IntKind.u64.bits (Int.fdiv (IntKind.u64.wrap (BitVec.ofInt IntKind.u64.bits s1.2.2 ^^^ BitVec.ofInt IntKind.u64.bits (IntKind.u64.wrap (s1.2.2 * 2 ^ 13))).toNat) (2 ^ 7))).toNat) * 2 ^ 17))).toNat)))
  else
    some (.inr s1.2.1)
noncomputable def g_slices_breakPatternsCmpFunc_int (b : Int) (c : Int) (d : (Int → Int → Option Int)) (m0_0 : (List Int)) : Option (List Int) :=
  bif (decide (8 ≤ (w64 (c - b)))) then
    (g_slices_nextPowerOfTwo (w64 (c - b))).bind fun x0 =>
    (lp (g_slices_breakPatternsCmpFunc_int_L0 b c x0) ((w64 ((w64 (b + (w64 ((w64 (Int.tdiv (w64 (c - b)) 4)) * 2)))) - 1)), m0_0, (IntKind.u64.wrap (w64 (c - b))))).bind fun r9 =>
    some r9
  else
    some m0_0
noncomputable def g_slices_pdqsortCmpFunc_int_L0 (e : (Int → Int → Option Int)) (rc : Int → Int → Int → (Int → Int → Option Int) → (List Int) → Option (List Int)) (s0 : Int × Int × Int × Bool × Bool × (List Int)) : Option ((Int × Int × Int × Bool × Bool × (List Int)) ⊕ (List Int)) :=
  bif s0.2.2.2.1 then
    bif s0.2.2.2.2.1 then
      bif (decide ((w64 (s0.2.1 - s0.1)) ≤ 12)) then
        (g_slices_insertionSortCmpFunc_int s0.1 s0.2.1 e s0.2.2.2.2.2).bind fun x1 =>
        some (.inr x1)
      else
        bif (s0.2.2.1 == 0) then
          (g_slices_heapSortCmpFunc_int s0.1 s0.2.1 e s0.2.2.2.2.2).bind fun x2 =>
          some (.inr x2)
        else
          (g_slices_choosePivotCmpFunc_int s0.1 s0.2.1 e s0.2.2.2.2.2).bind fun x3 =>
          bif (x3.2 == 2) then
            (g_slices_reverseRangeCmpFunc_int s0.1 s0.2.1 e s0.2.2.2.2.2).bind fun x4 =>
            (g_slices_partialInsertionSortCmpFunc_int s0.1 s0.2.1 e x4).bind fun x5 =>
            match x5 with
            | (.inl x5) =>
              some (.inr x5)
            | (.inr x5) =>
              bif (decide (0 < s0.1)) then
                (getI x5 (w64 (s0.1 - 1))).bind fun x6 =>
                (getI x5 (w64 ((w64 (s0.2.1 - 1)) - (w64 (x3.1 - s0.1))))).bind fun x7 =>
                (e x6 x7).bind fun x8 =>
                bif (decide (x8 < 0)) then
                  (g_slices_partitionCmpFunc_int s0.1 s0.2.1 (w64 ((w64 (s0.2.1 - 1)) - (w64 (x3.1 - s0.1)))) e x5).bind fun x9 =>
                  match x9 with
                  | (.inl x9) =>
                    bif (decide ((w64 (x9.1 - s0.1)) < (w64 (s0.2.1 - x9.1)))) then
                      bif (decide ((w64 (Int.tdiv (w64 (s0.2.1 - s0.1)) 8)) ≤ (w64 (x9.1 - s0.1)))) then
                        (rc s0.1 x9.1 s0.2.2.1 e x9.2).bind fun x10 =>
                        some (.inl ((w64 (x9.1 + 1)), s0.2.1, s0.2.2.1, true, true, x10))
                      else
                        (rc s0.1 x9.1 s0.2.2.1 e x9.2).bind fun x11 =>
                        some (.inl ((w64 (x9.1 + 1)), s0.2.1, s0.2.2.1, false, true, x11))
                    else
                      bif (decide ((w64 (Int.tdiv (w64 (s0.2.1 - s0.1)) 8)) ≤ (w64 (s0.2.1 - x9.1)))) then
                        (rc (w64 (x9.1 + 1)) s0.2.1 s0.2.2.1 e x9.2).bind fun x12 =>
                        some (.inl (s0.1, x9.1, s0.2.2.1, true, true, x12))
                      else
                        (rc (w64 (x9.1 + 1)) s0.2.1 s0.2.2.1 e x9.2).bind fun x13 =>
                        some (.inl (s0.1, x9.1, s0.2.2.1, false, true, x13))
                  | (.inr x9) =>
                    bif (decide ((w64 (x9.1 - s0.1)) < (w64 (s0.2.1 - x9.1)))) then
                      bif (decide ((w64 (Int.tdiv (w64 (s0.2.1 - s0.1)) 8)) ≤ (w64 (x9.1 - s0.1)))) then
                        (rc s0.1 x9.1 s0.2.2.1 e x9.2).bind fun x14 =>
                        some (.inl ((w64 (x9.1 + 1)), s0.2.1, s0.2.2.1, true, false, x14))
                      else
                        (rc s0.1 x9.1 s0.2.2.1 e x9.2).bind fun x15 =>
                        some (.inl ((w64 (x9.1 + 1)), s0.2.1, s0.2.2.1, false, false, x15))
                    else
                      bif (decide ((w64 (Int.tdiv (w64 (s0.2.1 - s0.1)) 8)) ≤ (w64 (s0.2.1 - x9.1)))) then
                        (rc (w64 (x9.1 + 1)) s0.2.1 s0.2.2.1 e x9.2).bind fun x16 =>
                        some (.inl (s0.1, x9.1, s0.2.2.1, true, false, x16))
                      else
                        (rc (w64 (x9.1 + 1)) s0.2.1 s0.2.2.1 e x9.2).bind fun x17 =>
                        some (.inl (s0.1, x9.1, s0.2.2.1, false, false, x17))
                else
                  (g_slices_partitionEqualCmpFunc_int s0.1 s0.2.1 (w64 ((w64 (s0.2.1 - 1)) - (w64 (x3.1 - s0.1)))) e x5).bind fun x18 =>
                  some (.inl (x18.1, s0.2.1, s0.2.2.1, true, true, x18.2))
              else
                (g_slices_partitionCmpFunc_int s0.1 s0.2.1 (w64 ((w64 (s0.2.1 - 1)) - (w64 (x3.1 - s0.1)))) e x5).bind fun x19 =>
                match x19 with
                | (.inl x19) =>
                  bif (decide ((w64 (x19.1 - s0.1)) < (w64 (s0.2.1 - x19.1)))) then
                    bif (decide ((w64 (Int.tdiv (w64 (s0.2.1 - s0.1)) 8)) ≤ (w64 (x19.1 - s0.1)))) then
                      (rc s0.1 x19.1 s0.2.2.1 e x19.2).bind fun x20 =>
                      some (.inl ((w64 (x19.1 + 1)), s0.2.1, s0.2.2.1, true, true, x20))
                    else
                      (rc s0.1 x19.1 s0.2.2.1 e x19.2).bind fun x21 =>
                      some (.inl ((w64 (x19.1 + 1)), s0.2.1, s0.2.2.1, false, true, x21))
                  else
                    bif (decide ((w64 (Int.tdiv (w64 (s0.2.1 - s0.1)) 8)) ≤ (w64 (s0.2.1 - x19.1)))) then
                      (rc (w64 (x19.1 + 1)) s0.2.1 s0.2.2.1 e x19.2).bind fun x22 =>
                      some (.inl (s0.1, x19.1, s0.2.2.1, true, true, x22))
                    else
                      (rc (w64 (x19.1 + 1)) s0.2.1 s0.2.2.1 e x19.2).bind fun x23 =>
                      some (.inl (s0.1, x19.1, s0.2.2.1, false, true, x23))
                | (.inr x19) =>
                  bif (decide ((w64 (x19.1 - s0.1)) < (w64 (s0.2.1 - x19.1)))) then
                    bif (decide ((w64 (Int.tdiv (w64 (s0.2.1 - s0.1)) 8)) ≤ (w64 (x19.1 - s0.1)))) then
                      (rc s0.1 x19.1 s0.2.2.1 e x19.2).bind fun x24 =>
                      some (.inl ((w64 (x19.1 + 1)), s0.2.1, s0.2.2.1, true, false, x24))
                    else
                      (rc s0.1 x19.1 s0.2.2.1 e x19.2).bind fun x25 =>
                      some (.inl ((w64 (x19.1 + 1)), s0.2.1, s0.2.2.1, false, false, x25))
                  else
                    bif (decide ((w64 (Int.tdiv (w64 (s0.2.1 - s0.1)) 8)) ≤ (w64 (s0.2.1 - x19.1)))) then
                      (rc (w64 (x19.1 + 1)) s0.2.1 s0.2.2.1 e x19.2).bind fun x26 =>
                      some (.inl (s0.1, x19.1, s0.2.2.1, true, false, x26))
                    else
                      (rc (w64 (x19.1 + 1)) s0.2.1 s0.2.2.1 e x19.2).bind fun x27 =>
                      some (.inl (s0.1, x19.1, s0.2.2.1, false, false, x27))
          else
            bif (x3.2 == 1) then
              (g_slices_partialInsertionSortCmpFunc_int s0.1 s0.2.1 e s0.2.2.2.2.2).bind fun x28 =>
              match x28 with
              | (.inl x28) =>
                some (.inr x28)
              | (.inr x28) =>
                bif (decide (0 < s0.1)) then
                  (getI x28 (w64 (s0.1 - 1))).bind fun x29 =>
                  (getI x28 x3.1).bind fun x30 =>
                  (e x29 x30).bind fun x31 =>
                  bif (decide (x31 < 0)) then
                    (g_slices_partitionCmpFunc_int s0.1 s0.2.1 x3.1 e x28).bind fun x32 =>
                    match x32 with
                    | (.inl x32) =>
                      bif (decide ((w64 (x32.1 - s0.1)) < (w64 (s0.2.1 - x32.1)))) then
                        bif (decide ((w64 (Int.tdiv (w64 (s0.2.1 - s0.1)) 8)) ≤ (w64 (x32.1 - s0.1)))) then
                          (rc s0.1 x32.1 s0.2.2.1 e x32.2).bind fun x33 =>
                          some (.inl ((w64 (x32.1 + 1)), s0.2.1, s0.2.2.1, true, true, x33))
                        else
                          (rc s0.1 x32.1 s0.2.2.1 e x32.2).bind fun x34 =>
                          some (.inl ((w64 (x32.1 + 1)), s0.2.1, s0.2.2.1, false, true, x34))
                      else
                        bif (decide ((w64 (Int.tdiv (w64 (s0.2.1 - s0.1)) 8)) ≤ (w64 (s0.2.1 - x32.1)))) then
                          (rc (w64 (x32.1 + 1)) s0.2.1 s0.2.2.1 e x32.2).bind fun x35 =>
                          some (.inl (s0.1, x32.1, s0.2.2.1, true, true, x35))
                        else
                          (rc (w64 (x32.1 + 1)) s0.2.1 s0.2.2.1 e x32.2).bind fun x36 =>
                          some (.inl (s0.1, x32.1, s0.2.2.1, false, true, x36))
                    | (.inr x32) =>
                      bif (decide ((w64 (x32.1 - s0.1)) < (w64 (s0.2.1 - x32.1)))) then
                        bif (decide ((w64 (Int.tdiv (w64 (s0.2.1 - s0.1)) 8)) ≤ (w64 (x32.1 - s0.1)))) then
                          (rc s0.1 x32.1 s0.2.2.1 e x32.2).bind fun x37 =>
                          some (.inl ((w64 (x32.1 + 1)), s0.2.1, s0.2.2.1, true, false, x37))
                        else
                          (rc s0.1 x32.1 s0.2.2.1 e x32.2).bind fun x38 =>
                          some (.inl ((w64 (x32.1 + 1)), s0.2.1, s0.2.2.1, false, false, x38))
                      else
                        bif (decide ((w64 (Int.tdiv (w64 (s0.2.1 - s0.1)) 8)) ≤ (w64 (s0.2.1 - x32.1)))) then
                          (rc (w64 (x32.1 + 1)) s0.2.1 s0.2.2.1 e x32.2).bind fun x39 =>
                          some (.inl (s0.1, x32.1, s0.2.2.1, true, false, x39))
                        else
                          (rc (w64 (x32.1 + 1)) s0.2.1 s0.2.2.1 e x32.2).bind fun x40 =>
                          some (.inl (s0.1, x32.1, s0.2.2.1, false, false, x40))
                  else
                    (g_slices_partitionEqualCmpFunc_int s0.1 s0.2.1 x3.1 e x28).bind fun x41 =>
                    some (.inl (x41.1, s0.2.1, s0.2.2.1, true, true, x41.2))
                else
                  (g_slices_partitionCmpFunc_int s0.1 s0.2.1 x3.1 e x28).bind fun x42 =>
                  match x42 with
                  | (.inl x42) =>
                    bif (decide ((w64 (x42.1 - s0.1)) < (w64 (s0.2.1 - x42.1)))) then
                      bif (decide ((w64 (Int.tdiv (w64 (s0.2.1 - s0.1)) 8)) ≤ (w64 (x42.1 - s0.1)))) then
                        (rc s0.1 x42.1 s0.2.2.1 e x42.2).bind fun x43 =>
                        some (.inl ((w64 (x42.1 + 1)), s0.2.1, s0.2.2.1, true, true, x43))
                      else
                        (rc s0.1 x42.1 s0.2.2.1 e x42.2).bind fun x44 =>
                        some (.inl ((w64 (x42.1 + 1)), s0.2.1, s0.2.2.1, false, true, x44))
                    else
                      bif (decide ((w64 (Int.tdiv (w64 (s0.2.1 - s0.1)) 8)) ≤ (w64 (s0.2.1 - x42.1)))) then
                        (rc (w64 (x42.1 + 1)) s0.2.1 s0.2.2.1 e x42.2).bind fun x45 =>
                        some (.inl (s0.1, x42.1, s0.2.2.1, true, true, x45))
                      else
                        (rc (w64 (x42.1 + 1)) s0.2.1 s0.2.2.1 e x42.2).bind fun x46 =>
                        some (.inl (s0.1, x42.1, s0.2.2.1, false, true, x46))
                  | (.inr x42) =>
                    bif (decide ((w64 (x42.1 - s0.1)) < (w64 (s0.2.1 - x42.1)))) then
                      bif (decide ((w64 (Int.tdiv (w64 (s0.2.1 - s0.1)) 8)) ≤ (w64 (x42.1 - s0.1)))) then
                        (rc s0.1 x42.1 s0.2.2.1 e x42.2).bind fun x47 =>
                        some (.inl ((w64 (x42.1 + 1)), s0.2.1, s0.2.2.1, true, false, x47))
                      else
                        (rc s0.1 x42.1 s0.2.2.1 e x42.2).bind fun x48 =>
                        some (.inl ((w64 (x42.1 + 1)), s0.2.1, s0.2.2.1, false, false, x48))
                    else
                      bif (decide ((w64 (Int.tdiv (w64 (s0.2.1 - s0.1)) 8)) ≤ (w64 (s0.2.1 - x42.1)))) then
                        (rc (w64 (x42.1 + 1)) s0.2.1 s0.2.2.1 e x42.2).bind fun x49 =>
                        some (.inl (s0.1, x42.1, s0.2.2.1, true, false, x49))
                      else
                        (rc (w64 (x42.1 + 1)) s0.2.1 s0.2.2.1 e x42.2).bind fun x50 =>
                        some (.inl (s0.1, x42.1, s0.2.2.1, false, false, x50))
            else
              bif (decide (0 < s0.1)) then
                (getI s0.2.2.2.2.2 (w64 (s0.1 - 1))).bind fun x51 =>
                (getI s0.2.2.2.2.2 x3.1).bind fun x52 =>
                (e x51 x52).bind fun x53 =>
                bif (decide (x53 < 0)) then
                  (g_slices_partitionCmpFunc_int s0.1 s0.2.1 x3.1 e s0.2.2.2.2.2).bind fun x54 =>
                  match x54 with
                  | (.inl x54) =>
                    bif (decide ((w64 (x54.1 - s0.1)) < (w64 (s0.2.1 - x54.1)))) then
                      bif (decide ((w64 (Int.tdiv (w64 (s0.2.1 - s0.1)) 8)) ≤ (w64 (x54.1 - s0.1)))) then
                        (rc s0.1 x54.1 s0.2.2.1 e x54.2).bind fun x55 =>
                        some (.inl ((w64 (x54.1 + 1)), s0.2.1, s0.2.2.1, true, true, x55))
                      else
                        (rc s0.1 x54.1 s0.2.2.1 e x54.2).bind fun x56 =>
                        some (.inl ((w64 (x54.1 + 1)), s0.2.1, s0.2.2.1, false, true, x56))
                    else
                      bif (decide ((w64 (Int.tdiv (w64 (s0.2.1 - s0.1)) 8)) ≤ (w64 (s0.2.1 - x54.1)))) then
                        (rc (w64 (x54.1 + 1)) s0.2.1 s0.2.2.1 e x54.2).bind fun x57 =>
                        some (.inl (s0.1, x54.1, s0.2.2.1, true, true, x57))
                      else
                        (rc (w64 (x54.1 + 1)) s0.2.1 s0.2.2.1 e x54.2).bind fun x58 =>
                        some (.inl (s0.1, x54.1, s0.2.2.1, false, true, x58))
                  | (.inr x54) =>
                    bif (decide ((w64 (x54.1 - s0.1)) < (w64 (s0.2.1 - x54.1)))) then
                      bif (decide ((w64 (Int.tdiv (w64 (s0.2.1 - s0.1)) 8)) ≤ (w64 (x54.1 - s0.1)))) then
                        (rc s0.1 x54.1 s0.2.2.1 e x54.2).bind fun x59 =>
                        some (.inl ((w64 (x54.1 + 1)), s0.2.1, s0.2.2.1, true, false, x59))
                      else
                        (rc s0.1 x54.1 s0.2.2.1 e x54.2).bind fun x60 =>
                        some (.inl ((w64 (x54.1 + 1)), s0.2.1, s0.2.2.1, false, false, x60))
                    else
                      bif (decide ((w64 (Int.tdiv (w64 (s0.2.1 - s0.1)) 8)) ≤ (w64 (s0.2.1 - x54.1)))) then
                        (rc (w64 (x54.1 + 1)) s0.2.1 s0.2.2.1 e x54.2).bind fun x61 =>
                        some (.inl (s0.1, x54.1, s0.2.2.1, true, false, x61))
                      else
                        (rc (w64 (x54.1 + 1)) s0.2.1 s0.2.2.1 e x54.2).bind fun x62 =>
                        some (.inl (s0.1, x54.1, s0.2.2.1, false, false, x62))
                else
                  (g_slices_partitionEqualCmpFunc_int s0.1 s0.2.1 x3.1 e s0.2.2.2.2.2).bind fun x63 =>
                  some (.inl (x63.1, s0.2.1, s0.2.2.1, true, true, x63.2))
              else
                (g_slices_partitionCmpFunc_int s0.1 s0.2.1 x3.1 e s0.2.2.2.2.2).bind fun x64 =>
                match x64 with
                | (.inl x64) =>
                  bif (decide ((w64 (x64.1 - s0.1)) < (w64 (s0.2.1 - x64.1)))) then
                    bif (decide ((w64 (Int.tdiv (w64 (s0.2.1 - s0.1)) 8)) ≤ (w64 (x64.1 - s0.1)))) then
                      (rc s0.1 x64.1 s0.2.2.1 e x64.2).bind fun x65 =>
                      some (.inl ((w64 (x64.1 + 1)), s0.2.1, s0.2.2.1, true, true, x65))
                    else
                      (rc s0.1 x64.1 s0.2.2.1 e x64.2).bind fun x66 =>
                      some (.inl ((w64 (x64.1 + 1)), s0.2.1, s0.2.2.1, false, true, x66))
                  else
                    bif (decide ((w64 (Int.tdiv (w64 (s0.2.1 - s0.1)) 8)) ≤ (w64 (s0.2.1 - x64.1)))) then
                      (rc (w64 (x64.1 + 1)) s0.2.1 s0.2.2.1 e x64.2).bind fun x67 =>
                      some (.inl (s0.1, x64.1, s0.2.2.1, true, true, x67))
                    else
                      (rc (w64 (x64.1 + 1)) s0.2.1 s0.2.2.1 e x64.2).bind fun x68 =>
                      some (.inl (s0.1, x64.1, s0.2.2.1, false, true, x68))
                | (.inr x64) =>
                  bif (decide ((w64 (x64.1 - s0.1)) < (w64 (s0.2.1 - x64.1)))) then
                    bif (decide ((w64 (Int.tdiv (w64 (s0.2.1 - s0.1)) 8)) ≤ (w64 (x64.1 - s0.1)))) then
                      (rc s0.1 x64.1 s0.2.2.1 e x64.2).bind fun x69 =>
                      some (.inl ((w64 (x64.1 + 1)), s0.2.1, s0.2.2.1, true, false, x69))
                    else
                      (rc s0.1 x64.1 s0.2.2.1 e x64.2).bind fun x70 =>
                      some (.inl ((w64 (x64.1 + 1)), s0.2.1, s0.2.2.1, false, false, x70))
                  else
                    bif (decide ((w64 (Int.tdiv (w64 (s0.2.1 - s0.1)) 8)) ≤ (w64 (s0.2.1 - x64.1)))) then
                      (rc (w64 (x64.1 + 1)) s0.2.1 s0.2.2.1 e x64.2).bind fun x71 =>
                      some (.inl (s0.1, x64.1, s0.2.2.1, true, false, x71))
                    else
                      (rc (w64 (x64.1 + 1)) s0.2.1 s0.2.2.1 e x64.2).bind fun x72 =>
                      some (.inl (s0.1, x64.1, s0.2.2.1, false, false, x72))
    else
      bif (decide ((w64 (s0.2.1 - s0.1)) ≤ 12)) then
        (g_slices_insertionSortCmpFunc_int s0.1 s0.2.1 e s0.2.2.2.2.2).bind fun x73 =>
        some (.inr x73)
      else
        bif (s0.2.2.1 == 0) then
          (g_slices_heapSortCmpFunc_int s0.1 s0.2.1 e s0.2.2.2.2.2).bind fun x74 =>
          some (.inr x74)
        else
          (g_slices_choosePivotCmpFunc_int s0.1 s0.2.1 e s0.2.2.2.2.2).bind fun x75 =>
          bif (x75.2 == 2) then
            (g_slices_reverseRangeCmpFunc_int s0.1 s0.2.1 e s0.2.2.2.2.2).bind fun x76 =>
            bif (decide (0 < s0.1)) then
              (getI x76 (w64 (s0.1 - 1))).bind fun x77 =>
              (getI x76 (w64 ((w64 (s0.2.1 - 1)) - (w64 (x75.1 - s0.1))))).bind fun x78 =>
              (e x77 x78).bind fun x79 =>
              bif (decide (x79 < 0)) then
                (g_slices_partitionCmpFunc_int s0.1 s0.2.1 (w64 ((w64 (s0.2.1 - 1)) - (w64 (x75.1 - s0.1)))) e x76).bind fun x80 =>
                match x80 with
                | (.inl x80) =>
                  bif (decide ((w64 (x80.1 - s0.1)) < (w64 (s0.2.1 - x80.1)))) then
                    bif (decide ((w64 (Int.tdiv (w64 (s0.2.1 - s0.1)) 8)) ≤ (w64 (x80.1 - s0.1)))) then
                      (rc s0.1 x80.1 s0.2.2.1 e x80.2).bind fun x81 =>
                      some (.inl ((w64 (x80.1 + 1)), s0.2.1, s0.2.2.1, true, true, x81))
                    else
                      (rc s0.1 x80.1 s0.2.2.1 e x80.2).bind fun x82 =>
                      some (.inl ((w64 (x80.1 + 1)), s0.2.1, s0.2.2.1, false, true, x82))
                  else
                    bif (decide ((w64 (Int.tdiv (w64 (s0.2.1 - s0.1)) 8)) ≤ (w64 (s0.2.1 - x80.1)))) then
                      (rc (w64 (x80.1 + 1)) s0.2.1 s0.2.2.1 e x80.2).bind fun x83 =>
                      some (.inl (s0.1, x80.1, s0.2.2.1, true, true, x83))
                    else
                      (rc (w64 (x80.1 + 1)) s0.2.1 s0.2.2.1 e x80.2).bind fun x84 =>
                      some (.inl (s0.1, x80.1, s0.2.2.1, false, true, x84))
                | (.inr x80) =>
                  bif (decide ((w64 (x80.1 - s0.1)) < (w64 (s0.2.1 - x80.1)))) then
                    bif (decide ((w64 (Int.tdiv (w64 (s0.2.1 - s0.1)) 8)) ≤ (w64 (x80.1 - s0.1)))) then
                      (rc s0.1 x80.1 s0.2.2.1 e x80.2).bind fun x85 =>
                      some (.inl ((w64 (x80.1 + 1)), s0.2.1, s0.2.2.1, true, false, x85))
                    else
                      (rc s0.1 x80.1 s0.2.2.1 e x80.2).bind fun x86 =>
                      some (.inl ((w64 (x80.1 + 1)), s0.2.1, s0.2.2.1, false, false, x86))
                  else
                    bif (decide ((w64 (Int.tdiv (w64 (s0.2.1 - s0.1)) 8)) ≤ (w64 (s0.2.1 - x80.1)))) then
                      (rc (w64 (x80.1 + 1)) s0.2.1 s0.2.2.1 e x80.2).bind fun x87 =>
                      some (.inl (s0.1, x80.1, s0.2.2.1, true, false, x87))
                    else
                      (rc (w64 (x80.1 + 1)) s0.2.1 s0.2.2.1 e x80.2).bind fun x88 =>
                      some (.inl (s0.1, x80.1, s0.2.2.1, false, false, x88))
              else
                (g_slices_partitionEqualCmpFunc_int s0.1 s0.2.1 (w64 ((w64 (s0.2.1 - 1)) - (w64 (x75.1 - s0.1)))) e x76).bind fun x89 =>
                some (.inl (x89.1, s0.2.1, s0.2.2.1, true, false, x89.2))
            else
              (g_slices_partitionCmpFunc_int s0.1 s0.2.1 (w64 ((w64 (s0.2.1 - 1)) - (w64 (x75.1 - s0.1)))) e x76).bind fun x90 =>
              match x90 with
              | (.inl x90) =>
                bif (decide ((w64 (x90.1 - s0.1)) < (w64 (s0.2.1 - x90.1)))) then
                  bif (decide ((w64 (Int.tdiv (w64 (s0.2.1 - s0.1)) 8)) ≤ (w64 (x90.1 - s0.1)))) then
                    (rc s0.1 x90.1 s0.2.2.1 e x90.2).bind fun x91 =>
                    some (.inl ((w64 (x90.1 + 1)), s0.2.1, s0.2.2.1, true, true, x91))
                  else
                    (rc s0.1 x90.1 s0.2.2.1 e x90.2).bind fun x92 =>
                    some (.inl ((w64 (x90.1 + 1)), s0.2.1, s0.2.2.1, false, true, x92))
                else
                  bif (decide ((w64 (Int.tdiv (w64 (s0.2.1 - s0.1)) 8)) ≤ (w64 (s0.2.1 - x90.1)))) then
                    (rc (w64 (x90.1 + 1)) s0.2.1 s0.2.2.1 e x90.2).bind fun x93 =>
                    some (.inl (s0.1, x90.1, s0.2.2.1, true, true, x93))
                  else
                    (rc (w64 (x90.1 + 1)) s0.2.1 s0.2.2.1 e x90.2).bind fun x94 =>
                    some (.inl (s0.1, x90.1, s0.2.2.1, false, true, x94))
              | (.inr x90) =>
                bif (decide ((w64 (x90.1 - s0.1)) < (w64 (s0.2.1 - x90.1)))) then
                  bif (decide ((w64 (Int.tdiv (w64 (s0.2.1 - s0.1)) 8)) ≤ (w64 (x90.1 - s0.1)))) then
                    (rc s0.1 x90.1 s0.2.2.1 e x90.2).bind fun x95 =>
                    some (.inl ((w64 (x90.1 + 1)), s0.2.1, s0.2.2.1, true, false, x95))
                  else
                    (rc s0.1 x90.1 s0.2.2.1 e x90.2).bind fun x96 =>
                    some (.inl ((w64 (x90.1 + 1)), s0.2.1, s0.2.2.1, false, false, x96))
                else
                  bif (decide ((w64 (Int.tdiv (w64 (s0.2.1 - s0.1)) 8)) ≤ (w64 (s0.2.1 - x90.1)))) then
                    (rc (w64 (x90.1 + 1)) s0.2.1 s0.2.2.1 e x90.2).bind fun x97 =>
                    some (.inl (s0.1, x90.1, s0.2.2.1, true, false, x97))
                  else
                    (rc (w64 (x90.1 + 1)) s0.2.1 s0.2.2.1 e x90.2).bind fun x98 =>
                    some (.inl (s0.1, x90.1, s0.2.2.1, false, false, x98))
          else
            bif (decide (0 < s0.1)) then
              (getI s0.2.2.2.2.2 (w64 (s0.1 - 1))).bind fun x99 =>
              (getI s0.2.2.2.2.2 x75.1).bind fun x100 =>
              (e x99 x100).bind fun x101 =>
              bif (decide (x101 < 0)) then
                (g_slices_partitionCmpFunc_int s0.1 s0.2.1 x75.1 e s0.2.2.2.2.2).bind fun x102 =>
                match x102 with
                | (.inl x102) =>
                  bif (decide ((w64 (x102.1 - s0.1)) < (w64 (s0.2.1 - x102.1)))) then
                    bif (decide ((w64 (Int.tdiv (w64 (s0.2.1 - s0.1)) 8)) ≤ (w64 (x102.1 - s0.1)))) then
                      (rc s0.1 x102.1 s0.2.2.1 e x102.2).bind fun x103 =>
                      some (.inl ((w64 (x102.1 + 1)), s0.2.1, s0.2.2.1, true, true, x103))
                    else
                      (rc s0.1 x102.1 s0.2.2.1 e x102.2).bind fun x104 =>
                      some (.inl ((w64 (x102.1 + 1)), s0.2.1, s0.2.2.1, false, true, x104))
                  else
                    bif (decide ((w64 (Int.tdiv (w64 (s0.2.1 - s0.1)) 8)) ≤ (w64 (s0.2.1 - x102.1)))) then
                      (rc (w64 (x102.1 + 1)) s0.2.1 s0.2.2.1 e x102.2).bind fun x105 =>
                      some (.inl (s0.1, x102.1, s0.2.2.1, true, true, x105))
                    else
                      (rc (w64 (x102.1 + 1)) s0.2.1 s0.2.2.1 e x102.2).bind fun x106 =>
                      some (.inl (s0.1, x102.1, s0.2.2.1, false, true, x106))
                | (.inr x102) =>
                  bif (decide ((w64 (x102.1 - s0.1)) < (w64 (s0.2.1 - x102.1)))) then
                    bif (decide ((w64 (Int.tdiv (w64 (s0.2.1 - s0.1)) 8)) ≤ (w64 (x102.1 - s0.1)))) then
                      (rc s0.1 x102.1 s0.2.2.1 e x102.2).bind fun x107 =>
                      some (.inl ((w64 (x102.1 + 1)), s0.2.1, s0.2.2.1, true, false, x107))
                    else
                      (rc s0.1 x102.1 s0.2.2.1 e x102.2).bind fun x108 =>
                      some (.inl ((w64 (x102.1 + 1)), s0.2.1, s0.2.2.1, false, false, x108))
                  else
                    bif (decide ((w64 (Int.tdiv (w64 (s0.2.1 - s0.1)) 8)) ≤ (w64 (s0.2.1 - x102.1)))) then
                      (rc (w64 (x102.1 + 1)) s0.2.1 s0.2.2.1 e x102.2).bind fun x109 =>
                      some (.inl (s0.1, x102.1, s0.2.2.1, true, false, x109))
                    else
                      (rc (w64 (x102.1 + 1)) s0.2.1 s0.2.2.1 e x102.2).bind fun x110 =>
                      some (.inl (s0.1, x102.1, s0.2.2.1, false, false, x110))
              else
                (g_slices_partitionEqualCmpFunc_int s0.1 s0.2.1 x75.1 e s0.2.2.2.2.2).bind fun x111 =>
                some (.inl (x111.1, s0.2.1, s0.2.2.1, true, false, x111.2))
            else
              (g_slices_partitionCmpFunc_int s0.1 s0.2.1 x75.1 e s0.2.2.2.2.2).bind fun x112 =>
              match x112 with
              | (.inl x112) =>
                bif (decide ((w64 (x112.1 - s0.1)) < (w64 (s0.2.1 - x112.1)))) then
                  bif (decide ((w64 (Int.tdiv (w64 (s0.2.1 - s0.1)) 8)) ≤ (w64 (x112.1 - s0.1)))) then
                    (rc s0.1 x112.1 s0.2.2.1 e x112.2).bind fun x113 =>
                    some (.inl ((w64 (x112.1 + 1)), s0.2.1, s0.2.2.1, true, true, x113))
                  else
                    (rc s0.1 x112.1 s0.2.2.1 e x112.2).bind fun x114 =>
                    some (.inl ((w64 (x112.1 + 1)), s0.2.1, s0.2.2.1, false, true, x114))
                else
                  bif (decide ((w64 (Int.tdiv (w64 (s0.2.1 - s0.1)) 8)) ≤ (w64 (s0.2.1 - x112.1)))) then
                    (rc (w64 (x112.1 + 1)) s0.2.1 s0.2.2.1 e x112.2).bind fun x115 =>
                    some (.inl (s0.1, x112.1, s0.2.2.1, true, true, x115))
                  else
                    (rc (w64 (x112.1 + 1)) s0.2.1 s0.2.2.1 e x112.2).bind fun x116 =>
                    some (.inl (s0.1, x112.1, s0.2.2.1, false, true, x116))
              | (.inr x112) =>
                bif (decide ((w64 (x112.1 - s0.1)) < (w64 (s0.2.1 - x112.1)))) then
                  bif (decide ((w64 (Int.tdiv (w64 (s0.2.1 - s0.1)) 8)) ≤ (w64 (x112.1 - s0.1)))) then
                    (rc s0.1 x112.1 s0.2.2.1 e x112.2).bind fun x117 =>
                    some (.inl ((w64 (x112.1 + 1)), s0.2.1, s0.2.2.1, true, false, x117))
                  else
                    (rc s0.1 x112.1 s0.2.2.1 e x112.2).bind fun x118 =>
                    some (.inl ((w64 (x112.1 + 1)), s0.2.1, s0.2.2.1, false, false, x118))
                else
                  bif (decide ((w64 (Int.tdiv (w64 (s0.2.1 - s0.1)) 8)) ≤ (w64 (s0.2.1 - x112.1)))) then
                    (rc (w64 (x112.1 + 1)) s0.2.1 s0.2.2.1 e x112.2).bind fun x119 =>
                    some (.inl (s0.1, x112.1, s0.2.2.1, true, false, x119))
                  else
                    (rc (w64 (x112.1 + 1)) s0.2.1 s0.2.2.1 e x112.2).bind fun x120 =>
                    some (.inl (s0.1, x112.1, s0.2.2.1, false, false, x120))
  else
    bif s0.2.2.2.2.1 then
      bif (decide ((w64 (s0.2.1 - s0.1)) ≤ 12)) then
        (g_slices_insertionSortCmpFunc_int s0.1 s0.2.1 e s0.2.2.2.2.2).bind fun x121 =>
        some (.inr x121)
      else
        bif (s0.2.2.1 == 0) then
          (g_slices_heapSortCmpFunc_int s0.1 s0.2.1 e s0.2.2.2.2.2).bind fun x122 =>
          some (.inr x122)
        else
          (g_slices_breakPatternsCmpFunc_int s0.1 s0.2.1 e s0.2.2.2.2.2).bind fun x123 =>
          (g_slices_choosePivotCmpFunc_int s0.1 s0.2.1 e x123).bind fun x124 =>
          bif (x124.2 == 2) then
            (g_slices_reverseRangeCmpFunc_int s0.1 s0.2.1 e x123).bind fun x125 =>
            bif (decide (0 < s0.1)) then
              (getI x125 (w64 (s0.1 - 1))).bind fun x126 =>
              (getI x125 (w64 ((w64 (s0.2.1 - 1)) - (w64 (x124.1 - s0.1))))).bind fun x127 =>
              (e x126 x127).bind fun x128 =>
              bif (decide (x128 < 0)) then
                (g_slices_partitionCmpFunc_int s0.1 s0.2.1 (w64 ((w64 (s0.2.1 - 1)) - (w64 (x124.1 - s0.1)))) e x125).bind fun x129 =>
                match x129 with
                | (.inl x129) =>
                  bif (decide ((w64 (x129.1 - s0.1)) < (w64 (s0.2.1 - x129.1)))) then
                    bif (decide ((w64 (Int.tdiv (w64 (s0.2.1 - s0.1)) 8)) ≤ (w64 (x129.1 - s0.1)))) then
                      (rc s0.1 x129.1 (w64 (s0.2.2.1 - 1)) e x129.2).bind fun x130 =>
                      some (.inl ((w64 (x129.1 + 1)), s0.2.1, (w64 (s0.2.2.1 - 1)), true, true, x130))
                    else
                      (rc s0.1 x129.1 (w64 (s0.2.2.1 - 1)) e x129.2).bind fun x131 =>
                      some (.inl ((w64 (x129.1 + 1)), s0.2.1, (w64 (s0.2.2.1 - 1)), false, true, x131))
                  else
                    bif (decide ((w64 (Int.tdiv (w64 (s0.2.1 - s0.1)) 8)) ≤ (w64 (s0.2.1 - x129.1)))) then
                      (rc (w64 (x129.1 + 1)) s0.2.1 (w64 (s0.2.2.1 - 1)) e x129.2).bind fun x132 =>
                      some (.inl (s0.1, x129.1, (w64 (s0.2.2.1 - 1)), true, true, x132))
                    else
                      (rc (w64 (x129.1 + 1)) s0.2.1 (w64 (s0.2.2.1 - 1)) e x129.2).bind fun x133 =>
                      some (.inl (s0.1, x129.1, (w64 (s0.2.2.1 - 1)), false, true, x133))
                | (.inr x129) =>
                  bif (decide ((w64 (x129.1 - s0.1)) < (w64 (s0.2.1 - x129.1)))) then
                    bif (decide ((w64 (Int.tdiv (w64 (s0.2.1 - s0.1)) 8)) ≤ (w64 (x129.1 - s0.1)))) then
                      (rc s0.1 x129.1 (w64 (s0.2.2.1 - 1)) e x129.2).bind fun x134 =>
                      some (.inl ((w64 (x129.1 + 1)), s0.2.1, (w64 (s0.2.2.1 - 1)), true, false, x134))
                    else
                      (rc s0.1 x129.1 (w64 (s0.2.2.1 - 1)) e x129.2).bind fun x135 =>
                      some (.inl ((w64 (x129.1 + 1)), s0.2.1, (w64 (s0.2.2.1 - 1)), false, false, x135))
                  else
                    bif (decide ((w64 (Int.tdiv (w64 (s0.2.1 - s0.1)) 8)) ≤ (w64 (s0.2.1 - x129.1)))) then
                      (rc (w64 (x129.1 + 1)) s0.2.1 (w64 (s0.2.2.1 - 1)) e x129.2).bind fun x136 =>
                      some (.inl (s0.1, x129.1, (w64 (s0.2.2.1 - 1)), true, false, x136))
                    else
                      (rc (w64 (x129.1 + 1)) s0.2.1 (w64 (s0.2.2.1 - 1)) e x129.2).bind fun x137 =>
                      some (.inl (s0.1, x129.1, (w64 (s0.2.2.1 - 1)), false, false, x137))
              else
                (g_slices_partitionEqualCmpFunc_int s0.1 s0.2.1 (w64 ((w64 (s0.2.1 - 1)) - (w64 (x124.1 - s0.1)))) e x125).bind fun x138 =>
                some (.inl (x138.1, s0.2.1, (w64 (s0.2.2.1 - 1)), false, true, x138.2))
            else
              (g_slices_partitionCmpFunc_int s0.1 s0.2.1 (w64 ((w64 (s0.2.1 - 1)) - (w64 (x124.1 - s0.1)))) e x125).bind fun x139 =>
              match x139 with
              | (.inl x139) =>
                bif (decide ((w64 (x139.1 - s0.1)) < (w64 (s0.2.1 - x139.1)))) then
                  bif (decide ((w64 (Int.tdiv (w64 (s0.2.1 - s0.1)) 8)) ≤ (w64 (x139.1 - s0.1)))) then
                    (rc s0.1 x139.1 (w64 (s0.2.2.1 - 1)) e x139.2).bind fun x140 =>
                    some (.inl ((w64 (x139.1 + 1)), s0.2.1, (w64 (s0.2.2.1 - 1)), true, true, x140))
                  else
                    (rc s0.1 x139.1 (w64 (s0.2.2.1 - 1)) e x139.2).bind fun x141 =>
                    some (.inl ((w64 (x139.1 + 1)), s0.2.1, (w64 (s0.2.2.1 - 1)), false, true, x141))
                else
                  bif (decide ((w64 (Int.tdiv (w64 (s0.2.1 - s0.1)) 8)) ≤ (w64 (s0.2.1 - x139.1)))) then
                    (rc (w64 (x139.1 + 1)) s0.2.1 (w64 (s0.2.2.1 - 1)) e x139.2).bind fun x142 =>
                    some (.inl (s0.1, x139.1, (w64 (s0.2.2.1 - 1)), true, true, x142))
                  else
                    (rc (w64 (x139.1 + 1)) s0.2.1 (w64 (s0.2.2.1 - 1)) e x139.2).bind fun x143 =>
                    some (.inl (s0.1, x139.1, (w64 (s0.2.2.1 - 1)), false, true, x143))
              | (.inr x139) =>
                bif (decide ((w64 (x139.1 - s0.1)) < (w64 (s0.2.1 - x139.1)))) then
                  bif (decide ((w64 (Int.tdiv (w64 (s0.2.1 - s0.1)) 8)) ≤ (w64 (x139.1 - s0.1)))) then
                    (rc s0.1 x139.1 (w64 (s0.2.2.1 - 1)) e x139.2).bind fun x144 =>
                    some (.inl ((w64 (x139.1 + 1)), s0.2.1, (w64 (s0.2.2.1 - 1)), true, false, x144))
                  else
                    (rc s0.1 x139.1 (w64 (s0.2.2.1 - 1)) e x139.2).bind fun x145 =>
                    some (.inl ((w64 (x139.1 + 1)), s0.2.1, (w64 (s0.2.2.1 - 1)), false, false, x145))
                else
                  bif (decide ((w64 (Int.tdiv (w64 (s0.2.1 - s0.1)) 8)) ≤ (w64 (s0.2.1 - x139.1)))) then
                    (rc (w64 (x139.1 + 1)) s0.2.1 (w64 (s0.2.2.1 - 1)) e x139.2).bind fun x146 =>
                    some (.inl (s0.1, x139.1, (w64 (s0.2.2.1 - 1)), true, false, x146))
                  else
                    (rc (w64 (x139.1 + 1)) s0.2.1 (w64 (s0.2.2.1 - 1)) e x139.2).bind fun x147 =>
                    some (.inl (s0.1, x139.1, (w64 (s0.2.2.1 - 1)), false, false, x147))
          else
            bif (decide (0 < s0.1)) then
              (getI x123 (w64 (s0.1 - 1))).bind fun x148 =>
              (getI x123 x124.1).bind fun x149 =>
              (e x148 x149).bind fun x150 =>
              bif (decide (x150 < 0)) then
                (g_slices_partitionCmpFunc_int s0.1 s0.2.1 x124.1 e x123).bind fun x151 =>
                match x151 with
                | (.inl x151) =>
                  bif (decide ((w64 (x151.1 - s0.1)) < (w64 (s0.2.1 - x151.1)))) then
                    bif (decide ((w64 (Int.tdiv (w64 (s0.2.1 - s0.1)) 8)) ≤ (w64 (x151.1 - s0.1)))) then
                      (rc s0.1 x151.1 (w64 (s0.2.2.1 - 1)) e x151.2).bind fun x152 =>
                      some (.inl ((w64 (x151.1 + 1)), s0.2.1, (w64 (s0.2.2.1 - 1)), true, true, x152))
                    else
                      (rc s0.1 x151.1 (w64 (s0.2.2.1 - 1)) e x151.2).bind fun x153 =>
                      some (.inl ((w64 (x151.1 + 1)), s0.2.1, (w64 (s0.2.2.1 - 1)), false, true, x153))
                  else
                    bif (decide ((w64 (Int.tdiv (w64 (s0.2.1 - s0.1)) 8)) ≤ (w64 (s0.2.1 - x151.1)))) then
                      (rc (w64 (x151.1 + 1)) s0.2.1 (w64 (s0.2.2.1 - 1)) e x151.2).bind fun x154 =>
                      some (.inl (s0.1, x151.1, (w64 (s0.2.2.1 - 1)), true, true, x154))
                    else
                      (rc (w64 (x151.1 + 1)) s0.2.1 (w64 (s0.2.2.1 - 1)) e x151.2).bind fun x155 =>
                      some (.inl (s0.1, x151.1, (w64 (s0.2.2.1 - 1)), false, true, x155))
                | (.inr x151) =>
                  bif (decide ((w64 (x151.1 - s0.1)) < (w64 (s0.2.1 - x151.1)))) then
                    bif (decide ((w64 (Int.tdiv (w64 (s0.2.1 - s0.1)) 8)) ≤ (w64 (x151.1 - s0.1)))) then
                      (rc s0.1 x151.1 (w64 (s0.2.2.1 - 1)) e x151.2).bind fun x156 =>
                      some (.inl ((w64 (x151.1 + 1)), s0.2.1, (w64 (s0.2.2.1 - 1)), true, false, x156))
                    else
                      (rc s0.1 x151.1 (w64 (s0.2.2.1 - 1)) e x151.2).bind fun x157 =>
                      some (.inl ((w64 (x151.1 + 1)), s0.2.1, (w64 (s0.2.2.1 - 1)), false, false, x157))
                  else
                    bif (decide ((w64 (Int.tdiv (w64 (s0.2.1 - s0.1)) 8)) ≤ (w64 (s0.2.1 - x151.1)))) then
                      (rc (w64 (x151.1 + 1)) s0.2.1 (w64 (s0.2.2.1 - 1)) e x151.2).bind fun x158 =>
                      some (.inl (s0.1, x151.1, (w64 (s0.2.2.1 - 1)), true, false, x158))
                    else
                      (rc (w64 (x151.1 + 1)) s0.2.1 (w64 (s0.2.2.1 - 1)) e x151.2).bind fun x159 =>
                      some (.inl (s0.1, x151.1, (w64 (s0.2.2.1 - 1)), false, false, x159))
              else
                (g_slices_partitionEqualCmpFunc_int s0.1 s0.2.1 x124.1 e x123).bind fun x160 =>
                some (.inl (x160.1, s0.2.1, (w64 (s0.2.2.1 - 1)), false, true, x160.2))
            else
              (g_slices_partitionCmpFunc_int s0.1 s0.2.1 x124.1 e x123).bind fun x161 =>
              match x161 with
              | (.inl x161) =>
                bif (decide ((w64 (x161.1 - s0.1)) < (w64 (s0.2.1 - x161.1)))) then
                  bif (decide ((w64 (Int.tdiv (w64 (s0.2.1 - s0.1)) 8)) ≤ (w64 (x161.1 - s0.1)))) then
                    (rc s0.1 x161.1 (w64 (s0.2.2.1 - 1)) e x161.2).bind fun x162 =>
                    some (.inl ((w64 (x161.1 + 1)), s0.2.1, (w64 (s0.2.2.1 - 1)), true, true, x162))
                  else
                    (rc s0.1 x161.1 (w64 (s0.2.2.1 - 1)) e x161.2).bind fun x163 =>
                    some (.inl ((w64 (x161.1 + 1)), s0.2.1, (w64 (s0.2.2.1 - 1)), false, true, x163))
                else
                  bif (decide ((w64 (Int.tdiv (w64 (s0.2.1 - s0.1)) 8)) ≤ (w64 (s0.2.1 - x161.1)))) then
                    (rc (w64 (x161.1 + 1)) s0.2.1 (w64 (s0.2.2.1 - 1)) e x161.2).bind fun x164 =>
                    some (.inl (s0.1, x161.1, (w64 (s0.2.2.1 - 1)), true, true, x164))
                  else
                    (rc (w64 (x161.1 + 1)) s0.2.1 (w64 (s0.2.2.1 - 1)) e x161.2).bind fun x165 =>
                    some (.inl (s0.1, x161.1, (w64 (s0.2.2.1 - 1)), false, true, x165))
              | (.inr x161) =>
                bif (decide ((w64 (x161.1 - s0.1)) < (w64 (s0.2.1 - x161.1)))) then
                  bif (decide ((w64 (Int.tdiv (w64 (s0.2.1 - s0.1)) 8)) ≤ (w64 (x161.1 - s0.1)))) then
                    (rc s0.1 x161.1 (w64 (s0.2.2.1 - 1)) e x161.2).bind fun x166 =>
                    some (.inl ((w64 (x161.1 + 1)), s0.2.1, (w64 (s0.2.2.1 - 1)), true, false, x166))
                  else
                    (rc s0.1 x161.1 (w64 (s0.2.2.1 - 1)) e x161.2).bind fun x167 =>
                    some (.inl ((w64 (x161.1 + 1)), s0.2.1, (w64 (s0.2.2.1 - 1)), false, false, x167))
                else
                  bif (decide ((w64 (Int.tdiv (w64 (s0.2.1 - s0.1)) 8)) ≤ (w64 (s0.2.1 - x161.1)))) then
                    (rc (w64 (x161.1 + 1)) s0.2.1 (w64 (s0.2.2.1 - 1)) e x161.2).bind fun x168 =>
                    some (.inl (s0.1, x161.1, (w64 (s0.2.2.1 - 1)), true, false, x168))
                  else
                    (rc (w64 (x161.1 + 1)) s0.2.1 (w64 (s0.2.2.1 - 1)) e x161.2).bind fun x169 =>
                    some (.inl (s0.1, x161.1, (w64 (s0.2.2.1 - 1)), false, false, x169))
    else
      bif (decide ((w64 (s0.2.1 - s0.1)) ≤ 12)) then
        (g_slices_insertionSortCmpFunc_int s0.1 s0.2.1 e s0.2.2.2.2.2).bind fun x170 =>
        some (.inr x170)
      else
        bif (s0.2.2.1 == 0) then
          (g_slices_heapSortCmpFunc_int s0.1 s0.2.1 e s0.2.2.2.2.2).bind fun x171 =>
          some (.inr x171)
        else
          (g_slices_breakPatternsCmpFunc_int s0.1 s0.2.1 e s0.2.2.2.2.2).bind fun x172 =>
          (g_slices_choosePivotCmpFunc_int s0.1 s0.2.1 e x172).bind fun x173 =>
          bif (x173.2 == 2) then
            (g_slices_reverseRangeCmpFunc_int s0.1 s0.2.1 e x172).bind fun x174 =>
            bif (decide (0 < s0.1)) then
              (getI x174 (w64 (s0.1 - 1))).bind fun x175 =>
              (getI x174 (w64 ((w64 (s0.2.1 - 1)) - (w64 (x173.1 - s0.1))))).bind fun x176 =>
              (e x175 x176).bind fun x177 =>
              bif (decide (x177 < 0)) then
                (g_slices_partitionCmpFunc_int s0.1 s0.2.1 (w64 ((w64 (s0.2.1 - 1)) - (w64 (x173.1 - s0.1)))) e x174).bind fun x178 =>
                match x178 with
                | (.inl x178) =>
                  bif (decide ((w64 (x178.1 - s0.1)) < (w64 (s0.2.1 - x178.1)))) then
                    bif (decide ((w64 (Int.tdiv (w64 (s0.2.1 - s0.1)) 8)) ≤ (w64 (x178.1 - s0.1)))) then
                      (rc s0.1 x178.1 (w64 (s0.2.2.1 - 1)) e x178.2).bind fun x179 =>
                      some (.inl ((w64 (x178.1 + 1)), s0.2.1, (w64 (s0.2.2.1 - 1)), true, true, x179))
                    else
                      (rc s0.1 x178.1 (w64 (s0.2.2.1 - 1)) e x178.2).bind fun x180 =>
                      some (.inl ((w64 (x178.1 + 1)), s0.2.1, (w64 (s0.2.2.1 - 1)), false, true, x180))
                  else
                    bif (decide ((w64 (Int.tdiv (w64 (s0.2.1 - s0.1)) 8)) ≤ (w64 (s0.2.1 - x178.1)))) then
                      (rc (w64 (x178.1 + 1)) s0.2.1 (w64 (s0.2.2.1 - 1)) e x178.2).bind fun x181 =>
                      some (.inl (s0.1, x178.1, (w64 (s0.2.2.1 - 1)), true, true, x181))
                    else
                      (rc (w64 (x178.1 + 1)) s0.2.1 (w64 (s0.2.2.1 - 1)) e x178.2).bind fun x182 =>
                      some (.inl (s0.1, x178.1, (w64 (s0.2.2.1 - 1)), false, true, x182))
                | (.inr x178) =>
                  bif (decide ((w64 (x178.1 - s0.1)) < (w64 (s0.2.1 - x178.1)))) then
                    bif (decide ((w64 (Int.tdiv (w64 (s0.2.1 - s0.1)) 8)) ≤ (w64 (x178.1 - s0.1)))) then
                      (rc s0.1 x178.1 (w64 (s0.2.2.1 - 1)) e x178.2).bind fun x183 =>
                      some (.inl ((w64 (x178.1 + 1)), s0.2.1, (w64 (s0.2.2.1 - 1)), true, false, x183))
                    else
                      (rc s0.1 x178.1 (w64 (s0.2.2.1 - 1)) e x178.2).bind fun x184 =>
                      some (.inl ((w64 (x178.1 + 1)), s0.2.1, (w64 (s0.2.2.1 - 1)), false, false, x184))
                  else
                    bif (decide ((w64 (Int.tdiv (w64 (s0.2.1 - s0.1)) 8)) ≤ (w64 (s0.2.1 - x178.1)))) then
                      (rc (w64 (x178.1 + 1)) s0.2.1 (w64 (s0.2.2.1 - 1)) e x178.2).bind fun x185 =>
                      some (.inl (s0.1, x178.1, (w64 (s0.2.2.1 - 1)), true, false, x185))
                    else
                      (rc (w64 (x178.1 + 1)) s0.2.1 (w64 (s0.2.2.1 - 1)) e x178.2).bind fun x186 =>
                      some (.inl (s0.1, x178.1, (w64 (s0.2.2.1 - 1)), false, false, x186))
              else
                (g_slices_partitionEqualCmpFunc_int s0.1 s0.2.1 (w64 ((w64 (s0.2.1 - 1)) - (w64 (x173.1 - s0.1)))) e x174).bind fun x187 =>
                some (.inl (x187.1, s0.2.1, (w64 (s0.2.2.1 - 1)), false, false, x187.2))
            else
              (g_slices_partitionCmpFunc_int s0.1 s0.2.1 (w64 ((w64 (s0.2.1 - 1)) - (w64 (x173.1 - s0.1)))) e x174).bind fun x188 =>
              match x188 with
              | (.inl x188) =>
                bif (decide ((w64 (x188.1 - s0.1)) < (w64 (s0.2.1 - x188.1)))) then
                  bif (decide ((w64 (Int.tdiv (w64 (s0.2.1 - s0.1)) 8)) ≤ (w64 (x188.1 - s0.1)))) then
                    (rc s0.1 x188.1 (w64 (s0.2.2.1 - 1)) e x188.2).bind fun x189 =>
                    some (.inl ((w64 (x188.1 + 1)), s0.2.1, (w64 (s0.2.2.1 - 1)), true, true, x189))
                  else
                    (rc s0.1 x188.1 (w64 (s0.2.2.1 - 1)) e x188.2).bind fun x190 =>
                    some (.inl ((w64 (x188.1 + 1)), s0.2.1, (w64 (s0.2.2.1 - 1)), false, true, x190))
                else
                  bif (decide ((w64 (Int.tdiv (w64 (s0.2.1 - s0.1)) 8)) ≤ (w64 (s0.2.1 - x188.1)))) then
                    (rc (w64 (x188.1 + 1)) s0.2.1 (w64 (s0.2.2.1 - 1)) e x188.2).bind fun x191 =>
                    some (.inl (s0.1, x188.1, (w64 (s0.2.2.1 - 1)), true, true, x191))
                  else
                    (rc (w64 (x188.1 + 1)) s0.2.1 (w64 (s0.2.2.1 - 1)) e x188.2).bind fun x192 =>
                    some (.inl (s0.1, x188.1, (w64 (s0.2.2.1 - 1)), false, true, x192))
              | (.inr x188) =>
                bif (decide ((w64 (x188.1 - s0.1)) < (w64 (s0.2.1 - x188.1)))) then
                  bif (decide ((w64 (Int.tdiv (w64 (s0.2.1 - s0.1)) 8)) ≤ (w64 (x188.1 - s0.1)))) then
                    (rc s0.1 x188.1 (w64 (s0.2.2.1 - 1)) e x188.2).bind fun x193 =>
                    some (.inl ((w64 (x188.1 + 1)), s0.2.1, (w64 (s0.2.2.1 - 1)), true, false, x193))
                  else
                    (rc s0.1 x188.1 (w64 (s0.2.2.1 - 1)) e x188.2).bind fun x194 =>
                    some (.inl ((w64 (x188.1 + 1)), s0.2.1, (w64 (s0.2.2.1 - 1)), false, false, x194))
                else
                  bif (decide ((w64 (Int.tdiv (w64 (s0.2.1 - s0.1)) 8)) ≤ (w64 (s0.2.1 - x188.1)))) then
                    (rc (w64 (x188.1 + 1)) s0.2.1 (w64 (s0.2.2.1 - 1)) e x188.2).bind fun x195 =>
                    some (.inl (s0.1, x188.1, (w64 (s0.2.2.1 - 1)), true, false, x195))
                  else
                    (rc (w64 (x188.1 + 1)) s0.2.1 (w64 (s0.2.2.1 - 1)) e x188.2).bind fun x196 =>
                    some (.inl (s0.1, x188.1, (w64 (s0.2.2.1 - 1)), false, false, x196))
          else
            bif (decide (0 < s0.1)) then
              (getI x172 (w64 (s0.1 - 1))).bind fun x197 =>
              (getI x172 x173.1).bind fun x198 =>
              (e x197 x198).bind fun x199 =>
              bif (decide (x199 < 0)) then
                (g_slices_partitionCmpFunc_int s0.1 s0.2.1 x173.1 e x172).bind fun x200 =>
                match x200 with
                | (.inl x200) =>
                  bif (decide ((w64 (x200.1 - s0.1)) < (w64 (s0.2.1 - x200.1)))) then
                    bif (decide ((w64 (Int.tdiv (w64 (s0.2.1 - s0.1)) 8)) ≤ (w64 (x200.1 - s0.1)))) then
                      (rc s0.1 x200.1 (w64 (s0.2.2.1 - 1)) e x200.2).bind fun x201 =>
                      some (.inl ((w64 (x200.1 + 1)), s0.2.1, (w64 (s0.2.2.1 - 1)), true, true, x201))
                    else
                      (rc s0.1 x200.1 (w64 (s0.2.2.1 - 1)) e x200.2).bind fun x202 =>
                      some (.inl ((w64 (x200.1 + 1)), s0.2.1, (w64 (s0.2.2.1 - 1)), false, true, x202))
                  else
                    bif (decide ((w64 (Int.tdiv (w64 (s0.2.1 - s0.1)) 8)) ≤ (w64 (s0.2.1 - x200.1)))) then
                      (rc (w64 (x200.1 + 1)) s0.2.1 (w64 (s0.2.2.1 - 1)) e x200.2).bind fun x203 =>
                      some (.inl (s0.1, x200.1, (w64 (s0.2.2.1 - 1)), true, true, x203))
                    else
                      (rc (w64 (x200.1 + 1)) s0.2.1 (w64 (s0.2.2.1 - 1)) e x200.2).bind fun x204 =>
                      some (.inl (s0.1, x200.1, (w64 (s0.2.2.1 - 1)), false, true, x204))
                | (.inr x200) =>
                  bif (decide ((w64 (x200.1 - s0.1)) < (w64 (s0.2.1 - x200.1)))) then
                    bif (decide ((w64 (Int.tdiv (w64 (s0.2.1 - s0.1)) 8)) ≤ (w64 (x200.1 - s0.1)))) then
                      (rc s0.1 x200.1 (w64 (s0.2.2.1 - 1)) e x200.2).bind fun x205 =>
                      some (.inl ((w64 (x200.1 + 1)), s0.2.1, (w64 (s0.2.2.1 - 1)), true, false, x205))
                    else
                      (rc s0.1 x200.1 (w64 (s0.2.2.1 - 1)) e x200.2).bind fun x206 =>
                      some (.inl ((w64 (x200.1 + 1)), s0.2.1, (w64 (s0.2.2.1 - 1)), false, false, x206))
                  else
                    bif (decide ((w64 (Int.tdiv (w64 (s0.2.1 - s0.1)) 8)) ≤ (w64 (s0.2.1 - x200.1)))) then
                      (rc (w64 (x200.1 + 1)) s0.2.1 (w64 (s0.2.2.1 - 1)) e x200.2).bind fun x207 =>
                      some (.inl (s0.1, x200.1, (w64 (s0.2.2.1 - 1)), true, false, x207))
                    else
                      (rc (w64 (x200.1 + 1)) s0.2.1 (w64 (s0.2.2.1 - 1)) e x200.2).bind fun x208 =>
                      some (.inl (s0.1, x200.1, (w64 (s0.2.2.1 - 1)), false, false, x208))
              else
                (g_slices_partitionEqualCmpFunc_int s0.1 s0.2.1 x173.1 e x172).bind fun x209 =>
                some (.inl (x209.1, s0.2.1, (w64 (s0.2.2.1 - 1)), false, false, x209.2))
            else
              (g_slices_partitionCmpFunc_int s0.1 s0.2.1 x173.1 e x172).bind fun x210 =>
              match x210 with
              | (.inl x210) =>
                bif (decide ((w64 (x210.1 - s0.1)) < (w64 (s0.2.1 - x210.1)))) then
                  bif (decide ((w64 (Int.tdiv (w64 (s0.2.1 - s0.1)) 8)) ≤ (w64 (x210.1 - s0.1)))) then
                    (rc s0.1 x210.1 (w64 (s0.2.2.1 - 1)) e x210.2).bind fun x211 =>
                    some (.inl ((w64 (x210.1 + 1)), s0.2.1, (w64 (s0.2.2.1 - 1)), true, true, x211))
                  else
                    (rc s0.1 x210.1 (w64 (s0.2.2.1 - 1)) e x210.2).bind fun x212 =>
                    some (.inl ((w64 (x210.1 + 1)), s0.2.1, (w64 (s0.2.2.1 - 1)), false, true, x212))
                else
                  bif (decide ((w64 (Int.tdiv (w64 (s0.2.1 - s0.1)) 8)) ≤ (w64 (s0.2.1 - x210.1)))) then
                    (rc (w64 (x210.1 + 1)) s0.2.1 (w64 (s0.2.2.1 - 1)) e x210.2).bind fun x213 =>
                    some (.inl (s0.1, x210.1, (w64 (s0.2.2.1 - 1)), true, true, x213))
                  else
                    (rc (w64 (x210.1 + 1)) s0.2.1 (w64 (s0.2.2.1 - 1)) e x210.2).bind fun x214 =>
                    some (.inl (s0.1, x210.1, (w64 (s0.2.2.1 - 1)), false, true, x214))
              | (.inr x210) =>
                bif (decide ((w64 (x210.1 - s0.1)) < (w64 (s0.2.1 - x210.1)))) then
                  bif (decide ((w64 (Int.tdiv (w64 (s0.2.1 - s0.1)) 8)) ≤ (w64 (x210.1 - s0.1)))) then
                    (rc s0.1 x210.1 (w64 (s0.2.2.1 - 1)) e x210.2).bind fun x215 =>
                    some (.inl ((w64 (x210.1 + 1)), s0.2.1, (w64 (s0.2.2.1 - 1)), true, false, x215))
                  else
                    (rc s0.1 x210.1 (w64 (s0.2.2.1 - 1)) e x210.2).bind fun x216 =>
                    some (.inl ((w64 (x210.1 + 1)), s0.2.1, (w64 (s0.2.2.1 - 1)), false, false, x216))
                else
                  bif (decide ((w64 (Int.tdiv (w64 (s0.2.1 - s0.1)) 8)) ≤ (w64 (s0.2.1 - x210.1)))) then
                    (rc (w64 (x210.1 + 1)) s0.2.1 (w64 (s0.2.2.1 - 1)) e x210.2).bind fun x217 =>
                    some (.inl (s0.1, x210.1, (w64 (s0.2.2.1 - 1)), true, false, x217))
                  else
                    (rc (w64 (x210.1 + 1)) s0.2.1 (w64 (s0.2.2.1 - 1)) e x210.2).bind fun x218 =>
                    some (.inl (s0.1, x210.1, (w64 (s0.2.2.1 - 1)), false, false, x218))
noncomputable def g_slices_pdqsortCmpFunc_int_b (rc : Int → Int → Int → (Int → Int → Option Int) → (List Int) → Option (List Int)) (b : Int) (c : Int) (d : Int) (e : (Int → Int → Option Int)) (m0_0 : (List Int)) : Option (List Int) :=
  (lp (g_slices_pdqsortCmpFunc_int_L0 e rc) (b, c, d, true, true, m0_0)).bind fun r219 =>
  some r219
noncomputable def g_slices_pdqsortCmpFunc_int_n : Nat → Int → Int → Int → (Int → Int → Option Int) → (List Int) → Option (List Int)
  | 0 => fun _ _ _ _ _ => none
  | n + 1 => g_slices_pdqsortCmpFunc_int_b (g_slices_pdqsortCmpFunc_int_n n)
noncomputable def g_slices_pdqsortCmpFunc_int (b : Int) (c : Int) (d : Int) (e : (Int → Int → Option Int)) (m0_0 : (List Int)) : Option (List Int) := lim1 fun n => g_slices_pdqsortCmpFunc_int_n n b c d e m0_0
noncomputable def g_slices_SortFunc_l_int_int (b : (Int → Int → Option Int)) (m0_0 : (List Int)) : Option (List Int) :=
  (g_math_bits_Len (IntKind.u64.wrap (m0_0.length : Int))).bind fun x0 =>
  (g_slices_pdqsortCmpFunc_int 0 (m0_0.length : Int) x0 b m0_0).bind fun x1 =>
  some x1
noncomputable def g_desc_Touches_L0 (a : DescT) (b : Int) (s1 : Int × (List Int)) : Option ((Int × (List Int)) ⊕ (List Int)) :=
  bif (decide (s1.1 < (a.futures.length : Int))) then
    (getI a.futures s1.1).bind fun x2 =>
    bif (x2.user == b) then
      bif (Nat.ble (List.length s1.2 + 1) lim) then
        some (.inl ((w64 (s1.1 + 1)), (s1.2 ++ [s1.1])))
      else
        none
    else
      some (.inl ((w64 (s1.1 + 1)), s1.2))
  else
    some (.inr s1.2)
noncomputable def g_desc_Touches (a : DescT) (b : Int) : Option (List Int) :=
  (g_desc_Check a).bind fun x0 =>
  bif (x0 != 0) then
    some ([] : List Int)
  else
    (lp (g_desc_Touches_L0 a b) (0, ([] : (List Int)))).bind fun r3 =>
    (g_slices_SortFunc_l_int_int (fun z0 z1 => g_desc_Touches_1 z0 z1 a.futures) r3).bind fun x4 =>
    some x4
noncomputable def g_desc_Feeds_L0 (a : DescT) (b : Int) (s1 : Int × (List Int)) : Option ((Int × (List Int)) ⊕ (List Int)) :=
  bif (decide (s1.1 < (a.edges.length : Int))) then
    (getI a.edges s1.1).bind fun x2 =>
    bif (x2.dst == b) then
      bif (Nat.ble (List.length s1.2 + 1) lim) then
        some (.inl ((w64 (s1.1 + 1)), (s1.2 ++ [x2.src])))
      else
        none
    else
      some (.inl ((w64 (s1.1 + 1)), s1.2))
  else
    some (.inr s1.2)
noncomputable def g_desc_Feeds_L1 (a : DescT) (x4 : (List Int)) (s5 : Int × (List Int)) : Option ((Int × (List Int)) ⊕ (List Int)) :=
  bif (decide (s5.1 < (x4.length : Int))) then
    (getI x4 s5.1).bind fun x6 =>
    (getI a.futures x6).bind fun x7 =>
    bif (Nat.ble (List.length s5.2 + 1) lim) then
      some (.inl ((w64 (s5.1 + 1)), (s5.2 ++ [x7.maker])))
    else
      none
  else
    some (.inr s5.2)
noncomputable def g_desc_Feeds (a : DescT) (b : Int) : Option (List Int) :=
  (g_desc_Check a).bind fun x0 =>
  bif (x0 != 0) then
    some ([] : List Int)
  else
    (lp (g_desc_Feeds_L0 a b) (0, ([] : (List Int)))).bind fun r3 =>
    (g_desc_Touches a b).bind fun x4 =>
    (lp (g_desc_Feeds_L1 a x4) (0, r3)).bind fun r8 =>
    some r8
noncomputable def g_ref05_Touches_L0 (a : DescT) (b : Int) (s0 : Int × (List Int)) (s1 : Int × (List Int)) : Option ((Int × (List Int)) ⊕ (List Int)) :=
  bif (decide (s1.1 < (a.futures.length : Int))) then
    (getI a.futures s1.1).bind fun x2 =>
    bif (x2.user == b) then
      bif (x2.pos == s0.1) then
        bif (Nat.ble (List.length s1.2 + 1) lim) then
          some (.inl ((w64 (s1.1 + 1)), (s1.2 ++ [s1.1])))
        else
          none
      else
        some (.inl ((w64 (s1.1 + 1)), s1.2))
    else
      some (.inl ((w64 (s1.1 + 1)), s1.2))
  else
    some (.inr s1.2)
noncomputable def g_ref05_Touches_L1 (a : DescT) (b : Int) (s0 : Int × (List Int)) : Option ((Int × (List Int)) ⊕ (List Int)) :=
  bif (decide (s0.1 < 100)) then
    (lp (g_ref05_Touches_L0 a b s0) (0, s0.2)).bind fun r3 =>
    some (.inl ((w64 (s0.1 + 1)), r3))
  else
    some (.inr s0.2)
noncomputable def g_ref05_Touches (a : DescT) (b : Int) : Option (List Int) :=
  (lp (g_ref05_Touches_L1 a b) (1, ([] : (List Int)))).bind fun r4 =>
  some r4
noncomputable def g_ref05_Feeds_L0 (a : DescT) (b : Int) (s0 : Int × (List Int)) : Option ((Int × (List Int)) ⊕ (List Int)) :=
  bif (decide (s0.1 < (a.edges.length : Int))) then
    (getI a.edges s0.1).bind fun x1 =>
    bif (x1.dst == b) then
      bif (Nat.ble (List.length s0.2 + 1) lim) then
        some (.inl ((w64 (s0.1 + 1)), (s0.2 ++ [x1.src])))
      else
        none
    else
      some (.inl ((w64 (s0.1 + 1)), s0.2))
  else
    some (.inr s0.2)
noncomputable def g_ref05_Feeds_L1 (a : DescT) (x3 : (List Int)) (s4 : Int × (List Int)) : Option ((Int × (List Int)) ⊕ (List Int)) :=
  bif (decide (s4.1 < (x3.length : Int))) then
    (getI x3 s4.1).bind fun x5 =>
    (getI a.futures x5).bind fun x6 =>
    bif (Nat.ble (List.length s4.2 + 1) lim) then
      some (.inl ((w64 (s4.1 + 1)), (s4.2 ++ [x6.maker])))
    else
      none
  else
    some (.inr s4.2)
noncomputable def g_ref05_Feeds (a : DescT) (b : Int) : Option (List Int) :=
  (lp (g_ref05_Feeds_L0 a b) (0, ([] : (List Int)))).bind fun r2 =>
  (g_ref05_Touches a b).bind fun x3 =>
  (lp (g_ref05_Feeds_L1 a x3) (0, r2)).bind fun r7 =>
  some r7
noncomputable def g_law05_DescFeeds (a : DescT) (b : Int) : Option Bool :=
  g_law05_awake.bind fun x0 =>
  bif x0 then
    (g_ref05_Few a).bind fun x1 =>
    bif x1 then
      (g_law05_Own a).bind fun x2 =>
      (g_desc_Touches (DescT.mk a.period a.deadline a.parts a.edges a.futures x2) b).bind fun x3 =>
      (g_law05_Own a).bind fun x4 =>
      (g_desc_Feeds (DescT.mk a.period a.deadline a.parts a.edges a.futures x4) b).bind fun x5 =>
      (g_ref05_Check a).bind fun x6 =>
      bif (x6 != 0) then
        bif ((x3.length : Int) == 0) then
          bif ((x5.length : Int) == 0) then
            some true
          else
            some false
        else
          some false
      else
        (g_ref05_Touches a b).bind fun x7 =>
        (g_ref02_Ints x3 x7).bind fun x8 =>
        bif x8 then
          (g_ref05_Feeds a b).bind fun x9 =>
          (g_ref02_Ints x5 x9).bind fun x10 =>
          bif x10 then
            some true
          else
            some false
        else
          some false
    else
      g_law05_awake.bind fun x11 =>
      bif x11 then
        some true
      else
        some false
  else
    g_law05_awake.bind fun x12 =>
    bif x12 then
      some true
    else
      some false
noncomputable def g_law05_DescGaps_L0 (a : DescT) (b : Int) (x8 : (List Int)) (s9 : Int × Int) : Option ((Int × Int) ⊕ (Int ⊕ Int)) :=
  bif (decide (s9.2 < (x8.length : Int))) then
    (getI x8 s9.2).bind fun x10 =>
    bif (decide (x10 < 0)) then
      some (.inr (.inl s9.1))
    else
      bif (decide ((a.futures.length : Int) ≤ x10)) then
        some (.inr (.inl s9.1))
      else
        (getI a.futures x10).bind fun x11 =>
        bif (x11.user != b) then
          some (.inr (.inl s9.1))
        else
          bif (decide (x11.pos ≤ s9.1)) then
            some (.inr (.inl s9.1))
          else
            some (.inl (x11.pos, (w64 (s9.2 + 1))))
  else
    some (.inr (.inr s9.1))
noncomputable def g_law05_DescGaps (a : DescT) (b : Int) : Option Bool :=
  g_law05_awake.bind fun x0 =>
  bif x0 then
    (g_ref05_Few a).bind fun x1 =>
    bif x1 then
      (g_law05_Own a).bind fun x2 =>
      (g_desc_Check (DescT.mk a.period a.deadline a.parts a.edges a.futures x2)).bind fun x3 =>
      bif (x3 != 0) then
        g_law05_awake.bind fun x4 =>
        bif x4 then
          some true
        else
          some false
      else
        bif (decide (b < 0)) then
          g_law05_awake.bind fun x5 =>
          bif x5 then
            some true
          else
            some false
        else
          bif (decide ((a.parts.length : Int) ≤ b)) then
            g_law05_awake.bind fun x6 =>
            bif x6 then
              some true
            else
              some false
          else
            (g_law05_Own a).bind fun x7 =>
            (g_desc_Touches (DescT.mk a.period a.deadline a.parts a.edges a.futures x7) b).bind fun x8 =>
            (lp (g_law05_DescGaps_L0 a b x8) (0, 0)).bind fun r12 =>
            match r12 with
            | (.inl r12) =>
              some false
            | (.inr r12) =>
              (getI a.parts b).bind fun x13 =>
              bif (decide (r12 < x13.work)) then
                (g_law05_Own a).bind fun x14 =>
                (g_desc_Feeds (DescT.mk a.period a.deadline a.parts a.edges a.futures x14) b).bind fun x15 =>
                bif (decide ((x8.length : Int) ≤ (x15.length : Int))) then
                  some true
                else
                  some false
              else
                some false
    else
      g_law05_awake.bind fun x16 =>
      bif x16 then
        some true
      else
        some false
  else
    g_law05_awake.bind fun x17 =>
    bif x17 then
      some true
    else
      some false
noncomputable def g_law05_DescCounts_L0 (a : DescT) (s5 : Int × Int) (x7 : (List Int)) (s8 : Int) : Option (Int ⊕ (Unit ⊕ Unit)) :=
  bif (decide (s8 < (x7.length : Int))) then
    (getI x7 s8).bind fun x9 =>
    bif (x9 == s5.2) then
      some (.inr (.inl ()))
    else
      (g_ref05_Part a x9).bind fun x10 =>
      bif x10 then
        some (.inl (w64 (s8 + 1)))
      else
        some (.inr (.inl ()))
  else
    some (.inr (.inr ()))
noncomputable def g_law05_DescCounts_L1 (a : DescT) (s5 : Int × Int) : Option ((Int × Int) ⊕ (Int ⊕ Int)) :=
  bif (decide (s5.2 < (a.parts.length : Int))) then
    (g_law05_Own a).bind fun x6 =>
    (g_desc_Feeds (DescT.mk a.period a.deadline a.parts a.edges a.futures x6) s5.2).bind fun x7 =>
    (lp (g_law05_DescCounts_L0 a s5 x7) 0).bind fun r11 =>
    match r11 with
    | (.inl r11) =>
      some (.inr (.inl (w64 (s5.1 + (x7.length : Int)))))
    | (.inr r11) =>
      some (.inl ((w64 (s5.1 + (x7.length : Int))), (w64 (s5.2 + 1))))
  else
    some (.inr (.inr s5.1))
noncomputable def g_law05_DescCounts (a : DescT) : Option Bool :=
  g_law05_awake.bind fun x0 =>
  bif x0 then
    (g_ref05_Few a).bind fun x1 =>
    bif x1 then
      (g_law05_Own a).bind fun x2 =>
      (g_desc_Check (DescT.mk a.period a.deadline a.parts a.edges a.futures x2)).bind fun x3 =>
      bif (x3 != 0) then
        g_law05_awake.bind fun x4 =>
        bif x4 then
          some true
        else
          some false
      else
        (lp (g_law05_DescCounts_L1 a) (0, 0)).bind fun r12 =>
        match r12 with
        | (.inl r12) =>
          some false
        | (.inr r12) =>
          bif (r12 == (w64 ((a.edges.length : Int) + (a.futures.length : Int)))) then
            some true
          else
            some false
    else
      g_law05_awake.bind fun x13 =>
      bif x13 then
        some true
      else
        some false
  else
    g_law05_awake.bind fun x14 =>
    bif x14 then
      some true
    else
      some false
end Go.Proofs.YtakebhleglnpjaaDoor

namespace Go.Proofs.YtakebhleglnpjaaDoorE
open Go
set_option linter.unusedVariables false
set_option linter.unusedSimpArgs false
theorem lt_t {i n : Nat} (h : i < n) : decide ((i : Int) < (n : Int)) = true := decide_eq_true (by omega)
theorem lt_f (n : Nat) : decide ((n : Int) < (n : Int)) = false := decide_eq_false (by omega)
theorem at_some {γ : Type} {l : List γ} {i : Nat} {x : γ} (h : l[i]? = some x) : getI l (i : Int) = some x := (getI_nat l i).trans h
theorem at_int {γ : Type} {l : List γ} {i : Int} {x : γ} (h0 : 0 ≤ i) (h : l[i.toNat]? = some x) : getI l i = some x := by
  have := at_some h
  rwa [Int.toNat_of_nonneg h0] at this
theorem w64_id {n : Int} (h1 : -9223372036854775808 ≤ n) (h2 : n < 9223372036854775808) : w64 n = n := wrap64 h1 h2
theorem w64_succ {i n : Nat} (h : i < n) (hn : n < 9223372036854775808) : w64 ((i : Int) + 1) = ((i + 1 : Nat) : Int) := by rw [w64_id (by omega) (by omega)]; omega
theorem lim_t {n : Nat} (h : n ≤ 1073741824) : Nat.ble n lim = true := Nat.ble_eq_true_of_le h
def scan {γ S R : Type} (f : Nat → γ → S → Option (S ⊕ R)) (fin : S → Option R) : Nat → List γ → S → Option R
  | _, [], s => fin s
  | i, x :: l, s => (match f i x s with | some (.inl s') => scan f fin (i + 1) l s' | some (.inr r) => some r | none => none)
theorem lp_scan {γ S St R : Type} (l : List γ) (step : St → Option (St ⊕ R)) (st : Nat → S → St) (f : Nat → γ → S → Option (S ⊕ R)) (fin : S → Option R)
    (h1 : ∀ i x s, i < l.length → l[i]? = some x → step (st i s) = (match f i x s with | some (.inl s') => some (.inl (st (i + 1) s')) | some (.inr r) => some (.inr r) | none => none))
    (h2 : ∀ s, step (st l.length s) = (fin s).map Sum.inr) : ∀ s, lp step (st 0 s) = scan f fin 0 l s := by
  have key : ∀ (k i : Nat) (s : S), i + k = l.length → lp step (st i s) = scan f fin i (l.drop i) s := by
    intro k
    induction k with
    | zero =>
      intro i s hi
      have : i = l.length := by omega
      subst this
      rw [List.drop_length, lp_eq, h2]
      unfold scan
      cases fin s <;> rfl
    | succ k ih =>
      intro i s hi
      have hi' : i < l.length := by omega
      rw [List.drop_eq_getElem_cons hi', lp_eq, h1 i l[i] s hi' (List.getElem?_eq_getElem hi')]
      conv => rhs; unfold scan
      cases f i l[i] s with
      | none => rfl
      | some t =>
        cases t with
        | inl s' => exact ih (i + 1) s' (by omega)
        | inr r => rfl
  intro s
  have := key l.length 0 s (by omega)
  rwa [List.drop_zero] at this
def stop {γ R : Type} (p : Nat → γ → Bool) (out : Nat → γ → R) (fin : R) : Nat → List γ → R
  | _, [] => fin
  | i, x :: l => bif p i x then out i x else stop p out fin (i + 1) l
theorem lp_stop {γ R : Type} (l : List γ) (step : Int → Option (Int ⊕ R)) (p : Nat → γ → Bool) (out : Nat → γ → R) (fin : R)
    (h1 : ∀ i x, i < l.length → l[i]? = some x → step (i : Int) = some (bif p i x then .inr (out i x) else .inl ((i + 1 : Nat) : Int)))
    (h2 : step (l.length : Int) = some (.inr fin)) : lp step 0 = some (stop p out fin 0 l) := by
  have key := lp_scan (S := Unit) l step (fun i _ => (i : Int)) (fun i x _ => some (bif p i x then .inr (out i x) else .inl ())) (fun _ => some fin)
    (fun i x s hi hx => by rw [h1 i x hi hx]; cases p i x <;> rfl) (fun _ => h2) ()
  refine (key : lp step 0 = _).trans ?_
  have : ∀ (l : List γ) (i : Nat), scan (S := Unit) (fun i x _ => some (bif p i x then Sum.inr (out i x) else Sum.inl ())) (fun _ => some fin) i l () = some (stop p out fin i l) := by
    intro l
    induction l with
    | nil => intro i; rfl
    | cons x l ih =>
      intro i
      unfold scan stop
      cases p i x with
      | true => rfl
      | false => exact ih (i + 1)
  exact this l 0
def anyI {γ : Type} (p : Nat → γ → Bool) : Nat → List γ → Bool
  | _, [] => false
  | i, x :: l => p i x || anyI p (i + 1) l
theorem anyI_any {γ : Type} (p : γ → Bool) : ∀ (l : List γ) (i : Nat), anyI (fun _ => p) i l = l.any p
  | [], _ => rfl
  | x :: l, i => by rw [anyI, List.any_cons, anyI_any p l]
theorem stop_const {γ R : Type} (p : Nat → γ → Bool) (c fin : R) : ∀ (l : List γ) (i : Nat), stop p (fun _ _ => c) fin i l = bif anyI p i l then c else fin
  | [], _ => rfl
  | x :: l, i => by
    unfold stop anyI
    rw [stop_const p c fin l (i + 1)]
    cases p i x <;> rfl
theorem stop_index {γ R : Type} (p : γ → Bool) (fin : R) : ∀ (l : List γ) (i : Nat), (∃ j : Nat, stop (fun _ => p) (fun i _ => (Sum.inl (i : Int) : Int ⊕ R)) (.inr fin) i l = .inl (j : Int) ∧ l.any p = true) ∨ (stop (fun _ => p) (fun i _ => (Sum.inl (i : Int) : Int ⊕ R)) (.inr fin) i l = .inr fin ∧ l.any p = false)
  | [], _ => .inr ⟨rfl, rfl⟩
  | x :: l, i => by
    unfold stop
    rw [List.any_cons]
    cases h : p x with
    | true => exact .inl ⟨i, rfl, rfl⟩
    | false => simpa using stop_index p fin l (i + 1)
theorem anyI_iff {γ : Type} (p : Nat → γ → Bool) : ∀ (l : List γ) (i : Nat), anyI p i l = true ↔ ∃ j x, l[j]? = some x ∧ p (i + j) x = true
  | [], i => by simp [anyI]
  | x :: l, i => by
    rw [anyI, Bool.or_eq_true, anyI_iff p l (i + 1)]
    constructor
    · rintro (h | ⟨j, y, hj, hp⟩)
      · exact ⟨0, x, rfl, h⟩
      · exact ⟨j + 1, y, by simpa using hj, by rw [show i + (j + 1) = i + 1 + j by omega]; exact hp⟩
    · rintro ⟨j, y, hj, hp⟩
      cases j with
      | zero => left; simp at hj; subst hj; exact hp
      | succ j => right; exact ⟨j, y, by simpa using hj, by rw [show i + 1 + j = i + (j + 1) by omega]; exact hp⟩
theorem anyI_congr {γ : Type} (p q : Nat → γ → Bool) (l : List γ) (h : ∀ i x, l[i]? = some x → p i x = q i x) : anyI p 0 l = anyI q 0 l := by
  rw [Bool.eq_iff_iff, anyI_iff, anyI_iff]
  constructor
  · rintro ⟨j, x, hj, hp⟩; exact ⟨j, x, hj, by rw [Nat.zero_add] at hp ⊢; rw [← h j x hj]; exact hp⟩
  · rintro ⟨j, x, hj, hp⟩; exact ⟨j, x, hj, by rw [Nat.zero_add] at hp ⊢; rw [h j x hj]; exact hp⟩
theorem lp_same {γ : Type} [DecidableEq γ] (a b : List γ) (he : a.length = b.length) (step : Int → Option (Int ⊕ (Unit ⊕ Unit)))
    (h1 : ∀ i x y, i < a.length → a[i]? = some x → b[i]? = some y → step (i : Int) = some (bif decide (x = y) then .inl ((i + 1 : Nat) : Int) else .inr (.inl ())))
    (h2 : step (a.length : Int) = some (.inr (.inr ()))) : lp step 0 = some (bif decide (a = b) then .inr () else .inl ()) := by
  have key : ∀ (k i : Nat), i + k = a.length → lp step (i : Int) = some (bif decide (a.drop i = b.drop i) then .inr () else .inl ()) := by
    intro k
    induction k with
    | zero =>
      intro i hi
      have : i = a.length := by omega
      subst this
      rw [lp_eq, h2, List.drop_length, he, List.drop_length]
      rfl
    | succ k ih =>
      intro i hi
      have ha : i < a.length := by omega
      have hb : i < b.length := by omega
      rw [lp_eq, h1 i a[i] b[i] ha (List.getElem?_eq_getElem ha) (List.getElem?_eq_getElem hb), List.drop_eq_getElem_cons ha, List.drop_eq_getElem_cons hb]
      by_cases h : a[i] = b[i]
      · rw [decide_eq_true h]
        simp only [cond_true]
        rw [ih (i + 1) (by omega)]
        by_cases h3 : a.drop (i + 1) = b.drop (i + 1)
        · rw [decide_eq_true h3, decide_eq_true (by rw [h, h3])]
        · rw [decide_eq_false h3, decide_eq_false (by intro h4; exact h3 (List.cons.inj h4).2)]
      · rw [decide_eq_false h, decide_eq_false (by intro h4; exact h (List.cons.inj h4).1)]
        rfl
  have := key a.length 0 (by omega)
  rwa [List.drop_zero, List.drop_zero] at this
end Go.Proofs.YtakebhleglnpjaaDoorE

namespace Go.Proofs.YtakebhleglnpjaaDoor
open Go Go.Proofs.YtakebhleglnpjaaDoorE
set_option linter.unusedVariables false
set_option linter.unusedSimpArgs false
def within (n a b : Int) : Bool := decide (a ≤ n) && decide (n ≤ b)
theorem within_p (n a b : Int) : g_desc_within n a b = some (within n a b) := by
  unfold g_desc_within within
  cases decide (a ≤ n) <;> cases decide (n ≤ b) <;> rfl
theorem within_part (x : Int) (n : Nat) : within x 0 ((n : Int) - 1) = (decide (0 ≤ x) && decide (x < (n : Int))) := by
  unfold within
  congr 1
  exact decide_eq_decide.2 (by omega)
def badPart (p : PartT) : Bool := !(within p.op 0 5 && (within p.arg 0 2147483647 && within p.work 1 100))
theorem part_p (p : PartT) : g_desc_part p = some (badPart p) := by
  unfold g_desc_part badPart
  simp only [within_p, Option.bind_some]
  cases within p.op 0 5 <;> cases within p.arg 0 2147483647 <;> cases within p.work 1 100 <;> rfl
theorem find_any {γ : Type} (l : List γ) (p : γ → Bool) (step : Int → Option (Int ⊕ (Int ⊕ Unit)))
    (h1 : ∀ i x, i < l.length → l[i]? = some x → step (i : Int) = some (bif p x then .inr (.inl (i : Int)) else .inl ((i + 1 : Nat) : Int)))
    (h2 : step (l.length : Int) = some (.inr (.inr ()))) :
    (((lp step 0).bind fun (r : Int ⊕ Unit) => match r with | .inl r => some r | .inr _ => some (-1)).bind fun x => bif decide (0 ≤ x) then some true else some false) = some (l.any p) := by
  rw [lp_stop l step (fun _ => p) (fun i _ => .inl (i : Int)) (.inr ()) h1 h2]
  rcases stop_index p () l 0 with ⟨j, e1, e2⟩ | ⟨e1, e2⟩
  · rw [e1, e2]
    show (bif decide ((0 : Int) ≤ (j : Int)) then some true else some false) = some true
    rw [decide_eq_true (by omega)]
    rfl
  · rw [e1, e2]
    rfl
theorem containsPart_p (l : List PartT) (f : PartT → Option Bool) (p : PartT → Bool) (hf : ∀ x ∈ l, f x = some (p x)) (hl : l.length < 9223372036854775808) : g_slices_ContainsFunc_l_Part_Part l f = some (l.any p) := by
  unfold g_slices_ContainsFunc_l_Part_Part g_slices_IndexFunc_l_Part_Part
  refine find_any l p _ (fun i x hi hx => ?_) ?_
  · simp only [g_slices_IndexFunc_l_Part_Part_L0, lt_t hi, at_some hx, Option.bind_some, hf x (List.mem_of_getElem? hx), w64_succ hi hl, cond_true]
    cases p x <;> rfl
  · simp only [g_slices_IndexFunc_l_Part_Part_L0, lt_f]; rfl
def sameE (e x : EdgeT) : Bool := e.src == x.src && (e.dst == x.dst && true)
theorem hasEdge_p (l : List EdgeT) (e : EdgeT) (hl : l.length < 9223372036854775808) : g_slices_Contains_l_Edge_Edge l e = some (l.any (sameE e)) := by
  unfold g_slices_Contains_l_Edge_Edge g_slices_Index_l_Edge_Edge
  refine find_any l (sameE e) _ (fun i x hi hx => ?_) ?_
  · simp only [g_slices_Index_l_Edge_Edge_L0, lt_t hi, at_some hx, Option.bind_some, w64_succ hi hl, cond_true, sameE]
    cases (e.src == x.src && (e.dst == x.dst && true)) <;> rfl
  · simp only [g_slices_Index_l_Edge_Edge_L0, lt_f]; rfl
def again (f g : FutureT) : Bool := g.user == f.user && g.pos == f.pos
theorem containsFuture_p (l : List FutureT) (f : FutureT → Option Bool) (p : FutureT → Bool) (hf : ∀ x ∈ l, f x = some (p x)) (hl : l.length < 9223372036854775808) : g_slices_ContainsFunc_l_Future_Future l f = some (l.any p) := by
  unfold g_slices_ContainsFunc_l_Future_Future g_slices_IndexFunc_l_Future_Future
  refine find_any l p _ (fun i x hi hx => ?_) ?_
  · simp only [g_slices_IndexFunc_l_Future_Future_L0, lt_t hi, at_some hx, Option.bind_some, hf x (List.mem_of_getElem? hx), w64_succ hi hl, cond_true]
    cases p x <;> rfl
  · simp only [g_slices_IndexFunc_l_Future_Future_L0, lt_f]; rfl
theorem again_p (f g : FutureT) : g_desc_Check_1 g f.user f.pos = some (again f g) := by
  unfold g_desc_Check_1 again
  cases (g.user == f.user) <;> cases (g.pos == f.pos) <;> rfl
theorem hasInt_p (l : List Int) (n : Int) (hl : l.length < 9223372036854775808) : g_slices_Contains_l_int_int l n = some (l.any (fun x => n == x)) := by
  unfold g_slices_Contains_l_int_int g_slices_Index_l_int_int
  refine find_any l (fun x => n == x) _ (fun i x hi hx => ?_) ?_
  · simp only [g_slices_Index_l_int_int_L0, lt_t hi, at_some hx, Option.bind_some, w64_succ hi hl, cond_true]
    cases (n == x) <;> rfl
  · simp only [g_slices_Index_l_int_int_L0, lt_f]; rfl
def isOut (b : BarrierT) (n : Int) : Bool := b.outs.any fun x => n == x
theorem containsInt_p (l : List Int) (f : Int → Option Bool) (p : Int → Bool) (hf : ∀ x ∈ l, f x = some (p x)) (hl : l.length < 9223372036854775808) : g_slices_ContainsFunc_l_int_int l f = some (l.any p) := by
  unfold g_slices_ContainsFunc_l_int_int g_slices_IndexFunc_l_int_int
  refine find_any l p _ (fun i x hi hx => ?_) ?_
  · simp only [g_slices_IndexFunc_l_int_int_L0, lt_t hi, at_some hx, Option.bind_some, hf x (List.mem_of_getElem? hx), w64_succ hi hl, cond_true]
    cases p x <;> rfl
  · simp only [g_slices_IndexFunc_l_int_int_L0, lt_f]; rfl
theorem out_p (b : BarrierT) (h2 : b.outs.length < 9223372036854775808) (n : Int) : g_desc_Check_2 n b.outs = some (isOut b n) := by
  unfold g_desc_Check_2
  simp only [hasInt_p _ _ h2, Option.bind_some]
  unfold isOut
  cases (b.outs.any fun y => n == y) <;> rfl
def two (n : Nat) (a b : Int) : Bool := (a != b) && (within a 0 (n - 1) && within b 0 (n - 1))
theorem two_p (d : DescT) (hl : d.parts.length < 9223372036854775808) (a b : Int) : g_desc_two d a b = some (two d.parts.length a b) := by
  unfold g_desc_two two
  rw [w64_id (by omega) (by omega)]
  simp only [within_p, Option.bind_some]
  cases (a != b) <;> cases within a 0 (d.parts.length - 1) <;> cases within b 0 (d.parts.length - 1) <;> rfl
def badAt (n : Nat) (l : List Int) (i : Nat) (x : Int) : Bool := !(within x 0 (n - 1)) || (match i with | 0 => false | j + 1 => match l[j]? with | some y => decide (x ≤ y) | none => false)
def rowOK (n : Nat) (l : List Int) : Bool := !(anyI (badAt n l) 0 l) && !l.isEmpty
theorem row_end (b : Bool) (l : List Int) : ((some (bif b then (Sum.inl () : Unit ⊕ Unit) else .inr ())).bind fun r => match r with | .inl _ => some false | .inr _ => bif decide (0 < (l.length : Int)) then some true else some false) = some (!b && !l.isEmpty) := by
  cases b with
  | true => rfl
  | false =>
    cases l with
    | nil => rfl
    | cons x l => show (bif decide (0 < ((x :: l).length : Int)) then some true else some false) = some true; rw [decide_eq_true (by rw [List.length_cons]; omega)]; rfl
theorem row_p (d : DescT) (hd : d.parts.length < 9223372036854775808) (l : List Int) (hl : l.length < 9223372036854775808) : g_desc_row d l = some (rowOK d.parts.length l) := by
  have key := lp_stop l (g_desc_row_L0 d l) (badAt d.parts.length l) (fun _ _ => .inl ()) (.inr ()) (fun i x hi hx => by
      simp only [g_desc_row_L0, lt_t hi, at_some hx, Option.bind_some, w64_succ hi hl, cond_true, within_p, badAt]
      rw [w64_id (by omega) (by omega)]
      cases within x 0 (d.parts.length - 1) with
      | false => rfl
      | true =>
        cases i with
        | zero => rfl
        | succ i =>
          rw [decide_eq_true (show (0 : Int) < ((i + 1 : Nat) : Int) by omega), w64_id (by omega) (by omega), show (((i + 1 : Nat) : Int) - 1) = (i : Int) by omega]
          have hi2 : l[i]? = some l[i] := List.getElem?_eq_getElem (by omega)
          rw [at_some hi2]
          simp only [cond_true, Option.bind_some, Bool.not_true, Bool.false_or, hi2]
          cases decide (x ≤ l[i]) <;> rfl) (by simp only [g_desc_row_L0, lt_f]; rfl)
  unfold g_desc_row rowOK
  rw [key, stop_const]
  exact row_end _ _
end Go.Proofs.YtakebhleglnpjaaDoor

namespace Go.Proofs.YtakebhleglnpjaaDoor
open Go Go.Proofs.YtakebhleglnpjaaDoorE
set_option linter.unusedVariables false
set_option linter.unusedSimpArgs false
def Short (b : BarrierT) : Prop := b.ins.length < 9223372036854775808 ∧ b.outs.length < 9223372036854775808
structure ShortD (d : DescT) : Prop where
  p : d.parts.length < 9223372036854775808
  e : d.edges.length < 9223372036854775808
  f : d.futures.length < 9223372036854775808
  b : d.barriers.length < 9223372036854775808
  i : ∀ b ∈ d.barriers, Short b
theorem take_short {γ : Type} {l : List γ} {i n : Nat} (h : l.length < n) : (l.take i).length < n := by rw [List.length_take]; omega
def badEdge (d : DescT) (i : Nat) (e : EdgeT) : Bool := !(two d.parts.length e.src e.dst) || (d.edges.take i).any (sameE e)
theorem edges_p (d : DescT) (h : ShortD d) : lp (g_desc_Check_L0 d) 0 = some (bif anyI (badEdge d) 0 d.edges then .inl () else .inr ()) := by
  have key := lp_stop d.edges (g_desc_Check_L0 d) (badEdge d) (fun _ _ => .inl ()) (.inr ()) (fun i x hi hx => by
      simp only [g_desc_Check_L0, lt_t hi, at_some hx, Option.bind_some, w64_succ hi h.e, cond_true, two_p d h.p, badEdge, Int.toNat_natCast, hasEdge_p _ _ (take_short h.e)]
      rw [decide_eq_true (show (0 : Int) ≤ (i : Int) by omega), Nat.ble_eq_true_of_le (Nat.le_of_lt hi)]
      cases two d.parts.length x.src x.dst <;> cases (d.edges.take i).any (sameE x) <;> rfl) (by simp only [g_desc_Check_L0, lt_f]; rfl)
  rw [key, stop_const]
def workAt (ps : List PartT) (z : Int) : Int := match ps[z.toNat]? with | some p => p.work | none => 0
def badFuture (d : DescT) (i : Nat) (f : FutureT) : Bool := !(two d.parts.length f.maker f.user) || (!(within f.pos 1 (workAt d.parts f.user - 1)) || (d.futures.take i).any (again f))
theorem two_in {n : Nat} {a b : Int} (h : two n a b = true) : (0 ≤ a ∧ a.toNat < n) ∧ (0 ≤ b ∧ b.toNat < n) ∧ a ≠ b := by
  simp only [two, within, Bool.and_eq_true, decide_eq_true_eq, bne_iff_ne] at h
  omega
theorem getI_in {γ : Type} {l : List γ} {z : Int} (h0 : 0 ≤ z) (h : z.toNat < l.length) : getI l z = some l[z.toNat] := at_int h0 (List.getElem?_eq_getElem h)
theorem futures_p (d : DescT) (h : ShortD d) (hg : ∀ p ∈ d.parts, 1 ≤ p.work ∧ p.work ≤ 100) : lp (g_desc_Check_L1 d) 0 = some (bif anyI (badFuture d) 0 d.futures then .inl () else .inr ()) := by
  have key := lp_stop d.futures (g_desc_Check_L1 d) (badFuture d) (fun _ _ => .inl ()) (.inr ()) (fun i x hi hx => by
      simp only [g_desc_Check_L1, lt_t hi, at_some hx, Option.bind_some, w64_succ hi h.f, cond_true, two_p d h.p, badFuture]
      cases h1 : two d.parts.length x.maker x.user with
      | false => rfl
      | true =>
        obtain ⟨_, ⟨u1, u2⟩, _⟩ := two_in h1
        have w := hg _ (List.getElem_mem u2)
        have wa : workAt d.parts x.user = d.parts[x.user.toNat].work := by simp only [workAt, List.getElem?_eq_getElem u2]
        rw [← wa] at w
        rw [getI_in u1 u2]
        simp only [cond_true, Option.bind_some, within_p, ← wa, w64_id (show -9223372036854775808 ≤ workAt d.parts x.user - 1 by omega) (by omega), Int.toNat_natCast]
        rw [decide_eq_true (show (0 : Int) ≤ (i : Int) by omega), Nat.ble_eq_true_of_le (Nat.le_of_lt hi), containsFuture_p _ _ (again x) (fun y _ => again_p x y) (take_short h.f)]
        cases within x.pos 1 (workAt d.parts x.user - 1) <;> cases (d.futures.take i).any (again x) <;> rfl) (by simp only [g_desc_Check_L1, lt_f]; rfl)
  rw [key, stop_const]
def badBarrier (n : Nat) (b : BarrierT) : Bool := !(rowOK n b.ins) || (!(rowOK n b.outs) || b.ins.any (isOut b))
theorem barriers_p (d : DescT) (h : ShortD d) : lp (g_desc_Check_L2 d) 0 = some (bif d.barriers.any (badBarrier d.parts.length) then .inl () else .inr ()) := by
  have key := lp_stop d.barriers (g_desc_Check_L2 d) (fun _ => badBarrier d.parts.length) (fun _ _ => .inl ()) (.inr ()) (fun i x hi hx => by
      have hb := h.i x (List.mem_of_getElem? hx)
      simp only [g_desc_Check_L2, lt_t hi, at_some hx, Option.bind_some, w64_succ hi h.b, cond_true, row_p d h.p _ hb.1, row_p d h.p _ hb.2, badBarrier, containsInt_p x.ins _ (isOut x) (fun y _ => out_p x hb.2 y) hb.1]
      cases rowOK d.parts.length x.ins <;> cases rowOK d.parts.length x.outs <;> cases x.ins.any (isOut x) <;> rfl) (by simp only [g_desc_Check_L2, lt_f]; rfl)
  rw [key, stop_const, anyI_any]
def numErr (n : Int) : Int := bif decide (n < 0) then 10 else bif decide (1099511627775 < n) then 11 else 0
theorem numCheck_p (n : Int) : g_num_Check n = some (numErr n) := by
  unfold g_num_Check numErr
  cases decide (n < 0) <;> cases decide (1099511627775 < n) <;> rfl
noncomputable def ones (x : Int) : Int := match g_math_bits_OnesCount64 x with | some n => n | none => 0
theorem ones_p (x : Int) : g_math_bits_OnesCount x = some (ones x) := by
  unfold g_math_bits_OnesCount ones g_math_bits_OnesCount64
  rfl
def pow2 (n : Nat) : Bool := [1, 2, 4, 8, 16, 32, 64, 128, 256, 512, 1024, 2048, 4096].contains n
theorem ones_table : ((List.range 4097).all fun n => (ones (IntKind.u64.wrap (n : Int)) == 1) == pow2 n) = true := by kernel_rfl
theorem ones_small (n : Nat) (h : n ≤ 4096) : (ones (IntKind.u64.wrap (n : Int)) == 1) = pow2 n := by
  have := List.all_eq_true.1 ones_table n (by simp; omega)
  simpa using this
noncomputable def twoB (n : Int) : Bool := !(numErr n != 0) && !(ones (IntKind.u64.wrap n) != 1)
theorem numTwo_p (n : Int) : ∃ k, g_num_Two n = some (k, twoB n) := by
  have tz : ∃ k, g_math_bits_TrailingZeros (IntKind.u64.wrap n) = some k := ⟨_, rfl⟩
  obtain ⟨k, hk⟩ := tz
  unfold g_num_Two twoB
  simp only [numCheck_p, ones_p, Option.bind_some, hk]
  cases (numErr n != 0)
  · cases (ones (IntKind.u64.wrap n) != 1)
    · exact ⟨k, rfl⟩
    · exact ⟨0, rfl⟩
  · exact ⟨0, rfl⟩
theorem twoB_neg {n : Int} (h : n < 0) : twoB n = false := by
  have : (numErr n != 0) = true := by unfold numErr; rw [decide_eq_true h]; rfl
  simp only [twoB, this]; rfl
theorem twoB_small (n : Nat) (h : n ≤ 4096) : twoB (n : Int) = pow2 n := by
  have h1 : (numErr (n : Int) != 0) = false := by
    unfold numErr
    rw [decide_eq_false (show ¬ ((n : Int) < 0) by omega), decide_eq_false (show ¬ ((1099511627775 : Int) < n) by omega)]
    rfl
  rw [← ones_small n h]
  unfold twoB
  rw [h1]
  unfold bne
  rw [Bool.not_not]
  rfl
noncomputable def timeOK (d : DescT) : Bool := twoB d.period && (!decide (4096 < d.period) && within d.deadline 1 d.period)
def manyOK (d : DescT) : Bool := within (d.parts.length : Int) 1 16 && (!decide ((48 : Int) < d.edges.length) && (!decide ((16 : Int) < d.futures.length) && !decide ((4 : Int) < d.barriers.length)))
noncomputable def checkD (d : DescT) : Int :=
  bif manyOK d then bif timeOK d then bif d.parts.any badPart then 52 else bif anyI (badEdge d) 0 d.edges then 53 else
  bif anyI (badFuture d) 0 d.futures then 54 else bif d.barriers.any (badBarrier d.parts.length) then 55 else 0 else 51 else 50
theorem parts_good {ps : List PartT} (h : ps.any badPart = false) : ∀ p ∈ ps, 1 ≤ p.work ∧ p.work ≤ 100 := fun p hp => by
  have := List.any_eq_false.1 h p hp
  simp only [badPart, within, Bool.not_eq_true, Bool.not_eq_false', Bool.and_eq_true, decide_eq_true_eq] at this
  exact this.2.2
theorem check_p (d : DescT) (h : ShortD d) : g_desc_Check d = some (checkD d) := by
  obtain ⟨k, hk⟩ := numTwo_p d.period
  unfold g_desc_Check checkD manyOK timeOK
  simp only [within_p, Option.bind_some, hk, containsPart_p _ _ badPart (fun x _ => part_p x) h.p, edges_p d h, barriers_p d h]
  cases within (d.parts.length : Int) 1 16 with
  | false => rfl
  | true =>
    cases decide ((48 : Int) < d.edges.length) with
    | true => rfl
    | false =>
      cases decide ((16 : Int) < d.futures.length) with
      | true => rfl
      | false =>
        cases decide ((4 : Int) < d.barriers.length) with
        | true => rfl
        | false =>
          cases twoB d.period with
          | false => rfl
          | true =>
            cases decide (4096 < d.period) with
            | true => rfl
            | false =>
              cases within d.deadline 1 d.period with
              | false => rfl
              | true =>
                cases hp : d.parts.any badPart with
                | true => rfl
                | false =>
                  rw [futures_p d h (parts_good hp)]
                  cases anyI (badEdge d) 0 d.edges <;> cases anyI (badFuture d) 0 d.futures <;> cases d.barriers.any (badBarrier d.parts.length) <;> rfl
end Go.Proofs.YtakebhleglnpjaaDoor

