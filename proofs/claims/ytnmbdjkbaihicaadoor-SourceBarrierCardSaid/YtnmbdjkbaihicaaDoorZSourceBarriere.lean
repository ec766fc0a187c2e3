/- SourceBarrier: part 5 of 5 of the proof: the row and the card of the law, out of what the evaluator says of it; without conditions. -/
import Derived.Test.YtnmbdjkbaihicaaDoorZSourceBarrierd
import Derived.KernelRfl
import Derived.Test.YtnmbdjkbaihicaaDoorRows
import Derived.Test.YtnmbdjkbaihicaaDoorCards
import Derived.Test.YtnmbdjkbaihicaaDoorTie
import Derived.WalkKit
import Derived.ProofKit
import Derived.OpenShut
import Derived.ShutString
import Derived.ChangeOld
import Derived.Below
import Derived.SizedLaws
import Derived.Handed
import Derived.LaidMore
import Derived.Stop.Joined
import Derived.ChangeShapes
import Derived.Carry
import Derived.SevenTiedAt
set_option maxRecDepth 100000
set_option maxHeartbeats 40000000
namespace Go.Proofs.YtnmbdjkbaihicaaDoor
open Go Go.Proofs.YtnmbdjkbaihicaaDoorE
set_option linter.unusedVariables false
set_option linter.unusedSimpArgs false
theorem Zdg : ∀ r, Zdc = some r → evD ctx 22 [] = some (D.bool r) := fun r h => by
  cases h
  exact ZvJ 100 (by kernel_rfl)
def Zjp (r : Bool) : D := (D.bool r)
def Zhl (t0 : Bool) (t1 : Bool) (t2 : Bool) (t3 : Bool) (a : Zm) : (Unit ⊕ Unit) → Ex × List V × Zk
  | (.inl r) => (.ret, [(.ptr 0 0), (.d (D.bool false))], [(.cells (dV t0 t1 t2 t3 a))])
  | (.inr r) => (.exit 0, [(.ptr 0 0), .bad], [(.cells (dV t0 t1 t2 t3 a))])
theorem Zkk {t0 : Bool} {t1 : Bool} {t2 : Bool} {t3 : Bool} {a : Zm} : ∀ (s0 : Int) (r : (Unit ⊕ Unit)), lp (ZdV a) s0 = some r → lpW ctx 0 [1, 3] [1, 2] Zsp [(.ptr 0 0), (.d (Zb s0))] [(.cells (dV t0 t1 t2 t3 a))] = some ((Zhl t0 t1 t2 t3 a) r) := by
 refine ZaY (Zhl t0 t1 t2 t3 a) ?_
 intro s0 rcl ih
 show ZQ _ _ (lpW _ _ _ _ _ _ _)
 unfold ZdV
 rw [ZaX]
 conv => arg 3; whnf
 refine Zo (ZG _ _) ?_
 conv => arg 3; whnf
 refine Ze rfl ?_ ?_
 ·conv => arg 3; whnf
  refine Ze rfl ?_ ?_
  ·conv => arg 3; whnf
   refine Zj rfl rfl fun x1 hx1 => ?_
   conv => arg 3; whnf
   refine Zo (ZG _ _) ?_
   conv => arg 3; whnf
   refine Ze rfl ?_ ?_
   ·conv => arg 3; whnf
    exact Zf rfl
   ·conv => arg 3; whnf
    refine Zg (Za1 rfl hx1) ?_
    conv => arg 3; whnf
    refine Zo (ZG _ _) ?_
    conv => arg 3; whnf
    refine Ze rfl ?_ ?_
    ·conv => arg 3; whnf
     exact Zf rfl
    ·conv => arg 3; whnf
     exact Zd (ih _)
  ·conv => arg 3; whnf
   exact Zf rfl
 ·conv => arg 3; whnf
  exact Zf rfl
theorem Zl6 {t0 : Bool} {t1 : Bool} {t2 : Bool} {t3 : Bool} {a : Zm} : ∀ r, (ZfH a) = some r → evD ctx 40 [(.d (D.agg (dA t0 t1 t2 t3 a)))] = some (Zjp r) := by
 show ZQ _ (fun r rhs => rhs = some (Zjp r)) _
 unfold ZfH
 rw [Zbl ctx 40 ZvX _ rfl rfl]
 conv => arg 3; whnf
 refine Zc _ (Zkk _) fun r2 hr2 => ?_
 clear hr2
 rcases r2 with r2 | r2
 ·conv => arg 3; whnf
  exact Zf rfl
 ·conv => arg 3; whnf
  refine Zo (ZG _ _) ?_
  conv => arg 3; whnf
  refine Ze rfl ?_ ?_
  ·conv => arg 3; whnf
   refine Zo (ZG _ _) ?_
   conv => arg 3; whnf
   refine Ze rfl ?_ ?_
   ·conv => arg 3; whnf
    refine Zo (ZG _ _) ?_
    conv => arg 3; whnf
    refine Ze rfl ?_ ?_
    ·conv => arg 3; whnf
     refine Zo (ZG _ _) ?_
     conv => arg 3; whnf
     refine Ze rfl ?_ ?_
     ·conv => arg 3; whnf
      exact Zf rfl
     ·conv => arg 3; whnf
      exact Zf rfl
    ·conv => arg 3; whnf
     exact Zf rfl
   ·conv => arg 3; whnf
    exact Zf rfl
  ·conv => arg 3; whnf
   exact Zf rfl
def Zju (r : Bool) : D := (D.bool r)
theorem ZmG {t0 : Bool} {t1 : Bool} {t2 : Bool} {t3 : Bool} {t4 : Bool} {t5 : Bool} {t6 : Bool} {a : Zm} {b : (List Int)} {c : Zr} : ∀ r, (ZfK a b c) = some r → evD ctx 23 [(.d (D.agg (dA t0 t1 t2 t3 a))), (.d (D.list t4 (List.map Zb b))), (.d (D.agg [(D.list t5 (List.map Zb c.work)), (D.list t6 (List.map Zb c.vals))]))] = some (Zju r) := by
 show ZQ _ (fun r rhs => rhs = some (Zju r)) _
 unfold ZfK
 rw [Zbl ctx 23 Zu6 _ rfl rfl]
 conv => arg 3; whnf
 refine Zl _ Zl6 rfl fun x0 hx0 => ?_
 conv => arg 3; whnf
 refine Ze rfl ?_ ?_
 ·conv => arg 3; whnf
  refine Zo (ZG _ _) ?_
  conv => arg 3; whnf
  refine Ze rfl ?_ ?_
  ·conv => arg 3; whnf
   refine Zo (ZG _ _) ?_
   conv => arg 3; whnf
   refine Ze rfl ?_ ?_
   ·conv => arg 3; whnf
    refine Zo (ZG _ _) ?_
    conv => arg 3; whnf
    refine Ze rfl ?_ ?_
    ·conv => arg 3; whnf
     exact Zf rfl
    ·conv => arg 3; whnf
     exact Zf rfl
   ·conv => arg 3; whnf
    exact Zf rfl
  ·conv => arg 3; whnf
   exact Zf rfl
 ·conv => arg 3; whnf
  exact Zf rfl
def Zjn (t0 : Bool) (t1 : Bool) (t2 : Bool) (t3 : Bool) (a : Zm) : (List Zi) → V × Zk
  | r => ((.agg [(.d (Zb a.period)), (.d (Zb a.deadline)), (.sl 0 3), (.sl 1 2), (.sl 2 3), (.sl 3 2)]), [(.arr 3 (List.map ZV a.parts)), (.arr 2 (List.map ZS a.edges)), (.arr 3 (List.map Zu a.futures)), (.arr 2 (List.map Zs r))])
def ZhJ (t0 : Bool) (t1 : Bool) (t2 : Bool) (t3 : Bool) (a : Zm) : (List Zi) → Ex × List V × Zk
  | r => (.exit 0, [(.ptr 0 0), (.ptr 1 0)], [(.cells [(.d (Zb 0)), (.d (Zb 0)), (.sl 2 3), (.sl 3 2), (.sl 4 3), (.sl 5 2)]), (.cells [(.d (Zb a.period)), (.d (Zb a.deadline)), (.sl 6 3), (.sl 7 2), (.sl 8 3), (.sl 9 2)]), (.arr 3 []), (.arr 2 []), (.arr 3 []), (.arr 2 []), (.arr 3 (List.map ZV a.parts)), (.arr 2 (List.map ZS a.edges)), (.arr 3 (List.map Zu a.futures)), (.arr 2 (List.map Zs r))])
theorem Zj8 {t0 : Bool} {t1 : Bool} {t2 : Bool} {t3 : Bool} {a : Zm} : ∀ (s0 : Int × (List Zi)) (r : (List Zi)), lp (Zdt a) s0 = some r → lpW ctx 0 [1, 2, 3, 4] [2, 3] Ztt [(.ptr 0 0), (.ptr 1 0), (.ptr 2 0), (.d (Zb s0.1))] [(.cells (dV t0 t1 t2 t3 a)), (.cells [(.d (Zb 0)), (.d (Zb 0)), (.sl 3 3), (.sl 4 2), (.sl 5 3), (.sl 6 2)]), (.cells [(.d (Zb a.period)), (.d (Zb a.deadline)), (.sl 7 3), (.sl 8 2), (.sl 9 3), (.sl 10 2)]), (.arr 3 []), (.arr 2 []), (.arr 3 []), (.arr 2 []), (.arr 3 (List.map ZV a.parts)), (.arr 2 (List.map ZS a.edges)), (.arr 3 (List.map Zu a.futures)), (.arr 2 (List.map Zs s0.2))] = some ((ZhJ t0 t1 t2 t3 a) r) := by
 refine ZaY (ZhJ t0 t1 t2 t3 a) ?_
 intro s0 rcl ih
 show ZQ _ _ (lpW _ _ _ _ _ _ _)
 unfold Zdt
 rw [ZaX]
 conv => arg 3; whnf
 refine Zo (ZG _ _) ?_
 conv => arg 3; whnf
 refine Ze rfl ?_ ?_
 ·conv => arg 3; whnf
  refine Zj rfl rfl fun x1 hx1 => ?_
  conv => arg 3; whnf
  refine Zcy (Zff (f := Zb) (fun _ => ⟨rfl, rfl⟩) x1.ins 0) ?_
  conv => arg 3; whnf
  refine Ze (Ze9 Zb x1.ins) ?_ ?_
  ·conv => arg 3; whnf
   refine Zo (rfl : _ = List.map Zb x1.ins) ?_
   conv => arg 3; whnf
   refine Zg (Za1 rfl hx1) ?_
   conv => arg 3; whnf
   refine Zcy (Zff (f := Zb) (fun _ => ⟨rfl, rfl⟩) x1.outs 0) ?_
   conv => arg 3; whnf
   refine Ze (Ze9 Zb x1.outs) ?_ ?_
   ·conv => arg 3; whnf
    refine Zo (rfl : _ = List.map Zb x1.outs) ?_
    conv => arg 3; whnf
    refine Zcy rfl ?_
    conv => arg 3; whnf
    refine Ze (Zkc Zs s0.2 1) ?_ ?_
    ·conv => arg 3; whnf
     refine Zo (Zj4 Zs s0.2 [x1]) ?_
     conv => arg 3; whnf
     exact Zd (ih _)
    ·exact ZaA
   ·exact ZaA
  ·exact ZaA
 ·conv => arg 3; whnf
  exact Zf rfl
theorem ZcI {t0 : Bool} {t1 : Bool} {t2 : Bool} {t3 : Bool} {a : Zm} : ∀ r, (Zcl a) = some r → evW ctx 15 [(.d (D.agg (dA t0 t1 t2 t3 a)))] [] = some ((Zjn t0 t1 t2 t3 a) r) := by
 show ZQ _ (fun r rhs => rhs = some ((Zjn t0 t1 t2 t3 a) r)) _
 unfold Zcl
 rw [Zfc ctx 15 Zu2 _ _ rfl rfl]
 conv => arg 3; whnf
 refine Zcy (Zff (f := ZV) (fun _ => ⟨rfl, rfl⟩) a.parts 0) ?_
 conv => arg 3; whnf
 refine Ze (Ze9 ZV a.parts) ?_ ?_
 ·conv => arg 3; whnf
  refine Zo (rfl : _ = List.map ZV a.parts) ?_
  conv => arg 3; whnf
  refine Zcy (Zff (f := ZS) (fun _ => ⟨rfl, rfl⟩) a.edges 0) ?_
  conv => arg 3; whnf
  refine Ze (Ze9 ZS a.edges) ?_ ?_
  ·conv => arg 3; whnf
   refine Zo (rfl : _ = List.map ZS a.edges) ?_
   conv => arg 3; whnf
   refine Zcy (Zff (f := Zu) (fun _ => ⟨rfl, rfl⟩) a.futures 0) ?_
   conv => arg 3; whnf
   refine Ze (Ze9 Zu a.futures) ?_ ?_
   ·conv => arg 3; whnf
    refine Zo (rfl : _ = List.map Zu a.futures) ?_
    conv => arg 3; whnf
    refine Zc _ (Zj8 _) fun r2 hr2 => ?_
    conv => arg 3; whnf
    exact Zf rfl
   ·exact ZaA
  ·exact ZaA
 ·exact ZaA
def Zih (r : Bool) : D := (D.bool r)
theorem ZbJ {a : Int} {b : Int} {c : Int} : ∀ r, (Zbh a b c) = some r → evD ctx 82 [(.d (Zb a)), (.d (Zb b)), (.d (Zb c))] = some (Zih r) := by
 show ZQ _ (fun r rhs => rhs = some (Zih r)) _
 unfold Zbh
 rw [Zbl ctx 82 ZvU _ rfl rfl]
 conv => arg 3; whnf
 refine Ze rfl ?_ ?_
 ·conv => arg 3; whnf
  refine Ze rfl ?_ ?_
  ·conv => arg 3; whnf
   exact Zf rfl
  ·conv => arg 3; whnf
   exact Zf rfl
 ·conv => arg 3; whnf
  exact Zf rfl
def Zjj (r : Int) : D := (Zb r)
theorem Zmr {a : Int} : ∀ r, (ZfP a) = some r → evD ctx 109 [(.d (Zb a))] = some (Zjj r) := by
 show ZQ _ (fun r rhs => rhs = some (Zjj r)) _
 unfold ZfP
 rw [Zbl ctx 109 ZsN _ rfl rfl]
 conv => arg 3; whnf
 refine Ze rfl ?_ ?_
 ·conv => arg 3; whnf
  exact Zf rfl
 ·conv => arg 3; whnf
  refine Ze rfl ?_ ?_
  ·conv => arg 3; whnf
   exact Zf rfl
  ·conv => arg 3; whnf
   exact Zf rfl
def ZeI (r : Int) : D := (Zb r)
theorem ZgK {a : Int} : ∀ r, (Zb4 a) = some r → evD ctx 121 [(.d (D.int .u64 a))] = some (ZeI r) := by
 show ZQ _ (fun r rhs => rhs = some (ZeI r)) _
 unfold Zb4
 rw [Zbl ctx 121 Zsg _ rfl rfl]
 conv => arg 3; whnf
 refine Zae rfl ?_
 conv => arg 3; whnf
 refine Zae rfl ?_
 conv => arg 3; whnf
 refine Zae rfl ?_
 conv => arg 3; whnf
 refine Zae rfl ?_
 conv => arg 3; whnf
 refine Zae rfl ?_
 conv => arg 3; whnf
 refine Zae rfl ?_
 conv => arg 3; whnf
 exact Zf rfl
def Ze4 (r : Int) : D := (Zb r)
theorem Zg6 {a : Int} : ∀ r, (Zcp a) = some r → evD ctx 110 [(.d (D.int .u64 a))] = some (Ze4 r) := by
 show ZQ _ (fun r rhs => rhs = some (Ze4 r)) _
 unfold Zcp
 rw [Zbl ctx 110 ZsS _ rfl rfl]
 conv => arg 3; whnf
 refine Zl _ ZgK rfl fun x0 hx0 => ?_
 conv => arg 3; whnf
 exact Zf rfl
theorem Zww (n : Int) : 0 ≤ IntKind.u64.wrap n ∧ IntKind.u64.wrap n < 18446744073709551616 := by
  have : IntKind.u64.wrap n = n % 18446744073709551616 := by
    show (if (false && decide (n % 18446744073709551616 ≥ 9223372036854775808)) = true then n % 18446744073709551616 - 18446744073709551616 else n % 18446744073709551616) = _
    simp
  rw [this]
  omega
theorem ZxO (n : Int) : ∃ j : Nat, j < 64 ∧ (IntKind.u64.wrap n).fdiv (2 ^ (min (Int.toNat 58) IntKind.u64.bits)) = (j : Int) := by
  obtain ⟨h1, h2⟩ := Zww n
  have e : (2 : Int) ^ (min (Int.toNat 58) IntKind.u64.bits) = 288230376151711744 := by decide
  rw [e, Int.fdiv_eq_ediv_of_nonneg _ (by omega)]
  refine ⟨((IntKind.u64.wrap n) / 288230376151711744).toNat, ?_, ?_⟩ <;> omega
theorem Zwc : ∀ j : Nat, j < 64 → Zc4 [] 1 false (.d (.rptr (Zsa.drop (j * 1)))) = some (.d (.int .u8 (Zn5.getD j 0))) := by
  have key : ((List.range 64).all fun j => match Zc4 [] 1 false (.d (.rptr (Zsa.drop (j * 1)))) with | some (.d (.int .u8 z)) => z == Zn5.getD j 0 | _ => false) = true := by rfl
  intro j hj
  have := List.all_eq_true.1 key j (by simpa using hj)
  split at this
  · rename_i z hz
    rw [hz, eq_of_beq this]
  · cases this
def ZfG (r : Int) : D := Zb r
theorem Zfr (a : Int) : ∀ r, Zda a = some r → evD ctx 123 [.d (.int .u64 a)] = some (ZfG r) := by
  intro r hr
  unfold Zda at hr
  have hr := Option.some.inj hr
  subst hr
  rw [Zbl ctx 123 ZrW _ rfl rfl]
  by_cases h : (a == 0) = true
  · conv => lhs; whnf
    rw [h, ZtI]
    rfl
  · replace h : (a == 0) = false := by simpa using h
    obtain ⟨j, hj, e⟩ := ZxO (IntKind.u64.wrap ((BitVec.ofInt IntKind.u64.bits a &&& BitVec.ofInt IntKind.u64.bits (IntKind.u64.wrap (0 - a))).toNat : Int) * 285870213051353865)
    conv => lhs; whnf
    rw [h, ZtW]
    conv => lhs; whnf
    refine (ZxJ (by rfl)).trans ?_
    conv => lhs; whnf
    rw [e]
    refine (Zwu (by simp; omega)).trans ?_
    conv => lhs; whnf
    erw [Zwc j hj]
    rfl
def Zen (r : Int) : D := (Zb r)
theorem Zf8 {a : Int} : ∀ r, (Zcn a) = some r → evD ctx 111 [(.d (D.int .u64 a))] = some (Zen r) := by
 show ZQ _ (fun r rhs => rhs = some (Zen r)) _
 unfold Zcn
 rw [Zbl ctx 111 ZsF _ rfl rfl]
 conv => arg 3; whnf
 refine Zl _ (Zfr _) rfl fun x0 hx0 => ?_
 conv => arg 3; whnf
 exact Zf rfl
def Zk5 (r : (Int × Bool)) : D := (D.tup [(Zb r.1), (D.bool r.2)])
theorem ZnW {a : Int} : ∀ r, (Zhf a) = some r → evD ctx 83 [(.d (Zb a))] = some (Zk5 r) := by
 show ZQ _ (fun r rhs => rhs = some (Zk5 r)) _
 unfold Zhf
 rw [Zbl ctx 83 Zv8 _ rfl rfl]
 conv => arg 3; whnf
 refine Zl _ Zmr rfl fun x0 hx0 => ?_
 conv => arg 3; whnf
 refine Ze rfl ?_ ?_
 ·conv => arg 3; whnf
  exact Zf rfl
 ·conv => arg 3; whnf
  refine Zl _ Zg6 rfl fun x1 hx1 => ?_
  conv => arg 3; whnf
  refine Ze rfl ?_ ?_
  ·conv => arg 3; whnf
   exact Zf rfl
  ·conv => arg 3; whnf
   refine Zl _ Zf8 rfl fun x2 hx2 => ?_
   conv => arg 3; whnf
   exact Zf rfl
def Zjg (r : Bool) : D := (D.bool r)
theorem ZlS {a : ZK} : ∀ r, (Zd3 a) = some r → evD ctx 85 [(.d (D.agg [(Zb a.op), (Zb a.arg), (Zb a.work)]))] = some (Zjg r) := by
 show ZQ _ (fun r rhs => rhs = some (Zjg r)) _
 unfold Zd3
 rw [Zbl ctx 85 ZvN _ rfl rfl]
 conv => arg 3; whnf
 refine Zl _ ZbJ rfl fun x0 hx0 => ?_
 conv => arg 3; whnf
 refine Ze rfl ?_ ?_
 ·conv => arg 3; whnf
  refine Zl _ ZbJ rfl fun x1 hx1 => ?_
  conv => arg 3; whnf
  refine Ze rfl ?_ ?_
  ·conv => arg 3; whnf
   refine Zl _ ZbJ rfl fun x2 hx2 => ?_
   conv => arg 3; whnf
   refine Ze rfl ?_ ?_
   ·conv => arg 3; whnf
    exact Zf rfl
   ·conv => arg 3; whnf
    exact Zf rfl
  ·conv => arg 3; whnf
   exact Zf rfl
 ·conv => arg 3; whnf
  exact Zf rfl
def Zca (r : Int) : D := (Zb r)
def ZbT (t0 : Bool) (a : (List ZK)) : (Int ⊕ Unit) → Ex × List V × Zk
  | (.inl r) => (.ret, [(.d (Zb r))], [])
  | (.inr r) => (.exit 0, [.bad], [])
theorem ZdM {t0 : Bool} {a : (List ZK)} : ∀ (s0 : Int) (r : (Int ⊕ Unit)), lp (ZaG a (fun z0 => Zd3 z0)) s0 = some r → lpW ctx 0 [0, 1, 7, 8] [4] ZqR [(.d (D.list t0 (List.map ZV a))), (.d (D.fn 85 [])), (.d (Zb (a.length : Int))), (.d (Zb s0))] [] = some ((ZbT t0 a) r) := by
 refine ZaY (ZbT t0 a) ?_
 intro s0 rcl ih
 show ZQ _ _ (lpW _ _ _ _ _ _ _)
 unfold ZaG
 rw [ZaX]
 conv => arg 3; whnf
 refine Ze rfl ?_ ?_
 ·conv => arg 3; whnf
  refine Zj rfl rfl fun x1 hx1 => ?_
  conv => arg 3; whnf
  refine Zl _ ZlS rfl fun x2 hx2 => ?_
  conv => arg 3; whnf
  refine Ze rfl ?_ ?_
  ·conv => arg 3; whnf
   exact Zf rfl
  ·conv => arg 3; whnf
   exact Zd (ih _)
 ·conv => arg 3; whnf
  exact Zf rfl
theorem ZdY {t0 : Bool} {a : (List ZK)} : ∀ r, (ZbH a (fun z0 => Zd3 z0)) = some r → evD ctx 112 [(.d (D.list t0 (List.map ZV a))), (.d (D.fn 85 []))] = some (Zca r) := by
 show ZQ _ (fun r rhs => rhs = some (Zca r)) _
 unfold ZbH
 rw [Zbl ctx 112 ZtA _ rfl rfl]
 conv => arg 3; whnf
 refine Zo (ZG _ _) ?_
 conv => arg 3; whnf
 refine Zc _ (ZdM _) fun r3 hr3 => ?_
 clear hr3
 rcases r3 with r3 | r3
 ·conv => arg 3; whnf
  exact Zf rfl
 ·conv => arg 3; whnf
  exact Zf rfl
def ZbV (r : Bool) : D := (D.bool r)
theorem ZdL {t0 : Bool} {a : (List ZK)} : ∀ r, (ZaF a (fun z0 => Zd3 z0)) = some r → evD ctx 84 [(.d (D.list t0 (List.map ZV a))), (.d (D.fn 85 []))] = some (ZbV r) := by
 show ZQ _ (fun r rhs => rhs = some (ZbV r)) _
 unfold ZaF
 rw [Zbl ctx 84 ZvA _ rfl rfl]
 conv => arg 3; whnf
 refine Zl _ ZdY rfl fun x0 hx0 => ?_
 conv => arg 3; whnf
 refine Ze rfl ?_ ?_
 ·conv => arg 3; whnf
  exact Zf rfl
 ·conv => arg 3; whnf
  exact Zf rfl
def Zkf (r : Bool) : D := (D.bool r)
theorem Zjr {t0 : Bool} {t1 : Bool} {t2 : Bool} {t3 : Bool} {a : Zm} {b : Int} {c : Int} : ∀ r, (Zfo a b c) = some r → evD ctx 86 [(.d (D.agg (dA t0 t1 t2 t3 a))), (.d (Zb b)), (.d (Zb c))] = some (Zkf r) := by
 show ZQ _ (fun r rhs => rhs = some (Zkf r)) _
 unfold Zfo
 rw [Zbl ctx 86 Zu9 _ rfl rfl]
 conv => arg 3; whnf
 refine Ze rfl ?_ ?_
 ·conv => arg 3; whnf
  refine Zo (ZG _ _) ?_
  conv => arg 3; whnf
  refine Zl _ ZbJ rfl fun x0 hx0 => ?_
  conv => arg 3; whnf
  refine Ze rfl ?_ ?_
  ·conv => arg 3; whnf
   refine Zo (ZG _ _) ?_
   conv => arg 3; whnf
   refine Zl _ ZbJ rfl fun x1 hx1 => ?_
   conv => arg 3; whnf
   refine Ze rfl ?_ ?_
   ·conv => arg 3; whnf
    exact Zf rfl
   ·conv => arg 3; whnf
    exact Zf rfl
  ·conv => arg 3; whnf
   exact Zf rfl
 ·conv => arg 3; whnf
  exact Zf rfl
def Zea (r : Int) : D := (Zb r)
def ZdT (t0 : Bool) (a : (List ZJ)) (b : ZJ) : (Int ⊕ Unit) → Ex × List V × Zk
  | (.inl r) => (.ret, [(.d (Zb r))], [])
  | (.inr r) => (.exit 0, [.bad], [])
theorem Zfn {t0 : Bool} {a : (List ZJ)} {b : ZJ} : ∀ (s0 : Int) (r : (Int ⊕ Unit)), lp (Za6 a b) s0 = some r → lpW ctx 0 [0, 3, 7, 8] [4] ZqU [(.d (D.list t0 (List.map ZS a))), (.ptr 0 0), (.d (Zb (a.length : Int))), (.d (Zb s0))] [(.cells [(.d (Zb b.src)), (.d (Zb b.dst))])] = some ((ZdT t0 a b) r) := by
 refine ZaY (ZdT t0 a b) ?_
 intro s0 rcl ih
 show ZQ _ _ (lpW _ _ _ _ _ _ _)
 unfold Za6
 rw [ZaX]
 conv => arg 3; whnf
 refine Ze rfl ?_ ?_
 ·conv => arg 3; whnf
  refine Zj rfl rfl fun x1 hx1 => ?_
  conv => arg 3; whnf
  refine Ze rfl ?_ ?_
  ·conv => arg 3; whnf
   exact Zf rfl
  ·conv => arg 3; whnf
   exact Zd (ih _)
 ·conv => arg 3; whnf
  exact Zf rfl
theorem ZfF {t0 : Bool} {a : (List ZJ)} {b : ZJ} : ∀ r, (Zcb a b) = some r → evD ctx 113 [(.d (D.list t0 (List.map ZS a))), (.d (D.agg [(Zb b.src), (Zb b.dst)]))] = some (Zea r) := by
 show ZQ _ (fun r rhs => rhs = some (Zea r)) _
 unfold Zcb
 rw [Zbl ctx 113 ZrX _ rfl rfl]
 conv => arg 3; whnf
 refine Zo (ZG _ _) ?_
 conv => arg 3; whnf
 refine Zc _ (Zfn _) fun r2 hr2 => ?_
 clear hr2
 rcases r2 with r2 | r2
 ·conv => arg 3; whnf
  exact Zf rfl
 ·conv => arg 3; whnf
  exact Zf rfl
def ZdS (r : Bool) : D := (D.bool r)
theorem Ze8 {t0 : Bool} {a : (List ZJ)} {b : ZJ} : ∀ r, (Za5 a b) = some r → evD ctx 87 [(.d (D.list t0 (List.map ZS a))), (.d (D.agg [(Zb b.src), (Zb b.dst)]))] = some (ZdS r) := by
 show ZQ _ (fun r rhs => rhs = some (ZdS r)) _
 unfold Za5
 rw [Zbl ctx 87 Zwa _ rfl rfl]
 conv => arg 3; whnf
 refine Zl _ ZfF rfl fun x0 hx0 => ?_
 conv => arg 3; whnf
 refine Ze rfl ?_ ?_
 ·conv => arg 3; whnf
  exact Zf rfl
 ·conv => arg 3; whnf
  exact Zf rfl
def Zhe (r : Bool) : D := (D.bool r)
theorem Zj3 {a : Zq} {b0 : Int} {b1 : Int} {b2 : Int} : ∀ r, (ZcH a b1 b2) = some r → evD ctx 88 [(.d (D.agg [(Zb a.maker), (Zb a.user), (Zb a.pos)])), (.d (D.rptr [(Zb b0), (Zb b1), (Zb b2)]))] = some (Zhe r) := by
 show ZQ _ (fun r rhs => rhs = some (Zhe r)) _
 unfold ZcH
 rw [Zbl ctx 88 Zv1 _ rfl rfl]
 conv => arg 3; whnf
 refine Ze rfl ?_ ?_
 ·conv => arg 3; whnf
  refine Ze rfl ?_ ?_
  ·conv => arg 3; whnf
   exact Zf rfl
  ·conv => arg 3; whnf
   exact Zf rfl
 ·conv => arg 3; whnf
  exact Zf rfl
def ZbA (r : Int) : D := (Zb r)
def Zbj (t0 : Bool) (a : (List Zq)) (b0 : Int) (b1 : Int) (b2 : Int) : (Int ⊕ Unit) → Ex × List V × Zk
  | (.inl r) => (.ret, [(.d (Zb r))], [])
  | (.inr r) => (.exit 0, [.bad], [])
theorem ZcV {t0 : Bool} {a : (List Zq)} {b0 : Int} {b1 : Int} {b2 : Int} : ∀ (s0 : Int) (r : (Int ⊕ Unit)), lp (ZX a (fun z0 => ZcH z0 b1 b2)) s0 = some r → lpW ctx 0 [0, 1, 7, 8] [4] ZnU [(.d (D.list t0 (List.map Zu a))), (.d (D.fn 88 [(D.rptr [(Zb b0), (Zb b1), (Zb b2)])])), (.d (Zb (a.length : Int))), (.d (Zb s0))] [] = some ((Zbj t0 a b0 b1 b2) r) := by
 refine ZaY (Zbj t0 a b0 b1 b2) ?_
 intro s0 rcl ih
 show ZQ _ _ (lpW _ _ _ _ _ _ _)
 unfold ZX
 rw [ZaX]
 conv => arg 3; whnf
 refine Ze rfl ?_ ?_
 ·conv => arg 3; whnf
  refine Zj rfl rfl fun x1 hx1 => ?_
  conv => arg 3; whnf
  refine Zl _ Zj3 rfl fun x2 hx2 => ?_
  conv => arg 3; whnf
  refine Ze rfl ?_ ?_
  ·conv => arg 3; whnf
   exact Zf rfl
  ·conv => arg 3; whnf
   exact Zd (ih _)
 ·conv => arg 3; whnf
  exact Zf rfl
theorem Zdj {t0 : Bool} {a : (List Zq)} {b0 : Int} {b1 : Int} {b2 : Int} : ∀ r, (Zai a (fun z0 => ZcH z0 b1 b2)) = some r → evD ctx 114 [(.d (D.list t0 (List.map Zu a))), (.d (D.fn 88 [(D.rptr [(Zb b0), (Zb b1), (Zb b2)])]))] = some (ZbA r) := by
 show ZQ _ (fun r rhs => rhs = some (ZbA r)) _
 unfold Zai
 rw [Zbl ctx 114 ZqF _ rfl rfl]
 conv => arg 3; whnf
 refine Zo (ZG _ _) ?_
 conv => arg 3; whnf
 refine Zc _ (ZcV _) fun r3 hr3 => ?_
 clear hr3
 rcases r3 with r3 | r3
 ·conv => arg 3; whnf
  exact Zf rfl
 ·conv => arg 3; whnf
  exact Zf rfl
def Zbi (r : Bool) : D := (D.bool r)
theorem ZcY {t0 : Bool} {a : (List Zq)} {b0 : Int} {b1 : Int} {b2 : Int} : ∀ r, (ZP a (fun z0 => ZcH z0 b1 b2)) = some r → evD ctx 89 [(.d (D.list t0 (List.map Zu a))), (.d (D.fn 88 [(D.rptr [(Zb b0), (Zb b1), (Zb b2)])]))] = some (Zbi r) := by
 show ZQ _ (fun r rhs => rhs = some (Zbi r)) _
 unfold ZP
 rw [Zbl ctx 89 Zua _ rfl rfl]
 conv => arg 3; whnf
 refine Zl _ Zdj rfl fun x0 hx0 => ?_
 conv => arg 3; whnf
 refine Ze rfl ?_ ?_
 ·conv => arg 3; whnf
  exact Zf rfl
 ·conv => arg 3; whnf
  exact Zf rfl
def ZjX (r : Bool) : D := (D.bool r)
def Zic (t0 : Bool) (t1 : Bool) (t2 : Bool) (t3 : Bool) (t4 : Bool) (a : Zm) (b : (List Int)) : (Unit ⊕ Unit) → Ex × List V × Zk
  | (.inl r) => (.ret, [(.d (D.list t4 (List.map Zb b))), (.d (D.bool false))], [])
  | (.inr r) => (.exit 0, [(.d (D.list t4 (List.map Zb b))), .bad], [])
theorem ZkL {t0 : Bool} {t1 : Bool} {t2 : Bool} {t3 : Bool} {t4 : Bool} {a : Zm} {b : (List Int)} : ∀ (s0 : Int) (r : (Unit ⊕ Unit)), lp (Zef a b) s0 = some r → lpW ctx 0 [1, 2, 7, 8, 9] [1, 4] ZrP [(.d (D.list t4 (List.map Zb b))), (.ptr 0 0), (.d (D.list t4 (List.map Zb b))), (.d (Zb (b.length : Int))), (.d (Zb s0))] [(.cells (dV t0 t1 t2 t3 a))] = some ((Zic t0 t1 t2 t3 t4 a b) r) := by
 refine ZaY (Zic t0 t1 t2 t3 t4 a b) ?_
 intro s0 rcl ih
 show ZQ _ _ (lpW _ _ _ _ _ _ _)
 unfold Zef
 rw [ZaX]
 conv => arg 3; whnf
 refine Ze rfl ?_ ?_
 ·conv => arg 3; whnf
  refine Zj rfl rfl fun x1 hx1 => ?_
  conv => arg 3; whnf
  refine Zo (ZG _ _) ?_
  conv => arg 3; whnf
  refine Zl _ ZbJ rfl fun x2 hx2 => ?_
  conv => arg 3; whnf
  refine Ze rfl ?_ ?_
  ·conv => arg 3; whnf
   refine Ze rfl ?_ ?_
   ·conv => arg 3; whnf
    refine Zj rfl rfl fun x3 hx3 => ?_
    conv => arg 3; whnf
    refine Ze rfl ?_ ?_
    ·conv => arg 3; whnf
     exact Zf rfl
    ·conv => arg 3; whnf
     exact Zd (ih _)
   ·conv => arg 3; whnf
    exact Zd (ih _)
  ·conv => arg 3; whnf
   exact Zf rfl
 ·conv => arg 3; whnf
  exact Zf rfl
theorem Zje {t0 : Bool} {t1 : Bool} {t2 : Bool} {t3 : Bool} {t4 : Bool} {a : Zm} {b : (List Int)} : ∀ r, (ZfA a b) = some r → evD ctx 92 [(.d (D.agg (dA t0 t1 t2 t3 a))), (.d (D.list t4 (List.map Zb b)))] = some (ZjX r) := by
 show ZQ _ (fun r rhs => rhs = some (ZjX r)) _
 unfold ZfA
 rw [Zbl ctx 92 Zvq _ rfl rfl]
 conv => arg 3; whnf
 refine Zo (ZG _ _) ?_
 conv => arg 3; whnf
 refine Zc _ (ZkL _) fun r4 hr4 => ?_
 clear hr4
 rcases r4 with r4 | r4
 ·conv => arg 3; whnf
  exact Zf rfl
 ·conv => arg 3; whnf
  refine Zo (ZG _ _) ?_
  conv => arg 3; whnf
  refine Ze rfl ?_ ?_
  ·conv => arg 3; whnf
   exact Zf rfl
  ·conv => arg 3; whnf
   exact Zf rfl
def Zex (r : Int) : D := (Zb r)
def Zd1 (t0 : Bool) (a : (List Int)) (b : Int) : (Int ⊕ Unit) → Ex × List V × Zk
  | (.inl r) => (.ret, [(.d (Zb r))], [])
  | (.inr r) => (.exit 0, [.bad], [])
theorem Zfy {t0 : Bool} {a : (List Int)} {b : Int} : ∀ (s0 : Int) (r : (Int ⊕ Unit)), lp (Zbq a b) s0 = some r → lpW ctx 0 [0, 1, 7, 8] [4] Zqm [(.d (D.list t0 (List.map Zb a))), (.d (Zb b)), (.d (Zb (a.length : Int))), (.d (Zb s0))] [] = some ((Zd1 t0 a b) r) := by
 refine ZaY (Zd1 t0 a b) ?_
 intro s0 rcl ih
 show ZQ _ _ (lpW _ _ _ _ _ _ _)
 unfold Zbq
 rw [ZaX]
 conv => arg 3; whnf
 refine Ze rfl ?_ ?_
 ·conv => arg 3; whnf
  refine Zj rfl rfl fun x1 hx1 => ?_
  conv => arg 3; whnf
  refine Ze rfl ?_ ?_
  ·conv => arg 3; whnf
   exact Zf rfl
  ·conv => arg 3; whnf
   exact Zd (ih _)
 ·conv => arg 3; whnf
  exact Zf rfl
theorem Zgn {t0 : Bool} {a : (List Int)} {b : Int} : ∀ r, (Zcz a b) = some r → evD ctx 115 [(.d (D.list t0 (List.map Zb a))), (.d (Zb b))] = some (Zex r) := by
 show ZQ _ (fun r rhs => rhs = some (Zex r)) _
 unfold Zcz
 rw [Zbl ctx 115 ZsV _ rfl rfl]
 conv => arg 3; whnf
 refine Zo (ZG _ _) ?_
 conv => arg 3; whnf
 refine Zc _ (Zfy _) fun r2 hr2 => ?_
 clear hr2
 rcases r2 with r2 | r2
 ·conv => arg 3; whnf
  exact Zf rfl
 ·conv => arg 3; whnf
  exact Zf rfl
def Zd2 (r : Bool) : D := (D.bool r)
theorem ZdZ {t0 : Bool} {a : (List Int)} {b : Int} : ∀ r, (ZaQ a b) = some r → evD ctx 91 [(.d (D.list t0 (List.map Zb a))), (.d (Zb b))] = some (Zd2 r) := by
 show ZQ _ (fun r rhs => rhs = some (Zd2 r)) _
 unfold ZaQ
 rw [Zbl ctx 91 Zu4 _ rfl rfl]
 conv => arg 3; whnf
 refine Zl _ Zgn rfl fun x0 hx0 => ?_
 conv => arg 3; whnf
 refine Ze rfl ?_ ?_
 ·conv => arg 3; whnf
  exact Zf rfl
 ·conv => arg 3; whnf
  exact Zf rfl
def Zhv (r : Bool) : D := (D.bool r)
theorem Zke {t0 : Bool} {t1 : Bool} {a : Int} {b0 : (List Int)} {b1 : (List Int)} : ∀ r, (ZcG a b1) = some r → evD ctx 90 [(.d (Zb a)), (.d (D.rptr [(D.list t0 (List.map Zb b0)), (D.list t1 (List.map Zb b1))]))] = some (Zhv r) := by
 show ZQ _ (fun r rhs => rhs = some (Zhv r)) _
 unfold ZcG
 rw [Zbl ctx 90 Zvu _ rfl rfl]
 conv => arg 3; whnf
 refine Zl _ ZdZ rfl fun x0 hx0 => ?_
 conv => arg 3; whnf
 refine Ze rfl ?_ ?_
 ·conv => arg 3; whnf
  exact Zf rfl
 ·conv => arg 3; whnf
  exact Zf rfl
def Zb7 (r : Int) : D := (Zb r)
def ZbQ (t0 : Bool) (t1 : Bool) (t2 : Bool) (a : (List Int)) (b0 : (List Int)) (b1 : (List Int)) : (Int ⊕ Unit) → Ex × List V × Zk
  | (.inl r) => (.ret, [(.d (Zb r))], [])
  | (.inr r) => (.exit 0, [.bad], [])
theorem ZdA {t0 : Bool} {t1 : Bool} {t2 : Bool} {a : (List Int)} {b0 : (List Int)} {b1 : (List Int)} : ∀ (s0 : Int) (r : (Int ⊕ Unit)), lp (ZaS a (fun z0 => ZcG z0 b1)) s0 = some r → lpW ctx 0 [0, 1, 7, 8] [4] ZqQ [(.d (D.list t0 (List.map Zb a))), (.d (D.fn 90 [(D.rptr [(D.list t1 (List.map Zb b0)), (D.list t2 (List.map Zb b1))])])), (.d (Zb (a.length : Int))), (.d (Zb s0))] [] = some ((ZbQ t0 t1 t2 a b0 b1) r) := by
 refine ZaY (ZbQ t0 t1 t2 a b0 b1) ?_
 intro s0 rcl ih
 show ZQ _ _ (lpW _ _ _ _ _ _ _)
 unfold ZaS
 rw [ZaX]
 conv => arg 3; whnf
 refine Ze rfl ?_ ?_
 ·conv => arg 3; whnf
  refine Zj rfl rfl fun x1 hx1 => ?_
  conv => arg 3; whnf
  refine Zl _ Zke rfl fun x2 hx2 => ?_
  conv => arg 3; whnf
  refine Ze rfl ?_ ?_
  ·conv => arg 3; whnf
   exact Zf rfl
  ·conv => arg 3; whnf
   exact Zd (ih _)
 ·conv => arg 3; whnf
  exact Zf rfl
theorem ZdU {t0 : Bool} {t1 : Bool} {t2 : Bool} {a : (List Int)} {b0 : (List Int)} {b1 : (List Int)} : ∀ r, (ZbX a (fun z0 => ZcG z0 b1)) = some r → evD ctx 116 [(.d (D.list t0 (List.map Zb a))), (.d (D.fn 90 [(D.rptr [(D.list t1 (List.map Zb b0)), (D.list t2 (List.map Zb b1))])]))] = some (Zb7 r) := by
 show ZQ _ (fun r rhs => rhs = some (Zb7 r)) _
 unfold ZbX
 rw [Zbl ctx 116 Zs2 _ rfl rfl]
 conv => arg 3; whnf
 refine Zo (ZG _ _) ?_
 conv => arg 3; whnf
 refine Zc _ (ZdA _) fun r3 hr3 => ?_
 clear hr3
 rcases r3 with r3 | r3
 ·conv => arg 3; whnf
  exact Zf rfl
 ·conv => arg 3; whnf
  exact Zf rfl
def ZbP (r : Bool) : D := (D.bool r)
theorem Zdz {t0 : Bool} {t1 : Bool} {t2 : Bool} {a : (List Int)} {b0 : (List Int)} {b1 : (List Int)} : ∀ r, (ZaR a (fun z0 => ZcG z0 b1)) = some r → evD ctx 93 [(.d (D.list t0 (List.map Zb a))), (.d (D.fn 90 [(D.rptr [(D.list t1 (List.map Zb b0)), (D.list t2 (List.map Zb b1))])]))] = some (ZbP r) := by
 show ZQ _ (fun r rhs => rhs = some (ZbP r)) _
 unfold ZaR
 rw [Zbl ctx 93 ZvO _ rfl rfl]
 conv => arg 3; whnf
 refine Zl _ ZdU rfl fun x0 hx0 => ?_
 conv => arg 3; whnf
 refine Ze rfl ?_ ?_
 ·conv => arg 3; whnf
  exact Zf rfl
 ·conv => arg 3; whnf
  exact Zf rfl
def Zis (r : Int) : D := (Zb r)
def Zg4 (t0 : Bool) (t1 : Bool) (t2 : Bool) (t3 : Bool) (a : Zm) : (Unit ⊕ Unit) → Ex × List V × Zk
  | (.inl r) => (.ret, [(.ptr 0 0), (.d (Zb 53))], [(.cells (dV t0 t1 t2 t3 a))])
  | (.inr r) => (.exit 0, [(.ptr 0 0), .bad], [(.cells (dV t0 t1 t2 t3 a))])
theorem Zjx {t0 : Bool} {t1 : Bool} {t2 : Bool} {t3 : Bool} {a : Zm} : ∀ (s4 : Int) (r : (Unit ⊕ Unit)), lp (ZcW a) s4 = some r → lpW ctx 0 [1, 61, 62, 63] [1, 2] Zr4 [(.ptr 0 0), (.d (D.list t1 (List.map ZS a.edges))), (.d (Zb (a.edges.length : Int))), (.d (Zb s4))] [(.cells (dV t0 t1 t2 t3 a))] = some ((Zg4 t0 t1 t2 t3 a) r) := by
 refine ZaY (Zg4 t0 t1 t2 t3 a) ?_
 intro s4 rcl ih
 show ZQ _ _ (lpW _ _ _ _ _ _ _)
 unfold ZcW
 rw [ZaX]
 conv => arg 3; whnf
 refine Ze rfl ?_ ?_
 ·conv => arg 3; whnf
  refine Zj rfl rfl fun x5 hx5 => ?_
  conv => arg 3; whnf
  refine Zl _ Zjr rfl fun x6 hx6 => ?_
  conv => arg 3; whnf
  refine Ze rfl ?_ ?_
  ·conv => arg 3; whnf
   refine Ze rfl ?_ ?_
   ·conv => arg 3; whnf
    refine Ze (ZuH ZS a.edges s4.toNat) ?_ ?_
    ·conv => arg 3; whnf
     refine Zcy rfl ?_
     conv => arg 3; whnf
     refine Zo (Zqc ZS a.edges s4.toNat) ?_
     conv => arg 3; whnf
     refine Zl _ Ze8 rfl fun x7 hx7 => ?_
     conv => arg 3; whnf
     refine Ze rfl ?_ ?_
     ·conv => arg 3; whnf
      exact Zf rfl
     ·conv => arg 3; whnf
      exact Zd (ih _)
    ·exact ZaA
   ·exact ZaA
  ·conv => arg 3; whnf
   exact Zf rfl
 ·conv => arg 3; whnf
  exact Zf rfl
def ZgN (t0 : Bool) (t1 : Bool) (t2 : Bool) (t3 : Bool) (a : Zm) : (Unit ⊕ Unit) → Ex × List V × Zk
  | (.inl r) => (.ret, [(.ptr 0 0), (.d (Zb 54))], [(.cells (dV t0 t1 t2 t3 a))])
  | (.inr r) => (.exit 2, [(.ptr 0 0), .bad], [(.cells (dV t0 t1 t2 t3 a))])
theorem ZjG {t0 : Bool} {t1 : Bool} {t2 : Bool} {t3 : Bool} {a : Zm} : ∀ (s9 : Int) (r : (Unit ⊕ Unit)), lp (Zc1 a) s9 = some r → lpW ctx 0 [1, 85, 86, 87] [1, 2] Zte [(.ptr 0 0), (.d (D.list t2 (List.map Zu a.futures))), (.d (Zb (a.futures.length : Int))), (.d (Zb s9))] [(.cells (dV t0 t1 t2 t3 a))] = some ((ZgN t0 t1 t2 t3 a) r) := by
 refine ZaY (ZgN t0 t1 t2 t3 a) ?_
 intro s9 rcl ih
 show ZQ _ _ (lpW _ _ _ _ _ _ _)
 unfold Zc1
 rw [ZaX]
 conv => arg 3; whnf
 refine Ze rfl ?_ ?_
 ·conv => arg 3; whnf
  refine Zj rfl rfl fun x10 hx10 => ?_
  conv => arg 3; whnf
  refine Zl _ Zjr rfl fun x11 hx11 => ?_
  conv => arg 3; whnf
  refine Ze rfl ?_ ?_
  ·conv => arg 3; whnf
   refine Zj rfl rfl fun x12 hx12 => ?_
   conv => arg 3; whnf
   refine Zl _ ZbJ rfl fun x13 hx13 => ?_
   conv => arg 3; whnf
   refine Ze rfl ?_ ?_
   ·conv => arg 3; whnf
    refine Ze rfl ?_ ?_
    ·conv => arg 3; whnf
     refine Ze (ZuH Zu a.futures s9.toNat) ?_ ?_
     ·conv => arg 3; whnf
      refine Zcy rfl ?_
      conv => arg 3; whnf
      refine Zo (Zqc Zu a.futures s9.toNat) ?_
      conv => arg 3; whnf
      refine Zl _ ZcY rfl fun x14 hx14 => ?_
      conv => arg 3; whnf
      refine Ze rfl ?_ ?_
      ·conv => arg 3; whnf
       exact Zf rfl
      ·conv => arg 3; whnf
       exact Zd (ih _)
     ·exact ZaA
    ·exact ZaA
   ·conv => arg 3; whnf
    exact Zf rfl
  ·conv => arg 3; whnf
   exact Zf rfl
 ·conv => arg 3; whnf
  exact Zf rfl
def ZgR (t0 : Bool) (t1 : Bool) (t2 : Bool) (t3 : Bool) (a : Zm) : (Unit ⊕ Unit) → Ex × List V × Zk
  | (.inl r) => (.ret, [(.d (Zb 55))], [])
  | (.inr r) => (.exit 4, [.bad], [])
theorem ZjB {t0 : Bool} {t1 : Bool} {t2 : Bool} {t3 : Bool} {a : Zm} : ∀ (s16 : Int) (r : (Unit ⊕ Unit)), lp (ZcZ a) s16 = some r → lpW ctx 0 [1, 124, 125, 126] [2] Ztf [(.ptr 0 0), (.d (D.list t3 (List.map Zs a.barriers))), (.d (Zb (a.barriers.length : Int))), (.d (Zb s16))] [(.cells (dV t0 t1 t2 t3 a))] = some ((ZgR t0 t1 t2 t3 a) r) := by
 refine ZaY (ZgR t0 t1 t2 t3 a) ?_
 intro s16 rcl ih
 show ZQ _ _ (lpW _ _ _ _ _ _ _)
 unfold ZcZ
 rw [ZaX]
 conv => arg 3; whnf
 refine Ze rfl ?_ ?_
 ·conv => arg 3; whnf
  refine Zj rfl rfl fun x17 hx17 => ?_
  conv => arg 3; whnf
  refine Zl _ Zje rfl fun x18 hx18 => ?_
  conv => arg 3; whnf
  refine Ze rfl ?_ ?_
  ·conv => arg 3; whnf
   refine Zl _ Zje rfl fun x19 hx19 => ?_
   conv => arg 3; whnf
   refine Ze rfl ?_ ?_
   ·conv => arg 3; whnf
    refine Zl _ Zdz rfl fun x20 hx20 => ?_
    conv => arg 3; whnf
    refine Ze rfl ?_ ?_
    ·conv => arg 3; whnf
     exact Zf rfl
    ·conv => arg 3; whnf
     exact Zd (ih _)
   ·conv => arg 3; whnf
    exact Zf rfl
  ·conv => arg 3; whnf
   exact Zf rfl
 ·conv => arg 3; whnf
  exact Zf rfl
theorem ZeS {t0 : Bool} {t1 : Bool} {t2 : Bool} {t3 : Bool} {a : Zm} : ∀ r, (ZdJ a) = some r → evD ctx 55 [(.d (D.agg (dA t0 t1 t2 t3 a)))] = some (Zis r) := by
 show ZQ _ (fun r rhs => rhs = some (Zis r)) _
 unfold ZdJ
 rw [Zbl ctx 55 ZvE _ rfl rfl]
 conv => arg 3; whnf
 refine Zo (ZG _ _) ?_
 conv => arg 3; whnf
 refine Zl _ ZbJ rfl fun x0 hx0 => ?_
 conv => arg 3; whnf
 refine Ze rfl ?_ ?_
 ·conv => arg 3; whnf
  refine Zo (ZG _ _) ?_
  conv => arg 3; whnf
  refine Ze rfl ?_ ?_
  ·conv => arg 3; whnf
   exact Zf rfl
  ·conv => arg 3; whnf
   refine Zo (ZG _ _) ?_
   conv => arg 3; whnf
   refine Ze rfl ?_ ?_
   ·conv => arg 3; whnf
    exact Zf rfl
   ·conv => arg 3; whnf
    refine Zo (ZG _ _) ?_
    conv => arg 3; whnf
    refine Ze rfl ?_ ?_
    ·conv => arg 3; whnf
     exact Zf rfl
    ·conv => arg 3; whnf
     refine Zl _ ZnW rfl fun x1 hx1 => ?_
     conv => arg 3; whnf
     refine Ze rfl ?_ ?_
     ·conv => arg 3; whnf
      refine Ze rfl ?_ ?_
      ·conv => arg 3; whnf
       exact Zf rfl
      ·conv => arg 3; whnf
       refine Zl _ ZbJ rfl fun x2 hx2 => ?_
       conv => arg 3; whnf
       refine Ze rfl ?_ ?_
       ·conv => arg 3; whnf
        refine Zl _ ZdL rfl fun x3 hx3 => ?_
        conv => arg 3; whnf
        refine Ze rfl ?_ ?_
        ·conv => arg 3; whnf
         exact Zf rfl
        ·conv => arg 3; whnf
         refine Zo (ZG _ _) ?_
         conv => arg 3; whnf
         refine Zc _ (Zjx _) fun r8 hr8 => ?_
         clear hr8
         rcases r8 with r8 | r8
         ·conv => arg 3; whnf
          exact Zf rfl
         ·conv => arg 3; whnf
          refine Zo (ZG _ _) ?_
          conv => arg 3; whnf
          refine Zc _ (ZjG _) fun r15 hr15 => ?_
          clear hr15
          rcases r15 with r15 | r15
          ·conv => arg 3; whnf
           exact Zf rfl
          ·conv => arg 3; whnf
           refine Zo (ZG _ _) ?_
           conv => arg 3; whnf
           refine Zc _ (ZjB _) fun r21 hr21 => ?_
           clear hr21
           rcases r21 with r21 | r21
           ·conv => arg 3; whnf
            exact Zf rfl
           ·conv => arg 3; whnf
            exact Zf rfl
       ·conv => arg 3; whnf
        exact Zf rfl
     ·conv => arg 3; whnf
      exact Zf rfl
 ·conv => arg 3; whnf
  exact Zf rfl
def ZiE (r : (Zr × Int)) : D := (D.tup [(D.agg [(D.list true (List.map Zb r.1.work)), (D.list true (List.map Zb r.1.vals))]), (Zb r.2)])
theorem Zlh {t0 : Bool} {t1 : Bool} {t2 : Bool} {t3 : Bool} {a : Zm} : ∀ r, (Zfh a) = some r → evD ctx 35 [(.d (D.agg (dA t0 t1 t2 t3 a)))] = some (ZiE r) := by
 show ZQ _ (fun r rhs => rhs = some (ZiE r)) _
 unfold Zfh
 rw [Zbl ctx 35 Zvs _ rfl rfl]
 conv => arg 3; whnf
 refine Zl _ ZeS rfl fun x0 hx0 => ?_
 conv => arg 3; whnf
 refine Ze rfl ?_ ?_
 ·conv => arg 3; whnf
  exact Zf rfl
 ·conv => arg 3; whnf
  refine Zo (ZG _ _) ?_
  conv => arg 3; whnf
  refine Ze rfl ?_ ?_
  ·conv => arg 3; whnf
   refine Zo (ZqM Zb (0 : Int) (a.parts.length : Int)) ?_
   conv => arg 3; whnf
   refine Zo (ZG _ _) ?_
   conv => arg 3; whnf
   refine Ze rfl ?_ ?_
   ·conv => arg 3; whnf
    refine Zo (ZqM Zb (0 : Int) (a.parts.length : Int)) ?_
    conv => arg 3; whnf
    exact Zf rfl
   ·exact ZaA
  ·exact ZaA
def Zjk (t0 : Bool) (t1 : Bool) (a : Zr) : Unit → V × Zk
  | r => ((.agg [(.sl 0 1), (.sl 1 1)]), [(.arr 1 (List.map Zb a.work)), (.arr 1 (List.map Zb a.vals))])
theorem Zdp {t0 : Bool} {t1 : Bool} {a : Zr} : ∀ r, (ZcK a) = some r → evW ctx 25 [(.d (D.agg [(D.list t0 (List.map Zb a.work)), (D.list t1 (List.map Zb a.vals))]))] [] = some ((Zjk t0 t1 a) r) := by
 show ZQ _ (fun r rhs => rhs = some ((Zjk t0 t1 a) r)) _
 unfold ZcK
 rw [Zfc ctx 25 Zvw _ _ rfl rfl]
 conv => arg 3; whnf
 refine Zcy (Zff (f := Zb) (fun _ => ⟨rfl, rfl⟩) a.work 0) ?_
 conv => arg 3; whnf
 refine Ze (Ze9 Zb a.work) ?_ ?_
 ·conv => arg 3; whnf
  refine Zo (rfl : _ = List.map Zb a.work) ?_
  conv => arg 3; whnf
  refine Zcy (Zff (f := Zb) (fun _ => ⟨rfl, rfl⟩) a.vals 0) ?_
  conv => arg 3; whnf
  refine Ze (Ze9 Zb a.vals) ?_ ?_
  ·conv => arg 3; whnf
   refine Zo (rfl : _ = List.map Zb a.vals) ?_
   conv => arg 3; whnf
   exact Zf rfl
  ·exact ZaA
 ·exact ZaA
def Zh8 (r : Bool) : D := (D.bool r)
theorem ZbI {t0 : Bool} {t1 : Bool} {t2 : Bool} {t3 : Bool} {t4 : Bool} {t5 : Bool} {a : Zm} {b : Zr} {c : Int} : ∀ r, (Za4 a b c) = some r → evD ctx 46 [(.d (D.agg (dA t0 t1 t2 t3 a))), (.d (D.agg [(D.list t4 (List.map Zb b.work)), (D.list t5 (List.map Zb b.vals))])), (.d (Zb c))] = some (Zh8 r) := by
 show ZQ _ (fun r rhs => rhs = some (Zh8 r)) _
 unfold Za4
 rw [Zbl ctx 46 Zwb _ rfl rfl]
 conv => arg 3; whnf
 refine Zj rfl rfl fun x0 hx0 => ?_
 conv => arg 3; whnf
 refine Zj rfl rfl fun x1 hx1 => ?_
 conv => arg 3; whnf
 refine Ze rfl ?_ ?_
 ·conv => arg 3; whnf
  exact Zf rfl
 ·conv => arg 3; whnf
  exact Zf rfl
def ZgS (r : Bool) : D := (D.bool r)
def ZfJ (t0 : Bool) (t1 : Bool) (t2 : Bool) (t3 : Bool) (t4 : Bool) (t5 : Bool) (a : Zm) (b : Zr) (c : Int) : (Unit ⊕ Unit) → Ex × List V × Zk
  | (.inl r) => (.ret, [(.d (Zb c)), (.ptr 0 0), (.ptr 1 0), (.d (D.bool false))], [(.cells (dV t0 t1 t2 t3 a)), (.cells [(.d (D.list t4 (List.map Zb b.work))), (.d (D.list t5 (List.map Zb b.vals)))])])
  | (.inr r) => (.exit 0, [(.d (Zb c)), (.ptr 0 0), (.ptr 1 0), .bad], [(.cells (dV t0 t1 t2 t3 a)), (.cells [(.d (D.list t4 (List.map Zb b.work))), (.d (D.list t5 (List.map Zb b.vals)))])])
theorem Zim {t0 : Bool} {t1 : Bool} {t2 : Bool} {t3 : Bool} {t4 : Bool} {t5 : Bool} {a : Zm} {b : Zr} {c : Int} : ∀ (s0 : Int) (r : (Unit ⊕ Unit)), lp (Zcx a b c) s0 = some r → lpW ctx 0 [2, 3, 4, 14, 15, 16] [2, 3, 4, 6] Zti [(.d (Zb c)), (.ptr 0 0), (.ptr 1 0), (.d (D.list t1 (List.map ZS a.edges))), (.d (Zb (a.edges.length : Int))), (.d (Zb s0))] [(.cells (dV t0 t1 t2 t3 a)), (.cells [(.d (D.list t4 (List.map Zb b.work))), (.d (D.list t5 (List.map Zb b.vals)))])] = some ((ZfJ t0 t1 t2 t3 t4 t5 a b c) r) := by
 refine ZaY (ZfJ t0 t1 t2 t3 t4 t5 a b c) ?_
 intro s0 rcl ih
 show ZQ _ _ (lpW _ _ _ _ _ _ _)
 unfold Zcx
 rw [ZaX]
 conv => arg 3; whnf
 refine Ze rfl ?_ ?_
 ·conv => arg 3; whnf
  refine Zj rfl rfl fun x1 hx1 => ?_
  conv => arg 3; whnf
  refine Ze rfl ?_ ?_
  ·conv => arg 3; whnf
   refine Zl _ ZbI rfl fun x2 hx2 => ?_
   conv => arg 3; whnf
   refine Ze rfl ?_ ?_
   ·conv => arg 3; whnf
    exact Zd (ih _)
   ·conv => arg 3; whnf
    exact Zf rfl
  ·conv => arg 3; whnf
   exact Zd (ih _)
 ·conv => arg 3; whnf
  exact Zf rfl
def Zf0 (t0 : Bool) (t1 : Bool) (t2 : Bool) (t3 : Bool) (t4 : Bool) (t5 : Bool) (a : Zm) (b : Zr) (c : Int) (s4 : Int) (x5 : Zi) : (Unit ⊕ Unit) → Ex × List V × Zk
  | (.inl r) => (.ret, [(.d (Zb c)), (.ptr 0 0), (.ptr 1 0), (.d (D.bool false)), (.d (D.list t3 (List.map Zs a.barriers))), (.d (Zb (a.barriers.length : Int))), (.d (Zb s4))], [(.cells (dV t0 t1 t2 t3 a)), (.cells [(.d (D.list t4 (List.map Zb b.work))), (.d (D.list t5 (List.map Zb b.vals)))])])
  | (.inr r) => (.exit 4, [(.d (Zb c)), (.ptr 0 0), (.ptr 1 0), .bad, (.d (D.list t3 (List.map Zs a.barriers))), (.d (Zb (a.barriers.length : Int))), (.d (Zb s4))], [(.cells (dV t0 t1 t2 t3 a)), (.cells [(.d (D.list t4 (List.map Zb b.work))), (.d (D.list t5 (List.map Zb b.vals)))])])
theorem Zio {t0 : Bool} {t1 : Bool} {t2 : Bool} {t3 : Bool} {t4 : Bool} {t5 : Bool} {a : Zm} {b : Zr} {c : Int} {s4 : Int} {x5 : Zi} : ∀ (s7 : Int) (r : (Unit ⊕ Unit)), lp (Zb0 a b x5) s7 = some r → lpW ctx 0 [2, 3, 4, 34, 35, 36, 46, 47, 48] [2, 3, 4, 6, 34, 35, 36] Zsm [(.d (Zb c)), (.ptr 0 0), (.ptr 1 0), (.d (D.list t3 (List.map Zs a.barriers))), (.d (Zb (a.barriers.length : Int))), (.d (Zb s4)), (.d (D.list true (List.map Zb x5.ins))), (.d (Zb (x5.ins.length : Int))), (.d (Zb s7))] [(.cells (dV t0 t1 t2 t3 a)), (.cells [(.d (D.list t4 (List.map Zb b.work))), (.d (D.list t5 (List.map Zb b.vals)))])] = some ((Zf0 t0 t1 t2 t3 t4 t5 a b c s4 x5) r) := by
 refine ZaY (Zf0 t0 t1 t2 t3 t4 t5 a b c s4 x5) ?_
 intro s7 rcl ih
 show ZQ _ _ (lpW _ _ _ _ _ _ _)
 unfold Zb0
 rw [ZaX]
 conv => arg 3; whnf
 refine Ze rfl ?_ ?_
 ·conv => arg 3; whnf
  refine Zj rfl rfl fun x8 hx8 => ?_
  conv => arg 3; whnf
  refine Zl _ ZbI rfl fun x9 hx9 => ?_
  conv => arg 3; whnf
  refine Ze rfl ?_ ?_
  ·conv => arg 3; whnf
   exact Zd (ih _)
  ·conv => arg 3; whnf
   exact Zf rfl
 ·conv => arg 3; whnf
  exact Zf rfl
def ZfT (t0 : Bool) (t1 : Bool) (t2 : Bool) (t3 : Bool) (t4 : Bool) (t5 : Bool) (a : Zm) (b : Zr) (c : Int) : (Unit ⊕ Unit) → Ex × List V × Zk
  | (.inl r) => (.ret, [(.d (D.bool false))], [])
  | (.inr r) => (.exit 2, [.bad], [])
theorem Zil {t0 : Bool} {t1 : Bool} {t2 : Bool} {t3 : Bool} {t4 : Bool} {t5 : Bool} {a : Zm} {b : Zr} {c : Int} : ∀ (s4 : Int) (r : (Unit ⊕ Unit)), lp (Zct a b c) s4 = some r → lpW ctx 0 [2, 3, 4, 34, 35, 36] [6] Zsh [(.d (Zb c)), (.ptr 0 0), (.ptr 1 0), (.d (D.list t3 (List.map Zs a.barriers))), (.d (Zb (a.barriers.length : Int))), (.d (Zb s4))] [(.cells (dV t0 t1 t2 t3 a)), (.cells [(.d (D.list t4 (List.map Zb b.work))), (.d (D.list t5 (List.map Zb b.vals)))])] = some ((ZfT t0 t1 t2 t3 t4 t5 a b c) r) := by
 refine ZaY (ZfT t0 t1 t2 t3 t4 t5 a b c) ?_
 intro s4 rcl ih
 show ZQ _ _ (lpW _ _ _ _ _ _ _)
 unfold Zct
 rw [ZaX]
 conv => arg 3; whnf
 refine Ze rfl ?_ ?_
 ·conv => arg 3; whnf
  refine Zj rfl rfl fun x5 hx5 => ?_
  conv => arg 3; whnf
  refine Zl _ ZdZ rfl fun x6 hx6 => ?_
  conv => arg 3; whnf
  refine Ze rfl ?_ ?_
  ·conv => arg 3; whnf
   refine Zo (ZG _ _) ?_
   conv => arg 3; whnf
   refine Zc _ (Zio _) fun r10 hr10 => ?_
   clear hr10
   rcases r10 with r10 | r10
   ·conv => arg 3; whnf
    exact Zf rfl
   ·conv => arg 3; whnf
    exact Zd (ih _)
  ·conv => arg 3; whnf
   exact Zd (ih _)
 ·conv => arg 3; whnf
  exact Zf rfl
theorem ZgH {t0 : Bool} {t1 : Bool} {t2 : Bool} {t3 : Bool} {t4 : Bool} {t5 : Bool} {a : Zm} {b : Zr} {c : Int} : ∀ r, (ZdD a b c) = some r → evD ctx 78 [(.d (D.agg (dA t0 t1 t2 t3 a))), (.d (D.agg [(D.list t4 (List.map Zb b.work)), (D.list t5 (List.map Zb b.vals))])), (.d (Zb c))] = some (ZgS r) := by
 show ZQ _ (fun r rhs => rhs = some (ZgS r)) _
 unfold ZdD
 rw [Zbl ctx 78 Zvb _ rfl rfl]
 conv => arg 3; whnf
 refine Zo (ZG _ _) ?_
 conv => arg 3; whnf
 refine Zc _ (Zim _) fun r3 hr3 => ?_
 clear hr3
 rcases r3 with r3 | r3
 ·conv => arg 3; whnf
  exact Zf rfl
 ·conv => arg 3; whnf
  refine Zo (ZG _ _) ?_
  conv => arg 3; whnf
  refine Zc _ (Zil _) fun r11 hr11 => ?_
  clear hr11
  rcases r11 with r11 | r11
  ·conv => arg 3; whnf
   exact Zf rfl
  ·conv => arg 3; whnf
   exact Zf rfl
def Zgv (r : Bool) : D := (D.bool r)
theorem Zi9 {t0 : Bool} {t1 : Bool} {t2 : Bool} {t3 : Bool} {t4 : Bool} {t5 : Bool} {a : Zq} {b0 : (List Int)} {b1 : (List Int)} {c0 : Int} {c1 : Int} {c2 : (List ZK)} {c3 : (List ZJ)} {c4 : (List Zq)} {c5 : (List Zi)} : ∀ r, (Zb5 a b0 b1 c0 c1 c2 c3 c4 c5) = some r → evD ctx 94 [(.d (D.agg [(Zb a.maker), (Zb a.user), (Zb a.pos)])), (.d (D.rptr [(D.list t0 (List.map Zb b0)), (D.list t1 (List.map Zb b1))])), (.d (D.rptr [(Zb c0), (Zb c1), (D.list t2 (List.map ZV c2)), (D.list t3 (List.map ZS c3)), (D.list t4 (List.map Zu c4)), (D.list t5 (List.map Zs c5))]))] = some (Zgv r) := by
 show ZQ _ (fun r rhs => rhs = some (Zgv r)) _
 unfold Zb5
 rw [Zbl ctx 94 Zv6 _ rfl rfl]
 conv => arg 3; whnf
 refine Zj rfl rfl fun x0 hx0 => ?_
 conv => arg 3; whnf
 refine Ze rfl ?_ ?_
 ·conv => arg 3; whnf
  refine Zl _ ZbI rfl fun x1 hx1 => ?_
  conv => arg 3; whnf
  refine Ze rfl ?_ ?_
  ·conv => arg 3; whnf
   exact Zf rfl
  ·conv => arg 3; whnf
   exact Zf rfl
 ·conv => arg 3; whnf
  exact Zf rfl
def Zbn (r : Int) : D := (Zb r)
def Za9 (t0 : Bool) (t1 : Bool) (t2 : Bool) (t3 : Bool) (t4 : Bool) (t5 : Bool) (t6 : Bool) (a : (List Zq)) (b0 : (List Int)) (b1 : (List Int)) (b2 : Int) (b3 : Int) (b4 : (List ZK)) (b5 : (List ZJ)) (b6 : (List Zq)) (b7 : (List Zi)) : (Int ⊕ Unit) → Ex × List V × Zk
  | (.inl r) => (.ret, [(.d (Zb r))], [])
  | (.inr r) => (.exit 0, [.bad], [])
theorem ZcL {t0 : Bool} {t1 : Bool} {t2 : Bool} {t3 : Bool} {t4 : Bool} {t5 : Bool} {t6 : Bool} {a : (List Zq)} {b0 : (List Int)} {b1 : (List Int)} {b2 : Int} {b3 : Int} {b4 : (List ZK)} {b5 : (List ZJ)} {b6 : (List Zq)} {b7 : (List Zi)} : ∀ (s0 : Int) (r : (Int ⊕ Unit)), lp (ZX a (fun z0 => Zb5 z0 b0 b1 b2 b3 b4 b5 b6 b7)) s0 = some r → lpW ctx 0 [0, 1, 7, 8] [4] ZnU [(.d (D.list t0 (List.map Zu a))), (.d (D.fn 94 [(D.rptr [(D.list t1 (List.map Zb b0)), (D.list t2 (List.map Zb b1))]), (D.rptr [(Zb b2), (Zb b3), (D.list t3 (List.map ZV b4)), (D.list t4 (List.map ZS b5)), (D.list t5 (List.map Zu b6)), (D.list t6 (List.map Zs b7))])])), (.d (Zb (a.length : Int))), (.d (Zb s0))] [] = some ((Za9 t0 t1 t2 t3 t4 t5 t6 a b0 b1 b2 b3 b4 b5 b6 b7) r) := by
 refine ZaY (Za9 t0 t1 t2 t3 t4 t5 t6 a b0 b1 b2 b3 b4 b5 b6 b7) ?_
 intro s0 rcl ih
 show ZQ _ _ (lpW _ _ _ _ _ _ _)
 unfold ZX
 rw [ZaX]
 conv => arg 3; whnf
 refine Ze rfl ?_ ?_
 ·conv => arg 3; whnf
  refine Zj rfl rfl fun x1 hx1 => ?_
  conv => arg 3; whnf
  refine Zl _ Zi9 rfl fun x2 hx2 => ?_
  conv => arg 3; whnf
  refine Ze rfl ?_ ?_
  ·conv => arg 3; whnf
   exact Zf rfl
  ·conv => arg 3; whnf
   exact Zd (ih _)
 ·conv => arg 3; whnf
  exact Zf rfl
theorem Zc3 {t0 : Bool} {t1 : Bool} {t2 : Bool} {t3 : Bool} {t4 : Bool} {t5 : Bool} {t6 : Bool} {a : (List Zq)} {b0 : (List Int)} {b1 : (List Int)} {b2 : Int} {b3 : Int} {b4 : (List ZK)} {b5 : (List ZJ)} {b6 : (List Zq)} {b7 : (List Zi)} : ∀ r, (Zai a (fun z0 => Zb5 z0 b0 b1 b2 b3 b4 b5 b6 b7)) = some r → evD ctx 114 [(.d (D.list t0 (List.map Zu a))), (.d (D.fn 94 [(D.rptr [(D.list t1 (List.map Zb b0)), (D.list t2 (List.map Zb b1))]), (D.rptr [(Zb b2), (Zb b3), (D.list t3 (List.map ZV b4)), (D.list t4 (List.map ZS b5)), (D.list t5 (List.map Zu b6)), (D.list t6 (List.map Zs b7))])]))] = some (Zbn r) := by
 show ZQ _ (fun r rhs => rhs = some (Zbn r)) _
 unfold Zai
 rw [Zbl ctx 114 ZqF _ rfl rfl]
 conv => arg 3; whnf
 refine Zo (ZG _ _) ?_
 conv => arg 3; whnf
 refine Zc _ (ZcL _) fun r3 hr3 => ?_
 clear hr3
 rcases r3 with r3 | r3
 ·conv => arg 3; whnf
  exact Zf rfl
 ·conv => arg 3; whnf
  exact Zf rfl
def Zbb (r : Bool) : D := (D.bool r)
theorem ZcJ {t0 : Bool} {t1 : Bool} {t2 : Bool} {t3 : Bool} {t4 : Bool} {t5 : Bool} {t6 : Bool} {a : (List Zq)} {b0 : (List Int)} {b1 : (List Int)} {b2 : Int} {b3 : Int} {b4 : (List ZK)} {b5 : (List ZJ)} {b6 : (List Zq)} {b7 : (List Zi)} : ∀ r, (ZP a (fun z0 => Zb5 z0 b0 b1 b2 b3 b4 b5 b6 b7)) = some r → evD ctx 89 [(.d (D.list t0 (List.map Zu a))), (.d (D.fn 94 [(D.rptr [(D.list t1 (List.map Zb b0)), (D.list t2 (List.map Zb b1))]), (D.rptr [(Zb b2), (Zb b3), (D.list t3 (List.map ZV b4)), (D.list t4 (List.map ZS b5)), (D.list t5 (List.map Zu b6)), (D.list t6 (List.map Zs b7))])]))] = some (Zbb r) := by
 show ZQ _ (fun r rhs => rhs = some (Zbb r)) _
 unfold ZP
 rw [Zbl ctx 89 Zua _ rfl rfl]
 conv => arg 3; whnf
 refine Zl _ Zc3 rfl fun x0 hx0 => ?_
 conv => arg 3; whnf
 refine Ze rfl ?_ ?_
 ·conv => arg 3; whnf
  exact Zf rfl
 ·conv => arg 3; whnf
  exact Zf rfl
def Zhp (r : Bool) : D := (D.bool r)
def Zgc (t0 : Bool) (t1 : Bool) (t2 : Bool) (t3 : Bool) (t4 : Bool) (t5 : Bool) (a : Zm) (b : Zr) : (Unit ⊕ Unit) → Ex × List V × Zk
  | (.inl r) => (.ret, [(.ptr 0 0), (.ptr 1 0), (.d (D.bool false))], [(.cells (dV t0 t1 t2 t3 a)), (.cells [(.d (D.list t4 (List.map Zb b.work))), (.d (D.list t5 (List.map Zb b.vals)))])])
  | (.inr r) => (.exit 0, [(.ptr 0 0), (.ptr 1 0), .bad], [(.cells (dV t0 t1 t2 t3 a)), (.cells [(.d (D.list t4 (List.map Zb b.work))), (.d (D.list t5 (List.map Zb b.vals)))])])
theorem Ziz {t0 : Bool} {t1 : Bool} {t2 : Bool} {t3 : Bool} {t4 : Bool} {t5 : Bool} {a : Zm} {b : Zr} : ∀ (s0 : Int) (r : (Unit ⊕ Unit)), lp (ZcQ a b) s0 = some r → lpW ctx 0 [2, 3, 26, 27, 28] [2, 3, 4] Ztx [(.ptr 0 0), (.ptr 1 0), (.d (D.list t4 (List.map Zb b.work))), (.d (Zb (b.work.length : Int))), (.d (Zb s0))] [(.cells (dV t0 t1 t2 t3 a)), (.cells [(.d (D.list t4 (List.map Zb b.work))), (.d (D.list t5 (List.map Zb b.vals)))])] = some ((Zgc t0 t1 t2 t3 t4 t5 a b) r) := by
 refine ZaY (Zgc t0 t1 t2 t3 t4 t5 a b) ?_
 intro s0 rcl ih
 show ZQ _ _ (lpW _ _ _ _ _ _ _)
 unfold ZcQ
 rw [ZaX]
 conv => arg 3; whnf
 refine Ze rfl ?_ ?_
 ·conv => arg 3; whnf
  refine Zj rfl rfl fun x1 hx1 => ?_
  conv => arg 3; whnf
  refine Ze rfl ?_ ?_
  ·conv => arg 3; whnf
   exact Zf rfl
  ·conv => arg 3; whnf
   refine Zj rfl rfl fun x2 hx2 => ?_
   conv => arg 3; whnf
   refine Ze rfl ?_ ?_
   ·conv => arg 3; whnf
    exact Zf rfl
   ·conv => arg 3; whnf
    exact Zd (ih _)
 ·conv => arg 3; whnf
  exact Zf rfl
def Zgf (t0 : Bool) (t1 : Bool) (t2 : Bool) (t3 : Bool) (t4 : Bool) (t5 : Bool) (a : Zm) (b : Zr) : (Unit ⊕ Unit) → Ex × List V × Zk
  | (.inl r) => (.ret, [(.ptr 0 0), (.ptr 1 0), (.d (D.bool false))], [(.cells (dV t0 t1 t2 t3 a)), (.cells [(.d (D.list t4 (List.map Zb b.work))), (.d (D.list t5 (List.map Zb b.vals)))])])
  | (.inr r) => (.exit 2, [(.ptr 0 0), (.ptr 1 0), .bad], [(.cells (dV t0 t1 t2 t3 a)), (.cells [(.d (D.list t4 (List.map Zb b.work))), (.d (D.list t5 (List.map Zb b.vals)))])])
theorem Zir {t0 : Bool} {t1 : Bool} {t2 : Bool} {t3 : Bool} {t4 : Bool} {t5 : Bool} {a : Zm} {b : Zr} : ∀ (s4 : Int) (r : (Unit ⊕ Unit)), lp (ZcU a b) s4 = some r → lpW ctx 0 [2, 3, 47, 48, 49] [2, 3, 4] Zss [(.ptr 0 0), (.ptr 1 0), (.d (D.list t4 (List.map Zb b.work))), (.d (Zb (b.work.length : Int))), (.d (Zb s4))] [(.cells (dV t0 t1 t2 t3 a)), (.cells [(.d (D.list t4 (List.map Zb b.work))), (.d (D.list t5 (List.map Zb b.vals)))])] = some ((Zgf t0 t1 t2 t3 t4 t5 a b) r) := by
 refine ZaY (Zgf t0 t1 t2 t3 t4 t5 a b) ?_
 intro s4 rcl ih
 show ZQ _ _ (lpW _ _ _ _ _ _ _)
 unfold ZcU
 rw [ZaX]
 conv => arg 3; whnf
 refine Ze rfl ?_ ?_
 ·conv => arg 3; whnf
  refine Zj rfl rfl fun x5 hx5 => ?_
  conv => arg 3; whnf
  refine Ze rfl ?_ ?_
  ·conv => arg 3; whnf
   refine Zl _ ZgH rfl fun x6 hx6 => ?_
   conv => arg 3; whnf
   refine Ze rfl ?_ ?_
   ·conv => arg 3; whnf
    exact Zd (ih _)
   ·conv => arg 3; whnf
    exact Zf rfl
  ·conv => arg 3; whnf
   exact Zd (ih _)
 ·conv => arg 3; whnf
  exact Zf rfl
theorem Zkq {t0 : Bool} {t1 : Bool} {t2 : Bool} {t3 : Bool} {t4 : Bool} {t5 : Bool} {a : Zm} {b : Zr} : ∀ r, (ZeA a b) = some r → evD ctx 56 [(.d (D.agg (dA t0 t1 t2 t3 a))), (.d (D.agg [(D.list t4 (List.map Zb b.work)), (D.list t5 (List.map Zb b.vals))]))] = some (Zhp r) := by
 show ZQ _ (fun r rhs => rhs = some (Zhp r)) _
 unfold ZeA
 rw [Zbl ctx 56 Zu7 _ rfl rfl]
 conv => arg 3; whnf
 refine Zo (ZG _ _) ?_
 conv => arg 3; whnf
 refine Zo (ZG _ _) ?_
 conv => arg 3; whnf
 refine Ze rfl ?_ ?_
 ·conv => arg 3; whnf
  exact Zf rfl
 ·conv => arg 3; whnf
  refine Zo (ZG _ _) ?_
  conv => arg 3; whnf
  refine Zo (ZG _ _) ?_
  conv => arg 3; whnf
  refine Ze rfl ?_ ?_
  ·conv => arg 3; whnf
   exact Zf rfl
  ·conv => arg 3; whnf
   refine Zo (ZG _ _) ?_
   conv => arg 3; whnf
   refine Zc _ (Ziz _) fun r3 hr3 => ?_
   clear hr3
   rcases r3 with r3 | r3
   ·conv => arg 3; whnf
    exact Zf rfl
   ·conv => arg 3; whnf
    refine Zo (ZG _ _) ?_
    conv => arg 3; whnf
    refine Zc _ (Zir _) fun r7 hr7 => ?_
    clear hr7
    rcases r7 with r7 | r7
    ·conv => arg 3; whnf
     exact Zf rfl
    ·conv => arg 3; whnf
     refine Zl _ ZcJ rfl fun x8 hx8 => ?_
     conv => arg 3; whnf
     refine Ze rfl ?_ ?_
     ·conv => arg 3; whnf
      exact Zf rfl
     ·conv => arg 3; whnf
      exact Zf rfl
def ZhC (r : Int) : D := (Zb r)
theorem Zch {t0 : Bool} {t1 : Bool} {t2 : Bool} {t3 : Bool} {t4 : Bool} {t5 : Bool} {a : Zm} {b : Zr} : ∀ r, (Zbz a b) = some r → evD ctx 31 [(.d (D.agg (dA t0 t1 t2 t3 a))), (.d (D.agg [(D.list t4 (List.map Zb b.work)), (D.list t5 (List.map Zb b.vals))]))] = some (ZhC r) := by
 show ZQ _ (fun r rhs => rhs = some (ZhC r)) _
 unfold Zbz
 rw [Zbl ctx 31 ZvL _ rfl rfl]
 conv => arg 3; whnf
 refine Zl _ ZeS rfl fun x0 hx0 => ?_
 conv => arg 3; whnf
 refine Ze rfl ?_ ?_
 ·conv => arg 3; whnf
  refine Zl _ Zkq rfl fun x1 hx1 => ?_
  conv => arg 3; whnf
  refine Ze rfl ?_ ?_
  ·conv => arg 3; whnf
   exact Zf rfl
  ·conv => arg 3; whnf
   exact Zf rfl
 ·conv => arg 3; whnf
  exact Zf rfl
def Zid (r : Bool) : D := (D.bool r)
def Zgx (t0 : Bool) (t1 : Bool) (t2 : Bool) (t3 : Bool) (t4 : Bool) (t5 : Bool) (a : Zm) (b : Zr) (c : Int) : (Unit ⊕ Unit) → Ex × List V × Zk
  | (.inl r) => (.exit 0, [(.d (D.bool true))], [])
  | (.inr r) => (.exit 0, [(.d (D.bool false))], [])
theorem Zjc {t0 : Bool} {t1 : Bool} {t2 : Bool} {t3 : Bool} {t4 : Bool} {t5 : Bool} {a : Zm} {b : Zr} {c : Int} : ∀ (s3 : Int) (r : (Unit ⊕ Unit)), lp (Zcw a b c) s3 = some r → lpW ctx 0 [2, 3, 4, 7, 30, 31, 32] [7] ZpL [(.d (Zb c)), (.ptr 0 0), (.ptr 1 0), (.d (D.bool true)), (.d (D.list t2 (List.map Zu a.futures))), (.d (Zb (a.futures.length : Int))), (.d (Zb s3))] [(.cells (dV t0 t1 t2 t3 a)), (.cells [(.d (D.list t4 (List.map Zb b.work))), (.d (D.list t5 (List.map Zb b.vals)))])] = some ((Zgx t0 t1 t2 t3 t4 t5 a b c) r) := by
 refine ZaY (Zgx t0 t1 t2 t3 t4 t5 a b c) ?_
 intro s3 rcl ih
 show ZQ _ _ (lpW _ _ _ _ _ _ _)
 unfold Zcw
 rw [ZaX]
 conv => arg 3; whnf
 refine Ze rfl ?_ ?_
 ·conv => arg 3; whnf
  refine Zj rfl rfl fun x4 hx4 => ?_
  conv => arg 3; whnf
  refine Ze rfl ?_ ?_
  ·conv => arg 3; whnf
   refine Zj rfl rfl fun x5 hx5 => ?_
   conv => arg 3; whnf
   refine Ze rfl ?_ ?_
   ·conv => arg 3; whnf
    refine Zl _ ZbI rfl fun x6 hx6 => ?_
    conv => arg 3; whnf
    refine Ze rfl ?_ ?_
    ·conv => arg 3; whnf
     exact Zf rfl
    ·conv => arg 3; whnf
     exact Zf rfl
   ·conv => arg 3; whnf
    exact Zd (ih _)
  ·conv => arg 3; whnf
   exact Zd (ih _)
 ·conv => arg 3; whnf
  exact Zf rfl
def ZfU (t0 : Bool) (t1 : Bool) (t2 : Bool) (t3 : Bool) (t4 : Bool) (t5 : Bool) (a : Zm) (b : Zr) (c : Int) : (Unit ⊕ Unit) → Ex × List V × Zk
  | (.inl r) => (.exit 0, [(.d (D.bool true))], [])
  | (.inr r) => (.exit 0, [(.d (D.bool false))], [])
theorem Zik {t0 : Bool} {t1 : Bool} {t2 : Bool} {t3 : Bool} {t4 : Bool} {t5 : Bool} {a : Zm} {b : Zr} {c : Int} : ∀ (s8 : Int) (r : (Unit ⊕ Unit)), lp (ZeY a b c) s8 = some r → lpW ctx 0 [2, 3, 4, 7, 30, 31, 32] [7] ZpL [(.d (Zb c)), (.ptr 0 0), (.ptr 1 0), (.d (D.bool true)), (.d (D.list t2 (List.map Zu a.futures))), (.d (Zb (a.futures.length : Int))), (.d (Zb s8))] [(.cells (dV t0 t1 t2 t3 a)), (.cells [(.d (D.list t4 (List.map Zb b.work))), (.d (D.list t5 (List.map Zb b.vals)))])] = some ((ZfU t0 t1 t2 t3 t4 t5 a b c) r) := by
 refine ZaY (ZfU t0 t1 t2 t3 t4 t5 a b c) ?_
 intro s8 rcl ih
 show ZQ _ _ (lpW _ _ _ _ _ _ _)
 unfold ZeY
 rw [ZaX]
 conv => arg 3; whnf
 refine Ze rfl ?_ ?_
 ·conv => arg 3; whnf
  refine Zj rfl rfl fun x9 hx9 => ?_
  conv => arg 3; whnf
  refine Ze rfl ?_ ?_
  ·conv => arg 3; whnf
   refine Zj rfl rfl fun x10 hx10 => ?_
   conv => arg 3; whnf
   refine Ze rfl ?_ ?_
   ·conv => arg 3; whnf
    refine Zl _ ZbI rfl fun x11 hx11 => ?_
    conv => arg 3; whnf
    refine Ze rfl ?_ ?_
    ·conv => arg 3; whnf
     exact Zf rfl
    ·conv => arg 3; whnf
     exact Zf rfl
   ·conv => arg 3; whnf
    exact Zd (ih _)
  ·conv => arg 3; whnf
   exact Zd (ih _)
 ·conv => arg 3; whnf
  exact Zf rfl
theorem ZhH {t0 : Bool} {t1 : Bool} {t2 : Bool} {t3 : Bool} {t4 : Bool} {t5 : Bool} {a : Zm} {b : Zr} {c : Int} : ∀ r, (Zei a b c) = some r → evD ctx 47 [(.d (D.agg (dA t0 t1 t2 t3 a))), (.d (D.agg [(D.list t4 (List.map Zb b.work)), (D.list t5 (List.map Zb b.vals))])), (.d (Zb c))] = some (Zid r) := by
 show ZQ _ (fun r rhs => rhs = some (Zid r)) _
 unfold Zei
 rw [Zbl ctx 47 ZvZ _ rfl rfl]
 conv => arg 3; whnf
 refine Zl _ ZbI rfl fun x0 hx0 => ?_
 conv => arg 3; whnf
 refine Ze rfl ?_ ?_
 ·conv => arg 3; whnf
  exact Zf rfl
 ·conv => arg 3; whnf
  refine Zj rfl rfl fun x1 hx1 => ?_
  conv => arg 3; whnf
  refine Ze rfl ?_ ?_
  ·conv => arg 3; whnf
   refine Zl _ ZgH rfl fun x2 hx2 => ?_
   conv => arg 3; whnf
   refine Ze rfl ?_ ?_
   ·conv => arg 3; whnf
    refine Zo (ZG _ _) ?_
    conv => arg 3; whnf
    refine Zc _ (Zjc _) fun r7 hr7 => ?_
    clear hr7
    rcases r7 with r7 | r7
    ·conv => arg 3; whnf
     exact Zf rfl
    ·conv => arg 3; whnf
     exact Zf rfl
   ·conv => arg 3; whnf
    exact Zf rfl
  ·conv => arg 3; whnf
   refine Zo (ZG _ _) ?_
   conv => arg 3; whnf
   refine Zc _ (Zik _) fun r12 hr12 => ?_
   clear hr12
   rcases r12 with r12 | r12
   ·conv => arg 3; whnf
    exact Zf rfl
   ·conv => arg 3; whnf
    exact Zf rfl
def Zeq (t0 : Bool) (a : (List Int)) : Unit → V × Zk
  | r => ((.sl 0 1), [(.arr 1 (List.map Zb a))])
theorem Zel {t0 : Bool} {a : (List Int)} : ∀ r, (Zbg a) = some r → evW ctx 74 [(.d (D.list t0 (List.map Zb a)))] [] = some ((Zeq t0 a) r) := by
 show ZQ _ (fun r rhs => rhs = some ((Zeq t0 a) r)) _
 unfold Zbg
 rw [Zfc ctx 74 Zv0 _ _ rfl rfl]
 conv => arg 3; whnf
 refine Ze (ZtK Zb a) ?_ ?_
 ·conv => arg 3; whnf
  refine Zcy (Zff (f := Zb) (fun _ => ⟨rfl, rfl⟩) a 0) ?_
  conv => arg 3; whnf
  refine Ze (Ze9 Zb a) ?_ ?_
  ·conv => arg 3; whnf
   refine Zo (rfl : _ = List.map Zb a) ?_
   conv => arg 3; whnf
   exact Zf rfl
  ·exact ZaA
 ·exact ZaA
def ZgF (r : Int) : D := (Zb r)
theorem Zz {t0 : Bool} {t1 : Bool} {t2 : Bool} {t3 : Bool} {a : Int} {b : Int} {c0 : Int} {c1 : Int} {c2 : (List ZK)} {c3 : (List ZJ)} {c4 : (List Zq)} {c5 : (List Zi)} : ∀ r, (Zp a b c4) = some r → evD ctx 118 [(.d (Zb a)), (.d (Zb b)), (.d (D.rptr [(Zb c0), (Zb c1), (D.list t0 (List.map ZV c2)), (D.list t1 (List.map ZS c3)), (D.list t2 (List.map Zu c4)), (D.list t3 (List.map Zs c5))]))] = some (ZgF r) := by
 show ZQ _ (fun r rhs => rhs = some (ZgF r)) _
 unfold Zp
 rw [Zbl ctx 118 ZsI _ rfl rfl]
 conv => arg 3; whnf
 refine Zj rfl rfl fun x0 hx0 => ?_
 conv => arg 3; whnf
 refine Zj rfl rfl fun x1 hx1 => ?_
 conv => arg 3; whnf
 exact Zf rfl
def Zgg (r : Int) : D := (Zb r)
theorem ZiH {a : Int} : ∀ r, (Ze6 a) = some r → evD ctx 135 [(.d (D.int .u64 a))] = some (Zgg r) := by
 show ZQ _ (fun r rhs => rhs = some (Zgg r)) _
 unfold Ze6
 rw [Zbl ctx 135 Ztv _ rfl rfl]
 conv => arg 3; whnf
 refine Ze rfl ?_ ?_
 ·conv => arg 3; whnf
  refine Zae rfl ?_
  conv => arg 3; whnf
  refine Ze rfl ?_ ?_
  ·conv => arg 3; whnf
   refine Zae rfl ?_
   conv => arg 3; whnf
   refine Ze rfl ?_ ?_
   ·conv => arg 3; whnf
    refine Zae rfl ?_
    conv => arg 3; whnf
    refine Ze rfl ?_ ?_
    ·conv => arg 3; whnf
     refine ZfW rfl fun x0 hx0 => ?_
     conv => arg 3; whnf
     exact Zf rfl
    ·exact ZaA
   ·conv => arg 3; whnf
    refine Ze rfl ?_ ?_
    ·conv => arg 3; whnf
     refine ZfW rfl fun x1 hx1 => ?_
     conv => arg 3; whnf
     exact Zf rfl
    ·exact ZaA
  ·conv => arg 3; whnf
   refine Ze rfl ?_ ?_
   ·conv => arg 3; whnf
    refine Zae rfl ?_
    conv => arg 3; whnf
    refine Ze rfl ?_ ?_
    ·conv => arg 3; whnf
     refine ZfW rfl fun x2 hx2 => ?_
     conv => arg 3; whnf
     exact Zf rfl
    ·exact ZaA
   ·conv => arg 3; whnf
    refine Ze rfl ?_ ?_
    ·conv => arg 3; whnf
     refine ZfW rfl fun x3 hx3 => ?_
     conv => arg 3; whnf
     exact Zf rfl
    ·exact ZaA
 ·conv => arg 3; whnf
  refine Ze rfl ?_ ?_
  ·conv => arg 3; whnf
   refine Zae rfl ?_
   conv => arg 3; whnf
   refine Ze rfl ?_ ?_
   ·conv => arg 3; whnf
    refine Zae rfl ?_
    conv => arg 3; whnf
    refine Ze rfl ?_ ?_
    ·conv => arg 3; whnf
     refine ZfW rfl fun x4 hx4 => ?_
     conv => arg 3; whnf
     exact Zf rfl
    ·exact ZaA
   ·conv => arg 3; whnf
    refine Ze rfl ?_ ?_
    ·conv => arg 3; whnf
     refine ZfW rfl fun x5 hx5 => ?_
     conv => arg 3; whnf
     exact Zf rfl
    ·exact ZaA
  ·conv => arg 3; whnf
   refine Ze rfl ?_ ?_
   ·conv => arg 3; whnf
    refine Zae rfl ?_
    conv => arg 3; whnf
    refine Ze rfl ?_ ?_
    ·conv => arg 3; whnf
     refine ZfW rfl fun x6 hx6 => ?_
     conv => arg 3; whnf
     exact Zf rfl
    ·exact ZaA
   ·conv => arg 3; whnf
    refine Ze rfl ?_ ?_
    ·conv => arg 3; whnf
     refine ZfW rfl fun x7 hx7 => ?_
     conv => arg 3; whnf
     exact Zf rfl
    ·exact ZaA
def ZgP (r : Int) : D := (Zb r)
theorem ZgI {a : Int} : ∀ r, (ZdF a) = some r → evD ctx 125 [(.d (D.int .u64 a))] = some (ZgP r) := by
 show ZQ _ (fun r rhs => rhs = some (ZgP r)) _
 unfold ZdF
 rw [Zbl ctx 125 Zr9 _ rfl rfl]
 conv => arg 3; whnf
 refine Zl _ ZiH rfl fun x0 hx0 => ?_
 conv => arg 3; whnf
 exact Zf rfl
def Zbs (t0 : Bool) (t1 : Bool) (t2 : Bool) (t3 : Bool) (b : Int) (c : Int) (m0_0 : (List Int)) (m1_0 : Int) (m1_1 : Int) (m1_2 : (List ZK)) (m1_3 : (List ZJ)) (m1_4 : (List Zq)) (m1_5 : (List Zi)) : (List Int) → V × Zk
  | r => ((.d (D.tup [])), [(.arr 1 (List.map Zb r)), (.cells [(.d (Zb m1_0)), (.d (Zb m1_1)), (.d (D.list t0 (List.map ZV m1_2))), (.d (D.list t1 (List.map ZS m1_3))), (.d (D.list t2 (List.map Zu m1_4))), (.d (D.list t3 (List.map Zs m1_5)))])])
def Zbc (t0 : Bool) (t1 : Bool) (t2 : Bool) (t3 : Bool) (b : Int) (c : Int) (m1_0 : Int) (m1_1 : Int) (m1_2 : (List ZK)) (m1_3 : (List ZJ)) (m1_4 : (List Zq)) (m1_5 : (List Zi)) (s0 : Int × (List Int)) : (List Int) → Ex × List V × Zk
  | r => (.exit 2, [(.sl 0 1), (.d (Zb b)), (.d (Zb c)), (.fn 118 [(.ptr 1 0)]), (.d (Zb s0.1))], [(.arr 1 (List.map Zb r)), (.cells [(.d (Zb m1_0)), (.d (Zb m1_1)), (.d (D.list t0 (List.map ZV m1_2))), (.d (D.list t1 (List.map ZS m1_3))), (.d (D.list t2 (List.map Zu m1_4))), (.d (D.list t3 (List.map Zs m1_5)))])])
theorem ZcO {t0 : Bool} {t1 : Bool} {t2 : Bool} {t3 : Bool} {b : Int} {c : Int} {m1_0 : Int} {m1_1 : Int} {m1_2 : (List ZK)} {m1_3 : (List ZJ)} {m1_4 : (List Zq)} {m1_5 : (List Zi)} {s0 : Int × (List Int)} : ∀ (s1 : Int × (List Int)) (r : (List Int)), lp (ZT b (fun z0 z1 => Zp z0 z1 m1_4)) s1 = some r → lpW ctx 2 [0, 1, 2, 3, 8, 9] [0, 1, 2, 3, 8] ZqJ [(.sl 0 1), (.d (Zb b)), (.d (Zb c)), (.fn 118 [(.ptr 1 0)]), (.d (Zb s0.1)), (.d (Zb s1.1))] [(.arr 1 (List.map Zb s1.2)), (.cells [(.d (Zb m1_0)), (.d (Zb m1_1)), (.d (D.list t0 (List.map ZV m1_2))), (.d (D.list t1 (List.map ZS m1_3))), (.d (D.list t2 (List.map Zu m1_4))), (.d (D.list t3 (List.map Zs m1_5)))])] = some ((Zbc t0 t1 t2 t3 b c m1_0 m1_1 m1_2 m1_3 m1_4 m1_5 s0) r) := by
 refine ZaY (Zbc t0 t1 t2 t3 b c m1_0 m1_1 m1_2 m1_3 m1_4 m1_5 s0) ?_
 intro s1 rcl ih
 show ZQ _ _ (lpW _ _ _ _ _ _ _)
 unfold ZT
 rw [ZaX]
 conv => arg 3; whnf
 refine Ze rfl ?_ ?_
 ·conv => arg 3; whnf
  refine Zj rfl rfl fun x2 hx2 => ?_
  conv => arg 3; whnf
  refine Zg (Zv rfl hx2) ?_
  conv => arg 3; whnf
  refine Zj rfl rfl fun x3 hx3 => ?_
  conv => arg 3; whnf
  refine Zg (Zv rfl hx3) ?_
  conv => arg 3; whnf
  refine Zl _ Zz rfl fun x4 hx4 => ?_
  conv => arg 3; whnf
  refine Ze rfl ?_ ?_
  ·conv => arg 3; whnf
   refine Zg (Za1 rfl hx3) ?_
   conv => arg 3; whnf
   refine Zg (Zv rfl hx3) ?_
   conv => arg 3; whnf
   refine Zg (Za1 rfl hx2) ?_
   conv => arg 3; whnf
   refine Zg (Zv rfl hx2) ?_
   conv => arg 3; whnf
   refine Zg (Za1 rfl hx2) ?_
   conv => arg 3; whnf
   refine Zg (Zv rfl hx2) ?_
   conv => arg 3; whnf
   refine Zo (Zat Zb s1.2 s1.1.toNat x3) ?_
   conv => arg 3; whnf
   refine Zj rfl rfl fun x5 hx5 => ?_
   conv => arg 3; whnf
   refine Zg (Zv rfl hx5) ?_
   conv => arg 3; whnf
   refine Zo (Zat Zb (List.set s1.2 s1.1.toNat x3) (w64 (s1.1 - 1)).toNat x2) ?_
   conv => arg 3; whnf
   exact Zd (ih _)
  ·conv => arg 3; whnf
   exact Zf rfl
 ·conv => arg 3; whnf
  exact Zf rfl
def Zbd (t0 : Bool) (t1 : Bool) (t2 : Bool) (t3 : Bool) (b : Int) (c : Int) (m1_0 : Int) (m1_1 : Int) (m1_2 : (List ZK)) (m1_3 : (List ZJ)) (m1_4 : (List Zq)) (m1_5 : (List Zi)) : (List Int) → Ex × List V × Zk
  | r => (.exit 0, [], [(.arr 1 (List.map Zb r)), (.cells [(.d (Zb m1_0)), (.d (Zb m1_1)), (.d (D.list t0 (List.map ZV m1_2))), (.d (D.list t1 (List.map ZS m1_3))), (.d (D.list t2 (List.map Zu m1_4))), (.d (D.list t3 (List.map Zs m1_5)))])])
theorem ZcP {t0 : Bool} {t1 : Bool} {t2 : Bool} {t3 : Bool} {b : Int} {c : Int} {m1_0 : Int} {m1_1 : Int} {m1_2 : (List ZK)} {m1_3 : (List ZJ)} {m1_4 : (List Zq)} {m1_5 : (List Zi)} : ∀ (s0 : Int × (List Int)) (r : (List Int)), lp (Zac b c (fun z0 z1 => Zp z0 z1 m1_4)) s0 = some r → lpW ctx 2 [0, 1, 2, 3, 8] [] Zqr [(.sl 0 1), (.d (Zb b)), (.d (Zb c)), (.fn 118 [(.ptr 1 0)]), (.d (Zb s0.1))] [(.arr 1 (List.map Zb s0.2)), (.cells [(.d (Zb m1_0)), (.d (Zb m1_1)), (.d (D.list t0 (List.map ZV m1_2))), (.d (D.list t1 (List.map ZS m1_3))), (.d (D.list t2 (List.map Zu m1_4))), (.d (D.list t3 (List.map Zs m1_5)))])] = some ((Zbd t0 t1 t2 t3 b c m1_0 m1_1 m1_2 m1_3 m1_4 m1_5) r) := by
 refine ZaY (Zbd t0 t1 t2 t3 b c m1_0 m1_1 m1_2 m1_3 m1_4 m1_5) ?_
 intro s0 rcl ih
 show ZQ _ _ (lpW _ _ _ _ _ _ _)
 unfold Zac
 rw [ZaX]
 conv => arg 3; whnf
 refine Ze rfl ?_ ?_
 ·conv => arg 3; whnf
  refine Zc _ (ZcO _) fun r6 hr6 => ?_
  conv => arg 3; whnf
  exact Zd (ih _)
 ·conv => arg 3; whnf
  exact Zf rfl
theorem Z3 {t0 : Bool} {t1 : Bool} {t2 : Bool} {t3 : Bool} {b : Int} {c : Int} {m0_0 : (List Int)} {m1_0 : Int} {m1_1 : Int} {m1_2 : (List ZK)} {m1_3 : (List ZJ)} {m1_4 : (List Zq)} {m1_5 : (List Zi)} : ∀ r, (ZR b c (fun z0 z1 => Zp z0 z1 m1_4) m0_0) = some r → evW ctx 126 [(.sl 0 1), (.d (Zb b)), (.d (Zb c)), (.fn 118 [(.ptr 1 0)])] [(.arr 1 (List.map Zb m0_0)), (.cells [(.d (Zb m1_0)), (.d (Zb m1_1)), (.d (D.list t0 (List.map ZV m1_2))), (.d (D.list t1 (List.map ZS m1_3))), (.d (D.list t2 (List.map Zu m1_4))), (.d (D.list t3 (List.map Zs m1_5)))])] = some ((Zbs t0 t1 t2 t3 b c m0_0 m1_0 m1_1 m1_2 m1_3 m1_4 m1_5) r) := by
 show ZQ _ (fun r rhs => rhs = some ((Zbs t0 t1 t2 t3 b c m0_0 m1_0 m1_1 m1_2 m1_3 m1_4 m1_5) r)) _
 unfold ZR
 rw [Zfc ctx 126 Ztc _ _ rfl rfl]
 conv => arg 3; whnf
 refine Zc _ (ZcP _) fun r7 hr7 => ?_
 conv => arg 3; whnf
 exact Zf rfl
def ZbW (t0 : Bool) (t1 : Bool) (t2 : Bool) (t3 : Bool) (b : Int) (c : Int) (d : Int) (m0_0 : (List Int)) (m1_0 : Int) (m1_1 : Int) (m1_2 : (List ZK)) (m1_3 : (List ZJ)) (m1_4 : (List Zq)) (m1_5 : (List Zi)) : (List Int) → V × Zk
  | r => ((.d (D.tup [])), [(.arr 1 (List.map Zb r)), (.cells [(.d (Zb m1_0)), (.d (Zb m1_1)), (.d (D.list t0 (List.map ZV m1_2))), (.d (D.list t1 (List.map ZS m1_3))), (.d (D.list t2 (List.map Zu m1_4))), (.d (D.list t3 (List.map Zs m1_5)))])])
def ZbF (t0 : Bool) (t1 : Bool) (t2 : Bool) (t3 : Bool) (c : Int) (d : Int) (m1_0 : Int) (m1_1 : Int) (m1_2 : (List ZK)) (m1_3 : (List ZJ)) (m1_4 : (List Zq)) (m1_5 : (List Zi)) : ((List Int) ⊕ (List Int)) → Ex × List V × Zk
  | (.inl r) => (.exit 0, [], [(.arr 1 (List.map Zb r)), (.cells [(.d (Zb m1_0)), (.d (Zb m1_1)), (.d (D.list t0 (List.map ZV m1_2))), (.d (D.list t1 (List.map ZS m1_3))), (.d (D.list t2 (List.map Zu m1_4))), (.d (D.list t3 (List.map Zs m1_5)))])])
  | (.inr r) => (.ret, [], [(.arr 1 (List.map Zb r)), (.cells [(.d (Zb m1_0)), (.d (Zb m1_1)), (.d (D.list t0 (List.map ZV m1_2))), (.d (D.list t1 (List.map ZS m1_3))), (.d (D.list t2 (List.map Zu m1_4))), (.d (D.list t3 (List.map Zs m1_5)))])])
theorem Zdo {t0 : Bool} {t1 : Bool} {t2 : Bool} {t3 : Bool} {c : Int} {d : Int} {m1_0 : Int} {m1_1 : Int} {m1_2 : (List ZK)} {m1_3 : (List ZJ)} {m1_4 : (List Zq)} {m1_5 : (List Zi)} : ∀ (s0 : Int × (List Int)) (r : ((List Int) ⊕ (List Int))), lp (ZC c d (fun z0 z1 => Zp z0 z1 m1_4)) s0 = some r → lpW ctx 2 [0, 2, 3, 4, 10] [] ZqL [(.sl 0 1), (.d (Zb c)), (.d (Zb d)), (.fn 118 [(.ptr 1 0)]), (.d (Zb s0.1))] [(.arr 1 (List.map Zb s0.2)), (.cells [(.d (Zb m1_0)), (.d (Zb m1_1)), (.d (D.list t0 (List.map ZV m1_2))), (.d (D.list t1 (List.map ZS m1_3))), (.d (D.list t2 (List.map Zu m1_4))), (.d (D.list t3 (List.map Zs m1_5)))])] = some ((ZbF t0 t1 t2 t3 c d m1_0 m1_1 m1_2 m1_3 m1_4 m1_5) r) := by
 refine ZaY (ZbF t0 t1 t2 t3 c d m1_0 m1_1 m1_2 m1_3 m1_4 m1_5) ?_
 intro s0 rcl ih
 show ZQ _ _ (lpW _ _ _ _ _ _ _)
 unfold ZC
 rw [ZaX]
 conv => arg 3; whnf
 refine Ze rfl ?_ ?_
 ·conv => arg 3; whnf
  exact Zf rfl
 ·conv => arg 3; whnf
  refine Ze rfl ?_ ?_
  ·conv => arg 3; whnf
   refine Zj rfl rfl fun x1 hx1 => ?_
   conv => arg 3; whnf
   refine Zg (Zv rfl hx1) ?_
   conv => arg 3; whnf
   refine Zj rfl rfl fun x2 hx2 => ?_
   conv => arg 3; whnf
   refine Zg (Zv rfl hx2) ?_
   conv => arg 3; whnf
   refine Zl _ Zz rfl fun x3 hx3 => ?_
   conv => arg 3; whnf
   refine Ze rfl ?_ ?_
   ·conv => arg 3; whnf
    refine Zj rfl rfl fun x4 hx4 => ?_
    conv => arg 3; whnf
    refine Zg (Zv rfl hx4) ?_
    conv => arg 3; whnf
    refine Zj rfl rfl fun x5 hx5 => ?_
    conv => arg 3; whnf
    refine Zg (Zv rfl hx5) ?_
    conv => arg 3; whnf
    refine Zl _ Zz rfl fun x6 hx6 => ?_
    conv => arg 3; whnf
    refine Ze rfl ?_ ?_
    ·conv => arg 3; whnf
     refine Zg (Za1 rfl hx5) ?_
     conv => arg 3; whnf
     refine Zg (Zv rfl hx5) ?_
     conv => arg 3; whnf
     refine Zg (Za1 rfl hx4) ?_
     conv => arg 3; whnf
     refine Zg (Zv rfl hx4) ?_
     conv => arg 3; whnf
     refine Zg (Za1 rfl hx4) ?_
     conv => arg 3; whnf
     refine Zg (Zv rfl hx4) ?_
     conv => arg 3; whnf
     refine Zo (Zat Zb s0.2 (w64 (d + s0.1)).toNat x5) ?_
     conv => arg 3; whnf
     refine Zj rfl rfl fun x7 hx7 => ?_
     conv => arg 3; whnf
     refine Zg (Zv rfl hx7) ?_
     conv => arg 3; whnf
     refine Zo (Zat Zb (List.set s0.2 (w64 (d + s0.1)).toNat x5) (w64 (d + (w64 ((w64 ((w64 (2 * s0.1)) + 1)) + 1)))).toNat x4) ?_
     conv => arg 3; whnf
     exact Zd (ih _)
    ·conv => arg 3; whnf
     exact Zf rfl
   ·conv => arg 3; whnf
    refine Zj rfl rfl fun x8 hx8 => ?_
    conv => arg 3; whnf
    refine Zg (Zv rfl hx8) ?_
    conv => arg 3; whnf
    refine Zg (Za1 rfl hx1) ?_
    conv => arg 3; whnf
    refine Zg (Zv rfl hx1) ?_
    conv => arg 3; whnf
    refine Zl _ Zz rfl fun x9 hx9 => ?_
    conv => arg 3; whnf
    refine Ze rfl ?_ ?_
    ·conv => arg 3; whnf
     refine Zg (Za1 rfl hx1) ?_
     conv => arg 3; whnf
     refine Zg (Zv rfl hx1) ?_
     conv => arg 3; whnf
     refine Zg (Za1 rfl hx8) ?_
     conv => arg 3; whnf
     refine Zg (Zv rfl hx8) ?_
     conv => arg 3; whnf
     refine Zg (Za1 rfl hx8) ?_
     conv => arg 3; whnf
     refine Zg (Zv rfl hx8) ?_
     conv => arg 3; whnf
     refine Zo (Zat Zb s0.2 (w64 (d + s0.1)).toNat x1) ?_
     conv => arg 3; whnf
     refine Zj rfl rfl fun x10 hx10 => ?_
     conv => arg 3; whnf
     refine Zg (Zv rfl hx10) ?_
     conv => arg 3; whnf
     refine Zo (Zat Zb (List.set s0.2 (w64 (d + s0.1)).toNat x1) (w64 (d + (w64 ((w64 (2 * s0.1)) + 1)))).toNat x8) ?_
     conv => arg 3; whnf
     exact Zd (ih _)
    ·conv => arg 3; whnf
     exact Zf rfl
  ·conv => arg 3; whnf
   refine Zj rfl rfl fun x11 hx11 => ?_
   conv => arg 3; whnf
   refine Zg (Zv rfl hx11) ?_
   conv => arg 3; whnf
   refine Zj rfl rfl fun x12 hx12 => ?_
   conv => arg 3; whnf
   refine Zg (Zv rfl hx12) ?_
   conv => arg 3; whnf
   refine Zl _ Zz rfl fun x13 hx13 => ?_
   conv => arg 3; whnf
   refine Ze rfl ?_ ?_
   ·conv => arg 3; whnf
    refine Zg (Za1 rfl hx12) ?_
    conv => arg 3; whnf
    refine Zg (Zv rfl hx12) ?_
    conv => arg 3; whnf
    refine Zg (Za1 rfl hx11) ?_
    conv => arg 3; whnf
    refine Zg (Zv rfl hx11) ?_
    conv => arg 3; whnf
    refine Zg (Za1 rfl hx11) ?_
    conv => arg 3; whnf
    refine Zg (Zv rfl hx11) ?_
    conv => arg 3; whnf
    refine Zo (Zat Zb s0.2 (w64 (d + s0.1)).toNat x12) ?_
    conv => arg 3; whnf
    refine Zj rfl rfl fun x14 hx14 => ?_
    conv => arg 3; whnf
    refine Zg (Zv rfl hx14) ?_
    conv => arg 3; whnf
    refine Zo (Zat Zb (List.set s0.2 (w64 (d + s0.1)).toNat x12) (w64 (d + (w64 ((w64 (2 * s0.1)) + 1)))).toNat x11) ?_
    conv => arg 3; whnf
    exact Zd (ih _)
   ·conv => arg 3; whnf
    exact Zf rfl
theorem ZbR {t0 : Bool} {t1 : Bool} {t2 : Bool} {t3 : Bool} {b : Int} {c : Int} {d : Int} {m0_0 : (List Int)} {m1_0 : Int} {m1_1 : Int} {m1_2 : (List ZK)} {m1_3 : (List ZJ)} {m1_4 : (List Zq)} {m1_5 : (List Zi)} : ∀ r, (Zas b c d (fun z0 z1 => Zp z0 z1 m1_4) m0_0) = some r → evW ctx 136 [(.sl 0 1), (.d (Zb b)), (.d (Zb c)), (.d (Zb d)), (.fn 118 [(.ptr 1 0)])] [(.arr 1 (List.map Zb m0_0)), (.cells [(.d (Zb m1_0)), (.d (Zb m1_1)), (.d (D.list t0 (List.map ZV m1_2))), (.d (D.list t1 (List.map ZS m1_3))), (.d (D.list t2 (List.map Zu m1_4))), (.d (D.list t3 (List.map Zs m1_5)))])] = some ((ZbW t0 t1 t2 t3 b c d m0_0 m1_0 m1_1 m1_2 m1_3 m1_4 m1_5) r) := by
 show ZQ _ (fun r rhs => rhs = some ((ZbW t0 t1 t2 t3 b c d m0_0 m1_0 m1_1 m1_2 m1_3 m1_4 m1_5) r)) _
 unfold Zas
 rw [Zfc ctx 136 ZsB _ _ rfl rfl]
 conv => arg 3; whnf
 refine Zc _ (Zdo _) fun r15 hr15 => ?_
 clear hr15
 rcases r15 with r15 | r15
 ·conv => arg 3; whnf
  exact Zf rfl
 ·conv => arg 3; whnf
  exact Zf rfl
def ZbU (t0 : Bool) (t1 : Bool) (t2 : Bool) (t3 : Bool) (b : Int) (c : Int) (m0_0 : (List Int)) (m1_0 : Int) (m1_1 : Int) (m1_2 : (List ZK)) (m1_3 : (List ZJ)) (m1_4 : (List Zq)) (m1_5 : (List Zi)) : (List Int) → V × Zk
  | r => ((.d (D.tup [])), [(.arr 1 (List.map Zb r)), (.cells [(.d (Zb m1_0)), (.d (Zb m1_1)), (.d (D.list t0 (List.map ZV m1_2))), (.d (D.list t1 (List.map ZS m1_3))), (.d (D.list t2 (List.map Zu m1_4))), (.d (D.list t3 (List.map Zs m1_5)))])])
def ZbD (t0 : Bool) (t1 : Bool) (t2 : Bool) (t3 : Bool) (b : Int) (c : Int) (m1_0 : Int) (m1_1 : Int) (m1_2 : (List ZK)) (m1_3 : (List ZJ)) (m1_4 : (List Zq)) (m1_5 : (List Zi)) : (List Int) → Ex × List V × Zk
  | r => (.exit 0, [(.sl 0 1), (.fn 118 [(.ptr 1 0)]), (.d (Zb b)), (.d (Zb 0)), (.d (Zb (w64 (c - b))))], [(.arr 1 (List.map Zb r)), (.cells [(.d (Zb m1_0)), (.d (Zb m1_1)), (.d (D.list t0 (List.map ZV m1_2))), (.d (D.list t1 (List.map ZS m1_3))), (.d (D.list t2 (List.map Zu m1_4))), (.d (D.list t3 (List.map Zs m1_5)))])])
theorem Zdn {t0 : Bool} {t1 : Bool} {t2 : Bool} {t3 : Bool} {b : Int} {c : Int} {m1_0 : Int} {m1_1 : Int} {m1_2 : (List ZK)} {m1_3 : (List ZJ)} {m1_4 : (List Zq)} {m1_5 : (List Zi)} : ∀ (s0 : Int × (List Int)) (r : (List Int)), lp (Zaw b c (fun z0 z1 => Zp z0 z1 m1_4)) s0 = some r → lpW ctx 2 [0, 3, 8, 9, 10, 11] [0, 3, 8, 9, 10] Zqy [(.sl 0 1), (.fn 118 [(.ptr 1 0)]), (.d (Zb b)), (.d (Zb 0)), (.d (Zb (w64 (c - b)))), (.d (Zb s0.1))] [(.arr 1 (List.map Zb s0.2)), (.cells [(.d (Zb m1_0)), (.d (Zb m1_1)), (.d (D.list t0 (List.map ZV m1_2))), (.d (D.list t1 (List.map ZS m1_3))), (.d (D.list t2 (List.map Zu m1_4))), (.d (D.list t3 (List.map Zs m1_5)))])] = some ((ZbD t0 t1 t2 t3 b c m1_0 m1_1 m1_2 m1_3 m1_4 m1_5) r) := by
 refine ZaY (ZbD t0 t1 t2 t3 b c m1_0 m1_1 m1_2 m1_3 m1_4 m1_5) ?_
 intro s0 rcl ih
 show ZQ _ _ (lpW _ _ _ _ _ _ _)
 unfold Zaw
 rw [ZaX]
 conv => arg 3; whnf
 refine Ze rfl ?_ ?_
 ·conv => arg 3; whnf
  refine Zc _ ZbR fun x1 hx1 => ?_
  conv => arg 3; whnf
  exact Zd (ih _)
 ·conv => arg 3; whnf
  exact Zf rfl
def ZbE (t0 : Bool) (t1 : Bool) (t2 : Bool) (t3 : Bool) (b : Int) (m1_0 : Int) (m1_1 : Int) (m1_2 : (List ZK)) (m1_3 : (List ZJ)) (m1_4 : (List Zq)) (m1_5 : (List Zi)) : (List Int) → Ex × List V × Zk
  | r => (.exit 2, [], [(.arr 1 (List.map Zb r)), (.cells [(.d (Zb m1_0)), (.d (Zb m1_1)), (.d (D.list t0 (List.map ZV m1_2))), (.d (D.list t1 (List.map ZS m1_3))), (.d (D.list t2 (List.map Zu m1_4))), (.d (D.list t3 (List.map Zs m1_5)))])])
theorem Zdu {t0 : Bool} {t1 : Bool} {t2 : Bool} {t3 : Bool} {b : Int} {m1_0 : Int} {m1_1 : Int} {m1_2 : (List ZK)} {m1_3 : (List ZJ)} {m1_4 : (List Zq)} {m1_5 : (List Zi)} : ∀ (s3 : Int × (List Int)) (r : (List Int)), lp (Zax b (fun z0 z1 => Zp z0 z1 m1_4)) s3 = some r → lpW ctx 2 [0, 3, 8, 9, 12] [] Zql [(.sl 0 1), (.fn 118 [(.ptr 1 0)]), (.d (Zb b)), (.d (Zb 0)), (.d (Zb s3.1))] [(.arr 1 (List.map Zb s3.2)), (.cells [(.d (Zb m1_0)), (.d (Zb m1_1)), (.d (D.list t0 (List.map ZV m1_2))), (.d (D.list t1 (List.map ZS m1_3))), (.d (D.list t2 (List.map Zu m1_4))), (.d (D.list t3 (List.map Zs m1_5)))])] = some ((ZbE t0 t1 t2 t3 b m1_0 m1_1 m1_2 m1_3 m1_4 m1_5) r) := by
 refine ZaY (ZbE t0 t1 t2 t3 b m1_0 m1_1 m1_2 m1_3 m1_4 m1_5) ?_
 intro s3 rcl ih
 show ZQ _ _ (lpW _ _ _ _ _ _ _)
 unfold Zax
 rw [ZaX]
 conv => arg 3; whnf
 refine Ze rfl ?_ ?_
 ·conv => arg 3; whnf
  refine Zj rfl rfl fun x4 hx4 => ?_
  conv => arg 3; whnf
  refine Zg (Zv rfl hx4) ?_
  conv => arg 3; whnf
  refine Zj rfl rfl fun x5 hx5 => ?_
  conv => arg 3; whnf
  refine Zg (Zv rfl hx5) ?_
  conv => arg 3; whnf
  refine Zg (Za1 rfl hx5) ?_
  conv => arg 3; whnf
  refine Zg (Zv rfl hx5) ?_
  conv => arg 3; whnf
  refine Zo (Zat Zb s3.2 b.toNat x4) ?_
  conv => arg 3; whnf
  refine Zj rfl rfl fun x6 hx6 => ?_
  conv => arg 3; whnf
  refine Zg (Zv rfl hx6) ?_
  conv => arg 3; whnf
  refine Zo (Zat Zb (List.set s3.2 b.toNat x4) (w64 (b + s3.1)).toNat x5) ?_
  conv => arg 3; whnf
  refine Zc _ ZbR fun x7 hx7 => ?_
  conv => arg 3; whnf
  exact Zd (ih _)
 ·conv => arg 3; whnf
  exact Zf rfl
theorem Zah {t0 : Bool} {t1 : Bool} {t2 : Bool} {t3 : Bool} {b : Int} {c : Int} {m0_0 : (List Int)} {m1_0 : Int} {m1_1 : Int} {m1_2 : (List ZK)} {m1_3 : (List ZJ)} {m1_4 : (List Zq)} {m1_5 : (List Zi)} : ∀ r, (Z0 b c (fun z0 z1 => Zp z0 z1 m1_4) m0_0) = some r → evW ctx 127 [(.sl 0 1), (.d (Zb b)), (.d (Zb c)), (.fn 118 [(.ptr 1 0)])] [(.arr 1 (List.map Zb m0_0)), (.cells [(.d (Zb m1_0)), (.d (Zb m1_1)), (.d (D.list t0 (List.map ZV m1_2))), (.d (D.list t1 (List.map ZS m1_3))), (.d (D.list t2 (List.map Zu m1_4))), (.d (D.list t3 (List.map Zs m1_5)))])] = some ((ZbU t0 t1 t2 t3 b c m0_0 m1_0 m1_1 m1_2 m1_3 m1_4 m1_5) r) := by
 show ZQ _ (fun r rhs => rhs = some ((ZbU t0 t1 t2 t3 b c m0_0 m1_0 m1_1 m1_2 m1_3 m1_4 m1_5) r)) _
 unfold Z0
 rw [Zfc ctx 127 Ztj _ _ rfl rfl]
 conv => arg 3; whnf
 refine Zae rfl ?_
 conv => arg 3; whnf
 refine Zc _ (Zdn _) fun r2 hr2 => ?_
 conv => arg 3; whnf
 refine Zc _ (Zdu _) fun r8 hr8 => ?_
 conv => arg 3; whnf
 exact Zf rfl
def Zb3 (t0 : Bool) (t1 : Bool) (t2 : Bool) (t3 : Bool) (b : Int) (c : Int) (m0_0 : (List Int)) (m1_0 : Int) (m2_0 : Int) (m2_1 : Int) (m2_2 : (List ZK)) (m2_3 : (List ZJ)) (m2_4 : (List Zq)) (m2_5 : (List Zi)) : (Int × Int × Int) → V × Zk
  | r => ((.d (D.tup [(Zb r.1), (Zb r.2.1)])), [(.arr 1 (List.map Zb m0_0)), (.cells [(.d (Zb r.2.2))]), (.cells [(.d (Zb m2_0)), (.d (Zb m2_1)), (.d (D.list t0 (List.map ZV m2_2))), (.d (D.list t1 (List.map ZS m2_3))), (.d (D.list t2 (List.map Zu m2_4))), (.d (D.list t3 (List.map Zs m2_5)))])])
theorem ZaV {t0 : Bool} {t1 : Bool} {t2 : Bool} {t3 : Bool} {b : Int} {c : Int} {m0_0 : (List Int)} {m1_0 : Int} {m2_0 : Int} {m2_1 : Int} {m2_2 : (List ZK)} {m2_3 : (List ZJ)} {m2_4 : (List Zq)} {m2_5 : (List Zi)} : ∀ r, (ZaE b c (fun z0 z1 => Zp z0 z1 m2_4) m0_0 m1_0) = some r → evW ctx 141 [(.sl 0 1), (.d (Zb b)), (.d (Zb c)), (.ptr 1 0), (.fn 118 [(.ptr 2 0)])] [(.arr 1 (List.map Zb m0_0)), (.cells [(.d (Zb m1_0))]), (.cells [(.d (Zb m2_0)), (.d (Zb m2_1)), (.d (D.list t0 (List.map ZV m2_2))), (.d (D.list t1 (List.map ZS m2_3))), (.d (D.list t2 (List.map Zu m2_4))), (.d (D.list t3 (List.map Zs m2_5)))])] = some ((Zb3 t0 t1 t2 t3 b c m0_0 m1_0 m2_0 m2_1 m2_2 m2_3 m2_4 m2_5) r) := by
 show ZQ _ (fun r rhs => rhs = some ((Zb3 t0 t1 t2 t3 b c m0_0 m1_0 m2_0 m2_1 m2_2 m2_3 m2_4 m2_5) r)) _
 unfold ZaE
 rw [Zfc ctx 141 Zts _ _ rfl rfl]
 conv => arg 3; whnf
 refine Zj rfl rfl fun x0 hx0 => ?_
 conv => arg 3; whnf
 refine Zg (Zv rfl hx0) ?_
 conv => arg 3; whnf
 refine Zj rfl rfl fun x1 hx1 => ?_
 conv => arg 3; whnf
 refine Zg (Zv rfl hx1) ?_
 conv => arg 3; whnf
 refine Zl _ Zz rfl fun x2 hx2 => ?_
 conv => arg 3; whnf
 refine Ze rfl ?_ ?_
 ·conv => arg 3; whnf
  exact Zf rfl
 ·conv => arg 3; whnf
  exact Zf rfl
def Zb6 (t0 : Bool) (t1 : Bool) (t2 : Bool) (t3 : Bool) (b : Int) (c : Int) (d : Int) (m0_0 : (List Int)) (m1_0 : Int) (m2_0 : Int) (m2_1 : Int) (m2_2 : (List ZK)) (m2_3 : (List ZJ)) (m2_4 : (List Zq)) (m2_5 : (List Zi)) : (Int × Int) → V × Zk
  | r => ((.d (Zb r.1)), [(.arr 1 (List.map Zb m0_0)), (.cells [(.d (Zb r.2))]), (.cells [(.d (Zb m2_0)), (.d (Zb m2_1)), (.d (D.list t0 (List.map ZV m2_2))), (.d (D.list t1 (List.map ZS m2_3))), (.d (D.list t2 (List.map Zu m2_4))), (.d (D.list t3 (List.map Zs m2_5)))])])
theorem ZaU {t0 : Bool} {t1 : Bool} {t2 : Bool} {t3 : Bool} {b : Int} {c : Int} {d : Int} {m0_0 : (List Int)} {m1_0 : Int} {m2_0 : Int} {m2_1 : Int} {m2_2 : (List ZK)} {m2_3 : (List ZJ)} {m2_4 : (List Zq)} {m2_5 : (List Zi)} : ∀ r, (ZaD b c d (fun z0 z1 => Zp z0 z1 m2_4) m0_0 m1_0) = some r → evW ctx 140 [(.sl 0 1), (.d (Zb b)), (.d (Zb c)), (.d (Zb d)), (.ptr 1 0), (.fn 118 [(.ptr 2 0)])] [(.arr 1 (List.map Zb m0_0)), (.cells [(.d (Zb m1_0))]), (.cells [(.d (Zb m2_0)), (.d (Zb m2_1)), (.d (D.list t0 (List.map ZV m2_2))), (.d (D.list t1 (List.map ZS m2_3))), (.d (D.list t2 (List.map Zu m2_4))), (.d (D.list t3 (List.map Zs m2_5)))])] = some ((Zb6 t0 t1 t2 t3 b c d m0_0 m1_0 m2_0 m2_1 m2_2 m2_3 m2_4 m2_5) r) := by
 show ZQ _ (fun r rhs => rhs = some ((Zb6 t0 t1 t2 t3 b c d m0_0 m1_0 m2_0 m2_1 m2_2 m2_3 m2_4 m2_5) r)) _
 unfold ZaD
 rw [Zfc ctx 140 Ztk _ _ rfl rfl]
 conv => arg 3; whnf
 refine Zc _ ZaV fun x0 hx0 => ?_
 conv => arg 3; whnf
 refine Zc _ ZaV fun x1 hx1 => ?_
 conv => arg 3; whnf
 refine Zc _ ZaV fun x2 hx2 => ?_
 conv => arg 3; whnf
 exact Zf rfl
def Zbo (t0 : Bool) (t1 : Bool) (t2 : Bool) (t3 : Bool) (b : Int) (m0_0 : (List Int)) (m1_0 : Int) (m2_0 : Int) (m2_1 : Int) (m2_2 : (List ZK)) (m2_3 : (List ZJ)) (m2_4 : (List Zq)) (m2_5 : (List Zi)) : (Int × Int) → V × Zk
  | r => ((.d (Zb r.1)), [(.arr 1 (List.map Zb m0_0)), (.cells [(.d (Zb r.2))]), (.cells [(.d (Zb m2_0)), (.d (Zb m2_1)), (.d (D.list t0 (List.map ZV m2_2))), (.d (D.list t1 (List.map ZS m2_3))), (.d (D.list t2 (List.map Zu m2_4))), (.d (D.list t3 (List.map Zs m2_5)))])])
theorem Zau {t0 : Bool} {t1 : Bool} {t2 : Bool} {t3 : Bool} {b : Int} {m0_0 : (List Int)} {m1_0 : Int} {m2_0 : Int} {m2_1 : Int} {m2_2 : (List ZK)} {m2_3 : (List ZJ)} {m2_4 : (List Zq)} {m2_5 : (List Zi)} : ∀ r, (Z1 b (fun z0 z1 => Zp z0 z1 m2_4) m0_0 m1_0) = some r → evW ctx 139 [(.sl 0 1), (.d (Zb b)), (.ptr 1 0), (.fn 118 [(.ptr 2 0)])] [(.arr 1 (List.map Zb m0_0)), (.cells [(.d (Zb m1_0))]), (.cells [(.d (Zb m2_0)), (.d (Zb m2_1)), (.d (D.list t0 (List.map ZV m2_2))), (.d (D.list t1 (List.map ZS m2_3))), (.d (D.list t2 (List.map Zu m2_4))), (.d (D.list t3 (List.map Zs m2_5)))])] = some ((Zbo t0 t1 t2 t3 b m0_0 m1_0 m2_0 m2_1 m2_2 m2_3 m2_4 m2_5) r) := by
 show ZQ _ (fun r rhs => rhs = some ((Zbo t0 t1 t2 t3 b m0_0 m1_0 m2_0 m2_1 m2_2 m2_3 m2_4 m2_5) r)) _
 unfold Z1
 rw [Zfc ctx 139 ZrM _ _ rfl rfl]
 conv => arg 3; whnf
 refine Zc _ ZaU fun x0 hx0 => ?_
 conv => arg 3; whnf
 exact Zf rfl
def ZbG (t0 : Bool) (t1 : Bool) (t2 : Bool) (t3 : Bool) (b : Int) (c : Int) (m0_0 : (List Int)) (m1_0 : Int) (m1_1 : Int) (m1_2 : (List ZK)) (m1_3 : (List ZJ)) (m1_4 : (List Zq)) (m1_5 : (List Zi)) : (Int × Int) → V × Zk
  | r => ((.d (D.tup [(Zb r.1), (Zb r.2)])), [(.arr 1 (List.map Zb m0_0)), (.cells [(.d (Zb m1_0)), (.d (Zb m1_1)), (.d (D.list t0 (List.map ZV m1_2))), (.d (D.list t1 (List.map ZS m1_3))), (.d (D.list t2 (List.map Zu m1_4))), (.d (D.list t3 (List.map Zs m1_5)))])])
theorem Zab {t0 : Bool} {t1 : Bool} {t2 : Bool} {t3 : Bool} {b : Int} {c : Int} {m0_0 : (List Int)} {m1_0 : Int} {m1_1 : Int} {m1_2 : (List ZK)} {m1_3 : (List ZJ)} {m1_4 : (List Zq)} {m1_5 : (List Zi)} : ∀ r, (ZF b c (fun z0 z1 => Zp z0 z1 m1_4) m0_0) = some r → evW ctx 129 [(.sl 0 1), (.d (Zb b)), (.d (Zb c)), (.fn 118 [(.ptr 1 0)])] [(.arr 1 (List.map Zb m0_0)), (.cells [(.d (Zb m1_0)), (.d (Zb m1_1)), (.d (D.list t0 (List.map ZV m1_2))), (.d (D.list t1 (List.map ZS m1_3))), (.d (D.list t2 (List.map Zu m1_4))), (.d (D.list t3 (List.map Zs m1_5)))])] = some ((ZbG t0 t1 t2 t3 b c m0_0 m1_0 m1_1 m1_2 m1_3 m1_4 m1_5) r) := by
 show ZQ _ (fun r rhs => rhs = some ((ZbG t0 t1 t2 t3 b c m0_0 m1_0 m1_1 m1_2 m1_3 m1_4 m1_5) r)) _
 unfold ZF
 rw [Zfc ctx 129 ZsH _ _ rfl rfl]
 conv => arg 3; whnf
 refine Zae rfl ?_
 conv => arg 3; whnf
 refine Zae rfl ?_
 conv => arg 3; whnf
 refine Zae rfl ?_
 conv => arg 3; whnf
 refine Ze rfl ?_ ?_
 ·conv => arg 3; whnf
  refine Ze rfl ?_ ?_
  ·conv => arg 3; whnf
   refine Zc _ Zau fun x0 hx0 => ?_
   conv => arg 3; whnf
   refine Zc _ Zau fun x1 hx1 => ?_
   conv => arg 3; whnf
   refine Zc _ Zau fun x2 hx2 => ?_
   conv => arg 3; whnf
   refine Zc _ ZaU fun x3 hx3 => ?_
   conv => arg 3; whnf
   refine Ze rfl ?_ ?_
   ·conv => arg 3; whnf
    exact Zf rfl
   ·conv => arg 3; whnf
    refine Ze rfl ?_ ?_
    ·conv => arg 3; whnf
     exact Zf rfl
    ·conv => arg 3; whnf
     exact Zf rfl
  ·conv => arg 3; whnf
   refine Zc _ ZaU fun x4 hx4 => ?_
   conv => arg 3; whnf
   refine Ze rfl ?_ ?_
   ·conv => arg 3; whnf
    exact Zf rfl
   ·conv => arg 3; whnf
    refine Ze rfl ?_ ?_
    ·conv => arg 3; whnf
     exact Zf rfl
    ·conv => arg 3; whnf
     exact Zf rfl
 ·conv => arg 3; whnf
  refine Zcy rfl ?_
  conv => arg 3; whnf
  exact Zf rfl
def ZbB (t0 : Bool) (t1 : Bool) (t2 : Bool) (t3 : Bool) (b : Int) (c : Int) (m0_0 : (List Int)) (m1_0 : Int) (m1_1 : Int) (m1_2 : (List ZK)) (m1_3 : (List ZJ)) (m1_4 : (List Zq)) (m1_5 : (List Zi)) : (List Int) → V × Zk
  | r => ((.d (D.tup [])), [(.arr 1 (List.map Zb r)), (.cells [(.d (Zb m1_0)), (.d (Zb m1_1)), (.d (D.list t0 (List.map ZV m1_2))), (.d (D.list t1 (List.map ZS m1_3))), (.d (D.list t2 (List.map Zu m1_4))), (.d (D.list t3 (List.map Zs m1_5)))])])
def Zbk (t0 : Bool) (t1 : Bool) (t2 : Bool) (t3 : Bool) (m1_0 : Int) (m1_1 : Int) (m1_2 : (List ZK)) (m1_3 : (List ZJ)) (m1_4 : (List Zq)) (m1_5 : (List Zi)) : (List Int) → Ex × List V × Zk
  | r => (.exit 0, [], [(.arr 1 (List.map Zb r)), (.cells [(.d (Zb m1_0)), (.d (Zb m1_1)), (.d (D.list t0 (List.map ZV m1_2))), (.d (D.list t1 (List.map ZS m1_3))), (.d (D.list t2 (List.map Zu m1_4))), (.d (D.list t3 (List.map Zs m1_5)))])])
theorem ZcX {t0 : Bool} {t1 : Bool} {t2 : Bool} {t3 : Bool} {m1_0 : Int} {m1_1 : Int} {m1_2 : (List ZK)} {m1_3 : (List ZJ)} {m1_4 : (List Zq)} {m1_5 : (List Zi)} : ∀ (s0 : Int × Int × (List Int)) (r : (List Int)), lp (ZZ) s0 = some r → lpW ctx 2 [0, 8, 9] [] ZqW [(.sl 0 1), (.d (Zb s0.1)), (.d (Zb s0.2.1))] [(.arr 1 (List.map Zb s0.2.2)), (.cells [(.d (Zb m1_0)), (.d (Zb m1_1)), (.d (D.list t0 (List.map ZV m1_2))), (.d (D.list t1 (List.map ZS m1_3))), (.d (D.list t2 (List.map Zu m1_4))), (.d (D.list t3 (List.map Zs m1_5)))])] = some ((Zbk t0 t1 t2 t3 m1_0 m1_1 m1_2 m1_3 m1_4 m1_5) r) := by
 refine ZaY (Zbk t0 t1 t2 t3 m1_0 m1_1 m1_2 m1_3 m1_4 m1_5) ?_
 intro s0 rcl ih
 show ZQ _ _ (lpW _ _ _ _ _ _ _)
 unfold ZZ
 rw [ZaX]
 conv => arg 3; whnf
 refine Ze rfl ?_ ?_
 ·conv => arg 3; whnf
  refine Zj rfl rfl fun x1 hx1 => ?_
  conv => arg 3; whnf
  refine Zg (Zv rfl hx1) ?_
  conv => arg 3; whnf
  refine Zj rfl rfl fun x2 hx2 => ?_
  conv => arg 3; whnf
  refine Zg (Zv rfl hx2) ?_
  conv => arg 3; whnf
  refine Zg (Za1 rfl hx2) ?_
  conv => arg 3; whnf
  refine Zg (Zv rfl hx2) ?_
  conv => arg 3; whnf
  refine Zo (Zat Zb s0.2.2 s0.1.toNat x1) ?_
  conv => arg 3; whnf
  refine Zj rfl rfl fun x3 hx3 => ?_
  conv => arg 3; whnf
  refine Zg (Zv rfl hx3) ?_
  conv => arg 3; whnf
  refine Zo (Zat Zb (List.set s0.2.2 s0.1.toNat x1) s0.2.1.toNat x2) ?_
  conv => arg 3; whnf
  exact Zd (ih _)
 ·conv => arg 3; whnf
  exact Zf rfl
theorem Z9 {t0 : Bool} {t1 : Bool} {t2 : Bool} {t3 : Bool} {b : Int} {c : Int} {m0_0 : (List Int)} {m1_0 : Int} {m1_1 : Int} {m1_2 : (List ZK)} {m1_3 : (List ZJ)} {m1_4 : (List Zq)} {m1_5 : (List Zi)} : ∀ r, (ZE b c (fun z0 z1 => Zp z0 z1 m1_4) m0_0) = some r → evW ctx 130 [(.sl 0 1), (.d (Zb b)), (.d (Zb c)), (.fn 118 [(.ptr 1 0)])] [(.arr 1 (List.map Zb m0_0)), (.cells [(.d (Zb m1_0)), (.d (Zb m1_1)), (.d (D.list t0 (List.map ZV m1_2))), (.d (D.list t1 (List.map ZS m1_3))), (.d (D.list t2 (List.map Zu m1_4))), (.d (D.list t3 (List.map Zs m1_5)))])] = some ((ZbB t0 t1 t2 t3 b c m0_0 m1_0 m1_1 m1_2 m1_3 m1_4 m1_5) r) := by
 show ZQ _ (fun r rhs => rhs = some ((ZbB t0 t1 t2 t3 b c m0_0 m1_0 m1_1 m1_2 m1_3 m1_4 m1_5) r)) _
 unfold ZE
 rw [Zfc ctx 130 Ztm _ _ rfl rfl]
 conv => arg 3; whnf
 refine Zc _ (ZcX _) fun r4 hr4 => ?_
 conv => arg 3; whnf
 exact Zf rfl
def Za0 (t0 : Bool) (t1 : Bool) (t2 : Bool) (t3 : Bool) (b : Int) (c : Int) (m0_0 : (List Int)) (m1_0 : Int) (m1_1 : Int) (m1_2 : (List ZK)) (m1_3 : (List ZJ)) (m1_4 : (List Zq)) (m1_5 : (List Zi)) : ((List Int) ⊕ (List Int)) → V × Zk
  | (.inl r) => ((.d (D.bool true)), [(.arr 1 (List.map Zb r)), (.cells [(.d (Zb m1_0)), (.d (Zb m1_1)), (.d (D.list t0 (List.map ZV m1_2))), (.d (D.list t1 (List.map ZS m1_3))), (.d (D.list t2 (List.map Zu m1_4))), (.d (D.list t3 (List.map Zs m1_5)))])])
  | (.inr r) => ((.d (D.bool false)), [(.arr 1 (List.map Zb r)), (.cells [(.d (Zb m1_0)), (.d (Zb m1_1)), (.d (D.list t0 (List.map ZV m1_2))), (.d (D.list t1 (List.map ZS m1_3))), (.d (D.list t2 (List.map Zu m1_4))), (.d (D.list t3 (List.map Zs m1_5)))])])
def ZaM (t0 : Bool) (t1 : Bool) (t2 : Bool) (t3 : Bool) (b : Int) (c : Int) (m1_0 : Int) (m1_1 : Int) (m1_2 : (List ZK)) (m1_3 : (List ZJ)) (m1_4 : (List Zq)) (m1_5 : (List Zi)) (s0 : Int × Int × (List Int)) : Int → Ex × List V × Zk
  | r => (.exit 2, [(.sl 0 1), (.d (Zb b)), (.d (Zb c)), (.fn 118 [(.ptr 1 0)]), (.d (Zb r)), (.d (Zb s0.2.1))], [(.arr 1 (List.map Zb s0.2.2)), (.cells [(.d (Zb m1_0)), (.d (Zb m1_1)), (.d (D.list t0 (List.map ZV m1_2))), (.d (D.list t1 (List.map ZS m1_3))), (.d (D.list t2 (List.map Zu m1_4))), (.d (D.list t3 (List.map Zs m1_5)))])])
theorem Zce {t0 : Bool} {t1 : Bool} {t2 : Bool} {t3 : Bool} {b : Int} {c : Int} {m1_0 : Int} {m1_1 : Int} {m1_2 : (List ZK)} {m1_3 : (List ZJ)} {m1_4 : (List Zq)} {m1_5 : (List Zi)} {s0 : Int × Int × (List Int)} : ∀ (s1 : Int) (r : Int), lp (ZD c (fun z0 z1 => Zp z0 z1 m1_4) s0) s1 = some r → lpW ctx 2 [0, 1, 2, 3, 9, 10] [0, 1, 2, 3, 9, 10] ZqH [(.sl 0 1), (.d (Zb b)), (.d (Zb c)), (.fn 118 [(.ptr 1 0)]), (.d (Zb s1)), (.d (Zb s0.2.1))] [(.arr 1 (List.map Zb s0.2.2)), (.cells [(.d (Zb m1_0)), (.d (Zb m1_1)), (.d (D.list t0 (List.map ZV m1_2))), (.d (D.list t1 (List.map ZS m1_3))), (.d (D.list t2 (List.map Zu m1_4))), (.d (D.list t3 (List.map Zs m1_5)))])] = some ((ZaM t0 t1 t2 t3 b c m1_0 m1_1 m1_2 m1_3 m1_4 m1_5 s0) r) := by
 refine ZaY (ZaM t0 t1 t2 t3 b c m1_0 m1_1 m1_2 m1_3 m1_4 m1_5 s0) ?_
 intro s1 rcl ih
 show ZQ _ _ (lpW _ _ _ _ _ _ _)
 unfold ZD
 rw [ZaX]
 conv => arg 3; whnf
 refine Ze rfl ?_ ?_
 ·conv => arg 3; whnf
  refine Zj rfl rfl fun x2 hx2 => ?_
  conv => arg 3; whnf
  refine Zg (Zv rfl hx2) ?_
  conv => arg 3; whnf
  refine Zj rfl rfl fun x3 hx3 => ?_
  conv => arg 3; whnf
  refine Zg (Zv rfl hx3) ?_
  conv => arg 3; whnf
  refine Zl _ Zz rfl fun x4 hx4 => ?_
  conv => arg 3; whnf
  refine Ze rfl ?_ ?_
  ·conv => arg 3; whnf
   exact Zf rfl
  ·conv => arg 3; whnf
   exact Zd (ih _)
 ·conv => arg 3; whnf
  exact Zf rfl
def ZaL (t0 : Bool) (t1 : Bool) (t2 : Bool) (t3 : Bool) (b : Int) (c : Int) (m1_0 : Int) (m1_1 : Int) (m1_2 : (List ZK)) (m1_3 : (List ZJ)) (m1_4 : (List Zq)) (m1_5 : (List Zi)) (s0 : Int × Int × (List Int)) (r5 : Int) : (List Int) → Ex × List V × Zk
  | r => (.exit 4, [(.sl 0 1), (.d (Zb b)), (.d (Zb c)), (.fn 118 [(.ptr 1 0)]), (.d (Zb r5)), (.d (Zb s0.2.1))], [(.arr 1 (List.map Zb r)), (.cells [(.d (Zb m1_0)), (.d (Zb m1_1)), (.d (D.list t0 (List.map ZV m1_2))), (.d (D.list t1 (List.map ZS m1_3))), (.d (D.list t2 (List.map Zu m1_4))), (.d (D.list t3 (List.map Zs m1_5)))])])
theorem Zcg {t0 : Bool} {t1 : Bool} {t2 : Bool} {t3 : Bool} {b : Int} {c : Int} {m1_0 : Int} {m1_1 : Int} {m1_2 : (List ZK)} {m1_3 : (List ZJ)} {m1_4 : (List Zq)} {m1_5 : (List Zi)} {s0 : Int × Int × (List Int)} {r5 : Int} : ∀ (s9 : Int × (List Int)) (r : (List Int)), lp (ZN (fun z0 z1 => Zp z0 z1 m1_4)) s9 = some r → lpW ctx 2 [0, 1, 2, 3, 9, 10, 11] [0, 1, 2, 3, 9, 10] ZqE [(.sl 0 1), (.d (Zb b)), (.d (Zb c)), (.fn 118 [(.ptr 1 0)]), (.d (Zb r5)), (.d (Zb s0.2.1)), (.d (Zb s9.1))] [(.arr 1 (List.map Zb s9.2)), (.cells [(.d (Zb m1_0)), (.d (Zb m1_1)), (.d (D.list t0 (List.map ZV m1_2))), (.d (D.list t1 (List.map ZS m1_3))), (.d (D.list t2 (List.map Zu m1_4))), (.d (D.list t3 (List.map Zs m1_5)))])] = some ((ZaL t0 t1 t2 t3 b c m1_0 m1_1 m1_2 m1_3 m1_4 m1_5 s0 r5) r) := by
 refine ZaY (ZaL t0 t1 t2 t3 b c m1_0 m1_1 m1_2 m1_3 m1_4 m1_5 s0 r5) ?_
 intro s9 rcl ih
 show ZQ _ _ (lpW _ _ _ _ _ _ _)
 unfold ZN
 rw [ZaX]
 conv => arg 3; whnf
 refine Ze rfl ?_ ?_
 ·conv => arg 3; whnf
  refine Zj rfl rfl fun x10 hx10 => ?_
  conv => arg 3; whnf
  refine Zg (Zv rfl hx10) ?_
  conv => arg 3; whnf
  refine Zj rfl rfl fun x11 hx11 => ?_
  conv => arg 3; whnf
  refine Zg (Zv rfl hx11) ?_
  conv => arg 3; whnf
  refine Zl _ Zz rfl fun x12 hx12 => ?_
  conv => arg 3; whnf
  refine Ze rfl ?_ ?_
  ·conv => arg 3; whnf
   refine Zg (Za1 rfl hx11) ?_
   conv => arg 3; whnf
   refine Zg (Zv rfl hx11) ?_
   conv => arg 3; whnf
   refine Zg (Za1 rfl hx10) ?_
   conv => arg 3; whnf
   refine Zg (Zv rfl hx10) ?_
   conv => arg 3; whnf
   refine Zg (Za1 rfl hx10) ?_
   conv => arg 3; whnf
   refine Zg (Zv rfl hx10) ?_
   conv => arg 3; whnf
   refine Zo (Zat Zb s9.2 s9.1.toNat x11) ?_
   conv => arg 3; whnf
   refine Zj rfl rfl fun x13 hx13 => ?_
   conv => arg 3; whnf
   refine Zg (Zv rfl hx13) ?_
   conv => arg 3; whnf
   refine Zo (Zat Zb (List.set s9.2 s9.1.toNat x11) (w64 (s9.1 - 1)).toNat x10) ?_
   conv => arg 3; whnf
   exact Zd (ih _)
  ·conv => arg 3; whnf
   exact Zf rfl
 ·conv => arg 3; whnf
  exact Zf rfl
def ZaO (t0 : Bool) (t1 : Bool) (t2 : Bool) (t3 : Bool) (b : Int) (c : Int) (m1_0 : Int) (m1_1 : Int) (m1_2 : (List ZK)) (m1_3 : (List ZJ)) (m1_4 : (List Zq)) (m1_5 : (List Zi)) (s0 : Int × Int × (List Int)) (r5 : Int) : (List Int) → Ex × List V × Zk
  | r => (.exit 6, [(.sl 0 1), (.d (Zb b)), (.d (Zb c)), (.fn 118 [(.ptr 1 0)]), (.d (Zb r5)), (.d (Zb s0.2.1))], [(.arr 1 (List.map Zb r)), (.cells [(.d (Zb m1_0)), (.d (Zb m1_1)), (.d (D.list t0 (List.map ZV m1_2))), (.d (D.list t1 (List.map ZS m1_3))), (.d (D.list t2 (List.map Zu m1_4))), (.d (D.list t3 (List.map Zs m1_5)))])])
theorem Zcf {t0 : Bool} {t1 : Bool} {t2 : Bool} {t3 : Bool} {b : Int} {c : Int} {m1_0 : Int} {m1_1 : Int} {m1_2 : (List ZK)} {m1_3 : (List ZJ)} {m1_4 : (List Zq)} {m1_5 : (List Zi)} {s0 : Int × Int × (List Int)} {r5 : Int} : ∀ (s15 : Int × (List Int)) (r : (List Int)), lp (ZB c (fun z0 z1 => Zp z0 z1 m1_4)) s15 = some r → lpW ctx 2 [0, 1, 2, 3, 9, 10, 12] [0, 1, 2, 3, 9, 10] Zn2 [(.sl 0 1), (.d (Zb b)), (.d (Zb c)), (.fn 118 [(.ptr 1 0)]), (.d (Zb r5)), (.d (Zb s0.2.1)), (.d (Zb s15.1))] [(.arr 1 (List.map Zb s15.2)), (.cells [(.d (Zb m1_0)), (.d (Zb m1_1)), (.d (D.list t0 (List.map ZV m1_2))), (.d (D.list t1 (List.map ZS m1_3))), (.d (D.list t2 (List.map Zu m1_4))), (.d (D.list t3 (List.map Zs m1_5)))])] = some ((ZaO t0 t1 t2 t3 b c m1_0 m1_1 m1_2 m1_3 m1_4 m1_5 s0 r5) r) := by
 refine ZaY (ZaO t0 t1 t2 t3 b c m1_0 m1_1 m1_2 m1_3 m1_4 m1_5 s0 r5) ?_
 intro s15 rcl ih
 show ZQ _ _ (lpW _ _ _ _ _ _ _)
 unfold ZB
 rw [ZaX]
 conv => arg 3; whnf
 refine Ze rfl ?_ ?_
 ·conv => arg 3; whnf
  refine Zj rfl rfl fun x16 hx16 => ?_
  conv => arg 3; whnf
  refine Zg (Zv rfl hx16) ?_
  conv => arg 3; whnf
  refine Zj rfl rfl fun x17 hx17 => ?_
  conv => arg 3; whnf
  refine Zg (Zv rfl hx17) ?_
  conv => arg 3; whnf
  refine Zl _ Zz rfl fun x18 hx18 => ?_
  conv => arg 3; whnf
  refine Ze rfl ?_ ?_
  ·conv => arg 3; whnf
   refine Zg (Za1 rfl hx17) ?_
   conv => arg 3; whnf
   refine Zg (Zv rfl hx17) ?_
   conv => arg 3; whnf
   refine Zg (Za1 rfl hx16) ?_
   conv => arg 3; whnf
   refine Zg (Zv rfl hx16) ?_
   conv => arg 3; whnf
   refine Zg (Za1 rfl hx16) ?_
   conv => arg 3; whnf
   refine Zg (Zv rfl hx16) ?_
   conv => arg 3; whnf
   refine Zo (Zat Zb s15.2 s15.1.toNat x17) ?_
   conv => arg 3; whnf
   refine Zj rfl rfl fun x19 hx19 => ?_
   conv => arg 3; whnf
   refine Zg (Zv rfl hx19) ?_
   conv => arg 3; whnf
   refine Zo (Zat Zb (List.set s15.2 s15.1.toNat x17) (w64 (s15.1 - 1)).toNat x16) ?_
   conv => arg 3; whnf
   exact Zd (ih _)
  ·conv => arg 3; whnf
   exact Zf rfl
 ·conv => arg 3; whnf
  exact Zf rfl
def ZaH (t0 : Bool) (t1 : Bool) (t2 : Bool) (t3 : Bool) (b : Int) (c : Int) (m1_0 : Int) (m1_1 : Int) (m1_2 : (List ZK)) (m1_3 : (List ZJ)) (m1_4 : (List Zq)) (m1_5 : (List Zi)) (s0 : Int × Int × (List Int)) (r5 : Int) : (List Int) → Ex × List V × Zk
  | r => (.exit 6, [(.sl 0 1), (.d (Zb b)), (.d (Zb c)), (.fn 118 [(.ptr 1 0)]), (.d (Zb r5)), (.d (Zb s0.2.1))], [(.arr 1 (List.map Zb r)), (.cells [(.d (Zb m1_0)), (.d (Zb m1_1)), (.d (D.list t0 (List.map ZV m1_2))), (.d (D.list t1 (List.map ZS m1_3))), (.d (D.list t2 (List.map Zu m1_4))), (.d (D.list t3 (List.map Zs m1_5)))])])
theorem Zb8 {t0 : Bool} {t1 : Bool} {t2 : Bool} {t3 : Bool} {b : Int} {c : Int} {m1_0 : Int} {m1_1 : Int} {m1_2 : (List ZK)} {m1_3 : (List ZJ)} {m1_4 : (List Zq)} {m1_5 : (List Zi)} {s0 : Int × Int × (List Int)} {r5 : Int} : ∀ (s21 : Int × (List Int)) (r : (List Int)), lp (Zal c (fun z0 z1 => Zp z0 z1 m1_4)) s21 = some r → lpW ctx 2 [0, 1, 2, 3, 9, 10, 12] [0, 1, 2, 3, 9, 10] Zn2 [(.sl 0 1), (.d (Zb b)), (.d (Zb c)), (.fn 118 [(.ptr 1 0)]), (.d (Zb r5)), (.d (Zb s0.2.1)), (.d (Zb s21.1))] [(.arr 1 (List.map Zb s21.2)), (.cells [(.d (Zb m1_0)), (.d (Zb m1_1)), (.d (D.list t0 (List.map ZV m1_2))), (.d (D.list t1 (List.map ZS m1_3))), (.d (D.list t2 (List.map Zu m1_4))), (.d (D.list t3 (List.map Zs m1_5)))])] = some ((ZaH t0 t1 t2 t3 b c m1_0 m1_1 m1_2 m1_3 m1_4 m1_5 s0 r5) r) := by
 refine ZaY (ZaH t0 t1 t2 t3 b c m1_0 m1_1 m1_2 m1_3 m1_4 m1_5 s0 r5) ?_
 intro s21 rcl ih
 show ZQ _ _ (lpW _ _ _ _ _ _ _)
 unfold Zal
 rw [ZaX]
 conv => arg 3; whnf
 refine Ze rfl ?_ ?_
 ·conv => arg 3; whnf
  refine Zj rfl rfl fun x22 hx22 => ?_
  conv => arg 3; whnf
  refine Zg (Zv rfl hx22) ?_
  conv => arg 3; whnf
  refine Zj rfl rfl fun x23 hx23 => ?_
  conv => arg 3; whnf
  refine Zg (Zv rfl hx23) ?_
  conv => arg 3; whnf
  refine Zl _ Zz rfl fun x24 hx24 => ?_
  conv => arg 3; whnf
  refine Ze rfl ?_ ?_
  ·conv => arg 3; whnf
   refine Zg (Za1 rfl hx23) ?_
   conv => arg 3; whnf
   refine Zg (Zv rfl hx23) ?_
   conv => arg 3; whnf
   refine Zg (Za1 rfl hx22) ?_
   conv => arg 3; whnf
   refine Zg (Zv rfl hx22) ?_
   conv => arg 3; whnf
   refine Zg (Za1 rfl hx22) ?_
   conv => arg 3; whnf
   refine Zg (Zv rfl hx22) ?_
   conv => arg 3; whnf
   refine Zo (Zat Zb s21.2 s21.1.toNat x23) ?_
   conv => arg 3; whnf
   refine Zj rfl rfl fun x25 hx25 => ?_
   conv => arg 3; whnf
   refine Zg (Zv rfl hx25) ?_
   conv => arg 3; whnf
   refine Zo (Zat Zb (List.set s21.2 s21.1.toNat x23) (w64 (s21.1 - 1)).toNat x22) ?_
   conv => arg 3; whnf
   exact Zd (ih _)
  ·conv => arg 3; whnf
   exact Zf rfl
 ·conv => arg 3; whnf
  exact Zf rfl
def ZaN (t0 : Bool) (t1 : Bool) (t2 : Bool) (t3 : Bool) (b : Int) (c : Int) (m1_0 : Int) (m1_1 : Int) (m1_2 : (List ZK)) (m1_3 : (List ZJ)) (m1_4 : (List Zq)) (m1_5 : (List Zi)) : ((List Int) ⊕ ((List Int) ⊕ (List Int))) → Ex × List V × Zk
  | (.inl r) => (.ret, [(.d (D.bool true))], [(.arr 1 (List.map Zb r)), (.cells [(.d (Zb m1_0)), (.d (Zb m1_1)), (.d (D.list t0 (List.map ZV m1_2))), (.d (D.list t1 (List.map ZS m1_3))), (.d (D.list t2 (List.map Zu m1_4))), (.d (D.list t3 (List.map Zs m1_5)))])])
  | (.inr (.inl r)) => (.ret, [(.d (D.bool false))], [(.arr 1 (List.map Zb r)), (.cells [(.d (Zb m1_0)), (.d (Zb m1_1)), (.d (D.list t0 (List.map ZV m1_2))), (.d (D.list t1 (List.map ZS m1_3))), (.d (D.list t2 (List.map Zu m1_4))), (.d (D.list t3 (List.map Zs m1_5)))])])
  | (.inr (.inr r)) => (.exit 0, [.bad], [(.arr 1 (List.map Zb r)), (.cells [(.d (Zb m1_0)), (.d (Zb m1_1)), (.d (D.list t0 (List.map ZV m1_2))), (.d (D.list t1 (List.map ZS m1_3))), (.d (D.list t2 (List.map Zu m1_4))), (.d (D.list t3 (List.map Zs m1_5)))])])
theorem Zcd {t0 : Bool} {t1 : Bool} {t2 : Bool} {t3 : Bool} {b : Int} {c : Int} {m1_0 : Int} {m1_1 : Int} {m1_2 : (List ZK)} {m1_3 : (List ZJ)} {m1_4 : (List Zq)} {m1_5 : (List Zi)} : ∀ (s0 : Int × Int × (List Int)) (r : ((List Int) ⊕ ((List Int) ⊕ (List Int)))), lp (ZM b c (fun z0 z1 => Zp z0 z1 m1_4)) s0 = some r → lpW ctx 2 [0, 1, 2, 3, 9, 10] [8] Zqs [(.sl 0 1), (.d (Zb b)), (.d (Zb c)), (.fn 118 [(.ptr 1 0)]), (.d (Zb s0.1)), (.d (Zb s0.2.1))] [(.arr 1 (List.map Zb s0.2.2)), (.cells [(.d (Zb m1_0)), (.d (Zb m1_1)), (.d (D.list t0 (List.map ZV m1_2))), (.d (D.list t1 (List.map ZS m1_3))), (.d (D.list t2 (List.map Zu m1_4))), (.d (D.list t3 (List.map Zs m1_5)))])] = some ((ZaN t0 t1 t2 t3 b c m1_0 m1_1 m1_2 m1_3 m1_4 m1_5) r) := by
 refine ZaY (ZaN t0 t1 t2 t3 b c m1_0 m1_1 m1_2 m1_3 m1_4 m1_5) ?_
 intro s0 rcl ih
 show ZQ _ _ (lpW _ _ _ _ _ _ _)
 unfold ZM
 rw [ZaX]
 conv => arg 3; whnf
 refine Ze rfl ?_ ?_
 ·conv => arg 3; whnf
  refine Zc _ (Zce _) fun r5 hr5 => ?_
  conv => arg 3; whnf
  refine Ze rfl ?_ ?_
  ·conv => arg 3; whnf
   exact Zf rfl
  ·conv => arg 3; whnf
   refine Ze rfl ?_ ?_
   ·conv => arg 3; whnf
    exact Zf rfl
   ·conv => arg 3; whnf
    refine Zj rfl rfl fun x6 hx6 => ?_
    conv => arg 3; whnf
    refine Zg (Zv rfl hx6) ?_
    conv => arg 3; whnf
    refine Zj rfl rfl fun x7 hx7 => ?_
    conv => arg 3; whnf
    refine Zg (Zv rfl hx7) ?_
    conv => arg 3; whnf
    refine Zg (Za1 rfl hx7) ?_
    conv => arg 3; whnf
    refine Zg (Zv rfl hx7) ?_
    conv => arg 3; whnf
    refine Zo (Zat Zb s0.2.2 r5.toNat x6) ?_
    conv => arg 3; whnf
    refine Zj rfl rfl fun x8 hx8 => ?_
    conv => arg 3; whnf
    refine Zg (Zv rfl hx8) ?_
    conv => arg 3; whnf
    refine Zo (Zat Zb (List.set s0.2.2 r5.toNat x6) (w64 (r5 - 1)).toNat x7) ?_
    conv => arg 3; whnf
    refine Ze rfl ?_ ?_
    ·conv => arg 3; whnf
     refine Zc _ (Zcg _) fun r14 hr14 => ?_
     conv => arg 3; whnf
     refine Ze rfl ?_ ?_
     ·conv => arg 3; whnf
      refine Zc _ (Zcf _) fun r20 hr20 => ?_
      conv => arg 3; whnf
      exact Zd (ih _)
     ·conv => arg 3; whnf
      exact Zd (ih _)
    ·conv => arg 3; whnf
     refine Ze rfl ?_ ?_
     ·conv => arg 3; whnf
      refine Zc _ (Zb8 _) fun r26 hr26 => ?_
      conv => arg 3; whnf
      exact Zd (ih _)
     ·conv => arg 3; whnf
      exact Zd (ih _)
 ·conv => arg 3; whnf
  exact Zf rfl
theorem ZaW {t0 : Bool} {t1 : Bool} {t2 : Bool} {t3 : Bool} {b : Int} {c : Int} {m0_0 : (List Int)} {m1_0 : Int} {m1_1 : Int} {m1_2 : (List ZK)} {m1_3 : (List ZJ)} {m1_4 : (List Zq)} {m1_5 : (List Zi)} : ∀ r, (ZH b c (fun z0 z1 => Zp z0 z1 m1_4) m0_0) = some r → evW ctx 131 [(.sl 0 1), (.d (Zb b)), (.d (Zb c)), (.fn 118 [(.ptr 1 0)])] [(.arr 1 (List.map Zb m0_0)), (.cells [(.d (Zb m1_0)), (.d (Zb m1_1)), (.d (D.list t0 (List.map ZV m1_2))), (.d (D.list t1 (List.map ZS m1_3))), (.d (D.list t2 (List.map Zu m1_4))), (.d (D.list t3 (List.map Zs m1_5)))])] = some ((Za0 t0 t1 t2 t3 b c m0_0 m1_0 m1_1 m1_2 m1_3 m1_4 m1_5) r) := by
 show ZQ _ (fun r rhs => rhs = some ((Za0 t0 t1 t2 t3 b c m0_0 m1_0 m1_1 m1_2 m1_3 m1_4 m1_5) r)) _
 unfold ZH
 rw [Zfc ctx 131 Ztu _ _ rfl rfl]
 conv => arg 3; whnf
 refine Zc _ (Zcd _) fun r27 hr27 => ?_
 clear hr27
 rcases r27 with r27 | (r27 | r27)
 ·conv => arg 3; whnf
  exact Zf rfl
 ·conv => arg 3; whnf
  exact Zf rfl
 ·conv => arg 3; whnf
  exact Zf rfl
def ZbO (t0 : Bool) (t1 : Bool) (t2 : Bool) (t3 : Bool) (b : Int) (c : Int) (d : Int) (m0_0 : (List Int)) (m1_0 : Int) (m1_1 : Int) (m1_2 : (List ZK)) (m1_3 : (List ZJ)) (m1_4 : (List Zq)) (m1_5 : (List Zi)) : ((Int × (List Int)) ⊕ (Int × (List Int))) → V × Zk
  | (.inl r) => ((.d (D.tup [(Zb r.1), (D.bool true)])), [(.arr 1 (List.map Zb r.2)), (.cells [(.d (Zb m1_0)), (.d (Zb m1_1)), (.d (D.list t0 (List.map ZV m1_2))), (.d (D.list t1 (List.map ZS m1_3))), (.d (D.list t2 (List.map Zu m1_4))), (.d (D.list t3 (List.map Zs m1_5)))])])
  | (.inr r) => ((.d (D.tup [(Zb r.1), (D.bool false)])), [(.arr 1 (List.map Zb r.2)), (.cells [(.d (Zb m1_0)), (.d (Zb m1_1)), (.d (D.list t0 (List.map ZV m1_2))), (.d (D.list t1 (List.map ZS m1_3))), (.d (D.list t2 (List.map Zu m1_4))), (.d (D.list t3 (List.map Zs m1_5)))])])
def Zbx (t0 : Bool) (t1 : Bool) (t2 : Bool) (t3 : Bool) (b : Int) (c : Int) (d : Int) (m0_0 : (List Int)) (m1_0 : Int) (m1_1 : Int) (m1_2 : (List ZK)) (m1_3 : (List ZJ)) (m1_4 : (List Zq)) (m1_5 : (List Zi)) (x0 : Int) (x1 : Int) : Int → Ex × List V × Zk
  | r => (.exit 0, [(.sl 0 1), (.d (Zb b)), (.fn 118 [(.ptr 1 0)]), (.d (Zb r)), (.d (Zb (w64 (c - 1))))], [(.arr 1 (List.map Zb (List.set (List.set m0_0 b.toNat x0) d.toNat x1))), (.cells [(.d (Zb m1_0)), (.d (Zb m1_1)), (.d (D.list t0 (List.map ZV m1_2))), (.d (D.list t1 (List.map ZS m1_3))), (.d (D.list t2 (List.map Zu m1_4))), (.d (D.list t3 (List.map Zs m1_5)))])])
theorem Zdk {t0 : Bool} {t1 : Bool} {t2 : Bool} {t3 : Bool} {b : Int} {c : Int} {d : Int} {m0_0 : (List Int)} {m1_0 : Int} {m1_1 : Int} {m1_2 : (List ZK)} {m1_3 : (List ZJ)} {m1_4 : (List Zq)} {m1_5 : (List Zi)} {x0 : Int} {x1 : Int} : ∀ (s3 : Int) (r : Int), lp (Zao b c d m0_0 (fun z0 z1 => Zp z0 z1 m1_4) x0 x1) s3 = some r → lpW ctx 2 [0, 1, 4, 12, 13] [0, 1, 4, 12, 13] Zqo [(.sl 0 1), (.d (Zb b)), (.fn 118 [(.ptr 1 0)]), (.d (Zb s3)), (.d (Zb (w64 (c - 1))))] [(.arr 1 (List.map Zb (List.set (List.set m0_0 b.toNat x0) d.toNat x1))), (.cells [(.d (Zb m1_0)), (.d (Zb m1_1)), (.d (D.list t0 (List.map ZV m1_2))), (.d (D.list t1 (List.map ZS m1_3))), (.d (D.list t2 (List.map Zu m1_4))), (.d (D.list t3 (List.map Zs m1_5)))])] = some ((Zbx t0 t1 t2 t3 b c d m0_0 m1_0 m1_1 m1_2 m1_3 m1_4 m1_5 x0 x1) r) := by
 refine ZaY (Zbx t0 t1 t2 t3 b c d m0_0 m1_0 m1_1 m1_2 m1_3 m1_4 m1_5 x0 x1) ?_
 intro s3 rcl ih
 show ZQ _ _ (lpW _ _ _ _ _ _ _)
 unfold Zao
 rw [ZaX]
 conv => arg 3; whnf
 refine Ze rfl ?_ ?_
 ·conv => arg 3; whnf
  refine Zj rfl rfl fun x4 hx4 => ?_
  conv => arg 3; whnf
  refine Zg (Zv rfl hx4) ?_
  conv => arg 3; whnf
  refine Zj rfl rfl fun x5 hx5 => ?_
  conv => arg 3; whnf
  refine Zg (Zv rfl hx5) ?_
  conv => arg 3; whnf
  refine Zl _ Zz rfl fun x6 hx6 => ?_
  conv => arg 3; whnf
  refine Ze rfl ?_ ?_
  ·conv => arg 3; whnf
   exact Zd (ih _)
  ·conv => arg 3; whnf
   exact Zf rfl
 ·conv => arg 3; whnf
  exact Zf rfl
def Zby (t0 : Bool) (t1 : Bool) (t2 : Bool) (t3 : Bool) (b : Int) (d : Int) (m0_0 : (List Int)) (m1_0 : Int) (m1_1 : Int) (m1_2 : (List ZK)) (m1_3 : (List ZJ)) (m1_4 : (List Zq)) (m1_5 : (List Zi)) (x0 : Int) (x1 : Int) (r7 : Int) : Int → Ex × List V × Zk
  | r => (.exit 2, [(.sl 0 1), (.d (Zb b)), (.fn 118 [(.ptr 1 0)]), (.d (Zb r7)), (.d (Zb r))], [(.arr 1 (List.map Zb (List.set (List.set m0_0 b.toNat x0) d.toNat x1))), (.cells [(.d (Zb m1_0)), (.d (Zb m1_1)), (.d (D.list t0 (List.map ZV m1_2))), (.d (D.list t1 (List.map ZS m1_3))), (.d (D.list t2 (List.map Zu m1_4))), (.d (D.list t3 (List.map Zs m1_5)))])])
theorem Zdh {t0 : Bool} {t1 : Bool} {t2 : Bool} {t3 : Bool} {b : Int} {d : Int} {m0_0 : (List Int)} {m1_0 : Int} {m1_1 : Int} {m1_2 : (List ZK)} {m1_3 : (List ZJ)} {m1_4 : (List Zq)} {m1_5 : (List Zi)} {x0 : Int} {x1 : Int} {r7 : Int} : ∀ (s8 : Int) (r : Int), lp (Zaq b d m0_0 (fun z0 z1 => Zp z0 z1 m1_4) x0 x1 r7) s8 = some r → lpW ctx 2 [0, 1, 4, 12, 13] [0, 1, 4, 12, 13] Zqz [(.sl 0 1), (.d (Zb b)), (.fn 118 [(.ptr 1 0)]), (.d (Zb r7)), (.d (Zb s8))] [(.arr 1 (List.map Zb (List.set (List.set m0_0 b.toNat x0) d.toNat x1))), (.cells [(.d (Zb m1_0)), (.d (Zb m1_1)), (.d (D.list t0 (List.map ZV m1_2))), (.d (D.list t1 (List.map ZS m1_3))), (.d (D.list t2 (List.map Zu m1_4))), (.d (D.list t3 (List.map Zs m1_5)))])] = some ((Zby t0 t1 t2 t3 b d m0_0 m1_0 m1_1 m1_2 m1_3 m1_4 m1_5 x0 x1 r7) r) := by
 refine ZaY (Zby t0 t1 t2 t3 b d m0_0 m1_0 m1_1 m1_2 m1_3 m1_4 m1_5 x0 x1 r7) ?_
 intro s8 rcl ih
 show ZQ _ _ (lpW _ _ _ _ _ _ _)
 unfold Zaq
 rw [ZaX]
 conv => arg 3; whnf
 refine Ze rfl ?_ ?_
 ·conv => arg 3; whnf
  refine Zj rfl rfl fun x9 hx9 => ?_
  conv => arg 3; whnf
  refine Zg (Zv rfl hx9) ?_
  conv => arg 3; whnf
  refine Zj rfl rfl fun x10 hx10 => ?_
  conv => arg 3; whnf
  refine Zg (Zv rfl hx10) ?_
  conv => arg 3; whnf
  refine Zl _ Zz rfl fun x11 hx11 => ?_
  conv => arg 3; whnf
  refine Ze rfl ?_ ?_
  ·conv => arg 3; whnf
   exact Zf rfl
  ·conv => arg 3; whnf
   exact Zd (ih _)
 ·conv => arg 3; whnf
  exact Zf rfl
def Zbw (t0 : Bool) (t1 : Bool) (t2 : Bool) (t3 : Bool) (b : Int) (m1_0 : Int) (m1_1 : Int) (m1_2 : (List ZK)) (m1_3 : (List ZJ)) (m1_4 : (List Zq)) (m1_5 : (List Zi)) (s19 : Int × Int × (List Int)) : Int → Ex × List V × Zk
  | r => (.exit 6, [(.sl 0 1), (.d (Zb b)), (.fn 118 [(.ptr 1 0)]), (.d (Zb r)), (.d (Zb s19.2.1))], [(.arr 1 (List.map Zb s19.2.2)), (.cells [(.d (Zb m1_0)), (.d (Zb m1_1)), (.d (D.list t0 (List.map ZV m1_2))), (.d (D.list t1 (List.map ZS m1_3))), (.d (D.list t2 (List.map Zu m1_4))), (.d (D.list t3 (List.map Zs m1_5)))])])
theorem Zdf {t0 : Bool} {t1 : Bool} {t2 : Bool} {t3 : Bool} {b : Int} {m1_0 : Int} {m1_1 : Int} {m1_2 : (List ZK)} {m1_3 : (List ZJ)} {m1_4 : (List Zq)} {m1_5 : (List Zi)} {s19 : Int × Int × (List Int)} : ∀ (s20 : Int) (r : Int), lp (Zap b (fun z0 z1 => Zp z0 z1 m1_4) s19) s20 = some r → lpW ctx 2 [0, 1, 4, 12, 13] [0, 1, 4, 12, 13] Zqd [(.sl 0 1), (.d (Zb b)), (.fn 118 [(.ptr 1 0)]), (.d (Zb s20)), (.d (Zb s19.2.1))] [(.arr 1 (List.map Zb s19.2.2)), (.cells [(.d (Zb m1_0)), (.d (Zb m1_1)), (.d (D.list t0 (List.map ZV m1_2))), (.d (D.list t1 (List.map ZS m1_3))), (.d (D.list t2 (List.map Zu m1_4))), (.d (D.list t3 (List.map Zs m1_5)))])] = some ((Zbw t0 t1 t2 t3 b m1_0 m1_1 m1_2 m1_3 m1_4 m1_5 s19) r) := by
 refine ZaY (Zbw t0 t1 t2 t3 b m1_0 m1_1 m1_2 m1_3 m1_4 m1_5 s19) ?_
 intro s20 rcl ih
 show ZQ _ _ (lpW _ _ _ _ _ _ _)
 unfold Zap
 rw [ZaX]
 conv => arg 3; whnf
 refine Ze rfl ?_ ?_
 ·conv => arg 3; whnf
  refine Zj rfl rfl fun x21 hx21 => ?_
  conv => arg 3; whnf
  refine Zg (Zv rfl hx21) ?_
  conv => arg 3; whnf
  refine Zj rfl rfl fun x22 hx22 => ?_
  conv => arg 3; whnf
  refine Zg (Zv rfl hx22) ?_
  conv => arg 3; whnf
  refine Zl _ Zz rfl fun x23 hx23 => ?_
  conv => arg 3; whnf
  refine Ze rfl ?_ ?_
  ·conv => arg 3; whnf
   exact Zd (ih _)
  ·conv => arg 3; whnf
   exact Zf rfl
 ·conv => arg 3; whnf
  exact Zf rfl
def ZbC (t0 : Bool) (t1 : Bool) (t2 : Bool) (t3 : Bool) (b : Int) (m1_0 : Int) (m1_1 : Int) (m1_2 : (List ZK)) (m1_3 : (List ZJ)) (m1_4 : (List Zq)) (m1_5 : (List Zi)) (s19 : Int × Int × (List Int)) (r24 : Int) : Int → Ex × List V × Zk
  | r => (.exit 8, [(.sl 0 1), (.d (Zb b)), (.fn 118 [(.ptr 1 0)]), (.d (Zb r24)), (.d (Zb r))], [(.arr 1 (List.map Zb s19.2.2)), (.cells [(.d (Zb m1_0)), (.d (Zb m1_1)), (.d (D.list t0 (List.map ZV m1_2))), (.d (D.list t1 (List.map ZS m1_3))), (.d (D.list t2 (List.map Zu m1_4))), (.d (D.list t3 (List.map Zs m1_5)))])])
theorem Zdi {t0 : Bool} {t1 : Bool} {t2 : Bool} {t3 : Bool} {b : Int} {m1_0 : Int} {m1_1 : Int} {m1_2 : (List ZK)} {m1_3 : (List ZJ)} {m1_4 : (List Zq)} {m1_5 : (List Zi)} {s19 : Int × Int × (List Int)} {r24 : Int} : ∀ (s25 : Int) (r : Int), lp (Zan b (fun z0 z1 => Zp z0 z1 m1_4) s19 r24) s25 = some r → lpW ctx 2 [0, 1, 4, 12, 13] [0, 1, 4, 12, 13] ZqA [(.sl 0 1), (.d (Zb b)), (.fn 118 [(.ptr 1 0)]), (.d (Zb r24)), (.d (Zb s25))] [(.arr 1 (List.map Zb s19.2.2)), (.cells [(.d (Zb m1_0)), (.d (Zb m1_1)), (.d (D.list t0 (List.map ZV m1_2))), (.d (D.list t1 (List.map ZS m1_3))), (.d (D.list t2 (List.map Zu m1_4))), (.d (D.list t3 (List.map Zs m1_5)))])] = some ((ZbC t0 t1 t2 t3 b m1_0 m1_1 m1_2 m1_3 m1_4 m1_5 s19 r24) r) := by
 refine ZaY (ZbC t0 t1 t2 t3 b m1_0 m1_1 m1_2 m1_3 m1_4 m1_5 s19 r24) ?_
 intro s25 rcl ih
 show ZQ _ _ (lpW _ _ _ _ _ _ _)
 unfold Zan
 rw [ZaX]
 conv => arg 3; whnf
 refine Ze rfl ?_ ?_
 ·conv => arg 3; whnf
  refine Zj rfl rfl fun x26 hx26 => ?_
  conv => arg 3; whnf
  refine Zg (Zv rfl hx26) ?_
  conv => arg 3; whnf
  refine Zj rfl rfl fun x27 hx27 => ?_
  conv => arg 3; whnf
  refine Zg (Zv rfl hx27) ?_
  conv => arg 3; whnf
  refine Zl _ Zz rfl fun x28 hx28 => ?_
  conv => arg 3; whnf
  refine Ze rfl ?_ ?_
  ·conv => arg 3; whnf
   exact Zf rfl
  ·conv => arg 3; whnf
   exact Zd (ih _)
 ·conv => arg 3; whnf
  exact Zf rfl
def Zbv (t0 : Bool) (t1 : Bool) (t2 : Bool) (t3 : Bool) (b : Int) (m1_0 : Int) (m1_1 : Int) (m1_2 : (List ZK)) (m1_3 : (List ZJ)) (m1_4 : (List Zq)) (m1_5 : (List Zi)) : (Int × (List Int)) → Ex × List V × Zk
  | r => (.exit 4, [(.sl 0 1), (.d (Zb b)), (.d (Zb r.1))], [(.arr 1 (List.map Zb r.2)), (.cells [(.d (Zb m1_0)), (.d (Zb m1_1)), (.d (D.list t0 (List.map ZV m1_2))), (.d (D.list t1 (List.map ZS m1_3))), (.d (D.list t2 (List.map Zu m1_4))), (.d (D.list t3 (List.map Zs m1_5)))])])
theorem Zdl {t0 : Bool} {t1 : Bool} {t2 : Bool} {t3 : Bool} {b : Int} {m1_0 : Int} {m1_1 : Int} {m1_2 : (List ZK)} {m1_3 : (List ZJ)} {m1_4 : (List Zq)} {m1_5 : (List Zi)} : ∀ (s19 : Int × Int × (List Int)) (r : (Int × (List Int))), lp (ZaJ b (fun z0 z1 => Zp z0 z1 m1_4)) s19 = some r → lpW ctx 2 [0, 1, 4, 12, 13] [0, 1, 13] Zqh [(.sl 0 1), (.d (Zb b)), (.fn 118 [(.ptr 1 0)]), (.d (Zb s19.1)), (.d (Zb s19.2.1))] [(.arr 1 (List.map Zb s19.2.2)), (.cells [(.d (Zb m1_0)), (.d (Zb m1_1)), (.d (D.list t0 (List.map ZV m1_2))), (.d (D.list t1 (List.map ZS m1_3))), (.d (D.list t2 (List.map Zu m1_4))), (.d (D.list t3 (List.map Zs m1_5)))])] = some ((Zbv t0 t1 t2 t3 b m1_0 m1_1 m1_2 m1_3 m1_4 m1_5) r) := by
 refine ZaY (Zbv t0 t1 t2 t3 b m1_0 m1_1 m1_2 m1_3 m1_4 m1_5) ?_
 intro s19 rcl ih
 show ZQ _ _ (lpW _ _ _ _ _ _ _)
 unfold ZaJ
 rw [ZaX]
 conv => arg 3; whnf
 refine Zc _ (Zdf _) fun r24 hr24 => ?_
 conv => arg 3; whnf
 refine Zc _ (Zdi _) fun r29 hr29 => ?_
 conv => arg 3; whnf
 refine Ze rfl ?_ ?_
 ·conv => arg 3; whnf
  exact Zf rfl
 ·conv => arg 3; whnf
  refine Zj rfl rfl fun x30 hx30 => ?_
  conv => arg 3; whnf
  refine Zg (Zv rfl hx30) ?_
  conv => arg 3; whnf
  refine Zj rfl rfl fun x31 hx31 => ?_
  conv => arg 3; whnf
  refine Zg (Zv rfl hx31) ?_
  conv => arg 3; whnf
  refine Zg (Za1 rfl hx31) ?_
  conv => arg 3; whnf
  refine Zg (Zv rfl hx31) ?_
  conv => arg 3; whnf
  refine Zo (Zat Zb s19.2.2 r24.toNat x30) ?_
  conv => arg 3; whnf
  refine Zj rfl rfl fun x32 hx32 => ?_
  conv => arg 3; whnf
  refine Zg (Zv rfl hx32) ?_
  conv => arg 3; whnf
  refine Zo (Zat Zb (List.set s19.2.2 r24.toNat x30) r29.toNat x31) ?_
  conv => arg 3; whnf
  exact Zd (ih _)
theorem Zh {t0 : Bool} {t1 : Bool} {t2 : Bool} {t3 : Bool} {b : Int} {c : Int} {d : Int} {m0_0 : (List Int)} {m1_0 : Int} {m1_1 : Int} {m1_2 : (List ZK)} {m1_3 : (List ZJ)} {m1_4 : (List Zq)} {m1_5 : (List Zi)} : ∀ r, (Zn b c d (fun z0 z1 => Zp z0 z1 m1_4) m0_0) = some r → evW ctx 133 [(.sl 0 1), (.d (Zb b)), (.d (Zb c)), (.d (Zb d)), (.fn 118 [(.ptr 1 0)])] [(.arr 1 (List.map Zb m0_0)), (.cells [(.d (Zb m1_0)), (.d (Zb m1_1)), (.d (D.list t0 (List.map ZV m1_2))), (.d (D.list t1 (List.map ZS m1_3))), (.d (D.list t2 (List.map Zu m1_4))), (.d (D.list t3 (List.map Zs m1_5)))])] = some ((ZbO t0 t1 t2 t3 b c d m0_0 m1_0 m1_1 m1_2 m1_3 m1_4 m1_5) r) := by
 show ZQ _ (fun r rhs => rhs = some ((ZbO t0 t1 t2 t3 b c d m0_0 m1_0 m1_1 m1_2 m1_3 m1_4 m1_5) r)) _
 unfold Zn
 rw [Zfc ctx 133 ZtC _ _ rfl rfl]
 conv => arg 3; whnf
 refine Zj rfl rfl fun x0 hx0 => ?_
 conv => arg 3; whnf
 refine Zg (Zv rfl hx0) ?_
 conv => arg 3; whnf
 refine Zj rfl rfl fun x1 hx1 => ?_
 conv => arg 3; whnf
 refine Zg (Zv rfl hx1) ?_
 conv => arg 3; whnf
 refine Zg (Za1 rfl hx1) ?_
 conv => arg 3; whnf
 refine Zg (Zv rfl hx1) ?_
 conv => arg 3; whnf
 refine Zo (Zat Zb m0_0 b.toNat x0) ?_
 conv => arg 3; whnf
 refine Zj rfl rfl fun x2 hx2 => ?_
 conv => arg 3; whnf
 refine Zg (Zv rfl hx2) ?_
 conv => arg 3; whnf
 refine Zo (Zat Zb (List.set m0_0 b.toNat x0) d.toNat x1) ?_
 conv => arg 3; whnf
 refine Zc _ (Zdk _) fun r7 hr7 => ?_
 conv => arg 3; whnf
 refine Zc _ (Zdh _) fun r12 hr12 => ?_
 conv => arg 3; whnf
 refine Ze rfl ?_ ?_
 ·conv => arg 3; whnf
  refine Zj rfl rfl fun x13 hx13 => ?_
  conv => arg 3; whnf
  refine Zg (Zv rfl hx13) ?_
  conv => arg 3; whnf
  refine Zj rfl rfl fun x14 hx14 => ?_
  conv => arg 3; whnf
  refine Zg (Zv rfl hx14) ?_
  conv => arg 3; whnf
  refine Zg (Za1 rfl hx14) ?_
  conv => arg 3; whnf
  refine Zg (Zv rfl hx14) ?_
  conv => arg 3; whnf
  refine Zo (Zat Zb (List.set (List.set m0_0 b.toNat x0) d.toNat x1) r12.toNat x13) ?_
  conv => arg 3; whnf
  refine Zj rfl rfl fun x15 hx15 => ?_
  conv => arg 3; whnf
  refine Zg (Zv rfl hx15) ?_
  conv => arg 3; whnf
  refine Zo (Zat Zb (List.set (List.set (List.set m0_0 b.toNat x0) d.toNat x1) r12.toNat x13) b.toNat x14) ?_
  conv => arg 3; whnf
  exact Zf rfl
 ·conv => arg 3; whnf
  refine Zj rfl rfl fun x16 hx16 => ?_
  conv => arg 3; whnf
  refine Zg (Zv rfl hx16) ?_
  conv => arg 3; whnf
  refine Zj rfl rfl fun x17 hx17 => ?_
  conv => arg 3; whnf
  refine Zg (Zv rfl hx17) ?_
  conv => arg 3; whnf
  refine Zg (Za1 rfl hx17) ?_
  conv => arg 3; whnf
  refine Zg (Zv rfl hx17) ?_
  conv => arg 3; whnf
  refine Zo (Zat Zb (List.set (List.set m0_0 b.toNat x0) d.toNat x1) r7.toNat x16) ?_
  conv => arg 3; whnf
  refine Zj rfl rfl fun x18 hx18 => ?_
  conv => arg 3; whnf
  refine Zg (Zv rfl hx18) ?_
  conv => arg 3; whnf
  refine Zo (Zat Zb (List.set (List.set (List.set m0_0 b.toNat x0) d.toNat x1) r7.toNat x16) r12.toNat x17) ?_
  conv => arg 3; whnf
  refine Zc _ (Zdl _) fun r33 hr33 => ?_
  conv => arg 3; whnf
  refine Zj rfl rfl fun x34 hx34 => ?_
  conv => arg 3; whnf
  refine Zg (Zv rfl hx34) ?_
  conv => arg 3; whnf
  refine Zj rfl rfl fun x35 hx35 => ?_
  conv => arg 3; whnf
  refine Zg (Zv rfl hx35) ?_
  conv => arg 3; whnf
  refine Zg (Za1 rfl hx35) ?_
  conv => arg 3; whnf
  refine Zg (Zv rfl hx35) ?_
  conv => arg 3; whnf
  refine Zo (Zat Zb r33.2 r33.1.toNat x34) ?_
  conv => arg 3; whnf
  refine Zj rfl rfl fun x36 hx36 => ?_
  conv => arg 3; whnf
  refine Zg (Zv rfl hx36) ?_
  conv => arg 3; whnf
  refine Zo (Zat Zb (List.set r33.2 r33.1.toNat x34) b.toNat x35) ?_
  conv => arg 3; whnf
  exact Zf rfl
def Zbm (t0 : Bool) (t1 : Bool) (t2 : Bool) (t3 : Bool) (b : Int) (c : Int) (d : Int) (m0_0 : (List Int)) (m1_0 : Int) (m1_1 : Int) (m1_2 : (List ZK)) (m1_3 : (List ZJ)) (m1_4 : (List Zq)) (m1_5 : (List Zi)) : (Int × (List Int)) → V × Zk
  | r => ((.d (Zb r.1)), [(.arr 1 (List.map Zb r.2)), (.cells [(.d (Zb m1_0)), (.d (Zb m1_1)), (.d (D.list t0 (List.map ZV m1_2))), (.d (D.list t1 (List.map ZS m1_3))), (.d (D.list t2 (List.map Zu m1_4))), (.d (D.list t3 (List.map Zs m1_5)))])])
def Zba (t0 : Bool) (t1 : Bool) (t2 : Bool) (t3 : Bool) (b : Int) (m1_0 : Int) (m1_1 : Int) (m1_2 : (List ZK)) (m1_3 : (List ZJ)) (m1_4 : (List Zq)) (m1_5 : (List Zi)) (s3 : Int × Int × (List Int)) : Int → Ex × List V × Zk
  | r => (.exit 2, [(.sl 0 1), (.d (Zb b)), (.fn 118 [(.ptr 1 0)]), (.d (Zb r)), (.d (Zb s3.2.1))], [(.arr 1 (List.map Zb s3.2.2)), (.cells [(.d (Zb m1_0)), (.d (Zb m1_1)), (.d (D.list t0 (List.map ZV m1_2))), (.d (D.list t1 (List.map ZS m1_3))), (.d (D.list t2 (List.map Zu m1_4))), (.d (D.list t3 (List.map Zs m1_5)))])])
theorem ZcF {t0 : Bool} {t1 : Bool} {t2 : Bool} {t3 : Bool} {b : Int} {m1_0 : Int} {m1_1 : Int} {m1_2 : (List ZK)} {m1_3 : (List ZJ)} {m1_4 : (List Zq)} {m1_5 : (List Zi)} {s3 : Int × Int × (List Int)} : ∀ (s4 : Int) (r : Int), lp (Z8 b (fun z0 z1 => Zp z0 z1 m1_4) s3) s4 = some r → lpW ctx 2 [0, 1, 4, 11, 12] [0, 1, 4, 11, 12] Zqn [(.sl 0 1), (.d (Zb b)), (.fn 118 [(.ptr 1 0)]), (.d (Zb s4)), (.d (Zb s3.2.1))] [(.arr 1 (List.map Zb s3.2.2)), (.cells [(.d (Zb m1_0)), (.d (Zb m1_1)), (.d (D.list t0 (List.map ZV m1_2))), (.d (D.list t1 (List.map ZS m1_3))), (.d (D.list t2 (List.map Zu m1_4))), (.d (D.list t3 (List.map Zs m1_5)))])] = some ((Zba t0 t1 t2 t3 b m1_0 m1_1 m1_2 m1_3 m1_4 m1_5 s3) r) := by
 refine ZaY (Zba t0 t1 t2 t3 b m1_0 m1_1 m1_2 m1_3 m1_4 m1_5 s3) ?_
 intro s4 rcl ih
 show ZQ _ _ (lpW _ _ _ _ _ _ _)
 unfold Z8
 rw [ZaX]
 conv => arg 3; whnf
 refine Ze rfl ?_ ?_
 ·conv => arg 3; whnf
  refine Zj rfl rfl fun x5 hx5 => ?_
  conv => arg 3; whnf
  refine Zg (Zv rfl hx5) ?_
  conv => arg 3; whnf
  refine Zj rfl rfl fun x6 hx6 => ?_
  conv => arg 3; whnf
  refine Zg (Zv rfl hx6) ?_
  conv => arg 3; whnf
  refine Zl _ Zz rfl fun x7 hx7 => ?_
  conv => arg 3; whnf
  refine Ze rfl ?_ ?_
  ·conv => arg 3; whnf
   exact Zf rfl
  ·conv => arg 3; whnf
   exact Zd (ih _)
 ·conv => arg 3; whnf
  exact Zf rfl
def Za7 (t0 : Bool) (t1 : Bool) (t2 : Bool) (t3 : Bool) (b : Int) (m1_0 : Int) (m1_1 : Int) (m1_2 : (List ZK)) (m1_3 : (List ZJ)) (m1_4 : (List Zq)) (m1_5 : (List Zi)) (s3 : Int × Int × (List Int)) (r8 : Int) : Int → Ex × List V × Zk
  | r => (.exit 4, [(.sl 0 1), (.d (Zb b)), (.fn 118 [(.ptr 1 0)]), (.d (Zb r8)), (.d (Zb r))], [(.arr 1 (List.map Zb s3.2.2)), (.cells [(.d (Zb m1_0)), (.d (Zb m1_1)), (.d (D.list t0 (List.map ZV m1_2))), (.d (D.list t1 (List.map ZS m1_3))), (.d (D.list t2 (List.map Zu m1_4))), (.d (D.list t3 (List.map Zs m1_5)))])])
theorem ZcD {t0 : Bool} {t1 : Bool} {t2 : Bool} {t3 : Bool} {b : Int} {m1_0 : Int} {m1_1 : Int} {m1_2 : (List ZK)} {m1_3 : (List ZJ)} {m1_4 : (List Zq)} {m1_5 : (List Zi)} {s3 : Int × Int × (List Int)} {r8 : Int} : ∀ (s9 : Int) (r : Int), lp (Z7 b (fun z0 z1 => Zp z0 z1 m1_4) s3 r8) s9 = some r → lpW ctx 2 [0, 1, 4, 11, 12] [0, 1, 4, 11, 12] Zqv [(.sl 0 1), (.d (Zb b)), (.fn 118 [(.ptr 1 0)]), (.d (Zb r8)), (.d (Zb s9))] [(.arr 1 (List.map Zb s3.2.2)), (.cells [(.d (Zb m1_0)), (.d (Zb m1_1)), (.d (D.list t0 (List.map ZV m1_2))), (.d (D.list t1 (List.map ZS m1_3))), (.d (D.list t2 (List.map Zu m1_4))), (.d (D.list t3 (List.map Zs m1_5)))])] = some ((Za7 t0 t1 t2 t3 b m1_0 m1_1 m1_2 m1_3 m1_4 m1_5 s3 r8) r) := by
 refine ZaY (Za7 t0 t1 t2 t3 b m1_0 m1_1 m1_2 m1_3 m1_4 m1_5 s3 r8) ?_
 intro s9 rcl ih
 show ZQ _ _ (lpW _ _ _ _ _ _ _)
 unfold Z7
 rw [ZaX]
 conv => arg 3; whnf
 refine Ze rfl ?_ ?_
 ·conv => arg 3; whnf
  refine Zj rfl rfl fun x10 hx10 => ?_
  conv => arg 3; whnf
  refine Zg (Zv rfl hx10) ?_
  conv => arg 3; whnf
  refine Zj rfl rfl fun x11 hx11 => ?_
  conv => arg 3; whnf
  refine Zg (Zv rfl hx11) ?_
  conv => arg 3; whnf
  refine Zl _ Zz rfl fun x12 hx12 => ?_
  conv => arg 3; whnf
  refine Ze rfl ?_ ?_
  ·conv => arg 3; whnf
   exact Zd (ih _)
  ·conv => arg 3; whnf
   exact Zf rfl
 ·conv => arg 3; whnf
  exact Zf rfl
def Za8 (t0 : Bool) (t1 : Bool) (t2 : Bool) (t3 : Bool) (b : Int) (m1_0 : Int) (m1_1 : Int) (m1_2 : (List ZK)) (m1_3 : (List ZJ)) (m1_4 : (List Zq)) (m1_5 : (List Zi)) : (Int × (List Int)) → Ex × List V × Zk
  | r => (.exit 0, [(.d (Zb r.1))], [(.arr 1 (List.map Zb r.2)), (.cells [(.d (Zb m1_0)), (.d (Zb m1_1)), (.d (D.list t0 (List.map ZV m1_2))), (.d (D.list t1 (List.map ZS m1_3))), (.d (D.list t2 (List.map Zu m1_4))), (.d (D.list t3 (List.map Zs m1_5)))])])
theorem ZcE {t0 : Bool} {t1 : Bool} {t2 : Bool} {t3 : Bool} {b : Int} {m1_0 : Int} {m1_1 : Int} {m1_2 : (List ZK)} {m1_3 : (List ZJ)} {m1_4 : (List Zq)} {m1_5 : (List Zi)} : ∀ (s3 : Int × Int × (List Int)) (r : (Int × (List Int))), lp (Zar b (fun z0 z1 => Zp z0 z1 m1_4)) s3 = some r → lpW ctx 2 [0, 1, 4, 11, 12] [11] ZqN [(.sl 0 1), (.d (Zb b)), (.fn 118 [(.ptr 1 0)]), (.d (Zb s3.1)), (.d (Zb s3.2.1))] [(.arr 1 (List.map Zb s3.2.2)), (.cells [(.d (Zb m1_0)), (.d (Zb m1_1)), (.d (D.list t0 (List.map ZV m1_2))), (.d (D.list t1 (List.map ZS m1_3))), (.d (D.list t2 (List.map Zu m1_4))), (.d (D.list t3 (List.map Zs m1_5)))])] = some ((Za8 t0 t1 t2 t3 b m1_0 m1_1 m1_2 m1_3 m1_4 m1_5) r) := by
 refine ZaY (Za8 t0 t1 t2 t3 b m1_0 m1_1 m1_2 m1_3 m1_4 m1_5) ?_
 intro s3 rcl ih
 show ZQ _ _ (lpW _ _ _ _ _ _ _)
 unfold Zar
 rw [ZaX]
 conv => arg 3; whnf
 refine Zc _ (ZcF _) fun r8 hr8 => ?_
 conv => arg 3; whnf
 refine Zc _ (ZcD _) fun r13 hr13 => ?_
 conv => arg 3; whnf
 refine Ze rfl ?_ ?_
 ·conv => arg 3; whnf
  exact Zf rfl
 ·conv => arg 3; whnf
  refine Zj rfl rfl fun x14 hx14 => ?_
  conv => arg 3; whnf
  refine Zg (Zv rfl hx14) ?_
  conv => arg 3; whnf
  refine Zj rfl rfl fun x15 hx15 => ?_
  conv => arg 3; whnf
  refine Zg (Zv rfl hx15) ?_
  conv => arg 3; whnf
  refine Zg (Za1 rfl hx15) ?_
  conv => arg 3; whnf
  refine Zg (Zv rfl hx15) ?_
  conv => arg 3; whnf
  refine Zo (Zat Zb s3.2.2 r8.toNat x14) ?_
  conv => arg 3; whnf
  refine Zj rfl rfl fun x16 hx16 => ?_
  conv => arg 3; whnf
  refine Zg (Zv rfl hx16) ?_
  conv => arg 3; whnf
  refine Zo (Zat Zb (List.set s3.2.2 r8.toNat x14) r13.toNat x15) ?_
  conv => arg 3; whnf
  exact Zd (ih _)
theorem Zw {t0 : Bool} {t1 : Bool} {t2 : Bool} {t3 : Bool} {b : Int} {c : Int} {d : Int} {m0_0 : (List Int)} {m1_0 : Int} {m1_1 : Int} {m1_2 : (List ZK)} {m1_3 : (List ZJ)} {m1_4 : (List Zq)} {m1_5 : (List Zi)} : ∀ r, (Zx b c d (fun z0 z1 => Zp z0 z1 m1_4) m0_0) = some r → evW ctx 132 [(.sl 0 1), (.d (Zb b)), (.d (Zb c)), (.d (Zb d)), (.fn 118 [(.ptr 1 0)])] [(.arr 1 (List.map Zb m0_0)), (.cells [(.d (Zb m1_0)), (.d (Zb m1_1)), (.d (D.list t0 (List.map ZV m1_2))), (.d (D.list t1 (List.map ZS m1_3))), (.d (D.list t2 (List.map Zu m1_4))), (.d (D.list t3 (List.map Zs m1_5)))])] = some ((Zbm t0 t1 t2 t3 b c d m0_0 m1_0 m1_1 m1_2 m1_3 m1_4 m1_5) r) := by
 show ZQ _ (fun r rhs => rhs = some ((Zbm t0 t1 t2 t3 b c d m0_0 m1_0 m1_1 m1_2 m1_3 m1_4 m1_5) r)) _
 unfold Zx
 rw [Zfc ctx 132 Ztq _ _ rfl rfl]
 conv => arg 3; whnf
 refine Zj rfl rfl fun x0 hx0 => ?_
 conv => arg 3; whnf
 refine Zg (Zv rfl hx0) ?_
 conv => arg 3; whnf
 refine Zj rfl rfl fun x1 hx1 => ?_
 conv => arg 3; whnf
 refine Zg (Zv rfl hx1) ?_
 conv => arg 3; whnf
 refine Zg (Za1 rfl hx1) ?_
 conv => arg 3; whnf
 refine Zg (Zv rfl hx1) ?_
 conv => arg 3; whnf
 refine Zo (Zat Zb m0_0 b.toNat x0) ?_
 conv => arg 3; whnf
 refine Zj rfl rfl fun x2 hx2 => ?_
 conv => arg 3; whnf
 refine Zg (Zv rfl hx2) ?_
 conv => arg 3; whnf
 refine Zo (Zat Zb (List.set m0_0 b.toNat x0) d.toNat x1) ?_
 conv => arg 3; whnf
 refine Zc _ (ZcE _) fun r17 hr17 => ?_
 conv => arg 3; whnf
 exact Zf rfl
def ZeG (r : Int) : D := (D.int .u64 r)
theorem Zgy {a : Int} : ∀ r, (Zb1 a) = some r → evD ctx 137 [(.d (Zb a))] = some (ZeG r) := by
 show ZQ _ (fun r rhs => rhs = some (ZeG r)) _
 unfold Zb1
 rw [Zbl ctx 137 Zsz _ rfl rfl]
 conv => arg 3; whnf
 refine Zl _ ZgI rfl fun x0 hx0 => ?_
 conv => arg 3; whnf
 refine Ze rfl ?_ ?_
 ·exact ZaA
 ·conv => arg 3; whnf
  exact Zf rfl
def ZeO (m0_0 : Int) : Unit → V × Zk
  | r => ((.d (D.int .u64 (IntKind.u64.wrap (BitVec.ofInt IntKind.u64.bits (IntKind.u64.wrap (BitVec.ofInt IntKind.u64.bits (IntKind.u64.wrap (BitVec.ofInt IntKind.u64.bits m0_0 ^^^ BitVec.ofInt IntKind.u64.bits (IntKind.u64.wrap (m0_0 * 2 ^ 13))).toNat) ^^^ BitVec.ofInt IntKind.u64.bits (Int.fdiv (IntKind.u64.wrap (BitVec.ofInt IntKind.u64.bits m0_0 ^^^ BitVec.ofInt IntKind.u64.bits (IntKind.u64.wrap (m0_0 * 2 ^ 13))).toNat) (2 ^ 7))).toNat) ^^^ BitVec.ofInt IntKind.u64.bits (IntKind.u64.wrap ((IntKind.u64.wrap (BitVec.ofInt IntKind.u64.bits (IntKind.u64.wrap (BitVec.ofInt IntKind.u64.bits m0_0 ^^^ BitVec.ofInt IntKind.u64.bits (IntKind.u64.wrap (m0_0 * 2 ^ 13))).toNat) ^^^ BitVec.ofInt IntKind.u64.bits (Int.fdiv (IntKind.u64.wrap (BitVec.ofInt IntKind.u64.bits m0_0 ^^^ BitVec.ofInt IntKind.u64.bits (IntKind.u64.wrap (m0_0 * 2 ^ 13))).toNat) (2 ^ 7))).toNat) * 2 ^ 17))).toNat))), [(.cells [(.d (D.int .u64 (IntKind.u64.wrap (BitVec.ofInt IntKind.u64.bits (IntKind.u64.wrap (BitVec.ofInt IntKind.u64.bits (IntKind.u64.wrap (BitVec.ofInt IntKind.u64.bits m0_0 ^^^ BitVec.ofInt IntKind.u64.bits (IntKind.u64.wrap (m0_0 * 2 ^ 13))).toNat) ^^^ BitVec.ofInt IntKind.u64.bits (Int.fdiv (IntKind.u64.wrap (BitVec.ofInt IntKind.u64.bits m0_0 ^^^ BitVec.ofInt IntKind.u64.bits (IntKind.u64.wrap (m0_0 * 2 ^ 13))).toNat) (2 ^ 7))).toNat) ^^^ BitVec.ofInt IntKind.u64.bits (IntKind.u64.wrap ((IntKind.u64.wrap (BitVec.ofInt IntKind.u64.bits (IntKind.u64.wrap (BitVec.ofInt IntKind.u64.bits m0_0 ^^^ BitVec.ofInt IntKind.u64.bits (IntKind.u64.wrap (m0_0 * 2 ^ 13))).toNat) ^^^ BitVec.ofInt IntKind.u64.bits (Int.fdiv (IntKind.u64.wrap (BitVec.ofInt IntKind.u64.bits m0_0 ^^^ BitVec.ofInt IntKind.u64.bits (IntKind.u64.wrap (m0_0 * 2 ^ 13))).toNat) (2 ^ 7))).toNat) * 2 ^ 17))).toNat)))])])
theorem ZgL {m0_0 : Int} : ∀ r, Zc5 = some r → evW ctx 138 [(.ptr 0 0)] [(.cells [(.d (D.int .u64 m0_0))])] = some ((ZeO m0_0) r) := by
 show ZQ _ (fun r rhs => rhs = some ((ZeO m0_0) r)) _
 unfold Zc5
 rw [Zfc ctx 138 Zsu _ _ rfl rfl]
 conv => arg 3; whnf
 refine Zae rfl ?_
 conv => arg 3; whnf
 refine Zae rfl ?_
 conv => arg 3; whnf
 refine Zae rfl ?_
 conv => arg 3; whnf
 exact Zf rfl
def Zbu (t0 : Bool) (t1 : Bool) (t2 : Bool) (t3 : Bool) (b : Int) (c : Int) (m0_0 : (List Int)) (m1_0 : Int) (m1_1 : Int) (m1_2 : (List ZK)) (m1_3 : (List ZJ)) (m1_4 : (List Zq)) (m1_5 : (List Zi)) : (List Int) → V × Zk
  | r => ((.d (D.tup [])), [(.arr 1 (List.map Zb r)), (.cells [(.d (Zb m1_0)), (.d (Zb m1_1)), (.d (D.list t0 (List.map ZV m1_2))), (.d (D.list t1 (List.map ZS m1_3))), (.d (D.list t2 (List.map Zu m1_4))), (.d (D.list t3 (List.map Zs m1_5)))])])
def Zbf (t0 : Bool) (t1 : Bool) (t2 : Bool) (t3 : Bool) (b : Int) (c : Int) (m1_0 : Int) (m1_1 : Int) (m1_2 : (List ZK)) (m1_3 : (List ZJ)) (m1_4 : (List Zq)) (m1_5 : (List Zi)) (x0 : Int) : (List Int) → Ex × List V × Zk
  | r => (.exit 0, [], [(.arr 1 (List.map Zb r)), (.cells [(.d (Zb m1_0)), (.d (Zb m1_1)), (.d (D.list t0 (List.map ZV m1_2))), (.d (D.list t1 (List.map ZS m1_3))), (.d (D.list t2 (List.map Zu m1_4))), (.d (D.list t3 (List.map Zs m1_5)))])])
theorem ZcM {t0 : Bool} {t1 : Bool} {t2 : Bool} {t3 : Bool} {b : Int} {c : Int} {m1_0 : Int} {m1_1 : Int} {m1_2 : (List ZK)} {m1_3 : (List ZJ)} {m1_4 : (List Zq)} {m1_5 : (List Zi)} {x0 : Int} : ∀ (s1 : Int × (List Int) × Int) (r : (List Int)), lp (Zav b c x0) s1 = some r → lpW ctx 2 [0, 1, 8, 9, 10, 11] [] ZqK [(.sl 0 1), (.d (Zb b)), (.d (Zb (w64 (c - b)))), (.ptr 2 0), (.d (D.int .u64 x0)), (.d (Zb s1.1))] [(.arr 1 (List.map Zb s1.2.1)), (.cells [(.d (Zb m1_0)), (.d (Zb m1_1)), (.d (D.list t0 (List.map ZV m1_2))), (.d (D.list t1 (List.map ZS m1_3))), (.d (D.list t2 (List.map Zu m1_4))), (.d (D.list t3 (List.map Zs m1_5)))]), (.cells [(.d (D.int .u64 s1.2.2))])] = some ((Zbf t0 t1 t2 t3 b c m1_0 m1_1 m1_2 m1_3 m1_4 m1_5 x0) r) := by
 refine ZaY (Zbf t0 t1 t2 t3 b c m1_0 m1_1 m1_2 m1_3 m1_4 m1_5 x0) ?_
 intro s1 rcl ih
 show ZQ _ _ (lpW _ _ _ _ _ _ _)
 unfold Zav
 rw [ZaX]
 conv => arg 3; whnf
 refine Zae rfl ?_
 conv => arg 3; whnf
 refine Ze rfl ?_ ?_
 ·conv => arg 3; whnf
  refine Zc _ ZgL fun x2 hx2 => ?_
  conv => arg 3; whnf
  refine Ze rfl ?_ ?_
  ·conv => arg 3; whnf
   refine Zj rfl rfl fun x3 hx3 => ?_
   conv => arg 3; whnf
   refine Zg (Zv rfl hx3) ?_
   conv => arg 3; whnf
   refine Zj rfl rfl fun x4 hx4 => ?_
   conv => arg 3; whnf
   refine Zg (Zv rfl hx4) ?_
   conv => arg 3; whnf
   refine Zg (Za1 rfl hx4) ?_
   conv => arg 3; whnf
   refine Zg (Zv rfl hx4) ?_
   conv => arg 3; whnf
   refine Zo (Zat Zb s1.2.1 s1.1.toNat x3) ?_
   conv => arg 3; whnf
   refine Zj rfl rfl fun x5 hx5 => ?_
   conv => arg 3; whnf
   refine Zg (Zv rfl hx5) ?_
   conv => arg 3; whnf
   refine Zo (Zat Zb (List.set s1.2.1 s1.1.toNat x3) (w64 (b + (w64 ((w64 (IntKind.u64.wrap (BitVec.ofInt IntKind.u64.bits (IntKind.u64.wrap (BitVec.ofInt IntKind.u64.bits (IntKind.u64.wrap (BitVec.ofInt IntKind.u64.bits (IntKind.u64.wrap (BitVec.ofInt IntKind.u64.bits s1.2.2 ^^^ BitVec.ofInt IntKind.u64.bits (IntKind.u64.wrap (s1.2.2 * 2 ^ 13))).toNat) ^^^ BitVec.ofInt IntKind.u64.bits (Int.fdiv (IntKind.u64.wrap (BitVec.ofInt IntKind.u64.bits s1.2.2 ^^^ BitVec.ofInt IntKind.u64.bits (IntKind.u64.wrap (s1.2.2 * 2 ^ 13))).toNat) (2 ^ 7))).toNat) ^^^ BitVec.ofInt IntKind.u64.bits (IntKind.u64.wrap ((IntKind.u64.wrap (BitVec.ofInt IntKind.u64.bits (IntKind.u64.wrap (BitVec.ofInt IntKind.u64.bits s1.2.2 ^^^ BitVec.ofInt IntKind.u64.bits (IntKind.u64.wrap (s1.2.2 * 2 ^ 13))).toNat) ^^^ BitVec.ofInt IntKind.u64.bits (Int.fdiv (IntKind.u64.wrap (BitVec.ofInt IntKind.u64.bits s1.2.2 ^^^ BitVec.ofInt IntKind.u64.bits (IntKind.u64.wrap (s1.2.2 * 2 ^ 13))).toNat) (2 ^ 7))).toNat) * 2 ^ 17))).toNat) &&& BitVec.ofInt IntKind.u64.bits (IntKind.u64.wrap (x0 - 1))).toNat)) - (w64 (c - b)))))).toNat x4) ?_
   conv => arg 3; whnf
   exact Zd (ih _)
  ·conv => arg 3; whnf
   refine Zj rfl rfl fun x6 hx6 => ?_
   conv => arg 3; whnf
   refine Zg (Zv rfl hx6) ?_
   conv => arg 3; whnf
   refine Zj rfl rfl fun x7 hx7 => ?_
   conv => arg 3; whnf
   refine Zg (Zv rfl hx7) ?_
   conv => arg 3; whnf
   refine Zg (Za1 rfl hx7) ?_
   conv => arg 3; whnf
   refine Zg (Zv rfl hx7) ?_
   conv => arg 3; whnf
   refine Zo (Zat Zb s1.2.1 s1.1.toNat x6) ?_
   conv => arg 3; whnf
   refine Zj rfl rfl fun x8 hx8 => ?_
   conv => arg 3; whnf
   refine Zg (Zv rfl hx8) ?_
   conv => arg 3; whnf
   refine Zo (Zat Zb (List.set s1.2.1 s1.1.toNat x6) (w64 (b + (w64 (IntKind.u64.wrap (BitVec.ofInt IntKind.u64.bits (IntKind.u64.wrap (BitVec.ofInt IntKind.u64.bits (IntKind.u64.wrap (BitVec.ofInt IntKind.u64.bits (IntKind.u64.wrap (BitVec.ofInt IntKind.u64.bits s1.2.2 ^^^ BitVec.ofInt IntKind.u64.bits (IntKind.u64.wrap (s1.2.2 * 2 ^ 13))).toNat) ^^^ BitVec.ofInt IntKind.u64.bits (Int.fdiv (IntKind.u64.wrap (BitVec.ofInt IntKind.u64.bits s1.2.2 ^^^ BitVec.ofInt IntKind.u64.bits (IntKind.u64.wrap (s1.2.2 * 2 ^ 13))).toNat) (2 ^ 7))).toNat) ^^^ BitVec.ofInt IntKind.u64.bits (IntKind.u64.wrap ((IntKind.u64.wrap (BitVec.ofInt IntKind.u64.bits (IntKind.u64.wrap (BitVec.ofInt IntKind.u64.bits s1.2.2 ^^^ BitVec.ofInt IntKind.u64.bits (IntKind.u64.wrap (s1.2.2 * 2 ^ 13))).toNat) ^^^ BitVec.ofInt IntKind.u64.bits (Int.fdiv (IntKind.u64.wrap (BitVec.ofInt IntKind.u64.bits s1.2.2 ^^^ BitVec.ofInt IntKind.u64.bits (IntKind.u64.wrap (s1.2.2 * 2 ^ 13))).toNat) (2 ^ 7))).toNat) * 2 ^ 17))).toNat) &&& BitVec.ofInt IntKind.u64.bits (IntKind.u64.wrap (x0 - 1))).toNat)))).toNat x7) ?_
   conv => arg 3; whnf
   exact Zd (ih _)
 ·conv => arg 3; whnf
  exact Zf rfl
theorem Zbp {t0 : Bool} {t1 : Bool} {t2 : Bool} {t3 : Bool} {b : Int} {c : Int} {m0_0 : (List Int)} {m1_0 : Int} {m1_1 : Int} {m1_2 : (List ZK)} {m1_3 : (List ZJ)} {m1_4 : (List Zq)} {m1_5 : (List Zi)} : ∀ r, (Z4 b c (fun z0 z1 => Zp z0 z1 m1_4) m0_0) = some r → evW ctx 128 [(.sl 0 1), (.d (Zb b)), (.d (Zb c)), (.fn 118 [(.ptr 1 0)])] [(.arr 1 (List.map Zb m0_0)), (.cells [(.d (Zb m1_0)), (.d (Zb m1_1)), (.d (D.list t0 (List.map ZV m1_2))), (.d (D.list t1 (List.map ZS m1_3))), (.d (D.list t2 (List.map Zu m1_4))), (.d (D.list t3 (List.map Zs m1_5)))])] = some ((Zbu t0 t1 t2 t3 b c m0_0 m1_0 m1_1 m1_2 m1_3 m1_4 m1_5) r) := by
 show ZQ _ (fun r rhs => rhs = some ((Zbu t0 t1 t2 t3 b c m0_0 m1_0 m1_1 m1_2 m1_3 m1_4 m1_5) r)) _
 unfold Z4
 rw [Zfc ctx 128 ZsQ _ _ rfl rfl]
 conv => arg 3; whnf
 refine Ze rfl ?_ ?_
 ·conv => arg 3; whnf
  refine Zl _ Zgy rfl fun x0 hx0 => ?_
  conv => arg 3; whnf
  refine Zae rfl ?_
  conv => arg 3; whnf
  refine Zc _ (ZcM _) fun r9 hr9 => ?_
  conv => arg 3; whnf
  exact Zf rfl
 ·conv => arg 3; whnf
  exact Zf rfl
end Go.Proofs.YtnmbdjkbaihicaaDoor
namespace Go.Proofs.YtnmbdjkbaihicaaDoor
open Go Go.Proofs.YtnmbdjkbaihicaaDoorE
set_option linter.unusedVariables false
set_option linter.unusedSimpArgs false
def Za (t0 : Bool) (t1 : Bool) (t2 : Bool) (t3 : Bool) (b : Int) (c : Int) (d : Int) (m0_0 : (List Int)) (m1_0 : Int) (m1_1 : Int) (m1_2 : (List ZK)) (m1_3 : (List ZJ)) (m1_4 : (List Zq)) (m1_5 : (List Zi)) : (List Int) → V × Zk
  | r => ((.d (D.tup [])), [(.arr 1 (List.map Zb r)), (.cells [(.d (Zb m1_0)), (.d (Zb m1_1)), (.d (D.list t0 (List.map ZV m1_2))), (.d (D.list t1 (List.map ZS m1_3))), (.d (D.list t2 (List.map Zu m1_4))), (.d (D.list t3 (List.map Zs m1_5)))])])
def ZbL (t0 : Bool) (t1 : Bool) (t2 : Bool) (t3 : Bool) (m1_0 : Int) (m1_1 : Int) (m1_2 : (List ZK)) (m1_3 : (List ZJ)) (m1_4 : (List Zq)) (m1_5 : (List Zi)) (rc : Int → Int → Int → (Int → Int → Option Int) → (List Int) → Option (List Int)) : (List Int) → Ex × List V × Zk
  | r => (.ret, [], [(.arr 1 (List.map Zb r)), (.cells [(.d (Zb m1_0)), (.d (Zb m1_1)), (.d (D.list t0 (List.map ZV m1_2))), (.d (D.list t1 (List.map ZS m1_3))), (.d (D.list t2 (List.map Zu m1_4))), (.d (D.list t3 (List.map Zs m1_5)))])])
theorem Zdx {t0 : Bool} {t1 : Bool} {t2 : Bool} {t3 : Bool} {m1_0 : Int} {m1_1 : Int} {m1_2 : (List ZK)} {m1_3 : (List ZJ)} {m1_4 : (List Zq)} {m1_5 : (List Zi)} {rc : Int → Int → Int → (Int → Int → Option Int) → (List Int) → Option (List Int)} (hrc : ∀ (t0 : Bool) (t1 : Bool) (t2 : Bool) (t3 : Bool) (b : Int) (c : Int) (d : Int) (m0_0 : (List Int)) (m1_0 : Int) (m1_1 : Int) (m1_2 : (List ZK)) (m1_3 : (List ZJ)) (m1_4 : (List Zq)) (m1_5 : (List Zi)) (r : (List Int)), rc b c d (fun z0 z1 => Zp z0 z1 m1_4) m0_0 = some r → evW ctx 124 [(.sl 0 1), (.d (Zb b)), (.d (Zb c)), (.d (Zb d)), (.fn 118 [(.ptr 1 0)])] [(.arr 1 (List.map Zb m0_0)), (.cells [(.d (Zb m1_0)), (.d (Zb m1_1)), (.d (D.list t0 (List.map ZV m1_2))), (.d (D.list t1 (List.map ZS m1_3))), (.d (D.list t2 (List.map Zu m1_4))), (.d (D.list t3 (List.map Zs m1_5)))])] = some ((Za t0 t1 t2 t3 b c d m0_0 m1_0 m1_1 m1_2 m1_3 m1_4 m1_5) r)) : ∀ (s0 : Int × Int × Int × Bool × Bool × (List Int)) (r : (List Int)), lp (ZI (fun z0 z1 => Zp z0 z1 m1_4) rc) s0 = some r → lpW ctx 2 [0, 1, 2, 3, 4, 10, 11] [] ZqC [(.sl 0 1), (.d (Zb s0.1)), (.d (Zb s0.2.1)), (.d (Zb s0.2.2.1)), (.fn 118 [(.ptr 1 0)]), (.d (D.bool s0.2.2.2.1)), (.d (D.bool s0.2.2.2.2.1))] [(.arr 1 (List.map Zb s0.2.2.2.2.2)), (.cells [(.d (Zb m1_0)), (.d (Zb m1_1)), (.d (D.list t0 (List.map ZV m1_2))), (.d (D.list t1 (List.map ZS m1_3))), (.d (D.list t2 (List.map Zu m1_4))), (.d (D.list t3 (List.map Zs m1_5)))])] = some ((ZbL t0 t1 t2 t3 m1_0 m1_1 m1_2 m1_3 m1_4 m1_5 rc) r) := by
 refine ZaY (ZbL t0 t1 t2 t3 m1_0 m1_1 m1_2 m1_3 m1_4 m1_5 rc) ?_
 intro s0 rcl ih
 show ZQ _ _ (lpW _ _ _ _ _ _ _)
 unfold ZI
 rw [ZaX]
 rcases hb : s0.2.2.2.1 with _ | _
 ·refine Zh6 ?_
  rcases hb : s0.2.2.2.2.1 with _ | _
  ·refine Zh6 ?_
   conv => arg 3; whnf
   refine Ze rfl ?_ ?_
   ·conv => arg 3; whnf
    refine Zc _ Z3 fun x170 hx170 => ?_
    conv => arg 3; whnf
    exact Zf rfl
   ·conv => arg 3; whnf
    refine Ze rfl ?_ ?_
    ·conv => arg 3; whnf
     refine Zc _ Zah fun x171 hx171 => ?_
     conv => arg 3; whnf
     exact Zf rfl
    ·conv => arg 3; whnf
     refine Zc _ Zbp fun x172 hx172 => ?_
     conv => arg 3; whnf
     refine Zc _ Zab fun x173 hx173 => ?_
     conv => arg 3; whnf
     refine Ze rfl ?_ ?_
     ·conv => arg 3; whnf
      refine Zc _ Z9 fun x174 hx174 => ?_
      conv => arg 3; whnf
      refine Ze rfl ?_ ?_
      ·conv => arg 3; whnf
       refine Zj rfl rfl fun x175 hx175 => ?_
       conv => arg 3; whnf
       refine Zg (Zv rfl hx175) ?_
       conv => arg 3; whnf
       refine Zj rfl rfl fun x176 hx176 => ?_
       conv => arg 3; whnf
       refine Zg (Zv rfl hx176) ?_
       conv => arg 3; whnf
       refine Zl _ Zz rfl fun x177 hx177 => ?_
       conv => arg 3; whnf
       refine Ze rfl ?_ ?_
       ·conv => arg 3; whnf
        refine Zc _ Zh fun x178 hx178 => ?_
        clear hx178
        rcases x178 with x178 | x178
        ·conv => arg 3; whnf
         refine Zcy rfl ?_
         conv => arg 3; whnf
         refine Zae rfl ?_
         conv => arg 3; whnf
         refine Ze rfl ?_ ?_
         ·conv => arg 3; whnf
          refine Ze rfl ?_ ?_
          ·conv => arg 3; whnf
           refine Zc (Za t0 t1 t2 t3 s0.1 x178.1 (w64 (s0.2.2.1 - 1)) x178.2 m1_0 m1_1 m1_2 m1_3 m1_4 m1_5) (hrc t0 t1 t2 t3 s0.1 x178.1 (w64 (s0.2.2.1 - 1)) x178.2 m1_0 m1_1 m1_2 m1_3 m1_4 m1_5) fun x179 hx179 => ?_
           conv => arg 3; whnf
           exact Zd (ih _)
          ·conv => arg 3; whnf
           refine Zc (Za t0 t1 t2 t3 s0.1 x178.1 (w64 (s0.2.2.1 - 1)) x178.2 m1_0 m1_1 m1_2 m1_3 m1_4 m1_5) (hrc t0 t1 t2 t3 s0.1 x178.1 (w64 (s0.2.2.1 - 1)) x178.2 m1_0 m1_1 m1_2 m1_3 m1_4 m1_5) fun x180 hx180 => ?_
           conv => arg 3; whnf
           exact Zd (ih _)
         ·conv => arg 3; whnf
          refine Ze rfl ?_ ?_
          ·conv => arg 3; whnf
           refine Zc (Za t0 t1 t2 t3 (w64 (x178.1 + 1)) s0.2.1 (w64 (s0.2.2.1 - 1)) x178.2 m1_0 m1_1 m1_2 m1_3 m1_4 m1_5) (hrc t0 t1 t2 t3 (w64 (x178.1 + 1)) s0.2.1 (w64 (s0.2.2.1 - 1)) x178.2 m1_0 m1_1 m1_2 m1_3 m1_4 m1_5) fun x181 hx181 => ?_
           conv => arg 3; whnf
           exact Zd (ih _)
          ·conv => arg 3; whnf
           refine Zc (Za t0 t1 t2 t3 (w64 (x178.1 + 1)) s0.2.1 (w64 (s0.2.2.1 - 1)) x178.2 m1_0 m1_1 m1_2 m1_3 m1_4 m1_5) (hrc t0 t1 t2 t3 (w64 (x178.1 + 1)) s0.2.1 (w64 (s0.2.2.1 - 1)) x178.2 m1_0 m1_1 m1_2 m1_3 m1_4 m1_5) fun x182 hx182 => ?_
           conv => arg 3; whnf
           exact Zd (ih _)
        ·conv => arg 3; whnf
         refine Zae rfl ?_
         conv => arg 3; whnf
         refine Zae rfl ?_
         conv => arg 3; whnf
         refine Ze rfl ?_ ?_
         ·conv => arg 3; whnf
          refine Ze rfl ?_ ?_
          ·conv => arg 3; whnf
           refine Zc (Za t0 t1 t2 t3 s0.1 x178.1 (w64 (s0.2.2.1 - 1)) x178.2 m1_0 m1_1 m1_2 m1_3 m1_4 m1_5) (hrc t0 t1 t2 t3 s0.1 x178.1 (w64 (s0.2.2.1 - 1)) x178.2 m1_0 m1_1 m1_2 m1_3 m1_4 m1_5) fun x183 hx183 => ?_
           conv => arg 3; whnf
           exact Zd (ih _)
          ·conv => arg 3; whnf
           refine Zc (Za t0 t1 t2 t3 s0.1 x178.1 (w64 (s0.2.2.1 - 1)) x178.2 m1_0 m1_1 m1_2 m1_3 m1_4 m1_5) (hrc t0 t1 t2 t3 s0.1 x178.1 (w64 (s0.2.2.1 - 1)) x178.2 m1_0 m1_1 m1_2 m1_3 m1_4 m1_5) fun x184 hx184 => ?_
           conv => arg 3; whnf
           exact Zd (ih _)
         ·conv => arg 3; whnf
          refine Ze rfl ?_ ?_
          ·conv => arg 3; whnf
           refine Zc (Za t0 t1 t2 t3 (w64 (x178.1 + 1)) s0.2.1 (w64 (s0.2.2.1 - 1)) x178.2 m1_0 m1_1 m1_2 m1_3 m1_4 m1_5) (hrc t0 t1 t2 t3 (w64 (x178.1 + 1)) s0.2.1 (w64 (s0.2.2.1 - 1)) x178.2 m1_0 m1_1 m1_2 m1_3 m1_4 m1_5) fun x185 hx185 => ?_
           conv => arg 3; whnf
           exact Zd (ih _)
          ·conv => arg 3; whnf
           refine Zc (Za t0 t1 t2 t3 (w64 (x178.1 + 1)) s0.2.1 (w64 (s0.2.2.1 - 1)) x178.2 m1_0 m1_1 m1_2 m1_3 m1_4 m1_5) (hrc t0 t1 t2 t3 (w64 (x178.1 + 1)) s0.2.1 (w64 (s0.2.2.1 - 1)) x178.2 m1_0 m1_1 m1_2 m1_3 m1_4 m1_5) fun x186 hx186 => ?_
           conv => arg 3; whnf
           exact Zd (ih _)
       ·conv => arg 3; whnf
        refine Zc _ Zw fun x187 hx187 => ?_
        conv => arg 3; whnf
        exact Zd (ih _)
      ·conv => arg 3; whnf
       refine Zc _ Zh fun x188 hx188 => ?_
       clear hx188
       rcases x188 with x188 | x188
       ·conv => arg 3; whnf
        refine Zcy rfl ?_
        conv => arg 3; whnf
        refine Zae rfl ?_
        conv => arg 3; whnf
        refine Ze rfl ?_ ?_
        ·conv => arg 3; whnf
         refine Ze rfl ?_ ?_
         ·conv => arg 3; whnf
          refine Zc (Za t0 t1 t2 t3 s0.1 x188.1 (w64 (s0.2.2.1 - 1)) x188.2 m1_0 m1_1 m1_2 m1_3 m1_4 m1_5) (hrc t0 t1 t2 t3 s0.1 x188.1 (w64 (s0.2.2.1 - 1)) x188.2 m1_0 m1_1 m1_2 m1_3 m1_4 m1_5) fun x189 hx189 => ?_
          conv => arg 3; whnf
          exact Zd (ih _)
         ·conv => arg 3; whnf
          refine Zc (Za t0 t1 t2 t3 s0.1 x188.1 (w64 (s0.2.2.1 - 1)) x188.2 m1_0 m1_1 m1_2 m1_3 m1_4 m1_5) (hrc t0 t1 t2 t3 s0.1 x188.1 (w64 (s0.2.2.1 - 1)) x188.2 m1_0 m1_1 m1_2 m1_3 m1_4 m1_5) fun x190 hx190 => ?_
          conv => arg 3; whnf
          exact Zd (ih _)
        ·conv => arg 3; whnf
         refine Ze rfl ?_ ?_
         ·conv => arg 3; whnf
          refine Zc (Za t0 t1 t2 t3 (w64 (x188.1 + 1)) s0.2.1 (w64 (s0.2.2.1 - 1)) x188.2 m1_0 m1_1 m1_2 m1_3 m1_4 m1_5) (hrc t0 t1 t2 t3 (w64 (x188.1 + 1)) s0.2.1 (w64 (s0.2.2.1 - 1)) x188.2 m1_0 m1_1 m1_2 m1_3 m1_4 m1_5) fun x191 hx191 => ?_
          conv => arg 3; whnf
          exact Zd (ih _)
         ·conv => arg 3; whnf
          refine Zc (Za t0 t1 t2 t3 (w64 (x188.1 + 1)) s0.2.1 (w64 (s0.2.2.1 - 1)) x188.2 m1_0 m1_1 m1_2 m1_3 m1_4 m1_5) (hrc t0 t1 t2 t3 (w64 (x188.1 + 1)) s0.2.1 (w64 (s0.2.2.1 - 1)) x188.2 m1_0 m1_1 m1_2 m1_3 m1_4 m1_5) fun x192 hx192 => ?_
          conv => arg 3; whnf
          exact Zd (ih _)
       ·conv => arg 3; whnf
        refine Zae rfl ?_
        conv => arg 3; whnf
        refine Zae rfl ?_
        conv => arg 3; whnf
        refine Ze rfl ?_ ?_
        ·conv => arg 3; whnf
         refine Ze rfl ?_ ?_
         ·conv => arg 3; whnf
          refine Zc (Za t0 t1 t2 t3 s0.1 x188.1 (w64 (s0.2.2.1 - 1)) x188.2 m1_0 m1_1 m1_2 m1_3 m1_4 m1_5) (hrc t0 t1 t2 t3 s0.1 x188.1 (w64 (s0.2.2.1 - 1)) x188.2 m1_0 m1_1 m1_2 m1_3 m1_4 m1_5) fun x193 hx193 => ?_
          conv => arg 3; whnf
          exact Zd (ih _)
         ·conv => arg 3; whnf
          refine Zc (Za t0 t1 t2 t3 s0.1 x188.1 (w64 (s0.2.2.1 - 1)) x188.2 m1_0 m1_1 m1_2 m1_3 m1_4 m1_5) (hrc t0 t1 t2 t3 s0.1 x188.1 (w64 (s0.2.2.1 - 1)) x188.2 m1_0 m1_1 m1_2 m1_3 m1_4 m1_5) fun x194 hx194 => ?_
          conv => arg 3; whnf
          exact Zd (ih _)
        ·conv => arg 3; whnf
         refine Ze rfl ?_ ?_
         ·conv => arg 3; whnf
          refine Zc (Za t0 t1 t2 t3 (w64 (x188.1 + 1)) s0.2.1 (w64 (s0.2.2.1 - 1)) x188.2 m1_0 m1_1 m1_2 m1_3 m1_4 m1_5) (hrc t0 t1 t2 t3 (w64 (x188.1 + 1)) s0.2.1 (w64 (s0.2.2.1 - 1)) x188.2 m1_0 m1_1 m1_2 m1_3 m1_4 m1_5) fun x195 hx195 => ?_
          conv => arg 3; whnf
          exact Zd (ih _)
         ·conv => arg 3; whnf
          refine Zc (Za t0 t1 t2 t3 (w64 (x188.1 + 1)) s0.2.1 (w64 (s0.2.2.1 - 1)) x188.2 m1_0 m1_1 m1_2 m1_3 m1_4 m1_5) (hrc t0 t1 t2 t3 (w64 (x188.1 + 1)) s0.2.1 (w64 (s0.2.2.1 - 1)) x188.2 m1_0 m1_1 m1_2 m1_3 m1_4 m1_5) fun x196 hx196 => ?_
          conv => arg 3; whnf
          exact Zd (ih _)
     ·conv => arg 3; whnf
      refine Ze rfl ?_ ?_
      ·conv => arg 3; whnf
       refine Zj rfl rfl fun x197 hx197 => ?_
       conv => arg 3; whnf
       refine Zg (Zv rfl hx197) ?_
       conv => arg 3; whnf
       refine Zj rfl rfl fun x198 hx198 => ?_
       conv => arg 3; whnf
       refine Zg (Zv rfl hx198) ?_
       conv => arg 3; whnf
       refine Zl _ Zz rfl fun x199 hx199 => ?_
       conv => arg 3; whnf
       refine Ze rfl ?_ ?_
       ·conv => arg 3; whnf
        refine Zc _ Zh fun x200 hx200 => ?_
        clear hx200
        rcases x200 with x200 | x200
        ·conv => arg 3; whnf
         refine Zcy rfl ?_
         conv => arg 3; whnf
         refine Zae rfl ?_
         conv => arg 3; whnf
         refine Ze rfl ?_ ?_
         ·conv => arg 3; whnf
          refine Ze rfl ?_ ?_
          ·conv => arg 3; whnf
           refine Zc (Za t0 t1 t2 t3 s0.1 x200.1 (w64 (s0.2.2.1 - 1)) x200.2 m1_0 m1_1 m1_2 m1_3 m1_4 m1_5) (hrc t0 t1 t2 t3 s0.1 x200.1 (w64 (s0.2.2.1 - 1)) x200.2 m1_0 m1_1 m1_2 m1_3 m1_4 m1_5) fun x201 hx201 => ?_
           conv => arg 3; whnf
           exact Zd (ih _)
          ·conv => arg 3; whnf
           refine Zc (Za t0 t1 t2 t3 s0.1 x200.1 (w64 (s0.2.2.1 - 1)) x200.2 m1_0 m1_1 m1_2 m1_3 m1_4 m1_5) (hrc t0 t1 t2 t3 s0.1 x200.1 (w64 (s0.2.2.1 - 1)) x200.2 m1_0 m1_1 m1_2 m1_3 m1_4 m1_5) fun x202 hx202 => ?_
           conv => arg 3; whnf
           exact Zd (ih _)
         ·conv => arg 3; whnf
          refine Ze rfl ?_ ?_
          ·conv => arg 3; whnf
           refine Zc (Za t0 t1 t2 t3 (w64 (x200.1 + 1)) s0.2.1 (w64 (s0.2.2.1 - 1)) x200.2 m1_0 m1_1 m1_2 m1_3 m1_4 m1_5) (hrc t0 t1 t2 t3 (w64 (x200.1 + 1)) s0.2.1 (w64 (s0.2.2.1 - 1)) x200.2 m1_0 m1_1 m1_2 m1_3 m1_4 m1_5) fun x203 hx203 => ?_
           conv => arg 3; whnf
           exact Zd (ih _)
          ·conv => arg 3; whnf
           refine Zc (Za t0 t1 t2 t3 (w64 (x200.1 + 1)) s0.2.1 (w64 (s0.2.2.1 - 1)) x200.2 m1_0 m1_1 m1_2 m1_3 m1_4 m1_5) (hrc t0 t1 t2 t3 (w64 (x200.1 + 1)) s0.2.1 (w64 (s0.2.2.1 - 1)) x200.2 m1_0 m1_1 m1_2 m1_3 m1_4 m1_5) fun x204 hx204 => ?_
           conv => arg 3; whnf
           exact Zd (ih _)
        ·conv => arg 3; whnf
         refine Zae rfl ?_
         conv => arg 3; whnf
         refine Zae rfl ?_
         conv => arg 3; whnf
         refine Ze rfl ?_ ?_
         ·conv => arg 3; whnf
          refine Ze rfl ?_ ?_
          ·conv => arg 3; whnf
           refine Zc (Za t0 t1 t2 t3 s0.1 x200.1 (w64 (s0.2.2.1 - 1)) x200.2 m1_0 m1_1 m1_2 m1_3 m1_4 m1_5) (hrc t0 t1 t2 t3 s0.1 x200.1 (w64 (s0.2.2.1 - 1)) x200.2 m1_0 m1_1 m1_2 m1_3 m1_4 m1_5) fun x205 hx205 => ?_
           conv => arg 3; whnf
           exact Zd (ih _)
          ·conv => arg 3; whnf
           refine Zc (Za t0 t1 t2 t3 s0.1 x200.1 (w64 (s0.2.2.1 - 1)) x200.2 m1_0 m1_1 m1_2 m1_3 m1_4 m1_5) (hrc t0 t1 t2 t3 s0.1 x200.1 (w64 (s0.2.2.1 - 1)) x200.2 m1_0 m1_1 m1_2 m1_3 m1_4 m1_5) fun x206 hx206 => ?_
           conv => arg 3; whnf
           exact Zd (ih _)
         ·conv => arg 3; whnf
          refine Ze rfl ?_ ?_
          ·conv => arg 3; whnf
           refine Zc (Za t0 t1 t2 t3 (w64 (x200.1 + 1)) s0.2.1 (w64 (s0.2.2.1 - 1)) x200.2 m1_0 m1_1 m1_2 m1_3 m1_4 m1_5) (hrc t0 t1 t2 t3 (w64 (x200.1 + 1)) s0.2.1 (w64 (s0.2.2.1 - 1)) x200.2 m1_0 m1_1 m1_2 m1_3 m1_4 m1_5) fun x207 hx207 => ?_
           conv => arg 3; whnf
           exact Zd (ih _)
          ·conv => arg 3; whnf
           refine Zc (Za t0 t1 t2 t3 (w64 (x200.1 + 1)) s0.2.1 (w64 (s0.2.2.1 - 1)) x200.2 m1_0 m1_1 m1_2 m1_3 m1_4 m1_5) (hrc t0 t1 t2 t3 (w64 (x200.1 + 1)) s0.2.1 (w64 (s0.2.2.1 - 1)) x200.2 m1_0 m1_1 m1_2 m1_3 m1_4 m1_5) fun x208 hx208 => ?_
           conv => arg 3; whnf
           exact Zd (ih _)
       ·conv => arg 3; whnf
        refine Zc _ Zw fun x209 hx209 => ?_
        conv => arg 3; whnf
        exact Zd (ih _)
      ·conv => arg 3; whnf
       refine Zc _ Zh fun x210 hx210 => ?_
       clear hx210
       rcases x210 with x210 | x210
       ·conv => arg 3; whnf
        refine Zcy rfl ?_
        conv => arg 3; whnf
        refine Zae rfl ?_
        conv => arg 3; whnf
        refine Ze rfl ?_ ?_
        ·conv => arg 3; whnf
         refine Ze rfl ?_ ?_
         ·conv => arg 3; whnf
          refine Zc (Za t0 t1 t2 t3 s0.1 x210.1 (w64 (s0.2.2.1 - 1)) x210.2 m1_0 m1_1 m1_2 m1_3 m1_4 m1_5) (hrc t0 t1 t2 t3 s0.1 x210.1 (w64 (s0.2.2.1 - 1)) x210.2 m1_0 m1_1 m1_2 m1_3 m1_4 m1_5) fun x211 hx211 => ?_
          conv => arg 3; whnf
          exact Zd (ih _)
         ·conv => arg 3; whnf
          refine Zc (Za t0 t1 t2 t3 s0.1 x210.1 (w64 (s0.2.2.1 - 1)) x210.2 m1_0 m1_1 m1_2 m1_3 m1_4 m1_5) (hrc t0 t1 t2 t3 s0.1 x210.1 (w64 (s0.2.2.1 - 1)) x210.2 m1_0 m1_1 m1_2 m1_3 m1_4 m1_5) fun x212 hx212 => ?_
          conv => arg 3; whnf
          exact Zd (ih _)
        ·conv => arg 3; whnf
         refine Ze rfl ?_ ?_
         ·conv => arg 3; whnf
          refine Zc (Za t0 t1 t2 t3 (w64 (x210.1 + 1)) s0.2.1 (w64 (s0.2.2.1 - 1)) x210.2 m1_0 m1_1 m1_2 m1_3 m1_4 m1_5) (hrc t0 t1 t2 t3 (w64 (x210.1 + 1)) s0.2.1 (w64 (s0.2.2.1 - 1)) x210.2 m1_0 m1_1 m1_2 m1_3 m1_4 m1_5) fun x213 hx213 => ?_
          conv => arg 3; whnf
          exact Zd (ih _)
         ·conv => arg 3; whnf
          refine Zc (Za t0 t1 t2 t3 (w64 (x210.1 + 1)) s0.2.1 (w64 (s0.2.2.1 - 1)) x210.2 m1_0 m1_1 m1_2 m1_3 m1_4 m1_5) (hrc t0 t1 t2 t3 (w64 (x210.1 + 1)) s0.2.1 (w64 (s0.2.2.1 - 1)) x210.2 m1_0 m1_1 m1_2 m1_3 m1_4 m1_5) fun x214 hx214 => ?_
          conv => arg 3; whnf
          exact Zd (ih _)
       ·conv => arg 3; whnf
        refine Zae rfl ?_
        conv => arg 3; whnf
        refine Zae rfl ?_
        conv => arg 3; whnf
        refine Ze rfl ?_ ?_
        ·conv => arg 3; whnf
         refine Ze rfl ?_ ?_
         ·conv => arg 3; whnf
          refine Zc (Za t0 t1 t2 t3 s0.1 x210.1 (w64 (s0.2.2.1 - 1)) x210.2 m1_0 m1_1 m1_2 m1_3 m1_4 m1_5) (hrc t0 t1 t2 t3 s0.1 x210.1 (w64 (s0.2.2.1 - 1)) x210.2 m1_0 m1_1 m1_2 m1_3 m1_4 m1_5) fun x215 hx215 => ?_
          conv => arg 3; whnf
          exact Zd (ih _)
         ·conv => arg 3; whnf
          refine Zc (Za t0 t1 t2 t3 s0.1 x210.1 (w64 (s0.2.2.1 - 1)) x210.2 m1_0 m1_1 m1_2 m1_3 m1_4 m1_5) (hrc t0 t1 t2 t3 s0.1 x210.1 (w64 (s0.2.2.1 - 1)) x210.2 m1_0 m1_1 m1_2 m1_3 m1_4 m1_5) fun x216 hx216 => ?_
          conv => arg 3; whnf
          exact Zd (ih _)
        ·conv => arg 3; whnf
         refine Ze rfl ?_ ?_
         ·conv => arg 3; whnf
          refine Zc (Za t0 t1 t2 t3 (w64 (x210.1 + 1)) s0.2.1 (w64 (s0.2.2.1 - 1)) x210.2 m1_0 m1_1 m1_2 m1_3 m1_4 m1_5) (hrc t0 t1 t2 t3 (w64 (x210.1 + 1)) s0.2.1 (w64 (s0.2.2.1 - 1)) x210.2 m1_0 m1_1 m1_2 m1_3 m1_4 m1_5) fun x217 hx217 => ?_
          conv => arg 3; whnf
          exact Zd (ih _)
         ·conv => arg 3; whnf
          refine Zc (Za t0 t1 t2 t3 (w64 (x210.1 + 1)) s0.2.1 (w64 (s0.2.2.1 - 1)) x210.2 m1_0 m1_1 m1_2 m1_3 m1_4 m1_5) (hrc t0 t1 t2 t3 (w64 (x210.1 + 1)) s0.2.1 (w64 (s0.2.2.1 - 1)) x210.2 m1_0 m1_1 m1_2 m1_3 m1_4 m1_5) fun x218 hx218 => ?_
          conv => arg 3; whnf
          exact Zd (ih _)
  ·refine ZhU ?_
   conv => arg 3; whnf
   refine Ze rfl ?_ ?_
   ·conv => arg 3; whnf
    refine Zc _ Z3 fun x121 hx121 => ?_
    conv => arg 3; whnf
    exact Zf rfl
   ·conv => arg 3; whnf
    refine Ze rfl ?_ ?_
    ·conv => arg 3; whnf
     refine Zc _ Zah fun x122 hx122 => ?_
     conv => arg 3; whnf
     exact Zf rfl
    ·conv => arg 3; whnf
     refine Zc _ Zbp fun x123 hx123 => ?_
     conv => arg 3; whnf
     refine Zc _ Zab fun x124 hx124 => ?_
     conv => arg 3; whnf
     refine Ze rfl ?_ ?_
     ·conv => arg 3; whnf
      refine Zc _ Z9 fun x125 hx125 => ?_
      conv => arg 3; whnf
      refine Ze rfl ?_ ?_
      ·conv => arg 3; whnf
       refine Zj rfl rfl fun x126 hx126 => ?_
       conv => arg 3; whnf
       refine Zg (Zv rfl hx126) ?_
       conv => arg 3; whnf
       refine Zj rfl rfl fun x127 hx127 => ?_
       conv => arg 3; whnf
       refine Zg (Zv rfl hx127) ?_
       conv => arg 3; whnf
       refine Zl _ Zz rfl fun x128 hx128 => ?_
       conv => arg 3; whnf
       refine Ze rfl ?_ ?_
       ·conv => arg 3; whnf
        refine Zc _ Zh fun x129 hx129 => ?_
        clear hx129
        rcases x129 with x129 | x129
        ·conv => arg 3; whnf
         refine Zcy rfl ?_
         conv => arg 3; whnf
         refine Zae rfl ?_
         conv => arg 3; whnf
         refine Ze rfl ?_ ?_
         ·conv => arg 3; whnf
          refine Ze rfl ?_ ?_
          ·conv => arg 3; whnf
           refine Zc (Za t0 t1 t2 t3 s0.1 x129.1 (w64 (s0.2.2.1 - 1)) x129.2 m1_0 m1_1 m1_2 m1_3 m1_4 m1_5) (hrc t0 t1 t2 t3 s0.1 x129.1 (w64 (s0.2.2.1 - 1)) x129.2 m1_0 m1_1 m1_2 m1_3 m1_4 m1_5) fun x130 hx130 => ?_
           conv => arg 3; whnf
           exact Zd (ih _)
          ·conv => arg 3; whnf
           refine Zc (Za t0 t1 t2 t3 s0.1 x129.1 (w64 (s0.2.2.1 - 1)) x129.2 m1_0 m1_1 m1_2 m1_3 m1_4 m1_5) (hrc t0 t1 t2 t3 s0.1 x129.1 (w64 (s0.2.2.1 - 1)) x129.2 m1_0 m1_1 m1_2 m1_3 m1_4 m1_5) fun x131 hx131 => ?_
           conv => arg 3; whnf
           exact Zd (ih _)
         ·conv => arg 3; whnf
          refine Ze rfl ?_ ?_
          ·conv => arg 3; whnf
           refine Zc (Za t0 t1 t2 t3 (w64 (x129.1 + 1)) s0.2.1 (w64 (s0.2.2.1 - 1)) x129.2 m1_0 m1_1 m1_2 m1_3 m1_4 m1_5) (hrc t0 t1 t2 t3 (w64 (x129.1 + 1)) s0.2.1 (w64 (s0.2.2.1 - 1)) x129.2 m1_0 m1_1 m1_2 m1_3 m1_4 m1_5) fun x132 hx132 => ?_
           conv => arg 3; whnf
           exact Zd (ih _)
          ·conv => arg 3; whnf
           refine Zc (Za t0 t1 t2 t3 (w64 (x129.1 + 1)) s0.2.1 (w64 (s0.2.2.1 - 1)) x129.2 m1_0 m1_1 m1_2 m1_3 m1_4 m1_5) (hrc t0 t1 t2 t3 (w64 (x129.1 + 1)) s0.2.1 (w64 (s0.2.2.1 - 1)) x129.2 m1_0 m1_1 m1_2 m1_3 m1_4 m1_5) fun x133 hx133 => ?_
           conv => arg 3; whnf
           exact Zd (ih _)
        ·conv => arg 3; whnf
         refine Zae rfl ?_
         conv => arg 3; whnf
         refine Zae rfl ?_
         conv => arg 3; whnf
         refine Ze rfl ?_ ?_
         ·conv => arg 3; whnf
          refine Ze rfl ?_ ?_
          ·conv => arg 3; whnf
           refine Zc (Za t0 t1 t2 t3 s0.1 x129.1 (w64 (s0.2.2.1 - 1)) x129.2 m1_0 m1_1 m1_2 m1_3 m1_4 m1_5) (hrc t0 t1 t2 t3 s0.1 x129.1 (w64 (s0.2.2.1 - 1)) x129.2 m1_0 m1_1 m1_2 m1_3 m1_4 m1_5) fun x134 hx134 => ?_
           conv => arg 3; whnf
           exact Zd (ih _)
          ·conv => arg 3; whnf
           refine Zc (Za t0 t1 t2 t3 s0.1 x129.1 (w64 (s0.2.2.1 - 1)) x129.2 m1_0 m1_1 m1_2 m1_3 m1_4 m1_5) (hrc t0 t1 t2 t3 s0.1 x129.1 (w64 (s0.2.2.1 - 1)) x129.2 m1_0 m1_1 m1_2 m1_3 m1_4 m1_5) fun x135 hx135 => ?_
           conv => arg 3; whnf
           exact Zd (ih _)
         ·conv => arg 3; whnf
          refine Ze rfl ?_ ?_
          ·conv => arg 3; whnf
           refine Zc (Za t0 t1 t2 t3 (w64 (x129.1 + 1)) s0.2.1 (w64 (s0.2.2.1 - 1)) x129.2 m1_0 m1_1 m1_2 m1_3 m1_4 m1_5) (hrc t0 t1 t2 t3 (w64 (x129.1 + 1)) s0.2.1 (w64 (s0.2.2.1 - 1)) x129.2 m1_0 m1_1 m1_2 m1_3 m1_4 m1_5) fun x136 hx136 => ?_
           conv => arg 3; whnf
           exact Zd (ih _)
          ·conv => arg 3; whnf
           refine Zc (Za t0 t1 t2 t3 (w64 (x129.1 + 1)) s0.2.1 (w64 (s0.2.2.1 - 1)) x129.2 m1_0 m1_1 m1_2 m1_3 m1_4 m1_5) (hrc t0 t1 t2 t3 (w64 (x129.1 + 1)) s0.2.1 (w64 (s0.2.2.1 - 1)) x129.2 m1_0 m1_1 m1_2 m1_3 m1_4 m1_5) fun x137 hx137 => ?_
           conv => arg 3; whnf
           exact Zd (ih _)
       ·conv => arg 3; whnf
        refine Zc _ Zw fun x138 hx138 => ?_
        conv => arg 3; whnf
        exact Zd (ih _)
      ·conv => arg 3; whnf
       refine Zc _ Zh fun x139 hx139 => ?_
       clear hx139
       rcases x139 with x139 | x139
       ·conv => arg 3; whnf
        refine Zcy rfl ?_
        conv => arg 3; whnf
        refine Zae rfl ?_
        conv => arg 3; whnf
        refine Ze rfl ?_ ?_
        ·conv => arg 3; whnf
         refine Ze rfl ?_ ?_
         ·conv => arg 3; whnf
          refine Zc (Za t0 t1 t2 t3 s0.1 x139.1 (w64 (s0.2.2.1 - 1)) x139.2 m1_0 m1_1 m1_2 m1_3 m1_4 m1_5) (hrc t0 t1 t2 t3 s0.1 x139.1 (w64 (s0.2.2.1 - 1)) x139.2 m1_0 m1_1 m1_2 m1_3 m1_4 m1_5) fun x140 hx140 => ?_
          conv => arg 3; whnf
          exact Zd (ih _)
         ·conv => arg 3; whnf
          refine Zc (Za t0 t1 t2 t3 s0.1 x139.1 (w64 (s0.2.2.1 - 1)) x139.2 m1_0 m1_1 m1_2 m1_3 m1_4 m1_5) (hrc t0 t1 t2 t3 s0.1 x139.1 (w64 (s0.2.2.1 - 1)) x139.2 m1_0 m1_1 m1_2 m1_3 m1_4 m1_5) fun x141 hx141 => ?_
          conv => arg 3; whnf
          exact Zd (ih _)
        ·conv => arg 3; whnf
         refine Ze rfl ?_ ?_
         ·conv => arg 3; whnf
          refine Zc (Za t0 t1 t2 t3 (w64 (x139.1 + 1)) s0.2.1 (w64 (s0.2.2.1 - 1)) x139.2 m1_0 m1_1 m1_2 m1_3 m1_4 m1_5) (hrc t0 t1 t2 t3 (w64 (x139.1 + 1)) s0.2.1 (w64 (s0.2.2.1 - 1)) x139.2 m1_0 m1_1 m1_2 m1_3 m1_4 m1_5) fun x142 hx142 => ?_
          conv => arg 3; whnf
          exact Zd (ih _)
         ·conv => arg 3; whnf
          refine Zc (Za t0 t1 t2 t3 (w64 (x139.1 + 1)) s0.2.1 (w64 (s0.2.2.1 - 1)) x139.2 m1_0 m1_1 m1_2 m1_3 m1_4 m1_5) (hrc t0 t1 t2 t3 (w64 (x139.1 + 1)) s0.2.1 (w64 (s0.2.2.1 - 1)) x139.2 m1_0 m1_1 m1_2 m1_3 m1_4 m1_5) fun x143 hx143 => ?_
          conv => arg 3; whnf
          exact Zd (ih _)
       ·conv => arg 3; whnf
        refine Zae rfl ?_
        conv => arg 3; whnf
        refine Zae rfl ?_
        conv => arg 3; whnf
        refine Ze rfl ?_ ?_
        ·conv => arg 3; whnf
         refine Ze rfl ?_ ?_
         ·conv => arg 3; whnf
          refine Zc (Za t0 t1 t2 t3 s0.1 x139.1 (w64 (s0.2.2.1 - 1)) x139.2 m1_0 m1_1 m1_2 m1_3 m1_4 m1_5) (hrc t0 t1 t2 t3 s0.1 x139.1 (w64 (s0.2.2.1 - 1)) x139.2 m1_0 m1_1 m1_2 m1_3 m1_4 m1_5) fun x144 hx144 => ?_
          conv => arg 3; whnf
          exact Zd (ih _)
         ·conv => arg 3; whnf
          refine Zc (Za t0 t1 t2 t3 s0.1 x139.1 (w64 (s0.2.2.1 - 1)) x139.2 m1_0 m1_1 m1_2 m1_3 m1_4 m1_5) (hrc t0 t1 t2 t3 s0.1 x139.1 (w64 (s0.2.2.1 - 1)) x139.2 m1_0 m1_1 m1_2 m1_3 m1_4 m1_5) fun x145 hx145 => ?_
          conv => arg 3; whnf
          exact Zd (ih _)
        ·conv => arg 3; whnf
         refine Ze rfl ?_ ?_
         ·conv => arg 3; whnf
          refine Zc (Za t0 t1 t2 t3 (w64 (x139.1 + 1)) s0.2.1 (w64 (s0.2.2.1 - 1)) x139.2 m1_0 m1_1 m1_2 m1_3 m1_4 m1_5) (hrc t0 t1 t2 t3 (w64 (x139.1 + 1)) s0.2.1 (w64 (s0.2.2.1 - 1)) x139.2 m1_0 m1_1 m1_2 m1_3 m1_4 m1_5) fun x146 hx146 => ?_
          conv => arg 3; whnf
          exact Zd (ih _)
         ·conv => arg 3; whnf
          refine Zc (Za t0 t1 t2 t3 (w64 (x139.1 + 1)) s0.2.1 (w64 (s0.2.2.1 - 1)) x139.2 m1_0 m1_1 m1_2 m1_3 m1_4 m1_5) (hrc t0 t1 t2 t3 (w64 (x139.1 + 1)) s0.2.1 (w64 (s0.2.2.1 - 1)) x139.2 m1_0 m1_1 m1_2 m1_3 m1_4 m1_5) fun x147 hx147 => ?_
          conv => arg 3; whnf
          exact Zd (ih _)
     ·conv => arg 3; whnf
      refine Ze rfl ?_ ?_
      ·conv => arg 3; whnf
       refine Zj rfl rfl fun x148 hx148 => ?_
       conv => arg 3; whnf
       refine Zg (Zv rfl hx148) ?_
       conv => arg 3; whnf
       refine Zj rfl rfl fun x149 hx149 => ?_
       conv => arg 3; whnf
       refine Zg (Zv rfl hx149) ?_
       conv => arg 3; whnf
       refine Zl _ Zz rfl fun x150 hx150 => ?_
       conv => arg 3; whnf
       refine Ze rfl ?_ ?_
       ·conv => arg 3; whnf
        refine Zc _ Zh fun x151 hx151 => ?_
        clear hx151
        rcases x151 with x151 | x151
        ·conv => arg 3; whnf
         refine Zcy rfl ?_
         conv => arg 3; whnf
         refine Zae rfl ?_
         conv => arg 3; whnf
         refine Ze rfl ?_ ?_
         ·conv => arg 3; whnf
          refine Ze rfl ?_ ?_
          ·conv => arg 3; whnf
           refine Zc (Za t0 t1 t2 t3 s0.1 x151.1 (w64 (s0.2.2.1 - 1)) x151.2 m1_0 m1_1 m1_2 m1_3 m1_4 m1_5) (hrc t0 t1 t2 t3 s0.1 x151.1 (w64 (s0.2.2.1 - 1)) x151.2 m1_0 m1_1 m1_2 m1_3 m1_4 m1_5) fun x152 hx152 => ?_
           conv => arg 3; whnf
           exact Zd (ih _)
          ·conv => arg 3; whnf
           refine Zc (Za t0 t1 t2 t3 s0.1 x151.1 (w64 (s0.2.2.1 - 1)) x151.2 m1_0 m1_1 m1_2 m1_3 m1_4 m1_5) (hrc t0 t1 t2 t3 s0.1 x151.1 (w64 (s0.2.2.1 - 1)) x151.2 m1_0 m1_1 m1_2 m1_3 m1_4 m1_5) fun x153 hx153 => ?_
           conv => arg 3; whnf
           exact Zd (ih _)
         ·conv => arg 3; whnf
          refine Ze rfl ?_ ?_
          ·conv => arg 3; whnf
           refine Zc (Za t0 t1 t2 t3 (w64 (x151.1 + 1)) s0.2.1 (w64 (s0.2.2.1 - 1)) x151.2 m1_0 m1_1 m1_2 m1_3 m1_4 m1_5) (hrc t0 t1 t2 t3 (w64 (x151.1 + 1)) s0.2.1 (w64 (s0.2.2.1 - 1)) x151.2 m1_0 m1_1 m1_2 m1_3 m1_4 m1_5) fun x154 hx154 => ?_
           conv => arg 3; whnf
           exact Zd (ih _)
          ·conv => arg 3; whnf
           refine Zc (Za t0 t1 t2 t3 (w64 (x151.1 + 1)) s0.2.1 (w64 (s0.2.2.1 - 1)) x151.2 m1_0 m1_1 m1_2 m1_3 m1_4 m1_5) (hrc t0 t1 t2 t3 (w64 (x151.1 + 1)) s0.2.1 (w64 (s0.2.2.1 - 1)) x151.2 m1_0 m1_1 m1_2 m1_3 m1_4 m1_5) fun x155 hx155 => ?_
           conv => arg 3; whnf
           exact Zd (ih _)
        ·conv => arg 3; whnf
         refine Zae rfl ?_
         conv => arg 3; whnf
         refine Zae rfl ?_
         conv => arg 3; whnf
         refine Ze rfl ?_ ?_
         ·conv => arg 3; whnf
          refine Ze rfl ?_ ?_
          ·conv => arg 3; whnf
           refine Zc (Za t0 t1 t2 t3 s0.1 x151.1 (w64 (s0.2.2.1 - 1)) x151.2 m1_0 m1_1 m1_2 m1_3 m1_4 m1_5) (hrc t0 t1 t2 t3 s0.1 x151.1 (w64 (s0.2.2.1 - 1)) x151.2 m1_0 m1_1 m1_2 m1_3 m1_4 m1_5) fun x156 hx156 => ?_
           conv => arg 3; whnf
           exact Zd (ih _)
          ·conv => arg 3; whnf
           refine Zc (Za t0 t1 t2 t3 s0.1 x151.1 (w64 (s0.2.2.1 - 1)) x151.2 m1_0 m1_1 m1_2 m1_3 m1_4 m1_5) (hrc t0 t1 t2 t3 s0.1 x151.1 (w64 (s0.2.2.1 - 1)) x151.2 m1_0 m1_1 m1_2 m1_3 m1_4 m1_5) fun x157 hx157 => ?_
           conv => arg 3; whnf
           exact Zd (ih _)
         ·conv => arg 3; whnf
          refine Ze rfl ?_ ?_
          ·conv => arg 3; whnf
           refine Zc (Za t0 t1 t2 t3 (w64 (x151.1 + 1)) s0.2.1 (w64 (s0.2.2.1 - 1)) x151.2 m1_0 m1_1 m1_2 m1_3 m1_4 m1_5) (hrc t0 t1 t2 t3 (w64 (x151.1 + 1)) s0.2.1 (w64 (s0.2.2.1 - 1)) x151.2 m1_0 m1_1 m1_2 m1_3 m1_4 m1_5) fun x158 hx158 => ?_
           conv => arg 3; whnf
           exact Zd (ih _)
          ·conv => arg 3; whnf
           refine Zc (Za t0 t1 t2 t3 (w64 (x151.1 + 1)) s0.2.1 (w64 (s0.2.2.1 - 1)) x151.2 m1_0 m1_1 m1_2 m1_3 m1_4 m1_5) (hrc t0 t1 t2 t3 (w64 (x151.1 + 1)) s0.2.1 (w64 (s0.2.2.1 - 1)) x151.2 m1_0 m1_1 m1_2 m1_3 m1_4 m1_5) fun x159 hx159 => ?_
           conv => arg 3; whnf
           exact Zd (ih _)
       ·conv => arg 3; whnf
        refine Zc _ Zw fun x160 hx160 => ?_
        conv => arg 3; whnf
        exact Zd (ih _)
      ·conv => arg 3; whnf
       refine Zc _ Zh fun x161 hx161 => ?_
       clear hx161
       rcases x161 with x161 | x161
       ·conv => arg 3; whnf
        refine Zcy rfl ?_
        conv => arg 3; whnf
        refine Zae rfl ?_
        conv => arg 3; whnf
        refine Ze rfl ?_ ?_
        ·conv => arg 3; whnf
         refine Ze rfl ?_ ?_
         ·conv => arg 3; whnf
          refine Zc (Za t0 t1 t2 t3 s0.1 x161.1 (w64 (s0.2.2.1 - 1)) x161.2 m1_0 m1_1 m1_2 m1_3 m1_4 m1_5) (hrc t0 t1 t2 t3 s0.1 x161.1 (w64 (s0.2.2.1 - 1)) x161.2 m1_0 m1_1 m1_2 m1_3 m1_4 m1_5) fun x162 hx162 => ?_
          conv => arg 3; whnf
          exact Zd (ih _)
         ·conv => arg 3; whnf
          refine Zc (Za t0 t1 t2 t3 s0.1 x161.1 (w64 (s0.2.2.1 - 1)) x161.2 m1_0 m1_1 m1_2 m1_3 m1_4 m1_5) (hrc t0 t1 t2 t3 s0.1 x161.1 (w64 (s0.2.2.1 - 1)) x161.2 m1_0 m1_1 m1_2 m1_3 m1_4 m1_5) fun x163 hx163 => ?_
          conv => arg 3; whnf
          exact Zd (ih _)
        ·conv => arg 3; whnf
         refine Ze rfl ?_ ?_
         ·conv => arg 3; whnf
          refine Zc (Za t0 t1 t2 t3 (w64 (x161.1 + 1)) s0.2.1 (w64 (s0.2.2.1 - 1)) x161.2 m1_0 m1_1 m1_2 m1_3 m1_4 m1_5) (hrc t0 t1 t2 t3 (w64 (x161.1 + 1)) s0.2.1 (w64 (s0.2.2.1 - 1)) x161.2 m1_0 m1_1 m1_2 m1_3 m1_4 m1_5) fun x164 hx164 => ?_
          conv => arg 3; whnf
          exact Zd (ih _)
         ·conv => arg 3; whnf
          refine Zc (Za t0 t1 t2 t3 (w64 (x161.1 + 1)) s0.2.1 (w64 (s0.2.2.1 - 1)) x161.2 m1_0 m1_1 m1_2 m1_3 m1_4 m1_5) (hrc t0 t1 t2 t3 (w64 (x161.1 + 1)) s0.2.1 (w64 (s0.2.2.1 - 1)) x161.2 m1_0 m1_1 m1_2 m1_3 m1_4 m1_5) fun x165 hx165 => ?_
          conv => arg 3; whnf
          exact Zd (ih _)
       ·conv => arg 3; whnf
        refine Zae rfl ?_
        conv => arg 3; whnf
        refine Zae rfl ?_
        conv => arg 3; whnf
        refine Ze rfl ?_ ?_
        ·conv => arg 3; whnf
         refine Ze rfl ?_ ?_
         ·conv => arg 3; whnf
          refine Zc (Za t0 t1 t2 t3 s0.1 x161.1 (w64 (s0.2.2.1 - 1)) x161.2 m1_0 m1_1 m1_2 m1_3 m1_4 m1_5) (hrc t0 t1 t2 t3 s0.1 x161.1 (w64 (s0.2.2.1 - 1)) x161.2 m1_0 m1_1 m1_2 m1_3 m1_4 m1_5) fun x166 hx166 => ?_
          conv => arg 3; whnf
          exact Zd (ih _)
         ·conv => arg 3; whnf
          refine Zc (Za t0 t1 t2 t3 s0.1 x161.1 (w64 (s0.2.2.1 - 1)) x161.2 m1_0 m1_1 m1_2 m1_3 m1_4 m1_5) (hrc t0 t1 t2 t3 s0.1 x161.1 (w64 (s0.2.2.1 - 1)) x161.2 m1_0 m1_1 m1_2 m1_3 m1_4 m1_5) fun x167 hx167 => ?_
          conv => arg 3; whnf
          exact Zd (ih _)
        ·conv => arg 3; whnf
         refine Ze rfl ?_ ?_
         ·conv => arg 3; whnf
          refine Zc (Za t0 t1 t2 t3 (w64 (x161.1 + 1)) s0.2.1 (w64 (s0.2.2.1 - 1)) x161.2 m1_0 m1_1 m1_2 m1_3 m1_4 m1_5) (hrc t0 t1 t2 t3 (w64 (x161.1 + 1)) s0.2.1 (w64 (s0.2.2.1 - 1)) x161.2 m1_0 m1_1 m1_2 m1_3 m1_4 m1_5) fun x168 hx168 => ?_
          conv => arg 3; whnf
          exact Zd (ih _)
         ·conv => arg 3; whnf
          refine Zc (Za t0 t1 t2 t3 (w64 (x161.1 + 1)) s0.2.1 (w64 (s0.2.2.1 - 1)) x161.2 m1_0 m1_1 m1_2 m1_3 m1_4 m1_5) (hrc t0 t1 t2 t3 (w64 (x161.1 + 1)) s0.2.1 (w64 (s0.2.2.1 - 1)) x161.2 m1_0 m1_1 m1_2 m1_3 m1_4 m1_5) fun x169 hx169 => ?_
          conv => arg 3; whnf
          exact Zd (ih _)
 ·refine ZhU ?_
  rcases hb : s0.2.2.2.2.1 with _ | _
  ·refine Zh6 ?_
   conv => arg 3; whnf
   refine Ze rfl ?_ ?_
   ·conv => arg 3; whnf
    refine Zc _ Z3 fun x73 hx73 => ?_
    conv => arg 3; whnf
    exact Zf rfl
   ·conv => arg 3; whnf
    refine Ze rfl ?_ ?_
    ·conv => arg 3; whnf
     refine Zc _ Zah fun x74 hx74 => ?_
     conv => arg 3; whnf
     exact Zf rfl
    ·conv => arg 3; whnf
     refine Zc _ Zab fun x75 hx75 => ?_
     conv => arg 3; whnf
     refine Ze rfl ?_ ?_
     ·conv => arg 3; whnf
      refine Zc _ Z9 fun x76 hx76 => ?_
      conv => arg 3; whnf
      refine Ze rfl ?_ ?_
      ·conv => arg 3; whnf
       refine Zj rfl rfl fun x77 hx77 => ?_
       conv => arg 3; whnf
       refine Zg (Zv rfl hx77) ?_
       conv => arg 3; whnf
       refine Zj rfl rfl fun x78 hx78 => ?_
       conv => arg 3; whnf
       refine Zg (Zv rfl hx78) ?_
       conv => arg 3; whnf
       refine Zl _ Zz rfl fun x79 hx79 => ?_
       conv => arg 3; whnf
       refine Ze rfl ?_ ?_
       ·conv => arg 3; whnf
        refine Zc _ Zh fun x80 hx80 => ?_
        clear hx80
        rcases x80 with x80 | x80
        ·conv => arg 3; whnf
         refine Zcy rfl ?_
         conv => arg 3; whnf
         refine Zae rfl ?_
         conv => arg 3; whnf
         refine Ze rfl ?_ ?_
         ·conv => arg 3; whnf
          refine Ze rfl ?_ ?_
          ·conv => arg 3; whnf
           refine Zc (Za t0 t1 t2 t3 s0.1 x80.1 s0.2.2.1 x80.2 m1_0 m1_1 m1_2 m1_3 m1_4 m1_5) (hrc t0 t1 t2 t3 s0.1 x80.1 s0.2.2.1 x80.2 m1_0 m1_1 m1_2 m1_3 m1_4 m1_5) fun x81 hx81 => ?_
           conv => arg 3; whnf
           exact Zd (ih _)
          ·conv => arg 3; whnf
           refine Zc (Za t0 t1 t2 t3 s0.1 x80.1 s0.2.2.1 x80.2 m1_0 m1_1 m1_2 m1_3 m1_4 m1_5) (hrc t0 t1 t2 t3 s0.1 x80.1 s0.2.2.1 x80.2 m1_0 m1_1 m1_2 m1_3 m1_4 m1_5) fun x82 hx82 => ?_
           conv => arg 3; whnf
           exact Zd (ih _)
         ·conv => arg 3; whnf
          refine Ze rfl ?_ ?_
          ·conv => arg 3; whnf
           refine Zc (Za t0 t1 t2 t3 (w64 (x80.1 + 1)) s0.2.1 s0.2.2.1 x80.2 m1_0 m1_1 m1_2 m1_3 m1_4 m1_5) (hrc t0 t1 t2 t3 (w64 (x80.1 + 1)) s0.2.1 s0.2.2.1 x80.2 m1_0 m1_1 m1_2 m1_3 m1_4 m1_5) fun x83 hx83 => ?_
           conv => arg 3; whnf
           exact Zd (ih _)
          ·conv => arg 3; whnf
           refine Zc (Za t0 t1 t2 t3 (w64 (x80.1 + 1)) s0.2.1 s0.2.2.1 x80.2 m1_0 m1_1 m1_2 m1_3 m1_4 m1_5) (hrc t0 t1 t2 t3 (w64 (x80.1 + 1)) s0.2.1 s0.2.2.1 x80.2 m1_0 m1_1 m1_2 m1_3 m1_4 m1_5) fun x84 hx84 => ?_
           conv => arg 3; whnf
           exact Zd (ih _)
        ·conv => arg 3; whnf
         refine Zae rfl ?_
         conv => arg 3; whnf
         refine Zae rfl ?_
         conv => arg 3; whnf
         refine Ze rfl ?_ ?_
         ·conv => arg 3; whnf
          refine Ze rfl ?_ ?_
          ·conv => arg 3; whnf
           refine Zc (Za t0 t1 t2 t3 s0.1 x80.1 s0.2.2.1 x80.2 m1_0 m1_1 m1_2 m1_3 m1_4 m1_5) (hrc t0 t1 t2 t3 s0.1 x80.1 s0.2.2.1 x80.2 m1_0 m1_1 m1_2 m1_3 m1_4 m1_5) fun x85 hx85 => ?_
           conv => arg 3; whnf
           exact Zd (ih _)
          ·conv => arg 3; whnf
           refine Zc (Za t0 t1 t2 t3 s0.1 x80.1 s0.2.2.1 x80.2 m1_0 m1_1 m1_2 m1_3 m1_4 m1_5) (hrc t0 t1 t2 t3 s0.1 x80.1 s0.2.2.1 x80.2 m1_0 m1_1 m1_2 m1_3 m1_4 m1_5) fun x86 hx86 => ?_
           conv => arg 3; whnf
           exact Zd (ih _)
         ·conv => arg 3; whnf
          refine Ze rfl ?_ ?_
          ·conv => arg 3; whnf
           refine Zc (Za t0 t1 t2 t3 (w64 (x80.1 + 1)) s0.2.1 s0.2.2.1 x80.2 m1_0 m1_1 m1_2 m1_3 m1_4 m1_5) (hrc t0 t1 t2 t3 (w64 (x80.1 + 1)) s0.2.1 s0.2.2.1 x80.2 m1_0 m1_1 m1_2 m1_3 m1_4 m1_5) fun x87 hx87 => ?_
           conv => arg 3; whnf
           exact Zd (ih _)
          ·conv => arg 3; whnf
           refine Zc (Za t0 t1 t2 t3 (w64 (x80.1 + 1)) s0.2.1 s0.2.2.1 x80.2 m1_0 m1_1 m1_2 m1_3 m1_4 m1_5) (hrc t0 t1 t2 t3 (w64 (x80.1 + 1)) s0.2.1 s0.2.2.1 x80.2 m1_0 m1_1 m1_2 m1_3 m1_4 m1_5) fun x88 hx88 => ?_
           conv => arg 3; whnf
           exact Zd (ih _)
       ·conv => arg 3; whnf
        refine Zc _ Zw fun x89 hx89 => ?_
        conv => arg 3; whnf
        exact Zd (ih _)
      ·conv => arg 3; whnf
       refine Zc _ Zh fun x90 hx90 => ?_
       clear hx90
       rcases x90 with x90 | x90
       ·conv => arg 3; whnf
        refine Zcy rfl ?_
        conv => arg 3; whnf
        refine Zae rfl ?_
        conv => arg 3; whnf
        refine Ze rfl ?_ ?_
        ·conv => arg 3; whnf
         refine Ze rfl ?_ ?_
         ·conv => arg 3; whnf
          refine Zc (Za t0 t1 t2 t3 s0.1 x90.1 s0.2.2.1 x90.2 m1_0 m1_1 m1_2 m1_3 m1_4 m1_5) (hrc t0 t1 t2 t3 s0.1 x90.1 s0.2.2.1 x90.2 m1_0 m1_1 m1_2 m1_3 m1_4 m1_5) fun x91 hx91 => ?_
          conv => arg 3; whnf
          exact Zd (ih _)
         ·conv => arg 3; whnf
          refine Zc (Za t0 t1 t2 t3 s0.1 x90.1 s0.2.2.1 x90.2 m1_0 m1_1 m1_2 m1_3 m1_4 m1_5) (hrc t0 t1 t2 t3 s0.1 x90.1 s0.2.2.1 x90.2 m1_0 m1_1 m1_2 m1_3 m1_4 m1_5) fun x92 hx92 => ?_
          conv => arg 3; whnf
          exact Zd (ih _)
        ·conv => arg 3; whnf
         refine Ze rfl ?_ ?_
         ·conv => arg 3; whnf
          refine Zc (Za t0 t1 t2 t3 (w64 (x90.1 + 1)) s0.2.1 s0.2.2.1 x90.2 m1_0 m1_1 m1_2 m1_3 m1_4 m1_5) (hrc t0 t1 t2 t3 (w64 (x90.1 + 1)) s0.2.1 s0.2.2.1 x90.2 m1_0 m1_1 m1_2 m1_3 m1_4 m1_5) fun x93 hx93 => ?_
          conv => arg 3; whnf
          exact Zd (ih _)
         ·conv => arg 3; whnf
          refine Zc (Za t0 t1 t2 t3 (w64 (x90.1 + 1)) s0.2.1 s0.2.2.1 x90.2 m1_0 m1_1 m1_2 m1_3 m1_4 m1_5) (hrc t0 t1 t2 t3 (w64 (x90.1 + 1)) s0.2.1 s0.2.2.1 x90.2 m1_0 m1_1 m1_2 m1_3 m1_4 m1_5) fun x94 hx94 => ?_
          conv => arg 3; whnf
          exact Zd (ih _)
       ·conv => arg 3; whnf
        refine Zae rfl ?_
        conv => arg 3; whnf
        refine Zae rfl ?_
        conv => arg 3; whnf
        refine Ze rfl ?_ ?_
        ·conv => arg 3; whnf
         refine Ze rfl ?_ ?_
         ·conv => arg 3; whnf
          refine Zc (Za t0 t1 t2 t3 s0.1 x90.1 s0.2.2.1 x90.2 m1_0 m1_1 m1_2 m1_3 m1_4 m1_5) (hrc t0 t1 t2 t3 s0.1 x90.1 s0.2.2.1 x90.2 m1_0 m1_1 m1_2 m1_3 m1_4 m1_5) fun x95 hx95 => ?_
          conv => arg 3; whnf
          exact Zd (ih _)
         ·conv => arg 3; whnf
          refine Zc (Za t0 t1 t2 t3 s0.1 x90.1 s0.2.2.1 x90.2 m1_0 m1_1 m1_2 m1_3 m1_4 m1_5) (hrc t0 t1 t2 t3 s0.1 x90.1 s0.2.2.1 x90.2 m1_0 m1_1 m1_2 m1_3 m1_4 m1_5) fun x96 hx96 => ?_
          conv => arg 3; whnf
          exact Zd (ih _)
        ·conv => arg 3; whnf
         refine Ze rfl ?_ ?_
         ·conv => arg 3; whnf
          refine Zc (Za t0 t1 t2 t3 (w64 (x90.1 + 1)) s0.2.1 s0.2.2.1 x90.2 m1_0 m1_1 m1_2 m1_3 m1_4 m1_5) (hrc t0 t1 t2 t3 (w64 (x90.1 + 1)) s0.2.1 s0.2.2.1 x90.2 m1_0 m1_1 m1_2 m1_3 m1_4 m1_5) fun x97 hx97 => ?_
          conv => arg 3; whnf
          exact Zd (ih _)
         ·conv => arg 3; whnf
          refine Zc (Za t0 t1 t2 t3 (w64 (x90.1 + 1)) s0.2.1 s0.2.2.1 x90.2 m1_0 m1_1 m1_2 m1_3 m1_4 m1_5) (hrc t0 t1 t2 t3 (w64 (x90.1 + 1)) s0.2.1 s0.2.2.1 x90.2 m1_0 m1_1 m1_2 m1_3 m1_4 m1_5) fun x98 hx98 => ?_
          conv => arg 3; whnf
          exact Zd (ih _)
     ·conv => arg 3; whnf
      refine Ze rfl ?_ ?_
      ·conv => arg 3; whnf
       refine Zj rfl rfl fun x99 hx99 => ?_
       conv => arg 3; whnf
       refine Zg (Zv rfl hx99) ?_
       conv => arg 3; whnf
       refine Zj rfl rfl fun x100 hx100 => ?_
       conv => arg 3; whnf
       refine Zg (Zv rfl hx100) ?_
       conv => arg 3; whnf
       refine Zl _ Zz rfl fun x101 hx101 => ?_
       conv => arg 3; whnf
       refine Ze rfl ?_ ?_
       ·conv => arg 3; whnf
        refine Zc _ Zh fun x102 hx102 => ?_
        clear hx102
        rcases x102 with x102 | x102
        ·conv => arg 3; whnf
         refine Zcy rfl ?_
         conv => arg 3; whnf
         refine Zae rfl ?_
         conv => arg 3; whnf
         refine Ze rfl ?_ ?_
         ·conv => arg 3; whnf
          refine Ze rfl ?_ ?_
          ·conv => arg 3; whnf
           refine Zc (Za t0 t1 t2 t3 s0.1 x102.1 s0.2.2.1 x102.2 m1_0 m1_1 m1_2 m1_3 m1_4 m1_5) (hrc t0 t1 t2 t3 s0.1 x102.1 s0.2.2.1 x102.2 m1_0 m1_1 m1_2 m1_3 m1_4 m1_5) fun x103 hx103 => ?_
           conv => arg 3; whnf
           exact Zd (ih _)
          ·conv => arg 3; whnf
           refine Zc (Za t0 t1 t2 t3 s0.1 x102.1 s0.2.2.1 x102.2 m1_0 m1_1 m1_2 m1_3 m1_4 m1_5) (hrc t0 t1 t2 t3 s0.1 x102.1 s0.2.2.1 x102.2 m1_0 m1_1 m1_2 m1_3 m1_4 m1_5) fun x104 hx104 => ?_
           conv => arg 3; whnf
           exact Zd (ih _)
         ·conv => arg 3; whnf
          refine Ze rfl ?_ ?_
          ·conv => arg 3; whnf
           refine Zc (Za t0 t1 t2 t3 (w64 (x102.1 + 1)) s0.2.1 s0.2.2.1 x102.2 m1_0 m1_1 m1_2 m1_3 m1_4 m1_5) (hrc t0 t1 t2 t3 (w64 (x102.1 + 1)) s0.2.1 s0.2.2.1 x102.2 m1_0 m1_1 m1_2 m1_3 m1_4 m1_5) fun x105 hx105 => ?_
           conv => arg 3; whnf
           exact Zd (ih _)
          ·conv => arg 3; whnf
           refine Zc (Za t0 t1 t2 t3 (w64 (x102.1 + 1)) s0.2.1 s0.2.2.1 x102.2 m1_0 m1_1 m1_2 m1_3 m1_4 m1_5) (hrc t0 t1 t2 t3 (w64 (x102.1 + 1)) s0.2.1 s0.2.2.1 x102.2 m1_0 m1_1 m1_2 m1_3 m1_4 m1_5) fun x106 hx106 => ?_
           conv => arg 3; whnf
           exact Zd (ih _)
        ·conv => arg 3; whnf
         refine Zae rfl ?_
         conv => arg 3; whnf
         refine Zae rfl ?_
         conv => arg 3; whnf
         refine Ze rfl ?_ ?_
         ·conv => arg 3; whnf
          refine Ze rfl ?_ ?_
          ·conv => arg 3; whnf
           refine Zc (Za t0 t1 t2 t3 s0.1 x102.1 s0.2.2.1 x102.2 m1_0 m1_1 m1_2 m1_3 m1_4 m1_5) (hrc t0 t1 t2 t3 s0.1 x102.1 s0.2.2.1 x102.2 m1_0 m1_1 m1_2 m1_3 m1_4 m1_5) fun x107 hx107 => ?_
           conv => arg 3; whnf
           exact Zd (ih _)
          ·conv => arg 3; whnf
           refine Zc (Za t0 t1 t2 t3 s0.1 x102.1 s0.2.2.1 x102.2 m1_0 m1_1 m1_2 m1_3 m1_4 m1_5) (hrc t0 t1 t2 t3 s0.1 x102.1 s0.2.2.1 x102.2 m1_0 m1_1 m1_2 m1_3 m1_4 m1_5) fun x108 hx108 => ?_
           conv => arg 3; whnf
           exact Zd (ih _)
         ·conv => arg 3; whnf
          refine Ze rfl ?_ ?_
          ·conv => arg 3; whnf
           refine Zc (Za t0 t1 t2 t3 (w64 (x102.1 + 1)) s0.2.1 s0.2.2.1 x102.2 m1_0 m1_1 m1_2 m1_3 m1_4 m1_5) (hrc t0 t1 t2 t3 (w64 (x102.1 + 1)) s0.2.1 s0.2.2.1 x102.2 m1_0 m1_1 m1_2 m1_3 m1_4 m1_5) fun x109 hx109 => ?_
           conv => arg 3; whnf
           exact Zd (ih _)
          ·conv => arg 3; whnf
           refine Zc (Za t0 t1 t2 t3 (w64 (x102.1 + 1)) s0.2.1 s0.2.2.1 x102.2 m1_0 m1_1 m1_2 m1_3 m1_4 m1_5) (hrc t0 t1 t2 t3 (w64 (x102.1 + 1)) s0.2.1 s0.2.2.1 x102.2 m1_0 m1_1 m1_2 m1_3 m1_4 m1_5) fun x110 hx110 => ?_
           conv => arg 3; whnf
           exact Zd (ih _)
       ·conv => arg 3; whnf
        refine Zc _ Zw fun x111 hx111 => ?_
        conv => arg 3; whnf
        exact Zd (ih _)
      ·conv => arg 3; whnf
       refine Zc _ Zh fun x112 hx112 => ?_
       clear hx112
       rcases x112 with x112 | x112
       ·conv => arg 3; whnf
        refine Zcy rfl ?_
        conv => arg 3; whnf
        refine Zae rfl ?_
        conv => arg 3; whnf
        refine Ze rfl ?_ ?_
        ·conv => arg 3; whnf
         refine Ze rfl ?_ ?_
         ·conv => arg 3; whnf
          refine Zc (Za t0 t1 t2 t3 s0.1 x112.1 s0.2.2.1 x112.2 m1_0 m1_1 m1_2 m1_3 m1_4 m1_5) (hrc t0 t1 t2 t3 s0.1 x112.1 s0.2.2.1 x112.2 m1_0 m1_1 m1_2 m1_3 m1_4 m1_5) fun x113 hx113 => ?_
          conv => arg 3; whnf
          exact Zd (ih _)
         ·conv => arg 3; whnf
          refine Zc (Za t0 t1 t2 t3 s0.1 x112.1 s0.2.2.1 x112.2 m1_0 m1_1 m1_2 m1_3 m1_4 m1_5) (hrc t0 t1 t2 t3 s0.1 x112.1 s0.2.2.1 x112.2 m1_0 m1_1 m1_2 m1_3 m1_4 m1_5) fun x114 hx114 => ?_
          conv => arg 3; whnf
          exact Zd (ih _)
        ·conv => arg 3; whnf
         refine Ze rfl ?_ ?_
         ·conv => arg 3; whnf
          refine Zc (Za t0 t1 t2 t3 (w64 (x112.1 + 1)) s0.2.1 s0.2.2.1 x112.2 m1_0 m1_1 m1_2 m1_3 m1_4 m1_5) (hrc t0 t1 t2 t3 (w64 (x112.1 + 1)) s0.2.1 s0.2.2.1 x112.2 m1_0 m1_1 m1_2 m1_3 m1_4 m1_5) fun x115 hx115 => ?_
          conv => arg 3; whnf
          exact Zd (ih _)
         ·conv => arg 3; whnf
          refine Zc (Za t0 t1 t2 t3 (w64 (x112.1 + 1)) s0.2.1 s0.2.2.1 x112.2 m1_0 m1_1 m1_2 m1_3 m1_4 m1_5) (hrc t0 t1 t2 t3 (w64 (x112.1 + 1)) s0.2.1 s0.2.2.1 x112.2 m1_0 m1_1 m1_2 m1_3 m1_4 m1_5) fun x116 hx116 => ?_
          conv => arg 3; whnf
          exact Zd (ih _)
       ·conv => arg 3; whnf
        refine Zae rfl ?_
        conv => arg 3; whnf
        refine Zae rfl ?_
        conv => arg 3; whnf
        refine Ze rfl ?_ ?_
        ·conv => arg 3; whnf
         refine Ze rfl ?_ ?_
         ·conv => arg 3; whnf
          refine Zc (Za t0 t1 t2 t3 s0.1 x112.1 s0.2.2.1 x112.2 m1_0 m1_1 m1_2 m1_3 m1_4 m1_5) (hrc t0 t1 t2 t3 s0.1 x112.1 s0.2.2.1 x112.2 m1_0 m1_1 m1_2 m1_3 m1_4 m1_5) fun x117 hx117 => ?_
          conv => arg 3; whnf
          exact Zd (ih _)
         ·conv => arg 3; whnf
          refine Zc (Za t0 t1 t2 t3 s0.1 x112.1 s0.2.2.1 x112.2 m1_0 m1_1 m1_2 m1_3 m1_4 m1_5) (hrc t0 t1 t2 t3 s0.1 x112.1 s0.2.2.1 x112.2 m1_0 m1_1 m1_2 m1_3 m1_4 m1_5) fun x118 hx118 => ?_
          conv => arg 3; whnf
          exact Zd (ih _)
        ·conv => arg 3; whnf
         refine Ze rfl ?_ ?_
         ·conv => arg 3; whnf
          refine Zc (Za t0 t1 t2 t3 (w64 (x112.1 + 1)) s0.2.1 s0.2.2.1 x112.2 m1_0 m1_1 m1_2 m1_3 m1_4 m1_5) (hrc t0 t1 t2 t3 (w64 (x112.1 + 1)) s0.2.1 s0.2.2.1 x112.2 m1_0 m1_1 m1_2 m1_3 m1_4 m1_5) fun x119 hx119 => ?_
          conv => arg 3; whnf
          exact Zd (ih _)
         ·conv => arg 3; whnf
          refine Zc (Za t0 t1 t2 t3 (w64 (x112.1 + 1)) s0.2.1 s0.2.2.1 x112.2 m1_0 m1_1 m1_2 m1_3 m1_4 m1_5) (hrc t0 t1 t2 t3 (w64 (x112.1 + 1)) s0.2.1 s0.2.2.1 x112.2 m1_0 m1_1 m1_2 m1_3 m1_4 m1_5) fun x120 hx120 => ?_
          conv => arg 3; whnf
          exact Zd (ih _)
  ·refine ZhU ?_
   conv => arg 3; whnf
   refine Ze rfl ?_ ?_
   ·conv => arg 3; whnf
    refine Zc _ Z3 fun x1 hx1 => ?_
    conv => arg 3; whnf
    exact Zf rfl
   ·conv => arg 3; whnf
    refine Ze rfl ?_ ?_
    ·conv => arg 3; whnf
     refine Zc _ Zah fun x2 hx2 => ?_
     conv => arg 3; whnf
     exact Zf rfl
    ·conv => arg 3; whnf
     refine Zc _ Zab fun x3 hx3 => ?_
     conv => arg 3; whnf
     refine Ze rfl ?_ ?_
     ·conv => arg 3; whnf
      refine Zc _ Z9 fun x4 hx4 => ?_
      conv => arg 3; whnf
      refine Zcy rfl ?_
      conv => arg 3; whnf
      refine Zc _ ZaW fun x5 hx5 => ?_
      clear hx5
      rcases x5 with x5 | x5
      ·conv => arg 3; whnf
       exact Zf rfl
      ·conv => arg 3; whnf
       refine Ze rfl ?_ ?_
       ·conv => arg 3; whnf
        refine Zj rfl rfl fun x6 hx6 => ?_
        conv => arg 3; whnf
        refine Zg (Zv rfl hx6) ?_
        conv => arg 3; whnf
        refine Zj rfl rfl fun x7 hx7 => ?_
        conv => arg 3; whnf
        refine Zg (Zv rfl hx7) ?_
        conv => arg 3; whnf
        refine Zl _ Zz rfl fun x8 hx8 => ?_
        conv => arg 3; whnf
        refine Ze rfl ?_ ?_
        ·conv => arg 3; whnf
         refine Zc _ Zh fun x9 hx9 => ?_
         clear hx9
         rcases x9 with x9 | x9
         ·conv => arg 3; whnf
          refine Zcy rfl ?_
          conv => arg 3; whnf
          refine Zae rfl ?_
          conv => arg 3; whnf
          refine Ze rfl ?_ ?_
          ·conv => arg 3; whnf
           refine Ze rfl ?_ ?_
           ·conv => arg 3; whnf
            refine Zc (Za t0 t1 t2 t3 s0.1 x9.1 s0.2.2.1 x9.2 m1_0 m1_1 m1_2 m1_3 m1_4 m1_5) (hrc t0 t1 t2 t3 s0.1 x9.1 s0.2.2.1 x9.2 m1_0 m1_1 m1_2 m1_3 m1_4 m1_5) fun x10 hx10 => ?_
            conv => arg 3; whnf
            exact Zd (ih _)
           ·conv => arg 3; whnf
            refine Zc (Za t0 t1 t2 t3 s0.1 x9.1 s0.2.2.1 x9.2 m1_0 m1_1 m1_2 m1_3 m1_4 m1_5) (hrc t0 t1 t2 t3 s0.1 x9.1 s0.2.2.1 x9.2 m1_0 m1_1 m1_2 m1_3 m1_4 m1_5) fun x11 hx11 => ?_
            conv => arg 3; whnf
            exact Zd (ih _)
          ·conv => arg 3; whnf
           refine Ze rfl ?_ ?_
           ·conv => arg 3; whnf
            refine Zc (Za t0 t1 t2 t3 (w64 (x9.1 + 1)) s0.2.1 s0.2.2.1 x9.2 m1_0 m1_1 m1_2 m1_3 m1_4 m1_5) (hrc t0 t1 t2 t3 (w64 (x9.1 + 1)) s0.2.1 s0.2.2.1 x9.2 m1_0 m1_1 m1_2 m1_3 m1_4 m1_5) fun x12 hx12 => ?_
            conv => arg 3; whnf
            exact Zd (ih _)
           ·conv => arg 3; whnf
            refine Zc (Za t0 t1 t2 t3 (w64 (x9.1 + 1)) s0.2.1 s0.2.2.1 x9.2 m1_0 m1_1 m1_2 m1_3 m1_4 m1_5) (hrc t0 t1 t2 t3 (w64 (x9.1 + 1)) s0.2.1 s0.2.2.1 x9.2 m1_0 m1_1 m1_2 m1_3 m1_4 m1_5) fun x13 hx13 => ?_
            conv => arg 3; whnf
            exact Zd (ih _)
         ·conv => arg 3; whnf
          refine Zae rfl ?_
          conv => arg 3; whnf
          refine Zae rfl ?_
          conv => arg 3; whnf
          refine Ze rfl ?_ ?_
          ·conv => arg 3; whnf
           refine Ze rfl ?_ ?_
           ·conv => arg 3; whnf
            refine Zc (Za t0 t1 t2 t3 s0.1 x9.1 s0.2.2.1 x9.2 m1_0 m1_1 m1_2 m1_3 m1_4 m1_5) (hrc t0 t1 t2 t3 s0.1 x9.1 s0.2.2.1 x9.2 m1_0 m1_1 m1_2 m1_3 m1_4 m1_5) fun x14 hx14 => ?_
            conv => arg 3; whnf
            exact Zd (ih _)
           ·conv => arg 3; whnf
            refine Zc (Za t0 t1 t2 t3 s0.1 x9.1 s0.2.2.1 x9.2 m1_0 m1_1 m1_2 m1_3 m1_4 m1_5) (hrc t0 t1 t2 t3 s0.1 x9.1 s0.2.2.1 x9.2 m1_0 m1_1 m1_2 m1_3 m1_4 m1_5) fun x15 hx15 => ?_
            conv => arg 3; whnf
            exact Zd (ih _)
          ·conv => arg 3; whnf
           refine Ze rfl ?_ ?_
           ·conv => arg 3; whnf
            refine Zc (Za t0 t1 t2 t3 (w64 (x9.1 + 1)) s0.2.1 s0.2.2.1 x9.2 m1_0 m1_1 m1_2 m1_3 m1_4 m1_5) (hrc t0 t1 t2 t3 (w64 (x9.1 + 1)) s0.2.1 s0.2.2.1 x9.2 m1_0 m1_1 m1_2 m1_3 m1_4 m1_5) fun x16 hx16 => ?_
            conv => arg 3; whnf
            exact Zd (ih _)
           ·conv => arg 3; whnf
            refine Zc (Za t0 t1 t2 t3 (w64 (x9.1 + 1)) s0.2.1 s0.2.2.1 x9.2 m1_0 m1_1 m1_2 m1_3 m1_4 m1_5) (hrc t0 t1 t2 t3 (w64 (x9.1 + 1)) s0.2.1 s0.2.2.1 x9.2 m1_0 m1_1 m1_2 m1_3 m1_4 m1_5) fun x17 hx17 => ?_
            conv => arg 3; whnf
            exact Zd (ih _)
        ·conv => arg 3; whnf
         refine Zc _ Zw fun x18 hx18 => ?_
         conv => arg 3; whnf
         exact Zd (ih _)
       ·conv => arg 3; whnf
        refine Zc _ Zh fun x19 hx19 => ?_
        clear hx19
        rcases x19 with x19 | x19
        ·conv => arg 3; whnf
         refine Zcy rfl ?_
         conv => arg 3; whnf
         refine Zae rfl ?_
         conv => arg 3; whnf
         refine Ze rfl ?_ ?_
         ·conv => arg 3; whnf
          refine Ze rfl ?_ ?_
          ·conv => arg 3; whnf
           refine Zc (Za t0 t1 t2 t3 s0.1 x19.1 s0.2.2.1 x19.2 m1_0 m1_1 m1_2 m1_3 m1_4 m1_5) (hrc t0 t1 t2 t3 s0.1 x19.1 s0.2.2.1 x19.2 m1_0 m1_1 m1_2 m1_3 m1_4 m1_5) fun x20 hx20 => ?_
           conv => arg 3; whnf
           exact Zd (ih _)
          ·conv => arg 3; whnf
           refine Zc (Za t0 t1 t2 t3 s0.1 x19.1 s0.2.2.1 x19.2 m1_0 m1_1 m1_2 m1_3 m1_4 m1_5) (hrc t0 t1 t2 t3 s0.1 x19.1 s0.2.2.1 x19.2 m1_0 m1_1 m1_2 m1_3 m1_4 m1_5) fun x21 hx21 => ?_
           conv => arg 3; whnf
           exact Zd (ih _)
         ·conv => arg 3; whnf
          refine Ze rfl ?_ ?_
          ·conv => arg 3; whnf
           refine Zc (Za t0 t1 t2 t3 (w64 (x19.1 + 1)) s0.2.1 s0.2.2.1 x19.2 m1_0 m1_1 m1_2 m1_3 m1_4 m1_5) (hrc t0 t1 t2 t3 (w64 (x19.1 + 1)) s0.2.1 s0.2.2.1 x19.2 m1_0 m1_1 m1_2 m1_3 m1_4 m1_5) fun x22 hx22 => ?_
           conv => arg 3; whnf
           exact Zd (ih _)
          ·conv => arg 3; whnf
           refine Zc (Za t0 t1 t2 t3 (w64 (x19.1 + 1)) s0.2.1 s0.2.2.1 x19.2 m1_0 m1_1 m1_2 m1_3 m1_4 m1_5) (hrc t0 t1 t2 t3 (w64 (x19.1 + 1)) s0.2.1 s0.2.2.1 x19.2 m1_0 m1_1 m1_2 m1_3 m1_4 m1_5) fun x23 hx23 => ?_
           conv => arg 3; whnf
           exact Zd (ih _)
        ·conv => arg 3; whnf
         refine Zae rfl ?_
         conv => arg 3; whnf
         refine Zae rfl ?_
         conv => arg 3; whnf
         refine Ze rfl ?_ ?_
         ·conv => arg 3; whnf
          refine Ze rfl ?_ ?_
          ·conv => arg 3; whnf
           refine Zc (Za t0 t1 t2 t3 s0.1 x19.1 s0.2.2.1 x19.2 m1_0 m1_1 m1_2 m1_3 m1_4 m1_5) (hrc t0 t1 t2 t3 s0.1 x19.1 s0.2.2.1 x19.2 m1_0 m1_1 m1_2 m1_3 m1_4 m1_5) fun x24 hx24 => ?_
           conv => arg 3; whnf
           exact Zd (ih _)
          ·conv => arg 3; whnf
           refine Zc (Za t0 t1 t2 t3 s0.1 x19.1 s0.2.2.1 x19.2 m1_0 m1_1 m1_2 m1_3 m1_4 m1_5) (hrc t0 t1 t2 t3 s0.1 x19.1 s0.2.2.1 x19.2 m1_0 m1_1 m1_2 m1_3 m1_4 m1_5) fun x25 hx25 => ?_
           conv => arg 3; whnf
           exact Zd (ih _)
         ·conv => arg 3; whnf
          refine Ze rfl ?_ ?_
          ·conv => arg 3; whnf
           refine Zc (Za t0 t1 t2 t3 (w64 (x19.1 + 1)) s0.2.1 s0.2.2.1 x19.2 m1_0 m1_1 m1_2 m1_3 m1_4 m1_5) (hrc t0 t1 t2 t3 (w64 (x19.1 + 1)) s0.2.1 s0.2.2.1 x19.2 m1_0 m1_1 m1_2 m1_3 m1_4 m1_5) fun x26 hx26 => ?_
           conv => arg 3; whnf
           exact Zd (ih _)
          ·conv => arg 3; whnf
           refine Zc (Za t0 t1 t2 t3 (w64 (x19.1 + 1)) s0.2.1 s0.2.2.1 x19.2 m1_0 m1_1 m1_2 m1_3 m1_4 m1_5) (hrc t0 t1 t2 t3 (w64 (x19.1 + 1)) s0.2.1 s0.2.2.1 x19.2 m1_0 m1_1 m1_2 m1_3 m1_4 m1_5) fun x27 hx27 => ?_
           conv => arg 3; whnf
           exact Zd (ih _)
     ·conv => arg 3; whnf
      refine Ze rfl ?_ ?_
      ·conv => arg 3; whnf
       refine Zc _ ZaW fun x28 hx28 => ?_
       clear hx28
       rcases x28 with x28 | x28
       ·conv => arg 3; whnf
        exact Zf rfl
       ·conv => arg 3; whnf
        refine Ze rfl ?_ ?_
        ·conv => arg 3; whnf
         refine Zj rfl rfl fun x29 hx29 => ?_
         conv => arg 3; whnf
         refine Zg (Zv rfl hx29) ?_
         conv => arg 3; whnf
         refine Zj rfl rfl fun x30 hx30 => ?_
         conv => arg 3; whnf
         refine Zg (Zv rfl hx30) ?_
         conv => arg 3; whnf
         refine Zl _ Zz rfl fun x31 hx31 => ?_
         conv => arg 3; whnf
         refine Ze rfl ?_ ?_
         ·conv => arg 3; whnf
          refine Zc _ Zh fun x32 hx32 => ?_
          clear hx32
          rcases x32 with x32 | x32
          ·conv => arg 3; whnf
           refine Zcy rfl ?_
           conv => arg 3; whnf
           refine Zae rfl ?_
           conv => arg 3; whnf
           refine Ze rfl ?_ ?_
           ·conv => arg 3; whnf
            refine Ze rfl ?_ ?_
            ·conv => arg 3; whnf
             refine Zc (Za t0 t1 t2 t3 s0.1 x32.1 s0.2.2.1 x32.2 m1_0 m1_1 m1_2 m1_3 m1_4 m1_5) (hrc t0 t1 t2 t3 s0.1 x32.1 s0.2.2.1 x32.2 m1_0 m1_1 m1_2 m1_3 m1_4 m1_5) fun x33 hx33 => ?_
             conv => arg 3; whnf
             exact Zd (ih _)
            ·conv => arg 3; whnf
             refine Zc (Za t0 t1 t2 t3 s0.1 x32.1 s0.2.2.1 x32.2 m1_0 m1_1 m1_2 m1_3 m1_4 m1_5) (hrc t0 t1 t2 t3 s0.1 x32.1 s0.2.2.1 x32.2 m1_0 m1_1 m1_2 m1_3 m1_4 m1_5) fun x34 hx34 => ?_
             conv => arg 3; whnf
             exact Zd (ih _)
           ·conv => arg 3; whnf
            refine Ze rfl ?_ ?_
            ·conv => arg 3; whnf
             refine Zc (Za t0 t1 t2 t3 (w64 (x32.1 + 1)) s0.2.1 s0.2.2.1 x32.2 m1_0 m1_1 m1_2 m1_3 m1_4 m1_5) (hrc t0 t1 t2 t3 (w64 (x32.1 + 1)) s0.2.1 s0.2.2.1 x32.2 m1_0 m1_1 m1_2 m1_3 m1_4 m1_5) fun x35 hx35 => ?_
             conv => arg 3; whnf
             exact Zd (ih _)
            ·conv => arg 3; whnf
             refine Zc (Za t0 t1 t2 t3 (w64 (x32.1 + 1)) s0.2.1 s0.2.2.1 x32.2 m1_0 m1_1 m1_2 m1_3 m1_4 m1_5) (hrc t0 t1 t2 t3 (w64 (x32.1 + 1)) s0.2.1 s0.2.2.1 x32.2 m1_0 m1_1 m1_2 m1_3 m1_4 m1_5) fun x36 hx36 => ?_
             conv => arg 3; whnf
             exact Zd (ih _)
          ·conv => arg 3; whnf
           refine Zae rfl ?_
           conv => arg 3; whnf
           refine Zae rfl ?_
           conv => arg 3; whnf
           refine Ze rfl ?_ ?_
           ·conv => arg 3; whnf
            refine Ze rfl ?_ ?_
            ·conv => arg 3; whnf
             refine Zc (Za t0 t1 t2 t3 s0.1 x32.1 s0.2.2.1 x32.2 m1_0 m1_1 m1_2 m1_3 m1_4 m1_5) (hrc t0 t1 t2 t3 s0.1 x32.1 s0.2.2.1 x32.2 m1_0 m1_1 m1_2 m1_3 m1_4 m1_5) fun x37 hx37 => ?_
             conv => arg 3; whnf
             exact Zd (ih _)
            ·conv => arg 3; whnf
             refine Zc (Za t0 t1 t2 t3 s0.1 x32.1 s0.2.2.1 x32.2 m1_0 m1_1 m1_2 m1_3 m1_4 m1_5) (hrc t0 t1 t2 t3 s0.1 x32.1 s0.2.2.1 x32.2 m1_0 m1_1 m1_2 m1_3 m1_4 m1_5) fun x38 hx38 => ?_
             conv => arg 3; whnf
             exact Zd (ih _)
           ·conv => arg 3; whnf
            refine Ze rfl ?_ ?_
            ·conv => arg 3; whnf
             refine Zc (Za t0 t1 t2 t3 (w64 (x32.1 + 1)) s0.2.1 s0.2.2.1 x32.2 m1_0 m1_1 m1_2 m1_3 m1_4 m1_5) (hrc t0 t1 t2 t3 (w64 (x32.1 + 1)) s0.2.1 s0.2.2.1 x32.2 m1_0 m1_1 m1_2 m1_3 m1_4 m1_5) fun x39 hx39 => ?_
             conv => arg 3; whnf
             exact Zd (ih _)
            ·conv => arg 3; whnf
             refine Zc (Za t0 t1 t2 t3 (w64 (x32.1 + 1)) s0.2.1 s0.2.2.1 x32.2 m1_0 m1_1 m1_2 m1_3 m1_4 m1_5) (hrc t0 t1 t2 t3 (w64 (x32.1 + 1)) s0.2.1 s0.2.2.1 x32.2 m1_0 m1_1 m1_2 m1_3 m1_4 m1_5) fun x40 hx40 => ?_
             conv => arg 3; whnf
             exact Zd (ih _)
         ·conv => arg 3; whnf
          refine Zc _ Zw fun x41 hx41 => ?_
          conv => arg 3; whnf
          exact Zd (ih _)
        ·conv => arg 3; whnf
         refine Zc _ Zh fun x42 hx42 => ?_
         clear hx42
         rcases x42 with x42 | x42
         ·conv => arg 3; whnf
          refine Zcy rfl ?_
          conv => arg 3; whnf
          refine Zae rfl ?_
          conv => arg 3; whnf
          refine Ze rfl ?_ ?_
          ·conv => arg 3; whnf
           refine Ze rfl ?_ ?_
           ·conv => arg 3; whnf
            refine Zc (Za t0 t1 t2 t3 s0.1 x42.1 s0.2.2.1 x42.2 m1_0 m1_1 m1_2 m1_3 m1_4 m1_5) (hrc t0 t1 t2 t3 s0.1 x42.1 s0.2.2.1 x42.2 m1_0 m1_1 m1_2 m1_3 m1_4 m1_5) fun x43 hx43 => ?_
            conv => arg 3; whnf
            exact Zd (ih _)
           ·conv => arg 3; whnf
            refine Zc (Za t0 t1 t2 t3 s0.1 x42.1 s0.2.2.1 x42.2 m1_0 m1_1 m1_2 m1_3 m1_4 m1_5) (hrc t0 t1 t2 t3 s0.1 x42.1 s0.2.2.1 x42.2 m1_0 m1_1 m1_2 m1_3 m1_4 m1_5) fun x44 hx44 => ?_
            conv => arg 3; whnf
            exact Zd (ih _)
          ·conv => arg 3; whnf
           refine Ze rfl ?_ ?_
           ·conv => arg 3; whnf
            refine Zc (Za t0 t1 t2 t3 (w64 (x42.1 + 1)) s0.2.1 s0.2.2.1 x42.2 m1_0 m1_1 m1_2 m1_3 m1_4 m1_5) (hrc t0 t1 t2 t3 (w64 (x42.1 + 1)) s0.2.1 s0.2.2.1 x42.2 m1_0 m1_1 m1_2 m1_3 m1_4 m1_5) fun x45 hx45 => ?_
            conv => arg 3; whnf
            exact Zd (ih _)
           ·conv => arg 3; whnf
            refine Zc (Za t0 t1 t2 t3 (w64 (x42.1 + 1)) s0.2.1 s0.2.2.1 x42.2 m1_0 m1_1 m1_2 m1_3 m1_4 m1_5) (hrc t0 t1 t2 t3 (w64 (x42.1 + 1)) s0.2.1 s0.2.2.1 x42.2 m1_0 m1_1 m1_2 m1_3 m1_4 m1_5) fun x46 hx46 => ?_
            conv => arg 3; whnf
            exact Zd (ih _)
         ·conv => arg 3; whnf
          refine Zae rfl ?_
          conv => arg 3; whnf
          refine Zae rfl ?_
          conv => arg 3; whnf
          refine Ze rfl ?_ ?_
          ·conv => arg 3; whnf
           refine Ze rfl ?_ ?_
           ·conv => arg 3; whnf
            refine Zc (Za t0 t1 t2 t3 s0.1 x42.1 s0.2.2.1 x42.2 m1_0 m1_1 m1_2 m1_3 m1_4 m1_5) (hrc t0 t1 t2 t3 s0.1 x42.1 s0.2.2.1 x42.2 m1_0 m1_1 m1_2 m1_3 m1_4 m1_5) fun x47 hx47 => ?_
            conv => arg 3; whnf
            exact Zd (ih _)
           ·conv => arg 3; whnf
            refine Zc (Za t0 t1 t2 t3 s0.1 x42.1 s0.2.2.1 x42.2 m1_0 m1_1 m1_2 m1_3 m1_4 m1_5) (hrc t0 t1 t2 t3 s0.1 x42.1 s0.2.2.1 x42.2 m1_0 m1_1 m1_2 m1_3 m1_4 m1_5) fun x48 hx48 => ?_
            conv => arg 3; whnf
            exact Zd (ih _)
          ·conv => arg 3; whnf
           refine Ze rfl ?_ ?_
           ·conv => arg 3; whnf
            refine Zc (Za t0 t1 t2 t3 (w64 (x42.1 + 1)) s0.2.1 s0.2.2.1 x42.2 m1_0 m1_1 m1_2 m1_3 m1_4 m1_5) (hrc t0 t1 t2 t3 (w64 (x42.1 + 1)) s0.2.1 s0.2.2.1 x42.2 m1_0 m1_1 m1_2 m1_3 m1_4 m1_5) fun x49 hx49 => ?_
            conv => arg 3; whnf
            exact Zd (ih _)
           ·conv => arg 3; whnf
            refine Zc (Za t0 t1 t2 t3 (w64 (x42.1 + 1)) s0.2.1 s0.2.2.1 x42.2 m1_0 m1_1 m1_2 m1_3 m1_4 m1_5) (hrc t0 t1 t2 t3 (w64 (x42.1 + 1)) s0.2.1 s0.2.2.1 x42.2 m1_0 m1_1 m1_2 m1_3 m1_4 m1_5) fun x50 hx50 => ?_
            conv => arg 3; whnf
            exact Zd (ih _)
      ·conv => arg 3; whnf
       refine Ze rfl ?_ ?_
       ·conv => arg 3; whnf
        refine Zj rfl rfl fun x51 hx51 => ?_
        conv => arg 3; whnf
        refine Zg (Zv rfl hx51) ?_
        conv => arg 3; whnf
        refine Zj rfl rfl fun x52 hx52 => ?_
        conv => arg 3; whnf
        refine Zg (Zv rfl hx52) ?_
        conv => arg 3; whnf
        refine Zl _ Zz rfl fun x53 hx53 => ?_
        conv => arg 3; whnf
        refine Ze rfl ?_ ?_
        ·conv => arg 3; whnf
         refine Zc _ Zh fun x54 hx54 => ?_
         clear hx54
         rcases x54 with x54 | x54
         ·conv => arg 3; whnf
          refine Zcy rfl ?_
          conv => arg 3; whnf
          refine Zae rfl ?_
          conv => arg 3; whnf
          refine Ze rfl ?_ ?_
          ·conv => arg 3; whnf
           refine Ze rfl ?_ ?_
           ·conv => arg 3; whnf
            refine Zc (Za t0 t1 t2 t3 s0.1 x54.1 s0.2.2.1 x54.2 m1_0 m1_1 m1_2 m1_3 m1_4 m1_5) (hrc t0 t1 t2 t3 s0.1 x54.1 s0.2.2.1 x54.2 m1_0 m1_1 m1_2 m1_3 m1_4 m1_5) fun x55 hx55 => ?_
            conv => arg 3; whnf
            exact Zd (ih _)
           ·conv => arg 3; whnf
            refine Zc (Za t0 t1 t2 t3 s0.1 x54.1 s0.2.2.1 x54.2 m1_0 m1_1 m1_2 m1_3 m1_4 m1_5) (hrc t0 t1 t2 t3 s0.1 x54.1 s0.2.2.1 x54.2 m1_0 m1_1 m1_2 m1_3 m1_4 m1_5) fun x56 hx56 => ?_
            conv => arg 3; whnf
            exact Zd (ih _)
          ·conv => arg 3; whnf
           refine Ze rfl ?_ ?_
           ·conv => arg 3; whnf
            refine Zc (Za t0 t1 t2 t3 (w64 (x54.1 + 1)) s0.2.1 s0.2.2.1 x54.2 m1_0 m1_1 m1_2 m1_3 m1_4 m1_5) (hrc t0 t1 t2 t3 (w64 (x54.1 + 1)) s0.2.1 s0.2.2.1 x54.2 m1_0 m1_1 m1_2 m1_3 m1_4 m1_5) fun x57 hx57 => ?_
            conv => arg 3; whnf
            exact Zd (ih _)
           ·conv => arg 3; whnf
            refine Zc (Za t0 t1 t2 t3 (w64 (x54.1 + 1)) s0.2.1 s0.2.2.1 x54.2 m1_0 m1_1 m1_2 m1_3 m1_4 m1_5) (hrc t0 t1 t2 t3 (w64 (x54.1 + 1)) s0.2.1 s0.2.2.1 x54.2 m1_0 m1_1 m1_2 m1_3 m1_4 m1_5) fun x58 hx58 => ?_
            conv => arg 3; whnf
            exact Zd (ih _)
         ·conv => arg 3; whnf
          refine Zae rfl ?_
          conv => arg 3; whnf
          refine Zae rfl ?_
          conv => arg 3; whnf
          refine Ze rfl ?_ ?_
          ·conv => arg 3; whnf
           refine Ze rfl ?_ ?_
           ·conv => arg 3; whnf
            refine Zc (Za t0 t1 t2 t3 s0.1 x54.1 s0.2.2.1 x54.2 m1_0 m1_1 m1_2 m1_3 m1_4 m1_5) (hrc t0 t1 t2 t3 s0.1 x54.1 s0.2.2.1 x54.2 m1_0 m1_1 m1_2 m1_3 m1_4 m1_5) fun x59 hx59 => ?_
            conv => arg 3; whnf
            exact Zd (ih _)
           ·conv => arg 3; whnf
            refine Zc (Za t0 t1 t2 t3 s0.1 x54.1 s0.2.2.1 x54.2 m1_0 m1_1 m1_2 m1_3 m1_4 m1_5) (hrc t0 t1 t2 t3 s0.1 x54.1 s0.2.2.1 x54.2 m1_0 m1_1 m1_2 m1_3 m1_4 m1_5) fun x60 hx60 => ?_
            conv => arg 3; whnf
            exact Zd (ih _)
          ·conv => arg 3; whnf
           refine Ze rfl ?_ ?_
           ·conv => arg 3; whnf
            refine Zc (Za t0 t1 t2 t3 (w64 (x54.1 + 1)) s0.2.1 s0.2.2.1 x54.2 m1_0 m1_1 m1_2 m1_3 m1_4 m1_5) (hrc t0 t1 t2 t3 (w64 (x54.1 + 1)) s0.2.1 s0.2.2.1 x54.2 m1_0 m1_1 m1_2 m1_3 m1_4 m1_5) fun x61 hx61 => ?_
            conv => arg 3; whnf
            exact Zd (ih _)
           ·conv => arg 3; whnf
            refine Zc (Za t0 t1 t2 t3 (w64 (x54.1 + 1)) s0.2.1 s0.2.2.1 x54.2 m1_0 m1_1 m1_2 m1_3 m1_4 m1_5) (hrc t0 t1 t2 t3 (w64 (x54.1 + 1)) s0.2.1 s0.2.2.1 x54.2 m1_0 m1_1 m1_2 m1_3 m1_4 m1_5) fun x62 hx62 => ?_
            conv => arg 3; whnf
            exact Zd (ih _)
        ·conv => arg 3; whnf
         refine Zc _ Zw fun x63 hx63 => ?_
         conv => arg 3; whnf
         exact Zd (ih _)
       ·conv => arg 3; whnf
        refine Zc _ Zh fun x64 hx64 => ?_
        clear hx64
        rcases x64 with x64 | x64
        ·conv => arg 3; whnf
         refine Zcy rfl ?_
         conv => arg 3; whnf
         refine Zae rfl ?_
         conv => arg 3; whnf
         refine Ze rfl ?_ ?_
         ·conv => arg 3; whnf
          refine Ze rfl ?_ ?_
          ·conv => arg 3; whnf
           refine Zc (Za t0 t1 t2 t3 s0.1 x64.1 s0.2.2.1 x64.2 m1_0 m1_1 m1_2 m1_3 m1_4 m1_5) (hrc t0 t1 t2 t3 s0.1 x64.1 s0.2.2.1 x64.2 m1_0 m1_1 m1_2 m1_3 m1_4 m1_5) fun x65 hx65 => ?_
           conv => arg 3; whnf
           exact Zd (ih _)
          ·conv => arg 3; whnf
           refine Zc (Za t0 t1 t2 t3 s0.1 x64.1 s0.2.2.1 x64.2 m1_0 m1_1 m1_2 m1_3 m1_4 m1_5) (hrc t0 t1 t2 t3 s0.1 x64.1 s0.2.2.1 x64.2 m1_0 m1_1 m1_2 m1_3 m1_4 m1_5) fun x66 hx66 => ?_
           conv => arg 3; whnf
           exact Zd (ih _)
         ·conv => arg 3; whnf
          refine Ze rfl ?_ ?_
          ·conv => arg 3; whnf
           refine Zc (Za t0 t1 t2 t3 (w64 (x64.1 + 1)) s0.2.1 s0.2.2.1 x64.2 m1_0 m1_1 m1_2 m1_3 m1_4 m1_5) (hrc t0 t1 t2 t3 (w64 (x64.1 + 1)) s0.2.1 s0.2.2.1 x64.2 m1_0 m1_1 m1_2 m1_3 m1_4 m1_5) fun x67 hx67 => ?_
           conv => arg 3; whnf
           exact Zd (ih _)
          ·conv => arg 3; whnf
           refine Zc (Za t0 t1 t2 t3 (w64 (x64.1 + 1)) s0.2.1 s0.2.2.1 x64.2 m1_0 m1_1 m1_2 m1_3 m1_4 m1_5) (hrc t0 t1 t2 t3 (w64 (x64.1 + 1)) s0.2.1 s0.2.2.1 x64.2 m1_0 m1_1 m1_2 m1_3 m1_4 m1_5) fun x68 hx68 => ?_
           conv => arg 3; whnf
           exact Zd (ih _)
        ·conv => arg 3; whnf
         refine Zae rfl ?_
         conv => arg 3; whnf
         refine Zae rfl ?_
         conv => arg 3; whnf
         refine Ze rfl ?_ ?_
         ·conv => arg 3; whnf
          refine Ze rfl ?_ ?_
          ·conv => arg 3; whnf
           refine Zc (Za t0 t1 t2 t3 s0.1 x64.1 s0.2.2.1 x64.2 m1_0 m1_1 m1_2 m1_3 m1_4 m1_5) (hrc t0 t1 t2 t3 s0.1 x64.1 s0.2.2.1 x64.2 m1_0 m1_1 m1_2 m1_3 m1_4 m1_5) fun x69 hx69 => ?_
           conv => arg 3; whnf
           exact Zd (ih _)
          ·conv => arg 3; whnf
           refine Zc (Za t0 t1 t2 t3 s0.1 x64.1 s0.2.2.1 x64.2 m1_0 m1_1 m1_2 m1_3 m1_4 m1_5) (hrc t0 t1 t2 t3 s0.1 x64.1 s0.2.2.1 x64.2 m1_0 m1_1 m1_2 m1_3 m1_4 m1_5) fun x70 hx70 => ?_
           conv => arg 3; whnf
           exact Zd (ih _)
         ·conv => arg 3; whnf
          refine Ze rfl ?_ ?_
          ·conv => arg 3; whnf
           refine Zc (Za t0 t1 t2 t3 (w64 (x64.1 + 1)) s0.2.1 s0.2.2.1 x64.2 m1_0 m1_1 m1_2 m1_3 m1_4 m1_5) (hrc t0 t1 t2 t3 (w64 (x64.1 + 1)) s0.2.1 s0.2.2.1 x64.2 m1_0 m1_1 m1_2 m1_3 m1_4 m1_5) fun x71 hx71 => ?_
           conv => arg 3; whnf
           exact Zd (ih _)
          ·conv => arg 3; whnf
           refine Zc (Za t0 t1 t2 t3 (w64 (x64.1 + 1)) s0.2.1 s0.2.2.1 x64.2 m1_0 m1_1 m1_2 m1_3 m1_4 m1_5) (hrc t0 t1 t2 t3 (w64 (x64.1 + 1)) s0.2.1 s0.2.2.1 x64.2 m1_0 m1_1 m1_2 m1_3 m1_4 m1_5) fun x72 hx72 => ?_
           conv => arg 3; whnf
           exact Zd (ih _)
theorem ZdB (rc : Int → Int → Int → (Int → Int → Option Int) → (List Int) → Option (List Int)) (hrc : ∀ (t0 : Bool) (t1 : Bool) (t2 : Bool) (t3 : Bool) (b : Int) (c : Int) (d : Int) (m0_0 : (List Int)) (m1_0 : Int) (m1_1 : Int) (m1_2 : (List ZK)) (m1_3 : (List ZJ)) (m1_4 : (List Zq)) (m1_5 : (List Zi)) (r : (List Int)), rc b c d (fun z0 z1 => Zp z0 z1 m1_4) m0_0 = some r → evW ctx 124 [(.sl 0 1), (.d (Zb b)), (.d (Zb c)), (.d (Zb d)), (.fn 118 [(.ptr 1 0)])] [(.arr 1 (List.map Zb m0_0)), (.cells [(.d (Zb m1_0)), (.d (Zb m1_1)), (.d (D.list t0 (List.map ZV m1_2))), (.d (D.list t1 (List.map ZS m1_3))), (.d (D.list t2 (List.map Zu m1_4))), (.d (D.list t3 (List.map Zs m1_5)))])] = some ((Za t0 t1 t2 t3 b c d m0_0 m1_0 m1_1 m1_2 m1_3 m1_4 m1_5) r)) (t0 : Bool) (t1 : Bool) (t2 : Bool) (t3 : Bool) (b : Int) (c : Int) (d : Int) (m0_0 : (List Int)) (m1_0 : Int) (m1_1 : Int) (m1_2 : (List ZK)) (m1_3 : (List ZJ)) (m1_4 : (List Zq)) (m1_5 : (List Zi)) : ∀ r, (Zaj rc b c d (fun z0 z1 => Zp z0 z1 m1_4) m0_0) = some r → evW ctx 124 [(.sl 0 1), (.d (Zb b)), (.d (Zb c)), (.d (Zb d)), (.fn 118 [(.ptr 1 0)])] [(.arr 1 (List.map Zb m0_0)), (.cells [(.d (Zb m1_0)), (.d (Zb m1_1)), (.d (D.list t0 (List.map ZV m1_2))), (.d (D.list t1 (List.map ZS m1_3))), (.d (D.list t2 (List.map Zu m1_4))), (.d (D.list t3 (List.map Zs m1_5)))])] = some ((Za t0 t1 t2 t3 b c d m0_0 m1_0 m1_1 m1_2 m1_3 m1_4 m1_5) r) := by
 show ZQ _ (fun r rhs => rhs = some ((Za t0 t1 t2 t3 b c d m0_0 m1_0 m1_1 m1_2 m1_3 m1_4 m1_5) r)) _
 unfold Zaj
 rw [Zfc ctx 124 Ztd _ _ rfl rfl]
 conv => arg 3; whnf
 refine Zc _ (Zdx hrc _) fun r219 hr219 => ?_
 conv => arg 3; whnf
 exact Zf rfl
theorem ZbM : ∀ (n : Nat) (t0 : Bool) (t1 : Bool) (t2 : Bool) (t3 : Bool) (b : Int) (c : Int) (d : Int) (m0_0 : (List Int)) (m1_0 : Int) (m1_1 : Int) (m1_2 : (List ZK)) (m1_3 : (List ZJ)) (m1_4 : (List Zq)) (m1_5 : (List Zi)) (r : (List Int)), ZU n b c d (fun z0 z1 => Zp z0 z1 m1_4) m0_0 = some r → evW ctx 124 [(.sl 0 1), (.d (Zb b)), (.d (Zb c)), (.d (Zb d)), (.fn 118 [(.ptr 1 0)])] [(.arr 1 (List.map Zb m0_0)), (.cells [(.d (Zb m1_0)), (.d (Zb m1_1)), (.d (D.list t0 (List.map ZV m1_2))), (.d (D.list t1 (List.map ZS m1_3))), (.d (D.list t2 (List.map Zu m1_4))), (.d (D.list t3 (List.map Zs m1_5)))])] = some ((Za t0 t1 t2 t3 b c d m0_0 m1_0 m1_1 m1_2 m1_3 m1_4 m1_5) r)
  | 0, t0, t1, t2, t3, b, c, d, m0_0, m1_0, m1_1, m1_2, m1_3, m1_4, m1_5, r, h => by cases h
  | n + 1, t0, t1, t2, t3, b, c, d, m0_0, m1_0, m1_1, m1_2, m1_3, m1_4, m1_5, r, h => ZdB (ZU n) (ZbM n) t0 t1 t2 t3 b c d m0_0 m1_0 m1_1 m1_2 m1_3 m1_4 m1_5 r h
theorem ZdN {t0 : Bool} {t1 : Bool} {t2 : Bool} {t3 : Bool} {b : Int} {c : Int} {d : Int} {m0_0 : (List Int)} {m1_0 : Int} {m1_1 : Int} {m1_2 : (List ZK)} {m1_3 : (List ZJ)} {m1_4 : (List Zq)} {m1_5 : (List Zi)} : ∀ r, Zc9 b c d (fun z0 z1 => Zp z0 z1 m1_4) m0_0 = some r → evW ctx 124 [(.sl 0 1), (.d (Zb b)), (.d (Zb c)), (.d (Zb d)), (.fn 118 [(.ptr 1 0)])] [(.arr 1 (List.map Zb m0_0)), (.cells [(.d (Zb m1_0)), (.d (Zb m1_1)), (.d (D.list t0 (List.map ZV m1_2))), (.d (D.list t1 (List.map ZS m1_3))), (.d (D.list t2 (List.map Zu m1_4))), (.d (D.list t3 (List.map Zs m1_5)))])] = some ((Za t0 t1 t2 t3 b c d m0_0 m1_0 m1_1 m1_2 m1_3 m1_4 m1_5) r) := fun r h => by
  obtain ⟨n, hn⟩ := ZtU h
  exact ZbM n t0 t1 t2 t3 b c d m0_0 m1_0 m1_1 m1_2 m1_3 m1_4 m1_5 r hn
def ZbZ (t0 : Bool) (t1 : Bool) (t2 : Bool) (t3 : Bool) (m0_0 : (List Int)) (m1_0 : Int) (m1_1 : Int) (m1_2 : (List ZK)) (m1_3 : (List ZJ)) (m1_4 : (List Zq)) (m1_5 : (List Zi)) : (List Int) → V × Zk
  | r => ((.d (D.tup [])), [(.arr 1 (List.map Zb r)), (.cells [(.d (Zb m1_0)), (.d (Zb m1_1)), (.d (D.list t0 (List.map ZV m1_2))), (.d (D.list t1 (List.map ZS m1_3))), (.d (D.list t2 (List.map Zu m1_4))), (.d (D.list t3 (List.map Zs m1_5)))])])
theorem ZdQ {t0 : Bool} {t1 : Bool} {t2 : Bool} {t3 : Bool} {m0_0 : (List Int)} {m1_0 : Int} {m1_1 : Int} {m1_2 : (List ZK)} {m1_3 : (List ZJ)} {m1_4 : (List Zq)} {m1_5 : (List Zi)} : ∀ r, (Zaz (fun z0 z1 => Zp z0 z1 m1_4) m0_0) = some r → evW ctx 117 [(.sl 0 1), (.fn 118 [(.ptr 1 0)])] [(.arr 1 (List.map Zb m0_0)), (.cells [(.d (Zb m1_0)), (.d (Zb m1_1)), (.d (D.list t0 (List.map ZV m1_2))), (.d (D.list t1 (List.map ZS m1_3))), (.d (D.list t2 (List.map Zu m1_4))), (.d (D.list t3 (List.map Zs m1_5)))])] = some ((ZbZ t0 t1 t2 t3 m0_0 m1_0 m1_1 m1_2 m1_3 m1_4 m1_5) r) := by
 show ZQ _ (fun r rhs => rhs = some ((ZbZ t0 t1 t2 t3 m0_0 m1_0 m1_1 m1_2 m1_3 m1_4 m1_5) r)) _
 unfold Zaz
 rw [Zfc ctx 117 Zs0 _ _ rfl rfl]
 conv => arg 3; whnf
 refine Zo (ZG _ _) ?_
 conv => arg 3; whnf
 refine Zl _ ZgI rfl fun x0 hx0 => ?_
 conv => arg 3; whnf
 refine Zc _ ZdN fun x1 hx1 => ?_
 conv => arg 3; whnf
 exact Zf rfl
def ZhB (r : (List Int)) : D := (D.list true (List.map Zb r))
def Zgh (t0 : Bool) (t1 : Bool) (t2 : Bool) (t3 : Bool) (a : Zm) (b : Int) : (List Int) → Ex × List V × Zk
  | r => (.exit 0, [(.ptr 0 0), (.sl 1 1)], [(.cells (dV t0 t1 t2 t3 a)), (.arr 1 (List.map Zb r))])
theorem ZiF {t0 : Bool} {t1 : Bool} {t2 : Bool} {t3 : Bool} {a : Zm} {b : Int} : ∀ (s1 : Int × (List Int)) (r : (List Int)), lp (ZcT a b) s1 = some r → lpW ctx 0 [1, 2, 5, 12, 13, 14] [2, 5] ZqG [(.d (Zb b)), (.ptr 0 0), (.sl 1 1), (.d (D.list t2 (List.map Zu a.futures))), (.d (Zb (a.futures.length : Int))), (.d (Zb s1.1))] [(.cells (dV t0 t1 t2 t3 a)), (.arr 1 (List.map Zb s1.2))] = some ((Zgh t0 t1 t2 t3 a b) r) := by
 refine ZaY (Zgh t0 t1 t2 t3 a b) ?_
 intro s1 rcl ih
 show ZQ _ _ (lpW _ _ _ _ _ _ _)
 unfold ZcT
 rw [ZaX]
 conv => arg 3; whnf
 refine Ze rfl ?_ ?_
 ·conv => arg 3; whnf
  refine Zj rfl rfl fun x2 hx2 => ?_
  conv => arg 3; whnf
  refine Ze rfl ?_ ?_
  ·conv => arg 3; whnf
   refine Zcy rfl ?_
   conv => arg 3; whnf
   refine Ze (Zkc Zb s1.2 1) ?_ ?_
   ·conv => arg 3; whnf
    refine Zo (Zj4 Zb s1.2 [s1.1]) ?_
    conv => arg 3; whnf
    exact Zd (ih _)
   ·exact ZaA
  ·conv => arg 3; whnf
   exact Zd (ih _)
 ·conv => arg 3; whnf
  exact Zf rfl
theorem Zkh {t0 : Bool} {t1 : Bool} {t2 : Bool} {t3 : Bool} {a : Zm} {b : Int} : ∀ r, (Zew a b) = some r → evD ctx 101 [(.d (D.agg (dA t0 t1 t2 t3 a))), (.d (Zb b))] = some (ZhB r) := by
 show ZQ _ (fun r rhs => rhs = some (ZhB r)) _
 unfold Zew
 rw [Zbl ctx 101 Zsv _ rfl rfl]
 conv => arg 3; whnf
 refine Zl _ ZeS rfl fun x0 hx0 => ?_
 conv => arg 3; whnf
 refine Ze rfl ?_ ?_
 ·conv => arg 3; whnf
  exact Zf rfl
 ·conv => arg 3; whnf
  refine Zo (ZG _ _) ?_
  conv => arg 3; whnf
  refine Zc _ (ZiF _) fun r3 hr3 => ?_
  conv => arg 3; whnf
  refine Zc _ ZdQ fun x4 hx4 => ?_
  conv => arg 3; whnf
  exact Zf rfl
def ZiQ (r : (List Int)) : D := (D.list true (List.map Zb r))
def ZgQ (t0 : Bool) (t1 : Bool) (t2 : Bool) (t3 : Bool) (a : Zm) (b : Int) : (List Int) → Ex × List V × Zk
  | r => (.exit 0, [(.d (Zb b)), (.ptr 0 0), (.sl 1 1)], [(.cells (dV t0 t1 t2 t3 a)), (.arr 1 (List.map Zb r))])
theorem ZjA {t0 : Bool} {t1 : Bool} {t2 : Bool} {t3 : Bool} {a : Zm} {b : Int} : ∀ (s1 : Int × (List Int)) (r : (List Int)), lp (ZeT a b) s1 = some r → lpW ctx 0 [1, 2, 5, 14, 15, 16] [1, 2, 5] Zsc [(.d (Zb b)), (.ptr 0 0), (.sl 1 1), (.d (D.list t1 (List.map ZS a.edges))), (.d (Zb (a.edges.length : Int))), (.d (Zb s1.1))] [(.cells (dV t0 t1 t2 t3 a)), (.arr 1 (List.map Zb s1.2))] = some ((ZgQ t0 t1 t2 t3 a b) r) := by
 refine ZaY (ZgQ t0 t1 t2 t3 a b) ?_
 intro s1 rcl ih
 show ZQ _ _ (lpW _ _ _ _ _ _ _)
 unfold ZeT
 rw [ZaX]
 conv => arg 3; whnf
 refine Ze rfl ?_ ?_
 ·conv => arg 3; whnf
  refine Zj rfl rfl fun x2 hx2 => ?_
  conv => arg 3; whnf
  refine Ze rfl ?_ ?_
  ·conv => arg 3; whnf
   refine Zcy rfl ?_
   conv => arg 3; whnf
   refine Ze (Zkc Zb s1.2 1) ?_ ?_
   ·conv => arg 3; whnf
    refine Zo (Zj4 Zb s1.2 [x2.src]) ?_
    conv => arg 3; whnf
    exact Zd (ih _)
   ·exact ZaA
  ·conv => arg 3; whnf
   exact Zd (ih _)
 ·conv => arg 3; whnf
  exact Zf rfl
def ZgZ (t0 : Bool) (t1 : Bool) (t2 : Bool) (t3 : Bool) (a : Zm) (x4 : (List Int)) : (List Int) → Ex × List V × Zk
  | r => (.exit 2, [(.sl 0 1)], [(.arr 1 (List.map Zb r))])
theorem ZjI {t0 : Bool} {t1 : Bool} {t2 : Bool} {t3 : Bool} {a : Zm} {x4 : (List Int)} : ∀ (s5 : Int × (List Int)) (r : (List Int)), lp (ZeV a x4) s5 = some r → lpW ctx 0 [2, 5, 32, 33, 34] [5] Zsw [(.ptr 0 0), (.sl 1 1), (.d (D.list true (List.map Zb x4))), (.d (Zb (x4.length : Int))), (.d (Zb s5.1))] [(.cells (dV t0 t1 t2 t3 a)), (.arr 1 (List.map Zb s5.2))] = some ((ZgZ t0 t1 t2 t3 a x4) r) := by
 refine ZaY (ZgZ t0 t1 t2 t3 a x4) ?_
 intro s5 rcl ih
 show ZQ _ _ (lpW _ _ _ _ _ _ _)
 unfold ZeV
 rw [ZaX]
 conv => arg 3; whnf
 refine Ze rfl ?_ ?_
 ·conv => arg 3; whnf
  refine Zj rfl rfl fun x6 hx6 => ?_
  conv => arg 3; whnf
  refine Zj rfl rfl fun x7 hx7 => ?_
  conv => arg 3; whnf
  refine Zcy rfl ?_
  conv => arg 3; whnf
  refine Ze (Zkc Zb s5.2 1) ?_ ?_
  ·conv => arg 3; whnf
   refine Zo (Zj4 Zb s5.2 [x7.maker]) ?_
   conv => arg 3; whnf
   exact Zd (ih _)
  ·exact ZaA
 ·conv => arg 3; whnf
  exact Zf rfl
theorem Zlo {t0 : Bool} {t1 : Bool} {t2 : Bool} {t3 : Bool} {a : Zm} {b : Int} : ∀ r, (ZeE a b) = some r → evD ctx 76 [(.d (D.agg (dA t0 t1 t2 t3 a))), (.d (Zb b))] = some (ZiQ r) := by
 show ZQ _ (fun r rhs => rhs = some (ZiQ r)) _
 unfold ZeE
 rw [Zbl ctx 76 Zvm _ rfl rfl]
 conv => arg 3; whnf
 refine Zl _ ZeS rfl fun x0 hx0 => ?_
 conv => arg 3; whnf
 refine Ze rfl ?_ ?_
 ·conv => arg 3; whnf
  exact Zf rfl
 ·conv => arg 3; whnf
  refine Zo (ZG _ _) ?_
  conv => arg 3; whnf
  refine Zc _ (ZjA _) fun r3 hr3 => ?_
  conv => arg 3; whnf
  refine Zl _ Zkh rfl fun x4 hx4 => ?_
  conv => arg 3; whnf
  refine Zo (ZG _ _) ?_
  conv => arg 3; whnf
  refine Zc _ (ZjI _) fun r8 hr8 => ?_
  conv => arg 3; whnf
  exact Zf rfl
def ZiK (r : Int) : D := (D.int .u32 r)
theorem ZdE {a : Int} : ∀ r, (ZcA a) = some r → evD ctx 64 [(.d (Zb a))] = some (ZiK r) := by
 show ZQ _ (fun r rhs => rhs = some (ZiK r)) _
 unfold ZcA
 rw [Zbl ctx 64 ZvW _ rfl rfl]
 conv => arg 3; whnf
 exact Zf rfl
def Zjm : Unit → D
  | r => (D.agg [(D.int .u32 0), (D.fn 97 []), (D.int .u32 1), (D.fn 98 []), (D.int .u32 0), (D.fn 99 []), (D.int .u32 7), (D.fn 100 [])])
theorem ZlZ : ∀ r, ZgT = some r → evD ctx 65 [] = some (Zjm r) := by
 show ZQ _ (fun r rhs => rhs = some (Zjm r)) _
 unfold ZgT
 rw [Zbl ctx 65 ZvS _ rfl rfl]
 conv => arg 3; whnf
 exact Zf rfl
def Zif (r : Int) : D := (D.int .u32 r)
theorem ZkF {a : Int} {b : Int} : ∀ r, (ZeP a b) = some r → evD ctx 97 [(.d (D.int .u32 a)), (.d (D.int .u32 b))] = some (Zif r) := by
 show ZQ _ (fun r rhs => rhs = some (Zif r)) _
 unfold ZeP
 rw [Zbl ctx 97 ZvP _ rfl rfl]
 conv => arg 3; whnf
 exact Zf rfl
def Zib (r : Int) : D := (D.int .u32 r)
theorem ZkU {a : Int} {b : Int} : ∀ r, (ZeM a b) = some r → evD ctx 98 [(.d (D.int .u32 a)), (.d (D.int .u32 b))] = some (Zib r) := by
 show ZQ _ (fun r rhs => rhs = some (Zib r)) _
 unfold ZeM
 rw [Zbl ctx 98 Zv7 _ rfl rfl]
 conv => arg 3; whnf
 exact Zf rfl
def Zig (r : Int) : D := (D.int .u32 r)
theorem ZkC {a : Int} {b : Int} : ∀ r, (ZeN a b) = some r → evD ctx 99 [(.d (D.int .u32 a)), (.d (D.int .u32 b))] = some (Zig r) := by
 show ZQ _ (fun r rhs => rhs = some (Zig r)) _
 unfold ZeN
 rw [Zbl ctx 99 Zu3 _ rfl rfl]
 conv => arg 3; whnf
 exact Zf rfl
def Zia (r : Int) : D := (D.int .u32 r)
theorem ZkG {a : Int} {b : Int} : ∀ r, (ZeR a b) = some r → evD ctx 100 [(.d (D.int .u32 a)), (.d (D.int .u32 b))] = some (Zia r) := by
 show ZQ _ (fun r rhs => rhs = some (Zia r)) _
 unfold ZeR
 rw [Zbl ctx 100 Ztp _ rfl rfl]
 conv => arg 3; whnf
 exact Zf rfl
def Zlf (r : Int) : D := (Zb r)
def ZiN (t0 : Bool) (a : ZK) (b : (List Int)) : (List (Int × Int)) → Ex × List V × Zk
  | r => (.exit 1, [(.ptr 0 0), (.mp 1)], [(.cells [(.d (Zb a.op)), (.d (Zb a.arg)), (.d (Zb a.work))]), (.mp (mpD Zb Zb r))])
theorem Zlk {t0 : Bool} {a : ZK} {b : (List Int)} : ∀ (s0 : Int × (List (Int × Int))) (r : (List (Int × Int))), lp (Zd5 b) s0 = some r → lpW ctx 0 [3, 7, 19, 20, 21] [3, 7] Zst [(.ptr 0 0), (.mp 1), (.d (D.list t0 (List.map Zb b))), (.d (Zb (b.length : Int))), (.d (Zb s0.1))] [(.cells [(.d (Zb a.op)), (.d (Zb a.arg)), (.d (Zb a.work))]), (.mp (mpD Zb Zb s0.2))] = some ((ZiN t0 a b) r) := by
 refine ZaY (ZiN t0 a b) ?_
 intro s0 rcl ih
 show ZQ _ _ (lpW _ _ _ _ _ _ _)
 unfold Zd5
 rw [ZaX]
 conv => arg 3; whnf
 refine Ze rfl ?_ ?_
 ·conv => arg 3; whnf
  refine Zj rfl rfl fun x1 hx1 => ?_
  conv => arg 3; whnf
  refine Zg (Zr6 (f := Zb) (g := Zb) (fun ka kb : Int => (ka == kb)) (fun _ _ => rfl) s0.2 s0.1 x1) ?_
  conv => arg 3; whnf
  exact Zd (ih _)
 ·conv => arg 3; whnf
  exact Zf rfl
def ZiT (t1 : Bool) (c : (List Int)) : Int → Ex × List V × Zk
  | r => (.exit 3, [(.d (D.int .u32 r))], [])
theorem Zlm {t1 : Bool} {c : (List Int)} : ∀ (s6 : Int × Int) (r : Int), lp (Zd4 c) s6 = some r → lpW ctx 0 [10, 11, 60, 61, 62] [11] Zmw [(.ptr 0 0), (.d (D.int .u32 s6.1)), (.d (D.list t1 (List.map Zb c))), (.d (Zb (c.length : Int))), (.d (Zb s6.2))] [(.cells [(.d (D.int .u32 0)), (.d (D.fn 97 []))])] = some ((ZiT t1 c) r) := by
 refine ZaY (ZiT t1 c) ?_
 intro s6 rcl ih
 show ZQ _ _ (lpW _ _ _ _ _ _ _)
 unfold Zd4
 rw [ZaX]
 conv => arg 3; whnf
 refine Ze rfl ?_ ?_
 ·conv => arg 3; whnf
  refine Zj rfl rfl fun x7 hx7 => ?_
  conv => arg 3; whnf
  refine Zl _ ZdE rfl fun x8 hx8 => ?_
  conv => arg 3; whnf
  refine Zl _ ZkF rfl fun x9 hx9 => ?_
  conv => arg 3; whnf
  exact Zd (ih _)
 ·conv => arg 3; whnf
  exact Zf rfl
def Zhs (t1 : Bool) (c : (List Int)) : Int → Ex × List V × Zk
  | r => (.exit 3, [(.d (D.int .u32 r))], [])
theorem Zkm {t1 : Bool} {c : (List Int)} : ∀ (s11 : Int × Int) (r : Int), lp (Zdr c) s11 = some r → lpW ctx 0 [10, 11, 60, 61, 62] [11] Zmw [(.ptr 0 0), (.d (D.int .u32 s11.1)), (.d (D.list t1 (List.map Zb c))), (.d (Zb (c.length : Int))), (.d (Zb s11.2))] [(.cells [(.d (D.int .u32 1)), (.d (D.fn 98 []))])] = some ((Zhs t1 c) r) := by
 refine ZaY (Zhs t1 c) ?_
 intro s11 rcl ih
 show ZQ _ _ (lpW _ _ _ _ _ _ _)
 unfold Zdr
 rw [ZaX]
 conv => arg 3; whnf
 refine Ze rfl ?_ ?_
 ·conv => arg 3; whnf
  refine Zj rfl rfl fun x12 hx12 => ?_
  conv => arg 3; whnf
  refine Zl _ ZdE rfl fun x13 hx13 => ?_
  conv => arg 3; whnf
  refine Zl _ ZkU rfl fun x14 hx14 => ?_
  conv => arg 3; whnf
  exact Zd (ih _)
 ·conv => arg 3; whnf
  exact Zf rfl
def Zhq (t1 : Bool) (c : (List Int)) : Int → Ex × List V × Zk
  | r => (.exit 3, [(.d (D.int .u32 r))], [])
theorem Zkw {t1 : Bool} {c : (List Int)} : ∀ (s16 : Int × Int) (r : Int), lp (Zdm c) s16 = some r → lpW ctx 0 [10, 11, 60, 61, 62] [11] Zmw [(.ptr 0 0), (.d (D.int .u32 s16.1)), (.d (D.list t1 (List.map Zb c))), (.d (Zb (c.length : Int))), (.d (Zb s16.2))] [(.cells [(.d (D.int .u32 0)), (.d (D.fn 99 []))])] = some ((Zhq t1 c) r) := by
 refine ZaY (Zhq t1 c) ?_
 intro s16 rcl ih
 show ZQ _ _ (lpW _ _ _ _ _ _ _)
 unfold Zdm
 rw [ZaX]
 conv => arg 3; whnf
 refine Ze rfl ?_ ?_
 ·conv => arg 3; whnf
  refine Zj rfl rfl fun x17 hx17 => ?_
  conv => arg 3; whnf
  refine Zl _ ZdE rfl fun x18 hx18 => ?_
  conv => arg 3; whnf
  refine Zl _ ZkC rfl fun x19 hx19 => ?_
  conv => arg 3; whnf
  exact Zd (ih _)
 ·conv => arg 3; whnf
  exact Zf rfl
def ZhA (t1 : Bool) (c : (List Int)) : Int → Ex × List V × Zk
  | r => (.exit 3, [(.d (D.int .u32 r))], [])
theorem ZjW {t1 : Bool} {c : (List Int)} : ∀ (s21 : Int × Int) (r : Int), lp (Zdq c) s21 = some r → lpW ctx 0 [10, 11, 60, 61, 62] [11] Zmw [(.ptr 0 0), (.d (D.int .u32 s21.1)), (.d (D.list t1 (List.map Zb c))), (.d (Zb (c.length : Int))), (.d (Zb s21.2))] [(.cells [(.d (D.int .u32 7)), (.d (D.fn 100 []))])] = some ((ZhA t1 c) r) := by
 refine ZaY (ZhA t1 c) ?_
 intro s21 rcl ih
 show ZQ _ _ (lpW _ _ _ _ _ _ _)
 unfold Zdq
 rw [ZaX]
 conv => arg 3; whnf
 refine Ze rfl ?_ ?_
 ·conv => arg 3; whnf
  refine Zj rfl rfl fun x22 hx22 => ?_
  conv => arg 3; whnf
  refine Zl _ ZdE rfl fun x23 hx23 => ?_
  conv => arg 3; whnf
  refine Zl _ ZkG rfl fun x24 hx24 => ?_
  conv => arg 3; whnf
  exact Zd (ih _)
 ·conv => arg 3; whnf
  exact Zf rfl
theorem Zoj {t0 : Bool} {t1 : Bool} {a : ZK} {b : (List Int)} {c : (List Int)} : ∀ r, (ZhE a b c) = some r → evD ctx 39 [(.d (D.agg [(Zb a.op), (Zb a.arg), (Zb a.work)])), (.d (D.list t0 (List.map Zb b))), (.d (D.list t1 (List.map Zb c)))] = some (Zlf r) := by
 show ZQ _ (fun r rhs => rhs = some (Zlf r)) _
 unfold ZhE
 rw [Zbl ctx 39 Zvf _ rfl rfl]
 conv => arg 3; whnf
 refine Ze rfl ?_ ?_
 ·conv => arg 3; whnf
  refine Zo (ZG _ _) ?_
  conv => arg 3; whnf
  refine Zc _ (Zlk _) fun r2 hr2 => ?_
  conv => arg 3; whnf
  refine Zg (ZtE (f := Zb) (g := Zb) (fun ka kb : Int => (ka == kb)) (fun _ _ => rfl) r2 a.arg 0) ?_
  conv => arg 3; whnf
  refine Zl _ ZdE rfl fun x3 hx3 => ?_
  conv => arg 3; whnf
  exact Zf rfl
 ·conv => arg 3; whnf
  refine Ze rfl ?_ ?_
  ·conv => arg 3; whnf
   refine Zl _ ZdE rfl fun x4 hx4 => ?_
   conv => arg 3; whnf
   exact Zf rfl
  ·conv => arg 3; whnf
   refine Ze rfl ?_ ?_
   ·conv => arg 3; whnf
    exact Zf rfl
   ·conv => arg 3; whnf
    refine Ze rfl ?_ ?_
    ·conv => arg 3; whnf
     exact Zf rfl
    ·conv => arg 3; whnf
     refine Zl _ ZlZ rfl fun x5 hx5 => ?_
     conv => arg 3; whnf
     refine Ze rfl ?_ ?_
     ·conv => arg 3; whnf
      refine Zp8 rfl ?_ ?_ ?_ ?_
      ·conv => arg 3; whnf
       refine Zg rfl ?_
       conv => arg 3; whnf
       refine Zo (ZG _ _) ?_
       conv => arg 3; whnf
       refine Zc _ (Zlm _) fun r10 hr10 => ?_
       conv => arg 3; whnf
       exact Zf rfl
      ·conv => arg 3; whnf
       refine Zg rfl ?_
       conv => arg 3; whnf
       refine Zo (ZG _ _) ?_
       conv => arg 3; whnf
       refine Zc _ (Zkm _) fun r15 hr15 => ?_
       conv => arg 3; whnf
       exact Zf rfl
      ·conv => arg 3; whnf
       refine Zg rfl ?_
       conv => arg 3; whnf
       refine Zo (ZG _ _) ?_
       conv => arg 3; whnf
       refine Zc _ (Zkw _) fun r20 hr20 => ?_
       conv => arg 3; whnf
       exact Zf rfl
      ·conv => arg 3; whnf
       refine Zg rfl ?_
       conv => arg 3; whnf
       refine Zo (ZG _ _) ?_
       conv => arg 3; whnf
       refine Zc _ (ZjW _) fun r25 hr25 => ?_
       conv => arg 3; whnf
       exact Zf rfl
     ·exact ZaA
def Zie (r : Zr) : D := (D.agg [(D.list true (List.map Zb r.work)), (D.list true (List.map Zb r.vals))])
def ZgD (t0 : Bool) (t1 : Bool) (t2 : Bool) (t3 : Bool) (t4 : Bool) (a : Zm) (b : (List Int)) (c : Zr) (d : Int) (x2 : Int) (x4 : (List Int)) : (List Int) → Ex × List V × Zk
  | r => (.exit 0, [(.d (D.list t4 (List.map Zb b))), (.d (Zb d)), (.ptr 0 0), (.ptr 1 0), (.ptr 2 0), (.sl 3 1)], [(.cells (dV t0 t1 t2 t3 a)), (.cells [(.sl 4 1), (.sl 5 1)]), (.cells [(.sl 6 1), (.sl 7 1)]), (.arr 1 (List.map Zb r)), (.arr 1 (List.map Zb (List.set c.work d.toNat (w64 (x2 + 1))))), (.arr 1 (List.map Zb c.vals)), (.arr 1 []), (.arr 1 [])])
theorem Zja {t0 : Bool} {t1 : Bool} {t2 : Bool} {t3 : Bool} {t4 : Bool} {a : Zm} {b : (List Int)} {c : Zr} {d : Int} {x2 : Int} {x4 : (List Int)} : ∀ (s5 : Int × (List Int)) (r : (List Int)), lp (ZeD c x4) s5 = some r → lpW ctx 0 [1, 3, 4, 6, 8, 9, 32, 33, 34] [1, 3, 4, 6, 8, 9] ZsX [(.d (D.list t4 (List.map Zb b))), (.d (Zb d)), (.ptr 0 0), (.ptr 1 0), (.ptr 2 0), (.sl 3 1), (.d (D.list true (List.map Zb x4))), (.d (Zb (x4.length : Int))), (.d (Zb s5.1))] [(.cells (dV t0 t1 t2 t3 a)), (.cells [(.sl 4 1), (.sl 5 1)]), (.cells [(.sl 6 1), (.sl 7 1)]), (.arr 1 (List.map Zb s5.2)), (.arr 1 (List.map Zb (List.set c.work d.toNat (w64 (x2 + 1))))), (.arr 1 (List.map Zb c.vals)), (.arr 1 []), (.arr 1 [])] = some ((ZgD t0 t1 t2 t3 t4 a b c d x2 x4) r) := by
 refine ZaY (ZgD t0 t1 t2 t3 t4 a b c d x2 x4) ?_
 intro s5 rcl ih
 show ZQ _ _ (lpW _ _ _ _ _ _ _)
 unfold ZeD
 rw [ZaX]
 conv => arg 3; whnf
 refine Ze rfl ?_ ?_
 ·conv => arg 3; whnf
  refine Zj rfl rfl fun x6 hx6 => ?_
  conv => arg 3; whnf
  refine Zj rfl rfl fun x7 hx7 => ?_
  conv => arg 3; whnf
  refine Zg (Zv rfl hx7) ?_
  conv => arg 3; whnf
  refine Zcy rfl ?_
  conv => arg 3; whnf
  refine Ze (Zkc Zb s5.2 1) ?_ ?_
  ·conv => arg 3; whnf
   refine Zo (Zj4 Zb s5.2 [x7]) ?_
   conv => arg 3; whnf
   exact Zd (ih _)
  ·exact ZaA
 ·conv => arg 3; whnf
  exact Zf rfl
theorem Zhn {t0 : Bool} {t1 : Bool} {t2 : Bool} {t3 : Bool} {t4 : Bool} {t5 : Bool} {t6 : Bool} {a : Zm} {b : (List Int)} {c : Zr} {d : Int} : ∀ r, (Zeh a b c d) = some r → evD ctx 48 [(.d (D.agg (dA t0 t1 t2 t3 a))), (.d (D.list t4 (List.map Zb b))), (.d (D.agg [(D.list t5 (List.map Zb c.work)), (D.list t6 (List.map Zb c.vals))])), (.d (Zb d))] = some (Zie r) := by
 show ZQ _ (fun r rhs => rhs = some (Zie r)) _
 unfold Zeh
 rw [Zbl ctx 48 Zv3 _ rfl rfl]
 conv => arg 3; whnf
 refine Zc _ Zel fun x0 hx0 => ?_
 conv => arg 3; whnf
 refine Zc _ Zel fun x1 hx1 => ?_
 conv => arg 3; whnf
 refine Zj rfl rfl fun x2 hx2 => ?_
 conv => arg 3; whnf
 refine Zg (Zv rfl hx2) ?_
 conv => arg 3; whnf
 refine Zg (Za1 rfl hx2) ?_
 conv => arg 3; whnf
 refine Zg (Zv rfl hx2) ?_
 conv => arg 3; whnf
 refine Zo (Zat Zb c.work d.toNat (w64 (x2 + 1))) ?_
 conv => arg 3; whnf
 refine Zl _ ZbI rfl fun x3 hx3 => ?_
 conv => arg 3; whnf
 refine Ze rfl ?_ ?_
 ·conv => arg 3; whnf
  refine Zl _ Zlo rfl fun x4 hx4 => ?_
  conv => arg 3; whnf
  refine Zo (ZG _ _) ?_
  conv => arg 3; whnf
  refine Zc _ (Zja _) fun r8 hr8 => ?_
  conv => arg 3; whnf
  refine Zj rfl rfl fun x9 hx9 => ?_
  conv => arg 3; whnf
  refine Zl _ Zoj rfl fun x10 hx10 => ?_
  conv => arg 3; whnf
  refine Zj rfl rfl fun x11 hx11 => ?_
  conv => arg 3; whnf
  refine Zg (Zv rfl hx11) ?_
  conv => arg 3; whnf
  refine Zo (Zat Zb c.vals d.toNat x10) ?_
  conv => arg 3; whnf
  exact Zf rfl
 ·conv => arg 3; whnf
  exact Zf rfl
def Zjl (r : (Zr × Int)) : D := (D.tup [(D.agg [(D.list true (List.map Zb r.1.work)), (D.list true (List.map Zb r.1.vals))]), (Zb r.2)])
theorem ZmV {t0 : Bool} {t1 : Bool} {t2 : Bool} {t3 : Bool} {t4 : Bool} {t5 : Bool} {t6 : Bool} {a : Zm} {b : (List Int)} {c : Zr} {d : Int} : ∀ r, (ZfX a b c d) = some r → evD ctx 24 [(.d (D.agg (dA t0 t1 t2 t3 a))), (.d (D.list t4 (List.map Zb b))), (.d (D.agg [(D.list t5 (List.map Zb c.work)), (D.list t6 (List.map Zb c.vals))])), (.d (Zb d))] = some (Zjl r) := by
 show ZQ _ (fun r rhs => rhs = some (Zjl r)) _
 unfold ZfX
 rw [Zbl ctx 24 Zvc _ rfl rfl]
 conv => arg 3; whnf
 refine Zl _ Zch rfl fun x0 hx0 => ?_
 conv => arg 3; whnf
 refine Ze rfl ?_ ?_
 ·conv => arg 3; whnf
  refine Ze rfl ?_ ?_
  ·conv => arg 3; whnf
   exact Zf rfl
  ·conv => arg 3; whnf
   refine Zo (ZG _ _) ?_
   conv => arg 3; whnf
   refine Ze rfl ?_ ?_
   ·conv => arg 3; whnf
    exact Zf rfl
   ·conv => arg 3; whnf
    refine Ze rfl ?_ ?_
    ·conv => arg 3; whnf
     exact Zf rfl
    ·conv => arg 3; whnf
     refine Zl _ ZbI rfl fun x1 hx1 => ?_
     conv => arg 3; whnf
     refine Ze rfl ?_ ?_
     ·conv => arg 3; whnf
      exact Zf rfl
     ·conv => arg 3; whnf
      refine Zl _ ZhH rfl fun x2 hx2 => ?_
      conv => arg 3; whnf
      refine Ze rfl ?_ ?_
      ·conv => arg 3; whnf
       refine Zl _ Zhn rfl fun x3 hx3 => ?_
       conv => arg 3; whnf
       exact Zf rfl
      ·conv => arg 3; whnf
       exact Zf rfl
 ·conv => arg 3; whnf
  refine Ze rfl ?_ ?_
  ·conv => arg 3; whnf
   exact Zf rfl
  ·conv => arg 3; whnf
   refine Zl _ ZbI rfl fun x4 hx4 => ?_
   conv => arg 3; whnf
   refine Ze rfl ?_ ?_
   ·conv => arg 3; whnf
    exact Zf rfl
   ·conv => arg 3; whnf
    refine Zl _ ZhH rfl fun x5 hx5 => ?_
    conv => arg 3; whnf
    refine Ze rfl ?_ ?_
    ·conv => arg 3; whnf
     refine Zl _ Zhn rfl fun x6 hx6 => ?_
     conv => arg 3; whnf
     exact Zf rfl
    ·conv => arg 3; whnf
     exact Zf rfl
def Ze2 (r : Bool) : D := (D.bool r)
def Zey (t0 : Bool) (t1 : Bool) (t2 : Bool) (t3 : Bool) (t4 : Bool) (t5 : Bool) (a : Zm) (b : (List Int)) (c : (List Int)) (x7 : Zi) (s8 : Int × (List Int) × (List Int)) (x12 : (Zr × Int)) : (Unit ⊕ Unit) → Ex × List V × Zk
  | (.inl r) => (.exit 2, [(.d (D.list t4 (List.map Zb b))), (.d (D.list t5 (List.map Zb c))), (.ptr 0 0), (.ptr 1 0), (.ptr 2 0), (.d (Zb s8.1)), (.d (D.bool true)), (.d (D.bool false))], [(.cells (dV t0 t1 t2 t3 a)), (.cells [(.d (D.list true (List.map Zb x12.1.work))), (.d (D.list true (List.map Zb x12.1.vals)))]), (.cells [(.d (D.list true (List.map Zb x7.ins))), (.d (D.list true (List.map Zb x7.outs)))])])
  | (.inr r) => (.exit 2, [(.d (D.list t4 (List.map Zb b))), (.d (D.list t5 (List.map Zb c))), (.ptr 0 0), (.ptr 1 0), (.ptr 2 0), (.d (Zb s8.1)), (.d (D.bool false)), (.d (D.bool false))], [(.cells (dV t0 t1 t2 t3 a)), (.cells [(.d (D.list true (List.map Zb x12.1.work))), (.d (D.list true (List.map Zb x12.1.vals)))]), (.cells [(.d (D.list true (List.map Zb x7.ins))), (.d (D.list true (List.map Zb x7.outs)))])])
theorem Zgo {t0 : Bool} {t1 : Bool} {t2 : Bool} {t3 : Bool} {t4 : Bool} {t5 : Bool} {a : Zm} {b : (List Int)} {c : (List Int)} {x7 : Zi} {s8 : Int × (List Int) × (List Int)} {x12 : (Zr × Int)} : ∀ (s13 : Bool × Int) (r : (Unit ⊕ Unit)), lp (ZaB x7 x12) s13 = some r → lpW ctx 0 [1, 2, 4, 9, 11, 12, 15, 16, 17] [1, 2, 4, 9, 11, 12, 15, 16] ZrZ [(.d (D.list t4 (List.map Zb b))), (.d (D.list t5 (List.map Zb c))), (.ptr 0 0), (.ptr 1 0), (.ptr 2 0), (.d (Zb s8.1)), (.d (D.bool s13.1)), (.d (D.bool false)), (.d (Zb s13.2))] [(.cells (dV t0 t1 t2 t3 a)), (.cells [(.d (D.list true (List.map Zb x12.1.work))), (.d (D.list true (List.map Zb x12.1.vals)))]), (.cells [(.d (D.list true (List.map Zb x7.ins))), (.d (D.list true (List.map Zb x7.outs)))])] = some ((Zey t0 t1 t2 t3 t4 t5 a b c x7 s8 x12) r) := by
 refine ZaY (Zey t0 t1 t2 t3 t4 t5 a b c x7 s8 x12) ?_
 intro s13 rcl ih
 show ZQ _ _ (lpW _ _ _ _ _ _ _)
 unfold ZaB
 rw [ZaX]
 rcases hb : s13.1 with _ | _
 ·refine Zh6 ?_
  conv => arg 3; whnf
  refine Zo (ZG _ _) ?_
  conv => arg 3; whnf
  refine Ze rfl ?_ ?_
  ·conv => arg 3; whnf
   refine Zj rfl rfl fun x14 hx14 => ?_
   conv => arg 3; whnf
   refine Zj rfl rfl fun x15 hx15 => ?_
   conv => arg 3; whnf
   refine Ze rfl ?_ ?_
   ·conv => arg 3; whnf
    exact Zd (ih _)
   ·conv => arg 3; whnf
    exact Zd (ih _)
  ·conv => arg 3; whnf
   exact Zf rfl
 ·refine ZhU ?_
  conv => arg 3; whnf
  refine Zo (ZG _ _) ?_
  conv => arg 3; whnf
  refine Ze rfl ?_ ?_
  ·conv => arg 3; whnf
   exact Zd (ih _)
  ·conv => arg 3; whnf
   exact Zf rfl
def Zer (t0 : Bool) (t1 : Bool) (t2 : Bool) (t3 : Bool) (t4 : Bool) (t5 : Bool) (a : Zm) (b : (List Int)) (c : (List Int)) (x7 : Zi) (s8 : Int × (List Int) × (List Int)) (x12 : (Zr × Int)) : (Unit ⊕ Unit) → Ex × List V × Zk
  | (.inl r) => (.exit 4, [(.d (D.list t4 (List.map Zb b))), (.d (D.list t5 (List.map Zb c))), (.ptr 0 0), (.ptr 1 0), (.ptr 2 0), (.d (Zb s8.1)), (.d (D.bool true)), (.d (D.bool true))], [(.cells (dV t0 t1 t2 t3 a)), (.cells [(.d (D.list true (List.map Zb x12.1.work))), (.d (D.list true (List.map Zb x12.1.vals)))]), (.cells [(.d (D.list true (List.map Zb x7.ins))), (.d (D.list true (List.map Zb x7.outs)))])])
  | (.inr r) => (.exit 4, [(.d (D.list t4 (List.map Zb b))), (.d (D.list t5 (List.map Zb c))), (.ptr 0 0), (.ptr 1 0), (.ptr 2 0), (.d (Zb s8.1)), (.d (D.bool true)), (.d (D.bool false))], [(.cells (dV t0 t1 t2 t3 a)), (.cells [(.d (D.list true (List.map Zb x12.1.work))), (.d (D.list true (List.map Zb x12.1.vals)))]), (.cells [(.d (D.list true (List.map Zb x7.ins))), (.d (D.list true (List.map Zb x7.outs)))])])
theorem Zgq {t0 : Bool} {t1 : Bool} {t2 : Bool} {t3 : Bool} {t4 : Bool} {t5 : Bool} {a : Zm} {b : (List Int)} {c : (List Int)} {x7 : Zi} {s8 : Int × (List Int) × (List Int)} {x12 : (Zr × Int)} : ∀ (s17 : Bool × Int) (r : (Unit ⊕ Unit)), lp (ZcB a x7 x12) s17 = some r → lpW ctx 0 [1, 2, 4, 9, 11, 12, 15, 16, 18] [1, 2, 4, 9, 11, 12, 15, 16] Zo7 [(.d (D.list t4 (List.map Zb b))), (.d (D.list t5 (List.map Zb c))), (.ptr 0 0), (.ptr 1 0), (.ptr 2 0), (.d (Zb s8.1)), (.d (D.bool true)), (.d (D.bool s17.1)), (.d (Zb s17.2))] [(.cells (dV t0 t1 t2 t3 a)), (.cells [(.d (D.list true (List.map Zb x12.1.work))), (.d (D.list true (List.map Zb x12.1.vals)))]), (.cells [(.d (D.list true (List.map Zb x7.ins))), (.d (D.list true (List.map Zb x7.outs)))])] = some ((Zer t0 t1 t2 t3 t4 t5 a b c x7 s8 x12) r) := by
 refine ZaY (Zer t0 t1 t2 t3 t4 t5 a b c x7 s8 x12) ?_
 intro s17 rcl ih
 show ZQ _ _ (lpW _ _ _ _ _ _ _)
 unfold ZcB
 rw [ZaX]
 rcases hb : s17.1 with _ | _
 ·refine Zh6 ?_
  conv => arg 3; whnf
  refine Zo (ZG _ _) ?_
  conv => arg 3; whnf
  refine Ze rfl ?_ ?_
  ·conv => arg 3; whnf
   refine Zj rfl rfl fun x18 hx18 => ?_
   conv => arg 3; whnf
   refine Zj rfl rfl fun x19 hx19 => ?_
   conv => arg 3; whnf
   refine Zg (Za1 rfl hx18) ?_
   conv => arg 3; whnf
   refine Zj rfl rfl fun x20 hx20 => ?_
   conv => arg 3; whnf
   refine Ze rfl ?_ ?_
   ·conv => arg 3; whnf
    exact Zd (ih _)
   ·conv => arg 3; whnf
    exact Zd (ih _)
  ·conv => arg 3; whnf
   exact Zf rfl
 ·refine ZhU ?_
  conv => arg 3; whnf
  refine Zo (ZG _ _) ?_
  conv => arg 3; whnf
  refine Ze rfl ?_ ?_
  ·conv => arg 3; whnf
   exact Zd (ih _)
  ·conv => arg 3; whnf
   exact Zf rfl
def Zeb (t0 : Bool) (t1 : Bool) (t2 : Bool) (t3 : Bool) (t4 : Bool) (t5 : Bool) (a : Zm) (b : (List Int)) (c : (List Int)) (x7 : Zi) (s8 : Int × (List Int) × (List Int)) (x12 : (Zr × Int)) : (Unit ⊕ Unit) → Ex × List V × Zk
  | (.inl r) => (.exit 4, [(.d (D.list t4 (List.map Zb b))), (.d (D.list t5 (List.map Zb c))), (.ptr 0 0), (.ptr 1 0), (.ptr 2 0), (.d (Zb s8.1)), (.d (D.bool false)), (.d (D.bool true))], [(.cells (dV t0 t1 t2 t3 a)), (.cells [(.d (D.list true (List.map Zb x12.1.work))), (.d (D.list true (List.map Zb x12.1.vals)))]), (.cells [(.d (D.list true (List.map Zb x7.ins))), (.d (D.list true (List.map Zb x7.outs)))])])
  | (.inr r) => (.exit 4, [(.d (D.list t4 (List.map Zb b))), (.d (D.list t5 (List.map Zb c))), (.ptr 0 0), (.ptr 1 0), (.ptr 2 0), (.d (Zb s8.1)), (.d (D.bool false)), (.d (D.bool false))], [(.cells (dV t0 t1 t2 t3 a)), (.cells [(.d (D.list true (List.map Zb x12.1.work))), (.d (D.list true (List.map Zb x12.1.vals)))]), (.cells [(.d (D.list true (List.map Zb x7.ins))), (.d (D.list true (List.map Zb x7.outs)))])])
theorem ZfR {t0 : Bool} {t1 : Bool} {t2 : Bool} {t3 : Bool} {t4 : Bool} {t5 : Bool} {a : Zm} {b : (List Int)} {c : (List Int)} {x7 : Zi} {s8 : Int × (List Int) × (List Int)} {x12 : (Zr × Int)} : ∀ (s25 : Bool × Int) (r : (Unit ⊕ Unit)), lp (Zcc a x7 x12) s25 = some r → lpW ctx 0 [1, 2, 4, 9, 11, 12, 15, 16, 18] [1, 2, 4, 9, 11, 12, 15, 16] Zo7 [(.d (D.list t4 (List.map Zb b))), (.d (D.list t5 (List.map Zb c))), (.ptr 0 0), (.ptr 1 0), (.ptr 2 0), (.d (Zb s8.1)), (.d (D.bool false)), (.d (D.bool s25.1)), (.d (Zb s25.2))] [(.cells (dV t0 t1 t2 t3 a)), (.cells [(.d (D.list true (List.map Zb x12.1.work))), (.d (D.list true (List.map Zb x12.1.vals)))]), (.cells [(.d (D.list true (List.map Zb x7.ins))), (.d (D.list true (List.map Zb x7.outs)))])] = some ((Zeb t0 t1 t2 t3 t4 t5 a b c x7 s8 x12) r) := by
 refine ZaY (Zeb t0 t1 t2 t3 t4 t5 a b c x7 s8 x12) ?_
 intro s25 rcl ih
 show ZQ _ _ (lpW _ _ _ _ _ _ _)
 unfold Zcc
 rw [ZaX]
 rcases hb : s25.1 with _ | _
 ·refine Zh6 ?_
  conv => arg 3; whnf
  refine Zo (ZG _ _) ?_
  conv => arg 3; whnf
  refine Ze rfl ?_ ?_
  ·conv => arg 3; whnf
   refine Zj rfl rfl fun x26 hx26 => ?_
   conv => arg 3; whnf
   refine Zj rfl rfl fun x27 hx27 => ?_
   conv => arg 3; whnf
   refine Zg (Za1 rfl hx26) ?_
   conv => arg 3; whnf
   refine Zj rfl rfl fun x28 hx28 => ?_
   conv => arg 3; whnf
   refine Ze rfl ?_ ?_
   ·conv => arg 3; whnf
    exact Zd (ih _)
   ·conv => arg 3; whnf
    exact Zd (ih _)
  ·conv => arg 3; whnf
   exact Zf rfl
 ·refine ZhU ?_
  conv => arg 3; whnf
  refine Zo (ZG _ _) ?_
  conv => arg 3; whnf
  refine Ze rfl ?_ ?_
  ·conv => arg 3; whnf
   exact Zd (ih _)
  ·conv => arg 3; whnf
   exact Zf rfl
def Zec (t0 : Bool) (t1 : Bool) (t2 : Bool) (t3 : Bool) (t4 : Bool) (t5 : Bool) (a : Zm) (b : (List Int)) (c : (List Int)) (x7 : Zi) (s8 : Int × (List Int) × (List Int)) : (Unit ⊕ Unit) → Ex × List V × Zk
  | (.inl r) => (.exit 2, [(.d (D.list t4 (List.map Zb b))), (.d (D.list t5 (List.map Zb c))), (.ptr 0 0), (.ptr 1 0), (.ptr 2 0), (.d (Zb s8.1)), (.d (D.bool true)), (.d (D.bool false))], [(.cells (dV t0 t1 t2 t3 a)), (.cells [(.d (D.list true (List.map Zb s8.2.1))), (.d (D.list true (List.map Zb s8.2.2)))]), (.cells [(.d (D.list true (List.map Zb x7.ins))), (.d (D.list true (List.map Zb x7.outs)))])])
  | (.inr r) => (.exit 2, [(.d (D.list t4 (List.map Zb b))), (.d (D.list t5 (List.map Zb c))), (.ptr 0 0), (.ptr 1 0), (.ptr 2 0), (.d (Zb s8.1)), (.d (D.bool false)), (.d (D.bool false))], [(.cells (dV t0 t1 t2 t3 a)), (.cells [(.d (D.list true (List.map Zb s8.2.1))), (.d (D.list true (List.map Zb s8.2.2)))]), (.cells [(.d (D.list true (List.map Zb x7.ins))), (.d (D.list true (List.map Zb x7.outs)))])])
theorem ZfM {t0 : Bool} {t1 : Bool} {t2 : Bool} {t3 : Bool} {t4 : Bool} {t5 : Bool} {a : Zm} {b : (List Int)} {c : (List Int)} {x7 : Zi} {s8 : Int × (List Int) × (List Int)} : ∀ (s36 : Bool × Int) (r : (Unit ⊕ Unit)), lp (Zak x7 s8) s36 = some r → lpW ctx 0 [1, 2, 4, 9, 11, 12, 15, 16, 17] [1, 2, 4, 9, 11, 12, 15, 16] ZrZ [(.d (D.list t4 (List.map Zb b))), (.d (D.list t5 (List.map Zb c))), (.ptr 0 0), (.ptr 1 0), (.ptr 2 0), (.d (Zb s8.1)), (.d (D.bool s36.1)), (.d (D.bool false)), (.d (Zb s36.2))] [(.cells (dV t0 t1 t2 t3 a)), (.cells [(.d (D.list true (List.map Zb s8.2.1))), (.d (D.list true (List.map Zb s8.2.2)))]), (.cells [(.d (D.list true (List.map Zb x7.ins))), (.d (D.list true (List.map Zb x7.outs)))])] = some ((Zec t0 t1 t2 t3 t4 t5 a b c x7 s8) r) := by
 refine ZaY (Zec t0 t1 t2 t3 t4 t5 a b c x7 s8) ?_
 intro s36 rcl ih
 show ZQ _ _ (lpW _ _ _ _ _ _ _)
 unfold Zak
 rw [ZaX]
 rcases hb : s36.1 with _ | _
 ·refine Zh6 ?_
  conv => arg 3; whnf
  refine Zo (ZG _ _) ?_
  conv => arg 3; whnf
  refine Ze rfl ?_ ?_
  ·conv => arg 3; whnf
   refine Zj rfl rfl fun x37 hx37 => ?_
   conv => arg 3; whnf
   refine Zj rfl rfl fun x38 hx38 => ?_
   conv => arg 3; whnf
   refine Ze rfl ?_ ?_
   ·conv => arg 3; whnf
    exact Zd (ih _)
   ·conv => arg 3; whnf
    exact Zd (ih _)
  ·conv => arg 3; whnf
   exact Zf rfl
 ·refine ZhU ?_
  conv => arg 3; whnf
  refine Zo (ZG _ _) ?_
  conv => arg 3; whnf
  refine Ze rfl ?_ ?_
  ·conv => arg 3; whnf
   exact Zd (ih _)
  ·conv => arg 3; whnf
   exact Zf rfl
def Zd8 (t0 : Bool) (t1 : Bool) (t2 : Bool) (t3 : Bool) (t4 : Bool) (t5 : Bool) (a : Zm) (b : (List Int)) (c : (List Int)) (x7 : Zi) (s8 : Int × (List Int) × (List Int)) : (Unit ⊕ Unit) → Ex × List V × Zk
  | (.inl r) => (.exit 4, [(.d (D.list t4 (List.map Zb b))), (.d (D.list t5 (List.map Zb c))), (.ptr 0 0), (.ptr 1 0), (.ptr 2 0), (.d (Zb s8.1)), (.d (D.bool true)), (.d (D.bool true))], [(.cells (dV t0 t1 t2 t3 a)), (.cells [(.d (D.list true (List.map Zb s8.2.1))), (.d (D.list true (List.map Zb s8.2.2)))]), (.cells [(.d (D.list true (List.map Zb x7.ins))), (.d (D.list true (List.map Zb x7.outs)))])])
  | (.inr r) => (.exit 4, [(.d (D.list t4 (List.map Zb b))), (.d (D.list t5 (List.map Zb c))), (.ptr 0 0), (.ptr 1 0), (.ptr 2 0), (.d (Zb s8.1)), (.d (D.bool true)), (.d (D.bool false))], [(.cells (dV t0 t1 t2 t3 a)), (.cells [(.d (D.list true (List.map Zb s8.2.1))), (.d (D.list true (List.map Zb s8.2.2)))]), (.cells [(.d (D.list true (List.map Zb x7.ins))), (.d (D.list true (List.map Zb x7.outs)))])])
theorem ZfE {t0 : Bool} {t1 : Bool} {t2 : Bool} {t3 : Bool} {t4 : Bool} {t5 : Bool} {a : Zm} {b : (List Int)} {c : (List Int)} {x7 : Zi} {s8 : Int × (List Int) × (List Int)} : ∀ (s40 : Bool × Int) (r : (Unit ⊕ Unit)), lp (Zck a x7 s8) s40 = some r → lpW ctx 0 [1, 2, 4, 9, 11, 12, 15, 16, 18] [1, 2, 4, 9, 11, 12, 15, 16] Zo7 [(.d (D.list t4 (List.map Zb b))), (.d (D.list t5 (List.map Zb c))), (.ptr 0 0), (.ptr 1 0), (.ptr 2 0), (.d (Zb s8.1)), (.d (D.bool true)), (.d (D.bool s40.1)), (.d (Zb s40.2))] [(.cells (dV t0 t1 t2 t3 a)), (.cells [(.d (D.list true (List.map Zb s8.2.1))), (.d (D.list true (List.map Zb s8.2.2)))]), (.cells [(.d (D.list true (List.map Zb x7.ins))), (.d (D.list true (List.map Zb x7.outs)))])] = some ((Zd8 t0 t1 t2 t3 t4 t5 a b c x7 s8) r) := by
 refine ZaY (Zd8 t0 t1 t2 t3 t4 t5 a b c x7 s8) ?_
 intro s40 rcl ih
 show ZQ _ _ (lpW _ _ _ _ _ _ _)
 unfold Zck
 rw [ZaX]
 rcases hb : s40.1 with _ | _
 ·refine Zh6 ?_
  conv => arg 3; whnf
  refine Zo (ZG _ _) ?_
  conv => arg 3; whnf
  refine Ze rfl ?_ ?_
  ·conv => arg 3; whnf
   refine Zj rfl rfl fun x41 hx41 => ?_
   conv => arg 3; whnf
   refine Zj rfl rfl fun x42 hx42 => ?_
   conv => arg 3; whnf
   refine Zg (Za1 rfl hx41) ?_
   conv => arg 3; whnf
   refine Zj rfl rfl fun x43 hx43 => ?_
   conv => arg 3; whnf
   refine Ze rfl ?_ ?_
   ·conv => arg 3; whnf
    exact Zd (ih _)
   ·conv => arg 3; whnf
    exact Zd (ih _)
  ·conv => arg 3; whnf
   exact Zf rfl
 ·refine ZhU ?_
  conv => arg 3; whnf
  refine Zo (ZG _ _) ?_
  conv => arg 3; whnf
  refine Ze rfl ?_ ?_
  ·conv => arg 3; whnf
   exact Zd (ih _)
  ·conv => arg 3; whnf
   exact Zf rfl
def Zed (t0 : Bool) (t1 : Bool) (t2 : Bool) (t3 : Bool) (t4 : Bool) (t5 : Bool) (a : Zm) (b : (List Int)) (c : (List Int)) (x7 : Zi) (s8 : Int × (List Int) × (List Int)) : (Unit ⊕ Unit) → Ex × List V × Zk
  | (.inl r) => (.exit 4, [(.d (D.list t4 (List.map Zb b))), (.d (D.list t5 (List.map Zb c))), (.ptr 0 0), (.ptr 1 0), (.ptr 2 0), (.d (Zb s8.1)), (.d (D.bool false)), (.d (D.bool true))], [(.cells (dV t0 t1 t2 t3 a)), (.cells [(.d (D.list true (List.map Zb s8.2.1))), (.d (D.list true (List.map Zb s8.2.2)))]), (.cells [(.d (D.list true (List.map Zb x7.ins))), (.d (D.list true (List.map Zb x7.outs)))])])
  | (.inr r) => (.exit 4, [(.d (D.list t4 (List.map Zb b))), (.d (D.list t5 (List.map Zb c))), (.ptr 0 0), (.ptr 1 0), (.ptr 2 0), (.d (Zb s8.1)), (.d (D.bool false)), (.d (D.bool false))], [(.cells (dV t0 t1 t2 t3 a)), (.cells [(.d (D.list true (List.map Zb s8.2.1))), (.d (D.list true (List.map Zb s8.2.2)))]), (.cells [(.d (D.list true (List.map Zb x7.ins))), (.d (D.list true (List.map Zb x7.outs)))])])
theorem ZfQ {t0 : Bool} {t1 : Bool} {t2 : Bool} {t3 : Bool} {t4 : Bool} {t5 : Bool} {a : Zm} {b : (List Int)} {c : (List Int)} {x7 : Zi} {s8 : Int × (List Int) × (List Int)} : ∀ (s48 : Bool × Int) (r : (Unit ⊕ Unit)), lp (Zcj a x7 s8) s48 = some r → lpW ctx 0 [1, 2, 4, 9, 11, 12, 15, 16, 18] [1, 2, 4, 9, 11, 12, 15, 16] Zo7 [(.d (D.list t4 (List.map Zb b))), (.d (D.list t5 (List.map Zb c))), (.ptr 0 0), (.ptr 1 0), (.ptr 2 0), (.d (Zb s8.1)), (.d (D.bool false)), (.d (D.bool s48.1)), (.d (Zb s48.2))] [(.cells (dV t0 t1 t2 t3 a)), (.cells [(.d (D.list true (List.map Zb s8.2.1))), (.d (D.list true (List.map Zb s8.2.2)))]), (.cells [(.d (D.list true (List.map Zb x7.ins))), (.d (D.list true (List.map Zb x7.outs)))])] = some ((Zed t0 t1 t2 t3 t4 t5 a b c x7 s8) r) := by
 refine ZaY (Zed t0 t1 t2 t3 t4 t5 a b c x7 s8) ?_
 intro s48 rcl ih
 show ZQ _ _ (lpW _ _ _ _ _ _ _)
 unfold Zcj
 rw [ZaX]
 rcases hb : s48.1 with _ | _
 ·refine Zh6 ?_
  conv => arg 3; whnf
  refine Zo (ZG _ _) ?_
  conv => arg 3; whnf
  refine Ze rfl ?_ ?_
  ·conv => arg 3; whnf
   refine Zj rfl rfl fun x49 hx49 => ?_
   conv => arg 3; whnf
   refine Zj rfl rfl fun x50 hx50 => ?_
   conv => arg 3; whnf
   refine Zg (Za1 rfl hx49) ?_
   conv => arg 3; whnf
   refine Zj rfl rfl fun x51 hx51 => ?_
   conv => arg 3; whnf
   refine Ze rfl ?_ ?_
   ·conv => arg 3; whnf
    exact Zd (ih _)
   ·conv => arg 3; whnf
    exact Zd (ih _)
  ·conv => arg 3; whnf
   exact Zf rfl
 ·refine ZhU ?_
  conv => arg 3; whnf
  refine Zo (ZG _ _) ?_
  conv => arg 3; whnf
  refine Ze rfl ?_ ?_
  ·conv => arg 3; whnf
   exact Zd (ih _)
  ·conv => arg 3; whnf
   exact Zf rfl
def Zep (t0 : Bool) (t1 : Bool) (t2 : Bool) (t3 : Bool) (t4 : Bool) (t5 : Bool) (a : Zm) (b : (List Int)) (c : (List Int)) (x7 : Zi) : (Unit ⊕ Unit) → Ex × List V × Zk
  | (.inl r) => (.ret, [(.d (D.bool false))], [])
  | (.inr r) => (.exit 0, [.bad], [])
theorem Zgl {t0 : Bool} {t1 : Bool} {t2 : Bool} {t3 : Bool} {t4 : Bool} {t5 : Bool} {a : Zm} {b : (List Int)} {c : (List Int)} {x7 : Zi} : ∀ (s8 : Int × (List Int) × (List Int)) (r : (Unit ⊕ Unit)), lp (ZaP a b c x7) s8 = some r → lpW ctx 0 [1, 2, 4, 9, 11, 12] [8] Zu1 [(.d (D.list t4 (List.map Zb b))), (.d (D.list t5 (List.map Zb c))), (.ptr 0 0), (.ptr 1 0), (.ptr 2 0), (.d (Zb s8.1))] [(.cells (dV t0 t1 t2 t3 a)), (.cells [(.d (D.list true (List.map Zb s8.2.1))), (.d (D.list true (List.map Zb s8.2.2)))]), (.cells [(.d (D.list true (List.map Zb x7.ins))), (.d (D.list true (List.map Zb x7.outs)))])] = some ((Zep t0 t1 t2 t3 t4 t5 a b c x7) r) := by
 refine ZaY (Zep t0 t1 t2 t3 t4 t5 a b c x7) ?_
 intro s8 rcl ih
 show ZQ _ _ (lpW _ _ _ _ _ _ _)
 unfold ZaP
 rw [ZaX]
 conv => arg 3; whnf
 refine Zo (ZG _ _) ?_
 conv => arg 3; whnf
 refine Ze rfl ?_ ?_
 ·conv => arg 3; whnf
  refine Zc _ ZcI fun x9 hx9 => ?_
  conv => arg 3; whnf
  refine Zcy (Zff (f := Zb) (fun _ => ⟨rfl, rfl⟩) b 0) ?_
  conv => arg 3; whnf
  refine Ze (Ze9 Zb b) ?_ ?_
  ·conv => arg 3; whnf
   refine Zo (rfl : _ = List.map Zb b) ?_
   conv => arg 3; whnf
   refine Zc _ Zdp fun x10 hx10 => ?_
   conv => arg 3; whnf
   refine Zj rfl rfl fun x11 hx11 => ?_
   conv => arg 3; whnf
   refine Zl _ ZmV rfl fun x12 hx12 => ?_
   conv => arg 3; whnf
   refine Ze rfl ?_ ?_
   ·conv => arg 3; whnf
    refine Zc _ (Zgo _) fun r16 hr16 => ?_
    clear hr16
    rcases r16 with r16 | r16
    ·conv => arg 3; whnf
     refine Zc _ (Zgq _) fun r21 hr21 => ?_
     clear hr21
     rcases r21 with r21 | r21
     ·conv => arg 3; whnf
      exact Zf rfl
     ·conv => arg 3; whnf
      refine Zc _ ZcI fun x22 hx22 => ?_
      conv => arg 3; whnf
      refine Zc _ Zdp fun x23 hx23 => ?_
      conv => arg 3; whnf
      refine Zl _ Zch rfl fun x24 hx24 => ?_
      conv => arg 3; whnf
      refine Ze rfl ?_ ?_
      ·conv => arg 3; whnf
       exact Zf rfl
      ·conv => arg 3; whnf
       exact Zd (ih _)
    ·conv => arg 3; whnf
     refine Zc _ (ZfR _) fun r29 hr29 => ?_
     clear hr29
     rcases r29 with r29 | r29
     ·conv => arg 3; whnf
      refine Zc _ ZcI fun x30 hx30 => ?_
      conv => arg 3; whnf
      refine Zc _ Zdp fun x31 hx31 => ?_
      conv => arg 3; whnf
      refine Zl _ Zch rfl fun x32 hx32 => ?_
      conv => arg 3; whnf
      refine Ze rfl ?_ ?_
      ·conv => arg 3; whnf
       exact Zf rfl
      ·conv => arg 3; whnf
       exact Zd (ih _)
     ·conv => arg 3; whnf
      refine Zc _ ZcI fun x33 hx33 => ?_
      conv => arg 3; whnf
      refine Zc _ Zdp fun x34 hx34 => ?_
      conv => arg 3; whnf
      refine Zl _ Zch rfl fun x35 hx35 => ?_
      conv => arg 3; whnf
      refine Ze rfl ?_ ?_
      ·conv => arg 3; whnf
       exact Zf rfl
      ·conv => arg 3; whnf
       exact Zd (ih _)
   ·conv => arg 3; whnf
    refine Zc _ (ZfM _) fun r39 hr39 => ?_
    clear hr39
    rcases r39 with r39 | r39
    ·conv => arg 3; whnf
     refine Zc _ (ZfE _) fun r44 hr44 => ?_
     clear hr44
     rcases r44 with r44 | r44
     ·conv => arg 3; whnf
      exact Zf rfl
     ·conv => arg 3; whnf
      refine Zc _ ZcI fun x45 hx45 => ?_
      conv => arg 3; whnf
      refine Zc _ Zdp fun x46 hx46 => ?_
      conv => arg 3; whnf
      refine Zl _ Zch rfl fun x47 hx47 => ?_
      conv => arg 3; whnf
      refine Ze rfl ?_ ?_
      ·conv => arg 3; whnf
       exact Zf rfl
      ·conv => arg 3; whnf
       exact Zd (ih _)
    ·conv => arg 3; whnf
     refine Zc _ (ZfQ _) fun r52 hr52 => ?_
     clear hr52
     rcases r52 with r52 | r52
     ·conv => arg 3; whnf
      refine Zc _ ZcI fun x53 hx53 => ?_
      conv => arg 3; whnf
      refine Zc _ Zdp fun x54 hx54 => ?_
      conv => arg 3; whnf
      refine Zl _ Zch rfl fun x55 hx55 => ?_
      conv => arg 3; whnf
      refine Ze rfl ?_ ?_
      ·conv => arg 3; whnf
       exact Zf rfl
      ·conv => arg 3; whnf
       exact Zd (ih _)
     ·conv => arg 3; whnf
      refine Zc _ ZcI fun x56 hx56 => ?_
      conv => arg 3; whnf
      refine Zc _ Zdp fun x57 hx57 => ?_
      conv => arg 3; whnf
      refine Zl _ Zch rfl fun x58 hx58 => ?_
      conv => arg 3; whnf
      refine Ze rfl ?_ ?_
      ·conv => arg 3; whnf
       exact Zf rfl
      ·conv => arg 3; whnf
       exact Zd (ih _)
  ·exact ZaA
 ·conv => arg 3; whnf
  exact Zf rfl
theorem Zhb {t0 : Bool} {t1 : Bool} {t2 : Bool} {t3 : Bool} {t4 : Bool} {t5 : Bool} {a : Zm} {b : (List Int)} {c : (List Int)} {d : Int} : ∀ r, (Zdw a b c d) = some r → evD ctx 9 [(.d (D.agg (dA t0 t1 t2 t3 a))), (.d (D.list t4 (List.map Zb b))), (.d (D.list t5 (List.map Zb c))), (.d (Zb d))] = some (Ze2 r) := by
 show ZQ _ (fun r rhs => rhs = some (Ze2 r)) _
 unfold Zdw
 rw [Zbl ctx 9 fn9 _ rfl rfl]
 conv => arg 3; whnf
 refine Zl _ Zdg rfl fun x0 hx0 => ?_
 conv => arg 3; whnf
 refine Ze rfl ?_ ?_
 ·conv => arg 3; whnf
  refine Zl _ ZmG rfl fun x1 hx1 => ?_
  conv => arg 3; whnf
  refine Ze rfl ?_ ?_
  ·conv => arg 3; whnf
   refine Zo (ZG _ _) ?_
   conv => arg 3; whnf
   refine Ze rfl ?_ ?_
   ·conv => arg 3; whnf
    refine Zl _ Zdg rfl fun x2 hx2 => ?_
    conv => arg 3; whnf
    refine Ze rfl ?_ ?_
    ·conv => arg 3; whnf
     exact Zf rfl
    ·conv => arg 3; whnf
     exact Zf rfl
   ·conv => arg 3; whnf
    refine Ze rfl ?_ ?_
    ·conv => arg 3; whnf
     refine Zl _ Zdg rfl fun x3 hx3 => ?_
     conv => arg 3; whnf
     refine Ze rfl ?_ ?_
     ·conv => arg 3; whnf
      exact Zf rfl
     ·conv => arg 3; whnf
      exact Zf rfl
    ·conv => arg 3; whnf
     refine Zo (ZG _ _) ?_
     conv => arg 3; whnf
     refine Ze rfl ?_ ?_
     ·conv => arg 3; whnf
      refine Zl _ Zdg rfl fun x4 hx4 => ?_
      conv => arg 3; whnf
      refine Ze rfl ?_ ?_
      ·conv => arg 3; whnf
       exact Zf rfl
      ·conv => arg 3; whnf
       exact Zf rfl
     ·conv => arg 3; whnf
      refine Zc _ ZcI fun x5 hx5 => ?_
      conv => arg 3; whnf
      refine Zl _ Zlh rfl fun x6 hx6 => ?_
      conv => arg 3; whnf
      refine Ze rfl ?_ ?_
      ·conv => arg 3; whnf
       exact Zf rfl
      ·conv => arg 3; whnf
       refine Zj rfl rfl fun x7 hx7 => ?_
       conv => arg 3; whnf
       refine Zc _ (Zgl _) fun r59 hr59 => ?_
       clear hr59
       rcases r59 with r59 | r59
       ·conv => arg 3; whnf
        exact Zf rfl
       ·conv => arg 3; whnf
        exact Zf rfl
  ·conv => arg 3; whnf
   refine Zl _ Zdg rfl fun x60 hx60 => ?_
   conv => arg 3; whnf
   refine Ze rfl ?_ ?_
   ·conv => arg 3; whnf
    exact Zf rfl
   ·conv => arg 3; whnf
    exact Zf rfl
 ·conv => arg 3; whnf
  refine Zl _ Zdg rfl fun x61 hx61 => ?_
  conv => arg 3; whnf
  refine Ze rfl ?_ ?_
  ·conv => arg 3; whnf
   exact Zf rfl
  ·conv => arg 3; whnf
   exact Zf rfl
end Go.Proofs.YtnmbdjkbaihicaaDoor
namespace Go.Proofs.YtnmbdjkbaihicaaDoor
open Go Go.Proofs.YtnmbdjkbaihicaaDoorE
abbrev ZsK : List Lf × Bool := ([.int .i64], false)
abbrev ZoS : List Lf × Bool := ([.int .i64, .int .i64, .sl true [.int .i64, .int .i64, .int .i64], .sl true [.int .i64, .int .i64], .sl true [.int .i64, .int .i64, .int .i64], .sl true [.sl false [.int .i64], .sl false [.int .i64]]], true)
abbrev Zjd : List Lf × Bool := ([.sl false [.int .i64]], false)
end Go.Proofs.YtnmbdjkbaihicaaDoor
namespace Go.Proofs.YtnmbdjkbaihicaaDoor
open Go Go.Proofs.YtnmbdjkbaihicaaDoorE
set_option linter.unusedVariables false
set_option linter.unusedSimpArgs false
theorem ZmX {d : Zm} (sd : Znr d) (hc : Zcm d = 0) (input picks : List Int) (hi : input.length ≤ 60) {b : Zi} (hb : b ∈ d.barriers) {s : Zr} (r : Zft d s) {i : Nat} {p : Int} (hx : picks[i]? = some p) (hl : i < picks.length) (hpl : picks.length ≤ 200) :
  ∃ t, Zft d t ∧ ZaP d input picks b ((i : Int), s.work, s.vals) = some (.inl (((i + 1 : Nat) : Int), t.work, t.vals)) := by
 have g := Zf2 hc
 have sh := sd.short
 have hsb := sh.i b hb
 have e1 := Z2 hl (show picks.length < 9223372036854775808 by omega)
 have len : ∀ {t : Zr}, Zft d t → t.work.length ≤ 1000 ∧ t.vals.length ≤ 1000 := fun {t} rt => by rw [rt.o.w, rt.o.v]; have := g.pl; omega
 have eqv : Zr.mk s.work s.vals = s := rfl
 have both : ∀ {t : Zr}, Zft d t → (b.outs.any fun q => decide (0 < wk t q)) = true → (b.ins.any fun q => decide (wk t q < Zc7 d.parts q)) = false := fun {t} rt h => by
  obtain ⟨q, h1, h2⟩ := List.any_eq_true.1 h
  have hB := rt.beg q (g.outs b hb q h1) (of_decide_eq_true h2)
  refine List.any_eq_false.2 fun z hz => ?_
  have := hB.2 b hb h1 z hz
  unfold Zij at this
  simp; omega
 have o0 : ∀ {t : Zr} (rt : Zft d t) (e : Int), lp (ZaB b (t, e)) (false, 0) = some (bif b.outs.any (fun q => decide (0 < wk t q)) then .inl () else .inr ()) := fun {t} rt e => by
  refine Zp4 b.outs hsb.2 _ (fun q => decide (0 < wk t q)) (fun i hi => ?_) (fun i x hi hx => ?_) ?_ ?_
  ·simp only [ZaB, ZeK hi, cond_true, Z2 hi hsb.2]
  ·simp only [ZaB, ZeK hi, cond_true, cond_false, ZaZ hx, Option.bind_some, Z2 hi hsb.2, Zix rt.o (g.outs b hb x (List.mem_of_getElem? hx))]
   cases decide (0 < wk t x) <;> rfl
  ·simp only [ZaB, ZeL]; rfl
  ·simp only [ZaB, ZeL]; rfl
 have o2 : lp (Zak b ((i : Int), s.work, s.vals)) (false, 0) = some (bif b.outs.any (fun q => decide (0 < wk s q)) then .inl () else .inr ()) := by
  refine Zp4 b.outs hsb.2 _ (fun q => decide (0 < wk s q)) (fun i hi => ?_) (fun i x hi hx => ?_) ?_ ?_
  ·simp only [Zak, ZeK hi, cond_true, Z2 hi hsb.2]
  ·simp only [Zak, ZeK hi, cond_true, cond_false, ZaZ hx, Option.bind_some, Z2 hi hsb.2, Zix r.o (g.outs b hb x (List.mem_of_getElem? hx))]
   cases decide (0 < wk s x) <;> rfl
  ·simp only [Zak, ZeL]; rfl
  ·simp only [Zak, ZeL]; rfl
 have left : ∀ {t : Zr} (rt : Zft d t) (step : Bool × Int → Option ((Bool × Int) ⊕ (Unit ⊕ Unit))) (hstep : ∀ z, step z = (bif z.1 then (bif (decide (z.2 < (b.ins.length : Int))) then some (.inl (true, (w64 (z.2 + 1)))) else some (.inr (.inl ())))
   else bif (decide (z.2 < (b.ins.length : Int))) then (ZA b.ins z.2).bind fun x18 => (ZA t.work x18).bind fun x19 => (ZA d.parts x18).bind fun x20 => bif (decide (x19 < x20.work)) then some (.inl (true, (w64 (z.2 + 1)))) else some (.inl (false, (w64 (z.2 + 1)))) else some (.inr (.inr ())))),
   lp step (false, 0) = some (bif b.ins.any (fun q => decide (wk t q < Zc7 d.parts q)) then .inl () else .inr ()) := fun {t} rt step hstep => by
  refine Zp4 b.ins hsb.1 _ (fun q => decide (wk t q < Zc7 d.parts q)) (fun i hi => ?_) (fun i x hi hx => ?_) ?_ ?_
  ·rw [hstep]; simp only [ZeK hi, cond_true, Z2 hi hsb.1]
  ·obtain ⟨y, y1, _, y3⟩ := ZiB (g.ins b hb x (List.mem_of_getElem? hx))
   rw [hstep]; simp only [ZeK hi, cond_true, cond_false, ZaZ hx, Option.bind_some, Z2 hi hsb.1, Zix rt.o (g.ins b hb x (List.mem_of_getElem? hx)), y1, y3]
   cases decide (wk t x < Zc7 d.parts x) <;> rfl
  ·rw [hstep]; simp only [ZeL]; rfl
  ·rw [hstep]; simp only [ZeL]; rfl
 unfold ZaP
 simp only [ZeK hl, cond_true, ZuY d sd, Option.bind_some, ZiR (show input.length ≤ 1073741824 by omega), eqv, Zl0 (len r).1 (len r).2, ZaZ hx, Zpk, ZyW sh input (show input.length ≤ 1000 by omega), e1]
 rcases Zse r hc input p with ⟨h1, h2, h3⟩ | h1
 ·have r' := Zpy g r input h2 h3
  refine ⟨Zfd d input s p, r', ?_⟩
  rw [h1]
  simp only [beq_self_eq_true, cond_true, o0 r', left r' (ZcB d b (Zfd d input s p, 0)) (fun z => rfl), left r' (Zcc d b (Zfd d input s p, 0)) (fun z => rfl), Option.bind_some]
  cases ho : (b.outs.any fun q => decide (0 < wk (Zfd d input s p) q)) with
  | true =>
   rw [both r' ho]
   simp only [cond_true, cond_false, Zl0 (len r').1 (len r').2, Option.bind_some, Ziu d _ sh, Zg5 hc r', bne_self_eq_false]
  | false =>
   cases (b.ins.any fun q => decide (wk (Zfd d input s p) q < Zc7 d.parts q)) <;>
    simp only [cond_true, cond_false, Zl0 (len r').1 (len r').2, Option.bind_some, Ziu d _ sh, Zg5 hc r', bne_self_eq_false]
 ·refine ⟨s, r, ?_⟩
  rw [show ((goS d input s p).2 == 0) = false by simpa using h1]
  simp only [cond_false, o2, left r (Zck d b ((i : Int), s.work, s.vals)) (fun z => rfl), left r (Zcj d b ((i : Int), s.work, s.vals)) (fun z => rfl), Option.bind_some]
  cases ho : (b.outs.any fun q => decide (0 < wk s q)) with
  | true =>
   rw [both r ho]
   simp only [cond_true, cond_false, Zl0 (len r).1 (len r).2, Option.bind_some, Ziu d _ sh, Zg5 hc r, bne_self_eq_false]
  | false =>
   cases (b.ins.any fun q => decide (wk s q < Zc7 d.parts q)) <;>
    simp only [cond_true, cond_false, Zl0 (len r).1 (len r).2, Option.bind_some, Ziu d _ sh, Zg5 hc r, bne_self_eq_false]
theorem Zkx (d : Zm) (input picks : List Int) (at_ : Int) : Zdw d input picks at_ = some true := by
 unfold Zdw
 simp only [Zdc, ZvC, Option.bind_some, cond_true]
 cases hf : Zsd d input ⟨[], []⟩ with
 | false => rfl
 | true =>
  obtain ⟨sd, hi, _, _⟩ := ZtX hf
  have sh := sd.short
  simp only [cond_true]
  by_cases c1 : (200 : Int) < (picks.length : Int)
  ·rw [decide_eq_true c1]; rfl
  by_cases c2 : at_ < 0
  ·rw [decide_eq_false c1, decide_eq_true c2]; rfl
  by_cases c3 : (d.barriers.length : Int) ≤ at_
  ·rw [decide_eq_false c1, decide_eq_false c2, decide_eq_true c3]; rfl
  rw [decide_eq_false c1, decide_eq_false c2, decide_eq_false c3]
  simp only [cond_false, ZuY d sd, Option.bind_some, Zpk, ZwH d sh]
  by_cases hc : Zcm d = 0
  case neg =>
   rw [show (Zcm d == 0) = false by simpa using hc]
   simp only [cond_false]
   rw [show (Zcm d != 0) = true by simpa using hc]
   rfl
  have g := Zf2 hc
  have hb : at_.toNat < d.barriers.length := by omega
  rw [hc]
  simp only [beq_self_eq_true, cond_true, bne_self_eq_false, cond_false]
  rw [ZiY (by omega) hb]
  simp only [Option.bind_some]
  have key : ∀ k i : Nat, i + k = picks.length → ∀ s, Zft d s → lp (ZaP d input picks d.barriers[at_.toNat]) ((i : Int), s.work, s.vals) = some (.inr ()) := by
   intro k
   induction k with
   | zero =>
    intro i hi s r
    have : i = picks.length := by omega
    subst this
    rw [Zb9]
    simp only [ZaP, ZeL, cond_false]
   | succ k ih =>
    intro i hik s r
    have hl : i < picks.length := by omega
    obtain ⟨t, rt, e⟩ := ZmX sd hc input picks hi (List.getElem_mem hb) r (List.getElem?_eq_getElem hl) hl (by omega)
    rw [Zb9, e]
    exact ih (i + 1) (by omega) t rt
  have := key picks.length 0 (by omega) (ZoD d) (Zrk g)
  rw [show ((0 : Nat) : Int) = 0 from rfl] at this
  rw [this]
  rfl
theorem ZkN (xs : List D) (h : Ze3 ZoS.1 xs) (ys : List D) (k : Ze3 Zjd.1 ys) (zs : List D) (m : Ze3 Zjd.1 zs) (vs : List D) (n : Ze3 ZsK.1 vs) :
  ∃ H', evW ctx 9 (Zcv [ZjD ZoS.2 xs, ZjD Zjd.2 ys, ZjD Zjd.2 zs, ZjD ZsK.2 vs]) [] = some (.d (.bool true), H') := by
 obtain ⟨d, hd, _⟩ := Zuu h
 obtain ⟨a, ha, _⟩ := Zqi k
 obtain ⟨b, hb, _⟩ := Zqi m
 obtain ⟨n, hn, _⟩ := ZvT n
 show ∃ H', evW ctx 9 [.d (D.agg xs), .d (ZjD false ys), .d (ZjD false zs), .d (ZjD false vs)] [] = _
 rw [hd, ha, hb, hn]
 exact ZsL (Zhb true (Zkx d a b n))
end Go.Proofs.YtnmbdjkbaihicaaDoor
namespace Go.Proofs.YtnmbdjkbaihicaaDoor.LawSourceBarrier
open Go.ChangeShapes Go.WideShapes Go.ChangeAt Go.RowKit Go.Proofs.YtnmbdjkbaihicaaDoorE
set_option linter.unusedVariables false
theorem own : ownKnob Tryd.prog.godebug = none := by kernel_rfl
theorem Zls : laidOutB Tryd.prog = true := by kernel_rfl
def Zmg : List (String × DataW Unit) := [("math/bits.deBruijn32tab", Rows.laid_math_bits_deBruijn32tab), ("math/bits.deBruijn64tab", Rows.laid_math_bits_deBruijn64tab)]
theorem ZrO (os : Os) (args : Array Value) : laidMetH Tryd.prog Zmg ((World.doorLaid Tryd.prog 19 os).forCall (fun _ _ => 0) ⟨#[], args, []⟩).memory :=
 laidMetH_of_parts3 (fuel := 8) (laidMet_of_run' 8 (by kernel_rfl) (by kernel_rfl)) (by kernel_rfl) (by kernel_rfl)
theorem Zr0 {W : World} (h : laidMetH Tryd.prog Zmg W) : GOK Zy R0 W := by
 intro g l hg
 unfold Zy at hg
 split at hg
 ·cases hg
  exact Zmo (t := 148) (N := 32) (e := 5) (k := .u8) h (by kernel_rfl) (n := "math/bits.deBruijn32tab") (by rw [show DataW.agg (ZjC ZuR) = Rows.laid_math_bits_deBruijn32tab by kernel_rfl]; simp [Zmg]) (by kernel_rfl) (by kernel_rfl) (by kernel_rfl) (by kernel_rfl) (by kernel_rfl) (by kernel_rfl) (by decide)
 ·cases hg
  exact Zmo (t := 149) (N := 64) (e := 5) (k := .u8) h (by kernel_rfl) (n := "math/bits.deBruijn64tab") (by rw [show DataW.agg (ZjC ZuN) = Rows.laid_math_bits_deBruijn64tab by kernel_rfl]; simp [Zmg]) (by kernel_rfl) (by kernel_rfl) (by kernel_rfl) (by kernel_rfl) (by kernel_rfl) (by kernel_rfl) (by decide)
 ·cases hg
theorem Zvt (os : Os) (started : os.Started) (H : Type) (enc : TypeId × Value → H) :
  ReturnsInHanded {} Tryd.checked os 9 .any (fun w args => (Rows.sourceBarrierSpec.pre enc Tryd.prog Tryd.f9 [] false w args ∧ laidMetH Tryd.prog Zmg w) ∧ sizedMet enc Tryd.prog Tryd.f9 (OpenSpec.ofChange Rows.sourceBarrierSpec) false w args) (Rows.sourceBarrierSpec.post enc Tryd.prog Tryd.f9 false true false false) := by
 refine returnsInHanded_of_change_and (C := Tryd.checked) (X := fun w _ => laidMetH Tryd.prog Zmg w) (fun _ _ _ hh h => h.of_heap hh) own started (by kernel_rfl) Tryd.func9
  (ChangeSpec.witness_shaped (enc := enc) (C := Tryd.checked) (os := os) (X := fun w _ => laidMetH Tryd.prog Zmg w) false (World.doorLaid Tryd.prog 19 os) #[.agg #[.int .i64 0, .int .i64 0, .slice none 0 0, .slice none 0 0, .slice none 0 0, .slice none 0 0], .slice none 0 0, .slice none 0 0, .int .i64 0] 8 rfl (World.shaped_of_RefB (by kernel_rfl) (by kernel_rfl)) (by kernel_rfl) (by kernel_rfl) (by kernel_rfl) (ZrO os _)) ?_
 intro W base args ds gs before hval0 hW _ _ hL _
 have hval : ∀ (j : Nat) t v, Tryd.f9.params[j]? = some t → args[j]? = some v → Value.okWide Tryd.prog W .any base t v := hval0
 have hW' := hW
 obtain ⟨p, q, hA0, hV, rfl, hfz, hnd⟩ := hW
 have hA : DataW.TrodAll enc Tryd.prog W 0 (fun _ => true) true Tryd.f9.params.toList args.toList ds p := hA0
 rw [Tryd.params9] at hA hval
 obtain ⟨v0, vs0, d0, ds0, p0, q0, hargs, rfl, rfl, h0, r0⟩ := trodAll_cons hA
 obtain ⟨v1, vs1, d1, ds1, p1, q1, rfl, rfl, rfl, h1, r1⟩ := trodAll_cons r0
 obtain ⟨v2, vs2, d2, ds2, p2, q2, rfl, rfl, rfl, h2, r2⟩ := trodAll_cons r1
 obtain ⟨v3, vs3, d3, ds3, p3, q3, rfl, rfl, rfl, h3, r3⟩ := trodAll_cons r2
 obtain ⟨rfl, rfl, rfl⟩ := trodAll_nil r3
 obtain rfl : args = #[v0, v1, v2, v3] := by cases args; simp_all
 obtain ⟨rfl, rfl⟩ := trodVars_none hV
 have lt0 : ∀ x ∈ p0, x.block < W.heap.size := by obtain ⟨m, hm⟩ := h0; exact DataW.trod_lt m _ _ _ hm
 obtain ⟨x0, ok0, den0⟩ := Zoa (P := Tryd.prog) (n := 8) (t := 27) (l := ZoS.1) (ag := ZoS.2) (by kernel_rfl) (hval 0 27 v0 rfl rfl) h0
 have lt1 : ∀ x ∈ p1, x.block < W.heap.size := by obtain ⟨m, hm⟩ := h1; exact DataW.trod_lt m _ _ _ hm
 obtain ⟨x1, ok1, den1⟩ := Zoa (P := Tryd.prog) (n := 8) (t := 28) (l := Zjd.1) (ag := Zjd.2) (by kernel_rfl) (hval 1 28 v1 rfl rfl) h1
 have lt2 : ∀ x ∈ p2, x.block < W.heap.size := by obtain ⟨m, hm⟩ := h2; exact DataW.trod_lt m _ _ _ hm
 obtain ⟨x2, ok2, den2⟩ := Zoa (P := Tryd.prog) (n := 8) (t := 28) (l := Zjd.1) (ag := Zjd.2) (by kernel_rfl) (hval 2 28 v2 rfl rfl) h2
 have lt3 : ∀ x ∈ p3, x.block < W.heap.size := by obtain ⟨m, hm⟩ := h3; exact DataW.trod_lt m _ _ _ hm
 obtain ⟨x3, ok3, den3⟩ := Zoa (P := Tryd.prog) (n := 8) (t := 3) (l := ZsK.1) (ag := ZsK.2) (by kernel_rfl) (hval 3 3 v3 rfl rfl) h3
 obtain ⟨H1, ev⟩ := ZkN x0 ok0 x1 ok1 x2 ok2 x3 ok3
 have den : ZaK All All All W [ZjD ZoS.2 x0, ZjD Zjd.2 x1, ZjD Zjd.2 x2, ZjD ZsK.2 x3] [v0, v1, v2, v3] := ⟨_, _, rfl, den0, ⟨_, _, rfl, den1, ⟨_, _, rfl, den2, ⟨_, _, rfl, den3, rfl⟩⟩⟩⟩
 refine (Zri ZxD (Zr0 hL) den ev).mono fun e W' ⟨he, bel⟩ => ?_
 subst he
 exact ⟨_, rfl, _, _, _, [], _, [], hW', trodAll_mk1 (shut_bool Tryd.underlying4 _), (trodAll_cons_mk (Below.trod Zls (by kernel_rfl) (of_decide_eq_true (by kernel_rfl)) h0 bel lt0) (trodAll_cons_mk (Below.trod Zls (by kernel_rfl) (of_decide_eq_true (by kernel_rfl)) h1 bel lt1) (trodAll_cons_mk (Below.trod Zls (by kernel_rfl) (of_decide_eq_true (by kernel_rfl)) h2 bel lt2) (trodAll_cons_mk (Below.trod Zls (by kernel_rfl) (of_decide_eq_true (by kernel_rfl)) h3 bel lt3) trodAll_mk0)))), rfl, bel.frame _, fun h => by cases h⟩
theorem over : Rows.sourceBarrierRow.holds Tryd.pinned (OpenSpec.ofChange Rows.sourceBarrierSpec) :=
 OpenClaim.holds_of_wide 9 Tryd.f9 rfl rfl rfl rfl rfl rfl rfl ⟨rfl, rfl, rfl, rfl, rfl⟩ rfl rfl rfl rfl rfl (by kernel_rfl) Tryd.func9 (by kernel_rfl)
  (of_decide_eq_true (by kernel_rfl)) (by unfold Func.isWrapper; first | (rw [if_pos (by decide +kernel)]; kernel_rfl) | (rw [if_neg (by decide +kernel)]; exact ⟨rfl, rfl⟩))
  (fun os started H enc _ => Zvt os started H enc)
theorem proved : Rows.SourceBarrierSaid := over
theorem carded : Rows.SourceBarrierCardSaid :=
 Claim7.holds_tied_plain_at .later [] [.data, .data] true (true, "3ab9be834fa2b7d026ba399aa683e49be0919143fbbd24a24d6e9902cb90d35e") false
  proved (fun _ h => by cases h) (by kernel_rfl) (fun _ h => by cases h) sourceBarrier_row_tie rfl ⟨rfl, rfl⟩ (by kernel_rfl) rfl
  (fun f fn hf hfn => by
   obtain rfl : f = 9 := Option.some.inj ((show Tryd.prog.funcNamed "trefoil/trefoillaw09.SourceBarrier" = some 9 by kernel_rfl).symm.trans hf) |>.symm
   obtain rfl : fn = Tryd.f9 := (Option.some.inj (Tryd.func9.symm.trans hfn)).symm
   exact ⟨by kernel_rfl, fun j t ht => by
    rw [Tryd.params9] at ht
    have hm : t ∈ [27, 28, 28, 3] := by simpa using Array.mem_of_getElem? ht
    have hall : ([27, 28, 28, 3].all fun u => !Tryd.prog.wantsStandIn u) = true := by kernel_rfl
    exact (show Tryd.prog.wantsStandIn t = false by simpa using List.all_eq_true.1 hall t hm)⟩)
  (by kernel_rfl)
end Go.Proofs.YtnmbdjkbaihicaaDoor.LawSourceBarrier
namespace Go.Proofs.YtnmbdjkbaihicaaDoor
theorem sourceBarrier_holds : Rows.SourceBarrierCardSaid := LawSourceBarrier.carded
#print axioms sourceBarrier_holds
end Go.Proofs.YtnmbdjkbaihicaaDoor
