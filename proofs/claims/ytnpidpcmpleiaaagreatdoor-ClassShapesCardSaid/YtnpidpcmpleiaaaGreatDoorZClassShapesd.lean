/- ClassShapes: part 4 of 7 of the proof. -/
import Derived.Test.YtnpidpcmpleiaaaGreatDoorZClassShapesc
import Derived.KernelRfl
import Derived.Sort.AssemblyPlain
set_option maxRecDepth 100000
set_option maxHeartbeats 40000000
set_option linter.unusedVariables false
set_option linter.unusedSimpArgs false
namespace Go.Proofs.YtnpidpcmpleiaaaGreatDoor
open Go Go.Proofs.YtnpidpcmpleiaaaGreatDoorE
open Go.IntKind (u64 i64 u32 i32 u8)
noncomputable section
structure ZjT where
 total:Int
 long:Int
 most:Int
 deadline:Int
 period:Int
 deriving DecidableEq
structure Zar where
 work:(List Int)
 edges:(List Zo)
 deriving DecidableEq
structure Zj where
 part:Int
 step:Int
 deriving DecidableEq
abbrev Zbe (x:Zj):D:=(D.agg [(Ze x.part),(Ze x.step)])
structure Znj where
 dag:Zar
 pieces:(List Zj)
 deriving DecidableEq
def Zvk:ByteArray:=⟨#[0,1,2,2,3,3,3,3,4,4,4,4,4,4,4,4,5,5,5,5,5,5,5,5,5,5,5,5,5,5,5,5,6,6,6,6,6,6,6,6,6,6,6,6,6,6,6,6,6,6,6,6,6,6,6,6,6,6,6,6,6,6,6,6,7,7,7,7,7,7,7,7,7,7,7,7,7,7,7,7,7,7,7,7,7,7,7,7,7,7,7,7,7,7,7,7,7,7,7,7,7,7,7,7,7,7,7,7,7,7,7,7,7,7,7,7,7,7,7,7,7,7,7,7,7,7,7,7,8,8,8,8,8,8,8,8,8,8,8,8,8,8,8,8,8,8,8,8,8,8,8,8,8,8,8,8,8,8,8,8,8,8,8,8,8,8,8,8,8,8,8,8,8,8,8,8,8,8,8,8,8,8,8,8,8,8,8,8,8,8,8,8,8,8,8,8,8,8,8,8,8,8,8,8,8,8,8,8,8,8,8,8,8,8,8,8,8,8,8,8,8,8,8,8,8,8,8,8,8,8,8,8,8,8,8,8,8,8,8,8,8,8,8,8,8,8,8,8,8,8,8,8,8,8,8,8]⟩
abbrev dA (t0 t1 t2 t3:Bool) (a:Zp):List D:=[(Ze a.period),(Ze a.deadline),(D.list t0 (List.map ZaC a.parts)),(D.list t1 (List.map ZA a.edges)),(D.list t2 (List.map Zv a.futures)),(D.list t3 (List.map ZD a.barriers))]
abbrev dV (t0 t1 t2 t3:Bool) (a:Zp):List V:=[(.d (Ze a.period)),(.d (Ze a.deadline)),(.d (D.list t0 (List.map ZaC a.parts))),(.d (D.list t1 (List.map ZA a.edges))),(.d (D.list t2 (List.map Zv a.futures))),(.d (D.list t3 (List.map ZD a.barriers)))]
def Zif:Option Bool:=some true
def ZgG (a:Zp) (s0:Int):Option (Int⊕(Unit⊕Unit)):=
 bif (decide (s0<(a.barriers.length:Int))) then
  bif (decide (s0<9)) then
   (Zx a.barriers s0).bind fun x1=>
   bif (decide (20<(x1.ins.length:Int))) then
    some (.inr (.inl ()))
   else
    bif (decide (20<(x1.outs.length:Int))) then
     some (.inr (.inl ()))
    else
     some (.inl (w64 (s0+1)))
  else
   some (.inr (.inr ()))
 else
  some (.inr (.inr ()))
def ZjA (a:Zp):Option Bool:=
 (lp (ZgG a) 0).bind fun r2=>
 match r2 with
 | (.inl r2)=>
  some false
 | (.inr r2)=>
  bif (decide ((a.parts.length:Int)≤20)) then
   bif (decide ((a.edges.length:Int)≤60)) then
    bif (decide ((a.futures.length:Int)≤20)) then
     bif (decide ((a.barriers.length:Int)≤8)) then
      some true
     else
      some false
    else
     some false
   else
    some false
  else
   some false
def ZfE (a:Zp) (s0:Int×(List Zw)):Option ((Int×(List Zw))⊕(List Zw)):=
 bif (decide (s0.1<(a.barriers.length:Int))) then
  (Zx a.barriers s0.1).bind fun x1=>
  bif (Nat.ble (List.length x1.ins) lim) then
   bif (Nat.ble (List.length x1.outs) lim) then
    bif (Nat.ble (List.length s0.2+1) lim) then
     some (.inl ((w64 (s0.1+1)),(s0.2++[x1])))
    else
     none
   else
    none
  else
   none
 else
  some (.inr s0.2)
def ZjH (a:Zp):Option (List Zw):=
 bif (Nat.ble (List.length a.parts) lim) then
  bif (Nat.ble (List.length a.edges) lim) then
   bif (Nat.ble (List.length a.futures) lim) then
    (lp (ZfE a) (0,([]:List Zw))).bind fun r2=>
    some r2
   else
    none
  else
   none
 else
  none
def Zcp (a:Int) (b:Int) (c:Int):Option Bool:=
 bif (decide (b≤a)) then
  bif (decide (a≤c)) then
   some true
  else
   some false
 else
  some false
def Zjv (a:Int):Option Int:=
 bif (decide (a<0)) then
  some 10
 else
  bif (decide (1099511627775<a)) then
   some 11
  else
   some 0
def Zdy (a:Int):Option Int:=
 some (i64.wrap (ZDe (w64 (u64.wrap ((u64.wrap ((u64.wrap ((u64.wrap (Zi (u64.wrap ((Int.fdiv (u64.wrap ((u64.wrap (Zi (Int.fdiv (u64.wrap ((u64.wrap (Zi (Int.fdiv a (2 ^ 1)) &&& Zi 6148914691236517205).toNat)+(u64.wrap (Zi a &&& Zi 6148914691236517205).toNat))) (2 ^ 2)) &&& Zi 3689348814741910323).toNat)+(u64.wrap (Zi (u64.wrap ((u64.wrap (Zi (Int.fdiv a (2 ^ 1)) &&& Zi 6148914691236517205).toNat)+(u64.wrap (Zi a &&& Zi 6148914691236517205).toNat))) &&& Zi 3689348814741910323).toNat))) (2 ^ 4))+(u64.wrap ((u64.wrap (Zi (Int.fdiv (u64.wrap ((u64.wrap (Zi (Int.fdiv a (2 ^ 1)) &&& Zi 6148914691236517205).toNat)+(u64.wrap (Zi a &&& Zi 6148914691236517205).toNat))) (2 ^ 2)) &&& Zi 3689348814741910323).toNat)+(u64.wrap (Zi (u64.wrap ((u64.wrap (Zi (Int.fdiv a (2 ^ 1)) &&& Zi 6148914691236517205).toNat)+(u64.wrap (Zi a &&& Zi 6148914691236517205).toNat))) &&& Zi 3689348814741910323).toNat))))) &&& Zi 1085102592571150095).toNat)+(Int.fdiv (u64.wrap (Zi (u64.wrap ((Int.fdiv (u64.wrap ((u64.wrap (Zi (Int.fdiv (u64.wrap ((u64.wrap (Zi (Int.fdiv a (2 ^ 1)) &&& Zi 6148914691236517205).toNat)+(u64.wrap (Zi a &&& Zi 6148914691236517205).toNat))) (2 ^ 2)) &&& Zi 3689348814741910323).toNat)+(u64.wrap (Zi (u64.wrap ((u64.wrap (Zi (Int.fdiv a (2 ^ 1)) &&& Zi 6148914691236517205).toNat)+(u64.wrap (Zi a &&& Zi 6148914691236517205).toNat))) &&& Zi 3689348814741910323).toNat))) (2 ^ 4))+(u64.wrap ((u64.wrap (Zi (Int.fdiv (u64.wrap ((u64.wrap (Zi (Int.fdiv a (2 ^ 1)) &&& Zi 6148914691236517205).toNat)+(u64.wrap (Zi a &&& Zi 6148914691236517205).toNat))) (2 ^ 2)) &&& Zi 3689348814741910323).toNat)+(u64.wrap (Zi (u64.wrap ((u64.wrap (Zi (Int.fdiv a (2 ^ 1)) &&& Zi 6148914691236517205).toNat)+(u64.wrap (Zi a &&& Zi 6148914691236517205).toNat))) &&& Zi 3689348814741910323).toNat))))) &&& Zi 1085102592571150095).toNat) (2 ^ 8))))+(Int.fdiv (u64.wrap ((u64.wrap (Zi (u64.wrap ((Int.fdiv (u64.wrap ((u64.wrap (Zi (Int.fdiv (u64.wrap ((u64.wrap (Zi (Int.fdiv a (2 ^ 1)) &&& Zi 6148914691236517205).toNat)+(u64.wrap (Zi a &&& Zi 6148914691236517205).toNat))) (2 ^ 2)) &&& Zi 3689348814741910323).toNat)+(u64.wrap (Zi (u64.wrap ((u64.wrap (Zi (Int.fdiv a (2 ^ 1)) &&& Zi 6148914691236517205).toNat)+(u64.wrap (Zi a &&& Zi 6148914691236517205).toNat))) &&& Zi 3689348814741910323).toNat))) (2 ^ 4))+(u64.wrap ((u64.wrap (Zi (Int.fdiv (u64.wrap ((u64.wrap (Zi (Int.fdiv a (2 ^ 1)) &&& Zi 6148914691236517205).toNat)+(u64.wrap (Zi a &&& Zi 6148914691236517205).toNat))) (2 ^ 2)) &&& Zi 3689348814741910323).toNat)+(u64.wrap (Zi (u64.wrap ((u64.wrap (Zi (Int.fdiv a (2 ^ 1)) &&& Zi 6148914691236517205).toNat)+(u64.wrap (Zi a &&& Zi 6148914691236517205).toNat))) &&& Zi 3689348814741910323).toNat))))) &&& Zi 1085102592571150095).toNat)+(Int.fdiv (u64.wrap (Zi (u64.wrap ((Int.fdiv (u64.wrap ((u64.wrap (Zi (Int.fdiv (u64.wrap ((u64.wrap (Zi (Int.fdiv a (2 ^ 1)) &&& Zi 6148914691236517205).toNat)+(u64.wrap (Zi a &&& Zi 6148914691236517205).toNat))) (2 ^ 2)) &&& Zi 3689348814741910323).toNat)+(u64.wrap (Zi (u64.wrap ((u64.wrap (Zi (Int.fdiv a (2 ^ 1)) &&& Zi 6148914691236517205).toNat)+(u64.wrap (Zi a &&& Zi 6148914691236517205).toNat))) &&& Zi 3689348814741910323).toNat))) (2 ^ 4))+(u64.wrap ((u64.wrap (Zi (Int.fdiv (u64.wrap ((u64.wrap (Zi (Int.fdiv a (2 ^ 1)) &&& Zi 6148914691236517205).toNat)+(u64.wrap (Zi a &&& Zi 6148914691236517205).toNat))) (2 ^ 2)) &&& Zi 3689348814741910323).toNat)+(u64.wrap (Zi (u64.wrap ((u64.wrap (Zi (Int.fdiv a (2 ^ 1)) &&& Zi 6148914691236517205).toNat)+(u64.wrap (Zi a &&& Zi 6148914691236517205).toNat))) &&& Zi 3689348814741910323).toNat))))) &&& Zi 1085102592571150095).toNat) (2 ^ 8)))) (2 ^ 16))))+(Int.fdiv (u64.wrap ((u64.wrap ((u64.wrap (Zi (u64.wrap ((Int.fdiv (u64.wrap ((u64.wrap (Zi (Int.fdiv (u64.wrap ((u64.wrap (Zi (Int.fdiv a (2 ^ 1)) &&& Zi 6148914691236517205).toNat)+(u64.wrap (Zi a &&& Zi 6148914691236517205).toNat))) (2 ^ 2)) &&& Zi 3689348814741910323).toNat)+(u64.wrap (Zi (u64.wrap ((u64.wrap (Zi (Int.fdiv a (2 ^ 1)) &&& Zi 6148914691236517205).toNat)+(u64.wrap (Zi a &&& Zi 6148914691236517205).toNat))) &&& Zi 3689348814741910323).toNat))) (2 ^ 4))+(u64.wrap ((u64.wrap (Zi (Int.fdiv (u64.wrap ((u64.wrap (Zi (Int.fdiv a (2 ^ 1)) &&& Zi 6148914691236517205).toNat)+(u64.wrap (Zi a &&& Zi 6148914691236517205).toNat))) (2 ^ 2)) &&& Zi 3689348814741910323).toNat)+(u64.wrap (Zi (u64.wrap ((u64.wrap (Zi (Int.fdiv a (2 ^ 1)) &&& Zi 6148914691236517205).toNat)+(u64.wrap (Zi a &&& Zi 6148914691236517205).toNat))) &&& Zi 3689348814741910323).toNat))))) &&& Zi 1085102592571150095).toNat)+(Int.fdiv (u64.wrap (Zi (u64.wrap ((Int.fdiv (u64.wrap ((u64.wrap (Zi (Int.fdiv (u64.wrap ((u64.wrap (Zi (Int.fdiv a (2 ^ 1)) &&& Zi 6148914691236517205).toNat)+(u64.wrap (Zi a &&& Zi 6148914691236517205).toNat))) (2 ^ 2)) &&& Zi 3689348814741910323).toNat)+(u64.wrap (Zi (u64.wrap ((u64.wrap (Zi (Int.fdiv a (2 ^ 1)) &&& Zi 6148914691236517205).toNat)+(u64.wrap (Zi a &&& Zi 6148914691236517205).toNat))) &&& Zi 3689348814741910323).toNat))) (2 ^ 4))+(u64.wrap ((u64.wrap (Zi (Int.fdiv (u64.wrap ((u64.wrap (Zi (Int.fdiv a (2 ^ 1)) &&& Zi 6148914691236517205).toNat)+(u64.wrap (Zi a &&& Zi 6148914691236517205).toNat))) (2 ^ 2)) &&& Zi 3689348814741910323).toNat)+(u64.wrap (Zi (u64.wrap ((u64.wrap (Zi (Int.fdiv a (2 ^ 1)) &&& Zi 6148914691236517205).toNat)+(u64.wrap (Zi a &&& Zi 6148914691236517205).toNat))) &&& Zi 3689348814741910323).toNat))))) &&& Zi 1085102592571150095).toNat) (2 ^ 8))))+(Int.fdiv (u64.wrap ((u64.wrap (Zi (u64.wrap ((Int.fdiv (u64.wrap ((u64.wrap (Zi (Int.fdiv (u64.wrap ((u64.wrap (Zi (Int.fdiv a (2 ^ 1)) &&& Zi 6148914691236517205).toNat)+(u64.wrap (Zi a &&& Zi 6148914691236517205).toNat))) (2 ^ 2)) &&& Zi 3689348814741910323).toNat)+(u64.wrap (Zi (u64.wrap ((u64.wrap (Zi (Int.fdiv a (2 ^ 1)) &&& Zi 6148914691236517205).toNat)+(u64.wrap (Zi a &&& Zi 6148914691236517205).toNat))) &&& Zi 3689348814741910323).toNat))) (2 ^ 4))+(u64.wrap ((u64.wrap (Zi (Int.fdiv (u64.wrap ((u64.wrap (Zi (Int.fdiv a (2 ^ 1)) &&& Zi 6148914691236517205).toNat)+(u64.wrap (Zi a &&& Zi 6148914691236517205).toNat))) (2 ^ 2)) &&& Zi 3689348814741910323).toNat)+(u64.wrap (Zi (u64.wrap ((u64.wrap (Zi (Int.fdiv a (2 ^ 1)) &&& Zi 6148914691236517205).toNat)+(u64.wrap (Zi a &&& Zi 6148914691236517205).toNat))) &&& Zi 3689348814741910323).toNat))))) &&& Zi 1085102592571150095).toNat)+(Int.fdiv (u64.wrap (Zi (u64.wrap ((Int.fdiv (u64.wrap ((u64.wrap (Zi (Int.fdiv (u64.wrap ((u64.wrap (Zi (Int.fdiv a (2 ^ 1)) &&& Zi 6148914691236517205).toNat)+(u64.wrap (Zi a &&& Zi 6148914691236517205).toNat))) (2 ^ 2)) &&& Zi 3689348814741910323).toNat)+(u64.wrap (Zi (u64.wrap ((u64.wrap (Zi (Int.fdiv a (2 ^ 1)) &&& Zi 6148914691236517205).toNat)+(u64.wrap (Zi a &&& Zi 6148914691236517205).toNat))) &&& Zi 3689348814741910323).toNat))) (2 ^ 4))+(u64.wrap ((u64.wrap (Zi (Int.fdiv (u64.wrap ((u64.wrap (Zi (Int.fdiv a (2 ^ 1)) &&& Zi 6148914691236517205).toNat)+(u64.wrap (Zi a &&& Zi 6148914691236517205).toNat))) (2 ^ 2)) &&& Zi 3689348814741910323).toNat)+(u64.wrap (Zi (u64.wrap ((u64.wrap (Zi (Int.fdiv a (2 ^ 1)) &&& Zi 6148914691236517205).toNat)+(u64.wrap (Zi a &&& Zi 6148914691236517205).toNat))) &&& Zi 3689348814741910323).toNat))))) &&& Zi 1085102592571150095).toNat) (2 ^ 8)))) (2 ^ 16)))) (2 ^ 32))))) &&& ZDe 127).toNat)
def ZdX (a:Int):Option Int:=
 (Zdy a).bind fun x0=>
 some x0
def Zu7:List Int:=[0,1,56,2,57,49,28,3,61,58,42,50,38,29,17,4,62,47,59,36,45,43,51,22,53,39,33,30,24,18,12,5,63,55,48,27,60,41,37,16,46,35,44,21,52,32,23,11,54,26,40,15,34,20,31,10,25,14,19,9,13,8,7,6]
def Zfb (a:Int):Option Int:=some (bif a==0 then 64 else w64 (Zu7.getD (Int.fdiv (u64.wrap ((u64.wrap (Zi a &&& Zi (u64.wrap (0-a))).toNat)*285870213051353865)) (2 ^ (min (Int.toNat 58) u64.bits))).toNat 0))
def ZdW (a:Int):Option Int:=
 (Zfb a).bind fun x0=>
 some x0
def Zki (a:Int):Option (Int×Bool):=
 (Zjv a).bind fun x0=>
 bif (x0 != 0) then
  some (0,false)
 else
  (ZdX (u64.wrap a)).bind fun x1=>
  bif (x1 != 1) then
   some (0,false)
  else
   (ZdW (u64.wrap a)).bind fun x2=>
   some (x2,true)
def ZgY (a:Zas):Option Bool:=
 (Zcp a.op 0 5).bind fun x0=>
 bif x0 then
  (Zcp a.arg 0 2147483647).bind fun x1=>
  bif x1 then
   (Zcp a.work 1 100).bind fun x2=>
   bif x2 then
    some false
   else
    some true
  else
   some true
 else
  some true
def ZbI (a:List Zas) (b:(Zas→Option Bool)) (s0:Int):Option (Int⊕(Int⊕Unit)):=
 bif (decide (s0<(a.length:Int))) then
  (Zx a s0).bind fun x1=>
  (b x1).bind fun x2=>
  bif x2 then
   some (.inr (.inl s0))
  else
   some (.inl (w64 (s0+1)))
 else
  some (.inr (.inr ()))
def ZcW (a:List Zas) (b:(Zas→Option Bool)):Option Int:=
 (lp (ZbI a b) 0).bind fun r3=>
 match r3 with
 | (.inl r3)=>
  some r3
 | (.inr r3)=>
  some (-1)
def ZbJ (a:List Zas) (b:(Zas→Option Bool)):Option Bool:=
 (ZcW a b).bind fun x0=>
 bif (decide (0≤x0)) then
  some true
 else
  some false
def Zjf (a:Zp) (b:Int) (c:Int):Option Bool:=
 bif (b != c) then
  (Zcp b 0 (w64 ((a.parts.length:Int)-1))).bind fun x0=>
  bif x0 then
   (Zcp c 0 (w64 ((a.parts.length:Int)-1))).bind fun x1=>
   bif x1 then
    some true
   else
    some false
  else
   some false
 else
  some false
def Zcc (a:List Zo) (b:Zo) (s0:Int):Option (Int⊕(Int⊕Unit)):=
 bif (decide (s0<(a.length:Int))) then
  (Zx a s0).bind fun x1=>
  bif ((b.src==x1.src)&&((b.dst==x1.dst)&&true)) then
   some (.inr (.inl s0))
  else
   some (.inl (w64 (s0+1)))
 else
  some (.inr (.inr ()))
def ZdI (a:List Zo) (b:Zo):Option Int:=
 (lp (Zcc a b) 0).bind fun r2=>
 match r2 with
 | (.inl r2)=>
  some r2
 | (.inr r2)=>
  some (-1)
def ZbH (a:List Zo) (b:Zo):Option Bool:=
 (ZdI a b).bind fun x0=>
 bif (decide (0≤x0)) then
  some true
 else
  some false
def ZeB (a:Zl) (b1:Int) (b2:Int):Option Bool:=
 bif (a.user==b1) then
  bif (a.pos==b2) then
   some true
  else
   some false
 else
  some false
def Zbs (a:List Zl) (b:(Zl→Option Bool)) (s0:Int):Option (Int⊕(Int⊕Unit)):=
 bif (decide (s0<(a.length:Int))) then
  (Zx a s0).bind fun x1=>
  (b x1).bind fun x2=>
  bif x2 then
   some (.inr (.inl s0))
  else
   some (.inl (w64 (s0+1)))
 else
  some (.inr (.inr ()))
def Zcg (a:List Zl) (b:(Zl→Option Bool)):Option Int:=
 (lp (Zbs a b) 0).bind fun r3=>
 match r3 with
 | (.inl r3)=>
  some r3
 | (.inr r3)=>
  some (-1)
def Zbt (a:List Zl) (b:(Zl→Option Bool)):Option Bool:=
 (Zcg a b).bind fun x0=>
 bif (decide (0≤x0)) then
  some true
 else
  some false
def Zhj (a:Zp) (b:List Int) (s0:Int):Option (Int⊕(Unit⊕Unit)):=
 bif (decide (s0<(b.length:Int))) then
  (Zx b s0).bind fun x1=>
  (Zcp x1 0 (w64 ((a.parts.length:Int)-1))).bind fun x2=>
  bif x2 then
   bif (decide (0<s0)) then
    (Zx b (w64 (s0-1))).bind fun x3=>
    bif (decide (x1≤x3)) then
     some (.inr (.inl ()))
    else
     some (.inl (w64 (s0+1)))
   else
    some (.inl (w64 (s0+1)))
  else
   some (.inr (.inl ()))
 else
  some (.inr (.inr ()))
def Zjh (a:Zp) (b:List Int):Option Bool:=
 (lp (Zhj a b) 0).bind fun r4=>
 match r4 with
 | (.inl r4)=>
  some false
 | (.inr r4)=>
  bif (decide (0<(b.length:Int))) then
   some true
  else
   some false
def Zcx (a:List Int) (b:Int) (s0:Int):Option (Int⊕(Int⊕Unit)):=
 bif (decide (s0<(a.length:Int))) then
  (Zx a s0).bind fun x1=>
  bif (b==x1) then
   some (.inr (.inl s0))
  else
   some (.inl (w64 (s0+1)))
 else
  some (.inr (.inr ()))
def Zeq (a:List Int) (b:Int):Option Int:=
 (lp (Zcx a b) 0).bind fun r2=>
 match r2 with
 | (.inl r2)=>
  some r2
 | (.inr r2)=>
  some (-1)
def Zcw (a:List Int) (b:Int):Option Bool:=
 (Zeq a b).bind fun x0=>
 bif (decide (0≤x0)) then
  some true
 else
  some false
def ZeD (a:Int) (b1:List Int):Option Bool:=
 (Zcw b1 a).bind fun x0=>
 bif x0 then
  some true
 else
  some false
def Zbc (a:List Int) (b:(Int→Option Bool)) (s0:Int):Option (Int⊕(Int⊕Unit)):=
 bif (decide (s0<(a.length:Int))) then
  (Zx a s0).bind fun x1=>
  (b x1).bind fun x2=>
  bif x2 then
   some (.inr (.inl s0))
  else
   some (.inl (w64 (s0+1)))
 else
  some (.inr (.inr ()))
def ZbL (a:List Int) (b:(Int→Option Bool)):Option Int:=
 (lp (Zbc a b) 0).bind fun r3=>
 match r3 with
 | (.inl r3)=>
  some r3
 | (.inr r3)=>
  some (-1)
def ZaP (a:List Int) (b:(Int→Option Bool)):Option Bool:=
 (ZbL a b).bind fun x0=>
 bif (decide (0≤x0)) then
  some true
 else
  some false
def ZeR (a:Zp) (s4:Int):Option (Int⊕(Unit⊕Unit)):=
 bif (decide (s4<(a.edges.length:Int))) then
  (Zx a.edges s4).bind fun x5=>
  (Zjf a x5.src x5.dst).bind fun x6=>
  bif x6 then
   bif (decide (0≤s4)) then
    bif (Nat.ble s4.toNat (List.length a.edges)) then
     (ZbH (List.take s4.toNat a.edges) x5).bind fun x7=>
     bif x7 then
      some (.inr (.inl ()))
     else
      some (.inl (w64 (s4+1)))
    else
     none
   else
    none
  else
   some (.inr (.inl ()))
 else
  some (.inr (.inr ()))
def ZeV (a:Zp) (s9:Int):Option (Int⊕(Unit⊕Unit)):=
 bif (decide (s9<(a.futures.length:Int))) then
  (Zx a.futures s9).bind fun x10=>
  (Zjf a x10.maker x10.user).bind fun x11=>
  bif x11 then
   (Zx a.parts x10.user).bind fun x12=>
   (Zcp x10.pos 1 (w64 (x12.work-1))).bind fun x13=>
   bif x13 then
    bif (decide (0≤s9)) then
     bif (Nat.ble s9.toNat (List.length a.futures)) then
      (Zbt (List.take s9.toNat a.futures) (fun z0=>ZeB z0 x10.user x10.pos)).bind fun x14=>
      bif x14 then
       some (.inr (.inl ()))
      else
       some (.inl (w64 (s9+1)))
     else
      none
    else
     none
   else
    some (.inr (.inl ()))
  else
   some (.inr (.inl ()))
 else
  some (.inr (.inr ()))
def ZeT (a:Zp) (s16:Int):Option (Int⊕(Unit⊕Unit)):=
 bif (decide (s16<(a.barriers.length:Int))) then
  (Zx a.barriers s16).bind fun x17=>
  (Zjh a x17.ins).bind fun x18=>
  bif x18 then
   (Zjh a x17.outs).bind fun x19=>
   bif x19 then
    (ZaP x17.ins (fun z0=>ZeD z0 x17.outs)).bind fun x20=>
    bif x20 then
     some (.inr (.inl ()))
    else
     some (.inl (w64 (s16+1)))
   else
    some (.inr (.inl ()))
  else
   some (.inr (.inl ()))
 else
  some (.inr (.inr ()))
def ZhT (a:Zp):Option Int:=
 (Zcp (a.parts.length:Int) 1 16).bind fun x0=>
 bif x0 then
  bif (decide (48<(a.edges.length:Int))) then
   some 50
  else
   bif (decide (16<(a.futures.length:Int))) then
    some 50
   else
    bif (decide (4<(a.barriers.length:Int))) then
     some 50
    else
     (Zki a.period).bind fun x1=>
     bif x1.2 then
      bif (decide (4096<a.period)) then
       some 51
      else
       (Zcp a.deadline 1 a.period).bind fun x2=>
       bif x2 then
        (ZbJ a.parts (fun z0=>ZgY z0)).bind fun x3=>
        bif x3 then
         some 52
        else
         (lp (ZeR a) 0).bind fun r8=>
         match r8 with
         | (.inl r8)=>
          some 53
         | (.inr r8)=>
          (lp (ZeV a) 0).bind fun r15=>
          match r15 with
          | (.inl r15)=>
           some 54
          | (.inr r15)=>
           (lp (ZeT a) 0).bind fun r21=>
           match r21 with
           | (.inl r21)=>
            some 55
           | (.inr r21)=>
            some 0
       else
        some 51
     else
      some 51
 else
  some 50
def Zz (a:Int) (b:Int) (c4:List Zl):Option Int:=
 (Zx c4 a).bind fun x0=>
 (Zx c4 b).bind fun x1=>
 some (w64 (x0.pos-x1.pos))
def ZiX (a:Int):Option Int:=
 bif (decide (4294967296≤a)) then
  bif (decide (65536≤(Int.fdiv a (2 ^ 32)))) then
   bif (decide (256≤(Int.fdiv (Int.fdiv a (2 ^ 32)) (2 ^ 16)))) then
    bif (decide (0≤(u8.wrap (Int.fdiv (Int.fdiv (Int.fdiv a (2 ^ 32)) (2 ^ 16)) (2 ^ 8))))) then
     (Zvk[(u8.wrap (Int.fdiv (Int.fdiv (Int.fdiv a (2 ^ 32)) (2 ^ 16)) (2 ^ 8))).toNat]?).bind fun x0=>
     some (w64 (56+(w64 (x0.toNat:Int))))
    else
     none
   else
    bif (decide (0≤(u8.wrap (Int.fdiv (Int.fdiv a (2 ^ 32)) (2 ^ 16))))) then
     (Zvk[(u8.wrap (Int.fdiv (Int.fdiv a (2 ^ 32)) (2 ^ 16))).toNat]?).bind fun x1=>
     some (w64 (48+(w64 (x1.toNat:Int))))
    else
     none
  else
   bif (decide (256≤(Int.fdiv a (2 ^ 32)))) then
    bif (decide (0≤(u8.wrap (Int.fdiv (Int.fdiv a (2 ^ 32)) (2 ^ 8))))) then
     (Zvk[(u8.wrap (Int.fdiv (Int.fdiv a (2 ^ 32)) (2 ^ 8))).toNat]?).bind fun x2=>
     some (w64 (40+(w64 (x2.toNat:Int))))
    else
     none
   else
    bif (decide (0≤(u8.wrap (Int.fdiv a (2 ^ 32))))) then
     (Zvk[(u8.wrap (Int.fdiv a (2 ^ 32))).toNat]?).bind fun x3=>
     some (w64 (32+(w64 (x3.toNat:Int))))
    else
     none
 else
  bif (decide (65536≤a)) then
   bif (decide (256≤(Int.fdiv a (2 ^ 16)))) then
    bif (decide (0≤(u8.wrap (Int.fdiv (Int.fdiv a (2 ^ 16)) (2 ^ 8))))) then
     (Zvk[(u8.wrap (Int.fdiv (Int.fdiv a (2 ^ 16)) (2 ^ 8))).toNat]?).bind fun x4=>
     some (w64 (24+(w64 (x4.toNat:Int))))
    else
     none
   else
    bif (decide (0≤(u8.wrap (Int.fdiv a (2 ^ 16))))) then
     (Zvk[(u8.wrap (Int.fdiv a (2 ^ 16))).toNat]?).bind fun x5=>
     some (w64 (16+(w64 (x5.toNat:Int))))
    else
     none
  else
   bif (decide (256≤a)) then
    bif (decide (0≤(u8.wrap (Int.fdiv a (2 ^ 8))))) then
     (Zvk[(u8.wrap (Int.fdiv a (2 ^ 8))).toNat]?).bind fun x6=>
     some (w64 (8+(w64 (x6.toNat:Int))))
    else
     none
   else
    bif (decide (0≤(u8.wrap a))) then
     (Zvk[(u8.wrap a).toNat]?).bind fun x7=>
     some (w64 (0+(w64 (x7.toNat:Int))))
    else
     none
def ZeY (a:Int):Option Int:=
 (ZiX a).bind fun x0=>
 some x0
def Z6 (b:Int) (d:(Int→Int→Option Int)) (s1:Int×(List Int)):Option ((Int×(List Int))⊕(List Int)):=
 bif (decide (b<s1.1)) then
  (Zx s1.2 s1.1).bind fun x2=>
  (Zx s1.2 (w64 (s1.1-1))).bind fun x3=>
  (d x2 x3).bind fun x4=>
  bif (decide (x4<0)) then
   (Zx (List.set s1.2 s1.1.toNat x3) (w64 (s1.1-1))).bind fun x5=>
   some (.inl ((w64 (s1.1-1)),(List.set (List.set s1.2 s1.1.toNat x3) (w64 (s1.1-1)).toNat x2)))
  else
   some (.inr s1.2)
 else
  some (.inr s1.2)
def Zaq (b:Int) (c:Int) (d:(Int→Int→Option Int)) (s0:Int×(List Int)):Option ((Int×(List Int))⊕(List Int)):=
 bif (decide (s0.1<c)) then
  (lp (Z6 b d) (s0.1,s0.2)).bind fun r6=>
  some (.inl ((w64 (s0.1+1)),r6))
 else
  some (.inr s0.2)
def Z7 (b:Int) (c:Int) (d:(Int→Int→Option Int)) (m0_0:List Int):Option (List Int):=
 (lp (Zaq b c d) ((w64 (b+1)),m0_0)).bind fun r7=>
 some r7
def ZR (c:Int) (d:Int) (e:(Int→Int→Option Int)) (s0:Int×(List Int)):Option ((Int×(List Int))⊕((List Int)⊕(List Int))):=
 bif (decide (c≤(w64 ((w64 (2*s0.1))+1)))) then
  some (.inr (.inl s0.2))
 else
  bif (decide ((w64 ((w64 ((w64 (2*s0.1))+1))+1))<c)) then
   (Zx s0.2 (w64 (d+(w64 ((w64 (2*s0.1))+1))))).bind fun x1=>
   (Zx s0.2 (w64 ((w64 (d+(w64 ((w64 (2*s0.1))+1))))+1))).bind fun x2=>
   (e x1 x2).bind fun x3=>
   bif (decide (x3<0)) then
    (Zx s0.2 (w64 (d+s0.1))).bind fun x4=>
    (Zx s0.2 (w64 (d+(w64 ((w64 ((w64 (2*s0.1))+1))+1))))).bind fun x5=>
    (e x4 x5).bind fun x6=>
    bif (decide (x6<0)) then
     (Zx (List.set s0.2 (w64 (d+s0.1)).toNat x5) (w64 (d+(w64 ((w64 ((w64 (2*s0.1))+1))+1))))).bind fun x7=>
     some (.inl ((w64 ((w64 ((w64 (2*s0.1))+1))+1)),(List.set (List.set s0.2 (w64 (d+s0.1)).toNat x5) (w64 (d+(w64 ((w64 ((w64 (2*s0.1))+1))+1)))).toNat x4)))
    else
     some (.inr (.inr s0.2))
   else
    (Zx s0.2 (w64 (d+s0.1))).bind fun x8=>
    (e x8 x1).bind fun x9=>
    bif (decide (x9<0)) then
     (Zx (List.set s0.2 (w64 (d+s0.1)).toNat x1) (w64 (d+(w64 ((w64 (2*s0.1))+1))))).bind fun x10=>
     some (.inl ((w64 ((w64 (2*s0.1))+1)),(List.set (List.set s0.2 (w64 (d+s0.1)).toNat x1) (w64 (d+(w64 ((w64 (2*s0.1))+1)))).toNat x8)))
    else
     some (.inr (.inr s0.2))
  else
   (Zx s0.2 (w64 (d+s0.1))).bind fun x11=>
   (Zx s0.2 (w64 (d+(w64 ((w64 (2*s0.1))+1))))).bind fun x12=>
   (e x11 x12).bind fun x13=>
   bif (decide (x13<0)) then
    (Zx (List.set s0.2 (w64 (d+s0.1)).toNat x12) (w64 (d+(w64 ((w64 (2*s0.1))+1))))).bind fun x14=>
    some (.inl ((w64 ((w64 (2*s0.1))+1)),(List.set (List.set s0.2 (w64 (d+s0.1)).toNat x12) (w64 (d+(w64 ((w64 (2*s0.1))+1)))).toNat x11)))
   else
    some (.inr (.inr s0.2))
def ZaS (b:Int) (c:Int) (d:Int) (e:(Int→Int→Option Int)) (m0_0:List Int):Option (List Int):=
 (lp (ZR c d e) (b,m0_0)).bind fun r15=>
 match r15 with
 | (.inl r15)=>
  some r15
 | (.inr r15)=>
  some r15
def ZaO (b:Int) (c:Int) (d:(Int→Int→Option Int)) (s0:Int×(List Int)):Option ((Int×(List Int))⊕(List Int)):=
 bif (decide (0≤s0.1)) then
  (ZaS s0.1 (w64 (c-b)) b d s0.2).bind fun x1=>
  some (.inl ((w64 (s0.1-1)),x1))
 else
  some (.inr s0.2)
def ZaR (b:Int) (d:(Int→Int→Option Int)) (s3:Int×(List Int)):Option ((Int×(List Int))⊕(List Int)):=
 bif (decide (0≤s3.1)) then
  (Zx s3.2 (w64 (b+s3.1))).bind fun x4=>
  (Zx s3.2 b).bind fun x5=>
  (Zx (List.set s3.2 b.toNat x4) (w64 (b+s3.1))).bind fun x6=>
  (ZaS 0 s3.1 b d (List.set (List.set s3.2 b.toNat x4) (w64 (b+s3.1)).toNat x5)).bind fun x7=>
  some (.inl ((w64 (s3.1-1)),x7))
 else
  some (.inr s3.2)
def Zal (b:Int) (c:Int) (d:(Int→Int→Option Int)) (m0_0:List Int):Option (List Int):=
 (lp (ZaO b c d) ((w64 (Int.tdiv (w64 ((w64 (c-b))-1)) 2)),m0_0)).bind fun r2=>
 (lp (ZaR b d) ((w64 ((w64 (c-b))-1)),r2)).bind fun r8=>
 some r8
def Za7 (b:Int) (c:Int) (e:(Int→Int→Option Int)) (m0_0:List Int) (m1_0:Int):Option (Int×Int×Int):=
 (Zx m0_0 c).bind fun x0=>
 (Zx m0_0 b).bind fun x1=>
 (e x0 x1).bind fun x2=>
 bif (decide (x2<0)) then
  some (c,b,(w64 (m1_0+1)))
 else
  some (b,c,m1_0)
def Za6 (b:Int) (c:Int) (d:Int) (f:(Int→Int→Option Int)) (m0_0:List Int) (m1_0:Int):Option (Int×Int):=
 (Za7 b c f m0_0 m1_0).bind fun x0=>
 (Za7 x0.2.1 d f m0_0 x0.2.2).bind fun x1=>
 (Za7 x0.1 x1.1 f m0_0 x1.2.2).bind fun x2=>
 some (x2.2.1,x2.2.2)
def Zag (b:Int) (d:(Int→Int→Option Int)) (m0_0:List Int) (m1_0:Int):Option (Int×Int):=
 (Za6 (w64 (b-1)) b (w64 (b+1)) d m0_0 m1_0).bind fun x0=>
 some (x0.1,x0.2)
def ZY (b:Int) (c:Int) (d:(Int→Int→Option Int)) (m0_0:List Int):Option (Int×Int):=
 bif (decide (8≤(w64 (c-b)))) then
  bif (decide (50≤(w64 (c-b)))) then
   (Zag (w64 (b+(w64 ((w64 (Int.tdiv (w64 (c-b)) 4))*1)))) d m0_0 0).bind fun x0=>
   (Zag (w64 (b+(w64 ((w64 (Int.tdiv (w64 (c-b)) 4))*2)))) d m0_0 x0.2).bind fun x1=>
   (Zag (w64 (b+(w64 ((w64 (Int.tdiv (w64 (c-b)) 4))*3)))) d m0_0 x1.2).bind fun x2=>
   (Za6 x0.1 x1.1 x2.1 d m0_0 x2.2).bind fun x3=>
   bif (x3.2==0) then
    some (x3.1,1)
   else
    bif (x3.2==12) then
     some (x3.1,2)
    else
     some (x3.1,0)
  else
   (Za6 (w64 (b+(w64 ((w64 (Int.tdiv (w64 (c-b)) 4))*1)))) (w64 (b+(w64 ((w64 (Int.tdiv (w64 (c-b)) 4))*2)))) (w64 (b+(w64 ((w64 (Int.tdiv (w64 (c-b)) 4))*3)))) d m0_0 0).bind fun x4=>
   bif (x4.2==0) then
    some (x4.1,1)
   else
    bif (x4.2==12) then
     some (x4.1,2)
    else
     some (x4.1,0)
 else
  some ((w64 (b+(w64 ((w64 (Int.tdiv (w64 (c-b)) 4))*2)))),1)
def Zad (s0:Int×Int×(List Int)):Option ((Int×Int×(List Int))⊕(List Int)):=
 bif (decide (s0.1<s0.2.1)) then
  (Zx s0.2.2 s0.2.1).bind fun x1=>
  (Zx s0.2.2 s0.1).bind fun x2=>
  (Zx (List.set s0.2.2 s0.1.toNat x1) s0.2.1).bind fun x3=>
  some (.inl ((w64 (s0.1+1)),(w64 (s0.2.1-1)),(List.set (List.set s0.2.2 s0.1.toNat x1) s0.2.1.toNat x2)))
 else
  some (.inr s0.2.2)
def ZT (b:Int) (c:Int) (d:(Int→Int→Option Int)) (m0_0:List Int):Option (List Int):=
 (lp (Zad) (b,(w64 (c-1)),m0_0)).bind fun r4=>
 some r4
def ZO (c:Int) (d:(Int→Int→Option Int)) (s0:Int×Int×(List Int)) (s1:Int):Option (Int⊕Int):=
 bif (decide (s1<c)) then
  (Zx s0.2.2 s1).bind fun x2=>
  (Zx s0.2.2 (w64 (s1-1))).bind fun x3=>
  (d x2 x3).bind fun x4=>
  bif (decide (x4<0)) then
   some (.inr s1)
  else
   some (.inl (w64 (s1+1)))
 else
  some (.inr s1)
def ZX (d:(Int→Int→Option Int)) (s9:Int×(List Int)):Option ((Int×(List Int))⊕(List Int)):=
 bif (decide (1≤s9.1)) then
  (Zx s9.2 s9.1).bind fun x10=>
  (Zx s9.2 (w64 (s9.1-1))).bind fun x11=>
  (d x10 x11).bind fun x12=>
  bif (decide (x12<0)) then
   (Zx (List.set s9.2 s9.1.toNat x11) (w64 (s9.1-1))).bind fun x13=>
   some (.inl ((w64 (s9.1-1)),(List.set (List.set s9.2 s9.1.toNat x11) (w64 (s9.1-1)).toNat x10)))
  else
   some (.inr s9.2)
 else
  some (.inr s9.2)
def ZL (c:Int) (d:(Int→Int→Option Int)) (s15:Int×(List Int)):Option ((Int×(List Int))⊕(List Int)):=
 bif (decide (s15.1<c)) then
  (Zx s15.2 s15.1).bind fun x16=>
  (Zx s15.2 (w64 (s15.1-1))).bind fun x17=>
  (d x16 x17).bind fun x18=>
  bif (decide (x18<0)) then
   (Zx (List.set s15.2 s15.1.toNat x17) (w64 (s15.1-1))).bind fun x19=>
   some (.inl ((w64 (s15.1+1)),(List.set (List.set s15.2 s15.1.toNat x17) (w64 (s15.1-1)).toNat x16)))
  else
   some (.inr s15.2)
 else
  some (.inr s15.2)
def ZW (b:Int) (c:Int) (d:(Int→Int→Option Int)) (s0:Int×Int×(List Int)):Option ((Int×Int×(List Int))⊕((List Int)⊕((List Int)⊕(List Int)))):=
 bif (decide (s0.2.1<5)) then
  (lp (ZO c d s0) s0.1).bind fun r5=>
  bif (r5==c) then
   some (.inr (.inl s0.2.2))
  else
   bif (decide ((w64 (c-b))<50)) then
    some (.inr (.inr (.inl s0.2.2)))
   else
    (Zx s0.2.2 (w64 (r5-1))).bind fun x6=>
    (Zx s0.2.2 r5).bind fun x7=>
    (Zx (List.set s0.2.2 r5.toNat x6) (w64 (r5-1))).bind fun x8=>
    bif (decide (2≤(w64 (r5-b)))) then
     (lp (ZX d) ((w64 (r5-1)),(List.set (List.set s0.2.2 r5.toNat x6) (w64 (r5-1)).toNat x7))).bind fun r14=>
     bif (decide (2≤(w64 (c-r5)))) then
      (lp (ZL c d) ((w64 (r5+1)),r14)).bind fun r20=>
      some (.inl (r5,(w64 (s0.2.1+1)),r20))
     else
      some (.inl (r5,(w64 (s0.2.1+1)),r14))
    else
     bif (decide (2≤(w64 (c-r5)))) then
      (lp (ZL c d) ((w64 (r5+1)),(List.set (List.set s0.2.2 r5.toNat x6) (w64 (r5-1)).toNat x7))).bind fun r26=>
      some (.inl (r5,(w64 (s0.2.1+1)),r26))
     else
      some (.inl (r5,(w64 (s0.2.1+1)),(List.set (List.set s0.2.2 r5.toNat x6) (w64 (r5-1)).toNat x7)))
 else
  some (.inr (.inr (.inr s0.2.2)))
def ZU (b:Int) (c:Int) (d:(Int→Int→Option Int)) (m0_0:List Int):Option ((List Int)⊕(List Int)):=
 (lp (ZW b c d) ((w64 (b+1)),0,m0_0)).bind fun r27=>
 match r27 with
 | (.inl r27)=>
  some (.inl r27)
 | (.inr (.inl r27))=>
  some (.inr r27)
 | (.inr (.inr r27))=>
  some (.inr r27)
def ZaK (b:Int) (c:Int) (d:Int) (m0_0:List Int) (e:(Int→Int→Option Int)) (x0:Int) (x1:Int) (s3:Int):Option (Int⊕Int):=
 bif (decide (s3≤(w64 (c-1)))) then
  (Zx (List.set (List.set m0_0 b.toNat x0) d.toNat x1) s3).bind fun x4=>
  (Zx (List.set (List.set m0_0 b.toNat x0) d.toNat x1) b).bind fun x5=>
  (e x4 x5).bind fun x6=>
  bif (decide (x6<0)) then
   some (.inl (w64 (s3+1)))
  else
   some (.inr s3)
 else
  some (.inr s3)
def ZaI (b:Int) (d:Int) (m0_0:List Int) (e:(Int→Int→Option Int)) (x0:Int) (x1:Int) (r7:Int) (s8:Int):Option (Int⊕Int):=
 bif (decide (r7≤s8)) then
  (Zx (List.set (List.set m0_0 b.toNat x0) d.toNat x1) s8).bind fun x9=>
  (Zx (List.set (List.set m0_0 b.toNat x0) d.toNat x1) b).bind fun x10=>
  (e x9 x10).bind fun x11=>
  bif (decide (x11<0)) then
   some (.inr s8)
  else
   some (.inl (w64 (s8-1)))
 else
  some (.inr s8)
def ZaL (b:Int) (e:(Int→Int→Option Int)) (s19:Int×Int×(List Int)) (s20:Int):Option (Int⊕Int):=
 bif (decide (s20≤s19.2.1)) then
  (Zx s19.2.2 s20).bind fun x21=>
  (Zx s19.2.2 b).bind fun x22=>
  (e x21 x22).bind fun x23=>
  bif (decide (x23<0)) then
   some (.inl (w64 (s20+1)))
  else
   some (.inr s20)
 else
  some (.inr s20)
def ZaG (b:Int) (e:(Int→Int→Option Int)) (s19:Int×Int×(List Int)) (r24:Int) (s25:Int):Option (Int⊕Int):=
 bif (decide (r24≤s25)) then
  (Zx s19.2.2 s25).bind fun x26=>
  (Zx s19.2.2 b).bind fun x27=>
  (e x26 x27).bind fun x28=>
  bif (decide (x28<0)) then
   some (.inr s25)
  else
   some (.inl (w64 (s25-1)))
 else
  some (.inr s25)
def Za8 (b:Int) (e:(Int→Int→Option Int)) (s19:Int×Int×(List Int)):Option ((Int×Int×(List Int))⊕(Int×(List Int))):=
 (lp (ZaL b e s19) s19.1).bind fun r24=>
 (lp (ZaG b e s19 r24) s19.2.1).bind fun r29=>
 bif (decide (r29<r24)) then
  some (.inr (r29,s19.2.2))
 else
  (Zx s19.2.2 r29).bind fun x30=>
  (Zx s19.2.2 r24).bind fun x31=>
  (Zx (List.set s19.2.2 r24.toNat x30) r29).bind fun x32=>
  some (.inl ((w64 (r24+1)),(w64 (r29-1)),(List.set (List.set s19.2.2 r24.toNat x30) r29.toNat x31)))
def Zu (b:Int) (c:Int) (d:Int) (e:(Int→Int→Option Int)) (m0_0:List Int):Option ((Int×(List Int))⊕(Int×(List Int))):=
 (Zx m0_0 d).bind fun x0=>
 (Zx m0_0 b).bind fun x1=>
 (Zx (List.set m0_0 b.toNat x0) d).bind fun x2=>
 (lp (ZaK b c d m0_0 e x0 x1) (w64 (b+1))).bind fun r7=>
 (lp (ZaI b d m0_0 e x0 x1 r7) (w64 (c-1))).bind fun r12=>
 bif (decide (r12<r7)) then
  (Zx (List.set (List.set m0_0 b.toNat x0) d.toNat x1) b).bind fun x13=>
  (Zx (List.set (List.set m0_0 b.toNat x0) d.toNat x1) r12).bind fun x14=>
  (Zx (List.set (List.set (List.set m0_0 b.toNat x0) d.toNat x1) r12.toNat x13) b).bind fun x15=>
  some (.inl (r12,(List.set (List.set (List.set (List.set m0_0 b.toNat x0) d.toNat x1) r12.toNat x13) b.toNat x14)))
 else
  (Zx (List.set (List.set m0_0 b.toNat x0) d.toNat x1) r12).bind fun x16=>
  (Zx (List.set (List.set m0_0 b.toNat x0) d.toNat x1) r7).bind fun x17=>
  (Zx (List.set (List.set (List.set m0_0 b.toNat x0) d.toNat x1) r7.toNat x16) r12).bind fun x18=>
  (lp (Za8 b e) ((w64 (r7+1)),(w64 (r12-1)),(List.set (List.set (List.set (List.set m0_0 b.toNat x0) d.toNat x1) r7.toNat x16) r12.toNat x17))).bind fun r33=>
  (Zx r33.2 b).bind fun x34=>
  (Zx r33.2 r33.1).bind fun x35=>
  (Zx (List.set r33.2 r33.1.toNat x34) b).bind fun x36=>
  some (.inr (r33.1,(List.set (List.set r33.2 r33.1.toNat x34) b.toNat x35)))
def Zaj (b:Int) (e:(Int→Int→Option Int)) (s3:Int×Int×(List Int)) (s4:Int):Option (Int⊕Int):=
 bif (decide (s4≤s3.2.1)) then
  (Zx s3.2.2 b).bind fun x5=>
  (Zx s3.2.2 s4).bind fun x6=>
  (e x5 x6).bind fun x7=>
  bif (decide (x7<0)) then
   some (.inr s4)
  else
   some (.inl (w64 (s4+1)))
 else
  some (.inr s4)
def Zak (b:Int) (e:(Int→Int→Option Int)) (s3:Int×Int×(List Int)) (r8:Int) (s9:Int):Option (Int⊕Int):=
 bif (decide (r8≤s9)) then
  (Zx s3.2.2 b).bind fun x10=>
  (Zx s3.2.2 s9).bind fun x11=>
  (e x10 x11).bind fun x12=>
  bif (decide (x12<0)) then
   some (.inl (w64 (s9-1)))
  else
   some (.inr s9)
 else
  some (.inr s9)
def Zax (b:Int) (e:(Int→Int→Option Int)) (s3:Int×Int×(List Int)):Option ((Int×Int×(List Int))⊕(Int×(List Int))):=
 (lp (Zaj b e s3) s3.1).bind fun r8=>
 (lp (Zak b e s3 r8) s3.2.1).bind fun r13=>
 bif (decide (r13<r8)) then
  some (.inr (r8,s3.2.2))
 else
  (Zx s3.2.2 r13).bind fun x14=>
  (Zx s3.2.2 r8).bind fun x15=>
  (Zx (List.set s3.2.2 r8.toNat x14) r13).bind fun x16=>
  some (.inl ((w64 (r8+1)),(w64 (r13-1)),(List.set (List.set s3.2.2 r8.toNat x14) r13.toNat x15)))
def ZF (b:Int) (c:Int) (d:Int) (e:(Int→Int→Option Int)) (m0_0:List Int):Option (Int×(List Int)):=
 (Zx m0_0 d).bind fun x0=>
 (Zx m0_0 b).bind fun x1=>
 (Zx (List.set m0_0 b.toNat x0) d).bind fun x2=>
 (lp (Zax b e) ((w64 (b+1)),(w64 (c-1)),(List.set (List.set m0_0 b.toNat x0) d.toNat x1))).bind fun r17=>
 some (r17.1,r17.2)
def ZcE (a:Int):Option Int:=
 (ZeY (u64.wrap a)).bind fun x0=>
 bif (decide (x0<0)) then
  none
 else
  some (u64.wrap (1*2 ^ (min (x0).toNat u64.bits)))
def ZdM:Option Unit:=
 some ()
def ZaF (b:Int) (c:Int) (x0:Int) (s1:Int×(List Int)×Int):Option ((Int×(List Int)×Int)⊕(List Int)):=
 bif (decide (s1.1≤(w64 ((w64 (b+(w64 ((w64 (Int.tdiv (w64 (c-b)) 4))*2))))+1)))) then
  ZdM.bind fun x2=>
  bif (decide ((w64 (c-b))≤(w64 (u64.wrap (Zi (u64.wrap (Zi (u64.wrap (Zi (u64.wrap (Zi s1.2.2 ^^^ Zi (u64.wrap (s1.2.2*2 ^ 13))).toNat) ^^^ Zi (Int.fdiv (u64.wrap (Zi s1.2.2 ^^^ Zi (u64.wrap (s1.2.2*2 ^ 13))).toNat) (2 ^ 7))).toNat) ^^^ Zi (u64.wrap ((u64.wrap (Zi (u64.wrap (Zi s1.2.2 ^^^ Zi (u64.wrap (s1.2.2*2 ^ 13))).toNat) ^^^ Zi (Int.fdiv (u64.wrap (Zi s1.2.2 ^^^ Zi (u64.wrap (s1.2.2*2 ^ 13))).toNat) (2 ^ 7))).toNat)*2 ^ 17))).toNat) &&& Zi (u64.wrap (x0-1))).toNat)))) then
   (Zx s1.2.1 (w64 (b+(w64 ((w64 (u64.wrap (Zi (u64.wrap (Zi (u64.wrap (Zi (u64.wrap (Zi s1.2.2 ^^^ Zi (u64.wrap (s1.2.2*2 ^ 13))).toNat) ^^^ Zi (Int.fdiv (u64.wrap (Zi s1.2.2 ^^^ Zi (u64.wrap (s1.2.2*2 ^ 13))).toNat) (2 ^ 7))).toNat) ^^^ Zi (u64.wrap ((u64.wrap (Zi (u64.wrap (Zi s1.2.2 ^^^ Zi (u64.wrap (s1.2.2*2 ^ 13))).toNat) ^^^ Zi (Int.fdiv (u64.wrap (Zi s1.2.2 ^^^ Zi (u64.wrap (s1.2.2*2 ^ 13))).toNat) (2 ^ 7))).toNat)*2 ^ 17))).toNat) &&& Zi (u64.wrap (x0-1))).toNat))-(w64 (c-b))))))).bind fun x3=>
   (Zx s1.2.1 s1.1).bind fun x4=>
   (Zx (List.set s1.2.1 s1.1.toNat x3) (w64 (b+(w64 ((w64 (u64.wrap (Zi (u64.wrap (Zi (u64.wrap (Zi (u64.wrap (Zi s1.2.2 ^^^ Zi (u64.wrap (s1.2.2*2 ^ 13))).toNat) ^^^ Zi (Int.fdiv (u64.wrap (Zi s1.2.2 ^^^ Zi (u64.wrap (s1.2.2*2 ^ 13))).toNat) (2 ^ 7))).toNat) ^^^ Zi (u64.wrap ((u64.wrap (Zi (u64.wrap (Zi s1.2.2 ^^^ Zi (u64.wrap (s1.2.2*2 ^ 13))).toNat) ^^^ Zi (Int.fdiv (u64.wrap (Zi s1.2.2 ^^^ Zi (u64.wrap (s1.2.2*2 ^ 13))).toNat) (2 ^ 7))).toNat)*2 ^ 17))).toNat) &&& Zi (u64.wrap (x0-1))).toNat))-(w64 (c-b))))))).bind fun x5=>
   some (.inl ((w64 (s1.1+1)),(List.set (List.set s1.2.1 s1.1.toNat x3) (w64 (b+(w64 ((w64 (u64.wrap (Zi (u64.wrap (Zi (u64.wrap (Zi (u64.wrap (Zi s1.2.2 ^^^ Zi (u64.wrap (s1.2.2*2 ^ 13))).toNat) ^^^ Zi (Int.fdiv (u64.wrap (Zi s1.2.2 ^^^ Zi (u64.wrap (s1.2.2*2 ^ 13))).toNat) (2 ^ 7))).toNat) ^^^ Zi (u64.wrap ((u64.wrap (Zi (u64.wrap (Zi s1.2.2 ^^^ Zi (u64.wrap (s1.2.2*2 ^ 13))).toNat) ^^^ Zi (Int.fdiv (u64.wrap (Zi s1.2.2 ^^^ Zi (u64.wrap (s1.2.2*2 ^ 13))).toNat) (2 ^ 7))).toNat)*2 ^ 17))).toNat) &&& Zi (u64.wrap (x0-1))).toNat))-(w64 (c-b)))))).toNat x4),(u64.wrap (Zi (u64.wrap (Zi (u64.wrap (Zi s1.2.2 ^^^ Zi (u64.wrap (s1.2.2*2 ^ 13))).toNat) ^^^ Zi (Int.fdiv (u64.wrap (Zi s1.2.2 ^^^ Zi (u64.wrap (s1.2.2*2 ^ 13))).toNat) (2 ^ 7))).toNat) ^^^ Zi (u64.wrap ((u64.wrap (Zi (u64.wrap (Zi s1.2.2 ^^^ Zi (u64.wrap (s1.2.2*2 ^ 13))).toNat) ^^^ Zi (Int.fdiv (u64.wrap (Zi s1.2.2 ^^^ Zi (u64.wrap (s1.2.2*2 ^ 13))).toNat) (2 ^ 7))).toNat)*2 ^ 17))).toNat)))
  else
   (Zx s1.2.1 (w64 (b+(w64 (u64.wrap (Zi (u64.wrap (Zi (u64.wrap (Zi (u64.wrap (Zi s1.2.2 ^^^ Zi (u64.wrap (s1.2.2*2 ^ 13))).toNat) ^^^ Zi (Int.fdiv (u64.wrap (Zi s1.2.2 ^^^ Zi (u64.wrap (s1.2.2*2 ^ 13))).toNat) (2 ^ 7))).toNat) ^^^ Zi (u64.wrap ((u64.wrap (Zi (u64.wrap (Zi s1.2.2 ^^^ Zi (u64.wrap (s1.2.2*2 ^ 13))).toNat) ^^^ Zi (Int.fdiv (u64.wrap (Zi s1.2.2 ^^^ Zi (u64.wrap (s1.2.2*2 ^ 13))).toNat) (2 ^ 7))).toNat)*2 ^ 17))).toNat) &&& Zi (u64.wrap (x0-1))).toNat))))).bind fun x6=>
   (Zx s1.2.1 s1.1).bind fun x7=>
   (Zx (List.set s1.2.1 s1.1.toNat x6) (w64 (b+(w64 (u64.wrap (Zi (u64.wrap (Zi (u64.wrap (Zi (u64.wrap (Zi s1.2.2 ^^^ Zi (u64.wrap (s1.2.2*2 ^ 13))).toNat) ^^^ Zi (Int.fdiv (u64.wrap (Zi s1.2.2 ^^^ Zi (u64.wrap (s1.2.2*2 ^ 13))).toNat) (2 ^ 7))).toNat) ^^^ Zi (u64.wrap ((u64.wrap (Zi (u64.wrap (Zi s1.2.2 ^^^ Zi (u64.wrap (s1.2.2*2 ^ 13))).toNat) ^^^ Zi (Int.fdiv (u64.wrap (Zi s1.2.2 ^^^ Zi (u64.wrap (s1.2.2*2 ^ 13))).toNat) (2 ^ 7))).toNat)*2 ^ 17))).toNat) &&& Zi (u64.wrap (x0-1))).toNat))))).bind fun x8=>
   some (.inl ((w64 (s1.1+1)),(List.set (List.set s1.2.1 s1.1.toNat x6) (w64 (b+(w64 (u64.wrap (Zi (u64.wrap (Zi (u64.wrap (Zi (u64.wrap (Zi s1.2.2 ^^^ Zi (u64.wrap (s1.2.2*2 ^ 13))).toNat) ^^^ Zi (Int.fdiv (u64.wrap (Zi s1.2.2 ^^^ Zi (u64.wrap (s1.2.2*2 ^ 13))).toNat) (2 ^ 7))).toNat) ^^^ Zi (u64.wrap ((u64.wrap (Zi (u64.wrap (Zi s1.2.2 ^^^ Zi (u64.wrap (s1.2.2*2 ^ 13))).toNat) ^^^ Zi (Int.fdiv (u64.wrap (Zi s1.2.2 ^^^ Zi (u64.wrap (s1.2.2*2 ^ 13))).toNat) (2 ^ 7))).toNat)*2 ^ 17))).toNat) &&& Zi (u64.wrap (x0-1))).toNat)))).toNat x7),(u64.wrap (Zi (u64.wrap (Zi (u64.wrap (Zi s1.2.2 ^^^ Zi (u64.wrap (s1.2.2*2 ^ 13))).toNat) ^^^ Zi (Int.fdiv (u64.wrap (Zi s1.2.2 ^^^ Zi (u64.wrap (s1.2.2*2 ^ 13))).toNat) (2 ^ 7))).toNat) ^^^ Zi (u64.wrap ((u64.wrap (Zi (u64.wrap (Zi s1.2.2 ^^^ Zi (u64.wrap (s1.2.2*2 ^ 13))).toNat) ^^^ Zi (Int.fdiv (u64.wrap (Zi s1.2.2 ^^^ Zi (u64.wrap (s1.2.2*2 ^ 13))).toNat) (2 ^ 7))).toNat)*2 ^ 17))).toNat)))
 else
  some (.inr s1.2.1)
def Zan (b:Int) (c:Int) (d:(Int→Int→Option Int)) (m0_0:List Int):Option (List Int):=
 bif (decide (8≤(w64 (c-b)))) then
  (ZcE (w64 (c-b))).bind fun x0=>
  (lp (ZaF b c x0) ((w64 ((w64 (b+(w64 ((w64 (Int.tdiv (w64 (c-b)) 4))*2))))-1)),m0_0,(u64.wrap (w64 (c-b))))).bind fun r9=>
  some r9
 else
  some m0_0
def Z0 (e:(Int→Int→Option Int)) (rc:Int→Int→Int→(Int→Int→Option Int)→(List Int)→Option (List Int)) (s0:Int×Int×Int×Bool×Bool×(List Int)):Option ((Int×Int×Int×Bool×Bool×(List Int))⊕(List Int)):=
 bif s0.2.2.2.1 then
  bif s0.2.2.2.2.1 then
   bif (decide ((w64 (s0.2.1-s0.1))≤12)) then
    (Z7 s0.1 s0.2.1 e s0.2.2.2.2.2).bind fun x1=>
    some (.inr x1)
   else
    bif (s0.2.2.1==0) then
     (Zal s0.1 s0.2.1 e s0.2.2.2.2.2).bind fun x2=>
     some (.inr x2)
    else
     (ZY s0.1 s0.2.1 e s0.2.2.2.2.2).bind fun x3=>
     bif (x3.2==2) then
      (ZT s0.1 s0.2.1 e s0.2.2.2.2.2).bind fun x4=>
      (ZU s0.1 s0.2.1 e x4).bind fun x5=>
      match x5 with
      | (.inl x5)=>
       some (.inr x5)
      | (.inr x5)=>
       bif (decide (0<s0.1)) then
        (Zx x5 (w64 (s0.1-1))).bind fun x6=>
        (Zx x5 (w64 ((w64 (s0.2.1-1))-(w64 (x3.1-s0.1))))).bind fun x7=>
        (e x6 x7).bind fun x8=>
        bif (decide (x8<0)) then
         (Zu s0.1 s0.2.1 (w64 ((w64 (s0.2.1-1))-(w64 (x3.1-s0.1)))) e x5).bind fun x9=>
         match x9 with
         | (.inl x9)=>
          bif (decide ((w64 (x9.1-s0.1))<(w64 (s0.2.1-x9.1)))) then
           bif (decide ((w64 (Int.tdiv (w64 (s0.2.1-s0.1)) 8))≤(w64 (x9.1-s0.1)))) then
            (rc s0.1 x9.1 s0.2.2.1 e x9.2).bind fun x10=>
            some (.inl ((w64 (x9.1+1)),s0.2.1,s0.2.2.1,true,true,x10))
           else
            (rc s0.1 x9.1 s0.2.2.1 e x9.2).bind fun x11=>
            some (.inl ((w64 (x9.1+1)),s0.2.1,s0.2.2.1,false,true,x11))
          else
           bif (decide ((w64 (Int.tdiv (w64 (s0.2.1-s0.1)) 8))≤(w64 (s0.2.1-x9.1)))) then
            (rc (w64 (x9.1+1)) s0.2.1 s0.2.2.1 e x9.2).bind fun x12=>
            some (.inl (s0.1,x9.1,s0.2.2.1,true,true,x12))
           else
            (rc (w64 (x9.1+1)) s0.2.1 s0.2.2.1 e x9.2).bind fun x13=>
            some (.inl (s0.1,x9.1,s0.2.2.1,false,true,x13))
         | (.inr x9)=>
          bif (decide ((w64 (x9.1-s0.1))<(w64 (s0.2.1-x9.1)))) then
           bif (decide ((w64 (Int.tdiv (w64 (s0.2.1-s0.1)) 8))≤(w64 (x9.1-s0.1)))) then
            (rc s0.1 x9.1 s0.2.2.1 e x9.2).bind fun x14=>
            some (.inl ((w64 (x9.1+1)),s0.2.1,s0.2.2.1,true,false,x14))
           else
            (rc s0.1 x9.1 s0.2.2.1 e x9.2).bind fun x15=>
            some (.inl ((w64 (x9.1+1)),s0.2.1,s0.2.2.1,false,false,x15))
          else
           bif (decide ((w64 (Int.tdiv (w64 (s0.2.1-s0.1)) 8))≤(w64 (s0.2.1-x9.1)))) then
            (rc (w64 (x9.1+1)) s0.2.1 s0.2.2.1 e x9.2).bind fun x16=>
            some (.inl (s0.1,x9.1,s0.2.2.1,true,false,x16))
           else
            (rc (w64 (x9.1+1)) s0.2.1 s0.2.2.1 e x9.2).bind fun x17=>
            some (.inl (s0.1,x9.1,s0.2.2.1,false,false,x17))
        else
         (ZF s0.1 s0.2.1 (w64 ((w64 (s0.2.1-1))-(w64 (x3.1-s0.1)))) e x5).bind fun x18=>
         some (.inl (x18.1,s0.2.1,s0.2.2.1,true,true,x18.2))
       else
        (Zu s0.1 s0.2.1 (w64 ((w64 (s0.2.1-1))-(w64 (x3.1-s0.1)))) e x5).bind fun x19=>
        match x19 with
        | (.inl x19)=>
         bif (decide ((w64 (x19.1-s0.1))<(w64 (s0.2.1-x19.1)))) then
          bif (decide ((w64 (Int.tdiv (w64 (s0.2.1-s0.1)) 8))≤(w64 (x19.1-s0.1)))) then
           (rc s0.1 x19.1 s0.2.2.1 e x19.2).bind fun x20=>
           some (.inl ((w64 (x19.1+1)),s0.2.1,s0.2.2.1,true,true,x20))
          else
           (rc s0.1 x19.1 s0.2.2.1 e x19.2).bind fun x21=>
           some (.inl ((w64 (x19.1+1)),s0.2.1,s0.2.2.1,false,true,x21))
         else
          bif (decide ((w64 (Int.tdiv (w64 (s0.2.1-s0.1)) 8))≤(w64 (s0.2.1-x19.1)))) then
           (rc (w64 (x19.1+1)) s0.2.1 s0.2.2.1 e x19.2).bind fun x22=>
           some (.inl (s0.1,x19.1,s0.2.2.1,true,true,x22))
          else
           (rc (w64 (x19.1+1)) s0.2.1 s0.2.2.1 e x19.2).bind fun x23=>
           some (.inl (s0.1,x19.1,s0.2.2.1,false,true,x23))
        | (.inr x19)=>
         bif (decide ((w64 (x19.1-s0.1))<(w64 (s0.2.1-x19.1)))) then
          bif (decide ((w64 (Int.tdiv (w64 (s0.2.1-s0.1)) 8))≤(w64 (x19.1-s0.1)))) then
           (rc s0.1 x19.1 s0.2.2.1 e x19.2).bind fun x24=>
           some (.inl ((w64 (x19.1+1)),s0.2.1,s0.2.2.1,true,false,x24))
          else
           (rc s0.1 x19.1 s0.2.2.1 e x19.2).bind fun x25=>
           some (.inl ((w64 (x19.1+1)),s0.2.1,s0.2.2.1,false,false,x25))
         else
          bif (decide ((w64 (Int.tdiv (w64 (s0.2.1-s0.1)) 8))≤(w64 (s0.2.1-x19.1)))) then
           (rc (w64 (x19.1+1)) s0.2.1 s0.2.2.1 e x19.2).bind fun x26=>
           some (.inl (s0.1,x19.1,s0.2.2.1,true,false,x26))
          else
           (rc (w64 (x19.1+1)) s0.2.1 s0.2.2.1 e x19.2).bind fun x27=>
           some (.inl (s0.1,x19.1,s0.2.2.1,false,false,x27))
     else
      bif (x3.2==1) then
       (ZU s0.1 s0.2.1 e s0.2.2.2.2.2).bind fun x28=>
       match x28 with
       | (.inl x28)=>
        some (.inr x28)
       | (.inr x28)=>
        bif (decide (0<s0.1)) then
         (Zx x28 (w64 (s0.1-1))).bind fun x29=>
         (Zx x28 x3.1).bind fun x30=>
         (e x29 x30).bind fun x31=>
         bif (decide (x31<0)) then
          (Zu s0.1 s0.2.1 x3.1 e x28).bind fun x32=>
          match x32 with
          | (.inl x32)=>
           bif (decide ((w64 (x32.1-s0.1))<(w64 (s0.2.1-x32.1)))) then
            bif (decide ((w64 (Int.tdiv (w64 (s0.2.1-s0.1)) 8))≤(w64 (x32.1-s0.1)))) then
             (rc s0.1 x32.1 s0.2.2.1 e x32.2).bind fun x33=>
             some (.inl ((w64 (x32.1+1)),s0.2.1,s0.2.2.1,true,true,x33))
            else
             (rc s0.1 x32.1 s0.2.2.1 e x32.2).bind fun x34=>
             some (.inl ((w64 (x32.1+1)),s0.2.1,s0.2.2.1,false,true,x34))
           else
            bif (decide ((w64 (Int.tdiv (w64 (s0.2.1-s0.1)) 8))≤(w64 (s0.2.1-x32.1)))) then
             (rc (w64 (x32.1+1)) s0.2.1 s0.2.2.1 e x32.2).bind fun x35=>
             some (.inl (s0.1,x32.1,s0.2.2.1,true,true,x35))
            else
             (rc (w64 (x32.1+1)) s0.2.1 s0.2.2.1 e x32.2).bind fun x36=>
             some (.inl (s0.1,x32.1,s0.2.2.1,false,true,x36))
          | (.inr x32)=>
           bif (decide ((w64 (x32.1-s0.1))<(w64 (s0.2.1-x32.1)))) then
            bif (decide ((w64 (Int.tdiv (w64 (s0.2.1-s0.1)) 8))≤(w64 (x32.1-s0.1)))) then
             (rc s0.1 x32.1 s0.2.2.1 e x32.2).bind fun x37=>
             some (.inl ((w64 (x32.1+1)),s0.2.1,s0.2.2.1,true,false,x37))
            else
             (rc s0.1 x32.1 s0.2.2.1 e x32.2).bind fun x38=>
             some (.inl ((w64 (x32.1+1)),s0.2.1,s0.2.2.1,false,false,x38))
           else
            bif (decide ((w64 (Int.tdiv (w64 (s0.2.1-s0.1)) 8))≤(w64 (s0.2.1-x32.1)))) then
             (rc (w64 (x32.1+1)) s0.2.1 s0.2.2.1 e x32.2).bind fun x39=>
             some (.inl (s0.1,x32.1,s0.2.2.1,true,false,x39))
            else
             (rc (w64 (x32.1+1)) s0.2.1 s0.2.2.1 e x32.2).bind fun x40=>
             some (.inl (s0.1,x32.1,s0.2.2.1,false,false,x40))
         else
          (ZF s0.1 s0.2.1 x3.1 e x28).bind fun x41=>
          some (.inl (x41.1,s0.2.1,s0.2.2.1,true,true,x41.2))
        else
         (Zu s0.1 s0.2.1 x3.1 e x28).bind fun x42=>
         match x42 with
         | (.inl x42)=>
          bif (decide ((w64 (x42.1-s0.1))<(w64 (s0.2.1-x42.1)))) then
           bif (decide ((w64 (Int.tdiv (w64 (s0.2.1-s0.1)) 8))≤(w64 (x42.1-s0.1)))) then
            (rc s0.1 x42.1 s0.2.2.1 e x42.2).bind fun x43=>
            some (.inl ((w64 (x42.1+1)),s0.2.1,s0.2.2.1,true,true,x43))
           else
            (rc s0.1 x42.1 s0.2.2.1 e x42.2).bind fun x44=>
            some (.inl ((w64 (x42.1+1)),s0.2.1,s0.2.2.1,false,true,x44))
          else
           bif (decide ((w64 (Int.tdiv (w64 (s0.2.1-s0.1)) 8))≤(w64 (s0.2.1-x42.1)))) then
            (rc (w64 (x42.1+1)) s0.2.1 s0.2.2.1 e x42.2).bind fun x45=>
            some (.inl (s0.1,x42.1,s0.2.2.1,true,true,x45))
           else
            (rc (w64 (x42.1+1)) s0.2.1 s0.2.2.1 e x42.2).bind fun x46=>
            some (.inl (s0.1,x42.1,s0.2.2.1,false,true,x46))
         | (.inr x42)=>
          bif (decide ((w64 (x42.1-s0.1))<(w64 (s0.2.1-x42.1)))) then
           bif (decide ((w64 (Int.tdiv (w64 (s0.2.1-s0.1)) 8))≤(w64 (x42.1-s0.1)))) then
            (rc s0.1 x42.1 s0.2.2.1 e x42.2).bind fun x47=>
            some (.inl ((w64 (x42.1+1)),s0.2.1,s0.2.2.1,true,false,x47))
           else
            (rc s0.1 x42.1 s0.2.2.1 e x42.2).bind fun x48=>
            some (.inl ((w64 (x42.1+1)),s0.2.1,s0.2.2.1,false,false,x48))
          else
           bif (decide ((w64 (Int.tdiv (w64 (s0.2.1-s0.1)) 8))≤(w64 (s0.2.1-x42.1)))) then
            (rc (w64 (x42.1+1)) s0.2.1 s0.2.2.1 e x42.2).bind fun x49=>
            some (.inl (s0.1,x42.1,s0.2.2.1,true,false,x49))
           else
            (rc (w64 (x42.1+1)) s0.2.1 s0.2.2.1 e x42.2).bind fun x50=>
            some (.inl (s0.1,x42.1,s0.2.2.1,false,false,x50))
      else
       bif (decide (0<s0.1)) then
        (Zx s0.2.2.2.2.2 (w64 (s0.1-1))).bind fun x51=>
        (Zx s0.2.2.2.2.2 x3.1).bind fun x52=>
        (e x51 x52).bind fun x53=>
        bif (decide (x53<0)) then
         (Zu s0.1 s0.2.1 x3.1 e s0.2.2.2.2.2).bind fun x54=>
         match x54 with
         | (.inl x54)=>
          bif (decide ((w64 (x54.1-s0.1))<(w64 (s0.2.1-x54.1)))) then
           bif (decide ((w64 (Int.tdiv (w64 (s0.2.1-s0.1)) 8))≤(w64 (x54.1-s0.1)))) then
            (rc s0.1 x54.1 s0.2.2.1 e x54.2).bind fun x55=>
            some (.inl ((w64 (x54.1+1)),s0.2.1,s0.2.2.1,true,true,x55))
           else
            (rc s0.1 x54.1 s0.2.2.1 e x54.2).bind fun x56=>
            some (.inl ((w64 (x54.1+1)),s0.2.1,s0.2.2.1,false,true,x56))
          else
           bif (decide ((w64 (Int.tdiv (w64 (s0.2.1-s0.1)) 8))≤(w64 (s0.2.1-x54.1)))) then
            (rc (w64 (x54.1+1)) s0.2.1 s0.2.2.1 e x54.2).bind fun x57=>
            some (.inl (s0.1,x54.1,s0.2.2.1,true,true,x57))
           else
            (rc (w64 (x54.1+1)) s0.2.1 s0.2.2.1 e x54.2).bind fun x58=>
            some (.inl (s0.1,x54.1,s0.2.2.1,false,true,x58))
         | (.inr x54)=>
          bif (decide ((w64 (x54.1-s0.1))<(w64 (s0.2.1-x54.1)))) then
           bif (decide ((w64 (Int.tdiv (w64 (s0.2.1-s0.1)) 8))≤(w64 (x54.1-s0.1)))) then
            (rc s0.1 x54.1 s0.2.2.1 e x54.2).bind fun x59=>
            some (.inl ((w64 (x54.1+1)),s0.2.1,s0.2.2.1,true,false,x59))
           else
            (rc s0.1 x54.1 s0.2.2.1 e x54.2).bind fun x60=>
            some (.inl ((w64 (x54.1+1)),s0.2.1,s0.2.2.1,false,false,x60))
          else
           bif (decide ((w64 (Int.tdiv (w64 (s0.2.1-s0.1)) 8))≤(w64 (s0.2.1-x54.1)))) then
            (rc (w64 (x54.1+1)) s0.2.1 s0.2.2.1 e x54.2).bind fun x61=>
            some (.inl (s0.1,x54.1,s0.2.2.1,true,false,x61))
           else
            (rc (w64 (x54.1+1)) s0.2.1 s0.2.2.1 e x54.2).bind fun x62=>
            some (.inl (s0.1,x54.1,s0.2.2.1,false,false,x62))
        else
         (ZF s0.1 s0.2.1 x3.1 e s0.2.2.2.2.2).bind fun x63=>
         some (.inl (x63.1,s0.2.1,s0.2.2.1,true,true,x63.2))
       else
        (Zu s0.1 s0.2.1 x3.1 e s0.2.2.2.2.2).bind fun x64=>
        match x64 with
        | (.inl x64)=>
         bif (decide ((w64 (x64.1-s0.1))<(w64 (s0.2.1-x64.1)))) then
          bif (decide ((w64 (Int.tdiv (w64 (s0.2.1-s0.1)) 8))≤(w64 (x64.1-s0.1)))) then
           (rc s0.1 x64.1 s0.2.2.1 e x64.2).bind fun x65=>
           some (.inl ((w64 (x64.1+1)),s0.2.1,s0.2.2.1,true,true,x65))
          else
           (rc s0.1 x64.1 s0.2.2.1 e x64.2).bind fun x66=>
           some (.inl ((w64 (x64.1+1)),s0.2.1,s0.2.2.1,false,true,x66))
         else
          bif (decide ((w64 (Int.tdiv (w64 (s0.2.1-s0.1)) 8))≤(w64 (s0.2.1-x64.1)))) then
           (rc (w64 (x64.1+1)) s0.2.1 s0.2.2.1 e x64.2).bind fun x67=>
           some (.inl (s0.1,x64.1,s0.2.2.1,true,true,x67))
          else
           (rc (w64 (x64.1+1)) s0.2.1 s0.2.2.1 e x64.2).bind fun x68=>
           some (.inl (s0.1,x64.1,s0.2.2.1,false,true,x68))
        | (.inr x64)=>
         bif (decide ((w64 (x64.1-s0.1))<(w64 (s0.2.1-x64.1)))) then
          bif (decide ((w64 (Int.tdiv (w64 (s0.2.1-s0.1)) 8))≤(w64 (x64.1-s0.1)))) then
           (rc s0.1 x64.1 s0.2.2.1 e x64.2).bind fun x69=>
           some (.inl ((w64 (x64.1+1)),s0.2.1,s0.2.2.1,true,false,x69))
          else
           (rc s0.1 x64.1 s0.2.2.1 e x64.2).bind fun x70=>
           some (.inl ((w64 (x64.1+1)),s0.2.1,s0.2.2.1,false,false,x70))
         else
          bif (decide ((w64 (Int.tdiv (w64 (s0.2.1-s0.1)) 8))≤(w64 (s0.2.1-x64.1)))) then
           (rc (w64 (x64.1+1)) s0.2.1 s0.2.2.1 e x64.2).bind fun x71=>
           some (.inl (s0.1,x64.1,s0.2.2.1,true,false,x71))
          else
           (rc (w64 (x64.1+1)) s0.2.1 s0.2.2.1 e x64.2).bind fun x72=>
           some (.inl (s0.1,x64.1,s0.2.2.1,false,false,x72))
  else
   bif (decide ((w64 (s0.2.1-s0.1))≤12)) then
    (Z7 s0.1 s0.2.1 e s0.2.2.2.2.2).bind fun x73=>
    some (.inr x73)
   else
    bif (s0.2.2.1==0) then
     (Zal s0.1 s0.2.1 e s0.2.2.2.2.2).bind fun x74=>
     some (.inr x74)
    else
     (ZY s0.1 s0.2.1 e s0.2.2.2.2.2).bind fun x75=>
     bif (x75.2==2) then
      (ZT s0.1 s0.2.1 e s0.2.2.2.2.2).bind fun x76=>
      bif (decide (0<s0.1)) then
       (Zx x76 (w64 (s0.1-1))).bind fun x77=>
       (Zx x76 (w64 ((w64 (s0.2.1-1))-(w64 (x75.1-s0.1))))).bind fun x78=>
       (e x77 x78).bind fun x79=>
       bif (decide (x79<0)) then
        (Zu s0.1 s0.2.1 (w64 ((w64 (s0.2.1-1))-(w64 (x75.1-s0.1)))) e x76).bind fun x80=>
        match x80 with
        | (.inl x80)=>
         bif (decide ((w64 (x80.1-s0.1))<(w64 (s0.2.1-x80.1)))) then
          bif (decide ((w64 (Int.tdiv (w64 (s0.2.1-s0.1)) 8))≤(w64 (x80.1-s0.1)))) then
           (rc s0.1 x80.1 s0.2.2.1 e x80.2).bind fun x81=>
           some (.inl ((w64 (x80.1+1)),s0.2.1,s0.2.2.1,true,true,x81))
          else
           (rc s0.1 x80.1 s0.2.2.1 e x80.2).bind fun x82=>
           some (.inl ((w64 (x80.1+1)),s0.2.1,s0.2.2.1,false,true,x82))
         else
          bif (decide ((w64 (Int.tdiv (w64 (s0.2.1-s0.1)) 8))≤(w64 (s0.2.1-x80.1)))) then
           (rc (w64 (x80.1+1)) s0.2.1 s0.2.2.1 e x80.2).bind fun x83=>
           some (.inl (s0.1,x80.1,s0.2.2.1,true,true,x83))
          else
           (rc (w64 (x80.1+1)) s0.2.1 s0.2.2.1 e x80.2).bind fun x84=>
           some (.inl (s0.1,x80.1,s0.2.2.1,false,true,x84))
        | (.inr x80)=>
         bif (decide ((w64 (x80.1-s0.1))<(w64 (s0.2.1-x80.1)))) then
          bif (decide ((w64 (Int.tdiv (w64 (s0.2.1-s0.1)) 8))≤(w64 (x80.1-s0.1)))) then
           (rc s0.1 x80.1 s0.2.2.1 e x80.2).bind fun x85=>
           some (.inl ((w64 (x80.1+1)),s0.2.1,s0.2.2.1,true,false,x85))
          else
           (rc s0.1 x80.1 s0.2.2.1 e x80.2).bind fun x86=>
           some (.inl ((w64 (x80.1+1)),s0.2.1,s0.2.2.1,false,false,x86))
         else
          bif (decide ((w64 (Int.tdiv (w64 (s0.2.1-s0.1)) 8))≤(w64 (s0.2.1-x80.1)))) then
           (rc (w64 (x80.1+1)) s0.2.1 s0.2.2.1 e x80.2).bind fun x87=>
           some (.inl (s0.1,x80.1,s0.2.2.1,true,false,x87))
          else
           (rc (w64 (x80.1+1)) s0.2.1 s0.2.2.1 e x80.2).bind fun x88=>
           some (.inl (s0.1,x80.1,s0.2.2.1,false,false,x88))
       else
        (ZF s0.1 s0.2.1 (w64 ((w64 (s0.2.1-1))-(w64 (x75.1-s0.1)))) e x76).bind fun x89=>
        some (.inl (x89.1,s0.2.1,s0.2.2.1,true,false,x89.2))
      else
       (Zu s0.1 s0.2.1 (w64 ((w64 (s0.2.1-1))-(w64 (x75.1-s0.1)))) e x76).bind fun x90=>
       match x90 with
       | (.inl x90)=>
        bif (decide ((w64 (x90.1-s0.1))<(w64 (s0.2.1-x90.1)))) then
         bif (decide ((w64 (Int.tdiv (w64 (s0.2.1-s0.1)) 8))≤(w64 (x90.1-s0.1)))) then
          (rc s0.1 x90.1 s0.2.2.1 e x90.2).bind fun x91=>
          some (.inl ((w64 (x90.1+1)),s0.2.1,s0.2.2.1,true,true,x91))
         else
          (rc s0.1 x90.1 s0.2.2.1 e x90.2).bind fun x92=>
          some (.inl ((w64 (x90.1+1)),s0.2.1,s0.2.2.1,false,true,x92))
        else
         bif (decide ((w64 (Int.tdiv (w64 (s0.2.1-s0.1)) 8))≤(w64 (s0.2.1-x90.1)))) then
          (rc (w64 (x90.1+1)) s0.2.1 s0.2.2.1 e x90.2).bind fun x93=>
          some (.inl (s0.1,x90.1,s0.2.2.1,true,true,x93))
         else
          (rc (w64 (x90.1+1)) s0.2.1 s0.2.2.1 e x90.2).bind fun x94=>
          some (.inl (s0.1,x90.1,s0.2.2.1,false,true,x94))
       | (.inr x90)=>
        bif (decide ((w64 (x90.1-s0.1))<(w64 (s0.2.1-x90.1)))) then
         bif (decide ((w64 (Int.tdiv (w64 (s0.2.1-s0.1)) 8))≤(w64 (x90.1-s0.1)))) then
          (rc s0.1 x90.1 s0.2.2.1 e x90.2).bind fun x95=>
          some (.inl ((w64 (x90.1+1)),s0.2.1,s0.2.2.1,true,false,x95))
         else
          (rc s0.1 x90.1 s0.2.2.1 e x90.2).bind fun x96=>
          some (.inl ((w64 (x90.1+1)),s0.2.1,s0.2.2.1,false,false,x96))
        else
         bif (decide ((w64 (Int.tdiv (w64 (s0.2.1-s0.1)) 8))≤(w64 (s0.2.1-x90.1)))) then
          (rc (w64 (x90.1+1)) s0.2.1 s0.2.2.1 e x90.2).bind fun x97=>
          some (.inl (s0.1,x90.1,s0.2.2.1,true,false,x97))
         else
          (rc (w64 (x90.1+1)) s0.2.1 s0.2.2.1 e x90.2).bind fun x98=>
          some (.inl (s0.1,x90.1,s0.2.2.1,false,false,x98))
     else
      bif (decide (0<s0.1)) then
       (Zx s0.2.2.2.2.2 (w64 (s0.1-1))).bind fun x99=>
       (Zx s0.2.2.2.2.2 x75.1).bind fun x100=>
       (e x99 x100).bind fun x101=>
       bif (decide (x101<0)) then
        (Zu s0.1 s0.2.1 x75.1 e s0.2.2.2.2.2).bind fun x102=>
        match x102 with
        | (.inl x102)=>
         bif (decide ((w64 (x102.1-s0.1))<(w64 (s0.2.1-x102.1)))) then
          bif (decide ((w64 (Int.tdiv (w64 (s0.2.1-s0.1)) 8))≤(w64 (x102.1-s0.1)))) then
           (rc s0.1 x102.1 s0.2.2.1 e x102.2).bind fun x103=>
           some (.inl ((w64 (x102.1+1)),s0.2.1,s0.2.2.1,true,true,x103))
          else
           (rc s0.1 x102.1 s0.2.2.1 e x102.2).bind fun x104=>
           some (.inl ((w64 (x102.1+1)),s0.2.1,s0.2.2.1,false,true,x104))
         else
          bif (decide ((w64 (Int.tdiv (w64 (s0.2.1-s0.1)) 8))≤(w64 (s0.2.1-x102.1)))) then
           (rc (w64 (x102.1+1)) s0.2.1 s0.2.2.1 e x102.2).bind fun x105=>
           some (.inl (s0.1,x102.1,s0.2.2.1,true,true,x105))
          else
           (rc (w64 (x102.1+1)) s0.2.1 s0.2.2.1 e x102.2).bind fun x106=>
           some (.inl (s0.1,x102.1,s0.2.2.1,false,true,x106))
        | (.inr x102)=>
         bif (decide ((w64 (x102.1-s0.1))<(w64 (s0.2.1-x102.1)))) then
          bif (decide ((w64 (Int.tdiv (w64 (s0.2.1-s0.1)) 8))≤(w64 (x102.1-s0.1)))) then
           (rc s0.1 x102.1 s0.2.2.1 e x102.2).bind fun x107=>
           some (.inl ((w64 (x102.1+1)),s0.2.1,s0.2.2.1,true,false,x107))
          else
           (rc s0.1 x102.1 s0.2.2.1 e x102.2).bind fun x108=>
           some (.inl ((w64 (x102.1+1)),s0.2.1,s0.2.2.1,false,false,x108))
         else
          bif (decide ((w64 (Int.tdiv (w64 (s0.2.1-s0.1)) 8))≤(w64 (s0.2.1-x102.1)))) then
           (rc (w64 (x102.1+1)) s0.2.1 s0.2.2.1 e x102.2).bind fun x109=>
           some (.inl (s0.1,x102.1,s0.2.2.1,true,false,x109))
          else
           (rc (w64 (x102.1+1)) s0.2.1 s0.2.2.1 e x102.2).bind fun x110=>
           some (.inl (s0.1,x102.1,s0.2.2.1,false,false,x110))
       else
        (ZF s0.1 s0.2.1 x75.1 e s0.2.2.2.2.2).bind fun x111=>
        some (.inl (x111.1,s0.2.1,s0.2.2.1,true,false,x111.2))
      else
       (Zu s0.1 s0.2.1 x75.1 e s0.2.2.2.2.2).bind fun x112=>
       match x112 with
       | (.inl x112)=>
        bif (decide ((w64 (x112.1-s0.1))<(w64 (s0.2.1-x112.1)))) then
         bif (decide ((w64 (Int.tdiv (w64 (s0.2.1-s0.1)) 8))≤(w64 (x112.1-s0.1)))) then
          (rc s0.1 x112.1 s0.2.2.1 e x112.2).bind fun x113=>
          some (.inl ((w64 (x112.1+1)),s0.2.1,s0.2.2.1,true,true,x113))
         else
          (rc s0.1 x112.1 s0.2.2.1 e x112.2).bind fun x114=>
          some (.inl ((w64 (x112.1+1)),s0.2.1,s0.2.2.1,false,true,x114))
        else
         bif (decide ((w64 (Int.tdiv (w64 (s0.2.1-s0.1)) 8))≤(w64 (s0.2.1-x112.1)))) then
          (rc (w64 (x112.1+1)) s0.2.1 s0.2.2.1 e x112.2).bind fun x115=>
          some (.inl (s0.1,x112.1,s0.2.2.1,true,true,x115))
         else
          (rc (w64 (x112.1+1)) s0.2.1 s0.2.2.1 e x112.2).bind fun x116=>
          some (.inl (s0.1,x112.1,s0.2.2.1,false,true,x116))
       | (.inr x112)=>
        bif (decide ((w64 (x112.1-s0.1))<(w64 (s0.2.1-x112.1)))) then
         bif (decide ((w64 (Int.tdiv (w64 (s0.2.1-s0.1)) 8))≤(w64 (x112.1-s0.1)))) then
          (rc s0.1 x112.1 s0.2.2.1 e x112.2).bind fun x117=>
          some (.inl ((w64 (x112.1+1)),s0.2.1,s0.2.2.1,true,false,x117))
         else
          (rc s0.1 x112.1 s0.2.2.1 e x112.2).bind fun x118=>
          some (.inl ((w64 (x112.1+1)),s0.2.1,s0.2.2.1,false,false,x118))
        else
         bif (decide ((w64 (Int.tdiv (w64 (s0.2.1-s0.1)) 8))≤(w64 (s0.2.1-x112.1)))) then
          (rc (w64 (x112.1+1)) s0.2.1 s0.2.2.1 e x112.2).bind fun x119=>
          some (.inl (s0.1,x112.1,s0.2.2.1,true,false,x119))
         else
          (rc (w64 (x112.1+1)) s0.2.1 s0.2.2.1 e x112.2).bind fun x120=>
          some (.inl (s0.1,x112.1,s0.2.2.1,false,false,x120))
 else
  bif s0.2.2.2.2.1 then
   bif (decide ((w64 (s0.2.1-s0.1))≤12)) then
    (Z7 s0.1 s0.2.1 e s0.2.2.2.2.2).bind fun x121=>
    some (.inr x121)
   else
    bif (s0.2.2.1==0) then
     (Zal s0.1 s0.2.1 e s0.2.2.2.2.2).bind fun x122=>
     some (.inr x122)
    else
     (Zan s0.1 s0.2.1 e s0.2.2.2.2.2).bind fun x123=>
     (ZY s0.1 s0.2.1 e x123).bind fun x124=>
     bif (x124.2==2) then
      (ZT s0.1 s0.2.1 e x123).bind fun x125=>
      bif (decide (0<s0.1)) then
       (Zx x125 (w64 (s0.1-1))).bind fun x126=>
       (Zx x125 (w64 ((w64 (s0.2.1-1))-(w64 (x124.1-s0.1))))).bind fun x127=>
       (e x126 x127).bind fun x128=>
       bif (decide (x128<0)) then
        (Zu s0.1 s0.2.1 (w64 ((w64 (s0.2.1-1))-(w64 (x124.1-s0.1)))) e x125).bind fun x129=>
        match x129 with
        | (.inl x129)=>
         bif (decide ((w64 (x129.1-s0.1))<(w64 (s0.2.1-x129.1)))) then
          bif (decide ((w64 (Int.tdiv (w64 (s0.2.1-s0.1)) 8))≤(w64 (x129.1-s0.1)))) then
           (rc s0.1 x129.1 (w64 (s0.2.2.1-1)) e x129.2).bind fun x130=>
           some (.inl ((w64 (x129.1+1)),s0.2.1,(w64 (s0.2.2.1-1)),true,true,x130))
          else
           (rc s0.1 x129.1 (w64 (s0.2.2.1-1)) e x129.2).bind fun x131=>
           some (.inl ((w64 (x129.1+1)),s0.2.1,(w64 (s0.2.2.1-1)),false,true,x131))
         else
          bif (decide ((w64 (Int.tdiv (w64 (s0.2.1-s0.1)) 8))≤(w64 (s0.2.1-x129.1)))) then
           (rc (w64 (x129.1+1)) s0.2.1 (w64 (s0.2.2.1-1)) e x129.2).bind fun x132=>
           some (.inl (s0.1,x129.1,(w64 (s0.2.2.1-1)),true,true,x132))
          else
           (rc (w64 (x129.1+1)) s0.2.1 (w64 (s0.2.2.1-1)) e x129.2).bind fun x133=>
           some (.inl (s0.1,x129.1,(w64 (s0.2.2.1-1)),false,true,x133))
        | (.inr x129)=>
         bif (decide ((w64 (x129.1-s0.1))<(w64 (s0.2.1-x129.1)))) then
          bif (decide ((w64 (Int.tdiv (w64 (s0.2.1-s0.1)) 8))≤(w64 (x129.1-s0.1)))) then
           (rc s0.1 x129.1 (w64 (s0.2.2.1-1)) e x129.2).bind fun x134=>
           some (.inl ((w64 (x129.1+1)),s0.2.1,(w64 (s0.2.2.1-1)),true,false,x134))
          else
           (rc s0.1 x129.1 (w64 (s0.2.2.1-1)) e x129.2).bind fun x135=>
           some (.inl ((w64 (x129.1+1)),s0.2.1,(w64 (s0.2.2.1-1)),false,false,x135))
         else
          bif (decide ((w64 (Int.tdiv (w64 (s0.2.1-s0.1)) 8))≤(w64 (s0.2.1-x129.1)))) then
           (rc (w64 (x129.1+1)) s0.2.1 (w64 (s0.2.2.1-1)) e x129.2).bind fun x136=>
           some (.inl (s0.1,x129.1,(w64 (s0.2.2.1-1)),true,false,x136))
          else
           (rc (w64 (x129.1+1)) s0.2.1 (w64 (s0.2.2.1-1)) e x129.2).bind fun x137=>
           some (.inl (s0.1,x129.1,(w64 (s0.2.2.1-1)),false,false,x137))
       else
        (ZF s0.1 s0.2.1 (w64 ((w64 (s0.2.1-1))-(w64 (x124.1-s0.1)))) e x125).bind fun x138=>
        some (.inl (x138.1,s0.2.1,(w64 (s0.2.2.1-1)),false,true,x138.2))
      else
       (Zu s0.1 s0.2.1 (w64 ((w64 (s0.2.1-1))-(w64 (x124.1-s0.1)))) e x125).bind fun x139=>
       match x139 with
       | (.inl x139)=>
        bif (decide ((w64 (x139.1-s0.1))<(w64 (s0.2.1-x139.1)))) then
         bif (decide ((w64 (Int.tdiv (w64 (s0.2.1-s0.1)) 8))≤(w64 (x139.1-s0.1)))) then
          (rc s0.1 x139.1 (w64 (s0.2.2.1-1)) e x139.2).bind fun x140=>
          some (.inl ((w64 (x139.1+1)),s0.2.1,(w64 (s0.2.2.1-1)),true,true,x140))
         else
          (rc s0.1 x139.1 (w64 (s0.2.2.1-1)) e x139.2).bind fun x141=>
          some (.inl ((w64 (x139.1+1)),s0.2.1,(w64 (s0.2.2.1-1)),false,true,x141))
        else
         bif (decide ((w64 (Int.tdiv (w64 (s0.2.1-s0.1)) 8))≤(w64 (s0.2.1-x139.1)))) then
          (rc (w64 (x139.1+1)) s0.2.1 (w64 (s0.2.2.1-1)) e x139.2).bind fun x142=>
          some (.inl (s0.1,x139.1,(w64 (s0.2.2.1-1)),true,true,x142))
         else
          (rc (w64 (x139.1+1)) s0.2.1 (w64 (s0.2.2.1-1)) e x139.2).bind fun x143=>
          some (.inl (s0.1,x139.1,(w64 (s0.2.2.1-1)),false,true,x143))
       | (.inr x139)=>
        bif (decide ((w64 (x139.1-s0.1))<(w64 (s0.2.1-x139.1)))) then
         bif (decide ((w64 (Int.tdiv (w64 (s0.2.1-s0.1)) 8))≤(w64 (x139.1-s0.1)))) then
          (rc s0.1 x139.1 (w64 (s0.2.2.1-1)) e x139.2).bind fun x144=>
          some (.inl ((w64 (x139.1+1)),s0.2.1,(w64 (s0.2.2.1-1)),true,false,x144))
         else
          (rc s0.1 x139.1 (w64 (s0.2.2.1-1)) e x139.2).bind fun x145=>
          some (.inl ((w64 (x139.1+1)),s0.2.1,(w64 (s0.2.2.1-1)),false,false,x145))
        else
         bif (decide ((w64 (Int.tdiv (w64 (s0.2.1-s0.1)) 8))≤(w64 (s0.2.1-x139.1)))) then
          (rc (w64 (x139.1+1)) s0.2.1 (w64 (s0.2.2.1-1)) e x139.2).bind fun x146=>
          some (.inl (s0.1,x139.1,(w64 (s0.2.2.1-1)),true,false,x146))
         else
          (rc (w64 (x139.1+1)) s0.2.1 (w64 (s0.2.2.1-1)) e x139.2).bind fun x147=>
          some (.inl (s0.1,x139.1,(w64 (s0.2.2.1-1)),false,false,x147))
     else
      bif (decide (0<s0.1)) then
       (Zx x123 (w64 (s0.1-1))).bind fun x148=>
       (Zx x123 x124.1).bind fun x149=>
       (e x148 x149).bind fun x150=>
       bif (decide (x150<0)) then
        (Zu s0.1 s0.2.1 x124.1 e x123).bind fun x151=>
        match x151 with
        | (.inl x151)=>
         bif (decide ((w64 (x151.1-s0.1))<(w64 (s0.2.1-x151.1)))) then
          bif (decide ((w64 (Int.tdiv (w64 (s0.2.1-s0.1)) 8))≤(w64 (x151.1-s0.1)))) then
           (rc s0.1 x151.1 (w64 (s0.2.2.1-1)) e x151.2).bind fun x152=>
           some (.inl ((w64 (x151.1+1)),s0.2.1,(w64 (s0.2.2.1-1)),true,true,x152))
          else
           (rc s0.1 x151.1 (w64 (s0.2.2.1-1)) e x151.2).bind fun x153=>
           some (.inl ((w64 (x151.1+1)),s0.2.1,(w64 (s0.2.2.1-1)),false,true,x153))
         else
          bif (decide ((w64 (Int.tdiv (w64 (s0.2.1-s0.1)) 8))≤(w64 (s0.2.1-x151.1)))) then
           (rc (w64 (x151.1+1)) s0.2.1 (w64 (s0.2.2.1-1)) e x151.2).bind fun x154=>
           some (.inl (s0.1,x151.1,(w64 (s0.2.2.1-1)),true,true,x154))
          else
           (rc (w64 (x151.1+1)) s0.2.1 (w64 (s0.2.2.1-1)) e x151.2).bind fun x155=>
           some (.inl (s0.1,x151.1,(w64 (s0.2.2.1-1)),false,true,x155))
        | (.inr x151)=>
         bif (decide ((w64 (x151.1-s0.1))<(w64 (s0.2.1-x151.1)))) then
          bif (decide ((w64 (Int.tdiv (w64 (s0.2.1-s0.1)) 8))≤(w64 (x151.1-s0.1)))) then
           (rc s0.1 x151.1 (w64 (s0.2.2.1-1)) e x151.2).bind fun x156=>
           some (.inl ((w64 (x151.1+1)),s0.2.1,(w64 (s0.2.2.1-1)),true,false,x156))
          else
           (rc s0.1 x151.1 (w64 (s0.2.2.1-1)) e x151.2).bind fun x157=>
           some (.inl ((w64 (x151.1+1)),s0.2.1,(w64 (s0.2.2.1-1)),false,false,x157))
         else
          bif (decide ((w64 (Int.tdiv (w64 (s0.2.1-s0.1)) 8))≤(w64 (s0.2.1-x151.1)))) then
           (rc (w64 (x151.1+1)) s0.2.1 (w64 (s0.2.2.1-1)) e x151.2).bind fun x158=>
           some (.inl (s0.1,x151.1,(w64 (s0.2.2.1-1)),true,false,x158))
          else
           (rc (w64 (x151.1+1)) s0.2.1 (w64 (s0.2.2.1-1)) e x151.2).bind fun x159=>
           some (.inl (s0.1,x151.1,(w64 (s0.2.2.1-1)),false,false,x159))
       else
        (ZF s0.1 s0.2.1 x124.1 e x123).bind fun x160=>
        some (.inl (x160.1,s0.2.1,(w64 (s0.2.2.1-1)),false,true,x160.2))
      else
       (Zu s0.1 s0.2.1 x124.1 e x123).bind fun x161=>
       match x161 with
       | (.inl x161)=>
        bif (decide ((w64 (x161.1-s0.1))<(w64 (s0.2.1-x161.1)))) then
         bif (decide ((w64 (Int.tdiv (w64 (s0.2.1-s0.1)) 8))≤(w64 (x161.1-s0.1)))) then
          (rc s0.1 x161.1 (w64 (s0.2.2.1-1)) e x161.2).bind fun x162=>
          some (.inl ((w64 (x161.1+1)),s0.2.1,(w64 (s0.2.2.1-1)),true,true,x162))
         else
          (rc s0.1 x161.1 (w64 (s0.2.2.1-1)) e x161.2).bind fun x163=>
          some (.inl ((w64 (x161.1+1)),s0.2.1,(w64 (s0.2.2.1-1)),false,true,x163))
        else
         bif (decide ((w64 (Int.tdiv (w64 (s0.2.1-s0.1)) 8))≤(w64 (s0.2.1-x161.1)))) then
          (rc (w64 (x161.1+1)) s0.2.1 (w64 (s0.2.2.1-1)) e x161.2).bind fun x164=>
          some (.inl (s0.1,x161.1,(w64 (s0.2.2.1-1)),true,true,x164))
         else
          (rc (w64 (x161.1+1)) s0.2.1 (w64 (s0.2.2.1-1)) e x161.2).bind fun x165=>
          some (.inl (s0.1,x161.1,(w64 (s0.2.2.1-1)),false,true,x165))
       | (.inr x161)=>
        bif (decide ((w64 (x161.1-s0.1))<(w64 (s0.2.1-x161.1)))) then
         bif (decide ((w64 (Int.tdiv (w64 (s0.2.1-s0.1)) 8))≤(w64 (x161.1-s0.1)))) then
          (rc s0.1 x161.1 (w64 (s0.2.2.1-1)) e x161.2).bind fun x166=>
          some (.inl ((w64 (x161.1+1)),s0.2.1,(w64 (s0.2.2.1-1)),true,false,x166))
         else
          (rc s0.1 x161.1 (w64 (s0.2.2.1-1)) e x161.2).bind fun x167=>
          some (.inl ((w64 (x161.1+1)),s0.2.1,(w64 (s0.2.2.1-1)),false,false,x167))
        else
         bif (decide ((w64 (Int.tdiv (w64 (s0.2.1-s0.1)) 8))≤(w64 (s0.2.1-x161.1)))) then
          (rc (w64 (x161.1+1)) s0.2.1 (w64 (s0.2.2.1-1)) e x161.2).bind fun x168=>
          some (.inl (s0.1,x161.1,(w64 (s0.2.2.1-1)),true,false,x168))
         else
          (rc (w64 (x161.1+1)) s0.2.1 (w64 (s0.2.2.1-1)) e x161.2).bind fun x169=>
          some (.inl (s0.1,x161.1,(w64 (s0.2.2.1-1)),false,false,x169))
  else
   bif (decide ((w64 (s0.2.1-s0.1))≤12)) then
    (Z7 s0.1 s0.2.1 e s0.2.2.2.2.2).bind fun x170=>
    some (.inr x170)
   else
    bif (s0.2.2.1==0) then
     (Zal s0.1 s0.2.1 e s0.2.2.2.2.2).bind fun x171=>
     some (.inr x171)
    else
     (Zan s0.1 s0.2.1 e s0.2.2.2.2.2).bind fun x172=>
     (ZY s0.1 s0.2.1 e x172).bind fun x173=>
     bif (x173.2==2) then
      (ZT s0.1 s0.2.1 e x172).bind fun x174=>
      bif (decide (0<s0.1)) then
       (Zx x174 (w64 (s0.1-1))).bind fun x175=>
       (Zx x174 (w64 ((w64 (s0.2.1-1))-(w64 (x173.1-s0.1))))).bind fun x176=>
       (e x175 x176).bind fun x177=>
       bif (decide (x177<0)) then
        (Zu s0.1 s0.2.1 (w64 ((w64 (s0.2.1-1))-(w64 (x173.1-s0.1)))) e x174).bind fun x178=>
        match x178 with
        | (.inl x178)=>
         bif (decide ((w64 (x178.1-s0.1))<(w64 (s0.2.1-x178.1)))) then
          bif (decide ((w64 (Int.tdiv (w64 (s0.2.1-s0.1)) 8))≤(w64 (x178.1-s0.1)))) then
           (rc s0.1 x178.1 (w64 (s0.2.2.1-1)) e x178.2).bind fun x179=>
           some (.inl ((w64 (x178.1+1)),s0.2.1,(w64 (s0.2.2.1-1)),true,true,x179))
          else
           (rc s0.1 x178.1 (w64 (s0.2.2.1-1)) e x178.2).bind fun x180=>
           some (.inl ((w64 (x178.1+1)),s0.2.1,(w64 (s0.2.2.1-1)),false,true,x180))
         else
          bif (decide ((w64 (Int.tdiv (w64 (s0.2.1-s0.1)) 8))≤(w64 (s0.2.1-x178.1)))) then
           (rc (w64 (x178.1+1)) s0.2.1 (w64 (s0.2.2.1-1)) e x178.2).bind fun x181=>
           some (.inl (s0.1,x178.1,(w64 (s0.2.2.1-1)),true,true,x181))
          else
           (rc (w64 (x178.1+1)) s0.2.1 (w64 (s0.2.2.1-1)) e x178.2).bind fun x182=>
           some (.inl (s0.1,x178.1,(w64 (s0.2.2.1-1)),false,true,x182))
        | (.inr x178)=>
         bif (decide ((w64 (x178.1-s0.1))<(w64 (s0.2.1-x178.1)))) then
          bif (decide ((w64 (Int.tdiv (w64 (s0.2.1-s0.1)) 8))≤(w64 (x178.1-s0.1)))) then
           (rc s0.1 x178.1 (w64 (s0.2.2.1-1)) e x178.2).bind fun x183=>
           some (.inl ((w64 (x178.1+1)),s0.2.1,(w64 (s0.2.2.1-1)),true,false,x183))
          else
           (rc s0.1 x178.1 (w64 (s0.2.2.1-1)) e x178.2).bind fun x184=>
           some (.inl ((w64 (x178.1+1)),s0.2.1,(w64 (s0.2.2.1-1)),false,false,x184))
         else
          bif (decide ((w64 (Int.tdiv (w64 (s0.2.1-s0.1)) 8))≤(w64 (s0.2.1-x178.1)))) then
           (rc (w64 (x178.1+1)) s0.2.1 (w64 (s0.2.2.1-1)) e x178.2).bind fun x185=>
           some (.inl (s0.1,x178.1,(w64 (s0.2.2.1-1)),true,false,x185))
          else
           (rc (w64 (x178.1+1)) s0.2.1 (w64 (s0.2.2.1-1)) e x178.2).bind fun x186=>
           some (.inl (s0.1,x178.1,(w64 (s0.2.2.1-1)),false,false,x186))
       else
        (ZF s0.1 s0.2.1 (w64 ((w64 (s0.2.1-1))-(w64 (x173.1-s0.1)))) e x174).bind fun x187=>
        some (.inl (x187.1,s0.2.1,(w64 (s0.2.2.1-1)),false,false,x187.2))
      else
       (Zu s0.1 s0.2.1 (w64 ((w64 (s0.2.1-1))-(w64 (x173.1-s0.1)))) e x174).bind fun x188=>
       match x188 with
       | (.inl x188)=>
        bif (decide ((w64 (x188.1-s0.1))<(w64 (s0.2.1-x188.1)))) then
         bif (decide ((w64 (Int.tdiv (w64 (s0.2.1-s0.1)) 8))≤(w64 (x188.1-s0.1)))) then
          (rc s0.1 x188.1 (w64 (s0.2.2.1-1)) e x188.2).bind fun x189=>
          some (.inl ((w64 (x188.1+1)),s0.2.1,(w64 (s0.2.2.1-1)),true,true,x189))
         else
          (rc s0.1 x188.1 (w64 (s0.2.2.1-1)) e x188.2).bind fun x190=>
          some (.inl ((w64 (x188.1+1)),s0.2.1,(w64 (s0.2.2.1-1)),false,true,x190))
        else
         bif (decide ((w64 (Int.tdiv (w64 (s0.2.1-s0.1)) 8))≤(w64 (s0.2.1-x188.1)))) then
          (rc (w64 (x188.1+1)) s0.2.1 (w64 (s0.2.2.1-1)) e x188.2).bind fun x191=>
          some (.inl (s0.1,x188.1,(w64 (s0.2.2.1-1)),true,true,x191))
         else
          (rc (w64 (x188.1+1)) s0.2.1 (w64 (s0.2.2.1-1)) e x188.2).bind fun x192=>
          some (.inl (s0.1,x188.1,(w64 (s0.2.2.1-1)),false,true,x192))
       | (.inr x188)=>
        bif (decide ((w64 (x188.1-s0.1))<(w64 (s0.2.1-x188.1)))) then
         bif (decide ((w64 (Int.tdiv (w64 (s0.2.1-s0.1)) 8))≤(w64 (x188.1-s0.1)))) then
          (rc s0.1 x188.1 (w64 (s0.2.2.1-1)) e x188.2).bind fun x193=>
          some (.inl ((w64 (x188.1+1)),s0.2.1,(w64 (s0.2.2.1-1)),true,false,x193))
         else
          (rc s0.1 x188.1 (w64 (s0.2.2.1-1)) e x188.2).bind fun x194=>
          some (.inl ((w64 (x188.1+1)),s0.2.1,(w64 (s0.2.2.1-1)),false,false,x194))
        else
         bif (decide ((w64 (Int.tdiv (w64 (s0.2.1-s0.1)) 8))≤(w64 (s0.2.1-x188.1)))) then
          (rc (w64 (x188.1+1)) s0.2.1 (w64 (s0.2.2.1-1)) e x188.2).bind fun x195=>
          some (.inl (s0.1,x188.1,(w64 (s0.2.2.1-1)),true,false,x195))
         else
          (rc (w64 (x188.1+1)) s0.2.1 (w64 (s0.2.2.1-1)) e x188.2).bind fun x196=>
          some (.inl (s0.1,x188.1,(w64 (s0.2.2.1-1)),false,false,x196))
     else
      bif (decide (0<s0.1)) then
       (Zx x172 (w64 (s0.1-1))).bind fun x197=>
       (Zx x172 x173.1).bind fun x198=>
       (e x197 x198).bind fun x199=>
       bif (decide (x199<0)) then
        (Zu s0.1 s0.2.1 x173.1 e x172).bind fun x200=>
        match x200 with
        | (.inl x200)=>
         bif (decide ((w64 (x200.1-s0.1))<(w64 (s0.2.1-x200.1)))) then
          bif (decide ((w64 (Int.tdiv (w64 (s0.2.1-s0.1)) 8))≤(w64 (x200.1-s0.1)))) then
           (rc s0.1 x200.1 (w64 (s0.2.2.1-1)) e x200.2).bind fun x201=>
           some (.inl ((w64 (x200.1+1)),s0.2.1,(w64 (s0.2.2.1-1)),true,true,x201))
          else
           (rc s0.1 x200.1 (w64 (s0.2.2.1-1)) e x200.2).bind fun x202=>
           some (.inl ((w64 (x200.1+1)),s0.2.1,(w64 (s0.2.2.1-1)),false,true,x202))
         else
          bif (decide ((w64 (Int.tdiv (w64 (s0.2.1-s0.1)) 8))≤(w64 (s0.2.1-x200.1)))) then
           (rc (w64 (x200.1+1)) s0.2.1 (w64 (s0.2.2.1-1)) e x200.2).bind fun x203=>
           some (.inl (s0.1,x200.1,(w64 (s0.2.2.1-1)),true,true,x203))
          else
           (rc (w64 (x200.1+1)) s0.2.1 (w64 (s0.2.2.1-1)) e x200.2).bind fun x204=>
           some (.inl (s0.1,x200.1,(w64 (s0.2.2.1-1)),false,true,x204))
        | (.inr x200)=>
         bif (decide ((w64 (x200.1-s0.1))<(w64 (s0.2.1-x200.1)))) then
          bif (decide ((w64 (Int.tdiv (w64 (s0.2.1-s0.1)) 8))≤(w64 (x200.1-s0.1)))) then
           (rc s0.1 x200.1 (w64 (s0.2.2.1-1)) e x200.2).bind fun x205=>
           some (.inl ((w64 (x200.1+1)),s0.2.1,(w64 (s0.2.2.1-1)),true,false,x205))
          else
           (rc s0.1 x200.1 (w64 (s0.2.2.1-1)) e x200.2).bind fun x206=>
           some (.inl ((w64 (x200.1+1)),s0.2.1,(w64 (s0.2.2.1-1)),false,false,x206))
         else
          bif (decide ((w64 (Int.tdiv (w64 (s0.2.1-s0.1)) 8))≤(w64 (s0.2.1-x200.1)))) then
           (rc (w64 (x200.1+1)) s0.2.1 (w64 (s0.2.2.1-1)) e x200.2).bind fun x207=>
           some (.inl (s0.1,x200.1,(w64 (s0.2.2.1-1)),true,false,x207))
          else
           (rc (w64 (x200.1+1)) s0.2.1 (w64 (s0.2.2.1-1)) e x200.2).bind fun x208=>
           some (.inl (s0.1,x200.1,(w64 (s0.2.2.1-1)),false,false,x208))
       else
        (ZF s0.1 s0.2.1 x173.1 e x172).bind fun x209=>
        some (.inl (x209.1,s0.2.1,(w64 (s0.2.2.1-1)),false,false,x209.2))
      else
       (Zu s0.1 s0.2.1 x173.1 e x172).bind fun x210=>
       match x210 with
       | (.inl x210)=>
        bif (decide ((w64 (x210.1-s0.1))<(w64 (s0.2.1-x210.1)))) then
         bif (decide ((w64 (Int.tdiv (w64 (s0.2.1-s0.1)) 8))≤(w64 (x210.1-s0.1)))) then
          (rc s0.1 x210.1 (w64 (s0.2.2.1-1)) e x210.2).bind fun x211=>
          some (.inl ((w64 (x210.1+1)),s0.2.1,(w64 (s0.2.2.1-1)),true,true,x211))
         else
          (rc s0.1 x210.1 (w64 (s0.2.2.1-1)) e x210.2).bind fun x212=>
          some (.inl ((w64 (x210.1+1)),s0.2.1,(w64 (s0.2.2.1-1)),false,true,x212))
        else
         bif (decide ((w64 (Int.tdiv (w64 (s0.2.1-s0.1)) 8))≤(w64 (s0.2.1-x210.1)))) then
          (rc (w64 (x210.1+1)) s0.2.1 (w64 (s0.2.2.1-1)) e x210.2).bind fun x213=>
          some (.inl (s0.1,x210.1,(w64 (s0.2.2.1-1)),true,true,x213))
         else
          (rc (w64 (x210.1+1)) s0.2.1 (w64 (s0.2.2.1-1)) e x210.2).bind fun x214=>
          some (.inl (s0.1,x210.1,(w64 (s0.2.2.1-1)),false,true,x214))
       | (.inr x210)=>
        bif (decide ((w64 (x210.1-s0.1))<(w64 (s0.2.1-x210.1)))) then
         bif (decide ((w64 (Int.tdiv (w64 (s0.2.1-s0.1)) 8))≤(w64 (x210.1-s0.1)))) then
          (rc s0.1 x210.1 (w64 (s0.2.2.1-1)) e x210.2).bind fun x215=>
          some (.inl ((w64 (x210.1+1)),s0.2.1,(w64 (s0.2.2.1-1)),true,false,x215))
         else
          (rc s0.1 x210.1 (w64 (s0.2.2.1-1)) e x210.2).bind fun x216=>
          some (.inl ((w64 (x210.1+1)),s0.2.1,(w64 (s0.2.2.1-1)),false,false,x216))
        else
         bif (decide ((w64 (Int.tdiv (w64 (s0.2.1-s0.1)) 8))≤(w64 (s0.2.1-x210.1)))) then
          (rc (w64 (x210.1+1)) s0.2.1 (w64 (s0.2.2.1-1)) e x210.2).bind fun x217=>
          some (.inl (s0.1,x210.1,(w64 (s0.2.2.1-1)),true,false,x217))
         else
          (rc (w64 (x210.1+1)) s0.2.1 (w64 (s0.2.2.1-1)) e x210.2).bind fun x218=>
          some (.inl (s0.1,x210.1,(w64 (s0.2.2.1-1)),false,false,x218))
def ZaM (rc:Int→Int→Int→(Int→Int→Option Int)→(List Int)→Option (List Int)) (b:Int) (c:Int) (d:Int) (e:(Int→Int→Option Int)) (m0_0:List Int):Option (List Int):=
 (lp (Z0 e rc) (b,c,d,true,true,m0_0)).bind fun r219=>
 some r219
def Z4:Nat→Int→Int→Int→(Int→Int→Option Int)→(List Int)→Option (List Int)
 | 0=>fun _ _ _ _ _=>none
 | n+1=>ZaM (Z4 n)
def ZdC (b:Int) (c:Int) (d:Int) (e:(Int→Int→Option Int)) (m0_0:List Int):Option (List Int):=Zyq fun n=>Z4 n b c d e m0_0
def ZaW (b:(Int→Int→Option Int)) (m0_0:List Int):Option (List Int):=
 (ZeY (u64.wrap (m0_0.length:Int))).bind fun x0=>
 (ZdC 0 (m0_0.length:Int) x0 b m0_0).bind fun x1=>
 some x1
def ZeJ (a:Zp) (b:Int) (s1:Int×(List Int)):Option ((Int×(List Int))⊕(List Int)):=
 bif (decide (s1.1<(a.futures.length:Int))) then
  (Zx a.futures s1.1).bind fun x2=>
  bif (x2.user==b) then
   bif (Nat.ble (List.length s1.2+1) lim) then
    some (.inl ((w64 (s1.1+1)),(s1.2++[s1.1])))
   else
    none
  else
   some (.inl ((w64 (s1.1+1)),s1.2))
 else
  some (.inr s1.2)
def Zez (a:Zp) (b:Int):Option (List Int):=
 (ZhT a).bind fun x0=>
 bif (x0 != 0) then
  some ([]:List Int)
 else
  (lp (ZeJ a b) (0,([]:List Int))).bind fun r3=>
  (ZaW (fun z0 z1=>Zz z0 z1 a.futures) r3).bind fun x4=>
  some x4
def Za9 (b:Zj) (c:Int) (m1_0:List Int) (m3_0:List Zj):Option Unit:=
 bif (Nat.ble (List.length m3_0+1) lim) then
  bif (Nat.ble (List.length m1_0+1) lim) then
   some ()
  else
   none
 else
  none
def Z2 (b:Int) (c:Int) (m2_0:List Zo):Option Unit:=
 bif (Nat.ble (List.length m2_0+1) lim) then
  some ()
 else
  none
def ZH (b:Zp) (c:Int) (x0:List Int) (s14:Int×Int×(List (Int×Int))×(List (Zl×Int))×(List Int)×(List Zo)×(List Zj)):Option ((Int×Int×(List (Int×Int))×(List (Zl×Int))×(List Int)×(List Zo)×(List Zj))⊕((List (Int×Int))×(List (Zl×Int))×(List Int)×(List Zo)×(List Zj))):=
 bif (decide (s14.2.1<(w64 ((x0.length:Int)+1)))) then
  (Zx b.parts c).bind fun x15=>
  bif (decide (s14.2.1<(x0.length:Int))) then
   (Zx x0 s14.2.1).bind fun x16=>
   (Zx b.futures x16).bind fun x17=>
   (Za9 (Zj.mk c s14.2.1) (w64 (x17.pos-s14.1)) s14.2.2.2.2.1 s14.2.2.2.2.2.2).bind fun x18=>
   bif (decide (0<s14.2.1)) then
    (Z2 (w64 ((ZaT (fun ka kb:Int=>(ka==kb)) (ZB (fun ka kb:Int=>(ka==kb)) s14.2.2.1 c (w64 ((List.length (s14.2.2.2.2.2.2++[(Zj.mk c s14.2.1)]):Int)-1))) c 0)-1)) (ZaT (fun ka kb:Int=>(ka==kb)) (ZB (fun ka kb:Int=>(ka==kb)) s14.2.2.1 c (w64 ((List.length (s14.2.2.2.2.2.2++[(Zj.mk c s14.2.1)]):Int)-1))) c 0) s14.2.2.2.2.2.1).bind fun x19=>
    (Zx x0 (w64 (s14.2.1-1))).bind fun x20=>
    (Zx b.futures x20).bind fun x21=>
    some (.inl (x17.pos,(w64 (s14.2.1+1)),(ZB (fun ka kb:Int=>(ka==kb)) s14.2.2.1 c (w64 ((List.length (s14.2.2.2.2.2.2++[(Zj.mk c s14.2.1)]):Int)-1))),(ZB (fun ka kb:Zl=>((ka.maker==kb.maker)&&((ka.user==kb.user)&&((ka.pos==kb.pos)&&true)))) s14.2.2.2.1 x21 (ZaT (fun ka kb:Int=>(ka==kb)) (ZB (fun ka kb:Int=>(ka==kb)) s14.2.2.1 c (w64 ((List.length (s14.2.2.2.2.2.2++[(Zj.mk c s14.2.1)]):Int)-1))) c 0)),(s14.2.2.2.2.1++[(w64 (x17.pos-s14.1))]),(s14.2.2.2.2.2.1++[(Zo.mk (w64 ((ZaT (fun ka kb:Int=>(ka==kb)) (ZB (fun ka kb:Int=>(ka==kb)) s14.2.2.1 c (w64 ((List.length (s14.2.2.2.2.2.2++[(Zj.mk c s14.2.1)]):Int)-1))) c 0)-1)) (ZaT (fun ka kb:Int=>(ka==kb)) (ZB (fun ka kb:Int=>(ka==kb)) s14.2.2.1 c (w64 ((List.length (s14.2.2.2.2.2.2++[(Zj.mk c s14.2.1)]):Int)-1))) c 0))]),(s14.2.2.2.2.2.2++[(Zj.mk c s14.2.1)])))
   else
    some (.inl (x17.pos,(w64 (s14.2.1+1)),(ZB (fun ka kb:Int=>(ka==kb)) s14.2.2.1 c (w64 ((List.length (s14.2.2.2.2.2.2++[(Zj.mk c s14.2.1)]):Int)-1))),s14.2.2.2.1,(s14.2.2.2.2.1++[(w64 (x17.pos-s14.1))]),s14.2.2.2.2.2.1,(s14.2.2.2.2.2.2++[(Zj.mk c s14.2.1)])))
  else
   (Za9 (Zj.mk c s14.2.1) (w64 (x15.work-s14.1)) s14.2.2.2.2.1 s14.2.2.2.2.2.2).bind fun x22=>
   bif (decide (0<s14.2.1)) then
    (Z2 (w64 ((ZaT (fun ka kb:Int=>(ka==kb)) (ZB (fun ka kb:Int=>(ka==kb)) s14.2.2.1 c (w64 ((List.length (s14.2.2.2.2.2.2++[(Zj.mk c s14.2.1)]):Int)-1))) c 0)-1)) (ZaT (fun ka kb:Int=>(ka==kb)) (ZB (fun ka kb:Int=>(ka==kb)) s14.2.2.1 c (w64 ((List.length (s14.2.2.2.2.2.2++[(Zj.mk c s14.2.1)]):Int)-1))) c 0) s14.2.2.2.2.2.1).bind fun x23=>
    (Zx x0 (w64 (s14.2.1-1))).bind fun x24=>
    (Zx b.futures x24).bind fun x25=>
    some (.inl (x15.work,(w64 (s14.2.1+1)),(ZB (fun ka kb:Int=>(ka==kb)) s14.2.2.1 c (w64 ((List.length (s14.2.2.2.2.2.2++[(Zj.mk c s14.2.1)]):Int)-1))),(ZB (fun ka kb:Zl=>((ka.maker==kb.maker)&&((ka.user==kb.user)&&((ka.pos==kb.pos)&&true)))) s14.2.2.2.1 x25 (ZaT (fun ka kb:Int=>(ka==kb)) (ZB (fun ka kb:Int=>(ka==kb)) s14.2.2.1 c (w64 ((List.length (s14.2.2.2.2.2.2++[(Zj.mk c s14.2.1)]):Int)-1))) c 0)),(s14.2.2.2.2.1++[(w64 (x15.work-s14.1))]),(s14.2.2.2.2.2.1++[(Zo.mk (w64 ((ZaT (fun ka kb:Int=>(ka==kb)) (ZB (fun ka kb:Int=>(ka==kb)) s14.2.2.1 c (w64 ((List.length (s14.2.2.2.2.2.2++[(Zj.mk c s14.2.1)]):Int)-1))) c 0)-1)) (ZaT (fun ka kb:Int=>(ka==kb)) (ZB (fun ka kb:Int=>(ka==kb)) s14.2.2.1 c (w64 ((List.length (s14.2.2.2.2.2.2++[(Zj.mk c s14.2.1)]):Int)-1))) c 0))]),(s14.2.2.2.2.2.2++[(Zj.mk c s14.2.1)])))
   else
    some (.inl (x15.work,(w64 (s14.2.1+1)),(ZB (fun ka kb:Int=>(ka==kb)) s14.2.2.1 c (w64 ((List.length (s14.2.2.2.2.2.2++[(Zj.mk c s14.2.1)]):Int)-1))),s14.2.2.2.1,(s14.2.2.2.2.1++[(w64 (x15.work-s14.1))]),s14.2.2.2.2.2.1,(s14.2.2.2.2.2.2++[(Zj.mk c s14.2.1)])))
 else
  some (.inr (s14.2.2.1,s14.2.2.2.1,s14.2.2.2.2.1,s14.2.2.2.2.2.1,s14.2.2.2.2.2.2))
def Zcq (b:Zp) (c:Int) (m1_0:List Int) (m2_0:List Zo) (m3_0:List Zj) (m5_0:(List (Int×Int))) (m6_0:(List (Zl×Int))) (x0:List Int) (x4:Zl) (s6:Unit):Option (Unit⊕(((List (Int×Int))×(List (Zl×Int))×(List Int)×(List Zo)×(List Zj))⊕Unit)):=
 bif (decide (1<(w64 ((x0.length:Int)+1)))) then
  (Zx b.parts c).bind fun x7=>
  bif (decide (1<(x0.length:Int))) then
   (Zx x0 1).bind fun x8=>
   (Zx b.futures x8).bind fun x9=>
   (Za9 (Zj.mk c 1) (w64 (x9.pos-x4.pos)) (m1_0++[(w64 (x4.pos-0))]) (m3_0++[(Zj.mk c 0)])).bind fun x10=>
   (Z2 (w64 ((ZaT (fun ka kb:Int=>(ka==kb)) (ZB (fun ka kb:Int=>(ka==kb)) (ZB (fun ka kb:Int=>(ka==kb)) m5_0 c (w64 ((List.length (m3_0++[(Zj.mk c 0)]):Int)-1))) c (w64 ((List.length ((m3_0++[(Zj.mk c 0)])++[(Zj.mk c 1)]):Int)-1))) c 0)-1)) (ZaT (fun ka kb:Int=>(ka==kb)) (ZB (fun ka kb:Int=>(ka==kb)) (ZB (fun ka kb:Int=>(ka==kb)) m5_0 c (w64 ((List.length (m3_0++[(Zj.mk c 0)]):Int)-1))) c (w64 ((List.length ((m3_0++[(Zj.mk c 0)])++[(Zj.mk c 1)]):Int)-1))) c 0) m2_0).bind fun x11=>
   (Zx x0 0).bind fun x12=>
   (Zx b.futures x12).bind fun x13=>
   (lp (ZH b c x0) (x9.pos,2,(ZB (fun ka kb:Int=>(ka==kb)) (ZB (fun ka kb:Int=>(ka==kb)) m5_0 c (w64 ((List.length (m3_0++[(Zj.mk c 0)]):Int)-1))) c (w64 ((List.length ((m3_0++[(Zj.mk c 0)])++[(Zj.mk c 1)]):Int)-1))),(ZB (fun ka kb:Zl=>((ka.maker==kb.maker)&&((ka.user==kb.user)&&((ka.pos==kb.pos)&&true)))) m6_0 x13 (ZaT (fun ka kb:Int=>(ka==kb)) (ZB (fun ka kb:Int=>(ka==kb)) (ZB (fun ka kb:Int=>(ka==kb)) m5_0 c (w64 ((List.length (m3_0++[(Zj.mk c 0)]):Int)-1))) c (w64 ((List.length ((m3_0++[(Zj.mk c 0)])++[(Zj.mk c 1)]):Int)-1))) c 0)),((m1_0++[(w64 (x4.pos-0))])++[(w64 (x9.pos-x4.pos))]),(m2_0++[(Zo.mk (w64 ((ZaT (fun ka kb:Int=>(ka==kb)) (ZB (fun ka kb:Int=>(ka==kb)) (ZB (fun ka kb:Int=>(ka==kb)) m5_0 c (w64 ((List.length (m3_0++[(Zj.mk c 0)]):Int)-1))) c (w64 ((List.length ((m3_0++[(Zj.mk c 0)])++[(Zj.mk c 1)]):Int)-1))) c 0)-1)) (ZaT (fun ka kb:Int=>(ka==kb)) (ZB (fun ka kb:Int=>(ka==kb)) (ZB (fun ka kb:Int=>(ka==kb)) m5_0 c (w64 ((List.length (m3_0++[(Zj.mk c 0)]):Int)-1))) c (w64 ((List.length ((m3_0++[(Zj.mk c 0)])++[(Zj.mk c 1)]):Int)-1))) c 0))]),((m3_0++[(Zj.mk c 0)])++[(Zj.mk c 1)]))).bind fun r26=>
   some (.inr (.inl (r26.1,r26.2.1,r26.2.2.1,r26.2.2.2.1,r26.2.2.2.2)))
  else
   (Za9 (Zj.mk c 1) (w64 (x7.work-x4.pos)) (m1_0++[(w64 (x4.pos-0))]) (m3_0++[(Zj.mk c 0)])).bind fun x27=>
   (Z2 (w64 ((ZaT (fun ka kb:Int=>(ka==kb)) (ZB (fun ka kb:Int=>(ka==kb)) (ZB (fun ka kb:Int=>(ka==kb)) m5_0 c (w64 ((List.length (m3_0++[(Zj.mk c 0)]):Int)-1))) c (w64 ((List.length ((m3_0++[(Zj.mk c 0)])++[(Zj.mk c 1)]):Int)-1))) c 0)-1)) (ZaT (fun ka kb:Int=>(ka==kb)) (ZB (fun ka kb:Int=>(ka==kb)) (ZB (fun ka kb:Int=>(ka==kb)) m5_0 c (w64 ((List.length (m3_0++[(Zj.mk c 0)]):Int)-1))) c (w64 ((List.length ((m3_0++[(Zj.mk c 0)])++[(Zj.mk c 1)]):Int)-1))) c 0) m2_0).bind fun x28=>
   (Zx x0 0).bind fun x29=>
   (Zx b.futures x29).bind fun x30=>
   (lp (ZH b c x0) (x7.work,2,(ZB (fun ka kb:Int=>(ka==kb)) (ZB (fun ka kb:Int=>(ka==kb)) m5_0 c (w64 ((List.length (m3_0++[(Zj.mk c 0)]):Int)-1))) c (w64 ((List.length ((m3_0++[(Zj.mk c 0)])++[(Zj.mk c 1)]):Int)-1))),(ZB (fun ka kb:Zl=>((ka.maker==kb.maker)&&((ka.user==kb.user)&&((ka.pos==kb.pos)&&true)))) m6_0 x30 (ZaT (fun ka kb:Int=>(ka==kb)) (ZB (fun ka kb:Int=>(ka==kb)) (ZB (fun ka kb:Int=>(ka==kb)) m5_0 c (w64 ((List.length (m3_0++[(Zj.mk c 0)]):Int)-1))) c (w64 ((List.length ((m3_0++[(Zj.mk c 0)])++[(Zj.mk c 1)]):Int)-1))) c 0)),((m1_0++[(w64 (x4.pos-0))])++[(w64 (x7.work-x4.pos))]),(m2_0++[(Zo.mk (w64 ((ZaT (fun ka kb:Int=>(ka==kb)) (ZB (fun ka kb:Int=>(ka==kb)) (ZB (fun ka kb:Int=>(ka==kb)) m5_0 c (w64 ((List.length (m3_0++[(Zj.mk c 0)]):Int)-1))) c (w64 ((List.length ((m3_0++[(Zj.mk c 0)])++[(Zj.mk c 1)]):Int)-1))) c 0)-1)) (ZaT (fun ka kb:Int=>(ka==kb)) (ZB (fun ka kb:Int=>(ka==kb)) (ZB (fun ka kb:Int=>(ka==kb)) m5_0 c (w64 ((List.length (m3_0++[(Zj.mk c 0)]):Int)-1))) c (w64 ((List.length ((m3_0++[(Zj.mk c 0)])++[(Zj.mk c 1)]):Int)-1))) c 0))]),((m3_0++[(Zj.mk c 0)])++[(Zj.mk c 1)]))).bind fun r43=>
   some (.inr (.inl (r43.1,r43.2.1,r43.2.2.1,r43.2.2.2.1,r43.2.2.2.2)))
 else
  some (.inr (.inr ()))
def Zdh (b:Zp) (c:Int) (m1_0:List Int) (m2_0:List Zo) (m3_0:List Zj) (m5_0:(List (Int×Int))) (m6_0:(List (Zl×Int))) (x0:List Int) (x2:Zas) (s46:Unit):Option (Unit⊕(((List (Int×Int))×(List (Zl×Int))×(List Int)×(List Zo)×(List Zj))⊕Unit)):=
 bif (decide (1<(w64 ((x0.length:Int)+1)))) then
  (Zx b.parts c).bind fun x47=>
  bif (decide (1<(x0.length:Int))) then
   (Zx x0 1).bind fun x48=>
   (Zx b.futures x48).bind fun x49=>
   (Za9 (Zj.mk c 1) (w64 (x49.pos-x2.work)) (m1_0++[(w64 (x2.work-0))]) (m3_0++[(Zj.mk c 0)])).bind fun x50=>
   (Z2 (w64 ((ZaT (fun ka kb:Int=>(ka==kb)) (ZB (fun ka kb:Int=>(ka==kb)) (ZB (fun ka kb:Int=>(ka==kb)) m5_0 c (w64 ((List.length (m3_0++[(Zj.mk c 0)]):Int)-1))) c (w64 ((List.length ((m3_0++[(Zj.mk c 0)])++[(Zj.mk c 1)]):Int)-1))) c 0)-1)) (ZaT (fun ka kb:Int=>(ka==kb)) (ZB (fun ka kb:Int=>(ka==kb)) (ZB (fun ka kb:Int=>(ka==kb)) m5_0 c (w64 ((List.length (m3_0++[(Zj.mk c 0)]):Int)-1))) c (w64 ((List.length ((m3_0++[(Zj.mk c 0)])++[(Zj.mk c 1)]):Int)-1))) c 0) m2_0).bind fun x51=>
   (Zx x0 0).bind fun x52=>
   (Zx b.futures x52).bind fun x53=>
   (lp (ZH b c x0) (x49.pos,2,(ZB (fun ka kb:Int=>(ka==kb)) (ZB (fun ka kb:Int=>(ka==kb)) m5_0 c (w64 ((List.length (m3_0++[(Zj.mk c 0)]):Int)-1))) c (w64 ((List.length ((m3_0++[(Zj.mk c 0)])++[(Zj.mk c 1)]):Int)-1))),(ZB (fun ka kb:Zl=>((ka.maker==kb.maker)&&((ka.user==kb.user)&&((ka.pos==kb.pos)&&true)))) m6_0 x53 (ZaT (fun ka kb:Int=>(ka==kb)) (ZB (fun ka kb:Int=>(ka==kb)) (ZB (fun ka kb:Int=>(ka==kb)) m5_0 c (w64 ((List.length (m3_0++[(Zj.mk c 0)]):Int)-1))) c (w64 ((List.length ((m3_0++[(Zj.mk c 0)])++[(Zj.mk c 1)]):Int)-1))) c 0)),((m1_0++[(w64 (x2.work-0))])++[(w64 (x49.pos-x2.work))]),(m2_0++[(Zo.mk (w64 ((ZaT (fun ka kb:Int=>(ka==kb)) (ZB (fun ka kb:Int=>(ka==kb)) (ZB (fun ka kb:Int=>(ka==kb)) m5_0 c (w64 ((List.length (m3_0++[(Zj.mk c 0)]):Int)-1))) c (w64 ((List.length ((m3_0++[(Zj.mk c 0)])++[(Zj.mk c 1)]):Int)-1))) c 0)-1)) (ZaT (fun ka kb:Int=>(ka==kb)) (ZB (fun ka kb:Int=>(ka==kb)) (ZB (fun ka kb:Int=>(ka==kb)) m5_0 c (w64 ((List.length (m3_0++[(Zj.mk c 0)]):Int)-1))) c (w64 ((List.length ((m3_0++[(Zj.mk c 0)])++[(Zj.mk c 1)]):Int)-1))) c 0))]),((m3_0++[(Zj.mk c 0)])++[(Zj.mk c 1)]))).bind fun r66=>
   some (.inr (.inl (r66.1,r66.2.1,r66.2.2.1,r66.2.2.2.1,r66.2.2.2.2)))
  else
   (Za9 (Zj.mk c 1) (w64 (x47.work-x2.work)) (m1_0++[(w64 (x2.work-0))]) (m3_0++[(Zj.mk c 0)])).bind fun x67=>
   (Z2 (w64 ((ZaT (fun ka kb:Int=>(ka==kb)) (ZB (fun ka kb:Int=>(ka==kb)) (ZB (fun ka kb:Int=>(ka==kb)) m5_0 c (w64 ((List.length (m3_0++[(Zj.mk c 0)]):Int)-1))) c (w64 ((List.length ((m3_0++[(Zj.mk c 0)])++[(Zj.mk c 1)]):Int)-1))) c 0)-1)) (ZaT (fun ka kb:Int=>(ka==kb)) (ZB (fun ka kb:Int=>(ka==kb)) (ZB (fun ka kb:Int=>(ka==kb)) m5_0 c (w64 ((List.length (m3_0++[(Zj.mk c 0)]):Int)-1))) c (w64 ((List.length ((m3_0++[(Zj.mk c 0)])++[(Zj.mk c 1)]):Int)-1))) c 0) m2_0).bind fun x68=>
   (Zx x0 0).bind fun x69=>
   (Zx b.futures x69).bind fun x70=>
   (lp (ZH b c x0) (x47.work,2,(ZB (fun ka kb:Int=>(ka==kb)) (ZB (fun ka kb:Int=>(ka==kb)) m5_0 c (w64 ((List.length (m3_0++[(Zj.mk c 0)]):Int)-1))) c (w64 ((List.length ((m3_0++[(Zj.mk c 0)])++[(Zj.mk c 1)]):Int)-1))),(ZB (fun ka kb:Zl=>((ka.maker==kb.maker)&&((ka.user==kb.user)&&((ka.pos==kb.pos)&&true)))) m6_0 x70 (ZaT (fun ka kb:Int=>(ka==kb)) (ZB (fun ka kb:Int=>(ka==kb)) (ZB (fun ka kb:Int=>(ka==kb)) m5_0 c (w64 ((List.length (m3_0++[(Zj.mk c 0)]):Int)-1))) c (w64 ((List.length ((m3_0++[(Zj.mk c 0)])++[(Zj.mk c 1)]):Int)-1))) c 0)),((m1_0++[(w64 (x2.work-0))])++[(w64 (x47.work-x2.work))]),(m2_0++[(Zo.mk (w64 ((ZaT (fun ka kb:Int=>(ka==kb)) (ZB (fun ka kb:Int=>(ka==kb)) (ZB (fun ka kb:Int=>(ka==kb)) m5_0 c (w64 ((List.length (m3_0++[(Zj.mk c 0)]):Int)-1))) c (w64 ((List.length ((m3_0++[(Zj.mk c 0)])++[(Zj.mk c 1)]):Int)-1))) c 0)-1)) (ZaT (fun ka kb:Int=>(ka==kb)) (ZB (fun ka kb:Int=>(ka==kb)) (ZB (fun ka kb:Int=>(ka==kb)) m5_0 c (w64 ((List.length (m3_0++[(Zj.mk c 0)]):Int)-1))) c (w64 ((List.length ((m3_0++[(Zj.mk c 0)])++[(Zj.mk c 1)]):Int)-1))) c 0))]),((m3_0++[(Zj.mk c 0)])++[(Zj.mk c 1)]))).bind fun r83=>
   some (.inr (.inl (r83.1,r83.2.1,r83.2.2.1,r83.2.2.2.1,r83.2.2.2.2)))
 else
  some (.inr (.inr ()))
def Zcr (b:Zp) (c:Int) (m1_0:List Int) (m2_0:List Zo) (m3_0:List Zj) (m5_0:(List (Int×Int))) (m6_0:(List (Zl×Int))) (x0:List Int) (s1:Unit):Option (Unit⊕(((List (Int×Int))×(List (Zl×Int))×(List Int)×(List Zo)×(List Zj))⊕((List Int)⊕Unit))):=
 bif (decide (0<(w64 ((x0.length:Int)+1)))) then
  (Zx b.parts c).bind fun x2=>
  bif (decide (0<(x0.length:Int))) then
   (Zx x0 0).bind fun x3=>
   (Zx b.futures x3).bind fun x4=>
   (Za9 (Zj.mk c 0) (w64 (x4.pos-0)) m1_0 m3_0).bind fun x5=>
   (lp (Zcq b c m1_0 m2_0 m3_0 m5_0 m6_0 x0 x4) ()).bind fun r44=>
   match r44 with
   | (.inl r44)=>
    some (.inr (.inl (r44.1,r44.2.1,r44.2.2.1,r44.2.2.2.1,r44.2.2.2.2)))
   | (.inr r44)=>
    some (.inr (.inr (.inl (m1_0++[(w64 (x4.pos-0))]))))
  else
   (Za9 (Zj.mk c 0) (w64 (x2.work-0)) m1_0 m3_0).bind fun x45=>
   (lp (Zdh b c m1_0 m2_0 m3_0 m5_0 m6_0 x0 x2) ()).bind fun r84=>
   match r84 with
   | (.inl r84)=>
    some (.inr (.inl (r84.1,r84.2.1,r84.2.2.1,r84.2.2.2.1,r84.2.2.2.2)))
   | (.inr r84)=>
    some (.inr (.inr (.inl (m1_0++[(w64 (x2.work-0))]))))
 else
  some (.inr (.inr (.inr ())))
def Ze6 (b:Zp) (c:Int) (m1_0:List Int) (m2_0:List Zo) (m3_0:List Zj) (m5_0:(List (Int×Int))) (m6_0:(List (Zl×Int))):Option (((List (Int×Int))×(List (Zl×Int))×(List Int)×(List Zo)×(List Zj))⊕((List Int)⊕Unit)):=
 (Zez b c).bind fun x0=>
 (lp (Zcr b c m1_0 m2_0 m3_0 m5_0 m6_0 x0) ()).bind fun r85=>
 match r85 with
 | (.inl r85)=>
  some (.inl (r85.1,r85.2.1,r85.2.2.1,r85.2.2.2.1,r85.2.2.2.2))
 | (.inr (.inl r85))=>
  some (.inr (.inl r85))
 | (.inr (.inr r85))=>
  some (.inr (.inr ()))
def Zep (a:Int):Option Bool:=
 bif (decide (a<0)) then
  some true
 else
  bif (decide (1000<a)) then
   some true
  else
   some false
def Zhh (a:Int) (b0:List Int):Option Bool:=
 bif (decide (0≤a)) then
  bif (decide (a<(b0.length:Int))) then
   some true
  else
   some false
 else
  some false
def ZgR (a:Zar) (s0:(List Int)×(List Bool)) (s1:Int) (s3:Int):Option (Int⊕(Unit⊕Unit)):=
 bif (decide (s3<(a.edges.length:Int))) then
  (Zx a.edges s3).bind fun x4=>
  bif (x4.dst==s1) then
   (Zx s0.2 x4.src).bind fun x5=>
   bif x5 then
    some (.inl (w64 (s3+1)))
   else
    some (.inr (.inl ()))
  else
   some (.inl (w64 (s3+1)))
 else
  some (.inr (.inr ()))
def ZfD (a:Zar) (s0:(List Int)×(List Bool)) (s1:Int):Option (Int⊕(((List Int)×(List Bool))⊕Unit)):=
 bif (decide (s1<(a.work.length:Int))) then
  (Zx s0.2 s1).bind fun x2=>
  bif x2 then
   some (.inl (w64 (s1+1)))
  else
   (lp (ZgR a s0 s1) 0).bind fun r6=>
   match r6 with
   | (.inl r6)=>
    some (.inl (w64 (s1+1)))
   | (.inr r6)=>
    bif (Nat.ble (List.length s0.1+1) lim) then
     some (.inr (.inl ((s0.1++[s1]),(List.set s0.2 s1.toNat true))))
    else
     none
 else
  some (.inr (.inr ()))
def ZgU (a:Zar) (s0:(List Int)×(List Bool)):Option (((List Int)×(List Bool))⊕((List Int)⊕(List Int))):=
 bif (decide ((s0.1.length:Int)<(a.work.length:Int))) then
  (lp (ZfD a s0) 0).bind fun r7=>
  match r7 with
  | (.inl r7)=>
   some (.inl (r7.1,r7.2))
  | (.inr r7)=>
   some (.inr (.inl s0.1))
 else
  some (.inr (.inr s0.1))
def ZgW (a:Zar):Option ((List Int)×Bool):=
 bif (decide (0≤(a.work.length:Int))&&decide ((a.work.length:Int)≤lim)&&decide ((a.work.length:Int)==(a.work.length:Int))) then
  (lp (ZgU a) (([]:List Int),(List.replicate (a.work.length:Int).toNat (false:Bool)))).bind fun r8=>
  match r8 with
  | (.inl r8)=>
   some (([]:List Int),false)
  | (.inr r8)=>
   some (r8,true)
 else
  none
def ZfV (a:Zar) (s1:Int):Option (Int⊕(Unit⊕Unit)):=
 bif (decide (s1<(a.edges.length:Int))) then
  (Zx a.edges s1).bind fun x2=>
  (Zhh x2.src a.work).bind fun x3=>
  bif x3 then
   (Zhh x2.dst a.work).bind fun x4=>
   bif x4 then
    bif (x2.src==x2.dst) then
     some (.inr (.inl ()))
    else
     bif (decide (0≤s1)) then
      bif (Nat.ble s1.toNat (List.length a.edges)) then
       (ZbH (List.take s1.toNat a.edges) x2).bind fun x5=>
       bif x5 then
        some (.inr (.inl ()))
       else
        some (.inl (w64 (s1+1)))
      else
       none
     else
      none
   else
    some (.inr (.inl ()))
  else
   some (.inr (.inl ()))
 else
  some (.inr (.inr ()))
def ZhI (a:Zar):Option Int:=
 bif (decide (64<(a.work.length:Int))) then
  some 40
 else
  bif (decide (256<(a.edges.length:Int))) then
   some 40
  else
   (ZaP a.work (fun z0=>Zep z0)).bind fun x0=>
   bif x0 then
    some 41
   else
    (lp (ZfV a) 0).bind fun r6=>
    match r6 with
    | (.inl r6)=>
     some 42
    | (.inr r6)=>
     (ZgW a).bind fun x7=>
     bif x7.2 then
      some 0
     else
      some 43
def Zdz (a:Zp) (s1:Int×(List Int)×(List Zo)×(List Zj)×(List (Int×Int))×(List (Int×Int))×(List (Zl×Int))):Option ((Int×(List Int)×(List Zo)×(List Zj)×(List (Int×Int))×(List (Int×Int))×(List (Zl×Int)))⊕((List Int)×(List Zo)×(List Zj)×(List (Int×Int))×(List (Int×Int))×(List (Zl×Int)))):=
 bif (decide (s1.1<(a.parts.length:Int))) then
  (Ze6 a s1.1 s1.2.1 s1.2.2.1 s1.2.2.2.1 s1.2.2.2.2.2.1 s1.2.2.2.2.2.2).bind fun x2=>
  match x2 with
  | (.inl x2)=>
   some (.inl ((w64 (s1.1+1)),x2.2.2.1,x2.2.2.2.1,x2.2.2.2.2,(ZB (fun ka kb:Int=>(ka==kb)) s1.2.2.2.2.1 s1.1 (s1.2.2.2.1.length:Int)),x2.1,x2.2.1))
  | (.inr (.inl x2))=>
   some (.inl ((w64 (s1.1+1)),x2,s1.2.2.1,(s1.2.2.2.1++[(Zj.mk s1.1 0)]),(ZB (fun ka kb:Int=>(ka==kb)) s1.2.2.2.2.1 s1.1 (s1.2.2.2.1.length:Int)),(ZB (fun ka kb:Int=>(ka==kb)) s1.2.2.2.2.2.1 s1.1 (w64 ((List.length (s1.2.2.2.1++[(Zj.mk s1.1 0)]):Int)-1))),s1.2.2.2.2.2.2))
  | (.inr (.inr x2))=>
   some (.inl ((w64 (s1.1+1)),s1.2.1,s1.2.2.1,s1.2.2.2.1,(ZB (fun ka kb:Int=>(ka==kb)) s1.2.2.2.2.1 s1.1 (s1.2.2.2.1.length:Int)),s1.2.2.2.2.2.1,s1.2.2.2.2.2.2))
 else
  some (.inr (s1.2.1,s1.2.2.1,s1.2.2.2.1,s1.2.2.2.2.1,s1.2.2.2.2.2.1,s1.2.2.2.2.2.2))
def Zd3 (a:Zp) (r3:((List Int)×(List Zo)×(List Zj)×(List (Int×Int))×(List (Int×Int))×(List (Zl×Int)))) (s4:Int×(List Zo)):Option ((Int×(List Zo))⊕(List Zo)):=
 bif (decide (s4.1<(a.edges.length:Int))) then
  (Zx a.edges s4.1).bind fun x5=>
  (Z2 (ZaT (fun ka kb:Int=>(ka==kb)) r3.2.2.2.2.1 x5.src 0) (ZaT (fun ka kb:Int=>(ka==kb)) r3.2.2.2.1 x5.dst 0) s4.2).bind fun x6=>
  some (.inl ((w64 (s4.1+1)),(s4.2++[(Zo.mk (ZaT (fun ka kb:Int=>(ka==kb)) r3.2.2.2.2.1 x5.src 0) (ZaT (fun ka kb:Int=>(ka==kb)) r3.2.2.2.1 x5.dst 0))])))
 else
  some (.inr s4.2)
def Zef (a:Zp) (r3:((List Int)×(List Zo)×(List Zj)×(List (Int×Int))×(List (Int×Int))×(List (Zl×Int)))) (s8:Int×(List Zo)):Option ((Int×(List Zo))⊕(List Zo)):=
 bif (decide (s8.1<(a.futures.length:Int))) then
  (Zx a.futures s8.1).bind fun x9=>
  (Z2 (ZaT (fun ka kb:Int=>(ka==kb)) r3.2.2.2.2.1 x9.maker 0) (ZaT (fun ka kb:Zl=>((ka.maker==kb.maker)&&((ka.user==kb.user)&&((ka.pos==kb.pos)&&true)))) r3.2.2.2.2.2 x9 0) s8.2).bind fun x10=>
  some (.inl ((w64 (s8.1+1)),(s8.2++[(Zo.mk (ZaT (fun ka kb:Int=>(ka==kb)) r3.2.2.2.2.1 x9.maker 0) (ZaT (fun ka kb:Zl=>((ka.maker==kb.maker)&&((ka.user==kb.user)&&((ka.pos==kb.pos)&&true)))) r3.2.2.2.2.2 x9 0))])))
 else
  some (.inr s8.2)
def Zfn (r3:((List Int)×(List Zo)×(List Zj)×(List (Int×Int))×(List (Int×Int))×(List (Zl×Int)))) (s12:Int×(List Int)×(List Zo)×(List Zj)) (x13:Zw) (s15:Int×(List Zo)):Option ((Int×(List Zo))⊕(List Zo)):=
 bif (decide (s15.1<(x13.ins.length:Int))) then
  (Zx x13.ins s15.1).bind fun x16=>
  (Z2 (ZaT (fun ka kb:Int=>(ka==kb)) r3.2.2.2.2.1 x16 0) (w64 ((List.length (s12.2.2.2++[(Zj.mk (-1) s12.1)]):Int)-1)) s15.2).bind fun x17=>
  some (.inl ((w64 (s15.1+1)),(s15.2++[(Zo.mk (ZaT (fun ka kb:Int=>(ka==kb)) r3.2.2.2.2.1 x16 0) (w64 ((List.length (s12.2.2.2++[(Zj.mk (-1) s12.1)]):Int)-1)))])))
 else
  some (.inr s15.2)
def Zfp (r3:((List Int)×(List Zo)×(List Zj)×(List (Int×Int))×(List (Int×Int))×(List (Zl×Int)))) (s12:Int×(List Int)×(List Zo)×(List Zj)) (x13:Zw) (s19:Int×(List Zo)):Option ((Int×(List Zo))⊕(List Zo)):=
 bif (decide (s19.1<(x13.outs.length:Int))) then
  (Zx x13.outs s19.1).bind fun x20=>
  (Z2 (w64 ((List.length (s12.2.2.2++[(Zj.mk (-1) s12.1)]):Int)-1)) (ZaT (fun ka kb:Int=>(ka==kb)) r3.2.2.2.1 x20 0) s19.2).bind fun x21=>
  some (.inl ((w64 (s19.1+1)),(s19.2++[(Zo.mk (w64 ((List.length (s12.2.2.2++[(Zj.mk (-1) s12.1)]):Int)-1)) (ZaT (fun ka kb:Int=>(ka==kb)) r3.2.2.2.1 x20 0))])))
 else
  some (.inr s19.2)
def Zea (a:Zp) (r3:((List Int)×(List Zo)×(List Zj)×(List (Int×Int))×(List (Int×Int))×(List (Zl×Int)))) (s12:Int×(List Int)×(List Zo)×(List Zj)):Option ((Int×(List Int)×(List Zo)×(List Zj))⊕((List Int)×(List Zo)×(List Zj))):=
 bif (decide (s12.1<(a.barriers.length:Int))) then
  (Zx a.barriers s12.1).bind fun x13=>
  (Za9 (Zj.mk (-1) s12.1) 1 s12.2.1 s12.2.2.2).bind fun x14=>
  (lp (Zfn r3 s12 x13) (0,s12.2.2.1)).bind fun r18=>
  (lp (Zfp r3 s12 x13) (0,r18)).bind fun r22=>
  some (.inl ((w64 (s12.1+1)),(s12.2.1++[1]),r22,(s12.2.2.2++[(Zj.mk (-1) s12.1)])))
 else
  some (.inr (s12.2.1,s12.2.2.1,s12.2.2.2))
def Zik (a:Zp):Option (Znj×Int):=
 (ZhT a).bind fun x0=>
 bif (x0 != 0) then
  some ((Znj.mk (Zar.mk ([]:List Int) ([]:List Zo)) ([]:List Zj)),x0)
 else
  (lp (Zdz a) (0,([]:List Int),([]:List Zo),([]:List Zj),([]:(List (Int×Int))),([]:(List (Int×Int))),([]:(List (Zl×Int))))).bind fun r3=>
  (lp (Zd3 a r3) (0,r3.2.1)).bind fun r7=>
  (lp (Zef a r3) (0,r7)).bind fun r11=>
  (lp (Zea a r3) (0,r3.1,r11,r3.2.2.1)).bind fun r23=>
  (ZhI (Zar.mk r23.1 r23.2.1)).bind fun x24=>
  bif (x24 != 0) then
   some ((Znj.mk (Zar.mk ([]:List Int) ([]:List Zo)) ([]:List Zj)),70)
  else
   some ((Znj.mk (Zar.mk r23.1 r23.2.1) r23.2.2),0)
def ZgI (a:Zar) (s1:Int×Int):Option ((Int×Int)⊕Int):=
 bif (decide (s1.2<(a.work.length:Int))) then
  (Zx a.work s1.2).bind fun x2=>
  some (.inl ((w64 (s1.1+x2)),(w64 (s1.2+1))))
 else
  some (.inr s1.1)
def Zjw (a:Zar):Option Int:=
 (ZhI a).bind fun x0=>
 bif (x0==0) then
  (lp (ZgI a) (0,0)).bind fun r3=>
  some r3
 else
  some 0
def Zjz (a:Zar):Option (List Int):=
 (ZhI a).bind fun x0=>
 bif (x0 != 0) then
  some ([]:List Int)
 else
  (ZgW a).bind fun x1=>
  bif x1.2 then
   some x1.1
  else
   some x1.1
def Zgm (a:Zo) (b0:Int):Option (Int×Bool):=
 bif (a.dst==b0) then
  some (a.src,true)
 else
  some (a.src,false)
def Zha (a:Int):Option Bool:=
 bif (a != a) then
  some true
 else
  some false
def Zaa (a:Int) (b:Int):Option Bool:=
 (Zha a).bind fun x0=>
 bif x0 then
  (Zha b).bind fun x1=>
  bif x1 then
   bif (decide (a<b)) then
    some true
   else
    some false
  else
   some true
 else
  bif (decide (a<b)) then
   some true
  else
   some false
def Zbw (b:Int) (s1:Int×(List Int)):Option ((Int×(List Int))⊕(List Int)):=
 bif (decide (b<s1.1)) then
  (Zx s1.2 s1.1).bind fun x2=>
  (Zx s1.2 (w64 (s1.1-1))).bind fun x3=>
  (Zaa x2 x3).bind fun x4=>
  bif x4 then
   (Zx (List.set s1.2 s1.1.toNat x3) (w64 (s1.1-1))).bind fun x5=>
   some (.inl ((w64 (s1.1-1)),(List.set (List.set s1.2 s1.1.toNat x3) (w64 (s1.1-1)).toNat x2)))
  else
   some (.inr s1.2)
 else
  some (.inr s1.2)
def Zbv (b:Int) (c:Int) (s0:Int×(List Int)):Option ((Int×(List Int))⊕(List Int)):=
 bif (decide (s0.1<c)) then
  (lp (Zbw b) (s0.1,s0.2)).bind fun r6=>
  some (.inl ((w64 (s0.1+1)),r6))
 else
  some (.inr s0.2)
def ZaB (b:Int) (c:Int) (m0_0:List Int):Option (List Int):=
 (lp (Zbv b c) ((w64 (b+1)),m0_0)).bind fun r7=>
 some r7
def Zb1 (c:Int) (d:Int) (s0:Int×(List Int)):Option ((Int×(List Int))⊕((List Int)⊕(List Int))):=
 bif (decide (c≤(w64 ((w64 (2*s0.1))+1)))) then
  some (.inr (.inl s0.2))
 else
  bif (decide ((w64 ((w64 ((w64 (2*s0.1))+1))+1))<c)) then
   (Zx s0.2 (w64 (d+(w64 ((w64 (2*s0.1))+1))))).bind fun x1=>
   (Zx s0.2 (w64 ((w64 (d+(w64 ((w64 (2*s0.1))+1))))+1))).bind fun x2=>
   (Zaa x1 x2).bind fun x3=>
   bif x3 then
    (Zx s0.2 (w64 (d+s0.1))).bind fun x4=>
    (Zx s0.2 (w64 (d+(w64 ((w64 ((w64 (2*s0.1))+1))+1))))).bind fun x5=>
    (Zaa x4 x5).bind fun x6=>
    bif x6 then
     (Zx (List.set s0.2 (w64 (d+s0.1)).toNat x5) (w64 (d+(w64 ((w64 ((w64 (2*s0.1))+1))+1))))).bind fun x7=>
     some (.inl ((w64 ((w64 ((w64 (2*s0.1))+1))+1)),(List.set (List.set s0.2 (w64 (d+s0.1)).toNat x5) (w64 (d+(w64 ((w64 ((w64 (2*s0.1))+1))+1)))).toNat x4)))
    else
     some (.inr (.inr s0.2))
   else
    (Zx s0.2 (w64 (d+s0.1))).bind fun x8=>
    (Zaa x8 x1).bind fun x9=>
    bif x9 then
     (Zx (List.set s0.2 (w64 (d+s0.1)).toNat x1) (w64 (d+(w64 ((w64 (2*s0.1))+1))))).bind fun x10=>
     some (.inl ((w64 ((w64 (2*s0.1))+1)),(List.set (List.set s0.2 (w64 (d+s0.1)).toNat x1) (w64 (d+(w64 ((w64 (2*s0.1))+1)))).toNat x8)))
    else
     some (.inr (.inr s0.2))
  else
   (Zx s0.2 (w64 (d+s0.1))).bind fun x11=>
   (Zx s0.2 (w64 (d+(w64 ((w64 (2*s0.1))+1))))).bind fun x12=>
   (Zaa x11 x12).bind fun x13=>
   bif x13 then
    (Zx (List.set s0.2 (w64 (d+s0.1)).toNat x12) (w64 (d+(w64 ((w64 (2*s0.1))+1))))).bind fun x14=>
    some (.inl ((w64 ((w64 (2*s0.1))+1)),(List.set (List.set s0.2 (w64 (d+s0.1)).toNat x12) (w64 (d+(w64 ((w64 (2*s0.1))+1)))).toNat x11)))
   else
    some (.inr (.inr s0.2))
def ZbM (b:Int) (c:Int) (d:Int) (m0_0:List Int):Option (List Int):=
 (lp (Zb1 c d) (b,m0_0)).bind fun r15=>
 match r15 with
 | (.inl r15)=>
  some r15
 | (.inr r15)=>
  some r15
def ZbY (b:Int) (c:Int) (s0:Int×(List Int)):Option ((Int×(List Int))⊕(List Int)):=
 bif (decide (0≤s0.1)) then
  (ZbM s0.1 (w64 (c-b)) b s0.2).bind fun x1=>
  some (.inl ((w64 (s0.1-1)),x1))
 else
  some (.inr s0.2)
def Zb0 (b:Int) (s3:Int×(List Int)):Option ((Int×(List Int))⊕(List Int)):=
 bif (decide (0≤s3.1)) then
  (Zx s3.2 (w64 (b+s3.1))).bind fun x4=>
  (Zx s3.2 b).bind fun x5=>
  (Zx (List.set s3.2 b.toNat x4) (w64 (b+s3.1))).bind fun x6=>
  (ZbM 0 s3.1 b (List.set (List.set s3.2 b.toNat x4) (w64 (b+s3.1)).toNat x5)).bind fun x7=>
  some (.inl ((w64 (s3.1-1)),x7))
 else
  some (.inr s3.2)
def Zbb (b:Int) (c:Int) (m0_0:List Int):Option (List Int):=
 (lp (ZbY b c) ((w64 (Int.tdiv (w64 ((w64 (c-b))-1)) 2)),m0_0)).bind fun r2=>
 (lp (Zb0 b) ((w64 ((w64 (c-b))-1)),r2)).bind fun r8=>
 some r8
def ZbE (b:Int) (c:Int) (m0_0:List Int) (m1_0:Int):Option (Int×Int×Int):=
 (Zx m0_0 c).bind fun x0=>
 (Zx m0_0 b).bind fun x1=>
 (Zaa x0 x1).bind fun x2=>
 bif x2 then
  some (c,b,(w64 (m1_0+1)))
 else
  some (b,c,m1_0)
def ZbF (b:Int) (c:Int) (d:Int) (m0_0:List Int) (m1_0:Int):Option (Int×Int):=
 (ZbE b c m0_0 m1_0).bind fun x0=>
 (ZbE x0.2.1 d m0_0 x0.2.2).bind fun x1=>
 (ZbE x0.1 x1.1 m0_0 x1.2.2).bind fun x2=>
 some (x2.2.1,x2.2.2)
def ZaU (b:Int) (m0_0:List Int) (m1_0:Int):Option (Int×Int):=
 (ZbF (w64 (b-1)) b (w64 (b+1)) m0_0 m1_0).bind fun x0=>
 some (x0.1,x0.2)
def ZaQ (b:Int) (c:Int) (m0_0:List Int):Option (Int×Int):=
 bif (decide (8≤(w64 (c-b)))) then
  bif (decide (50≤(w64 (c-b)))) then
   (ZaU (w64 (b+(w64 ((w64 (Int.tdiv (w64 (c-b)) 4))*1)))) m0_0 0).bind fun x0=>
   (ZaU (w64 (b+(w64 ((w64 (Int.tdiv (w64 (c-b)) 4))*2)))) m0_0 x0.2).bind fun x1=>
   (ZaU (w64 (b+(w64 ((w64 (Int.tdiv (w64 (c-b)) 4))*3)))) m0_0 x1.2).bind fun x2=>
   (ZbF x0.1 x1.1 x2.1 m0_0 x2.2).bind fun x3=>
   bif (x3.2==0) then
    some (x3.1,1)
   else
    bif (x3.2==12) then
     some (x3.1,2)
    else
     some (x3.1,0)
  else
   (ZbF (w64 (b+(w64 ((w64 (Int.tdiv (w64 (c-b)) 4))*1)))) (w64 (b+(w64 ((w64 (Int.tdiv (w64 (c-b)) 4))*2)))) (w64 (b+(w64 ((w64 (Int.tdiv (w64 (c-b)) 4))*3)))) m0_0 0).bind fun x4=>
   bif (x4.2==0) then
    some (x4.1,1)
   else
    bif (x4.2==12) then
     some (x4.1,2)
    else
     some (x4.1,0)
 else
  some ((w64 (b+(w64 ((w64 (Int.tdiv (w64 (c-b)) 4))*2)))),1)
def ZbC (s0:Int×Int×(List Int)):Option ((Int×Int×(List Int))⊕(List Int)):=
 bif (decide (s0.1<s0.2.1)) then
  (Zx s0.2.2 s0.2.1).bind fun x1=>
  (Zx s0.2.2 s0.1).bind fun x2=>
  (Zx (List.set s0.2.2 s0.1.toNat x1) s0.2.1).bind fun x3=>
  some (.inl ((w64 (s0.1+1)),(w64 (s0.2.1-1)),(List.set (List.set s0.2.2 s0.1.toNat x1) s0.2.1.toNat x2)))
 else
  some (.inr s0.2.2)
def ZaJ (b:Int) (c:Int) (m0_0:List Int):Option (List Int):=
 (lp (ZbC) (b,(w64 (c-1)),m0_0)).bind fun r4=>
 some r4
def Za2 (c:Int) (s0:Int×Int×(List Int)) (s1:Int):Option (Int⊕Int):=
 bif (decide (s1<c)) then
  (Zx s0.2.2 s1).bind fun x2=>
  (Zx s0.2.2 (w64 (s1-1))).bind fun x3=>
  (Zaa x2 x3).bind fun x4=>
  bif x4 then
   some (.inr s1)
  else
   some (.inl (w64 (s1+1)))
 else
  some (.inr s1)
def ZaZ (s9:Int×(List Int)):Option ((Int×(List Int))⊕(List Int)):=
 bif (decide (1≤s9.1)) then
  (Zx s9.2 s9.1).bind fun x10=>
  (Zx s9.2 (w64 (s9.1-1))).bind fun x11=>
  (Zaa x10 x11).bind fun x12=>
  bif x12 then
   (Zx (List.set s9.2 s9.1.toNat x11) (w64 (s9.1-1))).bind fun x13=>
   some (.inl ((w64 (s9.1-1)),(List.set (List.set s9.2 s9.1.toNat x11) (w64 (s9.1-1)).toNat x10)))
  else
   some (.inr s9.2)
 else
  some (.inr s9.2)
def Zat (c:Int) (s15:Int×(List Int)):Option ((Int×(List Int))⊕(List Int)):=
 bif (decide (s15.1<c)) then
  (Zx s15.2 s15.1).bind fun x16=>
  (Zx s15.2 (w64 (s15.1-1))).bind fun x17=>
  (Zaa x16 x17).bind fun x18=>
  bif x18 then
   (Zx (List.set s15.2 s15.1.toNat x17) (w64 (s15.1-1))).bind fun x19=>
   some (.inl ((w64 (s15.1+1)),(List.set (List.set s15.2 s15.1.toNat x17) (w64 (s15.1-1)).toNat x16)))
  else
   some (.inr s15.2)
 else
  some (.inr s15.2)
def Za1 (b:Int) (c:Int) (s0:Int×Int×(List Int)):Option ((Int×Int×(List Int))⊕((List Int)⊕((List Int)⊕(List Int)))):=
 bif (decide (s0.2.1<5)) then
  (lp (Za2 c s0) s0.1).bind fun r5=>
  bif (r5==c) then
   some (.inr (.inl s0.2.2))
  else
   bif (decide ((w64 (c-b))<50)) then
    some (.inr (.inr (.inl s0.2.2)))
   else
    (Zx s0.2.2 (w64 (r5-1))).bind fun x6=>
    (Zx s0.2.2 r5).bind fun x7=>
    (Zx (List.set s0.2.2 r5.toNat x6) (w64 (r5-1))).bind fun x8=>
    bif (decide (2≤(w64 (r5-b)))) then
     (lp (ZaZ) ((w64 (r5-1)),(List.set (List.set s0.2.2 r5.toNat x6) (w64 (r5-1)).toNat x7))).bind fun r14=>
     bif (decide (2≤(w64 (c-r5)))) then
      (lp (Zat c) ((w64 (r5+1)),r14)).bind fun r20=>
      some (.inl (r5,(w64 (s0.2.1+1)),r20))
     else
      some (.inl (r5,(w64 (s0.2.1+1)),r14))
    else
     bif (decide (2≤(w64 (c-r5)))) then
      (lp (Zat c) ((w64 (r5+1)),(List.set (List.set s0.2.2 r5.toNat x6) (w64 (r5-1)).toNat x7))).bind fun r26=>
      some (.inl (r5,(w64 (s0.2.1+1)),r26))
     else
      some (.inl (r5,(w64 (s0.2.1+1)),(List.set (List.set s0.2.2 r5.toNat x6) (w64 (r5-1)).toNat x7)))
 else
  some (.inr (.inr (.inr s0.2.2)))
def ZaN (b:Int) (c:Int) (m0_0:List Int):Option ((List Int)⊕(List Int)):=
 (lp (Za1 b c) ((w64 (b+1)),0,m0_0)).bind fun r27=>
 match r27 with
 | (.inl r27)=>
  some (.inl r27)
 | (.inr (.inl r27))=>
  some (.inr r27)
 | (.inr (.inr r27))=>
  some (.inr r27)
def ZbT (b:Int) (c:Int) (d:Int) (m0_0:List Int) (x0:Int) (x1:Int) (s3:Int):Option (Int⊕Int):=
 bif (decide (s3≤(w64 (c-1)))) then
  (Zx (List.set (List.set m0_0 b.toNat x0) d.toNat x1) s3).bind fun x4=>
  (Zx (List.set (List.set m0_0 b.toNat x0) d.toNat x1) b).bind fun x5=>
  (Zaa x4 x5).bind fun x6=>
  bif x6 then
   some (.inl (w64 (s3+1)))
  else
   some (.inr s3)
 else
  some (.inr s3)
def ZbN (b:Int) (d:Int) (m0_0:List Int) (x0:Int) (x1:Int) (r7:Int) (s8:Int):Option (Int⊕Int):=
 bif (decide (r7≤s8)) then
  (Zx (List.set (List.set m0_0 b.toNat x0) d.toNat x1) s8).bind fun x9=>
  (Zx (List.set (List.set m0_0 b.toNat x0) d.toNat x1) b).bind fun x10=>
  (Zaa x9 x10).bind fun x11=>
  bif x11 then
   some (.inr s8)
  else
   some (.inl (w64 (s8-1)))
 else
  some (.inr s8)
def ZbO (b:Int) (s19:Int×Int×(List Int)) (s20:Int):Option (Int⊕Int):=
 bif (decide (s20≤s19.2.1)) then
  (Zx s19.2.2 s20).bind fun x21=>
  (Zx s19.2.2 b).bind fun x22=>
  (Zaa x21 x22).bind fun x23=>
  bif x23 then
   some (.inl (w64 (s20+1)))
  else
   some (.inr s20)
 else
  some (.inr s20)
def ZbQ (b:Int) (s19:Int×Int×(List Int)) (r24:Int) (s25:Int):Option (Int⊕Int):=
 bif (decide (r24≤s25)) then
  (Zx s19.2.2 s25).bind fun x26=>
  (Zx s19.2.2 b).bind fun x27=>
  (Zaa x26 x27).bind fun x28=>
  bif x28 then
   some (.inr s25)
  else
   some (.inl (w64 (s25-1)))
 else
  some (.inr s25)
def ZbR (b:Int) (s19:Int×Int×(List Int)):Option ((Int×Int×(List Int))⊕(Int×(List Int))):=
 (lp (ZbO b s19) s19.1).bind fun r24=>
 (lp (ZbQ b s19 r24) s19.2.1).bind fun r29=>
 bif (decide (r29<r24)) then
  some (.inr (r29,s19.2.2))
 else
  (Zx s19.2.2 r29).bind fun x30=>
  (Zx s19.2.2 r24).bind fun x31=>
  (Zx (List.set s19.2.2 r24.toNat x30) r29).bind fun x32=>
  some (.inl ((w64 (r24+1)),(w64 (r29-1)),(List.set (List.set s19.2.2 r24.toNat x30) r29.toNat x31)))
def Zy (b:Int) (c:Int) (d:Int) (m0_0:List Int):Option ((Int×(List Int))⊕(Int×(List Int))):=
 (Zx m0_0 d).bind fun x0=>
 (Zx m0_0 b).bind fun x1=>
 (Zx (List.set m0_0 b.toNat x0) d).bind fun x2=>
 (lp (ZbT b c d m0_0 x0 x1) (w64 (b+1))).bind fun r7=>
 (lp (ZbN b d m0_0 x0 x1 r7) (w64 (c-1))).bind fun r12=>
 bif (decide (r12<r7)) then
  (Zx (List.set (List.set m0_0 b.toNat x0) d.toNat x1) b).bind fun x13=>
  (Zx (List.set (List.set m0_0 b.toNat x0) d.toNat x1) r12).bind fun x14=>
  (Zx (List.set (List.set (List.set m0_0 b.toNat x0) d.toNat x1) r12.toNat x13) b).bind fun x15=>
  some (.inl (r12,(List.set (List.set (List.set (List.set m0_0 b.toNat x0) d.toNat x1) r12.toNat x13) b.toNat x14)))
 else
  (Zx (List.set (List.set m0_0 b.toNat x0) d.toNat x1) r12).bind fun x16=>
  (Zx (List.set (List.set m0_0 b.toNat x0) d.toNat x1) r7).bind fun x17=>
  (Zx (List.set (List.set (List.set m0_0 b.toNat x0) d.toNat x1) r7.toNat x16) r12).bind fun x18=>
  (lp (ZbR b) ((w64 (r7+1)),(w64 (r12-1)),(List.set (List.set (List.set (List.set m0_0 b.toNat x0) d.toNat x1) r7.toNat x16) r12.toNat x17))).bind fun r33=>
  (Zx r33.2 b).bind fun x34=>
  (Zx r33.2 r33.1).bind fun x35=>
  (Zx (List.set r33.2 r33.1.toNat x34) b).bind fun x36=>
  some (.inr (r33.1,(List.set (List.set r33.2 r33.1.toNat x34) b.toNat x35)))
def Zbp (b:Int) (s3:Int×Int×(List Int)) (s4:Int):Option (Int⊕Int):=
 bif (decide (s4≤s3.2.1)) then
  (Zx s3.2.2 b).bind fun x5=>
  (Zx s3.2.2 s4).bind fun x6=>
  (Zaa x5 x6).bind fun x7=>
  bif x7 then
   some (.inr s4)
  else
   some (.inl (w64 (s4+1)))
 else
  some (.inr s4)
def Zbq (b:Int) (s3:Int×Int×(List Int)) (r8:Int) (s9:Int):Option (Int⊕Int):=
 bif (decide (r8≤s9)) then
  (Zx s3.2.2 b).bind fun x10=>
  (Zx s3.2.2 s9).bind fun x11=>
  (Zaa x10 x11).bind fun x12=>
  bif x12 then
   some (.inl (w64 (s9-1)))
  else
   some (.inr s9)
 else
  some (.inr s9)
def Zbr (b:Int) (s3:Int×Int×(List Int)):Option ((Int×Int×(List Int))⊕(Int×(List Int))):=
 (lp (Zbp b s3) s3.1).bind fun r8=>
 (lp (Zbq b s3 r8) s3.2.1).bind fun r13=>
 bif (decide (r13<r8)) then
  some (.inr (r8,s3.2.2))
 else
  (Zx s3.2.2 r13).bind fun x14=>
  (Zx s3.2.2 r8).bind fun x15=>
  (Zx (List.set s3.2.2 r8.toNat x14) r13).bind fun x16=>
  some (.inl ((w64 (r8+1)),(w64 (r13-1)),(List.set (List.set s3.2.2 r8.toNat x14) r13.toNat x15)))
def ZP (b:Int) (c:Int) (d:Int) (m0_0:List Int):Option (Int×(List Int)):=
 (Zx m0_0 d).bind fun x0=>
 (Zx m0_0 b).bind fun x1=>
 (Zx (List.set m0_0 b.toNat x0) d).bind fun x2=>
 (lp (Zbr b) ((w64 (b+1)),(w64 (c-1)),(List.set (List.set m0_0 b.toNat x0) d.toNat x1))).bind fun r17=>
 some (r17.1,r17.2)
def Zbx (b:Int) (c:Int) (x0:Int) (s1:Int×(List Int)×Int):Option ((Int×(List Int)×Int)⊕(List Int)):=
 bif (decide (s1.1≤(w64 ((w64 (b+(w64 ((w64 (Int.tdiv (w64 (c-b)) 4))*2))))+1)))) then
  ZdM.bind fun x2=>
  bif (decide ((w64 (c-b))≤(w64 (u64.wrap (Zi (u64.wrap (Zi (u64.wrap (Zi (u64.wrap (Zi s1.2.2 ^^^ Zi (u64.wrap (s1.2.2*2 ^ 13))).toNat) ^^^ Zi (Int.fdiv (u64.wrap (Zi s1.2.2 ^^^ Zi (u64.wrap (s1.2.2*2 ^ 13))).toNat) (2 ^ 7))).toNat) ^^^ Zi (u64.wrap ((u64.wrap (Zi (u64.wrap (Zi s1.2.2 ^^^ Zi (u64.wrap (s1.2.2*2 ^ 13))).toNat) ^^^ Zi (Int.fdiv (u64.wrap (Zi s1.2.2 ^^^ Zi (u64.wrap (s1.2.2*2 ^ 13))).toNat) (2 ^ 7))).toNat)*2 ^ 17))).toNat) &&& Zi (u64.wrap (x0-1))).toNat)))) then
   (Zx s1.2.1 (w64 (b+(w64 ((w64 (u64.wrap (Zi (u64.wrap (Zi (u64.wrap (Zi (u64.wrap (Zi s1.2.2 ^^^ Zi (u64.wrap (s1.2.2*2 ^ 13))).toNat) ^^^ Zi (Int.fdiv (u64.wrap (Zi s1.2.2 ^^^ Zi (u64.wrap (s1.2.2*2 ^ 13))).toNat) (2 ^ 7))).toNat) ^^^ Zi (u64.wrap ((u64.wrap (Zi (u64.wrap (Zi s1.2.2 ^^^ Zi (u64.wrap (s1.2.2*2 ^ 13))).toNat) ^^^ Zi (Int.fdiv (u64.wrap (Zi s1.2.2 ^^^ Zi (u64.wrap (s1.2.2*2 ^ 13))).toNat) (2 ^ 7))).toNat)*2 ^ 17))).toNat) &&& Zi (u64.wrap (x0-1))).toNat))-(w64 (c-b))))))).bind fun x3=>
   (Zx s1.2.1 s1.1).bind fun x4=>
   (Zx (List.set s1.2.1 s1.1.toNat x3) (w64 (b+(w64 ((w64 (u64.wrap (Zi (u64.wrap (Zi (u64.wrap (Zi (u64.wrap (Zi s1.2.2 ^^^ Zi (u64.wrap (s1.2.2*2 ^ 13))).toNat) ^^^ Zi (Int.fdiv (u64.wrap (Zi s1.2.2 ^^^ Zi (u64.wrap (s1.2.2*2 ^ 13))).toNat) (2 ^ 7))).toNat) ^^^ Zi (u64.wrap ((u64.wrap (Zi (u64.wrap (Zi s1.2.2 ^^^ Zi (u64.wrap (s1.2.2*2 ^ 13))).toNat) ^^^ Zi (Int.fdiv (u64.wrap (Zi s1.2.2 ^^^ Zi (u64.wrap (s1.2.2*2 ^ 13))).toNat) (2 ^ 7))).toNat)*2 ^ 17))).toNat) &&& Zi (u64.wrap (x0-1))).toNat))-(w64 (c-b))))))).bind fun x5=>
   some (.inl ((w64 (s1.1+1)),(List.set (List.set s1.2.1 s1.1.toNat x3) (w64 (b+(w64 ((w64 (u64.wrap (Zi (u64.wrap (Zi (u64.wrap (Zi (u64.wrap (Zi s1.2.2 ^^^ Zi (u64.wrap (s1.2.2*2 ^ 13))).toNat) ^^^ Zi (Int.fdiv (u64.wrap (Zi s1.2.2 ^^^ Zi (u64.wrap (s1.2.2*2 ^ 13))).toNat) (2 ^ 7))).toNat) ^^^ Zi (u64.wrap ((u64.wrap (Zi (u64.wrap (Zi s1.2.2 ^^^ Zi (u64.wrap (s1.2.2*2 ^ 13))).toNat) ^^^ Zi (Int.fdiv (u64.wrap (Zi s1.2.2 ^^^ Zi (u64.wrap (s1.2.2*2 ^ 13))).toNat) (2 ^ 7))).toNat)*2 ^ 17))).toNat) &&& Zi (u64.wrap (x0-1))).toNat))-(w64 (c-b)))))).toNat x4),(u64.wrap (Zi (u64.wrap (Zi (u64.wrap (Zi s1.2.2 ^^^ Zi (u64.wrap (s1.2.2*2 ^ 13))).toNat) ^^^ Zi (Int.fdiv (u64.wrap (Zi s1.2.2 ^^^ Zi (u64.wrap (s1.2.2*2 ^ 13))).toNat) (2 ^ 7))).toNat) ^^^ Zi (u64.wrap ((u64.wrap (Zi (u64.wrap (Zi s1.2.2 ^^^ Zi (u64.wrap (s1.2.2*2 ^ 13))).toNat) ^^^ Zi (Int.fdiv (u64.wrap (Zi s1.2.2 ^^^ Zi (u64.wrap (s1.2.2*2 ^ 13))).toNat) (2 ^ 7))).toNat)*2 ^ 17))).toNat)))
  else
   (Zx s1.2.1 (w64 (b+(w64 (u64.wrap (Zi (u64.wrap (Zi (u64.wrap (Zi (u64.wrap (Zi s1.2.2 ^^^ Zi (u64.wrap (s1.2.2*2 ^ 13))).toNat) ^^^ Zi (Int.fdiv (u64.wrap (Zi s1.2.2 ^^^ Zi (u64.wrap (s1.2.2*2 ^ 13))).toNat) (2 ^ 7))).toNat) ^^^ Zi (u64.wrap ((u64.wrap (Zi (u64.wrap (Zi s1.2.2 ^^^ Zi (u64.wrap (s1.2.2*2 ^ 13))).toNat) ^^^ Zi (Int.fdiv (u64.wrap (Zi s1.2.2 ^^^ Zi (u64.wrap (s1.2.2*2 ^ 13))).toNat) (2 ^ 7))).toNat)*2 ^ 17))).toNat) &&& Zi (u64.wrap (x0-1))).toNat))))).bind fun x6=>
   (Zx s1.2.1 s1.1).bind fun x7=>
   (Zx (List.set s1.2.1 s1.1.toNat x6) (w64 (b+(w64 (u64.wrap (Zi (u64.wrap (Zi (u64.wrap (Zi (u64.wrap (Zi s1.2.2 ^^^ Zi (u64.wrap (s1.2.2*2 ^ 13))).toNat) ^^^ Zi (Int.fdiv (u64.wrap (Zi s1.2.2 ^^^ Zi (u64.wrap (s1.2.2*2 ^ 13))).toNat) (2 ^ 7))).toNat) ^^^ Zi (u64.wrap ((u64.wrap (Zi (u64.wrap (Zi s1.2.2 ^^^ Zi (u64.wrap (s1.2.2*2 ^ 13))).toNat) ^^^ Zi (Int.fdiv (u64.wrap (Zi s1.2.2 ^^^ Zi (u64.wrap (s1.2.2*2 ^ 13))).toNat) (2 ^ 7))).toNat)*2 ^ 17))).toNat) &&& Zi (u64.wrap (x0-1))).toNat))))).bind fun x8=>
   some (.inl ((w64 (s1.1+1)),(List.set (List.set s1.2.1 s1.1.toNat x6) (w64 (b+(w64 (u64.wrap (Zi (u64.wrap (Zi (u64.wrap (Zi (u64.wrap (Zi s1.2.2 ^^^ Zi (u64.wrap (s1.2.2*2 ^ 13))).toNat) ^^^ Zi (Int.fdiv (u64.wrap (Zi s1.2.2 ^^^ Zi (u64.wrap (s1.2.2*2 ^ 13))).toNat) (2 ^ 7))).toNat) ^^^ Zi (u64.wrap ((u64.wrap (Zi (u64.wrap (Zi s1.2.2 ^^^ Zi (u64.wrap (s1.2.2*2 ^ 13))).toNat) ^^^ Zi (Int.fdiv (u64.wrap (Zi s1.2.2 ^^^ Zi (u64.wrap (s1.2.2*2 ^ 13))).toNat) (2 ^ 7))).toNat)*2 ^ 17))).toNat) &&& Zi (u64.wrap (x0-1))).toNat)))).toNat x7),(u64.wrap (Zi (u64.wrap (Zi (u64.wrap (Zi s1.2.2 ^^^ Zi (u64.wrap (s1.2.2*2 ^ 13))).toNat) ^^^ Zi (Int.fdiv (u64.wrap (Zi s1.2.2 ^^^ Zi (u64.wrap (s1.2.2*2 ^ 13))).toNat) (2 ^ 7))).toNat) ^^^ Zi (u64.wrap ((u64.wrap (Zi (u64.wrap (Zi s1.2.2 ^^^ Zi (u64.wrap (s1.2.2*2 ^ 13))).toNat) ^^^ Zi (Int.fdiv (u64.wrap (Zi s1.2.2 ^^^ Zi (u64.wrap (s1.2.2*2 ^ 13))).toNat) (2 ^ 7))).toNat)*2 ^ 17))).toNat)))
 else
  some (.inr s1.2.1)
def Zbm (b:Int) (c:Int) (m0_0:List Int):Option (List Int):=
 bif (decide (8≤(w64 (c-b)))) then
  (ZcE (w64 (c-b))).bind fun x0=>
  (lp (Zbx b c x0) ((w64 ((w64 (b+(w64 ((w64 (Int.tdiv (w64 (c-b)) 4))*2))))-1)),m0_0,(u64.wrap (w64 (c-b))))).bind fun r9=>
  some r9
 else
  some m0_0
def Zb9 (rc:Int→Int→Int→(List Int)→Option (List Int)) (s0:Int×Int×Int×Bool×Bool×(List Int)):Option ((Int×Int×Int×Bool×Bool×(List Int))⊕(List Int)):=
 bif s0.2.2.2.1 then
  bif s0.2.2.2.2.1 then
   bif (decide ((w64 (s0.2.1-s0.1))≤12)) then
    (ZaB s0.1 s0.2.1 s0.2.2.2.2.2).bind fun x1=>
    some (.inr x1)
   else
    bif (s0.2.2.1==0) then
     (Zbb s0.1 s0.2.1 s0.2.2.2.2.2).bind fun x2=>
     some (.inr x2)
    else
     (ZaQ s0.1 s0.2.1 s0.2.2.2.2.2).bind fun x3=>
     bif (x3.2==2) then
      (ZaJ s0.1 s0.2.1 s0.2.2.2.2.2).bind fun x4=>
      (ZaN s0.1 s0.2.1 x4).bind fun x5=>
      match x5 with
      | (.inl x5)=>
       some (.inr x5)
      | (.inr x5)=>
       bif (decide (0<s0.1)) then
        (Zx x5 (w64 (s0.1-1))).bind fun x6=>
        (Zx x5 (w64 ((w64 (s0.2.1-1))-(w64 (x3.1-s0.1))))).bind fun x7=>
        (Zaa x6 x7).bind fun x8=>
        bif x8 then
         (Zy s0.1 s0.2.1 (w64 ((w64 (s0.2.1-1))-(w64 (x3.1-s0.1)))) x5).bind fun x9=>
         match x9 with
         | (.inl x9)=>
          bif (decide ((w64 (x9.1-s0.1))<(w64 (s0.2.1-x9.1)))) then
           bif (decide ((w64 (Int.tdiv (w64 (s0.2.1-s0.1)) 8))≤(w64 (x9.1-s0.1)))) then
            (rc s0.1 x9.1 s0.2.2.1 x9.2).bind fun x10=>
            some (.inl ((w64 (x9.1+1)),s0.2.1,s0.2.2.1,true,true,x10))
           else
            (rc s0.1 x9.1 s0.2.2.1 x9.2).bind fun x11=>
            some (.inl ((w64 (x9.1+1)),s0.2.1,s0.2.2.1,false,true,x11))
          else
           bif (decide ((w64 (Int.tdiv (w64 (s0.2.1-s0.1)) 8))≤(w64 (s0.2.1-x9.1)))) then
            (rc (w64 (x9.1+1)) s0.2.1 s0.2.2.1 x9.2).bind fun x12=>
            some (.inl (s0.1,x9.1,s0.2.2.1,true,true,x12))
           else
            (rc (w64 (x9.1+1)) s0.2.1 s0.2.2.1 x9.2).bind fun x13=>
            some (.inl (s0.1,x9.1,s0.2.2.1,false,true,x13))
         | (.inr x9)=>
          bif (decide ((w64 (x9.1-s0.1))<(w64 (s0.2.1-x9.1)))) then
           bif (decide ((w64 (Int.tdiv (w64 (s0.2.1-s0.1)) 8))≤(w64 (x9.1-s0.1)))) then
            (rc s0.1 x9.1 s0.2.2.1 x9.2).bind fun x14=>
            some (.inl ((w64 (x9.1+1)),s0.2.1,s0.2.2.1,true,false,x14))
           else
            (rc s0.1 x9.1 s0.2.2.1 x9.2).bind fun x15=>
            some (.inl ((w64 (x9.1+1)),s0.2.1,s0.2.2.1,false,false,x15))
          else
           bif (decide ((w64 (Int.tdiv (w64 (s0.2.1-s0.1)) 8))≤(w64 (s0.2.1-x9.1)))) then
            (rc (w64 (x9.1+1)) s0.2.1 s0.2.2.1 x9.2).bind fun x16=>
            some (.inl (s0.1,x9.1,s0.2.2.1,true,false,x16))
           else
            (rc (w64 (x9.1+1)) s0.2.1 s0.2.2.1 x9.2).bind fun x17=>
            some (.inl (s0.1,x9.1,s0.2.2.1,false,false,x17))
        else
         (ZP s0.1 s0.2.1 (w64 ((w64 (s0.2.1-1))-(w64 (x3.1-s0.1)))) x5).bind fun x18=>
         some (.inl (x18.1,s0.2.1,s0.2.2.1,true,true,x18.2))
       else
        (Zy s0.1 s0.2.1 (w64 ((w64 (s0.2.1-1))-(w64 (x3.1-s0.1)))) x5).bind fun x19=>
        match x19 with
        | (.inl x19)=>
         bif (decide ((w64 (x19.1-s0.1))<(w64 (s0.2.1-x19.1)))) then
          bif (decide ((w64 (Int.tdiv (w64 (s0.2.1-s0.1)) 8))≤(w64 (x19.1-s0.1)))) then
           (rc s0.1 x19.1 s0.2.2.1 x19.2).bind fun x20=>
           some (.inl ((w64 (x19.1+1)),s0.2.1,s0.2.2.1,true,true,x20))
          else
           (rc s0.1 x19.1 s0.2.2.1 x19.2).bind fun x21=>
           some (.inl ((w64 (x19.1+1)),s0.2.1,s0.2.2.1,false,true,x21))
         else
          bif (decide ((w64 (Int.tdiv (w64 (s0.2.1-s0.1)) 8))≤(w64 (s0.2.1-x19.1)))) then
           (rc (w64 (x19.1+1)) s0.2.1 s0.2.2.1 x19.2).bind fun x22=>
           some (.inl (s0.1,x19.1,s0.2.2.1,true,true,x22))
          else
           (rc (w64 (x19.1+1)) s0.2.1 s0.2.2.1 x19.2).bind fun x23=>
           some (.inl (s0.1,x19.1,s0.2.2.1,false,true,x23))
        | (.inr x19)=>
         bif (decide ((w64 (x19.1-s0.1))<(w64 (s0.2.1-x19.1)))) then
          bif (decide ((w64 (Int.tdiv (w64 (s0.2.1-s0.1)) 8))≤(w64 (x19.1-s0.1)))) then
           (rc s0.1 x19.1 s0.2.2.1 x19.2).bind fun x24=>
           some (.inl ((w64 (x19.1+1)),s0.2.1,s0.2.2.1,true,false,x24))
          else
           (rc s0.1 x19.1 s0.2.2.1 x19.2).bind fun x25=>
           some (.inl ((w64 (x19.1+1)),s0.2.1,s0.2.2.1,false,false,x25))
         else
          bif (decide ((w64 (Int.tdiv (w64 (s0.2.1-s0.1)) 8))≤(w64 (s0.2.1-x19.1)))) then
           (rc (w64 (x19.1+1)) s0.2.1 s0.2.2.1 x19.2).bind fun x26=>
           some (.inl (s0.1,x19.1,s0.2.2.1,true,false,x26))
          else
           (rc (w64 (x19.1+1)) s0.2.1 s0.2.2.1 x19.2).bind fun x27=>
           some (.inl (s0.1,x19.1,s0.2.2.1,false,false,x27))
     else
      bif (x3.2==1) then
       (ZaN s0.1 s0.2.1 s0.2.2.2.2.2).bind fun x28=>
       match x28 with
       | (.inl x28)=>
        some (.inr x28)
       | (.inr x28)=>
        bif (decide (0<s0.1)) then
         (Zx x28 (w64 (s0.1-1))).bind fun x29=>
         (Zx x28 x3.1).bind fun x30=>
         (Zaa x29 x30).bind fun x31=>
         bif x31 then
          (Zy s0.1 s0.2.1 x3.1 x28).bind fun x32=>
          match x32 with
          | (.inl x32)=>
           bif (decide ((w64 (x32.1-s0.1))<(w64 (s0.2.1-x32.1)))) then
            bif (decide ((w64 (Int.tdiv (w64 (s0.2.1-s0.1)) 8))≤(w64 (x32.1-s0.1)))) then
             (rc s0.1 x32.1 s0.2.2.1 x32.2).bind fun x33=>
             some (.inl ((w64 (x32.1+1)),s0.2.1,s0.2.2.1,true,true,x33))
            else
             (rc s0.1 x32.1 s0.2.2.1 x32.2).bind fun x34=>
             some (.inl ((w64 (x32.1+1)),s0.2.1,s0.2.2.1,false,true,x34))
           else
            bif (decide ((w64 (Int.tdiv (w64 (s0.2.1-s0.1)) 8))≤(w64 (s0.2.1-x32.1)))) then
             (rc (w64 (x32.1+1)) s0.2.1 s0.2.2.1 x32.2).bind fun x35=>
             some (.inl (s0.1,x32.1,s0.2.2.1,true,true,x35))
            else
             (rc (w64 (x32.1+1)) s0.2.1 s0.2.2.1 x32.2).bind fun x36=>
             some (.inl (s0.1,x32.1,s0.2.2.1,false,true,x36))
          | (.inr x32)=>
           bif (decide ((w64 (x32.1-s0.1))<(w64 (s0.2.1-x32.1)))) then
            bif (decide ((w64 (Int.tdiv (w64 (s0.2.1-s0.1)) 8))≤(w64 (x32.1-s0.1)))) then
             (rc s0.1 x32.1 s0.2.2.1 x32.2).bind fun x37=>
             some (.inl ((w64 (x32.1+1)),s0.2.1,s0.2.2.1,true,false,x37))
            else
             (rc s0.1 x32.1 s0.2.2.1 x32.2).bind fun x38=>
             some (.inl ((w64 (x32.1+1)),s0.2.1,s0.2.2.1,false,false,x38))
           else
            bif (decide ((w64 (Int.tdiv (w64 (s0.2.1-s0.1)) 8))≤(w64 (s0.2.1-x32.1)))) then
             (rc (w64 (x32.1+1)) s0.2.1 s0.2.2.1 x32.2).bind fun x39=>
             some (.inl (s0.1,x32.1,s0.2.2.1,true,false,x39))
            else
             (rc (w64 (x32.1+1)) s0.2.1 s0.2.2.1 x32.2).bind fun x40=>
             some (.inl (s0.1,x32.1,s0.2.2.1,false,false,x40))
         else
          (ZP s0.1 s0.2.1 x3.1 x28).bind fun x41=>
          some (.inl (x41.1,s0.2.1,s0.2.2.1,true,true,x41.2))
        else
         (Zy s0.1 s0.2.1 x3.1 x28).bind fun x42=>
         match x42 with
         | (.inl x42)=>
          bif (decide ((w64 (x42.1-s0.1))<(w64 (s0.2.1-x42.1)))) then
           bif (decide ((w64 (Int.tdiv (w64 (s0.2.1-s0.1)) 8))≤(w64 (x42.1-s0.1)))) then
            (rc s0.1 x42.1 s0.2.2.1 x42.2).bind fun x43=>
            some (.inl ((w64 (x42.1+1)),s0.2.1,s0.2.2.1,true,true,x43))
           else
            (rc s0.1 x42.1 s0.2.2.1 x42.2).bind fun x44=>
            some (.inl ((w64 (x42.1+1)),s0.2.1,s0.2.2.1,false,true,x44))
          else
           bif (decide ((w64 (Int.tdiv (w64 (s0.2.1-s0.1)) 8))≤(w64 (s0.2.1-x42.1)))) then
            (rc (w64 (x42.1+1)) s0.2.1 s0.2.2.1 x42.2).bind fun x45=>
            some (.inl (s0.1,x42.1,s0.2.2.1,true,true,x45))
           else
            (rc (w64 (x42.1+1)) s0.2.1 s0.2.2.1 x42.2).bind fun x46=>
            some (.inl (s0.1,x42.1,s0.2.2.1,false,true,x46))
         | (.inr x42)=>
          bif (decide ((w64 (x42.1-s0.1))<(w64 (s0.2.1-x42.1)))) then
           bif (decide ((w64 (Int.tdiv (w64 (s0.2.1-s0.1)) 8))≤(w64 (x42.1-s0.1)))) then
            (rc s0.1 x42.1 s0.2.2.1 x42.2).bind fun x47=>
            some (.inl ((w64 (x42.1+1)),s0.2.1,s0.2.2.1,true,false,x47))
           else
            (rc s0.1 x42.1 s0.2.2.1 x42.2).bind fun x48=>
            some (.inl ((w64 (x42.1+1)),s0.2.1,s0.2.2.1,false,false,x48))
          else
           bif (decide ((w64 (Int.tdiv (w64 (s0.2.1-s0.1)) 8))≤(w64 (s0.2.1-x42.1)))) then
            (rc (w64 (x42.1+1)) s0.2.1 s0.2.2.1 x42.2).bind fun x49=>
            some (.inl (s0.1,x42.1,s0.2.2.1,true,false,x49))
           else
            (rc (w64 (x42.1+1)) s0.2.1 s0.2.2.1 x42.2).bind fun x50=>
            some (.inl (s0.1,x42.1,s0.2.2.1,false,false,x50))
      else
       bif (decide (0<s0.1)) then
        (Zx s0.2.2.2.2.2 (w64 (s0.1-1))).bind fun x51=>
        (Zx s0.2.2.2.2.2 x3.1).bind fun x52=>
        (Zaa x51 x52).bind fun x53=>
        bif x53 then
         (Zy s0.1 s0.2.1 x3.1 s0.2.2.2.2.2).bind fun x54=>
         match x54 with
         | (.inl x54)=>
          bif (decide ((w64 (x54.1-s0.1))<(w64 (s0.2.1-x54.1)))) then
           bif (decide ((w64 (Int.tdiv (w64 (s0.2.1-s0.1)) 8))≤(w64 (x54.1-s0.1)))) then
            (rc s0.1 x54.1 s0.2.2.1 x54.2).bind fun x55=>
            some (.inl ((w64 (x54.1+1)),s0.2.1,s0.2.2.1,true,true,x55))
           else
            (rc s0.1 x54.1 s0.2.2.1 x54.2).bind fun x56=>
            some (.inl ((w64 (x54.1+1)),s0.2.1,s0.2.2.1,false,true,x56))
          else
           bif (decide ((w64 (Int.tdiv (w64 (s0.2.1-s0.1)) 8))≤(w64 (s0.2.1-x54.1)))) then
            (rc (w64 (x54.1+1)) s0.2.1 s0.2.2.1 x54.2).bind fun x57=>
            some (.inl (s0.1,x54.1,s0.2.2.1,true,true,x57))
           else
            (rc (w64 (x54.1+1)) s0.2.1 s0.2.2.1 x54.2).bind fun x58=>
            some (.inl (s0.1,x54.1,s0.2.2.1,false,true,x58))
         | (.inr x54)=>
          bif (decide ((w64 (x54.1-s0.1))<(w64 (s0.2.1-x54.1)))) then
           bif (decide ((w64 (Int.tdiv (w64 (s0.2.1-s0.1)) 8))≤(w64 (x54.1-s0.1)))) then
            (rc s0.1 x54.1 s0.2.2.1 x54.2).bind fun x59=>
            some (.inl ((w64 (x54.1+1)),s0.2.1,s0.2.2.1,true,false,x59))
           else
            (rc s0.1 x54.1 s0.2.2.1 x54.2).bind fun x60=>
            some (.inl ((w64 (x54.1+1)),s0.2.1,s0.2.2.1,false,false,x60))
          else
           bif (decide ((w64 (Int.tdiv (w64 (s0.2.1-s0.1)) 8))≤(w64 (s0.2.1-x54.1)))) then
            (rc (w64 (x54.1+1)) s0.2.1 s0.2.2.1 x54.2).bind fun x61=>
            some (.inl (s0.1,x54.1,s0.2.2.1,true,false,x61))
           else
            (rc (w64 (x54.1+1)) s0.2.1 s0.2.2.1 x54.2).bind fun x62=>
            some (.inl (s0.1,x54.1,s0.2.2.1,false,false,x62))
        else
         (ZP s0.1 s0.2.1 x3.1 s0.2.2.2.2.2).bind fun x63=>
         some (.inl (x63.1,s0.2.1,s0.2.2.1,true,true,x63.2))
       else
        (Zy s0.1 s0.2.1 x3.1 s0.2.2.2.2.2).bind fun x64=>
        match x64 with
        | (.inl x64)=>
         bif (decide ((w64 (x64.1-s0.1))<(w64 (s0.2.1-x64.1)))) then
          bif (decide ((w64 (Int.tdiv (w64 (s0.2.1-s0.1)) 8))≤(w64 (x64.1-s0.1)))) then
           (rc s0.1 x64.1 s0.2.2.1 x64.2).bind fun x65=>
           some (.inl ((w64 (x64.1+1)),s0.2.1,s0.2.2.1,true,true,x65))
          else
           (rc s0.1 x64.1 s0.2.2.1 x64.2).bind fun x66=>
           some (.inl ((w64 (x64.1+1)),s0.2.1,s0.2.2.1,false,true,x66))
         else
          bif (decide ((w64 (Int.tdiv (w64 (s0.2.1-s0.1)) 8))≤(w64 (s0.2.1-x64.1)))) then
           (rc (w64 (x64.1+1)) s0.2.1 s0.2.2.1 x64.2).bind fun x67=>
           some (.inl (s0.1,x64.1,s0.2.2.1,true,true,x67))
          else
           (rc (w64 (x64.1+1)) s0.2.1 s0.2.2.1 x64.2).bind fun x68=>
           some (.inl (s0.1,x64.1,s0.2.2.1,false,true,x68))
        | (.inr x64)=>
         bif (decide ((w64 (x64.1-s0.1))<(w64 (s0.2.1-x64.1)))) then
          bif (decide ((w64 (Int.tdiv (w64 (s0.2.1-s0.1)) 8))≤(w64 (x64.1-s0.1)))) then
           (rc s0.1 x64.1 s0.2.2.1 x64.2).bind fun x69=>
           some (.inl ((w64 (x64.1+1)),s0.2.1,s0.2.2.1,true,false,x69))
          else
           (rc s0.1 x64.1 s0.2.2.1 x64.2).bind fun x70=>
           some (.inl ((w64 (x64.1+1)),s0.2.1,s0.2.2.1,false,false,x70))
         else
          bif (decide ((w64 (Int.tdiv (w64 (s0.2.1-s0.1)) 8))≤(w64 (s0.2.1-x64.1)))) then
           (rc (w64 (x64.1+1)) s0.2.1 s0.2.2.1 x64.2).bind fun x71=>
           some (.inl (s0.1,x64.1,s0.2.2.1,true,false,x71))
          else
           (rc (w64 (x64.1+1)) s0.2.1 s0.2.2.1 x64.2).bind fun x72=>
           some (.inl (s0.1,x64.1,s0.2.2.1,false,false,x72))
  else
   bif (decide ((w64 (s0.2.1-s0.1))≤12)) then
    (ZaB s0.1 s0.2.1 s0.2.2.2.2.2).bind fun x73=>
    some (.inr x73)
   else
    bif (s0.2.2.1==0) then
     (Zbb s0.1 s0.2.1 s0.2.2.2.2.2).bind fun x74=>
     some (.inr x74)
    else
     (ZaQ s0.1 s0.2.1 s0.2.2.2.2.2).bind fun x75=>
     bif (x75.2==2) then
      (ZaJ s0.1 s0.2.1 s0.2.2.2.2.2).bind fun x76=>
      bif (decide (0<s0.1)) then
       (Zx x76 (w64 (s0.1-1))).bind fun x77=>
       (Zx x76 (w64 ((w64 (s0.2.1-1))-(w64 (x75.1-s0.1))))).bind fun x78=>
       (Zaa x77 x78).bind fun x79=>
       bif x79 then
        (Zy s0.1 s0.2.1 (w64 ((w64 (s0.2.1-1))-(w64 (x75.1-s0.1)))) x76).bind fun x80=>
        match x80 with
        | (.inl x80)=>
         bif (decide ((w64 (x80.1-s0.1))<(w64 (s0.2.1-x80.1)))) then
          bif (decide ((w64 (Int.tdiv (w64 (s0.2.1-s0.1)) 8))≤(w64 (x80.1-s0.1)))) then
           (rc s0.1 x80.1 s0.2.2.1 x80.2).bind fun x81=>
           some (.inl ((w64 (x80.1+1)),s0.2.1,s0.2.2.1,true,true,x81))
          else
           (rc s0.1 x80.1 s0.2.2.1 x80.2).bind fun x82=>
           some (.inl ((w64 (x80.1+1)),s0.2.1,s0.2.2.1,false,true,x82))
         else
          bif (decide ((w64 (Int.tdiv (w64 (s0.2.1-s0.1)) 8))≤(w64 (s0.2.1-x80.1)))) then
           (rc (w64 (x80.1+1)) s0.2.1 s0.2.2.1 x80.2).bind fun x83=>
           some (.inl (s0.1,x80.1,s0.2.2.1,true,true,x83))
          else
           (rc (w64 (x80.1+1)) s0.2.1 s0.2.2.1 x80.2).bind fun x84=>
           some (.inl (s0.1,x80.1,s0.2.2.1,false,true,x84))
        | (.inr x80)=>
         bif (decide ((w64 (x80.1-s0.1))<(w64 (s0.2.1-x80.1)))) then
          bif (decide ((w64 (Int.tdiv (w64 (s0.2.1-s0.1)) 8))≤(w64 (x80.1-s0.1)))) then
           (rc s0.1 x80.1 s0.2.2.1 x80.2).bind fun x85=>
           some (.inl ((w64 (x80.1+1)),s0.2.1,s0.2.2.1,true,false,x85))
          else
           (rc s0.1 x80.1 s0.2.2.1 x80.2).bind fun x86=>
           some (.inl ((w64 (x80.1+1)),s0.2.1,s0.2.2.1,false,false,x86))
         else
          bif (decide ((w64 (Int.tdiv (w64 (s0.2.1-s0.1)) 8))≤(w64 (s0.2.1-x80.1)))) then
           (rc (w64 (x80.1+1)) s0.2.1 s0.2.2.1 x80.2).bind fun x87=>
           some (.inl (s0.1,x80.1,s0.2.2.1,true,false,x87))
          else
           (rc (w64 (x80.1+1)) s0.2.1 s0.2.2.1 x80.2).bind fun x88=>
           some (.inl (s0.1,x80.1,s0.2.2.1,false,false,x88))
       else
        (ZP s0.1 s0.2.1 (w64 ((w64 (s0.2.1-1))-(w64 (x75.1-s0.1)))) x76).bind fun x89=>
        some (.inl (x89.1,s0.2.1,s0.2.2.1,true,false,x89.2))
      else
       (Zy s0.1 s0.2.1 (w64 ((w64 (s0.2.1-1))-(w64 (x75.1-s0.1)))) x76).bind fun x90=>
       match x90 with
       | (.inl x90)=>
        bif (decide ((w64 (x90.1-s0.1))<(w64 (s0.2.1-x90.1)))) then
         bif (decide ((w64 (Int.tdiv (w64 (s0.2.1-s0.1)) 8))≤(w64 (x90.1-s0.1)))) then
          (rc s0.1 x90.1 s0.2.2.1 x90.2).bind fun x91=>
          some (.inl ((w64 (x90.1+1)),s0.2.1,s0.2.2.1,true,true,x91))
         else
          (rc s0.1 x90.1 s0.2.2.1 x90.2).bind fun x92=>
          some (.inl ((w64 (x90.1+1)),s0.2.1,s0.2.2.1,false,true,x92))
        else
         bif (decide ((w64 (Int.tdiv (w64 (s0.2.1-s0.1)) 8))≤(w64 (s0.2.1-x90.1)))) then
          (rc (w64 (x90.1+1)) s0.2.1 s0.2.2.1 x90.2).bind fun x93=>
          some (.inl (s0.1,x90.1,s0.2.2.1,true,true,x93))
         else
          (rc (w64 (x90.1+1)) s0.2.1 s0.2.2.1 x90.2).bind fun x94=>
          some (.inl (s0.1,x90.1,s0.2.2.1,false,true,x94))
       | (.inr x90)=>
        bif (decide ((w64 (x90.1-s0.1))<(w64 (s0.2.1-x90.1)))) then
         bif (decide ((w64 (Int.tdiv (w64 (s0.2.1-s0.1)) 8))≤(w64 (x90.1-s0.1)))) then
          (rc s0.1 x90.1 s0.2.2.1 x90.2).bind fun x95=>
          some (.inl ((w64 (x90.1+1)),s0.2.1,s0.2.2.1,true,false,x95))
         else
          (rc s0.1 x90.1 s0.2.2.1 x90.2).bind fun x96=>
          some (.inl ((w64 (x90.1+1)),s0.2.1,s0.2.2.1,false,false,x96))
        else
         bif (decide ((w64 (Int.tdiv (w64 (s0.2.1-s0.1)) 8))≤(w64 (s0.2.1-x90.1)))) then
          (rc (w64 (x90.1+1)) s0.2.1 s0.2.2.1 x90.2).bind fun x97=>
          some (.inl (s0.1,x90.1,s0.2.2.1,true,false,x97))
         else
          (rc (w64 (x90.1+1)) s0.2.1 s0.2.2.1 x90.2).bind fun x98=>
          some (.inl (s0.1,x90.1,s0.2.2.1,false,false,x98))
     else
      bif (decide (0<s0.1)) then
       (Zx s0.2.2.2.2.2 (w64 (s0.1-1))).bind fun x99=>
       (Zx s0.2.2.2.2.2 x75.1).bind fun x100=>
       (Zaa x99 x100).bind fun x101=>
       bif x101 then
        (Zy s0.1 s0.2.1 x75.1 s0.2.2.2.2.2).bind fun x102=>
        match x102 with
        | (.inl x102)=>
         bif (decide ((w64 (x102.1-s0.1))<(w64 (s0.2.1-x102.1)))) then
          bif (decide ((w64 (Int.tdiv (w64 (s0.2.1-s0.1)) 8))≤(w64 (x102.1-s0.1)))) then
           (rc s0.1 x102.1 s0.2.2.1 x102.2).bind fun x103=>
           some (.inl ((w64 (x102.1+1)),s0.2.1,s0.2.2.1,true,true,x103))
          else
           (rc s0.1 x102.1 s0.2.2.1 x102.2).bind fun x104=>
           some (.inl ((w64 (x102.1+1)),s0.2.1,s0.2.2.1,false,true,x104))
         else
          bif (decide ((w64 (Int.tdiv (w64 (s0.2.1-s0.1)) 8))≤(w64 (s0.2.1-x102.1)))) then
           (rc (w64 (x102.1+1)) s0.2.1 s0.2.2.1 x102.2).bind fun x105=>
           some (.inl (s0.1,x102.1,s0.2.2.1,true,true,x105))
          else
           (rc (w64 (x102.1+1)) s0.2.1 s0.2.2.1 x102.2).bind fun x106=>
           some (.inl (s0.1,x102.1,s0.2.2.1,false,true,x106))
        | (.inr x102)=>
         bif (decide ((w64 (x102.1-s0.1))<(w64 (s0.2.1-x102.1)))) then
          bif (decide ((w64 (Int.tdiv (w64 (s0.2.1-s0.1)) 8))≤(w64 (x102.1-s0.1)))) then
           (rc s0.1 x102.1 s0.2.2.1 x102.2).bind fun x107=>
           some (.inl ((w64 (x102.1+1)),s0.2.1,s0.2.2.1,true,false,x107))
          else
           (rc s0.1 x102.1 s0.2.2.1 x102.2).bind fun x108=>
           some (.inl ((w64 (x102.1+1)),s0.2.1,s0.2.2.1,false,false,x108))
         else
          bif (decide ((w64 (Int.tdiv (w64 (s0.2.1-s0.1)) 8))≤(w64 (s0.2.1-x102.1)))) then
           (rc (w64 (x102.1+1)) s0.2.1 s0.2.2.1 x102.2).bind fun x109=>
           some (.inl (s0.1,x102.1,s0.2.2.1,true,false,x109))
          else
           (rc (w64 (x102.1+1)) s0.2.1 s0.2.2.1 x102.2).bind fun x110=>
           some (.inl (s0.1,x102.1,s0.2.2.1,false,false,x110))
       else
        (ZP s0.1 s0.2.1 x75.1 s0.2.2.2.2.2).bind fun x111=>
        some (.inl (x111.1,s0.2.1,s0.2.2.1,true,false,x111.2))
      else
       (Zy s0.1 s0.2.1 x75.1 s0.2.2.2.2.2).bind fun x112=>
       match x112 with
       | (.inl x112)=>
        bif (decide ((w64 (x112.1-s0.1))<(w64 (s0.2.1-x112.1)))) then
         bif (decide ((w64 (Int.tdiv (w64 (s0.2.1-s0.1)) 8))≤(w64 (x112.1-s0.1)))) then
          (rc s0.1 x112.1 s0.2.2.1 x112.2).bind fun x113=>
          some (.inl ((w64 (x112.1+1)),s0.2.1,s0.2.2.1,true,true,x113))
         else
          (rc s0.1 x112.1 s0.2.2.1 x112.2).bind fun x114=>
          some (.inl ((w64 (x112.1+1)),s0.2.1,s0.2.2.1,false,true,x114))
        else
         bif (decide ((w64 (Int.tdiv (w64 (s0.2.1-s0.1)) 8))≤(w64 (s0.2.1-x112.1)))) then
          (rc (w64 (x112.1+1)) s0.2.1 s0.2.2.1 x112.2).bind fun x115=>
          some (.inl (s0.1,x112.1,s0.2.2.1,true,true,x115))
         else
          (rc (w64 (x112.1+1)) s0.2.1 s0.2.2.1 x112.2).bind fun x116=>
          some (.inl (s0.1,x112.1,s0.2.2.1,false,true,x116))
       | (.inr x112)=>
        bif (decide ((w64 (x112.1-s0.1))<(w64 (s0.2.1-x112.1)))) then
         bif (decide ((w64 (Int.tdiv (w64 (s0.2.1-s0.1)) 8))≤(w64 (x112.1-s0.1)))) then
          (rc s0.1 x112.1 s0.2.2.1 x112.2).bind fun x117=>
          some (.inl ((w64 (x112.1+1)),s0.2.1,s0.2.2.1,true,false,x117))
         else
          (rc s0.1 x112.1 s0.2.2.1 x112.2).bind fun x118=>
          some (.inl ((w64 (x112.1+1)),s0.2.1,s0.2.2.1,false,false,x118))
        else
         bif (decide ((w64 (Int.tdiv (w64 (s0.2.1-s0.1)) 8))≤(w64 (s0.2.1-x112.1)))) then
          (rc (w64 (x112.1+1)) s0.2.1 s0.2.2.1 x112.2).bind fun x119=>
          some (.inl (s0.1,x112.1,s0.2.2.1,true,false,x119))
         else
          (rc (w64 (x112.1+1)) s0.2.1 s0.2.2.1 x112.2).bind fun x120=>
          some (.inl (s0.1,x112.1,s0.2.2.1,false,false,x120))
 else
  bif s0.2.2.2.2.1 then
   bif (decide ((w64 (s0.2.1-s0.1))≤12)) then
    (ZaB s0.1 s0.2.1 s0.2.2.2.2.2).bind fun x121=>
    some (.inr x121)
   else
    bif (s0.2.2.1==0) then
     (Zbb s0.1 s0.2.1 s0.2.2.2.2.2).bind fun x122=>
     some (.inr x122)
    else
     (Zbm s0.1 s0.2.1 s0.2.2.2.2.2).bind fun x123=>
     (ZaQ s0.1 s0.2.1 x123).bind fun x124=>
     bif (x124.2==2) then
      (ZaJ s0.1 s0.2.1 x123).bind fun x125=>
      bif (decide (0<s0.1)) then
       (Zx x125 (w64 (s0.1-1))).bind fun x126=>
       (Zx x125 (w64 ((w64 (s0.2.1-1))-(w64 (x124.1-s0.1))))).bind fun x127=>
       (Zaa x126 x127).bind fun x128=>
       bif x128 then
        (Zy s0.1 s0.2.1 (w64 ((w64 (s0.2.1-1))-(w64 (x124.1-s0.1)))) x125).bind fun x129=>
        match x129 with
        | (.inl x129)=>
         bif (decide ((w64 (x129.1-s0.1))<(w64 (s0.2.1-x129.1)))) then
          bif (decide ((w64 (Int.tdiv (w64 (s0.2.1-s0.1)) 8))≤(w64 (x129.1-s0.1)))) then
           (rc s0.1 x129.1 (w64 (s0.2.2.1-1)) x129.2).bind fun x130=>
           some (.inl ((w64 (x129.1+1)),s0.2.1,(w64 (s0.2.2.1-1)),true,true,x130))
          else
           (rc s0.1 x129.1 (w64 (s0.2.2.1-1)) x129.2).bind fun x131=>
           some (.inl ((w64 (x129.1+1)),s0.2.1,(w64 (s0.2.2.1-1)),false,true,x131))
         else
          bif (decide ((w64 (Int.tdiv (w64 (s0.2.1-s0.1)) 8))≤(w64 (s0.2.1-x129.1)))) then
           (rc (w64 (x129.1+1)) s0.2.1 (w64 (s0.2.2.1-1)) x129.2).bind fun x132=>
           some (.inl (s0.1,x129.1,(w64 (s0.2.2.1-1)),true,true,x132))
          else
           (rc (w64 (x129.1+1)) s0.2.1 (w64 (s0.2.2.1-1)) x129.2).bind fun x133=>
           some (.inl (s0.1,x129.1,(w64 (s0.2.2.1-1)),false,true,x133))
        | (.inr x129)=>
         bif (decide ((w64 (x129.1-s0.1))<(w64 (s0.2.1-x129.1)))) then
          bif (decide ((w64 (Int.tdiv (w64 (s0.2.1-s0.1)) 8))≤(w64 (x129.1-s0.1)))) then
           (rc s0.1 x129.1 (w64 (s0.2.2.1-1)) x129.2).bind fun x134=>
           some (.inl ((w64 (x129.1+1)),s0.2.1,(w64 (s0.2.2.1-1)),true,false,x134))
          else
           (rc s0.1 x129.1 (w64 (s0.2.2.1-1)) x129.2).bind fun x135=>
           some (.inl ((w64 (x129.1+1)),s0.2.1,(w64 (s0.2.2.1-1)),false,false,x135))
         else
          bif (decide ((w64 (Int.tdiv (w64 (s0.2.1-s0.1)) 8))≤(w64 (s0.2.1-x129.1)))) then
           (rc (w64 (x129.1+1)) s0.2.1 (w64 (s0.2.2.1-1)) x129.2).bind fun x136=>
           some (.inl (s0.1,x129.1,(w64 (s0.2.2.1-1)),true,false,x136))
          else
           (rc (w64 (x129.1+1)) s0.2.1 (w64 (s0.2.2.1-1)) x129.2).bind fun x137=>
           some (.inl (s0.1,x129.1,(w64 (s0.2.2.1-1)),false,false,x137))
       else
        (ZP s0.1 s0.2.1 (w64 ((w64 (s0.2.1-1))-(w64 (x124.1-s0.1)))) x125).bind fun x138=>
        some (.inl (x138.1,s0.2.1,(w64 (s0.2.2.1-1)),false,true,x138.2))
      else
       (Zy s0.1 s0.2.1 (w64 ((w64 (s0.2.1-1))-(w64 (x124.1-s0.1)))) x125).bind fun x139=>
       match x139 with
       | (.inl x139)=>
        bif (decide ((w64 (x139.1-s0.1))<(w64 (s0.2.1-x139.1)))) then
         bif (decide ((w64 (Int.tdiv (w64 (s0.2.1-s0.1)) 8))≤(w64 (x139.1-s0.1)))) then
          (rc s0.1 x139.1 (w64 (s0.2.2.1-1)) x139.2).bind fun x140=>
          some (.inl ((w64 (x139.1+1)),s0.2.1,(w64 (s0.2.2.1-1)),true,true,x140))
         else
          (rc s0.1 x139.1 (w64 (s0.2.2.1-1)) x139.2).bind fun x141=>
          some (.inl ((w64 (x139.1+1)),s0.2.1,(w64 (s0.2.2.1-1)),false,true,x141))
        else
         bif (decide ((w64 (Int.tdiv (w64 (s0.2.1-s0.1)) 8))≤(w64 (s0.2.1-x139.1)))) then
          (rc (w64 (x139.1+1)) s0.2.1 (w64 (s0.2.2.1-1)) x139.2).bind fun x142=>
          some (.inl (s0.1,x139.1,(w64 (s0.2.2.1-1)),true,true,x142))
         else
          (rc (w64 (x139.1+1)) s0.2.1 (w64 (s0.2.2.1-1)) x139.2).bind fun x143=>
          some (.inl (s0.1,x139.1,(w64 (s0.2.2.1-1)),false,true,x143))
       | (.inr x139)=>
        bif (decide ((w64 (x139.1-s0.1))<(w64 (s0.2.1-x139.1)))) then
         bif (decide ((w64 (Int.tdiv (w64 (s0.2.1-s0.1)) 8))≤(w64 (x139.1-s0.1)))) then
          (rc s0.1 x139.1 (w64 (s0.2.2.1-1)) x139.2).bind fun x144=>
          some (.inl ((w64 (x139.1+1)),s0.2.1,(w64 (s0.2.2.1-1)),true,false,x144))
         else
          (rc s0.1 x139.1 (w64 (s0.2.2.1-1)) x139.2).bind fun x145=>
          some (.inl ((w64 (x139.1+1)),s0.2.1,(w64 (s0.2.2.1-1)),false,false,x145))
        else
         bif (decide ((w64 (Int.tdiv (w64 (s0.2.1-s0.1)) 8))≤(w64 (s0.2.1-x139.1)))) then
          (rc (w64 (x139.1+1)) s0.2.1 (w64 (s0.2.2.1-1)) x139.2).bind fun x146=>
          some (.inl (s0.1,x139.1,(w64 (s0.2.2.1-1)),true,false,x146))
         else
          (rc (w64 (x139.1+1)) s0.2.1 (w64 (s0.2.2.1-1)) x139.2).bind fun x147=>
          some (.inl (s0.1,x139.1,(w64 (s0.2.2.1-1)),false,false,x147))
     else
      bif (decide (0<s0.1)) then
       (Zx x123 (w64 (s0.1-1))).bind fun x148=>
       (Zx x123 x124.1).bind fun x149=>
       (Zaa x148 x149).bind fun x150=>
       bif x150 then
        (Zy s0.1 s0.2.1 x124.1 x123).bind fun x151=>
        match x151 with
        | (.inl x151)=>
         bif (decide ((w64 (x151.1-s0.1))<(w64 (s0.2.1-x151.1)))) then
          bif (decide ((w64 (Int.tdiv (w64 (s0.2.1-s0.1)) 8))≤(w64 (x151.1-s0.1)))) then
           (rc s0.1 x151.1 (w64 (s0.2.2.1-1)) x151.2).bind fun x152=>
           some (.inl ((w64 (x151.1+1)),s0.2.1,(w64 (s0.2.2.1-1)),true,true,x152))
          else
           (rc s0.1 x151.1 (w64 (s0.2.2.1-1)) x151.2).bind fun x153=>
           some (.inl ((w64 (x151.1+1)),s0.2.1,(w64 (s0.2.2.1-1)),false,true,x153))
         else
          bif (decide ((w64 (Int.tdiv (w64 (s0.2.1-s0.1)) 8))≤(w64 (s0.2.1-x151.1)))) then
           (rc (w64 (x151.1+1)) s0.2.1 (w64 (s0.2.2.1-1)) x151.2).bind fun x154=>
           some (.inl (s0.1,x151.1,(w64 (s0.2.2.1-1)),true,true,x154))
          else
           (rc (w64 (x151.1+1)) s0.2.1 (w64 (s0.2.2.1-1)) x151.2).bind fun x155=>
           some (.inl (s0.1,x151.1,(w64 (s0.2.2.1-1)),false,true,x155))
        | (.inr x151)=>
         bif (decide ((w64 (x151.1-s0.1))<(w64 (s0.2.1-x151.1)))) then
          bif (decide ((w64 (Int.tdiv (w64 (s0.2.1-s0.1)) 8))≤(w64 (x151.1-s0.1)))) then
           (rc s0.1 x151.1 (w64 (s0.2.2.1-1)) x151.2).bind fun x156=>
           some (.inl ((w64 (x151.1+1)),s0.2.1,(w64 (s0.2.2.1-1)),true,false,x156))
          else
           (rc s0.1 x151.1 (w64 (s0.2.2.1-1)) x151.2).bind fun x157=>
           some (.inl ((w64 (x151.1+1)),s0.2.1,(w64 (s0.2.2.1-1)),false,false,x157))
         else
          bif (decide ((w64 (Int.tdiv (w64 (s0.2.1-s0.1)) 8))≤(w64 (s0.2.1-x151.1)))) then
           (rc (w64 (x151.1+1)) s0.2.1 (w64 (s0.2.2.1-1)) x151.2).bind fun x158=>
           some (.inl (s0.1,x151.1,(w64 (s0.2.2.1-1)),true,false,x158))
          else
           (rc (w64 (x151.1+1)) s0.2.1 (w64 (s0.2.2.1-1)) x151.2).bind fun x159=>
           some (.inl (s0.1,x151.1,(w64 (s0.2.2.1-1)),false,false,x159))
       else
        (ZP s0.1 s0.2.1 x124.1 x123).bind fun x160=>
        some (.inl (x160.1,s0.2.1,(w64 (s0.2.2.1-1)),false,true,x160.2))
      else
       (Zy s0.1 s0.2.1 x124.1 x123).bind fun x161=>
       match x161 with
       | (.inl x161)=>
        bif (decide ((w64 (x161.1-s0.1))<(w64 (s0.2.1-x161.1)))) then
         bif (decide ((w64 (Int.tdiv (w64 (s0.2.1-s0.1)) 8))≤(w64 (x161.1-s0.1)))) then
          (rc s0.1 x161.1 (w64 (s0.2.2.1-1)) x161.2).bind fun x162=>
          some (.inl ((w64 (x161.1+1)),s0.2.1,(w64 (s0.2.2.1-1)),true,true,x162))
         else
          (rc s0.1 x161.1 (w64 (s0.2.2.1-1)) x161.2).bind fun x163=>
          some (.inl ((w64 (x161.1+1)),s0.2.1,(w64 (s0.2.2.1-1)),false,true,x163))
        else
         bif (decide ((w64 (Int.tdiv (w64 (s0.2.1-s0.1)) 8))≤(w64 (s0.2.1-x161.1)))) then
          (rc (w64 (x161.1+1)) s0.2.1 (w64 (s0.2.2.1-1)) x161.2).bind fun x164=>
          some (.inl (s0.1,x161.1,(w64 (s0.2.2.1-1)),true,true,x164))
         else
          (rc (w64 (x161.1+1)) s0.2.1 (w64 (s0.2.2.1-1)) x161.2).bind fun x165=>
          some (.inl (s0.1,x161.1,(w64 (s0.2.2.1-1)),false,true,x165))
       | (.inr x161)=>
        bif (decide ((w64 (x161.1-s0.1))<(w64 (s0.2.1-x161.1)))) then
         bif (decide ((w64 (Int.tdiv (w64 (s0.2.1-s0.1)) 8))≤(w64 (x161.1-s0.1)))) then
          (rc s0.1 x161.1 (w64 (s0.2.2.1-1)) x161.2).bind fun x166=>
          some (.inl ((w64 (x161.1+1)),s0.2.1,(w64 (s0.2.2.1-1)),true,false,x166))
         else
          (rc s0.1 x161.1 (w64 (s0.2.2.1-1)) x161.2).bind fun x167=>
          some (.inl ((w64 (x161.1+1)),s0.2.1,(w64 (s0.2.2.1-1)),false,false,x167))
        else
         bif (decide ((w64 (Int.tdiv (w64 (s0.2.1-s0.1)) 8))≤(w64 (s0.2.1-x161.1)))) then
          (rc (w64 (x161.1+1)) s0.2.1 (w64 (s0.2.2.1-1)) x161.2).bind fun x168=>
          some (.inl (s0.1,x161.1,(w64 (s0.2.2.1-1)),true,false,x168))
         else
          (rc (w64 (x161.1+1)) s0.2.1 (w64 (s0.2.2.1-1)) x161.2).bind fun x169=>
          some (.inl (s0.1,x161.1,(w64 (s0.2.2.1-1)),false,false,x169))
  else
   bif (decide ((w64 (s0.2.1-s0.1))≤12)) then
    (ZaB s0.1 s0.2.1 s0.2.2.2.2.2).bind fun x170=>
    some (.inr x170)
   else
    bif (s0.2.2.1==0) then
     (Zbb s0.1 s0.2.1 s0.2.2.2.2.2).bind fun x171=>
     some (.inr x171)
    else
     (Zbm s0.1 s0.2.1 s0.2.2.2.2.2).bind fun x172=>
     (ZaQ s0.1 s0.2.1 x172).bind fun x173=>
     bif (x173.2==2) then
      (ZaJ s0.1 s0.2.1 x172).bind fun x174=>
      bif (decide (0<s0.1)) then
       (Zx x174 (w64 (s0.1-1))).bind fun x175=>
       (Zx x174 (w64 ((w64 (s0.2.1-1))-(w64 (x173.1-s0.1))))).bind fun x176=>
       (Zaa x175 x176).bind fun x177=>
       bif x177 then
        (Zy s0.1 s0.2.1 (w64 ((w64 (s0.2.1-1))-(w64 (x173.1-s0.1)))) x174).bind fun x178=>
        match x178 with
        | (.inl x178)=>
         bif (decide ((w64 (x178.1-s0.1))<(w64 (s0.2.1-x178.1)))) then
          bif (decide ((w64 (Int.tdiv (w64 (s0.2.1-s0.1)) 8))≤(w64 (x178.1-s0.1)))) then
           (rc s0.1 x178.1 (w64 (s0.2.2.1-1)) x178.2).bind fun x179=>
           some (.inl ((w64 (x178.1+1)),s0.2.1,(w64 (s0.2.2.1-1)),true,true,x179))
          else
           (rc s0.1 x178.1 (w64 (s0.2.2.1-1)) x178.2).bind fun x180=>
           some (.inl ((w64 (x178.1+1)),s0.2.1,(w64 (s0.2.2.1-1)),false,true,x180))
         else
          bif (decide ((w64 (Int.tdiv (w64 (s0.2.1-s0.1)) 8))≤(w64 (s0.2.1-x178.1)))) then
           (rc (w64 (x178.1+1)) s0.2.1 (w64 (s0.2.2.1-1)) x178.2).bind fun x181=>
           some (.inl (s0.1,x178.1,(w64 (s0.2.2.1-1)),true,true,x181))
          else
           (rc (w64 (x178.1+1)) s0.2.1 (w64 (s0.2.2.1-1)) x178.2).bind fun x182=>
           some (.inl (s0.1,x178.1,(w64 (s0.2.2.1-1)),false,true,x182))
        | (.inr x178)=>
         bif (decide ((w64 (x178.1-s0.1))<(w64 (s0.2.1-x178.1)))) then
          bif (decide ((w64 (Int.tdiv (w64 (s0.2.1-s0.1)) 8))≤(w64 (x178.1-s0.1)))) then
           (rc s0.1 x178.1 (w64 (s0.2.2.1-1)) x178.2).bind fun x183=>
           some (.inl ((w64 (x178.1+1)),s0.2.1,(w64 (s0.2.2.1-1)),true,false,x183))
          else
           (rc s0.1 x178.1 (w64 (s0.2.2.1-1)) x178.2).bind fun x184=>
           some (.inl ((w64 (x178.1+1)),s0.2.1,(w64 (s0.2.2.1-1)),false,false,x184))
         else
          bif (decide ((w64 (Int.tdiv (w64 (s0.2.1-s0.1)) 8))≤(w64 (s0.2.1-x178.1)))) then
           (rc (w64 (x178.1+1)) s0.2.1 (w64 (s0.2.2.1-1)) x178.2).bind fun x185=>
           some (.inl (s0.1,x178.1,(w64 (s0.2.2.1-1)),true,false,x185))
          else
           (rc (w64 (x178.1+1)) s0.2.1 (w64 (s0.2.2.1-1)) x178.2).bind fun x186=>
           some (.inl (s0.1,x178.1,(w64 (s0.2.2.1-1)),false,false,x186))
       else
        (ZP s0.1 s0.2.1 (w64 ((w64 (s0.2.1-1))-(w64 (x173.1-s0.1)))) x174).bind fun x187=>
        some (.inl (x187.1,s0.2.1,(w64 (s0.2.2.1-1)),false,false,x187.2))
      else
       (Zy s0.1 s0.2.1 (w64 ((w64 (s0.2.1-1))-(w64 (x173.1-s0.1)))) x174).bind fun x188=>
       match x188 with
       | (.inl x188)=>
        bif (decide ((w64 (x188.1-s0.1))<(w64 (s0.2.1-x188.1)))) then
         bif (decide ((w64 (Int.tdiv (w64 (s0.2.1-s0.1)) 8))≤(w64 (x188.1-s0.1)))) then
          (rc s0.1 x188.1 (w64 (s0.2.2.1-1)) x188.2).bind fun x189=>
          some (.inl ((w64 (x188.1+1)),s0.2.1,(w64 (s0.2.2.1-1)),true,true,x189))
         else
          (rc s0.1 x188.1 (w64 (s0.2.2.1-1)) x188.2).bind fun x190=>
          some (.inl ((w64 (x188.1+1)),s0.2.1,(w64 (s0.2.2.1-1)),false,true,x190))
        else
         bif (decide ((w64 (Int.tdiv (w64 (s0.2.1-s0.1)) 8))≤(w64 (s0.2.1-x188.1)))) then
          (rc (w64 (x188.1+1)) s0.2.1 (w64 (s0.2.2.1-1)) x188.2).bind fun x191=>
          some (.inl (s0.1,x188.1,(w64 (s0.2.2.1-1)),true,true,x191))
         else
          (rc (w64 (x188.1+1)) s0.2.1 (w64 (s0.2.2.1-1)) x188.2).bind fun x192=>
          some (.inl (s0.1,x188.1,(w64 (s0.2.2.1-1)),false,true,x192))
       | (.inr x188)=>
        bif (decide ((w64 (x188.1-s0.1))<(w64 (s0.2.1-x188.1)))) then
         bif (decide ((w64 (Int.tdiv (w64 (s0.2.1-s0.1)) 8))≤(w64 (x188.1-s0.1)))) then
          (rc s0.1 x188.1 (w64 (s0.2.2.1-1)) x188.2).bind fun x193=>
          some (.inl ((w64 (x188.1+1)),s0.2.1,(w64 (s0.2.2.1-1)),true,false,x193))
         else
          (rc s0.1 x188.1 (w64 (s0.2.2.1-1)) x188.2).bind fun x194=>
          some (.inl ((w64 (x188.1+1)),s0.2.1,(w64 (s0.2.2.1-1)),false,false,x194))
        else
         bif (decide ((w64 (Int.tdiv (w64 (s0.2.1-s0.1)) 8))≤(w64 (s0.2.1-x188.1)))) then
          (rc (w64 (x188.1+1)) s0.2.1 (w64 (s0.2.2.1-1)) x188.2).bind fun x195=>
          some (.inl (s0.1,x188.1,(w64 (s0.2.2.1-1)),true,false,x195))
         else
          (rc (w64 (x188.1+1)) s0.2.1 (w64 (s0.2.2.1-1)) x188.2).bind fun x196=>
          some (.inl (s0.1,x188.1,(w64 (s0.2.2.1-1)),false,false,x196))
     else
      bif (decide (0<s0.1)) then
       (Zx x172 (w64 (s0.1-1))).bind fun x197=>
       (Zx x172 x173.1).bind fun x198=>
       (Zaa x197 x198).bind fun x199=>
       bif x199 then
        (Zy s0.1 s0.2.1 x173.1 x172).bind fun x200=>
        match x200 with
        | (.inl x200)=>
         bif (decide ((w64 (x200.1-s0.1))<(w64 (s0.2.1-x200.1)))) then
          bif (decide ((w64 (Int.tdiv (w64 (s0.2.1-s0.1)) 8))≤(w64 (x200.1-s0.1)))) then
           (rc s0.1 x200.1 (w64 (s0.2.2.1-1)) x200.2).bind fun x201=>
           some (.inl ((w64 (x200.1+1)),s0.2.1,(w64 (s0.2.2.1-1)),true,true,x201))
          else
           (rc s0.1 x200.1 (w64 (s0.2.2.1-1)) x200.2).bind fun x202=>
           some (.inl ((w64 (x200.1+1)),s0.2.1,(w64 (s0.2.2.1-1)),false,true,x202))
         else
          bif (decide ((w64 (Int.tdiv (w64 (s0.2.1-s0.1)) 8))≤(w64 (s0.2.1-x200.1)))) then
           (rc (w64 (x200.1+1)) s0.2.1 (w64 (s0.2.2.1-1)) x200.2).bind fun x203=>
           some (.inl (s0.1,x200.1,(w64 (s0.2.2.1-1)),true,true,x203))
          else
           (rc (w64 (x200.1+1)) s0.2.1 (w64 (s0.2.2.1-1)) x200.2).bind fun x204=>
           some (.inl (s0.1,x200.1,(w64 (s0.2.2.1-1)),false,true,x204))
        | (.inr x200)=>
         bif (decide ((w64 (x200.1-s0.1))<(w64 (s0.2.1-x200.1)))) then
          bif (decide ((w64 (Int.tdiv (w64 (s0.2.1-s0.1)) 8))≤(w64 (x200.1-s0.1)))) then
           (rc s0.1 x200.1 (w64 (s0.2.2.1-1)) x200.2).bind fun x205=>
           some (.inl ((w64 (x200.1+1)),s0.2.1,(w64 (s0.2.2.1-1)),true,false,x205))
          else
           (rc s0.1 x200.1 (w64 (s0.2.2.1-1)) x200.2).bind fun x206=>
           some (.inl ((w64 (x200.1+1)),s0.2.1,(w64 (s0.2.2.1-1)),false,false,x206))
         else
          bif (decide ((w64 (Int.tdiv (w64 (s0.2.1-s0.1)) 8))≤(w64 (s0.2.1-x200.1)))) then
           (rc (w64 (x200.1+1)) s0.2.1 (w64 (s0.2.2.1-1)) x200.2).bind fun x207=>
           some (.inl (s0.1,x200.1,(w64 (s0.2.2.1-1)),true,false,x207))
          else
           (rc (w64 (x200.1+1)) s0.2.1 (w64 (s0.2.2.1-1)) x200.2).bind fun x208=>
           some (.inl (s0.1,x200.1,(w64 (s0.2.2.1-1)),false,false,x208))
       else
        (ZP s0.1 s0.2.1 x173.1 x172).bind fun x209=>
        some (.inl (x209.1,s0.2.1,(w64 (s0.2.2.1-1)),false,false,x209.2))
      else
       (Zy s0.1 s0.2.1 x173.1 x172).bind fun x210=>
       match x210 with
       | (.inl x210)=>
        bif (decide ((w64 (x210.1-s0.1))<(w64 (s0.2.1-x210.1)))) then
         bif (decide ((w64 (Int.tdiv (w64 (s0.2.1-s0.1)) 8))≤(w64 (x210.1-s0.1)))) then
          (rc s0.1 x210.1 (w64 (s0.2.2.1-1)) x210.2).bind fun x211=>
          some (.inl ((w64 (x210.1+1)),s0.2.1,(w64 (s0.2.2.1-1)),true,true,x211))
         else
          (rc s0.1 x210.1 (w64 (s0.2.2.1-1)) x210.2).bind fun x212=>
          some (.inl ((w64 (x210.1+1)),s0.2.1,(w64 (s0.2.2.1-1)),false,true,x212))
        else
         bif (decide ((w64 (Int.tdiv (w64 (s0.2.1-s0.1)) 8))≤(w64 (s0.2.1-x210.1)))) then
          (rc (w64 (x210.1+1)) s0.2.1 (w64 (s0.2.2.1-1)) x210.2).bind fun x213=>
          some (.inl (s0.1,x210.1,(w64 (s0.2.2.1-1)),true,true,x213))
         else
          (rc (w64 (x210.1+1)) s0.2.1 (w64 (s0.2.2.1-1)) x210.2).bind fun x214=>
          some (.inl (s0.1,x210.1,(w64 (s0.2.2.1-1)),false,true,x214))
       | (.inr x210)=>
        bif (decide ((w64 (x210.1-s0.1))<(w64 (s0.2.1-x210.1)))) then
         bif (decide ((w64 (Int.tdiv (w64 (s0.2.1-s0.1)) 8))≤(w64 (x210.1-s0.1)))) then
          (rc s0.1 x210.1 (w64 (s0.2.2.1-1)) x210.2).bind fun x215=>
          some (.inl ((w64 (x210.1+1)),s0.2.1,(w64 (s0.2.2.1-1)),true,false,x215))
         else
          (rc s0.1 x210.1 (w64 (s0.2.2.1-1)) x210.2).bind fun x216=>
          some (.inl ((w64 (x210.1+1)),s0.2.1,(w64 (s0.2.2.1-1)),false,false,x216))
        else
         bif (decide ((w64 (Int.tdiv (w64 (s0.2.1-s0.1)) 8))≤(w64 (s0.2.1-x210.1)))) then
          (rc (w64 (x210.1+1)) s0.2.1 (w64 (s0.2.2.1-1)) x210.2).bind fun x217=>
          some (.inl (s0.1,x210.1,(w64 (s0.2.2.1-1)),true,false,x217))
         else
          (rc (w64 (x210.1+1)) s0.2.1 (w64 (s0.2.2.1-1)) x210.2).bind fun x218=>
          some (.inl (s0.1,x210.1,(w64 (s0.2.2.1-1)),false,false,x218))
def Zcd (rc:Int→Int→Int→(List Int)→Option (List Int)) (b:Int) (c:Int) (d:Int) (m0_0:List Int):Option (List Int):=
 (lp (Zb9 rc) (b,c,d,true,true,m0_0)).bind fun r219=>
 some r219
def Zbn:Nat→Int→Int→Int→(List Int)→Option (List Int)
 | 0=>fun _ _ _ _=>none
 | n+1=>Zcd (Zbn n)
def Zfa (b:Int) (c:Int) (d:Int) (m0_0:List Int):Option (List Int):=Zyq fun n=>Zbn n b c d m0_0
def ZcF (m0_0:List Int):Option (List Int):=
 (ZeY (u64.wrap (m0_0.length:Int))).bind fun x0=>
 (Zfa 0 (m0_0.length:Int) x0 m0_0).bind fun x1=>
 some x1
def ZhS (a:Zar) (b:(Zo→Option (Int×Bool))) (s0:Int×(List Int)):Option ((Int×(List Int))⊕(List Int)):=
 bif (decide (s0.1<(a.edges.length:Int))) then
  (Zx a.edges s0.1).bind fun x1=>
  (b x1).bind fun x2=>
  bif x2.2 then
   bif (Nat.ble (List.length s0.2+1) lim) then
    some (.inl ((w64 (s0.1+1)),(s0.2++[x2.1])))
   else
    none
  else
   some (.inl ((w64 (s0.1+1)),s0.2))
 else
  some (.inr s0.2)
def ZnZ (a:Zar) (b:(Zo→Option (Int×Bool))):Option (List Int):=
 (lp (ZhS a b) (0,([]:List Int))).bind fun r3=>
 (ZcF r3).bind fun x4=>
 some x4
def ZjD (a:Zar) (b:Int):Option (List Int):=
 (ZnZ a (fun z0=>Zgm z0 b)).bind fun x0=>
 some x0
def Zgr (x2:Int) (x3:List Int) (s4:Int×(List Int)):Option ((Int×(List Int))⊕(List Int)):=
 bif (decide (s4.1<(x3.length:Int))) then
  (Zx x3 s4.1).bind fun x5=>
  (Zx s4.2 x2).bind fun x6=>
  (Zx s4.2 x5).bind fun x7=>
  some (.inl ((w64 (s4.1+1)),(List.set s4.2 x2.toNat (bif decide (x6<x7) then x7 else x6))))
 else
  some (.inr s4.2)
def Zgw (a:Zar) (x0:List Int) (s1:Int×Int×(List Int)):Option ((Int×Int×(List Int))⊕Int):=
 bif (decide (s1.2.1<(x0.length:Int))) then
  (Zx x0 s1.2.1).bind fun x2=>
  (ZjD a x2).bind fun x3=>
  (lp (Zgr x2 x3) (0,s1.2.2)).bind fun r8=>
  (Zx r8 x2).bind fun x9=>
  (Zx a.work x2).bind fun x10=>
  (Zx (List.set r8 x2.toNat (w64 (x9+x10))) x2).bind fun x11=>
  some (.inl ((bif decide (s1.1<x11) then x11 else s1.1),(w64 (s1.2.1+1)),(List.set r8 x2.toNat (w64 (x9+x10)))))
 else
  some (.inr s1.1)
def ZkC (a:Zar):Option Int:=
 bif (decide (0≤(a.work.length:Int))&&decide ((a.work.length:Int)≤lim)&&decide ((a.work.length:Int)==(a.work.length:Int))) then
  (Zjz a).bind fun x0=>
  (lp (Zgw a x0) (0,0,(List.replicate (a.work.length:Int).toNat (0:Int)))).bind fun r12=>
  some r12
 else
  none
def ZbK (a:List Int) (s1:Int×Int):Option ((Int×Int)⊕Int):=
 bif (decide (s1.2<(a.length:Int))) then
  (Zx a s1.2).bind fun x2=>
  some (.inl ((bif decide (s1.1<x2) then x2 else s1.1),(w64 (s1.2+1))))
 else
  some (.inr s1.1)
def ZcZ (a:List Int):Option Int:=
 bif (decide ((a.length:Int)<1)) then
  none
 else
  (Zx a 0).bind fun x0=>
  (lp (ZbK a) (x0,1)).bind fun r3=>
  some r3
def Zjr (a:Zp):Option (ZjT×Int):=
 (Zik a).bind fun x0=>
 bif (x0.2 != 0) then
  some ((ZjT.mk 0 0 0 0 0),x0.2)
 else
  (Zjw x0.1.dag).bind fun x1=>
  (ZkC x0.1.dag).bind fun x2=>
  (ZcZ x0.1.dag.work).bind fun x3=>
  some ((ZjT.mk x1 x2 x3 a.deadline a.period),0)
def ZdO (a:Int) (s0:Int×Int):Option ((Int×Int)⊕(Int⊕Unit)):=
 bif (decide (s0.2<40)) then
  bif (s0.1==a) then
   some (.inr (.inl s0.2))
  else
   some (.inl ((w64 (2*s0.1)),(w64 (s0.2+1))))
 else
  some (.inr (.inr ()))
def ZjJ (a:Int):Option (Int×Bool):=
 (lp (ZdO a) (1,0)).bind fun r1=>
 match r1 with
 | (.inl r1)=>
  some (r1,true)
 | (.inr r1)=>
  some (0,false)
def ZiY (a:Zp):Option Bool:=
 (ZjJ a.period).bind fun x0=>
 bif x0.2 then
  bif (decide (a.period≤4096)) then
   bif (decide (1≤a.deadline)) then
    bif (decide (a.deadline≤a.period)) then
     some true
    else
     some false
   else
    some false
  else
   some false
 else
  some false
def Zfr (a:Zp) (s0:Int):Option (Int⊕(Unit⊕Unit)):=
 bif (decide (s0<(a.parts.length:Int))) then
  (Zx a.parts s0).bind fun x1=>
  bif (decide (x1.op<0)) then
   some (.inr (.inl ()))
  else
   bif (decide (5<x1.op)) then
    some (.inr (.inl ()))
   else
    bif (decide (x1.arg<0)) then
     some (.inr (.inl ()))
    else
     bif (decide (2147483647<x1.arg)) then
      some (.inr (.inl ()))
     else
      bif (decide (x1.work<1)) then
       some (.inr (.inl ()))
      else
       bif (decide (100<x1.work)) then
        some (.inr (.inl ()))
       else
        some (.inl (w64 (s0+1)))
 else
  some (.inr (.inr ()))
def Zin (a:Zp):Option Bool:=
 (lp (Zfr a) 0).bind fun r2=>
 match r2 with
 | (.inl r2)=>
  some false
 | (.inr r2)=>
  some true
def Zff (a:Zp) (b:Int):Option Bool:=
 bif (decide (0≤b)) then
  bif (decide (b<(a.parts.length:Int))) then
   some true
  else
   some false
 else
  some false
def Zfs (a:Zp) (s0:Int) (x1:Zo) (s4:Int):Option (Int⊕(Unit⊕Unit)):=
 bif (decide (s4<s0)) then
  (Zx a.edges s4).bind fun x5=>
  bif (x5.src==x1.src) then
   bif (x5.dst==x1.dst) then
    some (.inr (.inl ()))
   else
    some (.inl (w64 (s4+1)))
  else
   some (.inl (w64 (s4+1)))
 else
  some (.inr (.inr ()))
def Zfv (a:Zp) (s0:Int):Option (Int⊕(Unit⊕Unit)):=
 bif (decide (s0<(a.edges.length:Int))) then
  (Zx a.edges s0).bind fun x1=>
  (Zff a x1.src).bind fun x2=>
  bif x2 then
   (Zff a x1.dst).bind fun x3=>
   bif x3 then
    bif (x1.src==x1.dst) then
     some (.inr (.inl ()))
    else
     (lp (Zfs a s0 x1) 0).bind fun r6=>
     match r6 with
     | (.inl r6)=>
      some (.inr (.inl ()))
     | (.inr r6)=>
      some (.inl (w64 (s0+1)))
   else
    some (.inr (.inl ()))
  else
   some (.inr (.inl ()))
 else
  some (.inr (.inr ()))
def Zie (a:Zp):Option Bool:=
 (lp (Zfv a) 0).bind fun r7=>
 match r7 with
 | (.inl r7)=>
  some false
 | (.inr r7)=>
  some true
def Zeb (a:Zp) (s0:Int) (x1:Zl) (s5:Int):Option (Int⊕(Unit⊕Unit)):=
 bif (decide (s5<s0)) then
  (Zx a.futures s5).bind fun x6=>
  bif (x6.user==x1.user) then
   bif (x6.pos==x1.pos) then
    some (.inr (.inl ()))
   else
    some (.inl (w64 (s5+1)))
  else
   some (.inl (w64 (s5+1)))
 else
  some (.inr (.inr ()))
def Zec (a:Zp) (s0:Int):Option (Int⊕(Unit⊕Unit)):=
 bif (decide (s0<(a.futures.length:Int))) then
  (Zx a.futures s0).bind fun x1=>
  (Zff a x1.maker).bind fun x2=>
  bif x2 then
   (Zff a x1.user).bind fun x3=>
   bif x3 then
    bif (x1.maker==x1.user) then
     some (.inr (.inl ()))
    else
     bif (decide (x1.pos<1)) then
      some (.inr (.inl ()))
     else
      (Zx a.parts x1.user).bind fun x4=>
      bif (decide (x4.work≤x1.pos)) then
       some (.inr (.inl ()))
      else
       (lp (Zeb a s0 x1) 0).bind fun r7=>
       match r7 with
       | (.inl r7)=>
        some (.inr (.inl ()))
       | (.inr r7)=>
        some (.inl (w64 (s0+1)))
   else
    some (.inr (.inl ()))
  else
   some (.inr (.inl ()))
 else
  some (.inr (.inr ()))
def Zhd (a:Zp):Option Bool:=
 (lp (Zec a) 0).bind fun r8=>
 match r8 with
 | (.inl r8)=>
  some false
 | (.inr r8)=>
  some true
def ZgT (a:Zp) (b:List Int) (s0:Int):Option (Int⊕(Unit⊕Unit)):=
 bif (decide (s0<(b.length:Int))) then
  (Zx b s0).bind fun x1=>
  (Zff a x1).bind fun x2=>
  bif x2 then
   bif (decide (0<s0)) then
    (Zx b (w64 (s0-1))).bind fun x3=>
    bif (decide (x1≤x3)) then
     some (.inr (.inl ()))
    else
     some (.inl (w64 (s0+1)))
   else
    some (.inl (w64 (s0+1)))
  else
   some (.inr (.inl ()))
 else
  some (.inr (.inr ()))
def ZiF (a:Zp) (b:List Int):Option Bool:=
 (lp (ZgT a b) 0).bind fun r4=>
 match r4 with
 | (.inl r4)=>
  some false
 | (.inr r4)=>
  bif (decide (0<(b.length:Int))) then
   some true
  else
   some false
def ZgQ (a:List Int) (b:Int) (s0:Int):Option (Int⊕(Unit⊕Unit)):=
 bif (decide (s0<(a.length:Int))) then
  (Zx a s0).bind fun x1=>
  bif (x1==b) then
   some (.inr (.inl ()))
  else
   some (.inl (w64 (s0+1)))
 else
  some (.inr (.inr ()))
def ZjE (a:List Int) (b:Int):Option Bool:=
 (lp (ZgQ a b) 0).bind fun r2=>
 match r2 with
 | (.inl r2)=>
  some true
 | (.inr r2)=>
  some false
def ZdS (x1:Zw) (s4:Int):Option (Int⊕(Unit⊕Unit)):=
 bif (decide (s4<(x1.ins.length:Int))) then
  (Zx x1.ins s4).bind fun x5=>
  (ZjE x1.outs x5).bind fun x6=>
  bif x6 then
   some (.inr (.inl ()))
  else
   some (.inl (w64 (s4+1)))
 else
  some (.inr (.inr ()))
def ZdT (a:Zp) (s0:Int):Option (Int⊕(Unit⊕Unit)):=
 bif (decide (s0<(a.barriers.length:Int))) then
  (Zx a.barriers s0).bind fun x1=>
  (ZiF a x1.ins).bind fun x2=>
  bif x2 then
   (ZiF a x1.outs).bind fun x3=>
   bif x3 then
    (lp (ZdS x1) 0).bind fun r7=>
    match r7 with
    | (.inl r7)=>
     some (.inr (.inl ()))
    | (.inr r7)=>
     some (.inl (w64 (s0+1)))
   else
    some (.inr (.inl ()))
  else
   some (.inr (.inl ()))
 else
  some (.inr (.inr ()))
def ZgL (a:Zp):Option Bool:=
 (lp (ZdT a) 0).bind fun r8=>
 match r8 with
 | (.inl r8)=>
  some false
 | (.inr r8)=>
  some true
def Zib (a:Zp):Option Int:=
 bif (decide ((a.parts.length:Int)<1)) then
  some 50
 else
  bif (decide (16<(a.parts.length:Int))) then
   some 50
  else
   bif (decide (48<(a.edges.length:Int))) then
    some 50
   else
    bif (decide (16<(a.futures.length:Int))) then
     some 50
    else
     bif (decide (4<(a.barriers.length:Int))) then
      some 50
     else
      (ZiY a).bind fun x0=>
      bif x0 then
       (Zin a).bind fun x1=>
       bif x1 then
        (Zie a).bind fun x2=>
        bif x2 then
         (Zhd a).bind fun x3=>
         bif x3 then
          (ZgL a).bind fun x4=>
          bif x4 then
           some 0
          else
           some 55
         else
          some 54
        else
         some 53
       else
        some 52
      else
       some 51
def Zdu (a:Zp) (b:Int) (s0:Int×(List Int)) (s1:Int×(List Int)):Option ((Int×(List Int))⊕(List Int)):=
 bif (decide (s1.1<(a.futures.length:Int))) then
  (Zx a.futures s1.1).bind fun x2=>
  bif (x2.user==b) then
   bif (x2.pos==s0.1) then
    bif (Nat.ble (List.length s1.2+1) lim) then
     some (.inl ((w64 (s1.1+1)),(s1.2++[s1.1])))
    else
     none
   else
    some (.inl ((w64 (s1.1+1)),s1.2))
  else
   some (.inl ((w64 (s1.1+1)),s1.2))
 else
  some (.inr s1.2)
def ZfW (a:Zp) (b:Int) (s0:Int×(List Int)):Option ((Int×(List Int))⊕(List Int)):=
 bif (decide (s0.1<100)) then
  (lp (Zdu a b s0) (0,s0.2)).bind fun r3=>
  some (.inl ((w64 (s0.1+1)),r3))
 else
  some (.inr s0.2)
def Ze0 (a:Zp) (b:Int):Option (List Int):=
 (lp (ZfW a b) (1,([]:List Int))).bind fun r4=>
 some r4
def Zeg (a:Zp) (x0:List Int) (s1:Int×Int×(List Int)):Option ((Int×Int×(List Int))⊕(Int×(List Int))):=
 bif (decide (s1.2.1<(x0.length:Int))) then
  (Zx x0 s1.2.1).bind fun x2=>
  (Zx a.futures x2).bind fun x3=>
  bif (Nat.ble (List.length s1.2.2+1) lim) then
   some (.inl (x3.pos,(w64 (s1.2.1+1)),(s1.2.2++[(w64 (x3.pos-s1.1))])))
  else
   none
 else
  some (.inr (s1.1,s1.2.2))
def Zhk (a:Zp) (b:Int):Option (List Int):=
 (Ze0 a b).bind fun x0=>
 (lp (Zeg a x0) (0,0,([]:List Int))).bind fun r4=>
 (Zx a.parts b).bind fun x5=>
 bif (Nat.ble (List.length r4.2+1) lim) then
  some (r4.2++[(w64 (x5.work-r4.1))])
 else
  none
def Zd6 (a:Zp) (b:Int) (s0:Int×Int):Option ((Int×Int)⊕Int):=
 bif (decide (s0.2<b)) then
  (Zhk a s0.2).bind fun x1=>
  some (.inl ((w64 (s0.1+(x1.length:Int))),(w64 (s0.2+1))))
 else
  some (.inr s0.1)
def Zdi (a:Zp) (b:Int):Option Int:=
 (lp (Zd6 a b) (0,0)).bind fun r2=>
 some r2
def Zgu (a:Zp) (b:Int):Option Int:=
 (Zdi a (w64 (b+1))).bind fun x0=>
 some (w64 (x0-1))
def Zfx (a:Zp) (b:Zl) (x0:List Int) (s1:Int):Option (Int⊕(Int⊕Unit)):=
 bif (decide (s1<(x0.length:Int))) then
  (Zx x0 s1).bind fun x2=>
  (Zx a.futures x2).bind fun x3=>
  bif (x3.pos==b.pos) then
   (Zdi a b.user).bind fun x4=>
   some (.inr (.inl (w64 ((w64 (x4+s1))+1))))
  else
   some (.inl (w64 (s1+1)))
 else
  some (.inr (.inr ()))
def Ziq (a:Zp) (b:Zl):Option Int:=
 (Ze0 a b.user).bind fun x0=>
 (lp (Zfx a b x0) 0).bind fun r5=>
 match r5 with
 | (.inl r5)=>
  some r5
 | (.inr r5)=>
  some (-1)
def Zd7 (a:Zp) (s0:Int×(List Zo)×(List Int)×(List Zj)) (x1:List Int) (s2:Int×(List Zo)×(List Int)×(List Zj)):Option ((Int×(List Zo)×(List Int)×(List Zj))⊕((List Zo)×(List Int)×(List Zj))):=
 bif (decide (s2.1<(x1.length:Int))) then
  bif (Nat.ble (List.length s2.2.2.2+1) lim) then
   (Zx x1 s2.1).bind fun x3=>
   bif (Nat.ble (List.length s2.2.2.1+1) lim) then
    bif (decide (0<s2.1)) then
     (Zdi a s0.1).bind fun x4=>
     (Zdi a s0.1).bind fun x5=>
     bif (Nat.ble (List.length s2.2.1+1) lim) then
      some (.inl ((w64 (s2.1+1)),(s2.2.1++[(Zo.mk (w64 ((w64 (x4+s2.1))-1)) (w64 (x5+s2.1)))]),(s2.2.2.1++[x3]),(s2.2.2.2++[(Zj.mk s0.1 s2.1)])))
     else
      none
    else
     some (.inl ((w64 (s2.1+1)),s2.2.1,(s2.2.2.1++[x3]),(s2.2.2.2++[(Zj.mk s0.1 s2.1)])))
   else
    none
  else
   none
 else
  some (.inr (s2.2.1,s2.2.2.1,s2.2.2.2))
def Zeh (a:Zp) (s0:Int×(List Zo)×(List Int)×(List Zj)):Option ((Int×(List Zo)×(List Int)×(List Zj))⊕((List Zo)×(List Int)×(List Zj))):=
 bif (decide (s0.1<(a.parts.length:Int))) then
  (Zhk a s0.1).bind fun x1=>
  (lp (Zd7 a s0 x1) (0,s0.2.1,s0.2.2.1,s0.2.2.2)).bind fun r6=>
  some (.inl ((w64 (s0.1+1)),r6.1,r6.2.1,r6.2.2))
 else
  some (.inr (s0.2.1,s0.2.2.1,s0.2.2.2))
def Zee (a:Zp) (s8:Int×(List Zo)):Option ((Int×(List Zo))⊕(List Zo)):=
 bif (decide (s8.1<(a.edges.length:Int))) then
  (Zx a.edges s8.1).bind fun x9=>
  (Zgu a x9.src).bind fun x10=>
  (Zdi a x9.dst).bind fun x11=>
  bif (Nat.ble (List.length s8.2+1) lim) then
   some (.inl ((w64 (s8.1+1)),(s8.2++[(Zo.mk x10 x11)])))
  else
   none
 else
  some (.inr s8.2)
def Zd4 (a:Zp) (s13:Int×(List Zo)):Option ((Int×(List Zo))⊕(List Zo)):=
 bif (decide (s13.1<(a.futures.length:Int))) then
  (Zx a.futures s13.1).bind fun x14=>
  (Zgu a x14.maker).bind fun x15=>
  (Ziq a x14).bind fun x16=>
  bif (Nat.ble (List.length s13.2+1) lim) then
   some (.inl ((w64 (s13.1+1)),(s13.2++[(Zo.mk x15 x16)])))
  else
   none
 else
  some (.inr s13.2)
def ZfC (a:Zp) (s18:Int×(List Zo)×(List Int)×(List Zj)) (x19:Zw) (s20:Int×(List Zo)):Option ((Int×(List Zo))⊕(List Zo)):=
 bif (decide (s20.1<(x19.ins.length:Int))) then
  (Zx x19.ins s20.1).bind fun x21=>
  (Zgu a x21).bind fun x22=>
  bif (Nat.ble (List.length s20.2+1) lim) then
   some (.inl ((w64 (s20.1+1)),(s20.2++[(Zo.mk x22 (s18.2.2.2.length:Int))])))
  else
   none
 else
  some (.inr s20.2)
def Zfj (a:Zp) (s18:Int×(List Zo)×(List Int)×(List Zj)) (x19:Zw) (s24:Int×(List Zo)):Option ((Int×(List Zo))⊕(List Zo)):=
 bif (decide (s24.1<(x19.outs.length:Int))) then
  (Zx x19.outs s24.1).bind fun x25=>
  (Zdi a x25).bind fun x26=>
  bif (Nat.ble (List.length s24.2+1) lim) then
   some (.inl ((w64 (s24.1+1)),(s24.2++[(Zo.mk (s18.2.2.2.length:Int) x26)])))
  else
   none
 else
  some (.inr s24.2)
def Zd2 (a:Zp) (s18:Int×(List Zo)×(List Int)×(List Zj)):Option ((Int×(List Zo)×(List Int)×(List Zj))⊕((List Zo)×(List Int)×(List Zj))):=
 bif (decide (s18.1<(a.barriers.length:Int))) then
  bif (Nat.ble (List.length s18.2.2.2+1) lim) then
   bif (Nat.ble (List.length s18.2.2.1+1) lim) then
    (Zx a.barriers s18.1).bind fun x19=>
    (lp (ZfC a s18 x19) (0,s18.2.1)).bind fun r23=>
    (lp (Zfj a s18 x19) (0,r23)).bind fun r27=>
    some (.inl ((w64 (s18.1+1)),r27,(s18.2.2.1++[1]),(s18.2.2.2++[(Zj.mk (-1) s18.1)])))
   else
    none
  else
   none
 else
  some (.inr (s18.2.1,s18.2.2.1,s18.2.2.2))
def Zh8 (a:Zp):Option Znj:=
 (lp (Zeh a) (0,([]:List Zo),([]:List Int),([]:List Zj))).bind fun r7=>
 (lp (Zee a) (0,r7.1)).bind fun r12=>
 (lp (Zd4 a) (0,r12)).bind fun r17=>
 (lp (Zd2 a) (0,r17,r7.2.1,r7.2.2)).bind fun r28=>
 some (Znj.mk (Zar.mk r28.2.1 r28.1) r28.2.2)
def ZhR (a:Zar) (b:Int):Option Bool:=
 bif (decide (0≤b)) then
  bif (decide (b<(a.work.length:Int))) then
   some true
  else
   some false
 else
  some false
def Zfl (a:Zar) (s0:Int):Option (Int⊕(Unit⊕Unit)):=
 bif (decide (s0<(a.work.length:Int))) then
  (Zx a.work s0).bind fun x1=>
  bif (decide (x1<0)) then
   some (.inr (.inl ()))
  else
   bif (decide (1000<x1)) then
    some (.inr (.inl ()))
   else
    some (.inl (w64 (s0+1)))
 else
  some (.inr (.inr ()))
def Zfz (a:Zar) (s3:Int) (x4:Zo) (s7:Int):Option (Int⊕(Unit⊕Unit)):=
 bif (decide (s7<s3)) then
  (Zx a.edges s7).bind fun x8=>
  bif ((x8.src==x4.src)&&((x8.dst==x4.dst)&&true)) then
   some (.inr (.inl ()))
  else
   some (.inl (w64 (s7+1)))
 else
  some (.inr (.inr ()))
def Zfo (a:Zar) (s3:Int):Option (Int⊕(Unit⊕Unit)):=
 bif (decide (s3<(a.edges.length:Int))) then
  (Zx a.edges s3).bind fun x4=>
  (ZhR a x4.src).bind fun x5=>
  bif x5 then
   (ZhR a x4.dst).bind fun x6=>
   bif x6 then
    bif (x4.src==x4.dst) then
     some (.inr (.inl ()))
    else
     (lp (Zfz a s3 x4) 0).bind fun r9=>
     match r9 with
     | (.inl r9)=>
      some (.inr (.inl ()))
     | (.inr r9)=>
      some (.inl (w64 (s3+1)))
   else
    some (.inr (.inl ()))
  else
   some (.inr (.inl ()))
 else
  some (.inr (.inr ()))
def Zij (a:Zar):Option Int:=
 bif (decide (64<(a.work.length:Int))) then
  some 40
 else
  bif (decide (256<(a.edges.length:Int))) then
   some 40
  else
   (lp (Zfl a) 0).bind fun r2=>
   match r2 with
   | (.inl r2)=>
    some 41
   | (.inr r2)=>
    (lp (Zfo a) 0).bind fun r10=>
    match r10 with
    | (.inl r10)=>
     some 42
    | (.inr r10)=>
     some 0
def Zej (a:Zar) (b:Int) (s1:Int×(List Bool)):Option ((Int×(List Bool))⊕(List Bool)):=
 bif (decide (s1.1<(a.edges.length:Int))) then
  (Zx a.edges s1.1).bind fun x2=>
  bif (x2.src==b) then
   (Zx s1.2 x2.dst).bind fun x3=>
   some (.inl ((w64 (s1.1+1)),(List.set s1.2 x2.dst.toNat true)))
  else
   (Zx s1.2 x2.src).bind fun x4=>
   bif x4 then
    (Zx s1.2 x2.dst).bind fun x5=>
    some (.inl ((w64 (s1.1+1)),(List.set s1.2 x2.dst.toNat true)))
   else
    some (.inl ((w64 (s1.1+1)),s1.2))
 else
  some (.inr s1.2)
def Zd5 (a:Zar) (b:Int) (s0:Int×(List Bool)):Option ((Int×(List Bool))⊕(List Bool)):=
 bif (decide (s0.1<(a.work.length:Int))) then
  (lp (Zej a b) (0,s0.2)).bind fun r6=>
  some (.inl ((w64 (s0.1+1)),r6))
 else
  some (.inr s0.2)
def Zip (a:Zar) (b:Int):Option (List Bool):=
 bif (decide (0≤(a.work.length:Int))&&decide ((a.work.length:Int)≤lim)&&decide ((a.work.length:Int)==(a.work.length:Int))) then
  (lp (Zd5 a b) (0,(List.replicate (a.work.length:Int).toNat (false:Bool)))).bind fun r7=>
  some r7
 else
  none
def Zft (a:Zar) (s1:Int):Option (Int⊕(Unit⊕Unit)):=
 bif (decide (s1<(a.work.length:Int))) then
  (Zip a s1).bind fun x2=>
  (Zx x2 s1).bind fun x3=>
  bif x3 then
   some (.inr (.inl ()))
  else
   some (.inl (w64 (s1+1)))
 else
  some (.inr (.inr ()))
def Zh7 (a:Zar):Option Int:=
 (Zij a).bind fun x0=>
 bif (x0 != 0) then
  some x0
 else
  (lp (Zft a) 0).bind fun r4=>
  match r4 with
  | (.inl r4)=>
   some 43
  | (.inr r4)=>
   some 0
def Zh5 (a:Zp):Option (Znj×Int):=
 (Zib a).bind fun x0=>
 bif (x0 != 0) then
  some ((Znj.mk (Zar.mk ([]:List Int) ([]:List Zo)) ([]:List Zj)),x0)
 else
  (Zh8 a).bind fun x1=>
  (Zh7 x1.dag).bind fun x2=>
  bif (x2 != 0) then
   some ((Znj.mk (Zar.mk ([]:List Int) ([]:List Zo)) ([]:List Zj)),70)
  else
   some (x1,0)
def Zfq (a:Zar) (s0:Int×Int):Option ((Int×Int)⊕Int):=
 bif (decide (s0.2<(a.work.length:Int))) then
  (Zx a.work s0.2).bind fun x1=>
  some (.inl ((w64 (s0.1+x1)),(w64 (s0.2+1))))
 else
  some (.inr s0.1)
def Zh4 (a:Zar):Option Int:=
 (lp (Zfq a) (0,0)).bind fun r2=>
 some r2
def ZeW (a:Zar) (s1:Int×(List Int)):Option ((Int×(List Int))⊕(List Int)):=
 bif (decide (s1.1<(a.edges.length:Int))) then
  (Zx a.edges s1.1).bind fun x2=>
  (Zx s1.2 x2.src).bind fun x3=>
  (Zx a.work x2.dst).bind fun x4=>
  (Zx s1.2 x2.dst).bind fun x5=>
  bif (decide (x5<(w64 (x3+x4)))) then
   some (.inl ((w64 (s1.1+1)),(List.set s1.2 x2.dst.toNat (w64 (x3+x4)))))
  else
   some (.inl ((w64 (s1.1+1)),s1.2))
 else
  some (.inr s1.2)
def ZeX (a:Zar) (s0:Int×(List Int)):Option ((Int×(List Int))⊕(List Int)):=
 bif (decide (s0.1<(a.work.length:Int))) then
  (lp (ZeW a) (0,s0.2)).bind fun r6=>
  some (.inl ((w64 (s0.1+1)),r6))
 else
  some (.inr s0.2)
def ZeM (r7:List Int) (s8:Int×Int):Option ((Int×Int)⊕Int):=
 bif (decide (s8.2<(r7.length:Int))) then
  (Zx r7 s8.2).bind fun x9=>
  some (.inl ((bif decide (s8.1<x9) then x9 else s8.1),(w64 (s8.2+1))))
 else
  some (.inr s8.1)
def ZiK (a:Zar):Option Int:=
 bif (Nat.ble (List.length a.work) lim) then
  (lp (ZeX a) (0,a.work)).bind fun r7=>
  (lp (ZeM r7) (0,0)).bind fun r10=>
  some r10
 else
  none
def Zed (x0:(Znj×Int)) (s3:Int×Int):Option ((Int×Int)⊕Int):=
 bif (decide (s3.1<(x0.1.dag.work.length:Int))) then
  (Zx x0.1.dag.work s3.1).bind fun x4=>
  some (.inl ((w64 (s3.1+1)),(bif decide (s3.2<x4) then x4 else s3.2)))
 else
  some (.inr s3.2)
def Zjp (a:Zp):Option (ZjT×Int):=
 (Zh5 a).bind fun x0=>
 bif (x0.2 != 0) then
  some ((ZjT.mk 0 0 0 0 0),x0.2)
 else
  (Zh4 x0.1.dag).bind fun x1=>
  (ZiK x0.1.dag).bind fun x2=>
  (lp (Zed x0) (0,0)).bind fun r5=>
  some ((ZjT.mk x1 x2 r5 a.deadline a.period),0)
def ZdU (a:Int) (b:Int):Option Bool:=
 bif (decide (1≤a)) then
  bif (decide (a≤b)) then
   some true
  else
   some false
 else
  some false
def Zh9 (a:ZjT):Option Int:=
 (Zki a.period).bind fun x0=>
 bif x0.2 then
  bif (decide (4096<a.period)) then
   some 140
  else
   (ZdU a.deadline a.period).bind fun x1=>
   bif x1 then
    (ZdU a.total 4096).bind fun x2=>
    bif x2 then
     (ZdU a.long a.total).bind fun x3=>
     bif x3 then
      (ZdU a.most a.long).bind fun x4=>
      bif x4 then
       some 0
      else
       some 140
     else
      some 140
    else
     some 140
   else
    some 140
 else
  some 140
def ZgE (a:Zp):Option Bool:=
 Zif.bind fun x0=>
 bif x0 then
  (ZjA a).bind fun x1=>
  bif x1 then
   (ZjH a).bind fun x2=>
   (Zjr (Zp.mk a.period a.deadline a.parts a.edges a.futures x2)).bind fun x3=>
   (Zjp a).bind fun x4=>
   bif ((x3.1.total==x4.1.total)&&((x3.1.long==x4.1.long)&&((x3.1.most==x4.1.most)&&((x3.1.deadline==x4.1.deadline)&&((x3.1.period==x4.1.period)&&true))))) then
    bif (x3.2==x4.2) then
     bif (x3.2 != 0) then
      some true
     else
      (Zh9 x3.1).bind fun x5=>
      bif (x5==0) then
       some true
      else
       some false
    else
     some false
   else
    some false
  else
   Zif.bind fun x6=>
   bif x6 then
    some true
   else
    some false
 else
  Zif.bind fun x7=>
  bif x7 then
   some true
  else
   some false
end
end Go.Proofs.YtnpidpcmpleiaaaGreatDoor
namespace Go.Proofs.YtnpidpcmpleiaaaGreatDoorE
open Go
open Go.IntKind (u64 i64 u32 i32 u8)
theorem Zdk {i n:Nat} (h:i<n):decide ((i:Int)<(n:Int))=true:=decide_eq_true (by omega)
theorem ZdR (n:Nat):decide ((n:Int)<(n:Int))=false:=decide_eq_false (by omega)
theorem Zay {γ:Type}{l:List γ}{i:Nat}{x:γ} (h:l[i]? = some x):Zx l (i:Int)=some x:=(ZAj l i).trans h
theorem Ztf {γ:Type}{l:List γ}{i:Int}{x:γ} (h0:0≤i) (h:l[i.toNat]? = some x):Zx l i=some x:=by
 have:=Zay h
 rwa [Int.toNat_of_nonneg h0] at this
theorem Zch {n:Int} (h1 : -9223372036854775808≤n) (h2:n<9223372036854775808):w64 n=n:=ZEx h1 h2
theorem ZQ {i n:Nat} (h:i<n) (hn:n<9223372036854775808):w64 ((i:Int)+1)=((i+1:Nat):Int):=by rw[Zch (by omega) (by omega)];omega
theorem ZiO {n:Nat} (h:n≤1073741824):Nat.ble n lim=true:=Nat.ble_eq_true_of_le h
def ZqI {γ S R:Type} (f:Nat→γ→S→Option (S⊕R)) (fin:S→Option R):Nat→List γ→S→Option R
 | _,[],s=>fin s
 | i,x :: l,s=>(match f i x s with | some (.inl s')=>ZqI f fin (i+1) l s' | some (.inr r)=>some r | none=>none)
theorem Zuu {γ S St R:Type} (l:List γ) (step:St→Option (St⊕R)) (st:Nat→S→St) (f:Nat→γ→S→Option (S⊕R)) (fin:S→Option R)
  (h1:∀i x s,i<l.length→l[i]? = some x→step (st i s)=(match f i x s with | some (.inl s')=>some (.inl (st (i+1) s')) | some (.inr r)=>some (.inr r) | none=>none))
  (h2:∀s,step (st l.length s)=(fin s).map Sum.inr):∀s,lp step (st 0 s)=ZqI f fin 0 l s:=by
 have key:∀(k i:Nat) (s:S),i+k=l.length→lp step (st i s)=ZqI f fin i (l.drop i) s:=by
  intro k
  induction k with
  | zero=>
   intro i s hi
   have:i=l.length:=by omega
   subst this
   rw[List.drop_length,Zbz,h2]
   unfold ZqI
   cases fin s<;>rfl
  | succ k ih=>
   intro i s hi
   have hi':i<l.length:=by omega
   rw[List.drop_eq_getElem_cons hi',Zbz,h1 i l[i] s hi' (List.getElem?_eq_getElem hi')]
   conv=>rhs;unfold ZqI
   cases f i l[i] s with
   | none=>rfl
   | some t=>
    cases t with
    | inl s'=>exact ih (i+1) s' (by omega)
    | inr r=>rfl
 intro s
 have:=key l.length 0 s (by omega)
 rwa [List.drop_zero] at this
def Zla {γ R:Type} (p:Nat→γ→Bool) (out:Nat→γ→R) (fin:R):Nat→List γ→R
 | _,[]=>fin
 | i,x :: l=>bif p i x then out i x else Zla p out fin (i+1) l
theorem Zen {γ R:Type} (l:List γ) (step:Int→Option (Int⊕R)) (p:Nat→γ→Bool) (out:Nat→γ→R) (fin:R)
  (h1:∀i x,i<l.length→l[i]? = some x→step (i:Int)=some (bif p i x then .inr (out i x) else .inl ((i+1:Nat):Int)))
  (h2:step (l.length:Int)=some (.inr fin)):lp step 0=some (Zla p out fin 0 l):=by
 have key:=Zuu (S:=Unit) l step (fun i _=>(i:Int)) (fun i x _=>some (bif p i x then .inr (out i x) else .inl ())) (fun _=>some fin)
  (fun i x s hi hx=>by rw[h1 i x hi hx];cases p i x<;>rfl) (fun _=>h2) ()
 refine(key:lp step 0=_).trans ?_
 have:∀(l:List γ) (i:Nat),ZqI (S:=Unit) (fun i x _=>some (bif p i x then Sum.inr (out i x) else Sum.inl ())) (fun _=>some fin) i l ()=some (Zla p out fin i l):=by
  intro l
  induction l with
  | nil=>intro i;rfl
  | cons x l ih=>
   intro i
   unfold ZqI Zla
   cases p i x with
   | true=>rfl
   | false=>exact ih (i+1)
 exact this l 0
def Zhz {γ:Type} (p:Nat→γ→Bool):Nat→List γ→Bool
 | _,[]=>false
 | i,x :: l=>p i x || Zhz p (i+1) l
theorem Zh6 {γ:Type} (p:γ→Bool):∀(l:List γ) (i:Nat),Zhz (fun _=>p) i l=l.any p
 | [],_=>rfl
 | x :: l,i=>by rw[Zhz,List.any_cons,Zh6 p l]
theorem Zcf {γ R:Type} (p:Nat→γ→Bool) (c fin:R):∀(l:List γ) (i:Nat),Zla p (fun _ _=>c) fin i l=bif Zhz p i l then c else fin
 | [],_=>rfl
 | x :: l,i=>by
  unfold Zla Zhz
  rw[Zcf p c fin l (i+1)]
  cases p i x<;>rfl
theorem ZsG {γ R:Type} (p:γ→Bool) (fin:R):∀(l:List γ) (i:Nat),(∃j:Nat,Zla (fun _=>p) (fun i _=>(Sum.inl (i:Int):Int⊕R)) (.inr fin) i l = .inl (j:Int)∧l.any p=true)∨(Zla (fun _=>p) (fun i _=>(Sum.inl (i:Int):Int⊕R)) (.inr fin) i l = .inr fin∧l.any p=false)
 | [],_=>.inr ⟨rfl,rfl⟩
 | x :: l,i=>by
  unfold Zla
  rw[List.any_cons]
  cases h:p x with
  | true=>exact .inl ⟨i,rfl,rfl⟩
  | false=>simpa using ZsG p fin l (i+1)
theorem ZkH {γ:Type} (p:Nat→γ→Bool):∀(l:List γ) (i:Nat),Zhz p i l=true↔∃j x,l[j]? = some x∧p (i+j) x=true
 | [],i=>by simp[Zhz]
 | x :: l,i=>by
  rw[Zhz,Bool.or_eq_true,ZkH p l (i+1)]
  constructor
  ·rintro (h | ⟨j,y,hj,hp⟩)
   ·exact⟨0,x,rfl,h⟩
   ·exact⟨j+1,y,by simpa using hj,by rw[show i+(j+1)=i+1+j by omega];exact hp⟩
  ·rintro ⟨j,y,hj,hp⟩
   cases j with
   | zero=>left;simp at hj;subst hj;exact hp
   | succ j=>right;exact⟨j,y,by simpa using hj,by rw[show i+1+j=i+(j+1) by omega];exact hp⟩
end Go.Proofs.YtnpidpcmpleiaaaGreatDoorE
namespace Go.Proofs.YtnpidpcmpleiaaaGreatDoor
open Go Go.Proofs.YtnpidpcmpleiaaaGreatDoorE
open Go.IntKind (u64 i64 u32 i32 u8)
def Zc4 (n a b:Int):Bool:=decide (a≤n)&&decide (n≤b)
theorem Zny (n a b:Int):Zcp n a b=some (Zc4 n a b):=by
 unfold Zcp Zc4
 cases decide (a≤n)<;>cases decide (n≤b)<;>rfl
theorem ZnJ (x:Int) (n:Nat):Zc4 x 0 ((n:Int)-1)=(decide (0≤x)&&decide (x<(n:Int))):=by
 unfold Zc4
 congr 1
 exact decide_eq_decide.2 (by omega)
def Zgg (p:Zas):Bool:=!(Zc4 p.op 0 5&&(Zc4 p.arg 0 2147483647&&Zc4 p.work 1 100))
theorem ZDQ (p:Zas):ZgY p=some (Zgg p):=by
 unfold ZgY Zgg
 simp only[Zny,Option.bind_some]
 cases Zc4 p.op 0 5<;>cases Zc4 p.arg 0 2147483647<;>cases Zc4 p.work 1 100<;>rfl
theorem ZnF {γ:Type} (l:List γ) (p:γ→Bool) (step:Int→Option (Int⊕(Int⊕Unit)))
  (h1:∀i x,i<l.length→l[i]? = some x→step (i:Int)=some (bif p x then .inr (.inl (i:Int)) else .inl ((i+1:Nat):Int)))
  (h2:step (l.length:Int)=some (.inr (.inr ()))) :
  (((lp step 0).bind fun(r:Int⊕Unit)=>match r with | .inl r=>some r | .inr _=>some (-1)).bind fun x=>bif decide (0≤x) then some true else some false)=some (l.any p):=by
 rw[Zen l step (fun _=>p) (fun i _=>.inl (i:Int)) (.inr ()) h1 h2]
 rcases ZsG p () l 0 with⟨j,e1,e2⟩ | ⟨e1,e2⟩
 ·rw[e1,e2]
  show(bif decide ((0:Int)≤(j:Int)) then some true else some false)=some true
  rw[decide_eq_true (by omega)]
  rfl
 ·rw[e1,e2]
  rfl
theorem Zs8 (l:List Zas) (f:Zas→Option Bool) (p:Zas→Bool) (hf:∀x∈l,f x=some (p x)) (hl:l.length<9223372036854775808):ZbJ l f=some (l.any p):=by
 unfold ZbJ ZcW
 refine ZnF l p _ (fun i x hi hx=>?_) ?_
 ·simp only[ZbI,Zdk hi,Zay hx,Option.bind_some,hf x (List.mem_of_getElem? hx),ZQ hi hl,cond_true]
  cases p x<;>rfl
 ·simp only[ZbI,ZdR];rfl
def ZlM (e x:Zo):Bool:=e.src==x.src&&(e.dst==x.dst&&true)
theorem Zul (l:List Zo) (e:Zo) (hl:l.length<9223372036854775808):ZbH l e=some (l.any (ZlM e)):=by
 unfold ZbH ZdI
 refine ZnF l (ZlM e) _ (fun i x hi hx=>?_) ?_
 ·simp only[Zcc,Zdk hi,Zay hx,Option.bind_some,ZQ hi hl,cond_true,ZlM]
  cases (e.src==x.src&&(e.dst==x.dst&&true))<;>rfl
 ·simp only[Zcc,ZdR];rfl
def again (f g:Zl):Bool:=g.user==f.user&&g.pos==f.pos
theorem Zqz (l:List Zl) (f:Zl→Option Bool) (p:Zl→Bool) (hf:∀x∈l,f x=some (p x)) (hl:l.length<9223372036854775808):Zbt l f=some (l.any p):=by
 unfold Zbt Zcg
 refine ZnF l p _ (fun i x hi hx=>?_) ?_
 ·simp only[Zbs,Zdk hi,Zay hx,Option.bind_some,hf x (List.mem_of_getElem? hx),ZQ hi hl,cond_true]
  cases p x<;>rfl
 ·simp only[Zbs,ZdR];rfl
theorem ZCh (f g:Zl):ZeB g f.user f.pos=some (again f g):=by
 unfold ZeB again
 cases (g.user==f.user)<;>cases (g.pos==f.pos)<;>rfl
theorem ZBx (l:List Int) (n:Int) (hl:l.length<9223372036854775808):Zcw l n=some (l.any (fun x=>n==x)):=by
 unfold Zcw Zeq
 refine ZnF l (fun x=>n==x) _ (fun i x hi hx=>?_) ?_
 ·simp only[Zcx,Zdk hi,Zay hx,Option.bind_some,ZQ hi hl,cond_true]
  cases (n==x)<;>rfl
 ·simp only[Zcx,ZdR];rfl
def Zo3 (b:Zw) (n:Int):Bool:=b.outs.any fun x=>n==x
theorem Zo1 (l:List Int) (f:Int→Option Bool) (p:Int→Bool) (hf:∀x∈l,f x=some (p x)) (hl:l.length<9223372036854775808):ZaP l f=some (l.any p):=by
 unfold ZaP ZbL
 refine ZnF l p _ (fun i x hi hx=>?_) ?_
 ·simp only[Zbc,Zdk hi,Zay hx,Option.bind_some,hf x (List.mem_of_getElem? hx),ZQ hi hl,cond_true]
  cases p x<;>rfl
 ·simp only[Zbc,ZdR];rfl
theorem ZGo (b:Zw) (h2:b.outs.length<9223372036854775808) (n:Int):ZeD n b.outs=some (Zo3 b n):=by
 unfold ZeD
 simp only[ZBx _ _ h2,Option.bind_some]
 unfold Zo3
 cases (b.outs.any fun y=>n==y)<;>rfl
def two (n:Nat) (a b:Int):Bool:=(a != b)&&(Zc4 a 0 (n-1)&&Zc4 b 0 (n-1))
theorem ZC0 (d:Zp) (hl:d.parts.length<9223372036854775808) (a b:Int):Zjf d a b=some (two d.parts.length a b):=by
 unfold Zjf two
 rw[Zch (by omega) (by omega)]
 simp only[Zny,Option.bind_some]
 cases (a != b)<;>cases Zc4 a 0 (d.parts.length-1)<;>cases Zc4 b 0 (d.parts.length-1)<;>rfl
def Zrn (n:Nat) (l:List Int) (i:Nat) (x:Int):Bool:=!(Zc4 x 0 (n-1)) || (match i with | 0=>false | j+1=>match l[j]? with | some y=>decide (x≤y) | none=>false)
def Zlo (n:Nat) (l:List Int):Bool:=!(Zhz (Zrn n l) 0 l) && !l.isEmpty
theorem ZxI (b:Bool) (l:List Int):((some (bif b then (Sum.inl ():Unit⊕Unit) else .inr ())).bind fun r=>match r with | .inl _=>some false | .inr _=>bif decide (0<(l.length:Int)) then some true else some false)=some (!b && !l.isEmpty):=by
 cases b with
 | true=>rfl
 | false=>
  cases l with
  | nil=>rfl
  | cons x l=>show(bif decide (0<((x :: l).length:Int)) then some true else some false)=some true;rw[decide_eq_true (by rw[List.length_cons];omega)];rfl
theorem ZC2 (d:Zp) (hd:d.parts.length<9223372036854775808) (l:List Int) (hl:l.length<9223372036854775808):Zjh d l=some (Zlo d.parts.length l):=by
 have key:=Zen l (Zhj d l) (Zrn d.parts.length l) (fun _ _=>.inl ()) (.inr ()) (fun i x hi hx=>by
   simp only[Zhj,Zdk hi,Zay hx,Option.bind_some,ZQ hi hl,cond_true,Zny,Zrn]
   rw[Zch (by omega) (by omega)]
   cases Zc4 x 0 (d.parts.length-1) with
   | false=>rfl
   | true=>
    cases i with
    | zero=>rfl
    | succ i=>
     rw[decide_eq_true (show(0:Int)<((i+1:Nat):Int) by omega),Zch (by omega) (by omega),show(((i+1:Nat):Int)-1)=(i:Int) by omega]
     have hi2:l[i]? = some l[i]:=List.getElem?_eq_getElem (by omega)
     rw[Zay hi2]
     simp only[cond_true,Option.bind_some,Bool.not_true,Bool.false_or,hi2]
     cases decide (x≤l[i])<;>rfl) (by simp only[Zhj,ZdR];rfl)
 unfold Zjh Zlo
 rw[key,Zcf]
 exact ZxI _ _
def Znp (n:Int):Int:=bif decide (n<0) then 10 else bif decide (1099511627775<n) then 11 else 0
theorem Zwh (n:Int):Zjv n=some (Znp n):=by
 unfold Zjv Znp
 cases decide (n<0)<;>cases decide (1099511627775<n)<;>rfl
noncomputable def Zyc (x:Int):Int:=match Zdy x with | some n=>n | none=>0
theorem ZED (x:Int):ZdX x=some (Zyc x):=by
 unfold ZdX Zyc Zdy
 rfl
def ZBR (n:Nat):Bool:=[1,2,4,8,16,32,64,128,256,512,1024,2048,4096].contains n
theorem ZwU:((List.range 4097).all fun n=>(Zyc (u64.wrap (n:Int))==1)==ZBR n)=true:=by kernel_rfl
theorem Zxm (n:Nat) (h:n≤4096):(Zyc (u64.wrap (n:Int))==1)=ZBR n:=by
 have:=List.all_eq_true.1 ZwU n (by simp;omega)
 simpa using this
noncomputable def ZqU (n:Int):Bool:=!(Znp n != 0) && !(Zyc (u64.wrap n) != 1)
theorem Zvm (n:Int):∃k,Zki n=some (k,ZqU n):=by
 have tz:∃k,ZdW (u64.wrap n)=some k:=⟨_,rfl⟩
 obtain⟨k,hk⟩:=tz
 unfold Zki ZqU
 simp only[Zwh,ZED,Option.bind_some,hk]
 cases (Znp n != 0)
 ·cases (Zyc (u64.wrap n) != 1)
  ·exact⟨k,rfl⟩
  ·exact⟨0,rfl⟩
 ·exact⟨0,rfl⟩
theorem ZBG {n:Int} (h:n<0):ZqU n=false:=by
 have:(Znp n != 0)=true:=by unfold Znp;rw[decide_eq_true h];rfl
 simp only[ZqU,this];rfl
theorem ZwY (n:Nat) (h:n≤4096):ZqU (n:Int)=ZBR n:=by
 have h1:(Znp (n:Int) != 0)=false:=by
  unfold Znp
  rw[decide_eq_false (show ¬((n:Int)<0) by omega),decide_eq_false (show ¬((1099511627775:Int)<n) by omega)]
  rfl
 rw[← Zxm n h]
 unfold ZqU
 rw[h1]
 unfold bne
 rw[Bool.not_not]
 rfl
def ZCX (b:Zw):Prop:=b.ins.length<9223372036854775808∧b.outs.length<9223372036854775808
structure Zjj (d:Zp):Prop where
 p:d.parts.length<9223372036854775808
 e:d.edges.length<9223372036854775808
 f:d.futures.length<9223372036854775808
 b:d.barriers.length<9223372036854775808
 i:∀b∈d.barriers,ZCX b
theorem Zpk {γ:Type}{l:List γ}{i n:Nat} (h:l.length<n):(l.take i).length<n:=by rw[List.length_take];omega
def ZgF (d:Zp) (i:Nat) (e:Zo):Bool:=!(two d.parts.length e.src e.dst) || (d.edges.take i).any (ZlM e)
theorem ZCn (d:Zp) (h:Zjj d):lp (ZeR d) 0=some (bif Zhz (ZgF d) 0 d.edges then .inl () else .inr ()):=by
 have key:=Zen d.edges (ZeR d) (ZgF d) (fun _ _=>.inl ()) (.inr ()) (fun i x hi hx=>by
   simp only[ZeR,Zdk hi,Zay hx,Option.bind_some,ZQ hi h.e,cond_true,ZC0 d h.p,ZgF,Int.toNat_natCast,Zul _ _ (Zpk h.e)]
   rw[decide_eq_true (show(0:Int)≤(i:Int) by omega),Nat.ble_eq_true_of_le (Nat.le_of_lt hi)]
   cases two d.parts.length x.src x.dst<;>cases (d.edges.take i).any (ZlM x)<;>rfl) (by simp only[ZeR,ZdR];rfl)
 rw[key,Zcf]
def ZeZ (ps:List Zas) (z:Int):Int:=match ps[z.toNat]? with | some p=>p.work | none=>0
def Zdv (d:Zp) (i:Nat) (f:Zl):Bool:=!(two d.parts.length f.maker f.user) || (!(Zc4 f.pos 1 (ZeZ d.parts f.user-1)) || (d.futures.take i).any (again f))
theorem ZsS {n:Nat}{a b:Int} (h:two n a b=true):(0≤a∧a.toNat<n)∧(0≤b∧b.toNat<n)∧a≠b:=by
 simp only[two,Zc4,Bool.and_eq_true,decide_eq_true_eq,bne_iff_ne] at h
 omega
theorem Zx6 {γ:Type}{l:List γ}{z:Int} (h0:0≤z) (h:z.toNat<l.length):Zx l z=some l[z.toNat]:=Ztf h0 (List.getElem?_eq_getElem h)
theorem ZyR (d:Zp) (h:Zjj d) (hg:∀p∈d.parts,1≤p.work∧p.work≤100):lp (ZeV d) 0=some (bif Zhz (Zdv d) 0 d.futures then .inl () else .inr ()):=by
 have key:=Zen d.futures (ZeV d) (Zdv d) (fun _ _=>.inl ()) (.inr ()) (fun i x hi hx=>by
   simp only[ZeV,Zdk hi,Zay hx,Option.bind_some,ZQ hi h.f,cond_true,ZC0 d h.p,Zdv]
   cases h1:two d.parts.length x.maker x.user with
   | false=>rfl
   | true=>
    obtain⟨_,⟨u1,u2⟩,_⟩:=ZsS h1
    have w:=hg _ (List.getElem_mem u2)
    have wa:ZeZ d.parts x.user=d.parts[x.user.toNat].work:=by simp only[ZeZ,List.getElem?_eq_getElem u2]
    rw[← wa] at w
    rw[Zx6 u1 u2]
    simp only[cond_true,Option.bind_some,Zny,← wa,Zch (show -9223372036854775808≤ZeZ d.parts x.user-1 by omega) (by omega),Int.toNat_natCast]
    rw[decide_eq_true (show(0:Int)≤(i:Int) by omega),Nat.ble_eq_true_of_le (Nat.le_of_lt hi),Zqz _ _ (again x) (fun y _=>ZCh x y) (Zpk h.f)]
    cases Zc4 x.pos 1 (ZeZ d.parts x.user-1)<;>cases (d.futures.take i).any (again x)<;>rfl) (by simp only[ZeV,ZdR];rfl)
 rw[key,Zcf]
def Zd9 (n:Nat) (b:Zw):Bool:=!(Zlo n b.ins) || (!(Zlo n b.outs) || b.ins.any (Zo3 b))
theorem ZwZ (d:Zp) (h:Zjj d):lp (ZeT d) 0=some (bif d.barriers.any (Zd9 d.parts.length) then .inl () else .inr ()):=by
 have key:=Zen d.barriers (ZeT d) (fun _=>Zd9 d.parts.length) (fun _ _=>.inl ()) (.inr ()) (fun i x hi hx=>by
   have hb:=h.i x (List.mem_of_getElem? hx)
   simp only[ZeT,Zdk hi,Zay hx,Option.bind_some,ZQ hi h.b,cond_true,ZC2 d h.p _ hb.1,ZC2 d h.p _ hb.2,Zd9,Zo1 x.ins _ (Zo3 x) (fun y _=>ZGo x hb.2 y) hb.1]
   cases Zlo d.parts.length x.ins<;>cases Zlo d.parts.length x.outs<;>cases x.ins.any (Zo3 x)<;>rfl) (by simp only[ZeT,ZdR];rfl)
 rw[key,Zcf,Zh6]
noncomputable def Zk5 (d:Zp):Bool:=ZqU d.period&&(!decide (4096<d.period)&&Zc4 d.deadline 1 d.period)
def Zmp (d:Zp):Bool:=Zc4 (d.parts.length:Int) 1 16&&(!decide ((48:Int)<d.edges.length)&&(!decide ((16:Int)<d.futures.length) && !decide ((4:Int)<d.barriers.length)))
noncomputable def Zhq (d:Zp):Int:=
 bif Zmp d then bif Zk5 d then bif d.parts.any Zgg then 52 else bif Zhz (ZgF d) 0 d.edges then 53 else
 bif Zhz (Zdv d) 0 d.futures then 54 else bif d.barriers.any (Zd9 d.parts.length) then 55 else 0 else 51 else 50
theorem Zte {ps:List Zas} (h:ps.any Zgg=false):∀p∈ps,1≤p.work∧p.work≤100:=fun p hp=>by
 have:=List.any_eq_false.1 h p hp
 simp only[Zgg,Zc4,Bool.not_eq_true,Bool.not_eq_false',Bool.and_eq_true,decide_eq_true_eq] at this
 exact this.2.2
theorem Zxr (d:Zp) (h:Zjj d):ZhT d=some (Zhq d):=by
 obtain⟨k,hk⟩:=Zvm d.period
 unfold ZhT Zhq Zmp Zk5
 simp only[Zny,Option.bind_some,hk,Zs8 _ _ Zgg (fun x _=>ZDQ x) h.p,ZCn d h,ZwZ d h]
 cases Zc4 (d.parts.length:Int) 1 16 with
 | false=>rfl
 | true=>
  cases decide ((48:Int)<d.edges.length) with
  | true=>rfl
  | false=>
   cases decide ((16:Int)<d.futures.length) with
   | true=>rfl
   | false=>
    cases decide ((4:Int)<d.barriers.length) with
    | true=>rfl
    | false=>
     cases ZqU d.period with
     | false=>rfl
     | true=>
      cases decide (4096<d.period) with
      | true=>rfl
      | false=>
       cases Zc4 d.deadline 1 d.period with
       | false=>rfl
       | true=>
        cases hp:d.parts.any Zgg with
        | true=>rfl
        | false=>
         rw[ZyR d h (Zte hp)]
         cases Zhz (ZgF d) 0 d.edges<;>cases Zhz (Zdv d) 0 d.futures<;>cases d.barriers.any (Zd9 d.parts.length)<;>rfl
def Zsm (b:Zw):Bool:=decide (20<(b.ins.length:Int)) || decide (20<(b.outs.length:Int))
def few (d:Zp):Bool:=!((d.barriers.take 9).any Zsm)&&(decide ((d.parts.length:Int)≤20)&&(decide ((d.edges.length:Int)≤60)&&(decide ((d.futures.length:Int)≤20)&&decide ((d.barriers.length:Int)≤8))))
theorem ZFm (d:Zp):ZjA d=some (few d):=by
 have hl:(d.barriers.take 9).length=min 9 d.barriers.length:=List.length_take
 have key:=Zen (d.barriers.take 9) (ZgG d) (fun _=>Zsm) (fun _ _=>.inl ()) (.inr ()) (fun i x hi hx=>by
   have h9:i<9:=by omega
   rw[List.getElem?_take_of_lt h9] at hx
   simp only[ZgG,Zdk (show i<d.barriers.length by omega),Zay hx,Option.bind_some,ZQ h9 (by omega),cond_true,Zsm,decide_eq_true (show(i:Int)<9 by omega)]
   cases decide (20<(x.ins.length:Int))<;>cases decide (20<(x.outs.length:Int))<;>rfl) (by
   rw[hl]
   unfold ZgG
   by_cases h:d.barriers.length≤9
   ·rw[Nat.min_eq_right h,ZdR];rfl
   ·rw[Nat.min_eq_left (by omega),decide_eq_true (show((9:Nat):Int)<d.barriers.length by omega)];rfl)
 unfold ZjA few
 rw[key,Zcf,Zh6]
 cases (d.barriers.take 9).any Zsm<;>cases decide ((d.parts.length:Int)≤20)<;>cases decide ((d.edges.length:Int)≤60)<;>cases decide ((d.futures.length:Int)≤20)<;>cases decide ((d.barriers.length:Int)≤8)<;>rfl
structure ZmT (d:Zp):Prop where
 p:d.parts.length≤20
 e:d.edges.length≤60
 f:d.futures.length≤20
 b:d.barriers.length≤8
 i:∀b∈d.barriers,b.ins.length≤20∧b.outs.length≤20
theorem Zyi {d:Zp} (h:few d=true):ZmT d:=by
 unfold few at h
 simp only[Bool.and_eq_true,decide_eq_true_eq,Bool.not_eq_true'] at h
 obtain⟨h1,h2,h3,h4,h5⟩:=h
 refine⟨by omega,by omega,by omega,by omega,fun b hb=>?_⟩
 have:=List.any_eq_false.1 h1 b (by rw[List.take_of_length_le (by omega)];exact hb)
 simp only[Zsm,Bool.or_eq_true,decide_eq_true_eq,not_or] at this
 omega
theorem ZmT.short {d:Zp} (h:ZmT d):Zjj d:=
 ⟨by have:=h.p;omega,by have:=h.e;omega,by have:=h.f;omega,by have:=h.b;omega,fun b hb=>⟨by have:=(h.i b hb).1;omega,by have:=(h.i b hb).2;omega⟩⟩
theorem ZGt (d:Zp) (h:ZmT d):ZjH d=some d.barriers:=by
 have key:=Zuu d.barriers (ZfE d) (fun i (s:List Zw)=>((i:Int),s)) (fun i x s=>bif Nat.ble (s.length+1) lim then some (.inl (s++[x])) else none) (fun s=>some s) (fun i x s hi hx=>by
   have hb:=h.i x (List.mem_of_getElem? hx)
   simp only[ZfE,Zdk hi,Zay hx,Option.bind_some,ZQ hi h.short.b,cond_true,ZiO (show x.ins.length≤1073741824 by omega),ZiO (show x.outs.length≤1073741824 by omega)]
   cases Nat.ble (s.length+1) lim<;>rfl) (fun s=>by simp only[ZfE,ZdR];rfl) []
 have sc:∀(l:List Zw) (i:Nat) (s:List Zw),s.length+l.length≤1073741824→ZqI (fun i x s=>bif Nat.ble (s.length+1) lim then some (Sum.inl (s++[x])) else (none:Option (List Zw⊕List Zw))) (fun s=>some s) i l s=some (s++l):=by
  intro l
  induction l with
  | nil=>intro i s _;simp[ZqI]
  | cons x l ih=>
   intro i s hs
   rw[List.length_cons] at hs
   unfold ZqI
   rw[ZiO (by omega)]
   simp only[cond_true]
   rw[ih (i+1) (s++[x]) (by rw[List.length_append];simp;omega)]
   simp
 rw[sc _ _ _ (by have:=h.b;simp;omega)] at key
 unfold ZjH
 rw[ZiO (show List.length d.parts≤1073741824 by have:=h.p;omega),ZiO (show List.length d.edges≤1073741824 by have:=h.e;omega),ZiO (show List.length d.futures≤1073741824 by have:=h.f;omega)]
 show(lp (ZfE d) (((0:Nat):Int),[])).bind _=_
 rw[key]
 rfl
open Go Go.Proofs.YtnpidpcmpleiaaaGreatDoorE Go.Sort
structure OKA (P:Int→Prop) (d:Array Int):Prop where
 el:∀i,i<d.size→P d[i]!
 sz:d.size≤1000
theorem ZcC {d:Array Int}{i:Nat} (h:i<d.size):Zx d.toList (i:Int)=some d[i]!:=by
 refine Zay ?_
 rw[Array.getElem?_toList,Array.getElem?_eq_getElem h,getElem!_pos d i h]
theorem ZDq (d:Array Int) (i:Nat) (x:Int):List.set d.toList i x=(d.setIfInBounds i x).toList:=by simp
theorem ZjB (d:Array Int) (i j:Nat):List.set (List.set d.toList i d[j]!) j d[i]! = (swp d i j).toList:=by
 unfold swp
 rw[ZDq,ZDq]
theorem Znx {d:Array Int}{i j:Nat}{x:Int} (h:j<d.size):∃y,Zx (List.set d.toList i x) (j:Int)=some y:=by
 rw[ZDq]
 exact⟨_,ZcC (by simpa using h)⟩
theorem Za0 (d:Array Int) (i j:Nat):(swp d i j).size=d.size:=by unfold swp;simp
theorem ZCS {d:Array Int}{i j k:Nat} (hi:i<d.size) (hj:j<d.size):(swp d i j)[k]! = if k=j then d[i]! else if k=i then d[j]! else d[k]!:=by
 unfold swp
 by_cases hk:k<d.size
 ·rw[getElem!_pos _ k (by simpa using hk),getElem!_pos d k hk,Array.getElem_setIfInBounds (by simpa using hk)]
  by_cases h1:j=k
  ·rw[if_pos h1,if_pos h1.symm]
  ·rw[if_neg h1,if_neg (Ne.symm h1),Array.getElem_setIfInBounds hk]
   by_cases h2:i=k
   ·rw[if_pos h2,if_pos h2.symm]
   ·rw[if_neg h2,if_neg (Ne.symm h2)]
 ·rw[getElem!_neg _ k (by simpa using hk),getElem!_neg d k hk,if_neg (by omega),if_neg (by omega)]
theorem OKA.swp {P:Int→Prop}{d:Array Int} (h:OKA P d) {i j:Nat} (hi:i<d.size) (hj:j<d.size):OKA P (swp d i j):=
 ⟨fun k hk=>by
  rw[Za0] at hk
  rw[ZCS hi hj]
  split
  ·exact h.el _ hi
  ·split
   ·exact h.el _ hj
   ·exact h.el _ hk,by rw[Za0];exact h.sz⟩
theorem ZiN {a b:Nat}:decide ((a:Int)<(b:Int))=decide (a<b):=decide_eq_decide.2 (by omega)
theorem ZjM {a b:Nat}:decide ((a:Int)≤(b:Int))=decide (a≤b):=decide_eq_decide.2 (by omega)
theorem Zbo {z:Int}{n:Nat} (h:z=(n:Int)) (hn:n<9223372036854775808):w64 z=(n:Int):=by rw[h,Zch (by omega) (by omega)]
section
variable (cmp:Int→Int→Option Int) (c:Int→Int→Int) (P:Int→Prop)
def Zty:Prop:=∀x y,P x→P y→cmp x y=some (c x y)
def ltC (x y:Int):Bool:=decide (c x y<0)
variable {cmp c P} (hc:Zty cmp c P)
include hc
theorem ZtP (a:Nat):∀(j:Nat) (d:Array Int),OKA P d→j<d.size→lp (Z6 (a:Int) cmp) ((j:Int),d.toList)=some (insInner (ltC c) a j d).toList∧OKA P (insInner (ltC c) a j d)∧(insInner (ltC c) a j d).size=d.size
 | 0,d,hd,hj=>by
  rw[Zbz]
  simp only[Z6,decide_eq_false (show ¬((a:Int)<((0:Nat):Int)) by omega),cond_false]
  exact⟨rfl,hd,rfl⟩
 | j+1,d,hd,hj=>by
  have hj':j<d.size:=by omega
  have hz:=hd.sz
  rw[Zbz]
  have e2:w64 (((j+1:Nat):Int)-1)=(j:Int):=Zbo (by omega) (by omega)
  have e3:=hc _ _ (hd.el (j+1) hj) (hd.el j hj')
  unfold insInner
  by_cases h1:a<j+1
  ·by_cases h2:c d[j+1]! d[j]! < 0
   ·have ih:=ZtP a j (swp d (j+1) j) (hd.swp hj hj') (by rw[Za0];omega)
    obtain⟨y,e5⟩:=Znx (i:=j+1) (x:=d[j]!) hj'
    simp only[Z6,ZiN,decide_eq_true h1,cond_true,ZcC hj,e2,ZcC hj',Option.bind_some,e3,decide_eq_true h2,Int.toNat_natCast,e5,ZjB]
    rw[if_pos (by simp[h1,h2,ltC])]
    rw[Za0] at ih
    exact ih
   ·simp only[Z6,ZiN,decide_eq_true h1,cond_true,ZcC hj,e2,ZcC hj',Option.bind_some,e3,decide_eq_false h2,cond_false]
    rw[if_neg (by simp[h1,h2,ltC])]
    exact⟨rfl,hd,rfl⟩
  ·simp only[Z6,ZiN,decide_eq_false h1,cond_false]
   rw[if_neg (by simp[h1])]
   exact⟨rfl,hd,rfl⟩
theorem Zuh (a b:Nat):∀(k i:Nat) (d:Array Int),i+k=max i b→b≤d.size→OKA P d→lp (Zaq (a:Int) (b:Int) cmp) ((i:Int),d.toList)=some (insOuter (ltC c) a b i d).toList∧OKA P (insOuter (ltC c) a b i d)∧(insOuter (ltC c) a b i d).size=d.size
 | 0,i,d,hi,hb,hd=>by
  rw[Zbz]
  unfold insOuter
  simp only[Zaq,ZiN,decide_eq_false (show ¬i<b by omega),cond_false]
  rw[if_neg (by omega)]
  exact⟨rfl,hd,rfl⟩
 | k+1,i,d,hi,hb,hd=>by
  have hib:i<b:=by omega
  have hz:=hd.sz
  obtain⟨h1,h2,h3⟩:=ZtP hc a i d hd (by omega)
  have ih:=Zuh a b k (i+1) (insInner (ltC c) a i d) (by omega) (by rw[h3];exact hb) h2
  rw[Zbz]
  unfold insOuter
  simp only[Zaq,ZiN,decide_eq_true hib,cond_true,h1,Option.bind_some,ZQ hib (by omega)]
  rw[if_pos hib,← h3]
  exact ih
theorem ZDd (a b:Nat) (d:Array Int) (hb:b≤d.size) (ha:a≤b) (hd:OKA P d):Z7 (a:Int) (b:Int) cmp d.toList=some (insertionSort (ltC c) d a b).toList∧OKA P (insertionSort (ltC c) d a b)∧(insertionSort (ltC c) d a b).size=d.size:=by
 have hz:=hd.sz
 obtain⟨h1,h2⟩:=Zuh hc a b (max (a+1) b-(a+1)) (a+1) d (by omega) hb hd
 unfold Z7 insertionSort
 rw[Zbo (n:=a+1) (by omega) (by omega),h1]
 exact⟨rfl,h2⟩
theorem ZB1 (hi first:Nat):∀(k root:Nat) (d:Array Int),hi-root≤k→root≤hi→first+hi≤d.size→OKA P d→∃r,lp (ZR (hi:Int) (first:Int) cmp) ((root:Int),d.toList)=some r∧(r = .inl (siftDown (ltC c) hi first root d).toList∨r = .inr (siftDown (ltC c) hi first root d).toList)∧OKA P (siftDown (ltC c) hi first root d)∧(siftDown (ltC c) hi first root d).size=d.size:=by
 intro k
 induction k with
 | zero=>
  intro root d hk hr hs hd
  have hz:=hd.sz
  rw[Zbz]
  unfold siftDown
  have e0:w64 (2*(root:Int))=((2*root:Nat):Int):=Zbo (by omega) (by omega)
  have e1:w64 (((2*root:Nat):Int)+1)=((2*root+1:Nat):Int):=Zbo (by omega) (by omega)
  simp only[ZR,e0,e1,ZjM,decide_eq_true (show hi≤2*root+1 by omega),cond_true]
  rw[dif_pos (by omega)]
  exact⟨_,rfl,.inl rfl,hd,rfl⟩
 | succ k ih=>
  intro root d hk hr hs hd
  have hz:=hd.sz
  rw[Zbz]
  unfold siftDown
  have e0:w64 (2*(root:Int))=((2*root:Nat):Int):=Zbo (by omega) (by omega)
  have e1:w64 (((2*root:Nat):Int)+1)=((2*root+1:Nat):Int):=Zbo (by omega) (by omega)
  by_cases h1:hi≤2*root+1
  ·simp only[ZR,e0,e1,ZjM,decide_eq_true h1,cond_true]
   rw[dif_pos (by omega)]
   exact⟨_,rfl,.inl rfl,hd,rfl⟩
  have e2:w64 (((2*root+1:Nat):Int)+1)=((2*root+2:Nat):Int):=Zbo (by omega) (by omega)
  have er:w64 ((first:Int)+(root:Int))=((first+root:Nat):Int):=Zbo (by omega) (by omega)
  have ef:w64 ((first:Int)+((2*root+1:Nat):Int))=((first+(2*root+1):Nat):Int):=Zbo (by omega) (by omega)
  have ef1:w64 (((first+(2*root+1):Nat):Int)+1)=((first+(2*root+1)+1:Nat):Int):=Zbo (by omega) (by omega)
  have ef2:w64 ((first:Int)+((2*root+2:Nat):Int))=((first+(2*root+2):Nat):Int):=Zbo (by omega) (by omega)
  have ir:first+root<d.size:=by omega
  have i1:first+(2*root+1)<d.size:=by omega
  have cr1:=hc _ _ (hd.el _ ir) (hd.el _ i1)
  have one:∀{r:List Int⊕List Int} {A:Array Int},A=d→(r = .inl d.toList∨r = .inr d.toList)→∃q,some r=some q∧(q = .inl A.toList∨q = .inr A.toList)∧OKA P A∧A.size=d.size:=fun hA hr=>by
   subst hA
   exact⟨_,rfl,hr,hd,rfl⟩
  rw[dif_neg (by omega)]
  by_cases h2:2*root+2<hi
  ·have i2:first+(2*root+2)<d.size:=by omega
   have i2':first+(2*root+1)+1<d.size:=by omega
   have c12:=hc _ _ (hd.el _ i1) (hd.el _ i2')
   have cr2:=hc _ _ (hd.el _ ir) (hd.el _ i2)
   by_cases h3:c d[first+(2*root+1)]! d[first+(2*root+1)+1]! < 0
   ·rw[if_pos (by simp[h3,ltC];omega)]
    by_cases h4:c d[first+root]! d[first+(2*root+2)]! < 0
    ·obtain⟨y,em⟩:=Znx (i:=first+root) (x:=d[first+(2*root+2)]!) i2
     simp only[ZR,e0,e1,e2,ZjM,ZiN,decide_eq_false h1,decide_eq_true h2,cond_false,cond_true,ef,ef1,ef2,er,ZcC i1,ZcC i2',ZcC ir,ZcC i2,Option.bind_some,c12,cr2,decide_eq_true h3,decide_eq_true h4,Int.toNat_natCast,em,ZjB]
     rw[if_neg (by simp[h4,ltC]),dif_pos h2]
     have:=ih (2*root+2) (swp d (first+root) (first+(2*root+2))) (by omega) (by omega) (by rw[Za0];omega) (hd.swp ir i2)
     rw[Za0] at this
     exact this
    ·simp only[ZR,e0,e1,e2,ZjM,ZiN,decide_eq_false h1,decide_eq_true h2,cond_false,cond_true,ef,ef1,ef2,er,ZcC i1,ZcC i2',ZcC ir,ZcC i2,Option.bind_some,c12,cr2,decide_eq_true h3,decide_eq_false h4]
     rw[if_pos (by simp[h4,ltC])]
     exact one rfl (.inr rfl)
   ·rw[if_neg (by simp[h3,ltC])]
    by_cases h4:c d[first+root]! d[first+(2*root+1)]! < 0
    ·obtain⟨y,em⟩:=Znx (i:=first+root) (x:=d[first+(2*root+1)]!) i1
     simp only[ZR,e0,e1,e2,ZjM,ZiN,decide_eq_false h1,decide_eq_true h2,cond_false,cond_true,ef,ef1,ef2,er,ZcC i1,ZcC i2',ZcC ir,Option.bind_some,c12,cr1,decide_eq_false h3,decide_eq_true h4,Int.toNat_natCast,em,ZjB]
     rw[if_neg (by simp[h4,ltC])]
     have:=ih (2*root+1) (swp d (first+root) (first+(2*root+1))) (by omega) (by omega) (by rw[Za0];omega) (hd.swp ir i1)
     rw[Za0] at this
     exact this
    ·simp only[ZR,e0,e1,e2,ZjM,ZiN,decide_eq_false h1,decide_eq_true h2,cond_false,cond_true,ef,ef1,ef2,er,ZcC i1,ZcC i2',ZcC ir,Option.bind_some,c12,cr1,decide_eq_false h3,decide_eq_false h4]
     rw[if_pos (by simp[h4,ltC])]
     exact one rfl (.inr rfl)
  ·rw[if_neg (by simp;omega)]
   by_cases h4:c d[first+root]! d[first+(2*root+1)]! < 0
   ·obtain⟨y,em⟩:=Znx (i:=first+root) (x:=d[first+(2*root+1)]!) i1
    simp only[ZR,e0,e1,e2,ZjM,ZiN,decide_eq_false h1,decide_eq_false h2,cond_false,cond_true,ef,er,ZcC i1,ZcC ir,Option.bind_some,cr1,decide_eq_true h4,Int.toNat_natCast,em,ZjB]
    rw[if_neg (by simp[h4,ltC])]
    have:=ih (2*root+1) (swp d (first+root) (first+(2*root+1))) (by omega) (by omega) (by rw[Za0];omega) (hd.swp ir i1)
    rw[Za0] at this
    exact this
   ·simp only[ZR,e0,e1,e2,ZjM,ZiN,decide_eq_false h1,decide_eq_false h2,cond_false,cond_true,ef,er,ZcC i1,ZcC ir,Option.bind_some,cr1,decide_eq_false h4]
    rw[if_pos (by simp[h4,ltC])]
    exact one rfl (.inr rfl)
theorem ZBT (hi first root:Nat) (d:Array Int) (hr:root≤hi) (hs:first+hi≤d.size) (hd:OKA P d):ZaS (root:Int) (hi:Int) (first:Int) cmp d.toList=some (siftDown (ltC c) hi first root d).toList∧OKA P (siftDown (ltC c) hi first root d)∧(siftDown (ltC c) hi first root d).size=d.size:=by
 obtain⟨r,h1,h2,h3⟩:=ZB1 hc hi first _ root d (Nat.le_refl _) hr hs hd
 unfold ZaS
 rw[h1]
 rcases h2 with rfl | rfl
 ·exact⟨rfl,h3⟩
 ·exact⟨rfl,h3⟩
theorem ZxL (hi first b:Nat) (hb:(b:Int)=first+hi):∀(k:Nat) (d:Array Int),k≤hi+1→first+hi≤d.size→OKA P d→lp (ZaO (first:Int) (b:Int) cmp) ((k:Int)-1,d.toList)=some (heapBuild (ltC c) hi first k d).toList∧OKA P (heapBuild (ltC c) hi first k d)∧(heapBuild (ltC c) hi first k d).size=d.size
 | 0,d,hk,hs,hd=>by
  rw[Zbz]
  simp only[ZaO,decide_eq_false (show ¬((0:Int)≤((0:Nat):Int)-1) by omega),cond_false]
  exact⟨rfl,hd,rfl⟩
 | k+1,d,hk,hs,hd=>by
  have hz:=hd.sz
  obtain⟨h1,h2,h3⟩:=ZBT hc hi first k d (by omega) hs hd
  have ih:=ZxL hi first b hb k (siftDown (ltC c) hi first k d) (by omega) (by rw[h3];exact hs) h2
  have e1:w64 ((b:Int)-(first:Int))=(hi:Int):=Zbo (by omega) (by omega)
  have e2:(((k+1:Nat):Int)-1)=(k:Int):=by omega
  have e3:w64 ((k:Int)-1)=(k:Int)-1:=Zch (by omega) (by omega)
  rw[Zbz,e2]
  simp only[ZaO,decide_eq_true (show(0:Int)≤(k:Int) by omega),cond_true,e1,h1,Option.bind_some,e3]
  rw[← h3]
  exact ih
theorem ZDb (first:Nat):∀(k:Nat) (d:Array Int),first+k≤d.size→OKA P d→lp (ZaR (first:Int) cmp) ((k:Int)-1,d.toList)=some (heapPop (ltC c) first k d).toList∧OKA P (heapPop (ltC c) first k d)∧(heapPop (ltC c) first k d).size=d.size
 | 0,d,hs,hd=>by
  rw[Zbz]
  simp only[ZaR,decide_eq_false (show ¬((0:Int)≤((0:Nat):Int)-1) by omega),cond_false]
  exact⟨rfl,hd,rfl⟩
 | k+1,d,hs,hd=>by
  have hz:=hd.sz
  have i1:first+k<d.size:=by omega
  have i2:first<d.size:=by omega
  obtain⟨h1,h2,h3⟩:=ZBT hc k first 0 (swp d first (first+k)) (by omega) (by rw[Za0];omega) (hd.swp i2 i1)
  rw[Za0] at h3
  have ih:=ZDb first k (siftDown (ltC c) k first 0 (swp d first (first+k))) (by rw[h3];omega) h2
  have e2:(((k+1:Nat):Int)-1)=(k:Int):=by omega
  have e3:w64 ((k:Int)-1)=(k:Int)-1:=Zch (by omega) (by omega)
  have e4:w64 ((first:Int)+(k:Int))=((first+k:Nat):Int):=Zbo (by omega) (by omega)
  obtain⟨y,em⟩:=Znx (i:=first) (x:=d[first+k]!) i1
  have h1':ZaS 0 (k:Int) (first:Int) cmp (swp d first (first+k)).toList=_:=h1
  rw[Zbz,e2]
  simp only[ZaR,decide_eq_true (show(0:Int)≤(k:Int) by omega),cond_true,e4,ZcC i1,ZcC i2,Option.bind_some,Int.toNat_natCast,em,ZjB,h1',e3]
  rw[← h3]
  exact ih
theorem ZEd (a b:Nat) (d:Array Int) (ha:a≤b) (hb:b≤d.size) (hd:OKA P d):Zal (a:Int) (b:Int) cmp d.toList=some (heapSort (ltC c) d a b).toList∧OKA P (heapSort (ltC c) d a b)∧(heapSort (ltC c) d a b).size=d.size:=by
 have hz:=hd.sz
 have e1:w64 ((b:Int)-(a:Int))=((b-a:Nat):Int):=Zbo (by omega) (by omega)
 have e2:w64 (((b-a:Nat):Int)-1)=((b-a:Nat):Int)-1:=Zch (by omega) (by omega)
 have e3:w64 (Int.tdiv (((b-a:Nat):Int)-1) 2)=(((b-a-1) / 2+1:Nat):Int)-1:=by
  by_cases h:b-a=0
  ·rw[h];rfl
  ·rw[Int.tdiv_eq_ediv_of_nonneg (by omega),Zch (by omega) (by omega)]
   omega
 obtain⟨h1,h2,h3⟩:=ZxL hc (b-a) a b (by omega) ((b-a-1) / 2+1) d (by omega) (by omega) hd
 obtain⟨h4,h5,h6⟩:=ZDb hc a (b-a) (heapBuild (ltC c) (b-a) a ((b-a-1) / 2+1) d) (by rw[h3];omega) h2
 unfold Zal heapSort
 simp only[e1,e2,e3,h1,h4,Option.bind_some]
 exact⟨trivial,h5,by rw[h6,h3]⟩
end
end Go.Proofs.YtnpidpcmpleiaaaGreatDoor
namespace Go.Proofs.YtnpidpcmpleiaaaGreatDoor
open Go Go.Proofs.YtnpidpcmpleiaaaGreatDoorE Go.Sort
open Go.IntKind (u64 i64 u32 i32 u8)
theorem ZqZ (step:Int→Option (Int⊕Int)) (p:Int→Bool) (d:Array Int) (j:Nat) (h:∀i:Nat,i≤j+2→step (i:Int)=some (bif decide (i≤j)&&p d[i]! then .inl ((i+1:Nat):Int) else .inr (i:Int))) :
  ∀(k i:Nat),j+2-i≤k→i≤j+2→lp step (i:Int)=some ((scanUp p d j i:Nat):Int)∧i≤scanUp p d j i∧scanUp p d j i≤max i (j+1):=by
 intro k
 induction k with
 | zero=>
  intro i hk hi
  rw[Zbz,h i hi]
  unfold scanUp
  rw[decide_eq_false (show ¬i≤j by omega)]
  simp[show ¬i≤j by omega]
  omega
 | succ k ih=>
  intro i hk hi
  rw[Zbz,h i hi]
  unfold scanUp
  by_cases h1:i≤j
  ·cases h2:p d[i]! with
   | true=>
    rw[decide_eq_true h1,if_pos (by simp[h1])]
    obtain⟨a1,a2,a3⟩:=ih (i+1) (by omega) (by omega)
    exact⟨a1,by omega,by omega⟩
   | false=>
    rw[decide_eq_true h1,if_neg (by simp)]
    exact⟨rfl,by omega,by omega⟩
  ·rw[decide_eq_false h1,if_neg (by simp[h1])]
   exact⟨rfl,by omega,by omega⟩
theorem Zlq (step:Int→Option (Int⊕Int)) (p:Int→Bool) (d:Array Int) (i:Nat) (hi:1≤i):∀(j:Nat),(∀k:Nat,k≤j→step (k:Int)=some (bif decide (i≤k)&&p d[k]! then .inl ((k:Int)-1) else .inr (k:Int)))→lp step (j:Int)=some ((scanDown p d i j:Nat):Int)∧scanDown p d i j≤j
 | 0,h=>by
  rw[Zbz,h 0 (Nat.le_refl _),decide_eq_false (show ¬i≤0 by omega)]
  exact⟨rfl,Nat.le_refl _⟩
 | j+1,h=>by
  rw[Zbz,h (j+1) (Nat.le_refl _)]
  unfold scanDown
  by_cases h1:i≤j+1
  ·cases h2:p d[j+1]! with
   | true=>
    rw[decide_eq_true h1,if_pos (by simp[h1])]
    have ih:=Zlq step p d i hi j (fun k hk=>h k (by omega))
    have e:(((j+1:Nat):Int)-1)=(j:Int):=by omega
    simp only[Bool.and_self,cond_true,e]
    exact⟨ih.1,by omega⟩
   | false=>
    rw[decide_eq_true h1,if_neg (by simp)]
    exact⟨rfl,Nat.le_refl _⟩
  ·rw[decide_eq_false h1,if_neg (by simp[h1])]
   exact⟨rfl,Nat.le_refl _⟩
section
variable {cmp:Int→Int→Option Int} {c:Int→Int→Int} {P:Int→Prop} (hc:Zty cmp c P)
include hc
theorem ZyX (a:Nat):∀(k i j:Nat) (d:Array Int),j+3-i≤k→1≤i→i≤j+2→j<d.size→a<d.size→OKA P d →
  lp (Za8 (a:Int) cmp) ((i:Int),(j:Int),d.toList)=some (((partLoop (ltC c) a i j d).1:Int),(partLoop (ltC c) a i j d).2.toList)∧OKA P (partLoop (ltC c) a i j d).2∧(partLoop (ltC c) a i j d).2.size=d.size∧(partLoop (ltC c) a i j d).1≤j:=by
 intro k
 induction k with
 | zero=>
  intro i j d hk h1 h2 hj ha hd
  exact absurd hk (by omega)
 | succ k ih=>
  intro i j d hk h1 h2 hj ha hd
  have hz:=hd.sz
  obtain⟨u1,u2,u3⟩:=ZqZ (ZaL (a:Int) cmp ((i:Int),(j:Int),d.toList)) (fun x=>ltC c x d[a]!) d j (fun m hm=>by
    by_cases hmj:m≤j
    ·have im:m<d.size:=by omega
     simp only[ZaL,ZjM,decide_eq_true hmj,cond_true,ZcC im,ZcC ha,Option.bind_some,hc _ _ (hd.el _ im) (hd.el _ ha),ltC,Bool.true_and,ZQ (show m<j+1 by omega) (by omega)]
     cases decide (c d[m]! d[a]! < 0)<;>rfl
    ·simp only[ZaL,ZjM,decide_eq_false hmj,cond_false,Bool.false_and]) (j+2-i) i (Nat.le_refl _) h2
  generalize hi2:scanUp (fun x=>ltC c x d[a]!) d j i=i2 at u1 u2 u3
  obtain⟨v1,v2⟩:=Zlq (ZaG (a:Int) cmp ((i:Int),(j:Int),d.toList) (i2:Int)) (fun x=>!ltC c x d[a]!) d i2 (by omega) j (fun m hm=>by
    have im:m<d.size:=by omega
    by_cases hmi:i2≤m
    ·simp only[ZaG,ZjM,decide_eq_true hmi,cond_true,ZcC im,ZcC ha,Option.bind_some,hc _ _ (hd.el _ im) (hd.el _ ha),ltC,Bool.true_and,Zch (show -9223372036854775808≤(m:Int)-1 by omega) (by omega)]
     cases decide (c d[m]! d[a]! < 0)<;>rfl
    ·simp only[ZaG,ZjM,decide_eq_false hmi,cond_false,Bool.false_and])
  generalize hj2:scanDown (fun x=>!ltC c x d[a]!) d i2 j=j2 at v1 v2
  rw[Zbz]
  unfold partLoop
  simp only[Za8,u1,v1,Option.bind_some,ZiN,hi2,hj2]
  by_cases hij:j2<i2
  ·rw[decide_eq_true hij,if_pos hij]
   exact⟨rfl,hd,rfl,v2⟩
  ·have k1:i2<d.size:=by omega
   have k2:j2<d.size:=by omega
   obtain⟨y,em⟩:=Znx (i:=i2) (x:=d[j2]!) k2
   have e1:w64 ((i2:Int)+1)=((i2+1:Nat):Int):=Zbo (by omega) (by omega)
   have e2:w64 ((j2:Int)-1)=((j2-1:Nat):Int):=Zbo (by omega) (by omega)
   rw[decide_eq_false hij,if_neg hij,dif_pos (by omega)]
   simp only[cond_false,ZcC k1,ZcC k2,Option.bind_some,Int.toNat_natCast,em,ZjB,e1,e2]
   obtain⟨q1,q2,q3,q4⟩:=ih (i2+1) (j2-1) (swp d i2 j2) (by omega) (by omega) (by omega) (by rw[Za0];omega) (by rw[Za0];exact ha) (hd.swp k1 k2)
   rw[Za0] at q3
   exact⟨q1,q2,q3,by omega⟩
theorem ZCD (a b pivot:Nat) (d:Array Int) (h1:a≤pivot) (h2:pivot<b) (hb:b≤d.size) (hd:OKA P d) :
  Zu (a:Int) (b:Int) (pivot:Int) cmp d.toList=some (bif (partition (ltC c) d a b pivot).2.1 then .inl (((partition (ltC c) d a b pivot).1:Int),(partition (ltC c) d a b pivot).2.2.toList) else .inr (((partition (ltC c) d a b pivot).1:Int),(partition (ltC c) d a b pivot).2.2.toList)) ∧
  OKA P (partition (ltC c) d a b pivot).2.2∧(partition (ltC c) d a b pivot).2.2.size=d.size:=by
 have hz:=hd.sz
 have ip:pivot<d.size:=by omega
 have ia:a<d.size:=by omega
 have hd1:=hd.swp ia ip
 have s1:=Za0 d a pivot
 obtain⟨y,em⟩:=Znx (i:=a) (x:=d[pivot]!) ip
 have e1:w64 ((a:Int)+1)=((a+1:Nat):Int):=Zbo (by omega) (by omega)
 have e2:w64 ((b:Int)-1)=((b-1:Nat):Int):=Zbo (by omega) (by omega)
 have sw:=ZjB d a pivot
 have ia1:a<(swp d a pivot).size:=by omega
 obtain⟨u1,u2,u3⟩:=ZqZ (ZaK (a:Int) (b:Int) (pivot:Int) d.toList cmp d[pivot]! d[a]!) (fun x=>ltC c x (swp d a pivot)[a]!) (swp d a pivot) (b-1) (fun m hm=>by
   by_cases hmj:m≤b-1
   ·have im:m<(swp d a pivot).size:=by omega
    simp only[ZaK,e2,ZjM,decide_eq_true hmj,cond_true,Int.toNat_natCast,sw,ZcC im,ZcC ia1,Option.bind_some,hc _ _ (hd1.el _ im) (hd1.el _ ia1),ltC,Bool.true_and,ZQ (show m<b by omega) (by omega)]
    cases decide (c (swp d a pivot)[m]! (swp d a pivot)[a]! < 0)<;>rfl
   ·simp only[ZaK,e2,ZjM,decide_eq_false hmj,cond_false,Bool.false_and]) (b-1+2-(a+1)) (a+1) (Nat.le_refl _) (by omega)
 generalize hi2:scanUp (fun x=>ltC c x (swp d a pivot)[a]!) (swp d a pivot) (b-1) (a+1)=i2 at u1 u2 u3
 obtain⟨v1,v2⟩:=Zlq (ZaI (a:Int) (pivot:Int) d.toList cmp d[pivot]! d[a]! (i2:Int)) (fun x=>!ltC c x (swp d a pivot)[a]!) (swp d a pivot) i2 (by omega) (b-1) (fun m hm=>by
   have im:m<(swp d a pivot).size:=by omega
   by_cases hmi:i2≤m
   ·simp only[ZaI,ZjM,decide_eq_true hmi,cond_true,Int.toNat_natCast,sw,ZcC im,ZcC ia1,Option.bind_some,hc _ _ (hd1.el _ im) (hd1.el _ ia1),ltC,Bool.true_and,Zch (show -9223372036854775808≤(m:Int)-1 by omega) (by omega)]
    cases decide (c (swp d a pivot)[m]! (swp d a pivot)[a]! < 0)<;>rfl
   ·simp only[ZaI,ZjM,decide_eq_false hmi,cond_false,Bool.false_and])
 generalize hj2:scanDown (fun x=>!ltC c x (swp d a pivot)[a]!) (swp d a pivot) i2 (b-1)=j2 at v1 v2
 unfold Zu partition
 simp only[ZcC ip,ZcC ia,Option.bind_some,Int.toNat_natCast,em,e1,e2,u1,v1,ZiN,sw,hi2,hj2]
 have kj:j2<(swp d a pivot).size:=by omega
 by_cases hij:j2<i2
 ·obtain⟨y2,em2⟩:=Znx (i:=j2) (x:=(swp d a pivot)[a]!) ia1
  rw[decide_eq_true hij,if_pos hij]
  simp only[cond_true,ZcC ia1,ZcC kj,Option.bind_some,Int.toNat_natCast,em2,ZjB]
  exact⟨trivial,hd1.swp kj ia1,by rw[Za0,s1]⟩
 ·have ki:i2<(swp d a pivot).size:=by omega
  obtain⟨y2,em2⟩:=Znx (i:=i2) (x:=(swp d a pivot)[j2]!) kj
  have e3:w64 ((i2:Int)+1)=((i2+1:Nat):Int):=Zbo (by omega) (by omega)
  have e4:w64 ((j2:Int)-1)=((j2-1:Nat):Int):=Zbo (by omega) (by omega)
  obtain⟨q1,q2,q3,q4⟩:=ZyX hc a (j2-1+3-(i2+1)) (i2+1) (j2-1) (swp (swp d a pivot) i2 j2) (by omega) (by omega) (by omega) (by rw[Za0];omega) (by rw[Za0];exact ia1) (hd1.swp ki kj)
  rw[Za0,s1] at q3
  rw[decide_eq_false hij,if_neg hij]
  simp only[cond_false,ZcC ki,ZcC kj,Option.bind_some,Int.toNat_natCast,em2,ZjB,e3,e4,q1]
  generalize partLoop (ltC c) a (i2+1) (j2-1) (swp (swp d a pivot) i2 j2)=r at *
  have kr:r.1<r.2.size:=by omega
  have kr2:a<r.2.size:=by omega
  obtain⟨y3,em3⟩:=Znx (i:=r.1) (x:=r.2[a]!) kr2
  simp only[ZcC kr,ZcC kr2,Option.bind_some,em3,ZjB]
  exact⟨trivial,q2.swp kr kr2,by rw[Za0,q3]⟩
theorem Zwb (a:Nat):∀(k i j:Nat) (d:Array Int),j+3-i≤k→1≤i→i≤j+2→j<d.size→a<d.size→OKA P d →
  lp (Zax (a:Int) cmp) ((i:Int),(j:Int),d.toList)=some (((partEqLoop (ltC c) a i j d).1:Int),(partEqLoop (ltC c) a i j d).2.toList)∧OKA P (partEqLoop (ltC c) a i j d).2∧(partEqLoop (ltC c) a i j d).2.size=d.size∧i≤(partEqLoop (ltC c) a i j d).1∧(partEqLoop (ltC c) a i j d).1≤max i (j+1):=by
 intro k
 induction k with
 | zero=>
  intro i j d hk h1 h2 hj ha hd
  exact absurd hk (by omega)
 | succ k ih=>
  intro i j d hk h1 h2 hj ha hd
  have hz:=hd.sz
  obtain⟨u1,u2,u3⟩:=ZqZ (Zaj (a:Int) cmp ((i:Int),(j:Int),d.toList)) (fun x=>!ltC c d[a]! x) d j (fun m hm=>by
    by_cases hmj:m≤j
    ·have im:m<d.size:=by omega
     simp only[Zaj,ZjM,decide_eq_true hmj,cond_true,ZcC im,ZcC ha,Option.bind_some,hc _ _ (hd.el _ ha) (hd.el _ im),ltC,Bool.true_and,ZQ (show m<j+1 by omega) (by omega)]
     cases decide (c d[a]! d[m]! < 0)<;>rfl
    ·simp only[Zaj,ZjM,decide_eq_false hmj,cond_false,Bool.false_and]) (j+2-i) i (Nat.le_refl _) h2
  generalize hi2:scanUp (fun x=>!ltC c d[a]! x) d j i=i2 at u1 u2 u3
  obtain⟨v1,v2⟩:=Zlq (Zak (a:Int) cmp ((i:Int),(j:Int),d.toList) (i2:Int)) (fun x=>ltC c d[a]! x) d i2 (by omega) j (fun m hm=>by
    have im:m<d.size:=by omega
    by_cases hmi:i2≤m
    ·simp only[Zak,ZjM,decide_eq_true hmi,cond_true,ZcC im,ZcC ha,Option.bind_some,hc _ _ (hd.el _ ha) (hd.el _ im),ltC,Bool.true_and,Zch (show -9223372036854775808≤(m:Int)-1 by omega) (by omega)]
     cases decide (c d[a]! d[m]! < 0)<;>rfl
    ·simp only[Zak,ZjM,decide_eq_false hmi,cond_false,Bool.false_and])
  generalize hj2:scanDown (fun x=>ltC c d[a]! x) d i2 j=j2 at v1 v2
  rw[Zbz]
  unfold partEqLoop
  simp only[Zax,u1,v1,Option.bind_some,ZiN,hi2,hj2]
  by_cases hij:j2<i2
  ·rw[decide_eq_true hij,if_pos hij]
   exact⟨rfl,hd,rfl,u2,u3⟩
  ·have k1:i2<d.size:=by omega
   have k2:j2<d.size:=by omega
   obtain⟨y,em⟩:=Znx (i:=i2) (x:=d[j2]!) k2
   have e1:w64 ((i2:Int)+1)=((i2+1:Nat):Int):=Zbo (by omega) (by omega)
   have e2:w64 ((j2:Int)-1)=((j2-1:Nat):Int):=Zbo (by omega) (by omega)
   rw[decide_eq_false hij,if_neg hij,dif_pos (by omega)]
   simp only[cond_false,ZcC k1,ZcC k2,Option.bind_some,Int.toNat_natCast,em,ZjB,e1,e2]
   obtain⟨q1,q2,q3,q4,q5⟩:=ih (i2+1) (j2-1) (swp d i2 j2) (by omega) (by omega) (by omega) (by rw[Za0];omega) (by rw[Za0];exact ha) (hd.swp k1 k2)
   rw[Za0] at q3
   exact⟨q1,q2,q3,by omega,by omega⟩
theorem ZBw (a b pivot:Nat) (d:Array Int) (h1:a≤pivot) (h2:pivot<b) (hb:b≤d.size) (hd:OKA P d) :
  ZF (a:Int) (b:Int) (pivot:Int) cmp d.toList=some (((partitionEqual (ltC c) d a b pivot).1:Int),(partitionEqual (ltC c) d a b pivot).2.toList)∧OKA P (partitionEqual (ltC c) d a b pivot).2∧(partitionEqual (ltC c) d a b pivot).2.size=d.size∧a<(partitionEqual (ltC c) d a b pivot).1∧(partitionEqual (ltC c) d a b pivot).1≤b:=by
 have hz:=hd.sz
 have ip:pivot<d.size:=by omega
 have ia:a<d.size:=by omega
 obtain⟨y,em⟩:=Znx (i:=a) (x:=d[pivot]!) ip
 have e1:w64 ((a:Int)+1)=((a+1:Nat):Int):=Zbo (by omega) (by omega)
 have e2:w64 ((b:Int)-1)=((b-1:Nat):Int):=Zbo (by omega) (by omega)
 obtain⟨q1,q2,q3,q4,q5⟩:=Zwb hc a (b-1+3-(a+1)) (a+1) (b-1) (swp d a pivot) (by omega) (by omega) (by omega) (by rw[Za0];omega) (by rw[Za0];omega) (hd.swp ia ip)
 rw[Za0] at q3
 unfold ZF partitionEqual
 simp only[ZcC ip,ZcC ia,Option.bind_some,Int.toNat_natCast,em,e1,e2,ZjB,q1]
 exact⟨trivial,q2,q3,by omega,by omega⟩
end
end Go.Proofs.YtnpidpcmpleiaaaGreatDoor
namespace Go.Proofs.YtnpidpcmpleiaaaGreatDoor
open Go Go.Proofs.YtnpidpcmpleiaaaGreatDoorE Go.Sort
open Go.IntKind (u64 i64 u32 i32 u8)
def Ztc:Hint→Int
 | .unknown=>0
 | .increasing=>1
 | .decreasing=>2
theorem ZBq (p:Int×Int) (n:Nat) (x:Int) (h:p.2=(n:Int)) (hx:p.1=x):(bif p.2==0 then some (p.1,(1:Int)) else bif p.2==12 then some (p.1,2) else some (p.1,0))=some (x,Ztc (if n=0 then Hint.increasing else if n=12 then .decreasing else .unknown)):=by
 rw[h,hx]
 by_cases h0:n=0
 ·subst h0;rfl
 ·by_cases h1:n=12
  ·subst h1;rfl
  ·rw[show((n:Int)==0)=false by simpa using h0,show((n:Int)==12)=false by simp;omega,if_neg h0,if_neg h1]
   rfl
section
variable {cmp:Int→Int→Option Int} {c:Int→Int→Int} {P:Int→Prop} (hc:Zty cmp c P)
include hc
theorem ZC8:∀(j:Nat) (d:Array Int),OKA P d→j<d.size→lp (ZX cmp) ((j:Int),d.toList)=some (shiftDown (ltC c) j d).toList∧OKA P (shiftDown (ltC c) j d)∧(shiftDown (ltC c) j d).size=d.size
 | 0,d,hd,hj=>by
  rw[Zbz]
  simp only[ZX,decide_eq_false (show ¬((1:Int)≤((0:Nat):Int)) by omega),cond_false]
  exact⟨rfl,hd,rfl⟩
 | j+1,d,hd,hj=>by
  have hj':j<d.size:=by omega
  have hz:=hd.sz
  rw[Zbz]
  have e2:w64 (((j+1:Nat):Int)-1)=(j:Int):=Zbo (by omega) (by omega)
  have e3:=hc _ _ (hd.el (j+1) hj) (hd.el j hj')
  unfold shiftDown
  by_cases h2:c d[j+1]! d[j]! < 0
  ·obtain⟨y,e5⟩:=Znx (i:=j+1) (x:=d[j]!) hj'
   simp only[ZX,decide_eq_true (show(1:Int)≤((j+1:Nat):Int) by omega),cond_true,ZcC hj,e2,ZcC hj',Option.bind_some,e3,decide_eq_true h2,Int.toNat_natCast,e5,ZjB]
   rw[if_neg (by simp[h2,ltC])]
   have ih:=ZC8 j (swp d (j+1) j) (hd.swp hj hj') (by rw[Za0];omega)
   rw[Za0] at ih
   exact ih
  ·simp only[ZX,decide_eq_true (show(1:Int)≤((j+1:Nat):Int) by omega),cond_true,ZcC hj,e2,ZcC hj',Option.bind_some,e3,decide_eq_false h2,cond_false]
   rw[if_pos (by simp[h2,ltC])]
   exact⟨rfl,hd,rfl⟩
theorem ZC9 (b:Nat):∀(k j:Nat) (d:Array Int),b-j≤k→1≤j→b≤d.size→OKA P d→lp (ZL (b:Int) cmp) ((j:Int),d.toList)=some (shiftUp (ltC c) b j d).toList∧OKA P (shiftUp (ltC c) b j d)∧(shiftUp (ltC c) b j d).size=d.size:=by
 intro k
 induction k with
 | zero=>
  intro j d hk hj hb hd
  rw[Zbz]
  unfold shiftUp
  simp only[ZL,ZiN,decide_eq_false (show ¬j<b by omega),cond_false]
  rw[if_neg (by omega)]
  exact⟨rfl,hd,rfl⟩
 | succ k ih=>
  intro j d hk hj hb hd
  have hz:=hd.sz
  rw[Zbz]
  unfold shiftUp
  by_cases h1:j<b
  ·have i1:j<d.size:=by omega
   have i2:j-1<d.size:=by omega
   have e2:w64 ((j:Int)-1)=((j-1:Nat):Int):=Zbo (by omega) (by omega)
   have e3:=hc _ _ (hd.el j i1) (hd.el (j-1) i2)
   rw[if_pos h1]
   by_cases h2:c d[j]! d[j-1]! < 0
   ·obtain⟨y,e5⟩:=Znx (i:=j) (x:=d[j-1]!) i2
    simp only[ZL,ZiN,decide_eq_true h1,cond_true,ZcC i1,e2,ZcC i2,Option.bind_some,e3,decide_eq_true h2,Int.toNat_natCast,e5,ZjB,ZQ h1 (by omega)]
    rw[if_neg (by simp[h2,ltC])]
    have:=ih (j+1) (swp d j (j-1)) (by omega) (by omega) (by rw[Za0];exact hb) (hd.swp i1 i2)
    rw[Za0] at this
    exact this
   ·simp only[ZL,ZiN,decide_eq_true h1,cond_true,ZcC i1,e2,ZcC i2,Option.bind_some,e3,decide_eq_false h2,cond_false]
    rw[if_pos (by simp[h2,ltC])]
    exact⟨rfl,hd,rfl⟩
  ·simp only[ZL,ZiN,decide_eq_false h1,cond_false]
   rw[if_neg h1]
   exact⟨rfl,hd,rfl⟩
theorem Zy9 (b:Nat) (z:Int) (d:Array Int) (hb:b≤d.size) (hd:OKA P d) (y1 y2:Int):∀(k i:Nat),b-i≤k→1≤i→i≤b→lp (ZO (b:Int) cmp (y1,y2,d.toList)) (i:Int)=some ((scanSorted (ltC c) d b i:Nat):Int)∧i≤scanSorted (ltC c) d b i∧scanSorted (ltC c) d b i≤b:=by
 have hz:=hd.sz
 intro k
 induction k with
 | zero=>
  intro i hk hi hib
  rw[Zbz]
  unfold scanSorted
  simp only[ZO,ZiN,decide_eq_false (show ¬i<b by omega),cond_false]
  rw[if_neg (by simp[show ¬i<b by omega])]
  exact⟨rfl,Nat.le_refl _,hib⟩
 | succ k ih=>
  intro i hk hi hib
  rw[Zbz]
  unfold scanSorted
  by_cases h1:i<b
  ·have i1:i<d.size:=by omega
   have i2:i-1<d.size:=by omega
   have e2:w64 ((i:Int)-1)=((i-1:Nat):Int):=Zbo (by omega) (by omega)
   have e3:=hc _ _ (hd.el i i1) (hd.el (i-1) i2)
   by_cases h2:c d[i]! d[i-1]! < 0
   ·simp only[ZO,ZiN,decide_eq_true h1,cond_true,ZcC i1,e2,ZcC i2,Option.bind_some,e3,decide_eq_true h2]
    rw[if_neg (by simp[h2,ltC])]
    exact⟨rfl,Nat.le_refl _,hib⟩
   ·simp only[ZO,ZiN,decide_eq_true h1,cond_true,ZcC i1,e2,ZcC i2,Option.bind_some,e3,decide_eq_false h2,cond_false,ZQ h1 (by omega)]
    rw[if_pos (by simp[h1,h2,ltC])]
    obtain⟨a1,a2,a3⟩:=ih (i+1) (by omega) (by omega) (by omega)
    exact⟨a1,by omega,a3⟩
  ·simp only[ZO,ZiN,decide_eq_false h1,cond_false]
   rw[if_neg (by simp[h1])]
   exact⟨rfl,Nat.le_refl _,hib⟩
theorem ZA8 (a b:Nat):∀(s i:Nat) (d:Array Int),s≤5→a<i→i≤b→b≤d.size→OKA P d →
  ∃r,lp (ZW (a:Int) (b:Int) cmp) ((i:Int),((5-s:Nat):Int),d.toList)=some r∧(match r with | .inl l=>l=(partialIns (ltC c) a b s i d).1.toList∧(partialIns (ltC c) a b s i d).2=true | .inr (.inl l)=>l=(partialIns (ltC c) a b s i d).1.toList∧(partialIns (ltC c) a b s i d).2=false | .inr (.inr l)=>l=(partialIns (ltC c) a b s i d).1.toList∧(partialIns (ltC c) a b s i d).2=false) ∧
   OKA P (partialIns (ltC c) a b s i d).1∧(partialIns (ltC c) a b s i d).1.size=d.size
 | 0,i,d,hs,ha,hi,hb,hd=>by
  rw[Zbz]
  simp only[ZW,decide_eq_false (show ¬(((5-0:Nat):Int)<5) by omega),cond_false]
  exact⟨_,rfl,by simp[partialIns],by first | exact hd | (simpa [partialIns] using hd),by first | rfl | simp[partialIns]⟩
 | s+1,i,d,hs,ha,hi,hb,hd=>by
  have hz:=hd.sz
  obtain⟨u1,u2,u3⟩:=Zy9 hc b 0 d hb hd (i:Int) ((5-(s+1):Nat):Int) (b-i) i (Nat.le_refl _) (by omega) hi
  rw[Zbz]
  unfold partialIns
  generalize hi2:scanSorted (ltC c) d b i=i2 at u1 u2 u3 ⊢
  simp only[ZW,decide_eq_true (show(((5-(s+1):Nat):Int)<5) by omega),cond_true,u1,Option.bind_some]
  by_cases h1:i2=b
  ·rw[show((i2:Int)==(b:Int))=true by simp[h1],if_pos h1]
   exact⟨_,rfl,by simp[partialIns],by first | exact hd | (simpa [partialIns] using hd),by first | rfl | simp[partialIns]⟩
  ·have e1:w64 ((b:Int)-(a:Int))=((b-a:Nat):Int):=Zbo (by omega) (by omega)
   rw[show((i2:Int)==(b:Int))=false by simpa using (show ¬(i2:Int)=(b:Int) by omega),if_neg h1]
   by_cases h2:b-a<50
   ·rw[if_pos h2]
    simp only[cond_false,e1,decide_eq_true (show((b-a:Nat):Int)<50 by omega),cond_true]
    exact⟨_,rfl,by simp[partialIns],by first | exact hd | (simpa [partialIns] using hd),by first | rfl | simp[partialIns]⟩
   ·rw[if_neg h2]
    have i1:i2<d.size:=by omega
    have i3:i2-1<d.size:=by omega
    have e2:w64 ((i2:Int)-1)=((i2-1:Nat):Int):=Zbo (by omega) (by omega)
    have e3:w64 ((i2:Int)-(a:Int))=((i2-a:Nat):Int):=Zbo (by omega) (by omega)
    have e4:w64 ((b:Int)-(i2:Int))=((b-i2:Nat):Int):=Zbo (by omega) (by omega)
    have e5:w64 ((i2:Int)+1)=((i2+1:Nat):Int):=Zbo (by omega) (by omega)
    have e6:w64 (((5-(s+1):Nat):Int)+1)=((5-s:Nat):Int):=Zbo (by omega) (by omega)
    obtain⟨y,em⟩:=Znx (i:=i2) (x:=d[i2-1]!) i3
    have hd2:=hd.swp i1 i3
    simp only[cond_false,e1,decide_eq_false (show ¬((b-a:Nat):Int)<50 by omega),e2,ZcC i1,ZcC i3,Option.bind_some,Int.toNat_natCast,em,ZjB,e3,e4,e5,e6]
    have n2:∀n:Nat,decide ((2:Int)≤(n:Int))=decide (n ≥ 2):=fun n=>decide_eq_decide.2 (by omega)
    rw[n2,n2]
    have go:∀d':Array Int,OKA P d'→d'.size=d.size→∃r,lp (ZW (a:Int) (b:Int) cmp) ((i2:Int),((5-s:Nat):Int),d'.toList)=some r∧(match r with | .inl l=>l=(partialIns (ltC c) a b s i2 d').1.toList∧(partialIns (ltC c) a b s i2 d').2=true | .inr (.inl l)=>l=(partialIns (ltC c) a b s i2 d').1.toList∧(partialIns (ltC c) a b s i2 d').2=false | .inr (.inr l)=>l=(partialIns (ltC c) a b s i2 d').1.toList∧(partialIns (ltC c) a b s i2 d').2=false) ∧
      OKA P (partialIns (ltC c) a b s i2 d').1∧(partialIns (ltC c) a b s i2 d').1.size=d.size:=fun d' h h'=>by
     have:=ZA8 a b s i2 d' (by omega) (by omega) u3 (by omega) h
     rw[h'] at this
     exact this
    by_cases h3:i2-a ≥ 2
    ·obtain⟨v1,v2,v3⟩:=ZC8 hc (i2-1) (swp d i2 (i2-1)) hd2 (by rw[Za0];exact i3)
     rw[Za0] at v3
     rw[decide_eq_true h3,if_pos h3]
     simp only[cond_true,v1,Option.bind_some]
     by_cases h4:b-i2 ≥ 2
     ·obtain⟨w1,w2,w3⟩:=ZC9 hc b (b-(i2+1)) (i2+1) (shiftDown (ltC c) (i2-1) (swp d i2 (i2-1))) (Nat.le_refl _) (by omega) (by omega) v2
      rw[decide_eq_true h4,if_pos h4]
      simp only[cond_true,w1,Option.bind_some]
      exact go _ w2 (by omega)
     ·rw[decide_eq_false h4,if_neg h4]
      exact go _ v2 v3
    ·rw[decide_eq_false h3,if_neg h3]
     simp only[cond_false]
     by_cases h4:b-i2 ≥ 2
     ·obtain⟨w1,w2,w3⟩:=ZC9 hc b (b-(i2+1)) (i2+1) (swp d i2 (i2-1)) (Nat.le_refl _) (by omega) (by rw[Za0];omega) hd2
      rw[Za0] at w3
      rw[decide_eq_true h4,if_pos h4]
      simp only[cond_true,w1,Option.bind_some]
      exact go _ w2 w3
     ·rw[decide_eq_false h4,if_neg h4]
      exact go _ hd2 (Za0 _ _ _)
theorem ZDi (a b:Nat) (d:Array Int) (h1:a<b) (hb:b≤d.size) (hd:OKA P d) :
  ZU (a:Int) (b:Int) cmp d.toList=some (bif (partialInsertionSort (ltC c) d a b).2 then .inl (partialInsertionSort (ltC c) d a b).1.toList else .inr (partialInsertionSort (ltC c) d a b).1.toList)∧OKA P (partialInsertionSort (ltC c) d a b).1∧(partialInsertionSort (ltC c) d a b).1.size=d.size:=by
 have hz:=hd.sz
 obtain⟨r,e,h2,h3⟩:=ZA8 hc a b 5 (a+1) d (Nat.le_refl _) (by omega) (by omega) hb hd
 unfold ZU partialInsertionSort
 have e0:((5-5:Nat):Int)=0:=rfl
 rw[e0] at e
 rw[Zbo (n:=a+1) (by omega) (by omega),e]
 refine⟨?_,h3⟩
 rcases r with l | l | l
 ·obtain⟨rfl,h⟩:=h2;rw[h];rfl
 ·obtain⟨rfl,h⟩:=h2;rw[h];rfl
 ·obtain⟨rfl,h⟩:=h2;rw[h];rfl
theorem ZAW (d:Array Int) (hd:OKA P d) (a b n:Nat) (ha:a<d.size) (hb:b<d.size) (hn:n<1000):Za7 (a:Int) (b:Int) cmp d.toList (n:Int)=some (((order2 (ltC c) d a b n).1:Int),((order2 (ltC c) d a b n).2.1:Int),((order2 (ltC c) d a b n).2.2:Int)) ∧
  (order2 (ltC c) d a b n).1<d.size∧(order2 (ltC c) d a b n).2.1<d.size∧(order2 (ltC c) d a b n).2.2≤n+1:=by
 unfold Za7 order2
 simp only[ZcC ha,ZcC hb,Option.bind_some,hc _ _ (hd.el b hb) (hd.el a ha)]
 by_cases h:c d[b]! d[a]! < 0
 ·rw[if_pos (by simp[h,ltC]),decide_eq_true h,Zbo (n:=n+1) (by omega) (by omega)]
  exact⟨rfl,hb,ha,Nat.le_refl _⟩
 ·rw[if_neg (by simp[h,ltC]),decide_eq_false h]
  exact⟨rfl,ha,hb,Nat.le_succ _⟩
theorem Zzt (d:Array Int) (hd:OKA P d) (i j k n:Nat) (hi:i<d.size) (hj:j<d.size) (hk:k<d.size) (hn:n<990):Za6 (i:Int) (j:Int) (k:Int) cmp d.toList (n:Int)=some (((median (ltC c) d i j k n).1:Int),((median (ltC c) d i j k n).2:Int))∧(median (ltC c) d i j k n).1<d.size∧(median (ltC c) d i j k n).2≤n+3:=by
 obtain⟨a1,a2,a3,a4⟩:=ZAW hc d hd i j n hi hj (by omega)
 obtain⟨b1,b2,b3,b4⟩:=ZAW hc d hd (order2 (ltC c) d i j n).2.1 k (order2 (ltC c) d i j n).2.2 a3 hk (by omega)
 obtain⟨c1,c2,c3,c4⟩:=ZAW hc d hd (order2 (ltC c) d i j n).1 (order2 (ltC c) d (order2 (ltC c) d i j n).2.1 k (order2 (ltC c) d i j n).2.2).1 (order2 (ltC c) d (order2 (ltC c) d i j n).2.1 k (order2 (ltC c) d i j n).2.2).2.2 a2 b2 (by omega)
 unfold Za6 median
 simp only[a1,b1,c1,Option.bind_some]
 exact⟨trivial,c3,by omega⟩
theorem Zzg (d:Array Int) (hd:OKA P d) (i n:Nat) (h1:1≤i) (hi:i+1<d.size) (hn:n<990):Zag (i:Int) cmp d.toList (n:Int)=some (((medianAdjacent (ltC c) d i n).1:Int),((medianAdjacent (ltC c) d i n).2:Int))∧(medianAdjacent (ltC c) d i n).1<d.size∧(medianAdjacent (ltC c) d i n).2≤n+3:=by
 have hz:=hd.sz
 obtain⟨a1,a2⟩:=Zzt hc d hd (i-1) i (i+1) n (by omega) (by omega) hi hn
 unfold Zag medianAdjacent
 rw[Zbo (n:=i-1) (by omega) (by omega),Zbo (n:=i+1) (by omega) (by omega),a1]
 exact⟨rfl,a2⟩
theorem ZDh (a b:Nat) (d:Array Int) (hab:a<b) (hb:b≤d.size) (hd:OKA P d):ZY (a:Int) (b:Int) cmp d.toList=some (((choosePivot (ltC c) d a b).1:Int),Ztc (choosePivot (ltC c) d a b).2):=by
 have hz:=hd.sz
 have e1:w64 ((b:Int)-(a:Int))=((b-a:Nat):Int):=Zbo (by omega) (by omega)
 have e2:w64 (Int.tdiv ((b-a:Nat):Int) 4)=(((b-a) / 4:Nat):Int):=by
  rw[Int.tdiv_eq_ediv_of_nonneg (by omega)]
  exact Zbo (by omega) (by omega)
 have q:∀m:Nat,m≤3→w64 ((((b-a) / 4:Nat):Int)*(m:Int))=(((b-a) / 4*m:Nat):Int):=fun m hm=>by
  refine Zbo (by rw[Int.natCast_mul]) ?_
  have:(b-a) / 4*m≤(b-a) / 4*3:=Nat.mul_le_mul_left _ hm
  omega
 have q1:=q 1 (by omega)
 have q2:=q 2 (by omega)
 have q3:=q 3 (by omega)
 have p:∀m:Nat,m≤3→w64 ((a:Int)+(((b-a) / 4*m:Nat):Int))=((a+(b-a) / 4*m:Nat):Int):=fun m hm=>by
  refine Zbo (by omega) ?_
  have:(b-a) / 4*m≤(b-a) / 4*3:=Nat.mul_le_mul_left _ hm
  omega
 have p1:=p 1 (by omega)
 have p2:=p 2 (by omega)
 have p3:=p 3 (by omega)
 unfold ZY choosePivot
 have q1':w64 ((((b-a) / 4:Nat):Int)*1)=_:=q1
 have q2':w64 ((((b-a) / 4:Nat):Int)*2)=_:=q2
 have q3':w64 ((((b-a) / 4:Nat):Int)*3)=_:=q3
 simp only[e1,e2,q1',q2',q3',p1,p2,p3]
 have z:((0:Nat):Int)=0:=rfl
 by_cases h8:b-a ≥ 8
 ·rw[decide_eq_true (show(8:Int)≤((b-a:Nat):Int) by omega),if_pos h8]
  by_cases h50:b-a ≥ 50
  ·obtain⟨m1,m2,m3⟩:=Zzg hc d hd (a+(b-a) / 4*1) 0 (by omega) (by omega) (by omega)
   obtain⟨n1,n2,n3⟩:=Zzg hc d hd (a+(b-a) / 4*2) (medianAdjacent (ltC c) d (a+(b-a) / 4*1) 0).2 (by omega) (by omega) (by omega)
   obtain⟨o1,o2,o3⟩:=Zzg hc d hd (a+(b-a) / 4*3) (medianAdjacent (ltC c) d (a+(b-a) / 4*2) (medianAdjacent (ltC c) d (a+(b-a) / 4*1) 0).2).2 (by omega) (by omega) (by omega)
   obtain⟨r1,r2,r3⟩:=Zzt hc d hd _ _ _ (medianAdjacent (ltC c) d (a+(b-a) / 4*3) (medianAdjacent (ltC c) d (a+(b-a) / 4*2) (medianAdjacent (ltC c) d (a+(b-a) / 4*1) 0).2).2).2 m2 n2 o2 (by omega)
   rw[z] at m1
   rw[decide_eq_true (show(50:Int)≤((b-a:Nat):Int) by omega),if_pos h50]
   simp only[cond_true,m1,n1,o1,r1,Option.bind_some]
   exact ZBq (_,_) _ _ rfl rfl
  ·obtain⟨r1,r2,r3⟩:=Zzt hc d hd (a+(b-a) / 4*1) (a+(b-a) / 4*2) (a+(b-a) / 4*3) 0 (by omega) (by omega) (by omega) (by omega)
   rw[z] at r1
   rw[decide_eq_false (show ¬(50:Int)≤((b-a:Nat):Int) by omega),if_neg h50]
   simp only[cond_true,cond_false,r1,Option.bind_some]
   exact ZBq (_,_) _ _ rfl rfl
 ·rw[decide_eq_false (show ¬(8:Int)≤((b-a:Nat):Int) by omega),if_neg h8]
  rfl
end
theorem ZE6 {P:Int→Prop}:∀(k i j:Nat) (d:Array Int),j-i≤k→j<d.size∨j≤i→OKA P d→lp Zad ((i:Int),(j:Int),d.toList)=some (reverseLoop i j d).toList∧OKA P (reverseLoop i j d)∧(reverseLoop i j d).size=d.size:=by
 intro k
 induction k with
 | zero=>
  intro i j d hk hj hd
  rw[Zbz]
  unfold reverseLoop
  simp only[Zad,ZiN,decide_eq_false (show ¬i<j by omega),cond_false]
  rw[if_neg (by omega)]
  exact⟨rfl,hd,rfl⟩
 | succ k ih=>
  intro i j d hk hj hd
  have hz:=hd.sz
  rw[Zbz]
  unfold reverseLoop
  by_cases h:i<j
  ·have i1:j<d.size:=by omega
   have i2:i<d.size:=by omega
   obtain⟨y,em⟩:=Znx (i:=i) (x:=d[j]!) i1
   have e2:w64 ((j:Int)-1)=((j-1:Nat):Int):=Zbo (by omega) (by omega)
   simp only[Zad,ZiN,decide_eq_true h,cond_true,ZcC i1,ZcC i2,Option.bind_some,Int.toNat_natCast,em,ZjB,ZQ h (by omega),e2]
   rw[if_pos h]
   have:=ih (i+1) (j-1) (swp d i j) (by omega) (by rw[Za0];omega) (hd.swp i2 i1)
   rw[Za0] at this
   exact this
  ·simp only[Zad,ZiN,decide_eq_false h,cond_false]
   rw[if_neg h]
   exact⟨rfl,hd,rfl⟩
theorem ZA1 {P:Int→Prop} (cmp:Int→Int→Option Int) (a b:Nat) (d:Array Int) (hab:a<b) (hb:b≤d.size) (hd:OKA P d):ZT (a:Int) (b:Int) cmp d.toList=some (reverseRange d a b).toList∧OKA P (reverseRange d a b)∧(reverseRange d a b).size=d.size:=by
 have hz:=hd.sz
 obtain⟨h1,h2⟩:=ZE6 (b-1-a) a (b-1) d (Nat.le_refl _) (by omega) hd
 unfold ZT reverseRange
 rw[Zbo (n:=b-1) (by omega) (by omega)]
 simp only[h1,Option.bind_some]
 exact⟨trivial,h2⟩
end Go.Proofs.YtnpidpcmpleiaaaGreatDoor
namespace Go.Proofs.YtnpidpcmpleiaaaGreatDoor
open Go Go.Proofs.YtnpidpcmpleiaaaGreatDoorE Go.Sort
open Go.IntKind (u64 i64 u32 i32 u8)
theorem ZvX (n:Int):u64.wrap n=n % 18446744073709551616:=by
 show(if (false&&decide (n % 18446744073709551616 ≥ 9223372036854775808))=true then n % 18446744073709551616-18446744073709551616 else n % 18446744073709551616)=_
 simp
theorem Zj6 {n:Nat} (h:n<18446744073709551616):u64.wrap (n:Int)=(n:Int):=by rw[ZvX];omega
def ZuL (a b:Int):Int:=u64.wrap (Zi a ^^^ Zi b).toNat
def Zzh (a b:Int):Int:=u64.wrap (Zi a &&& Zi b).toNat
def xs (r:Int):Int:=ZuL (ZuL (ZuL r (u64.wrap (r*2 ^ 13))) (Int.fdiv (ZuL r (u64.wrap (r*2 ^ 13))) (2 ^ 7))) (u64.wrap (ZuL (ZuL r (u64.wrap (r*2 ^ 13))) (Int.fdiv (ZuL r (u64.wrap (r*2 ^ 13))) (2 ^ 7))*2 ^ 17))
theorem Zur (u:UInt64):Zi (u.toNat:Int)=u.toBitVec:=by
 show BitVec.ofInt 64 (u.toNat:Int)=u.toBitVec
 rw[BitVec.ofInt_natCast]
 apply BitVec.eq_of_toNat_eq
 rw[BitVec.toNat_ofNat]
 exact Nat.mod_eq_of_lt u.toNat_lt
theorem ZAN (u v:UInt64):ZuL (u.toNat:Int) (v.toNat:Int)=((u ^^^ v).toNat:Int):=by
 unfold ZuL
 rw[Zur,Zur]
 exact Zj6 (u ^^^ v).toNat_lt
theorem ZC5 (u:UInt64) (k:Nat) (v:UInt64) (hk:v.toNat % 64=k):u64.wrap ((u.toNat:Int)*2 ^ k)=((u <<< v).toNat:Int):=by
 rw[ZvX,UInt64.toNat_shiftLeft,hk,Nat.shiftLeft_eq]
 have:((2:Int) ^ k)=((2 ^ k:Nat):Int):=by rw[Int.natCast_pow];rfl
 rw[this]
 omega
theorem ZFG (u:UInt64) (k:Nat) (v:UInt64) (hk:v.toNat % 64=k):Int.fdiv (u.toNat:Int) (2 ^ k)=((u >>> v).toNat:Int):=by
 have e:((2:Int) ^ k)=((2 ^ k:Nat):Int):=by rw[Int.natCast_pow];rfl
 rw[UInt64.toNat_shiftRight,hk,Nat.shiftRight_eq_div_pow,e,Int.fdiv_eq_ediv_of_nonneg _ (Int.natCast_nonneg _)]
 exact(Int.natCast_ediv _ _).symm
theorem ZFJ (u:UInt64):xs (u.toNat:Int)=((xorNext u).toNat:Int):=by
 unfold xs xorNext
 rw[ZC5 u 13 13 rfl,ZAN,ZFG _ 7 7 rfl,ZAN,ZC5 _ 17 17 rfl,ZAN]
theorem ZCH (u:UInt64) (m:Nat) (hm:m<18446744073709551616):Zzh (u.toNat:Int) (m:Int)=((u.toNat &&& m:Nat):Int):=by
 unfold Zzh
 rw[Zur]
 have:Zi (m:Int)=BitVec.ofNat 64 m:=BitVec.ofInt_natCast _ _
 rw[this]
 show u64.wrap ((((u.toBitVec &&& BitVec.ofNat 64 m:BitVec 64)).toNat:Nat):Int)=_
 rw[BitVec.toNat_and,BitVec.toNat_ofNat,Nat.mod_eq_of_lt hm]
 refine Zj6 (Nat.lt_of_le_of_lt Nat.and_le_left u.toNat_lt)
theorem ZyW:((List.range 1001).all fun n=>(match ZeY (u64.wrap (n:Int)) with | some v=>v==(bitsLen n:Int) | none=>false)&&((match ZcE (n:Int) with | some v=>v==((1 <<< bitsLen n:Nat):Int) | none=>false)&&(decide (1 <<< bitsLen n≤2*n) || n==0)))=true:=by kernel_rfl
theorem ZAC {n:Nat} (h:n≤1000):ZeY (u64.wrap (n:Int))=some (bitsLen n:Int)∧ZcE (n:Int)=some ((1 <<< bitsLen n:Nat):Int)∧(0<n→1 <<< bitsLen n≤2*n):=by
 have:=List.all_eq_true.1 ZyW n (by simp;omega)
 simp only[Bool.and_eq_true,Bool.or_eq_true,decide_eq_true_eq,beq_iff_eq] at this
 obtain⟨h1,h2,h3⟩:=this
 refine⟨?_,?_,fun h=>by omega⟩
 ·split at h1
  ·rename_i v hv;rw[hv,eq_of_beq h1]
  ·cases h1
 ·split at h2
  ·rename_i v hv;rw[hv,eq_of_beq h2]
  ·cases h2
def ZrR (s:Int×List Int×Int) (o:Int):Option ((Int×List Int×Int)⊕List Int):=
 (Zx s.2.1 o).bind fun x3=>(Zx s.2.1 s.1).bind fun x4=>(Zx (List.set s.2.1 s.1.toNat x3) o).bind fun _=>some (Sum.inl (w64 (s.1+1),List.set (List.set s.2.1 s.1.toNat x3) o.toNat x4,xs s.2.2))
theorem ZDk (b c x0:Int) (s:Int×List Int×Int):ZaF b c x0 s=(bif (decide (s.1≤(w64 ((w64 (b+(w64 ((w64 (Int.tdiv (w64 (c-b)) 4))*2))))+1)))) then
  ZdM.bind fun _=>bif decide (w64 (c-b)≤w64 (Zzh (xs s.2.2) (u64.wrap (x0-1)))) then ZrR s (w64 (b+w64 (w64 (Zzh (xs s.2.2) (u64.wrap (x0-1)))-w64 (c-b)))) else ZrR s (w64 (b+w64 (Zzh (xs s.2.2) (u64.wrap (x0-1)))))
 else some (.inr s.2.1)):=rfl
theorem ZvV {P:Int→Prop} (d:Array Int) (hd:OKA P d) (i o:Nat) (u:UInt64) (hi:i<d.size) (ho:o<d.size):ZrR ((i:Int),d.toList,(u.toNat:Int)) (o:Int)=some (.inl (((i+1:Nat):Int),(swp d i o).toList,((xorNext u).toNat:Int))):=by
 have hz:=hd.sz
 obtain⟨y,em⟩:=Znx (i:=i) (x:=d[o]!) ho
 unfold ZrR
 simp only[ZcC ho,ZcC hi,Option.bind_some,Int.toNat_natCast,em,ZjB,ZFJ,ZQ hi (by omega)]
theorem ZuG {P:Int→Prop} (a b:Nat) (d:Array Int) (hd:OKA P d) (h8:8≤b-a) (hb:b≤d.size) (i:Nat) (hi:i≤a+(b-a) / 4*2+1) (u:UInt64) :
  ZaF (a:Int) (b:Int) ((1 <<< bitsLen (b-a):Nat):Int) ((i:Int),d.toList,(u.toNat:Int))=some (.inl (((i+1:Nat):Int),(breakStep a (b-a) (1 <<< bitsLen (b-a)) (u,d) i).2.toList,((breakStep a (b-a) (1 <<< bitsLen (b-a)) (u,d) i).1.toNat:Int))) ∧
  OKA P (breakStep a (b-a) (1 <<< bitsLen (b-a)) (u,d) i).2∧(breakStep a (b-a) (1 <<< bitsLen (b-a)) (u,d) i).2.size=d.size:=by
 have hz:=hd.sz
 obtain⟨_,_,l3⟩:=ZAC (show b-a≤1000 by omega)
 have l4:=l3 (by omega)
 have l5:0<1 <<< bitsLen (b-a):=by rw[Nat.shiftLeft_eq,Nat.one_mul];exact Nat.pow_pos (by omega)
 generalize hm:1 <<< bitsLen (b-a)=m at *
 have e1:w64 ((b:Int)-(a:Int))=((b-a:Nat):Int):=Zbo (by omega) (by omega)
 have e2:w64 (Int.tdiv ((b-a:Nat):Int) 4)=(((b-a) / 4:Nat):Int):=by
  rw[Int.tdiv_eq_ediv_of_nonneg (by omega)]
  exact Zbo (by omega) (by omega)
 have e3:w64 ((((b-a) / 4:Nat):Int)*2)=(((b-a) / 4*2:Nat):Int):=Zbo (by omega) (by omega)
 have e4:w64 ((a:Int)+(((b-a) / 4*2:Nat):Int))=((a+(b-a) / 4*2:Nat):Int):=Zbo (by omega) (by omega)
 have e5:w64 (((a+(b-a) / 4*2:Nat):Int)+1)=((a+(b-a) / 4*2+1:Nat):Int):=Zbo (by omega) (by omega)
 have e6:u64.wrap ((m:Int)-1)=((m-1:Nat):Int):=by
  rw[show(m:Int)-1=((m-1:Nat):Int) by omega];exact Zj6 (by omega)
 have hand:(xorNext u).toNat &&& (m-1)≤m-1:=Nat.and_le_right
 have e7:w64 (((xorNext u).toNat &&& (m-1):Nat):Int)=(((xorNext u).toNat &&& (m-1):Nat):Int):=Zbo rfl (by omega)
 have ii:i<d.size:=by omega
 rw[ZDk]
 unfold breakStep
 simp only[e1,e2,e3,e4,e5,ZjM,decide_eq_true hi,cond_true,ZFJ,e6,ZCH _ (m-1) (by omega),e7]
 generalize (xorNext u).toNat &&& (m-1)=o at *
 show(bif decide (b-a≤o) then _ else _)=_∧_
 by_cases ho:b-a≤o
 ·have e8:w64 ((o:Int)-((b-a:Nat):Int))=((o-(b-a):Nat):Int):=Zbo (by omega) (by omega)
  have e9:w64 ((a:Int)+((o-(b-a):Nat):Int))=((a+(o-(b-a)):Nat):Int):=Zbo (by omega) (by omega)
  rw[decide_eq_true ho,if_pos ho]
  simp only[cond_true,e8,e9]
  exact⟨ZvV d hd i _ u ii (by omega),hd.swp ii (by omega),Za0 _ _ _⟩
 ·have e9:w64 ((a:Int)+(o:Int))=((a+o:Nat):Int):=Zbo (by omega) (by omega)
  rw[decide_eq_false ho,if_neg ho]
  simp only[cond_false,e9]
  exact⟨ZvV d hd i _ u ii (by omega),hd.swp ii (by omega),Za0 _ _ _⟩
theorem ZHk {P:Int→Prop} (cmp:Int→Int→Option Int) (a b:Nat) (d:Array Int) (hab:a≤b) (hb:b≤d.size) (hd:OKA P d):Zan (a:Int) (b:Int) cmp d.toList=some (breakPatterns d a b).toList∧OKA P (breakPatterns d a b)∧(breakPatterns d a b).size=d.size:=by
 have hz:=hd.sz
 have e1:w64 ((b:Int)-(a:Int))=((b-a:Nat):Int):=Zbo (by omega) (by omega)
 unfold Zan breakPatterns
 simp only[e1]
 by_cases h8:8≤b-a
 ·obtain⟨_,l2,_⟩:=ZAC (show b-a≤1000 by omega)
  have e2:w64 (Int.tdiv ((b-a:Nat):Int) 4)=(((b-a) / 4:Nat):Int):=by
   rw[Int.tdiv_eq_ediv_of_nonneg (by omega)]
   exact Zbo (by omega) (by omega)
  have e3:w64 ((((b-a) / 4:Nat):Int)*2)=(((b-a) / 4*2:Nat):Int):=Zbo (by omega) (by omega)
  have e4:w64 ((a:Int)+(((b-a) / 4*2:Nat):Int))=((a+(b-a) / 4*2:Nat):Int):=Zbo (by omega) (by omega)
  have e5:w64 (((a+(b-a) / 4*2:Nat):Int)-1)=((a+(b-a) / 4*2-1:Nat):Int):=Zbo (by omega) (by omega)
  have e6:u64.wrap ((b-a:Nat):Int)=((UInt64.ofNat (b-a)).toNat:Int):=by
   rw[Zj6 (by omega),UInt64.toNat_ofNat_of_lt' (by show b-a<2 ^ 64;omega)]
  rw[decide_eq_true (show(8:Int)≤((b-a:Nat):Int) by omega),if_pos h8]
  simp only[cond_true,l2,Option.bind_some,e2,e3,e4,e5,e6]
  generalize hi0:a+(b-a) / 4*2-1=i0
  obtain⟨p1,p2,p3⟩:=ZuG a b d hd h8 hb i0 (by omega) (UInt64.ofNat (b-a))
  generalize breakStep a (b-a) (1 <<< bitsLen (b-a)) (UInt64.ofNat (b-a),d) i0=r1 at *
  obtain⟨q1,q2,q3⟩:=ZuG a b r1.2 p2 h8 (by omega) (i0+1) (by omega) r1.1
  generalize breakStep a (b-a) (1 <<< bitsLen (b-a)) (r1.1,r1.2) (i0+1)=r2 at *
  obtain⟨s1,s2,s3⟩:=ZuG a b r2.2 q2 h8 (by omega) (i0+2) (by omega) r2.1
  generalize breakStep a (b-a) (1 <<< bitsLen (b-a)) (r2.1,r2.2) (i0+2)=r3 at *
  rw[Zsp p1,Zsp q1,Zsp s1,ZCL (r:=r3.2.toList)]
  ·exact⟨rfl,s2,by omega⟩
  ·rw[ZDk]
   have e7:w64 (((a+(b-a) / 4*2:Nat):Int)+1)=((a+(b-a) / 4*2+1:Nat):Int):=Zbo (by omega) (by omega)
   simp only[e1,e2,e3,e4,e7,ZjM,decide_eq_false (show ¬i0+2+1≤a+(b-a) / 4*2+1 by omega),cond_false]
 ·rw[decide_eq_false (show ¬(8:Int)≤((b-a:Nat):Int) by omega),if_neg h8]
  exact⟨rfl,hd,rfl⟩
abbrev ZCl:=Int×Int×Int×Bool×Bool×List Int
noncomputable def Zxn (e:Int→Int→Option Int) (rc:Int→Int→Int→(Int→Int→Option Int)→List Int→Option (List Int)) (a b limit pivot:Int) (x5:List Int):Option (ZCl⊕List Int):=
 (Zu a b pivot e x5).bind fun x9=>
 match x9 with
 | .inl x9=>
  bif decide (w64 (x9.1-a)<w64 (b-x9.1)) then
   bif decide (w64 (Int.tdiv (w64 (b-a)) 8)≤w64 (x9.1-a)) then (rc a x9.1 limit e x9.2).bind fun x10=>some (.inl (w64 (x9.1+1),b,limit,true,true,x10))
   else (rc a x9.1 limit e x9.2).bind fun x10=>some (.inl (w64 (x9.1+1),b,limit,false,true,x10))
  else
   bif decide (w64 (Int.tdiv (w64 (b-a)) 8)≤w64 (b-x9.1)) then (rc (w64 (x9.1+1)) b limit e x9.2).bind fun x10=>some (.inl (a,x9.1,limit,true,true,x10))
   else (rc (w64 (x9.1+1)) b limit e x9.2).bind fun x10=>some (.inl (a,x9.1,limit,false,true,x10))
 | .inr x9=>
  bif decide (w64 (x9.1-a)<w64 (b-x9.1)) then
   bif decide (w64 (Int.tdiv (w64 (b-a)) 8)≤w64 (x9.1-a)) then (rc a x9.1 limit e x9.2).bind fun x10=>some (.inl (w64 (x9.1+1),b,limit,true,false,x10))
   else (rc a x9.1 limit e x9.2).bind fun x10=>some (.inl (w64 (x9.1+1),b,limit,false,false,x10))
  else
   bif decide (w64 (Int.tdiv (w64 (b-a)) 8)≤w64 (b-x9.1)) then (rc (w64 (x9.1+1)) b limit e x9.2).bind fun x10=>some (.inl (a,x9.1,limit,true,false,x10))
   else (rc (w64 (x9.1+1)) b limit e x9.2).bind fun x10=>some (.inl (a,x9.1,limit,false,false,x10))
noncomputable def Zqs (e:Int→Int→Option Int) (rc:Int→Int→Int→(Int→Int→Option Int)→List Int→Option (List Int)) (a b limit pivot:Int) (wb wp:Bool) (x5:List Int):Option (ZCl⊕List Int):=
 bif decide (0<a) then
  (Zx x5 (w64 (a-1))).bind fun x6=>(Zx x5 pivot).bind fun x7=>(e x6 x7).bind fun x8=>
  bif decide (x8<0) then Zxn e rc a b limit pivot x5
  else (ZF a b pivot e x5).bind fun x18=>some (.inl (x18.1,b,limit,wb,wp,x18.2))
 else Zxn e rc a b limit pivot x5
theorem Zts (e:Int→Int→Option Int) (rc:Int→Int→Int→(Int→Int→Option Int)→List Int→Option (List Int)) (a b limit:Int) (wb wp:Bool) (l:List Int):Z0 e rc (a,b,limit,wb,wp,l) =
  (bif decide (w64 (b-a)≤12) then (Z7 a b e l).bind fun x=>some (.inr x)
  else bif limit==0 then (Zal a b e l).bind fun x=>some (.inr x)
  else (bif wb then bif wp then
    (ZY a b e l).bind fun x3=>
    bif x3.2==2 then (ZT a b e l).bind fun x4=>(ZU a b e x4).bind fun x5=>(match x5 with | .inl x5=>some (.inr x5) | .inr x5=>Zqs e rc a b limit (w64 (w64 (b-1)-w64 (x3.1-a))) true true x5)
    else bif x3.2==1 then (ZU a b e l).bind fun x5=>(match x5 with | .inl x5=>some (.inr x5) | .inr x5=>Zqs e rc a b limit x3.1 true true x5)
    else Zqs e rc a b limit x3.1 true true l
   else
    (ZY a b e l).bind fun x3=>
    bif x3.2==2 then (ZT a b e l).bind fun x4=>Zqs e rc a b limit (w64 (w64 (b-1)-w64 (x3.1-a))) true false x4
    else Zqs e rc a b limit x3.1 true false l
  else
   (Zan a b e l).bind fun x0=>(ZY a b e x0).bind fun x3=>
    bif x3.2==2 then (ZT a b e x0).bind fun x4=>Zqs e rc a b (w64 (limit-1)) (w64 (w64 (b-1)-w64 (x3.1-a))) false wp x4
    else Zqs e rc a b (w64 (limit-1)) x3.1 false wp x0)):=by
 cases wb<;>cases wp<;>rfl
noncomputable def after (e:Int→Int→Option Int) (rc:Int→Int→Int→(Int→Int→Option Int)→List Int→Option (List Int)) (x:Option (ZCl⊕List Int)):Option (List Int):=
 match x with | some (.inl s')=>lp (Z0 e rc) s' | some (.inr r)=>some r | none=>none
theorem Zy8 (e:Int→Int→Option Int) (rc:Int→Int→Int→(Int→Int→Option Int)→List Int→Option (List Int)) (s:ZCl):lp (Z0 e rc) s=after e rc (Z0 e rc s):=by
 rw[Zbz]
 unfold after
 cases Z0 e rc s with
 | none=>rfl
 | some t=>cases t<;>rfl
def Res (P:Int→Prop) (r:Option (List Int)) (X:Array Int) (n:Nat):Prop:=r=some X.toList∧OKA P X∧X.size=n
section
variable {cmp:Int→Int→Option Int} {c:Int→Int→Int} {P:Int→Prop} (hc:Zty cmp c P) (hs:SWO (ltC c))
include hc hs
def ZrS (cmp:Int→Int→Option Int) (c:Int→Int→Int) (P:Int→Prop) (rc:Int→Int→Int→(Int→Int→Option Int)→List Int→Option (List Int)) (k:Nat):Prop:=
 ∀(a b limit:Nat) (wb wp:Bool) (d:Array Int),b-a≤k→a≤b→b≤d.size→OKA P d→limit≤1000 →
  Res P (rc (a:Int) (b:Int) (limit:Int) cmp d.toList) (pdq (ltC c) d a b limit true true) d.size ∧
  Res P (lp (Z0 cmp rc) ((a:Int),(b:Int),(limit:Int),wb,wp,d.toList)) (pdq (ltC c) d a b limit wb wp) d.size
theorem ZwR {rc:Int→Int→Int→(Int→Int→Option Int)→List Int→Option (List Int)}{k:Nat} (ih:ZrS cmp c P rc k) (a b limit pivot:Nat) (d:Array Int) (hk:b-a≤k+1) (h1:a≤pivot) (h2:pivot<b) (hb:b≤d.size) (hd:OKA P d) (hl:limit≤1000) :
  Res P (after cmp rc (Zxn cmp rc (a:Int) (b:Int) (limit:Int) (pivot:Int) d.toList)) (match partition (ltC c) d a b pivot with
   | (mid,alreadyPartitioned,d4)=>
    if _h:a≤mid∧mid<b then
     if mid-a<b-mid then pdq (ltC c) (pdq (ltC c) d4 a mid limit true true) (mid+1) b limit (decide (mid-a ≥ (b-a) / 8)) alreadyPartitioned
     else pdq (ltC c) (pdq (ltC c) d4 (mid+1) b limit true true) a mid limit (decide (b-mid ≥ (b-a) / 8)) alreadyPartitioned
    else d4) d.size:=by
 have hz:=hd.sz
 obtain⟨p1,p2,p3⟩:=ZCD hc a b pivot d h1 h2 hb hd
 obtain⟨r1,r2,_⟩:=partition_holds (ltC c) hs d a b pivot h1 h2 hb
 unfold Zxn
 rw[p1]
 generalize partition (ltC c) d a b pivot=q at *
 obtain⟨mid,ap,d4⟩:=q
 dsimp only at *
 rw[dif_pos ⟨r1,r2⟩]
 have e1:w64 ((mid:Int)-(a:Int))=((mid-a:Nat):Int):=Zbo (by omega) (by omega)
 have e2:w64 ((b:Int)-(mid:Int))=((b-mid:Nat):Int):=Zbo (by omega) (by omega)
 have e3:w64 ((b:Int)-(a:Int))=((b-a:Nat):Int):=Zbo (by omega) (by omega)
 have e4:w64 (Int.tdiv ((b-a:Nat):Int) 8)=(((b-a) / 8:Nat):Int):=by
  rw[Int.tdiv_eq_ediv_of_nonneg (by omega)]
  exact Zbo (by omega) (by omega)
 have e5:w64 ((mid:Int)+1)=((mid+1:Nat):Int):=Zbo (by omega) (by omega)
 by_cases hlt:mid-a<b-mid
 ·obtain⟨⟨u1,u2,u3⟩,_⟩:=ih a mid limit true true d4 (by omega) r1 (by omega) p2 hl
  rw[if_pos hlt]
  by_cases ht:mid-a ≥ (b-a) / 8
  ·obtain⟨_,v1,v2,v3⟩:=ih (mid+1) b limit true ap (pdq (ltC c) d4 a mid limit true true) (by omega) (by omega) (by omega) u2 hl
   rw[decide_eq_true ht]
   refine⟨?_,v2,by omega⟩
   cases ap<;>simp only[cond_true,cond_false,Option.bind_some,e1,e2,e3,e4,e5,ZiN,ZjM,decide_eq_true hlt,decide_eq_true (show(b-a) / 8≤mid-a from ht),u1,after]<;>exact v1
  ·obtain⟨_,v1,v2,v3⟩:=ih (mid+1) b limit false ap (pdq (ltC c) d4 a mid limit true true) (by omega) (by omega) (by omega) u2 hl
   rw[decide_eq_false ht]
   refine⟨?_,v2,by omega⟩
   cases ap<;>simp only[cond_true,cond_false,Option.bind_some,e1,e2,e3,e4,e5,ZiN,ZjM,decide_eq_true hlt,decide_eq_false (show ¬(b-a) / 8≤mid-a from ht),u1,after]<;>exact v1
 ·obtain⟨⟨u1,u2,u3⟩,_⟩:=ih (mid+1) b limit true true d4 (by omega) (by omega) (by omega) p2 hl
  rw[if_neg hlt]
  by_cases ht:b-mid ≥ (b-a) / 8
  ·obtain⟨_,v1,v2,v3⟩:=ih a mid limit true ap (pdq (ltC c) d4 (mid+1) b limit true true) (by omega) r1 (by omega) u2 hl
   rw[decide_eq_true ht]
   refine⟨?_,v2,by omega⟩
   cases ap<;>simp only[cond_true,cond_false,Option.bind_some,e1,e2,e3,e4,e5,ZiN,ZjM,decide_eq_false hlt,decide_eq_true (show(b-a) / 8≤b-mid from ht),u1,after]<;>exact v1
  ·obtain⟨_,v1,v2,v3⟩:=ih a mid limit false ap (pdq (ltC c) d4 (mid+1) b limit true true) (by omega) r1 (by omega) u2 hl
   rw[decide_eq_false ht]
   refine⟨?_,v2,by omega⟩
   cases ap<;>simp only[cond_true,cond_false,Option.bind_some,e1,e2,e3,e4,e5,ZiN,ZjM,decide_eq_false hlt,decide_eq_false (show ¬(b-a) / 8≤b-mid from ht),u1,after]<;>exact v1
theorem Zg8 {rc:Int→Int→Int→(Int→Int→Option Int)→List Int→Option (List Int)}{k:Nat} (ih:ZrS cmp c P rc k) (a b limit pivot:Nat) (wb wp:Bool) (d:Array Int) (hk:b-a≤k+1) (h1:a≤pivot) (h2:pivot<b) (hb:b≤d.size) (hd:OKA P d) (hl:limit≤1000) :
  Res P (after cmp rc (Zqs cmp rc (a:Int) (b:Int) (limit:Int) (pivot:Int) wb wp d.toList)) (if (decide (a > 0) && !ltC c d[a-1]! d[pivot]!)=true then
    match partitionEqual (ltC c) d a b pivot with
    | (mid,d4)=>if _h:a<mid∧mid≤b then pdq (ltC c) d4 mid b limit wb wp else d4
   else
    match partition (ltC c) d a b pivot with
    | (mid,alreadyPartitioned,d4)=>
     if _h:a≤mid∧mid<b then
      if mid-a<b-mid then pdq (ltC c) (pdq (ltC c) d4 a mid limit true true) (mid+1) b limit (decide (mid-a ≥ (b-a) / 8)) alreadyPartitioned
      else pdq (ltC c) (pdq (ltC c) d4 (mid+1) b limit true true) a mid limit (decide (b-mid ≥ (b-a) / 8)) alreadyPartitioned
     else d4) d.size:=by
 have hz:=hd.sz
 have pa:=ZwR hc hs ih a b limit pivot d hk h1 h2 hb hd hl
 have ip:pivot<d.size:=by omega
 unfold Zqs
 by_cases ha:0<a
 ·have ia:a-1<d.size:=by omega
  have e1:w64 ((a:Int)-1)=((a-1:Nat):Int):=Zbo (by omega) (by omega)
  have e3:=hc _ _ (hd.el _ ia) (hd.el _ ip)
  simp only[decide_eq_true (show(0:Int)<(a:Int) by omega),cond_true,e1,ZcC ia,ZcC ip,Option.bind_some,e3]
  by_cases h:c d[a-1]! d[pivot]! < 0
  ·rw[decide_eq_true h,if_neg (by simp[ltC,h])]
   exact pa
  ·rw[decide_eq_false h,if_pos (by simp[ltC,h,ha])]
   obtain⟨q1,q2,q3,q4,q5⟩:=ZBw hc a b pivot d h1 h2 hb hd
   generalize partitionEqual (ltC c) d a b pivot=q at *
   obtain⟨mid,d4⟩:=q
   dsimp only at *
   rw[dif_pos ⟨q4,q5⟩]
   obtain⟨_,v1,v2,v3⟩:=ih mid b limit wb wp d4 (by omega) q5 (by omega) q2 hl
   simp only[cond_false,q1,Option.bind_some,after]
   exact⟨v1,v2,by omega⟩
 ·rw[if_neg (by simp[ha])]
  simp only[decide_eq_false (show ¬(0:Int)<(a:Int) by omega),cond_false]
  exact pa
theorem ZtT {rc:Int→Int→Int→(Int→Int→Option Int)→List Int→Option (List Int)}{k:Nat} (ih:ZrS cmp c P rc k) (a b limit:Nat) (wb wp:Bool) (d:Array Int) (hk:b-a≤k+1) (hab:a≤b) (hb:b≤d.size) (hd:OKA P d) (hl:limit≤1000) :
  Res P (lp (Z0 cmp rc) ((a:Int),(b:Int),(limit:Int),wb,wp,d.toList)) (pdq (ltC c) d a b limit wb wp) d.size:=by
 have hz:=hd.sz
 have e1:w64 ((b:Int)-(a:Int))=((b-a:Nat):Int):=Zbo (by omega) (by omega)
 rw[Zy8,Zts,pdq,e1]
 by_cases h12:b-a≤12
 ·obtain⟨q1,q2,q3⟩:=ZDd hc a b d hb hab hd
  rw[decide_eq_true (show((b-a:Nat):Int)≤12 by omega),if_pos h12]
  simp only[cond_true,q1,Option.bind_some,after]
  exact⟨rfl,q2,q3⟩
 rw[decide_eq_false (show ¬((b-a:Nat):Int)≤12 by omega),if_neg h12]
 by_cases h0:limit=0
 ·obtain⟨q1,q2,q3⟩:=ZEd hc a b d hab hb hd
  rw[show((limit:Int)==0)=true by simp[h0],if_pos h0]
  simp only[cond_false,cond_true,q1,Option.bind_some,after]
  exact⟨rfl,q2,q3⟩
 rw[show((limit:Int)==0)=false by simpa using (show ¬(limit:Int)=0 by omega),if_neg h0]
 have hl2:∀x:Nat,(Ztc Hint.unknown==2)=false∧(Ztc Hint.unknown==1)=false∧(Ztc Hint.increasing==2)=false∧(Ztc Hint.increasing==1)=true∧(Ztc Hint.decreasing==2)=true:=fun _=>⟨rfl,rfl,rfl,rfl,rfl⟩
 obtain⟨g1,g2,g3,g4,g5⟩:=hl2 0
 have rp:∀p:Nat,a≤p→p<b→w64 (w64 ((b:Int)-1)-w64 ((p:Int)-(a:Int)))=(((b-1)-(p-a):Nat):Int):=fun p h1 h2=>by
  have x1:w64 ((b:Int)-1)=((b-1:Nat):Int):=Zbo (by omega) (by omega)
  have x2:w64 ((p:Int)-(a:Int))=((p-a:Nat):Int):=Zbo (by omega) (by omega)
  rw[x1,x2]
  exact Zbo (by omega) (by omega)
 cases wb with
 | true=>
  have pv:=ZDh hc a b d (by omega) hb hd
  have pr:=choosePivot_holds (ltC c) d a b (by omega)
  simp only[cond_false,cond_true,Bool.not_true,Bool.false_eq_true,if_false,Bool.true_and]
  generalize choosePivot (ltC c) d a b=cp at *
  obtain⟨p,h⟩:=cp
  dsimp only at *
  cases wp with
  | true=>
   simp only[cond_true,pv,Option.bind_some]
   cases h with
   | decreasing=>
    obtain⟨v1,v2,v3⟩:=ZA1 (P:=P) cmp a b d (by omega) hb hd
    obtain⟨w1,w2,w3⟩:=ZDi hc a b (reverseRange d a b) (by omega) (by omega) v2
    simp only[g5,cond_true,v1,Option.bind_some,w1,if_true,decide_true,Bool.and_self]
    generalize partialInsertionSort (ltC c) (reverseRange d a b) a b=pi at *
    obtain⟨d3,fin⟩:=pi
    dsimp only at *
    cases fin with
    | true=>exact⟨rfl,w2,w3.trans v3⟩
    | false=>
     rw[rp p pr.1 pr.2]
     have:=Zg8 hc hs ih a b limit ((b-1)-(p-a)) true true d3 hk (by omega) (by omega) (by omega) w2 hl
     rw[show d3.size=d.size by omega] at this
     exact this
   | increasing=>
    obtain⟨w1,w2,w3⟩:=ZDi hc a b d (by omega) hb hd
    simp only[g3,g4,cond_true,cond_false,w1,Option.bind_some,reduceCtorEq,if_false,if_true,decide_true,Bool.and_self]
    generalize partialInsertionSort (ltC c) d a b=pi at *
    obtain⟨d3,fin⟩:=pi
    dsimp only at *
    cases fin with
    | true=>exact⟨rfl,w2,w3⟩
    | false=>
     have:=Zg8 hc hs ih a b limit p true true d3 hk pr.1 pr.2 (by omega) w2 hl
     rw[show d3.size=d.size by omega] at this
     exact this
   | unknown=>
    simp only[g1,g2,cond_false,reduceCtorEq,if_false,decide_false,Bool.and_false,Bool.false_eq_true]
    exact Zg8 hc hs ih a b limit p true true d hk pr.1 pr.2 hb hd hl
  | false=>
   simp only[cond_false,pv,Option.bind_some,Bool.false_and,Bool.false_eq_true,if_false]
   cases h with
   | decreasing=>
    obtain⟨v1,v2,v3⟩:=ZA1 (P:=P) cmp a b d (by omega) hb hd
    simp only[g5,cond_true,v1,Option.bind_some,if_true]
    rw[rp p pr.1 pr.2]
    have:=Zg8 hc hs ih a b limit ((b-1)-(p-a)) true false (reverseRange d a b) hk (by omega) (by omega) (by omega) v2 hl
    rw[v3] at this
    exact this
   | increasing=>
    simp only[g3,cond_false,reduceCtorEq,if_false]
    exact Zg8 hc hs ih a b limit p true false d hk pr.1 pr.2 hb hd hl
   | unknown=>
    simp only[g1,cond_false,reduceCtorEq,if_false]
    exact Zg8 hc hs ih a b limit p true false d hk pr.1 pr.2 hb hd hl
 | false=>
  obtain⟨b1,b2,b3⟩:=ZHk (P:=P) cmp a b d hab hb hd
  have pv:=ZDh hc a b (breakPatterns d a b) (by omega) (by omega) b2
  have pr:=choosePivot_holds (ltC c) (breakPatterns d a b) a b (by omega)
  have el:w64 ((limit:Int)-1)=((limit-1:Nat):Int):=Zbo (by omega) (by omega)
  simp only[cond_false,b1,Option.bind_some,pv,Bool.not_false,if_true,Bool.false_and,Bool.false_eq_true,if_false,el]
  generalize choosePivot (ltC c) (breakPatterns d a b) a b=cp at *
  obtain⟨p,h⟩:=cp
  dsimp only at *
  cases h with
  | decreasing=>
   obtain⟨v1,v2,v3⟩:=ZA1 (P:=P) cmp a b (breakPatterns d a b) (by omega) (by omega) b2
   simp only[g5,cond_true,v1,Option.bind_some,if_true]
   rw[rp p pr.1 pr.2]
   have:=Zg8 hc hs ih a b (limit-1) ((b-1)-(p-a)) false wp (reverseRange (breakPatterns d a b) a b) hk (by omega) (by omega) (by omega) v2 (by omega)
   rw[v3,b3] at this
   exact this
  | increasing=>
   simp only[g3,cond_false,reduceCtorEq,if_false]
   have:=Zg8 hc hs ih a b (limit-1) p false wp (breakPatterns d a b) hk pr.1 pr.2 (by omega) b2 (by omega)
   rw[b3] at this
   exact this
  | unknown=>
   simp only[g1,cond_false,reduceCtorEq,if_false]
   have:=Zg8 hc hs ih a b (limit-1) p false wp (breakPatterns d a b) hk pr.1 pr.2 (by omega) b2 (by omega)
   rw[b3] at this
   exact this
theorem ZCO:∀(k m:Nat),k≤m→ZrS cmp c P (Z4 (m+1)) k:=by
 intro k
 induction k with
 | zero=>
  intro m hm
  have base:∀(rc:Int→Int→Int→(Int→Int→Option Int)→List Int→Option (List Int)) (a b limit:Nat) (wb wp:Bool) (d:Array Int),b-a≤0→a≤b→b≤d.size→OKA P d→Res P (lp (Z0 cmp rc) ((a:Int),(b:Int),(limit:Int),wb,wp,d.toList)) (pdq (ltC c) d a b limit wb wp) d.size:=by
   intro rc a b limit wb wp d hk hab hb hd
   have hz:=hd.sz
   have e1:w64 ((b:Int)-(a:Int))=((b-a:Nat):Int):=Zbo (by omega) (by omega)
   obtain⟨q1,q2,q3⟩:=ZDd hc a b d hb hab hd
   rw[Zbz,Zts,pdq,e1,decide_eq_true (show((b-a:Nat):Int)≤12 by omega),if_pos (by omega)]
   simp only[cond_true,q1,Option.bind_some]
   exact⟨rfl,q2,q3⟩
  intro a b limit wb wp d hk hab hb hd hl
  refine⟨?_,base _ a b limit wb wp d hk hab hb hd⟩
  obtain⟨r1,r2⟩:=base (Z4 m) a b limit true true d hk hab hb hd
  refine⟨?_,r2⟩
  show ZaM (Z4 m) (a:Int) (b:Int) (limit:Int) cmp d.toList=_
  unfold ZaM
  rw[r1];rfl
 | succ k ih=>
  intro m hm a b limit wb wp d hk hab hb hd hl
  refine⟨?_,ZtT hc hs (ih m (by omega)) a b limit wb wp d hk hab hb hd hl⟩
  obtain⟨m',rfl⟩:∃m',m=m'+1:=⟨m-1,by omega⟩
  obtain⟨r1,r2⟩:=ZtT hc hs (ih m' (by omega)) a b limit true true d hk hab hb hd hl
  refine⟨?_,r2⟩
  show ZaM (Z4 (m'+1)) (a:Int) (b:Int) (limit:Int) cmp d.toList=_
  unfold ZaM
  rw[r1];rfl
theorem ZCG (l:List Int) (hl:l.length≤1000) (hP:∀x∈l,P x):ZaW cmp l=some (Sort.sort (ltC c) l.toArray).toList:=by
 have hd:OKA P l.toArray:=⟨fun i hi=>by
  have hi':i<l.length:=by simpa using hi
  rw[getElem!_pos l.toArray i hi]
  simpa using hP _ (List.getElem_mem hi'),by simpa using hl⟩
 obtain⟨l1,_,_⟩:=ZAC hl
 have hbl:bitsLen l.length≤1000:=by
  unfold bitsLen
  split
  ·omega
  ·have:Nat.log2 l.length<11:=(Nat.log2_lt (by assumption)).2 (by omega)
   omega
 have key:∀n,l.length+1≤n→Z4 n 0 (l.length:Int) (bitsLen l.length:Int) cmp l=some (Sort.sort (ltC c) l.toArray).toList:=by
  intro n hn
  obtain⟨m,rfl⟩:∃m,n=m+1:=⟨n-1,by omega⟩
  obtain⟨⟨r1,_⟩,_⟩:=ZCO hc hs l.length m (by omega) 0 l.length (bitsLen l.length) true true l.toArray (by omega) (by omega) (by simp) hd hbl
  refine(r1:Z4 (m+1) 0 (l.length:Int) (bitsLen l.length:Int) cmp l=_).trans ?_
  unfold Sort.sort
  rw[List.size_toArray]
 unfold ZaW ZdC
 rw[l1,Option.bind_some,ZB5 key]
 rfl
theorem ZAZ (l:List Int) (hl:l.length≤1000) (hP:∀x∈l,P x):∃r:List Int,ZaW cmp l=some r∧r.Perm l∧r.Pairwise (fun x y=>ltC c y x=false):=by
 refine⟨_,ZCG hc hs l hl hP,?_⟩
 obtain⟨⟨h1,_,h2⟩,h3⟩:=sort_sorts (ltC c) hs l.toArray
 generalize Sort.sort (ltC c) l.toArray=d at *
 constructor
 ·have e1:d.extract 0 l.toArray.size=d:=by rw[← h1];simp
  rw[e1] at h2
  simpa using h2
 ·rw[List.pairwise_iff_getElem]
  intro i j hi hj hij
  have hj':j<d.size:=by simpa using hj
  have hi':i<d.size:=by omega
  have:=h3 i j (Nat.zero_le _) hij (by omega)
  rw[getElem!_pos d j hj',getElem!_pos d i hi'] at this
  simpa using this
end
end Go.Proofs.YtnpidpcmpleiaaaGreatDoor
