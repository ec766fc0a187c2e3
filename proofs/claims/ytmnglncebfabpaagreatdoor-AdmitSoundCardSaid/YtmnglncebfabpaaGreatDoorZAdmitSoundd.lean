/- AdmitSound: part 4 of 6 of the proof. -/
import Derived.Test.YtmnglncebfabpaaGreatDoorZAdmitSoundc
import Derived.KernelRfl
import Derived.Sort.AssemblyPlain
set_option maxRecDepth 100000
set_option maxHeartbeats 40000000
set_option linter.unusedVariables false
set_option linter.unusedSimpArgs false
namespace Go.Proofs.YtmnglncebfabpaaGreatDoor
open Go Go.Proofs.YtmnglncebfabpaaGreatDoorE
open Go.IntKind (u64 i64 u32 i32 u8)
noncomputable section
structure Zf where
 total:Int
 long:Int
 most:Int
 deadline:Int
 period:Int
 deriving DecidableEq
abbrev Zp (x:Zf):D:=(D.agg [(Zm x.total),(Zm x.long),(Zm x.most),(Zm x.deadline),(Zm x.period)])
structure Zan where
 shapes:(List Zf)
 cores:(List (List Int))
 deriving DecidableEq
structure Zbh where
 work:(List Int)
 edges:(List Zs)
 deriving DecidableEq
structure Zg where
 part:Int
 step:Int
 deriving DecidableEq
abbrev ZbS (x:Zg):D:=(D.agg [(Zm x.part),(Zm x.step)])
structure ZyO where
 dag:Zbh
 pieces:(List Zg)
 deriving DecidableEq
structure ZvU where
 shape:Zf
 deriving DecidableEq
structure Zhm where
 cores:Int
 e:Int
 deriving DecidableEq
structure ZqQ where
 shape:Zf
 deriving DecidableEq
def Zxh:ByteArray:=⟨#[0,1,2,2,3,3,3,3,4,4,4,4,4,4,4,4,5,5,5,5,5,5,5,5,5,5,5,5,5,5,5,5,6,6,6,6,6,6,6,6,6,6,6,6,6,6,6,6,6,6,6,6,6,6,6,6,6,6,6,6,6,6,6,6,7,7,7,7,7,7,7,7,7,7,7,7,7,7,7,7,7,7,7,7,7,7,7,7,7,7,7,7,7,7,7,7,7,7,7,7,7,7,7,7,7,7,7,7,7,7,7,7,7,7,7,7,7,7,7,7,7,7,7,7,7,7,7,7,8,8,8,8,8,8,8,8,8,8,8,8,8,8,8,8,8,8,8,8,8,8,8,8,8,8,8,8,8,8,8,8,8,8,8,8,8,8,8,8,8,8,8,8,8,8,8,8,8,8,8,8,8,8,8,8,8,8,8,8,8,8,8,8,8,8,8,8,8,8,8,8,8,8,8,8,8,8,8,8,8,8,8,8,8,8,8,8,8,8,8,8,8,8,8,8,8,8,8,8,8,8,8,8,8,8,8,8,8,8,8,8,8,8,8,8,8,8,8,8,8,8,8,8,8,8,8,8]⟩
abbrev dA (t0 t1 t2 t3:Bool) (a:Zq):List D:=[(Zm a.period),(Zm a.deadline),(D.list t0 (List.map ZjY a.parts)),(D.list t1 (List.map ZaV a.edges)),(D.list t2 (List.map Z2 a.futures)),(D.list t3 (List.map Zde a.barriers))]
abbrev dV (t0 t1 t2 t3:Bool) (a:Zq):List V:=[(.d (Zm a.period)),(.d (Zm a.deadline)),(.d (D.list t0 (List.map ZjY a.parts))),(.d (D.list t1 (List.map ZaV a.edges))),(.d (D.list t2 (List.map Z2 a.futures))),(.d (D.list t3 (List.map Zde a.barriers)))]
def Zht:Option Bool:=some true
def ZgG (a:Zq) (s0:Int):Option (Int⊕(Unit⊕Unit)):=
 bif (decide (s0<(a.barriers.length:Int))) then
  bif (decide (s0<9)) then
   (Zz a.barriers s0).bind fun x1=>
   bif (decide (20<(x1.ins.length:Int))) then
    some (.inr (.inl ()))
   else
    bif (decide (20<(x1.outs.length:Int))) then
     some (.inr (.inl ()))
    else
     some (.inl (w64 (s0+1)))
  else
   some (.inr (.inr ()))
 else
  some (.inr (.inr ()))
def ZkK (a:Zq):Option Bool:=
 (lp (ZgG a) 0).bind fun r2=>
 match r2 with
 | (.inl r2)=>
  some false
 | (.inr r2)=>
  bif (decide ((a.parts.length:Int)<=20)) then
   bif (decide ((a.edges.length:Int)<=60)) then
    bif (decide ((a.futures.length:Int)<=20)) then
     bif (decide ((a.barriers.length:Int)<=8)) then
      some true
     else
      some false
    else
     some false
   else
    some false
  else
   some false
def ZcO (a:List Zq) (s0:Int):Option (Int⊕(Unit⊕Unit)):=
 bif (decide (s0<(a.length:Int))) then
  bif (decide (s0<13)) then
   (Zz a s0).bind fun x1=>
   (ZkK x1).bind fun x2=>
   bif x2 then
    some (.inl (w64 (s0+1)))
   else
    some (.inr (.inl ()))
  else
   some (.inr (.inr ()))
 else
  some (.inr (.inr ()))
def ZkI (a:List Zq):Option Bool:=
 (lp (ZcO a) 0).bind fun r3=>
 match r3 with
 | (.inl r3)=>
  some false
 | (.inr r3)=>
  bif (decide ((a.length:Int)<=12)) then
   some true
  else
   some false
def ZfJ (a:Zq) (s0:Int×(List Zu)):Option ((Int×(List Zu))⊕(List Zu)):=
 bif (decide (s0.1<(a.barriers.length:Int))) then
  (Zz a.barriers s0.1).bind fun x1=>
  bif (Nat.ble (List.length x1.ins) lim) then
   bif (Nat.ble (List.length x1.outs) lim) then
    bif (Nat.ble (List.length s0.2+1) lim) then
     some (.inl ((w64 (s0.1+1)),(s0.2++[x1])))
    else
     none
   else
    none
  else
   none
 else
  some (.inr s0.2)
def ZkS (a:Zq):Option (List Zu):=
 bif (Nat.ble (List.length a.parts) lim) then
  bif (Nat.ble (List.length a.edges) lim) then
   bif (Nat.ble (List.length a.futures) lim) then
    (lp (ZfJ a) (0,([]:List Zu))).bind fun r2=>
    some r2
   else
    none
  else
   none
 else
  none
def ZfS (a:List Zq) (s0:Int×(List Zq)):Option ((Int×(List Zq))⊕(List Zq)):=
 bif (decide (s0.1<(a.length:Int))) then
  (Zz a s0.1).bind fun x1=>
  (ZkS x1).bind fun x2=>
  bif (Nat.ble (List.length s0.2+1) lim) then
   some (.inl ((w64 (s0.1+1)),(s0.2++[(Zq.mk x1.period x1.deadline x1.parts x1.edges x1.futures x2)])))
  else
   none
 else
  some (.inr s0.2)
def ZkV (a:List Zq):Option (List Zq):=
 (lp (ZfS a) (0,([]:List Zq))).bind fun r3=>
 some r3
def ZbY (a:Int) (b:Int) (c:Int):Option Bool:=
 bif (decide (b<=a)) then
  bif (decide (a<=c)) then
   some true
  else
   some false
 else
  some false
def ZhL (a:Int):Option Int:=
 bif (decide (a<0)) then
  some 10
 else
  bif (decide (1099511627775<a)) then
   some 11
  else
   some 0
abbrev oc0 (a:Int):Int:=(u64.wrap (Zr a &&& Zr 6148914691236517205).toNat)
abbrev oc1 (a:Int):Int:=(u64.wrap (Zr (Int.fdiv a (2 ^ 1)) &&& Zr 6148914691236517205).toNat)
abbrev oc2 (a:Int):Int:=(u64.wrap ((oc1 a)+(oc0 a)))
abbrev oc3 (a:Int):Int:=(Int.fdiv (oc2 a) (2 ^ 2))
abbrev oc4 (a:Int):Int:=(u64.wrap (Zr (oc3 a) &&& Zr 3689348814741910323).toNat)
abbrev oc5 (a:Int):Int:=(u64.wrap (Zr (oc2 a) &&& Zr 3689348814741910323).toNat)
abbrev oc6 (a:Int):Int:=(u64.wrap ((oc4 a)+(oc5 a)))
abbrev oc7 (a:Int):Int:=(Int.fdiv (oc6 a) (2 ^ 4))
abbrev oc8 (a:Int):Int:=(u64.wrap ((oc7 a)+(oc6 a)))
abbrev oc9 (a:Int):Int:=(u64.wrap (Zr (oc8 a) &&& Zr 1085102592571150095).toNat)
abbrev ZLb (a:Int):Int:=(Int.fdiv (oc9 a) (2 ^ 8))
abbrev ZJF (a:Int):Int:=(u64.wrap ((oc9 a)+(ZLb a)))
abbrev ZKY (a:Int):Int:=(Int.fdiv (ZJF a) (2 ^ 16))
abbrev ZJk (a:Int):Int:=(u64.wrap ((ZJF a)+(ZKY a)))
def Zdq (a:Int):Option Int:=
 some (i64.wrap (ZGE (w64 (u64.wrap ((ZJk a)+(Int.fdiv (ZJk a) (2 ^ 32))))) &&& ZGE 127).toNat)
def Zes (a:Int):Option Int:=
 (Zdq a).bind fun x0=>
 some x0
def Zw0:List Int:=[0,1,56,2,57,49,28,3,61,58,42,50,38,29,17,4,62,47,59,36,45,43,51,22,53,39,33,30,24,18,12,5,63,55,48,27,60,41,37,16,46,35,44,21,52,32,23,11,54,26,40,15,34,20,31,10,25,14,19,9,13,8,7,6]
def ZdN (a:Int):Option Int:=some (bif a==0 then 64 else w64 (Zw0.getD (Int.fdiv (u64.wrap ((u64.wrap (Zr a &&& Zr (u64.wrap (0-a))).toNat)*285870213051353865)) (2 ^ (min (Int.toNat 58) u64.bits))).toNat 0))
def ZeP (a:Int):Option Int:=
 (ZdN a).bind fun x0=>
 some x0
def Zlu (a:Int):Option (Int×Bool):=
 (ZhL a).bind fun x0=>
 bif (x0 != 0) then
  some (0,false)
 else
  (Zes (u64.wrap a)).bind fun x1=>
  bif (x1 != 1) then
   some (0,false)
  else
   (ZeP (u64.wrap a)).bind fun x2=>
   some (x2,true)
def ZgQ (a:Z3):Option Bool:=
 (ZbY a.op 0 5).bind fun x0=>
 bif x0 then
  (ZbY a.arg 0 2147483647).bind fun x1=>
  bif x1 then
   (ZbY a.work 1 100).bind fun x2=>
   bif x2 then
    some false
   else
    some true
  else
   some true
 else
  some true
def Zby (a:List Z3) (b:(Z3->Option Bool)) (s0:Int):Option (Int⊕(Int⊕Unit)):=
 bif (decide (s0<(a.length:Int))) then
  (Zz a s0).bind fun x1=>
  (b x1).bind fun x2=>
  bif x2 then
   some (.inr (.inl s0))
  else
   some (.inl (w64 (s0+1)))
 else
  some (.inr (.inr ()))
def Zc0 (a:List Z3) (b:(Z3->Option Bool)):Option Int:=
 (lp (Zby a b) 0).bind fun r3=>
 match r3 with
 | (.inl r3)=>
  some r3
 | (.inr r3)=>
  some (-1)
def Zbz (a:List Z3) (b:(Z3->Option Bool)):Option Bool:=
 (Zc0 a b).bind fun x0=>
 bif (decide (0<=x0)) then
  some true
 else
  some false
def Zj8 (a:Zq) (b:Int) (c:Int):Option Bool:=
 bif (b != c) then
  (ZbY b 0 (w64 ((a.parts.length:Int)-1))).bind fun x0=>
  bif x0 then
   (ZbY c 0 (w64 ((a.parts.length:Int)-1))).bind fun x1=>
   bif x1 then
    some true
   else
    some false
  else
   some false
 else
  some false
def Zcc (a:List Zs) (b:Zs) (s0:Int):Option (Int⊕(Int⊕Unit)):=
 bif (decide (s0<(a.length:Int))) then
  (Zz a s0).bind fun x1=>
  bif ((b.src==x1.src)&&((b.dst==x1.dst)&&true)) then
   some (.inr (.inl s0))
  else
   some (.inl (w64 (s0+1)))
 else
  some (.inr (.inr ()))
def Zed (a:List Zs) (b:Zs):Option Int:=
 (lp (Zcc a b) 0).bind fun r2=>
 match r2 with
 | (.inl r2)=>
  some r2
 | (.inr r2)=>
  some (-1)
def Zbp (a:List Zs) (b:Zs):Option Bool:=
 (Zed a b).bind fun x0=>
 bif (decide (0<=x0)) then
  some true
 else
  some false
def Zeo (a:Zj) (b1:Int) (b2:Int):Option Bool:=
 bif (a.user==b1) then
  bif (a.pos==b2) then
   some true
  else
   some false
 else
  some false
def Za6 (a:List Zj) (b:(Zj->Option Bool)) (s0:Int):Option (Int⊕(Int⊕Unit)):=
 bif (decide (s0<(a.length:Int))) then
  (Zz a s0).bind fun x1=>
  (b x1).bind fun x2=>
  bif x2 then
   some (.inr (.inl s0))
  else
   some (.inl (w64 (s0+1)))
 else
  some (.inr (.inr ()))
def Zcz (a:List Zj) (b:(Zj->Option Bool)):Option Int:=
 (lp (Za6 a b) 0).bind fun r3=>
 match r3 with
 | (.inl r3)=>
  some r3
 | (.inr r3)=>
  some (-1)
def Za7 (a:List Zj) (b:(Zj->Option Bool)):Option Bool:=
 (Zcz a b).bind fun x0=>
 bif (decide (0<=x0)) then
  some true
 else
  some false
def Zhq (a:Zq) (b:List Int) (s0:Int):Option (Int⊕(Unit⊕Unit)):=
 bif (decide (s0<(b.length:Int))) then
  (Zz b s0).bind fun x1=>
  (ZbY x1 0 (w64 ((a.parts.length:Int)-1))).bind fun x2=>
  bif x2 then
   bif (decide (0<s0)) then
    (Zz b (w64 (s0-1))).bind fun x3=>
    bif (decide (x1<=x3)) then
     some (.inr (.inl ()))
    else
     some (.inl (w64 (s0+1)))
   else
    some (.inl (w64 (s0+1)))
  else
   some (.inr (.inl ()))
 else
  some (.inr (.inr ()))
def Zj9 (a:Zq) (b:List Int):Option Bool:=
 (lp (Zhq a b) 0).bind fun r4=>
 match r4 with
 | (.inl r4)=>
  some false
 | (.inr r4)=>
  bif (decide (0<(b.length:Int))) then
   some true
  else
   some false
def ZcF (a:List Int) (b:Int) (s0:Int):Option (Int⊕(Int⊕Unit)):=
 bif (decide (s0<(a.length:Int))) then
  (Zz a s0).bind fun x1=>
  bif (b==x1) then
   some (.inr (.inl s0))
  else
   some (.inl (w64 (s0+1)))
 else
  some (.inr (.inr ()))
def Zfw (a:List Int) (b:Int):Option Int:=
 (lp (ZcF a b) 0).bind fun r2=>
 match r2 with
 | (.inl r2)=>
  some r2
 | (.inr r2)=>
  some (-1)
def Zas (a:List Int) (b:Int):Option Bool:=
 (Zfw a b).bind fun x0=>
 bif (decide (0<=x0)) then
  some true
 else
  some false
def Zeq (a:Int) (b1:List Int):Option Bool:=
 (Zas b1 a).bind fun x0=>
 bif x0 then
  some true
 else
  some false
def ZX (a:List Int) (b:(Int->Option Bool)) (s0:Int):Option (Int⊕(Int⊕Unit)):=
 bif (decide (s0<(a.length:Int))) then
  (Zz a s0).bind fun x1=>
  (b x1).bind fun x2=>
  bif x2 then
   some (.inr (.inl s0))
  else
   some (.inl (w64 (s0+1)))
 else
  some (.inr (.inr ()))
def ZaF (a:List Int) (b:(Int->Option Bool)):Option Int:=
 (lp (ZX a b) 0).bind fun r3=>
 match r3 with
 | (.inl r3)=>
  some r3
 | (.inr r3)=>
  some (-1)
def ZaK (a:List Int) (b:(Int->Option Bool)):Option Bool:=
 (ZaF a b).bind fun x0=>
 bif (decide (0<=x0)) then
  some true
 else
  some false
def Ze0 (a:Zq) (s4:Int):Option (Int⊕(Unit⊕Unit)):=
 bif (decide (s4<(a.edges.length:Int))) then
  (Zz a.edges s4).bind fun x5=>
  (Zj8 a x5.src x5.dst).bind fun x6=>
  bif x6 then
   bif (decide (0<=s4)) then
    bif (Nat.ble s4.toNat (List.length a.edges)) then
     (Zbp (List.take s4.toNat a.edges) x5).bind fun x7=>
     bif x7 then
      some (.inr (.inl ()))
     else
      some (.inl (w64 (s4+1)))
    else
     none
   else
    none
  else
   some (.inr (.inl ()))
 else
  some (.inr (.inr ()))
def Ze2 (a:Zq) (s9:Int):Option (Int⊕(Unit⊕Unit)):=
 bif (decide (s9<(a.futures.length:Int))) then
  (Zz a.futures s9).bind fun x10=>
  (Zj8 a x10.maker x10.user).bind fun x11=>
  bif x11 then
   (Zz a.parts x10.user).bind fun x12=>
   (ZbY x10.pos 1 (w64 (x12.work-1))).bind fun x13=>
   bif x13 then
    bif (decide (0<=s9)) then
     bif (Nat.ble s9.toNat (List.length a.futures)) then
      (Za7 (List.take s9.toNat a.futures) (fun z0=>Zeo z0 x10.user x10.pos)).bind fun x14=>
      bif x14 then
       some (.inr (.inl ()))
      else
       some (.inl (w64 (s9+1)))
     else
      none
    else
     none
   else
    some (.inr (.inl ()))
  else
   some (.inr (.inl ()))
 else
  some (.inr (.inr ()))
def Ze1 (a:Zq) (s16:Int):Option (Int⊕(Unit⊕Unit)):=
 bif (decide (s16<(a.barriers.length:Int))) then
  (Zz a.barriers s16).bind fun x17=>
  (Zj9 a x17.ins).bind fun x18=>
  bif x18 then
   (Zj9 a x17.outs).bind fun x19=>
   bif x19 then
    (ZaK x17.ins (fun z0=>Zeq z0 x17.outs)).bind fun x20=>
    bif x20 then
     some (.inr (.inl ()))
    else
     some (.inl (w64 (s16+1)))
   else
    some (.inr (.inl ()))
  else
   some (.inr (.inl ()))
 else
  some (.inr (.inr ()))
def Zh9 (a:Zq):Option Int:=
 (ZbY (a.parts.length:Int) 1 16).bind fun x0=>
 bif x0 then
  bif (decide (48<(a.edges.length:Int))) then
   some 50
  else
   bif (decide (16<(a.futures.length:Int))) then
    some 50
   else
    bif (decide (4<(a.barriers.length:Int))) then
     some 50
    else
     (Zlu a.period).bind fun x1=>
     bif x1.2 then
      bif (decide (4096<a.period)) then
       some 51
      else
       (ZbY a.deadline 1 a.period).bind fun x2=>
       bif x2 then
        (Zbz a.parts (fun z0=>ZgQ z0)).bind fun x3=>
        bif x3 then
         some 52
        else
         (lp (Ze0 a) 0).bind fun r8=>
         match r8 with
         | (.inl r8)=>
          some 53
         | (.inr r8)=>
          (lp (Ze2 a) 0).bind fun r15=>
          match r15 with
          | (.inl r15)=>
           some 54
          | (.inr r15)=>
           (lp (Ze1 a) 0).bind fun r21=>
           match r21 with
           | (.inl r21)=>
            some 55
           | (.inr r21)=>
            some 0
       else
        some 51
     else
      some 51
 else
  some 50
def Zv (a:Int) (b:Int) (c4:List Zj):Option Int:=
 (Zz c4 a).bind fun x0=>
 (Zz c4 b).bind fun x1=>
 some (w64 (x0.pos-x1.pos))
def Zk1 (a:Int):Option Int:=
 bif (decide (4294967296<=a)) then
  bif (decide (65536<=(Int.fdiv a (2 ^ 32)))) then
   bif (decide (256<=(Int.fdiv (Int.fdiv a (2 ^ 32)) (2 ^ 16)))) then
    bif (decide (0<=(u8.wrap (Int.fdiv (Int.fdiv (Int.fdiv a (2 ^ 32)) (2 ^ 16)) (2 ^ 8))))) then
     (Zxh[(u8.wrap (Int.fdiv (Int.fdiv (Int.fdiv a (2 ^ 32)) (2 ^ 16)) (2 ^ 8))).toNat]?).bind fun x0=>
     some (w64 (56+(w64 (x0.toNat:Int))))
    else
     none
   else
    bif (decide (0<=(u8.wrap (Int.fdiv (Int.fdiv a (2 ^ 32)) (2 ^ 16))))) then
     (Zxh[(u8.wrap (Int.fdiv (Int.fdiv a (2 ^ 32)) (2 ^ 16))).toNat]?).bind fun x1=>
     some (w64 (48+(w64 (x1.toNat:Int))))
    else
     none
  else
   bif (decide (256<=(Int.fdiv a (2 ^ 32)))) then
    bif (decide (0<=(u8.wrap (Int.fdiv (Int.fdiv a (2 ^ 32)) (2 ^ 8))))) then
     (Zxh[(u8.wrap (Int.fdiv (Int.fdiv a (2 ^ 32)) (2 ^ 8))).toNat]?).bind fun x2=>
     some (w64 (40+(w64 (x2.toNat:Int))))
    else
     none
   else
    bif (decide (0<=(u8.wrap (Int.fdiv a (2 ^ 32))))) then
     (Zxh[(u8.wrap (Int.fdiv a (2 ^ 32))).toNat]?).bind fun x3=>
     some (w64 (32+(w64 (x3.toNat:Int))))
    else
     none
 else
  bif (decide (65536<=a)) then
   bif (decide (256<=(Int.fdiv a (2 ^ 16)))) then
    bif (decide (0<=(u8.wrap (Int.fdiv (Int.fdiv a (2 ^ 16)) (2 ^ 8))))) then
     (Zxh[(u8.wrap (Int.fdiv (Int.fdiv a (2 ^ 16)) (2 ^ 8))).toNat]?).bind fun x4=>
     some (w64 (24+(w64 (x4.toNat:Int))))
    else
     none
   else
    bif (decide (0<=(u8.wrap (Int.fdiv a (2 ^ 16))))) then
     (Zxh[(u8.wrap (Int.fdiv a (2 ^ 16))).toNat]?).bind fun x5=>
     some (w64 (16+(w64 (x5.toNat:Int))))
    else
     none
  else
   bif (decide (256<=a)) then
    bif (decide (0<=(u8.wrap (Int.fdiv a (2 ^ 8))))) then
     (Zxh[(u8.wrap (Int.fdiv a (2 ^ 8))).toNat]?).bind fun x6=>
     some (w64 (8+(w64 (x6.toNat:Int))))
    else
     none
   else
    bif (decide (0<=(u8.wrap a))) then
     (Zxh[(u8.wrap a).toNat]?).bind fun x7=>
     some (w64 (0+(w64 (x7.toNat:Int))))
    else
     none
def Zgo (a:Int):Option Int:=
 (Zk1 a).bind fun x0=>
 some x0
def Z0 (b:Int) (d:(Int->Int->Option Int)) (s1:Int×(List Int)):Option ((Int×(List Int))⊕(List Int)):=
 bif (decide (b<s1.1)) then
  (Zz s1.2 s1.1).bind fun x2=>
  (Zz s1.2 (w64 (s1.1-1))).bind fun x3=>
  (d x2 x3).bind fun x4=>
  bif (decide (x4<0)) then
   (Zz (List.set s1.2 s1.1.toNat x3) (w64 (s1.1-1))).bind fun x5=>
   some (.inl ((w64 (s1.1-1)),(List.set (List.set s1.2 s1.1.toNat x3) (w64 (s1.1-1)).toNat x2)))
  else
   some (.inr s1.2)
 else
  some (.inr s1.2)
def Zam (b:Int) (c:Int) (d:(Int->Int->Option Int)) (s0:Int×(List Int)):Option ((Int×(List Int))⊕(List Int)):=
 bif (decide (s0.1<c)) then
  (lp (Z0 b d) (s0.1,s0.2)).bind fun r6=>
  some (.inl ((w64 (s0.1+1)),r6))
 else
  some (.inr s0.2)
def ZZ (b:Int) (c:Int) (d:(Int->Int->Option Int)) (mG:List Int):Option (List Int):=
 (lp (Zam b c d) ((w64 (b+1)),mG)).bind fun r7=>
 some r7
def ZK (c:Int) (d:Int) (e:(Int->Int->Option Int)) (s0:Int×(List Int)):Option ((Int×(List Int))⊕((List Int)⊕(List Int))):=
 bif (decide (c<=(w64 ((w64 (2*s0.1))+1)))) then
  some (.inr (.inl s0.2))
 else
  bif (decide ((w64 ((w64 ((w64 (2*s0.1))+1))+1))<c)) then
   (Zz s0.2 (w64 (d+(w64 ((w64 (2*s0.1))+1))))).bind fun x1=>
   (Zz s0.2 (w64 ((w64 (d+(w64 ((w64 (2*s0.1))+1))))+1))).bind fun x2=>
   (e x1 x2).bind fun x3=>
   bif (decide (x3<0)) then
    (Zz s0.2 (w64 (d+s0.1))).bind fun x4=>
    (Zz s0.2 (w64 (d+(w64 ((w64 ((w64 (2*s0.1))+1))+1))))).bind fun x5=>
    (e x4 x5).bind fun x6=>
    bif (decide (x6<0)) then
     (Zz (List.set s0.2 (w64 (d+s0.1)).toNat x5) (w64 (d+(w64 ((w64 ((w64 (2*s0.1))+1))+1))))).bind fun x7=>
     some (.inl ((w64 ((w64 ((w64 (2*s0.1))+1))+1)),(List.set (List.set s0.2 (w64 (d+s0.1)).toNat x5) (w64 (d+(w64 ((w64 ((w64 (2*s0.1))+1))+1)))).toNat x4)))
    else
     some (.inr (.inr s0.2))
   else
    (Zz s0.2 (w64 (d+s0.1))).bind fun x8=>
    (e x8 x1).bind fun x9=>
    bif (decide (x9<0)) then
     (Zz (List.set s0.2 (w64 (d+s0.1)).toNat x1) (w64 (d+(w64 ((w64 (2*s0.1))+1))))).bind fun x10=>
     some (.inl ((w64 ((w64 (2*s0.1))+1)),(List.set (List.set s0.2 (w64 (d+s0.1)).toNat x1) (w64 (d+(w64 ((w64 (2*s0.1))+1)))).toNat x8)))
    else
     some (.inr (.inr s0.2))
  else
   (Zz s0.2 (w64 (d+s0.1))).bind fun x11=>
   (Zz s0.2 (w64 (d+(w64 ((w64 (2*s0.1))+1))))).bind fun x12=>
   (e x11 x12).bind fun x13=>
   bif (decide (x13<0)) then
    (Zz (List.set s0.2 (w64 (d+s0.1)).toNat x12) (w64 (d+(w64 ((w64 (2*s0.1))+1))))).bind fun x14=>
    some (.inl ((w64 ((w64 (2*s0.1))+1)),(List.set (List.set s0.2 (w64 (d+s0.1)).toNat x12) (w64 (d+(w64 ((w64 (2*s0.1))+1)))).toNat x11)))
   else
    some (.inr (.inr s0.2))
def ZaE (b:Int) (c:Int) (d:Int) (e:(Int->Int->Option Int)) (mG:List Int):Option (List Int):=
 (lp (ZK c d e) (b,mG)).bind fun r15=>
 match r15 with
 | (.inl r15)=>
  some r15
 | (.inr r15)=>
  some r15
def ZaJ (b:Int) (c:Int) (d:(Int->Int->Option Int)) (s0:Int×(List Int)):Option ((Int×(List Int))⊕(List Int)):=
 bif (decide (0<=s0.1)) then
  (ZaE s0.1 (w64 (c-b)) b d s0.2).bind fun x1=>
  some (.inl ((w64 (s0.1-1)),x1))
 else
  some (.inr s0.2)
def ZaL (b:Int) (d:(Int->Int->Option Int)) (s3:Int×(List Int)):Option ((Int×(List Int))⊕(List Int)):=
 bif (decide (0<=s3.1)) then
  (Zz s3.2 (w64 (b+s3.1))).bind fun x4=>
  (Zz s3.2 b).bind fun x5=>
  (Zz (List.set s3.2 b.toNat x4) (w64 (b+s3.1))).bind fun x6=>
  (ZaE 0 s3.1 b d (List.set (List.set s3.2 b.toNat x4) (w64 (b+s3.1)).toNat x5)).bind fun x7=>
  some (.inl ((w64 (s3.1-1)),x7))
 else
  some (.inr s3.2)
def Z9 (b:Int) (c:Int) (d:(Int->Int->Option Int)) (mG:List Int):Option (List Int):=
 (lp (ZaJ b c d) ((w64 (Int.tdiv (w64 ((w64 (c-b))-1)) 2)),mG)).bind fun r2=>
 (lp (ZaL b d) ((w64 ((w64 (c-b))-1)),r2)).bind fun r8=>
 some r8
def ZaU (b:Int) (c:Int) (e:(Int->Int->Option Int)) (mG:List Int) (mA:Int):Option (Int×Int×Int):=
 (Zz mG c).bind fun x0=>
 (Zz mG b).bind fun x1=>
 (e x0 x1).bind fun x2=>
 bif (decide (x2<0)) then
  some (c,b,(w64 (mA+1)))
 else
  some (b,c,mA)
def ZaT (b:Int) (c:Int) (d:Int) (f:(Int->Int->Option Int)) (mG:List Int) (mA:Int):Option (Int×Int):=
 (ZaU b c f mG mA).bind fun x0=>
 (ZaU x0.2.1 d f mG x0.2.2).bind fun x1=>
 (ZaU x0.1 x1.1 f mG x1.2.2).bind fun x2=>
 some (x2.2.1,x2.2.2)
def Zab (b:Int) (d:(Int->Int->Option Int)) (mG:List Int) (mA:Int):Option (Int×Int):=
 (ZaT (w64 (b-1)) b (w64 (b+1)) d mG mA).bind fun x0=>
 some (x0.1,x0.2)
def ZR (b:Int) (c:Int) (d:(Int->Int->Option Int)) (mG:List Int):Option (Int×Int):=
 bif (decide (8<=(w64 (c-b)))) then
  bif (decide (50<=(w64 (c-b)))) then
   (Zab (w64 (b+(w64 ((w64 (Int.tdiv (w64 (c-b)) 4))*1)))) d mG 0).bind fun x0=>
   (Zab (w64 (b+(w64 ((w64 (Int.tdiv (w64 (c-b)) 4))*2)))) d mG x0.2).bind fun x1=>
   (Zab (w64 (b+(w64 ((w64 (Int.tdiv (w64 (c-b)) 4))*3)))) d mG x1.2).bind fun x2=>
   (ZaT x0.1 x1.1 x2.1 d mG x2.2).bind fun x3=>
   bif (x3.2==0) then
    some (x3.1,1)
   else
    bif (x3.2==12) then
     some (x3.1,2)
    else
     some (x3.1,0)
  else
   (ZaT (w64 (b+(w64 ((w64 (Int.tdiv (w64 (c-b)) 4))*1)))) (w64 (b+(w64 ((w64 (Int.tdiv (w64 (c-b)) 4))*2)))) (w64 (b+(w64 ((w64 (Int.tdiv (w64 (c-b)) 4))*3)))) d mG 0).bind fun x4=>
   bif (x4.2==0) then
    some (x4.1,1)
   else
    bif (x4.2==12) then
     some (x4.1,2)
    else
     some (x4.1,0)
 else
  some ((w64 (b+(w64 ((w64 (Int.tdiv (w64 (c-b)) 4))*2)))),1)
def Z6 (s0:Int×Int×(List Int)):Option ((Int×Int×(List Int))⊕(List Int)):=
 bif (decide (s0.1<s0.2.1)) then
  (Zz s0.2.2 s0.2.1).bind fun x1=>
  (Zz s0.2.2 s0.1).bind fun x2=>
  (Zz (List.set s0.2.2 s0.1.toNat x1) s0.2.1).bind fun x3=>
  some (.inl ((w64 (s0.1+1)),(w64 (s0.2.1-1)),(List.set (List.set s0.2.2 s0.1.toNat x1) s0.2.1.toNat x2)))
 else
  some (.inr s0.2.2)
def ZP (b:Int) (c:Int) (d:(Int->Int->Option Int)) (mG:List Int):Option (List Int):=
 (lp (Z6) (b,(w64 (c-1)),mG)).bind fun r4=>
 some r4
def ZN (c:Int) (d:(Int->Int->Option Int)) (s0:Int×Int×(List Int)) (s1:Int):Option (Int⊕Int):=
 bif (decide (s1<c)) then
  (Zz s0.2.2 s1).bind fun x2=>
  (Zz s0.2.2 (w64 (s1-1))).bind fun x3=>
  (d x2 x3).bind fun x4=>
  bif (decide (x4<0)) then
   some (.inr s1)
  else
   some (.inl (w64 (s1+1)))
 else
  some (.inr s1)
def ZW (d:(Int->Int->Option Int)) (s9:Int×(List Int)):Option ((Int×(List Int))⊕(List Int)):=
 bif (decide (1<=s9.1)) then
  (Zz s9.2 s9.1).bind fun x10=>
  (Zz s9.2 (w64 (s9.1-1))).bind fun x11=>
  (d x10 x11).bind fun x12=>
  bif (decide (x12<0)) then
   (Zz (List.set s9.2 s9.1.toNat x11) (w64 (s9.1-1))).bind fun x13=>
   some (.inl ((w64 (s9.1-1)),(List.set (List.set s9.2 s9.1.toNat x11) (w64 (s9.1-1)).toNat x10)))
  else
   some (.inr s9.2)
 else
  some (.inr s9.2)
def ZH (c:Int) (d:(Int->Int->Option Int)) (s15:Int×(List Int)):Option ((Int×(List Int))⊕(List Int)):=
 bif (decide (s15.1<c)) then
  (Zz s15.2 s15.1).bind fun x16=>
  (Zz s15.2 (w64 (s15.1-1))).bind fun x17=>
  (d x16 x17).bind fun x18=>
  bif (decide (x18<0)) then
   (Zz (List.set s15.2 s15.1.toNat x17) (w64 (s15.1-1))).bind fun x19=>
   some (.inl ((w64 (s15.1+1)),(List.set (List.set s15.2 s15.1.toNat x17) (w64 (s15.1-1)).toNat x16)))
  else
   some (.inr s15.2)
 else
  some (.inr s15.2)
def ZV (b:Int) (c:Int) (d:(Int->Int->Option Int)) (s0:Int×Int×(List Int)):Option ((Int×Int×(List Int))⊕((List Int)⊕((List Int)⊕(List Int)))):=
 bif (decide (s0.2.1<5)) then
  (lp (ZN c d s0) s0.1).bind fun r5=>
  bif (r5==c) then
   some (.inr (.inl s0.2.2))
  else
   bif (decide ((w64 (c-b))<50)) then
    some (.inr (.inr (.inl s0.2.2)))
   else
    (Zz s0.2.2 (w64 (r5-1))).bind fun x6=>
    (Zz s0.2.2 r5).bind fun x7=>
    (Zz (List.set s0.2.2 r5.toNat x6) (w64 (r5-1))).bind fun x8=>
    bif (decide (2<=(w64 (r5-b)))) then
     (lp (ZW d) ((w64 (r5-1)),(List.set (List.set s0.2.2 r5.toNat x6) (w64 (r5-1)).toNat x7))).bind fun r14=>
     bif (decide (2<=(w64 (c-r5)))) then
      (lp (ZH c d) ((w64 (r5+1)),r14)).bind fun r20=>
      some (.inl (r5,(w64 (s0.2.1+1)),r20))
     else
      some (.inl (r5,(w64 (s0.2.1+1)),r14))
    else
     bif (decide (2<=(w64 (c-r5)))) then
      (lp (ZH c d) ((w64 (r5+1)),(List.set (List.set s0.2.2 r5.toNat x6) (w64 (r5-1)).toNat x7))).bind fun r26=>
      some (.inl (r5,(w64 (s0.2.1+1)),r26))
     else
      some (.inl (r5,(w64 (s0.2.1+1)),(List.set (List.set s0.2.2 r5.toNat x6) (w64 (r5-1)).toNat x7)))
 else
  some (.inr (.inr (.inr s0.2.2)))
def ZT (b:Int) (c:Int) (d:(Int->Int->Option Int)) (mG:List Int):Option ((List Int)⊕(List Int)):=
 (lp (ZV b c d) ((w64 (b+1)),0,mG)).bind fun r27=>
 match r27 with
 | (.inl r27)=>
  some (.inl r27)
 | (.inr (.inl r27))=>
  some (.inr r27)
 | (.inr (.inr r27))=>
  some (.inr r27)
def ZaC (b:Int) (c:Int) (d:Int) (mG:List Int) (e:(Int->Int->Option Int)) (x0:Int) (x1:Int) (s3:Int):Option (Int⊕Int):=
 bif (decide (s3<=(w64 (c-1)))) then
  (Zz (List.set (List.set mG b.toNat x0) d.toNat x1) s3).bind fun x4=>
  (Zz (List.set (List.set mG b.toNat x0) d.toNat x1) b).bind fun x5=>
  (e x4 x5).bind fun x6=>
  bif (decide (x6<0)) then
   some (.inl (w64 (s3+1)))
  else
   some (.inr s3)
 else
  some (.inr s3)
def ZaB (b:Int) (d:Int) (mG:List Int) (e:(Int->Int->Option Int)) (x0:Int) (x1:Int) (r7:Int) (s8:Int):Option (Int⊕Int):=
 bif (decide (r7<=s8)) then
  (Zz (List.set (List.set mG b.toNat x0) d.toNat x1) s8).bind fun x9=>
  (Zz (List.set (List.set mG b.toNat x0) d.toNat x1) b).bind fun x10=>
  (e x9 x10).bind fun x11=>
  bif (decide (x11<0)) then
   some (.inr s8)
  else
   some (.inl (w64 (s8-1)))
 else
  some (.inr s8)
def ZaD (b:Int) (e:(Int->Int->Option Int)) (s19:Int×Int×(List Int)) (s20:Int):Option (Int⊕Int):=
 bif (decide (s20<=s19.2.1)) then
  (Zz s19.2.2 s20).bind fun x21=>
  (Zz s19.2.2 b).bind fun x22=>
  (e x21 x22).bind fun x23=>
  bif (decide (x23<0)) then
   some (.inl (w64 (s20+1)))
  else
   some (.inr s20)
 else
  some (.inr s20)
def Zaz (b:Int) (e:(Int->Int->Option Int)) (s19:Int×Int×(List Int)) (r24:Int) (s25:Int):Option (Int⊕Int):=
 bif (decide (r24<=s25)) then
  (Zz s19.2.2 s25).bind fun x26=>
  (Zz s19.2.2 b).bind fun x27=>
  (e x26 x27).bind fun x28=>
  bif (decide (x28<0)) then
   some (.inr s25)
  else
   some (.inl (w64 (s25-1)))
 else
  some (.inr s25)
def Za0 (b:Int) (e:(Int->Int->Option Int)) (s19:Int×Int×(List Int)):Option ((Int×Int×(List Int))⊕(Int×(List Int))):=
 (lp (ZaD b e s19) s19.1).bind fun r24=>
 (lp (Zaz b e s19 r24) s19.2.1).bind fun r29=>
 bif (decide (r29<r24)) then
  some (.inr (r29,s19.2.2))
 else
  (Zz s19.2.2 r29).bind fun x30=>
  (Zz s19.2.2 r24).bind fun x31=>
  (Zz (List.set s19.2.2 r24.toNat x30) r29).bind fun x32=>
  some (.inl ((w64 (r24+1)),(w64 (r29-1)),(List.set (List.set s19.2.2 r24.toNat x30) r29.toNat x31)))
def Zt (b:Int) (c:Int) (d:Int) (e:(Int->Int->Option Int)) (mG:List Int):Option ((Int×(List Int))⊕(Int×(List Int))):=
 (Zz mG d).bind fun x0=>
 (Zz mG b).bind fun x1=>
 (Zz (List.set mG b.toNat x0) d).bind fun x2=>
 (lp (ZaC b c d mG e x0 x1) (w64 (b+1))).bind fun r7=>
 (lp (ZaB b d mG e x0 x1 r7) (w64 (c-1))).bind fun r12=>
 bif (decide (r12<r7)) then
  (Zz (List.set (List.set mG b.toNat x0) d.toNat x1) b).bind fun x13=>
  (Zz (List.set (List.set mG b.toNat x0) d.toNat x1) r12).bind fun x14=>
  (Zz (List.set (List.set (List.set mG b.toNat x0) d.toNat x1) r12.toNat x13) b).bind fun x15=>
  some (.inl (r12,(List.set (List.set (List.set (List.set mG b.toNat x0) d.toNat x1) r12.toNat x13) b.toNat x14)))
 else
  (Zz (List.set (List.set mG b.toNat x0) d.toNat x1) r12).bind fun x16=>
  (Zz (List.set (List.set mG b.toNat x0) d.toNat x1) r7).bind fun x17=>
  (Zz (List.set (List.set (List.set mG b.toNat x0) d.toNat x1) r7.toNat x16) r12).bind fun x18=>
  (lp (Za0 b e) ((w64 (r7+1)),(w64 (r12-1)),(List.set (List.set (List.set (List.set mG b.toNat x0) d.toNat x1) r7.toNat x16) r12.toNat x17))).bind fun r33=>
  (Zz r33.2 b).bind fun x34=>
  (Zz r33.2 r33.1).bind fun x35=>
  (Zz (List.set r33.2 r33.1.toNat x34) b).bind fun x36=>
  some (.inr (r33.1,(List.set (List.set r33.2 r33.1.toNat x34) b.toNat x35)))
def Zag (b:Int) (e:(Int->Int->Option Int)) (s3:Int×Int×(List Int)) (s4:Int):Option (Int⊕Int):=
 bif (decide (s4<=s3.2.1)) then
  (Zz s3.2.2 b).bind fun x5=>
  (Zz s3.2.2 s4).bind fun x6=>
  (e x5 x6).bind fun x7=>
  bif (decide (x7<0)) then
   some (.inr s4)
  else
   some (.inl (w64 (s4+1)))
 else
  some (.inr s4)
def Zah (b:Int) (e:(Int->Int->Option Int)) (s3:Int×Int×(List Int)) (r8:Int) (s9:Int):Option (Int⊕Int):=
 bif (decide (r8<=s9)) then
  (Zz s3.2.2 b).bind fun x10=>
  (Zz s3.2.2 s9).bind fun x11=>
  (e x10 x11).bind fun x12=>
  bif (decide (x12<0)) then
   some (.inl (w64 (s9-1)))
  else
   some (.inr s9)
 else
  some (.inr s9)
def ZaA (b:Int) (e:(Int->Int->Option Int)) (s3:Int×Int×(List Int)):Option ((Int×Int×(List Int))⊕(Int×(List Int))):=
 (lp (Zag b e s3) s3.1).bind fun r8=>
 (lp (Zah b e s3 r8) s3.2.1).bind fun r13=>
 bif (decide (r13<r8)) then
  some (.inr (r8,s3.2.2))
 else
  (Zz s3.2.2 r13).bind fun x14=>
  (Zz s3.2.2 r8).bind fun x15=>
  (Zz (List.set s3.2.2 r8.toNat x14) r13).bind fun x16=>
  some (.inl ((w64 (r8+1)),(w64 (r13-1)),(List.set (List.set s3.2.2 r8.toNat x14) r13.toNat x15)))
def ZE (b:Int) (c:Int) (d:Int) (e:(Int->Int->Option Int)) (mG:List Int):Option (Int×(List Int)):=
 (Zz mG d).bind fun x0=>
 (Zz mG b).bind fun x1=>
 (Zz (List.set mG b.toNat x0) d).bind fun x2=>
 (lp (ZaA b e) ((w64 (b+1)),(w64 (c-1)),(List.set (List.set mG b.toNat x0) d.toNat x1))).bind fun r17=>
 some (r17.1,r17.2)
def Zdo (a:Int):Option Int:=
 (Zgo (u64.wrap a)).bind fun x0=>
 bif (decide (x0<0)) then
  none
 else
  some (u64.wrap (1*2 ^ (min (x0).toNat u64.bits)))
def Zgc:Option Unit:=
 some ()
def ZaI (b:Int) (c:Int) (x0:Int) (s1:Int×(List Int)×Int):Option ((Int×(List Int)×Int)⊕(List Int)):=
 bif (decide (s1.1<=(w64 ((w64 (b+(w64 ((w64 (Int.tdiv (w64 (c-b)) 4))*2))))+1)))) then
  Zgc.bind fun x2=>
  bif (decide ((w64 (c-b))<=(w64 (u64.wrap (Zr (u64.wrap (Zr (u64.wrap (Zr (u64.wrap (Zr s1.2.2 ^^^ Zr (u64.wrap (s1.2.2*2 ^ 13))).toNat) ^^^ Zr (Int.fdiv (u64.wrap (Zr s1.2.2 ^^^ Zr (u64.wrap (s1.2.2*2 ^ 13))).toNat) (2 ^ 7))).toNat) ^^^ Zr (u64.wrap ((u64.wrap (Zr (u64.wrap (Zr s1.2.2 ^^^ Zr (u64.wrap (s1.2.2*2 ^ 13))).toNat) ^^^ Zr (Int.fdiv (u64.wrap (Zr s1.2.2 ^^^ Zr (u64.wrap (s1.2.2*2 ^ 13))).toNat) (2 ^ 7))).toNat)*2 ^ 17))).toNat) &&& Zr (u64.wrap (x0-1))).toNat)))) then
   (Zz s1.2.1 (w64 (b+(w64 ((w64 (u64.wrap (Zr (u64.wrap (Zr (u64.wrap (Zr (u64.wrap (Zr s1.2.2 ^^^ Zr (u64.wrap (s1.2.2*2 ^ 13))).toNat) ^^^ Zr (Int.fdiv (u64.wrap (Zr s1.2.2 ^^^ Zr (u64.wrap (s1.2.2*2 ^ 13))).toNat) (2 ^ 7))).toNat) ^^^ Zr (u64.wrap ((u64.wrap (Zr (u64.wrap (Zr s1.2.2 ^^^ Zr (u64.wrap (s1.2.2*2 ^ 13))).toNat) ^^^ Zr (Int.fdiv (u64.wrap (Zr s1.2.2 ^^^ Zr (u64.wrap (s1.2.2*2 ^ 13))).toNat) (2 ^ 7))).toNat)*2 ^ 17))).toNat) &&& Zr (u64.wrap (x0-1))).toNat))-(w64 (c-b))))))).bind fun x3=>
   (Zz s1.2.1 s1.1).bind fun x4=>
   (Zz (List.set s1.2.1 s1.1.toNat x3) (w64 (b+(w64 ((w64 (u64.wrap (Zr (u64.wrap (Zr (u64.wrap (Zr (u64.wrap (Zr s1.2.2 ^^^ Zr (u64.wrap (s1.2.2*2 ^ 13))).toNat) ^^^ Zr (Int.fdiv (u64.wrap (Zr s1.2.2 ^^^ Zr (u64.wrap (s1.2.2*2 ^ 13))).toNat) (2 ^ 7))).toNat) ^^^ Zr (u64.wrap ((u64.wrap (Zr (u64.wrap (Zr s1.2.2 ^^^ Zr (u64.wrap (s1.2.2*2 ^ 13))).toNat) ^^^ Zr (Int.fdiv (u64.wrap (Zr s1.2.2 ^^^ Zr (u64.wrap (s1.2.2*2 ^ 13))).toNat) (2 ^ 7))).toNat)*2 ^ 17))).toNat) &&& Zr (u64.wrap (x0-1))).toNat))-(w64 (c-b))))))).bind fun x5=>
   some (.inl ((w64 (s1.1+1)),(List.set (List.set s1.2.1 s1.1.toNat x3) (w64 (b+(w64 ((w64 (u64.wrap (Zr (u64.wrap (Zr (u64.wrap (Zr (u64.wrap (Zr s1.2.2 ^^^ Zr (u64.wrap (s1.2.2*2 ^ 13))).toNat) ^^^ Zr (Int.fdiv (u64.wrap (Zr s1.2.2 ^^^ Zr (u64.wrap (s1.2.2*2 ^ 13))).toNat) (2 ^ 7))).toNat) ^^^ Zr (u64.wrap ((u64.wrap (Zr (u64.wrap (Zr s1.2.2 ^^^ Zr (u64.wrap (s1.2.2*2 ^ 13))).toNat) ^^^ Zr (Int.fdiv (u64.wrap (Zr s1.2.2 ^^^ Zr (u64.wrap (s1.2.2*2 ^ 13))).toNat) (2 ^ 7))).toNat)*2 ^ 17))).toNat) &&& Zr (u64.wrap (x0-1))).toNat))-(w64 (c-b)))))).toNat x4),(u64.wrap (Zr (u64.wrap (Zr (u64.wrap (Zr s1.2.2 ^^^ Zr (u64.wrap (s1.2.2*2 ^ 13))).toNat) ^^^ Zr (Int.fdiv (u64.wrap (Zr s1.2.2 ^^^ Zr (u64.wrap (s1.2.2*2 ^ 13))).toNat) (2 ^ 7))).toNat) ^^^ Zr (u64.wrap ((u64.wrap (Zr (u64.wrap (Zr s1.2.2 ^^^ Zr (u64.wrap (s1.2.2*2 ^ 13))).toNat) ^^^ Zr (Int.fdiv (u64.wrap (Zr s1.2.2 ^^^ Zr (u64.wrap (s1.2.2*2 ^ 13))).toNat) (2 ^ 7))).toNat)*2 ^ 17))).toNat)))
  else
   (Zz s1.2.1 (w64 (b+(w64 (u64.wrap (Zr (u64.wrap (Zr (u64.wrap (Zr (u64.wrap (Zr s1.2.2 ^^^ Zr (u64.wrap (s1.2.2*2 ^ 13))).toNat) ^^^ Zr (Int.fdiv (u64.wrap (Zr s1.2.2 ^^^ Zr (u64.wrap (s1.2.2*2 ^ 13))).toNat) (2 ^ 7))).toNat) ^^^ Zr (u64.wrap ((u64.wrap (Zr (u64.wrap (Zr s1.2.2 ^^^ Zr (u64.wrap (s1.2.2*2 ^ 13))).toNat) ^^^ Zr (Int.fdiv (u64.wrap (Zr s1.2.2 ^^^ Zr (u64.wrap (s1.2.2*2 ^ 13))).toNat) (2 ^ 7))).toNat)*2 ^ 17))).toNat) &&& Zr (u64.wrap (x0-1))).toNat))))).bind fun x6=>
   (Zz s1.2.1 s1.1).bind fun x7=>
   (Zz (List.set s1.2.1 s1.1.toNat x6) (w64 (b+(w64 (u64.wrap (Zr (u64.wrap (Zr (u64.wrap (Zr (u64.wrap (Zr s1.2.2 ^^^ Zr (u64.wrap (s1.2.2*2 ^ 13))).toNat) ^^^ Zr (Int.fdiv (u64.wrap (Zr s1.2.2 ^^^ Zr (u64.wrap (s1.2.2*2 ^ 13))).toNat) (2 ^ 7))).toNat) ^^^ Zr (u64.wrap ((u64.wrap (Zr (u64.wrap (Zr s1.2.2 ^^^ Zr (u64.wrap (s1.2.2*2 ^ 13))).toNat) ^^^ Zr (Int.fdiv (u64.wrap (Zr s1.2.2 ^^^ Zr (u64.wrap (s1.2.2*2 ^ 13))).toNat) (2 ^ 7))).toNat)*2 ^ 17))).toNat) &&& Zr (u64.wrap (x0-1))).toNat))))).bind fun x8=>
   some (.inl ((w64 (s1.1+1)),(List.set (List.set s1.2.1 s1.1.toNat x6) (w64 (b+(w64 (u64.wrap (Zr (u64.wrap (Zr (u64.wrap (Zr (u64.wrap (Zr s1.2.2 ^^^ Zr (u64.wrap (s1.2.2*2 ^ 13))).toNat) ^^^ Zr (Int.fdiv (u64.wrap (Zr s1.2.2 ^^^ Zr (u64.wrap (s1.2.2*2 ^ 13))).toNat) (2 ^ 7))).toNat) ^^^ Zr (u64.wrap ((u64.wrap (Zr (u64.wrap (Zr s1.2.2 ^^^ Zr (u64.wrap (s1.2.2*2 ^ 13))).toNat) ^^^ Zr (Int.fdiv (u64.wrap (Zr s1.2.2 ^^^ Zr (u64.wrap (s1.2.2*2 ^ 13))).toNat) (2 ^ 7))).toNat)*2 ^ 17))).toNat) &&& Zr (u64.wrap (x0-1))).toNat)))).toNat x7),(u64.wrap (Zr (u64.wrap (Zr (u64.wrap (Zr s1.2.2 ^^^ Zr (u64.wrap (s1.2.2*2 ^ 13))).toNat) ^^^ Zr (Int.fdiv (u64.wrap (Zr s1.2.2 ^^^ Zr (u64.wrap (s1.2.2*2 ^ 13))).toNat) (2 ^ 7))).toNat) ^^^ Zr (u64.wrap ((u64.wrap (Zr (u64.wrap (Zr s1.2.2 ^^^ Zr (u64.wrap (s1.2.2*2 ^ 13))).toNat) ^^^ Zr (Int.fdiv (u64.wrap (Zr s1.2.2 ^^^ Zr (u64.wrap (s1.2.2*2 ^ 13))).toNat) (2 ^ 7))).toNat)*2 ^ 17))).toNat)))
 else
  some (.inr s1.2.1)
def Zae (b:Int) (c:Int) (d:(Int->Int->Option Int)) (mG:List Int):Option (List Int):=
 bif (decide (8<=(w64 (c-b)))) then
  (Zdo (w64 (c-b))).bind fun x0=>
  (lp (ZaI b c x0) ((w64 ((w64 (b+(w64 ((w64 (Int.tdiv (w64 (c-b)) 4))*2))))-1)),mG,(u64.wrap (w64 (c-b))))).bind fun r9=>
  some r9
 else
  some mG
def ZB (e:(Int->Int->Option Int)) (rc:Int->Int->Int->(Int->Int->Option Int)->(List Int)->Option (List Int)) (s0:Int×Int×Int×Bool×Bool×(List Int)):Option ((Int×Int×Int×Bool×Bool×(List Int))⊕(List Int)):=
 bif s0.2.2.2.1 then
  bif s0.2.2.2.2.1 then
   bif (decide ((w64 (s0.2.1-s0.1))<=12)) then
    (ZZ s0.1 s0.2.1 e s0.2.2.2.2.2).bind fun x1=>
    some (.inr x1)
   else
    bif (s0.2.2.1==0) then
     (Z9 s0.1 s0.2.1 e s0.2.2.2.2.2).bind fun x2=>
     some (.inr x2)
    else
     (ZR s0.1 s0.2.1 e s0.2.2.2.2.2).bind fun x3=>
     bif (x3.2==2) then
      (ZP s0.1 s0.2.1 e s0.2.2.2.2.2).bind fun x4=>
      (ZT s0.1 s0.2.1 e x4).bind fun x5=>
      match x5 with
      | (.inl x5)=>
       some (.inr x5)
      | (.inr x5)=>
       bif (decide (0<s0.1)) then
        (Zz x5 (w64 (s0.1-1))).bind fun x6=>
        (Zz x5 (w64 ((w64 (s0.2.1-1))-(w64 (x3.1-s0.1))))).bind fun x7=>
        (e x6 x7).bind fun x8=>
        bif (decide (x8<0)) then
         (Zt s0.1 s0.2.1 (w64 ((w64 (s0.2.1-1))-(w64 (x3.1-s0.1)))) e x5).bind fun x9=>
         match x9 with
         | (.inl x9)=>
          bif (decide ((w64 (x9.1-s0.1))<(w64 (s0.2.1-x9.1)))) then
           bif (decide ((w64 (Int.tdiv (w64 (s0.2.1-s0.1)) 8))<=(w64 (x9.1-s0.1)))) then
            (rc s0.1 x9.1 s0.2.2.1 e x9.2).bind fun x10=>
            some (.inl ((w64 (x9.1+1)),s0.2.1,s0.2.2.1,true,true,x10))
           else
            (rc s0.1 x9.1 s0.2.2.1 e x9.2).bind fun x11=>
            some (.inl ((w64 (x9.1+1)),s0.2.1,s0.2.2.1,false,true,x11))
          else
           bif (decide ((w64 (Int.tdiv (w64 (s0.2.1-s0.1)) 8))<=(w64 (s0.2.1-x9.1)))) then
            (rc (w64 (x9.1+1)) s0.2.1 s0.2.2.1 e x9.2).bind fun x12=>
            some (.inl (s0.1,x9.1,s0.2.2.1,true,true,x12))
           else
            (rc (w64 (x9.1+1)) s0.2.1 s0.2.2.1 e x9.2).bind fun x13=>
            some (.inl (s0.1,x9.1,s0.2.2.1,false,true,x13))
         | (.inr x9)=>
          bif (decide ((w64 (x9.1-s0.1))<(w64 (s0.2.1-x9.1)))) then
           bif (decide ((w64 (Int.tdiv (w64 (s0.2.1-s0.1)) 8))<=(w64 (x9.1-s0.1)))) then
            (rc s0.1 x9.1 s0.2.2.1 e x9.2).bind fun x14=>
            some (.inl ((w64 (x9.1+1)),s0.2.1,s0.2.2.1,true,false,x14))
           else
            (rc s0.1 x9.1 s0.2.2.1 e x9.2).bind fun x15=>
            some (.inl ((w64 (x9.1+1)),s0.2.1,s0.2.2.1,false,false,x15))
          else
           bif (decide ((w64 (Int.tdiv (w64 (s0.2.1-s0.1)) 8))<=(w64 (s0.2.1-x9.1)))) then
            (rc (w64 (x9.1+1)) s0.2.1 s0.2.2.1 e x9.2).bind fun x16=>
            some (.inl (s0.1,x9.1,s0.2.2.1,true,false,x16))
           else
            (rc (w64 (x9.1+1)) s0.2.1 s0.2.2.1 e x9.2).bind fun x17=>
            some (.inl (s0.1,x9.1,s0.2.2.1,false,false,x17))
        else
         (ZE s0.1 s0.2.1 (w64 ((w64 (s0.2.1-1))-(w64 (x3.1-s0.1)))) e x5).bind fun x18=>
         some (.inl (x18.1,s0.2.1,s0.2.2.1,true,true,x18.2))
       else
        (Zt s0.1 s0.2.1 (w64 ((w64 (s0.2.1-1))-(w64 (x3.1-s0.1)))) e x5).bind fun x19=>
        match x19 with
        | (.inl x19)=>
         bif (decide ((w64 (x19.1-s0.1))<(w64 (s0.2.1-x19.1)))) then
          bif (decide ((w64 (Int.tdiv (w64 (s0.2.1-s0.1)) 8))<=(w64 (x19.1-s0.1)))) then
           (rc s0.1 x19.1 s0.2.2.1 e x19.2).bind fun x20=>
           some (.inl ((w64 (x19.1+1)),s0.2.1,s0.2.2.1,true,true,x20))
          else
           (rc s0.1 x19.1 s0.2.2.1 e x19.2).bind fun x21=>
           some (.inl ((w64 (x19.1+1)),s0.2.1,s0.2.2.1,false,true,x21))
         else
          bif (decide ((w64 (Int.tdiv (w64 (s0.2.1-s0.1)) 8))<=(w64 (s0.2.1-x19.1)))) then
           (rc (w64 (x19.1+1)) s0.2.1 s0.2.2.1 e x19.2).bind fun x22=>
           some (.inl (s0.1,x19.1,s0.2.2.1,true,true,x22))
          else
           (rc (w64 (x19.1+1)) s0.2.1 s0.2.2.1 e x19.2).bind fun x23=>
           some (.inl (s0.1,x19.1,s0.2.2.1,false,true,x23))
        | (.inr x19)=>
         bif (decide ((w64 (x19.1-s0.1))<(w64 (s0.2.1-x19.1)))) then
          bif (decide ((w64 (Int.tdiv (w64 (s0.2.1-s0.1)) 8))<=(w64 (x19.1-s0.1)))) then
           (rc s0.1 x19.1 s0.2.2.1 e x19.2).bind fun x24=>
           some (.inl ((w64 (x19.1+1)),s0.2.1,s0.2.2.1,true,false,x24))
          else
           (rc s0.1 x19.1 s0.2.2.1 e x19.2).bind fun x25=>
           some (.inl ((w64 (x19.1+1)),s0.2.1,s0.2.2.1,false,false,x25))
         else
          bif (decide ((w64 (Int.tdiv (w64 (s0.2.1-s0.1)) 8))<=(w64 (s0.2.1-x19.1)))) then
           (rc (w64 (x19.1+1)) s0.2.1 s0.2.2.1 e x19.2).bind fun x26=>
           some (.inl (s0.1,x19.1,s0.2.2.1,true,false,x26))
          else
           (rc (w64 (x19.1+1)) s0.2.1 s0.2.2.1 e x19.2).bind fun x27=>
           some (.inl (s0.1,x19.1,s0.2.2.1,false,false,x27))
     else
      bif (x3.2==1) then
       (ZT s0.1 s0.2.1 e s0.2.2.2.2.2).bind fun x28=>
       match x28 with
       | (.inl x28)=>
        some (.inr x28)
       | (.inr x28)=>
        bif (decide (0<s0.1)) then
         (Zz x28 (w64 (s0.1-1))).bind fun x29=>
         (Zz x28 x3.1).bind fun x30=>
         (e x29 x30).bind fun x31=>
         bif (decide (x31<0)) then
          (Zt s0.1 s0.2.1 x3.1 e x28).bind fun x32=>
          match x32 with
          | (.inl x32)=>
           bif (decide ((w64 (x32.1-s0.1))<(w64 (s0.2.1-x32.1)))) then
            bif (decide ((w64 (Int.tdiv (w64 (s0.2.1-s0.1)) 8))<=(w64 (x32.1-s0.1)))) then
             (rc s0.1 x32.1 s0.2.2.1 e x32.2).bind fun x33=>
             some (.inl ((w64 (x32.1+1)),s0.2.1,s0.2.2.1,true,true,x33))
            else
             (rc s0.1 x32.1 s0.2.2.1 e x32.2).bind fun x34=>
             some (.inl ((w64 (x32.1+1)),s0.2.1,s0.2.2.1,false,true,x34))
           else
            bif (decide ((w64 (Int.tdiv (w64 (s0.2.1-s0.1)) 8))<=(w64 (s0.2.1-x32.1)))) then
             (rc (w64 (x32.1+1)) s0.2.1 s0.2.2.1 e x32.2).bind fun x35=>
             some (.inl (s0.1,x32.1,s0.2.2.1,true,true,x35))
            else
             (rc (w64 (x32.1+1)) s0.2.1 s0.2.2.1 e x32.2).bind fun x36=>
             some (.inl (s0.1,x32.1,s0.2.2.1,false,true,x36))
          | (.inr x32)=>
           bif (decide ((w64 (x32.1-s0.1))<(w64 (s0.2.1-x32.1)))) then
            bif (decide ((w64 (Int.tdiv (w64 (s0.2.1-s0.1)) 8))<=(w64 (x32.1-s0.1)))) then
             (rc s0.1 x32.1 s0.2.2.1 e x32.2).bind fun x37=>
             some (.inl ((w64 (x32.1+1)),s0.2.1,s0.2.2.1,true,false,x37))
            else
             (rc s0.1 x32.1 s0.2.2.1 e x32.2).bind fun x38=>
             some (.inl ((w64 (x32.1+1)),s0.2.1,s0.2.2.1,false,false,x38))
           else
            bif (decide ((w64 (Int.tdiv (w64 (s0.2.1-s0.1)) 8))<=(w64 (s0.2.1-x32.1)))) then
             (rc (w64 (x32.1+1)) s0.2.1 s0.2.2.1 e x32.2).bind fun x39=>
             some (.inl (s0.1,x32.1,s0.2.2.1,true,false,x39))
            else
             (rc (w64 (x32.1+1)) s0.2.1 s0.2.2.1 e x32.2).bind fun x40=>
             some (.inl (s0.1,x32.1,s0.2.2.1,false,false,x40))
         else
          (ZE s0.1 s0.2.1 x3.1 e x28).bind fun x41=>
          some (.inl (x41.1,s0.2.1,s0.2.2.1,true,true,x41.2))
        else
         (Zt s0.1 s0.2.1 x3.1 e x28).bind fun x42=>
         match x42 with
         | (.inl x42)=>
          bif (decide ((w64 (x42.1-s0.1))<(w64 (s0.2.1-x42.1)))) then
           bif (decide ((w64 (Int.tdiv (w64 (s0.2.1-s0.1)) 8))<=(w64 (x42.1-s0.1)))) then
            (rc s0.1 x42.1 s0.2.2.1 e x42.2).bind fun x43=>
            some (.inl ((w64 (x42.1+1)),s0.2.1,s0.2.2.1,true,true,x43))
           else
            (rc s0.1 x42.1 s0.2.2.1 e x42.2).bind fun x44=>
            some (.inl ((w64 (x42.1+1)),s0.2.1,s0.2.2.1,false,true,x44))
          else
           bif (decide ((w64 (Int.tdiv (w64 (s0.2.1-s0.1)) 8))<=(w64 (s0.2.1-x42.1)))) then
            (rc (w64 (x42.1+1)) s0.2.1 s0.2.2.1 e x42.2).bind fun x45=>
            some (.inl (s0.1,x42.1,s0.2.2.1,true,true,x45))
           else
            (rc (w64 (x42.1+1)) s0.2.1 s0.2.2.1 e x42.2).bind fun x46=>
            some (.inl (s0.1,x42.1,s0.2.2.1,false,true,x46))
         | (.inr x42)=>
          bif (decide ((w64 (x42.1-s0.1))<(w64 (s0.2.1-x42.1)))) then
           bif (decide ((w64 (Int.tdiv (w64 (s0.2.1-s0.1)) 8))<=(w64 (x42.1-s0.1)))) then
            (rc s0.1 x42.1 s0.2.2.1 e x42.2).bind fun x47=>
            some (.inl ((w64 (x42.1+1)),s0.2.1,s0.2.2.1,true,false,x47))
           else
            (rc s0.1 x42.1 s0.2.2.1 e x42.2).bind fun x48=>
            some (.inl ((w64 (x42.1+1)),s0.2.1,s0.2.2.1,false,false,x48))
          else
           bif (decide ((w64 (Int.tdiv (w64 (s0.2.1-s0.1)) 8))<=(w64 (s0.2.1-x42.1)))) then
            (rc (w64 (x42.1+1)) s0.2.1 s0.2.2.1 e x42.2).bind fun x49=>
            some (.inl (s0.1,x42.1,s0.2.2.1,true,false,x49))
           else
            (rc (w64 (x42.1+1)) s0.2.1 s0.2.2.1 e x42.2).bind fun x50=>
            some (.inl (s0.1,x42.1,s0.2.2.1,false,false,x50))
      else
       bif (decide (0<s0.1)) then
        (Zz s0.2.2.2.2.2 (w64 (s0.1-1))).bind fun x51=>
        (Zz s0.2.2.2.2.2 x3.1).bind fun x52=>
        (e x51 x52).bind fun x53=>
        bif (decide (x53<0)) then
         (Zt s0.1 s0.2.1 x3.1 e s0.2.2.2.2.2).bind fun x54=>
         match x54 with
         | (.inl x54)=>
          bif (decide ((w64 (x54.1-s0.1))<(w64 (s0.2.1-x54.1)))) then
           bif (decide ((w64 (Int.tdiv (w64 (s0.2.1-s0.1)) 8))<=(w64 (x54.1-s0.1)))) then
            (rc s0.1 x54.1 s0.2.2.1 e x54.2).bind fun x55=>
            some (.inl ((w64 (x54.1+1)),s0.2.1,s0.2.2.1,true,true,x55))
           else
            (rc s0.1 x54.1 s0.2.2.1 e x54.2).bind fun x56=>
            some (.inl ((w64 (x54.1+1)),s0.2.1,s0.2.2.1,false,true,x56))
          else
           bif (decide ((w64 (Int.tdiv (w64 (s0.2.1-s0.1)) 8))<=(w64 (s0.2.1-x54.1)))) then
            (rc (w64 (x54.1+1)) s0.2.1 s0.2.2.1 e x54.2).bind fun x57=>
            some (.inl (s0.1,x54.1,s0.2.2.1,true,true,x57))
           else
            (rc (w64 (x54.1+1)) s0.2.1 s0.2.2.1 e x54.2).bind fun x58=>
            some (.inl (s0.1,x54.1,s0.2.2.1,false,true,x58))
         | (.inr x54)=>
          bif (decide ((w64 (x54.1-s0.1))<(w64 (s0.2.1-x54.1)))) then
           bif (decide ((w64 (Int.tdiv (w64 (s0.2.1-s0.1)) 8))<=(w64 (x54.1-s0.1)))) then
            (rc s0.1 x54.1 s0.2.2.1 e x54.2).bind fun x59=>
            some (.inl ((w64 (x54.1+1)),s0.2.1,s0.2.2.1,true,false,x59))
           else
            (rc s0.1 x54.1 s0.2.2.1 e x54.2).bind fun x60=>
            some (.inl ((w64 (x54.1+1)),s0.2.1,s0.2.2.1,false,false,x60))
          else
           bif (decide ((w64 (Int.tdiv (w64 (s0.2.1-s0.1)) 8))<=(w64 (s0.2.1-x54.1)))) then
            (rc (w64 (x54.1+1)) s0.2.1 s0.2.2.1 e x54.2).bind fun x61=>
            some (.inl (s0.1,x54.1,s0.2.2.1,true,false,x61))
           else
            (rc (w64 (x54.1+1)) s0.2.1 s0.2.2.1 e x54.2).bind fun x62=>
            some (.inl (s0.1,x54.1,s0.2.2.1,false,false,x62))
        else
         (ZE s0.1 s0.2.1 x3.1 e s0.2.2.2.2.2).bind fun x63=>
         some (.inl (x63.1,s0.2.1,s0.2.2.1,true,true,x63.2))
       else
        (Zt s0.1 s0.2.1 x3.1 e s0.2.2.2.2.2).bind fun x64=>
        match x64 with
        | (.inl x64)=>
         bif (decide ((w64 (x64.1-s0.1))<(w64 (s0.2.1-x64.1)))) then
          bif (decide ((w64 (Int.tdiv (w64 (s0.2.1-s0.1)) 8))<=(w64 (x64.1-s0.1)))) then
           (rc s0.1 x64.1 s0.2.2.1 e x64.2).bind fun x65=>
           some (.inl ((w64 (x64.1+1)),s0.2.1,s0.2.2.1,true,true,x65))
          else
           (rc s0.1 x64.1 s0.2.2.1 e x64.2).bind fun x66=>
           some (.inl ((w64 (x64.1+1)),s0.2.1,s0.2.2.1,false,true,x66))
         else
          bif (decide ((w64 (Int.tdiv (w64 (s0.2.1-s0.1)) 8))<=(w64 (s0.2.1-x64.1)))) then
           (rc (w64 (x64.1+1)) s0.2.1 s0.2.2.1 e x64.2).bind fun x67=>
           some (.inl (s0.1,x64.1,s0.2.2.1,true,true,x67))
          else
           (rc (w64 (x64.1+1)) s0.2.1 s0.2.2.1 e x64.2).bind fun x68=>
           some (.inl (s0.1,x64.1,s0.2.2.1,false,true,x68))
        | (.inr x64)=>
         bif (decide ((w64 (x64.1-s0.1))<(w64 (s0.2.1-x64.1)))) then
          bif (decide ((w64 (Int.tdiv (w64 (s0.2.1-s0.1)) 8))<=(w64 (x64.1-s0.1)))) then
           (rc s0.1 x64.1 s0.2.2.1 e x64.2).bind fun x69=>
           some (.inl ((w64 (x64.1+1)),s0.2.1,s0.2.2.1,true,false,x69))
          else
           (rc s0.1 x64.1 s0.2.2.1 e x64.2).bind fun x70=>
           some (.inl ((w64 (x64.1+1)),s0.2.1,s0.2.2.1,false,false,x70))
         else
          bif (decide ((w64 (Int.tdiv (w64 (s0.2.1-s0.1)) 8))<=(w64 (s0.2.1-x64.1)))) then
           (rc (w64 (x64.1+1)) s0.2.1 s0.2.2.1 e x64.2).bind fun x71=>
           some (.inl (s0.1,x64.1,s0.2.2.1,true,false,x71))
          else
           (rc (w64 (x64.1+1)) s0.2.1 s0.2.2.1 e x64.2).bind fun x72=>
           some (.inl (s0.1,x64.1,s0.2.2.1,false,false,x72))
  else
   bif (decide ((w64 (s0.2.1-s0.1))<=12)) then
    (ZZ s0.1 s0.2.1 e s0.2.2.2.2.2).bind fun x73=>
    some (.inr x73)
   else
    bif (s0.2.2.1==0) then
     (Z9 s0.1 s0.2.1 e s0.2.2.2.2.2).bind fun x74=>
     some (.inr x74)
    else
     (ZR s0.1 s0.2.1 e s0.2.2.2.2.2).bind fun x75=>
     bif (x75.2==2) then
      (ZP s0.1 s0.2.1 e s0.2.2.2.2.2).bind fun x76=>
      bif (decide (0<s0.1)) then
       (Zz x76 (w64 (s0.1-1))).bind fun x77=>
       (Zz x76 (w64 ((w64 (s0.2.1-1))-(w64 (x75.1-s0.1))))).bind fun x78=>
       (e x77 x78).bind fun x79=>
       bif (decide (x79<0)) then
        (Zt s0.1 s0.2.1 (w64 ((w64 (s0.2.1-1))-(w64 (x75.1-s0.1)))) e x76).bind fun x80=>
        match x80 with
        | (.inl x80)=>
         bif (decide ((w64 (x80.1-s0.1))<(w64 (s0.2.1-x80.1)))) then
          bif (decide ((w64 (Int.tdiv (w64 (s0.2.1-s0.1)) 8))<=(w64 (x80.1-s0.1)))) then
           (rc s0.1 x80.1 s0.2.2.1 e x80.2).bind fun x81=>
           some (.inl ((w64 (x80.1+1)),s0.2.1,s0.2.2.1,true,true,x81))
          else
           (rc s0.1 x80.1 s0.2.2.1 e x80.2).bind fun x82=>
           some (.inl ((w64 (x80.1+1)),s0.2.1,s0.2.2.1,false,true,x82))
         else
          bif (decide ((w64 (Int.tdiv (w64 (s0.2.1-s0.1)) 8))<=(w64 (s0.2.1-x80.1)))) then
           (rc (w64 (x80.1+1)) s0.2.1 s0.2.2.1 e x80.2).bind fun x83=>
           some (.inl (s0.1,x80.1,s0.2.2.1,true,true,x83))
          else
           (rc (w64 (x80.1+1)) s0.2.1 s0.2.2.1 e x80.2).bind fun x84=>
           some (.inl (s0.1,x80.1,s0.2.2.1,false,true,x84))
        | (.inr x80)=>
         bif (decide ((w64 (x80.1-s0.1))<(w64 (s0.2.1-x80.1)))) then
          bif (decide ((w64 (Int.tdiv (w64 (s0.2.1-s0.1)) 8))<=(w64 (x80.1-s0.1)))) then
           (rc s0.1 x80.1 s0.2.2.1 e x80.2).bind fun x85=>
           some (.inl ((w64 (x80.1+1)),s0.2.1,s0.2.2.1,true,false,x85))
          else
           (rc s0.1 x80.1 s0.2.2.1 e x80.2).bind fun x86=>
           some (.inl ((w64 (x80.1+1)),s0.2.1,s0.2.2.1,false,false,x86))
         else
          bif (decide ((w64 (Int.tdiv (w64 (s0.2.1-s0.1)) 8))<=(w64 (s0.2.1-x80.1)))) then
           (rc (w64 (x80.1+1)) s0.2.1 s0.2.2.1 e x80.2).bind fun x87=>
           some (.inl (s0.1,x80.1,s0.2.2.1,true,false,x87))
          else
           (rc (w64 (x80.1+1)) s0.2.1 s0.2.2.1 e x80.2).bind fun x88=>
           some (.inl (s0.1,x80.1,s0.2.2.1,false,false,x88))
       else
        (ZE s0.1 s0.2.1 (w64 ((w64 (s0.2.1-1))-(w64 (x75.1-s0.1)))) e x76).bind fun x89=>
        some (.inl (x89.1,s0.2.1,s0.2.2.1,true,false,x89.2))
      else
       (Zt s0.1 s0.2.1 (w64 ((w64 (s0.2.1-1))-(w64 (x75.1-s0.1)))) e x76).bind fun x90=>
       match x90 with
       | (.inl x90)=>
        bif (decide ((w64 (x90.1-s0.1))<(w64 (s0.2.1-x90.1)))) then
         bif (decide ((w64 (Int.tdiv (w64 (s0.2.1-s0.1)) 8))<=(w64 (x90.1-s0.1)))) then
          (rc s0.1 x90.1 s0.2.2.1 e x90.2).bind fun x91=>
          some (.inl ((w64 (x90.1+1)),s0.2.1,s0.2.2.1,true,true,x91))
         else
          (rc s0.1 x90.1 s0.2.2.1 e x90.2).bind fun x92=>
          some (.inl ((w64 (x90.1+1)),s0.2.1,s0.2.2.1,false,true,x92))
        else
         bif (decide ((w64 (Int.tdiv (w64 (s0.2.1-s0.1)) 8))<=(w64 (s0.2.1-x90.1)))) then
          (rc (w64 (x90.1+1)) s0.2.1 s0.2.2.1 e x90.2).bind fun x93=>
          some (.inl (s0.1,x90.1,s0.2.2.1,true,true,x93))
         else
          (rc (w64 (x90.1+1)) s0.2.1 s0.2.2.1 e x90.2).bind fun x94=>
          some (.inl (s0.1,x90.1,s0.2.2.1,false,true,x94))
       | (.inr x90)=>
        bif (decide ((w64 (x90.1-s0.1))<(w64 (s0.2.1-x90.1)))) then
         bif (decide ((w64 (Int.tdiv (w64 (s0.2.1-s0.1)) 8))<=(w64 (x90.1-s0.1)))) then
          (rc s0.1 x90.1 s0.2.2.1 e x90.2).bind fun x95=>
          some (.inl ((w64 (x90.1+1)),s0.2.1,s0.2.2.1,true,false,x95))
         else
          (rc s0.1 x90.1 s0.2.2.1 e x90.2).bind fun x96=>
          some (.inl ((w64 (x90.1+1)),s0.2.1,s0.2.2.1,false,false,x96))
        else
         bif (decide ((w64 (Int.tdiv (w64 (s0.2.1-s0.1)) 8))<=(w64 (s0.2.1-x90.1)))) then
          (rc (w64 (x90.1+1)) s0.2.1 s0.2.2.1 e x90.2).bind fun x97=>
          some (.inl (s0.1,x90.1,s0.2.2.1,true,false,x97))
         else
          (rc (w64 (x90.1+1)) s0.2.1 s0.2.2.1 e x90.2).bind fun x98=>
          some (.inl (s0.1,x90.1,s0.2.2.1,false,false,x98))
     else
      bif (decide (0<s0.1)) then
       (Zz s0.2.2.2.2.2 (w64 (s0.1-1))).bind fun x99=>
       (Zz s0.2.2.2.2.2 x75.1).bind fun x100=>
       (e x99 x100).bind fun x101=>
       bif (decide (x101<0)) then
        (Zt s0.1 s0.2.1 x75.1 e s0.2.2.2.2.2).bind fun x102=>
        match x102 with
        | (.inl x102)=>
         bif (decide ((w64 (x102.1-s0.1))<(w64 (s0.2.1-x102.1)))) then
          bif (decide ((w64 (Int.tdiv (w64 (s0.2.1-s0.1)) 8))<=(w64 (x102.1-s0.1)))) then
           (rc s0.1 x102.1 s0.2.2.1 e x102.2).bind fun x103=>
           some (.inl ((w64 (x102.1+1)),s0.2.1,s0.2.2.1,true,true,x103))
          else
           (rc s0.1 x102.1 s0.2.2.1 e x102.2).bind fun x104=>
           some (.inl ((w64 (x102.1+1)),s0.2.1,s0.2.2.1,false,true,x104))
         else
          bif (decide ((w64 (Int.tdiv (w64 (s0.2.1-s0.1)) 8))<=(w64 (s0.2.1-x102.1)))) then
           (rc (w64 (x102.1+1)) s0.2.1 s0.2.2.1 e x102.2).bind fun x105=>
           some (.inl (s0.1,x102.1,s0.2.2.1,true,true,x105))
          else
           (rc (w64 (x102.1+1)) s0.2.1 s0.2.2.1 e x102.2).bind fun x106=>
           some (.inl (s0.1,x102.1,s0.2.2.1,false,true,x106))
        | (.inr x102)=>
         bif (decide ((w64 (x102.1-s0.1))<(w64 (s0.2.1-x102.1)))) then
          bif (decide ((w64 (Int.tdiv (w64 (s0.2.1-s0.1)) 8))<=(w64 (x102.1-s0.1)))) then
           (rc s0.1 x102.1 s0.2.2.1 e x102.2).bind fun x107=>
           some (.inl ((w64 (x102.1+1)),s0.2.1,s0.2.2.1,true,false,x107))
          else
           (rc s0.1 x102.1 s0.2.2.1 e x102.2).bind fun x108=>
           some (.inl ((w64 (x102.1+1)),s0.2.1,s0.2.2.1,false,false,x108))
         else
          bif (decide ((w64 (Int.tdiv (w64 (s0.2.1-s0.1)) 8))<=(w64 (s0.2.1-x102.1)))) then
           (rc (w64 (x102.1+1)) s0.2.1 s0.2.2.1 e x102.2).bind fun x109=>
           some (.inl (s0.1,x102.1,s0.2.2.1,true,false,x109))
          else
           (rc (w64 (x102.1+1)) s0.2.1 s0.2.2.1 e x102.2).bind fun x110=>
           some (.inl (s0.1,x102.1,s0.2.2.1,false,false,x110))
       else
        (ZE s0.1 s0.2.1 x75.1 e s0.2.2.2.2.2).bind fun x111=>
        some (.inl (x111.1,s0.2.1,s0.2.2.1,true,false,x111.2))
      else
       (Zt s0.1 s0.2.1 x75.1 e s0.2.2.2.2.2).bind fun x112=>
       match x112 with
       | (.inl x112)=>
        bif (decide ((w64 (x112.1-s0.1))<(w64 (s0.2.1-x112.1)))) then
         bif (decide ((w64 (Int.tdiv (w64 (s0.2.1-s0.1)) 8))<=(w64 (x112.1-s0.1)))) then
          (rc s0.1 x112.1 s0.2.2.1 e x112.2).bind fun x113=>
          some (.inl ((w64 (x112.1+1)),s0.2.1,s0.2.2.1,true,true,x113))
         else
          (rc s0.1 x112.1 s0.2.2.1 e x112.2).bind fun x114=>
          some (.inl ((w64 (x112.1+1)),s0.2.1,s0.2.2.1,false,true,x114))
        else
         bif (decide ((w64 (Int.tdiv (w64 (s0.2.1-s0.1)) 8))<=(w64 (s0.2.1-x112.1)))) then
          (rc (w64 (x112.1+1)) s0.2.1 s0.2.2.1 e x112.2).bind fun x115=>
          some (.inl (s0.1,x112.1,s0.2.2.1,true,true,x115))
         else
          (rc (w64 (x112.1+1)) s0.2.1 s0.2.2.1 e x112.2).bind fun x116=>
          some (.inl (s0.1,x112.1,s0.2.2.1,false,true,x116))
       | (.inr x112)=>
        bif (decide ((w64 (x112.1-s0.1))<(w64 (s0.2.1-x112.1)))) then
         bif (decide ((w64 (Int.tdiv (w64 (s0.2.1-s0.1)) 8))<=(w64 (x112.1-s0.1)))) then
          (rc s0.1 x112.1 s0.2.2.1 e x112.2).bind fun x117=>
          some (.inl ((w64 (x112.1+1)),s0.2.1,s0.2.2.1,true,false,x117))
         else
          (rc s0.1 x112.1 s0.2.2.1 e x112.2).bind fun x118=>
          some (.inl ((w64 (x112.1+1)),s0.2.1,s0.2.2.1,false,false,x118))
        else
         bif (decide ((w64 (Int.tdiv (w64 (s0.2.1-s0.1)) 8))<=(w64 (s0.2.1-x112.1)))) then
          (rc (w64 (x112.1+1)) s0.2.1 s0.2.2.1 e x112.2).bind fun x119=>
          some (.inl (s0.1,x112.1,s0.2.2.1,true,false,x119))
         else
          (rc (w64 (x112.1+1)) s0.2.1 s0.2.2.1 e x112.2).bind fun x120=>
          some (.inl (s0.1,x112.1,s0.2.2.1,false,false,x120))
 else
  bif s0.2.2.2.2.1 then
   bif (decide ((w64 (s0.2.1-s0.1))<=12)) then
    (ZZ s0.1 s0.2.1 e s0.2.2.2.2.2).bind fun x121=>
    some (.inr x121)
   else
    bif (s0.2.2.1==0) then
     (Z9 s0.1 s0.2.1 e s0.2.2.2.2.2).bind fun x122=>
     some (.inr x122)
    else
     (Zae s0.1 s0.2.1 e s0.2.2.2.2.2).bind fun x123=>
     (ZR s0.1 s0.2.1 e x123).bind fun x124=>
     bif (x124.2==2) then
      (ZP s0.1 s0.2.1 e x123).bind fun x125=>
      bif (decide (0<s0.1)) then
       (Zz x125 (w64 (s0.1-1))).bind fun x126=>
       (Zz x125 (w64 ((w64 (s0.2.1-1))-(w64 (x124.1-s0.1))))).bind fun x127=>
       (e x126 x127).bind fun x128=>
       bif (decide (x128<0)) then
        (Zt s0.1 s0.2.1 (w64 ((w64 (s0.2.1-1))-(w64 (x124.1-s0.1)))) e x125).bind fun x129=>
        match x129 with
        | (.inl x129)=>
         bif (decide ((w64 (x129.1-s0.1))<(w64 (s0.2.1-x129.1)))) then
          bif (decide ((w64 (Int.tdiv (w64 (s0.2.1-s0.1)) 8))<=(w64 (x129.1-s0.1)))) then
           (rc s0.1 x129.1 (w64 (s0.2.2.1-1)) e x129.2).bind fun x130=>
           some (.inl ((w64 (x129.1+1)),s0.2.1,(w64 (s0.2.2.1-1)),true,true,x130))
          else
           (rc s0.1 x129.1 (w64 (s0.2.2.1-1)) e x129.2).bind fun x131=>
           some (.inl ((w64 (x129.1+1)),s0.2.1,(w64 (s0.2.2.1-1)),false,true,x131))
         else
          bif (decide ((w64 (Int.tdiv (w64 (s0.2.1-s0.1)) 8))<=(w64 (s0.2.1-x129.1)))) then
           (rc (w64 (x129.1+1)) s0.2.1 (w64 (s0.2.2.1-1)) e x129.2).bind fun x132=>
           some (.inl (s0.1,x129.1,(w64 (s0.2.2.1-1)),true,true,x132))
          else
           (rc (w64 (x129.1+1)) s0.2.1 (w64 (s0.2.2.1-1)) e x129.2).bind fun x133=>
           some (.inl (s0.1,x129.1,(w64 (s0.2.2.1-1)),false,true,x133))
        | (.inr x129)=>
         bif (decide ((w64 (x129.1-s0.1))<(w64 (s0.2.1-x129.1)))) then
          bif (decide ((w64 (Int.tdiv (w64 (s0.2.1-s0.1)) 8))<=(w64 (x129.1-s0.1)))) then
           (rc s0.1 x129.1 (w64 (s0.2.2.1-1)) e x129.2).bind fun x134=>
           some (.inl ((w64 (x129.1+1)),s0.2.1,(w64 (s0.2.2.1-1)),true,false,x134))
          else
           (rc s0.1 x129.1 (w64 (s0.2.2.1-1)) e x129.2).bind fun x135=>
           some (.inl ((w64 (x129.1+1)),s0.2.1,(w64 (s0.2.2.1-1)),false,false,x135))
         else
          bif (decide ((w64 (Int.tdiv (w64 (s0.2.1-s0.1)) 8))<=(w64 (s0.2.1-x129.1)))) then
           (rc (w64 (x129.1+1)) s0.2.1 (w64 (s0.2.2.1-1)) e x129.2).bind fun x136=>
           some (.inl (s0.1,x129.1,(w64 (s0.2.2.1-1)),true,false,x136))
          else
           (rc (w64 (x129.1+1)) s0.2.1 (w64 (s0.2.2.1-1)) e x129.2).bind fun x137=>
           some (.inl (s0.1,x129.1,(w64 (s0.2.2.1-1)),false,false,x137))
       else
        (ZE s0.1 s0.2.1 (w64 ((w64 (s0.2.1-1))-(w64 (x124.1-s0.1)))) e x125).bind fun x138=>
        some (.inl (x138.1,s0.2.1,(w64 (s0.2.2.1-1)),false,true,x138.2))
      else
       (Zt s0.1 s0.2.1 (w64 ((w64 (s0.2.1-1))-(w64 (x124.1-s0.1)))) e x125).bind fun x139=>
       match x139 with
       | (.inl x139)=>
        bif (decide ((w64 (x139.1-s0.1))<(w64 (s0.2.1-x139.1)))) then
         bif (decide ((w64 (Int.tdiv (w64 (s0.2.1-s0.1)) 8))<=(w64 (x139.1-s0.1)))) then
          (rc s0.1 x139.1 (w64 (s0.2.2.1-1)) e x139.2).bind fun x140=>
          some (.inl ((w64 (x139.1+1)),s0.2.1,(w64 (s0.2.2.1-1)),true,true,x140))
         else
          (rc s0.1 x139.1 (w64 (s0.2.2.1-1)) e x139.2).bind fun x141=>
          some (.inl ((w64 (x139.1+1)),s0.2.1,(w64 (s0.2.2.1-1)),false,true,x141))
        else
         bif (decide ((w64 (Int.tdiv (w64 (s0.2.1-s0.1)) 8))<=(w64 (s0.2.1-x139.1)))) then
          (rc (w64 (x139.1+1)) s0.2.1 (w64 (s0.2.2.1-1)) e x139.2).bind fun x142=>
          some (.inl (s0.1,x139.1,(w64 (s0.2.2.1-1)),true,true,x142))
         else
          (rc (w64 (x139.1+1)) s0.2.1 (w64 (s0.2.2.1-1)) e x139.2).bind fun x143=>
          some (.inl (s0.1,x139.1,(w64 (s0.2.2.1-1)),false,true,x143))
       | (.inr x139)=>
        bif (decide ((w64 (x139.1-s0.1))<(w64 (s0.2.1-x139.1)))) then
         bif (decide ((w64 (Int.tdiv (w64 (s0.2.1-s0.1)) 8))<=(w64 (x139.1-s0.1)))) then
          (rc s0.1 x139.1 (w64 (s0.2.2.1-1)) e x139.2).bind fun x144=>
          some (.inl ((w64 (x139.1+1)),s0.2.1,(w64 (s0.2.2.1-1)),true,false,x144))
         else
          (rc s0.1 x139.1 (w64 (s0.2.2.1-1)) e x139.2).bind fun x145=>
          some (.inl ((w64 (x139.1+1)),s0.2.1,(w64 (s0.2.2.1-1)),false,false,x145))
        else
         bif (decide ((w64 (Int.tdiv (w64 (s0.2.1-s0.1)) 8))<=(w64 (s0.2.1-x139.1)))) then
          (rc (w64 (x139.1+1)) s0.2.1 (w64 (s0.2.2.1-1)) e x139.2).bind fun x146=>
          some (.inl (s0.1,x139.1,(w64 (s0.2.2.1-1)),true,false,x146))
         else
          (rc (w64 (x139.1+1)) s0.2.1 (w64 (s0.2.2.1-1)) e x139.2).bind fun x147=>
          some (.inl (s0.1,x139.1,(w64 (s0.2.2.1-1)),false,false,x147))
     else
      bif (decide (0<s0.1)) then
       (Zz x123 (w64 (s0.1-1))).bind fun x148=>
       (Zz x123 x124.1).bind fun x149=>
       (e x148 x149).bind fun x150=>
       bif (decide (x150<0)) then
        (Zt s0.1 s0.2.1 x124.1 e x123).bind fun x151=>
        match x151 with
        | (.inl x151)=>
         bif (decide ((w64 (x151.1-s0.1))<(w64 (s0.2.1-x151.1)))) then
          bif (decide ((w64 (Int.tdiv (w64 (s0.2.1-s0.1)) 8))<=(w64 (x151.1-s0.1)))) then
           (rc s0.1 x151.1 (w64 (s0.2.2.1-1)) e x151.2).bind fun x152=>
           some (.inl ((w64 (x151.1+1)),s0.2.1,(w64 (s0.2.2.1-1)),true,true,x152))
          else
           (rc s0.1 x151.1 (w64 (s0.2.2.1-1)) e x151.2).bind fun x153=>
           some (.inl ((w64 (x151.1+1)),s0.2.1,(w64 (s0.2.2.1-1)),false,true,x153))
         else
          bif (decide ((w64 (Int.tdiv (w64 (s0.2.1-s0.1)) 8))<=(w64 (s0.2.1-x151.1)))) then
           (rc (w64 (x151.1+1)) s0.2.1 (w64 (s0.2.2.1-1)) e x151.2).bind fun x154=>
           some (.inl (s0.1,x151.1,(w64 (s0.2.2.1-1)),true,true,x154))
          else
           (rc (w64 (x151.1+1)) s0.2.1 (w64 (s0.2.2.1-1)) e x151.2).bind fun x155=>
           some (.inl (s0.1,x151.1,(w64 (s0.2.2.1-1)),false,true,x155))
        | (.inr x151)=>
         bif (decide ((w64 (x151.1-s0.1))<(w64 (s0.2.1-x151.1)))) then
          bif (decide ((w64 (Int.tdiv (w64 (s0.2.1-s0.1)) 8))<=(w64 (x151.1-s0.1)))) then
           (rc s0.1 x151.1 (w64 (s0.2.2.1-1)) e x151.2).bind fun x156=>
           some (.inl ((w64 (x151.1+1)),s0.2.1,(w64 (s0.2.2.1-1)),true,false,x156))
          else
           (rc s0.1 x151.1 (w64 (s0.2.2.1-1)) e x151.2).bind fun x157=>
           some (.inl ((w64 (x151.1+1)),s0.2.1,(w64 (s0.2.2.1-1)),false,false,x157))
         else
          bif (decide ((w64 (Int.tdiv (w64 (s0.2.1-s0.1)) 8))<=(w64 (s0.2.1-x151.1)))) then
           (rc (w64 (x151.1+1)) s0.2.1 (w64 (s0.2.2.1-1)) e x151.2).bind fun x158=>
           some (.inl (s0.1,x151.1,(w64 (s0.2.2.1-1)),true,false,x158))
          else
           (rc (w64 (x151.1+1)) s0.2.1 (w64 (s0.2.2.1-1)) e x151.2).bind fun x159=>
           some (.inl (s0.1,x151.1,(w64 (s0.2.2.1-1)),false,false,x159))
       else
        (ZE s0.1 s0.2.1 x124.1 e x123).bind fun x160=>
        some (.inl (x160.1,s0.2.1,(w64 (s0.2.2.1-1)),false,true,x160.2))
      else
       (Zt s0.1 s0.2.1 x124.1 e x123).bind fun x161=>
       match x161 with
       | (.inl x161)=>
        bif (decide ((w64 (x161.1-s0.1))<(w64 (s0.2.1-x161.1)))) then
         bif (decide ((w64 (Int.tdiv (w64 (s0.2.1-s0.1)) 8))<=(w64 (x161.1-s0.1)))) then
          (rc s0.1 x161.1 (w64 (s0.2.2.1-1)) e x161.2).bind fun x162=>
          some (.inl ((w64 (x161.1+1)),s0.2.1,(w64 (s0.2.2.1-1)),true,true,x162))
         else
          (rc s0.1 x161.1 (w64 (s0.2.2.1-1)) e x161.2).bind fun x163=>
          some (.inl ((w64 (x161.1+1)),s0.2.1,(w64 (s0.2.2.1-1)),false,true,x163))
        else
         bif (decide ((w64 (Int.tdiv (w64 (s0.2.1-s0.1)) 8))<=(w64 (s0.2.1-x161.1)))) then
          (rc (w64 (x161.1+1)) s0.2.1 (w64 (s0.2.2.1-1)) e x161.2).bind fun x164=>
          some (.inl (s0.1,x161.1,(w64 (s0.2.2.1-1)),true,true,x164))
         else
          (rc (w64 (x161.1+1)) s0.2.1 (w64 (s0.2.2.1-1)) e x161.2).bind fun x165=>
          some (.inl (s0.1,x161.1,(w64 (s0.2.2.1-1)),false,true,x165))
       | (.inr x161)=>
        bif (decide ((w64 (x161.1-s0.1))<(w64 (s0.2.1-x161.1)))) then
         bif (decide ((w64 (Int.tdiv (w64 (s0.2.1-s0.1)) 8))<=(w64 (x161.1-s0.1)))) then
          (rc s0.1 x161.1 (w64 (s0.2.2.1-1)) e x161.2).bind fun x166=>
          some (.inl ((w64 (x161.1+1)),s0.2.1,(w64 (s0.2.2.1-1)),true,false,x166))
         else
          (rc s0.1 x161.1 (w64 (s0.2.2.1-1)) e x161.2).bind fun x167=>
          some (.inl ((w64 (x161.1+1)),s0.2.1,(w64 (s0.2.2.1-1)),false,false,x167))
        else
         bif (decide ((w64 (Int.tdiv (w64 (s0.2.1-s0.1)) 8))<=(w64 (s0.2.1-x161.1)))) then
          (rc (w64 (x161.1+1)) s0.2.1 (w64 (s0.2.2.1-1)) e x161.2).bind fun x168=>
          some (.inl (s0.1,x161.1,(w64 (s0.2.2.1-1)),true,false,x168))
         else
          (rc (w64 (x161.1+1)) s0.2.1 (w64 (s0.2.2.1-1)) e x161.2).bind fun x169=>
          some (.inl (s0.1,x161.1,(w64 (s0.2.2.1-1)),false,false,x169))
  else
   bif (decide ((w64 (s0.2.1-s0.1))<=12)) then
    (ZZ s0.1 s0.2.1 e s0.2.2.2.2.2).bind fun x170=>
    some (.inr x170)
   else
    bif (s0.2.2.1==0) then
     (Z9 s0.1 s0.2.1 e s0.2.2.2.2.2).bind fun x171=>
     some (.inr x171)
    else
     (Zae s0.1 s0.2.1 e s0.2.2.2.2.2).bind fun x172=>
     (ZR s0.1 s0.2.1 e x172).bind fun x173=>
     bif (x173.2==2) then
      (ZP s0.1 s0.2.1 e x172).bind fun x174=>
      bif (decide (0<s0.1)) then
       (Zz x174 (w64 (s0.1-1))).bind fun x175=>
       (Zz x174 (w64 ((w64 (s0.2.1-1))-(w64 (x173.1-s0.1))))).bind fun x176=>
       (e x175 x176).bind fun x177=>
       bif (decide (x177<0)) then
        (Zt s0.1 s0.2.1 (w64 ((w64 (s0.2.1-1))-(w64 (x173.1-s0.1)))) e x174).bind fun x178=>
        match x178 with
        | (.inl x178)=>
         bif (decide ((w64 (x178.1-s0.1))<(w64 (s0.2.1-x178.1)))) then
          bif (decide ((w64 (Int.tdiv (w64 (s0.2.1-s0.1)) 8))<=(w64 (x178.1-s0.1)))) then
           (rc s0.1 x178.1 (w64 (s0.2.2.1-1)) e x178.2).bind fun x179=>
           some (.inl ((w64 (x178.1+1)),s0.2.1,(w64 (s0.2.2.1-1)),true,true,x179))
          else
           (rc s0.1 x178.1 (w64 (s0.2.2.1-1)) e x178.2).bind fun x180=>
           some (.inl ((w64 (x178.1+1)),s0.2.1,(w64 (s0.2.2.1-1)),false,true,x180))
         else
          bif (decide ((w64 (Int.tdiv (w64 (s0.2.1-s0.1)) 8))<=(w64 (s0.2.1-x178.1)))) then
           (rc (w64 (x178.1+1)) s0.2.1 (w64 (s0.2.2.1-1)) e x178.2).bind fun x181=>
           some (.inl (s0.1,x178.1,(w64 (s0.2.2.1-1)),true,true,x181))
          else
           (rc (w64 (x178.1+1)) s0.2.1 (w64 (s0.2.2.1-1)) e x178.2).bind fun x182=>
           some (.inl (s0.1,x178.1,(w64 (s0.2.2.1-1)),false,true,x182))
        | (.inr x178)=>
         bif (decide ((w64 (x178.1-s0.1))<(w64 (s0.2.1-x178.1)))) then
          bif (decide ((w64 (Int.tdiv (w64 (s0.2.1-s0.1)) 8))<=(w64 (x178.1-s0.1)))) then
           (rc s0.1 x178.1 (w64 (s0.2.2.1-1)) e x178.2).bind fun x183=>
           some (.inl ((w64 (x178.1+1)),s0.2.1,(w64 (s0.2.2.1-1)),true,false,x183))
          else
           (rc s0.1 x178.1 (w64 (s0.2.2.1-1)) e x178.2).bind fun x184=>
           some (.inl ((w64 (x178.1+1)),s0.2.1,(w64 (s0.2.2.1-1)),false,false,x184))
         else
          bif (decide ((w64 (Int.tdiv (w64 (s0.2.1-s0.1)) 8))<=(w64 (s0.2.1-x178.1)))) then
           (rc (w64 (x178.1+1)) s0.2.1 (w64 (s0.2.2.1-1)) e x178.2).bind fun x185=>
           some (.inl (s0.1,x178.1,(w64 (s0.2.2.1-1)),true,false,x185))
          else
           (rc (w64 (x178.1+1)) s0.2.1 (w64 (s0.2.2.1-1)) e x178.2).bind fun x186=>
           some (.inl (s0.1,x178.1,(w64 (s0.2.2.1-1)),false,false,x186))
       else
        (ZE s0.1 s0.2.1 (w64 ((w64 (s0.2.1-1))-(w64 (x173.1-s0.1)))) e x174).bind fun x187=>
        some (.inl (x187.1,s0.2.1,(w64 (s0.2.2.1-1)),false,false,x187.2))
      else
       (Zt s0.1 s0.2.1 (w64 ((w64 (s0.2.1-1))-(w64 (x173.1-s0.1)))) e x174).bind fun x188=>
       match x188 with
       | (.inl x188)=>
        bif (decide ((w64 (x188.1-s0.1))<(w64 (s0.2.1-x188.1)))) then
         bif (decide ((w64 (Int.tdiv (w64 (s0.2.1-s0.1)) 8))<=(w64 (x188.1-s0.1)))) then
          (rc s0.1 x188.1 (w64 (s0.2.2.1-1)) e x188.2).bind fun x189=>
          some (.inl ((w64 (x188.1+1)),s0.2.1,(w64 (s0.2.2.1-1)),true,true,x189))
         else
          (rc s0.1 x188.1 (w64 (s0.2.2.1-1)) e x188.2).bind fun x190=>
          some (.inl ((w64 (x188.1+1)),s0.2.1,(w64 (s0.2.2.1-1)),false,true,x190))
        else
         bif (decide ((w64 (Int.tdiv (w64 (s0.2.1-s0.1)) 8))<=(w64 (s0.2.1-x188.1)))) then
          (rc (w64 (x188.1+1)) s0.2.1 (w64 (s0.2.2.1-1)) e x188.2).bind fun x191=>
          some (.inl (s0.1,x188.1,(w64 (s0.2.2.1-1)),true,true,x191))
         else
          (rc (w64 (x188.1+1)) s0.2.1 (w64 (s0.2.2.1-1)) e x188.2).bind fun x192=>
          some (.inl (s0.1,x188.1,(w64 (s0.2.2.1-1)),false,true,x192))
       | (.inr x188)=>
        bif (decide ((w64 (x188.1-s0.1))<(w64 (s0.2.1-x188.1)))) then
         bif (decide ((w64 (Int.tdiv (w64 (s0.2.1-s0.1)) 8))<=(w64 (x188.1-s0.1)))) then
          (rc s0.1 x188.1 (w64 (s0.2.2.1-1)) e x188.2).bind fun x193=>
          some (.inl ((w64 (x188.1+1)),s0.2.1,(w64 (s0.2.2.1-1)),true,false,x193))
         else
          (rc s0.1 x188.1 (w64 (s0.2.2.1-1)) e x188.2).bind fun x194=>
          some (.inl ((w64 (x188.1+1)),s0.2.1,(w64 (s0.2.2.1-1)),false,false,x194))
        else
         bif (decide ((w64 (Int.tdiv (w64 (s0.2.1-s0.1)) 8))<=(w64 (s0.2.1-x188.1)))) then
          (rc (w64 (x188.1+1)) s0.2.1 (w64 (s0.2.2.1-1)) e x188.2).bind fun x195=>
          some (.inl (s0.1,x188.1,(w64 (s0.2.2.1-1)),true,false,x195))
         else
          (rc (w64 (x188.1+1)) s0.2.1 (w64 (s0.2.2.1-1)) e x188.2).bind fun x196=>
          some (.inl (s0.1,x188.1,(w64 (s0.2.2.1-1)),false,false,x196))
     else
      bif (decide (0<s0.1)) then
       (Zz x172 (w64 (s0.1-1))).bind fun x197=>
       (Zz x172 x173.1).bind fun x198=>
       (e x197 x198).bind fun x199=>
       bif (decide (x199<0)) then
        (Zt s0.1 s0.2.1 x173.1 e x172).bind fun x200=>
        match x200 with
        | (.inl x200)=>
         bif (decide ((w64 (x200.1-s0.1))<(w64 (s0.2.1-x200.1)))) then
          bif (decide ((w64 (Int.tdiv (w64 (s0.2.1-s0.1)) 8))<=(w64 (x200.1-s0.1)))) then
           (rc s0.1 x200.1 (w64 (s0.2.2.1-1)) e x200.2).bind fun x201=>
           some (.inl ((w64 (x200.1+1)),s0.2.1,(w64 (s0.2.2.1-1)),true,true,x201))
          else
           (rc s0.1 x200.1 (w64 (s0.2.2.1-1)) e x200.2).bind fun x202=>
           some (.inl ((w64 (x200.1+1)),s0.2.1,(w64 (s0.2.2.1-1)),false,true,x202))
         else
          bif (decide ((w64 (Int.tdiv (w64 (s0.2.1-s0.1)) 8))<=(w64 (s0.2.1-x200.1)))) then
           (rc (w64 (x200.1+1)) s0.2.1 (w64 (s0.2.2.1-1)) e x200.2).bind fun x203=>
           some (.inl (s0.1,x200.1,(w64 (s0.2.2.1-1)),true,true,x203))
          else
           (rc (w64 (x200.1+1)) s0.2.1 (w64 (s0.2.2.1-1)) e x200.2).bind fun x204=>
           some (.inl (s0.1,x200.1,(w64 (s0.2.2.1-1)),false,true,x204))
        | (.inr x200)=>
         bif (decide ((w64 (x200.1-s0.1))<(w64 (s0.2.1-x200.1)))) then
          bif (decide ((w64 (Int.tdiv (w64 (s0.2.1-s0.1)) 8))<=(w64 (x200.1-s0.1)))) then
           (rc s0.1 x200.1 (w64 (s0.2.2.1-1)) e x200.2).bind fun x205=>
           some (.inl ((w64 (x200.1+1)),s0.2.1,(w64 (s0.2.2.1-1)),true,false,x205))
          else
           (rc s0.1 x200.1 (w64 (s0.2.2.1-1)) e x200.2).bind fun x206=>
           some (.inl ((w64 (x200.1+1)),s0.2.1,(w64 (s0.2.2.1-1)),false,false,x206))
         else
          bif (decide ((w64 (Int.tdiv (w64 (s0.2.1-s0.1)) 8))<=(w64 (s0.2.1-x200.1)))) then
           (rc (w64 (x200.1+1)) s0.2.1 (w64 (s0.2.2.1-1)) e x200.2).bind fun x207=>
           some (.inl (s0.1,x200.1,(w64 (s0.2.2.1-1)),true,false,x207))
          else
           (rc (w64 (x200.1+1)) s0.2.1 (w64 (s0.2.2.1-1)) e x200.2).bind fun x208=>
           some (.inl (s0.1,x200.1,(w64 (s0.2.2.1-1)),false,false,x208))
       else
        (ZE s0.1 s0.2.1 x173.1 e x172).bind fun x209=>
        some (.inl (x209.1,s0.2.1,(w64 (s0.2.2.1-1)),false,false,x209.2))
      else
       (Zt s0.1 s0.2.1 x173.1 e x172).bind fun x210=>
       match x210 with
       | (.inl x210)=>
        bif (decide ((w64 (x210.1-s0.1))<(w64 (s0.2.1-x210.1)))) then
         bif (decide ((w64 (Int.tdiv (w64 (s0.2.1-s0.1)) 8))<=(w64 (x210.1-s0.1)))) then
          (rc s0.1 x210.1 (w64 (s0.2.2.1-1)) e x210.2).bind fun x211=>
          some (.inl ((w64 (x210.1+1)),s0.2.1,(w64 (s0.2.2.1-1)),true,true,x211))
         else
          (rc s0.1 x210.1 (w64 (s0.2.2.1-1)) e x210.2).bind fun x212=>
          some (.inl ((w64 (x210.1+1)),s0.2.1,(w64 (s0.2.2.1-1)),false,true,x212))
        else
         bif (decide ((w64 (Int.tdiv (w64 (s0.2.1-s0.1)) 8))<=(w64 (s0.2.1-x210.1)))) then
          (rc (w64 (x210.1+1)) s0.2.1 (w64 (s0.2.2.1-1)) e x210.2).bind fun x213=>
          some (.inl (s0.1,x210.1,(w64 (s0.2.2.1-1)),true,true,x213))
         else
          (rc (w64 (x210.1+1)) s0.2.1 (w64 (s0.2.2.1-1)) e x210.2).bind fun x214=>
          some (.inl (s0.1,x210.1,(w64 (s0.2.2.1-1)),false,true,x214))
       | (.inr x210)=>
        bif (decide ((w64 (x210.1-s0.1))<(w64 (s0.2.1-x210.1)))) then
         bif (decide ((w64 (Int.tdiv (w64 (s0.2.1-s0.1)) 8))<=(w64 (x210.1-s0.1)))) then
          (rc s0.1 x210.1 (w64 (s0.2.2.1-1)) e x210.2).bind fun x215=>
          some (.inl ((w64 (x210.1+1)),s0.2.1,(w64 (s0.2.2.1-1)),true,false,x215))
         else
          (rc s0.1 x210.1 (w64 (s0.2.2.1-1)) e x210.2).bind fun x216=>
          some (.inl ((w64 (x210.1+1)),s0.2.1,(w64 (s0.2.2.1-1)),false,false,x216))
        else
         bif (decide ((w64 (Int.tdiv (w64 (s0.2.1-s0.1)) 8))<=(w64 (s0.2.1-x210.1)))) then
          (rc (w64 (x210.1+1)) s0.2.1 (w64 (s0.2.2.1-1)) e x210.2).bind fun x217=>
          some (.inl (s0.1,x210.1,(w64 (s0.2.2.1-1)),true,false,x217))
         else
          (rc (w64 (x210.1+1)) s0.2.1 (w64 (s0.2.2.1-1)) e x210.2).bind fun x218=>
          some (.inl (s0.1,x210.1,(w64 (s0.2.2.1-1)),false,false,x218))
def Zaw (rc:Int->Int->Int->(Int->Int->Option Int)->(List Int)->Option (List Int)) (b:Int) (c:Int) (d:Int) (e:(Int->Int->Option Int)) (mG:List Int):Option (List Int):=
 (lp (ZB e rc) (b,c,d,true,true,mG)).bind fun r219=>
 some r219
def ZQ:Nat->Int->Int->Int->(Int->Int->Option Int)->(List Int)->Option (List Int)
 | 0=>fun _ _ _ _ _=>none
 | n+1=>Zaw (ZQ n)
def ZcE (b:Int) (c:Int) (d:Int) (e:(Int->Int->Option Int)) (mG:List Int):Option (List Int):=ZCP fun n=>ZQ n b c d e mG
def Zar (b:(Int->Int->Option Int)) (mG:List Int):Option (List Int):=
 (Zgo (u64.wrap (mG.length:Int))).bind fun x0=>
 (ZcE 0 (mG.length:Int) x0 b mG).bind fun x1=>
 some x1
def Ze6 (a:Zq) (b:Int) (s1:Int×(List Int)):Option ((Int×(List Int))⊕(List Int)):=
 bif (decide (s1.1<(a.futures.length:Int))) then
  (Zz a.futures s1.1).bind fun x2=>
  bif (x2.user==b) then
   bif (Nat.ble (List.length s1.2+1) lim) then
    some (.inl ((w64 (s1.1+1)),(s1.2++[s1.1])))
   else
    none
  else
   some (.inl ((w64 (s1.1+1)),s1.2))
 else
  some (.inr s1.2)
def Zem (a:Zq) (b:Int):Option (List Int):=
 (Zh9 a).bind fun x0=>
 bif (x0 != 0) then
  some ([]:List Int)
 else
  (lp (Ze6 a b) (0,([]:List Int))).bind fun r3=>
  (Zar (fun z0 z1=>Zv z0 z1 a.futures) r3).bind fun x4=>
  some x4
def Zau (b:Zg) (c:Int) (mA:List Int) (mH:List Zg):Option Unit:=
 bif (Nat.ble (List.length mH+1) lim) then
  bif (Nat.ble (List.length mA+1) lim) then
   some ()
  else
   none
 else
  none
def ZM (b:Int) (c:Int) (mI:List Zs):Option Unit:=
 bif (Nat.ble (List.length mI+1) lim) then
  some ()
 else
  none
def ZF (b:Zq) (c:Int) (x0:List Int) (s14:Int×Int×(List (Int×Int))×(List (Zj×Int))×(List Int)×(List Zs)×(List Zg)):Option ((Int×Int×(List (Int×Int))×(List (Zj×Int))×(List Int)×(List Zs)×(List Zg))⊕((List (Int×Int))×(List (Zj×Int))×(List Int)×(List Zs)×(List Zg))):=
 bif (decide (s14.2.1<(w64 ((x0.length:Int)+1)))) then
  (Zz b.parts c).bind fun x15=>
  bif (decide (s14.2.1<(x0.length:Int))) then
   (Zz x0 s14.2.1).bind fun x16=>
   (Zz b.futures x16).bind fun x17=>
   (Zau (Zg.mk c s14.2.1) (w64 (x17.pos-s14.1)) s14.2.2.2.2.1 s14.2.2.2.2.2.2).bind fun x18=>
   bif (decide (0<s14.2.1)) then
    (ZM (w64 ((Z8 (fun ka kb:Int=>(ka==kb)) (Zx (fun ka kb:Int=>(ka==kb)) s14.2.2.1 c (w64 ((List.length (s14.2.2.2.2.2.2++[(Zg.mk c s14.2.1)]):Int)-1))) c 0)-1)) (Z8 (fun ka kb:Int=>(ka==kb)) (Zx (fun ka kb:Int=>(ka==kb)) s14.2.2.1 c (w64 ((List.length (s14.2.2.2.2.2.2++[(Zg.mk c s14.2.1)]):Int)-1))) c 0) s14.2.2.2.2.2.1).bind fun x19=>
    (Zz x0 (w64 (s14.2.1-1))).bind fun x20=>
    (Zz b.futures x20).bind fun x21=>
    some (.inl (x17.pos,(w64 (s14.2.1+1)),(Zx (fun ka kb:Int=>(ka==kb)) s14.2.2.1 c (w64 ((List.length (s14.2.2.2.2.2.2++[(Zg.mk c s14.2.1)]):Int)-1))),(Zx (fun ka kb:Zj=>((ka.maker==kb.maker)&&((ka.user==kb.user)&&((ka.pos==kb.pos)&&true)))) s14.2.2.2.1 x21 (Z8 (fun ka kb:Int=>(ka==kb)) (Zx (fun ka kb:Int=>(ka==kb)) s14.2.2.1 c (w64 ((List.length (s14.2.2.2.2.2.2++[(Zg.mk c s14.2.1)]):Int)-1))) c 0)),(s14.2.2.2.2.1++[(w64 (x17.pos-s14.1))]),(s14.2.2.2.2.2.1++[(Zs.mk (w64 ((Z8 (fun ka kb:Int=>(ka==kb)) (Zx (fun ka kb:Int=>(ka==kb)) s14.2.2.1 c (w64 ((List.length (s14.2.2.2.2.2.2++[(Zg.mk c s14.2.1)]):Int)-1))) c 0)-1)) (Z8 (fun ka kb:Int=>(ka==kb)) (Zx (fun ka kb:Int=>(ka==kb)) s14.2.2.1 c (w64 ((List.length (s14.2.2.2.2.2.2++[(Zg.mk c s14.2.1)]):Int)-1))) c 0))]),(s14.2.2.2.2.2.2++[(Zg.mk c s14.2.1)])))
   else
    some (.inl (x17.pos,(w64 (s14.2.1+1)),(Zx (fun ka kb:Int=>(ka==kb)) s14.2.2.1 c (w64 ((List.length (s14.2.2.2.2.2.2++[(Zg.mk c s14.2.1)]):Int)-1))),s14.2.2.2.1,(s14.2.2.2.2.1++[(w64 (x17.pos-s14.1))]),s14.2.2.2.2.2.1,(s14.2.2.2.2.2.2++[(Zg.mk c s14.2.1)])))
  else
   (Zau (Zg.mk c s14.2.1) (w64 (x15.work-s14.1)) s14.2.2.2.2.1 s14.2.2.2.2.2.2).bind fun x22=>
   bif (decide (0<s14.2.1)) then
    (ZM (w64 ((Z8 (fun ka kb:Int=>(ka==kb)) (Zx (fun ka kb:Int=>(ka==kb)) s14.2.2.1 c (w64 ((List.length (s14.2.2.2.2.2.2++[(Zg.mk c s14.2.1)]):Int)-1))) c 0)-1)) (Z8 (fun ka kb:Int=>(ka==kb)) (Zx (fun ka kb:Int=>(ka==kb)) s14.2.2.1 c (w64 ((List.length (s14.2.2.2.2.2.2++[(Zg.mk c s14.2.1)]):Int)-1))) c 0) s14.2.2.2.2.2.1).bind fun x23=>
    (Zz x0 (w64 (s14.2.1-1))).bind fun x24=>
    (Zz b.futures x24).bind fun x25=>
    some (.inl (x15.work,(w64 (s14.2.1+1)),(Zx (fun ka kb:Int=>(ka==kb)) s14.2.2.1 c (w64 ((List.length (s14.2.2.2.2.2.2++[(Zg.mk c s14.2.1)]):Int)-1))),(Zx (fun ka kb:Zj=>((ka.maker==kb.maker)&&((ka.user==kb.user)&&((ka.pos==kb.pos)&&true)))) s14.2.2.2.1 x25 (Z8 (fun ka kb:Int=>(ka==kb)) (Zx (fun ka kb:Int=>(ka==kb)) s14.2.2.1 c (w64 ((List.length (s14.2.2.2.2.2.2++[(Zg.mk c s14.2.1)]):Int)-1))) c 0)),(s14.2.2.2.2.1++[(w64 (x15.work-s14.1))]),(s14.2.2.2.2.2.1++[(Zs.mk (w64 ((Z8 (fun ka kb:Int=>(ka==kb)) (Zx (fun ka kb:Int=>(ka==kb)) s14.2.2.1 c (w64 ((List.length (s14.2.2.2.2.2.2++[(Zg.mk c s14.2.1)]):Int)-1))) c 0)-1)) (Z8 (fun ka kb:Int=>(ka==kb)) (Zx (fun ka kb:Int=>(ka==kb)) s14.2.2.1 c (w64 ((List.length (s14.2.2.2.2.2.2++[(Zg.mk c s14.2.1)]):Int)-1))) c 0))]),(s14.2.2.2.2.2.2++[(Zg.mk c s14.2.1)])))
   else
    some (.inl (x15.work,(w64 (s14.2.1+1)),(Zx (fun ka kb:Int=>(ka==kb)) s14.2.2.1 c (w64 ((List.length (s14.2.2.2.2.2.2++[(Zg.mk c s14.2.1)]):Int)-1))),s14.2.2.2.1,(s14.2.2.2.2.1++[(w64 (x15.work-s14.1))]),s14.2.2.2.2.2.1,(s14.2.2.2.2.2.2++[(Zg.mk c s14.2.1)])))
 else
  some (.inr (s14.2.2.1,s14.2.2.2.1,s14.2.2.2.2.1,s14.2.2.2.2.2.1,s14.2.2.2.2.2.2))
def Zcr (b:Zq) (c:Int) (mA:List Int) (mI:List Zs) (mH:List Zg) (mJ:(List (Int×Int))) (mK:(List (Zj×Int))) (x0:List Int) (x4:Zj) (s6:Unit):Option (Unit⊕(((List (Int×Int))×(List (Zj×Int))×(List Int)×(List Zs)×(List Zg))⊕Unit)):=
 bif (decide (1<(w64 ((x0.length:Int)+1)))) then
  (Zz b.parts c).bind fun x7=>
  bif (decide (1<(x0.length:Int))) then
   (Zz x0 1).bind fun x8=>
   (Zz b.futures x8).bind fun x9=>
   (Zau (Zg.mk c 1) (w64 (x9.pos-x4.pos)) (mA++[(w64 (x4.pos-0))]) (mH++[(Zg.mk c 0)])).bind fun x10=>
   (ZM (w64 ((Z8 (fun ka kb:Int=>(ka==kb)) (Zx (fun ka kb:Int=>(ka==kb)) (Zx (fun ka kb:Int=>(ka==kb)) mJ c (w64 ((List.length (mH++[(Zg.mk c 0)]):Int)-1))) c (w64 ((List.length ((mH++[(Zg.mk c 0)])++[(Zg.mk c 1)]):Int)-1))) c 0)-1)) (Z8 (fun ka kb:Int=>(ka==kb)) (Zx (fun ka kb:Int=>(ka==kb)) (Zx (fun ka kb:Int=>(ka==kb)) mJ c (w64 ((List.length (mH++[(Zg.mk c 0)]):Int)-1))) c (w64 ((List.length ((mH++[(Zg.mk c 0)])++[(Zg.mk c 1)]):Int)-1))) c 0) mI).bind fun x11=>
   (Zz x0 0).bind fun x12=>
   (Zz b.futures x12).bind fun x13=>
   (lp (ZF b c x0) (x9.pos,2,(Zx (fun ka kb:Int=>(ka==kb)) (Zx (fun ka kb:Int=>(ka==kb)) mJ c (w64 ((List.length (mH++[(Zg.mk c 0)]):Int)-1))) c (w64 ((List.length ((mH++[(Zg.mk c 0)])++[(Zg.mk c 1)]):Int)-1))),(Zx (fun ka kb:Zj=>((ka.maker==kb.maker)&&((ka.user==kb.user)&&((ka.pos==kb.pos)&&true)))) mK x13 (Z8 (fun ka kb:Int=>(ka==kb)) (Zx (fun ka kb:Int=>(ka==kb)) (Zx (fun ka kb:Int=>(ka==kb)) mJ c (w64 ((List.length (mH++[(Zg.mk c 0)]):Int)-1))) c (w64 ((List.length ((mH++[(Zg.mk c 0)])++[(Zg.mk c 1)]):Int)-1))) c 0)),((mA++[(w64 (x4.pos-0))])++[(w64 (x9.pos-x4.pos))]),(mI++[(Zs.mk (w64 ((Z8 (fun ka kb:Int=>(ka==kb)) (Zx (fun ka kb:Int=>(ka==kb)) (Zx (fun ka kb:Int=>(ka==kb)) mJ c (w64 ((List.length (mH++[(Zg.mk c 0)]):Int)-1))) c (w64 ((List.length ((mH++[(Zg.mk c 0)])++[(Zg.mk c 1)]):Int)-1))) c 0)-1)) (Z8 (fun ka kb:Int=>(ka==kb)) (Zx (fun ka kb:Int=>(ka==kb)) (Zx (fun ka kb:Int=>(ka==kb)) mJ c (w64 ((List.length (mH++[(Zg.mk c 0)]):Int)-1))) c (w64 ((List.length ((mH++[(Zg.mk c 0)])++[(Zg.mk c 1)]):Int)-1))) c 0))]),((mH++[(Zg.mk c 0)])++[(Zg.mk c 1)]))).bind fun r26=>
   some (.inr (.inl (r26.1,r26.2.1,r26.2.2.1,r26.2.2.2.1,r26.2.2.2.2)))
  else
   (Zau (Zg.mk c 1) (w64 (x7.work-x4.pos)) (mA++[(w64 (x4.pos-0))]) (mH++[(Zg.mk c 0)])).bind fun x27=>
   (ZM (w64 ((Z8 (fun ka kb:Int=>(ka==kb)) (Zx (fun ka kb:Int=>(ka==kb)) (Zx (fun ka kb:Int=>(ka==kb)) mJ c (w64 ((List.length (mH++[(Zg.mk c 0)]):Int)-1))) c (w64 ((List.length ((mH++[(Zg.mk c 0)])++[(Zg.mk c 1)]):Int)-1))) c 0)-1)) (Z8 (fun ka kb:Int=>(ka==kb)) (Zx (fun ka kb:Int=>(ka==kb)) (Zx (fun ka kb:Int=>(ka==kb)) mJ c (w64 ((List.length (mH++[(Zg.mk c 0)]):Int)-1))) c (w64 ((List.length ((mH++[(Zg.mk c 0)])++[(Zg.mk c 1)]):Int)-1))) c 0) mI).bind fun x28=>
   (Zz x0 0).bind fun x29=>
   (Zz b.futures x29).bind fun x30=>
   (lp (ZF b c x0) (x7.work,2,(Zx (fun ka kb:Int=>(ka==kb)) (Zx (fun ka kb:Int=>(ka==kb)) mJ c (w64 ((List.length (mH++[(Zg.mk c 0)]):Int)-1))) c (w64 ((List.length ((mH++[(Zg.mk c 0)])++[(Zg.mk c 1)]):Int)-1))),(Zx (fun ka kb:Zj=>((ka.maker==kb.maker)&&((ka.user==kb.user)&&((ka.pos==kb.pos)&&true)))) mK x30 (Z8 (fun ka kb:Int=>(ka==kb)) (Zx (fun ka kb:Int=>(ka==kb)) (Zx (fun ka kb:Int=>(ka==kb)) mJ c (w64 ((List.length (mH++[(Zg.mk c 0)]):Int)-1))) c (w64 ((List.length ((mH++[(Zg.mk c 0)])++[(Zg.mk c 1)]):Int)-1))) c 0)),((mA++[(w64 (x4.pos-0))])++[(w64 (x7.work-x4.pos))]),(mI++[(Zs.mk (w64 ((Z8 (fun ka kb:Int=>(ka==kb)) (Zx (fun ka kb:Int=>(ka==kb)) (Zx (fun ka kb:Int=>(ka==kb)) mJ c (w64 ((List.length (mH++[(Zg.mk c 0)]):Int)-1))) c (w64 ((List.length ((mH++[(Zg.mk c 0)])++[(Zg.mk c 1)]):Int)-1))) c 0)-1)) (Z8 (fun ka kb:Int=>(ka==kb)) (Zx (fun ka kb:Int=>(ka==kb)) (Zx (fun ka kb:Int=>(ka==kb)) mJ c (w64 ((List.length (mH++[(Zg.mk c 0)]):Int)-1))) c (w64 ((List.length ((mH++[(Zg.mk c 0)])++[(Zg.mk c 1)]):Int)-1))) c 0))]),((mH++[(Zg.mk c 0)])++[(Zg.mk c 1)]))).bind fun r43=>
   some (.inr (.inl (r43.1,r43.2.1,r43.2.2.1,r43.2.2.2.1,r43.2.2.2.2)))
 else
  some (.inr (.inr ()))
def Zdc (b:Zq) (c:Int) (mA:List Int) (mI:List Zs) (mH:List Zg) (mJ:(List (Int×Int))) (mK:(List (Zj×Int))) (x0:List Int) (x2:Z3) (s46:Unit):Option (Unit⊕(((List (Int×Int))×(List (Zj×Int))×(List Int)×(List Zs)×(List Zg))⊕Unit)):=
 bif (decide (1<(w64 ((x0.length:Int)+1)))) then
  (Zz b.parts c).bind fun x47=>
  bif (decide (1<(x0.length:Int))) then
   (Zz x0 1).bind fun x48=>
   (Zz b.futures x48).bind fun x49=>
   (Zau (Zg.mk c 1) (w64 (x49.pos-x2.work)) (mA++[(w64 (x2.work-0))]) (mH++[(Zg.mk c 0)])).bind fun x50=>
   (ZM (w64 ((Z8 (fun ka kb:Int=>(ka==kb)) (Zx (fun ka kb:Int=>(ka==kb)) (Zx (fun ka kb:Int=>(ka==kb)) mJ c (w64 ((List.length (mH++[(Zg.mk c 0)]):Int)-1))) c (w64 ((List.length ((mH++[(Zg.mk c 0)])++[(Zg.mk c 1)]):Int)-1))) c 0)-1)) (Z8 (fun ka kb:Int=>(ka==kb)) (Zx (fun ka kb:Int=>(ka==kb)) (Zx (fun ka kb:Int=>(ka==kb)) mJ c (w64 ((List.length (mH++[(Zg.mk c 0)]):Int)-1))) c (w64 ((List.length ((mH++[(Zg.mk c 0)])++[(Zg.mk c 1)]):Int)-1))) c 0) mI).bind fun x51=>
   (Zz x0 0).bind fun x52=>
   (Zz b.futures x52).bind fun x53=>
   (lp (ZF b c x0) (x49.pos,2,(Zx (fun ka kb:Int=>(ka==kb)) (Zx (fun ka kb:Int=>(ka==kb)) mJ c (w64 ((List.length (mH++[(Zg.mk c 0)]):Int)-1))) c (w64 ((List.length ((mH++[(Zg.mk c 0)])++[(Zg.mk c 1)]):Int)-1))),(Zx (fun ka kb:Zj=>((ka.maker==kb.maker)&&((ka.user==kb.user)&&((ka.pos==kb.pos)&&true)))) mK x53 (Z8 (fun ka kb:Int=>(ka==kb)) (Zx (fun ka kb:Int=>(ka==kb)) (Zx (fun ka kb:Int=>(ka==kb)) mJ c (w64 ((List.length (mH++[(Zg.mk c 0)]):Int)-1))) c (w64 ((List.length ((mH++[(Zg.mk c 0)])++[(Zg.mk c 1)]):Int)-1))) c 0)),((mA++[(w64 (x2.work-0))])++[(w64 (x49.pos-x2.work))]),(mI++[(Zs.mk (w64 ((Z8 (fun ka kb:Int=>(ka==kb)) (Zx (fun ka kb:Int=>(ka==kb)) (Zx (fun ka kb:Int=>(ka==kb)) mJ c (w64 ((List.length (mH++[(Zg.mk c 0)]):Int)-1))) c (w64 ((List.length ((mH++[(Zg.mk c 0)])++[(Zg.mk c 1)]):Int)-1))) c 0)-1)) (Z8 (fun ka kb:Int=>(ka==kb)) (Zx (fun ka kb:Int=>(ka==kb)) (Zx (fun ka kb:Int=>(ka==kb)) mJ c (w64 ((List.length (mH++[(Zg.mk c 0)]):Int)-1))) c (w64 ((List.length ((mH++[(Zg.mk c 0)])++[(Zg.mk c 1)]):Int)-1))) c 0))]),((mH++[(Zg.mk c 0)])++[(Zg.mk c 1)]))).bind fun r66=>
   some (.inr (.inl (r66.1,r66.2.1,r66.2.2.1,r66.2.2.2.1,r66.2.2.2.2)))
  else
   (Zau (Zg.mk c 1) (w64 (x47.work-x2.work)) (mA++[(w64 (x2.work-0))]) (mH++[(Zg.mk c 0)])).bind fun x67=>
   (ZM (w64 ((Z8 (fun ka kb:Int=>(ka==kb)) (Zx (fun ka kb:Int=>(ka==kb)) (Zx (fun ka kb:Int=>(ka==kb)) mJ c (w64 ((List.length (mH++[(Zg.mk c 0)]):Int)-1))) c (w64 ((List.length ((mH++[(Zg.mk c 0)])++[(Zg.mk c 1)]):Int)-1))) c 0)-1)) (Z8 (fun ka kb:Int=>(ka==kb)) (Zx (fun ka kb:Int=>(ka==kb)) (Zx (fun ka kb:Int=>(ka==kb)) mJ c (w64 ((List.length (mH++[(Zg.mk c 0)]):Int)-1))) c (w64 ((List.length ((mH++[(Zg.mk c 0)])++[(Zg.mk c 1)]):Int)-1))) c 0) mI).bind fun x68=>
   (Zz x0 0).bind fun x69=>
   (Zz b.futures x69).bind fun x70=>
   (lp (ZF b c x0) (x47.work,2,(Zx (fun ka kb:Int=>(ka==kb)) (Zx (fun ka kb:Int=>(ka==kb)) mJ c (w64 ((List.length (mH++[(Zg.mk c 0)]):Int)-1))) c (w64 ((List.length ((mH++[(Zg.mk c 0)])++[(Zg.mk c 1)]):Int)-1))),(Zx (fun ka kb:Zj=>((ka.maker==kb.maker)&&((ka.user==kb.user)&&((ka.pos==kb.pos)&&true)))) mK x70 (Z8 (fun ka kb:Int=>(ka==kb)) (Zx (fun ka kb:Int=>(ka==kb)) (Zx (fun ka kb:Int=>(ka==kb)) mJ c (w64 ((List.length (mH++[(Zg.mk c 0)]):Int)-1))) c (w64 ((List.length ((mH++[(Zg.mk c 0)])++[(Zg.mk c 1)]):Int)-1))) c 0)),((mA++[(w64 (x2.work-0))])++[(w64 (x47.work-x2.work))]),(mI++[(Zs.mk (w64 ((Z8 (fun ka kb:Int=>(ka==kb)) (Zx (fun ka kb:Int=>(ka==kb)) (Zx (fun ka kb:Int=>(ka==kb)) mJ c (w64 ((List.length (mH++[(Zg.mk c 0)]):Int)-1))) c (w64 ((List.length ((mH++[(Zg.mk c 0)])++[(Zg.mk c 1)]):Int)-1))) c 0)-1)) (Z8 (fun ka kb:Int=>(ka==kb)) (Zx (fun ka kb:Int=>(ka==kb)) (Zx (fun ka kb:Int=>(ka==kb)) mJ c (w64 ((List.length (mH++[(Zg.mk c 0)]):Int)-1))) c (w64 ((List.length ((mH++[(Zg.mk c 0)])++[(Zg.mk c 1)]):Int)-1))) c 0))]),((mH++[(Zg.mk c 0)])++[(Zg.mk c 1)]))).bind fun r83=>
   some (.inr (.inl (r83.1,r83.2.1,r83.2.2.1,r83.2.2.2.1,r83.2.2.2.2)))
 else
  some (.inr (.inr ()))
def Zcu (b:Zq) (c:Int) (mA:List Int) (mI:List Zs) (mH:List Zg) (mJ:(List (Int×Int))) (mK:(List (Zj×Int))) (x0:List Int) (s1:Unit):Option (Unit⊕(((List (Int×Int))×(List (Zj×Int))×(List Int)×(List Zs)×(List Zg))⊕((List Int)⊕Unit))):=
 bif (decide (0<(w64 ((x0.length:Int)+1)))) then
  (Zz b.parts c).bind fun x2=>
  bif (decide (0<(x0.length:Int))) then
   (Zz x0 0).bind fun x3=>
   (Zz b.futures x3).bind fun x4=>
   (Zau (Zg.mk c 0) (w64 (x4.pos-0)) mA mH).bind fun x5=>
   (lp (Zcr b c mA mI mH mJ mK x0 x4) ()).bind fun r44=>
   match r44 with
   | (.inl r44)=>
    some (.inr (.inl (r44.1,r44.2.1,r44.2.2.1,r44.2.2.2.1,r44.2.2.2.2)))
   | (.inr r44)=>
    some (.inr (.inr (.inl (mA++[(w64 (x4.pos-0))]))))
  else
   (Zau (Zg.mk c 0) (w64 (x2.work-0)) mA mH).bind fun x45=>
   (lp (Zdc b c mA mI mH mJ mK x0 x2) ()).bind fun r84=>
   match r84 with
   | (.inl r84)=>
    some (.inr (.inl (r84.1,r84.2.1,r84.2.2.1,r84.2.2.2.1,r84.2.2.2.2)))
   | (.inr r84)=>
    some (.inr (.inr (.inl (mA++[(w64 (x2.work-0))]))))
 else
  some (.inr (.inr (.inr ())))
def ZfH (b:Zq) (c:Int) (mA:List Int) (mI:List Zs) (mH:List Zg) (mJ:(List (Int×Int))) (mK:(List (Zj×Int))):Option (((List (Int×Int))×(List (Zj×Int))×(List Int)×(List Zs)×(List Zg))⊕((List Int)⊕Unit)):=
 (Zem b c).bind fun x0=>
 (lp (Zcu b c mA mI mH mJ mK x0) ()).bind fun r85=>
 match r85 with
 | (.inl r85)=>
  some (.inl (r85.1,r85.2.1,r85.2.2.1,r85.2.2.2.1,r85.2.2.2.2))
 | (.inr (.inl r85))=>
  some (.inr (.inl r85))
 | (.inr (.inr r85))=>
  some (.inr (.inr ()))
def ZdT (a:Int):Option Bool:=
 bif (decide (a<0)) then
  some true
 else
  bif (decide (1000<a)) then
   some true
  else
   some false
def Zhn (a:Int) (b0:List Int):Option Bool:=
 bif (decide (0<=a)) then
  bif (decide (a<(b0.length:Int))) then
   some true
  else
   some false
 else
  some false
def Zg3 (a:Zbh) (s0:(List Int)×(List Bool)) (s1:Int) (s3:Int):Option (Int⊕(Unit⊕Unit)):=
 bif (decide (s3<(a.edges.length:Int))) then
  (Zz a.edges s3).bind fun x4=>
  bif (x4.dst==s1) then
   (Zz s0.2 x4.src).bind fun x5=>
   bif x5 then
    some (.inl (w64 (s3+1)))
   else
    some (.inr (.inl ()))
  else
   some (.inl (w64 (s3+1)))
 else
  some (.inr (.inr ()))
def ZfI (a:Zbh) (s0:(List Int)×(List Bool)) (s1:Int):Option (Int⊕(((List Int)×(List Bool))⊕Unit)):=
 bif (decide (s1<(a.work.length:Int))) then
  (Zz s0.2 s1).bind fun x2=>
  bif x2 then
   some (.inl (w64 (s1+1)))
  else
   (lp (Zg3 a s0 s1) 0).bind fun r6=>
   match r6 with
   | (.inl r6)=>
    some (.inl (w64 (s1+1)))
   | (.inr r6)=>
    bif (Nat.ble (List.length s0.1+1) lim) then
     some (.inr (.inl ((s0.1++[s1]),(List.set s0.2 s1.toNat true))))
    else
     none
 else
  some (.inr (.inr ()))
def Zg5 (a:Zbh) (s0:(List Int)×(List Bool)):Option (((List Int)×(List Bool))⊕((List Int)⊕(List Int))):=
 bif (decide ((s0.1.length:Int)<(a.work.length:Int))) then
  (lp (ZfI a s0) 0).bind fun r7=>
  match r7 with
  | (.inl r7)=>
   some (.inl (r7.1,r7.2))
  | (.inr r7)=>
   some (.inr (.inl s0.1))
 else
  some (.inr (.inr s0.1))
def ZgI (a:Zbh):Option ((List Int)×Bool):=
 bif (decide (0<=(a.work.length:Int))&&decide ((a.work.length:Int)<=lim)&&decide ((a.work.length:Int)==(a.work.length:Int))) then
  (lp (Zg5 a) (([]:List Int),(List.replicate (a.work.length:Int).toNat (false:Bool)))).bind fun r8=>
  match r8 with
  | (.inl r8)=>
   some (([]:List Int),false)
  | (.inr r8)=>
   some (r8,true)
 else
  none
def ZfX (a:Zbh) (s1:Int):Option (Int⊕(Unit⊕Unit)):=
 bif (decide (s1<(a.edges.length:Int))) then
  (Zz a.edges s1).bind fun x2=>
  (Zhn x2.src a.work).bind fun x3=>
  bif x3 then
   (Zhn x2.dst a.work).bind fun x4=>
   bif x4 then
    bif (x2.src==x2.dst) then
     some (.inr (.inl ()))
    else
     bif (decide (0<=s1)) then
      bif (Nat.ble s1.toNat (List.length a.edges)) then
       (Zbp (List.take s1.toNat a.edges) x2).bind fun x5=>
       bif x5 then
        some (.inr (.inl ()))
       else
        some (.inl (w64 (s1+1)))
      else
       none
     else
      none
   else
    some (.inr (.inl ()))
  else
   some (.inr (.inl ()))
 else
  some (.inr (.inr ()))
def ZhQ (a:Zbh):Option Int:=
 bif (decide (64<(a.work.length:Int))) then
  some 40
 else
  bif (decide (256<(a.edges.length:Int))) then
   some 40
  else
   (ZaK a.work (fun z0=>ZdT z0)).bind fun x0=>
   bif x0 then
    some 41
   else
    (lp (ZfX a) 0).bind fun r6=>
    match r6 with
    | (.inl r6)=>
     some 42
    | (.inr r6)=>
     (ZgI a).bind fun x7=>
     bif x7.2 then
      some 0
     else
      some 43
def Zc5 (a:Zq) (s1:Int×(List Int)×(List Zs)×(List Zg)×(List (Int×Int))×(List (Int×Int))×(List (Zj×Int))):Option ((Int×(List Int)×(List Zs)×(List Zg)×(List (Int×Int))×(List (Int×Int))×(List (Zj×Int)))⊕((List Int)×(List Zs)×(List Zg)×(List (Int×Int))×(List (Int×Int))×(List (Zj×Int)))):=
 bif (decide (s1.1<(a.parts.length:Int))) then
  (ZfH a s1.1 s1.2.1 s1.2.2.1 s1.2.2.2.1 s1.2.2.2.2.2.1 s1.2.2.2.2.2.2).bind fun x2=>
  match x2 with
  | (.inl x2)=>
   some (.inl ((w64 (s1.1+1)),x2.2.2.1,x2.2.2.2.1,x2.2.2.2.2,(Zx (fun ka kb:Int=>(ka==kb)) s1.2.2.2.2.1 s1.1 (s1.2.2.2.1.length:Int)),x2.1,x2.2.1))
  | (.inr (.inl x2))=>
   some (.inl ((w64 (s1.1+1)),x2,s1.2.2.1,(s1.2.2.2.1++[(Zg.mk s1.1 0)]),(Zx (fun ka kb:Int=>(ka==kb)) s1.2.2.2.2.1 s1.1 (s1.2.2.2.1.length:Int)),(Zx (fun ka kb:Int=>(ka==kb)) s1.2.2.2.2.2.1 s1.1 (w64 ((List.length (s1.2.2.2.1++[(Zg.mk s1.1 0)]):Int)-1))),s1.2.2.2.2.2.2))
  | (.inr (.inr x2))=>
   some (.inl ((w64 (s1.1+1)),s1.2.1,s1.2.2.1,s1.2.2.2.1,(Zx (fun ka kb:Int=>(ka==kb)) s1.2.2.2.2.1 s1.1 (s1.2.2.2.1.length:Int)),s1.2.2.2.2.2.1,s1.2.2.2.2.2.2))
 else
  some (.inr (s1.2.1,s1.2.2.1,s1.2.2.2.1,s1.2.2.2.2.1,s1.2.2.2.2.2.1,s1.2.2.2.2.2.2))
def ZdY (a:Zq) (r3:((List Int)×(List Zs)×(List Zg)×(List (Int×Int))×(List (Int×Int))×(List (Zj×Int)))) (s4:Int×(List Zs)):Option ((Int×(List Zs))⊕(List Zs)):=
 bif (decide (s4.1<(a.edges.length:Int))) then
  (Zz a.edges s4.1).bind fun x5=>
  (ZM (Z8 (fun ka kb:Int=>(ka==kb)) r3.2.2.2.2.1 x5.src 0) (Z8 (fun ka kb:Int=>(ka==kb)) r3.2.2.2.1 x5.dst 0) s4.2).bind fun x6=>
  some (.inl ((w64 (s4.1+1)),(s4.2++[(Zs.mk (Z8 (fun ka kb:Int=>(ka==kb)) r3.2.2.2.2.1 x5.src 0) (Z8 (fun ka kb:Int=>(ka==kb)) r3.2.2.2.1 x5.dst 0))])))
 else
  some (.inr s4.2)
def Zd7 (a:Zq) (r3:((List Int)×(List Zs)×(List Zg)×(List (Int×Int))×(List (Int×Int))×(List (Zj×Int)))) (s8:Int×(List Zs)):Option ((Int×(List Zs))⊕(List Zs)):=
 bif (decide (s8.1<(a.futures.length:Int))) then
  (Zz a.futures s8.1).bind fun x9=>
  (ZM (Z8 (fun ka kb:Int=>(ka==kb)) r3.2.2.2.2.1 x9.maker 0) (Z8 (fun ka kb:Zj=>((ka.maker==kb.maker)&&((ka.user==kb.user)&&((ka.pos==kb.pos)&&true)))) r3.2.2.2.2.2 x9 0) s8.2).bind fun x10=>
  some (.inl ((w64 (s8.1+1)),(s8.2++[(Zs.mk (Z8 (fun ka kb:Int=>(ka==kb)) r3.2.2.2.2.1 x9.maker 0) (Z8 (fun ka kb:Zj=>((ka.maker==kb.maker)&&((ka.user==kb.user)&&((ka.pos==kb.pos)&&true)))) r3.2.2.2.2.2 x9 0))])))
 else
  some (.inr s8.2)
def ZfM (r3:((List Int)×(List Zs)×(List Zg)×(List (Int×Int))×(List (Int×Int))×(List (Zj×Int)))) (s12:Int×(List Int)×(List Zs)×(List Zg)) (x13:Zu) (s15:Int×(List Zs)):Option ((Int×(List Zs))⊕(List Zs)):=
 bif (decide (s15.1<(x13.ins.length:Int))) then
  (Zz x13.ins s15.1).bind fun x16=>
  (ZM (Z8 (fun ka kb:Int=>(ka==kb)) r3.2.2.2.2.1 x16 0) (w64 ((List.length (s12.2.2.2++[(Zg.mk (-1) s12.1)]):Int)-1)) s15.2).bind fun x17=>
  some (.inl ((w64 (s15.1+1)),(s15.2++[(Zs.mk (Z8 (fun ka kb:Int=>(ka==kb)) r3.2.2.2.2.1 x16 0) (w64 ((List.length (s12.2.2.2++[(Zg.mk (-1) s12.1)]):Int)-1)))])))
 else
  some (.inr s15.2)
def ZfN (r3:((List Int)×(List Zs)×(List Zg)×(List (Int×Int))×(List (Int×Int))×(List (Zj×Int)))) (s12:Int×(List Int)×(List Zs)×(List Zg)) (x13:Zu) (s19:Int×(List Zs)):Option ((Int×(List Zs))⊕(List Zs)):=
 bif (decide (s19.1<(x13.outs.length:Int))) then
  (Zz x13.outs s19.1).bind fun x20=>
  (ZM (w64 ((List.length (s12.2.2.2++[(Zg.mk (-1) s12.1)]):Int)-1)) (Z8 (fun ka kb:Int=>(ka==kb)) r3.2.2.2.1 x20 0) s19.2).bind fun x21=>
  some (.inl ((w64 (s19.1+1)),(s19.2++[(Zs.mk (w64 ((List.length (s12.2.2.2++[(Zg.mk (-1) s12.1)]):Int)-1)) (Z8 (fun ka kb:Int=>(ka==kb)) r3.2.2.2.1 x20 0))])))
 else
  some (.inr s19.2)
def Zd4 (a:Zq) (r3:((List Int)×(List Zs)×(List Zg)×(List (Int×Int))×(List (Int×Int))×(List (Zj×Int)))) (s12:Int×(List Int)×(List Zs)×(List Zg)):Option ((Int×(List Int)×(List Zs)×(List Zg))⊕((List Int)×(List Zs)×(List Zg))):=
 bif (decide (s12.1<(a.barriers.length:Int))) then
  (Zz a.barriers s12.1).bind fun x13=>
  (Zau (Zg.mk (-1) s12.1) 1 s12.2.1 s12.2.2.2).bind fun x14=>
  (lp (ZfM r3 s12 x13) (0,s12.2.2.1)).bind fun r18=>
  (lp (ZfN r3 s12 x13) (0,r18)).bind fun r22=>
  some (.inl ((w64 (s12.1+1)),(s12.2.1++[1]),r22,(s12.2.2.2++[(Zg.mk (-1) s12.1)])))
 else
  some (.inr (s12.2.1,s12.2.2.1,s12.2.2.2))
def ZiK (a:Zq):Option (ZyO×Int):=
 (Zh9 a).bind fun x0=>
 bif (x0 != 0) then
  some ((ZyO.mk (Zbh.mk ([]:List Int) ([]:List Zs)) ([]:List Zg)),x0)
 else
  (lp (Zc5 a) (0,([]:List Int),([]:List Zs),([]:List Zg),([]:(List (Int×Int))),([]:(List (Int×Int))),([]:(List (Zj×Int))))).bind fun r3=>
  (lp (ZdY a r3) (0,r3.2.1)).bind fun r7=>
  (lp (Zd7 a r3) (0,r7)).bind fun r11=>
  (lp (Zd4 a r3) (0,r3.1,r11,r3.2.2.1)).bind fun r23=>
  (ZhQ (Zbh.mk r23.1 r23.2.1)).bind fun x24=>
  bif (x24 != 0) then
   some ((ZyO.mk (Zbh.mk ([]:List Int) ([]:List Zs)) ([]:List Zg)),70)
  else
   some ((ZyO.mk (Zbh.mk r23.1 r23.2.1) r23.2.2),0)
def ZgJ (a:Zbh) (s1:Int×Int):Option ((Int×Int)⊕Int):=
 bif (decide (s1.2<(a.work.length:Int))) then
  (Zz a.work s1.2).bind fun x2=>
  some (.inl ((w64 (s1.1+x2)),(w64 (s1.2+1))))
 else
  some (.inr s1.1)
def ZkF (a:Zbh):Option Int:=
 (ZhQ a).bind fun x0=>
 bif (x0==0) then
  (lp (ZgJ a) (0,0)).bind fun r3=>
  some r3
 else
  some 0
def ZkJ (a:Zbh):Option (List Int):=
 (ZhQ a).bind fun x0=>
 bif (x0 != 0) then
  some ([]:List Int)
 else
  (ZgI a).bind fun x1=>
  bif x1.2 then
   some x1.1
  else
   some x1.1
def Zgq (a:Zs) (b0:Int):Option (Int×Bool):=
 bif (a.dst==b0) then
  some (a.src,true)
 else
  some (a.src,false)
def Zdp (mG:List Int):Option (List Int):=
 bif (Nat.ble (List.length mG) lim) then
  (some (sortI mG)).bind fun x0=>
  some x0
 else
  none
def Zh7 (a:Zbh) (b:(Zs->Option (Int×Bool))) (s0:Int×(List Int)):Option ((Int×(List Int))⊕(List Int)):=
 bif (decide (s0.1<(a.edges.length:Int))) then
  (Zz a.edges s0.1).bind fun x1=>
  (b x1).bind fun x2=>
  bif x2.2 then
   bif (Nat.ble (List.length s0.2+1) lim) then
    some (.inl ((w64 (s0.1+1)),(s0.2++[x2.1])))
   else
    none
  else
   some (.inl ((w64 (s0.1+1)),s0.2))
 else
  some (.inr s0.2)
def Zqk (a:Zbh) (b:(Zs->Option (Int×Bool))):Option (List Int):=
 (lp (Zh7 a b) (0,([]:List Int))).bind fun r3=>
 (Zdp r3).bind fun x4=>
 some x4
def ZkM (a:Zbh) (b:Int):Option (List Int):=
 (Zqk a (fun z0=>Zgq z0 b)).bind fun x0=>
 some x0
def Zgt (x2:Int) (x3:List Int) (s4:Int×(List Int)):Option ((Int×(List Int))⊕(List Int)):=
 bif (decide (s4.1<(x3.length:Int))) then
  (Zz x3 s4.1).bind fun x5=>
  (Zz s4.2 x2).bind fun x6=>
  (Zz s4.2 x5).bind fun x7=>
  some (.inl ((w64 (s4.1+1)),(List.set s4.2 x2.toNat (bif decide (x6<x7) then x7 else x6))))
 else
  some (.inr s4.2)
def Zgw (a:Zbh) (x0:List Int) (s1:Int×Int×(List Int)):Option ((Int×Int×(List Int))⊕Int):=
 bif (decide (s1.2.1<(x0.length:Int))) then
  (Zz x0 s1.2.1).bind fun x2=>
  (ZkM a x2).bind fun x3=>
  (lp (Zgt x2 x3) (0,s1.2.2)).bind fun r8=>
  (Zz r8 x2).bind fun x9=>
  (Zz a.work x2).bind fun x10=>
  (Zz (List.set r8 x2.toNat (w64 (x9+x10))) x2).bind fun x11=>
  some (.inl ((bif decide (s1.1<x11) then x11 else s1.1),(w64 (s1.2.1+1)),(List.set r8 x2.toNat (w64 (x9+x10)))))
 else
  some (.inr s1.1)
def Zmd (a:Zbh):Option Int:=
 bif (decide (0<=(a.work.length:Int))&&decide ((a.work.length:Int)<=lim)&&decide ((a.work.length:Int)==(a.work.length:Int))) then
  (ZkJ a).bind fun x0=>
  (lp (Zgw a x0) (0,0,(List.replicate (a.work.length:Int).toNat (0:Int)))).bind fun r12=>
  some r12
 else
  none
def Zbq (a:List Int) (s1:Int×Int):Option ((Int×Int)⊕Int):=
 bif (decide (s1.2<(a.length:Int))) then
  (Zz a s1.2).bind fun x2=>
  some (.inl ((bif decide (s1.1<x2) then x2 else s1.1),(w64 (s1.2+1))))
 else
  some (.inr s1.1)
def ZcM (a:List Int):Option Int:=
 bif (decide ((a.length:Int)<1)) then
  none
 else
  (Zz a 0).bind fun x0=>
  (lp (Zbq a) (x0,1)).bind fun r3=>
  some r3
def Zfp (a:Zq):Option (Zf×Int):=
 (ZiK a).bind fun x0=>
 bif (x0.2 != 0) then
  some ((Zf.mk 0 0 0 0 0),x0.2)
 else
  (ZkF x0.1.dag).bind fun x1=>
  (Zmd x0.1.dag).bind fun x2=>
  (ZcM x0.1.dag.work).bind fun x3=>
  some ((Zf.mk x1 x2 x3 a.deadline a.period),0)
def Zdy (a:Int) (b:Int):Option Bool:=
 bif (decide (1<=a)) then
  bif (decide (a<=b)) then
   some true
  else
   some false
 else
  some false
def Zfq (a:Zf):Option Int:=
 (Zlu a.period).bind fun x0=>
 bif x0.2 then
  bif (decide (4096<a.period)) then
   some 140
  else
   (Zdy a.deadline a.period).bind fun x1=>
   bif x1 then
    (Zdy a.total 4096).bind fun x2=>
    bif x2 then
     (Zdy a.long a.total).bind fun x3=>
     bif x3 then
      (Zdy a.most a.long).bind fun x4=>
      bif x4 then
       some 0
      else
       some 140
     else
      some 140
    else
     some 140
   else
    some 140
 else
  some 140
def Zj7 (a:Zf):Option (Unit⊕Unit):=
 bif (decide (a.deadline<a.total)) then
  some (.inl ())
 else
  some (.inr ())
def Zka (a0:Int):Option Int:=
 some (w64 (a0-1))
def Zc9 (a:Int):Option Bool:=
 (ZhL a).bind fun x0=>
 bif (x0 != 0) then
  some true
 else
  some false
def Zk3 (a:List Int):Option Int:=
 (ZaF a (fun z0=>Zc9 z0)).bind fun x0=>
 bif (decide (x0<0)) then
  some 0
 else
  (Zz a x0).bind fun x1=>
  (ZhL x1).bind fun x2=>
  some x2
def Zic (a:Int) (b:Int) (c:(Option Int)):Option (Int×Int):=
 (Zk3 [a,b]).bind fun x0=>
 bif (x0 != 0) then
  some (0,x0)
 else
  bif (b==0) then
   some (0,12)
  else
   (c).bind fun x1=>
   bif (b==0) then
    none
   else
    some ((w64 (Int.tdiv (w64 (a+x1)) b)),0)
def Zlr (a:Int) (b:Int):Option (Int×Int):=
 (Zic a b (Zka b)).bind fun x0=>
 some (x0.1,x0.2)
def Zej (a:ZvU):Option Zhm:=
 bif (decide (a.shape.deadline<=a.shape.long)) then
  some (Zhm.mk 0 141)
 else
  (Zlr (w64 (a.shape.total-a.shape.long)) (w64 (a.shape.deadline-a.shape.long))).bind fun x0=>
  bif (x0.2==0) then
   bif (decide (8<x0.1)) then
    some (Zhm.mk 0 142)
   else
    some (Zhm.mk x0.1 x0.2)
  else
   some (Zhm.mk x0.1 x0.2)
def Zc6 (a:ZqQ):Option Zhm:=
 some (Zhm.mk 1 0)
def Zgs (a:Zf):Option (Int×Int):=
 (Zfq a).bind fun x0=>
 bif (x0 != 0) then
  some (0,x0)
 else
  (Zj7 a).bind fun x1=>
  match x1 with
  | (.inl x1)=>
   (Zej (ZvU.mk a)).bind fun x2=>
   some (x2.cores,x2.e)
  | (.inr x1)=>
   (Zc6 (ZqQ.mk a)).bind fun x3=>
   some (x3.cores,x3.e)
def Zce (a:List Zq) (s0:Int×(List Zf)):Option ((Int×(List Zf))⊕((Int×(List Zf))⊕(List Zf))):=
 bif (decide (s0.1<(a.length:Int))) then
  (Zz a s0.1).bind fun x1=>
  (Zfp x1).bind fun x2=>
  bif (x2.2 != 0) then
   some (.inr (.inl (x2.2,s0.2)))
  else
   bif (Nat.ble (List.length s0.2+1) lim) then
    some (.inl ((w64 (s0.1+1)),(s0.2++[x2.1])))
   else
    none
 else
  some (.inr (.inr s0.2))
def Zcf (r3:List Zf) (s4:Int):Option (Int⊕(Int⊕Unit)):=
 bif (decide (s4<(r3.length:Int))) then
  (Zz r3 s4).bind fun x5=>
  (Zgs x5).bind fun x6=>
  bif (x6.2 != 0) then
   some (.inr (.inl x6.2))
  else
   some (.inl (w64 (s4+1)))
 else
  some (.inr (.inr ()))
def Zh2 (a:List Zq):Option ((List Zf)×Int):=
 (lp (Zce a) (0,([]:List Zf))).bind fun r3=>
 match r3 with
 | (.inl r3)=>
  some (([]:List Zf),r3.1)
 | (.inr r3)=>
  (lp (Zcf r3) 0).bind fun r7=>
  match r7 with
  | (.inl r7)=>
   some (([]:List Zf),r7)
  | (.inr r7)=>
   some (r3,0)
def Zjw (a:Int):Option Unit:=
 bif (decide (0<=a)&&decide (a<=1000)) then
  some ()
 else
  none
def ZbZ (a:Zf):Option Bool:=
 (Zfq a).bind fun x0=>
 bif (x0==0) then
  (Zj7 a).bind fun x1=>
  match x1 with
  | (.inl x1)=>
   (Zej (ZvU.mk a)).bind fun x2=>
   (Zc6 (ZqQ.mk a)).bind fun x3=>
   bif (!((x2.cores==x3.cores)&&((x2.e==x3.e)&&true))) then
    some true
   else
    some false
  | (.inr x1)=>
   (Zc6 (ZqQ.mk a)).bind fun x4=>
   (Zc6 (ZqQ.mk a)).bind fun x5=>
   bif (!((x4.cores==x5.cores)&&((x4.e==x5.e)&&true))) then
    some true
   else
    some false
 else
  some false
def Zmy (b:Int) (mG:List Int):Option (Unit⊕Unit):=
 bif (decide (0<=b)&&decide (b<=1000)) then
  bif (Nat.ble b.toNat (List.length mG)) then
   some (.inl ())
  else
   some (.inr ())
 else
  none
def Zda (a:Zf):Option Bool:=
 (Zfq a).bind fun x0=>
 bif (x0 != 0) then
  some true
 else
  (ZbZ a).bind fun x1=>
  bif x1 then
   some true
  else
   some false
def ZaO (a:List Zf) (b:(Zf->Option Bool)) (s0:Int):Option (Int⊕(Int⊕Unit)):=
 bif (decide (s0<(a.length:Int))) then
  (Zz a s0).bind fun x1=>
  (b x1).bind fun x2=>
  bif x2 then
   some (.inr (.inl s0))
  else
   some (.inl (w64 (s0+1)))
 else
  some (.inr (.inr ()))
def ZcK (a:List Zf) (b:(Zf->Option Bool)):Option Int:=
 (lp (ZaO a b) 0).bind fun r3=>
 match r3 with
 | (.inl r3)=>
  some r3
 | (.inr r3)=>
  some (-1)
def Zbl (a:List Zf) (b:(Zf->Option Bool)):Option Bool:=
 (ZcK a b).bind fun x0=>
 bif (decide (0<=x0)) then
  some true
 else
  some false
def ZgU (a:List Zf):Option Int:=
 bif (decide (8<(a.length:Int))) then
  some 150
 else
  (Zbl a (fun z0=>Zda z0)).bind fun x0=>
  bif x0 then
   some 150
  else
   some 0
def ZiI (a:Int):Option Bool:=
 bif (decide (0<=a)) then
  bif (decide (a<=8)) then
   some true
  else
   some false
 else
  some false
def ZC (a:Int) (b:Int) (c0:List Zf):Option Int:=
 (Zz c0 a).bind fun x0=>
 (Zz c0 b).bind fun x1=>
 bif (decide (x1.total<x0.total)) then
  some (-1)
 else
  bif (decide (x0.total<x1.total)) then
   some 1
  else
   some (w64 (a-b))
def ZeX (a:List Zf) (s0:Int×(List Int)):Option ((Int×(List Int))⊕(List Int)):=
 bif (decide (s0.1<(a.length:Int))) then
  bif (Nat.ble (List.length s0.2+1) lim) then
   some (.inl ((w64 (s0.1+1)),(s0.2++[s0.1])))
  else
   none
 else
  some (.inr s0.2)
def Zgg (a:List Zf):Option (List Int):=
 (lp (ZeX a) (0,([]:List Int))).bind fun r1=>
 (Zar (fun z0 z1=>ZC z0 z1 a) r1).bind fun x2=>
 some x2
def Zga (a:List Zf) (b:List Int) (c:Int) (s0:Int×(List Zf)):Option ((Int×(List Zf))⊕(List Zf)):=
 bif (decide (s0.1<(a.length:Int))) then
  (Zz a s0.1).bind fun x1=>
  bif (decide (s0.1<(b.length:Int))) then
   (Zz b s0.1).bind fun x2=>
   bif (x2==c) then
    bif (Nat.ble (List.length s0.2+1) lim) then
     some (.inl ((w64 (s0.1+1)),(s0.2++[x1])))
    else
     none
   else
    some (.inl ((w64 (s0.1+1)),s0.2))
  else
   some (.inl ((w64 (s0.1+1)),s0.2))
 else
  some (.inr s0.2)
def ZnU (a:List Zf) (b:List Int) (c:Int):Option (List Zf):=
 (lp (Zga a b c) (0,([]:List Zf))).bind fun r3=>
 some r3
def Zdr (a:Int) (b:Zf):Option Int:=
 some (bif decide (a<b.period) then b.period else a)
def ZdU (a:List Zf) (b:(Int->Zf->Option Int)) (s0:Int×Int):Option ((Int×Int)⊕Int):=
 bif (decide (s0.2<(a.length:Int))) then
  (Zz a s0.2).bind fun x1=>
  (b s0.1 x1).bind fun x2=>
  some (.inl (x2,(w64 (s0.2+1))))
 else
  some (.inr s0.1)
def ZgY (a:List Zf) (b:(Int->Zf->Option Int)):Option Int:=
 (lp (ZdU a b) (0,0)).bind fun r3=>
 some r3
def ZiM (a:List Zf):Option Int:=
 (ZgU a).bind fun x0=>
 bif (x0 != 0) then
  some 0
 else
  (ZgY a (fun z0 z1=>Zdr z0 z1)).bind fun x1=>
  some x1
def Zcn (a:Int) (b:Zf) (c0:Int):Option Int:=
 bif (decide (c0<b.deadline)) then
  some a
 else
  bif (b.period==0) then
   none
  else
   some (w64 (a+(w64 (b.total*(w64 ((w64 (Int.tdiv (w64 (c0-b.deadline)) b.period))+1))))))
def Ze8 (a:List Zf) (b:Int):Option Int:=
 (ZgY a (fun z0 z1=>Zcn z0 z1 b)).bind fun x0=>
 some x0
def Zfo (a:Int) (b:Zf) (c0:Int):Option Int:=
 bif (decide (c0<b.deadline)) then
  some (bif decide (a<b.most) then b.most else a)
 else
  some a
def ZhT (a:List Zf) (b:Int):Option Int:=
 (ZgY a (fun z0 z1=>Zfo z0 z1 b)).bind fun x0=>
 some x0
def Zgv (a:List Zf) (x2:Zf) (s3:Int):Option (Int⊕(Unit⊕Unit)):=
 (ZiM a).bind fun x4=>
 bif (decide (s3<=x4)) then
  (Ze8 a s3).bind fun x5=>
  (ZhT a s3).bind fun x6=>
  bif (decide (s3<(w64 (x5+x6)))) then
   some (.inr (.inl ()))
  else
   some (.inl (w64 (s3+x2.period)))
 else
  some (.inr (.inr ()))
def Zhv (a:List Zf) (s1:Int):Option (Int⊕(Unit⊕Unit)):=
 bif (decide (s1<(a.length:Int))) then
  (Zz a s1).bind fun x2=>
  (lp (Zgv a x2) x2.deadline).bind fun r7=>
  match r7 with
  | (.inl r7)=>
   some (.inr (.inl ()))
  | (.inr r7)=>
   some (.inl (w64 (s1+1)))
 else
  some (.inr (.inr ()))
def Ziy (a:List Zf):Option Bool:=
 (ZgU a).bind fun x0=>
 bif (x0 != 0) then
  some false
 else
  (lp (Zhv a) 0).bind fun r8=>
  match r8 with
  | (.inl r8)=>
   some false
  | (.inr r8)=>
   some true
def ZjW (a:Int) (mA:Int) (mI:List Zf) (mH:List Int):Option (Unit⊕Unit):=
 (Zz mH mA).bind fun x0=>
 (ZnU mI (List.set mH mA.toNat a) a).bind fun x1=>
 (Ziy x1).bind fun x2=>
 bif x2 then
  some (.inl ())
 else
  some (.inr ())
def ZeT (a:List Zf) (s2:Int×(List Int)):Option ((Int×(List Int))⊕(List Int)):=
 bif (decide (s2.1<(List.length (List.replicate (a.length:Int).toNat (0:Int)):Int))) then
  (Zz s2.2 s2.1).bind fun x3=>
  some (.inl ((w64 (s2.1+1)),(List.set s2.2 s2.1.toNat (-1))))
 else
  some (.inr s2.2)
def ZeW (a:List Zf) (b:Int) (x7:Int) (s8:Int×(List Int)):Option ((Int×(List Int))⊕((List Int)⊕(List Int))):=
 bif (decide (s8.1<b)) then
  (ZjW s8.1 x7 a s8.2).bind fun x9=>
  match x9 with
  | (.inl x9)=>
   some (.inr (.inl (List.set s8.2 x7.toNat s8.1)))
  | (.inr x9)=>
   some (.inl ((w64 (s8.1+1)),(List.set s8.2 x7.toNat s8.1)))
 else
  some (.inr (.inr s8.2))
def ZeZ (a:List Zf) (b:Int) (x5:List Int) (s6:Int×(List Int)):Option ((Int×(List Int))⊕((List Int)⊕(List Int))):=
 bif (decide (s6.1<(x5.length:Int))) then
  (Zz x5 s6.1).bind fun x7=>
  (lp (ZeW a b x7) (0,s6.2)).bind fun r10=>
  match r10 with
  | (.inl r10)=>
   some (.inl ((w64 (s6.1+1)),r10))
  | (.inr r10)=>
   some (.inr (.inl r10))
 else
  some (.inr (.inr s6.2))
def Zh8 (a:List Zf) (b:Int):Option ((List Int)×Int):=
 (ZgU a).bind fun x0=>
 bif (x0 != 0) then
  some (([]:List Int),160)
 else
  (ZiI b).bind fun x1=>
  bif x1 then
   bif (decide (0<=(a.length:Int))&&decide ((a.length:Int)<=lim)&&decide ((a.length:Int)==(a.length:Int))) then
    (lp (ZeT a) (0,(List.replicate (a.length:Int).toNat (0:Int)))).bind fun r4=>
    (Zgg a).bind fun x5=>
    (lp (ZeZ a b x5) (0,r4)).bind fun r11=>
    match r11 with
    | (.inl r11)=>
     some (([]:List Int),161)
    | (.inr r11)=>
     some (r11,0)
   else
    none
  else
   some (([]:List Int),160)
def ZcB (x0:((List Zf)×Int)) (s2:Int×(List Int)×(List Zf)×(List (List Int))):Option ((Int×(List Int)×(List Zf)×(List (List Int)))⊕(((List Zf)×(List (List Int)))⊕((List Int)×(List Zf)×(List (List Int))))):=
 bif (decide (s2.1<(x0.1.length:Int))) then
  (Zz x0.1 s2.1).bind fun x3=>
  (ZbZ x3).bind fun x4=>
  bif x4 then
   (Zgs x3).bind fun x5=>
   (Zmy x5.1 s2.2.1).bind fun x6=>
   match x6 with
   | (.inl x6)=>
    (Zz s2.2.2.2 s2.1).bind fun x7=>
    some (.inl ((w64 (s2.1+1)),(List.drop x5.1.toNat s2.2.1),s2.2.2.1,(List.set s2.2.2.2 s2.1.toNat (List.take x5.1.toNat s2.2.1))))
   | (.inr x6)=>
    some (.inr (.inl (s2.2.2.1,s2.2.2.2)))
  else
   bif (Nat.ble (List.length s2.2.2.1+1) lim) then
    some (.inl ((w64 (s2.1+1)),s2.2.1,(s2.2.2.1++[x3]),s2.2.2.2))
   else
    none
 else
  some (.inr (.inr (s2.2.1,s2.2.2.1,s2.2.2.2)))
def Zd0 (b:Int) (x0:((List Zf)×Int)) (r8:((List Int)×(List Zf)×(List (List Int)))) (s10:(List Int)×Int×(List (List Int))):Option (((List Int)×Int×(List (List Int)))⊕(List (List Int))):=
 bif (decide (s10.2.1<(x0.1.length:Int))) then
  (Zz x0.1 s10.2.1).bind fun x11=>
  (ZbZ x11).bind fun x12=>
  bif x12 then
   some (.inl (s10.1,(w64 (s10.2.1+1)),s10.2.2))
  else
   (Zz s10.1 0).bind fun x13=>
   bif (Nat.ble 1 (List.length s10.1)) then
    (Zz s10.2.2 s10.2.1).bind fun x14=>
    some (.inl ((List.drop 1 s10.1),(w64 (s10.2.1+1)),(List.set s10.2.2 s10.2.1.toNat [(w64 ((w64 (b-(r8.1.length:Int)))+x13))])))
   else
    none
 else
  some (.inr s10.2.2)
def ZiJ (a:List Zq) (b:Int):Option (Zan×Int):=
 bif (decide (8<(a.length:Int))) then
  some ((Zan.mk ([]:List Zf) ([]:List (List Int))),170)
 else
  bif (decide (b<1)) then
   some ((Zan.mk ([]:List Zf) ([]:List (List Int))),170)
  else
   bif (decide (8<b)) then
    some ((Zan.mk ([]:List Zf) ([]:List (List Int))),170)
   else
    (Zh2 a).bind fun x0=>
    bif (x0.2 != 0) then
     some ((Zan.mk ([]:List Zf) ([]:List (List Int))),x0.2)
    else
     bif (decide (0<=(x0.1.length:Int))&&decide ((x0.1.length:Int)<=lim)&&decide ((x0.1.length:Int)==(x0.1.length:Int))) then
      (Zjw b).bind fun x1=>
      (lp (ZcB x0) (0,(Zds b),([]:List Zf),(List.replicate (x0.1.length:Int).toNat (([]:List Int):List Int)))).bind fun r8=>
      match r8 with
      | (.inl r8)=>
       some ((Zan.mk ([]:List Zf) ([]:List (List Int))),171)
      | (.inr r8)=>
       (Zh8 r8.2.1 (r8.1.length:Int)).bind fun x9=>
       bif (x9.2 != 0) then
        some ((Zan.mk ([]:List Zf) ([]:List (List Int))),171)
       else
        (lp (Zd0 b x0 r8) (x9.1,0,r8.2.2)).bind fun r15=>
        some ((Zan.mk x0.1 r15),0)
     else
      none
def Zg2 (a:List Int) (b:Int) (s0:Int):Option (Int⊕(Unit⊕Unit)):=
 bif (decide (s0<(a.length:Int))) then
  (Zz a s0).bind fun x1=>
  bif (x1==b) then
   some (.inr (.inl ()))
  else
   some (.inl (w64 (s0+1)))
 else
  some (.inr (.inr ()))
def ZgX (a:List Int) (b:Int):Option Bool:=
 (lp (Zg2 a b) 0).bind fun r2=>
 match r2 with
 | (.inl r2)=>
  some true
 | (.inr r2)=>
  some false
def ZmB (a:List Zf) (b:List Zf) (s0:Int):Option (Int⊕(Unit⊕Unit)):=
 bif (decide (s0<(a.length:Int))) then
  (Zz a s0).bind fun x1=>
  (Zz b s0).bind fun x2=>
  bif (!((x1.total==x2.total)&&((x1.long==x2.long)&&((x1.most==x2.most)&&((x1.deadline==x2.deadline)&&((x1.period==x2.period)&&true)))))) then
   some (.inr (.inl ()))
  else
   some (.inl (w64 (s0+1)))
 else
  some (.inr (.inr ()))
def ZhZ (a:List Zf) (b:List Zf):Option Bool:=
 bif ((a.length:Int) != (b.length:Int)) then
  some false
 else
  (lp (ZmB a b) 0).bind fun r3=>
  match r3 with
  | (.inl r3)=>
   some false
  | (.inr r3)=>
   some true
def ZmC (a:List Int) (b:List Int) (s0:Int):Option (Int⊕(Unit⊕Unit)):=
 bif (decide (s0<(a.length:Int))) then
  (Zz a s0).bind fun x1=>
  (Zz b s0).bind fun x2=>
  bif (x1 != x2) then
   some (.inr (.inl ()))
  else
   some (.inl (w64 (s0+1)))
 else
  some (.inr (.inr ()))
def ZpM (a:List Int) (b:List Int):Option Bool:=
 bif ((a.length:Int) != (b.length:Int)) then
  some false
 else
  (lp (ZmC a b) 0).bind fun r3=>
  match r3 with
  | (.inl r3)=>
   some false
  | (.inr r3)=>
   some true
def Zjd (a:Zan) (b:Zan) (s1:Int):Option (Int⊕(Unit⊕Unit)):=
 bif (decide (s1<(a.cores.length:Int))) then
  (Zz a.cores s1).bind fun x2=>
  (Zz b.cores s1).bind fun x3=>
  (ZpM x2 x3).bind fun x4=>
  bif x4 then
   some (.inl (w64 (s1+1)))
  else
   some (.inr (.inl ()))
 else
  some (.inr (.inr ()))
def Zjx (a:Zan) (b:Zan):Option Bool:=
 (ZhZ a.shapes b.shapes).bind fun x0=>
 bif x0 then
  bif ((a.cores.length:Int) != (b.cores.length:Int)) then
   some false
  else
   (lp (Zjd a b) 0).bind fun r5=>
   match r5 with
   | (.inl r5)=>
    some false
   | (.inr r5)=>
    some true
 else
  some false
def Ze4 (a:Zan) (s0:Int×(List (List Int))):Option ((Int×(List (List Int)))⊕(List (List Int))):=
 bif (decide (s0.1<(a.cores.length:Int))) then
  (Zz a.cores s0.1).bind fun x1=>
  bif (Nat.ble (List.length x1) lim) then
   bif (Nat.ble (List.length s0.2+1) lim) then
    some (.inl ((w64 (s0.1+1)),(s0.2++[x1])))
   else
    none
  else
   none
 else
  some (.inr s0.2)
def Zh4 (a:Zan):Option (List (List Int)):=
 bif (Nat.ble (List.length a.shapes) lim) then
  (lp (Ze4 a) (0,([]:(List (List Int))))).bind fun r2=>
  some r2
 else
  none
def ZfT (b:List Int) (c:Int) (s1:Int):Option (Int⊕(Unit⊕Unit)):=
 bif (decide (s1<(b.length:Int))) then
  (Zz b s1).bind fun x2=>
  bif (decide (x2<0)) then
   some (.inr (.inl ()))
  else
   bif (decide (c<=x2)) then
    some (.inr (.inl ()))
   else
    bif (decide (0<s1)) then
     (Zz b (w64 (s1-1))).bind fun x3=>
     bif (decide (x2<=x3)) then
      some (.inr (.inl ()))
     else
      some (.inl (w64 (s1+1)))
    else
     some (.inl (w64 (s1+1)))
 else
  some (.inr (.inr ()))
def ZkD (a:Zf) (b:List Int) (c:Int):Option Bool:=
 (Zgs a).bind fun x0=>
 (lp (ZfT b c) 0).bind fun r4=>
 match r4 with
 | (.inl r4)=>
  some false
 | (.inr r4)=>
  bif (x0.2==0) then
   bif ((b.length:Int)==x0.1) then
    some true
   else
    some false
  else
   some false
def ZhC (a:Int) (b:Zf) (c:List Int) (mG:Bool) (mA:Int):Option (Unit⊕Unit):=
 bif mG then
  (ZkD b c mA).bind fun x0=>
  bif x0 then
   some (.inl ())
  else
   some (.inr ())
 else
  some (.inr ())
def ZeV (a:Zan) (mA:Int) (s0:Int×Bool):Option ((Int×Bool)⊕Bool):=
 bif (decide (s0.1<(bif decide ((a.cores.length:Int)<(a.shapes.length:Int)) then (a.cores.length:Int) else (a.shapes.length:Int)))) then
  (Zz a.shapes s0.1).bind fun x1=>
  (Zz a.cores s0.1).bind fun x2=>
  (ZhC s0.1 x1 x2 s0.2 mA).bind fun x3=>
  match x3 with
  | (.inl x3)=>
   some (.inl ((w64 (s0.1+1)),true))
  | (.inr x3)=>
   some (.inl ((w64 (s0.1+1)),false))
 else
  some (.inr s0.2)
def Zju (a:Zan) (mA:Int):Option Bool:=
 (lp (ZeV a mA) (0,true)).bind fun r4=>
 some r4
def ZhF (a:Int) (b:Zf) (c:List Int) (mG:Int) (mA:Int) (mH:List Zf):Option (Int⊕Unit):=
 (Zas c mG).bind fun x0=>
 bif x0 then
  (ZbZ b).bind fun x1=>
  bif x1 then
   some (.inl (w64 (mA+1)))
  else
   bif (Nat.ble (List.length mH+1) lim) then
    some (.inr ())
   else
    none
 else
  some (.inl mA)
def Zc2 (a:Zan) (mG:Int) (s0:Int×Int×(List Zf)):Option ((Int×Int×(List Zf))⊕(Int×(List Zf))):=
 bif (decide (s0.1<(bif decide ((a.cores.length:Int)<(a.shapes.length:Int)) then (a.cores.length:Int) else (a.shapes.length:Int)))) then
  (Zz a.shapes s0.1).bind fun x1=>
  (Zz a.cores s0.1).bind fun x2=>
  (ZhF s0.1 x1 x2 mG s0.2.1 s0.2.2).bind fun x3=>
  match x3 with
  | (.inl x3)=>
   some (.inl ((w64 (s0.1+1)),x3,s0.2.2))
  | (.inr x3)=>
   some (.inl ((w64 (s0.1+1)),s0.2.1,(s0.2.2++[x1])))
 else
  some (.inr (s0.2.1,s0.2.2))
def Zhw (a:Zan) (mG:Int) (mA:Int):Option (Int×(List Zf)):=
 (lp (Zc2 a mG) (0,mA,([]:List Zf))).bind fun r4=>
 some (r4.1,r4.2)
def Zd2 (a:Zan) (b:Int) (s1:Int):Option (Int⊕(Unit⊕Unit)):=
 bif (decide (s1<b)) then
  (Zhw a s1 0).bind fun x2=>
  bif (decide (1<x2.1)) then
   some (.inr (.inl ()))
  else
   bif (x2.1==1) then
    bif (decide (0<(x2.2.length:Int))) then
     some (.inr (.inl ()))
    else
     (Ziy x2.2).bind fun x3=>
     bif x3 then
      some (.inl (w64 (s1+1)))
     else
      some (.inr (.inl ()))
   else
    (Ziy x2.2).bind fun x4=>
    bif x4 then
     some (.inl (w64 (s1+1)))
    else
     some (.inr (.inl ()))
 else
  some (.inr (.inr ()))
def ZiL (a:Zan) (b:Int):Option Bool:=
 bif (decide (b<1)) then
  some false
 else
  bif (decide (8<b)) then
   some false
  else
   bif (decide (8<(a.shapes.length:Int))) then
    some false
   else
    bif ((a.cores.length:Int) != (a.shapes.length:Int)) then
     some false
    else
     (Zju a b).bind fun x0=>
     bif x0 then
      (lp (Zd2 a b) 0).bind fun r5=>
      match r5 with
      | (.inl r5)=>
       some false
      | (.inr r5)=>
       some true
     else
      some false
def ZhH (a:Int) (b:Zf) (c:List Int) (mG:Int) (mI:List Int):Option (Unit⊕Unit):=
 (Zfq b).bind fun x0=>
 bif (x0==0) then
  (ZbZ b).bind fun x1=>
  bif x1 then
   some (.inl ())
  else
   (Zas c mG).bind fun x2=>
   bif x2 then
    bif (Nat.ble (List.length mI+1) lim) then
     some (.inr ())
    else
     none
   else
    some (.inl ())
 else
  some (.inl ())
def Zc3 (a:Zan) (mG:Int) (s0:Int×(List Int)):Option ((Int×(List Int))⊕(List Int)):=
 bif (decide (s0.1<(bif decide ((a.cores.length:Int)<(a.shapes.length:Int)) then (a.cores.length:Int) else (a.shapes.length:Int)))) then
  (Zz a.shapes s0.1).bind fun x1=>
  (Zz a.cores s0.1).bind fun x2=>
  (ZhH s0.1 x1 x2 mG s0.2).bind fun x3=>
  match x3 with
  | (.inl x3)=>
   some (.inl ((w64 (s0.1+1)),s0.2))
  | (.inr x3)=>
   some (.inl ((w64 (s0.1+1)),(s0.2++[s0.1])))
 else
  some (.inr s0.2)
def Zje (a:Zan) (mG:Int):Option (List Int):=
 (lp (Zc3 a mG) (0,([]:List Int))).bind fun r4=>
 some r4
def ZiE (a:Zan) (b:Int):Option (List Int):=
 (Zje a b).bind fun x0=>
 some x0
def Zl2 (a:List Zf) (b:Int) (c:((List Zf)->Int->Option Int)):Option (Int×Int):=
 (ZgU a).bind fun x0=>
 bif (x0 != 0) then
  some (0,x0)
 else
  bif (decide (b<0)) then
   some (0,151)
  else
   bif (decide (1099511627775<b)) then
    some (0,151)
   else
    (c a b).bind fun x1=>
    some (x1,0)
def Zhb (a:List Zf) (b:Int):Option (Int×Int):=
 (Zl2 a b (fun z0 z1=>Ze8 z0 z1)).bind fun x0=>
 some (x0.1,x0.2)
def ZhO (a:List Zf) (b:Int):Option (Int×Int):=
 (Zl2 a b (fun z0 z1=>ZhT z0 z1)).bind fun x0=>
 some (x0.1,x0.2)
def Zcl (x3:(Zan×Int)) (s5:Int×(List Int)) (x8:List Int) (s9:Int×(List Int)):Option ((Int×(List Int))⊕((List Int)⊕(List Int))):=
 bif (decide (s9.1<(x8.length:Int))) then
  (Zz x3.1.cores s5.1).bind fun x10=>
  (Zz x10 s9.1).bind fun x11=>
  (ZgX s9.2 x11).bind fun x12=>
  bif x12 then
   some (.inr (.inl s9.2))
  else
   bif (Nat.ble (List.length s9.2+1) lim) then
    some (.inl ((w64 (s9.1+1)),(s9.2++[x11])))
   else
    none
 else
  some (.inr (.inr s9.2))
def ZbG (x3:(Zan×Int)) (s5:Int×(List Int)):Option ((Int×(List Int))⊕((List Int)⊕(List Int))):=
 bif (decide (s5.1<(x3.1.shapes.length:Int))) then
  bif (decide (s5.1<(x3.1.cores.length:Int))) then
   (Zz x3.1.shapes s5.1).bind fun x6=>
   (ZbZ x6).bind fun x7=>
   bif x7 then
    (Zz x3.1.cores s5.1).bind fun x8=>
    bif (decide (x6.deadline<=x6.long)) then
     some (.inr (.inl s5.2))
    else
     bif (decide ((w64 ((x8.length:Int)*(w64 (x6.deadline-x6.long))))<(w64 (x6.total-x6.long)))) then
      some (.inr (.inl s5.2))
     else
      bif (decide ((w64 (x6.total-x6.long))<=(w64 ((w64 ((x8.length:Int)-1))*(w64 (x6.deadline-x6.long)))))) then
       some (.inr (.inl s5.2))
      else
       (lp (Zcl x3 s5 x8) (0,s5.2)).bind fun r13=>
       match r13 with
       | (.inl r13)=>
        some (.inr (.inl r13))
       | (.inr r13)=>
        some (.inl ((w64 (s5.1+1)),r13))
   else
    some (.inl ((w64 (s5.1+1)),s5.2))
  else
   some (.inr (.inr s5.2))
 else
  some (.inr (.inr s5.2))
def ZbF (x3:(Zan×Int)) (x17:List Int) (s18:Int×(List Zf)):Option ((Int×(List Zf))⊕(List Zf)):=
 bif (decide (s18.1<(x17.length:Int))) then
  (Zz x17 s18.1).bind fun x19=>
  (Zz x3.1.shapes x19).bind fun x20=>
  bif (Nat.ble (List.length s18.2+1) lim) then
   some (.inl ((w64 (s18.1+1)),(s18.2++[x20])))
  else
   none
 else
  some (.inr s18.2)
def Zcm (b:Int) (c:Int) (x3:(Zan×Int)) (r14:List Int) (s15:Int):Option (Int⊕(Unit⊕Unit)):=
 bif (decide (s15<b)) then
  (Zh4 x3.1).bind fun x16=>
  (ZiE (Zan.mk x3.1.shapes x16) s15).bind fun x17=>
  (lp (ZbF x3 x17) (0,([]:List Zf))).bind fun r21=>
  bif (decide (0<(x17.length:Int))) then
   (ZgX r14 s15).bind fun x22=>
   bif x22 then
    some (.inr (.inl ()))
   else
    bif (decide (1<=c)) then
     bif (decide (c<=1099511627775)) then
      (Zhb r21 c).bind fun x23=>
      (ZhO r21 c).bind fun x24=>
      bif (x23.2 != 0) then
       some (.inr (.inl ()))
      else
       bif (x24.2 != 0) then
        some (.inr (.inl ()))
       else
        bif (decide (0<x23.1)) then
         bif (decide (c<(w64 (x23.1+x24.1)))) then
          some (.inr (.inl ()))
         else
          some (.inl (w64 (s15+1)))
        else
         some (.inl (w64 (s15+1)))
     else
      some (.inl (w64 (s15+1)))
    else
     some (.inl (w64 (s15+1)))
  else
   bif (decide (1<=c)) then
    bif (decide (c<=1099511627775)) then
     (Zhb r21 c).bind fun x25=>
     (ZhO r21 c).bind fun x26=>
     bif (x25.2 != 0) then
      some (.inr (.inl ()))
     else
      bif (x26.2 != 0) then
       some (.inr (.inl ()))
      else
       bif (decide (0<x25.1)) then
        bif (decide (c<(w64 (x25.1+x26.1)))) then
         some (.inr (.inl ()))
        else
         some (.inl (w64 (s15+1)))
       else
        some (.inl (w64 (s15+1)))
    else
     some (.inl (w64 (s15+1)))
   else
    some (.inl (w64 (s15+1)))
 else
  some (.inr (.inr ()))
def ZhD (a:List Zq) (b:Int) (c:Int):Option Bool:=
 Zht.bind fun x0=>
 bif x0 then
  (ZkI a).bind fun x1=>
  bif x1 then
   (ZkV a).bind fun x2=>
   (ZiJ x2 b).bind fun x3=>
   bif (x3.2 != 0) then
    (Zjx x3.1 (Zan.mk ([]:List Zf) ([]:List (List Int)))).bind fun x4=>
    bif x4 then
     some true
    else
     some false
   else
    (lp (ZbG x3) (0,([]:List Int))).bind fun r14=>
    match r14 with
    | (.inl r14)=>
     some false
    | (.inr r14)=>
     (lp (Zcm b c x3 r14) 0).bind fun r27=>
     match r27 with
     | (.inl r27)=>
      some false
     | (.inr r27)=>
      (Zh4 x3.1).bind fun x28=>
      (ZiL (Zan.mk x3.1.shapes x28) b).bind fun x29=>
      bif x29 then
       bif ((x3.1.shapes.length:Int)==(a.length:Int)) then
        bif ((x3.1.cores.length:Int)==(a.length:Int)) then
         some true
        else
         some false
       else
        some false
      else
       some false
  else
   Zht.bind fun x30=>
   bif x30 then
    some true
   else
    some false
 else
  Zht.bind fun x31=>
  bif x31 then
   some true
  else
   some false
abbrev zL (t:Bool) (l:List Int):D:=.list t (List.map Zm l)
abbrev zM {A:Type} (t:Bool) (f:A->D) (l:List A):D:=.list t (List.map f l)
abbrev zN (n:Int):V:=.d (Zm n)
abbrev zV (t:Bool) (l:List Int):V:=.d (zL t l)
abbrev zW {A:Type} (t:Bool) (f:A->D) (l:List A):V:=.d (zM t f l)
abbrev zA (l:List Int):Blk:=.arr 1 (List.map Zm l)
abbrev zE:Int->Int->Bool:=fun ka kb=>(ka==kb)
abbrev zK0 (x0:Int) (x1:Int) (x2:Bool) (x3:List Z3) (x4:Bool) (x5:List Zs) (x6:Bool) (x7:List Zj) (x8:Bool) (x9:List Zu):Blk:=.cells [(zN x0),(zN x1),(zW x2 ZjY x3),(zW x4 ZaV x5),(zW x6 Z2 x7),(zW x8 Zde x9)]
abbrev zK1 (x0:Int) (x1:Int) (x2:Int) (x3:Int) (x4:Int):D:=D.agg [(Zm x0),(Zm x1),(Zm x2),(Zm x3),(Zm x4)]
abbrev zK2 (x0:Bool) (x1:List Int) (x2:Bool) (x3:List Zs):Blk:=.cells [(zV x0 x1),(zW x2 ZaV x3)]
abbrev zK3  : Blk:=.cells [(.sl 3 1),(.sl 4 2),(.sl 5 2)]
abbrev zK4 (x0:Bool) (x1:List Int) (x2:Bool) (x3:List Zs):D:=D.agg [(zL x0 x1),(zM x2 ZaV x3)]
abbrev zK5 (x0:Int) (x1:Int):D:=D.agg [(Zm x0),(Zm x1)]
end
end Go.Proofs.YtmnglncebfabpaaGreatDoor
namespace Go.Proofs.YtmnglncebfabpaaGreatDoorE
open Go
open Go.IntKind (u64 i64 u32 i32 u8)
theorem ZcG {i n:Nat} (h:i<n):decide ((i:Int)<(n:Int))=true:=decide_eq_true (by omega)
theorem Zdn (n:Nat):decide ((n:Int)<(n:Int))=false:=decide_eq_false (by omega)
theorem ZU {γ:Type}{l:List γ}{i:Nat}{x:γ} (h:l[i]? = some x):Zz l (i:Int)=some x:=(ZDd l i).trans h
theorem Zt3 {γ:Type}{l:List γ}{i:Int}{x:γ} (h0:0<=i) (h:l[i.toNat]? = some x):Zz l i=some x:=by
 have:=ZU h
 rwa [Int.toNat_of_nonneg h0] at this
theorem Zac {n:Int} (h1 : -9223372036854775808<=n) (h2:n<9223372036854775808):w64 n=n:=ZHS h1 h2
theorem ZJ {i n:Nat} (h:i<n) (hn:n<9223372036854775808):w64 ((i:Int)+1)=((i+1:Nat):Int):=by rw[Zac (by omega) (by omega)];omega
theorem ZgB {n:Nat} (h:n<=1073741824):Nat.ble n lim=true:=Nat.ble_eq_true_of_le h
def ZoE {γ S R:Type} (f:Nat->γ->S->Option (S⊕R)) (fin:S->Option R):Nat->List γ->S->Option R
 | _,[],s=>fin s
 | i,x :: l,s=>(match f i x s with | some (.inl s')=>ZoE f fin (i+1) l s' | some (.inr r)=>some r | none=>none)
theorem Zr3 {γ S St R:Type} (l:List γ) (step:St->Option (St⊕R)) (st:Nat->S->St) (f:Nat->γ->S->Option (S⊕R)) (fin:S->Option R)
  (h1:∀i x s,i<l.length->l[i]? = some x->step (st i s)=(match f i x s with | some (.inl s')=>some (.inl (st (i+1) s')) | some (.inr r)=>some (.inr r) | none=>none))
  (h2:∀s,step (st l.length s)=(fin s).map Sum.inr):∀s,lp step (st 0 s)=ZoE f fin 0 l s:=by
 have key:∀(k i:Nat) (s:S),i+k=l.length->lp step (st i s)=ZoE f fin i (l.drop i) s:=by
  intro k
  induction k with
  | zero=>
   intro i s hi
   have:i=l.length:=by omega
   subst this
   rw[List.drop_length,Zaj,h2]
   unfold ZoE
   cases fin s<;>rfl
  | succ k ih=>
   intro i s hi
   have hi':i<l.length:=by omega
   rw[List.drop_eq_getElem_cons hi',Zaj,h1 i l[i] s hi' (List.getElem?_eq_getElem hi')]
   conv=>rhs;unfold ZoE
   cases f i l[i] s with
   | none=>rfl
   | some t=>
    cases t with
    | inl s'=>exact ih (i+1) s' (by omega)
    | inr r=>rfl
 intro s
 have:=key l.length 0 s (by omega)
 rwa [List.drop_zero] at this
def ZkA {γ R:Type} (p:Nat->γ->Bool) (out:Nat->γ->R) (fin:R):Nat->List γ->R
 | _,[]=>fin
 | i,x :: l=>bif p i x then out i x else ZkA p out fin (i+1) l
theorem Zgz {γ R:Type} (l:List γ) (step:Int->Option (Int⊕R)) (p:Nat->γ->Bool) (out:Nat->γ->R) (fin:R)
  (h1:∀i x,i<l.length->l[i]? = some x->step (i:Int)=some (bif p i x then .inr (out i x) else .inl ((i+1:Nat):Int)))
  (h2:step (l.length:Int)=some (.inr fin)):lp step 0=some (ZkA p out fin 0 l):=by
 have key:=Zr3 (S:=Unit) l step (fun i _=>(i:Int)) (fun i x _=>some (bif p i x then .inr (out i x) else .inl ())) (fun _=>some fin)
  (fun i x s hi hx=>by rw[h1 i x hi hx];cases p i x<;>rfl) (fun _=>h2) ()
 refine(key:lp step 0=_).trans ?_
 have:∀(l:List γ) (i:Nat),ZoE (S:=Unit) (fun i x _=>some (bif p i x then Sum.inr (out i x) else Sum.inl ())) (fun _=>some fin) i l ()=some (ZkA p out fin i l):=by
  intro l
  induction l with
  | nil=>intro i;rfl
  | cons x l ih=>
   intro i
   unfold ZoE ZkA
   cases p i x with
   | true=>rfl
   | false=>exact ih (i+1)
 exact this l 0
def ZhY {γ:Type} (p:Nat->γ->Bool):Nat->List γ->Bool
 | _,[]=>false
 | i,x :: l=>p i x || ZhY p (i+1) l
theorem Zlt {γ:Type} (p:γ->Bool):∀(l:List γ) (i:Nat),ZhY (fun _=>p) i l=l.any p
 | [],_=>rfl
 | x :: l,i=>by rw[ZhY,List.any_cons,Zlt p l]
theorem Zeh {γ R:Type} (p:Nat->γ->Bool) (c fin:R):∀(l:List γ) (i:Nat),ZkA p (fun _ _=>c) fin i l=bif ZhY p i l then c else fin
 | [],_=>rfl
 | x :: l,i=>by
  unfold ZkA ZhY
  rw[Zeh p c fin l (i+1)]
  cases p i x<;>rfl
theorem ZoD {γ R:Type} (p:γ->Bool) (fin:R):∀(l:List γ) (i:Nat),(∃j:Nat,ZkA (fun _=>p) (fun i _=>(Sum.inl (i:Int):Int⊕R)) (.inr fin) i l = .inl (j:Int)/\l.any p=true)∨(ZkA (fun _=>p) (fun i _=>(Sum.inl (i:Int):Int⊕R)) (.inr fin) i l = .inr fin/\l.any p=false)
 | [],_=>.inr ⟨rfl,rfl⟩
 | x :: l,i=>by
  unfold ZkA
  rw[List.any_cons]
  cases h:p x with
  | true=>exact .inl ⟨i,rfl,rfl⟩
  | false=>simpa using ZoD p fin l (i+1)
theorem Zm5 {γ:Type} (p:Nat->γ->Bool):∀(l:List γ) (i:Nat),ZhY p i l=true↔∃j x,l[j]? = some x/\p (i+j) x=true
 | [],i=>by simp[ZhY]
 | x :: l,i=>by
  rw[ZhY,Bool.or_eq_true,Zm5 p l (i+1)]
  constructor
  ·rintro (h | ⟨j,y,hj,hp⟩)
   ·exact⟨0,x,rfl,h⟩
   ·exact⟨j+1,y,by simpa using hj,by rw[show i+(j+1)=i+1+j by omega];exact hp⟩
  ·rintro ⟨j,y,hj,hp⟩
   cases j with
   | zero=>left;simp at hj;subst hj;exact hp
   | succ j=>right;exact⟨j,y,by simpa using hj,by rw[show i+1+j=i+(j+1) by omega];exact hp⟩
end Go.Proofs.YtmnglncebfabpaaGreatDoorE
namespace Go.Proofs.YtmnglncebfabpaaGreatDoor
open Go Go.Proofs.YtmnglncebfabpaaGreatDoorE
open Go.IntKind (u64 i64 u32 i32 u8)
def Zdh (n a b:Int):Bool:=decide (a<=n)&&decide (n<=b)
theorem Zm8 (n a b:Int):ZbY n a b=some (Zdh n a b):=by
 unfold ZbY Zdh
 cases decide (a<=n)<;>cases decide (n<=b)<;>rfl
def Zhx (p:Z3):Bool:=!(Zdh p.op 0 5&&(Zdh p.arg 0 2147483647&&Zdh p.work 1 100))
theorem ZHe (p:Z3):ZgQ p=some (Zhx p):=by
 unfold ZgQ Zhx
 simp only[Zm8,Option.bind_some]
 cases Zdh p.op 0 5<;>cases Zdh p.arg 0 2147483647<;>cases Zdh p.work 1 100<;>rfl
theorem Znh {γ:Type} (l:List γ) (p:γ->Bool) (step:Int->Option (Int⊕(Int⊕Unit)))
  (h1:∀i x,i<l.length->l[i]? = some x->step (i:Int)=some (bif p x then .inr (.inl (i:Int)) else .inl ((i+1:Nat):Int)))
  (h2:step (l.length:Int)=some (.inr (.inr ()))) :
  (((lp step 0).bind fun(r:Int⊕Unit)=>match r with | .inl r=>some r | .inr _=>some (-1)).bind fun x=>bif decide (0<=x) then some true else some false)=some (l.any p):=by
 rw[Zgz l step (fun _=>p) (fun i _=>.inl (i:Int)) (.inr ()) h1 h2]
 rcases ZoD p () l 0 with⟨j,e1,e2⟩ | ⟨e1,e2⟩
 ·rw[e1,e2]
  show(bif decide ((0:Int)<=(j:Int)) then some true else some false)=some true
  rw[decide_eq_true (by omega)]
  rfl
 ·rw[e1,e2]
  rfl
theorem ZtT (l:List Z3) (f:Z3->Option Bool) (p:Z3->Bool) (hf:∀x∈l,f x=some (p x)) (hl:l.length<9223372036854775808):Zbz l f=some (l.any p):=by
 unfold Zbz Zc0
 refine Znh l p _ (fun i x hi hx=>?_) ?_
 ·simp only[Zby,ZcG hi,ZU hx,Option.bind_some,hf x (List.mem_of_getElem? hx),ZJ hi hl,cond_true]
  cases p x<;>rfl
 ·simp only[Zby,Zdn];rfl
def ZsE (e x:Zs):Bool:=e.src==x.src&&(e.dst==x.dst&&true)
theorem ZvD (l:List Zs) (e:Zs) (hl:l.length<9223372036854775808):Zbp l e=some (l.any (ZsE e)):=by
 unfold Zbp Zed
 refine Znh l (ZsE e) _ (fun i x hi hx=>?_) ?_
 ·simp only[Zcc,ZcG hi,ZU hx,Option.bind_some,ZJ hi hl,cond_true,ZsE]
  cases (e.src==x.src&&(e.dst==x.dst&&true))<;>rfl
 ·simp only[Zcc,Zdn];rfl
def again (f g:Zj):Bool:=g.user==f.user&&g.pos==f.pos
theorem Zqo (l:List Zj) (f:Zj->Option Bool) (p:Zj->Bool) (hf:∀x∈l,f x=some (p x)) (hl:l.length<9223372036854775808):Za7 l f=some (l.any p):=by
 unfold Za7 Zcz
 refine Znh l p _ (fun i x hi hx=>?_) ?_
 ·simp only[Za6,ZcG hi,ZU hx,Option.bind_some,hf x (List.mem_of_getElem? hx),ZJ hi hl,cond_true]
  cases p x<;>rfl
 ·simp only[Za6,Zdn];rfl
theorem ZFq (f g:Zj):Zeo g f.user f.pos=some (again f g):=by
 unfold Zeo again
 cases (g.user==f.user)<;>cases (g.pos==f.pos)<;>rfl
theorem ZtO (l:List Int) (n:Int) (hl:l.length<9223372036854775808):Zas l n=some (l.any (fun x=>n==x)):=by
 unfold Zas Zfw
 refine Znh l (fun x=>n==x) _ (fun i x hi hx=>?_) ?_
 ·simp only[ZcF,ZcG hi,ZU hx,Option.bind_some,ZJ hi hl,cond_true]
  cases (n==x)<;>rfl
 ·simp only[ZcF,Zdn];rfl
def Zt0 (b:Zu) (n:Int):Bool:=b.outs.any fun x=>n==x
theorem Zog (l:List Int) (f:Int->Option Bool) (p:Int->Bool) (hf:∀x∈l,f x=some (p x)) (hl:l.length<9223372036854775808):ZaK l f=some (l.any p):=by
 unfold ZaK ZaF
 refine Znh l p _ (fun i x hi hx=>?_) ?_
 ·simp only[ZX,ZcG hi,ZU hx,Option.bind_some,hf x (List.mem_of_getElem? hx),ZJ hi hl,cond_true]
  cases p x<;>rfl
 ·simp only[ZX,Zdn];rfl
theorem ZJU (b:Zu) (h2:b.outs.length<9223372036854775808) (n:Int):Zeq n b.outs=some (Zt0 b n):=by
 unfold Zeq
 simp only[ZtO _ _ h2,Option.bind_some]
 unfold Zt0
 cases (b.outs.any fun y=>n==y)<;>rfl
def two (n:Nat) (a b:Int):Bool:=(a != b)&&(Zdh a 0 (n-1)&&Zdh b 0 (n-1))
theorem ZGk (d:Zq) (hl:d.parts.length<9223372036854775808) (a b:Int):Zj8 d a b=some (two d.parts.length a b):=by
 unfold Zj8 two
 rw[Zac (by omega) (by omega)]
 simp only[Zm8,Option.bind_some]
 cases (a != b)<;>cases Zdh a 0 (d.parts.length-1)<;>cases Zdh b 0 (d.parts.length-1)<;>rfl
def Zu4 (n:Nat) (l:List Int) (i:Nat) (x:Int):Bool:=!(Zdh x 0 (n-1)) || (match i with | 0=>false | j+1=>match l[j]? with | some y=>decide (x<=y) | none=>false)
def Zoe (n:Nat) (l:List Int):Bool:=!(ZhY (Zu4 n l) 0 l) && !l.isEmpty
theorem ZFv (b:Bool) (l:List Int):((some (bif b then (Sum.inl ():Unit⊕Unit) else .inr ())).bind fun r=>match r with | .inl _=>some false | .inr _=>bif decide (0<(l.length:Int)) then some true else some false)=some (!b && !l.isEmpty):=by
 cases b with
 | true=>rfl
 | false=>
  cases l with
  | nil=>rfl
  | cons x l=>show(bif decide (0<((x :: l).length:Int)) then some true else some false)=some true;rw[decide_eq_true (by rw[List.length_cons];omega)];rfl
theorem ZGm (d:Zq) (hd:d.parts.length<9223372036854775808) (l:List Int) (hl:l.length<9223372036854775808):Zj9 d l=some (Zoe d.parts.length l):=by
 have key:=Zgz l (Zhq d l) (Zu4 d.parts.length l) (fun _ _=>.inl ()) (.inr ()) (fun i x hi hx=>by
   simp only[Zhq,ZcG hi,ZU hx,Option.bind_some,ZJ hi hl,cond_true,Zm8,Zu4]
   rw[Zac (by omega) (by omega)]
   cases Zdh x 0 (d.parts.length-1) with
   | false=>rfl
   | true=>
    cases i with
    | zero=>rfl
    | succ i=>
     rw[decide_eq_true (show(0:Int)<((i+1:Nat):Int) by omega),Zac (by omega) (by omega),show(((i+1:Nat):Int)-1)=(i:Int) by omega]
     have hi2:l[i]? = some l[i]:=List.getElem?_eq_getElem (by omega)
     rw[ZU hi2]
     simp only[cond_true,Option.bind_some,Bool.not_true,Bool.false_or,hi2]
     cases decide (x<=l[i])<;>rfl) (by simp only[Zhq,Zdn];rfl)
 unfold Zj9 Zoe
 rw[key,Zeh]
 exact ZFv _ _
def Zot (n:Int):Int:=bif decide (n<0) then 10 else bif decide (1099511627775<n) then 11 else 0
theorem Zsk (n:Int):ZhL n=some (Zot n):=by
 unfold ZhL Zot
 cases decide (n<0)<;>cases decide (1099511627775<n)<;>rfl
noncomputable def ZAS (x:Int):Int:=match Zdq x with | some n=>n | none=>0
theorem ZHX (x:Int):Zes x=some (ZAS x):=by
 unfold Zes ZAS Zdq
 rfl
def ZzG (n:Nat):Bool:=[1,2,4,8,16,32,64,128,256,512,1024,2048,4096].contains n
theorem Zzh:((List.range 4097).all fun n=>(ZAS (u64.wrap (n:Int))==1)==ZzG n)=true:=by kernel_rfl
theorem ZzF (n:Nat) (h:n<=4096):(ZAS (u64.wrap (n:Int))==1)=ZzG n:=by
 have:=List.all_eq_true.1 Zzh n (by simp;omega)
 simpa using this
noncomputable def Zww (n:Int):Bool:=!(Zot n != 0) && !(ZAS (u64.wrap n) != 1)
theorem Zxj (n:Int):∃k,Zlu n=some (k,Zww n):=by
 have tz:∃k,ZeP (u64.wrap n)=some k:=⟨_,rfl⟩
 obtain⟨k,hk⟩:=tz
 unfold Zlu Zww
 simp only[Zsk,ZHX,Option.bind_some,hk]
 cases (Zot n != 0)
 ·cases (ZAS (u64.wrap n) != 1)
  ·exact⟨k,rfl⟩
  ·exact⟨0,rfl⟩
 ·exact⟨0,rfl⟩
theorem Zzl (n:Nat) (h:n<=4096):Zww (n:Int)=ZzG n:=by
 have h1:(Zot (n:Int) != 0)=false:=by
  unfold Zot
  rw[decide_eq_false (show ¬((n:Int)<0) by omega),decide_eq_false (show ¬((1099511627775:Int)<n) by omega)]
  rfl
 rw[<- ZzF n h]
 unfold Zww
 rw[h1]
 unfold bne
 rw[Bool.not_not]
 rfl
def ZGj (b:Zu):Prop:=b.ins.length<9223372036854775808/\b.outs.length<9223372036854775808
structure Znk (d:Zq):Prop where
 p:d.parts.length<9223372036854775808
 e:d.edges.length<9223372036854775808
 f:d.futures.length<9223372036854775808
 b:d.barriers.length<9223372036854775808
 i:∀b∈d.barriers,ZGj b
theorem ZoI {γ:Type}{l:List γ}{i n:Nat} (h:l.length<n):(l.take i).length<n:=by rw[List.length_take];omega
def Zh6 (d:Zq) (i:Nat) (e:Zs):Bool:=!(two d.parts.length e.src e.dst) || (d.edges.take i).any (ZsE e)
theorem ZFz (d:Zq) (h:Znk d):lp (Ze0 d) 0=some (bif ZhY (Zh6 d) 0 d.edges then .inl () else .inr ()):=by
 have key:=Zgz d.edges (Ze0 d) (Zh6 d) (fun _ _=>.inl ()) (.inr ()) (fun i x hi hx=>by
   simp only[Ze0,ZcG hi,ZU hx,Option.bind_some,ZJ hi h.e,cond_true,ZGk d h.p,Zh6,Int.toNat_natCast,ZvD _ _ (ZoI h.e)]
   rw[decide_eq_true (show(0:Int)<=(i:Int) by omega),Nat.ble_eq_true_of_le (Nat.le_of_lt hi)]
   cases two d.parts.length x.src x.dst<;>cases (d.edges.take i).any (ZsE x)<;>rfl) (by simp only[Ze0,Zdn];rfl)
 rw[key,Zeh]
def Zgy (ps:List Z3) (z:Int):Int:=match ps[z.toNat]? with | some p=>p.work | none=>0
def ZeR (d:Zq) (i:Nat) (f:Zj):Bool:=!(two d.parts.length f.maker f.user) || (!(Zdh f.pos 1 (Zgy d.parts f.user-1)) || (d.futures.take i).any (again f))
theorem Ztx {n:Nat}{a b:Int} (h:two n a b=true):(0<=a/\a.toNat<n)/\(0<=b/\b.toNat<n)/\a≠b:=by
 simp only[two,Zdh,Bool.and_eq_true,decide_eq_true_eq,bne_iff_ne] at h
 omega
theorem ZGc {γ:Type}{l:List γ}{z:Int} (h0:0<=z) (h:z.toNat<l.length):Zz l z=some l[z.toNat]:=Zt3 h0 (List.getElem?_eq_getElem h)
theorem ZBD (d:Zq) (h:Znk d) (hg:∀p∈d.parts,1<=p.work/\p.work<=100):lp (Ze2 d) 0=some (bif ZhY (ZeR d) 0 d.futures then .inl () else .inr ()):=by
 have key:=Zgz d.futures (Ze2 d) (ZeR d) (fun _ _=>.inl ()) (.inr ()) (fun i x hi hx=>by
   simp only[Ze2,ZcG hi,ZU hx,Option.bind_some,ZJ hi h.f,cond_true,ZGk d h.p,ZeR]
   cases h1:two d.parts.length x.maker x.user with
   | false=>rfl
   | true=>
    obtain⟨_,⟨u1,u2⟩,_⟩:=Ztx h1
    have w:=hg _ (List.getElem_mem u2)
    have wa:Zgy d.parts x.user=d.parts[x.user.toNat].work:=by simp only[Zgy,List.getElem?_eq_getElem u2]
    rw[<- wa] at w
    rw[ZGc u1 u2]
    simp only[cond_true,Option.bind_some,Zm8,<- wa,Zac (show -9223372036854775808<=Zgy d.parts x.user-1 by omega) (by omega),Int.toNat_natCast]
    rw[decide_eq_true (show(0:Int)<=(i:Int) by omega),Nat.ble_eq_true_of_le (Nat.le_of_lt hi),Zqo _ _ (again x) (fun y _=>ZFq x y) (ZoI h.f)]
    cases Zdh x.pos 1 (Zgy d.parts x.user-1)<;>cases (d.futures.take i).any (again x)<;>rfl) (by simp only[Ze2,Zdn];rfl)
 rw[key,Zeh]
def ZgS (n:Nat) (b:Zu):Bool:=!(Zoe n b.ins) || (!(Zoe n b.outs) || b.ins.any (Zt0 b))
theorem Zzm (d:Zq) (h:Znk d):lp (Ze1 d) 0=some (bif d.barriers.any (ZgS d.parts.length) then .inl () else .inr ()):=by
 have key:=Zgz d.barriers (Ze1 d) (fun _=>ZgS d.parts.length) (fun _ _=>.inl ()) (.inr ()) (fun i x hi hx=>by
   have hb:=h.i x (List.mem_of_getElem? hx)
   simp only[Ze1,ZcG hi,ZU hx,Option.bind_some,ZJ hi h.b,cond_true,ZGm d h.p _ hb.1,ZGm d h.p _ hb.2,ZgS,Zog x.ins _ (Zt0 x) (fun y _=>ZJU x hb.2 y) hb.1]
   cases Zoe d.parts.length x.ins<;>cases Zoe d.parts.length x.outs<;>cases x.ins.any (Zt0 x)<;>rfl) (by simp only[Ze1,Zdn];rfl)
 rw[key,Zeh,Zlt]
noncomputable def ZtZ (d:Zq):Bool:=Zww d.period&&(!decide (4096<d.period)&&Zdh d.deadline 1 d.period)
def Zov (d:Zq):Bool:=Zdh (d.parts.length:Int) 1 16&&(!decide ((48:Int)<d.edges.length)&&(!decide ((16:Int)<d.futures.length) && !decide ((4:Int)<d.barriers.length)))
noncomputable def Zid (d:Zq):Int:=
 bif Zov d then bif ZtZ d then bif d.parts.any Zhx then 52 else bif ZhY (Zh6 d) 0 d.edges then 53 else
 bif ZhY (ZeR d) 0 d.futures then 54 else bif d.barriers.any (ZgS d.parts.length) then 55 else 0 else 51 else 50
theorem Zt1 {ps:List Z3} (h:ps.any Zhx=false):∀p∈ps,1<=p.work/\p.work<=100:=fun p hp=>by
 have:=List.any_eq_false.1 h p hp
 simp only[Zhx,Zdh,Bool.not_eq_true,Bool.not_eq_false',Bool.and_eq_true,decide_eq_true_eq] at this
 exact this.2.2
theorem ZzQ (d:Zq) (h:Znk d):Zh9 d=some (Zid d):=by
 obtain⟨k,hk⟩:=Zxj d.period
 unfold Zh9 Zid Zov ZtZ
 simp only[Zm8,Option.bind_some,hk,ZtT _ _ Zhx (fun x _=>ZHe x) h.p,ZFz d h,Zzm d h]
 cases Zdh (d.parts.length:Int) 1 16 with
 | false=>rfl
 | true=>
  cases decide ((48:Int)<d.edges.length) with
  | true=>rfl
  | false=>
   cases decide ((16:Int)<d.futures.length) with
   | true=>rfl
   | false=>
    cases decide ((4:Int)<d.barriers.length) with
    | true=>rfl
    | false=>
     cases Zww d.period with
     | false=>rfl
     | true=>
      cases decide (4096<d.period) with
      | true=>rfl
      | false=>
       cases Zdh d.deadline 1 d.period with
       | false=>rfl
       | true=>
        cases hp:d.parts.any Zhx with
        | true=>rfl
        | false=>
         rw[ZBD d h (Zt1 hp)]
         cases ZhY (Zh6 d) 0 d.edges<;>cases ZhY (ZeR d) 0 d.futures<;>cases d.barriers.any (ZgS d.parts.length)<;>rfl
def ZsT (b:Zu):Bool:=decide (20<(b.ins.length:Int)) || decide (20<(b.outs.length:Int))
def few (d:Zq):Bool:=!((d.barriers.take 9).any ZsT)&&(decide ((d.parts.length:Int)<=20)&&(decide ((d.edges.length:Int)<=60)&&(decide ((d.futures.length:Int)<=20)&&decide ((d.barriers.length:Int)<=8))))
theorem ZIy (d:Zq):ZkK d=some (few d):=by
 have hl:(d.barriers.take 9).length=min 9 d.barriers.length:=List.length_take
 have key:=Zgz (d.barriers.take 9) (ZgG d) (fun _=>ZsT) (fun _ _=>.inl ()) (.inr ()) (fun i x hi hx=>by
   have h9:i<9:=by omega
   rw[List.getElem?_take_of_lt h9] at hx
   simp only[ZgG,ZcG (show i<d.barriers.length by omega),ZU hx,Option.bind_some,ZJ h9 (by omega),cond_true,ZsT,decide_eq_true (show(i:Int)<9 by omega)]
   cases decide (20<(x.ins.length:Int))<;>cases decide (20<(x.outs.length:Int))<;>rfl) (by
   rw[hl]
   unfold ZgG
   by_cases h:d.barriers.length<=9
   ·rw[Nat.min_eq_right h,Zdn];rfl
   ·rw[Nat.min_eq_left (by omega),decide_eq_true (show((9:Nat):Int)<d.barriers.length by omega)];rfl)
 unfold ZkK few
 rw[key,Zeh,Zlt]
 cases (d.barriers.take 9).any ZsT<;>cases decide ((d.parts.length:Int)<=20)<;>cases decide ((d.edges.length:Int)<=60)<;>cases decide ((d.futures.length:Int)<=20)<;>cases decide ((d.barriers.length:Int)<=8)<;>rfl
structure ZjT (d:Zq):Prop where
 p:d.parts.length<=20
 e:d.edges.length<=60
 f:d.futures.length<=20
 b:d.barriers.length<=8
 i:∀b∈d.barriers,b.ins.length<=20/\b.outs.length<=20
theorem ZA0 {d:Zq} (h:few d=true):ZjT d:=by
 unfold few at h
 simp only[Bool.and_eq_true,decide_eq_true_eq,Bool.not_eq_true'] at h
 obtain⟨h1,h2,h3,h4,h5⟩:=h
 refine⟨by omega,by omega,by omega,by omega,fun b hb=>?_⟩
 have:=List.any_eq_false.1 h1 b (by rw[List.take_of_length_le (by omega)];exact hb)
 simp only[ZsT,Bool.or_eq_true,decide_eq_true_eq,not_or] at this
 omega
theorem ZjT.short {d:Zq} (h:ZjT d):Znk d:=
 ⟨by have:=h.p;omega,by have:=h.e;omega,by have:=h.f;omega,by have:=h.b;omega,fun b hb=>⟨by have:=(h.i b hb).1;omega,by have:=(h.i b hb).2;omega⟩⟩
theorem ZJ1 (d:Zq) (h:ZjT d):ZkS d=some d.barriers:=by
 have key:=Zr3 d.barriers (ZfJ d) (fun i (s:List Zu)=>((i:Int),s)) (fun i x s=>bif Nat.ble (s.length+1) lim then some (.inl (s++[x])) else none) (fun s=>some s) (fun i x s hi hx=>by
   have hb:=h.i x (List.mem_of_getElem? hx)
   simp only[ZfJ,ZcG hi,ZU hx,Option.bind_some,ZJ hi h.short.b,cond_true,ZgB (show x.ins.length<=1073741824 by omega),ZgB (show x.outs.length<=1073741824 by omega)]
   cases Nat.ble (s.length+1) lim<;>rfl) (fun s=>by simp only[ZfJ,Zdn];rfl) []
 have sc:∀(l:List Zu) (i:Nat) (s:List Zu),s.length+l.length<=1073741824->ZoE (fun i x s=>bif Nat.ble (s.length+1) lim then some (Sum.inl (s++[x])) else (none:Option (List Zu⊕List Zu))) (fun s=>some s) i l s=some (s++l):=by
  intro l
  induction l with
  | nil=>intro i s _;simp[ZoE]
  | cons x l ih=>
   intro i s hs
   rw[List.length_cons] at hs
   unfold ZoE
   rw[ZgB (by omega)]
   simp only[cond_true]
   rw[ih (i+1) (s++[x]) (by rw[List.length_append];simp;omega)]
   simp
 rw[sc _ _ _ (by have:=h.b;simp;omega)] at key
 unfold ZkS
 rw[ZgB (show List.length d.parts<=1073741824 by have:=h.p;omega),ZgB (show List.length d.edges<=1073741824 by have:=h.e;omega),ZgB (show List.length d.futures<=1073741824 by have:=h.f;omega)]
 show(lp (ZfJ d) (((0:Nat):Int),[])).bind _=_
 rw[key]
 rfl
open Go Go.Proofs.YtmnglncebfabpaaGreatDoorE Go.Sort
structure OKA (P:Int->Prop) (d:Array Int):Prop where
 el:∀i,i<d.size->P d[i]!
 sz:d.size<=1000
theorem ZbN {d:Array Int}{i:Nat} (h:i<d.size):Zz d.toList (i:Int)=some d[i]!:=by
 refine ZU ?_
 rw[Array.getElem?_toList,Array.getElem?_eq_getElem h,getElem!_pos d i h]
theorem ZGP (d:Array Int) (i:Nat) (x:Int):List.set d.toList i x=(d.setIfInBounds i x).toList:=by simp
theorem ZiR (d:Array Int) (i j:Nat):List.set (List.set d.toList i d[j]!) j d[i]! = (swp d i j).toList:=by
 unfold swp
 rw[ZGP,ZGP]
theorem Zm7 {d:Array Int}{i j:Nat}{x:Int} (h:j<d.size):∃y,Zz (List.set d.toList i x) (j:Int)=some y:=by
 rw[ZGP]
 exact⟨_,ZbN (by simpa using h)⟩
theorem Zaf (d:Array Int) (i j:Nat):(swp d i j).size=d.size:=by unfold swp;simp
theorem ZF8 {d:Array Int}{i j k:Nat} (hi:i<d.size) (hj:j<d.size):(swp d i j)[k]! = if k=j then d[i]! else if k=i then d[j]! else d[k]!:=by
 unfold swp
 by_cases hk:k<d.size
 ·rw[getElem!_pos _ k (by simpa using hk),getElem!_pos d k hk,Array.getElem_setIfInBounds (by simpa using hk)]
  by_cases h1:j=k
  ·rw[if_pos h1,if_pos h1.symm]
  ·rw[if_neg h1,if_neg (Ne.symm h1),Array.getElem_setIfInBounds hk]
   by_cases h2:i=k
   ·rw[if_pos h2,if_pos h2.symm]
   ·rw[if_neg h2,if_neg (Ne.symm h2)]
 ·rw[getElem!_neg _ k (by simpa using hk),getElem!_neg d k hk,if_neg (by omega),if_neg (by omega)]
theorem OKA.swp {P:Int->Prop}{d:Array Int} (h:OKA P d) {i j:Nat} (hi:i<d.size) (hj:j<d.size):OKA P (swp d i j):=
 ⟨fun k hk=>by
  rw[Zaf] at hk
  rw[ZF8 hi hj]
  split
  ·exact h.el _ hi
  ·split
   ·exact h.el _ hj
   ·exact h.el _ hk,by rw[Zaf];exact h.sz⟩
theorem Zh1 {a b:Nat}:decide ((a:Int)<(b:Int))=decide (a<b):=decide_eq_decide.2 (by omega)
theorem Zi0 {a b:Nat}:decide ((a:Int)<=(b:Int))=decide (a<=b):=decide_eq_decide.2 (by omega)
theorem Zay {z:Int}{n:Nat} (h:z=(n:Int)) (hn:n<9223372036854775808):w64 z=(n:Int):=by rw[h,Zac (by omega) (by omega)]
section
variable (cmp:Int->Int->Option Int) (c:Int->Int->Int) (P:Int->Prop)
def ZuK:Prop:=∀x y,P x->P y->cmp x y=some (c x y)
def ltC (x y:Int):Bool:=decide (c x y<0)
variable {cmp c P} (hc:ZuK cmp c P)
include hc
theorem Zu2 (a:Nat):∀(j:Nat) (d:Array Int),OKA P d->j<d.size->lp (Z0 (a:Int) cmp) ((j:Int),d.toList)=some (insInner (ltC c) a j d).toList/\OKA P (insInner (ltC c) a j d)/\(insInner (ltC c) a j d).size=d.size
 | 0,d,hd,hj=>by
  rw[Zaj]
  simp only[Z0,decide_eq_false (show ¬((a:Int)<((0:Nat):Int)) by omega),cond_false]
  exact⟨rfl,hd,rfl⟩
 | j+1,d,hd,hj=>by
  have hj':j<d.size:=by omega
  have hz:=hd.sz
  rw[Zaj]
  have e2:w64 (((j+1:Nat):Int)-1)=(j:Int):=Zay (by omega) (by omega)
  have e3:=hc _ _ (hd.el (j+1) hj) (hd.el j hj')
  unfold insInner
  by_cases h1:a<j+1
  ·by_cases h2:c d[j+1]! d[j]! < 0
   ·have ih:=Zu2 a j (swp d (j+1) j) (hd.swp hj hj') (by rw[Zaf];omega)
    obtain⟨y,e5⟩:=Zm7 (i:=j+1) (x:=d[j]!) hj'
    simp only[Z0,Zh1,decide_eq_true h1,cond_true,ZbN hj,e2,ZbN hj',Option.bind_some,e3,decide_eq_true h2,Int.toNat_natCast,e5,ZiR]
    rw[if_pos (by simp[h1,h2,ltC])]
    rw[Zaf] at ih
    exact ih
   ·simp only[Z0,Zh1,decide_eq_true h1,cond_true,ZbN hj,e2,ZbN hj',Option.bind_some,e3,decide_eq_false h2,cond_false]
    rw[if_neg (by simp[h1,h2,ltC])]
    exact⟨rfl,hd,rfl⟩
  ·simp only[Z0,Zh1,decide_eq_false h1,cond_false]
   rw[if_neg (by simp[h1])]
   exact⟨rfl,hd,rfl⟩
theorem Zvy (a b:Nat):∀(k i:Nat) (d:Array Int),i+k=max i b->b<=d.size->OKA P d->lp (Zam (a:Int) (b:Int) cmp) ((i:Int),d.toList)=some (insOuter (ltC c) a b i d).toList/\OKA P (insOuter (ltC c) a b i d)/\(insOuter (ltC c) a b i d).size=d.size
 | 0,i,d,hi,hb,hd=>by
  rw[Zaj]
  unfold insOuter
  simp only[Zam,Zh1,decide_eq_false (show ¬i<b by omega),cond_false]
  rw[if_neg (by omega)]
  exact⟨rfl,hd,rfl⟩
 | k+1,i,d,hi,hb,hd=>by
  have hib:i<b:=by omega
  have hz:=hd.sz
  obtain⟨h1,h2,h3⟩:=Zu2 hc a i d hd (by omega)
  have ih:=Zvy a b k (i+1) (insInner (ltC c) a i d) (by omega) (by rw[h3];exact hb) h2
  rw[Zaj]
  unfold insOuter
  simp only[Zam,Zh1,decide_eq_true hib,cond_true,h1,Option.bind_some,ZJ hib (by omega)]
  rw[if_pos hib,<- h3]
  exact ih
theorem ZGD (a b:Nat) (d:Array Int) (hb:b<=d.size) (ha:a<=b) (hd:OKA P d):ZZ (a:Int) (b:Int) cmp d.toList=some (insertionSort (ltC c) d a b).toList/\OKA P (insertionSort (ltC c) d a b)/\(insertionSort (ltC c) d a b).size=d.size:=by
 have hz:=hd.sz
 obtain⟨h1,h2⟩:=Zvy hc a b (max (a+1) b-(a+1)) (a+1) d (by omega) hb hd
 unfold ZZ insertionSort
 rw[Zay (n:=a+1) (by omega) (by omega),h1]
 exact⟨rfl,h2⟩
theorem ZE5 (hi first:Nat):∀(k root:Nat) (d:Array Int),hi-root<=k->root<=hi->first+hi<=d.size->OKA P d->∃r,lp (ZK (hi:Int) (first:Int) cmp) ((root:Int),d.toList)=some r/\(r = .inl (siftDown (ltC c) hi first root d).toList∨r = .inr (siftDown (ltC c) hi first root d).toList)/\OKA P (siftDown (ltC c) hi first root d)/\(siftDown (ltC c) hi first root d).size=d.size:=by
 intro k
 induction k with
 | zero=>
  intro root d hk hr hs hd
  have hz:=hd.sz
  rw[Zaj]
  unfold siftDown
  have e0:w64 (2*(root:Int))=((2*root:Nat):Int):=Zay (by omega) (by omega)
  have e1:w64 (((2*root:Nat):Int)+1)=((2*root+1:Nat):Int):=Zay (by omega) (by omega)
  simp only[ZK,e0,e1,Zi0,decide_eq_true (show hi<=2*root+1 by omega),cond_true]
  rw[dif_pos (by omega)]
  exact⟨_,rfl,.inl rfl,hd,rfl⟩
 | succ k ih=>
  intro root d hk hr hs hd
  have hz:=hd.sz
  rw[Zaj]
  unfold siftDown
  have e0:w64 (2*(root:Int))=((2*root:Nat):Int):=Zay (by omega) (by omega)
  have e1:w64 (((2*root:Nat):Int)+1)=((2*root+1:Nat):Int):=Zay (by omega) (by omega)
  by_cases h1:hi<=2*root+1
  ·simp only[ZK,e0,e1,Zi0,decide_eq_true h1,cond_true]
   rw[dif_pos (by omega)]
   exact⟨_,rfl,.inl rfl,hd,rfl⟩
  have e2:w64 (((2*root+1:Nat):Int)+1)=((2*root+2:Nat):Int):=Zay (by omega) (by omega)
  have er:w64 ((first:Int)+(root:Int))=((first+root:Nat):Int):=Zay (by omega) (by omega)
  have ef:w64 ((first:Int)+((2*root+1:Nat):Int))=((first+(2*root+1):Nat):Int):=Zay (by omega) (by omega)
  have ef1:w64 (((first+(2*root+1):Nat):Int)+1)=((first+(2*root+1)+1:Nat):Int):=Zay (by omega) (by omega)
  have ef2:w64 ((first:Int)+((2*root+2:Nat):Int))=((first+(2*root+2):Nat):Int):=Zay (by omega) (by omega)
  have ir:first+root<d.size:=by omega
  have i1:first+(2*root+1)<d.size:=by omega
  have cr1:=hc _ _ (hd.el _ ir) (hd.el _ i1)
  have one:∀{r:List Int⊕List Int} {A:Array Int},A=d->(r = .inl d.toList∨r = .inr d.toList)->∃q,some r=some q/\(q = .inl A.toList∨q = .inr A.toList)/\OKA P A/\A.size=d.size:=fun hA hr=>by
   subst hA
   exact⟨_,rfl,hr,hd,rfl⟩
  rw[dif_neg (by omega)]
  by_cases h2:2*root+2<hi
  ·have i2:first+(2*root+2)<d.size:=by omega
   have i2':first+(2*root+1)+1<d.size:=by omega
   have c12:=hc _ _ (hd.el _ i1) (hd.el _ i2')
   have cr2:=hc _ _ (hd.el _ ir) (hd.el _ i2)
   by_cases h3:c d[first+(2*root+1)]! d[first+(2*root+1)+1]! < 0
   ·rw[if_pos (by simp[h3,ltC];omega)]
    by_cases h4:c d[first+root]! d[first+(2*root+2)]! < 0
    ·obtain⟨y,em⟩:=Zm7 (i:=first+root) (x:=d[first+(2*root+2)]!) i2
     simp only[ZK,e0,e1,e2,Zi0,Zh1,decide_eq_false h1,decide_eq_true h2,cond_false,cond_true,ef,ef1,ef2,er,ZbN i1,ZbN i2',ZbN ir,ZbN i2,Option.bind_some,c12,cr2,decide_eq_true h3,decide_eq_true h4,Int.toNat_natCast,em,ZiR]
     rw[if_neg (by simp[h4,ltC]),dif_pos h2]
     have:=ih (2*root+2) (swp d (first+root) (first+(2*root+2))) (by omega) (by omega) (by rw[Zaf];omega) (hd.swp ir i2)
     rw[Zaf] at this
     exact this
    ·simp only[ZK,e0,e1,e2,Zi0,Zh1,decide_eq_false h1,decide_eq_true h2,cond_false,cond_true,ef,ef1,ef2,er,ZbN i1,ZbN i2',ZbN ir,ZbN i2,Option.bind_some,c12,cr2,decide_eq_true h3,decide_eq_false h4]
     rw[if_pos (by simp[h4,ltC])]
     exact one rfl (.inr rfl)
   ·rw[if_neg (by simp[h3,ltC])]
    by_cases h4:c d[first+root]! d[first+(2*root+1)]! < 0
    ·obtain⟨y,em⟩:=Zm7 (i:=first+root) (x:=d[first+(2*root+1)]!) i1
     simp only[ZK,e0,e1,e2,Zi0,Zh1,decide_eq_false h1,decide_eq_true h2,cond_false,cond_true,ef,ef1,ef2,er,ZbN i1,ZbN i2',ZbN ir,Option.bind_some,c12,cr1,decide_eq_false h3,decide_eq_true h4,Int.toNat_natCast,em,ZiR]
     rw[if_neg (by simp[h4,ltC])]
     have:=ih (2*root+1) (swp d (first+root) (first+(2*root+1))) (by omega) (by omega) (by rw[Zaf];omega) (hd.swp ir i1)
     rw[Zaf] at this
     exact this
    ·simp only[ZK,e0,e1,e2,Zi0,Zh1,decide_eq_false h1,decide_eq_true h2,cond_false,cond_true,ef,ef1,ef2,er,ZbN i1,ZbN i2',ZbN ir,Option.bind_some,c12,cr1,decide_eq_false h3,decide_eq_false h4]
     rw[if_pos (by simp[h4,ltC])]
     exact one rfl (.inr rfl)
  ·rw[if_neg (by simp;omega)]
   by_cases h4:c d[first+root]! d[first+(2*root+1)]! < 0
   ·obtain⟨y,em⟩:=Zm7 (i:=first+root) (x:=d[first+(2*root+1)]!) i1
    simp only[ZK,e0,e1,e2,Zi0,Zh1,decide_eq_false h1,decide_eq_false h2,cond_false,cond_true,ef,er,ZbN i1,ZbN ir,Option.bind_some,cr1,decide_eq_true h4,Int.toNat_natCast,em,ZiR]
    rw[if_neg (by simp[h4,ltC])]
    have:=ih (2*root+1) (swp d (first+root) (first+(2*root+1))) (by omega) (by omega) (by rw[Zaf];omega) (hd.swp ir i1)
    rw[Zaf] at this
    exact this
   ·simp only[ZK,e0,e1,e2,Zi0,Zh1,decide_eq_false h1,decide_eq_false h2,cond_false,cond_true,ef,er,ZbN i1,ZbN ir,Option.bind_some,cr1,decide_eq_false h4]
    rw[if_pos (by simp[h4,ltC])]
    exact one rfl (.inr rfl)
theorem ZEZ (hi first root:Nat) (d:Array Int) (hr:root<=hi) (hs:first+hi<=d.size) (hd:OKA P d):ZaE (root:Int) (hi:Int) (first:Int) cmp d.toList=some (siftDown (ltC c) hi first root d).toList/\OKA P (siftDown (ltC c) hi first root d)/\(siftDown (ltC c) hi first root d).size=d.size:=by
 obtain⟨r,h1,h2,h3⟩:=ZE5 hc hi first _ root d (Nat.le_refl _) hr hs hd
 unfold ZaE
 rw[h1]
 rcases h2 with rfl | rfl
 ·exact⟨rfl,h3⟩
 ·exact⟨rfl,h3⟩
theorem ZAl (hi first b:Nat) (hb:(b:Int)=first+hi):∀(k:Nat) (d:Array Int),k<=hi+1->first+hi<=d.size->OKA P d->lp (ZaJ (first:Int) (b:Int) cmp) ((k:Int)-1,d.toList)=some (heapBuild (ltC c) hi first k d).toList/\OKA P (heapBuild (ltC c) hi first k d)/\(heapBuild (ltC c) hi first k d).size=d.size
 | 0,d,hk,hs,hd=>by
  rw[Zaj]
  simp only[ZaJ,decide_eq_false (show ¬((0:Int)<=((0:Nat):Int)-1) by omega),cond_false]
  exact⟨rfl,hd,rfl⟩
 | k+1,d,hk,hs,hd=>by
  have hz:=hd.sz
  obtain⟨h1,h2,h3⟩:=ZEZ hc hi first k d (by omega) hs hd
  have ih:=ZAl hi first b hb k (siftDown (ltC c) hi first k d) (by omega) (by rw[h3];exact hs) h2
  have e1:w64 ((b:Int)-(first:Int))=(hi:Int):=Zay (by omega) (by omega)
  have e2:(((k+1:Nat):Int)-1)=(k:Int):=by omega
  have e3:w64 ((k:Int)-1)=(k:Int)-1:=Zac (by omega) (by omega)
  rw[Zaj,e2]
  simp only[ZaJ,decide_eq_true (show(0:Int)<=(k:Int) by omega),cond_true,e1,h1,Option.bind_some,e3]
  rw[<- h3]
  exact ih
theorem ZGz (first:Nat):∀(k:Nat) (d:Array Int),first+k<=d.size->OKA P d->lp (ZaL (first:Int) cmp) ((k:Int)-1,d.toList)=some (heapPop (ltC c) first k d).toList/\OKA P (heapPop (ltC c) first k d)/\(heapPop (ltC c) first k d).size=d.size
 | 0,d,hs,hd=>by
  rw[Zaj]
  simp only[ZaL,decide_eq_false (show ¬((0:Int)<=((0:Nat):Int)-1) by omega),cond_false]
  exact⟨rfl,hd,rfl⟩
 | k+1,d,hs,hd=>by
  have hz:=hd.sz
  have i1:first+k<d.size:=by omega
  have i2:first<d.size:=by omega
  obtain⟨h1,h2,h3⟩:=ZEZ hc k first 0 (swp d first (first+k)) (by omega) (by rw[Zaf];omega) (hd.swp i2 i1)
  rw[Zaf] at h3
  have ih:=ZGz first k (siftDown (ltC c) k first 0 (swp d first (first+k))) (by rw[h3];omega) h2
  have e2:(((k+1:Nat):Int)-1)=(k:Int):=by omega
  have e3:w64 ((k:Int)-1)=(k:Int)-1:=Zac (by omega) (by omega)
  have e4:w64 ((first:Int)+(k:Int))=((first+k:Nat):Int):=Zay (by omega) (by omega)
  obtain⟨y,em⟩:=Zm7 (i:=first) (x:=d[first+k]!) i1
  have h1':ZaE 0 (k:Int) (first:Int) cmp (swp d first (first+k)).toList=_:=h1
  rw[Zaj,e2]
  simp only[ZaL,decide_eq_true (show(0:Int)<=(k:Int) by omega),cond_true,e4,ZbN i1,ZbN i2,Option.bind_some,Int.toNat_natCast,em,ZiR,h1',e3]
  rw[<- h3]
  exact ih
theorem ZHB (a b:Nat) (d:Array Int) (ha:a<=b) (hb:b<=d.size) (hd:OKA P d):Z9 (a:Int) (b:Int) cmp d.toList=some (heapSort (ltC c) d a b).toList/\OKA P (heapSort (ltC c) d a b)/\(heapSort (ltC c) d a b).size=d.size:=by
 have hz:=hd.sz
 have e1:w64 ((b:Int)-(a:Int))=((b-a:Nat):Int):=Zay (by omega) (by omega)
 have e2:w64 (((b-a:Nat):Int)-1)=((b-a:Nat):Int)-1:=Zac (by omega) (by omega)
 have e3:w64 (Int.tdiv (((b-a:Nat):Int)-1) 2)=(((b-a-1) / 2+1:Nat):Int)-1:=by
  by_cases h:b-a=0
  ·rw[h];rfl
  ·rw[Int.tdiv_eq_ediv_of_nonneg (by omega),Zac (by omega) (by omega)]
   omega
 obtain⟨h1,h2,h3⟩:=ZAl hc (b-a) a b (by omega) ((b-a-1) / 2+1) d (by omega) (by omega) hd
 obtain⟨h4,h5,h6⟩:=ZGz hc a (b-a) (heapBuild (ltC c) (b-a) a ((b-a-1) / 2+1) d) (by rw[h3];omega) h2
 unfold Z9 heapSort
 simp only[e1,e2,e3,h1,h4,Option.bind_some]
 exact⟨trivial,h5,by rw[h6,h3]⟩
end
end Go.Proofs.YtmnglncebfabpaaGreatDoor
namespace Go.Proofs.YtmnglncebfabpaaGreatDoor
open Go Go.Proofs.YtmnglncebfabpaaGreatDoorE Go.Sort
open Go.IntKind (u64 i64 u32 i32 u8)
theorem ZqU (step:Int->Option (Int⊕Int)) (p:Int->Bool) (d:Array Int) (j:Nat) (h:∀i:Nat,i<=j+2->step (i:Int)=some (bif decide (i<=j)&&p d[i]! then .inl ((i+1:Nat):Int) else .inr (i:Int))) :
  ∀(k i:Nat),j+2-i<=k->i<=j+2->lp step (i:Int)=some ((scanUp p d j i:Nat):Int)/\i<=scanUp p d j i/\scanUp p d j i<=max i (j+1):=by
 intro k
 induction k with
 | zero=>
  intro i hk hi
  rw[Zaj,h i hi]
  unfold scanUp
  rw[decide_eq_false (show ¬i<=j by omega)]
  simp[show ¬i<=j by omega]
  omega
 | succ k ih=>
  intro i hk hi
  rw[Zaj,h i hi]
  unfold scanUp
  by_cases h1:i<=j
  ·cases h2:p d[i]! with
   | true=>
    rw[decide_eq_true h1,if_pos (by simp[h1])]
    obtain⟨a1,a2,a3⟩:=ih (i+1) (by omega) (by omega)
    exact⟨a1,by omega,by omega⟩
   | false=>
    rw[decide_eq_true h1,if_neg (by simp)]
    exact⟨rfl,by omega,by omega⟩
  ·rw[decide_eq_false h1,if_neg (by simp[h1])]
   exact⟨rfl,by omega,by omega⟩
theorem ZkU (step:Int->Option (Int⊕Int)) (p:Int->Bool) (d:Array Int) (i:Nat) (hi:1<=i):∀(j:Nat),(∀k:Nat,k<=j->step (k:Int)=some (bif decide (i<=k)&&p d[k]! then .inl ((k:Int)-1) else .inr (k:Int)))->lp step (j:Int)=some ((scanDown p d i j:Nat):Int)/\scanDown p d i j<=j
 | 0,h=>by
  rw[Zaj,h 0 (Nat.le_refl _),decide_eq_false (show ¬i<=0 by omega)]
  exact⟨rfl,Nat.le_refl _⟩
 | j+1,h=>by
  rw[Zaj,h (j+1) (Nat.le_refl _)]
  unfold scanDown
  by_cases h1:i<=j+1
  ·cases h2:p d[j+1]! with
   | true=>
    rw[decide_eq_true h1,if_pos (by simp[h1])]
    have ih:=ZkU step p d i hi j (fun k hk=>h k (by omega))
    have e:(((j+1:Nat):Int)-1)=(j:Int):=by omega
    simp only[Bool.and_self,cond_true,e]
    exact⟨ih.1,by omega⟩
   | false=>
    rw[decide_eq_true h1,if_neg (by simp)]
    exact⟨rfl,Nat.le_refl _⟩
  ·rw[decide_eq_false h1,if_neg (by simp[h1])]
   exact⟨rfl,Nat.le_refl _⟩
section
variable {cmp:Int->Int->Option Int} {c:Int->Int->Int} {P:Int->Prop} (hc:ZuK cmp c P)
include hc
theorem ZBM (a:Nat):∀(k i j:Nat) (d:Array Int),j+3-i<=k->1<=i->i<=j+2->j<d.size->a<d.size->OKA P d ->
  lp (Za0 (a:Int) cmp) ((i:Int),(j:Int),d.toList)=some (((partLoop (ltC c) a i j d).1:Int),(partLoop (ltC c) a i j d).2.toList)/\OKA P (partLoop (ltC c) a i j d).2/\(partLoop (ltC c) a i j d).2.size=d.size/\(partLoop (ltC c) a i j d).1<=j:=by
 intro k
 induction k with
 | zero=>
  intro i j d hk h1 h2 hj ha hd
  exact absurd hk (by omega)
 | succ k ih=>
  intro i j d hk h1 h2 hj ha hd
  have hz:=hd.sz
  obtain⟨u1,u2,u3⟩:=ZqU (ZaD (a:Int) cmp ((i:Int),(j:Int),d.toList)) (fun x=>ltC c x d[a]!) d j (fun m hm=>by
    by_cases hmj:m<=j
    ·have im:m<d.size:=by omega
     simp only[ZaD,Zi0,decide_eq_true hmj,cond_true,ZbN im,ZbN ha,Option.bind_some,hc _ _ (hd.el _ im) (hd.el _ ha),ltC,Bool.true_and,ZJ (show m<j+1 by omega) (by omega)]
     cases decide (c d[m]! d[a]! < 0)<;>rfl
    ·simp only[ZaD,Zi0,decide_eq_false hmj,cond_false,Bool.false_and]) (j+2-i) i (Nat.le_refl _) h2
  generalize hi2:scanUp (fun x=>ltC c x d[a]!) d j i=i2 at u1 u2 u3
  obtain⟨v1,v2⟩:=ZkU (Zaz (a:Int) cmp ((i:Int),(j:Int),d.toList) (i2:Int)) (fun x=>!ltC c x d[a]!) d i2 (by omega) j (fun m hm=>by
    have im:m<d.size:=by omega
    by_cases hmi:i2<=m
    ·simp only[Zaz,Zi0,decide_eq_true hmi,cond_true,ZbN im,ZbN ha,Option.bind_some,hc _ _ (hd.el _ im) (hd.el _ ha),ltC,Bool.true_and,Zac (show -9223372036854775808<=(m:Int)-1 by omega) (by omega)]
     cases decide (c d[m]! d[a]! < 0)<;>rfl
    ·simp only[Zaz,Zi0,decide_eq_false hmi,cond_false,Bool.false_and])
  generalize hj2:scanDown (fun x=>!ltC c x d[a]!) d i2 j=j2 at v1 v2
  rw[Zaj]
  unfold partLoop
  simp only[Za0,u1,v1,Option.bind_some,Zh1,hi2,hj2]
  by_cases hij:j2<i2
  ·rw[decide_eq_true hij,if_pos hij]
   exact⟨rfl,hd,rfl,v2⟩
  ·have k1:i2<d.size:=by omega
   have k2:j2<d.size:=by omega
   obtain⟨y,em⟩:=Zm7 (i:=i2) (x:=d[j2]!) k2
   have e1:w64 ((i2:Int)+1)=((i2+1:Nat):Int):=Zay (by omega) (by omega)
   have e2:w64 ((j2:Int)-1)=((j2-1:Nat):Int):=Zay (by omega) (by omega)
   rw[decide_eq_false hij,if_neg hij,dif_pos (by omega)]
   simp only[cond_false,ZbN k1,ZbN k2,Option.bind_some,Int.toNat_natCast,em,ZiR,e1,e2]
   obtain⟨q1,q2,q3,q4⟩:=ih (i2+1) (j2-1) (swp d i2 j2) (by omega) (by omega) (by omega) (by rw[Zaf];omega) (by rw[Zaf];exact ha) (hd.swp k1 k2)
   rw[Zaf] at q3
   exact⟨q1,q2,q3,by omega⟩
theorem ZFN (a b pivot:Nat) (d:Array Int) (h1:a<=pivot) (h2:pivot<b) (hb:b<=d.size) (hd:OKA P d) :
  Zt (a:Int) (b:Int) (pivot:Int) cmp d.toList=some (bif (partition (ltC c) d a b pivot).2.1 then .inl (((partition (ltC c) d a b pivot).1:Int),(partition (ltC c) d a b pivot).2.2.toList) else .inr (((partition (ltC c) d a b pivot).1:Int),(partition (ltC c) d a b pivot).2.2.toList)) /\
  OKA P (partition (ltC c) d a b pivot).2.2/\(partition (ltC c) d a b pivot).2.2.size=d.size:=by
 have hz:=hd.sz
 have ip:pivot<d.size:=by omega
 have ia:a<d.size:=by omega
 have hd1:=hd.swp ia ip
 have s1:=Zaf d a pivot
 obtain⟨y,em⟩:=Zm7 (i:=a) (x:=d[pivot]!) ip
 have e1:w64 ((a:Int)+1)=((a+1:Nat):Int):=Zay (by omega) (by omega)
 have e2:w64 ((b:Int)-1)=((b-1:Nat):Int):=Zay (by omega) (by omega)
 have sw:=ZiR d a pivot
 have ia1:a<(swp d a pivot).size:=by omega
 obtain⟨u1,u2,u3⟩:=ZqU (ZaC (a:Int) (b:Int) (pivot:Int) d.toList cmp d[pivot]! d[a]!) (fun x=>ltC c x (swp d a pivot)[a]!) (swp d a pivot) (b-1) (fun m hm=>by
   by_cases hmj:m<=b-1
   ·have im:m<(swp d a pivot).size:=by omega
    simp only[ZaC,e2,Zi0,decide_eq_true hmj,cond_true,Int.toNat_natCast,sw,ZbN im,ZbN ia1,Option.bind_some,hc _ _ (hd1.el _ im) (hd1.el _ ia1),ltC,Bool.true_and,ZJ (show m<b by omega) (by omega)]
    cases decide (c (swp d a pivot)[m]! (swp d a pivot)[a]! < 0)<;>rfl
   ·simp only[ZaC,e2,Zi0,decide_eq_false hmj,cond_false,Bool.false_and]) (b-1+2-(a+1)) (a+1) (Nat.le_refl _) (by omega)
 generalize hi2:scanUp (fun x=>ltC c x (swp d a pivot)[a]!) (swp d a pivot) (b-1) (a+1)=i2 at u1 u2 u3
 obtain⟨v1,v2⟩:=ZkU (ZaB (a:Int) (pivot:Int) d.toList cmp d[pivot]! d[a]! (i2:Int)) (fun x=>!ltC c x (swp d a pivot)[a]!) (swp d a pivot) i2 (by omega) (b-1) (fun m hm=>by
   have im:m<(swp d a pivot).size:=by omega
   by_cases hmi:i2<=m
   ·simp only[ZaB,Zi0,decide_eq_true hmi,cond_true,Int.toNat_natCast,sw,ZbN im,ZbN ia1,Option.bind_some,hc _ _ (hd1.el _ im) (hd1.el _ ia1),ltC,Bool.true_and,Zac (show -9223372036854775808<=(m:Int)-1 by omega) (by omega)]
    cases decide (c (swp d a pivot)[m]! (swp d a pivot)[a]! < 0)<;>rfl
   ·simp only[ZaB,Zi0,decide_eq_false hmi,cond_false,Bool.false_and])
 generalize hj2:scanDown (fun x=>!ltC c x (swp d a pivot)[a]!) (swp d a pivot) i2 (b-1)=j2 at v1 v2
 unfold Zt partition
 simp only[ZbN ip,ZbN ia,Option.bind_some,Int.toNat_natCast,em,e1,e2,u1,v1,Zh1,sw,hi2,hj2]
 have kj:j2<(swp d a pivot).size:=by omega
 by_cases hij:j2<i2
 ·obtain⟨y2,em2⟩:=Zm7 (i:=j2) (x:=(swp d a pivot)[a]!) ia1
  rw[decide_eq_true hij,if_pos hij]
  simp only[cond_true,ZbN ia1,ZbN kj,Option.bind_some,Int.toNat_natCast,em2,ZiR]
  exact⟨trivial,hd1.swp kj ia1,by rw[Zaf,s1]⟩
 ·have ki:i2<(swp d a pivot).size:=by omega
  obtain⟨y2,em2⟩:=Zm7 (i:=i2) (x:=(swp d a pivot)[j2]!) kj
  have e3:w64 ((i2:Int)+1)=((i2+1:Nat):Int):=Zay (by omega) (by omega)
  have e4:w64 ((j2:Int)-1)=((j2-1:Nat):Int):=Zay (by omega) (by omega)
  obtain⟨q1,q2,q3,q4⟩:=ZBM hc a (j2-1+3-(i2+1)) (i2+1) (j2-1) (swp (swp d a pivot) i2 j2) (by omega) (by omega) (by omega) (by rw[Zaf];omega) (by rw[Zaf];exact ia1) (hd1.swp ki kj)
  rw[Zaf,s1] at q3
  rw[decide_eq_false hij,if_neg hij]
  simp only[cond_false,ZbN ki,ZbN kj,Option.bind_some,Int.toNat_natCast,em2,ZiR,e3,e4,q1]
  generalize partLoop (ltC c) a (i2+1) (j2-1) (swp (swp d a pivot) i2 j2)=r at *
  have kr:r.1<r.2.size:=by omega
  have kr2:a<r.2.size:=by omega
  obtain⟨y3,em3⟩:=Zm7 (i:=r.1) (x:=r.2[a]!) kr2
  simp only[ZbN kr,ZbN kr2,Option.bind_some,em3,ZiR]
  exact⟨trivial,q2.swp kr kr2,by rw[Zaf,q3]⟩
theorem Zyk (a:Nat):∀(k i j:Nat) (d:Array Int),j+3-i<=k->1<=i->i<=j+2->j<d.size->a<d.size->OKA P d ->
  lp (ZaA (a:Int) cmp) ((i:Int),(j:Int),d.toList)=some (((partEqLoop (ltC c) a i j d).1:Int),(partEqLoop (ltC c) a i j d).2.toList)/\OKA P (partEqLoop (ltC c) a i j d).2/\(partEqLoop (ltC c) a i j d).2.size=d.size/\i<=(partEqLoop (ltC c) a i j d).1/\(partEqLoop (ltC c) a i j d).1<=max i (j+1):=by
 intro k
 induction k with
 | zero=>
  intro i j d hk h1 h2 hj ha hd
  exact absurd hk (by omega)
 | succ k ih=>
  intro i j d hk h1 h2 hj ha hd
  have hz:=hd.sz
  obtain⟨u1,u2,u3⟩:=ZqU (Zag (a:Int) cmp ((i:Int),(j:Int),d.toList)) (fun x=>!ltC c d[a]! x) d j (fun m hm=>by
    by_cases hmj:m<=j
    ·have im:m<d.size:=by omega
     simp only[Zag,Zi0,decide_eq_true hmj,cond_true,ZbN im,ZbN ha,Option.bind_some,hc _ _ (hd.el _ ha) (hd.el _ im),ltC,Bool.true_and,ZJ (show m<j+1 by omega) (by omega)]
     cases decide (c d[a]! d[m]! < 0)<;>rfl
    ·simp only[Zag,Zi0,decide_eq_false hmj,cond_false,Bool.false_and]) (j+2-i) i (Nat.le_refl _) h2
  generalize hi2:scanUp (fun x=>!ltC c d[a]! x) d j i=i2 at u1 u2 u3
  obtain⟨v1,v2⟩:=ZkU (Zah (a:Int) cmp ((i:Int),(j:Int),d.toList) (i2:Int)) (fun x=>ltC c d[a]! x) d i2 (by omega) j (fun m hm=>by
    have im:m<d.size:=by omega
    by_cases hmi:i2<=m
    ·simp only[Zah,Zi0,decide_eq_true hmi,cond_true,ZbN im,ZbN ha,Option.bind_some,hc _ _ (hd.el _ ha) (hd.el _ im),ltC,Bool.true_and,Zac (show -9223372036854775808<=(m:Int)-1 by omega) (by omega)]
     cases decide (c d[a]! d[m]! < 0)<;>rfl
    ·simp only[Zah,Zi0,decide_eq_false hmi,cond_false,Bool.false_and])
  generalize hj2:scanDown (fun x=>ltC c d[a]! x) d i2 j=j2 at v1 v2
  rw[Zaj]
  unfold partEqLoop
  simp only[ZaA,u1,v1,Option.bind_some,Zh1,hi2,hj2]
  by_cases hij:j2<i2
  ·rw[decide_eq_true hij,if_pos hij]
   exact⟨rfl,hd,rfl,u2,u3⟩
  ·have k1:i2<d.size:=by omega
   have k2:j2<d.size:=by omega
   obtain⟨y,em⟩:=Zm7 (i:=i2) (x:=d[j2]!) k2
   have e1:w64 ((i2:Int)+1)=((i2+1:Nat):Int):=Zay (by omega) (by omega)
   have e2:w64 ((j2:Int)-1)=((j2-1:Nat):Int):=Zay (by omega) (by omega)
   rw[decide_eq_false hij,if_neg hij,dif_pos (by omega)]
   simp only[cond_false,ZbN k1,ZbN k2,Option.bind_some,Int.toNat_natCast,em,ZiR,e1,e2]
   obtain⟨q1,q2,q3,q4,q5⟩:=ih (i2+1) (j2-1) (swp d i2 j2) (by omega) (by omega) (by omega) (by rw[Zaf];omega) (by rw[Zaf];exact ha) (hd.swp k1 k2)
   rw[Zaf] at q3
   exact⟨q1,q2,q3,by omega,by omega⟩
theorem ZEA (a b pivot:Nat) (d:Array Int) (h1:a<=pivot) (h2:pivot<b) (hb:b<=d.size) (hd:OKA P d) :
  ZE (a:Int) (b:Int) (pivot:Int) cmp d.toList=some (((partitionEqual (ltC c) d a b pivot).1:Int),(partitionEqual (ltC c) d a b pivot).2.toList)/\OKA P (partitionEqual (ltC c) d a b pivot).2/\(partitionEqual (ltC c) d a b pivot).2.size=d.size/\a<(partitionEqual (ltC c) d a b pivot).1/\(partitionEqual (ltC c) d a b pivot).1<=b:=by
 have hz:=hd.sz
 have ip:pivot<d.size:=by omega
 have ia:a<d.size:=by omega
 obtain⟨y,em⟩:=Zm7 (i:=a) (x:=d[pivot]!) ip
 have e1:w64 ((a:Int)+1)=((a+1:Nat):Int):=Zay (by omega) (by omega)
 have e2:w64 ((b:Int)-1)=((b-1:Nat):Int):=Zay (by omega) (by omega)
 obtain⟨q1,q2,q3,q4,q5⟩:=Zyk hc a (b-1+3-(a+1)) (a+1) (b-1) (swp d a pivot) (by omega) (by omega) (by omega) (by rw[Zaf];omega) (by rw[Zaf];omega) (hd.swp ia ip)
 rw[Zaf] at q3
 unfold ZE partitionEqual
 simp only[ZbN ip,ZbN ia,Option.bind_some,Int.toNat_natCast,em,e1,e2,ZiR,q1]
 exact⟨trivial,q2,q3,by omega,by omega⟩
end
end Go.Proofs.YtmnglncebfabpaaGreatDoor
namespace Go.Proofs.YtmnglncebfabpaaGreatDoor
open Go Go.Proofs.YtmnglncebfabpaaGreatDoorE Go.Sort
open Go.IntKind (u64 i64 u32 i32 u8)
def ZtV:Hint->Int
 | .unknown=>0
 | .increasing=>1
 | .decreasing=>2
theorem ZEu (p:Int×Int) (n:Nat) (x:Int) (h:p.2=(n:Int)) (hx:p.1=x):(bif p.2==0 then some (p.1,(1:Int)) else bif p.2==12 then some (p.1,2) else some (p.1,0))=some (x,ZtV (if n=0 then Hint.increasing else if n=12 then .decreasing else .unknown)):=by
 rw[h,hx]
 by_cases h0:n=0
 ·subst h0;rfl
 ·by_cases h1:n=12
  ·subst h1;rfl
  ·rw[show((n:Int)==0)=false by simpa using h0,show((n:Int)==12)=false by simp;omega,if_neg h0,if_neg h1]
   rfl
section
variable {cmp:Int->Int->Option Int} {c:Int->Int->Int} {P:Int->Prop} (hc:ZuK cmp c P)
include hc
theorem ZGu:∀(j:Nat) (d:Array Int),OKA P d->j<d.size->lp (ZW cmp) ((j:Int),d.toList)=some (shiftDown (ltC c) j d).toList/\OKA P (shiftDown (ltC c) j d)/\(shiftDown (ltC c) j d).size=d.size
 | 0,d,hd,hj=>by
  rw[Zaj]
  simp only[ZW,decide_eq_false (show ¬((1:Int)<=((0:Nat):Int)) by omega),cond_false]
  exact⟨rfl,hd,rfl⟩
 | j+1,d,hd,hj=>by
  have hj':j<d.size:=by omega
  have hz:=hd.sz
  rw[Zaj]
  have e2:w64 (((j+1:Nat):Int)-1)=(j:Int):=Zay (by omega) (by omega)
  have e3:=hc _ _ (hd.el (j+1) hj) (hd.el j hj')
  unfold shiftDown
  by_cases h2:c d[j+1]! d[j]! < 0
  ·obtain⟨y,e5⟩:=Zm7 (i:=j+1) (x:=d[j]!) hj'
   simp only[ZW,decide_eq_true (show(1:Int)<=((j+1:Nat):Int) by omega),cond_true,ZbN hj,e2,ZbN hj',Option.bind_some,e3,decide_eq_true h2,Int.toNat_natCast,e5,ZiR]
   rw[if_neg (by simp[h2,ltC])]
   have ih:=ZGu j (swp d (j+1) j) (hd.swp hj hj') (by rw[Zaf];omega)
   rw[Zaf] at ih
   exact ih
  ·simp only[ZW,decide_eq_true (show(1:Int)<=((j+1:Nat):Int) by omega),cond_true,ZbN hj,e2,ZbN hj',Option.bind_some,e3,decide_eq_false h2,cond_false]
   rw[if_pos (by simp[h2,ltC])]
   exact⟨rfl,hd,rfl⟩
theorem ZGy (b:Nat):∀(k j:Nat) (d:Array Int),b-j<=k->1<=j->b<=d.size->OKA P d->lp (ZH (b:Int) cmp) ((j:Int),d.toList)=some (shiftUp (ltC c) b j d).toList/\OKA P (shiftUp (ltC c) b j d)/\(shiftUp (ltC c) b j d).size=d.size:=by
 intro k
 induction k with
 | zero=>
  intro j d hk hj hb hd
  rw[Zaj]
  unfold shiftUp
  simp only[ZH,Zh1,decide_eq_false (show ¬j<b by omega),cond_false]
  rw[if_neg (by omega)]
  exact⟨rfl,hd,rfl⟩
 | succ k ih=>
  intro j d hk hj hb hd
  have hz:=hd.sz
  rw[Zaj]
  unfold shiftUp
  by_cases h1:j<b
  ·have i1:j<d.size:=by omega
   have i2:j-1<d.size:=by omega
   have e2:w64 ((j:Int)-1)=((j-1:Nat):Int):=Zay (by omega) (by omega)
   have e3:=hc _ _ (hd.el j i1) (hd.el (j-1) i2)
   rw[if_pos h1]
   by_cases h2:c d[j]! d[j-1]! < 0
   ·obtain⟨y,e5⟩:=Zm7 (i:=j) (x:=d[j-1]!) i2
    simp only[ZH,Zh1,decide_eq_true h1,cond_true,ZbN i1,e2,ZbN i2,Option.bind_some,e3,decide_eq_true h2,Int.toNat_natCast,e5,ZiR,ZJ h1 (by omega)]
    rw[if_neg (by simp[h2,ltC])]
    have:=ih (j+1) (swp d j (j-1)) (by omega) (by omega) (by rw[Zaf];exact hb) (hd.swp i1 i2)
    rw[Zaf] at this
    exact this
   ·simp only[ZH,Zh1,decide_eq_true h1,cond_true,ZbN i1,e2,ZbN i2,Option.bind_some,e3,decide_eq_false h2,cond_false]
    rw[if_pos (by simp[h2,ltC])]
    exact⟨rfl,hd,rfl⟩
  ·simp only[ZH,Zh1,decide_eq_false h1,cond_false]
   rw[if_neg h1]
   exact⟨rfl,hd,rfl⟩
theorem ZB8 (b:Nat) (z:Int) (d:Array Int) (hb:b<=d.size) (hd:OKA P d) (y1 y2:Int):∀(k i:Nat),b-i<=k->1<=i->i<=b->lp (ZN (b:Int) cmp (y1,y2,d.toList)) (i:Int)=some ((scanSorted (ltC c) d b i:Nat):Int)/\i<=scanSorted (ltC c) d b i/\scanSorted (ltC c) d b i<=b:=by
 have hz:=hd.sz
 intro k
 induction k with
 | zero=>
  intro i hk hi hib
  rw[Zaj]
  unfold scanSorted
  simp only[ZN,Zh1,decide_eq_false (show ¬i<b by omega),cond_false]
  rw[if_neg (by simp[show ¬i<b by omega])]
  exact⟨rfl,Nat.le_refl _,hib⟩
 | succ k ih=>
  intro i hk hi hib
  rw[Zaj]
  unfold scanSorted
  by_cases h1:i<b
  ·have i1:i<d.size:=by omega
   have i2:i-1<d.size:=by omega
   have e2:w64 ((i:Int)-1)=((i-1:Nat):Int):=Zay (by omega) (by omega)
   have e3:=hc _ _ (hd.el i i1) (hd.el (i-1) i2)
   by_cases h2:c d[i]! d[i-1]! < 0
   ·simp only[ZN,Zh1,decide_eq_true h1,cond_true,ZbN i1,e2,ZbN i2,Option.bind_some,e3,decide_eq_true h2]
    rw[if_neg (by simp[h2,ltC])]
    exact⟨rfl,Nat.le_refl _,hib⟩
   ·simp only[ZN,Zh1,decide_eq_true h1,cond_true,ZbN i1,e2,ZbN i2,Option.bind_some,e3,decide_eq_false h2,cond_false,ZJ h1 (by omega)]
    rw[if_pos (by simp[h1,h2,ltC])]
    obtain⟨a1,a2,a3⟩:=ih (i+1) (by omega) (by omega) (by omega)
    exact⟨a1,by omega,a3⟩
  ·simp only[ZN,Zh1,decide_eq_false h1,cond_false]
   rw[if_neg (by simp[h1])]
   exact⟨rfl,Nat.le_refl _,hib⟩
theorem ZEe (a b:Nat):∀(s i:Nat) (d:Array Int),s<=5->a<i->i<=b->b<=d.size->OKA P d ->
  ∃r,lp (ZV (a:Int) (b:Int) cmp) ((i:Int),((5-s:Nat):Int),d.toList)=some r/\(match r with | .inl l=>l=(partialIns (ltC c) a b s i d).1.toList/\(partialIns (ltC c) a b s i d).2=true | .inr (.inl l)=>l=(partialIns (ltC c) a b s i d).1.toList/\(partialIns (ltC c) a b s i d).2=false | .inr (.inr l)=>l=(partialIns (ltC c) a b s i d).1.toList/\(partialIns (ltC c) a b s i d).2=false) /\
   OKA P (partialIns (ltC c) a b s i d).1/\(partialIns (ltC c) a b s i d).1.size=d.size
 | 0,i,d,hs,ha,hi,hb,hd=>by
  rw[Zaj]
  simp only[ZV,decide_eq_false (show ¬(((5-0:Nat):Int)<5) by omega),cond_false]
  exact⟨_,rfl,by simp[partialIns],by first | exact hd | (simpa [partialIns] using hd),by first | rfl | simp[partialIns]⟩
 | s+1,i,d,hs,ha,hi,hb,hd=>by
  have hz:=hd.sz
  obtain⟨u1,u2,u3⟩:=ZB8 hc b 0 d hb hd (i:Int) ((5-(s+1):Nat):Int) (b-i) i (Nat.le_refl _) (by omega) hi
  rw[Zaj]
  unfold partialIns
  generalize hi2:scanSorted (ltC c) d b i=i2 at u1 u2 u3 ⊢
  simp only[ZV,decide_eq_true (show(((5-(s+1):Nat):Int)<5) by omega),cond_true,u1,Option.bind_some]
  by_cases h1:i2=b
  ·rw[show((i2:Int)==(b:Int))=true by simp[h1],if_pos h1]
   exact⟨_,rfl,by simp[partialIns],by first | exact hd | (simpa [partialIns] using hd),by first | rfl | simp[partialIns]⟩
  ·have e1:w64 ((b:Int)-(a:Int))=((b-a:Nat):Int):=Zay (by omega) (by omega)
   rw[show((i2:Int)==(b:Int))=false by simpa using (show ¬(i2:Int)=(b:Int) by omega),if_neg h1]
   by_cases h2:b-a<50
   ·rw[if_pos h2]
    simp only[cond_false,e1,decide_eq_true (show((b-a:Nat):Int)<50 by omega),cond_true]
    exact⟨_,rfl,by simp[partialIns],by first | exact hd | (simpa [partialIns] using hd),by first | rfl | simp[partialIns]⟩
   ·rw[if_neg h2]
    have i1:i2<d.size:=by omega
    have i3:i2-1<d.size:=by omega
    have e2:w64 ((i2:Int)-1)=((i2-1:Nat):Int):=Zay (by omega) (by omega)
    have e3:w64 ((i2:Int)-(a:Int))=((i2-a:Nat):Int):=Zay (by omega) (by omega)
    have e4:w64 ((b:Int)-(i2:Int))=((b-i2:Nat):Int):=Zay (by omega) (by omega)
    have e5:w64 ((i2:Int)+1)=((i2+1:Nat):Int):=Zay (by omega) (by omega)
    have e6:w64 (((5-(s+1):Nat):Int)+1)=((5-s:Nat):Int):=Zay (by omega) (by omega)
    obtain⟨y,em⟩:=Zm7 (i:=i2) (x:=d[i2-1]!) i3
    have hd2:=hd.swp i1 i3
    simp only[cond_false,e1,decide_eq_false (show ¬((b-a:Nat):Int)<50 by omega),e2,ZbN i1,ZbN i3,Option.bind_some,Int.toNat_natCast,em,ZiR,e3,e4,e5,e6]
    have n2:∀n:Nat,decide ((2:Int)<=(n:Int))=decide (n ≥ 2):=fun n=>decide_eq_decide.2 (by omega)
    rw[n2,n2]
    have go:∀d':Array Int,OKA P d'->d'.size=d.size->∃r,lp (ZV (a:Int) (b:Int) cmp) ((i2:Int),((5-s:Nat):Int),d'.toList)=some r/\(match r with | .inl l=>l=(partialIns (ltC c) a b s i2 d').1.toList/\(partialIns (ltC c) a b s i2 d').2=true | .inr (.inl l)=>l=(partialIns (ltC c) a b s i2 d').1.toList/\(partialIns (ltC c) a b s i2 d').2=false | .inr (.inr l)=>l=(partialIns (ltC c) a b s i2 d').1.toList/\(partialIns (ltC c) a b s i2 d').2=false) /\
      OKA P (partialIns (ltC c) a b s i2 d').1/\(partialIns (ltC c) a b s i2 d').1.size=d.size:=fun d' h h'=>by
     have:=ZEe a b s i2 d' (by omega) (by omega) u3 (by omega) h
     rw[h'] at this
     exact this
    by_cases h3:i2-a ≥ 2
    ·obtain⟨v1,v2,v3⟩:=ZGu hc (i2-1) (swp d i2 (i2-1)) hd2 (by rw[Zaf];exact i3)
     rw[Zaf] at v3
     rw[decide_eq_true h3,if_pos h3]
     simp only[cond_true,v1,Option.bind_some]
     by_cases h4:b-i2 ≥ 2
     ·obtain⟨w1,w2,w3⟩:=ZGy hc b (b-(i2+1)) (i2+1) (shiftDown (ltC c) (i2-1) (swp d i2 (i2-1))) (Nat.le_refl _) (by omega) (by omega) v2
      rw[decide_eq_true h4,if_pos h4]
      simp only[cond_true,w1,Option.bind_some]
      exact go _ w2 (by omega)
     ·rw[decide_eq_false h4,if_neg h4]
      exact go _ v2 v3
    ·rw[decide_eq_false h3,if_neg h3]
     simp only[cond_false]
     by_cases h4:b-i2 ≥ 2
     ·obtain⟨w1,w2,w3⟩:=ZGy hc b (b-(i2+1)) (i2+1) (swp d i2 (i2-1)) (Nat.le_refl _) (by omega) (by rw[Zaf];omega) hd2
      rw[Zaf] at w3
      rw[decide_eq_true h4,if_pos h4]
      simp only[cond_true,w1,Option.bind_some]
      exact go _ w2 w3
     ·rw[decide_eq_false h4,if_neg h4]
      exact go _ hd2 (Zaf _ _ _)
theorem ZGH (a b:Nat) (d:Array Int) (h1:a<b) (hb:b<=d.size) (hd:OKA P d) :
  ZT (a:Int) (b:Int) cmp d.toList=some (bif (partialInsertionSort (ltC c) d a b).2 then .inl (partialInsertionSort (ltC c) d a b).1.toList else .inr (partialInsertionSort (ltC c) d a b).1.toList)/\OKA P (partialInsertionSort (ltC c) d a b).1/\(partialInsertionSort (ltC c) d a b).1.size=d.size:=by
 have hz:=hd.sz
 obtain⟨r,e,h2,h3⟩:=ZEe hc a b 5 (a+1) d (Nat.le_refl _) (by omega) (by omega) hb hd
 unfold ZT partialInsertionSort
 have e0:((5-5:Nat):Int)=0:=rfl
 rw[e0] at e
 rw[Zay (n:=a+1) (by omega) (by omega),e]
 refine⟨?_,h3⟩
 rcases r with l | l | l
 ·obtain⟨rfl,h⟩:=h2;rw[h];rfl
 ·obtain⟨rfl,h⟩:=h2;rw[h];rfl
 ·obtain⟨rfl,h⟩:=h2;rw[h];rfl
theorem ZD1 (d:Array Int) (hd:OKA P d) (a b n:Nat) (ha:a<d.size) (hb:b<d.size) (hn:n<1000):ZaU (a:Int) (b:Int) cmp d.toList (n:Int)=some (((order2 (ltC c) d a b n).1:Int),((order2 (ltC c) d a b n).2.1:Int),((order2 (ltC c) d a b n).2.2:Int)) /\
  (order2 (ltC c) d a b n).1<d.size/\(order2 (ltC c) d a b n).2.1<d.size/\(order2 (ltC c) d a b n).2.2<=n+1:=by
 unfold ZaU order2
 simp only[ZbN ha,ZbN hb,Option.bind_some,hc _ _ (hd.el b hb) (hd.el a ha)]
 by_cases h:c d[b]! d[a]! < 0
 ·rw[if_pos (by simp[h,ltC]),decide_eq_true h,Zay (n:=n+1) (by omega) (by omega)]
  exact⟨rfl,hb,ha,Nat.le_refl _⟩
 ·rw[if_neg (by simp[h,ltC]),decide_eq_false h]
  exact⟨rfl,ha,hb,Nat.le_succ _⟩
theorem ZCn (d:Array Int) (hd:OKA P d) (i j k n:Nat) (hi:i<d.size) (hj:j<d.size) (hk:k<d.size) (hn:n<990):ZaT (i:Int) (j:Int) (k:Int) cmp d.toList (n:Int)=some (((median (ltC c) d i j k n).1:Int),((median (ltC c) d i j k n).2:Int))/\(median (ltC c) d i j k n).1<d.size/\(median (ltC c) d i j k n).2<=n+3:=by
 obtain⟨a1,a2,a3,a4⟩:=ZD1 hc d hd i j n hi hj (by omega)
 obtain⟨b1,b2,b3,b4⟩:=ZD1 hc d hd (order2 (ltC c) d i j n).2.1 k (order2 (ltC c) d i j n).2.2 a3 hk (by omega)
 obtain⟨c1,c2,c3,c4⟩:=ZD1 hc d hd (order2 (ltC c) d i j n).1 (order2 (ltC c) d (order2 (ltC c) d i j n).2.1 k (order2 (ltC c) d i j n).2.2).1 (order2 (ltC c) d (order2 (ltC c) d i j n).2.1 k (order2 (ltC c) d i j n).2.2).2.2 a2 b2 (by omega)
 unfold ZaT median
 simp only[a1,b1,c1,Option.bind_some]
 exact⟨trivial,c3,by omega⟩
theorem ZCe (d:Array Int) (hd:OKA P d) (i n:Nat) (h1:1<=i) (hi:i+1<d.size) (hn:n<990):Zab (i:Int) cmp d.toList (n:Int)=some (((medianAdjacent (ltC c) d i n).1:Int),((medianAdjacent (ltC c) d i n).2:Int))/\(medianAdjacent (ltC c) d i n).1<d.size/\(medianAdjacent (ltC c) d i n).2<=n+3:=by
 have hz:=hd.sz
 obtain⟨a1,a2⟩:=ZCn hc d hd (i-1) i (i+1) n (by omega) (by omega) hi hn
 unfold Zab medianAdjacent
 rw[Zay (n:=i-1) (by omega) (by omega),Zay (n:=i+1) (by omega) (by omega),a1]
 exact⟨rfl,a2⟩
theorem ZGG (a b:Nat) (d:Array Int) (hab:a<b) (hb:b<=d.size) (hd:OKA P d):ZR (a:Int) (b:Int) cmp d.toList=some (((choosePivot (ltC c) d a b).1:Int),ZtV (choosePivot (ltC c) d a b).2):=by
 have hz:=hd.sz
 have e1:w64 ((b:Int)-(a:Int))=((b-a:Nat):Int):=Zay (by omega) (by omega)
 have e2:w64 (Int.tdiv ((b-a:Nat):Int) 4)=(((b-a) / 4:Nat):Int):=by
  rw[Int.tdiv_eq_ediv_of_nonneg (by omega)]
  exact Zay (by omega) (by omega)
 have q:∀m:Nat,m<=3->w64 ((((b-a) / 4:Nat):Int)*(m:Int))=(((b-a) / 4*m:Nat):Int):=fun m hm=>by
  refine Zay (by rw[Int.natCast_mul]) ?_
  have:(b-a) / 4*m<=(b-a) / 4*3:=Nat.mul_le_mul_left _ hm
  omega
 have q1:=q 1 (by omega)
 have q2:=q 2 (by omega)
 have q3:=q 3 (by omega)
 have p:∀m:Nat,m<=3->w64 ((a:Int)+(((b-a) / 4*m:Nat):Int))=((a+(b-a) / 4*m:Nat):Int):=fun m hm=>by
  refine Zay (by omega) ?_
  have:(b-a) / 4*m<=(b-a) / 4*3:=Nat.mul_le_mul_left _ hm
  omega
 have p1:=p 1 (by omega)
 have p2:=p 2 (by omega)
 have p3:=p 3 (by omega)
 unfold ZR choosePivot
 have q1':w64 ((((b-a) / 4:Nat):Int)*1)=_:=q1
 have q2':w64 ((((b-a) / 4:Nat):Int)*2)=_:=q2
 have q3':w64 ((((b-a) / 4:Nat):Int)*3)=_:=q3
 simp only[e1,e2,q1',q2',q3',p1,p2,p3]
 have z:((0:Nat):Int)=0:=rfl
 by_cases h8:b-a ≥ 8
 ·rw[decide_eq_true (show(8:Int)<=((b-a:Nat):Int) by omega),if_pos h8]
  by_cases h50:b-a ≥ 50
  ·obtain⟨m1,m2,m3⟩:=ZCe hc d hd (a+(b-a) / 4*1) 0 (by omega) (by omega) (by omega)
   obtain⟨n1,n2,n3⟩:=ZCe hc d hd (a+(b-a) / 4*2) (medianAdjacent (ltC c) d (a+(b-a) / 4*1) 0).2 (by omega) (by omega) (by omega)
   obtain⟨o1,o2,o3⟩:=ZCe hc d hd (a+(b-a) / 4*3) (medianAdjacent (ltC c) d (a+(b-a) / 4*2) (medianAdjacent (ltC c) d (a+(b-a) / 4*1) 0).2).2 (by omega) (by omega) (by omega)
   obtain⟨r1,r2,r3⟩:=ZCn hc d hd _ _ _ (medianAdjacent (ltC c) d (a+(b-a) / 4*3) (medianAdjacent (ltC c) d (a+(b-a) / 4*2) (medianAdjacent (ltC c) d (a+(b-a) / 4*1) 0).2).2).2 m2 n2 o2 (by omega)
   rw[z] at m1
   rw[decide_eq_true (show(50:Int)<=((b-a:Nat):Int) by omega),if_pos h50]
   simp only[cond_true,m1,n1,o1,r1,Option.bind_some]
   exact ZEu (_,_) _ _ rfl rfl
  ·obtain⟨r1,r2,r3⟩:=ZCn hc d hd (a+(b-a) / 4*1) (a+(b-a) / 4*2) (a+(b-a) / 4*3) 0 (by omega) (by omega) (by omega) (by omega)
   rw[z] at r1
   rw[decide_eq_false (show ¬(50:Int)<=((b-a:Nat):Int) by omega),if_neg h50]
   simp only[cond_true,cond_false,r1,Option.bind_some]
   exact ZEu (_,_) _ _ rfl rfl
 ·rw[decide_eq_false (show ¬(8:Int)<=((b-a:Nat):Int) by omega),if_neg h8]
  rfl
end
theorem ZIj {P:Int->Prop}:∀(k i j:Nat) (d:Array Int),j-i<=k->j<d.size∨j<=i->OKA P d->lp Z6 ((i:Int),(j:Int),d.toList)=some (reverseLoop i j d).toList/\OKA P (reverseLoop i j d)/\(reverseLoop i j d).size=d.size:=by
 intro k
 induction k with
 | zero=>
  intro i j d hk hj hd
  rw[Zaj]
  unfold reverseLoop
  simp only[Z6,Zh1,decide_eq_false (show ¬i<j by omega),cond_false]
  rw[if_neg (by omega)]
  exact⟨rfl,hd,rfl⟩
 | succ k ih=>
  intro i j d hk hj hd
  have hz:=hd.sz
  rw[Zaj]
  unfold reverseLoop
  by_cases h:i<j
  ·have i1:j<d.size:=by omega
   have i2:i<d.size:=by omega
   obtain⟨y,em⟩:=Zm7 (i:=i) (x:=d[j]!) i1
   have e2:w64 ((j:Int)-1)=((j-1:Nat):Int):=Zay (by omega) (by omega)
   simp only[Z6,Zh1,decide_eq_true h,cond_true,ZbN i1,ZbN i2,Option.bind_some,Int.toNat_natCast,em,ZiR,ZJ h (by omega),e2]
   rw[if_pos h]
   have:=ih (i+1) (j-1) (swp d i j) (by omega) (by rw[Zaf];omega) (hd.swp i2 i1)
   rw[Zaf] at this
   exact this
  ·simp only[Z6,Zh1,decide_eq_false h,cond_false]
   rw[if_neg h]
   exact⟨rfl,hd,rfl⟩
theorem ZD7 {P:Int->Prop} (cmp:Int->Int->Option Int) (a b:Nat) (d:Array Int) (hab:a<b) (hb:b<=d.size) (hd:OKA P d):ZP (a:Int) (b:Int) cmp d.toList=some (reverseRange d a b).toList/\OKA P (reverseRange d a b)/\(reverseRange d a b).size=d.size:=by
 have hz:=hd.sz
 obtain⟨h1,h2⟩:=ZIj (b-1-a) a (b-1) d (Nat.le_refl _) (by omega) hd
 unfold ZP reverseRange
 rw[Zay (n:=b-1) (by omega) (by omega)]
 simp only[h1,Option.bind_some]
 exact⟨trivial,h2⟩
end Go.Proofs.YtmnglncebfabpaaGreatDoor
namespace Go.Proofs.YtmnglncebfabpaaGreatDoor
open Go Go.Proofs.YtmnglncebfabpaaGreatDoorE Go.Sort
open Go.IntKind (u64 i64 u32 i32 u8)
theorem Zx4 (n:Int):u64.wrap n=n % 18446744073709551616:=by
 show(if (false&&decide (n % 18446744073709551616 ≥ 9223372036854775808))=true then n % 18446744073709551616-18446744073709551616 else n % 18446744073709551616)=_
 simp
theorem Zjr {n:Nat} (h:n<18446744073709551616):u64.wrap (n:Int)=(n:Int):=by rw[Zx4];omega
def Zwi (a b:Int):Int:=u64.wrap (Zr a ^^^ Zr b).toNat
def ZCf (a b:Int):Int:=u64.wrap (Zr a &&& Zr b).toNat
def xs (r:Int):Int:=Zwi (Zwi (Zwi r (u64.wrap (r*2 ^ 13))) (Int.fdiv (Zwi r (u64.wrap (r*2 ^ 13))) (2 ^ 7))) (u64.wrap (Zwi (Zwi r (u64.wrap (r*2 ^ 13))) (Int.fdiv (Zwi r (u64.wrap (r*2 ^ 13))) (2 ^ 7))*2 ^ 17))
theorem ZvL (u:UInt64):Zr (u.toNat:Int)=u.toBitVec:=by
 show BitVec.ofInt 64 (u.toNat:Int)=u.toBitVec
 rw[BitVec.ofInt_natCast]
 apply BitVec.eq_of_toNat_eq
 rw[BitVec.toNat_ofNat]
 exact Nat.mod_eq_of_lt u.toNat_lt
theorem ZDP (u v:UInt64):Zwi (u.toNat:Int) (v.toNat:Int)=((u ^^^ v).toNat:Int):=by
 unfold Zwi
 rw[ZvL,ZvL]
 exact Zjr (u ^^^ v).toNat_lt
theorem ZGq (u:UInt64) (k:Nat) (v:UInt64) (hk:v.toNat % 64=k):u64.wrap ((u.toNat:Int)*2 ^ k)=((u <<< v).toNat:Int):=by
 rw[Zx4,UInt64.toNat_shiftLeft,hk,Nat.shiftLeft_eq]
 have:((2:Int) ^ k)=((2 ^ k:Nat):Int):=by rw[Int.natCast_pow];rfl
 rw[this]
 omega
theorem ZI0 (u:UInt64) (k:Nat) (v:UInt64) (hk:v.toNat % 64=k):Int.fdiv (u.toNat:Int) (2 ^ k)=((u >>> v).toNat:Int):=by
 have e:((2:Int) ^ k)=((2 ^ k:Nat):Int):=by rw[Int.natCast_pow];rfl
 rw[UInt64.toNat_shiftRight,hk,Nat.shiftRight_eq_div_pow,e,Int.fdiv_eq_ediv_of_nonneg _ (Int.natCast_nonneg _)]
 exact(Int.natCast_ediv _ _).symm
theorem ZI3 (u:UInt64):xs (u.toNat:Int)=((xorNext u).toNat:Int):=by
 unfold xs xorNext
 rw[ZGq u 13 13 rfl,ZDP,ZI0 _ 7 7 rfl,ZDP,ZGq _ 17 17 rfl,ZDP]
theorem ZFS (u:UInt64) (m:Nat) (hm:m<18446744073709551616):ZCf (u.toNat:Int) (m:Int)=((u.toNat &&& m:Nat):Int):=by
 unfold ZCf
 rw[ZvL]
 have:Zr (m:Int)=BitVec.ofNat 64 m:=BitVec.ofInt_natCast _ _
 rw[this]
 show u64.wrap ((((u.toBitVec &&& BitVec.ofNat 64 m:BitVec 64)).toNat:Nat):Int)=_
 rw[BitVec.toNat_and,BitVec.toNat_ofNat,Nat.mod_eq_of_lt hm]
 refine Zjr (Nat.lt_of_le_of_lt Nat.and_le_left u.toNat_lt)
theorem ZBL:((List.range 1001).all fun n=>(match Zgo (u64.wrap (n:Int)) with | some v=>v==(bitsLen n:Int) | none=>false)&&((match Zdo (n:Int) with | some v=>v==((1 <<< bitsLen n:Nat):Int) | none=>false)&&(decide (1 <<< bitsLen n<=2*n) || n==0)))=true:=by kernel_rfl
theorem ZDx {n:Nat} (h:n<=1000):Zgo (u64.wrap (n:Int))=some (bitsLen n:Int)/\Zdo (n:Int)=some ((1 <<< bitsLen n:Nat):Int)/\(0<n->1 <<< bitsLen n<=2*n):=by
 have:=List.all_eq_true.1 ZBL n (by simp;omega)
 simp only[Bool.and_eq_true,Bool.or_eq_true,decide_eq_true_eq,beq_iff_eq] at this
 obtain⟨h1,h2,h3⟩:=this
 refine⟨?_,?_,fun h=>by omega⟩
 ·split at h1
  ·rename_i v hv;rw[hv,eq_of_beq h1]
  ·cases h1
 ·split at h2
  ·rename_i v hv;rw[hv,eq_of_beq h2]
  ·cases h2
def Zsf (s:Int×List Int×Int) (o:Int):Option ((Int×List Int×Int)⊕List Int):=
 (Zz s.2.1 o).bind fun x3=>(Zz s.2.1 s.1).bind fun x4=>(Zz (List.set s.2.1 s.1.toNat x3) o).bind fun _=>some (Sum.inl (w64 (s.1+1),List.set (List.set s.2.1 s.1.toNat x3) o.toNat x4,xs s.2.2))
theorem ZGJ (b c x0:Int) (s:Int×List Int×Int):ZaI b c x0 s=(bif (decide (s.1<=(w64 ((w64 (b+(w64 ((w64 (Int.tdiv (w64 (c-b)) 4))*2))))+1)))) then
  Zgc.bind fun _=>bif decide (w64 (c-b)<=w64 (ZCf (xs s.2.2) (u64.wrap (x0-1)))) then Zsf s (w64 (b+w64 (w64 (ZCf (xs s.2.2) (u64.wrap (x0-1)))-w64 (c-b)))) else Zsf s (w64 (b+w64 (ZCf (xs s.2.2) (u64.wrap (x0-1)))))
 else some (.inr s.2.1)):=rfl
theorem Zx1 {P:Int->Prop} (d:Array Int) (hd:OKA P d) (i o:Nat) (u:UInt64) (hi:i<d.size) (ho:o<d.size):Zsf ((i:Int),d.toList,(u.toNat:Int)) (o:Int)=some (.inl (((i+1:Nat):Int),(swp d i o).toList,((xorNext u).toNat:Int))):=by
 have hz:=hd.sz
 obtain⟨y,em⟩:=Zm7 (i:=i) (x:=d[o]!) ho
 unfold Zsf
 simp only[ZbN ho,ZbN hi,Option.bind_some,Int.toNat_natCast,em,ZiR,ZI3,ZJ hi (by omega)]
theorem Zv5 {P:Int->Prop} (a b:Nat) (d:Array Int) (hd:OKA P d) (h8:8<=b-a) (hb:b<=d.size) (i:Nat) (hi:i<=a+(b-a) / 4*2+1) (u:UInt64) :
  ZaI (a:Int) (b:Int) ((1 <<< bitsLen (b-a):Nat):Int) ((i:Int),d.toList,(u.toNat:Int))=some (.inl (((i+1:Nat):Int),(breakStep a (b-a) (1 <<< bitsLen (b-a)) (u,d) i).2.toList,((breakStep a (b-a) (1 <<< bitsLen (b-a)) (u,d) i).1.toNat:Int))) /\
  OKA P (breakStep a (b-a) (1 <<< bitsLen (b-a)) (u,d) i).2/\(breakStep a (b-a) (1 <<< bitsLen (b-a)) (u,d) i).2.size=d.size:=by
 have hz:=hd.sz
 obtain⟨_,_,l3⟩:=ZDx (show b-a<=1000 by omega)
 have l4:=l3 (by omega)
 have l5:0<1 <<< bitsLen (b-a):=by rw[Nat.shiftLeft_eq,Nat.one_mul];exact Nat.pow_pos (by omega)
 generalize hm:1 <<< bitsLen (b-a)=m at *
 have e1:w64 ((b:Int)-(a:Int))=((b-a:Nat):Int):=Zay (by omega) (by omega)
 have e2:w64 (Int.tdiv ((b-a:Nat):Int) 4)=(((b-a) / 4:Nat):Int):=by
  rw[Int.tdiv_eq_ediv_of_nonneg (by omega)]
  exact Zay (by omega) (by omega)
 have e3:w64 ((((b-a) / 4:Nat):Int)*2)=(((b-a) / 4*2:Nat):Int):=Zay (by omega) (by omega)
 have e4:w64 ((a:Int)+(((b-a) / 4*2:Nat):Int))=((a+(b-a) / 4*2:Nat):Int):=Zay (by omega) (by omega)
 have e5:w64 (((a+(b-a) / 4*2:Nat):Int)+1)=((a+(b-a) / 4*2+1:Nat):Int):=Zay (by omega) (by omega)
 have e6:u64.wrap ((m:Int)-1)=((m-1:Nat):Int):=by
  rw[show(m:Int)-1=((m-1:Nat):Int) by omega];exact Zjr (by omega)
 have hand:(xorNext u).toNat &&& (m-1)<=m-1:=Nat.and_le_right
 have e7:w64 (((xorNext u).toNat &&& (m-1):Nat):Int)=(((xorNext u).toNat &&& (m-1):Nat):Int):=Zay rfl (by omega)
 have ii:i<d.size:=by omega
 rw[ZGJ]
 unfold breakStep
 simp only[e1,e2,e3,e4,e5,Zi0,decide_eq_true hi,cond_true,ZI3,e6,ZFS _ (m-1) (by omega),e7]
 generalize (xorNext u).toNat &&& (m-1)=o at *
 show(bif decide (b-a<=o) then _ else _)=_/\_
 by_cases ho:b-a<=o
 ·have e8:w64 ((o:Int)-((b-a:Nat):Int))=((o-(b-a):Nat):Int):=Zay (by omega) (by omega)
  have e9:w64 ((a:Int)+((o-(b-a):Nat):Int))=((a+(o-(b-a)):Nat):Int):=Zay (by omega) (by omega)
  rw[decide_eq_true ho,if_pos ho]
  simp only[cond_true,e8,e9]
  exact⟨Zx1 d hd i _ u ii (by omega),hd.swp ii (by omega),Zaf _ _ _⟩
 ·have e9:w64 ((a:Int)+(o:Int))=((a+o:Nat):Int):=Zay (by omega) (by omega)
  rw[decide_eq_false ho,if_neg ho]
  simp only[cond_false,e9]
  exact⟨Zx1 d hd i _ u ii (by omega),hd.swp ii (by omega),Zaf _ _ _⟩
theorem ZKs {P:Int->Prop} (cmp:Int->Int->Option Int) (a b:Nat) (d:Array Int) (hab:a<=b) (hb:b<=d.size) (hd:OKA P d):Zae (a:Int) (b:Int) cmp d.toList=some (breakPatterns d a b).toList/\OKA P (breakPatterns d a b)/\(breakPatterns d a b).size=d.size:=by
 have hz:=hd.sz
 have e1:w64 ((b:Int)-(a:Int))=((b-a:Nat):Int):=Zay (by omega) (by omega)
 unfold Zae breakPatterns
 simp only[e1]
 by_cases h8:8<=b-a
 ·obtain⟨_,l2,_⟩:=ZDx (show b-a<=1000 by omega)
  have e2:w64 (Int.tdiv ((b-a:Nat):Int) 4)=(((b-a) / 4:Nat):Int):=by
   rw[Int.tdiv_eq_ediv_of_nonneg (by omega)]
   exact Zay (by omega) (by omega)
  have e3:w64 ((((b-a) / 4:Nat):Int)*2)=(((b-a) / 4*2:Nat):Int):=Zay (by omega) (by omega)
  have e4:w64 ((a:Int)+(((b-a) / 4*2:Nat):Int))=((a+(b-a) / 4*2:Nat):Int):=Zay (by omega) (by omega)
  have e5:w64 (((a+(b-a) / 4*2:Nat):Int)-1)=((a+(b-a) / 4*2-1:Nat):Int):=Zay (by omega) (by omega)
  have e6:u64.wrap ((b-a:Nat):Int)=((UInt64.ofNat (b-a)).toNat:Int):=by
   rw[Zjr (by omega),UInt64.toNat_ofNat_of_lt' (by show b-a<2 ^ 64;omega)]
  rw[decide_eq_true (show(8:Int)<=((b-a:Nat):Int) by omega),if_pos h8]
  simp only[cond_true,l2,Option.bind_some,e2,e3,e4,e5,e6]
  generalize hi0:a+(b-a) / 4*2-1=i0
  obtain⟨p1,p2,p3⟩:=Zv5 a b d hd h8 hb i0 (by omega) (UInt64.ofNat (b-a))
  generalize breakStep a (b-a) (1 <<< bitsLen (b-a)) (UInt64.ofNat (b-a),d) i0=r1 at *
  obtain⟨q1,q2,q3⟩:=Zv5 a b r1.2 p2 h8 (by omega) (i0+1) (by omega) r1.1
  generalize breakStep a (b-a) (1 <<< bitsLen (b-a)) (r1.1,r1.2) (i0+1)=r2 at *
  obtain⟨s1,s2,s3⟩:=Zv5 a b r2.2 q2 h8 (by omega) (i0+2) (by omega) r2.1
  generalize breakStep a (b-a) (1 <<< bitsLen (b-a)) (r2.1,r2.2) (i0+2)=r3 at *
  rw[ZsX p1,ZsX q1,ZsX s1,ZFW (r:=r3.2.toList)]
  ·exact⟨rfl,s2,by omega⟩
  ·rw[ZGJ]
   have e7:w64 (((a+(b-a) / 4*2:Nat):Int)+1)=((a+(b-a) / 4*2+1:Nat):Int):=Zay (by omega) (by omega)
   simp only[e1,e2,e3,e4,e7,Zi0,decide_eq_false (show ¬i0+2+1<=a+(b-a) / 4*2+1 by omega),cond_false]
 ·rw[decide_eq_false (show ¬(8:Int)<=((b-a:Nat):Int) by omega),if_neg h8]
  exact⟨rfl,hd,rfl⟩
abbrev ZFw:=Int×Int×Int×Bool×Bool×List Int
noncomputable def ZzJ (e:Int->Int->Option Int) (rc:Int->Int->Int->(Int->Int->Option Int)->List Int->Option (List Int)) (a b limit pivot:Int) (x5:List Int):Option (ZFw⊕List Int):=
 (Zt a b pivot e x5).bind fun x9=>
 match x9 with
 | .inl x9=>
  bif decide (w64 (x9.1-a)<w64 (b-x9.1)) then
   bif decide (w64 (Int.tdiv (w64 (b-a)) 8)<=w64 (x9.1-a)) then (rc a x9.1 limit e x9.2).bind fun x10=>some (.inl (w64 (x9.1+1),b,limit,true,true,x10))
   else (rc a x9.1 limit e x9.2).bind fun x10=>some (.inl (w64 (x9.1+1),b,limit,false,true,x10))
  else
   bif decide (w64 (Int.tdiv (w64 (b-a)) 8)<=w64 (b-x9.1)) then (rc (w64 (x9.1+1)) b limit e x9.2).bind fun x10=>some (.inl (a,x9.1,limit,true,true,x10))
   else (rc (w64 (x9.1+1)) b limit e x9.2).bind fun x10=>some (.inl (a,x9.1,limit,false,true,x10))
 | .inr x9=>
  bif decide (w64 (x9.1-a)<w64 (b-x9.1)) then
   bif decide (w64 (Int.tdiv (w64 (b-a)) 8)<=w64 (x9.1-a)) then (rc a x9.1 limit e x9.2).bind fun x10=>some (.inl (w64 (x9.1+1),b,limit,true,false,x10))
   else (rc a x9.1 limit e x9.2).bind fun x10=>some (.inl (w64 (x9.1+1),b,limit,false,false,x10))
  else
   bif decide (w64 (Int.tdiv (w64 (b-a)) 8)<=w64 (b-x9.1)) then (rc (w64 (x9.1+1)) b limit e x9.2).bind fun x10=>some (.inl (a,x9.1,limit,true,false,x10))
   else (rc (w64 (x9.1+1)) b limit e x9.2).bind fun x10=>some (.inl (a,x9.1,limit,false,false,x10))
noncomputable def Zqa (e:Int->Int->Option Int) (rc:Int->Int->Int->(Int->Int->Option Int)->List Int->Option (List Int)) (a b limit pivot:Int) (wb wp:Bool) (x5:List Int):Option (ZFw⊕List Int):=
 bif decide (0<a) then
  (Zz x5 (w64 (a-1))).bind fun x6=>(Zz x5 pivot).bind fun x7=>(e x6 x7).bind fun x8=>
  bif decide (x8<0) then ZzJ e rc a b limit pivot x5
  else (ZE a b pivot e x5).bind fun x18=>some (.inl (x18.1,b,limit,wb,wp,x18.2))
 else ZzJ e rc a b limit pivot x5
theorem ZuC (e:Int->Int->Option Int) (rc:Int->Int->Int->(Int->Int->Option Int)->List Int->Option (List Int)) (a b limit:Int) (wb wp:Bool) (l:List Int):ZB e rc (a,b,limit,wb,wp,l) =
  (bif decide (w64 (b-a)<=12) then (ZZ a b e l).bind fun x=>some (.inr x)
  else bif limit==0 then (Z9 a b e l).bind fun x=>some (.inr x)
  else (bif wb then bif wp then
    (ZR a b e l).bind fun x3=>
    bif x3.2==2 then (ZP a b e l).bind fun x4=>(ZT a b e x4).bind fun x5=>(match x5 with | .inl x5=>some (.inr x5) | .inr x5=>Zqa e rc a b limit (w64 (w64 (b-1)-w64 (x3.1-a))) true true x5)
    else bif x3.2==1 then (ZT a b e l).bind fun x5=>(match x5 with | .inl x5=>some (.inr x5) | .inr x5=>Zqa e rc a b limit x3.1 true true x5)
    else Zqa e rc a b limit x3.1 true true l
   else
    (ZR a b e l).bind fun x3=>
    bif x3.2==2 then (ZP a b e l).bind fun x4=>Zqa e rc a b limit (w64 (w64 (b-1)-w64 (x3.1-a))) true false x4
    else Zqa e rc a b limit x3.1 true false l
  else
   (Zae a b e l).bind fun x0=>(ZR a b e x0).bind fun x3=>
    bif x3.2==2 then (ZP a b e x0).bind fun x4=>Zqa e rc a b (w64 (limit-1)) (w64 (w64 (b-1)-w64 (x3.1-a))) false wp x4
    else Zqa e rc a b (w64 (limit-1)) x3.1 false wp x0)):=by
 cases wb<;>cases wp<;>rfl
noncomputable def after (e:Int->Int->Option Int) (rc:Int->Int->Int->(Int->Int->Option Int)->List Int->Option (List Int)) (x:Option (ZFw⊕List Int)):Option (List Int):=
 match x with | some (.inl s')=>lp (ZB e rc) s' | some (.inr r)=>some r | none=>none
theorem ZB7 (e:Int->Int->Option Int) (rc:Int->Int->Int->(Int->Int->Option Int)->List Int->Option (List Int)) (s:ZFw):lp (ZB e rc) s=after e rc (ZB e rc s):=by
 rw[Zaj]
 unfold after
 cases ZB e rc s with
 | none=>rfl
 | some t=>cases t<;>rfl
def Res (P:Int->Prop) (r:Option (List Int)) (X:Array Int) (n:Nat):Prop:=r=some X.toList/\OKA P X/\X.size=n
section
variable {cmp:Int->Int->Option Int} {c:Int->Int->Int} {P:Int->Prop} (hc:ZuK cmp c P) (hs:SWO (ltC c))
include hc hs
def Zsg (cmp:Int->Int->Option Int) (c:Int->Int->Int) (P:Int->Prop) (rc:Int->Int->Int->(Int->Int->Option Int)->List Int->Option (List Int)) (k:Nat):Prop:=
 ∀(a b limit:Nat) (wb wp:Bool) (d:Array Int),b-a<=k->a<=b->b<=d.size->OKA P d->limit<=1000 ->
  Res P (rc (a:Int) (b:Int) (limit:Int) cmp d.toList) (pdq (ltC c) d a b limit true true) d.size /\
  Res P (lp (ZB cmp rc) ((a:Int),(b:Int),(limit:Int),wb,wp,d.toList)) (pdq (ltC c) d a b limit wb wp) d.size
theorem Zze {rc:Int->Int->Int->(Int->Int->Option Int)->List Int->Option (List Int)}{k:Nat} (ih:Zsg cmp c P rc k) (a b limit pivot:Nat) (d:Array Int) (hk:b-a<=k+1) (h1:a<=pivot) (h2:pivot<b) (hb:b<=d.size) (hd:OKA P d) (hl:limit<=1000) :
  Res P (after cmp rc (ZzJ cmp rc (a:Int) (b:Int) (limit:Int) (pivot:Int) d.toList)) (match partition (ltC c) d a b pivot with
   | (mid,alreadyPartitioned,d4)=>
    if _h:a<=mid/\mid<b then
     if mid-a<b-mid then pdq (ltC c) (pdq (ltC c) d4 a mid limit true true) (mid+1) b limit (decide (mid-a ≥ (b-a) / 8)) alreadyPartitioned
     else pdq (ltC c) (pdq (ltC c) d4 (mid+1) b limit true true) a mid limit (decide (b-mid ≥ (b-a) / 8)) alreadyPartitioned
    else d4) d.size:=by
 have hz:=hd.sz
 obtain⟨p1,p2,p3⟩:=ZFN hc a b pivot d h1 h2 hb hd
 obtain⟨r1,r2,_⟩:=partition_holds (ltC c) hs d a b pivot h1 h2 hb
 unfold ZzJ
 rw[p1]
 generalize partition (ltC c) d a b pivot=q at *
 obtain⟨mid,ap,d4⟩:=q
 dsimp only at *
 rw[dif_pos ⟨r1,r2⟩]
 have e1:w64 ((mid:Int)-(a:Int))=((mid-a:Nat):Int):=Zay (by omega) (by omega)
 have e2:w64 ((b:Int)-(mid:Int))=((b-mid:Nat):Int):=Zay (by omega) (by omega)
 have e3:w64 ((b:Int)-(a:Int))=((b-a:Nat):Int):=Zay (by omega) (by omega)
 have e4:w64 (Int.tdiv ((b-a:Nat):Int) 8)=(((b-a) / 8:Nat):Int):=by
  rw[Int.tdiv_eq_ediv_of_nonneg (by omega)]
  exact Zay (by omega) (by omega)
 have e5:w64 ((mid:Int)+1)=((mid+1:Nat):Int):=Zay (by omega) (by omega)
 by_cases hlt:mid-a<b-mid
 ·obtain⟨⟨u1,u2,u3⟩,_⟩:=ih a mid limit true true d4 (by omega) r1 (by omega) p2 hl
  rw[if_pos hlt]
  by_cases ht:mid-a ≥ (b-a) / 8
  ·obtain⟨_,v1,v2,v3⟩:=ih (mid+1) b limit true ap (pdq (ltC c) d4 a mid limit true true) (by omega) (by omega) (by omega) u2 hl
   rw[decide_eq_true ht]
   refine⟨?_,v2,by omega⟩
   cases ap<;>simp only[cond_true,cond_false,Option.bind_some,e1,e2,e3,e4,e5,Zh1,Zi0,decide_eq_true hlt,decide_eq_true (show(b-a) / 8<=mid-a from ht),u1,after]<;>exact v1
  ·obtain⟨_,v1,v2,v3⟩:=ih (mid+1) b limit false ap (pdq (ltC c) d4 a mid limit true true) (by omega) (by omega) (by omega) u2 hl
   rw[decide_eq_false ht]
   refine⟨?_,v2,by omega⟩
   cases ap<;>simp only[cond_true,cond_false,Option.bind_some,e1,e2,e3,e4,e5,Zh1,Zi0,decide_eq_true hlt,decide_eq_false (show ¬(b-a) / 8<=mid-a from ht),u1,after]<;>exact v1
 ·obtain⟨⟨u1,u2,u3⟩,_⟩:=ih (mid+1) b limit true true d4 (by omega) (by omega) (by omega) p2 hl
  rw[if_neg hlt]
  by_cases ht:b-mid ≥ (b-a) / 8
  ·obtain⟨_,v1,v2,v3⟩:=ih a mid limit true ap (pdq (ltC c) d4 (mid+1) b limit true true) (by omega) r1 (by omega) u2 hl
   rw[decide_eq_true ht]
   refine⟨?_,v2,by omega⟩
   cases ap<;>simp only[cond_true,cond_false,Option.bind_some,e1,e2,e3,e4,e5,Zh1,Zi0,decide_eq_false hlt,decide_eq_true (show(b-a) / 8<=b-mid from ht),u1,after]<;>exact v1
  ·obtain⟨_,v1,v2,v3⟩:=ih a mid limit false ap (pdq (ltC c) d4 (mid+1) b limit true true) (by omega) r1 (by omega) u2 hl
   rw[decide_eq_false ht]
   refine⟨?_,v2,by omega⟩
   cases ap<;>simp only[cond_true,cond_false,Option.bind_some,e1,e2,e3,e4,e5,Zh1,Zi0,decide_eq_false hlt,decide_eq_false (show ¬(b-a) / 8<=b-mid from ht),u1,after]<;>exact v1
theorem Zgj {rc:Int->Int->Int->(Int->Int->Option Int)->List Int->Option (List Int)}{k:Nat} (ih:Zsg cmp c P rc k) (a b limit pivot:Nat) (wb wp:Bool) (d:Array Int) (hk:b-a<=k+1) (h1:a<=pivot) (h2:pivot<b) (hb:b<=d.size) (hd:OKA P d) (hl:limit<=1000) :
  Res P (after cmp rc (Zqa cmp rc (a:Int) (b:Int) (limit:Int) (pivot:Int) wb wp d.toList)) (if (decide (a > 0) && !ltC c d[a-1]! d[pivot]!)=true then
    match partitionEqual (ltC c) d a b pivot with
    | (mid,d4)=>if _h:a<mid/\mid<=b then pdq (ltC c) d4 mid b limit wb wp else d4
   else
    match partition (ltC c) d a b pivot with
    | (mid,alreadyPartitioned,d4)=>
     if _h:a<=mid/\mid<b then
      if mid-a<b-mid then pdq (ltC c) (pdq (ltC c) d4 a mid limit true true) (mid+1) b limit (decide (mid-a ≥ (b-a) / 8)) alreadyPartitioned
      else pdq (ltC c) (pdq (ltC c) d4 (mid+1) b limit true true) a mid limit (decide (b-mid ≥ (b-a) / 8)) alreadyPartitioned
     else d4) d.size:=by
 have hz:=hd.sz
 have pa:=Zze hc hs ih a b limit pivot d hk h1 h2 hb hd hl
 have ip:pivot<d.size:=by omega
 unfold Zqa
 by_cases ha:0<a
 ·have ia:a-1<d.size:=by omega
  have e1:w64 ((a:Int)-1)=((a-1:Nat):Int):=Zay (by omega) (by omega)
  have e3:=hc _ _ (hd.el _ ia) (hd.el _ ip)
  simp only[decide_eq_true (show(0:Int)<(a:Int) by omega),cond_true,e1,ZbN ia,ZbN ip,Option.bind_some,e3]
  by_cases h:c d[a-1]! d[pivot]! < 0
  ·rw[decide_eq_true h,if_neg (by simp[ltC,h])]
   exact pa
  ·rw[decide_eq_false h,if_pos (by simp[ltC,h,ha])]
   obtain⟨q1,q2,q3,q4,q5⟩:=ZEA hc a b pivot d h1 h2 hb hd
   generalize partitionEqual (ltC c) d a b pivot=q at *
   obtain⟨mid,d4⟩:=q
   dsimp only at *
   rw[dif_pos ⟨q4,q5⟩]
   obtain⟨_,v1,v2,v3⟩:=ih mid b limit wb wp d4 (by omega) q5 (by omega) q2 hl
   simp only[cond_false,q1,Option.bind_some,after]
   exact⟨v1,v2,by omega⟩
 ·rw[if_neg (by simp[ha])]
  simp only[decide_eq_false (show ¬(0:Int)<(a:Int) by omega),cond_false]
  exact pa
theorem Zu8 {rc:Int->Int->Int->(Int->Int->Option Int)->List Int->Option (List Int)}{k:Nat} (ih:Zsg cmp c P rc k) (a b limit:Nat) (wb wp:Bool) (d:Array Int) (hk:b-a<=k+1) (hab:a<=b) (hb:b<=d.size) (hd:OKA P d) (hl:limit<=1000) :
  Res P (lp (ZB cmp rc) ((a:Int),(b:Int),(limit:Int),wb,wp,d.toList)) (pdq (ltC c) d a b limit wb wp) d.size:=by
 have hz:=hd.sz
 have e1:w64 ((b:Int)-(a:Int))=((b-a:Nat):Int):=Zay (by omega) (by omega)
 rw[ZB7,ZuC,pdq,e1]
 by_cases h12:b-a<=12
 ·obtain⟨q1,q2,q3⟩:=ZGD hc a b d hb hab hd
  rw[decide_eq_true (show((b-a:Nat):Int)<=12 by omega),if_pos h12]
  simp only[cond_true,q1,Option.bind_some,after]
  exact⟨rfl,q2,q3⟩
 rw[decide_eq_false (show ¬((b-a:Nat):Int)<=12 by omega),if_neg h12]
 by_cases h0:limit=0
 ·obtain⟨q1,q2,q3⟩:=ZHB hc a b d hab hb hd
  rw[show((limit:Int)==0)=true by simp[h0],if_pos h0]
  simp only[cond_false,cond_true,q1,Option.bind_some,after]
  exact⟨rfl,q2,q3⟩
 rw[show((limit:Int)==0)=false by simpa using (show ¬(limit:Int)=0 by omega),if_neg h0]
 have hl2:∀x:Nat,(ZtV Hint.unknown==2)=false/\(ZtV Hint.unknown==1)=false/\(ZtV Hint.increasing==2)=false/\(ZtV Hint.increasing==1)=true/\(ZtV Hint.decreasing==2)=true:=fun _=>⟨rfl,rfl,rfl,rfl,rfl⟩
 obtain⟨g1,g2,g3,g4,g5⟩:=hl2 0
 have rp:∀p:Nat,a<=p->p<b->w64 (w64 ((b:Int)-1)-w64 ((p:Int)-(a:Int)))=(((b-1)-(p-a):Nat):Int):=fun p h1 h2=>by
  have x1:w64 ((b:Int)-1)=((b-1:Nat):Int):=Zay (by omega) (by omega)
  have x2:w64 ((p:Int)-(a:Int))=((p-a:Nat):Int):=Zay (by omega) (by omega)
  rw[x1,x2]
  exact Zay (by omega) (by omega)
 cases wb with
 | true=>
  have pv:=ZGG hc a b d (by omega) hb hd
  have pr:=choosePivot_holds (ltC c) d a b (by omega)
  simp only[cond_false,cond_true,Bool.not_true,Bool.false_eq_true,if_false,Bool.true_and]
  generalize choosePivot (ltC c) d a b=cp at *
  obtain⟨p,h⟩:=cp
  dsimp only at *
  cases wp with
  | true=>
   simp only[cond_true,pv,Option.bind_some]
   cases h with
   | decreasing=>
    obtain⟨v1,v2,v3⟩:=ZD7 (P:=P) cmp a b d (by omega) hb hd
    obtain⟨w1,w2,w3⟩:=ZGH hc a b (reverseRange d a b) (by omega) (by omega) v2
    simp only[g5,cond_true,v1,Option.bind_some,w1,if_true,decide_true,Bool.and_self]
    generalize partialInsertionSort (ltC c) (reverseRange d a b) a b=pi at *
    obtain⟨d3,fin⟩:=pi
    dsimp only at *
    cases fin with
    | true=>exact⟨rfl,w2,w3.trans v3⟩
    | false=>
     rw[rp p pr.1 pr.2]
     have:=Zgj hc hs ih a b limit ((b-1)-(p-a)) true true d3 hk (by omega) (by omega) (by omega) w2 hl
     rw[show d3.size=d.size by omega] at this
     exact this
   | increasing=>
    obtain⟨w1,w2,w3⟩:=ZGH hc a b d (by omega) hb hd
    simp only[g3,g4,cond_true,cond_false,w1,Option.bind_some,reduceCtorEq,if_false,if_true,decide_true,Bool.and_self]
    generalize partialInsertionSort (ltC c) d a b=pi at *
    obtain⟨d3,fin⟩:=pi
    dsimp only at *
    cases fin with
    | true=>exact⟨rfl,w2,w3⟩
    | false=>
     have:=Zgj hc hs ih a b limit p true true d3 hk pr.1 pr.2 (by omega) w2 hl
     rw[show d3.size=d.size by omega] at this
     exact this
   | unknown=>
    simp only[g1,g2,cond_false,reduceCtorEq,if_false,decide_false,Bool.and_false,Bool.false_eq_true]
    exact Zgj hc hs ih a b limit p true true d hk pr.1 pr.2 hb hd hl
  | false=>
   simp only[cond_false,pv,Option.bind_some,Bool.false_and,Bool.false_eq_true,if_false]
   cases h with
   | decreasing=>
    obtain⟨v1,v2,v3⟩:=ZD7 (P:=P) cmp a b d (by omega) hb hd
    simp only[g5,cond_true,v1,Option.bind_some,if_true]
    rw[rp p pr.1 pr.2]
    have:=Zgj hc hs ih a b limit ((b-1)-(p-a)) true false (reverseRange d a b) hk (by omega) (by omega) (by omega) v2 hl
    rw[v3] at this
    exact this
   | increasing=>
    simp only[g3,cond_false,reduceCtorEq,if_false]
    exact Zgj hc hs ih a b limit p true false d hk pr.1 pr.2 hb hd hl
   | unknown=>
    simp only[g1,cond_false,reduceCtorEq,if_false]
    exact Zgj hc hs ih a b limit p true false d hk pr.1 pr.2 hb hd hl
 | false=>
  obtain⟨b1,b2,b3⟩:=ZKs (P:=P) cmp a b d hab hb hd
  have pv:=ZGG hc a b (breakPatterns d a b) (by omega) (by omega) b2
  have pr:=choosePivot_holds (ltC c) (breakPatterns d a b) a b (by omega)
  have el:w64 ((limit:Int)-1)=((limit-1:Nat):Int):=Zay (by omega) (by omega)
  simp only[cond_false,b1,Option.bind_some,pv,Bool.not_false,if_true,Bool.false_and,Bool.false_eq_true,if_false,el]
  generalize choosePivot (ltC c) (breakPatterns d a b) a b=cp at *
  obtain⟨p,h⟩:=cp
  dsimp only at *
  cases h with
  | decreasing=>
   obtain⟨v1,v2,v3⟩:=ZD7 (P:=P) cmp a b (breakPatterns d a b) (by omega) (by omega) b2
   simp only[g5,cond_true,v1,Option.bind_some,if_true]
   rw[rp p pr.1 pr.2]
   have:=Zgj hc hs ih a b (limit-1) ((b-1)-(p-a)) false wp (reverseRange (breakPatterns d a b) a b) hk (by omega) (by omega) (by omega) v2 (by omega)
   rw[v3,b3] at this
   exact this
  | increasing=>
   simp only[g3,cond_false,reduceCtorEq,if_false]
   have:=Zgj hc hs ih a b (limit-1) p false wp (breakPatterns d a b) hk pr.1 pr.2 (by omega) b2 (by omega)
   rw[b3] at this
   exact this
  | unknown=>
   simp only[g1,cond_false,reduceCtorEq,if_false]
   have:=Zgj hc hs ih a b (limit-1) p false wp (breakPatterns d a b) hk pr.1 pr.2 (by omega) b2 (by omega)
   rw[b3] at this
   exact this
theorem ZF4:∀(k m:Nat),k<=m->Zsg cmp c P (ZQ (m+1)) k:=by
 intro k
 induction k with
 | zero=>
  intro m hm
  have base:∀(rc:Int->Int->Int->(Int->Int->Option Int)->List Int->Option (List Int)) (a b limit:Nat) (wb wp:Bool) (d:Array Int),b-a<=0->a<=b->b<=d.size->OKA P d->Res P (lp (ZB cmp rc) ((a:Int),(b:Int),(limit:Int),wb,wp,d.toList)) (pdq (ltC c) d a b limit wb wp) d.size:=by
   intro rc a b limit wb wp d hk hab hb hd
   have hz:=hd.sz
   have e1:w64 ((b:Int)-(a:Int))=((b-a:Nat):Int):=Zay (by omega) (by omega)
   obtain⟨q1,q2,q3⟩:=ZGD hc a b d hb hab hd
   rw[Zaj,ZuC,pdq,e1,decide_eq_true (show((b-a:Nat):Int)<=12 by omega),if_pos (by omega)]
   simp only[cond_true,q1,Option.bind_some]
   exact⟨rfl,q2,q3⟩
  intro a b limit wb wp d hk hab hb hd hl
  refine⟨?_,base _ a b limit wb wp d hk hab hb hd⟩
  obtain⟨r1,r2⟩:=base (ZQ m) a b limit true true d hk hab hb hd
  refine⟨?_,r2⟩
  show Zaw (ZQ m) (a:Int) (b:Int) (limit:Int) cmp d.toList=_
  unfold Zaw
  rw[r1];rfl
 | succ k ih=>
  intro m hm a b limit wb wp d hk hab hb hd hl
  refine⟨?_,Zu8 hc hs (ih m (by omega)) a b limit wb wp d hk hab hb hd hl⟩
  obtain⟨m',rfl⟩:∃m',m=m'+1:=⟨m-1,by omega⟩
  obtain⟨r1,r2⟩:=Zu8 hc hs (ih m' (by omega)) a b limit true true d hk hab hb hd hl
  refine⟨?_,r2⟩
  show Zaw (ZQ (m'+1)) (a:Int) (b:Int) (limit:Int) cmp d.toList=_
  unfold Zaw
  rw[r1];rfl
theorem ZFR (l:List Int) (hl:l.length<=1000) (hP:∀x∈l,P x):Zar cmp l=some (Sort.sort (ltC c) l.toArray).toList:=by
 have hd:OKA P l.toArray:=⟨fun i hi=>by
  have hi':i<l.length:=by simpa using hi
  rw[getElem!_pos l.toArray i hi]
  simpa using hP _ (List.getElem_mem hi'),by simpa using hl⟩
 obtain⟨l1,_,_⟩:=ZDx hl
 have hbl:bitsLen l.length<=1000:=by
  unfold bitsLen
  split
  ·omega
  ·have:Nat.log2 l.length<11:=(Nat.log2_lt (by assumption)).2 (by omega)
   omega
 have key:∀n,l.length+1<=n->ZQ n 0 (l.length:Int) (bitsLen l.length:Int) cmp l=some (Sort.sort (ltC c) l.toArray).toList:=by
  intro n hn
  obtain⟨m,rfl⟩:∃m,n=m+1:=⟨n-1,by omega⟩
  obtain⟨⟨r1,_⟩,_⟩:=ZF4 hc hs l.length m (by omega) 0 l.length (bitsLen l.length) true true l.toArray (by omega) (by omega) (by simp) hd hbl
  refine(r1:ZQ (m+1) 0 (l.length:Int) (bitsLen l.length:Int) cmp l=_).trans ?_
  unfold Sort.sort
  rw[List.size_toArray]
 unfold Zar ZcE
 rw[l1,Option.bind_some,ZFc key]
 rfl
theorem ZD6 (l:List Int) (hl:l.length<=1000) (hP:∀x∈l,P x):∃r:List Int,Zar cmp l=some r/\r.Perm l/\r.Pairwise (fun x y=>ltC c y x=false):=by
 refine⟨_,ZFR hc hs l hl hP,?_⟩
 obtain⟨⟨h1,_,h2⟩,h3⟩:=sort_sorts (ltC c) hs l.toArray
 generalize Sort.sort (ltC c) l.toArray=d at *
 constructor
 ·have e1:d.extract 0 l.toArray.size=d:=by rw[<- h1];simp
  rw[e1] at h2
  simpa using h2
 ·rw[List.pairwise_iff_getElem]
  intro i j hi hj hij
  have hj':j<d.size:=by simpa using hj
  have hi':i<d.size:=by omega
  have:=h3 i j (Nat.zero_le _) hij (by omega)
  rw[getElem!_pos d j hj',getElem!_pos d i hi'] at this
  simpa using this
end
end Go.Proofs.YtmnglncebfabpaaGreatDoor
namespace Go.Proofs.YtmnglncebfabpaaGreatDoor
open Go Go.Proofs.YtmnglncebfabpaaGreatDoorE Go.Sort
open Go.IntKind (u64 i64 u32 i32 u8)
def sel {γ:Type} (p:γ->Bool) (g:Nat->γ->Int):Nat->List γ->List Int
 | _,[]=>[]
 | i,x :: l=>bif p x then g i x :: sel p g (i+1) l else sel p g (i+1) l
theorem ZpZ {γ:Type} (p:γ->Bool) (g:Nat->γ->Int):∀(l:List γ) (i:Nat),(sel p g i l).length=l.countP p
 | [],_=>rfl
 | x :: l,i=>by
  unfold sel
  have ih:=ZpZ p g l (i+1)
  cases h:p x with
  | true=>simp[ih,h]
  | false=>simp[ih,h]
theorem Zr6 {γ:Type} (p:γ->Bool) (g:Nat->γ->Int) (z:Int):∀(l:List γ) (i:Nat),z∈sel p g i l↔∃j x,l[j]? = some x/\p x=true/\z=g (i+j) x
 | [],i=>by simp[sel]
 | x :: l,i=>by
  have ih:=Zr6 p g z l (i+1)
  have key:(∃j y,(x :: l)[j]? = some y/\p y=true/\z=g (i+j) y)↔(p x=true/\z=g i x)∨∃j y,l[j]? = some y/\p y=true/\z=g (i+1+j) y:=by
   constructor
   ·rintro ⟨j,y,h1,h2,h3⟩
    cases j with
    | zero=>left;simp at h1;subst h1;exact⟨h2,h3⟩
    | succ j=>right;exact⟨j,y,by simpa using h1,h2,by rw[h3];congr 1;omega⟩
   ·rintro (⟨h2,h3⟩ | ⟨j,y,h1,h2,h3⟩)
    ·exact⟨0,x,rfl,h2,h3⟩
    ·exact⟨j+1,y,by simpa using h1,h2,by rw[h3];congr 1;omega⟩
  rw[key]
  unfold sel
  cases h:p x with
  | true=>simp[ih]
  | false=>simp[ih]
theorem ZEb {γ:Type} (l:List γ) (hl:l.length<=1000) (p:γ->Bool) (g:Nat->γ->Int) (step:Int×List Int->Option ((Int×List Int)⊕List Int))
  (h1:∀i x s,i<l.length->l[i]? = some x->step ((i:Int),s)=(bif p x then (bif Nat.ble (s.length+1) lim then some (.inl (((i+1:Nat):Int),s++[g i x])) else none) else some (.inl (((i+1:Nat):Int),s))))
  (h2:∀s,step ((l.length:Int),s)=some (.inr s)) (s:List Int) (hs:s.length<=1000000):lp step (0,s)=some (s++sel p g 0 l):=by
 have key:=Zr3 l step (fun i s=>((i:Int),s)) (fun i x s=>bif p x then (bif Nat.ble (s.length+1) lim then some (.inl (s++[g i x])) else none) else some (.inl s)) (fun s=>some s) (fun i x s hi hx=>by
   rw[h1 i x s hi hx]
   cases p x<;>cases Nat.ble (s.length+1) lim<;>rfl) (fun s=>h2 s) s
 refine(key:lp step (0,s)=_).trans ?_
 have:∀(l:List γ) (i:Nat) (s:List Int),s.length+l.length<=1001000->ZoE (fun i x s=>bif p x then (bif Nat.ble (s.length+1) lim then some (Sum.inl (s++[g i x])) else (none:Option (List Int⊕List Int))) else some (.inl s)) (fun s=>some s) i l s=some (s++sel p g i l):=by
  intro l
  induction l with
  | nil=>intro i s _;simp[ZoE,sel]
  | cons x l ih=>
   intro i s hb
   rw[List.length_cons] at hb
   unfold ZoE sel
   cases p x with
   | true=>
    rw[ZgB (show s.length+1<=1073741824 by omega)]
    simp only[cond_true]
    rw[ih (i+1) (s++[g i x]) (by rw[List.length_append,List.length_singleton];omega)]
    simp
   | false=>
    simp only[cond_false]
    rw[ih (i+1) s (by omega)]
 exact this l 0 s (by omega)
theorem Zs3 (k:Int->Int):∀(l m:List Int),l.Pairwise (fun x y=>k x<k y)->m.Pairwise (fun x y=>k x<k y)->(∀z,z∈l↔z∈m)->l=m
 | [],[],_,_,_=>rfl
 | [],y :: m,_,_,h=>absurd ((h y).2 (by simp)) (by simp)
 | x :: l,[],_,_,h=>absurd ((h x).1 (by simp)) (by simp)
 | x :: l,y :: m,h1,h2,h=>by
  rw[List.pairwise_cons] at h1 h2
  have hxy:x=y:=by
   rcases List.mem_cons.1 ((h x).1 (by simp)) with e | e
   ·exact e
   ·rcases List.mem_cons.1 ((h y).2 (by simp)) with e2 | e2
    ·exact e2.symm
    ·have:=h2.1 _ e
     have:=h1.1 _ e2
     omega
  subst hxy
  congr 1
  refine Zs3 k l m h1.2 h2.2 fun z=>?_
  constructor
  ·intro hz
   rcases List.mem_cons.1 ((h z).1 (by simp[hz])) with e | e
   ·subst e
    have:=h1.1 _ hz
    omega
   ·exact e
  ·intro hz
   rcases List.mem_cons.1 ((h z).2 (by simp[hz])) with e | e
   ·subst e
    have:=h2.1 _ hz
    omega
   ·exact e
structure Zn3 (d:Zq):Prop where
 w:∀p∈d.parts,1<=p.work/\p.work<=100
 e:∀x∈d.edges,two d.parts.length x.src x.dst=true
 f:∀x∈d.futures,two d.parts.length x.maker x.user=true/\1<=x.pos/\x.pos<=Zgy d.parts x.user-1
 ne:∀(i j:Nat) (x y:Zj),i<j->d.futures[i]? = some x->d.futures[j]? = some y->¬(x.user=y.user/\x.pos=y.pos)
theorem Zwc {d:Zq} (h:Zid d=0):Zn3 d:=by
 unfold Zid at h
 have all:Zov d=true/\ZtZ d=true/\d.parts.any Zhx=false/\ZhY (Zh6 d) 0 d.edges=false/\ZhY (ZeR d) 0 d.futures=false:=by
  revert h
  cases Zov d<;>cases ZtZ d<;>cases d.parts.any Zhx<;>cases ZhY (Zh6 d) 0 d.edges<;>cases ZhY (ZeR d) 0 d.futures<;>simp
 obtain⟨_,_,h3,h4,h5⟩:=all
 have he:∀(i:Nat) x,d.edges[i]? = some x->Zh6 d i x=false:=fun i x hx=>by
  cases hb:Zh6 d i x with
  | false=>rfl
  | true=>rw[(Zm5 _ _ 0).2 ⟨i,x,hx,by simpa using hb⟩] at h4;cases h4
 have hf:∀(i:Nat) x,d.futures[i]? = some x->ZeR d i x=false:=fun i x hx=>by
  cases hb:ZeR d i x with
  | false=>rfl
  | true=>rw[(Zm5 _ _ 0).2 ⟨i,x,hx,by simpa using hb⟩] at h5;cases h5
 refine⟨Zt1 h3,fun x hx=>?_,fun x hx=>?_,fun i j x y hij hx hy=>?_⟩
 ·obtain⟨i,hi⟩:=List.getElem?_of_mem hx
  have:=he i x hi
  unfold Zh6 at this
  simp only[Bool.or_eq_false_iff,Bool.not_eq_false'] at this
  exact this.1
 ·obtain⟨i,hi⟩:=List.getElem?_of_mem hx
  have:=hf i x hi
  unfold ZeR Zdh at this
  simp only[Bool.or_eq_false_iff,Bool.not_eq_false',Bool.and_eq_true,decide_eq_true_eq] at this
  exact⟨this.1,this.2.1.1,this.2.1.2⟩
 ·rintro ⟨h1,h2⟩
  have:=hf j y hy
  unfold ZeR at this
  simp only[Bool.or_eq_false_iff] at this
  have h6:=List.any_eq_false.1 this.2.2 x (List.mem_of_getElem? (i:=i) (by rw[List.getElem?_take_of_lt hij];exact hx))
  unfold again at h6
  simp[h1,h2] at h6
theorem ZnQ {d:Zq} (g:Zn3 d) (u:Int):Zgy d.parts u<=100:=by
 unfold Zgy
 split
 ·rename_i p hp;exact(g.w p (List.mem_of_getElem? hp)).2
 ·omega
def Zf8 (fs:List Zj) (z:Int):Int:=match fs[z.toNat]? with | some f=>f.pos | none=>0
def ZrV (d:Zq) (u:Int):List Int:=sel (fun f:Zj=>f.user==u) (fun i _=>(i:Int)) 0 d.futures
theorem Zny (d:Zq) (u z:Int):z∈ZrV d u↔∃(i:Nat) (f:Zj),d.futures[i]? = some f/\f.user=u/\z=(i:Int):=by
 unfold ZrV
 rw[Zr6]
 simp
theorem ZtE (d:Zq) (u:Int):(ZrV d u).Pairwise (fun x y=>x<y):=by
 have:∀(l:List Zj) (i:Nat),(sel (fun f:Zj=>f.user==u) (fun i _=>(i:Int)) i l).Pairwise (fun x y=>x<y)/\∀z∈sel (fun f:Zj=>f.user==u) (fun i _=>(i:Int)) i l,(i:Int)<=z:=by
  intro l
  induction l with
  | nil=>intro i;simp[sel]
  | cons x l ih=>
   intro i
   obtain⟨h1,h2⟩:=ih (i+1)
   unfold sel
   cases x.user==u with
   | true=>
    simp only[cond_true,List.pairwise_cons,List.mem_cons]
    refine⟨⟨fun z hz=>?_,h1⟩,?_⟩
    ·have:=h2 z hz;omega
    ·rintro z (rfl | hz)
     ·exact Int.le_refl _
     ·have:=h2 z hz;omega
   | false=>
    simp only[cond_false]
    exact⟨h1,fun z hz=>by have:=h2 z hz;omega⟩
 exact(this d.futures 0).1
structure ZhP (d:Zq) (u:Int) (r:List Int):Prop where
 mem:∀z,z∈r↔∃(i:Nat) (f:Zj),d.futures[i]? = some f/\f.user=u/\z=(i:Int)
 rise:r.Pairwise (fun x y=>Zf8 d.futures x<Zf8 d.futures y)
theorem ZhP.eq {d:Zq}{u:Int}{r s:List Int} (h1:ZhP d u r) (h2:ZhP d u s):r=s:=Zs3 (Zf8 d.futures) r s h1.rise h2.rise fun z=>by rw[h1.mem,h2.mem]
theorem Zxi {l:List Int}{p q:Int->Int->Prop} (h:l.Pairwise p) (hq:∀x y,x∈l->y∈l->p x y->q x y):l.Pairwise q:=by
 rw[List.pairwise_iff_getElem] at h ⊢
 exact fun i j hi hj hij=>hq _ _ (List.getElem_mem hi) (List.getElem_mem hj) (h i j hi hj hij)
theorem ZEw {d:Zq} (g:Zn3 d) {u x y:Int} (hx:∃(i:Nat) (f:Zj),d.futures[i]? = some f/\f.user=u/\x=(i:Int)) (hy:∃(i:Nat) (f:Zj),d.futures[i]? = some f/\f.user=u/\y=(i:Int)) (hne:x≠y):Zf8 d.futures x≠Zf8 d.futures y:=by
 obtain⟨i,f,h1,h2,rfl⟩:=hx
 obtain⟨j,e,h3,h4,rfl⟩:=hy
 intro he
 unfold Zf8 at he
 rw[Int.toNat_natCast,Int.toNat_natCast,h1,h3] at he
 simp only at he
 rcases Nat.lt_trichotomy i j with h | h | h
 ·exact g.ne i j f e h h1 h3 ⟨h2.trans h4.symm,he⟩
 ·exact hne (by rw[h])
 ·exact g.ne j i e f h h3 h1 ⟨h4.trans h2.symm,he.symm⟩
theorem ZBG {d:Zq} (g:Zn3 d):ZuK (fun z0 z1=>Zv z0 z1 d.futures) (fun x y=>Zf8 d.futures x-Zf8 d.futures y) (fun z=>0<=z/\z.toNat<d.futures.length):=by
 intro x y hx hy
 have b:∀z:Int,z.toNat<d.futures.length->∃f,d.futures[z.toNat]? = some f/\Zf8 d.futures z=f.pos/\1<=f.pos/\f.pos<=100:=fun z hz=>by
  have hm:=List.getElem_mem hz
  have:=g.f _ hm
  have hw:=ZnQ g d.futures[z.toNat].user
  exact⟨d.futures[z.toNat],List.getElem?_eq_getElem hz,by unfold Zf8;rw[List.getElem?_eq_getElem hz],this.2.1,by omega⟩
 obtain⟨f,f1,f2,f3,f4⟩:=b x hx.2
 obtain⟨e,e1,e2,e3,e4⟩:=b y hy.2
 show Zv x y d.futures=some (Zf8 d.futures x-Zf8 d.futures y)
 unfold Zv
 rw[Zt3 hx.1 f1,Zt3 hy.1 e1]
 simp only[Option.bind_some]
 rw[f2,e2,Zac (by omega) (by omega)]
theorem ZFE (k:Int->Int):SWO (ltC fun x y=>k x-k y):=by
 refine⟨fun x=>?_,fun x y z h1 h2=>?_,fun x y z h1 h2=>?_⟩
 ·show decide (k x-k x<0)=false
  exact decide_eq_false (by omega)
 ·simp only[ltC,decide_eq_true_eq] at *
  omega
 ·simp only[ltC,decide_eq_false_iff_not] at *
  omega
theorem ZA1 (d:Zq) (h:Znk d) (hf:d.futures.length<=1000) (hc:Zid d=0) (u:Int):∃r,Zem d u=some r/\ZhP d u r:=by
 have g:=Zwc hc
 have key:=ZEb d.futures hf (fun f:Zj=>f.user==u) (fun i _=>(i:Int)) (Ze6 d u) (fun i x s hi hx=>by
   simp only[Ze6,ZcG hi,ZU hx,Option.bind_some,ZJ hi h.f,cond_true]) (fun s=>by simp only[Ze6,Zdn];rfl) [] (by simp)
 have hP:∀x∈ZrV d u,0<=x/\x.toNat<d.futures.length:=fun x hx=>by
  obtain⟨i,f,h1,h2,rfl⟩:=(Zny d u x).1 hx
  have:=(List.getElem?_eq_some_iff.1 h1).1
  exact⟨by omega,by simpa using this⟩
 have hlen:(ZrV d u).length<=1000:=by
  unfold ZrV
  rw[ZpZ]
  exact Nat.le_trans List.countP_le_length hf
 obtain⟨r,h1,h2,h3⟩:=ZD6 (ZBG g) (ZFE _) (ZrV d u) hlen hP
 refine⟨r,?_,?_,?_⟩
 ·unfold Zem
  rw[ZzQ d h,hc]
  simp only[Option.bind_some,bne_self_eq_false,cond_false]
  rw[key,List.nil_append,Option.bind_some]
  show(Zar (fun z0 z1=>Zv z0 z1 d.futures) (ZrV d u)).bind _=_
  rw[h1]
  rfl
 ·exact fun z=>by rw[h2.mem_iff,Zny]
 ·have nd:r.Pairwise (fun x y=>x≠y):=(h2.pairwise_iff (fun h=>Ne.symm h)).2 ((ZtE d u).imp fun h=>by omega)
  refine Zxi (h3.and nd) fun x y hx hy hp=>?_
  have a:=(Zny d u x).1 (h2.mem_iff.1 hx)
  have b:=(Zny d u y).1 (h2.mem_iff.1 hy)
  have h4:=ZEw g a b hp.2
  have h5:=hp.1
  simp only[ltC,decide_eq_false_iff_not] at h5
  omega
theorem ZuP {d:Zq}{u:Int}{r:List Int} (h:ZhP d u r):r.length=(ZrV d u).length:=by
 have nd1:r.Nodup:=h.rise.imp fun hp he=>by rw[he] at hp;omega
 have nd2:(ZrV d u).Nodup:=(ZtE d u).imp fun hp he=>by omega
 exact((List.perm_ext_iff_of_nodup nd1 nd2).2 fun z=>by rw[h.mem,Zny]).length_eq
theorem Zx5 {d:Zq}{u:Int}{r:List Int} (h:ZhP d u r):r.length<=d.futures.length:=by
 rw[ZuP h]
 unfold ZrV
 rw[ZpZ]
 exact List.countP_le_length
theorem ZBd {γ:Type} (p:γ->Bool) (g:Nat->γ->Int) (l:List γ) (i:Nat):(sel p g i l).length<=l.length:=by rw[ZpZ];exact List.countP_le_length
open Go Go.Proofs.YtmnglncebfabpaaGreatDoorE
structure Zel (d:Zq):Prop where
 g:Zn3 d
 ins:∀b∈d.barriers,∀q∈b.ins,0<=q/\q.toNat<d.parts.length
 outs:∀b∈d.barriers,∀q∈b.outs,0<=q/\q.toNat<d.parts.length
 disj:∀b∈d.barriers,∀q∈b.ins,q∉b.outs
 pl:d.parts.length<=16
 el:d.edges.length<=48
 fl:d.futures.length<=16
 bl:d.barriers.length<=4
 p1:1<=d.parts.length
 arg:∀p∈d.parts,0<=p.arg/\p.arg<=2147483647
theorem ZB2 {n:Nat}{l:List Int} (h:Zoe n l=true):∀q∈l,0<=q/\q.toNat<n:=by
 intro q hq
 unfold Zoe at h
 simp only[Bool.and_eq_true,Bool.not_eq_true'] at h
 obtain⟨i,hi⟩:=List.getElem?_of_mem hq
 have:Zu4 n l i q=false:=by
  cases hb:Zu4 n l i q with
  | false=>rfl
  | true=>rw[(Zm5 _ _ 0).2 ⟨i,q,hi,by simpa using hb⟩] at h;exact absurd h.1 (by simp)
 unfold Zu4 Zdh at this
 simp only[Bool.or_eq_false_iff,Bool.not_eq_false',Bool.and_eq_true,decide_eq_true_eq] at this
 omega
theorem ZxF {d:Zq} (h:Zid d=0):Zel d:=by
 have g:=Zwc h
 unfold Zid at h
 have all:Zov d=true/\d.barriers.any (ZgS d.parts.length)=false/\d.parts.any Zhx=false:=by
  revert h
  cases Zov d<;>cases ZtZ d<;>cases d.parts.any Zhx<;>cases ZhY (Zh6 d) 0 d.edges<;>cases ZhY (ZeR d) 0 d.futures<;>cases d.barriers.any (ZgS d.parts.length)<;>simp
 have hb:∀b∈d.barriers,Zoe d.parts.length b.ins=true/\Zoe d.parts.length b.outs=true/\b.ins.any (Zt0 b)=false:=fun b hb=>by
  have:=List.any_eq_false.1 all.2.1 b hb
  simp only[ZgS,Bool.or_eq_true,Bool.not_eq_true',not_or,Bool.not_eq_false,Bool.not_eq_true] at this
  exact this
 have m:=all.1
 unfold Zov Zdh at m
 simp only[Bool.and_eq_true,decide_eq_true_eq,Bool.not_eq_true',decide_eq_false_iff_not] at m
 refine⟨g,fun b h1=>ZB2 (hb b h1).1,fun b h1=>ZB2 (hb b h1).2.1,fun b h1 q h2 h3=>?_,by omega,by omega,by omega,by omega,by omega,fun p hp=>?_⟩
 case refine_2=>
  have:=List.any_eq_false.1 all.2.2 p hp
  simp only[Zhx,Zdh,Bool.not_eq_true,Bool.not_eq_false',Bool.and_eq_true,decide_eq_true_eq] at this
  exact this.2.1
 have:=List.any_eq_false.1 (hb b h1).2.2 q h2
 unfold Zt0 at this
 exact this (List.any_eq_true.2 ⟨q,h3,by simp⟩)
def inR (d:Zq) (p:Int):Prop:=0<=p/\p.toNat<d.parts.length
theorem Zel.src {d:Zq} (g:Zel d) {e:Zs} (h:e∈d.edges):inR d e.src:=(Ztx (g.g.e e h)).1
theorem Zel.dst {d:Zq} (g:Zel d) {e:Zs} (h:e∈d.edges):inR d e.dst:=(Ztx (g.g.e e h)).2.1
theorem Zel.maker {d:Zq} (g:Zel d) {f:Zj} (h:f∈d.futures):inR d f.maker:=(Ztx (g.g.f f h).1).1
theorem Zel.user {d:Zq} (g:Zel d) {f:Zj} (h:f∈d.futures):inR d f.user:=(Ztx (g.g.f f h).1).2.1
theorem Zel.short {d:Zq} (g:Zel d) (hs:∀b∈d.barriers,ZGj b):Znk d:=⟨by have:=g.pl;omega,by have:=g.el;omega,by have:=g.fl;omega,by have:=g.bl;omega,hs⟩
def Zm1 (n:Nat) (x:Int):Bool:=decide (0<=x)&&decide (x<(n:Int))
theorem ZAa (l:List Int) (n:Int) (hl:l.length<9223372036854775808):ZgX l n=some (l.any fun x=>n==x):=by
 have key:=Zgz l (Zg2 l n) (fun _ x=>n==x) (fun _ _=>.inl ()) (.inr ()) (fun i x hi hx=>by
   have e:(x==n)=(n==x):=Bool.beq_comm
   simp only[Zg2,ZcG hi,ZU hx,Option.bind_some,ZJ hi hl,cond_true,e]
   cases (n==x)<;>rfl) (by simp only[Zg2,Zdn];rfl)
 unfold ZgX
 rw[key,Zeh,Zlt]
 cases (l.any fun x=>n==x)<;>rfl
theorem ZCt {γ:Type} (p:γ->Bool):∀(l:List γ) (i:Nat),(sel p (fun i _=>(i:Int)) i l).Pairwise (fun x y=>x<y)/\∀z∈sel p (fun i _=>(i:Int)) i l,(i:Int)<=z:=by
 intro l
 induction l with
 | nil=>intro i;simp[sel]
 | cons x l ih=>
  intro i
  obtain⟨h1,h2⟩:=ih (i+1)
  unfold sel
  cases p x with
  | true=>
   simp only[cond_true,List.pairwise_cons,List.mem_cons]
   refine⟨⟨fun z hz=>?_,h1⟩,?_⟩
   ·have:=h2 z hz;omega
   ·rintro z (rfl | hz)
    ·exact Int.le_refl _
    ·have:=h2 z hz;omega
  | false=>
   simp only[cond_false]
   exact⟨h1,fun z hz=>by have:=h2 z hz;omega⟩
def Zrm (d:Zq) (u:Int) (t:Int):List Int:=sel (fun f:Zj=>f.user==u&&f.pos==t) (fun i _=>(i:Int)) 0 d.futures
theorem Zqq (d:Zq) (u t z:Int):z∈Zrm d u t↔∃(i:Nat) (f:Zj),d.futures[i]? = some f/\f.user=u/\f.pos=t/\z=(i:Int):=by
 unfold Zrm
 rw[Zr6]
 simp[and_assoc]
theorem ZnO {d:Zq}{u t z:Int} (h:z∈Zrm d u t):Zf8 d.futures z=t:=by
 obtain⟨i,f,h1,_,h3,rfl⟩:=(Zqq d u t z).1 h
 unfold Zf8
 rw[Int.toNat_natCast,h1,<- h3]
theorem Ztd {d:Zq}{u t z:Int} (h:z∈Zrm d u t):∃(i:Nat) (f:Zj),d.futures[i]? = some f/\f.user=u/\z=(i:Int):=by
 obtain⟨i,f,h1,h2,_,h4⟩:=(Zqq d u t z).1 h
 exact⟨i,f,h1,h2,h4⟩
def tl (d:Zq) (u:Int):Nat->Nat->List Int
 | _,0=>[]
 | i,k+1=>Zrm d u ((i+1:Nat):Int)++tl d u (i+1) k
theorem ZyY (d:Zq) (u z:Int):∀(k i:Nat),z∈tl d u i k↔∃t:Nat,i<t/\t<=i+k/\z∈Zrm d u (t:Int)
 | 0,i=>by
  unfold tl
  constructor
  ·intro h;cases h
  ·rintro ⟨t,h1,h2,_⟩;omega
 | k+1,i=>by
  unfold tl
  rw[List.mem_append,ZyY d u z k (i+1)]
  constructor
  ·rintro (h | ⟨t,h1,h2,h3⟩)
   ·exact⟨i+1,by omega,by omega,h⟩
   ·exact⟨t,by omega,by omega,h3⟩
  ·rintro ⟨t,h1,h2,h3⟩
   by_cases h:t=i+1
   ·subst h;exact .inl h3
   ·exact .inr ⟨t,by omega,by omega,h3⟩
theorem ZAH {d:Zq} (g:Zn3 d) (u:Int):∀(k i:Nat),(tl d u i k).Pairwise (fun x y=>Zf8 d.futures x<Zf8 d.futures y)
 | 0,i=>List.Pairwise.nil
 | k+1,i=>by
  unfold tl
  rw[List.pairwise_append]
  refine⟨?_,ZAH g u k (i+1),fun x hx y hy=>?_⟩
  ·refine Zxi (ZCt _ _ _).1 fun x y hx hy hlt=>?_
   have hx':x∈Zrm d u ((i+1:Nat):Int):=hx
   have hy':y∈Zrm d u ((i+1:Nat):Int):=hy
   exact absurd ((ZnO hx').trans (ZnO hy').symm) (ZEw g (Ztd hx') (Ztd hy') (by omega))
  ·obtain⟨t,h1,h2,h3⟩:=(ZyY d u y k (i+1)).1 hy
   rw[ZnO hx,ZnO h3]
   omega
theorem Zzs {d:Zq} (g:Zn3 d) (u:Int):ZhP d u (tl d u 0 99):=by
 refine⟨fun z=>?_,ZAH g u 99 0⟩
 rw[ZyY]
 constructor
 ·rintro ⟨t,_,_,h⟩;exact Ztd h
 ·rintro ⟨i,f,h1,h2,h3⟩
  have hf:=g.f f (List.mem_of_getElem? h1)
  have hw:=ZnQ g f.user
  refine⟨f.pos.toNat,by omega,by omega,?_⟩
  rw[Zqq]
  exact⟨i,f,h1,h2,by omega,h3⟩
def Zc8 {γ S:Type} (f:Nat->S->γ->S):Nat->S->List γ->S
 | _,s,[]=>s
 | i,s,x :: l=>Zc8 f (i+1) (f i s x) l
theorem ZgO {γ S T R:Type} (l:List γ) (step:T->Option (T⊕R)) (st:Nat->S->T) (f:Nat->S->γ->S) (fin:S->R) (I:Nat->S->Prop)
  (h1:∀i x s,i<l.length->l[i]? = some x->I i s->step (st i s)=some (.inl (st (i+1) (f i s x)))/\I (i+1) (f i s x))
  (h2:∀s,I l.length s->step (st l.length s)=some (.inr (fin s))) (s:S) (h0:I 0 s) :
  lp step (st 0 s)=some (fin (Zc8 f 0 s l))/\I l.length (Zc8 f 0 s l):=by
 have key:∀(k i:Nat) (s:S),i+k=l.length->I i s->lp step (st i s)=some (fin (Zc8 f i s (l.drop i)))/\I l.length (Zc8 f i s (l.drop i)):=by
  intro k
  induction k with
  | zero=>
   intro i s hi hI
   have:i=l.length:=by omega
   subst this
   rw[List.drop_length,Zaj,h2 s hI]
   exact⟨rfl,hI⟩
  | succ k ih=>
   intro i s hi hI
   have hi':i<l.length:=by omega
   obtain⟨e,hI'⟩:=h1 i l[i] s hi' (List.getElem?_eq_getElem hi') hI
   rw[List.drop_eq_getElem_cons hi',Zaj,e]
   exact ih (i+1) _ (by omega) hI'
 have:=key l.length 0 s (by omega) h0
 rwa [List.drop_zero] at this
def Zjt (w:Int):Bool:=decide (w<0) || decide (1000<w)
def ZrK (g:Zbh) (i:Nat) (e:Zs):Bool:=!(Zm1 g.work.length e.src) || (!(Zm1 g.work.length e.dst) || ((e.src==e.dst) || (g.edges.take i).any (ZsE e)))
def Znu (g:Zbh):Int:=bif decide (64<(g.work.length:Int)) || decide (256<(g.edges.length:Int)) then 40 else bif g.work.any Zjt then 41 else bif ZhY (ZrK g) 0 g.edges then 42 else 0
structure ZwM (g:Zbh):Prop where
 w:g.work.length<9223372036854775808
 e:g.edges.length<9223372036854775808
theorem ZCg (w:Int):ZdT w=some (Zjt w):=by
 unfold ZdT Zjt
 cases decide (w<0)<;>cases decide (1000<w)<;>rfl
theorem ZEk (a:Int) (l:List Int):Zhn a l=some (Zm1 l.length a):=by
 unfold Zhn Zm1
 cases decide (0<=a)<;>cases decide (a<(l.length:Int))<;>rfl
theorem Zyz (g:Zbh) (h:ZwM g):lp (ZfX g) 0=some (bif ZhY (ZrK g) 0 g.edges then .inl () else .inr ()):=by
 have key:=Zgz g.edges (ZfX g) (ZrK g) (fun _ _=>.inl ()) (.inr ()) (fun i x hi hx=>by
   have e0:decide ((0:Int)<=(i:Int))=true:=decide_eq_true (by omega)
   have e1:Nat.ble i g.edges.length=true:=Nat.ble_eq_true_of_le (by omega)
   simp only[ZfX,ZcG hi,ZU hx,Option.bind_some,ZJ hi h.e,cond_true,ZEk,ZrK,e0,Int.toNat_natCast,e1,ZvD _ x (ZoI h.e)]
   cases Zm1 g.work.length x.src<;>cases Zm1 g.work.length x.dst<;>cases (x.src==x.dst)<;>cases (g.edges.take i).any (ZsE x)<;>rfl) (by simp only[ZfX,Zdn];rfl)
 rw[key,Zeh]
inductive Way (g:Zbh):Int->Int->Prop
 | one {e:Zs}:e∈g.edges->Way g e.src e.dst
 | more {a:Int} {e:Zs}:Way g a e.src->e∈g.edges->Way g a e.dst
theorem Way.trans {g:Zbh}{a b c:Int} (h1:Way g a b) (h2:Way g b c):Way g a c:=by
 induction h2 with
 | one he=>exact Way.more h1 he
 | more _ he ih=>exact Way.more (ih h1) he
def Zsz (g:Zbh):Prop:=∀a,¬Way g a a
structure Zj3 (g:Zbh):Prop where
 wl:g.work.length<=64
 el:g.edges.length<=256
 w:∀x∈g.work,0<=x/\x<=1000
 src:∀e∈g.edges,0<=e.src/\e.src.toNat<g.work.length
 dst:∀e∈g.edges,0<=e.dst/\e.dst.toNat<g.work.length
theorem Zj3.short {g:Zbh} (h:Zj3 g):ZwM g:=⟨by have:=h.wl;omega,by have:=h.el;omega⟩
theorem Zvf {n:Nat}{a:Int} (h:Zm1 n a=true):0<=a/\a.toNat<n:=by
 unfold Zm1 at h
 simp only[Bool.and_eq_true,decide_eq_true_eq] at h
 omega
theorem Zxr {g:Zbh} (h:Znu g=0):Zj3 g:=by
 unfold Znu at h
 cases h1:decide (64<(g.work.length:Int)) with
 | true=>rw[h1] at h;simp at h
 | false=>
 cases h2:decide (256<(g.edges.length:Int)) with
 | true=>rw[h1,h2] at h;simp at h
 | false=>
 cases h3:g.work.any Zjt with
 | true=>rw[h1,h2,h3] at h;simp at h
 | false=>
 cases h4:ZhY (ZrK g) 0 g.edges with
 | true=>rw[h1,h2,h3,h4] at h;simp at h
 | false=>
 have hE:∀e∈g.edges,∃i,ZrK g i e=false:=fun e he=>by
  obtain⟨i,hi⟩:=List.getElem?_of_mem he
  refine⟨i,?_⟩
  cases hb:ZrK g i e with
  | false=>rfl
  | true=>rw[(Zm5 _ _ 0).2 ⟨i,e,hi,by simpa using hb⟩] at h4;cases h4
 refine⟨by have:=of_decide_eq_false h1;omega,by have:=of_decide_eq_false h2;omega,fun x hx=>?_,fun e he=>?_,fun e he=>?_⟩
 ·have:=List.any_eq_false.1 h3 x hx
  unfold Zjt at this
  simp only[Bool.or_eq_true,decide_eq_true_eq,not_or] at this
  omega
 ·obtain⟨i,hi⟩:=hE e he
  unfold ZrK at hi
  simp only[Bool.or_eq_false_iff,Bool.not_eq_false'] at hi
  exact Zvf hi.1
 ·obtain⟨i,hi⟩:=hE e he
  unfold ZrK at hi
  simp only[Bool.or_eq_false_iff,Bool.not_eq_false'] at hi
  exact Zvf hi.2.1
theorem Way.src_in {g:Zbh} (h:Zj3 g) {a b:Int} (w:Way g a b):0<=a/\a.toNat<g.work.length:=by
 induction w with
 | one he=>exact h.src _ he
 | more _ _ ih=>exact ih
theorem ZDp {g:Zbh} (hg:Zsz g):∀(n:Nat) (S:List Int),S.length<=n->S≠[]->∃m∈S,∀e∈g.edges,e.dst=m->e.src∉S:=by
 intro n
 induction n with
 | zero=>intro S h1 h2;exact absurd (List.length_eq_zero_iff.1 (by omega)) h2
 | succ n ih=>
  intro S h1 h2
  obtain⟨m,hm⟩:=List.exists_mem_of_ne_nil S h2
  classical
  by_cases hS:(S.filter fun x=>decide (Way g x m))=[]
  ·refine⟨m,hm,fun e he hd hs=>?_⟩
   have:e.src∈S.filter fun x=>decide (Way g x m):=List.mem_filter.2 ⟨hs,decide_eq_true (hd ▸ Way.one he)⟩
   rw[hS] at this
   cases this
  ·have hlt:(S.filter fun x=>decide (Way g x m)).length<S.length:=by
    refine Nat.lt_of_le_of_ne (List.length_filter_le _ _) fun he=>?_
    have:=List.length_filter_eq_length_iff.1 he m hm
    exact hg m (of_decide_eq_true this)
   obtain⟨k,hk,hk2⟩:=ih _ (by omega) hS
   obtain⟨k1,k2⟩:=List.mem_filter.1 hk
   refine⟨k,k1,fun e he hd hs=>hk2 e he hd (List.mem_filter.2 ⟨hs,decide_eq_true ?_⟩)⟩
   exact(hd ▸ Way.one he:Way g e.src k).trans (of_decide_eq_true k2)
def bAt (l:List Bool) (z:Int):Bool:=match l[z.toNat]? with | some b=>b | none=>false
def Zq7 (g:Zbh) (done:List Bool) (i:Nat):Bool:=!(bAt done (i:Int)) && !(g.edges.any fun e=>(e.dst==(i:Int)) && !(bAt done e.src))
def Zrc (g:Zbh) (done:List Bool):Option Nat:=ZkA (fun i _=>Zq7 g done i) (fun i _=>some i) none 0 g.work
def Zqb (g:Zbh):Nat->List Int->List Bool->Option (List Int)
 | 0,out,_=>some out
 | k+1,out,done=>(match Zrc g done with | some i=>Zqb g k (out++[(i:Int)]) (done.set i true) | none=>none)
theorem ZxR {γ R S:Type} (p:Nat->γ->Bool) (out:Nat->γ->R) (fin:R) (F:R->S):∀(l:List γ) (i:Nat),F (ZkA p out fin i l)=ZkA p (fun i x=>F (out i x)) (F fin) i l
 | [],i=>rfl
 | x :: l,i=>by
  unfold ZkA
  cases p i x with
  | true=>rfl
  | false=>exact ZxR p out fin F l (i+1)
theorem ZvA {γ:Type} (p:Nat->γ->Bool):∀(l:List γ) (i k:Nat),ZkA p (fun i _=>some i) none i l=some k->i<=k/\k<i+l.length/\∃x,l[k-i]? = some x/\p k x=true
 | [],i,k,h=>by cases h
 | x :: l,i,k,h=>by
  unfold ZkA at h
  cases hp:p i x with
  | true=>
   rw[hp] at h
   cases h
   exact⟨Nat.le_refl _,by simp,x,by simp,hp⟩
  | false=>
   rw[hp] at h
   obtain⟨h1,h2,y,h3,h4⟩:=ZvA p l (i+1) k h
   refine⟨by omega,by simp only[List.length_cons];omega,y,?_,h4⟩
   rw[show k-i=(k-(i+1))+1 by omega]
   exact h3
theorem Zu1 {γ:Type} (p:Nat->γ->Bool):∀(l:List γ) (i:Nat),ZkA p (fun i _=>some i) none i l=none->∀(j:Nat) x,l[j]? = some x->p (i+j) x=false
 | [],i,h,j,x,hx=>by cases hx
 | y :: l,i,h,j,x,hx=>by
  unfold ZkA at h
  cases hp:p i y with
  | true=>rw[hp] at h;cases h
  | false=>
   rw[hp] at h
   cases j with
   | zero=>cases hx;exact hp
   | succ j=>
    have:=Zu1 p l (i+1) h j x hx
    rwa [show i+1+j=i+(j+1) by omega] at this
theorem ZAn {g:Zbh}{done:List Bool} (hd:done.length=g.work.length) {z:Int} (h:0<=z/\z.toNat<g.work.length):Zz done z=some (bAt done z):=by
 have e:=List.getElem?_eq_getElem (show z.toNat<done.length by rw[hd];exact h.2)
 rw[Zt3 h.1 e]
 unfold bAt
 rw[e]
theorem ZHY {g:Zbh} (h:Zj3 g) (out:List Int) (ho:out.length<g.work.length) (done:List Bool) (hd:done.length=g.work.length) :
  lp (ZfI g (out,done)) 0=some (match Zrc g done with | some i=>.inl (out++[(i:Int)],done.set i true) | none=>.inr ()):=by
 have key:=Zgz g.work (ZfI g (out,done)) (fun i _=>Zq7 g done i) (fun i _=>.inl (out++[(i:Int)],done.set i true)) (.inr ()) (fun i x hi hx=>by
   have inner:=Zgz g.edges (Zg3 g (out,done) (i:Int)) (fun _ e=>(e.dst==(i:Int)) && !(bAt done e.src)) (fun _ _=>.inl ()) (.inr ()) (fun k e hk he=>by
     simp only[Zg3,ZcG hk,ZU he,Option.bind_some,ZJ hk h.short.e,cond_true,ZAn hd (h.src e (List.mem_of_getElem? he))]
     cases (e.dst==(i:Int))<;>cases bAt done e.src<;>rfl) (by simp only[Zg3,Zdn];rfl)
   rw[Zeh,Zlt] at inner
   have hl:=h.wl
   simp only[ZfI,ZcG hi,ZAn hd (z:=(i:Int)) ⟨by omega,by simpa using hi⟩,Option.bind_some,ZJ hi h.short.w,cond_true,inner,ZgB (show out.length+1<=1073741824 by omega),Int.toNat_natCast,Zq7]
   cases bAt done (i:Int)<;>cases g.edges.any (fun e=>(e.dst==(i:Int)) && !(bAt done e.src))<;>rfl) (by simp only[ZfI,Zdn];rfl)
 rw[key]
 unfold Zrc
 exact congrArg some (ZxR (fun i _=>Zq7 g done i) (fun i _=>some i) none (fun o:Option Nat=>(match o with | some i=>(.inl (out++[(i:Int)],done.set i true):(List Int×List Bool)⊕Unit) | none=>.inr ())) g.work 0).symm
theorem ZAD {g:Zbh} (h:Zj3 g):∀(k:Nat) (out:List Int) (done:List Bool),out.length+k=g.work.length->done.length=g.work.length ->
  ∃r,lp (Zg5 g) (out,done)=some r/\(match Zqb g k out done with | some l=>r = .inr l | none=>∃l,r = .inl l)
 | 0,out,done,h1,h2=>by
  rw[Zaj]
  simp only[Zg5,show out.length=g.work.length by omega,Zdn,cond_false]
  exact⟨_,rfl,rfl⟩
 | k+1,out,done,h1,h2=>by
  rw[Zaj]
  simp only[Zg5,ZcG (show out.length<g.work.length by omega),cond_true,ZHY h out (by omega) done h2,Option.bind_some]
  unfold Zqb
  cases Zrc g done with
  | none=>exact⟨_,rfl,_,rfl⟩
  | some i=>exact ZAD h k (out++[(i:Int)]) (done.set i true) (by rw[List.length_append];simp only[List.length_cons,List.length_nil];omega) (by rw[List.length_set];exact h2)
theorem ZAy {g:Zbh} (h:Zj3 g):ZgI g=some (match Zqb g g.work.length [] (List.replicate g.work.length false) with | some l=>(l,true) | none=>([],false)):=by
 obtain⟨r,e,hr⟩:=ZAD h g.work.length [] (List.replicate g.work.length false) (by simp) (by simp)
 have hl:=h.wl
 unfold ZgI
 rw[decide_eq_true (show(0:Int)<=(g.work.length:Int) by omega),decide_eq_true (show(g.work.length:Int)<=lim by show(g.work.length:Int)<=1073741824;omega),beq_self_eq_true]
 simp only[decide_true,Bool.and_true,cond_true,Int.toNat_natCast,e,Option.bind_some]
 cases ho:Zqb g g.work.length [] (List.replicate g.work.length false) with
 | some l=>rw[ho] at hr;simp only at hr;subst hr;rfl
 | none=>rw[ho] at hr;obtain⟨l,rfl⟩:=hr;rfl
structure Zg9 (g:Zbh) (out:List Int) (done:List Bool):Prop where
 dl:done.length=g.work.length
 mem:∀i:Nat,bAt done (i:Int)=true↔(i:Int)∈out
 inn:∀z∈out,0<=z/\z.toNat<g.work.length
 nod:out.Nodup
 topo:∀(i:Nat) (n:Int),out[i]? = some n->∀e∈g.edges,e.dst=n->∃j,j<i/\out[j]? = some e.src
theorem ZFY {done:List Bool}{i:Nat} (hi:i<done.length) (z:Int) (hz:0<=z):bAt (done.set i true) z=(decide (z=(i:Int)) || bAt done z):=by
 unfold bAt
 rw[List.getElem?_set]
 by_cases h:i=z.toNat
 ·subst h
  rw[if_pos rfl,if_pos hi,decide_eq_true (show z=((z.toNat:Nat):Int) by omega)];rfl
 ·rw[if_neg h,decide_eq_false (show ¬z=(i:Int) by omega)];rfl
theorem Zg9.start (g:Zbh):Zg9 g [] (List.replicate g.work.length false):=by
 refine⟨by simp,fun i=>?_,by simp,by simp,by simp⟩
 unfold bAt
 rw[List.getElem?_replicate]
 by_cases h:((i:Int)).toNat<g.work.length
 ·rw[if_pos h];simp
 ·rw[if_neg h];simp
theorem Zg9.next {g:Zbh} (h:Zj3 g) {out:List Int}{done:List Bool} (o:Zg9 g out done) {i:Nat} (hn:Zrc g done=some i):Zg9 g (out++[(i:Int)]) (done.set i true):=by
 obtain⟨_,hi,x,_,hp⟩:=ZvA _ _ _ _ hn
 rw[Nat.zero_add] at hi
 unfold Zq7 at hp
 simp only[Bool.and_eq_true,Bool.not_eq_true',List.any_eq_false,Bool.not_eq_true] at hp
 have hid:i<done.length:=by rw[o.dl];exact hi
 have hnot:(i:Int)∉out:=fun hm=>by have:=(o.mem i).2 hm;rw[hp.1] at this;cases this
 refine⟨by rw[List.length_set];exact o.dl,fun j=>?_,fun z hz=>?_,?_,fun k n hk e he hd=>?_⟩
 ·rw[ZFY hid (j:Int) (by omega),Bool.or_eq_true,decide_eq_true_eq,o.mem,List.mem_append,List.mem_singleton]
  exact Or.comm
 ·rcases List.mem_append.1 hz with hz | hz
  ·exact o.inn z hz
  ·rw[List.mem_singleton] at hz;subst hz;exact⟨by omega,by simpa using hi⟩
 ·rw[List.nodup_append]
  refine⟨o.nod,by simp,fun a ha b hb=>?_⟩
  rw[List.mem_singleton] at hb
  subst hb
  exact fun hab=>hnot (hab ▸ ha)
 ·rcases Nat.lt_or_ge k out.length with hk2 | hk2
  ·rw[List.getElem?_append_left hk2] at hk
   obtain⟨j,h1,h2⟩:=o.topo k n hk e he hd
   exact⟨j,h1,by rw[List.getElem?_append_left (by omega)];exact h2⟩
  ·rw[List.getElem?_append_right hk2] at hk
   have hk0:k-out.length=0:=by
    rcases Nat.eq_zero_or_pos (k-out.length) with h0 | h0
    ·exact h0
    ·rw[List.getElem?_eq_none (by simp only[List.length_cons,List.length_nil];omega)] at hk;cases hk
   rw[hk0] at hk
   simp only[List.getElem?_cons_zero,Option.some.injEq] at hk
   subst hk
   have hs:=hp.2 e he
   rw[hd] at hs
   have hs:bAt done e.src=true:=by simpa using hs
   have hsr:=h.src e he
   have:=(o.mem e.src.toNat).1 (by rw[show((e.src.toNat:Nat):Int)=e.src by omega];exact hs)
   rw[show((e.src.toNat:Nat):Int)=e.src by omega] at this
   obtain⟨j,hj⟩:=List.getElem?_of_mem this
   have hjl:=(List.getElem?_eq_some_iff.1 hj).1
   exact⟨j,by omega,by rw[List.getElem?_append_left hjl];exact hj⟩
theorem Zg9.way {g:Zbh}{out:List Int}{done:List Bool} (o:Zg9 g out done) {a b:Int} (w:Way g a b):∀j:Nat,out[j]? = some b->∃i,i<j/\out[i]? = some a:=by
 induction w with
 | one he=>intro j hj;exact o.topo j _ hj _ he rfl
 | more _ he ih=>
  intro j hj
  obtain⟨i,h1,h2⟩:=o.topo j _ hj _ he rfl
  obtain⟨k,h3,h4⟩:=ih i h2
  exact⟨k,by omega,h4⟩
theorem Zvw {l:List Int} (h:l.Nodup) {i j:Nat}{a:Int} (h1:l[i]? = some a) (h2:l[j]? = some a):i=j:=by
 obtain⟨a1,a2⟩:=List.getElem?_eq_some_iff.1 h1
 obtain⟨b1,b2⟩:=List.getElem?_eq_some_iff.1 h2
 exact(List.getElem_inj h).1 (a2.trans b2.symm)
def ZEB (n:Nat) (done:List Bool):List Int:=((List.range n).filter fun i:Nat=>!bAt done (i:Int)).map fun i:Nat=>(i:Int)
theorem Ztt {n:Nat}{done:List Bool}{i:Nat} (h1:i<n) (h2:bAt done (i:Int)=false):(i:Int)∈ZEB n done:=
 List.mem_map.2 ⟨i,List.mem_filter.2 ⟨List.mem_range.2 h1,by rw[h2];rfl⟩,rfl⟩
theorem ZBQ {g:Zbh} (h:Zj3 g) (hg:Zsz g) {out:List Int}{done:List Bool} (o:Zg9 g out done) (i0:Nat) (hi0:i0<g.work.length) (hb:bAt done (i0:Int)=false):∃i,Zrc g done=some i:=by
 cases hn:Zrc g done with
 | some i=>exact⟨i,rfl⟩
 | none=>
  exfalso
  have hall:=Zu1 _ _ _ hn
  obtain⟨m,hm,hm2⟩:=ZDp hg _ (ZEB g.work.length done) (Nat.le_refl _) (by
   intro he
   have:=Ztt hi0 hb
   rw[he] at this;cases this)
  obtain⟨k,hk,rfl⟩:=List.mem_map.1 hm
  obtain⟨hk1,hk2⟩:=List.mem_filter.1 hk
  rw[List.mem_range] at hk1
  have hr:=hall k g.work[k] (List.getElem?_eq_getElem hk1)
  rw[Nat.zero_add] at hr
  unfold Zq7 at hr
  rw[hk2,Bool.true_and,Bool.not_eq_false',List.any_eq_true] at hr
  obtain⟨e,he,he2⟩:=hr
  simp only[Bool.and_eq_true,beq_iff_eq] at he2
  have hsr:=h.src e he
  refine hm2 e he he2.1 ?_
  have es:((e.src.toNat:Nat):Int)=e.src:=by omega
  rw[<- es]
  exact Ztt hsr.2 (by rw[es];simpa using he2.2)
theorem ZEN {n:Nat}{out:List Int} (h1:out.Nodup) (h2:∀z∈out,0<=z/\z.toNat<n):(out.length<=n)/\(out.length=n->∀i:Nat,i<n->(i:Int)∈out):=by
 induction n generalizing out with
 | zero=>
  refine⟨?_,fun _ i hi=>absurd hi (by omega)⟩
  cases out with
  | nil=>simp
  | cons z l=>have:=h2 z (by simp);omega
 | succ n ih=>
  by_cases hm:(n:Int)∈out
  ·have e1:(out.erase (n:Int)).length=out.length-1:=List.length_erase_of_mem hm
   have pos:0<out.length:=List.length_pos_of_mem hm
   obtain⟨a,b⟩:=ih (out:=out.erase (n:Int)) (h1.erase _) (fun z hz=>by
    have hz2:=(List.Nodup.mem_erase_iff h1).1 hz
    have:=h2 z hz2.2
    have:=hz2.1
    omega)
   refine⟨by omega,fun hl i hi=>?_⟩
   by_cases hin:i=n
   ·subst hin;exact hm
   ·exact List.mem_of_mem_erase (b (by omega) i (by omega))
  ·obtain⟨a,b⟩:=ih (out:=out) h1 (fun z hz=>by
    have:=h2 z hz
    have:z≠(n:Int):=fun he=>hm (he ▸ hz)
    omega)
   exact⟨by omega,fun hl=>by omega⟩
theorem ZEL:∀(n:Nat) (out:List Int),(∀i:Nat,i<n->(i:Int)∈out)->n<=out.length
 | 0,out,h=>by omega
 | n+1,out,h=>by
  have hm:=h n (by omega)
  have e1:(out.erase (n:Int)).length=out.length-1:=List.length_erase_of_mem hm
  have pos:0<out.length:=List.length_pos_of_mem hm
  have:=ZEL n (out.erase (n:Int)) (fun i hi=>(List.mem_erase_of_ne (by omega)).2 (h i (by omega)))
  omega
theorem Zoj {g:Zbh} (h:Zj3 g):∀(k:Nat) (out:List Int) (done:List Bool),Zg9 g out done->out.length+k=g.work.length->(∀l,Zqb g k out done=some l->∃done',Zg9 g l done'/\l.length=g.work.length)/\(Zsz g->∃l,Zqb g k out done=some l)
 | 0,out,done,o,hl=>⟨fun l h=>by cases h;exact⟨done,o,by omega⟩,fun _=>⟨out,rfl⟩⟩
 | k+1,out,done,o,hl=>by
  unfold Zqb
  cases hn:Zrc g done with
  | none=>
   refine⟨fun l h=>(by cases h),fun hg=>?_⟩
   exfalso
   have hex:∃i0,i0<g.work.length/\(i0:Int)∉out:=by
    apply Classical.byContradiction
    intro hc
    have hc2:∀i0,i0<g.work.length->(i0:Int)∈out:=fun i0 hi=>Classical.byContradiction fun hx=>hc ⟨i0,hi,hx⟩
    have sub:=ZEL g.work.length out hc2
    omega
   obtain⟨i0,h1,h2⟩:=hex
   obtain⟨i,hi⟩:=ZBQ h hg o i0 h1 (by
    cases hb:bAt done (i0:Int) with
    | false=>rfl
    | true=>exact absurd ((o.mem i0).1 hb) h2)
   rw[hn] at hi
   cases hi
  | some i=>
   exact Zoj h k _ _ (o.next h hn) (by rw[List.length_append];simp only[List.length_cons,List.length_nil];omega)
theorem ZFf {g:Zbh} (h:Zj3 g) {l:List Int}{done:List Bool} (o:Zg9 g l done) (hl:l.length=g.work.length):Zsz g:=by
 intro a w
 have ha:=w.src_in h
 have hm:=(ZEN o.nod o.inn).2 hl a.toNat ha.2
 rw[show((a.toNat:Nat):Int)=a by omega] at hm
 obtain⟨j,hj⟩:=List.getElem?_of_mem hm
 obtain⟨i,h1,h2⟩:=o.way w j hj
 have:=Zvw o.nod h2 hj
 omega
structure ZJg (g:Zbh) (l:List Int):Prop where
 len:l.length=g.work.length
 all:∀i:Nat,i<g.work.length->(i:Int)∈l
 inn:∀z∈l,0<=z/\z.toNat<g.work.length
 nod:l.Nodup
 topo:∀(i:Nat) (n:Int),l[i]? = some n->∀e∈g.edges,e.dst=n->∃j,j<i/\l[j]? = some e.src
theorem ZuS {g:Zbh} (h:Zj3 g) (hg:Zsz g):∃l,ZgI g=some (l,true)/\ZJg g l:=by
 obtain⟨k1,k2⟩:=Zoj h g.work.length [] _ (Zg9.start g) (by simp)
 obtain⟨l,hl⟩:=k2 hg
 obtain⟨done,o,hn⟩:=k1 l hl
 exact⟨l,by rw[ZAy h,hl],hn,(ZEN o.nod o.inn).2 hn,o.inn,o.nod,o.topo⟩
theorem ZE1 {g:Zbh} (h:Zj3 g) (hg:¬Zsz g):ZgI g=some ([],false):=by
 rw[ZAy h]
 cases ho:Zqb g g.work.length [] (List.replicate g.work.length false) with
 | none=>rfl
 | some l=>
  obtain⟨done,o,hn⟩:=(Zoj h g.work.length [] _ (Zg9.start g) (by simp)).1 l ho
  exact absurd (ZFf h o hn) hg
noncomputable def ZCG (g:Zbh):Bool:=@decide (Zsz g) (Classical.propDecidable _)
theorem ZFF {g:Zbh} (h:Zsz g):ZCG g=true:=@decide_eq_true _ (Classical.propDecidable _) h
theorem ZzY {g:Zbh} (h:¬Zsz g):ZCG g=false:=@decide_eq_false _ (Classical.propDecidable _) h
noncomputable def Zjc (g:Zbh):Int:=bif Znu g==0 then (bif ZCG g then 0 else 43) else Znu g
theorem ZnT {g:Zbh} (h:Zjc g=0):Zj3 g/\Zsz g:=by
 unfold Zjc at h
 by_cases h0:Znu g=0
 ·rw[h0] at h
  refine⟨Zxr h0,Classical.byContradiction fun hn=>?_⟩
  rw[ZzY hn] at h
  simp at h
 ·rw[beq_false_of_ne h0] at h
  exact absurd h h0
theorem Zop (g:Zbh) (h:ZwM g):ZhQ g=some (Zjc g):=by
 have hw:=Zog g.work (fun z0=>ZdT z0) Zjt (fun x _=>ZCg x) h.w
 unfold ZhQ Zjc
 rw[hw,Zyz g h]
 by_cases h0:Znu g=0
 ·have hG:=Zxr h0
  rw[h0]
  unfold Znu at h0
  by_cases hg:Zsz g
  ·obtain⟨l,e,_⟩:=ZuS hG hg
   rw[e,ZFF hg]
   revert h0
   cases decide (64<(g.work.length:Int))<;>cases decide (256<(g.edges.length:Int))<;>cases g.work.any Zjt<;>cases ZhY (ZrK g) 0 g.edges<;>simp
  ·rw[ZE1 hG hg,ZzY hg]
   revert h0
   cases decide (64<(g.work.length:Int))<;>cases decide (256<(g.edges.length:Int))<;>cases g.work.any Zjt<;>cases ZhY (ZrK g) 0 g.edges<;>simp
 ·rw[beq_false_of_ne h0]
  unfold Znu at h0 ⊢
  revert h0
  cases decide (64<(g.work.length:Int))<;>cases decide (256<(g.edges.length:Int))<;>cases g.work.any Zjt<;>cases ZhY (ZrK g) 0 g.edges<;>simp
theorem Zkk {K W:Type} (eq:K->K->Bool) (k:K) (v:W):∀l:List (K×W),(∀q∈l,eq k q.1=false)->Zx eq l k v=l++[(k,v)]
 | [],_=>rfl
 | (a,u) :: r,h=>by
  unfold Zx
  rw[h (a,u) (by simp)]
  simp only[cond_false,List.cons_append]
  rw[Zkk eq k v r fun q hq=>h q (by simp[hq])]
theorem Zk8 {K W:Type} (eq:K->K->Bool) (k:K) (z:W) (m:List (K×W)):∀l:List (K×W),(∀q∈l,eq k q.1=false)->Z8 eq (l++m) k z=Z8 eq m k z
 | [],_=>rfl
 | (a,u) :: r,h=>by
  rw[List.cons_append]
  conv=>lhs;unfold Z8
  rw[h (a,u) (by simp)]
  exact Zk8 eq k z m r fun q hq=>h q (by simp[hq])
theorem Zl3 {K W:Type} (eq:K->K->Bool) (k:K) (z:W) (m:List (K×W)):∀l:List (K×W),(∃q∈l,eq k q.1=true)->Z8 eq (l++m) k z=Z8 eq l k z
 | [],h=>by obtain⟨q,hq,_⟩:=h;simp at hq
 | (a,u) :: r,h=>by
  rw[List.cons_append]
  unfold Z8
  cases hb:eq k a with
  | true=>rfl
  | false=>
   simp only[cond_false]
   refine Zl3 eq k z m r ?_
   obtain⟨q,hq,hk⟩:=h
   rcases List.mem_cons.1 hq with rfl | hq
   ·rw[hb] at hk;cases hk
   ·exact⟨q,hq,hk⟩
abbrev eqI:Int->Int->Bool:=fun ka kb:Int=>(ka==kb)
theorem Zrp {K W:Type} (eq:K->K->Bool) (k:K) (v w:W) (hk:eq k k=true):∀l:List (K×W),(∀q∈l,eq k q.1=false)->Zx eq (l++[(k,v)]) k w=l++[(k,w)]
 | [],_=>by
  show(bif eq k k then _ else _)=_
  rw[hk];rfl
 | (a,u) :: r,h=>by
  rw[List.cons_append]
  unfold Zx
  rw[h (a,u) (by simp)]
  simp only[cond_false,List.cons_append]
  rw[Zrp eq k v w hk r fun q hq=>h q (by simp[hq])]
theorem Zvg {K W:Type} (eq:K->K->Bool) (k:K) (z v:W) (hk:eq k k=true) (l m:List (K×W)) (h:∀q∈l,eq k q.1=false):Z8 eq (l++(k,v) :: m) k z=v:=by
 rw[Zk8 eq k z _ l h]
 show(bif eq k k then _ else _)=_
 rw[hk];rfl
def tch (d:Zq) (n:Nat):List Int:=tl d (n:Int) 0 99
theorem ZoS {d:Zq} (g:Zn3 d) (n:Nat):ZhP d (n:Int) (tch d n):=Zzs g (n:Int)
theorem ZIM {d:Zq} (hs:Znk d) (hf:d.futures.length<=1000) (hc:Zid d=0) (n:Nat):Zem d (n:Int)=some (tch d n):=by
 obtain⟨r,h1,h2⟩:=ZA1 d hs hf hc (n:Int)
 rw[h1,h2.eq (ZoS (Zwc hc) n)]
abbrev nt (d:Zq) (n:Nat):Nat:=(tch d n).length
theorem ZDV {d:Zq} (g:Zel d) (n:Nat):nt d n<=16:=Nat.le_trans (Zx5 (ZoS g.g n)) g.fl
def cut (d:Zq) (n i:Nat):Int:=if i=0 then 0 else match (tch d n)[i-1]? with | some z=>Zf8 d.futures z | none=>Zgy d.parts (n:Int)
def Zk7 (d:Zq) (n k:Nat):List Int:=(List.range k).map fun i=>cut d n (i+1)-cut d n i
def ZaG (d:Zq):Nat->Nat
 | 0=>0
 | n+1=>ZaG d n+(nt d n+1)
theorem ZjL {d:Zq} (g:Zel d):∀n,ZaG d n<=17*n
 | 0=>Nat.le_refl _
 | n+1=>by have:=ZjL g n;have:=ZDV g n;show ZaG d n+(nt d n+1)<=_;omega
theorem ZlR {d:Zq}{n i:Nat} (g:Zn3 d) (hi:i<nt d n):∃f,Zz (tch d n) (i:Int)=some (tch d n)[i]/\Zz d.futures (tch d n)[i]=some f/\d.futures[((tch d n)[i]).toNat]? = some f/\f.user=(n:Int)/\f.pos=cut d n (i+1)/\f∈d.futures:=by
 obtain⟨j,f,h1,h2,h3⟩:=(ZoS g n).mem _ |>.1 (List.getElem_mem hi)
 refine⟨f,ZU (List.getElem?_eq_getElem hi),?_,?_,h2,?_,List.mem_of_getElem? h1⟩
 ·rw[h3];exact ZU h1
 ·rw[h3,Int.toNat_natCast];exact h1
 ·unfold cut
  rw[if_neg (by omega),Nat.add_sub_cancel,List.getElem?_eq_getElem hi]
  show _=Zf8 d.futures (tch d n)[i]
  unfold Zf8
  rw[h3,Int.toNat_natCast,h1]
theorem ZGn {d:Zq} (g:Zn3 d) (n i:Nat):0<=cut d n i/\cut d n i<=100:=by
 unfold cut
 split
 ·omega
 ·have wb:0<=Zgy d.parts (n:Int)/\Zgy d.parts (n:Int)<=100:=by
   refine⟨?_,ZnQ g _⟩
   unfold Zgy
   split
   ·rename_i p hp;have:=g.w p (List.mem_of_getElem? hp);omega
   ·omega
  split
  ·rename_i z hz
   obtain⟨j,f,h1,h2,h3⟩:=(ZoS g n).mem z |>.1 (List.mem_of_getElem? hz)
   have:=g.f f (List.mem_of_getElem? h1)
   have:=ZnQ g f.user
   unfold Zf8
   rw[h3,Int.toNat_natCast,h1]
   show 0<=f.pos/\f.pos<=100
   omega
  ·exact wb
theorem ZAq (d:Zq) (n:Nat):cut d n (nt d n+1)=Zgy d.parts (n:Int):=by
 unfold cut
 rw[if_neg (by omega),Nat.add_sub_cancel,List.getElem?_eq_none (Nat.le_refl _)]
theorem Zxq (d:Zq) (n k:Nat):Zk7 d n (k+1)=Zk7 d n k++[cut d n (k+1)-cut d n k]:=by unfold Zk7;rw[List.range_succ,List.map_append];rfl
theorem ZtS (d:Zq) (n k:Nat):(Zk7 d n k).length=k:=by unfold Zk7;simp
def ZoJ (d:Zq) (n:Nat):List Int:=Zk7 d n (nt d n+1)
theorem ZAs {d:Zq}{n:Nat} (hn:n<d.parts.length):∃x,Zz d.parts (n:Int)=some x/\x.work=Zgy d.parts (n:Int):=by
 refine⟨d.parts[n],ZU (List.getElem?_eq_getElem hn),?_⟩
 unfold Zgy
 rw[Int.toNat_natCast,List.getElem?_eq_getElem hn]
def Znx (d:Zq) (z:Int):Int:=(ZaG d z.toNat:Int)
def Zpa (d:Zq) (z:Int):Int:=(ZaG d (z.toNat+1):Int)-1
def ZBt (d:Zq) (f:Zj):Int:=ZkA (fun _ z=>Zf8 d.futures z==f.pos) (fun i _=>Znx d f.user+(i:Int)+1) (-1) 0 (tch d f.user.toNat)
def upto {β:Type} (B:Nat->List β) (k:Nat):List β:=(List.range k).flatMap B
theorem Zgr {β:Type} (B:Nat->List β) (k:Nat):upto B (k+1)=upto B k++B k:=by unfold upto;rw[List.range_succ,List.flatMap_append];simp
theorem Zv4 {γ β:Type} (l:List γ) (hl:l.length<=1000) (step:Int×List β->Option ((Int×List β)⊕List β)) (g:γ->β)
  (h1:∀(i:Nat) x s,i<l.length->l[i]? = some x->Nat.ble (s.length+1) lim=true->step ((i:Int),s)=some (.inl (((i+1:Nat):Int),s++[g x])))
  (h2:∀s,step ((l.length:Int),s)=some (.inr s)) (s:List β) (hs:s.length<=1000000):lp step (0,s)=some (s++l.map g):=by
 have key:=(ZgO l step (fun i s=>((i:Int),s)) (fun _ s x=>s++[g x]) id (fun i s=>s.length<=1000000+i) (fun i x s hi hx hI=>⟨h1 i x s hi hx (ZgB (by omega)),by rw[List.length_append];simp only[List.length_cons,List.length_nil];omega⟩) (fun s _=>h2 s) s (by omega)).1
 have e:∀(l:List γ) (i:Nat) (s:List β),Zc8 (fun _ s x=>s++[g x]) i s l=s++l.map g:=by
  intro l
  induction l with
  | nil=>intro i s;simp[Zc8]
  | cons x l ih=>intro i s;show Zc8 _ (i+1) (s++[g x]) l=_;rw[ih];simp
 rw[e] at key
 exact key
def ZiA (d:Zq) (n k:Nat):List Zs:=(List.range k).map fun j=>⟨((ZaG d n+j:Nat):Int),((ZaG d n+j+1:Nat):Int)⟩
theorem Zro (d:Zq) (n k:Nat):ZiA d n (k+1)=ZiA d n k++[⟨((ZaG d n+k:Nat):Int),((ZaG d n+k+1:Nat):Int)⟩]:=by unfold ZiA;rw[List.range_succ,List.map_append];rfl
theorem Ztq (d:Zq) (n k:Nat):(ZiA d n k).length=k:=by unfold ZiA;simp
def Zge (n k:Nat):List Zg:=(List.range k).map fun j:Nat=>⟨(n:Int),(j:Int)⟩
theorem ZvW (n k:Nat):Zge n (k+1)=Zge n k++[⟨(n:Int),(k:Int)⟩]:=by unfold Zge;rw[List.range_succ,List.map_append];rfl
theorem Zrf (n k:Nat):(Zge n k).length=k:=by unfold Zge;simp
def ZiW (d:Zq) (k:Nat):List Int:=upto (ZoJ d) k
def Ziv (d:Zq) (k:Nat):List Zs:=upto (fun n=>ZiA d n (nt d n)) k
def ZdL (d:Zq) (k:Nat):List Zg:=upto (fun n=>Zge n (nt d n+1)) k
theorem ZlU (d:Zq):∀k,(ZiW d k).length=ZaG d k
 | 0=>rfl
 | k+1=>by unfold ZiW;rw[Zgr,List.length_append];unfold ZoJ;rw[ZtS];show(ZiW d k).length+_=ZaG d k+_;rw[ZlU d k]
theorem ZhS (d:Zq):∀k,(ZdL d k).length=ZaG d k
 | 0=>rfl
 | k+1=>by unfold ZdL;rw[Zgr,List.length_append,Zrf];show(ZdL d k).length+_=ZaG d k+_;rw[ZhS d k]
theorem ZoW (d:Zq):∀k,(Ziv d k).length<=ZaG d k
 | 0=>Nat.le_refl _
 | k+1=>by unfold Ziv;rw[Zgr,List.length_append,Ztq];have:=ZoW d k;unfold Ziv at this;show _<=ZaG d k+(nt d k+1);omega
def ZtJ (d:Zq):List Zs:=d.edges.map fun e=>⟨Zpa d e.src,Znx d e.dst⟩
def Zwa (d:Zq):List Zs:=d.futures.map fun f=>⟨Zpa d f.maker,ZBt d f⟩
def ZDc (d:Zq) (at_:Int) (b:Zu):List Zs:=b.ins.map (fun q=>⟨Zpa d q,at_⟩)++b.outs.map (fun q=>⟨at_,Znx d q⟩)
def ZtP (d:Zq) (i:Nat):Int:=((ZaG d d.parts.length+i:Nat):Int)
def ZhA (d:Zq) (k:Nat):List Zs:=upto (fun i=>match d.barriers[i]? with | some b=>ZDc d (ZtP d i) b | none=>[]) k
def Zg6 (k:Nat):List Zg:=(List.range k).map fun i:Nat=>⟨-1,(i:Int)⟩
theorem Zxp (k:Nat):(Zg6 k).length=k:=by unfold Zg6;simp
theorem Zwq (k:Nat):Zg6 (k+1)=Zg6 k++[⟨-1,(k:Int)⟩]:=by unfold Zg6;rw[List.range_succ,List.map_append];rfl
def Zld (d:Zq):List Int:=ZiW d d.parts.length++List.replicate d.barriers.length 1
def ZqF (d:Zq):List Zs:=Ziv d d.parts.length++ZtJ d++Zwa d
def ZyL (d:Zq):List Zs:=ZqF d++ZhA d d.barriers.length
def Zyy (d:Zq):List Zg:=ZdL d d.parts.length++Zg6 d.barriers.length
def Zgx (d:Zq):ZyO:=⟨⟨Zld d,ZyL d⟩,Zyy d⟩
theorem Zsr {d:Zq} (g:Zel d):(ZqF d).length<=1000:=by
 unfold ZqF ZtJ Zwa
 have h1:=ZoW d d.parts.length
 have h2:=ZjL g d.parts.length
 have h3:=g.pl
 have h4:=g.el
 have h5:=g.fl
 simp only[List.length_append,List.length_map]
 omega
theorem ZDj {d:Zq} (hz:ZjT d) {b:Zu} (hb:b∈d.barriers) (z:Int):(ZDc d z b).length<=40:=by
 have:=hz.i b hb
 unfold ZDc
 simp only[List.length_append,List.length_map]
 omega
theorem ZoK {d:Zq} (hz:ZjT d):∀k,(ZhA d k).length<=40*k
 | 0=>Nat.le_refl _
 | k+1=>by
  have ih:=ZoK hz k
  unfold ZhA at ih ⊢
  rw[Zgr,List.length_append]
  split
  ·rename_i b hb
   have:=ZDj hz (List.mem_of_getElem? hb) (ZtP d k)
   omega
  ·simp only[List.length_nil];omega
theorem Zit (b:Zg) (c:Int) {W:List Int}{P:List Zg} (h1:W.length<=10000) (h2:P.length<=10000):Zau b c W P=some ():=by
 unfold Zau
 rw[ZgB (by omega),ZgB (by omega)];rfl
theorem Zl4 (b c:Int) {E:List Zs} (h1:E.length<=10000):ZM b c E=some ():=by
 unfold ZM
 rw[ZgB (by omega)];rfl
theorem ZwX {β:Type} (P:List β) (x:β) (hP:P.length<=10000):w64 ((List.length (P++[x]):Int)-1)=(P.length:Int):=by
 rw[List.length_append]
 simp only[List.length_cons,List.length_nil]
 rw[Zac (by omega) (by omega)]
 omega
theorem ZBz {d:Zq} (g:Zel d) {n:Nat} (hn:n<d.parts.length) (hc:Zem d (n:Int)=some (tch d n)) {W:List Int}{E:List Zs}{P:List Zg} (M5:List (Int×Int)) (M6:List (Zj×Int)) (hW:W.length<=1000) (hE:E.length<=1000) (hP:P.length<=1000) :
  ZfH d (n:Int) W E P M5 M6=(lp (ZF d (n:Int) (tch d n)) (0,0,M5,M6,W,E,P)).bind fun r=>some (bif decide (0<nt d n) then .inl r else .inr (.inl r.2.2.1)):=by
 obtain⟨x,x1,x2⟩:=ZAs hn
 have hnt:=ZDV g n
 have hnl:(tch d n).length=nt d n:=rfl
 have e1:w64 (((tch d n).length:Int)+1)=(((tch d n).length+1:Nat):Int):=by rw[Zac (by omega) (by omega)];omega
 have w1:w64 ((0:Int)+1)=1:=Zac (by omega) (by omega)
 have w2:w64 ((1:Int)+1)=2:=Zac (by omega) (by omega)
 have w0:w64 ((1:Int)-1)=0:=Zac (by omega) (by omega)
 have lW:∀a:Int,(W++[a]).length<=10000:=fun a=>by rw[List.length_append];simp only[List.length_cons,List.length_nil];omega
 have lP:∀a:Zg,(P++[a]).length<=10000:=fun a=>by rw[List.length_append];simp only[List.length_cons,List.length_nil];omega
 unfold ZfH
 rw[hc,Option.bind_some,Zaj (Zcu d (n:Int) W E P M5 M6 (tch d n)),Zaj (ZF d (n:Int) (tch d n))]
 by_cases h0:0<nt d n
 ·obtain⟨f,f1,f2,_⟩:=ZlR g.g h0
  have c0:decide ((0:Int)<(((tch d n).length+1:Nat):Int))=true:=decide_eq_true (by omega)
  have c1:decide ((0:Int)<((tch d n).length:Int))=true:=decide_eq_true (by omega)
  have c2:decide ((1:Int)<(((tch d n).length+1:Nat):Int))=true:=decide_eq_true (by omega)
  have f1':Zz (tch d n) 0=some (tch d n)[0]:=f1
  simp only[Zcu,ZF,e1,c0,c1,cond_true,x1,Option.bind_some,f1',f2,Zit _ _ (show W.length<=10000 by omega) (show P.length<=10000 by omega),w1,decide_eq_false (show ¬(0:Int)<0 by omega),cond_false,decide_eq_true h0]
  rw[Zaj (Zcr d (n:Int) W E P M5 M6 (tch d n) f),Zaj (ZF d (n:Int) (tch d n))]
  by_cases h1:1<nt d n
  ·obtain⟨f',f1b,f2b,_⟩:=ZlR g.g h1
   have f1b':Zz (tch d n) 1=some (tch d n)[1]:=f1b
   have c3:decide ((1:Int)<((tch d n).length:Int))=true:=decide_eq_true (by omega)
   simp only[Zcr,ZF,e1,c2,c3,cond_true,x1,Option.bind_some,f1',f2,f1b',f2b,Zit _ _ (lW _) (lP _),Zl4 _ _ (show E.length<=10000 by omega),w2,w0,decide_eq_true (show(0:Int)<1 by omega)]
   generalize lp (ZF d (n:Int) (tch d n)) _=r
   cases r<;>rfl
  ·have c3:decide ((1:Int)<((tch d n).length:Int))=false:=decide_eq_false (by omega)
   simp only[Zcr,ZF,e1,c2,c3,cond_true,cond_false,x1,Option.bind_some,f1',f2,Zit _ _ (lW _) (lP _),Zl4 _ _ (show E.length<=10000 by omega),w2,w0,decide_eq_true (show(0:Int)<1 by omega)]
   generalize lp (ZF d (n:Int) (tch d n)) _=r
   cases r<;>rfl
 ·have c0:decide ((0:Int)<(((tch d n).length+1:Nat):Int))=true:=decide_eq_true (by omega)
  have c1:decide ((0:Int)<((tch d n).length:Int))=false:=decide_eq_false (by omega)
  have c2:decide ((1:Int)<(((tch d n).length+1:Nat):Int))=false:=decide_eq_false (by omega)
  simp only[Zcu,ZF,e1,c0,c1,cond_true,x1,Option.bind_some,Zit _ _ (show W.length<=10000 by omega) (show P.length<=10000 by omega),w1,decide_eq_false (show ¬(0:Int)<0 by omega),cond_false,decide_eq_false h0]
  rw[Zaj (Zdc d (n:Int) W E P M5 M6 (tch d n) x),Zaj (ZF d (n:Int) (tch d n))]
  simp only[Zdc,ZF,e1,c2,cond_false,Option.bind_some]
abbrev eqF:Zj->Zj->Bool:=fun ka kb:Zj=>((ka.maker==kb.maker)&&((ka.user==kb.user)&&((ka.pos==kb.pos)&&true)))
def ZkY (M:List (Int×Int)) (n F i:Nat):List (Int×Int):=if i=0 then M else M++[((n:Int),((F+i-1:Nat):Int))]
theorem Zym {M:List (Int×Int)}{n F:Nat} (h:∀q∈M,q.1≠(n:Int)) (i:Nat):Zx (fun ka kb:Int=>(ka==kb)) (ZkY M n F i) (n:Int) ((F+i:Nat):Int)=ZkY M n F (i+1):=by
 have hq:∀q∈M,eqI (n:Int) q.1=false:=fun q hq=>by
  show((n:Int)==q.1)=false
  exact beq_false_of_ne (Ne.symm (h q hq))
 unfold ZkY
 rw[if_neg (show i+1≠0 by omega)]
 by_cases h0:i=0
 ·subst h0
  rw[if_pos rfl]
  exact Zkk eqI (n:Int) _ M hq
 ·rw[if_neg h0]
  exact Zrp eqI (n:Int) _ _ (by simp) M hq
theorem Zxl {M:List (Int×Int)}{n F:Nat} (h:∀q∈M,q.1≠(n:Int)) (i:Nat):Z8 (fun ka kb:Int=>(ka==kb)) (ZkY M n F (i+1)) (n:Int) 0=((F+i:Nat):Int):=by
 unfold ZkY
 rw[if_neg (show i+1≠0 by omega)]
 exact Zvg eqI (n:Int) 0 _ (by simp) M [] (fun q hq=>by
  show((n:Int)==q.1)=false
  exact beq_false_of_ne (Ne.symm (h q hq)))
def Zhu (d:Zq) (n j:Nat):Zj:=match (tch d n)[j]? with | some z=>(match d.futures[z.toNat]? with | some f=>f | none=>⟨0,0,0⟩) | none=>⟨0,0,0⟩
theorem ZeS {d:Zq}{n i:Nat} (g:Zn3 d) (hi:i<nt d n):Zz (tch d n) (i:Int)=some (tch d n)[i]/\Zz d.futures (tch d n)[i]=some (Zhu d n i)/\(Zhu d n i).user=(n:Int)/\(Zhu d n i).pos=cut d n (i+1)/\Zhu d n i∈d.futures:=by
 obtain⟨f,h1,h2,h3,h4,h5,h6⟩:=ZlR g hi
 have e:Zhu d n i=f:=by
  unfold Zhu
  rw[List.getElem?_eq_getElem hi]
  show(match d.futures[((tch d n)[i]).toNat]? with | some f=>f | none=>⟨0,0,0⟩)=f
  rw[h3]
 rw[e]
 exact⟨h1,h2,h4,h5,h6⟩
theorem Zpw {d:Zq} (g:Zn3 d) {n i j:Nat} (hij:i<j) (hj:j<nt d n):(Zhu d n i).pos<(Zhu d n j).pos:=by
 obtain⟨_,_,h3,_,_,h5,_⟩:=ZlR g (show i<nt d n by omega)
 obtain⟨_,_,k3,_,_,k5,_⟩:=ZlR g hj
 rw[(ZeS g (show i<nt d n by omega)).2.2.2.1,(ZeS g hj).2.2.2.1]
 have:=List.pairwise_iff_getElem.1 (ZoS g n).rise i j (show i<nt d n by omega) hj hij
 have e:∀k (hk:k<nt d n),cut d n (k+1)=Zf8 d.futures (tch d n)[k]:=fun k hk=>by
  unfold cut
  rw[if_neg (by omega),Nat.add_sub_cancel,List.getElem?_eq_getElem hk]
 rw[e i (by omega),e j hj]
 exact this
def Zhj (d:Zq) (n k:Nat):List (Zj×Int):=(List.range k).map fun j:Nat=>(Zhu d n j,((ZaG d n+j+1:Nat):Int))
theorem Zxb (d:Zq) (n k:Nat):Zhj d n (k+1)=Zhj d n k++[(Zhu d n k,((ZaG d n+k+1:Nat):Int))]:=by unfold Zhj;rw[List.range_succ,List.map_append];rfl
theorem Zwx {a b:Zj} (h:a.user≠b.user∨a.pos≠b.pos):eqF a b=false:=by
 show((a.maker==b.maker)&&((a.user==b.user)&&((a.pos==b.pos)&&true)))=false
 rcases h with h | h
 ·rw[beq_false_of_ne h];simp
 ·rw[beq_false_of_ne h];simp
theorem Zs4 {d:Zq} (g:Zn3 d) {n k:Nat} (hk:k<nt d n) {M:List (Zj×Int)} (h:∀q∈M,q.1.user≠(n:Int)) :
  Zx (fun ka kb:Zj=>((ka.maker==kb.maker)&&((ka.user==kb.user)&&((ka.pos==kb.pos)&&true)))) (M++Zhj d n k) (Zhu d n k) ((ZaG d n+(k+1):Nat):Int)=M++Zhj d n (k+1):=by
 rw[Zxb,<- List.append_assoc]
 refine Zkk eqF _ _ _ fun q hq=>?_
 have hu:=(ZeS g hk).2.2.1
 rcases List.mem_append.1 hq with hq | hq
 ·exact Zwx (.inl (by rw[hu];exact Ne.symm (h q hq)))
 ·unfold Zhj at hq
  obtain⟨j,hj,rfl⟩:=List.mem_map.1 hq
  rw[List.mem_range] at hj
  have:=Zpw g hj hk
  exact Zwx (.inr (by show(Zhu d n k).pos≠(Zhu d n j).pos;omega))
theorem Zzv {d:Zq} (g:Zel d) {n:Nat} (hn:n<d.parts.length) {W:List Int}{E:List Zs}{P:List Zg}{M5:List (Int×Int)}{M6:List (Zj×Int)} (hW:W.length<=1000) (hE:E.length<=1000) (hP:P.length=ZaG d n)
  (h5:∀q∈M5,q.1≠(n:Int)) (h6:∀q∈M6,q.1.user≠(n:Int)) :
  lp (ZF d (n:Int) (tch d n)) (0,0,M5,M6,W,E,P)=some (M5++[((n:Int),((ZaG d n+nt d n:Nat):Int))],M6++Zhj d n (nt d n),W++ZoJ d n,E++ZiA d n (nt d n),P++Zge n (nt d n+1)):=by
 obtain⟨x,x1,x2⟩:=ZAs hn
 have hnt:=ZDV g n
 have hnl:(tch d n).length=nt d n:=rfl
 have hF:=ZjL g n
 have hpl:=g.pl
 have e1:w64 (((tch d n).length:Int)+1)=((nt d n+1:Nat):Int):=by show w64 ((nt d n:Int)+1)=_;rw[Zac (by omega) (by omega)];omega
 have key:∀(k i:Nat),i+k=nt d n+1->lp (ZF d (n:Int) (tch d n)) (cut d n i,(i:Int),ZkY M5 n (ZaG d n) i,M6++Zhj d n (i-1),W++Zk7 d n i,E++ZiA d n (i-1),P++Zge n i) =
   some (ZkY M5 n (ZaG d n) (nt d n+1),M6++Zhj d n (nt d n),W++ZoJ d n,E++ZiA d n (nt d n),P++Zge n (nt d n+1)):=by
  intro k
  induction k with
  | zero=>
   intro i hi
   have:i=nt d n+1:=by omega
   subst this
   rw[Zaj]
   simp only[ZF,e1,Zdn,cond_false]
   rfl
  | succ k ih=>
   intro i hi
   have hi':i<nt d n+1:=by omega
   have b0:=ZGn g.g n i
   have b1:=ZGn g.g n (i+1)
   have lP:(P++Zge n i).length=ZaG d n+i:=by rw[List.length_append,Zrf,hP]
   have l2:(W++Zk7 d n i).length<=10000:=by rw[List.length_append,ZtS];omega
   have l3:(E++ZiA d n (i-1)).length<=10000:=by rw[List.length_append,Ztq];omega
   have lput:=ZwX (P++Zge n i) (Zg.mk (n:Int) (i:Int)) (by rw[lP];omega)
   rw[lP] at lput
   have p5:=Zym (F:=ZaG d n) h5 i
   have g5:=Zxl (F:=ZaG d n) h5 i
   have w5:w64 (cut d n (i+1)-cut d n i)=cut d n (i+1)-cut d n i:=Zac (by omega) (by omega)
   have ih':=ih (i+1) (by omega)
   rw[Zxq,ZvW,<- List.append_assoc,<- List.append_assoc] at ih'
   rw[Zaj]
   have fin:i=nt d n->cut d n (i+1)=x.work:=fun h=>by rw[h,ZAq,x2]
   have node:=fun c=>Zit (Zg.mk (n:Int) (i:Int)) c l2 (show(P++Zge n i).length<=10000 by rw[lP];omega)
   by_cases hlast:i<nt d n
   ·obtain⟨q1,q2,q3,q4,_⟩:=ZeS g.g hlast
    cases i with
    | zero=>
     simp only[ZF,e1,ZcG hi',cond_true,x1,Option.bind_some,ZcG (show 0<(tch d n).length from hlast),q1,q2,q4,node,decide_eq_false (show ¬(0:Int)<((0:Nat):Int) by omega),cond_false,lput,p5,w5,ZJ hi' (show nt d n+1<9223372036854775808 by omega)]
     exact ih'
    | succ j=>
     obtain⟨r1,r2,r3,r4,_⟩:=ZeS g.g (show j<nt d n by omega)
     have e2:w64 (((j+1:Nat):Int)-1)=(j:Int):=by rw[Zac (by omega) (by omega)];omega
     have e3:w64 (((ZaG d n+(j+1):Nat):Int)-1)=((ZaG d n+j:Nat):Int):=by rw[Zac (by omega) (by omega)];omega
     have p6:=Zs4 g.g (show j<nt d n by omega) h6
     rw[Nat.add_sub_cancel] at l3 ih' ⊢
     rw[Zro,<- List.append_assoc] at ih'
     simp only[ZF,e1,ZcG hi',cond_true,x1,Option.bind_some,ZcG (show j+1<(tch d n).length from hlast),q1,q2,q4,node,decide_eq_true (show(0:Int)<((j+1:Nat):Int) by omega),lput,p5,g5,w5,e2,e3,r1,r2,Zl4 _ _ l3,p6,ZJ hi' (show nt d n+1<9223372036854775808 by omega)]
     exact ih'
   ·have hin:i=nt d n:=by omega
    have hfin:=fin hin
    rw[hfin] at w5 ih'
    have c3:decide ((i:Int)<((tch d n).length:Int))=false:=decide_eq_false (by have:((tch d n).length:Int)=(nt d n:Int):=rfl;omega)
    cases i with
    | zero=>
     simp only[ZF,e1,ZcG hi',cond_true,x1,Option.bind_some,c3,node,decide_eq_false (show ¬(0:Int)<((0:Nat):Int) by omega),cond_false,lput,p5,w5,ZJ hi' (show nt d n+1<9223372036854775808 by omega)]
     exact ih'
    | succ j=>
     obtain⟨r1,r2,r3,r4,_⟩:=ZeS g.g (show j<nt d n by omega)
     have e2:w64 (((j+1:Nat):Int)-1)=(j:Int):=by rw[Zac (by omega) (by omega)];omega
     have e3:w64 (((ZaG d n+(j+1):Nat):Int)-1)=((ZaG d n+j:Nat):Int):=by rw[Zac (by omega) (by omega)];omega
     have p6:=Zs4 g.g (show j<nt d n by omega) h6
     rw[Nat.add_sub_cancel] at l3 ih' ⊢
     rw[Zro,<- List.append_assoc] at ih'
     simp only[ZF,e1,ZcG hi',cond_true,cond_false,x1,Option.bind_some,c3,node,decide_eq_true (show(0:Int)<((j+1:Nat):Int) by omega),lput,p5,g5,w5,e2,e3,r1,r2,Zl4 _ _ l3,p6,ZJ hi' (show nt d n+1<9223372036854775808 by omega)]
     exact ih'
 have:=key (nt d n+1) 0 (by omega)
 simpa [ZkY,Zhj,Zk7,ZiA,Zge,cut] using this
def Zo3 (g:Zbh) (a:Int) (T:List Bool):Prop:=∀e∈g.edges,(e.src=a∨bAt T e.src=true)->bAt T e.dst=true
end Go.Proofs.YtmnglncebfabpaaGreatDoor
