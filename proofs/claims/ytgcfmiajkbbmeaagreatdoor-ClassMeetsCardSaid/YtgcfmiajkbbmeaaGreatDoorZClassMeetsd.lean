/- ClassMeets: part 4 of 6 of the proof. -/
import Derived.Test.YtgcfmiajkbbmeaaGreatDoorZClassMeetsc
import Derived.KernelRfl
import Derived.Sort.AssemblyPlain
set_option maxRecDepth 100000
set_option maxHeartbeats 40000000
set_option linter.unusedVariables false
set_option linter.unusedSimpArgs false
namespace Go.Proofs.YtgcfmiajkbbmeaaGreatDoor
open Go Go.Proofs.YtgcfmiajkbbmeaaGreatDoorE
open Go.IntKind (u64 i64 u32 i32 u8)
noncomputable section
structure Zd6 where
 total:Int
 long:Int
 most:Int
 deadline:Int
 period:Int
 deriving DecidableEq
structure ZF where
 work:(List Int)
 edges:(List Zi)
 deriving DecidableEq
structure Ze where
 part:Int
 step:Int
 deriving DecidableEq
abbrev Zby (x:Ze):D:=(D.agg [(Zh x.part),(Zh x.step)])
structure ZvT where
 dag:ZF
 pieces:(List Ze)
 deriving DecidableEq
structure Zyw where
 shape:Zd6
 deriving DecidableEq
structure Zhn where
 cores:Int
 e:Int
 deriving DecidableEq
structure Zza where
 shape:Zd6
 deriving DecidableEq
structure Zbt where
 on:(List Int)
 left:(List Int)
 deriving DecidableEq
structure Zbv where
 a0:Int
 a1:Int
 deriving DecidableEq
abbrev Zii (x:Zbv):D:=(D.agg [(Zh x.a0),(Zh x.a1)])
structure Zn where
 ring:(List Int)
 top:Int
 bottom:Int
 deriving DecidableEq
abbrev Zbn (x:Zn):D:=(D.agg [(D.list true (List.map Zh x.ring)),(Zh x.top),(Zh x.bottom)])
structure ZA where
 steal:Bool
 at_:Int
 top:Int
 bottom:Int
 got:Int
 end_:Int
 deriving DecidableEq
abbrev ZbH (x:ZA):D:=(D.agg [(D.bool x.steal),(Zh x.at_),(Zh x.top),(Zh x.bottom),(Zh x.got),(Zh x.end_)])
def ZwV:ByteArray:=⟨#[0,1,2,2,3,3,3,3,4,4,4,4,4,4,4,4,5,5,5,5,5,5,5,5,5,5,5,5,5,5,5,5,6,6,6,6,6,6,6,6,6,6,6,6,6,6,6,6,6,6,6,6,6,6,6,6,6,6,6,6,6,6,6,6,7,7,7,7,7,7,7,7,7,7,7,7,7,7,7,7,7,7,7,7,7,7,7,7,7,7,7,7,7,7,7,7,7,7,7,7,7,7,7,7,7,7,7,7,7,7,7,7,7,7,7,7,7,7,7,7,7,7,7,7,7,7,7,7,8,8,8,8,8,8,8,8,8,8,8,8,8,8,8,8,8,8,8,8,8,8,8,8,8,8,8,8,8,8,8,8,8,8,8,8,8,8,8,8,8,8,8,8,8,8,8,8,8,8,8,8,8,8,8,8,8,8,8,8,8,8,8,8,8,8,8,8,8,8,8,8,8,8,8,8,8,8,8,8,8,8,8,8,8,8,8,8,8,8,8,8,8,8,8,8,8,8,8,8,8,8,8,8,8,8,8,8,8,8,8,8,8,8,8,8,8,8,8,8,8,8,8,8,8,8,8,8]⟩
abbrev dA (t0 t1 t2 t3:Bool) (a:Zq):List D:=[(Zh a.period),(Zh a.deadline),(D.list t0 (List.map ZjJ a.parts)),(D.list t1 (List.map Z4 a.edges)),(D.list t2 (List.map ZT a.futures)),(D.list t3 (List.map ZcY a.barriers))]
abbrev dV (t0 t1 t2 t3:Bool) (a:Zq):List V:=[(.d (Zh a.period)),(.d (Zh a.deadline)),(.d (D.list t0 (List.map ZjJ a.parts))),(.d (D.list t1 (List.map Z4 a.edges))),(.d (D.list t2 (List.map ZT a.futures))),(.d (D.list t3 (List.map ZcY a.barriers)))]
def Zfh:Option Bool:=some true
def ZgM (a:Zq) (s0:Int):Option (Int⊕(Unit⊕Unit)):=
 bif (decide (s0<(a.barriers.length:Int))) then
  bif (decide (s0<9)) then
   (Zy a.barriers s0).bind fun x1=>
   bif (decide (20<(x1.ins.length:Int))) then
    some (.inr (.inl ()))
   else
    bif (decide (20<(x1.outs.length:Int))) then
     some (.inr (.inl ()))
    else
     some (.inl (w64 (s0+1)))
  else
   some (.inr (.inr ()))
 else
  some (.inr (.inr ()))
def Zkp (a:Zq):Option Bool:=
 (lp (ZgM a) 0).bind fun r2=>
 match r2 with
 | (.inl r2)=>
  some false
 | (.inr r2)=>
  bif (decide ((a.parts.length:Int)<=20)) then
   bif (decide ((a.edges.length:Int)<=60)) then
    bif (decide ((a.futures.length:Int)<=20)) then
     bif (decide ((a.barriers.length:Int)<=8)) then
      some true
     else
      some false
    else
     some false
   else
    some false
  else
   some false
def Zfy (a:Zq) (s0:Int×(List Zr)):Option ((Int×(List Zr))⊕(List Zr)):=
 bif (decide (s0.1<(a.barriers.length:Int))) then
  (Zy a.barriers s0.1).bind fun x1=>
  bif (Nat.ble (List.length x1.ins) lim) then
   bif (Nat.ble (List.length x1.outs) lim) then
    bif (Nat.ble (List.length s0.2+1) lim) then
     some (.inl ((w64 (s0.1+1)),(s0.2++[x1])))
    else
     none
   else
    none
  else
   none
 else
  some (.inr s0.2)
def ZiP (a:Zq):Option (List Zr):=
 bif (Nat.ble (List.length a.parts) lim) then
  bif (Nat.ble (List.length a.edges) lim) then
   bif (Nat.ble (List.length a.futures) lim) then
    (lp (Zfy a) (0,([]:List Zr))).bind fun r2=>
    some r2
   else
    none
  else
   none
 else
  none
def ZbO (a:Int) (b:Int) (c:Int):Option Bool:=
 bif (decide (b<=a)) then
  bif (decide (a<=c)) then
   some true
  else
   some false
 else
  some false
def ZgP (a:Int):Option Int:=
 bif (decide (a<0)) then
  some 10
 else
  bif (decide (1099511627775<a)) then
   some 11
  else
   some 0
abbrev oc0 (a:Int):Int:=(u64.wrap (Zo a &&& Zo 6148914691236517205).toNat)
abbrev oc1 (a:Int):Int:=(u64.wrap (Zo (Int.fdiv a (2 ^ 1)) &&& Zo 6148914691236517205).toNat)
abbrev oc2 (a:Int):Int:=(u64.wrap ((oc1 a)+(oc0 a)))
abbrev oc3 (a:Int):Int:=(Int.fdiv (oc2 a) (2 ^ 2))
abbrev oc4 (a:Int):Int:=(u64.wrap (Zo (oc3 a) &&& Zo 3689348814741910323).toNat)
abbrev oc5 (a:Int):Int:=(u64.wrap (Zo (oc2 a) &&& Zo 3689348814741910323).toNat)
abbrev oc6 (a:Int):Int:=(u64.wrap ((oc4 a)+(oc5 a)))
abbrev oc7 (a:Int):Int:=(Int.fdiv (oc6 a) (2 ^ 4))
abbrev oc8 (a:Int):Int:=(u64.wrap ((oc7 a)+(oc6 a)))
abbrev oc9 (a:Int):Int:=(u64.wrap (Zo (oc8 a) &&& Zo 1085102592571150095).toNat)
abbrev ZLt (a:Int):Int:=(Int.fdiv (oc9 a) (2 ^ 8))
abbrev ZJZ (a:Int):Int:=(u64.wrap ((oc9 a)+(ZLt a)))
abbrev ZLg (a:Int):Int:=(Int.fdiv (ZJZ a) (2 ^ 16))
abbrev ZJA (a:Int):Int:=(u64.wrap ((ZJZ a)+(ZLg a)))
def Zda (a:Int):Option Int:=
 some (i64.wrap (ZGZ (w64 (u64.wrap ((ZJA a)+(Int.fdiv (ZJA a) (2 ^ 32))))) &&& ZGZ 127).toNat)
def Zeg (a:Int):Option Int:=
 (Zda a).bind fun x0=>
 some x0
def ZwJ:List Int:=[0,1,56,2,57,49,28,3,61,58,42,50,38,29,17,4,62,47,59,36,45,43,51,22,53,39,33,30,24,18,12,5,63,55,48,27,60,41,37,16,46,35,44,21,52,32,23,11,54,26,40,15,34,20,31,10,25,14,19,9,13,8,7,6]
def Zdu (a:Int):Option Int:=some (bif a==0 then 64 else w64 (ZwJ.getD (Int.fdiv (u64.wrap ((u64.wrap (Zo a &&& Zo (u64.wrap (0-a))).toNat)*285870213051353865)) (2 ^ (min (Int.toNat 58) u64.bits))).toNat 0))
def ZeA (a:Int):Option Int:=
 (Zdu a).bind fun x0=>
 some x0
def ZhJ (a:Int):Option (Int×Bool):=
 (ZgP a).bind fun x0=>
 bif (x0 != 0) then
  some (0,false)
 else
  (Zeg (u64.wrap a)).bind fun x1=>
  bif (x1 != 1) then
   some (0,false)
  else
   (ZeA (u64.wrap a)).bind fun x2=>
   some (x2,true)
def ZgU (a:ZU):Option Bool:=
 (ZbO a.op 0 5).bind fun x0=>
 bif x0 then
  (ZbO a.arg 0 2147483647).bind fun x1=>
  bif x1 then
   (ZbO a.work 1 100).bind fun x2=>
   bif x2 then
    some false
   else
    some true
  else
   some true
 else
  some true
def Zbq (a:List ZU) (b:(ZU->Option Bool)) (s0:Int):Option (Int⊕(Int⊕Unit)):=
 bif (decide (s0<(a.length:Int))) then
  (Zy a s0).bind fun x1=>
  (b x1).bind fun x2=>
  bif x2 then
   some (.inr (.inl s0))
  else
   some (.inl (w64 (s0+1)))
 else
  some (.inr (.inr ()))
def ZcF (a:List ZU) (b:(ZU->Option Bool)):Option Int:=
 (lp (Zbq a b) 0).bind fun r3=>
 match r3 with
 | (.inl r3)=>
  some r3
 | (.inr r3)=>
  some (-1)
def Zbr (a:List ZU) (b:(ZU->Option Bool)):Option Bool:=
 (ZcF a b).bind fun x0=>
 bif (decide (0<=x0)) then
  some true
 else
  some false
def ZjR (a:Zq) (b:Int) (c:Int):Option Bool:=
 bif (b != c) then
  (ZbO b 0 (w64 ((a.parts.length:Int)-1))).bind fun x0=>
  bif x0 then
   (ZbO c 0 (w64 ((a.parts.length:Int)-1))).bind fun x1=>
   bif x1 then
    some true
   else
    some false
  else
   some false
 else
  some false
def Zb0 (a:List Zi) (b:Zi) (s0:Int):Option (Int⊕(Int⊕Unit)):=
 bif (decide (s0<(a.length:Int))) then
  (Zy a s0).bind fun x1=>
  bif ((b.src==x1.src)&&((b.dst==x1.dst)&&true)) then
   some (.inr (.inl s0))
  else
   some (.inl (w64 (s0+1)))
 else
  some (.inr (.inr ()))
def ZdU (a:List Zi) (b:Zi):Option Int:=
 (lp (Zb0 a b) 0).bind fun r2=>
 match r2 with
 | (.inl r2)=>
  some r2
 | (.inr r2)=>
  some (-1)
def Zbe (a:List Zi) (b:Zi):Option Bool:=
 (ZdU a b).bind fun x0=>
 bif (decide (0<=x0)) then
  some true
 else
  some false
def Zec (a:Zg) (b1:Int) (b2:Int):Option Bool:=
 bif (a.user==b1) then
  bif (a.pos==b2) then
   some true
  else
   some false
 else
  some false
def ZaW (a:List Zg) (b:(Zg->Option Bool)) (s0:Int):Option (Int⊕(Int⊕Unit)):=
 bif (decide (s0<(a.length:Int))) then
  (Zy a s0).bind fun x1=>
  (b x1).bind fun x2=>
  bif x2 then
   some (.inr (.inl s0))
  else
   some (.inl (w64 (s0+1)))
 else
  some (.inr (.inr ()))
def Zcg (a:List Zg) (b:(Zg->Option Bool)):Option Int:=
 (lp (ZaW a b) 0).bind fun r3=>
 match r3 with
 | (.inl r3)=>
  some r3
 | (.inr r3)=>
  some (-1)
def ZaX (a:List Zg) (b:(Zg->Option Bool)):Option Bool:=
 (Zcg a b).bind fun x0=>
 bif (decide (0<=x0)) then
  some true
 else
  some false
def Zhq (a:Zq) (b:List Int) (s0:Int):Option (Int⊕(Unit⊕Unit)):=
 bif (decide (s0<(b.length:Int))) then
  (Zy b s0).bind fun x1=>
  (ZbO x1 0 (w64 ((a.parts.length:Int)-1))).bind fun x2=>
  bif x2 then
   bif (decide (0<s0)) then
    (Zy b (w64 (s0-1))).bind fun x3=>
    bif (decide (x1<=x3)) then
     some (.inr (.inl ()))
    else
     some (.inl (w64 (s0+1)))
   else
    some (.inl (w64 (s0+1)))
  else
   some (.inr (.inl ()))
 else
  some (.inr (.inr ()))
def ZjS (a:Zq) (b:List Int):Option Bool:=
 (lp (Zhq a b) 0).bind fun r4=>
 match r4 with
 | (.inl r4)=>
  some false
 | (.inr r4)=>
  bif (decide (0<(b.length:Int))) then
   some true
  else
   some false
def Zcm (a:List Int) (b:Int) (s0:Int):Option (Int⊕(Int⊕Unit)):=
 bif (decide (s0<(a.length:Int))) then
  (Zy a s0).bind fun x1=>
  bif (b==x1) then
   some (.inr (.inl s0))
  else
   some (.inl (w64 (s0+1)))
 else
  some (.inr (.inr ()))
def Zfg (a:List Int) (b:Int):Option Int:=
 (lp (Zcm a b) 0).bind fun r2=>
 match r2 with
 | (.inl r2)=>
  some r2
 | (.inr r2)=>
  some (-1)
def Z1 (a:List Int) (b:Int):Option Bool:=
 (Zfg a b).bind fun x0=>
 bif (decide (0<=x0)) then
  some true
 else
  some false
def Zef (a:Int) (b1:List Int):Option Bool:=
 (Z1 b1 a).bind fun x0=>
 bif x0 then
  some true
 else
  some false
def Zx (a:List Int) (b:(Int->Option Bool)) (s0:Int):Option (Int⊕(Int⊕Unit)):=
 bif (decide (s0<(a.length:Int))) then
  (Zy a s0).bind fun x1=>
  (b x1).bind fun x2=>
  bif x2 then
   some (.inr (.inl s0))
  else
   some (.inl (w64 (s0+1)))
 else
  some (.inr (.inr ()))
def ZG (a:List Int) (b:(Int->Option Bool)):Option Int:=
 (lp (Zx a b) 0).bind fun r3=>
 match r3 with
 | (.inl r3)=>
  some r3
 | (.inr r3)=>
  some (-1)
def ZC (a:List Int) (b:(Int->Option Bool)):Option Bool:=
 (ZG a b).bind fun x0=>
 bif (decide (0<=x0)) then
  some true
 else
  some false
def ZeF (a:Zq) (s4:Int):Option (Int⊕(Unit⊕Unit)):=
 bif (decide (s4<(a.edges.length:Int))) then
  (Zy a.edges s4).bind fun x5=>
  (ZjR a x5.src x5.dst).bind fun x6=>
  bif x6 then
   bif (decide (0<=s4)) then
    bif (Nat.ble s4.toNat (List.length a.edges)) then
     (Zbe (List.take s4.toNat a.edges) x5).bind fun x7=>
     bif x7 then
      some (.inr (.inl ()))
     else
      some (.inl (w64 (s4+1)))
    else
     none
   else
    none
  else
   some (.inr (.inl ()))
 else
  some (.inr (.inr ()))
def ZeI (a:Zq) (s9:Int):Option (Int⊕(Unit⊕Unit)):=
 bif (decide (s9<(a.futures.length:Int))) then
  (Zy a.futures s9).bind fun x10=>
  (ZjR a x10.maker x10.user).bind fun x11=>
  bif x11 then
   (Zy a.parts x10.user).bind fun x12=>
   (ZbO x10.pos 1 (w64 (x12.work-1))).bind fun x13=>
   bif x13 then
    bif (decide (0<=s9)) then
     bif (Nat.ble s9.toNat (List.length a.futures)) then
      (ZaX (List.take s9.toNat a.futures) (fun z0=>Zec z0 x10.user x10.pos)).bind fun x14=>
      bif x14 then
       some (.inr (.inl ()))
      else
       some (.inl (w64 (s9+1)))
     else
      none
    else
     none
   else
    some (.inr (.inl ()))
  else
   some (.inr (.inl ()))
 else
  some (.inr (.inr ()))
def ZeG (a:Zq) (s16:Int):Option (Int⊕(Unit⊕Unit)):=
 bif (decide (s16<(a.barriers.length:Int))) then
  (Zy a.barriers s16).bind fun x17=>
  (ZjS a x17.ins).bind fun x18=>
  bif x18 then
   (ZjS a x17.outs).bind fun x19=>
   bif x19 then
    (ZC x17.ins (fun z0=>Zef z0 x17.outs)).bind fun x20=>
    bif x20 then
     some (.inr (.inl ()))
    else
     some (.inl (w64 (s16+1)))
   else
    some (.inr (.inl ()))
  else
   some (.inr (.inl ()))
 else
  some (.inr (.inr ()))
def Zh3 (a:Zq):Option Int:=
 (ZbO (a.parts.length:Int) 1 16).bind fun x0=>
 bif x0 then
  bif (decide (48<(a.edges.length:Int))) then
   some 50
  else
   bif (decide (16<(a.futures.length:Int))) then
    some 50
   else
    bif (decide (4<(a.barriers.length:Int))) then
     some 50
    else
     (ZhJ a.period).bind fun x1=>
     bif x1.2 then
      bif (decide (4096<a.period)) then
       some 51
      else
       (ZbO a.deadline 1 a.period).bind fun x2=>
       bif x2 then
        (Zbr a.parts (fun z0=>ZgU z0)).bind fun x3=>
        bif x3 then
         some 52
        else
         (lp (ZeF a) 0).bind fun r8=>
         match r8 with
         | (.inl r8)=>
          some 53
         | (.inr r8)=>
          (lp (ZeI a) 0).bind fun r15=>
          match r15 with
          | (.inl r15)=>
           some 54
          | (.inr r15)=>
           (lp (ZeG a) 0).bind fun r21=>
           match r21 with
           | (.inl r21)=>
            some 55
           | (.inr r21)=>
            some 0
       else
        some 51
     else
      some 51
 else
  some 50
def Zt (a:Int) (b:Int) (c4:List Zg):Option Int:=
 (Zy c4 a).bind fun x0=>
 (Zy c4 b).bind fun x1=>
 some (w64 (x0.pos-x1.pos))
def ZkK (a:Int):Option Int:=
 bif (decide (4294967296<=a)) then
  bif (decide (65536<=(Int.fdiv a (2 ^ 32)))) then
   bif (decide (256<=(Int.fdiv (Int.fdiv a (2 ^ 32)) (2 ^ 16)))) then
    bif (decide (0<=(u8.wrap (Int.fdiv (Int.fdiv (Int.fdiv a (2 ^ 32)) (2 ^ 16)) (2 ^ 8))))) then
     (ZwV[(u8.wrap (Int.fdiv (Int.fdiv (Int.fdiv a (2 ^ 32)) (2 ^ 16)) (2 ^ 8))).toNat]?).bind fun x0=>
     some (w64 (56+(w64 (x0.toNat:Int))))
    else
     none
   else
    bif (decide (0<=(u8.wrap (Int.fdiv (Int.fdiv a (2 ^ 32)) (2 ^ 16))))) then
     (ZwV[(u8.wrap (Int.fdiv (Int.fdiv a (2 ^ 32)) (2 ^ 16))).toNat]?).bind fun x1=>
     some (w64 (48+(w64 (x1.toNat:Int))))
    else
     none
  else
   bif (decide (256<=(Int.fdiv a (2 ^ 32)))) then
    bif (decide (0<=(u8.wrap (Int.fdiv (Int.fdiv a (2 ^ 32)) (2 ^ 8))))) then
     (ZwV[(u8.wrap (Int.fdiv (Int.fdiv a (2 ^ 32)) (2 ^ 8))).toNat]?).bind fun x2=>
     some (w64 (40+(w64 (x2.toNat:Int))))
    else
     none
   else
    bif (decide (0<=(u8.wrap (Int.fdiv a (2 ^ 32))))) then
     (ZwV[(u8.wrap (Int.fdiv a (2 ^ 32))).toNat]?).bind fun x3=>
     some (w64 (32+(w64 (x3.toNat:Int))))
    else
     none
 else
  bif (decide (65536<=a)) then
   bif (decide (256<=(Int.fdiv a (2 ^ 16)))) then
    bif (decide (0<=(u8.wrap (Int.fdiv (Int.fdiv a (2 ^ 16)) (2 ^ 8))))) then
     (ZwV[(u8.wrap (Int.fdiv (Int.fdiv a (2 ^ 16)) (2 ^ 8))).toNat]?).bind fun x4=>
     some (w64 (24+(w64 (x4.toNat:Int))))
    else
     none
   else
    bif (decide (0<=(u8.wrap (Int.fdiv a (2 ^ 16))))) then
     (ZwV[(u8.wrap (Int.fdiv a (2 ^ 16))).toNat]?).bind fun x5=>
     some (w64 (16+(w64 (x5.toNat:Int))))
    else
     none
  else
   bif (decide (256<=a)) then
    bif (decide (0<=(u8.wrap (Int.fdiv a (2 ^ 8))))) then
     (ZwV[(u8.wrap (Int.fdiv a (2 ^ 8))).toNat]?).bind fun x6=>
     some (w64 (8+(w64 (x6.toNat:Int))))
    else
     none
   else
    bif (decide (0<=(u8.wrap a))) then
     (ZwV[(u8.wrap a).toNat]?).bind fun x7=>
     some (w64 (0+(w64 (x7.toNat:Int))))
    else
     none
def Zgq (a:Int):Option Int:=
 (ZkK a).bind fun x0=>
 some x0
def Z2 (b:Int) (d:(Int->Int->Option Int)) (s1:Int×(List Int)):Option ((Int×(List Int))⊕(List Int)):=
 bif (decide (b<s1.1)) then
  (Zy s1.2 s1.1).bind fun x2=>
  (Zy s1.2 (w64 (s1.1-1))).bind fun x3=>
  (d x2 x3).bind fun x4=>
  bif (decide (x4<0)) then
   (Zy (List.set s1.2 s1.1.toNat x3) (w64 (s1.1-1))).bind fun x5=>
   some (.inl ((w64 (s1.1-1)),(List.set (List.set s1.2 s1.1.toNat x3) (w64 (s1.1-1)).toNat x2)))
  else
   some (.inr s1.2)
 else
  some (.inr s1.2)
def Zaw (b:Int) (c:Int) (d:(Int->Int->Option Int)) (s0:Int×(List Int)):Option ((Int×(List Int))⊕(List Int)):=
 bif (decide (s0.1<c)) then
  (lp (Z2 b d) (s0.1,s0.2)).bind fun r6=>
  some (.inl ((w64 (s0.1+1)),r6))
 else
  some (.inr s0.2)
def Z0 (b:Int) (c:Int) (d:(Int->Int->Option Int)) (mG:List Int):Option (List Int):=
 (lp (Zaw b c d) ((w64 (b+1)),mG)).bind fun r7=>
 some r7
def ZM (c:Int) (d:Int) (e:(Int->Int->Option Int)) (s0:Int×(List Int)):Option ((Int×(List Int))⊕((List Int)⊕(List Int))):=
 bif (decide (c<=(w64 ((w64 (2*s0.1))+1)))) then
  some (.inr (.inl s0.2))
 else
  bif (decide ((w64 ((w64 ((w64 (2*s0.1))+1))+1))<c)) then
   (Zy s0.2 (w64 (d+(w64 ((w64 (2*s0.1))+1))))).bind fun x1=>
   (Zy s0.2 (w64 ((w64 (d+(w64 ((w64 (2*s0.1))+1))))+1))).bind fun x2=>
   (e x1 x2).bind fun x3=>
   bif (decide (x3<0)) then
    (Zy s0.2 (w64 (d+s0.1))).bind fun x4=>
    (Zy s0.2 (w64 (d+(w64 ((w64 ((w64 (2*s0.1))+1))+1))))).bind fun x5=>
    (e x4 x5).bind fun x6=>
    bif (decide (x6<0)) then
     (Zy (List.set s0.2 (w64 (d+s0.1)).toNat x5) (w64 (d+(w64 ((w64 ((w64 (2*s0.1))+1))+1))))).bind fun x7=>
     some (.inl ((w64 ((w64 ((w64 (2*s0.1))+1))+1)),(List.set (List.set s0.2 (w64 (d+s0.1)).toNat x5) (w64 (d+(w64 ((w64 ((w64 (2*s0.1))+1))+1)))).toNat x4)))
    else
     some (.inr (.inr s0.2))
   else
    (Zy s0.2 (w64 (d+s0.1))).bind fun x8=>
    (e x8 x1).bind fun x9=>
    bif (decide (x9<0)) then
     (Zy (List.set s0.2 (w64 (d+s0.1)).toNat x1) (w64 (d+(w64 ((w64 (2*s0.1))+1))))).bind fun x10=>
     some (.inl ((w64 ((w64 (2*s0.1))+1)),(List.set (List.set s0.2 (w64 (d+s0.1)).toNat x1) (w64 (d+(w64 ((w64 (2*s0.1))+1)))).toNat x8)))
    else
     some (.inr (.inr s0.2))
  else
   (Zy s0.2 (w64 (d+s0.1))).bind fun x11=>
   (Zy s0.2 (w64 (d+(w64 ((w64 (2*s0.1))+1))))).bind fun x12=>
   (e x11 x12).bind fun x13=>
   bif (decide (x13<0)) then
    (Zy (List.set s0.2 (w64 (d+s0.1)).toNat x12) (w64 (d+(w64 ((w64 (2*s0.1))+1))))).bind fun x14=>
    some (.inl ((w64 ((w64 (2*s0.1))+1)),(List.set (List.set s0.2 (w64 (d+s0.1)).toNat x12) (w64 (d+(w64 ((w64 (2*s0.1))+1)))).toNat x11)))
   else
    some (.inr (.inr s0.2))
def ZaJ (b:Int) (c:Int) (d:Int) (e:(Int->Int->Option Int)) (mG:List Int):Option (List Int):=
 (lp (ZM c d e) (b,mG)).bind fun r15=>
 match r15 with
 | (.inl r15)=>
  some r15
 | (.inr r15)=>
  some r15
def ZaY (b:Int) (c:Int) (d:(Int->Int->Option Int)) (s0:Int×(List Int)):Option ((Int×(List Int))⊕(List Int)):=
 bif (decide (0<=s0.1)) then
  (ZaJ s0.1 (w64 (c-b)) b d s0.2).bind fun x1=>
  some (.inl ((w64 (s0.1-1)),x1))
 else
  some (.inr s0.2)
def ZaZ (b:Int) (d:(Int->Int->Option Int)) (s3:Int×(List Int)):Option ((Int×(List Int))⊕(List Int)):=
 bif (decide (0<=s3.1)) then
  (Zy s3.2 (w64 (b+s3.1))).bind fun x4=>
  (Zy s3.2 b).bind fun x5=>
  (Zy (List.set s3.2 b.toNat x4) (w64 (b+s3.1))).bind fun x6=>
  (ZaJ 0 s3.1 b d (List.set (List.set s3.2 b.toNat x4) (w64 (b+s3.1)).toNat x5)).bind fun x7=>
  some (.inl ((w64 (s3.1-1)),x7))
 else
  some (.inr s3.2)
def Zaf (b:Int) (c:Int) (d:(Int->Int->Option Int)) (mG:List Int):Option (List Int):=
 (lp (ZaY b c d) ((w64 (Int.tdiv (w64 ((w64 (c-b))-1)) 2)),mG)).bind fun r2=>
 (lp (ZaZ b d) ((w64 ((w64 (c-b))-1)),r2)).bind fun r8=>
 some r8
def Za7 (b:Int) (c:Int) (e:(Int->Int->Option Int)) (mG:List Int) (mA:Int):Option (Int×Int×Int):=
 (Zy mG c).bind fun x0=>
 (Zy mG b).bind fun x1=>
 (e x0 x1).bind fun x2=>
 bif (decide (x2<0)) then
  some (c,b,(w64 (mA+1)))
 else
  some (b,c,mA)
def Za5 (b:Int) (c:Int) (d:Int) (f:(Int->Int->Option Int)) (mG:List Int) (mA:Int):Option (Int×Int):=
 (Za7 b c f mG mA).bind fun x0=>
 (Za7 x0.2.1 d f mG x0.2.2).bind fun x1=>
 (Za7 x0.1 x1.1 f mG x1.2.2).bind fun x2=>
 some (x2.2.1,x2.2.2)
def Zaj (b:Int) (d:(Int->Int->Option Int)) (mG:List Int) (mA:Int):Option (Int×Int):=
 (Za5 (w64 (b-1)) b (w64 (b+1)) d mG mA).bind fun x0=>
 some (x0.1,x0.2)
def ZR (b:Int) (c:Int) (d:(Int->Int->Option Int)) (mG:List Int):Option (Int×Int):=
 bif (decide (8<=(w64 (c-b)))) then
  bif (decide (50<=(w64 (c-b)))) then
   (Zaj (w64 (b+(w64 ((w64 (Int.tdiv (w64 (c-b)) 4))*1)))) d mG 0).bind fun x0=>
   (Zaj (w64 (b+(w64 ((w64 (Int.tdiv (w64 (c-b)) 4))*2)))) d mG x0.2).bind fun x1=>
   (Zaj (w64 (b+(w64 ((w64 (Int.tdiv (w64 (c-b)) 4))*3)))) d mG x1.2).bind fun x2=>
   (Za5 x0.1 x1.1 x2.1 d mG x2.2).bind fun x3=>
   bif (x3.2==0) then
    some (x3.1,1)
   else
    bif (x3.2==12) then
     some (x3.1,2)
    else
     some (x3.1,0)
  else
   (Za5 (w64 (b+(w64 ((w64 (Int.tdiv (w64 (c-b)) 4))*1)))) (w64 (b+(w64 ((w64 (Int.tdiv (w64 (c-b)) 4))*2)))) (w64 (b+(w64 ((w64 (Int.tdiv (w64 (c-b)) 4))*3)))) d mG 0).bind fun x4=>
   bif (x4.2==0) then
    some (x4.1,1)
   else
    bif (x4.2==12) then
     some (x4.1,2)
    else
     some (x4.1,0)
 else
  some ((w64 (b+(w64 ((w64 (Int.tdiv (w64 (c-b)) 4))*2)))),1)
def Zag (s0:Int×Int×(List Int)):Option ((Int×Int×(List Int))⊕(List Int)):=
 bif (decide (s0.1<s0.2.1)) then
  (Zy s0.2.2 s0.2.1).bind fun x1=>
  (Zy s0.2.2 s0.1).bind fun x2=>
  (Zy (List.set s0.2.2 s0.1.toNat x1) s0.2.1).bind fun x3=>
  some (.inl ((w64 (s0.1+1)),(w64 (s0.2.1-1)),(List.set (List.set s0.2.2 s0.1.toNat x1) s0.2.1.toNat x2)))
 else
  some (.inr s0.2.2)
def ZP (b:Int) (c:Int) (d:(Int->Int->Option Int)) (mG:List Int):Option (List Int):=
 (lp (Zag) (b,(w64 (c-1)),mG)).bind fun r4=>
 some r4
def ZQ (c:Int) (d:(Int->Int->Option Int)) (s0:Int×Int×(List Int)) (s1:Int):Option (Int⊕Int):=
 bif (decide (s1<c)) then
  (Zy s0.2.2 s1).bind fun x2=>
  (Zy s0.2.2 (w64 (s1-1))).bind fun x3=>
  (d x2 x3).bind fun x4=>
  bif (decide (x4<0)) then
   some (.inr s1)
  else
   some (.inl (w64 (s1+1)))
 else
  some (.inr s1)
def ZY (d:(Int->Int->Option Int)) (s9:Int×(List Int)):Option ((Int×(List Int))⊕(List Int)):=
 bif (decide (1<=s9.1)) then
  (Zy s9.2 s9.1).bind fun x10=>
  (Zy s9.2 (w64 (s9.1-1))).bind fun x11=>
  (d x10 x11).bind fun x12=>
  bif (decide (x12<0)) then
   (Zy (List.set s9.2 s9.1.toNat x11) (w64 (s9.1-1))).bind fun x13=>
   some (.inl ((w64 (s9.1-1)),(List.set (List.set s9.2 s9.1.toNat x11) (w64 (s9.1-1)).toNat x10)))
  else
   some (.inr s9.2)
 else
  some (.inr s9.2)
def ZJ (c:Int) (d:(Int->Int->Option Int)) (s15:Int×(List Int)):Option ((Int×(List Int))⊕(List Int)):=
 bif (decide (s15.1<c)) then
  (Zy s15.2 s15.1).bind fun x16=>
  (Zy s15.2 (w64 (s15.1-1))).bind fun x17=>
  (d x16 x17).bind fun x18=>
  bif (decide (x18<0)) then
   (Zy (List.set s15.2 s15.1.toNat x17) (w64 (s15.1-1))).bind fun x19=>
   some (.inl ((w64 (s15.1+1)),(List.set (List.set s15.2 s15.1.toNat x17) (w64 (s15.1-1)).toNat x16)))
  else
   some (.inr s15.2)
 else
  some (.inr s15.2)
def ZX (b:Int) (c:Int) (d:(Int->Int->Option Int)) (s0:Int×Int×(List Int)):Option ((Int×Int×(List Int))⊕((List Int)⊕((List Int)⊕(List Int)))):=
 bif (decide (s0.2.1<5)) then
  (lp (ZQ c d s0) s0.1).bind fun r5=>
  bif (r5==c) then
   some (.inr (.inl s0.2.2))
  else
   bif (decide ((w64 (c-b))<50)) then
    some (.inr (.inr (.inl s0.2.2)))
   else
    (Zy s0.2.2 (w64 (r5-1))).bind fun x6=>
    (Zy s0.2.2 r5).bind fun x7=>
    (Zy (List.set s0.2.2 r5.toNat x6) (w64 (r5-1))).bind fun x8=>
    bif (decide (2<=(w64 (r5-b)))) then
     (lp (ZY d) ((w64 (r5-1)),(List.set (List.set s0.2.2 r5.toNat x6) (w64 (r5-1)).toNat x7))).bind fun r14=>
     bif (decide (2<=(w64 (c-r5)))) then
      (lp (ZJ c d) ((w64 (r5+1)),r14)).bind fun r20=>
      some (.inl (r5,(w64 (s0.2.1+1)),r20))
     else
      some (.inl (r5,(w64 (s0.2.1+1)),r14))
    else
     bif (decide (2<=(w64 (c-r5)))) then
      (lp (ZJ c d) ((w64 (r5+1)),(List.set (List.set s0.2.2 r5.toNat x6) (w64 (r5-1)).toNat x7))).bind fun r26=>
      some (.inl (r5,(w64 (s0.2.1+1)),r26))
     else
      some (.inl (r5,(w64 (s0.2.1+1)),(List.set (List.set s0.2.2 r5.toNat x6) (w64 (r5-1)).toNat x7)))
 else
  some (.inr (.inr (.inr s0.2.2)))
def ZS (b:Int) (c:Int) (d:(Int->Int->Option Int)) (mG:List Int):Option ((List Int)⊕(List Int)):=
 (lp (ZX b c d) ((w64 (b+1)),0,mG)).bind fun r27=>
 match r27 with
 | (.inl r27)=>
  some (.inl r27)
 | (.inr (.inl r27))=>
  some (.inr r27)
 | (.inr (.inr r27))=>
  some (.inr r27)
def ZaN (b:Int) (c:Int) (d:Int) (mG:List Int) (e:(Int->Int->Option Int)) (x0:Int) (x1:Int) (s3:Int):Option (Int⊕Int):=
 bif (decide (s3<=(w64 (c-1)))) then
  (Zy (List.set (List.set mG b.toNat x0) d.toNat x1) s3).bind fun x4=>
  (Zy (List.set (List.set mG b.toNat x0) d.toNat x1) b).bind fun x5=>
  (e x4 x5).bind fun x6=>
  bif (decide (x6<0)) then
   some (.inl (w64 (s3+1)))
  else
   some (.inr s3)
 else
  some (.inr s3)
def ZaM (b:Int) (d:Int) (mG:List Int) (e:(Int->Int->Option Int)) (x0:Int) (x1:Int) (r7:Int) (s8:Int):Option (Int⊕Int):=
 bif (decide (r7<=s8)) then
  (Zy (List.set (List.set mG b.toNat x0) d.toNat x1) s8).bind fun x9=>
  (Zy (List.set (List.set mG b.toNat x0) d.toNat x1) b).bind fun x10=>
  (e x9 x10).bind fun x11=>
  bif (decide (x11<0)) then
   some (.inr s8)
  else
   some (.inl (w64 (s8-1)))
 else
  some (.inr s8)
def ZaO (b:Int) (e:(Int->Int->Option Int)) (s19:Int×Int×(List Int)) (s20:Int):Option (Int⊕Int):=
 bif (decide (s20<=s19.2.1)) then
  (Zy s19.2.2 s20).bind fun x21=>
  (Zy s19.2.2 b).bind fun x22=>
  (e x21 x22).bind fun x23=>
  bif (decide (x23<0)) then
   some (.inl (w64 (s20+1)))
  else
   some (.inr s20)
 else
  some (.inr s20)
def ZaL (b:Int) (e:(Int->Int->Option Int)) (s19:Int×Int×(List Int)) (r24:Int) (s25:Int):Option (Int⊕Int):=
 bif (decide (r24<=s25)) then
  (Zy s19.2.2 s25).bind fun x26=>
  (Zy s19.2.2 b).bind fun x27=>
  (e x26 x27).bind fun x28=>
  bif (decide (x28<0)) then
   some (.inr s25)
  else
   some (.inl (w64 (s25-1)))
 else
  some (.inr s25)
def ZbE (b:Int) (e:(Int->Int->Option Int)) (s19:Int×Int×(List Int)):Option ((Int×Int×(List Int))⊕(Int×(List Int))):=
 (lp (ZaO b e s19) s19.1).bind fun r24=>
 (lp (ZaL b e s19 r24) s19.2.1).bind fun r29=>
 bif (decide (r29<r24)) then
  some (.inr (r29,s19.2.2))
 else
  (Zy s19.2.2 r29).bind fun x30=>
  (Zy s19.2.2 r24).bind fun x31=>
  (Zy (List.set s19.2.2 r24.toNat x30) r29).bind fun x32=>
  some (.inl ((w64 (r24+1)),(w64 (r29-1)),(List.set (List.set s19.2.2 r24.toNat x30) r29.toNat x31)))
def Zs (b:Int) (c:Int) (d:Int) (e:(Int->Int->Option Int)) (mG:List Int):Option ((Int×(List Int))⊕(Int×(List Int))):=
 (Zy mG d).bind fun x0=>
 (Zy mG b).bind fun x1=>
 (Zy (List.set mG b.toNat x0) d).bind fun x2=>
 (lp (ZaN b c d mG e x0 x1) (w64 (b+1))).bind fun r7=>
 (lp (ZaM b d mG e x0 x1 r7) (w64 (c-1))).bind fun r12=>
 bif (decide (r12<r7)) then
  (Zy (List.set (List.set mG b.toNat x0) d.toNat x1) b).bind fun x13=>
  (Zy (List.set (List.set mG b.toNat x0) d.toNat x1) r12).bind fun x14=>
  (Zy (List.set (List.set (List.set mG b.toNat x0) d.toNat x1) r12.toNat x13) b).bind fun x15=>
  some (.inl (r12,(List.set (List.set (List.set (List.set mG b.toNat x0) d.toNat x1) r12.toNat x13) b.toNat x14)))
 else
  (Zy (List.set (List.set mG b.toNat x0) d.toNat x1) r12).bind fun x16=>
  (Zy (List.set (List.set mG b.toNat x0) d.toNat x1) r7).bind fun x17=>
  (Zy (List.set (List.set (List.set mG b.toNat x0) d.toNat x1) r7.toNat x16) r12).bind fun x18=>
  (lp (ZbE b e) ((w64 (r7+1)),(w64 (r12-1)),(List.set (List.set (List.set (List.set mG b.toNat x0) d.toNat x1) r7.toNat x16) r12.toNat x17))).bind fun r33=>
  (Zy r33.2 b).bind fun x34=>
  (Zy r33.2 r33.1).bind fun x35=>
  (Zy (List.set r33.2 r33.1.toNat x34) b).bind fun x36=>
  some (.inr (r33.1,(List.set (List.set r33.2 r33.1.toNat x34) b.toNat x35)))
def Zas (b:Int) (e:(Int->Int->Option Int)) (s3:Int×Int×(List Int)) (s4:Int):Option (Int⊕Int):=
 bif (decide (s4<=s3.2.1)) then
  (Zy s3.2.2 b).bind fun x5=>
  (Zy s3.2.2 s4).bind fun x6=>
  (e x5 x6).bind fun x7=>
  bif (decide (x7<0)) then
   some (.inr s4)
  else
   some (.inl (w64 (s4+1)))
 else
  some (.inr s4)
def Zat (b:Int) (e:(Int->Int->Option Int)) (s3:Int×Int×(List Int)) (r8:Int) (s9:Int):Option (Int⊕Int):=
 bif (decide (r8<=s9)) then
  (Zy s3.2.2 b).bind fun x10=>
  (Zy s3.2.2 s9).bind fun x11=>
  (e x10 x11).bind fun x12=>
  bif (decide (x12<0)) then
   some (.inl (w64 (s9-1)))
  else
   some (.inr s9)
 else
  some (.inr s9)
def ZaV (b:Int) (e:(Int->Int->Option Int)) (s3:Int×Int×(List Int)):Option ((Int×Int×(List Int))⊕(Int×(List Int))):=
 (lp (Zas b e s3) s3.1).bind fun r8=>
 (lp (Zat b e s3 r8) s3.2.1).bind fun r13=>
 bif (decide (r13<r8)) then
  some (.inr (r8,s3.2.2))
 else
  (Zy s3.2.2 r13).bind fun x14=>
  (Zy s3.2.2 r8).bind fun x15=>
  (Zy (List.set s3.2.2 r8.toNat x14) r13).bind fun x16=>
  some (.inl ((w64 (r8+1)),(w64 (r13-1)),(List.set (List.set s3.2.2 r8.toNat x14) r13.toNat x15)))
def ZD (b:Int) (c:Int) (d:Int) (e:(Int->Int->Option Int)) (mG:List Int):Option (Int×(List Int)):=
 (Zy mG d).bind fun x0=>
 (Zy mG b).bind fun x1=>
 (Zy (List.set mG b.toNat x0) d).bind fun x2=>
 (lp (ZaV b e) ((w64 (b+1)),(w64 (c-1)),(List.set (List.set mG b.toNat x0) d.toNat x1))).bind fun r17=>
 some (r17.1,r17.2)
def Zc9 (a:Int):Option Int:=
 (Zgq (u64.wrap a)).bind fun x0=>
 bif (decide (x0<0)) then
  none
 else
  some (u64.wrap (1*2 ^ (min (x0).toNat u64.bits)))
def Zga:Option Unit:=
 some ()
def Za4 (b:Int) (c:Int) (x0:Int) (s1:Int×(List Int)×Int):Option ((Int×(List Int)×Int)⊕(List Int)):=
 bif (decide (s1.1<=(w64 ((w64 (b+(w64 ((w64 (Int.tdiv (w64 (c-b)) 4))*2))))+1)))) then
  Zga.bind fun x2=>
  bif (decide ((w64 (c-b))<=(w64 (u64.wrap (Zo (u64.wrap (Zo (u64.wrap (Zo (u64.wrap (Zo s1.2.2 ^^^ Zo (u64.wrap (s1.2.2*2 ^ 13))).toNat) ^^^ Zo (Int.fdiv (u64.wrap (Zo s1.2.2 ^^^ Zo (u64.wrap (s1.2.2*2 ^ 13))).toNat) (2 ^ 7))).toNat) ^^^ Zo (u64.wrap ((u64.wrap (Zo (u64.wrap (Zo s1.2.2 ^^^ Zo (u64.wrap (s1.2.2*2 ^ 13))).toNat) ^^^ Zo (Int.fdiv (u64.wrap (Zo s1.2.2 ^^^ Zo (u64.wrap (s1.2.2*2 ^ 13))).toNat) (2 ^ 7))).toNat)*2 ^ 17))).toNat) &&& Zo (u64.wrap (x0-1))).toNat)))) then
   (Zy s1.2.1 (w64 (b+(w64 ((w64 (u64.wrap (Zo (u64.wrap (Zo (u64.wrap (Zo (u64.wrap (Zo s1.2.2 ^^^ Zo (u64.wrap (s1.2.2*2 ^ 13))).toNat) ^^^ Zo (Int.fdiv (u64.wrap (Zo s1.2.2 ^^^ Zo (u64.wrap (s1.2.2*2 ^ 13))).toNat) (2 ^ 7))).toNat) ^^^ Zo (u64.wrap ((u64.wrap (Zo (u64.wrap (Zo s1.2.2 ^^^ Zo (u64.wrap (s1.2.2*2 ^ 13))).toNat) ^^^ Zo (Int.fdiv (u64.wrap (Zo s1.2.2 ^^^ Zo (u64.wrap (s1.2.2*2 ^ 13))).toNat) (2 ^ 7))).toNat)*2 ^ 17))).toNat) &&& Zo (u64.wrap (x0-1))).toNat))-(w64 (c-b))))))).bind fun x3=>
   (Zy s1.2.1 s1.1).bind fun x4=>
   (Zy (List.set s1.2.1 s1.1.toNat x3) (w64 (b+(w64 ((w64 (u64.wrap (Zo (u64.wrap (Zo (u64.wrap (Zo (u64.wrap (Zo s1.2.2 ^^^ Zo (u64.wrap (s1.2.2*2 ^ 13))).toNat) ^^^ Zo (Int.fdiv (u64.wrap (Zo s1.2.2 ^^^ Zo (u64.wrap (s1.2.2*2 ^ 13))).toNat) (2 ^ 7))).toNat) ^^^ Zo (u64.wrap ((u64.wrap (Zo (u64.wrap (Zo s1.2.2 ^^^ Zo (u64.wrap (s1.2.2*2 ^ 13))).toNat) ^^^ Zo (Int.fdiv (u64.wrap (Zo s1.2.2 ^^^ Zo (u64.wrap (s1.2.2*2 ^ 13))).toNat) (2 ^ 7))).toNat)*2 ^ 17))).toNat) &&& Zo (u64.wrap (x0-1))).toNat))-(w64 (c-b))))))).bind fun x5=>
   some (.inl ((w64 (s1.1+1)),(List.set (List.set s1.2.1 s1.1.toNat x3) (w64 (b+(w64 ((w64 (u64.wrap (Zo (u64.wrap (Zo (u64.wrap (Zo (u64.wrap (Zo s1.2.2 ^^^ Zo (u64.wrap (s1.2.2*2 ^ 13))).toNat) ^^^ Zo (Int.fdiv (u64.wrap (Zo s1.2.2 ^^^ Zo (u64.wrap (s1.2.2*2 ^ 13))).toNat) (2 ^ 7))).toNat) ^^^ Zo (u64.wrap ((u64.wrap (Zo (u64.wrap (Zo s1.2.2 ^^^ Zo (u64.wrap (s1.2.2*2 ^ 13))).toNat) ^^^ Zo (Int.fdiv (u64.wrap (Zo s1.2.2 ^^^ Zo (u64.wrap (s1.2.2*2 ^ 13))).toNat) (2 ^ 7))).toNat)*2 ^ 17))).toNat) &&& Zo (u64.wrap (x0-1))).toNat))-(w64 (c-b)))))).toNat x4),(u64.wrap (Zo (u64.wrap (Zo (u64.wrap (Zo s1.2.2 ^^^ Zo (u64.wrap (s1.2.2*2 ^ 13))).toNat) ^^^ Zo (Int.fdiv (u64.wrap (Zo s1.2.2 ^^^ Zo (u64.wrap (s1.2.2*2 ^ 13))).toNat) (2 ^ 7))).toNat) ^^^ Zo (u64.wrap ((u64.wrap (Zo (u64.wrap (Zo s1.2.2 ^^^ Zo (u64.wrap (s1.2.2*2 ^ 13))).toNat) ^^^ Zo (Int.fdiv (u64.wrap (Zo s1.2.2 ^^^ Zo (u64.wrap (s1.2.2*2 ^ 13))).toNat) (2 ^ 7))).toNat)*2 ^ 17))).toNat)))
  else
   (Zy s1.2.1 (w64 (b+(w64 (u64.wrap (Zo (u64.wrap (Zo (u64.wrap (Zo (u64.wrap (Zo s1.2.2 ^^^ Zo (u64.wrap (s1.2.2*2 ^ 13))).toNat) ^^^ Zo (Int.fdiv (u64.wrap (Zo s1.2.2 ^^^ Zo (u64.wrap (s1.2.2*2 ^ 13))).toNat) (2 ^ 7))).toNat) ^^^ Zo (u64.wrap ((u64.wrap (Zo (u64.wrap (Zo s1.2.2 ^^^ Zo (u64.wrap (s1.2.2*2 ^ 13))).toNat) ^^^ Zo (Int.fdiv (u64.wrap (Zo s1.2.2 ^^^ Zo (u64.wrap (s1.2.2*2 ^ 13))).toNat) (2 ^ 7))).toNat)*2 ^ 17))).toNat) &&& Zo (u64.wrap (x0-1))).toNat))))).bind fun x6=>
   (Zy s1.2.1 s1.1).bind fun x7=>
   (Zy (List.set s1.2.1 s1.1.toNat x6) (w64 (b+(w64 (u64.wrap (Zo (u64.wrap (Zo (u64.wrap (Zo (u64.wrap (Zo s1.2.2 ^^^ Zo (u64.wrap (s1.2.2*2 ^ 13))).toNat) ^^^ Zo (Int.fdiv (u64.wrap (Zo s1.2.2 ^^^ Zo (u64.wrap (s1.2.2*2 ^ 13))).toNat) (2 ^ 7))).toNat) ^^^ Zo (u64.wrap ((u64.wrap (Zo (u64.wrap (Zo s1.2.2 ^^^ Zo (u64.wrap (s1.2.2*2 ^ 13))).toNat) ^^^ Zo (Int.fdiv (u64.wrap (Zo s1.2.2 ^^^ Zo (u64.wrap (s1.2.2*2 ^ 13))).toNat) (2 ^ 7))).toNat)*2 ^ 17))).toNat) &&& Zo (u64.wrap (x0-1))).toNat))))).bind fun x8=>
   some (.inl ((w64 (s1.1+1)),(List.set (List.set s1.2.1 s1.1.toNat x6) (w64 (b+(w64 (u64.wrap (Zo (u64.wrap (Zo (u64.wrap (Zo (u64.wrap (Zo s1.2.2 ^^^ Zo (u64.wrap (s1.2.2*2 ^ 13))).toNat) ^^^ Zo (Int.fdiv (u64.wrap (Zo s1.2.2 ^^^ Zo (u64.wrap (s1.2.2*2 ^ 13))).toNat) (2 ^ 7))).toNat) ^^^ Zo (u64.wrap ((u64.wrap (Zo (u64.wrap (Zo s1.2.2 ^^^ Zo (u64.wrap (s1.2.2*2 ^ 13))).toNat) ^^^ Zo (Int.fdiv (u64.wrap (Zo s1.2.2 ^^^ Zo (u64.wrap (s1.2.2*2 ^ 13))).toNat) (2 ^ 7))).toNat)*2 ^ 17))).toNat) &&& Zo (u64.wrap (x0-1))).toNat)))).toNat x7),(u64.wrap (Zo (u64.wrap (Zo (u64.wrap (Zo s1.2.2 ^^^ Zo (u64.wrap (s1.2.2*2 ^ 13))).toNat) ^^^ Zo (Int.fdiv (u64.wrap (Zo s1.2.2 ^^^ Zo (u64.wrap (s1.2.2*2 ^ 13))).toNat) (2 ^ 7))).toNat) ^^^ Zo (u64.wrap ((u64.wrap (Zo (u64.wrap (Zo s1.2.2 ^^^ Zo (u64.wrap (s1.2.2*2 ^ 13))).toNat) ^^^ Zo (Int.fdiv (u64.wrap (Zo s1.2.2 ^^^ Zo (u64.wrap (s1.2.2*2 ^ 13))).toNat) (2 ^ 7))).toNat)*2 ^ 17))).toNat)))
 else
  some (.inr s1.2.1)
def Zap (b:Int) (c:Int) (d:(Int->Int->Option Int)) (mG:List Int):Option (List Int):=
 bif (decide (8<=(w64 (c-b)))) then
  (Zc9 (w64 (c-b))).bind fun x0=>
  (lp (Za4 b c x0) ((w64 ((w64 (b+(w64 ((w64 (Int.tdiv (w64 (c-b)) 4))*2))))-1)),mG,(u64.wrap (w64 (c-b))))).bind fun r9=>
  some r9
 else
  some mG
def ZH (e:(Int->Int->Option Int)) (rc:Int->Int->Int->(Int->Int->Option Int)->(List Int)->Option (List Int)) (s0:Int×Int×Int×Bool×Bool×(List Int)):Option ((Int×Int×Int×Bool×Bool×(List Int))⊕(List Int)):=
 bif s0.2.2.2.1 then
  bif s0.2.2.2.2.1 then
   bif (decide ((w64 (s0.2.1-s0.1))<=12)) then
    (Z0 s0.1 s0.2.1 e s0.2.2.2.2.2).bind fun x1=>
    some (.inr x1)
   else
    bif (s0.2.2.1==0) then
     (Zaf s0.1 s0.2.1 e s0.2.2.2.2.2).bind fun x2=>
     some (.inr x2)
    else
     (ZR s0.1 s0.2.1 e s0.2.2.2.2.2).bind fun x3=>
     bif (x3.2==2) then
      (ZP s0.1 s0.2.1 e s0.2.2.2.2.2).bind fun x4=>
      (ZS s0.1 s0.2.1 e x4).bind fun x5=>
      match x5 with
      | (.inl x5)=>
       some (.inr x5)
      | (.inr x5)=>
       bif (decide (0<s0.1)) then
        (Zy x5 (w64 (s0.1-1))).bind fun x6=>
        (Zy x5 (w64 ((w64 (s0.2.1-1))-(w64 (x3.1-s0.1))))).bind fun x7=>
        (e x6 x7).bind fun x8=>
        bif (decide (x8<0)) then
         (Zs s0.1 s0.2.1 (w64 ((w64 (s0.2.1-1))-(w64 (x3.1-s0.1)))) e x5).bind fun x9=>
         match x9 with
         | (.inl x9)=>
          bif (decide ((w64 (x9.1-s0.1))<(w64 (s0.2.1-x9.1)))) then
           bif (decide ((w64 (Int.tdiv (w64 (s0.2.1-s0.1)) 8))<=(w64 (x9.1-s0.1)))) then
            (rc s0.1 x9.1 s0.2.2.1 e x9.2).bind fun x10=>
            some (.inl ((w64 (x9.1+1)),s0.2.1,s0.2.2.1,true,true,x10))
           else
            (rc s0.1 x9.1 s0.2.2.1 e x9.2).bind fun x11=>
            some (.inl ((w64 (x9.1+1)),s0.2.1,s0.2.2.1,false,true,x11))
          else
           bif (decide ((w64 (Int.tdiv (w64 (s0.2.1-s0.1)) 8))<=(w64 (s0.2.1-x9.1)))) then
            (rc (w64 (x9.1+1)) s0.2.1 s0.2.2.1 e x9.2).bind fun x12=>
            some (.inl (s0.1,x9.1,s0.2.2.1,true,true,x12))
           else
            (rc (w64 (x9.1+1)) s0.2.1 s0.2.2.1 e x9.2).bind fun x13=>
            some (.inl (s0.1,x9.1,s0.2.2.1,false,true,x13))
         | (.inr x9)=>
          bif (decide ((w64 (x9.1-s0.1))<(w64 (s0.2.1-x9.1)))) then
           bif (decide ((w64 (Int.tdiv (w64 (s0.2.1-s0.1)) 8))<=(w64 (x9.1-s0.1)))) then
            (rc s0.1 x9.1 s0.2.2.1 e x9.2).bind fun x14=>
            some (.inl ((w64 (x9.1+1)),s0.2.1,s0.2.2.1,true,false,x14))
           else
            (rc s0.1 x9.1 s0.2.2.1 e x9.2).bind fun x15=>
            some (.inl ((w64 (x9.1+1)),s0.2.1,s0.2.2.1,false,false,x15))
          else
           bif (decide ((w64 (Int.tdiv (w64 (s0.2.1-s0.1)) 8))<=(w64 (s0.2.1-x9.1)))) then
            (rc (w64 (x9.1+1)) s0.2.1 s0.2.2.1 e x9.2).bind fun x16=>
            some (.inl (s0.1,x9.1,s0.2.2.1,true,false,x16))
           else
            (rc (w64 (x9.1+1)) s0.2.1 s0.2.2.1 e x9.2).bind fun x17=>
            some (.inl (s0.1,x9.1,s0.2.2.1,false,false,x17))
        else
         (ZD s0.1 s0.2.1 (w64 ((w64 (s0.2.1-1))-(w64 (x3.1-s0.1)))) e x5).bind fun x18=>
         some (.inl (x18.1,s0.2.1,s0.2.2.1,true,true,x18.2))
       else
        (Zs s0.1 s0.2.1 (w64 ((w64 (s0.2.1-1))-(w64 (x3.1-s0.1)))) e x5).bind fun x19=>
        match x19 with
        | (.inl x19)=>
         bif (decide ((w64 (x19.1-s0.1))<(w64 (s0.2.1-x19.1)))) then
          bif (decide ((w64 (Int.tdiv (w64 (s0.2.1-s0.1)) 8))<=(w64 (x19.1-s0.1)))) then
           (rc s0.1 x19.1 s0.2.2.1 e x19.2).bind fun x20=>
           some (.inl ((w64 (x19.1+1)),s0.2.1,s0.2.2.1,true,true,x20))
          else
           (rc s0.1 x19.1 s0.2.2.1 e x19.2).bind fun x21=>
           some (.inl ((w64 (x19.1+1)),s0.2.1,s0.2.2.1,false,true,x21))
         else
          bif (decide ((w64 (Int.tdiv (w64 (s0.2.1-s0.1)) 8))<=(w64 (s0.2.1-x19.1)))) then
           (rc (w64 (x19.1+1)) s0.2.1 s0.2.2.1 e x19.2).bind fun x22=>
           some (.inl (s0.1,x19.1,s0.2.2.1,true,true,x22))
          else
           (rc (w64 (x19.1+1)) s0.2.1 s0.2.2.1 e x19.2).bind fun x23=>
           some (.inl (s0.1,x19.1,s0.2.2.1,false,true,x23))
        | (.inr x19)=>
         bif (decide ((w64 (x19.1-s0.1))<(w64 (s0.2.1-x19.1)))) then
          bif (decide ((w64 (Int.tdiv (w64 (s0.2.1-s0.1)) 8))<=(w64 (x19.1-s0.1)))) then
           (rc s0.1 x19.1 s0.2.2.1 e x19.2).bind fun x24=>
           some (.inl ((w64 (x19.1+1)),s0.2.1,s0.2.2.1,true,false,x24))
          else
           (rc s0.1 x19.1 s0.2.2.1 e x19.2).bind fun x25=>
           some (.inl ((w64 (x19.1+1)),s0.2.1,s0.2.2.1,false,false,x25))
         else
          bif (decide ((w64 (Int.tdiv (w64 (s0.2.1-s0.1)) 8))<=(w64 (s0.2.1-x19.1)))) then
           (rc (w64 (x19.1+1)) s0.2.1 s0.2.2.1 e x19.2).bind fun x26=>
           some (.inl (s0.1,x19.1,s0.2.2.1,true,false,x26))
          else
           (rc (w64 (x19.1+1)) s0.2.1 s0.2.2.1 e x19.2).bind fun x27=>
           some (.inl (s0.1,x19.1,s0.2.2.1,false,false,x27))
     else
      bif (x3.2==1) then
       (ZS s0.1 s0.2.1 e s0.2.2.2.2.2).bind fun x28=>
       match x28 with
       | (.inl x28)=>
        some (.inr x28)
       | (.inr x28)=>
        bif (decide (0<s0.1)) then
         (Zy x28 (w64 (s0.1-1))).bind fun x29=>
         (Zy x28 x3.1).bind fun x30=>
         (e x29 x30).bind fun x31=>
         bif (decide (x31<0)) then
          (Zs s0.1 s0.2.1 x3.1 e x28).bind fun x32=>
          match x32 with
          | (.inl x32)=>
           bif (decide ((w64 (x32.1-s0.1))<(w64 (s0.2.1-x32.1)))) then
            bif (decide ((w64 (Int.tdiv (w64 (s0.2.1-s0.1)) 8))<=(w64 (x32.1-s0.1)))) then
             (rc s0.1 x32.1 s0.2.2.1 e x32.2).bind fun x33=>
             some (.inl ((w64 (x32.1+1)),s0.2.1,s0.2.2.1,true,true,x33))
            else
             (rc s0.1 x32.1 s0.2.2.1 e x32.2).bind fun x34=>
             some (.inl ((w64 (x32.1+1)),s0.2.1,s0.2.2.1,false,true,x34))
           else
            bif (decide ((w64 (Int.tdiv (w64 (s0.2.1-s0.1)) 8))<=(w64 (s0.2.1-x32.1)))) then
             (rc (w64 (x32.1+1)) s0.2.1 s0.2.2.1 e x32.2).bind fun x35=>
             some (.inl (s0.1,x32.1,s0.2.2.1,true,true,x35))
            else
             (rc (w64 (x32.1+1)) s0.2.1 s0.2.2.1 e x32.2).bind fun x36=>
             some (.inl (s0.1,x32.1,s0.2.2.1,false,true,x36))
          | (.inr x32)=>
           bif (decide ((w64 (x32.1-s0.1))<(w64 (s0.2.1-x32.1)))) then
            bif (decide ((w64 (Int.tdiv (w64 (s0.2.1-s0.1)) 8))<=(w64 (x32.1-s0.1)))) then
             (rc s0.1 x32.1 s0.2.2.1 e x32.2).bind fun x37=>
             some (.inl ((w64 (x32.1+1)),s0.2.1,s0.2.2.1,true,false,x37))
            else
             (rc s0.1 x32.1 s0.2.2.1 e x32.2).bind fun x38=>
             some (.inl ((w64 (x32.1+1)),s0.2.1,s0.2.2.1,false,false,x38))
           else
            bif (decide ((w64 (Int.tdiv (w64 (s0.2.1-s0.1)) 8))<=(w64 (s0.2.1-x32.1)))) then
             (rc (w64 (x32.1+1)) s0.2.1 s0.2.2.1 e x32.2).bind fun x39=>
             some (.inl (s0.1,x32.1,s0.2.2.1,true,false,x39))
            else
             (rc (w64 (x32.1+1)) s0.2.1 s0.2.2.1 e x32.2).bind fun x40=>
             some (.inl (s0.1,x32.1,s0.2.2.1,false,false,x40))
         else
          (ZD s0.1 s0.2.1 x3.1 e x28).bind fun x41=>
          some (.inl (x41.1,s0.2.1,s0.2.2.1,true,true,x41.2))
        else
         (Zs s0.1 s0.2.1 x3.1 e x28).bind fun x42=>
         match x42 with
         | (.inl x42)=>
          bif (decide ((w64 (x42.1-s0.1))<(w64 (s0.2.1-x42.1)))) then
           bif (decide ((w64 (Int.tdiv (w64 (s0.2.1-s0.1)) 8))<=(w64 (x42.1-s0.1)))) then
            (rc s0.1 x42.1 s0.2.2.1 e x42.2).bind fun x43=>
            some (.inl ((w64 (x42.1+1)),s0.2.1,s0.2.2.1,true,true,x43))
           else
            (rc s0.1 x42.1 s0.2.2.1 e x42.2).bind fun x44=>
            some (.inl ((w64 (x42.1+1)),s0.2.1,s0.2.2.1,false,true,x44))
          else
           bif (decide ((w64 (Int.tdiv (w64 (s0.2.1-s0.1)) 8))<=(w64 (s0.2.1-x42.1)))) then
            (rc (w64 (x42.1+1)) s0.2.1 s0.2.2.1 e x42.2).bind fun x45=>
            some (.inl (s0.1,x42.1,s0.2.2.1,true,true,x45))
           else
            (rc (w64 (x42.1+1)) s0.2.1 s0.2.2.1 e x42.2).bind fun x46=>
            some (.inl (s0.1,x42.1,s0.2.2.1,false,true,x46))
         | (.inr x42)=>
          bif (decide ((w64 (x42.1-s0.1))<(w64 (s0.2.1-x42.1)))) then
           bif (decide ((w64 (Int.tdiv (w64 (s0.2.1-s0.1)) 8))<=(w64 (x42.1-s0.1)))) then
            (rc s0.1 x42.1 s0.2.2.1 e x42.2).bind fun x47=>
            some (.inl ((w64 (x42.1+1)),s0.2.1,s0.2.2.1,true,false,x47))
           else
            (rc s0.1 x42.1 s0.2.2.1 e x42.2).bind fun x48=>
            some (.inl ((w64 (x42.1+1)),s0.2.1,s0.2.2.1,false,false,x48))
          else
           bif (decide ((w64 (Int.tdiv (w64 (s0.2.1-s0.1)) 8))<=(w64 (s0.2.1-x42.1)))) then
            (rc (w64 (x42.1+1)) s0.2.1 s0.2.2.1 e x42.2).bind fun x49=>
            some (.inl (s0.1,x42.1,s0.2.2.1,true,false,x49))
           else
            (rc (w64 (x42.1+1)) s0.2.1 s0.2.2.1 e x42.2).bind fun x50=>
            some (.inl (s0.1,x42.1,s0.2.2.1,false,false,x50))
      else
       bif (decide (0<s0.1)) then
        (Zy s0.2.2.2.2.2 (w64 (s0.1-1))).bind fun x51=>
        (Zy s0.2.2.2.2.2 x3.1).bind fun x52=>
        (e x51 x52).bind fun x53=>
        bif (decide (x53<0)) then
         (Zs s0.1 s0.2.1 x3.1 e s0.2.2.2.2.2).bind fun x54=>
         match x54 with
         | (.inl x54)=>
          bif (decide ((w64 (x54.1-s0.1))<(w64 (s0.2.1-x54.1)))) then
           bif (decide ((w64 (Int.tdiv (w64 (s0.2.1-s0.1)) 8))<=(w64 (x54.1-s0.1)))) then
            (rc s0.1 x54.1 s0.2.2.1 e x54.2).bind fun x55=>
            some (.inl ((w64 (x54.1+1)),s0.2.1,s0.2.2.1,true,true,x55))
           else
            (rc s0.1 x54.1 s0.2.2.1 e x54.2).bind fun x56=>
            some (.inl ((w64 (x54.1+1)),s0.2.1,s0.2.2.1,false,true,x56))
          else
           bif (decide ((w64 (Int.tdiv (w64 (s0.2.1-s0.1)) 8))<=(w64 (s0.2.1-x54.1)))) then
            (rc (w64 (x54.1+1)) s0.2.1 s0.2.2.1 e x54.2).bind fun x57=>
            some (.inl (s0.1,x54.1,s0.2.2.1,true,true,x57))
           else
            (rc (w64 (x54.1+1)) s0.2.1 s0.2.2.1 e x54.2).bind fun x58=>
            some (.inl (s0.1,x54.1,s0.2.2.1,false,true,x58))
         | (.inr x54)=>
          bif (decide ((w64 (x54.1-s0.1))<(w64 (s0.2.1-x54.1)))) then
           bif (decide ((w64 (Int.tdiv (w64 (s0.2.1-s0.1)) 8))<=(w64 (x54.1-s0.1)))) then
            (rc s0.1 x54.1 s0.2.2.1 e x54.2).bind fun x59=>
            some (.inl ((w64 (x54.1+1)),s0.2.1,s0.2.2.1,true,false,x59))
           else
            (rc s0.1 x54.1 s0.2.2.1 e x54.2).bind fun x60=>
            some (.inl ((w64 (x54.1+1)),s0.2.1,s0.2.2.1,false,false,x60))
          else
           bif (decide ((w64 (Int.tdiv (w64 (s0.2.1-s0.1)) 8))<=(w64 (s0.2.1-x54.1)))) then
            (rc (w64 (x54.1+1)) s0.2.1 s0.2.2.1 e x54.2).bind fun x61=>
            some (.inl (s0.1,x54.1,s0.2.2.1,true,false,x61))
           else
            (rc (w64 (x54.1+1)) s0.2.1 s0.2.2.1 e x54.2).bind fun x62=>
            some (.inl (s0.1,x54.1,s0.2.2.1,false,false,x62))
        else
         (ZD s0.1 s0.2.1 x3.1 e s0.2.2.2.2.2).bind fun x63=>
         some (.inl (x63.1,s0.2.1,s0.2.2.1,true,true,x63.2))
       else
        (Zs s0.1 s0.2.1 x3.1 e s0.2.2.2.2.2).bind fun x64=>
        match x64 with
        | (.inl x64)=>
         bif (decide ((w64 (x64.1-s0.1))<(w64 (s0.2.1-x64.1)))) then
          bif (decide ((w64 (Int.tdiv (w64 (s0.2.1-s0.1)) 8))<=(w64 (x64.1-s0.1)))) then
           (rc s0.1 x64.1 s0.2.2.1 e x64.2).bind fun x65=>
           some (.inl ((w64 (x64.1+1)),s0.2.1,s0.2.2.1,true,true,x65))
          else
           (rc s0.1 x64.1 s0.2.2.1 e x64.2).bind fun x66=>
           some (.inl ((w64 (x64.1+1)),s0.2.1,s0.2.2.1,false,true,x66))
         else
          bif (decide ((w64 (Int.tdiv (w64 (s0.2.1-s0.1)) 8))<=(w64 (s0.2.1-x64.1)))) then
           (rc (w64 (x64.1+1)) s0.2.1 s0.2.2.1 e x64.2).bind fun x67=>
           some (.inl (s0.1,x64.1,s0.2.2.1,true,true,x67))
          else
           (rc (w64 (x64.1+1)) s0.2.1 s0.2.2.1 e x64.2).bind fun x68=>
           some (.inl (s0.1,x64.1,s0.2.2.1,false,true,x68))
        | (.inr x64)=>
         bif (decide ((w64 (x64.1-s0.1))<(w64 (s0.2.1-x64.1)))) then
          bif (decide ((w64 (Int.tdiv (w64 (s0.2.1-s0.1)) 8))<=(w64 (x64.1-s0.1)))) then
           (rc s0.1 x64.1 s0.2.2.1 e x64.2).bind fun x69=>
           some (.inl ((w64 (x64.1+1)),s0.2.1,s0.2.2.1,true,false,x69))
          else
           (rc s0.1 x64.1 s0.2.2.1 e x64.2).bind fun x70=>
           some (.inl ((w64 (x64.1+1)),s0.2.1,s0.2.2.1,false,false,x70))
         else
          bif (decide ((w64 (Int.tdiv (w64 (s0.2.1-s0.1)) 8))<=(w64 (s0.2.1-x64.1)))) then
           (rc (w64 (x64.1+1)) s0.2.1 s0.2.2.1 e x64.2).bind fun x71=>
           some (.inl (s0.1,x64.1,s0.2.2.1,true,false,x71))
          else
           (rc (w64 (x64.1+1)) s0.2.1 s0.2.2.1 e x64.2).bind fun x72=>
           some (.inl (s0.1,x64.1,s0.2.2.1,false,false,x72))
  else
   bif (decide ((w64 (s0.2.1-s0.1))<=12)) then
    (Z0 s0.1 s0.2.1 e s0.2.2.2.2.2).bind fun x73=>
    some (.inr x73)
   else
    bif (s0.2.2.1==0) then
     (Zaf s0.1 s0.2.1 e s0.2.2.2.2.2).bind fun x74=>
     some (.inr x74)
    else
     (ZR s0.1 s0.2.1 e s0.2.2.2.2.2).bind fun x75=>
     bif (x75.2==2) then
      (ZP s0.1 s0.2.1 e s0.2.2.2.2.2).bind fun x76=>
      bif (decide (0<s0.1)) then
       (Zy x76 (w64 (s0.1-1))).bind fun x77=>
       (Zy x76 (w64 ((w64 (s0.2.1-1))-(w64 (x75.1-s0.1))))).bind fun x78=>
       (e x77 x78).bind fun x79=>
       bif (decide (x79<0)) then
        (Zs s0.1 s0.2.1 (w64 ((w64 (s0.2.1-1))-(w64 (x75.1-s0.1)))) e x76).bind fun x80=>
        match x80 with
        | (.inl x80)=>
         bif (decide ((w64 (x80.1-s0.1))<(w64 (s0.2.1-x80.1)))) then
          bif (decide ((w64 (Int.tdiv (w64 (s0.2.1-s0.1)) 8))<=(w64 (x80.1-s0.1)))) then
           (rc s0.1 x80.1 s0.2.2.1 e x80.2).bind fun x81=>
           some (.inl ((w64 (x80.1+1)),s0.2.1,s0.2.2.1,true,true,x81))
          else
           (rc s0.1 x80.1 s0.2.2.1 e x80.2).bind fun x82=>
           some (.inl ((w64 (x80.1+1)),s0.2.1,s0.2.2.1,false,true,x82))
         else
          bif (decide ((w64 (Int.tdiv (w64 (s0.2.1-s0.1)) 8))<=(w64 (s0.2.1-x80.1)))) then
           (rc (w64 (x80.1+1)) s0.2.1 s0.2.2.1 e x80.2).bind fun x83=>
           some (.inl (s0.1,x80.1,s0.2.2.1,true,true,x83))
          else
           (rc (w64 (x80.1+1)) s0.2.1 s0.2.2.1 e x80.2).bind fun x84=>
           some (.inl (s0.1,x80.1,s0.2.2.1,false,true,x84))
        | (.inr x80)=>
         bif (decide ((w64 (x80.1-s0.1))<(w64 (s0.2.1-x80.1)))) then
          bif (decide ((w64 (Int.tdiv (w64 (s0.2.1-s0.1)) 8))<=(w64 (x80.1-s0.1)))) then
           (rc s0.1 x80.1 s0.2.2.1 e x80.2).bind fun x85=>
           some (.inl ((w64 (x80.1+1)),s0.2.1,s0.2.2.1,true,false,x85))
          else
           (rc s0.1 x80.1 s0.2.2.1 e x80.2).bind fun x86=>
           some (.inl ((w64 (x80.1+1)),s0.2.1,s0.2.2.1,false,false,x86))
         else
          bif (decide ((w64 (Int.tdiv (w64 (s0.2.1-s0.1)) 8))<=(w64 (s0.2.1-x80.1)))) then
           (rc (w64 (x80.1+1)) s0.2.1 s0.2.2.1 e x80.2).bind fun x87=>
           some (.inl (s0.1,x80.1,s0.2.2.1,true,false,x87))
          else
           (rc (w64 (x80.1+1)) s0.2.1 s0.2.2.1 e x80.2).bind fun x88=>
           some (.inl (s0.1,x80.1,s0.2.2.1,false,false,x88))
       else
        (ZD s0.1 s0.2.1 (w64 ((w64 (s0.2.1-1))-(w64 (x75.1-s0.1)))) e x76).bind fun x89=>
        some (.inl (x89.1,s0.2.1,s0.2.2.1,true,false,x89.2))
      else
       (Zs s0.1 s0.2.1 (w64 ((w64 (s0.2.1-1))-(w64 (x75.1-s0.1)))) e x76).bind fun x90=>
       match x90 with
       | (.inl x90)=>
        bif (decide ((w64 (x90.1-s0.1))<(w64 (s0.2.1-x90.1)))) then
         bif (decide ((w64 (Int.tdiv (w64 (s0.2.1-s0.1)) 8))<=(w64 (x90.1-s0.1)))) then
          (rc s0.1 x90.1 s0.2.2.1 e x90.2).bind fun x91=>
          some (.inl ((w64 (x90.1+1)),s0.2.1,s0.2.2.1,true,true,x91))
         else
          (rc s0.1 x90.1 s0.2.2.1 e x90.2).bind fun x92=>
          some (.inl ((w64 (x90.1+1)),s0.2.1,s0.2.2.1,false,true,x92))
        else
         bif (decide ((w64 (Int.tdiv (w64 (s0.2.1-s0.1)) 8))<=(w64 (s0.2.1-x90.1)))) then
          (rc (w64 (x90.1+1)) s0.2.1 s0.2.2.1 e x90.2).bind fun x93=>
          some (.inl (s0.1,x90.1,s0.2.2.1,true,true,x93))
         else
          (rc (w64 (x90.1+1)) s0.2.1 s0.2.2.1 e x90.2).bind fun x94=>
          some (.inl (s0.1,x90.1,s0.2.2.1,false,true,x94))
       | (.inr x90)=>
        bif (decide ((w64 (x90.1-s0.1))<(w64 (s0.2.1-x90.1)))) then
         bif (decide ((w64 (Int.tdiv (w64 (s0.2.1-s0.1)) 8))<=(w64 (x90.1-s0.1)))) then
          (rc s0.1 x90.1 s0.2.2.1 e x90.2).bind fun x95=>
          some (.inl ((w64 (x90.1+1)),s0.2.1,s0.2.2.1,true,false,x95))
         else
          (rc s0.1 x90.1 s0.2.2.1 e x90.2).bind fun x96=>
          some (.inl ((w64 (x90.1+1)),s0.2.1,s0.2.2.1,false,false,x96))
        else
         bif (decide ((w64 (Int.tdiv (w64 (s0.2.1-s0.1)) 8))<=(w64 (s0.2.1-x90.1)))) then
          (rc (w64 (x90.1+1)) s0.2.1 s0.2.2.1 e x90.2).bind fun x97=>
          some (.inl (s0.1,x90.1,s0.2.2.1,true,false,x97))
         else
          (rc (w64 (x90.1+1)) s0.2.1 s0.2.2.1 e x90.2).bind fun x98=>
          some (.inl (s0.1,x90.1,s0.2.2.1,false,false,x98))
     else
      bif (decide (0<s0.1)) then
       (Zy s0.2.2.2.2.2 (w64 (s0.1-1))).bind fun x99=>
       (Zy s0.2.2.2.2.2 x75.1).bind fun x100=>
       (e x99 x100).bind fun x101=>
       bif (decide (x101<0)) then
        (Zs s0.1 s0.2.1 x75.1 e s0.2.2.2.2.2).bind fun x102=>
        match x102 with
        | (.inl x102)=>
         bif (decide ((w64 (x102.1-s0.1))<(w64 (s0.2.1-x102.1)))) then
          bif (decide ((w64 (Int.tdiv (w64 (s0.2.1-s0.1)) 8))<=(w64 (x102.1-s0.1)))) then
           (rc s0.1 x102.1 s0.2.2.1 e x102.2).bind fun x103=>
           some (.inl ((w64 (x102.1+1)),s0.2.1,s0.2.2.1,true,true,x103))
          else
           (rc s0.1 x102.1 s0.2.2.1 e x102.2).bind fun x104=>
           some (.inl ((w64 (x102.1+1)),s0.2.1,s0.2.2.1,false,true,x104))
         else
          bif (decide ((w64 (Int.tdiv (w64 (s0.2.1-s0.1)) 8))<=(w64 (s0.2.1-x102.1)))) then
           (rc (w64 (x102.1+1)) s0.2.1 s0.2.2.1 e x102.2).bind fun x105=>
           some (.inl (s0.1,x102.1,s0.2.2.1,true,true,x105))
          else
           (rc (w64 (x102.1+1)) s0.2.1 s0.2.2.1 e x102.2).bind fun x106=>
           some (.inl (s0.1,x102.1,s0.2.2.1,false,true,x106))
        | (.inr x102)=>
         bif (decide ((w64 (x102.1-s0.1))<(w64 (s0.2.1-x102.1)))) then
          bif (decide ((w64 (Int.tdiv (w64 (s0.2.1-s0.1)) 8))<=(w64 (x102.1-s0.1)))) then
           (rc s0.1 x102.1 s0.2.2.1 e x102.2).bind fun x107=>
           some (.inl ((w64 (x102.1+1)),s0.2.1,s0.2.2.1,true,false,x107))
          else
           (rc s0.1 x102.1 s0.2.2.1 e x102.2).bind fun x108=>
           some (.inl ((w64 (x102.1+1)),s0.2.1,s0.2.2.1,false,false,x108))
         else
          bif (decide ((w64 (Int.tdiv (w64 (s0.2.1-s0.1)) 8))<=(w64 (s0.2.1-x102.1)))) then
           (rc (w64 (x102.1+1)) s0.2.1 s0.2.2.1 e x102.2).bind fun x109=>
           some (.inl (s0.1,x102.1,s0.2.2.1,true,false,x109))
          else
           (rc (w64 (x102.1+1)) s0.2.1 s0.2.2.1 e x102.2).bind fun x110=>
           some (.inl (s0.1,x102.1,s0.2.2.1,false,false,x110))
       else
        (ZD s0.1 s0.2.1 x75.1 e s0.2.2.2.2.2).bind fun x111=>
        some (.inl (x111.1,s0.2.1,s0.2.2.1,true,false,x111.2))
      else
       (Zs s0.1 s0.2.1 x75.1 e s0.2.2.2.2.2).bind fun x112=>
       match x112 with
       | (.inl x112)=>
        bif (decide ((w64 (x112.1-s0.1))<(w64 (s0.2.1-x112.1)))) then
         bif (decide ((w64 (Int.tdiv (w64 (s0.2.1-s0.1)) 8))<=(w64 (x112.1-s0.1)))) then
          (rc s0.1 x112.1 s0.2.2.1 e x112.2).bind fun x113=>
          some (.inl ((w64 (x112.1+1)),s0.2.1,s0.2.2.1,true,true,x113))
         else
          (rc s0.1 x112.1 s0.2.2.1 e x112.2).bind fun x114=>
          some (.inl ((w64 (x112.1+1)),s0.2.1,s0.2.2.1,false,true,x114))
        else
         bif (decide ((w64 (Int.tdiv (w64 (s0.2.1-s0.1)) 8))<=(w64 (s0.2.1-x112.1)))) then
          (rc (w64 (x112.1+1)) s0.2.1 s0.2.2.1 e x112.2).bind fun x115=>
          some (.inl (s0.1,x112.1,s0.2.2.1,true,true,x115))
         else
          (rc (w64 (x112.1+1)) s0.2.1 s0.2.2.1 e x112.2).bind fun x116=>
          some (.inl (s0.1,x112.1,s0.2.2.1,false,true,x116))
       | (.inr x112)=>
        bif (decide ((w64 (x112.1-s0.1))<(w64 (s0.2.1-x112.1)))) then
         bif (decide ((w64 (Int.tdiv (w64 (s0.2.1-s0.1)) 8))<=(w64 (x112.1-s0.1)))) then
          (rc s0.1 x112.1 s0.2.2.1 e x112.2).bind fun x117=>
          some (.inl ((w64 (x112.1+1)),s0.2.1,s0.2.2.1,true,false,x117))
         else
          (rc s0.1 x112.1 s0.2.2.1 e x112.2).bind fun x118=>
          some (.inl ((w64 (x112.1+1)),s0.2.1,s0.2.2.1,false,false,x118))
        else
         bif (decide ((w64 (Int.tdiv (w64 (s0.2.1-s0.1)) 8))<=(w64 (s0.2.1-x112.1)))) then
          (rc (w64 (x112.1+1)) s0.2.1 s0.2.2.1 e x112.2).bind fun x119=>
          some (.inl (s0.1,x112.1,s0.2.2.1,true,false,x119))
         else
          (rc (w64 (x112.1+1)) s0.2.1 s0.2.2.1 e x112.2).bind fun x120=>
          some (.inl (s0.1,x112.1,s0.2.2.1,false,false,x120))
 else
  bif s0.2.2.2.2.1 then
   bif (decide ((w64 (s0.2.1-s0.1))<=12)) then
    (Z0 s0.1 s0.2.1 e s0.2.2.2.2.2).bind fun x121=>
    some (.inr x121)
   else
    bif (s0.2.2.1==0) then
     (Zaf s0.1 s0.2.1 e s0.2.2.2.2.2).bind fun x122=>
     some (.inr x122)
    else
     (Zap s0.1 s0.2.1 e s0.2.2.2.2.2).bind fun x123=>
     (ZR s0.1 s0.2.1 e x123).bind fun x124=>
     bif (x124.2==2) then
      (ZP s0.1 s0.2.1 e x123).bind fun x125=>
      bif (decide (0<s0.1)) then
       (Zy x125 (w64 (s0.1-1))).bind fun x126=>
       (Zy x125 (w64 ((w64 (s0.2.1-1))-(w64 (x124.1-s0.1))))).bind fun x127=>
       (e x126 x127).bind fun x128=>
       bif (decide (x128<0)) then
        (Zs s0.1 s0.2.1 (w64 ((w64 (s0.2.1-1))-(w64 (x124.1-s0.1)))) e x125).bind fun x129=>
        match x129 with
        | (.inl x129)=>
         bif (decide ((w64 (x129.1-s0.1))<(w64 (s0.2.1-x129.1)))) then
          bif (decide ((w64 (Int.tdiv (w64 (s0.2.1-s0.1)) 8))<=(w64 (x129.1-s0.1)))) then
           (rc s0.1 x129.1 (w64 (s0.2.2.1-1)) e x129.2).bind fun x130=>
           some (.inl ((w64 (x129.1+1)),s0.2.1,(w64 (s0.2.2.1-1)),true,true,x130))
          else
           (rc s0.1 x129.1 (w64 (s0.2.2.1-1)) e x129.2).bind fun x131=>
           some (.inl ((w64 (x129.1+1)),s0.2.1,(w64 (s0.2.2.1-1)),false,true,x131))
         else
          bif (decide ((w64 (Int.tdiv (w64 (s0.2.1-s0.1)) 8))<=(w64 (s0.2.1-x129.1)))) then
           (rc (w64 (x129.1+1)) s0.2.1 (w64 (s0.2.2.1-1)) e x129.2).bind fun x132=>
           some (.inl (s0.1,x129.1,(w64 (s0.2.2.1-1)),true,true,x132))
          else
           (rc (w64 (x129.1+1)) s0.2.1 (w64 (s0.2.2.1-1)) e x129.2).bind fun x133=>
           some (.inl (s0.1,x129.1,(w64 (s0.2.2.1-1)),false,true,x133))
        | (.inr x129)=>
         bif (decide ((w64 (x129.1-s0.1))<(w64 (s0.2.1-x129.1)))) then
          bif (decide ((w64 (Int.tdiv (w64 (s0.2.1-s0.1)) 8))<=(w64 (x129.1-s0.1)))) then
           (rc s0.1 x129.1 (w64 (s0.2.2.1-1)) e x129.2).bind fun x134=>
           some (.inl ((w64 (x129.1+1)),s0.2.1,(w64 (s0.2.2.1-1)),true,false,x134))
          else
           (rc s0.1 x129.1 (w64 (s0.2.2.1-1)) e x129.2).bind fun x135=>
           some (.inl ((w64 (x129.1+1)),s0.2.1,(w64 (s0.2.2.1-1)),false,false,x135))
         else
          bif (decide ((w64 (Int.tdiv (w64 (s0.2.1-s0.1)) 8))<=(w64 (s0.2.1-x129.1)))) then
           (rc (w64 (x129.1+1)) s0.2.1 (w64 (s0.2.2.1-1)) e x129.2).bind fun x136=>
           some (.inl (s0.1,x129.1,(w64 (s0.2.2.1-1)),true,false,x136))
          else
           (rc (w64 (x129.1+1)) s0.2.1 (w64 (s0.2.2.1-1)) e x129.2).bind fun x137=>
           some (.inl (s0.1,x129.1,(w64 (s0.2.2.1-1)),false,false,x137))
       else
        (ZD s0.1 s0.2.1 (w64 ((w64 (s0.2.1-1))-(w64 (x124.1-s0.1)))) e x125).bind fun x138=>
        some (.inl (x138.1,s0.2.1,(w64 (s0.2.2.1-1)),false,true,x138.2))
      else
       (Zs s0.1 s0.2.1 (w64 ((w64 (s0.2.1-1))-(w64 (x124.1-s0.1)))) e x125).bind fun x139=>
       match x139 with
       | (.inl x139)=>
        bif (decide ((w64 (x139.1-s0.1))<(w64 (s0.2.1-x139.1)))) then
         bif (decide ((w64 (Int.tdiv (w64 (s0.2.1-s0.1)) 8))<=(w64 (x139.1-s0.1)))) then
          (rc s0.1 x139.1 (w64 (s0.2.2.1-1)) e x139.2).bind fun x140=>
          some (.inl ((w64 (x139.1+1)),s0.2.1,(w64 (s0.2.2.1-1)),true,true,x140))
         else
          (rc s0.1 x139.1 (w64 (s0.2.2.1-1)) e x139.2).bind fun x141=>
          some (.inl ((w64 (x139.1+1)),s0.2.1,(w64 (s0.2.2.1-1)),false,true,x141))
        else
         bif (decide ((w64 (Int.tdiv (w64 (s0.2.1-s0.1)) 8))<=(w64 (s0.2.1-x139.1)))) then
          (rc (w64 (x139.1+1)) s0.2.1 (w64 (s0.2.2.1-1)) e x139.2).bind fun x142=>
          some (.inl (s0.1,x139.1,(w64 (s0.2.2.1-1)),true,true,x142))
         else
          (rc (w64 (x139.1+1)) s0.2.1 (w64 (s0.2.2.1-1)) e x139.2).bind fun x143=>
          some (.inl (s0.1,x139.1,(w64 (s0.2.2.1-1)),false,true,x143))
       | (.inr x139)=>
        bif (decide ((w64 (x139.1-s0.1))<(w64 (s0.2.1-x139.1)))) then
         bif (decide ((w64 (Int.tdiv (w64 (s0.2.1-s0.1)) 8))<=(w64 (x139.1-s0.1)))) then
          (rc s0.1 x139.1 (w64 (s0.2.2.1-1)) e x139.2).bind fun x144=>
          some (.inl ((w64 (x139.1+1)),s0.2.1,(w64 (s0.2.2.1-1)),true,false,x144))
         else
          (rc s0.1 x139.1 (w64 (s0.2.2.1-1)) e x139.2).bind fun x145=>
          some (.inl ((w64 (x139.1+1)),s0.2.1,(w64 (s0.2.2.1-1)),false,false,x145))
        else
         bif (decide ((w64 (Int.tdiv (w64 (s0.2.1-s0.1)) 8))<=(w64 (s0.2.1-x139.1)))) then
          (rc (w64 (x139.1+1)) s0.2.1 (w64 (s0.2.2.1-1)) e x139.2).bind fun x146=>
          some (.inl (s0.1,x139.1,(w64 (s0.2.2.1-1)),true,false,x146))
         else
          (rc (w64 (x139.1+1)) s0.2.1 (w64 (s0.2.2.1-1)) e x139.2).bind fun x147=>
          some (.inl (s0.1,x139.1,(w64 (s0.2.2.1-1)),false,false,x147))
     else
      bif (decide (0<s0.1)) then
       (Zy x123 (w64 (s0.1-1))).bind fun x148=>
       (Zy x123 x124.1).bind fun x149=>
       (e x148 x149).bind fun x150=>
       bif (decide (x150<0)) then
        (Zs s0.1 s0.2.1 x124.1 e x123).bind fun x151=>
        match x151 with
        | (.inl x151)=>
         bif (decide ((w64 (x151.1-s0.1))<(w64 (s0.2.1-x151.1)))) then
          bif (decide ((w64 (Int.tdiv (w64 (s0.2.1-s0.1)) 8))<=(w64 (x151.1-s0.1)))) then
           (rc s0.1 x151.1 (w64 (s0.2.2.1-1)) e x151.2).bind fun x152=>
           some (.inl ((w64 (x151.1+1)),s0.2.1,(w64 (s0.2.2.1-1)),true,true,x152))
          else
           (rc s0.1 x151.1 (w64 (s0.2.2.1-1)) e x151.2).bind fun x153=>
           some (.inl ((w64 (x151.1+1)),s0.2.1,(w64 (s0.2.2.1-1)),false,true,x153))
         else
          bif (decide ((w64 (Int.tdiv (w64 (s0.2.1-s0.1)) 8))<=(w64 (s0.2.1-x151.1)))) then
           (rc (w64 (x151.1+1)) s0.2.1 (w64 (s0.2.2.1-1)) e x151.2).bind fun x154=>
           some (.inl (s0.1,x151.1,(w64 (s0.2.2.1-1)),true,true,x154))
          else
           (rc (w64 (x151.1+1)) s0.2.1 (w64 (s0.2.2.1-1)) e x151.2).bind fun x155=>
           some (.inl (s0.1,x151.1,(w64 (s0.2.2.1-1)),false,true,x155))
        | (.inr x151)=>
         bif (decide ((w64 (x151.1-s0.1))<(w64 (s0.2.1-x151.1)))) then
          bif (decide ((w64 (Int.tdiv (w64 (s0.2.1-s0.1)) 8))<=(w64 (x151.1-s0.1)))) then
           (rc s0.1 x151.1 (w64 (s0.2.2.1-1)) e x151.2).bind fun x156=>
           some (.inl ((w64 (x151.1+1)),s0.2.1,(w64 (s0.2.2.1-1)),true,false,x156))
          else
           (rc s0.1 x151.1 (w64 (s0.2.2.1-1)) e x151.2).bind fun x157=>
           some (.inl ((w64 (x151.1+1)),s0.2.1,(w64 (s0.2.2.1-1)),false,false,x157))
         else
          bif (decide ((w64 (Int.tdiv (w64 (s0.2.1-s0.1)) 8))<=(w64 (s0.2.1-x151.1)))) then
           (rc (w64 (x151.1+1)) s0.2.1 (w64 (s0.2.2.1-1)) e x151.2).bind fun x158=>
           some (.inl (s0.1,x151.1,(w64 (s0.2.2.1-1)),true,false,x158))
          else
           (rc (w64 (x151.1+1)) s0.2.1 (w64 (s0.2.2.1-1)) e x151.2).bind fun x159=>
           some (.inl (s0.1,x151.1,(w64 (s0.2.2.1-1)),false,false,x159))
       else
        (ZD s0.1 s0.2.1 x124.1 e x123).bind fun x160=>
        some (.inl (x160.1,s0.2.1,(w64 (s0.2.2.1-1)),false,true,x160.2))
      else
       (Zs s0.1 s0.2.1 x124.1 e x123).bind fun x161=>
       match x161 with
       | (.inl x161)=>
        bif (decide ((w64 (x161.1-s0.1))<(w64 (s0.2.1-x161.1)))) then
         bif (decide ((w64 (Int.tdiv (w64 (s0.2.1-s0.1)) 8))<=(w64 (x161.1-s0.1)))) then
          (rc s0.1 x161.1 (w64 (s0.2.2.1-1)) e x161.2).bind fun x162=>
          some (.inl ((w64 (x161.1+1)),s0.2.1,(w64 (s0.2.2.1-1)),true,true,x162))
         else
          (rc s0.1 x161.1 (w64 (s0.2.2.1-1)) e x161.2).bind fun x163=>
          some (.inl ((w64 (x161.1+1)),s0.2.1,(w64 (s0.2.2.1-1)),false,true,x163))
        else
         bif (decide ((w64 (Int.tdiv (w64 (s0.2.1-s0.1)) 8))<=(w64 (s0.2.1-x161.1)))) then
          (rc (w64 (x161.1+1)) s0.2.1 (w64 (s0.2.2.1-1)) e x161.2).bind fun x164=>
          some (.inl (s0.1,x161.1,(w64 (s0.2.2.1-1)),true,true,x164))
         else
          (rc (w64 (x161.1+1)) s0.2.1 (w64 (s0.2.2.1-1)) e x161.2).bind fun x165=>
          some (.inl (s0.1,x161.1,(w64 (s0.2.2.1-1)),false,true,x165))
       | (.inr x161)=>
        bif (decide ((w64 (x161.1-s0.1))<(w64 (s0.2.1-x161.1)))) then
         bif (decide ((w64 (Int.tdiv (w64 (s0.2.1-s0.1)) 8))<=(w64 (x161.1-s0.1)))) then
          (rc s0.1 x161.1 (w64 (s0.2.2.1-1)) e x161.2).bind fun x166=>
          some (.inl ((w64 (x161.1+1)),s0.2.1,(w64 (s0.2.2.1-1)),true,false,x166))
         else
          (rc s0.1 x161.1 (w64 (s0.2.2.1-1)) e x161.2).bind fun x167=>
          some (.inl ((w64 (x161.1+1)),s0.2.1,(w64 (s0.2.2.1-1)),false,false,x167))
        else
         bif (decide ((w64 (Int.tdiv (w64 (s0.2.1-s0.1)) 8))<=(w64 (s0.2.1-x161.1)))) then
          (rc (w64 (x161.1+1)) s0.2.1 (w64 (s0.2.2.1-1)) e x161.2).bind fun x168=>
          some (.inl (s0.1,x161.1,(w64 (s0.2.2.1-1)),true,false,x168))
         else
          (rc (w64 (x161.1+1)) s0.2.1 (w64 (s0.2.2.1-1)) e x161.2).bind fun x169=>
          some (.inl (s0.1,x161.1,(w64 (s0.2.2.1-1)),false,false,x169))
  else
   bif (decide ((w64 (s0.2.1-s0.1))<=12)) then
    (Z0 s0.1 s0.2.1 e s0.2.2.2.2.2).bind fun x170=>
    some (.inr x170)
   else
    bif (s0.2.2.1==0) then
     (Zaf s0.1 s0.2.1 e s0.2.2.2.2.2).bind fun x171=>
     some (.inr x171)
    else
     (Zap s0.1 s0.2.1 e s0.2.2.2.2.2).bind fun x172=>
     (ZR s0.1 s0.2.1 e x172).bind fun x173=>
     bif (x173.2==2) then
      (ZP s0.1 s0.2.1 e x172).bind fun x174=>
      bif (decide (0<s0.1)) then
       (Zy x174 (w64 (s0.1-1))).bind fun x175=>
       (Zy x174 (w64 ((w64 (s0.2.1-1))-(w64 (x173.1-s0.1))))).bind fun x176=>
       (e x175 x176).bind fun x177=>
       bif (decide (x177<0)) then
        (Zs s0.1 s0.2.1 (w64 ((w64 (s0.2.1-1))-(w64 (x173.1-s0.1)))) e x174).bind fun x178=>
        match x178 with
        | (.inl x178)=>
         bif (decide ((w64 (x178.1-s0.1))<(w64 (s0.2.1-x178.1)))) then
          bif (decide ((w64 (Int.tdiv (w64 (s0.2.1-s0.1)) 8))<=(w64 (x178.1-s0.1)))) then
           (rc s0.1 x178.1 (w64 (s0.2.2.1-1)) e x178.2).bind fun x179=>
           some (.inl ((w64 (x178.1+1)),s0.2.1,(w64 (s0.2.2.1-1)),true,true,x179))
          else
           (rc s0.1 x178.1 (w64 (s0.2.2.1-1)) e x178.2).bind fun x180=>
           some (.inl ((w64 (x178.1+1)),s0.2.1,(w64 (s0.2.2.1-1)),false,true,x180))
         else
          bif (decide ((w64 (Int.tdiv (w64 (s0.2.1-s0.1)) 8))<=(w64 (s0.2.1-x178.1)))) then
           (rc (w64 (x178.1+1)) s0.2.1 (w64 (s0.2.2.1-1)) e x178.2).bind fun x181=>
           some (.inl (s0.1,x178.1,(w64 (s0.2.2.1-1)),true,true,x181))
          else
           (rc (w64 (x178.1+1)) s0.2.1 (w64 (s0.2.2.1-1)) e x178.2).bind fun x182=>
           some (.inl (s0.1,x178.1,(w64 (s0.2.2.1-1)),false,true,x182))
        | (.inr x178)=>
         bif (decide ((w64 (x178.1-s0.1))<(w64 (s0.2.1-x178.1)))) then
          bif (decide ((w64 (Int.tdiv (w64 (s0.2.1-s0.1)) 8))<=(w64 (x178.1-s0.1)))) then
           (rc s0.1 x178.1 (w64 (s0.2.2.1-1)) e x178.2).bind fun x183=>
           some (.inl ((w64 (x178.1+1)),s0.2.1,(w64 (s0.2.2.1-1)),true,false,x183))
          else
           (rc s0.1 x178.1 (w64 (s0.2.2.1-1)) e x178.2).bind fun x184=>
           some (.inl ((w64 (x178.1+1)),s0.2.1,(w64 (s0.2.2.1-1)),false,false,x184))
         else
          bif (decide ((w64 (Int.tdiv (w64 (s0.2.1-s0.1)) 8))<=(w64 (s0.2.1-x178.1)))) then
           (rc (w64 (x178.1+1)) s0.2.1 (w64 (s0.2.2.1-1)) e x178.2).bind fun x185=>
           some (.inl (s0.1,x178.1,(w64 (s0.2.2.1-1)),true,false,x185))
          else
           (rc (w64 (x178.1+1)) s0.2.1 (w64 (s0.2.2.1-1)) e x178.2).bind fun x186=>
           some (.inl (s0.1,x178.1,(w64 (s0.2.2.1-1)),false,false,x186))
       else
        (ZD s0.1 s0.2.1 (w64 ((w64 (s0.2.1-1))-(w64 (x173.1-s0.1)))) e x174).bind fun x187=>
        some (.inl (x187.1,s0.2.1,(w64 (s0.2.2.1-1)),false,false,x187.2))
      else
       (Zs s0.1 s0.2.1 (w64 ((w64 (s0.2.1-1))-(w64 (x173.1-s0.1)))) e x174).bind fun x188=>
       match x188 with
       | (.inl x188)=>
        bif (decide ((w64 (x188.1-s0.1))<(w64 (s0.2.1-x188.1)))) then
         bif (decide ((w64 (Int.tdiv (w64 (s0.2.1-s0.1)) 8))<=(w64 (x188.1-s0.1)))) then
          (rc s0.1 x188.1 (w64 (s0.2.2.1-1)) e x188.2).bind fun x189=>
          some (.inl ((w64 (x188.1+1)),s0.2.1,(w64 (s0.2.2.1-1)),true,true,x189))
         else
          (rc s0.1 x188.1 (w64 (s0.2.2.1-1)) e x188.2).bind fun x190=>
          some (.inl ((w64 (x188.1+1)),s0.2.1,(w64 (s0.2.2.1-1)),false,true,x190))
        else
         bif (decide ((w64 (Int.tdiv (w64 (s0.2.1-s0.1)) 8))<=(w64 (s0.2.1-x188.1)))) then
          (rc (w64 (x188.1+1)) s0.2.1 (w64 (s0.2.2.1-1)) e x188.2).bind fun x191=>
          some (.inl (s0.1,x188.1,(w64 (s0.2.2.1-1)),true,true,x191))
         else
          (rc (w64 (x188.1+1)) s0.2.1 (w64 (s0.2.2.1-1)) e x188.2).bind fun x192=>
          some (.inl (s0.1,x188.1,(w64 (s0.2.2.1-1)),false,true,x192))
       | (.inr x188)=>
        bif (decide ((w64 (x188.1-s0.1))<(w64 (s0.2.1-x188.1)))) then
         bif (decide ((w64 (Int.tdiv (w64 (s0.2.1-s0.1)) 8))<=(w64 (x188.1-s0.1)))) then
          (rc s0.1 x188.1 (w64 (s0.2.2.1-1)) e x188.2).bind fun x193=>
          some (.inl ((w64 (x188.1+1)),s0.2.1,(w64 (s0.2.2.1-1)),true,false,x193))
         else
          (rc s0.1 x188.1 (w64 (s0.2.2.1-1)) e x188.2).bind fun x194=>
          some (.inl ((w64 (x188.1+1)),s0.2.1,(w64 (s0.2.2.1-1)),false,false,x194))
        else
         bif (decide ((w64 (Int.tdiv (w64 (s0.2.1-s0.1)) 8))<=(w64 (s0.2.1-x188.1)))) then
          (rc (w64 (x188.1+1)) s0.2.1 (w64 (s0.2.2.1-1)) e x188.2).bind fun x195=>
          some (.inl (s0.1,x188.1,(w64 (s0.2.2.1-1)),true,false,x195))
         else
          (rc (w64 (x188.1+1)) s0.2.1 (w64 (s0.2.2.1-1)) e x188.2).bind fun x196=>
          some (.inl (s0.1,x188.1,(w64 (s0.2.2.1-1)),false,false,x196))
     else
      bif (decide (0<s0.1)) then
       (Zy x172 (w64 (s0.1-1))).bind fun x197=>
       (Zy x172 x173.1).bind fun x198=>
       (e x197 x198).bind fun x199=>
       bif (decide (x199<0)) then
        (Zs s0.1 s0.2.1 x173.1 e x172).bind fun x200=>
        match x200 with
        | (.inl x200)=>
         bif (decide ((w64 (x200.1-s0.1))<(w64 (s0.2.1-x200.1)))) then
          bif (decide ((w64 (Int.tdiv (w64 (s0.2.1-s0.1)) 8))<=(w64 (x200.1-s0.1)))) then
           (rc s0.1 x200.1 (w64 (s0.2.2.1-1)) e x200.2).bind fun x201=>
           some (.inl ((w64 (x200.1+1)),s0.2.1,(w64 (s0.2.2.1-1)),true,true,x201))
          else
           (rc s0.1 x200.1 (w64 (s0.2.2.1-1)) e x200.2).bind fun x202=>
           some (.inl ((w64 (x200.1+1)),s0.2.1,(w64 (s0.2.2.1-1)),false,true,x202))
         else
          bif (decide ((w64 (Int.tdiv (w64 (s0.2.1-s0.1)) 8))<=(w64 (s0.2.1-x200.1)))) then
           (rc (w64 (x200.1+1)) s0.2.1 (w64 (s0.2.2.1-1)) e x200.2).bind fun x203=>
           some (.inl (s0.1,x200.1,(w64 (s0.2.2.1-1)),true,true,x203))
          else
           (rc (w64 (x200.1+1)) s0.2.1 (w64 (s0.2.2.1-1)) e x200.2).bind fun x204=>
           some (.inl (s0.1,x200.1,(w64 (s0.2.2.1-1)),false,true,x204))
        | (.inr x200)=>
         bif (decide ((w64 (x200.1-s0.1))<(w64 (s0.2.1-x200.1)))) then
          bif (decide ((w64 (Int.tdiv (w64 (s0.2.1-s0.1)) 8))<=(w64 (x200.1-s0.1)))) then
           (rc s0.1 x200.1 (w64 (s0.2.2.1-1)) e x200.2).bind fun x205=>
           some (.inl ((w64 (x200.1+1)),s0.2.1,(w64 (s0.2.2.1-1)),true,false,x205))
          else
           (rc s0.1 x200.1 (w64 (s0.2.2.1-1)) e x200.2).bind fun x206=>
           some (.inl ((w64 (x200.1+1)),s0.2.1,(w64 (s0.2.2.1-1)),false,false,x206))
         else
          bif (decide ((w64 (Int.tdiv (w64 (s0.2.1-s0.1)) 8))<=(w64 (s0.2.1-x200.1)))) then
           (rc (w64 (x200.1+1)) s0.2.1 (w64 (s0.2.2.1-1)) e x200.2).bind fun x207=>
           some (.inl (s0.1,x200.1,(w64 (s0.2.2.1-1)),true,false,x207))
          else
           (rc (w64 (x200.1+1)) s0.2.1 (w64 (s0.2.2.1-1)) e x200.2).bind fun x208=>
           some (.inl (s0.1,x200.1,(w64 (s0.2.2.1-1)),false,false,x208))
       else
        (ZD s0.1 s0.2.1 x173.1 e x172).bind fun x209=>
        some (.inl (x209.1,s0.2.1,(w64 (s0.2.2.1-1)),false,false,x209.2))
      else
       (Zs s0.1 s0.2.1 x173.1 e x172).bind fun x210=>
       match x210 with
       | (.inl x210)=>
        bif (decide ((w64 (x210.1-s0.1))<(w64 (s0.2.1-x210.1)))) then
         bif (decide ((w64 (Int.tdiv (w64 (s0.2.1-s0.1)) 8))<=(w64 (x210.1-s0.1)))) then
          (rc s0.1 x210.1 (w64 (s0.2.2.1-1)) e x210.2).bind fun x211=>
          some (.inl ((w64 (x210.1+1)),s0.2.1,(w64 (s0.2.2.1-1)),true,true,x211))
         else
          (rc s0.1 x210.1 (w64 (s0.2.2.1-1)) e x210.2).bind fun x212=>
          some (.inl ((w64 (x210.1+1)),s0.2.1,(w64 (s0.2.2.1-1)),false,true,x212))
        else
         bif (decide ((w64 (Int.tdiv (w64 (s0.2.1-s0.1)) 8))<=(w64 (s0.2.1-x210.1)))) then
          (rc (w64 (x210.1+1)) s0.2.1 (w64 (s0.2.2.1-1)) e x210.2).bind fun x213=>
          some (.inl (s0.1,x210.1,(w64 (s0.2.2.1-1)),true,true,x213))
         else
          (rc (w64 (x210.1+1)) s0.2.1 (w64 (s0.2.2.1-1)) e x210.2).bind fun x214=>
          some (.inl (s0.1,x210.1,(w64 (s0.2.2.1-1)),false,true,x214))
       | (.inr x210)=>
        bif (decide ((w64 (x210.1-s0.1))<(w64 (s0.2.1-x210.1)))) then
         bif (decide ((w64 (Int.tdiv (w64 (s0.2.1-s0.1)) 8))<=(w64 (x210.1-s0.1)))) then
          (rc s0.1 x210.1 (w64 (s0.2.2.1-1)) e x210.2).bind fun x215=>
          some (.inl ((w64 (x210.1+1)),s0.2.1,(w64 (s0.2.2.1-1)),true,false,x215))
         else
          (rc s0.1 x210.1 (w64 (s0.2.2.1-1)) e x210.2).bind fun x216=>
          some (.inl ((w64 (x210.1+1)),s0.2.1,(w64 (s0.2.2.1-1)),false,false,x216))
        else
         bif (decide ((w64 (Int.tdiv (w64 (s0.2.1-s0.1)) 8))<=(w64 (s0.2.1-x210.1)))) then
          (rc (w64 (x210.1+1)) s0.2.1 (w64 (s0.2.2.1-1)) e x210.2).bind fun x217=>
          some (.inl (s0.1,x210.1,(w64 (s0.2.2.1-1)),true,false,x217))
         else
          (rc (w64 (x210.1+1)) s0.2.1 (w64 (s0.2.2.1-1)) e x210.2).bind fun x218=>
          some (.inl (s0.1,x210.1,(w64 (s0.2.2.1-1)),false,false,x218))
def ZaF (rc:Int->Int->Int->(Int->Int->Option Int)->(List Int)->Option (List Int)) (b:Int) (c:Int) (d:Int) (e:(Int->Int->Option Int)) (mG:List Int):Option (List Int):=
 (lp (ZH e rc) (b,c,d,true,true,mG)).bind fun r219=>
 some r219
def ZV:Nat->Int->Int->Int->(Int->Int->Option Int)->(List Int)->Option (List Int)
 | 0=>fun _ _ _ _ _=>none
 | n+1=>ZaF (ZV n)
def Zdq (b:Int) (c:Int) (d:Int) (e:(Int->Int->Option Int)) (mG:List Int):Option (List Int):=ZCT fun n=>ZV n b c d e mG
def ZaU (b:(Int->Int->Option Int)) (mG:List Int):Option (List Int):=
 (Zgq (u64.wrap (mG.length:Int))).bind fun x0=>
 (Zdq 0 (mG.length:Int) x0 b mG).bind fun x1=>
 some x1
def ZeM (a:Zq) (b:Int) (s1:Int×(List Int)):Option ((Int×(List Int))⊕(List Int)):=
 bif (decide (s1.1<(a.futures.length:Int))) then
  (Zy a.futures s1.1).bind fun x2=>
  bif (x2.user==b) then
   bif (Nat.ble (List.length s1.2+1) lim) then
    some (.inl ((w64 (s1.1+1)),(s1.2++[s1.1])))
   else
    none
  else
   some (.inl ((w64 (s1.1+1)),s1.2))
 else
  some (.inr s1.2)
def Zd9 (a:Zq) (b:Int):Option (List Int):=
 (Zh3 a).bind fun x0=>
 bif (x0 != 0) then
  some ([]:List Int)
 else
  (lp (ZeM a b) (0,([]:List Int))).bind fun r3=>
  (ZaU (fun z0 z1=>Zt z0 z1 a.futures) r3).bind fun x4=>
  some x4
def Zam (b:Ze) (c:Int) (mA:List Int) (mH:List Ze):Option Unit:=
 bif (Nat.ble (List.length mH+1) lim) then
  bif (Nat.ble (List.length mA+1) lim) then
   some ()
  else
   none
 else
  none
def ZI (b:Int) (c:Int) (mI:List Zi):Option Unit:=
 bif (Nat.ble (List.length mI+1) lim) then
  some ()
 else
  none
def ZB (b:Zq) (c:Int) (x0:List Int) (s14:Int×Int×(List (Int×Int))×(List (Zg×Int))×(List Int)×(List Zi)×(List Ze)):Option ((Int×Int×(List (Int×Int))×(List (Zg×Int))×(List Int)×(List Zi)×(List Ze))⊕((List (Int×Int))×(List (Zg×Int))×(List Int)×(List Zi)×(List Ze))):=
 bif (decide (s14.2.1<(w64 ((x0.length:Int)+1)))) then
  (Zy b.parts c).bind fun x15=>
  bif (decide (s14.2.1<(x0.length:Int))) then
   (Zy x0 s14.2.1).bind fun x16=>
   (Zy b.futures x16).bind fun x17=>
   (Zam (Ze.mk c s14.2.1) (w64 (x17.pos-s14.1)) s14.2.2.2.2.1 s14.2.2.2.2.2.2).bind fun x18=>
   bif (decide (0<s14.2.1)) then
    (ZI (w64 ((Z5 (fun ka kb:Int=>(ka==kb)) (Zu (fun ka kb:Int=>(ka==kb)) s14.2.2.1 c (w64 ((List.length (s14.2.2.2.2.2.2++[(Ze.mk c s14.2.1)]):Int)-1))) c 0)-1)) (Z5 (fun ka kb:Int=>(ka==kb)) (Zu (fun ka kb:Int=>(ka==kb)) s14.2.2.1 c (w64 ((List.length (s14.2.2.2.2.2.2++[(Ze.mk c s14.2.1)]):Int)-1))) c 0) s14.2.2.2.2.2.1).bind fun x19=>
    (Zy x0 (w64 (s14.2.1-1))).bind fun x20=>
    (Zy b.futures x20).bind fun x21=>
    some (.inl (x17.pos,(w64 (s14.2.1+1)),(Zu (fun ka kb:Int=>(ka==kb)) s14.2.2.1 c (w64 ((List.length (s14.2.2.2.2.2.2++[(Ze.mk c s14.2.1)]):Int)-1))),(Zu (fun ka kb:Zg=>((ka.maker==kb.maker)&&((ka.user==kb.user)&&((ka.pos==kb.pos)&&true)))) s14.2.2.2.1 x21 (Z5 (fun ka kb:Int=>(ka==kb)) (Zu (fun ka kb:Int=>(ka==kb)) s14.2.2.1 c (w64 ((List.length (s14.2.2.2.2.2.2++[(Ze.mk c s14.2.1)]):Int)-1))) c 0)),(s14.2.2.2.2.1++[(w64 (x17.pos-s14.1))]),(s14.2.2.2.2.2.1++[(Zi.mk (w64 ((Z5 (fun ka kb:Int=>(ka==kb)) (Zu (fun ka kb:Int=>(ka==kb)) s14.2.2.1 c (w64 ((List.length (s14.2.2.2.2.2.2++[(Ze.mk c s14.2.1)]):Int)-1))) c 0)-1)) (Z5 (fun ka kb:Int=>(ka==kb)) (Zu (fun ka kb:Int=>(ka==kb)) s14.2.2.1 c (w64 ((List.length (s14.2.2.2.2.2.2++[(Ze.mk c s14.2.1)]):Int)-1))) c 0))]),(s14.2.2.2.2.2.2++[(Ze.mk c s14.2.1)])))
   else
    some (.inl (x17.pos,(w64 (s14.2.1+1)),(Zu (fun ka kb:Int=>(ka==kb)) s14.2.2.1 c (w64 ((List.length (s14.2.2.2.2.2.2++[(Ze.mk c s14.2.1)]):Int)-1))),s14.2.2.2.1,(s14.2.2.2.2.1++[(w64 (x17.pos-s14.1))]),s14.2.2.2.2.2.1,(s14.2.2.2.2.2.2++[(Ze.mk c s14.2.1)])))
  else
   (Zam (Ze.mk c s14.2.1) (w64 (x15.work-s14.1)) s14.2.2.2.2.1 s14.2.2.2.2.2.2).bind fun x22=>
   bif (decide (0<s14.2.1)) then
    (ZI (w64 ((Z5 (fun ka kb:Int=>(ka==kb)) (Zu (fun ka kb:Int=>(ka==kb)) s14.2.2.1 c (w64 ((List.length (s14.2.2.2.2.2.2++[(Ze.mk c s14.2.1)]):Int)-1))) c 0)-1)) (Z5 (fun ka kb:Int=>(ka==kb)) (Zu (fun ka kb:Int=>(ka==kb)) s14.2.2.1 c (w64 ((List.length (s14.2.2.2.2.2.2++[(Ze.mk c s14.2.1)]):Int)-1))) c 0) s14.2.2.2.2.2.1).bind fun x23=>
    (Zy x0 (w64 (s14.2.1-1))).bind fun x24=>
    (Zy b.futures x24).bind fun x25=>
    some (.inl (x15.work,(w64 (s14.2.1+1)),(Zu (fun ka kb:Int=>(ka==kb)) s14.2.2.1 c (w64 ((List.length (s14.2.2.2.2.2.2++[(Ze.mk c s14.2.1)]):Int)-1))),(Zu (fun ka kb:Zg=>((ka.maker==kb.maker)&&((ka.user==kb.user)&&((ka.pos==kb.pos)&&true)))) s14.2.2.2.1 x25 (Z5 (fun ka kb:Int=>(ka==kb)) (Zu (fun ka kb:Int=>(ka==kb)) s14.2.2.1 c (w64 ((List.length (s14.2.2.2.2.2.2++[(Ze.mk c s14.2.1)]):Int)-1))) c 0)),(s14.2.2.2.2.1++[(w64 (x15.work-s14.1))]),(s14.2.2.2.2.2.1++[(Zi.mk (w64 ((Z5 (fun ka kb:Int=>(ka==kb)) (Zu (fun ka kb:Int=>(ka==kb)) s14.2.2.1 c (w64 ((List.length (s14.2.2.2.2.2.2++[(Ze.mk c s14.2.1)]):Int)-1))) c 0)-1)) (Z5 (fun ka kb:Int=>(ka==kb)) (Zu (fun ka kb:Int=>(ka==kb)) s14.2.2.1 c (w64 ((List.length (s14.2.2.2.2.2.2++[(Ze.mk c s14.2.1)]):Int)-1))) c 0))]),(s14.2.2.2.2.2.2++[(Ze.mk c s14.2.1)])))
   else
    some (.inl (x15.work,(w64 (s14.2.1+1)),(Zu (fun ka kb:Int=>(ka==kb)) s14.2.2.1 c (w64 ((List.length (s14.2.2.2.2.2.2++[(Ze.mk c s14.2.1)]):Int)-1))),s14.2.2.2.1,(s14.2.2.2.2.1++[(w64 (x15.work-s14.1))]),s14.2.2.2.2.2.1,(s14.2.2.2.2.2.2++[(Ze.mk c s14.2.1)])))
 else
  some (.inr (s14.2.2.1,s14.2.2.2.1,s14.2.2.2.2.1,s14.2.2.2.2.2.1,s14.2.2.2.2.2.2))
def Zb6 (b:Zq) (c:Int) (mA:List Int) (mI:List Zi) (mH:List Ze) (mJ:(List (Int×Int))) (mM:(List (Zg×Int))) (x0:List Int) (x4:Zg) (s6:Unit):Option (Unit⊕(((List (Int×Int))×(List (Zg×Int))×(List Int)×(List Zi)×(List Ze))⊕Unit)):=
 bif (decide (1<(w64 ((x0.length:Int)+1)))) then
  (Zy b.parts c).bind fun x7=>
  bif (decide (1<(x0.length:Int))) then
   (Zy x0 1).bind fun x8=>
   (Zy b.futures x8).bind fun x9=>
   (Zam (Ze.mk c 1) (w64 (x9.pos-x4.pos)) (mA++[(w64 (x4.pos-0))]) (mH++[(Ze.mk c 0)])).bind fun x10=>
   (ZI (w64 ((Z5 (fun ka kb:Int=>(ka==kb)) (Zu (fun ka kb:Int=>(ka==kb)) (Zu (fun ka kb:Int=>(ka==kb)) mJ c (w64 ((List.length (mH++[(Ze.mk c 0)]):Int)-1))) c (w64 ((List.length ((mH++[(Ze.mk c 0)])++[(Ze.mk c 1)]):Int)-1))) c 0)-1)) (Z5 (fun ka kb:Int=>(ka==kb)) (Zu (fun ka kb:Int=>(ka==kb)) (Zu (fun ka kb:Int=>(ka==kb)) mJ c (w64 ((List.length (mH++[(Ze.mk c 0)]):Int)-1))) c (w64 ((List.length ((mH++[(Ze.mk c 0)])++[(Ze.mk c 1)]):Int)-1))) c 0) mI).bind fun x11=>
   (Zy x0 0).bind fun x12=>
   (Zy b.futures x12).bind fun x13=>
   (lp (ZB b c x0) (x9.pos,2,(Zu (fun ka kb:Int=>(ka==kb)) (Zu (fun ka kb:Int=>(ka==kb)) mJ c (w64 ((List.length (mH++[(Ze.mk c 0)]):Int)-1))) c (w64 ((List.length ((mH++[(Ze.mk c 0)])++[(Ze.mk c 1)]):Int)-1))),(Zu (fun ka kb:Zg=>((ka.maker==kb.maker)&&((ka.user==kb.user)&&((ka.pos==kb.pos)&&true)))) mM x13 (Z5 (fun ka kb:Int=>(ka==kb)) (Zu (fun ka kb:Int=>(ka==kb)) (Zu (fun ka kb:Int=>(ka==kb)) mJ c (w64 ((List.length (mH++[(Ze.mk c 0)]):Int)-1))) c (w64 ((List.length ((mH++[(Ze.mk c 0)])++[(Ze.mk c 1)]):Int)-1))) c 0)),((mA++[(w64 (x4.pos-0))])++[(w64 (x9.pos-x4.pos))]),(mI++[(Zi.mk (w64 ((Z5 (fun ka kb:Int=>(ka==kb)) (Zu (fun ka kb:Int=>(ka==kb)) (Zu (fun ka kb:Int=>(ka==kb)) mJ c (w64 ((List.length (mH++[(Ze.mk c 0)]):Int)-1))) c (w64 ((List.length ((mH++[(Ze.mk c 0)])++[(Ze.mk c 1)]):Int)-1))) c 0)-1)) (Z5 (fun ka kb:Int=>(ka==kb)) (Zu (fun ka kb:Int=>(ka==kb)) (Zu (fun ka kb:Int=>(ka==kb)) mJ c (w64 ((List.length (mH++[(Ze.mk c 0)]):Int)-1))) c (w64 ((List.length ((mH++[(Ze.mk c 0)])++[(Ze.mk c 1)]):Int)-1))) c 0))]),((mH++[(Ze.mk c 0)])++[(Ze.mk c 1)]))).bind fun r26=>
   some (.inr (.inl (r26.1,r26.2.1,r26.2.2.1,r26.2.2.2.1,r26.2.2.2.2)))
  else
   (Zam (Ze.mk c 1) (w64 (x7.work-x4.pos)) (mA++[(w64 (x4.pos-0))]) (mH++[(Ze.mk c 0)])).bind fun x27=>
   (ZI (w64 ((Z5 (fun ka kb:Int=>(ka==kb)) (Zu (fun ka kb:Int=>(ka==kb)) (Zu (fun ka kb:Int=>(ka==kb)) mJ c (w64 ((List.length (mH++[(Ze.mk c 0)]):Int)-1))) c (w64 ((List.length ((mH++[(Ze.mk c 0)])++[(Ze.mk c 1)]):Int)-1))) c 0)-1)) (Z5 (fun ka kb:Int=>(ka==kb)) (Zu (fun ka kb:Int=>(ka==kb)) (Zu (fun ka kb:Int=>(ka==kb)) mJ c (w64 ((List.length (mH++[(Ze.mk c 0)]):Int)-1))) c (w64 ((List.length ((mH++[(Ze.mk c 0)])++[(Ze.mk c 1)]):Int)-1))) c 0) mI).bind fun x28=>
   (Zy x0 0).bind fun x29=>
   (Zy b.futures x29).bind fun x30=>
   (lp (ZB b c x0) (x7.work,2,(Zu (fun ka kb:Int=>(ka==kb)) (Zu (fun ka kb:Int=>(ka==kb)) mJ c (w64 ((List.length (mH++[(Ze.mk c 0)]):Int)-1))) c (w64 ((List.length ((mH++[(Ze.mk c 0)])++[(Ze.mk c 1)]):Int)-1))),(Zu (fun ka kb:Zg=>((ka.maker==kb.maker)&&((ka.user==kb.user)&&((ka.pos==kb.pos)&&true)))) mM x30 (Z5 (fun ka kb:Int=>(ka==kb)) (Zu (fun ka kb:Int=>(ka==kb)) (Zu (fun ka kb:Int=>(ka==kb)) mJ c (w64 ((List.length (mH++[(Ze.mk c 0)]):Int)-1))) c (w64 ((List.length ((mH++[(Ze.mk c 0)])++[(Ze.mk c 1)]):Int)-1))) c 0)),((mA++[(w64 (x4.pos-0))])++[(w64 (x7.work-x4.pos))]),(mI++[(Zi.mk (w64 ((Z5 (fun ka kb:Int=>(ka==kb)) (Zu (fun ka kb:Int=>(ka==kb)) (Zu (fun ka kb:Int=>(ka==kb)) mJ c (w64 ((List.length (mH++[(Ze.mk c 0)]):Int)-1))) c (w64 ((List.length ((mH++[(Ze.mk c 0)])++[(Ze.mk c 1)]):Int)-1))) c 0)-1)) (Z5 (fun ka kb:Int=>(ka==kb)) (Zu (fun ka kb:Int=>(ka==kb)) (Zu (fun ka kb:Int=>(ka==kb)) mJ c (w64 ((List.length (mH++[(Ze.mk c 0)]):Int)-1))) c (w64 ((List.length ((mH++[(Ze.mk c 0)])++[(Ze.mk c 1)]):Int)-1))) c 0))]),((mH++[(Ze.mk c 0)])++[(Ze.mk c 1)]))).bind fun r43=>
   some (.inr (.inl (r43.1,r43.2.1,r43.2.2.1,r43.2.2.2.1,r43.2.2.2.2)))
 else
  some (.inr (.inr ()))
def ZcT (b:Zq) (c:Int) (mA:List Int) (mI:List Zi) (mH:List Ze) (mJ:(List (Int×Int))) (mM:(List (Zg×Int))) (x0:List Int) (x2:ZU) (s46:Unit):Option (Unit⊕(((List (Int×Int))×(List (Zg×Int))×(List Int)×(List Zi)×(List Ze))⊕Unit)):=
 bif (decide (1<(w64 ((x0.length:Int)+1)))) then
  (Zy b.parts c).bind fun x47=>
  bif (decide (1<(x0.length:Int))) then
   (Zy x0 1).bind fun x48=>
   (Zy b.futures x48).bind fun x49=>
   (Zam (Ze.mk c 1) (w64 (x49.pos-x2.work)) (mA++[(w64 (x2.work-0))]) (mH++[(Ze.mk c 0)])).bind fun x50=>
   (ZI (w64 ((Z5 (fun ka kb:Int=>(ka==kb)) (Zu (fun ka kb:Int=>(ka==kb)) (Zu (fun ka kb:Int=>(ka==kb)) mJ c (w64 ((List.length (mH++[(Ze.mk c 0)]):Int)-1))) c (w64 ((List.length ((mH++[(Ze.mk c 0)])++[(Ze.mk c 1)]):Int)-1))) c 0)-1)) (Z5 (fun ka kb:Int=>(ka==kb)) (Zu (fun ka kb:Int=>(ka==kb)) (Zu (fun ka kb:Int=>(ka==kb)) mJ c (w64 ((List.length (mH++[(Ze.mk c 0)]):Int)-1))) c (w64 ((List.length ((mH++[(Ze.mk c 0)])++[(Ze.mk c 1)]):Int)-1))) c 0) mI).bind fun x51=>
   (Zy x0 0).bind fun x52=>
   (Zy b.futures x52).bind fun x53=>
   (lp (ZB b c x0) (x49.pos,2,(Zu (fun ka kb:Int=>(ka==kb)) (Zu (fun ka kb:Int=>(ka==kb)) mJ c (w64 ((List.length (mH++[(Ze.mk c 0)]):Int)-1))) c (w64 ((List.length ((mH++[(Ze.mk c 0)])++[(Ze.mk c 1)]):Int)-1))),(Zu (fun ka kb:Zg=>((ka.maker==kb.maker)&&((ka.user==kb.user)&&((ka.pos==kb.pos)&&true)))) mM x53 (Z5 (fun ka kb:Int=>(ka==kb)) (Zu (fun ka kb:Int=>(ka==kb)) (Zu (fun ka kb:Int=>(ka==kb)) mJ c (w64 ((List.length (mH++[(Ze.mk c 0)]):Int)-1))) c (w64 ((List.length ((mH++[(Ze.mk c 0)])++[(Ze.mk c 1)]):Int)-1))) c 0)),((mA++[(w64 (x2.work-0))])++[(w64 (x49.pos-x2.work))]),(mI++[(Zi.mk (w64 ((Z5 (fun ka kb:Int=>(ka==kb)) (Zu (fun ka kb:Int=>(ka==kb)) (Zu (fun ka kb:Int=>(ka==kb)) mJ c (w64 ((List.length (mH++[(Ze.mk c 0)]):Int)-1))) c (w64 ((List.length ((mH++[(Ze.mk c 0)])++[(Ze.mk c 1)]):Int)-1))) c 0)-1)) (Z5 (fun ka kb:Int=>(ka==kb)) (Zu (fun ka kb:Int=>(ka==kb)) (Zu (fun ka kb:Int=>(ka==kb)) mJ c (w64 ((List.length (mH++[(Ze.mk c 0)]):Int)-1))) c (w64 ((List.length ((mH++[(Ze.mk c 0)])++[(Ze.mk c 1)]):Int)-1))) c 0))]),((mH++[(Ze.mk c 0)])++[(Ze.mk c 1)]))).bind fun r66=>
   some (.inr (.inl (r66.1,r66.2.1,r66.2.2.1,r66.2.2.2.1,r66.2.2.2.2)))
  else
   (Zam (Ze.mk c 1) (w64 (x47.work-x2.work)) (mA++[(w64 (x2.work-0))]) (mH++[(Ze.mk c 0)])).bind fun x67=>
   (ZI (w64 ((Z5 (fun ka kb:Int=>(ka==kb)) (Zu (fun ka kb:Int=>(ka==kb)) (Zu (fun ka kb:Int=>(ka==kb)) mJ c (w64 ((List.length (mH++[(Ze.mk c 0)]):Int)-1))) c (w64 ((List.length ((mH++[(Ze.mk c 0)])++[(Ze.mk c 1)]):Int)-1))) c 0)-1)) (Z5 (fun ka kb:Int=>(ka==kb)) (Zu (fun ka kb:Int=>(ka==kb)) (Zu (fun ka kb:Int=>(ka==kb)) mJ c (w64 ((List.length (mH++[(Ze.mk c 0)]):Int)-1))) c (w64 ((List.length ((mH++[(Ze.mk c 0)])++[(Ze.mk c 1)]):Int)-1))) c 0) mI).bind fun x68=>
   (Zy x0 0).bind fun x69=>
   (Zy b.futures x69).bind fun x70=>
   (lp (ZB b c x0) (x47.work,2,(Zu (fun ka kb:Int=>(ka==kb)) (Zu (fun ka kb:Int=>(ka==kb)) mJ c (w64 ((List.length (mH++[(Ze.mk c 0)]):Int)-1))) c (w64 ((List.length ((mH++[(Ze.mk c 0)])++[(Ze.mk c 1)]):Int)-1))),(Zu (fun ka kb:Zg=>((ka.maker==kb.maker)&&((ka.user==kb.user)&&((ka.pos==kb.pos)&&true)))) mM x70 (Z5 (fun ka kb:Int=>(ka==kb)) (Zu (fun ka kb:Int=>(ka==kb)) (Zu (fun ka kb:Int=>(ka==kb)) mJ c (w64 ((List.length (mH++[(Ze.mk c 0)]):Int)-1))) c (w64 ((List.length ((mH++[(Ze.mk c 0)])++[(Ze.mk c 1)]):Int)-1))) c 0)),((mA++[(w64 (x2.work-0))])++[(w64 (x47.work-x2.work))]),(mI++[(Zi.mk (w64 ((Z5 (fun ka kb:Int=>(ka==kb)) (Zu (fun ka kb:Int=>(ka==kb)) (Zu (fun ka kb:Int=>(ka==kb)) mJ c (w64 ((List.length (mH++[(Ze.mk c 0)]):Int)-1))) c (w64 ((List.length ((mH++[(Ze.mk c 0)])++[(Ze.mk c 1)]):Int)-1))) c 0)-1)) (Z5 (fun ka kb:Int=>(ka==kb)) (Zu (fun ka kb:Int=>(ka==kb)) (Zu (fun ka kb:Int=>(ka==kb)) mJ c (w64 ((List.length (mH++[(Ze.mk c 0)]):Int)-1))) c (w64 ((List.length ((mH++[(Ze.mk c 0)])++[(Ze.mk c 1)]):Int)-1))) c 0))]),((mH++[(Ze.mk c 0)])++[(Ze.mk c 1)]))).bind fun r83=>
   some (.inr (.inl (r83.1,r83.2.1,r83.2.2.1,r83.2.2.2.1,r83.2.2.2.2)))
 else
  some (.inr (.inr ()))
def Zb7 (b:Zq) (c:Int) (mA:List Int) (mI:List Zi) (mH:List Ze) (mJ:(List (Int×Int))) (mM:(List (Zg×Int))) (x0:List Int) (s1:Unit):Option (Unit⊕(((List (Int×Int))×(List (Zg×Int))×(List Int)×(List Zi)×(List Ze))⊕((List Int)⊕Unit))):=
 bif (decide (0<(w64 ((x0.length:Int)+1)))) then
  (Zy b.parts c).bind fun x2=>
  bif (decide (0<(x0.length:Int))) then
   (Zy x0 0).bind fun x3=>
   (Zy b.futures x3).bind fun x4=>
   (Zam (Ze.mk c 0) (w64 (x4.pos-0)) mA mH).bind fun x5=>
   (lp (Zb6 b c mA mI mH mJ mM x0 x4) ()).bind fun r44=>
   match r44 with
   | (.inl r44)=>
    some (.inr (.inl (r44.1,r44.2.1,r44.2.2.1,r44.2.2.2.1,r44.2.2.2.2)))
   | (.inr r44)=>
    some (.inr (.inr (.inl (mA++[(w64 (x4.pos-0))]))))
  else
   (Zam (Ze.mk c 0) (w64 (x2.work-0)) mA mH).bind fun x45=>
   (lp (ZcT b c mA mI mH mJ mM x0 x2) ()).bind fun r84=>
   match r84 with
   | (.inl r84)=>
    some (.inr (.inl (r84.1,r84.2.1,r84.2.2.1,r84.2.2.2.1,r84.2.2.2.2)))
   | (.inr r84)=>
    some (.inr (.inr (.inl (mA++[(w64 (x2.work-0))]))))
 else
  some (.inr (.inr (.inr ())))
def Zfw (b:Zq) (c:Int) (mA:List Int) (mI:List Zi) (mH:List Ze) (mJ:(List (Int×Int))) (mM:(List (Zg×Int))):Option (((List (Int×Int))×(List (Zg×Int))×(List Int)×(List Zi)×(List Ze))⊕((List Int)⊕Unit)):=
 (Zd9 b c).bind fun x0=>
 (lp (Zb7 b c mA mI mH mJ mM x0) ()).bind fun r85=>
 match r85 with
 | (.inl r85)=>
  some (.inl (r85.1,r85.2.1,r85.2.2.1,r85.2.2.2.1,r85.2.2.2.2))
 | (.inr (.inl r85))=>
  some (.inr (.inl r85))
 | (.inr (.inr r85))=>
  some (.inr (.inr ()))
def ZdC (a:Int):Option Bool:=
 bif (decide (a<0)) then
  some true
 else
  bif (decide (1000<a)) then
   some true
  else
   some false
def Zho (a:Int) (b0:List Int):Option Bool:=
 bif (decide (0<=a)) then
  bif (decide (a<(b0.length:Int))) then
   some true
  else
   some false
 else
  some false
def Zg3 (a:ZF) (s0:(List Int)×(List Bool)) (s1:Int) (s3:Int):Option (Int⊕(Unit⊕Unit)):=
 bif (decide (s3<(a.edges.length:Int))) then
  (Zy a.edges s3).bind fun x4=>
  bif (x4.dst==s1) then
   (Zy s0.2 x4.src).bind fun x5=>
   bif x5 then
    some (.inl (w64 (s3+1)))
   else
    some (.inr (.inl ()))
  else
   some (.inl (w64 (s3+1)))
 else
  some (.inr (.inr ()))
def Zfx (a:ZF) (s0:(List Int)×(List Bool)) (s1:Int):Option (Int⊕(((List Int)×(List Bool))⊕Unit)):=
 bif (decide (s1<(a.work.length:Int))) then
  (Zy s0.2 s1).bind fun x2=>
  bif x2 then
   some (.inl (w64 (s1+1)))
  else
   (lp (Zg3 a s0 s1) 0).bind fun r6=>
   match r6 with
   | (.inl r6)=>
    some (.inl (w64 (s1+1)))
   | (.inr r6)=>
    bif (Nat.ble (List.length s0.1+1) lim) then
     some (.inr (.inl ((s0.1++[s1]),(List.set s0.2 s1.toNat true))))
    else
     none
 else
  some (.inr (.inr ()))
def Zg5 (a:ZF) (s0:(List Int)×(List Bool)):Option (((List Int)×(List Bool))⊕((List Int)⊕(List Int))):=
 bif (decide ((s0.1.length:Int)<(a.work.length:Int))) then
  (lp (Zfx a s0) 0).bind fun r7=>
  match r7 with
  | (.inl r7)=>
   some (.inl (r7.1,r7.2))
  | (.inr r7)=>
   some (.inr (.inl s0.1))
 else
  some (.inr (.inr s0.1))
def ZgN (a:ZF):Option ((List Int)×Bool):=
 bif (decide (0<=(a.work.length:Int))&&decide ((a.work.length:Int)<=lim)&&decide ((a.work.length:Int)==(a.work.length:Int))) then
  (lp (Zg5 a) (([]:List Int),(List.replicate (a.work.length:Int).toNat (false:Bool)))).bind fun r8=>
  match r8 with
  | (.inl r8)=>
   some (([]:List Int),false)
  | (.inr r8)=>
   some (r8,true)
 else
  none
def ZfR (a:ZF) (s1:Int):Option (Int⊕(Unit⊕Unit)):=
 bif (decide (s1<(a.edges.length:Int))) then
  (Zy a.edges s1).bind fun x2=>
  (Zho x2.src a.work).bind fun x3=>
  bif x3 then
   (Zho x2.dst a.work).bind fun x4=>
   bif x4 then
    bif (x2.src==x2.dst) then
     some (.inr (.inl ()))
    else
     bif (decide (0<=s1)) then
      bif (Nat.ble s1.toNat (List.length a.edges)) then
       (Zbe (List.take s1.toNat a.edges) x2).bind fun x5=>
       bif x5 then
        some (.inr (.inl ()))
       else
        some (.inl (w64 (s1+1)))
      else
       none
     else
      none
   else
    some (.inr (.inl ()))
  else
   some (.inr (.inl ()))
 else
  some (.inr (.inr ()))
def ZeP (a:ZF):Option Int:=
 bif (decide (64<(a.work.length:Int))) then
  some 40
 else
  bif (decide (256<(a.edges.length:Int))) then
   some 40
  else
   (ZC a.work (fun z0=>ZdC z0)).bind fun x0=>
   bif x0 then
    some 41
   else
    (lp (ZfR a) 0).bind fun r6=>
    match r6 with
    | (.inl r6)=>
     some 42
    | (.inr r6)=>
     (ZgN a).bind fun x7=>
     bif x7.2 then
      some 0
     else
      some 43
def ZcM (a:Zq) (s1:Int×(List Int)×(List Zi)×(List Ze)×(List (Int×Int))×(List (Int×Int))×(List (Zg×Int))):Option ((Int×(List Int)×(List Zi)×(List Ze)×(List (Int×Int))×(List (Int×Int))×(List (Zg×Int)))⊕((List Int)×(List Zi)×(List Ze)×(List (Int×Int))×(List (Int×Int))×(List (Zg×Int)))):=
 bif (decide (s1.1<(a.parts.length:Int))) then
  (Zfw a s1.1 s1.2.1 s1.2.2.1 s1.2.2.2.1 s1.2.2.2.2.2.1 s1.2.2.2.2.2.2).bind fun x2=>
  match x2 with
  | (.inl x2)=>
   some (.inl ((w64 (s1.1+1)),x2.2.2.1,x2.2.2.2.1,x2.2.2.2.2,(Zu (fun ka kb:Int=>(ka==kb)) s1.2.2.2.2.1 s1.1 (s1.2.2.2.1.length:Int)),x2.1,x2.2.1))
  | (.inr (.inl x2))=>
   some (.inl ((w64 (s1.1+1)),x2,s1.2.2.1,(s1.2.2.2.1++[(Ze.mk s1.1 0)]),(Zu (fun ka kb:Int=>(ka==kb)) s1.2.2.2.2.1 s1.1 (s1.2.2.2.1.length:Int)),(Zu (fun ka kb:Int=>(ka==kb)) s1.2.2.2.2.2.1 s1.1 (w64 ((List.length (s1.2.2.2.1++[(Ze.mk s1.1 0)]):Int)-1))),s1.2.2.2.2.2.2))
  | (.inr (.inr x2))=>
   some (.inl ((w64 (s1.1+1)),s1.2.1,s1.2.2.1,s1.2.2.2.1,(Zu (fun ka kb:Int=>(ka==kb)) s1.2.2.2.2.1 s1.1 (s1.2.2.2.1.length:Int)),s1.2.2.2.2.2.1,s1.2.2.2.2.2.2))
 else
  some (.inr (s1.2.1,s1.2.2.1,s1.2.2.2.1,s1.2.2.2.2.1,s1.2.2.2.2.2.1,s1.2.2.2.2.2.2))
def ZdI (a:Zq) (r3:((List Int)×(List Zi)×(List Ze)×(List (Int×Int))×(List (Int×Int))×(List (Zg×Int)))) (s4:Int×(List Zi)):Option ((Int×(List Zi))⊕(List Zi)):=
 bif (decide (s4.1<(a.edges.length:Int))) then
  (Zy a.edges s4.1).bind fun x5=>
  (ZI (Z5 (fun ka kb:Int=>(ka==kb)) r3.2.2.2.2.1 x5.src 0) (Z5 (fun ka kb:Int=>(ka==kb)) r3.2.2.2.1 x5.dst 0) s4.2).bind fun x6=>
  some (.inl ((w64 (s4.1+1)),(s4.2++[(Zi.mk (Z5 (fun ka kb:Int=>(ka==kb)) r3.2.2.2.2.1 x5.src 0) (Z5 (fun ka kb:Int=>(ka==kb)) r3.2.2.2.1 x5.dst 0))])))
 else
  some (.inr s4.2)
def ZdP (a:Zq) (r3:((List Int)×(List Zi)×(List Ze)×(List (Int×Int))×(List (Int×Int))×(List (Zg×Int)))) (s8:Int×(List Zi)):Option ((Int×(List Zi))⊕(List Zi)):=
 bif (decide (s8.1<(a.futures.length:Int))) then
  (Zy a.futures s8.1).bind fun x9=>
  (ZI (Z5 (fun ka kb:Int=>(ka==kb)) r3.2.2.2.2.1 x9.maker 0) (Z5 (fun ka kb:Zg=>((ka.maker==kb.maker)&&((ka.user==kb.user)&&((ka.pos==kb.pos)&&true)))) r3.2.2.2.2.2 x9 0) s8.2).bind fun x10=>
  some (.inl ((w64 (s8.1+1)),(s8.2++[(Zi.mk (Z5 (fun ka kb:Int=>(ka==kb)) r3.2.2.2.2.1 x9.maker 0) (Z5 (fun ka kb:Zg=>((ka.maker==kb.maker)&&((ka.user==kb.user)&&((ka.pos==kb.pos)&&true)))) r3.2.2.2.2.2 x9 0))])))
 else
  some (.inr s8.2)
def ZfA (r3:((List Int)×(List Zi)×(List Ze)×(List (Int×Int))×(List (Int×Int))×(List (Zg×Int)))) (s12:Int×(List Int)×(List Zi)×(List Ze)) (x13:Zr) (s15:Int×(List Zi)):Option ((Int×(List Zi))⊕(List Zi)):=
 bif (decide (s15.1<(x13.ins.length:Int))) then
  (Zy x13.ins s15.1).bind fun x16=>
  (ZI (Z5 (fun ka kb:Int=>(ka==kb)) r3.2.2.2.2.1 x16 0) (w64 ((List.length (s12.2.2.2++[(Ze.mk (-1) s12.1)]):Int)-1)) s15.2).bind fun x17=>
  some (.inl ((w64 (s15.1+1)),(s15.2++[(Zi.mk (Z5 (fun ka kb:Int=>(ka==kb)) r3.2.2.2.2.1 x16 0) (w64 ((List.length (s12.2.2.2++[(Ze.mk (-1) s12.1)]):Int)-1)))])))
 else
  some (.inr s15.2)
def ZfC (r3:((List Int)×(List Zi)×(List Ze)×(List (Int×Int))×(List (Int×Int))×(List (Zg×Int)))) (s12:Int×(List Int)×(List Zi)×(List Ze)) (x13:Zr) (s19:Int×(List Zi)):Option ((Int×(List Zi))⊕(List Zi)):=
 bif (decide (s19.1<(x13.outs.length:Int))) then
  (Zy x13.outs s19.1).bind fun x20=>
  (ZI (w64 ((List.length (s12.2.2.2++[(Ze.mk (-1) s12.1)]):Int)-1)) (Z5 (fun ka kb:Int=>(ka==kb)) r3.2.2.2.1 x20 0) s19.2).bind fun x21=>
  some (.inl ((w64 (s19.1+1)),(s19.2++[(Zi.mk (w64 ((List.length (s12.2.2.2++[(Ze.mk (-1) s12.1)]):Int)-1)) (Z5 (fun ka kb:Int=>(ka==kb)) r3.2.2.2.1 x20 0))])))
 else
  some (.inr s19.2)
def ZdL (a:Zq) (r3:((List Int)×(List Zi)×(List Ze)×(List (Int×Int))×(List (Int×Int))×(List (Zg×Int)))) (s12:Int×(List Int)×(List Zi)×(List Ze)):Option ((Int×(List Int)×(List Zi)×(List Ze))⊕((List Int)×(List Zi)×(List Ze))):=
 bif (decide (s12.1<(a.barriers.length:Int))) then
  (Zy a.barriers s12.1).bind fun x13=>
  (Zam (Ze.mk (-1) s12.1) 1 s12.2.1 s12.2.2.2).bind fun x14=>
  (lp (ZfA r3 s12 x13) (0,s12.2.2.1)).bind fun r18=>
  (lp (ZfC r3 s12 x13) (0,r18)).bind fun r22=>
  some (.inl ((w64 (s12.1+1)),(s12.2.1++[1]),r22,(s12.2.2.2++[(Ze.mk (-1) s12.1)])))
 else
  some (.inr (s12.2.1,s12.2.2.1,s12.2.2.2))
def Zhs (a:Zq):Option (ZvT×Int):=
 (Zh3 a).bind fun x0=>
 bif (x0 != 0) then
  some ((ZvT.mk (ZF.mk ([]:List Int) ([]:List Zi)) ([]:List Ze)),x0)
 else
  (lp (ZcM a) (0,([]:List Int),([]:List Zi),([]:List Ze),([]:(List (Int×Int))),([]:(List (Int×Int))),([]:(List (Zg×Int))))).bind fun r3=>
  (lp (ZdI a r3) (0,r3.2.1)).bind fun r7=>
  (lp (ZdP a r3) (0,r7)).bind fun r11=>
  (lp (ZdL a r3) (0,r3.1,r11,r3.2.2.1)).bind fun r23=>
  (ZeP (ZF.mk r23.1 r23.2.1)).bind fun x24=>
  bif (x24 != 0) then
   some ((ZvT.mk (ZF.mk ([]:List Int) ([]:List Zi)) ([]:List Ze)),70)
  else
   some ((ZvT.mk (ZF.mk r23.1 r23.2.1) r23.2.2),0)
def ZgO (a:ZF) (s1:Int×Int):Option ((Int×Int)⊕Int):=
 bif (decide (s1.2<(a.work.length:Int))) then
  (Zy a.work s1.2).bind fun x2=>
  some (.inl ((w64 (s1.1+x2)),(w64 (s1.2+1))))
 else
  some (.inr s1.1)
def Zkl (a:ZF):Option Int:=
 (ZeP a).bind fun x0=>
 bif (x0==0) then
  (lp (ZgO a) (0,0)).bind fun r3=>
  some r3
 else
  some 0
def Zko (a:ZF):Option (List Int):=
 (ZeP a).bind fun x0=>
 bif (x0 != 0) then
  some ([]:List Int)
 else
  (ZgN a).bind fun x1=>
  bif x1.2 then
   some x1.1
  else
   some x1.1
def Zgs (a:Zi) (b0:Int):Option (Int×Bool):=
 bif (a.dst==b0) then
  some (a.src,true)
 else
  some (a.src,false)
def Zcj (mG:List Int):Option (List Int):=
 bif (Nat.ble (List.length mG) lim) then
  (some (sortI mG)).bind fun x0=>
  some x0
 else
  none
def Zdw (a:ZF) (b:(Zi->Option (Int×Bool))) (s0:Int×(List Int)):Option ((Int×(List Int))⊕(List Int)):=
 bif (decide (s0.1<(a.edges.length:Int))) then
  (Zy a.edges s0.1).bind fun x1=>
  (b x1).bind fun x2=>
  bif x2.2 then
   bif (Nat.ble (List.length s0.2+1) lim) then
    some (.inl ((w64 (s0.1+1)),(s0.2++[x2.1])))
   else
    none
  else
   some (.inl ((w64 (s0.1+1)),s0.2))
 else
  some (.inr s0.2)
def Zjw (a:ZF) (b:(Zi->Option (Int×Bool))):Option (List Int):=
 (lp (Zdw a b) (0,([]:List Int))).bind fun r3=>
 (Zcj r3).bind fun x4=>
 some x4
def Zku (a:ZF) (b:Int):Option (List Int):=
 (Zjw a (fun z0=>Zgs z0 b)).bind fun x0=>
 some x0
def Zgy (x2:Int) (x3:List Int) (s4:Int×(List Int)):Option ((Int×(List Int))⊕(List Int)):=
 bif (decide (s4.1<(x3.length:Int))) then
  (Zy x3 s4.1).bind fun x5=>
  (Zy s4.2 x2).bind fun x6=>
  (Zy s4.2 x5).bind fun x7=>
  some (.inl ((w64 (s4.1+1)),(List.set s4.2 x2.toNat (bif decide (x6<x7) then x7 else x6))))
 else
  some (.inr s4.2)
def ZgA (a:ZF) (x0:List Int) (s1:Int×Int×(List Int)):Option ((Int×Int×(List Int))⊕Int):=
 bif (decide (s1.2.1<(x0.length:Int))) then
  (Zy x0 s1.2.1).bind fun x2=>
  (Zku a x2).bind fun x3=>
  (lp (Zgy x2 x3) (0,s1.2.2)).bind fun r8=>
  (Zy r8 x2).bind fun x9=>
  (Zy a.work x2).bind fun x10=>
  (Zy (List.set r8 x2.toNat (w64 (x9+x10))) x2).bind fun x11=>
  some (.inl ((bif decide (s1.1<x11) then x11 else s1.1),(w64 (s1.2.1+1)),(List.set r8 x2.toNat (w64 (x9+x10)))))
 else
  some (.inr s1.1)
def Zl5 (a:ZF):Option Int:=
 bif (decide (0<=(a.work.length:Int))&&decide ((a.work.length:Int)<=lim)&&decide ((a.work.length:Int)==(a.work.length:Int))) then
  (Zko a).bind fun x0=>
  (lp (ZgA a x0) (0,0,(List.replicate (a.work.length:Int).toNat (0:Int)))).bind fun r12=>
  some r12
 else
  none
def Zbf (a:List Int) (s1:Int×Int):Option ((Int×Int)⊕Int):=
 bif (decide (s1.2<(a.length:Int))) then
  (Zy a s1.2).bind fun x2=>
  some (.inl ((bif decide (s1.1<x2) then x2 else s1.1),(w64 (s1.2+1))))
 else
  some (.inr s1.1)
def Zcs (a:List Int):Option Int:=
 bif (decide ((a.length:Int)<1)) then
  none
 else
  (Zy a 0).bind fun x0=>
  (lp (Zbf a) (x0,1)).bind fun r3=>
  some r3
def Zhl (a:Zq):Option (Zd6×Int):=
 (Zhs a).bind fun x0=>
 bif (x0.2 != 0) then
  some ((Zd6.mk 0 0 0 0 0),x0.2)
 else
  (Zkl x0.1.dag).bind fun x1=>
  (Zl5 x0.1.dag).bind fun x2=>
  (Zcs x0.1.dag.work).bind fun x3=>
  some ((Zd6.mk x1 x2 x3 a.deadline a.period),0)
def Zdh (a:Int) (b:Int):Option Bool:=
 bif (decide (1<=a)) then
  bif (decide (a<=b)) then
   some true
  else
   some false
 else
  some false
def ZiA (a:Zd6):Option Int:=
 (ZhJ a.period).bind fun x0=>
 bif x0.2 then
  bif (decide (4096<a.period)) then
   some 140
  else
   (Zdh a.deadline a.period).bind fun x1=>
   bif x1 then
    (Zdh a.total 4096).bind fun x2=>
    bif x2 then
     (Zdh a.long a.total).bind fun x3=>
     bif x3 then
      (Zdh a.most a.long).bind fun x4=>
      bif x4 then
       some 0
      else
       some 140
     else
      some 140
    else
     some 140
   else
    some 140
 else
  some 140
def ZoH (a:Zd6):Option (Unit⊕Unit):=
 bif (decide (a.deadline<a.total)) then
  some (.inl ())
 else
  some (.inr ())
def Zmd (a0:Int):Option Int:=
 some (w64 (a0-1))
def ZcO (a:Int):Option Bool:=
 (ZgP a).bind fun x0=>
 bif (x0 != 0) then
  some true
 else
  some false
def ZkO (a:List Int):Option Int:=
 (ZG a (fun z0=>ZcO z0)).bind fun x0=>
 bif (decide (x0<0)) then
  some 0
 else
  (Zy a x0).bind fun x1=>
  (ZgP x1).bind fun x2=>
  some x2
def Zj7 (a:Int) (b:Int) (c:(Option Int)):Option (Int×Int):=
 (ZkO [a,b]).bind fun x0=>
 bif (x0 != 0) then
  some (0,x0)
 else
  bif (b==0) then
   some (0,12)
  else
   (c).bind fun x1=>
   bif (b==0) then
    none
   else
    some ((w64 (Int.tdiv (w64 (a+x1)) b)),0)
def Zpf (a:Int) (b:Int):Option (Int×Int):=
 (Zj7 a b (Zmd b)).bind fun x0=>
 some (x0.1,x0.2)
def ZhD (a:Zyw):Option Zhn:=
 bif (decide (a.shape.deadline<=a.shape.long)) then
  some (Zhn.mk 0 141)
 else
  (Zpf (w64 (a.shape.total-a.shape.long)) (w64 (a.shape.deadline-a.shape.long))).bind fun x0=>
  bif (x0.2==0) then
   bif (decide (8<x0.1)) then
    some (Zhn.mk 0 142)
   else
    some (Zhn.mk x0.1 x0.2)
  else
   some (Zhn.mk x0.1 x0.2)
def Zj9 (a:Zza):Option Zhn:=
 some (Zhn.mk 1 0)
def ZiC (a:Zd6):Option (Int×Int):=
 (ZiA a).bind fun x0=>
 bif (x0 != 0) then
  some (0,x0)
 else
  (ZoH a).bind fun x1=>
  match x1 with
  | (.inl x1)=>
   (ZhD (Zyw.mk a)).bind fun x2=>
   some (x2.cores,x2.e)
  | (.inr x1)=>
   (Zj9 (Zza.mk a)).bind fun x3=>
   some (x3.cores,x3.e)
def Zde (a:Int):Option Bool:=
 bif (decide (a<1)) then
  some true
 else
  bif (decide (1000<a)) then
   some true
  else
   some false
def ZiD (a:ZF) (b:List Int) (c:Int):Option (Bool×Int):=
 (ZeP a).bind fun x0=>
 bif (x0 != 0) then
  some (false,x0)
 else
  bif ((b.length:Int)==(a.work.length:Int)) then
   (ZC b (fun z0=>Zde z0)).bind fun x1=>
   bif x1 then
    some (false,0)
   else
    bif (decide (1<=c)) then
     bif (decide (c<=8)) then
      some (true,0)
     else
      some (false,0)
    else
     some (false,0)
  else
   some (false,0)
def ZfF (a:List Int) (b0:Int):Option Bool:=
 bif ((a.length:Int) != b0) then
  some true
 else
  some false
def Zes (a:(List (List Int))) (b:((List Int)->Option Bool)) (s0:Int):Option (Int⊕(Int⊕Unit)):=
 bif (decide (s0<(a.length:Int))) then
  (Zy a s0).bind fun x1=>
  (b x1).bind fun x2=>
  bif x2 then
   some (.inr (.inl s0))
  else
   some (.inl (w64 (s0+1)))
 else
  some (.inr (.inr ()))
def ZcK (a:(List (List Int))) (b:((List Int)->Option Bool)):Option Int:=
 (lp (Zes a b) 0).bind fun r3=>
 match r3 with
 | (.inl r3)=>
  some r3
 | (.inr r3)=>
  some (-1)
def Zbs (a:(List (List Int))) (b:((List Int)->Option Bool)):Option Bool:=
 (ZcK a b).bind fun x0=>
 bif (decide (0<=x0)) then
  some true
 else
  some false
def ZcE (a:List Int) (s0:Int×(List Int)):Option ((Int×(List Int))⊕(List Int)):=
 bif (decide (s0.1<(a.length:Int))) then
  (Zy s0.2 s0.1).bind fun x1=>
  some (.inl ((w64 (s0.1+1)),(List.set s0.2 s0.1.toNat (-1))))
 else
  some (.inr s0.2)
def Zix (a:List Int):Option (List Int):=
 bif (decide (0<=(a.length:Int))&&decide ((a.length:Int)<=lim)&&decide ((a.length:Int)==(a.length:Int))) then
  bif (decide (0<=(a.length:Int))&&decide ((a.length:Int)<=lim)&&decide ((a.length:Int)==(a.length:Int))) then
   bif (decide (0<=(a.length:Int))&&decide ((a.length:Int)<=lim)&&decide ((a.length:Int)==(a.length:Int))) then
    (lp (ZcE a) (0,(List.replicate (a.length:Int).toNat (0:Int)))).bind fun r2=>
    some r2
   else
    none
  else
   none
 else
  none
def Zkq (a3:List Int) (b:Int) (c:Int):Option Bool:=
 (Zy a3 b).bind fun x0=>
 bif (decide (0<=x0)) then
  bif (decide (x0<=c)) then
   some true
  else
   some false
 else
  some false
def Zdm (a:Zi) (b0:Int) (c3:List Int) (d0:Int):Option Bool:=
 bif (a.dst==b0) then
  (Zkq c3 a.src d0).bind fun x0=>
  bif x0 then
   some false
  else
   some true
 else
  some false
def ZaG (a:List Zi) (b:(Zi->Option Bool)) (s0:Int):Option (Int⊕(Int⊕Unit)):=
 bif (decide (s0<(a.length:Int))) then
  (Zy a s0).bind fun x1=>
  (b x1).bind fun x2=>
  bif x2 then
   some (.inr (.inl s0))
  else
   some (.inl (w64 (s0+1)))
 else
  some (.inr (.inr ()))
def ZbU (a:List Zi) (b:(Zi->Option Bool)):Option Int:=
 (lp (ZaG a b) 0).bind fun r3=>
 match r3 with
 | (.inl r3)=>
  some r3
 | (.inr r3)=>
  some (-1)
def Zao (a:List Zi) (b:(Zi->Option Bool)):Option Bool:=
 (ZbU a b).bind fun x0=>
 bif (decide (0<=x0)) then
  some true
 else
  some false
def ZhX (a3:List Int) (b:ZF) (c:Int) (d:Int):Option Bool:=
 (Zao b.edges (fun z0=>Zdm z0 c a3 d)).bind fun x0=>
 bif x0 then
  some false
 else
  some true
def ZlI (a0:List Int) (a1:List Int) (a2:List Zbv) (a3:List Int) (b:ZF) (c:List Int) (d:Int) (e:Int):Option Int:=
 (Zy c e).bind fun x0=>
 bif (decide (x0<(-1))) then
  some 101
 else
  bif (decide ((a0.length:Int)<=x0)) then
   some 101
  else
   bif (decide (0<=e)) then
    bif (Nat.ble e.toNat (List.length c)) then
     (Z1 (List.take e.toNat c) x0).bind fun x1=>
     bif x1 then
      some 102
     else
      (Zy a1 x0).bind fun x2=>
      (Zy a0 x0).bind fun x3=>
      bif (decide (x3<=x2)) then
       some 105
      else
       bif (decide (0<x2)) then
        (Zy a2 x0).bind fun x4=>
        bif (!((x4.a0==(w64 (d-1)))&&((x4.a1==e)&&true))) then
         some 104
        else
         bif (x2==0) then
          (ZhX a3 b x0 d).bind fun x5=>
          bif x5 then
           some 0
          else
           some 103
         else
          some 0
       else
        bif (x2==0) then
         (ZhX a3 b x0 d).bind fun x6=>
         bif x6 then
          some 0
         else
          some 103
        else
         some 0
    else
     none
   else
    none
def ZpR (b:Int) (c:List Int):Option Unit:=
 some ()
def Zle (b:Int) (c:Int) (d:Int) (mG:List Int) (mA:List Int) (mI:List Zbv) (mH:List Int):Option ((List Int)×(List Int)):=
 (Zy mA b).bind fun x0=>
 (Zy mI b).bind fun x1=>
 (Zy (List.set mA b.toNat (w64 (x0+1))) b).bind fun x2=>
 (Zy mG b).bind fun x3=>
 bif (x2==x3) then
  (Zy mH b).bind fun x4=>
  some ((List.set mA b.toNat (w64 (x0+1))),(List.set mH b.toNat (w64 (c+1))))
 else
  some ((List.set mA b.toNat (w64 (x0+1))),mH)
def ZmF (a:ZF) (b:List Int) (s3:Int×Int×(List Int)×(List Zbv)×(List Int)) (x4:List Int) (s5:Int×Int):Option ((Int×Int)⊕(Int⊕Int)):=
 bif (decide (s5.2<(x4.length:Int))) then
  (Zy x4 s5.2).bind fun x6=>
  bif (x6==(-1)) then
   some (.inl (s5.1,(w64 (s5.2+1))))
  else
   (ZlI b s3.2.2.1 s3.2.2.2.1 s3.2.2.2.2 a x4 s3.2.1 s5.2).bind fun x7=>
   bif (x7 != 0) then
    some (.inr (.inl x7))
   else
    some (.inl (x7,(w64 (s5.2+1))))
 else
  some (.inr (.inr s5.1))
def ZmD (b:List Int) (s3:Int×Int×(List Int)×(List Zbv)×(List Int)) (x4:List Int) (s10:Int×(List Int)×(List Zbv)×(List Int)):Option ((Int×(List Int)×(List Zbv)×(List Int))⊕((List Int)×(List Zbv)×(List Int))):=
 bif (decide (s10.1<(x4.length:Int))) then
  (Zy x4 s10.1).bind fun x11=>
  bif (x11 != (-1)) then
   (Zle x11 s3.2.1 s10.1 b s10.2.1 s10.2.2.1 s10.2.2.2).bind fun x12=>
   some (.inl ((w64 (s10.1+1)),x12.1,(List.set s10.2.2.1 x11.toNat (Zbv.mk s3.2.1 s10.1)),x12.2))
  else
   some (.inl ((w64 (s10.1+1)),s10.2.1,s10.2.2.1,s10.2.2.2))
 else
  some (.inr (s10.2.1,s10.2.2.1,s10.2.2.2))
def Zmy (a:ZF) (b:List Int) (d:(List (List Int))) (s3:Int×Int×(List Int)×(List Zbv)×(List Int)):Option ((Int×Int×(List Int)×(List Zbv)×(List Int))⊕(Int×(List Int)×(List Zbv)×(List Int))):=
 bif (decide (s3.2.1<(d.length:Int))) then
  (Zy d s3.2.1).bind fun x4=>
  (lp (ZmF a b s3 x4) (s3.1,0)).bind fun r8=>
  match r8 with
  | (.inl r8)=>
   some (.inr (r8,s3.2.2.1,s3.2.2.2.1,s3.2.2.2.2))
  | (.inr r8)=>
   (ZpR s3.2.1 x4).bind fun x9=>
   (lp (ZmD b s3 x4) (0,s3.2.2.1,s3.2.2.2.1,s3.2.2.2.2)).bind fun r13=>
   some (.inl (r8,(w64 (s3.2.1+1)),r13.1,r13.2.1,r13.2.2))
 else
  some (.inr (s3.1,s3.2.2.1,s3.2.2.2.1,s3.2.2.2.2))
def Zmu (a:ZF) (b:List Int) (c:Int) (d:(List (List Int))):Option (Int⊕(Int×(List Int)×(List Zbv)×(List Int))):=
 (ZiD a b c).bind fun x0=>
 bif x0.1 then
  bif (x0.2 != 0) then
   some (.inl x0.2)
  else
   bif (decide (4096<(d.length:Int))) then
    some (.inl 100)
   else
    (Zbs d (fun z0=>ZfF z0 c)).bind fun x1=>
    bif x1 then
     some (.inl 100)
    else
     (Zix b).bind fun x2=>
     (lp (Zmy a b d) (x0.2,0,(List.replicate (b.length:Int).toNat (0:Int)),(List.replicate (b.length:Int).toNat ((Zbv.mk 0 0):Zbv)),x2)).bind fun r14=>
     some (.inr (r14.1,r14.2.1,r14.2.2.1,r14.2.2.2))
 else
  bif (x0.2 != 0) then
   some (.inl x0.2)
  else
   some (.inl 100)
def ZiE (a:ZF) (b:List Int) (c:Int) (d:(List (List Int))):Option Int:=
 (Zmu a b c d).bind fun x0=>
 match x0 with
 | (.inl x0)=>
  some x0
 | (.inr x0)=>
  some x0.1
def Zab (a:List Int):Option Unit:=
 bif (Nat.ble (List.length a) lim) then
  some ()
 else
  none
def Zgt (c:Int) (s2:Int×(List Int)):Option ((Int×(List Int))⊕(List Int)):=
 bif (decide (s2.1<c)) then
  bif (Nat.ble (List.length s2.2+1) lim) then
   some (.inl ((w64 (s2.1+1)),(s2.2++[(-1)])))
  else
   none
 else
  some (.inr s2.2)
def Ziv (a:ZF) (b:List Int) (c:Int):Option (Int⊕(List Int)):=
 (ZiE a b c ([]:List (List Int))).bind fun x0=>
 bif (x0 != 0) then
  some (.inl x0)
 else
  (Zab b).bind fun x1=>
  (lp (Zgt c) (0,([]:List Int))).bind fun r3=>
  some (.inr r3)
def Zgh (a:Int):Option Bool:=
 bif (decide (0<a)) then
  some true
 else
  some false
def Zf1 (a:Zbt) (b:Int):Option Bool:=
 (Zy a.left b).bind fun x0=>
 bif (x0==0) then
  some true
 else
  some false
def Zgv (a:Zi) (b0:Int) (c0:List Int) (c1:List Int):Option Bool:=
 bif (a.dst==b0) then
  (Zf1 (Zbt.mk c0 c1) a.src).bind fun x0=>
  bif x0 then
   some false
  else
   some true
 else
  some false
def ZhK (a:ZF) (b:Zbt) (c:Int):Option Bool:=
 (Zao a.edges (fun z0=>Zgv z0 c b.on b.left)).bind fun x0=>
 bif x0 then
  some false
 else
  some true
def Zgk (a:ZF) (b:Zbt) (s0:Int×(List Int)):Option ((Int×(List Int))⊕(List Int)):=
 bif (decide (s0.1<(b.left.length:Int))) then
  (Zf1 b s0.1).bind fun x1=>
  bif x1 then
   some (.inl ((w64 (s0.1+1)),s0.2))
  else
   (Z1 b.on s0.1).bind fun x2=>
   bif x2 then
    some (.inl ((w64 (s0.1+1)),s0.2))
   else
    (ZhK a b s0.1).bind fun x3=>
    bif x3 then
     bif (Nat.ble (List.length s0.2+1) lim) then
      some (.inl ((w64 (s0.1+1)),(s0.2++[s0.1])))
     else
      none
    else
     some (.inl ((w64 (s0.1+1)),s0.2))
 else
  some (.inr s0.2)
def ZhW (a:ZF) (b:Zbt):Option (List Int):=
 (lp (Zgk a b) (0,([]:List Int))).bind fun r4=>
 some r4
def ZfB (mG:List Int) (s1:(List Int)×Int×(List Int)):Option (((List Int)×Int×(List Int))⊕(List Int)):=
 bif (decide (s1.2.1<(mG.length:Int))) then
  (Zy s1.2.2 s1.2.1).bind fun x2=>
  bif (x2==(-1)) then
   bif (decide (0<(s1.1.length:Int))) then
    (Zy s1.1 0).bind fun x3=>
    bif (Nat.ble 1 (List.length s1.1)) then
     some (.inl ((List.drop 1 s1.1),(w64 (s1.2.1+1)),(List.set s1.2.2 s1.2.1.toNat x3)))
    else
     none
   else
    some (.inl (s1.1,(w64 (s1.2.1+1)),s1.2.2))
  else
   some (.inl (s1.1,(w64 (s1.2.1+1)),s1.2.2))
 else
  some (.inr s1.2.2)
def Zky (a:ZF) (mG:List Int) (mA:List Int):Option (List Int):=
 (ZhW a (Zbt.mk mG mA)).bind fun x0=>
 (lp (ZfB mG) (x0,0,mG)).bind fun r4=>
 some r4
def ZfS (mG:List Int) (s0:Int×(List Int)×(List Int)×(List Int)):Option ((Int×(List Int)×(List Int)×(List Int))⊕((List Int)×(List Int)×(List Int))):=
 bif (decide (s0.1<(mG.length:Int))) then
  (Zy s0.2.1 s0.1).bind fun x1=>
  bif (x1==(-1)) then
   some (.inl ((w64 (s0.1+1)),s0.2.1,s0.2.2.1,s0.2.2.2))
  else
   (Zy s0.2.2.1 x1).bind fun x2=>
   (Zf1 (Zbt.mk s0.2.1 (List.set s0.2.2.1 x1.toNat (w64 (x2-1)))) x1).bind fun x3=>
   bif x3 then
    bif (Nat.ble (List.length s0.2.2.2+1) lim) then
     some (.inl ((w64 (s0.1+1)),(List.set s0.2.1 s0.1.toNat (-1)),(List.set s0.2.2.1 x1.toNat (w64 (x2-1))),(s0.2.2.2++[x1])))
    else
     none
   else
    some (.inl ((w64 (s0.1+1)),s0.2.1,(List.set s0.2.2.1 x1.toNat (w64 (x2-1))),s0.2.2.2))
 else
  some (.inr (s0.2.1,s0.2.2.1,s0.2.2.2))
def ZhO (mG:List Int) (mA:List Int):Option ((List Int)×(List Int)×(List Int)):=
 (lp (ZfS mG) (0,mG,mA,([]:List Int))).bind fun r4=>
 (Zcj r4.2.2).bind fun x5=>
 some (r4.1,r4.2.1,x5)
def Zhp (b:List Int) (s1:Int×Int):Option ((Int×Int)⊕Int):=
 bif (decide (s1.2<(b.length:Int))) then
  (Zy b s1.2).bind fun x2=>
  some (.inl ((w64 (s1.1+x2)),(w64 (s1.2+1))))
 else
  some (.inr s1.1)
def Zgx (a:ZF) (s4:(List (List Int))×(List Int)×(List Int)):Option (((List (List Int))×(List Int)×(List Int))⊕(List (List Int))):=
 (ZC s4.2.2 (fun z0=>Zgh z0)).bind fun x5=>
 bif x5 then
  (Zky a s4.2.1 s4.2.2).bind fun x6=>
  (Zab x6).bind fun x7=>
  bif (Nat.ble (List.length s4.1+1) lim) then
   (ZhO x6 s4.2.2).bind fun x8=>
   some (.inl ((s4.1++[x6]),x8.1,x8.2.1))
  else
   none
 else
  some (.inr s4.1)
def Zmp (a:ZF) (b:List Int) (c:Int):Option ((List (List Int))×Int):=
 (Ziv a b c).bind fun x0=>
 match x0 with
 | (.inl x0)=>
  bif (x0 != 0) then
   some (([]:List (List Int)),x0)
  else
   none
 | (.inr x0)=>
  (lp (Zhp b) (0,0)).bind fun r3=>
  bif (decide (4096<r3)) then
   some (([]:List (List Int)),100)
  else
   (lp (Zgx a) (([]:(List (List Int))),x0,b)).bind fun r9=>
   some (r9,0)
def ZkG (a:Int):Option (Zn×Int):=
 (ZhJ a).bind fun x0=>
 bif x0.2 then
  bif (decide (64<a)) then
   some ((Zn.mk ([]:List Int) 0 0),120)
  else
   bif (decide (0<=a)&&decide (a<=lim)&&decide (a==a)) then
    some ((Zn.mk (List.replicate a.toNat (0:Int)) 0 0),0)
   else
    none
 else
  some ((Zn.mk ([]:List Int) 0 0),120)
def ZdV (a:Int):Option Bool:=
 bif (decide (a<0)) then
  some true
 else
  bif (decide (1000<a)) then
   some true
  else
   some false
def Zgo (a:ZF) (b:Zbt) (s1:Int):Option (Int⊕(Unit⊕Unit)):=
 bif (decide (s1<(b.on.length:Int))) then
  (Zy b.on s1).bind fun x2=>
  bif (x2==(-1)) then
   some (.inl (w64 (s1+1)))
  else
   bif (decide (x2<0)) then
    some (.inr (.inl ()))
   else
    bif (decide ((b.left.length:Int)<=x2)) then
     some (.inr (.inl ()))
    else
     (Zf1 b x2).bind fun x3=>
     bif x3 then
      some (.inr (.inl ()))
     else
      bif (decide (0<=s1)) then
       bif (Nat.ble s1.toNat (List.length b.on)) then
        (Z1 (List.take s1.toNat b.on) x2).bind fun x4=>
        bif x4 then
         some (.inr (.inl ()))
        else
         (ZhK a b x2).bind fun x5=>
         bif x5 then
          some (.inl (w64 (s1+1)))
         else
          some (.inr (.inl ()))
       else
        none
      else
       none
 else
  some (.inr (.inr ()))
def Zgp (a:ZF) (b:Zbt) (s7:Int):Option (Int⊕(Unit⊕Unit)):=
 bif (decide (s7<(b.left.length:Int))) then
  (Zf1 b s7).bind fun x8=>
  bif x8 then
   (ZhK a b s7).bind fun x9=>
   bif x9 then
    some (.inl (w64 (s7+1)))
   else
    some (.inr (.inl ()))
  else
   some (.inl (w64 (s7+1)))
 else
  some (.inr (.inr ()))
def Zjo (a:ZF) (b:Zbt):Option Bool:=
 bif (decide ((b.on.length:Int)<1)) then
  some false
 else
  bif (decide (8<(b.on.length:Int))) then
   some false
  else
   bif ((b.left.length:Int) != (a.work.length:Int)) then
    some false
   else
    (ZC b.left (fun z0=>ZdV z0)).bind fun x0=>
    bif x0 then
     some false
    else
     (lp (Zgo a b) 0).bind fun r6=>
     match r6 with
     | (.inl r6)=>
      some false
     | (.inr r6)=>
      (lp (Zgp a b) 0).bind fun r10=>
      match r10 with
      | (.inl r10)=>
       some false
      | (.inr r10)=>
       some true
def Zh7 (a:ZF) (b:Zbt):Option Int:=
 (ZeP a).bind fun x0=>
 bif (x0==0) then
  (Zjo a b).bind fun x1=>
  bif x1 then
   some x0
  else
   some 110
 else
  some x0
def ZeW (a:ZF) (b:Zbt):Option (List Int):=
 (Zh7 a b).bind fun x0=>
 bif (x0 != 0) then
  some ([]:List Int)
 else
  (ZhW a b).bind fun x1=>
  some x1
def Ze8 (a:Zn):Option Int:=
 (ZhJ (a.ring.length:Int)).bind fun x0=>
 bif x0.2 then
  bif (decide (64<(a.ring.length:Int))) then
   some 120
  else
   (ZgP a.top).bind fun x1=>
   bif (x1 != 0) then
    some 120
   else
    bif (decide (a.bottom<(w64 (a.top-1)))) then
     some 120
    else
     bif (decide ((w64 (a.top+(a.ring.length:Int)))<a.bottom)) then
      some 120
     else
      some 0
 else
  some 120
def ZiJ (a:Zn):Option Unit:=
 (Zab a.ring).bind fun x0=>
 some ()
def Ze5 (a:Zn) (b:Int):Option Int:=
 bif ((a.ring.length:Int)==0) then
  none
 else
  some (Int.tmod (bif decide (b<0) then 0 else b) (a.ring.length:Int))
def Zmb (a:Zn) (b:Int):Option (Zn×Int):=
 (Ze8 a).bind fun x0=>
 bif (x0 != 0) then
  some ((Zn.mk ([]:List Int) 0 0),x0)
 else
  bif (decide (a.bottom<a.top)) then
   some ((Zn.mk ([]:List Int) 0 0),121)
  else
   bif ((w64 (a.bottom-a.top))==(a.ring.length:Int)) then
    some ((Zn.mk ([]:List Int) 0 0),121)
   else
    (ZiJ a).bind fun x1=>
    (Ze5 a a.bottom).bind fun x2=>
    (Zy a.ring x2).bind fun x3=>
    some ((Zn.mk (List.set a.ring x2.toNat b) a.top (w64 (a.bottom+1))),0)
def ZeU (b:Int) (c:Int) (mH:List Zn):Option ((List Zn)⊕(List Zn)):=
 (Zy mH b).bind fun x0=>
 (Zmb x0 c).bind fun x1=>
 bif (x1.2==0) then
  bif (x1.2==0) then
   some (.inl (List.set mH b.toNat x1.1))
  else
   some (.inr (List.set mH b.toNat x1.1))
 else
  bif (x1.2==0) then
   some (.inl mH)
  else
   some (.inr mH)
def ZfM (c:Int) (s1:Int×(List Zn)):Option ((Int×(List Zn))⊕(List Zn)):=
 bif (decide (s1.1<c)) then
  (ZkG 64).bind fun x2=>
  bif (Nat.ble (List.length s1.2+1) lim) then
   some (.inl ((w64 (s1.1+1)),(s1.2++[x2.1])))
  else
   none
 else
  some (.inr s1.2)
def ZfH (c:Int) (x4:List Int) (s5:Int×(List Zn)):Option ((Int×(List Zn))⊕(List Zn)):=
 bif (decide (s5.1<(x4.length:Int))) then
  (Zy x4 s5.1).bind fun x6=>
  bif (c==0) then
   none
  else
   (ZeU (Int.tmod x6 c) x6 s5.2).bind fun x7=>
   match x7 with
   | (.inl x7)=>
    some (.inl ((w64 (s5.1+1)),x7))
   | (.inr x7)=>
    some (.inl ((w64 (s5.1+1)),x7))
 else
  some (.inr s5.2)
def ZkC (a:ZF) (b:List Int) (c:Int):Option (Int⊕((List Int)×(List Zn))):=
 (Ziv a b c).bind fun x0=>
 match x0 with
 | (.inl x0)=>
  bif (x0 != 0) then
   some (.inl x0)
  else
   none
 | (.inr x0)=>
  bif (decide (0<=c)&&decide (c<=lim)&&decide (c==c)) then
   bif (decide (0<=c)&&decide (c<=lim)&&decide (c==c)) then
    (lp (ZfM c) (0,([]:List Zn))).bind fun r3=>
    (ZeW a (Zbt.mk x0 b)).bind fun x4=>
    (lp (ZfH c x4) (0,r3)).bind fun r8=>
    some (.inr (x0,r8))
   else
    none
  else
   none
def ZdD (a:Int):Option Bool:=
 bif (decide (0<a)) then
  some true
 else
  some false
def ZbJ (a:Zn):Option Bool:=
 bif (decide (a.top<a.bottom)) then
  some true
 else
  some false
def Zbd (a:List Zn) (b:(Zn->Option Bool)) (s0:Int):Option (Int⊕(Int⊕Unit)):=
 bif (decide (s0<(a.length:Int))) then
  (Zy a s0).bind fun x1=>
  (b x1).bind fun x2=>
  bif x2 then
   some (.inr (.inl s0))
  else
   some (.inl (w64 (s0+1)))
 else
  some (.inr (.inr ()))
def Zco (a:List Zn) (b:(Zn->Option Bool)):Option Int:=
 (lp (Zbd a b) 0).bind fun r3=>
 match r3 with
 | (.inl r3)=>
  some r3
 | (.inr r3)=>
  some (-1)
def Zbb (a:List Zn) (b:(Zn->Option Bool)):Option Bool:=
 (Zco a b).bind fun x0=>
 bif (decide (0<=x0)) then
  some true
 else
  some false
def ZcB (a0:List Int) (s1:Int×(List Int)):Option ((Int×(List Int))⊕(List Int)):=
 bif (decide (s1.1<(a0.length:Int))) then
  (Zy a0 s1.1).bind fun x2=>
  bif (x2==(-1)) then
   bif (Nat.ble (List.length s1.2+1) lim) then
    some (.inl ((w64 (s1.1+1)),(s1.2++[s1.1])))
   else
    none
  else
   some (.inl ((w64 (s1.1+1)),s1.2))
 else
  some (.inr s1.2)
def Zcl (a0:List Int) (a3:List ZA) (s4:Int×(List Int)):Option ((Int×(List Int))⊕(List Int)):=
 bif (decide (s4.1<(a0.length:Int))) then
  (Zy a0 s4.1).bind fun x5=>
  bif (x5==(-1)) then
   (Zy a3 s4.1).bind fun x6=>
   bif (x6.at_ != 0) then
    bif (Nat.ble (List.length s4.2+1) lim) then
     some (.inl ((w64 (s4.1+1)),(s4.2++[s4.1])))
    else
     none
   else
    some (.inl ((w64 (s4.1+1)),s4.2))
  else
   some (.inl ((w64 (s4.1+1)),s4.2))
 else
  some (.inr s4.2)
def ZdW (a0:List Int) (a2:List Zn) (a3:List ZA):Option (List Int):=
 (Zbb a2 (fun z0=>ZbJ z0)).bind fun x0=>
 bif x0 then
  (lp (ZcB a0) (0,([]:List Int))).bind fun r3=>
  some r3
 else
  (lp (Zcl a0 a3) (0,([]:List Int))).bind fun r7=>
  some r7
def ZbZ (a:Int) (b7:Int):Option Bool:=
 bif (decide (b7<a)) then
  some true
 else
  some false
def ZeY (a7:Int) (b:List Int) (c:List Int) (d:Int):Option Int:=
 bif (decide (d<(c.length:Int))) then
  (Zy c d).bind fun x0=>
  bif ((b.length:Int)==0) then
   none
  else
   (Zy b (Int.tmod (bif decide (x0<0) then 0 else x0) (b.length:Int))).bind fun x1=>
   some x1
 else
  (ZG b (fun z0=>ZbZ z0 a7)).bind fun x2=>
  (Zy b (bif decide (x2<0) then 0 else x2)).bind fun x3=>
  some x3
def Zd5 (a:Int):Option Bool:=
 bif (decide (a<(-1))) then
  some true
 else
  bif (decide (1099511627775<a)) then
   some true
  else
   some false
def Zji (a:ZA):Option Bool:=
 bif a.steal then
  bif (a.end_==0) then
   bif (decide (0<=a.at_)) then
    bif (decide (a.at_<=3)) then
     bif (a.at_==0) then
      some true
     else
      (Zd5 a.top).bind fun x0=>
      bif x0 then
       some false
      else
       (Zd5 a.bottom).bind fun x1=>
       bif x1 then
        some false
       else
        some true
    else
     some false
   else
    some false
  else
   some false
 else
  bif (a.end_==0) then
   bif (decide (0<=a.at_)) then
    bif (decide (a.at_<=4)) then
     bif (a.at_==0) then
      some true
     else
      (Zd5 a.top).bind fun x2=>
      bif x2 then
       some false
      else
       (Zd5 a.bottom).bind fun x3=>
       bif x3 then
        some false
       else
        some true
    else
     some false
   else
    some false
  else
   some false
def Zge (mG:Int) (mC:Int):Option (Unit⊕Unit):=
 bif (mG != mC) then
  some (.inl ())
 else
  some (.inr ())
def ZcP (mG:Int) (mL:Int) (mE:Int) (mC:Int) (mD:Int) (mB:Int) (mF:Int) (mI:List Int):Option (Int×Int×Int×Int×Int×Int):=
 bif (mE==0) then
  some (mG,1,mG,mD,mB,mF)
 else
  bif (mE==1) then
   bif (decide (mL<=mC)) then
    some (mG,1,mC,mL,mB,2)
   else
    some (mG,2,mC,mL,mB,mF)
  else
   bif (mE==2) then
    (Ze5 (Zn.mk mI mG mL) mC).bind fun x0=>
    (Zy mI x0).bind fun x1=>
    some (mG,3,mC,mD,x1,mF)
   else
    (Zge mG mC).bind fun x2=>
    match x2 with
    | (.inl x2)=>
     some (mG,mE,mC,mD,0,3)
    | (.inr x2)=>
     some ((w64 (mG+1)),mE,mC,mD,mB,1)
def ZcW (mG:Int) (mL:Int) (mE:Int) (mC:Int) (mD:Int) (mB:Int) (mF:Int) (mI:List Int):Option (Int×Int×Int×Int×Int×Int×Int):=
 bif (mE==0) then
  some (mG,(w64 (mL-1)),1,mC,(w64 (mL-1)),mB,mF)
 else
  bif (mE==1) then
   bif (decide (mG<mD)) then
    (Ze5 (Zn.mk mI mG mL) mD).bind fun x0=>
    (Zy mI x0).bind fun x1=>
    some (mG,mL,mE,mG,mD,x1,1)
   else
    bif (mG==mD) then
     some (mG,mL,2,mG,mD,mB,mF)
    else
     some (mG,mL,3,mG,mD,mB,mF)
  else
   bif (mE==2) then
    (Zge mG mC).bind fun x2=>
    match x2 with
    | (.inl x2)=>
     some (mG,mL,3,mC,mD,mB,mF)
    | (.inr x2)=>
     (Ze5 (Zn.mk mI (w64 (mG+1)) mL) mD).bind fun x3=>
     (Zy mI x3).bind fun x4=>
     some ((w64 (mG+1)),mL,4,mC,mD,x4,mF)
   else
    bif (mE==4) then
     some (mG,(w64 (mD+1)),mE,mC,mD,mB,1)
    else
     some (mG,(w64 (mD+1)),mE,mC,mD,mB,2)
def Zcc (a:Zn) (b:ZA):Option (Zn×ZA×Int):=
 (Ze8 a).bind fun x0=>
 bif (x0 != 0) then
  some ((Zn.mk ([]:List Int) 0 0),(ZA.mk false 0 0 0 0 0),x0)
 else
  (Zji b).bind fun x1=>
  bif x1 then
   (ZiJ a).bind fun x2=>
   bif b.steal then
    (ZcP a.top a.bottom b.at_ b.top b.bottom b.got b.end_ a.ring).bind fun x3=>
    (Ze8 (Zn.mk a.ring x3.1 a.bottom)).bind fun x4=>
    bif (x4 != 0) then
     some ((Zn.mk ([]:List Int) 0 0),(ZA.mk false 0 0 0 0 0),x4)
    else
     some ((Zn.mk a.ring x3.1 a.bottom),(ZA.mk b.steal x3.2.1 x3.2.2.1 x3.2.2.2.1 x3.2.2.2.2.1 x3.2.2.2.2.2),0)
   else
    (ZcW a.top a.bottom b.at_ b.top b.bottom b.got b.end_ a.ring).bind fun x5=>
    (Ze8 (Zn.mk a.ring x5.1 x5.2.1)).bind fun x6=>
    bif (x6 != 0) then
     some ((Zn.mk ([]:List Int) 0 0),(ZA.mk false 0 0 0 0 0),x6)
    else
     some ((Zn.mk a.ring x5.1 x5.2.1),(ZA.mk b.steal x5.2.2.1 x5.2.2.2.1 x5.2.2.2.2.1 x5.2.2.2.2.2.1 x5.2.2.2.2.2.2),0)
  else
   some ((Zn.mk ([]:List Int) 0 0),(ZA.mk false 0 0 0 0 0),122)
def ZcL (b:Int) (c:Int) (mK:List ZA) (mJ:List Int):Option (List ZA):=
 (Zy mJ b).bind fun x0=>
 bif (c != 0) then
  (Zy mK b).bind fun x1=>
  some (List.set mK b.toNat (ZA.mk true 0 0 0 0 0))
 else
  (Zy mK b).bind fun x2=>
  some (List.set mK b.toNat (ZA.mk false 0 0 0 0 0))
def ZbA (b:Int) (mG:List Int) (mL:List Zi) (mA:List Int) (mI:List Int) (mH:List Zn) (mK:List ZA) (mJ:List Int):Option (Int×(List Int)×(List Zn)×(List ZA)×(List Int)):=
 (Zy mJ b).bind fun x0=>
 bif ((mA.length:Int)==0) then
  none
 else
  (Zy mH (Int.tmod (w64 (b+x0)) (mA.length:Int))).bind fun x1=>
  (Zy mK b).bind fun x2=>
  (Zcc x1 x2).bind fun x3=>
  bif (x3.2.2 != 0) then
   some (130,mA,mH,mK,mJ)
  else
   bif (x3.2.1.end_==1) then
    (ZeW (ZF.mk mG mL) (Zbt.mk mA mI)).bind fun x4=>
    (Z1 x4 x3.2.1.got).bind fun x5=>
    bif x5 then
     (Zy mA b).bind fun x6=>
     (ZcL b 0 (List.set mK b.toNat x3.2.1) mJ).bind fun x7=>
     some (0,(List.set mA b.toNat x3.2.1.got),(List.set mH (Int.tmod (w64 (b+x0)) (mA.length:Int)).toNat x3.1),x7,(List.set mJ b.toNat 0))
    else
     some (130,mA,(List.set mH (Int.tmod (w64 (b+x0)) (mA.length:Int)).toNat x3.1),(List.set mK b.toNat x3.2.1),mJ)
   else
    bif (x3.2.1.end_==2) then
     bif ((mA.length:Int)==0) then
      none
     else
      (ZcL b (Int.tmod (w64 (x0+1)) (mA.length:Int)) (List.set mK b.toNat x3.2.1) mJ).bind fun x8=>
      some (0,mA,(List.set mH (Int.tmod (w64 (b+x0)) (mA.length:Int)).toNat x3.1),x8,(List.set mJ b.toNat (Int.tmod (w64 (x0+1)) (mA.length:Int))))
    else
     bif (x3.2.1.end_==3) then
      bif ((mA.length:Int)==0) then
       none
      else
       (ZcL b (Int.tmod (w64 (x0+1)) (mA.length:Int)) (List.set mK b.toNat x3.2.1) mJ).bind fun x9=>
       some (0,mA,(List.set mH (Int.tmod (w64 (b+x0)) (mA.length:Int)).toNat x3.1),x9,(List.set mJ b.toNat (Int.tmod (w64 (x0+1)) (mA.length:Int))))
     else
      some (0,mA,(List.set mH (Int.tmod (w64 (b+x0)) (mA.length:Int)).toNat x3.1),(List.set mK b.toNat x3.2.1),mJ)
def ZcV (b:List Int) (mG:List Int) (mL:List Zi) (mI:List Int) (s1:Int×(List Int)×Int×(List Int)×(List Zn)×(List ZA)×(List Int)):Option ((Int×(List Int)×Int×(List Int)×(List Zn)×(List ZA)×(List Int))⊕((Int×Int×Int×(List Int)×(List Zn)×(List ZA)×(List Int))⊕(Int×Int×(List Int)×(List Zn)×(List ZA)×(List Int)))):=
 bif (decide (0<(s1.2.1.length:Int))) then
  (ZeY s1.2.2.1 s1.2.1 b s1.1).bind fun x2=>
  (ZbA x2 mG mL s1.2.2.2.1 mI s1.2.2.2.2.1 s1.2.2.2.2.2.1 s1.2.2.2.2.2.2).bind fun x3=>
  bif (x3.1 != 0) then
   some (.inr (.inl (x3.1,s1.1,s1.2.2.1,x3.2.1,x3.2.2.1,x3.2.2.2.1,x3.2.2.2.2)))
  else
   (ZdW x3.2.1 x3.2.2.1 x3.2.2.2.1).bind fun x4=>
   some (.inl ((w64 (s1.1+1)),x4,x2,x3.2.1,x3.2.2.1,x3.2.2.2.1,x3.2.2.2.2))
 else
  some (.inr (.inr (s1.1,s1.2.2.1,s1.2.2.2.1,s1.2.2.2.2.1,s1.2.2.2.2.2.1,s1.2.2.2.2.2.2)))
def ZgE (b:List Int) (mG:List Int) (mL:List Zi) (mA:List Int) (mI:List Int) (mH:List Zn) (mK:List ZA) (mJ:List Int):Option (Int×Int×Int×(List Int)×(List Zn)×(List ZA)×(List Int)):=
 (ZdW mA mH mK).bind fun x0=>
 (lp (ZcV b mG mL mI) (0,x0,(-1),mA,mH,mK,mJ)).bind fun r5=>
 match r5 with
 | (.inl r5)=>
  some (0,r5.1,r5.2.2.1,r5.2.2.2.1,r5.2.2.2.2.1,r5.2.2.2.2.2.1,r5.2.2.2.2.2.2)
 | (.inr r5)=>
  some (r5.1,0,r5.2.1,r5.2.2.1,r5.2.2.2.1,r5.2.2.2.2.1,r5.2.2.2.2.2)
def Zox (a:Zbt):Option Unit:=
 (Zab a.on).bind fun x0=>
 (Zab a.left).bind fun x1=>
 some ()
def Zkr (a:ZF) (b:Zbt):Option (Int⊕((List Int)×(List Int)×(List Int))):=
 (Zh7 a b).bind fun x0=>
 bif (x0 != 0) then
  some (.inl x0)
 else
  (Zox b).bind fun x1=>
  (ZhO b.on b.left).bind fun x2=>
  some (.inr (x2.1,x2.2.1,x2.2.2))
def Zgu (a:Zi) (b0:Int):Option (Int×Bool):=
 bif (a.src==b0) then
  some (a.dst,true)
 else
  some (a.dst,false)
def Zks (a:ZF) (b:Int):Option (List Int):=
 (ZeP a).bind fun x0=>
 bif (x0 != 0) then
  some ([]:List Int)
 else
  (Zjw a (fun z0=>Zgu z0 b)).bind fun x1=>
  some x1
def Zci (x2:List Int) (s3:Int×(List Zn)×(List Int)) (x6:List Int) (s7:Int×(List Zn)×(List Int)):Option ((Int×(List Zn)×(List Int))⊕(((List Zn)×(List Int))⊕((List Zn)×(List Int)))):=
 bif (decide (s7.1<(x6.length:Int))) then
  (Zy x6 s7.1).bind fun x8=>
  (Z1 x2 x8).bind fun x9=>
  bif x9 then
   (Z1 s7.2.2 x8).bind fun x10=>
   bif x10 then
    some (.inl ((w64 (s7.1+1)),s7.2.1,s7.2.2))
   else
    (ZeU s3.1 x8 s7.2.1).bind fun x11=>
    match x11 with
    | (.inl x11)=>
     bif (Nat.ble (List.length s7.2.2+1) lim) then
      some (.inl ((w64 (s7.1+1)),x11,(s7.2.2++[x8])))
     else
      none
    | (.inr x11)=>
     some (.inr (.inl (x11,s7.2.2)))
  else
   some (.inl ((w64 (s7.1+1)),s7.2.1,s7.2.2))
 else
  some (.inr (.inr (s7.2.1,s7.2.2)))
def Zck (mG:List Int) (mL:List Zi) (mA:List Int) (x1:((List Int)×(List Int)×(List Int))) (x2:List Int) (s3:Int×(List Zn)×(List Int)):Option ((Int×(List Zn)×(List Int))⊕((List Zn)⊕(List Zn))):=
 bif (decide (s3.1<(mA.length:Int))) then
  (Zy mA s3.1).bind fun x4=>
  bif (x4==(-1)) then
   some (.inl ((w64 (s3.1+1)),s3.2.1,s3.2.2))
  else
   (Zy x1.1 s3.1).bind fun x5=>
   bif (x5 != (-1)) then
    some (.inl ((w64 (s3.1+1)),s3.2.1,s3.2.2))
   else
    (Zks (ZF.mk mG mL) x4).bind fun x6=>
    (lp (Zci x2 s3 x6) (0,s3.2.1,s3.2.2)).bind fun r12=>
    match r12 with
    | (.inl r12)=>
     some (.inr (.inl r12.1))
    | (.inr r12)=>
     some (.inl ((w64 (s3.1+1)),r12.1,r12.2))
 else
  some (.inr (.inr s3.2.1))
def ZgH (mG:List Int) (mL:List Zi) (mA:List Int) (mI:List Int) (mH:List Zn):Option (Int⊕(((List Zn)×(List Int)×(List Int))⊕((List Zn)×(List Int)×(List Int)×(List Int)))):=
 (Zab mA).bind fun x0=>
 (Zkr (ZF.mk mG mL) (Zbt.mk mA mI)).bind fun x1=>
 match x1 with
 | (.inl x1)=>
  bif (x1 != 0) then
   some (.inl x1)
  else
   none
 | (.inr x1)=>
  (ZeW (ZF.mk mG mL) (Zbt.mk x1.1 x1.2.1)).bind fun x2=>
  (lp (Zck mG mL mA x1 x2) (0,mH,([]:List Int))).bind fun r13=>
  match r13 with
  | (.inl r13)=>
   some (.inr (.inl (r13,x1.1,x1.2.1)))
  | (.inr r13)=>
   some (.inr (.inr (r13,x1.2.2,x1.1,x1.2.1)))
def ZgS (b:List Int) (s1:Int×Int):Option ((Int×Int)⊕Int):=
 bif (decide (s1.2<(b.length:Int))) then
  (Zy b s1.2).bind fun x2=>
  some (.inl ((w64 (s1.1+x2)),(w64 (s1.2+1))))
 else
  some (.inr s1.1)
def Zd2 (a:ZF) (d:List Int) (s4:Int×Int×(List (List Int))×(List Int)×(List Int)×(List Zn)×(List ZA)×(List Int)):Option ((Int×Int×(List (List Int))×(List Int)×(List Int)×(List Zn)×(List ZA)×(List Int))⊕((Int×Int×(List (List Int)))⊕(Int×(List (List Int))))):=
 (ZC s4.2.2.2.2.1 (fun z0=>ZdD z0)).bind fun x5=>
 bif x5 then
  bif (decide (0<=(bif decide ((d.length:Int)<s4.1) then (d.length:Int) else s4.1))) then
   bif (Nat.ble (bif decide ((d.length:Int)<s4.1) then (d.length:Int) else s4.1).toNat (List.length d)) then
    (ZgE (List.drop (bif decide ((d.length:Int)<s4.1) then (d.length:Int) else s4.1).toNat d) a.work a.edges s4.2.2.2.1 s4.2.2.2.2.1 s4.2.2.2.2.2.1 s4.2.2.2.2.2.2.1 s4.2.2.2.2.2.2.2).bind fun x6=>
    bif (x6.2.1 != 0) then
     some (.inr (.inl (x6.2.1,s4.1,s4.2.2.1)))
    else
     (Zab x6.2.2.2.1).bind fun x7=>
     bif (Nat.ble (List.length s4.2.2.1+1) lim) then
      (ZgH a.work a.edges x6.2.2.2.1 s4.2.2.2.2.1 x6.2.2.2.2.1).bind fun x8=>
      match x8 with
      | (.inl x8)=>
       bif (x8 != 0) then
        some (.inr (.inl (x8,(w64 (s4.1+x6.1)),(s4.2.2.1++[x6.2.2.2.1]))))
       else
        none
      | (.inr (.inl x8))=>
       some (.inr (.inl (130,(w64 (s4.1+x6.1)),(s4.2.2.1++[x6.2.2.2.1]))))
      | (.inr (.inr x8))=>
       some (.inl ((w64 (s4.1+x6.1)),x6.2.2.1,(s4.2.2.1++[x6.2.2.2.1]),x8.2.2.1,x8.2.2.2,x8.1,x6.2.2.2.2.2.1,x6.2.2.2.2.2.2))
     else
      none
   else
    none
  else
   none
 else
  some (.inr (.inr (s4.1,s4.2.2.1)))
def ZkJ (a:ZF) (b:List Int) (c:Int) (d:List Int):Option ((List (List Int))×Int×Int):=
 (ZkC a b c).bind fun x0=>
 match x0 with
 | (.inl x0)=>
  bif (x0 != 0) then
   some (([]:List (List Int)),0,x0)
  else
   none
 | (.inr x0)=>
  (lp (ZgS b) (0,0)).bind fun r3=>
  bif (decide (4096<r3)) then
   some (([]:List (List Int)),0,100)
  else
   (lp (Zd2 a d) (0,0,([]:(List (List Int))),x0.1,b,x0.2,(List.replicate c.toNat ((ZA.mk false 0 0 0 0 0):ZA)),(List.replicate c.toNat (0:Int)))).bind fun r9=>
   match r9 with
   | (.inl r9)=>
    some (([]:List (List Int)),0,r9.1)
   | (.inr r9)=>
    some (r9.2,r9.1,0)
def Zbx (b:List Int) (s9:Int×(List Int)):Option ((Int×(List Int))⊕(List Int)):=
 bif (decide (s9.1<(s9.2.length:Int))) then
  bif (decide (s9.1<(b.length:Int))) then
   (Zy s9.2 s9.1).bind fun x10=>
   (Zy b s9.1).bind fun x11=>
   some (.inl ((w64 (s9.1+1)),(List.set s9.2 s9.1.toNat (bif decide (1<(w64 (x10-(bif decide ((bif decide (1000<x11) then 1000 else x11)<0) then 0 else (bif decide (1000<x11) then 1000 else x11))))) then (w64 (x10-(bif decide ((bif decide (1000<x11) then 1000 else x11)<0) then 0 else (bif decide (1000<x11) then 1000 else x11)))) else 1))))
  else
   some (.inr s9.2)
 else
  some (.inr s9.2)
def ZhG (a:Zq) (b:List Int) (c:List Int):Option Bool:=
 Zfh.bind fun x0=>
 bif x0 then
  (Zkp a).bind fun x1=>
  bif x1 then
   bif (decide (60<(b.length:Int))) then
    Zfh.bind fun x2=>
    bif x2 then
     some true
    else
     some false
   else
    bif (decide (300<(c.length:Int))) then
     Zfh.bind fun x3=>
     bif x3 then
      some true
     else
      some false
    else
     (ZiP a).bind fun x4=>
     (Zhl (Zq.mk a.period a.deadline a.parts a.edges a.futures x4)).bind fun x5=>
     (ZiC x5.1).bind fun x6=>
     bif (x5.2 != 0) then
      some true
     else
      bif (x6.2 != 0) then
       some true
      else
       bif (decide (300<x5.1.total)) then
        some true
       else
        (ZiP a).bind fun x7=>
        (Zhs (Zq.mk a.period a.deadline a.parts a.edges a.futures x7)).bind fun x8=>
        bif (Nat.ble (List.length x8.1.dag.work) lim) then
         (lp (Zbx b) (0,x8.1.dag.work)).bind fun r12=>
         bif (Nat.ble (List.length r12) lim) then
          (Zmp x8.1.dag r12 x6.1).bind fun x13=>
          bif (Nat.ble (List.length r12) lim) then
           bif (Nat.ble (List.length c) lim) then
            (ZkJ x8.1.dag r12 x6.1 c).bind fun x14=>
            bif (x13.2==0) then
             bif (x14.2.2==0) then
              bif (decide ((x13.1.length:Int)<=a.deadline)) then
               bif (decide ((x14.1.length:Int)<=a.deadline)) then
                some true
               else
                some false
              else
               some false
             else
              some false
            else
             some false
           else
            none
          else
           none
         else
          none
        else
         none
  else
   Zfh.bind fun x15=>
   bif x15 then
    some true
   else
    some false
 else
  Zfh.bind fun x16=>
  bif x16 then
   some true
  else
   some false
abbrev zL (t:Bool) (l:List Int):D:=.list t (List.map Zh l)
abbrev zM {A:Type} (t:Bool) (f:A->D) (l:List A):D:=.list t (List.map f l)
abbrev zN (n:Int):V:=.d (Zh n)
abbrev zV (t:Bool) (l:List Int):V:=.d (zL t l)
abbrev zW {A:Type} (t:Bool) (f:A->D) (l:List A):V:=.d (zM t f l)
abbrev zA (l:List Int):Blk:=.arr 1 (List.map Zh l)
abbrev zE:Int->Int->Bool:=fun ka kb=>(ka==kb)
abbrev zK0 (x0:Int) (x1:Int) (x2:Bool) (x3:List ZU) (x4:Bool) (x5:List Zi) (x6:Bool) (x7:List Zg) (x8:Bool) (x9:List Zr):Blk:=.cells [(zN x0),(zN x1),(zW x2 ZjJ x3),(zW x4 Z4 x5),(zW x6 ZT x7),(zW x8 ZcY x9)]
abbrev zK1 (x0:Bool) (x1:List Int) (x2:Bool) (x3:List Zi):Blk:=.cells [(zV x0 x1),(zW x2 Z4 x3)]
abbrev zK2 (x0:Bool) (x1:List Int) (x2:Bool) (x3:List Zi):D:=D.agg [(zL x0 x1),(zM x2 Z4 x3)]
abbrev zK3 (x0:Bool) (x1:List Int) (x2:Bool) (x3:List Zi) (x4:Int):Blk:=.cells [(.sl 1 1),(.sl 2 1),(.sl 3 3),(.sl 4 6),(.sl 5 1),(zV x0 x1),(zW x2 Z4 x3),(zN x4)]
abbrev zK4 (x0:Int) (x1:Int):D:=D.agg [(Zh x0),(Zh x1)]
abbrev zK5 (x0:Bool) (x1:List Int):Blk:=.cells [(zV x0 x1),(.sl 1 1),(.sl 2 2),(.sl 3 1)]
abbrev zK6 (x0:Bool) (x1:List Int) (x2:Int) (x3:Int):D:=D.agg [(zL x0 x1),(Zh x2),(Zh x3)]
abbrev zK7  : Blk:=.cells [(.sl 3 1),(.sl 4 2),(.sl 5 2)]
abbrev zK8 (x0:Int) (x1:Int) (x2:Int) (x3:Int) (x4:Int):D:=D.agg [(Zh x0),(Zh x1),(Zh x2),(Zh x3),(Zh x4)]
abbrev zK9 (x0:Bool) (x1:List Int) (x2:Bool) (x3:List Int):D:=D.rptr [(zL x0 x1),(zL x2 x3)]
abbrev ZxU (x0:Bool) (x1:List Int) (x2:Bool) (x3:List Int):D:=D.agg [(zL x0 x1),(zL x2 x3)]
abbrev Zy5 (x0:Bool) (x1:List Int) (x2:Bool) (x3:List Int):Blk:=.cells [(zV x0 x1),(zV x2 x3)]
abbrev ZyA (x0:Int) (x1:Int):Blk:=.cells [(.sl 2 1),(zN x0),(zN x1)]
abbrev Zyk (x0:Bool) (x1:List Int) (x2:Bool) (x3:List Int) (x4:Bool) (x5:List Zbv) (x6:Bool) (x7:List Int):D:=D.rptr [(zL x0 x1),(zL x2 x3),(zM x4 Zii x5),(zL x6 x7)]
abbrev Zzi (x0:Bool) (x1:List Int) (x2:Bool) (x3:List Int) (x4:Bool) (x5:List Zn) (x6:Bool) (x7:List ZA) (x8:Bool) (x9:List Int) (x10:Bool) (x11:List Int) (x12:Bool) (x13:List Zi) (x14:Int):D:=D.rptr [(zL x0 x1),(zL x2 x3),(zM x4 Zbn x5),(zM x6 ZbH x7),(zL x8 x9),(zL x10 x11),(zM x12 Z4 x13),(Zh x14)]
abbrev ZA7 (x0:Bool) (x1:List Int):Blk:=.cells [(zV x0 x1),(.sl 2 1),(.sl 3 2),(.sl 4 1)]
end
end Go.Proofs.YtgcfmiajkbbmeaaGreatDoor
namespace Go.Proofs.YtgcfmiajkbbmeaaGreatDoorE
open Go
open Go.IntKind (u64 i64 u32 i32 u8)
theorem Zcx {i n:Nat} (h:i<n):decide ((i:Int)<(n:Int))=true:=decide_eq_true (by omega)
theorem ZdO (n:Nat):decide ((n:Int)<(n:Int))=false:=decide_eq_false (by omega)
theorem ZN {γ:Type}{l:List γ}{i:Nat}{x:γ} (h:l[i]? = some x):Zy l (i:Int)=some x:=(ZDm l i).trans h
theorem Zpa {γ:Type}{l:List γ}{i:Int}{x:γ} (h0:0<=i) (h:l[i.toNat]? = some x):Zy l i=some x:=by
 have:=ZN h
 rwa [Int.toNat_of_nonneg h0] at this
theorem ZaA {n:Int} (h1 : -9223372036854775808<=n) (h2:n<9223372036854775808):w64 n=n:=ZHY h1 h2
theorem ZL {i n:Nat} (h:i<n) (hn:n<9223372036854775808):w64 ((i:Int)+1)=((i+1:Nat):Int):=by rw[ZaA (by omega) (by omega)];omega
theorem Zgn {n:Nat} (h:n<=1073741824):Nat.ble n lim=true:=Nat.ble_eq_true_of_le h
def ZqC {γ S R:Type} (f:Nat->γ->S->Option (S⊕R)) (fin:S->Option R):Nat->List γ->S->Option R
 | _,[],s=>fin s
 | i,x :: l,s=>(match f i x s with | some (.inl s')=>ZqC f fin (i+1) l s' | some (.inr r)=>some r | none=>none)
theorem ZvN {γ S St R:Type} (l:List γ) (step:St->Option (St⊕R)) (st:Nat->S->St) (f:Nat->γ->S->Option (S⊕R)) (fin:S->Option R)
  (h1:∀i x s,i<l.length->l[i]? = some x->step (st i s)=(match f i x s with | some (.inl s')=>some (.inl (st (i+1) s')) | some (.inr r)=>some (.inr r) | none=>none))
  (h2:∀s,step (st l.length s)=(fin s).map Sum.inr):∀s,lp step (st 0 s)=ZqC f fin 0 l s:=by
 have key:∀(k i:Nat) (s:S),i+k=l.length->lp step (st i s)=ZqC f fin i (l.drop i) s:=by
  intro k
  induction k with
  | zero=>
   intro i s hi
   have:i=l.length:=by omega
   subst this
   rw[List.drop_length,Zae,h2]
   unfold ZqC
   cases fin s<;>rfl
  | succ k ih=>
   intro i s hi
   have hi':i<l.length:=by omega
   rw[List.drop_eq_getElem_cons hi',Zae,h1 i l[i] s hi' (List.getElem?_eq_getElem hi')]
   conv=>rhs;unfold ZqC
   cases f i l[i] s with
   | none=>rfl
   | some t=>
    cases t with
    | inl s'=>exact ih (i+1) s' (by omega)
    | inr r=>rfl
 intro s
 have:=key l.length 0 s (by omega)
 rwa [List.drop_zero] at this
def Ziu {γ R:Type} (p:Nat->γ->Bool) (out:Nat->γ->R) (fin:R):Nat->List γ->R
 | _,[]=>fin
 | i,x :: l=>bif p i x then out i x else Ziu p out fin (i+1) l
theorem Zhw {γ R:Type} (l:List γ) (step:Int->Option (Int⊕R)) (p:Nat->γ->Bool) (out:Nat->γ->R) (fin:R)
  (h1:∀i x,i<l.length->l[i]? = some x->step (i:Int)=some (bif p i x then .inr (out i x) else .inl ((i+1:Nat):Int)))
  (h2:step (l.length:Int)=some (.inr fin)):lp step 0=some (Ziu p out fin 0 l):=by
 have key:=ZvN (S:=Unit) l step (fun i _=>(i:Int)) (fun i x _=>some (bif p i x then .inr (out i x) else .inl ())) (fun _=>some fin)
  (fun i x s hi hx=>by rw[h1 i x hi hx];cases p i x<;>rfl) (fun _=>h2) ()
 refine(key:lp step 0=_).trans ?_
 have:∀(l:List γ) (i:Nat),ZqC (S:=Unit) (fun i x _=>some (bif p i x then Sum.inr (out i x) else Sum.inl ())) (fun _=>some fin) i l ()=some (Ziu p out fin i l):=by
  intro l
  induction l with
  | nil=>intro i;rfl
  | cons x l ih=>
   intro i
   unfold ZqC Ziu
   cases p i x with
   | true=>rfl
   | false=>exact ih (i+1)
 exact this l 0
def Zid {γ:Type} (p:Nat->γ->Bool):Nat->List γ->Bool
 | _,[]=>false
 | i,x :: l=>p i x || Zid p (i+1) l
theorem Zpm {γ:Type} (p:γ->Bool):∀(l:List γ) (i:Nat),Zid (fun _=>p) i l=l.any p
 | [],_=>rfl
 | x :: l,i=>by rw[Zid,List.any_cons,Zpm p l]
theorem Zgc {γ R:Type} (p:Nat->γ->Bool) (c fin:R):∀(l:List γ) (i:Nat),Ziu p (fun _ _=>c) fin i l=bif Zid p i l then c else fin
 | [],_=>rfl
 | x :: l,i=>by
  unfold Ziu Zid
  rw[Zgc p c fin l (i+1)]
  cases p i x<;>rfl
theorem Zs8 {γ R:Type} (p:γ->Bool) (fin:R):∀(l:List γ) (i:Nat),(∃j:Nat,Ziu (fun _=>p) (fun i _=>(Sum.inl (i:Int):Int⊕R)) (.inr fin) i l = .inl (j:Int)/\l.any p=true)∨(Ziu (fun _=>p) (fun i _=>(Sum.inl (i:Int):Int⊕R)) (.inr fin) i l = .inr fin/\l.any p=false)
 | [],_=>.inr ⟨rfl,rfl⟩
 | x :: l,i=>by
  unfold Ziu
  rw[List.any_cons]
  cases h:p x with
  | true=>exact .inl ⟨i,rfl,rfl⟩
  | false=>simpa using Zs8 p fin l (i+1)
theorem Zm8 {γ:Type} (p:Nat->γ->Bool):∀(l:List γ) (i:Nat),Zid p i l=true↔∃j x,l[j]? = some x/\p (i+j) x=true
 | [],i=>by simp[Zid]
 | x :: l,i=>by
  rw[Zid,Bool.or_eq_true,Zm8 p l (i+1)]
  constructor
  ·rintro (h | ⟨j,y,hj,hp⟩)
   ·exact⟨0,x,rfl,h⟩
   ·exact⟨j+1,y,by simpa using hj,by rw[show i+(j+1)=i+1+j by omega];exact hp⟩
  ·rintro ⟨j,y,hj,hp⟩
   cases j with
   | zero=>left;simp at hj;subst hj;exact hp
   | succ j=>right;exact⟨j,y,by simpa using hj,by rw[show i+1+j=i+(j+1) by omega];exact hp⟩
end Go.Proofs.YtgcfmiajkbbmeaaGreatDoorE
namespace Go.Proofs.YtgcfmiajkbbmeaaGreatDoor
open Go Go.Proofs.YtgcfmiajkbbmeaaGreatDoorE
open Go.IntKind (u64 i64 u32 i32 u8)
def Zc0 (n a b:Int):Bool:=decide (a<=n)&&decide (n<=b)
theorem Zna (n a b:Int):ZbO n a b=some (Zc0 n a b):=by
 unfold ZbO Zc0
 cases decide (a<=n)<;>cases decide (n<=b)<;>rfl
def Zhx (p:ZU):Bool:=!(Zc0 p.op 0 5&&(Zc0 p.arg 0 2147483647&&Zc0 p.work 1 100))
theorem ZHu (p:ZU):ZgU p=some (Zhx p):=by
 unfold ZgU Zhx
 simp only[Zna,Option.bind_some]
 cases Zc0 p.op 0 5<;>cases Zc0 p.arg 0 2147483647<;>cases Zc0 p.work 1 100<;>rfl
theorem ZjV {γ:Type} (l:List γ) (p:γ->Bool) (step:Int->Option (Int⊕(Int⊕Unit)))
  (h1:∀i x,i<l.length->l[i]? = some x->step (i:Int)=some (bif p x then .inr (.inl (i:Int)) else .inl ((i+1:Nat):Int)))
  (h2:step (l.length:Int)=some (.inr (.inr ()))) :
  (((lp step 0).bind fun(r:Int⊕Unit)=>match r with | .inl r=>some r | .inr _=>some (-1)).bind fun x=>bif decide (0<=x) then some true else some false)=some (l.any p):=by
 rw[Zhw l step (fun _=>p) (fun i _=>.inl (i:Int)) (.inr ()) h1 h2]
 rcases Zs8 p () l 0 with⟨j,e1,e2⟩ | ⟨e1,e2⟩
 ·rw[e1,e2]
  show(bif decide ((0:Int)<=(j:Int)) then some true else some false)=some true
  rw[decide_eq_true (by omega)]
  rfl
 ·rw[e1,e2]
  rfl
theorem ZtX (l:List ZU) (f:ZU->Option Bool) (p:ZU->Bool) (hf:∀x∈l,f x=some (p x)) (hl:l.length<9223372036854775808):Zbr l f=some (l.any p):=by
 unfold Zbr ZcF
 refine ZjV l p _ (fun i x hi hx=>?_) ?_
 ·simp only[Zbq,Zcx hi,ZN hx,Option.bind_some,hf x (List.mem_of_getElem? hx),ZL hi hl,cond_true]
  cases p x<;>rfl
 ·simp only[Zbq,ZdO];rfl
def Zsw (e x:Zi):Bool:=e.src==x.src&&(e.dst==x.dst&&true)
theorem ZvD (l:List Zi) (e:Zi) (hl:l.length<9223372036854775808):Zbe l e=some (l.any (Zsw e)):=by
 unfold Zbe ZdU
 refine ZjV l (Zsw e) _ (fun i x hi hx=>?_) ?_
 ·simp only[Zb0,Zcx hi,ZN hx,Option.bind_some,ZL hi hl,cond_true,Zsw]
  cases (e.src==x.src&&(e.dst==x.dst&&true))<;>rfl
 ·simp only[Zb0,ZdO];rfl
def again (f g:Zg):Bool:=g.user==f.user&&g.pos==f.pos
theorem Zqp (l:List Zg) (f:Zg->Option Bool) (p:Zg->Bool) (hf:∀x∈l,f x=some (p x)) (hl:l.length<9223372036854775808):ZaX l f=some (l.any p):=by
 unfold ZaX Zcg
 refine ZjV l p _ (fun i x hi hx=>?_) ?_
 ·simp only[ZaW,Zcx hi,ZN hx,Option.bind_some,hf x (List.mem_of_getElem? hx),ZL hi hl,cond_true]
  cases p x<;>rfl
 ·simp only[ZaW,ZdO];rfl
theorem ZFN (f g:Zg):Zec g f.user f.pos=some (again f g):=by
 unfold Zec again
 cases (g.user==f.user)<;>cases (g.pos==f.pos)<;>rfl
theorem ZlO (l:List Int) (n:Int) (hl:l.length<9223372036854775808):Z1 l n=some (l.any (fun x=>n==x)):=by
 unfold Z1 Zfg
 refine ZjV l (fun x=>n==x) _ (fun i x hi hx=>?_) ?_
 ·simp only[Zcm,Zcx hi,ZN hx,Option.bind_some,ZL hi hl,cond_true]
  cases (n==x)<;>rfl
 ·simp only[Zcm,ZdO];rfl
def Zt4 (b:Zr) (n:Int):Bool:=b.outs.any fun x=>n==x
theorem ZdF (l:List Int) (f:Int->Option Bool) (p:Int->Bool) (hf:∀x∈l,f x=some (p x)) (hl:l.length<9223372036854775808):ZC l f=some (l.any p):=by
 unfold ZC ZG
 refine ZjV l p _ (fun i x hi hx=>?_) ?_
 ·simp only[Zx,Zcx hi,ZN hx,Option.bind_some,hf x (List.mem_of_getElem? hx),ZL hi hl,cond_true]
  cases p x<;>rfl
 ·simp only[Zx,ZdO];rfl
theorem ZKp (b:Zr) (h2:b.outs.length<9223372036854775808) (n:Int):Zef n b.outs=some (Zt4 b n):=by
 unfold Zef
 simp only[ZlO _ _ h2,Option.bind_some]
 unfold Zt4
 cases (b.outs.any fun y=>n==y)<;>rfl
def two (n:Nat) (a b:Int):Bool:=(a != b)&&(Zc0 a 0 (n-1)&&Zc0 b 0 (n-1))
theorem ZGI (d:Zq) (hl:d.parts.length<9223372036854775808) (a b:Int):ZjR d a b=some (two d.parts.length a b):=by
 unfold ZjR two
 rw[ZaA (by omega) (by omega)]
 simp only[Zna,Option.bind_some]
 cases (a != b)<;>cases Zc0 a 0 (d.parts.length-1)<;>cases Zc0 b 0 (d.parts.length-1)<;>rfl
def Zu7 (n:Nat) (l:List Int) (i:Nat) (x:Int):Bool:=!(Zc0 x 0 (n-1)) || (match i with | 0=>false | j+1=>match l[j]? with | some y=>decide (x<=y) | none=>false)
def Zok (n:Nat) (l:List Int):Bool:=!(Zid (Zu7 n l) 0 l) && !l.isEmpty
theorem ZFS (b:Bool) (l:List Int):((some (bif b then (Sum.inl ():Unit⊕Unit) else .inr ())).bind fun r=>match r with | .inl _=>some false | .inr _=>bif decide (0<(l.length:Int)) then some true else some false)=some (!b && !l.isEmpty):=by
 cases b with
 | true=>rfl
 | false=>
  cases l with
  | nil=>rfl
  | cons x l=>show(bif decide (0<((x :: l).length:Int)) then some true else some false)=some true;rw[decide_eq_true (by rw[List.length_cons];omega)];rfl
theorem ZGJ (d:Zq) (hd:d.parts.length<9223372036854775808) (l:List Int) (hl:l.length<9223372036854775808):ZjS d l=some (Zok d.parts.length l):=by
 have key:=Zhw l (Zhq d l) (Zu7 d.parts.length l) (fun _ _=>.inl ()) (.inr ()) (fun i x hi hx=>by
   simp only[Zhq,Zcx hi,ZN hx,Option.bind_some,ZL hi hl,cond_true,Zna,Zu7]
   rw[ZaA (by omega) (by omega)]
   cases Zc0 x 0 (d.parts.length-1) with
   | false=>rfl
   | true=>
    cases i with
    | zero=>rfl
    | succ i=>
     rw[decide_eq_true (show(0:Int)<((i+1:Nat):Int) by omega),ZaA (by omega) (by omega),show(((i+1:Nat):Int)-1)=(i:Int) by omega]
     have hi2:l[i]? = some l[i]:=List.getElem?_eq_getElem (by omega)
     rw[ZN hi2]
     simp only[cond_true,Option.bind_some,Bool.not_true,Bool.false_or,hi2]
     cases decide (x<=l[i])<;>rfl) (by simp only[Zhq,ZdO];rfl)
 unfold ZjS Zok
 rw[key,Zgc]
 exact ZFS _ _
def Zl2 (n:Int):Int:=bif decide (n<0) then 10 else bif decide (1099511627775<n) then 11 else 0
theorem Zop (n:Int):ZgP n=some (Zl2 n):=by
 unfold ZgP Zl2
 cases decide (n<0)<;>cases decide (1099511627775<n)<;>rfl
noncomputable def ZAP (x:Int):Int:=match Zda x with | some n=>n | none=>0
theorem ZH4 (x:Int):Zeg x=some (ZAP x):=by
 unfold Zeg ZAP Zda
 rfl
def ZIs (n:Nat):Bool:=[1,2,4,8,16,32,64,128,256,512,1024,2048,4096].contains n
theorem ZyY:((List.range 4097).all fun n=>(ZAP (u64.wrap (n:Int))==1)==ZIs n)=true:=by kernel_rfl
theorem Zzv (n:Nat) (h:n<=4096):(ZAP (u64.wrap (n:Int))==1)=ZIs n:=by
 have:=List.all_eq_true.1 ZyY n (by simp;omega)
 simpa using this
noncomputable def Zwk (n:Int):Bool:=!(Zl2 n != 0) && !(ZAP (u64.wrap n) != 1)
theorem Zsx (n:Int):∃k,ZhJ n=some (k,Zwk n):=by
 have tz:∃k,ZeA (u64.wrap n)=some k:=⟨_,rfl⟩
 obtain⟨k,hk⟩:=tz
 unfold ZhJ Zwk
 simp only[Zop,ZH4,Option.bind_some,hk]
 cases (Zl2 n != 0)
 ·cases (ZAP (u64.wrap n) != 1)
  ·exact⟨k,rfl⟩
  ·exact⟨0,rfl⟩
 ·exact⟨0,rfl⟩
theorem Zy3 (n:Nat) (h:n<=4096):Zwk (n:Int)=ZIs n:=by
 have h1:(Zl2 (n:Int) != 0)=false:=by
  unfold Zl2
  rw[decide_eq_false (show ¬((n:Int)<0) by omega),decide_eq_false (show ¬((1099511627775:Int)<n) by omega)]
  rfl
 rw[<- Zzv n h]
 unfold Zwk
 rw[h1]
 unfold bne
 rw[Bool.not_not]
 rfl
def ZGH (b:Zr):Prop:=b.ins.length<9223372036854775808/\b.outs.length<9223372036854775808
structure Znj (d:Zq):Prop where
 p:d.parts.length<9223372036854775808
 e:d.edges.length<9223372036854775808
 f:d.futures.length<9223372036854775808
 b:d.barriers.length<9223372036854775808
 i:∀b∈d.barriers,ZGH b
theorem ZoM {γ:Type}{l:List γ}{i n:Nat} (h:l.length<n):(l.take i).length<n:=by rw[List.length_take];omega
def Zh1 (d:Zq) (i:Nat) (e:Zi):Bool:=!(two d.parts.length e.src e.dst) || (d.edges.take i).any (Zsw e)
theorem ZFV (d:Zq) (h:Znj d):lp (ZeF d) 0=some (bif Zid (Zh1 d) 0 d.edges then .inl () else .inr ()):=by
 have key:=Zhw d.edges (ZeF d) (Zh1 d) (fun _ _=>.inl ()) (.inr ()) (fun i x hi hx=>by
   simp only[ZeF,Zcx hi,ZN hx,Option.bind_some,ZL hi h.e,cond_true,ZGI d h.p,Zh1,Int.toNat_natCast,ZvD _ _ (ZoM h.e)]
   rw[decide_eq_true (show(0:Int)<=(i:Int) by omega),Nat.ble_eq_true_of_le (Nat.le_of_lt hi)]
   cases two d.parts.length x.src x.dst<;>cases (d.edges.take i).any (Zsw x)<;>rfl) (by simp only[ZeF,ZdO];rfl)
 rw[key,Zgc]
def ZgD (ps:List ZU) (z:Int):Int:=match ps[z.toNat]? with | some p=>p.work | none=>0
def ZeC (d:Zq) (i:Nat) (f:Zg):Bool:=!(two d.parts.length f.maker f.user) || (!(Zc0 f.pos 1 (ZgD d.parts f.user-1)) || (d.futures.take i).any (again f))
theorem Ztw {n:Nat}{a b:Int} (h:two n a b=true):(0<=a/\a.toNat<n)/\(0<=b/\b.toNat<n)/\a≠b:=by
 simp only[two,Zc0,Bool.and_eq_true,decide_eq_true_eq,bne_iff_ne] at h
 omega
theorem ZGB {γ:Type}{l:List γ}{z:Int} (h0:0<=z) (h:z.toNat<l.length):Zy l z=some l[z.toNat]:=Zpa h0 (List.getElem?_eq_getElem h)
theorem ZBE (d:Zq) (h:Znj d) (hg:∀p∈d.parts,1<=p.work/\p.work<=100):lp (ZeI d) 0=some (bif Zid (ZeC d) 0 d.futures then .inl () else .inr ()):=by
 have key:=Zhw d.futures (ZeI d) (ZeC d) (fun _ _=>.inl ()) (.inr ()) (fun i x hi hx=>by
   simp only[ZeI,Zcx hi,ZN hx,Option.bind_some,ZL hi h.f,cond_true,ZGI d h.p,ZeC]
   cases h1:two d.parts.length x.maker x.user with
   | false=>rfl
   | true=>
    obtain⟨_,⟨u1,u2⟩,_⟩:=Ztw h1
    have w:=hg _ (List.getElem_mem u2)
    have wa:ZgD d.parts x.user=d.parts[x.user.toNat].work:=by simp only[ZgD,List.getElem?_eq_getElem u2]
    rw[<- wa] at w
    rw[ZGB u1 u2]
    simp only[cond_true,Option.bind_some,Zna,<- wa,ZaA (show -9223372036854775808<=ZgD d.parts x.user-1 by omega) (by omega),Int.toNat_natCast]
    rw[decide_eq_true (show(0:Int)<=(i:Int) by omega),Nat.ble_eq_true_of_le (Nat.le_of_lt hi),Zqp _ _ (again x) (fun y _=>ZFN x y) (ZoM h.f)]
    cases Zc0 x.pos 1 (ZgD d.parts x.user-1)<;>cases (d.futures.take i).any (again x)<;>rfl) (by simp only[ZeI,ZdO];rfl)
 rw[key,Zgc]
def ZgW (n:Nat) (b:Zr):Bool:=!(Zok n b.ins) || (!(Zok n b.outs) || b.ins.any (Zt4 b))
theorem Zy4 (d:Zq) (h:Znj d):lp (ZeG d) 0=some (bif d.barriers.any (ZgW d.parts.length) then .inl () else .inr ()):=by
 have key:=Zhw d.barriers (ZeG d) (fun _=>ZgW d.parts.length) (fun _ _=>.inl ()) (.inr ()) (fun i x hi hx=>by
   have hb:=h.i x (List.mem_of_getElem? hx)
   simp only[ZeG,Zcx hi,ZN hx,Option.bind_some,ZL hi h.b,cond_true,ZGJ d h.p _ hb.1,ZGJ d h.p _ hb.2,ZgW,ZdF x.ins _ (Zt4 x) (fun y _=>ZKp x hb.2 y) hb.1]
   cases Zok d.parts.length x.ins<;>cases Zok d.parts.length x.outs<;>cases x.ins.any (Zt4 x)<;>rfl) (by simp only[ZeG,ZdO];rfl)
 rw[key,Zgc,Zpm]
noncomputable def Zt3 (d:Zq):Bool:=Zwk d.period&&(!decide (4096<d.period)&&Zc0 d.deadline 1 d.period)
def Zoz (d:Zq):Bool:=Zc0 (d.parts.length:Int) 1 16&&(!decide ((48:Int)<d.edges.length)&&(!decide ((16:Int)<d.futures.length) && !decide ((4:Int)<d.barriers.length)))
noncomputable def Zh8 (d:Zq):Int:=
 bif Zoz d then bif Zt3 d then bif d.parts.any Zhx then 52 else bif Zid (Zh1 d) 0 d.edges then 53 else
 bif Zid (ZeC d) 0 d.futures then 54 else bif d.barriers.any (ZgW d.parts.length) then 55 else 0 else 51 else 50
theorem Zt5 {ps:List ZU} (h:ps.any Zhx=false):∀p∈ps,1<=p.work/\p.work<=100:=fun p hp=>by
 have:=List.any_eq_false.1 h p hp
 simp only[Zhx,Zc0,Bool.not_eq_true,Bool.not_eq_false',Bool.and_eq_true,decide_eq_true_eq] at this
 exact this.2.2
theorem ZzK (d:Zq) (h:Znj d):Zh3 d=some (Zh8 d):=by
 obtain⟨k,hk⟩:=Zsx d.period
 unfold Zh3 Zh8 Zoz Zt3
 simp only[Zna,Option.bind_some,hk,ZtX _ _ Zhx (fun x _=>ZHu x) h.p,ZFV d h,Zy4 d h]
 cases Zc0 (d.parts.length:Int) 1 16 with
 | false=>rfl
 | true=>
  cases decide ((48:Int)<d.edges.length) with
  | true=>rfl
  | false=>
   cases decide ((16:Int)<d.futures.length) with
   | true=>rfl
   | false=>
    cases decide ((4:Int)<d.barriers.length) with
    | true=>rfl
    | false=>
     cases Zwk d.period with
     | false=>rfl
     | true=>
      cases decide (4096<d.period) with
      | true=>rfl
      | false=>
       cases Zc0 d.deadline 1 d.period with
       | false=>rfl
       | true=>
        cases hp:d.parts.any Zhx with
        | true=>rfl
        | false=>
         rw[ZBE d h (Zt5 hp)]
         cases Zid (Zh1 d) 0 d.edges<;>cases Zid (ZeC d) 0 d.futures<;>cases d.barriers.any (ZgW d.parts.length)<;>rfl
def ZsR (b:Zr):Bool:=decide (20<(b.ins.length:Int)) || decide (20<(b.outs.length:Int))
def few (d:Zq):Bool:=!((d.barriers.take 9).any ZsR)&&(decide ((d.parts.length:Int)<=20)&&(decide ((d.edges.length:Int)<=60)&&(decide ((d.futures.length:Int)<=20)&&decide ((d.barriers.length:Int)<=8))))
theorem ZIF (d:Zq):Zkp d=some (few d):=by
 have hl:(d.barriers.take 9).length=min 9 d.barriers.length:=List.length_take
 have key:=Zhw (d.barriers.take 9) (ZgM d) (fun _=>ZsR) (fun _ _=>.inl ()) (.inr ()) (fun i x hi hx=>by
   have h9:i<9:=by omega
   rw[List.getElem?_take_of_lt h9] at hx
   simp only[ZgM,Zcx (show i<d.barriers.length by omega),ZN hx,Option.bind_some,ZL h9 (by omega),cond_true,ZsR,decide_eq_true (show(i:Int)<9 by omega)]
   cases decide (20<(x.ins.length:Int))<;>cases decide (20<(x.outs.length:Int))<;>rfl) (by
   rw[hl]
   unfold ZgM
   by_cases h:d.barriers.length<=9
   ·rw[Nat.min_eq_right h,ZdO];rfl
   ·rw[Nat.min_eq_left (by omega),decide_eq_true (show((9:Nat):Int)<d.barriers.length by omega)];rfl)
 unfold Zkp few
 rw[key,Zgc,Zpm]
 cases (d.barriers.take 9).any ZsR<;>cases decide ((d.parts.length:Int)<=20)<;>cases decide ((d.edges.length:Int)<=60)<;>cases decide ((d.futures.length:Int)<=20)<;>cases decide ((d.barriers.length:Int)<=8)<;>rfl
structure Zod (d:Zq):Prop where
 p:d.parts.length<=20
 e:d.edges.length<=60
 f:d.futures.length<=20
 b:d.barriers.length<=8
 i:∀b∈d.barriers,b.ins.length<=20/\b.outs.length<=20
theorem ZAW {d:Zq} (h:few d=true):Zod d:=by
 unfold few at h
 simp only[Bool.and_eq_true,decide_eq_true_eq,Bool.not_eq_true'] at h
 obtain⟨h1,h2,h3,h4,h5⟩:=h
 refine⟨by omega,by omega,by omega,by omega,fun b hb=>?_⟩
 have:=List.any_eq_false.1 h1 b (by rw[List.take_of_length_le (by omega)];exact hb)
 simp only[ZsR,Bool.or_eq_true,decide_eq_true_eq,not_or] at this
 omega
theorem Zod.short {d:Zq} (h:Zod d):Znj d:=
 ⟨by have:=h.p;omega,by have:=h.e;omega,by have:=h.f;omega,by have:=h.b;omega,fun b hb=>⟨by have:=(h.i b hb).1;omega,by have:=(h.i b hb).2;omega⟩⟩
theorem ZKx (d:Zq) (h:Zod d):ZiP d=some d.barriers:=by
 have key:=ZvN d.barriers (Zfy d) (fun i (s:List Zr)=>((i:Int),s)) (fun i x s=>bif Nat.ble (s.length+1) lim then some (.inl (s++[x])) else none) (fun s=>some s) (fun i x s hi hx=>by
   have hb:=h.i x (List.mem_of_getElem? hx)
   simp only[Zfy,Zcx hi,ZN hx,Option.bind_some,ZL hi h.short.b,cond_true,Zgn (show x.ins.length<=1073741824 by omega),Zgn (show x.outs.length<=1073741824 by omega)]
   cases Nat.ble (s.length+1) lim<;>rfl) (fun s=>by simp only[Zfy,ZdO];rfl) []
 have sc:∀(l:List Zr) (i:Nat) (s:List Zr),s.length+l.length<=1073741824->ZqC (fun i x s=>bif Nat.ble (s.length+1) lim then some (Sum.inl (s++[x])) else (none:Option (List Zr⊕List Zr))) (fun s=>some s) i l s=some (s++l):=by
  intro l
  induction l with
  | nil=>intro i s _;simp[ZqC]
  | cons x l ih=>
   intro i s hs
   rw[List.length_cons] at hs
   unfold ZqC
   rw[Zgn (by omega)]
   simp only[cond_true]
   rw[ih (i+1) (s++[x]) (by rw[List.length_append];simp;omega)]
   simp
 rw[sc _ _ _ (by have:=h.b;simp;omega)] at key
 unfold ZiP
 rw[Zgn (show List.length d.parts<=1073741824 by have:=h.p;omega),Zgn (show List.length d.edges<=1073741824 by have:=h.e;omega),Zgn (show List.length d.futures<=1073741824 by have:=h.f;omega)]
 show(lp (Zfy d) (((0:Nat):Int),[])).bind _=_
 rw[key]
 rfl
open Go Go.Proofs.YtgcfmiajkbbmeaaGreatDoorE Go.Sort
structure OKA (P:Int->Prop) (d:Array Int):Prop where
 el:∀i,i<d.size->P d[i]!
 sz:d.size<=1000
theorem ZbF {d:Array Int}{i:Nat} (h:i<d.size):Zy d.toList (i:Int)=some d[i]!:=by
 refine ZN ?_
 rw[Array.getElem?_toList,Array.getElem?_eq_getElem h,getElem!_pos d i h]
theorem ZHd (d:Array Int) (i:Nat) (x:Int):List.set d.toList i x=(d.setIfInBounds i x).toList:=by simp
theorem ZiL (d:Array Int) (i j:Nat):List.set (List.set d.toList i d[j]!) j d[i]! = (swp d i j).toList:=by
 unfold swp
 rw[ZHd,ZHd]
theorem Zm9 {d:Array Int}{i j:Nat}{x:Int} (h:j<d.size):∃y,Zy (List.set d.toList i x) (j:Int)=some y:=by
 rw[ZHd]
 exact⟨_,ZbF (by simpa using h)⟩
theorem Z8 (d:Array Int) (i j:Nat):(swp d i j).size=d.size:=by unfold swp;simp
theorem ZGy {d:Array Int}{i j k:Nat} (hi:i<d.size) (hj:j<d.size):(swp d i j)[k]! = if k=j then d[i]! else if k=i then d[j]! else d[k]!:=by
 unfold swp
 by_cases hk:k<d.size
 ·rw[getElem!_pos _ k (by simpa using hk),getElem!_pos d k hk,Array.getElem_setIfInBounds (by simpa using hk)]
  by_cases h1:j=k
  ·rw[if_pos h1,if_pos h1.symm]
  ·rw[if_neg h1,if_neg (Ne.symm h1),Array.getElem_setIfInBounds hk]
   by_cases h2:i=k
   ·rw[if_pos h2,if_pos h2.symm]
   ·rw[if_neg h2,if_neg (Ne.symm h2)]
 ·rw[getElem!_neg _ k (by simpa using hk),getElem!_neg d k hk,if_neg (by omega),if_neg (by omega)]
theorem OKA.swp {P:Int->Prop}{d:Array Int} (h:OKA P d) {i j:Nat} (hi:i<d.size) (hj:j<d.size):OKA P (swp d i j):=
 ⟨fun k hk=>by
  rw[Z8] at hk
  rw[ZGy hi hj]
  split
  ·exact h.el _ hi
  ·split
   ·exact h.el _ hj
   ·exact h.el _ hk,by rw[Z8];exact h.sz⟩
theorem ZhV {a b:Nat}:decide ((a:Int)<(b:Int))=decide (a<b):=decide_eq_decide.2 (by omega)
theorem ZiU {a b:Nat}:decide ((a:Int)<=(b:Int))=decide (a<=b):=decide_eq_decide.2 (by omega)
theorem Zaq {z:Int}{n:Nat} (h:z=(n:Int)) (hn:n<9223372036854775808):w64 z=(n:Int):=by rw[h,ZaA (by omega) (by omega)]
section
variable (cmp:Int->Int->Option Int) (c:Int->Int->Int) (P:Int->Prop)
def ZwT:Prop:=∀x y,P x->P y->cmp x y=some (c x y)
def ltC (x y:Int):Bool:=decide (c x y<0)
variable {cmp c P} (hc:ZwT cmp c P)
include hc
theorem Zu5 (a:Nat):∀(j:Nat) (d:Array Int),OKA P d->j<d.size->lp (Z2 (a:Int) cmp) ((j:Int),d.toList)=some (insInner (ltC c) a j d).toList/\OKA P (insInner (ltC c) a j d)/\(insInner (ltC c) a j d).size=d.size
 | 0,d,hd,hj=>by
  rw[Zae]
  simp only[Z2,decide_eq_false (show ¬((a:Int)<((0:Nat):Int)) by omega),cond_false]
  exact⟨rfl,hd,rfl⟩
 | j+1,d,hd,hj=>by
  have hj':j<d.size:=by omega
  have hz:=hd.sz
  rw[Zae]
  have e2:w64 (((j+1:Nat):Int)-1)=(j:Int):=Zaq (by omega) (by omega)
  have e3:=hc _ _ (hd.el (j+1) hj) (hd.el j hj')
  unfold insInner
  by_cases h1:a<j+1
  ·by_cases h2:c d[j+1]! d[j]! < 0
   ·have ih:=Zu5 a j (swp d (j+1) j) (hd.swp hj hj') (by rw[Z8];omega)
    obtain⟨y,e5⟩:=Zm9 (i:=j+1) (x:=d[j]!) hj'
    simp only[Z2,ZhV,decide_eq_true h1,cond_true,ZbF hj,e2,ZbF hj',Option.bind_some,e3,decide_eq_true h2,Int.toNat_natCast,e5,ZiL]
    rw[if_pos (by simp[h1,h2,ltC])]
    rw[Z8] at ih
    exact ih
   ·simp only[Z2,ZhV,decide_eq_true h1,cond_true,ZbF hj,e2,ZbF hj',Option.bind_some,e3,decide_eq_false h2,cond_false]
    rw[if_neg (by simp[h1,h2,ltC])]
    exact⟨rfl,hd,rfl⟩
  ·simp only[Z2,ZhV,decide_eq_false h1,cond_false]
   rw[if_neg (by simp[h1])]
   exact⟨rfl,hd,rfl⟩
theorem Zvz (a b:Nat):∀(k i:Nat) (d:Array Int),i+k=max i b->b<=d.size->OKA P d->lp (Zaw (a:Int) (b:Int) cmp) ((i:Int),d.toList)=some (insOuter (ltC c) a b i d).toList/\OKA P (insOuter (ltC c) a b i d)/\(insOuter (ltC c) a b i d).size=d.size
 | 0,i,d,hi,hb,hd=>by
  rw[Zae]
  unfold insOuter
  simp only[Zaw,ZhV,decide_eq_false (show ¬i<b by omega),cond_false]
  rw[if_neg (by omega)]
  exact⟨rfl,hd,rfl⟩
 | k+1,i,d,hi,hb,hd=>by
  have hib:i<b:=by omega
  have hz:=hd.sz
  obtain⟨h1,h2,h3⟩:=Zu5 hc a i d hd (by omega)
  have ih:=Zvz a b k (i+1) (insInner (ltC c) a i d) (by omega) (by rw[h3];exact hb) h2
  rw[Zae]
  unfold insOuter
  simp only[Zaw,ZhV,decide_eq_true hib,cond_true,h1,Option.bind_some,ZL hib (by omega)]
  rw[if_pos hib,<- h3]
  exact ih
theorem ZGX (a b:Nat) (d:Array Int) (hb:b<=d.size) (ha:a<=b) (hd:OKA P d):Z0 (a:Int) (b:Int) cmp d.toList=some (insertionSort (ltC c) d a b).toList/\OKA P (insertionSort (ltC c) d a b)/\(insertionSort (ltC c) d a b).size=d.size:=by
 have hz:=hd.sz
 obtain⟨h1,h2⟩:=Zvz hc a b (max (a+1) b-(a+1)) (a+1) d (by omega) hb hd
 unfold Z0 insertionSort
 rw[Zaq (n:=a+1) (by omega) (by omega),h1]
 exact⟨rfl,h2⟩
theorem ZFv (hi first:Nat):∀(k root:Nat) (d:Array Int),hi-root<=k->root<=hi->first+hi<=d.size->OKA P d->∃r,lp (ZM (hi:Int) (first:Int) cmp) ((root:Int),d.toList)=some r/\(r = .inl (siftDown (ltC c) hi first root d).toList∨r = .inr (siftDown (ltC c) hi first root d).toList)/\OKA P (siftDown (ltC c) hi first root d)/\(siftDown (ltC c) hi first root d).size=d.size:=by
 intro k
 induction k with
 | zero=>
  intro root d hk hr hs hd
  have hz:=hd.sz
  rw[Zae]
  unfold siftDown
  have e0:w64 (2*(root:Int))=((2*root:Nat):Int):=Zaq (by omega) (by omega)
  have e1:w64 (((2*root:Nat):Int)+1)=((2*root+1:Nat):Int):=Zaq (by omega) (by omega)
  simp only[ZM,e0,e1,ZiU,decide_eq_true (show hi<=2*root+1 by omega),cond_true]
  rw[dif_pos (by omega)]
  exact⟨_,rfl,.inl rfl,hd,rfl⟩
 | succ k ih=>
  intro root d hk hr hs hd
  have hz:=hd.sz
  rw[Zae]
  unfold siftDown
  have e0:w64 (2*(root:Int))=((2*root:Nat):Int):=Zaq (by omega) (by omega)
  have e1:w64 (((2*root:Nat):Int)+1)=((2*root+1:Nat):Int):=Zaq (by omega) (by omega)
  by_cases h1:hi<=2*root+1
  ·simp only[ZM,e0,e1,ZiU,decide_eq_true h1,cond_true]
   rw[dif_pos (by omega)]
   exact⟨_,rfl,.inl rfl,hd,rfl⟩
  have e2:w64 (((2*root+1:Nat):Int)+1)=((2*root+2:Nat):Int):=Zaq (by omega) (by omega)
  have er:w64 ((first:Int)+(root:Int))=((first+root:Nat):Int):=Zaq (by omega) (by omega)
  have ef:w64 ((first:Int)+((2*root+1:Nat):Int))=((first+(2*root+1):Nat):Int):=Zaq (by omega) (by omega)
  have ef1:w64 (((first+(2*root+1):Nat):Int)+1)=((first+(2*root+1)+1:Nat):Int):=Zaq (by omega) (by omega)
  have ef2:w64 ((first:Int)+((2*root+2:Nat):Int))=((first+(2*root+2):Nat):Int):=Zaq (by omega) (by omega)
  have ir:first+root<d.size:=by omega
  have i1:first+(2*root+1)<d.size:=by omega
  have cr1:=hc _ _ (hd.el _ ir) (hd.el _ i1)
  have one:∀{r:List Int⊕List Int} {A:Array Int},A=d->(r = .inl d.toList∨r = .inr d.toList)->∃q,some r=some q/\(q = .inl A.toList∨q = .inr A.toList)/\OKA P A/\A.size=d.size:=fun hA hr=>by
   subst hA
   exact⟨_,rfl,hr,hd,rfl⟩
  rw[dif_neg (by omega)]
  by_cases h2:2*root+2<hi
  ·have i2:first+(2*root+2)<d.size:=by omega
   have i2':first+(2*root+1)+1<d.size:=by omega
   have c12:=hc _ _ (hd.el _ i1) (hd.el _ i2')
   have cr2:=hc _ _ (hd.el _ ir) (hd.el _ i2)
   by_cases h3:c d[first+(2*root+1)]! d[first+(2*root+1)+1]! < 0
   ·rw[if_pos (by simp[h3,ltC];omega)]
    by_cases h4:c d[first+root]! d[first+(2*root+2)]! < 0
    ·obtain⟨y,em⟩:=Zm9 (i:=first+root) (x:=d[first+(2*root+2)]!) i2
     simp only[ZM,e0,e1,e2,ZiU,ZhV,decide_eq_false h1,decide_eq_true h2,cond_false,cond_true,ef,ef1,ef2,er,ZbF i1,ZbF i2',ZbF ir,ZbF i2,Option.bind_some,c12,cr2,decide_eq_true h3,decide_eq_true h4,Int.toNat_natCast,em,ZiL]
     rw[if_neg (by simp[h4,ltC]),dif_pos h2]
     have:=ih (2*root+2) (swp d (first+root) (first+(2*root+2))) (by omega) (by omega) (by rw[Z8];omega) (hd.swp ir i2)
     rw[Z8] at this
     exact this
    ·simp only[ZM,e0,e1,e2,ZiU,ZhV,decide_eq_false h1,decide_eq_true h2,cond_false,cond_true,ef,ef1,ef2,er,ZbF i1,ZbF i2',ZbF ir,ZbF i2,Option.bind_some,c12,cr2,decide_eq_true h3,decide_eq_false h4]
     rw[if_pos (by simp[h4,ltC])]
     exact one rfl (.inr rfl)
   ·rw[if_neg (by simp[h3,ltC])]
    by_cases h4:c d[first+root]! d[first+(2*root+1)]! < 0
    ·obtain⟨y,em⟩:=Zm9 (i:=first+root) (x:=d[first+(2*root+1)]!) i1
     simp only[ZM,e0,e1,e2,ZiU,ZhV,decide_eq_false h1,decide_eq_true h2,cond_false,cond_true,ef,ef1,ef2,er,ZbF i1,ZbF i2',ZbF ir,Option.bind_some,c12,cr1,decide_eq_false h3,decide_eq_true h4,Int.toNat_natCast,em,ZiL]
     rw[if_neg (by simp[h4,ltC])]
     have:=ih (2*root+1) (swp d (first+root) (first+(2*root+1))) (by omega) (by omega) (by rw[Z8];omega) (hd.swp ir i1)
     rw[Z8] at this
     exact this
    ·simp only[ZM,e0,e1,e2,ZiU,ZhV,decide_eq_false h1,decide_eq_true h2,cond_false,cond_true,ef,ef1,ef2,er,ZbF i1,ZbF i2',ZbF ir,Option.bind_some,c12,cr1,decide_eq_false h3,decide_eq_false h4]
     rw[if_pos (by simp[h4,ltC])]
     exact one rfl (.inr rfl)
  ·rw[if_neg (by simp;omega)]
   by_cases h4:c d[first+root]! d[first+(2*root+1)]! < 0
   ·obtain⟨y,em⟩:=Zm9 (i:=first+root) (x:=d[first+(2*root+1)]!) i1
    simp only[ZM,e0,e1,e2,ZiU,ZhV,decide_eq_false h1,decide_eq_false h2,cond_false,cond_true,ef,er,ZbF i1,ZbF ir,Option.bind_some,cr1,decide_eq_true h4,Int.toNat_natCast,em,ZiL]
    rw[if_neg (by simp[h4,ltC])]
    have:=ih (2*root+1) (swp d (first+root) (first+(2*root+1))) (by omega) (by omega) (by rw[Z8];omega) (hd.swp ir i1)
    rw[Z8] at this
    exact this
   ·simp only[ZM,e0,e1,e2,ZiU,ZhV,decide_eq_false h1,decide_eq_false h2,cond_false,cond_true,ef,er,ZbF i1,ZbF ir,Option.bind_some,cr1,decide_eq_false h4]
    rw[if_pos (by simp[h4,ltC])]
    exact one rfl (.inr rfl)
theorem ZFm (hi first root:Nat) (d:Array Int) (hr:root<=hi) (hs:first+hi<=d.size) (hd:OKA P d):ZaJ (root:Int) (hi:Int) (first:Int) cmp d.toList=some (siftDown (ltC c) hi first root d).toList/\OKA P (siftDown (ltC c) hi first root d)/\(siftDown (ltC c) hi first root d).size=d.size:=by
 obtain⟨r,h1,h2,h3⟩:=ZFv hc hi first _ root d (Nat.le_refl _) hr hs hd
 unfold ZaJ
 rw[h1]
 rcases h2 with rfl | rfl
 ·exact⟨rfl,h3⟩
 ·exact⟨rfl,h3⟩
theorem ZAb (hi first b:Nat) (hb:(b:Int)=first+hi):∀(k:Nat) (d:Array Int),k<=hi+1->first+hi<=d.size->OKA P d->lp (ZaY (first:Int) (b:Int) cmp) ((k:Int)-1,d.toList)=some (heapBuild (ltC c) hi first k d).toList/\OKA P (heapBuild (ltC c) hi first k d)/\(heapBuild (ltC c) hi first k d).size=d.size
 | 0,d,hk,hs,hd=>by
  rw[Zae]
  simp only[ZaY,decide_eq_false (show ¬((0:Int)<=((0:Nat):Int)-1) by omega),cond_false]
  exact⟨rfl,hd,rfl⟩
 | k+1,d,hk,hs,hd=>by
  have hz:=hd.sz
  obtain⟨h1,h2,h3⟩:=ZFm hc hi first k d (by omega) hs hd
  have ih:=ZAb hi first b hb k (siftDown (ltC c) hi first k d) (by omega) (by rw[h3];exact hs) h2
  have e1:w64 ((b:Int)-(first:Int))=(hi:Int):=Zaq (by omega) (by omega)
  have e2:(((k+1:Nat):Int)-1)=(k:Int):=by omega
  have e3:w64 ((k:Int)-1)=(k:Int)-1:=ZaA (by omega) (by omega)
  rw[Zae,e2]
  simp only[ZaY,decide_eq_true (show(0:Int)<=(k:Int) by omega),cond_true,e1,h1,Option.bind_some,e3]
  rw[<- h3]
  exact ih
theorem ZGU (first:Nat):∀(k:Nat) (d:Array Int),first+k<=d.size->OKA P d->lp (ZaZ (first:Int) cmp) ((k:Int)-1,d.toList)=some (heapPop (ltC c) first k d).toList/\OKA P (heapPop (ltC c) first k d)/\(heapPop (ltC c) first k d).size=d.size
 | 0,d,hs,hd=>by
  rw[Zae]
  simp only[ZaZ,decide_eq_false (show ¬((0:Int)<=((0:Nat):Int)-1) by omega),cond_false]
  exact⟨rfl,hd,rfl⟩
 | k+1,d,hs,hd=>by
  have hz:=hd.sz
  have i1:first+k<d.size:=by omega
  have i2:first<d.size:=by omega
  obtain⟨h1,h2,h3⟩:=ZFm hc k first 0 (swp d first (first+k)) (by omega) (by rw[Z8];omega) (hd.swp i2 i1)
  rw[Z8] at h3
  have ih:=ZGU first k (siftDown (ltC c) k first 0 (swp d first (first+k))) (by rw[h3];omega) h2
  have e2:(((k+1:Nat):Int)-1)=(k:Int):=by omega
  have e3:w64 ((k:Int)-1)=(k:Int)-1:=ZaA (by omega) (by omega)
  have e4:w64 ((first:Int)+(k:Int))=((first+k:Nat):Int):=Zaq (by omega) (by omega)
  obtain⟨y,em⟩:=Zm9 (i:=first) (x:=d[first+k]!) i1
  have h1':ZaJ 0 (k:Int) (first:Int) cmp (swp d first (first+k)).toList=_:=h1
  rw[Zae,e2]
  simp only[ZaZ,decide_eq_true (show(0:Int)<=(k:Int) by omega),cond_true,e4,ZbF i1,ZbF i2,Option.bind_some,Int.toNat_natCast,em,ZiL,h1',e3]
  rw[<- h3]
  exact ih
theorem ZHJ (a b:Nat) (d:Array Int) (ha:a<=b) (hb:b<=d.size) (hd:OKA P d):Zaf (a:Int) (b:Int) cmp d.toList=some (heapSort (ltC c) d a b).toList/\OKA P (heapSort (ltC c) d a b)/\(heapSort (ltC c) d a b).size=d.size:=by
 have hz:=hd.sz
 have e1:w64 ((b:Int)-(a:Int))=((b-a:Nat):Int):=Zaq (by omega) (by omega)
 have e2:w64 (((b-a:Nat):Int)-1)=((b-a:Nat):Int)-1:=ZaA (by omega) (by omega)
 have e3:w64 (Int.tdiv (((b-a:Nat):Int)-1) 2)=(((b-a-1) / 2+1:Nat):Int)-1:=by
  by_cases h:b-a=0
  ·rw[h];rfl
  ·rw[Int.tdiv_eq_ediv_of_nonneg (by omega),ZaA (by omega) (by omega)]
   omega
 obtain⟨h1,h2,h3⟩:=ZAb hc (b-a) a b (by omega) ((b-a-1) / 2+1) d (by omega) (by omega) hd
 obtain⟨h4,h5,h6⟩:=ZGU hc a (b-a) (heapBuild (ltC c) (b-a) a ((b-a-1) / 2+1) d) (by rw[h3];omega) h2
 unfold Zaf heapSort
 simp only[e1,e2,e3,h1,h4,Option.bind_some]
 exact⟨trivial,h5,by rw[h6,h3]⟩
end
end Go.Proofs.YtgcfmiajkbbmeaaGreatDoor
namespace Go.Proofs.YtgcfmiajkbbmeaaGreatDoor
open Go Go.Proofs.YtgcfmiajkbbmeaaGreatDoorE Go.Sort
open Go.IntKind (u64 i64 u32 i32 u8)
theorem ZqS (step:Int->Option (Int⊕Int)) (p:Int->Bool) (d:Array Int) (j:Nat) (h:∀i:Nat,i<=j+2->step (i:Int)=some (bif decide (i<=j)&&p d[i]! then .inl ((i+1:Nat):Int) else .inr (i:Int))) :
  ∀(k i:Nat),j+2-i<=k->i<=j+2->lp step (i:Int)=some ((scanUp p d j i:Nat):Int)/\i<=scanUp p d j i/\scanUp p d j i<=max i (j+1):=by
 intro k
 induction k with
 | zero=>
  intro i hk hi
  rw[Zae,h i hi]
  unfold scanUp
  rw[decide_eq_false (show ¬i<=j by omega)]
  simp[show ¬i<=j by omega]
  omega
 | succ k ih=>
  intro i hk hi
  rw[Zae,h i hi]
  unfold scanUp
  by_cases h1:i<=j
  ·cases h2:p d[i]! with
   | true=>
    rw[decide_eq_true h1,if_pos (by simp[h1])]
    obtain⟨a1,a2,a3⟩:=ih (i+1) (by omega) (by omega)
    exact⟨a1,by omega,by omega⟩
   | false=>
    rw[decide_eq_true h1,if_neg (by simp)]
    exact⟨rfl,by omega,by omega⟩
  ·rw[decide_eq_false h1,if_neg (by simp[h1])]
   exact⟨rfl,by omega,by omega⟩
theorem ZkB (step:Int->Option (Int⊕Int)) (p:Int->Bool) (d:Array Int) (i:Nat) (hi:1<=i):∀(j:Nat),(∀k:Nat,k<=j->step (k:Int)=some (bif decide (i<=k)&&p d[k]! then .inl ((k:Int)-1) else .inr (k:Int)))->lp step (j:Int)=some ((scanDown p d i j:Nat):Int)/\scanDown p d i j<=j
 | 0,h=>by
  rw[Zae,h 0 (Nat.le_refl _),decide_eq_false (show ¬i<=0 by omega)]
  exact⟨rfl,Nat.le_refl _⟩
 | j+1,h=>by
  rw[Zae,h (j+1) (Nat.le_refl _)]
  unfold scanDown
  by_cases h1:i<=j+1
  ·cases h2:p d[j+1]! with
   | true=>
    rw[decide_eq_true h1,if_pos (by simp[h1])]
    have ih:=ZkB step p d i hi j (fun k hk=>h k (by omega))
    have e:(((j+1:Nat):Int)-1)=(j:Int):=by omega
    simp only[Bool.and_self,cond_true,e]
    exact⟨ih.1,by omega⟩
   | false=>
    rw[decide_eq_true h1,if_neg (by simp)]
    exact⟨rfl,Nat.le_refl _⟩
  ·rw[decide_eq_false h1,if_neg (by simp[h1])]
   exact⟨rfl,Nat.le_refl _⟩
section
variable {cmp:Int->Int->Option Int} {c:Int->Int->Int} {P:Int->Prop} (hc:ZwT cmp c P)
include hc
theorem ZBL (a:Nat):∀(k i j:Nat) (d:Array Int),j+3-i<=k->1<=i->i<=j+2->j<d.size->a<d.size->OKA P d ->
  lp (ZbE (a:Int) cmp) ((i:Int),(j:Int),d.toList)=some (((partLoop (ltC c) a i j d).1:Int),(partLoop (ltC c) a i j d).2.toList)/\OKA P (partLoop (ltC c) a i j d).2/\(partLoop (ltC c) a i j d).2.size=d.size/\(partLoop (ltC c) a i j d).1<=j:=by
 intro k
 induction k with
 | zero=>
  intro i j d hk h1 h2 hj ha hd
  exact absurd hk (by omega)
 | succ k ih=>
  intro i j d hk h1 h2 hj ha hd
  have hz:=hd.sz
  obtain⟨u1,u2,u3⟩:=ZqS (ZaO (a:Int) cmp ((i:Int),(j:Int),d.toList)) (fun x=>ltC c x d[a]!) d j (fun m hm=>by
    by_cases hmj:m<=j
    ·have im:m<d.size:=by omega
     simp only[ZaO,ZiU,decide_eq_true hmj,cond_true,ZbF im,ZbF ha,Option.bind_some,hc _ _ (hd.el _ im) (hd.el _ ha),ltC,Bool.true_and,ZL (show m<j+1 by omega) (by omega)]
     cases decide (c d[m]! d[a]! < 0)<;>rfl
    ·simp only[ZaO,ZiU,decide_eq_false hmj,cond_false,Bool.false_and]) (j+2-i) i (Nat.le_refl _) h2
  generalize hi2:scanUp (fun x=>ltC c x d[a]!) d j i=i2 at u1 u2 u3
  obtain⟨v1,v2⟩:=ZkB (ZaL (a:Int) cmp ((i:Int),(j:Int),d.toList) (i2:Int)) (fun x=>!ltC c x d[a]!) d i2 (by omega) j (fun m hm=>by
    have im:m<d.size:=by omega
    by_cases hmi:i2<=m
    ·simp only[ZaL,ZiU,decide_eq_true hmi,cond_true,ZbF im,ZbF ha,Option.bind_some,hc _ _ (hd.el _ im) (hd.el _ ha),ltC,Bool.true_and,ZaA (show -9223372036854775808<=(m:Int)-1 by omega) (by omega)]
     cases decide (c d[m]! d[a]! < 0)<;>rfl
    ·simp only[ZaL,ZiU,decide_eq_false hmi,cond_false,Bool.false_and])
  generalize hj2:scanDown (fun x=>!ltC c x d[a]!) d i2 j=j2 at v1 v2
  rw[Zae]
  unfold partLoop
  simp only[ZbE,u1,v1,Option.bind_some,ZhV,hi2,hj2]
  by_cases hij:j2<i2
  ·rw[decide_eq_true hij,if_pos hij]
   exact⟨rfl,hd,rfl,v2⟩
  ·have k1:i2<d.size:=by omega
   have k2:j2<d.size:=by omega
   obtain⟨y,em⟩:=Zm9 (i:=i2) (x:=d[j2]!) k2
   have e1:w64 ((i2:Int)+1)=((i2+1:Nat):Int):=Zaq (by omega) (by omega)
   have e2:w64 ((j2:Int)-1)=((j2-1:Nat):Int):=Zaq (by omega) (by omega)
   rw[decide_eq_false hij,if_neg hij,dif_pos (by omega)]
   simp only[cond_false,ZbF k1,ZbF k2,Option.bind_some,Int.toNat_natCast,em,ZiL,e1,e2]
   obtain⟨q1,q2,q3,q4⟩:=ih (i2+1) (j2-1) (swp d i2 j2) (by omega) (by omega) (by omega) (by rw[Z8];omega) (by rw[Z8];exact ha) (hd.swp k1 k2)
   rw[Z8] at q3
   exact⟨q1,q2,q3,by omega⟩
theorem ZF9 (a b pivot:Nat) (d:Array Int) (h1:a<=pivot) (h2:pivot<b) (hb:b<=d.size) (hd:OKA P d) :
  Zs (a:Int) (b:Int) (pivot:Int) cmp d.toList=some (bif (partition (ltC c) d a b pivot).2.1 then .inl (((partition (ltC c) d a b pivot).1:Int),(partition (ltC c) d a b pivot).2.2.toList) else .inr (((partition (ltC c) d a b pivot).1:Int),(partition (ltC c) d a b pivot).2.2.toList)) /\
  OKA P (partition (ltC c) d a b pivot).2.2/\(partition (ltC c) d a b pivot).2.2.size=d.size:=by
 have hz:=hd.sz
 have ip:pivot<d.size:=by omega
 have ia:a<d.size:=by omega
 have hd1:=hd.swp ia ip
 have s1:=Z8 d a pivot
 obtain⟨y,em⟩:=Zm9 (i:=a) (x:=d[pivot]!) ip
 have e1:w64 ((a:Int)+1)=((a+1:Nat):Int):=Zaq (by omega) (by omega)
 have e2:w64 ((b:Int)-1)=((b-1:Nat):Int):=Zaq (by omega) (by omega)
 have sw:=ZiL d a pivot
 have ia1:a<(swp d a pivot).size:=by omega
 obtain⟨u1,u2,u3⟩:=ZqS (ZaN (a:Int) (b:Int) (pivot:Int) d.toList cmp d[pivot]! d[a]!) (fun x=>ltC c x (swp d a pivot)[a]!) (swp d a pivot) (b-1) (fun m hm=>by
   by_cases hmj:m<=b-1
   ·have im:m<(swp d a pivot).size:=by omega
    simp only[ZaN,e2,ZiU,decide_eq_true hmj,cond_true,Int.toNat_natCast,sw,ZbF im,ZbF ia1,Option.bind_some,hc _ _ (hd1.el _ im) (hd1.el _ ia1),ltC,Bool.true_and,ZL (show m<b by omega) (by omega)]
    cases decide (c (swp d a pivot)[m]! (swp d a pivot)[a]! < 0)<;>rfl
   ·simp only[ZaN,e2,ZiU,decide_eq_false hmj,cond_false,Bool.false_and]) (b-1+2-(a+1)) (a+1) (Nat.le_refl _) (by omega)
 generalize hi2:scanUp (fun x=>ltC c x (swp d a pivot)[a]!) (swp d a pivot) (b-1) (a+1)=i2 at u1 u2 u3
 obtain⟨v1,v2⟩:=ZkB (ZaM (a:Int) (pivot:Int) d.toList cmp d[pivot]! d[a]! (i2:Int)) (fun x=>!ltC c x (swp d a pivot)[a]!) (swp d a pivot) i2 (by omega) (b-1) (fun m hm=>by
   have im:m<(swp d a pivot).size:=by omega
   by_cases hmi:i2<=m
   ·simp only[ZaM,ZiU,decide_eq_true hmi,cond_true,Int.toNat_natCast,sw,ZbF im,ZbF ia1,Option.bind_some,hc _ _ (hd1.el _ im) (hd1.el _ ia1),ltC,Bool.true_and,ZaA (show -9223372036854775808<=(m:Int)-1 by omega) (by omega)]
    cases decide (c (swp d a pivot)[m]! (swp d a pivot)[a]! < 0)<;>rfl
   ·simp only[ZaM,ZiU,decide_eq_false hmi,cond_false,Bool.false_and])
 generalize hj2:scanDown (fun x=>!ltC c x (swp d a pivot)[a]!) (swp d a pivot) i2 (b-1)=j2 at v1 v2
 unfold Zs partition
 simp only[ZbF ip,ZbF ia,Option.bind_some,Int.toNat_natCast,em,e1,e2,u1,v1,ZhV,sw,hi2,hj2]
 have kj:j2<(swp d a pivot).size:=by omega
 by_cases hij:j2<i2
 ·obtain⟨y2,em2⟩:=Zm9 (i:=j2) (x:=(swp d a pivot)[a]!) ia1
  rw[decide_eq_true hij,if_pos hij]
  simp only[cond_true,ZbF ia1,ZbF kj,Option.bind_some,Int.toNat_natCast,em2,ZiL]
  exact⟨trivial,hd1.swp kj ia1,by rw[Z8,s1]⟩
 ·have ki:i2<(swp d a pivot).size:=by omega
  obtain⟨y2,em2⟩:=Zm9 (i:=i2) (x:=(swp d a pivot)[j2]!) kj
  have e3:w64 ((i2:Int)+1)=((i2+1:Nat):Int):=Zaq (by omega) (by omega)
  have e4:w64 ((j2:Int)-1)=((j2-1:Nat):Int):=Zaq (by omega) (by omega)
  obtain⟨q1,q2,q3,q4⟩:=ZBL hc a (j2-1+3-(i2+1)) (i2+1) (j2-1) (swp (swp d a pivot) i2 j2) (by omega) (by omega) (by omega) (by rw[Z8];omega) (by rw[Z8];exact ia1) (hd1.swp ki kj)
  rw[Z8,s1] at q3
  rw[decide_eq_false hij,if_neg hij]
  simp only[cond_false,ZbF ki,ZbF kj,Option.bind_some,Int.toNat_natCast,em2,ZiL,e3,e4,q1]
  generalize partLoop (ltC c) a (i2+1) (j2-1) (swp (swp d a pivot) i2 j2)=r at *
  have kr:r.1<r.2.size:=by omega
  have kr2:a<r.2.size:=by omega
  obtain⟨y3,em3⟩:=Zm9 (i:=r.1) (x:=r.2[a]!) kr2
  simp only[ZbF kr,ZbF kr2,Option.bind_some,em3,ZiL]
  exact⟨trivial,q2.swp kr kr2,by rw[Z8,q3]⟩
theorem Zx1 (a:Nat):∀(k i j:Nat) (d:Array Int),j+3-i<=k->1<=i->i<=j+2->j<d.size->a<d.size->OKA P d ->
  lp (ZaV (a:Int) cmp) ((i:Int),(j:Int),d.toList)=some (((partEqLoop (ltC c) a i j d).1:Int),(partEqLoop (ltC c) a i j d).2.toList)/\OKA P (partEqLoop (ltC c) a i j d).2/\(partEqLoop (ltC c) a i j d).2.size=d.size/\i<=(partEqLoop (ltC c) a i j d).1/\(partEqLoop (ltC c) a i j d).1<=max i (j+1):=by
 intro k
 induction k with
 | zero=>
  intro i j d hk h1 h2 hj ha hd
  exact absurd hk (by omega)
 | succ k ih=>
  intro i j d hk h1 h2 hj ha hd
  have hz:=hd.sz
  obtain⟨u1,u2,u3⟩:=ZqS (Zas (a:Int) cmp ((i:Int),(j:Int),d.toList)) (fun x=>!ltC c d[a]! x) d j (fun m hm=>by
    by_cases hmj:m<=j
    ·have im:m<d.size:=by omega
     simp only[Zas,ZiU,decide_eq_true hmj,cond_true,ZbF im,ZbF ha,Option.bind_some,hc _ _ (hd.el _ ha) (hd.el _ im),ltC,Bool.true_and,ZL (show m<j+1 by omega) (by omega)]
     cases decide (c d[a]! d[m]! < 0)<;>rfl
    ·simp only[Zas,ZiU,decide_eq_false hmj,cond_false,Bool.false_and]) (j+2-i) i (Nat.le_refl _) h2
  generalize hi2:scanUp (fun x=>!ltC c d[a]! x) d j i=i2 at u1 u2 u3
  obtain⟨v1,v2⟩:=ZkB (Zat (a:Int) cmp ((i:Int),(j:Int),d.toList) (i2:Int)) (fun x=>ltC c d[a]! x) d i2 (by omega) j (fun m hm=>by
    have im:m<d.size:=by omega
    by_cases hmi:i2<=m
    ·simp only[Zat,ZiU,decide_eq_true hmi,cond_true,ZbF im,ZbF ha,Option.bind_some,hc _ _ (hd.el _ ha) (hd.el _ im),ltC,Bool.true_and,ZaA (show -9223372036854775808<=(m:Int)-1 by omega) (by omega)]
     cases decide (c d[a]! d[m]! < 0)<;>rfl
    ·simp only[Zat,ZiU,decide_eq_false hmi,cond_false,Bool.false_and])
  generalize hj2:scanDown (fun x=>ltC c d[a]! x) d i2 j=j2 at v1 v2
  rw[Zae]
  unfold partEqLoop
  simp only[ZaV,u1,v1,Option.bind_some,ZhV,hi2,hj2]
  by_cases hij:j2<i2
  ·rw[decide_eq_true hij,if_pos hij]
   exact⟨rfl,hd,rfl,u2,u3⟩
  ·have k1:i2<d.size:=by omega
   have k2:j2<d.size:=by omega
   obtain⟨y,em⟩:=Zm9 (i:=i2) (x:=d[j2]!) k2
   have e1:w64 ((i2:Int)+1)=((i2+1:Nat):Int):=Zaq (by omega) (by omega)
   have e2:w64 ((j2:Int)-1)=((j2-1:Nat):Int):=Zaq (by omega) (by omega)
   rw[decide_eq_false hij,if_neg hij,dif_pos (by omega)]
   simp only[cond_false,ZbF k1,ZbF k2,Option.bind_some,Int.toNat_natCast,em,ZiL,e1,e2]
   obtain⟨q1,q2,q3,q4,q5⟩:=ih (i2+1) (j2-1) (swp d i2 j2) (by omega) (by omega) (by omega) (by rw[Z8];omega) (by rw[Z8];exact ha) (hd.swp k1 k2)
   rw[Z8] at q3
   exact⟨q1,q2,q3,by omega,by omega⟩
theorem ZER (a b pivot:Nat) (d:Array Int) (h1:a<=pivot) (h2:pivot<b) (hb:b<=d.size) (hd:OKA P d) :
  ZD (a:Int) (b:Int) (pivot:Int) cmp d.toList=some (((partitionEqual (ltC c) d a b pivot).1:Int),(partitionEqual (ltC c) d a b pivot).2.toList)/\OKA P (partitionEqual (ltC c) d a b pivot).2/\(partitionEqual (ltC c) d a b pivot).2.size=d.size/\a<(partitionEqual (ltC c) d a b pivot).1/\(partitionEqual (ltC c) d a b pivot).1<=b:=by
 have hz:=hd.sz
 have ip:pivot<d.size:=by omega
 have ia:a<d.size:=by omega
 obtain⟨y,em⟩:=Zm9 (i:=a) (x:=d[pivot]!) ip
 have e1:w64 ((a:Int)+1)=((a+1:Nat):Int):=Zaq (by omega) (by omega)
 have e2:w64 ((b:Int)-1)=((b-1:Nat):Int):=Zaq (by omega) (by omega)
 obtain⟨q1,q2,q3,q4,q5⟩:=Zx1 hc a (b-1+3-(a+1)) (a+1) (b-1) (swp d a pivot) (by omega) (by omega) (by omega) (by rw[Z8];omega) (by rw[Z8];omega) (hd.swp ia ip)
 rw[Z8] at q3
 unfold ZD partitionEqual
 simp only[ZbF ip,ZbF ia,Option.bind_some,Int.toNat_natCast,em,e1,e2,ZiL,q1]
 exact⟨trivial,q2,q3,by omega,by omega⟩
end
end Go.Proofs.YtgcfmiajkbbmeaaGreatDoor
namespace Go.Proofs.YtgcfmiajkbbmeaaGreatDoor
open Go Go.Proofs.YtgcfmiajkbbmeaaGreatDoorE Go.Sort
open Go.IntKind (u64 i64 u32 i32 u8)
def Zt0:Hint->Int
 | .unknown=>0
 | .increasing=>1
 | .decreasing=>2
theorem ZEM (p:Int×Int) (n:Nat) (x:Int) (h:p.2=(n:Int)) (hx:p.1=x):(bif p.2==0 then some (p.1,(1:Int)) else bif p.2==12 then some (p.1,2) else some (p.1,0))=some (x,Zt0 (if n=0 then Hint.increasing else if n=12 then .decreasing else .unknown)):=by
 rw[h,hx]
 by_cases h0:n=0
 ·subst h0;rfl
 ·by_cases h1:n=12
  ·subst h1;rfl
  ·rw[show((n:Int)==0)=false by simpa using h0,show((n:Int)==12)=false by simp;omega,if_neg h0,if_neg h1]
   rfl
section
variable {cmp:Int->Int->Option Int} {c:Int->Int->Int} {P:Int->Prop} (hc:ZwT cmp c P)
include hc
theorem ZGQ:∀(j:Nat) (d:Array Int),OKA P d->j<d.size->lp (ZY cmp) ((j:Int),d.toList)=some (shiftDown (ltC c) j d).toList/\OKA P (shiftDown (ltC c) j d)/\(shiftDown (ltC c) j d).size=d.size
 | 0,d,hd,hj=>by
  rw[Zae]
  simp only[ZY,decide_eq_false (show ¬((1:Int)<=((0:Nat):Int)) by omega),cond_false]
  exact⟨rfl,hd,rfl⟩
 | j+1,d,hd,hj=>by
  have hj':j<d.size:=by omega
  have hz:=hd.sz
  rw[Zae]
  have e2:w64 (((j+1:Nat):Int)-1)=(j:Int):=Zaq (by omega) (by omega)
  have e3:=hc _ _ (hd.el (j+1) hj) (hd.el j hj')
  unfold shiftDown
  by_cases h2:c d[j+1]! d[j]! < 0
  ·obtain⟨y,e5⟩:=Zm9 (i:=j+1) (x:=d[j]!) hj'
   simp only[ZY,decide_eq_true (show(1:Int)<=((j+1:Nat):Int) by omega),cond_true,ZbF hj,e2,ZbF hj',Option.bind_some,e3,decide_eq_true h2,Int.toNat_natCast,e5,ZiL]
   rw[if_neg (by simp[h2,ltC])]
   have ih:=ZGQ j (swp d (j+1) j) (hd.swp hj hj') (by rw[Z8];omega)
   rw[Z8] at ih
   exact ih
  ·simp only[ZY,decide_eq_true (show(1:Int)<=((j+1:Nat):Int) by omega),cond_true,ZbF hj,e2,ZbF hj',Option.bind_some,e3,decide_eq_false h2,cond_false]
   rw[if_pos (by simp[h2,ltC])]
   exact⟨rfl,hd,rfl⟩
theorem ZGT (b:Nat):∀(k j:Nat) (d:Array Int),b-j<=k->1<=j->b<=d.size->OKA P d->lp (ZJ (b:Int) cmp) ((j:Int),d.toList)=some (shiftUp (ltC c) b j d).toList/\OKA P (shiftUp (ltC c) b j d)/\(shiftUp (ltC c) b j d).size=d.size:=by
 intro k
 induction k with
 | zero=>
  intro j d hk hj hb hd
  rw[Zae]
  unfold shiftUp
  simp only[ZJ,ZhV,decide_eq_false (show ¬j<b by omega),cond_false]
  rw[if_neg (by omega)]
  exact⟨rfl,hd,rfl⟩
 | succ k ih=>
  intro j d hk hj hb hd
  have hz:=hd.sz
  rw[Zae]
  unfold shiftUp
  by_cases h1:j<b
  ·have i1:j<d.size:=by omega
   have i2:j-1<d.size:=by omega
   have e2:w64 ((j:Int)-1)=((j-1:Nat):Int):=Zaq (by omega) (by omega)
   have e3:=hc _ _ (hd.el j i1) (hd.el (j-1) i2)
   rw[if_pos h1]
   by_cases h2:c d[j]! d[j-1]! < 0
   ·obtain⟨y,e5⟩:=Zm9 (i:=j) (x:=d[j-1]!) i2
    simp only[ZJ,ZhV,decide_eq_true h1,cond_true,ZbF i1,e2,ZbF i2,Option.bind_some,e3,decide_eq_true h2,Int.toNat_natCast,e5,ZiL,ZL h1 (by omega)]
    rw[if_neg (by simp[h2,ltC])]
    have:=ih (j+1) (swp d j (j-1)) (by omega) (by omega) (by rw[Z8];exact hb) (hd.swp i1 i2)
    rw[Z8] at this
    exact this
   ·simp only[ZJ,ZhV,decide_eq_true h1,cond_true,ZbF i1,e2,ZbF i2,Option.bind_some,e3,decide_eq_false h2,cond_false]
    rw[if_pos (by simp[h2,ltC])]
    exact⟨rfl,hd,rfl⟩
  ·simp only[ZJ,ZhV,decide_eq_false h1,cond_false]
   rw[if_neg h1]
   exact⟨rfl,hd,rfl⟩
theorem ZB4 (b:Nat) (z:Int) (d:Array Int) (hb:b<=d.size) (hd:OKA P d) (y1 y2:Int):∀(k i:Nat),b-i<=k->1<=i->i<=b->lp (ZQ (b:Int) cmp (y1,y2,d.toList)) (i:Int)=some ((scanSorted (ltC c) d b i:Nat):Int)/\i<=scanSorted (ltC c) d b i/\scanSorted (ltC c) d b i<=b:=by
 have hz:=hd.sz
 intro k
 induction k with
 | zero=>
  intro i hk hi hib
  rw[Zae]
  unfold scanSorted
  simp only[ZQ,ZhV,decide_eq_false (show ¬i<b by omega),cond_false]
  rw[if_neg (by simp[show ¬i<b by omega])]
  exact⟨rfl,Nat.le_refl _,hib⟩
 | succ k ih=>
  intro i hk hi hib
  rw[Zae]
  unfold scanSorted
  by_cases h1:i<b
  ·have i1:i<d.size:=by omega
   have i2:i-1<d.size:=by omega
   have e2:w64 ((i:Int)-1)=((i-1:Nat):Int):=Zaq (by omega) (by omega)
   have e3:=hc _ _ (hd.el i i1) (hd.el (i-1) i2)
   by_cases h2:c d[i]! d[i-1]! < 0
   ·simp only[ZQ,ZhV,decide_eq_true h1,cond_true,ZbF i1,e2,ZbF i2,Option.bind_some,e3,decide_eq_true h2]
    rw[if_neg (by simp[h2,ltC])]
    exact⟨rfl,Nat.le_refl _,hib⟩
   ·simp only[ZQ,ZhV,decide_eq_true h1,cond_true,ZbF i1,e2,ZbF i2,Option.bind_some,e3,decide_eq_false h2,cond_false,ZL h1 (by omega)]
    rw[if_pos (by simp[h1,h2,ltC])]
    obtain⟨a1,a2,a3⟩:=ih (i+1) (by omega) (by omega) (by omega)
    exact⟨a1,by omega,a3⟩
  ·simp only[ZQ,ZhV,decide_eq_false h1,cond_false]
   rw[if_neg (by simp[h1])]
   exact⟨rfl,Nat.le_refl _,hib⟩
theorem ZEl (a b:Nat):∀(s i:Nat) (d:Array Int),s<=5->a<i->i<=b->b<=d.size->OKA P d ->
  ∃r,lp (ZX (a:Int) (b:Int) cmp) ((i:Int),((5-s:Nat):Int),d.toList)=some r/\(match r with | .inl l=>l=(partialIns (ltC c) a b s i d).1.toList/\(partialIns (ltC c) a b s i d).2=true | .inr (.inl l)=>l=(partialIns (ltC c) a b s i d).1.toList/\(partialIns (ltC c) a b s i d).2=false | .inr (.inr l)=>l=(partialIns (ltC c) a b s i d).1.toList/\(partialIns (ltC c) a b s i d).2=false) /\
   OKA P (partialIns (ltC c) a b s i d).1/\(partialIns (ltC c) a b s i d).1.size=d.size
 | 0,i,d,hs,ha,hi,hb,hd=>by
  rw[Zae]
  simp only[ZX,decide_eq_false (show ¬(((5-0:Nat):Int)<5) by omega),cond_false]
  exact⟨_,rfl,by simp[partialIns],by first | exact hd | (simpa [partialIns] using hd),by first | rfl | simp[partialIns]⟩
 | s+1,i,d,hs,ha,hi,hb,hd=>by
  have hz:=hd.sz
  obtain⟨u1,u2,u3⟩:=ZB4 hc b 0 d hb hd (i:Int) ((5-(s+1):Nat):Int) (b-i) i (Nat.le_refl _) (by omega) hi
  rw[Zae]
  unfold partialIns
  generalize hi2:scanSorted (ltC c) d b i=i2 at u1 u2 u3 ⊢
  simp only[ZX,decide_eq_true (show(((5-(s+1):Nat):Int)<5) by omega),cond_true,u1,Option.bind_some]
  by_cases h1:i2=b
  ·rw[show((i2:Int)==(b:Int))=true by simp[h1],if_pos h1]
   exact⟨_,rfl,by simp[partialIns],by first | exact hd | (simpa [partialIns] using hd),by first | rfl | simp[partialIns]⟩
  ·have e1:w64 ((b:Int)-(a:Int))=((b-a:Nat):Int):=Zaq (by omega) (by omega)
   rw[show((i2:Int)==(b:Int))=false by simpa using (show ¬(i2:Int)=(b:Int) by omega),if_neg h1]
   by_cases h2:b-a<50
   ·rw[if_pos h2]
    simp only[cond_false,e1,decide_eq_true (show((b-a:Nat):Int)<50 by omega),cond_true]
    exact⟨_,rfl,by simp[partialIns],by first | exact hd | (simpa [partialIns] using hd),by first | rfl | simp[partialIns]⟩
   ·rw[if_neg h2]
    have i1:i2<d.size:=by omega
    have i3:i2-1<d.size:=by omega
    have e2:w64 ((i2:Int)-1)=((i2-1:Nat):Int):=Zaq (by omega) (by omega)
    have e3:w64 ((i2:Int)-(a:Int))=((i2-a:Nat):Int):=Zaq (by omega) (by omega)
    have e4:w64 ((b:Int)-(i2:Int))=((b-i2:Nat):Int):=Zaq (by omega) (by omega)
    have e5:w64 ((i2:Int)+1)=((i2+1:Nat):Int):=Zaq (by omega) (by omega)
    have e6:w64 (((5-(s+1):Nat):Int)+1)=((5-s:Nat):Int):=Zaq (by omega) (by omega)
    obtain⟨y,em⟩:=Zm9 (i:=i2) (x:=d[i2-1]!) i3
    have hd2:=hd.swp i1 i3
    simp only[cond_false,e1,decide_eq_false (show ¬((b-a:Nat):Int)<50 by omega),e2,ZbF i1,ZbF i3,Option.bind_some,Int.toNat_natCast,em,ZiL,e3,e4,e5,e6]
    have n2:∀n:Nat,decide ((2:Int)<=(n:Int))=decide (n ≥ 2):=fun n=>decide_eq_decide.2 (by omega)
    rw[n2,n2]
    have go:∀d':Array Int,OKA P d'->d'.size=d.size->∃r,lp (ZX (a:Int) (b:Int) cmp) ((i2:Int),((5-s:Nat):Int),d'.toList)=some r/\(match r with | .inl l=>l=(partialIns (ltC c) a b s i2 d').1.toList/\(partialIns (ltC c) a b s i2 d').2=true | .inr (.inl l)=>l=(partialIns (ltC c) a b s i2 d').1.toList/\(partialIns (ltC c) a b s i2 d').2=false | .inr (.inr l)=>l=(partialIns (ltC c) a b s i2 d').1.toList/\(partialIns (ltC c) a b s i2 d').2=false) /\
      OKA P (partialIns (ltC c) a b s i2 d').1/\(partialIns (ltC c) a b s i2 d').1.size=d.size:=fun d' h h'=>by
     have:=ZEl a b s i2 d' (by omega) (by omega) u3 (by omega) h
     rw[h'] at this
     exact this
    by_cases h3:i2-a ≥ 2
    ·obtain⟨v1,v2,v3⟩:=ZGQ hc (i2-1) (swp d i2 (i2-1)) hd2 (by rw[Z8];exact i3)
     rw[Z8] at v3
     rw[decide_eq_true h3,if_pos h3]
     simp only[cond_true,v1,Option.bind_some]
     by_cases h4:b-i2 ≥ 2
     ·obtain⟨w1,w2,w3⟩:=ZGT hc b (b-(i2+1)) (i2+1) (shiftDown (ltC c) (i2-1) (swp d i2 (i2-1))) (Nat.le_refl _) (by omega) (by omega) v2
      rw[decide_eq_true h4,if_pos h4]
      simp only[cond_true,w1,Option.bind_some]
      exact go _ w2 (by omega)
     ·rw[decide_eq_false h4,if_neg h4]
      exact go _ v2 v3
    ·rw[decide_eq_false h3,if_neg h3]
     simp only[cond_false]
     by_cases h4:b-i2 ≥ 2
     ·obtain⟨w1,w2,w3⟩:=ZGT hc b (b-(i2+1)) (i2+1) (swp d i2 (i2-1)) (Nat.le_refl _) (by omega) (by rw[Z8];omega) hd2
      rw[Z8] at w3
      rw[decide_eq_true h4,if_pos h4]
      simp only[cond_true,w1,Option.bind_some]
      exact go _ w2 w3
     ·rw[decide_eq_false h4,if_neg h4]
      exact go _ hd2 (Z8 _ _ _)
theorem ZG2 (a b:Nat) (d:Array Int) (h1:a<b) (hb:b<=d.size) (hd:OKA P d) :
  ZS (a:Int) (b:Int) cmp d.toList=some (bif (partialInsertionSort (ltC c) d a b).2 then .inl (partialInsertionSort (ltC c) d a b).1.toList else .inr (partialInsertionSort (ltC c) d a b).1.toList)/\OKA P (partialInsertionSort (ltC c) d a b).1/\(partialInsertionSort (ltC c) d a b).1.size=d.size:=by
 have hz:=hd.sz
 obtain⟨r,e,h2,h3⟩:=ZEl hc a b 5 (a+1) d (Nat.le_refl _) (by omega) (by omega) hb hd
 unfold ZS partialInsertionSort
 have e0:((5-5:Nat):Int)=0:=rfl
 rw[e0] at e
 rw[Zaq (n:=a+1) (by omega) (by omega),e]
 refine⟨?_,h3⟩
 rcases r with l | l | l
 ·obtain⟨rfl,h⟩:=h2;rw[h];rfl
 ·obtain⟨rfl,h⟩:=h2;rw[h];rfl
 ·obtain⟨rfl,h⟩:=h2;rw[h];rfl
theorem ZEa (d:Array Int) (hd:OKA P d) (a b n:Nat) (ha:a<d.size) (hb:b<d.size) (hn:n<1000):Za7 (a:Int) (b:Int) cmp d.toList (n:Int)=some (((order2 (ltC c) d a b n).1:Int),((order2 (ltC c) d a b n).2.1:Int),((order2 (ltC c) d a b n).2.2:Int)) /\
  (order2 (ltC c) d a b n).1<d.size/\(order2 (ltC c) d a b n).2.1<d.size/\(order2 (ltC c) d a b n).2.2<=n+1:=by
 unfold Za7 order2
 simp only[ZbF ha,ZbF hb,Option.bind_some,hc _ _ (hd.el b hb) (hd.el a ha)]
 by_cases h:c d[b]! d[a]! < 0
 ·rw[if_pos (by simp[h,ltC]),decide_eq_true h,Zaq (n:=n+1) (by omega) (by omega)]
  exact⟨rfl,hb,ha,Nat.le_refl _⟩
 ·rw[if_neg (by simp[h,ltC]),decide_eq_false h]
  exact⟨rfl,ha,hb,Nat.le_succ _⟩
theorem ZCk (d:Array Int) (hd:OKA P d) (i j k n:Nat) (hi:i<d.size) (hj:j<d.size) (hk:k<d.size) (hn:n<990):Za5 (i:Int) (j:Int) (k:Int) cmp d.toList (n:Int)=some (((median (ltC c) d i j k n).1:Int),((median (ltC c) d i j k n).2:Int))/\(median (ltC c) d i j k n).1<d.size/\(median (ltC c) d i j k n).2<=n+3:=by
 obtain⟨a1,a2,a3,a4⟩:=ZEa hc d hd i j n hi hj (by omega)
 obtain⟨b1,b2,b3,b4⟩:=ZEa hc d hd (order2 (ltC c) d i j n).2.1 k (order2 (ltC c) d i j n).2.2 a3 hk (by omega)
 obtain⟨c1,c2,c3,c4⟩:=ZEa hc d hd (order2 (ltC c) d i j n).1 (order2 (ltC c) d (order2 (ltC c) d i j n).2.1 k (order2 (ltC c) d i j n).2.2).1 (order2 (ltC c) d (order2 (ltC c) d i j n).2.1 k (order2 (ltC c) d i j n).2.2).2.2 a2 b2 (by omega)
 unfold Za5 median
 simp only[a1,b1,c1,Option.bind_some]
 exact⟨trivial,c3,by omega⟩
theorem ZCb (d:Array Int) (hd:OKA P d) (i n:Nat) (h1:1<=i) (hi:i+1<d.size) (hn:n<990):Zaj (i:Int) cmp d.toList (n:Int)=some (((medianAdjacent (ltC c) d i n).1:Int),((medianAdjacent (ltC c) d i n).2:Int))/\(medianAdjacent (ltC c) d i n).1<d.size/\(medianAdjacent (ltC c) d i n).2<=n+3:=by
 have hz:=hd.sz
 obtain⟨a1,a2⟩:=ZCk hc d hd (i-1) i (i+1) n (by omega) (by omega) hi hn
 unfold Zaj medianAdjacent
 rw[Zaq (n:=i-1) (by omega) (by omega),Zaq (n:=i+1) (by omega) (by omega),a1]
 exact⟨rfl,a2⟩
theorem ZG1 (a b:Nat) (d:Array Int) (hab:a<b) (hb:b<=d.size) (hd:OKA P d):ZR (a:Int) (b:Int) cmp d.toList=some (((choosePivot (ltC c) d a b).1:Int),Zt0 (choosePivot (ltC c) d a b).2):=by
 have hz:=hd.sz
 have e1:w64 ((b:Int)-(a:Int))=((b-a:Nat):Int):=Zaq (by omega) (by omega)
 have e2:w64 (Int.tdiv ((b-a:Nat):Int) 4)=(((b-a) / 4:Nat):Int):=by
  rw[Int.tdiv_eq_ediv_of_nonneg (by omega)]
  exact Zaq (by omega) (by omega)
 have q:∀m:Nat,m<=3->w64 ((((b-a) / 4:Nat):Int)*(m:Int))=(((b-a) / 4*m:Nat):Int):=fun m hm=>by
  refine Zaq (by rw[Int.natCast_mul]) ?_
  have:(b-a) / 4*m<=(b-a) / 4*3:=Nat.mul_le_mul_left _ hm
  omega
 have q1:=q 1 (by omega)
 have q2:=q 2 (by omega)
 have q3:=q 3 (by omega)
 have p:∀m:Nat,m<=3->w64 ((a:Int)+(((b-a) / 4*m:Nat):Int))=((a+(b-a) / 4*m:Nat):Int):=fun m hm=>by
  refine Zaq (by omega) ?_
  have:(b-a) / 4*m<=(b-a) / 4*3:=Nat.mul_le_mul_left _ hm
  omega
 have p1:=p 1 (by omega)
 have p2:=p 2 (by omega)
 have p3:=p 3 (by omega)
 unfold ZR choosePivot
 have q1':w64 ((((b-a) / 4:Nat):Int)*1)=_:=q1
 have q2':w64 ((((b-a) / 4:Nat):Int)*2)=_:=q2
 have q3':w64 ((((b-a) / 4:Nat):Int)*3)=_:=q3
 simp only[e1,e2,q1',q2',q3',p1,p2,p3]
 have z:((0:Nat):Int)=0:=rfl
 by_cases h8:b-a ≥ 8
 ·rw[decide_eq_true (show(8:Int)<=((b-a:Nat):Int) by omega),if_pos h8]
  by_cases h50:b-a ≥ 50
  ·obtain⟨m1,m2,m3⟩:=ZCb hc d hd (a+(b-a) / 4*1) 0 (by omega) (by omega) (by omega)
   obtain⟨n1,n2,n3⟩:=ZCb hc d hd (a+(b-a) / 4*2) (medianAdjacent (ltC c) d (a+(b-a) / 4*1) 0).2 (by omega) (by omega) (by omega)
   obtain⟨o1,o2,o3⟩:=ZCb hc d hd (a+(b-a) / 4*3) (medianAdjacent (ltC c) d (a+(b-a) / 4*2) (medianAdjacent (ltC c) d (a+(b-a) / 4*1) 0).2).2 (by omega) (by omega) (by omega)
   obtain⟨r1,r2,r3⟩:=ZCk hc d hd _ _ _ (medianAdjacent (ltC c) d (a+(b-a) / 4*3) (medianAdjacent (ltC c) d (a+(b-a) / 4*2) (medianAdjacent (ltC c) d (a+(b-a) / 4*1) 0).2).2).2 m2 n2 o2 (by omega)
   rw[z] at m1
   rw[decide_eq_true (show(50:Int)<=((b-a:Nat):Int) by omega),if_pos h50]
   simp only[cond_true,m1,n1,o1,r1,Option.bind_some]
   exact ZEM (_,_) _ _ rfl rfl
  ·obtain⟨r1,r2,r3⟩:=ZCk hc d hd (a+(b-a) / 4*1) (a+(b-a) / 4*2) (a+(b-a) / 4*3) 0 (by omega) (by omega) (by omega) (by omega)
   rw[z] at r1
   rw[decide_eq_false (show ¬(50:Int)<=((b-a:Nat):Int) by omega),if_neg h50]
   simp only[cond_true,cond_false,r1,Option.bind_some]
   exact ZEM (_,_) _ _ rfl rfl
 ·rw[decide_eq_false (show ¬(8:Int)<=((b-a:Nat):Int) by omega),if_neg h8]
  rfl
end
theorem ZIo {P:Int->Prop}:∀(k i j:Nat) (d:Array Int),j-i<=k->j<d.size∨j<=i->OKA P d->lp Zag ((i:Int),(j:Int),d.toList)=some (reverseLoop i j d).toList/\OKA P (reverseLoop i j d)/\(reverseLoop i j d).size=d.size:=by
 intro k
 induction k with
 | zero=>
  intro i j d hk hj hd
  rw[Zae]
  unfold reverseLoop
  simp only[Zag,ZhV,decide_eq_false (show ¬i<j by omega),cond_false]
  rw[if_neg (by omega)]
  exact⟨rfl,hd,rfl⟩
 | succ k ih=>
  intro i j d hk hj hd
  have hz:=hd.sz
  rw[Zae]
  unfold reverseLoop
  by_cases h:i<j
  ·have i1:j<d.size:=by omega
   have i2:i<d.size:=by omega
   obtain⟨y,em⟩:=Zm9 (i:=i) (x:=d[j]!) i1
   have e2:w64 ((j:Int)-1)=((j-1:Nat):Int):=Zaq (by omega) (by omega)
   simp only[Zag,ZhV,decide_eq_true h,cond_true,ZbF i1,ZbF i2,Option.bind_some,Int.toNat_natCast,em,ZiL,ZL h (by omega),e2]
   rw[if_pos h]
   have:=ih (i+1) (j-1) (swp d i j) (by omega) (by rw[Z8];omega) (hd.swp i2 i1)
   rw[Z8] at this
   exact this
  ·simp only[Zag,ZhV,decide_eq_false h,cond_false]
   rw[if_neg h]
   exact⟨rfl,hd,rfl⟩
theorem ZEg {P:Int->Prop} (cmp:Int->Int->Option Int) (a b:Nat) (d:Array Int) (hab:a<b) (hb:b<=d.size) (hd:OKA P d):ZP (a:Int) (b:Int) cmp d.toList=some (reverseRange d a b).toList/\OKA P (reverseRange d a b)/\(reverseRange d a b).size=d.size:=by
 have hz:=hd.sz
 obtain⟨h1,h2⟩:=ZIo (b-1-a) a (b-1) d (Nat.le_refl _) (by omega) hd
 unfold ZP reverseRange
 rw[Zaq (n:=b-1) (by omega) (by omega)]
 simp only[h1,Option.bind_some]
 exact⟨trivial,h2⟩
end Go.Proofs.YtgcfmiajkbbmeaaGreatDoor
namespace Go.Proofs.YtgcfmiajkbbmeaaGreatDoor
open Go Go.Proofs.YtgcfmiajkbbmeaaGreatDoorE Go.Sort
open Go.IntKind (u64 i64 u32 i32 u8)
theorem ZxK (n:Int):u64.wrap n=n % 18446744073709551616:=by
 show(if (false&&decide (n % 18446744073709551616 ≥ 9223372036854775808))=true then n % 18446744073709551616-18446744073709551616 else n % 18446744073709551616)=_
 simp
theorem Zjf {n:Nat} (h:n<18446744073709551616):u64.wrap (n:Int)=(n:Int):=by rw[ZxK];omega
def Zv8 (a b:Int):Int:=u64.wrap (Zo a ^^^ Zo b).toNat
def ZCc (a b:Int):Int:=u64.wrap (Zo a &&& Zo b).toNat
def xs (r:Int):Int:=Zv8 (Zv8 (Zv8 r (u64.wrap (r*2 ^ 13))) (Int.fdiv (Zv8 r (u64.wrap (r*2 ^ 13))) (2 ^ 7))) (u64.wrap (Zv8 (Zv8 r (u64.wrap (r*2 ^ 13))) (Int.fdiv (Zv8 r (u64.wrap (r*2 ^ 13))) (2 ^ 7))*2 ^ 17))
theorem ZvJ (u:UInt64):Zo (u.toNat:Int)=u.toBitVec:=by
 show BitVec.ofInt 64 (u.toNat:Int)=u.toBitVec
 rw[BitVec.ofInt_natCast]
 apply BitVec.eq_of_toNat_eq
 rw[BitVec.toNat_ofNat]
 exact Nat.mod_eq_of_lt u.toNat_lt
theorem ZDV (u v:UInt64):Zv8 (u.toNat:Int) (v.toNat:Int)=((u ^^^ v).toNat:Int):=by
 unfold Zv8
 rw[ZvJ,ZvJ]
 exact Zjf (u ^^^ v).toNat_lt
theorem ZGN (u:UInt64) (k:Nat) (v:UInt64) (hk:v.toNat % 64=k):u64.wrap ((u.toNat:Int)*2 ^ k)=((u <<< v).toNat:Int):=by
 rw[ZxK,UInt64.toNat_shiftLeft,hk,Nat.shiftLeft_eq]
 have:((2:Int) ^ k)=((2 ^ k:Nat):Int):=by rw[Int.natCast_pow];rfl
 rw[this]
 omega
theorem ZJb (u:UInt64) (k:Nat) (v:UInt64) (hk:v.toNat % 64=k):Int.fdiv (u.toNat:Int) (2 ^ k)=((u >>> v).toNat:Int):=by
 have e:((2:Int) ^ k)=((2 ^ k:Nat):Int):=by rw[Int.natCast_pow];rfl
 rw[UInt64.toNat_shiftRight,hk,Nat.shiftRight_eq_div_pow,e,Int.fdiv_eq_ediv_of_nonneg _ (Int.natCast_nonneg _)]
 exact(Int.natCast_ediv _ _).symm
theorem ZJl (u:UInt64):xs (u.toNat:Int)=((xorNext u).toNat:Int):=by
 unfold xs xorNext
 rw[ZGN u 13 13 rfl,ZDV,ZJb _ 7 7 rfl,ZDV,ZGN _ 17 17 rfl,ZDV]
theorem ZGf (u:UInt64) (m:Nat) (hm:m<18446744073709551616):ZCc (u.toNat:Int) (m:Int)=((u.toNat &&& m:Nat):Int):=by
 unfold ZCc
 rw[ZvJ]
 have:Zo (m:Int)=BitVec.ofNat 64 m:=BitVec.ofInt_natCast _ _
 rw[this]
 show u64.wrap ((((u.toBitVec &&& BitVec.ofNat 64 m:BitVec 64)).toNat:Nat):Int)=_
 rw[BitVec.toNat_and,BitVec.toNat_ofNat,Nat.mod_eq_of_lt hm]
 refine Zjf (Nat.lt_of_le_of_lt Nat.and_le_left u.toNat_lt)
theorem ZBK:((List.range 1001).all fun n=>(match Zgq (u64.wrap (n:Int)) with | some v=>v==(bitsLen n:Int) | none=>false)&&((match Zc9 (n:Int) with | some v=>v==((1 <<< bitsLen n:Nat):Int) | none=>false)&&(decide (1 <<< bitsLen n<=2*n) || n==0)))=true:=by kernel_rfl
theorem ZDH {n:Nat} (h:n<=1000):Zgq (u64.wrap (n:Int))=some (bitsLen n:Int)/\Zc9 (n:Int)=some ((1 <<< bitsLen n:Nat):Int)/\(0<n->1 <<< bitsLen n<=2*n):=by
 have:=List.all_eq_true.1 ZBK n (by simp;omega)
 simp only[Bool.and_eq_true,Bool.or_eq_true,decide_eq_true_eq,beq_iff_eq] at this
 obtain⟨h1,h2,h3⟩:=this
 refine⟨?_,?_,fun h=>by omega⟩
 ·split at h1
  ·rename_i v hv;rw[hv,eq_of_beq h1]
  ·cases h1
 ·split at h2
  ·rename_i v hv;rw[hv,eq_of_beq h2]
  ·cases h2
def Zsa (s:Int×List Int×Int) (o:Int):Option ((Int×List Int×Int)⊕List Int):=
 (Zy s.2.1 o).bind fun x3=>(Zy s.2.1 s.1).bind fun x4=>(Zy (List.set s.2.1 s.1.toNat x3) o).bind fun _=>some (Sum.inl (w64 (s.1+1),List.set (List.set s.2.1 s.1.toNat x3) o.toNat x4,xs s.2.2))
theorem ZG4 (b c x0:Int) (s:Int×List Int×Int):Za4 b c x0 s=(bif (decide (s.1<=(w64 ((w64 (b+(w64 ((w64 (Int.tdiv (w64 (c-b)) 4))*2))))+1)))) then
  Zga.bind fun _=>bif decide (w64 (c-b)<=w64 (ZCc (xs s.2.2) (u64.wrap (x0-1)))) then Zsa s (w64 (b+w64 (w64 (ZCc (xs s.2.2) (u64.wrap (x0-1)))-w64 (c-b)))) else Zsa s (w64 (b+w64 (ZCc (xs s.2.2) (u64.wrap (x0-1)))))
 else some (.inr s.2.1)):=rfl
theorem ZxI {P:Int->Prop} (d:Array Int) (hd:OKA P d) (i o:Nat) (u:UInt64) (hi:i<d.size) (ho:o<d.size):Zsa ((i:Int),d.toList,(u.toNat:Int)) (o:Int)=some (.inl (((i+1:Nat):Int),(swp d i o).toList,((xorNext u).toNat:Int))):=by
 have hz:=hd.sz
 obtain⟨y,em⟩:=Zm9 (i:=i) (x:=d[o]!) ho
 unfold Zsa
 simp only[ZbF ho,ZbF hi,Option.bind_some,Int.toNat_natCast,em,ZiL,ZJl,ZL hi (by omega)]
theorem ZvZ {P:Int->Prop} (a b:Nat) (d:Array Int) (hd:OKA P d) (h8:8<=b-a) (hb:b<=d.size) (i:Nat) (hi:i<=a+(b-a) / 4*2+1) (u:UInt64) :
  Za4 (a:Int) (b:Int) ((1 <<< bitsLen (b-a):Nat):Int) ((i:Int),d.toList,(u.toNat:Int))=some (.inl (((i+1:Nat):Int),(breakStep a (b-a) (1 <<< bitsLen (b-a)) (u,d) i).2.toList,((breakStep a (b-a) (1 <<< bitsLen (b-a)) (u,d) i).1.toNat:Int))) /\
  OKA P (breakStep a (b-a) (1 <<< bitsLen (b-a)) (u,d) i).2/\(breakStep a (b-a) (1 <<< bitsLen (b-a)) (u,d) i).2.size=d.size:=by
 have hz:=hd.sz
 obtain⟨_,_,l3⟩:=ZDH (show b-a<=1000 by omega)
 have l4:=l3 (by omega)
 have l5:0<1 <<< bitsLen (b-a):=by rw[Nat.shiftLeft_eq,Nat.one_mul];exact Nat.pow_pos (by omega)
 generalize hm:1 <<< bitsLen (b-a)=m at *
 have e1:w64 ((b:Int)-(a:Int))=((b-a:Nat):Int):=Zaq (by omega) (by omega)
 have e2:w64 (Int.tdiv ((b-a:Nat):Int) 4)=(((b-a) / 4:Nat):Int):=by
  rw[Int.tdiv_eq_ediv_of_nonneg (by omega)]
  exact Zaq (by omega) (by omega)
 have e3:w64 ((((b-a) / 4:Nat):Int)*2)=(((b-a) / 4*2:Nat):Int):=Zaq (by omega) (by omega)
 have e4:w64 ((a:Int)+(((b-a) / 4*2:Nat):Int))=((a+(b-a) / 4*2:Nat):Int):=Zaq (by omega) (by omega)
 have e5:w64 (((a+(b-a) / 4*2:Nat):Int)+1)=((a+(b-a) / 4*2+1:Nat):Int):=Zaq (by omega) (by omega)
 have e6:u64.wrap ((m:Int)-1)=((m-1:Nat):Int):=by
  rw[show(m:Int)-1=((m-1:Nat):Int) by omega];exact Zjf (by omega)
 have hand:(xorNext u).toNat &&& (m-1)<=m-1:=Nat.and_le_right
 have e7:w64 (((xorNext u).toNat &&& (m-1):Nat):Int)=(((xorNext u).toNat &&& (m-1):Nat):Int):=Zaq rfl (by omega)
 have ii:i<d.size:=by omega
 rw[ZG4]
 unfold breakStep
 simp only[e1,e2,e3,e4,e5,ZiU,decide_eq_true hi,cond_true,ZJl,e6,ZGf _ (m-1) (by omega),e7]
 generalize (xorNext u).toNat &&& (m-1)=o at *
 show(bif decide (b-a<=o) then _ else _)=_/\_
 by_cases ho:b-a<=o
 ·have e8:w64 ((o:Int)-((b-a:Nat):Int))=((o-(b-a):Nat):Int):=Zaq (by omega) (by omega)
  have e9:w64 ((a:Int)+((o-(b-a):Nat):Int))=((a+(o-(b-a)):Nat):Int):=Zaq (by omega) (by omega)
  rw[decide_eq_true ho,if_pos ho]
  simp only[cond_true,e8,e9]
  exact⟨ZxI d hd i _ u ii (by omega),hd.swp ii (by omega),Z8 _ _ _⟩
 ·have e9:w64 ((a:Int)+(o:Int))=((a+o:Nat):Int):=Zaq (by omega) (by omega)
  rw[decide_eq_false ho,if_neg ho]
  simp only[cond_false,e9]
  exact⟨ZxI d hd i _ u ii (by omega),hd.swp ii (by omega),Z8 _ _ _⟩
theorem ZKT {P:Int->Prop} (cmp:Int->Int->Option Int) (a b:Nat) (d:Array Int) (hab:a<=b) (hb:b<=d.size) (hd:OKA P d):Zap (a:Int) (b:Int) cmp d.toList=some (breakPatterns d a b).toList/\OKA P (breakPatterns d a b)/\(breakPatterns d a b).size=d.size:=by
 have hz:=hd.sz
 have e1:w64 ((b:Int)-(a:Int))=((b-a:Nat):Int):=Zaq (by omega) (by omega)
 unfold Zap breakPatterns
 simp only[e1]
 by_cases h8:8<=b-a
 ·obtain⟨_,l2,_⟩:=ZDH (show b-a<=1000 by omega)
  have e2:w64 (Int.tdiv ((b-a:Nat):Int) 4)=(((b-a) / 4:Nat):Int):=by
   rw[Int.tdiv_eq_ediv_of_nonneg (by omega)]
   exact Zaq (by omega) (by omega)
  have e3:w64 ((((b-a) / 4:Nat):Int)*2)=(((b-a) / 4*2:Nat):Int):=Zaq (by omega) (by omega)
  have e4:w64 ((a:Int)+(((b-a) / 4*2:Nat):Int))=((a+(b-a) / 4*2:Nat):Int):=Zaq (by omega) (by omega)
  have e5:w64 (((a+(b-a) / 4*2:Nat):Int)-1)=((a+(b-a) / 4*2-1:Nat):Int):=Zaq (by omega) (by omega)
  have e6:u64.wrap ((b-a:Nat):Int)=((UInt64.ofNat (b-a)).toNat:Int):=by
   rw[Zjf (by omega),UInt64.toNat_ofNat_of_lt' (by show b-a<2 ^ 64;omega)]
  rw[decide_eq_true (show(8:Int)<=((b-a:Nat):Int) by omega),if_pos h8]
  simp only[cond_true,l2,Option.bind_some,e2,e3,e4,e5,e6]
  generalize hi0:a+(b-a) / 4*2-1=i0
  obtain⟨p1,p2,p3⟩:=ZvZ a b d hd h8 hb i0 (by omega) (UInt64.ofNat (b-a))
  generalize breakStep a (b-a) (1 <<< bitsLen (b-a)) (UInt64.ofNat (b-a),d) i0=r1 at *
  obtain⟨q1,q2,q3⟩:=ZvZ a b r1.2 p2 h8 (by omega) (i0+1) (by omega) r1.1
  generalize breakStep a (b-a) (1 <<< bitsLen (b-a)) (r1.1,r1.2) (i0+1)=r2 at *
  obtain⟨s1,s2,s3⟩:=ZvZ a b r2.2 q2 h8 (by omega) (i0+2) (by omega) r2.1
  generalize breakStep a (b-a) (1 <<< bitsLen (b-a)) (r2.1,r2.2) (i0+2)=r3 at *
  rw[ZsV p1,ZsV q1,ZsV s1,ZGm (r:=r3.2.toList)]
  ·exact⟨rfl,s2,by omega⟩
  ·rw[ZG4]
   have e7:w64 (((a+(b-a) / 4*2:Nat):Int)+1)=((a+(b-a) / 4*2+1:Nat):Int):=Zaq (by omega) (by omega)
   simp only[e1,e2,e3,e4,e7,ZiU,decide_eq_false (show ¬i0+2+1<=a+(b-a) / 4*2+1 by omega),cond_false]
 ·rw[decide_eq_false (show ¬(8:Int)<=((b-a:Nat):Int) by omega),if_neg h8]
  exact⟨rfl,hd,rfl⟩
abbrev ZFT:=Int×Int×Int×Bool×Bool×List Int
noncomputable def Zzy (e:Int->Int->Option Int) (rc:Int->Int->Int->(Int->Int->Option Int)->List Int->Option (List Int)) (a b limit pivot:Int) (x5:List Int):Option (ZFT⊕List Int):=
 (Zs a b pivot e x5).bind fun x9=>
 match x9 with
 | .inl x9=>
  bif decide (w64 (x9.1-a)<w64 (b-x9.1)) then
   bif decide (w64 (Int.tdiv (w64 (b-a)) 8)<=w64 (x9.1-a)) then (rc a x9.1 limit e x9.2).bind fun x10=>some (.inl (w64 (x9.1+1),b,limit,true,true,x10))
   else (rc a x9.1 limit e x9.2).bind fun x10=>some (.inl (w64 (x9.1+1),b,limit,false,true,x10))
  else
   bif decide (w64 (Int.tdiv (w64 (b-a)) 8)<=w64 (b-x9.1)) then (rc (w64 (x9.1+1)) b limit e x9.2).bind fun x10=>some (.inl (a,x9.1,limit,true,true,x10))
   else (rc (w64 (x9.1+1)) b limit e x9.2).bind fun x10=>some (.inl (a,x9.1,limit,false,true,x10))
 | .inr x9=>
  bif decide (w64 (x9.1-a)<w64 (b-x9.1)) then
   bif decide (w64 (Int.tdiv (w64 (b-a)) 8)<=w64 (x9.1-a)) then (rc a x9.1 limit e x9.2).bind fun x10=>some (.inl (w64 (x9.1+1),b,limit,true,false,x10))
   else (rc a x9.1 limit e x9.2).bind fun x10=>some (.inl (w64 (x9.1+1),b,limit,false,false,x10))
  else
   bif decide (w64 (Int.tdiv (w64 (b-a)) 8)<=w64 (b-x9.1)) then (rc (w64 (x9.1+1)) b limit e x9.2).bind fun x10=>some (.inl (a,x9.1,limit,true,false,x10))
   else (rc (w64 (x9.1+1)) b limit e x9.2).bind fun x10=>some (.inl (a,x9.1,limit,false,false,x10))
noncomputable def Zqe (e:Int->Int->Option Int) (rc:Int->Int->Int->(Int->Int->Option Int)->List Int->Option (List Int)) (a b limit pivot:Int) (wb wp:Bool) (x5:List Int):Option (ZFT⊕List Int):=
 bif decide (0<a) then
  (Zy x5 (w64 (a-1))).bind fun x6=>(Zy x5 pivot).bind fun x7=>(e x6 x7).bind fun x8=>
  bif decide (x8<0) then Zzy e rc a b limit pivot x5
  else (ZD a b pivot e x5).bind fun x18=>some (.inl (x18.1,b,limit,wb,wp,x18.2))
 else Zzy e rc a b limit pivot x5
theorem ZuK (e:Int->Int->Option Int) (rc:Int->Int->Int->(Int->Int->Option Int)->List Int->Option (List Int)) (a b limit:Int) (wb wp:Bool) (l:List Int):ZH e rc (a,b,limit,wb,wp,l) =
  (bif decide (w64 (b-a)<=12) then (Z0 a b e l).bind fun x=>some (.inr x)
  else bif limit==0 then (Zaf a b e l).bind fun x=>some (.inr x)
  else (bif wb then bif wp then
    (ZR a b e l).bind fun x3=>
    bif x3.2==2 then (ZP a b e l).bind fun x4=>(ZS a b e x4).bind fun x5=>(match x5 with | .inl x5=>some (.inr x5) | .inr x5=>Zqe e rc a b limit (w64 (w64 (b-1)-w64 (x3.1-a))) true true x5)
    else bif x3.2==1 then (ZS a b e l).bind fun x5=>(match x5 with | .inl x5=>some (.inr x5) | .inr x5=>Zqe e rc a b limit x3.1 true true x5)
    else Zqe e rc a b limit x3.1 true true l
   else
    (ZR a b e l).bind fun x3=>
    bif x3.2==2 then (ZP a b e l).bind fun x4=>Zqe e rc a b limit (w64 (w64 (b-1)-w64 (x3.1-a))) true false x4
    else Zqe e rc a b limit x3.1 true false l
  else
   (Zap a b e l).bind fun x0=>(ZR a b e x0).bind fun x3=>
    bif x3.2==2 then (ZP a b e x0).bind fun x4=>Zqe e rc a b (w64 (limit-1)) (w64 (w64 (b-1)-w64 (x3.1-a))) false wp x4
    else Zqe e rc a b (w64 (limit-1)) x3.1 false wp x0)):=by
 cases wb<;>cases wp<;>rfl
noncomputable def after (e:Int->Int->Option Int) (rc:Int->Int->Int->(Int->Int->Option Int)->List Int->Option (List Int)) (x:Option (ZFT⊕List Int)):Option (List Int):=
 match x with | some (.inl s')=>lp (ZH e rc) s' | some (.inr r)=>some r | none=>none
theorem ZB3 (e:Int->Int->Option Int) (rc:Int->Int->Int->(Int->Int->Option Int)->List Int->Option (List Int)) (s:ZFT):lp (ZH e rc) s=after e rc (ZH e rc s):=by
 rw[Zae]
 unfold after
 cases ZH e rc s with
 | none=>rfl
 | some t=>cases t<;>rfl
def Res (P:Int->Prop) (r:Option (List Int)) (X:Array Int) (n:Nat):Prop:=r=some X.toList/\OKA P X/\X.size=n
section
variable {cmp:Int->Int->Option Int} {c:Int->Int->Int} {P:Int->Prop} (hc:ZwT cmp c P) (hs:SWO (ltC c))
include hc hs
def Zsb (cmp:Int->Int->Option Int) (c:Int->Int->Int) (P:Int->Prop) (rc:Int->Int->Int->(Int->Int->Option Int)->List Int->Option (List Int)) (k:Nat):Prop:=
 ∀(a b limit:Nat) (wb wp:Bool) (d:Array Int),b-a<=k->a<=b->b<=d.size->OKA P d->limit<=1000 ->
  Res P (rc (a:Int) (b:Int) (limit:Int) cmp d.toList) (pdq (ltC c) d a b limit true true) d.size /\
  Res P (lp (ZH cmp rc) ((a:Int),(b:Int),(limit:Int),wb,wp,d.toList)) (pdq (ltC c) d a b limit wb wp) d.size
theorem ZyV {rc:Int->Int->Int->(Int->Int->Option Int)->List Int->Option (List Int)}{k:Nat} (ih:Zsb cmp c P rc k) (a b limit pivot:Nat) (d:Array Int) (hk:b-a<=k+1) (h1:a<=pivot) (h2:pivot<b) (hb:b<=d.size) (hd:OKA P d) (hl:limit<=1000) :
  Res P (after cmp rc (Zzy cmp rc (a:Int) (b:Int) (limit:Int) (pivot:Int) d.toList)) (match partition (ltC c) d a b pivot with
   | (mid,alreadyPartitioned,d4)=>
    if _h:a<=mid/\mid<b then
     if mid-a<b-mid then pdq (ltC c) (pdq (ltC c) d4 a mid limit true true) (mid+1) b limit (decide (mid-a ≥ (b-a) / 8)) alreadyPartitioned
     else pdq (ltC c) (pdq (ltC c) d4 (mid+1) b limit true true) a mid limit (decide (b-mid ≥ (b-a) / 8)) alreadyPartitioned
    else d4) d.size:=by
 have hz:=hd.sz
 obtain⟨p1,p2,p3⟩:=ZF9 hc a b pivot d h1 h2 hb hd
 obtain⟨r1,r2,_⟩:=partition_holds (ltC c) hs d a b pivot h1 h2 hb
 unfold Zzy
 rw[p1]
 generalize partition (ltC c) d a b pivot=q at *
 obtain⟨mid,ap,d4⟩:=q
 dsimp only at *
 rw[dif_pos ⟨r1,r2⟩]
 have e1:w64 ((mid:Int)-(a:Int))=((mid-a:Nat):Int):=Zaq (by omega) (by omega)
 have e2:w64 ((b:Int)-(mid:Int))=((b-mid:Nat):Int):=Zaq (by omega) (by omega)
 have e3:w64 ((b:Int)-(a:Int))=((b-a:Nat):Int):=Zaq (by omega) (by omega)
 have e4:w64 (Int.tdiv ((b-a:Nat):Int) 8)=(((b-a) / 8:Nat):Int):=by
  rw[Int.tdiv_eq_ediv_of_nonneg (by omega)]
  exact Zaq (by omega) (by omega)
 have e5:w64 ((mid:Int)+1)=((mid+1:Nat):Int):=Zaq (by omega) (by omega)
 by_cases hlt:mid-a<b-mid
 ·obtain⟨⟨u1,u2,u3⟩,_⟩:=ih a mid limit true true d4 (by omega) r1 (by omega) p2 hl
  rw[if_pos hlt]
  by_cases ht:mid-a ≥ (b-a) / 8
  ·obtain⟨_,v1,v2,v3⟩:=ih (mid+1) b limit true ap (pdq (ltC c) d4 a mid limit true true) (by omega) (by omega) (by omega) u2 hl
   rw[decide_eq_true ht]
   refine⟨?_,v2,by omega⟩
   cases ap<;>simp only[cond_true,cond_false,Option.bind_some,e1,e2,e3,e4,e5,ZhV,ZiU,decide_eq_true hlt,decide_eq_true (show(b-a) / 8<=mid-a from ht),u1,after]<;>exact v1
  ·obtain⟨_,v1,v2,v3⟩:=ih (mid+1) b limit false ap (pdq (ltC c) d4 a mid limit true true) (by omega) (by omega) (by omega) u2 hl
   rw[decide_eq_false ht]
   refine⟨?_,v2,by omega⟩
   cases ap<;>simp only[cond_true,cond_false,Option.bind_some,e1,e2,e3,e4,e5,ZhV,ZiU,decide_eq_true hlt,decide_eq_false (show ¬(b-a) / 8<=mid-a from ht),u1,after]<;>exact v1
 ·obtain⟨⟨u1,u2,u3⟩,_⟩:=ih (mid+1) b limit true true d4 (by omega) (by omega) (by omega) p2 hl
  rw[if_neg hlt]
  by_cases ht:b-mid ≥ (b-a) / 8
  ·obtain⟨_,v1,v2,v3⟩:=ih a mid limit true ap (pdq (ltC c) d4 (mid+1) b limit true true) (by omega) r1 (by omega) u2 hl
   rw[decide_eq_true ht]
   refine⟨?_,v2,by omega⟩
   cases ap<;>simp only[cond_true,cond_false,Option.bind_some,e1,e2,e3,e4,e5,ZhV,ZiU,decide_eq_false hlt,decide_eq_true (show(b-a) / 8<=b-mid from ht),u1,after]<;>exact v1
  ·obtain⟨_,v1,v2,v3⟩:=ih a mid limit false ap (pdq (ltC c) d4 (mid+1) b limit true true) (by omega) r1 (by omega) u2 hl
   rw[decide_eq_false ht]
   refine⟨?_,v2,by omega⟩
   cases ap<;>simp only[cond_true,cond_false,Option.bind_some,e1,e2,e3,e4,e5,ZhV,ZiU,decide_eq_false hlt,decide_eq_false (show ¬(b-a) / 8<=b-mid from ht),u1,after]<;>exact v1
theorem Zgj {rc:Int->Int->Int->(Int->Int->Option Int)->List Int->Option (List Int)}{k:Nat} (ih:Zsb cmp c P rc k) (a b limit pivot:Nat) (wb wp:Bool) (d:Array Int) (hk:b-a<=k+1) (h1:a<=pivot) (h2:pivot<b) (hb:b<=d.size) (hd:OKA P d) (hl:limit<=1000) :
  Res P (after cmp rc (Zqe cmp rc (a:Int) (b:Int) (limit:Int) (pivot:Int) wb wp d.toList)) (if (decide (a > 0) && !ltC c d[a-1]! d[pivot]!)=true then
    match partitionEqual (ltC c) d a b pivot with
    | (mid,d4)=>if _h:a<mid/\mid<=b then pdq (ltC c) d4 mid b limit wb wp else d4
   else
    match partition (ltC c) d a b pivot with
    | (mid,alreadyPartitioned,d4)=>
     if _h:a<=mid/\mid<b then
      if mid-a<b-mid then pdq (ltC c) (pdq (ltC c) d4 a mid limit true true) (mid+1) b limit (decide (mid-a ≥ (b-a) / 8)) alreadyPartitioned
      else pdq (ltC c) (pdq (ltC c) d4 (mid+1) b limit true true) a mid limit (decide (b-mid ≥ (b-a) / 8)) alreadyPartitioned
     else d4) d.size:=by
 have hz:=hd.sz
 have pa:=ZyV hc hs ih a b limit pivot d hk h1 h2 hb hd hl
 have ip:pivot<d.size:=by omega
 unfold Zqe
 by_cases ha:0<a
 ·have ia:a-1<d.size:=by omega
  have e1:w64 ((a:Int)-1)=((a-1:Nat):Int):=Zaq (by omega) (by omega)
  have e3:=hc _ _ (hd.el _ ia) (hd.el _ ip)
  simp only[decide_eq_true (show(0:Int)<(a:Int) by omega),cond_true,e1,ZbF ia,ZbF ip,Option.bind_some,e3]
  by_cases h:c d[a-1]! d[pivot]! < 0
  ·rw[decide_eq_true h,if_neg (by simp[ltC,h])]
   exact pa
  ·rw[decide_eq_false h,if_pos (by simp[ltC,h,ha])]
   obtain⟨q1,q2,q3,q4,q5⟩:=ZER hc a b pivot d h1 h2 hb hd
   generalize partitionEqual (ltC c) d a b pivot=q at *
   obtain⟨mid,d4⟩:=q
   dsimp only at *
   rw[dif_pos ⟨q4,q5⟩]
   obtain⟨_,v1,v2,v3⟩:=ih mid b limit wb wp d4 (by omega) q5 (by omega) q2 hl
   simp only[cond_false,q1,Option.bind_some,after]
   exact⟨v1,v2,by omega⟩
 ·rw[if_neg (by simp[ha])]
  simp only[decide_eq_false (show ¬(0:Int)<(a:Int) by omega),cond_false]
  exact pa
theorem Zvc {rc:Int->Int->Int->(Int->Int->Option Int)->List Int->Option (List Int)}{k:Nat} (ih:Zsb cmp c P rc k) (a b limit:Nat) (wb wp:Bool) (d:Array Int) (hk:b-a<=k+1) (hab:a<=b) (hb:b<=d.size) (hd:OKA P d) (hl:limit<=1000) :
  Res P (lp (ZH cmp rc) ((a:Int),(b:Int),(limit:Int),wb,wp,d.toList)) (pdq (ltC c) d a b limit wb wp) d.size:=by
 have hz:=hd.sz
 have e1:w64 ((b:Int)-(a:Int))=((b-a:Nat):Int):=Zaq (by omega) (by omega)
 rw[ZB3,ZuK,pdq,e1]
 by_cases h12:b-a<=12
 ·obtain⟨q1,q2,q3⟩:=ZGX hc a b d hb hab hd
  rw[decide_eq_true (show((b-a:Nat):Int)<=12 by omega),if_pos h12]
  simp only[cond_true,q1,Option.bind_some,after]
  exact⟨rfl,q2,q3⟩
 rw[decide_eq_false (show ¬((b-a:Nat):Int)<=12 by omega),if_neg h12]
 by_cases h0:limit=0
 ·obtain⟨q1,q2,q3⟩:=ZHJ hc a b d hab hb hd
  rw[show((limit:Int)==0)=true by simp[h0],if_pos h0]
  simp only[cond_false,cond_true,q1,Option.bind_some,after]
  exact⟨rfl,q2,q3⟩
 rw[show((limit:Int)==0)=false by simpa using (show ¬(limit:Int)=0 by omega),if_neg h0]
 have hl2:∀x:Nat,(Zt0 Hint.unknown==2)=false/\(Zt0 Hint.unknown==1)=false/\(Zt0 Hint.increasing==2)=false/\(Zt0 Hint.increasing==1)=true/\(Zt0 Hint.decreasing==2)=true:=fun _=>⟨rfl,rfl,rfl,rfl,rfl⟩
 obtain⟨g1,g2,g3,g4,g5⟩:=hl2 0
 have rp:∀p:Nat,a<=p->p<b->w64 (w64 ((b:Int)-1)-w64 ((p:Int)-(a:Int)))=(((b-1)-(p-a):Nat):Int):=fun p h1 h2=>by
  have x1:w64 ((b:Int)-1)=((b-1:Nat):Int):=Zaq (by omega) (by omega)
  have x2:w64 ((p:Int)-(a:Int))=((p-a:Nat):Int):=Zaq (by omega) (by omega)
  rw[x1,x2]
  exact Zaq (by omega) (by omega)
 cases wb with
 | true=>
  have pv:=ZG1 hc a b d (by omega) hb hd
  have pr:=choosePivot_holds (ltC c) d a b (by omega)
  simp only[cond_false,cond_true,Bool.not_true,Bool.false_eq_true,if_false,Bool.true_and]
  generalize choosePivot (ltC c) d a b=cp at *
  obtain⟨p,h⟩:=cp
  dsimp only at *
  cases wp with
  | true=>
   simp only[cond_true,pv,Option.bind_some]
   cases h with
   | decreasing=>
    obtain⟨v1,v2,v3⟩:=ZEg (P:=P) cmp a b d (by omega) hb hd
    obtain⟨w1,w2,w3⟩:=ZG2 hc a b (reverseRange d a b) (by omega) (by omega) v2
    simp only[g5,cond_true,v1,Option.bind_some,w1,if_true,decide_true,Bool.and_self]
    generalize partialInsertionSort (ltC c) (reverseRange d a b) a b=pi at *
    obtain⟨d3,fin⟩:=pi
    dsimp only at *
    cases fin with
    | true=>exact⟨rfl,w2,w3.trans v3⟩
    | false=>
     rw[rp p pr.1 pr.2]
     have:=Zgj hc hs ih a b limit ((b-1)-(p-a)) true true d3 hk (by omega) (by omega) (by omega) w2 hl
     rw[show d3.size=d.size by omega] at this
     exact this
   | increasing=>
    obtain⟨w1,w2,w3⟩:=ZG2 hc a b d (by omega) hb hd
    simp only[g3,g4,cond_true,cond_false,w1,Option.bind_some,reduceCtorEq,if_false,if_true,decide_true,Bool.and_self]
    generalize partialInsertionSort (ltC c) d a b=pi at *
    obtain⟨d3,fin⟩:=pi
    dsimp only at *
    cases fin with
    | true=>exact⟨rfl,w2,w3⟩
    | false=>
     have:=Zgj hc hs ih a b limit p true true d3 hk pr.1 pr.2 (by omega) w2 hl
     rw[show d3.size=d.size by omega] at this
     exact this
   | unknown=>
    simp only[g1,g2,cond_false,reduceCtorEq,if_false,decide_false,Bool.and_false,Bool.false_eq_true]
    exact Zgj hc hs ih a b limit p true true d hk pr.1 pr.2 hb hd hl
  | false=>
   simp only[cond_false,pv,Option.bind_some,Bool.false_and,Bool.false_eq_true,if_false]
   cases h with
   | decreasing=>
    obtain⟨v1,v2,v3⟩:=ZEg (P:=P) cmp a b d (by omega) hb hd
    simp only[g5,cond_true,v1,Option.bind_some,if_true]
    rw[rp p pr.1 pr.2]
    have:=Zgj hc hs ih a b limit ((b-1)-(p-a)) true false (reverseRange d a b) hk (by omega) (by omega) (by omega) v2 hl
    rw[v3] at this
    exact this
   | increasing=>
    simp only[g3,cond_false,reduceCtorEq,if_false]
    exact Zgj hc hs ih a b limit p true false d hk pr.1 pr.2 hb hd hl
   | unknown=>
    simp only[g1,cond_false,reduceCtorEq,if_false]
    exact Zgj hc hs ih a b limit p true false d hk pr.1 pr.2 hb hd hl
 | false=>
  obtain⟨b1,b2,b3⟩:=ZKT (P:=P) cmp a b d hab hb hd
  have pv:=ZG1 hc a b (breakPatterns d a b) (by omega) (by omega) b2
  have pr:=choosePivot_holds (ltC c) (breakPatterns d a b) a b (by omega)
  have el:w64 ((limit:Int)-1)=((limit-1:Nat):Int):=Zaq (by omega) (by omega)
  simp only[cond_false,b1,Option.bind_some,pv,Bool.not_false,if_true,Bool.false_and,Bool.false_eq_true,if_false,el]
  generalize choosePivot (ltC c) (breakPatterns d a b) a b=cp at *
  obtain⟨p,h⟩:=cp
  dsimp only at *
  cases h with
  | decreasing=>
   obtain⟨v1,v2,v3⟩:=ZEg (P:=P) cmp a b (breakPatterns d a b) (by omega) (by omega) b2
   simp only[g5,cond_true,v1,Option.bind_some,if_true]
   rw[rp p pr.1 pr.2]
   have:=Zgj hc hs ih a b (limit-1) ((b-1)-(p-a)) false wp (reverseRange (breakPatterns d a b) a b) hk (by omega) (by omega) (by omega) v2 (by omega)
   rw[v3,b3] at this
   exact this
  | increasing=>
   simp only[g3,cond_false,reduceCtorEq,if_false]
   have:=Zgj hc hs ih a b (limit-1) p false wp (breakPatterns d a b) hk pr.1 pr.2 (by omega) b2 (by omega)
   rw[b3] at this
   exact this
  | unknown=>
   simp only[g1,cond_false,reduceCtorEq,if_false]
   have:=Zgj hc hs ih a b (limit-1) p false wp (breakPatterns d a b) hk pr.1 pr.2 (by omega) b2 (by omega)
   rw[b3] at this
   exact this
theorem ZGu:∀(k m:Nat),k<=m->Zsb cmp c P (ZV (m+1)) k:=by
 intro k
 induction k with
 | zero=>
  intro m hm
  have base:∀(rc:Int->Int->Int->(Int->Int->Option Int)->List Int->Option (List Int)) (a b limit:Nat) (wb wp:Bool) (d:Array Int),b-a<=0->a<=b->b<=d.size->OKA P d->Res P (lp (ZH cmp rc) ((a:Int),(b:Int),(limit:Int),wb,wp,d.toList)) (pdq (ltC c) d a b limit wb wp) d.size:=by
   intro rc a b limit wb wp d hk hab hb hd
   have hz:=hd.sz
   have e1:w64 ((b:Int)-(a:Int))=((b-a:Nat):Int):=Zaq (by omega) (by omega)
   obtain⟨q1,q2,q3⟩:=ZGX hc a b d hb hab hd
   rw[Zae,ZuK,pdq,e1,decide_eq_true (show((b-a:Nat):Int)<=12 by omega),if_pos (by omega)]
   simp only[cond_true,q1,Option.bind_some]
   exact⟨rfl,q2,q3⟩
  intro a b limit wb wp d hk hab hb hd hl
  refine⟨?_,base _ a b limit wb wp d hk hab hb hd⟩
  obtain⟨r1,r2⟩:=base (ZV m) a b limit true true d hk hab hb hd
  refine⟨?_,r2⟩
  show ZaF (ZV m) (a:Int) (b:Int) (limit:Int) cmp d.toList=_
  unfold ZaF
  rw[r1];rfl
 | succ k ih=>
  intro m hm a b limit wb wp d hk hab hb hd hl
  refine⟨?_,Zvc hc hs (ih m (by omega)) a b limit wb wp d hk hab hb hd hl⟩
  obtain⟨m',rfl⟩:∃m',m=m'+1:=⟨m-1,by omega⟩
  obtain⟨r1,r2⟩:=Zvc hc hs (ih m' (by omega)) a b limit true true d hk hab hb hd hl
  refine⟨?_,r2⟩
  show ZaF (ZV (m'+1)) (a:Int) (b:Int) (limit:Int) cmp d.toList=_
  unfold ZaF
  rw[r1];rfl
theorem ZGe (l:List Int) (hl:l.length<=1000) (hP:∀x∈l,P x):ZaU cmp l=some (Sort.sort (ltC c) l.toArray).toList:=by
 have hd:OKA P l.toArray:=⟨fun i hi=>by
  have hi':i<l.length:=by simpa using hi
  rw[getElem!_pos l.toArray i hi]
  simpa using hP _ (List.getElem_mem hi'),by simpa using hl⟩
 obtain⟨l1,_,_⟩:=ZDH hl
 have hbl:bitsLen l.length<=1000:=by
  unfold bitsLen
  split
  ·omega
  ·have:Nat.log2 l.length<11:=(Nat.log2_lt (by assumption)).2 (by omega)
   omega
 have key:∀n,l.length+1<=n->ZV n 0 (l.length:Int) (bitsLen l.length:Int) cmp l=some (Sort.sort (ltC c) l.toArray).toList:=by
  intro n hn
  obtain⟨m,rfl⟩:∃m,n=m+1:=⟨n-1,by omega⟩
  obtain⟨⟨r1,_⟩,_⟩:=ZGu hc hs l.length m (by omega) 0 l.length (bitsLen l.length) true true l.toArray (by omega) (by omega) (by simp) hd hbl
  refine(r1:ZV (m+1) 0 (l.length:Int) (bitsLen l.length:Int) cmp l=_).trans ?_
  unfold Sort.sort
  rw[List.size_toArray]
 unfold ZaU Zdq
 rw[l1,Option.bind_some,ZFz key]
 rfl
theorem ZH5 (l:List Int) (hl:l.length<=1000) (hP:∀x∈l,P x):∃r:List Int,ZaU cmp l=some r/\r.Perm l/\r.Pairwise (fun x y=>ltC c y x=false):=by
 refine⟨_,ZGe hc hs l hl hP,?_⟩
 obtain⟨⟨h1,_,h2⟩,h3⟩:=sort_sorts (ltC c) hs l.toArray
 generalize Sort.sort (ltC c) l.toArray=d at *
 constructor
 ·have e1:d.extract 0 l.toArray.size=d:=by rw[<- h1];simp
  rw[e1] at h2
  simpa using h2
 ·rw[List.pairwise_iff_getElem]
  intro i j hi hj hij
  have hj':j<d.size:=by simpa using hj
  have hi':i<d.size:=by omega
  have:=h3 i j (Nat.zero_le _) hij (by omega)
  rw[getElem!_pos d j hj',getElem!_pos d i hi'] at this
  simpa using this
end
end Go.Proofs.YtgcfmiajkbbmeaaGreatDoor
namespace Go.Proofs.YtgcfmiajkbbmeaaGreatDoor
open Go Go.Proofs.YtgcfmiajkbbmeaaGreatDoorE Go.Sort
open Go.IntKind (u64 i64 u32 i32 u8)
def sel {γ:Type} (p:γ->Bool) (g:Nat->γ->Int):Nat->List γ->List Int
 | _,[]=>[]
 | i,x :: l=>bif p x then g i x :: sel p g (i+1) l else sel p g (i+1) l
theorem ZpY {γ:Type} (p:γ->Bool) (g:Nat->γ->Int):∀(l:List γ) (i:Nat),(sel p g i l).length=l.countP p
 | [],_=>rfl
 | x :: l,i=>by
  unfold sel
  have ih:=ZpY p g l (i+1)
  cases h:p x with
  | true=>simp[ih,h]
  | false=>simp[ih,h]
theorem Zps {γ:Type} (p:γ->Bool) (g:Nat->γ->Int) (z:Int):∀(l:List γ) (i:Nat),z∈sel p g i l↔∃j x,l[j]? = some x/\p x=true/\z=g (i+j) x
 | [],i=>by simp[sel]
 | x :: l,i=>by
  have ih:=Zps p g z l (i+1)
  have key:(∃j y,(x :: l)[j]? = some y/\p y=true/\z=g (i+j) y)↔(p x=true/\z=g i x)∨∃j y,l[j]? = some y/\p y=true/\z=g (i+1+j) y:=by
   constructor
   ·rintro ⟨j,y,h1,h2,h3⟩
    cases j with
    | zero=>left;simp at h1;subst h1;exact⟨h2,h3⟩
    | succ j=>right;exact⟨j,y,by simpa using h1,h2,by rw[h3];congr 1;omega⟩
   ·rintro (⟨h2,h3⟩ | ⟨j,y,h1,h2,h3⟩)
    ·exact⟨0,x,rfl,h2,h3⟩
    ·exact⟨j+1,y,by simpa using h1,h2,by rw[h3];congr 1;omega⟩
  rw[key]
  unfold sel
  cases h:p x with
  | true=>simp[ih]
  | false=>simp[ih]
theorem Zy8 {γ:Type} (l:List γ) (hl:l.length<=1000) (p:γ->Bool) (g:Nat->γ->Int) (step:Int×List Int->Option ((Int×List Int)⊕List Int))
  (h1:∀i x s,i<l.length->l[i]? = some x->step ((i:Int),s)=(bif p x then (bif Nat.ble (s.length+1) lim then some (.inl (((i+1:Nat):Int),s++[g i x])) else none) else some (.inl (((i+1:Nat):Int),s))))
  (h2:∀s,step ((l.length:Int),s)=some (.inr s)) (s:List Int) (hs:s.length<=1000000):lp step (0,s)=some (s++sel p g 0 l):=by
 have key:=ZvN l step (fun i s=>((i:Int),s)) (fun i x s=>bif p x then (bif Nat.ble (s.length+1) lim then some (.inl (s++[g i x])) else none) else some (.inl s)) (fun s=>some s) (fun i x s hi hx=>by
   rw[h1 i x s hi hx]
   cases p x<;>cases Nat.ble (s.length+1) lim<;>rfl) (fun s=>h2 s) s
 refine(key:lp step (0,s)=_).trans ?_
 have:∀(l:List γ) (i:Nat) (s:List Int),s.length+l.length<=1001000->ZqC (fun i x s=>bif p x then (bif Nat.ble (s.length+1) lim then some (Sum.inl (s++[g i x])) else (none:Option (List Int⊕List Int))) else some (.inl s)) (fun s=>some s) i l s=some (s++sel p g i l):=by
  intro l
  induction l with
  | nil=>intro i s _;simp[ZqC,sel]
  | cons x l ih=>
   intro i s hb
   rw[List.length_cons] at hb
   unfold ZqC sel
   cases p x with
   | true=>
    rw[Zgn (show s.length+1<=1073741824 by omega)]
    simp only[cond_true]
    rw[ih (i+1) (s++[g i x]) (by rw[List.length_append,List.length_singleton];omega)]
    simp
   | false=>
    simp only[cond_false]
    rw[ih (i+1) s (by omega)]
 exact this l 0 s (by omega)
theorem Zs2 (k:Int->Int):∀(l m:List Int),l.Pairwise (fun x y=>k x<k y)->m.Pairwise (fun x y=>k x<k y)->(∀z,z∈l↔z∈m)->l=m
 | [],[],_,_,_=>rfl
 | [],y :: m,_,_,h=>absurd ((h y).2 (by simp)) (by simp)
 | x :: l,[],_,_,h=>absurd ((h x).1 (by simp)) (by simp)
 | x :: l,y :: m,h1,h2,h=>by
  rw[List.pairwise_cons] at h1 h2
  have hxy:x=y:=by
   rcases List.mem_cons.1 ((h x).1 (by simp)) with e | e
   ·exact e
   ·rcases List.mem_cons.1 ((h y).2 (by simp)) with e2 | e2
    ·exact e2.symm
    ·have:=h2.1 _ e
     have:=h1.1 _ e2
     omega
  subst hxy
  congr 1
  refine Zs2 k l m h1.2 h2.2 fun z=>?_
  constructor
  ·intro hz
   rcases List.mem_cons.1 ((h z).1 (by simp[hz])) with e | e
   ·subst e
    have:=h1.1 _ hz
    omega
   ·exact e
  ·intro hz
   rcases List.mem_cons.1 ((h z).2 (by simp[hz])) with e | e
   ·subst e
    have:=h2.1 _ hz
    omega
   ·exact e
structure Zn6 (d:Zq):Prop where
 w:∀p∈d.parts,1<=p.work/\p.work<=100
 e:∀x∈d.edges,two d.parts.length x.src x.dst=true
 f:∀x∈d.futures,two d.parts.length x.maker x.user=true/\1<=x.pos/\x.pos<=ZgD d.parts x.user-1
 ne:∀(i j:Nat) (x y:Zg),i<j->d.futures[i]? = some x->d.futures[j]? = some y->¬(x.user=y.user/\x.pos=y.pos)
theorem Zv3 {d:Zq} (h:Zh8 d=0):Zn6 d:=by
 unfold Zh8 at h
 have all:Zoz d=true/\Zt3 d=true/\d.parts.any Zhx=false/\Zid (Zh1 d) 0 d.edges=false/\Zid (ZeC d) 0 d.futures=false:=by
  revert h
  cases Zoz d<;>cases Zt3 d<;>cases d.parts.any Zhx<;>cases Zid (Zh1 d) 0 d.edges<;>cases Zid (ZeC d) 0 d.futures<;>simp
 obtain⟨_,_,h3,h4,h5⟩:=all
 have he:∀(i:Nat) x,d.edges[i]? = some x->Zh1 d i x=false:=fun i x hx=>by
  cases hb:Zh1 d i x with
  | false=>rfl
  | true=>rw[(Zm8 _ _ 0).2 ⟨i,x,hx,by simpa using hb⟩] at h4;cases h4
 have hf:∀(i:Nat) x,d.futures[i]? = some x->ZeC d i x=false:=fun i x hx=>by
  cases hb:ZeC d i x with
  | false=>rfl
  | true=>rw[(Zm8 _ _ 0).2 ⟨i,x,hx,by simpa using hb⟩] at h5;cases h5
 refine⟨Zt5 h3,fun x hx=>?_,fun x hx=>?_,fun i j x y hij hx hy=>?_⟩
 ·obtain⟨i,hi⟩:=List.getElem?_of_mem hx
  have:=he i x hi
  unfold Zh1 at this
  simp only[Bool.or_eq_false_iff,Bool.not_eq_false'] at this
  exact this.1
 ·obtain⟨i,hi⟩:=List.getElem?_of_mem hx
  have:=hf i x hi
  unfold ZeC Zc0 at this
  simp only[Bool.or_eq_false_iff,Bool.not_eq_false',Bool.and_eq_true,decide_eq_true_eq] at this
  exact⟨this.1,this.2.1.1,this.2.1.2⟩
 ·rintro ⟨h1,h2⟩
  have:=hf j y hy
  unfold ZeC at this
  simp only[Bool.or_eq_false_iff] at this
  have h6:=List.any_eq_false.1 this.2.2 x (List.mem_of_getElem? (i:=i) (by rw[List.getElem?_take_of_lt hij];exact hx))
  unfold again at h6
  simp[h1,h2] at h6
theorem ZnQ {d:Zq} (g:Zn6 d) (u:Int):ZgD d.parts u<=100:=by
 unfold ZgD
 split
 ·rename_i p hp;exact(g.w p (List.mem_of_getElem? hp)).2
 ·omega
def Zf2 (fs:List Zg) (z:Int):Int:=match fs[z.toNat]? with | some f=>f.pos | none=>0
def ZrO (d:Zq) (u:Int):List Int:=sel (fun f:Zg=>f.user==u) (fun i _=>(i:Int)) 0 d.futures
theorem Zny (d:Zq) (u z:Int):z∈ZrO d u↔∃(i:Nat) (f:Zg),d.futures[i]? = some f/\f.user=u/\z=(i:Int):=by
 unfold ZrO
 rw[Zps]
 simp
theorem ZtF (d:Zq) (u:Int):(ZrO d u).Pairwise (fun x y=>x<y):=by
 have:∀(l:List Zg) (i:Nat),(sel (fun f:Zg=>f.user==u) (fun i _=>(i:Int)) i l).Pairwise (fun x y=>x<y)/\∀z∈sel (fun f:Zg=>f.user==u) (fun i _=>(i:Int)) i l,(i:Int)<=z:=by
  intro l
  induction l with
  | nil=>intro i;simp[sel]
  | cons x l ih=>
   intro i
   obtain⟨h1,h2⟩:=ih (i+1)
   unfold sel
   cases x.user==u with
   | true=>
    simp only[cond_true,List.pairwise_cons,List.mem_cons]
    refine⟨⟨fun z hz=>?_,h1⟩,?_⟩
    ·have:=h2 z hz;omega
    ·rintro z (rfl | hz)
     ·exact Int.le_refl _
     ·have:=h2 z hz;omega
   | false=>
    simp only[cond_false]
    exact⟨h1,fun z hz=>by have:=h2 z hz;omega⟩
 exact(this d.futures 0).1
structure ZhL (d:Zq) (u:Int) (r:List Int):Prop where
 mem:∀z,z∈r↔∃(i:Nat) (f:Zg),d.futures[i]? = some f/\f.user=u/\z=(i:Int)
 rise:r.Pairwise (fun x y=>Zf2 d.futures x<Zf2 d.futures y)
theorem ZhL.eq {d:Zq}{u:Int}{r s:List Int} (h1:ZhL d u r) (h2:ZhL d u s):r=s:=Zs2 (Zf2 d.futures) r s h1.rise h2.rise fun z=>by rw[h1.mem,h2.mem]
theorem ZwW {l:List Int}{p q:Int->Int->Prop} (h:l.Pairwise p) (hq:∀x y,x∈l->y∈l->p x y->q x y):l.Pairwise q:=by
 rw[List.pairwise_iff_getElem] at h ⊢
 exact fun i j hi hj hij=>hq _ _ (List.getElem_mem hi) (List.getElem_mem hj) (h i j hi hj hij)
theorem ZEO {d:Zq} (g:Zn6 d) {u x y:Int} (hx:∃(i:Nat) (f:Zg),d.futures[i]? = some f/\f.user=u/\x=(i:Int)) (hy:∃(i:Nat) (f:Zg),d.futures[i]? = some f/\f.user=u/\y=(i:Int)) (hne:x≠y):Zf2 d.futures x≠Zf2 d.futures y:=by
 obtain⟨i,f,h1,h2,rfl⟩:=hx
 obtain⟨j,e,h3,h4,rfl⟩:=hy
 intro he
 unfold Zf2 at he
 rw[Int.toNat_natCast,Int.toNat_natCast,h1,h3] at he
 simp only at he
 rcases Nat.lt_trichotomy i j with h | h | h
 ·exact g.ne i j f e h h1 h3 ⟨h2.trans h4.symm,he⟩
 ·exact hne (by rw[h])
 ·exact g.ne j i e f h h3 h1 ⟨h4.trans h2.symm,he.symm⟩
theorem ZBI {d:Zq} (g:Zn6 d):ZwT (fun z0 z1=>Zt z0 z1 d.futures) (fun x y=>Zf2 d.futures x-Zf2 d.futures y) (fun z=>0<=z/\z.toNat<d.futures.length):=by
 intro x y hx hy
 have b:∀z:Int,z.toNat<d.futures.length->∃f,d.futures[z.toNat]? = some f/\Zf2 d.futures z=f.pos/\1<=f.pos/\f.pos<=100:=fun z hz=>by
  have hm:=List.getElem_mem hz
  have:=g.f _ hm
  have hw:=ZnQ g d.futures[z.toNat].user
  exact⟨d.futures[z.toNat],List.getElem?_eq_getElem hz,by unfold Zf2;rw[List.getElem?_eq_getElem hz],this.2.1,by omega⟩
 obtain⟨f,f1,f2,f3,f4⟩:=b x hx.2
 obtain⟨e,e1,e2,e3,e4⟩:=b y hy.2
 show Zt x y d.futures=some (Zf2 d.futures x-Zf2 d.futures y)
 unfold Zt
 rw[Zpa hx.1 f1,Zpa hy.1 e1]
 simp only[Option.bind_some]
 rw[f2,e2,ZaA (by omega) (by omega)]
theorem ZF0 (k:Int->Int):SWO (ltC fun x y=>k x-k y):=by
 refine⟨fun x=>?_,fun x y z h1 h2=>?_,fun x y z h1 h2=>?_⟩
 ·show decide (k x-k x<0)=false
  exact decide_eq_false (by omega)
 ·simp only[ltC,decide_eq_true_eq] at *
  omega
 ·simp only[ltC,decide_eq_false_iff_not] at *
  omega
theorem ZAX (d:Zq) (h:Znj d) (hf:d.futures.length<=1000) (hc:Zh8 d=0) (u:Int):∃r,Zd9 d u=some r/\ZhL d u r:=by
 have g:=Zv3 hc
 have key:=Zy8 d.futures hf (fun f:Zg=>f.user==u) (fun i _=>(i:Int)) (ZeM d u) (fun i x s hi hx=>by
   simp only[ZeM,Zcx hi,ZN hx,Option.bind_some,ZL hi h.f,cond_true]) (fun s=>by simp only[ZeM,ZdO];rfl) [] (by simp)
 have hP:∀x∈ZrO d u,0<=x/\x.toNat<d.futures.length:=fun x hx=>by
  obtain⟨i,f,h1,h2,rfl⟩:=(Zny d u x).1 hx
  have:=(List.getElem?_eq_some_iff.1 h1).1
  exact⟨by omega,by simpa using this⟩
 have hlen:(ZrO d u).length<=1000:=by
  unfold ZrO
  rw[ZpY]
  exact Nat.le_trans List.countP_le_length hf
 obtain⟨r,h1,h2,h3⟩:=ZH5 (ZBI g) (ZF0 _) (ZrO d u) hlen hP
 refine⟨r,?_,?_,?_⟩
 ·unfold Zd9
  rw[ZzK d h,hc]
  simp only[Option.bind_some,bne_self_eq_false,cond_false]
  rw[key,List.nil_append,Option.bind_some]
  show(ZaU (fun z0 z1=>Zt z0 z1 d.futures) (ZrO d u)).bind _=_
  rw[h1]
  rfl
 ·exact fun z=>by rw[h2.mem_iff,Zny]
 ·have nd:r.Pairwise (fun x y=>x≠y):=(h2.pairwise_iff (fun h=>Ne.symm h)).2 ((ZtF d u).imp fun h=>by omega)
  refine ZwW (h3.and nd) fun x y hx hy hp=>?_
  have a:=(Zny d u x).1 (h2.mem_iff.1 hx)
  have b:=(Zny d u y).1 (h2.mem_iff.1 hy)
  have h4:=ZEO g a b hp.2
  have h5:=hp.1
  simp only[ltC,decide_eq_false_iff_not] at h5
  omega
theorem ZuR {d:Zq}{u:Int}{r:List Int} (h:ZhL d u r):r.length=(ZrO d u).length:=by
 have nd1:r.Nodup:=h.rise.imp fun hp he=>by rw[he] at hp;omega
 have nd2:(ZrO d u).Nodup:=(ZtF d u).imp fun hp he=>by omega
 exact((List.perm_ext_iff_of_nodup nd1 nd2).2 fun z=>by rw[h.mem,Zny]).length_eq
theorem ZxL {d:Zq}{u:Int}{r:List Int} (h:ZhL d u r):r.length<=d.futures.length:=by
 rw[ZuR h]
 unfold ZrO
 rw[ZpY]
 exact List.countP_le_length
theorem Zu0 {γ:Type} (p:γ->Bool) (g:Nat->γ->Int) (l:List γ) (i:Nat):(sel p g i l).length<=l.length:=by rw[ZpY];exact List.countP_le_length
open Go Go.Proofs.YtgcfmiajkbbmeaaGreatDoorE
structure Zd8 (d:Zq):Prop where
 g:Zn6 d
 ins:∀b∈d.barriers,∀q∈b.ins,0<=q/\q.toNat<d.parts.length
 outs:∀b∈d.barriers,∀q∈b.outs,0<=q/\q.toNat<d.parts.length
 disj:∀b∈d.barriers,∀q∈b.ins,q∉b.outs
 pl:d.parts.length<=16
 el:d.edges.length<=48
 fl:d.futures.length<=16
 bl:d.barriers.length<=4
 p1:1<=d.parts.length
 arg:∀p∈d.parts,0<=p.arg/\p.arg<=2147483647
theorem row_in {n:Nat}{l:List Int} (h:Zok n l=true):∀q∈l,0<=q/\q.toNat<n:=by
 intro q hq
 unfold Zok at h
 simp only[Bool.and_eq_true,Bool.not_eq_true'] at h
 obtain⟨i,hi⟩:=List.getElem?_of_mem hq
 have:Zu7 n l i q=false:=by
  cases hb:Zu7 n l i q with
  | false=>rfl
  | true=>rw[(Zm8 _ _ 0).2 ⟨i,q,hi,by simpa using hb⟩] at h;exact absurd h.1 (by simp)
 unfold Zu7 Zc0 at this
 simp only[Bool.or_eq_false_iff,Bool.not_eq_false',Bool.and_eq_true,decide_eq_true_eq] at this
 omega
theorem ZsW {d:Zq} (h:Zh8 d=0):Zd8 d:=by
 have g:=Zv3 h
 unfold Zh8 at h
 have all:Zoz d=true/\d.barriers.any (ZgW d.parts.length)=false/\d.parts.any Zhx=false:=by
  revert h
  cases Zoz d<;>cases Zt3 d<;>cases d.parts.any Zhx<;>cases Zid (Zh1 d) 0 d.edges<;>cases Zid (ZeC d) 0 d.futures<;>cases d.barriers.any (ZgW d.parts.length)<;>simp
 have hb:∀b∈d.barriers,Zok d.parts.length b.ins=true/\Zok d.parts.length b.outs=true/\b.ins.any (Zt4 b)=false:=fun b hb=>by
  have:=List.any_eq_false.1 all.2.1 b hb
  simp only[ZgW,Bool.or_eq_true,Bool.not_eq_true',not_or,Bool.not_eq_false,Bool.not_eq_true] at this
  exact this
 have m:=all.1
 unfold Zoz Zc0 at m
 simp only[Bool.and_eq_true,decide_eq_true_eq,Bool.not_eq_true',decide_eq_false_iff_not] at m
 refine⟨g,fun b h1=>row_in (hb b h1).1,fun b h1=>row_in (hb b h1).2.1,fun b h1 q h2 h3=>?_,by omega,by omega,by omega,by omega,by omega,fun p hp=>?_⟩
 case refine_2=>
  have:=List.any_eq_false.1 all.2.2 p hp
  simp only[Zhx,Zc0,Bool.not_eq_true,Bool.not_eq_false',Bool.and_eq_true,decide_eq_true_eq] at this
  exact this.2.1
 have:=List.any_eq_false.1 (hb b h1).2.2 q h2
 unfold Zt4 at this
 exact this (List.any_eq_true.2 ⟨q,h3,by simp⟩)
def inR (d:Zq) (p:Int):Prop:=0<=p/\p.toNat<d.parts.length
theorem Zd8.src {d:Zq} (g:Zd8 d) {e:Zi} (h:e∈d.edges):inR d e.src:=(Ztw (g.g.e e h)).1
theorem Zd8.dst {d:Zq} (g:Zd8 d) {e:Zi} (h:e∈d.edges):inR d e.dst:=(Ztw (g.g.e e h)).2.1
theorem Zd8.maker {d:Zq} (g:Zd8 d) {f:Zg} (h:f∈d.futures):inR d f.maker:=(Ztw (g.g.f f h).1).1
theorem Zd8.user {d:Zq} (g:Zd8 d) {f:Zg} (h:f∈d.futures):inR d f.user:=(Ztw (g.g.f f h).1).2.1
theorem Zd8.short {d:Zq} (g:Zd8 d) (hs:∀b∈d.barriers,ZGH b):Znj d:=⟨by have:=g.pl;omega,by have:=g.el;omega,by have:=g.fl;omega,by have:=g.bl;omega,hs⟩
def Zm2 (n:Nat) (x:Int):Bool:=decide (0<=x)&&decide (x<(n:Int))
theorem ZCq {γ:Type} (p:γ->Bool):∀(l:List γ) (i:Nat),(sel p (fun i _=>(i:Int)) i l).Pairwise (fun x y=>x<y)/\∀z∈sel p (fun i _=>(i:Int)) i l,(i:Int)<=z:=by
 intro l
 induction l with
 | nil=>intro i;simp[sel]
 | cons x l ih=>
  intro i
  obtain⟨h1,h2⟩:=ih (i+1)
  unfold sel
  cases p x with
  | true=>
   simp only[cond_true,List.pairwise_cons,List.mem_cons]
   refine⟨⟨fun z hz=>?_,h1⟩,?_⟩
   ·have:=h2 z hz;omega
   ·rintro z (rfl | hz)
    ·exact Int.le_refl _
    ·have:=h2 z hz;omega
  | false=>
   simp only[cond_false]
   exact⟨h1,fun z hz=>by have:=h2 z hz;omega⟩
def Zrk (d:Zq) (u:Int) (t:Int):List Int:=sel (fun f:Zg=>f.user==u&&f.pos==t) (fun i _=>(i:Int)) 0 d.futures
theorem Zqr (d:Zq) (u t z:Int):z∈Zrk d u t↔∃(i:Nat) (f:Zg),d.futures[i]? = some f/\f.user=u/\f.pos=t/\z=(i:Int):=by
 unfold Zrk
 rw[Zps]
 simp[and_assoc]
theorem ZnO {d:Zq}{u t z:Int} (h:z∈Zrk d u t):Zf2 d.futures z=t:=by
 obtain⟨i,f,h1,_,h3,rfl⟩:=(Zqr d u t z).1 h
 unfold Zf2
 rw[Int.toNat_natCast,h1,<- h3]
theorem Ztb {d:Zq}{u t z:Int} (h:z∈Zrk d u t):∃(i:Nat) (f:Zg),d.futures[i]? = some f/\f.user=u/\z=(i:Int):=by
 obtain⟨i,f,h1,h2,_,h4⟩:=(Zqr d u t z).1 h
 exact⟨i,f,h1,h2,h4⟩
def tl (d:Zq) (u:Int):Nat->Nat->List Int
 | _,0=>[]
 | i,k+1=>Zrk d u ((i+1:Nat):Int)++tl d u (i+1) k
theorem ZyH (d:Zq) (u z:Int):∀(k i:Nat),z∈tl d u i k↔∃t:Nat,i<t/\t<=i+k/\z∈Zrk d u (t:Int)
 | 0,i=>by
  unfold tl
  constructor
  ·intro h;cases h
  ·rintro ⟨t,h1,h2,_⟩;omega
 | k+1,i=>by
  unfold tl
  rw[List.mem_append,ZyH d u z k (i+1)]
  constructor
  ·rintro (h | ⟨t,h1,h2,h3⟩)
   ·exact⟨i+1,by omega,by omega,h⟩
   ·exact⟨t,by omega,by omega,h3⟩
  ·rintro ⟨t,h1,h2,h3⟩
   by_cases h:t=i+1
   ·subst h;exact .inl h3
   ·exact .inr ⟨t,by omega,by omega,h3⟩
theorem ZAz {d:Zq} (g:Zn6 d) (u:Int):∀(k i:Nat),(tl d u i k).Pairwise (fun x y=>Zf2 d.futures x<Zf2 d.futures y)
 | 0,i=>List.Pairwise.nil
 | k+1,i=>by
  unfold tl
  rw[List.pairwise_append]
  refine⟨?_,ZAz g u k (i+1),fun x hx y hy=>?_⟩
  ·refine ZwW (ZCq _ _ _).1 fun x y hx hy hlt=>?_
   have hx':x∈Zrk d u ((i+1:Nat):Int):=hx
   have hy':y∈Zrk d u ((i+1:Nat):Int):=hy
   exact absurd ((ZnO hx').trans (ZnO hy').symm) (ZEO g (Ztb hx') (Ztb hy') (by omega))
  ·obtain⟨t,h1,h2,h3⟩:=(ZyH d u y k (i+1)).1 hy
   rw[ZnO hx,ZnO h3]
   omega
theorem Zzd {d:Zq} (g:Zn6 d) (u:Int):ZhL d u (tl d u 0 99):=by
 refine⟨fun z=>?_,ZAz g u 99 0⟩
 rw[ZyH]
 constructor
 ·rintro ⟨t,_,_,h⟩;exact Ztb h
 ·rintro ⟨i,f,h1,h2,h3⟩
  have hf:=g.f f (List.mem_of_getElem? h1)
  have hw:=ZnQ g f.user
  refine⟨f.pos.toNat,by omega,by omega,?_⟩
  rw[Zqr]
  exact⟨i,f,h1,h2,by omega,h3⟩
def Zfo {γ S:Type} (f:Nat->S->γ->S):Nat->S->List γ->S
 | _,s,[]=>s
 | i,s,x :: l=>Zfo f (i+1) (f i s x) l
theorem Zm4 {γ S T R:Type} (l:List γ) (step:T->Option (T⊕R)) (st:Nat->S->T) (f:Nat->S->γ->S) (fin:S->R) (I:Nat->S->Prop)
  (h1:∀i x s,i<l.length->l[i]? = some x->I i s->step (st i s)=some (.inl (st (i+1) (f i s x)))/\I (i+1) (f i s x))
  (h2:∀s,I l.length s->step (st l.length s)=some (.inr (fin s))) (s:S) (h0:I 0 s) :
  lp step (st 0 s)=some (fin (Zfo f 0 s l))/\I l.length (Zfo f 0 s l):=by
 have key:∀(k i:Nat) (s:S),i+k=l.length->I i s->lp step (st i s)=some (fin (Zfo f i s (l.drop i)))/\I l.length (Zfo f i s (l.drop i)):=by
  intro k
  induction k with
  | zero=>
   intro i s hi hI
   have:i=l.length:=by omega
   subst this
   rw[List.drop_length,Zae,h2 s hI]
   exact⟨rfl,hI⟩
  | succ k ih=>
   intro i s hi hI
   have hi':i<l.length:=by omega
   obtain⟨e,hI'⟩:=h1 i l[i] s hi' (List.getElem?_eq_getElem hi') hI
   rw[List.drop_eq_getElem_cons hi',Zae,e]
   exact ih (i+1) _ (by omega) hI'
 have:=key l.length 0 s (by omega) h0
 rwa [List.drop_zero] at this
def Zjj (w:Int):Bool:=decide (w<0) || decide (1000<w)
def ZrC (g:ZF) (i:Nat) (e:Zi):Bool:=!(Zm2 g.work.length e.src) || (!(Zm2 g.work.length e.dst) || ((e.src==e.dst) || (g.edges.take i).any (Zsw e)))
def Znt (g:ZF):Int:=bif decide (64<(g.work.length:Int)) || decide (256<(g.edges.length:Int)) then 40 else bif g.work.any Zjj then 41 else bif Zid (ZrC g) 0 g.edges then 42 else 0
structure ZoZ (g:ZF):Prop where
 w:g.work.length<9223372036854775808
 e:g.edges.length<9223372036854775808
theorem ZCd (w:Int):ZdC w=some (Zjj w):=by
 unfold ZdC Zjj
 cases decide (w<0)<;>cases decide (1000<w)<;>rfl
theorem ZEy (a:Int) (l:List Int):Zho a l=some (Zm2 l.length a):=by
 unfold Zho Zm2
 cases decide (0<=a)<;>cases decide (a<(l.length:Int))<;>rfl
theorem Zyf (g:ZF) (h:ZoZ g):lp (ZfR g) 0=some (bif Zid (ZrC g) 0 g.edges then .inl () else .inr ()):=by
 have key:=Zhw g.edges (ZfR g) (ZrC g) (fun _ _=>.inl ()) (.inr ()) (fun i x hi hx=>by
   have e0:decide ((0:Int)<=(i:Int))=true:=decide_eq_true (by omega)
   have e1:Nat.ble i g.edges.length=true:=Nat.ble_eq_true_of_le (by omega)
   simp only[ZfR,Zcx hi,ZN hx,Option.bind_some,ZL hi h.e,cond_true,ZEy,ZrC,e0,Int.toNat_natCast,e1,ZvD _ x (ZoM h.e)]
   cases Zm2 g.work.length x.src<;>cases Zm2 g.work.length x.dst<;>cases (x.src==x.dst)<;>cases (g.edges.take i).any (Zsw x)<;>rfl) (by simp only[ZfR,ZdO];rfl)
 rw[key,Zgc]
inductive Way (g:ZF):Int->Int->Prop
 | one {e:Zi}:e∈g.edges->Way g e.src e.dst
 | more {a:Int} {e:Zi}:Way g a e.src->e∈g.edges->Way g a e.dst
theorem Way.trans {g:ZF}{a b c:Int} (h1:Way g a b) (h2:Way g b c):Way g a c:=by
 induction h2 with
 | one he=>exact Way.more h1 he
 | more _ he ih=>exact Way.more (ih h1) he
def Zov (g:ZF):Prop:=∀a,¬Way g a a
structure ZgT (g:ZF):Prop where
 wl:g.work.length<=64
 el:g.edges.length<=256
 w:∀x∈g.work,0<=x/\x<=1000
 src:∀e∈g.edges,0<=e.src/\e.src.toNat<g.work.length
 dst:∀e∈g.edges,0<=e.dst/\e.dst.toNat<g.work.length
theorem ZgT.short {g:ZF} (h:ZgT g):ZoZ g:=⟨by have:=h.wl;omega,by have:=h.el;omega⟩
theorem Zvi {n:Nat}{a:Int} (h:Zm2 n a=true):0<=a/\a.toNat<n:=by
 unfold Zm2 at h
 simp only[Bool.and_eq_true,decide_eq_true_eq] at h
 omega
theorem Zw4 {g:ZF} (h:Znt g=0):ZgT g:=by
 unfold Znt at h
 cases h1:decide (64<(g.work.length:Int)) with
 | true=>rw[h1] at h;simp at h
 | false=>
 cases h2:decide (256<(g.edges.length:Int)) with
 | true=>rw[h1,h2] at h;simp at h
 | false=>
 cases h3:g.work.any Zjj with
 | true=>rw[h1,h2,h3] at h;simp at h
 | false=>
 cases h4:Zid (ZrC g) 0 g.edges with
 | true=>rw[h1,h2,h3,h4] at h;simp at h
 | false=>
 have hE:∀e∈g.edges,∃i,ZrC g i e=false:=fun e he=>by
  obtain⟨i,hi⟩:=List.getElem?_of_mem he
  refine⟨i,?_⟩
  cases hb:ZrC g i e with
  | false=>rfl
  | true=>rw[(Zm8 _ _ 0).2 ⟨i,e,hi,by simpa using hb⟩] at h4;cases h4
 refine⟨by have:=of_decide_eq_false h1;omega,by have:=of_decide_eq_false h2;omega,fun x hx=>?_,fun e he=>?_,fun e he=>?_⟩
 ·have:=List.any_eq_false.1 h3 x hx
  unfold Zjj at this
  simp only[Bool.or_eq_true,decide_eq_true_eq,not_or] at this
  omega
 ·obtain⟨i,hi⟩:=hE e he
  unfold ZrC at hi
  simp only[Bool.or_eq_false_iff,Bool.not_eq_false'] at hi
  exact Zvi hi.1
 ·obtain⟨i,hi⟩:=hE e he
  unfold ZrC at hi
  simp only[Bool.or_eq_false_iff,Bool.not_eq_false'] at hi
  exact Zvi hi.2.1
theorem Way.src_in {g:ZF} (h:ZgT g) {a b:Int} (w:Way g a b):0<=a/\a.toNat<g.work.length:=by
 induction w with
 | one he=>exact h.src _ he
 | more _ _ ih=>exact ih
theorem Zxw {g:ZF} (hg:Zov g):∀(n:Nat) (S:List Int),S.length<=n->S≠[]->∃m∈S,∀e∈g.edges,e.dst=m->e.src∉S:=by
 intro n
 induction n with
 | zero=>intro S h1 h2;exact absurd (List.length_eq_zero_iff.1 (by omega)) h2
 | succ n ih=>
  intro S h1 h2
  obtain⟨m,hm⟩:=List.exists_mem_of_ne_nil S h2
  classical
  by_cases hS:(S.filter fun x=>decide (Way g x m))=[]
  ·refine⟨m,hm,fun e he hd hs=>?_⟩
   have:e.src∈S.filter fun x=>decide (Way g x m):=List.mem_filter.2 ⟨hs,decide_eq_true (hd ▸ Way.one he)⟩
   rw[hS] at this
   cases this
  ·have hlt:(S.filter fun x=>decide (Way g x m)).length<S.length:=by
    refine Nat.lt_of_le_of_ne (List.length_filter_le _ _) fun he=>?_
    have:=List.length_filter_eq_length_iff.1 he m hm
    exact hg m (of_decide_eq_true this)
   obtain⟨k,hk,hk2⟩:=ih _ (by omega) hS
   obtain⟨k1,k2⟩:=List.mem_filter.1 hk
   refine⟨k,k1,fun e he hd hs=>hk2 e he hd (List.mem_filter.2 ⟨hs,decide_eq_true ?_⟩)⟩
   exact(hd ▸ Way.one he:Way g e.src k).trans (of_decide_eq_true k2)
def bAt (l:List Bool) (z:Int):Bool:=match l[z.toNat]? with | some b=>b | none=>false
def Zq8 (g:ZF) (done:List Bool) (i:Nat):Bool:=!(bAt done (i:Int)) && !(g.edges.any fun e=>(e.dst==(i:Int)) && !(bAt done e.src))
def Zrd (g:ZF) (done:List Bool):Option Nat:=Ziu (fun i _=>Zq8 g done i) (fun i _=>some i) none 0 g.work
def Zqg (g:ZF):Nat->List Int->List Bool->Option (List Int)
 | 0,out,_=>some out
 | k+1,out,done=>(match Zrd g done with | some i=>Zqg g k (out++[(i:Int)]) (done.set i true) | none=>none)
theorem Zxt {γ R S:Type} (p:Nat->γ->Bool) (out:Nat->γ->R) (fin:R) (F:R->S):∀(l:List γ) (i:Nat),F (Ziu p out fin i l)=Ziu p (fun i x=>F (out i x)) (F fin) i l
 | [],i=>rfl
 | x :: l,i=>by
  unfold Ziu
  cases p i x with
  | true=>rfl
  | false=>exact Zxt p out fin F l (i+1)
theorem ZvB {γ:Type} (p:Nat->γ->Bool):∀(l:List γ) (i k:Nat),Ziu p (fun i _=>some i) none i l=some k->i<=k/\k<i+l.length/\∃x,l[k-i]? = some x/\p k x=true
 | [],i,k,h=>by cases h
 | x :: l,i,k,h=>by
  unfold Ziu at h
  cases hp:p i x with
  | true=>
   rw[hp] at h
   cases h
   exact⟨Nat.le_refl _,by simp,x,by simp,hp⟩
  | false=>
   rw[hp] at h
   obtain⟨h1,h2,y,h3,h4⟩:=ZvB p l (i+1) k h
   refine⟨by omega,by simp only[List.length_cons];omega,y,?_,h4⟩
   rw[show k-i=(k-(i+1))+1 by omega]
   exact h3
theorem Zu4 {γ:Type} (p:Nat->γ->Bool):∀(l:List γ) (i:Nat),Ziu p (fun i _=>some i) none i l=none->∀(j:Nat) x,l[j]? = some x->p (i+j) x=false
 | [],i,h,j,x,hx=>by cases hx
 | y :: l,i,h,j,x,hx=>by
  unfold Ziu at h
  cases hp:p i y with
  | true=>rw[hp] at h;cases h
  | false=>
   rw[hp] at h
   cases j with
   | zero=>cases hx;exact hp
   | succ j=>
    have:=Zu4 p l (i+1) h j x hx
    rwa [show i+1+j=i+(j+1) by omega] at this
theorem ZAf {g:ZF}{done:List Bool} (hd:done.length=g.work.length) {z:Int} (h:0<=z/\z.toNat<g.work.length):Zy done z=some (bAt done z):=by
 have e:=List.getElem?_eq_getElem (show z.toNat<done.length by rw[hd];exact h.2)
 rw[Zpa h.1 e]
 unfold bAt
 rw[e]
theorem ZH6 {g:ZF} (h:ZgT g) (out:List Int) (ho:out.length<g.work.length) (done:List Bool) (hd:done.length=g.work.length) :
  lp (Zfx g (out,done)) 0=some (match Zrd g done with | some i=>.inl (out++[(i:Int)],done.set i true) | none=>.inr ()):=by
 have key:=Zhw g.work (Zfx g (out,done)) (fun i _=>Zq8 g done i) (fun i _=>.inl (out++[(i:Int)],done.set i true)) (.inr ()) (fun i x hi hx=>by
   have inner:=Zhw g.edges (Zg3 g (out,done) (i:Int)) (fun _ e=>(e.dst==(i:Int)) && !(bAt done e.src)) (fun _ _=>.inl ()) (.inr ()) (fun k e hk he=>by
     simp only[Zg3,Zcx hk,ZN he,Option.bind_some,ZL hk h.short.e,cond_true,ZAf hd (h.src e (List.mem_of_getElem? he))]
     cases (e.dst==(i:Int))<;>cases bAt done e.src<;>rfl) (by simp only[Zg3,ZdO];rfl)
   rw[Zgc,Zpm] at inner
   have hl:=h.wl
   simp only[Zfx,Zcx hi,ZAf hd (z:=(i:Int)) ⟨by omega,by simpa using hi⟩,Option.bind_some,ZL hi h.short.w,cond_true,inner,Zgn (show out.length+1<=1073741824 by omega),Int.toNat_natCast,Zq8]
   cases bAt done (i:Int)<;>cases g.edges.any (fun e=>(e.dst==(i:Int)) && !(bAt done e.src))<;>rfl) (by simp only[Zfx,ZdO];rfl)
 rw[key]
 unfold Zrd
 exact congrArg some (Zxt (fun i _=>Zq8 g done i) (fun i _=>some i) none (fun o:Option Nat=>(match o with | some i=>(.inl (out++[(i:Int)],done.set i true):(List Int×List Bool)⊕Unit) | none=>.inr ())) g.work 0).symm
theorem ZAw {g:ZF} (h:ZgT g):∀(k:Nat) (out:List Int) (done:List Bool),out.length+k=g.work.length->done.length=g.work.length ->
  ∃r,lp (Zg5 g) (out,done)=some r/\(match Zqg g k out done with | some l=>r = .inr l | none=>∃l,r = .inl l)
 | 0,out,done,h1,h2=>by
  rw[Zae]
  simp only[Zg5,show out.length=g.work.length by omega,ZdO,cond_false]
  exact⟨_,rfl,rfl⟩
 | k+1,out,done,h1,h2=>by
  rw[Zae]
  simp only[Zg5,Zcx (show out.length<g.work.length by omega),cond_true,ZH6 h out (by omega) done h2,Option.bind_some]
  unfold Zqg
  cases Zrd g done with
  | none=>exact⟨_,rfl,_,rfl⟩
  | some i=>exact ZAw h k (out++[(i:Int)]) (done.set i true) (by rw[List.length_append];simp only[List.length_cons,List.length_nil];omega) (by rw[List.length_set];exact h2)
theorem ZAs {g:ZF} (h:ZgT g):ZgN g=some (match Zqg g g.work.length [] (List.replicate g.work.length false) with | some l=>(l,true) | none=>([],false)):=by
 obtain⟨r,e,hr⟩:=ZAw h g.work.length [] (List.replicate g.work.length false) (by simp) (by simp)
 have hl:=h.wl
 unfold ZgN
 rw[decide_eq_true (show(0:Int)<=(g.work.length:Int) by omega),decide_eq_true (show(g.work.length:Int)<=lim by show(g.work.length:Int)<=1073741824;omega),beq_self_eq_true]
 simp only[decide_true,Bool.and_true,cond_true,Int.toNat_natCast,e,Option.bind_some]
 cases ho:Zqg g g.work.length [] (List.replicate g.work.length false) with
 | some l=>rw[ho] at hr;simp only at hr;subst hr;rfl
 | none=>rw[ho] at hr;obtain⟨l,rfl⟩:=hr;rfl
structure Zg8 (g:ZF) (out:List Int) (done:List Bool):Prop where
 dl:done.length=g.work.length
 mem:∀i:Nat,bAt done (i:Int)=true↔(i:Int)∈out
 inn:∀z∈out,0<=z/\z.toNat<g.work.length
 nod:out.Nodup
 topo:∀(i:Nat) (n:Int),out[i]? = some n->∀e∈g.edges,e.dst=n->∃j,j<i/\out[j]? = some e.src
theorem ZGo {done:List Bool}{i:Nat} (hi:i<done.length) (z:Int) (hz:0<=z):bAt (done.set i true) z=(decide (z=(i:Int)) || bAt done z):=by
 unfold bAt
 rw[List.getElem?_set]
 by_cases h:i=z.toNat
 ·subst h
  rw[if_pos rfl,if_pos hi,decide_eq_true (show z=((z.toNat:Nat):Int) by omega)];rfl
 ·rw[if_neg h,decide_eq_false (show ¬z=(i:Int) by omega)];rfl
theorem Zg8.start (g:ZF):Zg8 g [] (List.replicate g.work.length false):=by
 refine⟨by simp,fun i=>?_,by simp,by simp,by simp⟩
 unfold bAt
 rw[List.getElem?_replicate]
 by_cases h:((i:Int)).toNat<g.work.length
 ·rw[if_pos h];simp
 ·rw[if_neg h];simp
theorem Zg8.next {g:ZF} (h:ZgT g) {out:List Int}{done:List Bool} (o:Zg8 g out done) {i:Nat} (hn:Zrd g done=some i):Zg8 g (out++[(i:Int)]) (done.set i true):=by
 obtain⟨_,hi,x,_,hp⟩:=ZvB _ _ _ _ hn
 rw[Nat.zero_add] at hi
 unfold Zq8 at hp
 simp only[Bool.and_eq_true,Bool.not_eq_true',List.any_eq_false,Bool.not_eq_true] at hp
 have hid:i<done.length:=by rw[o.dl];exact hi
 have hnot:(i:Int)∉out:=fun hm=>by have:=(o.mem i).2 hm;rw[hp.1] at this;cases this
 refine⟨by rw[List.length_set];exact o.dl,fun j=>?_,fun z hz=>?_,?_,fun k n hk e he hd=>?_⟩
 ·rw[ZGo hid (j:Int) (by omega),Bool.or_eq_true,decide_eq_true_eq,o.mem,List.mem_append,List.mem_singleton]
  exact Or.comm
 ·rcases List.mem_append.1 hz with hz | hz
  ·exact o.inn z hz
  ·rw[List.mem_singleton] at hz;subst hz;exact⟨by omega,by simpa using hi⟩
 ·rw[List.nodup_append]
  refine⟨o.nod,by simp,fun a ha b hb=>?_⟩
  rw[List.mem_singleton] at hb
  subst hb
  exact fun hab=>hnot (hab ▸ ha)
 ·rcases Nat.lt_or_ge k out.length with hk2 | hk2
  ·rw[List.getElem?_append_left hk2] at hk
   obtain⟨j,h1,h2⟩:=o.topo k n hk e he hd
   exact⟨j,h1,by rw[List.getElem?_append_left (by omega)];exact h2⟩
  ·rw[List.getElem?_append_right hk2] at hk
   have hk0:k-out.length=0:=by
    rcases Nat.eq_zero_or_pos (k-out.length) with h0 | h0
    ·exact h0
    ·rw[List.getElem?_eq_none (by simp only[List.length_cons,List.length_nil];omega)] at hk;cases hk
   rw[hk0] at hk
   simp only[List.getElem?_cons_zero,Option.some.injEq] at hk
   subst hk
   have hs:=hp.2 e he
   rw[hd] at hs
   have hs:bAt done e.src=true:=by simpa using hs
   have hsr:=h.src e he
   have:=(o.mem e.src.toNat).1 (by rw[show((e.src.toNat:Nat):Int)=e.src by omega];exact hs)
   rw[show((e.src.toNat:Nat):Int)=e.src by omega] at this
   obtain⟨j,hj⟩:=List.getElem?_of_mem this
   have hjl:=(List.getElem?_eq_some_iff.1 hj).1
   exact⟨j,by omega,by rw[List.getElem?_append_left hjl];exact hj⟩
theorem Zg8.way {g:ZF}{out:List Int}{done:List Bool} (o:Zg8 g out done) {a b:Int} (w:Way g a b):∀j:Nat,out[j]? = some b->∃i,i<j/\out[i]? = some a:=by
 induction w with
 | one he=>intro j hj;exact o.topo j _ hj _ he rfl
 | more _ he ih=>
  intro j hj
  obtain⟨i,h1,h2⟩:=o.topo j _ hj _ he rfl
  obtain⟨k,h3,h4⟩:=ih i h2
  exact⟨k,by omega,h4⟩
theorem ZqX {l:List Int} (h:l.Nodup) {i j:Nat}{a:Int} (h1:l[i]? = some a) (h2:l[j]? = some a):i=j:=by
 obtain⟨a1,a2⟩:=List.getElem?_eq_some_iff.1 h1
 obtain⟨b1,b2⟩:=List.getElem?_eq_some_iff.1 h2
 exact(List.getElem_inj h).1 (a2.trans b2.symm)
def ZET (n:Nat) (done:List Bool):List Int:=((List.range n).filter fun i:Nat=>!bAt done (i:Int)).map fun i:Nat=>(i:Int)
theorem Zts {n:Nat}{done:List Bool}{i:Nat} (h1:i<n) (h2:bAt done (i:Int)=false):(i:Int)∈ZET n done:=
 List.mem_map.2 ⟨i,List.mem_filter.2 ⟨List.mem_range.2 h1,by rw[h2];rfl⟩,rfl⟩
theorem ZBO {g:ZF} (h:ZgT g) (hg:Zov g) {out:List Int}{done:List Bool} (o:Zg8 g out done) (i0:Nat) (hi0:i0<g.work.length) (hb:bAt done (i0:Int)=false):∃i,Zrd g done=some i:=by
 cases hn:Zrd g done with
 | some i=>exact⟨i,rfl⟩
 | none=>
  exfalso
  have hall:=Zu4 _ _ _ hn
  obtain⟨m,hm,hm2⟩:=Zxw hg _ (ZET g.work.length done) (Nat.le_refl _) (by
   intro he
   have:=Zts hi0 hb
   rw[he] at this;cases this)
  obtain⟨k,hk,rfl⟩:=List.mem_map.1 hm
  obtain⟨hk1,hk2⟩:=List.mem_filter.1 hk
  rw[List.mem_range] at hk1
  have hr:=hall k g.work[k] (List.getElem?_eq_getElem hk1)
  rw[Nat.zero_add] at hr
  unfold Zq8 at hr
  rw[hk2,Bool.true_and,Bool.not_eq_false',List.any_eq_true] at hr
  obtain⟨e,he,he2⟩:=hr
  simp only[Bool.and_eq_true,beq_iff_eq] at he2
  have hsr:=h.src e he
  refine hm2 e he he2.1 ?_
  have es:((e.src.toNat:Nat):Int)=e.src:=by omega
  rw[<- es]
  exact Zts hsr.2 (by rw[es];simpa using he2.2)
theorem ZE9 {n:Nat}{out:List Int} (h1:out.Nodup) (h2:∀z∈out,0<=z/\z.toNat<n):(out.length<=n)/\(out.length=n->∀i:Nat,i<n->(i:Int)∈out):=by
 induction n generalizing out with
 | zero=>
  refine⟨?_,fun _ i hi=>absurd hi (by omega)⟩
  cases out with
  | nil=>simp
  | cons z l=>have:=h2 z (by simp);omega
 | succ n ih=>
  by_cases hm:(n:Int)∈out
  ·have e1:(out.erase (n:Int)).length=out.length-1:=List.length_erase_of_mem hm
   have pos:0<out.length:=List.length_pos_of_mem hm
   obtain⟨a,b⟩:=ih (out:=out.erase (n:Int)) (h1.erase _) (fun z hz=>by
    have hz2:=(List.Nodup.mem_erase_iff h1).1 hz
    have:=h2 z hz2.2
    have:=hz2.1
    omega)
   refine⟨by omega,fun hl i hi=>?_⟩
   by_cases hin:i=n
   ·subst hin;exact hm
   ·exact List.mem_of_mem_erase (b (by omega) i (by omega))
  ·obtain⟨a,b⟩:=ih (out:=out) h1 (fun z hz=>by
    have:=h2 z hz
    have:z≠(n:Int):=fun he=>hm (he ▸ hz)
    omega)
   exact⟨by omega,fun hl=>by omega⟩
theorem ZE7:∀(n:Nat) (out:List Int),(∀i:Nat,i<n->(i:Int)∈out)->n<=out.length
 | 0,out,h=>by omega
 | n+1,out,h=>by
  have hm:=h n (by omega)
  have e1:(out.erase (n:Int)).length=out.length-1:=List.length_erase_of_mem hm
  have pos:0<out.length:=List.length_pos_of_mem hm
  have:=ZE7 n (out.erase (n:Int)) (fun i hi=>(List.mem_erase_of_ne (by omega)).2 (h i (by omega)))
  omega
theorem Zoo {g:ZF} (h:ZgT g):∀(k:Nat) (out:List Int) (done:List Bool),Zg8 g out done->out.length+k=g.work.length->(∀l,Zqg g k out done=some l->∃done',Zg8 g l done'/\l.length=g.work.length)/\(Zov g->∃l,Zqg g k out done=some l)
 | 0,out,done,o,hl=>⟨fun l h=>by cases h;exact⟨done,o,by omega⟩,fun _=>⟨out,rfl⟩⟩
 | k+1,out,done,o,hl=>by
  unfold Zqg
  cases hn:Zrd g done with
  | none=>
   refine⟨fun l h=>(by cases h),fun hg=>?_⟩
   exfalso
   have hex:∃i0,i0<g.work.length/\(i0:Int)∉out:=by
    apply Classical.byContradiction
    intro hc
    have hc2:∀i0,i0<g.work.length->(i0:Int)∈out:=fun i0 hi=>Classical.byContradiction fun hx=>hc ⟨i0,hi,hx⟩
    have sub:=ZE7 g.work.length out hc2
    omega
   obtain⟨i0,h1,h2⟩:=hex
   obtain⟨i,hi⟩:=ZBO h hg o i0 h1 (by
    cases hb:bAt done (i0:Int) with
    | false=>rfl
    | true=>exact absurd ((o.mem i0).1 hb) h2)
   rw[hn] at hi
   cases hi
  | some i=>
   exact Zoo h k _ _ (o.next h hn) (by rw[List.length_append];simp only[List.length_cons,List.length_nil];omega)
theorem ZFE {g:ZF} (h:ZgT g) {l:List Int}{done:List Bool} (o:Zg8 g l done) (hl:l.length=g.work.length):Zov g:=by
 intro a w
 have ha:=w.src_in h
 have hm:=(ZE9 o.nod o.inn).2 hl a.toNat ha.2
 rw[show((a.toNat:Nat):Int)=a by omega] at hm
 obtain⟨j,hj⟩:=List.getElem?_of_mem hm
 obtain⟨i,h1,h2⟩:=o.way w j hj
 have:=ZqX o.nod h2 hj
 omega
structure ZJx (g:ZF) (l:List Int):Prop where
 len:l.length=g.work.length
 all:∀i:Nat,i<g.work.length->(i:Int)∈l
 inn:∀z∈l,0<=z/\z.toNat<g.work.length
 nod:l.Nodup
 topo:∀(i:Nat) (n:Int),l[i]? = some n->∀e∈g.edges,e.dst=n->∃j,j<i/\l[j]? = some e.src
theorem ZuU {g:ZF} (h:ZgT g) (hg:Zov g):∃l,ZgN g=some (l,true)/\ZJx g l:=by
 obtain⟨k1,k2⟩:=Zoo h g.work.length [] _ (Zg8.start g) (by simp)
 obtain⟨l,hl⟩:=k2 hg
 obtain⟨done,o,hn⟩:=k1 l hl
 exact⟨l,by rw[ZAs h,hl],hn,(ZE9 o.nod o.inn).2 hn,o.inn,o.nod,o.topo⟩
theorem ZFq {g:ZF} (h:ZgT g) (hg:¬Zov g):ZgN g=some ([],false):=by
 rw[ZAs h]
 cases ho:Zqg g g.work.length [] (List.replicate g.work.length false) with
 | none=>rfl
 | some l=>
  obtain⟨done,o,hn⟩:=(Zoo h g.work.length [] _ (Zg8.start g) (by simp)).1 l ho
  exact absurd (ZFE h o hn) hg
noncomputable def ZCK (g:ZF):Bool:=@decide (Zov g) (Classical.propDecidable _)
theorem ZF1 {g:ZF} (h:Zov g):ZCK g=true:=@decide_eq_true _ (Classical.propDecidable _) h
theorem ZzQ {g:ZF} (h:¬Zov g):ZCK g=false:=@decide_eq_false _ (Classical.propDecidable _) h
noncomputable def Za6 (g:ZF):Int:=bif Znt g==0 then (bif ZCK g then 0 else 43) else Znt g
theorem Za9 {g:ZF} (h:Za6 g=0):ZgT g/\Zov g:=by
 unfold Za6 at h
 by_cases h0:Znt g=0
 ·rw[h0] at h
  refine⟨Zw4 h0,Classical.byContradiction fun hn=>?_⟩
  rw[ZzQ hn] at h
  simp at h
 ·rw[beq_false_of_ne h0] at h
  exact absurd h h0
theorem Zim (g:ZF) (h:ZoZ g):ZeP g=some (Za6 g):=by
 have hw:=ZdF g.work (fun z0=>ZdC z0) Zjj (fun x _=>ZCd x) h.w
 unfold ZeP Za6
 rw[hw,Zyf g h]
 by_cases h0:Znt g=0
 ·have hG:=Zw4 h0
  rw[h0]
  unfold Znt at h0
  by_cases hg:Zov g
  ·obtain⟨l,e,_⟩:=ZuU hG hg
   rw[e,ZF1 hg]
   revert h0
   cases decide (64<(g.work.length:Int))<;>cases decide (256<(g.edges.length:Int))<;>cases g.work.any Zjj<;>cases Zid (ZrC g) 0 g.edges<;>simp
  ·rw[ZFq hG hg,ZzQ hg]
   revert h0
   cases decide (64<(g.work.length:Int))<;>cases decide (256<(g.edges.length:Int))<;>cases g.work.any Zjj<;>cases Zid (ZrC g) 0 g.edges<;>simp
 ·rw[beq_false_of_ne h0]
  unfold Znt at h0 ⊢
  revert h0
  cases decide (64<(g.work.length:Int))<;>cases decide (256<(g.edges.length:Int))<;>cases g.work.any Zjj<;>cases Zid (ZrC g) 0 g.edges<;>simp
theorem Zj1 {K W:Type} (eq:K->K->Bool) (k:K) (v:W):∀l:List (K×W),(∀q∈l,eq k q.1=false)->Zu eq l k v=l++[(k,v)]
 | [],_=>rfl
 | (a,u) :: r,h=>by
  unfold Zu
  rw[h (a,u) (by simp)]
  simp only[cond_false,List.cons_append]
  rw[Zj1 eq k v r fun q hq=>h q (by simp[hq])]
theorem ZkU {K W:Type} (eq:K->K->Bool) (k:K) (z:W) (m:List (K×W)):∀l:List (K×W),(∀q∈l,eq k q.1=false)->Z5 eq (l++m) k z=Z5 eq m k z
 | [],_=>rfl
 | (a,u) :: r,h=>by
  rw[List.cons_append]
  conv=>lhs;unfold Z5
  rw[h (a,u) (by simp)]
  exact ZkU eq k z m r fun q hq=>h q (by simp[hq])
theorem ZlS {K W:Type} (eq:K->K->Bool) (k:K) (z:W) (m:List (K×W)):∀l:List (K×W),(∃q∈l,eq k q.1=true)->Z5 eq (l++m) k z=Z5 eq l k z
 | [],h=>by obtain⟨q,hq,_⟩:=h;simp at hq
 | (a,u) :: r,h=>by
  rw[List.cons_append]
  unfold Z5
  cases hb:eq k a with
  | true=>rfl
  | false=>
   simp only[cond_false]
   refine ZlS eq k z m r ?_
   obtain⟨q,hq,hk⟩:=h
   rcases List.mem_cons.1 hq with rfl | hq
   ·rw[hb] at hk;cases hk
   ·exact⟨q,hq,hk⟩
abbrev eqI:Int->Int->Bool:=fun ka kb:Int=>(ka==kb)
theorem Zrm {K W:Type} (eq:K->K->Bool) (k:K) (v w:W) (hk:eq k k=true):∀l:List (K×W),(∀q∈l,eq k q.1=false)->Zu eq (l++[(k,v)]) k w=l++[(k,w)]
 | [],_=>by
  show(bif eq k k then _ else _)=_
  rw[hk];rfl
 | (a,u) :: r,h=>by
  rw[List.cons_append]
  unfold Zu
  rw[h (a,u) (by simp)]
  simp only[cond_false,List.cons_append]
  rw[Zrm eq k v w hk r fun q hq=>h q (by simp[hq])]
theorem Zvj {K W:Type} (eq:K->K->Bool) (k:K) (z v:W) (hk:eq k k=true) (l m:List (K×W)) (h:∀q∈l,eq k q.1=false):Z5 eq (l++(k,v) :: m) k z=v:=by
 rw[ZkU eq k z _ l h]
 show(bif eq k k then _ else _)=_
 rw[hk];rfl
def tch (d:Zq) (n:Nat):List Int:=tl d (n:Int) 0 99
theorem ZoX {d:Zq} (g:Zn6 d) (n:Nat):ZhL d (n:Int) (tch d n):=Zzd g (n:Int)
theorem ZIT {d:Zq} (hs:Znj d) (hf:d.futures.length<=1000) (hc:Zh8 d=0) (n:Nat):Zd9 d (n:Int)=some (tch d n):=by
 obtain⟨r,h1,h2⟩:=ZAX d hs hf hc (n:Int)
 rw[h1,h2.eq (ZoX (Zv3 hc) n)]
abbrev nt (d:Zq) (n:Nat):Nat:=(tch d n).length
theorem ZD4 {d:Zq} (g:Zd8 d) (n:Nat):nt d n<=16:=Nat.le_trans (ZxL (ZoX g.g n)) g.fl
def cut (d:Zq) (n i:Nat):Int:=if i=0 then 0 else match (tch d n)[i-1]? with | some z=>Zf2 d.futures z | none=>ZgD d.parts (n:Int)
def ZkS (d:Zq) (n k:Nat):List Int:=(List.range k).map fun i=>cut d n (i+1)-cut d n i
def Zau (d:Zq):Nat->Nat
 | 0=>0
 | n+1=>Zau d n+(nt d n+1)
theorem Zjz {d:Zq} (g:Zd8 d):∀n,Zau d n<=17*n
 | 0=>Nat.le_refl _
 | n+1=>by have:=Zjz g n;have:=ZD4 g n;show Zau d n+(nt d n+1)<=_;omega
theorem ZlH {d:Zq}{n i:Nat} (g:Zn6 d) (hi:i<nt d n):∃f,Zy (tch d n) (i:Int)=some (tch d n)[i]/\Zy d.futures (tch d n)[i]=some f/\d.futures[((tch d n)[i]).toNat]? = some f/\f.user=(n:Int)/\f.pos=cut d n (i+1)/\f∈d.futures:=by
 obtain⟨j,f,h1,h2,h3⟩:=(ZoX g n).mem _ |>.1 (List.getElem_mem hi)
 refine⟨f,ZN (List.getElem?_eq_getElem hi),?_,?_,h2,?_,List.mem_of_getElem? h1⟩
 ·rw[h3];exact ZN h1
 ·rw[h3,Int.toNat_natCast];exact h1
 ·unfold cut
  rw[if_neg (by omega),Nat.add_sub_cancel,List.getElem?_eq_getElem hi]
  show _=Zf2 d.futures (tch d n)[i]
  unfold Zf2
  rw[h3,Int.toNat_natCast,h1]
theorem ZGK {d:Zq} (g:Zn6 d) (n i:Nat):0<=cut d n i/\cut d n i<=100:=by
 unfold cut
 split
 ·omega
 ·have wb:0<=ZgD d.parts (n:Int)/\ZgD d.parts (n:Int)<=100:=by
   refine⟨?_,ZnQ g _⟩
   unfold ZgD
   split
   ·rename_i p hp;have:=g.w p (List.mem_of_getElem? hp);omega
   ·omega
  split
  ·rename_i z hz
   obtain⟨j,f,h1,h2,h3⟩:=(ZoX g n).mem z |>.1 (List.mem_of_getElem? hz)
   have:=g.f f (List.mem_of_getElem? h1)
   have:=ZnQ g f.user
   unfold Zf2
   rw[h3,Int.toNat_natCast,h1]
   show 0<=f.pos/\f.pos<=100
   omega
  ·exact wb
theorem ZAk (d:Zq) (n:Nat):cut d n (nt d n+1)=ZgD d.parts (n:Int):=by
 unfold cut
 rw[if_neg (by omega),Nat.add_sub_cancel,List.getElem?_eq_none (Nat.le_refl _)]
theorem Zw3 (d:Zq) (n k:Nat):ZkS d n (k+1)=ZkS d n k++[cut d n (k+1)-cut d n k]:=by unfold ZkS;rw[List.range_succ,List.map_append];rfl
theorem ZtW (d:Zq) (n k:Nat):(ZkS d n k).length=k:=by unfold ZkS;simp
def ZoO (d:Zq) (n:Nat):List Int:=ZkS d n (nt d n+1)
theorem ZAn {d:Zq}{n:Nat} (hn:n<d.parts.length):∃x,Zy d.parts (n:Int)=some x/\x.work=ZgD d.parts (n:Int):=by
 refine⟨d.parts[n],ZN (List.getElem?_eq_getElem hn),?_⟩
 unfold ZgD
 rw[Int.toNat_natCast,List.getElem?_eq_getElem hn]
def Znw (d:Zq) (z:Int):Int:=(Zau d z.toNat:Int)
def Zpe (d:Zq) (z:Int):Int:=(Zau d (z.toNat+1):Int)-1
def ZBw (d:Zq) (f:Zg):Int:=Ziu (fun _ z=>Zf2 d.futures z==f.pos) (fun i _=>Znw d f.user+(i:Int)+1) (-1) 0 (tch d f.user.toNat)
def upto {β:Type} (B:Nat->List β) (k:Nat):List β:=(List.range k).flatMap B
theorem Zgw {β:Type} (B:Nat->List β) (k:Nat):upto B (k+1)=upto B k++B k:=by unfold upto;rw[List.range_succ,List.flatMap_append];simp
theorem ZvY {γ β:Type} (l:List γ) (hl:l.length<=1000) (step:Int×List β->Option ((Int×List β)⊕List β)) (g:γ->β)
  (h1:∀(i:Nat) x s,i<l.length->l[i]? = some x->Nat.ble (s.length+1) lim=true->step ((i:Int),s)=some (.inl (((i+1:Nat):Int),s++[g x])))
  (h2:∀s,step ((l.length:Int),s)=some (.inr s)) (s:List β) (hs:s.length<=1000000):lp step (0,s)=some (s++l.map g):=by
 have key:=(Zm4 l step (fun i s=>((i:Int),s)) (fun _ s x=>s++[g x]) id (fun i s=>s.length<=1000000+i) (fun i x s hi hx hI=>⟨h1 i x s hi hx (Zgn (by omega)),by rw[List.length_append];simp only[List.length_cons,List.length_nil];omega⟩) (fun s _=>h2 s) s (by omega)).1
 have e:∀(l:List γ) (i:Nat) (s:List β),Zfo (fun _ s x=>s++[g x]) i s l=s++l.map g:=by
  intro l
  induction l with
  | nil=>intro i s;simp[Zfo]
  | cons x l ih=>intro i s;show Zfo _ (i+1) (s++[g x]) l=_;rw[ih];simp
 rw[e] at key
 exact key
def Zit (d:Zq) (n k:Nat):List Zi:=(List.range k).map fun j=>⟨((Zau d n+j:Nat):Int),((Zau d n+j+1:Nat):Int)⟩
theorem Zrl (d:Zq) (n k:Nat):Zit d n (k+1)=Zit d n k++[⟨((Zau d n+k:Nat):Int),((Zau d n+k+1:Nat):Int)⟩]:=by unfold Zit;rw[List.range_succ,List.map_append];rfl
theorem Ztp (d:Zq) (n k:Nat):(Zit d n k).length=k:=by unfold Zit;simp
def Zgd (n k:Nat):List Ze:=(List.range k).map fun j:Nat=>⟨(n:Int),(j:Int)⟩
theorem ZvR (n k:Nat):Zgd n (k+1)=Zgd n k++[⟨(n:Int),(k:Int)⟩]:=by unfold Zgd;rw[List.range_succ,List.map_append];rfl
theorem Zrf (n k:Nat):(Zgd n k).length=k:=by unfold Zgd;simp
def ZiR (d:Zq) (k:Nat):List Int:=upto (ZoO d) k
def Zir (d:Zq) (k:Nat):List Zi:=upto (fun n=>Zit d n (nt d n)) k
def Zdt (d:Zq) (k:Nat):List Ze:=upto (fun n=>Zgd n (nt d n+1)) k
theorem ZlM (d:Zq):∀k,(ZiR d k).length=Zau d k
 | 0=>rfl
 | k+1=>by unfold ZiR;rw[Zgw,List.length_append];unfold ZoO;rw[ZtW];show(ZiR d k).length+_=Zau d k+_;rw[ZlM d k]
theorem ZhM (d:Zq):∀k,(Zdt d k).length=Zau d k
 | 0=>rfl
 | k+1=>by unfold Zdt;rw[Zgw,List.length_append,Zrf];show(Zdt d k).length+_=Zau d k+_;rw[ZhM d k]
theorem Zo0 (d:Zq):∀k,(Zir d k).length<=Zau d k
 | 0=>Nat.le_refl _
 | k+1=>by unfold Zir;rw[Zgw,List.length_append,Ztp];have:=Zo0 d k;unfold Zir at this;show _<=Zau d k+(nt d k+1);omega
def ZtO (d:Zq):List Zi:=d.edges.map fun e=>⟨Zpe d e.src,Znw d e.dst⟩
def Zv2 (d:Zq):List Zi:=d.futures.map fun f=>⟨Zpe d f.maker,ZBw d f⟩
def ZDk (d:Zq) (at_:Int) (b:Zr):List Zi:=b.ins.map (fun q=>⟨Zpe d q,at_⟩)++b.outs.map (fun q=>⟨at_,Znw d q⟩)
def ZtU (d:Zq) (i:Nat):Int:=((Zau d d.parts.length+i:Nat):Int)
def ZhA (d:Zq) (k:Nat):List Zi:=upto (fun i=>match d.barriers[i]? with | some b=>ZDk d (ZtU d i) b | none=>[]) k
def Zg6 (k:Nat):List Ze:=(List.range k).map fun i:Nat=>⟨-1,(i:Int)⟩
theorem Zw2 (k:Nat):(Zg6 k).length=k:=by unfold Zg6;simp
theorem Zwe (k:Nat):Zg6 (k+1)=Zg6 k++[⟨-1,(k:Int)⟩]:=by unfold Zg6;rw[List.range_succ,List.map_append];rfl
def ZkX (d:Zq):List Int:=ZiR d d.parts.length++List.replicate d.barriers.length 1
def ZqD (d:Zq):List Zi:=Zir d d.parts.length++ZtO d++Zv2 d
def Zyu (d:Zq):List Zi:=ZqD d++ZhA d d.barriers.length
def Zye (d:Zq):List Ze:=Zdt d d.parts.length++Zg6 d.barriers.length
def Zcn (d:Zq):ZvT:=⟨⟨ZkX d,Zyu d⟩,Zye d⟩
theorem Zsl {d:Zq} (g:Zd8 d):(ZqD d).length<=1000:=by
 unfold ZqD ZtO Zv2
 have h1:=Zo0 d d.parts.length
 have h2:=Zjz g d.parts.length
 have h3:=g.pl
 have h4:=g.el
 have h5:=g.fl
 simp only[List.length_append,List.length_map]
 omega
theorem ZDr {d:Zq} (hz:Zod d) {b:Zr} (hb:b∈d.barriers) (z:Int):(ZDk d z b).length<=40:=by
 have:=hz.i b hb
 unfold ZDk
 simp only[List.length_append,List.length_map]
 omega
theorem ZoP {d:Zq} (hz:Zod d):∀k,(ZhA d k).length<=40*k
 | 0=>Nat.le_refl _
 | k+1=>by
  have ih:=ZoP hz k
  unfold ZhA at ih ⊢
  rw[Zgw,List.length_append]
  split
  ·rename_i b hb
   have:=ZDr hz (List.mem_of_getElem? hb) (ZtU d k)
   omega
  ·simp only[List.length_nil];omega
end Go.Proofs.YtgcfmiajkbbmeaaGreatDoor
