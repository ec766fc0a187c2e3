/- StealOnce: part 4 of 6 of the proof. -/
import Derived.Test.YtgcfmiajkbbmeaaGreatDoorZStealOncec
import Derived.KernelRfl
set_option maxRecDepth 100000
set_option maxHeartbeats 40000000
set_option linter.unusedVariables false
set_option linter.unusedSimpArgs false
namespace Go.Proofs.YtgcfmiajkbbmeaaGreatDoor
open Go Go.Proofs.YtgcfmiajkbbmeaaGreatDoorE
open Go.IntKind (u64 i64 u32 i32 u8)
noncomputable section
abbrev zL (t:Bool) (l:List Int):D:=.list t (List.map Zd l)
structure ZB where
 work:(List Int)
 edges:(List ZZ)
 deriving DecidableEq
abbrev ZHe (x:ZB):D:=(D.agg [(D.list true (List.map Zd x.work)),(D.list true (List.map ZQ x.edges))])
structure Z6 where
 on:(List Int)
 left:(List Int)
 deriving DecidableEq
structure Zi where
 ring:(List Int)
 top:Int
 bottom:Int
 deriving DecidableEq
abbrev ZN (x:Zi):D:=(D.agg [(D.list true (List.map Zd x.ring)),(Zd x.top),(Zd x.bottom)])
structure Zp where
 steal:Bool
 at_:Int
 top:Int
 bottom:Int
 got:Int
 end_:Int
 deriving DecidableEq
abbrev ZR (x:Zp):D:=(D.agg [(D.bool x.steal),(Zd x.at_),(Zd x.top),(Zd x.bottom),(Zd x.got),(Zd x.end_)])
structure Zao where
 crew:Z6
 deques:(List Zi)
 takers:(List Zp)
 from_:(List Int)
 deriving DecidableEq
structure Zce where
 a0:Int
 a1:Int
 deriving DecidableEq
abbrev Zgq (x:Zce):D:=(D.agg [(Zd x.a0),(Zd x.a1)])
def Zt6:ByteArray:=⟨#[0,1,2,2,3,3,3,3,4,4,4,4,4,4,4,4,5,5,5,5,5,5,5,5,5,5,5,5,5,5,5,5,6,6,6,6,6,6,6,6,6,6,6,6,6,6,6,6,6,6,6,6,6,6,6,6,6,6,6,6,6,6,6,6,7,7,7,7,7,7,7,7,7,7,7,7,7,7,7,7,7,7,7,7,7,7,7,7,7,7,7,7,7,7,7,7,7,7,7,7,7,7,7,7,7,7,7,7,7,7,7,7,7,7,7,7,7,7,7,7,7,7,7,7,7,7,7,7,8,8,8,8,8,8,8,8,8,8,8,8,8,8,8,8,8,8,8,8,8,8,8,8,8,8,8,8,8,8,8,8,8,8,8,8,8,8,8,8,8,8,8,8,8,8,8,8,8,8,8,8,8,8,8,8,8,8,8,8,8,8,8,8,8,8,8,8,8,8,8,8,8,8,8,8,8,8,8,8,8,8,8,8,8,8,8,8,8,8,8,8,8,8,8,8,8,8,8,8,8,8,8,8,8,8,8,8,8,8,8,8,8,8,8,8,8,8,8,8,8,8,8,8,8,8,8,8]⟩
def Zee:Option Bool:=some true
def ZiB (a:ZB):Option Bool:=
 bif (decide ((a.work.length:Int)≤70)) then
  bif (decide ((a.edges.length:Int)≤300)) then
   some true
  else
   some false
 else
  some false
def Zdf (a:List Int) (s0:Int×Int):Option ((Int×Int)⊕(Unit⊕(Unit⊕Unit))):=
 bif (decide (s0.2<(a.length:Int))) then
  (Zt a s0.2).bind fun x1=>
  bif (decide (x1<0)) then
   bif (decide (x1<0)) then
    some (.inr (.inl ()))
   else
    some (.inr (.inr (.inl ())))
  else
   bif (decide (s0.1<x1)) then
    bif (decide (x1<0)) then
     some (.inr (.inl ()))
    else
     some (.inr (.inr (.inl ())))
   else
    some (.inl ((w64 (s0.1-x1)),(w64 (s0.2+1))))
 else
  some (.inr (.inr (.inr ())))
def ZgN (a:List Int):Option Bool:=
 (lp (Zdf a) (300,0)).bind fun r2=>
 match r2 with
 | (.inl r2)=>
  some true
 | (.inr (.inl r2))=>
  some false
 | (.inr (.inr r2))=>
  some true
def Ze6 (a:ZB):Option Unit:=
 bif (Nat.ble (List.length a.work) lim) then
  bif (Nat.ble (List.length a.edges) lim) then
   some ()
  else
   none
 else
  none
def ZfY (a:List Int):Option Unit:=
 bif (Nat.ble (List.length a) lim) then
  some ()
 else
  none
def Zdz (a:Int):Option Bool:=
 bif (decide (a<0)) then
  some true
 else
  bif (decide (1000<a)) then
   some true
  else
   some false
def ZC (a:List Int) (b:(Int→Option Bool)) (s0:Int):Option (Int⊕(Int⊕Unit)):=
 bif (decide (s0<(a.length:Int))) then
  (Zt a s0).bind fun x1=>
  (b x1).bind fun x2=>
  bif x2 then
   some (.inr (.inl s0))
  else
   some (.inl (w64 (s0+1)))
 else
  some (.inr (.inr ()))
def ZO (a:List Int) (b:(Int→Option Bool)):Option Int:=
 (lp (ZC a b) 0).bind fun r3=>
 match r3 with
 | (.inl r3)=>
  some r3
 | (.inr r3)=>
  some (-1)
def ZV (a:List Int) (b:(Int→Option Bool)):Option Bool:=
 (ZO a b).bind fun x0=>
 bif (decide (0≤x0)) then
  some true
 else
  some false
def Zf8 (a:Int) (b0:List Int):Option Bool:=
 bif (decide (0≤a)) then
  bif (decide (a<(b0.length:Int))) then
   some true
  else
   some false
 else
  some false
def ZbS (a:List ZZ) (b:ZZ) (s0:Int):Option (Int⊕(Int⊕Unit)):=
 bif (decide (s0<(a.length:Int))) then
  (Zt a s0).bind fun x1=>
  bif ((b.src==x1.src)&&((b.dst==x1.dst)&&true)) then
   some (.inr (.inl s0))
  else
   some (.inl (w64 (s0+1)))
 else
  some (.inr (.inr ()))
def Zdb (a:List ZZ) (b:ZZ):Option Int:=
 (lp (ZbS a b) 0).bind fun r2=>
 match r2 with
 | (.inl r2)=>
  some r2
 | (.inr r2)=>
  some (-1)
def ZbX (a:List ZZ) (b:ZZ):Option Bool:=
 (Zdb a b).bind fun x0=>
 bif (decide (0≤x0)) then
  some true
 else
  some false
def ZfK (a:ZB) (s0:(List Int)×(List Bool)) (s1:Int) (s3:Int):Option (Int⊕(Unit⊕Unit)):=
 bif (decide (s3<(a.edges.length:Int))) then
  (Zt a.edges s3).bind fun x4=>
  bif (x4.dst==s1) then
   (Zt s0.2 x4.src).bind fun x5=>
   bif x5 then
    some (.inl (w64 (s3+1)))
   else
    some (.inr (.inl ()))
  else
   some (.inl (w64 (s3+1)))
 else
  some (.inr (.inr ()))
def Zen (a:ZB) (s0:(List Int)×(List Bool)) (s1:Int):Option (Int⊕(((List Int)×(List Bool))⊕Unit)):=
 bif (decide (s1<(a.work.length:Int))) then
  (Zt s0.2 s1).bind fun x2=>
  bif x2 then
   some (.inl (w64 (s1+1)))
  else
   (lp (ZfK a s0 s1) 0).bind fun r6=>
   match r6 with
   | (.inl r6)=>
    some (.inl (w64 (s1+1)))
   | (.inr r6)=>
    bif (Nat.ble (List.length s0.1+1) lim) then
     some (.inr (.inl ((s0.1++[s1]),(List.set s0.2 s1.toNat true))))
    else
     none
 else
  some (.inr (.inr ()))
def ZfN (a:ZB) (s0:(List Int)×(List Bool)):Option (((List Int)×(List Bool))⊕((List Int)⊕(List Int))):=
 bif (decide ((s0.1.length:Int)<(a.work.length:Int))) then
  (lp (Zen a s0) 0).bind fun r7=>
  match r7 with
  | (.inl r7)=>
   some (.inl (r7.1,r7.2))
  | (.inr r7)=>
   some (.inr (.inl s0.1))
 else
  some (.inr (.inr s0.1))
def Zgw (a:ZB):Option ((List Int)×Bool):=
 bif (decide (0≤(a.work.length:Int))&&decide ((a.work.length:Int)≤lim)&&decide ((a.work.length:Int)==(a.work.length:Int))) then
  (lp (ZfN a) (([]:List Int),(List.replicate (a.work.length:Int).toNat (false:Bool)))).bind fun r8=>
  match r8 with
  | (.inl r8)=>
   some (([]:List Int),false)
  | (.inr r8)=>
   some (r8,true)
 else
  none
def ZeE (a:ZB) (s1:Int):Option (Int⊕(Unit⊕Unit)):=
 bif (decide (s1<(a.edges.length:Int))) then
  (Zt a.edges s1).bind fun x2=>
  (Zf8 x2.src a.work).bind fun x3=>
  bif x3 then
   (Zf8 x2.dst a.work).bind fun x4=>
   bif x4 then
    bif (x2.src==x2.dst) then
     some (.inr (.inl ()))
    else
     bif (decide (0≤s1)) then
      bif (Nat.ble s1.toNat (List.length a.edges)) then
       (ZbX (List.take s1.toNat a.edges) x2).bind fun x5=>
       bif x5 then
        some (.inr (.inl ()))
       else
        some (.inl (w64 (s1+1)))
      else
       none
     else
      none
   else
    some (.inr (.inl ()))
  else
   some (.inr (.inl ()))
 else
  some (.inr (.inr ()))
def ZgG (a:ZB):Option Int:=
 bif (decide (64<(a.work.length:Int))) then
  some 40
 else
  bif (decide (256<(a.edges.length:Int))) then
   some 40
  else
   (ZV a.work (fun z0=>Zdz z0)).bind fun x0=>
   bif x0 then
    some 41
   else
    (lp (ZeE a) 0).bind fun r6=>
    match r6 with
    | (.inl r6)=>
     some 42
    | (.inr r6)=>
     (Zgw a).bind fun x7=>
     bif x7.2 then
      some 0
     else
      some 43
def Zdj (a:Int):Option Bool:=
 bif (decide (a<1)) then
  some true
 else
  bif (decide (1000<a)) then
   some true
  else
   some false
def Zhk (a:ZB) (b:List Int) (c:Int):Option (Bool×Int):=
 (ZgG a).bind fun x0=>
 bif (x0 != 0) then
  some (false,x0)
 else
  bif ((b.length:Int)==(a.work.length:Int)) then
   (ZV b (fun z0=>Zdj z0)).bind fun x1=>
   bif x1 then
    some (false,0)
   else
    bif (decide (1≤c)) then
     bif (decide (c≤8)) then
      some (true,0)
     else
      some (false,0)
    else
     some (false,0)
  else
   some (false,0)
def Zet (a:List Int) (b0:Int):Option Bool:=
 bif ((a.length:Int) != b0) then
  some true
 else
  some false
def Zc6 (a:(List (List Int))) (b:((List Int)→Option Bool)) (s0:Int):Option (Int⊕(Int⊕Unit)):=
 bif (decide (s0<(a.length:Int))) then
  (Zt a s0).bind fun x1=>
  (b x1).bind fun x2=>
  bif x2 then
   some (.inr (.inl s0))
  else
   some (.inl (w64 (s0+1)))
 else
  some (.inr (.inr ()))
def Zcs (a:(List (List Int))) (b:((List Int)→Option Bool)):Option Int:=
 (lp (Zc6 a b) 0).bind fun r3=>
 match r3 with
 | (.inl r3)=>
  some r3
 | (.inr r3)=>
  some (-1)
def Zbv (a:(List (List Int))) (b:((List Int)→Option Bool)):Option Bool:=
 (Zcs a b).bind fun x0=>
 bif (decide (0≤x0)) then
  some true
 else
  some false
def ZcZ (a:List Int) (s0:Int×(List Int)):Option ((Int×(List Int))⊕(List Int)):=
 bif (decide (s0.1<(a.length:Int))) then
  (Zt s0.2 s0.1).bind fun x1=>
  some (.inl ((w64 (s0.1+1)),(List.set s0.2 s0.1.toNat (-1))))
 else
  some (.inr s0.2)
def Zhe (a:List Int):Option (List Int):=
 bif (decide (0≤(a.length:Int))&&decide ((a.length:Int)≤lim)&&decide ((a.length:Int)==(a.length:Int))) then
  bif (decide (0≤(a.length:Int))&&decide ((a.length:Int)≤lim)&&decide ((a.length:Int)==(a.length:Int))) then
   bif (decide (0≤(a.length:Int))&&decide ((a.length:Int)≤lim)&&decide ((a.length:Int)==(a.length:Int))) then
    (lp (ZcZ a) (0,(List.replicate (a.length:Int).toNat (0:Int)))).bind fun r2=>
    some r2
   else
    none
  else
   none
 else
  none
def Zb9 (a:List Int) (b:Int) (s0:Int):Option (Int⊕(Int⊕Unit)):=
 bif (decide (s0<(a.length:Int))) then
  (Zt a s0).bind fun x1=>
  bif (b==x1) then
   some (.inr (.inl s0))
  else
   some (.inl (w64 (s0+1)))
 else
  some (.inr (.inr ()))
def ZdA (a:List Int) (b:Int):Option Int:=
 (lp (Zb9 a b) 0).bind fun r2=>
 match r2 with
 | (.inl r2)=>
  some r2
 | (.inr r2)=>
  some (-1)
def Zak (a:List Int) (b:Int):Option Bool:=
 (ZdA a b).bind fun x0=>
 bif (decide (0≤x0)) then
  some true
 else
  some false
def ZhU (a3:List Int) (b:Int) (c:Int):Option Bool:=
 (Zt a3 b).bind fun x0=>
 bif (decide (0≤x0)) then
  bif (decide (x0≤c)) then
   some true
  else
   some false
 else
  some false
def Zdh (a:ZZ) (b0:Int) (c3:List Int) (d0:Int):Option Bool:=
 bif (a.dst==b0) then
  (ZhU c3 a.src d0).bind fun x0=>
  bif x0 then
   some false
  else
   some true
 else
  some false
def ZaA (a:List ZZ) (b:(ZZ→Option Bool)) (s0:Int):Option (Int⊕(Int⊕Unit)):=
 bif (decide (s0<(a.length:Int))) then
  (Zt a s0).bind fun x1=>
  (b x1).bind fun x2=>
  bif x2 then
   some (.inr (.inl s0))
  else
   some (.inl (w64 (s0+1)))
 else
  some (.inr (.inr ()))
def Zbo (a:List ZZ) (b:(ZZ→Option Bool)):Option Int:=
 (lp (ZaA a b) 0).bind fun r3=>
 match r3 with
 | (.inl r3)=>
  some r3
 | (.inr r3)=>
  some (-1)
def Zai (a:List ZZ) (b:(ZZ→Option Bool)):Option Bool:=
 (Zbo a b).bind fun x0=>
 bif (decide (0≤x0)) then
  some true
 else
  some false
def Zgl (a3:List Int) (b:ZB) (c:Int) (d:Int):Option Bool:=
 (Zai b.edges (fun z0=>Zdh z0 c a3 d)).bind fun x0=>
 bif x0 then
  some false
 else
  some true
def Ziq (a0:List Int) (a1:List Int) (a2:List Zce) (a3:List Int) (b:ZB) (c:List Int) (d:Int) (e:Int):Option Int:=
 (Zt c e).bind fun x0=>
 bif (decide (x0<(-1))) then
  some 101
 else
  bif (decide ((a0.length:Int)≤x0)) then
   some 101
  else
   bif (decide (0≤e)) then
    bif (Nat.ble e.toNat (List.length c)) then
     (Zak (List.take e.toNat c) x0).bind fun x1=>
     bif x1 then
      some 102
     else
      (Zt a1 x0).bind fun x2=>
      (Zt a0 x0).bind fun x3=>
      bif (decide (x3≤x2)) then
       some 105
      else
       bif (decide (0<x2)) then
        (Zt a2 x0).bind fun x4=>
        bif (!((x4.a0==(w64 (d-1)))&&((x4.a1==e)&&true))) then
         some 104
        else
         bif (x2==0) then
          (Zgl a3 b x0 d).bind fun x5=>
          bif x5 then
           some 0
          else
           some 103
         else
          some 0
       else
        bif (x2==0) then
         (Zgl a3 b x0 d).bind fun x6=>
         bif x6 then
          some 0
         else
          some 103
        else
         some 0
    else
     none
   else
    none
def ZlD (b:Int) (c:List Int):Option Unit:=
 some ()
def Zij (b:Int) (c:Int) (d:Int) (m0_0:List Int) (m1_0:List Int) (m2_0:List Zce) (m3_0:List Int):Option ((List Int)×(List Int)):=
 (Zt m1_0 b).bind fun x0=>
 (Zt m2_0 b).bind fun x1=>
 (Zt (List.set m1_0 b.toNat (w64 (x0+1))) b).bind fun x2=>
 (Zt m0_0 b).bind fun x3=>
 bif (x2==x3) then
  (Zt m3_0 b).bind fun x4=>
  some ((List.set m1_0 b.toNat (w64 (x0+1))),(List.set m3_0 b.toNat (w64 (c+1))))
 else
  some ((List.set m1_0 b.toNat (w64 (x0+1))),m3_0)
def Zi4 (a:ZB) (b:List Int) (s3:Int×Int×(List Int)×(List Zce)×(List Int)) (x4:List Int) (s5:Int×Int):Option ((Int×Int)⊕(Int⊕Int)):=
 bif (decide (s5.2<(x4.length:Int))) then
  (Zt x4 s5.2).bind fun x6=>
  bif (x6==(-1)) then
   some (.inl (s5.1,(w64 (s5.2+1))))
  else
   (Ziq b s3.2.2.1 s3.2.2.2.1 s3.2.2.2.2 a x4 s3.2.1 s5.2).bind fun x7=>
   bif (x7 != 0) then
    some (.inr (.inl x7))
   else
    some (.inl (x7,(w64 (s5.2+1))))
 else
  some (.inr (.inr s5.1))
def Zi3 (b:List Int) (s3:Int×Int×(List Int)×(List Zce)×(List Int)) (x4:List Int) (s10:Int×(List Int)×(List Zce)×(List Int)):Option ((Int×(List Int)×(List Zce)×(List Int))⊕((List Int)×(List Zce)×(List Int))):=
 bif (decide (s10.1<(x4.length:Int))) then
  (Zt x4 s10.1).bind fun x11=>
  bif (x11 != (-1)) then
   (Zij x11 s3.2.1 s10.1 b s10.2.1 s10.2.2.1 s10.2.2.2).bind fun x12=>
   some (.inl ((w64 (s10.1+1)),x12.1,(List.set s10.2.2.1 x11.toNat (Zce.mk s3.2.1 s10.1)),x12.2))
  else
   some (.inl ((w64 (s10.1+1)),s10.2.1,s10.2.2.1,s10.2.2.2))
 else
  some (.inr (s10.2.1,s10.2.2.1,s10.2.2.2))
def Zi0 (a:ZB) (b:List Int) (d:(List (List Int))) (s3:Int×Int×(List Int)×(List Zce)×(List Int)):Option ((Int×Int×(List Int)×(List Zce)×(List Int))⊕(Int×(List Int)×(List Zce)×(List Int))):=
 bif (decide (s3.2.1<(d.length:Int))) then
  (Zt d s3.2.1).bind fun x4=>
  (lp (Zi4 a b s3 x4) (s3.1,0)).bind fun r8=>
  match r8 with
  | (.inl r8)=>
   some (.inr (r8,s3.2.2.1,s3.2.2.2.1,s3.2.2.2.2))
  | (.inr r8)=>
   (ZlD s3.2.1 x4).bind fun x9=>
   (lp (Zi3 b s3 x4) (0,s3.2.2.1,s3.2.2.2.1,s3.2.2.2.2)).bind fun r13=>
   some (.inl (r8,(w64 (s3.2.1+1)),r13.1,r13.2.1,r13.2.2))
 else
  some (.inr (s3.1,s3.2.2.1,s3.2.2.2.1,s3.2.2.2.2))
def ZjB (a:ZB) (b:List Int) (c:Int) (d:(List (List Int))):Option (Int⊕(Int×(List Int)×(List Zce)×(List Int))):=
 (Zhk a b c).bind fun x0=>
 bif x0.1 then
  bif (x0.2 != 0) then
   some (.inl x0.2)
  else
   bif (decide (4096<(d.length:Int))) then
    some (.inl 100)
   else
    (Zbv d (fun z0=>Zet z0 c)).bind fun x1=>
    bif x1 then
     some (.inl 100)
    else
     (Zhe b).bind fun x2=>
     (lp (Zi0 a b d) (x0.2,0,(List.replicate (b.length:Int).toNat (0:Int)),(List.replicate (b.length:Int).toNat ((Zce.mk 0 0):Zce)),x2)).bind fun r14=>
     some (.inr (r14.1,r14.2.1,r14.2.2.1,r14.2.2.2))
 else
  bif (x0.2 != 0) then
   some (.inl x0.2)
  else
   some (.inl 100)
def Zhq (a:ZB) (b:List Int) (c:Int) (d:(List (List Int))):Option Int:=
 (ZjB a b c d).bind fun x0=>
 match x0 with
 | (.inl x0)=>
  some x0
 | (.inr x0)=>
  some x0.1
def Z9 (a:List Int):Option Unit:=
 bif (Nat.ble (List.length a) lim) then
  some ()
 else
  none
def Zfi (c:Int) (s2:Int×(List Int)):Option ((Int×(List Int))⊕(List Int)):=
 bif (decide (s2.1<c)) then
  bif (Nat.ble (List.length s2.2+1) lim) then
   some (.inl ((w64 (s2.1+1)),(s2.2++[(-1)])))
  else
   none
 else
  some (.inr s2.2)
def Zj4 (a:ZB) (b:List Int) (c:Int):Option (Int⊕(List Int)):=
 (Zhq a b c ([]:List (List Int))).bind fun x0=>
 bif (x0 != 0) then
  some (.inl x0)
 else
  (Z9 b).bind fun x1=>
  (lp (Zfi c) (0,([]:List Int))).bind fun r3=>
  some (.inr r3)
def ZhD (a:Int):Option Int:=
 bif (decide (a<0)) then
  some 10
 else
  bif (decide (1099511627775<a)) then
   some 11
  else
   some 0
def Zc2 (a:Int):Option Int:=
 some (i64.wrap (ZCq (w64 (u64.wrap ((u64.wrap ((u64.wrap ((u64.wrap (Zg (u64.wrap ((Int.fdiv (u64.wrap ((u64.wrap (Zg (Int.fdiv (u64.wrap ((u64.wrap (Zg (Int.fdiv a (2 ^ 1)) &&& Zg 6148914691236517205).toNat)+(u64.wrap (Zg a &&& Zg 6148914691236517205).toNat))) (2 ^ 2)) &&& Zg 3689348814741910323).toNat)+(u64.wrap (Zg (u64.wrap ((u64.wrap (Zg (Int.fdiv a (2 ^ 1)) &&& Zg 6148914691236517205).toNat)+(u64.wrap (Zg a &&& Zg 6148914691236517205).toNat))) &&& Zg 3689348814741910323).toNat))) (2 ^ 4))+(u64.wrap ((u64.wrap (Zg (Int.fdiv (u64.wrap ((u64.wrap (Zg (Int.fdiv a (2 ^ 1)) &&& Zg 6148914691236517205).toNat)+(u64.wrap (Zg a &&& Zg 6148914691236517205).toNat))) (2 ^ 2)) &&& Zg 3689348814741910323).toNat)+(u64.wrap (Zg (u64.wrap ((u64.wrap (Zg (Int.fdiv a (2 ^ 1)) &&& Zg 6148914691236517205).toNat)+(u64.wrap (Zg a &&& Zg 6148914691236517205).toNat))) &&& Zg 3689348814741910323).toNat))))) &&& Zg 1085102592571150095).toNat)+(Int.fdiv (u64.wrap (Zg (u64.wrap ((Int.fdiv (u64.wrap ((u64.wrap (Zg (Int.fdiv (u64.wrap ((u64.wrap (Zg (Int.fdiv a (2 ^ 1)) &&& Zg 6148914691236517205).toNat)+(u64.wrap (Zg a &&& Zg 6148914691236517205).toNat))) (2 ^ 2)) &&& Zg 3689348814741910323).toNat)+(u64.wrap (Zg (u64.wrap ((u64.wrap (Zg (Int.fdiv a (2 ^ 1)) &&& Zg 6148914691236517205).toNat)+(u64.wrap (Zg a &&& Zg 6148914691236517205).toNat))) &&& Zg 3689348814741910323).toNat))) (2 ^ 4))+(u64.wrap ((u64.wrap (Zg (Int.fdiv (u64.wrap ((u64.wrap (Zg (Int.fdiv a (2 ^ 1)) &&& Zg 6148914691236517205).toNat)+(u64.wrap (Zg a &&& Zg 6148914691236517205).toNat))) (2 ^ 2)) &&& Zg 3689348814741910323).toNat)+(u64.wrap (Zg (u64.wrap ((u64.wrap (Zg (Int.fdiv a (2 ^ 1)) &&& Zg 6148914691236517205).toNat)+(u64.wrap (Zg a &&& Zg 6148914691236517205).toNat))) &&& Zg 3689348814741910323).toNat))))) &&& Zg 1085102592571150095).toNat) (2 ^ 8))))+(Int.fdiv (u64.wrap ((u64.wrap (Zg (u64.wrap ((Int.fdiv (u64.wrap ((u64.wrap (Zg (Int.fdiv (u64.wrap ((u64.wrap (Zg (Int.fdiv a (2 ^ 1)) &&& Zg 6148914691236517205).toNat)+(u64.wrap (Zg a &&& Zg 6148914691236517205).toNat))) (2 ^ 2)) &&& Zg 3689348814741910323).toNat)+(u64.wrap (Zg (u64.wrap ((u64.wrap (Zg (Int.fdiv a (2 ^ 1)) &&& Zg 6148914691236517205).toNat)+(u64.wrap (Zg a &&& Zg 6148914691236517205).toNat))) &&& Zg 3689348814741910323).toNat))) (2 ^ 4))+(u64.wrap ((u64.wrap (Zg (Int.fdiv (u64.wrap ((u64.wrap (Zg (Int.fdiv a (2 ^ 1)) &&& Zg 6148914691236517205).toNat)+(u64.wrap (Zg a &&& Zg 6148914691236517205).toNat))) (2 ^ 2)) &&& Zg 3689348814741910323).toNat)+(u64.wrap (Zg (u64.wrap ((u64.wrap (Zg (Int.fdiv a (2 ^ 1)) &&& Zg 6148914691236517205).toNat)+(u64.wrap (Zg a &&& Zg 6148914691236517205).toNat))) &&& Zg 3689348814741910323).toNat))))) &&& Zg 1085102592571150095).toNat)+(Int.fdiv (u64.wrap (Zg (u64.wrap ((Int.fdiv (u64.wrap ((u64.wrap (Zg (Int.fdiv (u64.wrap ((u64.wrap (Zg (Int.fdiv a (2 ^ 1)) &&& Zg 6148914691236517205).toNat)+(u64.wrap (Zg a &&& Zg 6148914691236517205).toNat))) (2 ^ 2)) &&& Zg 3689348814741910323).toNat)+(u64.wrap (Zg (u64.wrap ((u64.wrap (Zg (Int.fdiv a (2 ^ 1)) &&& Zg 6148914691236517205).toNat)+(u64.wrap (Zg a &&& Zg 6148914691236517205).toNat))) &&& Zg 3689348814741910323).toNat))) (2 ^ 4))+(u64.wrap ((u64.wrap (Zg (Int.fdiv (u64.wrap ((u64.wrap (Zg (Int.fdiv a (2 ^ 1)) &&& Zg 6148914691236517205).toNat)+(u64.wrap (Zg a &&& Zg 6148914691236517205).toNat))) (2 ^ 2)) &&& Zg 3689348814741910323).toNat)+(u64.wrap (Zg (u64.wrap ((u64.wrap (Zg (Int.fdiv a (2 ^ 1)) &&& Zg 6148914691236517205).toNat)+(u64.wrap (Zg a &&& Zg 6148914691236517205).toNat))) &&& Zg 3689348814741910323).toNat))))) &&& Zg 1085102592571150095).toNat) (2 ^ 8)))) (2 ^ 16))))+(Int.fdiv (u64.wrap ((u64.wrap ((u64.wrap (Zg (u64.wrap ((Int.fdiv (u64.wrap ((u64.wrap (Zg (Int.fdiv (u64.wrap ((u64.wrap (Zg (Int.fdiv a (2 ^ 1)) &&& Zg 6148914691236517205).toNat)+(u64.wrap (Zg a &&& Zg 6148914691236517205).toNat))) (2 ^ 2)) &&& Zg 3689348814741910323).toNat)+(u64.wrap (Zg (u64.wrap ((u64.wrap (Zg (Int.fdiv a (2 ^ 1)) &&& Zg 6148914691236517205).toNat)+(u64.wrap (Zg a &&& Zg 6148914691236517205).toNat))) &&& Zg 3689348814741910323).toNat))) (2 ^ 4))+(u64.wrap ((u64.wrap (Zg (Int.fdiv (u64.wrap ((u64.wrap (Zg (Int.fdiv a (2 ^ 1)) &&& Zg 6148914691236517205).toNat)+(u64.wrap (Zg a &&& Zg 6148914691236517205).toNat))) (2 ^ 2)) &&& Zg 3689348814741910323).toNat)+(u64.wrap (Zg (u64.wrap ((u64.wrap (Zg (Int.fdiv a (2 ^ 1)) &&& Zg 6148914691236517205).toNat)+(u64.wrap (Zg a &&& Zg 6148914691236517205).toNat))) &&& Zg 3689348814741910323).toNat))))) &&& Zg 1085102592571150095).toNat)+(Int.fdiv (u64.wrap (Zg (u64.wrap ((Int.fdiv (u64.wrap ((u64.wrap (Zg (Int.fdiv (u64.wrap ((u64.wrap (Zg (Int.fdiv a (2 ^ 1)) &&& Zg 6148914691236517205).toNat)+(u64.wrap (Zg a &&& Zg 6148914691236517205).toNat))) (2 ^ 2)) &&& Zg 3689348814741910323).toNat)+(u64.wrap (Zg (u64.wrap ((u64.wrap (Zg (Int.fdiv a (2 ^ 1)) &&& Zg 6148914691236517205).toNat)+(u64.wrap (Zg a &&& Zg 6148914691236517205).toNat))) &&& Zg 3689348814741910323).toNat))) (2 ^ 4))+(u64.wrap ((u64.wrap (Zg (Int.fdiv (u64.wrap ((u64.wrap (Zg (Int.fdiv a (2 ^ 1)) &&& Zg 6148914691236517205).toNat)+(u64.wrap (Zg a &&& Zg 6148914691236517205).toNat))) (2 ^ 2)) &&& Zg 3689348814741910323).toNat)+(u64.wrap (Zg (u64.wrap ((u64.wrap (Zg (Int.fdiv a (2 ^ 1)) &&& Zg 6148914691236517205).toNat)+(u64.wrap (Zg a &&& Zg 6148914691236517205).toNat))) &&& Zg 3689348814741910323).toNat))))) &&& Zg 1085102592571150095).toNat) (2 ^ 8))))+(Int.fdiv (u64.wrap ((u64.wrap (Zg (u64.wrap ((Int.fdiv (u64.wrap ((u64.wrap (Zg (Int.fdiv (u64.wrap ((u64.wrap (Zg (Int.fdiv a (2 ^ 1)) &&& Zg 6148914691236517205).toNat)+(u64.wrap (Zg a &&& Zg 6148914691236517205).toNat))) (2 ^ 2)) &&& Zg 3689348814741910323).toNat)+(u64.wrap (Zg (u64.wrap ((u64.wrap (Zg (Int.fdiv a (2 ^ 1)) &&& Zg 6148914691236517205).toNat)+(u64.wrap (Zg a &&& Zg 6148914691236517205).toNat))) &&& Zg 3689348814741910323).toNat))) (2 ^ 4))+(u64.wrap ((u64.wrap (Zg (Int.fdiv (u64.wrap ((u64.wrap (Zg (Int.fdiv a (2 ^ 1)) &&& Zg 6148914691236517205).toNat)+(u64.wrap (Zg a &&& Zg 6148914691236517205).toNat))) (2 ^ 2)) &&& Zg 3689348814741910323).toNat)+(u64.wrap (Zg (u64.wrap ((u64.wrap (Zg (Int.fdiv a (2 ^ 1)) &&& Zg 6148914691236517205).toNat)+(u64.wrap (Zg a &&& Zg 6148914691236517205).toNat))) &&& Zg 3689348814741910323).toNat))))) &&& Zg 1085102592571150095).toNat)+(Int.fdiv (u64.wrap (Zg (u64.wrap ((Int.fdiv (u64.wrap ((u64.wrap (Zg (Int.fdiv (u64.wrap ((u64.wrap (Zg (Int.fdiv a (2 ^ 1)) &&& Zg 6148914691236517205).toNat)+(u64.wrap (Zg a &&& Zg 6148914691236517205).toNat))) (2 ^ 2)) &&& Zg 3689348814741910323).toNat)+(u64.wrap (Zg (u64.wrap ((u64.wrap (Zg (Int.fdiv a (2 ^ 1)) &&& Zg 6148914691236517205).toNat)+(u64.wrap (Zg a &&& Zg 6148914691236517205).toNat))) &&& Zg 3689348814741910323).toNat))) (2 ^ 4))+(u64.wrap ((u64.wrap (Zg (Int.fdiv (u64.wrap ((u64.wrap (Zg (Int.fdiv a (2 ^ 1)) &&& Zg 6148914691236517205).toNat)+(u64.wrap (Zg a &&& Zg 6148914691236517205).toNat))) (2 ^ 2)) &&& Zg 3689348814741910323).toNat)+(u64.wrap (Zg (u64.wrap ((u64.wrap (Zg (Int.fdiv a (2 ^ 1)) &&& Zg 6148914691236517205).toNat)+(u64.wrap (Zg a &&& Zg 6148914691236517205).toNat))) &&& Zg 3689348814741910323).toNat))))) &&& Zg 1085102592571150095).toNat) (2 ^ 8)))) (2 ^ 16)))) (2 ^ 32))))) &&& ZCq 127).toNat)
def Zdm (a:Int):Option Int:=
 (Zc2 a).bind fun x0=>
 some x0
def ZtW:List Int:=[0,1,56,2,57,49,28,3,61,58,42,50,38,29,17,4,62,47,59,36,45,43,51,22,53,39,33,30,24,18,12,5,63,55,48,27,60,41,37,16,46,35,44,21,52,32,23,11,54,26,40,15,34,20,31,10,25,14,19,9,13,8,7,6]
def Zd7 (a:Int):Option Int:=some (bif a==0 then 64 else w64 (ZtW.getD (Int.fdiv (u64.wrap ((u64.wrap (Zg a &&& Zg (u64.wrap (0-a))).toNat)*285870213051353865)) (2 ^ (min (Int.toNat 58) u64.bits))).toNat 0))
def Zdl (a:Int):Option Int:=
 (Zd7 a).bind fun x0=>
 some x0
def Zik (a:Int):Option (Int×Bool):=
 (ZhD a).bind fun x0=>
 bif (x0 != 0) then
  some (0,false)
 else
  (Zdm (u64.wrap a)).bind fun x1=>
  bif (x1 != 1) then
   some (0,false)
  else
   (Zdl (u64.wrap a)).bind fun x2=>
   some (x2,true)
def ZiT (a:Int):Option (Zi×Int):=
 (Zik a).bind fun x0=>
 bif x0.2 then
  bif (decide (64<a)) then
   some ((Zi.mk ([]:List Int) 0 0),120)
  else
   bif (decide (0≤a)&&decide (a≤lim)&&decide (a==a)) then
    some ((Zi.mk (List.replicate a.toNat (0:Int)) 0 0),0)
   else
    none
 else
  some ((Zi.mk ([]:List Int) 0 0),120)
def ZdC (a:Int):Option Bool:=
 bif (decide (a<0)) then
  some true
 else
  bif (decide (1000<a)) then
   some true
  else
   some false
def Ze4 (a:Z6) (b:Int):Option Bool:=
 (Zt a.left b).bind fun x0=>
 bif (x0==0) then
  some true
 else
  some false
def Zfm (a:ZZ) (b0:Int) (c0:List Int) (c1:List Int):Option Bool:=
 bif (a.dst==b0) then
  (Ze4 (Z6.mk c0 c1) a.src).bind fun x0=>
  bif x0 then
   some false
  else
   some true
 else
  some false
def ZgD (a:ZB) (b:Z6) (c:Int):Option Bool:=
 (Zai a.edges (fun z0=>Zfm z0 c b.on b.left)).bind fun x0=>
 bif x0 then
  some false
 else
  some true
def ZeV (a:ZB) (b:Z6) (s1:Int):Option (Int⊕(Unit⊕Unit)):=
 bif (decide (s1<(b.on.length:Int))) then
  (Zt b.on s1).bind fun x2=>
  bif (x2==(-1)) then
   some (.inl (w64 (s1+1)))
  else
   bif (decide (x2<0)) then
    some (.inr (.inl ()))
   else
    bif (decide ((b.left.length:Int)≤x2)) then
     some (.inr (.inl ()))
    else
     (Ze4 b x2).bind fun x3=>
     bif x3 then
      some (.inr (.inl ()))
     else
      bif (decide (0≤s1)) then
       bif (Nat.ble s1.toNat (List.length b.on)) then
        (Zak (List.take s1.toNat b.on) x2).bind fun x4=>
        bif x4 then
         some (.inr (.inl ()))
        else
         (ZgD a b x2).bind fun x5=>
         bif x5 then
          some (.inl (w64 (s1+1)))
         else
          some (.inr (.inl ()))
       else
        none
      else
       none
 else
  some (.inr (.inr ()))
def Ze0 (a:ZB) (b:Z6) (s7:Int):Option (Int⊕(Unit⊕Unit)):=
 bif (decide (s7<(b.left.length:Int))) then
  (Ze4 b s7).bind fun x8=>
  bif x8 then
   (ZgD a b s7).bind fun x9=>
   bif x9 then
    some (.inl (w64 (s7+1)))
   else
    some (.inr (.inl ()))
  else
   some (.inl (w64 (s7+1)))
 else
  some (.inr (.inr ()))
def ZhW (a:ZB) (b:Z6):Option Bool:=
 bif (decide ((b.on.length:Int)<1)) then
  some false
 else
  bif (decide (8<(b.on.length:Int))) then
   some false
  else
   bif ((b.left.length:Int) != (a.work.length:Int)) then
    some false
   else
    (ZV b.left (fun z0=>ZdC z0)).bind fun x0=>
    bif x0 then
     some false
    else
     (lp (ZeV a b) 0).bind fun r6=>
     match r6 with
     | (.inl r6)=>
      some false
     | (.inr r6)=>
      (lp (Ze0 a b) 0).bind fun r10=>
      match r10 with
      | (.inl r10)=>
       some false
      | (.inr r10)=>
       some true
def Zf1 (a:ZB) (b:Z6):Option Int:=
 (ZgG a).bind fun x0=>
 bif (x0==0) then
  (ZhW a b).bind fun x1=>
  bif x1 then
   some x0
  else
   some 110
 else
  some x0
def ZeS (a:ZB) (b:Z6) (s0:Int×(List Int)):Option ((Int×(List Int))⊕(List Int)):=
 bif (decide (s0.1<(b.left.length:Int))) then
  (Ze4 b s0.1).bind fun x1=>
  bif x1 then
   some (.inl ((w64 (s0.1+1)),s0.2))
  else
   (Zak b.on s0.1).bind fun x2=>
   bif x2 then
    some (.inl ((w64 (s0.1+1)),s0.2))
   else
    (ZgD a b s0.1).bind fun x3=>
    bif x3 then
     bif (Nat.ble (List.length s0.2+1) lim) then
      some (.inl ((w64 (s0.1+1)),(s0.2++[s0.1])))
     else
      none
    else
     some (.inl ((w64 (s0.1+1)),s0.2))
 else
  some (.inr s0.2)
def Zjx (a:ZB) (b:Z6):Option (List Int):=
 (lp (ZeS a b) (0,([]:List Int))).bind fun r4=>
 some r4
def Zfd (a:ZB) (b:Z6):Option (List Int):=
 (Zf1 a b).bind fun x0=>
 bif (x0 != 0) then
  some ([]:List Int)
 else
  (Zjx a b).bind fun x1=>
  some x1
def Zdy (a:Zi):Option Int:=
 (Zik (a.ring.length:Int)).bind fun x0=>
 bif x0.2 then
  bif (decide (64<(a.ring.length:Int))) then
   some 120
  else
   (ZhD a.top).bind fun x1=>
   bif (x1 != 0) then
    some 120
   else
    bif (decide (a.bottom<(w64 (a.top-1)))) then
     some 120
    else
     bif (decide ((w64 (a.top+(a.ring.length:Int)))<a.bottom)) then
      some 120
     else
      some 0
 else
  some 120
def ZhE (a:Zi):Option Unit:=
 (Z9 a.ring).bind fun x0=>
 some ()
def Zeb (a:Zi) (b:Int):Option Int:=
 bif ((a.ring.length:Int)==0) then
  none
 else
  some (Int.tmod (bif decide (b<0) then 0 else b) (a.ring.length:Int))
def Zjv (a:Zi) (b:Int):Option (Zi×Int):=
 (Zdy a).bind fun x0=>
 bif (x0 != 0) then
  some ((Zi.mk ([]:List Int) 0 0),x0)
 else
  bif (decide (a.bottom<a.top)) then
   some ((Zi.mk ([]:List Int) 0 0),121)
  else
   bif ((w64 (a.bottom-a.top))==(a.ring.length:Int)) then
    some ((Zi.mk ([]:List Int) 0 0),121)
   else
    (ZhE a).bind fun x1=>
    (Zeb a a.bottom).bind fun x2=>
    (Zt a.ring x2).bind fun x3=>
    some ((Zi.mk (List.set a.ring x2.toNat b) a.top (w64 (a.bottom+1))),0)
def ZdQ (b:Int) (c:Int) (m3_0:List Zi):Option ((List Zi)⊕(List Zi)):=
 (Zt m3_0 b).bind fun x0=>
 (Zjv x0 c).bind fun x1=>
 bif (x1.2==0) then
  bif (x1.2==0) then
   some (.inl (List.set m3_0 b.toNat x1.1))
  else
   some (.inr (List.set m3_0 b.toNat x1.1))
 else
  bif (x1.2==0) then
   some (.inl m3_0)
  else
   some (.inr m3_0)
def ZeA (c:Int) (s1:Int×(List Zi)):Option ((Int×(List Zi))⊕(List Zi)):=
 bif (decide (s1.1<c)) then
  (ZiT 64).bind fun x2=>
  bif (Nat.ble (List.length s1.2+1) lim) then
   some (.inl ((w64 (s1.1+1)),(s1.2++[x2.1])))
  else
   none
 else
  some (.inr s1.2)
def Zeu (c:Int) (x4:List Int) (s5:Int×(List Zi)):Option ((Int×(List Zi))⊕(List Zi)):=
 bif (decide (s5.1<(x4.length:Int))) then
  (Zt x4 s5.1).bind fun x6=>
  bif (c==0) then
   none
  else
   (ZdQ (Int.tmod x6 c) x6 s5.2).bind fun x7=>
   match x7 with
   | (.inl x7)=>
    some (.inl ((w64 (s5.1+1)),x7))
   | (.inr x7)=>
    some (.inl ((w64 (s5.1+1)),x7))
 else
  some (.inr s5.2)
def ZgP (a:ZB) (b:List Int) (c:Int):Option (Int⊕((List Int)×(List Zi))):=
 (Zj4 a b c).bind fun x0=>
 match x0 with
 | (.inl x0)=>
  bif (x0 != 0) then
   some (.inl x0)
  else
   none
 | (.inr x0)=>
  bif (decide (0≤c)&&decide (c≤lim)&&decide (c==c)) then
   bif (decide (0≤c)&&decide (c≤lim)&&decide (c==c)) then
    (lp (ZeA c) (0,([]:List Zi))).bind fun r3=>
    (Zfd a (Z6.mk x0 b)).bind fun x4=>
    (lp (Zeu c x4) (0,r3)).bind fun r8=>
    some (.inr (x0,r8))
   else
    none
  else
   none
def Zka (a:Z6):Option Unit:=
 bif (Nat.ble (List.length a.on) lim) then
  bif (Nat.ble (List.length a.left) lim) then
   some ()
  else
   none
 else
  none
def Zkc (a:Zi):Option Zi:=
 bif (Nat.ble (List.length a.ring) lim) then
  some a
 else
  none
def Zes (a:Zao) (s1:Int×(List Zi)):Option ((Int×(List Zi))⊕(List Zi)):=
 bif (decide (s1.1<(a.deques.length:Int))) then
  (Zt a.deques s1.1).bind fun x2=>
  (Zkc x2).bind fun x3=>
  bif (Nat.ble (List.length s1.2+1) lim) then
   some (.inl ((w64 (s1.1+1)),(s1.2++[x3])))
  else
   none
 else
  some (.inr s1.2)
def Zef (a:Zao):Option (List Zi):=
 (Zka a.crew).bind fun x0=>
 bif (Nat.ble (List.length a.takers) lim) then
  bif (Nat.ble (List.length a.from_) lim) then
   (lp (Zes a) (0,([]:List Zi))).bind fun r4=>
   some r4
  else
   none
 else
  none
def Zek (a:Zao) (s0:Int):Option (Int⊕(Unit⊕Unit)):=
 bif (decide (s0<(a.deques.length:Int))) then
  (Zt a.deques s0).bind fun x1=>
  (Zt a.takers s0).bind fun x2=>
  (Zt a.from_ s0).bind fun x3=>
  (Zdy x1).bind fun x4=>
  bif (x4 != 0) then
   some (.inr (.inl ()))
  else
   bif ((x1.ring.length:Int) != 64) then
    some (.inr (.inl ()))
   else
    bif (x2.end_ != 0) then
     some (.inr (.inl ()))
    else
     bif (decide (x3<0)) then
      some (.inr (.inl ()))
     else
      bif (decide ((a.crew.on.length:Int)≤x3)) then
       some (.inr (.inl ()))
      else
       bif x2.steal then
        bif (x3 != 0) then
         (Zt a.crew.on s0).bind fun x5=>
         bif (x5 != (-1)) then
          bif (!((x2.steal==false)&&((x2.at_==0)&&((x2.top==0)&&((x2.bottom==0)&&((x2.got==0)&&((x2.end_==0)&&true))))))) then
           some (.inr (.inl ()))
          else
           bif (x3 != 0) then
            some (.inr (.inl ()))
           else
            some (.inl (w64 (s0+1)))
         else
          some (.inl (w64 (s0+1)))
        else
         some (.inr (.inl ()))
       else
        bif (x3 != 0) then
         some (.inr (.inl ()))
        else
         (Zt a.crew.on s0).bind fun x6=>
         bif (x6 != (-1)) then
          bif (!((x2.steal==false)&&((x2.at_==0)&&((x2.top==0)&&((x2.bottom==0)&&((x2.got==0)&&((x2.end_==0)&&true))))))) then
           some (.inr (.inl ()))
          else
           bif (x3 != 0) then
            some (.inr (.inl ()))
           else
            some (.inl (w64 (s0+1)))
         else
          some (.inl (w64 (s0+1)))
 else
  some (.inr (.inr ()))
def Zhf (a:Zao):Option Bool:=
 bif ((a.deques.length:Int) != (a.crew.on.length:Int)) then
  some false
 else
  bif ((a.takers.length:Int) != (a.crew.on.length:Int)) then
   some false
  else
   bif ((a.from_.length:Int) != (a.crew.on.length:Int)) then
    some false
   else
    (lp (Zek a) 0).bind fun r7=>
    match r7 with
    | (.inl r7)=>
     some false
    | (.inr r7)=>
     some true
def Zei (a:ZB) (b:Zao):Option Int:=
 (Zf1 a b.crew).bind fun x0=>
 bif (x0==0) then
  (Zhf b).bind fun x1=>
  bif x1 then
   some x0
  else
   some 130
 else
  some x0
def Zb4 (a:List Zp):Option Unit:=
 bif (Nat.blt 0 (List.length a)) then
  bif (Nat.ble (List.length a) lim) then
   some ()
  else
   none
 else
  none
def ZbZ (a:List Zi):Option Unit:=
 bif (Nat.blt 0 (List.length a)) then
  bif (Nat.ble (List.length a) lim) then
   some ()
  else
   none
 else
  none
def ZeC (a:Zao) (s5:Int×(List Zi)):Option ((Int×(List Zi))⊕(List Zi)):=
 bif (decide (s5.1<(a.deques.length:Int))) then
  (Zt s5.2 s5.1).bind fun x6=>
  (Z9 x6.ring).bind fun x7=>
  some (.inl ((w64 (s5.1+1)),(List.set s5.2 s5.1.toNat x6)))
 else
  some (.inr s5.2)
def ZgF (a:Zao):Option (List Zi):=
 (Z9 a.crew.on).bind fun x0=>
 (Z9 a.crew.left).bind fun x1=>
 (Zb4 a.takers).bind fun x2=>
 (Z9 a.from_).bind fun x3=>
 (ZbZ a.deques).bind fun x4=>
 (lp (ZeC a) (0,a.deques)).bind fun r8=>
 some r8
def ZbU (a:Zi):Option Bool:=
 bif (decide (a.top<a.bottom)) then
  some true
 else
  some false
def Zbl (a:List Zi) (b:(Zi→Option Bool)) (s0:Int):Option (Int⊕(Int⊕Unit)):=
 bif (decide (s0<(a.length:Int))) then
  (Zt a s0).bind fun x1=>
  (b x1).bind fun x2=>
  bif x2 then
   some (.inr (.inl s0))
  else
   some (.inl (w64 (s0+1)))
 else
  some (.inr (.inr ()))
def Zb7 (a:List Zi) (b:(Zi→Option Bool)):Option Int:=
 (lp (Zbl a b) 0).bind fun r3=>
 match r3 with
 | (.inl r3)=>
  some r3
 | (.inr r3)=>
  some (-1)
def Zbi (a:List Zi) (b:(Zi→Option Bool)):Option Bool:=
 (Zb7 a b).bind fun x0=>
 bif (decide (0≤x0)) then
  some true
 else
  some false
def ZcC (a0:List Int) (s1:Int×(List Int)):Option ((Int×(List Int))⊕(List Int)):=
 bif (decide (s1.1<(a0.length:Int))) then
  (Zt a0 s1.1).bind fun x2=>
  bif (x2==(-1)) then
   bif (Nat.ble (List.length s1.2+1) lim) then
    some (.inl ((w64 (s1.1+1)),(s1.2++[s1.1])))
   else
    none
  else
   some (.inl ((w64 (s1.1+1)),s1.2))
 else
  some (.inr s1.2)
def Zcd (a0:List Int) (a3:List Zp) (s4:Int×(List Int)):Option ((Int×(List Int))⊕(List Int)):=
 bif (decide (s4.1<(a0.length:Int))) then
  (Zt a0 s4.1).bind fun x5=>
  bif (x5==(-1)) then
   (Zt a3 s4.1).bind fun x6=>
   bif (x6.at_ != 0) then
    bif (Nat.ble (List.length s4.2+1) lim) then
     some (.inl ((w64 (s4.1+1)),(s4.2++[s4.1])))
    else
     none
   else
    some (.inl ((w64 (s4.1+1)),s4.2))
  else
   some (.inl ((w64 (s4.1+1)),s4.2))
 else
  some (.inr s4.2)
def ZcV (a0:List Int) (a2:List Zi) (a3:List Zp):Option (List Int):=
 (Zbi a2 (fun z0=>ZbU z0)).bind fun x0=>
 bif x0 then
  (lp (ZcC a0) (0,([]:List Int))).bind fun r3=>
  some r3
 else
  (lp (Zcd a0 a3) (0,([]:List Int))).bind fun r7=>
  some r7
def Zb5 (a:Int) (b7:Int):Option Bool:=
 bif (decide (b7<a)) then
  some true
 else
  some false
def ZdR (a7:Int) (b:List Int) (c:List Int) (d:Int):Option Int:=
 bif (decide (d<(c.length:Int))) then
  (Zt c d).bind fun x0=>
  bif ((b.length:Int)==0) then
   none
  else
   (Zt b (Int.tmod (bif decide (x0<0) then 0 else x0) (b.length:Int))).bind fun x1=>
   some x1
 else
  (ZO b (fun z0=>Zb5 z0 a7)).bind fun x2=>
  (Zt b (bif decide (x2<0) then 0 else x2)).bind fun x3=>
  some x3
def ZdI (a:Int):Option Bool:=
 bif (decide (a<(-1))) then
  some true
 else
  bif (decide (1099511627775<a)) then
   some true
  else
   some false
def ZhP (a:Zp):Option Bool:=
 bif a.steal then
  bif (a.end_==0) then
   bif (decide (0≤a.at_)) then
    bif (decide (a.at_≤3)) then
     bif (a.at_==0) then
      some true
     else
      (ZdI a.top).bind fun x0=>
      bif x0 then
       some false
      else
       (ZdI a.bottom).bind fun x1=>
       bif x1 then
        some false
       else
        some true
    else
     some false
   else
    some false
  else
   some false
 else
  bif (a.end_==0) then
   bif (decide (0≤a.at_)) then
    bif (decide (a.at_≤4)) then
     bif (a.at_==0) then
      some true
     else
      (ZdI a.top).bind fun x2=>
      bif x2 then
       some false
      else
       (ZdI a.bottom).bind fun x3=>
       bif x3 then
        some false
       else
        some true
    else
     some false
   else
    some false
  else
   some false
def Zfa (m0_0:Int) (m1_2:Int):Option (Unit⊕Unit):=
 bif (m0_0 != m1_2) then
  some (.inl ())
 else
  some (.inr ())
def Zda (m0_0:Int) (m0_1:Int) (m1_1:Int) (m1_2:Int) (m1_3:Int) (m1_4:Int) (m1_5:Int) (m2_0:List Int):Option (Int×Int×Int×Int×Int×Int):=
 bif (m1_1==0) then
  some (m0_0,1,m0_0,m1_3,m1_4,m1_5)
 else
  bif (m1_1==1) then
   bif (decide (m0_1≤m1_2)) then
    some (m0_0,1,m1_2,m0_1,m1_4,2)
   else
    some (m0_0,2,m1_2,m0_1,m1_4,m1_5)
  else
   bif (m1_1==2) then
    (Zeb (Zi.mk m2_0 m0_0 m0_1) m1_2).bind fun x0=>
    (Zt m2_0 x0).bind fun x1=>
    some (m0_0,3,m1_2,m1_3,x1,m1_5)
   else
    (Zfa m0_0 m1_2).bind fun x2=>
    match x2 with
    | (.inl x2)=>
     some (m0_0,m1_1,m1_2,m1_3,0,3)
    | (.inr x2)=>
     some ((w64 (m0_0+1)),m1_1,m1_2,m1_3,m1_4,1)
def Zdi (m0_0:Int) (m0_1:Int) (m1_1:Int) (m1_2:Int) (m1_3:Int) (m1_4:Int) (m1_5:Int) (m2_0:List Int):Option (Int×Int×Int×Int×Int×Int×Int):=
 bif (m1_1==0) then
  some (m0_0,(w64 (m0_1-1)),1,m1_2,(w64 (m0_1-1)),m1_4,m1_5)
 else
  bif (m1_1==1) then
   bif (decide (m0_0<m1_3)) then
    (Zeb (Zi.mk m2_0 m0_0 m0_1) m1_3).bind fun x0=>
    (Zt m2_0 x0).bind fun x1=>
    some (m0_0,m0_1,m1_1,m0_0,m1_3,x1,1)
   else
    bif (m0_0==m1_3) then
     some (m0_0,m0_1,2,m0_0,m1_3,m1_4,m1_5)
    else
     some (m0_0,m0_1,3,m0_0,m1_3,m1_4,m1_5)
  else
   bif (m1_1==2) then
    (Zfa m0_0 m1_2).bind fun x2=>
    match x2 with
    | (.inl x2)=>
     some (m0_0,m0_1,3,m1_2,m1_3,m1_4,m1_5)
    | (.inr x2)=>
     (Zeb (Zi.mk m2_0 (w64 (m0_0+1)) m0_1) m1_3).bind fun x3=>
     (Zt m2_0 x3).bind fun x4=>
     some ((w64 (m0_0+1)),m0_1,4,m1_2,m1_3,x4,m1_5)
   else
    bif (m1_1==4) then
     some (m0_0,(w64 (m1_3+1)),m1_1,m1_2,m1_3,m1_4,1)
    else
     some (m0_0,(w64 (m1_3+1)),m1_1,m1_2,m1_3,m1_4,2)
def Zcu (a:Zi) (b:Zp):Option (Zi×Zp×Int):=
 (Zdy a).bind fun x0=>
 bif (x0 != 0) then
  some ((Zi.mk ([]:List Int) 0 0),(Zp.mk false 0 0 0 0 0),x0)
 else
  (ZhP b).bind fun x1=>
  bif x1 then
   (ZhE a).bind fun x2=>
   bif b.steal then
    (Zda a.top a.bottom b.at_ b.top b.bottom b.got b.end_ a.ring).bind fun x3=>
    (Zdy (Zi.mk a.ring x3.1 a.bottom)).bind fun x4=>
    bif (x4 != 0) then
     some ((Zi.mk ([]:List Int) 0 0),(Zp.mk false 0 0 0 0 0),x4)
    else
     some ((Zi.mk a.ring x3.1 a.bottom),(Zp.mk b.steal x3.2.1 x3.2.2.1 x3.2.2.2.1 x3.2.2.2.2.1 x3.2.2.2.2.2),0)
   else
    (Zdi a.top a.bottom b.at_ b.top b.bottom b.got b.end_ a.ring).bind fun x5=>
    (Zdy (Zi.mk a.ring x5.1 x5.2.1)).bind fun x6=>
    bif (x6 != 0) then
     some ((Zi.mk ([]:List Int) 0 0),(Zp.mk false 0 0 0 0 0),x6)
    else
     some ((Zi.mk a.ring x5.1 x5.2.1),(Zp.mk b.steal x5.2.2.1 x5.2.2.2.1 x5.2.2.2.2.1 x5.2.2.2.2.2.1 x5.2.2.2.2.2.2),0)
  else
   some ((Zi.mk ([]:List Int) 0 0),(Zp.mk false 0 0 0 0 0),122)
def ZcX (b:Int) (c:Int) (m4_0:List Zp) (m5_0:List Int):Option (List Zp):=
 (Zt m5_0 b).bind fun x0=>
 bif (c != 0) then
  (Zt m4_0 b).bind fun x1=>
  some (List.set m4_0 b.toNat (Zp.mk true 0 0 0 0 0))
 else
  (Zt m4_0 b).bind fun x2=>
  some (List.set m4_0 b.toNat (Zp.mk false 0 0 0 0 0))
def Zbx (b:Int) (m0_0:List Int) (m0_1:List ZZ) (m1_0:List Int) (m2_0:List Int) (m3_0:List Zi) (m4_0:List Zp) (m5_0:List Int):Option (Int×(List Int)×(List Zi)×(List Zp)×(List Int)):=
 (Zt m5_0 b).bind fun x0=>
 bif ((m1_0.length:Int)==0) then
  none
 else
  (Zt m3_0 (Int.tmod (w64 (b+x0)) (m1_0.length:Int))).bind fun x1=>
  (Zt m4_0 b).bind fun x2=>
  (Zcu x1 x2).bind fun x3=>
  bif (x3.2.2 != 0) then
   some (130,m1_0,m3_0,m4_0,m5_0)
  else
   bif (x3.2.1.end_==1) then
    (Zfd (ZB.mk m0_0 m0_1) (Z6.mk m1_0 m2_0)).bind fun x4=>
    (Zak x4 x3.2.1.got).bind fun x5=>
    bif x5 then
     (Zt m1_0 b).bind fun x6=>
     (ZcX b 0 (List.set m4_0 b.toNat x3.2.1) m5_0).bind fun x7=>
     some (0,(List.set m1_0 b.toNat x3.2.1.got),(List.set m3_0 (Int.tmod (w64 (b+x0)) (m1_0.length:Int)).toNat x3.1),x7,(List.set m5_0 b.toNat 0))
    else
     some (130,m1_0,(List.set m3_0 (Int.tmod (w64 (b+x0)) (m1_0.length:Int)).toNat x3.1),(List.set m4_0 b.toNat x3.2.1),m5_0)
   else
    bif (x3.2.1.end_==2) then
     bif ((m1_0.length:Int)==0) then
      none
     else
      (ZcX b (Int.tmod (w64 (x0+1)) (m1_0.length:Int)) (List.set m4_0 b.toNat x3.2.1) m5_0).bind fun x8=>
      some (0,m1_0,(List.set m3_0 (Int.tmod (w64 (b+x0)) (m1_0.length:Int)).toNat x3.1),x8,(List.set m5_0 b.toNat (Int.tmod (w64 (x0+1)) (m1_0.length:Int))))
    else
     bif (x3.2.1.end_==3) then
      bif ((m1_0.length:Int)==0) then
       none
      else
       (ZcX b (Int.tmod (w64 (x0+1)) (m1_0.length:Int)) (List.set m4_0 b.toNat x3.2.1) m5_0).bind fun x9=>
       some (0,m1_0,(List.set m3_0 (Int.tmod (w64 (b+x0)) (m1_0.length:Int)).toNat x3.1),x9,(List.set m5_0 b.toNat (Int.tmod (w64 (x0+1)) (m1_0.length:Int))))
     else
      some (0,m1_0,(List.set m3_0 (Int.tmod (w64 (b+x0)) (m1_0.length:Int)).toNat x3.1),(List.set m4_0 b.toNat x3.2.1),m5_0)
def Zc0 (b:List Int) (m0_0:List Int) (m0_1:List ZZ) (m2_0:List Int) (s1:Int×(List Int)×Int×(List Int)×(List Zi)×(List Zp)×(List Int)):Option ((Int×(List Int)×Int×(List Int)×(List Zi)×(List Zp)×(List Int))⊕((Int×Int×Int×(List Int)×(List Zi)×(List Zp)×(List Int))⊕(Int×Int×(List Int)×(List Zi)×(List Zp)×(List Int)))):=
 bif (decide (0<(s1.2.1.length:Int))) then
  (ZdR s1.2.2.1 s1.2.1 b s1.1).bind fun x2=>
  (Zbx x2 m0_0 m0_1 s1.2.2.2.1 m2_0 s1.2.2.2.2.1 s1.2.2.2.2.2.1 s1.2.2.2.2.2.2).bind fun x3=>
  bif (x3.1 != 0) then
   some (.inr (.inl (x3.1,s1.1,s1.2.2.1,x3.2.1,x3.2.2.1,x3.2.2.2.1,x3.2.2.2.2)))
  else
   (ZcV x3.2.1 x3.2.2.1 x3.2.2.2.1).bind fun x4=>
   some (.inl ((w64 (s1.1+1)),x4,x2,x3.2.1,x3.2.2.1,x3.2.2.2.1,x3.2.2.2.2))
 else
  some (.inr (.inr (s1.1,s1.2.2.1,s1.2.2.2.1,s1.2.2.2.2.1,s1.2.2.2.2.2.1,s1.2.2.2.2.2.2)))
def Ze5 (b:List Int) (m0_0:List Int) (m0_1:List ZZ) (m1_0:List Int) (m2_0:List Int) (m3_0:List Zi) (m4_0:List Zp) (m5_0:List Int):Option (Int×Int×Int×(List Int)×(List Zi)×(List Zp)×(List Int)):=
 (ZcV m1_0 m3_0 m4_0).bind fun x0=>
 (lp (Zc0 b m0_0 m0_1 m2_0) (0,x0,(-1),m1_0,m3_0,m4_0,m5_0)).bind fun r5=>
 match r5 with
 | (.inl r5)=>
  some (0,r5.1,r5.2.2.1,r5.2.2.2.1,r5.2.2.2.2.1,r5.2.2.2.2.2.1,r5.2.2.2.2.2.2)
 | (.inr r5)=>
  some (r5.1,0,r5.2.1,r5.2.2.1,r5.2.2.2.1,r5.2.2.2.2.1,r5.2.2.2.2.2)
def Zf0 (a:ZB) (b:Zao) (c:List Int):Option (Zao×Int×Int):=
 (Zei a b).bind fun x0=>
 bif (x0 != 0) then
  some ((Zao.mk (Z6.mk ([]:List Int) ([]:List Int)) ([]:List Zi) ([]:List Zp) ([]:List Int)),0,x0)
 else
  (ZgF b).bind fun x1=>
  (Ze5 c a.work a.edges b.crew.on b.crew.left x1 b.takers b.from_).bind fun x2=>
  bif (x2.2.1 != 0) then
   some ((Zao.mk (Z6.mk ([]:List Int) ([]:List Int)) ([]:List Zi) ([]:List Zp) ([]:List Int)),0,x2.2.1)
  else
   some ((Zao.mk (Z6.mk x2.2.2.2.1 b.crew.left) x2.2.2.2.2.1 x2.2.2.2.2.2.1 x2.2.2.2.2.2.2),x2.1,0)
def Zls (a:Z6):Option Unit:=
 (Z9 a.on).bind fun x0=>
 (Z9 a.left).bind fun x1=>
 some ()
def Zh7 (a:Int):Option Int:=
 bif (decide (4294967296≤a)) then
  bif (decide (65536≤(Int.fdiv a (2 ^ 32)))) then
   bif (decide (256≤(Int.fdiv (Int.fdiv a (2 ^ 32)) (2 ^ 16)))) then
    bif (decide (0≤(u8.wrap (Int.fdiv (Int.fdiv (Int.fdiv a (2 ^ 32)) (2 ^ 16)) (2 ^ 8))))) then
     (Zt6[(u8.wrap (Int.fdiv (Int.fdiv (Int.fdiv a (2 ^ 32)) (2 ^ 16)) (2 ^ 8))).toNat]?).bind fun x0=>
     some (w64 (56+(w64 (x0.toNat:Int))))
    else
     none
   else
    bif (decide (0≤(u8.wrap (Int.fdiv (Int.fdiv a (2 ^ 32)) (2 ^ 16))))) then
     (Zt6[(u8.wrap (Int.fdiv (Int.fdiv a (2 ^ 32)) (2 ^ 16))).toNat]?).bind fun x1=>
     some (w64 (48+(w64 (x1.toNat:Int))))
    else
     none
  else
   bif (decide (256≤(Int.fdiv a (2 ^ 32)))) then
    bif (decide (0≤(u8.wrap (Int.fdiv (Int.fdiv a (2 ^ 32)) (2 ^ 8))))) then
     (Zt6[(u8.wrap (Int.fdiv (Int.fdiv a (2 ^ 32)) (2 ^ 8))).toNat]?).bind fun x2=>
     some (w64 (40+(w64 (x2.toNat:Int))))
    else
     none
   else
    bif (decide (0≤(u8.wrap (Int.fdiv a (2 ^ 32))))) then
     (Zt6[(u8.wrap (Int.fdiv a (2 ^ 32))).toNat]?).bind fun x3=>
     some (w64 (32+(w64 (x3.toNat:Int))))
    else
     none
 else
  bif (decide (65536≤a)) then
   bif (decide (256≤(Int.fdiv a (2 ^ 16)))) then
    bif (decide (0≤(u8.wrap (Int.fdiv (Int.fdiv a (2 ^ 16)) (2 ^ 8))))) then
     (Zt6[(u8.wrap (Int.fdiv (Int.fdiv a (2 ^ 16)) (2 ^ 8))).toNat]?).bind fun x4=>
     some (w64 (24+(w64 (x4.toNat:Int))))
    else
     none
   else
    bif (decide (0≤(u8.wrap (Int.fdiv a (2 ^ 16))))) then
     (Zt6[(u8.wrap (Int.fdiv a (2 ^ 16))).toNat]?).bind fun x5=>
     some (w64 (16+(w64 (x5.toNat:Int))))
    else
     none
  else
   bif (decide (256≤a)) then
    bif (decide (0≤(u8.wrap (Int.fdiv a (2 ^ 8))))) then
     (Zt6[(u8.wrap (Int.fdiv a (2 ^ 8))).toNat]?).bind fun x6=>
     some (w64 (8+(w64 (x6.toNat:Int))))
    else
     none
   else
    bif (decide (0≤(u8.wrap a))) then
     (Zt6[(u8.wrap a).toNat]?).bind fun x7=>
     some (w64 (0+(w64 (x7.toNat:Int))))
    else
     none
def ZdW (a:Int):Option Int:=
 (Zh7 a).bind fun x0=>
 some x0
def Zf4 (a:Int):Option Bool:=
 bif (a != a) then
  some true
 else
  some false
def ZU (a:Int) (b:Int):Option Bool:=
 (Zf4 a).bind fun x0=>
 bif x0 then
  (Zf4 b).bind fun x1=>
  bif x1 then
   bif (decide (a<b)) then
    some true
   else
    some false
  else
   some true
 else
  bif (decide (a<b)) then
   some true
  else
   some false
def Zbb (b:Int) (s1:Int×(List Int)):Option ((Int×(List Int))⊕(List Int)):=
 bif (decide (b<s1.1)) then
  (Zt s1.2 s1.1).bind fun x2=>
  (Zt s1.2 (w64 (s1.1-1))).bind fun x3=>
  (ZU x2 x3).bind fun x4=>
  bif x4 then
   (Zt (List.set s1.2 s1.1.toNat x3) (w64 (s1.1-1))).bind fun x5=>
   some (.inl ((w64 (s1.1-1)),(List.set (List.set s1.2 s1.1.toNat x3) (w64 (s1.1-1)).toNat x2)))
  else
   some (.inr s1.2)
 else
  some (.inr s1.2)
def Zba (b:Int) (c:Int) (s0:Int×(List Int)):Option ((Int×(List Int))⊕(List Int)):=
 bif (decide (s0.1<c)) then
  (lp (Zbb b) (s0.1,s0.2)).bind fun r6=>
  some (.inl ((w64 (s0.1+1)),r6))
 else
  some (.inr s0.2)
def Zaj (b:Int) (c:Int) (m0_0:List Int):Option (List Int):=
 (lp (Zba b c) ((w64 (b+1)),m0_0)).bind fun r7=>
 some r7
def ZbI (c:Int) (d:Int) (s0:Int×(List Int)):Option ((Int×(List Int))⊕((List Int)⊕(List Int))):=
 bif (decide (c≤(w64 ((w64 (2*s0.1))+1)))) then
  some (.inr (.inl s0.2))
 else
  bif (decide ((w64 ((w64 ((w64 (2*s0.1))+1))+1))<c)) then
   (Zt s0.2 (w64 (d+(w64 ((w64 (2*s0.1))+1))))).bind fun x1=>
   (Zt s0.2 (w64 ((w64 (d+(w64 ((w64 (2*s0.1))+1))))+1))).bind fun x2=>
   (ZU x1 x2).bind fun x3=>
   bif x3 then
    (Zt s0.2 (w64 (d+s0.1))).bind fun x4=>
    (Zt s0.2 (w64 (d+(w64 ((w64 ((w64 (2*s0.1))+1))+1))))).bind fun x5=>
    (ZU x4 x5).bind fun x6=>
    bif x6 then
     (Zt (List.set s0.2 (w64 (d+s0.1)).toNat x5) (w64 (d+(w64 ((w64 ((w64 (2*s0.1))+1))+1))))).bind fun x7=>
     some (.inl ((w64 ((w64 ((w64 (2*s0.1))+1))+1)),(List.set (List.set s0.2 (w64 (d+s0.1)).toNat x5) (w64 (d+(w64 ((w64 ((w64 (2*s0.1))+1))+1)))).toNat x4)))
    else
     some (.inr (.inr s0.2))
   else
    (Zt s0.2 (w64 (d+s0.1))).bind fun x8=>
    (ZU x8 x1).bind fun x9=>
    bif x9 then
     (Zt (List.set s0.2 (w64 (d+s0.1)).toNat x1) (w64 (d+(w64 ((w64 (2*s0.1))+1))))).bind fun x10=>
     some (.inl ((w64 ((w64 (2*s0.1))+1)),(List.set (List.set s0.2 (w64 (d+s0.1)).toNat x1) (w64 (d+(w64 ((w64 (2*s0.1))+1)))).toNat x8)))
    else
     some (.inr (.inr s0.2))
  else
   (Zt s0.2 (w64 (d+s0.1))).bind fun x11=>
   (Zt s0.2 (w64 (d+(w64 ((w64 (2*s0.1))+1))))).bind fun x12=>
   (ZU x11 x12).bind fun x13=>
   bif x13 then
    (Zt (List.set s0.2 (w64 (d+s0.1)).toNat x12) (w64 (d+(w64 ((w64 (2*s0.1))+1))))).bind fun x14=>
    some (.inl ((w64 ((w64 (2*s0.1))+1)),(List.set (List.set s0.2 (w64 (d+s0.1)).toNat x12) (w64 (d+(w64 ((w64 (2*s0.1))+1)))).toNat x11)))
   else
    some (.inr (.inr s0.2))
def Zbw (b:Int) (c:Int) (d:Int) (m0_0:List Int):Option (List Int):=
 (lp (ZbI c d) (b,m0_0)).bind fun r15=>
 match r15 with
 | (.inl r15)=>
  some r15
 | (.inr r15)=>
  some r15
def ZbG (b:Int) (c:Int) (s0:Int×(List Int)):Option ((Int×(List Int))⊕(List Int)):=
 bif (decide (0≤s0.1)) then
  (Zbw s0.1 (w64 (c-b)) b s0.2).bind fun x1=>
  some (.inl ((w64 (s0.1-1)),x1))
 else
  some (.inr s0.2)
def ZbH (b:Int) (s3:Int×(List Int)):Option ((Int×(List Int))⊕(List Int)):=
 bif (decide (0≤s3.1)) then
  (Zt s3.2 (w64 (b+s3.1))).bind fun x4=>
  (Zt s3.2 b).bind fun x5=>
  (Zt (List.set s3.2 b.toNat x4) (w64 (b+s3.1))).bind fun x6=>
  (Zbw 0 s3.1 b (List.set (List.set s3.2 b.toNat x4) (w64 (b+s3.1)).toNat x5)).bind fun x7=>
  some (.inl ((w64 (s3.1-1)),x7))
 else
  some (.inr s3.2)
def ZaN (b:Int) (c:Int) (m0_0:List Int):Option (List Int):=
 (lp (ZbG b c) ((w64 (Int.tdiv (w64 ((w64 (c-b))-1)) 2)),m0_0)).bind fun r2=>
 (lp (ZbH b) ((w64 ((w64 (c-b))-1)),r2)).bind fun r8=>
 some r8
def Zbq (b:Int) (c:Int) (m0_0:List Int) (m1_0:Int):Option (Int×Int×Int):=
 (Zt m0_0 c).bind fun x0=>
 (Zt m0_0 b).bind fun x1=>
 (ZU x0 x1).bind fun x2=>
 bif x2 then
  some (c,b,(w64 (m1_0+1)))
 else
  some (b,c,m1_0)
def Zbs (b:Int) (c:Int) (d:Int) (m0_0:List Int) (m1_0:Int):Option (Int×Int):=
 (Zbq b c m0_0 m1_0).bind fun x0=>
 (Zbq x0.2.1 d m0_0 x0.2.2).bind fun x1=>
 (Zbq x0.1 x1.1 m0_0 x1.2.2).bind fun x2=>
 some (x2.2.1,x2.2.2)
def Zav (b:Int) (m0_0:List Int) (m1_0:Int):Option (Int×Int):=
 (Zbs (w64 (b-1)) b (w64 (b+1)) m0_0 m1_0).bind fun x0=>
 some (x0.1,x0.2)
def Zas (b:Int) (c:Int) (m0_0:List Int):Option (Int×Int):=
 bif (decide (8≤(w64 (c-b)))) then
  bif (decide (50≤(w64 (c-b)))) then
   (Zav (w64 (b+(w64 ((w64 (Int.tdiv (w64 (c-b)) 4))*1)))) m0_0 0).bind fun x0=>
   (Zav (w64 (b+(w64 ((w64 (Int.tdiv (w64 (c-b)) 4))*2)))) m0_0 x0.2).bind fun x1=>
   (Zav (w64 (b+(w64 ((w64 (Int.tdiv (w64 (c-b)) 4))*3)))) m0_0 x1.2).bind fun x2=>
   (Zbs x0.1 x1.1 x2.1 m0_0 x2.2).bind fun x3=>
   bif (x3.2==0) then
    some (x3.1,1)
   else
    bif (x3.2==12) then
     some (x3.1,2)
    else
     some (x3.1,0)
  else
   (Zbs (w64 (b+(w64 ((w64 (Int.tdiv (w64 (c-b)) 4))*1)))) (w64 (b+(w64 ((w64 (Int.tdiv (w64 (c-b)) 4))*2)))) (w64 (b+(w64 ((w64 (Int.tdiv (w64 (c-b)) 4))*3)))) m0_0 0).bind fun x4=>
   bif (x4.2==0) then
    some (x4.1,1)
   else
    bif (x4.2==12) then
     some (x4.1,2)
    else
     some (x4.1,0)
 else
  some ((w64 (b+(w64 ((w64 (Int.tdiv (w64 (c-b)) 4))*2)))),1)
def Zbj (s0:Int×Int×(List Int)):Option ((Int×Int×(List Int))⊕(List Int)):=
 bif (decide (s0.1<s0.2.1)) then
  (Zt s0.2.2 s0.2.1).bind fun x1=>
  (Zt s0.2.2 s0.1).bind fun x2=>
  (Zt (List.set s0.2.2 s0.1.toNat x1) s0.2.1).bind fun x3=>
  some (.inl ((w64 (s0.1+1)),(w64 (s0.2.1-1)),(List.set (List.set s0.2.2 s0.1.toNat x1) s0.2.1.toNat x2)))
 else
  some (.inr s0.2.2)
def Zan (b:Int) (c:Int) (m0_0:List Int):Option (List Int):=
 (lp (Zbj) (b,(w64 (c-1)),m0_0)).bind fun r4=>
 some r4
def ZaH (c:Int) (s0:Int×Int×(List Int)) (s1:Int):Option (Int⊕Int):=
 bif (decide (s1<c)) then
  (Zt s0.2.2 s1).bind fun x2=>
  (Zt s0.2.2 (w64 (s1-1))).bind fun x3=>
  (ZU x2 x3).bind fun x4=>
  bif x4 then
   some (.inr s1)
  else
   some (.inl (w64 (s1+1)))
 else
  some (.inr s1)
def ZaC (s9:Int×(List Int)):Option ((Int×(List Int))⊕(List Int)):=
 bif (decide (1≤s9.1)) then
  (Zt s9.2 s9.1).bind fun x10=>
  (Zt s9.2 (w64 (s9.1-1))).bind fun x11=>
  (ZU x10 x11).bind fun x12=>
  bif x12 then
   (Zt (List.set s9.2 s9.1.toNat x11) (w64 (s9.1-1))).bind fun x13=>
   some (.inl ((w64 (s9.1-1)),(List.set (List.set s9.2 s9.1.toNat x11) (w64 (s9.1-1)).toNat x10)))
  else
   some (.inr s9.2)
 else
  some (.inr s9.2)
def Zac (c:Int) (s15:Int×(List Int)):Option ((Int×(List Int))⊕(List Int)):=
 bif (decide (s15.1<c)) then
  (Zt s15.2 s15.1).bind fun x16=>
  (Zt s15.2 (w64 (s15.1-1))).bind fun x17=>
  (ZU x16 x17).bind fun x18=>
  bif x18 then
   (Zt (List.set s15.2 s15.1.toNat x17) (w64 (s15.1-1))).bind fun x19=>
   some (.inl ((w64 (s15.1+1)),(List.set (List.set s15.2 s15.1.toNat x17) (w64 (s15.1-1)).toNat x16)))
  else
   some (.inr s15.2)
 else
  some (.inr s15.2)
def ZaG (b:Int) (c:Int) (s0:Int×Int×(List Int)):Option ((Int×Int×(List Int))⊕((List Int)⊕((List Int)⊕(List Int)))):=
 bif (decide (s0.2.1<5)) then
  (lp (ZaH c s0) s0.1).bind fun r5=>
  bif (r5==c) then
   some (.inr (.inl s0.2.2))
  else
   bif (decide ((w64 (c-b))<50)) then
    some (.inr (.inr (.inl s0.2.2)))
   else
    (Zt s0.2.2 (w64 (r5-1))).bind fun x6=>
    (Zt s0.2.2 r5).bind fun x7=>
    (Zt (List.set s0.2.2 r5.toNat x6) (w64 (r5-1))).bind fun x8=>
    bif (decide (2≤(w64 (r5-b)))) then
     (lp (ZaC) ((w64 (r5-1)),(List.set (List.set s0.2.2 r5.toNat x6) (w64 (r5-1)).toNat x7))).bind fun r14=>
     bif (decide (2≤(w64 (c-r5)))) then
      (lp (Zac c) ((w64 (r5+1)),r14)).bind fun r20=>
      some (.inl (r5,(w64 (s0.2.1+1)),r20))
     else
      some (.inl (r5,(w64 (s0.2.1+1)),r14))
    else
     bif (decide (2≤(w64 (c-r5)))) then
      (lp (Zac c) ((w64 (r5+1)),(List.set (List.set s0.2.2 r5.toNat x6) (w64 (r5-1)).toNat x7))).bind fun r26=>
      some (.inl (r5,(w64 (s0.2.1+1)),r26))
     else
      some (.inl (r5,(w64 (s0.2.1+1)),(List.set (List.set s0.2.2 r5.toNat x6) (w64 (r5-1)).toNat x7)))
 else
  some (.inr (.inr (.inr s0.2.2)))
def Zap (b:Int) (c:Int) (m0_0:List Int):Option ((List Int)⊕(List Int)):=
 (lp (ZaG b c) ((w64 (b+1)),0,m0_0)).bind fun r27=>
 match r27 with
 | (.inl r27)=>
  some (.inl r27)
 | (.inr (.inl r27))=>
  some (.inr r27)
 | (.inr (.inr r27))=>
  some (.inr r27)
def ZbD (b:Int) (c:Int) (d:Int) (m0_0:List Int) (x0:Int) (x1:Int) (s3:Int):Option (Int⊕Int):=
 bif (decide (s3≤(w64 (c-1)))) then
  (Zt (List.set (List.set m0_0 b.toNat x0) d.toNat x1) s3).bind fun x4=>
  (Zt (List.set (List.set m0_0 b.toNat x0) d.toNat x1) b).bind fun x5=>
  (ZU x4 x5).bind fun x6=>
  bif x6 then
   some (.inl (w64 (s3+1)))
  else
   some (.inr s3)
 else
  some (.inr s3)
def Zby (b:Int) (d:Int) (m0_0:List Int) (x0:Int) (x1:Int) (r7:Int) (s8:Int):Option (Int⊕Int):=
 bif (decide (r7≤s8)) then
  (Zt (List.set (List.set m0_0 b.toNat x0) d.toNat x1) s8).bind fun x9=>
  (Zt (List.set (List.set m0_0 b.toNat x0) d.toNat x1) b).bind fun x10=>
  (ZU x9 x10).bind fun x11=>
  bif x11 then
   some (.inr s8)
  else
   some (.inl (w64 (s8-1)))
 else
  some (.inr s8)
def Zbz (b:Int) (s19:Int×Int×(List Int)) (s20:Int):Option (Int⊕Int):=
 bif (decide (s20≤s19.2.1)) then
  (Zt s19.2.2 s20).bind fun x21=>
  (Zt s19.2.2 b).bind fun x22=>
  (ZU x21 x22).bind fun x23=>
  bif x23 then
   some (.inl (w64 (s20+1)))
  else
   some (.inr s20)
 else
  some (.inr s20)
def ZbB (b:Int) (s19:Int×Int×(List Int)) (r24:Int) (s25:Int):Option (Int⊕Int):=
 bif (decide (r24≤s25)) then
  (Zt s19.2.2 s25).bind fun x26=>
  (Zt s19.2.2 b).bind fun x27=>
  (ZU x26 x27).bind fun x28=>
  bif x28 then
   some (.inr s25)
  else
   some (.inl (w64 (s25-1)))
 else
  some (.inr s25)
def ZbC (b:Int) (s19:Int×Int×(List Int)):Option ((Int×Int×(List Int))⊕(Int×(List Int))):=
 (lp (Zbz b s19) s19.1).bind fun r24=>
 (lp (ZbB b s19 r24) s19.2.1).bind fun r29=>
 bif (decide (r29<r24)) then
  some (.inr (r29,s19.2.2))
 else
  (Zt s19.2.2 r29).bind fun x30=>
  (Zt s19.2.2 r24).bind fun x31=>
  (Zt (List.set s19.2.2 r24.toNat x30) r29).bind fun x32=>
  some (.inl ((w64 (r24+1)),(w64 (r29-1)),(List.set (List.set s19.2.2 r24.toNat x30) r29.toNat x31)))
def Zs (b:Int) (c:Int) (d:Int) (m0_0:List Int):Option ((Int×(List Int))⊕(Int×(List Int))):=
 (Zt m0_0 d).bind fun x0=>
 (Zt m0_0 b).bind fun x1=>
 (Zt (List.set m0_0 b.toNat x0) d).bind fun x2=>
 (lp (ZbD b c d m0_0 x0 x1) (w64 (b+1))).bind fun r7=>
 (lp (Zby b d m0_0 x0 x1 r7) (w64 (c-1))).bind fun r12=>
 bif (decide (r12<r7)) then
  (Zt (List.set (List.set m0_0 b.toNat x0) d.toNat x1) b).bind fun x13=>
  (Zt (List.set (List.set m0_0 b.toNat x0) d.toNat x1) r12).bind fun x14=>
  (Zt (List.set (List.set (List.set m0_0 b.toNat x0) d.toNat x1) r12.toNat x13) b).bind fun x15=>
  some (.inl (r12,(List.set (List.set (List.set (List.set m0_0 b.toNat x0) d.toNat x1) r12.toNat x13) b.toNat x14)))
 else
  (Zt (List.set (List.set m0_0 b.toNat x0) d.toNat x1) r12).bind fun x16=>
  (Zt (List.set (List.set m0_0 b.toNat x0) d.toNat x1) r7).bind fun x17=>
  (Zt (List.set (List.set (List.set m0_0 b.toNat x0) d.toNat x1) r7.toNat x16) r12).bind fun x18=>
  (lp (ZbC b) ((w64 (r7+1)),(w64 (r12-1)),(List.set (List.set (List.set (List.set m0_0 b.toNat x0) d.toNat x1) r7.toNat x16) r12.toNat x17))).bind fun r33=>
  (Zt r33.2 b).bind fun x34=>
  (Zt r33.2 r33.1).bind fun x35=>
  (Zt (List.set r33.2 r33.1.toNat x34) b).bind fun x36=>
  some (.inr (r33.1,(List.set (List.set r33.2 r33.1.toNat x34) b.toNat x35)))
def ZaZ (b:Int) (s3:Int×Int×(List Int)) (s4:Int):Option (Int⊕Int):=
 bif (decide (s4≤s3.2.1)) then
  (Zt s3.2.2 b).bind fun x5=>
  (Zt s3.2.2 s4).bind fun x6=>
  (ZU x5 x6).bind fun x7=>
  bif x7 then
   some (.inr s4)
  else
   some (.inl (w64 (s4+1)))
 else
  some (.inr s4)
def Za0 (b:Int) (s3:Int×Int×(List Int)) (r8:Int) (s9:Int):Option (Int⊕Int):=
 bif (decide (r8≤s9)) then
  (Zt s3.2.2 b).bind fun x10=>
  (Zt s3.2.2 s9).bind fun x11=>
  (ZU x10 x11).bind fun x12=>
  bif x12 then
   some (.inl (w64 (s9-1)))
  else
   some (.inr s9)
 else
  some (.inr s9)
def Za1 (b:Int) (s3:Int×Int×(List Int)):Option ((Int×Int×(List Int))⊕(Int×(List Int))):=
 (lp (ZaZ b s3) s3.1).bind fun r8=>
 (lp (Za0 b s3 r8) s3.2.1).bind fun r13=>
 bif (decide (r13<r8)) then
  some (.inr (r8,s3.2.2))
 else
  (Zt s3.2.2 r13).bind fun x14=>
  (Zt s3.2.2 r8).bind fun x15=>
  (Zt (List.set s3.2.2 r8.toNat x14) r13).bind fun x16=>
  some (.inl ((w64 (r8+1)),(w64 (r13-1)),(List.set (List.set s3.2.2 r8.toNat x14) r13.toNat x15)))
def ZA (b:Int) (c:Int) (d:Int) (m0_0:List Int):Option (Int×(List Int)):=
 (Zt m0_0 d).bind fun x0=>
 (Zt m0_0 b).bind fun x1=>
 (Zt (List.set m0_0 b.toNat x0) d).bind fun x2=>
 (lp (Za1 b) ((w64 (b+1)),(w64 (c-1)),(List.set (List.set m0_0 b.toNat x0) d.toNat x1))).bind fun r17=>
 some (r17.1,r17.2)
def Zcc (a:Int):Option Int:=
 (ZdW (u64.wrap a)).bind fun x0=>
 bif (decide (x0<0)) then
  none
 else
  some (u64.wrap (1*2 ^ (min (x0).toNat u64.bits)))
def Zde:Option Unit:=
 some ()
def Zbd (b:Int) (c:Int) (x0:Int) (s1:Int×(List Int)×Int):Option ((Int×(List Int)×Int)⊕(List Int)):=
 bif (decide (s1.1≤(w64 ((w64 (b+(w64 ((w64 (Int.tdiv (w64 (c-b)) 4))*2))))+1)))) then
  Zde.bind fun x2=>
  bif (decide ((w64 (c-b))≤(w64 (u64.wrap (Zg (u64.wrap (Zg (u64.wrap (Zg (u64.wrap (Zg s1.2.2 ^^^ Zg (u64.wrap (s1.2.2*2 ^ 13))).toNat) ^^^ Zg (Int.fdiv (u64.wrap (Zg s1.2.2 ^^^ Zg (u64.wrap (s1.2.2*2 ^ 13))).toNat) (2 ^ 7))).toNat) ^^^ Zg (u64.wrap ((u64.wrap (Zg (u64.wrap (Zg s1.2.2 ^^^ Zg (u64.wrap (s1.2.2*2 ^ 13))).toNat) ^^^ Zg (Int.fdiv (u64.wrap (Zg s1.2.2 ^^^ Zg (u64.wrap (s1.2.2*2 ^ 13))).toNat) (2 ^ 7))).toNat)*2 ^ 17))).toNat) &&& Zg (u64.wrap (x0-1))).toNat)))) then
   (Zt s1.2.1 (w64 (b+(w64 ((w64 (u64.wrap (Zg (u64.wrap (Zg (u64.wrap (Zg (u64.wrap (Zg s1.2.2 ^^^ Zg (u64.wrap (s1.2.2*2 ^ 13))).toNat) ^^^ Zg (Int.fdiv (u64.wrap (Zg s1.2.2 ^^^ Zg (u64.wrap (s1.2.2*2 ^ 13))).toNat) (2 ^ 7))).toNat) ^^^ Zg (u64.wrap ((u64.wrap (Zg (u64.wrap (Zg s1.2.2 ^^^ Zg (u64.wrap (s1.2.2*2 ^ 13))).toNat) ^^^ Zg (Int.fdiv (u64.wrap (Zg s1.2.2 ^^^ Zg (u64.wrap (s1.2.2*2 ^ 13))).toNat) (2 ^ 7))).toNat)*2 ^ 17))).toNat) &&& Zg (u64.wrap (x0-1))).toNat))-(w64 (c-b))))))).bind fun x3=>
   (Zt s1.2.1 s1.1).bind fun x4=>
   (Zt (List.set s1.2.1 s1.1.toNat x3) (w64 (b+(w64 ((w64 (u64.wrap (Zg (u64.wrap (Zg (u64.wrap (Zg (u64.wrap (Zg s1.2.2 ^^^ Zg (u64.wrap (s1.2.2*2 ^ 13))).toNat) ^^^ Zg (Int.fdiv (u64.wrap (Zg s1.2.2 ^^^ Zg (u64.wrap (s1.2.2*2 ^ 13))).toNat) (2 ^ 7))).toNat) ^^^ Zg (u64.wrap ((u64.wrap (Zg (u64.wrap (Zg s1.2.2 ^^^ Zg (u64.wrap (s1.2.2*2 ^ 13))).toNat) ^^^ Zg (Int.fdiv (u64.wrap (Zg s1.2.2 ^^^ Zg (u64.wrap (s1.2.2*2 ^ 13))).toNat) (2 ^ 7))).toNat)*2 ^ 17))).toNat) &&& Zg (u64.wrap (x0-1))).toNat))-(w64 (c-b))))))).bind fun x5=>
   some (.inl ((w64 (s1.1+1)),(List.set (List.set s1.2.1 s1.1.toNat x3) (w64 (b+(w64 ((w64 (u64.wrap (Zg (u64.wrap (Zg (u64.wrap (Zg (u64.wrap (Zg s1.2.2 ^^^ Zg (u64.wrap (s1.2.2*2 ^ 13))).toNat) ^^^ Zg (Int.fdiv (u64.wrap (Zg s1.2.2 ^^^ Zg (u64.wrap (s1.2.2*2 ^ 13))).toNat) (2 ^ 7))).toNat) ^^^ Zg (u64.wrap ((u64.wrap (Zg (u64.wrap (Zg s1.2.2 ^^^ Zg (u64.wrap (s1.2.2*2 ^ 13))).toNat) ^^^ Zg (Int.fdiv (u64.wrap (Zg s1.2.2 ^^^ Zg (u64.wrap (s1.2.2*2 ^ 13))).toNat) (2 ^ 7))).toNat)*2 ^ 17))).toNat) &&& Zg (u64.wrap (x0-1))).toNat))-(w64 (c-b)))))).toNat x4),(u64.wrap (Zg (u64.wrap (Zg (u64.wrap (Zg s1.2.2 ^^^ Zg (u64.wrap (s1.2.2*2 ^ 13))).toNat) ^^^ Zg (Int.fdiv (u64.wrap (Zg s1.2.2 ^^^ Zg (u64.wrap (s1.2.2*2 ^ 13))).toNat) (2 ^ 7))).toNat) ^^^ Zg (u64.wrap ((u64.wrap (Zg (u64.wrap (Zg s1.2.2 ^^^ Zg (u64.wrap (s1.2.2*2 ^ 13))).toNat) ^^^ Zg (Int.fdiv (u64.wrap (Zg s1.2.2 ^^^ Zg (u64.wrap (s1.2.2*2 ^ 13))).toNat) (2 ^ 7))).toNat)*2 ^ 17))).toNat)))
  else
   (Zt s1.2.1 (w64 (b+(w64 (u64.wrap (Zg (u64.wrap (Zg (u64.wrap (Zg (u64.wrap (Zg s1.2.2 ^^^ Zg (u64.wrap (s1.2.2*2 ^ 13))).toNat) ^^^ Zg (Int.fdiv (u64.wrap (Zg s1.2.2 ^^^ Zg (u64.wrap (s1.2.2*2 ^ 13))).toNat) (2 ^ 7))).toNat) ^^^ Zg (u64.wrap ((u64.wrap (Zg (u64.wrap (Zg s1.2.2 ^^^ Zg (u64.wrap (s1.2.2*2 ^ 13))).toNat) ^^^ Zg (Int.fdiv (u64.wrap (Zg s1.2.2 ^^^ Zg (u64.wrap (s1.2.2*2 ^ 13))).toNat) (2 ^ 7))).toNat)*2 ^ 17))).toNat) &&& Zg (u64.wrap (x0-1))).toNat))))).bind fun x6=>
   (Zt s1.2.1 s1.1).bind fun x7=>
   (Zt (List.set s1.2.1 s1.1.toNat x6) (w64 (b+(w64 (u64.wrap (Zg (u64.wrap (Zg (u64.wrap (Zg (u64.wrap (Zg s1.2.2 ^^^ Zg (u64.wrap (s1.2.2*2 ^ 13))).toNat) ^^^ Zg (Int.fdiv (u64.wrap (Zg s1.2.2 ^^^ Zg (u64.wrap (s1.2.2*2 ^ 13))).toNat) (2 ^ 7))).toNat) ^^^ Zg (u64.wrap ((u64.wrap (Zg (u64.wrap (Zg s1.2.2 ^^^ Zg (u64.wrap (s1.2.2*2 ^ 13))).toNat) ^^^ Zg (Int.fdiv (u64.wrap (Zg s1.2.2 ^^^ Zg (u64.wrap (s1.2.2*2 ^ 13))).toNat) (2 ^ 7))).toNat)*2 ^ 17))).toNat) &&& Zg (u64.wrap (x0-1))).toNat))))).bind fun x8=>
   some (.inl ((w64 (s1.1+1)),(List.set (List.set s1.2.1 s1.1.toNat x6) (w64 (b+(w64 (u64.wrap (Zg (u64.wrap (Zg (u64.wrap (Zg (u64.wrap (Zg s1.2.2 ^^^ Zg (u64.wrap (s1.2.2*2 ^ 13))).toNat) ^^^ Zg (Int.fdiv (u64.wrap (Zg s1.2.2 ^^^ Zg (u64.wrap (s1.2.2*2 ^ 13))).toNat) (2 ^ 7))).toNat) ^^^ Zg (u64.wrap ((u64.wrap (Zg (u64.wrap (Zg s1.2.2 ^^^ Zg (u64.wrap (s1.2.2*2 ^ 13))).toNat) ^^^ Zg (Int.fdiv (u64.wrap (Zg s1.2.2 ^^^ Zg (u64.wrap (s1.2.2*2 ^ 13))).toNat) (2 ^ 7))).toNat)*2 ^ 17))).toNat) &&& Zg (u64.wrap (x0-1))).toNat)))).toNat x7),(u64.wrap (Zg (u64.wrap (Zg (u64.wrap (Zg s1.2.2 ^^^ Zg (u64.wrap (s1.2.2*2 ^ 13))).toNat) ^^^ Zg (Int.fdiv (u64.wrap (Zg s1.2.2 ^^^ Zg (u64.wrap (s1.2.2*2 ^ 13))).toNat) (2 ^ 7))).toNat) ^^^ Zg (u64.wrap ((u64.wrap (Zg (u64.wrap (Zg s1.2.2 ^^^ Zg (u64.wrap (s1.2.2*2 ^ 13))).toNat) ^^^ Zg (Int.fdiv (u64.wrap (Zg s1.2.2 ^^^ Zg (u64.wrap (s1.2.2*2 ^ 13))).toNat) (2 ^ 7))).toNat)*2 ^ 17))).toNat)))
 else
  some (.inr s1.2.1)
def ZaT (b:Int) (c:Int) (m0_0:List Int):Option (List Int):=
 bif (decide (8≤(w64 (c-b)))) then
  (Zcc (w64 (c-b))).bind fun x0=>
  (lp (Zbd b c x0) ((w64 ((w64 (b+(w64 ((w64 (Int.tdiv (w64 (c-b)) 4))*2))))-1)),m0_0,(u64.wrap (w64 (c-b))))).bind fun r9=>
  some r9
 else
  some m0_0
def ZbN (rc:Int→Int→Int→(List Int)→Option (List Int)) (s0:Int×Int×Int×Bool×Bool×(List Int)):Option ((Int×Int×Int×Bool×Bool×(List Int))⊕(List Int)):=
 bif s0.2.2.2.1 then
  bif s0.2.2.2.2.1 then
   bif (decide ((w64 (s0.2.1-s0.1))≤12)) then
    (Zaj s0.1 s0.2.1 s0.2.2.2.2.2).bind fun x1=>
    some (.inr x1)
   else
    bif (s0.2.2.1==0) then
     (ZaN s0.1 s0.2.1 s0.2.2.2.2.2).bind fun x2=>
     some (.inr x2)
    else
     (Zas s0.1 s0.2.1 s0.2.2.2.2.2).bind fun x3=>
     bif (x3.2==2) then
      (Zan s0.1 s0.2.1 s0.2.2.2.2.2).bind fun x4=>
      (Zap s0.1 s0.2.1 x4).bind fun x5=>
      match x5 with
      | (.inl x5)=>
       some (.inr x5)
      | (.inr x5)=>
       bif (decide (0<s0.1)) then
        (Zt x5 (w64 (s0.1-1))).bind fun x6=>
        (Zt x5 (w64 ((w64 (s0.2.1-1))-(w64 (x3.1-s0.1))))).bind fun x7=>
        (ZU x6 x7).bind fun x8=>
        bif x8 then
         (Zs s0.1 s0.2.1 (w64 ((w64 (s0.2.1-1))-(w64 (x3.1-s0.1)))) x5).bind fun x9=>
         match x9 with
         | (.inl x9)=>
          bif (decide ((w64 (x9.1-s0.1))<(w64 (s0.2.1-x9.1)))) then
           bif (decide ((w64 (Int.tdiv (w64 (s0.2.1-s0.1)) 8))≤(w64 (x9.1-s0.1)))) then
            (rc s0.1 x9.1 s0.2.2.1 x9.2).bind fun x10=>
            some (.inl ((w64 (x9.1+1)),s0.2.1,s0.2.2.1,true,true,x10))
           else
            (rc s0.1 x9.1 s0.2.2.1 x9.2).bind fun x11=>
            some (.inl ((w64 (x9.1+1)),s0.2.1,s0.2.2.1,false,true,x11))
          else
           bif (decide ((w64 (Int.tdiv (w64 (s0.2.1-s0.1)) 8))≤(w64 (s0.2.1-x9.1)))) then
            (rc (w64 (x9.1+1)) s0.2.1 s0.2.2.1 x9.2).bind fun x12=>
            some (.inl (s0.1,x9.1,s0.2.2.1,true,true,x12))
           else
            (rc (w64 (x9.1+1)) s0.2.1 s0.2.2.1 x9.2).bind fun x13=>
            some (.inl (s0.1,x9.1,s0.2.2.1,false,true,x13))
         | (.inr x9)=>
          bif (decide ((w64 (x9.1-s0.1))<(w64 (s0.2.1-x9.1)))) then
           bif (decide ((w64 (Int.tdiv (w64 (s0.2.1-s0.1)) 8))≤(w64 (x9.1-s0.1)))) then
            (rc s0.1 x9.1 s0.2.2.1 x9.2).bind fun x14=>
            some (.inl ((w64 (x9.1+1)),s0.2.1,s0.2.2.1,true,false,x14))
           else
            (rc s0.1 x9.1 s0.2.2.1 x9.2).bind fun x15=>
            some (.inl ((w64 (x9.1+1)),s0.2.1,s0.2.2.1,false,false,x15))
          else
           bif (decide ((w64 (Int.tdiv (w64 (s0.2.1-s0.1)) 8))≤(w64 (s0.2.1-x9.1)))) then
            (rc (w64 (x9.1+1)) s0.2.1 s0.2.2.1 x9.2).bind fun x16=>
            some (.inl (s0.1,x9.1,s0.2.2.1,true,false,x16))
           else
            (rc (w64 (x9.1+1)) s0.2.1 s0.2.2.1 x9.2).bind fun x17=>
            some (.inl (s0.1,x9.1,s0.2.2.1,false,false,x17))
        else
         (ZA s0.1 s0.2.1 (w64 ((w64 (s0.2.1-1))-(w64 (x3.1-s0.1)))) x5).bind fun x18=>
         some (.inl (x18.1,s0.2.1,s0.2.2.1,true,true,x18.2))
       else
        (Zs s0.1 s0.2.1 (w64 ((w64 (s0.2.1-1))-(w64 (x3.1-s0.1)))) x5).bind fun x19=>
        match x19 with
        | (.inl x19)=>
         bif (decide ((w64 (x19.1-s0.1))<(w64 (s0.2.1-x19.1)))) then
          bif (decide ((w64 (Int.tdiv (w64 (s0.2.1-s0.1)) 8))≤(w64 (x19.1-s0.1)))) then
           (rc s0.1 x19.1 s0.2.2.1 x19.2).bind fun x20=>
           some (.inl ((w64 (x19.1+1)),s0.2.1,s0.2.2.1,true,true,x20))
          else
           (rc s0.1 x19.1 s0.2.2.1 x19.2).bind fun x21=>
           some (.inl ((w64 (x19.1+1)),s0.2.1,s0.2.2.1,false,true,x21))
         else
          bif (decide ((w64 (Int.tdiv (w64 (s0.2.1-s0.1)) 8))≤(w64 (s0.2.1-x19.1)))) then
           (rc (w64 (x19.1+1)) s0.2.1 s0.2.2.1 x19.2).bind fun x22=>
           some (.inl (s0.1,x19.1,s0.2.2.1,true,true,x22))
          else
           (rc (w64 (x19.1+1)) s0.2.1 s0.2.2.1 x19.2).bind fun x23=>
           some (.inl (s0.1,x19.1,s0.2.2.1,false,true,x23))
        | (.inr x19)=>
         bif (decide ((w64 (x19.1-s0.1))<(w64 (s0.2.1-x19.1)))) then
          bif (decide ((w64 (Int.tdiv (w64 (s0.2.1-s0.1)) 8))≤(w64 (x19.1-s0.1)))) then
           (rc s0.1 x19.1 s0.2.2.1 x19.2).bind fun x24=>
           some (.inl ((w64 (x19.1+1)),s0.2.1,s0.2.2.1,true,false,x24))
          else
           (rc s0.1 x19.1 s0.2.2.1 x19.2).bind fun x25=>
           some (.inl ((w64 (x19.1+1)),s0.2.1,s0.2.2.1,false,false,x25))
         else
          bif (decide ((w64 (Int.tdiv (w64 (s0.2.1-s0.1)) 8))≤(w64 (s0.2.1-x19.1)))) then
           (rc (w64 (x19.1+1)) s0.2.1 s0.2.2.1 x19.2).bind fun x26=>
           some (.inl (s0.1,x19.1,s0.2.2.1,true,false,x26))
          else
           (rc (w64 (x19.1+1)) s0.2.1 s0.2.2.1 x19.2).bind fun x27=>
           some (.inl (s0.1,x19.1,s0.2.2.1,false,false,x27))
     else
      bif (x3.2==1) then
       (Zap s0.1 s0.2.1 s0.2.2.2.2.2).bind fun x28=>
       match x28 with
       | (.inl x28)=>
        some (.inr x28)
       | (.inr x28)=>
        bif (decide (0<s0.1)) then
         (Zt x28 (w64 (s0.1-1))).bind fun x29=>
         (Zt x28 x3.1).bind fun x30=>
         (ZU x29 x30).bind fun x31=>
         bif x31 then
          (Zs s0.1 s0.2.1 x3.1 x28).bind fun x32=>
          match x32 with
          | (.inl x32)=>
           bif (decide ((w64 (x32.1-s0.1))<(w64 (s0.2.1-x32.1)))) then
            bif (decide ((w64 (Int.tdiv (w64 (s0.2.1-s0.1)) 8))≤(w64 (x32.1-s0.1)))) then
             (rc s0.1 x32.1 s0.2.2.1 x32.2).bind fun x33=>
             some (.inl ((w64 (x32.1+1)),s0.2.1,s0.2.2.1,true,true,x33))
            else
             (rc s0.1 x32.1 s0.2.2.1 x32.2).bind fun x34=>
             some (.inl ((w64 (x32.1+1)),s0.2.1,s0.2.2.1,false,true,x34))
           else
            bif (decide ((w64 (Int.tdiv (w64 (s0.2.1-s0.1)) 8))≤(w64 (s0.2.1-x32.1)))) then
             (rc (w64 (x32.1+1)) s0.2.1 s0.2.2.1 x32.2).bind fun x35=>
             some (.inl (s0.1,x32.1,s0.2.2.1,true,true,x35))
            else
             (rc (w64 (x32.1+1)) s0.2.1 s0.2.2.1 x32.2).bind fun x36=>
             some (.inl (s0.1,x32.1,s0.2.2.1,false,true,x36))
          | (.inr x32)=>
           bif (decide ((w64 (x32.1-s0.1))<(w64 (s0.2.1-x32.1)))) then
            bif (decide ((w64 (Int.tdiv (w64 (s0.2.1-s0.1)) 8))≤(w64 (x32.1-s0.1)))) then
             (rc s0.1 x32.1 s0.2.2.1 x32.2).bind fun x37=>
             some (.inl ((w64 (x32.1+1)),s0.2.1,s0.2.2.1,true,false,x37))
            else
             (rc s0.1 x32.1 s0.2.2.1 x32.2).bind fun x38=>
             some (.inl ((w64 (x32.1+1)),s0.2.1,s0.2.2.1,false,false,x38))
           else
            bif (decide ((w64 (Int.tdiv (w64 (s0.2.1-s0.1)) 8))≤(w64 (s0.2.1-x32.1)))) then
             (rc (w64 (x32.1+1)) s0.2.1 s0.2.2.1 x32.2).bind fun x39=>
             some (.inl (s0.1,x32.1,s0.2.2.1,true,false,x39))
            else
             (rc (w64 (x32.1+1)) s0.2.1 s0.2.2.1 x32.2).bind fun x40=>
             some (.inl (s0.1,x32.1,s0.2.2.1,false,false,x40))
         else
          (ZA s0.1 s0.2.1 x3.1 x28).bind fun x41=>
          some (.inl (x41.1,s0.2.1,s0.2.2.1,true,true,x41.2))
        else
         (Zs s0.1 s0.2.1 x3.1 x28).bind fun x42=>
         match x42 with
         | (.inl x42)=>
          bif (decide ((w64 (x42.1-s0.1))<(w64 (s0.2.1-x42.1)))) then
           bif (decide ((w64 (Int.tdiv (w64 (s0.2.1-s0.1)) 8))≤(w64 (x42.1-s0.1)))) then
            (rc s0.1 x42.1 s0.2.2.1 x42.2).bind fun x43=>
            some (.inl ((w64 (x42.1+1)),s0.2.1,s0.2.2.1,true,true,x43))
           else
            (rc s0.1 x42.1 s0.2.2.1 x42.2).bind fun x44=>
            some (.inl ((w64 (x42.1+1)),s0.2.1,s0.2.2.1,false,true,x44))
          else
           bif (decide ((w64 (Int.tdiv (w64 (s0.2.1-s0.1)) 8))≤(w64 (s0.2.1-x42.1)))) then
            (rc (w64 (x42.1+1)) s0.2.1 s0.2.2.1 x42.2).bind fun x45=>
            some (.inl (s0.1,x42.1,s0.2.2.1,true,true,x45))
           else
            (rc (w64 (x42.1+1)) s0.2.1 s0.2.2.1 x42.2).bind fun x46=>
            some (.inl (s0.1,x42.1,s0.2.2.1,false,true,x46))
         | (.inr x42)=>
          bif (decide ((w64 (x42.1-s0.1))<(w64 (s0.2.1-x42.1)))) then
           bif (decide ((w64 (Int.tdiv (w64 (s0.2.1-s0.1)) 8))≤(w64 (x42.1-s0.1)))) then
            (rc s0.1 x42.1 s0.2.2.1 x42.2).bind fun x47=>
            some (.inl ((w64 (x42.1+1)),s0.2.1,s0.2.2.1,true,false,x47))
           else
            (rc s0.1 x42.1 s0.2.2.1 x42.2).bind fun x48=>
            some (.inl ((w64 (x42.1+1)),s0.2.1,s0.2.2.1,false,false,x48))
          else
           bif (decide ((w64 (Int.tdiv (w64 (s0.2.1-s0.1)) 8))≤(w64 (s0.2.1-x42.1)))) then
            (rc (w64 (x42.1+1)) s0.2.1 s0.2.2.1 x42.2).bind fun x49=>
            some (.inl (s0.1,x42.1,s0.2.2.1,true,false,x49))
           else
            (rc (w64 (x42.1+1)) s0.2.1 s0.2.2.1 x42.2).bind fun x50=>
            some (.inl (s0.1,x42.1,s0.2.2.1,false,false,x50))
      else
       bif (decide (0<s0.1)) then
        (Zt s0.2.2.2.2.2 (w64 (s0.1-1))).bind fun x51=>
        (Zt s0.2.2.2.2.2 x3.1).bind fun x52=>
        (ZU x51 x52).bind fun x53=>
        bif x53 then
         (Zs s0.1 s0.2.1 x3.1 s0.2.2.2.2.2).bind fun x54=>
         match x54 with
         | (.inl x54)=>
          bif (decide ((w64 (x54.1-s0.1))<(w64 (s0.2.1-x54.1)))) then
           bif (decide ((w64 (Int.tdiv (w64 (s0.2.1-s0.1)) 8))≤(w64 (x54.1-s0.1)))) then
            (rc s0.1 x54.1 s0.2.2.1 x54.2).bind fun x55=>
            some (.inl ((w64 (x54.1+1)),s0.2.1,s0.2.2.1,true,true,x55))
           else
            (rc s0.1 x54.1 s0.2.2.1 x54.2).bind fun x56=>
            some (.inl ((w64 (x54.1+1)),s0.2.1,s0.2.2.1,false,true,x56))
          else
           bif (decide ((w64 (Int.tdiv (w64 (s0.2.1-s0.1)) 8))≤(w64 (s0.2.1-x54.1)))) then
            (rc (w64 (x54.1+1)) s0.2.1 s0.2.2.1 x54.2).bind fun x57=>
            some (.inl (s0.1,x54.1,s0.2.2.1,true,true,x57))
           else
            (rc (w64 (x54.1+1)) s0.2.1 s0.2.2.1 x54.2).bind fun x58=>
            some (.inl (s0.1,x54.1,s0.2.2.1,false,true,x58))
         | (.inr x54)=>
          bif (decide ((w64 (x54.1-s0.1))<(w64 (s0.2.1-x54.1)))) then
           bif (decide ((w64 (Int.tdiv (w64 (s0.2.1-s0.1)) 8))≤(w64 (x54.1-s0.1)))) then
            (rc s0.1 x54.1 s0.2.2.1 x54.2).bind fun x59=>
            some (.inl ((w64 (x54.1+1)),s0.2.1,s0.2.2.1,true,false,x59))
           else
            (rc s0.1 x54.1 s0.2.2.1 x54.2).bind fun x60=>
            some (.inl ((w64 (x54.1+1)),s0.2.1,s0.2.2.1,false,false,x60))
          else
           bif (decide ((w64 (Int.tdiv (w64 (s0.2.1-s0.1)) 8))≤(w64 (s0.2.1-x54.1)))) then
            (rc (w64 (x54.1+1)) s0.2.1 s0.2.2.1 x54.2).bind fun x61=>
            some (.inl (s0.1,x54.1,s0.2.2.1,true,false,x61))
           else
            (rc (w64 (x54.1+1)) s0.2.1 s0.2.2.1 x54.2).bind fun x62=>
            some (.inl (s0.1,x54.1,s0.2.2.1,false,false,x62))
        else
         (ZA s0.1 s0.2.1 x3.1 s0.2.2.2.2.2).bind fun x63=>
         some (.inl (x63.1,s0.2.1,s0.2.2.1,true,true,x63.2))
       else
        (Zs s0.1 s0.2.1 x3.1 s0.2.2.2.2.2).bind fun x64=>
        match x64 with
        | (.inl x64)=>
         bif (decide ((w64 (x64.1-s0.1))<(w64 (s0.2.1-x64.1)))) then
          bif (decide ((w64 (Int.tdiv (w64 (s0.2.1-s0.1)) 8))≤(w64 (x64.1-s0.1)))) then
           (rc s0.1 x64.1 s0.2.2.1 x64.2).bind fun x65=>
           some (.inl ((w64 (x64.1+1)),s0.2.1,s0.2.2.1,true,true,x65))
          else
           (rc s0.1 x64.1 s0.2.2.1 x64.2).bind fun x66=>
           some (.inl ((w64 (x64.1+1)),s0.2.1,s0.2.2.1,false,true,x66))
         else
          bif (decide ((w64 (Int.tdiv (w64 (s0.2.1-s0.1)) 8))≤(w64 (s0.2.1-x64.1)))) then
           (rc (w64 (x64.1+1)) s0.2.1 s0.2.2.1 x64.2).bind fun x67=>
           some (.inl (s0.1,x64.1,s0.2.2.1,true,true,x67))
          else
           (rc (w64 (x64.1+1)) s0.2.1 s0.2.2.1 x64.2).bind fun x68=>
           some (.inl (s0.1,x64.1,s0.2.2.1,false,true,x68))
        | (.inr x64)=>
         bif (decide ((w64 (x64.1-s0.1))<(w64 (s0.2.1-x64.1)))) then
          bif (decide ((w64 (Int.tdiv (w64 (s0.2.1-s0.1)) 8))≤(w64 (x64.1-s0.1)))) then
           (rc s0.1 x64.1 s0.2.2.1 x64.2).bind fun x69=>
           some (.inl ((w64 (x64.1+1)),s0.2.1,s0.2.2.1,true,false,x69))
          else
           (rc s0.1 x64.1 s0.2.2.1 x64.2).bind fun x70=>
           some (.inl ((w64 (x64.1+1)),s0.2.1,s0.2.2.1,false,false,x70))
         else
          bif (decide ((w64 (Int.tdiv (w64 (s0.2.1-s0.1)) 8))≤(w64 (s0.2.1-x64.1)))) then
           (rc (w64 (x64.1+1)) s0.2.1 s0.2.2.1 x64.2).bind fun x71=>
           some (.inl (s0.1,x64.1,s0.2.2.1,true,false,x71))
          else
           (rc (w64 (x64.1+1)) s0.2.1 s0.2.2.1 x64.2).bind fun x72=>
           some (.inl (s0.1,x64.1,s0.2.2.1,false,false,x72))
  else
   bif (decide ((w64 (s0.2.1-s0.1))≤12)) then
    (Zaj s0.1 s0.2.1 s0.2.2.2.2.2).bind fun x73=>
    some (.inr x73)
   else
    bif (s0.2.2.1==0) then
     (ZaN s0.1 s0.2.1 s0.2.2.2.2.2).bind fun x74=>
     some (.inr x74)
    else
     (Zas s0.1 s0.2.1 s0.2.2.2.2.2).bind fun x75=>
     bif (x75.2==2) then
      (Zan s0.1 s0.2.1 s0.2.2.2.2.2).bind fun x76=>
      bif (decide (0<s0.1)) then
       (Zt x76 (w64 (s0.1-1))).bind fun x77=>
       (Zt x76 (w64 ((w64 (s0.2.1-1))-(w64 (x75.1-s0.1))))).bind fun x78=>
       (ZU x77 x78).bind fun x79=>
       bif x79 then
        (Zs s0.1 s0.2.1 (w64 ((w64 (s0.2.1-1))-(w64 (x75.1-s0.1)))) x76).bind fun x80=>
        match x80 with
        | (.inl x80)=>
         bif (decide ((w64 (x80.1-s0.1))<(w64 (s0.2.1-x80.1)))) then
          bif (decide ((w64 (Int.tdiv (w64 (s0.2.1-s0.1)) 8))≤(w64 (x80.1-s0.1)))) then
           (rc s0.1 x80.1 s0.2.2.1 x80.2).bind fun x81=>
           some (.inl ((w64 (x80.1+1)),s0.2.1,s0.2.2.1,true,true,x81))
          else
           (rc s0.1 x80.1 s0.2.2.1 x80.2).bind fun x82=>
           some (.inl ((w64 (x80.1+1)),s0.2.1,s0.2.2.1,false,true,x82))
         else
          bif (decide ((w64 (Int.tdiv (w64 (s0.2.1-s0.1)) 8))≤(w64 (s0.2.1-x80.1)))) then
           (rc (w64 (x80.1+1)) s0.2.1 s0.2.2.1 x80.2).bind fun x83=>
           some (.inl (s0.1,x80.1,s0.2.2.1,true,true,x83))
          else
           (rc (w64 (x80.1+1)) s0.2.1 s0.2.2.1 x80.2).bind fun x84=>
           some (.inl (s0.1,x80.1,s0.2.2.1,false,true,x84))
        | (.inr x80)=>
         bif (decide ((w64 (x80.1-s0.1))<(w64 (s0.2.1-x80.1)))) then
          bif (decide ((w64 (Int.tdiv (w64 (s0.2.1-s0.1)) 8))≤(w64 (x80.1-s0.1)))) then
           (rc s0.1 x80.1 s0.2.2.1 x80.2).bind fun x85=>
           some (.inl ((w64 (x80.1+1)),s0.2.1,s0.2.2.1,true,false,x85))
          else
           (rc s0.1 x80.1 s0.2.2.1 x80.2).bind fun x86=>
           some (.inl ((w64 (x80.1+1)),s0.2.1,s0.2.2.1,false,false,x86))
         else
          bif (decide ((w64 (Int.tdiv (w64 (s0.2.1-s0.1)) 8))≤(w64 (s0.2.1-x80.1)))) then
           (rc (w64 (x80.1+1)) s0.2.1 s0.2.2.1 x80.2).bind fun x87=>
           some (.inl (s0.1,x80.1,s0.2.2.1,true,false,x87))
          else
           (rc (w64 (x80.1+1)) s0.2.1 s0.2.2.1 x80.2).bind fun x88=>
           some (.inl (s0.1,x80.1,s0.2.2.1,false,false,x88))
       else
        (ZA s0.1 s0.2.1 (w64 ((w64 (s0.2.1-1))-(w64 (x75.1-s0.1)))) x76).bind fun x89=>
        some (.inl (x89.1,s0.2.1,s0.2.2.1,true,false,x89.2))
      else
       (Zs s0.1 s0.2.1 (w64 ((w64 (s0.2.1-1))-(w64 (x75.1-s0.1)))) x76).bind fun x90=>
       match x90 with
       | (.inl x90)=>
        bif (decide ((w64 (x90.1-s0.1))<(w64 (s0.2.1-x90.1)))) then
         bif (decide ((w64 (Int.tdiv (w64 (s0.2.1-s0.1)) 8))≤(w64 (x90.1-s0.1)))) then
          (rc s0.1 x90.1 s0.2.2.1 x90.2).bind fun x91=>
          some (.inl ((w64 (x90.1+1)),s0.2.1,s0.2.2.1,true,true,x91))
         else
          (rc s0.1 x90.1 s0.2.2.1 x90.2).bind fun x92=>
          some (.inl ((w64 (x90.1+1)),s0.2.1,s0.2.2.1,false,true,x92))
        else
         bif (decide ((w64 (Int.tdiv (w64 (s0.2.1-s0.1)) 8))≤(w64 (s0.2.1-x90.1)))) then
          (rc (w64 (x90.1+1)) s0.2.1 s0.2.2.1 x90.2).bind fun x93=>
          some (.inl (s0.1,x90.1,s0.2.2.1,true,true,x93))
         else
          (rc (w64 (x90.1+1)) s0.2.1 s0.2.2.1 x90.2).bind fun x94=>
          some (.inl (s0.1,x90.1,s0.2.2.1,false,true,x94))
       | (.inr x90)=>
        bif (decide ((w64 (x90.1-s0.1))<(w64 (s0.2.1-x90.1)))) then
         bif (decide ((w64 (Int.tdiv (w64 (s0.2.1-s0.1)) 8))≤(w64 (x90.1-s0.1)))) then
          (rc s0.1 x90.1 s0.2.2.1 x90.2).bind fun x95=>
          some (.inl ((w64 (x90.1+1)),s0.2.1,s0.2.2.1,true,false,x95))
         else
          (rc s0.1 x90.1 s0.2.2.1 x90.2).bind fun x96=>
          some (.inl ((w64 (x90.1+1)),s0.2.1,s0.2.2.1,false,false,x96))
        else
         bif (decide ((w64 (Int.tdiv (w64 (s0.2.1-s0.1)) 8))≤(w64 (s0.2.1-x90.1)))) then
          (rc (w64 (x90.1+1)) s0.2.1 s0.2.2.1 x90.2).bind fun x97=>
          some (.inl (s0.1,x90.1,s0.2.2.1,true,false,x97))
         else
          (rc (w64 (x90.1+1)) s0.2.1 s0.2.2.1 x90.2).bind fun x98=>
          some (.inl (s0.1,x90.1,s0.2.2.1,false,false,x98))
     else
      bif (decide (0<s0.1)) then
       (Zt s0.2.2.2.2.2 (w64 (s0.1-1))).bind fun x99=>
       (Zt s0.2.2.2.2.2 x75.1).bind fun x100=>
       (ZU x99 x100).bind fun x101=>
       bif x101 then
        (Zs s0.1 s0.2.1 x75.1 s0.2.2.2.2.2).bind fun x102=>
        match x102 with
        | (.inl x102)=>
         bif (decide ((w64 (x102.1-s0.1))<(w64 (s0.2.1-x102.1)))) then
          bif (decide ((w64 (Int.tdiv (w64 (s0.2.1-s0.1)) 8))≤(w64 (x102.1-s0.1)))) then
           (rc s0.1 x102.1 s0.2.2.1 x102.2).bind fun x103=>
           some (.inl ((w64 (x102.1+1)),s0.2.1,s0.2.2.1,true,true,x103))
          else
           (rc s0.1 x102.1 s0.2.2.1 x102.2).bind fun x104=>
           some (.inl ((w64 (x102.1+1)),s0.2.1,s0.2.2.1,false,true,x104))
         else
          bif (decide ((w64 (Int.tdiv (w64 (s0.2.1-s0.1)) 8))≤(w64 (s0.2.1-x102.1)))) then
           (rc (w64 (x102.1+1)) s0.2.1 s0.2.2.1 x102.2).bind fun x105=>
           some (.inl (s0.1,x102.1,s0.2.2.1,true,true,x105))
          else
           (rc (w64 (x102.1+1)) s0.2.1 s0.2.2.1 x102.2).bind fun x106=>
           some (.inl (s0.1,x102.1,s0.2.2.1,false,true,x106))
        | (.inr x102)=>
         bif (decide ((w64 (x102.1-s0.1))<(w64 (s0.2.1-x102.1)))) then
          bif (decide ((w64 (Int.tdiv (w64 (s0.2.1-s0.1)) 8))≤(w64 (x102.1-s0.1)))) then
           (rc s0.1 x102.1 s0.2.2.1 x102.2).bind fun x107=>
           some (.inl ((w64 (x102.1+1)),s0.2.1,s0.2.2.1,true,false,x107))
          else
           (rc s0.1 x102.1 s0.2.2.1 x102.2).bind fun x108=>
           some (.inl ((w64 (x102.1+1)),s0.2.1,s0.2.2.1,false,false,x108))
         else
          bif (decide ((w64 (Int.tdiv (w64 (s0.2.1-s0.1)) 8))≤(w64 (s0.2.1-x102.1)))) then
           (rc (w64 (x102.1+1)) s0.2.1 s0.2.2.1 x102.2).bind fun x109=>
           some (.inl (s0.1,x102.1,s0.2.2.1,true,false,x109))
          else
           (rc (w64 (x102.1+1)) s0.2.1 s0.2.2.1 x102.2).bind fun x110=>
           some (.inl (s0.1,x102.1,s0.2.2.1,false,false,x110))
       else
        (ZA s0.1 s0.2.1 x75.1 s0.2.2.2.2.2).bind fun x111=>
        some (.inl (x111.1,s0.2.1,s0.2.2.1,true,false,x111.2))
      else
       (Zs s0.1 s0.2.1 x75.1 s0.2.2.2.2.2).bind fun x112=>
       match x112 with
       | (.inl x112)=>
        bif (decide ((w64 (x112.1-s0.1))<(w64 (s0.2.1-x112.1)))) then
         bif (decide ((w64 (Int.tdiv (w64 (s0.2.1-s0.1)) 8))≤(w64 (x112.1-s0.1)))) then
          (rc s0.1 x112.1 s0.2.2.1 x112.2).bind fun x113=>
          some (.inl ((w64 (x112.1+1)),s0.2.1,s0.2.2.1,true,true,x113))
         else
          (rc s0.1 x112.1 s0.2.2.1 x112.2).bind fun x114=>
          some (.inl ((w64 (x112.1+1)),s0.2.1,s0.2.2.1,false,true,x114))
        else
         bif (decide ((w64 (Int.tdiv (w64 (s0.2.1-s0.1)) 8))≤(w64 (s0.2.1-x112.1)))) then
          (rc (w64 (x112.1+1)) s0.2.1 s0.2.2.1 x112.2).bind fun x115=>
          some (.inl (s0.1,x112.1,s0.2.2.1,true,true,x115))
         else
          (rc (w64 (x112.1+1)) s0.2.1 s0.2.2.1 x112.2).bind fun x116=>
          some (.inl (s0.1,x112.1,s0.2.2.1,false,true,x116))
       | (.inr x112)=>
        bif (decide ((w64 (x112.1-s0.1))<(w64 (s0.2.1-x112.1)))) then
         bif (decide ((w64 (Int.tdiv (w64 (s0.2.1-s0.1)) 8))≤(w64 (x112.1-s0.1)))) then
          (rc s0.1 x112.1 s0.2.2.1 x112.2).bind fun x117=>
          some (.inl ((w64 (x112.1+1)),s0.2.1,s0.2.2.1,true,false,x117))
         else
          (rc s0.1 x112.1 s0.2.2.1 x112.2).bind fun x118=>
          some (.inl ((w64 (x112.1+1)),s0.2.1,s0.2.2.1,false,false,x118))
        else
         bif (decide ((w64 (Int.tdiv (w64 (s0.2.1-s0.1)) 8))≤(w64 (s0.2.1-x112.1)))) then
          (rc (w64 (x112.1+1)) s0.2.1 s0.2.2.1 x112.2).bind fun x119=>
          some (.inl (s0.1,x112.1,s0.2.2.1,true,false,x119))
         else
          (rc (w64 (x112.1+1)) s0.2.1 s0.2.2.1 x112.2).bind fun x120=>
          some (.inl (s0.1,x112.1,s0.2.2.1,false,false,x120))
 else
  bif s0.2.2.2.2.1 then
   bif (decide ((w64 (s0.2.1-s0.1))≤12)) then
    (Zaj s0.1 s0.2.1 s0.2.2.2.2.2).bind fun x121=>
    some (.inr x121)
   else
    bif (s0.2.2.1==0) then
     (ZaN s0.1 s0.2.1 s0.2.2.2.2.2).bind fun x122=>
     some (.inr x122)
    else
     (ZaT s0.1 s0.2.1 s0.2.2.2.2.2).bind fun x123=>
     (Zas s0.1 s0.2.1 x123).bind fun x124=>
     bif (x124.2==2) then
      (Zan s0.1 s0.2.1 x123).bind fun x125=>
      bif (decide (0<s0.1)) then
       (Zt x125 (w64 (s0.1-1))).bind fun x126=>
       (Zt x125 (w64 ((w64 (s0.2.1-1))-(w64 (x124.1-s0.1))))).bind fun x127=>
       (ZU x126 x127).bind fun x128=>
       bif x128 then
        (Zs s0.1 s0.2.1 (w64 ((w64 (s0.2.1-1))-(w64 (x124.1-s0.1)))) x125).bind fun x129=>
        match x129 with
        | (.inl x129)=>
         bif (decide ((w64 (x129.1-s0.1))<(w64 (s0.2.1-x129.1)))) then
          bif (decide ((w64 (Int.tdiv (w64 (s0.2.1-s0.1)) 8))≤(w64 (x129.1-s0.1)))) then
           (rc s0.1 x129.1 (w64 (s0.2.2.1-1)) x129.2).bind fun x130=>
           some (.inl ((w64 (x129.1+1)),s0.2.1,(w64 (s0.2.2.1-1)),true,true,x130))
          else
           (rc s0.1 x129.1 (w64 (s0.2.2.1-1)) x129.2).bind fun x131=>
           some (.inl ((w64 (x129.1+1)),s0.2.1,(w64 (s0.2.2.1-1)),false,true,x131))
         else
          bif (decide ((w64 (Int.tdiv (w64 (s0.2.1-s0.1)) 8))≤(w64 (s0.2.1-x129.1)))) then
           (rc (w64 (x129.1+1)) s0.2.1 (w64 (s0.2.2.1-1)) x129.2).bind fun x132=>
           some (.inl (s0.1,x129.1,(w64 (s0.2.2.1-1)),true,true,x132))
          else
           (rc (w64 (x129.1+1)) s0.2.1 (w64 (s0.2.2.1-1)) x129.2).bind fun x133=>
           some (.inl (s0.1,x129.1,(w64 (s0.2.2.1-1)),false,true,x133))
        | (.inr x129)=>
         bif (decide ((w64 (x129.1-s0.1))<(w64 (s0.2.1-x129.1)))) then
          bif (decide ((w64 (Int.tdiv (w64 (s0.2.1-s0.1)) 8))≤(w64 (x129.1-s0.1)))) then
           (rc s0.1 x129.1 (w64 (s0.2.2.1-1)) x129.2).bind fun x134=>
           some (.inl ((w64 (x129.1+1)),s0.2.1,(w64 (s0.2.2.1-1)),true,false,x134))
          else
           (rc s0.1 x129.1 (w64 (s0.2.2.1-1)) x129.2).bind fun x135=>
           some (.inl ((w64 (x129.1+1)),s0.2.1,(w64 (s0.2.2.1-1)),false,false,x135))
         else
          bif (decide ((w64 (Int.tdiv (w64 (s0.2.1-s0.1)) 8))≤(w64 (s0.2.1-x129.1)))) then
           (rc (w64 (x129.1+1)) s0.2.1 (w64 (s0.2.2.1-1)) x129.2).bind fun x136=>
           some (.inl (s0.1,x129.1,(w64 (s0.2.2.1-1)),true,false,x136))
          else
           (rc (w64 (x129.1+1)) s0.2.1 (w64 (s0.2.2.1-1)) x129.2).bind fun x137=>
           some (.inl (s0.1,x129.1,(w64 (s0.2.2.1-1)),false,false,x137))
       else
        (ZA s0.1 s0.2.1 (w64 ((w64 (s0.2.1-1))-(w64 (x124.1-s0.1)))) x125).bind fun x138=>
        some (.inl (x138.1,s0.2.1,(w64 (s0.2.2.1-1)),false,true,x138.2))
      else
       (Zs s0.1 s0.2.1 (w64 ((w64 (s0.2.1-1))-(w64 (x124.1-s0.1)))) x125).bind fun x139=>
       match x139 with
       | (.inl x139)=>
        bif (decide ((w64 (x139.1-s0.1))<(w64 (s0.2.1-x139.1)))) then
         bif (decide ((w64 (Int.tdiv (w64 (s0.2.1-s0.1)) 8))≤(w64 (x139.1-s0.1)))) then
          (rc s0.1 x139.1 (w64 (s0.2.2.1-1)) x139.2).bind fun x140=>
          some (.inl ((w64 (x139.1+1)),s0.2.1,(w64 (s0.2.2.1-1)),true,true,x140))
         else
          (rc s0.1 x139.1 (w64 (s0.2.2.1-1)) x139.2).bind fun x141=>
          some (.inl ((w64 (x139.1+1)),s0.2.1,(w64 (s0.2.2.1-1)),false,true,x141))
        else
         bif (decide ((w64 (Int.tdiv (w64 (s0.2.1-s0.1)) 8))≤(w64 (s0.2.1-x139.1)))) then
          (rc (w64 (x139.1+1)) s0.2.1 (w64 (s0.2.2.1-1)) x139.2).bind fun x142=>
          some (.inl (s0.1,x139.1,(w64 (s0.2.2.1-1)),true,true,x142))
         else
          (rc (w64 (x139.1+1)) s0.2.1 (w64 (s0.2.2.1-1)) x139.2).bind fun x143=>
          some (.inl (s0.1,x139.1,(w64 (s0.2.2.1-1)),false,true,x143))
       | (.inr x139)=>
        bif (decide ((w64 (x139.1-s0.1))<(w64 (s0.2.1-x139.1)))) then
         bif (decide ((w64 (Int.tdiv (w64 (s0.2.1-s0.1)) 8))≤(w64 (x139.1-s0.1)))) then
          (rc s0.1 x139.1 (w64 (s0.2.2.1-1)) x139.2).bind fun x144=>
          some (.inl ((w64 (x139.1+1)),s0.2.1,(w64 (s0.2.2.1-1)),true,false,x144))
         else
          (rc s0.1 x139.1 (w64 (s0.2.2.1-1)) x139.2).bind fun x145=>
          some (.inl ((w64 (x139.1+1)),s0.2.1,(w64 (s0.2.2.1-1)),false,false,x145))
        else
         bif (decide ((w64 (Int.tdiv (w64 (s0.2.1-s0.1)) 8))≤(w64 (s0.2.1-x139.1)))) then
          (rc (w64 (x139.1+1)) s0.2.1 (w64 (s0.2.2.1-1)) x139.2).bind fun x146=>
          some (.inl (s0.1,x139.1,(w64 (s0.2.2.1-1)),true,false,x146))
         else
          (rc (w64 (x139.1+1)) s0.2.1 (w64 (s0.2.2.1-1)) x139.2).bind fun x147=>
          some (.inl (s0.1,x139.1,(w64 (s0.2.2.1-1)),false,false,x147))
     else
      bif (decide (0<s0.1)) then
       (Zt x123 (w64 (s0.1-1))).bind fun x148=>
       (Zt x123 x124.1).bind fun x149=>
       (ZU x148 x149).bind fun x150=>
       bif x150 then
        (Zs s0.1 s0.2.1 x124.1 x123).bind fun x151=>
        match x151 with
        | (.inl x151)=>
         bif (decide ((w64 (x151.1-s0.1))<(w64 (s0.2.1-x151.1)))) then
          bif (decide ((w64 (Int.tdiv (w64 (s0.2.1-s0.1)) 8))≤(w64 (x151.1-s0.1)))) then
           (rc s0.1 x151.1 (w64 (s0.2.2.1-1)) x151.2).bind fun x152=>
           some (.inl ((w64 (x151.1+1)),s0.2.1,(w64 (s0.2.2.1-1)),true,true,x152))
          else
           (rc s0.1 x151.1 (w64 (s0.2.2.1-1)) x151.2).bind fun x153=>
           some (.inl ((w64 (x151.1+1)),s0.2.1,(w64 (s0.2.2.1-1)),false,true,x153))
         else
          bif (decide ((w64 (Int.tdiv (w64 (s0.2.1-s0.1)) 8))≤(w64 (s0.2.1-x151.1)))) then
           (rc (w64 (x151.1+1)) s0.2.1 (w64 (s0.2.2.1-1)) x151.2).bind fun x154=>
           some (.inl (s0.1,x151.1,(w64 (s0.2.2.1-1)),true,true,x154))
          else
           (rc (w64 (x151.1+1)) s0.2.1 (w64 (s0.2.2.1-1)) x151.2).bind fun x155=>
           some (.inl (s0.1,x151.1,(w64 (s0.2.2.1-1)),false,true,x155))
        | (.inr x151)=>
         bif (decide ((w64 (x151.1-s0.1))<(w64 (s0.2.1-x151.1)))) then
          bif (decide ((w64 (Int.tdiv (w64 (s0.2.1-s0.1)) 8))≤(w64 (x151.1-s0.1)))) then
           (rc s0.1 x151.1 (w64 (s0.2.2.1-1)) x151.2).bind fun x156=>
           some (.inl ((w64 (x151.1+1)),s0.2.1,(w64 (s0.2.2.1-1)),true,false,x156))
          else
           (rc s0.1 x151.1 (w64 (s0.2.2.1-1)) x151.2).bind fun x157=>
           some (.inl ((w64 (x151.1+1)),s0.2.1,(w64 (s0.2.2.1-1)),false,false,x157))
         else
          bif (decide ((w64 (Int.tdiv (w64 (s0.2.1-s0.1)) 8))≤(w64 (s0.2.1-x151.1)))) then
           (rc (w64 (x151.1+1)) s0.2.1 (w64 (s0.2.2.1-1)) x151.2).bind fun x158=>
           some (.inl (s0.1,x151.1,(w64 (s0.2.2.1-1)),true,false,x158))
          else
           (rc (w64 (x151.1+1)) s0.2.1 (w64 (s0.2.2.1-1)) x151.2).bind fun x159=>
           some (.inl (s0.1,x151.1,(w64 (s0.2.2.1-1)),false,false,x159))
       else
        (ZA s0.1 s0.2.1 x124.1 x123).bind fun x160=>
        some (.inl (x160.1,s0.2.1,(w64 (s0.2.2.1-1)),false,true,x160.2))
      else
       (Zs s0.1 s0.2.1 x124.1 x123).bind fun x161=>
       match x161 with
       | (.inl x161)=>
        bif (decide ((w64 (x161.1-s0.1))<(w64 (s0.2.1-x161.1)))) then
         bif (decide ((w64 (Int.tdiv (w64 (s0.2.1-s0.1)) 8))≤(w64 (x161.1-s0.1)))) then
          (rc s0.1 x161.1 (w64 (s0.2.2.1-1)) x161.2).bind fun x162=>
          some (.inl ((w64 (x161.1+1)),s0.2.1,(w64 (s0.2.2.1-1)),true,true,x162))
         else
          (rc s0.1 x161.1 (w64 (s0.2.2.1-1)) x161.2).bind fun x163=>
          some (.inl ((w64 (x161.1+1)),s0.2.1,(w64 (s0.2.2.1-1)),false,true,x163))
        else
         bif (decide ((w64 (Int.tdiv (w64 (s0.2.1-s0.1)) 8))≤(w64 (s0.2.1-x161.1)))) then
          (rc (w64 (x161.1+1)) s0.2.1 (w64 (s0.2.2.1-1)) x161.2).bind fun x164=>
          some (.inl (s0.1,x161.1,(w64 (s0.2.2.1-1)),true,true,x164))
         else
          (rc (w64 (x161.1+1)) s0.2.1 (w64 (s0.2.2.1-1)) x161.2).bind fun x165=>
          some (.inl (s0.1,x161.1,(w64 (s0.2.2.1-1)),false,true,x165))
       | (.inr x161)=>
        bif (decide ((w64 (x161.1-s0.1))<(w64 (s0.2.1-x161.1)))) then
         bif (decide ((w64 (Int.tdiv (w64 (s0.2.1-s0.1)) 8))≤(w64 (x161.1-s0.1)))) then
          (rc s0.1 x161.1 (w64 (s0.2.2.1-1)) x161.2).bind fun x166=>
          some (.inl ((w64 (x161.1+1)),s0.2.1,(w64 (s0.2.2.1-1)),true,false,x166))
         else
          (rc s0.1 x161.1 (w64 (s0.2.2.1-1)) x161.2).bind fun x167=>
          some (.inl ((w64 (x161.1+1)),s0.2.1,(w64 (s0.2.2.1-1)),false,false,x167))
        else
         bif (decide ((w64 (Int.tdiv (w64 (s0.2.1-s0.1)) 8))≤(w64 (s0.2.1-x161.1)))) then
          (rc (w64 (x161.1+1)) s0.2.1 (w64 (s0.2.2.1-1)) x161.2).bind fun x168=>
          some (.inl (s0.1,x161.1,(w64 (s0.2.2.1-1)),true,false,x168))
         else
          (rc (w64 (x161.1+1)) s0.2.1 (w64 (s0.2.2.1-1)) x161.2).bind fun x169=>
          some (.inl (s0.1,x161.1,(w64 (s0.2.2.1-1)),false,false,x169))
  else
   bif (decide ((w64 (s0.2.1-s0.1))≤12)) then
    (Zaj s0.1 s0.2.1 s0.2.2.2.2.2).bind fun x170=>
    some (.inr x170)
   else
    bif (s0.2.2.1==0) then
     (ZaN s0.1 s0.2.1 s0.2.2.2.2.2).bind fun x171=>
     some (.inr x171)
    else
     (ZaT s0.1 s0.2.1 s0.2.2.2.2.2).bind fun x172=>
     (Zas s0.1 s0.2.1 x172).bind fun x173=>
     bif (x173.2==2) then
      (Zan s0.1 s0.2.1 x172).bind fun x174=>
      bif (decide (0<s0.1)) then
       (Zt x174 (w64 (s0.1-1))).bind fun x175=>
       (Zt x174 (w64 ((w64 (s0.2.1-1))-(w64 (x173.1-s0.1))))).bind fun x176=>
       (ZU x175 x176).bind fun x177=>
       bif x177 then
        (Zs s0.1 s0.2.1 (w64 ((w64 (s0.2.1-1))-(w64 (x173.1-s0.1)))) x174).bind fun x178=>
        match x178 with
        | (.inl x178)=>
         bif (decide ((w64 (x178.1-s0.1))<(w64 (s0.2.1-x178.1)))) then
          bif (decide ((w64 (Int.tdiv (w64 (s0.2.1-s0.1)) 8))≤(w64 (x178.1-s0.1)))) then
           (rc s0.1 x178.1 (w64 (s0.2.2.1-1)) x178.2).bind fun x179=>
           some (.inl ((w64 (x178.1+1)),s0.2.1,(w64 (s0.2.2.1-1)),true,true,x179))
          else
           (rc s0.1 x178.1 (w64 (s0.2.2.1-1)) x178.2).bind fun x180=>
           some (.inl ((w64 (x178.1+1)),s0.2.1,(w64 (s0.2.2.1-1)),false,true,x180))
         else
          bif (decide ((w64 (Int.tdiv (w64 (s0.2.1-s0.1)) 8))≤(w64 (s0.2.1-x178.1)))) then
           (rc (w64 (x178.1+1)) s0.2.1 (w64 (s0.2.2.1-1)) x178.2).bind fun x181=>
           some (.inl (s0.1,x178.1,(w64 (s0.2.2.1-1)),true,true,x181))
          else
           (rc (w64 (x178.1+1)) s0.2.1 (w64 (s0.2.2.1-1)) x178.2).bind fun x182=>
           some (.inl (s0.1,x178.1,(w64 (s0.2.2.1-1)),false,true,x182))
        | (.inr x178)=>
         bif (decide ((w64 (x178.1-s0.1))<(w64 (s0.2.1-x178.1)))) then
          bif (decide ((w64 (Int.tdiv (w64 (s0.2.1-s0.1)) 8))≤(w64 (x178.1-s0.1)))) then
           (rc s0.1 x178.1 (w64 (s0.2.2.1-1)) x178.2).bind fun x183=>
           some (.inl ((w64 (x178.1+1)),s0.2.1,(w64 (s0.2.2.1-1)),true,false,x183))
          else
           (rc s0.1 x178.1 (w64 (s0.2.2.1-1)) x178.2).bind fun x184=>
           some (.inl ((w64 (x178.1+1)),s0.2.1,(w64 (s0.2.2.1-1)),false,false,x184))
         else
          bif (decide ((w64 (Int.tdiv (w64 (s0.2.1-s0.1)) 8))≤(w64 (s0.2.1-x178.1)))) then
           (rc (w64 (x178.1+1)) s0.2.1 (w64 (s0.2.2.1-1)) x178.2).bind fun x185=>
           some (.inl (s0.1,x178.1,(w64 (s0.2.2.1-1)),true,false,x185))
          else
           (rc (w64 (x178.1+1)) s0.2.1 (w64 (s0.2.2.1-1)) x178.2).bind fun x186=>
           some (.inl (s0.1,x178.1,(w64 (s0.2.2.1-1)),false,false,x186))
       else
        (ZA s0.1 s0.2.1 (w64 ((w64 (s0.2.1-1))-(w64 (x173.1-s0.1)))) x174).bind fun x187=>
        some (.inl (x187.1,s0.2.1,(w64 (s0.2.2.1-1)),false,false,x187.2))
      else
       (Zs s0.1 s0.2.1 (w64 ((w64 (s0.2.1-1))-(w64 (x173.1-s0.1)))) x174).bind fun x188=>
       match x188 with
       | (.inl x188)=>
        bif (decide ((w64 (x188.1-s0.1))<(w64 (s0.2.1-x188.1)))) then
         bif (decide ((w64 (Int.tdiv (w64 (s0.2.1-s0.1)) 8))≤(w64 (x188.1-s0.1)))) then
          (rc s0.1 x188.1 (w64 (s0.2.2.1-1)) x188.2).bind fun x189=>
          some (.inl ((w64 (x188.1+1)),s0.2.1,(w64 (s0.2.2.1-1)),true,true,x189))
         else
          (rc s0.1 x188.1 (w64 (s0.2.2.1-1)) x188.2).bind fun x190=>
          some (.inl ((w64 (x188.1+1)),s0.2.1,(w64 (s0.2.2.1-1)),false,true,x190))
        else
         bif (decide ((w64 (Int.tdiv (w64 (s0.2.1-s0.1)) 8))≤(w64 (s0.2.1-x188.1)))) then
          (rc (w64 (x188.1+1)) s0.2.1 (w64 (s0.2.2.1-1)) x188.2).bind fun x191=>
          some (.inl (s0.1,x188.1,(w64 (s0.2.2.1-1)),true,true,x191))
         else
          (rc (w64 (x188.1+1)) s0.2.1 (w64 (s0.2.2.1-1)) x188.2).bind fun x192=>
          some (.inl (s0.1,x188.1,(w64 (s0.2.2.1-1)),false,true,x192))
       | (.inr x188)=>
        bif (decide ((w64 (x188.1-s0.1))<(w64 (s0.2.1-x188.1)))) then
         bif (decide ((w64 (Int.tdiv (w64 (s0.2.1-s0.1)) 8))≤(w64 (x188.1-s0.1)))) then
          (rc s0.1 x188.1 (w64 (s0.2.2.1-1)) x188.2).bind fun x193=>
          some (.inl ((w64 (x188.1+1)),s0.2.1,(w64 (s0.2.2.1-1)),true,false,x193))
         else
          (rc s0.1 x188.1 (w64 (s0.2.2.1-1)) x188.2).bind fun x194=>
          some (.inl ((w64 (x188.1+1)),s0.2.1,(w64 (s0.2.2.1-1)),false,false,x194))
        else
         bif (decide ((w64 (Int.tdiv (w64 (s0.2.1-s0.1)) 8))≤(w64 (s0.2.1-x188.1)))) then
          (rc (w64 (x188.1+1)) s0.2.1 (w64 (s0.2.2.1-1)) x188.2).bind fun x195=>
          some (.inl (s0.1,x188.1,(w64 (s0.2.2.1-1)),true,false,x195))
         else
          (rc (w64 (x188.1+1)) s0.2.1 (w64 (s0.2.2.1-1)) x188.2).bind fun x196=>
          some (.inl (s0.1,x188.1,(w64 (s0.2.2.1-1)),false,false,x196))
     else
      bif (decide (0<s0.1)) then
       (Zt x172 (w64 (s0.1-1))).bind fun x197=>
       (Zt x172 x173.1).bind fun x198=>
       (ZU x197 x198).bind fun x199=>
       bif x199 then
        (Zs s0.1 s0.2.1 x173.1 x172).bind fun x200=>
        match x200 with
        | (.inl x200)=>
         bif (decide ((w64 (x200.1-s0.1))<(w64 (s0.2.1-x200.1)))) then
          bif (decide ((w64 (Int.tdiv (w64 (s0.2.1-s0.1)) 8))≤(w64 (x200.1-s0.1)))) then
           (rc s0.1 x200.1 (w64 (s0.2.2.1-1)) x200.2).bind fun x201=>
           some (.inl ((w64 (x200.1+1)),s0.2.1,(w64 (s0.2.2.1-1)),true,true,x201))
          else
           (rc s0.1 x200.1 (w64 (s0.2.2.1-1)) x200.2).bind fun x202=>
           some (.inl ((w64 (x200.1+1)),s0.2.1,(w64 (s0.2.2.1-1)),false,true,x202))
         else
          bif (decide ((w64 (Int.tdiv (w64 (s0.2.1-s0.1)) 8))≤(w64 (s0.2.1-x200.1)))) then
           (rc (w64 (x200.1+1)) s0.2.1 (w64 (s0.2.2.1-1)) x200.2).bind fun x203=>
           some (.inl (s0.1,x200.1,(w64 (s0.2.2.1-1)),true,true,x203))
          else
           (rc (w64 (x200.1+1)) s0.2.1 (w64 (s0.2.2.1-1)) x200.2).bind fun x204=>
           some (.inl (s0.1,x200.1,(w64 (s0.2.2.1-1)),false,true,x204))
        | (.inr x200)=>
         bif (decide ((w64 (x200.1-s0.1))<(w64 (s0.2.1-x200.1)))) then
          bif (decide ((w64 (Int.tdiv (w64 (s0.2.1-s0.1)) 8))≤(w64 (x200.1-s0.1)))) then
           (rc s0.1 x200.1 (w64 (s0.2.2.1-1)) x200.2).bind fun x205=>
           some (.inl ((w64 (x200.1+1)),s0.2.1,(w64 (s0.2.2.1-1)),true,false,x205))
          else
           (rc s0.1 x200.1 (w64 (s0.2.2.1-1)) x200.2).bind fun x206=>
           some (.inl ((w64 (x200.1+1)),s0.2.1,(w64 (s0.2.2.1-1)),false,false,x206))
         else
          bif (decide ((w64 (Int.tdiv (w64 (s0.2.1-s0.1)) 8))≤(w64 (s0.2.1-x200.1)))) then
           (rc (w64 (x200.1+1)) s0.2.1 (w64 (s0.2.2.1-1)) x200.2).bind fun x207=>
           some (.inl (s0.1,x200.1,(w64 (s0.2.2.1-1)),true,false,x207))
          else
           (rc (w64 (x200.1+1)) s0.2.1 (w64 (s0.2.2.1-1)) x200.2).bind fun x208=>
           some (.inl (s0.1,x200.1,(w64 (s0.2.2.1-1)),false,false,x208))
       else
        (ZA s0.1 s0.2.1 x173.1 x172).bind fun x209=>
        some (.inl (x209.1,s0.2.1,(w64 (s0.2.2.1-1)),false,false,x209.2))
      else
       (Zs s0.1 s0.2.1 x173.1 x172).bind fun x210=>
       match x210 with
       | (.inl x210)=>
        bif (decide ((w64 (x210.1-s0.1))<(w64 (s0.2.1-x210.1)))) then
         bif (decide ((w64 (Int.tdiv (w64 (s0.2.1-s0.1)) 8))≤(w64 (x210.1-s0.1)))) then
          (rc s0.1 x210.1 (w64 (s0.2.2.1-1)) x210.2).bind fun x211=>
          some (.inl ((w64 (x210.1+1)),s0.2.1,(w64 (s0.2.2.1-1)),true,true,x211))
         else
          (rc s0.1 x210.1 (w64 (s0.2.2.1-1)) x210.2).bind fun x212=>
          some (.inl ((w64 (x210.1+1)),s0.2.1,(w64 (s0.2.2.1-1)),false,true,x212))
        else
         bif (decide ((w64 (Int.tdiv (w64 (s0.2.1-s0.1)) 8))≤(w64 (s0.2.1-x210.1)))) then
          (rc (w64 (x210.1+1)) s0.2.1 (w64 (s0.2.2.1-1)) x210.2).bind fun x213=>
          some (.inl (s0.1,x210.1,(w64 (s0.2.2.1-1)),true,true,x213))
         else
          (rc (w64 (x210.1+1)) s0.2.1 (w64 (s0.2.2.1-1)) x210.2).bind fun x214=>
          some (.inl (s0.1,x210.1,(w64 (s0.2.2.1-1)),false,true,x214))
       | (.inr x210)=>
        bif (decide ((w64 (x210.1-s0.1))<(w64 (s0.2.1-x210.1)))) then
         bif (decide ((w64 (Int.tdiv (w64 (s0.2.1-s0.1)) 8))≤(w64 (x210.1-s0.1)))) then
          (rc s0.1 x210.1 (w64 (s0.2.2.1-1)) x210.2).bind fun x215=>
          some (.inl ((w64 (x210.1+1)),s0.2.1,(w64 (s0.2.2.1-1)),true,false,x215))
         else
          (rc s0.1 x210.1 (w64 (s0.2.2.1-1)) x210.2).bind fun x216=>
          some (.inl ((w64 (x210.1+1)),s0.2.1,(w64 (s0.2.2.1-1)),false,false,x216))
        else
         bif (decide ((w64 (Int.tdiv (w64 (s0.2.1-s0.1)) 8))≤(w64 (s0.2.1-x210.1)))) then
          (rc (w64 (x210.1+1)) s0.2.1 (w64 (s0.2.2.1-1)) x210.2).bind fun x217=>
          some (.inl (s0.1,x210.1,(w64 (s0.2.2.1-1)),true,false,x217))
         else
          (rc (w64 (x210.1+1)) s0.2.1 (w64 (s0.2.2.1-1)) x210.2).bind fun x218=>
          some (.inl (s0.1,x210.1,(w64 (s0.2.2.1-1)),false,false,x218))
def ZbT (rc:Int→Int→Int→(List Int)→Option (List Int)) (b:Int) (c:Int) (d:Int) (m0_0:List Int):Option (List Int):=
 (lp (ZbN rc) (b,c,d,true,true,m0_0)).bind fun r219=>
 some r219
def ZaU:Nat→Int→Int→Int→(List Int)→Option (List Int)
 | 0=>fun _ _ _ _=>none
 | n+1=>ZbT (ZaU n)
def Zd6 (b:Int) (c:Int) (d:Int) (m0_0:List Int):Option (List Int):=ZxA fun n=>ZaU n b c d m0_0
def ZbL (m0_0:List Int):Option (List Int):=
 (ZdW (u64.wrap (m0_0.length:Int))).bind fun x0=>
 (Zd6 0 (m0_0.length:Int) x0 m0_0).bind fun x1=>
 some x1
def ZeF (m0_0:List Int) (s0:Int×(List Int)×(List Int)×(List Int)):Option ((Int×(List Int)×(List Int)×(List Int))⊕((List Int)×(List Int)×(List Int))):=
 bif (decide (s0.1<(m0_0.length:Int))) then
  (Zt s0.2.1 s0.1).bind fun x1=>
  bif (x1==(-1)) then
   some (.inl ((w64 (s0.1+1)),s0.2.1,s0.2.2.1,s0.2.2.2))
  else
   (Zt s0.2.2.1 x1).bind fun x2=>
   (Ze4 (Z6.mk s0.2.1 (List.set s0.2.2.1 x1.toNat (w64 (x2-1)))) x1).bind fun x3=>
   bif x3 then
    bif (Nat.ble (List.length s0.2.2.2+1) lim) then
     some (.inl ((w64 (s0.1+1)),(List.set s0.2.1 s0.1.toNat (-1)),(List.set s0.2.2.1 x1.toNat (w64 (x2-1))),(s0.2.2.2++[x1])))
    else
     none
   else
    some (.inl ((w64 (s0.1+1)),s0.2.1,(List.set s0.2.2.1 x1.toNat (w64 (x2-1))),s0.2.2.2))
 else
  some (.inr (s0.2.1,s0.2.2.1,s0.2.2.2))
def Zks (m0_0:List Int) (m1_0:List Int):Option ((List Int)×(List Int)×(List Int)):=
 (lp (ZeF m0_0) (0,m0_0,m1_0,([]:List Int))).bind fun r4=>
 (ZbL r4.2.2).bind fun x5=>
 some (r4.1,r4.2.1,x5)
def ZiD (a:ZB) (b:Z6):Option (Int⊕((List Int)×(List Int)×(List Int))):=
 (Zf1 a b).bind fun x0=>
 bif (x0 != 0) then
  some (.inl x0)
 else
  (Zls b).bind fun x1=>
  (Zks b.on b.left).bind fun x2=>
  some (.inr (x2.1,x2.2.1,x2.2.2))
def Zfl (a:ZZ) (b0:Int):Option (Int×Bool):=
 bif (a.src==b0) then
  some (a.dst,true)
 else
  some (a.dst,false)
def ZgX (a:ZB) (b:(ZZ→Option (Int×Bool))) (s0:Int×(List Int)):Option ((Int×(List Int))⊕(List Int)):=
 bif (decide (s0.1<(a.edges.length:Int))) then
  (Zt a.edges s0.1).bind fun x1=>
  (b x1).bind fun x2=>
  bif x2.2 then
   bif (Nat.ble (List.length s0.2+1) lim) then
    some (.inl ((w64 (s0.1+1)),(s0.2++[x2.1])))
   else
    none
  else
   some (.inl ((w64 (s0.1+1)),s0.2))
 else
  some (.inr s0.2)
def Zng (a:ZB) (b:(ZZ→Option (Int×Bool))):Option (List Int):=
 (lp (ZgX a b) (0,([]:List Int))).bind fun r3=>
 (ZbL r3).bind fun x4=>
 some x4
def ZiH (a:ZB) (b:Int):Option (List Int):=
 (ZgG a).bind fun x0=>
 bif (x0 != 0) then
  some ([]:List Int)
 else
  (Zng a (fun z0=>Zfl z0 b)).bind fun x1=>
  some x1
def Zck (x2:List Int) (s3:Int×(List Zi)×(List Int)) (x6:List Int) (s7:Int×(List Zi)×(List Int)):Option ((Int×(List Zi)×(List Int))⊕(((List Zi)×(List Int))⊕((List Zi)×(List Int)))):=
 bif (decide (s7.1<(x6.length:Int))) then
  (Zt x6 s7.1).bind fun x8=>
  (Zak x2 x8).bind fun x9=>
  bif x9 then
   (Zak s7.2.2 x8).bind fun x10=>
   bif x10 then
    some (.inl ((w64 (s7.1+1)),s7.2.1,s7.2.2))
   else
    (ZdQ s3.1 x8 s7.2.1).bind fun x11=>
    match x11 with
    | (.inl x11)=>
     bif (Nat.ble (List.length s7.2.2+1) lim) then
      some (.inl ((w64 (s7.1+1)),x11,(s7.2.2++[x8])))
     else
      none
    | (.inr x11)=>
     some (.inr (.inl (x11,s7.2.2)))
  else
   some (.inl ((w64 (s7.1+1)),s7.2.1,s7.2.2))
 else
  some (.inr (.inr (s7.2.1,s7.2.2)))
def Zcm (m0_0:List Int) (m0_1:List ZZ) (m1_0:List Int) (x1:((List Int)×(List Int)×(List Int))) (x2:List Int) (s3:Int×(List Zi)×(List Int)):Option ((Int×(List Zi)×(List Int))⊕((List Zi)⊕(List Zi))):=
 bif (decide (s3.1<(m1_0.length:Int))) then
  (Zt m1_0 s3.1).bind fun x4=>
  bif (x4==(-1)) then
   some (.inl ((w64 (s3.1+1)),s3.2.1,s3.2.2))
  else
   (Zt x1.1 s3.1).bind fun x5=>
   bif (x5 != (-1)) then
    some (.inl ((w64 (s3.1+1)),s3.2.1,s3.2.2))
   else
    (ZiH (ZB.mk m0_0 m0_1) x4).bind fun x6=>
    (lp (Zck x2 s3 x6) (0,s3.2.1,s3.2.2)).bind fun r12=>
    match r12 with
    | (.inl r12)=>
     some (.inr (.inl r12.1))
    | (.inr r12)=>
     some (.inl ((w64 (s3.1+1)),r12.1,r12.2))
 else
  some (.inr (.inr s3.2.1))
def Ze9 (m0_0:List Int) (m0_1:List ZZ) (m1_0:List Int) (m2_0:List Int) (m3_0:List Zi):Option (Int⊕(((List Zi)×(List Int)×(List Int))⊕((List Zi)×(List Int)×(List Int)×(List Int)))):=
 (Z9 m1_0).bind fun x0=>
 (ZiD (ZB.mk m0_0 m0_1) (Z6.mk m1_0 m2_0)).bind fun x1=>
 match x1 with
 | (.inl x1)=>
  bif (x1 != 0) then
   some (.inl x1)
  else
   none
 | (.inr x1)=>
  (Zfd (ZB.mk m0_0 m0_1) (Z6.mk x1.1 x1.2.1)).bind fun x2=>
  (lp (Zcm m0_0 m0_1 m1_0 x1 x2) (0,m3_0,([]:List Int))).bind fun r13=>
  match r13 with
  | (.inl r13)=>
   some (.inr (.inl (r13,x1.1,x1.2.1)))
  | (.inr r13)=>
   some (.inr (.inr (r13,x1.2.2,x1.1,x1.2.1)))
def ZfX (a:ZB) (b:Zao):Option (Zao×(List Int)×Int):=
 (Zei a b).bind fun x0=>
 bif (x0 != 0) then
  some ((Zao.mk (Z6.mk ([]:List Int) ([]:List Int)) ([]:List Zi) ([]:List Zp) ([]:List Int)),([]:List Int),x0)
 else
  (ZgF b).bind fun x1=>
  (Ze9 a.work a.edges b.crew.on b.crew.left x1).bind fun x2=>
  match x2 with
  | (.inl x2)=>
   bif (x2 != 0) then
    some ((Zao.mk (Z6.mk ([]:List Int) ([]:List Int)) ([]:List Zi) ([]:List Zp) ([]:List Int)),([]:List Int),x2)
   else
    none
  | (.inr (.inl x2))=>
   some ((Zao.mk (Z6.mk ([]:List Int) ([]:List Int)) ([]:List Zi) ([]:List Zp) ([]:List Int)),([]:List Int),130)
  | (.inr (.inr x2))=>
   some ((Zao.mk (Z6.mk x2.2.2.1 x2.2.2.2) x2.1 b.takers b.from_),x2.2.1,0)
def ZfB (e:Int) (x2:Int) (s3:Unit):Option (Unit⊕Unit):=
 bif (decide (0<e)) then
  bif (x2==0) then
   none
  else
   some (.inr ())
 else
  some (.inr ())
def ZcW (a:ZB) (d:List Int) (e:Int) (s13:Int×(List Int)×(List Int)×(List Zi)×(List Zp)×(List Int)):Option ((Int×(List Int)×(List Int)×(List Zi)×(List Zp)×(List Int))⊕(((List Int)×(List Int)×(List Zi)×(List Zp)×(List Int)×(List Int)×(List Int)×(List Zi)×(List Zp)×(List Int))⊕((List Int)×(List Int)×(List Zi)×(List Zp)×(List Int)))):=
 bif (decide (s13.1<e)) then
  (Ze6 a).bind fun x14=>
  (Zef (Zao.mk (Z6.mk s13.2.1 s13.2.2.1) s13.2.2.2.1 s13.2.2.2.2.1 s13.2.2.2.2.2)).bind fun x15=>
  (ZfY d).bind fun x16=>
  (Zf0 a (Zao.mk (Z6.mk (Zao.mk (Z6.mk s13.2.1 s13.2.2.1) s13.2.2.2.1 s13.2.2.2.2.1 s13.2.2.2.2.2).crew.on (Zao.mk (Z6.mk s13.2.1 s13.2.2.1) s13.2.2.2.1 s13.2.2.2.2.1 s13.2.2.2.2.2).crew.left) x15 (Zao.mk (Z6.mk s13.2.1 s13.2.2.1) s13.2.2.2.1 s13.2.2.2.2.1 s13.2.2.2.2.2).takers (Zao.mk (Z6.mk s13.2.1 s13.2.2.1) s13.2.2.2.1 s13.2.2.2.2.1 s13.2.2.2.2.2).from_) d).bind fun x17=>
  (Ze6 a).bind fun x18=>
  (Zef x17.1).bind fun x19=>
  (ZfX a (Zao.mk x17.1.crew x19 x17.1.takers x17.1.from_)).bind fun x20=>
  bif (x17.2.2 != 0) then
   some (.inr (.inl (x20.1.crew.on,x20.1.crew.left,x20.1.deques,x20.1.takers,x20.1.from_,x20.1.crew.on,x20.1.crew.left,x20.1.deques,x20.1.takers,x20.1.from_)))
  else
   bif (x20.2.2 != 0) then
    some (.inr (.inl (x20.1.crew.on,x20.1.crew.left,x20.1.deques,x20.1.takers,x20.1.from_,x20.1.crew.on,x20.1.crew.left,x20.1.deques,x20.1.takers,x20.1.from_)))
   else
    some (.inl ((w64 (s13.1+1)),x20.1.crew.on,x20.1.crew.left,x20.1.deques,x20.1.takers,x20.1.from_))
 else
  some (.inr (.inr (s13.2.1,s13.2.2.1,s13.2.2.2.1,s13.2.2.2.2.1,s13.2.2.2.2.2)))
def ZcY (a:ZB) (b:List Int) (c:Int) (d:List Int) (e:Int) (x2:((List Int)×(List Zi))) (s5:Unit):Option (Unit⊕(((List Int)×(List Int)×(List Zi)×(List Zp)×(List Int)×(List Int)×(List Int)×(List Zi)×(List Zp)×(List Int))⊕(((List Int)×(List Int)×(List Zi)×(List Zp)×(List Int))⊕Unit))):=
 bif (decide (0<e)) then
  (Ze6 a).bind fun x6=>
  (Zef (Zao.mk (Z6.mk x2.1 b) x2.2 (List.replicate c.toNat ((Zp.mk false 0 0 0 0 0):Zp)) (List.replicate c.toNat (0:Int)))).bind fun x7=>
  (ZfY d).bind fun x8=>
  (Zf0 a (Zao.mk (Z6.mk (Zao.mk (Z6.mk x2.1 b) x2.2 (List.replicate c.toNat ((Zp.mk false 0 0 0 0 0):Zp)) (List.replicate c.toNat (0:Int))).crew.on (Zao.mk (Z6.mk x2.1 b) x2.2 (List.replicate c.toNat ((Zp.mk false 0 0 0 0 0):Zp)) (List.replicate c.toNat (0:Int))).crew.left) x7 (Zao.mk (Z6.mk x2.1 b) x2.2 (List.replicate c.toNat ((Zp.mk false 0 0 0 0 0):Zp)) (List.replicate c.toNat (0:Int))).takers (Zao.mk (Z6.mk x2.1 b) x2.2 (List.replicate c.toNat ((Zp.mk false 0 0 0 0 0):Zp)) (List.replicate c.toNat (0:Int))).from_) d).bind fun x9=>
  (Ze6 a).bind fun x10=>
  (Zef x9.1).bind fun x11=>
  (ZfX a (Zao.mk x9.1.crew x11 x9.1.takers x9.1.from_)).bind fun x12=>
  bif (x9.2.2 != 0) then
   some (.inr (.inl (x12.1.crew.on,x12.1.crew.left,x12.1.deques,x12.1.takers,x12.1.from_,x12.1.crew.on,x12.1.crew.left,x12.1.deques,x12.1.takers,x12.1.from_)))
  else
   bif (x12.2.2 != 0) then
    some (.inr (.inl (x12.1.crew.on,x12.1.crew.left,x12.1.deques,x12.1.takers,x12.1.from_,x12.1.crew.on,x12.1.crew.left,x12.1.deques,x12.1.takers,x12.1.from_)))
   else
    (lp (ZcW a d e) (1,x12.1.crew.on,x12.1.crew.left,x12.1.deques,x12.1.takers,x12.1.from_)).bind fun r21=>
    match r21 with
    | (.inl r21)=>
     some (.inr (.inl (r21.1,r21.2.1,r21.2.2.1,r21.2.2.2.1,r21.2.2.2.2.1,r21.2.2.2.2.2.1,r21.2.2.2.2.2.2.1,r21.2.2.2.2.2.2.2.1,r21.2.2.2.2.2.2.2.2.1,r21.2.2.2.2.2.2.2.2.2)))
    | (.inr r21)=>
     some (.inr (.inr (.inl (r21.1,r21.2.1,r21.2.2.1,r21.2.2.2.1,r21.2.2.2.2))))
 else
  some (.inr (.inr (.inr ())))
def Zfg (a:ZB) (b:List Int) (c:Int) (d:List Int) (e:Int):Option (Zao×Bool):=
 (Ze6 a).bind fun x0=>
 (ZfY b).bind fun x1=>
 (ZgP a b c).bind fun x2=>
 match x2 with
 | (.inl x2)=>
  (lp (ZfB e x2) ()).bind fun r4=>
  bif (x2==0) then
   none
  else
   some ((Zao.mk (Z6.mk ([]:List Int) ([]:List Int)) ([]:List Zi) ([]:List Zp) ([]:List Int)),false)
 | (.inr x2)=>
  (lp (ZcY a b c d e x2) ()).bind fun r22=>
  match r22 with
  | (.inl r22)=>
   some ((Zao.mk (Z6.mk r22.1 r22.2.1) r22.2.2.1 r22.2.2.2.1 r22.2.2.2.2.1),false)
  | (.inr (.inl r22))=>
   some ((Zao.mk (Z6.mk r22.1 r22.2.1) r22.2.2.1 r22.2.2.2.1 r22.2.2.2.2),true)
  | (.inr (.inr r22))=>
   some ((Zao.mk (Z6.mk x2.1 b) x2.2 (List.replicate c.toNat ((Zp.mk false 0 0 0 0 0):Zp)) (List.replicate c.toNat (0:Int))),true)
def Zhp (a:ZB) (b:Zao):Option (List Int):=
 (Zei a b).bind fun x0=>
 bif (x0 != 0) then
  some ([]:List Int)
 else
  (ZcV b.crew.on b.deques b.takers).bind fun x1=>
  some x1
def ZfJ (a:List Int) (b:Int) (s0:Int):Option (Int⊕(Unit⊕Unit)):=
 bif (decide (s0<(a.length:Int))) then
  (Zt a s0).bind fun x1=>
  bif (x1==b) then
   some (.inr (.inl ()))
  else
   some (.inl (w64 (s0+1)))
 else
  some (.inr (.inr ()))
def ZgK (a:List Int) (b:Int):Option Bool:=
 (lp (ZfJ a b) 0).bind fun r2=>
 match r2 with
 | (.inl r2)=>
  some true
 | (.inr r2)=>
  some false
def ZeW (a:ZB) (b:Int) (c:Int) (s0:Int):Option (Int⊕(Unit⊕Unit)):=
 bif (decide (s0<(a.edges.length:Int))) then
  (Zt a.edges s0).bind fun x1=>
  bif (x1.src==b) then
   bif (x1.dst==c) then
    some (.inr (.inl ()))
   else
    some (.inl (w64 (s0+1)))
  else
   some (.inl (w64 (s0+1)))
 else
  some (.inr (.inr ()))
def ZhR (a:ZB) (b:Int) (c:Int):Option Bool:=
 (lp (ZeW a b c) 0).bind fun r2=>
 match r2 with
 | (.inl r2)=>
  some true
 | (.inr r2)=>
  some false
def Zel (a:ZB) (b:Int) (s0:Int×(List Int)):Option ((Int×(List Int))⊕(List Int)):=
 bif (decide (s0.1<(a.work.length:Int))) then
  (ZhR a s0.1 b).bind fun x1=>
  bif x1 then
   bif (Nat.ble (List.length s0.2+1) lim) then
    some (.inl ((w64 (s0.1+1)),(s0.2++[s0.1])))
   else
    none
  else
   some (.inl ((w64 (s0.1+1)),s0.2))
 else
  some (.inr s0.2)
def Zho (a:ZB) (b:Int):Option (List Int):=
 (lp (Zel a b) (0,([]:List Int))).bind fun r2=>
 some r2
def ZeX (b:Z6) (x0:List Int) (s1:Int):Option (Int⊕(Unit⊕Unit)):=
 bif (decide (s1<(x0.length:Int))) then
  (Zt x0 s1).bind fun x2=>
  (Zt b.left x2).bind fun x3=>
  bif (decide (0<x3)) then
   some (.inr (.inl ()))
  else
   some (.inl (w64 (s1+1)))
 else
  some (.inr (.inr ()))
def ZhM (a:ZB) (b:Z6) (c:Int):Option Bool:=
 (Zho a c).bind fun x0=>
 (lp (ZeX b x0) 0).bind fun r4=>
 match r4 with
 | (.inl r4)=>
  some false
 | (.inr r4)=>
  some true
def Zem (a:ZB) (b:Z6) (s0:Int×(List Int)):Option ((Int×(List Int))⊕(List Int)):=
 bif (decide (s0.1<(b.left.length:Int))) then
  (Zt b.left s0.1).bind fun x1=>
  bif (decide (0<x1)) then
   (ZgK b.on s0.1).bind fun x2=>
   bif x2 then
    some (.inl ((w64 (s0.1+1)),s0.2))
   else
    (ZhM a b s0.1).bind fun x3=>
    bif x3 then
     bif (Nat.ble (List.length s0.2+1) lim) then
      some (.inl ((w64 (s0.1+1)),(s0.2++[s0.1])))
     else
      none
    else
     some (.inl ((w64 (s0.1+1)),s0.2))
  else
   some (.inl ((w64 (s0.1+1)),s0.2))
 else
  some (.inr s0.2)
def Zhh (a:ZB) (b:Z6):Option (List Int):=
 (lp (Zem a b) (0,([]:List Int))).bind fun r4=>
 some r4
def ZhV (a:ZB) (b:Zao) (c:Int):Option (Zao×Int):=
 (Zei a b).bind fun x0=>
 bif (x0 != 0) then
  some ((Zao.mk (Z6.mk ([]:List Int) ([]:List Int)) ([]:List Zi) ([]:List Zp) ([]:List Int)),x0)
 else
  bif (decide (c<0)) then
   some ((Zao.mk (Z6.mk ([]:List Int) ([]:List Int)) ([]:List Zi) ([]:List Zp) ([]:List Int)),131)
  else
   bif (decide ((b.crew.on.length:Int)≤c)) then
    some ((Zao.mk (Z6.mk ([]:List Int) ([]:List Int)) ([]:List Zi) ([]:List Zp) ([]:List Int)),131)
   else
    (Zt b.crew.on c).bind fun x1=>
    bif (x1 != (-1)) then
     some ((Zao.mk (Z6.mk ([]:List Int) ([]:List Int)) ([]:List Zi) ([]:List Zp) ([]:List Int)),132)
    else
     (ZgF b).bind fun x2=>
     (Zbx c a.work a.edges b.crew.on b.crew.left x2 b.takers b.from_).bind fun x3=>
     bif (x3.1==0) then
      some ((Zao.mk (Z6.mk x3.2.1 b.crew.left) x3.2.2.1 x3.2.2.2.1 x3.2.2.2.2),0)
     else
      some ((Zao.mk (Z6.mk ([]:List Int) ([]:List Int)) ([]:List Zi) ([]:List Zp) ([]:List Int)),x3.1)
def ZeY (x2:Zi) (s3:Int×(List Int)):Option ((Int×(List Int))⊕(List Int)):=
 bif (decide (s3.1<x2.bottom)) then
  (Zt x2.ring (Int.tmod s3.1 64)).bind fun x4=>
  bif (Nat.ble (List.length s3.2+1) lim) then
   some (.inl ((w64 (s3.1+1)),(s3.2++[x4])))
  else
   none
 else
  some (.inr s3.2)
def ZcM (b:Zao) (s1:Int×Int×(List Int)):Option ((Int×Int×(List Int))⊕(Int×(List Int))):=
 bif (decide (s1.2.1<(b.deques.length:Int))) then
  (Zt b.deques s1.2.1).bind fun x2=>
  (lp (ZeY x2) (x2.top,s1.2.2)).bind fun r5=>
  (Zt b.takers s1.2.1).bind fun x6=>
  (Zt b.crew.on s1.2.1).bind fun x7=>
  bif (decide (x7<0)) then
   bif x6.steal then
    some (.inl (s1.1,(w64 (s1.2.1+1)),r5))
   else
    bif (decide (0<x6.at_)) then
     bif (x6.at_==4) then
      some (.inl ((w64 (s1.1+1)),(w64 (s1.2.1+1)),r5))
     else
      bif (decide (x6.at_<3)) then
       bif (decide (x2.top≤x6.bottom)) then
        some (.inl ((w64 (s1.1+1)),(w64 (s1.2.1+1)),r5))
       else
        some (.inl (s1.1,(w64 (s1.2.1+1)),r5))
      else
       some (.inl (s1.1,(w64 (s1.2.1+1)),r5))
    else
     some (.inl (s1.1,(w64 (s1.2.1+1)),r5))
  else
   some (.inl (s1.1,(w64 (s1.2.1+1)),r5))
 else
  some (.inr (s1.1,s1.2.2))
def ZeU (x0:List Int) (r8:(Int×(List Int))) (s9:Int):Option (Int⊕(Unit⊕Unit)):=
 bif (decide (s9<(r8.2.length:Int))) then
  bif (decide (0≤s9)) then
   bif (Nat.ble s9.toNat (List.length r8.2)) then
    (Zt r8.2 s9).bind fun x10=>
    (ZgK (List.take s9.toNat (List.drop 0 r8.2)) x10).bind fun x11=>
    bif x11 then
     some (.inr (.inl ()))
    else
     (ZgK x0 x10).bind fun x12=>
     bif x12 then
      some (.inl (w64 (s9+1)))
     else
      some (.inr (.inl ()))
   else
    none
  else
   none
 else
  some (.inr (.inr ()))
def Zh2 (a:ZB) (b:Zao):Option Bool:=
 (Zhh a b.crew).bind fun x0=>
 (lp (ZcM b) (0,0,([]:List Int))).bind fun r8=>
 (lp (ZeU x0 r8) 0).bind fun r13=>
 match r13 with
 | (.inl r13)=>
  some false
 | (.inr r13)=>
  bif ((w64 ((r8.2.length:Int)+r8.1))==(x0.length:Int)) then
   some true
  else
   some false
def Zc4 (s6:Int×(List Int)×(List Int)×(List Zi)×(List Zp)×(List Int)) (x12:(Zao×Int)) (s13:Int):Option (Int⊕(Unit⊕Unit)):=
 bif (decide (s13<(s6.2.1.length:Int))) then
  (Zt s6.2.1 s13).bind fun x14=>
  bif (decide (0≤x14)) then
   (Zt x12.1.crew.on s13).bind fun x15=>
   bif (x15 != x14) then
    some (.inr (.inl ()))
   else
    some (.inl (w64 (s13+1)))
  else
   some (.inl (w64 (s13+1)))
 else
  some (.inr (.inr ()))
def Zcl (a:ZB) (d:List Int) (s6:Int×(List Int)×(List Int)×(List Zi)×(List Zp)×(List Int)):Option ((Int×(List Int)×(List Int)×(List Zi)×(List Zp)×(List Int))⊕(Unit⊕(Unit⊕Unit))):=
 bif (decide (s6.1<(d.length:Int))) then
  (Zef (Zao.mk (Z6.mk s6.2.1 s6.2.2.1) s6.2.2.2.1 s6.2.2.2.2.1 s6.2.2.2.2.2)).bind fun x7=>
  (Zhp a (Zao.mk (Z6.mk (Zao.mk (Z6.mk s6.2.1 s6.2.2.1) s6.2.2.2.1 s6.2.2.2.2.1 s6.2.2.2.2.2).crew.on (Zao.mk (Z6.mk s6.2.1 s6.2.2.1) s6.2.2.2.1 s6.2.2.2.2.1 s6.2.2.2.2.2).crew.left) x7 (Zao.mk (Z6.mk s6.2.1 s6.2.2.1) s6.2.2.2.1 s6.2.2.2.2.1 s6.2.2.2.2.2).takers (Zao.mk (Z6.mk s6.2.1 s6.2.2.1) s6.2.2.2.1 s6.2.2.2.2.1 s6.2.2.2.2.2).from_)).bind fun x8=>
  bif ((x8.length:Int)==0) then
   some (.inr (.inl ()))
  else
   (Zef (Zao.mk (Z6.mk s6.2.1 s6.2.2.1) s6.2.2.2.1 s6.2.2.2.2.1 s6.2.2.2.2.2)).bind fun x9=>
   (Zt d s6.1).bind fun x10=>
   bif ((x8.length:Int)==0) then
    none
   else
    (Zt x8 (Int.tmod (bif decide (x10<0) then 0 else x10) (x8.length:Int))).bind fun x11=>
    (ZhV a (Zao.mk (Z6.mk (Zao.mk (Z6.mk s6.2.1 s6.2.2.1) s6.2.2.2.1 s6.2.2.2.2.1 s6.2.2.2.2.2).crew.on (Zao.mk (Z6.mk s6.2.1 s6.2.2.1) s6.2.2.2.1 s6.2.2.2.2.1 s6.2.2.2.2.2).crew.left) x9 (Zao.mk (Z6.mk s6.2.1 s6.2.2.1) s6.2.2.2.1 s6.2.2.2.2.1 s6.2.2.2.2.2).takers (Zao.mk (Z6.mk s6.2.1 s6.2.2.1) s6.2.2.2.1 s6.2.2.2.2.1 s6.2.2.2.2.2).from_) x11).bind fun x12=>
    bif (x12.2 != 0) then
     some (.inr (.inr (.inl ())))
    else
     (lp (Zc4 s6 x12) 0).bind fun r16=>
     match r16 with
     | (.inl r16)=>
      some (.inr (.inr (.inl ())))
     | (.inr r16)=>
      (Zh2 a x12.1).bind fun x17=>
      bif x17 then
       some (.inl ((w64 (s6.1+1)),x12.1.crew.on,x12.1.crew.left,x12.1.deques,x12.1.takers,x12.1.from_))
      else
       some (.inr (.inr (.inl ())))
 else
  some (.inr (.inr (.inr ())))
def Zgo (a:ZB) (b:List Int) (c:Int) (d:List Int) (e:Int):Option Bool:=
 Zee.bind fun x0=>
 bif x0 then
  (ZiB a).bind fun x1=>
  bif x1 then
   bif (decide (70<(b.length:Int))) then
    Zee.bind fun x2=>
    bif x2 then
     some true
    else
     some false
   else
    (ZgN b).bind fun x3=>
    bif x3 then
     bif (decide (300<(d.length:Int))) then
      Zee.bind fun x4=>
      bif x4 then
       some true
      else
       some false
     else
      (Zfg a b c ([]:List Int) (Int.tmod (w64 e) 20)).bind fun x5=>
      bif x5.2 then
       (lp (Zcl a d) (0,x5.1.crew.on,x5.1.crew.left,x5.1.deques,x5.1.takers,x5.1.from_)).bind fun r18=>
       match r18 with
       | (.inl r18)=>
        some true
       | (.inr (.inl r18))=>
        some false
       | (.inr (.inr r18))=>
        some true
      else
       some true
    else
     Zee.bind fun x19=>
     bif x19 then
      some true
     else
      some false
  else
   Zee.bind fun x20=>
   bif x20 then
    some true
   else
    some false
 else
  Zee.bind fun x21=>
  bif x21 then
   some true
  else
   some false
def Zab (b:Int) (d:(Int→Int→Option Int)) (s1:Int×(List Int)):Option ((Int×(List Int))⊕(List Int)):=
 bif (decide (b<s1.1)) then
  (Zt s1.2 s1.1).bind fun x2=>
  (Zt s1.2 (w64 (s1.1-1))).bind fun x3=>
  (d x2 x3).bind fun x4=>
  bif (decide (x4<0)) then
   (Zt (List.set s1.2 s1.1.toNat x3) (w64 (s1.1-1))).bind fun x5=>
   some (.inl ((w64 (s1.1-1)),(List.set (List.set s1.2 s1.1.toNat x3) (w64 (s1.1-1)).toNat x2)))
  else
   some (.inr s1.2)
 else
  some (.inr s1.2)
def ZaK (b:Int) (c:Int) (d:(Int→Int→Option Int)) (s0:Int×(List Int)):Option ((Int×(List Int))⊕(List Int)):=
 bif (decide (s0.1<c)) then
  (lp (Zab b d) (s0.1,s0.2)).bind fun r6=>
  some (.inl ((w64 (s0.1+1)),r6))
 else
  some (.inr s0.2)
def Z7 (b:Int) (c:Int) (d:(Int→Int→Option Int)) (m0_0:List Int):Option (List Int):=
 (lp (ZaK b c d) ((w64 (b+1)),m0_0)).bind fun r7=>
 some r7
def ZJ (c:Int) (d:Int) (e:(Int→Int→Option Int)) (s0:Int×(List Int)):Option ((Int×(List Int))⊕((List Int)⊕(List Int))):=
 bif (decide (c≤(w64 ((w64 (2*s0.1))+1)))) then
  some (.inr (.inl s0.2))
 else
  bif (decide ((w64 ((w64 ((w64 (2*s0.1))+1))+1))<c)) then
   (Zt s0.2 (w64 (d+(w64 ((w64 (2*s0.1))+1))))).bind fun x1=>
   (Zt s0.2 (w64 ((w64 (d+(w64 ((w64 (2*s0.1))+1))))+1))).bind fun x2=>
   (e x1 x2).bind fun x3=>
   bif (decide (x3<0)) then
    (Zt s0.2 (w64 (d+s0.1))).bind fun x4=>
    (Zt s0.2 (w64 (d+(w64 ((w64 ((w64 (2*s0.1))+1))+1))))).bind fun x5=>
    (e x4 x5).bind fun x6=>
    bif (decide (x6<0)) then
     (Zt (List.set s0.2 (w64 (d+s0.1)).toNat x5) (w64 (d+(w64 ((w64 ((w64 (2*s0.1))+1))+1))))).bind fun x7=>
     some (.inl ((w64 ((w64 ((w64 (2*s0.1))+1))+1)),(List.set (List.set s0.2 (w64 (d+s0.1)).toNat x5) (w64 (d+(w64 ((w64 ((w64 (2*s0.1))+1))+1)))).toNat x4)))
    else
     some (.inr (.inr s0.2))
   else
    (Zt s0.2 (w64 (d+s0.1))).bind fun x8=>
    (e x8 x1).bind fun x9=>
    bif (decide (x9<0)) then
     (Zt (List.set s0.2 (w64 (d+s0.1)).toNat x1) (w64 (d+(w64 ((w64 (2*s0.1))+1))))).bind fun x10=>
     some (.inl ((w64 ((w64 (2*s0.1))+1)),(List.set (List.set s0.2 (w64 (d+s0.1)).toNat x1) (w64 (d+(w64 ((w64 (2*s0.1))+1)))).toNat x8)))
    else
     some (.inr (.inr s0.2))
  else
   (Zt s0.2 (w64 (d+s0.1))).bind fun x11=>
   (Zt s0.2 (w64 (d+(w64 ((w64 (2*s0.1))+1))))).bind fun x12=>
   (e x11 x12).bind fun x13=>
   bif (decide (x13<0)) then
    (Zt (List.set s0.2 (w64 (d+s0.1)).toNat x12) (w64 (d+(w64 ((w64 (2*s0.1))+1))))).bind fun x14=>
    some (.inl ((w64 ((w64 (2*s0.1))+1)),(List.set (List.set s0.2 (w64 (d+s0.1)).toNat x12) (w64 (d+(w64 ((w64 (2*s0.1))+1)))).toNat x11)))
   else
    some (.inr (.inr s0.2))
def Za6 (b:Int) (c:Int) (d:Int) (e:(Int→Int→Option Int)) (m0_0:List Int):Option (List Int):=
 (lp (ZJ c d e) (b,m0_0)).bind fun r15=>
 match r15 with
 | (.inl r15)=>
  some r15
 | (.inr r15)=>
  some r15
def Zbe (b:Int) (c:Int) (d:(Int→Int→Option Int)) (s0:Int×(List Int)):Option ((Int×(List Int))⊕(List Int)):=
 bif (decide (0≤s0.1)) then
  (Za6 s0.1 (w64 (c-b)) b d s0.2).bind fun x1=>
  some (.inl ((w64 (s0.1-1)),x1))
 else
  some (.inr s0.2)
def Zbf (b:Int) (d:(Int→Int→Option Int)) (s3:Int×(List Int)):Option ((Int×(List Int))⊕(List Int)):=
 bif (decide (0≤s3.1)) then
  (Zt s3.2 (w64 (b+s3.1))).bind fun x4=>
  (Zt s3.2 b).bind fun x5=>
  (Zt (List.set s3.2 b.toNat x4) (w64 (b+s3.1))).bind fun x6=>
  (Za6 0 s3.1 b d (List.set (List.set s3.2 b.toNat x4) (w64 (b+s3.1)).toNat x5)).bind fun x7=>
  some (.inl ((w64 (s3.1-1)),x7))
 else
  some (.inr s3.2)
def Zat (b:Int) (c:Int) (d:(Int→Int→Option Int)) (m0_0:List Int):Option (List Int):=
 (lp (Zbe b c d) ((w64 (Int.tdiv (w64 ((w64 (c-b))-1)) 2)),m0_0)).bind fun r2=>
 (lp (Zbf b d) ((w64 ((w64 (c-b))-1)),r2)).bind fun r8=>
 some r8
def Zbt (b:Int) (c:Int) (e:(Int→Int→Option Int)) (m0_0:List Int) (m1_0:Int):Option (Int×Int×Int):=
 (Zt m0_0 c).bind fun x0=>
 (Zt m0_0 b).bind fun x1=>
 (e x0 x1).bind fun x2=>
 bif (decide (x2<0)) then
  some (c,b,(w64 (m1_0+1)))
 else
  some (b,c,m1_0)
def Zbr (b:Int) (c:Int) (d:Int) (f:(Int→Int→Option Int)) (m0_0:List Int) (m1_0:Int):Option (Int×Int):=
 (Zbt b c f m0_0 m1_0).bind fun x0=>
 (Zbt x0.2.1 d f m0_0 x0.2.2).bind fun x1=>
 (Zbt x0.1 x1.1 f m0_0 x1.2.2).bind fun x2=>
 some (x2.2.1,x2.2.2)
def Zau (b:Int) (d:(Int→Int→Option Int)) (m0_0:List Int) (m1_0:Int):Option (Int×Int):=
 (Zbr (w64 (b-1)) b (w64 (b+1)) d m0_0 m1_0).bind fun x0=>
 some (x0.1,x0.2)
def ZT (b:Int) (c:Int) (d:(Int→Int→Option Int)) (m0_0:List Int):Option (Int×Int):=
 bif (decide (8≤(w64 (c-b)))) then
  bif (decide (50≤(w64 (c-b)))) then
   (Zau (w64 (b+(w64 ((w64 (Int.tdiv (w64 (c-b)) 4))*1)))) d m0_0 0).bind fun x0=>
   (Zau (w64 (b+(w64 ((w64 (Int.tdiv (w64 (c-b)) 4))*2)))) d m0_0 x0.2).bind fun x1=>
   (Zau (w64 (b+(w64 ((w64 (Int.tdiv (w64 (c-b)) 4))*3)))) d m0_0 x1.2).bind fun x2=>
   (Zbr x0.1 x1.1 x2.1 d m0_0 x2.2).bind fun x3=>
   bif (x3.2==0) then
    some (x3.1,1)
   else
    bif (x3.2==12) then
     some (x3.1,2)
    else
     some (x3.1,0)
  else
   (Zbr (w64 (b+(w64 ((w64 (Int.tdiv (w64 (c-b)) 4))*1)))) (w64 (b+(w64 ((w64 (Int.tdiv (w64 (c-b)) 4))*2)))) (w64 (b+(w64 ((w64 (Int.tdiv (w64 (c-b)) 4))*3)))) d m0_0 0).bind fun x4=>
   bif (x4.2==0) then
    some (x4.1,1)
   else
    bif (x4.2==12) then
     some (x4.1,2)
    else
     some (x4.1,0)
 else
  some ((w64 (b+(w64 ((w64 (Int.tdiv (w64 (c-b)) 4))*2)))),1)
def Zar (s0:Int×Int×(List Int)):Option ((Int×Int×(List Int))⊕(List Int)):=
 bif (decide (s0.1<s0.2.1)) then
  (Zt s0.2.2 s0.2.1).bind fun x1=>
  (Zt s0.2.2 s0.1).bind fun x2=>
  (Zt (List.set s0.2.2 s0.1.toNat x1) s0.2.1).bind fun x3=>
  some (.inl ((w64 (s0.1+1)),(w64 (s0.2.1-1)),(List.set (List.set s0.2.2 s0.1.toNat x1) s0.2.1.toNat x2)))
 else
  some (.inr s0.2.2)
def ZP (b:Int) (c:Int) (d:(Int→Int→Option Int)) (m0_0:List Int):Option (List Int):=
 (lp (Zar) (b,(w64 (c-1)),m0_0)).bind fun r4=>
 some r4
def ZL (c:Int) (d:(Int→Int→Option Int)) (s0:Int×Int×(List Int)) (s1:Int):Option (Int⊕Int):=
 bif (decide (s1<c)) then
  (Zt s0.2.2 s1).bind fun x2=>
  (Zt s0.2.2 (w64 (s1-1))).bind fun x3=>
  (d x2 x3).bind fun x4=>
  bif (decide (x4<0)) then
   some (.inr s1)
  else
   some (.inl (w64 (s1+1)))
 else
  some (.inr s1)
def Z3 (d:(Int→Int→Option Int)) (s9:Int×(List Int)):Option ((Int×(List Int))⊕(List Int)):=
 bif (decide (1≤s9.1)) then
  (Zt s9.2 s9.1).bind fun x10=>
  (Zt s9.2 (w64 (s9.1-1))).bind fun x11=>
  (d x10 x11).bind fun x12=>
  bif (decide (x12<0)) then
   (Zt (List.set s9.2 s9.1.toNat x11) (w64 (s9.1-1))).bind fun x13=>
   some (.inl ((w64 (s9.1-1)),(List.set (List.set s9.2 s9.1.toNat x11) (w64 (s9.1-1)).toNat x10)))
  else
   some (.inr s9.2)
 else
  some (.inr s9.2)
def ZF (c:Int) (d:(Int→Int→Option Int)) (s15:Int×(List Int)):Option ((Int×(List Int))⊕(List Int)):=
 bif (decide (s15.1<c)) then
  (Zt s15.2 s15.1).bind fun x16=>
  (Zt s15.2 (w64 (s15.1-1))).bind fun x17=>
  (d x16 x17).bind fun x18=>
  bif (decide (x18<0)) then
   (Zt (List.set s15.2 s15.1.toNat x17) (w64 (s15.1-1))).bind fun x19=>
   some (.inl ((w64 (s15.1+1)),(List.set (List.set s15.2 s15.1.toNat x17) (w64 (s15.1-1)).toNat x16)))
  else
   some (.inr s15.2)
 else
  some (.inr s15.2)
def Z2 (b:Int) (c:Int) (d:(Int→Int→Option Int)) (s0:Int×Int×(List Int)):Option ((Int×Int×(List Int))⊕((List Int)⊕((List Int)⊕(List Int)))):=
 bif (decide (s0.2.1<5)) then
  (lp (ZL c d s0) s0.1).bind fun r5=>
  bif (r5==c) then
   some (.inr (.inl s0.2.2))
  else
   bif (decide ((w64 (c-b))<50)) then
    some (.inr (.inr (.inl s0.2.2)))
   else
    (Zt s0.2.2 (w64 (r5-1))).bind fun x6=>
    (Zt s0.2.2 r5).bind fun x7=>
    (Zt (List.set s0.2.2 r5.toNat x6) (w64 (r5-1))).bind fun x8=>
    bif (decide (2≤(w64 (r5-b)))) then
     (lp (Z3 d) ((w64 (r5-1)),(List.set (List.set s0.2.2 r5.toNat x6) (w64 (r5-1)).toNat x7))).bind fun r14=>
     bif (decide (2≤(w64 (c-r5)))) then
      (lp (ZF c d) ((w64 (r5+1)),r14)).bind fun r20=>
      some (.inl (r5,(w64 (s0.2.1+1)),r20))
     else
      some (.inl (r5,(w64 (s0.2.1+1)),r14))
    else
     bif (decide (2≤(w64 (c-r5)))) then
      (lp (ZF c d) ((w64 (r5+1)),(List.set (List.set s0.2.2 r5.toNat x6) (w64 (r5-1)).toNat x7))).bind fun r26=>
      some (.inl (r5,(w64 (s0.2.1+1)),r26))
     else
      some (.inl (r5,(w64 (s0.2.1+1)),(List.set (List.set s0.2.2 r5.toNat x6) (w64 (r5-1)).toNat x7)))
 else
  some (.inr (.inr (.inr s0.2.2)))
def ZY (b:Int) (c:Int) (d:(Int→Int→Option Int)) (m0_0:List Int):Option ((List Int)⊕(List Int)):=
 (lp (Z2 b c d) ((w64 (b+1)),0,m0_0)).bind fun r27=>
 match r27 with
 | (.inl r27)=>
  some (.inl r27)
 | (.inr (.inl r27))=>
  some (.inr r27)
 | (.inr (.inr r27))=>
  some (.inr r27)
def Za4 (b:Int) (c:Int) (d:Int) (m0_0:List Int) (e:(Int→Int→Option Int)) (x0:Int) (x1:Int) (s3:Int):Option (Int⊕Int):=
 bif (decide (s3≤(w64 (c-1)))) then
  (Zt (List.set (List.set m0_0 b.toNat x0) d.toNat x1) s3).bind fun x4=>
  (Zt (List.set (List.set m0_0 b.toNat x0) d.toNat x1) b).bind fun x5=>
  (e x4 x5).bind fun x6=>
  bif (decide (x6<0)) then
   some (.inl (w64 (s3+1)))
  else
   some (.inr s3)
 else
  some (.inr s3)
def Za3 (b:Int) (d:Int) (m0_0:List Int) (e:(Int→Int→Option Int)) (x0:Int) (x1:Int) (r7:Int) (s8:Int):Option (Int⊕Int):=
 bif (decide (r7≤s8)) then
  (Zt (List.set (List.set m0_0 b.toNat x0) d.toNat x1) s8).bind fun x9=>
  (Zt (List.set (List.set m0_0 b.toNat x0) d.toNat x1) b).bind fun x10=>
  (e x9 x10).bind fun x11=>
  bif (decide (x11<0)) then
   some (.inr s8)
  else
   some (.inl (w64 (s8-1)))
 else
  some (.inr s8)
def Za5 (b:Int) (e:(Int→Int→Option Int)) (s19:Int×Int×(List Int)) (s20:Int):Option (Int⊕Int):=
 bif (decide (s20≤s19.2.1)) then
  (Zt s19.2.2 s20).bind fun x21=>
  (Zt s19.2.2 b).bind fun x22=>
  (e x21 x22).bind fun x23=>
  bif (decide (x23<0)) then
   some (.inl (w64 (s20+1)))
  else
   some (.inr s20)
 else
  some (.inr s20)
def ZaY (b:Int) (e:(Int→Int→Option Int)) (s19:Int×Int×(List Int)) (r24:Int) (s25:Int):Option (Int⊕Int):=
 bif (decide (r24≤s25)) then
  (Zt s19.2.2 s25).bind fun x26=>
  (Zt s19.2.2 b).bind fun x27=>
  (e x26 x27).bind fun x28=>
  bif (decide (x28<0)) then
   some (.inr s25)
  else
   some (.inl (w64 (s25-1)))
 else
  some (.inr s25)
def ZbE (b:Int) (e:(Int→Int→Option Int)) (s19:Int×Int×(List Int)):Option ((Int×Int×(List Int))⊕(Int×(List Int))):=
 (lp (Za5 b e s19) s19.1).bind fun r24=>
 (lp (ZaY b e s19 r24) s19.2.1).bind fun r29=>
 bif (decide (r29<r24)) then
  some (.inr (r29,s19.2.2))
 else
  (Zt s19.2.2 r29).bind fun x30=>
  (Zt s19.2.2 r24).bind fun x31=>
  (Zt (List.set s19.2.2 r24.toNat x30) r29).bind fun x32=>
  some (.inl ((w64 (r24+1)),(w64 (r29-1)),(List.set (List.set s19.2.2 r24.toNat x30) r29.toNat x31)))
def Zq (b:Int) (c:Int) (d:Int) (e:(Int→Int→Option Int)) (m0_0:List Int):Option ((Int×(List Int))⊕(Int×(List Int))):=
 (Zt m0_0 d).bind fun x0=>
 (Zt m0_0 b).bind fun x1=>
 (Zt (List.set m0_0 b.toNat x0) d).bind fun x2=>
 (lp (Za4 b c d m0_0 e x0 x1) (w64 (b+1))).bind fun r7=>
 (lp (Za3 b d m0_0 e x0 x1 r7) (w64 (c-1))).bind fun r12=>
 bif (decide (r12<r7)) then
  (Zt (List.set (List.set m0_0 b.toNat x0) d.toNat x1) b).bind fun x13=>
  (Zt (List.set (List.set m0_0 b.toNat x0) d.toNat x1) r12).bind fun x14=>
  (Zt (List.set (List.set (List.set m0_0 b.toNat x0) d.toNat x1) r12.toNat x13) b).bind fun x15=>
  some (.inl (r12,(List.set (List.set (List.set (List.set m0_0 b.toNat x0) d.toNat x1) r12.toNat x13) b.toNat x14)))
 else
  (Zt (List.set (List.set m0_0 b.toNat x0) d.toNat x1) r12).bind fun x16=>
  (Zt (List.set (List.set m0_0 b.toNat x0) d.toNat x1) r7).bind fun x17=>
  (Zt (List.set (List.set (List.set m0_0 b.toNat x0) d.toNat x1) r7.toNat x16) r12).bind fun x18=>
  (lp (ZbE b e) ((w64 (r7+1)),(w64 (r12-1)),(List.set (List.set (List.set (List.set m0_0 b.toNat x0) d.toNat x1) r7.toNat x16) r12.toNat x17))).bind fun r33=>
  (Zt r33.2 b).bind fun x34=>
  (Zt r33.2 r33.1).bind fun x35=>
  (Zt (List.set r33.2 r33.1.toNat x34) b).bind fun x36=>
  some (.inr (r33.1,(List.set (List.set r33.2 r33.1.toNat x34) b.toNat x35)))
def ZaI (b:Int) (e:(Int→Int→Option Int)) (s3:Int×Int×(List Int)) (s4:Int):Option (Int⊕Int):=
 bif (decide (s4≤s3.2.1)) then
  (Zt s3.2.2 b).bind fun x5=>
  (Zt s3.2.2 s4).bind fun x6=>
  (e x5 x6).bind fun x7=>
  bif (decide (x7<0)) then
   some (.inr s4)
  else
   some (.inl (w64 (s4+1)))
 else
  some (.inr s4)
def ZaJ (b:Int) (e:(Int→Int→Option Int)) (s3:Int×Int×(List Int)) (r8:Int) (s9:Int):Option (Int⊕Int):=
 bif (decide (r8≤s9)) then
  (Zt s3.2.2 b).bind fun x10=>
  (Zt s3.2.2 s9).bind fun x11=>
  (e x10 x11).bind fun x12=>
  bif (decide (x12<0)) then
   some (.inl (w64 (s9-1)))
  else
   some (.inr s9)
 else
  some (.inr s9)
def Za2 (b:Int) (e:(Int→Int→Option Int)) (s3:Int×Int×(List Int)):Option ((Int×Int×(List Int))⊕(Int×(List Int))):=
 (lp (ZaI b e s3) s3.1).bind fun r8=>
 (lp (ZaJ b e s3 r8) s3.2.1).bind fun r13=>
 bif (decide (r13<r8)) then
  some (.inr (r8,s3.2.2))
 else
  (Zt s3.2.2 r13).bind fun x14=>
  (Zt s3.2.2 r8).bind fun x15=>
  (Zt (List.set s3.2.2 r8.toNat x14) r13).bind fun x16=>
  some (.inl ((w64 (r8+1)),(w64 (r13-1)),(List.set (List.set s3.2.2 r8.toNat x14) r13.toNat x15)))
def Zy (b:Int) (c:Int) (d:Int) (e:(Int→Int→Option Int)) (m0_0:List Int):Option (Int×(List Int)):=
 (Zt m0_0 d).bind fun x0=>
 (Zt m0_0 b).bind fun x1=>
 (Zt (List.set m0_0 b.toNat x0) d).bind fun x2=>
 (lp (Za2 b e) ((w64 (b+1)),(w64 (c-1)),(List.set (List.set m0_0 b.toNat x0) d.toNat x1))).bind fun r17=>
 some (r17.1,r17.2)
def Zbc (b:Int) (c:Int) (x0:Int) (s1:Int×(List Int)×Int):Option ((Int×(List Int)×Int)⊕(List Int)):=
 bif (decide (s1.1≤(w64 ((w64 (b+(w64 ((w64 (Int.tdiv (w64 (c-b)) 4))*2))))+1)))) then
  Zde.bind fun x2=>
  bif (decide ((w64 (c-b))≤(w64 (u64.wrap (Zg (u64.wrap (Zg (u64.wrap (Zg (u64.wrap (Zg s1.2.2 ^^^ Zg (u64.wrap (s1.2.2*2 ^ 13))).toNat) ^^^ Zg (Int.fdiv (u64.wrap (Zg s1.2.2 ^^^ Zg (u64.wrap (s1.2.2*2 ^ 13))).toNat) (2 ^ 7))).toNat) ^^^ Zg (u64.wrap ((u64.wrap (Zg (u64.wrap (Zg s1.2.2 ^^^ Zg (u64.wrap (s1.2.2*2 ^ 13))).toNat) ^^^ Zg (Int.fdiv (u64.wrap (Zg s1.2.2 ^^^ Zg (u64.wrap (s1.2.2*2 ^ 13))).toNat) (2 ^ 7))).toNat)*2 ^ 17))).toNat) &&& Zg (u64.wrap (x0-1))).toNat)))) then
   (Zt s1.2.1 (w64 (b+(w64 ((w64 (u64.wrap (Zg (u64.wrap (Zg (u64.wrap (Zg (u64.wrap (Zg s1.2.2 ^^^ Zg (u64.wrap (s1.2.2*2 ^ 13))).toNat) ^^^ Zg (Int.fdiv (u64.wrap (Zg s1.2.2 ^^^ Zg (u64.wrap (s1.2.2*2 ^ 13))).toNat) (2 ^ 7))).toNat) ^^^ Zg (u64.wrap ((u64.wrap (Zg (u64.wrap (Zg s1.2.2 ^^^ Zg (u64.wrap (s1.2.2*2 ^ 13))).toNat) ^^^ Zg (Int.fdiv (u64.wrap (Zg s1.2.2 ^^^ Zg (u64.wrap (s1.2.2*2 ^ 13))).toNat) (2 ^ 7))).toNat)*2 ^ 17))).toNat) &&& Zg (u64.wrap (x0-1))).toNat))-(w64 (c-b))))))).bind fun x3=>
   (Zt s1.2.1 s1.1).bind fun x4=>
   (Zt (List.set s1.2.1 s1.1.toNat x3) (w64 (b+(w64 ((w64 (u64.wrap (Zg (u64.wrap (Zg (u64.wrap (Zg (u64.wrap (Zg s1.2.2 ^^^ Zg (u64.wrap (s1.2.2*2 ^ 13))).toNat) ^^^ Zg (Int.fdiv (u64.wrap (Zg s1.2.2 ^^^ Zg (u64.wrap (s1.2.2*2 ^ 13))).toNat) (2 ^ 7))).toNat) ^^^ Zg (u64.wrap ((u64.wrap (Zg (u64.wrap (Zg s1.2.2 ^^^ Zg (u64.wrap (s1.2.2*2 ^ 13))).toNat) ^^^ Zg (Int.fdiv (u64.wrap (Zg s1.2.2 ^^^ Zg (u64.wrap (s1.2.2*2 ^ 13))).toNat) (2 ^ 7))).toNat)*2 ^ 17))).toNat) &&& Zg (u64.wrap (x0-1))).toNat))-(w64 (c-b))))))).bind fun x5=>
   some (.inl ((w64 (s1.1+1)),(List.set (List.set s1.2.1 s1.1.toNat x3) (w64 (b+(w64 ((w64 (u64.wrap (Zg (u64.wrap (Zg (u64.wrap (Zg (u64.wrap (Zg s1.2.2 ^^^ Zg (u64.wrap (s1.2.2*2 ^ 13))).toNat) ^^^ Zg (Int.fdiv (u64.wrap (Zg s1.2.2 ^^^ Zg (u64.wrap (s1.2.2*2 ^ 13))).toNat) (2 ^ 7))).toNat) ^^^ Zg (u64.wrap ((u64.wrap (Zg (u64.wrap (Zg s1.2.2 ^^^ Zg (u64.wrap (s1.2.2*2 ^ 13))).toNat) ^^^ Zg (Int.fdiv (u64.wrap (Zg s1.2.2 ^^^ Zg (u64.wrap (s1.2.2*2 ^ 13))).toNat) (2 ^ 7))).toNat)*2 ^ 17))).toNat) &&& Zg (u64.wrap (x0-1))).toNat))-(w64 (c-b)))))).toNat x4),(u64.wrap (Zg (u64.wrap (Zg (u64.wrap (Zg s1.2.2 ^^^ Zg (u64.wrap (s1.2.2*2 ^ 13))).toNat) ^^^ Zg (Int.fdiv (u64.wrap (Zg s1.2.2 ^^^ Zg (u64.wrap (s1.2.2*2 ^ 13))).toNat) (2 ^ 7))).toNat) ^^^ Zg (u64.wrap ((u64.wrap (Zg (u64.wrap (Zg s1.2.2 ^^^ Zg (u64.wrap (s1.2.2*2 ^ 13))).toNat) ^^^ Zg (Int.fdiv (u64.wrap (Zg s1.2.2 ^^^ Zg (u64.wrap (s1.2.2*2 ^ 13))).toNat) (2 ^ 7))).toNat)*2 ^ 17))).toNat)))
  else
   (Zt s1.2.1 (w64 (b+(w64 (u64.wrap (Zg (u64.wrap (Zg (u64.wrap (Zg (u64.wrap (Zg s1.2.2 ^^^ Zg (u64.wrap (s1.2.2*2 ^ 13))).toNat) ^^^ Zg (Int.fdiv (u64.wrap (Zg s1.2.2 ^^^ Zg (u64.wrap (s1.2.2*2 ^ 13))).toNat) (2 ^ 7))).toNat) ^^^ Zg (u64.wrap ((u64.wrap (Zg (u64.wrap (Zg s1.2.2 ^^^ Zg (u64.wrap (s1.2.2*2 ^ 13))).toNat) ^^^ Zg (Int.fdiv (u64.wrap (Zg s1.2.2 ^^^ Zg (u64.wrap (s1.2.2*2 ^ 13))).toNat) (2 ^ 7))).toNat)*2 ^ 17))).toNat) &&& Zg (u64.wrap (x0-1))).toNat))))).bind fun x6=>
   (Zt s1.2.1 s1.1).bind fun x7=>
   (Zt (List.set s1.2.1 s1.1.toNat x6) (w64 (b+(w64 (u64.wrap (Zg (u64.wrap (Zg (u64.wrap (Zg (u64.wrap (Zg s1.2.2 ^^^ Zg (u64.wrap (s1.2.2*2 ^ 13))).toNat) ^^^ Zg (Int.fdiv (u64.wrap (Zg s1.2.2 ^^^ Zg (u64.wrap (s1.2.2*2 ^ 13))).toNat) (2 ^ 7))).toNat) ^^^ Zg (u64.wrap ((u64.wrap (Zg (u64.wrap (Zg s1.2.2 ^^^ Zg (u64.wrap (s1.2.2*2 ^ 13))).toNat) ^^^ Zg (Int.fdiv (u64.wrap (Zg s1.2.2 ^^^ Zg (u64.wrap (s1.2.2*2 ^ 13))).toNat) (2 ^ 7))).toNat)*2 ^ 17))).toNat) &&& Zg (u64.wrap (x0-1))).toNat))))).bind fun x8=>
   some (.inl ((w64 (s1.1+1)),(List.set (List.set s1.2.1 s1.1.toNat x6) (w64 (b+(w64 (u64.wrap (Zg (u64.wrap (Zg (u64.wrap (Zg (u64.wrap (Zg s1.2.2 ^^^ Zg (u64.wrap (s1.2.2*2 ^ 13))).toNat) ^^^ Zg (Int.fdiv (u64.wrap (Zg s1.2.2 ^^^ Zg (u64.wrap (s1.2.2*2 ^ 13))).toNat) (2 ^ 7))).toNat) ^^^ Zg (u64.wrap ((u64.wrap (Zg (u64.wrap (Zg s1.2.2 ^^^ Zg (u64.wrap (s1.2.2*2 ^ 13))).toNat) ^^^ Zg (Int.fdiv (u64.wrap (Zg s1.2.2 ^^^ Zg (u64.wrap (s1.2.2*2 ^ 13))).toNat) (2 ^ 7))).toNat)*2 ^ 17))).toNat) &&& Zg (u64.wrap (x0-1))).toNat)))).toNat x7),(u64.wrap (Zg (u64.wrap (Zg (u64.wrap (Zg s1.2.2 ^^^ Zg (u64.wrap (s1.2.2*2 ^ 13))).toNat) ^^^ Zg (Int.fdiv (u64.wrap (Zg s1.2.2 ^^^ Zg (u64.wrap (s1.2.2*2 ^ 13))).toNat) (2 ^ 7))).toNat) ^^^ Zg (u64.wrap ((u64.wrap (Zg (u64.wrap (Zg s1.2.2 ^^^ Zg (u64.wrap (s1.2.2*2 ^ 13))).toNat) ^^^ Zg (Int.fdiv (u64.wrap (Zg s1.2.2 ^^^ Zg (u64.wrap (s1.2.2*2 ^ 13))).toNat) (2 ^ 7))).toNat)*2 ^ 17))).toNat)))
 else
  some (.inr s1.2.1)
def ZaB (b:Int) (c:Int) (d:(Int→Int→Option Int)) (m0_0:List Int):Option (List Int):=
 bif (decide (8≤(w64 (c-b)))) then
  (Zcc (w64 (c-b))).bind fun x0=>
  (lp (Zbc b c x0) ((w64 ((w64 (b+(w64 ((w64 (Int.tdiv (w64 (c-b)) 4))*2))))-1)),m0_0,(u64.wrap (w64 (c-b))))).bind fun r9=>
  some r9
 else
  some m0_0
def Z0 (e:(Int→Int→Option Int)) (rc:Int→Int→Int→(Int→Int→Option Int)→(List Int)→Option (List Int)) (s0:Int×Int×Int×Bool×Bool×(List Int)):Option ((Int×Int×Int×Bool×Bool×(List Int))⊕(List Int)):=
 bif s0.2.2.2.1 then
  bif s0.2.2.2.2.1 then
   bif (decide ((w64 (s0.2.1-s0.1))≤12)) then
    (Z7 s0.1 s0.2.1 e s0.2.2.2.2.2).bind fun x1=>
    some (.inr x1)
   else
    bif (s0.2.2.1==0) then
     (Zat s0.1 s0.2.1 e s0.2.2.2.2.2).bind fun x2=>
     some (.inr x2)
    else
     (ZT s0.1 s0.2.1 e s0.2.2.2.2.2).bind fun x3=>
     bif (x3.2==2) then
      (ZP s0.1 s0.2.1 e s0.2.2.2.2.2).bind fun x4=>
      (ZY s0.1 s0.2.1 e x4).bind fun x5=>
      match x5 with
      | (.inl x5)=>
       some (.inr x5)
      | (.inr x5)=>
       bif (decide (0<s0.1)) then
        (Zt x5 (w64 (s0.1-1))).bind fun x6=>
        (Zt x5 (w64 ((w64 (s0.2.1-1))-(w64 (x3.1-s0.1))))).bind fun x7=>
        (e x6 x7).bind fun x8=>
        bif (decide (x8<0)) then
         (Zq s0.1 s0.2.1 (w64 ((w64 (s0.2.1-1))-(w64 (x3.1-s0.1)))) e x5).bind fun x9=>
         match x9 with
         | (.inl x9)=>
          bif (decide ((w64 (x9.1-s0.1))<(w64 (s0.2.1-x9.1)))) then
           bif (decide ((w64 (Int.tdiv (w64 (s0.2.1-s0.1)) 8))≤(w64 (x9.1-s0.1)))) then
            (rc s0.1 x9.1 s0.2.2.1 e x9.2).bind fun x10=>
            some (.inl ((w64 (x9.1+1)),s0.2.1,s0.2.2.1,true,true,x10))
           else
            (rc s0.1 x9.1 s0.2.2.1 e x9.2).bind fun x11=>
            some (.inl ((w64 (x9.1+1)),s0.2.1,s0.2.2.1,false,true,x11))
          else
           bif (decide ((w64 (Int.tdiv (w64 (s0.2.1-s0.1)) 8))≤(w64 (s0.2.1-x9.1)))) then
            (rc (w64 (x9.1+1)) s0.2.1 s0.2.2.1 e x9.2).bind fun x12=>
            some (.inl (s0.1,x9.1,s0.2.2.1,true,true,x12))
           else
            (rc (w64 (x9.1+1)) s0.2.1 s0.2.2.1 e x9.2).bind fun x13=>
            some (.inl (s0.1,x9.1,s0.2.2.1,false,true,x13))
         | (.inr x9)=>
          bif (decide ((w64 (x9.1-s0.1))<(w64 (s0.2.1-x9.1)))) then
           bif (decide ((w64 (Int.tdiv (w64 (s0.2.1-s0.1)) 8))≤(w64 (x9.1-s0.1)))) then
            (rc s0.1 x9.1 s0.2.2.1 e x9.2).bind fun x14=>
            some (.inl ((w64 (x9.1+1)),s0.2.1,s0.2.2.1,true,false,x14))
           else
            (rc s0.1 x9.1 s0.2.2.1 e x9.2).bind fun x15=>
            some (.inl ((w64 (x9.1+1)),s0.2.1,s0.2.2.1,false,false,x15))
          else
           bif (decide ((w64 (Int.tdiv (w64 (s0.2.1-s0.1)) 8))≤(w64 (s0.2.1-x9.1)))) then
            (rc (w64 (x9.1+1)) s0.2.1 s0.2.2.1 e x9.2).bind fun x16=>
            some (.inl (s0.1,x9.1,s0.2.2.1,true,false,x16))
           else
            (rc (w64 (x9.1+1)) s0.2.1 s0.2.2.1 e x9.2).bind fun x17=>
            some (.inl (s0.1,x9.1,s0.2.2.1,false,false,x17))
        else
         (Zy s0.1 s0.2.1 (w64 ((w64 (s0.2.1-1))-(w64 (x3.1-s0.1)))) e x5).bind fun x18=>
         some (.inl (x18.1,s0.2.1,s0.2.2.1,true,true,x18.2))
       else
        (Zq s0.1 s0.2.1 (w64 ((w64 (s0.2.1-1))-(w64 (x3.1-s0.1)))) e x5).bind fun x19=>
        match x19 with
        | (.inl x19)=>
         bif (decide ((w64 (x19.1-s0.1))<(w64 (s0.2.1-x19.1)))) then
          bif (decide ((w64 (Int.tdiv (w64 (s0.2.1-s0.1)) 8))≤(w64 (x19.1-s0.1)))) then
           (rc s0.1 x19.1 s0.2.2.1 e x19.2).bind fun x20=>
           some (.inl ((w64 (x19.1+1)),s0.2.1,s0.2.2.1,true,true,x20))
          else
           (rc s0.1 x19.1 s0.2.2.1 e x19.2).bind fun x21=>
           some (.inl ((w64 (x19.1+1)),s0.2.1,s0.2.2.1,false,true,x21))
         else
          bif (decide ((w64 (Int.tdiv (w64 (s0.2.1-s0.1)) 8))≤(w64 (s0.2.1-x19.1)))) then
           (rc (w64 (x19.1+1)) s0.2.1 s0.2.2.1 e x19.2).bind fun x22=>
           some (.inl (s0.1,x19.1,s0.2.2.1,true,true,x22))
          else
           (rc (w64 (x19.1+1)) s0.2.1 s0.2.2.1 e x19.2).bind fun x23=>
           some (.inl (s0.1,x19.1,s0.2.2.1,false,true,x23))
        | (.inr x19)=>
         bif (decide ((w64 (x19.1-s0.1))<(w64 (s0.2.1-x19.1)))) then
          bif (decide ((w64 (Int.tdiv (w64 (s0.2.1-s0.1)) 8))≤(w64 (x19.1-s0.1)))) then
           (rc s0.1 x19.1 s0.2.2.1 e x19.2).bind fun x24=>
           some (.inl ((w64 (x19.1+1)),s0.2.1,s0.2.2.1,true,false,x24))
          else
           (rc s0.1 x19.1 s0.2.2.1 e x19.2).bind fun x25=>
           some (.inl ((w64 (x19.1+1)),s0.2.1,s0.2.2.1,false,false,x25))
         else
          bif (decide ((w64 (Int.tdiv (w64 (s0.2.1-s0.1)) 8))≤(w64 (s0.2.1-x19.1)))) then
           (rc (w64 (x19.1+1)) s0.2.1 s0.2.2.1 e x19.2).bind fun x26=>
           some (.inl (s0.1,x19.1,s0.2.2.1,true,false,x26))
          else
           (rc (w64 (x19.1+1)) s0.2.1 s0.2.2.1 e x19.2).bind fun x27=>
           some (.inl (s0.1,x19.1,s0.2.2.1,false,false,x27))
     else
      bif (x3.2==1) then
       (ZY s0.1 s0.2.1 e s0.2.2.2.2.2).bind fun x28=>
       match x28 with
       | (.inl x28)=>
        some (.inr x28)
       | (.inr x28)=>
        bif (decide (0<s0.1)) then
         (Zt x28 (w64 (s0.1-1))).bind fun x29=>
         (Zt x28 x3.1).bind fun x30=>
         (e x29 x30).bind fun x31=>
         bif (decide (x31<0)) then
          (Zq s0.1 s0.2.1 x3.1 e x28).bind fun x32=>
          match x32 with
          | (.inl x32)=>
           bif (decide ((w64 (x32.1-s0.1))<(w64 (s0.2.1-x32.1)))) then
            bif (decide ((w64 (Int.tdiv (w64 (s0.2.1-s0.1)) 8))≤(w64 (x32.1-s0.1)))) then
             (rc s0.1 x32.1 s0.2.2.1 e x32.2).bind fun x33=>
             some (.inl ((w64 (x32.1+1)),s0.2.1,s0.2.2.1,true,true,x33))
            else
             (rc s0.1 x32.1 s0.2.2.1 e x32.2).bind fun x34=>
             some (.inl ((w64 (x32.1+1)),s0.2.1,s0.2.2.1,false,true,x34))
           else
            bif (decide ((w64 (Int.tdiv (w64 (s0.2.1-s0.1)) 8))≤(w64 (s0.2.1-x32.1)))) then
             (rc (w64 (x32.1+1)) s0.2.1 s0.2.2.1 e x32.2).bind fun x35=>
             some (.inl (s0.1,x32.1,s0.2.2.1,true,true,x35))
            else
             (rc (w64 (x32.1+1)) s0.2.1 s0.2.2.1 e x32.2).bind fun x36=>
             some (.inl (s0.1,x32.1,s0.2.2.1,false,true,x36))
          | (.inr x32)=>
           bif (decide ((w64 (x32.1-s0.1))<(w64 (s0.2.1-x32.1)))) then
            bif (decide ((w64 (Int.tdiv (w64 (s0.2.1-s0.1)) 8))≤(w64 (x32.1-s0.1)))) then
             (rc s0.1 x32.1 s0.2.2.1 e x32.2).bind fun x37=>
             some (.inl ((w64 (x32.1+1)),s0.2.1,s0.2.2.1,true,false,x37))
            else
             (rc s0.1 x32.1 s0.2.2.1 e x32.2).bind fun x38=>
             some (.inl ((w64 (x32.1+1)),s0.2.1,s0.2.2.1,false,false,x38))
           else
            bif (decide ((w64 (Int.tdiv (w64 (s0.2.1-s0.1)) 8))≤(w64 (s0.2.1-x32.1)))) then
             (rc (w64 (x32.1+1)) s0.2.1 s0.2.2.1 e x32.2).bind fun x39=>
             some (.inl (s0.1,x32.1,s0.2.2.1,true,false,x39))
            else
             (rc (w64 (x32.1+1)) s0.2.1 s0.2.2.1 e x32.2).bind fun x40=>
             some (.inl (s0.1,x32.1,s0.2.2.1,false,false,x40))
         else
          (Zy s0.1 s0.2.1 x3.1 e x28).bind fun x41=>
          some (.inl (x41.1,s0.2.1,s0.2.2.1,true,true,x41.2))
        else
         (Zq s0.1 s0.2.1 x3.1 e x28).bind fun x42=>
         match x42 with
         | (.inl x42)=>
          bif (decide ((w64 (x42.1-s0.1))<(w64 (s0.2.1-x42.1)))) then
           bif (decide ((w64 (Int.tdiv (w64 (s0.2.1-s0.1)) 8))≤(w64 (x42.1-s0.1)))) then
            (rc s0.1 x42.1 s0.2.2.1 e x42.2).bind fun x43=>
            some (.inl ((w64 (x42.1+1)),s0.2.1,s0.2.2.1,true,true,x43))
           else
            (rc s0.1 x42.1 s0.2.2.1 e x42.2).bind fun x44=>
            some (.inl ((w64 (x42.1+1)),s0.2.1,s0.2.2.1,false,true,x44))
          else
           bif (decide ((w64 (Int.tdiv (w64 (s0.2.1-s0.1)) 8))≤(w64 (s0.2.1-x42.1)))) then
            (rc (w64 (x42.1+1)) s0.2.1 s0.2.2.1 e x42.2).bind fun x45=>
            some (.inl (s0.1,x42.1,s0.2.2.1,true,true,x45))
           else
            (rc (w64 (x42.1+1)) s0.2.1 s0.2.2.1 e x42.2).bind fun x46=>
            some (.inl (s0.1,x42.1,s0.2.2.1,false,true,x46))
         | (.inr x42)=>
          bif (decide ((w64 (x42.1-s0.1))<(w64 (s0.2.1-x42.1)))) then
           bif (decide ((w64 (Int.tdiv (w64 (s0.2.1-s0.1)) 8))≤(w64 (x42.1-s0.1)))) then
            (rc s0.1 x42.1 s0.2.2.1 e x42.2).bind fun x47=>
            some (.inl ((w64 (x42.1+1)),s0.2.1,s0.2.2.1,true,false,x47))
           else
            (rc s0.1 x42.1 s0.2.2.1 e x42.2).bind fun x48=>
            some (.inl ((w64 (x42.1+1)),s0.2.1,s0.2.2.1,false,false,x48))
          else
           bif (decide ((w64 (Int.tdiv (w64 (s0.2.1-s0.1)) 8))≤(w64 (s0.2.1-x42.1)))) then
            (rc (w64 (x42.1+1)) s0.2.1 s0.2.2.1 e x42.2).bind fun x49=>
            some (.inl (s0.1,x42.1,s0.2.2.1,true,false,x49))
           else
            (rc (w64 (x42.1+1)) s0.2.1 s0.2.2.1 e x42.2).bind fun x50=>
            some (.inl (s0.1,x42.1,s0.2.2.1,false,false,x50))
      else
       bif (decide (0<s0.1)) then
        (Zt s0.2.2.2.2.2 (w64 (s0.1-1))).bind fun x51=>
        (Zt s0.2.2.2.2.2 x3.1).bind fun x52=>
        (e x51 x52).bind fun x53=>
        bif (decide (x53<0)) then
         (Zq s0.1 s0.2.1 x3.1 e s0.2.2.2.2.2).bind fun x54=>
         match x54 with
         | (.inl x54)=>
          bif (decide ((w64 (x54.1-s0.1))<(w64 (s0.2.1-x54.1)))) then
           bif (decide ((w64 (Int.tdiv (w64 (s0.2.1-s0.1)) 8))≤(w64 (x54.1-s0.1)))) then
            (rc s0.1 x54.1 s0.2.2.1 e x54.2).bind fun x55=>
            some (.inl ((w64 (x54.1+1)),s0.2.1,s0.2.2.1,true,true,x55))
           else
            (rc s0.1 x54.1 s0.2.2.1 e x54.2).bind fun x56=>
            some (.inl ((w64 (x54.1+1)),s0.2.1,s0.2.2.1,false,true,x56))
          else
           bif (decide ((w64 (Int.tdiv (w64 (s0.2.1-s0.1)) 8))≤(w64 (s0.2.1-x54.1)))) then
            (rc (w64 (x54.1+1)) s0.2.1 s0.2.2.1 e x54.2).bind fun x57=>
            some (.inl (s0.1,x54.1,s0.2.2.1,true,true,x57))
           else
            (rc (w64 (x54.1+1)) s0.2.1 s0.2.2.1 e x54.2).bind fun x58=>
            some (.inl (s0.1,x54.1,s0.2.2.1,false,true,x58))
         | (.inr x54)=>
          bif (decide ((w64 (x54.1-s0.1))<(w64 (s0.2.1-x54.1)))) then
           bif (decide ((w64 (Int.tdiv (w64 (s0.2.1-s0.1)) 8))≤(w64 (x54.1-s0.1)))) then
            (rc s0.1 x54.1 s0.2.2.1 e x54.2).bind fun x59=>
            some (.inl ((w64 (x54.1+1)),s0.2.1,s0.2.2.1,true,false,x59))
           else
            (rc s0.1 x54.1 s0.2.2.1 e x54.2).bind fun x60=>
            some (.inl ((w64 (x54.1+1)),s0.2.1,s0.2.2.1,false,false,x60))
          else
           bif (decide ((w64 (Int.tdiv (w64 (s0.2.1-s0.1)) 8))≤(w64 (s0.2.1-x54.1)))) then
            (rc (w64 (x54.1+1)) s0.2.1 s0.2.2.1 e x54.2).bind fun x61=>
            some (.inl (s0.1,x54.1,s0.2.2.1,true,false,x61))
           else
            (rc (w64 (x54.1+1)) s0.2.1 s0.2.2.1 e x54.2).bind fun x62=>
            some (.inl (s0.1,x54.1,s0.2.2.1,false,false,x62))
        else
         (Zy s0.1 s0.2.1 x3.1 e s0.2.2.2.2.2).bind fun x63=>
         some (.inl (x63.1,s0.2.1,s0.2.2.1,true,true,x63.2))
       else
        (Zq s0.1 s0.2.1 x3.1 e s0.2.2.2.2.2).bind fun x64=>
        match x64 with
        | (.inl x64)=>
         bif (decide ((w64 (x64.1-s0.1))<(w64 (s0.2.1-x64.1)))) then
          bif (decide ((w64 (Int.tdiv (w64 (s0.2.1-s0.1)) 8))≤(w64 (x64.1-s0.1)))) then
           (rc s0.1 x64.1 s0.2.2.1 e x64.2).bind fun x65=>
           some (.inl ((w64 (x64.1+1)),s0.2.1,s0.2.2.1,true,true,x65))
          else
           (rc s0.1 x64.1 s0.2.2.1 e x64.2).bind fun x66=>
           some (.inl ((w64 (x64.1+1)),s0.2.1,s0.2.2.1,false,true,x66))
         else
          bif (decide ((w64 (Int.tdiv (w64 (s0.2.1-s0.1)) 8))≤(w64 (s0.2.1-x64.1)))) then
           (rc (w64 (x64.1+1)) s0.2.1 s0.2.2.1 e x64.2).bind fun x67=>
           some (.inl (s0.1,x64.1,s0.2.2.1,true,true,x67))
          else
           (rc (w64 (x64.1+1)) s0.2.1 s0.2.2.1 e x64.2).bind fun x68=>
           some (.inl (s0.1,x64.1,s0.2.2.1,false,true,x68))
        | (.inr x64)=>
         bif (decide ((w64 (x64.1-s0.1))<(w64 (s0.2.1-x64.1)))) then
          bif (decide ((w64 (Int.tdiv (w64 (s0.2.1-s0.1)) 8))≤(w64 (x64.1-s0.1)))) then
           (rc s0.1 x64.1 s0.2.2.1 e x64.2).bind fun x69=>
           some (.inl ((w64 (x64.1+1)),s0.2.1,s0.2.2.1,true,false,x69))
          else
           (rc s0.1 x64.1 s0.2.2.1 e x64.2).bind fun x70=>
           some (.inl ((w64 (x64.1+1)),s0.2.1,s0.2.2.1,false,false,x70))
         else
          bif (decide ((w64 (Int.tdiv (w64 (s0.2.1-s0.1)) 8))≤(w64 (s0.2.1-x64.1)))) then
           (rc (w64 (x64.1+1)) s0.2.1 s0.2.2.1 e x64.2).bind fun x71=>
           some (.inl (s0.1,x64.1,s0.2.2.1,true,false,x71))
          else
           (rc (w64 (x64.1+1)) s0.2.1 s0.2.2.1 e x64.2).bind fun x72=>
           some (.inl (s0.1,x64.1,s0.2.2.1,false,false,x72))
  else
   bif (decide ((w64 (s0.2.1-s0.1))≤12)) then
    (Z7 s0.1 s0.2.1 e s0.2.2.2.2.2).bind fun x73=>
    some (.inr x73)
   else
    bif (s0.2.2.1==0) then
     (Zat s0.1 s0.2.1 e s0.2.2.2.2.2).bind fun x74=>
     some (.inr x74)
    else
     (ZT s0.1 s0.2.1 e s0.2.2.2.2.2).bind fun x75=>
     bif (x75.2==2) then
      (ZP s0.1 s0.2.1 e s0.2.2.2.2.2).bind fun x76=>
      bif (decide (0<s0.1)) then
       (Zt x76 (w64 (s0.1-1))).bind fun x77=>
       (Zt x76 (w64 ((w64 (s0.2.1-1))-(w64 (x75.1-s0.1))))).bind fun x78=>
       (e x77 x78).bind fun x79=>
       bif (decide (x79<0)) then
        (Zq s0.1 s0.2.1 (w64 ((w64 (s0.2.1-1))-(w64 (x75.1-s0.1)))) e x76).bind fun x80=>
        match x80 with
        | (.inl x80)=>
         bif (decide ((w64 (x80.1-s0.1))<(w64 (s0.2.1-x80.1)))) then
          bif (decide ((w64 (Int.tdiv (w64 (s0.2.1-s0.1)) 8))≤(w64 (x80.1-s0.1)))) then
           (rc s0.1 x80.1 s0.2.2.1 e x80.2).bind fun x81=>
           some (.inl ((w64 (x80.1+1)),s0.2.1,s0.2.2.1,true,true,x81))
          else
           (rc s0.1 x80.1 s0.2.2.1 e x80.2).bind fun x82=>
           some (.inl ((w64 (x80.1+1)),s0.2.1,s0.2.2.1,false,true,x82))
         else
          bif (decide ((w64 (Int.tdiv (w64 (s0.2.1-s0.1)) 8))≤(w64 (s0.2.1-x80.1)))) then
           (rc (w64 (x80.1+1)) s0.2.1 s0.2.2.1 e x80.2).bind fun x83=>
           some (.inl (s0.1,x80.1,s0.2.2.1,true,true,x83))
          else
           (rc (w64 (x80.1+1)) s0.2.1 s0.2.2.1 e x80.2).bind fun x84=>
           some (.inl (s0.1,x80.1,s0.2.2.1,false,true,x84))
        | (.inr x80)=>
         bif (decide ((w64 (x80.1-s0.1))<(w64 (s0.2.1-x80.1)))) then
          bif (decide ((w64 (Int.tdiv (w64 (s0.2.1-s0.1)) 8))≤(w64 (x80.1-s0.1)))) then
           (rc s0.1 x80.1 s0.2.2.1 e x80.2).bind fun x85=>
           some (.inl ((w64 (x80.1+1)),s0.2.1,s0.2.2.1,true,false,x85))
          else
           (rc s0.1 x80.1 s0.2.2.1 e x80.2).bind fun x86=>
           some (.inl ((w64 (x80.1+1)),s0.2.1,s0.2.2.1,false,false,x86))
         else
          bif (decide ((w64 (Int.tdiv (w64 (s0.2.1-s0.1)) 8))≤(w64 (s0.2.1-x80.1)))) then
           (rc (w64 (x80.1+1)) s0.2.1 s0.2.2.1 e x80.2).bind fun x87=>
           some (.inl (s0.1,x80.1,s0.2.2.1,true,false,x87))
          else
           (rc (w64 (x80.1+1)) s0.2.1 s0.2.2.1 e x80.2).bind fun x88=>
           some (.inl (s0.1,x80.1,s0.2.2.1,false,false,x88))
       else
        (Zy s0.1 s0.2.1 (w64 ((w64 (s0.2.1-1))-(w64 (x75.1-s0.1)))) e x76).bind fun x89=>
        some (.inl (x89.1,s0.2.1,s0.2.2.1,true,false,x89.2))
      else
       (Zq s0.1 s0.2.1 (w64 ((w64 (s0.2.1-1))-(w64 (x75.1-s0.1)))) e x76).bind fun x90=>
       match x90 with
       | (.inl x90)=>
        bif (decide ((w64 (x90.1-s0.1))<(w64 (s0.2.1-x90.1)))) then
         bif (decide ((w64 (Int.tdiv (w64 (s0.2.1-s0.1)) 8))≤(w64 (x90.1-s0.1)))) then
          (rc s0.1 x90.1 s0.2.2.1 e x90.2).bind fun x91=>
          some (.inl ((w64 (x90.1+1)),s0.2.1,s0.2.2.1,true,true,x91))
         else
          (rc s0.1 x90.1 s0.2.2.1 e x90.2).bind fun x92=>
          some (.inl ((w64 (x90.1+1)),s0.2.1,s0.2.2.1,false,true,x92))
        else
         bif (decide ((w64 (Int.tdiv (w64 (s0.2.1-s0.1)) 8))≤(w64 (s0.2.1-x90.1)))) then
          (rc (w64 (x90.1+1)) s0.2.1 s0.2.2.1 e x90.2).bind fun x93=>
          some (.inl (s0.1,x90.1,s0.2.2.1,true,true,x93))
         else
          (rc (w64 (x90.1+1)) s0.2.1 s0.2.2.1 e x90.2).bind fun x94=>
          some (.inl (s0.1,x90.1,s0.2.2.1,false,true,x94))
       | (.inr x90)=>
        bif (decide ((w64 (x90.1-s0.1))<(w64 (s0.2.1-x90.1)))) then
         bif (decide ((w64 (Int.tdiv (w64 (s0.2.1-s0.1)) 8))≤(w64 (x90.1-s0.1)))) then
          (rc s0.1 x90.1 s0.2.2.1 e x90.2).bind fun x95=>
          some (.inl ((w64 (x90.1+1)),s0.2.1,s0.2.2.1,true,false,x95))
         else
          (rc s0.1 x90.1 s0.2.2.1 e x90.2).bind fun x96=>
          some (.inl ((w64 (x90.1+1)),s0.2.1,s0.2.2.1,false,false,x96))
        else
         bif (decide ((w64 (Int.tdiv (w64 (s0.2.1-s0.1)) 8))≤(w64 (s0.2.1-x90.1)))) then
          (rc (w64 (x90.1+1)) s0.2.1 s0.2.2.1 e x90.2).bind fun x97=>
          some (.inl (s0.1,x90.1,s0.2.2.1,true,false,x97))
         else
          (rc (w64 (x90.1+1)) s0.2.1 s0.2.2.1 e x90.2).bind fun x98=>
          some (.inl (s0.1,x90.1,s0.2.2.1,false,false,x98))
     else
      bif (decide (0<s0.1)) then
       (Zt s0.2.2.2.2.2 (w64 (s0.1-1))).bind fun x99=>
       (Zt s0.2.2.2.2.2 x75.1).bind fun x100=>
       (e x99 x100).bind fun x101=>
       bif (decide (x101<0)) then
        (Zq s0.1 s0.2.1 x75.1 e s0.2.2.2.2.2).bind fun x102=>
        match x102 with
        | (.inl x102)=>
         bif (decide ((w64 (x102.1-s0.1))<(w64 (s0.2.1-x102.1)))) then
          bif (decide ((w64 (Int.tdiv (w64 (s0.2.1-s0.1)) 8))≤(w64 (x102.1-s0.1)))) then
           (rc s0.1 x102.1 s0.2.2.1 e x102.2).bind fun x103=>
           some (.inl ((w64 (x102.1+1)),s0.2.1,s0.2.2.1,true,true,x103))
          else
           (rc s0.1 x102.1 s0.2.2.1 e x102.2).bind fun x104=>
           some (.inl ((w64 (x102.1+1)),s0.2.1,s0.2.2.1,false,true,x104))
         else
          bif (decide ((w64 (Int.tdiv (w64 (s0.2.1-s0.1)) 8))≤(w64 (s0.2.1-x102.1)))) then
           (rc (w64 (x102.1+1)) s0.2.1 s0.2.2.1 e x102.2).bind fun x105=>
           some (.inl (s0.1,x102.1,s0.2.2.1,true,true,x105))
          else
           (rc (w64 (x102.1+1)) s0.2.1 s0.2.2.1 e x102.2).bind fun x106=>
           some (.inl (s0.1,x102.1,s0.2.2.1,false,true,x106))
        | (.inr x102)=>
         bif (decide ((w64 (x102.1-s0.1))<(w64 (s0.2.1-x102.1)))) then
          bif (decide ((w64 (Int.tdiv (w64 (s0.2.1-s0.1)) 8))≤(w64 (x102.1-s0.1)))) then
           (rc s0.1 x102.1 s0.2.2.1 e x102.2).bind fun x107=>
           some (.inl ((w64 (x102.1+1)),s0.2.1,s0.2.2.1,true,false,x107))
          else
           (rc s0.1 x102.1 s0.2.2.1 e x102.2).bind fun x108=>
           some (.inl ((w64 (x102.1+1)),s0.2.1,s0.2.2.1,false,false,x108))
         else
          bif (decide ((w64 (Int.tdiv (w64 (s0.2.1-s0.1)) 8))≤(w64 (s0.2.1-x102.1)))) then
           (rc (w64 (x102.1+1)) s0.2.1 s0.2.2.1 e x102.2).bind fun x109=>
           some (.inl (s0.1,x102.1,s0.2.2.1,true,false,x109))
          else
           (rc (w64 (x102.1+1)) s0.2.1 s0.2.2.1 e x102.2).bind fun x110=>
           some (.inl (s0.1,x102.1,s0.2.2.1,false,false,x110))
       else
        (Zy s0.1 s0.2.1 x75.1 e s0.2.2.2.2.2).bind fun x111=>
        some (.inl (x111.1,s0.2.1,s0.2.2.1,true,false,x111.2))
      else
       (Zq s0.1 s0.2.1 x75.1 e s0.2.2.2.2.2).bind fun x112=>
       match x112 with
       | (.inl x112)=>
        bif (decide ((w64 (x112.1-s0.1))<(w64 (s0.2.1-x112.1)))) then
         bif (decide ((w64 (Int.tdiv (w64 (s0.2.1-s0.1)) 8))≤(w64 (x112.1-s0.1)))) then
          (rc s0.1 x112.1 s0.2.2.1 e x112.2).bind fun x113=>
          some (.inl ((w64 (x112.1+1)),s0.2.1,s0.2.2.1,true,true,x113))
         else
          (rc s0.1 x112.1 s0.2.2.1 e x112.2).bind fun x114=>
          some (.inl ((w64 (x112.1+1)),s0.2.1,s0.2.2.1,false,true,x114))
        else
         bif (decide ((w64 (Int.tdiv (w64 (s0.2.1-s0.1)) 8))≤(w64 (s0.2.1-x112.1)))) then
          (rc (w64 (x112.1+1)) s0.2.1 s0.2.2.1 e x112.2).bind fun x115=>
          some (.inl (s0.1,x112.1,s0.2.2.1,true,true,x115))
         else
          (rc (w64 (x112.1+1)) s0.2.1 s0.2.2.1 e x112.2).bind fun x116=>
          some (.inl (s0.1,x112.1,s0.2.2.1,false,true,x116))
       | (.inr x112)=>
        bif (decide ((w64 (x112.1-s0.1))<(w64 (s0.2.1-x112.1)))) then
         bif (decide ((w64 (Int.tdiv (w64 (s0.2.1-s0.1)) 8))≤(w64 (x112.1-s0.1)))) then
          (rc s0.1 x112.1 s0.2.2.1 e x112.2).bind fun x117=>
          some (.inl ((w64 (x112.1+1)),s0.2.1,s0.2.2.1,true,false,x117))
         else
          (rc s0.1 x112.1 s0.2.2.1 e x112.2).bind fun x118=>
          some (.inl ((w64 (x112.1+1)),s0.2.1,s0.2.2.1,false,false,x118))
        else
         bif (decide ((w64 (Int.tdiv (w64 (s0.2.1-s0.1)) 8))≤(w64 (s0.2.1-x112.1)))) then
          (rc (w64 (x112.1+1)) s0.2.1 s0.2.2.1 e x112.2).bind fun x119=>
          some (.inl (s0.1,x112.1,s0.2.2.1,true,false,x119))
         else
          (rc (w64 (x112.1+1)) s0.2.1 s0.2.2.1 e x112.2).bind fun x120=>
          some (.inl (s0.1,x112.1,s0.2.2.1,false,false,x120))
 else
  bif s0.2.2.2.2.1 then
   bif (decide ((w64 (s0.2.1-s0.1))≤12)) then
    (Z7 s0.1 s0.2.1 e s0.2.2.2.2.2).bind fun x121=>
    some (.inr x121)
   else
    bif (s0.2.2.1==0) then
     (Zat s0.1 s0.2.1 e s0.2.2.2.2.2).bind fun x122=>
     some (.inr x122)
    else
     (ZaB s0.1 s0.2.1 e s0.2.2.2.2.2).bind fun x123=>
     (ZT s0.1 s0.2.1 e x123).bind fun x124=>
     bif (x124.2==2) then
      (ZP s0.1 s0.2.1 e x123).bind fun x125=>
      bif (decide (0<s0.1)) then
       (Zt x125 (w64 (s0.1-1))).bind fun x126=>
       (Zt x125 (w64 ((w64 (s0.2.1-1))-(w64 (x124.1-s0.1))))).bind fun x127=>
       (e x126 x127).bind fun x128=>
       bif (decide (x128<0)) then
        (Zq s0.1 s0.2.1 (w64 ((w64 (s0.2.1-1))-(w64 (x124.1-s0.1)))) e x125).bind fun x129=>
        match x129 with
        | (.inl x129)=>
         bif (decide ((w64 (x129.1-s0.1))<(w64 (s0.2.1-x129.1)))) then
          bif (decide ((w64 (Int.tdiv (w64 (s0.2.1-s0.1)) 8))≤(w64 (x129.1-s0.1)))) then
           (rc s0.1 x129.1 (w64 (s0.2.2.1-1)) e x129.2).bind fun x130=>
           some (.inl ((w64 (x129.1+1)),s0.2.1,(w64 (s0.2.2.1-1)),true,true,x130))
          else
           (rc s0.1 x129.1 (w64 (s0.2.2.1-1)) e x129.2).bind fun x131=>
           some (.inl ((w64 (x129.1+1)),s0.2.1,(w64 (s0.2.2.1-1)),false,true,x131))
         else
          bif (decide ((w64 (Int.tdiv (w64 (s0.2.1-s0.1)) 8))≤(w64 (s0.2.1-x129.1)))) then
           (rc (w64 (x129.1+1)) s0.2.1 (w64 (s0.2.2.1-1)) e x129.2).bind fun x132=>
           some (.inl (s0.1,x129.1,(w64 (s0.2.2.1-1)),true,true,x132))
          else
           (rc (w64 (x129.1+1)) s0.2.1 (w64 (s0.2.2.1-1)) e x129.2).bind fun x133=>
           some (.inl (s0.1,x129.1,(w64 (s0.2.2.1-1)),false,true,x133))
        | (.inr x129)=>
         bif (decide ((w64 (x129.1-s0.1))<(w64 (s0.2.1-x129.1)))) then
          bif (decide ((w64 (Int.tdiv (w64 (s0.2.1-s0.1)) 8))≤(w64 (x129.1-s0.1)))) then
           (rc s0.1 x129.1 (w64 (s0.2.2.1-1)) e x129.2).bind fun x134=>
           some (.inl ((w64 (x129.1+1)),s0.2.1,(w64 (s0.2.2.1-1)),true,false,x134))
          else
           (rc s0.1 x129.1 (w64 (s0.2.2.1-1)) e x129.2).bind fun x135=>
           some (.inl ((w64 (x129.1+1)),s0.2.1,(w64 (s0.2.2.1-1)),false,false,x135))
         else
          bif (decide ((w64 (Int.tdiv (w64 (s0.2.1-s0.1)) 8))≤(w64 (s0.2.1-x129.1)))) then
           (rc (w64 (x129.1+1)) s0.2.1 (w64 (s0.2.2.1-1)) e x129.2).bind fun x136=>
           some (.inl (s0.1,x129.1,(w64 (s0.2.2.1-1)),true,false,x136))
          else
           (rc (w64 (x129.1+1)) s0.2.1 (w64 (s0.2.2.1-1)) e x129.2).bind fun x137=>
           some (.inl (s0.1,x129.1,(w64 (s0.2.2.1-1)),false,false,x137))
       else
        (Zy s0.1 s0.2.1 (w64 ((w64 (s0.2.1-1))-(w64 (x124.1-s0.1)))) e x125).bind fun x138=>
        some (.inl (x138.1,s0.2.1,(w64 (s0.2.2.1-1)),false,true,x138.2))
      else
       (Zq s0.1 s0.2.1 (w64 ((w64 (s0.2.1-1))-(w64 (x124.1-s0.1)))) e x125).bind fun x139=>
       match x139 with
       | (.inl x139)=>
        bif (decide ((w64 (x139.1-s0.1))<(w64 (s0.2.1-x139.1)))) then
         bif (decide ((w64 (Int.tdiv (w64 (s0.2.1-s0.1)) 8))≤(w64 (x139.1-s0.1)))) then
          (rc s0.1 x139.1 (w64 (s0.2.2.1-1)) e x139.2).bind fun x140=>
          some (.inl ((w64 (x139.1+1)),s0.2.1,(w64 (s0.2.2.1-1)),true,true,x140))
         else
          (rc s0.1 x139.1 (w64 (s0.2.2.1-1)) e x139.2).bind fun x141=>
          some (.inl ((w64 (x139.1+1)),s0.2.1,(w64 (s0.2.2.1-1)),false,true,x141))
        else
         bif (decide ((w64 (Int.tdiv (w64 (s0.2.1-s0.1)) 8))≤(w64 (s0.2.1-x139.1)))) then
          (rc (w64 (x139.1+1)) s0.2.1 (w64 (s0.2.2.1-1)) e x139.2).bind fun x142=>
          some (.inl (s0.1,x139.1,(w64 (s0.2.2.1-1)),true,true,x142))
         else
          (rc (w64 (x139.1+1)) s0.2.1 (w64 (s0.2.2.1-1)) e x139.2).bind fun x143=>
          some (.inl (s0.1,x139.1,(w64 (s0.2.2.1-1)),false,true,x143))
       | (.inr x139)=>
        bif (decide ((w64 (x139.1-s0.1))<(w64 (s0.2.1-x139.1)))) then
         bif (decide ((w64 (Int.tdiv (w64 (s0.2.1-s0.1)) 8))≤(w64 (x139.1-s0.1)))) then
          (rc s0.1 x139.1 (w64 (s0.2.2.1-1)) e x139.2).bind fun x144=>
          some (.inl ((w64 (x139.1+1)),s0.2.1,(w64 (s0.2.2.1-1)),true,false,x144))
         else
          (rc s0.1 x139.1 (w64 (s0.2.2.1-1)) e x139.2).bind fun x145=>
          some (.inl ((w64 (x139.1+1)),s0.2.1,(w64 (s0.2.2.1-1)),false,false,x145))
        else
         bif (decide ((w64 (Int.tdiv (w64 (s0.2.1-s0.1)) 8))≤(w64 (s0.2.1-x139.1)))) then
          (rc (w64 (x139.1+1)) s0.2.1 (w64 (s0.2.2.1-1)) e x139.2).bind fun x146=>
          some (.inl (s0.1,x139.1,(w64 (s0.2.2.1-1)),true,false,x146))
         else
          (rc (w64 (x139.1+1)) s0.2.1 (w64 (s0.2.2.1-1)) e x139.2).bind fun x147=>
          some (.inl (s0.1,x139.1,(w64 (s0.2.2.1-1)),false,false,x147))
     else
      bif (decide (0<s0.1)) then
       (Zt x123 (w64 (s0.1-1))).bind fun x148=>
       (Zt x123 x124.1).bind fun x149=>
       (e x148 x149).bind fun x150=>
       bif (decide (x150<0)) then
        (Zq s0.1 s0.2.1 x124.1 e x123).bind fun x151=>
        match x151 with
        | (.inl x151)=>
         bif (decide ((w64 (x151.1-s0.1))<(w64 (s0.2.1-x151.1)))) then
          bif (decide ((w64 (Int.tdiv (w64 (s0.2.1-s0.1)) 8))≤(w64 (x151.1-s0.1)))) then
           (rc s0.1 x151.1 (w64 (s0.2.2.1-1)) e x151.2).bind fun x152=>
           some (.inl ((w64 (x151.1+1)),s0.2.1,(w64 (s0.2.2.1-1)),true,true,x152))
          else
           (rc s0.1 x151.1 (w64 (s0.2.2.1-1)) e x151.2).bind fun x153=>
           some (.inl ((w64 (x151.1+1)),s0.2.1,(w64 (s0.2.2.1-1)),false,true,x153))
         else
          bif (decide ((w64 (Int.tdiv (w64 (s0.2.1-s0.1)) 8))≤(w64 (s0.2.1-x151.1)))) then
           (rc (w64 (x151.1+1)) s0.2.1 (w64 (s0.2.2.1-1)) e x151.2).bind fun x154=>
           some (.inl (s0.1,x151.1,(w64 (s0.2.2.1-1)),true,true,x154))
          else
           (rc (w64 (x151.1+1)) s0.2.1 (w64 (s0.2.2.1-1)) e x151.2).bind fun x155=>
           some (.inl (s0.1,x151.1,(w64 (s0.2.2.1-1)),false,true,x155))
        | (.inr x151)=>
         bif (decide ((w64 (x151.1-s0.1))<(w64 (s0.2.1-x151.1)))) then
          bif (decide ((w64 (Int.tdiv (w64 (s0.2.1-s0.1)) 8))≤(w64 (x151.1-s0.1)))) then
           (rc s0.1 x151.1 (w64 (s0.2.2.1-1)) e x151.2).bind fun x156=>
           some (.inl ((w64 (x151.1+1)),s0.2.1,(w64 (s0.2.2.1-1)),true,false,x156))
          else
           (rc s0.1 x151.1 (w64 (s0.2.2.1-1)) e x151.2).bind fun x157=>
           some (.inl ((w64 (x151.1+1)),s0.2.1,(w64 (s0.2.2.1-1)),false,false,x157))
         else
          bif (decide ((w64 (Int.tdiv (w64 (s0.2.1-s0.1)) 8))≤(w64 (s0.2.1-x151.1)))) then
           (rc (w64 (x151.1+1)) s0.2.1 (w64 (s0.2.2.1-1)) e x151.2).bind fun x158=>
           some (.inl (s0.1,x151.1,(w64 (s0.2.2.1-1)),true,false,x158))
          else
           (rc (w64 (x151.1+1)) s0.2.1 (w64 (s0.2.2.1-1)) e x151.2).bind fun x159=>
           some (.inl (s0.1,x151.1,(w64 (s0.2.2.1-1)),false,false,x159))
       else
        (Zy s0.1 s0.2.1 x124.1 e x123).bind fun x160=>
        some (.inl (x160.1,s0.2.1,(w64 (s0.2.2.1-1)),false,true,x160.2))
      else
       (Zq s0.1 s0.2.1 x124.1 e x123).bind fun x161=>
       match x161 with
       | (.inl x161)=>
        bif (decide ((w64 (x161.1-s0.1))<(w64 (s0.2.1-x161.1)))) then
         bif (decide ((w64 (Int.tdiv (w64 (s0.2.1-s0.1)) 8))≤(w64 (x161.1-s0.1)))) then
          (rc s0.1 x161.1 (w64 (s0.2.2.1-1)) e x161.2).bind fun x162=>
          some (.inl ((w64 (x161.1+1)),s0.2.1,(w64 (s0.2.2.1-1)),true,true,x162))
         else
          (rc s0.1 x161.1 (w64 (s0.2.2.1-1)) e x161.2).bind fun x163=>
          some (.inl ((w64 (x161.1+1)),s0.2.1,(w64 (s0.2.2.1-1)),false,true,x163))
        else
         bif (decide ((w64 (Int.tdiv (w64 (s0.2.1-s0.1)) 8))≤(w64 (s0.2.1-x161.1)))) then
          (rc (w64 (x161.1+1)) s0.2.1 (w64 (s0.2.2.1-1)) e x161.2).bind fun x164=>
          some (.inl (s0.1,x161.1,(w64 (s0.2.2.1-1)),true,true,x164))
         else
          (rc (w64 (x161.1+1)) s0.2.1 (w64 (s0.2.2.1-1)) e x161.2).bind fun x165=>
          some (.inl (s0.1,x161.1,(w64 (s0.2.2.1-1)),false,true,x165))
       | (.inr x161)=>
        bif (decide ((w64 (x161.1-s0.1))<(w64 (s0.2.1-x161.1)))) then
         bif (decide ((w64 (Int.tdiv (w64 (s0.2.1-s0.1)) 8))≤(w64 (x161.1-s0.1)))) then
          (rc s0.1 x161.1 (w64 (s0.2.2.1-1)) e x161.2).bind fun x166=>
          some (.inl ((w64 (x161.1+1)),s0.2.1,(w64 (s0.2.2.1-1)),true,false,x166))
         else
          (rc s0.1 x161.1 (w64 (s0.2.2.1-1)) e x161.2).bind fun x167=>
          some (.inl ((w64 (x161.1+1)),s0.2.1,(w64 (s0.2.2.1-1)),false,false,x167))
        else
         bif (decide ((w64 (Int.tdiv (w64 (s0.2.1-s0.1)) 8))≤(w64 (s0.2.1-x161.1)))) then
          (rc (w64 (x161.1+1)) s0.2.1 (w64 (s0.2.2.1-1)) e x161.2).bind fun x168=>
          some (.inl (s0.1,x161.1,(w64 (s0.2.2.1-1)),true,false,x168))
         else
          (rc (w64 (x161.1+1)) s0.2.1 (w64 (s0.2.2.1-1)) e x161.2).bind fun x169=>
          some (.inl (s0.1,x161.1,(w64 (s0.2.2.1-1)),false,false,x169))
  else
   bif (decide ((w64 (s0.2.1-s0.1))≤12)) then
    (Z7 s0.1 s0.2.1 e s0.2.2.2.2.2).bind fun x170=>
    some (.inr x170)
   else
    bif (s0.2.2.1==0) then
     (Zat s0.1 s0.2.1 e s0.2.2.2.2.2).bind fun x171=>
     some (.inr x171)
    else
     (ZaB s0.1 s0.2.1 e s0.2.2.2.2.2).bind fun x172=>
     (ZT s0.1 s0.2.1 e x172).bind fun x173=>
     bif (x173.2==2) then
      (ZP s0.1 s0.2.1 e x172).bind fun x174=>
      bif (decide (0<s0.1)) then
       (Zt x174 (w64 (s0.1-1))).bind fun x175=>
       (Zt x174 (w64 ((w64 (s0.2.1-1))-(w64 (x173.1-s0.1))))).bind fun x176=>
       (e x175 x176).bind fun x177=>
       bif (decide (x177<0)) then
        (Zq s0.1 s0.2.1 (w64 ((w64 (s0.2.1-1))-(w64 (x173.1-s0.1)))) e x174).bind fun x178=>
        match x178 with
        | (.inl x178)=>
         bif (decide ((w64 (x178.1-s0.1))<(w64 (s0.2.1-x178.1)))) then
          bif (decide ((w64 (Int.tdiv (w64 (s0.2.1-s0.1)) 8))≤(w64 (x178.1-s0.1)))) then
           (rc s0.1 x178.1 (w64 (s0.2.2.1-1)) e x178.2).bind fun x179=>
           some (.inl ((w64 (x178.1+1)),s0.2.1,(w64 (s0.2.2.1-1)),true,true,x179))
          else
           (rc s0.1 x178.1 (w64 (s0.2.2.1-1)) e x178.2).bind fun x180=>
           some (.inl ((w64 (x178.1+1)),s0.2.1,(w64 (s0.2.2.1-1)),false,true,x180))
         else
          bif (decide ((w64 (Int.tdiv (w64 (s0.2.1-s0.1)) 8))≤(w64 (s0.2.1-x178.1)))) then
           (rc (w64 (x178.1+1)) s0.2.1 (w64 (s0.2.2.1-1)) e x178.2).bind fun x181=>
           some (.inl (s0.1,x178.1,(w64 (s0.2.2.1-1)),true,true,x181))
          else
           (rc (w64 (x178.1+1)) s0.2.1 (w64 (s0.2.2.1-1)) e x178.2).bind fun x182=>
           some (.inl (s0.1,x178.1,(w64 (s0.2.2.1-1)),false,true,x182))
        | (.inr x178)=>
         bif (decide ((w64 (x178.1-s0.1))<(w64 (s0.2.1-x178.1)))) then
          bif (decide ((w64 (Int.tdiv (w64 (s0.2.1-s0.1)) 8))≤(w64 (x178.1-s0.1)))) then
           (rc s0.1 x178.1 (w64 (s0.2.2.1-1)) e x178.2).bind fun x183=>
           some (.inl ((w64 (x178.1+1)),s0.2.1,(w64 (s0.2.2.1-1)),true,false,x183))
          else
           (rc s0.1 x178.1 (w64 (s0.2.2.1-1)) e x178.2).bind fun x184=>
           some (.inl ((w64 (x178.1+1)),s0.2.1,(w64 (s0.2.2.1-1)),false,false,x184))
         else
          bif (decide ((w64 (Int.tdiv (w64 (s0.2.1-s0.1)) 8))≤(w64 (s0.2.1-x178.1)))) then
           (rc (w64 (x178.1+1)) s0.2.1 (w64 (s0.2.2.1-1)) e x178.2).bind fun x185=>
           some (.inl (s0.1,x178.1,(w64 (s0.2.2.1-1)),true,false,x185))
          else
           (rc (w64 (x178.1+1)) s0.2.1 (w64 (s0.2.2.1-1)) e x178.2).bind fun x186=>
           some (.inl (s0.1,x178.1,(w64 (s0.2.2.1-1)),false,false,x186))
       else
        (Zy s0.1 s0.2.1 (w64 ((w64 (s0.2.1-1))-(w64 (x173.1-s0.1)))) e x174).bind fun x187=>
        some (.inl (x187.1,s0.2.1,(w64 (s0.2.2.1-1)),false,false,x187.2))
      else
       (Zq s0.1 s0.2.1 (w64 ((w64 (s0.2.1-1))-(w64 (x173.1-s0.1)))) e x174).bind fun x188=>
       match x188 with
       | (.inl x188)=>
        bif (decide ((w64 (x188.1-s0.1))<(w64 (s0.2.1-x188.1)))) then
         bif (decide ((w64 (Int.tdiv (w64 (s0.2.1-s0.1)) 8))≤(w64 (x188.1-s0.1)))) then
          (rc s0.1 x188.1 (w64 (s0.2.2.1-1)) e x188.2).bind fun x189=>
          some (.inl ((w64 (x188.1+1)),s0.2.1,(w64 (s0.2.2.1-1)),true,true,x189))
         else
          (rc s0.1 x188.1 (w64 (s0.2.2.1-1)) e x188.2).bind fun x190=>
          some (.inl ((w64 (x188.1+1)),s0.2.1,(w64 (s0.2.2.1-1)),false,true,x190))
        else
         bif (decide ((w64 (Int.tdiv (w64 (s0.2.1-s0.1)) 8))≤(w64 (s0.2.1-x188.1)))) then
          (rc (w64 (x188.1+1)) s0.2.1 (w64 (s0.2.2.1-1)) e x188.2).bind fun x191=>
          some (.inl (s0.1,x188.1,(w64 (s0.2.2.1-1)),true,true,x191))
         else
          (rc (w64 (x188.1+1)) s0.2.1 (w64 (s0.2.2.1-1)) e x188.2).bind fun x192=>
          some (.inl (s0.1,x188.1,(w64 (s0.2.2.1-1)),false,true,x192))
       | (.inr x188)=>
        bif (decide ((w64 (x188.1-s0.1))<(w64 (s0.2.1-x188.1)))) then
         bif (decide ((w64 (Int.tdiv (w64 (s0.2.1-s0.1)) 8))≤(w64 (x188.1-s0.1)))) then
          (rc s0.1 x188.1 (w64 (s0.2.2.1-1)) e x188.2).bind fun x193=>
          some (.inl ((w64 (x188.1+1)),s0.2.1,(w64 (s0.2.2.1-1)),true,false,x193))
         else
          (rc s0.1 x188.1 (w64 (s0.2.2.1-1)) e x188.2).bind fun x194=>
          some (.inl ((w64 (x188.1+1)),s0.2.1,(w64 (s0.2.2.1-1)),false,false,x194))
        else
         bif (decide ((w64 (Int.tdiv (w64 (s0.2.1-s0.1)) 8))≤(w64 (s0.2.1-x188.1)))) then
          (rc (w64 (x188.1+1)) s0.2.1 (w64 (s0.2.2.1-1)) e x188.2).bind fun x195=>
          some (.inl (s0.1,x188.1,(w64 (s0.2.2.1-1)),true,false,x195))
         else
          (rc (w64 (x188.1+1)) s0.2.1 (w64 (s0.2.2.1-1)) e x188.2).bind fun x196=>
          some (.inl (s0.1,x188.1,(w64 (s0.2.2.1-1)),false,false,x196))
     else
      bif (decide (0<s0.1)) then
       (Zt x172 (w64 (s0.1-1))).bind fun x197=>
       (Zt x172 x173.1).bind fun x198=>
       (e x197 x198).bind fun x199=>
       bif (decide (x199<0)) then
        (Zq s0.1 s0.2.1 x173.1 e x172).bind fun x200=>
        match x200 with
        | (.inl x200)=>
         bif (decide ((w64 (x200.1-s0.1))<(w64 (s0.2.1-x200.1)))) then
          bif (decide ((w64 (Int.tdiv (w64 (s0.2.1-s0.1)) 8))≤(w64 (x200.1-s0.1)))) then
           (rc s0.1 x200.1 (w64 (s0.2.2.1-1)) e x200.2).bind fun x201=>
           some (.inl ((w64 (x200.1+1)),s0.2.1,(w64 (s0.2.2.1-1)),true,true,x201))
          else
           (rc s0.1 x200.1 (w64 (s0.2.2.1-1)) e x200.2).bind fun x202=>
           some (.inl ((w64 (x200.1+1)),s0.2.1,(w64 (s0.2.2.1-1)),false,true,x202))
         else
          bif (decide ((w64 (Int.tdiv (w64 (s0.2.1-s0.1)) 8))≤(w64 (s0.2.1-x200.1)))) then
           (rc (w64 (x200.1+1)) s0.2.1 (w64 (s0.2.2.1-1)) e x200.2).bind fun x203=>
           some (.inl (s0.1,x200.1,(w64 (s0.2.2.1-1)),true,true,x203))
          else
           (rc (w64 (x200.1+1)) s0.2.1 (w64 (s0.2.2.1-1)) e x200.2).bind fun x204=>
           some (.inl (s0.1,x200.1,(w64 (s0.2.2.1-1)),false,true,x204))
        | (.inr x200)=>
         bif (decide ((w64 (x200.1-s0.1))<(w64 (s0.2.1-x200.1)))) then
          bif (decide ((w64 (Int.tdiv (w64 (s0.2.1-s0.1)) 8))≤(w64 (x200.1-s0.1)))) then
           (rc s0.1 x200.1 (w64 (s0.2.2.1-1)) e x200.2).bind fun x205=>
           some (.inl ((w64 (x200.1+1)),s0.2.1,(w64 (s0.2.2.1-1)),true,false,x205))
          else
           (rc s0.1 x200.1 (w64 (s0.2.2.1-1)) e x200.2).bind fun x206=>
           some (.inl ((w64 (x200.1+1)),s0.2.1,(w64 (s0.2.2.1-1)),false,false,x206))
         else
          bif (decide ((w64 (Int.tdiv (w64 (s0.2.1-s0.1)) 8))≤(w64 (s0.2.1-x200.1)))) then
           (rc (w64 (x200.1+1)) s0.2.1 (w64 (s0.2.2.1-1)) e x200.2).bind fun x207=>
           some (.inl (s0.1,x200.1,(w64 (s0.2.2.1-1)),true,false,x207))
          else
           (rc (w64 (x200.1+1)) s0.2.1 (w64 (s0.2.2.1-1)) e x200.2).bind fun x208=>
           some (.inl (s0.1,x200.1,(w64 (s0.2.2.1-1)),false,false,x208))
       else
        (Zy s0.1 s0.2.1 x173.1 e x172).bind fun x209=>
        some (.inl (x209.1,s0.2.1,(w64 (s0.2.2.1-1)),false,false,x209.2))
      else
       (Zq s0.1 s0.2.1 x173.1 e x172).bind fun x210=>
       match x210 with
       | (.inl x210)=>
        bif (decide ((w64 (x210.1-s0.1))<(w64 (s0.2.1-x210.1)))) then
         bif (decide ((w64 (Int.tdiv (w64 (s0.2.1-s0.1)) 8))≤(w64 (x210.1-s0.1)))) then
          (rc s0.1 x210.1 (w64 (s0.2.2.1-1)) e x210.2).bind fun x211=>
          some (.inl ((w64 (x210.1+1)),s0.2.1,(w64 (s0.2.2.1-1)),true,true,x211))
         else
          (rc s0.1 x210.1 (w64 (s0.2.2.1-1)) e x210.2).bind fun x212=>
          some (.inl ((w64 (x210.1+1)),s0.2.1,(w64 (s0.2.2.1-1)),false,true,x212))
        else
         bif (decide ((w64 (Int.tdiv (w64 (s0.2.1-s0.1)) 8))≤(w64 (s0.2.1-x210.1)))) then
          (rc (w64 (x210.1+1)) s0.2.1 (w64 (s0.2.2.1-1)) e x210.2).bind fun x213=>
          some (.inl (s0.1,x210.1,(w64 (s0.2.2.1-1)),true,true,x213))
         else
          (rc (w64 (x210.1+1)) s0.2.1 (w64 (s0.2.2.1-1)) e x210.2).bind fun x214=>
          some (.inl (s0.1,x210.1,(w64 (s0.2.2.1-1)),false,true,x214))
       | (.inr x210)=>
        bif (decide ((w64 (x210.1-s0.1))<(w64 (s0.2.1-x210.1)))) then
         bif (decide ((w64 (Int.tdiv (w64 (s0.2.1-s0.1)) 8))≤(w64 (x210.1-s0.1)))) then
          (rc s0.1 x210.1 (w64 (s0.2.2.1-1)) e x210.2).bind fun x215=>
          some (.inl ((w64 (x210.1+1)),s0.2.1,(w64 (s0.2.2.1-1)),true,false,x215))
         else
          (rc s0.1 x210.1 (w64 (s0.2.2.1-1)) e x210.2).bind fun x216=>
          some (.inl ((w64 (x210.1+1)),s0.2.1,(w64 (s0.2.2.1-1)),false,false,x216))
        else
         bif (decide ((w64 (Int.tdiv (w64 (s0.2.1-s0.1)) 8))≤(w64 (s0.2.1-x210.1)))) then
          (rc (w64 (x210.1+1)) s0.2.1 (w64 (s0.2.2.1-1)) e x210.2).bind fun x217=>
          some (.inl (s0.1,x210.1,(w64 (s0.2.2.1-1)),true,false,x217))
         else
          (rc (w64 (x210.1+1)) s0.2.1 (w64 (s0.2.2.1-1)) e x210.2).bind fun x218=>
          some (.inl (s0.1,x210.1,(w64 (s0.2.2.1-1)),false,false,x218))
def ZaV (rc:Int→Int→Int→(Int→Int→Option Int)→(List Int)→Option (List Int)) (b:Int) (c:Int) (d:Int) (e:(Int→Int→Option Int)) (m0_0:List Int):Option (List Int):=
 (lp (Z0 e rc) (b,c,d,true,true,m0_0)).bind fun r219=>
 some r219
def Z4:Nat→Int→Int→Int→(Int→Int→Option Int)→(List Int)→Option (List Int)
 | 0=>fun _ _ _ _ _=>none
 | n+1=>ZaV (Z4 n)
def Zd3 (b:Int) (c:Int) (d:Int) (e:(Int→Int→Option Int)) (m0_0:List Int):Option (List Int):=ZxA fun n=>Z4 n b c d e m0_0
def Zb8 (b:(Int→Int→Option Int)) (m0_0:List Int):Option (List Int):=
 (ZdW (u64.wrap (m0_0.length:Int))).bind fun x0=>
 (Zd3 0 (m0_0.length:Int) x0 b m0_0).bind fun x1=>
 some x1
end
def ZAt (n a b:Int):Bool:=decide (a≤n)&&decide (n≤b)
theorem ZmQ {γ:Type} (l:List γ) (p:γ→Bool) (step:Int→Option (Int⊕(Int⊕Unit)))
  (h1:∀i x,i<l.length→l[i]? = some x→step (i:Int)=some (bif p x then .inr (.inl (i:Int)) else .inl ((i+1:Nat):Int)))
  (h2:step (l.length:Int)=some (.inr (.inr ()))) :
  (((lp step 0).bind fun(r:Int⊕Unit)=>match r with | .inl r=>some r | .inr _=>some (-1)).bind fun x=>bif decide (0≤x) then some true else some false)=some (l.any p):=by
 rw[Zjo l step (fun _=>p) (fun i _=>.inl (i:Int)) (.inr ()) h1 h2]
 rcases Zrx p () l 0 with⟨j,e1,e2⟩ | ⟨e1,e2⟩
 ·rw[e1,e2]
  show(bif decide ((0:Int)≤(j:Int)) then some true else some false)=some true
  rw[decide_eq_true (by omega)]
  rfl
 ·rw[e1,e2]
  rfl
def Zt7 (e x:ZZ):Bool:=e.src==x.src&&(e.dst==x.dst&&true)
theorem Zye (l:List ZZ) (e:ZZ) (hl:l.length<9223372036854775808):ZbX l e=some (l.any (Zt7 e)):=by
 unfold ZbX Zdb
 refine ZmQ l (Zt7 e) _ (fun i x hi hx=>?_) ?_
 ·simp only[ZbS,ZgS hi,Zaf hx,Option.bind_some,ZaD hi hl,cond_true,Zt7]
  cases (e.src==x.src&&(e.dst==x.dst&&true))<;>rfl
 ·simp only[ZbS,ZgZ];rfl
def again (f g:Zwf):Bool:=g.user==f.user&&g.pos==f.pos
theorem Zm9 (l:List Int) (n:Int) (hl:l.length<9223372036854775808):Zak l n=some (l.any (fun x=>n==x)):=by
 unfold Zak ZdA
 refine ZmQ l (fun x=>n==x) _ (fun i x hi hx=>?_) ?_
 ·simp only[Zb9,ZgS hi,Zaf hx,Option.bind_some,ZaD hi hl,cond_true]
  cases (n==x)<;>rfl
 ·simp only[Zb9,ZgZ];rfl
theorem ZkE (l:List Int) (f:Int→Option Bool) (p:Int→Bool) (hf:∀x∈l,f x=some (p x)) (hl:l.length<9223372036854775808):ZV l f=some (l.any p):=by
 unfold ZV ZO
 refine ZmQ l p _ (fun i x hi hx=>?_) ?_
 ·simp only[ZC,ZgS hi,Zaf hx,Option.bind_some,hf x (List.mem_of_getElem? hx),ZaD hi hl,cond_true]
  cases p x<;>rfl
 ·simp only[ZC,ZgZ];rfl
def two (n:Nat) (a b:Int):Bool:=(a != b)&&(ZAt a 0 (n-1)&&ZAt b 0 (n-1))
def Zmy (n:Int):Int:=bif decide (n<0) then 10 else bif decide (1099511627775<n) then 11 else 0
theorem ZqQ (n:Int):ZhD n=some (Zmy n):=by
 unfold ZhD Zmy
 cases decide (n<0)<;>cases decide (1099511627775<n)<;>rfl
noncomputable def Zxo (x:Int):Int:=match Zc2 x with | some n=>n | none=>0
theorem ZDw (x:Int):Zdm x=some (Zxo x):=by
 unfold Zdm Zxo Zc2
 rfl
def ZDZ (n:Nat):Bool:=[1,2,4,8,16,32,64,128,256,512,1024,2048,4096].contains n
theorem ZvK:((List.range 4097).all fun n=>(Zxo (u64.wrap (n:Int))==1)==ZDZ n)=true:=by kernel_rfl
theorem Zv5 (n:Nat) (h:n≤4096):(Zxo (u64.wrap (n:Int))==1)=ZDZ n:=by
 have:=List.all_eq_true.1 ZvK n (by simp;omega)
 simpa using this
noncomputable def ZAf (n:Int):Bool:=!(Zmy n != 0) && !(Zxo (u64.wrap n) != 1)
theorem ZyJ (n:Int):∃k,Zik n=some (k,ZAf n):=by
 have tz:∃k,Zdl (u64.wrap n)=some k:=⟨_,rfl⟩
 obtain⟨k,hk⟩:=tz
 unfold Zik ZAf
 simp only[ZqQ,ZDw,Option.bind_some,hk]
 cases (Zmy n != 0)
 ·cases (Zxo (u64.wrap n) != 1)
  ·exact⟨k,rfl⟩
  ·exact⟨0,rfl⟩
 ·exact⟨0,rfl⟩
theorem ZvP (n:Nat) (h:n≤4096):ZAf (n:Int)=ZDZ n:=by
 have h1:(Zmy (n:Int) != 0)=false:=by
  unfold Zmy
  rw[decide_eq_false (show ¬((n:Int)<0) by omega),decide_eq_false (show ¬((1099511627775:Int)<n) by omega)]
  rfl
 rw[← Zv5 n h]
 unfold ZAf
 rw[h1]
 unfold bne
 rw[Bool.not_not]
 rfl
def ZD9 (b:Zul):Prop:=b.ins.length<9223372036854775808∧b.outs.length<9223372036854775808
structure ZDh (d:ZyR):Prop where
 p:d.parts.length<9223372036854775808
 e:d.edges.length<9223372036854775808
 f:d.futures.length<9223372036854775808
 b:d.barriers.length<9223372036854775808
 i:∀b∈d.barriers,ZD9 b
theorem ZvG {γ:Type}{l:List γ}{i n:Nat} (h:l.length<n):(l.take i).length<n:=by rw[List.length_take];omega
def ZmC (n:Nat) (x:Int):Bool:=decide (0≤x)&&decide (x<(n:Int))
theorem Ztq (l:List Int) (n:Int) (hl:l.length<9223372036854775808):ZgK l n=some (l.any fun x=>n==x):=by
 have key:=Zjo l (ZfJ l n) (fun _ x=>n==x) (fun _ _=>.inl ()) (.inr ()) (fun i x hi hx=>by
   have e:(x==n)=(n==x):=Bool.beq_comm
   simp only[ZfJ,ZgS hi,Zaf hx,Option.bind_some,ZaD hi hl,cond_true,e]
   cases (n==x)<;>rfl) (by simp only[ZfJ,ZgZ];rfl)
 unfold ZgK
 rw[key,Zhx,Zms]
 cases (l.any fun x=>n==x)<;>rfl
def ZsJ {γ S:Type} (f:Nat→S→γ→S):Nat→S→List γ→S
 | _,s,[]=>s
 | i,s,x :: l=>ZsJ f (i+1) (f i s x) l
theorem Zy1 {γ S T R:Type} (l:List γ) (step:T→Option (T⊕R)) (st:Nat→S→T) (f:Nat→S→γ→S) (fin:S→R) (I:Nat→S→Prop)
  (h1:∀i x s,i<l.length→l[i]? = some x→I i s→step (st i s)=some (.inl (st (i+1) (f i s x)))∧I (i+1) (f i s x))
  (h2:∀s,I l.length s→step (st l.length s)=some (.inr (fin s))) (s:S) (h0:I 0 s) :
  lp step (st 0 s)=some (fin (ZsJ f 0 s l))∧I l.length (ZsJ f 0 s l):=by
 have key:∀(k i:Nat) (s:S),i+k=l.length→I i s→lp step (st i s)=some (fin (ZsJ f i s (l.drop i)))∧I l.length (ZsJ f i s (l.drop i)):=by
  intro k
  induction k with
  | zero=>
   intro i s hi hI
   have:i=l.length:=by omega
   subst this
   rw[List.drop_length,Zbk,h2 s hI]
   exact⟨rfl,hI⟩
  | succ k ih=>
   intro i s hi hI
   have hi':i<l.length:=by omega
   obtain⟨e,hI'⟩:=h1 i l[i] s hi' (List.getElem?_eq_getElem hi') hI
   rw[List.drop_eq_getElem_cons hi',Zbk,e]
   exact ih (i+1) _ (by omega) hI'
 have:=key l.length 0 s (by omega) h0
 rwa [List.drop_zero] at this
def Zjs (w:Int):Bool:=decide (w<0) || decide (1000<w)
def Zql (g:ZB) (i:Nat) (e:ZZ):Bool:=!(ZmC g.work.length e.src) || (!(ZmC g.work.length e.dst) || ((e.src==e.dst) || (g.edges.take i).any (Zt7 e)))
def Zm3 (g:ZB):Int:=bif decide (64<(g.work.length:Int)) || decide (256<(g.edges.length:Int)) then 40 else bif g.work.any Zjs then 41 else bif Zoq (Zql g) 0 g.edges then 42 else 0
structure ZlJ (g:ZB):Prop where
 w:g.work.length<9223372036854775808
 e:g.edges.length<9223372036854775808
theorem ZyB (w:Int):Zdz w=some (Zjs w):=by
 unfold Zdz Zjs
 cases decide (w<0)<;>cases decide (1000<w)<;>rfl
theorem ZAu (a:Int) (l:List Int):Zf8 a l=some (ZmC l.length a):=by
 unfold Zf8 ZmC
 cases decide (0≤a)<;>cases decide (a<(l.length:Int))<;>rfl
theorem Zu9 (g:ZB) (h:ZlJ g):lp (ZeE g) 0=some (bif Zoq (Zql g) 0 g.edges then .inl () else .inr ()):=by
 have key:=Zjo g.edges (ZeE g) (Zql g) (fun _ _=>.inl ()) (.inr ()) (fun i x hi hx=>by
   have e0:decide ((0:Int)≤(i:Int))=true:=decide_eq_true (by omega)
   have e1:Nat.ble i g.edges.length=true:=Nat.ble_eq_true_of_le (by omega)
   simp only[ZeE,ZgS hi,Zaf hx,Option.bind_some,ZaD hi h.e,cond_true,ZAu,Zql,e0,Int.toNat_natCast,e1,Zye _ x (ZvG h.e)]
   cases ZmC g.work.length x.src<;>cases ZmC g.work.length x.dst<;>cases (x.src==x.dst)<;>cases (g.edges.take i).any (Zt7 x)<;>rfl) (by simp only[ZeE,ZgZ];rfl)
 rw[key,Zhx]
inductive Way (g:ZB):Int→Int→Prop
 | one {e:ZZ}:e∈g.edges→Way g e.src e.dst
 | more {a:Int} {e:ZZ}:Way g a e.src→e∈g.edges→Way g a e.dst
theorem Way.trans {g:ZB}{a b c:Int} (h1:Way g a b) (h2:Way g b c):Way g a c:=by
 induction h2 with
 | one he=>exact Way.more h1 he
 | more _ he ih=>exact Way.more (ih h1) he
def Zn9 (g:ZB):Prop:=∀a,¬Way g a a
structure Ze7 (g:ZB):Prop where
 wl:g.work.length≤64
 el:g.edges.length≤256
 w:∀x∈g.work,0≤x∧x≤1000
 src:∀e∈g.edges,0≤e.src∧e.src.toNat<g.work.length
 dst:∀e∈g.edges,0≤e.dst∧e.dst.toNat<g.work.length
theorem Ze7.short {g:ZB} (h:Ze7 g):ZlJ g:=⟨by have:=h.wl;omega,by have:=h.el;omega⟩
theorem ZsN {n:Nat}{a:Int} (h:ZmC n a=true):0≤a∧a.toNat<n:=by
 unfold ZmC at h
 simp only[Bool.and_eq_true,decide_eq_true_eq] at h
 omega
theorem Zuc {g:ZB} (h:Zm3 g=0):Ze7 g:=by
 unfold Zm3 at h
 cases h1:decide (64<(g.work.length:Int)) with
 | true=>rw[h1] at h;simp at h
 | false=>
 cases h2:decide (256<(g.edges.length:Int)) with
 | true=>rw[h1,h2] at h;simp at h
 | false=>
 cases h3:g.work.any Zjs with
 | true=>rw[h1,h2,h3] at h;simp at h
 | false=>
 cases h4:Zoq (Zql g) 0 g.edges with
 | true=>rw[h1,h2,h3,h4] at h;simp at h
 | false=>
 have hE:∀e∈g.edges,∃i,Zql g i e=false:=fun e he=>by
  obtain⟨i,hi⟩:=List.getElem?_of_mem he
  refine⟨i,?_⟩
  cases hb:Zql g i e with
  | false=>rfl
  | true=>rw[(Zum _ _ 0).2 ⟨i,e,hi,by simpa using hb⟩] at h4;cases h4
 refine⟨by have:=of_decide_eq_false h1;omega,by have:=of_decide_eq_false h2;omega,fun x hx=>?_,fun e he=>?_,fun e he=>?_⟩
 ·have:=List.any_eq_false.1 h3 x hx
  unfold Zjs at this
  simp only[Bool.or_eq_true,decide_eq_true_eq,not_or] at this
  omega
 ·obtain⟨i,hi⟩:=hE e he
  unfold Zql at hi
  simp only[Bool.or_eq_false_iff,Bool.not_eq_false'] at hi
  exact ZsN hi.1
 ·obtain⟨i,hi⟩:=hE e he
  unfold Zql at hi
  simp only[Bool.or_eq_false_iff,Bool.not_eq_false'] at hi
  exact ZsN hi.2.1
theorem Way.src_in {g:ZB} (h:Ze7 g) {a b:Int} (w:Way g a b):0≤a∧a.toNat<g.work.length:=by
 induction w with
 | one he=>exact h.src _ he
 | more _ _ ih=>exact ih
theorem ZuC {g:ZB} (hg:Zn9 g):∀(n:Nat) (S:List Int),S.length≤n→S≠[]→∃m∈S,∀e∈g.edges,e.dst=m→e.src∉S:=by
 intro n
 induction n with
 | zero=>intro S h1 h2;exact absurd (List.length_eq_zero_iff.1 (by omega)) h2
 | succ n ih=>
  intro S h1 h2
  obtain⟨m,hm⟩:=List.exists_mem_of_ne_nil S h2
  classical
  by_cases hS:(S.filter fun x=>decide (Way g x m))=[]
  ·refine⟨m,hm,fun e he hd hs=>?_⟩
   have:e.src∈S.filter fun x=>decide (Way g x m):=List.mem_filter.2 ⟨hs,decide_eq_true (hd ▸ Way.one he)⟩
   rw[hS] at this
   cases this
  ·have hlt:(S.filter fun x=>decide (Way g x m)).length<S.length:=by
    refine Nat.lt_of_le_of_ne (List.length_filter_le _ _) fun he=>?_
    have:=List.length_filter_eq_length_iff.1 he m hm
    exact hg m (of_decide_eq_true this)
   obtain⟨k,hk,hk2⟩:=ih _ (by omega) hS
   obtain⟨k1,k2⟩:=List.mem_filter.1 hk
   refine⟨k,k1,fun e he hd hs=>hk2 e he hd (List.mem_filter.2 ⟨hs,decide_eq_true ?_⟩)⟩
   exact(hd ▸ Way.one he:Way g e.src k).trans (of_decide_eq_true k2)
def bAt (l:List Bool) (z:Int):Bool:=match l[z.toNat]? with | some b=>b | none=>false
def Zp5 (g:ZB) (done:List Bool) (i:Nat):Bool:=!(bAt done (i:Int)) && !(g.edges.any fun e=>(e.dst==(i:Int)) && !(bAt done e.src))
def Zp8 (g:ZB) (done:List Bool):Option Nat:=ZlN (fun i _=>Zp5 g done i) (fun i _=>some i) none 0 g.work
def Zps (g:ZB):Nat→List Int→List Bool→Option (List Int)
 | 0,out,_=>some out
 | k+1,out,done=>(match Zp8 g done with | some i=>Zps g k (out++[(i:Int)]) (done.set i true) | none=>none)
theorem ZuA {γ R S:Type} (p:Nat→γ→Bool) (out:Nat→γ→R) (fin:R) (F:R→S):∀(l:List γ) (i:Nat),F (ZlN p out fin i l)=ZlN p (fun i x=>F (out i x)) (F fin) i l
 | [],i=>rfl
 | x :: l,i=>by
  unfold ZlN
  cases p i x with
  | true=>rfl
  | false=>exact ZuA p out fin F l (i+1)
theorem Zs3 {γ:Type} (p:Nat→γ→Bool):∀(l:List γ) (i k:Nat),ZlN p (fun i _=>some i) none i l=some k→i≤k∧k<i+l.length∧∃x,l[k-i]? = some x∧p k x=true
 | [],i,k,h=>by cases h
 | x :: l,i,k,h=>by
  unfold ZlN at h
  cases hp:p i x with
  | true=>
   rw[hp] at h
   cases h
   exact⟨Nat.le_refl _,by simp,x,by simp,hp⟩
  | false=>
   rw[hp] at h
   obtain⟨h1,h2,y,h3,h4⟩:=Zs3 p l (i+1) k h
   refine⟨by omega,by simp only[List.length_cons];omega,y,?_,h4⟩
   rw[show k-i=(k-(i+1))+1 by omega]
   exact h3
theorem ZsD {γ:Type} (p:Nat→γ→Bool):∀(l:List γ) (i:Nat),ZlN p (fun i _=>some i) none i l=none→∀(j:Nat) x,l[j]? = some x→p (i+j) x=false
 | [],i,h,j,x,hx=>by cases hx
 | y :: l,i,h,j,x,hx=>by
  unfold ZlN at h
  cases hp:p i y with
  | true=>rw[hp] at h;cases h
  | false=>
   rw[hp] at h
   cases j with
   | zero=>cases hx;exact hp
   | succ j=>
    have:=ZsD p l (i+1) h j x hx
    rwa [show i+1+j=i+(j+1) by omega] at this
theorem ZwR {g:ZB}{done:List Bool} (hd:done.length=g.work.length) {z:Int} (h:0≤z∧z.toNat<g.work.length):Zt done z=some (bAt done z):=by
 have e:=List.getElem?_eq_getElem (show z.toNat<done.length by rw[hd];exact h.2)
 rw[ZtY h.1 e]
 unfold bAt
 rw[e]
theorem ZDy {g:ZB} (h:Ze7 g) (out:List Int) (ho:out.length<g.work.length) (done:List Bool) (hd:done.length=g.work.length) :
  lp (Zen g (out,done)) 0=some (match Zp8 g done with | some i=>.inl (out++[(i:Int)],done.set i true) | none=>.inr ()):=by
 have key:=Zjo g.work (Zen g (out,done)) (fun i _=>Zp5 g done i) (fun i _=>.inl (out++[(i:Int)],done.set i true)) (.inr ()) (fun i x hi hx=>by
   have inner:=Zjo g.edges (ZfK g (out,done) (i:Int)) (fun _ e=>(e.dst==(i:Int)) && !(bAt done e.src)) (fun _ _=>.inl ()) (.inr ()) (fun k e hk he=>by
     simp only[ZfK,ZgS hk,Zaf he,Option.bind_some,ZaD hk h.short.e,cond_true,ZwR hd (h.src e (List.mem_of_getElem? he))]
     cases (e.dst==(i:Int))<;>cases bAt done e.src<;>rfl) (by simp only[ZfK,ZgZ];rfl)
   rw[Zhx,Zms] at inner
   have hl:=h.wl
   simp only[Zen,ZgS hi,ZwR hd (z:=(i:Int)) ⟨by omega,by simpa using hi⟩,Option.bind_some,ZaD hi h.short.w,cond_true,inner,Zgj (show out.length+1≤1073741824 by omega),Int.toNat_natCast,Zp5]
   cases bAt done (i:Int)<;>cases g.edges.any (fun e=>(e.dst==(i:Int)) && !(bAt done e.src))<;>rfl) (by simp only[Zen,ZgZ];rfl)
 rw[key]
 unfold Zp8
 exact congrArg some (ZuA (fun i _=>Zp5 g done i) (fun i _=>some i) none (fun o:Option Nat=>(match o with | some i=>(.inl (out++[(i:Int)],done.set i true):(List Int×List Bool)⊕Unit) | none=>.inr ())) g.work 0).symm
theorem Zxc {g:ZB} (h:Ze7 g):∀(k:Nat) (out:List Int) (done:List Bool),out.length+k=g.work.length→done.length=g.work.length →
  ∃r,lp (ZfN g) (out,done)=some r∧(match Zps g k out done with | some l=>r = .inr l | none=>∃l,r = .inl l)
 | 0,out,done,h1,h2=>by
  rw[Zbk]
  simp only[ZfN,show out.length=g.work.length by omega,ZgZ,cond_false]
  exact⟨_,rfl,rfl⟩
 | k+1,out,done,h1,h2=>by
  rw[Zbk]
  simp only[ZfN,ZgS (show out.length<g.work.length by omega),cond_true,ZDy h out (by omega) done h2,Option.bind_some]
  unfold Zps
  cases Zp8 g done with
  | none=>exact⟨_,rfl,_,rfl⟩
  | some i=>exact Zxc h k (out++[(i:Int)]) (done.set i true) (by rw[List.length_append];simp only[List.length_cons,List.length_nil];omega) (by rw[List.length_set];exact h2)
theorem Zw5 {g:ZB} (h:Ze7 g):Zgw g=some (match Zps g g.work.length [] (List.replicate g.work.length false) with | some l=>(l,true) | none=>([],false)):=by
 obtain⟨r,e,hr⟩:=Zxc h g.work.length [] (List.replicate g.work.length false) (by simp) (by simp)
 have hl:=h.wl
 unfold Zgw
 rw[decide_eq_true (show(0:Int)≤(g.work.length:Int) by omega),decide_eq_true (show(g.work.length:Int)≤lim by show(g.work.length:Int)≤1073741824;omega),beq_self_eq_true]
 simp only[decide_true,Bool.and_true,cond_true,Int.toNat_natCast,e,Option.bind_some]
 cases ho:Zps g g.work.length [] (List.replicate g.work.length false) with
 | some l=>rw[ho] at hr;simp only at hr;subst hr;rfl
 | none=>rw[ho] at hr;obtain⟨l,rfl⟩:=hr;rfl
structure ZgU (g:ZB) (out:List Int) (done:List Bool):Prop where
 dl:done.length=g.work.length
 mem:∀i:Nat,bAt done (i:Int)=true↔(i:Int)∈out
 inn:∀z∈out,0≤z∧z.toNat<g.work.length
 nod:out.Nodup
 topo:∀(i:Nat) (n:Int),out[i]? = some n→∀e∈g.edges,e.dst=n→∃j,j<i∧out[j]? = some e.src
theorem ZBY {done:List Bool}{i:Nat} (hi:i<done.length) (z:Int) (hz:0≤z):bAt (done.set i true) z=(decide (z=(i:Int)) || bAt done z):=by
 unfold bAt
 rw[List.getElem?_set]
 by_cases h:i=z.toNat
 ·subst h
  rw[if_pos rfl,if_pos hi,decide_eq_true (show z=((z.toNat:Nat):Int) by omega)];rfl
 ·rw[if_neg h,decide_eq_false (show ¬z=(i:Int) by omega)];rfl
theorem ZgU.start (g:ZB):ZgU g [] (List.replicate g.work.length false):=by
 refine⟨by simp,fun i=>?_,by simp,by simp,by simp⟩
 unfold bAt
 rw[List.getElem?_replicate]
 by_cases h:((i:Int)).toNat<g.work.length
 ·rw[if_pos h];simp
 ·rw[if_neg h];simp
theorem ZgU.next {g:ZB} (h:Ze7 g) {out:List Int}{done:List Bool} (o:ZgU g out done) {i:Nat} (hn:Zp8 g done=some i):ZgU g (out++[(i:Int)]) (done.set i true):=by
 obtain⟨_,hi,x,_,hp⟩:=Zs3 _ _ _ _ hn
 rw[Nat.zero_add] at hi
 unfold Zp5 at hp
 simp only[Bool.and_eq_true,Bool.not_eq_true',List.any_eq_false,Bool.not_eq_true] at hp
 have hid:i<done.length:=by rw[o.dl];exact hi
 have hnot:(i:Int)∉out:=fun hm=>by have:=(o.mem i).2 hm;rw[hp.1] at this;cases this
 refine⟨by rw[List.length_set];exact o.dl,fun j=>?_,fun z hz=>?_,?_,fun k n hk e he hd=>?_⟩
 ·rw[ZBY hid (j:Int) (by omega),Bool.or_eq_true,decide_eq_true_eq,o.mem,List.mem_append,List.mem_singleton]
  exact Or.comm
 ·rcases List.mem_append.1 hz with hz | hz
  ·exact o.inn z hz
  ·rw[List.mem_singleton] at hz;subst hz;exact⟨by omega,by simpa using hi⟩
 ·rw[List.nodup_append]
  refine⟨o.nod,by simp,fun a ha b hb=>?_⟩
  rw[List.mem_singleton] at hb
  subst hb
  exact fun hab=>hnot (hab ▸ ha)
 ·rcases Nat.lt_or_ge k out.length with hk2 | hk2
  ·rw[List.getElem?_append_left hk2] at hk
   obtain⟨j,h1,h2⟩:=o.topo k n hk e he hd
   exact⟨j,h1,by rw[List.getElem?_append_left (by omega)];exact h2⟩
  ·rw[List.getElem?_append_right hk2] at hk
   have hk0:k-out.length=0:=by
    rcases Nat.eq_zero_or_pos (k-out.length) with h0 | h0
    ·exact h0
    ·rw[List.getElem?_eq_none (by simp only[List.length_cons,List.length_nil];omega)] at hk;cases hk
   rw[hk0] at hk
   simp only[List.getElem?_cons_zero,Option.some.injEq] at hk
   subst hk
   have hs:=hp.2 e he
   rw[hd] at hs
   have hs:bAt done e.src=true:=by simpa using hs
   have hsr:=h.src e he
   have:=(o.mem e.src.toNat).1 (by rw[show((e.src.toNat:Nat):Int)=e.src by omega];exact hs)
   rw[show((e.src.toNat:Nat):Int)=e.src by omega] at this
   obtain⟨j,hj⟩:=List.getElem?_of_mem this
   have hjl:=(List.getElem?_eq_some_iff.1 hj).1
   exact⟨j,by omega,by rw[List.getElem?_append_left hjl];exact hj⟩
theorem ZgU.way {g:ZB}{out:List Int}{done:List Bool} (o:ZgU g out done) {a b:Int} (w:Way g a b):∀j:Nat,out[j]? = some b→∃i,i<j∧out[i]? = some a:=by
 induction w with
 | one he=>intro j hj;exact o.topo j _ hj _ he rfl
 | more _ he ih=>
  intro j hj
  obtain⟨i,h1,h2⟩:=o.topo j _ hj _ he rfl
  obtain⟨k,h3,h4⟩:=ih i h2
  exact⟨k,by omega,h4⟩
theorem ZpY {l:List Int} (h:l.Nodup) {i j:Nat}{a:Int} (h1:l[i]? = some a) (h2:l[j]? = some a):i=j:=by
 obtain⟨a1,a2⟩:=List.getElem?_eq_some_iff.1 h1
 obtain⟨b1,b2⟩:=List.getElem?_eq_some_iff.1 h2
 exact(List.getElem_inj h).1 (a2.trans b2.symm)
def ZAG (n:Nat) (done:List Bool):List Int:=((List.range n).filter fun i:Nat=>!bAt done (i:Int)).map fun i:Nat=>(i:Int)
theorem ZrJ {n:Nat}{done:List Bool}{i:Nat} (h1:i<n) (h2:bAt done (i:Int)=false):(i:Int)∈ZAG n done:=
 List.mem_map.2 ⟨i,List.mem_filter.2 ⟨List.mem_range.2 h1,by rw[h2];rfl⟩,rfl⟩
theorem Zyi {g:ZB} (h:Ze7 g) (hg:Zn9 g) {out:List Int}{done:List Bool} (o:ZgU g out done) (i0:Nat) (hi0:i0<g.work.length) (hb:bAt done (i0:Int)=false):∃i,Zp8 g done=some i:=by
 cases hn:Zp8 g done with
 | some i=>exact⟨i,rfl⟩
 | none=>
  exfalso
  have hall:=ZsD _ _ _ hn
  obtain⟨m,hm,hm2⟩:=ZuC hg _ (ZAG g.work.length done) (Nat.le_refl _) (by
   intro he
   have:=ZrJ hi0 hb
   rw[he] at this;cases this)
  obtain⟨k,hk,rfl⟩:=List.mem_map.1 hm
  obtain⟨hk1,hk2⟩:=List.mem_filter.1 hk
  rw[List.mem_range] at hk1
  have hr:=hall k g.work[k] (List.getElem?_eq_getElem hk1)
  rw[Nat.zero_add] at hr
  unfold Zp5 at hr
  rw[hk2,Bool.true_and,Bool.not_eq_false',List.any_eq_true] at hr
  obtain⟨e,he,he2⟩:=hr
  simp only[Bool.and_eq_true,beq_iff_eq] at he2
  have hsr:=h.src e he
  refine hm2 e he he2.1 ?_
  have es:((e.src.toNat:Nat):Int)=e.src:=by omega
  rw[← es]
  exact ZrJ hsr.2 (by rw[es];simpa using he2.2)
theorem ZAS {n:Nat}{out:List Int} (h1:out.Nodup) (h2:∀z∈out,0≤z∧z.toNat<n):(out.length≤n)∧(out.length=n→∀i:Nat,i<n→(i:Int)∈out):=by
 induction n generalizing out with
 | zero=>
  refine⟨?_,fun _ i hi=>absurd hi (by omega)⟩
  cases out with
  | nil=>simp
  | cons z l=>have:=h2 z (by simp);omega
 | succ n ih=>
  by_cases hm:(n:Int)∈out
  ·have e1:(out.erase (n:Int)).length=out.length-1:=List.length_erase_of_mem hm
   have pos:0<out.length:=List.length_pos_of_mem hm
   obtain⟨a,b⟩:=ih (out:=out.erase (n:Int)) (h1.erase _) (fun z hz=>by
    have hz2:=(List.Nodup.mem_erase_iff h1).1 hz
    have:=h2 z hz2.2
    have:=hz2.1
    omega)
   refine⟨by omega,fun hl i hi=>?_⟩
   by_cases hin:i=n
   ·subst hin;exact hm
   ·exact List.mem_of_mem_erase (b (by omega) i (by omega))
  ·obtain⟨a,b⟩:=ih (out:=out) h1 (fun z hz=>by
    have:=h2 z hz
    have:z≠(n:Int):=fun he=>hm (he ▸ hz)
    omega)
   exact⟨by omega,fun hl=>by omega⟩
theorem ZAQ:∀(n:Nat) (out:List Int),(∀i:Nat,i<n→(i:Int)∈out)→n≤out.length
 | 0,out,h=>by omega
 | n+1,out,h=>by
  have hm:=h n (by omega)
  have e1:(out.erase (n:Int)).length=out.length-1:=List.length_erase_of_mem hm
  have pos:0<out.length:=List.length_pos_of_mem hm
  have:=ZAQ n (out.erase (n:Int)) (fun i hi=>(List.mem_erase_of_ne (by omega)).2 (h i (by omega)))
  omega
theorem Zn2 {g:ZB} (h:Ze7 g):∀(k:Nat) (out:List Int) (done:List Bool),ZgU g out done→out.length+k=g.work.length→(∀l,Zps g k out done=some l→∃done',ZgU g l done'∧l.length=g.work.length)∧(Zn9 g→∃l,Zps g k out done=some l)
 | 0,out,done,o,hl=>⟨fun l h=>by cases h;exact⟨done,o,by omega⟩,fun _=>⟨out,rfl⟩⟩
 | k+1,out,done,o,hl=>by
  unfold Zps
  cases hn:Zp8 g done with
  | none=>
   refine⟨fun l h=>(by cases h),fun hg=>?_⟩
   exfalso
   have hex:∃i0,i0<g.work.length∧(i0:Int)∉out:=by
    apply Classical.byContradiction
    intro hc
    have hc2:∀i0,i0<g.work.length→(i0:Int)∈out:=fun i0 hi=>Classical.byContradiction fun hx=>hc ⟨i0,hi,hx⟩
    have sub:=ZAQ g.work.length out hc2
    omega
   obtain⟨i0,h1,h2⟩:=hex
   obtain⟨i,hi⟩:=Zyi h hg o i0 h1 (by
    cases hb:bAt done (i0:Int) with
    | false=>rfl
    | true=>exact absurd ((o.mem i0).1 hb) h2)
   rw[hn] at hi
   cases hi
  | some i=>
   exact Zn2 h k _ _ (o.next h hn) (by rw[List.length_append];simp only[List.length_cons,List.length_nil];omega)
theorem ZBo {g:ZB} (h:Ze7 g) {l:List Int}{done:List Bool} (o:ZgU g l done) (hl:l.length=g.work.length):Zn9 g:=by
 intro a w
 have ha:=w.src_in h
 have hm:=(ZAS o.nod o.inn).2 hl a.toNat ha.2
 rw[show((a.toNat:Nat):Int)=a by omega] at hm
 obtain⟨j,hj⟩:=List.getElem?_of_mem hm
 obtain⟨i,h1,h2⟩:=o.way w j hj
 have:=ZpY o.nod h2 hj
 omega
structure ZHY (g:ZB) (l:List Int):Prop where
 len:l.length=g.work.length
 all:∀i:Nat,i<g.work.length→(i:Int)∈l
 inn:∀z∈l,0≤z∧z.toNat<g.work.length
 nod:l.Nodup
 topo:∀(i:Nat) (n:Int),l[i]? = some n→∀e∈g.edges,e.dst=n→∃j,j<i∧l[j]? = some e.src
theorem Zxx {g:ZB} (h:Ze7 g) (hg:Zn9 g):∃l,Zgw g=some (l,true)∧ZHY g l:=by
 obtain⟨k1,k2⟩:=Zn2 h g.work.length [] _ (ZgU.start g) (by simp)
 obtain⟨l,hl⟩:=k2 hg
 obtain⟨done,o,hn⟩:=k1 l hl
 exact⟨l,by rw[Zw5 h,hl],hn,(ZAS o.nod o.inn).2 hn,o.inn,o.nod,o.topo⟩
theorem ZBe {g:ZB} (h:Ze7 g) (hg:¬Zn9 g):Zgw g=some ([],false):=by
 rw[Zw5 h]
 cases ho:Zps g g.work.length [] (List.replicate g.work.length false) with
 | none=>rfl
 | some l=>
  obtain⟨done,o,hn⟩:=(Zn2 h g.work.length [] _ (ZgU.start g) (by simp)).1 l ho
  exact absurd (ZBo h o hn) hg
noncomputable def Zy0 (g:ZB):Bool:=@decide (Zn9 g) (Classical.propDecidable _)
theorem ZBD {g:ZB} (h:Zn9 g):Zy0 g=true:=@decide_eq_true _ (Classical.propDecidable _) h
theorem Zwv {g:ZB} (h:¬Zn9 g):Zy0 g=false:=@decide_eq_false _ (Classical.propDecidable _) h
noncomputable def Zb6 (g:ZB):Int:=bif Zm3 g==0 then (bif Zy0 g then 0 else 43) else Zm3 g
theorem Zcf {g:ZB} (h:Zb6 g=0):Ze7 g∧Zn9 g:=by
 unfold Zb6 at h
 by_cases h0:Zm3 g=0
 ·rw[h0] at h
  refine⟨Zuc h0,Classical.byContradiction fun hn=>?_⟩
  rw[Zwv hn] at h
  simp at h
 ·rw[beq_false_of_ne h0] at h
  exact absurd h h0
theorem Zoa (g:ZB) (h:ZlJ g):ZgG g=some (Zb6 g):=by
 have hw:=ZkE g.work (fun z0=>Zdz z0) Zjs (fun x _=>ZyB x) h.w
 unfold ZgG Zb6
 rw[hw,Zu9 g h]
 by_cases h0:Zm3 g=0
 ·have hG:=Zuc h0
  rw[h0]
  unfold Zm3 at h0
  by_cases hg:Zn9 g
  ·obtain⟨l,e,_⟩:=Zxx hG hg
   rw[e,ZBD hg]
   revert h0
   cases decide (64<(g.work.length:Int))<;>cases decide (256<(g.edges.length:Int))<;>cases g.work.any Zjs<;>cases Zoq (Zql g) 0 g.edges<;>simp
  ·rw[ZBe hG hg,Zwv hg]
   revert h0
   cases decide (64<(g.work.length:Int))<;>cases decide (256<(g.edges.length:Int))<;>cases g.work.any Zjs<;>cases Zoq (Zql g) 0 g.edges<;>simp
 ·rw[beq_false_of_ne h0]
  unfold Zm3 at h0 ⊢
  revert h0
  cases decide (64<(g.work.length:Int))<;>cases decide (256<(g.edges.length:Int))<;>cases g.work.any Zjs<;>cases Zoq (Zql g) 0 g.edges<;>simp
theorem Zmq {g:ZB} (hG:Ze7 g):Zjt g.edges g.work.length:=fun e he=>⟨hG.src e he,hG.dst e he⟩
theorem Zx9 {g:ZB} (hG:Ze7 g) (hA:Zn9 g) {left:List Int} (hl:left.length=g.work.length) (hr:∀x∈left,0≤x) (h:∃n,isN left n∧0<lf left n):∃n,isN left n∧0<lf left n∧Zmt g.edges left n:=by
 have pos:∀n,0≤lf left n:=fun n=>by
  unfold lf
  cases hx:left[n.toNat]? with
  | none=>simp
  | some x=>exact hr x (List.mem_of_getElem? hx)
 let S:List Int:=((List.range left.length).map fun i:Nat=>(i:Int)).filter fun n=>decide (0<lf left n)
 have mem:∀n,n∈S↔isN left n∧0<lf left n:=fun n=>by
  simp only[S,List.mem_filter,List.mem_map,List.mem_range,decide_eq_true_eq]
  constructor
  ·rintro ⟨⟨i,hi,rfl⟩,h2⟩
   exact⟨⟨by omega,by simpa using hi⟩,h2⟩
  ·rintro ⟨h1,h2⟩
   exact⟨⟨n.toNat,h1.2,Int.toNat_of_nonneg h1.1⟩,h2⟩
 obtain⟨n0,h0⟩:=h
 obtain⟨n,hn,hn2⟩:=ZuC hA S.length S (Nat.le_refl _) (fun he=>by
  have:=(mem n0).2 h0
  rw[he] at this
  cases this)
 obtain⟨h1,h2⟩:=(mem n).1 hn
 refine⟨n,h1,h2,fun e he hd=>?_⟩
 have hs:=hG.src e he
 have:=hn2 e he hd
 rw[mem] at this
 have h3:=pos e.src
 apply Classical.byContradiction
 intro hc
 exact this ⟨⟨hs.1,by rw[hl];exact hs.2⟩,by omega⟩
theorem Zrf {row:List Int}{n:Int} (h:n∈row) (hn:n ≠ -1):0<busy row:=by
 unfold busy
 exact List.countP_pos_iff.2 ⟨n,h,by simpa using hn⟩
theorem Zs7 {g:ZB} (hG:Ze7 g) (hA:Zn9 g) {left on row:List Int} (hl:left.length=g.work.length) (h:∃n,isN left n∧0<lf left n) (c:Zi6 g.edges left on) (f:ZiR g.edges left on row) (hm:1≤on.length):0<busy row:=by
 obtain⟨n,h1,h2,h3⟩:=Zx9 hG hA hl (fun x hx=>(c.rng x hx).1) h
 have n0:n ≠ -1:=by have:=h1.1;omega
 by_cases ho:n∈on
 ·obtain⟨i,hi⟩:=List.getElem?_of_mem ho
  exact Zrf (List.mem_of_getElem? (f.keep i n hi n0)) n0
 ·by_cases hr:n∈row
  ·exact Zrf hr n0
  ·by_cases hi : -1∈row
   ·exact absurd ⟨h1,h2,hr,h3⟩ (f.all hi n)
   ·have hlen:0<row.length:=by rw[f.len];omega
    refine Zrf (List.getElem_mem hlen) fun he=>hi ?_
    rw[← he]
    exact List.getElem_mem hlen
theorem ZzK {g:ZB} (hG:Ze7 g) (hA:Zn9 g) {need:List Int} (hn:need.length=g.work.length) (h:∀x∈need,1≤x∧x≤1000) {t:List (List Int)}{left on:List Int} (s:Sched g.edges need 1 t left on):Zgk t=t.length:=by
 have hE:Zjt g.edges need.length:=by rw[hn];exact Zmq hG
 induction s with
 | nil=>rfl
 | @snoc t left on row s hs f ih=>
  have c:=s.crew h hE
  have hl:=s.len
  have b:=Zs7 hG hA (by rw[hl.1,hn]) hs c f (by rw[hl.2.1];exact Nat.le_refl _)
  have hr:row.length=1:=by rw[f.len,hl.2.1]
  have:busy row≤row.length:=List.countP_le_length
  have e:Zgk (t++[row])=Zgk t+busy row:=by
   unfold Zgk
   rw[List.map_append,List.sum_append]
   simp
  rw[e,ih,List.length_append,List.length_singleton]
  omega
theorem Sched.short {g:ZB} (hG:Ze7 g) (hA:Zn9 g) {need:List Int} (hn:need.length=g.work.length) (h:∀x∈need,1≤x∧x≤1000) {m:Nat} (hm:1≤m) {t:List (List Int)}{left on:List Int} (s:Sched g.edges need m t left on):t.length≤Zgk t:=by
 have hE:Zjt g.edges need.length:=by rw[hn];exact Zmq hG
 induction s with
 | nil=>exact Nat.zero_le _
 | @snoc t left on row s hs f ih=>
  have c:=s.crew h hE
  have hl:=s.len
  have b:=Zs7 hG hA (by rw[hl.1,hn]) hs c f (by rw[hl.2.1];exact hm)
  have e:Zgk (t++[row])=Zgk t+busy row:=by
   unfold Zgk
   rw[List.map_append,List.sum_append]
   simp
  rw[e,List.length_append,List.length_singleton]
  omega
theorem ZBa {l:List Int} (h:∀x∈l,x=0):l.sum=0:=by
 induction l with
 | nil=>rfl
 | cons x l ih=>
  rw[List.sum_cons,h x (by simp),ih fun y hy=>h y (by simp[hy])]
  rfl
theorem ZuF (l:List ZZ) (f:ZZ→Option Bool) (p:ZZ→Bool) (hf:∀x∈l,f x=some (p x)) (hl:l.length<9223372036854775808):Zai l f=some (l.any p):=by
 unfold Zai Zbo
 refine ZmQ l p _ (fun i x hi hx=>?_) ?_
 ·simp only[ZaA,ZgS hi,Zaf hx,Option.bind_some,hf x (List.mem_of_getElem? hx),ZaD hi hl,cond_true]
  cases p x<;>rfl
 ·simp only[ZaA,ZgZ];rfl
theorem Znn (l:List Int) (n:Int):(l.any fun x=>n==x)=decide (n∈l):=by
 rw[Bool.eq_iff_iff,List.any_eq_true,decide_eq_true_eq]
 constructor
 ·rintro ⟨x,hx,h⟩
  have:n=x:=by simpa using h
  rw[this];exact hx
 ·intro h
  exact⟨n,h,by simp⟩
theorem Zq1 {γ R:Type} (l:List γ) (step:Int→Option (Int⊕R)) (fin:R) (h1:∀i x,i<l.length→l[i]? = some x→step (i:Int)=some (.inl ((i+1:Nat):Int))) (h2:step (l.length:Int)=some (.inr fin)):lp step 0=some fin:=by
 rw[Zjo l step (fun _ _=>false) (fun _ _=>fin) fin h1 h2,Zhx]
 cases Zoq (fun _ _=>false) 0 l<;>rfl
theorem Zpa {n:Nat} (step:Int×List Int→Option ((Int×List Int)⊕List Int)) (p:Nat→Bool)
  (h1:∀(i:Nat) (out:List Int),i<n→out.length≤i→step ((i:Int),out)=some (.inl (((i+1:Nat):Int),bif p i then out++[(i:Int)] else out)))
  (h2:∀out,step ((n:Int),out)=some (.inr out)):lp step (0,[])=some (((List.range n).filter p).map fun i:Nat=>(i:Int)):=by
 have key:∀(k i:Nat) (out:List Int),i+k=n→out.length≤i→lp step ((i:Int),out)=some (out++((List.range' i k).filter p).map fun i:Nat=>(i:Int)):=by
  intro k
  induction k with
  | zero=>
   intro i out hi _
   have:i=n:=by omega
   subst this
   rw[Zbk,h2]
   simp
  | succ k ih=>
   intro i out hi ho
   rw[Zbk,h1 i out (by omega) ho]
   dsimp only
   rw[List.range'_succ]
   cases hp:p i with
   | true=>
    rw[cond_true,ih (i+1) _ (by omega) (by rw[List.length_append];simp;exact ho),List.filter_cons_of_pos hp,List.map_cons,List.append_assoc]
    rfl
   | false=>
    rw[cond_false,ih (i+1) _ (by omega) (by omega),List.filter_cons_of_neg (by rw[hp];decide)]
 have:=key n 0 [] (by omega) (by simp)
 rw[List.range_eq_range']
 simpa using this
theorem ZiI {n:Nat}{p:Nat→Bool}{z:Int}:(z∈((List.range n).filter p).map fun i:Nat=>(i:Int))↔0≤z∧z.toNat<n∧p z.toNat=true:=by
 rw[List.mem_map]
 constructor
 ·rintro ⟨i,hi,rfl⟩
  obtain⟨h1,h2⟩:=List.mem_filter.1 hi
  rw[List.mem_range] at h1
  exact⟨by omega,by simpa using h1,by simpa using h2⟩
 ·rintro ⟨h0,h1,h2⟩
  exact⟨z.toNat,List.mem_filter.2 ⟨List.mem_range.2 h1,h2⟩,Int.toNat_of_nonneg h0⟩
theorem Zw4 {left:List Int}{n:Int} (h:isN left n):Zt left n=some (lf left n):=ZtY h.1 (ZrP h.1 h.2)
theorem ZrA {c:Z6}{n:Int} (h:isN c.left n):Ze4 c n=some (lf c.left n==0):=by
 unfold Ze4
 rw[Zw4 h,Option.bind_some]
 cases lf c.left n==0<;>rfl
def Zko (E:List ZZ) (left:List Int) (n:Int):Bool:=!(E.any fun e=>(e.dst==n) && !(lf left e.src==0))
theorem ZfH {E:List ZZ}{left:List Int}{n:Int}:Zko E left n=true↔Zmt E left n:=by
 unfold Zko Zmt
 rw[Bool.not_eq_true',List.any_eq_false]
 constructor
 ·intro h e he hd
  have:=h e he
  rw[hd,beq_self_eq_true,Bool.true_and,Bool.not_eq_true',Bool.not_eq_false] at this
  simpa using this
 ·intro h e he hh
  simp only[Bool.and_eq_true,beq_iff_eq,Bool.not_eq_true',beq_eq_false_iff_ne] at hh
  exact hh.2 (h e he hh.1)
theorem ZvI {g:ZB} (hG:Ze7 g) {c:Z6} (hl:c.left.length=g.work.length) (n:Int):ZgD g c n=some (Zko g.edges c.left n):=by
 unfold ZgD
 rw[ZuF _ _ (fun e=>(e.dst==n) && !(lf c.left e.src==0)) (fun e he=>by
  have hs:=hG.src e he
  unfold Zfm
  rw[show(Z6.mk c.on c.left)=c from rfl,ZrA (c:=c) (n:=e.src) ⟨hs.1,by rw[hl];exact hs.2⟩]
  cases e.dst==n<;>cases lf c.left e.src==0<;>rfl) hG.short.e]
 unfold Zko
 cases (g.edges.any fun e=>(e.dst==n) && !(lf c.left e.src==0))<;>rfl
structure Zht (g:ZB) (left on:List Int):Prop where
 ll:left.length=g.work.length
 o1:1≤on.length
 o8:on.length≤8
 ok:Zi6 g.edges left on
theorem ZAo (x:Int):ZdC x=some (decide (x<0) || decide (1000<x)):=by
 unfold ZdC
 cases decide (x<0)<;>cases decide (1000<x)<;>rfl
theorem ZBB {g:ZB} (hG:Ze7 g) {left on:List Int} (c:Zht g left on):ZhW g (Z6.mk on left)=some true:=by
 have o1:=c.o1
 have o8:=c.o8
 have hw:=hG.wl
 have ll:=c.ll
 unfold ZhW
 dsimp only
 rw[decide_eq_false (by omega),cond_false,decide_eq_false (by omega),cond_false,show((left.length:Int) != (g.work.length:Int))=false by rw[ll];simp,cond_false,
  ZkE left _ (fun x=>decide (x<0) || decide (1000<x)) (fun x _=>ZAo x) (by omega),Option.bind_some]
 have h0:(left.any fun x=>decide (x<0) || decide (1000<x))=false:=List.any_eq_false.2 fun x hx=>by
  have:=c.ok.rng x hx
  rw[decide_eq_false (by omega),decide_eq_false (by omega)]
  decide
 rw[h0,cond_false,Zq1 on (ZeV g (Z6.mk on left)) (.inr ()) (fun i n hi hn=>?_) (by simp only[ZeV,ZgZ];rfl),Option.bind_some]
 ·dsimp only
  rw[Zq1 left (Ze0 g (Z6.mk on left)) (.inr ()) (fun i x hi hx=>?_) (by simp only[Ze0,ZgZ];rfl)]
  ·rfl
  ·have hin:isN left (i:Int):=⟨by omega,by simpa using hi⟩
   simp only[Ze0,ZgS hi,cond_true,ZrA (c:=Z6.mk on left) hin,Option.bind_some,ZvI hG (c:=Z6.mk on left) c.ll,ZaD hi (show left.length<9223372036854775808 by omega)]
   cases hz:lf left (i:Int)==0 with
   | false=>rfl
   | true=>
    have:=ZfH.2 (c.ok.over _ hin (by simpa using hz))
    rw[this];rfl
 ·simp only[ZeV,ZgS hi,cond_true,Zaf hn,Option.bind_some,ZaD hi (show on.length<9223372036854775808 by omega)]
  cases hz:n == -1 with
  | true=>rfl
  | false=>
   have hne:n ≠ -1:=by simpa using hz
   rcases c.ok.run n (List.mem_of_getElem? hn) with h | ⟨h1,h2,h3⟩
   ·exact absurd h hne
   ·have:=h1.1
    have:=h1.2
    have hm:(List.take i on).any (fun x=>n==x)=false:=List.any_eq_false.2 fun x hx hq=>by
     have:n=x:=by simpa using hq
     subst this
     obtain⟨j,hj⟩:=List.getElem?_of_mem hx
     have hjl:=(List.getElem?_eq_some_iff.1 hj).1
     rw[List.length_take] at hjl
     rw[List.getElem?_take,if_pos (by omega)] at hj
     have:=c.ok.one j i n hj hn hne
     omega
    simp only[cond_false,decide_eq_false (show ¬n<0 by omega),decide_eq_false (show ¬(left.length:Int)≤n by omega),ZrA (c:=Z6.mk on left) h1,Option.bind_some,show(lf left n==0)=false from beq_eq_false_iff_ne.2 (by omega),
     decide_eq_true (show(0:Int)≤(i:Int) by omega),Int.toNat_natCast,Nat.ble_eq_true_of_le (show i≤on.length by omega),cond_true,Zm9 (List.take i on) n (by rw[List.length_take];omega),hm,ZvI hG (c:=Z6.mk on left) c.ll,ZfH.2 h3]
theorem Znb {g:ZB} (h:Zb6 g=0) {left on:List Int} (c:Zht g left on):Zf1 g (Z6.mk on left)=some 0:=by
 obtain⟨hG,hA⟩:=Zcf h
 unfold Zf1
 rw[Zoa g hG.short,h,Option.bind_some]
 simp only[beq_self_eq_true,cond_true,ZBB hG c,Option.bind_some]
def ZdS (E:List ZZ) (left on:List Int):List Int:=((List.range left.length).filter fun i:Nat=>!(lf left (i:Int)==0)&&(!(decide ((i:Int)∈on))&&Zko E left (i:Int))).map fun i:Nat=>(i:Int)
theorem Zto {g:ZB} (h:Zb6 g=0) {left on:List Int} (c:Zht g left on):Zfd g (Z6.mk on left)=some (ZdS g.edges left on):=by
 obtain⟨hG,hA⟩:=Zcf h
 have hw:=hG.wl
 have ll:=c.ll
 have o8:=c.o8
 unfold Zfd
 rw[Znb h c,Option.bind_some]
 unfold Zjx
 rw[Zpa (n:=left.length) (ZeS g (Z6.mk on left)) (fun i:Nat=>!(lf left (i:Int)==0)&&(!(decide ((i:Int)∈on))&&Zko g.edges left (i:Int))) (fun i out hi ho=>?_) (fun out=>by simp only[ZeS,ZgZ];rfl)]
 ·rfl
 ·have hin:isN left (i:Int):=⟨by omega,by simpa using hi⟩
  simp only[ZeS,ZgS hi,cond_true,ZrA (c:=Z6.mk on left) hin,Option.bind_some,Zm9 on (i:Int) (by omega),Znn,ZvI hG (c:=Z6.mk on left) c.ll,ZaD hi (show left.length<9223372036854775808 by omega),Zgj (show out.length+1≤1073741824 by omega)]
  cases lf left (i:Int)==0<;>cases decide ((i:Int)∈on)<;>cases Zko g.edges left (i:Int)<;>rfl
theorem ZrE {E:List ZZ}{left on:List Int} (hr:∀x∈left,0≤x) {n:Int}:n∈ZdS E left on↔Rdy E left on n:=by
 unfold ZdS Rdy isN
 rw[ZiI]
 simp only[Bool.and_eq_true,Bool.not_eq_true',beq_eq_false_iff_ne,decide_eq_false_iff_not]
 constructor
 ·rintro ⟨h0,h1,h2,h3,h4⟩
  rw[Int.toNat_of_nonneg h0] at h2 h3 h4
  refine⟨⟨h0,h1⟩,?_,h3,ZfH.1 h4⟩
  have:0≤lf left n:=by
   rw[show lf left n=lf left n from rfl]
   exact hr _ (List.mem_of_getElem? (ZrP h0 h1))
  omega
 ·rintro ⟨⟨h0,h1⟩,h2,h3,h4⟩
  refine⟨h0,h1,?_⟩
  rw[Int.toNat_of_nonneg h0]
  exact⟨by omega,h3,ZfH.2 h4⟩
theorem Zpd (E:List ZZ) (left on:List Int):(ZdS E left on).Nodup:=by
 unfold ZdS
 exact List.Pairwise.map _ (fun a b (h:a≠b)=>by omega) (List.Pairwise.filter _ List.nodup_range)
def upd {α:Type} (f:Nat→α) (c:Nat) (v:α):Nat→α:=fun k=>if k=c then v else f k
theorem Zbu {α:Type} (f:Nat→α) (c:Nat) (v:α):upd f c v c=v:=if_pos rfl
theorem ZtU {α:Type} (f:Nat→α) {c k:Nat} (v:α) (h:k≠c):upd f c v k=f k:=if_neg h
structure Zj where
 T:Nat→Int
 B:Nat→Int
 R:Nat→Int→Int
 O:Nat→Int
 a:Nat→Int
 x:Nat→Int
 y:Nat→Int
 z:Nat→Int
 F:Nat→Nat
def vic (m c f:Nat):Nat:=(c+f) % m
def Zj.fresh (V:Zj) (c f:Nat):Zj:=⟨V.T,V.B,V.R,V.O,upd V.a c 0,upd V.x c 0,upd V.y c 0,upd V.z c 0,upd V.F c f⟩
def Zj.got (V:Zj) (c:Nat) (n:Int):Zj:=⟨V.T,V.B,V.R,upd V.O c n,upd V.a c 0,upd V.x c 0,upd V.y c 0,upd V.z c 0,upd V.F c 0⟩
def Zj.setT (V:Zj) (c:Nat) (n:Int):Zj:=⟨upd V.T c n,V.B,V.R,V.O,V.a,V.x,V.y,V.z,V.F⟩
def Zj.setB (V:Zj) (c:Nat) (n:Int):Zj:=⟨V.T,upd V.B c n,V.R,V.O,V.a,V.x,V.y,V.z,V.F⟩
def Zj.tk (V:Zj) (c:Nat) (a x y z:Int):Zj:=⟨V.T,V.B,V.R,V.O,upd V.a c a,upd V.x c x,upd V.y c y,upd V.z c z,V.F⟩
def Zb1 (m:Nat) (V:Zj) (c:Nat):Zj:=
 if V.F c=0 then
  if V.a c=0 then (V.setB c (V.B c-1)).tk c 1 (V.x c) (V.B c-1) (V.z c)
  else if V.a c=1 then
   if V.T c<V.y c then V.got c (V.R c (V.y c))
   else if V.T c=V.y c then V.tk c 2 (V.T c) (V.y c) (V.z c)
   else V.tk c 3 (V.T c) (V.y c) (V.z c)
  else if V.a c=2 then
   if V.T c=V.x c then (V.setT c (V.T c+1)).tk c 4 (V.x c) (V.y c) (V.R c (V.y c))
   else V.tk c 3 (V.x c) (V.y c) (V.z c)
  else if V.a c=4 then (V.setB c (V.y c+1)).got c (V.z c)
  else (V.setB c (V.y c+1)).fresh c (1 % m)
 else
  if V.a c=0 then V.tk c 1 (V.T (vic m c (V.F c))) (V.y c) (V.z c)
  else if V.a c=1 then
   if V.x c<V.B (vic m c (V.F c)) then V.tk c 2 (V.x c) (V.B (vic m c (V.F c))) (V.z c)
   else V.fresh c ((V.F c+1) % m)
  else if V.a c=2 then V.tk c 3 (V.x c) (V.y c) (V.R (vic m c (V.F c)) (V.x c))
  else if V.T (vic m c (V.F c))=V.x c then (V.setT (vic m c (V.F c)) (V.T (vic m c (V.F c))+1)).got c (V.z c)
  else V.fresh c ((V.F c+1) % m)
def Zj.be (V:Zj) (c:Nat):Int:=if V.F c=0∧0<V.a c then V.B c+1 else V.B c
def Zj.lo (V:Zj) (c:Nat):Int:=if V.F c=0∧V.a c=4 then V.T c-1 else V.T c
structure Pos (m:Nat) (V:Zj) (c:Nat):Prop where
 F:V.F c<m
 busy:V.O c ≠ -1→V.a c=0∧V.F c=0
 a0:0≤V.a c
 a4:V.a c≤4
 a3:V.F c≠0→V.a c≤3
 T0:0≤V.T c
 TB:V.T c≤V.be c
 B64:V.be c≤64
 o1:V.F c=0→0<V.a c→V.y c=V.B c
 o2:V.F c=0→V.a c=2→V.x c=V.y c∧V.x c≤V.T c
 o3:V.F c=0→V.a c=3∨V.a c=4→V.T c=V.B c+1
 o4:V.F c=0→V.a c=4→V.z c=V.R c (V.B c)
 t1:V.F c≠0→0<V.a c→0≤V.x c∧V.x c≤V.T (vic m c (V.F c))
 t2:V.F c≠0→2≤V.a c→V.x c=V.T (vic m c (V.F c))→V.T (vic m c (V.F c))<V.be (vic m c (V.F c))
 t3:V.F c≠0→V.a c=3→V.z c=V.R (vic m c (V.F c)) (V.x c)
 rx : -1≤V.x c∧V.x c≤64
 ry : -1≤V.y c∧V.y c≤64
def Item (m:Nat) (V:Zj) (c:Nat) (k:Int):Prop:=c<m∧V.lo c≤k∧k<V.be c
structure ZrN (m:Nat) (base:Int→Prop) (V:Zj):Prop where
 rdy:∀c k,Item m V c k→base (V.R c k)∧∀i,i<m→V.O i≠V.R c k
 inj:∀c k c' k',Item m V c k→Item m V c' k'→V.R c k=V.R c' k'→c=c'∧k=k'
 all:∀n,base n→(∀i,i<m→V.O i≠n)→∃c k,Item m V c k∧V.R c k=n
structure Inv (m:Nat) (base:Int→Prop) (V:Zj):Prop where
 pos:∀c,c<m→Pos m V c
 items:ZrN m base V
theorem Zrg {m:Nat} (hm:0<m) (c f:Nat):vic m c f<m:=Nat.mod_lt _ hm
theorem ZDI {m c f:Nat} (hc:c<m) (hf:f<m) (h0:f≠0):vic m c f≠c:=by
 unfold vic
 intro h
 by_cases hl:c+f<m
 ·rw[Nat.mod_eq_of_lt hl] at h;omega
 ·rw[Nat.mod_eq_sub_mod (by omega),Nat.mod_eq_of_lt (by omega)] at h;omega
theorem ZuE {m c:Nat} (hc:c<m):vic m c 0=c:=by unfold vic;rw[Nat.add_zero,Nat.mod_eq_of_lt hc]
theorem Pos.other {m:Nat}{V W:Zj}{c i:Nat} (hm:0<m) (all:∀j,j<m→V.T j≤V.be j) (p:Pos m V i) (hi:i<m)
  (hT:∀j,j<m→W.T j=V.T j∨(W.T j=V.T j+1∧V.T j<V.be j))
  (hb:∀j,j<m→W.be j=V.be j∨(j=c∧W.be j=V.be j-1∧V.T j<W.be j∧W.T j=V.T j))
  (hne:i≠c) (hF:W.F i=V.F i) (ha:W.a i=V.a i) (hx:W.x i=V.x i) (hy:W.y i=V.y i) (hz:W.z i=V.z i) (hO:W.O i=V.O i) (hB:W.B i=V.B i) (hR:W.R=V.R):Pos m W i:=by
 have hTi:=hT i hi
 have hbi:W.be i=V.be i:=by
  rcases hb i hi with h | ⟨h,_⟩
  ·exact h
  ·exact absurd h hne
 have hv:=Zrg hm i (V.F i)
 have hTv:=hT _ hv
 have hbv:=hb _ hv
 refine⟨by rw[hF];exact p.F,fun h=>?_,by rw[ha];exact p.a0,by rw[ha];exact p.a4,fun h=>?_,?_,?_,by rw[hbi];exact p.B64,fun h h2=>?_,fun h h2=>?_,fun h h2=>?_,fun h h2=>?_,fun h h2=>?_,fun h h2 h3=>?_,fun h h2=>?_,by rw[hx];exact p.rx,by rw[hy];exact p.ry⟩
 ·rw[hO] at h;rw[ha,hF];exact p.busy h
 ·rw[hF] at h;rw[ha];exact p.a3 h
 ·have:=p.T0;rcases hTi with h | h<;>omega
 ·have:=p.TB;rw[hbi];rcases hTi with h | h<;>omega
 ·rw[hF] at h;rw[ha] at h2;rw[hy,hB];exact p.o1 h h2
 ·rw[hF] at h;rw[ha] at h2
  have:=p.o2 h h2
  rw[hx,hy]
  refine⟨this.1,?_⟩
  rcases hTi with h | h<;>omega
 ·rw[hF] at h;rw[ha] at h2
  have h3:=p.o3 h h2
  rw[hB]
  rcases hTi with h4 | ⟨h4,h5⟩
  ·omega
  ·have:V.be i=V.B i+1:=by unfold Zj.be;rw[if_pos ⟨h,by omega⟩]
   omega
 ·rw[hF] at h;rw[ha] at h2;rw[hz,hR,hB];exact p.o4 h h2
 ·rw[hF] at h ⊢;rw[ha] at h2
  have:=p.t1 h h2
  rw[hx]
  refine⟨this.1,?_⟩
  rcases hTv with h | h<;>omega
 ·rw[hF] at h h3 ⊢;rw[ha] at h2;rw[hx] at h3
  have h5:=p.t1 h (by omega)
  rcases hTv with h4 | ⟨h4,_⟩
  ·have h6:=p.t2 h h2 (by omega)
   rcases hbv with h7 | ⟨_,h7,h8,_⟩<;>omega
  ·omega
 ·rw[hF] at h ⊢;rw[ha] at h2;rw[hz,hR,hx];exact p.t3 h h2
theorem ZrN.same {m:Nat}{base:Int→Prop}{V W:Zj} (h:ZrN m base V) (hlo:∀j,j<m→W.lo j=V.lo j) (hbe:∀j,j<m→W.be j=V.be j) (hO:∀j,j<m→W.O j=V.O j) (hR:W.R=V.R):ZrN m base W:=by
 have it:∀c k,Item m W c k↔Item m V c k:=fun c k=>by
  unfold Item
  constructor
  ·rintro ⟨h1,h2,h3⟩;rw[hlo c h1] at h2;rw[hbe c h1] at h3;exact⟨h1,h2,h3⟩
  ·rintro ⟨h1,h2,h3⟩;rw[← hlo c h1] at h2;rw[← hbe c h1] at h3;exact⟨h1,h2,h3⟩
 refine⟨fun c k hi=>?_,fun c k c' k' h1 h2 h3=>?_,fun n hn ho=>?_⟩
 ·rw[hR]
  obtain⟨h1,h2⟩:=h.rdy c k ((it c k).1 hi)
  exact⟨h1,fun i hi=>by rw[hO i hi];exact h2 i hi⟩
 ·rw[hR] at h3
  exact h.inj c k c' k' ((it c k).1 h1) ((it c' k').1 h2) h3
 ·obtain⟨c,k,h1,h2⟩:=h.all n hn fun i hi=>by rw[← hO i hi];exact ho i hi
  exact⟨c,k,(it c k).2 h1,by rw[hR];exact h2⟩
theorem ZrN.take {m:Nat}{base:Int→Prop}{V W:Zj}{c v:Nat}{k0:Int} (h:ZrN m base V) (hc:c<m) (hidle:V.O c = -1) (hb:∀n,base n→n ≠ -1) (hit:Item m V v k0)
  (it:∀i k,Item m W i k↔Item m V i k∧¬(i=v∧k=k0)) (hO:W.O c=V.R v k0) (hO2:∀j,j<m→j≠c→W.O j=V.O j) (hR:W.R=V.R):ZrN m base W:=by
 refine⟨fun i k hi=>?_,fun i k i' k' h1 h2 h3=>?_,fun n hn ho=>?_⟩
 ·obtain⟨h1,h2⟩:=(it i k).1 hi
  obtain⟨h3,h4⟩:=h.rdy i k h1
  rw[hR]
  refine⟨h3,fun j hj=>?_⟩
  by_cases e:j=c
  ·rw[e,hO]
   intro he
   exact h2 (by have:=h.inj v k0 i k hit h1 he;exact⟨this.1.symm,this.2.symm⟩)
  ·rw[hO2 j hj e];exact h4 j hj
 ·rw[hR] at h3
  exact h.inj i k i' k' ((it i k).1 h1).1 ((it i' k').1 h2).1 h3
 ·have hne:n≠V.R v k0:=fun e=>ho c hc (by rw[hO,e])
  obtain⟨i,k,h1,h2⟩:=h.all n hn fun j hj=>by
   by_cases e:j=c
   ·rw[e,hidle];exact fun he=>hb n hn he.symm
   ·rw[← hO2 j hj e];exact ho j hj
  refine⟨i,k,(it i k).2 ⟨h1,fun⟨e1,e2⟩=>hne ?_⟩,by rw[hR];exact h2⟩
  rw[← h2,e1,e2]
theorem Pos.fresh0 {m:Nat}{W:Zj}{c:Nat} (hF:W.F c<m) (ha:W.a c=0) (hx:W.x c=0) (hy:W.y c=0) (hO:W.O c ≠ -1→W.F c=0) (h0:0≤W.T c) (h1:W.T c≤W.B c) (h2:W.B c≤64):Pos m W c:=by
 have hb:W.be c=W.B c:=by unfold Zj.be;rw[if_neg (by omega)]
 refine⟨hF,fun h=>⟨ha,hO h⟩,by omega,by omega,fun _=>by omega,h0,by omega,by omega,fun _ h=>by omega,fun _ h=>by omega,fun _ h=>by omega,fun _ h=>by omega,fun _ h=>by omega,fun _ h=>by omega,fun _ h=>by omega,by omega,by omega⟩
theorem Pos.owner {m:Nat}{W:Zj}{c:Nat} (hm:0<m) (hF:W.F c=0) (hO:W.O c = -1) (ha:1≤W.a c∧W.a c≤4) (hy:W.y c=W.B c) (h0:0≤W.T c) (h1:W.T c≤W.B c+1) (h2:W.B c+1≤64)
  (q2:W.a c=2→W.x c=W.y c∧W.x c≤W.T c) (q3:W.a c=3∨W.a c=4→W.T c=W.B c+1) (q4:W.a c=4→W.z c=W.R c (W.B c)) (rx : -1≤W.x c∧W.x c≤64):Pos m W c:=by
 have hb:W.be c=W.B c+1:=by unfold Zj.be;rw[if_pos ⟨hF,by omega⟩]
 refine⟨by omega,fun h=>absurd hO h,by omega,by omega,fun h=>absurd hF h,h0,by omega,by omega,fun _ _=>hy,fun _ h=>q2 h,fun _ h=>q3 h,fun _ h=>q4 h,fun h=>absurd hF h,fun h=>absurd hF h,fun h=>absurd hF h,rx,by omega⟩
theorem Pos.thief {m:Nat}{V W:Zj}{c:Nat} (p:Pos m V c) (hF:W.F c=V.F c) (h0:V.F c≠0) (hO:W.O c = -1) (hT:W.T=V.T) (hB:W.B=V.B) (hbe:∀j,W.be j=V.be j) (ha:1≤W.a c∧W.a c≤3) (q1:0≤W.x c∧W.x c≤V.T (vic m c (V.F c)))
  (q2:2≤W.a c→W.x c=V.T (vic m c (V.F c))→V.T (vic m c (V.F c))<V.be (vic m c (V.F c))) (q3:W.a c=3→W.z c=W.R (vic m c (V.F c)) (W.x c)) (rx:W.x c≤64) (ry : -1≤W.y c∧W.y c≤64):Pos m W c:=by
 have h0':W.F c≠0:=by rw[hF];exact h0
 refine⟨by rw[hF];exact p.F,fun h=>absurd hO h,by omega,by omega,fun _=>by omega,by rw[hT];exact p.T0,by rw[hT,hbe];exact p.TB,by rw[hbe];exact p.B64,fun h=>absurd h h0',fun h=>absurd h h0',fun h=>absurd h h0',fun h=>absurd h h0',?_,?_,?_,by omega,ry⟩
 ·intro _ _;rw[hF,hT];exact q1
 ·intro _ h h2;rw[hF,hT] at h2 ⊢;rw[hbe];exact q2 h h2
 ·intro _ h;rw[hF];exact q3 h
def Zwm (m:Nat) (base:Int→Prop) (V W:Zj) (c:Nat):Prop:=
 (∀j,W.O j=V.O j)∨(base (W.O c)∧(∀i,i<m→V.O i≠W.O c)∧∀j,j≠c→W.O j=V.O j)
theorem Inv.step {m:Nat}{base:Int→Prop}{V:Zj}{c:Nat} (I:Inv m base V) (hb:∀n,base n→n ≠ -1) (hc:c<m) (hidle:V.O c = -1):Inv m base (Zb1 m V c)∧Zwm m base V (Zb1 m V c) c∧(Zb1 m V c).R=V.R:=by
 have hm:0<m:=by omega
 have p:=I.pos c hc
 have TB:∀j,j<m→V.T j≤V.be j:=fun j hj=>(I.pos j hj).TB
 obtain⟨pF,_,pa0,pa4,pa3,pT0,pTB,pB64,po1,po2,po3,po4,pt1,pt2,pt3,prx,pry⟩:=p
 have quiet:∀W:Zj,W.R=V.R→W.T=V.T→(∀j,W.O j=V.O j)→(∀j,W.be j=V.be j)→(∀j,W.lo j=V.lo j)→(∀i,i≠c→W.F i=V.F i∧W.a i=V.a i∧W.x i=V.x i∧W.y i=V.y i∧W.z i=V.z i∧W.B i=V.B i)→Pos m W c→Inv m base W∧Zwm m base V W c∧W.R=V.R:=by
  intro W hR hT hO hbe hlo hsame hp
  refine⟨⟨fun i hi=>?_,I.items.same (fun j _=>hlo j) (fun j _=>hbe j) (fun j _=>hO j) hR⟩,.inl hO,hR⟩
  by_cases e:i=c
  ·rw[e];exact hp
  ·obtain⟨s1,s2,s3,s4,s5,s6⟩:=hsame i e
   exact(I.pos i hi).other (c:=c) hm TB hi (fun j _=>.inl (by rw[hT])) (fun j _=>.inl (hbe j)) e s1 s2 s3 s4 s5 (hO i) s6 hR
 have hv:=Zrg hm c (V.F c)
 unfold Zb1
 by_cases hF:V.F c=0
 ·rw[if_pos hF]
  by_cases a0:V.a c=0
  ·rw[if_pos a0]
   have hbc:V.be c=V.B c:=by unfold Zj.be;rw[if_neg (by omega)]
   refine quiet _ rfl rfl (fun _=>rfl) (fun j=>?_) (fun j=>?_) (fun i e=>?_) ?_
   ·by_cases e:j=c
    ·subst e;simp[Zj.be,Zj.tk,Zj.setB,upd,hF,a0]
    ·simp[Zj.be,Zj.tk,Zj.setB,upd,e]
   ·by_cases e:j=c
    ·subst e;simp[Zj.lo,Zj.tk,Zj.setB,upd,hF,a0]
    ·simp[Zj.lo,Zj.tk,Zj.setB,upd,e]
   ·simp[Zj.tk,Zj.setB,upd,e]
   ·refine Pos.owner hm hF hidle ?_ ?_ pT0 ?_ ?_ ?_ ?_ ?_ ?_<;>simp only[Zj.tk,Zj.setB,Zbu]
    ·omega
    ·omega
    ·omega
    ·intro h;omega
    ·intro h;omega
    ·intro h;omega
    ·exact prx
  rw[if_neg a0]
  have hbc:V.be c=V.B c+1:=by unfold Zj.be;rw[if_pos ⟨hF,by omega⟩]
  have hy:=po1 hF (by omega)
  by_cases a1:V.a c=1
  ·rw[if_pos a1]
   by_cases h1:V.T c<V.y c
   ·
    rw[if_pos h1]
    have it0:Item m V c (V.y c):=⟨hc,by unfold Zj.lo;rw[if_neg (by omega)];omega,by omega⟩
    have beW:∀j,j≠c→(V.got c (V.R c (V.y c))).be j=V.be j:=fun j e=>by simp[Zj.be,Zj.got,upd,e]
    have beC:(V.got c (V.R c (V.y c))).be c=V.B c:=by simp[Zj.be,Zj.got,upd]
    have loW:∀j,(V.got c (V.R c (V.y c))).lo j=V.lo j:=fun j=>by
     by_cases e:j=c
     ·subst e;simp[Zj.lo,Zj.got,upd,a1]
     ·simp[Zj.lo,Zj.got,upd,e]
    refine⟨⟨fun i hi=>?_,?_⟩,.inr ⟨?_,?_,fun j e=>by simp[Zj.got,upd,e]⟩,rfl⟩
    ·by_cases e:i=c
     ·rw[e]
      refine Pos.fresh0 ?_ ?_ ?_ ?_ ?_ pT0 ?_ ?_<;>simp only[Zj.got,Zbu]
      ·exact hm
      ·exact fun _=>trivial
      ·omega
      ·omega
     ·refine(I.pos i hi).other (c:=c) hm TB hi (fun j _=>.inl rfl) (fun j _=>?_) e ?_ ?_ ?_ ?_ ?_ ?_ rfl rfl
      ·by_cases e2:j=c
       ·subst e2
        exact .inr ⟨rfl,by rw[beC];omega,by rw[beC];omega,rfl⟩
       ·exact .inl (beW j e2)
      all_goals simp[Zj.got,upd,e]
    ·refine I.items.take hc hidle hb it0 (fun i k=>?_) (by simp[Zj.got,upd]) (fun j _ e=>by simp[Zj.got,upd,e]) rfl
     unfold Item
     rw[loW]
     by_cases e:i=c
     ·subst e;rw[beC]
      constructor
      ·rintro ⟨q1,q2,q3⟩;exact⟨⟨q1,q2,by omega⟩,fun h=>by omega⟩
      ·rintro ⟨⟨q1,q2,q3⟩,q4⟩;exact⟨q1,q2,by have:k≠V.y i:=fun h=>q4 ⟨rfl,h⟩;omega⟩
     ·rw[beW i e]
      constructor
      ·rintro ⟨q1,q2,q3⟩;exact⟨⟨q1,q2,q3⟩,fun h=>e h.1⟩
      ·rintro ⟨q,_⟩;exact q
    ·have:=(I.items.rdy c _ it0).1
     simpa [Zj.got,upd] using this
    ·have:=(I.items.rdy c _ it0).2
     simpa [Zj.got,upd] using this
   rw[if_neg h1]
   by_cases h2:V.T c=V.y c
   ·rw[if_pos h2]
    refine quiet _ rfl rfl (fun _=>rfl) (fun j=>?_) (fun j=>?_) (fun i e=>?_) ?_
    ·by_cases e:j=c
     ·subst e;simp[Zj.be,Zj.tk,upd,hF,a1]
     ·simp[Zj.be,Zj.tk,upd,e]
    ·by_cases e:j=c
     ·subst e;simp[Zj.lo,Zj.tk,upd,hF,a1]
     ·simp[Zj.lo,Zj.tk,upd,e]
    ·simp[Zj.tk,upd,e]
    ·refine Pos.owner hm hF hidle ?_ ?_ pT0 ?_ ?_ ?_ ?_ ?_ ?_<;>simp only[Zj.tk,Zbu]
     ·omega
     ·exact hy
     ·omega
     ·omega
     ·intro _;exact⟨h2,Int.le_refl _⟩
     ·intro h;omega
     ·intro h;omega
     ·omega
   ·rw[if_neg h2]
    refine quiet _ rfl rfl (fun _=>rfl) (fun j=>?_) (fun j=>?_) (fun i e=>?_) ?_
    ·by_cases e:j=c
     ·subst e;simp[Zj.be,Zj.tk,upd,hF,a1]
     ·simp[Zj.be,Zj.tk,upd,e]
    ·by_cases e:j=c
     ·subst e;simp[Zj.lo,Zj.tk,upd,hF,a1]
     ·simp[Zj.lo,Zj.tk,upd,e]
    ·simp[Zj.tk,upd,e]
    ·refine Pos.owner hm hF hidle ?_ ?_ pT0 ?_ ?_ ?_ ?_ ?_ ?_<;>simp only[Zj.tk,Zbu]
     ·omega
     ·exact hy
     ·omega
     ·omega
     ·intro h;omega
     ·intro h;omega
     ·intro h;omega
     ·omega
  rw[if_neg a1]
  by_cases a2:V.a c=2
  ·rw[if_pos a2]
   obtain⟨x1,x2⟩:=po2 hF a2
   by_cases h1:V.T c=V.x c
   ·
    rw[if_pos h1]
    have beW:∀j,((V.setT c (V.T c+1)).tk c 4 (V.x c) (V.y c) (V.R c (V.y c))).be j=V.be j:=fun j=>by
     by_cases e:j=c
     ·subst e;simp[Zj.be,Zj.tk,Zj.setT,upd,hF,a2]
     ·simp[Zj.be,Zj.tk,Zj.setT,upd,e]
    have loW:∀j,((V.setT c (V.T c+1)).tk c 4 (V.x c) (V.y c) (V.R c (V.y c))).lo j=V.lo j:=fun j=>by
     by_cases e:j=c
     ·subst e;simp[Zj.lo,Zj.tk,Zj.setT,upd,hF,a2]
     ·simp[Zj.lo,Zj.tk,Zj.setT,upd,e]
    refine⟨⟨fun i hi=>?_,I.items.same (fun j _=>loW j) (fun j _=>beW j) (fun j _=>rfl) rfl⟩,.inl fun _=>rfl,rfl⟩
    by_cases e:i=c
    ·rw[e]
     refine Pos.owner hm hF hidle ?_ ?_ ?_ ?_ ?_ ?_ ?_ ?_ ?_<;>simp only[Zj.tk,Zj.setT,Zbu]
     ·omega
     ·exact hy
     ·omega
     ·omega
     ·omega
     ·intro h;omega
     ·intro h;omega
     ·intro h;rw[hy]
     ·exact prx
    ·refine(I.pos i hi).other (c:=c) hm TB hi (fun j _=>?_) (fun j _=>.inl (beW j)) e ?_ ?_ ?_ ?_ ?_ rfl ?_ rfl
     ·by_cases e2:j=c
      ·subst e2
       refine .inr ⟨by simp[Zj.tk,Zj.setT,upd],by omega⟩
      ·exact .inl (by simp[Zj.tk,Zj.setT,upd,e2])
     all_goals simp[Zj.tk,Zj.setT,upd,e]
   ·rw[if_neg h1]
    refine quiet _ rfl rfl (fun _=>rfl) (fun j=>?_) (fun j=>?_) (fun i e=>?_) ?_
    ·by_cases e:j=c
     ·subst e;simp[Zj.be,Zj.tk,upd,hF,a2]
     ·simp[Zj.be,Zj.tk,upd,e]
    ·by_cases e:j=c
     ·subst e;simp[Zj.lo,Zj.tk,upd,hF,a2]
     ·simp[Zj.lo,Zj.tk,upd,e]
    ·simp[Zj.tk,upd,e]
    ·refine Pos.owner hm hF hidle ?_ ?_ pT0 ?_ ?_ ?_ ?_ ?_ ?_<;>simp only[Zj.tk,Zbu]
     ·omega
     ·exact hy
     ·omega
     ·omega
     ·intro h;omega
     ·intro h;omega
     ·intro h;omega
     ·exact prx
  rw[if_neg a2]
  have hT:=po3 hF (by omega)
  by_cases a4:V.a c=4
  ·
   rw[if_pos a4]
   have hz:=po4 hF a4
   have it0:Item m V c (V.B c):=⟨hc,by unfold Zj.lo;rw[if_pos ⟨hF,a4⟩];omega,by omega⟩
   have beW:∀j,j≠c→((V.setB c (V.y c+1)).got c (V.z c)).be j=V.be j:=fun j e=>by simp[Zj.be,Zj.got,Zj.setB,upd,e]
   have beC:((V.setB c (V.y c+1)).got c (V.z c)).be c=V.B c+1:=by simp[Zj.be,Zj.got,Zj.setB,upd];omega
   have loC:((V.setB c (V.y c+1)).got c (V.z c)).lo c=V.T c:=by simp[Zj.lo,Zj.got,Zj.setB,upd]
   have loW:∀j,j≠c→((V.setB c (V.y c+1)).got c (V.z c)).lo j=V.lo j:=fun j e=>by simp[Zj.lo,Zj.got,Zj.setB,upd,e]
   have loV:V.lo c=V.T c-1:=by unfold Zj.lo;rw[if_pos ⟨hF,a4⟩]
   refine⟨⟨fun i hi=>?_,?_⟩,.inr ⟨?_,?_,fun j e=>by simp[Zj.got,Zj.setB,upd,e]⟩,rfl⟩
   ·by_cases e:i=c
    ·rw[e]
     refine Pos.fresh0 ?_ ?_ ?_ ?_ ?_ pT0 ?_ ?_<;>simp only[Zj.got,Zj.setB,Zbu]
     ·exact hm
     ·exact fun _=>trivial
     ·omega
     ·omega
    ·refine(I.pos i hi).other (c:=c) hm TB hi (fun j _=>.inl rfl) (fun j _=>?_) e ?_ ?_ ?_ ?_ ?_ ?_ ?_ rfl
     ·by_cases e2:j=c
      ·subst e2
       exact .inl (by rw[beC];omega)
      ·exact .inl (beW j e2)
     all_goals simp[Zj.got,Zj.setB,upd,e]
   ·refine I.items.take hc hidle hb it0 (fun i k=>?_) (by simp[Zj.got,Zj.setB,upd];exact hz) (fun j _ e=>by simp[Zj.got,Zj.setB,upd,e]) rfl
    unfold Item
    by_cases e:i=c
    ·subst e;rw[beC,loC,loV]
     constructor
     ·rintro ⟨q1,q2,q3⟩;omega
     ·rintro ⟨⟨q1,q2,q3⟩,q4⟩
      exact absurd ⟨rfl,by omega⟩ q4
    ·rw[beW i e,loW i e]
     constructor
     ·rintro ⟨q1,q2,q3⟩;exact⟨⟨q1,q2,q3⟩,fun h=>e h.1⟩
     ·rintro ⟨q,_⟩;exact q
   ·have:=(I.items.rdy c _ it0).1
    simp only[Zj.got,Zj.setB,Zbu]
    rw[hz];exact this
   ·have:=(I.items.rdy c _ it0).2
    simp only[Zj.got,Zj.setB,Zbu]
    rw[hz];exact this
  ·rw[if_neg a4]
   have a3:V.a c=3:=by omega
   refine quiet _ rfl rfl (fun _=>rfl) (fun j=>?_) (fun j=>?_) (fun i e=>?_) ?_
   ·by_cases e:j=c
    ·subst e
     rw[hbc]
     simp[Zj.be,Zj.fresh,Zj.setB,upd]
     omega
    ·simp[Zj.be,Zj.fresh,Zj.setB,upd,e]
   ·by_cases e:j=c
    ·subst e;simp[Zj.lo,Zj.fresh,Zj.setB,upd,a3]
    ·simp[Zj.lo,Zj.fresh,Zj.setB,upd,e]
   ·simp[Zj.fresh,Zj.setB,upd,e]
   ·refine Pos.fresh0 ?_ ?_ ?_ ?_ ?_ pT0 ?_ ?_<;>simp only[Zj.fresh,Zj.setB,Zbu]
    ·exact Nat.mod_lt _ hm
    ·exact fun h=>absurd hidle h
    ·omega
    ·omega
 ·rw[if_neg hF]
  have pv:=I.pos _ hv
  have hbc:V.be c=V.B c:=by unfold Zj.be;rw[if_neg (by omega)]
  have fresh:∀f,f<m→Inv m base (V.fresh c f)∧Zwm m base V (V.fresh c f) c∧(V.fresh c f).R=V.R:=fun f hf=>by
   refine quiet _ rfl rfl (fun _=>rfl) (fun j=>?_) (fun j=>?_) (fun i e=>?_) ?_
   ·by_cases e:j=c
    ·subst e;rw[hbc];simp[Zj.be,Zj.fresh,upd]
    ·simp[Zj.be,Zj.fresh,upd,e]
   ·by_cases e:j=c
    ·subst e;simp[Zj.lo,Zj.fresh,upd,hF]
    ·simp[Zj.lo,Zj.fresh,upd,e]
   ·simp[Zj.fresh,upd,e]
   ·refine Pos.fresh0 ?_ ?_ ?_ ?_ ?_ pT0 ?_ ?_<;>simp only[Zj.fresh,Zbu]
    ·exact hf
    ·exact fun h=>absurd hidle h
    ·omega
    ·omega
  have tk:∀a x y z,1≤a∧a≤3→(0≤x∧x≤V.T (vic m c (V.F c)))→(2≤a→x=V.T (vic m c (V.F c))→V.T (vic m c (V.F c))<V.be (vic m c (V.F c)))→(a=3→z=V.R (vic m c (V.F c)) x)→x≤64→(-1≤y∧y≤64)→Inv m base (V.tk c a x y z)∧Zwm m base V (V.tk c a x y z) c∧(V.tk c a x y z).R=V.R:=fun a x y z q0 q1 q2 q3 q4 q5=>by
   have hbe:∀j,(V.tk c a x y z).be j=V.be j:=fun j=>by
    by_cases e:j=c
    ·subst e;rw[hbc];simp[Zj.be,Zj.tk,upd,hF]
    ·simp[Zj.be,Zj.tk,upd,e]
   refine quiet _ rfl rfl (fun _=>rfl) hbe (fun j=>?_) (fun i e=>?_) ?_
   ·by_cases e:j=c
    ·subst e;simp[Zj.lo,Zj.tk,upd,hF]
    ·simp[Zj.lo,Zj.tk,upd,e]
   ·simp[Zj.tk,upd,e]
   ·refine Pos.thief (I.pos c hc) rfl hF hidle rfl rfl hbe ?_ ?_ ?_ ?_ ?_ ?_<;>simp only[Zj.tk,Zbu]
    ·exact q0
    ·exact q1
    ·exact q2
    ·exact q3
    ·exact q4
    ·exact q5
  have bv:V.B (vic m c (V.F c))≤V.be (vic m c (V.F c)) ∧ -1≤V.B (vic m c (V.F c)):=by
   have h1:=pv.T0
   have h2:=pv.TB
   unfold Zj.be at h2 ⊢
   split at h2<;>rename_i hh<;>simp only[hh]<;>simp<;>omega
  have b64:=pv.B64
  have t64:=pv.TB
  by_cases a0:V.a c=0
  ·rw[if_pos a0]
   exact tk 1 _ _ _ (by omega) ⟨pv.T0,Int.le_refl _⟩ (fun h=>by omega) (fun h=>by omega) (by omega) pry
  rw[if_neg a0]
  have x0:=pt1 hF (by omega)
  by_cases a1:V.a c=1
  ·rw[if_pos a1]
   by_cases h1:V.x c<V.B (vic m c (V.F c))
   ·rw[if_pos h1]
    exact tk 2 _ _ _ (by omega) x0 (fun _ h=>by omega) (fun h=>by omega) prx.2 (by omega)
   ·rw[if_neg h1]
    exact fresh _ (Nat.mod_lt _ hm)
  rw[if_neg a1]
  by_cases a2:V.a c=2
  ·rw[if_pos a2]
   exact tk 3 _ _ _ (by omega) x0 (fun _ h=>pt2 hF (by omega) h) (fun _=>rfl) prx.2 pry
  rw[if_neg a2]
  have a3:V.a c=3:=by have:=pa3 hF;omega
  by_cases h1:V.T (vic m c (V.F c))=V.x c
  ·
   rw[if_pos h1]
   have hlt:=pt2 hF (by omega) h1.symm
   have hz:=pt3 hF a3
   have vne:=ZDI hc pF hF
   have hcv:c≠vic m c (V.F c):=fun e=>vne e.symm
   generalize hvv:vic m c (V.F c)=v at *
   have loV:V.lo v=V.T v:=by
    unfold Zj.lo
    by_cases hh:V.F v=0∧V.a v=4
    ·exfalso
     have:=pv.o3 hh.1 (.inr hh.2)
     have:V.be v=V.B v+1:=by unfold Zj.be;rw[if_pos ⟨hh.1,by omega⟩]
     omega
    ·rw[if_neg hh]
   have it0:Item m V v (V.T v):=⟨hv,by omega,hlt⟩
   have beW:∀j,((V.setT v (V.T v+1)).got c (V.z c)).be j=V.be j:=fun j=>by
    by_cases e:j=c
    ·subst e;rw[hbc];simp[Zj.be,Zj.got,Zj.setT,upd]
    ·simp[Zj.be,Zj.got,Zj.setT,upd,e]
   have loW:∀j,j≠v→((V.setT v (V.T v+1)).got c (V.z c)).lo j=V.lo j:=fun j e=>by
    by_cases e2:j=c
    ·subst e2;simp[Zj.lo,Zj.got,Zj.setT,upd,hF,e]
    ·simp[Zj.lo,Zj.got,Zj.setT,upd,e,e2]
   have loC:((V.setT v (V.T v+1)).got c (V.z c)).lo v=V.T v+1:=by
    have hn:¬(V.F v=0∧V.a v=4):=fun hh=>by
     have:V.lo v=V.T v-1:=by unfold Zj.lo;rw[if_pos hh]
     omega
    simp[Zj.lo,Zj.got,Zj.setT,upd,vne]
    intro h h2
    exact absurd ⟨h,h2⟩ hn
   refine⟨⟨fun i hi=>?_,?_⟩,.inr ⟨?_,?_,fun j e=>by simp[Zj.got,Zj.setT,upd,e]⟩,rfl⟩
   ·by_cases e:i=c
    ·rw[e]
     refine Pos.fresh0 ?_ ?_ ?_ ?_ ?_ ?_ ?_ ?_<;>simp only[Zj.got,Zj.setT,Zbu,ZtU _ _ hcv]
     ·exact hm
     ·exact fun _=>trivial
     ·exact pT0
     ·omega
     ·omega
    ·refine(I.pos i hi).other (c:=c) hm TB hi (fun j _=>?_) (fun j _=>.inl (beW j)) e ?_ ?_ ?_ ?_ ?_ ?_ rfl rfl
     ·by_cases e2:j=v
      ·subst e2
       exact .inr ⟨by simp[Zj.got,Zj.setT,upd],hlt⟩
      ·exact .inl (by simp[Zj.got,Zj.setT,upd,e2])
     all_goals simp[Zj.got,Zj.setT,upd,e]
   ·refine I.items.take hc hidle hb it0 (fun i k=>?_) (by simp[Zj.got,Zj.setT,upd];rw[hz,h1]) (fun j _ e=>by simp[Zj.got,Zj.setT,upd,e]) rfl
    unfold Item
    rw[beW]
    by_cases e:i=v
    ·subst e;rw[loC,loV]
     constructor
     ·rintro ⟨q1,q2,q3⟩;exact⟨⟨q1,by omega,q3⟩,fun h=>by omega⟩
     ·rintro ⟨⟨q1,q2,q3⟩,q4⟩;exact⟨q1,by have:k≠V.T i:=fun h=>q4 ⟨rfl,h⟩;omega,q3⟩
    ·rw[loW i e]
     constructor
     ·rintro ⟨q1,q2,q3⟩;exact⟨⟨q1,q2,q3⟩,fun h=>e h.1⟩
     ·rintro ⟨q,_⟩;exact q
   ·have:=(I.items.rdy v _ it0).1
    simp only[Zj.got,Zj.setT,Zbu]
    rw[hz,← h1];exact this
   ·have:=(I.items.rdy v _ it0).2
    simp only[Zj.got,Zj.setT,Zbu]
    rw[hz,← h1];exact this
  ·rw[if_neg h1]
   exact fresh _ (Nat.mod_lt _ hm)
def Zic (f:Nat→Nat):Nat→Nat
 | 0=>0
 | n+1=>Zic f n+f n
theorem Zte {f h:Nat→Nat}:∀n,(∀i,i<n→f i≤h i)→Zic f n≤Zic h n
 | 0,_=>Nat.le_refl _
 | n+1,e=>by
  have:=Zte n fun i hi=>e i (by omega)
  have:=e n (by omega)
  unfold Zic
  omega
theorem Zn3 {f h:Nat→Nat} (n:Nat) (e:∀i,i<n→f i=h i):Zic f n=Zic h n:=
 Nat.le_antisymm (Zte n fun i hi=>Nat.le_of_eq (e i hi)) (Zte n fun i hi=>Nat.le_of_eq (e i hi).symm)
theorem ZmL {f h:Nat→Nat}{c:Nat}:∀n,c<n→(∀i,i<n→i≠c→f i=h i)→f c+1≤h c→Zic f n+1≤Zic h n
 | 0,hc,_,_=>by omega
 | n+1,hc,e,hd=>by
  unfold Zic
  by_cases hn:c=n
  ·subst hn
   have:=Zn3 (f:=f) (h:=h) c fun i hi=>e i (by omega) (by omega)
   omega
  ·have:=ZmL n (by omega) (fun i hi hne=>e i (by omega) hne) hd
   have:=e n (by omega) (fun h=>hn h.symm)
   omega
theorem ZoS {a b:Nat}{p:Nat→Prop} (dp:∀i,Decidable (p i)) {f h:Nat→Nat}:∀n,(∀i,i<n→(p i→f i≤a∧h i=1)∧(¬p i→f i≤b∧h i=0))→Zic f n≤Zic h n*a+(n-Zic h n)*b∧Zic h n≤n
 | 0,_=>by simp[Zic]
 | n+1,e=>by
  obtain⟨h1,h2⟩:=ZoS dp n fun i hi=>e i (by omega)
  obtain⟨e1,e2⟩:=e n (by omega)
  unfold Zic
  by_cases hp:p n
  ·obtain⟨q1,q2⟩:=e1 hp
   rw[q2]
   refine⟨?_,by omega⟩
   have:n+1-(Zic h n+1)=n-Zic h n:=by omega
   rw[this,Nat.succ_mul]
   omega
  ·obtain⟨q1,q2⟩:=e2 hp
   rw[q2,Nat.add_zero]
   refine⟨?_,by omega⟩
   have:n+1-Zic h n=(n-Zic h n)+1:=by omega
   rw[this,Nat.succ_mul]
   omega
def ZcP (V:Zj) (c:Nat):Prop:=V.F c=0→0<V.a c→V.y c=V.B c∧(V.a c=2→V.x c=V.y c∧V.x c≤V.T c)∧(V.a c=3∨V.a c=4→V.B c+1≤V.T c)
noncomputable def BeG (V:Zj) (c:Nat):Int:=@ite _ (V.F c=0∧0<V.a c∧ZcP V c) (Classical.propDecidable _) (V.B c+1) (V.B c)
theorem Zix {V:Zj}{c:Nat} (hF:V.F c=0) (ha:0<V.a c) (h:ZcP V c):BeG V c=V.B c+1:=by unfold BeG;rw[if_pos ⟨hF,ha,h⟩]
theorem ZdB {V:Zj}{c:Nat} (h:¬(V.F c=0∧0<V.a c∧ZcP V c)):BeG V c=V.B c:=by unfold BeG;rw[if_neg h]
theorem ZIf (V:Zj) (c:Nat):V.B c≤BeG V c:=by unfold BeG;split<;>omega
def NE (V:Zj) (j:Nat):Prop:=V.T j<BeG V j
def ZtG (m:Nat) (V:Zj) (p:Nat):Prop:=p<m∧V.O p = -1∧V.F p=0∧((V.a p=1∧V.T p≤V.y p)∨(V.a p=2∧V.T p=V.x p))
noncomputable def wV (m:Nat) (V:Zj):Nat:=Zic (fun c=>@ite _ (ZcP V c) (Classical.propDecidable _) 0 1) m
def rP (V:Zj) (p:Nat):Nat:=if V.a p=1 then 2 else 1
def dP (m:Nat) (last:Int) (p:Nat):Nat:=if last<(p:Int) then ((p:Int)-last-1).toNat else ((p:Int)+m-last-1).toNat
def Zd9 (V:Zj) (c:Nat):Nat:=if V.a c=4 then 1 else (4-V.a c).toNat
def Zk9 (V:Zj) (c:Nat):Nat:=if V.a c=0 then 0 else Zd9 V c
def ZCh (m:Nat) (V:Zj) (c:Nat):Prop:=NE V (vic m c (V.F c))∧(V.a c=0∨(V.F c≠0∧V.x c=V.T (vic m c (V.F c))))
def OKD (m:Nat) (V:Zj) (c d:Nat):Prop:=(V.F c=0∧V.a c=4∧1≤d)∨(ZCh m V c∧Zd9 V c≤d)∨(∃j,1≤j∧NE V (vic m c (V.F c+j))∧Zd9 V c+4*j≤d)
def In (m:Nat) (V:Zj) (last:Int) (k:Nat):Prop:=
 (∃p,ZtG m V p∧rP V p*m+dP m last p≤k) ∨
 ((∀p,¬ZtG m V p)∧(∃j,j<m∧NE V j)∧∃D:Nat→Nat,(∀c,c<m→V.O c = -1→OKD m V c (D c))∧3*m+Zic (fun c=>if V.O c = -1 then D c else 0) m≤k) ∨
 ((∀p,¬ZtG m V p)∧(∀j,j<m→¬NE V j)∧Zic (fun c=>if V.O c = -1 then Zk9 V c else 0) m≤k)
def uV (m:Nat) (V:Zj):Nat:=Zic (fun c=>if V.O c = -1∧¬(V.F c=0∧V.a c=4) then 1 else 0) m
def Claim (m:Nat) (V:Zj) (c:Nat):Prop:=(V.F c=0∧V.a c=1∧V.T c<V.y c)∨(V.F c=0∧V.a c=2∧V.T c=V.x c)∨(V.F c≠0∧V.a c=3∧V.T (vic m c (V.F c))=V.x c)
def ZeO (m:Nat) (V:Zj) (c:Nat):Prop:=c<m∧V.O c = -1∧((∃j,j<m∧V.T j<V.B j)∨V.a c≠0)
structure Gen (m:Nat) (V:Zj) (c:Nat):Prop where
 F:V.F c<m
 busy:V.O c ≠ -1→V.a c=0∧V.F c=0
 a0:0≤V.a c
 a4:V.a c≤4
 a3:V.F c≠0→V.a c≤3
theorem Pos.gen {m:Nat}{V:Zj}{c:Nat} (p:Pos m V c):Gen m V c:=⟨p.F,p.busy,p.a0,p.a4,p.a3⟩
theorem Pos.ownOK {m:Nat}{V:Zj}{c:Nat} (p:Pos m V c):ZcP V c:=fun h1 h2=>⟨p.o1 h1 h2,p.o2 h1,fun h=>by have:=p.o3 h1 h;omega⟩
def ZDs (m:Nat) (V:Zj) (c:Nat):Prop:=(V.F c=0∧V.a c=1∧V.T c<V.y c)∨(V.F c=0∧V.a c=4)∨(V.F c≠0∧V.a c=3∧V.T (vic m c (V.F c))=V.x c)
inductive StepC (m:Nat) (V:Zj) (c:Nat):Zj→Prop
 | own0:V.F c=0→V.a c=0→StepC m V c ((V.setB c (V.B c-1)).tk c 1 (V.x c) (V.B c-1) (V.z c))
 | take:V.F c=0→V.a c=1→V.T c<V.y c→StepC m V c (V.got c (V.R c (V.y c)))
 | last:V.F c=0→V.a c=1→V.T c=V.y c→StepC m V c (V.tk c 2 (V.T c) (V.y c) (V.z c))
 | none1:V.F c=0→V.a c=1→V.y c<V.T c→StepC m V c (V.tk c 3 (V.T c) (V.y c) (V.z c))
 | win:V.F c=0→V.a c=2→V.T c=V.x c→StepC m V c ((V.setT c (V.T c+1)).tk c 4 (V.x c) (V.y c) (V.R c (V.y c)))
 | lose:V.F c=0→V.a c=2→V.T c≠V.x c→StepC m V c (V.tk c 3 (V.x c) (V.y c) (V.z c))
 | work:V.F c=0→V.a c=4→StepC m V c ((V.setB c (V.y c+1)).got c (V.z c))
 | back:V.F c=0→V.a c=3→StepC m V c ((V.setB c (V.y c+1)).fresh c (1 % m))
 | top:V.F c≠0→V.a c=0→StepC m V c (V.tk c 1 (V.T (vic m c (V.F c))) (V.y c) (V.z c))
 | bottom:V.F c≠0→V.a c=1→V.x c<V.B (vic m c (V.F c))→StepC m V c (V.tk c 2 (V.x c) (V.B (vic m c (V.F c))) (V.z c))
 | none2:V.F c≠0→V.a c=1→V.B (vic m c (V.F c))≤V.x c→StepC m V c (V.fresh c ((V.F c+1) % m))
 | read:V.F c≠0→V.a c=2→StepC m V c (V.tk c 3 (V.x c) (V.y c) (V.R (vic m c (V.F c)) (V.x c)))
 | steal:V.F c≠0→V.a c=3→V.T (vic m c (V.F c))=V.x c→StepC m V c ((V.setT (vic m c (V.F c)) (V.T (vic m c (V.F c))+1)).got c (V.z c))
 | lost:V.F c≠0→V.a c=3→V.T (vic m c (V.F c))≠V.x c→StepC m V c (V.fresh c ((V.F c+1) % m))
theorem Zv0 {m:Nat}{V:Zj}{c:Nat} (p:Gen m V c):StepC m V c (Zb1 m V c):=by
 have h0:=p.a0
 have h4:=p.a4
 have h3:=p.a3
 unfold Zb1
 split
 ·rename_i hF
  split
  ·rename_i h;exact .own0 hF h
  split
  ·rename_i h
   split
   ·rename_i q;exact .take hF h q
   split
   ·rename_i q;exact .last hF h q
   ·rename_i q1 q2;exact .none1 hF h (by omega)
  split
  ·rename_i h
   split
   ·rename_i q;exact .win hF h q
   ·rename_i q;exact .lose hF h q
  split
  ·rename_i h;exact .work hF h
  ·exact .back hF (by omega)
 ·rename_i hF
  have:=h3 hF
  split
  ·rename_i h;exact .top hF h
  split
  ·rename_i h
   split
   ·rename_i q;exact .bottom hF h q
   ·rename_i q;exact .none2 hF h (by omega)
  split
  ·rename_i h;exact .read hF h
  split
  ·rename_i q;exact .steal hF (by omega) q
  ·rename_i q;exact .lost hF (by omega) q
theorem ZfS {V:Zj}{c:Nat} (h:V.F c≠0):ZcP V c:=fun h1=>absurd h1 h
theorem ZjM {V:Zj}{c:Nat} (h:V.a c=0):ZcP V c:=fun _ h2=>by omega
theorem Zxq {V W:Zj}{j:Nat} (hT:W.T j=V.T j) (hB:W.B j=V.B j) (hF:W.F j=V.F j) (ha:W.a j=V.a j) (hx:W.x j=V.x j) (hy:W.y j=V.y j):(ZcP W j↔ZcP V j)∧BeG W j=BeG V j:=by
 have h:ZcP W j↔ZcP V j:=by unfold ZcP;rw[hT,hB,hF,ha,hx,hy]
 refine⟨h,?_⟩
 have e:(W.F j=0∧0<W.a j∧ZcP W j)↔(V.F j=0∧0<V.a j∧ZcP V j):=by rw[hF,ha,h]
 unfold BeG
 by_cases hh:V.F j=0∧0<V.a j∧ZcP V j
 ·rw[if_pos hh,if_pos (e.2 hh),hB]
 ·rw[if_neg hh,if_neg (fun h=>hh (e.1 h)),hB]
theorem Zeg {m:Nat}{V W:Zj}{c:Nat} (s:StepC m V c W) {i:Nat} (hi:i≠c):W.O i=V.O i∧W.F i=V.F i∧W.a i=V.a i∧W.x i=V.x i∧W.y i=V.y i∧W.B i=V.B i:=by
 cases s<;>simp[Zj.tk,Zj.got,Zj.fresh,Zj.setB,Zj.setT,upd,hi]
theorem Zvm {m:Nat}{V W:Zj}{c:Nat} (s:StepC m V c W) (hn:¬Claim m V c):W.T=V.T∧((¬ZcP V c∧ZcP W c)∨((ZcP W c↔ZcP V c)∧BeG W c=BeG V c)):=by
 cases s with
 | own0 hF ha=>
  have h1:ZcP V c:=ZjM ha
  have h2:ZcP ((V.setB c (V.B c-1)).tk c 1 (V.x c) (V.B c-1) (V.z c)) c:=fun _ _=>by simp[Zj.tk,Zj.setB,upd]
  refine⟨rfl,.inr ⟨⟨fun _=>h1,fun _=>h2⟩,?_⟩⟩
  rw[ZdB (V:=V) (by omega),Zix (by simpa [Zj.tk,Zj.setB] using hF) (by simp[Zj.tk,Zj.setB,upd]) h2]
  simp[Zj.tk,Zj.setB,upd]
 | take hF ha h=>exact absurd (.inl ⟨hF,ha,h⟩) hn
 | last hF ha h=>
  have e:ZcP (V.tk c 2 (V.T c) (V.y c) (V.z c)) c↔ZcP V c:=by
   unfold ZcP
   simp[Zj.tk,upd,hF,ha,h]
  refine⟨rfl,.inr ⟨e,?_⟩⟩
  by_cases h1:ZcP V c
  ·rw[Zix hF (by omega) h1,Zix (by simpa [Zj.tk] using hF) (by simp[Zj.tk,upd]) (e.2 h1)]
   rfl
  ·rw[ZdB (fun h=>h1 h.2.2),ZdB (fun h=>h1 (e.1 h.2.2))]
   rfl
 | none1 hF ha h=>
  have e:ZcP (V.tk c 3 (V.T c) (V.y c) (V.z c)) c↔ZcP V c:=by
   unfold ZcP
   simp[Zj.tk,upd,hF,ha]
   omega
  refine⟨rfl,.inr ⟨e,?_⟩⟩
  by_cases h1:ZcP V c
  ·rw[Zix hF (by omega) h1,Zix (by simpa [Zj.tk] using hF) (by simp[Zj.tk,upd]) (e.2 h1)]
   rfl
  ·rw[ZdB (fun h=>h1 h.2.2),ZdB (fun h=>h1 (e.1 h.2.2))]
   rfl
 | win hF ha h=>exact absurd (.inr (.inl ⟨hF,ha,h⟩)) hn
 | lose hF ha h=>
  refine⟨rfl,?_⟩
  by_cases h1:ZcP V c
  ·right
   obtain⟨q1,q2,_⟩:=h1 hF (by omega)
   obtain⟨q2,q3⟩:=q2 ha
   have h2:ZcP (V.tk c 3 (V.x c) (V.y c) (V.z c)) c:=fun _ _=>by
    simp[Zj.tk,upd]
    omega
   refine⟨⟨fun _=>h1,fun _=>h2⟩,?_⟩
   rw[Zix hF (by omega) h1,Zix (by simpa [Zj.tk] using hF) (by simp[Zj.tk,upd]) h2]
   rfl
  ·by_cases h2:ZcP (V.tk c 3 (V.x c) (V.y c) (V.z c)) c
   ·exact .inl ⟨h1,h2⟩
   ·refine .inr ⟨⟨fun h=>absurd h h2,fun h=>absurd h h1⟩,?_⟩
    rw[ZdB (fun h=>h1 h.2.2),ZdB (fun h=>h2 h.2.2)]
    rfl
 | work hF ha=>
  refine⟨rfl,?_⟩
  have h2:ZcP ((V.setB c (V.y c+1)).got c (V.z c)) c:=ZjM (by simp[Zj.got,Zj.setB,upd])
  by_cases h1:ZcP V c
  ·refine .inr ⟨⟨fun _=>h1,fun _=>h2⟩,?_⟩
   have q1:=(h1 hF (by omega)).1
   rw[Zix hF (by omega) h1,ZdB (by simp[Zj.got,Zj.setB,upd])]
   simp[Zj.got,Zj.setB,upd]
   omega
  ·exact .inl ⟨h1,h2⟩
 | back hF ha=>
  refine⟨rfl,?_⟩
  have h2:ZcP ((V.setB c (V.y c+1)).fresh c (1 % m)) c:=ZjM (by simp[Zj.fresh,Zj.setB,upd])
  by_cases h1:ZcP V c
  ·refine .inr ⟨⟨fun _=>h1,fun _=>h2⟩,?_⟩
   have q1:=(h1 hF (by omega)).1
   rw[Zix hF (by omega) h1,ZdB (by simp[Zj.fresh,Zj.setB,upd])]
   simp[Zj.fresh,Zj.setB,upd]
   omega
  ·exact .inl ⟨h1,h2⟩
 | top hF ha=>
  refine⟨rfl,.inr ⟨⟨fun _=>ZfS hF,fun _=>ZfS (by simpa [Zj.tk] using hF)⟩,?_⟩⟩
  rw[ZdB (fun h=>hF h.1),ZdB (by simp[Zj.tk,hF])]
  rfl
 | bottom hF ha h=>
  refine⟨rfl,.inr ⟨⟨fun _=>ZfS hF,fun _=>ZfS (by simpa [Zj.tk] using hF)⟩,?_⟩⟩
  rw[ZdB (fun h=>hF h.1),ZdB (by simp[Zj.tk,hF])]
  rfl
 | none2 hF ha h=>
  refine⟨rfl,.inr ⟨⟨fun _=>ZfS hF,fun _=>ZjM (by simp[Zj.fresh,upd])⟩,?_⟩⟩
  rw[ZdB (fun h=>hF h.1),ZdB (by simp[Zj.fresh,upd])]
  rfl
 | read hF ha=>
  refine⟨rfl,.inr ⟨⟨fun _=>ZfS hF,fun _=>ZfS (by simpa [Zj.tk] using hF)⟩,?_⟩⟩
  rw[ZdB (fun h=>hF h.1),ZdB (by simp[Zj.tk,hF])]
  rfl
 | steal hF ha h=>exact absurd (.inr (.inr ⟨hF,ha,h⟩)) hn
 | lost hF ha h=>
  refine⟨rfl,.inr ⟨⟨fun _=>ZfS hF,fun _=>ZjM (by simp[Zj.fresh,upd])⟩,?_⟩⟩
  rw[ZdB (fun h=>hF h.1),ZdB (by simp[Zj.fresh,upd])]
  rfl
theorem ZBs {m:Nat}{V W:Zj}{c:Nat} (hc:c<m) (hidle:V.O c = -1) (s:StepC m V c W) (h:Claim m V c) (hw:(V.F c=0∧V.a c=2)∨W.O c ≠ -1):uV m W+1≤uV m V:=by
 unfold uV
 refine ZmL m hc (fun i hi hne=>?_) ?_
 ·obtain⟨h1,h2,h3,_⟩:=Zeg s hne
  simp only[h1,h2,h3]
 ·have hnot:¬(V.F c=0∧V.a c=4):=by
   rintro ⟨h1,h2⟩
   rcases h with⟨_,h3,_⟩ | ⟨_,h3,_⟩ | ⟨h3,_⟩<;>omega
  have e1:(if V.O c = -1∧¬(V.F c=0∧V.a c=4) then 1 else 0)=1:=if_pos ⟨hidle,hnot⟩
  rw[e1]
  rcases hw with⟨h1,h2⟩ | h1
  ·have:W.F c=0∧W.a c=4:=by
    cases s<;>simp_all [Zj.tk,Zj.setT,upd,Claim]
   rw[if_neg fun hh=>hh.2 this]
   exact Nat.le_refl _
  ·rw[if_neg fun hh=>h1 hh.1]
   exact Nat.le_refl _
theorem ZBk {m:Nat}{V W:Zj}{c:Nat} (hc:c<m) (hidle:V.O c = -1) (s:StepC m V c W) (hn:¬Claim m V c) (hz:V.F c=0→V.a c=4→W.O c ≠ -1):uV m W=uV m V:=by
 unfold uV
 refine Zn3 m fun i hi=>?_
 by_cases e:i=c
 ·subst e
  cases s with
  | take hF ha h=>exact absurd (.inl ⟨hF,ha,h⟩) hn
  | win hF ha h=>exact absurd (.inr (.inl ⟨hF,ha,h⟩)) hn
  | steal hF ha h=>exact absurd (.inr (.inr ⟨hF,ha,h⟩)) hn
  | work hF ha=>
   have:=hz hF ha
   simp only[hF,ha,if_neg (fun h:_∧_=>this h.1)]
   simp
  | _=>simp_all [Zj.tk,Zj.got,Zj.fresh,Zj.setB,Zj.setT,upd]
 ·obtain⟨h1,h2,h3,_⟩:=Zeg s e
  simp only[h1,h2,h3]
theorem Zxi (m c f j:Nat):vic m c (f % m+j)=vic m c (f+j):=by
 unfold vic
 rw[show c+(f % m+j)=f % m+(c+j) by omega,Nat.mod_add_mod,show f+(c+j)=c+(f+j) by omega]
theorem ZxY {m:Nat}{V W:Zj}{i d:Nat} (hT:W.T=V.T) (hbe:∀j,BeG W j=BeG V j) (hF:W.F i=V.F i) (ha:W.a i=V.a i) (hx:W.x i=V.x i) (h:OKD m V i d):OKD m W i d:=by
 unfold OKD ZCh NE Zd9 at *
 simp only[hT,hbe,hF,ha,hx]
 exact h
theorem ZBl {m:Nat}{V:Zj}{c d:Nat} (p:Gen m V c) (h:OKD m V c d):1≤d:=by
 have h0:=p.a0
 have h4:=p.a4
 rcases h with⟨_,_,h⟩ | ⟨_,h⟩ | ⟨j,h1,_,h⟩
 ·exact h
 ·unfold Zd9 at h;split at h<;>omega
 ·omega
theorem Zp2 {m:Nat}{V W:Zj}{c d:Nat} (hT:W.T=V.T) (hbe:∀j,BeG W j=BeG V j) (hF:W.F c=(V.F c+1) % m) (ha:W.a c=0) (r:1≤Zd9 V c) (h:∃j,1≤j∧NE V (vic m c (V.F c+j))∧Zd9 V c+4*j≤d):OKD m W c (d-1):=by
 obtain⟨j,h1,h2,h3⟩:=h
 have ne:∀i,NE W i↔NE V i:=fun i=>by unfold NE;rw[hT,hbe]
 have r4:Zd9 W c=4:=by unfold Zd9;rw[if_neg (by omega),ha];rfl
 by_cases e:j=1
 ·subst e
  refine .inr (.inl ⟨?_,by omega⟩)
  refine⟨(ne _).2 ?_,.inl ha⟩
  rw[hF]
  have:=Zxi m c (V.F c+1) 0
  rw[Nat.add_zero,Nat.add_zero] at this
  rw[this]
  exact h2
 ·refine .inr (.inr ⟨j-1,by omega,(ne _).2 ?_,by omega⟩)
  rw[hF,Zxi,show V.F c+1+(j-1)=V.F c+j by omega]
  exact h2
theorem In.step {m:Nat}{V:Zj}{c k:Nat}{last:Int} (G:∀i,i<m→Gen m V i) (hgot:ZDs m V c→(Zb1 m V c).O c ≠ -1) (hw:ZeO m V c) (hnext:∀p,ZeO m V p→p≠c→dP m (c:Int) p<dP m last p) (h:In m V last k) :
  uV m (Zb1 m V c)+1≤uV m V∨(uV m (Zb1 m V c)=uV m V∧wV m (Zb1 m V c)+1≤wV m V)∨(uV m (Zb1 m V c)=uV m V∧wV m (Zb1 m V c)=wV m V∧1≤k∧In m (Zb1 m V c) (c:Int) (k-1)):=by
 obtain⟨hc,hidle,hwant⟩:=hw
 have p:=G c hc
 have s:=Zv0 p
 generalize hWW:Zb1 m V c=W at s hgot
 have hm:0<m:=by omega
 have hF':=p.F
 by_cases hcl:Claim m V c
 ·left
  have hO:(V.F c=0∧V.a c=2)∨W.O c ≠ -1:=by
   rcases hcl with⟨h1,h2,h3⟩ | ⟨h1,h2,h3⟩ | ⟨h1,h2,h3⟩
   ·exact .inr (hgot (.inl ⟨h1,h2,h3⟩))
   ·exact .inl ⟨h1,h2⟩
   ·exact .inr (hgot (.inr (.inr ⟨h1,h2,h3⟩)))
  exact ZBs hc hidle s hcl hO
 ·right
  obtain⟨hT,hq⟩:=Zvm s hcl
  have hz:V.F c=0→V.a c=4→W.O c ≠ -1:=fun h1 h2=>hgot (.inr (.inl ⟨h1,h2⟩))
  have hu:=ZBk hc hidle s hcl hz
  have oth:∀i,i≠c→(ZcP W i↔ZcP V i)∧BeG W i=BeG V i:=fun i hi=>by
   obtain⟨_,h2,h3,h4,h5,h6⟩:=Zeg s hi
   exact Zxq (by rw[hT]) h6 h2 h3 h4 h5
  rcases hq with⟨q1,q2⟩ | ⟨q1,q2⟩
  ·left
   refine⟨hu,?_⟩
   unfold wV
   refine ZmL m hc (fun i hi hne=>?_) ?_
   ·by_cases h:ZcP V i
    ·rw[if_pos h,if_pos ((oth i hne).1.2 h)]
    ·rw[if_neg h,if_neg (fun h2=>h ((oth i hne).1.1 h2))]
   ·rw[if_pos q2,if_neg q1]
    exact Nat.le_refl _
  right
  have hbe:∀j,BeG W j=BeG V j:=fun j=>by
   by_cases e:j=c
   ·rw[e];exact q2
   ·exact(oth j e).2
  have hwv:wV m W=wV m V:=by
   unfold wV
   refine Zn3 m fun i hi=>?_
   by_cases e:i=c
   ·subst e
    by_cases h:ZcP V i
    ·rw[if_pos h,if_pos (q1.2 h)]
    ·rw[if_neg h,if_neg (fun h2=>h (q1.1 h2))]
   ·by_cases h:ZcP V i
    ·rw[if_pos h,if_pos ((oth i e).1.2 h)]
    ·rw[if_neg h,if_neg (fun h2=>h ((oth i e).1.1 h2))]
  have ne:∀i,NE W i↔NE V i:=fun i=>by unfold NE;rw[hT,hbe]
  have pend:∀q,q≠c→(ZtG m W q↔ZtG m V q):=fun q hq=>by
   obtain⟨h1,h2,h3,h4,h5,_⟩:=Zeg s hq
   unfold ZtG
   rw[h1,h2,h3,h4,h5,hT]
  refine⟨hu,hwv,?_⟩
  have dcc:dP m (c:Int) c=m-1:=by unfold dP;rw[if_neg (by omega)];omega
  rcases h with⟨q,hq,hk⟩ | ⟨np,hne,D,hD,hk⟩ | ⟨np,nn,hk⟩
  ·
   by_cases e:q=c
   ·subst e
    obtain⟨_,_,h1,h2⟩:=hq
    rcases h2 with⟨h2,h3⟩ | ⟨h2,h3⟩
    ·have hTy:V.T q=V.y q:=by
      by_cases hlt:V.T q<V.y q
      ·exact absurd (.inl ⟨h1,h2,hlt⟩) hcl
      ·omega
     have r2:rP V q=2:=by unfold rP;rw[if_pos h2]
     rw[r2] at hk
     have hW:W.O q = -1∧W.F q=0∧W.a q=2∧W.T q=W.x q:=by cases s<;>simp_all [Zj.tk,Zj.got,Zj.fresh,Zj.setB,Zj.setT,upd]<;>omega
     refine⟨by omega,.inl ⟨q,⟨hc,hW.1,hW.2.1,.inr ⟨hW.2.2.1,hW.2.2.2⟩⟩,?_⟩⟩
     have:rP W q=1:=by unfold rP;rw[if_neg (by omega)]
     rw[this,dcc]
     omega
    ·exact absurd (.inr (.inl ⟨h1,h2,h3⟩)) hcl
   ·have hd:=hnext q ⟨hq.1,hq.2.1,.inr (by rcases hq.2.2.2 with h | h<;>omega)⟩ e
    have hr:rP W q=rP V q:=by unfold rP;rw[(Zeg s e).2.2.1]
    refine⟨by omega,.inl ⟨q,(pend q e).2 hq,?_⟩⟩
    rw[hr]
    omega
  ·
   by_cases hpc:ZtG m W c
   ·refine⟨by omega,.inl ⟨c,hpc,?_⟩⟩
    have:rP W c≤2:=by unfold rP;split<;>omega
    have h2:rP W c*m≤2*m:=Nat.mul_le_mul_right m this
    rw[dcc]
    omega
   ·have okc:=hD c hc hidle
    have d1:=ZBl p okc
    have okW:W.O c = -1→OKD m W c (D c-1):=fun hO=>by
     have v0:V.F c=0→vic m c (V.F c)=c:=fun h=>by rw[h];exact ZuE hc
     cases s with
     | own0 hF ha=>
      have nc:¬NE V c:=fun hh=>hpc ⟨hc,hidle,by simpa [Zj.tk,Zj.setB] using hF,.inl (by
       unfold NE at hh
       rw[ZdB (by omega)] at hh
       simp[Zj.tk,Zj.setB,upd]
       omega)⟩
      rcases okc with⟨_,h4,_⟩ | ⟨⟨hg,_⟩,_⟩ | ⟨j,h1,h2,h3⟩
      ·omega
      ·rw[v0 hF] at hg;exact absurd hg nc
      ·refine .inr (.inr ⟨j,h1,(ne _).2 h2,?_⟩)
       have e1:Zd9 V c=4:=by unfold Zd9;rw[if_neg (by omega),ha];rfl
       have e2:Zd9 ((V.setB c (V.B c-1)).tk c 1 (V.x c) (V.B c-1) (V.z c)) c=3:=by unfold Zd9;simp[Zj.tk,upd]
       omega
     | take hF ha hlt=>exact absurd (.inl ⟨hF,ha,hlt⟩) hcl
     | last hF ha heq=>
      exact absurd ⟨hc,hidle,hF,.inl ⟨ha,by omega⟩⟩ (np c)
     | none1 hF ha hlt=>
      rcases okc with⟨_,h4,_⟩ | ⟨⟨_,hg⟩,_⟩ | ⟨j,h1,h2,h3⟩
      ·omega
      ·rcases hg with hg | ⟨hg,_⟩
       ·omega
       ·exact absurd hF hg
      ·refine .inr (.inr ⟨j,h1,(ne _).2 h2,?_⟩)
       have e1:Zd9 V c=3:=by unfold Zd9;rw[if_neg (by omega),ha];rfl
       have e2:Zd9 (V.tk c 3 (V.T c) (V.y c) (V.z c)) c=1:=by unfold Zd9;simp[Zj.tk,upd]
       omega
     | win hF ha heq=>exact absurd (.inr (.inl ⟨hF,ha,heq⟩)) hcl
     | lose hF ha hne2=>
      rcases okc with⟨_,h4,_⟩ | ⟨⟨_,hg⟩,_⟩ | ⟨j,h1,h2,h3⟩
      ·omega
      ·rcases hg with hg | ⟨hg,_⟩
       ·omega
       ·exact absurd hF hg
      ·refine .inr (.inr ⟨j,h1,(ne _).2 h2,?_⟩)
       have e1:Zd9 V c=2:=by unfold Zd9;rw[if_neg (by omega),ha];rfl
       have e2:Zd9 (V.tk c 3 (V.x c) (V.y c) (V.z c)) c=1:=by unfold Zd9;simp[Zj.tk,upd]
       omega
     | work hF ha=>
      exact absurd hO (hz hF ha)
     | back hF ha=>
      rcases okc with⟨_,h4,_⟩ | ⟨⟨_,hg⟩,_⟩ | hj
      ·omega
      ·rcases hg with hg | ⟨hg,_⟩
       ·omega
       ·exact absurd hF hg
      ·exact Zp2 hT hbe (by simp[Zj.fresh,Zj.setB,upd,hF]) (by simp[Zj.fresh,Zj.setB,upd]) (by unfold Zd9;split<;>omega) hj
     | top hF ha=>
      have e1:Zd9 V c=4:=by unfold Zd9;rw[if_neg (by omega),ha];rfl
      have e2:Zd9 (V.tk c 1 (V.T (vic m c (V.F c))) (V.y c) (V.z c)) c=3:=by unfold Zd9;simp[Zj.tk,upd]
      rcases okc with⟨h4,_,_⟩ | ⟨⟨hg,_⟩,hr⟩ | ⟨j,h1,h2,h3⟩
      ·exact absurd h4 hF
      ·exact .inr (.inl ⟨⟨(ne _).2 hg,.inr ⟨hF,by simp[Zj.tk,upd]⟩⟩,by omega⟩)
      ·exact .inr (.inr ⟨j,h1,(ne _).2 h2,by omega⟩)
     | bottom hF ha hlt=>
      have e1:Zd9 V c=3:=by unfold Zd9;rw[if_neg (by omega),ha];rfl
      have e2:Zd9 (V.tk c 2 (V.x c) (V.B (vic m c (V.F c))) (V.z c)) c=2:=by unfold Zd9;simp[Zj.tk,upd]
      rcases okc with⟨h4,_,_⟩ | ⟨⟨hg,hx⟩,hr⟩ | ⟨j,h1,h2,h3⟩
      ·exact absurd h4 hF
      ·refine .inr (.inl ⟨⟨(ne _).2 hg,.inr ⟨hF,?_⟩⟩,by omega⟩)
       rcases hx with hx | ⟨_,hx⟩
       ·omega
       ·simpa [Zj.tk,upd] using hx
      ·exact .inr (.inr ⟨j,h1,(ne _).2 h2,by omega⟩)
     | none2 hF ha hle=>
      rcases okc with⟨h4,_,_⟩ | ⟨⟨hg,hx⟩,hr⟩ | hj
      ·exact absurd h4 hF
      ·exfalso
       rcases hx with hx | ⟨_,hx⟩
       ·omega
       ·have hv:=Zrg hm c (V.F c)
        have pv:=G _ hv
        generalize vic m c (V.F c)=v at *
        unfold NE at hg
        by_cases ho:V.F v=0∧0<V.a v∧ZcP V v
        ·rw[Zix ho.1 ho.2.1 ho.2.2] at hg
         obtain⟨q1,q2,q3⟩:=ho.2.2 ho.1 ho.2.1
         have hi:V.O v = -1:=Classical.byContradiction fun hi=>by have:=(pv.busy hi).1;omega
         have a4:=pv.a4
         by_cases h1:V.a v=1
         ·exact np v ⟨hv,hi,ho.1,.inl ⟨h1,by omega⟩⟩
         ·by_cases h2:V.a v=2
          ·have:=q2 h2
           exact np v ⟨hv,hi,ho.1,.inr ⟨h2,by omega⟩⟩
          ·have:=q3 (by omega)
           omega
        ·rw[ZdB ho] at hg
         omega
      ·exact Zp2 hT hbe (by simp[Zj.fresh,upd]) (by simp[Zj.fresh,upd]) (by unfold Zd9;split<;>omega) hj
     | read hF ha=>
      have e1:Zd9 V c=2:=by unfold Zd9;rw[if_neg (by omega),ha];rfl
      have e2:Zd9 (V.tk c 3 (V.x c) (V.y c) (V.R (vic m c (V.F c)) (V.x c))) c=1:=by unfold Zd9;simp[Zj.tk,upd]
      rcases okc with⟨h4,_,_⟩ | ⟨⟨hg,hx⟩,hr⟩ | ⟨j,h1,h2,h3⟩
      ·exact absurd h4 hF
      ·refine .inr (.inl ⟨⟨(ne _).2 hg,.inr ⟨hF,?_⟩⟩,by omega⟩)
       rcases hx with hx | ⟨_,hx⟩
       ·omega
       ·simpa [Zj.tk,upd] using hx
      ·exact .inr (.inr ⟨j,h1,(ne _).2 h2,by omega⟩)
     | steal hF ha heq=>exact absurd (.inr (.inr ⟨hF,ha,heq⟩)) hcl
     | lost hF ha hne2=>
      rcases okc with⟨h4,_,_⟩ | ⟨⟨hg,hx⟩,hr⟩ | hj
      ·exact absurd h4 hF
      ·exfalso
       rcases hx with hx | ⟨_,hx⟩
       ·omega
       ·exact hne2 hx.symm
      ·exact Zp2 hT hbe (by simp[Zj.fresh,upd]) (by simp[Zj.fresh,upd]) (by unfold Zd9;split<;>omega) hj
    have dec:=ZmL (f:=fun i=>if W.O i = -1 then upd D c (D c-1) i else 0) (h:=fun i=>if V.O i = -1 then D i else 0) (c:=c) m hc (fun i hi hne2=>by
     simp only[(Zeg s hne2).1,ZtU D _ hne2]) (by
     simp only[Zbu]
     rw[if_pos hidle]
     split<;>omega)
    refine⟨by omega,.inr (.inl ⟨fun q hq=>?_,?_,upd D c (D c-1),fun i hi ho=>?_,by omega⟩)⟩
    ·by_cases e:q=c
     ·rw[e] at hq;exact hpc hq
     ·exact np q ((pend q e).1 hq)
    ·obtain⟨j,h1,h2⟩:=hne
     exact⟨j,h1,(ne j).2 h2⟩
    ·by_cases e:i=c
     ·rw[e,Zbu]
      rw[e] at ho
      exact okW ho
     ·obtain⟨h1,h2,h3,h4,_⟩:=Zeg s e
      rw[ZtU D _ e]
      rw[h1] at ho
      exact ZxY hT hbe h2 h3 h4 (hD i hi ho)
  ·
   have ha0:V.a c≠0:=by
    rcases hwant with⟨j,h1,h2⟩ | h
    ·exfalso
     have:=ZIf V j
     exact nn j h1 (by unfold NE;omega)
    ·exact h
   have dec:=ZmL (f:=fun i=>if W.O i = -1 then Zk9 W i else 0) (h:=fun i=>if V.O i = -1 then Zk9 V i else 0) (c:=c) m hc (fun i hi hne2=>by
    obtain⟨h1,h2,h3,_⟩:=Zeg s hne2
    simp only[Zk9,Zd9,h1,h3]) (by
    show(if W.O c = -1 then Zk9 W c else 0)+1≤(if V.O c = -1 then Zk9 V c else 0)
    have e1:(if V.O c = -1 then Zk9 V c else 0)=Zk9 V c:=if_pos hidle
    rw[e1]
    cases s with
    | own0 hF ha=>exact absurd ha ha0
    | take hF ha hlt=>exact absurd (.inl ⟨hF,ha,hlt⟩) hcl
    | last hF ha heq=>
     exact absurd ⟨hc,hidle,hF,.inl ⟨ha,by omega⟩⟩ (np c)
    | none1 hF ha hlt=>simp[Zk9,Zd9,Zj.tk,upd,ha,hidle]
    | win hF ha heq=>exact absurd (.inr (.inl ⟨hF,ha,heq⟩)) hcl
    | lose hF ha hne2=>simp[Zk9,Zd9,Zj.tk,upd,ha,hidle]
    | work hF ha=>
     rw[if_neg (hz hF ha)]
     simp[Zk9,Zd9,ha]
    | back hF ha=>simp[Zk9,Zd9,Zj.fresh,Zj.setB,upd,ha,hidle]
    | top hF ha=>exact absurd ha ha0
    | bottom hF ha hlt=>simp[Zk9,Zd9,Zj.tk,upd,ha,hidle]
    | none2 hF ha hle=>simp[Zk9,Zd9,Zj.fresh,upd,ha,hidle]
    | read hF ha=>simp[Zk9,Zd9,Zj.tk,upd,ha,hidle]
    | steal hF ha heq=>exact absurd (.inr (.inr ⟨hF,ha,heq⟩)) hcl
    | lost hF ha hne2=>simp[Zk9,Zd9,Zj.fresh,upd,ha,hidle])
   refine⟨by omega,.inr (.inr ⟨fun q hq=>?_,fun j hj=>by rw[ne];exact nn j hj,by omega⟩)⟩
   by_cases e:q=c
   ·subst e
    obtain⟨_,_,h1,h2⟩:=hq
    cases s with
    | own0 hF ha=>exact ha0 ha
    | take hF ha hlt=>exact hcl (.inl ⟨hF,ha,hlt⟩)
    | last hF ha heq=>exact np q ⟨hc,hidle,hF,.inl ⟨ha,by omega⟩⟩
    | win hF ha heq=>exact hcl (.inr (.inl ⟨hF,ha,heq⟩))
    | steal hF ha heq=>exact hcl (.inr (.inr ⟨hF,ha,heq⟩))
    | _=>simp_all [Zj.tk,Zj.got,Zj.fresh,Zj.setB,Zj.setT,upd]
   ·exact np q ((pend q e).1 hq)
end Go.Proofs.YtgcfmiajkbbmeaaGreatDoor
