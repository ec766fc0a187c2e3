/- StealSched: part 4 of 6 of the proof. -/
import Derived.Test.YtgcfmiajkbbmeaaGreatDoorZStealSchedc
import Derived.KernelRfl
set_option maxRecDepth 100000
set_option maxHeartbeats 40000000
set_option linter.unusedVariables false
set_option linter.unusedSimpArgs false
namespace Go.Proofs.YtgcfmiajkbbmeaaGreatDoor
open Go Go.Proofs.YtgcfmiajkbbmeaaGreatDoorE
open Go.IntKind (u64 i64 u32 i32 u8)
noncomputable section
abbrev zL (t:Bool) (l:List Int):D:=.list t (List.map Zb l)
structure Zx where
 work:(List Int)
 edges:(List Zy)
 deriving DecidableEq
abbrev ZGN (x:Zx):D:=(D.agg [(D.list true (List.map Zb x.work)),(D.list true (List.map ZA x.edges))])
structure ZbM where
 on:(List Int)
 left:(List Int)
 deriving DecidableEq
structure Zk where
 ring:(List Int)
 top:Int
 bottom:Int
 deriving DecidableEq
abbrev Za8 (x:Zk):D:=(D.agg [(D.list true (List.map Zb x.ring)),(Zb x.top),(Zb x.bottom)])
structure Zu where
 steal:Bool
 at_:Int
 top:Int
 bottom:Int
 got:Int
 end_:Int
 deriving DecidableEq
abbrev Zbm (x:Zu):D:=(D.agg [(D.bool x.steal),(Zb x.at_),(Zb x.top),(Zb x.bottom),(Zb x.got),(Zb x.end_)])
structure Z8 where
 a0:Int
 a1:Int
 deriving DecidableEq
abbrev ZcW (x:Z8):D:=(D.agg [(Zb x.a0),(Zb x.a1)])
def Ztq:ByteArray:=⟨#[0,1,2,2,3,3,3,3,4,4,4,4,4,4,4,4,5,5,5,5,5,5,5,5,5,5,5,5,5,5,5,5,6,6,6,6,6,6,6,6,6,6,6,6,6,6,6,6,6,6,6,6,6,6,6,6,6,6,6,6,6,6,6,6,7,7,7,7,7,7,7,7,7,7,7,7,7,7,7,7,7,7,7,7,7,7,7,7,7,7,7,7,7,7,7,7,7,7,7,7,7,7,7,7,7,7,7,7,7,7,7,7,7,7,7,7,7,7,7,7,7,7,7,7,7,7,7,7,8,8,8,8,8,8,8,8,8,8,8,8,8,8,8,8,8,8,8,8,8,8,8,8,8,8,8,8,8,8,8,8,8,8,8,8,8,8,8,8,8,8,8,8,8,8,8,8,8,8,8,8,8,8,8,8,8,8,8,8,8,8,8,8,8,8,8,8,8,8,8,8,8,8,8,8,8,8,8,8,8,8,8,8,8,8,8,8,8,8,8,8,8,8,8,8,8,8,8,8,8,8,8,8,8,8,8,8,8,8,8,8,8,8,8,8,8,8,8,8,8,8,8,8,8,8,8,8]⟩
def ZdE:Option Bool:=some true
def Zjr (a:Zx):Option Bool:=
 bif (decide ((a.work.length:Int)≤70)) then
  bif (decide ((a.edges.length:Int)≤300)) then
   some true
  else
   some false
 else
  some false
def Zde (a:List Int) (s0:Int×Int):Option ((Int×Int)⊕(Unit⊕(Unit⊕Unit))):=
 bif (decide (s0.2<(a.length:Int))) then
  (Zp a s0.2).bind fun x1=>
  bif (decide (x1<0)) then
   bif (decide (x1<0)) then
    some (.inr (.inl ()))
   else
    some (.inr (.inr (.inl ())))
  else
   bif (decide (s0.1<x1)) then
    bif (decide (x1<0)) then
     some (.inr (.inl ()))
    else
     some (.inr (.inr (.inl ())))
   else
    some (.inl ((w64 (s0.1-x1)),(w64 (s0.2+1))))
 else
  some (.inr (.inr (.inr ())))
def Zht (a:List Int):Option Bool:=
 (lp (Zde a) (300,0)).bind fun r2=>
 match r2 with
 | (.inl r2)=>
  some true
 | (.inr (.inl r2))=>
  some false
 | (.inr (.inr r2))=>
  some true
def Zfl (a:Zx):Option Unit:=
 bif (Nat.ble (List.length a.work) lim) then
  bif (Nat.ble (List.length a.edges) lim) then
   some ()
  else
   none
 else
  none
def Zdy (a:List Int):Option Unit:=
 bif (Nat.ble (List.length a) lim) then
  some ()
 else
  none
def ZdD (a:Int):Option Bool:=
 bif (decide (a<0)) then
  some true
 else
  bif (decide (1000<a)) then
   some true
  else
   some false
def ZL (a:List Int) (b:(Int→Option Bool)) (s0:Int):Option (Int⊕(Int⊕Unit)):=
 bif (decide (s0<(a.length:Int))) then
  (Zp a s0).bind fun x1=>
  (b x1).bind fun x2=>
  bif x2 then
   some (.inr (.inl s0))
  else
   some (.inl (w64 (s0+1)))
 else
  some (.inr (.inr ()))
def Z4 (a:List Int) (b:(Int→Option Bool)):Option Int:=
 (lp (ZL a b) 0).bind fun r3=>
 match r3 with
 | (.inl r3)=>
  some r3
 | (.inr r3)=>
  some (-1)
def ZX (a:List Int) (b:(Int→Option Bool)):Option Bool:=
 (Z4 a b).bind fun x0=>
 bif (decide (0≤x0)) then
  some true
 else
  some false
def ZgL (a:Int) (b0:List Int):Option Bool:=
 bif (decide (0≤a)) then
  bif (decide (a<(b0.length:Int))) then
   some true
  else
   some false
 else
  some false
def Zb8 (a:List Zy) (b:Zy) (s0:Int):Option (Int⊕(Int⊕Unit)):=
 bif (decide (s0<(a.length:Int))) then
  (Zp a s0).bind fun x1=>
  bif ((b.src==x1.src)&&((b.dst==x1.dst)&&true)) then
   some (.inr (.inl s0))
  else
   some (.inl (w64 (s0+1)))
 else
  some (.inr (.inr ()))
def ZdL (a:List Zy) (b:Zy):Option Int:=
 (lp (Zb8 a b) 0).bind fun r2=>
 match r2 with
 | (.inl r2)=>
  some r2
 | (.inr r2)=>
  some (-1)
def Zcb (a:List Zy) (b:Zy):Option Bool:=
 (ZdL a b).bind fun x0=>
 bif (decide (0≤x0)) then
  some true
 else
  some false
def Zgp (a:Zx) (s0:(List Int)×(List Bool)) (s1:Int) (s3:Int):Option (Int⊕(Unit⊕Unit)):=
 bif (decide (s3<(a.edges.length:Int))) then
  (Zp a.edges s3).bind fun x4=>
  bif (x4.dst==s1) then
   (Zp s0.2 x4.src).bind fun x5=>
   bif x5 then
    some (.inl (w64 (s3+1)))
   else
    some (.inr (.inl ()))
  else
   some (.inl (w64 (s3+1)))
 else
  some (.inr (.inr ()))
def Ze3 (a:Zx) (s0:(List Int)×(List Bool)) (s1:Int):Option (Int⊕(((List Int)×(List Bool))⊕Unit)):=
 bif (decide (s1<(a.work.length:Int))) then
  (Zp s0.2 s1).bind fun x2=>
  bif x2 then
   some (.inl (w64 (s1+1)))
  else
   (lp (Zgp a s0 s1) 0).bind fun r6=>
   match r6 with
   | (.inl r6)=>
    some (.inl (w64 (s1+1)))
   | (.inr r6)=>
    bif (Nat.ble (List.length s0.1+1) lim) then
     some (.inr (.inl ((s0.1++[s1]),(List.set s0.2 s1.toNat true))))
    else
     none
 else
  some (.inr (.inr ()))
def Zgr (a:Zx) (s0:(List Int)×(List Bool)):Option (((List Int)×(List Bool))⊕((List Int)⊕(List Int))):=
 bif (decide ((s0.1.length:Int)<(a.work.length:Int))) then
  (lp (Ze3 a s0) 0).bind fun r7=>
  match r7 with
  | (.inl r7)=>
   some (.inl (r7.1,r7.2))
  | (.inr r7)=>
   some (.inr (.inl s0.1))
 else
  some (.inr (.inr s0.1))
def Zgc (a:Zx):Option ((List Int)×Bool):=
 bif (decide (0≤(a.work.length:Int))&&decide ((a.work.length:Int)≤lim)&&decide ((a.work.length:Int)==(a.work.length:Int))) then
  (lp (Zgr a) (([]:List Int),(List.replicate (a.work.length:Int).toNat (false:Bool)))).bind fun r8=>
  match r8 with
  | (.inl r8)=>
   some (([]:List Int),false)
  | (.inr r8)=>
   some (r8,true)
 else
  none
def Zfg (a:Zx) (s1:Int):Option (Int⊕(Unit⊕Unit)):=
 bif (decide (s1<(a.edges.length:Int))) then
  (Zp a.edges s1).bind fun x2=>
  (ZgL x2.src a.work).bind fun x3=>
  bif x3 then
   (ZgL x2.dst a.work).bind fun x4=>
   bif x4 then
    bif (x2.src==x2.dst) then
     some (.inr (.inl ()))
    else
     bif (decide (0≤s1)) then
      bif (Nat.ble s1.toNat (List.length a.edges)) then
       (Zcb (List.take s1.toNat a.edges) x2).bind fun x5=>
       bif x5 then
        some (.inr (.inl ()))
       else
        some (.inl (w64 (s1+1)))
      else
       none
     else
      none
   else
    some (.inr (.inl ()))
  else
   some (.inr (.inl ()))
 else
  some (.inr (.inr ()))
def Zfo (a:Zx):Option Int:=
 bif (decide (64<(a.work.length:Int))) then
  some 40
 else
  bif (decide (256<(a.edges.length:Int))) then
   some 40
  else
   (ZX a.work (fun z0=>ZdD z0)).bind fun x0=>
   bif x0 then
    some 41
   else
    (lp (Zfg a) 0).bind fun r6=>
    match r6 with
    | (.inl r6)=>
     some 42
    | (.inr r6)=>
     (Zgc a).bind fun x7=>
     bif x7.2 then
      some 0
     else
      some 43
def Zdi (a:Int):Option Bool:=
 bif (decide (a<1)) then
  some true
 else
  bif (decide (1000<a)) then
   some true
  else
   some false
def ZfL (a:Zx) (b:List Int) (c:Int):Option (Bool×Int):=
 (Zfo a).bind fun x0=>
 bif (x0 != 0) then
  some (false,x0)
 else
  bif ((b.length:Int)==(a.work.length:Int)) then
   (ZX b (fun z0=>Zdi z0)).bind fun x1=>
   bif x1 then
    some (false,0)
   else
    bif (decide (1≤c)) then
     bif (decide (c≤8)) then
      some (true,0)
     else
      some (false,0)
    else
     some (false,0)
  else
   some (false,0)
def ZcB (a:List Int) (b0:Int):Option Bool:=
 bif ((a.length:Int) != b0) then
  some true
 else
  some false
def ZbB (a:(List (List Int))) (b:((List Int)→Option Bool)) (s0:Int):Option (Int⊕(Int⊕Unit)):=
 bif (decide (s0<(a.length:Int))) then
  (Zp a s0).bind fun x1=>
  (b x1).bind fun x2=>
  bif x2 then
   some (.inr (.inl s0))
  else
   some (.inl (w64 (s0+1)))
 else
  some (.inr (.inr ()))
def Zb0 (a:(List (List Int))) (b:((List Int)→Option Bool)):Option Int:=
 (lp (ZbB a b) 0).bind fun r3=>
 match r3 with
 | (.inl r3)=>
  some r3
 | (.inr r3)=>
  some (-1)
def Z9 (a:(List (List Int))) (b:((List Int)→Option Bool)):Option Bool:=
 (Zb0 a b).bind fun x0=>
 bif (decide (0≤x0)) then
  some true
 else
  some false
def ZcL (a:List Int) (s0:Int×(List Int)):Option ((Int×(List Int))⊕(List Int)):=
 bif (decide (s0.1<(a.length:Int))) then
  (Zp s0.2 s0.1).bind fun x1=>
  some (.inl ((w64 (s0.1+1)),(List.set s0.2 s0.1.toNat (-1))))
 else
  some (.inr s0.2)
def ZgJ (a:List Int):Option (List Int):=
 bif (decide (0≤(a.length:Int))&&decide ((a.length:Int)≤lim)&&decide ((a.length:Int)==(a.length:Int))) then
  bif (decide (0≤(a.length:Int))&&decide ((a.length:Int)≤lim)&&decide ((a.length:Int)==(a.length:Int))) then
   bif (decide (0≤(a.length:Int))&&decide ((a.length:Int)≤lim)&&decide ((a.length:Int)==(a.length:Int))) then
    (lp (ZcL a) (0,(List.replicate (a.length:Int).toNat (0:Int)))).bind fun r2=>
    some r2
   else
    none
  else
   none
 else
  none
def Zcw (a:List Int) (b:Int) (s0:Int):Option (Int⊕(Int⊕Unit)):=
 bif (decide (s0<(a.length:Int))) then
  (Zp a s0).bind fun x1=>
  bif (b==x1) then
   some (.inr (.inl s0))
  else
   some (.inl (w64 (s0+1)))
 else
  some (.inr (.inr ()))
def ZeP (a:List Int) (b:Int):Option Int:=
 (lp (Zcw a b) 0).bind fun r2=>
 match r2 with
 | (.inl r2)=>
  some r2
 | (.inr r2)=>
  some (-1)
def Z2 (a:List Int) (b:Int):Option Bool:=
 (ZeP a b).bind fun x0=>
 bif (decide (0≤x0)) then
  some true
 else
  some false
def Zf1 (a3:List Int) (b:Int) (c:Int):Option Bool:=
 (Zp a3 b).bind fun x0=>
 bif (decide (0≤x0)) then
  bif (decide (x0≤c)) then
   some true
  else
   some false
 else
  some false
def ZcD (a:Zy) (b0:Int) (c3:List Int) (d0:Int):Option Bool:=
 bif (a.dst==b0) then
  (Zf1 c3 a.src d0).bind fun x0=>
  bif x0 then
   some false
  else
   some true
 else
  some false
def Za6 (a:List Zy) (b:(Zy→Option Bool)) (s0:Int):Option (Int⊕(Int⊕Unit)):=
 bif (decide (s0<(a.length:Int))) then
  (Zp a s0).bind fun x1=>
  (b x1).bind fun x2=>
  bif x2 then
   some (.inr (.inl s0))
  else
   some (.inl (w64 (s0+1)))
 else
  some (.inr (.inr ()))
def Zb2 (a:List Zy) (b:(Zy→Option Bool)):Option Int:=
 (lp (Za6 a b) 0).bind fun r3=>
 match r3 with
 | (.inl r3)=>
  some r3
 | (.inr r3)=>
  some (-1)
def ZaF (a:List Zy) (b:(Zy→Option Bool)):Option Bool:=
 (Zb2 a b).bind fun x0=>
 bif (decide (0≤x0)) then
  some true
 else
  some false
def Zdf (a3:List Int) (b:Zx) (c:Int) (d:Int):Option Bool:=
 (ZaF b.edges (fun z0=>ZcD z0 c a3 d)).bind fun x0=>
 bif x0 then
  some false
 else
  some true
def ZcP (a0:List Int) (a1:List Int) (a2:List Z8) (a3:List Int) (b:Zx) (c:List Int) (d:Int) (e:Int):Option Int:=
 (Zp c e).bind fun x0=>
 bif (decide (x0<(-1))) then
  some 101
 else
  bif (decide ((a0.length:Int)≤x0)) then
   some 101
  else
   bif (decide (0≤e)) then
    bif (Nat.ble e.toNat (List.length c)) then
     (Z2 (List.take e.toNat c) x0).bind fun x1=>
     bif x1 then
      some 102
     else
      (Zp a1 x0).bind fun x2=>
      (Zp a0 x0).bind fun x3=>
      bif (decide (x3≤x2)) then
       some 105
      else
       bif (decide (0<x2)) then
        (Zp a2 x0).bind fun x4=>
        bif (!((x4.a0==(w64 (d-1)))&&((x4.a1==e)&&true))) then
         some 104
        else
         bif (x2==0) then
          (Zdf a3 b x0 d).bind fun x5=>
          bif x5 then
           some 0
          else
           some 103
         else
          some 0
       else
        bif (x2==0) then
         (Zdf a3 b x0 d).bind fun x6=>
         bif x6 then
          some 0
         else
          some 103
        else
         some 0
    else
     none
   else
    none
def ZkV (b:Int) (c:List Int):Option Unit:=
 some ()
def ZdH (b:Int) (c:Int) (d:Int) (m0_0:List Int) (m1_0:List Int) (m2_0:List Z8) (m3_0:List Int):Option ((List Int)×(List Int)):=
 (Zp m1_0 b).bind fun x0=>
 (Zp m2_0 b).bind fun x1=>
 (Zp (List.set m1_0 b.toNat (w64 (x0+1))) b).bind fun x2=>
 (Zp m0_0 b).bind fun x3=>
 bif (x2==x3) then
  (Zp m3_0 b).bind fun x4=>
  some ((List.set m1_0 b.toNat (w64 (x0+1))),(List.set m3_0 b.toNat (w64 (c+1))))
 else
  some ((List.set m1_0 b.toNat (w64 (x0+1))),m3_0)
def ZfD (a:Zx) (b:List Int) (s3:Int×Int×(List Int)×(List Z8)×(List Int)) (x4:List Int) (s5:Int×Int):Option ((Int×Int)⊕(Int⊕Int)):=
 bif (decide (s5.2<(x4.length:Int))) then
  (Zp x4 s5.2).bind fun x6=>
  bif (x6==(-1)) then
   some (.inl (s5.1,(w64 (s5.2+1))))
  else
   (ZcP b s3.2.2.1 s3.2.2.2.1 s3.2.2.2.2 a x4 s3.2.1 s5.2).bind fun x7=>
   bif (x7 != 0) then
    some (.inr (.inl x7))
   else
    some (.inl (x7,(w64 (s5.2+1))))
 else
  some (.inr (.inr s5.1))
def ZfA (b:List Int) (s3:Int×Int×(List Int)×(List Z8)×(List Int)) (x4:List Int) (s10:Int×(List Int)×(List Z8)×(List Int)):Option ((Int×(List Int)×(List Z8)×(List Int))⊕((List Int)×(List Z8)×(List Int))):=
 bif (decide (s10.1<(x4.length:Int))) then
  (Zp x4 s10.1).bind fun x11=>
  bif (x11 != (-1)) then
   (ZdH x11 s3.2.1 s10.1 b s10.2.1 s10.2.2.1 s10.2.2.2).bind fun x12=>
   some (.inl ((w64 (s10.1+1)),x12.1,(List.set s10.2.2.1 x11.toNat (Z8.mk s3.2.1 s10.1)),x12.2))
  else
   some (.inl ((w64 (s10.1+1)),s10.2.1,s10.2.2.1,s10.2.2.2))
 else
  some (.inr (s10.2.1,s10.2.2.1,s10.2.2.2))
def Zeq (a:Zx) (b:List Int) (d:(List (List Int))) (s3:Int×Int×(List Int)×(List Z8)×(List Int)):Option ((Int×Int×(List Int)×(List Z8)×(List Int))⊕(Int×(List Int)×(List Z8)×(List Int))):=
 bif (decide (s3.2.1<(d.length:Int))) then
  (Zp d s3.2.1).bind fun x4=>
  (lp (ZfD a b s3 x4) (s3.1,0)).bind fun r8=>
  match r8 with
  | (.inl r8)=>
   some (.inr (r8,s3.2.2.1,s3.2.2.2.1,s3.2.2.2.2))
  | (.inr r8)=>
   (ZkV s3.2.1 x4).bind fun x9=>
   (lp (ZfA b s3 x4) (0,s3.2.2.1,s3.2.2.2.1,s3.2.2.2.2)).bind fun r13=>
   some (.inl (r8,(w64 (s3.2.1+1)),r13.1,r13.2.1,r13.2.2))
 else
  some (.inr (s3.1,s3.2.2.1,s3.2.2.2.1,s3.2.2.2.2))
def Zgy (a:Zx) (b:List Int) (c:Int) (d:(List (List Int))):Option (Int⊕(Int×(List Int)×(List Z8)×(List Int))):=
 (ZfL a b c).bind fun x0=>
 bif x0.1 then
  bif (x0.2 != 0) then
   some (.inl x0.2)
  else
   bif (decide (4096<(d.length:Int))) then
    some (.inl 100)
   else
    (Z9 d (fun z0=>ZcB z0 c)).bind fun x1=>
    bif x1 then
     some (.inl 100)
    else
     (ZgJ b).bind fun x2=>
     (lp (Zeq a b d) (x0.2,0,(List.replicate (b.length:Int).toNat (0:Int)),(List.replicate (b.length:Int).toNat ((Z8.mk 0 0):Z8)),x2)).bind fun r14=>
     some (.inr (r14.1,r14.2.1,r14.2.2.1,r14.2.2.2))
 else
  bif (x0.2 != 0) then
   some (.inl x0.2)
  else
   some (.inl 100)
def ZeQ (a:Zx) (b:List Int) (c:Int) (d:(List (List Int))):Option Int:=
 (Zgy a b c d).bind fun x0=>
 match x0 with
 | (.inl x0)=>
  some x0
 | (.inr x0)=>
  some x0.1
def ZaE (a:List Int):Option Unit:=
 bif (Nat.ble (List.length a) lim) then
  some ()
 else
  none
def ZfI (c:Int) (s2:Int×(List Int)):Option ((Int×(List Int))⊕(List Int)):=
 bif (decide (s2.1<c)) then
  bif (Nat.ble (List.length s2.2+1) lim) then
   some (.inl ((w64 (s2.1+1)),(s2.2++[(-1)])))
  else
   none
 else
  some (.inr s2.2)
def Zk9 (a:Zx) (b:List Int) (c:Int):Option (Int⊕(List Int)):=
 (ZeQ a b c ([]:List (List Int))).bind fun x0=>
 bif (x0 != 0) then
  some (.inl x0)
 else
  (ZaE b).bind fun x1=>
  (lp (ZfI c) (0,([]:List Int))).bind fun r3=>
  some (.inr r3)
def Zh9 (a:Int):Option Int:=
 bif (decide (a<0)) then
  some 10
 else
  bif (decide (1099511627775<a)) then
   some 11
  else
   some 0
def Zdg (a:Int):Option Int:=
 some (i64.wrap (ZBT (w64 (u64.wrap ((u64.wrap ((u64.wrap ((u64.wrap (Ze (u64.wrap ((Int.fdiv (u64.wrap ((u64.wrap (Ze (Int.fdiv (u64.wrap ((u64.wrap (Ze (Int.fdiv a (2 ^ 1)) &&& Ze 6148914691236517205).toNat)+(u64.wrap (Ze a &&& Ze 6148914691236517205).toNat))) (2 ^ 2)) &&& Ze 3689348814741910323).toNat)+(u64.wrap (Ze (u64.wrap ((u64.wrap (Ze (Int.fdiv a (2 ^ 1)) &&& Ze 6148914691236517205).toNat)+(u64.wrap (Ze a &&& Ze 6148914691236517205).toNat))) &&& Ze 3689348814741910323).toNat))) (2 ^ 4))+(u64.wrap ((u64.wrap (Ze (Int.fdiv (u64.wrap ((u64.wrap (Ze (Int.fdiv a (2 ^ 1)) &&& Ze 6148914691236517205).toNat)+(u64.wrap (Ze a &&& Ze 6148914691236517205).toNat))) (2 ^ 2)) &&& Ze 3689348814741910323).toNat)+(u64.wrap (Ze (u64.wrap ((u64.wrap (Ze (Int.fdiv a (2 ^ 1)) &&& Ze 6148914691236517205).toNat)+(u64.wrap (Ze a &&& Ze 6148914691236517205).toNat))) &&& Ze 3689348814741910323).toNat))))) &&& Ze 1085102592571150095).toNat)+(Int.fdiv (u64.wrap (Ze (u64.wrap ((Int.fdiv (u64.wrap ((u64.wrap (Ze (Int.fdiv (u64.wrap ((u64.wrap (Ze (Int.fdiv a (2 ^ 1)) &&& Ze 6148914691236517205).toNat)+(u64.wrap (Ze a &&& Ze 6148914691236517205).toNat))) (2 ^ 2)) &&& Ze 3689348814741910323).toNat)+(u64.wrap (Ze (u64.wrap ((u64.wrap (Ze (Int.fdiv a (2 ^ 1)) &&& Ze 6148914691236517205).toNat)+(u64.wrap (Ze a &&& Ze 6148914691236517205).toNat))) &&& Ze 3689348814741910323).toNat))) (2 ^ 4))+(u64.wrap ((u64.wrap (Ze (Int.fdiv (u64.wrap ((u64.wrap (Ze (Int.fdiv a (2 ^ 1)) &&& Ze 6148914691236517205).toNat)+(u64.wrap (Ze a &&& Ze 6148914691236517205).toNat))) (2 ^ 2)) &&& Ze 3689348814741910323).toNat)+(u64.wrap (Ze (u64.wrap ((u64.wrap (Ze (Int.fdiv a (2 ^ 1)) &&& Ze 6148914691236517205).toNat)+(u64.wrap (Ze a &&& Ze 6148914691236517205).toNat))) &&& Ze 3689348814741910323).toNat))))) &&& Ze 1085102592571150095).toNat) (2 ^ 8))))+(Int.fdiv (u64.wrap ((u64.wrap (Ze (u64.wrap ((Int.fdiv (u64.wrap ((u64.wrap (Ze (Int.fdiv (u64.wrap ((u64.wrap (Ze (Int.fdiv a (2 ^ 1)) &&& Ze 6148914691236517205).toNat)+(u64.wrap (Ze a &&& Ze 6148914691236517205).toNat))) (2 ^ 2)) &&& Ze 3689348814741910323).toNat)+(u64.wrap (Ze (u64.wrap ((u64.wrap (Ze (Int.fdiv a (2 ^ 1)) &&& Ze 6148914691236517205).toNat)+(u64.wrap (Ze a &&& Ze 6148914691236517205).toNat))) &&& Ze 3689348814741910323).toNat))) (2 ^ 4))+(u64.wrap ((u64.wrap (Ze (Int.fdiv (u64.wrap ((u64.wrap (Ze (Int.fdiv a (2 ^ 1)) &&& Ze 6148914691236517205).toNat)+(u64.wrap (Ze a &&& Ze 6148914691236517205).toNat))) (2 ^ 2)) &&& Ze 3689348814741910323).toNat)+(u64.wrap (Ze (u64.wrap ((u64.wrap (Ze (Int.fdiv a (2 ^ 1)) &&& Ze 6148914691236517205).toNat)+(u64.wrap (Ze a &&& Ze 6148914691236517205).toNat))) &&& Ze 3689348814741910323).toNat))))) &&& Ze 1085102592571150095).toNat)+(Int.fdiv (u64.wrap (Ze (u64.wrap ((Int.fdiv (u64.wrap ((u64.wrap (Ze (Int.fdiv (u64.wrap ((u64.wrap (Ze (Int.fdiv a (2 ^ 1)) &&& Ze 6148914691236517205).toNat)+(u64.wrap (Ze a &&& Ze 6148914691236517205).toNat))) (2 ^ 2)) &&& Ze 3689348814741910323).toNat)+(u64.wrap (Ze (u64.wrap ((u64.wrap (Ze (Int.fdiv a (2 ^ 1)) &&& Ze 6148914691236517205).toNat)+(u64.wrap (Ze a &&& Ze 6148914691236517205).toNat))) &&& Ze 3689348814741910323).toNat))) (2 ^ 4))+(u64.wrap ((u64.wrap (Ze (Int.fdiv (u64.wrap ((u64.wrap (Ze (Int.fdiv a (2 ^ 1)) &&& Ze 6148914691236517205).toNat)+(u64.wrap (Ze a &&& Ze 6148914691236517205).toNat))) (2 ^ 2)) &&& Ze 3689348814741910323).toNat)+(u64.wrap (Ze (u64.wrap ((u64.wrap (Ze (Int.fdiv a (2 ^ 1)) &&& Ze 6148914691236517205).toNat)+(u64.wrap (Ze a &&& Ze 6148914691236517205).toNat))) &&& Ze 3689348814741910323).toNat))))) &&& Ze 1085102592571150095).toNat) (2 ^ 8)))) (2 ^ 16))))+(Int.fdiv (u64.wrap ((u64.wrap ((u64.wrap (Ze (u64.wrap ((Int.fdiv (u64.wrap ((u64.wrap (Ze (Int.fdiv (u64.wrap ((u64.wrap (Ze (Int.fdiv a (2 ^ 1)) &&& Ze 6148914691236517205).toNat)+(u64.wrap (Ze a &&& Ze 6148914691236517205).toNat))) (2 ^ 2)) &&& Ze 3689348814741910323).toNat)+(u64.wrap (Ze (u64.wrap ((u64.wrap (Ze (Int.fdiv a (2 ^ 1)) &&& Ze 6148914691236517205).toNat)+(u64.wrap (Ze a &&& Ze 6148914691236517205).toNat))) &&& Ze 3689348814741910323).toNat))) (2 ^ 4))+(u64.wrap ((u64.wrap (Ze (Int.fdiv (u64.wrap ((u64.wrap (Ze (Int.fdiv a (2 ^ 1)) &&& Ze 6148914691236517205).toNat)+(u64.wrap (Ze a &&& Ze 6148914691236517205).toNat))) (2 ^ 2)) &&& Ze 3689348814741910323).toNat)+(u64.wrap (Ze (u64.wrap ((u64.wrap (Ze (Int.fdiv a (2 ^ 1)) &&& Ze 6148914691236517205).toNat)+(u64.wrap (Ze a &&& Ze 6148914691236517205).toNat))) &&& Ze 3689348814741910323).toNat))))) &&& Ze 1085102592571150095).toNat)+(Int.fdiv (u64.wrap (Ze (u64.wrap ((Int.fdiv (u64.wrap ((u64.wrap (Ze (Int.fdiv (u64.wrap ((u64.wrap (Ze (Int.fdiv a (2 ^ 1)) &&& Ze 6148914691236517205).toNat)+(u64.wrap (Ze a &&& Ze 6148914691236517205).toNat))) (2 ^ 2)) &&& Ze 3689348814741910323).toNat)+(u64.wrap (Ze (u64.wrap ((u64.wrap (Ze (Int.fdiv a (2 ^ 1)) &&& Ze 6148914691236517205).toNat)+(u64.wrap (Ze a &&& Ze 6148914691236517205).toNat))) &&& Ze 3689348814741910323).toNat))) (2 ^ 4))+(u64.wrap ((u64.wrap (Ze (Int.fdiv (u64.wrap ((u64.wrap (Ze (Int.fdiv a (2 ^ 1)) &&& Ze 6148914691236517205).toNat)+(u64.wrap (Ze a &&& Ze 6148914691236517205).toNat))) (2 ^ 2)) &&& Ze 3689348814741910323).toNat)+(u64.wrap (Ze (u64.wrap ((u64.wrap (Ze (Int.fdiv a (2 ^ 1)) &&& Ze 6148914691236517205).toNat)+(u64.wrap (Ze a &&& Ze 6148914691236517205).toNat))) &&& Ze 3689348814741910323).toNat))))) &&& Ze 1085102592571150095).toNat) (2 ^ 8))))+(Int.fdiv (u64.wrap ((u64.wrap (Ze (u64.wrap ((Int.fdiv (u64.wrap ((u64.wrap (Ze (Int.fdiv (u64.wrap ((u64.wrap (Ze (Int.fdiv a (2 ^ 1)) &&& Ze 6148914691236517205).toNat)+(u64.wrap (Ze a &&& Ze 6148914691236517205).toNat))) (2 ^ 2)) &&& Ze 3689348814741910323).toNat)+(u64.wrap (Ze (u64.wrap ((u64.wrap (Ze (Int.fdiv a (2 ^ 1)) &&& Ze 6148914691236517205).toNat)+(u64.wrap (Ze a &&& Ze 6148914691236517205).toNat))) &&& Ze 3689348814741910323).toNat))) (2 ^ 4))+(u64.wrap ((u64.wrap (Ze (Int.fdiv (u64.wrap ((u64.wrap (Ze (Int.fdiv a (2 ^ 1)) &&& Ze 6148914691236517205).toNat)+(u64.wrap (Ze a &&& Ze 6148914691236517205).toNat))) (2 ^ 2)) &&& Ze 3689348814741910323).toNat)+(u64.wrap (Ze (u64.wrap ((u64.wrap (Ze (Int.fdiv a (2 ^ 1)) &&& Ze 6148914691236517205).toNat)+(u64.wrap (Ze a &&& Ze 6148914691236517205).toNat))) &&& Ze 3689348814741910323).toNat))))) &&& Ze 1085102592571150095).toNat)+(Int.fdiv (u64.wrap (Ze (u64.wrap ((Int.fdiv (u64.wrap ((u64.wrap (Ze (Int.fdiv (u64.wrap ((u64.wrap (Ze (Int.fdiv a (2 ^ 1)) &&& Ze 6148914691236517205).toNat)+(u64.wrap (Ze a &&& Ze 6148914691236517205).toNat))) (2 ^ 2)) &&& Ze 3689348814741910323).toNat)+(u64.wrap (Ze (u64.wrap ((u64.wrap (Ze (Int.fdiv a (2 ^ 1)) &&& Ze 6148914691236517205).toNat)+(u64.wrap (Ze a &&& Ze 6148914691236517205).toNat))) &&& Ze 3689348814741910323).toNat))) (2 ^ 4))+(u64.wrap ((u64.wrap (Ze (Int.fdiv (u64.wrap ((u64.wrap (Ze (Int.fdiv a (2 ^ 1)) &&& Ze 6148914691236517205).toNat)+(u64.wrap (Ze a &&& Ze 6148914691236517205).toNat))) (2 ^ 2)) &&& Ze 3689348814741910323).toNat)+(u64.wrap (Ze (u64.wrap ((u64.wrap (Ze (Int.fdiv a (2 ^ 1)) &&& Ze 6148914691236517205).toNat)+(u64.wrap (Ze a &&& Ze 6148914691236517205).toNat))) &&& Ze 3689348814741910323).toNat))))) &&& Ze 1085102592571150095).toNat) (2 ^ 8)))) (2 ^ 16)))) (2 ^ 32))))) &&& ZBT 127).toNat)
def Zd3 (a:Int):Option Int:=
 (Zdg a).bind fun x0=>
 some x0
def Ztg:List Int:=[0,1,56,2,57,49,28,3,61,58,42,50,38,29,17,4,62,47,59,36,45,43,51,22,53,39,33,30,24,18,12,5,63,55,48,27,60,41,37,16,46,35,44,21,52,32,23,11,54,26,40,15,34,20,31,10,25,14,19,9,13,8,7,6]
def Zdw (a:Int):Option Int:=some (bif a==0 then 64 else w64 (Ztg.getD (Int.fdiv (u64.wrap ((u64.wrap (Ze a &&& Ze (u64.wrap (0-a))).toNat)*285870213051353865)) (2 ^ (min (Int.toNat 58) u64.bits))).toNat 0))
def Zeo (a:Int):Option Int:=
 (Zdw a).bind fun x0=>
 some x0
def ZiT (a:Int):Option (Int×Bool):=
 (Zh9 a).bind fun x0=>
 bif (x0 != 0) then
  some (0,false)
 else
  (Zd3 (u64.wrap a)).bind fun x1=>
  bif (x1 != 1) then
   some (0,false)
  else
   (Zeo (u64.wrap a)).bind fun x2=>
   some (x2,true)
def ZjF (a:Int):Option (Zk×Int):=
 (ZiT a).bind fun x0=>
 bif x0.2 then
  bif (decide (64<a)) then
   some ((Zk.mk ([]:List Int) 0 0),120)
  else
   bif (decide (0≤a)&&decide (a≤lim)&&decide (a==a)) then
    some ((Zk.mk (List.replicate a.toNat (0:Int)) 0 0),0)
   else
    none
 else
  some ((Zk.mk ([]:List Int) 0 0),120)
def ZdM (a:Int):Option Bool:=
 bif (decide (a<0)) then
  some true
 else
  bif (decide (1000<a)) then
   some true
  else
   some false
def Zfk (a:ZbM) (b:Int):Option Bool:=
 (Zp a.left b).bind fun x0=>
 bif (x0==0) then
  some true
 else
  some false
def ZfK (a:Zy) (b0:Int) (c0:List Int) (c1:List Int):Option Bool:=
 bif (a.dst==b0) then
  (Zfk (ZbM.mk c0 c1) a.src).bind fun x0=>
  bif x0 then
   some false
  else
   some true
 else
  some false
def Zha (a:Zx) (b:ZbM) (c:Int):Option Bool:=
 (ZaF a.edges (fun z0=>ZfK z0 c b.on b.left)).bind fun x0=>
 bif x0 then
  some false
 else
  some true
def ZfC (a:Zx) (b:ZbM) (s1:Int):Option (Int⊕(Unit⊕Unit)):=
 bif (decide (s1<(b.on.length:Int))) then
  (Zp b.on s1).bind fun x2=>
  bif (x2==(-1)) then
   some (.inl (w64 (s1+1)))
  else
   bif (decide (x2<0)) then
    some (.inr (.inl ()))
   else
    bif (decide ((b.left.length:Int)≤x2)) then
     some (.inr (.inl ()))
    else
     (Zfk b x2).bind fun x3=>
     bif x3 then
      some (.inr (.inl ()))
     else
      bif (decide (0≤s1)) then
       bif (Nat.ble s1.toNat (List.length b.on)) then
        (Z2 (List.take s1.toNat b.on) x2).bind fun x4=>
        bif x4 then
         some (.inr (.inl ()))
        else
         (Zha a b x2).bind fun x5=>
         bif x5 then
          some (.inl (w64 (s1+1)))
         else
          some (.inr (.inl ()))
       else
        none
      else
       none
 else
  some (.inr (.inr ()))
def ZfE (a:Zx) (b:ZbM) (s7:Int):Option (Int⊕(Unit⊕Unit)):=
 bif (decide (s7<(b.left.length:Int))) then
  (Zfk b s7).bind fun x8=>
  bif x8 then
   (Zha a b s7).bind fun x9=>
   bif x9 then
    some (.inl (w64 (s7+1)))
   else
    some (.inr (.inl ()))
  else
   some (.inl (w64 (s7+1)))
 else
  some (.inr (.inr ()))
def ZiL (a:Zx) (b:ZbM):Option Bool:=
 bif (decide ((b.on.length:Int)<1)) then
  some false
 else
  bif (decide (8<(b.on.length:Int))) then
   some false
  else
   bif ((b.left.length:Int) != (a.work.length:Int)) then
    some false
   else
    (ZX b.left (fun z0=>ZdM z0)).bind fun x0=>
    bif x0 then
     some false
    else
     (lp (ZfC a b) 0).bind fun r6=>
     match r6 with
     | (.inl r6)=>
      some false
     | (.inr r6)=>
      (lp (ZfE a b) 0).bind fun r10=>
      match r10 with
      | (.inl r10)=>
       some false
      | (.inr r10)=>
       some true
def Zhy (a:Zx) (b:ZbM):Option Int:=
 (Zfo a).bind fun x0=>
 bif (x0==0) then
  (ZiL a b).bind fun x1=>
  bif x1 then
   some x0
  else
   some 110
 else
  some x0
def Zfz (a:Zx) (b:ZbM) (s0:Int×(List Int)):Option ((Int×(List Int))⊕(List Int)):=
 bif (decide (s0.1<(b.left.length:Int))) then
  (Zfk b s0.1).bind fun x1=>
  bif x1 then
   some (.inl ((w64 (s0.1+1)),s0.2))
  else
   (Z2 b.on s0.1).bind fun x2=>
   bif x2 then
    some (.inl ((w64 (s0.1+1)),s0.2))
   else
    (Zha a b s0.1).bind fun x3=>
    bif x3 then
     bif (Nat.ble (List.length s0.2+1) lim) then
      some (.inl ((w64 (s0.1+1)),(s0.2++[s0.1])))
     else
      none
    else
     some (.inl ((w64 (s0.1+1)),s0.2))
 else
  some (.inr s0.2)
def ZkS (a:Zx) (b:ZbM):Option (List Int):=
 (lp (Zfz a b) (0,([]:List Int))).bind fun r4=>
 some r4
def Zfx (a:Zx) (b:ZbM):Option (List Int):=
 (Zhy a b).bind fun x0=>
 bif (x0 != 0) then
  some ([]:List Int)
 else
  (ZkS a b).bind fun x1=>
  some x1
def ZeK (a:Zk):Option Int:=
 (ZiT (a.ring.length:Int)).bind fun x0=>
 bif x0.2 then
  bif (decide (64<(a.ring.length:Int))) then
   some 120
  else
   (Zh9 a.top).bind fun x1=>
   bif (x1 != 0) then
    some 120
   else
    bif (decide (a.bottom<(w64 (a.top-1)))) then
     some 120
    else
     bif (decide ((w64 (a.top+(a.ring.length:Int)))<a.bottom)) then
      some 120
     else
      some 0
 else
  some 120
def Zib (a:Zk):Option Unit:=
 (ZaE a.ring).bind fun x0=>
 some ()
def ZeI (a:Zk) (b:Int):Option Int:=
 bif ((a.ring.length:Int)==0) then
  none
 else
  some (Int.tmod (bif decide (b<0) then 0 else b) (a.ring.length:Int))
def ZkR (a:Zk) (b:Int):Option (Zk×Int):=
 (ZeK a).bind fun x0=>
 bif (x0 != 0) then
  some ((Zk.mk ([]:List Int) 0 0),x0)
 else
  bif (decide (a.bottom<a.top)) then
   some ((Zk.mk ([]:List Int) 0 0),121)
  else
   bif ((w64 (a.bottom-a.top))==(a.ring.length:Int)) then
    some ((Zk.mk ([]:List Int) 0 0),121)
   else
    (Zib a).bind fun x1=>
    (ZeI a a.bottom).bind fun x2=>
    (Zp a.ring x2).bind fun x3=>
    some ((Zk.mk (List.set a.ring x2.toNat b) a.top (w64 (a.bottom+1))),0)
def ZeC (b:Int) (c:Int) (m3_0:List Zk):Option ((List Zk)⊕(List Zk)):=
 (Zp m3_0 b).bind fun x0=>
 (ZkR x0 c).bind fun x1=>
 bif (x1.2==0) then
  bif (x1.2==0) then
   some (.inl (List.set m3_0 b.toNat x1.1))
  else
   some (.inr (List.set m3_0 b.toNat x1.1))
 else
  bif (x1.2==0) then
   some (.inl m3_0)
  else
   some (.inr m3_0)
def Zfc (c:Int) (s1:Int×(List Zk)):Option ((Int×(List Zk))⊕(List Zk)):=
 bif (decide (s1.1<c)) then
  (ZjF 64).bind fun x2=>
  bif (Nat.ble (List.length s1.2+1) lim) then
   some (.inl ((w64 (s1.1+1)),(s1.2++[x2.1])))
  else
   none
 else
  some (.inr s1.2)
def Ze8 (c:Int) (x4:List Int) (s5:Int×(List Zk)):Option ((Int×(List Zk))⊕(List Zk)):=
 bif (decide (s5.1<(x4.length:Int))) then
  (Zp x4 s5.1).bind fun x6=>
  bif (c==0) then
   none
  else
   (ZeC (Int.tmod x6 c) x6 s5.2).bind fun x7=>
   match x7 with
   | (.inl x7)=>
    some (.inl ((w64 (s5.1+1)),x7))
   | (.inr x7)=>
    some (.inl ((w64 (s5.1+1)),x7))
 else
  some (.inr s5.2)
def Zhc (a:Zx) (b:List Int) (c:Int):Option (Int⊕((List Int)×(List Zk))):=
 (Zk9 a b c).bind fun x0=>
 match x0 with
 | (.inl x0)=>
  bif (x0 != 0) then
   some (.inl x0)
  else
   none
 | (.inr x0)=>
  bif (decide (0≤c)&&decide (c≤lim)&&decide (c==c)) then
   bif (decide (0≤c)&&decide (c≤lim)&&decide (c==c)) then
    (lp (Zfc c) (0,([]:List Zk))).bind fun r3=>
    (Zfx a (ZbM.mk x0 b)).bind fun x4=>
    (lp (Ze8 c x4) (0,r3)).bind fun r8=>
    some (.inr (x0,r8))
   else
    none
  else
   none
def ZbV (a:Zk):Option Bool:=
 bif (decide (a.top<a.bottom)) then
  some true
 else
  some false
def Zbu (a:List Zk) (b:(Zk→Option Bool)) (s0:Int):Option (Int⊕(Int⊕Unit)):=
 bif (decide (s0<(a.length:Int))) then
  (Zp a s0).bind fun x1=>
  (b x1).bind fun x2=>
  bif x2 then
   some (.inr (.inl s0))
  else
   some (.inl (w64 (s0+1)))
 else
  some (.inr (.inr ()))
def Zcz (a:List Zk) (b:(Zk→Option Bool)):Option Int:=
 (lp (Zbu a b) 0).bind fun r3=>
 match r3 with
 | (.inl r3)=>
  some r3
 | (.inr r3)=>
  some (-1)
def Zbq (a:List Zk) (b:(Zk→Option Bool)):Option Bool:=
 (Zcz a b).bind fun x0=>
 bif (decide (0≤x0)) then
  some true
 else
  some false
def ZcI (a0:List Int) (s1:Int×(List Int)):Option ((Int×(List Int))⊕(List Int)):=
 bif (decide (s1.1<(a0.length:Int))) then
  (Zp a0 s1.1).bind fun x2=>
  bif (x2==(-1)) then
   bif (Nat.ble (List.length s1.2+1) lim) then
    some (.inl ((w64 (s1.1+1)),(s1.2++[s1.1])))
   else
    none
  else
   some (.inl ((w64 (s1.1+1)),s1.2))
 else
  some (.inr s1.2)
def Zcv (a0:List Int) (a3:List Zu) (s4:Int×(List Int)):Option ((Int×(List Int))⊕(List Int)):=
 bif (decide (s4.1<(a0.length:Int))) then
  (Zp a0 s4.1).bind fun x5=>
  bif (x5==(-1)) then
   (Zp a3 s4.1).bind fun x6=>
   bif (x6.at_ != 0) then
    bif (Nat.ble (List.length s4.2+1) lim) then
     some (.inl ((w64 (s4.1+1)),(s4.2++[s4.1])))
    else
     none
   else
    some (.inl ((w64 (s4.1+1)),s4.2))
  else
   some (.inl ((w64 (s4.1+1)),s4.2))
 else
  some (.inr s4.2)
def ZdN (a0:List Int) (a2:List Zk) (a3:List Zu):Option (List Int):=
 (Zbq a2 (fun z0=>ZbV z0)).bind fun x0=>
 bif x0 then
  (lp (ZcI a0) (0,([]:List Int))).bind fun r3=>
  some r3
 else
  (lp (Zcv a0 a3) (0,([]:List Int))).bind fun r7=>
  some r7
def Zb7 (a:Int) (b7:Int):Option Bool:=
 bif (decide (b7<a)) then
  some true
 else
  some false
def ZeD (a7:Int) (b:List Int) (c:List Int) (d:Int):Option Int:=
 bif (decide (d<(c.length:Int))) then
  (Zp c d).bind fun x0=>
  bif ((b.length:Int)==0) then
   none
  else
   (Zp b (Int.tmod (bif decide (x0<0) then 0 else x0) (b.length:Int))).bind fun x1=>
   some x1
 else
  (Z4 b (fun z0=>Zb7 z0 a7)).bind fun x2=>
  (Zp b (bif decide (x2<0) then 0 else x2)).bind fun x3=>
  some x3
def ZdV (a:Int):Option Bool:=
 bif (decide (a<(-1))) then
  some true
 else
  bif (decide (1099511627775<a)) then
   some true
  else
   some false
def ZiH (a:Zu):Option Bool:=
 bif a.steal then
  bif (a.end_==0) then
   bif (decide (0≤a.at_)) then
    bif (decide (a.at_≤3)) then
     bif (a.at_==0) then
      some true
     else
      (ZdV a.top).bind fun x0=>
      bif x0 then
       some false
      else
       (ZdV a.bottom).bind fun x1=>
       bif x1 then
        some false
       else
        some true
    else
     some false
   else
    some false
  else
   some false
 else
  bif (a.end_==0) then
   bif (decide (0≤a.at_)) then
    bif (decide (a.at_≤4)) then
     bif (a.at_==0) then
      some true
     else
      (ZdV a.top).bind fun x2=>
      bif x2 then
       some false
      else
       (ZdV a.bottom).bind fun x3=>
       bif x3 then
        some false
       else
        some true
    else
     some false
   else
    some false
  else
   some false
def Zfv (m0_0:Int) (m1_2:Int):Option (Unit⊕Unit):=
 bif (m0_0 != m1_2) then
  some (.inl ())
 else
  some (.inr ())
def ZcX (m0_0:Int) (m0_1:Int) (m1_1:Int) (m1_2:Int) (m1_3:Int) (m1_4:Int) (m1_5:Int) (m2_0:List Int):Option (Int×Int×Int×Int×Int×Int):=
 bif (m1_1==0) then
  some (m0_0,1,m0_0,m1_3,m1_4,m1_5)
 else
  bif (m1_1==1) then
   bif (decide (m0_1≤m1_2)) then
    some (m0_0,1,m1_2,m0_1,m1_4,2)
   else
    some (m0_0,2,m1_2,m0_1,m1_4,m1_5)
  else
   bif (m1_1==2) then
    (ZeI (Zk.mk m2_0 m0_0 m0_1) m1_2).bind fun x0=>
    (Zp m2_0 x0).bind fun x1=>
    some (m0_0,3,m1_2,m1_3,x1,m1_5)
   else
    (Zfv m0_0 m1_2).bind fun x2=>
    match x2 with
    | (.inl x2)=>
     some (m0_0,m1_1,m1_2,m1_3,0,3)
    | (.inr x2)=>
     some ((w64 (m0_0+1)),m1_1,m1_2,m1_3,m1_4,1)
def Zc4 (m0_0:Int) (m0_1:Int) (m1_1:Int) (m1_2:Int) (m1_3:Int) (m1_4:Int) (m1_5:Int) (m2_0:List Int):Option (Int×Int×Int×Int×Int×Int×Int):=
 bif (m1_1==0) then
  some (m0_0,(w64 (m0_1-1)),1,m1_2,(w64 (m0_1-1)),m1_4,m1_5)
 else
  bif (m1_1==1) then
   bif (decide (m0_0<m1_3)) then
    (ZeI (Zk.mk m2_0 m0_0 m0_1) m1_3).bind fun x0=>
    (Zp m2_0 x0).bind fun x1=>
    some (m0_0,m0_1,m1_1,m0_0,m1_3,x1,1)
   else
    bif (m0_0==m1_3) then
     some (m0_0,m0_1,2,m0_0,m1_3,m1_4,m1_5)
    else
     some (m0_0,m0_1,3,m0_0,m1_3,m1_4,m1_5)
  else
   bif (m1_1==2) then
    (Zfv m0_0 m1_2).bind fun x2=>
    match x2 with
    | (.inl x2)=>
     some (m0_0,m0_1,3,m1_2,m1_3,m1_4,m1_5)
    | (.inr x2)=>
     (ZeI (Zk.mk m2_0 (w64 (m0_0+1)) m0_1) m1_3).bind fun x3=>
     (Zp m2_0 x3).bind fun x4=>
     some ((w64 (m0_0+1)),m0_1,4,m1_2,m1_3,x4,m1_5)
   else
    bif (m1_1==4) then
     some (m0_0,(w64 (m1_3+1)),m1_1,m1_2,m1_3,m1_4,1)
    else
     some (m0_0,(w64 (m1_3+1)),m1_1,m1_2,m1_3,m1_4,2)
def Zcl (a:Zk) (b:Zu):Option (Zk×Zu×Int):=
 (ZeK a).bind fun x0=>
 bif (x0 != 0) then
  some ((Zk.mk ([]:List Int) 0 0),(Zu.mk false 0 0 0 0 0),x0)
 else
  (ZiH b).bind fun x1=>
  bif x1 then
   (Zib a).bind fun x2=>
   bif b.steal then
    (ZcX a.top a.bottom b.at_ b.top b.bottom b.got b.end_ a.ring).bind fun x3=>
    (ZeK (Zk.mk a.ring x3.1 a.bottom)).bind fun x4=>
    bif (x4 != 0) then
     some ((Zk.mk ([]:List Int) 0 0),(Zu.mk false 0 0 0 0 0),x4)
    else
     some ((Zk.mk a.ring x3.1 a.bottom),(Zu.mk b.steal x3.2.1 x3.2.2.1 x3.2.2.2.1 x3.2.2.2.2.1 x3.2.2.2.2.2),0)
   else
    (Zc4 a.top a.bottom b.at_ b.top b.bottom b.got b.end_ a.ring).bind fun x5=>
    (ZeK (Zk.mk a.ring x5.1 x5.2.1)).bind fun x6=>
    bif (x6 != 0) then
     some ((Zk.mk ([]:List Int) 0 0),(Zu.mk false 0 0 0 0 0),x6)
    else
     some ((Zk.mk a.ring x5.1 x5.2.1),(Zu.mk b.steal x5.2.2.1 x5.2.2.2.1 x5.2.2.2.2.1 x5.2.2.2.2.2.1 x5.2.2.2.2.2.2),0)
  else
   some ((Zk.mk ([]:List Int) 0 0),(Zu.mk false 0 0 0 0 0),122)
def ZcQ (b:Int) (c:Int) (m4_0:List Zu) (m5_0:List Int):Option (List Zu):=
 (Zp m5_0 b).bind fun x0=>
 bif (c != 0) then
  (Zp m4_0 b).bind fun x1=>
  some (List.set m4_0 b.toNat (Zu.mk true 0 0 0 0 0))
 else
  (Zp m4_0 b).bind fun x2=>
  some (List.set m4_0 b.toNat (Zu.mk false 0 0 0 0 0))
def ZbD (b:Int) (m0_0:List Int) (m0_1:List Zy) (m1_0:List Int) (m2_0:List Int) (m3_0:List Zk) (m4_0:List Zu) (m5_0:List Int):Option (Int×(List Int)×(List Zk)×(List Zu)×(List Int)):=
 (Zp m5_0 b).bind fun x0=>
 bif ((m1_0.length:Int)==0) then
  none
 else
  (Zp m3_0 (Int.tmod (w64 (b+x0)) (m1_0.length:Int))).bind fun x1=>
  (Zp m4_0 b).bind fun x2=>
  (Zcl x1 x2).bind fun x3=>
  bif (x3.2.2 != 0) then
   some (130,m1_0,m3_0,m4_0,m5_0)
  else
   bif (x3.2.1.end_==1) then
    (Zfx (Zx.mk m0_0 m0_1) (ZbM.mk m1_0 m2_0)).bind fun x4=>
    (Z2 x4 x3.2.1.got).bind fun x5=>
    bif x5 then
     (Zp m1_0 b).bind fun x6=>
     (ZcQ b 0 (List.set m4_0 b.toNat x3.2.1) m5_0).bind fun x7=>
     some (0,(List.set m1_0 b.toNat x3.2.1.got),(List.set m3_0 (Int.tmod (w64 (b+x0)) (m1_0.length:Int)).toNat x3.1),x7,(List.set m5_0 b.toNat 0))
    else
     some (130,m1_0,(List.set m3_0 (Int.tmod (w64 (b+x0)) (m1_0.length:Int)).toNat x3.1),(List.set m4_0 b.toNat x3.2.1),m5_0)
   else
    bif (x3.2.1.end_==2) then
     bif ((m1_0.length:Int)==0) then
      none
     else
      (ZcQ b (Int.tmod (w64 (x0+1)) (m1_0.length:Int)) (List.set m4_0 b.toNat x3.2.1) m5_0).bind fun x8=>
      some (0,m1_0,(List.set m3_0 (Int.tmod (w64 (b+x0)) (m1_0.length:Int)).toNat x3.1),x8,(List.set m5_0 b.toNat (Int.tmod (w64 (x0+1)) (m1_0.length:Int))))
    else
     bif (x3.2.1.end_==3) then
      bif ((m1_0.length:Int)==0) then
       none
      else
       (ZcQ b (Int.tmod (w64 (x0+1)) (m1_0.length:Int)) (List.set m4_0 b.toNat x3.2.1) m5_0).bind fun x9=>
       some (0,m1_0,(List.set m3_0 (Int.tmod (w64 (b+x0)) (m1_0.length:Int)).toNat x3.1),x9,(List.set m5_0 b.toNat (Int.tmod (w64 (x0+1)) (m1_0.length:Int))))
     else
      some (0,m1_0,(List.set m3_0 (Int.tmod (w64 (b+x0)) (m1_0.length:Int)).toNat x3.1),(List.set m4_0 b.toNat x3.2.1),m5_0)
def Zc1 (b:List Int) (m0_0:List Int) (m0_1:List Zy) (m2_0:List Int) (s1:Int×(List Int)×Int×(List Int)×(List Zk)×(List Zu)×(List Int)):Option ((Int×(List Int)×Int×(List Int)×(List Zk)×(List Zu)×(List Int))⊕((Int×Int×Int×(List Int)×(List Zk)×(List Zu)×(List Int))⊕(Int×Int×(List Int)×(List Zk)×(List Zu)×(List Int)))):=
 bif (decide (0<(s1.2.1.length:Int))) then
  (ZeD s1.2.2.1 s1.2.1 b s1.1).bind fun x2=>
  (ZbD x2 m0_0 m0_1 s1.2.2.2.1 m2_0 s1.2.2.2.2.1 s1.2.2.2.2.2.1 s1.2.2.2.2.2.2).bind fun x3=>
  bif (x3.1 != 0) then
   some (.inr (.inl (x3.1,s1.1,s1.2.2.1,x3.2.1,x3.2.2.1,x3.2.2.2.1,x3.2.2.2.2)))
  else
   (ZdN x3.2.1 x3.2.2.1 x3.2.2.2.1).bind fun x4=>
   some (.inl ((w64 (s1.1+1)),x4,x2,x3.2.1,x3.2.2.1,x3.2.2.2.1,x3.2.2.2.2))
 else
  some (.inr (.inr (s1.1,s1.2.2.1,s1.2.2.2.1,s1.2.2.2.2.1,s1.2.2.2.2.2.1,s1.2.2.2.2.2.2)))
def ZfY (b:List Int) (m0_0:List Int) (m0_1:List Zy) (m1_0:List Int) (m2_0:List Int) (m3_0:List Zk) (m4_0:List Zu) (m5_0:List Int):Option (Int×Int×Int×(List Int)×(List Zk)×(List Zu)×(List Int)):=
 (ZdN m1_0 m3_0 m4_0).bind fun x0=>
 (lp (Zc1 b m0_0 m0_1 m2_0) (0,x0,(-1),m1_0,m3_0,m4_0,m5_0)).bind fun r5=>
 match r5 with
 | (.inl r5)=>
  some (0,r5.1,r5.2.2.1,r5.2.2.2.1,r5.2.2.2.2.1,r5.2.2.2.2.2.1,r5.2.2.2.2.2.2)
 | (.inr r5)=>
  some (r5.1,0,r5.2.1,r5.2.2.1,r5.2.2.2.1,r5.2.2.2.2.1,r5.2.2.2.2.2)
def ZmJ (a:ZbM):Option Unit:=
 (ZaE a.on).bind fun x0=>
 (ZaE a.left).bind fun x1=>
 some ()
def ZjI (a:Int):Option Int:=
 bif (decide (4294967296≤a)) then
  bif (decide (65536≤(Int.fdiv a (2 ^ 32)))) then
   bif (decide (256≤(Int.fdiv (Int.fdiv a (2 ^ 32)) (2 ^ 16)))) then
    bif (decide (0≤(u8.wrap (Int.fdiv (Int.fdiv (Int.fdiv a (2 ^ 32)) (2 ^ 16)) (2 ^ 8))))) then
     (Ztq[(u8.wrap (Int.fdiv (Int.fdiv (Int.fdiv a (2 ^ 32)) (2 ^ 16)) (2 ^ 8))).toNat]?).bind fun x0=>
     some (w64 (56+(w64 (x0.toNat:Int))))
    else
     none
   else
    bif (decide (0≤(u8.wrap (Int.fdiv (Int.fdiv a (2 ^ 32)) (2 ^ 16))))) then
     (Ztq[(u8.wrap (Int.fdiv (Int.fdiv a (2 ^ 32)) (2 ^ 16))).toNat]?).bind fun x1=>
     some (w64 (48+(w64 (x1.toNat:Int))))
    else
     none
  else
   bif (decide (256≤(Int.fdiv a (2 ^ 32)))) then
    bif (decide (0≤(u8.wrap (Int.fdiv (Int.fdiv a (2 ^ 32)) (2 ^ 8))))) then
     (Ztq[(u8.wrap (Int.fdiv (Int.fdiv a (2 ^ 32)) (2 ^ 8))).toNat]?).bind fun x2=>
     some (w64 (40+(w64 (x2.toNat:Int))))
    else
     none
   else
    bif (decide (0≤(u8.wrap (Int.fdiv a (2 ^ 32))))) then
     (Ztq[(u8.wrap (Int.fdiv a (2 ^ 32))).toNat]?).bind fun x3=>
     some (w64 (32+(w64 (x3.toNat:Int))))
    else
     none
 else
  bif (decide (65536≤a)) then
   bif (decide (256≤(Int.fdiv a (2 ^ 16)))) then
    bif (decide (0≤(u8.wrap (Int.fdiv (Int.fdiv a (2 ^ 16)) (2 ^ 8))))) then
     (Ztq[(u8.wrap (Int.fdiv (Int.fdiv a (2 ^ 16)) (2 ^ 8))).toNat]?).bind fun x4=>
     some (w64 (24+(w64 (x4.toNat:Int))))
    else
     none
   else
    bif (decide (0≤(u8.wrap (Int.fdiv a (2 ^ 16))))) then
     (Ztq[(u8.wrap (Int.fdiv a (2 ^ 16))).toNat]?).bind fun x5=>
     some (w64 (16+(w64 (x5.toNat:Int))))
    else
     none
  else
   bif (decide (256≤a)) then
    bif (decide (0≤(u8.wrap (Int.fdiv a (2 ^ 8))))) then
     (Ztq[(u8.wrap (Int.fdiv a (2 ^ 8))).toNat]?).bind fun x6=>
     some (w64 (8+(w64 (x6.toNat:Int))))
    else
     none
   else
    bif (decide (0≤(u8.wrap a))) then
     (Ztq[(u8.wrap a).toNat]?).bind fun x7=>
     some (w64 (0+(w64 (x7.toNat:Int))))
    else
     none
def Zev (a:Int):Option Int:=
 (ZjI a).bind fun x0=>
 some x0
def ZgU (a:Int):Option Bool:=
 bif (a != a) then
  some true
 else
  some false
def ZR (a:Int) (b:Int):Option Bool:=
 (ZgU a).bind fun x0=>
 bif x0 then
  (ZgU b).bind fun x1=>
  bif x1 then
   bif (decide (a<b)) then
    some true
   else
    some false
  else
   some true
 else
  bif (decide (a<b)) then
   some true
  else
   some false
def Zbj (b:Int) (s1:Int×(List Int)):Option ((Int×(List Int))⊕(List Int)):=
 bif (decide (b<s1.1)) then
  (Zp s1.2 s1.1).bind fun x2=>
  (Zp s1.2 (w64 (s1.1-1))).bind fun x3=>
  (ZR x2 x3).bind fun x4=>
  bif x4 then
   (Zp (List.set s1.2 s1.1.toNat x3) (w64 (s1.1-1))).bind fun x5=>
   some (.inl ((w64 (s1.1-1)),(List.set (List.set s1.2 s1.1.toNat x3) (w64 (s1.1-1)).toNat x2)))
  else
   some (.inr s1.2)
 else
  some (.inr s1.2)
def Zbh (b:Int) (c:Int) (s0:Int×(List Int)):Option ((Int×(List Int))⊕(List Int)):=
 bif (decide (s0.1<c)) then
  (lp (Zbj b) (s0.1,s0.2)).bind fun r6=>
  some (.inl ((w64 (s0.1+1)),r6))
 else
  some (.inr s0.2)
def Zam (b:Int) (c:Int) (m0_0:List Int):Option (List Int):=
 (lp (Zbh b c) ((w64 (b+1)),m0_0)).bind fun r7=>
 some r7
def ZbR (c:Int) (d:Int) (s0:Int×(List Int)):Option ((Int×(List Int))⊕((List Int)⊕(List Int))):=
 bif (decide (c≤(w64 ((w64 (2*s0.1))+1)))) then
  some (.inr (.inl s0.2))
 else
  bif (decide ((w64 ((w64 ((w64 (2*s0.1))+1))+1))<c)) then
   (Zp s0.2 (w64 (d+(w64 ((w64 (2*s0.1))+1))))).bind fun x1=>
   (Zp s0.2 (w64 ((w64 (d+(w64 ((w64 (2*s0.1))+1))))+1))).bind fun x2=>
   (ZR x1 x2).bind fun x3=>
   bif x3 then
    (Zp s0.2 (w64 (d+s0.1))).bind fun x4=>
    (Zp s0.2 (w64 (d+(w64 ((w64 ((w64 (2*s0.1))+1))+1))))).bind fun x5=>
    (ZR x4 x5).bind fun x6=>
    bif x6 then
     (Zp (List.set s0.2 (w64 (d+s0.1)).toNat x5) (w64 (d+(w64 ((w64 ((w64 (2*s0.1))+1))+1))))).bind fun x7=>
     some (.inl ((w64 ((w64 ((w64 (2*s0.1))+1))+1)),(List.set (List.set s0.2 (w64 (d+s0.1)).toNat x5) (w64 (d+(w64 ((w64 ((w64 (2*s0.1))+1))+1)))).toNat x4)))
    else
     some (.inr (.inr s0.2))
   else
    (Zp s0.2 (w64 (d+s0.1))).bind fun x8=>
    (ZR x8 x1).bind fun x9=>
    bif x9 then
     (Zp (List.set s0.2 (w64 (d+s0.1)).toNat x1) (w64 (d+(w64 ((w64 (2*s0.1))+1))))).bind fun x10=>
     some (.inl ((w64 ((w64 (2*s0.1))+1)),(List.set (List.set s0.2 (w64 (d+s0.1)).toNat x1) (w64 (d+(w64 ((w64 (2*s0.1))+1)))).toNat x8)))
    else
     some (.inr (.inr s0.2))
  else
   (Zp s0.2 (w64 (d+s0.1))).bind fun x11=>
   (Zp s0.2 (w64 (d+(w64 ((w64 (2*s0.1))+1))))).bind fun x12=>
   (ZR x11 x12).bind fun x13=>
   bif x13 then
    (Zp (List.set s0.2 (w64 (d+s0.1)).toNat x12) (w64 (d+(w64 ((w64 (2*s0.1))+1))))).bind fun x14=>
    some (.inl ((w64 ((w64 (2*s0.1))+1)),(List.set (List.set s0.2 (w64 (d+s0.1)).toNat x12) (w64 (d+(w64 ((w64 (2*s0.1))+1)))).toNat x11)))
   else
    some (.inr (.inr s0.2))
def ZbA (b:Int) (c:Int) (d:Int) (m0_0:List Int):Option (List Int):=
 (lp (ZbR c d) (b,m0_0)).bind fun r15=>
 match r15 with
 | (.inl r15)=>
  some r15
 | (.inr r15)=>
  some r15
def ZbO (b:Int) (c:Int) (s0:Int×(List Int)):Option ((Int×(List Int))⊕(List Int)):=
 bif (decide (0≤s0.1)) then
  (ZbA s0.1 (w64 (c-b)) b s0.2).bind fun x1=>
  some (.inl ((w64 (s0.1-1)),x1))
 else
  some (.inr s0.2)
def ZbQ (b:Int) (s3:Int×(List Int)):Option ((Int×(List Int))⊕(List Int)):=
 bif (decide (0≤s3.1)) then
  (Zp s3.2 (w64 (b+s3.1))).bind fun x4=>
  (Zp s3.2 b).bind fun x5=>
  (Zp (List.set s3.2 b.toNat x4) (w64 (b+s3.1))).bind fun x6=>
  (ZbA 0 s3.1 b (List.set (List.set s3.2 b.toNat x4) (w64 (b+s3.1)).toNat x5)).bind fun x7=>
  some (.inl ((w64 (s3.1-1)),x7))
 else
  some (.inr s3.2)
def ZaP (b:Int) (c:Int) (m0_0:List Int):Option (List Int):=
 (lp (ZbO b c) ((w64 (Int.tdiv (w64 ((w64 (c-b))-1)) 2)),m0_0)).bind fun r2=>
 (lp (ZbQ b) ((w64 ((w64 (c-b))-1)),r2)).bind fun r8=>
 some r8
def Zbn (b:Int) (c:Int) (m0_0:List Int) (m1_0:Int):Option (Int×Int×Int):=
 (Zp m0_0 c).bind fun x0=>
 (Zp m0_0 b).bind fun x1=>
 (ZR x0 x1).bind fun x2=>
 bif x2 then
  some (c,b,(w64 (m1_0+1)))
 else
  some (b,c,m1_0)
def Zbo (b:Int) (c:Int) (d:Int) (m0_0:List Int) (m1_0:Int):Option (Int×Int):=
 (Zbn b c m0_0 m1_0).bind fun x0=>
 (Zbn x0.2.1 d m0_0 x0.2.2).bind fun x1=>
 (Zbn x0.1 x1.1 m0_0 x1.2.2).bind fun x2=>
 some (x2.2.1,x2.2.2)
def ZaC (b:Int) (m0_0:List Int) (m1_0:Int):Option (Int×Int):=
 (Zbo (w64 (b-1)) b (w64 (b+1)) m0_0 m1_0).bind fun x0=>
 some (x0.1,x0.2)
def Zav (b:Int) (c:Int) (m0_0:List Int):Option (Int×Int):=
 bif (decide (8≤(w64 (c-b)))) then
  bif (decide (50≤(w64 (c-b)))) then
   (ZaC (w64 (b+(w64 ((w64 (Int.tdiv (w64 (c-b)) 4))*1)))) m0_0 0).bind fun x0=>
   (ZaC (w64 (b+(w64 ((w64 (Int.tdiv (w64 (c-b)) 4))*2)))) m0_0 x0.2).bind fun x1=>
   (ZaC (w64 (b+(w64 ((w64 (Int.tdiv (w64 (c-b)) 4))*3)))) m0_0 x1.2).bind fun x2=>
   (Zbo x0.1 x1.1 x2.1 m0_0 x2.2).bind fun x3=>
   bif (x3.2==0) then
    some (x3.1,1)
   else
    bif (x3.2==12) then
     some (x3.1,2)
    else
     some (x3.1,0)
  else
   (Zbo (w64 (b+(w64 ((w64 (Int.tdiv (w64 (c-b)) 4))*1)))) (w64 (b+(w64 ((w64 (Int.tdiv (w64 (c-b)) 4))*2)))) (w64 (b+(w64 ((w64 (Int.tdiv (w64 (c-b)) 4))*3)))) m0_0 0).bind fun x4=>
   bif (x4.2==0) then
    some (x4.1,1)
   else
    bif (x4.2==12) then
     some (x4.1,2)
    else
     some (x4.1,0)
 else
  some ((w64 (b+(w64 ((w64 (Int.tdiv (w64 (c-b)) 4))*2)))),1)
def Zbr (s0:Int×Int×(List Int)):Option ((Int×Int×(List Int))⊕(List Int)):=
 bif (decide (s0.1<s0.2.1)) then
  (Zp s0.2.2 s0.2.1).bind fun x1=>
  (Zp s0.2.2 s0.1).bind fun x2=>
  (Zp (List.set s0.2.2 s0.1.toNat x1) s0.2.1).bind fun x3=>
  some (.inl ((w64 (s0.1+1)),(w64 (s0.2.1-1)),(List.set (List.set s0.2.2 s0.1.toNat x1) s0.2.1.toNat x2)))
 else
  some (.inr s0.2.2)
def Zas (b:Int) (c:Int) (m0_0:List Int):Option (List Int):=
 (lp (Zbr) (b,(w64 (c-1)),m0_0)).bind fun r4=>
 some r4
def ZaS (c:Int) (s0:Int×Int×(List Int)) (s1:Int):Option (Int⊕Int):=
 bif (decide (s1<c)) then
  (Zp s0.2.2 s1).bind fun x2=>
  (Zp s0.2.2 (w64 (s1-1))).bind fun x3=>
  (ZR x2 x3).bind fun x4=>
  bif x4 then
   some (.inr s1)
  else
   some (.inl (w64 (s1+1)))
 else
  some (.inr s1)
def ZaQ (s9:Int×(List Int)):Option ((Int×(List Int))⊕(List Int)):=
 bif (decide (1≤s9.1)) then
  (Zp s9.2 s9.1).bind fun x10=>
  (Zp s9.2 (w64 (s9.1-1))).bind fun x11=>
  (ZR x10 x11).bind fun x12=>
  bif x12 then
   (Zp (List.set s9.2 s9.1.toNat x11) (w64 (s9.1-1))).bind fun x13=>
   some (.inl ((w64 (s9.1-1)),(List.set (List.set s9.2 s9.1.toNat x11) (w64 (s9.1-1)).toNat x10)))
  else
   some (.inr s9.2)
 else
  some (.inr s9.2)
def Zap (c:Int) (s15:Int×(List Int)):Option ((Int×(List Int))⊕(List Int)):=
 bif (decide (s15.1<c)) then
  (Zp s15.2 s15.1).bind fun x16=>
  (Zp s15.2 (w64 (s15.1-1))).bind fun x17=>
  (ZR x16 x17).bind fun x18=>
  bif x18 then
   (Zp (List.set s15.2 s15.1.toNat x17) (w64 (s15.1-1))).bind fun x19=>
   some (.inl ((w64 (s15.1+1)),(List.set (List.set s15.2 s15.1.toNat x17) (w64 (s15.1-1)).toNat x16)))
  else
   some (.inr s15.2)
 else
  some (.inr s15.2)
def ZaR (b:Int) (c:Int) (s0:Int×Int×(List Int)):Option ((Int×Int×(List Int))⊕((List Int)⊕((List Int)⊕(List Int)))):=
 bif (decide (s0.2.1<5)) then
  (lp (ZaS c s0) s0.1).bind fun r5=>
  bif (r5==c) then
   some (.inr (.inl s0.2.2))
  else
   bif (decide ((w64 (c-b))<50)) then
    some (.inr (.inr (.inl s0.2.2)))
   else
    (Zp s0.2.2 (w64 (r5-1))).bind fun x6=>
    (Zp s0.2.2 r5).bind fun x7=>
    (Zp (List.set s0.2.2 r5.toNat x6) (w64 (r5-1))).bind fun x8=>
    bif (decide (2≤(w64 (r5-b)))) then
     (lp (ZaQ) ((w64 (r5-1)),(List.set (List.set s0.2.2 r5.toNat x6) (w64 (r5-1)).toNat x7))).bind fun r14=>
     bif (decide (2≤(w64 (c-r5)))) then
      (lp (Zap c) ((w64 (r5+1)),r14)).bind fun r20=>
      some (.inl (r5,(w64 (s0.2.1+1)),r20))
     else
      some (.inl (r5,(w64 (s0.2.1+1)),r14))
    else
     bif (decide (2≤(w64 (c-r5)))) then
      (lp (Zap c) ((w64 (r5+1)),(List.set (List.set s0.2.2 r5.toNat x6) (w64 (r5-1)).toNat x7))).bind fun r26=>
      some (.inl (r5,(w64 (s0.2.1+1)),r26))
     else
      some (.inl (r5,(w64 (s0.2.1+1)),(List.set (List.set s0.2.2 r5.toNat x6) (w64 (r5-1)).toNat x7)))
 else
  some (.inr (.inr (.inr s0.2.2)))
def Zay (b:Int) (c:Int) (m0_0:List Int):Option ((List Int)⊕(List Int)):=
 (lp (ZaR b c) ((w64 (b+1)),0,m0_0)).bind fun r27=>
 match r27 with
 | (.inl r27)=>
  some (.inl r27)
 | (.inr (.inl r27))=>
  some (.inr r27)
 | (.inr (.inr r27))=>
  some (.inr r27)
def ZbJ (b:Int) (c:Int) (d:Int) (m0_0:List Int) (x0:Int) (x1:Int) (s3:Int):Option (Int⊕Int):=
 bif (decide (s3≤(w64 (c-1)))) then
  (Zp (List.set (List.set m0_0 b.toNat x0) d.toNat x1) s3).bind fun x4=>
  (Zp (List.set (List.set m0_0 b.toNat x0) d.toNat x1) b).bind fun x5=>
  (ZR x4 x5).bind fun x6=>
  bif x6 then
   some (.inl (w64 (s3+1)))
  else
   some (.inr s3)
 else
  some (.inr s3)
def ZbE (b:Int) (d:Int) (m0_0:List Int) (x0:Int) (x1:Int) (r7:Int) (s8:Int):Option (Int⊕Int):=
 bif (decide (r7≤s8)) then
  (Zp (List.set (List.set m0_0 b.toNat x0) d.toNat x1) s8).bind fun x9=>
  (Zp (List.set (List.set m0_0 b.toNat x0) d.toNat x1) b).bind fun x10=>
  (ZR x9 x10).bind fun x11=>
  bif x11 then
   some (.inr s8)
  else
   some (.inl (w64 (s8-1)))
 else
  some (.inr s8)
def ZbF (b:Int) (s19:Int×Int×(List Int)) (s20:Int):Option (Int⊕Int):=
 bif (decide (s20≤s19.2.1)) then
  (Zp s19.2.2 s20).bind fun x21=>
  (Zp s19.2.2 b).bind fun x22=>
  (ZR x21 x22).bind fun x23=>
  bif x23 then
   some (.inl (w64 (s20+1)))
  else
   some (.inr s20)
 else
  some (.inr s20)
def ZbG (b:Int) (s19:Int×Int×(List Int)) (r24:Int) (s25:Int):Option (Int⊕Int):=
 bif (decide (r24≤s25)) then
  (Zp s19.2.2 s25).bind fun x26=>
  (Zp s19.2.2 b).bind fun x27=>
  (ZR x26 x27).bind fun x28=>
  bif x28 then
   some (.inr s25)
  else
   some (.inl (w64 (s25-1)))
 else
  some (.inr s25)
def ZbI (b:Int) (s19:Int×Int×(List Int)):Option ((Int×Int×(List Int))⊕(Int×(List Int))):=
 (lp (ZbF b s19) s19.1).bind fun r24=>
 (lp (ZbG b s19 r24) s19.2.1).bind fun r29=>
 bif (decide (r29<r24)) then
  some (.inr (r29,s19.2.2))
 else
  (Zp s19.2.2 r29).bind fun x30=>
  (Zp s19.2.2 r24).bind fun x31=>
  (Zp (List.set s19.2.2 r24.toNat x30) r29).bind fun x32=>
  some (.inl ((w64 (r24+1)),(w64 (r29-1)),(List.set (List.set s19.2.2 r24.toNat x30) r29.toNat x31)))
def Zo (b:Int) (c:Int) (d:Int) (m0_0:List Int):Option ((Int×(List Int))⊕(Int×(List Int))):=
 (Zp m0_0 d).bind fun x0=>
 (Zp m0_0 b).bind fun x1=>
 (Zp (List.set m0_0 b.toNat x0) d).bind fun x2=>
 (lp (ZbJ b c d m0_0 x0 x1) (w64 (b+1))).bind fun r7=>
 (lp (ZbE b d m0_0 x0 x1 r7) (w64 (c-1))).bind fun r12=>
 bif (decide (r12<r7)) then
  (Zp (List.set (List.set m0_0 b.toNat x0) d.toNat x1) b).bind fun x13=>
  (Zp (List.set (List.set m0_0 b.toNat x0) d.toNat x1) r12).bind fun x14=>
  (Zp (List.set (List.set (List.set m0_0 b.toNat x0) d.toNat x1) r12.toNat x13) b).bind fun x15=>
  some (.inl (r12,(List.set (List.set (List.set (List.set m0_0 b.toNat x0) d.toNat x1) r12.toNat x13) b.toNat x14)))
 else
  (Zp (List.set (List.set m0_0 b.toNat x0) d.toNat x1) r12).bind fun x16=>
  (Zp (List.set (List.set m0_0 b.toNat x0) d.toNat x1) r7).bind fun x17=>
  (Zp (List.set (List.set (List.set m0_0 b.toNat x0) d.toNat x1) r7.toNat x16) r12).bind fun x18=>
  (lp (ZbI b) ((w64 (r7+1)),(w64 (r12-1)),(List.set (List.set (List.set (List.set m0_0 b.toNat x0) d.toNat x1) r7.toNat x16) r12.toNat x17))).bind fun r33=>
  (Zp r33.2 b).bind fun x34=>
  (Zp r33.2 r33.1).bind fun x35=>
  (Zp (List.set r33.2 r33.1.toNat x34) b).bind fun x36=>
  some (.inr (r33.1,(List.set (List.set r33.2 r33.1.toNat x34) b.toNat x35)))
def Zbc (b:Int) (s3:Int×Int×(List Int)) (s4:Int):Option (Int⊕Int):=
 bif (decide (s4≤s3.2.1)) then
  (Zp s3.2.2 b).bind fun x5=>
  (Zp s3.2.2 s4).bind fun x6=>
  (ZR x5 x6).bind fun x7=>
  bif x7 then
   some (.inr s4)
  else
   some (.inl (w64 (s4+1)))
 else
  some (.inr s4)
def Zbd (b:Int) (s3:Int×Int×(List Int)) (r8:Int) (s9:Int):Option (Int⊕Int):=
 bif (decide (r8≤s9)) then
  (Zp s3.2.2 b).bind fun x10=>
  (Zp s3.2.2 s9).bind fun x11=>
  (ZR x10 x11).bind fun x12=>
  bif x12 then
   some (.inl (w64 (s9-1)))
  else
   some (.inr s9)
 else
  some (.inr s9)
def Zbe (b:Int) (s3:Int×Int×(List Int)):Option ((Int×Int×(List Int))⊕(Int×(List Int))):=
 (lp (Zbc b s3) s3.1).bind fun r8=>
 (lp (Zbd b s3 r8) s3.2.1).bind fun r13=>
 bif (decide (r13<r8)) then
  some (.inr (r8,s3.2.2))
 else
  (Zp s3.2.2 r13).bind fun x14=>
  (Zp s3.2.2 r8).bind fun x15=>
  (Zp (List.set s3.2.2 r8.toNat x14) r13).bind fun x16=>
  some (.inl ((w64 (r8+1)),(w64 (r13-1)),(List.set (List.set s3.2.2 r8.toNat x14) r13.toNat x15)))
def Zz (b:Int) (c:Int) (d:Int) (m0_0:List Int):Option (Int×(List Int)):=
 (Zp m0_0 d).bind fun x0=>
 (Zp m0_0 b).bind fun x1=>
 (Zp (List.set m0_0 b.toNat x0) d).bind fun x2=>
 (lp (Zbe b) ((w64 (b+1)),(w64 (c-1)),(List.set (List.set m0_0 b.toNat x0) d.toNat x1))).bind fun r17=>
 some (r17.1,r17.2)
def Zct (a:Int):Option Int:=
 (Zev (u64.wrap a)).bind fun x0=>
 bif (decide (x0<0)) then
  none
 else
  some (u64.wrap (1*2 ^ (min (x0).toNat u64.bits)))
def Zds:Option Unit:=
 some ()
def Zbl (b:Int) (c:Int) (x0:Int) (s1:Int×(List Int)×Int):Option ((Int×(List Int)×Int)⊕(List Int)):=
 bif (decide (s1.1≤(w64 ((w64 (b+(w64 ((w64 (Int.tdiv (w64 (c-b)) 4))*2))))+1)))) then
  Zds.bind fun x2=>
  bif (decide ((w64 (c-b))≤(w64 (u64.wrap (Ze (u64.wrap (Ze (u64.wrap (Ze (u64.wrap (Ze s1.2.2 ^^^ Ze (u64.wrap (s1.2.2*2 ^ 13))).toNat) ^^^ Ze (Int.fdiv (u64.wrap (Ze s1.2.2 ^^^ Ze (u64.wrap (s1.2.2*2 ^ 13))).toNat) (2 ^ 7))).toNat) ^^^ Ze (u64.wrap ((u64.wrap (Ze (u64.wrap (Ze s1.2.2 ^^^ Ze (u64.wrap (s1.2.2*2 ^ 13))).toNat) ^^^ Ze (Int.fdiv (u64.wrap (Ze s1.2.2 ^^^ Ze (u64.wrap (s1.2.2*2 ^ 13))).toNat) (2 ^ 7))).toNat)*2 ^ 17))).toNat) &&& Ze (u64.wrap (x0-1))).toNat)))) then
   (Zp s1.2.1 (w64 (b+(w64 ((w64 (u64.wrap (Ze (u64.wrap (Ze (u64.wrap (Ze (u64.wrap (Ze s1.2.2 ^^^ Ze (u64.wrap (s1.2.2*2 ^ 13))).toNat) ^^^ Ze (Int.fdiv (u64.wrap (Ze s1.2.2 ^^^ Ze (u64.wrap (s1.2.2*2 ^ 13))).toNat) (2 ^ 7))).toNat) ^^^ Ze (u64.wrap ((u64.wrap (Ze (u64.wrap (Ze s1.2.2 ^^^ Ze (u64.wrap (s1.2.2*2 ^ 13))).toNat) ^^^ Ze (Int.fdiv (u64.wrap (Ze s1.2.2 ^^^ Ze (u64.wrap (s1.2.2*2 ^ 13))).toNat) (2 ^ 7))).toNat)*2 ^ 17))).toNat) &&& Ze (u64.wrap (x0-1))).toNat))-(w64 (c-b))))))).bind fun x3=>
   (Zp s1.2.1 s1.1).bind fun x4=>
   (Zp (List.set s1.2.1 s1.1.toNat x3) (w64 (b+(w64 ((w64 (u64.wrap (Ze (u64.wrap (Ze (u64.wrap (Ze (u64.wrap (Ze s1.2.2 ^^^ Ze (u64.wrap (s1.2.2*2 ^ 13))).toNat) ^^^ Ze (Int.fdiv (u64.wrap (Ze s1.2.2 ^^^ Ze (u64.wrap (s1.2.2*2 ^ 13))).toNat) (2 ^ 7))).toNat) ^^^ Ze (u64.wrap ((u64.wrap (Ze (u64.wrap (Ze s1.2.2 ^^^ Ze (u64.wrap (s1.2.2*2 ^ 13))).toNat) ^^^ Ze (Int.fdiv (u64.wrap (Ze s1.2.2 ^^^ Ze (u64.wrap (s1.2.2*2 ^ 13))).toNat) (2 ^ 7))).toNat)*2 ^ 17))).toNat) &&& Ze (u64.wrap (x0-1))).toNat))-(w64 (c-b))))))).bind fun x5=>
   some (.inl ((w64 (s1.1+1)),(List.set (List.set s1.2.1 s1.1.toNat x3) (w64 (b+(w64 ((w64 (u64.wrap (Ze (u64.wrap (Ze (u64.wrap (Ze (u64.wrap (Ze s1.2.2 ^^^ Ze (u64.wrap (s1.2.2*2 ^ 13))).toNat) ^^^ Ze (Int.fdiv (u64.wrap (Ze s1.2.2 ^^^ Ze (u64.wrap (s1.2.2*2 ^ 13))).toNat) (2 ^ 7))).toNat) ^^^ Ze (u64.wrap ((u64.wrap (Ze (u64.wrap (Ze s1.2.2 ^^^ Ze (u64.wrap (s1.2.2*2 ^ 13))).toNat) ^^^ Ze (Int.fdiv (u64.wrap (Ze s1.2.2 ^^^ Ze (u64.wrap (s1.2.2*2 ^ 13))).toNat) (2 ^ 7))).toNat)*2 ^ 17))).toNat) &&& Ze (u64.wrap (x0-1))).toNat))-(w64 (c-b)))))).toNat x4),(u64.wrap (Ze (u64.wrap (Ze (u64.wrap (Ze s1.2.2 ^^^ Ze (u64.wrap (s1.2.2*2 ^ 13))).toNat) ^^^ Ze (Int.fdiv (u64.wrap (Ze s1.2.2 ^^^ Ze (u64.wrap (s1.2.2*2 ^ 13))).toNat) (2 ^ 7))).toNat) ^^^ Ze (u64.wrap ((u64.wrap (Ze (u64.wrap (Ze s1.2.2 ^^^ Ze (u64.wrap (s1.2.2*2 ^ 13))).toNat) ^^^ Ze (Int.fdiv (u64.wrap (Ze s1.2.2 ^^^ Ze (u64.wrap (s1.2.2*2 ^ 13))).toNat) (2 ^ 7))).toNat)*2 ^ 17))).toNat)))
  else
   (Zp s1.2.1 (w64 (b+(w64 (u64.wrap (Ze (u64.wrap (Ze (u64.wrap (Ze (u64.wrap (Ze s1.2.2 ^^^ Ze (u64.wrap (s1.2.2*2 ^ 13))).toNat) ^^^ Ze (Int.fdiv (u64.wrap (Ze s1.2.2 ^^^ Ze (u64.wrap (s1.2.2*2 ^ 13))).toNat) (2 ^ 7))).toNat) ^^^ Ze (u64.wrap ((u64.wrap (Ze (u64.wrap (Ze s1.2.2 ^^^ Ze (u64.wrap (s1.2.2*2 ^ 13))).toNat) ^^^ Ze (Int.fdiv (u64.wrap (Ze s1.2.2 ^^^ Ze (u64.wrap (s1.2.2*2 ^ 13))).toNat) (2 ^ 7))).toNat)*2 ^ 17))).toNat) &&& Ze (u64.wrap (x0-1))).toNat))))).bind fun x6=>
   (Zp s1.2.1 s1.1).bind fun x7=>
   (Zp (List.set s1.2.1 s1.1.toNat x6) (w64 (b+(w64 (u64.wrap (Ze (u64.wrap (Ze (u64.wrap (Ze (u64.wrap (Ze s1.2.2 ^^^ Ze (u64.wrap (s1.2.2*2 ^ 13))).toNat) ^^^ Ze (Int.fdiv (u64.wrap (Ze s1.2.2 ^^^ Ze (u64.wrap (s1.2.2*2 ^ 13))).toNat) (2 ^ 7))).toNat) ^^^ Ze (u64.wrap ((u64.wrap (Ze (u64.wrap (Ze s1.2.2 ^^^ Ze (u64.wrap (s1.2.2*2 ^ 13))).toNat) ^^^ Ze (Int.fdiv (u64.wrap (Ze s1.2.2 ^^^ Ze (u64.wrap (s1.2.2*2 ^ 13))).toNat) (2 ^ 7))).toNat)*2 ^ 17))).toNat) &&& Ze (u64.wrap (x0-1))).toNat))))).bind fun x8=>
   some (.inl ((w64 (s1.1+1)),(List.set (List.set s1.2.1 s1.1.toNat x6) (w64 (b+(w64 (u64.wrap (Ze (u64.wrap (Ze (u64.wrap (Ze (u64.wrap (Ze s1.2.2 ^^^ Ze (u64.wrap (s1.2.2*2 ^ 13))).toNat) ^^^ Ze (Int.fdiv (u64.wrap (Ze s1.2.2 ^^^ Ze (u64.wrap (s1.2.2*2 ^ 13))).toNat) (2 ^ 7))).toNat) ^^^ Ze (u64.wrap ((u64.wrap (Ze (u64.wrap (Ze s1.2.2 ^^^ Ze (u64.wrap (s1.2.2*2 ^ 13))).toNat) ^^^ Ze (Int.fdiv (u64.wrap (Ze s1.2.2 ^^^ Ze (u64.wrap (s1.2.2*2 ^ 13))).toNat) (2 ^ 7))).toNat)*2 ^ 17))).toNat) &&& Ze (u64.wrap (x0-1))).toNat)))).toNat x7),(u64.wrap (Ze (u64.wrap (Ze (u64.wrap (Ze s1.2.2 ^^^ Ze (u64.wrap (s1.2.2*2 ^ 13))).toNat) ^^^ Ze (Int.fdiv (u64.wrap (Ze s1.2.2 ^^^ Ze (u64.wrap (s1.2.2*2 ^ 13))).toNat) (2 ^ 7))).toNat) ^^^ Ze (u64.wrap ((u64.wrap (Ze (u64.wrap (Ze s1.2.2 ^^^ Ze (u64.wrap (s1.2.2*2 ^ 13))).toNat) ^^^ Ze (Int.fdiv (u64.wrap (Ze s1.2.2 ^^^ Ze (u64.wrap (s1.2.2*2 ^ 13))).toNat) (2 ^ 7))).toNat)*2 ^ 17))).toNat)))
 else
  some (.inr s1.2.1)
def Za5 (b:Int) (c:Int) (m0_0:List Int):Option (List Int):=
 bif (decide (8≤(w64 (c-b)))) then
  (Zct (w64 (c-b))).bind fun x0=>
  (lp (Zbl b c x0) ((w64 ((w64 (b+(w64 ((w64 (Int.tdiv (w64 (c-b)) 4))*2))))-1)),m0_0,(u64.wrap (w64 (c-b))))).bind fun r9=>
  some r9
 else
  some m0_0
def ZaD (rc:Int→Int→Int→(List Int)→Option (List Int)) (s0:Int×Int×Int×Bool×Bool×(List Int)):Option ((Int×Int×Int×Bool×Bool×(List Int))⊕(List Int)):=
 bif s0.2.2.2.1 then
  bif s0.2.2.2.2.1 then
   bif (decide ((w64 (s0.2.1-s0.1))≤12)) then
    (Zam s0.1 s0.2.1 s0.2.2.2.2.2).bind fun x1=>
    some (.inr x1)
   else
    bif (s0.2.2.1==0) then
     (ZaP s0.1 s0.2.1 s0.2.2.2.2.2).bind fun x2=>
     some (.inr x2)
    else
     (Zav s0.1 s0.2.1 s0.2.2.2.2.2).bind fun x3=>
     bif (x3.2==2) then
      (Zas s0.1 s0.2.1 s0.2.2.2.2.2).bind fun x4=>
      (Zay s0.1 s0.2.1 x4).bind fun x5=>
      match x5 with
      | (.inl x5)=>
       some (.inr x5)
      | (.inr x5)=>
       bif (decide (0<s0.1)) then
        (Zp x5 (w64 (s0.1-1))).bind fun x6=>
        (Zp x5 (w64 ((w64 (s0.2.1-1))-(w64 (x3.1-s0.1))))).bind fun x7=>
        (ZR x6 x7).bind fun x8=>
        bif x8 then
         (Zo s0.1 s0.2.1 (w64 ((w64 (s0.2.1-1))-(w64 (x3.1-s0.1)))) x5).bind fun x9=>
         match x9 with
         | (.inl x9)=>
          bif (decide ((w64 (x9.1-s0.1))<(w64 (s0.2.1-x9.1)))) then
           bif (decide ((w64 (Int.tdiv (w64 (s0.2.1-s0.1)) 8))≤(w64 (x9.1-s0.1)))) then
            (rc s0.1 x9.1 s0.2.2.1 x9.2).bind fun x10=>
            some (.inl ((w64 (x9.1+1)),s0.2.1,s0.2.2.1,true,true,x10))
           else
            (rc s0.1 x9.1 s0.2.2.1 x9.2).bind fun x11=>
            some (.inl ((w64 (x9.1+1)),s0.2.1,s0.2.2.1,false,true,x11))
          else
           bif (decide ((w64 (Int.tdiv (w64 (s0.2.1-s0.1)) 8))≤(w64 (s0.2.1-x9.1)))) then
            (rc (w64 (x9.1+1)) s0.2.1 s0.2.2.1 x9.2).bind fun x12=>
            some (.inl (s0.1,x9.1,s0.2.2.1,true,true,x12))
           else
            (rc (w64 (x9.1+1)) s0.2.1 s0.2.2.1 x9.2).bind fun x13=>
            some (.inl (s0.1,x9.1,s0.2.2.1,false,true,x13))
         | (.inr x9)=>
          bif (decide ((w64 (x9.1-s0.1))<(w64 (s0.2.1-x9.1)))) then
           bif (decide ((w64 (Int.tdiv (w64 (s0.2.1-s0.1)) 8))≤(w64 (x9.1-s0.1)))) then
            (rc s0.1 x9.1 s0.2.2.1 x9.2).bind fun x14=>
            some (.inl ((w64 (x9.1+1)),s0.2.1,s0.2.2.1,true,false,x14))
           else
            (rc s0.1 x9.1 s0.2.2.1 x9.2).bind fun x15=>
            some (.inl ((w64 (x9.1+1)),s0.2.1,s0.2.2.1,false,false,x15))
          else
           bif (decide ((w64 (Int.tdiv (w64 (s0.2.1-s0.1)) 8))≤(w64 (s0.2.1-x9.1)))) then
            (rc (w64 (x9.1+1)) s0.2.1 s0.2.2.1 x9.2).bind fun x16=>
            some (.inl (s0.1,x9.1,s0.2.2.1,true,false,x16))
           else
            (rc (w64 (x9.1+1)) s0.2.1 s0.2.2.1 x9.2).bind fun x17=>
            some (.inl (s0.1,x9.1,s0.2.2.1,false,false,x17))
        else
         (Zz s0.1 s0.2.1 (w64 ((w64 (s0.2.1-1))-(w64 (x3.1-s0.1)))) x5).bind fun x18=>
         some (.inl (x18.1,s0.2.1,s0.2.2.1,true,true,x18.2))
       else
        (Zo s0.1 s0.2.1 (w64 ((w64 (s0.2.1-1))-(w64 (x3.1-s0.1)))) x5).bind fun x19=>
        match x19 with
        | (.inl x19)=>
         bif (decide ((w64 (x19.1-s0.1))<(w64 (s0.2.1-x19.1)))) then
          bif (decide ((w64 (Int.tdiv (w64 (s0.2.1-s0.1)) 8))≤(w64 (x19.1-s0.1)))) then
           (rc s0.1 x19.1 s0.2.2.1 x19.2).bind fun x20=>
           some (.inl ((w64 (x19.1+1)),s0.2.1,s0.2.2.1,true,true,x20))
          else
           (rc s0.1 x19.1 s0.2.2.1 x19.2).bind fun x21=>
           some (.inl ((w64 (x19.1+1)),s0.2.1,s0.2.2.1,false,true,x21))
         else
          bif (decide ((w64 (Int.tdiv (w64 (s0.2.1-s0.1)) 8))≤(w64 (s0.2.1-x19.1)))) then
           (rc (w64 (x19.1+1)) s0.2.1 s0.2.2.1 x19.2).bind fun x22=>
           some (.inl (s0.1,x19.1,s0.2.2.1,true,true,x22))
          else
           (rc (w64 (x19.1+1)) s0.2.1 s0.2.2.1 x19.2).bind fun x23=>
           some (.inl (s0.1,x19.1,s0.2.2.1,false,true,x23))
        | (.inr x19)=>
         bif (decide ((w64 (x19.1-s0.1))<(w64 (s0.2.1-x19.1)))) then
          bif (decide ((w64 (Int.tdiv (w64 (s0.2.1-s0.1)) 8))≤(w64 (x19.1-s0.1)))) then
           (rc s0.1 x19.1 s0.2.2.1 x19.2).bind fun x24=>
           some (.inl ((w64 (x19.1+1)),s0.2.1,s0.2.2.1,true,false,x24))
          else
           (rc s0.1 x19.1 s0.2.2.1 x19.2).bind fun x25=>
           some (.inl ((w64 (x19.1+1)),s0.2.1,s0.2.2.1,false,false,x25))
         else
          bif (decide ((w64 (Int.tdiv (w64 (s0.2.1-s0.1)) 8))≤(w64 (s0.2.1-x19.1)))) then
           (rc (w64 (x19.1+1)) s0.2.1 s0.2.2.1 x19.2).bind fun x26=>
           some (.inl (s0.1,x19.1,s0.2.2.1,true,false,x26))
          else
           (rc (w64 (x19.1+1)) s0.2.1 s0.2.2.1 x19.2).bind fun x27=>
           some (.inl (s0.1,x19.1,s0.2.2.1,false,false,x27))
     else
      bif (x3.2==1) then
       (Zay s0.1 s0.2.1 s0.2.2.2.2.2).bind fun x28=>
       match x28 with
       | (.inl x28)=>
        some (.inr x28)
       | (.inr x28)=>
        bif (decide (0<s0.1)) then
         (Zp x28 (w64 (s0.1-1))).bind fun x29=>
         (Zp x28 x3.1).bind fun x30=>
         (ZR x29 x30).bind fun x31=>
         bif x31 then
          (Zo s0.1 s0.2.1 x3.1 x28).bind fun x32=>
          match x32 with
          | (.inl x32)=>
           bif (decide ((w64 (x32.1-s0.1))<(w64 (s0.2.1-x32.1)))) then
            bif (decide ((w64 (Int.tdiv (w64 (s0.2.1-s0.1)) 8))≤(w64 (x32.1-s0.1)))) then
             (rc s0.1 x32.1 s0.2.2.1 x32.2).bind fun x33=>
             some (.inl ((w64 (x32.1+1)),s0.2.1,s0.2.2.1,true,true,x33))
            else
             (rc s0.1 x32.1 s0.2.2.1 x32.2).bind fun x34=>
             some (.inl ((w64 (x32.1+1)),s0.2.1,s0.2.2.1,false,true,x34))
           else
            bif (decide ((w64 (Int.tdiv (w64 (s0.2.1-s0.1)) 8))≤(w64 (s0.2.1-x32.1)))) then
             (rc (w64 (x32.1+1)) s0.2.1 s0.2.2.1 x32.2).bind fun x35=>
             some (.inl (s0.1,x32.1,s0.2.2.1,true,true,x35))
            else
             (rc (w64 (x32.1+1)) s0.2.1 s0.2.2.1 x32.2).bind fun x36=>
             some (.inl (s0.1,x32.1,s0.2.2.1,false,true,x36))
          | (.inr x32)=>
           bif (decide ((w64 (x32.1-s0.1))<(w64 (s0.2.1-x32.1)))) then
            bif (decide ((w64 (Int.tdiv (w64 (s0.2.1-s0.1)) 8))≤(w64 (x32.1-s0.1)))) then
             (rc s0.1 x32.1 s0.2.2.1 x32.2).bind fun x37=>
             some (.inl ((w64 (x32.1+1)),s0.2.1,s0.2.2.1,true,false,x37))
            else
             (rc s0.1 x32.1 s0.2.2.1 x32.2).bind fun x38=>
             some (.inl ((w64 (x32.1+1)),s0.2.1,s0.2.2.1,false,false,x38))
           else
            bif (decide ((w64 (Int.tdiv (w64 (s0.2.1-s0.1)) 8))≤(w64 (s0.2.1-x32.1)))) then
             (rc (w64 (x32.1+1)) s0.2.1 s0.2.2.1 x32.2).bind fun x39=>
             some (.inl (s0.1,x32.1,s0.2.2.1,true,false,x39))
            else
             (rc (w64 (x32.1+1)) s0.2.1 s0.2.2.1 x32.2).bind fun x40=>
             some (.inl (s0.1,x32.1,s0.2.2.1,false,false,x40))
         else
          (Zz s0.1 s0.2.1 x3.1 x28).bind fun x41=>
          some (.inl (x41.1,s0.2.1,s0.2.2.1,true,true,x41.2))
        else
         (Zo s0.1 s0.2.1 x3.1 x28).bind fun x42=>
         match x42 with
         | (.inl x42)=>
          bif (decide ((w64 (x42.1-s0.1))<(w64 (s0.2.1-x42.1)))) then
           bif (decide ((w64 (Int.tdiv (w64 (s0.2.1-s0.1)) 8))≤(w64 (x42.1-s0.1)))) then
            (rc s0.1 x42.1 s0.2.2.1 x42.2).bind fun x43=>
            some (.inl ((w64 (x42.1+1)),s0.2.1,s0.2.2.1,true,true,x43))
           else
            (rc s0.1 x42.1 s0.2.2.1 x42.2).bind fun x44=>
            some (.inl ((w64 (x42.1+1)),s0.2.1,s0.2.2.1,false,true,x44))
          else
           bif (decide ((w64 (Int.tdiv (w64 (s0.2.1-s0.1)) 8))≤(w64 (s0.2.1-x42.1)))) then
            (rc (w64 (x42.1+1)) s0.2.1 s0.2.2.1 x42.2).bind fun x45=>
            some (.inl (s0.1,x42.1,s0.2.2.1,true,true,x45))
           else
            (rc (w64 (x42.1+1)) s0.2.1 s0.2.2.1 x42.2).bind fun x46=>
            some (.inl (s0.1,x42.1,s0.2.2.1,false,true,x46))
         | (.inr x42)=>
          bif (decide ((w64 (x42.1-s0.1))<(w64 (s0.2.1-x42.1)))) then
           bif (decide ((w64 (Int.tdiv (w64 (s0.2.1-s0.1)) 8))≤(w64 (x42.1-s0.1)))) then
            (rc s0.1 x42.1 s0.2.2.1 x42.2).bind fun x47=>
            some (.inl ((w64 (x42.1+1)),s0.2.1,s0.2.2.1,true,false,x47))
           else
            (rc s0.1 x42.1 s0.2.2.1 x42.2).bind fun x48=>
            some (.inl ((w64 (x42.1+1)),s0.2.1,s0.2.2.1,false,false,x48))
          else
           bif (decide ((w64 (Int.tdiv (w64 (s0.2.1-s0.1)) 8))≤(w64 (s0.2.1-x42.1)))) then
            (rc (w64 (x42.1+1)) s0.2.1 s0.2.2.1 x42.2).bind fun x49=>
            some (.inl (s0.1,x42.1,s0.2.2.1,true,false,x49))
           else
            (rc (w64 (x42.1+1)) s0.2.1 s0.2.2.1 x42.2).bind fun x50=>
            some (.inl (s0.1,x42.1,s0.2.2.1,false,false,x50))
      else
       bif (decide (0<s0.1)) then
        (Zp s0.2.2.2.2.2 (w64 (s0.1-1))).bind fun x51=>
        (Zp s0.2.2.2.2.2 x3.1).bind fun x52=>
        (ZR x51 x52).bind fun x53=>
        bif x53 then
         (Zo s0.1 s0.2.1 x3.1 s0.2.2.2.2.2).bind fun x54=>
         match x54 with
         | (.inl x54)=>
          bif (decide ((w64 (x54.1-s0.1))<(w64 (s0.2.1-x54.1)))) then
           bif (decide ((w64 (Int.tdiv (w64 (s0.2.1-s0.1)) 8))≤(w64 (x54.1-s0.1)))) then
            (rc s0.1 x54.1 s0.2.2.1 x54.2).bind fun x55=>
            some (.inl ((w64 (x54.1+1)),s0.2.1,s0.2.2.1,true,true,x55))
           else
            (rc s0.1 x54.1 s0.2.2.1 x54.2).bind fun x56=>
            some (.inl ((w64 (x54.1+1)),s0.2.1,s0.2.2.1,false,true,x56))
          else
           bif (decide ((w64 (Int.tdiv (w64 (s0.2.1-s0.1)) 8))≤(w64 (s0.2.1-x54.1)))) then
            (rc (w64 (x54.1+1)) s0.2.1 s0.2.2.1 x54.2).bind fun x57=>
            some (.inl (s0.1,x54.1,s0.2.2.1,true,true,x57))
           else
            (rc (w64 (x54.1+1)) s0.2.1 s0.2.2.1 x54.2).bind fun x58=>
            some (.inl (s0.1,x54.1,s0.2.2.1,false,true,x58))
         | (.inr x54)=>
          bif (decide ((w64 (x54.1-s0.1))<(w64 (s0.2.1-x54.1)))) then
           bif (decide ((w64 (Int.tdiv (w64 (s0.2.1-s0.1)) 8))≤(w64 (x54.1-s0.1)))) then
            (rc s0.1 x54.1 s0.2.2.1 x54.2).bind fun x59=>
            some (.inl ((w64 (x54.1+1)),s0.2.1,s0.2.2.1,true,false,x59))
           else
            (rc s0.1 x54.1 s0.2.2.1 x54.2).bind fun x60=>
            some (.inl ((w64 (x54.1+1)),s0.2.1,s0.2.2.1,false,false,x60))
          else
           bif (decide ((w64 (Int.tdiv (w64 (s0.2.1-s0.1)) 8))≤(w64 (s0.2.1-x54.1)))) then
            (rc (w64 (x54.1+1)) s0.2.1 s0.2.2.1 x54.2).bind fun x61=>
            some (.inl (s0.1,x54.1,s0.2.2.1,true,false,x61))
           else
            (rc (w64 (x54.1+1)) s0.2.1 s0.2.2.1 x54.2).bind fun x62=>
            some (.inl (s0.1,x54.1,s0.2.2.1,false,false,x62))
        else
         (Zz s0.1 s0.2.1 x3.1 s0.2.2.2.2.2).bind fun x63=>
         some (.inl (x63.1,s0.2.1,s0.2.2.1,true,true,x63.2))
       else
        (Zo s0.1 s0.2.1 x3.1 s0.2.2.2.2.2).bind fun x64=>
        match x64 with
        | (.inl x64)=>
         bif (decide ((w64 (x64.1-s0.1))<(w64 (s0.2.1-x64.1)))) then
          bif (decide ((w64 (Int.tdiv (w64 (s0.2.1-s0.1)) 8))≤(w64 (x64.1-s0.1)))) then
           (rc s0.1 x64.1 s0.2.2.1 x64.2).bind fun x65=>
           some (.inl ((w64 (x64.1+1)),s0.2.1,s0.2.2.1,true,true,x65))
          else
           (rc s0.1 x64.1 s0.2.2.1 x64.2).bind fun x66=>
           some (.inl ((w64 (x64.1+1)),s0.2.1,s0.2.2.1,false,true,x66))
         else
          bif (decide ((w64 (Int.tdiv (w64 (s0.2.1-s0.1)) 8))≤(w64 (s0.2.1-x64.1)))) then
           (rc (w64 (x64.1+1)) s0.2.1 s0.2.2.1 x64.2).bind fun x67=>
           some (.inl (s0.1,x64.1,s0.2.2.1,true,true,x67))
          else
           (rc (w64 (x64.1+1)) s0.2.1 s0.2.2.1 x64.2).bind fun x68=>
           some (.inl (s0.1,x64.1,s0.2.2.1,false,true,x68))
        | (.inr x64)=>
         bif (decide ((w64 (x64.1-s0.1))<(w64 (s0.2.1-x64.1)))) then
          bif (decide ((w64 (Int.tdiv (w64 (s0.2.1-s0.1)) 8))≤(w64 (x64.1-s0.1)))) then
           (rc s0.1 x64.1 s0.2.2.1 x64.2).bind fun x69=>
           some (.inl ((w64 (x64.1+1)),s0.2.1,s0.2.2.1,true,false,x69))
          else
           (rc s0.1 x64.1 s0.2.2.1 x64.2).bind fun x70=>
           some (.inl ((w64 (x64.1+1)),s0.2.1,s0.2.2.1,false,false,x70))
         else
          bif (decide ((w64 (Int.tdiv (w64 (s0.2.1-s0.1)) 8))≤(w64 (s0.2.1-x64.1)))) then
           (rc (w64 (x64.1+1)) s0.2.1 s0.2.2.1 x64.2).bind fun x71=>
           some (.inl (s0.1,x64.1,s0.2.2.1,true,false,x71))
          else
           (rc (w64 (x64.1+1)) s0.2.1 s0.2.2.1 x64.2).bind fun x72=>
           some (.inl (s0.1,x64.1,s0.2.2.1,false,false,x72))
  else
   bif (decide ((w64 (s0.2.1-s0.1))≤12)) then
    (Zam s0.1 s0.2.1 s0.2.2.2.2.2).bind fun x73=>
    some (.inr x73)
   else
    bif (s0.2.2.1==0) then
     (ZaP s0.1 s0.2.1 s0.2.2.2.2.2).bind fun x74=>
     some (.inr x74)
    else
     (Zav s0.1 s0.2.1 s0.2.2.2.2.2).bind fun x75=>
     bif (x75.2==2) then
      (Zas s0.1 s0.2.1 s0.2.2.2.2.2).bind fun x76=>
      bif (decide (0<s0.1)) then
       (Zp x76 (w64 (s0.1-1))).bind fun x77=>
       (Zp x76 (w64 ((w64 (s0.2.1-1))-(w64 (x75.1-s0.1))))).bind fun x78=>
       (ZR x77 x78).bind fun x79=>
       bif x79 then
        (Zo s0.1 s0.2.1 (w64 ((w64 (s0.2.1-1))-(w64 (x75.1-s0.1)))) x76).bind fun x80=>
        match x80 with
        | (.inl x80)=>
         bif (decide ((w64 (x80.1-s0.1))<(w64 (s0.2.1-x80.1)))) then
          bif (decide ((w64 (Int.tdiv (w64 (s0.2.1-s0.1)) 8))≤(w64 (x80.1-s0.1)))) then
           (rc s0.1 x80.1 s0.2.2.1 x80.2).bind fun x81=>
           some (.inl ((w64 (x80.1+1)),s0.2.1,s0.2.2.1,true,true,x81))
          else
           (rc s0.1 x80.1 s0.2.2.1 x80.2).bind fun x82=>
           some (.inl ((w64 (x80.1+1)),s0.2.1,s0.2.2.1,false,true,x82))
         else
          bif (decide ((w64 (Int.tdiv (w64 (s0.2.1-s0.1)) 8))≤(w64 (s0.2.1-x80.1)))) then
           (rc (w64 (x80.1+1)) s0.2.1 s0.2.2.1 x80.2).bind fun x83=>
           some (.inl (s0.1,x80.1,s0.2.2.1,true,true,x83))
          else
           (rc (w64 (x80.1+1)) s0.2.1 s0.2.2.1 x80.2).bind fun x84=>
           some (.inl (s0.1,x80.1,s0.2.2.1,false,true,x84))
        | (.inr x80)=>
         bif (decide ((w64 (x80.1-s0.1))<(w64 (s0.2.1-x80.1)))) then
          bif (decide ((w64 (Int.tdiv (w64 (s0.2.1-s0.1)) 8))≤(w64 (x80.1-s0.1)))) then
           (rc s0.1 x80.1 s0.2.2.1 x80.2).bind fun x85=>
           some (.inl ((w64 (x80.1+1)),s0.2.1,s0.2.2.1,true,false,x85))
          else
           (rc s0.1 x80.1 s0.2.2.1 x80.2).bind fun x86=>
           some (.inl ((w64 (x80.1+1)),s0.2.1,s0.2.2.1,false,false,x86))
         else
          bif (decide ((w64 (Int.tdiv (w64 (s0.2.1-s0.1)) 8))≤(w64 (s0.2.1-x80.1)))) then
           (rc (w64 (x80.1+1)) s0.2.1 s0.2.2.1 x80.2).bind fun x87=>
           some (.inl (s0.1,x80.1,s0.2.2.1,true,false,x87))
          else
           (rc (w64 (x80.1+1)) s0.2.1 s0.2.2.1 x80.2).bind fun x88=>
           some (.inl (s0.1,x80.1,s0.2.2.1,false,false,x88))
       else
        (Zz s0.1 s0.2.1 (w64 ((w64 (s0.2.1-1))-(w64 (x75.1-s0.1)))) x76).bind fun x89=>
        some (.inl (x89.1,s0.2.1,s0.2.2.1,true,false,x89.2))
      else
       (Zo s0.1 s0.2.1 (w64 ((w64 (s0.2.1-1))-(w64 (x75.1-s0.1)))) x76).bind fun x90=>
       match x90 with
       | (.inl x90)=>
        bif (decide ((w64 (x90.1-s0.1))<(w64 (s0.2.1-x90.1)))) then
         bif (decide ((w64 (Int.tdiv (w64 (s0.2.1-s0.1)) 8))≤(w64 (x90.1-s0.1)))) then
          (rc s0.1 x90.1 s0.2.2.1 x90.2).bind fun x91=>
          some (.inl ((w64 (x90.1+1)),s0.2.1,s0.2.2.1,true,true,x91))
         else
          (rc s0.1 x90.1 s0.2.2.1 x90.2).bind fun x92=>
          some (.inl ((w64 (x90.1+1)),s0.2.1,s0.2.2.1,false,true,x92))
        else
         bif (decide ((w64 (Int.tdiv (w64 (s0.2.1-s0.1)) 8))≤(w64 (s0.2.1-x90.1)))) then
          (rc (w64 (x90.1+1)) s0.2.1 s0.2.2.1 x90.2).bind fun x93=>
          some (.inl (s0.1,x90.1,s0.2.2.1,true,true,x93))
         else
          (rc (w64 (x90.1+1)) s0.2.1 s0.2.2.1 x90.2).bind fun x94=>
          some (.inl (s0.1,x90.1,s0.2.2.1,false,true,x94))
       | (.inr x90)=>
        bif (decide ((w64 (x90.1-s0.1))<(w64 (s0.2.1-x90.1)))) then
         bif (decide ((w64 (Int.tdiv (w64 (s0.2.1-s0.1)) 8))≤(w64 (x90.1-s0.1)))) then
          (rc s0.1 x90.1 s0.2.2.1 x90.2).bind fun x95=>
          some (.inl ((w64 (x90.1+1)),s0.2.1,s0.2.2.1,true,false,x95))
         else
          (rc s0.1 x90.1 s0.2.2.1 x90.2).bind fun x96=>
          some (.inl ((w64 (x90.1+1)),s0.2.1,s0.2.2.1,false,false,x96))
        else
         bif (decide ((w64 (Int.tdiv (w64 (s0.2.1-s0.1)) 8))≤(w64 (s0.2.1-x90.1)))) then
          (rc (w64 (x90.1+1)) s0.2.1 s0.2.2.1 x90.2).bind fun x97=>
          some (.inl (s0.1,x90.1,s0.2.2.1,true,false,x97))
         else
          (rc (w64 (x90.1+1)) s0.2.1 s0.2.2.1 x90.2).bind fun x98=>
          some (.inl (s0.1,x90.1,s0.2.2.1,false,false,x98))
     else
      bif (decide (0<s0.1)) then
       (Zp s0.2.2.2.2.2 (w64 (s0.1-1))).bind fun x99=>
       (Zp s0.2.2.2.2.2 x75.1).bind fun x100=>
       (ZR x99 x100).bind fun x101=>
       bif x101 then
        (Zo s0.1 s0.2.1 x75.1 s0.2.2.2.2.2).bind fun x102=>
        match x102 with
        | (.inl x102)=>
         bif (decide ((w64 (x102.1-s0.1))<(w64 (s0.2.1-x102.1)))) then
          bif (decide ((w64 (Int.tdiv (w64 (s0.2.1-s0.1)) 8))≤(w64 (x102.1-s0.1)))) then
           (rc s0.1 x102.1 s0.2.2.1 x102.2).bind fun x103=>
           some (.inl ((w64 (x102.1+1)),s0.2.1,s0.2.2.1,true,true,x103))
          else
           (rc s0.1 x102.1 s0.2.2.1 x102.2).bind fun x104=>
           some (.inl ((w64 (x102.1+1)),s0.2.1,s0.2.2.1,false,true,x104))
         else
          bif (decide ((w64 (Int.tdiv (w64 (s0.2.1-s0.1)) 8))≤(w64 (s0.2.1-x102.1)))) then
           (rc (w64 (x102.1+1)) s0.2.1 s0.2.2.1 x102.2).bind fun x105=>
           some (.inl (s0.1,x102.1,s0.2.2.1,true,true,x105))
          else
           (rc (w64 (x102.1+1)) s0.2.1 s0.2.2.1 x102.2).bind fun x106=>
           some (.inl (s0.1,x102.1,s0.2.2.1,false,true,x106))
        | (.inr x102)=>
         bif (decide ((w64 (x102.1-s0.1))<(w64 (s0.2.1-x102.1)))) then
          bif (decide ((w64 (Int.tdiv (w64 (s0.2.1-s0.1)) 8))≤(w64 (x102.1-s0.1)))) then
           (rc s0.1 x102.1 s0.2.2.1 x102.2).bind fun x107=>
           some (.inl ((w64 (x102.1+1)),s0.2.1,s0.2.2.1,true,false,x107))
          else
           (rc s0.1 x102.1 s0.2.2.1 x102.2).bind fun x108=>
           some (.inl ((w64 (x102.1+1)),s0.2.1,s0.2.2.1,false,false,x108))
         else
          bif (decide ((w64 (Int.tdiv (w64 (s0.2.1-s0.1)) 8))≤(w64 (s0.2.1-x102.1)))) then
           (rc (w64 (x102.1+1)) s0.2.1 s0.2.2.1 x102.2).bind fun x109=>
           some (.inl (s0.1,x102.1,s0.2.2.1,true,false,x109))
          else
           (rc (w64 (x102.1+1)) s0.2.1 s0.2.2.1 x102.2).bind fun x110=>
           some (.inl (s0.1,x102.1,s0.2.2.1,false,false,x110))
       else
        (Zz s0.1 s0.2.1 x75.1 s0.2.2.2.2.2).bind fun x111=>
        some (.inl (x111.1,s0.2.1,s0.2.2.1,true,false,x111.2))
      else
       (Zo s0.1 s0.2.1 x75.1 s0.2.2.2.2.2).bind fun x112=>
       match x112 with
       | (.inl x112)=>
        bif (decide ((w64 (x112.1-s0.1))<(w64 (s0.2.1-x112.1)))) then
         bif (decide ((w64 (Int.tdiv (w64 (s0.2.1-s0.1)) 8))≤(w64 (x112.1-s0.1)))) then
          (rc s0.1 x112.1 s0.2.2.1 x112.2).bind fun x113=>
          some (.inl ((w64 (x112.1+1)),s0.2.1,s0.2.2.1,true,true,x113))
         else
          (rc s0.1 x112.1 s0.2.2.1 x112.2).bind fun x114=>
          some (.inl ((w64 (x112.1+1)),s0.2.1,s0.2.2.1,false,true,x114))
        else
         bif (decide ((w64 (Int.tdiv (w64 (s0.2.1-s0.1)) 8))≤(w64 (s0.2.1-x112.1)))) then
          (rc (w64 (x112.1+1)) s0.2.1 s0.2.2.1 x112.2).bind fun x115=>
          some (.inl (s0.1,x112.1,s0.2.2.1,true,true,x115))
         else
          (rc (w64 (x112.1+1)) s0.2.1 s0.2.2.1 x112.2).bind fun x116=>
          some (.inl (s0.1,x112.1,s0.2.2.1,false,true,x116))
       | (.inr x112)=>
        bif (decide ((w64 (x112.1-s0.1))<(w64 (s0.2.1-x112.1)))) then
         bif (decide ((w64 (Int.tdiv (w64 (s0.2.1-s0.1)) 8))≤(w64 (x112.1-s0.1)))) then
          (rc s0.1 x112.1 s0.2.2.1 x112.2).bind fun x117=>
          some (.inl ((w64 (x112.1+1)),s0.2.1,s0.2.2.1,true,false,x117))
         else
          (rc s0.1 x112.1 s0.2.2.1 x112.2).bind fun x118=>
          some (.inl ((w64 (x112.1+1)),s0.2.1,s0.2.2.1,false,false,x118))
        else
         bif (decide ((w64 (Int.tdiv (w64 (s0.2.1-s0.1)) 8))≤(w64 (s0.2.1-x112.1)))) then
          (rc (w64 (x112.1+1)) s0.2.1 s0.2.2.1 x112.2).bind fun x119=>
          some (.inl (s0.1,x112.1,s0.2.2.1,true,false,x119))
         else
          (rc (w64 (x112.1+1)) s0.2.1 s0.2.2.1 x112.2).bind fun x120=>
          some (.inl (s0.1,x112.1,s0.2.2.1,false,false,x120))
 else
  bif s0.2.2.2.2.1 then
   bif (decide ((w64 (s0.2.1-s0.1))≤12)) then
    (Zam s0.1 s0.2.1 s0.2.2.2.2.2).bind fun x121=>
    some (.inr x121)
   else
    bif (s0.2.2.1==0) then
     (ZaP s0.1 s0.2.1 s0.2.2.2.2.2).bind fun x122=>
     some (.inr x122)
    else
     (Za5 s0.1 s0.2.1 s0.2.2.2.2.2).bind fun x123=>
     (Zav s0.1 s0.2.1 x123).bind fun x124=>
     bif (x124.2==2) then
      (Zas s0.1 s0.2.1 x123).bind fun x125=>
      bif (decide (0<s0.1)) then
       (Zp x125 (w64 (s0.1-1))).bind fun x126=>
       (Zp x125 (w64 ((w64 (s0.2.1-1))-(w64 (x124.1-s0.1))))).bind fun x127=>
       (ZR x126 x127).bind fun x128=>
       bif x128 then
        (Zo s0.1 s0.2.1 (w64 ((w64 (s0.2.1-1))-(w64 (x124.1-s0.1)))) x125).bind fun x129=>
        match x129 with
        | (.inl x129)=>
         bif (decide ((w64 (x129.1-s0.1))<(w64 (s0.2.1-x129.1)))) then
          bif (decide ((w64 (Int.tdiv (w64 (s0.2.1-s0.1)) 8))≤(w64 (x129.1-s0.1)))) then
           (rc s0.1 x129.1 (w64 (s0.2.2.1-1)) x129.2).bind fun x130=>
           some (.inl ((w64 (x129.1+1)),s0.2.1,(w64 (s0.2.2.1-1)),true,true,x130))
          else
           (rc s0.1 x129.1 (w64 (s0.2.2.1-1)) x129.2).bind fun x131=>
           some (.inl ((w64 (x129.1+1)),s0.2.1,(w64 (s0.2.2.1-1)),false,true,x131))
         else
          bif (decide ((w64 (Int.tdiv (w64 (s0.2.1-s0.1)) 8))≤(w64 (s0.2.1-x129.1)))) then
           (rc (w64 (x129.1+1)) s0.2.1 (w64 (s0.2.2.1-1)) x129.2).bind fun x132=>
           some (.inl (s0.1,x129.1,(w64 (s0.2.2.1-1)),true,true,x132))
          else
           (rc (w64 (x129.1+1)) s0.2.1 (w64 (s0.2.2.1-1)) x129.2).bind fun x133=>
           some (.inl (s0.1,x129.1,(w64 (s0.2.2.1-1)),false,true,x133))
        | (.inr x129)=>
         bif (decide ((w64 (x129.1-s0.1))<(w64 (s0.2.1-x129.1)))) then
          bif (decide ((w64 (Int.tdiv (w64 (s0.2.1-s0.1)) 8))≤(w64 (x129.1-s0.1)))) then
           (rc s0.1 x129.1 (w64 (s0.2.2.1-1)) x129.2).bind fun x134=>
           some (.inl ((w64 (x129.1+1)),s0.2.1,(w64 (s0.2.2.1-1)),true,false,x134))
          else
           (rc s0.1 x129.1 (w64 (s0.2.2.1-1)) x129.2).bind fun x135=>
           some (.inl ((w64 (x129.1+1)),s0.2.1,(w64 (s0.2.2.1-1)),false,false,x135))
         else
          bif (decide ((w64 (Int.tdiv (w64 (s0.2.1-s0.1)) 8))≤(w64 (s0.2.1-x129.1)))) then
           (rc (w64 (x129.1+1)) s0.2.1 (w64 (s0.2.2.1-1)) x129.2).bind fun x136=>
           some (.inl (s0.1,x129.1,(w64 (s0.2.2.1-1)),true,false,x136))
          else
           (rc (w64 (x129.1+1)) s0.2.1 (w64 (s0.2.2.1-1)) x129.2).bind fun x137=>
           some (.inl (s0.1,x129.1,(w64 (s0.2.2.1-1)),false,false,x137))
       else
        (Zz s0.1 s0.2.1 (w64 ((w64 (s0.2.1-1))-(w64 (x124.1-s0.1)))) x125).bind fun x138=>
        some (.inl (x138.1,s0.2.1,(w64 (s0.2.2.1-1)),false,true,x138.2))
      else
       (Zo s0.1 s0.2.1 (w64 ((w64 (s0.2.1-1))-(w64 (x124.1-s0.1)))) x125).bind fun x139=>
       match x139 with
       | (.inl x139)=>
        bif (decide ((w64 (x139.1-s0.1))<(w64 (s0.2.1-x139.1)))) then
         bif (decide ((w64 (Int.tdiv (w64 (s0.2.1-s0.1)) 8))≤(w64 (x139.1-s0.1)))) then
          (rc s0.1 x139.1 (w64 (s0.2.2.1-1)) x139.2).bind fun x140=>
          some (.inl ((w64 (x139.1+1)),s0.2.1,(w64 (s0.2.2.1-1)),true,true,x140))
         else
          (rc s0.1 x139.1 (w64 (s0.2.2.1-1)) x139.2).bind fun x141=>
          some (.inl ((w64 (x139.1+1)),s0.2.1,(w64 (s0.2.2.1-1)),false,true,x141))
        else
         bif (decide ((w64 (Int.tdiv (w64 (s0.2.1-s0.1)) 8))≤(w64 (s0.2.1-x139.1)))) then
          (rc (w64 (x139.1+1)) s0.2.1 (w64 (s0.2.2.1-1)) x139.2).bind fun x142=>
          some (.inl (s0.1,x139.1,(w64 (s0.2.2.1-1)),true,true,x142))
         else
          (rc (w64 (x139.1+1)) s0.2.1 (w64 (s0.2.2.1-1)) x139.2).bind fun x143=>
          some (.inl (s0.1,x139.1,(w64 (s0.2.2.1-1)),false,true,x143))
       | (.inr x139)=>
        bif (decide ((w64 (x139.1-s0.1))<(w64 (s0.2.1-x139.1)))) then
         bif (decide ((w64 (Int.tdiv (w64 (s0.2.1-s0.1)) 8))≤(w64 (x139.1-s0.1)))) then
          (rc s0.1 x139.1 (w64 (s0.2.2.1-1)) x139.2).bind fun x144=>
          some (.inl ((w64 (x139.1+1)),s0.2.1,(w64 (s0.2.2.1-1)),true,false,x144))
         else
          (rc s0.1 x139.1 (w64 (s0.2.2.1-1)) x139.2).bind fun x145=>
          some (.inl ((w64 (x139.1+1)),s0.2.1,(w64 (s0.2.2.1-1)),false,false,x145))
        else
         bif (decide ((w64 (Int.tdiv (w64 (s0.2.1-s0.1)) 8))≤(w64 (s0.2.1-x139.1)))) then
          (rc (w64 (x139.1+1)) s0.2.1 (w64 (s0.2.2.1-1)) x139.2).bind fun x146=>
          some (.inl (s0.1,x139.1,(w64 (s0.2.2.1-1)),true,false,x146))
         else
          (rc (w64 (x139.1+1)) s0.2.1 (w64 (s0.2.2.1-1)) x139.2).bind fun x147=>
          some (.inl (s0.1,x139.1,(w64 (s0.2.2.1-1)),false,false,x147))
     else
      bif (decide (0<s0.1)) then
       (Zp x123 (w64 (s0.1-1))).bind fun x148=>
       (Zp x123 x124.1).bind fun x149=>
       (ZR x148 x149).bind fun x150=>
       bif x150 then
        (Zo s0.1 s0.2.1 x124.1 x123).bind fun x151=>
        match x151 with
        | (.inl x151)=>
         bif (decide ((w64 (x151.1-s0.1))<(w64 (s0.2.1-x151.1)))) then
          bif (decide ((w64 (Int.tdiv (w64 (s0.2.1-s0.1)) 8))≤(w64 (x151.1-s0.1)))) then
           (rc s0.1 x151.1 (w64 (s0.2.2.1-1)) x151.2).bind fun x152=>
           some (.inl ((w64 (x151.1+1)),s0.2.1,(w64 (s0.2.2.1-1)),true,true,x152))
          else
           (rc s0.1 x151.1 (w64 (s0.2.2.1-1)) x151.2).bind fun x153=>
           some (.inl ((w64 (x151.1+1)),s0.2.1,(w64 (s0.2.2.1-1)),false,true,x153))
         else
          bif (decide ((w64 (Int.tdiv (w64 (s0.2.1-s0.1)) 8))≤(w64 (s0.2.1-x151.1)))) then
           (rc (w64 (x151.1+1)) s0.2.1 (w64 (s0.2.2.1-1)) x151.2).bind fun x154=>
           some (.inl (s0.1,x151.1,(w64 (s0.2.2.1-1)),true,true,x154))
          else
           (rc (w64 (x151.1+1)) s0.2.1 (w64 (s0.2.2.1-1)) x151.2).bind fun x155=>
           some (.inl (s0.1,x151.1,(w64 (s0.2.2.1-1)),false,true,x155))
        | (.inr x151)=>
         bif (decide ((w64 (x151.1-s0.1))<(w64 (s0.2.1-x151.1)))) then
          bif (decide ((w64 (Int.tdiv (w64 (s0.2.1-s0.1)) 8))≤(w64 (x151.1-s0.1)))) then
           (rc s0.1 x151.1 (w64 (s0.2.2.1-1)) x151.2).bind fun x156=>
           some (.inl ((w64 (x151.1+1)),s0.2.1,(w64 (s0.2.2.1-1)),true,false,x156))
          else
           (rc s0.1 x151.1 (w64 (s0.2.2.1-1)) x151.2).bind fun x157=>
           some (.inl ((w64 (x151.1+1)),s0.2.1,(w64 (s0.2.2.1-1)),false,false,x157))
         else
          bif (decide ((w64 (Int.tdiv (w64 (s0.2.1-s0.1)) 8))≤(w64 (s0.2.1-x151.1)))) then
           (rc (w64 (x151.1+1)) s0.2.1 (w64 (s0.2.2.1-1)) x151.2).bind fun x158=>
           some (.inl (s0.1,x151.1,(w64 (s0.2.2.1-1)),true,false,x158))
          else
           (rc (w64 (x151.1+1)) s0.2.1 (w64 (s0.2.2.1-1)) x151.2).bind fun x159=>
           some (.inl (s0.1,x151.1,(w64 (s0.2.2.1-1)),false,false,x159))
       else
        (Zz s0.1 s0.2.1 x124.1 x123).bind fun x160=>
        some (.inl (x160.1,s0.2.1,(w64 (s0.2.2.1-1)),false,true,x160.2))
      else
       (Zo s0.1 s0.2.1 x124.1 x123).bind fun x161=>
       match x161 with
       | (.inl x161)=>
        bif (decide ((w64 (x161.1-s0.1))<(w64 (s0.2.1-x161.1)))) then
         bif (decide ((w64 (Int.tdiv (w64 (s0.2.1-s0.1)) 8))≤(w64 (x161.1-s0.1)))) then
          (rc s0.1 x161.1 (w64 (s0.2.2.1-1)) x161.2).bind fun x162=>
          some (.inl ((w64 (x161.1+1)),s0.2.1,(w64 (s0.2.2.1-1)),true,true,x162))
         else
          (rc s0.1 x161.1 (w64 (s0.2.2.1-1)) x161.2).bind fun x163=>
          some (.inl ((w64 (x161.1+1)),s0.2.1,(w64 (s0.2.2.1-1)),false,true,x163))
        else
         bif (decide ((w64 (Int.tdiv (w64 (s0.2.1-s0.1)) 8))≤(w64 (s0.2.1-x161.1)))) then
          (rc (w64 (x161.1+1)) s0.2.1 (w64 (s0.2.2.1-1)) x161.2).bind fun x164=>
          some (.inl (s0.1,x161.1,(w64 (s0.2.2.1-1)),true,true,x164))
         else
          (rc (w64 (x161.1+1)) s0.2.1 (w64 (s0.2.2.1-1)) x161.2).bind fun x165=>
          some (.inl (s0.1,x161.1,(w64 (s0.2.2.1-1)),false,true,x165))
       | (.inr x161)=>
        bif (decide ((w64 (x161.1-s0.1))<(w64 (s0.2.1-x161.1)))) then
         bif (decide ((w64 (Int.tdiv (w64 (s0.2.1-s0.1)) 8))≤(w64 (x161.1-s0.1)))) then
          (rc s0.1 x161.1 (w64 (s0.2.2.1-1)) x161.2).bind fun x166=>
          some (.inl ((w64 (x161.1+1)),s0.2.1,(w64 (s0.2.2.1-1)),true,false,x166))
         else
          (rc s0.1 x161.1 (w64 (s0.2.2.1-1)) x161.2).bind fun x167=>
          some (.inl ((w64 (x161.1+1)),s0.2.1,(w64 (s0.2.2.1-1)),false,false,x167))
        else
         bif (decide ((w64 (Int.tdiv (w64 (s0.2.1-s0.1)) 8))≤(w64 (s0.2.1-x161.1)))) then
          (rc (w64 (x161.1+1)) s0.2.1 (w64 (s0.2.2.1-1)) x161.2).bind fun x168=>
          some (.inl (s0.1,x161.1,(w64 (s0.2.2.1-1)),true,false,x168))
         else
          (rc (w64 (x161.1+1)) s0.2.1 (w64 (s0.2.2.1-1)) x161.2).bind fun x169=>
          some (.inl (s0.1,x161.1,(w64 (s0.2.2.1-1)),false,false,x169))
  else
   bif (decide ((w64 (s0.2.1-s0.1))≤12)) then
    (Zam s0.1 s0.2.1 s0.2.2.2.2.2).bind fun x170=>
    some (.inr x170)
   else
    bif (s0.2.2.1==0) then
     (ZaP s0.1 s0.2.1 s0.2.2.2.2.2).bind fun x171=>
     some (.inr x171)
    else
     (Za5 s0.1 s0.2.1 s0.2.2.2.2.2).bind fun x172=>
     (Zav s0.1 s0.2.1 x172).bind fun x173=>
     bif (x173.2==2) then
      (Zas s0.1 s0.2.1 x172).bind fun x174=>
      bif (decide (0<s0.1)) then
       (Zp x174 (w64 (s0.1-1))).bind fun x175=>
       (Zp x174 (w64 ((w64 (s0.2.1-1))-(w64 (x173.1-s0.1))))).bind fun x176=>
       (ZR x175 x176).bind fun x177=>
       bif x177 then
        (Zo s0.1 s0.2.1 (w64 ((w64 (s0.2.1-1))-(w64 (x173.1-s0.1)))) x174).bind fun x178=>
        match x178 with
        | (.inl x178)=>
         bif (decide ((w64 (x178.1-s0.1))<(w64 (s0.2.1-x178.1)))) then
          bif (decide ((w64 (Int.tdiv (w64 (s0.2.1-s0.1)) 8))≤(w64 (x178.1-s0.1)))) then
           (rc s0.1 x178.1 (w64 (s0.2.2.1-1)) x178.2).bind fun x179=>
           some (.inl ((w64 (x178.1+1)),s0.2.1,(w64 (s0.2.2.1-1)),true,true,x179))
          else
           (rc s0.1 x178.1 (w64 (s0.2.2.1-1)) x178.2).bind fun x180=>
           some (.inl ((w64 (x178.1+1)),s0.2.1,(w64 (s0.2.2.1-1)),false,true,x180))
         else
          bif (decide ((w64 (Int.tdiv (w64 (s0.2.1-s0.1)) 8))≤(w64 (s0.2.1-x178.1)))) then
           (rc (w64 (x178.1+1)) s0.2.1 (w64 (s0.2.2.1-1)) x178.2).bind fun x181=>
           some (.inl (s0.1,x178.1,(w64 (s0.2.2.1-1)),true,true,x181))
          else
           (rc (w64 (x178.1+1)) s0.2.1 (w64 (s0.2.2.1-1)) x178.2).bind fun x182=>
           some (.inl (s0.1,x178.1,(w64 (s0.2.2.1-1)),false,true,x182))
        | (.inr x178)=>
         bif (decide ((w64 (x178.1-s0.1))<(w64 (s0.2.1-x178.1)))) then
          bif (decide ((w64 (Int.tdiv (w64 (s0.2.1-s0.1)) 8))≤(w64 (x178.1-s0.1)))) then
           (rc s0.1 x178.1 (w64 (s0.2.2.1-1)) x178.2).bind fun x183=>
           some (.inl ((w64 (x178.1+1)),s0.2.1,(w64 (s0.2.2.1-1)),true,false,x183))
          else
           (rc s0.1 x178.1 (w64 (s0.2.2.1-1)) x178.2).bind fun x184=>
           some (.inl ((w64 (x178.1+1)),s0.2.1,(w64 (s0.2.2.1-1)),false,false,x184))
         else
          bif (decide ((w64 (Int.tdiv (w64 (s0.2.1-s0.1)) 8))≤(w64 (s0.2.1-x178.1)))) then
           (rc (w64 (x178.1+1)) s0.2.1 (w64 (s0.2.2.1-1)) x178.2).bind fun x185=>
           some (.inl (s0.1,x178.1,(w64 (s0.2.2.1-1)),true,false,x185))
          else
           (rc (w64 (x178.1+1)) s0.2.1 (w64 (s0.2.2.1-1)) x178.2).bind fun x186=>
           some (.inl (s0.1,x178.1,(w64 (s0.2.2.1-1)),false,false,x186))
       else
        (Zz s0.1 s0.2.1 (w64 ((w64 (s0.2.1-1))-(w64 (x173.1-s0.1)))) x174).bind fun x187=>
        some (.inl (x187.1,s0.2.1,(w64 (s0.2.2.1-1)),false,false,x187.2))
      else
       (Zo s0.1 s0.2.1 (w64 ((w64 (s0.2.1-1))-(w64 (x173.1-s0.1)))) x174).bind fun x188=>
       match x188 with
       | (.inl x188)=>
        bif (decide ((w64 (x188.1-s0.1))<(w64 (s0.2.1-x188.1)))) then
         bif (decide ((w64 (Int.tdiv (w64 (s0.2.1-s0.1)) 8))≤(w64 (x188.1-s0.1)))) then
          (rc s0.1 x188.1 (w64 (s0.2.2.1-1)) x188.2).bind fun x189=>
          some (.inl ((w64 (x188.1+1)),s0.2.1,(w64 (s0.2.2.1-1)),true,true,x189))
         else
          (rc s0.1 x188.1 (w64 (s0.2.2.1-1)) x188.2).bind fun x190=>
          some (.inl ((w64 (x188.1+1)),s0.2.1,(w64 (s0.2.2.1-1)),false,true,x190))
        else
         bif (decide ((w64 (Int.tdiv (w64 (s0.2.1-s0.1)) 8))≤(w64 (s0.2.1-x188.1)))) then
          (rc (w64 (x188.1+1)) s0.2.1 (w64 (s0.2.2.1-1)) x188.2).bind fun x191=>
          some (.inl (s0.1,x188.1,(w64 (s0.2.2.1-1)),true,true,x191))
         else
          (rc (w64 (x188.1+1)) s0.2.1 (w64 (s0.2.2.1-1)) x188.2).bind fun x192=>
          some (.inl (s0.1,x188.1,(w64 (s0.2.2.1-1)),false,true,x192))
       | (.inr x188)=>
        bif (decide ((w64 (x188.1-s0.1))<(w64 (s0.2.1-x188.1)))) then
         bif (decide ((w64 (Int.tdiv (w64 (s0.2.1-s0.1)) 8))≤(w64 (x188.1-s0.1)))) then
          (rc s0.1 x188.1 (w64 (s0.2.2.1-1)) x188.2).bind fun x193=>
          some (.inl ((w64 (x188.1+1)),s0.2.1,(w64 (s0.2.2.1-1)),true,false,x193))
         else
          (rc s0.1 x188.1 (w64 (s0.2.2.1-1)) x188.2).bind fun x194=>
          some (.inl ((w64 (x188.1+1)),s0.2.1,(w64 (s0.2.2.1-1)),false,false,x194))
        else
         bif (decide ((w64 (Int.tdiv (w64 (s0.2.1-s0.1)) 8))≤(w64 (s0.2.1-x188.1)))) then
          (rc (w64 (x188.1+1)) s0.2.1 (w64 (s0.2.2.1-1)) x188.2).bind fun x195=>
          some (.inl (s0.1,x188.1,(w64 (s0.2.2.1-1)),true,false,x195))
         else
          (rc (w64 (x188.1+1)) s0.2.1 (w64 (s0.2.2.1-1)) x188.2).bind fun x196=>
          some (.inl (s0.1,x188.1,(w64 (s0.2.2.1-1)),false,false,x196))
     else
      bif (decide (0<s0.1)) then
       (Zp x172 (w64 (s0.1-1))).bind fun x197=>
       (Zp x172 x173.1).bind fun x198=>
       (ZR x197 x198).bind fun x199=>
       bif x199 then
        (Zo s0.1 s0.2.1 x173.1 x172).bind fun x200=>
        match x200 with
        | (.inl x200)=>
         bif (decide ((w64 (x200.1-s0.1))<(w64 (s0.2.1-x200.1)))) then
          bif (decide ((w64 (Int.tdiv (w64 (s0.2.1-s0.1)) 8))≤(w64 (x200.1-s0.1)))) then
           (rc s0.1 x200.1 (w64 (s0.2.2.1-1)) x200.2).bind fun x201=>
           some (.inl ((w64 (x200.1+1)),s0.2.1,(w64 (s0.2.2.1-1)),true,true,x201))
          else
           (rc s0.1 x200.1 (w64 (s0.2.2.1-1)) x200.2).bind fun x202=>
           some (.inl ((w64 (x200.1+1)),s0.2.1,(w64 (s0.2.2.1-1)),false,true,x202))
         else
          bif (decide ((w64 (Int.tdiv (w64 (s0.2.1-s0.1)) 8))≤(w64 (s0.2.1-x200.1)))) then
           (rc (w64 (x200.1+1)) s0.2.1 (w64 (s0.2.2.1-1)) x200.2).bind fun x203=>
           some (.inl (s0.1,x200.1,(w64 (s0.2.2.1-1)),true,true,x203))
          else
           (rc (w64 (x200.1+1)) s0.2.1 (w64 (s0.2.2.1-1)) x200.2).bind fun x204=>
           some (.inl (s0.1,x200.1,(w64 (s0.2.2.1-1)),false,true,x204))
        | (.inr x200)=>
         bif (decide ((w64 (x200.1-s0.1))<(w64 (s0.2.1-x200.1)))) then
          bif (decide ((w64 (Int.tdiv (w64 (s0.2.1-s0.1)) 8))≤(w64 (x200.1-s0.1)))) then
           (rc s0.1 x200.1 (w64 (s0.2.2.1-1)) x200.2).bind fun x205=>
           some (.inl ((w64 (x200.1+1)),s0.2.1,(w64 (s0.2.2.1-1)),true,false,x205))
          else
           (rc s0.1 x200.1 (w64 (s0.2.2.1-1)) x200.2).bind fun x206=>
           some (.inl ((w64 (x200.1+1)),s0.2.1,(w64 (s0.2.2.1-1)),false,false,x206))
         else
          bif (decide ((w64 (Int.tdiv (w64 (s0.2.1-s0.1)) 8))≤(w64 (s0.2.1-x200.1)))) then
           (rc (w64 (x200.1+1)) s0.2.1 (w64 (s0.2.2.1-1)) x200.2).bind fun x207=>
           some (.inl (s0.1,x200.1,(w64 (s0.2.2.1-1)),true,false,x207))
          else
           (rc (w64 (x200.1+1)) s0.2.1 (w64 (s0.2.2.1-1)) x200.2).bind fun x208=>
           some (.inl (s0.1,x200.1,(w64 (s0.2.2.1-1)),false,false,x208))
       else
        (Zz s0.1 s0.2.1 x173.1 x172).bind fun x209=>
        some (.inl (x209.1,s0.2.1,(w64 (s0.2.2.1-1)),false,false,x209.2))
      else
       (Zo s0.1 s0.2.1 x173.1 x172).bind fun x210=>
       match x210 with
       | (.inl x210)=>
        bif (decide ((w64 (x210.1-s0.1))<(w64 (s0.2.1-x210.1)))) then
         bif (decide ((w64 (Int.tdiv (w64 (s0.2.1-s0.1)) 8))≤(w64 (x210.1-s0.1)))) then
          (rc s0.1 x210.1 (w64 (s0.2.2.1-1)) x210.2).bind fun x211=>
          some (.inl ((w64 (x210.1+1)),s0.2.1,(w64 (s0.2.2.1-1)),true,true,x211))
         else
          (rc s0.1 x210.1 (w64 (s0.2.2.1-1)) x210.2).bind fun x212=>
          some (.inl ((w64 (x210.1+1)),s0.2.1,(w64 (s0.2.2.1-1)),false,true,x212))
        else
         bif (decide ((w64 (Int.tdiv (w64 (s0.2.1-s0.1)) 8))≤(w64 (s0.2.1-x210.1)))) then
          (rc (w64 (x210.1+1)) s0.2.1 (w64 (s0.2.2.1-1)) x210.2).bind fun x213=>
          some (.inl (s0.1,x210.1,(w64 (s0.2.2.1-1)),true,true,x213))
         else
          (rc (w64 (x210.1+1)) s0.2.1 (w64 (s0.2.2.1-1)) x210.2).bind fun x214=>
          some (.inl (s0.1,x210.1,(w64 (s0.2.2.1-1)),false,true,x214))
       | (.inr x210)=>
        bif (decide ((w64 (x210.1-s0.1))<(w64 (s0.2.1-x210.1)))) then
         bif (decide ((w64 (Int.tdiv (w64 (s0.2.1-s0.1)) 8))≤(w64 (x210.1-s0.1)))) then
          (rc s0.1 x210.1 (w64 (s0.2.2.1-1)) x210.2).bind fun x215=>
          some (.inl ((w64 (x210.1+1)),s0.2.1,(w64 (s0.2.2.1-1)),true,false,x215))
         else
          (rc s0.1 x210.1 (w64 (s0.2.2.1-1)) x210.2).bind fun x216=>
          some (.inl ((w64 (x210.1+1)),s0.2.1,(w64 (s0.2.2.1-1)),false,false,x216))
        else
         bif (decide ((w64 (Int.tdiv (w64 (s0.2.1-s0.1)) 8))≤(w64 (s0.2.1-x210.1)))) then
          (rc (w64 (x210.1+1)) s0.2.1 (w64 (s0.2.2.1-1)) x210.2).bind fun x217=>
          some (.inl (s0.1,x210.1,(w64 (s0.2.2.1-1)),true,false,x217))
         else
          (rc (w64 (x210.1+1)) s0.2.1 (w64 (s0.2.2.1-1)) x210.2).bind fun x218=>
          some (.inl (s0.1,x210.1,(w64 (s0.2.2.1-1)),false,false,x218))
def Zb9 (rc:Int→Int→Int→(List Int)→Option (List Int)) (b:Int) (c:Int) (d:Int) (m0_0:List Int):Option (List Int):=
 (lp (ZaD rc) (b,c,d,true,true,m0_0)).bind fun r219=>
 some r219
def ZaG:Nat→Int→Int→Int→(List Int)→Option (List Int)
 | 0=>fun _ _ _ _=>none
 | n+1=>Zb9 (ZaG n)
def Zdv (b:Int) (c:Int) (d:Int) (m0_0:List Int):Option (List Int):=ZwY fun n=>ZaG n b c d m0_0
def ZbN (m0_0:List Int):Option (List Int):=
 (Zev (u64.wrap (m0_0.length:Int))).bind fun x0=>
 (Zdv 0 (m0_0.length:Int) x0 m0_0).bind fun x1=>
 some x1
def Zfh (m0_0:List Int) (s0:Int×(List Int)×(List Int)×(List Int)):Option ((Int×(List Int)×(List Int)×(List Int))⊕((List Int)×(List Int)×(List Int))):=
 bif (decide (s0.1<(m0_0.length:Int))) then
  (Zp s0.2.1 s0.1).bind fun x1=>
  bif (x1==(-1)) then
   some (.inl ((w64 (s0.1+1)),s0.2.1,s0.2.2.1,s0.2.2.2))
  else
   (Zp s0.2.2.1 x1).bind fun x2=>
   (Zfk (ZbM.mk s0.2.1 (List.set s0.2.2.1 x1.toNat (w64 (x2-1)))) x1).bind fun x3=>
   bif x3 then
    bif (Nat.ble (List.length s0.2.2.2+1) lim) then
     some (.inl ((w64 (s0.1+1)),(List.set s0.2.1 s0.1.toNat (-1)),(List.set s0.2.2.1 x1.toNat (w64 (x2-1))),(s0.2.2.2++[x1])))
    else
     none
   else
    some (.inl ((w64 (s0.1+1)),s0.2.1,(List.set s0.2.2.1 x1.toNat (w64 (x2-1))),s0.2.2.2))
 else
  some (.inr (s0.2.1,s0.2.2.1,s0.2.2.2))
def Zl0 (m0_0:List Int) (m1_0:List Int):Option ((List Int)×(List Int)×(List Int)):=
 (lp (Zfh m0_0) (0,m0_0,m1_0,([]:List Int))).bind fun r4=>
 (ZbN r4.2.2).bind fun x5=>
 some (r4.1,r4.2.1,x5)
def Zjx (a:Zx) (b:ZbM):Option (Int⊕((List Int)×(List Int)×(List Int))):=
 (Zhy a b).bind fun x0=>
 bif (x0 != 0) then
  some (.inl x0)
 else
  (ZmJ b).bind fun x1=>
  (Zl0 b.on b.left).bind fun x2=>
  some (.inr (x2.1,x2.2.1,x2.2.2))
def ZfJ (a:Zy) (b0:Int):Option (Int×Bool):=
 bif (a.src==b0) then
  some (a.dst,true)
 else
  some (a.dst,false)
def Zdz (a:Zx) (b:(Zy→Option (Int×Bool))) (s0:Int×(List Int)):Option ((Int×(List Int))⊕(List Int)):=
 bif (decide (s0.1<(a.edges.length:Int))) then
  (Zp a.edges s0.1).bind fun x1=>
  (b x1).bind fun x2=>
  bif x2.2 then
   bif (Nat.ble (List.length s0.2+1) lim) then
    some (.inl ((w64 (s0.1+1)),(s0.2++[x2.1])))
   else
    none
  else
   some (.inl ((w64 (s0.1+1)),s0.2))
 else
  some (.inr s0.2)
def ZiR (a:Zx) (b:(Zy→Option (Int×Bool))):Option (List Int):=
 (lp (Zdz a b) (0,([]:List Int))).bind fun r3=>
 (ZbN r3).bind fun x4=>
 some x4
def Zjy (a:Zx) (b:Int):Option (List Int):=
 (Zfo a).bind fun x0=>
 bif (x0 != 0) then
  some ([]:List Int)
 else
  (ZiR a (fun z0=>ZfJ z0 b)).bind fun x1=>
  some x1
def Zcs (x2:List Int) (s3:Int×(List Zk)×(List Int)) (x6:List Int) (s7:Int×(List Zk)×(List Int)):Option ((Int×(List Zk)×(List Int))⊕(((List Zk)×(List Int))⊕((List Zk)×(List Int)))):=
 bif (decide (s7.1<(x6.length:Int))) then
  (Zp x6 s7.1).bind fun x8=>
  (Z2 x2 x8).bind fun x9=>
  bif x9 then
   (Z2 s7.2.2 x8).bind fun x10=>
   bif x10 then
    some (.inl ((w64 (s7.1+1)),s7.2.1,s7.2.2))
   else
    (ZeC s3.1 x8 s7.2.1).bind fun x11=>
    match x11 with
    | (.inl x11)=>
     bif (Nat.ble (List.length s7.2.2+1) lim) then
      some (.inl ((w64 (s7.1+1)),x11,(s7.2.2++[x8])))
     else
      none
    | (.inr x11)=>
     some (.inr (.inl (x11,s7.2.2)))
  else
   some (.inl ((w64 (s7.1+1)),s7.2.1,s7.2.2))
 else
  some (.inr (.inr (s7.2.1,s7.2.2)))
def Zcu (m0_0:List Int) (m0_1:List Zy) (m1_0:List Int) (x1:((List Int)×(List Int)×(List Int))) (x2:List Int) (s3:Int×(List Zk)×(List Int)):Option ((Int×(List Zk)×(List Int))⊕((List Zk)⊕(List Zk))):=
 bif (decide (s3.1<(m1_0.length:Int))) then
  (Zp m1_0 s3.1).bind fun x4=>
  bif (x4==(-1)) then
   some (.inl ((w64 (s3.1+1)),s3.2.1,s3.2.2))
  else
   (Zp x1.1 s3.1).bind fun x5=>
   bif (x5 != (-1)) then
    some (.inl ((w64 (s3.1+1)),s3.2.1,s3.2.2))
   else
    (Zjy (Zx.mk m0_0 m0_1) x4).bind fun x6=>
    (lp (Zcs x2 s3 x6) (0,s3.2.1,s3.2.2)).bind fun r12=>
    match r12 with
    | (.inl r12)=>
     some (.inr (.inl r12.1))
    | (.inr r12)=>
     some (.inl ((w64 (s3.1+1)),r12.1,r12.2))
 else
  some (.inr (.inr s3.2.1))
def Zf2 (m0_0:List Int) (m0_1:List Zy) (m1_0:List Int) (m2_0:List Int) (m3_0:List Zk):Option (Int⊕(((List Zk)×(List Int)×(List Int))⊕((List Zk)×(List Int)×(List Int)×(List Int)))):=
 (ZaE m1_0).bind fun x0=>
 (Zjx (Zx.mk m0_0 m0_1) (ZbM.mk m1_0 m2_0)).bind fun x1=>
 match x1 with
 | (.inl x1)=>
  bif (x1 != 0) then
   some (.inl x1)
  else
   none
 | (.inr x1)=>
  (Zfx (Zx.mk m0_0 m0_1) (ZbM.mk x1.1 x1.2.1)).bind fun x2=>
  (lp (Zcu m0_0 m0_1 m1_0 x1 x2) (0,m3_0,([]:List Int))).bind fun r13=>
  match r13 with
  | (.inl r13)=>
   some (.inr (.inl (r13,x1.1,x1.2.1)))
  | (.inr r13)=>
   some (.inr (.inr (r13,x1.2.2,x1.1,x1.2.1)))
def ZdF (a:Int):Option Bool:=
 bif (decide (0<a)) then
  some true
 else
  some false
def Zgh (b:List Int) (s1:Int×Int):Option ((Int×Int)⊕Int):=
 bif (decide (s1.2<(b.length:Int))) then
  (Zp b s1.2).bind fun x2=>
  some (.inl ((w64 (s1.1+x2)),(w64 (s1.2+1))))
 else
  some (.inr s1.1)
def ZdS (a:Zx) (d:List Int) (s4:Int×Int×(List (List Int))×(List Int)×(List Int)×(List Zk)×(List Zu)×(List Int)):Option ((Int×Int×(List (List Int))×(List Int)×(List Int)×(List Zk)×(List Zu)×(List Int))⊕((Int×Int×(List (List Int)))⊕(Int×(List (List Int))))):=
 (ZX s4.2.2.2.2.1 (fun z0=>ZdF z0)).bind fun x5=>
 bif x5 then
  bif (decide (0≤(bif decide ((d.length:Int)<s4.1) then (d.length:Int) else s4.1))) then
   bif (Nat.ble (bif decide ((d.length:Int)<s4.1) then (d.length:Int) else s4.1).toNat (List.length d)) then
    (ZfY (List.drop (bif decide ((d.length:Int)<s4.1) then (d.length:Int) else s4.1).toNat d) a.work a.edges s4.2.2.2.1 s4.2.2.2.2.1 s4.2.2.2.2.2.1 s4.2.2.2.2.2.2.1 s4.2.2.2.2.2.2.2).bind fun x6=>
    bif (x6.2.1 != 0) then
     some (.inr (.inl (x6.2.1,s4.1,s4.2.2.1)))
    else
     (ZaE x6.2.2.2.1).bind fun x7=>
     bif (Nat.ble (List.length s4.2.2.1+1) lim) then
      (Zf2 a.work a.edges x6.2.2.2.1 s4.2.2.2.2.1 x6.2.2.2.2.1).bind fun x8=>
      match x8 with
      | (.inl x8)=>
       bif (x8 != 0) then
        some (.inr (.inl (x8,(w64 (s4.1+x6.1)),(s4.2.2.1++[x6.2.2.2.1]))))
       else
        none
      | (.inr (.inl x8))=>
       some (.inr (.inl (130,(w64 (s4.1+x6.1)),(s4.2.2.1++[x6.2.2.2.1]))))
      | (.inr (.inr x8))=>
       some (.inl ((w64 (s4.1+x6.1)),x6.2.2.1,(s4.2.2.1++[x6.2.2.2.1]),x8.2.2.1,x8.2.2.2,x8.1,x6.2.2.2.2.2.1,x6.2.2.2.2.2.2))
     else
      none
   else
    none
  else
   none
 else
  some (.inr (.inr (s4.1,s4.2.2.1)))
def Zhe (a:Zx) (b:List Int) (c:Int) (d:List Int):Option ((List (List Int))×Int×Int):=
 (Zhc a b c).bind fun x0=>
 match x0 with
 | (.inl x0)=>
  bif (x0 != 0) then
   some (([]:List (List Int)),0,x0)
  else
   none
 | (.inr x0)=>
  (lp (Zgh b) (0,0)).bind fun r3=>
  bif (decide (4096<r3)) then
   some (([]:List (List Int)),0,100)
  else
   (lp (ZdS a d) (0,0,([]:(List (List Int))),x0.1,b,x0.2,(List.replicate c.toNat ((Zu.mk false 0 0 0 0 0):Zu)),(List.replicate c.toNat (0:Int)))).bind fun r9=>
   match r9 with
   | (.inl r9)=>
    some (([]:List (List Int)),0,r9.1)
   | (.inr r9)=>
    some (r9.2,r9.1,0)
def ZiN (a:Zx) (b:List Int) (c:Int) (d:(List (List Int))):Option (List Int):=
 (Zgy a b c d).bind fun x0=>
 match x0 with
 | (.inl x0)=>
  bif (x0 != 0) then
   some ([]:List Int)
  else
   none
 | (.inr x0)=>
  bif (x0.1 != 0) then
   some ([]:List Int)
  else
   some x0.2.2.2
def Zb3 (b:Int) (c:List Int) (m1_0:List Int) (m2_0:List Int) (m2_1:List Zy) (m4_0:List Int) (m6_0:List Int) (s0:Int×Bool):Option ((Int×Bool)⊕Bool):=
 bif (decide (s0.1<(m1_0.length:Int))) then
  (Zp m4_0 s0.1).bind fun x1=>
  bif (x1==0) then
   (Z2 c (-1)).bind fun x2=>
   bif x2 then
    (Z2 c s0.1).bind fun x3=>
    bif x3 then
     some (.inl ((w64 (s0.1+1)),s0.2))
    else
     (Zdf m6_0 (Zx.mk m2_0 m2_1) s0.1 b).bind fun x4=>
     bif x4 then
      some (.inl ((w64 (s0.1+1)),false))
     else
      some (.inl ((w64 (s0.1+1)),s0.2))
   else
    some (.inl ((w64 (s0.1+1)),s0.2))
  else
   some (.inl ((w64 (s0.1+1)),s0.2))
 else
  some (.inr s0.2)
def Ze1 (b:Int) (c:List Int) (m1_0:List Int) (m2_0:List Int) (m2_1:List Zy) (m3_0:Bool) (m4_0:List Int) (m6_0:List Int):Option Bool:=
 (lp (Zb3 b c m1_0 m2_0 m2_1 m4_0 m6_0) (0,m3_0)).bind fun r5=>
 some r5
def ZdY (a:Zx) (b:List Int) (s3:Int×Int×Bool×(List Int)×(List Z8)×(List Int)) (x4:List Int) (s5:Int×Int):Option ((Int×Int)⊕(Int⊕Int)):=
 bif (decide (s5.2<(x4.length:Int))) then
  (Zp x4 s5.2).bind fun x6=>
  bif (x6==(-1)) then
   some (.inl (s5.1,(w64 (s5.2+1))))
  else
   (ZcP b s3.2.2.2.1 s3.2.2.2.2.1 s3.2.2.2.2.2 a x4 s3.2.1 s5.2).bind fun x7=>
   bif (x7 != 0) then
    some (.inr (.inl x7))
   else
    some (.inl (x7,(w64 (s5.2+1))))
 else
  some (.inr (.inr s5.1))
def ZdR (b:List Int) (s3:Int×Int×Bool×(List Int)×(List Z8)×(List Int)) (x4:List Int) (s10:Int×(List Int)×(List Z8)×(List Int)):Option ((Int×(List Int)×(List Z8)×(List Int))⊕((List Int)×(List Z8)×(List Int))):=
 bif (decide (s10.1<(x4.length:Int))) then
  (Zp x4 s10.1).bind fun x11=>
  bif (x11 != (-1)) then
   (ZdH x11 s3.2.1 s10.1 b s10.2.1 s10.2.2.1 s10.2.2.2).bind fun x12=>
   some (.inl ((w64 (s10.1+1)),x12.1,(List.set s10.2.2.1 x11.toNat (Z8.mk s3.2.1 s10.1)),x12.2))
  else
   some (.inl ((w64 (s10.1+1)),s10.2.1,s10.2.2.1,s10.2.2.2))
 else
  some (.inr (s10.2.1,s10.2.2.1,s10.2.2.2))
def ZcN (a:Zx) (b:List Int) (d:(List (List Int))) (m0_0:List Int) (m1_0:List Int) (m1_1:List Zy) (s3:Int×Int×Bool×(List Int)×(List Z8)×(List Int)):Option ((Int×Int×Bool×(List Int)×(List Z8)×(List Int))⊕(Int×Bool×(List Int)×(List Z8)×(List Int))):=
 bif (decide (s3.2.1<(d.length:Int))) then
  (Zp d s3.2.1).bind fun x4=>
  (lp (ZdY a b s3 x4) (s3.1,0)).bind fun r8=>
  match r8 with
  | (.inl r8)=>
   some (.inr (r8,s3.2.2.1,s3.2.2.2.1,s3.2.2.2.2.1,s3.2.2.2.2.2))
  | (.inr r8)=>
   (Ze1 s3.2.1 x4 m0_0 m1_0 m1_1 s3.2.2.1 s3.2.2.2.1 s3.2.2.2.2.2).bind fun x9=>
   (lp (ZdR b s3 x4) (0,s3.2.2.2.1,s3.2.2.2.2.1,s3.2.2.2.2.2)).bind fun r13=>
   some (.inl (r8,(w64 (s3.2.1+1)),x9,r13.1,r13.2.1,r13.2.2))
 else
  some (.inr (s3.1,s3.2.2.1,s3.2.2.2.1,s3.2.2.2.2.1,s3.2.2.2.2.2))
def Zit (a:Zx) (b:List Int) (c:Int) (d:(List (List Int))) (m0_0:List Int) (m1_0:List Int) (m1_1:List Zy):Option (Int⊕(Int×Bool×(List Int)×(List Z8)×(List Int))):=
 (ZfL a b c).bind fun x0=>
 bif x0.1 then
  bif (x0.2 != 0) then
   some (.inl x0.2)
  else
   bif (decide (4096<(d.length:Int))) then
    some (.inl 100)
   else
    (Z9 d (fun z0=>ZcB z0 c)).bind fun x1=>
    bif x1 then
     some (.inl 100)
    else
     (ZgJ b).bind fun x2=>
     (lp (ZcN a b d m0_0 m1_0 m1_1) (x0.2,0,true,(List.replicate (b.length:Int).toNat (0:Int)),(List.replicate (b.length:Int).toNat ((Z8.mk 0 0):Z8)),x2)).bind fun r14=>
     some (.inr (r14.1,r14.2.1,r14.2.2.1,r14.2.2.2.1,r14.2.2.2.2))
 else
  bif (x0.2 != 0) then
   some (.inl x0.2)
  else
   some (.inl 100)
def ZhC (a:Zx) (b:List Int) (c:Int) (d:(List (List Int))):Option Bool:=
 (Zit a b c d b a.work a.edges).bind fun x0=>
 match x0 with
 | (.inl x0)=>
  bif (x0==0) then
   none
  else
   some false
 | (.inr x0)=>
  bif x0.2.1 then
   bif (x0.1==0) then
    some true
   else
    some false
  else
   some false
def Zgd (a:Zx) (s1:Int×Int):Option ((Int×Int)⊕Int):=
 bif (decide (s1.2<(a.work.length:Int))) then
  (Zp a.work s1.2).bind fun x2=>
  some (.inl ((w64 (s1.1+x2)),(w64 (s1.2+1))))
 else
  some (.inr s1.1)
def Zjs (a:Zx):Option Int:=
 (Zfo a).bind fun x0=>
 bif (x0==0) then
  (lp (Zgd a) (0,0)).bind fun r3=>
  some r3
 else
  some 0
def Zjv (a:Zx):Option (List Int):=
 (Zfo a).bind fun x0=>
 bif (x0 != 0) then
  some ([]:List Int)
 else
  (Zgc a).bind fun x1=>
  bif x1.2 then
   some x1.1
  else
   some x1.1
def ZfH (a:Zy) (b0:Int):Option (Int×Bool):=
 bif (a.dst==b0) then
  some (a.src,true)
 else
  some (a.src,false)
def ZjA (a:Zx) (b:Int):Option (List Int):=
 (ZiR a (fun z0=>ZfH z0 b)).bind fun x0=>
 some x0
def ZfM (x2:Int) (x3:List Int) (s4:Int×(List Int)):Option ((Int×(List Int))⊕(List Int)):=
 bif (decide (s4.1<(x3.length:Int))) then
  (Zp x3 s4.1).bind fun x5=>
  (Zp s4.2 x2).bind fun x6=>
  (Zp s4.2 x5).bind fun x7=>
  some (.inl ((w64 (s4.1+1)),(List.set s4.2 x2.toNat (bif decide (x6<x7) then x7 else x6))))
 else
  some (.inr s4.2)
def ZfP (a:Zx) (x0:List Int) (s1:Int×Int×(List Int)):Option ((Int×Int×(List Int))⊕Int):=
 bif (decide (s1.2.1<(x0.length:Int))) then
  (Zp x0 s1.2.1).bind fun x2=>
  (ZjA a x2).bind fun x3=>
  (lp (ZfM x2 x3) (0,s1.2.2)).bind fun r8=>
  (Zp r8 x2).bind fun x9=>
  (Zp a.work x2).bind fun x10=>
  (Zp (List.set r8 x2.toNat (w64 (x9+x10))) x2).bind fun x11=>
  some (.inl ((bif decide (s1.1<x11) then x11 else s1.1),(w64 (s1.2.1+1)),(List.set r8 x2.toNat (w64 (x9+x10)))))
 else
  some (.inr s1.1)
def ZkL (a:Zx):Option Int:=
 bif (decide (0≤(a.work.length:Int))&&decide ((a.work.length:Int)≤lim)&&decide ((a.work.length:Int)==(a.work.length:Int))) then
  (Zjv a).bind fun x0=>
  (lp (ZfP a x0) (0,0,(List.replicate (a.work.length:Int).toNat (0:Int)))).bind fun r12=>
  some r12
 else
  none
def Zh4 (a:Zx) (b:List Int) (c:Int):Option Int:=
 (ZfL a b c).bind fun x0=>
 bif x0.1 then
  bif (x0.2 != 0) then
   some 0
  else
   (Zjs (Zx.mk b a.edges)).bind fun x1=>
   (ZkL (Zx.mk b a.edges)).bind fun x2=>
   bif (c==0) then
    none
   else
    some (w64 (Int.tdiv (w64 (x1+(w64 ((w64 (c-1))*x2)))) c))
 else
  some 0
def ZcG (x11:List Int) (s12:Int):Option (Int⊕(Unit⊕Unit)):=
 bif (decide (s12<(x11.length:Int))) then
  (Zp x11 s12).bind fun x13=>
  bif (decide (x13<0)) then
   some (.inr (.inl ()))
  else
   some (.inl (w64 (s12+1)))
 else
  some (.inr (.inr ()))
def Zg2 (a:Zx) (b:List Int) (c:Int) (d:List Int):Option Bool:=
 ZdE.bind fun x0=>
 bif x0 then
  (Zjr a).bind fun x1=>
  bif x1 then
   bif (decide (70<(b.length:Int))) then
    ZdE.bind fun x2=>
    bif x2 then
     some true
    else
     some false
   else
    (Zht b).bind fun x3=>
    bif x3 then
     bif (decide (600<(d.length:Int))) then
      ZdE.bind fun x4=>
      bif x4 then
       some true
      else
       some false
     else
      (Zfl a).bind fun x5=>
      (Zdy b).bind fun x6=>
      (Zdy d).bind fun x7=>
      (Zhe a b c d).bind fun x8=>
      bif (x8.2.2 != 0) then
       bif ((x8.1.length:Int)==0) then
        some true
       else
        some false
      else
       (Zfl a).bind fun x9=>
       (Zdy b).bind fun x10=>
       (ZiN a b c x8.1).bind fun x11=>
       (lp (ZcG x11) 0).bind fun r14=>
       match r14 with
       | (.inl r14)=>
        some false
       | (.inr r14)=>
        (Zfl a).bind fun x15=>
        (Zdy b).bind fun x16=>
        (ZeQ a b c x8.1).bind fun x17=>
        bif (x17==0) then
         (Zfl a).bind fun x18=>
         (Zdy b).bind fun x19=>
         (ZhC a b c x8.1).bind fun x20=>
         bif x20 then
          bif ((x11.length:Int)==(b.length:Int)) then
           (Zfl a).bind fun x21=>
           (Zdy b).bind fun x22=>
           (Zh4 a b c).bind fun x23=>
           bif (decide ((x8.1.length:Int)≤x23)) then
            some true
           else
            some false
          else
           some false
         else
          some false
        else
         some false
    else
     ZdE.bind fun x24=>
     bif x24 then
      some true
     else
      some false
  else
   ZdE.bind fun x25=>
   bif x25 then
    some true
   else
    some false
 else
  ZdE.bind fun x26=>
  bif x26 then
   some true
  else
   some false
def Z1 (b:Int) (d:(Int→Int→Option Int)) (s1:Int×(List Int)):Option ((Int×(List Int))⊕(List Int)):=
 bif (decide (b<s1.1)) then
  (Zp s1.2 s1.1).bind fun x2=>
  (Zp s1.2 (w64 (s1.1-1))).bind fun x3=>
  (d x2 x3).bind fun x4=>
  bif (decide (x4<0)) then
   (Zp (List.set s1.2 s1.1.toNat x3) (w64 (s1.1-1))).bind fun x5=>
   some (.inl ((w64 (s1.1-1)),(List.set (List.set s1.2 s1.1.toNat x3) (w64 (s1.1-1)).toNat x2)))
  else
   some (.inr s1.2)
 else
  some (.inr s1.2)
def Zat (b:Int) (c:Int) (d:(Int→Int→Option Int)) (s0:Int×(List Int)):Option ((Int×(List Int))⊕(List Int)):=
 bif (decide (s0.1<c)) then
  (lp (Z1 b d) (s0.1,s0.2)).bind fun r6=>
  some (.inl ((w64 (s0.1+1)),r6))
 else
  some (.inr s0.2)
def ZY (b:Int) (c:Int) (d:(Int→Int→Option Int)) (m0_0:List Int):Option (List Int):=
 (lp (Zat b c d) ((w64 (b+1)),m0_0)).bind fun r7=>
 some r7
def ZF (c:Int) (d:Int) (e:(Int→Int→Option Int)) (s0:Int×(List Int)):Option ((Int×(List Int))⊕((List Int)⊕(List Int))):=
 bif (decide (c≤(w64 ((w64 (2*s0.1))+1)))) then
  some (.inr (.inl s0.2))
 else
  bif (decide ((w64 ((w64 ((w64 (2*s0.1))+1))+1))<c)) then
   (Zp s0.2 (w64 (d+(w64 ((w64 (2*s0.1))+1))))).bind fun x1=>
   (Zp s0.2 (w64 ((w64 (d+(w64 ((w64 (2*s0.1))+1))))+1))).bind fun x2=>
   (e x1 x2).bind fun x3=>
   bif (decide (x3<0)) then
    (Zp s0.2 (w64 (d+s0.1))).bind fun x4=>
    (Zp s0.2 (w64 (d+(w64 ((w64 ((w64 (2*s0.1))+1))+1))))).bind fun x5=>
    (e x4 x5).bind fun x6=>
    bif (decide (x6<0)) then
     (Zp (List.set s0.2 (w64 (d+s0.1)).toNat x5) (w64 (d+(w64 ((w64 ((w64 (2*s0.1))+1))+1))))).bind fun x7=>
     some (.inl ((w64 ((w64 ((w64 (2*s0.1))+1))+1)),(List.set (List.set s0.2 (w64 (d+s0.1)).toNat x5) (w64 (d+(w64 ((w64 ((w64 (2*s0.1))+1))+1)))).toNat x4)))
    else
     some (.inr (.inr s0.2))
   else
    (Zp s0.2 (w64 (d+s0.1))).bind fun x8=>
    (e x8 x1).bind fun x9=>
    bif (decide (x9<0)) then
     (Zp (List.set s0.2 (w64 (d+s0.1)).toNat x1) (w64 (d+(w64 ((w64 (2*s0.1))+1))))).bind fun x10=>
     some (.inl ((w64 ((w64 (2*s0.1))+1)),(List.set (List.set s0.2 (w64 (d+s0.1)).toNat x1) (w64 (d+(w64 ((w64 (2*s0.1))+1)))).toNat x8)))
    else
     some (.inr (.inr s0.2))
  else
   (Zp s0.2 (w64 (d+s0.1))).bind fun x11=>
   (Zp s0.2 (w64 (d+(w64 ((w64 (2*s0.1))+1))))).bind fun x12=>
   (e x11 x12).bind fun x13=>
   bif (decide (x13<0)) then
    (Zp (List.set s0.2 (w64 (d+s0.1)).toNat x12) (w64 (d+(w64 ((w64 (2*s0.1))+1))))).bind fun x14=>
    some (.inl ((w64 ((w64 (2*s0.1))+1)),(List.set (List.set s0.2 (w64 (d+s0.1)).toNat x12) (w64 (d+(w64 ((w64 (2*s0.1))+1)))).toNat x11)))
   else
    some (.inr (.inr s0.2))
def ZaO (b:Int) (c:Int) (d:Int) (e:(Int→Int→Option Int)) (m0_0:List Int):Option (List Int):=
 (lp (ZF c d e) (b,m0_0)).bind fun r15=>
 match r15 with
 | (.inl r15)=>
  some r15
 | (.inr r15)=>
  some r15
def ZaW (b:Int) (c:Int) (d:(Int→Int→Option Int)) (s0:Int×(List Int)):Option ((Int×(List Int))⊕(List Int)):=
 bif (decide (0≤s0.1)) then
  (ZaO s0.1 (w64 (c-b)) b d s0.2).bind fun x1=>
  some (.inl ((w64 (s0.1-1)),x1))
 else
  some (.inr s0.2)
def ZaX (b:Int) (d:(Int→Int→Option Int)) (s3:Int×(List Int)):Option ((Int×(List Int))⊕(List Int)):=
 bif (decide (0≤s3.1)) then
  (Zp s3.2 (w64 (b+s3.1))).bind fun x4=>
  (Zp s3.2 b).bind fun x5=>
  (Zp (List.set s3.2 b.toNat x4) (w64 (b+s3.1))).bind fun x6=>
  (ZaO 0 s3.1 b d (List.set (List.set s3.2 b.toNat x4) (w64 (b+s3.1)).toNat x5)).bind fun x7=>
  some (.inl ((w64 (s3.1-1)),x7))
 else
  some (.inr s3.2)
def Zaf (b:Int) (c:Int) (d:(Int→Int→Option Int)) (m0_0:List Int):Option (List Int):=
 (lp (ZaW b c d) ((w64 (Int.tdiv (w64 ((w64 (c-b))-1)) 2)),m0_0)).bind fun r2=>
 (lp (ZaX b d) ((w64 ((w64 (c-b))-1)),r2)).bind fun r8=>
 some r8
def Za3 (b:Int) (c:Int) (e:(Int→Int→Option Int)) (m0_0:List Int) (m1_0:Int):Option (Int×Int×Int):=
 (Zp m0_0 c).bind fun x0=>
 (Zp m0_0 b).bind fun x1=>
 (e x0 x1).bind fun x2=>
 bif (decide (x2<0)) then
  some (c,b,(w64 (m1_0+1)))
 else
  some (b,c,m1_0)
def Za2 (b:Int) (c:Int) (d:Int) (f:(Int→Int→Option Int)) (m0_0:List Int) (m1_0:Int):Option (Int×Int):=
 (Za3 b c f m0_0 m1_0).bind fun x0=>
 (Za3 x0.2.1 d f m0_0 x0.2.2).bind fun x1=>
 (Za3 x0.1 x1.1 f m0_0 x1.2.2).bind fun x2=>
 some (x2.2.1,x2.2.2)
def Zah (b:Int) (d:(Int→Int→Option Int)) (m0_0:List Int) (m1_0:Int):Option (Int×Int):=
 (Za2 (w64 (b-1)) b (w64 (b+1)) d m0_0 m1_0).bind fun x0=>
 some (x0.1,x0.2)
def ZM (b:Int) (c:Int) (d:(Int→Int→Option Int)) (m0_0:List Int):Option (Int×Int):=
 bif (decide (8≤(w64 (c-b)))) then
  bif (decide (50≤(w64 (c-b)))) then
   (Zah (w64 (b+(w64 ((w64 (Int.tdiv (w64 (c-b)) 4))*1)))) d m0_0 0).bind fun x0=>
   (Zah (w64 (b+(w64 ((w64 (Int.tdiv (w64 (c-b)) 4))*2)))) d m0_0 x0.2).bind fun x1=>
   (Zah (w64 (b+(w64 ((w64 (Int.tdiv (w64 (c-b)) 4))*3)))) d m0_0 x1.2).bind fun x2=>
   (Za2 x0.1 x1.1 x2.1 d m0_0 x2.2).bind fun x3=>
   bif (x3.2==0) then
    some (x3.1,1)
   else
    bif (x3.2==12) then
     some (x3.1,2)
    else
     some (x3.1,0)
  else
   (Za2 (w64 (b+(w64 ((w64 (Int.tdiv (w64 (c-b)) 4))*1)))) (w64 (b+(w64 ((w64 (Int.tdiv (w64 (c-b)) 4))*2)))) (w64 (b+(w64 ((w64 (Int.tdiv (w64 (c-b)) 4))*3)))) d m0_0 0).bind fun x4=>
   bif (x4.2==0) then
    some (x4.1,1)
   else
    bif (x4.2==12) then
     some (x4.1,2)
    else
     some (x4.1,0)
 else
  some ((w64 (b+(w64 ((w64 (Int.tdiv (w64 (c-b)) 4))*2)))),1)
def Zae (s0:Int×Int×(List Int)):Option ((Int×Int×(List Int))⊕(List Int)):=
 bif (decide (s0.1<s0.2.1)) then
  (Zp s0.2.2 s0.2.1).bind fun x1=>
  (Zp s0.2.2 s0.1).bind fun x2=>
  (Zp (List.set s0.2.2 s0.1.toNat x1) s0.2.1).bind fun x3=>
  some (.inl ((w64 (s0.1+1)),(w64 (s0.2.1-1)),(List.set (List.set s0.2.2 s0.1.toNat x1) s0.2.1.toNat x2)))
 else
  some (.inr s0.2.2)
def ZJ (b:Int) (c:Int) (d:(Int→Int→Option Int)) (m0_0:List Int):Option (List Int):=
 (lp (Zae) (b,(w64 (c-1)),m0_0)).bind fun r4=>
 some r4
def ZH (c:Int) (d:(Int→Int→Option Int)) (s0:Int×Int×(List Int)) (s1:Int):Option (Int⊕Int):=
 bif (decide (s1<c)) then
  (Zp s0.2.2 s1).bind fun x2=>
  (Zp s0.2.2 (w64 (s1-1))).bind fun x3=>
  (d x2 x3).bind fun x4=>
  bif (decide (x4<0)) then
   some (.inr s1)
  else
   some (.inl (w64 (s1+1)))
 else
  some (.inr s1)
def ZU (d:(Int→Int→Option Int)) (s9:Int×(List Int)):Option ((Int×(List Int))⊕(List Int)):=
 bif (decide (1≤s9.1)) then
  (Zp s9.2 s9.1).bind fun x10=>
  (Zp s9.2 (w64 (s9.1-1))).bind fun x11=>
  (d x10 x11).bind fun x12=>
  bif (decide (x12<0)) then
   (Zp (List.set s9.2 s9.1.toNat x11) (w64 (s9.1-1))).bind fun x13=>
   some (.inl ((w64 (s9.1-1)),(List.set (List.set s9.2 s9.1.toNat x11) (w64 (s9.1-1)).toNat x10)))
  else
   some (.inr s9.2)
 else
  some (.inr s9.2)
def ZB (c:Int) (d:(Int→Int→Option Int)) (s15:Int×(List Int)):Option ((Int×(List Int))⊕(List Int)):=
 bif (decide (s15.1<c)) then
  (Zp s15.2 s15.1).bind fun x16=>
  (Zp s15.2 (w64 (s15.1-1))).bind fun x17=>
  (d x16 x17).bind fun x18=>
  bif (decide (x18<0)) then
   (Zp (List.set s15.2 s15.1.toNat x17) (w64 (s15.1-1))).bind fun x19=>
   some (.inl ((w64 (s15.1+1)),(List.set (List.set s15.2 s15.1.toNat x17) (w64 (s15.1-1)).toNat x16)))
  else
   some (.inr s15.2)
 else
  some (.inr s15.2)
def ZT (b:Int) (c:Int) (d:(Int→Int→Option Int)) (s0:Int×Int×(List Int)):Option ((Int×Int×(List Int))⊕((List Int)⊕((List Int)⊕(List Int)))):=
 bif (decide (s0.2.1<5)) then
  (lp (ZH c d s0) s0.1).bind fun r5=>
  bif (r5==c) then
   some (.inr (.inl s0.2.2))
  else
   bif (decide ((w64 (c-b))<50)) then
    some (.inr (.inr (.inl s0.2.2)))
   else
    (Zp s0.2.2 (w64 (r5-1))).bind fun x6=>
    (Zp s0.2.2 r5).bind fun x7=>
    (Zp (List.set s0.2.2 r5.toNat x6) (w64 (r5-1))).bind fun x8=>
    bif (decide (2≤(w64 (r5-b)))) then
     (lp (ZU d) ((w64 (r5-1)),(List.set (List.set s0.2.2 r5.toNat x6) (w64 (r5-1)).toNat x7))).bind fun r14=>
     bif (decide (2≤(w64 (c-r5)))) then
      (lp (ZB c d) ((w64 (r5+1)),r14)).bind fun r20=>
      some (.inl (r5,(w64 (s0.2.1+1)),r20))
     else
      some (.inl (r5,(w64 (s0.2.1+1)),r14))
    else
     bif (decide (2≤(w64 (c-r5)))) then
      (lp (ZB c d) ((w64 (r5+1)),(List.set (List.set s0.2.2 r5.toNat x6) (w64 (r5-1)).toNat x7))).bind fun r26=>
      some (.inl (r5,(w64 (s0.2.1+1)),r26))
     else
      some (.inl (r5,(w64 (s0.2.1+1)),(List.set (List.set s0.2.2 r5.toNat x6) (w64 (r5-1)).toNat x7)))
 else
  some (.inr (.inr (.inr s0.2.2)))
def ZP (b:Int) (c:Int) (d:(Int→Int→Option Int)) (m0_0:List Int):Option ((List Int)⊕(List Int)):=
 (lp (ZT b c d) ((w64 (b+1)),0,m0_0)).bind fun r27=>
 match r27 with
 | (.inl r27)=>
  some (.inl r27)
 | (.inr (.inl r27))=>
  some (.inr r27)
 | (.inr (.inr r27))=>
  some (.inr r27)
def ZaM (b:Int) (c:Int) (d:Int) (m0_0:List Int) (e:(Int→Int→Option Int)) (x0:Int) (x1:Int) (s3:Int):Option (Int⊕Int):=
 bif (decide (s3≤(w64 (c-1)))) then
  (Zp (List.set (List.set m0_0 b.toNat x0) d.toNat x1) s3).bind fun x4=>
  (Zp (List.set (List.set m0_0 b.toNat x0) d.toNat x1) b).bind fun x5=>
  (e x4 x5).bind fun x6=>
  bif (decide (x6<0)) then
   some (.inl (w64 (s3+1)))
  else
   some (.inr s3)
 else
  some (.inr s3)
def ZaL (b:Int) (d:Int) (m0_0:List Int) (e:(Int→Int→Option Int)) (x0:Int) (x1:Int) (r7:Int) (s8:Int):Option (Int⊕Int):=
 bif (decide (r7≤s8)) then
  (Zp (List.set (List.set m0_0 b.toNat x0) d.toNat x1) s8).bind fun x9=>
  (Zp (List.set (List.set m0_0 b.toNat x0) d.toNat x1) b).bind fun x10=>
  (e x9 x10).bind fun x11=>
  bif (decide (x11<0)) then
   some (.inr s8)
  else
   some (.inl (w64 (s8-1)))
 else
  some (.inr s8)
def ZaN (b:Int) (e:(Int→Int→Option Int)) (s19:Int×Int×(List Int)) (s20:Int):Option (Int⊕Int):=
 bif (decide (s20≤s19.2.1)) then
  (Zp s19.2.2 s20).bind fun x21=>
  (Zp s19.2.2 b).bind fun x22=>
  (e x21 x22).bind fun x23=>
  bif (decide (x23<0)) then
   some (.inl (w64 (s20+1)))
  else
   some (.inr s20)
 else
  some (.inr s20)
def ZaJ (b:Int) (e:(Int→Int→Option Int)) (s19:Int×Int×(List Int)) (r24:Int) (s25:Int):Option (Int⊕Int):=
 bif (decide (r24≤s25)) then
  (Zp s19.2.2 s25).bind fun x26=>
  (Zp s19.2.2 b).bind fun x27=>
  (e x26 x27).bind fun x28=>
  bif (decide (x28<0)) then
   some (.inr s25)
  else
   some (.inl (w64 (s25-1)))
 else
  some (.inr s25)
def Zba (b:Int) (e:(Int→Int→Option Int)) (s19:Int×Int×(List Int)):Option ((Int×Int×(List Int))⊕(Int×(List Int))):=
 (lp (ZaN b e s19) s19.1).bind fun r24=>
 (lp (ZaJ b e s19 r24) s19.2.1).bind fun r29=>
 bif (decide (r29<r24)) then
  some (.inr (r29,s19.2.2))
 else
  (Zp s19.2.2 r29).bind fun x30=>
  (Zp s19.2.2 r24).bind fun x31=>
  (Zp (List.set s19.2.2 r24.toNat x30) r29).bind fun x32=>
  some (.inl ((w64 (r24+1)),(w64 (r29-1)),(List.set (List.set s19.2.2 r24.toNat x30) r29.toNat x31)))
def Zl (b:Int) (c:Int) (d:Int) (e:(Int→Int→Option Int)) (m0_0:List Int):Option ((Int×(List Int))⊕(Int×(List Int))):=
 (Zp m0_0 d).bind fun x0=>
 (Zp m0_0 b).bind fun x1=>
 (Zp (List.set m0_0 b.toNat x0) d).bind fun x2=>
 (lp (ZaM b c d m0_0 e x0 x1) (w64 (b+1))).bind fun r7=>
 (lp (ZaL b d m0_0 e x0 x1 r7) (w64 (c-1))).bind fun r12=>
 bif (decide (r12<r7)) then
  (Zp (List.set (List.set m0_0 b.toNat x0) d.toNat x1) b).bind fun x13=>
  (Zp (List.set (List.set m0_0 b.toNat x0) d.toNat x1) r12).bind fun x14=>
  (Zp (List.set (List.set (List.set m0_0 b.toNat x0) d.toNat x1) r12.toNat x13) b).bind fun x15=>
  some (.inl (r12,(List.set (List.set (List.set (List.set m0_0 b.toNat x0) d.toNat x1) r12.toNat x13) b.toNat x14)))
 else
  (Zp (List.set (List.set m0_0 b.toNat x0) d.toNat x1) r12).bind fun x16=>
  (Zp (List.set (List.set m0_0 b.toNat x0) d.toNat x1) r7).bind fun x17=>
  (Zp (List.set (List.set (List.set m0_0 b.toNat x0) d.toNat x1) r7.toNat x16) r12).bind fun x18=>
  (lp (Zba b e) ((w64 (r7+1)),(w64 (r12-1)),(List.set (List.set (List.set (List.set m0_0 b.toNat x0) d.toNat x1) r7.toNat x16) r12.toNat x17))).bind fun r33=>
  (Zp r33.2 b).bind fun x34=>
  (Zp r33.2 r33.1).bind fun x35=>
  (Zp (List.set r33.2 r33.1.toNat x34) b).bind fun x36=>
  some (.inr (r33.1,(List.set (List.set r33.2 r33.1.toNat x34) b.toNat x35)))
def Zaq (b:Int) (e:(Int→Int→Option Int)) (s3:Int×Int×(List Int)) (s4:Int):Option (Int⊕Int):=
 bif (decide (s4≤s3.2.1)) then
  (Zp s3.2.2 b).bind fun x5=>
  (Zp s3.2.2 s4).bind fun x6=>
  (e x5 x6).bind fun x7=>
  bif (decide (x7<0)) then
   some (.inr s4)
  else
   some (.inl (w64 (s4+1)))
 else
  some (.inr s4)
def Zar (b:Int) (e:(Int→Int→Option Int)) (s3:Int×Int×(List Int)) (r8:Int) (s9:Int):Option (Int⊕Int):=
 bif (decide (r8≤s9)) then
  (Zp s3.2.2 b).bind fun x10=>
  (Zp s3.2.2 s9).bind fun x11=>
  (e x10 x11).bind fun x12=>
  bif (decide (x12<0)) then
   some (.inl (w64 (s9-1)))
  else
   some (.inr s9)
 else
  some (.inr s9)
def ZaK (b:Int) (e:(Int→Int→Option Int)) (s3:Int×Int×(List Int)):Option ((Int×Int×(List Int))⊕(Int×(List Int))):=
 (lp (Zaq b e s3) s3.1).bind fun r8=>
 (lp (Zar b e s3 r8) s3.2.1).bind fun r13=>
 bif (decide (r13<r8)) then
  some (.inr (r8,s3.2.2))
 else
  (Zp s3.2.2 r13).bind fun x14=>
  (Zp s3.2.2 r8).bind fun x15=>
  (Zp (List.set s3.2.2 r8.toNat x14) r13).bind fun x16=>
  some (.inl ((w64 (r8+1)),(w64 (r13-1)),(List.set (List.set s3.2.2 r8.toNat x14) r13.toNat x15)))
def Zv (b:Int) (c:Int) (d:Int) (e:(Int→Int→Option Int)) (m0_0:List Int):Option (Int×(List Int)):=
 (Zp m0_0 d).bind fun x0=>
 (Zp m0_0 b).bind fun x1=>
 (Zp (List.set m0_0 b.toNat x0) d).bind fun x2=>
 (lp (ZaK b e) ((w64 (b+1)),(w64 (c-1)),(List.set (List.set m0_0 b.toNat x0) d.toNat x1))).bind fun r17=>
 some (r17.1,r17.2)
def ZaU (b:Int) (c:Int) (x0:Int) (s1:Int×(List Int)×Int):Option ((Int×(List Int)×Int)⊕(List Int)):=
 bif (decide (s1.1≤(w64 ((w64 (b+(w64 ((w64 (Int.tdiv (w64 (c-b)) 4))*2))))+1)))) then
  Zds.bind fun x2=>
  bif (decide ((w64 (c-b))≤(w64 (u64.wrap (Ze (u64.wrap (Ze (u64.wrap (Ze (u64.wrap (Ze s1.2.2 ^^^ Ze (u64.wrap (s1.2.2*2 ^ 13))).toNat) ^^^ Ze (Int.fdiv (u64.wrap (Ze s1.2.2 ^^^ Ze (u64.wrap (s1.2.2*2 ^ 13))).toNat) (2 ^ 7))).toNat) ^^^ Ze (u64.wrap ((u64.wrap (Ze (u64.wrap (Ze s1.2.2 ^^^ Ze (u64.wrap (s1.2.2*2 ^ 13))).toNat) ^^^ Ze (Int.fdiv (u64.wrap (Ze s1.2.2 ^^^ Ze (u64.wrap (s1.2.2*2 ^ 13))).toNat) (2 ^ 7))).toNat)*2 ^ 17))).toNat) &&& Ze (u64.wrap (x0-1))).toNat)))) then
   (Zp s1.2.1 (w64 (b+(w64 ((w64 (u64.wrap (Ze (u64.wrap (Ze (u64.wrap (Ze (u64.wrap (Ze s1.2.2 ^^^ Ze (u64.wrap (s1.2.2*2 ^ 13))).toNat) ^^^ Ze (Int.fdiv (u64.wrap (Ze s1.2.2 ^^^ Ze (u64.wrap (s1.2.2*2 ^ 13))).toNat) (2 ^ 7))).toNat) ^^^ Ze (u64.wrap ((u64.wrap (Ze (u64.wrap (Ze s1.2.2 ^^^ Ze (u64.wrap (s1.2.2*2 ^ 13))).toNat) ^^^ Ze (Int.fdiv (u64.wrap (Ze s1.2.2 ^^^ Ze (u64.wrap (s1.2.2*2 ^ 13))).toNat) (2 ^ 7))).toNat)*2 ^ 17))).toNat) &&& Ze (u64.wrap (x0-1))).toNat))-(w64 (c-b))))))).bind fun x3=>
   (Zp s1.2.1 s1.1).bind fun x4=>
   (Zp (List.set s1.2.1 s1.1.toNat x3) (w64 (b+(w64 ((w64 (u64.wrap (Ze (u64.wrap (Ze (u64.wrap (Ze (u64.wrap (Ze s1.2.2 ^^^ Ze (u64.wrap (s1.2.2*2 ^ 13))).toNat) ^^^ Ze (Int.fdiv (u64.wrap (Ze s1.2.2 ^^^ Ze (u64.wrap (s1.2.2*2 ^ 13))).toNat) (2 ^ 7))).toNat) ^^^ Ze (u64.wrap ((u64.wrap (Ze (u64.wrap (Ze s1.2.2 ^^^ Ze (u64.wrap (s1.2.2*2 ^ 13))).toNat) ^^^ Ze (Int.fdiv (u64.wrap (Ze s1.2.2 ^^^ Ze (u64.wrap (s1.2.2*2 ^ 13))).toNat) (2 ^ 7))).toNat)*2 ^ 17))).toNat) &&& Ze (u64.wrap (x0-1))).toNat))-(w64 (c-b))))))).bind fun x5=>
   some (.inl ((w64 (s1.1+1)),(List.set (List.set s1.2.1 s1.1.toNat x3) (w64 (b+(w64 ((w64 (u64.wrap (Ze (u64.wrap (Ze (u64.wrap (Ze (u64.wrap (Ze s1.2.2 ^^^ Ze (u64.wrap (s1.2.2*2 ^ 13))).toNat) ^^^ Ze (Int.fdiv (u64.wrap (Ze s1.2.2 ^^^ Ze (u64.wrap (s1.2.2*2 ^ 13))).toNat) (2 ^ 7))).toNat) ^^^ Ze (u64.wrap ((u64.wrap (Ze (u64.wrap (Ze s1.2.2 ^^^ Ze (u64.wrap (s1.2.2*2 ^ 13))).toNat) ^^^ Ze (Int.fdiv (u64.wrap (Ze s1.2.2 ^^^ Ze (u64.wrap (s1.2.2*2 ^ 13))).toNat) (2 ^ 7))).toNat)*2 ^ 17))).toNat) &&& Ze (u64.wrap (x0-1))).toNat))-(w64 (c-b)))))).toNat x4),(u64.wrap (Ze (u64.wrap (Ze (u64.wrap (Ze s1.2.2 ^^^ Ze (u64.wrap (s1.2.2*2 ^ 13))).toNat) ^^^ Ze (Int.fdiv (u64.wrap (Ze s1.2.2 ^^^ Ze (u64.wrap (s1.2.2*2 ^ 13))).toNat) (2 ^ 7))).toNat) ^^^ Ze (u64.wrap ((u64.wrap (Ze (u64.wrap (Ze s1.2.2 ^^^ Ze (u64.wrap (s1.2.2*2 ^ 13))).toNat) ^^^ Ze (Int.fdiv (u64.wrap (Ze s1.2.2 ^^^ Ze (u64.wrap (s1.2.2*2 ^ 13))).toNat) (2 ^ 7))).toNat)*2 ^ 17))).toNat)))
  else
   (Zp s1.2.1 (w64 (b+(w64 (u64.wrap (Ze (u64.wrap (Ze (u64.wrap (Ze (u64.wrap (Ze s1.2.2 ^^^ Ze (u64.wrap (s1.2.2*2 ^ 13))).toNat) ^^^ Ze (Int.fdiv (u64.wrap (Ze s1.2.2 ^^^ Ze (u64.wrap (s1.2.2*2 ^ 13))).toNat) (2 ^ 7))).toNat) ^^^ Ze (u64.wrap ((u64.wrap (Ze (u64.wrap (Ze s1.2.2 ^^^ Ze (u64.wrap (s1.2.2*2 ^ 13))).toNat) ^^^ Ze (Int.fdiv (u64.wrap (Ze s1.2.2 ^^^ Ze (u64.wrap (s1.2.2*2 ^ 13))).toNat) (2 ^ 7))).toNat)*2 ^ 17))).toNat) &&& Ze (u64.wrap (x0-1))).toNat))))).bind fun x6=>
   (Zp s1.2.1 s1.1).bind fun x7=>
   (Zp (List.set s1.2.1 s1.1.toNat x6) (w64 (b+(w64 (u64.wrap (Ze (u64.wrap (Ze (u64.wrap (Ze (u64.wrap (Ze s1.2.2 ^^^ Ze (u64.wrap (s1.2.2*2 ^ 13))).toNat) ^^^ Ze (Int.fdiv (u64.wrap (Ze s1.2.2 ^^^ Ze (u64.wrap (s1.2.2*2 ^ 13))).toNat) (2 ^ 7))).toNat) ^^^ Ze (u64.wrap ((u64.wrap (Ze (u64.wrap (Ze s1.2.2 ^^^ Ze (u64.wrap (s1.2.2*2 ^ 13))).toNat) ^^^ Ze (Int.fdiv (u64.wrap (Ze s1.2.2 ^^^ Ze (u64.wrap (s1.2.2*2 ^ 13))).toNat) (2 ^ 7))).toNat)*2 ^ 17))).toNat) &&& Ze (u64.wrap (x0-1))).toNat))))).bind fun x8=>
   some (.inl ((w64 (s1.1+1)),(List.set (List.set s1.2.1 s1.1.toNat x6) (w64 (b+(w64 (u64.wrap (Ze (u64.wrap (Ze (u64.wrap (Ze (u64.wrap (Ze s1.2.2 ^^^ Ze (u64.wrap (s1.2.2*2 ^ 13))).toNat) ^^^ Ze (Int.fdiv (u64.wrap (Ze s1.2.2 ^^^ Ze (u64.wrap (s1.2.2*2 ^ 13))).toNat) (2 ^ 7))).toNat) ^^^ Ze (u64.wrap ((u64.wrap (Ze (u64.wrap (Ze s1.2.2 ^^^ Ze (u64.wrap (s1.2.2*2 ^ 13))).toNat) ^^^ Ze (Int.fdiv (u64.wrap (Ze s1.2.2 ^^^ Ze (u64.wrap (s1.2.2*2 ^ 13))).toNat) (2 ^ 7))).toNat)*2 ^ 17))).toNat) &&& Ze (u64.wrap (x0-1))).toNat)))).toNat x7),(u64.wrap (Ze (u64.wrap (Ze (u64.wrap (Ze s1.2.2 ^^^ Ze (u64.wrap (s1.2.2*2 ^ 13))).toNat) ^^^ Ze (Int.fdiv (u64.wrap (Ze s1.2.2 ^^^ Ze (u64.wrap (s1.2.2*2 ^ 13))).toNat) (2 ^ 7))).toNat) ^^^ Ze (u64.wrap ((u64.wrap (Ze (u64.wrap (Ze s1.2.2 ^^^ Ze (u64.wrap (s1.2.2*2 ^ 13))).toNat) ^^^ Ze (Int.fdiv (u64.wrap (Ze s1.2.2 ^^^ Ze (u64.wrap (s1.2.2*2 ^ 13))).toNat) (2 ^ 7))).toNat)*2 ^ 17))).toNat)))
 else
  some (.inr s1.2.1)
def Zan (b:Int) (c:Int) (d:(Int→Int→Option Int)) (m0_0:List Int):Option (List Int):=
 bif (decide (8≤(w64 (c-b)))) then
  (Zct (w64 (c-b))).bind fun x0=>
  (lp (ZaU b c x0) ((w64 ((w64 (b+(w64 ((w64 (Int.tdiv (w64 (c-b)) 4))*2))))-1)),m0_0,(u64.wrap (w64 (c-b))))).bind fun r9=>
  some r9
 else
  some m0_0
def ZQ (e:(Int→Int→Option Int)) (rc:Int→Int→Int→(Int→Int→Option Int)→(List Int)→Option (List Int)) (s0:Int×Int×Int×Bool×Bool×(List Int)):Option ((Int×Int×Int×Bool×Bool×(List Int))⊕(List Int)):=
 bif s0.2.2.2.1 then
  bif s0.2.2.2.2.1 then
   bif (decide ((w64 (s0.2.1-s0.1))≤12)) then
    (ZY s0.1 s0.2.1 e s0.2.2.2.2.2).bind fun x1=>
    some (.inr x1)
   else
    bif (s0.2.2.1==0) then
     (Zaf s0.1 s0.2.1 e s0.2.2.2.2.2).bind fun x2=>
     some (.inr x2)
    else
     (ZM s0.1 s0.2.1 e s0.2.2.2.2.2).bind fun x3=>
     bif (x3.2==2) then
      (ZJ s0.1 s0.2.1 e s0.2.2.2.2.2).bind fun x4=>
      (ZP s0.1 s0.2.1 e x4).bind fun x5=>
      match x5 with
      | (.inl x5)=>
       some (.inr x5)
      | (.inr x5)=>
       bif (decide (0<s0.1)) then
        (Zp x5 (w64 (s0.1-1))).bind fun x6=>
        (Zp x5 (w64 ((w64 (s0.2.1-1))-(w64 (x3.1-s0.1))))).bind fun x7=>
        (e x6 x7).bind fun x8=>
        bif (decide (x8<0)) then
         (Zl s0.1 s0.2.1 (w64 ((w64 (s0.2.1-1))-(w64 (x3.1-s0.1)))) e x5).bind fun x9=>
         match x9 with
         | (.inl x9)=>
          bif (decide ((w64 (x9.1-s0.1))<(w64 (s0.2.1-x9.1)))) then
           bif (decide ((w64 (Int.tdiv (w64 (s0.2.1-s0.1)) 8))≤(w64 (x9.1-s0.1)))) then
            (rc s0.1 x9.1 s0.2.2.1 e x9.2).bind fun x10=>
            some (.inl ((w64 (x9.1+1)),s0.2.1,s0.2.2.1,true,true,x10))
           else
            (rc s0.1 x9.1 s0.2.2.1 e x9.2).bind fun x11=>
            some (.inl ((w64 (x9.1+1)),s0.2.1,s0.2.2.1,false,true,x11))
          else
           bif (decide ((w64 (Int.tdiv (w64 (s0.2.1-s0.1)) 8))≤(w64 (s0.2.1-x9.1)))) then
            (rc (w64 (x9.1+1)) s0.2.1 s0.2.2.1 e x9.2).bind fun x12=>
            some (.inl (s0.1,x9.1,s0.2.2.1,true,true,x12))
           else
            (rc (w64 (x9.1+1)) s0.2.1 s0.2.2.1 e x9.2).bind fun x13=>
            some (.inl (s0.1,x9.1,s0.2.2.1,false,true,x13))
         | (.inr x9)=>
          bif (decide ((w64 (x9.1-s0.1))<(w64 (s0.2.1-x9.1)))) then
           bif (decide ((w64 (Int.tdiv (w64 (s0.2.1-s0.1)) 8))≤(w64 (x9.1-s0.1)))) then
            (rc s0.1 x9.1 s0.2.2.1 e x9.2).bind fun x14=>
            some (.inl ((w64 (x9.1+1)),s0.2.1,s0.2.2.1,true,false,x14))
           else
            (rc s0.1 x9.1 s0.2.2.1 e x9.2).bind fun x15=>
            some (.inl ((w64 (x9.1+1)),s0.2.1,s0.2.2.1,false,false,x15))
          else
           bif (decide ((w64 (Int.tdiv (w64 (s0.2.1-s0.1)) 8))≤(w64 (s0.2.1-x9.1)))) then
            (rc (w64 (x9.1+1)) s0.2.1 s0.2.2.1 e x9.2).bind fun x16=>
            some (.inl (s0.1,x9.1,s0.2.2.1,true,false,x16))
           else
            (rc (w64 (x9.1+1)) s0.2.1 s0.2.2.1 e x9.2).bind fun x17=>
            some (.inl (s0.1,x9.1,s0.2.2.1,false,false,x17))
        else
         (Zv s0.1 s0.2.1 (w64 ((w64 (s0.2.1-1))-(w64 (x3.1-s0.1)))) e x5).bind fun x18=>
         some (.inl (x18.1,s0.2.1,s0.2.2.1,true,true,x18.2))
       else
        (Zl s0.1 s0.2.1 (w64 ((w64 (s0.2.1-1))-(w64 (x3.1-s0.1)))) e x5).bind fun x19=>
        match x19 with
        | (.inl x19)=>
         bif (decide ((w64 (x19.1-s0.1))<(w64 (s0.2.1-x19.1)))) then
          bif (decide ((w64 (Int.tdiv (w64 (s0.2.1-s0.1)) 8))≤(w64 (x19.1-s0.1)))) then
           (rc s0.1 x19.1 s0.2.2.1 e x19.2).bind fun x20=>
           some (.inl ((w64 (x19.1+1)),s0.2.1,s0.2.2.1,true,true,x20))
          else
           (rc s0.1 x19.1 s0.2.2.1 e x19.2).bind fun x21=>
           some (.inl ((w64 (x19.1+1)),s0.2.1,s0.2.2.1,false,true,x21))
         else
          bif (decide ((w64 (Int.tdiv (w64 (s0.2.1-s0.1)) 8))≤(w64 (s0.2.1-x19.1)))) then
           (rc (w64 (x19.1+1)) s0.2.1 s0.2.2.1 e x19.2).bind fun x22=>
           some (.inl (s0.1,x19.1,s0.2.2.1,true,true,x22))
          else
           (rc (w64 (x19.1+1)) s0.2.1 s0.2.2.1 e x19.2).bind fun x23=>
           some (.inl (s0.1,x19.1,s0.2.2.1,false,true,x23))
        | (.inr x19)=>
         bif (decide ((w64 (x19.1-s0.1))<(w64 (s0.2.1-x19.1)))) then
          bif (decide ((w64 (Int.tdiv (w64 (s0.2.1-s0.1)) 8))≤(w64 (x19.1-s0.1)))) then
           (rc s0.1 x19.1 s0.2.2.1 e x19.2).bind fun x24=>
           some (.inl ((w64 (x19.1+1)),s0.2.1,s0.2.2.1,true,false,x24))
          else
           (rc s0.1 x19.1 s0.2.2.1 e x19.2).bind fun x25=>
           some (.inl ((w64 (x19.1+1)),s0.2.1,s0.2.2.1,false,false,x25))
         else
          bif (decide ((w64 (Int.tdiv (w64 (s0.2.1-s0.1)) 8))≤(w64 (s0.2.1-x19.1)))) then
           (rc (w64 (x19.1+1)) s0.2.1 s0.2.2.1 e x19.2).bind fun x26=>
           some (.inl (s0.1,x19.1,s0.2.2.1,true,false,x26))
          else
           (rc (w64 (x19.1+1)) s0.2.1 s0.2.2.1 e x19.2).bind fun x27=>
           some (.inl (s0.1,x19.1,s0.2.2.1,false,false,x27))
     else
      bif (x3.2==1) then
       (ZP s0.1 s0.2.1 e s0.2.2.2.2.2).bind fun x28=>
       match x28 with
       | (.inl x28)=>
        some (.inr x28)
       | (.inr x28)=>
        bif (decide (0<s0.1)) then
         (Zp x28 (w64 (s0.1-1))).bind fun x29=>
         (Zp x28 x3.1).bind fun x30=>
         (e x29 x30).bind fun x31=>
         bif (decide (x31<0)) then
          (Zl s0.1 s0.2.1 x3.1 e x28).bind fun x32=>
          match x32 with
          | (.inl x32)=>
           bif (decide ((w64 (x32.1-s0.1))<(w64 (s0.2.1-x32.1)))) then
            bif (decide ((w64 (Int.tdiv (w64 (s0.2.1-s0.1)) 8))≤(w64 (x32.1-s0.1)))) then
             (rc s0.1 x32.1 s0.2.2.1 e x32.2).bind fun x33=>
             some (.inl ((w64 (x32.1+1)),s0.2.1,s0.2.2.1,true,true,x33))
            else
             (rc s0.1 x32.1 s0.2.2.1 e x32.2).bind fun x34=>
             some (.inl ((w64 (x32.1+1)),s0.2.1,s0.2.2.1,false,true,x34))
           else
            bif (decide ((w64 (Int.tdiv (w64 (s0.2.1-s0.1)) 8))≤(w64 (s0.2.1-x32.1)))) then
             (rc (w64 (x32.1+1)) s0.2.1 s0.2.2.1 e x32.2).bind fun x35=>
             some (.inl (s0.1,x32.1,s0.2.2.1,true,true,x35))
            else
             (rc (w64 (x32.1+1)) s0.2.1 s0.2.2.1 e x32.2).bind fun x36=>
             some (.inl (s0.1,x32.1,s0.2.2.1,false,true,x36))
          | (.inr x32)=>
           bif (decide ((w64 (x32.1-s0.1))<(w64 (s0.2.1-x32.1)))) then
            bif (decide ((w64 (Int.tdiv (w64 (s0.2.1-s0.1)) 8))≤(w64 (x32.1-s0.1)))) then
             (rc s0.1 x32.1 s0.2.2.1 e x32.2).bind fun x37=>
             some (.inl ((w64 (x32.1+1)),s0.2.1,s0.2.2.1,true,false,x37))
            else
             (rc s0.1 x32.1 s0.2.2.1 e x32.2).bind fun x38=>
             some (.inl ((w64 (x32.1+1)),s0.2.1,s0.2.2.1,false,false,x38))
           else
            bif (decide ((w64 (Int.tdiv (w64 (s0.2.1-s0.1)) 8))≤(w64 (s0.2.1-x32.1)))) then
             (rc (w64 (x32.1+1)) s0.2.1 s0.2.2.1 e x32.2).bind fun x39=>
             some (.inl (s0.1,x32.1,s0.2.2.1,true,false,x39))
            else
             (rc (w64 (x32.1+1)) s0.2.1 s0.2.2.1 e x32.2).bind fun x40=>
             some (.inl (s0.1,x32.1,s0.2.2.1,false,false,x40))
         else
          (Zv s0.1 s0.2.1 x3.1 e x28).bind fun x41=>
          some (.inl (x41.1,s0.2.1,s0.2.2.1,true,true,x41.2))
        else
         (Zl s0.1 s0.2.1 x3.1 e x28).bind fun x42=>
         match x42 with
         | (.inl x42)=>
          bif (decide ((w64 (x42.1-s0.1))<(w64 (s0.2.1-x42.1)))) then
           bif (decide ((w64 (Int.tdiv (w64 (s0.2.1-s0.1)) 8))≤(w64 (x42.1-s0.1)))) then
            (rc s0.1 x42.1 s0.2.2.1 e x42.2).bind fun x43=>
            some (.inl ((w64 (x42.1+1)),s0.2.1,s0.2.2.1,true,true,x43))
           else
            (rc s0.1 x42.1 s0.2.2.1 e x42.2).bind fun x44=>
            some (.inl ((w64 (x42.1+1)),s0.2.1,s0.2.2.1,false,true,x44))
          else
           bif (decide ((w64 (Int.tdiv (w64 (s0.2.1-s0.1)) 8))≤(w64 (s0.2.1-x42.1)))) then
            (rc (w64 (x42.1+1)) s0.2.1 s0.2.2.1 e x42.2).bind fun x45=>
            some (.inl (s0.1,x42.1,s0.2.2.1,true,true,x45))
           else
            (rc (w64 (x42.1+1)) s0.2.1 s0.2.2.1 e x42.2).bind fun x46=>
            some (.inl (s0.1,x42.1,s0.2.2.1,false,true,x46))
         | (.inr x42)=>
          bif (decide ((w64 (x42.1-s0.1))<(w64 (s0.2.1-x42.1)))) then
           bif (decide ((w64 (Int.tdiv (w64 (s0.2.1-s0.1)) 8))≤(w64 (x42.1-s0.1)))) then
            (rc s0.1 x42.1 s0.2.2.1 e x42.2).bind fun x47=>
            some (.inl ((w64 (x42.1+1)),s0.2.1,s0.2.2.1,true,false,x47))
           else
            (rc s0.1 x42.1 s0.2.2.1 e x42.2).bind fun x48=>
            some (.inl ((w64 (x42.1+1)),s0.2.1,s0.2.2.1,false,false,x48))
          else
           bif (decide ((w64 (Int.tdiv (w64 (s0.2.1-s0.1)) 8))≤(w64 (s0.2.1-x42.1)))) then
            (rc (w64 (x42.1+1)) s0.2.1 s0.2.2.1 e x42.2).bind fun x49=>
            some (.inl (s0.1,x42.1,s0.2.2.1,true,false,x49))
           else
            (rc (w64 (x42.1+1)) s0.2.1 s0.2.2.1 e x42.2).bind fun x50=>
            some (.inl (s0.1,x42.1,s0.2.2.1,false,false,x50))
      else
       bif (decide (0<s0.1)) then
        (Zp s0.2.2.2.2.2 (w64 (s0.1-1))).bind fun x51=>
        (Zp s0.2.2.2.2.2 x3.1).bind fun x52=>
        (e x51 x52).bind fun x53=>
        bif (decide (x53<0)) then
         (Zl s0.1 s0.2.1 x3.1 e s0.2.2.2.2.2).bind fun x54=>
         match x54 with
         | (.inl x54)=>
          bif (decide ((w64 (x54.1-s0.1))<(w64 (s0.2.1-x54.1)))) then
           bif (decide ((w64 (Int.tdiv (w64 (s0.2.1-s0.1)) 8))≤(w64 (x54.1-s0.1)))) then
            (rc s0.1 x54.1 s0.2.2.1 e x54.2).bind fun x55=>
            some (.inl ((w64 (x54.1+1)),s0.2.1,s0.2.2.1,true,true,x55))
           else
            (rc s0.1 x54.1 s0.2.2.1 e x54.2).bind fun x56=>
            some (.inl ((w64 (x54.1+1)),s0.2.1,s0.2.2.1,false,true,x56))
          else
           bif (decide ((w64 (Int.tdiv (w64 (s0.2.1-s0.1)) 8))≤(w64 (s0.2.1-x54.1)))) then
            (rc (w64 (x54.1+1)) s0.2.1 s0.2.2.1 e x54.2).bind fun x57=>
            some (.inl (s0.1,x54.1,s0.2.2.1,true,true,x57))
           else
            (rc (w64 (x54.1+1)) s0.2.1 s0.2.2.1 e x54.2).bind fun x58=>
            some (.inl (s0.1,x54.1,s0.2.2.1,false,true,x58))
         | (.inr x54)=>
          bif (decide ((w64 (x54.1-s0.1))<(w64 (s0.2.1-x54.1)))) then
           bif (decide ((w64 (Int.tdiv (w64 (s0.2.1-s0.1)) 8))≤(w64 (x54.1-s0.1)))) then
            (rc s0.1 x54.1 s0.2.2.1 e x54.2).bind fun x59=>
            some (.inl ((w64 (x54.1+1)),s0.2.1,s0.2.2.1,true,false,x59))
           else
            (rc s0.1 x54.1 s0.2.2.1 e x54.2).bind fun x60=>
            some (.inl ((w64 (x54.1+1)),s0.2.1,s0.2.2.1,false,false,x60))
          else
           bif (decide ((w64 (Int.tdiv (w64 (s0.2.1-s0.1)) 8))≤(w64 (s0.2.1-x54.1)))) then
            (rc (w64 (x54.1+1)) s0.2.1 s0.2.2.1 e x54.2).bind fun x61=>
            some (.inl (s0.1,x54.1,s0.2.2.1,true,false,x61))
           else
            (rc (w64 (x54.1+1)) s0.2.1 s0.2.2.1 e x54.2).bind fun x62=>
            some (.inl (s0.1,x54.1,s0.2.2.1,false,false,x62))
        else
         (Zv s0.1 s0.2.1 x3.1 e s0.2.2.2.2.2).bind fun x63=>
         some (.inl (x63.1,s0.2.1,s0.2.2.1,true,true,x63.2))
       else
        (Zl s0.1 s0.2.1 x3.1 e s0.2.2.2.2.2).bind fun x64=>
        match x64 with
        | (.inl x64)=>
         bif (decide ((w64 (x64.1-s0.1))<(w64 (s0.2.1-x64.1)))) then
          bif (decide ((w64 (Int.tdiv (w64 (s0.2.1-s0.1)) 8))≤(w64 (x64.1-s0.1)))) then
           (rc s0.1 x64.1 s0.2.2.1 e x64.2).bind fun x65=>
           some (.inl ((w64 (x64.1+1)),s0.2.1,s0.2.2.1,true,true,x65))
          else
           (rc s0.1 x64.1 s0.2.2.1 e x64.2).bind fun x66=>
           some (.inl ((w64 (x64.1+1)),s0.2.1,s0.2.2.1,false,true,x66))
         else
          bif (decide ((w64 (Int.tdiv (w64 (s0.2.1-s0.1)) 8))≤(w64 (s0.2.1-x64.1)))) then
           (rc (w64 (x64.1+1)) s0.2.1 s0.2.2.1 e x64.2).bind fun x67=>
           some (.inl (s0.1,x64.1,s0.2.2.1,true,true,x67))
          else
           (rc (w64 (x64.1+1)) s0.2.1 s0.2.2.1 e x64.2).bind fun x68=>
           some (.inl (s0.1,x64.1,s0.2.2.1,false,true,x68))
        | (.inr x64)=>
         bif (decide ((w64 (x64.1-s0.1))<(w64 (s0.2.1-x64.1)))) then
          bif (decide ((w64 (Int.tdiv (w64 (s0.2.1-s0.1)) 8))≤(w64 (x64.1-s0.1)))) then
           (rc s0.1 x64.1 s0.2.2.1 e x64.2).bind fun x69=>
           some (.inl ((w64 (x64.1+1)),s0.2.1,s0.2.2.1,true,false,x69))
          else
           (rc s0.1 x64.1 s0.2.2.1 e x64.2).bind fun x70=>
           some (.inl ((w64 (x64.1+1)),s0.2.1,s0.2.2.1,false,false,x70))
         else
          bif (decide ((w64 (Int.tdiv (w64 (s0.2.1-s0.1)) 8))≤(w64 (s0.2.1-x64.1)))) then
           (rc (w64 (x64.1+1)) s0.2.1 s0.2.2.1 e x64.2).bind fun x71=>
           some (.inl (s0.1,x64.1,s0.2.2.1,true,false,x71))
          else
           (rc (w64 (x64.1+1)) s0.2.1 s0.2.2.1 e x64.2).bind fun x72=>
           some (.inl (s0.1,x64.1,s0.2.2.1,false,false,x72))
  else
   bif (decide ((w64 (s0.2.1-s0.1))≤12)) then
    (ZY s0.1 s0.2.1 e s0.2.2.2.2.2).bind fun x73=>
    some (.inr x73)
   else
    bif (s0.2.2.1==0) then
     (Zaf s0.1 s0.2.1 e s0.2.2.2.2.2).bind fun x74=>
     some (.inr x74)
    else
     (ZM s0.1 s0.2.1 e s0.2.2.2.2.2).bind fun x75=>
     bif (x75.2==2) then
      (ZJ s0.1 s0.2.1 e s0.2.2.2.2.2).bind fun x76=>
      bif (decide (0<s0.1)) then
       (Zp x76 (w64 (s0.1-1))).bind fun x77=>
       (Zp x76 (w64 ((w64 (s0.2.1-1))-(w64 (x75.1-s0.1))))).bind fun x78=>
       (e x77 x78).bind fun x79=>
       bif (decide (x79<0)) then
        (Zl s0.1 s0.2.1 (w64 ((w64 (s0.2.1-1))-(w64 (x75.1-s0.1)))) e x76).bind fun x80=>
        match x80 with
        | (.inl x80)=>
         bif (decide ((w64 (x80.1-s0.1))<(w64 (s0.2.1-x80.1)))) then
          bif (decide ((w64 (Int.tdiv (w64 (s0.2.1-s0.1)) 8))≤(w64 (x80.1-s0.1)))) then
           (rc s0.1 x80.1 s0.2.2.1 e x80.2).bind fun x81=>
           some (.inl ((w64 (x80.1+1)),s0.2.1,s0.2.2.1,true,true,x81))
          else
           (rc s0.1 x80.1 s0.2.2.1 e x80.2).bind fun x82=>
           some (.inl ((w64 (x80.1+1)),s0.2.1,s0.2.2.1,false,true,x82))
         else
          bif (decide ((w64 (Int.tdiv (w64 (s0.2.1-s0.1)) 8))≤(w64 (s0.2.1-x80.1)))) then
           (rc (w64 (x80.1+1)) s0.2.1 s0.2.2.1 e x80.2).bind fun x83=>
           some (.inl (s0.1,x80.1,s0.2.2.1,true,true,x83))
          else
           (rc (w64 (x80.1+1)) s0.2.1 s0.2.2.1 e x80.2).bind fun x84=>
           some (.inl (s0.1,x80.1,s0.2.2.1,false,true,x84))
        | (.inr x80)=>
         bif (decide ((w64 (x80.1-s0.1))<(w64 (s0.2.1-x80.1)))) then
          bif (decide ((w64 (Int.tdiv (w64 (s0.2.1-s0.1)) 8))≤(w64 (x80.1-s0.1)))) then
           (rc s0.1 x80.1 s0.2.2.1 e x80.2).bind fun x85=>
           some (.inl ((w64 (x80.1+1)),s0.2.1,s0.2.2.1,true,false,x85))
          else
           (rc s0.1 x80.1 s0.2.2.1 e x80.2).bind fun x86=>
           some (.inl ((w64 (x80.1+1)),s0.2.1,s0.2.2.1,false,false,x86))
         else
          bif (decide ((w64 (Int.tdiv (w64 (s0.2.1-s0.1)) 8))≤(w64 (s0.2.1-x80.1)))) then
           (rc (w64 (x80.1+1)) s0.2.1 s0.2.2.1 e x80.2).bind fun x87=>
           some (.inl (s0.1,x80.1,s0.2.2.1,true,false,x87))
          else
           (rc (w64 (x80.1+1)) s0.2.1 s0.2.2.1 e x80.2).bind fun x88=>
           some (.inl (s0.1,x80.1,s0.2.2.1,false,false,x88))
       else
        (Zv s0.1 s0.2.1 (w64 ((w64 (s0.2.1-1))-(w64 (x75.1-s0.1)))) e x76).bind fun x89=>
        some (.inl (x89.1,s0.2.1,s0.2.2.1,true,false,x89.2))
      else
       (Zl s0.1 s0.2.1 (w64 ((w64 (s0.2.1-1))-(w64 (x75.1-s0.1)))) e x76).bind fun x90=>
       match x90 with
       | (.inl x90)=>
        bif (decide ((w64 (x90.1-s0.1))<(w64 (s0.2.1-x90.1)))) then
         bif (decide ((w64 (Int.tdiv (w64 (s0.2.1-s0.1)) 8))≤(w64 (x90.1-s0.1)))) then
          (rc s0.1 x90.1 s0.2.2.1 e x90.2).bind fun x91=>
          some (.inl ((w64 (x90.1+1)),s0.2.1,s0.2.2.1,true,true,x91))
         else
          (rc s0.1 x90.1 s0.2.2.1 e x90.2).bind fun x92=>
          some (.inl ((w64 (x90.1+1)),s0.2.1,s0.2.2.1,false,true,x92))
        else
         bif (decide ((w64 (Int.tdiv (w64 (s0.2.1-s0.1)) 8))≤(w64 (s0.2.1-x90.1)))) then
          (rc (w64 (x90.1+1)) s0.2.1 s0.2.2.1 e x90.2).bind fun x93=>
          some (.inl (s0.1,x90.1,s0.2.2.1,true,true,x93))
         else
          (rc (w64 (x90.1+1)) s0.2.1 s0.2.2.1 e x90.2).bind fun x94=>
          some (.inl (s0.1,x90.1,s0.2.2.1,false,true,x94))
       | (.inr x90)=>
        bif (decide ((w64 (x90.1-s0.1))<(w64 (s0.2.1-x90.1)))) then
         bif (decide ((w64 (Int.tdiv (w64 (s0.2.1-s0.1)) 8))≤(w64 (x90.1-s0.1)))) then
          (rc s0.1 x90.1 s0.2.2.1 e x90.2).bind fun x95=>
          some (.inl ((w64 (x90.1+1)),s0.2.1,s0.2.2.1,true,false,x95))
         else
          (rc s0.1 x90.1 s0.2.2.1 e x90.2).bind fun x96=>
          some (.inl ((w64 (x90.1+1)),s0.2.1,s0.2.2.1,false,false,x96))
        else
         bif (decide ((w64 (Int.tdiv (w64 (s0.2.1-s0.1)) 8))≤(w64 (s0.2.1-x90.1)))) then
          (rc (w64 (x90.1+1)) s0.2.1 s0.2.2.1 e x90.2).bind fun x97=>
          some (.inl (s0.1,x90.1,s0.2.2.1,true,false,x97))
         else
          (rc (w64 (x90.1+1)) s0.2.1 s0.2.2.1 e x90.2).bind fun x98=>
          some (.inl (s0.1,x90.1,s0.2.2.1,false,false,x98))
     else
      bif (decide (0<s0.1)) then
       (Zp s0.2.2.2.2.2 (w64 (s0.1-1))).bind fun x99=>
       (Zp s0.2.2.2.2.2 x75.1).bind fun x100=>
       (e x99 x100).bind fun x101=>
       bif (decide (x101<0)) then
        (Zl s0.1 s0.2.1 x75.1 e s0.2.2.2.2.2).bind fun x102=>
        match x102 with
        | (.inl x102)=>
         bif (decide ((w64 (x102.1-s0.1))<(w64 (s0.2.1-x102.1)))) then
          bif (decide ((w64 (Int.tdiv (w64 (s0.2.1-s0.1)) 8))≤(w64 (x102.1-s0.1)))) then
           (rc s0.1 x102.1 s0.2.2.1 e x102.2).bind fun x103=>
           some (.inl ((w64 (x102.1+1)),s0.2.1,s0.2.2.1,true,true,x103))
          else
           (rc s0.1 x102.1 s0.2.2.1 e x102.2).bind fun x104=>
           some (.inl ((w64 (x102.1+1)),s0.2.1,s0.2.2.1,false,true,x104))
         else
          bif (decide ((w64 (Int.tdiv (w64 (s0.2.1-s0.1)) 8))≤(w64 (s0.2.1-x102.1)))) then
           (rc (w64 (x102.1+1)) s0.2.1 s0.2.2.1 e x102.2).bind fun x105=>
           some (.inl (s0.1,x102.1,s0.2.2.1,true,true,x105))
          else
           (rc (w64 (x102.1+1)) s0.2.1 s0.2.2.1 e x102.2).bind fun x106=>
           some (.inl (s0.1,x102.1,s0.2.2.1,false,true,x106))
        | (.inr x102)=>
         bif (decide ((w64 (x102.1-s0.1))<(w64 (s0.2.1-x102.1)))) then
          bif (decide ((w64 (Int.tdiv (w64 (s0.2.1-s0.1)) 8))≤(w64 (x102.1-s0.1)))) then
           (rc s0.1 x102.1 s0.2.2.1 e x102.2).bind fun x107=>
           some (.inl ((w64 (x102.1+1)),s0.2.1,s0.2.2.1,true,false,x107))
          else
           (rc s0.1 x102.1 s0.2.2.1 e x102.2).bind fun x108=>
           some (.inl ((w64 (x102.1+1)),s0.2.1,s0.2.2.1,false,false,x108))
         else
          bif (decide ((w64 (Int.tdiv (w64 (s0.2.1-s0.1)) 8))≤(w64 (s0.2.1-x102.1)))) then
           (rc (w64 (x102.1+1)) s0.2.1 s0.2.2.1 e x102.2).bind fun x109=>
           some (.inl (s0.1,x102.1,s0.2.2.1,true,false,x109))
          else
           (rc (w64 (x102.1+1)) s0.2.1 s0.2.2.1 e x102.2).bind fun x110=>
           some (.inl (s0.1,x102.1,s0.2.2.1,false,false,x110))
       else
        (Zv s0.1 s0.2.1 x75.1 e s0.2.2.2.2.2).bind fun x111=>
        some (.inl (x111.1,s0.2.1,s0.2.2.1,true,false,x111.2))
      else
       (Zl s0.1 s0.2.1 x75.1 e s0.2.2.2.2.2).bind fun x112=>
       match x112 with
       | (.inl x112)=>
        bif (decide ((w64 (x112.1-s0.1))<(w64 (s0.2.1-x112.1)))) then
         bif (decide ((w64 (Int.tdiv (w64 (s0.2.1-s0.1)) 8))≤(w64 (x112.1-s0.1)))) then
          (rc s0.1 x112.1 s0.2.2.1 e x112.2).bind fun x113=>
          some (.inl ((w64 (x112.1+1)),s0.2.1,s0.2.2.1,true,true,x113))
         else
          (rc s0.1 x112.1 s0.2.2.1 e x112.2).bind fun x114=>
          some (.inl ((w64 (x112.1+1)),s0.2.1,s0.2.2.1,false,true,x114))
        else
         bif (decide ((w64 (Int.tdiv (w64 (s0.2.1-s0.1)) 8))≤(w64 (s0.2.1-x112.1)))) then
          (rc (w64 (x112.1+1)) s0.2.1 s0.2.2.1 e x112.2).bind fun x115=>
          some (.inl (s0.1,x112.1,s0.2.2.1,true,true,x115))
         else
          (rc (w64 (x112.1+1)) s0.2.1 s0.2.2.1 e x112.2).bind fun x116=>
          some (.inl (s0.1,x112.1,s0.2.2.1,false,true,x116))
       | (.inr x112)=>
        bif (decide ((w64 (x112.1-s0.1))<(w64 (s0.2.1-x112.1)))) then
         bif (decide ((w64 (Int.tdiv (w64 (s0.2.1-s0.1)) 8))≤(w64 (x112.1-s0.1)))) then
          (rc s0.1 x112.1 s0.2.2.1 e x112.2).bind fun x117=>
          some (.inl ((w64 (x112.1+1)),s0.2.1,s0.2.2.1,true,false,x117))
         else
          (rc s0.1 x112.1 s0.2.2.1 e x112.2).bind fun x118=>
          some (.inl ((w64 (x112.1+1)),s0.2.1,s0.2.2.1,false,false,x118))
        else
         bif (decide ((w64 (Int.tdiv (w64 (s0.2.1-s0.1)) 8))≤(w64 (s0.2.1-x112.1)))) then
          (rc (w64 (x112.1+1)) s0.2.1 s0.2.2.1 e x112.2).bind fun x119=>
          some (.inl (s0.1,x112.1,s0.2.2.1,true,false,x119))
         else
          (rc (w64 (x112.1+1)) s0.2.1 s0.2.2.1 e x112.2).bind fun x120=>
          some (.inl (s0.1,x112.1,s0.2.2.1,false,false,x120))
 else
  bif s0.2.2.2.2.1 then
   bif (decide ((w64 (s0.2.1-s0.1))≤12)) then
    (ZY s0.1 s0.2.1 e s0.2.2.2.2.2).bind fun x121=>
    some (.inr x121)
   else
    bif (s0.2.2.1==0) then
     (Zaf s0.1 s0.2.1 e s0.2.2.2.2.2).bind fun x122=>
     some (.inr x122)
    else
     (Zan s0.1 s0.2.1 e s0.2.2.2.2.2).bind fun x123=>
     (ZM s0.1 s0.2.1 e x123).bind fun x124=>
     bif (x124.2==2) then
      (ZJ s0.1 s0.2.1 e x123).bind fun x125=>
      bif (decide (0<s0.1)) then
       (Zp x125 (w64 (s0.1-1))).bind fun x126=>
       (Zp x125 (w64 ((w64 (s0.2.1-1))-(w64 (x124.1-s0.1))))).bind fun x127=>
       (e x126 x127).bind fun x128=>
       bif (decide (x128<0)) then
        (Zl s0.1 s0.2.1 (w64 ((w64 (s0.2.1-1))-(w64 (x124.1-s0.1)))) e x125).bind fun x129=>
        match x129 with
        | (.inl x129)=>
         bif (decide ((w64 (x129.1-s0.1))<(w64 (s0.2.1-x129.1)))) then
          bif (decide ((w64 (Int.tdiv (w64 (s0.2.1-s0.1)) 8))≤(w64 (x129.1-s0.1)))) then
           (rc s0.1 x129.1 (w64 (s0.2.2.1-1)) e x129.2).bind fun x130=>
           some (.inl ((w64 (x129.1+1)),s0.2.1,(w64 (s0.2.2.1-1)),true,true,x130))
          else
           (rc s0.1 x129.1 (w64 (s0.2.2.1-1)) e x129.2).bind fun x131=>
           some (.inl ((w64 (x129.1+1)),s0.2.1,(w64 (s0.2.2.1-1)),false,true,x131))
         else
          bif (decide ((w64 (Int.tdiv (w64 (s0.2.1-s0.1)) 8))≤(w64 (s0.2.1-x129.1)))) then
           (rc (w64 (x129.1+1)) s0.2.1 (w64 (s0.2.2.1-1)) e x129.2).bind fun x132=>
           some (.inl (s0.1,x129.1,(w64 (s0.2.2.1-1)),true,true,x132))
          else
           (rc (w64 (x129.1+1)) s0.2.1 (w64 (s0.2.2.1-1)) e x129.2).bind fun x133=>
           some (.inl (s0.1,x129.1,(w64 (s0.2.2.1-1)),false,true,x133))
        | (.inr x129)=>
         bif (decide ((w64 (x129.1-s0.1))<(w64 (s0.2.1-x129.1)))) then
          bif (decide ((w64 (Int.tdiv (w64 (s0.2.1-s0.1)) 8))≤(w64 (x129.1-s0.1)))) then
           (rc s0.1 x129.1 (w64 (s0.2.2.1-1)) e x129.2).bind fun x134=>
           some (.inl ((w64 (x129.1+1)),s0.2.1,(w64 (s0.2.2.1-1)),true,false,x134))
          else
           (rc s0.1 x129.1 (w64 (s0.2.2.1-1)) e x129.2).bind fun x135=>
           some (.inl ((w64 (x129.1+1)),s0.2.1,(w64 (s0.2.2.1-1)),false,false,x135))
         else
          bif (decide ((w64 (Int.tdiv (w64 (s0.2.1-s0.1)) 8))≤(w64 (s0.2.1-x129.1)))) then
           (rc (w64 (x129.1+1)) s0.2.1 (w64 (s0.2.2.1-1)) e x129.2).bind fun x136=>
           some (.inl (s0.1,x129.1,(w64 (s0.2.2.1-1)),true,false,x136))
          else
           (rc (w64 (x129.1+1)) s0.2.1 (w64 (s0.2.2.1-1)) e x129.2).bind fun x137=>
           some (.inl (s0.1,x129.1,(w64 (s0.2.2.1-1)),false,false,x137))
       else
        (Zv s0.1 s0.2.1 (w64 ((w64 (s0.2.1-1))-(w64 (x124.1-s0.1)))) e x125).bind fun x138=>
        some (.inl (x138.1,s0.2.1,(w64 (s0.2.2.1-1)),false,true,x138.2))
      else
       (Zl s0.1 s0.2.1 (w64 ((w64 (s0.2.1-1))-(w64 (x124.1-s0.1)))) e x125).bind fun x139=>
       match x139 with
       | (.inl x139)=>
        bif (decide ((w64 (x139.1-s0.1))<(w64 (s0.2.1-x139.1)))) then
         bif (decide ((w64 (Int.tdiv (w64 (s0.2.1-s0.1)) 8))≤(w64 (x139.1-s0.1)))) then
          (rc s0.1 x139.1 (w64 (s0.2.2.1-1)) e x139.2).bind fun x140=>
          some (.inl ((w64 (x139.1+1)),s0.2.1,(w64 (s0.2.2.1-1)),true,true,x140))
         else
          (rc s0.1 x139.1 (w64 (s0.2.2.1-1)) e x139.2).bind fun x141=>
          some (.inl ((w64 (x139.1+1)),s0.2.1,(w64 (s0.2.2.1-1)),false,true,x141))
        else
         bif (decide ((w64 (Int.tdiv (w64 (s0.2.1-s0.1)) 8))≤(w64 (s0.2.1-x139.1)))) then
          (rc (w64 (x139.1+1)) s0.2.1 (w64 (s0.2.2.1-1)) e x139.2).bind fun x142=>
          some (.inl (s0.1,x139.1,(w64 (s0.2.2.1-1)),true,true,x142))
         else
          (rc (w64 (x139.1+1)) s0.2.1 (w64 (s0.2.2.1-1)) e x139.2).bind fun x143=>
          some (.inl (s0.1,x139.1,(w64 (s0.2.2.1-1)),false,true,x143))
       | (.inr x139)=>
        bif (decide ((w64 (x139.1-s0.1))<(w64 (s0.2.1-x139.1)))) then
         bif (decide ((w64 (Int.tdiv (w64 (s0.2.1-s0.1)) 8))≤(w64 (x139.1-s0.1)))) then
          (rc s0.1 x139.1 (w64 (s0.2.2.1-1)) e x139.2).bind fun x144=>
          some (.inl ((w64 (x139.1+1)),s0.2.1,(w64 (s0.2.2.1-1)),true,false,x144))
         else
          (rc s0.1 x139.1 (w64 (s0.2.2.1-1)) e x139.2).bind fun x145=>
          some (.inl ((w64 (x139.1+1)),s0.2.1,(w64 (s0.2.2.1-1)),false,false,x145))
        else
         bif (decide ((w64 (Int.tdiv (w64 (s0.2.1-s0.1)) 8))≤(w64 (s0.2.1-x139.1)))) then
          (rc (w64 (x139.1+1)) s0.2.1 (w64 (s0.2.2.1-1)) e x139.2).bind fun x146=>
          some (.inl (s0.1,x139.1,(w64 (s0.2.2.1-1)),true,false,x146))
         else
          (rc (w64 (x139.1+1)) s0.2.1 (w64 (s0.2.2.1-1)) e x139.2).bind fun x147=>
          some (.inl (s0.1,x139.1,(w64 (s0.2.2.1-1)),false,false,x147))
     else
      bif (decide (0<s0.1)) then
       (Zp x123 (w64 (s0.1-1))).bind fun x148=>
       (Zp x123 x124.1).bind fun x149=>
       (e x148 x149).bind fun x150=>
       bif (decide (x150<0)) then
        (Zl s0.1 s0.2.1 x124.1 e x123).bind fun x151=>
        match x151 with
        | (.inl x151)=>
         bif (decide ((w64 (x151.1-s0.1))<(w64 (s0.2.1-x151.1)))) then
          bif (decide ((w64 (Int.tdiv (w64 (s0.2.1-s0.1)) 8))≤(w64 (x151.1-s0.1)))) then
           (rc s0.1 x151.1 (w64 (s0.2.2.1-1)) e x151.2).bind fun x152=>
           some (.inl ((w64 (x151.1+1)),s0.2.1,(w64 (s0.2.2.1-1)),true,true,x152))
          else
           (rc s0.1 x151.1 (w64 (s0.2.2.1-1)) e x151.2).bind fun x153=>
           some (.inl ((w64 (x151.1+1)),s0.2.1,(w64 (s0.2.2.1-1)),false,true,x153))
         else
          bif (decide ((w64 (Int.tdiv (w64 (s0.2.1-s0.1)) 8))≤(w64 (s0.2.1-x151.1)))) then
           (rc (w64 (x151.1+1)) s0.2.1 (w64 (s0.2.2.1-1)) e x151.2).bind fun x154=>
           some (.inl (s0.1,x151.1,(w64 (s0.2.2.1-1)),true,true,x154))
          else
           (rc (w64 (x151.1+1)) s0.2.1 (w64 (s0.2.2.1-1)) e x151.2).bind fun x155=>
           some (.inl (s0.1,x151.1,(w64 (s0.2.2.1-1)),false,true,x155))
        | (.inr x151)=>
         bif (decide ((w64 (x151.1-s0.1))<(w64 (s0.2.1-x151.1)))) then
          bif (decide ((w64 (Int.tdiv (w64 (s0.2.1-s0.1)) 8))≤(w64 (x151.1-s0.1)))) then
           (rc s0.1 x151.1 (w64 (s0.2.2.1-1)) e x151.2).bind fun x156=>
           some (.inl ((w64 (x151.1+1)),s0.2.1,(w64 (s0.2.2.1-1)),true,false,x156))
          else
           (rc s0.1 x151.1 (w64 (s0.2.2.1-1)) e x151.2).bind fun x157=>
           some (.inl ((w64 (x151.1+1)),s0.2.1,(w64 (s0.2.2.1-1)),false,false,x157))
         else
          bif (decide ((w64 (Int.tdiv (w64 (s0.2.1-s0.1)) 8))≤(w64 (s0.2.1-x151.1)))) then
           (rc (w64 (x151.1+1)) s0.2.1 (w64 (s0.2.2.1-1)) e x151.2).bind fun x158=>
           some (.inl (s0.1,x151.1,(w64 (s0.2.2.1-1)),true,false,x158))
          else
           (rc (w64 (x151.1+1)) s0.2.1 (w64 (s0.2.2.1-1)) e x151.2).bind fun x159=>
           some (.inl (s0.1,x151.1,(w64 (s0.2.2.1-1)),false,false,x159))
       else
        (Zv s0.1 s0.2.1 x124.1 e x123).bind fun x160=>
        some (.inl (x160.1,s0.2.1,(w64 (s0.2.2.1-1)),false,true,x160.2))
      else
       (Zl s0.1 s0.2.1 x124.1 e x123).bind fun x161=>
       match x161 with
       | (.inl x161)=>
        bif (decide ((w64 (x161.1-s0.1))<(w64 (s0.2.1-x161.1)))) then
         bif (decide ((w64 (Int.tdiv (w64 (s0.2.1-s0.1)) 8))≤(w64 (x161.1-s0.1)))) then
          (rc s0.1 x161.1 (w64 (s0.2.2.1-1)) e x161.2).bind fun x162=>
          some (.inl ((w64 (x161.1+1)),s0.2.1,(w64 (s0.2.2.1-1)),true,true,x162))
         else
          (rc s0.1 x161.1 (w64 (s0.2.2.1-1)) e x161.2).bind fun x163=>
          some (.inl ((w64 (x161.1+1)),s0.2.1,(w64 (s0.2.2.1-1)),false,true,x163))
        else
         bif (decide ((w64 (Int.tdiv (w64 (s0.2.1-s0.1)) 8))≤(w64 (s0.2.1-x161.1)))) then
          (rc (w64 (x161.1+1)) s0.2.1 (w64 (s0.2.2.1-1)) e x161.2).bind fun x164=>
          some (.inl (s0.1,x161.1,(w64 (s0.2.2.1-1)),true,true,x164))
         else
          (rc (w64 (x161.1+1)) s0.2.1 (w64 (s0.2.2.1-1)) e x161.2).bind fun x165=>
          some (.inl (s0.1,x161.1,(w64 (s0.2.2.1-1)),false,true,x165))
       | (.inr x161)=>
        bif (decide ((w64 (x161.1-s0.1))<(w64 (s0.2.1-x161.1)))) then
         bif (decide ((w64 (Int.tdiv (w64 (s0.2.1-s0.1)) 8))≤(w64 (x161.1-s0.1)))) then
          (rc s0.1 x161.1 (w64 (s0.2.2.1-1)) e x161.2).bind fun x166=>
          some (.inl ((w64 (x161.1+1)),s0.2.1,(w64 (s0.2.2.1-1)),true,false,x166))
         else
          (rc s0.1 x161.1 (w64 (s0.2.2.1-1)) e x161.2).bind fun x167=>
          some (.inl ((w64 (x161.1+1)),s0.2.1,(w64 (s0.2.2.1-1)),false,false,x167))
        else
         bif (decide ((w64 (Int.tdiv (w64 (s0.2.1-s0.1)) 8))≤(w64 (s0.2.1-x161.1)))) then
          (rc (w64 (x161.1+1)) s0.2.1 (w64 (s0.2.2.1-1)) e x161.2).bind fun x168=>
          some (.inl (s0.1,x161.1,(w64 (s0.2.2.1-1)),true,false,x168))
         else
          (rc (w64 (x161.1+1)) s0.2.1 (w64 (s0.2.2.1-1)) e x161.2).bind fun x169=>
          some (.inl (s0.1,x161.1,(w64 (s0.2.2.1-1)),false,false,x169))
  else
   bif (decide ((w64 (s0.2.1-s0.1))≤12)) then
    (ZY s0.1 s0.2.1 e s0.2.2.2.2.2).bind fun x170=>
    some (.inr x170)
   else
    bif (s0.2.2.1==0) then
     (Zaf s0.1 s0.2.1 e s0.2.2.2.2.2).bind fun x171=>
     some (.inr x171)
    else
     (Zan s0.1 s0.2.1 e s0.2.2.2.2.2).bind fun x172=>
     (ZM s0.1 s0.2.1 e x172).bind fun x173=>
     bif (x173.2==2) then
      (ZJ s0.1 s0.2.1 e x172).bind fun x174=>
      bif (decide (0<s0.1)) then
       (Zp x174 (w64 (s0.1-1))).bind fun x175=>
       (Zp x174 (w64 ((w64 (s0.2.1-1))-(w64 (x173.1-s0.1))))).bind fun x176=>
       (e x175 x176).bind fun x177=>
       bif (decide (x177<0)) then
        (Zl s0.1 s0.2.1 (w64 ((w64 (s0.2.1-1))-(w64 (x173.1-s0.1)))) e x174).bind fun x178=>
        match x178 with
        | (.inl x178)=>
         bif (decide ((w64 (x178.1-s0.1))<(w64 (s0.2.1-x178.1)))) then
          bif (decide ((w64 (Int.tdiv (w64 (s0.2.1-s0.1)) 8))≤(w64 (x178.1-s0.1)))) then
           (rc s0.1 x178.1 (w64 (s0.2.2.1-1)) e x178.2).bind fun x179=>
           some (.inl ((w64 (x178.1+1)),s0.2.1,(w64 (s0.2.2.1-1)),true,true,x179))
          else
           (rc s0.1 x178.1 (w64 (s0.2.2.1-1)) e x178.2).bind fun x180=>
           some (.inl ((w64 (x178.1+1)),s0.2.1,(w64 (s0.2.2.1-1)),false,true,x180))
         else
          bif (decide ((w64 (Int.tdiv (w64 (s0.2.1-s0.1)) 8))≤(w64 (s0.2.1-x178.1)))) then
           (rc (w64 (x178.1+1)) s0.2.1 (w64 (s0.2.2.1-1)) e x178.2).bind fun x181=>
           some (.inl (s0.1,x178.1,(w64 (s0.2.2.1-1)),true,true,x181))
          else
           (rc (w64 (x178.1+1)) s0.2.1 (w64 (s0.2.2.1-1)) e x178.2).bind fun x182=>
           some (.inl (s0.1,x178.1,(w64 (s0.2.2.1-1)),false,true,x182))
        | (.inr x178)=>
         bif (decide ((w64 (x178.1-s0.1))<(w64 (s0.2.1-x178.1)))) then
          bif (decide ((w64 (Int.tdiv (w64 (s0.2.1-s0.1)) 8))≤(w64 (x178.1-s0.1)))) then
           (rc s0.1 x178.1 (w64 (s0.2.2.1-1)) e x178.2).bind fun x183=>
           some (.inl ((w64 (x178.1+1)),s0.2.1,(w64 (s0.2.2.1-1)),true,false,x183))
          else
           (rc s0.1 x178.1 (w64 (s0.2.2.1-1)) e x178.2).bind fun x184=>
           some (.inl ((w64 (x178.1+1)),s0.2.1,(w64 (s0.2.2.1-1)),false,false,x184))
         else
          bif (decide ((w64 (Int.tdiv (w64 (s0.2.1-s0.1)) 8))≤(w64 (s0.2.1-x178.1)))) then
           (rc (w64 (x178.1+1)) s0.2.1 (w64 (s0.2.2.1-1)) e x178.2).bind fun x185=>
           some (.inl (s0.1,x178.1,(w64 (s0.2.2.1-1)),true,false,x185))
          else
           (rc (w64 (x178.1+1)) s0.2.1 (w64 (s0.2.2.1-1)) e x178.2).bind fun x186=>
           some (.inl (s0.1,x178.1,(w64 (s0.2.2.1-1)),false,false,x186))
       else
        (Zv s0.1 s0.2.1 (w64 ((w64 (s0.2.1-1))-(w64 (x173.1-s0.1)))) e x174).bind fun x187=>
        some (.inl (x187.1,s0.2.1,(w64 (s0.2.2.1-1)),false,false,x187.2))
      else
       (Zl s0.1 s0.2.1 (w64 ((w64 (s0.2.1-1))-(w64 (x173.1-s0.1)))) e x174).bind fun x188=>
       match x188 with
       | (.inl x188)=>
        bif (decide ((w64 (x188.1-s0.1))<(w64 (s0.2.1-x188.1)))) then
         bif (decide ((w64 (Int.tdiv (w64 (s0.2.1-s0.1)) 8))≤(w64 (x188.1-s0.1)))) then
          (rc s0.1 x188.1 (w64 (s0.2.2.1-1)) e x188.2).bind fun x189=>
          some (.inl ((w64 (x188.1+1)),s0.2.1,(w64 (s0.2.2.1-1)),true,true,x189))
         else
          (rc s0.1 x188.1 (w64 (s0.2.2.1-1)) e x188.2).bind fun x190=>
          some (.inl ((w64 (x188.1+1)),s0.2.1,(w64 (s0.2.2.1-1)),false,true,x190))
        else
         bif (decide ((w64 (Int.tdiv (w64 (s0.2.1-s0.1)) 8))≤(w64 (s0.2.1-x188.1)))) then
          (rc (w64 (x188.1+1)) s0.2.1 (w64 (s0.2.2.1-1)) e x188.2).bind fun x191=>
          some (.inl (s0.1,x188.1,(w64 (s0.2.2.1-1)),true,true,x191))
         else
          (rc (w64 (x188.1+1)) s0.2.1 (w64 (s0.2.2.1-1)) e x188.2).bind fun x192=>
          some (.inl (s0.1,x188.1,(w64 (s0.2.2.1-1)),false,true,x192))
       | (.inr x188)=>
        bif (decide ((w64 (x188.1-s0.1))<(w64 (s0.2.1-x188.1)))) then
         bif (decide ((w64 (Int.tdiv (w64 (s0.2.1-s0.1)) 8))≤(w64 (x188.1-s0.1)))) then
          (rc s0.1 x188.1 (w64 (s0.2.2.1-1)) e x188.2).bind fun x193=>
          some (.inl ((w64 (x188.1+1)),s0.2.1,(w64 (s0.2.2.1-1)),true,false,x193))
         else
          (rc s0.1 x188.1 (w64 (s0.2.2.1-1)) e x188.2).bind fun x194=>
          some (.inl ((w64 (x188.1+1)),s0.2.1,(w64 (s0.2.2.1-1)),false,false,x194))
        else
         bif (decide ((w64 (Int.tdiv (w64 (s0.2.1-s0.1)) 8))≤(w64 (s0.2.1-x188.1)))) then
          (rc (w64 (x188.1+1)) s0.2.1 (w64 (s0.2.2.1-1)) e x188.2).bind fun x195=>
          some (.inl (s0.1,x188.1,(w64 (s0.2.2.1-1)),true,false,x195))
         else
          (rc (w64 (x188.1+1)) s0.2.1 (w64 (s0.2.2.1-1)) e x188.2).bind fun x196=>
          some (.inl (s0.1,x188.1,(w64 (s0.2.2.1-1)),false,false,x196))
     else
      bif (decide (0<s0.1)) then
       (Zp x172 (w64 (s0.1-1))).bind fun x197=>
       (Zp x172 x173.1).bind fun x198=>
       (e x197 x198).bind fun x199=>
       bif (decide (x199<0)) then
        (Zl s0.1 s0.2.1 x173.1 e x172).bind fun x200=>
        match x200 with
        | (.inl x200)=>
         bif (decide ((w64 (x200.1-s0.1))<(w64 (s0.2.1-x200.1)))) then
          bif (decide ((w64 (Int.tdiv (w64 (s0.2.1-s0.1)) 8))≤(w64 (x200.1-s0.1)))) then
           (rc s0.1 x200.1 (w64 (s0.2.2.1-1)) e x200.2).bind fun x201=>
           some (.inl ((w64 (x200.1+1)),s0.2.1,(w64 (s0.2.2.1-1)),true,true,x201))
          else
           (rc s0.1 x200.1 (w64 (s0.2.2.1-1)) e x200.2).bind fun x202=>
           some (.inl ((w64 (x200.1+1)),s0.2.1,(w64 (s0.2.2.1-1)),false,true,x202))
         else
          bif (decide ((w64 (Int.tdiv (w64 (s0.2.1-s0.1)) 8))≤(w64 (s0.2.1-x200.1)))) then
           (rc (w64 (x200.1+1)) s0.2.1 (w64 (s0.2.2.1-1)) e x200.2).bind fun x203=>
           some (.inl (s0.1,x200.1,(w64 (s0.2.2.1-1)),true,true,x203))
          else
           (rc (w64 (x200.1+1)) s0.2.1 (w64 (s0.2.2.1-1)) e x200.2).bind fun x204=>
           some (.inl (s0.1,x200.1,(w64 (s0.2.2.1-1)),false,true,x204))
        | (.inr x200)=>
         bif (decide ((w64 (x200.1-s0.1))<(w64 (s0.2.1-x200.1)))) then
          bif (decide ((w64 (Int.tdiv (w64 (s0.2.1-s0.1)) 8))≤(w64 (x200.1-s0.1)))) then
           (rc s0.1 x200.1 (w64 (s0.2.2.1-1)) e x200.2).bind fun x205=>
           some (.inl ((w64 (x200.1+1)),s0.2.1,(w64 (s0.2.2.1-1)),true,false,x205))
          else
           (rc s0.1 x200.1 (w64 (s0.2.2.1-1)) e x200.2).bind fun x206=>
           some (.inl ((w64 (x200.1+1)),s0.2.1,(w64 (s0.2.2.1-1)),false,false,x206))
         else
          bif (decide ((w64 (Int.tdiv (w64 (s0.2.1-s0.1)) 8))≤(w64 (s0.2.1-x200.1)))) then
           (rc (w64 (x200.1+1)) s0.2.1 (w64 (s0.2.2.1-1)) e x200.2).bind fun x207=>
           some (.inl (s0.1,x200.1,(w64 (s0.2.2.1-1)),true,false,x207))
          else
           (rc (w64 (x200.1+1)) s0.2.1 (w64 (s0.2.2.1-1)) e x200.2).bind fun x208=>
           some (.inl (s0.1,x200.1,(w64 (s0.2.2.1-1)),false,false,x208))
       else
        (Zv s0.1 s0.2.1 x173.1 e x172).bind fun x209=>
        some (.inl (x209.1,s0.2.1,(w64 (s0.2.2.1-1)),false,false,x209.2))
      else
       (Zl s0.1 s0.2.1 x173.1 e x172).bind fun x210=>
       match x210 with
       | (.inl x210)=>
        bif (decide ((w64 (x210.1-s0.1))<(w64 (s0.2.1-x210.1)))) then
         bif (decide ((w64 (Int.tdiv (w64 (s0.2.1-s0.1)) 8))≤(w64 (x210.1-s0.1)))) then
          (rc s0.1 x210.1 (w64 (s0.2.2.1-1)) e x210.2).bind fun x211=>
          some (.inl ((w64 (x210.1+1)),s0.2.1,(w64 (s0.2.2.1-1)),true,true,x211))
         else
          (rc s0.1 x210.1 (w64 (s0.2.2.1-1)) e x210.2).bind fun x212=>
          some (.inl ((w64 (x210.1+1)),s0.2.1,(w64 (s0.2.2.1-1)),false,true,x212))
        else
         bif (decide ((w64 (Int.tdiv (w64 (s0.2.1-s0.1)) 8))≤(w64 (s0.2.1-x210.1)))) then
          (rc (w64 (x210.1+1)) s0.2.1 (w64 (s0.2.2.1-1)) e x210.2).bind fun x213=>
          some (.inl (s0.1,x210.1,(w64 (s0.2.2.1-1)),true,true,x213))
         else
          (rc (w64 (x210.1+1)) s0.2.1 (w64 (s0.2.2.1-1)) e x210.2).bind fun x214=>
          some (.inl (s0.1,x210.1,(w64 (s0.2.2.1-1)),false,true,x214))
       | (.inr x210)=>
        bif (decide ((w64 (x210.1-s0.1))<(w64 (s0.2.1-x210.1)))) then
         bif (decide ((w64 (Int.tdiv (w64 (s0.2.1-s0.1)) 8))≤(w64 (x210.1-s0.1)))) then
          (rc s0.1 x210.1 (w64 (s0.2.2.1-1)) e x210.2).bind fun x215=>
          some (.inl ((w64 (x210.1+1)),s0.2.1,(w64 (s0.2.2.1-1)),true,false,x215))
         else
          (rc s0.1 x210.1 (w64 (s0.2.2.1-1)) e x210.2).bind fun x216=>
          some (.inl ((w64 (x210.1+1)),s0.2.1,(w64 (s0.2.2.1-1)),false,false,x216))
        else
         bif (decide ((w64 (Int.tdiv (w64 (s0.2.1-s0.1)) 8))≤(w64 (s0.2.1-x210.1)))) then
          (rc (w64 (x210.1+1)) s0.2.1 (w64 (s0.2.2.1-1)) e x210.2).bind fun x217=>
          some (.inl (s0.1,x210.1,(w64 (s0.2.2.1-1)),true,false,x217))
         else
          (rc (w64 (x210.1+1)) s0.2.1 (w64 (s0.2.2.1-1)) e x210.2).bind fun x218=>
          some (.inl (s0.1,x210.1,(w64 (s0.2.2.1-1)),false,false,x218))
def ZaH (rc:Int→Int→Int→(Int→Int→Option Int)→(List Int)→Option (List Int)) (b:Int) (c:Int) (d:Int) (e:(Int→Int→Option Int)) (m0_0:List Int):Option (List Int):=
 (lp (ZQ e rc) (b,c,d,true,true,m0_0)).bind fun r219=>
 some r219
def ZV:Nat→Int→Int→Int→(Int→Int→Option Int)→(List Int)→Option (List Int)
 | 0=>fun _ _ _ _ _=>none
 | n+1=>ZaH (ZV n)
def Zdr (b:Int) (c:Int) (d:Int) (e:(Int→Int→Option Int)) (m0_0:List Int):Option (List Int):=ZwY fun n=>ZV n b c d e m0_0
def ZbC (b:(Int→Int→Option Int)) (m0_0:List Int):Option (List Int):=
 (Zev (u64.wrap (m0_0.length:Int))).bind fun x0=>
 (Zdr 0 (m0_0.length:Int) x0 b m0_0).bind fun x1=>
 some x1
end
def ZzW (n a b:Int):Bool:=decide (a≤n)&&decide (n≤b)
theorem Zkm {γ:Type} (l:List γ) (p:γ→Bool) (step:Int→Option (Int⊕(Int⊕Unit)))
  (h1:∀i x,i<l.length→l[i]? = some x→step (i:Int)=some (bif p x then .inr (.inl (i:Int)) else .inl ((i+1:Nat):Int)))
  (h2:step (l.length:Int)=some (.inr (.inr ()))) :
  (((lp step 0).bind fun(r:Int⊕Unit)=>match r with | .inl r=>some r | .inr _=>some (-1)).bind fun x=>bif decide (0≤x) then some true else some false)=some (l.any p):=by
 rw[Zl5 l step (fun _=>p) (fun i _=>.inl (i:Int)) (.inr ()) h1 h2]
 rcases Zqq p () l 0 with⟨j,e1,e2⟩ | ⟨e1,e2⟩
 ·rw[e1,e2]
  show(bif decide ((0:Int)≤(j:Int)) then some true else some false)=some true
  rw[decide_eq_true (by omega)]
  rfl
 ·rw[e1,e2]
  rfl
def Ztr (e x:Zy):Bool:=e.src==x.src&&(e.dst==x.dst&&true)
theorem Zxz (l:List Zy) (e:Zy) (hl:l.length<9223372036854775808):Zcb l e=some (l.any (Ztr e)):=by
 unfold Zcb ZdL
 refine Zkm l (Ztr e) _ (fun i x hi hx=>?_) ?_
 ·simp only[Zb8,ZfF hi,Zab hx,Option.bind_some,Zag hi hl,cond_true,Ztr]
  cases (e.src==x.src&&(e.dst==x.dst&&true))<;>rfl
 ·simp only[Zb8,ZfV];rfl
def again (f g:ZvD):Bool:=g.user==f.user&&g.pos==f.pos
theorem Zje (l:List Int) (n:Int) (hl:l.length<9223372036854775808):Z2 l n=some (l.any (fun x=>n==x)):=by
 unfold Z2 ZeP
 refine Zkm l (fun x=>n==x) _ (fun i x hi hx=>?_) ?_
 ·simp only[Zcw,ZfF hi,Zab hx,Option.bind_some,Zag hi hl,cond_true]
  cases (n==x)<;>rfl
 ·simp only[Zcw,ZfV];rfl
theorem ZfO (l:List Int) (f:Int→Option Bool) (p:Int→Bool) (hf:∀x∈l,f x=some (p x)) (hl:l.length<9223372036854775808):ZX l f=some (l.any p):=by
 unfold ZX Z4
 refine Zkm l p _ (fun i x hi hx=>?_) ?_
 ·simp only[ZL,ZfF hi,Zab hx,Option.bind_some,hf x (List.mem_of_getElem? hx),Zag hi hl,cond_true]
  cases p x<;>rfl
 ·simp only[ZL,ZfV];rfl
def two (n:Nat) (a b:Int):Bool:=(a != b)&&(ZzW a 0 (n-1)&&ZzW b 0 (n-1))
def Zly (n:Int):Int:=bif decide (n<0) then 10 else bif decide (1099511627775<n) then 11 else 0
theorem ZpB (n:Int):Zh9 n=some (Zly n):=by
 unfold Zh9 Zly
 cases decide (n<0)<;>cases decide (1099511627775<n)<;>rfl
noncomputable def ZwL (x:Int):Int:=match Zdg x with | some n=>n | none=>0
theorem ZCW (x:Int):Zd3 x=some (ZwL x):=by
 unfold Zd3 ZwL Zdg
 rfl
def ZDn (n:Nat):Bool:=[1,2,4,8,16,32,64,128,256,512,1024,2048,4096].contains n
theorem Zu9:((List.range 4097).all fun n=>(ZwL (u64.wrap (n:Int))==1)==ZDn n)=true:=by kernel_rfl
theorem Zvv (n:Nat) (h:n≤4096):(ZwL (u64.wrap (n:Int))==1)=ZDn n:=by
 have:=List.all_eq_true.1 Zu9 n (by simp;omega)
 simpa using this
noncomputable def ZzE (n:Int):Bool:=!(Zly n != 0) && !(ZwL (u64.wrap n) != 1)
theorem Zx8 (n:Int):∃k,ZiT n=some (k,ZzE n):=by
 have tz:∃k,Zeo (u64.wrap n)=some k:=⟨_,rfl⟩
 obtain⟨k,hk⟩:=tz
 unfold ZiT ZzE
 simp only[ZpB,ZCW,Option.bind_some,hk]
 cases (Zly n != 0)
 ·cases (ZwL (u64.wrap n) != 1)
  ·exact⟨k,rfl⟩
  ·exact⟨0,rfl⟩
 ·exact⟨0,rfl⟩
theorem Zvd (n:Nat) (h:n≤4096):ZzE (n:Int)=ZDn n:=by
 have h1:(Zly (n:Int) != 0)=false:=by
  unfold Zly
  rw[decide_eq_false (show ¬((n:Int)<0) by omega),decide_eq_false (show ¬((1099511627775:Int)<n) by omega)]
  rfl
 rw[← Zvv n h]
 unfold ZzE
 rw[h1]
 unfold bne
 rw[Bool.not_not]
 rfl
def ZDz (b:ZtK):Prop:=b.ins.length<9223372036854775808∧b.outs.length<9223372036854775808
structure ZCF (d:Zyg):Prop where
 p:d.parts.length<9223372036854775808
 e:d.edges.length<9223372036854775808
 f:d.futures.length<9223372036854775808
 b:d.barriers.length<9223372036854775808
 i:∀b∈d.barriers,ZDz b
theorem Zu5 {γ:Type}{l:List γ}{i n:Nat} (h:l.length<n):(l.take i).length<n:=by rw[List.length_take];omega
def ZlB (n:Nat) (x:Int):Bool:=decide (0≤x)&&decide (x<(n:Int))
def Zkp {γ S:Type} (f:Nat→S→γ→S):Nat→S→List γ→S
 | _,s,[]=>s
 | i,s,x :: l=>Zkp f (i+1) (f i s x) l
theorem ZtE {γ S T R:Type} (l:List γ) (step:T→Option (T⊕R)) (st:Nat→S→T) (f:Nat→S→γ→S) (fin:S→R) (I:Nat→S→Prop)
  (h1:∀i x s,i<l.length→l[i]? = some x→I i s→step (st i s)=some (.inl (st (i+1) (f i s x)))∧I (i+1) (f i s x))
  (h2:∀s,I l.length s→step (st l.length s)=some (.inr (fin s))) (s:S) (h0:I 0 s) :
  lp step (st 0 s)=some (fin (Zkp f 0 s l))∧I l.length (Zkp f 0 s l):=by
 have key:∀(k i:Nat) (s:S),i+k=l.length→I i s→lp step (st i s)=some (fin (Zkp f i s (l.drop i)))∧I l.length (Zkp f i s (l.drop i)):=by
  intro k
  induction k with
  | zero=>
   intro i s hi hI
   have:i=l.length:=by omega
   subst this
   rw[List.drop_length,ZaT,h2 s hI]
   exact⟨rfl,hI⟩
  | succ k ih=>
   intro i s hi hI
   have hi':i<l.length:=by omega
   obtain⟨e,hI'⟩:=h1 i l[i] s hi' (List.getElem?_eq_getElem hi') hI
   rw[List.drop_eq_getElem_cons hi',ZaT,e]
   exact ih (i+1) _ (by omega) hI'
 have:=key l.length 0 s (by omega) h0
 rwa [List.drop_zero] at this
def ZgT (w:Int):Bool:=decide (w<0) || decide (1000<w)
def Zmn (g:Zx) (i:Nat) (e:Zy):Bool:=!(ZlB g.work.length e.src) || (!(ZlB g.work.length e.dst) || ((e.src==e.dst) || (g.edges.take i).any (Ztr e)))
def ZhW (g:Zx):Int:=bif decide (64<(g.work.length:Int)) || decide (256<(g.edges.length:Int)) then 40 else bif g.work.any ZgT then 41 else bif Zms (Zmn g) 0 g.edges then 42 else 0
structure Zk1 (g:Zx):Prop where
 w:g.work.length<9223372036854775808
 e:g.edges.length<9223372036854775808
theorem ZxZ (w:Int):ZdD w=some (ZgT w):=by
 unfold ZdD ZgT
 cases decide (w<0)<;>cases decide (1000<w)<;>rfl
theorem ZzX (a:Int) (l:List Int):ZgL a l=some (ZlB l.length a):=by
 unfold ZgL ZlB
 cases decide (0≤a)<;>cases decide (a<(l.length:Int))<;>rfl
theorem Zux (g:Zx) (h:Zk1 g):lp (Zfg g) 0=some (bif Zms (Zmn g) 0 g.edges then .inl () else .inr ()):=by
 have key:=Zl5 g.edges (Zfg g) (Zmn g) (fun _ _=>.inl ()) (.inr ()) (fun i x hi hx=>by
   have e0:decide ((0:Int)≤(i:Int))=true:=decide_eq_true (by omega)
   have e1:Nat.ble i g.edges.length=true:=Nat.ble_eq_true_of_le (by omega)
   simp only[Zfg,ZfF hi,Zab hx,Option.bind_some,Zag hi h.e,cond_true,ZzX,Zmn,e0,Int.toNat_natCast,e1,Zxz _ x (Zu5 h.e)]
   cases ZlB g.work.length x.src<;>cases ZlB g.work.length x.dst<;>cases (x.src==x.dst)<;>cases (g.edges.take i).any (Ztr x)<;>rfl) (by simp only[Zfg,ZfV];rfl)
 rw[key,ZkN]
inductive Way (g:Zx):Int→Int→Prop
 | one {e:Zy}:e∈g.edges→Way g e.src e.dst
 | more {a:Int} {e:Zy}:Way g a e.src→e∈g.edges→Way g a e.dst
theorem Way.trans {g:Zx}{a b c:Int} (h1:Way g a b) (h2:Way g b c):Way g a c:=by
 induction h2 with
 | one he=>exact Way.more h1 he
 | more _ he ih=>exact Way.more (ih h1) he
def Zml (g:Zx):Prop:=∀a,¬Way g a a
structure Ze7 (g:Zx):Prop where
 wl:g.work.length≤64
 el:g.edges.length≤256
 w:∀x∈g.work,0≤x∧x≤1000
 src:∀e∈g.edges,0≤e.src∧e.src.toNat<g.work.length
 dst:∀e∈g.edges,0≤e.dst∧e.dst.toNat<g.work.length
theorem Ze7.short {g:Zx} (h:Ze7 g):Zk1 g:=⟨by have:=h.wl;omega,by have:=h.el;omega⟩
theorem Zr9 {n:Nat}{a:Int} (h:ZlB n a=true):0≤a∧a.toNat<n:=by
 unfold ZlB at h
 simp only[Bool.and_eq_true,decide_eq_true_eq] at h
 omega
theorem Ztx {g:Zx} (h:ZhW g=0):Ze7 g:=by
 unfold ZhW at h
 cases h1:decide (64<(g.work.length:Int)) with
 | true=>rw[h1] at h;simp at h
 | false=>
 cases h2:decide (256<(g.edges.length:Int)) with
 | true=>rw[h1,h2] at h;simp at h
 | false=>
 cases h3:g.work.any ZgT with
 | true=>rw[h1,h2,h3] at h;simp at h
 | false=>
 cases h4:Zms (Zmn g) 0 g.edges with
 | true=>rw[h1,h2,h3,h4] at h;simp at h
 | false=>
 have hE:∀e∈g.edges,∃i,Zmn g i e=false:=fun e he=>by
  obtain⟨i,hi⟩:=List.getElem?_of_mem he
  refine⟨i,?_⟩
  cases hb:Zmn g i e with
  | false=>rfl
  | true=>rw[(ZtL _ _ 0).2 ⟨i,e,hi,by simpa using hb⟩] at h4;cases h4
 refine⟨by have:=of_decide_eq_false h1;omega,by have:=of_decide_eq_false h2;omega,fun x hx=>?_,fun e he=>?_,fun e he=>?_⟩
 ·have:=List.any_eq_false.1 h3 x hx
  unfold ZgT at this
  simp only[Bool.or_eq_true,decide_eq_true_eq,not_or] at this
  omega
 ·obtain⟨i,hi⟩:=hE e he
  unfold Zmn at hi
  simp only[Bool.or_eq_false_iff,Bool.not_eq_false'] at hi
  exact Zr9 hi.1
 ·obtain⟨i,hi⟩:=hE e he
  unfold Zmn at hi
  simp only[Bool.or_eq_false_iff,Bool.not_eq_false'] at hi
  exact Zr9 hi.2.1
theorem Way.src_in {g:Zx} (h:Ze7 g) {a b:Int} (w:Way g a b):0≤a∧a.toNat<g.work.length:=by
 induction w with
 | one he=>exact h.src _ he
 | more _ _ ih=>exact ih
theorem ZtZ {g:Zx} (hg:Zml g):∀(n:Nat) (S:List Int),S.length≤n→S≠[]→∃m∈S,∀e∈g.edges,e.dst=m→e.src∉S:=by
 intro n
 induction n with
 | zero=>intro S h1 h2;exact absurd (List.length_eq_zero_iff.1 (by omega)) h2
 | succ n ih=>
  intro S h1 h2
  obtain⟨m,hm⟩:=List.exists_mem_of_ne_nil S h2
  classical
  by_cases hS:(S.filter fun x=>decide (Way g x m))=[]
  ·refine⟨m,hm,fun e he hd hs=>?_⟩
   have:e.src∈S.filter fun x=>decide (Way g x m):=List.mem_filter.2 ⟨hs,decide_eq_true (hd ▸ Way.one he)⟩
   rw[hS] at this
   cases this
  ·have hlt:(S.filter fun x=>decide (Way g x m)).length<S.length:=by
    refine Nat.lt_of_le_of_ne (List.length_filter_le _ _) fun he=>?_
    have:=List.length_filter_eq_length_iff.1 he m hm
    exact hg m (of_decide_eq_true this)
   obtain⟨k,hk,hk2⟩:=ih _ (by omega) hS
   obtain⟨k1,k2⟩:=List.mem_filter.1 hk
   refine⟨k,k1,fun e he hd hs=>hk2 e he hd (List.mem_filter.2 ⟨hs,decide_eq_true ?_⟩)⟩
   exact(hd ▸ Way.one he:Way g e.src k).trans (of_decide_eq_true k2)
def bAt (l:List Bool) (z:Int):Bool:=match l[z.toNat]? with | some b=>b | none=>false
def ZoF (g:Zx) (done:List Bool) (i:Nat):Bool:=!(bAt done (i:Int)) && !(g.edges.any fun e=>(e.dst==(i:Int)) && !(bAt done e.src))
def ZoJ (g:Zx) (done:List Bool):Option Nat:=Zk6 (fun i _=>ZoF g done i) (fun i _=>some i) none 0 g.work
def Zn1 (g:Zx):Nat→List Int→List Bool→Option (List Int)
 | 0,out,_=>some out
 | k+1,out,done=>(match ZoJ g done with | some i=>Zn1 g k (out++[(i:Int)]) (done.set i true) | none=>none)
theorem ZtX {γ R S:Type} (p:Nat→γ→Bool) (out:Nat→γ→R) (fin:R) (F:R→S):∀(l:List γ) (i:Nat),F (Zk6 p out fin i l)=Zk6 p (fun i x=>F (out i x)) (F fin) i l
 | [],i=>rfl
 | x :: l,i=>by
  unfold Zk6
  cases p i x with
  | true=>rfl
  | false=>exact ZtX p out fin F l (i+1)
theorem Zso {γ:Type} (p:Nat→γ→Bool):∀(l:List γ) (i k:Nat),Zk6 p (fun i _=>some i) none i l=some k→i≤k∧k<i+l.length∧∃x,l[k-i]? = some x∧p k x=true
 | [],i,k,h=>by cases h
 | x :: l,i,k,h=>by
  unfold Zk6 at h
  cases hp:p i x with
  | true=>
   rw[hp] at h
   cases h
   exact⟨Nat.le_refl _,by simp,x,by simp,hp⟩
  | false=>
   rw[hp] at h
   obtain⟨h1,h2,y,h3,h4⟩:=Zso p l (i+1) k h
   refine⟨by omega,by simp only[List.length_cons];omega,y,?_,h4⟩
   rw[show k-i=(k-(i+1))+1 by omega]
   exact h3
theorem ZrY {γ:Type} (p:Nat→γ→Bool):∀(l:List γ) (i:Nat),Zk6 p (fun i _=>some i) none i l=none→∀(j:Nat) x,l[j]? = some x→p (i+j) x=false
 | [],i,h,j,x,hx=>by cases hx
 | y :: l,i,h,j,x,hx=>by
  unfold Zk6 at h
  cases hp:p i y with
  | true=>rw[hp] at h;cases h
  | false=>
   rw[hp] at h
   cases j with
   | zero=>cases hx;exact hp
   | succ j=>
    have:=ZrY p l (i+1) h j x hx
    rwa [show i+1+j=i+(j+1) by omega] at this
theorem Zwa {g:Zx}{done:List Bool} (hd:done.length=g.work.length) {z:Int} (h:0≤z∧z.toNat<g.work.length):Zp done z=some (bAt done z):=by
 have e:=List.getElem?_eq_getElem (show z.toNat<done.length by rw[hd];exact h.2)
 rw[Zq3 h.1 e]
 unfold bAt
 rw[e]
theorem ZCY {g:Zx} (h:Ze7 g) (out:List Int) (ho:out.length<g.work.length) (done:List Bool) (hd:done.length=g.work.length) :
  lp (Ze3 g (out,done)) 0=some (match ZoJ g done with | some i=>.inl (out++[(i:Int)],done.set i true) | none=>.inr ()):=by
 have key:=Zl5 g.work (Ze3 g (out,done)) (fun i _=>ZoF g done i) (fun i _=>.inl (out++[(i:Int)],done.set i true)) (.inr ()) (fun i x hi hx=>by
   have inner:=Zl5 g.edges (Zgp g (out,done) (i:Int)) (fun _ e=>(e.dst==(i:Int)) && !(bAt done e.src)) (fun _ _=>.inl ()) (.inr ()) (fun k e hk he=>by
     simp only[Zgp,ZfF hk,Zab he,Option.bind_some,Zag hk h.short.e,cond_true,Zwa hd (h.src e (List.mem_of_getElem? he))]
     cases (e.dst==(i:Int))<;>cases bAt done e.src<;>rfl) (by simp only[Zgp,ZfV];rfl)
   rw[ZkN,Zts] at inner
   have hl:=h.wl
   simp only[Ze3,ZfF hi,Zwa hd (z:=(i:Int)) ⟨by omega,by simpa using hi⟩,Option.bind_some,Zag hi h.short.w,cond_true,inner,Zjw (show out.length+1≤1073741824 by omega),Int.toNat_natCast,ZoF]
   cases bAt done (i:Int)<;>cases g.edges.any (fun e=>(e.dst==(i:Int)) && !(bAt done e.src))<;>rfl) (by simp only[Ze3,ZfV];rfl)
 rw[key]
 unfold ZoJ
 exact congrArg some (ZtX (fun i _=>ZoF g done i) (fun i _=>some i) none (fun o:Option Nat=>(match o with | some i=>(.inl (out++[(i:Int)],done.set i true):(List Int×List Bool)⊕Unit) | none=>.inr ())) g.work 0).symm
theorem Zww {g:Zx} (h:Ze7 g):∀(k:Nat) (out:List Int) (done:List Bool),out.length+k=g.work.length→done.length=g.work.length →
  ∃r,lp (Zgr g) (out,done)=some r∧(match Zn1 g k out done with | some l=>r = .inr l | none=>∃l,r = .inl l)
 | 0,out,done,h1,h2=>by
  rw[ZaT]
  simp only[Zgr,show out.length=g.work.length by omega,ZfV,cond_false]
  exact⟨_,rfl,rfl⟩
 | k+1,out,done,h1,h2=>by
  rw[ZaT]
  simp only[Zgr,ZfF (show out.length<g.work.length by omega),cond_true,ZCY h out (by omega) done h2,Option.bind_some]
  unfold Zn1
  cases ZoJ g done with
  | none=>exact⟨_,rfl,_,rfl⟩
  | some i=>exact Zww h k (out++[(i:Int)]) (done.set i true) (by rw[List.length_append];simp only[List.length_cons,List.length_nil];omega) (by rw[List.length_set];exact h2)
theorem Zwr {g:Zx} (h:Ze7 g):Zgc g=some (match Zn1 g g.work.length [] (List.replicate g.work.length false) with | some l=>(l,true) | none=>([],false)):=by
 obtain⟨r,e,hr⟩:=Zww h g.work.length [] (List.replicate g.work.length false) (by simp) (by simp)
 have hl:=h.wl
 unfold Zgc
 rw[decide_eq_true (show(0:Int)≤(g.work.length:Int) by omega),decide_eq_true (show(g.work.length:Int)≤lim by show(g.work.length:Int)≤1073741824;omega),beq_self_eq_true]
 simp only[decide_true,Bool.and_true,cond_true,Int.toNat_natCast,e,Option.bind_some]
 cases ho:Zn1 g g.work.length [] (List.replicate g.work.length false) with
 | some l=>rw[ho] at hr;simp only at hr;subst hr;rfl
 | none=>rw[ho] at hr;obtain⟨l,rfl⟩:=hr;rfl
structure Zgt (g:Zx) (out:List Int) (done:List Bool):Prop where
 dl:done.length=g.work.length
 mem:∀i:Nat,bAt done (i:Int)=true↔(i:Int)∈out
 inn:∀z∈out,0≤z∧z.toNat<g.work.length
 nod:out.Nodup
 topo:∀(i:Nat) (n:Int),out[i]? = some n→∀e∈g.edges,e.dst=n→∃j,j<i∧out[j]? = some e.src
theorem ZBl {done:List Bool}{i:Nat} (hi:i<done.length) (z:Int) (hz:0≤z):bAt (done.set i true) z=(decide (z=(i:Int)) || bAt done z):=by
 unfold bAt
 rw[List.getElem?_set]
 by_cases h:i=z.toNat
 ·subst h
  rw[if_pos rfl,if_pos hi,decide_eq_true (show z=((z.toNat:Nat):Int) by omega)];rfl
 ·rw[if_neg h,decide_eq_false (show ¬z=(i:Int) by omega)];rfl
theorem Zgt.start (g:Zx):Zgt g [] (List.replicate g.work.length false):=by
 refine⟨by simp,fun i=>?_,by simp,by simp,by simp⟩
 unfold bAt
 rw[List.getElem?_replicate]
 by_cases h:((i:Int)).toNat<g.work.length
 ·rw[if_pos h];simp
 ·rw[if_neg h];simp
theorem Zgt.next {g:Zx} (h:Ze7 g) {out:List Int}{done:List Bool} (o:Zgt g out done) {i:Nat} (hn:ZoJ g done=some i):Zgt g (out++[(i:Int)]) (done.set i true):=by
 obtain⟨_,hi,x,_,hp⟩:=Zso _ _ _ _ hn
 rw[Nat.zero_add] at hi
 unfold ZoF at hp
 simp only[Bool.and_eq_true,Bool.not_eq_true',List.any_eq_false,Bool.not_eq_true] at hp
 have hid:i<done.length:=by rw[o.dl];exact hi
 have hnot:(i:Int)∉out:=fun hm=>by have:=(o.mem i).2 hm;rw[hp.1] at this;cases this
 refine⟨by rw[List.length_set];exact o.dl,fun j=>?_,fun z hz=>?_,?_,fun k n hk e he hd=>?_⟩
 ·rw[ZBl hid (j:Int) (by omega),Bool.or_eq_true,decide_eq_true_eq,o.mem,List.mem_append,List.mem_singleton]
  exact Or.comm
 ·rcases List.mem_append.1 hz with hz | hz
  ·exact o.inn z hz
  ·rw[List.mem_singleton] at hz;subst hz;exact⟨by omega,by simpa using hi⟩
 ·rw[List.nodup_append]
  refine⟨o.nod,by simp,fun a ha b hb=>?_⟩
  rw[List.mem_singleton] at hb
  subst hb
  exact fun hab=>hnot (hab ▸ ha)
 ·rcases Nat.lt_or_ge k out.length with hk2 | hk2
  ·rw[List.getElem?_append_left hk2] at hk
   obtain⟨j,h1,h2⟩:=o.topo k n hk e he hd
   exact⟨j,h1,by rw[List.getElem?_append_left (by omega)];exact h2⟩
  ·rw[List.getElem?_append_right hk2] at hk
   have hk0:k-out.length=0:=by
    rcases Nat.eq_zero_or_pos (k-out.length) with h0 | h0
    ·exact h0
    ·rw[List.getElem?_eq_none (by simp only[List.length_cons,List.length_nil];omega)] at hk;cases hk
   rw[hk0] at hk
   simp only[List.getElem?_cons_zero,Option.some.injEq] at hk
   subst hk
   have hs:=hp.2 e he
   rw[hd] at hs
   have hs:bAt done e.src=true:=by simpa using hs
   have hsr:=h.src e he
   have:=(o.mem e.src.toNat).1 (by rw[show((e.src.toNat:Nat):Int)=e.src by omega];exact hs)
   rw[show((e.src.toNat:Nat):Int)=e.src by omega] at this
   obtain⟨j,hj⟩:=List.getElem?_of_mem this
   have hjl:=(List.getElem?_eq_some_iff.1 hj).1
   exact⟨j,by omega,by rw[List.getElem?_append_left hjl];exact hj⟩
theorem Zgt.way {g:Zx}{out:List Int}{done:List Bool} (o:Zgt g out done) {a b:Int} (w:Way g a b):∀j:Nat,out[j]? = some b→∃i,i<j∧out[i]? = some a:=by
 induction w with
 | one he=>intro j hj;exact o.topo j _ hj _ he rfl
 | more _ he ih=>
  intro j hj
  obtain⟨i,h1,h2⟩:=o.topo j _ hj _ he rfl
  obtain⟨k,h3,h4⟩:=ih i h2
  exact⟨k,by omega,h4⟩
theorem Zox {l:List Int} (h:l.Nodup) {i j:Nat}{a:Int} (h1:l[i]? = some a) (h2:l[j]? = some a):i=j:=by
 obtain⟨a1,a2⟩:=List.getElem?_eq_some_iff.1 h1
 obtain⟨b1,b2⟩:=List.getElem?_eq_some_iff.1 h2
 exact(List.getElem_inj h).1 (a2.trans b2.symm)
def Zz8 (n:Nat) (done:List Bool):List Int:=((List.range n).filter fun i:Nat=>!bAt done (i:Int)).map fun i:Nat=>(i:Int)
theorem ZqG {n:Nat}{done:List Bool}{i:Nat} (h1:i<n) (h2:bAt done (i:Int)=false):(i:Int)∈Zz8 n done:=
 List.mem_map.2 ⟨i,List.mem_filter.2 ⟨List.mem_range.2 h1,by rw[h2];rfl⟩,rfl⟩
theorem ZxD {g:Zx} (h:Ze7 g) (hg:Zml g) {out:List Int}{done:List Bool} (o:Zgt g out done) (i0:Nat) (hi0:i0<g.work.length) (hb:bAt done (i0:Int)=false):∃i,ZoJ g done=some i:=by
 cases hn:ZoJ g done with
 | some i=>exact⟨i,rfl⟩
 | none=>
  exfalso
  have hall:=ZrY _ _ _ hn
  obtain⟨m,hm,hm2⟩:=ZtZ hg _ (Zz8 g.work.length done) (Nat.le_refl _) (by
   intro he
   have:=ZqG hi0 hb
   rw[he] at this;cases this)
  obtain⟨k,hk,rfl⟩:=List.mem_map.1 hm
  obtain⟨hk1,hk2⟩:=List.mem_filter.1 hk
  rw[List.mem_range] at hk1
  have hr:=hall k g.work[k] (List.getElem?_eq_getElem hk1)
  rw[Nat.zero_add] at hr
  unfold ZoF at hr
  rw[hk2,Bool.true_and,Bool.not_eq_false',List.any_eq_true] at hr
  obtain⟨e,he,he2⟩:=hr
  simp only[Bool.and_eq_true,beq_iff_eq] at he2
  have hsr:=h.src e he
  refine hm2 e he he2.1 ?_
  have es:((e.src.toNat:Nat):Int)=e.src:=by omega
  rw[← es]
  exact ZqG hsr.2 (by rw[es];simpa using he2.2)
theorem ZAj {n:Nat}{out:List Int} (h1:out.Nodup) (h2:∀z∈out,0≤z∧z.toNat<n):(out.length≤n)∧(out.length=n→∀i:Nat,i<n→(i:Int)∈out):=by
 induction n generalizing out with
 | zero=>
  refine⟨?_,fun _ i hi=>absurd hi (by omega)⟩
  cases out with
  | nil=>simp
  | cons z l=>have:=h2 z (by simp);omega
 | succ n ih=>
  by_cases hm:(n:Int)∈out
  ·have e1:(out.erase (n:Int)).length=out.length-1:=List.length_erase_of_mem hm
   have pos:0<out.length:=List.length_pos_of_mem hm
   obtain⟨a,b⟩:=ih (out:=out.erase (n:Int)) (h1.erase _) (fun z hz=>by
    have hz2:=(List.Nodup.mem_erase_iff h1).1 hz
    have:=h2 z hz2.2
    have:=hz2.1
    omega)
   refine⟨by omega,fun hl i hi=>?_⟩
   by_cases hin:i=n
   ·subst hin;exact hm
   ·exact List.mem_of_mem_erase (b (by omega) i (by omega))
  ·obtain⟨a,b⟩:=ih (out:=out) h1 (fun z hz=>by
    have:=h2 z hz
    have:z≠(n:Int):=fun he=>hm (he ▸ hz)
    omega)
   exact⟨by omega,fun hl=>by omega⟩
theorem ZAh:∀(n:Nat) (out:List Int),(∀i:Nat,i<n→(i:Int)∈out)→n≤out.length
 | 0,out,h=>by omega
 | n+1,out,h=>by
  have hm:=h n (by omega)
  have e1:(out.erase (n:Int)).length=out.length-1:=List.length_erase_of_mem hm
  have pos:0<out.length:=List.length_pos_of_mem hm
  have:=ZAh n (out.erase (n:Int)) (fun i hi=>(List.mem_erase_of_ne (by omega)).2 (h i (by omega)))
  omega
theorem ZmE {g:Zx} (h:Ze7 g):∀(k:Nat) (out:List Int) (done:List Bool),Zgt g out done→out.length+k=g.work.length→(∀l,Zn1 g k out done=some l→∃done',Zgt g l done'∧l.length=g.work.length)∧(Zml g→∃l,Zn1 g k out done=some l)
 | 0,out,done,o,hl=>⟨fun l h=>by cases h;exact⟨done,o,by omega⟩,fun _=>⟨out,rfl⟩⟩
 | k+1,out,done,o,hl=>by
  unfold Zn1
  cases hn:ZoJ g done with
  | none=>
   refine⟨fun l h=>(by cases h),fun hg=>?_⟩
   exfalso
   have hex:∃i0,i0<g.work.length∧(i0:Int)∉out:=by
    apply Classical.byContradiction
    intro hc
    have hc2:∀i0,i0<g.work.length→(i0:Int)∈out:=fun i0 hi=>Classical.byContradiction fun hx=>hc ⟨i0,hi,hx⟩
    have sub:=ZAh g.work.length out hc2
    omega
   obtain⟨i0,h1,h2⟩:=hex
   obtain⟨i,hi⟩:=ZxD h hg o i0 h1 (by
    cases hb:bAt done (i0:Int) with
    | false=>rfl
    | true=>exact absurd ((o.mem i0).1 hb) h2)
   rw[hn] at hi
   cases hi
  | some i=>
   exact ZmE h k _ _ (o.next h hn) (by rw[List.length_append];simp only[List.length_cons,List.length_nil];omega)
theorem ZAL {g:Zx} (h:Ze7 g) {l:List Int}{done:List Bool} (o:Zgt g l done) (hl:l.length=g.work.length):Zml g:=by
 intro a w
 have ha:=w.src_in h
 have hm:=(ZAj o.nod o.inn).2 hl a.toNat ha.2
 rw[show((a.toNat:Nat):Int)=a by omega] at hm
 obtain⟨j,hj⟩:=List.getElem?_of_mem hm
 obtain⟨i,h1,h2⟩:=o.way w j hj
 have:=Zox o.nod h2 hj
 omega
structure ZEV (g:Zx) (l:List Int):Prop where
 len:l.length=g.work.length
 all:∀i:Nat,i<g.work.length→(i:Int)∈l
 inn:∀z∈l,0≤z∧z.toNat<g.work.length
 nod:l.Nodup
 topo:∀(i:Nat) (n:Int),l[i]? = some n→∀e∈g.edges,e.dst=n→∃j,j<i∧l[j]? = some e.src
theorem ZrN {g:Zx} (h:Ze7 g) (hg:Zml g):∃l,Zgc g=some (l,true)∧ZEV g l:=by
 obtain⟨k1,k2⟩:=ZmE h g.work.length [] _ (Zgt.start g) (by simp)
 obtain⟨l,hl⟩:=k2 hg
 obtain⟨done,o,hn⟩:=k1 l hl
 exact⟨l,by rw[Zwr h,hl],hn,(ZAj o.nod o.inn).2 hn,o.inn,o.nod,o.topo⟩
theorem ZAz {g:Zx} (h:Ze7 g) (hg:¬Zml g):Zgc g=some ([],false):=by
 rw[Zwr h]
 cases ho:Zn1 g g.work.length [] (List.replicate g.work.length false) with
 | none=>rfl
 | some l=>
  obtain⟨done,o,hn⟩:=(ZmE h g.work.length [] _ (Zgt.start g) (by simp)).1 l ho
  exact absurd (ZAL h o hn) hg
noncomputable def Zyp (g:Zx):Bool:=@decide (Zml g) (Classical.propDecidable _)
theorem Zwd {g:Zx} (h:Zml g):Zyp g=true:=@decide_eq_true _ (Classical.propDecidable _) h
theorem ZvR {g:Zx} (h:¬Zml g):Zyp g=false:=@decide_eq_false _ (Classical.propDecidable _) h
noncomputable def ZbK (g:Zx):Int:=bif ZhW g==0 then (bif Zyp g then 0 else 43) else ZhW g
theorem Zbg {g:Zx} (h:ZbK g=0):Ze7 g∧Zml g:=by
 unfold ZbK at h
 by_cases h0:ZhW g=0
 ·rw[h0] at h
  refine⟨Ztx h0,Classical.byContradiction fun hn=>?_⟩
  rw[ZvR hn] at h
  simp at h
 ·rw[beq_false_of_ne h0] at h
  exact absurd h h0
theorem Zi0 (g:Zx) (h:Zk1 g):Zfo g=some (ZbK g):=by
 have hw:=ZfO g.work (fun z0=>ZdD z0) ZgT (fun x _=>ZxZ x) h.w
 unfold Zfo ZbK
 rw[hw,Zux g h]
 by_cases h0:ZhW g=0
 ·have hG:=Ztx h0
  rw[h0]
  unfold ZhW at h0
  by_cases hg:Zml g
  ·obtain⟨l,e,_⟩:=ZrN hG hg
   rw[e,Zwd hg]
   revert h0
   cases decide (64<(g.work.length:Int))<;>cases decide (256<(g.edges.length:Int))<;>cases g.work.any ZgT<;>cases Zms (Zmn g) 0 g.edges<;>simp
  ·rw[ZAz hG hg,ZvR hg]
   revert h0
   cases decide (64<(g.work.length:Int))<;>cases decide (256<(g.edges.length:Int))<;>cases g.work.any ZgT<;>cases Zms (Zmn g) 0 g.edges<;>simp
 ·rw[beq_false_of_ne h0]
  unfold ZhW at h0 ⊢
  revert h0
  cases decide (64<(g.work.length:Int))<;>cases decide (256<(g.edges.length:Int))<;>cases g.work.any ZgT<;>cases Zms (Zmn g) 0 g.edges<;>simp
theorem Zh8 {g:Zx} (hG:Ze7 g):Zfu g.edges g.work.length:=fun e he=>⟨hG.src e he,hG.dst e he⟩
theorem Zxs {g:Zx} (hG:Ze7 g) (hA:Zml g) {left:List Int} (hl:left.length=g.work.length) (hr:∀x∈left,0≤x) (h:∃n,isN left n∧0<lf left n):∃n,isN left n∧0<lf left n∧ZkH g.edges left n:=by
 have pos:∀n,0≤lf left n:=fun n=>by
  unfold lf
  cases hx:left[n.toNat]? with
  | none=>simp
  | some x=>exact hr x (List.mem_of_getElem? hx)
 let S:List Int:=((List.range left.length).map fun i:Nat=>(i:Int)).filter fun n=>decide (0<lf left n)
 have mem:∀n,n∈S↔isN left n∧0<lf left n:=fun n=>by
  simp only[S,List.mem_filter,List.mem_map,List.mem_range,decide_eq_true_eq]
  constructor
  ·rintro ⟨⟨i,hi,rfl⟩,h2⟩
   exact⟨⟨by omega,by simpa using hi⟩,h2⟩
  ·rintro ⟨h1,h2⟩
   exact⟨⟨n.toNat,h1.2,Int.toNat_of_nonneg h1.1⟩,h2⟩
 obtain⟨n0,h0⟩:=h
 obtain⟨n,hn,hn2⟩:=ZtZ hA S.length S (Nat.le_refl _) (fun he=>by
  have:=(mem n0).2 h0
  rw[he] at this
  cases this)
 obtain⟨h1,h2⟩:=(mem n).1 hn
 refine⟨n,h1,h2,fun e he hd=>?_⟩
 have hs:=hG.src e he
 have:=hn2 e he hd
 rw[mem] at this
 have h3:=pos e.src
 apply Classical.byContradiction
 intro hc
 exact this ⟨⟨hs.1,by rw[hl];exact hs.2⟩,by omega⟩
theorem Zqa {row:List Int}{n:Int} (h:n∈row) (hn:n ≠ -1):0<busy row:=by
 unfold busy
 exact List.countP_pos_iff.2 ⟨n,h,by simpa using hn⟩
theorem Zmj {g:Zx} (hG:Ze7 g) (hA:Zml g) {left on row:List Int} (hl:left.length=g.work.length) (h:∃n,isN left n∧0<lf left n) (c:ZgF g.edges left on) (f:ZgS g.edges left on row) (hm:1≤on.length):0<busy row:=by
 obtain⟨n,h1,h2,h3⟩:=Zxs hG hA hl (fun x hx=>(c.rng x hx).1) h
 have n0:n ≠ -1:=by have:=h1.1;omega
 by_cases ho:n∈on
 ·obtain⟨i,hi⟩:=List.getElem?_of_mem ho
  exact Zqa (List.mem_of_getElem? (f.keep i n hi n0)) n0
 ·by_cases hr:n∈row
  ·exact Zqa hr n0
  ·by_cases hi : -1∈row
   ·exact absurd ⟨h1,h2,hr,h3⟩ (f.all hi n)
   ·have hlen:0<row.length:=by rw[f.len];omega
    refine Zqa (List.getElem_mem hlen) fun he=>hi ?_
    rw[← he]
    exact List.getElem_mem hlen
theorem Zy8 {g:Zx} (hG:Ze7 g) (hA:Zml g) {need:List Int} (hn:need.length=g.work.length) (h:∀x∈need,1≤x∧x≤1000) {t:List (List Int)}{left on:List Int} (s:Sched g.edges need 1 t left on):Zf3 t=t.length:=by
 have hE:Zfu g.edges need.length:=by rw[hn];exact Zh8 hG
 induction s with
 | nil=>rfl
 | @snoc t left on row s hs f ih=>
  have c:=s.crew h hE
  have hl:=s.len
  have b:=Zmj hG hA (by rw[hl.1,hn]) hs c f (by rw[hl.2.1];exact Nat.le_refl _)
  have hr:row.length=1:=by rw[f.len,hl.2.1]
  have:busy row≤row.length:=List.countP_le_length
  have e:Zf3 (t++[row])=Zf3 t+busy row:=by
   unfold Zf3
   rw[List.map_append,List.sum_append]
   simp
  rw[e,ih,List.length_append,List.length_singleton]
  omega
theorem Sched.short {g:Zx} (hG:Ze7 g) (hA:Zml g) {need:List Int} (hn:need.length=g.work.length) (h:∀x∈need,1≤x∧x≤1000) {m:Nat} (hm:1≤m) {t:List (List Int)}{left on:List Int} (s:Sched g.edges need m t left on):t.length≤Zf3 t:=by
 have hE:Zfu g.edges need.length:=by rw[hn];exact Zh8 hG
 induction s with
 | nil=>exact Nat.zero_le _
 | @snoc t left on row s hs f ih=>
  have c:=s.crew h hE
  have hl:=s.len
  have b:=Zmj hG hA (by rw[hl.1,hn]) hs c f (by rw[hl.2.1];exact hm)
  have e:Zf3 (t++[row])=Zf3 t+busy row:=by
   unfold Zf3
   rw[List.map_append,List.sum_append]
   simp
  rw[e,List.length_append,List.length_singleton]
  omega
theorem Zut {l:List Int} (h:∀x∈l,x=0):l.sum=0:=by
 induction l with
 | nil=>rfl
 | cons x l ih=>
  rw[List.sum_cons,h x (by simp),ih fun y hy=>h y (by simp[hy])]
  rfl
theorem ZoP (l:List Zy) (f:Zy→Option Bool) (p:Zy→Bool) (hf:∀x∈l,f x=some (p x)) (hl:l.length<9223372036854775808):ZaF l f=some (l.any p):=by
 unfold ZaF Zb2
 refine Zkm l p _ (fun i x hi hx=>?_) ?_
 ·simp only[Za6,ZfF hi,Zab hx,Option.bind_some,hf x (List.mem_of_getElem? hx),Zag hi hl,cond_true]
  cases p x<;>rfl
 ·simp only[Za6,ZfV];rfl
theorem ZnC (l:List Int) (n:Int):(l.any fun x=>n==x)=decide (n∈l):=by
 rw[Bool.eq_iff_iff,List.any_eq_true,decide_eq_true_eq]
 constructor
 ·rintro ⟨x,hx,h⟩
  have:n=x:=by simpa using h
  rw[this];exact hx
 ·intro h
  exact⟨n,h,by simp⟩
theorem ZuH {γ R:Type} (l:List γ) (step:Int→Option (Int⊕R)) (fin:R) (h1:∀i x,i<l.length→l[i]? = some x→step (i:Int)=some (.inl ((i+1:Nat):Int))) (h2:step (l.length:Int)=some (.inr fin)):lp step 0=some fin:=by
 rw[Zl5 l step (fun _ _=>false) (fun _ _=>fin) fin h1 h2,ZkN]
 cases Zms (fun _ _=>false) 0 l<;>rfl
theorem ZsX {n:Nat} (step:Int×List Int→Option ((Int×List Int)⊕List Int)) (p:Nat→Bool)
  (h1:∀(i:Nat) (out:List Int),i<n→out.length≤i→step ((i:Int),out)=some (.inl (((i+1:Nat):Int),bif p i then out++[(i:Int)] else out)))
  (h2:∀out,step ((n:Int),out)=some (.inr out)):lp step (0,[])=some (((List.range n).filter p).map fun i:Nat=>(i:Int)):=by
 have key:∀(k i:Nat) (out:List Int),i+k=n→out.length≤i→lp step ((i:Int),out)=some (out++((List.range' i k).filter p).map fun i:Nat=>(i:Int)):=by
  intro k
  induction k with
  | zero=>
   intro i out hi _
   have:i=n:=by omega
   subst this
   rw[ZaT,h2]
   simp
  | succ k ih=>
   intro i out hi ho
   rw[ZaT,h1 i out (by omega) ho]
   dsimp only
   rw[List.range'_succ]
   cases hp:p i with
   | true=>
    rw[cond_true,ih (i+1) _ (by omega) (by rw[List.length_append];simp;exact ho),List.filter_cons_of_pos hp,List.map_cons,List.append_assoc]
    rfl
   | false=>
    rw[cond_false,ih (i+1) _ (by omega) (by omega),List.filter_cons_of_neg (by rw[hp];decide)]
 have:=key n 0 [] (by omega) (by simp)
 rw[List.range_eq_range']
 simpa using this
theorem Zi9 {n:Nat}{p:Nat→Bool}{z:Int}:(z∈((List.range n).filter p).map fun i:Nat=>(i:Int))↔0≤z∧z.toNat<n∧p z.toNat=true:=by
 rw[List.mem_map]
 constructor
 ·rintro ⟨i,hi,rfl⟩
  obtain⟨h1,h2⟩:=List.mem_filter.1 hi
  rw[List.mem_range] at h1
  exact⟨by omega,by simpa using h1,by simpa using h2⟩
 ·rintro ⟨h0,h1,h2⟩
  exact⟨z.toNat,List.mem_filter.2 ⟨List.mem_range.2 h1,h2⟩,Int.toNat_of_nonneg h0⟩
theorem ZmB {left:List Int}{n:Int} (h:isN left n):Zp left n=some (lf left n):=Zq3 h.1 (ZjU h.1 h.2)
theorem Zqt {c:ZbM}{n:Int} (h:isN c.left n):Zfk c n=some (lf c.left n==0):=by
 unfold Zfk
 rw[ZmB h,Option.bind_some]
 cases lf c.left n==0<;>rfl
def Zlk (E:List Zy) (left:List Int) (n:Int):Bool:=!(E.any fun e=>(e.dst==n) && !(lf left e.src==0))
theorem Zfb {E:List Zy}{left:List Int}{n:Int}:Zlk E left n=true↔ZkH E left n:=by
 unfold Zlk ZkH
 rw[Bool.not_eq_true',List.any_eq_false]
 constructor
 ·intro h e he hd
  have:=h e he
  rw[hd,beq_self_eq_true,Bool.true_and,Bool.not_eq_true',Bool.not_eq_false] at this
  simpa using this
 ·intro h e he hh
  simp only[Bool.and_eq_true,beq_iff_eq,Bool.not_eq_true',beq_eq_false_iff_ne] at hh
  exact hh.2 (h e he hh.1)
theorem Zu7 {g:Zx} (hG:Ze7 g) {c:ZbM} (hl:c.left.length=g.work.length) (n:Int):Zha g c n=some (Zlk g.edges c.left n):=by
 unfold Zha
 rw[ZoP _ _ (fun e=>(e.dst==n) && !(lf c.left e.src==0)) (fun e he=>by
  have hs:=hG.src e he
  unfold ZfK
  rw[show(ZbM.mk c.on c.left)=c from rfl,Zqt (c:=c) (n:=e.src) ⟨hs.1,by rw[hl];exact hs.2⟩]
  cases e.dst==n<;>cases lf c.left e.src==0<;>rfl) hG.short.e]
 unfold Zlk
 cases (g.edges.any fun e=>(e.dst==n) && !(lf c.left e.src==0))<;>rfl
structure ZhO (g:Zx) (left on:List Int):Prop where
 ll:left.length=g.work.length
 o1:1≤on.length
 o8:on.length≤8
 ok:ZgF g.edges left on
theorem ZzQ (x:Int):ZdM x=some (decide (x<0) || decide (1000<x)):=by
 unfold ZdM
 cases decide (x<0)<;>cases decide (1000<x)<;>rfl
theorem ZAZ {g:Zx} (hG:Ze7 g) {left on:List Int} (c:ZhO g left on):ZiL g (ZbM.mk on left)=some true:=by
 have o1:=c.o1
 have o8:=c.o8
 have hw:=hG.wl
 have ll:=c.ll
 unfold ZiL
 dsimp only
 rw[decide_eq_false (by omega),cond_false,decide_eq_false (by omega),cond_false,show((left.length:Int) != (g.work.length:Int))=false by rw[ll];simp,cond_false,
  ZfO left _ (fun x=>decide (x<0) || decide (1000<x)) (fun x _=>ZzQ x) (by omega),Option.bind_some]
 have h0:(left.any fun x=>decide (x<0) || decide (1000<x))=false:=List.any_eq_false.2 fun x hx=>by
  have:=c.ok.rng x hx
  rw[decide_eq_false (by omega),decide_eq_false (by omega)]
  decide
 rw[h0,cond_false,ZuH on (ZfC g (ZbM.mk on left)) (.inr ()) (fun i n hi hn=>?_) (by simp only[ZfC,ZfV];rfl),Option.bind_some]
 ·dsimp only
  rw[ZuH left (ZfE g (ZbM.mk on left)) (.inr ()) (fun i x hi hx=>?_) (by simp only[ZfE,ZfV];rfl)]
  ·rfl
  ·have hin:isN left (i:Int):=⟨by omega,by simpa using hi⟩
   simp only[ZfE,ZfF hi,cond_true,Zqt (c:=ZbM.mk on left) hin,Option.bind_some,Zu7 hG (c:=ZbM.mk on left) c.ll,Zag hi (show left.length<9223372036854775808 by omega)]
   cases hz:lf left (i:Int)==0 with
   | false=>rfl
   | true=>
    have:=Zfb.2 (c.ok.over _ hin (by simpa using hz))
    rw[this];rfl
 ·simp only[ZfC,ZfF hi,cond_true,Zab hn,Option.bind_some,Zag hi (show on.length<9223372036854775808 by omega)]
  cases hz:n == -1 with
  | true=>rfl
  | false=>
   have hne:n ≠ -1:=by simpa using hz
   rcases c.ok.run n (List.mem_of_getElem? hn) with h | ⟨h1,h2,h3⟩
   ·exact absurd h hne
   ·have:=h1.1
    have:=h1.2
    have hm:(List.take i on).any (fun x=>n==x)=false:=List.any_eq_false.2 fun x hx hq=>by
     have:n=x:=by simpa using hq
     subst this
     obtain⟨j,hj⟩:=List.getElem?_of_mem hx
     have hjl:=(List.getElem?_eq_some_iff.1 hj).1
     rw[List.length_take] at hjl
     rw[List.getElem?_take,if_pos (by omega)] at hj
     have:=c.ok.one j i n hj hn hne
     omega
    simp only[cond_false,decide_eq_false (show ¬n<0 by omega),decide_eq_false (show ¬(left.length:Int)≤n by omega),Zqt (c:=ZbM.mk on left) h1,Option.bind_some,show(lf left n==0)=false from beq_eq_false_iff_ne.2 (by omega),
     decide_eq_true (show(0:Int)≤(i:Int) by omega),Int.toNat_natCast,Nat.ble_eq_true_of_le (show i≤on.length by omega),cond_true,Zje (List.take i on) n (by rw[List.length_take];omega),hm,Zu7 hG (c:=ZbM.mk on left) c.ll,Zfb.2 h3]
theorem ZoU {g:Zx} (h:ZbK g=0) {left on:List Int} (c:ZhO g left on):Zhy g (ZbM.mk on left)=some 0:=by
 obtain⟨hG,hA⟩:=Zbg h
 unfold Zhy
 rw[Zi0 g hG.short,h,Option.bind_some]
 simp only[beq_self_eq_true,cond_true,ZAZ hG c,Option.bind_some]
def ZfS (E:List Zy) (left on:List Int):List Int:=((List.range left.length).filter fun i:Nat=>!(lf left (i:Int)==0)&&(!(decide ((i:Int)∈on))&&Zlk E left (i:Int))).map fun i:Nat=>(i:Int)
theorem ZsJ {g:Zx} (h:ZbK g=0) {left on:List Int} (c:ZhO g left on):Zfx g (ZbM.mk on left)=some (ZfS g.edges left on):=by
 obtain⟨hG,hA⟩:=Zbg h
 have hw:=hG.wl
 have ll:=c.ll
 have o8:=c.o8
 unfold Zfx
 rw[ZoU h c,Option.bind_some]
 unfold ZkS
 rw[ZsX (n:=left.length) (Zfz g (ZbM.mk on left)) (fun i:Nat=>!(lf left (i:Int)==0)&&(!(decide ((i:Int)∈on))&&Zlk g.edges left (i:Int))) (fun i out hi ho=>?_) (fun out=>by simp only[Zfz,ZfV];rfl)]
 ·rfl
 ·have hin:isN left (i:Int):=⟨by omega,by simpa using hi⟩
  simp only[Zfz,ZfF hi,cond_true,Zqt (c:=ZbM.mk on left) hin,Option.bind_some,Zje on (i:Int) (by omega),ZnC,Zu7 hG (c:=ZbM.mk on left) c.ll,Zag hi (show left.length<9223372036854775808 by omega),Zjw (show out.length+1≤1073741824 by omega)]
  cases lf left (i:Int)==0<;>cases decide ((i:Int)∈on)<;>cases Zlk g.edges left (i:Int)<;>rfl
theorem Zqy {E:List Zy}{left on:List Int} (hr:∀x∈left,0≤x) {n:Int}:n∈ZfS E left on↔Rdy E left on n:=by
 unfold ZfS Rdy isN
 rw[Zi9]
 simp only[Bool.and_eq_true,Bool.not_eq_true',beq_eq_false_iff_ne,decide_eq_false_iff_not]
 constructor
 ·rintro ⟨h0,h1,h2,h3,h4⟩
  rw[Int.toNat_of_nonneg h0] at h2 h3 h4
  refine⟨⟨h0,h1⟩,?_,h3,Zfb.1 h4⟩
  have:0≤lf left n:=by
   rw[show lf left n=lf left n from rfl]
   exact hr _ (List.mem_of_getElem? (ZjU h0 h1))
  omega
 ·rintro ⟨⟨h0,h1⟩,h2,h3,h4⟩
  refine⟨h0,h1,?_⟩
  rw[Int.toNat_of_nonneg h0]
  exact⟨by omega,h3,Zfb.2 h4⟩
theorem ZsZ (E:List Zy) (left on:List Int):(ZfS E left on).Nodup:=by
 unfold ZfS
 exact List.Pairwise.map _ (fun a b (h:a≠b)=>by omega) (List.Pairwise.filter _ List.nodup_range)
def upd {α:Type} (f:Nat→α) (c:Nat) (v:α):Nat→α:=fun k=>if k=c then v else f k
theorem Za4 {α:Type} (f:Nat→α) (c:Nat) (v:α):upd f c v c=v:=if_pos rfl
theorem Ztf {α:Type} (f:Nat→α) {c k:Nat} (v:α) (h:k≠c):upd f c v k=f k:=if_neg h
structure Zg where
 T:Nat→Int
 B:Nat→Int
 R:Nat→Int→Int
 O:Nat→Int
 a:Nat→Int
 x:Nat→Int
 y:Nat→Int
 z:Nat→Int
 F:Nat→Nat
def vic (m c f:Nat):Nat:=(c+f) % m
def Zg.fresh (V:Zg) (c f:Nat):Zg:=⟨V.T,V.B,V.R,V.O,upd V.a c 0,upd V.x c 0,upd V.y c 0,upd V.z c 0,upd V.F c f⟩
def Zg.got (V:Zg) (c:Nat) (n:Int):Zg:=⟨V.T,V.B,V.R,upd V.O c n,upd V.a c 0,upd V.x c 0,upd V.y c 0,upd V.z c 0,upd V.F c 0⟩
def Zg.setT (V:Zg) (c:Nat) (n:Int):Zg:=⟨upd V.T c n,V.B,V.R,V.O,V.a,V.x,V.y,V.z,V.F⟩
def Zg.setB (V:Zg) (c:Nat) (n:Int):Zg:=⟨V.T,upd V.B c n,V.R,V.O,V.a,V.x,V.y,V.z,V.F⟩
def Zg.tk (V:Zg) (c:Nat) (a x y z:Int):Zg:=⟨V.T,V.B,V.R,V.O,upd V.a c a,upd V.x c x,upd V.y c y,upd V.z c z,V.F⟩
def Zbz (m:Nat) (V:Zg) (c:Nat):Zg:=
 if V.F c=0 then
  if V.a c=0 then (V.setB c (V.B c-1)).tk c 1 (V.x c) (V.B c-1) (V.z c)
  else if V.a c=1 then
   if V.T c<V.y c then V.got c (V.R c (V.y c))
   else if V.T c=V.y c then V.tk c 2 (V.T c) (V.y c) (V.z c)
   else V.tk c 3 (V.T c) (V.y c) (V.z c)
  else if V.a c=2 then
   if V.T c=V.x c then (V.setT c (V.T c+1)).tk c 4 (V.x c) (V.y c) (V.R c (V.y c))
   else V.tk c 3 (V.x c) (V.y c) (V.z c)
  else if V.a c=4 then (V.setB c (V.y c+1)).got c (V.z c)
  else (V.setB c (V.y c+1)).fresh c (1 % m)
 else
  if V.a c=0 then V.tk c 1 (V.T (vic m c (V.F c))) (V.y c) (V.z c)
  else if V.a c=1 then
   if V.x c<V.B (vic m c (V.F c)) then V.tk c 2 (V.x c) (V.B (vic m c (V.F c))) (V.z c)
   else V.fresh c ((V.F c+1) % m)
  else if V.a c=2 then V.tk c 3 (V.x c) (V.y c) (V.R (vic m c (V.F c)) (V.x c))
  else if V.T (vic m c (V.F c))=V.x c then (V.setT (vic m c (V.F c)) (V.T (vic m c (V.F c))+1)).got c (V.z c)
  else V.fresh c ((V.F c+1) % m)
def Zg.be (V:Zg) (c:Nat):Int:=if V.F c=0∧0<V.a c then V.B c+1 else V.B c
def Zg.lo (V:Zg) (c:Nat):Int:=if V.F c=0∧V.a c=4 then V.T c-1 else V.T c
structure Pos (m:Nat) (V:Zg) (c:Nat):Prop where
 F:V.F c<m
 busy:V.O c ≠ -1→V.a c=0∧V.F c=0
 a0:0≤V.a c
 a4:V.a c≤4
 a3:V.F c≠0→V.a c≤3
 T0:0≤V.T c
 TB:V.T c≤V.be c
 B64:V.be c≤64
 o1:V.F c=0→0<V.a c→V.y c=V.B c
 o2:V.F c=0→V.a c=2→V.x c=V.y c∧V.x c≤V.T c
 o3:V.F c=0→V.a c=3∨V.a c=4→V.T c=V.B c+1
 o4:V.F c=0→V.a c=4→V.z c=V.R c (V.B c)
 t1:V.F c≠0→0<V.a c→0≤V.x c∧V.x c≤V.T (vic m c (V.F c))
 t2:V.F c≠0→2≤V.a c→V.x c=V.T (vic m c (V.F c))→V.T (vic m c (V.F c))<V.be (vic m c (V.F c))
 t3:V.F c≠0→V.a c=3→V.z c=V.R (vic m c (V.F c)) (V.x c)
 rx : -1≤V.x c∧V.x c≤64
 ry : -1≤V.y c∧V.y c≤64
def Item (m:Nat) (V:Zg) (c:Nat) (k:Int):Prop:=c<m∧V.lo c≤k∧k<V.be c
structure ZqI (m:Nat) (base:Int→Prop) (V:Zg):Prop where
 rdy:∀c k,Item m V c k→base (V.R c k)∧∀i,i<m→V.O i≠V.R c k
 inj:∀c k c' k',Item m V c k→Item m V c' k'→V.R c k=V.R c' k'→c=c'∧k=k'
 all:∀n,base n→(∀i,i<m→V.O i≠n)→∃c k,Item m V c k∧V.R c k=n
structure Inv (m:Nat) (base:Int→Prop) (V:Zg):Prop where
 pos:∀c,c<m→Pos m V c
 items:ZqI m base V
theorem Zqc {m:Nat} (hm:0<m) (c f:Nat):vic m c f<m:=Nat.mod_lt _ hm
theorem ZC5 {m c f:Nat} (hc:c<m) (hf:f<m) (h0:f≠0):vic m c f≠c:=by
 unfold vic
 intro h
 by_cases hl:c+f<m
 ·rw[Nat.mod_eq_of_lt hl] at h;omega
 ·rw[Nat.mod_eq_sub_mod (by omega),Nat.mod_eq_of_lt (by omega)] at h;omega
theorem Zt1 {m c:Nat} (hc:c<m):vic m c 0=c:=by unfold vic;rw[Nat.add_zero,Nat.mod_eq_of_lt hc]
theorem Pos.other {m:Nat}{V W:Zg}{c i:Nat} (hm:0<m) (all:∀j,j<m→V.T j≤V.be j) (p:Pos m V i) (hi:i<m)
  (hT:∀j,j<m→W.T j=V.T j∨(W.T j=V.T j+1∧V.T j<V.be j))
  (hb:∀j,j<m→W.be j=V.be j∨(j=c∧W.be j=V.be j-1∧V.T j<W.be j∧W.T j=V.T j))
  (hne:i≠c) (hF:W.F i=V.F i) (ha:W.a i=V.a i) (hx:W.x i=V.x i) (hy:W.y i=V.y i) (hz:W.z i=V.z i) (hO:W.O i=V.O i) (hB:W.B i=V.B i) (hR:W.R=V.R):Pos m W i:=by
 have hTi:=hT i hi
 have hbi:W.be i=V.be i:=by
  rcases hb i hi with h | ⟨h,_⟩
  ·exact h
  ·exact absurd h hne
 have hv:=Zqc hm i (V.F i)
 have hTv:=hT _ hv
 have hbv:=hb _ hv
 refine⟨by rw[hF];exact p.F,fun h=>?_,by rw[ha];exact p.a0,by rw[ha];exact p.a4,fun h=>?_,?_,?_,by rw[hbi];exact p.B64,fun h h2=>?_,fun h h2=>?_,fun h h2=>?_,fun h h2=>?_,fun h h2=>?_,fun h h2 h3=>?_,fun h h2=>?_,by rw[hx];exact p.rx,by rw[hy];exact p.ry⟩
 ·rw[hO] at h;rw[ha,hF];exact p.busy h
 ·rw[hF] at h;rw[ha];exact p.a3 h
 ·have:=p.T0;rcases hTi with h | h<;>omega
 ·have:=p.TB;rw[hbi];rcases hTi with h | h<;>omega
 ·rw[hF] at h;rw[ha] at h2;rw[hy,hB];exact p.o1 h h2
 ·rw[hF] at h;rw[ha] at h2
  have:=p.o2 h h2
  rw[hx,hy]
  refine⟨this.1,?_⟩
  rcases hTi with h | h<;>omega
 ·rw[hF] at h;rw[ha] at h2
  have h3:=p.o3 h h2
  rw[hB]
  rcases hTi with h4 | ⟨h4,h5⟩
  ·omega
  ·have:V.be i=V.B i+1:=by unfold Zg.be;rw[if_pos ⟨h,by omega⟩]
   omega
 ·rw[hF] at h;rw[ha] at h2;rw[hz,hR,hB];exact p.o4 h h2
 ·rw[hF] at h ⊢;rw[ha] at h2
  have:=p.t1 h h2
  rw[hx]
  refine⟨this.1,?_⟩
  rcases hTv with h | h<;>omega
 ·rw[hF] at h h3 ⊢;rw[ha] at h2;rw[hx] at h3
  have h5:=p.t1 h (by omega)
  rcases hTv with h4 | ⟨h4,_⟩
  ·have h6:=p.t2 h h2 (by omega)
   rcases hbv with h7 | ⟨_,h7,h8,_⟩<;>omega
  ·omega
 ·rw[hF] at h ⊢;rw[ha] at h2;rw[hz,hR,hx];exact p.t3 h h2
theorem ZqI.same {m:Nat}{base:Int→Prop}{V W:Zg} (h:ZqI m base V) (hlo:∀j,j<m→W.lo j=V.lo j) (hbe:∀j,j<m→W.be j=V.be j) (hO:∀j,j<m→W.O j=V.O j) (hR:W.R=V.R):ZqI m base W:=by
 have it:∀c k,Item m W c k↔Item m V c k:=fun c k=>by
  unfold Item
  constructor
  ·rintro ⟨h1,h2,h3⟩;rw[hlo c h1] at h2;rw[hbe c h1] at h3;exact⟨h1,h2,h3⟩
  ·rintro ⟨h1,h2,h3⟩;rw[← hlo c h1] at h2;rw[← hbe c h1] at h3;exact⟨h1,h2,h3⟩
 refine⟨fun c k hi=>?_,fun c k c' k' h1 h2 h3=>?_,fun n hn ho=>?_⟩
 ·rw[hR]
  obtain⟨h1,h2⟩:=h.rdy c k ((it c k).1 hi)
  exact⟨h1,fun i hi=>by rw[hO i hi];exact h2 i hi⟩
 ·rw[hR] at h3
  exact h.inj c k c' k' ((it c k).1 h1) ((it c' k').1 h2) h3
 ·obtain⟨c,k,h1,h2⟩:=h.all n hn fun i hi=>by rw[← hO i hi];exact ho i hi
  exact⟨c,k,(it c k).2 h1,by rw[hR];exact h2⟩
theorem ZqI.take {m:Nat}{base:Int→Prop}{V W:Zg}{c v:Nat}{k0:Int} (h:ZqI m base V) (hc:c<m) (hidle:V.O c = -1) (hb:∀n,base n→n ≠ -1) (hit:Item m V v k0)
  (it:∀i k,Item m W i k↔Item m V i k∧¬(i=v∧k=k0)) (hO:W.O c=V.R v k0) (hO2:∀j,j<m→j≠c→W.O j=V.O j) (hR:W.R=V.R):ZqI m base W:=by
 refine⟨fun i k hi=>?_,fun i k i' k' h1 h2 h3=>?_,fun n hn ho=>?_⟩
 ·obtain⟨h1,h2⟩:=(it i k).1 hi
  obtain⟨h3,h4⟩:=h.rdy i k h1
  rw[hR]
  refine⟨h3,fun j hj=>?_⟩
  by_cases e:j=c
  ·rw[e,hO]
   intro he
   exact h2 (by have:=h.inj v k0 i k hit h1 he;exact⟨this.1.symm,this.2.symm⟩)
  ·rw[hO2 j hj e];exact h4 j hj
 ·rw[hR] at h3
  exact h.inj i k i' k' ((it i k).1 h1).1 ((it i' k').1 h2).1 h3
 ·have hne:n≠V.R v k0:=fun e=>ho c hc (by rw[hO,e])
  obtain⟨i,k,h1,h2⟩:=h.all n hn fun j hj=>by
   by_cases e:j=c
   ·rw[e,hidle];exact fun he=>hb n hn he.symm
   ·rw[← hO2 j hj e];exact ho j hj
  refine⟨i,k,(it i k).2 ⟨h1,fun⟨e1,e2⟩=>hne ?_⟩,by rw[hR];exact h2⟩
  rw[← h2,e1,e2]
theorem Pos.fresh0 {m:Nat}{W:Zg}{c:Nat} (hF:W.F c<m) (ha:W.a c=0) (hx:W.x c=0) (hy:W.y c=0) (hO:W.O c ≠ -1→W.F c=0) (h0:0≤W.T c) (h1:W.T c≤W.B c) (h2:W.B c≤64):Pos m W c:=by
 have hb:W.be c=W.B c:=by unfold Zg.be;rw[if_neg (by omega)]
 refine⟨hF,fun h=>⟨ha,hO h⟩,by omega,by omega,fun _=>by omega,h0,by omega,by omega,fun _ h=>by omega,fun _ h=>by omega,fun _ h=>by omega,fun _ h=>by omega,fun _ h=>by omega,fun _ h=>by omega,fun _ h=>by omega,by omega,by omega⟩
theorem Pos.owner {m:Nat}{W:Zg}{c:Nat} (hm:0<m) (hF:W.F c=0) (hO:W.O c = -1) (ha:1≤W.a c∧W.a c≤4) (hy:W.y c=W.B c) (h0:0≤W.T c) (h1:W.T c≤W.B c+1) (h2:W.B c+1≤64)
  (q2:W.a c=2→W.x c=W.y c∧W.x c≤W.T c) (q3:W.a c=3∨W.a c=4→W.T c=W.B c+1) (q4:W.a c=4→W.z c=W.R c (W.B c)) (rx : -1≤W.x c∧W.x c≤64):Pos m W c:=by
 have hb:W.be c=W.B c+1:=by unfold Zg.be;rw[if_pos ⟨hF,by omega⟩]
 refine⟨by omega,fun h=>absurd hO h,by omega,by omega,fun h=>absurd hF h,h0,by omega,by omega,fun _ _=>hy,fun _ h=>q2 h,fun _ h=>q3 h,fun _ h=>q4 h,fun h=>absurd hF h,fun h=>absurd hF h,fun h=>absurd hF h,rx,by omega⟩
theorem Pos.thief {m:Nat}{V W:Zg}{c:Nat} (p:Pos m V c) (hF:W.F c=V.F c) (h0:V.F c≠0) (hO:W.O c = -1) (hT:W.T=V.T) (hB:W.B=V.B) (hbe:∀j,W.be j=V.be j) (ha:1≤W.a c∧W.a c≤3) (q1:0≤W.x c∧W.x c≤V.T (vic m c (V.F c)))
  (q2:2≤W.a c→W.x c=V.T (vic m c (V.F c))→V.T (vic m c (V.F c))<V.be (vic m c (V.F c))) (q3:W.a c=3→W.z c=W.R (vic m c (V.F c)) (W.x c)) (rx:W.x c≤64) (ry : -1≤W.y c∧W.y c≤64):Pos m W c:=by
 have h0':W.F c≠0:=by rw[hF];exact h0
 refine⟨by rw[hF];exact p.F,fun h=>absurd hO h,by omega,by omega,fun _=>by omega,by rw[hT];exact p.T0,by rw[hT,hbe];exact p.TB,by rw[hbe];exact p.B64,fun h=>absurd h h0',fun h=>absurd h h0',fun h=>absurd h h0',fun h=>absurd h h0',?_,?_,?_,by omega,ry⟩
 ·intro _ _;rw[hF,hT];exact q1
 ·intro _ h h2;rw[hF,hT] at h2 ⊢;rw[hbe];exact q2 h h2
 ·intro _ h;rw[hF];exact q3 h
def ZvK (m:Nat) (base:Int→Prop) (V W:Zg) (c:Nat):Prop:=
 (∀j,W.O j=V.O j)∨(base (W.O c)∧(∀i,i<m→V.O i≠W.O c)∧∀j,j≠c→W.O j=V.O j)
theorem Inv.step {m:Nat}{base:Int→Prop}{V:Zg}{c:Nat} (I:Inv m base V) (hb:∀n,base n→n ≠ -1) (hc:c<m) (hidle:V.O c = -1):Inv m base (Zbz m V c)∧ZvK m base V (Zbz m V c) c∧(Zbz m V c).R=V.R:=by
 have hm:0<m:=by omega
 have p:=I.pos c hc
 have TB:∀j,j<m→V.T j≤V.be j:=fun j hj=>(I.pos j hj).TB
 obtain⟨pF,_,pa0,pa4,pa3,pT0,pTB,pB64,po1,po2,po3,po4,pt1,pt2,pt3,prx,pry⟩:=p
 have quiet:∀W:Zg,W.R=V.R→W.T=V.T→(∀j,W.O j=V.O j)→(∀j,W.be j=V.be j)→(∀j,W.lo j=V.lo j)→(∀i,i≠c→W.F i=V.F i∧W.a i=V.a i∧W.x i=V.x i∧W.y i=V.y i∧W.z i=V.z i∧W.B i=V.B i)→Pos m W c→Inv m base W∧ZvK m base V W c∧W.R=V.R:=by
  intro W hR hT hO hbe hlo hsame hp
  refine⟨⟨fun i hi=>?_,I.items.same (fun j _=>hlo j) (fun j _=>hbe j) (fun j _=>hO j) hR⟩,.inl hO,hR⟩
  by_cases e:i=c
  ·rw[e];exact hp
  ·obtain⟨s1,s2,s3,s4,s5,s6⟩:=hsame i e
   exact(I.pos i hi).other (c:=c) hm TB hi (fun j _=>.inl (by rw[hT])) (fun j _=>.inl (hbe j)) e s1 s2 s3 s4 s5 (hO i) s6 hR
 have hv:=Zqc hm c (V.F c)
 unfold Zbz
 by_cases hF:V.F c=0
 ·rw[if_pos hF]
  by_cases a0:V.a c=0
  ·rw[if_pos a0]
   have hbc:V.be c=V.B c:=by unfold Zg.be;rw[if_neg (by omega)]
   refine quiet _ rfl rfl (fun _=>rfl) (fun j=>?_) (fun j=>?_) (fun i e=>?_) ?_
   ·by_cases e:j=c
    ·subst e;simp[Zg.be,Zg.tk,Zg.setB,upd,hF,a0]
    ·simp[Zg.be,Zg.tk,Zg.setB,upd,e]
   ·by_cases e:j=c
    ·subst e;simp[Zg.lo,Zg.tk,Zg.setB,upd,hF,a0]
    ·simp[Zg.lo,Zg.tk,Zg.setB,upd,e]
   ·simp[Zg.tk,Zg.setB,upd,e]
   ·refine Pos.owner hm hF hidle ?_ ?_ pT0 ?_ ?_ ?_ ?_ ?_ ?_<;>simp only[Zg.tk,Zg.setB,Za4]
    ·omega
    ·omega
    ·omega
    ·intro h;omega
    ·intro h;omega
    ·intro h;omega
    ·exact prx
  rw[if_neg a0]
  have hbc:V.be c=V.B c+1:=by unfold Zg.be;rw[if_pos ⟨hF,by omega⟩]
  have hy:=po1 hF (by omega)
  by_cases a1:V.a c=1
  ·rw[if_pos a1]
   by_cases h1:V.T c<V.y c
   ·
    rw[if_pos h1]
    have it0:Item m V c (V.y c):=⟨hc,by unfold Zg.lo;rw[if_neg (by omega)];omega,by omega⟩
    have beW:∀j,j≠c→(V.got c (V.R c (V.y c))).be j=V.be j:=fun j e=>by simp[Zg.be,Zg.got,upd,e]
    have beC:(V.got c (V.R c (V.y c))).be c=V.B c:=by simp[Zg.be,Zg.got,upd]
    have loW:∀j,(V.got c (V.R c (V.y c))).lo j=V.lo j:=fun j=>by
     by_cases e:j=c
     ·subst e;simp[Zg.lo,Zg.got,upd,a1]
     ·simp[Zg.lo,Zg.got,upd,e]
    refine⟨⟨fun i hi=>?_,?_⟩,.inr ⟨?_,?_,fun j e=>by simp[Zg.got,upd,e]⟩,rfl⟩
    ·by_cases e:i=c
     ·rw[e]
      refine Pos.fresh0 ?_ ?_ ?_ ?_ ?_ pT0 ?_ ?_<;>simp only[Zg.got,Za4]
      ·exact hm
      ·exact fun _=>trivial
      ·omega
      ·omega
     ·refine(I.pos i hi).other (c:=c) hm TB hi (fun j _=>.inl rfl) (fun j _=>?_) e ?_ ?_ ?_ ?_ ?_ ?_ rfl rfl
      ·by_cases e2:j=c
       ·subst e2
        exact .inr ⟨rfl,by rw[beC];omega,by rw[beC];omega,rfl⟩
       ·exact .inl (beW j e2)
      all_goals simp[Zg.got,upd,e]
    ·refine I.items.take hc hidle hb it0 (fun i k=>?_) (by simp[Zg.got,upd]) (fun j _ e=>by simp[Zg.got,upd,e]) rfl
     unfold Item
     rw[loW]
     by_cases e:i=c
     ·subst e;rw[beC]
      constructor
      ·rintro ⟨q1,q2,q3⟩;exact⟨⟨q1,q2,by omega⟩,fun h=>by omega⟩
      ·rintro ⟨⟨q1,q2,q3⟩,q4⟩;exact⟨q1,q2,by have:k≠V.y i:=fun h=>q4 ⟨rfl,h⟩;omega⟩
     ·rw[beW i e]
      constructor
      ·rintro ⟨q1,q2,q3⟩;exact⟨⟨q1,q2,q3⟩,fun h=>e h.1⟩
      ·rintro ⟨q,_⟩;exact q
    ·have:=(I.items.rdy c _ it0).1
     simpa [Zg.got,upd] using this
    ·have:=(I.items.rdy c _ it0).2
     simpa [Zg.got,upd] using this
   rw[if_neg h1]
   by_cases h2:V.T c=V.y c
   ·rw[if_pos h2]
    refine quiet _ rfl rfl (fun _=>rfl) (fun j=>?_) (fun j=>?_) (fun i e=>?_) ?_
    ·by_cases e:j=c
     ·subst e;simp[Zg.be,Zg.tk,upd,hF,a1]
     ·simp[Zg.be,Zg.tk,upd,e]
    ·by_cases e:j=c
     ·subst e;simp[Zg.lo,Zg.tk,upd,hF,a1]
     ·simp[Zg.lo,Zg.tk,upd,e]
    ·simp[Zg.tk,upd,e]
    ·refine Pos.owner hm hF hidle ?_ ?_ pT0 ?_ ?_ ?_ ?_ ?_ ?_<;>simp only[Zg.tk,Za4]
     ·omega
     ·exact hy
     ·omega
     ·omega
     ·intro _;exact⟨h2,Int.le_refl _⟩
     ·intro h;omega
     ·intro h;omega
     ·omega
   ·rw[if_neg h2]
    refine quiet _ rfl rfl (fun _=>rfl) (fun j=>?_) (fun j=>?_) (fun i e=>?_) ?_
    ·by_cases e:j=c
     ·subst e;simp[Zg.be,Zg.tk,upd,hF,a1]
     ·simp[Zg.be,Zg.tk,upd,e]
    ·by_cases e:j=c
     ·subst e;simp[Zg.lo,Zg.tk,upd,hF,a1]
     ·simp[Zg.lo,Zg.tk,upd,e]
    ·simp[Zg.tk,upd,e]
    ·refine Pos.owner hm hF hidle ?_ ?_ pT0 ?_ ?_ ?_ ?_ ?_ ?_<;>simp only[Zg.tk,Za4]
     ·omega
     ·exact hy
     ·omega
     ·omega
     ·intro h;omega
     ·intro h;omega
     ·intro h;omega
     ·omega
  rw[if_neg a1]
  by_cases a2:V.a c=2
  ·rw[if_pos a2]
   obtain⟨x1,x2⟩:=po2 hF a2
   by_cases h1:V.T c=V.x c
   ·
    rw[if_pos h1]
    have beW:∀j,((V.setT c (V.T c+1)).tk c 4 (V.x c) (V.y c) (V.R c (V.y c))).be j=V.be j:=fun j=>by
     by_cases e:j=c
     ·subst e;simp[Zg.be,Zg.tk,Zg.setT,upd,hF,a2]
     ·simp[Zg.be,Zg.tk,Zg.setT,upd,e]
    have loW:∀j,((V.setT c (V.T c+1)).tk c 4 (V.x c) (V.y c) (V.R c (V.y c))).lo j=V.lo j:=fun j=>by
     by_cases e:j=c
     ·subst e;simp[Zg.lo,Zg.tk,Zg.setT,upd,hF,a2]
     ·simp[Zg.lo,Zg.tk,Zg.setT,upd,e]
    refine⟨⟨fun i hi=>?_,I.items.same (fun j _=>loW j) (fun j _=>beW j) (fun j _=>rfl) rfl⟩,.inl fun _=>rfl,rfl⟩
    by_cases e:i=c
    ·rw[e]
     refine Pos.owner hm hF hidle ?_ ?_ ?_ ?_ ?_ ?_ ?_ ?_ ?_<;>simp only[Zg.tk,Zg.setT,Za4]
     ·omega
     ·exact hy
     ·omega
     ·omega
     ·omega
     ·intro h;omega
     ·intro h;omega
     ·intro h;rw[hy]
     ·exact prx
    ·refine(I.pos i hi).other (c:=c) hm TB hi (fun j _=>?_) (fun j _=>.inl (beW j)) e ?_ ?_ ?_ ?_ ?_ rfl ?_ rfl
     ·by_cases e2:j=c
      ·subst e2
       refine .inr ⟨by simp[Zg.tk,Zg.setT,upd],by omega⟩
      ·exact .inl (by simp[Zg.tk,Zg.setT,upd,e2])
     all_goals simp[Zg.tk,Zg.setT,upd,e]
   ·rw[if_neg h1]
    refine quiet _ rfl rfl (fun _=>rfl) (fun j=>?_) (fun j=>?_) (fun i e=>?_) ?_
    ·by_cases e:j=c
     ·subst e;simp[Zg.be,Zg.tk,upd,hF,a2]
     ·simp[Zg.be,Zg.tk,upd,e]
    ·by_cases e:j=c
     ·subst e;simp[Zg.lo,Zg.tk,upd,hF,a2]
     ·simp[Zg.lo,Zg.tk,upd,e]
    ·simp[Zg.tk,upd,e]
    ·refine Pos.owner hm hF hidle ?_ ?_ pT0 ?_ ?_ ?_ ?_ ?_ ?_<;>simp only[Zg.tk,Za4]
     ·omega
     ·exact hy
     ·omega
     ·omega
     ·intro h;omega
     ·intro h;omega
     ·intro h;omega
     ·exact prx
  rw[if_neg a2]
  have hT:=po3 hF (by omega)
  by_cases a4:V.a c=4
  ·
   rw[if_pos a4]
   have hz:=po4 hF a4
   have it0:Item m V c (V.B c):=⟨hc,by unfold Zg.lo;rw[if_pos ⟨hF,a4⟩];omega,by omega⟩
   have beW:∀j,j≠c→((V.setB c (V.y c+1)).got c (V.z c)).be j=V.be j:=fun j e=>by simp[Zg.be,Zg.got,Zg.setB,upd,e]
   have beC:((V.setB c (V.y c+1)).got c (V.z c)).be c=V.B c+1:=by simp[Zg.be,Zg.got,Zg.setB,upd];omega
   have loC:((V.setB c (V.y c+1)).got c (V.z c)).lo c=V.T c:=by simp[Zg.lo,Zg.got,Zg.setB,upd]
   have loW:∀j,j≠c→((V.setB c (V.y c+1)).got c (V.z c)).lo j=V.lo j:=fun j e=>by simp[Zg.lo,Zg.got,Zg.setB,upd,e]
   have loV:V.lo c=V.T c-1:=by unfold Zg.lo;rw[if_pos ⟨hF,a4⟩]
   refine⟨⟨fun i hi=>?_,?_⟩,.inr ⟨?_,?_,fun j e=>by simp[Zg.got,Zg.setB,upd,e]⟩,rfl⟩
   ·by_cases e:i=c
    ·rw[e]
     refine Pos.fresh0 ?_ ?_ ?_ ?_ ?_ pT0 ?_ ?_<;>simp only[Zg.got,Zg.setB,Za4]
     ·exact hm
     ·exact fun _=>trivial
     ·omega
     ·omega
    ·refine(I.pos i hi).other (c:=c) hm TB hi (fun j _=>.inl rfl) (fun j _=>?_) e ?_ ?_ ?_ ?_ ?_ ?_ ?_ rfl
     ·by_cases e2:j=c
      ·subst e2
       exact .inl (by rw[beC];omega)
      ·exact .inl (beW j e2)
     all_goals simp[Zg.got,Zg.setB,upd,e]
   ·refine I.items.take hc hidle hb it0 (fun i k=>?_) (by simp[Zg.got,Zg.setB,upd];exact hz) (fun j _ e=>by simp[Zg.got,Zg.setB,upd,e]) rfl
    unfold Item
    by_cases e:i=c
    ·subst e;rw[beC,loC,loV]
     constructor
     ·rintro ⟨q1,q2,q3⟩;omega
     ·rintro ⟨⟨q1,q2,q3⟩,q4⟩
      exact absurd ⟨rfl,by omega⟩ q4
    ·rw[beW i e,loW i e]
     constructor
     ·rintro ⟨q1,q2,q3⟩;exact⟨⟨q1,q2,q3⟩,fun h=>e h.1⟩
     ·rintro ⟨q,_⟩;exact q
   ·have:=(I.items.rdy c _ it0).1
    simp only[Zg.got,Zg.setB,Za4]
    rw[hz];exact this
   ·have:=(I.items.rdy c _ it0).2
    simp only[Zg.got,Zg.setB,Za4]
    rw[hz];exact this
  ·rw[if_neg a4]
   have a3:V.a c=3:=by omega
   refine quiet _ rfl rfl (fun _=>rfl) (fun j=>?_) (fun j=>?_) (fun i e=>?_) ?_
   ·by_cases e:j=c
    ·subst e
     rw[hbc]
     simp[Zg.be,Zg.fresh,Zg.setB,upd]
     omega
    ·simp[Zg.be,Zg.fresh,Zg.setB,upd,e]
   ·by_cases e:j=c
    ·subst e;simp[Zg.lo,Zg.fresh,Zg.setB,upd,a3]
    ·simp[Zg.lo,Zg.fresh,Zg.setB,upd,e]
   ·simp[Zg.fresh,Zg.setB,upd,e]
   ·refine Pos.fresh0 ?_ ?_ ?_ ?_ ?_ pT0 ?_ ?_<;>simp only[Zg.fresh,Zg.setB,Za4]
    ·exact Nat.mod_lt _ hm
    ·exact fun h=>absurd hidle h
    ·omega
    ·omega
 ·rw[if_neg hF]
  have pv:=I.pos _ hv
  have hbc:V.be c=V.B c:=by unfold Zg.be;rw[if_neg (by omega)]
  have fresh:∀f,f<m→Inv m base (V.fresh c f)∧ZvK m base V (V.fresh c f) c∧(V.fresh c f).R=V.R:=fun f hf=>by
   refine quiet _ rfl rfl (fun _=>rfl) (fun j=>?_) (fun j=>?_) (fun i e=>?_) ?_
   ·by_cases e:j=c
    ·subst e;rw[hbc];simp[Zg.be,Zg.fresh,upd]
    ·simp[Zg.be,Zg.fresh,upd,e]
   ·by_cases e:j=c
    ·subst e;simp[Zg.lo,Zg.fresh,upd,hF]
    ·simp[Zg.lo,Zg.fresh,upd,e]
   ·simp[Zg.fresh,upd,e]
   ·refine Pos.fresh0 ?_ ?_ ?_ ?_ ?_ pT0 ?_ ?_<;>simp only[Zg.fresh,Za4]
    ·exact hf
    ·exact fun h=>absurd hidle h
    ·omega
    ·omega
  have tk:∀a x y z,1≤a∧a≤3→(0≤x∧x≤V.T (vic m c (V.F c)))→(2≤a→x=V.T (vic m c (V.F c))→V.T (vic m c (V.F c))<V.be (vic m c (V.F c)))→(a=3→z=V.R (vic m c (V.F c)) x)→x≤64→(-1≤y∧y≤64)→Inv m base (V.tk c a x y z)∧ZvK m base V (V.tk c a x y z) c∧(V.tk c a x y z).R=V.R:=fun a x y z q0 q1 q2 q3 q4 q5=>by
   have hbe:∀j,(V.tk c a x y z).be j=V.be j:=fun j=>by
    by_cases e:j=c
    ·subst e;rw[hbc];simp[Zg.be,Zg.tk,upd,hF]
    ·simp[Zg.be,Zg.tk,upd,e]
   refine quiet _ rfl rfl (fun _=>rfl) hbe (fun j=>?_) (fun i e=>?_) ?_
   ·by_cases e:j=c
    ·subst e;simp[Zg.lo,Zg.tk,upd,hF]
    ·simp[Zg.lo,Zg.tk,upd,e]
   ·simp[Zg.tk,upd,e]
   ·refine Pos.thief (I.pos c hc) rfl hF hidle rfl rfl hbe ?_ ?_ ?_ ?_ ?_ ?_<;>simp only[Zg.tk,Za4]
    ·exact q0
    ·exact q1
    ·exact q2
    ·exact q3
    ·exact q4
    ·exact q5
  have bv:V.B (vic m c (V.F c))≤V.be (vic m c (V.F c)) ∧ -1≤V.B (vic m c (V.F c)):=by
   have h1:=pv.T0
   have h2:=pv.TB
   unfold Zg.be at h2 ⊢
   split at h2<;>rename_i hh<;>simp only[hh]<;>simp<;>omega
  have b64:=pv.B64
  have t64:=pv.TB
  by_cases a0:V.a c=0
  ·rw[if_pos a0]
   exact tk 1 _ _ _ (by omega) ⟨pv.T0,Int.le_refl _⟩ (fun h=>by omega) (fun h=>by omega) (by omega) pry
  rw[if_neg a0]
  have x0:=pt1 hF (by omega)
  by_cases a1:V.a c=1
  ·rw[if_pos a1]
   by_cases h1:V.x c<V.B (vic m c (V.F c))
   ·rw[if_pos h1]
    exact tk 2 _ _ _ (by omega) x0 (fun _ h=>by omega) (fun h=>by omega) prx.2 (by omega)
   ·rw[if_neg h1]
    exact fresh _ (Nat.mod_lt _ hm)
  rw[if_neg a1]
  by_cases a2:V.a c=2
  ·rw[if_pos a2]
   exact tk 3 _ _ _ (by omega) x0 (fun _ h=>pt2 hF (by omega) h) (fun _=>rfl) prx.2 pry
  rw[if_neg a2]
  have a3:V.a c=3:=by have:=pa3 hF;omega
  by_cases h1:V.T (vic m c (V.F c))=V.x c
  ·
   rw[if_pos h1]
   have hlt:=pt2 hF (by omega) h1.symm
   have hz:=pt3 hF a3
   have vne:=ZC5 hc pF hF
   have hcv:c≠vic m c (V.F c):=fun e=>vne e.symm
   generalize hvv:vic m c (V.F c)=v at *
   have loV:V.lo v=V.T v:=by
    unfold Zg.lo
    by_cases hh:V.F v=0∧V.a v=4
    ·exfalso
     have:=pv.o3 hh.1 (.inr hh.2)
     have:V.be v=V.B v+1:=by unfold Zg.be;rw[if_pos ⟨hh.1,by omega⟩]
     omega
    ·rw[if_neg hh]
   have it0:Item m V v (V.T v):=⟨hv,by omega,hlt⟩
   have beW:∀j,((V.setT v (V.T v+1)).got c (V.z c)).be j=V.be j:=fun j=>by
    by_cases e:j=c
    ·subst e;rw[hbc];simp[Zg.be,Zg.got,Zg.setT,upd]
    ·simp[Zg.be,Zg.got,Zg.setT,upd,e]
   have loW:∀j,j≠v→((V.setT v (V.T v+1)).got c (V.z c)).lo j=V.lo j:=fun j e=>by
    by_cases e2:j=c
    ·subst e2;simp[Zg.lo,Zg.got,Zg.setT,upd,hF,e]
    ·simp[Zg.lo,Zg.got,Zg.setT,upd,e,e2]
   have loC:((V.setT v (V.T v+1)).got c (V.z c)).lo v=V.T v+1:=by
    have hn:¬(V.F v=0∧V.a v=4):=fun hh=>by
     have:V.lo v=V.T v-1:=by unfold Zg.lo;rw[if_pos hh]
     omega
    simp[Zg.lo,Zg.got,Zg.setT,upd,vne]
    intro h h2
    exact absurd ⟨h,h2⟩ hn
   refine⟨⟨fun i hi=>?_,?_⟩,.inr ⟨?_,?_,fun j e=>by simp[Zg.got,Zg.setT,upd,e]⟩,rfl⟩
   ·by_cases e:i=c
    ·rw[e]
     refine Pos.fresh0 ?_ ?_ ?_ ?_ ?_ ?_ ?_ ?_<;>simp only[Zg.got,Zg.setT,Za4,Ztf _ _ hcv]
     ·exact hm
     ·exact fun _=>trivial
     ·exact pT0
     ·omega
     ·omega
    ·refine(I.pos i hi).other (c:=c) hm TB hi (fun j _=>?_) (fun j _=>.inl (beW j)) e ?_ ?_ ?_ ?_ ?_ ?_ rfl rfl
     ·by_cases e2:j=v
      ·subst e2
       exact .inr ⟨by simp[Zg.got,Zg.setT,upd],hlt⟩
      ·exact .inl (by simp[Zg.got,Zg.setT,upd,e2])
     all_goals simp[Zg.got,Zg.setT,upd,e]
   ·refine I.items.take hc hidle hb it0 (fun i k=>?_) (by simp[Zg.got,Zg.setT,upd];rw[hz,h1]) (fun j _ e=>by simp[Zg.got,Zg.setT,upd,e]) rfl
    unfold Item
    rw[beW]
    by_cases e:i=v
    ·subst e;rw[loC,loV]
     constructor
     ·rintro ⟨q1,q2,q3⟩;exact⟨⟨q1,by omega,q3⟩,fun h=>by omega⟩
     ·rintro ⟨⟨q1,q2,q3⟩,q4⟩;exact⟨q1,by have:k≠V.T i:=fun h=>q4 ⟨rfl,h⟩;omega,q3⟩
    ·rw[loW i e]
     constructor
     ·rintro ⟨q1,q2,q3⟩;exact⟨⟨q1,q2,q3⟩,fun h=>e h.1⟩
     ·rintro ⟨q,_⟩;exact q
   ·have:=(I.items.rdy v _ it0).1
    simp only[Zg.got,Zg.setT,Za4]
    rw[hz,← h1];exact this
   ·have:=(I.items.rdy v _ it0).2
    simp only[Zg.got,Zg.setT,Za4]
    rw[hz,← h1];exact this
  ·rw[if_neg h1]
   exact fresh _ (Nat.mod_lt _ hm)
def ZhE (f:Nat→Nat):Nat→Nat
 | 0=>0
 | n+1=>ZhE f n+f n
theorem Zsw {f h:Nat→Nat}:∀n,(∀i,i<n→f i≤h i)→ZhE f n≤ZhE h n
 | 0,_=>Nat.le_refl _
 | n+1,e=>by
  have:=Zsw n fun i hi=>e i (by omega)
  have:=e n (by omega)
  unfold ZhE
  omega
theorem ZmF {f h:Nat→Nat} (n:Nat) (e:∀i,i<n→f i=h i):ZhE f n=ZhE h n:=
 Nat.le_antisymm (Zsw n fun i hi=>Nat.le_of_eq (e i hi)) (Zsw n fun i hi=>Nat.le_of_eq (e i hi).symm)
theorem ZlI {f h:Nat→Nat}{c:Nat}:∀n,c<n→(∀i,i<n→i≠c→f i=h i)→f c+1≤h c→ZhE f n+1≤ZhE h n
 | 0,hc,_,_=>by omega
 | n+1,hc,e,hd=>by
  unfold ZhE
  by_cases hn:c=n
  ·subst hn
   have:=ZmF (f:=f) (h:=h) c fun i hi=>e i (by omega) (by omega)
   omega
  ·have:=ZlI n (by omega) (fun i hi hne=>e i (by omega) hne) hd
   have:=e n (by omega) (fun h=>hn h.symm)
   omega
theorem Znp {a b:Nat}{p:Nat→Prop} (dp:∀i,Decidable (p i)) {f h:Nat→Nat}:∀n,(∀i,i<n→(p i→f i≤a∧h i=1)∧(¬p i→f i≤b∧h i=0))→ZhE f n≤ZhE h n*a+(n-ZhE h n)*b∧ZhE h n≤n
 | 0,_=>by simp[ZhE]
 | n+1,e=>by
  obtain⟨h1,h2⟩:=Znp dp n fun i hi=>e i (by omega)
  obtain⟨e1,e2⟩:=e n (by omega)
  unfold ZhE
  by_cases hp:p n
  ·obtain⟨q1,q2⟩:=e1 hp
   rw[q2]
   refine⟨?_,by omega⟩
   have:n+1-(ZhE h n+1)=n-ZhE h n:=by omega
   rw[this,Nat.succ_mul]
   omega
  ·obtain⟨q1,q2⟩:=e2 hp
   rw[q2,Nat.add_zero]
   refine⟨?_,by omega⟩
   have:n+1-ZhE h n=(n-ZhE h n)+1:=by omega
   rw[this,Nat.succ_mul]
   omega
def Zco (V:Zg) (c:Nat):Prop:=V.F c=0→0<V.a c→V.y c=V.B c∧(V.a c=2→V.x c=V.y c∧V.x c≤V.T c)∧(V.a c=3∨V.a c=4→V.B c+1≤V.T c)
noncomputable def BeG (V:Zg) (c:Nat):Int:=@ite _ (V.F c=0∧0<V.a c∧Zco V c) (Classical.propDecidable _) (V.B c+1) (V.B c)
theorem Zh5 {V:Zg}{c:Nat} (hF:V.F c=0) (ha:0<V.a c) (h:Zco V c):BeG V c=V.B c+1:=by unfold BeG;rw[if_pos ⟨hF,ha,h⟩]
theorem ZcZ {V:Zg}{c:Nat} (h:¬(V.F c=0∧0<V.a c∧Zco V c)):BeG V c=V.B c:=by unfold BeG;rw[if_neg h]
theorem ZHO (V:Zg) (c:Nat):V.B c≤BeG V c:=by unfold BeG;split<;>omega
def NE (V:Zg) (j:Nat):Prop:=V.T j<BeG V j
def Zs2 (m:Nat) (V:Zg) (p:Nat):Prop:=p<m∧V.O p = -1∧V.F p=0∧((V.a p=1∧V.T p≤V.y p)∨(V.a p=2∧V.T p=V.x p))
noncomputable def wV (m:Nat) (V:Zg):Nat:=ZhE (fun c=>@ite _ (Zco V c) (Classical.propDecidable _) 0 1) m
def rP (V:Zg) (p:Nat):Nat:=if V.a p=1 then 2 else 1
def dP (m:Nat) (last:Int) (p:Nat):Nat:=if last<(p:Int) then ((p:Int)-last-1).toNat else ((p:Int)+m-last-1).toNat
def ZdA (V:Zg) (c:Nat):Nat:=if V.a c=4 then 1 else (4-V.a c).toNat
def Zkn (V:Zg) (c:Nat):Nat:=if V.a c=0 then 0 else ZdA V c
def ZBG (m:Nat) (V:Zg) (c:Nat):Prop:=NE V (vic m c (V.F c))∧(V.a c=0∨(V.F c≠0∧V.x c=V.T (vic m c (V.F c))))
def OKD (m:Nat) (V:Zg) (c d:Nat):Prop:=(V.F c=0∧V.a c=4∧1≤d)∨(ZBG m V c∧ZdA V c≤d)∨(∃j,1≤j∧NE V (vic m c (V.F c+j))∧ZdA V c+4*j≤d)
def In (m:Nat) (V:Zg) (last:Int) (k:Nat):Prop:=
 (∃p,Zs2 m V p∧rP V p*m+dP m last p≤k) ∨
 ((∀p,¬Zs2 m V p)∧(∃j,j<m∧NE V j)∧∃D:Nat→Nat,(∀c,c<m→V.O c = -1→OKD m V c (D c))∧3*m+ZhE (fun c=>if V.O c = -1 then D c else 0) m≤k) ∨
 ((∀p,¬Zs2 m V p)∧(∀j,j<m→¬NE V j)∧ZhE (fun c=>if V.O c = -1 then Zkn V c else 0) m≤k)
def uV (m:Nat) (V:Zg):Nat:=ZhE (fun c=>if V.O c = -1∧¬(V.F c=0∧V.a c=4) then 1 else 0) m
def Claim (m:Nat) (V:Zg) (c:Nat):Prop:=(V.F c=0∧V.a c=1∧V.T c<V.y c)∨(V.F c=0∧V.a c=2∧V.T c=V.x c)∨(V.F c≠0∧V.a c=3∧V.T (vic m c (V.F c))=V.x c)
def Ze9 (m:Nat) (V:Zg) (c:Nat):Prop:=c<m∧V.O c = -1∧((∃j,j<m∧V.T j<V.B j)∨V.a c≠0)
structure Gen (m:Nat) (V:Zg) (c:Nat):Prop where
 F:V.F c<m
 busy:V.O c ≠ -1→V.a c=0∧V.F c=0
 a0:0≤V.a c
 a4:V.a c≤4
 a3:V.F c≠0→V.a c≤3
theorem Pos.gen {m:Nat}{V:Zg}{c:Nat} (p:Pos m V c):Gen m V c:=⟨p.F,p.busy,p.a0,p.a4,p.a3⟩
theorem Pos.ownOK {m:Nat}{V:Zg}{c:Nat} (p:Pos m V c):Zco V c:=fun h1 h2=>⟨p.o1 h1 h2,p.o2 h1,fun h=>by have:=p.o3 h1 h;omega⟩
def ZCS (m:Nat) (V:Zg) (c:Nat):Prop:=(V.F c=0∧V.a c=1∧V.T c<V.y c)∨(V.F c=0∧V.a c=4)∨(V.F c≠0∧V.a c=3∧V.T (vic m c (V.F c))=V.x c)
inductive StepC (m:Nat) (V:Zg) (c:Nat):Zg→Prop
 | own0:V.F c=0→V.a c=0→StepC m V c ((V.setB c (V.B c-1)).tk c 1 (V.x c) (V.B c-1) (V.z c))
 | take:V.F c=0→V.a c=1→V.T c<V.y c→StepC m V c (V.got c (V.R c (V.y c)))
 | last:V.F c=0→V.a c=1→V.T c=V.y c→StepC m V c (V.tk c 2 (V.T c) (V.y c) (V.z c))
 | none1:V.F c=0→V.a c=1→V.y c<V.T c→StepC m V c (V.tk c 3 (V.T c) (V.y c) (V.z c))
 | win:V.F c=0→V.a c=2→V.T c=V.x c→StepC m V c ((V.setT c (V.T c+1)).tk c 4 (V.x c) (V.y c) (V.R c (V.y c)))
 | lose:V.F c=0→V.a c=2→V.T c≠V.x c→StepC m V c (V.tk c 3 (V.x c) (V.y c) (V.z c))
 | work:V.F c=0→V.a c=4→StepC m V c ((V.setB c (V.y c+1)).got c (V.z c))
 | back:V.F c=0→V.a c=3→StepC m V c ((V.setB c (V.y c+1)).fresh c (1 % m))
 | top:V.F c≠0→V.a c=0→StepC m V c (V.tk c 1 (V.T (vic m c (V.F c))) (V.y c) (V.z c))
 | bottom:V.F c≠0→V.a c=1→V.x c<V.B (vic m c (V.F c))→StepC m V c (V.tk c 2 (V.x c) (V.B (vic m c (V.F c))) (V.z c))
 | none2:V.F c≠0→V.a c=1→V.B (vic m c (V.F c))≤V.x c→StepC m V c (V.fresh c ((V.F c+1) % m))
 | read:V.F c≠0→V.a c=2→StepC m V c (V.tk c 3 (V.x c) (V.y c) (V.R (vic m c (V.F c)) (V.x c)))
 | steal:V.F c≠0→V.a c=3→V.T (vic m c (V.F c))=V.x c→StepC m V c ((V.setT (vic m c (V.F c)) (V.T (vic m c (V.F c))+1)).got c (V.z c))
 | lost:V.F c≠0→V.a c=3→V.T (vic m c (V.F c))≠V.x c→StepC m V c (V.fresh c ((V.F c+1) % m))
theorem Zvq {m:Nat}{V:Zg}{c:Nat} (p:Gen m V c):StepC m V c (Zbz m V c):=by
 have h0:=p.a0
 have h4:=p.a4
 have h3:=p.a3
 unfold Zbz
 split
 ·rename_i hF
  split
  ·rename_i h;exact .own0 hF h
  split
  ·rename_i h
   split
   ·rename_i q;exact .take hF h q
   split
   ·rename_i q;exact .last hF h q
   ·rename_i q1 q2;exact .none1 hF h (by omega)
  split
  ·rename_i h
   split
   ·rename_i q;exact .win hF h q
   ·rename_i q;exact .lose hF h q
  split
  ·rename_i h;exact .work hF h
  ·exact .back hF (by omega)
 ·rename_i hF
  have:=h3 hF
  split
  ·rename_i h;exact .top hF h
  split
  ·rename_i h
   split
   ·rename_i q;exact .bottom hF h q
   ·rename_i q;exact .none2 hF h (by omega)
  split
  ·rename_i h;exact .read hF h
  split
  ·rename_i q;exact .steal hF (by omega) q
  ·rename_i q;exact .lost hF (by omega) q
theorem Zfp {V:Zg}{c:Nat} (h:V.F c≠0):Zco V c:=fun h1=>absurd h1 h
theorem Zi1 {V:Zg}{c:Nat} (h:V.a c=0):Zco V c:=fun _ h2=>by omega
theorem ZwN {V W:Zg}{j:Nat} (hT:W.T j=V.T j) (hB:W.B j=V.B j) (hF:W.F j=V.F j) (ha:W.a j=V.a j) (hx:W.x j=V.x j) (hy:W.y j=V.y j):(Zco W j↔Zco V j)∧BeG W j=BeG V j:=by
 have h:Zco W j↔Zco V j:=by unfold Zco;rw[hT,hB,hF,ha,hx,hy]
 refine⟨h,?_⟩
 have e:(W.F j=0∧0<W.a j∧Zco W j)↔(V.F j=0∧0<V.a j∧Zco V j):=by rw[hF,ha,h]
 unfold BeG
 by_cases hh:V.F j=0∧0<V.a j∧Zco V j
 ·rw[if_pos hh,if_pos (e.2 hh),hB]
 ·rw[if_neg hh,if_neg (fun h=>hh (e.1 h)),hB]
theorem ZdG {m:Nat}{V W:Zg}{c:Nat} (s:StepC m V c W) {i:Nat} (hi:i≠c):W.O i=V.O i∧W.F i=V.F i∧W.a i=V.a i∧W.x i=V.x i∧W.y i=V.y i∧W.B i=V.B i:=by
 cases s<;>simp[Zg.tk,Zg.got,Zg.fresh,Zg.setB,Zg.setT,upd,hi]
theorem ZuM {m:Nat}{V W:Zg}{c:Nat} (s:StepC m V c W) (hn:¬Claim m V c):W.T=V.T∧((¬Zco V c∧Zco W c)∨((Zco W c↔Zco V c)∧BeG W c=BeG V c)):=by
 cases s with
 | own0 hF ha=>
  have h1:Zco V c:=Zi1 ha
  have h2:Zco ((V.setB c (V.B c-1)).tk c 1 (V.x c) (V.B c-1) (V.z c)) c:=fun _ _=>by simp[Zg.tk,Zg.setB,upd]
  refine⟨rfl,.inr ⟨⟨fun _=>h1,fun _=>h2⟩,?_⟩⟩
  rw[ZcZ (V:=V) (by omega),Zh5 (by simpa [Zg.tk,Zg.setB] using hF) (by simp[Zg.tk,Zg.setB,upd]) h2]
  simp[Zg.tk,Zg.setB,upd]
 | take hF ha h=>exact absurd (.inl ⟨hF,ha,h⟩) hn
 | last hF ha h=>
  have e:Zco (V.tk c 2 (V.T c) (V.y c) (V.z c)) c↔Zco V c:=by
   unfold Zco
   simp[Zg.tk,upd,hF,ha,h]
  refine⟨rfl,.inr ⟨e,?_⟩⟩
  by_cases h1:Zco V c
  ·rw[Zh5 hF (by omega) h1,Zh5 (by simpa [Zg.tk] using hF) (by simp[Zg.tk,upd]) (e.2 h1)]
   rfl
  ·rw[ZcZ (fun h=>h1 h.2.2),ZcZ (fun h=>h1 (e.1 h.2.2))]
   rfl
 | none1 hF ha h=>
  have e:Zco (V.tk c 3 (V.T c) (V.y c) (V.z c)) c↔Zco V c:=by
   unfold Zco
   simp[Zg.tk,upd,hF,ha]
   omega
  refine⟨rfl,.inr ⟨e,?_⟩⟩
  by_cases h1:Zco V c
  ·rw[Zh5 hF (by omega) h1,Zh5 (by simpa [Zg.tk] using hF) (by simp[Zg.tk,upd]) (e.2 h1)]
   rfl
  ·rw[ZcZ (fun h=>h1 h.2.2),ZcZ (fun h=>h1 (e.1 h.2.2))]
   rfl
 | win hF ha h=>exact absurd (.inr (.inl ⟨hF,ha,h⟩)) hn
 | lose hF ha h=>
  refine⟨rfl,?_⟩
  by_cases h1:Zco V c
  ·right
   obtain⟨q1,q2,_⟩:=h1 hF (by omega)
   obtain⟨q2,q3⟩:=q2 ha
   have h2:Zco (V.tk c 3 (V.x c) (V.y c) (V.z c)) c:=fun _ _=>by
    simp[Zg.tk,upd]
    omega
   refine⟨⟨fun _=>h1,fun _=>h2⟩,?_⟩
   rw[Zh5 hF (by omega) h1,Zh5 (by simpa [Zg.tk] using hF) (by simp[Zg.tk,upd]) h2]
   rfl
  ·by_cases h2:Zco (V.tk c 3 (V.x c) (V.y c) (V.z c)) c
   ·exact .inl ⟨h1,h2⟩
   ·refine .inr ⟨⟨fun h=>absurd h h2,fun h=>absurd h h1⟩,?_⟩
    rw[ZcZ (fun h=>h1 h.2.2),ZcZ (fun h=>h2 h.2.2)]
    rfl
 | work hF ha=>
  refine⟨rfl,?_⟩
  have h2:Zco ((V.setB c (V.y c+1)).got c (V.z c)) c:=Zi1 (by simp[Zg.got,Zg.setB,upd])
  by_cases h1:Zco V c
  ·refine .inr ⟨⟨fun _=>h1,fun _=>h2⟩,?_⟩
   have q1:=(h1 hF (by omega)).1
   rw[Zh5 hF (by omega) h1,ZcZ (by simp[Zg.got,Zg.setB,upd])]
   simp[Zg.got,Zg.setB,upd]
   omega
  ·exact .inl ⟨h1,h2⟩
 | back hF ha=>
  refine⟨rfl,?_⟩
  have h2:Zco ((V.setB c (V.y c+1)).fresh c (1 % m)) c:=Zi1 (by simp[Zg.fresh,Zg.setB,upd])
  by_cases h1:Zco V c
  ·refine .inr ⟨⟨fun _=>h1,fun _=>h2⟩,?_⟩
   have q1:=(h1 hF (by omega)).1
   rw[Zh5 hF (by omega) h1,ZcZ (by simp[Zg.fresh,Zg.setB,upd])]
   simp[Zg.fresh,Zg.setB,upd]
   omega
  ·exact .inl ⟨h1,h2⟩
 | top hF ha=>
  refine⟨rfl,.inr ⟨⟨fun _=>Zfp hF,fun _=>Zfp (by simpa [Zg.tk] using hF)⟩,?_⟩⟩
  rw[ZcZ (fun h=>hF h.1),ZcZ (by simp[Zg.tk,hF])]
  rfl
 | bottom hF ha h=>
  refine⟨rfl,.inr ⟨⟨fun _=>Zfp hF,fun _=>Zfp (by simpa [Zg.tk] using hF)⟩,?_⟩⟩
  rw[ZcZ (fun h=>hF h.1),ZcZ (by simp[Zg.tk,hF])]
  rfl
 | none2 hF ha h=>
  refine⟨rfl,.inr ⟨⟨fun _=>Zfp hF,fun _=>Zi1 (by simp[Zg.fresh,upd])⟩,?_⟩⟩
  rw[ZcZ (fun h=>hF h.1),ZcZ (by simp[Zg.fresh,upd])]
  rfl
 | read hF ha=>
  refine⟨rfl,.inr ⟨⟨fun _=>Zfp hF,fun _=>Zfp (by simpa [Zg.tk] using hF)⟩,?_⟩⟩
  rw[ZcZ (fun h=>hF h.1),ZcZ (by simp[Zg.tk,hF])]
  rfl
 | steal hF ha h=>exact absurd (.inr (.inr ⟨hF,ha,h⟩)) hn
 | lost hF ha h=>
  refine⟨rfl,.inr ⟨⟨fun _=>Zfp hF,fun _=>Zi1 (by simp[Zg.fresh,upd])⟩,?_⟩⟩
  rw[ZcZ (fun h=>hF h.1),ZcZ (by simp[Zg.fresh,upd])]
  rfl
theorem ZAQ {m:Nat}{V W:Zg}{c:Nat} (hc:c<m) (hidle:V.O c = -1) (s:StepC m V c W) (h:Claim m V c) (hw:(V.F c=0∧V.a c=2)∨W.O c ≠ -1):uV m W+1≤uV m V:=by
 unfold uV
 refine ZlI m hc (fun i hi hne=>?_) ?_
 ·obtain⟨h1,h2,h3,_⟩:=ZdG s hne
  simp only[h1,h2,h3]
 ·have hnot:¬(V.F c=0∧V.a c=4):=by
   rintro ⟨h1,h2⟩
   rcases h with⟨_,h3,_⟩ | ⟨_,h3,_⟩ | ⟨h3,_⟩<;>omega
  have e1:(if V.O c = -1∧¬(V.F c=0∧V.a c=4) then 1 else 0)=1:=if_pos ⟨hidle,hnot⟩
  rw[e1]
  rcases hw with⟨h1,h2⟩ | h1
  ·have:W.F c=0∧W.a c=4:=by
    cases s<;>simp_all [Zg.tk,Zg.setT,upd,Claim]
   rw[if_neg fun hh=>hh.2 this]
   exact Nat.le_refl _
  ·rw[if_neg fun hh=>h1 hh.1]
   exact Nat.le_refl _
theorem ZAH {m:Nat}{V W:Zg}{c:Nat} (hc:c<m) (hidle:V.O c = -1) (s:StepC m V c W) (hn:¬Claim m V c) (hz:V.F c=0→V.a c=4→W.O c ≠ -1):uV m W=uV m V:=by
 unfold uV
 refine ZmF m fun i hi=>?_
 by_cases e:i=c
 ·subst e
  cases s with
  | take hF ha h=>exact absurd (.inl ⟨hF,ha,h⟩) hn
  | win hF ha h=>exact absurd (.inr (.inl ⟨hF,ha,h⟩)) hn
  | steal hF ha h=>exact absurd (.inr (.inr ⟨hF,ha,h⟩)) hn
  | work hF ha=>
   have:=hz hF ha
   simp only[hF,ha,if_neg (fun h:_∧_=>this h.1)]
   simp
  | _=>simp_all [Zg.tk,Zg.got,Zg.fresh,Zg.setB,Zg.setT,upd]
 ·obtain⟨h1,h2,h3,_⟩:=ZdG s e
  simp only[h1,h2,h3]
theorem ZwD (m c f j:Nat):vic m c (f % m+j)=vic m c (f+j):=by
 unfold vic
 rw[show c+(f % m+j)=f % m+(c+j) by omega,Nat.mod_add_mod,show f+(c+j)=c+(f+j) by omega]
theorem Zxi {m:Nat}{V W:Zg}{i d:Nat} (hT:W.T=V.T) (hbe:∀j,BeG W j=BeG V j) (hF:W.F i=V.F i) (ha:W.a i=V.a i) (hx:W.x i=V.x i) (h:OKD m V i d):OKD m W i d:=by
 unfold OKD ZBG NE ZdA at *
 simp only[hT,hbe,hF,ha,hx]
 exact h
theorem ZAI {m:Nat}{V:Zg}{c d:Nat} (p:Gen m V c) (h:OKD m V c d):1≤d:=by
 have h0:=p.a0
 have h4:=p.a4
 rcases h with⟨_,_,h⟩ | ⟨_,h⟩ | ⟨j,h1,_,h⟩
 ·exact h
 ·unfold ZdA at h;split at h<;>omega
 ·omega
theorem ZoC {m:Nat}{V W:Zg}{c d:Nat} (hT:W.T=V.T) (hbe:∀j,BeG W j=BeG V j) (hF:W.F c=(V.F c+1) % m) (ha:W.a c=0) (r:1≤ZdA V c) (h:∃j,1≤j∧NE V (vic m c (V.F c+j))∧ZdA V c+4*j≤d):OKD m W c (d-1):=by
 obtain⟨j,h1,h2,h3⟩:=h
 have ne:∀i,NE W i↔NE V i:=fun i=>by unfold NE;rw[hT,hbe]
 have r4:ZdA W c=4:=by unfold ZdA;rw[if_neg (by omega),ha];rfl
 by_cases e:j=1
 ·subst e
  refine .inr (.inl ⟨?_,by omega⟩)
  refine⟨(ne _).2 ?_,.inl ha⟩
  rw[hF]
  have:=ZwD m c (V.F c+1) 0
  rw[Nat.add_zero,Nat.add_zero] at this
  rw[this]
  exact h2
 ·refine .inr (.inr ⟨j-1,by omega,(ne _).2 ?_,by omega⟩)
  rw[hF,ZwD,show V.F c+1+(j-1)=V.F c+j by omega]
  exact h2
theorem In.step {m:Nat}{V:Zg}{c k:Nat}{last:Int} (G:∀i,i<m→Gen m V i) (hgot:ZCS m V c→(Zbz m V c).O c ≠ -1) (hw:Ze9 m V c) (hnext:∀p,Ze9 m V p→p≠c→dP m (c:Int) p<dP m last p) (h:In m V last k) :
  uV m (Zbz m V c)+1≤uV m V∨(uV m (Zbz m V c)=uV m V∧wV m (Zbz m V c)+1≤wV m V)∨(uV m (Zbz m V c)=uV m V∧wV m (Zbz m V c)=wV m V∧1≤k∧In m (Zbz m V c) (c:Int) (k-1)):=by
 obtain⟨hc,hidle,hwant⟩:=hw
 have p:=G c hc
 have s:=Zvq p
 generalize hWW:Zbz m V c=W at s hgot
 have hm:0<m:=by omega
 have hF':=p.F
 by_cases hcl:Claim m V c
 ·left
  have hO:(V.F c=0∧V.a c=2)∨W.O c ≠ -1:=by
   rcases hcl with⟨h1,h2,h3⟩ | ⟨h1,h2,h3⟩ | ⟨h1,h2,h3⟩
   ·exact .inr (hgot (.inl ⟨h1,h2,h3⟩))
   ·exact .inl ⟨h1,h2⟩
   ·exact .inr (hgot (.inr (.inr ⟨h1,h2,h3⟩)))
  exact ZAQ hc hidle s hcl hO
 ·right
  obtain⟨hT,hq⟩:=ZuM s hcl
  have hz:V.F c=0→V.a c=4→W.O c ≠ -1:=fun h1 h2=>hgot (.inr (.inl ⟨h1,h2⟩))
  have hu:=ZAH hc hidle s hcl hz
  have oth:∀i,i≠c→(Zco W i↔Zco V i)∧BeG W i=BeG V i:=fun i hi=>by
   obtain⟨_,h2,h3,h4,h5,h6⟩:=ZdG s hi
   exact ZwN (by rw[hT]) h6 h2 h3 h4 h5
  rcases hq with⟨q1,q2⟩ | ⟨q1,q2⟩
  ·left
   refine⟨hu,?_⟩
   unfold wV
   refine ZlI m hc (fun i hi hne=>?_) ?_
   ·by_cases h:Zco V i
    ·rw[if_pos h,if_pos ((oth i hne).1.2 h)]
    ·rw[if_neg h,if_neg (fun h2=>h ((oth i hne).1.1 h2))]
   ·rw[if_pos q2,if_neg q1]
    exact Nat.le_refl _
  right
  have hbe:∀j,BeG W j=BeG V j:=fun j=>by
   by_cases e:j=c
   ·rw[e];exact q2
   ·exact(oth j e).2
  have hwv:wV m W=wV m V:=by
   unfold wV
   refine ZmF m fun i hi=>?_
   by_cases e:i=c
   ·subst e
    by_cases h:Zco V i
    ·rw[if_pos h,if_pos (q1.2 h)]
    ·rw[if_neg h,if_neg (fun h2=>h (q1.1 h2))]
   ·by_cases h:Zco V i
    ·rw[if_pos h,if_pos ((oth i e).1.2 h)]
    ·rw[if_neg h,if_neg (fun h2=>h ((oth i e).1.1 h2))]
  have ne:∀i,NE W i↔NE V i:=fun i=>by unfold NE;rw[hT,hbe]
  have pend:∀q,q≠c→(Zs2 m W q↔Zs2 m V q):=fun q hq=>by
   obtain⟨h1,h2,h3,h4,h5,_⟩:=ZdG s hq
   unfold Zs2
   rw[h1,h2,h3,h4,h5,hT]
  refine⟨hu,hwv,?_⟩
  have dcc:dP m (c:Int) c=m-1:=by unfold dP;rw[if_neg (by omega)];omega
  rcases h with⟨q,hq,hk⟩ | ⟨np,hne,D,hD,hk⟩ | ⟨np,nn,hk⟩
  ·
   by_cases e:q=c
   ·subst e
    obtain⟨_,_,h1,h2⟩:=hq
    rcases h2 with⟨h2,h3⟩ | ⟨h2,h3⟩
    ·have hTy:V.T q=V.y q:=by
      by_cases hlt:V.T q<V.y q
      ·exact absurd (.inl ⟨h1,h2,hlt⟩) hcl
      ·omega
     have r2:rP V q=2:=by unfold rP;rw[if_pos h2]
     rw[r2] at hk
     have hW:W.O q = -1∧W.F q=0∧W.a q=2∧W.T q=W.x q:=by cases s<;>simp_all [Zg.tk,Zg.got,Zg.fresh,Zg.setB,Zg.setT,upd]<;>omega
     refine⟨by omega,.inl ⟨q,⟨hc,hW.1,hW.2.1,.inr ⟨hW.2.2.1,hW.2.2.2⟩⟩,?_⟩⟩
     have:rP W q=1:=by unfold rP;rw[if_neg (by omega)]
     rw[this,dcc]
     omega
    ·exact absurd (.inr (.inl ⟨h1,h2,h3⟩)) hcl
   ·have hd:=hnext q ⟨hq.1,hq.2.1,.inr (by rcases hq.2.2.2 with h | h<;>omega)⟩ e
    have hr:rP W q=rP V q:=by unfold rP;rw[(ZdG s e).2.2.1]
    refine⟨by omega,.inl ⟨q,(pend q e).2 hq,?_⟩⟩
    rw[hr]
    omega
  ·
   by_cases hpc:Zs2 m W c
   ·refine⟨by omega,.inl ⟨c,hpc,?_⟩⟩
    have:rP W c≤2:=by unfold rP;split<;>omega
    have h2:rP W c*m≤2*m:=Nat.mul_le_mul_right m this
    rw[dcc]
    omega
   ·have okc:=hD c hc hidle
    have d1:=ZAI p okc
    have okW:W.O c = -1→OKD m W c (D c-1):=fun hO=>by
     have v0:V.F c=0→vic m c (V.F c)=c:=fun h=>by rw[h];exact Zt1 hc
     cases s with
     | own0 hF ha=>
      have nc:¬NE V c:=fun hh=>hpc ⟨hc,hidle,by simpa [Zg.tk,Zg.setB] using hF,.inl (by
       unfold NE at hh
       rw[ZcZ (by omega)] at hh
       simp[Zg.tk,Zg.setB,upd]
       omega)⟩
      rcases okc with⟨_,h4,_⟩ | ⟨⟨hg,_⟩,_⟩ | ⟨j,h1,h2,h3⟩
      ·omega
      ·rw[v0 hF] at hg;exact absurd hg nc
      ·refine .inr (.inr ⟨j,h1,(ne _).2 h2,?_⟩)
       have e1:ZdA V c=4:=by unfold ZdA;rw[if_neg (by omega),ha];rfl
       have e2:ZdA ((V.setB c (V.B c-1)).tk c 1 (V.x c) (V.B c-1) (V.z c)) c=3:=by unfold ZdA;simp[Zg.tk,upd]
       omega
     | take hF ha hlt=>exact absurd (.inl ⟨hF,ha,hlt⟩) hcl
     | last hF ha heq=>
      exact absurd ⟨hc,hidle,hF,.inl ⟨ha,by omega⟩⟩ (np c)
     | none1 hF ha hlt=>
      rcases okc with⟨_,h4,_⟩ | ⟨⟨_,hg⟩,_⟩ | ⟨j,h1,h2,h3⟩
      ·omega
      ·rcases hg with hg | ⟨hg,_⟩
       ·omega
       ·exact absurd hF hg
      ·refine .inr (.inr ⟨j,h1,(ne _).2 h2,?_⟩)
       have e1:ZdA V c=3:=by unfold ZdA;rw[if_neg (by omega),ha];rfl
       have e2:ZdA (V.tk c 3 (V.T c) (V.y c) (V.z c)) c=1:=by unfold ZdA;simp[Zg.tk,upd]
       omega
     | win hF ha heq=>exact absurd (.inr (.inl ⟨hF,ha,heq⟩)) hcl
     | lose hF ha hne2=>
      rcases okc with⟨_,h4,_⟩ | ⟨⟨_,hg⟩,_⟩ | ⟨j,h1,h2,h3⟩
      ·omega
      ·rcases hg with hg | ⟨hg,_⟩
       ·omega
       ·exact absurd hF hg
      ·refine .inr (.inr ⟨j,h1,(ne _).2 h2,?_⟩)
       have e1:ZdA V c=2:=by unfold ZdA;rw[if_neg (by omega),ha];rfl
       have e2:ZdA (V.tk c 3 (V.x c) (V.y c) (V.z c)) c=1:=by unfold ZdA;simp[Zg.tk,upd]
       omega
     | work hF ha=>
      exact absurd hO (hz hF ha)
     | back hF ha=>
      rcases okc with⟨_,h4,_⟩ | ⟨⟨_,hg⟩,_⟩ | hj
      ·omega
      ·rcases hg with hg | ⟨hg,_⟩
       ·omega
       ·exact absurd hF hg
      ·exact ZoC hT hbe (by simp[Zg.fresh,Zg.setB,upd,hF]) (by simp[Zg.fresh,Zg.setB,upd]) (by unfold ZdA;split<;>omega) hj
     | top hF ha=>
      have e1:ZdA V c=4:=by unfold ZdA;rw[if_neg (by omega),ha];rfl
      have e2:ZdA (V.tk c 1 (V.T (vic m c (V.F c))) (V.y c) (V.z c)) c=3:=by unfold ZdA;simp[Zg.tk,upd]
      rcases okc with⟨h4,_,_⟩ | ⟨⟨hg,_⟩,hr⟩ | ⟨j,h1,h2,h3⟩
      ·exact absurd h4 hF
      ·exact .inr (.inl ⟨⟨(ne _).2 hg,.inr ⟨hF,by simp[Zg.tk,upd]⟩⟩,by omega⟩)
      ·exact .inr (.inr ⟨j,h1,(ne _).2 h2,by omega⟩)
     | bottom hF ha hlt=>
      have e1:ZdA V c=3:=by unfold ZdA;rw[if_neg (by omega),ha];rfl
      have e2:ZdA (V.tk c 2 (V.x c) (V.B (vic m c (V.F c))) (V.z c)) c=2:=by unfold ZdA;simp[Zg.tk,upd]
      rcases okc with⟨h4,_,_⟩ | ⟨⟨hg,hx⟩,hr⟩ | ⟨j,h1,h2,h3⟩
      ·exact absurd h4 hF
      ·refine .inr (.inl ⟨⟨(ne _).2 hg,.inr ⟨hF,?_⟩⟩,by omega⟩)
       rcases hx with hx | ⟨_,hx⟩
       ·omega
       ·simpa [Zg.tk,upd] using hx
      ·exact .inr (.inr ⟨j,h1,(ne _).2 h2,by omega⟩)
     | none2 hF ha hle=>
      rcases okc with⟨h4,_,_⟩ | ⟨⟨hg,hx⟩,hr⟩ | hj
      ·exact absurd h4 hF
      ·exfalso
       rcases hx with hx | ⟨_,hx⟩
       ·omega
       ·have hv:=Zqc hm c (V.F c)
        have pv:=G _ hv
        generalize vic m c (V.F c)=v at *
        unfold NE at hg
        by_cases ho:V.F v=0∧0<V.a v∧Zco V v
        ·rw[Zh5 ho.1 ho.2.1 ho.2.2] at hg
         obtain⟨q1,q2,q3⟩:=ho.2.2 ho.1 ho.2.1
         have hi:V.O v = -1:=Classical.byContradiction fun hi=>by have:=(pv.busy hi).1;omega
         have a4:=pv.a4
         by_cases h1:V.a v=1
         ·exact np v ⟨hv,hi,ho.1,.inl ⟨h1,by omega⟩⟩
         ·by_cases h2:V.a v=2
          ·have:=q2 h2
           exact np v ⟨hv,hi,ho.1,.inr ⟨h2,by omega⟩⟩
          ·have:=q3 (by omega)
           omega
        ·rw[ZcZ ho] at hg
         omega
      ·exact ZoC hT hbe (by simp[Zg.fresh,upd]) (by simp[Zg.fresh,upd]) (by unfold ZdA;split<;>omega) hj
     | read hF ha=>
      have e1:ZdA V c=2:=by unfold ZdA;rw[if_neg (by omega),ha];rfl
      have e2:ZdA (V.tk c 3 (V.x c) (V.y c) (V.R (vic m c (V.F c)) (V.x c))) c=1:=by unfold ZdA;simp[Zg.tk,upd]
      rcases okc with⟨h4,_,_⟩ | ⟨⟨hg,hx⟩,hr⟩ | ⟨j,h1,h2,h3⟩
      ·exact absurd h4 hF
      ·refine .inr (.inl ⟨⟨(ne _).2 hg,.inr ⟨hF,?_⟩⟩,by omega⟩)
       rcases hx with hx | ⟨_,hx⟩
       ·omega
       ·simpa [Zg.tk,upd] using hx
      ·exact .inr (.inr ⟨j,h1,(ne _).2 h2,by omega⟩)
     | steal hF ha heq=>exact absurd (.inr (.inr ⟨hF,ha,heq⟩)) hcl
     | lost hF ha hne2=>
      rcases okc with⟨h4,_,_⟩ | ⟨⟨hg,hx⟩,hr⟩ | hj
      ·exact absurd h4 hF
      ·exfalso
       rcases hx with hx | ⟨_,hx⟩
       ·omega
       ·exact hne2 hx.symm
      ·exact ZoC hT hbe (by simp[Zg.fresh,upd]) (by simp[Zg.fresh,upd]) (by unfold ZdA;split<;>omega) hj
    have dec:=ZlI (f:=fun i=>if W.O i = -1 then upd D c (D c-1) i else 0) (h:=fun i=>if V.O i = -1 then D i else 0) (c:=c) m hc (fun i hi hne2=>by
     simp only[(ZdG s hne2).1,Ztf D _ hne2]) (by
     simp only[Za4]
     rw[if_pos hidle]
     split<;>omega)
    refine⟨by omega,.inr (.inl ⟨fun q hq=>?_,?_,upd D c (D c-1),fun i hi ho=>?_,by omega⟩)⟩
    ·by_cases e:q=c
     ·rw[e] at hq;exact hpc hq
     ·exact np q ((pend q e).1 hq)
    ·obtain⟨j,h1,h2⟩:=hne
     exact⟨j,h1,(ne j).2 h2⟩
    ·by_cases e:i=c
     ·rw[e,Za4]
      rw[e] at ho
      exact okW ho
     ·obtain⟨h1,h2,h3,h4,_⟩:=ZdG s e
      rw[Ztf D _ e]
      rw[h1] at ho
      exact Zxi hT hbe h2 h3 h4 (hD i hi ho)
  ·
   have ha0:V.a c≠0:=by
    rcases hwant with⟨j,h1,h2⟩ | h
    ·exfalso
     have:=ZHO V j
     exact nn j h1 (by unfold NE;omega)
    ·exact h
   have dec:=ZlI (f:=fun i=>if W.O i = -1 then Zkn W i else 0) (h:=fun i=>if V.O i = -1 then Zkn V i else 0) (c:=c) m hc (fun i hi hne2=>by
    obtain⟨h1,h2,h3,_⟩:=ZdG s hne2
    simp only[Zkn,ZdA,h1,h3]) (by
    show(if W.O c = -1 then Zkn W c else 0)+1≤(if V.O c = -1 then Zkn V c else 0)
    have e1:(if V.O c = -1 then Zkn V c else 0)=Zkn V c:=if_pos hidle
    rw[e1]
    cases s with
    | own0 hF ha=>exact absurd ha ha0
    | take hF ha hlt=>exact absurd (.inl ⟨hF,ha,hlt⟩) hcl
    | last hF ha heq=>
     exact absurd ⟨hc,hidle,hF,.inl ⟨ha,by omega⟩⟩ (np c)
    | none1 hF ha hlt=>simp[Zkn,ZdA,Zg.tk,upd,ha,hidle]
    | win hF ha heq=>exact absurd (.inr (.inl ⟨hF,ha,heq⟩)) hcl
    | lose hF ha hne2=>simp[Zkn,ZdA,Zg.tk,upd,ha,hidle]
    | work hF ha=>
     rw[if_neg (hz hF ha)]
     simp[Zkn,ZdA,ha]
    | back hF ha=>simp[Zkn,ZdA,Zg.fresh,Zg.setB,upd,ha,hidle]
    | top hF ha=>exact absurd ha ha0
    | bottom hF ha hlt=>simp[Zkn,ZdA,Zg.tk,upd,ha,hidle]
    | none2 hF ha hle=>simp[Zkn,ZdA,Zg.fresh,upd,ha,hidle]
    | read hF ha=>simp[Zkn,ZdA,Zg.tk,upd,ha,hidle]
    | steal hF ha heq=>exact absurd (.inr (.inr ⟨hF,ha,heq⟩)) hcl
    | lost hF ha hne2=>simp[Zkn,ZdA,Zg.fresh,upd,ha,hidle])
   refine⟨by omega,.inr (.inr ⟨fun q hq=>?_,fun j hj=>by rw[ne];exact nn j hj,by omega⟩)⟩
   by_cases e:q=c
   ·subst e
    obtain⟨_,_,h1,h2⟩:=hq
    cases s with
    | own0 hF ha=>exact ha0 ha
    | take hF ha hlt=>exact hcl (.inl ⟨hF,ha,hlt⟩)
    | last hF ha heq=>exact np q ⟨hc,hidle,hF,.inl ⟨ha,by omega⟩⟩
    | win hF ha heq=>exact hcl (.inr (.inl ⟨hF,ha,heq⟩))
    | steal hF ha heq=>exact hcl (.inr (.inr ⟨hF,ha,heq⟩))
    | _=>simp_all [Zg.tk,Zg.got,Zg.fresh,Zg.setB,Zg.setT,upd]
   ·exact np q ((pend q e).1 hq)
def mi (m u:Nat):Nat:=3*m+u*(4*m+4)+(m-u)
def Gm (m:Nat):Nat→Nat
  | 0=>0
  | u+1=>Gm m u+mi m u+1
theorem ZvY (m:Nat):∀{a b:Nat},a≤b→Gm m a≤Gm m b
  | a, 0, h => by have : a = 0 := by omega
                  subst this;exact Nat.le_refl _
  | a,b+1,h=>by
    by_cases e:a=b+1
    · subst e;exact Nat.le_refl _
    · have:=ZvY m (show a≤b by omega)
      show _≤Gm m b+mi m b+1
      omega
theorem ZsC {m a b:Nat} (h:a≤b) (hb:b≤m):mi m a≤mi m b:=by
  unfold mi
  obtain⟨d,rfl⟩:∃d,b=a+d:=⟨b-a,by omega⟩
  rw[Nat.add_mul]
  have:d≤d*(4*m+4):=Nat.le_mul_of_pos_right d (by omega)
  omega
theorem ZCt (m:Nat) (V:Zg):uV m V≤m:=(Znp (a:=0) (b:=0) (p:=fun c=>V.O c = -1∧¬(V.F c=0∧V.a c=4)) (fun _=>Classical.propDecidable _) (f:=fun _=>0) (h:=fun c=>if V.O c = -1∧¬(V.F c=0∧V.a c=4) then 1 else 0) m fun i _=>⟨fun h=>⟨Nat.le_refl _,if_pos h⟩,fun h=>⟨Nat.le_refl _,if_neg h⟩⟩).2
theorem ZtO (m:Nat) (last:Int) (p:Nat):(last<(p:Int)∧dP m last p=((p:Int)-last-1).toNat)∨((p:Int)≤last∧dP m last p=((p:Int)+m-last-1).toNat):=by
  unfold dP
  by_cases h:last<(p:Int)
  · rw[if_pos h];exact .inl ⟨h,rfl⟩
  · rw[if_neg h];exact .inr ⟨by omega,rfl⟩
theorem ZFi {m:Nat}{last:Int} (hl : -1≤last∧last<m) {p:Nat} (hp:p<m):dP m last p+1≤m:=by
  unfold dP
  split<;>omega
theorem ZBg {m c f j:Nat} (hc:c<m) (hf:f<m) (hj:j<m):∃i,1≤i∧i≤m∧vic m c (f+i)=j:=by
  have h0:(c+f) % m<m:=Nat.mod_lt _ (by omega)
  refine⟨if j≤(c+f) % m then j+m-(c+f) % m else j-(c+f) % m,?_,?_,?_⟩
  · split<;>omega
  · split<;>omega
  · unfold vic
    rw[← Nat.add_assoc,Nat.add_mod]
    split
    · rename_i h
      by_cases e:j=(c+f) % m
      · rw[show j+m-(c+f) % m=m by omega,Nat.mod_self,Nat.add_zero,Nat.mod_mod]
        exact e.symm
      · rw[Nat.mod_eq_of_lt (show j+m-(c+f) % m<m by omega),show(c+f) % m+(j+m-(c+f) % m)=j+m by omega,Nat.add_mod_right,Nat.mod_eq_of_lt hj]
    · rename_i h
      rw[Nat.mod_eq_of_lt (show j-(c+f) % m<m by omega),show(c+f) % m+(j-(c+f) % m)=j by omega,Nat.mod_eq_of_lt hj]
theorem In.start {m:Nat}{V:Zg}{last:Int} (G:∀i,i<m→Gen m V i) (hl : -1≤last∧last<m):In m V last (mi m (uV m V)):=by
  have hu:=ZCt m V
  by_cases hp:∃p,Zs2 m V p
  · obtain⟨p,hp⟩:=hp
    refine .inl ⟨p,hp,?_⟩
    have h1:=ZFi hl hp.1
    have h2:rP V p≤2:=by unfold rP;split<;>omega
    have h3:rP V p*m≤2*m:=Nat.mul_le_mul_right m h2
    unfold mi
    omega
  · have np:∀p,¬Zs2 m V p:=fun p h=>hp ⟨p,h⟩
    by_cases hn:∃j,j<m∧NE V j
    · obtain⟨j,hj,hne⟩:=hn
      refine .inr (.inl ⟨np,⟨j,hj,hne⟩,fun c=>if V.F c=0∧V.a c=4 then 1 else 4*m+4,fun c hc ho=>?_,?_⟩)
      · have p:=G c hc
        by_cases h4:V.F c=0∧V.a c=4
        · simp only[if_pos h4]
          exact .inl ⟨h4.1,h4.2,Nat.le_refl _⟩
        · simp only[if_neg h4]
          obtain⟨i,h1,h2,h3⟩:=ZBg hc p.F hj
          refine .inr (.inr ⟨i,h1,by rw[h3];exact hne,?_⟩)
          have:ZdA V c≤4:=by
            have:=p.a0
            unfold ZdA
            split<;>omega
          omega
      · have:=(Znp (a:=4*m+4) (b:=1) (p:=fun i=>V.O i = -1∧¬(V.F i=0∧V.a i=4)) (fun _=>Classical.propDecidable _) (f:=fun c=>if V.O c = -1 then (if V.F c=0∧V.a c=4 then 1 else 4*m+4) else 0) (h:=fun c=>if V.O c = -1∧¬(V.F c=0∧V.a c=4) then 1 else 0) m fun i _=>by
          constructor
          · rintro ⟨h1,h2⟩
            simp only[if_pos h1,if_neg h2,h1,h2,not_false_iff,and_self,if_true]
            exact⟨Nat.le_refl _,trivial⟩
          · intro h
            simp only[if_neg h]
            refine⟨?_,trivial⟩
            by_cases h1:V.O i = -1
            · have h2:V.F i=0∧V.a i=4:=Classical.byContradiction fun h2=>h ⟨h1,h2⟩
              simp only[if_pos h1,if_pos h2]
              exact Nat.le_refl _
            · simp only[if_neg h1]
              omega).1
        have this:ZhE (fun c=>if V.O c = -1 then (if V.F c=0∧V.a c=4 then 1 else 4*m+4) else 0) m≤uV m V*(4*m+4)+(m-uV m V)*1:=this
        show 3*m+ZhE (fun c=>if V.O c = -1 then (if V.F c=0∧V.a c=4 then 1 else 4*m+4) else 0) m≤mi m (uV m V)
        unfold mi
        omega
    · refine .inr (.inr ⟨np,fun j hj hne=>hn ⟨j,hj,hne⟩,?_⟩)
      have:=(Znp (a:=4) (b:=1) (p:=fun i=>V.O i = -1∧¬(V.F i=0∧V.a i=4)) (fun _=>Classical.propDecidable _) (f:=fun c=>if V.O c = -1 then Zkn V c else 0) (h:=fun c=>if V.O c = -1∧¬(V.F c=0∧V.a c=4) then 1 else 0) m fun i hi=>by
        have p:=G i hi
        have h0:=p.a0
        constructor
        · rintro ⟨h1,h2⟩
          simp only[if_pos h1,h1,h2,not_false_iff,and_self,if_true]
          refine⟨?_,trivial⟩
          unfold Zkn ZdA
          split
          · omega
          · split<;>omega
        · intro h
          simp only[if_neg h]
          refine⟨?_,trivial⟩
          by_cases h1:V.O i = -1
          · have h2:V.F i=0∧V.a i=4:=Classical.byContradiction fun h2=>h ⟨h1,h2⟩
            simp only[if_pos h1]
            unfold Zkn ZdA
            rw[if_neg (by omega),if_pos h2.2]
            exact Nat.le_refl _
          · simp only[if_neg h1]
            omega).1
      have h4:uV m V*4≤uV m V*(4*m+4):=Nat.mul_le_mul (Nat.le_refl _) (by omega)
      have this:ZhE (fun c=>if V.O c = -1 then Zkn V c else 0) m≤uV m V*4+(m-uV m V)*1:=this
      unfold mi
      omega
def Next (m:Nat) (V:Zg) (last:Int) (c:Nat):Prop:=Ze9 m V c∧((last<(c:Int)∧∀p,Ze9 m V p→last<(p:Int)→c≤p)∨((∀p,Ze9 m V p→(p:Int)≤last)∧∀p,Ze9 m V p→c≤p))
theorem Next.near {m:Nat}{V:Zg}{last:Int}{c:Nat} (h:Next m V last c) (hl : -1≤last∧last<m):∀p,Ze9 m V p→p≠c→dP m (c:Int) p<dP m last p:=fun p hp hne=>by
  obtain⟨hw,h⟩:=h
  have hc:=hw.1
  have hpm:=hp.1
  have e1:=ZtO m (c:Int) p
  have e2:=ZtO m last p
  rcases h with⟨h1,h2⟩ | ⟨h1,h2⟩
  · by_cases h3:last<(p:Int)
    · have:=h2 p hp h3
      rcases e1 with e1 | e1<;>rcases e2 with e2 | e2<;>omega
    · rcases e1 with e1 | e1<;>rcases e2 with e2 | e2<;>omega
  · have:=h1 p hp
    have:=h2 p hp
    rcases e1 with e1 | e1<;>rcases e2 with e2 | e2<;>omega
theorem Inv.gen {m:Nat}{base:Int→Prop}{V:Zg} (I:Inv m base V):∀i,i<m→Gen m V i:=fun i hi=>(I.pos i hi).gen
theorem ZrW:∀{f:Nat→Nat} (n:Nat),(∀i,i<n→f i=0)→ZhE f n=0
  | _,0,_=>rfl
  | f,n+1,h=>by
    unfold ZhE
    rw[ZrW n fun i hi=>h i (by omega),h n (by omega)]
theorem Inv.w {m:Nat}{base:Int→Prop}{V:Zg} (I:Inv m base V):wV m V=0:=by
  unfold wV
  exact ZrW m fun i hi=>if_pos (I.pos i hi).ownOK
theorem Inv.gets {m:Nat}{base:Int→Prop}{V:Zg} (I:Inv m base V) (hb:∀n,base n→n ≠ -1) {c:Nat} (hc:c<m) (hidle:V.O c = -1) (h:ZCS m V c):(Zbz m V c).O c ≠ -1:=by
  have p:=I.pos c hc
  have hm:0<m:=by omega
  rcases h with⟨h1,h2,h3⟩ | ⟨h1,h2⟩ | ⟨h1,h2,h3⟩
  · have hy:=p.o1 h1 (by omega)
    have it:Item m V c (V.y c):=⟨hc,by unfold Zg.lo;rw[if_neg (by omega)];omega,by unfold Zg.be;rw[if_pos ⟨h1,by omega⟩];omega⟩
    have:=hb _ (I.items.rdy c _ it).1
    simpa [Zbz,h1,h2,h3,Zg.got,upd] using this
  · have hB:=p.o3 h1 (.inr h2)
    have it:Item m V c (V.B c):=⟨hc,by unfold Zg.lo;rw[if_pos ⟨h1,h2⟩];omega,by unfold Zg.be;rw[if_pos ⟨h1,by omega⟩];omega⟩
    have:=hb _ (I.items.rdy c _ it).1
    rw[← p.o4 h1 h2] at this
    simpa [Zbz,h1,h2,Zg.got,Zg.setB,upd] using this
  · have it:Item m V (vic m c (V.F c)) (V.x c):=⟨Zqc hm _ _,by unfold Zg.lo;split<;>omega,by
      have:=p.t2 h1 (by omega) h3.symm
      omega⟩
    have:=hb _ (I.items.rdy _ _ it).1
    rw[← p.t3 h1 h2] at this
    simpa [Zbz,h1,h2,h3,Zg.got,Zg.setT,upd] using this
theorem ZAt {m L:Nat}{base:Int→Prop} (hb:∀n,base n→n ≠ -1) (ch:Zg→Int→Nat→Nat)
    (hch:∀V last s,Inv m base V→(∃c,Ze9 m V c)→Ze9 m V (ch V last s)∧(L≤s→Next m V last (ch V last s)))
    (Q:Nat→Nat→Zg→Int→Prop) (mono:∀n k s V l,n≤k→Q n s V l→Q k s V l)
    (h0:∀n s V l,Inv m base V→(∀c,¬Ze9 m V c)→Q n s V l)
    (h1:∀n s V l,Inv m base V→Ze9 m V (ch V l s)→Q n (s+1) (Zbz m V (ch V l s)) (ch V l s:Int)→Q (n+1) s V l) :
    ∀s V l,Inv m base V→(-1≤l∧l<(m:Int))→Q ((L-s)+(Gm m m+mi m m)) s V l:=by
  have one:∀{s V l c k},L≤s→Inv m base V→(-1≤l∧l<(m:Int))→Ze9 m V c→Next m V l c→In m V l k→uV m (Zbz m V c)+1≤uV m V∨(uV m (Zbz m V c)=uV m V∧1≤k∧In m (Zbz m V c) (c:Int) (k-1)):=fun {s V l c k} hs I hl hw nx hin=>by
    have I':=(I.step hb hw.1 hw.2.1).1
    rcases In.step I.gen (I.gets hb hw.1 hw.2.1) hw (nx.near hl) hin with h | ⟨_,h⟩ | ⟨h,_,h2,h3⟩
    · exact .inl h
    · rw[I.w] at h;omega
    · exact .inr ⟨h,h2,h3⟩
  have late:∀U k s V l,L≤s→Inv m base V→(-1≤l∧l<(m:Int))→uV m V≤U→In m V l k→Q (Gm m U+k) s V l:=by
    intro U
    induction U with
    | zero=>
      intro k
      induction k with
      | zero=>
        intro s V l hs I hl hu hin
        by_cases hw:∃c,Ze9 m V c
        · obtain⟨w1,w2⟩:=hch V l s I hw
          rcases one hs I hl w1 (w2 hs) hin with h | ⟨_,h,_⟩<;>omega
        · exact h0 _ s V l I fun c hc=>hw ⟨c,hc⟩
      | succ k ih=>
        intro s V l hs I hl hu hin
        by_cases hw:∃c,Ze9 m V c
        · obtain⟨w1,w2⟩:=hch V l s I hw
          rcases one hs I hl w1 (w2 hs) hin with h | ⟨h,_,h2⟩
          · omega
          · have:=w1.1
            exact h1 _ s V l I w1 (ih (s+1) _ _ (by omega) (I.step hb w1.1 w1.2.1).1 (by omega) (by omega) h2)
        · exact h0 _ s V l I fun c hc=>hw ⟨c,hc⟩
    | succ U ihU=>
      intro k
      have down:∀s V l c,L≤s→Inv m base V→Ze9 m V c→ch V l s=c→uV m (Zbz m V c)≤U→∀k,Q (Gm m (U+1)+k) s V l:=fun s V l c hs I hw hcc hu k=>by
        subst hcc
        have I':=(I.step hb hw.1 hw.2.1).1
        have hc:=hw.1
        have hl' : -1≤((ch V l s:Nat):Int)∧((ch V l s:Nat):Int)<(m:Int):=by omega
        have q:=ihU _ (s+1) _ _ (by omega) I' hl' hu (In.start I'.gen hl')
        refine mono (Gm m U+mi m (uV m (Zbz m V (ch V l s)))+1) _ s V l ?_ (h1 _ s V l I hw q)
        have hum:=ZCt m (Zbz m V (ch V l s))
        have e:Gm m (U+1)=Gm m U+mi m U+1:=rfl
        by_cases hU:U≤m
        · have:=ZsC (m:=m) hu hU
          omega
        · have h5:=ZsC (m:=m) hum (Nat.le_refl m)
          have h6:mi m m≤mi m U:=by
            unfold mi
            have:m*(4*m+4)≤U*(4*m+4):=Nat.mul_le_mul_right _ (by omega)
            omega
          omega
      induction k with
      | zero=>
        intro s V l hs I hl hu hin
        by_cases hw:∃c,Ze9 m V c
        · obtain⟨w1,w2⟩:=hch V l s I hw
          rcases one hs I hl w1 (w2 hs) hin with h | ⟨_,h,_⟩
          · exact down s V l _ hs I w1 rfl (by omega) 0
          · omega
        · exact h0 _ s V l I fun c hc=>hw ⟨c,hc⟩
      | succ k ih=>
        intro s V l hs I hl hu hin
        by_cases hw:∃c,Ze9 m V c
        · obtain⟨w1,w2⟩:=hch V l s I hw
          rcases one hs I hl w1 (w2 hs) hin with h | ⟨h,_,h2⟩
          · exact down s V l _ hs I w1 rfl (by omega) (k+1)
          · have:=w1.1
            exact h1 _ s V l I w1 (ih (s+1) _ _ (by omega) (I.step hb w1.1 w1.2.1).1 (by omega) (by omega) h2)
        · exact h0 _ s V l I fun c hc=>hw ⟨c,hc⟩
  intro s
  generalize hd:L-s=d
  induction d generalizing s with
  | zero=>
    intro V l I hl
    rw[Nat.zero_add]
    have hu:=ZCt m V
    refine mono (Gm m (uV m V)+mi m (uV m V)) _ s V l ?_ (late _ _ s V l (by omega) I hl (Nat.le_refl _) (In.start I.gen hl))
    have:=ZvY m hu
    have:=ZsC (m:=m) hu (Nat.le_refl m)
    omega
  | succ d ih=>
    intro V l I hl
    by_cases hw:∃c,Ze9 m V c
    · obtain⟨w1,_⟩:=hch V l s I hw
      have:=w1.1
      have q:=ih (s+1) (by omega) (Zbz m V (ch V l s)) _ (I.step hb w1.1 w1.2.1).1 (show -1≤((ch V l s:Nat):Int)∧((ch V l s:Nat):Int)<(m:Int) by omega)
      refine mono (d+(Gm m m+mi m m)+1) _ s V l (by omega) (h1 _ s V l I w1 q)
    · exact h0 _ s V l I fun c hc=>hw ⟨c,hc⟩
theorem ZwZ {m:Nat} (h1:1≤m) (h8:m≤8):Gm m m+mi m m≤8*m*m*(m+1):=by
  have:m=1∨m=2∨m=3∨m=4∨m=5∨m=6∨m=7∨m=8:=by omega
  rcases this with rfl | rfl | rfl | rfl | rfl | rfl | rfl | rfl<;>decide
end Go.Proofs.YtgcfmiajkbbmeaaGreatDoor
