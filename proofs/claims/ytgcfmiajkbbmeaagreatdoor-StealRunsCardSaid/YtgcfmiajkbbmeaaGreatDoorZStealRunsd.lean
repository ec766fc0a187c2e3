/- StealRuns: part 4 of 5 of the proof. -/
import Derived.Test.YtgcfmiajkbbmeaaGreatDoorZStealRunsc
import Derived.KernelRfl
import Derived.Sort.AssemblyPlain
set_option maxRecDepth 100000
set_option maxHeartbeats 40000000
set_option linter.unusedVariables false
set_option linter.unusedSimpArgs false
namespace Go.Proofs.YtgcfmiajkbbmeaaGreatDoor
open Go Go.Proofs.YtgcfmiajkbbmeaaGreatDoorE
open Go.IntKind (u64 i64 u32 i32 u8)
noncomputable section
structure Zl where
 work:(List Int)
 edges:(List Zt)
 deriving DecidableEq
abbrev ZEM (x:Zl):D:=(D.agg [(D.list true (List.map Zp x.work)),(D.list true (List.map Za2 x.edges))])
structure Zw where
 on:(List Int)
 left:(List Int)
 deriving DecidableEq
structure Za where
 ring:(List Int)
 top:Int
 bottom:Int
 deriving DecidableEq
abbrev ZM (x:Za):D:=(D.agg [(D.list true (List.map Zp x.ring)),(Zp x.top),(Zp x.bottom)])
structure Zb where
 steal:Bool
 at_:Int
 top:Int
 bottom:Int
 got:Int
 end_:Int
 deriving DecidableEq
abbrev ZO (x:Zb):D:=(D.agg [(D.bool x.steal),(Zp x.at_),(Zp x.top),(Zp x.bottom),(Zp x.got),(Zp x.end_)])
structure ZJ where
 crew:Zw
 deques:(List Za)
 takers:(List Zb)
 from_:(List Int)
 deriving DecidableEq
structure ZaA where
 a0:Int
 a1:Int
 deriving DecidableEq
abbrev Zfs (x:ZaA):D:=(D.agg [(Zp x.a0),(Zp x.a1)])
def ZbZ:Option Bool:=some true
def Zhv (a:Zl):Option Bool:=bif (decide ((a.work.length:Int)<=70)) then bif (decide ((a.edges.length:Int)<=300)) then some true else some false else some false
def ZbA (a:List Int) (s0:Int×Int):Option ((Int×Int)⊕(Unit⊕(Unit⊕Unit))):=bif (decide (s0.2<(a.length:Int))) then (Zs a s0.2).bind fun x1=>bif (decide (x1<0)) then bif (decide (x1<0)) then some (.inr (.inl ())) else some (.inr (.inr (.inl ()))) else bif (decide (s0.1<x1)) then bif (decide (x1<0)) then some (.inr (.inl ())) else some (.inr (.inr (.inl ()))) else some (.inl ((w64 (s0.1-x1)),(w64 (s0.2+1)))) else some (.inr (.inr (.inr ())))
def Zfg (a:List Int):Option Bool:=(lp (ZbA a) (300,0)).bind fun r2=>match r2 with | (.inl r2)=>some true | (.inr (.inl r2))=>some false | (.inr (.inr r2))=>some true
def ZfY (a:Zl):Option Unit:=bif (Nat.ble (a.work.length) lim) then bif (Nat.ble (a.edges.length) lim) then some () else none else none
def Zej (a:List Int):Option Unit:=bif (Nat.ble (a.length) lim) then some () else none
def ZbY (a:Int):Option Bool:=bif (decide (a<0)) then some true else bif (decide (1000<a)) then some true else some false
def Zx (a:List Int) (b:(Int->Option Bool)) (s0:Int):Option (Int⊕(Int⊕Unit)):=bif (decide (s0<(a.length:Int))) then (Zs a s0).bind fun x1=>(b x1).bind fun x2=>bif x2 then some (.inr (.inl s0)) else some (.inl (w64 (s0+1))) else some (.inr (.inr ()))
def ZE (a:List Int) (b:(Int->Option Bool)):Option Int:=(lp (Zx a b) 0).bind fun r3=>match r3 with | (.inl r3)=>some r3 | (.inr r3)=>some (-1)
def Zy (a:List Int) (b:(Int->Option Bool)):Option Bool:=(ZE a b).bind fun x0=>bif (decide (0<=x0)) then some true else some false
def Zex (a:Int) (b0:List Int):Option Bool:=bif (decide (0<=a)) then bif (decide (a<(b0.length:Int))) then some true else some false else some false
def ZaC (a:List Zt) (b:Zt) (s0:Int):Option (Int⊕(Int⊕Unit)):=bif (decide (s0<(a.length:Int))) then (Zs a s0).bind fun x1=>bif ((b.src==x1.src)&&((b.dst==x1.dst)&&true)) then some (.inr (.inl s0)) else some (.inl (w64 (s0+1))) else some (.inr (.inr ()))
def Zb9 (a:List Zt) (b:Zt):Option Int:=(lp (ZaC a b) 0).bind fun r2=>match r2 with | (.inl r2)=>some r2 | (.inr r2)=>some (-1)
def ZaI (a:List Zt) (b:Zt):Option Bool:=(Zb9 a b).bind fun x0=>bif (decide (0<=x0)) then some true else some false
def Zec (a:Zl) (s0:(List Int)×(List Bool)) (s1 s3:Int):Option (Int⊕(Unit⊕Unit)):=bif (decide (s3<(a.edges.length:Int))) then (Zs a.edges s3).bind fun x4=>bif (x4.dst==s1) then (Zs s0.2 x4.src).bind fun x5=>bif x5 then some (.inl (w64 (s3+1))) else some (.inr (.inl ())) else some (.inl (w64 (s3+1))) else some (.inr (.inr ()))
def ZcV (a:Zl) (s0:(List Int)×(List Bool)) (s1:Int):Option (Int⊕(((List Int)×(List Bool))⊕Unit)):=bif (decide (s1<(a.work.length:Int))) then (Zs s0.2 s1).bind fun x2=>bif x2 then some (.inl (w64 (s1+1))) else (lp (Zec a s0 s1) 0).bind fun r6=>match r6 with | (.inl r6)=>some (.inl (w64 (s1+1))) | (.inr r6)=>bif (Nat.ble (s0.1.length+1) lim) then some (.inr (.inl ((s0.1++[s1]),(List.set s0.2 s1.toNat true)))) else none else some (.inr (.inr ()))
def Zed (a:Zl) (s0:(List Int)×(List Bool)):Option (((List Int)×(List Bool))⊕((List Int)⊕(List Int))):=bif (decide ((s0.1.length:Int)<(a.work.length:Int))) then (lp (ZcV a s0) 0).bind fun r7=>match r7 with | (.inl r7)=>some (.inl (r7.1,r7.2)) | (.inr r7)=>some (.inr (.inl s0.1)) else some (.inr (.inr s0.1))
def ZeN (a:Zl):Option ((List Int)×Bool):=bif (decide (0<=(a.work.length:Int))&&decide ((a.work.length:Int)<=lim)&&decide ((a.work.length:Int)==(a.work.length:Int))) then (lp (Zed a) (([]:List Int),(List.replicate (a.work.length:Int).toNat (false:Bool)))).bind fun r8=>match r8 with | (.inl r8)=>some (([]:List Int),false) | (.inr r8)=>some (r8,true) else none
def Zdj (a:Zl) (s1:Int):Option (Int⊕(Unit⊕Unit)):=bif (decide (s1<(a.edges.length:Int))) then (Zs a.edges s1).bind fun x2=>(Zex x2.src a.work).bind fun x3=>bif x3 then (Zex x2.dst a.work).bind fun x4=>bif x4 then bif (x2.src==x2.dst) then some (.inr (.inl ())) else bif (decide (0<=s1)) then bif (Nat.ble s1.toNat (a.edges.length)) then (ZaI (List.take s1.toNat a.edges) x2).bind fun x5=>bif x5 then some (.inr (.inl ())) else some (.inl (w64 (s1+1))) else none else none else some (.inr (.inl ())) else some (.inr (.inl ())) else some (.inr (.inr ()))
def ZeR (a:Zl):Option Int:=bif (decide (64<(a.work.length:Int))) then some 40 else bif (decide (256<(a.edges.length:Int))) then some 40 else (Zy a.work (fun z0=>ZbY z0)).bind fun x0=>bif x0 then some 41 else (lp (Zdj a) 0).bind fun r6=>match r6 with | (.inl r6)=>some 42 | (.inr r6)=>(ZeN a).bind fun x7=>bif x7.2 then some 0 else some 43
def ZbF (a:Int):Option Bool:=bif (decide (a<1)) then some true else bif (decide (1000<a)) then some true else some false
def ZfK (a:Zl) (b:List Int) (c:Int):Option (Bool×Int):=(ZeR a).bind fun x0=>bif (x0 != 0) then some (false,x0) else bif ((b.length:Int)==(a.work.length:Int)) then (Zy b (fun z0=>ZbF z0)).bind fun x1=>bif x1 then some (false,0) else bif (decide (1<=c)) then bif (decide (c<=8)) then some (true,0) else some (false,0) else some (false,0) else some (false,0)
def Zc5 (a:List Int) (b0:Int):Option Bool:=bif ((a.length:Int) != b0) then some true else some false
def Zcr (a:(List (List Int))) (b:((List Int)->Option Bool)) (s0:Int):Option (Int⊕(Int⊕Unit)):=bif (decide (s0<(a.length:Int))) then (Zs a s0).bind fun x1=>(b x1).bind fun x2=>bif x2 then some (.inr (.inl s0)) else some (.inl (w64 (s0+1))) else some (.inr (.inr ()))
def Zbf (a:(List (List Int))) (b:((List Int)->Option Bool)):Option Int:=(lp (Zcr a b) 0).bind fun r3=>match r3 with | (.inl r3)=>some r3 | (.inr r3)=>some (-1)
def Zao (a:(List (List Int))) (b:((List Int)->Option Bool)):Option Bool:=(Zbf a b).bind fun x0=>bif (decide (0<=x0)) then some true else some false
def Zbc (a:List Int) (s0:Int×(List Int)):Option ((Int×(List Int))⊕(List Int)):=bif (decide (s0.1<(a.length:Int))) then (Zs s0.2 s0.1).bind fun x1=>some (.inl ((w64 (s0.1+1)),(List.set s0.2 s0.1.toNat (-1)))) else some (.inr s0.2)
def ZfE (a:List Int):Option (List Int):=bif (decide (0<=(a.length:Int))&&decide ((a.length:Int)<=lim)&&decide ((a.length:Int)==(a.length:Int))) then bif (decide (0<=(a.length:Int))&&decide ((a.length:Int)<=lim)&&decide ((a.length:Int)==(a.length:Int))) then bif (decide (0<=(a.length:Int))&&decide ((a.length:Int)<=lim)&&decide ((a.length:Int)==(a.length:Int))) then (lp (Zbc a) (0,(List.replicate (a.length:Int).toNat (0:Int)))).bind fun r2=>some r2 else none else none else none
def ZaX (a:List Int) (b s0:Int):Option (Int⊕(Int⊕Unit)):=bif (decide (s0<(a.length:Int))) then (Zs a s0).bind fun x1=>bif (b==x1) then some (.inr (.inl s0)) else some (.inl (w64 (s0+1))) else some (.inr (.inr ()))
def ZcQ (a:List Int) (b:Int):Option Int:=(lp (ZaX a b) 0).bind fun r2=>match r2 with | (.inl r2)=>some r2 | (.inr r2)=>some (-1)
def ZK (a:List Int) (b:Int):Option Bool:=(ZcQ a b).bind fun x0=>bif (decide (0<=x0)) then some true else some false
def ZhA (a3:List Int) (b c:Int):Option Bool:=(Zs a3 b).bind fun x0=>bif (decide (0<=x0)) then bif (decide (x0<=c)) then some true else some false else some false
def ZbK (a:Zt) (b0:Int) (c3:List Int) (d0:Int):Option Bool:=bif (a.dst==b0) then (ZhA c3 a.src d0).bind fun x0=>bif x0 then some false else some true else some false
def ZY (a:List Zt) (b:(Zt->Option Bool)) (s0:Int):Option (Int⊕(Int⊕Unit)):=bif (decide (s0<(a.length:Int))) then (Zs a s0).bind fun x1=>(b x1).bind fun x2=>bif x2 then some (.inr (.inl s0)) else some (.inl (w64 (s0+1))) else some (.inr (.inr ()))
def Zay (a:List Zt) (b:(Zt->Option Bool)):Option Int:=(lp (ZY a b) 0).bind fun r3=>match r3 with | (.inl r3)=>some r3 | (.inr r3)=>some (-1)
def ZQ (a:List Zt) (b:(Zt->Option Bool)):Option Bool:=(Zay a b).bind fun x0=>bif (decide (0<=x0)) then some true else some false
def Zfb (a3:List Int) (b:Zl) (c d:Int):Option Bool:=(ZQ b.edges (fun z0=>ZbK z0 c a3 d)).bind fun x0=>bif x0 then some false else some true
def ZiJ (a0:List Int) (a1:List Int) (a2:List ZaA) (a3:List Int) (b:Zl) (c:List Int) (d e:Int):Option Int:=(Zs c e).bind fun x0=>bif (decide (x0<(-1))) then some 101 else bif (decide ((a0.length:Int)<=x0)) then some 101 else bif (decide (0<=e)) then bif (Nat.ble e.toNat (c.length)) then (ZK (List.take e.toNat c) x0).bind fun x1=>bif x1 then some 102 else (Zs a1 x0).bind fun x2=>(Zs a0 x0).bind fun x3=>bif (decide (x3<=x2)) then some 105 else bif (decide (0<x2)) then (Zs a2 x0).bind fun x4=>bif (!((x4.a0==(w64 (d-1)))&&((x4.a1==e)&&true))) then some 104 else bif (x2==0) then (Zfb a3 b x0 d).bind fun x5=>bif x5 then some 0 else some 103 else some 0 else bif (x2==0) then (Zfb a3 b x0 d).bind fun x6=>bif x6 then some 0 else some 103 else some 0 else none else none
def ZmC (b:Int) (c:List Int):Option Unit:=some ()
def Zif (b c d:Int) (mA:List Int) (mB:List Int) (mC:List ZaA) (mE:List Int):Option ((List Int)×(List Int)):=(Zs mB b).bind fun x0=>(Zs mC b).bind fun x1=>(Zs (List.set mB b.toNat (w64 (x0+1))) b).bind fun x2=>(Zs mA b).bind fun x3=>bif (x2==x3) then (Zs mE b).bind fun x4=>some ((List.set mB b.toNat (w64 (x0+1))),(List.set mE b.toNat (w64 (c+1)))) else some ((List.set mB b.toNat (w64 (x0+1))),mE)
def ZjE (a:Zl) (b:List Int) (s3:Int×Int×(List Int)×(List ZaA)×(List Int)) (x4:List Int) (s5:Int×Int):Option ((Int×Int)⊕(Int⊕Int)):=bif (decide (s5.2<(x4.length:Int))) then (Zs x4 s5.2).bind fun x6=>bif (x6==(-1)) then some (.inl (s5.1,(w64 (s5.2+1)))) else (ZiJ b s3.2.2.1 s3.2.2.2.1 s3.2.2.2.2 a x4 s3.2.1 s5.2).bind fun x7=>bif (x7 != 0) then some (.inr (.inl x7)) else some (.inl (x7,(w64 (s5.2+1)))) else some (.inr (.inr s5.1))
def ZjB (b:List Int) (s3:Int×Int×(List Int)×(List ZaA)×(List Int)) (x4:List Int) (s10:Int×(List Int)×(List ZaA)×(List Int)):Option ((Int×(List Int)×(List ZaA)×(List Int))⊕((List Int)×(List ZaA)×(List Int))):=bif (decide (s10.1<(x4.length:Int))) then (Zs x4 s10.1).bind fun x11=>bif (x11 != (-1)) then (Zif x11 s3.2.1 s10.1 b s10.2.1 s10.2.2.1 s10.2.2.2).bind fun x12=>some (.inl ((w64 (s10.1+1)),x12.1,(List.set s10.2.2.1 x11.toNat (ZaA.mk s3.2.1 s10.1)),x12.2)) else some (.inl ((w64 (s10.1+1)),s10.2.1,s10.2.2.1,s10.2.2.2)) else some (.inr (s10.2.1,s10.2.2.1,s10.2.2.2))
def Zjx (a:Zl) (b:List Int) (d:(List (List Int))) (s3:Int×Int×(List Int)×(List ZaA)×(List Int)):Option ((Int×Int×(List Int)×(List ZaA)×(List Int))⊕(Int×(List Int)×(List ZaA)×(List Int))):=bif (decide (s3.2.1<(d.length:Int))) then (Zs d s3.2.1).bind fun x4=>(lp (ZjE a b s3 x4) (s3.1,0)).bind fun r8=>match r8 with | (.inl r8)=>some (.inr (r8,s3.2.2.1,s3.2.2.2.1,s3.2.2.2.2)) | (.inr r8)=>(ZmC s3.2.1 x4).bind fun x9=>(lp (ZjB b s3 x4) (0,s3.2.2.1,s3.2.2.2.1,s3.2.2.2.2)).bind fun r13=>some (.inl (r8,(w64 (s3.2.1+1)),r13.1,r13.2.1,r13.2.2)) else some (.inr (s3.1,s3.2.2.1,s3.2.2.2.1,s3.2.2.2.2))
def Zjr (a:Zl) (b:List Int) (c:Int) (d:(List (List Int))):Option (Int⊕(Int×(List Int)×(List ZaA)×(List Int))):=(ZfK a b c).bind fun x0=>bif x0.1 then bif (x0.2 != 0) then some (.inl x0.2) else bif (decide (4096<(d.length:Int))) then some (.inl 100) else (Zao d (fun z0=>Zc5 z0 c)).bind fun x1=>bif x1 then some (.inl 100) else (ZfE b).bind fun x2=>(lp (Zjx a b d) (x0.2,0,(List.replicate (b.length:Int).toNat (0:Int)),(List.replicate (b.length:Int).toNat ((ZaA.mk 0 0):ZaA)),x2)).bind fun r14=>some (.inr (r14.1,r14.2.1,r14.2.2.1,r14.2.2.2)) else bif (x0.2 != 0) then some (.inl x0.2) else some (.inl 100)
def ZfN (a:Zl) (b:List Int) (c:Int) (d:(List (List Int))):Option Int:=(Zjr a b c d).bind fun x0=>match x0 with | (.inl x0)=>some x0 | (.inr x0)=>some x0.1
def ZP (a:List Int):Option Unit:=bif (Nat.ble (a.length) lim) then some () else none
def ZdO (c:Int) (s2:Int×(List Int)):Option ((Int×(List Int))⊕(List Int)):=bif (decide (s2.1<c)) then bif (Nat.ble (s2.2.length+1) lim) then some (.inl ((w64 (s2.1+1)),(s2.2++[(-1)]))) else none else some (.inr s2.2)
def Zjs (a:Zl) (b:List Int) (c:Int):Option (Int⊕(List Int)):=(ZfN a b c ([]:List (List Int))).bind fun x0=>bif (x0 != 0) then some (.inl x0) else (ZP b).bind fun x1=>(lp (ZdO c) (0,([]:List Int))).bind fun r3=>some (.inr r3)
def ZfW (a:Int):Option Int:=bif (decide (a<0)) then some 10 else bif (decide (1099511627775<a)) then some 11 else some 0
abbrev oc0 (a:Int):Int:=(u64.wrap (Zgt a &&& Zgt 6148914691236517205).toNat)
abbrev oc1 (a:Int):Int:=(u64.wrap (Zgt (Int.fdiv a (2 ^ 1)) &&& Zgt 6148914691236517205).toNat)
abbrev oc2 (a:Int):Int:=(u64.wrap ((oc1 a)+(oc0 a)))
abbrev oc3 (a:Int):Int:=(Int.fdiv (oc2 a) (2 ^ 2))
abbrev oc4 (a:Int):Int:=(u64.wrap (Zgt (oc3 a) &&& Zgt 3689348814741910323).toNat)
abbrev oc5 (a:Int):Int:=(u64.wrap (Zgt (oc2 a) &&& Zgt 3689348814741910323).toNat)
abbrev oc6 (a:Int):Int:=(u64.wrap ((oc4 a)+(oc5 a)))
abbrev oc7 (a:Int):Int:=(Int.fdiv (oc6 a) (2 ^ 4))
abbrev oc8 (a:Int):Int:=(u64.wrap ((oc7 a)+(oc6 a)))
abbrev oc9 (a:Int):Int:=(u64.wrap (Zgt (oc8 a) &&& Zgt 1085102592571150095).toNat)
abbrev ZFG (a:Int):Int:=(Int.fdiv (oc9 a) (2 ^ 8))
abbrev ZD0 (a:Int):Int:=(u64.wrap ((oc9 a)+(ZFG a)))
abbrev ZFr (a:Int):Int:=(Int.fdiv (ZD0 a) (2 ^ 16))
abbrev ZDz (a:Int):Int:=(u64.wrap ((ZD0 a)+(ZFr a)))
def ZbB (a:Int):Option Int:=some (i64.wrap (ZA8 (w64 (u64.wrap ((ZDz a)+(Int.fdiv (ZDz a) (2 ^ 32))))) &&& ZA8 127).toNat)
def Zck (a:Int):Option Int:=(ZbB a).bind fun x0=>some x0
def Zr9:List Int:=[0,1,56,2,57,49,28,3,61,58,42,50,38,29,17,4,62,47,59,36,45,43,51,22,53,39,33,30,24,18,12,5,63,55,48,27,60,41,37,16,46,35,44,21,52,32,23,11,54,26,40,15,34,20,31,10,25,14,19,9,13,8,7,6]
def ZbR (a:Int):Option Int:=some (bif a==0 then 64 else w64 (Zr9.getD (Int.fdiv (u64.wrap ((u64.wrap (Zgt a &&& Zgt (u64.wrap (0-a))).toNat)*285870213051353865)) (2 ^ (min (Int.toNat 58) u64.bits))).toNat 0))
def Zcv (a:Int):Option Int:=(ZbR a).bind fun x0=>some x0
def ZgN (a:Int):Option (Int×Bool):=(ZfW a).bind fun x0=>bif (x0 != 0) then some (0,false) else (Zck (u64.wrap a)).bind fun x1=>bif (x1 != 1) then some (0,false) else (Zcv (u64.wrap a)).bind fun x2=>some (x2,true)
def ZhT (a:Int):Option (Za×Int):=(ZgN a).bind fun x0=>bif x0.2 then bif (decide (64<a)) then some ((Za.mk ([]:List Int) 0 0),120) else bif (decide (0<=a)&&decide (a<=lim)&&decide (a==a)) then some ((Za.mk (List.replicate a.toNat (0:Int)) 0 0),0) else none else some ((Za.mk ([]:List Int) 0 0),120)
def Zca (a:Int):Option Bool:=bif (decide (a<0)) then some true else bif (decide (1000<a)) then some true else some false
def Zdl (a:Zw) (b:Int):Option Bool:=(Zs a.left b).bind fun x0=>bif (x0==0) then some true else some false
def ZdP (a:Zt) (b0:Int) (c0:List Int) (c1:List Int):Option Bool:=bif (a.dst==b0) then (Zdl (Zw.mk c0 c1) a.src).bind fun x0=>bif x0 then some false else some true else some false
def ZeP (a:Zl) (b:Zw) (c:Int):Option Bool:=(ZQ a.edges (fun z0=>ZdP z0 c b.on b.left)).bind fun x0=>bif x0 then some false else some true
def ZdF (a:Zl) (b:Zw) (s1:Int):Option (Int⊕(Unit⊕Unit)):=bif (decide (s1<(b.on.length:Int))) then (Zs b.on s1).bind fun x2=>bif (x2==(-1)) then some (.inl (w64 (s1+1))) else bif (decide (x2<0)) then some (.inr (.inl ())) else bif (decide ((b.left.length:Int)<=x2)) then some (.inr (.inl ())) else (Zdl b x2).bind fun x3=>bif x3 then some (.inr (.inl ())) else bif (decide (0<=s1)) then bif (Nat.ble s1.toNat (b.on.length)) then (ZK (List.take s1.toNat b.on) x2).bind fun x4=>bif x4 then some (.inr (.inl ())) else (ZeP a b x2).bind fun x5=>bif x5 then some (.inl (w64 (s1+1))) else some (.inr (.inl ())) else none else none else some (.inr (.inr ()))
def ZdM (a:Zl) (b:Zw) (s7:Int):Option (Int⊕(Unit⊕Unit)):=bif (decide (s7<(b.left.length:Int))) then (Zdl b s7).bind fun x8=>bif x8 then (ZeP a b s7).bind fun x9=>bif x9 then some (.inl (w64 (s7+1))) else some (.inr (.inl ())) else some (.inl (w64 (s7+1))) else some (.inr (.inr ()))
def ZgB (a:Zl) (b:Zw):Option Bool:=bif (decide ((b.on.length:Int)<1)) then some false else bif (decide (8<(b.on.length:Int))) then some false else bif ((b.left.length:Int) != (a.work.length:Int)) then some false else (Zy b.left (fun z0=>Zca z0)).bind fun x0=>bif x0 then some false else (lp (ZdF a b) 0).bind fun r6=>match r6 with | (.inl r6)=>some false | (.inr r6)=>(lp (ZdM a b) 0).bind fun r10=>match r10 with | (.inl r10)=>some false | (.inr r10)=>some true
def Zfm (a:Zl) (b:Zw):Option Int:=(ZeR a).bind fun x0=>bif (x0==0) then (ZgB a b).bind fun x1=>bif x1 then some x0 else some 110 else some x0
def Zdy (a:Zl) (b:Zw) (s0:Int×(List Int)):Option ((Int×(List Int))⊕(List Int)):=bif (decide (s0.1<(b.left.length:Int))) then (Zdl b s0.1).bind fun x1=>bif x1 then some (.inl ((w64 (s0.1+1)),s0.2)) else (ZK b.on s0.1).bind fun x2=>bif x2 then some (.inl ((w64 (s0.1+1)),s0.2)) else (ZeP a b s0.1).bind fun x3=>bif x3 then bif (Nat.ble (s0.2.length+1) lim) then some (.inl ((w64 (s0.1+1)),(s0.2++[s0.1]))) else none else some (.inl ((w64 (s0.1+1)),s0.2)) else some (.inr s0.2)
def Zi8 (a:Zl) (b:Zw):Option (List Int):=(lp (Zdy a b) (0,([]:List Int))).bind fun r4=>some r4
def Zdw (a:Zl) (b:Zw):Option (List Int):=(Zfm a b).bind fun x0=>bif (x0 != 0) then some ([]:List Int) else (Zi8 a b).bind fun x1=>some x1
def ZaM (a:Za):Option Int:=(ZgN (a.ring.length:Int)).bind fun x0=>bif x0.2 then bif (decide (64<(a.ring.length:Int))) then some 120 else (ZfW a.top).bind fun x1=>bif (x1 != 0) then some 120 else bif (decide (a.bottom<(w64 (a.top-1)))) then some 120 else bif (decide ((w64 (a.top+(a.ring.length:Int)))<a.bottom)) then some 120 else some 0 else some 120
def Zf0 (a:Za):Option Unit:=(ZP a.ring).bind fun x0=>some ()
def ZcK (a:Za) (b:Int):Option Int:=bif ((a.ring.length:Int)==0) then none else some (Int.tmod (bif decide (b<0) then 0 else b) (a.ring.length:Int))
def Zbk (a:Za) (b:Int):Option (Za×Int):=(ZaM a).bind fun x0=>bif (x0 != 0) then some ((Za.mk ([]:List Int) 0 0),x0) else bif (decide (a.bottom<a.top)) then some ((Za.mk ([]:List Int) 0 0),121) else bif ((w64 (a.bottom-a.top))==(a.ring.length:Int)) then some ((Za.mk ([]:List Int) 0 0),121) else (Zf0 a).bind fun x1=>(ZcK a a.bottom).bind fun x2=>(Zs a.ring x2).bind fun x3=>some ((Za.mk (List.set a.ring x2.toNat b) a.top (w64 (a.bottom+1))),0)
def Zaq (b c:Int) (mE:List Za):Option ((List Za)⊕(List Za)):=(Zs mE b).bind fun x0=>(Zbk x0 c).bind fun x1=>bif (x1.2==0) then bif (x1.2==0) then some (.inl (List.set mE b.toNat x1.1)) else some (.inr (List.set mE b.toNat x1.1)) else bif (x1.2==0) then some (.inl mE) else some (.inr mE)
def ZaN (c:Int) (s1:Int×(List Za)):Option ((Int×(List Za))⊕(List Za)):=bif (decide (s1.1<c)) then (ZhT 64).bind fun x2=>bif (Nat.ble (s1.2.length+1) lim) then some (.inl ((w64 (s1.1+1)),(s1.2++[x2.1]))) else none else some (.inr s1.2)
def Za1 (c:Int) (x4:List Int) (s5:Int×(List Za)):Option ((Int×(List Za))⊕(List Za)):=bif (decide (s5.1<(x4.length:Int))) then (Zs x4 s5.1).bind fun x6=>bif (c==0) then none else (Zaq (Int.tmod x6 c) x6 s5.2).bind fun x7=>match x7 with | (.inl x7)=>some (.inl ((w64 (s5.1+1)),x7)) | (.inr x7)=>some (.inl ((w64 (s5.1+1)),x7)) else some (.inr s5.2)
def ZcG (a:Zl) (b:List Int) (c:Int):Option (Int⊕((List Int)×(List Za))):=(Zjs a b c).bind fun x0=>match x0 with | (.inl x0)=>bif (x0 != 0) then some (.inl x0) else none | (.inr x0)=>bif (decide (0<=c)&&decide (c<=lim)&&decide (c==c)) then bif (decide (0<=c)&&decide (c<=lim)&&decide (c==c)) then (lp (ZaN c) (0,([]:List Za))).bind fun r3=>(Zdw a (Zw.mk x0 b)).bind fun x4=>(lp (Za1 c x4) (0,r3)).bind fun r8=>some (.inr (x0,r8)) else none else none
def ZcP (a:Int):Option Bool:=bif (decide (0<a)) then some true else some false
def Zau (a:Za):Option Bool:=bif (decide (a.top<a.bottom)) then some true else some false
def Zah (a:List Za) (b:(Za->Option Bool)) (s0:Int):Option (Int⊕(Int⊕Unit)):=bif (decide (s0<(a.length:Int))) then (Zs a s0).bind fun x1=>(b x1).bind fun x2=>bif x2 then some (.inr (.inl s0)) else some (.inl (w64 (s0+1))) else some (.inr (.inr ()))
def Za0 (a:List Za) (b:(Za->Option Bool)):Option Int:=(lp (Zah a b) 0).bind fun r3=>match r3 with | (.inl r3)=>some r3 | (.inr r3)=>some (-1)
def Zaf (a:List Za) (b:(Za->Option Bool)):Option Bool:=(Za0 a b).bind fun x0=>bif (decide (0<=x0)) then some true else some false
def Za8 (a0:List Int) (s1:Int×(List Int)):Option ((Int×(List Int))⊕(List Int)):=bif (decide (s1.1<(a0.length:Int))) then (Zs a0 s1.1).bind fun x2=>bif (x2==(-1)) then bif (Nat.ble (s1.2.length+1) lim) then some (.inl ((w64 (s1.1+1)),(s1.2++[s1.1]))) else none else some (.inl ((w64 (s1.1+1)),s1.2)) else some (.inr s1.2)
def ZaW (a0:List Int) (a3:List Zb) (s4:Int×(List Int)):Option ((Int×(List Int))⊕(List Int)):=bif (decide (s4.1<(a0.length:Int))) then (Zs a0 s4.1).bind fun x5=>bif (x5==(-1)) then (Zs a3 s4.1).bind fun x6=>bif (x6.at_ != 0) then bif (Nat.ble (s4.2.length+1) lim) then some (.inl ((w64 (s4.1+1)),(s4.2++[s4.1]))) else none else some (.inl ((w64 (s4.1+1)),s4.2)) else some (.inl ((w64 (s4.1+1)),s4.2)) else some (.inr s4.2)
def Zcb (a0:List Int) (a2:List Za) (a3:List Zb):Option (List Int):=(Zaf a2 (fun z0=>Zau z0)).bind fun x0=>bif x0 then (lp (Za8 a0) (0,([]:List Int))).bind fun r3=>some r3 else (lp (ZaW a0 a3) (0,([]:List Int))).bind fun r7=>some r7
def ZaB (a b7:Int):Option Bool:=bif (decide (b7<a)) then some true else some false
def ZaH (a7:Int) (b:List Int) (c:List Int) (d:Int):Option Int:=bif (decide (d<(c.length:Int))) then (Zs c d).bind fun x0=>bif ((b.length:Int)==0) then none else (Zs b (Int.tmod (bif decide (x0<0) then 0 else x0) (b.length:Int))).bind fun x1=>some x1 else (ZE b (fun z0=>ZaB z0 a7)).bind fun x2=>(Zs b (bif decide (x2<0) then 0 else x2)).bind fun x3=>some x3
def Zcg (a:Int):Option Bool:=bif (decide (a<(-1))) then some true else bif (decide (1099511627775<a)) then some true else some false
def Zgw (a:Zb):Option Bool:=bif a.steal then bif (a.end_==0) then bif (decide (0<=a.at_)) then bif (decide (a.at_<=3)) then bif (a.at_==0) then some true else (Zcg a.top).bind fun x0=>bif x0 then some false else (Zcg a.bottom).bind fun x1=>bif x1 then some false else some true else some false else some false else some false else bif (a.end_==0) then bif (decide (0<=a.at_)) then bif (decide (a.at_<=4)) then bif (a.at_==0) then some true else (Zcg a.top).bind fun x2=>bif x2 then some false else (Zcg a.bottom).bind fun x3=>bif x3 then some false else some true else some false else some false else some false
def ZbQ (mA mJ:Int):Option (Unit⊕Unit):=bif (mA != mJ) then some (.inl ()) else some (.inr ())
def ZaJ (mA mD mL mJ mK mM mN:Int) (mC:List Int):Option (Int×Int×Int×Int×Int×Int):=bif (mL==0) then some (mA,1,mA,mK,mM,mN) else bif (mL==1) then bif (decide (mD<=mJ)) then some (mA,1,mJ,mD,mM,2) else some (mA,2,mJ,mD,mM,mN) else bif (mL==2) then (ZcK (Za.mk mC mA mD) mJ).bind fun x0=>(Zs mC x0).bind fun x1=>some (mA,3,mJ,mK,x1,mN) else (ZbQ mA mJ).bind fun x2=>match x2 with | (.inl x2)=>some (mA,mL,mJ,mK,0,3) | (.inr x2)=>some ((w64 (mA+1)),mL,mJ,mK,mM,1)
def ZaT (mA mD mL mJ mK mM mN:Int) (mC:List Int):Option (Int×Int×Int×Int×Int×Int×Int):=bif (mL==0) then some (mA,(w64 (mD-1)),1,mJ,(w64 (mD-1)),mM,mN) else bif (mL==1) then bif (decide (mA<mK)) then (ZcK (Za.mk mC mA mD) mK).bind fun x0=>(Zs mC x0).bind fun x1=>some (mA,mD,mL,mA,mK,x1,1) else bif (mA==mK) then some (mA,mD,2,mA,mK,mM,mN) else some (mA,mD,3,mA,mK,mM,mN) else bif (mL==2) then (ZbQ mA mJ).bind fun x2=>match x2 with | (.inl x2)=>some (mA,mD,3,mJ,mK,mM,mN) | (.inr x2)=>(ZcK (Za.mk mC (w64 (mA+1)) mD) mK).bind fun x3=>(Zs mC x3).bind fun x4=>some ((w64 (mA+1)),mD,4,mJ,mK,x4,mN) else bif (mL==4) then some (mA,(w64 (mK+1)),mL,mJ,mK,mM,1) else some (mA,(w64 (mK+1)),mL,mJ,mK,mM,2)
def Zad (a:Za) (b:Zb):Option (Za×Zb×Int):=(ZaM a).bind fun x0=>bif (x0 != 0) then some ((Za.mk ([]:List Int) 0 0),(Zb.mk false 0 0 0 0 0),x0) else (Zgw b).bind fun x1=>bif x1 then (Zf0 a).bind fun x2=>bif b.steal then (ZaJ a.top a.bottom b.at_ b.top b.bottom b.got b.end_ a.ring).bind fun x3=>(ZaM (Za.mk a.ring x3.1 a.bottom)).bind fun x4=>bif (x4 != 0) then some ((Za.mk ([]:List Int) 0 0),(Zb.mk false 0 0 0 0 0),x4) else some ((Za.mk a.ring x3.1 a.bottom),(Zb.mk b.steal x3.2.1 x3.2.2.1 x3.2.2.2.1 x3.2.2.2.2.1 x3.2.2.2.2.2),0) else (ZaT a.top a.bottom b.at_ b.top b.bottom b.got b.end_ a.ring).bind fun x5=>(ZaM (Za.mk a.ring x5.1 x5.2.1)).bind fun x6=>bif (x6 != 0) then some ((Za.mk ([]:List Int) 0 0),(Zb.mk false 0 0 0 0 0),x6) else some ((Za.mk a.ring x5.1 x5.2.1),(Zb.mk b.steal x5.2.2.1 x5.2.2.2.1 x5.2.2.2.2.1 x5.2.2.2.2.2.1 x5.2.2.2.2.2.2),0) else some ((Za.mk ([]:List Int) 0 0),(Zb.mk false 0 0 0 0 0),122)
def Zbh (b c:Int) (mF:List Zb) (mH:List Int):Option (List Zb):=(Zs mH b).bind fun x0=>bif (c != 0) then (Zs mF b).bind fun x1=>some (List.set mF b.toNat (Zb.mk true 0 0 0 0 0)) else (Zs mF b).bind fun x2=>some (List.set mF b.toNat (Zb.mk false 0 0 0 0 0))
def Z3 (b:Int) (mA:List Int) (mD:List Zt) (mB:List Int) (mC:List Int) (mE:List Za) (mF:List Zb) (mH:List Int):Option (Int×(List Int)×(List Za)×(List Zb)×(List Int)):=(Zs mH b).bind fun x0=>bif ((mB.length:Int)==0) then none else (Zs mE (Int.tmod (w64 (b+x0)) (mB.length:Int))).bind fun x1=>(Zs mF b).bind fun x2=>(Zad x1 x2).bind fun x3=>bif (x3.2.2 != 0) then some (130,mB,mE,mF,mH) else bif (x3.2.1.end_==1) then (Zdw (Zl.mk mA mD) (Zw.mk mB mC)).bind fun x4=>(ZK x4 x3.2.1.got).bind fun x5=>bif x5 then (Zs mB b).bind fun x6=>(Zbh b 0 (List.set mF b.toNat x3.2.1) mH).bind fun x7=>some (0,(List.set mB b.toNat x3.2.1.got),(List.set mE (Int.tmod (w64 (b+x0)) (mB.length:Int)).toNat x3.1),x7,(List.set mH b.toNat 0)) else some (130,mB,(List.set mE (Int.tmod (w64 (b+x0)) (mB.length:Int)).toNat x3.1),(List.set mF b.toNat x3.2.1),mH) else bif (x3.2.1.end_==2) then bif ((mB.length:Int)==0) then none else (Zbh b (Int.tmod (w64 (x0+1)) (mB.length:Int)) (List.set mF b.toNat x3.2.1) mH).bind fun x8=>some (0,mB,(List.set mE (Int.tmod (w64 (b+x0)) (mB.length:Int)).toNat x3.1),x8,(List.set mH b.toNat (Int.tmod (w64 (x0+1)) (mB.length:Int)))) else bif (x3.2.1.end_==3) then bif ((mB.length:Int)==0) then none else (Zbh b (Int.tmod (w64 (x0+1)) (mB.length:Int)) (List.set mF b.toNat x3.2.1) mH).bind fun x9=>some (0,mB,(List.set mE (Int.tmod (w64 (b+x0)) (mB.length:Int)).toNat x3.1),x9,(List.set mH b.toNat (Int.tmod (w64 (x0+1)) (mB.length:Int)))) else some (0,mB,(List.set mE (Int.tmod (w64 (b+x0)) (mB.length:Int)).toNat x3.1),(List.set mF b.toNat x3.2.1),mH)
def Zat (b:List Int) (mA:List Int) (mD:List Zt) (mC:List Int) (s1:Int×(List Int)×Int×(List Int)×(List Za)×(List Zb)×(List Int)):Option ((Int×(List Int)×Int×(List Int)×(List Za)×(List Zb)×(List Int))⊕((Int×Int×Int×(List Int)×(List Za)×(List Zb)×(List Int))⊕(Int×Int×(List Int)×(List Za)×(List Zb)×(List Int)))):=bif (decide (0<(s1.2.1.length:Int))) then (ZaH s1.2.2.1 s1.2.1 b s1.1).bind fun x2=>(Z3 x2 mA mD s1.2.2.2.1 mC s1.2.2.2.2.1 s1.2.2.2.2.2.1 s1.2.2.2.2.2.2).bind fun x3=>bif (x3.1 != 0) then some (.inr (.inl (x3.1,s1.1,s1.2.2.1,x3.2.1,x3.2.2.1,x3.2.2.2.1,x3.2.2.2.2))) else (Zcb x3.2.1 x3.2.2.1 x3.2.2.2.1).bind fun x4=>some (.inl ((w64 (s1.1+1)),x4,x2,x3.2.1,x3.2.2.1,x3.2.2.2.1,x3.2.2.2.2)) else some (.inr (.inr (s1.1,s1.2.2.1,s1.2.2.2.1,s1.2.2.2.2.1,s1.2.2.2.2.2.1,s1.2.2.2.2.2.2)))
def Zby (b:List Int) (mA:List Int) (mD:List Zt) (mB:List Int) (mC:List Int) (mE:List Za) (mF:List Zb) (mH:List Int):Option (Int×Int×Int×(List Int)×(List Za)×(List Zb)×(List Int)):=(Zcb mB mE mF).bind fun x0=>(lp (Zat b mA mD mC) (0,x0,(-1),mB,mE,mF,mH)).bind fun r5=>match r5 with | (.inl r5)=>some (0,r5.1,r5.2.2.1,r5.2.2.2.1,r5.2.2.2.2.1,r5.2.2.2.2.2.1,r5.2.2.2.2.2.2) | (.inr r5)=>some (r5.1,0,r5.2.1,r5.2.2.1,r5.2.2.2.1,r5.2.2.2.2.1,r5.2.2.2.2.2)
def Zlp (a:Zw):Option Unit:=(ZP a.on).bind fun x0=>(ZP a.left).bind fun x1=>some ()
def ZaV (mA:List Int):Option (List Int):=bif (Nat.ble (mA.length) lim) then (some (sortI mA)).bind fun x0=>some x0 else none
def Zdk (mA:List Int) (s0:Int×(List Int)×(List Int)×(List Int)):Option ((Int×(List Int)×(List Int)×(List Int))⊕((List Int)×(List Int)×(List Int))):=bif (decide (s0.1<(mA.length:Int))) then (Zs s0.2.1 s0.1).bind fun x1=>bif (x1==(-1)) then some (.inl ((w64 (s0.1+1)),s0.2.1,s0.2.2.1,s0.2.2.2)) else (Zs s0.2.2.1 x1).bind fun x2=>(Zdl (Zw.mk s0.2.1 (List.set s0.2.2.1 x1.toNat (w64 (x2-1)))) x1).bind fun x3=>bif x3 then bif (Nat.ble (s0.2.2.2.length+1) lim) then some (.inl ((w64 (s0.1+1)),(List.set s0.2.1 s0.1.toNat (-1)),(List.set s0.2.2.1 x1.toNat (w64 (x2-1))),(s0.2.2.2++[x1]))) else none else some (.inl ((w64 (s0.1+1)),s0.2.1,(List.set s0.2.2.1 x1.toNat (w64 (x2-1))),s0.2.2.2)) else some (.inr (s0.2.1,s0.2.2.1,s0.2.2.2))
def Zkp (mA:List Int) (mB:List Int):Option ((List Int)×(List Int)×(List Int)):=(lp (Zdk mA) (0,mA,mB,([]:List Int))).bind fun r4=>(ZaV r4.2.2).bind fun x5=>some (r4.1,r4.2.1,x5)
def ZhB (a:Zl) (b:Zw):Option (Int⊕((List Int)×(List Int)×(List Int))):=(Zfm a b).bind fun x0=>bif (x0 != 0) then some (.inl x0) else (Zlp b).bind fun x1=>(Zkp b.on b.left).bind fun x2=>some (.inr (x2.1,x2.2.1,x2.2.2))
def ZbX (a:Zt) (b0:Int):Option (Int×Bool):=bif (a.src==b0) then some (a.dst,true) else some (a.dst,false)
def ZcF (a:Zl) (b:(Zt->Option (Int×Bool))) (s0:Int×(List Int)):Option ((Int×(List Int))⊕(List Int)):=bif (decide (s0.1<(a.edges.length:Int))) then (Zs a.edges s0.1).bind fun x1=>(b x1).bind fun x2=>bif x2.2 then bif (Nat.ble (s0.2.length+1) lim) then some (.inl ((w64 (s0.1+1)),(s0.2++[x2.1]))) else none else some (.inl ((w64 (s0.1+1)),s0.2)) else some (.inr s0.2)
def Zku (a:Zl) (b:(Zt->Option (Int×Bool))):Option (List Int):=(lp (ZcF a b) (0,([]:List Int))).bind fun r3=>(ZaV r3).bind fun x4=>some x4
def ZeQ (a:Zl) (b:Int):Option (List Int):=(ZeR a).bind fun x0=>bif (x0 != 0) then some ([]:List Int) else (Zku a (fun z0=>ZbX z0 b)).bind fun x1=>some x1
def Z4 (x2:List Int) (s3:Int×(List Za)×(List Int)) (x6:List Int) (s7:Int×(List Za)×(List Int)):Option ((Int×(List Za)×(List Int))⊕(((List Za)×(List Int))⊕((List Za)×(List Int)))):=bif (decide (s7.1<(x6.length:Int))) then (Zs x6 s7.1).bind fun x8=>(ZK x2 x8).bind fun x9=>bif x9 then (ZK s7.2.2 x8).bind fun x10=>bif x10 then some (.inl ((w64 (s7.1+1)),s7.2.1,s7.2.2)) else (Zaq s3.1 x8 s7.2.1).bind fun x11=>match x11 with | (.inl x11)=>bif (Nat.ble (s7.2.2.length+1) lim) then some (.inl ((w64 (s7.1+1)),x11,(s7.2.2++[x8]))) else none | (.inr x11)=>some (.inr (.inl (x11,s7.2.2))) else some (.inl ((w64 (s7.1+1)),s7.2.1,s7.2.2)) else some (.inr (.inr (s7.2.1,s7.2.2)))
def Zak (mA:List Int) (mD:List Zt) (mB:List Int) (x1:((List Int)×(List Int)×(List Int))) (x2:List Int) (s3:Int×(List Za)×(List Int)):Option ((Int×(List Za)×(List Int))⊕((List Za)⊕(List Za))):=bif (decide (s3.1<(mB.length:Int))) then (Zs mB s3.1).bind fun x4=>bif (x4==(-1)) then some (.inl ((w64 (s3.1+1)),s3.2.1,s3.2.2)) else (Zs x1.1 s3.1).bind fun x5=>bif (x5 != (-1)) then some (.inl ((w64 (s3.1+1)),s3.2.1,s3.2.2)) else (ZeQ (Zl.mk mA mD) x4).bind fun x6=>(lp (Z4 x2 s3 x6) (0,s3.2.1,s3.2.2)).bind fun r12=>match r12 with | (.inl r12)=>some (.inr (.inl r12.1)) | (.inr r12)=>some (.inl ((w64 (s3.1+1)),r12.1,r12.2)) else some (.inr (.inr s3.2.1))
def Zbz (mA:List Int) (mD:List Zt) (mB:List Int) (mC:List Int) (mE:List Za):Option (Int⊕(((List Za)×(List Int)×(List Int))⊕((List Za)×(List Int)×(List Int)×(List Int)))):=(ZP mB).bind fun x0=>(ZhB (Zl.mk mA mD) (Zw.mk mB mC)).bind fun x1=>match x1 with | (.inl x1)=>bif (x1 != 0) then some (.inl x1) else none | (.inr x1)=>(Zdw (Zl.mk mA mD) (Zw.mk x1.1 x1.2.1)).bind fun x2=>(lp (Zak mA mD mB x1 x2) (0,mE,([]:List Int))).bind fun r13=>match r13 with | (.inl r13)=>some (.inr (.inl (r13,x1.1,x1.2.1))) | (.inr r13)=>some (.inr (.inr (r13,x1.2.2,x1.1,x1.2.1)))
def Zd3 (b:List Int) (s1:Int×Int):Option ((Int×Int)⊕Int):=bif (decide (s1.2<(b.length:Int))) then (Zs b s1.2).bind fun x2=>some (.inl ((w64 (s1.1+x2)),(w64 (s1.2+1)))) else some (.inr s1.1)
def Zcd (a:Zl) (d:List Int) (s4:Int×Int×(List (List Int))×(List Int)×(List Int)×(List Za)×(List Zb)×(List Int)):Option ((Int×Int×(List (List Int))×(List Int)×(List Int)×(List Za)×(List Zb)×(List Int))⊕((Int×Int×(List (List Int)))⊕(Int×(List (List Int))))):=(Zy s4.2.2.2.2.1 (fun z0=>ZcP z0)).bind fun x5=>bif x5 then bif (decide (0<=(bif decide ((d.length:Int)<s4.1) then (d.length:Int) else s4.1))) then bif (Nat.ble (bif decide ((d.length:Int)<s4.1) then (d.length:Int) else s4.1).toNat (d.length)) then (Zby (List.drop (bif decide ((d.length:Int)<s4.1) then (d.length:Int) else s4.1).toNat d) a.work a.edges s4.2.2.2.1 s4.2.2.2.2.1 s4.2.2.2.2.2.1 s4.2.2.2.2.2.2.1 s4.2.2.2.2.2.2.2).bind fun x6=>bif (x6.2.1 != 0) then some (.inr (.inl (x6.2.1,s4.1,s4.2.2.1))) else (ZP x6.2.2.2.1).bind fun x7=>bif (Nat.ble (s4.2.2.1.length+1) lim) then (Zbz a.work a.edges x6.2.2.2.1 s4.2.2.2.2.1 x6.2.2.2.2.1).bind fun x8=>match x8 with | (.inl x8)=>bif (x8 != 0) then some (.inr (.inl (x8,(w64 (s4.1+x6.1)),(s4.2.2.1++[x6.2.2.2.1])))) else none | (.inr (.inl x8))=>some (.inr (.inl (130,(w64 (s4.1+x6.1)),(s4.2.2.1++[x6.2.2.2.1])))) | (.inr (.inr x8))=>some (.inl ((w64 (s4.1+x6.1)),x6.2.2.1,(s4.2.2.1++[x6.2.2.2.1]),x8.2.2.1,x8.2.2.2,x8.1,x6.2.2.2.2.2.1,x6.2.2.2.2.2.2)) else none else none else none else some (.inr (.inr (s4.1,s4.2.2.1)))
def ZeW (a:Zl) (b:List Int) (c:Int) (d:List Int):Option ((List (List Int))×Int×Int):=(ZcG a b c).bind fun x0=>match x0 with | (.inl x0)=>bif (x0 != 0) then some (([]:List (List Int)),0,x0) else none | (.inr x0)=>(lp (Zd3 b) (0,0)).bind fun r3=>bif (decide (4096<r3)) then some (([]:List (List Int)),0,100) else (lp (Zcd a d) (0,0,([]:(List (List Int))),x0.1,b,x0.2,(List.replicate c.toNat ((Zb.mk false 0 0 0 0 0):Zb)),(List.replicate c.toNat (0:Int)))).bind fun r9=>match r9 with | (.inl r9)=>some (([]:List (List Int)),0,r9.1) | (.inr r9)=>some (r9.2,r9.1,0)
def Ze7 (a:Zl) (b:Int):Option Bool:=bif (decide (0<=b)) then bif (decide (b<(a.work.length:Int))) then some true else some false else some false
def ZcW (a:Zl) (s0:Int):Option (Int⊕(Unit⊕Unit)):=bif (decide (s0<(a.work.length:Int))) then (Zs a.work s0).bind fun x1=>bif (decide (x1<0)) then some (.inr (.inl ())) else bif (decide (1000<x1)) then some (.inr (.inl ())) else some (.inl (w64 (s0+1))) else some (.inr (.inr ()))
def Zdg (a:Zl) (s3:Int) (x4:Zt) (s7:Int):Option (Int⊕(Unit⊕Unit)):=bif (decide (s7<s3)) then (Zs a.edges s7).bind fun x8=>bif ((x8.src==x4.src)&&((x8.dst==x4.dst)&&true)) then some (.inr (.inl ())) else some (.inl (w64 (s7+1))) else some (.inr (.inr ()))
def Zc2 (a:Zl) (s3:Int):Option (Int⊕(Unit⊕Unit)):=bif (decide (s3<(a.edges.length:Int))) then (Zs a.edges s3).bind fun x4=>(Ze7 a x4.src).bind fun x5=>bif x5 then (Ze7 a x4.dst).bind fun x6=>bif x6 then bif (x4.src==x4.dst) then some (.inr (.inl ())) else (lp (Zdg a s3 x4) 0).bind fun r9=>match r9 with | (.inl r9)=>some (.inr (.inl ())) | (.inr r9)=>some (.inl (w64 (s3+1))) else some (.inr (.inl ())) else some (.inr (.inl ())) else some (.inr (.inr ()))
def ZfP (a:Zl):Option Int:=bif (decide (64<(a.work.length:Int))) then some 40 else bif (decide (256<(a.edges.length:Int))) then some 40 else (lp (ZcW a) 0).bind fun r2=>match r2 with | (.inl r2)=>some 41 | (.inr r2)=>(lp (Zc2 a) 0).bind fun r10=>match r10 with | (.inl r10)=>some 42 | (.inr r10)=>some 0
def Zb8 (a:Zl) (b:Int) (s1:Int×(List Bool)):Option ((Int×(List Bool))⊕(List Bool)):=bif (decide (s1.1<(a.edges.length:Int))) then (Zs a.edges s1.1).bind fun x2=>bif (x2.src==b) then (Zs s1.2 x2.dst).bind fun x3=>some (.inl ((w64 (s1.1+1)),(List.set s1.2 x2.dst.toNat true))) else (Zs s1.2 x2.src).bind fun x4=>bif x4 then (Zs s1.2 x2.dst).bind fun x5=>some (.inl ((w64 (s1.1+1)),(List.set s1.2 x2.dst.toNat true))) else some (.inl ((w64 (s1.1+1)),s1.2)) else some (.inr s1.2)
def Zb5 (a:Zl) (b:Int) (s0:Int×(List Bool)):Option ((Int×(List Bool))⊕(List Bool)):=bif (decide (s0.1<(a.work.length:Int))) then (lp (Zb8 a b) (0,s0.2)).bind fun r6=>some (.inl ((w64 (s0.1+1)),r6)) else some (.inr s0.2)
def ZfT (a:Zl) (b:Int):Option (List Bool):=bif (decide (0<=(a.work.length:Int))&&decide ((a.work.length:Int)<=lim)&&decide ((a.work.length:Int)==(a.work.length:Int))) then (lp (Zb5 a b) (0,(List.replicate (a.work.length:Int).toNat (false:Bool)))).bind fun r7=>some r7 else none
def Zc7 (a:Zl) (s1:Int):Option (Int⊕(Unit⊕Unit)):=bif (decide (s1<(a.work.length:Int))) then (ZfT a s1).bind fun x2=>(Zs x2 s1).bind fun x3=>bif x3 then some (.inr (.inl ())) else some (.inl (w64 (s1+1))) else some (.inr (.inr ()))
def Zew (a:Zl):Option Int:=(ZfP a).bind fun x0=>bif (x0 != 0) then some x0 else (lp (Zc7 a) 0).bind fun r4=>match r4 with | (.inl r4)=>some 43 | (.inr r4)=>some 0
def ZdD (b:List Int) (s0:Int):Option (Int⊕(Unit⊕Unit)):=bif (decide (s0<(b.length:Int))) then (Zs b s0).bind fun x1=>bif (decide (x1<1)) then some (.inr (.inl ())) else bif (decide (1000<x1)) then some (.inr (.inl ())) else some (.inl (w64 (s0+1))) else some (.inr (.inr ()))
def Zgx (a:Zl) (b:List Int) (c:Int):Option Bool:=(lp (ZdD b) 0).bind fun r2=>match r2 with | (.inl r2)=>some false | (.inr r2)=>bif ((b.length:Int)==(a.work.length:Int)) then bif (decide (1<=c)) then bif (decide (c<=8)) then some true else some false else some false else some false
def Zde (c:Int) (s2:Int×(List Int)):Option ((Int×(List Int))⊕(List Int)):=bif (decide (s2.1<c)) then bif (Nat.ble (s2.2.length+1) lim) then some (.inl ((w64 (s2.1+1)),(s2.2++[(-1)]))) else none else some (.inr s2.2)
def ZhD (a:Zl) (b:List Int) (c:Int):Option (Zw×Int):=(Zew a).bind fun x0=>bif (x0 != 0) then some ((Zw.mk ([]:List Int) ([]:List Int)),x0) else (Zgx a b c).bind fun x1=>bif x1 then bif (Nat.ble (b.length) lim) then (lp (Zde c) (0,([]:List Int))).bind fun r3=>some ((Zw.mk r3 b),0) else none else some ((Zw.mk ([]:List Int) ([]:List Int)),100)
def Zeb (a:List Int) (b s0:Int):Option (Int⊕(Unit⊕Unit)):=bif (decide (s0<(a.length:Int))) then (Zs a s0).bind fun x1=>bif (x1==b) then some (.inr (.inl ())) else some (.inl (w64 (s0+1))) else some (.inr (.inr ()))
def Zb0 (a:List Int) (b:Int):Option Bool:=(lp (Zeb a b) 0).bind fun r2=>match r2 with | (.inl r2)=>some true | (.inr r2)=>some false
def ZdG (a:Zl) (b c s0:Int):Option (Int⊕(Unit⊕Unit)):=bif (decide (s0<(a.edges.length:Int))) then (Zs a.edges s0).bind fun x1=>bif (x1.src==b) then bif (x1.dst==c) then some (.inr (.inl ())) else some (.inl (w64 (s0+1))) else some (.inl (w64 (s0+1))) else some (.inr (.inr ()))
def Ze4 (a:Zl) (b c:Int):Option Bool:=(lp (ZdG a b c) 0).bind fun r2=>match r2 with | (.inl r2)=>some true | (.inr r2)=>some false
def Zdb (a:Zl) (b:Int) (s0:Int×(List Int)):Option ((Int×(List Int))⊕(List Int)):=bif (decide (s0.1<(a.work.length:Int))) then (Ze4 a s0.1 b).bind fun x1=>bif x1 then bif (Nat.ble (s0.2.length+1) lim) then some (.inl ((w64 (s0.1+1)),(s0.2++[s0.1]))) else none else some (.inl ((w64 (s0.1+1)),s0.2)) else some (.inr s0.2)
def ZfM (a:Zl) (b:Int):Option (List Int):=(lp (Zdb a b) (0,([]:List Int))).bind fun r2=>some r2
def ZdI (b:Zw) (x0:List Int) (s1:Int):Option (Int⊕(Unit⊕Unit)):=bif (decide (s1<(x0.length:Int))) then (Zs x0 s1).bind fun x2=>(Zs b.left x2).bind fun x3=>bif (decide (0<x3)) then some (.inr (.inl ())) else some (.inl (w64 (s1+1))) else some (.inr (.inr ()))
def Zee (a:Zl) (b:Zw) (c:Int):Option Bool:=(ZfM a c).bind fun x0=>(lp (ZdI b x0) 0).bind fun r4=>match r4 with | (.inl r4)=>some false | (.inr r4)=>some true
def Zdc (a:Zl) (b:Zw) (s0:Int×(List Int)):Option ((Int×(List Int))⊕(List Int)):=bif (decide (s0.1<(b.left.length:Int))) then (Zs b.left s0.1).bind fun x1=>bif (decide (0<x1)) then (Zb0 b.on s0.1).bind fun x2=>bif x2 then some (.inl ((w64 (s0.1+1)),s0.2)) else (Zee a b s0.1).bind fun x3=>bif x3 then bif (Nat.ble (s0.2.length+1) lim) then some (.inl ((w64 (s0.1+1)),(s0.2++[s0.1]))) else none else some (.inl ((w64 (s0.1+1)),s0.2)) else some (.inl ((w64 (s0.1+1)),s0.2)) else some (.inr s0.2)
def ZcN (a:Zl) (b:Zw):Option (List Int):=(lp (Zdc a b) (0,([]:List Int))).bind fun r4=>some r4
def Zbp (a:Int) (s0:Int×Int):Option ((Int×Int)⊕(Int⊕Unit)):=bif (decide (s0.2<40)) then bif (s0.1==a) then some (.inr (.inl s0.2)) else some (.inl ((w64 (2*s0.1)),(w64 (s0.2+1)))) else some (.inr (.inr ()))
def Zf4 (a:Int):Option (Int×Bool):=(lp (Zbp a) (1,0)).bind fun r1=>match r1 with | (.inl r1)=>some (r1,true) | (.inr r1)=>some (0,false)
def ZgC (a:Int):Option Bool:=(Zf4 a).bind fun x0=>bif x0.2 then bif (decide (a<=64)) then some true else some false else some false
def Zv (a:Za):Option Bool:=(ZgC (a.ring.length:Int)).bind fun x0=>bif x0 then bif (decide (0<=a.top)) then bif (decide (a.top<=1099511627775)) then bif (decide ((w64 (a.top-1))<=a.bottom)) then bif (decide (a.bottom<=(w64 (a.top+(a.ring.length:Int))))) then some true else some false else some false else some false else some false else some false
def ZbH (a:Za) (b:Int) (s1:Int×(List Int)):Option ((Int×(List Int))⊕(List Int)):=bif (decide (s1.1<(a.ring.length:Int))) then bif ((a.ring.length:Int)==0) then none else bif (s1.1==(Int.tmod a.bottom (a.ring.length:Int))) then bif (Nat.ble (s1.2.length+1) lim) then some (.inl ((w64 (s1.1+1)),(s1.2++[b]))) else none else (Zs a.ring s1.1).bind fun x2=>bif (Nat.ble (s1.2.length+1) lim) then some (.inl ((w64 (s1.1+1)),(s1.2++[x2]))) else none else some (.inr s1.2)
def Zeo (a:Za) (b:Int):Option (Za×Int):=(Zv a).bind fun x0=>bif x0 then bif (decide ((w64 (a.bottom-a.top))<0)) then some ((Za.mk ([]:List Int) 0 0),121) else bif (decide ((a.ring.length:Int)<=(w64 (a.bottom-a.top)))) then some ((Za.mk ([]:List Int) 0 0),121) else (lp (ZbH a b) (0,([]:List Int))).bind fun r3=>some ((Za.mk r3 a.top (w64 (a.bottom+1))),0) else some ((Za.mk ([]:List Int) 0 0),120)
def Ze1 (b:Int) (c:Za) (mA:List Za):Option Unit:=bif (Nat.ble (mA.length) lim) then (Zs mA b).bind fun x0=>some () else none
def ZcX (c:Int) (s1:Int×(List Za)×(List Zb)×(List Int)):Option ((Int×(List Za)×(List Zb)×(List Int))⊕((List Za)×(List Zb)×(List Int))):=bif (decide (s1.1<c)) then bif (Nat.ble (s1.2.1.length+1) lim) then bif (Nat.ble (s1.2.2.1.length+1) lim) then bif (Nat.ble (s1.2.2.2.length+1) lim) then some (.inl ((w64 (s1.1+1)),(s1.2.1++[(Za.mk (List.replicate (64:Int).toNat (0:Int)) 0 0)]),(s1.2.2.1++[(Zb.mk false 0 0 0 0 0)]),(s1.2.2.2++[0]))) else none else none else none else some (.inr (s1.2.1,s1.2.2.1,s1.2.2.2))
def Zd9 (c:Int) (x3:List Int) (s4:Int×(List Za)):Option ((Int×(List Za))⊕(List Za)):=bif (decide (s4.1<(x3.length:Int))) then (Zs x3 s4.1).bind fun x5=>bif (c==0) then none else (Zs s4.2 (Int.tmod x5 c)).bind fun x6=>(Zeo x6 x5).bind fun x7=>bif (c==0) then none else (Ze1 (Int.tmod x5 c) x7.1 s4.2).bind fun x8=>some (.inl ((w64 (s4.1+1)),(List.set s4.2 (Int.tmod x5 c).toNat x7.1))) else some (.inr s4.2)
def Zdm (a:Zl) (b:List Int) (c:Int):Option (ZJ×Int):=(ZhD a b c).bind fun x0=>bif (x0.2 != 0) then some ((ZJ.mk (Zw.mk ([]:List Int) ([]:List Int)) ([]:List Za) ([]:List Zb) ([]:List Int)),x0.2) else (lp (ZcX c) (0,([]:List Za),([]:List Zb),([]:List Int))).bind fun r2=>(ZcN a x0.1).bind fun x3=>(lp (Zd9 c x3) (0,r2.1)).bind fun r9=>some ((ZJ.mk x0.1 r9 r2.2.1 r2.2.2),0)
def ZeE (a:Za) (b:Int):Option Int:=bif (decide (b<0)) then bif ((a.ring.length:Int)==0) then none else (Zs a.ring (Int.tmod 0 (a.ring.length:Int))).bind fun x0=>some x0 else bif ((a.ring.length:Int)==0) then none else (Zs a.ring (Int.tmod b (a.ring.length:Int))).bind fun x1=>some x1
def Zb2 (a:Za) (s0:Int×(List Int)):Option ((Int×(List Int))⊕(List Int)):=bif (decide (s0.1<(w64 (a.bottom-a.top)))) then (ZeE a (w64 (a.top+s0.1))).bind fun x1=>bif (Nat.ble (s0.2.length+1) lim) then some (.inl ((w64 (s0.1+1)),(s0.2++[x1]))) else none else some (.inr s0.2)
def ZfS (a:Za):Option (List Int):=(lp (Zb2 a) (0,([]:List Int))).bind fun r2=>some r2
def Zb3 (a:ZJ) (s0:Int×Int):Option ((Int×Int)⊕Int):=bif (decide (s0.2<(a.deques.length:Int))) then (Zs a.deques s0.2).bind fun x1=>(ZfS x1).bind fun x2=>some (.inl ((w64 (s0.1+(x2.length:Int))),(w64 (s0.2+1)))) else some (.inr s0.1)
def Zc6 (a:ZJ) (r3:Int) (s4:Int×(List Int)):Option ((Int×(List Int))⊕(List Int)):=bif (decide (s4.1<(a.crew.on.length:Int))) then (Zs a.crew.on s4.1).bind fun x5=>bif (decide (x5<0)) then bif (decide (0<r3)) then bif (Nat.ble (s4.2.length+1) lim) then some (.inl ((w64 (s4.1+1)),(s4.2++[s4.1]))) else none else (Zs a.takers s4.1).bind fun x6=>bif (x6.at_ != 0) then bif (Nat.ble (s4.2.length+1) lim) then some (.inl ((w64 (s4.1+1)),(s4.2++[s4.1]))) else none else some (.inl ((w64 (s4.1+1)),s4.2)) else some (.inl ((w64 (s4.1+1)),s4.2)) else some (.inr s4.2)
def ZfL (a:ZJ):Option (List Int):=(lp (Zb3 a) (0,0)).bind fun r3=>(lp (Zc6 a r3) (0,([]:List Int))).bind fun r7=>some r7
def Z8 (a:Za) (b:Zb):Option (Za×Zb):=bif (b.at_==0) then some (a,(Zb.mk b.steal 1 a.top b.bottom b.got b.end_)) else bif (b.at_==1) then bif (decide (a.bottom<=b.top)) then some (a,(Zb.mk b.steal b.at_ b.top a.bottom b.got 2)) else some (a,(Zb.mk b.steal 2 b.top a.bottom b.got b.end_)) else bif (b.at_==2) then (ZeE a b.top).bind fun x0=>some (a,(Zb.mk b.steal 3 b.top b.bottom x0 b.end_)) else bif (a.top==b.top) then some ((Za.mk a.ring (w64 (a.top+1)) a.bottom),(Zb.mk b.steal b.at_ b.top b.bottom b.got 1)) else some (a,(Zb.mk b.steal b.at_ b.top b.bottom 0 3))
def Z7 (a:Za) (b:Zb):Option (Za×Zb):=bif (b.at_==0) then some ((Za.mk a.ring a.top (w64 (a.bottom-1))),(Zb.mk b.steal 1 b.top (w64 (a.bottom-1)) b.got b.end_)) else bif (b.at_==1) then bif (decide (a.top<b.bottom)) then (ZeE a b.bottom).bind fun x0=>some (a,(Zb.mk b.steal b.at_ a.top b.bottom x0 1)) else bif (a.top==b.bottom) then some (a,(Zb.mk b.steal 2 a.top b.bottom b.got b.end_)) else some (a,(Zb.mk b.steal 3 a.top b.bottom b.got b.end_)) else bif (b.at_==2) then bif (a.top==b.top) then (ZeE (Za.mk a.ring (w64 (a.top+1)) a.bottom) b.bottom).bind fun x1=>some ((Za.mk a.ring (w64 (a.top+1)) a.bottom),(Zb.mk b.steal 4 b.top b.bottom x1 b.end_)) else some (a,(Zb.mk b.steal 3 b.top b.bottom b.got b.end_)) else bif (b.at_==3) then some ((Za.mk a.ring a.top (w64 (b.bottom+1))),(Zb.mk b.steal b.at_ b.top b.bottom b.got 2)) else some ((Za.mk a.ring a.top (w64 (b.bottom+1))),(Zb.mk b.steal b.at_ b.top b.bottom b.got 1))
def Zdt (a:Za) (b:Zb):Option (Za×Zb×Int):=(Zv a).bind fun x0=>bif x0 then bif (decide (b.top<(-1))) then bif (b.end_ != 0) then some ((Za.mk ([]:List Int) 0 0),(Zb.mk false 0 0 0 0 0),122) else bif (decide (b.at_<0)) then some ((Za.mk ([]:List Int) 0 0),(Zb.mk false 0 0 0 0 0),122) else bif (decide (4<b.at_)) then some ((Za.mk ([]:List Int) 0 0),(Zb.mk false 0 0 0 0 0),122) else bif b.steal then bif (decide (3<b.at_)) then some ((Za.mk ([]:List Int) 0 0),(Zb.mk false 0 0 0 0 0),122) else bif (decide (0<b.at_)) then some ((Za.mk ([]:List Int) 0 0),(Zb.mk false 0 0 0 0 0),122) else bif b.steal then (Z8 a b).bind fun x1=>(Zv x1.1).bind fun x2=>bif x2 then some (x1.1,x1.2,0) else some ((Za.mk ([]:List Int) 0 0),(Zb.mk false 0 0 0 0 0),120) else (Z7 a b).bind fun x3=>(Zv x3.1).bind fun x4=>bif x4 then some (x3.1,x3.2,0) else some ((Za.mk ([]:List Int) 0 0),(Zb.mk false 0 0 0 0 0),120) else bif (decide (0<b.at_)) then some ((Za.mk ([]:List Int) 0 0),(Zb.mk false 0 0 0 0 0),122) else bif b.steal then (Z8 a b).bind fun x5=>(Zv x5.1).bind fun x6=>bif x6 then some (x5.1,x5.2,0) else some ((Za.mk ([]:List Int) 0 0),(Zb.mk false 0 0 0 0 0),120) else (Z7 a b).bind fun x7=>(Zv x7.1).bind fun x8=>bif x8 then some (x7.1,x7.2,0) else some ((Za.mk ([]:List Int) 0 0),(Zb.mk false 0 0 0 0 0),120) else bif (decide (1099511627775<b.top)) then bif (b.end_ != 0) then some ((Za.mk ([]:List Int) 0 0),(Zb.mk false 0 0 0 0 0),122) else bif (decide (b.at_<0)) then some ((Za.mk ([]:List Int) 0 0),(Zb.mk false 0 0 0 0 0),122) else bif (decide (4<b.at_)) then some ((Za.mk ([]:List Int) 0 0),(Zb.mk false 0 0 0 0 0),122) else bif b.steal then bif (decide (3<b.at_)) then some ((Za.mk ([]:List Int) 0 0),(Zb.mk false 0 0 0 0 0),122) else bif (decide (0<b.at_)) then some ((Za.mk ([]:List Int) 0 0),(Zb.mk false 0 0 0 0 0),122) else bif b.steal then (Z8 a b).bind fun x9=>(Zv x9.1).bind fun x10=>bif x10 then some (x9.1,x9.2,0) else some ((Za.mk ([]:List Int) 0 0),(Zb.mk false 0 0 0 0 0),120) else (Z7 a b).bind fun x11=>(Zv x11.1).bind fun x12=>bif x12 then some (x11.1,x11.2,0) else some ((Za.mk ([]:List Int) 0 0),(Zb.mk false 0 0 0 0 0),120) else bif (decide (0<b.at_)) then some ((Za.mk ([]:List Int) 0 0),(Zb.mk false 0 0 0 0 0),122) else bif b.steal then (Z8 a b).bind fun x13=>(Zv x13.1).bind fun x14=>bif x14 then some (x13.1,x13.2,0) else some ((Za.mk ([]:List Int) 0 0),(Zb.mk false 0 0 0 0 0),120) else (Z7 a b).bind fun x15=>(Zv x15.1).bind fun x16=>bif x16 then some (x15.1,x15.2,0) else some ((Za.mk ([]:List Int) 0 0),(Zb.mk false 0 0 0 0 0),120) else bif (decide (b.bottom<(-1))) then bif (b.end_ != 0) then some ((Za.mk ([]:List Int) 0 0),(Zb.mk false 0 0 0 0 0),122) else bif (decide (b.at_<0)) then some ((Za.mk ([]:List Int) 0 0),(Zb.mk false 0 0 0 0 0),122) else bif (decide (4<b.at_)) then some ((Za.mk ([]:List Int) 0 0),(Zb.mk false 0 0 0 0 0),122) else bif b.steal then bif (decide (3<b.at_)) then some ((Za.mk ([]:List Int) 0 0),(Zb.mk false 0 0 0 0 0),122) else bif (decide (0<b.at_)) then some ((Za.mk ([]:List Int) 0 0),(Zb.mk false 0 0 0 0 0),122) else bif b.steal then (Z8 a b).bind fun x17=>(Zv x17.1).bind fun x18=>bif x18 then some (x17.1,x17.2,0) else some ((Za.mk ([]:List Int) 0 0),(Zb.mk false 0 0 0 0 0),120) else (Z7 a b).bind fun x19=>(Zv x19.1).bind fun x20=>bif x20 then some (x19.1,x19.2,0) else some ((Za.mk ([]:List Int) 0 0),(Zb.mk false 0 0 0 0 0),120) else bif (decide (0<b.at_)) then some ((Za.mk ([]:List Int) 0 0),(Zb.mk false 0 0 0 0 0),122) else bif b.steal then (Z8 a b).bind fun x21=>(Zv x21.1).bind fun x22=>bif x22 then some (x21.1,x21.2,0) else some ((Za.mk ([]:List Int) 0 0),(Zb.mk false 0 0 0 0 0),120) else (Z7 a b).bind fun x23=>(Zv x23.1).bind fun x24=>bif x24 then some (x23.1,x23.2,0) else some ((Za.mk ([]:List Int) 0 0),(Zb.mk false 0 0 0 0 0),120) else bif (decide (1099511627775<b.bottom)) then bif (b.end_ != 0) then some ((Za.mk ([]:List Int) 0 0),(Zb.mk false 0 0 0 0 0),122) else bif (decide (b.at_<0)) then some ((Za.mk ([]:List Int) 0 0),(Zb.mk false 0 0 0 0 0),122) else bif (decide (4<b.at_)) then some ((Za.mk ([]:List Int) 0 0),(Zb.mk false 0 0 0 0 0),122) else bif b.steal then bif (decide (3<b.at_)) then some ((Za.mk ([]:List Int) 0 0),(Zb.mk false 0 0 0 0 0),122) else bif (decide (0<b.at_)) then some ((Za.mk ([]:List Int) 0 0),(Zb.mk false 0 0 0 0 0),122) else bif b.steal then (Z8 a b).bind fun x25=>(Zv x25.1).bind fun x26=>bif x26 then some (x25.1,x25.2,0) else some ((Za.mk ([]:List Int) 0 0),(Zb.mk false 0 0 0 0 0),120) else (Z7 a b).bind fun x27=>(Zv x27.1).bind fun x28=>bif x28 then some (x27.1,x27.2,0) else some ((Za.mk ([]:List Int) 0 0),(Zb.mk false 0 0 0 0 0),120) else bif (decide (0<b.at_)) then some ((Za.mk ([]:List Int) 0 0),(Zb.mk false 0 0 0 0 0),122) else bif b.steal then (Z8 a b).bind fun x29=>(Zv x29.1).bind fun x30=>bif x30 then some (x29.1,x29.2,0) else some ((Za.mk ([]:List Int) 0 0),(Zb.mk false 0 0 0 0 0),120) else (Z7 a b).bind fun x31=>(Zv x31.1).bind fun x32=>bif x32 then some (x31.1,x31.2,0) else some ((Za.mk ([]:List Int) 0 0),(Zb.mk false 0 0 0 0 0),120) else bif (b.end_ != 0) then some ((Za.mk ([]:List Int) 0 0),(Zb.mk false 0 0 0 0 0),122) else bif (decide (b.at_<0)) then some ((Za.mk ([]:List Int) 0 0),(Zb.mk false 0 0 0 0 0),122) else bif (decide (4<b.at_)) then some ((Za.mk ([]:List Int) 0 0),(Zb.mk false 0 0 0 0 0),122) else bif b.steal then bif (decide (3<b.at_)) then some ((Za.mk ([]:List Int) 0 0),(Zb.mk false 0 0 0 0 0),122) else bif (decide (0<b.at_)) then bif b.steal then (Z8 a b).bind fun x33=>(Zv x33.1).bind fun x34=>bif x34 then some (x33.1,x33.2,0) else some ((Za.mk ([]:List Int) 0 0),(Zb.mk false 0 0 0 0 0),120) else (Z7 a b).bind fun x35=>(Zv x35.1).bind fun x36=>bif x36 then some (x35.1,x35.2,0) else some ((Za.mk ([]:List Int) 0 0),(Zb.mk false 0 0 0 0 0),120) else bif b.steal then (Z8 a b).bind fun x37=>(Zv x37.1).bind fun x38=>bif x38 then some (x37.1,x37.2,0) else some ((Za.mk ([]:List Int) 0 0),(Zb.mk false 0 0 0 0 0),120) else (Z7 a b).bind fun x39=>(Zv x39.1).bind fun x40=>bif x40 then some (x39.1,x39.2,0) else some ((Za.mk ([]:List Int) 0 0),(Zb.mk false 0 0 0 0 0),120) else bif (decide (0<b.at_)) then bif b.steal then (Z8 a b).bind fun x41=>(Zv x41.1).bind fun x42=>bif x42 then some (x41.1,x41.2,0) else some ((Za.mk ([]:List Int) 0 0),(Zb.mk false 0 0 0 0 0),120) else (Z7 a b).bind fun x43=>(Zv x43.1).bind fun x44=>bif x44 then some (x43.1,x43.2,0) else some ((Za.mk ([]:List Int) 0 0),(Zb.mk false 0 0 0 0 0),120) else bif b.steal then (Z8 a b).bind fun x45=>(Zv x45.1).bind fun x46=>bif x46 then some (x45.1,x45.2,0) else some ((Za.mk ([]:List Int) 0 0),(Zb.mk false 0 0 0 0 0),120) else (Z7 a b).bind fun x47=>(Zv x47.1).bind fun x48=>bif x48 then some (x47.1,x47.2,0) else some ((Za.mk ([]:List Int) 0 0),(Zb.mk false 0 0 0 0 0),120) else some ((Za.mk ([]:List Int) 0 0),(Zb.mk false 0 0 0 0 0),120)
def Zav (a:ZJ) (b:Int) (c:Za):Option ZJ:=bif (Nat.ble (a.deques.length) lim) then (Zs a.deques b).bind fun x0=>some (ZJ.mk a.crew (List.set a.deques b.toNat c) a.takers a.from_) else none
def Z5 (a:ZJ) (b:Int) (c:Zb) (d:Int):Option ZJ:=bif (Nat.ble (a.takers.length) lim) then bif (Nat.ble (a.from_.length) lim) then (Zs a.takers b).bind fun x0=>(Zs a.from_ b).bind fun x1=>some (ZJ.mk a.crew a.deques (List.set a.takers b.toNat c) (List.set a.from_ b.toNat d)) else none else none
def Zbn (a2:List Zb) (a3:List Int) (b:Int) (c:Zb) (d:Int):Option Unit:=bif (Nat.ble (a2.length) lim) then bif (Nat.ble (a3.length) lim) then (Zs a2 b).bind fun x0=>(Zs a3 b).bind fun x1=>some () else none else none
def Zdq (a:Zl) (b:ZJ) (c:Int):Option (ZJ×Int):=(Zs b.from_ c).bind fun x0=>bif (decide ((b.crew.on.length:Int)<=(w64 (c+x0)))) then (Zs b.deques (w64 ((w64 (c+x0))-(b.crew.on.length:Int)))).bind fun x1=>(Zs b.takers c).bind fun x2=>(Zdt x1 x2).bind fun x3=>bif (x3.2.2 != 0) then some ((ZJ.mk (Zw.mk ([]:List Int) ([]:List Int)) ([]:List Za) ([]:List Zb) ([]:List Int)),130) else (Zav b (w64 ((w64 (c+x0))-(b.crew.on.length:Int))) x3.1).bind fun x4=>(Z5 x4 c x3.2.1 x0).bind fun x5=>bif (x3.2.1.end_==0) then some (x5,0) else bif (x3.2.1.end_ != 1) then (Zs x5.from_ c).bind fun x6=>bif ((w64 (x6+1))==(b.crew.on.length:Int)) then (Z5 x5 c (Zb.mk false 0 0 0 0 0) 0).bind fun x7=>some (x7,0) else bif (decide (0<(w64 (x6+1)))) then (Z5 x5 c (Zb.mk true 0 0 0 0 0) (w64 (x6+1))).bind fun x8=>some (x8,0) else (Z5 x5 c (Zb.mk false 0 0 0 0 0) (w64 (x6+1))).bind fun x9=>some (x9,0) else (ZcN a x5.crew).bind fun x10=>(Zb0 x10 x3.2.1.got).bind fun x11=>bif x11 then bif (Nat.ble (x5.crew.on.length) lim) then (Zs x5.crew.on c).bind fun x12=>(Zbn x5.takers x5.from_ c (Zb.mk false 0 0 0 0 0) 0).bind fun x13=>some ((ZJ.mk (Zw.mk (List.set x5.crew.on c.toNat x3.2.1.got) x5.crew.left) x5.deques (List.set x5.takers c.toNat (Zb.mk false 0 0 0 0 0)) (List.set x5.from_ c.toNat 0)),0) else none else some ((ZJ.mk (Zw.mk ([]:List Int) ([]:List Int)) ([]:List Za) ([]:List Zb) ([]:List Int)),130) else (Zs b.deques (w64 (c+x0))).bind fun x14=>(Zs b.takers c).bind fun x15=>(Zdt x14 x15).bind fun x16=>bif (x16.2.2 != 0) then some ((ZJ.mk (Zw.mk ([]:List Int) ([]:List Int)) ([]:List Za) ([]:List Zb) ([]:List Int)),130) else (Zav b (w64 (c+x0)) x16.1).bind fun x17=>(Z5 x17 c x16.2.1 x0).bind fun x18=>bif (x16.2.1.end_==0) then some (x18,0) else bif (x16.2.1.end_ != 1) then (Zs x18.from_ c).bind fun x19=>bif ((w64 (x19+1))==(b.crew.on.length:Int)) then (Z5 x18 c (Zb.mk false 0 0 0 0 0) 0).bind fun x20=>some (x20,0) else bif (decide (0<(w64 (x19+1)))) then (Z5 x18 c (Zb.mk true 0 0 0 0 0) (w64 (x19+1))).bind fun x21=>some (x21,0) else (Z5 x18 c (Zb.mk false 0 0 0 0 0) (w64 (x19+1))).bind fun x22=>some (x22,0) else (ZcN a x18.crew).bind fun x23=>(Zb0 x23 x16.2.1.got).bind fun x24=>bif x24 then bif (Nat.ble (x18.crew.on.length) lim) then (Zs x18.crew.on c).bind fun x25=>(Zbn x18.takers x18.from_ c (Zb.mk false 0 0 0 0 0) 0).bind fun x26=>some ((ZJ.mk (Zw.mk (List.set x18.crew.on c.toNat x16.2.1.got) x18.crew.left) x18.deques (List.set x18.takers c.toNat (Zb.mk false 0 0 0 0 0)) (List.set x18.from_ c.toNat 0)),0) else none else some ((ZJ.mk (Zw.mk ([]:List Int) ([]:List Int)) ([]:List Za) ([]:List Zb) ([]:List Int)),130)
def ZdA (s0:Int×Int×(List Int)×(List Int)×(List Za)×(List Zb)×(List Int)) (x1:List Int) (s3:Int×Int):Option ((Int×Int)⊕Int):=bif (decide (0<=s3.2)) then (Zs x1 s3.2).bind fun x4=>bif (decide (s0.1<x4)) then some (.inl (x4,(w64 (s3.2-1)))) else some (.inl (s3.1,(w64 (s3.2-1)))) else some (.inr s3.1)
def ZdJ (a:Zl) (c:List Int) (s0:Int×Int×(List Int)×(List Int)×(List Za)×(List Zb)×(List Int)):Option ((Int×Int×(List Int)×(List Int)×(List Za)×(List Zb)×(List Int))⊕((Int×(List Int)×(List Int)×(List Za)×(List Zb)×(List Int))⊕Int)):=(ZfL (ZJ.mk (Zw.mk s0.2.2.1 s0.2.2.2.1) s0.2.2.2.2.1 s0.2.2.2.2.2.1 s0.2.2.2.2.2.2)).bind fun x1=>bif ((x1.length:Int)==0) then some (.inr (.inl (s0.2.1,s0.2.2.1,s0.2.2.2.1,s0.2.2.2.2.1,s0.2.2.2.2.2.1,s0.2.2.2.2.2.2))) else (Zs x1 0).bind fun x2=>(lp (ZdA s0 x1) (x2,(w64 ((x1.length:Int)-1)))).bind fun r5=>bif (decide (s0.2.1<(c.length:Int))) then (Zs c s0.2.1).bind fun x6=>bif ((x1.length:Int)==0) then none else (Zs x1 (Int.tmod (bif decide (x6<0) then 0 else x6) (x1.length:Int))).bind fun x7=>(Zdq a (ZJ.mk (Zw.mk s0.2.2.1 s0.2.2.2.1) s0.2.2.2.2.1 s0.2.2.2.2.2.1 s0.2.2.2.2.2.2) x7).bind fun x8=>bif (x8.2 != 0) then some (.inr (.inr x8.2)) else some (.inl (x7,(w64 (s0.2.1+1)),x8.1.crew.on,x8.1.crew.left,x8.1.deques,x8.1.takers,x8.1.from_)) else (Zdq a (ZJ.mk (Zw.mk s0.2.2.1 s0.2.2.2.1) s0.2.2.2.2.1 s0.2.2.2.2.2.1 s0.2.2.2.2.2.2) r5).bind fun x9=>bif (x9.2 != 0) then some (.inr (.inr x9.2)) else some (.inl (r5,(w64 (s0.2.1+1)),x9.1.crew.on,x9.1.crew.left,x9.1.deques,x9.1.takers,x9.1.from_))
def Ze8 (a:Zl) (b:ZJ) (c:List Int):Option (ZJ×Int×Int):=(lp (ZdJ a c) ((-1),0,b.crew.on,b.crew.left,b.deques,b.takers,b.from_)).bind fun r10=>match r10 with | (.inl r10)=>some ((ZJ.mk (Zw.mk r10.2.1 r10.2.2.1) r10.2.2.2.1 r10.2.2.2.2.1 r10.2.2.2.2.2),r10.1,0) | (.inr r10)=>some ((ZJ.mk (Zw.mk ([]:List Int) ([]:List Int)) ([]:List Za) ([]:List Zb) ([]:List Int)),0,r10)
def Zda (b:Zw) (s1:Int):Option (Int⊕(Unit⊕Unit)):=bif (decide (s1<(b.left.length:Int))) then (Zs b.left s1).bind fun x2=>bif (decide (x2<0)) then some (.inr (.inl ())) else bif (decide (1000<x2)) then some (.inr (.inl ())) else some (.inl (w64 (s1+1))) else some (.inr (.inr ()))
def Zc3 (a:Zl) (b:Zw) (s4:Int):Option (Int⊕(Unit⊕Unit)):=bif (decide (s4<(b.left.length:Int))) then (Zs b.left s4).bind fun x5=>bif (x5==0) then (Zee a b s4).bind fun x6=>bif x6 then some (.inl (w64 (s4+1))) else some (.inr (.inl ())) else some (.inl (w64 (s4+1))) else some (.inr (.inr ()))
def Zc0 (a:Zl) (b:Zw) (s8:Int):Option (Int⊕(Unit⊕Unit)):=bif (decide (s8<(b.on.length:Int))) then (Zs b.on s8).bind fun x9=>bif (decide (x9<(-1))) then some (.inr (.inl ())) else bif (decide ((b.left.length:Int)<=x9)) then some (.inr (.inl ())) else bif (decide (0<=x9)) then (Zs b.left x9).bind fun x10=>bif (x10==0) then some (.inr (.inl ())) else (Zee a b x9).bind fun x11=>bif x11 then bif (decide (0<=s8)) then bif (Nat.ble s8.toNat (b.on.length)) then (Zb0 (List.take s8.toNat b.on) x9).bind fun x12=>bif x12 then some (.inr (.inl ())) else some (.inl (w64 (s8+1))) else none else none else some (.inr (.inl ())) else some (.inl (w64 (s8+1))) else some (.inr (.inr ()))
def ZfU (a:Zl) (b:Zw):Option Int:=(Zew a).bind fun x0=>bif (x0 != 0) then some x0 else bif (decide ((b.on.length:Int)<1)) then some 110 else bif (decide (8<(b.on.length:Int))) then some 110 else bif ((b.left.length:Int) != (a.work.length:Int)) then some 110 else (lp (Zda b) 0).bind fun r3=>match r3 with | (.inl r3)=>some 110 | (.inr r3)=>(lp (Zc3 a b) 0).bind fun r7=>match r7 with | (.inl r7)=>some 110 | (.inr r7)=>(lp (Zc0 a b) 0).bind fun r13=>match r13 with | (.inl r13)=>some 110 | (.inr r13)=>some 0
def Zc4 (b:ZJ) (s1:Int):Option (Int⊕(Unit⊕Unit)):=bif (decide (s1<(b.crew.on.length:Int))) then (Zs b.takers s1).bind fun x2=>(Zs b.deques s1).bind fun x3=>(Zv x3).bind fun x4=>bif x4 then bif ((x3.ring.length:Int) != 64) then some (.inr (.inl ())) else bif (x2.end_ != 0) then some (.inr (.inl ())) else (Zs b.from_ s1).bind fun x5=>bif (decide (x5<0)) then some (.inr (.inl ())) else bif (decide ((b.crew.on.length:Int)<=x5)) then some (.inr (.inl ())) else bif x2.steal then bif (x5==0) then some (.inr (.inl ())) else bif x2.steal then bif (x2.at_==0) then bif (x2.top==0) then bif (x2.bottom==0) then bif (x2.got==0) then (Zs b.crew.on s1).bind fun x6=>bif (decide (0<=x6)) then bif (x5 != 0) then some (.inr (.inl ())) else some (.inl (w64 (s1+1))) else some (.inl (w64 (s1+1))) else (Zs b.crew.on s1).bind fun x7=>bif (decide (0<=x7)) then some (.inr (.inl ())) else some (.inl (w64 (s1+1))) else (Zs b.crew.on s1).bind fun x8=>bif (decide (0<=x8)) then some (.inr (.inl ())) else some (.inl (w64 (s1+1))) else (Zs b.crew.on s1).bind fun x9=>bif (decide (0<=x9)) then some (.inr (.inl ())) else some (.inl (w64 (s1+1))) else (Zs b.crew.on s1).bind fun x10=>bif (decide (0<=x10)) then some (.inr (.inl ())) else some (.inl (w64 (s1+1))) else bif (decide (0<x5)) then some (.inr (.inl ())) else bif (x2.at_==0) then bif (x2.top==0) then bif (x2.bottom==0) then bif (x2.got==0) then (Zs b.crew.on s1).bind fun x11=>bif (decide (0<=x11)) then bif (x5 != 0) then some (.inr (.inl ())) else some (.inl (w64 (s1+1))) else some (.inl (w64 (s1+1))) else (Zs b.crew.on s1).bind fun x12=>bif (decide (0<=x12)) then some (.inr (.inl ())) else some (.inl (w64 (s1+1))) else (Zs b.crew.on s1).bind fun x13=>bif (decide (0<=x13)) then some (.inr (.inl ())) else some (.inl (w64 (s1+1))) else (Zs b.crew.on s1).bind fun x14=>bif (decide (0<=x14)) then some (.inr (.inl ())) else some (.inl (w64 (s1+1))) else (Zs b.crew.on s1).bind fun x15=>bif (decide (0<=x15)) then some (.inr (.inl ())) else some (.inl (w64 (s1+1))) else bif x2.steal then bif (x2.at_==0) then bif (x2.top==0) then bif (x2.bottom==0) then bif (x2.got==0) then (Zs b.crew.on s1).bind fun x16=>bif (decide (0<=x16)) then bif (x5 != 0) then some (.inr (.inl ())) else some (.inl (w64 (s1+1))) else some (.inl (w64 (s1+1))) else (Zs b.crew.on s1).bind fun x17=>bif (decide (0<=x17)) then some (.inr (.inl ())) else some (.inl (w64 (s1+1))) else (Zs b.crew.on s1).bind fun x18=>bif (decide (0<=x18)) then some (.inr (.inl ())) else some (.inl (w64 (s1+1))) else (Zs b.crew.on s1).bind fun x19=>bif (decide (0<=x19)) then some (.inr (.inl ())) else some (.inl (w64 (s1+1))) else (Zs b.crew.on s1).bind fun x20=>bif (decide (0<=x20)) then some (.inr (.inl ())) else some (.inl (w64 (s1+1))) else bif (decide (0<x5)) then some (.inr (.inl ())) else bif (x2.at_==0) then bif (x2.top==0) then bif (x2.bottom==0) then bif (x2.got==0) then (Zs b.crew.on s1).bind fun x21=>bif (decide (0<=x21)) then bif (x5 != 0) then some (.inr (.inl ())) else some (.inl (w64 (s1+1))) else some (.inl (w64 (s1+1))) else (Zs b.crew.on s1).bind fun x22=>bif (decide (0<=x22)) then some (.inr (.inl ())) else some (.inl (w64 (s1+1))) else (Zs b.crew.on s1).bind fun x23=>bif (decide (0<=x23)) then some (.inr (.inl ())) else some (.inl (w64 (s1+1))) else (Zs b.crew.on s1).bind fun x24=>bif (decide (0<=x24)) then some (.inr (.inl ())) else some (.inl (w64 (s1+1))) else (Zs b.crew.on s1).bind fun x25=>bif (decide (0<=x25)) then some (.inr (.inl ())) else some (.inl (w64 (s1+1))) else some (.inr (.inl ())) else some (.inr (.inr ()))
def ZfJ (a:Zl) (b:ZJ):Option Int:=(ZfU a b.crew).bind fun x0=>bif (x0 != 0) then some x0 else bif ((b.deques.length:Int) != (b.crew.on.length:Int)) then some 130 else bif ((b.takers.length:Int) != (b.crew.on.length:Int)) then some 130 else bif ((b.from_.length:Int) != (b.crew.on.length:Int)) then some 130 else (lp (Zc4 b) 0).bind fun r26=>match r26 with | (.inl r26)=>some 130 | (.inr r26)=>some 0
def Zcw (a:Zw) (s0:Int×(List Int)×(List Int)×(List Int)) (s1:Int×(List Int)×(List Int)×(List Int)):Option ((Int×(List Int)×(List Int)×(List Int))⊕((List Int)×(List Int)×(List Int))):=bif (decide (s1.1<(a.on.length:Int))) then (Zs a.on s1.1).bind fun x2=>bif (x2 != s0.1) then some (.inl ((w64 (s1.1+1)),s1.2.1,s1.2.2.1,s1.2.2.2)) else (Zs a.left s0.1).bind fun x3=>(Zs s1.2.2.2 s0.1).bind fun x4=>(Zs (List.set s1.2.2.2 s0.1.toNat (w64 (x3-1))) s0.1).bind fun x5=>bif (x5==0) then (Zs s1.2.2.1 s1.1).bind fun x6=>bif (Nat.ble (s1.2.1.length+1) lim) then some (.inl ((w64 (s1.1+1)),(s1.2.1++[s0.1]),(List.set s1.2.2.1 s1.1.toNat (-1)),(List.set s1.2.2.2 s0.1.toNat (w64 (x3-1))))) else none else some (.inl ((w64 (s1.1+1)),s1.2.1,s1.2.2.1,(List.set s1.2.2.2 s0.1.toNat (w64 (x3-1))))) else some (.inr (s1.2.1,s1.2.2.1,s1.2.2.2))
def Zcy (a:Zw) (s0:Int×(List Int)×(List Int)×(List Int)):Option ((Int×(List Int)×(List Int)×(List Int))⊕((List Int)×(List Int)×(List Int))):=bif (decide (s0.1<(a.left.length:Int))) then (lp (Zcw a s0) (0,s0.2.1,s0.2.2.1,s0.2.2.2)).bind fun r7=>some (.inl ((w64 (s0.1+1)),r7.1,r7.2.1,r7.2.2)) else some (.inr (s0.2.1,s0.2.2.1,s0.2.2.2))
def ZgF (a:Zw):Option (Zw×(List Int)):=bif (Nat.ble (a.on.length) lim) then bif (Nat.ble (a.left.length) lim) then (lp (Zcy a) (0,([]:List Int),a.on,a.left)).bind fun r8=>some ((Zw.mk r8.2.1 r8.2.2),r8.1) else none else none
def Zdi (a:Zl) (b:Int) (s0:Int×(List Int)):Option ((Int×(List Int))⊕(List Int)):=bif (decide (s0.1<(a.work.length:Int))) then (Ze4 a b s0.1).bind fun x1=>bif x1 then bif (Nat.ble (s0.2.length+1) lim) then some (.inl ((w64 (s0.1+1)),(s0.2++[s0.1]))) else none else some (.inl ((w64 (s0.1+1)),s0.2)) else some (.inr s0.2)
def ZfQ (a:Zl) (b:Int):Option (List Int):=(lp (Zdi a b) (0,([]:List Int))).bind fun r2=>some r2
def ZeB (x2:List Int) (s3:Int×(List Int)×(List Int)×(List Za)×(List Zb)×(List Int)×(List Int)) (x6:List Int) (s7:Int×(List Int)×(List Int)×(List Za)×(List Zb)×(List Int)×(List Int)):Option ((Int×(List Int)×(List Int)×(List Za)×(List Zb)×(List Int)×(List Int))⊕(((List Int)×(List Int)×(List Za)×(List Zb)×(List Int)×(List Int))⊕((List Int)×(List Int)×(List Za)×(List Zb)×(List Int)×(List Int)))):=bif (decide (s7.1<(x6.length:Int))) then (Zs x6 s7.1).bind fun x8=>(Zb0 x2 x8).bind fun x9=>bif x9 then (Zb0 s7.2.2.2.2.2.2 x8).bind fun x10=>bif x10 then some (.inl ((w64 (s7.1+1)),s7.2.1,s7.2.2.1,s7.2.2.2.1,s7.2.2.2.2.1,s7.2.2.2.2.2.1,s7.2.2.2.2.2.2)) else (Zs s7.2.2.2.1 s3.1).bind fun x11=>(Zeo x11 x8).bind fun x12=>bif (x12.2 != 0) then some (.inr (.inl (s7.2.1,s7.2.2.1,s7.2.2.2.1,s7.2.2.2.2.1,s7.2.2.2.2.2.1,s7.2.2.2.2.2.2))) else (Zav (ZJ.mk (Zw.mk s7.2.1 s7.2.2.1) s7.2.2.2.1 s7.2.2.2.2.1 s7.2.2.2.2.2.1) s3.1 x12.1).bind fun x13=>bif (Nat.ble (s7.2.2.2.2.2.2.length+1) lim) then some (.inl ((w64 (s7.1+1)),x13.crew.on,x13.crew.left,x13.deques,x13.takers,x13.from_,(s7.2.2.2.2.2.2++[x8]))) else none else some (.inl ((w64 (s7.1+1)),s7.2.1,s7.2.2.1,s7.2.2.2.1,s7.2.2.2.2.1,s7.2.2.2.2.2.1,s7.2.2.2.2.2.2)) else some (.inr (.inr (s7.2.1,s7.2.2.1,s7.2.2.2.1,s7.2.2.2.2.1,s7.2.2.2.2.2.1,s7.2.2.2.2.2.2)))
def ZdH (a:Zl) (b:ZJ) (x1:(Zw×(List Int))) (x2:List Int) (s3:Int×(List Int)×(List Int)×(List Za)×(List Zb)×(List Int)×(List Int)):Option ((Int×(List Int)×(List Int)×(List Za)×(List Zb)×(List Int)×(List Int))⊕(((List Int)×(List Int)×(List Za)×(List Zb)×(List Int))⊕((List Int)×(List Int)×(List Za)×(List Zb)×(List Int)))):=bif (decide (s3.1<(b.crew.on.length:Int))) then (Zs b.crew.on s3.1).bind fun x4=>bif (decide (x4<0)) then some (.inl ((w64 (s3.1+1)),s3.2.1,s3.2.2.1,s3.2.2.2.1,s3.2.2.2.2.1,s3.2.2.2.2.2.1,s3.2.2.2.2.2.2)) else (Zb0 x1.2 x4).bind fun x5=>bif x5 then (ZfQ a x4).bind fun x6=>(lp (ZeB x2 s3 x6) (0,s3.2.1,s3.2.2.1,s3.2.2.2.1,s3.2.2.2.2.1,s3.2.2.2.2.2.1,s3.2.2.2.2.2.2)).bind fun r14=>match r14 with | (.inl r14)=>some (.inr (.inl (r14.1,r14.2.1,r14.2.2.1,r14.2.2.2.1,r14.2.2.2.2.1))) | (.inr r14)=>some (.inl ((w64 (s3.1+1)),r14.1,r14.2.1,r14.2.2.1,r14.2.2.2.1,r14.2.2.2.2.1,r14.2.2.2.2.2)) else some (.inl ((w64 (s3.1+1)),s3.2.1,s3.2.2.1,s3.2.2.2.1,s3.2.2.2.2.1,s3.2.2.2.2.2.1,s3.2.2.2.2.2.2)) else some (.inr (.inr (s3.2.1,s3.2.2.1,s3.2.2.2.1,s3.2.2.2.2.1,s3.2.2.2.2.2.1)))
def Ze5 (a:Zl) (b:ZJ):Option (ZJ×(List Int)×Int):=(ZfJ a b).bind fun x0=>bif (x0 != 0) then some ((ZJ.mk (Zw.mk ([]:List Int) ([]:List Int)) ([]:List Za) ([]:List Zb) ([]:List Int)),([]:List Int),x0) else (ZgF b.crew).bind fun x1=>(ZcN a x1.1).bind fun x2=>(lp (ZdH a b x1 x2) (0,x1.1.on,x1.1.left,b.deques,b.takers,b.from_,([]:List Int))).bind fun r15=>match r15 with | (.inl r15)=>some ((ZJ.mk (Zw.mk ([]:List Int) ([]:List Int)) ([]:List Za) ([]:List Zb) ([]:List Int)),([]:List Int),130) | (.inr r15)=>some ((ZJ.mk (Zw.mk r15.1 r15.2.1) r15.2.2.1 r15.2.2.2.1 r15.2.2.2.2),x1.2,0)
def Zea (b:List Int) (s1:Int×Int):Option ((Int×Int)⊕Int):=bif (decide (s1.2<(b.length:Int))) then (Zs b s1.2).bind fun x2=>some (.inl ((w64 (s1.1+x2)),(w64 (s1.2+1)))) else some (.inr s1.1)
def Ze6 (x6:(ZJ×(List Int)×Int)) (s7:Int×Int):Option ((Int×Int)⊕Int):=bif (decide (s7.2<(x6.1.crew.left.length:Int))) then (Zs x6.1.crew.left s7.2).bind fun x8=>some (.inl ((w64 (s7.1+x8)),(w64 (s7.2+1)))) else some (.inr s7.1)
def Zep (x11:(ZJ×(List Int)×Int)) (s12:Int×Int):Option ((Int×Int)⊕Int):=bif (decide (s12.2<(x11.1.crew.left.length:Int))) then (Zs x11.1.crew.left s12.2).bind fun x13=>some (.inl ((w64 (s12.1+x13)),(w64 (s12.2+1)))) else some (.inr s12.1)
def Zcf (a:Zl) (d:List Int) (s4:Int×Int×(List Int)×(List Int)×(List Za)×(List Zb)×(List Int)×(List (List Int))):Option ((Int×Int×(List Int)×(List Int)×(List Za)×(List Zb)×(List Int)×(List (List Int)))⊕(Int×(List (List Int)))):=bif (decide (0<s4.1)) then bif (decide (s4.2.1<(d.length:Int))) then bif (decide (0<=s4.2.1)) then bif (Nat.ble s4.2.1.toNat (d.length)) then (Ze8 a (ZJ.mk (Zw.mk s4.2.2.1 s4.2.2.2.1) s4.2.2.2.2.1 s4.2.2.2.2.2.1 s4.2.2.2.2.2.2.1) (List.drop s4.2.1.toNat d)).bind fun x5=>bif (Nat.ble (x5.1.crew.on.length) lim) then bif (Nat.ble (s4.2.2.2.2.2.2.2.length+1) lim) then (Ze5 a x5.1).bind fun x6=>(lp (Ze6 x6) (0,0)).bind fun r9=>some (.inl (r9,(w64 (s4.2.1+x5.2.1)),x6.1.crew.on,x6.1.crew.left,x6.1.deques,x6.1.takers,x6.1.from_,(s4.2.2.2.2.2.2.2++[x5.1.crew.on]))) else none else none else none else none else (Ze8 a (ZJ.mk (Zw.mk s4.2.2.1 s4.2.2.2.1) s4.2.2.2.2.1 s4.2.2.2.2.2.1 s4.2.2.2.2.2.2.1) ([]:List Int)).bind fun x10=>bif (Nat.ble (x10.1.crew.on.length) lim) then bif (Nat.ble (s4.2.2.2.2.2.2.2.length+1) lim) then (Ze5 a x10.1).bind fun x11=>(lp (Zep x11) (0,0)).bind fun r14=>some (.inl (r14,(w64 (s4.2.1+x10.2.1)),x11.1.crew.on,x11.1.crew.left,x11.1.deques,x11.1.takers,x11.1.from_,(s4.2.2.2.2.2.2.2++[x10.1.crew.on]))) else none else none else some (.inr (s4.2.1,s4.2.2.2.2.2.2.2))
def ZeT (a:Zl) (b:List Int) (c:Int) (d:List Int):Option ((List (List Int))×Int×Int):=(Zdm a b c).bind fun x0=>bif (x0.2 != 0) then some (([]:List (List Int)),0,x0.2) else (lp (Zea b) (0,0)).bind fun r3=>bif (decide (4096<r3)) then some (([]:List (List Int)),0,100) else (lp (Zcf a d) (r3,0,x0.1.crew.on,x0.1.crew.left,x0.1.deques,x0.1.takers,x0.1.from_,([]:(List (List Int))))).bind fun r15=>some (r15.2,r15.1,0)
def ZdE (a:List Int) (b:List Int) (s0:Int):Option (Int⊕(Unit⊕Unit)):=bif (decide (s0<(a.length:Int))) then (Zs a s0).bind fun x1=>(Zs b s0).bind fun x2=>bif (x1 != x2) then some (.inr (.inl ())) else some (.inl (w64 (s0+1))) else some (.inr (.inr ()))
def ZcE (a:List Int) (b:List Int):Option Bool:=bif ((a.length:Int) != (b.length:Int)) then some false else (lp (ZdE a b) 0).bind fun r3=>match r3 with | (.inl r3)=>some false | (.inr r3)=>some true
def Zbm (a:(List (List Int))) (b:(List (List Int))) (s0:Int):Option (Int⊕(Unit⊕Unit)):=bif (decide (s0<(a.length:Int))) then (Zs a s0).bind fun x1=>(Zs b s0).bind fun x2=>(ZcE x1 x2).bind fun x3=>bif x3 then some (.inl (w64 (s0+1))) else some (.inr (.inl ())) else some (.inr (.inr ()))
def ZcC (a:(List (List Int))) (b:(List (List Int))):Option Bool:=bif ((a.length:Int) != (b.length:Int)) then some false else (lp (Zbm a b) 0).bind fun r4=>match r4 with | (.inl r4)=>some false | (.inr r4)=>some true
def Zji (a b:Zw):Option Bool:=(ZcE a.on b.on).bind fun x0=>bif x0 then (ZcE a.left b.left).bind fun x1=>bif x1 then some true else some false else some false
def ZgA (a b:Za):Option Bool:=(ZcE a.ring b.ring).bind fun x0=>bif x0 then bif (a.top==b.top) then bif (a.bottom==b.bottom) then some true else some false else some false else some false
def Zez (a b:ZJ) (s2:Int):Option (Int⊕(Unit⊕Unit)):=bif (decide (s2<(a.deques.length:Int))) then (Zs a.deques s2).bind fun x3=>(Zs b.deques s2).bind fun x4=>(ZgA x3 x4).bind fun x5=>bif x5 then some (.inl (w64 (s2+1))) else some (.inr (.inl ())) else some (.inr (.inr ()))
def ZeC (a b:ZJ) (s7:Int):Option (Int⊕(Unit⊕Unit)):=bif (decide (s7<(a.takers.length:Int))) then (Zs a.takers s7).bind fun x8=>(Zs b.takers s7).bind fun x9=>bif (!((x8.steal==x9.steal)&&((x8.at_==x9.at_)&&((x8.top==x9.top)&&((x8.bottom==x9.bottom)&&((x8.got==x9.got)&&((x8.end_==x9.end_)&&true))))))) then some (.inr (.inl ())) else some (.inl (w64 (s7+1))) else some (.inr (.inr ()))
def Zem (a b:ZJ):Option Bool:=(Zji a.crew b.crew).bind fun x0=>bif x0 then bif ((a.deques.length:Int) != (b.deques.length:Int)) then some false else bif ((a.takers.length:Int) != (b.takers.length:Int)) then some false else (ZcE a.from_ b.from_).bind fun x1=>bif x1 then (lp (Zez a b) 0).bind fun r6=>match r6 with | (.inl r6)=>some false | (.inr r6)=>(lp (ZeC a b) 0).bind fun r10=>match r10 with | (.inl r10)=>some false | (.inr r10)=>some true else some false else some false
def Ze9 (a:Zl) (b:List Int) (c:Int) (d:List Int):Option Bool:=ZbZ.bind fun x0=>bif x0 then (Zhv a).bind fun x1=>bif x1 then bif (decide (70<(b.length:Int))) then ZbZ.bind fun x2=>bif x2 then some true else some false else (Zfg b).bind fun x3=>bif x3 then bif (decide (600<(d.length:Int))) then ZbZ.bind fun x4=>bif x4 then some true else some false else (ZfY a).bind fun x5=>(Zej b).bind fun x6=>(Zej d).bind fun x7=>(ZeW a b c d).bind fun x8=>(ZeT a b c d).bind fun x9=>(ZfY a).bind fun x10=>(Zej b).bind fun x11=>(ZcG a b c).bind fun x12=>match x12 with | (.inl x12)=>(Zdm a b c).bind fun x13=>(ZcC x8.1 x9.1).bind fun x14=>bif x14 then bif (x8.2.1==x9.2.1) then bif (x8.2.2==x9.2.2) then (Zem (ZJ.mk (Zw.mk ([]:List Int) ([]:List Int)) ([]:List Za) ([]:List Zb) ([]:List Int)) x13.1).bind fun x15=>bif x15 then bif (x12==x13.2) then some true else some false else some false else some false else some false else some false | (.inr x12)=>(Zdm a b c).bind fun x16=>(ZcC x8.1 x9.1).bind fun x17=>bif x17 then bif (x8.2.1==x9.2.1) then bif (x8.2.2==x9.2.2) then (Zem (ZJ.mk (Zw.mk x12.1 b) x12.2 (List.replicate c.toNat ((Zb.mk false 0 0 0 0 0):Zb)) (List.replicate c.toNat (0:Int))) x16.1).bind fun x18=>bif x18 then bif (0==x16.2) then some true else some false else some false else some false else some false else some false else ZbZ.bind fun x19=>bif x19 then some true else some false else ZbZ.bind fun x20=>bif x20 then some true else some false else ZbZ.bind fun x21=>bif x21 then some true else some false
abbrev zL (t:Bool) (l:List Int):D:=.list t (List.map Zp l)
abbrev zM {A:Type} (t:Bool) (f:A->D) (l:List A):D:=.list t (List.map f l)
abbrev zN (n:Int):V:=.d (Zp n)
abbrev zV (t:Bool) (l:List Int):V:=.d (zL t l)
abbrev zW {A:Type} (t:Bool) (f:A->D) (l:List A):V:=.d (zM t f l)
abbrev zA (l:List Int):Blk:=.arr 1 (List.map Zp l)
abbrev zK0 (x0:Bool) (x1:List Int) (x2:Bool) (x3:List Zt):Blk:=.cells [(zV x0 x1),(zW x2 Za2 x3)]
abbrev zK1 (x0:Bool) (x1:List Int) (x2:Bool) (x3:List Zt):D:=D.agg [(zL x0 x1),(zM x2 Za2 x3)]
abbrev zK2 (x0:Bool) (x1:List Int) (x2:Bool) (x3:List Int) (x4:Bool) (x5:List Za) (x6:Bool) (x7:List Zb) (x8:Bool) (x9:List Int):Blk:=.cells [(zV x0 x1),(zV x2 x3),(zW x4 ZM x5),(zW x6 ZO x7),(zV x8 x9)]
abbrev zK3 (x0:Bool) (x1:List Int) (x2:Int) (x3:Int):D:=D.agg [(zL x0 x1),(Zp x2),(Zp x3)]
abbrev zK4 (x0:Bool) (x1:List Int) (x2:Bool) (x3:List Int):Blk:=.cells [(zV x0 x1),(zV x2 x3)]
abbrev zK5 (x0:Bool) (x1:List Int) (x2:Bool) (x3:List Int):D:=D.agg [(zL x0 x1),(zL x2 x3)]
abbrev zK6 (x0:Bool) (x1:List Int) (x2:Bool) (x3:List Int) (x4:Bool) (x5:List Za) (x6:Bool) (x7:List Zb) (x8:Bool) (x9:List Int):D:=D.agg [(zL x0 x1),(zL x2 x3),(zM x4 ZM x5),(zM x6 ZO x7),(zL x8 x9)]
abbrev zK7 (x0:Bool) (x1:List Int) (x2:Bool) (x3:List Zt) (x4:Int):Blk:=.cells [(.sl 1 1),(.sl 2 1),(.sl 3 3),(.sl 4 6),(.sl 5 1),(zV x0 x1),(zW x2 Za2 x3),(zN x4)]
abbrev zK8 (x0:Bool) (x1:List Int):Blk:=.cells [(zV x0 x1),(.sl 1 1),(.sl 2 2),(.sl 3 1)]
abbrev zK9 (x0:Int) (x1:Int):Blk:=.cells [(.sl 2 1),(zN x0),(zN x1)]
abbrev ZwD  : Blk:=.cells [(.sl 4 1),(.sl 5 1)]
abbrev Zuf  : Blk:=.cells [(.sl 4 1),(.sl 5 1),(.sl 6 3),(.sl 7 6),(.sl 8 1)]
abbrev ZtP  : Blk:=.cells [(.sl 2 1),(.sl 3 1),(.sl 4 3),(.sl 5 6),(.sl 6 1)]
abbrev ZtB (x0:Bool) (x1:List Int) (x2:Bool) (x3:List Int) (x4:Bool) (x5:List ZaA) (x6:Bool) (x7:List Int):D:=D.rptr [(zL x0 x1),(zL x2 x3),(zM x4 Zfs x5),(zL x6 x7)]
abbrev Zus (x0:Bool) (x1:List Int) (x2:Bool) (x3:List Int) (x4:Bool) (x5:List Za) (x6:Bool) (x7:List Zb) (x8:Bool) (x9:List Int) (x10:Bool) (x11:List Int) (x12:Bool) (x13:List Zt) (x14:Int):D:=D.rptr [(zL x0 x1),(zL x2 x3),(zM x4 ZM x5),(zM x6 ZO x7),(zL x8 x9),(zL x10 x11),(zM x12 Za2 x13),(Zp x14)]
abbrev Zwd (x0:Bool) (x1:List Int):Blk:=.cells [(zV x0 x1),(.sl 2 1),(.sl 3 2),(.sl 4 1)]
abbrev ZzJ (x0:Int) (x1:Int):D:=D.agg [(Zp x0),(Zp x1)]
end
def Zy4 (n a b:Int):Bool:=decide (a<=n)&&decide (n<=b)
theorem Zj6 {γ:Type} (l:List γ) (p:γ->Bool) (step:Int->Option (Int⊕(Int⊕Unit)))
  (h1:∀i x,i<l.length->l[i]? = some x->step (i:Int)=some (bif p x then .inr (.inl (i:Int)) else .inl ((i+1:Nat):Int)))
  (h2:step (l.length:Int)=some (.inr (.inr ()))) :
  (((lp step 0).bind fun(r:Int⊕Unit)=>match r with | .inl r=>some r | .inr _=>some (-1)).bind fun x=>bif decide (0<=x) then some true else some false)=some (l.any p):=by
 rw[ZdS l step (fun _=>p) (fun i _=>.inl (i:Int)) (.inr ()) h1 h2]
 rcases Zpj p () l 0 with⟨j,e1,e2⟩ | ⟨e1,e2⟩
 ·rw[e1,e2]
  show(bif decide ((0:Int)<=(j:Int)) then some true else some false)=some true
  rw[dT (by omega)]
  rfl
 ·rw[e1,e2]
  rfl
def Zl9 (e x:Zt):Bool:=e.src==x.src&&(e.dst==x.dst&&true)
theorem ZwN (l:List Zt) (e:Zt) (hl:l.length<9223372036854775808):ZaI l e=some (l.any (Zl9 e)):=by
 unfold ZaI Zb9
 refine Zj6 l (Zl9 e) _ (fun i x hi hx=>?_) ?_
 ·simp only[ZaC,Zba hi,Zn hx,bS,ZA hi hl,cT,Zl9]
  cases (e.src==x.src&&(e.dst==x.dst&&true))<;>rfl
 ·simp only[ZaC,Zbg];rfl
def again (f g:ZuL):Bool:=g.user==f.user&&g.pos==f.pos
theorem Zf7 (l:List Int) (n:Int) (hl:l.length<9223372036854775808):ZK l n=some (l.any (fun x=>n==x)):=by
 unfold ZK ZcQ
 refine Zj6 l (fun x=>n==x) _ (fun i x hi hx=>?_) ?_
 ·simp only[ZaX,Zba hi,Zn hx,bS,ZA hi hl,cT]
  cases (n==x)<;>rfl
 ·simp only[ZaX,Zbg];rfl
theorem ZfO (l:List Int) (f:Int->Option Bool) (p:Int->Bool) (hf:∀x∈l,f x=some (p x)) (hl:l.length<9223372036854775808):Zy l f=some (l.any p):=by
 unfold Zy ZE
 refine Zj6 l p _ (fun i x hi hx=>?_) ?_
 ·simp only[Zx,Zba hi,Zn hx,bS,hf x (mG hx),ZA hi hl,cT]
  cases p x<;>rfl
 ·simp only[Zx,Zbg];rfl
def two (n:Nat) (a b:Int):Bool:=(a != b)&&(Zy4 a 0 (n-1)&&Zy4 b 0 (n-1))
def Zh1 (n:Int):Int:=bif decide (n<0) then 10 else bif decide (1099511627775<n) then 11 else 0
theorem Zli (n:Int):ZfW n=some (Zh1 n):=by
 unfold ZfW Zh1
 cases decide (n<0)<;>cases decide (1099511627775<n)<;>rfl
noncomputable def ZvU (x:Int):Int:=match ZbB x with | some n=>n | none=>0
theorem ZCc (x:Int):Zck x=some (ZvU x):=by
 unfold Zck ZvU ZbB
 rfl
def ZzO (n:Nat):Bool:=[1,2,4,8,16,32,64,128,256,512,1024,2048,4096].contains n
theorem Zua:((List.range 4097).all fun n=>(ZvU (u64.wrap (n:Int))==1)==ZzO n)=true:=by kernel_rfl
theorem ZuD (n:Nat) (h:n<=4096):(ZvU (u64.wrap (n:Int))==1)=ZzO n:=by
 have:=List.all_eq_true.1 Zua n (by simp;omega)
 simpa using this
noncomputable def ZyR (n:Int):Bool:=!(Zh1 n != 0) && !(ZvU (u64.wrap n) != 1)
theorem Zxk (n:Int):∃k,ZgN n=some (k,ZyR n):=by
 have tz:∃k,Zcv (u64.wrap n)=some k:=⟨_,rfl⟩
 obtain⟨k,hk⟩:=tz
 unfold ZgN ZyR
 simp only[Zli,ZCc,bS,hk]
 cases (Zh1 n != 0)
 ·cases (ZvU (u64.wrap n) != 1)
  ·exact⟨k,rfl⟩
  ·exact⟨0,rfl⟩
 ·exact⟨0,rfl⟩
theorem Zue (n:Nat) (h:n<=4096):ZyR (n:Int)=ZzO n:=by
 have h1:(Zh1 (n:Int) != 0)=false:=by
  unfold Zh1
  rw[dF (show ¬((n:Int)<0) by omega),dF (show ¬((1099511627775:Int)<n) by omega)]
  rfl
 rw[<- ZuD n h]
 unfold ZyR
 rw[h1]
 unfold bne
 rw[Bool.not_not]
 rfl
open List (length_nil length_take length_map length_set length_cons map_cons length_singleton getElem_mem drop_zero append_nil mem_singleton any_eq_true sum_cons set_set)
def ZCN (b:ZsJ):Prop:=b.ins.length<9223372036854775808/\b.outs.length<9223372036854775808
structure ZBV (d:Zxv):Prop where
 p:d.parts.length<9223372036854775808
 e:d.edges.length<9223372036854775808
 f:d.futures.length<9223372036854775808
 b:d.barriers.length<9223372036854775808
 i:∀b∈d.barriers,ZCN b
theorem Zt6 {γ:Type}{l:List γ}{i n:Nat} (h:l.length<n):(l.take i).length<n:=by rw[length_take];omega
open Nat (succ_mul le_trans lt_or_ge zero_le add_zero zero_add add_mul mod_lt mod_eq_of_lt)
def ZAL (n:Int):Bool:=(List.range 40).any fun k=>((2:Int) ^ k==n)
theorem ZAo (n:Int):∃k,Zf4 n=some (k,ZAL n):=by
 have step:∀k:Nat,k<40->Zbp n ((2:Int) ^ k,(k:Int))=some (bif ((2:Int) ^ k==n) then .inr (.inl (k:Int)) else .inl ((2:Int) ^ (k+1),((k+1:Nat):Int))):=by
  intro k hk
  have hp:(2:Int) ^ k<=2 ^ 39:=by
   have:(2:Nat) ^ k<=2 ^ 39:=Nat.pow_le_pow_right (by omega) (by omega)
   exact_mod_cast this
  have hq:(0:Int)<2 ^ k:=by
   have:(0:Nat)<2 ^ k:=Nat.pow_pos (by omega)
   exact_mod_cast this
  have e39:(2:Int) ^ 39=549755813888:=by decide
  rw[e39] at hp
  have e1:w64 (2*(2:Int) ^ k)=(2:Int) ^ (k+1):=by rw[ZbN (by omega),Int.pow_succ];omega
  have e2:w64 ((k:Int)+1)=((k+1:Nat):Int):=ZA hk (by omega)
  unfold Zbp
  simp only[dT (show(k:Int)<40 by omega),cT,e1,e2]
  cases ((2:Int) ^ k==n)<;>rfl
 have key:∀m k:Nat,k+m=40->lp (Zbp n) ((2:Int) ^ k,(k:Int))=some (match (List.range' k m).find? (fun j=>(2:Int) ^ j==n) with | some j=>.inl (j:Int) | none=>.inr ()):=by
  intro m
  induction m with
  | zero=>
   intro k hk
   have:k=40:=by omega
   subst this
   rw[ZaD]
   unfold Zbp
   rfl
  | succ m ih=>
   intro k hk
   rw[ZaD,step k (by omega),List.range'_succ,List.find?_cons]
   cases h:((2:Int) ^ k==n) with
   | true=>rfl
   | false=>exact ih (k+1) (by omega)
 have k0:=key 40 0 rfl
 rw[show((2:Int) ^ 0)=1 from rfl] at k0
 have e:(List.range 40).any (fun j=>(2:Int) ^ j==n)=((List.range' 0 40).find? (fun j=>(2:Int) ^ j==n)).isSome:=by
  rw[List.range_eq_range',Bool.eq_iff_iff,any_eq_true,List.find?_isSome]
 unfold Zf4 ZAL
 rw[e]
 cases hf:(List.range' 0 40).find? (fun j=>(2:Int) ^ j==n) with
 | none=>
  rw[hf] at k0
  refine⟨0,?_⟩
  show(lp (Zbp n) (1,((0:Nat):Int))).bind _=_
  rw[k0];rfl
 | some j=>
  rw[hf] at k0
  refine⟨j,?_⟩
  show(lp (Zbp n) (1,((0:Nat):Int))).bind _=_
  rw[k0];rfl
theorem ZtX (n:Nat) (h:n<=4096):ZAL (n:Int)=ZzO n:=by
 rw[Bool.eq_iff_iff]
 unfold ZAL ZzO
 rw[any_eq_true]
 constructor
 ·rintro ⟨k,hk,he⟩
  have hk:=List.mem_range.1 hk
  have he:(2:Nat) ^ k=n:=by have:=eq_of_beq he;exact_mod_cast this
  have h13:k<13:=by
   rcases lt_or_ge k 13 with h1 | h1
   ·exact h1
   ·have:2 ^ 13<=2 ^ k:=Nat.pow_le_pow_right (by omega) h1
    omega
  subst he
  have:((List.range 13).all fun k=>[1,2,4,8,16,32,64,128,256,512,1024,2048,4096].contains (2 ^ k))=true:=by decide
  exact List.all_eq_true.1 this k (by simpa using h13)
 ·intro h
  have:n=2 ^ 0∨n=2 ^ 1∨n=2 ^ 2∨n=2 ^ 3∨n=2 ^ 4∨n=2 ^ 5∨n=2 ^ 6∨n=2 ^ 7∨n=2 ^ 8∨n=2 ^ 9∨n=2 ^ 10∨n=2 ^ 11∨n=2 ^ 12:=by
   simpa using h
  rcases this with h | h | h | h | h | h | h | h | h | h | h | h | h<;>subst h
  ·exact⟨0,by decide,by decide⟩
  ·exact⟨1,by decide,by decide⟩
  ·exact⟨2,by decide,by decide⟩
  ·exact⟨3,by decide,by decide⟩
  ·exact⟨4,by decide,by decide⟩
  ·exact⟨5,by decide,by decide⟩
  ·exact⟨6,by decide,by decide⟩
  ·exact⟨7,by decide,by decide⟩
  ·exact⟨8,by decide,by decide⟩
  ·exact⟨9,by decide,by decide⟩
  ·exact⟨10,by decide,by decide⟩
  ·exact⟨11,by decide,by decide⟩
  ·exact⟨12,by decide,by decide⟩
def Zgg (n:Nat) (x:Int):Bool:=decide (0<=x)&&decide (x<(n:Int))
theorem Zxt {γ R:Type} (l:List γ) (i:Nat) (hi:i<l.length) (step:Int->Option (Int⊕R)) (p:γ->Bool) (c fin:R)
  (h1:∀(k:Nat) x,k<i->l[k]? = some x->step (k:Int)=some (bif p x then .inr c else .inl ((k+1:Nat):Int)))
  (h2:step (i:Int)=some (.inr fin)):lp step 0=some (bif (l.take i).any p then c else fin):=by
 have hl:(l.take i).length=i:=by rw[length_take];omega
 have key:=ZdS (l.take i) step (fun _=>p) (fun _ _=>c) fin (fun k x hk hx=>by
   rw[hl] at hk
   refine h1 k x hk ?_
   rw[List.getElem?_take_of_lt hk] at hx
   exact hx) (by rw[hl];exact h2)
 rw[key,ZbE,ZfX]
theorem Zi3 (l:List Int) (n:Int) (hl:l.length<9223372036854775808):Zb0 l n=some (l.any fun x=>n==x):=by
 have key:=ZdS l (Zeb l n) (fun _ x=>n==x) (fun _ _=>.inl ()) (.inr ()) (fun i x hi hx=>by
   have e:(x==n)=(n==x):=Bool.beq_comm
   simp only[Zeb,Zba hi,Zn hx,bS,ZA hi hl,cT,e]
   cases (n==x)<;>rfl) (by simp only[Zeb,Zbg];rfl)
 unfold Zb0
 rw[key,ZbE,ZfX]
 cases (l.any fun x=>n==x)<;>rfl
open Int (toNat_of_nonneg le_refl toNat_natCast)
def ZdY {γ S:Type} (f:Nat->S->γ->S):Nat->S->List γ->S
 | _,s,[]=>s
 | i,s,x :: l=>ZdY f (i+1) (f i s x) l
theorem ZjZ {γ S T R:Type} (l:List γ) (step:T->Option (T⊕R)) (st:Nat->S->T) (f:Nat->S->γ->S) (fin:S->R) (I:Nat->S->Prop)
  (h1:∀i x s,i<l.length->l[i]? = some x->I i s->step (st i s)=some (.inl (st (i+1) (f i s x)))/\I (i+1) (f i s x))
  (h2:∀s,I l.length s->step (st l.length s)=some (.inr (fin s))) (s:S) (h0:I 0 s) :
  lp step (st 0 s)=some (fin (ZdY f 0 s l))/\I l.length (ZdY f 0 s l):=by
 have key:∀(k i:Nat) (s:S),i+k=l.length->I i s->lp step (st i s)=some (fin (ZdY f i s (l.drop i)))/\I l.length (ZdY f i s (l.drop i)):=by
  intro k
  induction k with
  | zero=>
   intro i s hi hI
   have:i=l.length:=by omega
   subst this
   rw[List.drop_length,ZaD,h2 s hI]
   exact⟨rfl,hI⟩
  | succ k ih=>
   intro i s hi hI
   have hi':i<l.length:=by omega
   obtain⟨e,hI'⟩:=h1 i l[i] s hi' (gE hi') hI
   rw[List.drop_eq_getElem_cons hi',ZaD,e]
   exact ih (i+1) _ (by omega) hI'
 have:=key l.length 0 s (by omega) h0
 rwa [drop_zero] at this
def Zef (w:Int):Bool:=decide (w<0) || decide (1000<w)
def ZjK (g:Zl) (i:Nat) (e:Zt):Bool:=!(Zgg g.work.length e.src) || (!(Zgg g.work.length e.dst) || ((e.src==e.dst) || (g.edges.take i).any (Zl9 e)))
def ZeJ (g:Zl):Int:=bif decide (64<(g.work.length:Int)) || decide (256<(g.edges.length:Int)) then 40 else bif g.work.any Zef then 41 else bif Zhu (ZjK g) 0 g.edges then 42 else 0
structure Zfj (g:Zl):Prop where
 w:g.work.length<9223372036854775808
 e:g.edges.length<9223372036854775808
theorem Zxa (w:Int):ZbY w=some (Zef w):=by
 unfold ZbY Zef
 cases decide (w<0)<;>cases decide (1000<w)<;>rfl
theorem Zy5 (a:Int) (l:List Int):Zex a l=some (Zgg l.length a):=by
 unfold Zex Zgg
 cases decide (0<=a)<;>cases decide (a<(l.length:Int))<;>rfl
theorem ZBh (g:Zl) (a:Int):Ze7 g a=some (Zgg g.work.length a):=by
 unfold Ze7 Zgg
 cases decide (0<=a)<;>cases decide (a<(g.work.length:Int))<;>rfl
theorem Zty (g:Zl) (h:Zfj g):lp (Zdj g) 0=some (bif Zhu (ZjK g) 0 g.edges then .inl () else .inr ()):=by
 have key:=ZdS g.edges (Zdj g) (ZjK g) (fun _ _=>.inl ()) (.inr ()) (fun i x hi hx=>by
   have e0:decide ((0:Int)<=(i:Int))=true:=dT (by omega)
   have e1:Nat.ble i g.edges.length=true:=Nat.ble_eq_true_of_le (by omega)
   simp only[Zdj,Zba hi,Zn hx,bS,ZA hi h.e,cT,Zy5,ZjK,e0,toNat_natCast,e1,ZwN _ x (Zt6 h.e)]
   cases Zgg g.work.length x.src<;>cases Zgg g.work.length x.dst<;>cases (x.src==x.dst)<;>cases (g.edges.take i).any (Zl9 x)<;>rfl) (by simp only[Zdj,Zbg];rfl)
 rw[key,ZbE]
theorem Zuu (g:Zl) (h:Zfj g):ZfP g=some (ZeJ g):=by
 have k0:=ZdS g.work (ZcW g) (fun _=>Zef) (fun _ _=>.inl ()) (.inr ()) (fun i x hi hx=>by
   simp only[ZcW,Zba hi,Zn hx,bS,ZA hi h.w,cT,Zef]
   cases decide (x<0)<;>cases decide (1000<x)<;>rfl) (by simp only[ZcW,Zbg];rfl)
 have k2:=ZdS g.edges (Zc2 g) (ZjK g) (fun _ _=>.inl ()) (.inr ()) (fun i x hi hx=>by
   have inner:=Zxt g.edges i hi (Zdg g (i:Int) x) (Zl9 x) (.inl ()) (.inr ()) (fun k y hk hy=>by
     simp only[Zdg,Zba hk,Zn hy,bS,ZA hk (Nat.lt_trans hi h.e),cT,Zl9]
     have e1:(y.src==x.src)=(x.src==y.src):=Bool.beq_comm
     have e2:(y.dst==x.dst)=(x.dst==y.dst):=Bool.beq_comm
     rw[e1,e2]
     cases (x.src==y.src)<;>cases (x.dst==y.dst)<;>rfl) (by simp only[Zdg,Zbg];rfl)
   simp only[Zc2,Zba hi,Zn hx,bS,ZA hi h.e,cT,ZBh,ZjK,inner]
   cases Zgg g.work.length x.src<;>cases Zgg g.work.length x.dst<;>cases (x.src==x.dst)<;>cases (g.edges.take i).any (Zl9 x)<;>rfl) (by simp only[Zc2,Zbg];rfl)
 unfold ZfP ZeJ
 rw[k0,k2,ZbE,ZbE,ZfX]
 cases decide (64<(g.work.length:Int))<;>cases decide (256<(g.edges.length:Int))<;>cases g.work.any Zef<;>cases Zhu (ZjK g) 0 g.edges<;>rfl
inductive Way (g:Zl):Int->Int->Prop
 | one {e:Zt}:e∈g.edges->Way g e.src e.dst
 | more {a:Int} {e:Zt}:Way g a e.src->e∈g.edges->Way g a e.dst
theorem Way.trans {g:Zl}{a b c:Int} (h1:Way g a b) (h2:Way g b c):Way g a c:=by
 induction h2 with
 | one he=>exact Way.more h1 he
 | more _ he ih=>exact Way.more (ih h1) he
def ZkI (g:Zl):Prop:=∀a,¬Way g a a
structure Zbj (g:Zl):Prop where
 wl:g.work.length<=64
 el:g.edges.length<=256
 w:∀x∈g.work,0<=x/\x<=1000
 src:∀e∈g.edges,0<=e.src/\e.src.toNat<g.work.length
 dst:∀e∈g.edges,0<=e.dst/\e.dst.toNat<g.work.length
theorem Zbj.short {g:Zl} (h:Zbj g):Zfj g:=⟨by have:=h.wl;omega,by have:=h.el;omega⟩
theorem Zq5 {n:Nat}{a:Int} (h:Zgg n a=true):0<=a/\a.toNat<n:=by
 unfold Zgg at h
 simp only[aT,decide_eq_true_eq] at h
 omega
theorem ZoX {g:Zl} (h:ZeJ g=0):Zbj g:=by
 unfold ZeJ at h
 cases h1:decide (64<(g.work.length:Int)) with
 | true=>rw[h1] at h;simp at h
 | false=>
 cases h2:decide (256<(g.edges.length:Int)) with
 | true=>rw[h1,h2] at h;simp at h
 | false=>
 cases h3:g.work.any Zef with
 | true=>rw[h1,h2,h3] at h;simp at h
 | false=>
 cases h4:Zhu (ZjK g) 0 g.edges with
 | true=>rw[h1,h2,h3,h4] at h;simp at h
 | false=>
 have hE:∀e∈g.edges,∃i,ZjK g i e=false:=fun e he=>by
  obtain⟨i,hi⟩:=List.getElem?_of_mem he
  refine⟨i,?_⟩
  cases hb:ZjK g i e with
  | false=>rfl
  | true=>rw[(Zmm _ _ 0).2 ⟨i,e,hi,by simpa using hb⟩] at h4;cases h4
 refine⟨by have:=of_decide_eq_false h1;omega,by have:=of_decide_eq_false h2;omega,fun x hx=>?_,fun e he=>?_,fun e he=>?_⟩
 ·have:=List.any_eq_false.1 h3 x hx
  unfold Zef at this
  simp only[Bool.or_eq_true,decide_eq_true_eq,not_or] at this
  omega
 ·obtain⟨i,hi⟩:=hE e he
  unfold ZjK at hi
  simp only[Bool.or_eq_false_iff,Bool.not_eq_false'] at hi
  exact Zq5 hi.1
 ·obtain⟨i,hi⟩:=hE e he
  unfold ZjK at hi
  simp only[Bool.or_eq_false_iff,Bool.not_eq_false'] at hi
  exact Zq5 hi.2.1
theorem Way.src_in {g:Zl} (h:Zbj g) {a b:Int} (w:Way g a b):0<=a/\a.toNat<g.work.length:=by
 induction w with
 | one he=>exact h.src _ he
 | more _ _ ih=>exact ih
theorem ZsX {g:Zl} (hg:ZkI g):∀(n:Nat) (S:List Int),S.length<=n->S≠[]->∃m∈S,∀e∈g.edges,e.dst=m->e.src∉S:=by
 intro n
 induction n with
 | zero=>intro S h1 h2;exact absurd (List.length_eq_zero_iff.1 (by omega)) h2
 | succ n ih=>
  intro S h1 h2
  obtain⟨m,hm⟩:=List.exists_mem_of_ne_nil S h2
  classical
  by_cases hS:(S.filter fun x=>decide (Way g x m))=[]
  ·refine⟨m,hm,fun e he hd hs=>?_⟩
   have:e.src∈S.filter fun x=>decide (Way g x m):=List.mem_filter.2 ⟨hs,dT (hd ▸ Way.one he)⟩
   rw[hS] at this
   cases this
  ·have hlt:(S.filter fun x=>decide (Way g x m)).length<S.length:=by
    refine Nat.lt_of_le_of_ne (List.length_filter_le _ _) fun he=>?_
    have:=List.length_filter_eq_length_iff.1 he m hm
    exact hg m (of_decide_eq_true this)
   obtain⟨k,hk,hk2⟩:=ih _ (by omega) hS
   obtain⟨k1,k2⟩:=List.mem_filter.1 hk
   refine⟨k,k1,fun e he hd hs=>hk2 e he hd (List.mem_filter.2 ⟨hs,dT ?_⟩)⟩
   exact(hd ▸ Way.one he:Way g e.src k).trans (of_decide_eq_true k2)
def bAt (l:List Bool) (z:Int):Bool:=match l[z.toNat]? with | some b=>b | none=>false
def ZnD (g:Zl) (done:List Bool) (i:Nat):Bool:=!(bAt done (i:Int)) && !(g.edges.any fun e=>(e.dst==(i:Int)) && !(bAt done e.src))
def ZnL (g:Zl) (done:List Bool):Option Nat:=Zjo (fun i _=>ZnD g done i) (fun i _=>some i) none 0 g.work
def ZmT (g:Zl):Nat->List Int->List Bool->Option (List Int)
 | 0,out,_=>some out
 | k+1,out,done=>(match ZnL g done with | some i=>ZmT g k (out++[(i:Int)]) (done.set i true) | none=>none)
theorem ZsV {γ R S:Type} (p:Nat->γ->Bool) (out:Nat->γ->R) (fin:R) (F:R->S):∀(l:List γ) (i:Nat),F (Zjo p out fin i l)=Zjo p (fun i x=>F (out i x)) (F fin) i l
 | [],i=>rfl
 | x :: l,i=>by
  unfold Zjo
  cases p i x with
  | true=>rfl
  | false=>exact ZsV p out fin F l (i+1)
theorem Zri {γ:Type} (p:Nat->γ->Bool):∀(l:List γ) (i k:Nat),Zjo p (fun i _=>some i) none i l=some k->i<=k/\k<i+l.length/\∃x,l[k-i]? = some x/\p k x=true
 | [],i,k,h=>by cases h
 | x :: l,i,k,h=>by
  unfold Zjo at h
  cases hp:p i x with
  | true=>
   rw[hp] at h
   cases h
   exact⟨Nat.le_refl _,by simp,x,by simp,hp⟩
  | false=>
   rw[hp] at h
   obtain⟨h1,h2,y,h3,h4⟩:=Zri p l (i+1) k h
   refine⟨by omega,by simp only[length_cons];omega,y,?_,h4⟩
   rw[show k-i=(k-(i+1))+1 by omega]
   exact h3
theorem ZqU {γ:Type} (p:Nat->γ->Bool):∀(l:List γ) (i:Nat),Zjo p (fun i _=>some i) none i l=none->∀(j:Nat) x,l[j]? = some x->p (i+j) x=false
 | [],i,h,j,x,hx=>by cases hx
 | y :: l,i,h,j,x,hx=>by
  unfold Zjo at h
  cases hp:p i y with
  | true=>rw[hp] at h;cases h
  | false=>
   rw[hp] at h
   cases j with
   | zero=>cases hx;exact hp
   | succ j=>
    have:=ZqU p l (i+1) h j x hx
    rwa [show i+1+j=i+(j+1) by omega] at this
theorem Zmy {g:Zl}{done:List Bool} (hd:done.length=g.work.length) {z:Int} (h:0<=z/\z.toNat<g.work.length):Zs done z=some (bAt done z):=by
 have e:=gE (show z.toNat<done.length by rw[hd];exact h.2)
 rw[ZuE h.1 e]
 unfold bAt
 rw[e]
theorem ZCd {g:Zl} (h:Zbj g) (out:List Int) (ho:out.length<g.work.length) (done:List Bool) (hd:done.length=g.work.length) :
  lp (ZcV g (out,done)) 0=some (match ZnL g done with | some i=>.inl (out++[(i:Int)],done.set i true) | none=>.inr ()):=by
 have key:=ZdS g.work (ZcV g (out,done)) (fun i _=>ZnD g done i) (fun i _=>.inl (out++[(i:Int)],done.set i true)) (.inr ()) (fun i x hi hx=>by
   have inner:=ZdS g.edges (Zec g (out,done) (i:Int)) (fun _ e=>(e.dst==(i:Int)) && !(bAt done e.src)) (fun _ _=>.inl ()) (.inr ()) (fun k e hk he=>by
     simp only[Zec,Zba hk,Zn he,bS,ZA hk h.short.e,cT,Zmy hd (h.src e (mG he))]
     cases (e.dst==(i:Int))<;>cases bAt done e.src<;>rfl) (by simp only[Zec,Zbg];rfl)
   rw[ZbE,ZfX] at inner
   have hl:=h.wl
   simp only[ZcV,Zba hi,Zmy hd (z:=(i:Int)) ⟨by omega,by simpa using hi⟩,bS,ZA hi h.short.w,cT,inner,ZaR (show out.length+1<=1073741824 by omega),toNat_natCast,ZnD]
   cases bAt done (i:Int)<;>cases g.edges.any (fun e=>(e.dst==(i:Int)) && !(bAt done e.src))<;>rfl) (by simp only[ZcV,Zbg];rfl)
 rw[key]
 unfold ZnL
 exact congrArg some (ZsV (fun i _=>ZnD g done i) (fun i _=>some i) none (fun o:Option Nat=>(match o with | some i=>(.inl (out++[(i:Int)],done.set i true):(List Int×List Bool)⊕Unit) | none=>.inr ())) g.work 0).symm
theorem ZvF {g:Zl} (h:Zbj g):∀(k:Nat) (out:List Int) (done:List Bool),out.length+k=g.work.length->done.length=g.work.length ->
  ∃r,lp (Zed g) (out,done)=some r/\(match ZmT g k out done with | some l=>r = .inr l | none=>∃l,r = .inl l)
 | 0,out,done,h1,h2=>by
  rw[ZaD]
  simp only[Zed,show out.length=g.work.length by omega,Zbg,cF]
  exact⟨_,rfl,rfl⟩
 | k+1,out,done,h1,h2=>by
  rw[ZaD]
  simp only[Zed,Zba (show out.length<g.work.length by omega),cT,ZCd h out (by omega) done h2,bS]
  unfold ZmT
  cases ZnL g done with
  | none=>exact⟨_,rfl,_,rfl⟩
  | some i=>exact ZvF h k (out++[(i:Int)]) (done.set i true) (by rw[lA];simp only[length_cons,length_nil];omega) (by rw[length_set];exact h2)
theorem Zvw {g:Zl} (h:Zbj g):ZeN g=some (match ZmT g g.work.length [] (List.replicate g.work.length false) with | some l=>(l,true) | none=>([],false)):=by
 obtain⟨r,e,hr⟩:=ZvF h g.work.length [] (List.replicate g.work.length false) (by simp) (by simp)
 have hl:=h.wl
 unfold ZeN
 rw[dT (show(0:Int)<=(g.work.length:Int) by omega),dT (show(g.work.length:Int)<=lim by show(g.work.length:Int)<=1073741824;omega),beq_self_eq_true]
 simp only[decide_true,Bool.and_true,cT,toNat_natCast,e,bS]
 cases ho:ZmT g g.work.length [] (List.replicate g.work.length false) with
 | some l=>rw[ho] at hr;simp only at hr;subst hr;rfl
 | none=>rw[ho] at hr;obtain⟨l,rfl⟩:=hr;rfl
structure Zeh (g:Zl) (out:List Int) (done:List Bool):Prop where
 dl:done.length=g.work.length
 mem:∀i:Nat,bAt done (i:Int)=true↔(i:Int)∈out
 inn:∀z∈out,0<=z/\z.toNat<g.work.length
 nod:out.Nodup
 topo:∀(i:Nat) (n:Int),out[i]? = some n->∀e∈g.edges,e.dst=n->∃j,j<i/\out[j]? = some e.src
theorem ZvC {done:List Bool}{i:Nat} (hi:i<done.length) (z:Int) (hz:0<=z):bAt (done.set i true) z=(decide (z=(i:Int)) || bAt done z):=by
 unfold bAt
 rw[List.getElem?_set]
 by_cases h:i=z.toNat
 ·subst h
  rw[if_pos rfl,if_pos hi,dT (show z=((z.toNat:Nat):Int) by omega)];rfl
 ·rw[if_neg h,dF (show ¬z=(i:Int) by omega)];rfl
theorem Zeh.start (g:Zl):Zeh g [] (List.replicate g.work.length false):=by
 refine⟨by simp,fun i=>?_,by simp,by simp,by simp⟩
 unfold bAt
 rw[List.getElem?_replicate]
 by_cases h:((i:Int)).toNat<g.work.length
 ·rw[if_pos h];simp
 ·rw[if_neg h];simp
theorem Zeh.next {g:Zl} (h:Zbj g) {out:List Int}{done:List Bool} (o:Zeh g out done) {i:Nat} (hn:ZnL g done=some i):Zeh g (out++[(i:Int)]) (done.set i true):=by
 obtain⟨_,hi,x,_,hp⟩:=Zri _ _ _ _ hn
 rw[zero_add] at hi
 unfold ZnD at hp
 simp only[aT,Bool.not_eq_true',List.any_eq_false,Bool.not_eq_true] at hp
 have hid:i<done.length:=by rw[o.dl];exact hi
 have hnot:(i:Int)∉out:=fun hm=>by have:=(o.mem i).2 hm;rw[hp.1] at this;cases this
 refine⟨by rw[length_set];exact o.dl,fun j=>?_,fun z hz=>?_,?_,fun k n hk e he hd=>?_⟩
 ·rw[ZvC hid (j:Int) (by omega),Bool.or_eq_true,decide_eq_true_eq,o.mem,List.mem_append,mem_singleton]
  exact Or.comm
 ·rcases List.mem_append.1 hz with hz | hz
  ·exact o.inn z hz
  ·rw[mem_singleton] at hz;subst hz;exact⟨by omega,by simpa using hi⟩
 ·rw[List.nodup_append]
  refine⟨o.nod,by simp,fun a ha b hb=>?_⟩
  rw[mem_singleton] at hb
  subst hb
  exact fun hab=>hnot (hab ▸ ha)
 ·rcases lt_or_ge k out.length with hk2 | hk2
  ·rw[List.getElem?_append_left hk2] at hk
   obtain⟨j,h1,h2⟩:=o.topo k n hk e he hd
   exact⟨j,h1,by rw[List.getElem?_append_left (by omega)];exact h2⟩
  ·rw[List.getElem?_append_right hk2] at hk
   have hk0:k-out.length=0:=by
    rcases Nat.eq_zero_or_pos (k-out.length) with h0 | h0
    ·exact h0
    ·rw[List.getElem?_eq_none (by simp only[length_cons,length_nil];omega)] at hk;cases hk
   rw[hk0] at hk
   simp only[List.getElem?_cons_zero,sJ] at hk
   subst hk
   have hs:=hp.2 e he
   rw[hd] at hs
   have hs:bAt done e.src=true:=by simpa using hs
   have hsr:=h.src e he
   have:=(o.mem e.src.toNat).1 (by rw[show((e.src.toNat:Nat):Int)=e.src by omega];exact hs)
   rw[show((e.src.toNat:Nat):Int)=e.src by omega] at this
   obtain⟨j,hj⟩:=List.getElem?_of_mem this
   have hjl:=(gQ hj).1
   exact⟨j,by omega,by rw[List.getElem?_append_left hjl];exact hj⟩
theorem Zeh.way {g:Zl}{out:List Int}{done:List Bool} (o:Zeh g out done) {a b:Int} (w:Way g a b):∀j:Nat,out[j]? = some b->∃i,i<j/\out[i]? = some a:=by
 induction w with
 | one he=>intro j hj;exact o.topo j _ hj _ he rfl
 | more _ he ih=>
  intro j hj
  obtain⟨i,h1,h2⟩:=o.topo j _ hj _ he rfl
  obtain⟨k,h3,h4⟩:=ih i h2
  exact⟨k,by omega,h4⟩
theorem Zrf {l:List Int} (h:l.Nodup) {i j:Nat}{a:Int} (h1:l[i]? = some a) (h2:l[j]? = some a):i=j:=by
 obtain⟨a1,a2⟩:=gQ h1
 obtain⟨b1,b2⟩:=gQ h2
 exact(List.getElem_inj h).1 (a2.trans b2.symm)
def Zzl (n:Nat) (done:List Bool):List Int:=((List.range n).filter fun i:Nat=>!bAt done (i:Int)).map fun i:Nat=>(i:Int)
theorem ZpB {n:Nat}{done:List Bool}{i:Nat} (h1:i<n) (h2:bAt done (i:Int)=false):(i:Int)∈Zzl n done:=
 List.mem_map.2 ⟨i,List.mem_filter.2 ⟨List.mem_range.2 h1,by rw[h2];rfl⟩,rfl⟩
theorem ZwQ {g:Zl} (h:Zbj g) (hg:ZkI g) {out:List Int}{done:List Bool} (o:Zeh g out done) (i0:Nat) (hi0:i0<g.work.length) (hb:bAt done (i0:Int)=false):∃i,ZnL g done=some i:=by
 cases hn:ZnL g done with
 | some i=>exact⟨i,rfl⟩
 | none=>
  exfalso
  have hall:=ZqU _ _ _ hn
  obtain⟨m,hm,hm2⟩:=ZsX hg _ (Zzl g.work.length done) (Nat.le_refl _) (by
   intro he
   have:=ZpB hi0 hb
   rw[he] at this;cases this)
  obtain⟨k,hk,rfl⟩:=List.mem_map.1 hm
  obtain⟨hk1,hk2⟩:=List.mem_filter.1 hk
  rw[List.mem_range] at hk1
  have hr:=hall k g.work[k] (gE hk1)
  rw[zero_add] at hr
  unfold ZnD at hr
  rw[hk2,Bool.true_and,Bool.not_eq_false',any_eq_true] at hr
  obtain⟨e,he,he2⟩:=hr
  simp only[aT,beq_iff_eq] at he2
  have hsr:=h.src e he
  refine hm2 e he he2.1 ?_
  have es:((e.src.toNat:Nat):Int)=e.src:=by omega
  rw[<- es]
  exact ZpB hsr.2 (by rw[es];simpa using he2.2)
theorem Zzz {n:Nat}{out:List Int} (h1:out.Nodup) (h2:∀z∈out,0<=z/\z.toNat<n):(out.length<=n)/\(out.length=n->∀i:Nat,i<n->(i:Int)∈out):=by
 induction n generalizing out with
 | zero=>
  refine⟨?_,fun _ i hi=>absurd hi (by omega)⟩
  cases out with
  | nil=>simp
  | cons z l=>have:=h2 z (by simp);omega
 | succ n ih=>
  by_cases hm:(n:Int)∈out
  ·have e1:(out.erase (n:Int)).length=out.length-1:=List.length_erase_of_mem hm
   have pos:0<out.length:=List.length_pos_of_mem hm
   obtain⟨a,b⟩:=ih (out:=out.erase (n:Int)) (h1.erase _) (fun z hz=>by
    have hz2:=(List.Nodup.mem_erase_iff h1).1 hz
    have:=h2 z hz2.2
    have:=hz2.1
    omega)
   refine⟨by omega,fun hl i hi=>?_⟩
   by_cases hin:i=n
   ·subst hin;exact hm
   ·exact List.mem_of_mem_erase (b (by omega) i (by omega))
  ·obtain⟨a,b⟩:=ih (out:=out) h1 (fun z hz=>by
    have:=h2 z hz
    have:z≠(n:Int):=fun he=>hm (he ▸ hz)
    omega)
   exact⟨by omega,fun hl=>by omega⟩
theorem Zzx:∀(n:Nat) (out:List Int),(∀i:Nat,i<n->(i:Int)∈out)->n<=out.length
 | 0,out,h=>by omega
 | n+1,out,h=>by
  have hm:=h n (by omega)
  have e1:(out.erase (n:Int)).length=out.length-1:=List.length_erase_of_mem hm
  have pos:0<out.length:=List.length_pos_of_mem hm
  have:=Zzx n (out.erase (n:Int)) (fun i hi=>(List.mem_erase_of_ne (by omega)).2 (h i (by omega)))
  omega
theorem Zlh {g:Zl} (h:Zbj g):∀(k:Nat) (out:List Int) (done:List Bool),Zeh g out done->out.length+k=g.work.length->(∀l,ZmT g k out done=some l->∃done',Zeh g l done'/\l.length=g.work.length)/\(ZkI g->∃l,ZmT g k out done=some l)
 | 0,out,done,o,hl=>⟨fun l h=>by cases h;exact⟨done,o,by omega⟩,fun _=>⟨out,rfl⟩⟩
 | k+1,out,done,o,hl=>by
  unfold ZmT
  cases hn:ZnL g done with
  | none=>
   refine⟨fun l h=>(by cases h),fun hg=>?_⟩
   exfalso
   have hex:∃i0,i0<g.work.length/\(i0:Int)∉out:=by
    apply Classical.byContradiction
    intro hc
    have hc2:∀i0,i0<g.work.length->(i0:Int)∈out:=fun i0 hi=>Classical.byContradiction fun hx=>hc ⟨i0,hi,hx⟩
    have sub:=Zzx g.work.length out hc2
    omega
   obtain⟨i0,h1,h2⟩:=hex
   obtain⟨i,hi⟩:=ZwQ h hg o i0 h1 (by
    cases hb:bAt done (i0:Int) with
    | false=>rfl
    | true=>exact absurd ((o.mem i0).1 hb) h2)
   rw[hn] at hi
   cases hi
  | some i=>
   exact Zlh h k _ _ (o.next h hn) (by rw[lA];simp only[length_cons,length_nil];omega)
theorem Zz6 {g:Zl} (h:Zbj g) {l:List Int}{done:List Bool} (o:Zeh g l done) (hl:l.length=g.work.length):ZkI g:=by
 intro a w
 have ha:=w.src_in h
 have hm:=(Zzz o.nod o.inn).2 hl a.toNat ha.2
 rw[show((a.toNat:Nat):Int)=a by omega] at hm
 obtain⟨j,hj⟩:=List.getElem?_of_mem hm
 obtain⟨i,h1,h2⟩:=o.way w j hj
 have:=Zrf o.nod h2 hj
 omega
structure ZFi (g:Zl) (l:List Int):Prop where
 len:l.length=g.work.length
 all:∀i:Nat,i<g.work.length->(i:Int)∈l
 inn:∀z∈l,0<=z/\z.toNat<g.work.length
 nod:l.Nodup
 topo:∀(i:Nat) (n:Int),l[i]? = some n->∀e∈g.edges,e.dst=n->∃j,j<i/\l[j]? = some e.src
theorem Zv7 {g:Zl} (h:Zbj g) (hg:ZkI g):∃l,ZeN g=some (l,true)/\ZFi g l:=by
 obtain⟨k1,k2⟩:=Zlh h g.work.length [] _ (Zeh.start g) (by simp)
 obtain⟨l,hl⟩:=k2 hg
 obtain⟨done,o,hn⟩:=k1 l hl
 exact⟨l,by rw[Zvw h,hl],hn,(Zzz o.nod o.inn).2 hn,o.inn,o.nod,o.topo⟩
theorem ZzV {g:Zl} (h:Zbj g) (hg:¬ZkI g):ZeN g=some ([],false):=by
 rw[Zvw h]
 cases ho:ZmT g g.work.length [] (List.replicate g.work.length false) with
 | none=>rfl
 | some l=>
  obtain⟨done,o,hn⟩:=(Zlh h g.work.length [] _ (Zeh.start g) (by simp)).1 l ho
  exact absurd (Zz6 h o hn) hg
noncomputable def ZxE (g:Zl):Bool:=@decide (ZkI g) (Classical.propDecidable _)
theorem Zvn {g:Zl} (h:ZkI g):ZxE g=true:=@decide_eq_true _ (Classical.propDecidable _) h
theorem Zry {g:Zl} (h:¬ZkI g):ZxE g=false:=@decide_eq_false _ (Classical.propDecidable _) h
noncomputable def Zaa (g:Zl):Int:=bif ZeJ g==0 then (bif ZxE g then 0 else 43) else ZeJ g
theorem Zap {g:Zl} (h:Zaa g=0):Zbj g/\ZkI g:=by
 unfold Zaa at h
 by_cases h0:ZeJ g=0
 ·rw[h0] at h
  refine⟨ZoX h0,Classical.byContradiction fun hn=>?_⟩
  rw[Zry hn] at h
  simp at h
 ·rw[beq_false_of_ne h0] at h
  exact absurd h h0
theorem ZiX (g:Zl) (h:Zfj g):ZeR g=some (Zaa g):=by
 have hw:=ZfO g.work (fun z0=>ZbY z0) Zef (fun x _=>Zxa x) h.w
 unfold ZeR Zaa
 rw[hw,Zty g h]
 by_cases h0:ZeJ g=0
 ·have hG:=ZoX h0
  rw[h0]
  unfold ZeJ at h0
  by_cases hg:ZkI g
  ·obtain⟨l,e,_⟩:=Zv7 hG hg
   rw[e,Zvn hg]
   revert h0
   cases decide (64<(g.work.length:Int))<;>cases decide (256<(g.edges.length:Int))<;>cases g.work.any Zef<;>cases Zhu (ZjK g) 0 g.edges<;>simp
  ·rw[ZzV hG hg,Zry hg]
   revert h0
   cases decide (64<(g.work.length:Int))<;>cases decide (256<(g.edges.length:Int))<;>cases g.work.any Zef<;>cases Zhu (ZjK g) 0 g.edges<;>simp
 ·rw[beq_false_of_ne h0]
  unfold ZeJ at h0 ⊢
  revert h0
  cases decide (64<(g.work.length:Int))<;>cases decide (256<(g.edges.length:Int))<;>cases g.work.any Zef<;>cases Zhu (ZjK g) 0 g.edges<;>simp
theorem Zie {g:Zl} (hG:Zbj g):ZfI g.edges g.work.length:=fun e he=>⟨hG.src e he,hG.dst e he⟩
theorem ZwI {g:Zl} (hG:Zbj g) (hA:ZkI g) {left:List Int} (hl:left.length=g.work.length) (hr:∀x∈left,0<=x) (h:∃n,isN left n/\0<lf left n):∃n,isN left n/\0<lf left n/\ZjS g.edges left n:=by
 have pos:∀n,0<=lf left n:=fun n=>by
  unfold lf
  cases hx:left[n.toNat]? with
  | none=>simp
  | some x=>exact hr x (mG hx)
 let S:List Int:=((List.range left.length).map fun i:Nat=>(i:Int)).filter fun n=>decide (0<lf left n)
 have mem:∀n,n∈S↔isN left n/\0<lf left n:=fun n=>by
  simp only[S,List.mem_filter,List.mem_map,List.mem_range,decide_eq_true_eq]
  constructor
  ·rintro ⟨⟨i,hi,rfl⟩,h2⟩
   exact⟨⟨by omega,by simpa using hi⟩,h2⟩
  ·rintro ⟨h1,h2⟩
   exact⟨⟨n.toNat,h1.2,toNat_of_nonneg h1.1⟩,h2⟩
 obtain⟨n0,h0⟩:=h
 obtain⟨n,hn,hn2⟩:=ZsX hA S.length S (Nat.le_refl _) (fun he=>by
  have:=(mem n0).2 h0
  rw[he] at this
  cases this)
 obtain⟨h1,h2⟩:=(mem n).1 hn
 refine⟨n,h1,h2,fun e he hd=>?_⟩
 have hs:=hG.src e he
 have:=hn2 e he hd
 rw[mem] at this
 have h3:=pos e.src
 apply Classical.byContradiction
 intro hc
 exact this ⟨⟨hs.1,by rw[hl];exact hs.2⟩,by omega⟩
theorem Zo4 {row:List Int}{n:Int} (h:n∈row) (hn:n ≠ -1):0<busy row:=by
 unfold busy
 exact List.countP_pos_iff.2 ⟨n,h,by simpa using hn⟩
theorem ZnF {g:Zl} (hG:Zbj g) (hA:ZkI g) {left on row:List Int} (hl:left.length=g.work.length) (h:∃n,isN left n/\0<lf left n) (c:Zgl g.edges left on) (f:Zgq g.edges left on row) (hm:1<=on.length):0<busy row:=by
 obtain⟨n,h1,h2,h3⟩:=ZwI hG hA hl (fun x hx=>(c.rng x hx).1) h
 have n0:n ≠ -1:=by have:=h1.1;omega
 by_cases ho:n∈on
 ·obtain⟨i,hi⟩:=List.getElem?_of_mem ho
  exact Zo4 (mG (f.keep i n hi n0)) n0
 ·by_cases hr:n∈row
  ·exact Zo4 hr n0
  ·by_cases hi : -1∈row
   ·exact absurd ⟨h1,h2,hr,h3⟩ (f.all hi n)
   ·have hlen:0<row.length:=by rw[f.len];omega
    refine Zo4 (getElem_mem hlen) fun he=>hi ?_
    rw[<- he]
    exact getElem_mem hlen
theorem Zyn {g:Zl} (hG:Zbj g) (hA:ZkI g) {need:List Int} (hn:need.length=g.work.length) (h:∀x∈need,1<=x/\x<=1000) {t:List (List Int)}{left on:List Int} (s:Sched g.edges need 1 t left on):ZdU t=t.length:=by
 have hE:ZfI g.edges need.length:=by rw[hn];exact Zie hG
 induction s with
 | nil=>rfl
 | @snoc t left on row s hs f ih=>
  have c:=s.crew h hE
  have hl:=s.len
  have b:=ZnF hG hA (by rw[hl.1,hn]) hs c f (by rw[hl.2.1];exact Nat.le_refl _)
  have hr:row.length=1:=by rw[f.len,hl.2.1]
  have:busy row<=row.length:=List.countP_le_length
  have e:ZdU (t++[row])=ZdU t+busy row:=by
   unfold ZdU
   rw[List.map_append,List.sum_append]
   simp
  rw[e,ih,lA,length_singleton]
  omega
theorem Sched.short {g:Zl} (hG:Zbj g) (hA:ZkI g) {need:List Int} (hn:need.length=g.work.length) (h:∀x∈need,1<=x/\x<=1000) {m:Nat} (hm:1<=m) {t:List (List Int)}{left on:List Int} (s:Sched g.edges need m t left on):t.length<=ZdU t:=by
 have hE:ZfI g.edges need.length:=by rw[hn];exact Zie hG
 induction s with
 | nil=>exact zero_le _
 | @snoc t left on row s hs f ih=>
  have c:=s.crew h hE
  have hl:=s.len
  have b:=ZnF hG hA (by rw[hl.1,hn]) hs c f (by rw[hl.2.1];exact hm)
  have e:ZdU (t++[row])=ZdU t+busy row:=by
   unfold ZdU
   rw[List.map_append,List.sum_append]
   simp
  rw[e,lA,length_singleton]
  omega
theorem ZzQ {l:List Int} (h:∀x∈l,x=0):l.sum=0:=by
 induction l with
 | nil=>rfl
 | cons x l ih=>
  rw[sum_cons,h x (by simp),ih fun y hy=>h y (by simp[hy])]
  rfl
theorem Zs2 (l:List Zt) (f:Zt->Option Bool) (p:Zt->Bool) (hf:∀x∈l,f x=some (p x)) (hl:l.length<9223372036854775808):ZQ l f=some (l.any p):=by
 unfold ZQ Zay
 refine Zj6 l p _ (fun i x hi hx=>?_) ?_
 ·simp only[ZY,Zba hi,Zn hx,bS,hf x (mG hx),ZA hi hl,cT]
  cases p x<;>rfl
 ·simp only[ZY,Zbg];rfl
theorem ZgE (l:List Int) (n:Int):(l.any fun x=>n==x)=decide (n∈l):=by
 rw[Bool.eq_iff_iff,any_eq_true,decide_eq_true_eq]
 constructor
 ·rintro ⟨x,hx,h⟩
  have:n=x:=by simpa using h
  rw[this];exact hx
 ·intro h
  exact⟨n,h,by simp⟩
theorem Zh0 {γ R:Type} (l:List γ) (step:Int->Option (Int⊕R)) (fin:R) (h1:∀i x,i<l.length->l[i]? = some x->step (i:Int)=some (.inl ((i+1:Nat):Int))) (h2:step (l.length:Int)=some (.inr fin)):lp step 0=some fin:=by
 rw[ZdS l step (fun _ _=>false) (fun _ _=>fin) fin h1 h2,ZbE]
 cases Zhu (fun _ _=>false) 0 l<;>rfl
theorem Zjf {n:Nat} (step:Int×List Int->Option ((Int×List Int)⊕List Int)) (p:Nat->Bool)
  (h1:∀(i:Nat) (out:List Int),i<n->out.length<=i->step ((i:Int),out)=some (.inl (((i+1:Nat):Int),bif p i then out++[(i:Int)] else out)))
  (h2:∀out,step ((n:Int),out)=some (.inr out)):lp step (0,[])=some (((List.range n).filter p).map fun i:Nat=>(i:Int)):=by
 have key:∀(k i:Nat) (out:List Int),i+k=n->out.length<=i->lp step ((i:Int),out)=some (out++((List.range' i k).filter p).map fun i:Nat=>(i:Int)):=by
  intro k
  induction k with
  | zero=>
   intro i out hi _
   have:i=n:=by omega
   subst this
   rw[ZaD,h2]
   simp
  | succ k ih=>
   intro i out hi ho
   rw[ZaD,h1 i out (by omega) ho]
   dsimp only
   rw[List.range'_succ]
   cases hp:p i with
   | true=>
    rw[cT,ih (i+1) _ (by omega) (by rw[lA];simp;exact ho),List.filter_cons_of_pos hp,map_cons,List.append_assoc]
    rfl
   | false=>
    rw[cF,ih (i+1) _ (by omega) (by omega),List.filter_cons_of_neg (by rw[hp];decide)]
 have:=key n 0 [] (by omega) (by simp)
 rw[List.range_eq_range']
 simpa using this
theorem Zfe {n:Nat}{p:Nat->Bool}{z:Int}:(z∈((List.range n).filter p).map fun i:Nat=>(i:Int))↔0<=z/\z.toNat<n/\p z.toNat=true:=by
 rw[List.mem_map]
 constructor
 ·rintro ⟨i,hi,rfl⟩
  obtain⟨h1,h2⟩:=List.mem_filter.1 hi
  rw[List.mem_range] at h1
  exact⟨by omega,by simpa using h1,by simpa using h2⟩
 ·rintro ⟨h0,h1,h2⟩
  exact⟨z.toNat,List.mem_filter.2 ⟨List.mem_range.2 h1,h2⟩,toNat_of_nonneg h0⟩
theorem Ztm {left:List Int}{n:Int} (h:isN left n):Zs left n=some (lf left n):=ZuE h.1 (Zkh h.1 h.2)
theorem Zpn {c:Zw}{n:Int} (h:isN c.left n):Zdl c n=some (lf c.left n==0):=by
 unfold Zdl
 rw[Ztm h,bS]
 cases lf c.left n==0<;>rfl
def ZhP (E:List Zt) (left:List Int) (n:Int):Bool:=!(E.any fun e=>(e.dst==n) && !(lf left e.src==0))
theorem Zb7 {E:List Zt}{left:List Int}{n:Int}:ZhP E left n=true↔ZjS E left n:=by
 unfold ZhP ZjS
 rw[Bool.not_eq_true',List.any_eq_false]
 constructor
 ·intro h e he hd
  have:=h e he
  rw[hd,beq_self_eq_true,Bool.true_and,Bool.not_eq_true',Bool.not_eq_false] at this
  simpa using this
 ·intro h e he hh
  simp only[aT,beq_iff_eq,Bool.not_eq_true',beq_eq_false_iff_ne] at hh
  exact hh.2 (h e he hh.1)
theorem Zt7 {g:Zl} (hG:Zbj g) {c:Zw} (hl:c.left.length=g.work.length) (n:Int):ZeP g c n=some (ZhP g.edges c.left n):=by
 unfold ZeP
 rw[Zs2 _ _ (fun e=>(e.dst==n) && !(lf c.left e.src==0)) (fun e he=>by
  have hs:=hG.src e he
  unfold ZdP
  rw[show(Zw.mk c.on c.left)=c from rfl,Zpn (c:=c) (n:=e.src) ⟨hs.1,by rw[hl];exact hs.2⟩]
  cases e.dst==n<;>cases lf c.left e.src==0<;>rfl) hG.short.e]
 unfold ZhP
 cases (g.edges.any fun e=>(e.dst==n) && !(lf c.left e.src==0))<;>rfl
structure ZcY (g:Zl) (left on:List Int):Prop where
 ll:left.length=g.work.length
 o1:1<=on.length
 o8:on.length<=8
 ok:Zgl g.edges left on
theorem ZyZ (x:Int):Zca x=some (decide (x<0) || decide (1000<x)):=by
 unfold Zca
 cases decide (x<0)<;>cases decide (1000<x)<;>rfl
theorem ZAp {g:Zl} (hG:Zbj g) {left on:List Int} (c:ZcY g left on):ZgB g (Zw.mk on left)=some true:=by
 have o1:=c.o1
 have o8:=c.o8
 have hw:=hG.wl
 have ll:=c.ll
 unfold ZgB
 dsimp only
 rw[dF (by omega),cF,dF (by omega),cF,show((left.length:Int) != (g.work.length:Int))=false by rw[ll];simp,cF,
  ZfO left _ (fun x=>decide (x<0) || decide (1000<x)) (fun x _=>ZyZ x) (by omega),bS]
 have h0:(left.any fun x=>decide (x<0) || decide (1000<x))=false:=List.any_eq_false.2 fun x hx=>by
  have:=c.ok.rng x hx
  rw[dF (by omega),dF (by omega)]
  decide
 rw[h0,cF,Zh0 on (ZdF g (Zw.mk on left)) (.inr ()) (fun i n hi hn=>?_) (by simp only[ZdF,Zbg];rfl),bS]
 ·dsimp only
  rw[Zh0 left (ZdM g (Zw.mk on left)) (.inr ()) (fun i x hi hx=>?_) (by simp only[ZdM,Zbg];rfl)]
  ·rfl
  ·have hin:isN left (i:Int):=⟨by omega,by simpa using hi⟩
   simp only[ZdM,Zba hi,cT,Zpn (c:=Zw.mk on left) hin,bS,Zt7 hG (c:=Zw.mk on left) c.ll,ZA hi (by omega)]
   cases hz:lf left (i:Int)==0 with
   | false=>rfl
   | true=>
    have:=Zb7.2 (c.ok.over _ hin (by simpa using hz))
    rw[this];rfl
 ·simp only[ZdF,Zba hi,cT,Zn hn,bS,ZA hi (by omega)]
  cases hz:n == -1 with
  | true=>rfl
  | false=>
   have hne:n ≠ -1:=by simpa using hz
   rcases c.ok.run n (mG hn) with h | ⟨h1,h2,h3⟩
   ·exact absurd h hne
   ·have:=h1.1
    have:=h1.2
    have hm:(List.take i on).any (fun x=>n==x)=false:=List.any_eq_false.2 fun x hx hq=>by
     have:n=x:=by simpa using hq
     subst this
     obtain⟨j,hj⟩:=List.getElem?_of_mem hx
     have hjl:=(gQ hj).1
     rw[length_take] at hjl
     rw[List.getElem?_take,if_pos (by omega)] at hj
     have:=c.ok.one j i n hj hn hne
     omega
    simp only[cF,dF (show ¬n<0 by omega),dF (show ¬(left.length:Int)<=n by omega),Zpn (c:=Zw.mk on left) h1,bS,show(lf left n==0)=false from beq_eq_false_iff_ne.2 (by omega),
     dT (show(0:Int)<=(i:Int) by omega),toNat_natCast,Nat.ble_eq_true_of_le (show i<=on.length by omega),cT,Zf7 (List.take i on) n (by rw[length_take];omega),hm,Zt7 hG (c:=Zw.mk on left) c.ll,Zb7.2 h3]
theorem ZnY {g:Zl} (h:Zaa g=0) {left on:List Int} (c:ZcY g left on):Zfm g (Zw.mk on left)=some 0:=by
 obtain⟨hG,hA⟩:=Zap h
 unfold Zfm
 rw[ZiX g hG.short,h,bS]
 simp only[beq_self_eq_true,cT,ZAp hG c,bS]
def ZaS (E:List Zt) (left on:List Int):List Int:=((List.range left.length).filter fun i:Nat=>!(lf left (i:Int)==0)&&(!(decide ((i:Int)∈on))&&ZhP E left (i:Int))).map fun i:Nat=>(i:Int)
theorem Zky {g:Zl} (h:Zaa g=0) {left on:List Int} (c:ZcY g left on):Zdw g (Zw.mk on left)=some (ZaS g.edges left on):=by
 obtain⟨hG,hA⟩:=Zap h
 have hw:=hG.wl
 have ll:=c.ll
 have o8:=c.o8
 unfold Zdw
 rw[ZnY h c,bS]
 unfold Zi8
 rw[Zjf (n:=left.length) (Zdy g (Zw.mk on left)) (fun i:Nat=>!(lf left (i:Int)==0)&&(!(decide ((i:Int)∈on))&&ZhP g.edges left (i:Int))) (fun i out hi ho=>?_) (fun out=>by simp only[Zdy,Zbg];rfl)]
 ·rfl
 ·have hin:isN left (i:Int):=⟨by omega,by simpa using hi⟩
  simp only[Zdy,Zba hi,cT,Zpn (c:=Zw.mk on left) hin,bS,Zf7 on (i:Int) (by omega),ZgE,Zt7 hG (c:=Zw.mk on left) c.ll,ZA hi (by omega),ZaR (show out.length+1<=1073741824 by omega)]
  cases lf left (i:Int)==0<;>cases decide ((i:Int)∈on)<;>cases ZhP g.edges left (i:Int)<;>rfl
theorem Zps {E:List Zt}{left on:List Int} (hr:∀x∈left,0<=x) {n:Int}:n∈ZaS E left on↔Rdy E left on n:=by
 unfold ZaS Rdy isN
 rw[Zfe]
 simp only[aT,Bool.not_eq_true',beq_eq_false_iff_ne,decide_eq_false_iff_not]
 constructor
 ·rintro ⟨h0,h1,h2,h3,h4⟩
  rw[toNat_of_nonneg h0] at h2 h3 h4
  refine⟨⟨h0,h1⟩,?_,h3,Zb7.1 h4⟩
  have:0<=lf left n:=by
   rw[show lf left n=lf left n from rfl]
   exact hr _ (mG (Zkh h0 h1))
  omega
 ·rintro ⟨⟨h0,h1⟩,h2,h3,h4⟩
  refine⟨h0,h1,?_⟩
  rw[toNat_of_nonneg h0]
  exact⟨by omega,h3,Zb7.2 h4⟩
theorem ZrR (E:List Zt) (left on:List Int):(ZaS E left on).Nodup:=by
 unfold ZaS
 exact List.Pairwise.map _ (fun a b (h:a≠b)=>by omega) (List.Pairwise.filter _ List.nodup_range)
def upd {α:Type} (f:Nat->α) (c:Nat) (v:α):Nat->α:=fun k=>if k=c then v else f k
theorem ZW {α:Type} (f:Nat->α) (c:Nat) (v:α):upd f c v c=v:=if_pos rfl
theorem Zr8 {α:Type} (f:Nat->α) {c k:Nat} (v:α) (h:k≠c):upd f c v k=f k:=if_neg h
structure Zf where
 T:Nat->Int
 B:Nat->Int
 R:Nat->Int->Int
 O:Nat->Int
 a:Nat->Int
 x:Nat->Int
 y:Nat->Int
 z:Nat->Int
 F:Nat->Nat
def vic (m c f:Nat):Nat:=(c+f) % m
def Zf.fresh (V:Zf) (c f:Nat):Zf:=⟨V.T,V.B,V.R,V.O,upd V.a c 0,upd V.x c 0,upd V.y c 0,upd V.z c 0,upd V.F c f⟩
def Zf.got (V:Zf) (c:Nat) (n:Int):Zf:=⟨V.T,V.B,V.R,upd V.O c n,upd V.a c 0,upd V.x c 0,upd V.y c 0,upd V.z c 0,upd V.F c 0⟩
def Zf.setT (V:Zf) (c:Nat) (n:Int):Zf:=⟨upd V.T c n,V.B,V.R,V.O,V.a,V.x,V.y,V.z,V.F⟩
def Zf.setB (V:Zf) (c:Nat) (n:Int):Zf:=⟨V.T,upd V.B c n,V.R,V.O,V.a,V.x,V.y,V.z,V.F⟩
def Zf.tk (V:Zf) (c:Nat) (a x y z:Int):Zf:=⟨V.T,V.B,V.R,V.O,upd V.a c a,upd V.x c x,upd V.y c y,upd V.z c z,V.F⟩
def Zan (m:Nat) (V:Zf) (c:Nat):Zf:=
 if V.F c=0 then
  if V.a c=0 then (V.setB c (V.B c-1)).tk c 1 (V.x c) (V.B c-1) (V.z c)
  else if V.a c=1 then
   if V.T c<V.y c then V.got c (V.R c (V.y c))
   else if V.T c=V.y c then V.tk c 2 (V.T c) (V.y c) (V.z c)
   else V.tk c 3 (V.T c) (V.y c) (V.z c)
  else if V.a c=2 then
   if V.T c=V.x c then (V.setT c (V.T c+1)).tk c 4 (V.x c) (V.y c) (V.R c (V.y c))
   else V.tk c 3 (V.x c) (V.y c) (V.z c)
  else if V.a c=4 then (V.setB c (V.y c+1)).got c (V.z c)
  else (V.setB c (V.y c+1)).fresh c (1 % m)
 else
  if V.a c=0 then V.tk c 1 (V.T (vic m c (V.F c))) (V.y c) (V.z c)
  else if V.a c=1 then
   if V.x c<V.B (vic m c (V.F c)) then V.tk c 2 (V.x c) (V.B (vic m c (V.F c))) (V.z c)
   else V.fresh c ((V.F c+1) % m)
  else if V.a c=2 then V.tk c 3 (V.x c) (V.y c) (V.R (vic m c (V.F c)) (V.x c))
  else if V.T (vic m c (V.F c))=V.x c then (V.setT (vic m c (V.F c)) (V.T (vic m c (V.F c))+1)).got c (V.z c)
  else V.fresh c ((V.F c+1) % m)
def Zf.be (V:Zf) (c:Nat):Int:=if V.F c=0/\0<V.a c then V.B c+1 else V.B c
def Zf.lo (V:Zf) (c:Nat):Int:=if V.F c=0/\V.a c=4 then V.T c-1 else V.T c
structure Pos (m:Nat) (V:Zf) (c:Nat):Prop where
 F:V.F c<m
 busy:V.O c ≠ -1->V.a c=0/\V.F c=0
 a0:0<=V.a c
 a4:V.a c<=4
 a3:V.F c≠0->V.a c<=3
 T0:0<=V.T c
 TB:V.T c<=V.be c
 B64:V.be c<=64
 o1:V.F c=0->0<V.a c->V.y c=V.B c
 o2:V.F c=0->V.a c=2->V.x c=V.y c/\V.x c<=V.T c
 o3:V.F c=0->V.a c=3∨V.a c=4->V.T c=V.B c+1
 o4:V.F c=0->V.a c=4->V.z c=V.R c (V.B c)
 t1:V.F c≠0->0<V.a c->0<=V.x c/\V.x c<=V.T (vic m c (V.F c))
 t2:V.F c≠0->2<=V.a c->V.x c=V.T (vic m c (V.F c))->V.T (vic m c (V.F c))<V.be (vic m c (V.F c))
 t3:V.F c≠0->V.a c=3->V.z c=V.R (vic m c (V.F c)) (V.x c)
 rx : -1<=V.x c/\V.x c<=64
 ry : -1<=V.y c/\V.y c<=64
def Item (m:Nat) (V:Zf) (c:Nat) (k:Int):Prop:=c<m/\V.lo c<=k/\k<V.be c
structure ZpJ (m:Nat) (base:Int->Prop) (V:Zf):Prop where
 rdy:∀c k,Item m V c k->base (V.R c k)/\∀i,i<m->V.O i≠V.R c k
 inj:∀c k c' k',Item m V c k->Item m V c' k'->V.R c k=V.R c' k'->c=c'/\k=k'
 all:∀n,base n->(∀i,i<m->V.O i≠n)->∃c k,Item m V c k/\V.R c k=n
structure Inv (m:Nat) (base:Int->Prop) (V:Zf):Prop where
 pos:∀c,c<m->Pos m V c
 items:ZpJ m base V
theorem Zm7 {m:Nat} (hm:0<m) (c f:Nat):vic m c f<m:=mod_lt _ hm
theorem ZCm {m c f:Nat} (hc:c<m) (hf:f<m) (h0:f≠0):vic m c f≠c:=by
 unfold vic
 intro h
 by_cases hl:c+f<m
 ·rw[mod_eq_of_lt hl] at h;omega
 ·rw[Nat.mod_eq_sub_mod (by omega),mod_eq_of_lt (by omega)] at h;omega
theorem Zs1 {m c:Nat} (hc:c<m):vic m c 0=c:=by unfold vic;rw[add_zero,mod_eq_of_lt hc]
theorem Pos.other {m:Nat}{V W:Zf}{c i:Nat} (hm:0<m) (all:∀j,j<m->V.T j<=V.be j) (p:Pos m V i) (hi:i<m)
  (hT:∀j,j<m->W.T j=V.T j∨(W.T j=V.T j+1/\V.T j<V.be j))
  (hb:∀j,j<m->W.be j=V.be j∨(j=c/\W.be j=V.be j-1/\V.T j<W.be j/\W.T j=V.T j))
  (hne:i≠c) (hF:W.F i=V.F i) (ha:W.a i=V.a i) (hx:W.x i=V.x i) (hy:W.y i=V.y i) (hz:W.z i=V.z i) (hO:W.O i=V.O i) (hB:W.B i=V.B i) (hR:W.R=V.R):Pos m W i:=by
 have hTi:=hT i hi
 have hbi:W.be i=V.be i:=by
  rcases hb i hi with h | ⟨h,_⟩
  ·exact h
  ·exact absurd h hne
 have hv:=Zm7 hm i (V.F i)
 have hTv:=hT _ hv
 have hbv:=hb _ hv
 refine⟨by rw[hF];exact p.F,fun h=>?_,by rw[ha];exact p.a0,by rw[ha];exact p.a4,fun h=>?_,?_,?_,by rw[hbi];exact p.B64,fun h h2=>?_,fun h h2=>?_,fun h h2=>?_,fun h h2=>?_,fun h h2=>?_,fun h h2 h3=>?_,fun h h2=>?_,by rw[hx];exact p.rx,by rw[hy];exact p.ry⟩
 ·rw[hO] at h;rw[ha,hF];exact p.busy h
 ·rw[hF] at h;rw[ha];exact p.a3 h
 ·have:=p.T0;rcases hTi with h | h<;>omega
 ·have:=p.TB;rw[hbi];rcases hTi with h | h<;>omega
 ·rw[hF] at h;rw[ha] at h2;rw[hy,hB];exact p.o1 h h2
 ·rw[hF] at h;rw[ha] at h2
  have:=p.o2 h h2
  rw[hx,hy]
  refine⟨this.1,?_⟩
  rcases hTi with h | h<;>omega
 ·rw[hF] at h;rw[ha] at h2
  have h3:=p.o3 h h2
  rw[hB]
  rcases hTi with h4 | ⟨h4,h5⟩
  ·omega
  ·have:V.be i=V.B i+1:=by unfold Zf.be;rw[if_pos ⟨h,by omega⟩]
   omega
 ·rw[hF] at h;rw[ha] at h2;rw[hz,hR,hB];exact p.o4 h h2
 ·rw[hF] at h ⊢;rw[ha] at h2
  have:=p.t1 h h2
  rw[hx]
  refine⟨this.1,?_⟩
  rcases hTv with h | h<;>omega
 ·rw[hF] at h h3 ⊢;rw[ha] at h2;rw[hx] at h3
  have h5:=p.t1 h (by omega)
  rcases hTv with h4 | ⟨h4,_⟩
  ·have h6:=p.t2 h h2 (by omega)
   rcases hbv with h7 | ⟨_,h7,h8,_⟩<;>omega
  ·omega
 ·rw[hF] at h ⊢;rw[ha] at h2;rw[hz,hR,hx];exact p.t3 h h2
theorem ZpJ.same {m:Nat}{base:Int->Prop}{V W:Zf} (h:ZpJ m base V) (hlo:∀j,j<m->W.lo j=V.lo j) (hbe:∀j,j<m->W.be j=V.be j) (hO:∀j,j<m->W.O j=V.O j) (hR:W.R=V.R):ZpJ m base W:=by
 have it:∀c k,Item m W c k↔Item m V c k:=fun c k=>by
  unfold Item
  constructor
  ·rintro ⟨h1,h2,h3⟩;rw[hlo c h1] at h2;rw[hbe c h1] at h3;exact⟨h1,h2,h3⟩
  ·rintro ⟨h1,h2,h3⟩;rw[<- hlo c h1] at h2;rw[<- hbe c h1] at h3;exact⟨h1,h2,h3⟩
 refine⟨fun c k hi=>?_,fun c k c' k' h1 h2 h3=>?_,fun n hn ho=>?_⟩
 ·rw[hR]
  obtain⟨h1,h2⟩:=h.rdy c k ((it c k).1 hi)
  exact⟨h1,fun i hi=>by rw[hO i hi];exact h2 i hi⟩
 ·rw[hR] at h3
  exact h.inj c k c' k' ((it c k).1 h1) ((it c' k').1 h2) h3
 ·obtain⟨c,k,h1,h2⟩:=h.all n hn fun i hi=>by rw[<- hO i hi];exact ho i hi
  exact⟨c,k,(it c k).2 h1,by rw[hR];exact h2⟩
theorem ZpJ.take {m:Nat}{base:Int->Prop}{V W:Zf}{c v:Nat}{k0:Int} (h:ZpJ m base V) (hc:c<m) (hidle:V.O c = -1) (hb:∀n,base n->n ≠ -1) (hit:Item m V v k0)
  (it:∀i k,Item m W i k↔Item m V i k/\¬(i=v/\k=k0)) (hO:W.O c=V.R v k0) (hO2:∀j,j<m->j≠c->W.O j=V.O j) (hR:W.R=V.R):ZpJ m base W:=by
 refine⟨fun i k hi=>?_,fun i k i' k' h1 h2 h3=>?_,fun n hn ho=>?_⟩
 ·obtain⟨h1,h2⟩:=(it i k).1 hi
  obtain⟨h3,h4⟩:=h.rdy i k h1
  rw[hR]
  refine⟨h3,fun j hj=>?_⟩
  by_cases e:j=c
  ·rw[e,hO]
   intro he
   exact h2 (by have:=h.inj v k0 i k hit h1 he;exact⟨this.1.symm,this.2.symm⟩)
  ·rw[hO2 j hj e];exact h4 j hj
 ·rw[hR] at h3
  exact h.inj i k i' k' ((it i k).1 h1).1 ((it i' k').1 h2).1 h3
 ·have hne:n≠V.R v k0:=fun e=>ho c hc (by rw[hO,e])
  obtain⟨i,k,h1,h2⟩:=h.all n hn fun j hj=>by
   by_cases e:j=c
   ·rw[e,hidle];exact fun he=>hb n hn he.symm
   ·rw[<- hO2 j hj e];exact ho j hj
  refine⟨i,k,(it i k).2 ⟨h1,fun⟨e1,e2⟩=>hne ?_⟩,by rw[hR];exact h2⟩
  rw[<- h2,e1,e2]
theorem Pos.fresh0 {m:Nat}{W:Zf}{c:Nat} (hF:W.F c<m) (ha:W.a c=0) (hx:W.x c=0) (hy:W.y c=0) (hO:W.O c ≠ -1->W.F c=0) (h0:0<=W.T c) (h1:W.T c<=W.B c) (h2:W.B c<=64):Pos m W c:=by
 have hb:W.be c=W.B c:=by unfold Zf.be;rw[if_neg (by omega)]
 refine⟨hF,fun h=>⟨ha,hO h⟩,by omega,by omega,fun _=>by omega,h0,by omega,by omega,fun _ h=>by omega,fun _ h=>by omega,fun _ h=>by omega,fun _ h=>by omega,fun _ h=>by omega,fun _ h=>by omega,fun _ h=>by omega,by omega,by omega⟩
theorem Pos.owner {m:Nat}{W:Zf}{c:Nat} (hm:0<m) (hF:W.F c=0) (hO:W.O c = -1) (ha:1<=W.a c/\W.a c<=4) (hy:W.y c=W.B c) (h0:0<=W.T c) (h1:W.T c<=W.B c+1) (h2:W.B c+1<=64)
  (q2:W.a c=2->W.x c=W.y c/\W.x c<=W.T c) (q3:W.a c=3∨W.a c=4->W.T c=W.B c+1) (q4:W.a c=4->W.z c=W.R c (W.B c)) (rx : -1<=W.x c/\W.x c<=64):Pos m W c:=by
 have hb:W.be c=W.B c+1:=by unfold Zf.be;rw[if_pos ⟨hF,by omega⟩]
 refine⟨by omega,fun h=>absurd hO h,by omega,by omega,fun h=>absurd hF h,h0,by omega,by omega,fun _ _=>hy,fun _ h=>q2 h,fun _ h=>q3 h,fun _ h=>q4 h,fun h=>absurd hF h,fun h=>absurd hF h,fun h=>absurd hF h,rx,by omega⟩
theorem Pos.thief {m:Nat}{V W:Zf}{c:Nat} (p:Pos m V c) (hF:W.F c=V.F c) (h0:V.F c≠0) (hO:W.O c = -1) (hT:W.T=V.T) (hB:W.B=V.B) (hbe:∀j,W.be j=V.be j) (ha:1<=W.a c/\W.a c<=3) (q1:0<=W.x c/\W.x c<=V.T (vic m c (V.F c)))
  (q2:2<=W.a c->W.x c=V.T (vic m c (V.F c))->V.T (vic m c (V.F c))<V.be (vic m c (V.F c))) (q3:W.a c=3->W.z c=W.R (vic m c (V.F c)) (W.x c)) (rx:W.x c<=64) (ry : -1<=W.y c/\W.y c<=64):Pos m W c:=by
 have h0':W.F c≠0:=by rw[hF];exact h0
 refine⟨by rw[hF];exact p.F,fun h=>absurd hO h,by omega,by omega,fun _=>by omega,by rw[hT];exact p.T0,by rw[hT,hbe];exact p.TB,by rw[hbe];exact p.B64,fun h=>absurd h h0',fun h=>absurd h h0',fun h=>absurd h h0',fun h=>absurd h h0',?_,?_,?_,by omega,ry⟩
 ·intro _ _;rw[hF,hT];exact q1
 ·intro _ h h2;rw[hF,hT] at h2 ⊢;rw[hbe];exact q2 h h2
 ·intro _ h;rw[hF];exact q3 h
def ZuT (m:Nat) (base:Int->Prop) (V W:Zf) (c:Nat):Prop:=
 (∀j,W.O j=V.O j)∨(base (W.O c)/\(∀i,i<m->V.O i≠W.O c)/\∀j,j≠c->W.O j=V.O j)
theorem Inv.step {m:Nat}{base:Int->Prop}{V:Zf}{c:Nat} (I:Inv m base V) (hb:∀n,base n->n ≠ -1) (hc:c<m) (hidle:V.O c = -1):Inv m base (Zan m V c)/\ZuT m base V (Zan m V c) c/\(Zan m V c).R=V.R:=by
 have hm:0<m:=by omega
 have p:=I.pos c hc
 have TB:∀j,j<m->V.T j<=V.be j:=fun j hj=>(I.pos j hj).TB
 obtain⟨pF,_,pa0,pa4,pa3,pT0,pTB,pB64,po1,po2,po3,po4,pt1,pt2,pt3,prx,pry⟩:=p
 have quiet:∀W:Zf,W.R=V.R->W.T=V.T->(∀j,W.O j=V.O j)->(∀j,W.be j=V.be j)->(∀j,W.lo j=V.lo j)->(∀i,i≠c->W.F i=V.F i/\W.a i=V.a i/\W.x i=V.x i/\W.y i=V.y i/\W.z i=V.z i/\W.B i=V.B i)->Pos m W c->Inv m base W/\ZuT m base V W c/\W.R=V.R:=by
  intro W hR hT hO hbe hlo hsame hp
  refine⟨⟨fun i hi=>?_,I.items.same (fun j _=>hlo j) (fun j _=>hbe j) (fun j _=>hO j) hR⟩,.inl hO,hR⟩
  by_cases e:i=c
  ·rw[e];exact hp
  ·obtain⟨s1,s2,s3,s4,s5,s6⟩:=hsame i e
   exact(I.pos i hi).other (c:=c) hm TB hi (fun j _=>.inl (by rw[hT])) (fun j _=>.inl (hbe j)) e s1 s2 s3 s4 s5 (hO i) s6 hR
 have hv:=Zm7 hm c (V.F c)
 unfold Zan
 by_cases hF:V.F c=0
 ·rw[if_pos hF]
  by_cases a0:V.a c=0
  ·rw[if_pos a0]
   have hbc:V.be c=V.B c:=by unfold Zf.be;rw[if_neg (by omega)]
   refine quiet _ rfl rfl (fun _=>rfl) (fun j=>?_) (fun j=>?_) (fun i e=>?_) ?_
   ·by_cases e:j=c
    ·subst e;simp[Zf.be,Zf.tk,Zf.setB,upd,hF,a0]
    ·simp[Zf.be,Zf.tk,Zf.setB,upd,e]
   ·by_cases e:j=c
    ·subst e;simp[Zf.lo,Zf.tk,Zf.setB,upd,hF,a0]
    ·simp[Zf.lo,Zf.tk,Zf.setB,upd,e]
   ·simp[Zf.tk,Zf.setB,upd,e]
   ·refine Pos.owner hm hF hidle ?_ ?_ pT0 ?_ ?_ ?_ ?_ ?_ ?_<;>simp only[Zf.tk,Zf.setB,ZW]
    ·omega
    ·omega
    ·omega
    ·intro h;omega
    ·intro h;omega
    ·intro h;omega
    ·exact prx
  rw[if_neg a0]
  have hbc:V.be c=V.B c+1:=by unfold Zf.be;rw[if_pos ⟨hF,by omega⟩]
  have hy:=po1 hF (by omega)
  by_cases a1:V.a c=1
  ·rw[if_pos a1]
   by_cases h1:V.T c<V.y c
   ·
    rw[if_pos h1]
    have it0:Item m V c (V.y c):=⟨hc,by unfold Zf.lo;rw[if_neg (by omega)];omega,by omega⟩
    have beW:∀j,j≠c->(V.got c (V.R c (V.y c))).be j=V.be j:=fun j e=>by simp[Zf.be,Zf.got,upd,e]
    have beC:(V.got c (V.R c (V.y c))).be c=V.B c:=by simp[Zf.be,Zf.got,upd]
    have loW:∀j,(V.got c (V.R c (V.y c))).lo j=V.lo j:=fun j=>by
     by_cases e:j=c
     ·subst e;simp[Zf.lo,Zf.got,upd,a1]
     ·simp[Zf.lo,Zf.got,upd,e]
    refine⟨⟨fun i hi=>?_,?_⟩,.inr ⟨?_,?_,fun j e=>by simp[Zf.got,upd,e]⟩,rfl⟩
    ·by_cases e:i=c
     ·rw[e]
      refine Pos.fresh0 ?_ ?_ ?_ ?_ ?_ pT0 ?_ ?_<;>simp only[Zf.got,ZW]
      ·exact hm
      ·exact fun _=>trivial
      ·omega
      ·omega
     ·refine(I.pos i hi).other (c:=c) hm TB hi (fun j _=>.inl rfl) (fun j _=>?_) e ?_ ?_ ?_ ?_ ?_ ?_ rfl rfl
      ·by_cases e2:j=c
       ·subst e2
        exact .inr ⟨rfl,by rw[beC];omega,by rw[beC];omega,rfl⟩
       ·exact .inl (beW j e2)
      all_goals simp[Zf.got,upd,e]
    ·refine I.items.take hc hidle hb it0 (fun i k=>?_) (by simp[Zf.got,upd]) (fun j _ e=>by simp[Zf.got,upd,e]) rfl
     unfold Item
     rw[loW]
     by_cases e:i=c
     ·subst e;rw[beC]
      constructor
      ·rintro ⟨q1,q2,q3⟩;exact⟨⟨q1,q2,by omega⟩,fun h=>by omega⟩
      ·rintro ⟨⟨q1,q2,q3⟩,q4⟩;exact⟨q1,q2,by have:k≠V.y i:=fun h=>q4 ⟨rfl,h⟩;omega⟩
     ·rw[beW i e]
      constructor
      ·rintro ⟨q1,q2,q3⟩;exact⟨⟨q1,q2,q3⟩,fun h=>e h.1⟩
      ·rintro ⟨q,_⟩;exact q
    ·have:=(I.items.rdy c _ it0).1
     simpa [Zf.got,upd] using this
    ·have:=(I.items.rdy c _ it0).2
     simpa [Zf.got,upd] using this
   rw[if_neg h1]
   by_cases h2:V.T c=V.y c
   ·rw[if_pos h2]
    refine quiet _ rfl rfl (fun _=>rfl) (fun j=>?_) (fun j=>?_) (fun i e=>?_) ?_
    ·by_cases e:j=c
     ·subst e;simp[Zf.be,Zf.tk,upd,hF,a1]
     ·simp[Zf.be,Zf.tk,upd,e]
    ·by_cases e:j=c
     ·subst e;simp[Zf.lo,Zf.tk,upd,hF,a1]
     ·simp[Zf.lo,Zf.tk,upd,e]
    ·simp[Zf.tk,upd,e]
    ·refine Pos.owner hm hF hidle ?_ ?_ pT0 ?_ ?_ ?_ ?_ ?_ ?_<;>simp only[Zf.tk,ZW]
     ·omega
     ·exact hy
     ·omega
     ·omega
     ·intro _;exact⟨h2,le_refl _⟩
     ·intro h;omega
     ·intro h;omega
     ·omega
   ·rw[if_neg h2]
    refine quiet _ rfl rfl (fun _=>rfl) (fun j=>?_) (fun j=>?_) (fun i e=>?_) ?_
    ·by_cases e:j=c
     ·subst e;simp[Zf.be,Zf.tk,upd,hF,a1]
     ·simp[Zf.be,Zf.tk,upd,e]
    ·by_cases e:j=c
     ·subst e;simp[Zf.lo,Zf.tk,upd,hF,a1]
     ·simp[Zf.lo,Zf.tk,upd,e]
    ·simp[Zf.tk,upd,e]
    ·refine Pos.owner hm hF hidle ?_ ?_ pT0 ?_ ?_ ?_ ?_ ?_ ?_<;>simp only[Zf.tk,ZW]
     ·omega
     ·exact hy
     ·omega
     ·omega
     ·intro h;omega
     ·intro h;omega
     ·intro h;omega
     ·omega
  rw[if_neg a1]
  by_cases a2:V.a c=2
  ·rw[if_pos a2]
   obtain⟨x1,x2⟩:=po2 hF a2
   by_cases h1:V.T c=V.x c
   ·
    rw[if_pos h1]
    have beW:∀j,((V.setT c (V.T c+1)).tk c 4 (V.x c) (V.y c) (V.R c (V.y c))).be j=V.be j:=fun j=>by
     by_cases e:j=c
     ·subst e;simp[Zf.be,Zf.tk,Zf.setT,upd,hF,a2]
     ·simp[Zf.be,Zf.tk,Zf.setT,upd,e]
    have loW:∀j,((V.setT c (V.T c+1)).tk c 4 (V.x c) (V.y c) (V.R c (V.y c))).lo j=V.lo j:=fun j=>by
     by_cases e:j=c
     ·subst e;simp[Zf.lo,Zf.tk,Zf.setT,upd,hF,a2]
     ·simp[Zf.lo,Zf.tk,Zf.setT,upd,e]
    refine⟨⟨fun i hi=>?_,I.items.same (fun j _=>loW j) (fun j _=>beW j) (fun j _=>rfl) rfl⟩,.inl fun _=>rfl,rfl⟩
    by_cases e:i=c
    ·rw[e]
     refine Pos.owner hm hF hidle ?_ ?_ ?_ ?_ ?_ ?_ ?_ ?_ ?_<;>simp only[Zf.tk,Zf.setT,ZW]
     ·omega
     ·exact hy
     ·omega
     ·omega
     ·omega
     ·intro h;omega
     ·intro h;omega
     ·intro h;rw[hy]
     ·exact prx
    ·refine(I.pos i hi).other (c:=c) hm TB hi (fun j _=>?_) (fun j _=>.inl (beW j)) e ?_ ?_ ?_ ?_ ?_ rfl ?_ rfl
     ·by_cases e2:j=c
      ·subst e2
       refine .inr ⟨by simp[Zf.tk,Zf.setT,upd],by omega⟩
      ·exact .inl (by simp[Zf.tk,Zf.setT,upd,e2])
     all_goals simp[Zf.tk,Zf.setT,upd,e]
   ·rw[if_neg h1]
    refine quiet _ rfl rfl (fun _=>rfl) (fun j=>?_) (fun j=>?_) (fun i e=>?_) ?_
    ·by_cases e:j=c
     ·subst e;simp[Zf.be,Zf.tk,upd,hF,a2]
     ·simp[Zf.be,Zf.tk,upd,e]
    ·by_cases e:j=c
     ·subst e;simp[Zf.lo,Zf.tk,upd,hF,a2]
     ·simp[Zf.lo,Zf.tk,upd,e]
    ·simp[Zf.tk,upd,e]
    ·refine Pos.owner hm hF hidle ?_ ?_ pT0 ?_ ?_ ?_ ?_ ?_ ?_<;>simp only[Zf.tk,ZW]
     ·omega
     ·exact hy
     ·omega
     ·omega
     ·intro h;omega
     ·intro h;omega
     ·intro h;omega
     ·exact prx
  rw[if_neg a2]
  have hT:=po3 hF (by omega)
  by_cases a4:V.a c=4
  ·
   rw[if_pos a4]
   have hz:=po4 hF a4
   have it0:Item m V c (V.B c):=⟨hc,by unfold Zf.lo;rw[if_pos ⟨hF,a4⟩];omega,by omega⟩
   have beW:∀j,j≠c->((V.setB c (V.y c+1)).got c (V.z c)).be j=V.be j:=fun j e=>by simp[Zf.be,Zf.got,Zf.setB,upd,e]
   have beC:((V.setB c (V.y c+1)).got c (V.z c)).be c=V.B c+1:=by simp[Zf.be,Zf.got,Zf.setB,upd];omega
   have loC:((V.setB c (V.y c+1)).got c (V.z c)).lo c=V.T c:=by simp[Zf.lo,Zf.got,Zf.setB,upd]
   have loW:∀j,j≠c->((V.setB c (V.y c+1)).got c (V.z c)).lo j=V.lo j:=fun j e=>by simp[Zf.lo,Zf.got,Zf.setB,upd,e]
   have loV:V.lo c=V.T c-1:=by unfold Zf.lo;rw[if_pos ⟨hF,a4⟩]
   refine⟨⟨fun i hi=>?_,?_⟩,.inr ⟨?_,?_,fun j e=>by simp[Zf.got,Zf.setB,upd,e]⟩,rfl⟩
   ·by_cases e:i=c
    ·rw[e]
     refine Pos.fresh0 ?_ ?_ ?_ ?_ ?_ pT0 ?_ ?_<;>simp only[Zf.got,Zf.setB,ZW]
     ·exact hm
     ·exact fun _=>trivial
     ·omega
     ·omega
    ·refine(I.pos i hi).other (c:=c) hm TB hi (fun j _=>.inl rfl) (fun j _=>?_) e ?_ ?_ ?_ ?_ ?_ ?_ ?_ rfl
     ·by_cases e2:j=c
      ·subst e2
       exact .inl (by rw[beC];omega)
      ·exact .inl (beW j e2)
     all_goals simp[Zf.got,Zf.setB,upd,e]
   ·refine I.items.take hc hidle hb it0 (fun i k=>?_) (by simp[Zf.got,Zf.setB,upd];exact hz) (fun j _ e=>by simp[Zf.got,Zf.setB,upd,e]) rfl
    unfold Item
    by_cases e:i=c
    ·subst e;rw[beC,loC,loV]
     constructor
     ·rintro ⟨q1,q2,q3⟩;omega
     ·rintro ⟨⟨q1,q2,q3⟩,q4⟩
      exact absurd ⟨rfl,by omega⟩ q4
    ·rw[beW i e,loW i e]
     constructor
     ·rintro ⟨q1,q2,q3⟩;exact⟨⟨q1,q2,q3⟩,fun h=>e h.1⟩
     ·rintro ⟨q,_⟩;exact q
   ·have:=(I.items.rdy c _ it0).1
    simp only[Zf.got,Zf.setB,ZW]
    rw[hz];exact this
   ·have:=(I.items.rdy c _ it0).2
    simp only[Zf.got,Zf.setB,ZW]
    rw[hz];exact this
  ·rw[if_neg a4]
   have a3:V.a c=3:=by omega
   refine quiet _ rfl rfl (fun _=>rfl) (fun j=>?_) (fun j=>?_) (fun i e=>?_) ?_
   ·by_cases e:j=c
    ·subst e
     rw[hbc]
     simp[Zf.be,Zf.fresh,Zf.setB,upd]
     omega
    ·simp[Zf.be,Zf.fresh,Zf.setB,upd,e]
   ·by_cases e:j=c
    ·subst e;simp[Zf.lo,Zf.fresh,Zf.setB,upd,a3]
    ·simp[Zf.lo,Zf.fresh,Zf.setB,upd,e]
   ·simp[Zf.fresh,Zf.setB,upd,e]
   ·refine Pos.fresh0 ?_ ?_ ?_ ?_ ?_ pT0 ?_ ?_<;>simp only[Zf.fresh,Zf.setB,ZW]
    ·exact mod_lt _ hm
    ·exact fun h=>absurd hidle h
    ·omega
    ·omega
 ·rw[if_neg hF]
  have pv:=I.pos _ hv
  have hbc:V.be c=V.B c:=by unfold Zf.be;rw[if_neg (by omega)]
  have fresh:∀f,f<m->Inv m base (V.fresh c f)/\ZuT m base V (V.fresh c f) c/\(V.fresh c f).R=V.R:=fun f hf=>by
   refine quiet _ rfl rfl (fun _=>rfl) (fun j=>?_) (fun j=>?_) (fun i e=>?_) ?_
   ·by_cases e:j=c
    ·subst e;rw[hbc];simp[Zf.be,Zf.fresh,upd]
    ·simp[Zf.be,Zf.fresh,upd,e]
   ·by_cases e:j=c
    ·subst e;simp[Zf.lo,Zf.fresh,upd,hF]
    ·simp[Zf.lo,Zf.fresh,upd,e]
   ·simp[Zf.fresh,upd,e]
   ·refine Pos.fresh0 ?_ ?_ ?_ ?_ ?_ pT0 ?_ ?_<;>simp only[Zf.fresh,ZW]
    ·exact hf
    ·exact fun h=>absurd hidle h
    ·omega
    ·omega
  have tk:∀a x y z,1<=a/\a<=3->(0<=x/\x<=V.T (vic m c (V.F c)))->(2<=a->x=V.T (vic m c (V.F c))->V.T (vic m c (V.F c))<V.be (vic m c (V.F c)))->(a=3->z=V.R (vic m c (V.F c)) x)->x<=64->(-1<=y/\y<=64)->Inv m base (V.tk c a x y z)/\ZuT m base V (V.tk c a x y z) c/\(V.tk c a x y z).R=V.R:=fun a x y z q0 q1 q2 q3 q4 q5=>by
   have hbe:∀j,(V.tk c a x y z).be j=V.be j:=fun j=>by
    by_cases e:j=c
    ·subst e;rw[hbc];simp[Zf.be,Zf.tk,upd,hF]
    ·simp[Zf.be,Zf.tk,upd,e]
   refine quiet _ rfl rfl (fun _=>rfl) hbe (fun j=>?_) (fun i e=>?_) ?_
   ·by_cases e:j=c
    ·subst e;simp[Zf.lo,Zf.tk,upd,hF]
    ·simp[Zf.lo,Zf.tk,upd,e]
   ·simp[Zf.tk,upd,e]
   ·refine Pos.thief (I.pos c hc) rfl hF hidle rfl rfl hbe ?_ ?_ ?_ ?_ ?_ ?_<;>simp only[Zf.tk,ZW]
    ·exact q0
    ·exact q1
    ·exact q2
    ·exact q3
    ·exact q4
    ·exact q5
  have bv:V.B (vic m c (V.F c))<=V.be (vic m c (V.F c)) /\ -1<=V.B (vic m c (V.F c)):=by
   have h1:=pv.T0
   have h2:=pv.TB
   unfold Zf.be at h2 ⊢
   split at h2<;>rename_i hh<;>simp only[hh]<;>simp<;>omega
  have b64:=pv.B64
  have t64:=pv.TB
  by_cases a0:V.a c=0
  ·rw[if_pos a0]
   exact tk 1 _ _ _ (by omega) ⟨pv.T0,le_refl _⟩ (fun h=>by omega) (fun h=>by omega) (by omega) pry
  rw[if_neg a0]
  have x0:=pt1 hF (by omega)
  by_cases a1:V.a c=1
  ·rw[if_pos a1]
   by_cases h1:V.x c<V.B (vic m c (V.F c))
   ·rw[if_pos h1]
    exact tk 2 _ _ _ (by omega) x0 (fun _ h=>by omega) (fun h=>by omega) prx.2 (by omega)
   ·rw[if_neg h1]
    exact fresh _ (mod_lt _ hm)
  rw[if_neg a1]
  by_cases a2:V.a c=2
  ·rw[if_pos a2]
   exact tk 3 _ _ _ (by omega) x0 (fun _ h=>pt2 hF (by omega) h) (fun _=>rfl) prx.2 pry
  rw[if_neg a2]
  have a3:V.a c=3:=by have:=pa3 hF;omega
  by_cases h1:V.T (vic m c (V.F c))=V.x c
  ·
   rw[if_pos h1]
   have hlt:=pt2 hF (by omega) h1.symm
   have hz:=pt3 hF a3
   have vne:=ZCm hc pF hF
   have hcv:c≠vic m c (V.F c):=fun e=>vne e.symm
   generalize hvv:vic m c (V.F c)=v at *
   have loV:V.lo v=V.T v:=by
    unfold Zf.lo
    by_cases hh:V.F v=0/\V.a v=4
    ·exfalso
     have:=pv.o3 hh.1 (.inr hh.2)
     have:V.be v=V.B v+1:=by unfold Zf.be;rw[if_pos ⟨hh.1,by omega⟩]
     omega
    ·rw[if_neg hh]
   have it0:Item m V v (V.T v):=⟨hv,by omega,hlt⟩
   have beW:∀j,((V.setT v (V.T v+1)).got c (V.z c)).be j=V.be j:=fun j=>by
    by_cases e:j=c
    ·subst e;rw[hbc];simp[Zf.be,Zf.got,Zf.setT,upd]
    ·simp[Zf.be,Zf.got,Zf.setT,upd,e]
   have loW:∀j,j≠v->((V.setT v (V.T v+1)).got c (V.z c)).lo j=V.lo j:=fun j e=>by
    by_cases e2:j=c
    ·subst e2;simp[Zf.lo,Zf.got,Zf.setT,upd,hF,e]
    ·simp[Zf.lo,Zf.got,Zf.setT,upd,e,e2]
   have loC:((V.setT v (V.T v+1)).got c (V.z c)).lo v=V.T v+1:=by
    have hn:¬(V.F v=0/\V.a v=4):=fun hh=>by
     have:V.lo v=V.T v-1:=by unfold Zf.lo;rw[if_pos hh]
     omega
    simp[Zf.lo,Zf.got,Zf.setT,upd,vne]
    intro h h2
    exact absurd ⟨h,h2⟩ hn
   refine⟨⟨fun i hi=>?_,?_⟩,.inr ⟨?_,?_,fun j e=>by simp[Zf.got,Zf.setT,upd,e]⟩,rfl⟩
   ·by_cases e:i=c
    ·rw[e]
     refine Pos.fresh0 ?_ ?_ ?_ ?_ ?_ ?_ ?_ ?_<;>simp only[Zf.got,Zf.setT,ZW,Zr8 _ _ hcv]
     ·exact hm
     ·exact fun _=>trivial
     ·exact pT0
     ·omega
     ·omega
    ·refine(I.pos i hi).other (c:=c) hm TB hi (fun j _=>?_) (fun j _=>.inl (beW j)) e ?_ ?_ ?_ ?_ ?_ ?_ rfl rfl
     ·by_cases e2:j=v
      ·subst e2
       exact .inr ⟨by simp[Zf.got,Zf.setT,upd],hlt⟩
      ·exact .inl (by simp[Zf.got,Zf.setT,upd,e2])
     all_goals simp[Zf.got,Zf.setT,upd,e]
   ·refine I.items.take hc hidle hb it0 (fun i k=>?_) (by simp[Zf.got,Zf.setT,upd];rw[hz,h1]) (fun j _ e=>by simp[Zf.got,Zf.setT,upd,e]) rfl
    unfold Item
    rw[beW]
    by_cases e:i=v
    ·subst e;rw[loC,loV]
     constructor
     ·rintro ⟨q1,q2,q3⟩;exact⟨⟨q1,by omega,q3⟩,fun h=>by omega⟩
     ·rintro ⟨⟨q1,q2,q3⟩,q4⟩;exact⟨q1,by have:k≠V.T i:=fun h=>q4 ⟨rfl,h⟩;omega,q3⟩
    ·rw[loW i e]
     constructor
     ·rintro ⟨q1,q2,q3⟩;exact⟨⟨q1,q2,q3⟩,fun h=>e h.1⟩
     ·rintro ⟨q,_⟩;exact q
   ·have:=(I.items.rdy v _ it0).1
    simp only[Zf.got,Zf.setT,ZW]
    rw[hz,<- h1];exact this
   ·have:=(I.items.rdy v _ it0).2
    simp only[Zf.got,Zf.setT,ZW]
    rw[hz,<- h1];exact this
  ·rw[if_neg h1]
   exact fresh _ (mod_lt _ hm)
def Zfp (f:Nat->Nat):Nat->Nat
 | 0=>0
 | n+1=>Zfp f n+f n
theorem Zrq {f h:Nat->Nat}:∀n,(∀i,i<n->f i<=h i)->Zfp f n<=Zfp h n
 | 0,_=>Nat.le_refl _
 | n+1,e=>by
  have:=Zrq n fun i hi=>e i (by omega)
  have:=e n (by omega)
  unfold Zfp
  omega
theorem Zlk {f h:Nat->Nat} (n:Nat) (e:∀i,i<n->f i=h i):Zfp f n=Zfp h n:=
 Nat.le_antisymm (Zrq n fun i hi=>Nat.le_of_eq (e i hi)) (Zrq n fun i hi=>Nat.le_of_eq (e i hi).symm)
theorem Zj2 {f h:Nat->Nat}{c:Nat}:∀n,c<n->(∀i,i<n->i≠c->f i=h i)->f c+1<=h c->Zfp f n+1<=Zfp h n
 | 0,hc,_,_=>by omega
 | n+1,hc,e,hd=>by
  unfold Zfp
  by_cases hn:c=n
  ·subst hn
   have:=Zlk (f:=f) (h:=h) c fun i hi=>e i (by omega) (by omega)
   omega
  ·have:=Zj2 n (by omega) (fun i hi hne=>e i (by omega) hne) hd
   have:=e n (by omega) (fun h=>hn h.symm)
   omega
theorem Zmk {a b:Nat}{p:Nat->Prop} (dp:∀i,Decidable (p i)) {f h:Nat->Nat}:∀n,(∀i,i<n->(p i->f i<=a/\h i=1)/\(¬p i->f i<=b/\h i=0))->Zfp f n<=Zfp h n*a+(n-Zfp h n)*b/\Zfp h n<=n
 | 0,_=>by simp[Zfp]
 | n+1,e=>by
  obtain⟨h1,h2⟩:=Zmk dp n fun i hi=>e i (by omega)
  obtain⟨e1,e2⟩:=e n (by omega)
  unfold Zfp
  by_cases hp:p n
  ·obtain⟨q1,q2⟩:=e1 hp
   rw[q2]
   refine⟨?_,by omega⟩
   have:n+1-(Zfp h n+1)=n-Zfp h n:=by omega
   rw[this,succ_mul]
   omega
  ·obtain⟨q1,q2⟩:=e2 hp
   rw[q2,add_zero]
   refine⟨?_,by omega⟩
   have:n+1-Zfp h n=(n-Zfp h n)+1:=by omega
   rw[this,succ_mul]
   omega
def ZaQ (V:Zf) (c:Nat):Prop:=V.F c=0->0<V.a c->V.y c=V.B c/\(V.a c=2->V.x c=V.y c/\V.x c<=V.T c)/\(V.a c=3∨V.a c=4->V.B c+1<=V.T c)
noncomputable def BeG (V:Zf) (c:Nat):Int:=@ite _ (V.F c=0/\0<V.a c/\ZaQ V c) (Classical.propDecidable _) (V.B c+1) (V.B c)
theorem ZfR {V:Zf}{c:Nat} (hF:V.F c=0) (ha:0<V.a c) (h:ZaQ V c):BeG V c=V.B c+1:=by unfold BeG;rw[if_pos ⟨hF,ha,h⟩]
theorem Zbl {V:Zf}{c:Nat} (h:¬(V.F c=0/\0<V.a c/\ZaQ V c)):BeG V c=V.B c:=by unfold BeG;rw[if_neg h]
theorem ZFy (V:Zf) (c:Nat):V.B c<=BeG V c:=by unfold BeG;split<;>omega
def NE (V:Zf) (j:Nat):Prop:=V.T j<BeG V j
def ZrT (m:Nat) (V:Zf) (p:Nat):Prop:=p<m/\V.O p = -1/\V.F p=0/\((V.a p=1/\V.T p<=V.y p)∨(V.a p=2/\V.T p=V.x p))
noncomputable def wV (m:Nat) (V:Zf):Nat:=Zfp (fun c=>@ite _ (ZaQ V c) (Classical.propDecidable _) 0 1) m
def rP (V:Zf) (p:Nat):Nat:=if V.a p=1 then 2 else 1
def dP (m:Nat) (last:Int) (p:Nat):Nat:=if last<(p:Int) then ((p:Int)-last-1).toNat else ((p:Int)+m-last-1).toNat
def ZbT (V:Zf) (c:Nat):Nat:=if V.a c=4 then 1 else (4-V.a c).toNat
def ZiC (V:Zf) (c:Nat):Nat:=if V.a c=0 then 0 else ZbT V c
def ZA1 (m:Nat) (V:Zf) (c:Nat):Prop:=NE V (vic m c (V.F c))/\(V.a c=0∨(V.F c≠0/\V.x c=V.T (vic m c (V.F c))))
def OKD (m:Nat) (V:Zf) (c d:Nat):Prop:=(V.F c=0/\V.a c=4/\1<=d)∨(ZA1 m V c/\ZbT V c<=d)∨(∃j,1<=j/\NE V (vic m c (V.F c+j))/\ZbT V c+4*j<=d)
def In (m:Nat) (V:Zf) (last:Int) (k:Nat):Prop:=
 (∃p,ZrT m V p/\rP V p*m+dP m last p<=k) ∨
 ((∀p,¬ZrT m V p)/\(∃j,j<m/\NE V j)/\∃D:Nat->Nat,(∀c,c<m->V.O c = -1->OKD m V c (D c))/\3*m+Zfp (fun c=>if V.O c = -1 then D c else 0) m<=k) ∨
 ((∀p,¬ZrT m V p)/\(∀j,j<m->¬NE V j)/\Zfp (fun c=>if V.O c = -1 then ZiC V c else 0) m<=k)
def uV (m:Nat) (V:Zf):Nat:=Zfp (fun c=>if V.O c = -1/\¬(V.F c=0/\V.a c=4) then 1 else 0) m
def Claim (m:Nat) (V:Zf) (c:Nat):Prop:=(V.F c=0/\V.a c=1/\V.T c<V.y c)∨(V.F c=0/\V.a c=2/\V.T c=V.x c)∨(V.F c≠0/\V.a c=3/\V.T (vic m c (V.F c))=V.x c)
def Zc9 (m:Nat) (V:Zf) (c:Nat):Prop:=c<m/\V.O c = -1/\((∃j,j<m/\V.T j<V.B j)∨V.a c≠0)
structure Gen (m:Nat) (V:Zf) (c:Nat):Prop where
 F:V.F c<m
 busy:V.O c ≠ -1->V.a c=0/\V.F c=0
 a0:0<=V.a c
 a4:V.a c<=4
 a3:V.F c≠0->V.a c<=3
theorem Pos.gen {m:Nat}{V:Zf}{c:Nat} (p:Pos m V c):Gen m V c:=⟨p.F,p.busy,p.a0,p.a4,p.a3⟩
theorem Pos.ownOK {m:Nat}{V:Zf}{c:Nat} (p:Pos m V c):ZaQ V c:=fun h1 h2=>⟨p.o1 h1 h2,p.o2 h1,fun h=>by have:=p.o3 h1 h;omega⟩
def ZB7 (m:Nat) (V:Zf) (c:Nat):Prop:=(V.F c=0/\V.a c=1/\V.T c<V.y c)∨(V.F c=0/\V.a c=4)∨(V.F c≠0/\V.a c=3/\V.T (vic m c (V.F c))=V.x c)
inductive StepC (m:Nat) (V:Zf) (c:Nat):Zf->Prop
 | own0:V.F c=0->V.a c=0->StepC m V c ((V.setB c (V.B c-1)).tk c 1 (V.x c) (V.B c-1) (V.z c))
 | take:V.F c=0->V.a c=1->V.T c<V.y c->StepC m V c (V.got c (V.R c (V.y c)))
 | last:V.F c=0->V.a c=1->V.T c=V.y c->StepC m V c (V.tk c 2 (V.T c) (V.y c) (V.z c))
 | none1:V.F c=0->V.a c=1->V.y c<V.T c->StepC m V c (V.tk c 3 (V.T c) (V.y c) (V.z c))
 | win:V.F c=0->V.a c=2->V.T c=V.x c->StepC m V c ((V.setT c (V.T c+1)).tk c 4 (V.x c) (V.y c) (V.R c (V.y c)))
 | lose:V.F c=0->V.a c=2->V.T c≠V.x c->StepC m V c (V.tk c 3 (V.x c) (V.y c) (V.z c))
 | work:V.F c=0->V.a c=4->StepC m V c ((V.setB c (V.y c+1)).got c (V.z c))
 | back:V.F c=0->V.a c=3->StepC m V c ((V.setB c (V.y c+1)).fresh c (1 % m))
 | top:V.F c≠0->V.a c=0->StepC m V c (V.tk c 1 (V.T (vic m c (V.F c))) (V.y c) (V.z c))
 | bottom:V.F c≠0->V.a c=1->V.x c<V.B (vic m c (V.F c))->StepC m V c (V.tk c 2 (V.x c) (V.B (vic m c (V.F c))) (V.z c))
 | none2:V.F c≠0->V.a c=1->V.B (vic m c (V.F c))<=V.x c->StepC m V c (V.fresh c ((V.F c+1) % m))
 | read:V.F c≠0->V.a c=2->StepC m V c (V.tk c 3 (V.x c) (V.y c) (V.R (vic m c (V.F c)) (V.x c)))
 | steal:V.F c≠0->V.a c=3->V.T (vic m c (V.F c))=V.x c->StepC m V c ((V.setT (vic m c (V.F c)) (V.T (vic m c (V.F c))+1)).got c (V.z c))
 | lost:V.F c≠0->V.a c=3->V.T (vic m c (V.F c))≠V.x c->StepC m V c (V.fresh c ((V.F c+1) % m))
theorem Zuy {m:Nat}{V:Zf}{c:Nat} (p:Gen m V c):StepC m V c (Zan m V c):=by
 have h0:=p.a0
 have h4:=p.a4
 have h3:=p.a3
 unfold Zan
 split
 ·rename_i hF
  split
  ·rename_i h;exact .own0 hF h
  split
  ·rename_i h
   split
   ·rename_i q;exact .take hF h q
   split
   ·rename_i q;exact .last hF h q
   ·rename_i q1 q2;exact .none1 hF h (by omega)
  split
  ·rename_i h
   split
   ·rename_i q;exact .win hF h q
   ·rename_i q;exact .lose hF h q
  split
  ·rename_i h;exact .work hF h
  ·exact .back hF (by omega)
 ·rename_i hF
  have:=h3 hF
  split
  ·rename_i h;exact .top hF h
  split
  ·rename_i h
   split
   ·rename_i q;exact .bottom hF h q
   ·rename_i q;exact .none2 hF h (by omega)
  split
  ·rename_i h;exact .read hF h
  split
  ·rename_i q;exact .steal hF (by omega) q
  ·rename_i q;exact .lost hF (by omega) q
theorem Zdp {V:Zf}{c:Nat} (h:V.F c≠0):ZaQ V c:=fun h1=>absurd h1 h
theorem ZgX {V:Zf}{c:Nat} (h:V.a c=0):ZaQ V c:=fun _ h2=>by omega
theorem ZvZ {V W:Zf}{j:Nat} (hT:W.T j=V.T j) (hB:W.B j=V.B j) (hF:W.F j=V.F j) (ha:W.a j=V.a j) (hx:W.x j=V.x j) (hy:W.y j=V.y j):(ZaQ W j↔ZaQ V j)/\BeG W j=BeG V j:=by
 have h:ZaQ W j↔ZaQ V j:=by unfold ZaQ;rw[hT,hB,hF,ha,hx,hy]
 refine⟨h,?_⟩
 have e:(W.F j=0/\0<W.a j/\ZaQ W j)↔(V.F j=0/\0<V.a j/\ZaQ V j):=by rw[hF,ha,h]
 unfold BeG
 by_cases hh:V.F j=0/\0<V.a j/\ZaQ V j
 ·rw[if_pos hh,if_pos (e.2 hh),hB]
 ·rw[if_neg hh,if_neg (fun h=>hh (e.1 h)),hB]
theorem Zb1 {m:Nat}{V W:Zf}{c:Nat} (s:StepC m V c W) {i:Nat} (hi:i≠c):W.O i=V.O i/\W.F i=V.F i/\W.a i=V.a i/\W.x i=V.x i/\W.y i=V.y i/\W.B i=V.B i:=by
 cases s<;>simp[Zf.tk,Zf.got,Zf.fresh,Zf.setB,Zf.setT,upd,hi]
theorem ZtL {m:Nat}{V W:Zf}{c:Nat} (s:StepC m V c W) (hn:¬Claim m V c):W.T=V.T/\((¬ZaQ V c/\ZaQ W c)∨((ZaQ W c↔ZaQ V c)/\BeG W c=BeG V c)):=by
 cases s with
 | own0 hF ha=>
  have h1:ZaQ V c:=ZgX ha
  have h2:ZaQ ((V.setB c (V.B c-1)).tk c 1 (V.x c) (V.B c-1) (V.z c)) c:=fun _ _=>by simp[Zf.tk,Zf.setB,upd]
  refine⟨rfl,.inr ⟨⟨fun _=>h1,fun _=>h2⟩,?_⟩⟩
  rw[Zbl (V:=V) (by omega),ZfR (by simpa [Zf.tk,Zf.setB] using hF) (by simp[Zf.tk,Zf.setB,upd]) h2]
  simp[Zf.tk,Zf.setB,upd]
 | take hF ha h=>exact absurd (.inl ⟨hF,ha,h⟩) hn
 | last hF ha h=>
  have e:ZaQ (V.tk c 2 (V.T c) (V.y c) (V.z c)) c↔ZaQ V c:=by
   unfold ZaQ
   simp[Zf.tk,upd,hF,ha,h]
  refine⟨rfl,.inr ⟨e,?_⟩⟩
  by_cases h1:ZaQ V c
  ·rw[ZfR hF (by omega) h1,ZfR (by simpa [Zf.tk] using hF) (by simp[Zf.tk,upd]) (e.2 h1)]
   rfl
  ·rw[Zbl (fun h=>h1 h.2.2),Zbl (fun h=>h1 (e.1 h.2.2))]
   rfl
 | none1 hF ha h=>
  have e:ZaQ (V.tk c 3 (V.T c) (V.y c) (V.z c)) c↔ZaQ V c:=by
   unfold ZaQ
   simp[Zf.tk,upd,hF,ha]
   omega
  refine⟨rfl,.inr ⟨e,?_⟩⟩
  by_cases h1:ZaQ V c
  ·rw[ZfR hF (by omega) h1,ZfR (by simpa [Zf.tk] using hF) (by simp[Zf.tk,upd]) (e.2 h1)]
   rfl
  ·rw[Zbl (fun h=>h1 h.2.2),Zbl (fun h=>h1 (e.1 h.2.2))]
   rfl
 | win hF ha h=>exact absurd (.inr (.inl ⟨hF,ha,h⟩)) hn
 | lose hF ha h=>
  refine⟨rfl,?_⟩
  by_cases h1:ZaQ V c
  ·right
   obtain⟨q1,q2,_⟩:=h1 hF (by omega)
   obtain⟨q2,q3⟩:=q2 ha
   have h2:ZaQ (V.tk c 3 (V.x c) (V.y c) (V.z c)) c:=fun _ _=>by
    simp[Zf.tk,upd]
    omega
   refine⟨⟨fun _=>h1,fun _=>h2⟩,?_⟩
   rw[ZfR hF (by omega) h1,ZfR (by simpa [Zf.tk] using hF) (by simp[Zf.tk,upd]) h2]
   rfl
  ·by_cases h2:ZaQ (V.tk c 3 (V.x c) (V.y c) (V.z c)) c
   ·exact .inl ⟨h1,h2⟩
   ·refine .inr ⟨⟨fun h=>absurd h h2,fun h=>absurd h h1⟩,?_⟩
    rw[Zbl (fun h=>h1 h.2.2),Zbl (fun h=>h2 h.2.2)]
    rfl
 | work hF ha=>
  refine⟨rfl,?_⟩
  have h2:ZaQ ((V.setB c (V.y c+1)).got c (V.z c)) c:=ZgX (by simp[Zf.got,Zf.setB,upd])
  by_cases h1:ZaQ V c
  ·refine .inr ⟨⟨fun _=>h1,fun _=>h2⟩,?_⟩
   have q1:=(h1 hF (by omega)).1
   rw[ZfR hF (by omega) h1,Zbl (by simp[Zf.got,Zf.setB,upd])]
   simp[Zf.got,Zf.setB,upd]
   omega
  ·exact .inl ⟨h1,h2⟩
 | back hF ha=>
  refine⟨rfl,?_⟩
  have h2:ZaQ ((V.setB c (V.y c+1)).fresh c (1 % m)) c:=ZgX (by simp[Zf.fresh,Zf.setB,upd])
  by_cases h1:ZaQ V c
  ·refine .inr ⟨⟨fun _=>h1,fun _=>h2⟩,?_⟩
   have q1:=(h1 hF (by omega)).1
   rw[ZfR hF (by omega) h1,Zbl (by simp[Zf.fresh,Zf.setB,upd])]
   simp[Zf.fresh,Zf.setB,upd]
   omega
  ·exact .inl ⟨h1,h2⟩
 | top hF ha=>
  refine⟨rfl,.inr ⟨⟨fun _=>Zdp hF,fun _=>Zdp (by simpa [Zf.tk] using hF)⟩,?_⟩⟩
  rw[Zbl (fun h=>hF h.1),Zbl (by simp[Zf.tk,hF])]
  rfl
 | bottom hF ha h=>
  refine⟨rfl,.inr ⟨⟨fun _=>Zdp hF,fun _=>Zdp (by simpa [Zf.tk] using hF)⟩,?_⟩⟩
  rw[Zbl (fun h=>hF h.1),Zbl (by simp[Zf.tk,hF])]
  rfl
 | none2 hF ha h=>
  refine⟨rfl,.inr ⟨⟨fun _=>Zdp hF,fun _=>ZgX (by simp[Zf.fresh,upd])⟩,?_⟩⟩
  rw[Zbl (fun h=>hF h.1),Zbl (by simp[Zf.fresh,upd])]
  rfl
 | read hF ha=>
  refine⟨rfl,.inr ⟨⟨fun _=>Zdp hF,fun _=>Zdp (by simpa [Zf.tk] using hF)⟩,?_⟩⟩
  rw[Zbl (fun h=>hF h.1),Zbl (by simp[Zf.tk,hF])]
  rfl
 | steal hF ha h=>exact absurd (.inr (.inr ⟨hF,ha,h⟩)) hn
 | lost hF ha h=>
  refine⟨rfl,.inr ⟨⟨fun _=>Zdp hF,fun _=>ZgX (by simp[Zf.fresh,upd])⟩,?_⟩⟩
  rw[Zbl (fun h=>hF h.1),Zbl (by simp[Zf.fresh,upd])]
  rfl
theorem ZAb {m:Nat}{V W:Zf}{c:Nat} (hc:c<m) (hidle:V.O c = -1) (s:StepC m V c W) (h:Claim m V c) (hw:(V.F c=0/\V.a c=2)∨W.O c ≠ -1):uV m W+1<=uV m V:=by
 unfold uV
 refine Zj2 m hc (fun i hi hne=>?_) ?_
 ·obtain⟨h1,h2,h3,_⟩:=Zb1 s hne
  simp only[h1,h2,h3]
 ·have hnot:¬(V.F c=0/\V.a c=4):=by
   rintro ⟨h1,h2⟩
   rcases h with⟨_,h3,_⟩ | ⟨_,h3,_⟩ | ⟨h3,_⟩<;>omega
  have e1:(if V.O c = -1/\¬(V.F c=0/\V.a c=4) then 1 else 0)=1:=if_pos ⟨hidle,hnot⟩
  rw[e1]
  rcases hw with⟨h1,h2⟩ | h1
  ·have:W.F c=0/\W.a c=4:=by
    cases s<;>simp_all [Zf.tk,Zf.setT,upd,Claim]
   rw[if_neg fun hh=>hh.2 this]
   exact Nat.le_refl _
  ·rw[if_neg fun hh=>h1 hh.1]
   exact Nat.le_refl _
theorem Zz2 {m:Nat}{V W:Zf}{c:Nat} (hc:c<m) (hidle:V.O c = -1) (s:StepC m V c W) (hn:¬Claim m V c) (hz:V.F c=0->V.a c=4->W.O c ≠ -1):uV m W=uV m V:=by
 unfold uV
 refine Zlk m fun i hi=>?_
 by_cases e:i=c
 ·subst e
  cases s with
  | take hF ha h=>exact absurd (.inl ⟨hF,ha,h⟩) hn
  | win hF ha h=>exact absurd (.inr (.inl ⟨hF,ha,h⟩)) hn
  | steal hF ha h=>exact absurd (.inr (.inr ⟨hF,ha,h⟩)) hn
  | work hF ha=>
   have:=hz hF ha
   simp only[hF,ha,if_neg (fun h:_/\_=>this h.1)]
   simp
  | _=>simp_all [Zf.tk,Zf.got,Zf.fresh,Zf.setB,Zf.setT,upd]
 ·obtain⟨h1,h2,h3,_⟩:=Zb1 s e
  simp only[h1,h2,h3]
theorem ZvL (m c f j:Nat):vic m c (f % m+j)=vic m c (f+j):=by
 unfold vic
 rw[show c+(f % m+j)=f % m+(c+j) by omega,Nat.mod_add_mod,show f+(c+j)=c+(f+j) by omega]
theorem Zww {m:Nat}{V W:Zf}{i d:Nat} (hT:W.T=V.T) (hbe:∀j,BeG W j=BeG V j) (hF:W.F i=V.F i) (ha:W.a i=V.a i) (hx:W.x i=V.x i) (h:OKD m V i d):OKD m W i d:=by
 unfold OKD ZA1 NE ZbT at *
 simp only[hT,hbe,hF,ha,hx]
 exact h
theorem Zz3 {m:Nat}{V:Zf}{c d:Nat} (p:Gen m V c) (h:OKD m V c d):1<=d:=by
 have h0:=p.a0
 have h4:=p.a4
 rcases h with⟨_,_,h⟩ | ⟨_,h⟩ | ⟨j,h1,_,h⟩
 ·exact h
 ·unfold ZbT at h;split at h<;>omega
 ·omega
theorem Znz {m:Nat}{V W:Zf}{c d:Nat} (hT:W.T=V.T) (hbe:∀j,BeG W j=BeG V j) (hF:W.F c=(V.F c+1) % m) (ha:W.a c=0) (r:1<=ZbT V c) (h:∃j,1<=j/\NE V (vic m c (V.F c+j))/\ZbT V c+4*j<=d):OKD m W c (d-1):=by
 obtain⟨j,h1,h2,h3⟩:=h
 have ne:∀i,NE W i↔NE V i:=fun i=>by unfold NE;rw[hT,hbe]
 have r4:ZbT W c=4:=by unfold ZbT;rw[if_neg (by omega),ha];rfl
 by_cases e:j=1
 ·subst e
  refine .inr (.inl ⟨?_,by omega⟩)
  refine⟨(ne _).2 ?_,.inl ha⟩
  rw[hF]
  have:=ZvL m c (V.F c+1) 0
  rw[add_zero,add_zero] at this
  rw[this]
  exact h2
 ·refine .inr (.inr ⟨j-1,by omega,(ne _).2 ?_,by omega⟩)
  rw[hF,ZvL,show V.F c+1+(j-1)=V.F c+j by omega]
  exact h2
theorem In.step {m:Nat}{V:Zf}{c k:Nat}{last:Int} (G:∀i,i<m->Gen m V i) (hgot:ZB7 m V c->(Zan m V c).O c ≠ -1) (hw:Zc9 m V c) (hnext:∀p,Zc9 m V p->p≠c->dP m (c:Int) p<dP m last p) (h:In m V last k) :
  uV m (Zan m V c)+1<=uV m V∨(uV m (Zan m V c)=uV m V/\wV m (Zan m V c)+1<=wV m V)∨(uV m (Zan m V c)=uV m V/\wV m (Zan m V c)=wV m V/\1<=k/\In m (Zan m V c) (c:Int) (k-1)):=by
 obtain⟨hc,hidle,hwant⟩:=hw
 have p:=G c hc
 have s:=Zuy p
 generalize hWW:Zan m V c=W at s hgot
 have hm:0<m:=by omega
 have hF':=p.F
 by_cases hcl:Claim m V c
 ·left
  have hO:(V.F c=0/\V.a c=2)∨W.O c ≠ -1:=by
   rcases hcl with⟨h1,h2,h3⟩ | ⟨h1,h2,h3⟩ | ⟨h1,h2,h3⟩
   ·exact .inr (hgot (.inl ⟨h1,h2,h3⟩))
   ·exact .inl ⟨h1,h2⟩
   ·exact .inr (hgot (.inr (.inr ⟨h1,h2,h3⟩)))
  exact ZAb hc hidle s hcl hO
 ·right
  obtain⟨hT,hq⟩:=ZtL s hcl
  have hz:V.F c=0->V.a c=4->W.O c ≠ -1:=fun h1 h2=>hgot (.inr (.inl ⟨h1,h2⟩))
  have hu:=Zz2 hc hidle s hcl hz
  have oth:∀i,i≠c->(ZaQ W i↔ZaQ V i)/\BeG W i=BeG V i:=fun i hi=>by
   obtain⟨_,h2,h3,h4,h5,h6⟩:=Zb1 s hi
   exact ZvZ (by rw[hT]) h6 h2 h3 h4 h5
  rcases hq with⟨q1,q2⟩ | ⟨q1,q2⟩
  ·left
   refine⟨hu,?_⟩
   unfold wV
   refine Zj2 m hc (fun i hi hne=>?_) ?_
   ·by_cases h:ZaQ V i
    ·rw[if_pos h,if_pos ((oth i hne).1.2 h)]
    ·rw[if_neg h,if_neg (fun h2=>h ((oth i hne).1.1 h2))]
   ·rw[if_pos q2,if_neg q1]
    exact Nat.le_refl _
  right
  have hbe:∀j,BeG W j=BeG V j:=fun j=>by
   by_cases e:j=c
   ·rw[e];exact q2
   ·exact(oth j e).2
  have hwv:wV m W=wV m V:=by
   unfold wV
   refine Zlk m fun i hi=>?_
   by_cases e:i=c
   ·subst e
    by_cases h:ZaQ V i
    ·rw[if_pos h,if_pos (q1.2 h)]
    ·rw[if_neg h,if_neg (fun h2=>h (q1.1 h2))]
   ·by_cases h:ZaQ V i
    ·rw[if_pos h,if_pos ((oth i e).1.2 h)]
    ·rw[if_neg h,if_neg (fun h2=>h ((oth i e).1.1 h2))]
  have ne:∀i,NE W i↔NE V i:=fun i=>by unfold NE;rw[hT,hbe]
  have pend:∀q,q≠c->(ZrT m W q↔ZrT m V q):=fun q hq=>by
   obtain⟨h1,h2,h3,h4,h5,_⟩:=Zb1 s hq
   unfold ZrT
   rw[h1,h2,h3,h4,h5,hT]
  refine⟨hu,hwv,?_⟩
  have dcc:dP m (c:Int) c=m-1:=by unfold dP;rw[if_neg (by omega)];omega
  rcases h with⟨q,hq,hk⟩ | ⟨np,hne,D,hD,hk⟩ | ⟨np,nn,hk⟩
  ·
   by_cases e:q=c
   ·subst e
    obtain⟨_,_,h1,h2⟩:=hq
    rcases h2 with⟨h2,h3⟩ | ⟨h2,h3⟩
    ·have hTy:V.T q=V.y q:=by
      by_cases hlt:V.T q<V.y q
      ·exact absurd (.inl ⟨h1,h2,hlt⟩) hcl
      ·omega
     have r2:rP V q=2:=by unfold rP;rw[if_pos h2]
     rw[r2] at hk
     have hW:W.O q = -1/\W.F q=0/\W.a q=2/\W.T q=W.x q:=by cases s<;>simp_all [Zf.tk,Zf.got,Zf.fresh,Zf.setB,Zf.setT,upd]<;>omega
     refine⟨by omega,.inl ⟨q,⟨hc,hW.1,hW.2.1,.inr ⟨hW.2.2.1,hW.2.2.2⟩⟩,?_⟩⟩
     have:rP W q=1:=by unfold rP;rw[if_neg (by omega)]
     rw[this,dcc]
     omega
    ·exact absurd (.inr (.inl ⟨h1,h2,h3⟩)) hcl
   ·have hd:=hnext q ⟨hq.1,hq.2.1,.inr (by rcases hq.2.2.2 with h | h<;>omega)⟩ e
    have hr:rP W q=rP V q:=by unfold rP;rw[(Zb1 s e).2.2.1]
    refine⟨by omega,.inl ⟨q,(pend q e).2 hq,?_⟩⟩
    rw[hr]
    omega
  ·
   by_cases hpc:ZrT m W c
   ·refine⟨by omega,.inl ⟨c,hpc,?_⟩⟩
    have:rP W c<=2:=by unfold rP;split<;>omega
    have h2:rP W c*m<=2*m:=Nat.mul_le_mul_right m this
    rw[dcc]
    omega
   ·have okc:=hD c hc hidle
    have d1:=Zz3 p okc
    have okW:W.O c = -1->OKD m W c (D c-1):=fun hO=>by
     have v0:V.F c=0->vic m c (V.F c)=c:=fun h=>by rw[h];exact Zs1 hc
     cases s with
     | own0 hF ha=>
      have nc:¬NE V c:=fun hh=>hpc ⟨hc,hidle,by simpa [Zf.tk,Zf.setB] using hF,.inl (by
       unfold NE at hh
       rw[Zbl (by omega)] at hh
       simp[Zf.tk,Zf.setB,upd]
       omega)⟩
      rcases okc with⟨_,h4,_⟩ | ⟨⟨hg,_⟩,_⟩ | ⟨j,h1,h2,h3⟩
      ·omega
      ·rw[v0 hF] at hg;exact absurd hg nc
      ·refine .inr (.inr ⟨j,h1,(ne _).2 h2,?_⟩)
       have e1:ZbT V c=4:=by unfold ZbT;rw[if_neg (by omega),ha];rfl
       have e2:ZbT ((V.setB c (V.B c-1)).tk c 1 (V.x c) (V.B c-1) (V.z c)) c=3:=by unfold ZbT;simp[Zf.tk,upd]
       omega
     | take hF ha hlt=>exact absurd (.inl ⟨hF,ha,hlt⟩) hcl
     | last hF ha heq=>
      exact absurd ⟨hc,hidle,hF,.inl ⟨ha,by omega⟩⟩ (np c)
     | none1 hF ha hlt=>
      rcases okc with⟨_,h4,_⟩ | ⟨⟨_,hg⟩,_⟩ | ⟨j,h1,h2,h3⟩
      ·omega
      ·rcases hg with hg | ⟨hg,_⟩
       ·omega
       ·exact absurd hF hg
      ·refine .inr (.inr ⟨j,h1,(ne _).2 h2,?_⟩)
       have e1:ZbT V c=3:=by unfold ZbT;rw[if_neg (by omega),ha];rfl
       have e2:ZbT (V.tk c 3 (V.T c) (V.y c) (V.z c)) c=1:=by unfold ZbT;simp[Zf.tk,upd]
       omega
     | win hF ha heq=>exact absurd (.inr (.inl ⟨hF,ha,heq⟩)) hcl
     | lose hF ha hne2=>
      rcases okc with⟨_,h4,_⟩ | ⟨⟨_,hg⟩,_⟩ | ⟨j,h1,h2,h3⟩
      ·omega
      ·rcases hg with hg | ⟨hg,_⟩
       ·omega
       ·exact absurd hF hg
      ·refine .inr (.inr ⟨j,h1,(ne _).2 h2,?_⟩)
       have e1:ZbT V c=2:=by unfold ZbT;rw[if_neg (by omega),ha];rfl
       have e2:ZbT (V.tk c 3 (V.x c) (V.y c) (V.z c)) c=1:=by unfold ZbT;simp[Zf.tk,upd]
       omega
     | work hF ha=>
      exact absurd hO (hz hF ha)
     | back hF ha=>
      rcases okc with⟨_,h4,_⟩ | ⟨⟨_,hg⟩,_⟩ | hj
      ·omega
      ·rcases hg with hg | ⟨hg,_⟩
       ·omega
       ·exact absurd hF hg
      ·exact Znz hT hbe (by simp[Zf.fresh,Zf.setB,upd,hF]) (by simp[Zf.fresh,Zf.setB,upd]) (by unfold ZbT;split<;>omega) hj
     | top hF ha=>
      have e1:ZbT V c=4:=by unfold ZbT;rw[if_neg (by omega),ha];rfl
      have e2:ZbT (V.tk c 1 (V.T (vic m c (V.F c))) (V.y c) (V.z c)) c=3:=by unfold ZbT;simp[Zf.tk,upd]
      rcases okc with⟨h4,_,_⟩ | ⟨⟨hg,_⟩,hr⟩ | ⟨j,h1,h2,h3⟩
      ·exact absurd h4 hF
      ·exact .inr (.inl ⟨⟨(ne _).2 hg,.inr ⟨hF,by simp[Zf.tk,upd]⟩⟩,by omega⟩)
      ·exact .inr (.inr ⟨j,h1,(ne _).2 h2,by omega⟩)
     | bottom hF ha hlt=>
      have e1:ZbT V c=3:=by unfold ZbT;rw[if_neg (by omega),ha];rfl
      have e2:ZbT (V.tk c 2 (V.x c) (V.B (vic m c (V.F c))) (V.z c)) c=2:=by unfold ZbT;simp[Zf.tk,upd]
      rcases okc with⟨h4,_,_⟩ | ⟨⟨hg,hx⟩,hr⟩ | ⟨j,h1,h2,h3⟩
      ·exact absurd h4 hF
      ·refine .inr (.inl ⟨⟨(ne _).2 hg,.inr ⟨hF,?_⟩⟩,by omega⟩)
       rcases hx with hx | ⟨_,hx⟩
       ·omega
       ·simpa [Zf.tk,upd] using hx
      ·exact .inr (.inr ⟨j,h1,(ne _).2 h2,by omega⟩)
     | none2 hF ha hle=>
      rcases okc with⟨h4,_,_⟩ | ⟨⟨hg,hx⟩,hr⟩ | hj
      ·exact absurd h4 hF
      ·exfalso
       rcases hx with hx | ⟨_,hx⟩
       ·omega
       ·have hv:=Zm7 hm c (V.F c)
        have pv:=G _ hv
        generalize vic m c (V.F c)=v at *
        unfold NE at hg
        by_cases ho:V.F v=0/\0<V.a v/\ZaQ V v
        ·rw[ZfR ho.1 ho.2.1 ho.2.2] at hg
         obtain⟨q1,q2,q3⟩:=ho.2.2 ho.1 ho.2.1
         have hi:V.O v = -1:=Classical.byContradiction fun hi=>by have:=(pv.busy hi).1;omega
         have a4:=pv.a4
         by_cases h1:V.a v=1
         ·exact np v ⟨hv,hi,ho.1,.inl ⟨h1,by omega⟩⟩
         ·by_cases h2:V.a v=2
          ·have:=q2 h2
           exact np v ⟨hv,hi,ho.1,.inr ⟨h2,by omega⟩⟩
          ·have:=q3 (by omega)
           omega
        ·rw[Zbl ho] at hg
         omega
      ·exact Znz hT hbe (by simp[Zf.fresh,upd]) (by simp[Zf.fresh,upd]) (by unfold ZbT;split<;>omega) hj
     | read hF ha=>
      have e1:ZbT V c=2:=by unfold ZbT;rw[if_neg (by omega),ha];rfl
      have e2:ZbT (V.tk c 3 (V.x c) (V.y c) (V.R (vic m c (V.F c)) (V.x c))) c=1:=by unfold ZbT;simp[Zf.tk,upd]
      rcases okc with⟨h4,_,_⟩ | ⟨⟨hg,hx⟩,hr⟩ | ⟨j,h1,h2,h3⟩
      ·exact absurd h4 hF
      ·refine .inr (.inl ⟨⟨(ne _).2 hg,.inr ⟨hF,?_⟩⟩,by omega⟩)
       rcases hx with hx | ⟨_,hx⟩
       ·omega
       ·simpa [Zf.tk,upd] using hx
      ·exact .inr (.inr ⟨j,h1,(ne _).2 h2,by omega⟩)
     | steal hF ha heq=>exact absurd (.inr (.inr ⟨hF,ha,heq⟩)) hcl
     | lost hF ha hne2=>
      rcases okc with⟨h4,_,_⟩ | ⟨⟨hg,hx⟩,hr⟩ | hj
      ·exact absurd h4 hF
      ·exfalso
       rcases hx with hx | ⟨_,hx⟩
       ·omega
       ·exact hne2 hx.symm
      ·exact Znz hT hbe (by simp[Zf.fresh,upd]) (by simp[Zf.fresh,upd]) (by unfold ZbT;split<;>omega) hj
    have dec:=Zj2 (f:=fun i=>if W.O i = -1 then upd D c (D c-1) i else 0) (h:=fun i=>if V.O i = -1 then D i else 0) (c:=c) m hc (fun i hi hne2=>by
     simp only[(Zb1 s hne2).1,Zr8 D _ hne2]) (by
     simp only[ZW]
     rw[if_pos hidle]
     split<;>omega)
    refine⟨by omega,.inr (.inl ⟨fun q hq=>?_,?_,upd D c (D c-1),fun i hi ho=>?_,by omega⟩)⟩
    ·by_cases e:q=c
     ·rw[e] at hq;exact hpc hq
     ·exact np q ((pend q e).1 hq)
    ·obtain⟨j,h1,h2⟩:=hne
     exact⟨j,h1,(ne j).2 h2⟩
    ·by_cases e:i=c
     ·rw[e,ZW]
      rw[e] at ho
      exact okW ho
     ·obtain⟨h1,h2,h3,h4,_⟩:=Zb1 s e
      rw[Zr8 D _ e]
      rw[h1] at ho
      exact Zww hT hbe h2 h3 h4 (hD i hi ho)
  ·
   have ha0:V.a c≠0:=by
    rcases hwant with⟨j,h1,h2⟩ | h
    ·exfalso
     have:=ZFy V j
     exact nn j h1 (by unfold NE;omega)
    ·exact h
   have dec:=Zj2 (f:=fun i=>if W.O i = -1 then ZiC W i else 0) (h:=fun i=>if V.O i = -1 then ZiC V i else 0) (c:=c) m hc (fun i hi hne2=>by
    obtain⟨h1,h2,h3,_⟩:=Zb1 s hne2
    simp only[ZiC,ZbT,h1,h3]) (by
    show(if W.O c = -1 then ZiC W c else 0)+1<=(if V.O c = -1 then ZiC V c else 0)
    have e1:(if V.O c = -1 then ZiC V c else 0)=ZiC V c:=if_pos hidle
    rw[e1]
    cases s with
    | own0 hF ha=>exact absurd ha ha0
    | take hF ha hlt=>exact absurd (.inl ⟨hF,ha,hlt⟩) hcl
    | last hF ha heq=>
     exact absurd ⟨hc,hidle,hF,.inl ⟨ha,by omega⟩⟩ (np c)
    | none1 hF ha hlt=>simp[ZiC,ZbT,Zf.tk,upd,ha,hidle]
    | win hF ha heq=>exact absurd (.inr (.inl ⟨hF,ha,heq⟩)) hcl
    | lose hF ha hne2=>simp[ZiC,ZbT,Zf.tk,upd,ha,hidle]
    | work hF ha=>
     rw[if_neg (hz hF ha)]
     simp[ZiC,ZbT,ha]
    | back hF ha=>simp[ZiC,ZbT,Zf.fresh,Zf.setB,upd,ha,hidle]
    | top hF ha=>exact absurd ha ha0
    | bottom hF ha hlt=>simp[ZiC,ZbT,Zf.tk,upd,ha,hidle]
    | none2 hF ha hle=>simp[ZiC,ZbT,Zf.fresh,upd,ha,hidle]
    | read hF ha=>simp[ZiC,ZbT,Zf.tk,upd,ha,hidle]
    | steal hF ha heq=>exact absurd (.inr (.inr ⟨hF,ha,heq⟩)) hcl
    | lost hF ha hne2=>simp[ZiC,ZbT,Zf.fresh,upd,ha,hidle])
   refine⟨by omega,.inr (.inr ⟨fun q hq=>?_,fun j hj=>by rw[ne];exact nn j hj,by omega⟩)⟩
   by_cases e:q=c
   ·subst e
    obtain⟨_,_,h1,h2⟩:=hq
    cases s with
    | own0 hF ha=>exact ha0 ha
    | take hF ha hlt=>exact hcl (.inl ⟨hF,ha,hlt⟩)
    | last hF ha heq=>exact np q ⟨hc,hidle,hF,.inl ⟨ha,by omega⟩⟩
    | win hF ha heq=>exact hcl (.inr (.inl ⟨hF,ha,heq⟩))
    | steal hF ha heq=>exact hcl (.inr (.inr ⟨hF,ha,heq⟩))
    | _=>simp_all [Zf.tk,Zf.got,Zf.fresh,Zf.setB,Zf.setT,upd]
   ·exact np q ((pend q e).1 hq)
def mi (m u:Nat):Nat:=3*m+u*(4*m+4)+(m-u)
def Gm (m:Nat):Nat->Nat
  | 0=>0
  | u+1=>Gm m u+mi m u+1
theorem Zu8 (m:Nat):∀{a b:Nat},a<=b->Gm m a<=Gm m b
  | a, 0, h => by have : a = 0 := by omega
                  subst this;exact Nat.le_refl _
  | a,b+1,h=>by
    by_cases e:a=b+1
    · subst e;exact Nat.le_refl _
    · have:=Zu8 m (show a<=b by omega)
      show _<=Gm m b+mi m b+1
      omega
theorem Zrw {m a b:Nat} (h:a<=b) (hb:b<=m):mi m a<=mi m b:=by
  unfold mi
  obtain⟨d,rfl⟩:∃d,b=a+d:=⟨b-a,by omega⟩
  rw[add_mul]
  have:d<=d*(4*m+4):=Nat.le_mul_of_pos_right d (by omega)
  omega
theorem ZBJ (m:Nat) (V:Zf):uV m V<=m:=(Zmk (a:=0) (b:=0) (p:=fun c=>V.O c = -1/\¬(V.F c=0/\V.a c=4)) (fun _=>Classical.propDecidable _) (f:=fun _=>0) (h:=fun c=>if V.O c = -1/\¬(V.F c=0/\V.a c=4) then 1 else 0) m fun i _=>⟨fun h=>⟨Nat.le_refl _,if_pos h⟩,fun h=>⟨Nat.le_refl _,if_neg h⟩⟩).2
theorem ZsM (m:Nat) (last:Int) (p:Nat):(last<(p:Int)/\dP m last p=((p:Int)-last-1).toNat)∨((p:Int)<=last/\dP m last p=((p:Int)+m-last-1).toNat):=by
  unfold dP
  by_cases h:last<(p:Int)
  · rw[if_pos h];exact .inl ⟨h,rfl⟩
  · rw[if_neg h];exact .inr ⟨by omega,rfl⟩
theorem ZDO {m:Nat}{last:Int} (hl : -1<=last/\last<m) {p:Nat} (hp:p<m):dP m last p+1<=m:=by
  unfold dP
  split<;>omega
theorem ZAH {m c f j:Nat} (hc:c<m) (hf:f<m) (hj:j<m):∃i,1<=i/\i<=m/\vic m c (f+i)=j:=by
  have h0:(c+f) % m<m:=mod_lt _ (by omega)
  refine⟨if j<=(c+f) % m then j+m-(c+f) % m else j-(c+f) % m,?_,?_,?_⟩
  · split<;>omega
  · split<;>omega
  · unfold vic
    rw[<- Nat.add_assoc,Nat.add_mod]
    split
    · rename_i h
      by_cases e:j=(c+f) % m
      · rw[show j+m-(c+f) % m=m by omega,Nat.mod_self,add_zero,Nat.mod_mod]
        exact e.symm
      · rw[mod_eq_of_lt (show j+m-(c+f) % m<m by omega),show(c+f) % m+(j+m-(c+f) % m)=j+m by omega,Nat.add_mod_right,mod_eq_of_lt hj]
    · rename_i h
      rw[mod_eq_of_lt (show j-(c+f) % m<m by omega),show(c+f) % m+(j-(c+f) % m)=j by omega,mod_eq_of_lt hj]
theorem In.start {m:Nat}{V:Zf}{last:Int} (G:∀i,i<m->Gen m V i) (hl : -1<=last/\last<m):In m V last (mi m (uV m V)):=by
  have hu:=ZBJ m V
  by_cases hp:∃p,ZrT m V p
  · obtain⟨p,hp⟩:=hp
    refine .inl ⟨p,hp,?_⟩
    have h1:=ZDO hl hp.1
    have h2:rP V p<=2:=by unfold rP;split<;>omega
    have h3:rP V p*m<=2*m:=Nat.mul_le_mul_right m h2
    unfold mi
    omega
  · have np:∀p,¬ZrT m V p:=fun p h=>hp ⟨p,h⟩
    by_cases hn:∃j,j<m/\NE V j
    · obtain⟨j,hj,hne⟩:=hn
      refine .inr (.inl ⟨np,⟨j,hj,hne⟩,fun c=>if V.F c=0/\V.a c=4 then 1 else 4*m+4,fun c hc ho=>?_,?_⟩)
      · have p:=G c hc
        by_cases h4:V.F c=0/\V.a c=4
        · simp only[if_pos h4]
          exact .inl ⟨h4.1,h4.2,Nat.le_refl _⟩
        · simp only[if_neg h4]
          obtain⟨i,h1,h2,h3⟩:=ZAH hc p.F hj
          refine .inr (.inr ⟨i,h1,by rw[h3];exact hne,?_⟩)
          have:ZbT V c<=4:=by
            have:=p.a0
            unfold ZbT
            split<;>omega
          omega
      · have:=(Zmk (a:=4*m+4) (b:=1) (p:=fun i=>V.O i = -1/\¬(V.F i=0/\V.a i=4)) (fun _=>Classical.propDecidable _) (f:=fun c=>if V.O c = -1 then (if V.F c=0/\V.a c=4 then 1 else 4*m+4) else 0) (h:=fun c=>if V.O c = -1/\¬(V.F c=0/\V.a c=4) then 1 else 0) m fun i _=>by
          constructor
          · rintro ⟨h1,h2⟩
            simp only[if_pos h1,if_neg h2,h1,h2,not_false_iff,and_self,if_true]
            exact⟨Nat.le_refl _,trivial⟩
          · intro h
            simp only[if_neg h]
            refine⟨?_,trivial⟩
            by_cases h1:V.O i = -1
            · have h2:V.F i=0/\V.a i=4:=Classical.byContradiction fun h2=>h ⟨h1,h2⟩
              simp only[if_pos h1,if_pos h2]
              exact Nat.le_refl _
            · simp only[if_neg h1]
              omega).1
        have this:Zfp (fun c=>if V.O c = -1 then (if V.F c=0/\V.a c=4 then 1 else 4*m+4) else 0) m<=uV m V*(4*m+4)+(m-uV m V)*1:=this
        show 3*m+Zfp (fun c=>if V.O c = -1 then (if V.F c=0/\V.a c=4 then 1 else 4*m+4) else 0) m<=mi m (uV m V)
        unfold mi
        omega
    · refine .inr (.inr ⟨np,fun j hj hne=>hn ⟨j,hj,hne⟩,?_⟩)
      have:=(Zmk (a:=4) (b:=1) (p:=fun i=>V.O i = -1/\¬(V.F i=0/\V.a i=4)) (fun _=>Classical.propDecidable _) (f:=fun c=>if V.O c = -1 then ZiC V c else 0) (h:=fun c=>if V.O c = -1/\¬(V.F c=0/\V.a c=4) then 1 else 0) m fun i hi=>by
        have p:=G i hi
        have h0:=p.a0
        constructor
        · rintro ⟨h1,h2⟩
          simp only[if_pos h1,h1,h2,not_false_iff,and_self,if_true]
          refine⟨?_,trivial⟩
          unfold ZiC ZbT
          split
          · omega
          · split<;>omega
        · intro h
          simp only[if_neg h]
          refine⟨?_,trivial⟩
          by_cases h1:V.O i = -1
          · have h2:V.F i=0/\V.a i=4:=Classical.byContradiction fun h2=>h ⟨h1,h2⟩
            simp only[if_pos h1]
            unfold ZiC ZbT
            rw[if_neg (by omega),if_pos h2.2]
            exact Nat.le_refl _
          · simp only[if_neg h1]
            omega).1
      have h4:uV m V*4<=uV m V*(4*m+4):=Nat.mul_le_mul (Nat.le_refl _) (by omega)
      have this:Zfp (fun c=>if V.O c = -1 then ZiC V c else 0) m<=uV m V*4+(m-uV m V)*1:=this
      unfold mi
      omega
def Next (m:Nat) (V:Zf) (last:Int) (c:Nat):Prop:=Zc9 m V c/\((last<(c:Int)/\∀p,Zc9 m V p->last<(p:Int)->c<=p)∨((∀p,Zc9 m V p->(p:Int)<=last)/\∀p,Zc9 m V p->c<=p))
theorem Next.near {m:Nat}{V:Zf}{last:Int}{c:Nat} (h:Next m V last c) (hl : -1<=last/\last<m):∀p,Zc9 m V p->p≠c->dP m (c:Int) p<dP m last p:=fun p hp hne=>by
  obtain⟨hw,h⟩:=h
  have hc:=hw.1
  have hpm:=hp.1
  have e1:=ZsM m (c:Int) p
  have e2:=ZsM m last p
  rcases h with⟨h1,h2⟩ | ⟨h1,h2⟩
  · by_cases h3:last<(p:Int)
    · have:=h2 p hp h3
      rcases e1 with e1 | e1<;>rcases e2 with e2 | e2<;>omega
    · rcases e1 with e1 | e1<;>rcases e2 with e2 | e2<;>omega
  · have:=h1 p hp
    have:=h2 p hp
    rcases e1 with e1 | e1<;>rcases e2 with e2 | e2<;>omega
theorem Inv.gen {m:Nat}{base:Int->Prop}{V:Zf} (I:Inv m base V):∀i,i<m->Gen m V i:=fun i hi=>(I.pos i hi).gen
theorem ZqR:∀{f:Nat->Nat} (n:Nat),(∀i,i<n->f i=0)->Zfp f n=0
  | _,0,_=>rfl
  | f,n+1,h=>by
    unfold Zfp
    rw[ZqR n fun i hi=>h i (by omega),h n (by omega)]
theorem Inv.w {m:Nat}{base:Int->Prop}{V:Zf} (I:Inv m base V):wV m V=0:=by
  unfold wV
  exact ZqR m fun i hi=>if_pos (I.pos i hi).ownOK
theorem Inv.gets {m:Nat}{base:Int->Prop}{V:Zf} (I:Inv m base V) (hb:∀n,base n->n ≠ -1) {c:Nat} (hc:c<m) (hidle:V.O c = -1) (h:ZB7 m V c):(Zan m V c).O c ≠ -1:=by
  have p:=I.pos c hc
  have hm:0<m:=by omega
  rcases h with⟨h1,h2,h3⟩ | ⟨h1,h2⟩ | ⟨h1,h2,h3⟩
  · have hy:=p.o1 h1 (by omega)
    have it:Item m V c (V.y c):=⟨hc,by unfold Zf.lo;rw[if_neg (by omega)];omega,by unfold Zf.be;rw[if_pos ⟨h1,by omega⟩];omega⟩
    have:=hb _ (I.items.rdy c _ it).1
    simpa [Zan,h1,h2,h3,Zf.got,upd] using this
  · have hB:=p.o3 h1 (.inr h2)
    have it:Item m V c (V.B c):=⟨hc,by unfold Zf.lo;rw[if_pos ⟨h1,h2⟩];omega,by unfold Zf.be;rw[if_pos ⟨h1,by omega⟩];omega⟩
    have:=hb _ (I.items.rdy c _ it).1
    rw[<- p.o4 h1 h2] at this
    simpa [Zan,h1,h2,Zf.got,Zf.setB,upd] using this
  · have it:Item m V (vic m c (V.F c)) (V.x c):=⟨Zm7 hm _ _,by unfold Zf.lo;split<;>omega,by
      have:=p.t2 h1 (by omega) h3.symm
      omega⟩
    have:=hb _ (I.items.rdy _ _ it).1
    rw[<- p.t3 h1 h2] at this
    simpa [Zan,h1,h2,h3,Zf.got,Zf.setT,upd] using this
theorem ZzN {m L:Nat}{base:Int->Prop} (hb:∀n,base n->n ≠ -1) (ch:Zf->Int->Nat->Nat)
    (hch:∀V last s,Inv m base V->(∃c,Zc9 m V c)->Zc9 m V (ch V last s)/\(L<=s->Next m V last (ch V last s)))
    (Q:Nat->Nat->Zf->Int->Prop) (mono:∀n k s V l,n<=k->Q n s V l->Q k s V l)
    (h0:∀n s V l,Inv m base V->(∀c,¬Zc9 m V c)->Q n s V l)
    (h1:∀n s V l,Inv m base V->Zc9 m V (ch V l s)->Q n (s+1) (Zan m V (ch V l s)) (ch V l s:Int)->Q (n+1) s V l) :
    ∀s V l,Inv m base V->(-1<=l/\l<(m:Int))->Q ((L-s)+(Gm m m+mi m m)) s V l:=by
  have one:∀{s V l c k},L<=s->Inv m base V->(-1<=l/\l<(m:Int))->Zc9 m V c->Next m V l c->In m V l k->uV m (Zan m V c)+1<=uV m V∨(uV m (Zan m V c)=uV m V/\1<=k/\In m (Zan m V c) (c:Int) (k-1)):=fun {s V l c k} hs I hl hw nx hin=>by
    have I':=(I.step hb hw.1 hw.2.1).1
    rcases In.step I.gen (I.gets hb hw.1 hw.2.1) hw (nx.near hl) hin with h | ⟨_,h⟩ | ⟨h,_,h2,h3⟩
    · exact .inl h
    · rw[I.w] at h;omega
    · exact .inr ⟨h,h2,h3⟩
  have late:∀U k s V l,L<=s->Inv m base V->(-1<=l/\l<(m:Int))->uV m V<=U->In m V l k->Q (Gm m U+k) s V l:=by
    intro U
    induction U with
    | zero=>
      intro k
      induction k with
      | zero=>
        intro s V l hs I hl hu hin
        by_cases hw:∃c,Zc9 m V c
        · obtain⟨w1,w2⟩:=hch V l s I hw
          rcases one hs I hl w1 (w2 hs) hin with h | ⟨_,h,_⟩<;>omega
        · exact h0 _ s V l I fun c hc=>hw ⟨c,hc⟩
      | succ k ih=>
        intro s V l hs I hl hu hin
        by_cases hw:∃c,Zc9 m V c
        · obtain⟨w1,w2⟩:=hch V l s I hw
          rcases one hs I hl w1 (w2 hs) hin with h | ⟨h,_,h2⟩
          · omega
          · have:=w1.1
            exact h1 _ s V l I w1 (ih (s+1) _ _ (by omega) (I.step hb w1.1 w1.2.1).1 (by omega) (by omega) h2)
        · exact h0 _ s V l I fun c hc=>hw ⟨c,hc⟩
    | succ U ihU=>
      intro k
      have down:∀s V l c,L<=s->Inv m base V->Zc9 m V c->ch V l s=c->uV m (Zan m V c)<=U->∀k,Q (Gm m (U+1)+k) s V l:=fun s V l c hs I hw hcc hu k=>by
        subst hcc
        have I':=(I.step hb hw.1 hw.2.1).1
        have hc:=hw.1
        have hl' : -1<=((ch V l s:Nat):Int)/\((ch V l s:Nat):Int)<(m:Int):=by omega
        have q:=ihU _ (s+1) _ _ (by omega) I' hl' hu (In.start I'.gen hl')
        refine mono (Gm m U+mi m (uV m (Zan m V (ch V l s)))+1) _ s V l ?_ (h1 _ s V l I hw q)
        have hum:=ZBJ m (Zan m V (ch V l s))
        have e:Gm m (U+1)=Gm m U+mi m U+1:=rfl
        by_cases hU:U<=m
        · have:=Zrw (m:=m) hu hU
          omega
        · have h5:=Zrw (m:=m) hum (Nat.le_refl m)
          have h6:mi m m<=mi m U:=by
            unfold mi
            have:m*(4*m+4)<=U*(4*m+4):=Nat.mul_le_mul_right _ (by omega)
            omega
          omega
      induction k with
      | zero=>
        intro s V l hs I hl hu hin
        by_cases hw:∃c,Zc9 m V c
        · obtain⟨w1,w2⟩:=hch V l s I hw
          rcases one hs I hl w1 (w2 hs) hin with h | ⟨_,h,_⟩
          · exact down s V l _ hs I w1 rfl (by omega) 0
          · omega
        · exact h0 _ s V l I fun c hc=>hw ⟨c,hc⟩
      | succ k ih=>
        intro s V l hs I hl hu hin
        by_cases hw:∃c,Zc9 m V c
        · obtain⟨w1,w2⟩:=hch V l s I hw
          rcases one hs I hl w1 (w2 hs) hin with h | ⟨h,_,h2⟩
          · exact down s V l _ hs I w1 rfl (by omega) (k+1)
          · have:=w1.1
            exact h1 _ s V l I w1 (ih (s+1) _ _ (by omega) (I.step hb w1.1 w1.2.1).1 (by omega) (by omega) h2)
        · exact h0 _ s V l I fun c hc=>hw ⟨c,hc⟩
  intro s
  generalize hd:L-s=d
  induction d generalizing s with
  | zero=>
    intro V l I hl
    rw[zero_add]
    have hu:=ZBJ m V
    refine mono (Gm m (uV m V)+mi m (uV m V)) _ s V l ?_ (late _ _ s V l (by omega) I hl (Nat.le_refl _) (In.start I.gen hl))
    have:=Zu8 m hu
    have:=Zrw (m:=m) hu (Nat.le_refl m)
    omega
  | succ d ih=>
    intro V l I hl
    by_cases hw:∃c,Zc9 m V c
    · obtain⟨w1,_⟩:=hch V l s I hw
      have:=w1.1
      have q:=ih (s+1) (by omega) (Zan m V (ch V l s)) _ (I.step hb w1.1 w1.2.1).1 (show -1<=((ch V l s:Nat):Int)/\((ch V l s:Nat):Int)<(m:Int) by omega)
      refine mono (d+(Gm m m+mi m m)+1) _ s V l (by omega) (h1 _ s V l I w1 q)
    · exact h0 _ s V l I fun c hc=>hw ⟨c,hc⟩
theorem Zwa {m:Nat} (h1:1<=m) (h8:m<=8):Gm m m+mi m m<=8*m*m*(m+1):=by
  have:m=1∨m=2∨m=3∨m=4∨m=5∨m=6∨m=7∨m=8:=by omega
  rcases this with rfl | rfl | rfl | rfl | rfl | rfl | rfl | rfl<;>decide
section
theorem Zyw:∃k,ZgN 64=some (k,true):=by
 obtain⟨k,hk⟩:=Zxk 64
 have:ZyR 64=true:=by
  have:=Zue 64 (by omega)
  rw[show((64:Nat):Int)=64 from rfl] at this
  rw[this];rfl
 rw[this] at hk
 exact⟨k,hk⟩
structure Zjm (d:Za):Prop where
 len:d.ring.length=64
 t0:0<=d.top
 t1:d.top<=64
 b0:d.top-1<=d.bottom
 b1:d.bottom<=64
theorem ZgR {d:Za} (h:Zjm d):ZaM d=some 0:=by
 obtain⟨k,hk⟩:=Zyw
 have:=h.t0
 have:=h.t1
 have:=h.b0
 have:=h.b1
 unfold ZaM
 rw[h.len,show((64:Nat):Int)=64 from rfl,hk,bS]
 have e:Zh1 d.top=0:=by
  unfold Zh1
  rw[dF (by omega),dF (by omega)];rfl
 simp only[cT,Zli,bS,e,Zgi (show -9223372036854775808<=d.top-1 by omega) (by omega),Zgi (show -9223372036854775808<=d.top+64 by omega) (by omega)]
 rw[dF (show ¬(64:Int)<64 by omega),dF (show ¬d.bottom<d.top-1 by omega),dF (show ¬d.top+64<d.bottom by omega)]
 rfl
def gt {α β:Type} (f:α->β) (z:β) (l:List α) (c:Nat):β:=match l[c]? with | some x=>f x | none=>z
theorem ZI {α β:Type}{f:α->β}{z:β}{l:List α}{c:Nat}{x:α} (h:l[c]? = some x):gt f z l c=f x:=by unfold gt;rw[h]
theorem Zbo {α β:Type}{f:α->β}{z:β}{l:List α}{c:Nat}{v:α} (h:c<l.length):gt f z (l.set c v)=upd (gt f z l) c (f v):=by
 funext k
 unfold gt upd
 rw[List.getElem?_set]
 by_cases e:c=k
 ·subst e;rw[if_pos rfl,if_pos h,if_pos rfl]
 ·rw[if_neg e,if_neg (fun h=>e h.symm)]
theorem ZbG {α:Type} (f:Nat->α) (c:Nat) {v:α} (h:v=f c):upd f c v=f:=by
 funext k
 unfold upd
 split
 ·rename_i e;rw[h,e]
 ·rfl
def plc (k:Int):Nat:=(Int.tmod (bif decide (k<0) then 0 else k) 64).toNat
theorem Zpe (k:Int):Int.tmod (bif decide (k<0) then 0 else k) 64=(plc k:Int)/\plc k<64:=by
 have h0:(0:Int)<=(bif decide (k<0) then 0 else k):=by
  by_cases h:k<0
  ·rw[dT h];exact le_refl _
  ·rw[dF h];show 0<=k;omega
 unfold plc
 have h1:=Int.tmod_nonneg 64 h0
 have h2:=Int.tmod_lt_of_pos (bif decide (k<0) then 0 else k) (show(0:Int)<64 by omega)
 omega
theorem Zw2 {k:Int} (h0:0<=k) (h:k<64):plc k=k.toNat:=by
 unfold plc
 rw[dF (by omega),cF,Int.tmod_eq_emod_of_nonneg h0,Int.emod_eq_of_lt h0 h]
def ZeG (r:List Int) (k:Int):Int:=gt id 0 r (plc k)
theorem ZgL {d:Za} (h:d.ring.length=64) (k:Int):ZcK d k=some (plc k:Int):=by
 unfold ZcK
 rw[h,show((64:Nat):Int)=64 from rfl,(Zpe k).1]
 rfl
theorem Zhg {r:List Int} (h:r.length=64) (k:Int):Zs r (plc k:Int)=some (ZeG r k):=by
 have hl:plc k<r.length:=by rw[h];exact(Zpe k).2
 have:=gE hl
 rw[Zn this]
 unfold ZeG
 rw[ZI this]
 rfl
theorem Zjh {l:List Int} (h:l.length<=1073741824):ZP l=some ():=by
 unfold ZP
 rw[ZaR h];rfl
theorem ZkA {d:Za} (h:d.ring.length=64):Zf0 d=some ():=by
 unfold Zf0
 rw[Zjh (by omega)];rfl
structure Zut (t:Zb):Prop where
 en:t.end_=0
 a0:0<=t.at_
 a4:t.at_<=4
 a3:t.steal=true->t.at_<=3
 rx : -1<=t.top/\t.top<=64
 ry : -1<=t.bottom/\t.bottom<=64
theorem ZuS {n:Int} (h : -1<=n/\n<=64):Zcg n=some false:=by
 unfold Zcg
 rw[dF (by omega),dF (by omega)];rfl
theorem ZtT {t:Zb} (h:Zut t):Zgw t=some true:=by
 have:=h.a0
 have:=h.a4
 unfold Zgw
 rw[ZuS h.rx,ZuS h.ry,h.en,dT (show 0<=t.at_ by omega),dT (show t.at_<=4 by omega)]
 cases hs:t.steal with
 | true=>
  have:=h.a3 hs
  rw[dT (show t.at_<=3 by omega)]
  cases t.at_==0<;>rfl
 | false=>cases t.at_==0<;>rfl
theorem ZeO {d:Za}{t:Zb}{x:Int×Int×Int×Int×Int×Int×Int} (hd:Zjm d) (ht:Zut t) (hs:t.steal=false) (hx:ZaT d.top d.bottom t.at_ t.top t.bottom t.got t.end_ d.ring=some x) (hd':Zjm ⟨d.ring,x.1,x.2.1⟩) :
  Zad d t=some (⟨d.ring,x.1,x.2.1⟩,⟨false,x.2.2.1,x.2.2.2.1,x.2.2.2.2.1,x.2.2.2.2.2.1,x.2.2.2.2.2.2⟩,0):=by
 unfold Zad
 rw[ZgR hd,bS,show((0:Int) != 0)=false from rfl,cF,ZtT ht,bS,cT,ZkA hd.len,bS,hs,cF,hx,bS,ZgR hd',bS]
 rfl
theorem ZeV {d:Za}{t:Zb}{x:Int×Int×Int×Int×Int×Int} (hd:Zjm d) (ht:Zut t) (hs:t.steal=true) (hx:ZaJ d.top d.bottom t.at_ t.top t.bottom t.got t.end_ d.ring=some x) (hd':Zjm ⟨d.ring,x.1,d.bottom⟩) :
  Zad d t=some (⟨d.ring,x.1,d.bottom⟩,⟨true,x.2.1,x.2.2.1,x.2.2.2.1,x.2.2.2.2.1,x.2.2.2.2.2⟩,0):=by
 unfold Zad
 rw[ZgR hd,bS,show((0:Int) != 0)=false from rfl,cF,ZtT ht,bS,cT,ZkA hd.len,bS,hs,cT,hx,bS,ZgR hd',bS]
 rfl
theorem Zvb {m c:Nat}{f:Int} (hm:0<m) (h8:m<=8) (hc:c<m) (h0:0<=f) (hf:f<(m:Int)):Int.tmod (w64 ((c:Int)+f)) (m:Int)=((vic m c f.toNat:Nat):Int):=by
 rw[ZbN (by omega),show(c:Int)+f=((c+f.toNat:Nat):Int) by omega,Int.tmod_eq_emod_of_nonneg (by omega)]
 rfl
theorem ZA0 {m:Nat}{f:Int} (hm:0<m) (h8:m<=8) (h0:0<=f) (hf:f<(m:Int)):Int.tmod (w64 (f+1)) (m:Int)=(((f.toNat+1) % m:Nat):Int):=by
 rw[ZbN (by omega),show f+1=((f.toNat+1:Nat):Int) by omega,Int.tmod_eq_emod_of_nonneg (by omega)]
 rfl
section
variable {m c:Nat} {work:List Int} {E:List Zt} {on left fs:List Int} {ds:List Za} {ts:List Zb} {f:Int} {d d':Za} {t t':Zb}
theorem ZvQ {c:Nat}{x:Int}{ts:List Zb}{fs:List Int} (ht:c<ts.length) (hf:c<fs.length):Zbh (c:Int) x ts fs=some (ts.set c ⟨x != 0,0,0,0,0,0⟩):=by
 unfold Zbh
 rw[Zn (gE hf),bS,Zn (gE ht)]
 cases x != 0<;>rfl
theorem Zq1 (hm:0<m) (h8:m<=8) (hc:c<m) (ho:on.length=m) (h0:0<=f) (hf:f<(m:Int)) (hfs:fs[c]? = some f) (hds:ds[vic m c f.toNat]? = some d) (hts:ts[c]? = some t) (hd:Zad d t=some (d',t',0)) (he:t'.end_=0) :
  Z3 (c:Int) work E on left ds ts fs=some (0,on,ds.set (vic m c f.toNat) d',ts.set c t',fs):=by
 unfold Z3
 rw[Zn hfs,bS,ho,show((m:Int)==0)=false from beq_eq_false_iff_ne.2 (by omega),cF,Zvb hm h8 hc h0 hf,Zn hds,bS,Zn hts,bS,hd,bS]
 simp only[he,show((0:Int) != 0)=false from rfl,show((0:Int)==1)=false from rfl,show((0:Int)==2)=false from rfl,show((0:Int)==3)=false from rfl,cF,toNat_natCast]
theorem ZqN {R:List Int} (hm:0<m) (h8:m<=8) (hc:c<m) (ho:on.length=m) (hl:ts.length=m) (hlf:fs.length=m) (h0:0<=f) (hf:f<(m:Int)) (hfs:fs[c]? = some f) (hds:ds[vic m c f.toNat]? = some d) (hts:ts[c]? = some t) (hd:Zad d t=some (d',t',0)) (he:t'.end_=1)
  (hR:Zdw ⟨work,E⟩ ⟨on,left⟩=some R) (hRl:R.length<9223372036854775808) (hg:t'.got∈R) :
  Z3 (c:Int) work E on left ds ts fs=some (0,on.set c t'.got,ds.set (vic m c f.toNat) d',ts.set c ⟨false,0,0,0,0,0⟩,fs.set c 0):=by
 unfold Z3
 rw[Zn hfs,bS,ho,show((m:Int)==0)=false from beq_eq_false_iff_ne.2 (by omega),cF,Zvb hm h8 hc h0 hf,Zn hds,bS,Zn hts,bS,hd,bS]
 simp only[he,show((0:Int) != 0)=false from rfl,show((1:Int)==1)=true from rfl,cF,cT,hR,bS,Zf7 R _ hRl,ZgE,dT hg,Zn (gE (show c<on.length by omega)),toNat_natCast]
 rw[show(0:Int)=(0:Int) from rfl,ZvQ (by rw[length_set];omega) (by omega),bS,set_set]
 rfl
theorem ZoE (hm:0<m) (h8:m<=8) (hc:c<m) (ho:on.length=m) (hl:ts.length=m) (hlf:fs.length=m) (h0:0<=f) (hf:f<(m:Int)) (hfs:fs[c]? = some f) (hds:ds[vic m c f.toNat]? = some d) (hts:ts[c]? = some t) (hd:Zad d t=some (d',t',0)) (he:t'.end_=2∨t'.end_=3) :
  Z3 (c:Int) work E on left ds ts fs=some (0,on,ds.set (vic m c f.toNat) d',ts.set c ⟨(((f.toNat+1) % m:Nat):Int) != 0,0,0,0,0,0⟩,fs.set c (((f.toNat+1) % m:Nat):Int)):=by
 unfold Z3
 rw[Zn hfs,bS,ho,show((m:Int)==0)=false from beq_eq_false_iff_ne.2 (by omega),cF,Zvb hm h8 hc h0 hf,Zn hds,bS,Zn hts,bS,hd,bS]
 have hfr:=ZvQ (c:=c) (x:=(((f.toNat+1) % m:Nat):Int)) (ts:=ts.set c t') (fs:=fs) (by rw[length_set];omega) (by omega)
 rcases he with he | he
 ·simp only[he,show((0:Int) != 0)=false from rfl,show((2:Int)==1)=false from rfl,show((2:Int)==2)=true from rfl,cF,cT,ZA0 hm h8 h0 hf,hfr,bS,toNat_natCast,set_set]
 ·simp only[he,show((0:Int) != 0)=false from rfl,show((3:Int)==1)=false from rfl,show((3:Int)==2)=false from rfl,show((3:Int)==3)=true from rfl,cF,cT,ZA0 hm h8 h0 hf,hfr,bS,toNat_natCast,set_set]
end
def vw (on:List Int) (ds:List Za) (ts:List Zb) (fs:List Int):Zf:=
 ⟨gt (·.top) 0 ds,gt (·.bottom) 0 ds,gt (fun d=>ZeG d.ring) (fun _=>0) ds,gt id 0 on,gt (·.at_) 0 ts,gt (·.top) 0 ts,gt (·.bottom) 0 ts,gt (·.got) 0 ts,gt Int.toNat 0 fs⟩
def base (E:List Zt) (left:List Int) (n:Int):Prop:=isN left n/\0<lf left n/\ZjS E left n
theorem Zi6 {E:List Zt}{left:List Int}:∀n,base E left n->n ≠ -1:=fun n h=>by have:=h.1.1;omega
structure GangIn (g:Zl) (m:Nat) (left on:List Int) (ds:List Za) (ts:List Zb) (fs:List Int):Prop where
 crew:ZcY g left on
 ol:on.length=m
 dl:ds.length=m
 tl:ts.length=m
 fl:fs.length=m
 ring:∀d∈ds,d.ring.length=64
 en:∀t∈ts,t.end_=0
 f0:∀f∈fs,0<=f
 st:∀(c:Nat) t f,ts[c]? = some t->fs[c]? = some f->t.steal=(f != 0)
 bz:∀(c:Nat) n t,on[c]? = some n->n ≠ -1->ts[c]? = some t->t=⟨false,0,0,0,0,0⟩
 inv:Inv m (base g.edges left) (vw on ds ts fs)
end
section
theorem Zf.eq_of {V W:Zf} (hT:V.T=W.T) (hB:V.B=W.B) (hR:V.R=W.R) (hO:V.O=W.O) (ha:V.a=W.a) (hx:V.x=W.x) (hy:V.y=W.y) (hz:V.z=W.z) (hF:V.F=W.F):V=W:=by
 cases V;cases W;cases hT;cases hB;cases hR;cases hO;cases ha;cases hx;cases hy;cases hz;cases hF;rfl
theorem ZbD {α:Type}{l:List α}{i:Nat}{v x:α} (h:x∈l.set i v):x∈l∨x=v:=by
 obtain⟨j,hj⟩:=List.getElem?_of_mem h
 rw[List.getElem?_set] at hj
 split at hj
 ·split at hj
  ·exact .inr (Option.some.inj hj).symm
  ·cases hj
 ·exact .inl (mG hj)
def Zmt (g:Zl) (m:Nat) (left on:List Int) (ds:List Za) (ts:List Zb) (fs:List Int) (c:Nat):Prop:=
 ∃on' ds' ts' fs',Z3 (c:Int) g.work g.edges on left ds ts fs=some (0,on',ds',ts',fs')/\GangIn g m left on' ds' ts' fs'/\vw on' ds' ts' fs'=Zan m (vw on ds ts fs) c
theorem Zlr (on:List Int) (ds:List Za) (ts:List Zb) (fs:List Int) {i:Nat}{n:Int} (h:on[i]? = some n):(vw on ds ts fs).O i=n:=ZI h
theorem Zvq {on:List Int}{ds:List Za}{ts:List Zb}{fs:List Int}{i:Nat}{n:Int} (hi:(vw on ds ts fs).O i = -1) (h:on[i]? = some n):n = -1:=by
 rw[Zlr on ds ts fs h] at hi
 exact hi
section
variable {g:Zl} {m c v:Nat} {on left fs:List Int} {ds:List Za} {ts:List Zb} {f:Int} {d d':Za} {t t':Zb}
theorem Zo0 (hv:v<ds.length) (hd:ds[v]? = some d) (hr:d'.ring=d.ring):gt (fun d:Za=>ZeG d.ring) (fun _=>0) (ds.set v d')=gt (fun d:Za=>ZeG d.ring) (fun _=>0) ds:=by
 rw[Zbo hv]
 exact ZbG _ _ (by rw[ZI hd,hr])
theorem Zf2 (h:Zaa g=0) (G:GangIn g m left on ds ts fs) (hm:0<m) (h8:m<=8) (hc:c<m) (hidle:(vw on ds ts fs).O c = -1) (hf:f<(m:Int)) (hfs:fs[c]? = some f) (hv:v=vic m c f.toNat) (hvm:v<m) (hds:ds[v]? = some d) (hts:ts[c]? = some t)
  (hd:Zad d t=some (d',t',0)) (he:t'.end_=0) (hr:d'.ring=d.ring) (hs:t'.steal=t.steal)
  (hW:Zan m (vw on ds ts fs) c=⟨upd (vw on ds ts fs).T v d'.top,upd (vw on ds ts fs).B v d'.bottom,(vw on ds ts fs).R,(vw on ds ts fs).O,upd (vw on ds ts fs).a c t'.at_,upd (vw on ds ts fs).x c t'.top,upd (vw on ds ts fs).y c t'.bottom,upd (vw on ds ts fs).z c t'.got,(vw on ds ts fs).F⟩):Zmt g m left on ds ts fs c:=by
 have h0:=G.f0 f (mG hfs)
 have hvd:v<ds.length:=by rw[G.dl];exact hvm
 have hct:c<ts.length:=by rw[G.tl];exact hc
 have hV:vw on (ds.set v d') (ts.set c t') fs=Zan m (vw on ds ts fs) c:=by
  rw[hW]
  refine Zf.eq_of ?_ ?_ ?_ rfl ?_ ?_ ?_ ?_ rfl
  ·exact Zbo hvd
  ·exact Zbo hvd
  ·exact Zo0 hvd hds hr
  ·exact Zbo hct
  ·exact Zbo hct
  ·exact Zbo hct
  ·exact Zbo hct
 refine⟨on,ds.set v d',ts.set c t',fs,?_,⟨G.crew,G.ol,by rw[length_set];exact G.dl,by rw[length_set];exact G.tl,G.fl,fun x hx=>?_,fun x hx=>?_,G.f0,fun i ti fi hti hfi=>?_,fun i n ti hi hn hti=>?_,?_⟩,hV⟩
 ·subst hv;exact Zq1 hm h8 hc G.ol h0 hf hfs hds hts hd he
 ·rcases ZbD hx with hx | hx
  ·exact G.ring x hx
  ·rw[hx,hr];exact G.ring d (mG hds)
 ·rcases ZbD hx with hx | hx
  ·exact G.en x hx
  ·rw[hx];exact he
 ·rw[List.getElem?_set] at hti
  split at hti
  ·rename_i e
   subst e
   cases hti
   rw[hs]
   rw[hfs] at hfi
   cases hfi
   exact G.st c t f hts hfs
  ·exact G.st i ti fi hti hfi
 ·rw[List.getElem?_set] at hti
  split at hti
  ·rename_i e
   subst e
   exact absurd (Zvq hidle hi) hn
  ·exact G.bz i n ti hi hn hti
 ·rw[hV]
  exact(G.inv.step Zi6 hc hidle).1
theorem Znr (h:Zaa g=0) (G:GangIn g m left on ds ts fs) (hm:0<m) (h8:m<=8) (hc:c<m) (hidle:(vw on ds ts fs).O c = -1) (hf:f<(m:Int)) (hfs:fs[c]? = some f) (hv:v=vic m c f.toNat) (hvm:v<m) (hds:ds[v]? = some d) (hts:ts[c]? = some t)
  (hd:Zad d t=some (d',t',0)) (he:t'.end_=2∨t'.end_=3) (hr:d'.ring=d.ring)
  (hW:Zan m (vw on ds ts fs) c=⟨upd (vw on ds ts fs).T v d'.top,upd (vw on ds ts fs).B v d'.bottom,(vw on ds ts fs).R,(vw on ds ts fs).O,upd (vw on ds ts fs).a c 0,upd (vw on ds ts fs).x c 0,upd (vw on ds ts fs).y c 0,upd (vw on ds ts fs).z c 0,upd (vw on ds ts fs).F c ((f.toNat+1) % m)⟩):Zmt g m left on ds ts fs c:=by
 have h0:=G.f0 f (mG hfs)
 have hvd:v<ds.length:=by rw[G.dl];exact hvm
 have hct:c<ts.length:=by rw[G.tl];exact hc
 have hcf:c<fs.length:=by rw[G.fl];exact hc
 have hV:vw on (ds.set v d') (ts.set c ⟨(((f.toNat+1) % m:Nat):Int) != 0,0,0,0,0,0⟩) (fs.set c (((f.toNat+1) % m:Nat):Int))=Zan m (vw on ds ts fs) c:=by
  rw[hW]
  refine Zf.eq_of ?_ ?_ ?_ rfl ?_ ?_ ?_ ?_ ?_
  ·exact Zbo hvd
  ·exact Zbo hvd
  ·exact Zo0 hvd hds hr
  ·exact Zbo hct
  ·exact Zbo hct
  ·exact Zbo hct
  ·exact Zbo hct
  ·exact Zbo hcf
 refine⟨on,_,_,_,?_,⟨G.crew,G.ol,by rw[length_set];exact G.dl,by rw[length_set];exact G.tl,by rw[length_set];exact G.fl,fun x hx=>?_,fun x hx=>?_,fun x hx=>?_,fun i ti fi hti hfi=>?_,fun i n ti hi hn hti=>?_,?_⟩,hV⟩
 ·subst hv;exact ZoE hm h8 hc G.ol G.tl G.fl h0 hf hfs hds hts hd he
 ·rcases ZbD hx with hx | hx
  ·exact G.ring x hx
  ·rw[hx,hr];exact G.ring d (mG hds)
 ·rcases ZbD hx with hx | hx
  ·exact G.en x hx
  ·rw[hx]
 ·rcases ZbD hx with hx | hx
  ·exact G.f0 x hx
  ·rw[hx];omega
 ·rw[List.getElem?_set] at hti hfi
  split at hti
  ·rename_i e
   subst e
   rw[if_pos rfl,if_pos hcf] at hfi
   cases hti;cases hfi;rfl
  ·rename_i e
   rw[if_neg e] at hfi
   exact G.st i ti fi hti hfi
 ·rw[List.getElem?_set] at hti
  split at hti
  ·rename_i e
   subst e
   exact absurd (Zvq hidle hi) hn
  ·exact G.bz i n ti hi hn hti
 ·rw[hV]
  exact(G.inv.step Zi6 hc hidle).1
theorem Zpp (h:Zaa g=0) (G:GangIn g m left on ds ts fs) (hm:0<m) (h8:m<=8) (hc:c<m) (hidle:(vw on ds ts fs).O c = -1) (hf:f<(m:Int)) (hfs:fs[c]? = some f) (hv:v=vic m c f.toNat) (hvm:v<m) (hds:ds[v]? = some d) (hts:ts[c]? = some t)
  (hd:Zad d t=some (d',t',0)) (he:t'.end_=1) (hr:d'.ring=d.ring)
  (hget:ZB7 m (vw on ds ts fs) c)
  (hW:Zan m (vw on ds ts fs) c=⟨upd (vw on ds ts fs).T v d'.top,upd (vw on ds ts fs).B v d'.bottom,(vw on ds ts fs).R,upd (vw on ds ts fs).O c t'.got,upd (vw on ds ts fs).a c 0,upd (vw on ds ts fs).x c 0,upd (vw on ds ts fs).y c 0,upd (vw on ds ts fs).z c 0,upd (vw on ds ts fs).F c 0⟩):Zmt g m left on ds ts fs c:=by
 have h0:=G.f0 f (mG hfs)
 have hvd:v<ds.length:=by rw[G.dl];exact hvm
 have hct:c<ts.length:=by rw[G.tl];exact hc
 have hcf:c<fs.length:=by rw[G.fl];exact hc
 have hco:c<on.length:=by rw[G.ol];exact hc
 obtain⟨hG,hA⟩:=Zap h
 have rng:∀x∈left,0<=x:=fun x hx=>(G.crew.ok.rng x hx).1
 have hO:(Zan m (vw on ds ts fs) c).O c=t'.got:=by rw[hW];exact ZW _ _ _
 have hne:=G.inv.gets Zi6 hc hidle hget
 have htk:=(G.inv.step Zi6 hc hidle).2.1
 have hrdy:base g.edges left t'.got/\∀i,i<m->(vw on ds ts fs).O i≠t'.got:=by
  rcases htk with h1 | ⟨h1,h2,_⟩
  ·rw[h1 c] at hne;exact absurd hidle hne
  ·rw[hO] at h1 h2;exact⟨h1,h2⟩
 have hnot:t'.got∉on:=fun hm'=>by
  obtain⟨i,hi⟩:=List.getElem?_of_mem hm'
  have hil:=(gQ hi).1
  exact hrdy.2 i (by rw[<- G.ol];exact hil) (Zlr on ds ts fs hi)
 have hR:t'.got∈ZaS g.edges left on:=(Zps rng).2 ⟨hrdy.1.1,hrdy.1.2.1,hnot,hrdy.1.2.2⟩
 have hRl:(ZaS g.edges left on).length<9223372036854775808:=by
  have:(ZaS g.edges left on).length<=left.length:=by
   unfold ZaS
   rw[length_map]
   exact le_trans (List.length_filter_le _ _) (by rw[List.length_range];exact Nat.le_refl _)
  have:=G.crew.ll
  have:=hG.wl
  omega
 have hV:vw (on.set c t'.got) (ds.set v d') (ts.set c ⟨false,0,0,0,0,0⟩) (fs.set c 0)=Zan m (vw on ds ts fs) c:=by
  rw[hW]
  refine Zf.eq_of ?_ ?_ ?_ ?_ ?_ ?_ ?_ ?_ ?_
  ·exact Zbo hvd
  ·exact Zbo hvd
  ·exact Zo0 hvd hds hr
  ·exact Zbo hco
  ·exact Zbo hct
  ·exact Zbo hct
  ·exact Zbo hct
  ·exact Zbo hct
  ·exact Zbo hcf
 have crew':ZcY g left (on.set c t'.got):=by
  refine⟨G.crew.ll,by rw[length_set];exact G.crew.o1,by rw[length_set];exact G.crew.o8,G.crew.ok.rng,fun n hn=>?_,fun i j n hi hj hnn=>?_,G.crew.ok.over⟩
  ·rcases ZbD hn with hn | hn
   ·exact G.crew.ok.run n hn
   ·rw[hn];exact .inr ⟨hrdy.1.1,hrdy.1.2.1,hrdy.1.2.2⟩
  ·rw[List.getElem?_set] at hi hj
   by_cases e1:c=i
   ·by_cases e2:c=j
    ·omega
    ·rw[if_pos e1,if_pos hco] at hi
     rw[if_neg e2] at hj
     cases hi
     exact absurd (mG hj) hnot
   ·by_cases e2:c=j
    ·rw[if_neg e1] at hi
     rw[if_pos e2,if_pos hco] at hj
     cases hj
     exact absurd (mG hi) hnot
    ·rw[if_neg e1] at hi
     rw[if_neg e2] at hj
     exact G.crew.ok.one i j n hi hj hnn
 refine⟨_,_,_,_,?_,⟨crew',by rw[length_set];exact G.ol,by rw[length_set];exact G.dl,by rw[length_set];exact G.tl,by rw[length_set];exact G.fl,fun x hx=>?_,fun x hx=>?_,fun x hx=>?_,fun i ti fi hti hfi=>?_,fun i n ti hi hn hti=>?_,?_⟩,hV⟩
 ·subst hv;exact ZqN hm h8 hc G.ol G.tl G.fl h0 hf hfs hds hts hd he (Zky h G.crew) hRl hR
 ·rcases ZbD hx with hx | hx
  ·exact G.ring x hx
  ·rw[hx,hr];exact G.ring d (mG hds)
 ·rcases ZbD hx with hx | hx
  ·exact G.en x hx
  ·rw[hx]
 ·rcases ZbD hx with hx | hx
  ·exact G.f0 x hx
  ·rw[hx];exact le_refl _
 ·rw[List.getElem?_set] at hti hfi
  split at hti
  ·rename_i e
   subst e
   rw[if_pos rfl,if_pos hcf] at hfi
   cases hti;cases hfi;rfl
  ·rename_i e
   rw[if_neg e] at hfi
   exact G.st i ti fi hti hfi
 ·rw[List.getElem?_set] at hti hi
  split at hti
  ·rename_i e
   subst e
   cases hti;rfl
  ·rename_i e
   rw[if_neg e] at hi
   exact G.bz i n ti hi hn hti
 ·rw[hV]
  exact(G.inv.step Zi6 hc hidle).1
theorem ZzB (h:Zaa g=0) (G:GangIn g m left on ds ts fs) (hc:c<m) (hidle:(vw on ds ts fs).O c = -1):Zmt g m left on ds ts fs c:=by
 have hm:0<m:=by omega
 have h8:m<=8:=by rw[<- G.ol];exact G.crew.o8
 have p:=G.inv.pos c hc
 have hcf:c<fs.length:=by rw[G.fl];exact hc
 have hct:c<ts.length:=by rw[G.tl];exact hc
 obtain⟨f,hfs⟩:∃f,fs[c]? = some f:=⟨_,gE hcf⟩
 obtain⟨t,hts⟩:∃t,ts[c]? = some t:=⟨_,gE hct⟩
 have qF:(vw on ds ts fs).F c=f.toNat:=ZI hfs
 have qa:(vw on ds ts fs).a c=t.at_:=ZI hts
 have qx:(vw on ds ts fs).x c=t.top:=ZI hts
 have qy:(vw on ds ts fs).y c=t.bottom:=ZI hts
 have qz:(vw on ds ts fs).z c=t.got:=ZI hts
 have h0:=G.f0 f (mG hfs)
 have hst:=G.st c t f hts hfs
 have pF:=p.F
 rw[qF] at pF
 have hf:f<(m:Int):=by omega
 have hvm:=Zm7 hm c f.toNat
 have hvd:vic m c f.toNat<ds.length:=by rw[G.dl];exact hvm
 obtain⟨d,hds⟩:∃d,ds[vic m c f.toNat]? = some d:=⟨_,gE hvd⟩
 have pv:=G.inv.pos _ hvm
 have qT:(vw on ds ts fs).T (vic m c f.toNat)=d.top:=ZI hds
 have qB:(vw on ds ts fs).B (vic m c f.toNat)=d.bottom:=ZI hds
 have qR:(vw on ds ts fs).R (vic m c f.toNat)=ZeG d.ring:=ZI hds
 have hring:=G.ring d (mG hds)
 have hbe:(vw on ds ts fs).be (vic m c f.toNat)=d.bottom∨(vw on ds ts fs).be (vic m c f.toNat)=d.bottom+1:=by
  unfold Zf.be
  split
  ·right;rw[qB]
  ·left;rw[qB]
 have vT0:=pv.T0
 have vTB:=pv.TB
 have vB64:=pv.B64
 rw[qT] at vT0 vTB
 have hd:Zjm d:=⟨hring,vT0,by omega,by rcases hbe with e | e<;>omega,by rcases hbe with e | e<;>omega⟩
 have pa0:=p.a0
 have pa4:=p.a4
 have pa3:=p.a3
 have prx:=p.rx
 have pry:=p.ry
 have po1:=p.o1
 have po2:=p.o2
 have po3:=p.o3
 have pt1:=p.t1
 have pt2:=p.t2
 have pt3:=p.t3
 have po4:=p.o4
 rw[qa] at pa0 pa4 po1 po2 po3 po4 pt1 pt2 pt3 pa3
 rw[qF] at pa3 po1 po2 po3 po4 pt1 pt2 pt3
 rw[qx] at prx po2 pt1 pt2 pt3
 rw[qy] at pry po1 po2
 have ht:Zut t:=⟨G.en t (mG hts),pa0,pa4,fun hs=>pa3 (by
  rw[hst] at hs
  have:f≠0:=by simpa using hs
  omega),prx,pry⟩
 have hen:=ht.en
 by_cases hF:f.toNat=0
 ·
  have hv:vic m c f.toNat=c:=by rw[hF];exact Zs1 hc
  rw[hv] at hds qT qB qR hbe vTB vB64 hvm
  have hs:t.steal=false:=by rw[hst];simp;omega
  have hVF:(vw on ds ts fs).F c=0:=by rw[qF,hF]
  by_cases a0:t.at_=0
  ·have hbc:(vw on ds ts fs).be c=d.bottom:=by
    unfold Zf.be
    rw[if_neg (by rw[qa];omega),qB]
   refine Zf2 h G hm h8 hc hidle hf hfs hv.symm hc hds hts (ZeO hd ht hs (x:=(d.top,d.bottom-1,1,t.top,d.bottom-1,t.got,t.end_)) ?_ ⟨hring,hd.t0,hd.t1,?_,?_⟩) hen rfl hs.symm ?_
   ·unfold ZaT
    rw[a0,Zgi (by have:=hd.t0;have:=hd.b0;omega) (by have:=hd.b1;omega)]
    rfl
   ·show d.top-1<=d.bottom-1;omega
   ·show d.bottom-1<=64;omega
   ·unfold Zan
    rw[if_pos hVF,if_pos (by rw[qa];exact a0),qB,qx,qz]
    exact Zf.eq_of (ZbG _ _ qT.symm).symm rfl rfl rfl rfl rfl rfl rfl rfl
  have hbc:(vw on ds ts fs).be c=d.bottom+1:=by
   unfold Zf.be
   rw[if_pos ⟨hVF,by rw[qa];omega⟩,qB]
  have hyb:=po1 hF (by omega)
  rw[qB] at hyb
  by_cases a1:t.at_=1
  ·by_cases c1:d.top<t.bottom
   ·refine Zpp h G hm h8 hc hidle hf hfs hv.symm hc hds hts (ZeO hd ht hs (x:=(d.top,d.bottom,1,d.top,t.bottom,ZeG d.ring t.bottom,1)) ?_ hd) rfl rfl (.inl ⟨hVF,by rw[qa];exact a1,by rw[qT,qy];exact c1⟩) ?_
    ·unfold ZaT
     rw[a1,dT c1]
     simp only[show((1:Int)==0)=false from rfl,show((1:Int)==1)=true from rfl,cF,cT,ZgL (d:=⟨d.ring,d.top,d.bottom⟩) hring,bS,Zhg hring]
    ·unfold Zan
     rw[if_pos hVF,if_neg (by rw[qa];exact a0),if_pos (by rw[qa];exact a1),qT,qy,if_pos c1,qR]
     exact Zf.eq_of (ZbG _ _ qT.symm).symm (ZbG _ _ qB.symm).symm rfl rfl rfl rfl rfl rfl rfl
   ·by_cases c2:d.top=t.bottom
    ·refine Zf2 h G hm h8 hc hidle hf hfs hv.symm hc hds hts (ZeO hd ht hs (x:=(d.top,d.bottom,2,d.top,t.bottom,t.got,t.end_)) ?_ hd) hen rfl hs.symm ?_
     ·unfold ZaT
      rw[a1,dF c1,show(d.top==t.bottom)=true from beq_iff_eq.2 c2]
      rfl
     ·unfold Zan
      rw[if_pos hVF,if_neg (by rw[qa];exact a0),if_pos (by rw[qa];exact a1),qT,qy,if_neg c1,if_pos c2,qz]
      exact Zf.eq_of (ZbG _ _ qT.symm).symm (ZbG _ _ qB.symm).symm rfl rfl rfl rfl rfl rfl rfl
    ·refine Zf2 h G hm h8 hc hidle hf hfs hv.symm hc hds hts (ZeO hd ht hs (x:=(d.top,d.bottom,3,d.top,t.bottom,t.got,t.end_)) ?_ hd) hen rfl hs.symm ?_
     ·unfold ZaT
      rw[a1,dF c1,show(d.top==t.bottom)=false from beq_eq_false_iff_ne.2 c2]
      rfl
     ·unfold Zan
      rw[if_pos hVF,if_neg (by rw[qa];exact a0),if_pos (by rw[qa];exact a1),qT,qy,if_neg c1,if_neg c2,qz]
      exact Zf.eq_of (ZbG _ _ qT.symm).symm (ZbG _ _ qB.symm).symm rfl rfl rfl rfl rfl rfl rfl
  by_cases a2:t.at_=2
  ·by_cases c1:d.top=t.top
   ·have hd':Zjm ⟨d.ring,d.top+1,d.bottom⟩:=by
     have:=po2 hF a2
     exact⟨hring,by show 0<=d.top+1;omega,by show d.top+1<=64;omega,by show d.top+1-1<=d.bottom;omega,hd.b1⟩
    refine Zf2 h G hm h8 hc hidle hf hfs hv.symm hc hds hts (ZeO hd ht hs (x:=(d.top+1,d.bottom,4,t.top,t.bottom,ZeG d.ring t.bottom,t.end_)) ?_ hd') hen rfl hs.symm ?_
    ·unfold ZaT ZbQ
     have hw:w64 (d.top+1)=d.top+1:=Zgi (by have:=hd.t0;omega) (by have:=hd.t1;omega)
     simp only[a2,show((2:Int)==0)=false from rfl,show((2:Int)==1)=false from rfl,show((2:Int)==2)=true from rfl,cF,cT,show(d.top != t.top)=false by rw[c1];simp,bS,hw,ZgL (d:=⟨d.ring,d.top+1,d.bottom⟩) hring,Zhg hring]
    ·unfold Zan
     rw[if_pos hVF,if_neg (by rw[qa];exact a0),if_neg (by rw[qa];exact a1),if_pos (by rw[qa];exact a2),qT,qx,if_pos c1,qy,qR]
     exact Zf.eq_of rfl (ZbG _ _ qB.symm).symm rfl rfl rfl rfl rfl rfl rfl
   ·refine Zf2 h G hm h8 hc hidle hf hfs hv.symm hc hds hts (ZeO hd ht hs (x:=(d.top,d.bottom,3,t.top,t.bottom,t.got,t.end_)) ?_ hd) hen rfl hs.symm ?_
    ·unfold ZaT ZbQ
     simp only[a2,show((2:Int)==0)=false from rfl,show((2:Int)==1)=false from rfl,show((2:Int)==2)=true from rfl,cF,cT,show(d.top != t.top)=true by simpa using c1,bS]
    ·unfold Zan
     rw[if_pos hVF,if_neg (by rw[qa];exact a0),if_neg (by rw[qa];exact a1),if_pos (by rw[qa];exact a2),qT,qx,if_neg c1,qy,qz]
     exact Zf.eq_of (ZbG _ _ qT.symm).symm (ZbG _ _ qB.symm).symm rfl rfl rfl rfl rfl rfl rfl
  have hw:w64 (t.bottom+1)=t.bottom+1:=ZbN (by omega)
  by_cases a4:t.at_=4
  ·have hd':Zjm ⟨d.ring,d.top,t.bottom+1⟩:=by
    have:=po3 hF (.inr a4)
    exact⟨hring,hd.t0,hd.t1,by show d.top-1<=t.bottom+1;omega,by show t.bottom+1<=64;omega⟩
   refine Zpp h G hm h8 hc hidle hf hfs hv.symm hc hds hts (ZeO hd ht hs (x:=(d.top,t.bottom+1,4,t.top,t.bottom,t.got,1)) ?_ hd') rfl rfl (.inr (.inl ⟨hVF,by rw[qa];exact a4⟩)) ?_
   ·unfold ZaT
    rw[a4,hw]
    rfl
   ·unfold Zan
    rw[if_pos hVF,if_neg (by rw[qa];exact a0),if_neg (by rw[qa];exact a1),if_neg (by rw[qa];exact a2),if_pos (by rw[qa];exact a4),qy,qz]
    exact Zf.eq_of (ZbG _ _ qT.symm).symm rfl rfl rfl rfl rfl rfl rfl rfl
  ·have a3:t.at_=3:=by omega
   have hd':Zjm ⟨d.ring,d.top,t.bottom+1⟩:=by
    have:=po3 hF (.inl a3)
    exact⟨hring,hd.t0,hd.t1,by show d.top-1<=t.bottom+1;omega,by show t.bottom+1<=64;omega⟩
   refine Znr h G hm h8 hc hidle hf hfs hv.symm hc hds hts (ZeO hd ht hs (x:=(d.top,t.bottom+1,3,t.top,t.bottom,t.got,2)) ?_ hd') (.inl rfl) rfl ?_
   ·unfold ZaT
    rw[a3,hw]
    rfl
   ·unfold Zan
    rw[if_pos hVF,if_neg (by rw[qa];exact a0),if_neg (by rw[qa];exact a1),if_neg (by rw[qa];exact a2),if_neg (by rw[qa];exact a4),qy,hF]
    exact Zf.eq_of (ZbG _ _ qT.symm).symm rfl rfl rfl rfl rfl rfl rfl rfl
 ·
  have hs:t.steal=true:=by rw[hst];simp;omega
  have hVF:(vw on ds ts fs).F c≠0:=by rw[qF];exact hF
  have hvv:vic m c ((vw on ds ts fs).F c)=vic m c f.toNat:=by rw[qF]
  by_cases a0:t.at_=0
  ·refine Zf2 h G hm h8 hc hidle hf hfs rfl hvm hds hts (ZeV hd ht hs (x:=(d.top,1,d.top,t.bottom,t.got,t.end_)) ?_ hd) hen rfl hs.symm ?_
   ·unfold ZaJ
    rw[a0]
    rfl
   ·unfold Zan
    rw[if_neg hVF,if_pos (by rw[qa];exact a0),hvv,qT,qy,qz]
    exact Zf.eq_of (ZbG _ _ qT.symm).symm (ZbG _ _ qB.symm).symm rfl rfl rfl rfl rfl rfl rfl
  by_cases a1:t.at_=1
  ·by_cases c1:t.top<d.bottom
   ·refine Zf2 h G hm h8 hc hidle hf hfs rfl hvm hds hts (ZeV hd ht hs (x:=(d.top,2,t.top,d.bottom,t.got,t.end_)) ?_ hd) hen rfl hs.symm ?_
    ·unfold ZaJ
     rw[a1,dF (show ¬d.bottom<=t.top by omega)]
     rfl
    ·unfold Zan
     rw[if_neg hVF,if_neg (by rw[qa];exact a0),if_pos (by rw[qa];exact a1),hvv,qB,qx,if_pos c1,qz]
     exact Zf.eq_of (ZbG _ _ qT.symm).symm (ZbG _ _ qB.symm).symm rfl rfl rfl rfl rfl rfl rfl
   ·refine Znr h G hm h8 hc hidle hf hfs rfl hvm hds hts (ZeV hd ht hs (x:=(d.top,1,t.top,d.bottom,t.got,2)) ?_ hd) (.inl rfl) rfl ?_
    ·unfold ZaJ
     rw[a1,dT (show d.bottom<=t.top by omega)]
     rfl
    ·unfold Zan
     rw[if_neg hVF,if_neg (by rw[qa];exact a0),if_pos (by rw[qa];exact a1),hvv,qB,qx,if_neg c1,qF]
     exact Zf.eq_of (ZbG _ _ qT.symm).symm (ZbG _ _ qB.symm).symm rfl rfl rfl rfl rfl rfl rfl
  by_cases a2:t.at_=2
  ·refine Zf2 h G hm h8 hc hidle hf hfs rfl hvm hds hts (ZeV hd ht hs (x:=(d.top,3,t.top,t.bottom,ZeG d.ring t.top,t.end_)) ?_ hd) hen rfl hs.symm ?_
   ·unfold ZaJ
    rw[a2]
    simp only[show((2:Int)==0)=false from rfl,show((2:Int)==1)=false from rfl,show((2:Int)==2)=true from rfl,cF,cT,ZgL (d:=⟨d.ring,d.top,d.bottom⟩) hring,bS,Zhg hring]
   ·unfold Zan
    rw[if_neg hVF,if_neg (by rw[qa];exact a0),if_neg (by rw[qa];exact a1),if_pos (by rw[qa];exact a2),hvv,qx,qy,qR]
    exact Zf.eq_of (ZbG _ _ qT.symm).symm (ZbG _ _ qB.symm).symm rfl rfl rfl rfl rfl rfl rfl
  have a3:t.at_=3:=by have:=pa3 hF;omega
  by_cases c1:d.top=t.top
  ·have hlt:=pt2 hF (by omega) (by rw[qT];exact c1.symm)
   rw[qT] at hlt
   have hd':Zjm ⟨d.ring,d.top+1,d.bottom⟩:=⟨hring,by show 0<=d.top+1;omega,by show d.top+1<=64;omega,by show d.top+1-1<=d.bottom;rcases hbe with e | e<;>omega,hd.b1⟩
   refine Zpp h G hm h8 hc hidle hf hfs rfl hvm hds hts (ZeV hd ht hs (x:=(d.top+1,3,t.top,t.bottom,t.got,1)) ?_ hd') rfl rfl (.inr (.inr ⟨hVF,by rw[qa];exact a3,by rw[hvv,qT,qx];exact c1⟩)) ?_
   ·unfold ZaJ ZbQ
    have hw:w64 (d.top+1)=d.top+1:=Zgi (by have:=hd.t0;omega) (by have:=hd.t1;omega)
    simp only[a3,show((3:Int)==0)=false from rfl,show((3:Int)==1)=false from rfl,show((3:Int)==2)=false from rfl,cF,show(d.top != t.top)=false by rw[c1];simp,bS,hw]
   ·unfold Zan
    rw[if_neg hVF,if_neg (by rw[qa];exact a0),if_neg (by rw[qa];exact a1),if_neg (by rw[qa];exact a2),hvv,qT,qx,if_pos c1,qz]
    exact Zf.eq_of rfl (ZbG _ _ qB.symm).symm rfl rfl rfl rfl rfl rfl rfl
  ·refine Znr h G hm h8 hc hidle hf hfs rfl hvm hds hts (ZeV hd ht hs (x:=(d.top,3,t.top,t.bottom,0,3)) ?_ hd) (.inr rfl) rfl ?_
   ·unfold ZaJ ZbQ
    simp only[a3,show((3:Int)==0)=false from rfl,show((3:Int)==1)=false from rfl,show((3:Int)==2)=false from rfl,cF,show(d.top != t.top)=true by simpa using c1,bS,cT]
   ·unfold Zan
    rw[if_neg hVF,if_neg (by rw[qa];exact a0),if_neg (by rw[qa];exact a1),if_neg (by rw[qa];exact a2),hvv,qT,qx,if_neg c1,qF]
    exact Zf.eq_of (ZbG _ _ qT.symm).symm (ZbG _ _ qB.symm).symm rfl rfl rfl rfl rfl rfl rfl
end
end
section
theorem Zs4 (l:List Za) (f:Za->Option Bool) (p:Za->Bool) (hf:∀x∈l,f x=some (p x)) (hl:l.length<9223372036854775808):Zaf l f=some (l.any p):=by
 unfold Zaf Za0
 refine Zj6 l p _ (fun i x hi hx=>?_) ?_
 ·simp only[Zah,Zba hi,Zn hx,bS,hf x (mG hx),ZA hi hl,cT]
  cases p x<;>rfl
 ·simp only[Zah,Zbg];rfl
def ZnU (m:Nat) (V:Zf):Bool:=(List.range m).any fun j=>decide (V.T j<V.B j)
def wlV (m:Nat) (V:Zf):List Int:=((List.range m).filter fun i=>decide (V.O i = -1)&&(ZnU m V || !decide (V.a i=0))).map fun i:Nat=>(i:Int)
theorem ZhO {m:Nat}{V:Zf}{z:Int}:z∈wlV m V↔0<=z/\Zc9 m V z.toNat:=by
 unfold wlV
 rw[Zfe]
 unfold Zc9 ZnU
 simp only[aT,Bool.or_eq_true,Bool.not_eq_true',decide_eq_true_eq,decide_eq_false_iff_not,any_eq_true,List.mem_range]
theorem Zsq {m:Nat}{ds:List Za} (hl:ds.length=m) (on:List Int) (ts:List Zb) (fs:List Int):(ds.any fun d=>decide (d.top<d.bottom))=ZnU m (vw on ds ts fs):=by
 rw[Bool.eq_iff_iff]
 unfold ZnU
 rw[any_eq_true,any_eq_true]
 constructor
 ·rintro ⟨d,hd,h⟩
  obtain⟨i,hi⟩:=List.getElem?_of_mem hd
  refine⟨i,List.mem_range.2 (by rw[<- hl];exact(gQ hi).1),?_⟩
  rw[show(vw on ds ts fs).T i=d.top from ZI hi,show(vw on ds ts fs).B i=d.bottom from ZI hi]
  exact h
 ·rintro ⟨i,hi,h⟩
  rw[List.mem_range] at hi
  have hd:ds[i]? = some ds[i]:=gE (by omega)
  rw[show(vw on ds ts fs).T i=ds[i].top from ZI hd,show(vw on ds ts fs).B i=ds[i].bottom from ZI hd] at h
  exact⟨_,getElem_mem _,h⟩
theorem ZxU (d:Za):Zau d=some (decide (d.top<d.bottom)):=by
 unfold Zau
 cases decide (d.top<d.bottom)<;>rfl
theorem Zov {m:Nat}{on fs:List Int}{ds:List Za}{ts:List Zb} (ho:on.length=m) (hd:ds.length=m) (ht:ts.length=m) (h8:m<=8):Zcb on ds ts=some (wlV m (vw on ds ts fs)):=by
 unfold Zcb
 rw[Zs4 ds _ (fun d=>decide (d.top<d.bottom)) (fun d _=>ZxU d) (by omega),bS,Zsq hd on ts fs]
 unfold wlV
 cases hs:ZnU m (vw on ds ts fs) with
 | true=>
  rw[cT,Zjf (n:=on.length) (Za8 on) (fun i=>decide ((vw on ds ts fs).O i = -1)&&(true || !decide ((vw on ds ts fs).a i=0))) (fun i out hi hout=>?_) (fun out=>by simp only[Za8,Zbg];rfl),bS,ho]
  have hx:=gE hi
  simp only[Za8,Zba hi,cT,Zn hx,bS,ZA hi (by omega),ZaR (show out.length+1<=1073741824 by omega),Bool.true_or,Bool.and_true]
  rw[show(vw on ds ts fs).O i=on[i] from ZI hx]
  by_cases h:on[i] = -1
  ·rw[show(on[i] == -1)=true from beq_iff_eq.2 h,dT h];rfl
  ·rw[show(on[i] == -1)=false from beq_eq_false_iff_ne.2 h,dF h];rfl
 | false=>
  rw[cF,Zjf (n:=on.length) (ZaW on ts) (fun i=>decide ((vw on ds ts fs).O i = -1)&&(false || !decide ((vw on ds ts fs).a i=0))) (fun i out hi hout=>?_) (fun out=>by simp only[ZaW,Zbg];rfl),bS,ho]
  have hx:=gE hi
  have ht:=gE (show i<ts.length by omega)
  simp only[ZaW,Zba hi,cT,Zn hx,Zn ht,bS,ZA hi (by omega),ZaR (show out.length+1<=1073741824 by omega),Bool.false_or]
  rw[show(vw on ds ts fs).O i=on[i] from ZI hx,show(vw on ds ts fs).a i=ts[i].at_ from ZI ht]
  by_cases h:on[i] = -1
  ·rw[show(on[i] == -1)=true from beq_iff_eq.2 h,dT h]
   by_cases h2:ts[i].at_=0
   ·rw[show(ts[i].at_ != 0)=false by rw[h2];rfl,dT h2];rfl
   ·rw[show(ts[i].at_ != 0)=true by simpa using h2,dF h2];rfl
  ·rw[show(on[i] == -1)=false from beq_eq_false_iff_ne.2 h,dF h];rfl
theorem ZvD (m:Nat) (V:Zf):(wlV m V).length<=m:=by
 unfold wlV
 rw[length_map]
 exact le_trans (List.length_filter_le _ _) (by rw[List.length_range];exact Nat.le_refl _)
theorem Zt4 (m:Nat) (V:Zf):(wlV m V).Pairwise (· < ·):=by
 unfold wlV
 refine List.Pairwise.map _ (fun a b (h:a<b)=>by omega) (List.Pairwise.filter _ List.pairwise_lt_range)
def Zh2 (last:Int):Nat->List Int->Option Nat
 | _,[]=>none
 | i,x :: l=>if last<x then some i else Zh2 last (i+1) l
theorem ZkF (last:Int):∀(l:List Int) (i:Nat),(match Zh2 last i l with | some k=>i<=k/\(∃x,l[k-i]? = some x/\last<x/\∀j,j<k-i->∀y,l[j]? = some y->y<=last) | none=>∀y∈l,y<=last)
 | [],i=>fun y hy=>by cases hy
 | x :: l,i=>by
  unfold Zh2
  by_cases h:last<x
  ·rw[if_pos h]
   exact⟨Nat.le_refl _,x,by simp,h,fun j hj=>by omega⟩
  ·rw[if_neg h]
   have ih:=ZkF last l (i+1)
   cases hf:Zh2 last (i+1) l with
   | none=>
    rw[hf] at ih
    intro y hy
    rcases List.mem_cons.1 hy with rfl | hy
    ·omega
    ·exact ih y hy
   | some k=>
    rw[hf] at ih
    obtain⟨h1,z,h2,h3,h4⟩:=ih
    refine⟨by omega,z,?_,h3,fun j hj y hy=>?_⟩
    ·rw[show k-i=(k-(i+1))+1 by omega];exact h2
    ·cases j with
     | zero=>cases hy;omega
     | succ j=>exact h4 j (by omega) y hy
def nxI (l:List Int) (last:Int):Nat:=match Zh2 last 0 l with | some k=>k | none=>0
theorem Zsj (l:List Int) (last:Int) (hl:l.length<9223372036854775808):ZE l (fun z0=>ZaB z0 last)=some (match Zh2 last 0 l with | some k=>(k:Int) | none=>-1):=by
 unfold ZE
 have key:=ZdS l (Zx l (fun z0=>ZaB z0 last)) (fun _ x=>decide (last<x)) (fun i _=>.inl (i:Int)) (.inr ()) (fun i x hi hx=>by
  simp only[Zx,Zba hi,cT,Zn hx,bS,ZaB,ZA hi hl]
  cases decide (last<x)<;>rfl) (by simp only[Zx,Zbg];rfl)
 rw[key,bS]
 have:∀(l:List Int) (i:Nat),Zjo (fun _ x=>decide (last<x)) (fun i (_:Int)=>(.inl (i:Int):Int⊕Unit)) (.inr ()) i l=(match Zh2 last i l with | some k=>.inl (k:Int) | none=>.inr ()):=by
  intro l
  induction l with
  | nil=>intro i;rfl
  | cons x l ih=>
   intro i
   unfold Zjo Zh2
   by_cases h:last<x
   ·rw[if_pos h,dT h];rfl
   ·rw[if_neg h,dF h,cF];exact ih (i+1)
 rw[this l 0]
 cases Zh2 last 0 l<;>rfl
def chI (l picks:List Int) (last:Int) (s:Nat):Int:=
 match picks[s]? with
 | some x=>gt id 0 l (Int.tmod (bif decide (x<0) then 0 else x) (l.length:Int)).toNat
 | none=>gt id 0 l (nxI l last)
theorem Zyt {l picks:List Int}{last:Int}{s:Nat} (hne:l≠[]) (hl:l.length<9223372036854775808) (hp:picks.length<9223372036854775808):ZaH last l picks (s:Int)=some (chI l picks last s)/\chI l picks last s∈l:=by
 have h0:0<l.length:=List.length_pos_iff.2 hne
 unfold ZaH chI
 by_cases hs:s<picks.length
 ·have hx:=gE hs
  rw[Zba hs,cT,Zn hx,bS,hx,show((l.length:Int)==0)=false from beq_eq_false_iff_ne.2 (by omega),cF]
  have hz:(0:Int)<=(bif decide (picks[s]<0) then 0 else picks[s]):=by
   by_cases h:picks[s]<0
   ·rw[dT h];exact le_refl _
   ·rw[dF h];show 0<=picks[s];omega
  have h1:=Int.tmod_nonneg (l.length:Int) hz
  have h2:=Int.tmod_lt_of_pos (bif decide (picks[s]<0) then 0 else picks[s]) (show(0:Int)<(l.length:Int) by omega)
  have h3:(Int.tmod (bif decide (picks[s]<0) then 0 else picks[s]) (l.length:Int)).toNat<l.length:=by omega
  have hy:=gE h3
  rw[ZuE h1 hy,bS]
  dsimp only
  rw[ZI hy]
  exact⟨rfl,getElem_mem _⟩
 ·have hn:picks[s]? = none:=List.getElem?_eq_none (by omega)
  rw[dF (show ¬(s:Int)<(picks.length:Int) by omega),cF,hn,Zsj l last hl,bS]
  dsimp only
  have sp:=ZkF last l 0
  unfold nxI
  cases hf:Zh2 last 0 l with
  | none=>
   dsimp only
   have hy:=gE h0
   rw[ZI hy]
   have:Zs l (bif decide ((-1:Int)<0) then 0 else -1)=some l[0]:=Zn (i:=0) hy
   rw[this]
   exact⟨rfl,getElem_mem _⟩
  | some k=>
   rw[hf] at sp
   obtain⟨_,x,h1,_⟩:=sp
   rw[Nat.sub_zero] at h1
   dsimp only
   rw[ZI h1,dF (show ¬(k:Int)<0 by omega),cF,Zn h1]
   exact⟨rfl,mG h1⟩
def chV (m:Nat) (picks:List Int) (V:Zf) (last:Int) (s:Nat):Nat:=(chI (wlV m V) picks last s).toNat
theorem Zp4 {m:Nat}{picks:List Int}{V:Zf}{last:Int}{s:Nat} (hm:m<=8) (hp:picks.length<9223372036854775808) (h:∃c,Zc9 m V c):Zc9 m V (chV m picks V last s)/\(picks.length<=s->Next m V last (chV m picks V last s))/\ZaH last (wlV m V) picks (s:Int)=some (chV m picks V last s:Int):=by
 obtain⟨c,hc⟩:=h
 have hin:(c:Int)∈wlV m V:=ZhO.2 ⟨by omega,by simpa using hc⟩
 have hl:=ZvD m V
 obtain⟨h1,h2⟩:=Zyt (l:=wlV m V) (picks:=picks) (last:=last) (s:=s) (fun e=>by rw[e] at hin;cases hin) (by omega) hp
 obtain⟨h3,h4⟩:=ZhO.1 h2
 have e:((chV m picks V last s:Nat):Int)=chI (wlV m V) picks last s:=toNat_of_nonneg h3
 refine⟨h4,fun hs=>⟨h4,?_⟩,by rw[e];exact h1⟩
 have hch:chI (wlV m V) picks last s=gt id 0 (wlV m V) (nxI (wlV m V) last):=by
  unfold chI
  rw[List.getElem?_eq_none hs]
 have sp:=ZkF last (wlV m V) 0
 have so:=Zt4 m V
 unfold nxI at hch
 cases hf:Zh2 last 0 (wlV m V) with
 | none=>
  rw[hf] at sp hch
  right
  have hx:=gE (show 0<(wlV m V).length from List.length_pos_iff.2 (fun e=>by rw[e] at hin;cases hin))
  rw[ZI hx] at hch
  refine⟨fun p hp=>?_,fun p hp=>?_⟩
  ·exact sp (p:Int) (ZhO.2 ⟨by omega,by simpa using hp⟩)
  ·have hpm:(p:Int)∈wlV m V:=ZhO.2 ⟨by omega,by simpa using hp⟩
   obtain⟨j,hj⟩:=List.getElem?_of_mem hpm
   have hjl:=(gQ hj).1
   have hje:=(gQ hj).2
   have:(wlV m V)[0]<=(p:Int):=by
    rcases Nat.eq_zero_or_pos j with rfl | hj0
    ·rw[hje];exact le_refl _
    ·have:=List.pairwise_iff_getElem.1 so 0 j (by omega) hjl hj0
     omega
   have e2:chI (wlV m V) picks last s=(wlV m V)[0]:=hch
   omega
 | some k=>
  rw[hf] at sp hch
  obtain⟨_,x,k1,k2,k3⟩:=sp
  rw[Nat.sub_zero] at k1 k3
  rw[ZI k1] at hch
  have hkl:=(gQ k1).1
  have hke:=(gQ k1).2
  have e2:chI (wlV m V) picks last s=x:=hch
  left
  refine⟨by omega,fun p hp hlp=>?_⟩
  have hpm:(p:Int)∈wlV m V:=ZhO.2 ⟨by omega,by simpa using hp⟩
  obtain⟨j,hj⟩:=List.getElem?_of_mem hpm
  have hjl:=(gQ hj).1
  have hje:=(gQ hj).2
  have hkj:k<=j:=by
   rcases lt_or_ge j k with h | h
   ·have:=k3 j h _ hj;omega
   ·exact h
  rcases Nat.eq_or_lt_of_le hkj with rfl | hlt
  ·rw[k1] at hj;cases hj;omega
  ·have:=List.pairwise_iff_getElem.1 so k j hkl hjl hlt
   omega
theorem ZDk {m c:Nat}{b:Int->Prop}{V:Zf} (I:Inv m b V) (hc:c<m) (j:Nat):(Zan m V c).be j<=V.be j:=by
 have p:=I.pos c hc
 have s:=Zuy p.gen
 generalize Zan m V c=W at s
 by_cases e:j=c
 ·subst e
  have o1:=p.o1
  cases s with
  | own0 hF ha=>simp only[Zf.be,Zf.tk,Zf.setB,ZW,hF,ha];simp
  | take hF ha h=>have:=o1 hF (by omega);simp only[Zf.be,Zf.got,ZW,hF,ha];simp;omega
  | last hF ha h=>simp only[Zf.be,Zf.tk,ZW,hF,ha];simp
  | none1 hF ha h=>simp only[Zf.be,Zf.tk,ZW,hF,ha];simp
  | win hF ha h=>simp only[Zf.be,Zf.tk,Zf.setT,ZW,hF,ha];simp
  | lose hF ha h=>simp only[Zf.be,Zf.tk,ZW,hF,ha];simp
  | work hF ha=>have:=o1 hF (by omega);simp only[Zf.be,Zf.got,Zf.setB,ZW,hF,ha];simp;omega
  | back hF ha=>have:=o1 hF (by omega);simp only[Zf.be,Zf.fresh,Zf.setB,ZW,hF,ha];simp;omega
  | top hF ha=>simp only[Zf.be,Zf.tk,hF];simp
  | bottom hF ha h=>simp only[Zf.be,Zf.tk,hF];simp
  | none2 hF ha h=>simp only[Zf.be,Zf.fresh,ZW,hF];simp
  | read hF ha=>simp only[Zf.be,Zf.tk,hF];simp
  | steal hF ha h=>simp only[Zf.be,Zf.got,Zf.setT,ZW,hF];simp
  | lost hF ha h=>simp only[Zf.be,Zf.fresh,ZW,hF];simp
 ·obtain⟨_,h2,h3,_,_,h6⟩:=Zb1 s e
  unfold Zf.be
  rw[h2,h3,h6]
  exact le_refl _
structure Zp0 (m:Nat) (on on':List Int) (ds ds':List Za) (ts ts':List Zb) (fs fs':List Int):Prop where
 row:∀(c:Nat) (n:Int),on[c]? = some n->n ≠ -1->on'[c]? = some n
 be:∀c,(vw on' ds' ts' fs').be c<=(vw on ds ts fs).be c
theorem Zp0.refl (m:Nat) (on:List Int) (ds:List Za) (ts:List Zb) (fs:List Int):Zp0 m on on ds ds ts ts fs fs:=⟨fun _ _ h _=>h,fun _=>le_refl _⟩
theorem Zp0.trans {m:Nat}{on on' on2 fs fs' fs2:List Int}{ds ds' ds2:List Za}{ts ts' ts2:List Zb} (a:Zp0 m on on' ds ds' ts ts' fs fs') (b:Zp0 m on' on2 ds' ds2 ts' ts2 fs' fs2):Zp0 m on on2 ds ds2 ts ts2 fs fs2:=
 ⟨fun c n h hn=>b.row c n (a.row c n h hn) hn,fun c=>Int.le_trans (b.be c) (a.be c)⟩
section
variable {g:Zl} {m:Nat} {left:List Int}
theorem Zv4 {on fs on' fs':List Int}{ds ds':List Za}{ts ts':List Zb}{c:Nat} (G:GangIn g m left on ds ts fs) (hc:c<m) (hidle:(vw on ds ts fs).O c = -1) (G':GangIn g m left on' ds' ts' fs') (hV:vw on' ds' ts' fs'=Zan m (vw on ds ts fs) c):Zp0 m on on' ds ds' ts ts' fs fs':=by
 refine⟨fun i n hi hn=>?_,fun j=>by rw[hV];exact ZDk G.inv hc j⟩
 have hil:=(gQ hi).1
 have hic:i≠c:=fun e=>by
  subst e
  rw[Zlr on ds ts fs hi] at hidle
  exact hn hidle
 have h1:=(Zb1 (Zuy (G.inv.pos c hc).gen) hic).1
 rw[<- hV,Zlr on ds ts fs hi] at h1
 have hl':i<on'.length:=by rw[G'.ol,<- G.ol];exact hil
 have:=gE hl'
 rw[Zlr on' ds' ts' fs' this] at h1
 rw[this,h1]
theorem ZCF (h:Zaa g=0) {picks:List Int} (hp:picks.length<=100000) {on fs:List Int}{ds:List Za}{ts:List Zb} (G:GangIn g m left on ds ts fs) :
  ∃(n:Nat) (l:Int) (on':List Int) (ds':List Za) (ts':List Zb) (fs':List Int),Zby picks g.work g.edges on left ds ts fs=some ((n:Int),0,l,on',ds',ts',fs')/\GangIn g m left on' ds' ts' fs'/\(∀c,¬Zc9 m (vw on' ds' ts' fs') c)/\Zp0 m on on' ds ds' ts ts' fs fs'/\n<=picks.length+8*m*m*(m+1):=by
 have h8:m<=8:=by rw[<- G.ol];exact G.crew.o8
 have h1m:1<=m:=by rw[<- G.ol];exact G.crew.o1
 have key:=ZzN (m:=m) (L:=picks.length) (base:=base g.edges left) Zi6 (chV m picks) (fun V last s I hx=>⟨(Zp4 h8 (by omega) hx).1,(Zp4 h8 (by omega) hx).2.1⟩)
  (fun n s V l=>s+n<=200000->∀(on fs:List Int) (ds:List Za) (ts:List Zb),GangIn g m left on ds ts fs->vw on ds ts fs=V ->
   ∃(n':Nat) (l':Int) (on':List Int) (ds':List Za) (ts':List Zb) (fs':List Int),lp (Zat picks g.work g.edges left) ((s:Int),wlV m V,l,on,ds,ts,fs)=some (.inr ((n':Int),l',on',ds',ts',fs'))/\GangIn g m left on' ds' ts' fs'/\(∀c,¬Zc9 m (vw on' ds' ts' fs') c)/\Zp0 m on on' ds ds' ts ts' fs fs'/\n'<=s+n)
  (fun n k s V l hnk hq hk on fs ds ts G hV=>by
   obtain⟨n',l',on',ds',ts',fs',q1,q2,q3,q4,q5⟩:=hq (by omega) on fs ds ts G hV
   exact⟨n',l',on',ds',ts',fs',q1,q2,q3,q4,by omega⟩)
  (fun n s V l I hw hk on fs ds ts G hV=>by
   subst hV
   have hnil:wlV m (vw on ds ts fs)=[]:=by
    rw[List.eq_nil_iff_forall_not_mem]
    intro z hz
    exact hw _ (ZhO.1 hz).2
   refine⟨s,l,on,ds,ts,fs,?_,G,hw,Zp0.refl _ _ _ _ _,by omega⟩
   rw[ZaD,hnil]
   rfl)
  (fun n s V l I hw hq hk on fs ds ts G hV=>by
   subst hV
   obtain⟨on1,ds1,ts1,fs1,p1,p2,p3⟩:=ZzB h G hw.1 hw.2.1
   obtain⟨n',l',on',ds',ts',fs',q1,q2,q3,q4,q5⟩:=hq (by omega) on1 fs1 ds1 ts1 p2 p3
   refine⟨n',l',on',ds',ts',fs',?_,q2,q3,(Zv4 G hw.1 hw.2.1 p2 p3).trans q4,by omega⟩
   have hne:0<(wlV m (vw on ds ts fs)).length:=List.length_pos_iff.2 fun e=>by
    have:((chV m picks (vw on ds ts fs) l s:Nat):Int)∈wlV m (vw on ds ts fs):=ZhO.2 ⟨by omega,by simpa using hw⟩
    rw[e] at this;cases this
   rw[ZaD]
   have hnx:=(Zp4 (picks:=picks) (last:=l) (s:=s) h8 (by omega) ⟨_,hw⟩).2.2
   simp only[Zat,dT (show(0:Int)<((wlV m (vw on ds ts fs)).length:Int) by omega),cT,hnx,bS,p1,show((0:Int) != 0)=false from rfl,cF,Zov (fs:=fs1) p2.ol p2.dl p2.tl h8]
   rw[ZbN (by omega),show(s:Int)+1=((s+1:Nat):Int) by omega,p3]
   exact q1)
  0 (vw on ds ts fs) (-1) G.inv ⟨by omega,by omega⟩
 have hmost:=Zwa h1m h8
 have hsz:8*m*m*(m+1)<=8*8*8*9:=Nat.mul_le_mul (Nat.mul_le_mul (Nat.mul_le_mul_left 8 h8) h8) (by omega)
 obtain⟨n',l',on',ds',ts',fs',q1,q2,q3,q4,q5⟩:=key (by omega) on fs ds ts G rfl
 refine⟨n',l',on',ds',ts',fs',?_,q2,q3,q4,by omega⟩
 unfold Zby
 rw[Zov (fs:=fs) G.ol G.dl G.tl h8,bS]
 rw[show(lp (Zat picks g.work g.edges left) (0,wlV m (vw on ds ts fs), -1,on,ds,ts,fs))=_ from q1]
 rfl
end
end
open Go Go.Proofs.YtgcfmiajkbbmeaaGreatDoorE Go.Sort
section
structure OKA (P:Int->Prop) (d:Array Int):Prop where
 el:∀i,i<d.size->P d[i]!
 sz:d.size<=1000
section
variable (cmp:Int->Int->Option Int) (c:Int->Int->Int) (P:Int->Prop)
def ZuI:Prop:=∀x y,P x->P y->cmp x y=some (c x y)
def ltC (x y:Int):Bool:=decide (c x y<0)
variable {cmp c P} (hc:ZuI cmp c P)
include hc
end
end
section
section
variable {cmp:Int->Int->Option Int} {c:Int->Int->Int} {P:Int->Prop} (hc:ZuI cmp c P)
include hc
end
end
section
section
variable {cmp:Int->Int->Option Int} {c:Int->Int->Int} {P:Int->Prop} (hc:ZuI cmp c P)
include hc
end
end
def ZtZ (a b:Int):Int:=u64.wrap (Zgt a ^^^ Zgt b).toNat
def xs (r:Int):Int:=ZtZ (ZtZ (ZtZ r (u64.wrap (r*2 ^ 13))) (Int.fdiv (ZtZ r (u64.wrap (r*2 ^ 13))) (2 ^ 7))) (u64.wrap (ZtZ (ZtZ r (u64.wrap (r*2 ^ 13))) (Int.fdiv (ZtZ r (u64.wrap (r*2 ^ 13))) (2 ^ 7))*2 ^ 17))
section
def Res (P:Int->Prop) (r:Option (List Int)) (X:Array Int) (n:Nat):Prop:=r=some X.toList/\OKA P X/\X.size=n
section
variable {cmp:Int->Int->Option Int} {c:Int->Int->Int} {P:Int->Prop} (hc:ZuI cmp c P) (hs:SWO (ltC c))
include hc hs
end
end
theorem Zm4 (l:List Int) (hl:l.length<=1000):∃r:List Int,ZaV l=some r/\r.Perm l/\r.Pairwise (fun x y=>x<=y):=by
 refine⟨sortI l,?_,ZlJ l,Zjc l⟩
 unfold ZaV
 rw[Nat.ble_eq_true_of_le (le_trans hl (by decide))]
 rfl
structure ZAY (d:Zxv):Prop where
 p:d.parts.length<=20
 e:d.edges.length<=60
 f:d.futures.length<=20
 b:d.barriers.length<=8
 i:∀b∈d.barriers,b.ins.length<=20/\b.outs.length<=20
theorem ZAY.short {d:Zxv} (h:ZAY d):ZBV d:=
 ⟨by have:=h.p;omega,by have:=h.e;omega,by have:=h.f;omega,by have:=h.b;omega,fun b hb=>⟨by have:=(h.i b hb).1;omega,by have:=(h.i b hb).2;omega⟩⟩
def sel {γ:Type} (p:γ->Bool) (g:Nat->γ->Int):Nat->List γ->List Int
 | _,[]=>[]
 | i,x :: l=>bif p x then g i x :: sel p g (i+1) l else sel p g (i+1) l
theorem Zvr {γ:Type} (p:γ->Bool) (g:Nat->γ->Int):∀(l:List γ) (i:Nat),(sel p g i l).length=l.countP p
 | [],_=>rfl
 | x :: l,i=>by
  unfold sel
  have ih:=Zvr p g l (i+1)
  cases h:p x with
  | true=>simp[ih,h]
  | false=>simp[ih,h]
theorem ZrA {γ:Type} (p:γ->Bool) (g:Nat->γ->Int) (z:Int):∀(l:List γ) (i:Nat),z∈sel p g i l↔∃j x,l[j]? = some x/\p x=true/\z=g (i+j) x
 | [],i=>by simp[sel]
 | x :: l,i=>by
  have ih:=ZrA p g z l (i+1)
  have key:(∃j y,(x :: l)[j]? = some y/\p y=true/\z=g (i+j) y)↔(p x=true/\z=g i x)∨∃j y,l[j]? = some y/\p y=true/\z=g (i+1+j) y:=by
   constructor
   ·rintro ⟨j,y,h1,h2,h3⟩
    cases j with
    | zero=>left;simp at h1;subst h1;exact⟨h2,h3⟩
    | succ j=>right;exact⟨j,y,by simpa using h1,h2,by rw[h3];congr 1;omega⟩
   ·rintro (⟨h2,h3⟩ | ⟨j,y,h1,h2,h3⟩)
    ·exact⟨0,x,rfl,h2,h3⟩
    ·exact⟨j+1,y,by simpa using h1,h2,by rw[h3];congr 1;omega⟩
  rw[key]
  unfold sel
  cases h:p x with
  | true=>simp[ih]
  | false=>simp[ih]
theorem ZyS {γ:Type} (l:List γ) (hl:l.length<=1000) (p:γ->Bool) (g:Nat->γ->Int) (step:Int×List Int->Option ((Int×List Int)⊕List Int))
  (h1:∀i x s,i<l.length->l[i]? = some x->step ((i:Int),s)=(bif p x then (bif Nat.ble (s.length+1) lim then some (.inl (((i+1:Nat):Int),s++[g i x])) else none) else some (.inl (((i+1:Nat):Int),s))))
  (h2:∀s,step ((l.length:Int),s)=some (.inr s)) (s:List Int) (hs:s.length<=1000000):lp step (0,s)=some (s++sel p g 0 l):=by
 have key:=ZuP l step (fun i s=>((i:Int),s)) (fun i x s=>bif p x then (bif Nat.ble (s.length+1) lim then some (.inl (s++[g i x])) else none) else some (.inl s)) (fun s=>some s) (fun i x s hi hx=>by
   rw[h1 i x s hi hx]
   cases p x<;>cases Nat.ble (s.length+1) lim<;>rfl) (fun s=>h2 s) s
 refine(key:lp step (0,s)=_).trans ?_
 have:∀(l:List γ) (i:Nat) (s:List Int),s.length+l.length<=1001000->Zqi (fun i x s=>bif p x then (bif Nat.ble (s.length+1) lim then some (Sum.inl (s++[g i x])) else (none:Option (List Int⊕List Int))) else some (.inl s)) (fun s=>some s) i l s=some (s++sel p g i l):=by
  intro l
  induction l with
  | nil=>intro i s _;simp[Zqi,sel]
  | cons x l ih=>
   intro i s hb
   rw[length_cons] at hb
   unfold Zqi sel
   cases p x with
   | true=>
    rw[ZaR (show s.length+1<=1073741824 by omega)]
    simp only[cT]
    rw[ih (i+1) (s++[g i x]) (by rw[lA,length_singleton];omega)]
    simp
   | false=>
    simp only[cF]
    rw[ih (i+1) s (by omega)]
 exact this l 0 s (by omega)
theorem ZqP {γ:Type} (p:γ->Bool) (g:Nat->γ->Int) (l:List γ) (i:Nat):(sel p g i l).length<=l.length:=by rw[Zvr];exact List.countP_le_length
def ZdV (left row:List Int) (n:Int):Int:=if n = -1 then -1 else if lf (ZG left row) n=0 then -1 else n
theorem Zb6 (left row:List Int):ZD left row=row.map (ZdV left row):=rfl
theorem Zv1 {row:List Int} (h:Zr0 row) (k:Nat):Zr0 (row.take k):=fun i j n hi hj hn=>by
 rw[List.getElem?_take] at hi hj
 split at hi
 ·split at hj
  ·exact h i j n hi hj hn
  ·cases hj
 ·cases hi
theorem Zyb {l:List Int}{n:Int} (h:n ≠ -1):dec l n=l.set n.toNat (lf l n-1):=by unfold dec;rw[if_neg h]
theorem Zwq (row left:List Int):(row.foldl dec left).length=left.length:=ZbC row left
theorem ZE0 {row:List Int} (left:List Int) (h:Zr0 row) (hr:∀n∈row,n = -1∨(isN left n/\0<lf left n)) (h64:left.length<=64) (hv:∀x∈left,x<=1000) (h8:row.length<=8) :
  lp (Zdk row) (0,row,left,([]:List Int))=some (ZD left row,ZG left row,row.filter fun n=>decide (n ≠ -1)&&decide (lf (ZG left row) n=0)):=by
 have hr1:∀n∈row,n = -1∨isN left n:=fun n hn=>(hr n hn).imp id (·.1)
 have key:∀(k i:Nat),i+k=row.length->lp (Zdk row) ((i:Int),(ZD left row).take i++row.drop i,(row.take i).foldl dec left,(row.take i).filter fun n=>decide (n ≠ -1)&&decide (lf (ZG left row) n=0))=some (ZD left row,ZG left row,row.filter fun n=>decide (n ≠ -1)&&decide (lf (ZG left row) n=0)):=by
  intro k
  induction k with
  | zero=>
   intro i hi
   have hi:i=row.length:=by omega
   subst hi
   have hl:(ZD left row).length=row.length:=by rw[Zb6,length_map]
   rw[ZaD,List.drop_length,append_nil,List.take_length,List.take_of_length_le (by omega)]
   simp only[Zdk,Zbg,cF]
   rfl
  | succ k ih=>
   intro i hi
   have hi':i<row.length:=by omega
   have hx:=gE hi'
   generalize hn:row[i]=n at hx
   have htl:(ZD left row).length=row.length:=by rw[Zb6,length_map]
   have htake:((ZD left row).take i).length=i:=by rw[length_take,htl];omega
   have hget:((ZD left row).take i++row.drop i)[i]? = some n:=by
    rw[List.getElem?_append_right (by omega),htake,List.getElem?_drop,Nat.sub_self,add_zero]
    exact hx
   have hdrop:row.drop i=n :: row.drop (i+1):=by rw[<- hn];exact List.drop_eq_getElem_cons hi'
   have htk:row.take (i+1)=row.take i++[n]:=by rw[List.take_add_one,hx];rfl
   have hto:(ZD left row).take (i+1)=(ZD left row).take i++[ZdV left row n]:=by
    rw[List.take_add_one,Zb6,List.getElem?_map,hx];rfl
   have hset:∀v,((ZD left row).take i++row.drop i).set i v=(ZD left row).take i++v :: row.drop (i+1):=fun v=>by
    rw[List.set_append_right _ _ (by omega),htake,Nat.sub_self,hdrop];rfl
   have ih':=ih (i+1) (by omega)
   rw[htk,hto,List.foldl_append,List.filter_append,List.append_assoc] at ih'
   rw[ZaD]
   simp only[Zdk,Zba hi',cT,Zn hget,bS,ZA hi' (show row.length<9223372036854775808 by omega)]
   by_cases h1:n = -1
   ·subst h1
    rw[show((-1:Int) == -1)=true from rfl,cT]
    have e1:ZdV left row (-1) = -1:=rfl
    have e2:∀l:List Int,[(-1:Int)].foldl dec l=l:=fun l=>rfl
    have e3:([(-1:Int)].filter fun n=>decide (n ≠ -1)&&decide (lf (ZG left row) n=0))=[]:=rfl
    rw[e1,e2,e3,append_nil] at ih'
    rw[hdrop]
    exact ih'
   ·rw[show(n == -1)=false from beq_eq_false_iff_ne.2 h1,cF]
    rcases hr n (by rw[<- hn];exact getElem_mem _) with h2 | ⟨h2,h3⟩
    ·exact absurd h2 h1
    ·have hnt:n∉row.take i:=fun hm=>by
      obtain⟨j,hj⟩:=List.getElem?_of_mem hm
      have hjl:=(gQ hj).1
      rw[length_take] at hjl
      rw[List.getElem?_take,if_pos (by omega)] at hj
      have:=h j i n hj hx h1
      omega
     have hl1:lf ((row.take i).foldl dec left) n=lf left n:=by
      have:=Zkk (row.take i) left (Zv1 h i) (fun m hm=>hr1 m (List.mem_of_mem_take hm)) n h2.1
      rw[if_neg hnt] at this
      exact this
     have hl2:lf (ZG left row) n=lf left n-1:=by
      have:=Zkk row left h hr1 n h2.1
      rwa [if_pos (by rw[<- hn];exact getElem_mem _)] at this
     have hin:isN ((row.take i).foldl dec left) n:=⟨h2.1,by rw[Zwq];exact h2.2⟩
     have h1000:lf left n<=1000:=hv _ (mG (Zkh h2.1 h2.2))
     have hdec:((row.take i).foldl dec left).set n.toNat (w64 (lf ((row.take i).foldl dec left) n-1))=dec ((row.take i).foldl dec left) n:=by
      rw[Zyb h1,Zgi (by rw[hl1];omega) (by rw[hl1];omega)]
     rw[Ztm hin,bS,hdec]
     have hin2:isN (dec ((row.take i).foldl dec left) n) n:=⟨h2.1,by rw[Zop];exact hin.2⟩
     have hl3:lf (dec ((row.take i).foldl dec left) n) n=lf (ZG left row) n:=by
      rw[hl2,<- hl1,Zyb h1,Zy7 ⟨hin.1,hin.2⟩ h2.1,if_pos rfl]
     rw[Zpn (c:=⟨(ZD left row).take i++row.drop i,dec ((row.take i).foldl dec left) n⟩) hin2,bS]
     dsimp only
     rw[hl3]
     have e2:∀l:List Int,[n].foldl dec l=dec l n:=fun l=>rfl
     rw[e2] at ih'
     by_cases h4:lf (ZG left row) n=0
     ·have e1:ZdV left row n = -1:=by unfold ZdV;rw[if_neg h1,if_pos h4]
      have e3:([n].filter fun n=>decide (n ≠ -1)&&decide (lf (ZG left row) n=0))=[n]:=by
       rw[List.filter_cons_of_pos (by rw[dT h1,dT h4];rfl)];rfl
      have hf8:((row.take i).filter fun n=>decide (n ≠ -1)&&decide (lf (ZG left row) n=0)).length<=i:=le_trans (List.length_filter_le _ _) (by rw[length_take];omega)
      rw[e1,e3] at ih'
      rw[show(lf (ZG left row) n==0)=true from beq_iff_eq.2 h4,cT,ZaR (show((row.take i).filter fun n=>decide (n ≠ -1)&&decide (lf (ZG left row) n=0)).length+1<=1073741824 by omega),cT,toNat_natCast,hset]
      exact ih'
     ·have e1:ZdV left row n=n:=by unfold ZdV;rw[if_neg h1,if_neg h4]
      have e3:([n].filter fun n=>decide (n ≠ -1)&&decide (lf (ZG left row) n=0))=[]:=by
       rw[List.filter_cons_of_neg (by rw[dT h1,dF h4];decide)];rfl
      rw[e1,e3,append_nil] at ih'
      rw[show(lf (ZG left row) n==0)=false from beq_eq_false_iff_ne.2 h4,cF,hdrop]
      exact ih'
 have:=key row.length 0 (by omega)
 simpa using this
theorem Zpz {g:Zl} (h:Zaa g=0) {left row:List Int} (c:ZcY g left row):∃done,ZhB g ⟨row,left⟩=some (.inr (ZD left row,ZG left row,done))/\(∀z,z∈done↔z∈row/\z ≠ -1/\lf (ZG left row) z=0):=by
 obtain⟨hG,hA⟩:=Zap h
 have hw:=hG.wl
 have ll:=c.ll
 have o8:=c.o8
 have hk:=ZE0 left c.ok.one (fun n hn=>(c.ok.run n hn).imp id fun h=>⟨h.1,h.2.1⟩) (by omega) (fun x hx=>(c.ok.rng x hx).2) o8
 obtain⟨r,h1,h2,_⟩:=Zm4 (row.filter fun n=>decide (n ≠ -1)&&decide (lf (ZG left row) n=0)) (le_trans (List.length_filter_le _ _) (by omega))
 refine⟨r,?_,fun z=>?_⟩
 ·unfold ZhB
  rw[ZnY h c,bS,show((0:Int) != 0)=false from rfl,cF]
  unfold Zlp
  rw[Zjh (show row.length<=1073741824 by omega),bS,Zjh (show left.length<=1073741824 by omega),bS,bS]
  unfold Zkp
  dsimp only
  rw[hk,bS]
  dsimp only
  rw[h1]
  rfl
 ·rw[h2.mem_iff,List.mem_filter,aT,decide_eq_true_eq,decide_eq_true_eq]
structure PG (m:Nat) (b:Int->Prop) (on:List Int) (ds:List Za) (ts:List Zb) (fs:List Int):Prop where
 dl:ds.length=m
 ring:∀d∈ds,d.ring.length=64
 inv:Inv m b (vw on ds ts fs)
 a0:∀i,i<m->(vw on ds ts fs).a i=0
theorem Inv.congr {m:Nat}{b b':Int->Prop}{V:Zf} (h:∀n,b n↔b' n) (I:Inv m b V):Inv m b' V:=
 ⟨I.pos,⟨fun c k hi=>by obtain⟨h1,h2⟩:=I.items.rdy c k hi;exact⟨(h _).1 h1,h2⟩,I.items.inj,fun n hn ho=>I.items.all n ((h n).2 hn) ho⟩⟩
theorem PG.be {m:Nat}{b:Int->Prop}{on fs:List Int}{ds:List Za}{ts:List Zb} (P:PG m b on ds ts fs) {i:Nat} (hi:i<m):(vw on ds ts fs).be i=(vw on ds ts fs).B i/\(vw on ds ts fs).lo i=(vw on ds ts fs).T i:=by
 have:=P.a0 i hi
 constructor
 ·unfold Zf.be;rw[if_neg (by omega)]
 ·unfold Zf.lo;rw[if_neg (by omega)]
theorem Pos.still {m:Nat}{W:Zf}{i:Nat} (ha:W.a i=0) (hF:W.F i<m) (hO:W.O i ≠ -1->W.F i=0) (h0:0<=W.T i) (h1:W.T i<=W.B i) (h2:W.B i<=64) (rx : -1<=W.x i/\W.x i<=64) (ry : -1<=W.y i/\W.y i<=64):Pos m W i:=by
 have hb:W.be i=W.B i:=by unfold Zf.be;rw[if_neg (by omega)]
 refine⟨hF,fun h=>⟨ha,hO h⟩,by omega,by omega,fun _=>by omega,h0,by omega,by omega,fun _ h=>by omega,fun _ h=>by omega,fun _ h=>by omega,fun _ h=>by omega,fun _ h=>by omega,fun _ h=>by omega,fun _ h=>by omega,rx,ry⟩
theorem ZyJ {m c:Nat}{b:Int->Prop}{on fs:List Int}{ds:List Za}{ts:List Zb}{n:Int} (P:PG m b on ds ts fs) (hc:c<m) (h8:m<=8) (hB:(vw on ds ts fs).B c<64) (hnb:¬b n) (hno:∀i,i<m->(vw on ds ts fs).O i≠n) :
  ∃ds',Zaq (c:Int) n ds=some (.inl ds')/\PG m (fun x=>b x∨x=n) on ds' ts fs/\∀i,(vw on ds' ts fs).B i=if i=c then (vw on ds ts fs).B c+1 else (vw on ds ts fs).B i:=by
 have hcd:c<ds.length:=by rw[P.dl];exact hc
 have hds:=gE hcd
 generalize hd:ds[c]=d at hds
 have hring:=P.ring d (by rw[<- hd];exact getElem_mem _)
 have p:=P.inv.pos c hc
 have qT:(vw on ds ts fs).T c=d.top:=ZI hds
 have qB:(vw on ds ts fs).B c=d.bottom:=ZI hds
 have qR:(vw on ds ts fs).R c=ZeG d.ring:=ZI hds
 have hbe:=(P.be hc).1
 have p0:=p.T0
 have pTB:=p.TB
 rw[qT] at p0 pTB
 rw[hbe,qB] at pTB
 rw[qB] at hB
 have dok:Zjm d:=⟨hring,p0,by omega,by omega,by omega⟩
 have hpl:=Zw2 (k:=d.bottom) (by omega) hB
 have hlt:d.bottom.toNat<d.ring.length:=by rw[hring];omega
 refine⟨ds.set c ⟨d.ring.set d.bottom.toNat n,d.top,d.bottom+1⟩,?_,?_,fun i=>?_⟩
 ·unfold Zaq
  rw[Zn hds,bS]
  unfold Zbk
  rw[ZgR dok,bS,show((0:Int) != 0)=false from rfl,cF,dF (show ¬d.bottom<d.top by omega),cF,ZbN (by omega),hring,show(d.bottom-d.top==((64:Nat):Int))=false from beq_eq_false_iff_ne.2 (by omega),cF,ZkA hring,bS,ZgL hring,bS,Zhg hring,bS,hpl,ZbN (by omega)]
  rfl
 ·
  have eT:(vw on (ds.set c ⟨d.ring.set d.bottom.toNat n,d.top,d.bottom+1⟩) ts fs).T=(vw on ds ts fs).T:=by
   show gt _ _ _=_
   rw[Zbo hcd]
   exact ZbG _ _ qT.symm
  have eB:(vw on (ds.set c ⟨d.ring.set d.bottom.toNat n,d.top,d.bottom+1⟩) ts fs).B=upd (vw on ds ts fs).B c (d.bottom+1):=Zbo hcd
  have eR:(vw on (ds.set c ⟨d.ring.set d.bottom.toNat n,d.top,d.bottom+1⟩) ts fs).R=upd (vw on ds ts fs).R c (ZeG (d.ring.set d.bottom.toNat n)):=Zbo hcd
  have rA:∀k,0<=k->k<64->ZeG (d.ring.set d.bottom.toNat n) k=if k=d.bottom then n else ZeG d.ring k:=fun k hk0 hk1=>by
   unfold ZeG gt
   rw[Zw2 hk0 hk1,List.getElem?_set]
   by_cases e:k=d.bottom
   ·subst e;rw[if_pos rfl,if_pos hlt,if_pos rfl];rfl
   ·rw[if_neg (by omega),if_neg e]
  generalize hW:vw on (ds.set c ⟨d.ring.set d.bottom.toNat n,d.top,d.bottom+1⟩) ts fs=W at eT eB eR
  have oO:W.O=(vw on ds ts fs).O:=by rw[<- hW];rfl
  have oa:W.a=(vw on ds ts fs).a:=by rw[<- hW];rfl
  have ox:W.x=(vw on ds ts fs).x:=by rw[<- hW];rfl
  have oy:W.y=(vw on ds ts fs).y:=by rw[<- hW];rfl
  have oF:W.F=(vw on ds ts fs).F:=by rw[<- hW];rfl
  have wa:∀i,i<m->W.a i=0:=fun i hi=>by rw[oa];exact P.a0 i hi
  have wB:∀i,W.B i=if i=c then d.bottom+1 else (vw on ds ts fs).B i:=fun i=>by rw[eB];rfl
  have wit:∀i k,Item m W i k↔Item m (vw on ds ts fs) i k∨(i=c/\k=d.bottom):=fun i k=>by
   unfold Item
   constructor
   ·rintro ⟨h1,h2,h3⟩
    have e1:W.lo i=W.T i:=by unfold Zf.lo;rw[if_neg (by have:=wa i h1;omega)]
    have e2:W.be i=W.B i:=by unfold Zf.be;rw[if_neg (by have:=wa i h1;omega)]
    rw[e1,eT] at h2
    rw[e2,wB] at h3
    obtain⟨q1,q2⟩:=P.be h1
    by_cases e:i=c
    ·subst e
     rw[if_pos rfl] at h3
     by_cases ek:k=d.bottom
     ·exact .inr ⟨rfl,ek⟩
     ·exact .inl ⟨h1,by rw[q2];exact h2,by rw[q1,qB];omega⟩
    ·rw[if_neg e] at h3
     exact .inl ⟨h1,by rw[q2];exact h2,by rw[q1];exact h3⟩
   ·have back:∀i,i<m->W.lo i=(vw on ds ts fs).T i/\W.be i=W.B i:=fun i h1=>by
     have:=wa i h1
     constructor
     ·unfold Zf.lo;rw[if_neg (by omega),eT]
     ·unfold Zf.be;rw[if_neg (by omega)]
    rintro (⟨h1,h2,h3⟩ | ⟨rfl,rfl⟩)
    ·obtain⟨q1,q2⟩:=P.be h1
     obtain⟨b1,b2⟩:=back i h1
     rw[q2] at h2
     rw[q1] at h3
     refine⟨h1,by rw[b1];exact h2,?_⟩
     rw[b2,wB]
     by_cases e:i=c
     ·subst e;rw[if_pos rfl];rw[qB] at h3;omega
     ·rw[if_neg e];exact h3
    ·obtain⟨b1,b2⟩:=back i hc
     refine⟨hc,by rw[b1,qT];omega,?_⟩
     rw[b2,wB,if_pos rfl];omega
  have wR:∀i k,Item m (vw on ds ts fs) i k->W.R i k=(vw on ds ts fs).R i k:=fun i k hi=>by
   rw[eR]
   by_cases e:i=c
   ·subst e
    rw[ZW,qR]
    obtain⟨q1,q2⟩:=P.be hc
    obtain⟨_,h2,h3⟩:=hi
    rw[q2,qT] at h2
    rw[q1,qB] at h3
    rw[rA k (by omega) (by omega),if_neg (by omega)]
   ·rw[Zr8 _ _ e]
  have wn:W.R c d.bottom=n:=by
   rw[eR,ZW,rA d.bottom (by omega) hB,if_pos rfl]
  refine⟨by rw[length_set];exact P.dl,fun x hx=>?_,?_,fun i hi=>by rw[hW];exact wa i hi⟩
  ·rcases ZbD hx with hx | hx
   ·exact P.ring x hx
   ·rw[hx];show(d.ring.set _ _).length=64;rw[length_set];exact hring
  ·rw[hW]
   refine⟨fun i hi=>?_,⟨fun i k hk=>?_,fun i k i' k' h1 h2 h3=>?_,fun x hx ho=>?_⟩⟩
   ·have pi:=P.inv.pos i hi
    have q1:=(P.be hi).1
    have t1:=pi.TB
    have t2:=pi.B64
    rw[q1] at t1 t2
    refine Pos.still (wa i hi) (by rw[oF];exact pi.F) (fun h=>by rw[oF];rw[oO] at h;exact(pi.busy h).2) (by rw[eT];exact pi.T0) ?_ ?_ (by rw[ox];exact pi.rx) (by rw[oy];exact pi.ry)
    ·rw[eT,wB]
     by_cases e:i=c
     ·subst e;rw[if_pos rfl,qT];omega
     ·rw[if_neg e];exact t1
    ·rw[wB]
     by_cases e:i=c
     ·rw[if_pos e];omega
     ·rw[if_neg e];exact t2
   ·rw[oO]
    rcases(wit i k).1 hk with h1 | ⟨rfl,rfl⟩
    ·obtain⟨r1,r2⟩:=P.inv.items.rdy i k h1
     rw[wR i k h1]
     exact⟨.inl r1,r2⟩
    ·rw[wn]
     exact⟨.inr rfl,hno⟩
   ·rcases(wit i k).1 h1 with h1 | ⟨rfl,rfl⟩
    ·rcases(wit i' k').1 h2 with h2 | ⟨rfl,rfl⟩
     ·rw[wR i k h1,wR i' k' h2] at h3
      exact P.inv.items.inj i k i' k' h1 h2 h3
     ·rw[wn,wR i k h1] at h3
      exact absurd (h3 ▸ (P.inv.items.rdy i k h1).1) hnb
    ·rcases(wit i' k').1 h2 with h2 | ⟨rfl,rfl⟩
     ·rw[wn,wR i' k' h2] at h3
      exact absurd (h3 ▸ (P.inv.items.rdy i' k' h2).1) hnb
     ·exact⟨rfl,rfl⟩
   ·rw[oO] at ho
    rcases hx with hx | rfl
    ·obtain⟨i,k,h1,h2⟩:=P.inv.items.all x hx ho
     exact⟨i,k,(wit i k).2 (.inl h1),by rw[wR i k h1];exact h2⟩
    ·exact⟨c,d.bottom,(wit c d.bottom).2 (.inr ⟨rfl,rfl⟩),wn⟩
 ·show gt _ _ _ _=_
  rw[Zbo hcd]
  unfold upd
  rw[qB]
  rfl
section
theorem Zh6:∀(l m:List Int),l.Nodup->(∀x∈l,x∈m)->l.length<=m.length
 | [],_,_,_=>zero_le _
 | x :: l,m,hn,hs=>by
  have hn:=List.nodup_cons.1 hn
  have hx:x∈m:=hs x (by simp)
  have h1:=Zh6 l (m.erase x) hn.2 fun y hy=>(List.mem_erase_of_ne (fun e:y=x=>hn.1 (e ▸ hy))).2 (hs y (by simp[hy]))
  rw[List.length_erase_of_mem hx] at h1
  have:=List.length_pos_of_mem hx
  rw[length_cons]
  omega
def Zks (E:List Zt) (left:List Int):Nat:=(((List.range left.length).filter fun i:Nat=>ZhP E left (i:Int)).map fun i:Nat=>(i:Int)).length
theorem Zx8 (E:List Zt) (left:List Int):Zks E left<=left.length:=by
 unfold Zks
 rw[length_map]
 exact le_trans (List.length_filter_le _ _) (by rw[List.length_range];exact Nat.le_refl _)
theorem ZtD {E:List Zt}{left left':List Int} (hl:left'.length=left.length) (hm:∀n,isN left n->ZjS E left n->ZjS E left' n) {S:List Int} (hS:S.Nodup) (hin:∀s∈S,isN left s/\ZjS E left' s/\¬ZjS E left s):Zks E left+S.length<=Zks E left':=by
 unfold Zks
 rw[<- lA]
 refine Zh6 _ _ ?_ fun x hx=>?_
 ·rw[List.nodup_append]
  refine⟨List.Pairwise.map _ (fun a b (h:a≠b)=>by omega) (List.Pairwise.filter _ List.nodup_range),hS,fun a ha b hb e=>?_⟩
  subst e
  obtain⟨h1,h2,h3⟩:=Zfe.1 ha
  rw[toNat_of_nonneg h1] at h3
  exact(hin a hb).2.2 (Zb7.1 h3)
 ·rw[hl]
  rcases List.mem_append.1 hx with hx | hx
  ·obtain⟨h1,h2,h3⟩:=Zfe.1 hx
   refine Zfe.2 ⟨h1,h2,?_⟩
   rw[toNat_of_nonneg h1] at h3 ⊢
   exact Zb7.2 (hm x ⟨h1,h2⟩ (Zb7.1 h3))
  ·obtain⟨h1,h2,_⟩:=hin x hx
   exact Zfe.2 ⟨h1.1,h1.2,by rw[toNat_of_nonneg h1.1];exact Zb7.2 h2⟩
theorem ZAF {g:Zl} (hc:Zaa g=0) (n:Int):∃r,ZeQ g n=some r/\(∀z,z∈r↔∃e∈g.edges,e.src=n/\e.dst=z)/\r.length<=256:=by
 obtain⟨h,_⟩:=Zap hc
 have hel:=h.el
 have key:=ZyS g.edges (by omega) (fun e:Zt=>e.src==n) (fun _ e=>e.dst) (ZcF g fun z0=>ZbX z0 n) (fun i x s hi hx=>by
  simp only[ZcF,Zba hi,cT,Zn hx,bS,ZbX,ZA hi h.short.e]
  cases x.src==n<;>rfl) (fun s=>by simp only[ZcF,Zbg,cF]) [] (by simp)
 rw[List.nil_append] at key
 have hlen:(sel (fun e:Zt=>e.src==n) (fun _ e=>e.dst) 0 g.edges).length<=256:=le_trans (ZqP _ _ _ _) hel
 obtain⟨r,h1,h2,_⟩:=Zm4 _ (le_trans hlen (by omega))
 refine⟨r,?_,fun z=>?_,by rw[h2.length_eq];exact hlen⟩
 ·unfold ZeQ
  rw[ZiX g h.short,hc,bS,show((0:Int) != 0)=false from rfl,cF]
  unfold Zku
  simp only[key,bS,h1]
 ·rw[h2.mem_iff,ZrA]
  constructor
  ·rintro ⟨j,x,hx,h3,h4⟩
   exact⟨x,mG hx,by simpa using h3,h4.symm⟩
  ·rintro ⟨e,he,h3,h4⟩
   obtain⟨j,hj⟩:=List.getElem?_of_mem he
   exact⟨j,e,hj,by simpa using h3,h4.symm⟩
section
variable {g:Zl} {m:Nat} {left row:List Int}
theorem Zs6 {fs:List Int}{ds:List Za}{ts:List Zb} (G:GangIn g m left row ds ts fs) (hw:∀c,¬Zc9 m (vw row ds ts fs) c):(∀i,i<m->(vw row ds ts fs).a i=0)/\(-1∈row->∀n,¬Rdy g.edges left row n):=by
 have a0:∀i,i<m->(vw row ds ts fs).a i=0:=fun i hi=>Classical.byContradiction fun h=>by
  by_cases hO:(vw row ds ts fs).O i = -1
  ·exact hw i ⟨hi,hO,.inr h⟩
  ·exact h ((G.inv.pos i hi).busy hO).1
 refine⟨a0,fun hi n hr=>?_⟩
 obtain⟨c,hc⟩:=List.getElem?_of_mem hi
 have hcm:c<m:=by rw[<- G.ol];exact(gQ hc).1
 obtain⟨j,k,⟨hj,h1,h2⟩,_⟩:=G.inv.items.all n ⟨hr.1,hr.2.1,hr.2.2.2⟩ fun i him h=>by
  have hx:=gE (show i<row.length by rw[G.ol];exact him)
  rw[Zlr row ds ts fs hx] at h
  exact hr.2.2.1 (h ▸ getElem_mem _)
 have hja:=a0 j hj
 have e1:(vw row ds ts fs).lo j=(vw row ds ts fs).T j:=by unfold Zf.lo;rw[if_neg (by omega)]
 have e2:(vw row ds ts fs).be j=(vw row ds ts fs).B j:=by unfold Zf.be;rw[if_neg (by omega)]
 exact hw c ⟨hcm,Zlr row ds ts fs hc,.inl ⟨j,hj,by omega⟩⟩
theorem ZoZ (c:ZcY g left row) (hall : -1∈row->∀n,¬Rdy g.edges left row n):Zgq g.edges left row row:=
 ⟨rfl,fun c n h _=>h,fun c n h1 h2=>by rw[h1] at h2;exact .inl (Option.some.inj h2).symm,c.ok.one,hall⟩
def Zwi (g:Zl) (left row:List Int) (s:Int):Prop:=Rdy g.edges (ZG left row) (ZD left row) s/\¬ZjS g.edges left s
def was (g:Zl) (left row:List Int) (n:Int):Prop:=Rdy g.edges left row n∨(n∈ZD left row/\n ≠ -1)
structure TI (g:Zl) (m:Nat) (left row:List Int) (ts:List Zb) (fs:List Int) (ds:List Za) (pushed:List Int):Prop where
 pg:PG m (fun x=>was g left row x∨x∈pushed) (ZD left row) ds ts fs
 nod:pushed.Nodup
 new:∀s∈pushed,Zwi g left row s
 cnt:∀c,c<m->(vw (ZD left row) ds ts fs).B c<=(Zks g.edges left+pushed.length:Nat)
theorem ZCk {s:Int} (h:Zwi g left row s):isN left s:=⟨h.1.1.1,by have:=h.1.1.2;rwa [ZbC] at this⟩
theorem Zpo {n:Int} (h:n∈ZD left row):n = -1∨(n∈row/\lf (ZG left row) n≠0):=by
 rw[Zb6] at h
 obtain⟨k,hk,rfl⟩:=List.mem_map.1 h
 unfold ZdV
 by_cases h1:k = -1
 ·rw[if_pos h1];exact .inl rfl
 ·rw[if_neg h1]
  by_cases h2:lf (ZG left row) k=0
  ·rw[if_pos h2];exact .inl rfl
  ·rw[if_neg h2];exact .inr ⟨hk,h2⟩
theorem Zwe {n:Int} (h:n∈row) (h1:n ≠ -1) (h2:lf (ZG left row) n≠0):n∈ZD left row:=by
 rw[Zb6]
 refine List.mem_map.2 ⟨n,h,?_⟩
 unfold ZdV
 rw[if_neg h1,if_neg h2]
theorem TI.more (hG:Zbj g) (c:ZcY g left row) (hall : -1∈row->∀n,¬Rdy g.edges left row n) {S:List Int} (hS:S.Nodup) (hn:∀s∈S,Zwi g left row s):Zks g.edges left+S.length<=Zks g.edges (ZG left row):=
 ZtD (ZbC _ _) (fun n _ hf=>(ZoZ c hall).free (by rw[c.ll];exact Zie hG) c.ok hf) hS fun s hs=>⟨ZCk (hn s hs),(hn s hs).1.2.2.2,(hn s hs).2⟩
theorem ZsG {s:Int} (c:ZcY g left row) (h:Zwi g left row s):¬was g left row s:=by
 rintro (h1 | ⟨h1,_⟩)
 ·exact h.2 h1.2.2.2
 ·exact h.1.2.2.1 h1
theorem Zwv (hc:Zaa g=0) (cr:ZcY g left row) (hall : -1∈row->∀n,¬Rdy g.edges left row n) (hm:row.length=m) {ts:List Zb}{fs:List Int}{c:Nat} (hcm:c<m) {R:List Int} (hR:∀z,z∈R↔Rdy g.edges (ZG left row) (ZD left row) z) (hRl:R.length<=64)
  {l:List Int} (hl:l.length<=256) (hnew:∀s∈l,Rdy g.edges (ZG left row) (ZD left row) s->¬ZjS g.edges left s) {D0:List Za} {p0:List Int} :
  ∀(k i:Nat) (ds:List Za) (pushed:List Int),i+k=l.length->TI g m left row ts fs ds pushed ->
   ∃ds' pushed',lp (Z4 R ((c:Int),D0,p0) l) ((i:Int),ds,pushed)=some (.inr (ds',pushed'))/\TI g m left row ts fs ds' pushed'/\(∀s∈pushed,s∈pushed')/\∀s∈l.drop i,Rdy g.edges (ZG left row) (ZD left row) s->s∈pushed':=by
 obtain⟨hG,hA⟩:=Zap hc
 have h8:m<=8:=by rw[<- hm];exact cr.o8
 have h64:(ZG left row).length<=64:=by rw[ZbC,cr.ll];exact hG.wl
 intro k
 induction k with
 | zero=>
  intro i ds pushed hi T
  have hi:i=l.length:=by omega
  subst hi
  refine⟨ds,pushed,?_,T,fun _ h=>h,fun s hs=>by rw[List.drop_length] at hs;cases hs⟩
  rw[ZaD]
  simp only[Z4,Zbg,cF]
 | succ k ih=>
  intro i ds pushed hi T
  have hi':i<l.length:=by omega
  have hx:=gE hi'
  generalize hs:l[i]=s at hx
  have hdrop:l.drop i=s :: l.drop (i+1):=by rw[<- hs];exact List.drop_eq_getElem_cons hi'
  have hpl:=TI.more hG cr hall T.nod T.new
  have hfl:=Zx8 g.edges (ZG left row)
  have hpl64:pushed.length<=64:=by omega
  rw[ZaD]
  simp only[Z4,Zba hi',cT,Zn hx,bS,Zf7 R s (by omega),ZgE,ZA hi' (show l.length<9223372036854775808 by omega)]
  by_cases h1:s∈R
  ·rw[dT h1,cT,Zf7 pushed s (by omega),bS,ZgE]
   have hr:=(hR s).1 h1
   by_cases h2:s∈pushed
   ·rw[dT h2,cT]
    obtain⟨ds',p',q1,q2,q3,q4⟩:=ih (i+1) ds pushed (by omega) T
    refine⟨ds',p',q1,q2,q3,fun z hz hzr=>?_⟩
    rw[hdrop] at hz
    rcases List.mem_cons.1 hz with rfl | hz
    ·exact q3 z h2
    ·exact q4 z hz hzr
   ·rw[dF h2,cF]
    have hN:Zwi g left row s:=⟨hr,hnew s (by rw[<- hs];exact getElem_mem _) hr⟩
    have hnod:(pushed++[s]).Nodup:=by
     rw[List.nodup_append]
     refine⟨T.nod,by simp,fun a ha b hb e=>?_⟩
     rw[mem_singleton] at hb
     exact h2 (hb ▸ e ▸ ha)
    have hnn:∀z∈pushed++[s],Zwi g left row z:=fun z hz=>by
     rcases List.mem_append.1 hz with hz | hz
     ·exact T.new z hz
     ·rw[mem_singleton] at hz;rw[hz];exact hN
    have hml:=TI.more hG cr hall hnod hnn
    rw[lA,length_singleton] at hml
    have hcnt:=T.cnt c hcm
    obtain⟨ds1,e1,e2,e3⟩:=ZyJ (n:=s) T.pg hcm h8 (by omega) (by
     rintro (h3 | h3)
     ·exact ZsG cr hN h3
     ·exact h2 h3) (fun j hj he=>by
     have hol:(ZD left row).length=m:=by rw[Zb6,length_map,hm]
     have hxj:=gE (show j<(ZD left row).length by omega)
     rw[Zlr _ ds ts fs hxj] at he
     exact hr.2.2.1 (he ▸ getElem_mem _))
    have T1:TI g m left row ts fs ds1 (pushed++[s]):=by
     refine⟨⟨e2.dl,e2.ring,e2.inv.congr fun n=>?_,e2.a0⟩,hnod,hnn,fun j hj=>?_⟩
     ·rw[List.mem_append,mem_singleton,or_assoc]
     ·rw[e3 j,lA,length_singleton]
      have:=T.cnt j hj
      split<;>omega
    obtain⟨ds',p',q1,q2,q3,q4⟩:=ih (i+1) ds1 (pushed++[s]) (by omega) T1
    refine⟨ds',p',?_,q2,fun z hz=>q3 z (by simp[hz]),fun z hz hzr=>?_⟩
    ·rw[e1,bS,ZaR (show pushed.length+1<=1073741824 by omega)]
     exact q1
    ·rw[hdrop] at hz
     rcases List.mem_cons.1 hz with rfl | hz
     ·exact q3 z (by simp)
     ·exact q4 z hz hzr
  ·rw[dF h1,cF]
   obtain⟨ds',p',q1,q2,q3,q4⟩:=ih (i+1) ds pushed (by omega) T
   refine⟨ds',p',q1,q2,q3,fun z hz hzr=>?_⟩
   rw[hdrop] at hz
   rcases List.mem_cons.1 hz with rfl | hz
   ·exact absurd ((hR z).2 hzr) h1
   ·exact q4 z hz hzr
structure Zst (g:Zl) (m:Nat) (left on:List Int) (ds:List Za) (ts:List Zb) (fs:List Int):Prop extends GangIn g m left on ds ts fs where
 bnd:∀c,c<m->(vw on ds ts fs).be c<=(Zks g.edges left:Nat)
theorem ZoC (c:ZcY g left row) {z:Int}:z∈ZaS g.edges left row↔Rdy g.edges left row z:=Zps fun x hx=>(c.ok.rng x hx).1
theorem ZeF (E:List Zt) (left on:List Int):(ZaS E left on).length<=left.length:=by
 unfold ZaS
 rw[length_map]
 exact le_trans (List.length_filter_le _ _) (by rw[List.length_range];exact Nat.le_refl _)
theorem Zuo (hc:Zaa g=0) {ts:List Zb}{fs:List Int}{ds:List Za} (G:Zst g m left row ds ts fs) (hw:∀c,¬Zc9 m (vw row ds ts fs) c) :
  ∃ds' done,Zbz g.work g.edges row left ds=some (.inr (.inr (ds',done,ZD left row,ZG left row)))/\Zst g m (ZG left row) (ZD left row) ds' ts fs/\∀z,z∈done↔z∈row/\z ≠ -1/\lf (ZG left row) z=0:=by
 obtain⟨hG,hA⟩:=Zap hc
 have cr:=G.crew
 obtain⟨a0,hall⟩:=Zs6 G.toGangIn hw
 have F:=ZoZ cr hall
 have hE:ZfI g.edges left.length:=by rw[cr.ll];exact Zie hG
 have h8:m<=8:=by rw[<- G.ol];exact cr.o8
 obtain⟨done,t1,t2⟩:=Zpz hc cr
 have hol:(ZD left row).length=m:=by rw[Zb6,length_map,G.ol]
 have cr':ZcY g (ZG left row) (ZD left row):=⟨by rw[ZbC];exact cr.ll,by rw[hol,<- G.ol];exact cr.o1,by rw[hol];exact h8,F.next hE cr.ok⟩
 have wO:∀i,i<m->(vw (ZD left row) ds ts fs).O i=ZdV left row ((vw row ds ts fs).O i):=fun i hi=>by
  have hx:=gE (show i<row.length by rw[G.ol];exact hi)
  rw[Zlr row ds ts fs hx]
  refine Zlr _ ds ts fs ?_
  rw[Zb6,List.getElem?_map,hx];rfl
 have T0:TI g m left row ts fs ds []:=by
  refine⟨⟨G.dl,G.ring,⟨fun i hi=>?_,⟨fun i k hk=>?_,fun i k i' k' h1 h2 h3=>G.inv.items.inj i k i' k' h1 h2 h3,fun n hn ho=>?_⟩⟩,a0⟩,by simp,fun s hs=>(by cases hs),fun c hcm=>?_⟩
  ·have p:=G.inv.pos i hi
   have hb:(vw row ds ts fs).be i=(vw row ds ts fs).B i:=by unfold Zf.be;rw[if_neg (by have:=a0 i hi;omega)]
   have p1:=p.TB
   have p2:=p.B64
   rw[hb] at p1 p2
   refine Pos.still (W:=vw (ZD left row) ds ts fs) (a0 i hi) p.F (fun h=>?_) p.T0 p1 p2 p.rx p.ry
   rw[wO i hi] at h
   refine(p.busy fun h2=>?_).2
   rw[h2] at h
   exact h rfl
  ·obtain⟨h1,h2⟩:=G.inv.items.rdy i k hk
   have hnr:(vw row ds ts fs).R i k∉row:=fun hm=>by
    obtain⟨j,hj⟩:=List.getElem?_of_mem hm
    exact h2 j (by rw[<- G.ol];exact(gQ hj).1) (Zlr row ds ts fs hj)
   refine⟨.inl (.inl ⟨h1.1,h1.2.1,hnr,h1.2.2⟩),fun j hj he=>?_⟩
   rw[wO j hj] at he
   have hjr:j<row.length:=by rw[G.ol];exact hj
   have hx:=gE hjr
   rw[Zlr row ds ts fs hx] at he
   have hm:(vw row ds ts fs).R i k∈ZD left row:=by
    rw[Zb6]
    exact List.mem_map.2 ⟨row[j],getElem_mem _,he⟩
   rcases Zpo hm with h | ⟨h,_⟩
   ·exact Zi6 _ h1 h
   ·exact hnr h
  ·have hno:n∉ZD left row:=fun hm=>by
    obtain⟨j,hj⟩:=List.getElem?_of_mem hm
    exact ho j (by rw[<- hol];exact(gQ hj).1) (Zlr _ ds ts fs hj)
   rcases hn with(hn | hn) | hn
   ·exact G.inv.items.all n ⟨hn.1,hn.2.1,hn.2.2.2⟩ fun j hj he=>by
     have hx:=gE (show j<row.length by rw[G.ol];exact hj)
     rw[Zlr row ds ts fs hx] at he
     exact hn.2.2.1 (he ▸ getElem_mem _)
   ·exact absurd hn.1 hno
   ·cases hn
  ·have hb:(vw row ds ts fs).be c=(vw row ds ts fs).B c:=by unfold Zf.be;rw[if_neg (by have:=a0 c hcm;omega)]
   have:=G.bnd c hcm
   rw[hb] at this
   exact this
 have hR:∀z,z∈ZaS g.edges (ZG left row) (ZD left row)↔Rdy g.edges (ZG left row) (ZD left row) z:=fun z=>ZoC cr'
 have hRl:(ZaS g.edges (ZG left row) (ZD left row)).length<=64:=le_trans (ZeF _ _ _) (by rw[ZbC,cr.ll];exact hG.wl)
 have loop:∀(k i:Nat) (ds:List Za) (pushed:List Int),i+k=row.length->TI g m left row ts fs ds pushed ->
   ∃ds' pushed',lp (Zak g.work g.edges row (ZD left row,ZG left row,done) (ZaS g.edges (ZG left row) (ZD left row))) ((i:Int),ds,pushed)=some (.inr ds')/\TI g m left row ts fs ds' pushed'/\(∀s∈pushed,s∈pushed') /\
    ∀n∈row.drop i,n ≠ -1->lf (ZG left row) n=0->∀e∈g.edges,e.src=n->Rdy g.edges (ZG left row) (ZD left row) e.dst->e.dst∈pushed':=by
  intro k
  induction k with
  | zero=>
   intro i ds pushed hi T
   have hi:i=row.length:=by omega
   subst hi
   refine⟨ds,pushed,?_,T,fun _ h=>h,fun n hn=>by rw[List.drop_length] at hn;cases hn⟩
   rw[ZaD]
   simp only[Zak,Zbg,cF]
  | succ k ih=>
   intro i ds pushed hi T
   have hi':i<row.length:=by omega
   have hx:=gE hi'
   generalize hn:row[i]=n at hx
   have hdrop:row.drop i=n :: row.drop (i+1):=by rw[<- hn];exact List.drop_eq_getElem_cons hi'
   have hy:(ZD left row)[i]? = some (ZdV left row n):=by rw[Zb6,List.getElem?_map,hx];rfl
   have hmem:n∈row:=by rw[<- hn];exact getElem_mem _
   rw[ZaD]
   simp only[Zak,Zba hi',cT,Zn hx,Zn hy,bS,ZA hi' (show row.length<9223372036854775808 by have:=G.ol;omega)]
   by_cases h1:n = -1
   ·rw[show(n == -1)=true from beq_iff_eq.2 h1,cT]
    obtain⟨ds',p',q1,q2,q3,q4⟩:=ih (i+1) ds pushed (by omega) T
    refine⟨ds',p',q1,q2,q3,fun z hz hz1=>?_⟩
    rw[hdrop] at hz
    rcases List.mem_cons.1 hz with rfl | hz
    ·exact absurd h1 hz1
    ·exact q4 z hz hz1
   ·rw[show(n == -1)=false from beq_eq_false_iff_ne.2 h1,cF]
    by_cases h2:lf (ZG left row) n=0
    ·have e1:ZdV left row n = -1:=by unfold ZdV;rw[if_neg h1,if_pos h2]
     rw[e1,show((-1:Int) != -1)=false from rfl,cF]
     obtain⟨r,s1,s2,s3⟩:=ZAF hc n
     rw[s1,bS]
     obtain⟨ds1,p1,q1,q2,q3,q4⟩:=Zwv (c:=i) hc cr hall G.ol (by rw[<- G.ol];exact hi') hR hRl s3 (D0:=ds) (p0:=pushed) (fun s hs hr hf=>by
      obtain⟨e,he,he1,he2⟩:=(s2 s).1 hs
      have h0:=hf e he he2
      rw[he1] at h0
      rcases cr.ok.run n hmem with h3 | ⟨_,h3,_⟩
      ·exact h1 h3
      ·omega) r.length 0 ds pushed (by omega) T
     rw[show(lp (Z4 (ZaS g.edges (ZG left row) (ZD left row)) ((i:Int),ds,pushed) r) (0,ds,pushed))=_ from q1,bS]
     obtain⟨ds',p',r1,r2,r3,r4⟩:=ih (i+1) ds1 p1 (by omega) q2
     refine⟨ds',p',r1,r2,fun z hz=>r3 z (q3 z hz),fun z hz hz1 hz2 e he he1 her=>?_⟩
     rw[hdrop] at hz
     rcases List.mem_cons.1 hz with rfl | hz
     ·exact r3 _ (q4 e.dst (by rw[drop_zero];exact(s2 _).2 ⟨e,he,he1,rfl⟩) her)
     ·exact r4 z hz hz1 hz2 e he he1 her
    ·have e1:ZdV left row n=n:=by unfold ZdV;rw[if_neg h1,if_neg h2]
     rw[e1,show(n != -1)=true by simpa using h1,cT]
     obtain⟨ds',p',q1,q2,q3,q4⟩:=ih (i+1) ds pushed (by omega) T
     refine⟨ds',p',q1,q2,q3,fun z hz hz1 hz2=>?_⟩
     rw[hdrop] at hz
     rcases List.mem_cons.1 hz with rfl | hz
     ·exact absurd hz2 h2
     ·exact q4 z hz hz1 hz2
 obtain⟨ds',p',q1,q2,_,q4⟩:=loop row.length 0 ds [] (by omega) T0
 have hbase:∀n,(was g left row n∨n∈p')↔base g.edges (ZG left row) n:=fun n=>by
  have hlen:=ZbC row left
  constructor
  ·rintro ((h | ⟨h,h1⟩) | h)
   ·refine⟨⟨h.1.1,by rw[hlen];exact h.1.2⟩,?_,F.free hE cr.ok h.2.2.2⟩
    rw[F.tick_lf cr.ok h.1.1,if_neg h.2.2.1]
    exact h.2.1
   ·rcases Zpo h with h2 | ⟨h2,h3⟩
    ·exact absurd h2 h1
    ·rcases cr.ok.run n h2 with h4 | ⟨h4,h5,h6⟩
     ·exact absurd h4 h1
     ·refine⟨⟨h4.1,by rw[hlen];exact h4.2⟩,?_,F.free hE cr.ok h6⟩
      have:=(ZrH cr'.ok n).1
      omega
   ·have:=q2.new n h
    exact⟨this.1.1,this.1.2.1,this.1.2.2.2⟩
  ·rintro ⟨h1,h2,h3⟩
   have hN:isN left n:=⟨h1.1,by rw[<- hlen];exact h1.2⟩
   by_cases ho:n∈ZD left row
   ·exact .inl (.inr ⟨ho,by have:=h1.1;omega⟩)
   ·by_cases hf:ZjS g.edges left n
    ·have hle:=F.tick_le cr.ok h1.1
     refine .inl (.inl ⟨hN,by omega,fun hr=>ho (Zwe hr (by have:=h1.1;omega) (by omega)),hf⟩)
    ·right
     have:∃e∈g.edges,e.dst=n/\lf left e.src≠0:=Classical.byContradiction fun hcn=>hf fun e he hd=>Classical.byContradiction fun hx=>hcn ⟨e,he,hd,hx⟩
     obtain⟨e,he,hd,hx⟩:=this
     have hs:=hE e he
     have h0:=h3 e he hd
     have hr:e.src∈row:=Classical.byContradiction fun hr=>by
      rw[F.tick_lf cr.ok hs.1.1,if_neg hr] at h0
      exact hx h0
     have:=q4 e.src (by rw[drop_zero];exact hr) (by have:=hs.1.1;omega) h0 e he rfl (by rw[hd];exact⟨h1,h2,ho,h3⟩)
     rwa [hd] at this
 have hmore:=TI.more hG cr hall q2.nod q2.new
 refine⟨ds',done,?_,⟨⟨cr',hol,q2.pg.dl,G.tl,G.fl,q2.pg.ring,G.en,G.f0,G.st,fun i n ti hi hn hti=>(by
  rw[Zb6,List.getElem?_map] at hi
  cases hr:row[i]? with
  | none=>rw[hr] at hi;cases hi
  | some k=>
   rw[hr] at hi
   have hk:ZdV left row k=n:=Option.some.inj hi
   exact G.bz i k ti hr (fun e=>hn (by rw[<- hk,e];rfl)) hti),q2.pg.inv.congr hbase⟩,fun c hcm=>?_⟩,t2⟩
 ·unfold Zbz
  rw[Zjh (show row.length<=1073741824 by have:=G.ol;omega),bS,show(Zl.mk g.work g.edges)=g from rfl,t1,bS]
  dsimp only
  rw[Zky hc cr',bS,show(lp (Zak g.work g.edges row (ZD left row,ZG left row,done) (ZaS g.edges (ZG left row) (ZD left row))) (0,ds,([]:List Int)))=_ from q1]
  rfl
 ·rw[(q2.pg.be hcm).1]
  have:=q2.cnt c hcm
  omega
end
end
end Go.Proofs.YtgcfmiajkbbmeaaGreatDoor
