/- TeamRuns: part 4 of 6 of the proof. -/
import Derived.Test.YtgcfmiajkbbmeaaGreatZTeamRunsc
import Derived.KernelRfl
import Derived.Sort.AssemblyPlain
set_option maxRecDepth 100000
set_option maxHeartbeats 40000000
set_option linter.unusedVariables false
set_option linter.unusedSimpArgs false
namespace Go.Proofs.YtgcfmiajkbbmeaaGreat
open Go Go.Proofs.YtgcfmiajkbbmeaaGreatE
open Go.IntKind (u64 i64 u32 i32 u8)
noncomputable section
structure Zj where
 work:(List Int)
 edges:(List Zv)
 deriving DecidableEq
abbrev ZIj (x:Zj):D:=(D.agg [(D.list true (List.map Zs x.work)),(D.list true (List.map Zbs x.edges))])
structure Zq where
 on:(List Int)
 left:(List Int)
 deriving DecidableEq
structure Za where
 ring:(List Int)
 top:Int
 bottom:Int
 deriving DecidableEq
abbrev Zy (x:Za):D:=(D.agg [(D.list true (List.map Zs x.ring)),(Zs x.top),(Zs x.bottom)])
structure Zb where
 steal:Bool
 at_:Int
 top:Int
 bottom:Int
 got:Int
 end_:Int
 deriving DecidableEq
abbrev ZD (x:Zb):D:=(D.agg [(D.bool x.steal),(Zs x.at_),(Zs x.top),(Zs x.bottom),(Zs x.got),(Zs x.end_)])
structure Zu where
 crew:Zq
 deques:(List Za)
 takers:(List Zb)
 from_:(List Int)
 deriving DecidableEq
structure ZW where
 stealing:Bool
 demand:(List Int)
 state:Int
 gang:Zu
 deriving DecidableEq
structure Zlt where
 deriving DecidableEq
structure ZaI where
 a0:Int
 a1:Int
 deriving DecidableEq
abbrev Zgk (x:ZaI):D:=(D.agg [(Zs x.a0),(Zs x.a1)])
structure Zsd where
 deriving DecidableEq
structure Zaw where
 on:(List Int)
 done:(List Int)
 steps:Int
 deriving DecidableEq
def Zen:Option Bool:=some true
def ZiY (a:Zj):Option Bool:=bif (decide ((a.work.length:Int)<=70)) then bif (decide ((a.edges.length:Int)<=300)) then some true else some false else some false
def ZfE (a:Zj):Option Unit:=bif (Nat.ble (a.work.length) lim) then bif (Nat.ble (a.edges.length) lim) then some () else none else none
def Zci (a:Int):Option Bool:=bif (decide (a<0)) then some true else bif (decide (1000<a)) then some true else some false
def ZE (a:List Int) (b:(Int->Option Bool)) (s0:Int):Option (Int⊕(Int⊕Unit)):=bif (decide (s0<(a.length:Int))) then (Zt a s0).bind fun x1=>(b x1).bind fun x2=>bif x2 then some (.inr (.inl s0)) else some (.inl (w64 (s0+1))) else some (.inr (.inr ()))
def ZL (a:List Int) (b:(Int->Option Bool)):Option Int:=(lp (ZE a b) 0).bind fun r3=>match r3 with | (.inl r3)=>some r3 | (.inr r3)=>some (-1)
def ZF (a:List Int) (b:(Int->Option Bool)):Option Bool:=(ZL a b).bind fun x0=>bif (decide (0<=x0)) then some true else some false
def Zfe (a:Int) (b0:List Int):Option Bool:=bif (decide (0<=a)) then bif (decide (a<(b0.length:Int))) then some true else some false else some false
def ZaQ (a:List Zv) (b:Zv) (s0:Int):Option (Int⊕(Int⊕Unit)):=bif (decide (s0<(a.length:Int))) then (Zt a s0).bind fun x1=>bif ((b.src==x1.src)&&((b.dst==x1.dst)&&true)) then some (.inr (.inl s0)) else some (.inl (w64 (s0+1))) else some (.inr (.inr ()))
def Zcv (a:List Zv) (b:Zv):Option Int:=(lp (ZaQ a b) 0).bind fun r2=>match r2 with | (.inl r2)=>some r2 | (.inr r2)=>some (-1)
def ZaT (a:List Zv) (b:Zv):Option Bool:=(Zcv a b).bind fun x0=>bif (decide (0<=x0)) then some true else some false
def ZeQ (a:Zj) (s0:(List Int)×(List Bool)) (s1 s3:Int):Option (Int⊕(Unit⊕Unit)):=bif (decide (s3<(a.edges.length:Int))) then (Zt a.edges s3).bind fun x4=>bif (x4.dst==s1) then (Zt s0.2 x4.src).bind fun x5=>bif x5 then some (.inl (w64 (s3+1))) else some (.inr (.inl ())) else some (.inl (w64 (s3+1))) else some (.inr (.inr ()))
def Zdg (a:Zj) (s0:(List Int)×(List Bool)) (s1:Int):Option (Int⊕(((List Int)×(List Bool))⊕Unit)):=bif (decide (s1<(a.work.length:Int))) then (Zt s0.2 s1).bind fun x2=>bif x2 then some (.inl (w64 (s1+1))) else (lp (ZeQ a s0 s1) 0).bind fun r6=>match r6 with | (.inl r6)=>some (.inl (w64 (s1+1))) | (.inr r6)=>bif (Nat.ble (s0.1.length+1) lim) then some (.inr (.inl ((s0.1++[s1]),(List.set s0.2 s1.toNat true)))) else none else some (.inr (.inr ()))
def ZeR (a:Zj) (s0:(List Int)×(List Bool)):Option (((List Int)×(List Bool))⊕((List Int)⊕(List Int))):=bif (decide ((s0.1.length:Int)<(a.work.length:Int))) then (lp (Zdg a s0) 0).bind fun r7=>match r7 with | (.inl r7)=>some (.inl (r7.1,r7.2)) | (.inr r7)=>some (.inr (.inl s0.1)) else some (.inr (.inr s0.1))
def ZfB (a:Zj):Option ((List Int)×Bool):=bif (decide (0<=(a.work.length:Int))&&decide ((a.work.length:Int)<=lim)&&decide ((a.work.length:Int)==(a.work.length:Int))) then (lp (ZeR a) (([]:List Int),(List.replicate (a.work.length:Int).toNat (false:Bool)))).bind fun r8=>match r8 with | (.inl r8)=>some (([]:List Int),false) | (.inr r8)=>some (r8,true) else none
def ZdM (a:Zj) (s1:Int):Option (Int⊕(Unit⊕Unit)):=bif (decide (s1<(a.edges.length:Int))) then (Zt a.edges s1).bind fun x2=>(Zfe x2.src a.work).bind fun x3=>bif x3 then (Zfe x2.dst a.work).bind fun x4=>bif x4 then bif (x2.src==x2.dst) then some (.inr (.inl ())) else bif (decide (0<=s1)) then bif (Nat.ble s1.toNat (a.edges.length)) then (ZaT (List.take s1.toNat a.edges) x2).bind fun x5=>bif x5 then some (.inr (.inl ())) else some (.inl (w64 (s1+1))) else none else none else some (.inr (.inl ())) else some (.inr (.inl ())) else some (.inr (.inr ()))
def ZcX (a:Zj):Option Int:=bif (decide (64<(a.work.length:Int))) then some 40 else bif (decide (256<(a.edges.length:Int))) then some 40 else (ZF a.work (fun z0=>Zci z0)).bind fun x0=>bif x0 then some 41 else (lp (ZdM a) 0).bind fun r6=>match r6 with | (.inl r6)=>some 42 | (.inr r6)=>(ZfB a).bind fun x7=>bif x7.2 then some 0 else some 43
def Zez (a:Zj) (s1:Int×Int):Option ((Int×Int)⊕Int):=bif (decide (s1.2<(a.work.length:Int))) then (Zt a.work s1.2).bind fun x2=>some (.inl ((w64 (s1.1+x2)),(w64 (s1.2+1)))) else some (.inr s1.1)
def ZfD (a:Zj):Option Int:=(ZcX a).bind fun x0=>bif (x0==0) then (lp (Zez a) (0,0)).bind fun r3=>some r3 else some 0
def Zf6 (a:Zj) (b:List Int):Option Bool:=(ZiY a).bind fun x0=>bif x0 then bif (decide ((b.length:Int)<=70)) then (ZfE a).bind fun x1=>(ZfD a).bind fun x2=>bif (decide (x2<=300)) then some true else some false else some false else some false
def ZeV (a:List Int):Option Unit:=bif (Nat.ble (a.length) lim) then some () else none
def ZbG (a:Int):Option Bool:=bif (decide (a<1)) then some true else bif (decide (1000<a)) then some true else some false
def ZhW (a:Zj) (b:List Int):Option Bool:=bif ((b.length:Int)==(a.work.length:Int)) then (ZF b (fun z0=>ZbG z0)).bind fun x0=>bif x0 then some false else (ZF a.work (fun z0=>ZbG z0)).bind fun x1=>bif x1 then some false else some true else some false
def ZeZ (a:Bool):Option (Unit⊕Unit):=bif a then some (.inl ()) else some (.inr ())
def Zdl (a:Zj) (b:List Int) (s0:Int×(List Int)):Option ((Int×(List Int))⊕(List Int)):=bif (decide (s0.1<(a.work.length:Int))) then (Zt a.work s0.1).bind fun x1=>(Zt b s0.1).bind fun x2=>bif (Nat.ble (s0.2.length+1) lim) then some (.inl ((w64 (s0.1+1)),(s0.2++[(bif decide (x1<x2) then x1 else x2)]))) else none else some (.inr s0.2)
def Zg4 (a:Zj) (b:List Int):Option (List Int):=(lp (Zdl a b) (0,([]:List Int))).bind fun r3=>some r3
def ZbY (a:Int):Option Bool:=bif (decide (a<1)) then some true else bif (decide (1000<a)) then some true else some false
def ZgO (a:Zj) (b:List Int) (c:Int):Option (Bool×Int):=(ZcX a).bind fun x0=>bif (x0 != 0) then some (false,x0) else bif ((b.length:Int)==(a.work.length:Int)) then (ZF b (fun z0=>ZbY z0)).bind fun x1=>bif x1 then some (false,0) else bif (decide (1<=c)) then bif (decide (c<=8)) then some (true,0) else some (false,0) else some (false,0) else some (false,0)
def Zdt (a:List Int) (b0:Int):Option Bool:=bif ((a.length:Int) != b0) then some true else some false
def ZcL (a:(List (List Int))) (b:((List Int)->Option Bool)) (s0:Int):Option (Int⊕(Int⊕Unit)):=bif (decide (s0<(a.length:Int))) then (Zt a s0).bind fun x1=>(b x1).bind fun x2=>bif x2 then some (.inr (.inl s0)) else some (.inl (w64 (s0+1))) else some (.inr (.inr ()))
def Zbz (a:(List (List Int))) (b:((List Int)->Option Bool)):Option Int:=(lp (ZcL a b) 0).bind fun r3=>match r3 with | (.inl r3)=>some r3 | (.inr r3)=>some (-1)
def Zav (a:(List (List Int))) (b:((List Int)->Option Bool)):Option Bool:=(Zbz a b).bind fun x0=>bif (decide (0<=x0)) then some true else some false
def Zbw (a:List Int) (s0:Int×(List Int)):Option ((Int×(List Int))⊕(List Int)):=bif (decide (s0.1<(a.length:Int))) then (Zt s0.2 s0.1).bind fun x1=>some (.inl ((w64 (s0.1+1)),(List.set s0.2 s0.1.toNat (-1)))) else some (.inr s0.2)
def ZgI (a:List Int):Option (List Int):=bif (decide (0<=(a.length:Int))&&decide ((a.length:Int)<=lim)&&decide ((a.length:Int)==(a.length:Int))) then bif (decide (0<=(a.length:Int))&&decide ((a.length:Int)<=lim)&&decide ((a.length:Int)==(a.length:Int))) then bif (decide (0<=(a.length:Int))&&decide ((a.length:Int)<=lim)&&decide ((a.length:Int)==(a.length:Int))) then (lp (Zbw a) (0,(List.replicate (a.length:Int).toNat (0:Int)))).bind fun r2=>some r2 else none else none else none
def Zbb (a:List Int) (b s0:Int):Option (Int⊕(Int⊕Unit)):=bif (decide (s0<(a.length:Int))) then (Zt a s0).bind fun x1=>bif (b==x1) then some (.inr (.inl s0)) else some (.inl (w64 (s0+1))) else some (.inr (.inr ()))
def Zc7 (a:List Int) (b:Int):Option Int:=(lp (Zbb a b) 0).bind fun r2=>match r2 with | (.inl r2)=>some r2 | (.inr r2)=>some (-1)
def ZR (a:List Int) (b:Int):Option Bool:=(Zc7 a b).bind fun x0=>bif (decide (0<=x0)) then some true else some false
def Zi5 (a3:List Int) (b c:Int):Option Bool:=(Zt a3 b).bind fun x0=>bif (decide (0<=x0)) then bif (decide (x0<=c)) then some true else some false else some false
def Zb4 (a:Zv) (b0:Int) (c3:List Int) (d0:Int):Option Bool:=bif (a.dst==b0) then (Zi5 c3 a.src d0).bind fun x0=>bif x0 then some false else some true else some false
def Z4 (a:List Zv) (b:(Zv->Option Bool)) (s0:Int):Option (Int⊕(Int⊕Unit)):=bif (decide (s0<(a.length:Int))) then (Zt a s0).bind fun x1=>(b x1).bind fun x2=>bif x2 then some (.inr (.inl s0)) else some (.inl (w64 (s0+1))) else some (.inr (.inr ()))
def ZaL (a:List Zv) (b:(Zv->Option Bool)):Option Int:=(lp (Z4 a b) 0).bind fun r3=>match r3 with | (.inl r3)=>some r3 | (.inr r3)=>some (-1)
def ZU (a:List Zv) (b:(Zv->Option Bool)):Option Bool:=(ZaL a b).bind fun x0=>bif (decide (0<=x0)) then some true else some false
def ZfZ (a3:List Int) (b:Zj) (c d:Int):Option Bool:=(ZU b.edges (fun z0=>Zb4 z0 c a3 d)).bind fun x0=>bif x0 then some false else some true
def Zke (a0:List Int) (a1:List Int) (a2:List ZaI) (a3:List Int) (b:Zj) (c:List Int) (d e:Int):Option Int:=(Zt c e).bind fun x0=>bif (decide (x0<(-1))) then some 101 else bif (decide ((a0.length:Int)<=x0)) then some 101 else bif (decide (0<=e)) then bif (Nat.ble e.toNat (c.length)) then (ZR (List.take e.toNat c) x0).bind fun x1=>bif x1 then some 102 else (Zt a1 x0).bind fun x2=>(Zt a0 x0).bind fun x3=>bif (decide (x3<=x2)) then some 105 else bif (decide (0<x2)) then (Zt a2 x0).bind fun x4=>bif (!((x4.a0==(w64 (d-1)))&&((x4.a1==e)&&true))) then some 104 else bif (x2==0) then (ZfZ a3 b x0 d).bind fun x5=>bif x5 then some 0 else some 103 else some 0 else bif (x2==0) then (ZfZ a3 b x0 d).bind fun x6=>bif x6 then some 0 else some 103 else some 0 else none else none
def ZoL (b:Int) (c:List Int):Option Unit:=some ()
def ZjK (b c d:Int) (mA:List Int) (mB:List Int) (mC:List ZaI) (mE:List Int):Option ((List Int)×(List Int)):=(Zt mB b).bind fun x0=>(Zt mC b).bind fun x1=>(Zt (List.set mB b.toNat (w64 (x0+1))) b).bind fun x2=>(Zt mA b).bind fun x3=>bif (x2==x3) then (Zt mE b).bind fun x4=>some ((List.set mB b.toNat (w64 (x0+1))),(List.set mE b.toNat (w64 (c+1)))) else some ((List.set mB b.toNat (w64 (x0+1))),mE)
def Zlg (a:Zj) (b:List Int) (s3:Int×Int×(List Int)×(List ZaI)×(List Int)) (x4:List Int) (s5:Int×Int):Option ((Int×Int)⊕(Int⊕Int)):=bif (decide (s5.2<(x4.length:Int))) then (Zt x4 s5.2).bind fun x6=>bif (x6==(-1)) then some (.inl (s5.1,(w64 (s5.2+1)))) else (Zke b s3.2.2.1 s3.2.2.2.1 s3.2.2.2.2 a x4 s3.2.1 s5.2).bind fun x7=>bif (x7 != 0) then some (.inr (.inl x7)) else some (.inl (x7,(w64 (s5.2+1)))) else some (.inr (.inr s5.1))
def Zld (b:List Int) (s3:Int×Int×(List Int)×(List ZaI)×(List Int)) (x4:List Int) (s10:Int×(List Int)×(List ZaI)×(List Int)):Option ((Int×(List Int)×(List ZaI)×(List Int))⊕((List Int)×(List ZaI)×(List Int))):=bif (decide (s10.1<(x4.length:Int))) then (Zt x4 s10.1).bind fun x11=>bif (x11 != (-1)) then (ZjK x11 s3.2.1 s10.1 b s10.2.1 s10.2.2.1 s10.2.2.2).bind fun x12=>some (.inl ((w64 (s10.1+1)),x12.1,(List.set s10.2.2.1 x11.toNat (ZaI.mk s3.2.1 s10.1)),x12.2)) else some (.inl ((w64 (s10.1+1)),s10.2.1,s10.2.2.1,s10.2.2.2)) else some (.inr (s10.2.1,s10.2.2.1,s10.2.2.2))
def Zk9 (a:Zj) (b:List Int) (d:(List (List Int))) (s3:Int×Int×(List Int)×(List ZaI)×(List Int)):Option ((Int×Int×(List Int)×(List ZaI)×(List Int))⊕(Int×(List Int)×(List ZaI)×(List Int))):=bif (decide (s3.2.1<(d.length:Int))) then (Zt d s3.2.1).bind fun x4=>(lp (Zlg a b s3 x4) (s3.1,0)).bind fun r8=>match r8 with | (.inl r8)=>some (.inr (r8,s3.2.2.1,s3.2.2.2.1,s3.2.2.2.2)) | (.inr r8)=>(ZoL s3.2.1 x4).bind fun x9=>(lp (Zld b s3 x4) (0,s3.2.2.1,s3.2.2.2.1,s3.2.2.2.2)).bind fun r13=>some (.inl (r8,(w64 (s3.2.1+1)),r13.1,r13.2.1,r13.2.2)) else some (.inr (s3.1,s3.2.2.1,s3.2.2.2.1,s3.2.2.2.2))
def Zk2 (a:Zj) (b:List Int) (c:Int) (d:(List (List Int))):Option (Int⊕(Int×(List Int)×(List ZaI)×(List Int))):=(ZgO a b c).bind fun x0=>bif x0.1 then bif (x0.2 != 0) then some (.inl x0.2) else bif (decide (4096<(d.length:Int))) then some (.inl 100) else (Zav d (fun z0=>Zdt z0 c)).bind fun x1=>bif x1 then some (.inl 100) else (ZgI b).bind fun x2=>(lp (Zk9 a b d) (x0.2,0,(List.replicate (b.length:Int).toNat (0:Int)),(List.replicate (b.length:Int).toNat ((ZaI.mk 0 0):ZaI)),x2)).bind fun r14=>some (.inr (r14.1,r14.2.1,r14.2.2.1,r14.2.2.2)) else bif (x0.2 != 0) then some (.inl x0.2) else some (.inl 100)
def ZgR (a:Zj) (b:List Int) (c:Int) (d:(List (List Int))):Option Int:=(Zk2 a b c d).bind fun x0=>match x0 with | (.inl x0)=>some x0 | (.inr x0)=>some x0.1
def Zo (a:List Int):Option Unit:=bif (Nat.ble (a.length) lim) then some () else none
def Zej (c:Int) (s2:Int×(List Int)):Option ((Int×(List Int))⊕(List Int)):=bif (decide (s2.1<c)) then bif (Nat.ble (s2.2.length+1) lim) then some (.inl ((w64 (s2.1+1)),(s2.2++[(-1)]))) else none else some (.inr s2.2)
def ZgE (a:Zj) (b:List Int) (c:Int):Option (Int⊕(List Int)):=(ZgR a b c ([]:List (List Int))).bind fun x0=>bif (x0 != 0) then some (.inl x0) else (Zo b).bind fun x1=>(lp (Zej c) (0,([]:List Int))).bind fun r3=>some (.inr r3)
def Zg0 (a:Int):Option Int:=bif (decide (a<0)) then some 10 else bif (decide (1099511627775<a)) then some 11 else some 0
abbrev oc0 (a:Int):Int:=(u64.wrap (Zlm a &&& Zlm 6148914691236517205).toNat)
abbrev oc1 (a:Int):Int:=(u64.wrap (Zlm (Int.fdiv a (2 ^ 1)) &&& Zlm 6148914691236517205).toNat)
abbrev oc2 (a:Int):Int:=(u64.wrap ((oc1 a)+(oc0 a)))
abbrev oc3 (a:Int):Int:=(Int.fdiv (oc2 a) (2 ^ 2))
abbrev oc4 (a:Int):Int:=(u64.wrap (Zlm (oc3 a) &&& Zlm 3689348814741910323).toNat)
abbrev oc5 (a:Int):Int:=(u64.wrap (Zlm (oc2 a) &&& Zlm 3689348814741910323).toNat)
abbrev oc6 (a:Int):Int:=(u64.wrap ((oc4 a)+(oc5 a)))
abbrev oc7 (a:Int):Int:=(Int.fdiv (oc6 a) (2 ^ 4))
abbrev oc8 (a:Int):Int:=(u64.wrap ((oc7 a)+(oc6 a)))
abbrev oc9 (a:Int):Int:=(u64.wrap (Zlm (oc8 a) &&& Zlm 1085102592571150095).toNat)
abbrev ZJo (a:Int):Int:=(Int.fdiv (oc9 a) (2 ^ 8))
abbrev ZHt (a:Int):Int:=(u64.wrap ((oc9 a)+(ZJo a)))
abbrev ZI7 (a:Int):Int:=(Int.fdiv (ZHt a) (2 ^ 16))
abbrev ZG8 (a:Int):Int:=(u64.wrap ((ZHt a)+(ZI7 a)))
def ZbU (a:Int):Option Int:=some (i64.wrap (ZEl (w64 (u64.wrap ((ZG8 a)+(Int.fdiv (ZG8 a) (2 ^ 32))))) &&& ZEl 127).toNat)
def ZcE (a:Int):Option Int:=(ZbU a).bind fun x0=>some x0
def Zb9 (a:Int):Option Unit:=bif (a==0) then some () else some ()
def Zbq (a:Int):Option Unit:=(Zb9 a).bind fun x0=>some ()
def Zh2 (a:Int):Option (Unit⊕Unit):=(Zg0 a).bind fun x0=>bif (x0 != 0) then some (.inl ()) else (ZcE (u64.wrap a)).bind fun x1=>bif (x1 != 1) then some (.inl ()) else (Zbq (u64.wrap a)).bind fun x2=>some (.inr ())
def Zjn (a:Int):Option (Za×Int):=(Zh2 a).bind fun x0=>match x0 with | (.inl x0)=>some ((Za.mk ([]:List Int) 0 0),120) | (.inr x0)=>bif (decide (64<a)) then some ((Za.mk ([]:List Int) 0 0),120) else bif (decide (0<=a)&&decide (a<=lim)&&decide (a==a)) then some ((Za.mk (List.replicate a.toNat (0:Int)) 0 0),0) else none
def Zcw (a:Int):Option Bool:=bif (decide (a<0)) then some true else bif (decide (1000<a)) then some true else some false
def ZdP (a:Zq) (b:Int):Option Bool:=(Zt a.left b).bind fun x0=>bif (x0==0) then some true else some false
def Zek (a:Zv) (b0:Int) (c0:List Int) (c1:List Int):Option Bool:=bif (a.dst==b0) then (ZdP (Zq.mk c0 c1) a.src).bind fun x0=>bif x0 then some false else some true else some false
def ZfF (a:Zj) (b:Zq) (c:Int):Option Bool:=(ZU a.edges (fun z0=>Zek z0 c b.on b.left)).bind fun x0=>bif x0 then some false else some true
def Zea (a:Zj) (b:Zq) (s1:Int):Option (Int⊕(Unit⊕Unit)):=bif (decide (s1<(b.on.length:Int))) then (Zt b.on s1).bind fun x2=>bif (x2==(-1)) then some (.inl (w64 (s1+1))) else bif (decide (x2<0)) then some (.inr (.inl ())) else bif (decide ((b.left.length:Int)<=x2)) then some (.inr (.inl ())) else (ZdP b x2).bind fun x3=>bif x3 then some (.inr (.inl ())) else bif (decide (0<=s1)) then bif (Nat.ble s1.toNat (b.on.length)) then (ZR (List.take s1.toNat b.on) x2).bind fun x4=>bif x4 then some (.inr (.inl ())) else (ZfF a b x2).bind fun x5=>bif x5 then some (.inl (w64 (s1+1))) else some (.inr (.inl ())) else none else none else some (.inr (.inr ()))
def Zeh (a:Zj) (b:Zq) (s7:Int):Option (Int⊕(Unit⊕Unit)):=bif (decide (s7<(b.left.length:Int))) then (ZdP b s7).bind fun x8=>bif x8 then (ZfF a b s7).bind fun x9=>bif x9 then some (.inl (w64 (s7+1))) else some (.inr (.inl ())) else some (.inl (w64 (s7+1))) else some (.inr (.inr ()))
def ZhN (a:Zj) (b:Zq):Option Bool:=bif (decide ((b.on.length:Int)<1)) then some false else bif (decide (8<(b.on.length:Int))) then some false else bif ((b.left.length:Int) != (a.work.length:Int)) then some false else (ZF b.left (fun z0=>Zcw z0)).bind fun x0=>bif x0 then some false else (lp (Zea a b) 0).bind fun r6=>match r6 with | (.inl r6)=>some false | (.inr r6)=>(lp (Zeh a b) 0).bind fun r10=>match r10 with | (.inl r10)=>some false | (.inr r10)=>some true
def Zd2 (a:Zj) (b:Zq):Option Int:=(ZcX a).bind fun x0=>bif (x0==0) then (ZhN a b).bind fun x1=>bif x1 then some x0 else some 110 else some x0
def Zd3 (a:Zj) (b:Zq) (s0:Int×(List Int)):Option ((Int×(List Int))⊕(List Int)):=bif (decide (s0.1<(b.left.length:Int))) then (ZdP b s0.1).bind fun x1=>bif x1 then some (.inl ((w64 (s0.1+1)),s0.2)) else (ZR b.on s0.1).bind fun x2=>bif x2 then some (.inl ((w64 (s0.1+1)),s0.2)) else (ZfF a b s0.1).bind fun x3=>bif x3 then bif (Nat.ble (s0.2.length+1) lim) then some (.inl ((w64 (s0.1+1)),(s0.2++[s0.1]))) else none else some (.inl ((w64 (s0.1+1)),s0.2)) else some (.inr s0.2)
def ZfY (a:Zj) (b:Zq):Option (List Int):=(lp (Zd3 a b) (0,([]:List Int))).bind fun r4=>some r4
def Zc1 (a:Zj) (b:Zq):Option (List Int):=(Zd2 a b).bind fun x0=>bif (x0 != 0) then some ([]:List Int) else (ZfY a b).bind fun x1=>some x1
def ZaG (a:Za):Option Int:=(Zh2 (a.ring.length:Int)).bind fun x0=>match x0 with | (.inl x0)=>some 120 | (.inr x0)=>bif (decide (64<(a.ring.length:Int))) then some 120 else (Zg0 a.top).bind fun x1=>bif (x1 != 0) then some 120 else bif (decide (a.bottom<(w64 (a.top-1)))) then some 120 else bif (decide ((w64 (a.top+(a.ring.length:Int)))<a.bottom)) then some 120 else some 0
def Zg7 (a:Za):Option Unit:=(Zo a.ring).bind fun x0=>some ()
def Zc3 (a:Za) (b:Int):Option Int:=bif ((a.ring.length:Int)==0) then none else some (Int.tmod (bif decide (b<0) then 0 else b) (a.ring.length:Int))
def ZbD (a:Za) (b:Int):Option (Za×Int):=(ZaG a).bind fun x0=>bif (x0 != 0) then some ((Za.mk ([]:List Int) 0 0),x0) else bif (decide (a.bottom<a.top)) then some ((Za.mk ([]:List Int) 0 0),121) else bif ((w64 (a.bottom-a.top))==(a.ring.length:Int)) then some ((Za.mk ([]:List Int) 0 0),121) else (Zg7 a).bind fun x1=>(Zc3 a a.bottom).bind fun x2=>(Zt a.ring x2).bind fun x3=>some ((Za.mk (List.set a.ring x2.toNat b) a.top (w64 (a.bottom+1))),0)
def Zax (b c:Int) (mE:List Za):Option ((List Za)⊕(List Za)):=(Zt mE b).bind fun x0=>(ZbD x0 c).bind fun x1=>bif (x1.2==0) then bif (x1.2==0) then some (.inl (List.set mE b.toNat x1.1)) else some (.inr (List.set mE b.toNat x1.1)) else bif (x1.2==0) then some (.inl mE) else some (.inr mE)
def ZaX (c:Int) (s1:Int×(List Za)):Option ((Int×(List Za))⊕(List Za)):=bif (decide (s1.1<c)) then (Zjn 64).bind fun x2=>bif (Nat.ble (s1.2.length+1) lim) then some (.inl ((w64 (s1.1+1)),(s1.2++[x2.1]))) else none else some (.inr s1.2)
def Zbj (c:Int) (x4:List Int) (s5:Int×(List Za)):Option ((Int×(List Za))⊕(List Za)):=bif (decide (s5.1<(x4.length:Int))) then (Zt x4 s5.1).bind fun x6=>bif (c==0) then none else (Zax (Int.tmod x6 c) x6 s5.2).bind fun x7=>match x7 with | (.inl x7)=>some (.inl ((w64 (s5.1+1)),x7)) | (.inr x7)=>some (.inl ((w64 (s5.1+1)),x7)) else some (.inr s5.2)
def ZfJ (a:Zj) (b:List Int) (c:Int):Option (Int⊕((List Int)×(List Za))):=(ZgE a b c).bind fun x0=>match x0 with | (.inl x0)=>bif (x0 != 0) then some (.inl x0) else none | (.inr x0)=>bif (decide (0<=c)&&decide (c<=lim)&&decide (c==c)) then bif (decide (0<=c)&&decide (c<=lim)&&decide (c==c)) then (lp (ZaX c) (0,([]:List Za))).bind fun r3=>(Zc1 a (Zq.mk x0 b)).bind fun x4=>(lp (Zbj c x4) (0,r3)).bind fun r8=>some (.inr (x0,r8)) else none else none
def Zgb (a:Zlt) (b:Zj) (c:List Int) (d:Int):Option (Zu×Int):=(ZfJ b c d).bind fun x0=>match x0 with | (.inl x0)=>some ((Zu.mk (Zq.mk ([]:List Int) ([]:List Int)) ([]:List Za) ([]:List Zb) ([]:List Int)),x0) | (.inr x0)=>some ((Zu.mk (Zq.mk x0.1 c) x0.2 (List.replicate d.toNat ((Zb.mk false 0 0 0 0 0):Zb)) (List.replicate d.toNat (0:Int))),0)
def Zbn (a:Zj) (b:List Int) (c:List Int) (s0:Int×Int):Option ((Int×Int)⊕(Int⊕Int)):=bif (decide (s0.2<(c.length:Int))) then (Zt c s0.2).bind fun x1=>bif (decide (0<x1)) then bif (s0.1==2) then some (.inl (1,(w64 (s0.2+1)))) else bif (x1==0) then (Zt b s0.2).bind fun x2=>(Zt a.work s0.2).bind fun x3=>bif (decide (x3<x2)) then some (.inr (.inl s0.1)) else some (.inl (s0.1,(w64 (s0.2+1)))) else some (.inl (s0.1,(w64 (s0.2+1)))) else bif (x1==0) then (Zt b s0.2).bind fun x4=>(Zt a.work s0.2).bind fun x5=>bif (decide (x5<x4)) then some (.inr (.inl s0.1)) else some (.inl (s0.1,(w64 (s0.2+1)))) else some (.inl (s0.1,(w64 (s0.2+1)))) else some (.inr (.inr s0.1))
def Zcb (a:Zj) (b:List Int) (c:List Int):Option Int:=(lp (Zbn a b c) (2,0)).bind fun r6=>match r6 with | (.inl r6)=>some 3 | (.inr r6)=>some r6
def Zgp (a:Zsd) (b:Zj) (c:List Int) (d:Int):Option (Zu×Int):=(ZgE b c d).bind fun x0=>match x0 with | (.inl x0)=>some ((Zu.mk (Zq.mk ([]:List Int) ([]:List Int)) ([]:List Za) ([]:List Zb) ([]:List Int)),x0) | (.inr x0)=>some ((Zu.mk (Zq.mk x0 c) ([]:List Za) ([]:List Zb) ([]:List Int)),0)
def ZeI (a:Zj) (b:List Int) (c:Int) (d:Bool):Option (ZW×Int):=(ZcX a).bind fun x0=>bif (x0 != 0) then some ((ZW.mk false ([]:List Int) 0 (Zu.mk (Zq.mk ([]:List Int) ([]:List Int)) ([]:List Za) ([]:List Zb) ([]:List Int))),x0) else (ZhW a b).bind fun x1=>bif x1 then bif (decide (c<1)) then some ((ZW.mk false ([]:List Int) 0 (Zu.mk (Zq.mk ([]:List Int) ([]:List Int)) ([]:List Za) ([]:List Zb) ([]:List Int))),190) else bif (decide (8<c)) then some ((ZW.mk false ([]:List Int) 0 (Zu.mk (Zq.mk ([]:List Int) ([]:List Int)) ([]:List Za) ([]:List Zb) ([]:List Int))),190) else (ZeZ d).bind fun x2=>match x2 with | (.inl x2)=>(Zg4 a b).bind fun x3=>(Zgb (Zlt.mk ) a x3 c).bind fun x4=>bif (x4.2 != 0) then some ((ZW.mk false ([]:List Int) 0 (Zu.mk (Zq.mk ([]:List Int) ([]:List Int)) ([]:List Za) ([]:List Zb) ([]:List Int))),x4.2) else (Zo b).bind fun x5=>(Zcb a b x4.1.crew.left).bind fun x6=>some ((ZW.mk d b x6 x4.1),0) | (.inr x2)=>(Zg4 a b).bind fun x7=>(Zgp (Zsd.mk ) a x7 c).bind fun x8=>bif (x8.2 != 0) then some ((ZW.mk false ([]:List Int) 0 (Zu.mk (Zq.mk ([]:List Int) ([]:List Int)) ([]:List Za) ([]:List Zb) ([]:List Int))),x8.2) else (Zo b).bind fun x9=>(Zcb a b x8.1.crew.left).bind fun x10=>some ((ZW.mk d b x10 x8.1),0) else some ((ZW.mk false ([]:List Int) 0 (Zu.mk (Zq.mk ([]:List Int) ([]:List Int)) ([]:List Za) ([]:List Zb) ([]:List Int))),190)
def Zdn (a:Zu) (s0:Int):Option (Int⊕(Unit⊕Unit)):=bif (decide (s0<(a.deques.length:Int))) then (Zt a.deques s0).bind fun x1=>(Zt a.takers s0).bind fun x2=>(Zt a.from_ s0).bind fun x3=>(ZaG x1).bind fun x4=>bif (x4 != 0) then some (.inr (.inl ())) else bif ((x1.ring.length:Int) != 64) then some (.inr (.inl ())) else bif (x2.end_ != 0) then some (.inr (.inl ())) else bif (decide (x3<0)) then some (.inr (.inl ())) else bif (decide ((a.crew.on.length:Int)<=x3)) then some (.inr (.inl ())) else bif x2.steal then bif (x3 != 0) then (Zt a.crew.on s0).bind fun x5=>bif (x5 != (-1)) then bif (!((x2.steal==false)&&((x2.at_==0)&&((x2.top==0)&&((x2.bottom==0)&&((x2.got==0)&&((x2.end_==0)&&true))))))) then some (.inr (.inl ())) else bif (x3 != 0) then some (.inr (.inl ())) else some (.inl (w64 (s0+1))) else some (.inl (w64 (s0+1))) else some (.inr (.inl ())) else bif (x3 != 0) then some (.inr (.inl ())) else (Zt a.crew.on s0).bind fun x6=>bif (x6 != (-1)) then bif (!((x2.steal==false)&&((x2.at_==0)&&((x2.top==0)&&((x2.bottom==0)&&((x2.got==0)&&((x2.end_==0)&&true))))))) then some (.inr (.inl ())) else bif (x3 != 0) then some (.inr (.inl ())) else some (.inl (w64 (s0+1))) else some (.inl (w64 (s0+1))) else some (.inr (.inr ()))
def ZgJ (a:Zu):Option Bool:=bif ((a.deques.length:Int) != (a.crew.on.length:Int)) then some false else bif ((a.takers.length:Int) != (a.crew.on.length:Int)) then some false else bif ((a.from_.length:Int) != (a.crew.on.length:Int)) then some false else (lp (Zdn a) 0).bind fun r7=>match r7 with | (.inl r7)=>some false | (.inr r7)=>some true
def Zfg (a:Zj) (b:Zu):Option Int:=(Zd2 a b.crew).bind fun x0=>bif (x0==0) then (ZgJ b).bind fun x1=>bif x1 then some x0 else some 130 else some x0
def Za3 (a:List Zb):Option Unit:=bif (Nat.blt 0 (a.length)) then bif (Nat.ble (a.length) lim) then some () else none else none
def Za0 (a:List Za):Option Unit:=bif (Nat.blt 0 (a.length)) then bif (Nat.ble (a.length) lim) then some () else none else none
def ZdH (a:Zu) (s5:Int×(List Za)):Option ((Int×(List Za))⊕(List Za)):=bif (decide (s5.1<(a.deques.length:Int))) then (Zt s5.2 s5.1).bind fun x6=>(Zo x6.ring).bind fun x7=>some (.inl ((w64 (s5.1+1)),(List.set s5.2 s5.1.toNat x6))) else some (.inr s5.2)
def Zg6 (a:Zu):Option (List Za):=(Zo a.crew.on).bind fun x0=>(Zo a.crew.left).bind fun x1=>(Za3 a.takers).bind fun x2=>(Zo a.from_).bind fun x3=>(Za0 a.deques).bind fun x4=>(lp (ZdH a) (0,a.deques)).bind fun r8=>some r8
def ZaD (a:Za):Option Bool:=bif (decide (a.top<a.bottom)) then some true else some false
def Zal (a:List Za) (b:(Za->Option Bool)) (s0:Int):Option (Int⊕(Int⊕Unit)):=bif (decide (s0<(a.length:Int))) then (Zt a s0).bind fun x1=>(b x1).bind fun x2=>bif x2 then some (.inr (.inl s0)) else some (.inl (w64 (s0+1))) else some (.inr (.inr ()))
def Zbg (a:List Za) (b:(Za->Option Bool)):Option Int:=(lp (Zal a b) 0).bind fun r3=>match r3 with | (.inl r3)=>some r3 | (.inr r3)=>some (-1)
def Zai (a:List Za) (b:(Za->Option Bool)):Option Bool:=(Zbg a b).bind fun x0=>bif (decide (0<=x0)) then some true else some false
def Zbu (a0:List Int) (s1:Int×(List Int)):Option ((Int×(List Int))⊕(List Int)):=bif (decide (s1.1<(a0.length:Int))) then (Zt a0 s1.1).bind fun x2=>bif (x2==(-1)) then bif (Nat.ble (s1.2.length+1) lim) then some (.inl ((w64 (s1.1+1)),(s1.2++[s1.1]))) else none else some (.inl ((w64 (s1.1+1)),s1.2)) else some (.inr s1.2)
def Za9 (a0:List Int) (a3:List Zb) (s4:Int×(List Int)):Option ((Int×(List Int))⊕(List Int)):=bif (decide (s4.1<(a0.length:Int))) then (Zt a0 s4.1).bind fun x5=>bif (x5==(-1)) then (Zt a3 s4.1).bind fun x6=>bif (x6.at_ != 0) then bif (Nat.ble (s4.2.length+1) lim) then some (.inl ((w64 (s4.1+1)),(s4.2++[s4.1]))) else none else some (.inl ((w64 (s4.1+1)),s4.2)) else some (.inl ((w64 (s4.1+1)),s4.2)) else some (.inr s4.2)
def Zcx (a0:List Int) (a2:List Za) (a3:List Zb):Option (List Int):=(Zai a2 (fun z0=>ZaD z0)).bind fun x0=>bif x0 then (lp (Zbu a0) (0,([]:List Int))).bind fun r3=>some r3 else (lp (Za9 a0 a3) (0,([]:List Int))).bind fun r7=>some r7
def ZaP (a b7:Int):Option Bool:=bif (decide (b7<a)) then some true else some false
def ZaS (a7:Int) (b:List Int) (c:List Int) (d:Int):Option Int:=bif (decide (d<(c.length:Int))) then (Zt c d).bind fun x0=>bif ((b.length:Int)==0) then none else (Zt b (Int.tmod (bif decide (x0<0) then 0 else x0) (b.length:Int))).bind fun x1=>some x1 else (ZL b (fun z0=>ZaP z0 a7)).bind fun x2=>(Zt b (bif decide (x2<0) then 0 else x2)).bind fun x3=>some x3
def ZcA (a:Int):Option Bool:=bif (decide (a<(-1))) then some true else bif (decide (1099511627775<a)) then some true else some false
def ZhE (a:Zb):Option Bool:=bif a.steal then bif (a.end_==0) then bif (decide (0<=a.at_)) then bif (decide (a.at_<=3)) then bif (a.at_==0) then some true else (ZcA a.top).bind fun x0=>bif x0 then some false else (ZcA a.bottom).bind fun x1=>bif x1 then some false else some true else some false else some false else some false else bif (a.end_==0) then bif (decide (0<=a.at_)) then bif (decide (a.at_<=4)) then bif (a.at_==0) then some true else (ZcA a.top).bind fun x2=>bif x2 then some false else (ZcA a.bottom).bind fun x3=>bif x3 then some false else some true else some false else some false else some false
def Zb8 (mA mJ:Int):Option (Unit⊕Unit):=bif (mA != mJ) then some (.inl ()) else some (.inr ())
def ZaV (mA mD mL mJ mK mM mN:Int) (mC:List Int):Option (Int×Int×Int×Int×Int×Int):=bif (mL==0) then some (mA,1,mA,mK,mM,mN) else bif (mL==1) then bif (decide (mD<=mJ)) then some (mA,1,mJ,mD,mM,2) else some (mA,2,mJ,mD,mM,mN) else bif (mL==2) then (Zc3 (Za.mk mC mA mD) mJ).bind fun x0=>(Zt mC x0).bind fun x1=>some (mA,3,mJ,mK,x1,mN) else (Zb8 mA mJ).bind fun x2=>match x2 with | (.inl x2)=>some (mA,mL,mJ,mK,0,3) | (.inr x2)=>some ((w64 (mA+1)),mL,mJ,mK,mM,1)
def Za5 (mA mD mL mJ mK mM mN:Int) (mC:List Int):Option (Int×Int×Int×Int×Int×Int×Int):=bif (mL==0) then some (mA,(w64 (mD-1)),1,mJ,(w64 (mD-1)),mM,mN) else bif (mL==1) then bif (decide (mA<mK)) then (Zc3 (Za.mk mC mA mD) mK).bind fun x0=>(Zt mC x0).bind fun x1=>some (mA,mD,mL,mA,mK,x1,1) else bif (mA==mK) then some (mA,mD,2,mA,mK,mM,mN) else some (mA,mD,3,mA,mK,mM,mN) else bif (mL==2) then (Zb8 mA mJ).bind fun x2=>match x2 with | (.inl x2)=>some (mA,mD,3,mJ,mK,mM,mN) | (.inr x2)=>(Zc3 (Za.mk mC (w64 (mA+1)) mD) mK).bind fun x3=>(Zt mC x3).bind fun x4=>some ((w64 (mA+1)),mD,4,mJ,mK,x4,mN) else bif (mL==4) then some (mA,(w64 (mK+1)),mL,mJ,mK,mM,1) else some (mA,(w64 (mK+1)),mL,mJ,mK,mM,2)
def Zag (a:Za) (b:Zb):Option (Za×Zb×Int):=(ZaG a).bind fun x0=>bif (x0 != 0) then some ((Za.mk ([]:List Int) 0 0),(Zb.mk false 0 0 0 0 0),x0) else (ZhE b).bind fun x1=>bif x1 then (Zg7 a).bind fun x2=>bif b.steal then (ZaV a.top a.bottom b.at_ b.top b.bottom b.got b.end_ a.ring).bind fun x3=>(ZaG (Za.mk a.ring x3.1 a.bottom)).bind fun x4=>bif (x4 != 0) then some ((Za.mk ([]:List Int) 0 0),(Zb.mk false 0 0 0 0 0),x4) else some ((Za.mk a.ring x3.1 a.bottom),(Zb.mk b.steal x3.2.1 x3.2.2.1 x3.2.2.2.1 x3.2.2.2.2.1 x3.2.2.2.2.2),0) else (Za5 a.top a.bottom b.at_ b.top b.bottom b.got b.end_ a.ring).bind fun x5=>(ZaG (Za.mk a.ring x5.1 x5.2.1)).bind fun x6=>bif (x6 != 0) then some ((Za.mk ([]:List Int) 0 0),(Zb.mk false 0 0 0 0 0),x6) else some ((Za.mk a.ring x5.1 x5.2.1),(Zb.mk b.steal x5.2.2.1 x5.2.2.2.1 x5.2.2.2.2.1 x5.2.2.2.2.2.1 x5.2.2.2.2.2.2),0) else some ((Za.mk ([]:List Int) 0 0),(Zb.mk false 0 0 0 0 0),122)
def ZbB (b c:Int) (mF:List Zb) (mH:List Int):Option (List Zb):=(Zt mH b).bind fun x0=>bif (c != 0) then (Zt mF b).bind fun x1=>some (List.set mF b.toNat (Zb.mk true 0 0 0 0 0)) else (Zt mF b).bind fun x2=>some (List.set mF b.toNat (Zb.mk false 0 0 0 0 0))
def Z9 (b:Int) (mA:List Int) (mD:List Zv) (mB:List Int) (mC:List Int) (mE:List Za) (mF:List Zb) (mH:List Int):Option (Int×(List Int)×(List Za)×(List Zb)×(List Int)):=(Zt mH b).bind fun x0=>bif ((mB.length:Int)==0) then none else (Zt mE (Int.tmod (w64 (b+x0)) (mB.length:Int))).bind fun x1=>(Zt mF b).bind fun x2=>(Zag x1 x2).bind fun x3=>bif (x3.2.2 != 0) then some (130,mB,mE,mF,mH) else bif (x3.2.1.end_==1) then (Zc1 (Zj.mk mA mD) (Zq.mk mB mC)).bind fun x4=>(ZR x4 x3.2.1.got).bind fun x5=>bif x5 then (Zt mB b).bind fun x6=>(ZbB b 0 (List.set mF b.toNat x3.2.1) mH).bind fun x7=>some (0,(List.set mB b.toNat x3.2.1.got),(List.set mE (Int.tmod (w64 (b+x0)) (mB.length:Int)).toNat x3.1),x7,(List.set mH b.toNat 0)) else some (130,mB,(List.set mE (Int.tmod (w64 (b+x0)) (mB.length:Int)).toNat x3.1),(List.set mF b.toNat x3.2.1),mH) else bif (x3.2.1.end_==2) then bif ((mB.length:Int)==0) then none else (ZbB b (Int.tmod (w64 (x0+1)) (mB.length:Int)) (List.set mF b.toNat x3.2.1) mH).bind fun x8=>some (0,mB,(List.set mE (Int.tmod (w64 (b+x0)) (mB.length:Int)).toNat x3.1),x8,(List.set mH b.toNat (Int.tmod (w64 (x0+1)) (mB.length:Int)))) else bif (x3.2.1.end_==3) then bif ((mB.length:Int)==0) then none else (ZbB b (Int.tmod (w64 (x0+1)) (mB.length:Int)) (List.set mF b.toNat x3.2.1) mH).bind fun x9=>some (0,mB,(List.set mE (Int.tmod (w64 (b+x0)) (mB.length:Int)).toNat x3.1),x9,(List.set mH b.toNat (Int.tmod (w64 (x0+1)) (mB.length:Int)))) else some (0,mB,(List.set mE (Int.tmod (w64 (b+x0)) (mB.length:Int)).toNat x3.1),(List.set mF b.toNat x3.2.1),mH)
def ZaC (b:List Int) (mA:List Int) (mD:List Zv) (mC:List Int) (s1:Int×(List Int)×Int×(List Int)×(List Za)×(List Zb)×(List Int)):Option ((Int×(List Int)×Int×(List Int)×(List Za)×(List Zb)×(List Int))⊕((Int×Int×Int×(List Int)×(List Za)×(List Zb)×(List Int))⊕(Int×Int×(List Int)×(List Za)×(List Zb)×(List Int)))):=bif (decide (0<(s1.2.1.length:Int))) then (ZaS s1.2.2.1 s1.2.1 b s1.1).bind fun x2=>(Z9 x2 mA mD s1.2.2.2.1 mC s1.2.2.2.2.1 s1.2.2.2.2.2.1 s1.2.2.2.2.2.2).bind fun x3=>bif (x3.1 != 0) then some (.inr (.inl (x3.1,s1.1,s1.2.2.1,x3.2.1,x3.2.2.1,x3.2.2.2.1,x3.2.2.2.2))) else (Zcx x3.2.1 x3.2.2.1 x3.2.2.2.1).bind fun x4=>some (.inl ((w64 (s1.1+1)),x4,x2,x3.2.1,x3.2.2.1,x3.2.2.2.1,x3.2.2.2.2)) else some (.inr (.inr (s1.1,s1.2.2.1,s1.2.2.2.1,s1.2.2.2.2.1,s1.2.2.2.2.2.1,s1.2.2.2.2.2.2)))
def ZbR (b:List Int) (mA:List Int) (mD:List Zv) (mB:List Int) (mC:List Int) (mE:List Za) (mF:List Zb) (mH:List Int):Option (Int×Int×Int×(List Int)×(List Za)×(List Zb)×(List Int)):=(Zcx mB mE mF).bind fun x0=>(lp (ZaC b mA mD mC) (0,x0,(-1),mB,mE,mF,mH)).bind fun r5=>match r5 with | (.inl r5)=>some (0,r5.1,r5.2.2.1,r5.2.2.2.1,r5.2.2.2.2.1,r5.2.2.2.2.2.1,r5.2.2.2.2.2.2) | (.inr r5)=>some (r5.1,0,r5.2.1,r5.2.2.1,r5.2.2.2.1,r5.2.2.2.2.1,r5.2.2.2.2.2)
def ZhT (a:Zj) (b:Zu) (c:List Int):Option (Zu×Int×Int):=(Zfg a b).bind fun x0=>bif (x0 != 0) then some ((Zu.mk (Zq.mk ([]:List Int) ([]:List Int)) ([]:List Za) ([]:List Zb) ([]:List Int)),0,x0) else (Zg6 b).bind fun x1=>(ZbR c a.work a.edges b.crew.on b.crew.left x1 b.takers b.from_).bind fun x2=>bif (x2.2.1 != 0) then some ((Zu.mk (Zq.mk ([]:List Int) ([]:List Int)) ([]:List Za) ([]:List Zb) ([]:List Int)),0,x2.2.1) else some ((Zu.mk (Zq.mk x2.2.2.2.1 b.crew.left) x2.2.2.2.2.1 x2.2.2.2.2.2.1 x2.2.2.2.2.2.2),x2.1,0)
def Ze5 (a:Zlt) (b:Zj) (c:Zu) (d:List Int):Option (Zu×Int×Int):=(ZhT b c d).bind fun x0=>some (x0.1,x0.2.1,x0.2.2)
def Zgs (a:Zq):Option Unit:=(Zo a.on).bind fun x0=>(Zo a.left).bind fun x1=>some ()
def Za8 (mA:List Int):Option (List Int):=bif (Nat.ble (mA.length) lim) then (some (sortI mA)).bind fun x0=>some x0 else none
def ZdN (mA:List Int) (s0:Int×(List Int)×(List Int)×(List Int)):Option ((Int×(List Int)×(List Int)×(List Int))⊕((List Int)×(List Int)×(List Int))):=bif (decide (s0.1<(mA.length:Int))) then (Zt s0.2.1 s0.1).bind fun x1=>bif (x1==(-1)) then some (.inl ((w64 (s0.1+1)),s0.2.1,s0.2.2.1,s0.2.2.2)) else (Zt s0.2.2.1 x1).bind fun x2=>(ZdP (Zq.mk s0.2.1 (List.set s0.2.2.1 x1.toNat (w64 (x2-1)))) x1).bind fun x3=>bif x3 then bif (Nat.ble (s0.2.2.2.length+1) lim) then some (.inl ((w64 (s0.1+1)),(List.set s0.2.1 s0.1.toNat (-1)),(List.set s0.2.2.1 x1.toNat (w64 (x2-1))),(s0.2.2.2++[x1]))) else none else some (.inl ((w64 (s0.1+1)),s0.2.1,(List.set s0.2.2.1 x1.toNat (w64 (x2-1))),s0.2.2.2)) else some (.inr (s0.2.1,s0.2.2.1,s0.2.2.2))
def Zmb (mA:List Int) (mB:List Int):Option ((List Int)×(List Int)×(List Int)):=(lp (ZdN mA) (0,mA,mB,([]:List Int))).bind fun r4=>(Za8 r4.2.2).bind fun x5=>some (r4.1,r4.2.1,x5)
def Zg5 (a:Zj) (b:Zq):Option (Int⊕((List Int)×(List Int)×(List Int))):=(Zd2 a b).bind fun x0=>bif (x0 != 0) then some (.inl x0) else (Zgs b).bind fun x1=>(Zmb b.on b.left).bind fun x2=>some (.inr (x2.1,x2.2.1,x2.2.2))
def Zcg (a:Zv) (b0:Int):Option (Int×Bool):=bif (a.src==b0) then some (a.dst,true) else some (a.dst,false)
def Zc0 (a:Zj) (b:(Zv->Option (Int×Bool))) (s0:Int×(List Int)):Option ((Int×(List Int))⊕(List Int)):=bif (decide (s0.1<(a.edges.length:Int))) then (Zt a.edges s0.1).bind fun x1=>(b x1).bind fun x2=>bif x2.2 then bif (Nat.ble (s0.2.length+1) lim) then some (.inl ((w64 (s0.1+1)),(s0.2++[x2.1]))) else none else some (.inl ((w64 (s0.1+1)),s0.2)) else some (.inr s0.2)
def Zmh (a:Zj) (b:(Zv->Option (Int×Bool))):Option (List Int):=(lp (Zc0 a b) (0,([]:List Int))).bind fun r3=>(Za8 r3).bind fun x4=>some x4
def ZfH (a:Zj) (b:Int):Option (List Int):=(ZcX a).bind fun x0=>bif (x0 != 0) then some ([]:List Int) else (Zmh a (fun z0=>Zcg z0 b)).bind fun x1=>some x1
def Zaa (x2:List Int) (s3:Int×(List Za)×(List Int)) (x6:List Int) (s7:Int×(List Za)×(List Int)):Option ((Int×(List Za)×(List Int))⊕(((List Za)×(List Int))⊕((List Za)×(List Int)))):=bif (decide (s7.1<(x6.length:Int))) then (Zt x6 s7.1).bind fun x8=>(ZR x2 x8).bind fun x9=>bif x9 then (ZR s7.2.2 x8).bind fun x10=>bif x10 then some (.inl ((w64 (s7.1+1)),s7.2.1,s7.2.2)) else (Zax s3.1 x8 s7.2.1).bind fun x11=>match x11 with | (.inl x11)=>bif (Nat.ble (s7.2.2.length+1) lim) then some (.inl ((w64 (s7.1+1)),x11,(s7.2.2++[x8]))) else none | (.inr x11)=>some (.inr (.inl (x11,s7.2.2))) else some (.inl ((w64 (s7.1+1)),s7.2.1,s7.2.2)) else some (.inr (.inr (s7.2.1,s7.2.2)))
def Zao (mA:List Int) (mD:List Zv) (mB:List Int) (x1:((List Int)×(List Int)×(List Int))) (x2:List Int) (s3:Int×(List Za)×(List Int)):Option ((Int×(List Za)×(List Int))⊕((List Za)⊕(List Za))):=bif (decide (s3.1<(mB.length:Int))) then (Zt mB s3.1).bind fun x4=>bif (x4==(-1)) then some (.inl ((w64 (s3.1+1)),s3.2.1,s3.2.2)) else (Zt x1.1 s3.1).bind fun x5=>bif (x5 != (-1)) then some (.inl ((w64 (s3.1+1)),s3.2.1,s3.2.2)) else (ZfH (Zj.mk mA mD) x4).bind fun x6=>(lp (Zaa x2 s3 x6) (0,s3.2.1,s3.2.2)).bind fun r12=>match r12 with | (.inl r12)=>some (.inr (.inl r12.1)) | (.inr r12)=>some (.inl ((w64 (s3.1+1)),r12.1,r12.2)) else some (.inr (.inr s3.2.1))
def ZbT (mA:List Int) (mD:List Zv) (mB:List Int) (mC:List Int) (mE:List Za):Option (Int⊕(((List Za)×(List Int)×(List Int))⊕((List Za)×(List Int)×(List Int)×(List Int)))):=(Zo mB).bind fun x0=>(Zg5 (Zj.mk mA mD) (Zq.mk mB mC)).bind fun x1=>match x1 with | (.inl x1)=>bif (x1 != 0) then some (.inl x1) else none | (.inr x1)=>(Zc1 (Zj.mk mA mD) (Zq.mk x1.1 x1.2.1)).bind fun x2=>(lp (Zao mA mD mB x1 x2) (0,mE,([]:List Int))).bind fun r13=>match r13 with | (.inl r13)=>some (.inr (.inl (r13,x1.1,x1.2.1))) | (.inr r13)=>some (.inr (.inr (r13,x1.2.2,x1.1,x1.2.1)))
def ZhL (a:Zj) (b:Zu):Option (Zu×(List Int)×Int):=(Zfg a b).bind fun x0=>bif (x0 != 0) then some ((Zu.mk (Zq.mk ([]:List Int) ([]:List Int)) ([]:List Za) ([]:List Zb) ([]:List Int)),([]:List Int),x0) else (Zg6 b).bind fun x1=>(ZbT a.work a.edges b.crew.on b.crew.left x1).bind fun x2=>match x2 with | (.inl x2)=>bif (x2 != 0) then some ((Zu.mk (Zq.mk ([]:List Int) ([]:List Int)) ([]:List Za) ([]:List Zb) ([]:List Int)),([]:List Int),x2) else none | (.inr (.inl x2))=>some ((Zu.mk (Zq.mk ([]:List Int) ([]:List Int)) ([]:List Za) ([]:List Zb) ([]:List Int)),([]:List Int),130) | (.inr (.inr x2))=>some ((Zu.mk (Zq.mk x2.2.2.1 x2.2.2.2) x2.1 b.takers b.from_),x2.2.1,0)
def ZeU (a:Zlt) (b:Zj) (c:Zu):Option (Zu×(List Int)×Int):=(ZhL b c).bind fun x0=>some (x0.1,x0.2.1,x0.2.2)
def Zdq (mA:List Int) (s1:(List Int)×Int×(List Int)):Option (((List Int)×Int×(List Int))⊕(List Int)):=bif (decide (s1.2.1<(mA.length:Int))) then (Zt s1.2.2 s1.2.1).bind fun x2=>bif (x2==(-1)) then bif (decide (0<(s1.1.length:Int))) then (Zt s1.1 0).bind fun x3=>bif (Nat.ble 1 (s1.1.length)) then some (.inl ((List.drop 1 s1.1),(w64 (s1.2.1+1)),(List.set s1.2.2 s1.2.1.toNat x3))) else none else some (.inl (s1.1,(w64 (s1.2.1+1)),s1.2.2)) else some (.inl (s1.1,(w64 (s1.2.1+1)),s1.2.2)) else some (.inr s1.2.2)
def ZlQ (a:Zj) (mA:List Int) (mB:List Int):Option (List Int):=(ZfY a (Zq.mk mA mB)).bind fun x0=>(lp (Zdq mA) (x0,0,mA)).bind fun r4=>some r4
def ZiV (a:Zj) (b:Zq):Option (Zq×Int):=(Zd2 a b).bind fun x0=>bif (x0 != 0) then some ((Zq.mk ([]:List Int) ([]:List Int)),x0) else (Zgs b).bind fun x1=>(ZlQ a b.on b.left).bind fun x2=>some ((Zq.mk x2 b.left),0)
def Zfr (a:Zsd) (b:Zj) (c:Zu) (d:List Int):Option (Zu×Int×Int):=(ZiV b c.crew).bind fun x0=>some ((Zu.mk x0.1 ([]:List Za) ([]:List Zb) ([]:List Int)),0,x0.2)
def Zfp (a:Zsd) (b:Zj) (c:Zu):Option (Zu×(List Int)×Int):=(Zg5 b c.crew).bind fun x0=>match x0 with | (.inl x0)=>some ((Zu.mk (Zq.mk ([]:List Int) ([]:List Int)) ([]:List Za) ([]:List Zb) ([]:List Int)),([]:List Int),x0) | (.inr x0)=>some ((Zu.mk (Zq.mk x0.1 x0.2.1) ([]:List Za) ([]:List Zb) ([]:List Int)),x0.2.2,0)
def Zg3 (a:Zj) (b:ZW) (c:List Int):Option (ZW×Zaw×Int):=bif b.stealing then (ZeZ true).bind fun x0=>match x0 with | (.inl x0)=>(Ze5 (Zlt.mk ) a b.gang c).bind fun x1=>bif (x1.2.2 != 0) then some ((ZW.mk false ([]:List Int) 0 (Zu.mk (Zq.mk ([]:List Int) ([]:List Int)) ([]:List Za) ([]:List Zb) ([]:List Int))),(Zaw.mk ([]:List Int) ([]:List Int) 0),x1.2.2) else (Zo x1.1.crew.on).bind fun x2=>(ZeU (Zlt.mk ) a x1.1).bind fun x3=>bif (x3.2.2 != 0) then some ((ZW.mk false ([]:List Int) 0 (Zu.mk (Zq.mk ([]:List Int) ([]:List Int)) ([]:List Za) ([]:List Zb) ([]:List Int))),(Zaw.mk ([]:List Int) ([]:List Int) 0),x3.2.2) else (Zo b.demand).bind fun x4=>(Zcb a b.demand x3.1.crew.left).bind fun x5=>some ((ZW.mk b.stealing b.demand x5 x3.1),(Zaw.mk x1.1.crew.on x3.2.1 x1.2.1),0) | (.inr x0)=>(Zfr (Zsd.mk ) a b.gang c).bind fun x6=>bif (x6.2.2 != 0) then some ((ZW.mk false ([]:List Int) 0 (Zu.mk (Zq.mk ([]:List Int) ([]:List Int)) ([]:List Za) ([]:List Zb) ([]:List Int))),(Zaw.mk ([]:List Int) ([]:List Int) 0),x6.2.2) else (Zo x6.1.crew.on).bind fun x7=>(Zfp (Zsd.mk ) a x6.1).bind fun x8=>bif (x8.2.2 != 0) then some ((ZW.mk false ([]:List Int) 0 (Zu.mk (Zq.mk ([]:List Int) ([]:List Int)) ([]:List Za) ([]:List Zb) ([]:List Int))),(Zaw.mk ([]:List Int) ([]:List Int) 0),x8.2.2) else (Zo b.demand).bind fun x9=>(Zcb a b.demand x8.1.crew.left).bind fun x10=>some ((ZW.mk b.stealing b.demand x10 x8.1),(Zaw.mk x6.1.crew.on x8.2.1 x6.2.1),0) else (ZeZ false).bind fun x11=>match x11 with | (.inl x11)=>(Ze5 (Zlt.mk ) a b.gang c).bind fun x12=>bif (x12.2.2 != 0) then some ((ZW.mk false ([]:List Int) 0 (Zu.mk (Zq.mk ([]:List Int) ([]:List Int)) ([]:List Za) ([]:List Zb) ([]:List Int))),(Zaw.mk ([]:List Int) ([]:List Int) 0),x12.2.2) else (Zo x12.1.crew.on).bind fun x13=>(ZeU (Zlt.mk ) a x12.1).bind fun x14=>bif (x14.2.2 != 0) then some ((ZW.mk false ([]:List Int) 0 (Zu.mk (Zq.mk ([]:List Int) ([]:List Int)) ([]:List Za) ([]:List Zb) ([]:List Int))),(Zaw.mk ([]:List Int) ([]:List Int) 0),x14.2.2) else (Zo b.demand).bind fun x15=>(Zcb a b.demand x14.1.crew.left).bind fun x16=>some ((ZW.mk b.stealing b.demand x16 x14.1),(Zaw.mk x12.1.crew.on x14.2.1 x12.2.1),0) | (.inr x11)=>(Zfr (Zsd.mk ) a b.gang c).bind fun x17=>bif (x17.2.2 != 0) then some ((ZW.mk false ([]:List Int) 0 (Zu.mk (Zq.mk ([]:List Int) ([]:List Int)) ([]:List Za) ([]:List Zb) ([]:List Int))),(Zaw.mk ([]:List Int) ([]:List Int) 0),x17.2.2) else (Zo x17.1.crew.on).bind fun x18=>(Zfp (Zsd.mk ) a x17.1).bind fun x19=>bif (x19.2.2 != 0) then some ((ZW.mk false ([]:List Int) 0 (Zu.mk (Zq.mk ([]:List Int) ([]:List Int)) ([]:List Za) ([]:List Zb) ([]:List Int))),(Zaw.mk ([]:List Int) ([]:List Int) 0),x19.2.2) else (Zo b.demand).bind fun x20=>(Zcb a b.demand x19.1.crew.left).bind fun x21=>some ((ZW.mk b.stealing b.demand x21 x19.1),(Zaw.mk x17.1.crew.on x19.2.1 x17.2.1),0)
def Zfj (x0:(ZW×Int)) (s1:Int×Int):Option ((Int×Int)⊕Int):=bif (decide (s1.2<(x0.1.gang.crew.left.length:Int))) then (Zt x0.1.gang.crew.left s1.2).bind fun x2=>some (.inl ((w64 (s1.1+x2)),(w64 (s1.2+1)))) else some (.inr s1.1)
def Zeo (a:Zj) (s4:(List Int)×Bool×(List Int)×Int×(List Int)×(List Int)×(List Za)×(List Zb)×(List Int)×(List (List Int))):Option (((List Int)×Bool×(List Int)×Int×(List Int)×(List Int)×(List Za)×(List Zb)×(List Int)×(List (List Int)))⊕((Int×Bool×(List Int)×Int×(List Int)×(List Int)×(List Za)×(List Zb)×(List Int)×(List (List Int)))⊕(Bool×(List Int)×Int×(List Int)×(List Int)×(List Za)×(List Zb)×(List Int)×(List (List Int))))):=bif (s4.2.2.2.1==1) then (Zg3 a (ZW.mk s4.2.1 s4.2.2.1 s4.2.2.2.1 (Zu.mk (Zq.mk s4.2.2.2.2.1 s4.2.2.2.2.2.1) s4.2.2.2.2.2.2.1 s4.2.2.2.2.2.2.2.1 s4.2.2.2.2.2.2.2.2.1)) s4.1).bind fun x5=>bif (x5.2.2 != 0) then some (.inr (.inl (x5.2.2,s4.2.1,s4.2.2.1,s4.2.2.2.1,s4.2.2.2.2.1,s4.2.2.2.2.2.1,s4.2.2.2.2.2.2.1,s4.2.2.2.2.2.2.2.1,s4.2.2.2.2.2.2.2.2.1,s4.2.2.2.2.2.2.2.2.2))) else bif (decide (0<=(bif decide ((s4.1.length:Int)<x5.2.1.steps) then (s4.1.length:Int) else x5.2.1.steps))) then bif (Nat.ble (bif decide ((s4.1.length:Int)<x5.2.1.steps) then (s4.1.length:Int) else x5.2.1.steps).toNat (s4.1.length)) then bif (Nat.ble (s4.2.2.2.2.2.2.2.2.2.length+1) lim) then some (.inl ((List.drop (bif decide ((s4.1.length:Int)<x5.2.1.steps) then (s4.1.length:Int) else x5.2.1.steps).toNat s4.1),x5.1.stealing,x5.1.demand,x5.1.state,x5.1.gang.crew.on,x5.1.gang.crew.left,x5.1.gang.deques,x5.1.gang.takers,x5.1.gang.from_,(s4.2.2.2.2.2.2.2.2.2++[x5.2.1.on]))) else none else none else none else some (.inr (.inr (s4.2.1,s4.2.2.1,s4.2.2.2.1,s4.2.2.2.2.1,s4.2.2.2.2.2.1,s4.2.2.2.2.2.2.1,s4.2.2.2.2.2.2.2.1,s4.2.2.2.2.2.2.2.2.1,s4.2.2.2.2.2.2.2.2.2)))
def ZgD (a:Zj) (b:List Int) (c:Int) (d:Bool) (e:List Int):Option ((List (List Int))×Int×Int):=(ZeI a b c d).bind fun x0=>bif (x0.2 != 0) then some (([]:List (List Int)),0,x0.2) else (lp (Zfj x0) (0,0)).bind fun r3=>bif (decide (4096<r3)) then some (([]:List (List Int)),0,190) else (lp (Zeo a) (e,x0.1.stealing,x0.1.demand,x0.1.state,x0.1.gang.crew.on,x0.1.gang.crew.left,x0.1.gang.deques,x0.1.gang.takers,x0.1.gang.from_,([]:(List (List Int))))).bind fun r6=>match r6 with | (.inl r6)=>some (([]:List (List Int)),0,r6.1) | (.inr r6)=>some (r6.2.2.2.2.2.2.2.2,r6.2.2.1,0)
def ZfW (a:Zj) (b:Int):Option Bool:=bif (decide (0<=b)) then bif (decide (b<(a.work.length:Int))) then some true else some false else some false
def Zdh (a:Zj) (s0:Int):Option (Int⊕(Unit⊕Unit)):=bif (decide (s0<(a.work.length:Int))) then (Zt a.work s0).bind fun x1=>bif (decide (x1<0)) then some (.inr (.inl ())) else bif (decide (1000<x1)) then some (.inr (.inl ())) else some (.inl (w64 (s0+1))) else some (.inr (.inr ()))
def ZdI (a:Zj) (s3:Int) (x4:Zv) (s7:Int):Option (Int⊕(Unit⊕Unit)):=bif (decide (s7<s3)) then (Zt a.edges s7).bind fun x8=>bif ((x8.src==x4.src)&&((x8.dst==x4.dst)&&true)) then some (.inr (.inl ())) else some (.inl (w64 (s7+1))) else some (.inr (.inr ()))
def Zdp (a:Zj) (s3:Int):Option (Int⊕(Unit⊕Unit)):=bif (decide (s3<(a.edges.length:Int))) then (Zt a.edges s3).bind fun x4=>(ZfW a x4.src).bind fun x5=>bif x5 then (ZfW a x4.dst).bind fun x6=>bif x6 then bif (x4.src==x4.dst) then some (.inr (.inl ())) else (lp (ZdI a s3 x4) 0).bind fun r9=>match r9 with | (.inl r9)=>some (.inr (.inl ())) | (.inr r9)=>some (.inl (w64 (s3+1))) else some (.inr (.inl ())) else some (.inr (.inl ())) else some (.inr (.inr ()))
def ZgS (a:Zj):Option Int:=bif (decide (64<(a.work.length:Int))) then some 40 else bif (decide (256<(a.edges.length:Int))) then some 40 else (lp (Zdh a) 0).bind fun r2=>match r2 with | (.inl r2)=>some 41 | (.inr r2)=>(lp (Zdp a) 0).bind fun r10=>match r10 with | (.inl r10)=>some 42 | (.inr r10)=>some 0
def Zcu (a:Zj) (b:Int) (s1:Int×(List Bool)):Option ((Int×(List Bool))⊕(List Bool)):=bif (decide (s1.1<(a.edges.length:Int))) then (Zt a.edges s1.1).bind fun x2=>bif (x2.src==b) then (Zt s1.2 x2.dst).bind fun x3=>some (.inl ((w64 (s1.1+1)),(List.set s1.2 x2.dst.toNat true))) else (Zt s1.2 x2.src).bind fun x4=>bif x4 then (Zt s1.2 x2.dst).bind fun x5=>some (.inl ((w64 (s1.1+1)),(List.set s1.2 x2.dst.toNat true))) else some (.inl ((w64 (s1.1+1)),s1.2)) else some (.inr s1.2)
def Zcq (a:Zj) (b:Int) (s0:Int×(List Bool)):Option ((Int×(List Bool))⊕(List Bool)):=bif (decide (s0.1<(a.work.length:Int))) then (lp (Zcu a b) (0,s0.2)).bind fun r6=>some (.inl ((w64 (s0.1+1)),r6)) else some (.inr s0.2)
def ZgW (a:Zj) (b:Int):Option (List Bool):=bif (decide (0<=(a.work.length:Int))&&decide ((a.work.length:Int)<=lim)&&decide ((a.work.length:Int)==(a.work.length:Int))) then (lp (Zcq a b) (0,(List.replicate (a.work.length:Int).toNat (false:Bool)))).bind fun r7=>some r7 else none
def Zdx (a:Zj) (s1:Int):Option (Int⊕(Unit⊕Unit)):=bif (decide (s1<(a.work.length:Int))) then (ZgW a s1).bind fun x2=>(Zt x2 s1).bind fun x3=>bif x3 then some (.inr (.inl ())) else some (.inl (w64 (s1+1))) else some (.inr (.inr ()))
def Zbf (a:Zj):Option Int:=(ZgS a).bind fun x0=>bif (x0 != 0) then some x0 else (lp (Zdx a) 0).bind fun r4=>match r4 with | (.inl r4)=>some 43 | (.inr r4)=>some 0
def ZdG (a:Zj) (b:List Int) (s0:Int):Option (Int⊕(Unit⊕Unit)):=bif (decide (s0<(b.length:Int))) then (Zt b s0).bind fun x1=>bif (decide (x1<1)) then some (.inr (.inl ())) else bif (decide (1000<x1)) then some (.inr (.inl ())) else (Zt a.work s0).bind fun x2=>bif (decide (x2<1)) then some (.inr (.inl ())) else some (.inl (w64 (s0+1))) else some (.inr (.inr ()))
def Zcl (a:Zj) (b:List Int):Option Bool:=bif ((b.length:Int) != (a.work.length:Int)) then some false else (lp (ZdG a b) 0).bind fun r3=>match r3 with | (.inl r3)=>some false | (.inr r3)=>some true
def ZcR (a:Zj) (b:List Int) (s0:Int×(List Int)):Option ((Int×(List Int))⊕(List Int)):=bif (decide (s0.1<(b.length:Int))) then (Zt b s0.1).bind fun x1=>(Zt a.work s0.1).bind fun x2=>bif (Nat.ble (s0.2.length+1) lim) then some (.inl ((w64 (s0.1+1)),(s0.2++[(bif decide (x2<x1) then x2 else x1)]))) else none else some (.inr s0.2)
def Zbk (a:Zj) (b:List Int):Option (List Int):=(lp (ZcR a b) (0,([]:List Int))).bind fun r3=>some r3
def Zcn (c:List Int) (s0:Int×Int):Option ((Int×Int)⊕Int):=bif (decide (s0.2<(c.length:Int))) then (Zt c s0.2).bind fun x1=>bif (decide (0<x1)) then some (.inl (1,(w64 (s0.2+1)))) else some (.inl (s0.1,(w64 (s0.2+1)))) else some (.inr s0.1)
def ZdO (a:Zj) (b:List Int) (c:List Int) (s3:Int):Option (Int⊕(Unit⊕Unit)):=bif (decide (s3<(c.length:Int))) then (Zt c s3).bind fun x4=>bif (x4==0) then (Zt b s3).bind fun x5=>(Zt a.work s3).bind fun x6=>bif (decide (x6<x5)) then some (.inr (.inl ())) else some (.inl (w64 (s3+1))) else some (.inl (w64 (s3+1))) else some (.inr (.inr ()))
def ZaZ (a:Zj) (b:List Int) (c:List Int):Option Int:=(lp (Zcn c) (2,0)).bind fun r2=>(lp (ZdO a b c) 0).bind fun r7=>match r7 with | (.inl r7)=>some 3 | (.inr r7)=>some r2
def Zd8 (b:List Int) (s0:Int):Option (Int⊕(Unit⊕Unit)):=bif (decide (s0<(b.length:Int))) then (Zt b s0).bind fun x1=>bif (decide (x1<1)) then some (.inr (.inl ())) else bif (decide (1000<x1)) then some (.inr (.inl ())) else some (.inl (w64 (s0+1))) else some (.inr (.inr ()))
def ZhF (a:Zj) (b:List Int) (c:Int):Option Bool:=(lp (Zd8 b) 0).bind fun r2=>match r2 with | (.inl r2)=>some false | (.inr r2)=>bif ((b.length:Int)==(a.work.length:Int)) then bif (decide (1<=c)) then bif (decide (c<=8)) then some true else some false else some false else some false
def ZdF (c:Int) (s2:Int×(List Int)):Option ((Int×(List Int))⊕(List Int)):=bif (decide (s2.1<c)) then bif (Nat.ble (s2.2.length+1) lim) then some (.inl ((w64 (s2.1+1)),(s2.2++[(-1)]))) else none else some (.inr s2.2)
def ZfG (a:Zj) (b:List Int) (c:Int):Option (Zq×Int):=(Zbf a).bind fun x0=>bif (x0 != 0) then some ((Zq.mk ([]:List Int) ([]:List Int)),x0) else (ZhF a b c).bind fun x1=>bif x1 then bif (Nat.ble (b.length) lim) then (lp (ZdF c) (0,([]:List Int))).bind fun r3=>some ((Zq.mk r3 b),0) else none else some ((Zq.mk ([]:List Int) ([]:List Int)),100)
def ZeO (a:List Int) (b s0:Int):Option (Int⊕(Unit⊕Unit)):=bif (decide (s0<(a.length:Int))) then (Zt a s0).bind fun x1=>bif (x1==b) then some (.inr (.inl ())) else some (.inl (w64 (s0+1))) else some (.inr (.inr ()))
def Zcj (a:List Int) (b:Int):Option Bool:=(lp (ZeO a b) 0).bind fun r2=>match r2 with | (.inl r2)=>some true | (.inr r2)=>some false
def Zeb (a:Zj) (b c s0:Int):Option (Int⊕(Unit⊕Unit)):=bif (decide (s0<(a.edges.length:Int))) then (Zt a.edges s0).bind fun x1=>bif (x1.src==b) then bif (x1.dst==c) then some (.inr (.inl ())) else some (.inl (w64 (s0+1))) else some (.inl (w64 (s0+1))) else some (.inr (.inr ()))
def ZfU (a:Zj) (b c:Int):Option Bool:=(lp (Zeb a b c) 0).bind fun r2=>match r2 with | (.inl r2)=>some true | (.inr r2)=>some false
def ZdC (a:Zj) (b:Int) (s0:Int×(List Int)):Option ((Int×(List Int))⊕(List Int)):=bif (decide (s0.1<(a.work.length:Int))) then (ZfU a s0.1 b).bind fun x1=>bif x1 then bif (Nat.ble (s0.2.length+1) lim) then some (.inl ((w64 (s0.1+1)),(s0.2++[s0.1]))) else none else some (.inl ((w64 (s0.1+1)),s0.2)) else some (.inr s0.2)
def ZgQ (a:Zj) (b:Int):Option (List Int):=(lp (ZdC a b) (0,([]:List Int))).bind fun r2=>some r2
def Zed (b:Zq) (x0:List Int) (s1:Int):Option (Int⊕(Unit⊕Unit)):=bif (decide (s1<(x0.length:Int))) then (Zt x0 s1).bind fun x2=>(Zt b.left x2).bind fun x3=>bif (decide (0<x3)) then some (.inr (.inl ())) else some (.inl (w64 (s1+1))) else some (.inr (.inr ()))
def ZeS (a:Zj) (b:Zq) (c:Int):Option Bool:=(ZgQ a c).bind fun x0=>(lp (Zed b x0) 0).bind fun r4=>match r4 with | (.inl r4)=>some false | (.inr r4)=>some true
def ZdD (a:Zj) (b:Zq) (s0:Int×(List Int)):Option ((Int×(List Int))⊕(List Int)):=bif (decide (s0.1<(b.left.length:Int))) then (Zt b.left s0.1).bind fun x1=>bif (decide (0<x1)) then (Zcj b.on s0.1).bind fun x2=>bif x2 then some (.inl ((w64 (s0.1+1)),s0.2)) else (ZeS a b s0.1).bind fun x3=>bif x3 then bif (Nat.ble (s0.2.length+1) lim) then some (.inl ((w64 (s0.1+1)),(s0.2++[s0.1]))) else none else some (.inl ((w64 (s0.1+1)),s0.2)) else some (.inl ((w64 (s0.1+1)),s0.2)) else some (.inr s0.2)
def Zch (a:Zj) (b:Zq):Option (List Int):=(lp (ZdD a b) (0,([]:List Int))).bind fun r4=>some r4
def ZbK (a:Int) (s0:Int×Int):Option ((Int×Int)⊕(Int⊕Unit)):=bif (decide (s0.2<40)) then bif (s0.1==a) then some (.inr (.inl s0.2)) else some (.inl ((w64 (2*s0.1)),(w64 (s0.2+1)))) else some (.inr (.inr ()))
def Zhb (a:Int):Option (Int×Bool):=(lp (ZbK a) (1,0)).bind fun r1=>match r1 with | (.inl r1)=>some (r1,true) | (.inr r1)=>some (0,false)
def ZhO (a:Int):Option Bool:=(Zhb a).bind fun x0=>bif x0.2 then bif (decide (a<=64)) then some true else some false else some false
def ZC (a:Za):Option Bool:=(ZhO (a.ring.length:Int)).bind fun x0=>bif x0 then bif (decide (0<=a.top)) then bif (decide (a.top<=1099511627775)) then bif (decide ((w64 (a.top-1))<=a.bottom)) then bif (decide (a.bottom<=(w64 (a.top+(a.ring.length:Int))))) then some true else some false else some false else some false else some false else some false
def Zb1 (a:Za) (b:Int) (s1:Int×(List Int)):Option ((Int×(List Int))⊕(List Int)):=bif (decide (s1.1<(a.ring.length:Int))) then bif ((a.ring.length:Int)==0) then none else bif (s1.1==(Int.tmod a.bottom (a.ring.length:Int))) then bif (Nat.ble (s1.2.length+1) lim) then some (.inl ((w64 (s1.1+1)),(s1.2++[b]))) else none else (Zt a.ring s1.1).bind fun x2=>bif (Nat.ble (s1.2.length+1) lim) then some (.inl ((w64 (s1.1+1)),(s1.2++[x2]))) else none else some (.inr s1.2)
def Ze2 (a:Za) (b:Int):Option (Za×Int):=(ZC a).bind fun x0=>bif x0 then bif (decide ((w64 (a.bottom-a.top))<0)) then some ((Za.mk ([]:List Int) 0 0),121) else bif (decide ((a.ring.length:Int)<=(w64 (a.bottom-a.top)))) then some ((Za.mk ([]:List Int) 0 0),121) else (lp (Zb1 a b) (0,([]:List Int))).bind fun r3=>some ((Za.mk r3 a.top (w64 (a.bottom+1))),0) else some ((Za.mk ([]:List Int) 0 0),120)
def ZfQ (b:Int) (c:Za) (mA:List Za):Option Unit:=bif (Nat.ble (mA.length) lim) then (Zt mA b).bind fun x0=>some () else none
def Zdi (c:Int) (s1:Int×(List Za)×(List Zb)×(List Int)):Option ((Int×(List Za)×(List Zb)×(List Int))⊕((List Za)×(List Zb)×(List Int))):=bif (decide (s1.1<c)) then bif (Nat.ble (s1.2.1.length+1) lim) then bif (Nat.ble (s1.2.2.1.length+1) lim) then bif (Nat.ble (s1.2.2.2.length+1) lim) then some (.inl ((w64 (s1.1+1)),(s1.2.1++[(Za.mk (List.replicate (64:Int).toNat (0:Int)) 0 0)]),(s1.2.2.1++[(Zb.mk false 0 0 0 0 0)]),(s1.2.2.2++[0]))) else none else none else none else some (.inr (s1.2.1,s1.2.2.1,s1.2.2.2))
def ZeM (c:Int) (x3:List Int) (s4:Int×(List Za)):Option ((Int×(List Za))⊕(List Za)):=bif (decide (s4.1<(x3.length:Int))) then (Zt x3 s4.1).bind fun x5=>bif (c==0) then none else (Zt s4.2 (Int.tmod x5 c)).bind fun x6=>(Ze2 x6 x5).bind fun x7=>bif (c==0) then none else (ZfQ (Int.tmod x5 c) x7.1 s4.2).bind fun x8=>some (.inl ((w64 (s4.1+1)),(List.set s4.2 (Int.tmod x5 c).toNat x7.1))) else some (.inr s4.2)
def Zi1 (a:Zj) (b:List Int) (c:Int):Option (Zu×Int):=(ZfG a b c).bind fun x0=>bif (x0.2 != 0) then some ((Zu.mk (Zq.mk ([]:List Int) ([]:List Int)) ([]:List Za) ([]:List Zb) ([]:List Int)),x0.2) else (lp (Zdi c) (0,([]:List Za),([]:List Zb),([]:List Int))).bind fun r2=>(Zch a x0.1).bind fun x3=>(lp (ZeM c x3) (0,r2.1)).bind fun r9=>some ((Zu.mk x0.1 r9 r2.2.1 r2.2.2),0)
def ZcZ (a:Zj) (b:List Int) (c:Int) (d:Bool):Option (ZW×Int):=bif d then (Zbf a).bind fun x0=>bif (x0 != 0) then some ((ZW.mk false ([]:List Int) 0 (Zu.mk (Zq.mk ([]:List Int) ([]:List Int)) ([]:List Za) ([]:List Zb) ([]:List Int))),x0) else (Zcl a b).bind fun x1=>bif x1 then bif (decide (c<1)) then some ((ZW.mk false ([]:List Int) 0 (Zu.mk (Zq.mk ([]:List Int) ([]:List Int)) ([]:List Za) ([]:List Zb) ([]:List Int))),190) else bif (decide (8<c)) then some ((ZW.mk false ([]:List Int) 0 (Zu.mk (Zq.mk ([]:List Int) ([]:List Int)) ([]:List Za) ([]:List Zb) ([]:List Int))),190) else bif (Nat.ble (b.length) lim) then (Zbk a b).bind fun x2=>(ZaZ a b x2).bind fun x3=>(Zbk a b).bind fun x4=>(Zi1 a x4 c).bind fun x5=>some ((ZW.mk true b x3 x5.1),0) else none else some ((ZW.mk false ([]:List Int) 0 (Zu.mk (Zq.mk ([]:List Int) ([]:List Int)) ([]:List Za) ([]:List Zb) ([]:List Int))),190) else (Zbf a).bind fun x6=>bif (x6 != 0) then some ((ZW.mk false ([]:List Int) 0 (Zu.mk (Zq.mk ([]:List Int) ([]:List Int)) ([]:List Za) ([]:List Zb) ([]:List Int))),x6) else (Zcl a b).bind fun x7=>bif x7 then bif (decide (c<1)) then some ((ZW.mk false ([]:List Int) 0 (Zu.mk (Zq.mk ([]:List Int) ([]:List Int)) ([]:List Za) ([]:List Zb) ([]:List Int))),190) else bif (decide (8<c)) then some ((ZW.mk false ([]:List Int) 0 (Zu.mk (Zq.mk ([]:List Int) ([]:List Int)) ([]:List Za) ([]:List Zb) ([]:List Int))),190) else bif (Nat.ble (b.length) lim) then (Zbk a b).bind fun x8=>(ZaZ a b x8).bind fun x9=>(Zbk a b).bind fun x10=>(ZfG a x10 c).bind fun x11=>some ((ZW.mk false b x9 (Zu.mk x11.1 ([]:List Za) ([]:List Zb) ([]:List Int))),0) else none else some ((ZW.mk false ([]:List Int) 0 (Zu.mk (Zq.mk ([]:List Int) ([]:List Int)) ([]:List Za) ([]:List Zb) ([]:List Int))),190)
def ZdB (b:Zq) (s1:Int):Option (Int⊕(Unit⊕Unit)):=bif (decide (s1<(b.left.length:Int))) then (Zt b.left s1).bind fun x2=>bif (decide (x2<0)) then some (.inr (.inl ())) else bif (decide (1000<x2)) then some (.inr (.inl ())) else some (.inl (w64 (s1+1))) else some (.inr (.inr ()))
def Zdr (a:Zj) (b:Zq) (s4:Int):Option (Int⊕(Unit⊕Unit)):=bif (decide (s4<(b.left.length:Int))) then (Zt b.left s4).bind fun x5=>bif (x5==0) then (ZeS a b s4).bind fun x6=>bif x6 then some (.inl (w64 (s4+1))) else some (.inr (.inl ())) else some (.inl (w64 (s4+1))) else some (.inr (.inr ()))
def Zdk (a:Zj) (b:Zq) (s8:Int):Option (Int⊕(Unit⊕Unit)):=bif (decide (s8<(b.on.length:Int))) then (Zt b.on s8).bind fun x9=>bif (decide (x9<(-1))) then some (.inr (.inl ())) else bif (decide ((b.left.length:Int)<=x9)) then some (.inr (.inl ())) else bif (decide (0<=x9)) then (Zt b.left x9).bind fun x10=>bif (x10==0) then some (.inr (.inl ())) else (ZeS a b x9).bind fun x11=>bif x11 then bif (decide (0<=s8)) then bif (Nat.ble s8.toNat (b.on.length)) then (Zcj (List.take s8.toNat b.on) x9).bind fun x12=>bif x12 then some (.inr (.inl ())) else some (.inl (w64 (s8+1))) else none else none else some (.inr (.inl ())) else some (.inl (w64 (s8+1))) else some (.inr (.inr ()))
def Zep (a:Zj) (b:Zq):Option Int:=(Zbf a).bind fun x0=>bif (x0 != 0) then some x0 else bif (decide ((b.on.length:Int)<1)) then some 110 else bif (decide (8<(b.on.length:Int))) then some 110 else bif ((b.left.length:Int) != (a.work.length:Int)) then some 110 else (lp (ZdB b) 0).bind fun r3=>match r3 with | (.inl r3)=>some 110 | (.inr r3)=>(lp (Zdr a b) 0).bind fun r7=>match r7 with | (.inl r7)=>some 110 | (.inr r7)=>(lp (Zdk a b) 0).bind fun r13=>match r13 with | (.inl r13)=>some 110 | (.inr r13)=>some 0
def Zds (b:Zu) (s1:Int):Option (Int⊕(Unit⊕Unit)):=bif (decide (s1<(b.crew.on.length:Int))) then (Zt b.takers s1).bind fun x2=>(Zt b.deques s1).bind fun x3=>(ZC x3).bind fun x4=>bif x4 then bif ((x3.ring.length:Int) != 64) then some (.inr (.inl ())) else bif (x2.end_ != 0) then some (.inr (.inl ())) else (Zt b.from_ s1).bind fun x5=>bif (decide (x5<0)) then some (.inr (.inl ())) else bif (decide ((b.crew.on.length:Int)<=x5)) then some (.inr (.inl ())) else bif x2.steal then bif (x5==0) then some (.inr (.inl ())) else bif x2.steal then bif (x2.at_==0) then bif (x2.top==0) then bif (x2.bottom==0) then bif (x2.got==0) then (Zt b.crew.on s1).bind fun x6=>bif (decide (0<=x6)) then bif (x5 != 0) then some (.inr (.inl ())) else some (.inl (w64 (s1+1))) else some (.inl (w64 (s1+1))) else (Zt b.crew.on s1).bind fun x7=>bif (decide (0<=x7)) then some (.inr (.inl ())) else some (.inl (w64 (s1+1))) else (Zt b.crew.on s1).bind fun x8=>bif (decide (0<=x8)) then some (.inr (.inl ())) else some (.inl (w64 (s1+1))) else (Zt b.crew.on s1).bind fun x9=>bif (decide (0<=x9)) then some (.inr (.inl ())) else some (.inl (w64 (s1+1))) else (Zt b.crew.on s1).bind fun x10=>bif (decide (0<=x10)) then some (.inr (.inl ())) else some (.inl (w64 (s1+1))) else bif (decide (0<x5)) then some (.inr (.inl ())) else bif (x2.at_==0) then bif (x2.top==0) then bif (x2.bottom==0) then bif (x2.got==0) then (Zt b.crew.on s1).bind fun x11=>bif (decide (0<=x11)) then bif (x5 != 0) then some (.inr (.inl ())) else some (.inl (w64 (s1+1))) else some (.inl (w64 (s1+1))) else (Zt b.crew.on s1).bind fun x12=>bif (decide (0<=x12)) then some (.inr (.inl ())) else some (.inl (w64 (s1+1))) else (Zt b.crew.on s1).bind fun x13=>bif (decide (0<=x13)) then some (.inr (.inl ())) else some (.inl (w64 (s1+1))) else (Zt b.crew.on s1).bind fun x14=>bif (decide (0<=x14)) then some (.inr (.inl ())) else some (.inl (w64 (s1+1))) else (Zt b.crew.on s1).bind fun x15=>bif (decide (0<=x15)) then some (.inr (.inl ())) else some (.inl (w64 (s1+1))) else bif x2.steal then bif (x2.at_==0) then bif (x2.top==0) then bif (x2.bottom==0) then bif (x2.got==0) then (Zt b.crew.on s1).bind fun x16=>bif (decide (0<=x16)) then bif (x5 != 0) then some (.inr (.inl ())) else some (.inl (w64 (s1+1))) else some (.inl (w64 (s1+1))) else (Zt b.crew.on s1).bind fun x17=>bif (decide (0<=x17)) then some (.inr (.inl ())) else some (.inl (w64 (s1+1))) else (Zt b.crew.on s1).bind fun x18=>bif (decide (0<=x18)) then some (.inr (.inl ())) else some (.inl (w64 (s1+1))) else (Zt b.crew.on s1).bind fun x19=>bif (decide (0<=x19)) then some (.inr (.inl ())) else some (.inl (w64 (s1+1))) else (Zt b.crew.on s1).bind fun x20=>bif (decide (0<=x20)) then some (.inr (.inl ())) else some (.inl (w64 (s1+1))) else bif (decide (0<x5)) then some (.inr (.inl ())) else bif (x2.at_==0) then bif (x2.top==0) then bif (x2.bottom==0) then bif (x2.got==0) then (Zt b.crew.on s1).bind fun x21=>bif (decide (0<=x21)) then bif (x5 != 0) then some (.inr (.inl ())) else some (.inl (w64 (s1+1))) else some (.inl (w64 (s1+1))) else (Zt b.crew.on s1).bind fun x22=>bif (decide (0<=x22)) then some (.inr (.inl ())) else some (.inl (w64 (s1+1))) else (Zt b.crew.on s1).bind fun x23=>bif (decide (0<=x23)) then some (.inr (.inl ())) else some (.inl (w64 (s1+1))) else (Zt b.crew.on s1).bind fun x24=>bif (decide (0<=x24)) then some (.inr (.inl ())) else some (.inl (w64 (s1+1))) else (Zt b.crew.on s1).bind fun x25=>bif (decide (0<=x25)) then some (.inr (.inl ())) else some (.inl (w64 (s1+1))) else some (.inr (.inl ())) else some (.inr (.inr ()))
def Zel (a:Zj) (b:Zu):Option Int:=(Zep a b.crew).bind fun x0=>bif (x0 != 0) then some x0 else bif ((b.deques.length:Int) != (b.crew.on.length:Int)) then some 130 else bif ((b.takers.length:Int) != (b.crew.on.length:Int)) then some 130 else bif ((b.from_.length:Int) != (b.crew.on.length:Int)) then some 130 else (lp (Zds b) 0).bind fun r26=>match r26 with | (.inl r26)=>some 130 | (.inr r26)=>some 0
def Ze7 (b:ZW) (x3:List Int) (s4:Int):Option (Int⊕(Unit⊕Unit)):=bif (decide (s4<(x3.length:Int))) then (Zt b.gang.crew.left s4).bind fun x5=>(Zt x3 s4).bind fun x6=>bif (decide (x6<x5)) then some (.inr (.inl ())) else some (.inl (w64 (s4+1))) else some (.inr (.inr ()))
def Ziw (b:ZW) (x10:List Int) (s11:Int):Option (Int⊕(Unit⊕Unit)):=bif (decide (s11<(x10.length:Int))) then (Zt b.gang.crew.left s11).bind fun x12=>(Zt x10 s11).bind fun x13=>bif (decide (x13<x12)) then some (.inr (.inl ())) else some (.inl (w64 (s11+1))) else some (.inr (.inr ()))
def Zin (b:ZW) (x16:List Int) (s17:Int):Option (Int⊕(Unit⊕Unit)):=bif (decide (s17<(x16.length:Int))) then (Zt b.gang.crew.left s17).bind fun x18=>(Zt x16 s17).bind fun x19=>bif (decide (x19<x18)) then some (.inr (.inl ())) else some (.inl (w64 (s17+1))) else some (.inr (.inr ()))
def ZdY (b:ZW) (x23:List Int) (s24:Int):Option (Int⊕(Unit⊕Unit)):=bif (decide (s24<(x23.length:Int))) then (Zt b.gang.crew.left s24).bind fun x25=>(Zt x23 s24).bind fun x26=>bif (decide (x26<x25)) then some (.inr (.inl ())) else some (.inl (w64 (s24+1))) else some (.inr (.inr ()))
def ZgM (a:Zj) (b:ZW):Option Int:=(Zbf a).bind fun x0=>bif (x0 != 0) then some x0 else (Zcl a b.demand).bind fun x1=>bif x1 then bif b.stealing then (Zel a b.gang).bind fun x2=>bif (x2 != 0) then some 190 else bif b.stealing then (Zbk a b.demand).bind fun x3=>(lp (Ze7 b x3) 0).bind fun r7=>match r7 with | (.inl r7)=>some 190 | (.inr r7)=>(ZaZ a b.demand b.gang.crew.left).bind fun x8=>bif (x8 != b.state) then some 190 else some 0 else bif (decide (0<(b.gang.deques.length:Int))) then some 190 else bif (decide (0<(b.gang.takers.length:Int))) then some 190 else bif (decide (0<(b.gang.from_.length:Int))) then some 190 else (Zep a b.gang.crew).bind fun x9=>bif (x9 != 0) then some 190 else (Zbk a b.demand).bind fun x10=>(lp (Ziw b x10) 0).bind fun r14=>match r14 with | (.inl r14)=>some 190 | (.inr r14)=>(ZaZ a b.demand b.gang.crew.left).bind fun x15=>bif (x15 != b.state) then some 190 else some 0 else bif b.stealing then (Zbk a b.demand).bind fun x16=>(lp (Zin b x16) 0).bind fun r20=>match r20 with | (.inl r20)=>some 190 | (.inr r20)=>(ZaZ a b.demand b.gang.crew.left).bind fun x21=>bif (x21 != b.state) then some 190 else some 0 else bif (decide (0<(b.gang.deques.length:Int))) then some 190 else bif (decide (0<(b.gang.takers.length:Int))) then some 190 else bif (decide (0<(b.gang.from_.length:Int))) then some 190 else (Zep a b.gang.crew).bind fun x22=>bif (x22 != 0) then some 190 else (Zbk a b.demand).bind fun x23=>(lp (ZdY b x23) 0).bind fun r27=>match r27 with | (.inl r27)=>some 190 | (.inr r27)=>(ZaZ a b.demand b.gang.crew.left).bind fun x28=>bif (x28 != b.state) then some 190 else some 0 else some 190
def Zfu (a:Za) (b:Int):Option Int:=bif (decide (b<0)) then bif ((a.ring.length:Int)==0) then none else (Zt a.ring (Int.tmod 0 (a.ring.length:Int))).bind fun x0=>some x0 else bif ((a.ring.length:Int)==0) then none else (Zt a.ring (Int.tmod b (a.ring.length:Int))).bind fun x1=>some x1
def Zco (a:Za) (s0:Int×(List Int)):Option ((Int×(List Int))⊕(List Int)):=bif (decide (s0.1<(w64 (a.bottom-a.top)))) then (Zfu a (w64 (a.top+s0.1))).bind fun x1=>bif (Nat.ble (s0.2.length+1) lim) then some (.inl ((w64 (s0.1+1)),(s0.2++[x1]))) else none else some (.inr s0.2)
def ZgV (a:Za):Option (List Int):=(lp (Zco a) (0,([]:List Int))).bind fun r2=>some r2
def Zcp (a:Zu) (s0:Int×Int):Option ((Int×Int)⊕Int):=bif (decide (s0.2<(a.deques.length:Int))) then (Zt a.deques s0.2).bind fun x1=>(ZgV x1).bind fun x2=>some (.inl ((w64 (s0.1+(x2.length:Int))),(w64 (s0.2+1)))) else some (.inr s0.1)
def Zdw (a:Zu) (r3:Int) (s4:Int×(List Int)):Option ((Int×(List Int))⊕(List Int)):=bif (decide (s4.1<(a.crew.on.length:Int))) then (Zt a.crew.on s4.1).bind fun x5=>bif (decide (x5<0)) then bif (decide (0<r3)) then bif (Nat.ble (s4.2.length+1) lim) then some (.inl ((w64 (s4.1+1)),(s4.2++[s4.1]))) else none else (Zt a.takers s4.1).bind fun x6=>bif (x6.at_ != 0) then bif (Nat.ble (s4.2.length+1) lim) then some (.inl ((w64 (s4.1+1)),(s4.2++[s4.1]))) else none else some (.inl ((w64 (s4.1+1)),s4.2)) else some (.inl ((w64 (s4.1+1)),s4.2)) else some (.inr s4.2)
def ZgP (a:Zu):Option (List Int):=(lp (Zcp a) (0,0)).bind fun r3=>(lp (Zdw a r3) (0,([]:List Int))).bind fun r7=>some r7
def Zae (a:Za) (b:Zb):Option (Za×Zb):=bif (b.at_==0) then some (a,(Zb.mk b.steal 1 a.top b.bottom b.got b.end_)) else bif (b.at_==1) then bif (decide (a.bottom<=b.top)) then some (a,(Zb.mk b.steal b.at_ b.top a.bottom b.got 2)) else some (a,(Zb.mk b.steal 2 b.top a.bottom b.got b.end_)) else bif (b.at_==2) then (Zfu a b.top).bind fun x0=>some (a,(Zb.mk b.steal 3 b.top b.bottom x0 b.end_)) else bif (a.top==b.top) then some ((Za.mk a.ring (w64 (a.top+1)) a.bottom),(Zb.mk b.steal b.at_ b.top b.bottom b.got 1)) else some (a,(Zb.mk b.steal b.at_ b.top b.bottom 0 3))
def Zad (a:Za) (b:Zb):Option (Za×Zb):=bif (b.at_==0) then some ((Za.mk a.ring a.top (w64 (a.bottom-1))),(Zb.mk b.steal 1 b.top (w64 (a.bottom-1)) b.got b.end_)) else bif (b.at_==1) then bif (decide (a.top<b.bottom)) then (Zfu a b.bottom).bind fun x0=>some (a,(Zb.mk b.steal b.at_ a.top b.bottom x0 1)) else bif (a.top==b.bottom) then some (a,(Zb.mk b.steal 2 a.top b.bottom b.got b.end_)) else some (a,(Zb.mk b.steal 3 a.top b.bottom b.got b.end_)) else bif (b.at_==2) then bif (a.top==b.top) then (Zfu (Za.mk a.ring (w64 (a.top+1)) a.bottom) b.bottom).bind fun x1=>some ((Za.mk a.ring (w64 (a.top+1)) a.bottom),(Zb.mk b.steal 4 b.top b.bottom x1 b.end_)) else some (a,(Zb.mk b.steal 3 b.top b.bottom b.got b.end_)) else bif (b.at_==3) then some ((Za.mk a.ring a.top (w64 (b.bottom+1))),(Zb.mk b.steal b.at_ b.top b.bottom b.got 2)) else some ((Za.mk a.ring a.top (w64 (b.bottom+1))),(Zb.mk b.steal b.at_ b.top b.bottom b.got 1))
def ZdZ (a:Za) (b:Zb):Option (Za×Zb×Int):=(ZC a).bind fun x0=>bif x0 then bif (decide (b.top<(-1))) then bif (b.end_ != 0) then some ((Za.mk ([]:List Int) 0 0),(Zb.mk false 0 0 0 0 0),122) else bif (decide (b.at_<0)) then some ((Za.mk ([]:List Int) 0 0),(Zb.mk false 0 0 0 0 0),122) else bif (decide (4<b.at_)) then some ((Za.mk ([]:List Int) 0 0),(Zb.mk false 0 0 0 0 0),122) else bif b.steal then bif (decide (3<b.at_)) then some ((Za.mk ([]:List Int) 0 0),(Zb.mk false 0 0 0 0 0),122) else bif (decide (0<b.at_)) then some ((Za.mk ([]:List Int) 0 0),(Zb.mk false 0 0 0 0 0),122) else bif b.steal then (Zae a b).bind fun x1=>(ZC x1.1).bind fun x2=>bif x2 then some (x1.1,x1.2,0) else some ((Za.mk ([]:List Int) 0 0),(Zb.mk false 0 0 0 0 0),120) else (Zad a b).bind fun x3=>(ZC x3.1).bind fun x4=>bif x4 then some (x3.1,x3.2,0) else some ((Za.mk ([]:List Int) 0 0),(Zb.mk false 0 0 0 0 0),120) else bif (decide (0<b.at_)) then some ((Za.mk ([]:List Int) 0 0),(Zb.mk false 0 0 0 0 0),122) else bif b.steal then (Zae a b).bind fun x5=>(ZC x5.1).bind fun x6=>bif x6 then some (x5.1,x5.2,0) else some ((Za.mk ([]:List Int) 0 0),(Zb.mk false 0 0 0 0 0),120) else (Zad a b).bind fun x7=>(ZC x7.1).bind fun x8=>bif x8 then some (x7.1,x7.2,0) else some ((Za.mk ([]:List Int) 0 0),(Zb.mk false 0 0 0 0 0),120) else bif (decide (1099511627775<b.top)) then bif (b.end_ != 0) then some ((Za.mk ([]:List Int) 0 0),(Zb.mk false 0 0 0 0 0),122) else bif (decide (b.at_<0)) then some ((Za.mk ([]:List Int) 0 0),(Zb.mk false 0 0 0 0 0),122) else bif (decide (4<b.at_)) then some ((Za.mk ([]:List Int) 0 0),(Zb.mk false 0 0 0 0 0),122) else bif b.steal then bif (decide (3<b.at_)) then some ((Za.mk ([]:List Int) 0 0),(Zb.mk false 0 0 0 0 0),122) else bif (decide (0<b.at_)) then some ((Za.mk ([]:List Int) 0 0),(Zb.mk false 0 0 0 0 0),122) else bif b.steal then (Zae a b).bind fun x9=>(ZC x9.1).bind fun x10=>bif x10 then some (x9.1,x9.2,0) else some ((Za.mk ([]:List Int) 0 0),(Zb.mk false 0 0 0 0 0),120) else (Zad a b).bind fun x11=>(ZC x11.1).bind fun x12=>bif x12 then some (x11.1,x11.2,0) else some ((Za.mk ([]:List Int) 0 0),(Zb.mk false 0 0 0 0 0),120) else bif (decide (0<b.at_)) then some ((Za.mk ([]:List Int) 0 0),(Zb.mk false 0 0 0 0 0),122) else bif b.steal then (Zae a b).bind fun x13=>(ZC x13.1).bind fun x14=>bif x14 then some (x13.1,x13.2,0) else some ((Za.mk ([]:List Int) 0 0),(Zb.mk false 0 0 0 0 0),120) else (Zad a b).bind fun x15=>(ZC x15.1).bind fun x16=>bif x16 then some (x15.1,x15.2,0) else some ((Za.mk ([]:List Int) 0 0),(Zb.mk false 0 0 0 0 0),120) else bif (decide (b.bottom<(-1))) then bif (b.end_ != 0) then some ((Za.mk ([]:List Int) 0 0),(Zb.mk false 0 0 0 0 0),122) else bif (decide (b.at_<0)) then some ((Za.mk ([]:List Int) 0 0),(Zb.mk false 0 0 0 0 0),122) else bif (decide (4<b.at_)) then some ((Za.mk ([]:List Int) 0 0),(Zb.mk false 0 0 0 0 0),122) else bif b.steal then bif (decide (3<b.at_)) then some ((Za.mk ([]:List Int) 0 0),(Zb.mk false 0 0 0 0 0),122) else bif (decide (0<b.at_)) then some ((Za.mk ([]:List Int) 0 0),(Zb.mk false 0 0 0 0 0),122) else bif b.steal then (Zae a b).bind fun x17=>(ZC x17.1).bind fun x18=>bif x18 then some (x17.1,x17.2,0) else some ((Za.mk ([]:List Int) 0 0),(Zb.mk false 0 0 0 0 0),120) else (Zad a b).bind fun x19=>(ZC x19.1).bind fun x20=>bif x20 then some (x19.1,x19.2,0) else some ((Za.mk ([]:List Int) 0 0),(Zb.mk false 0 0 0 0 0),120) else bif (decide (0<b.at_)) then some ((Za.mk ([]:List Int) 0 0),(Zb.mk false 0 0 0 0 0),122) else bif b.steal then (Zae a b).bind fun x21=>(ZC x21.1).bind fun x22=>bif x22 then some (x21.1,x21.2,0) else some ((Za.mk ([]:List Int) 0 0),(Zb.mk false 0 0 0 0 0),120) else (Zad a b).bind fun x23=>(ZC x23.1).bind fun x24=>bif x24 then some (x23.1,x23.2,0) else some ((Za.mk ([]:List Int) 0 0),(Zb.mk false 0 0 0 0 0),120) else bif (decide (1099511627775<b.bottom)) then bif (b.end_ != 0) then some ((Za.mk ([]:List Int) 0 0),(Zb.mk false 0 0 0 0 0),122) else bif (decide (b.at_<0)) then some ((Za.mk ([]:List Int) 0 0),(Zb.mk false 0 0 0 0 0),122) else bif (decide (4<b.at_)) then some ((Za.mk ([]:List Int) 0 0),(Zb.mk false 0 0 0 0 0),122) else bif b.steal then bif (decide (3<b.at_)) then some ((Za.mk ([]:List Int) 0 0),(Zb.mk false 0 0 0 0 0),122) else bif (decide (0<b.at_)) then some ((Za.mk ([]:List Int) 0 0),(Zb.mk false 0 0 0 0 0),122) else bif b.steal then (Zae a b).bind fun x25=>(ZC x25.1).bind fun x26=>bif x26 then some (x25.1,x25.2,0) else some ((Za.mk ([]:List Int) 0 0),(Zb.mk false 0 0 0 0 0),120) else (Zad a b).bind fun x27=>(ZC x27.1).bind fun x28=>bif x28 then some (x27.1,x27.2,0) else some ((Za.mk ([]:List Int) 0 0),(Zb.mk false 0 0 0 0 0),120) else bif (decide (0<b.at_)) then some ((Za.mk ([]:List Int) 0 0),(Zb.mk false 0 0 0 0 0),122) else bif b.steal then (Zae a b).bind fun x29=>(ZC x29.1).bind fun x30=>bif x30 then some (x29.1,x29.2,0) else some ((Za.mk ([]:List Int) 0 0),(Zb.mk false 0 0 0 0 0),120) else (Zad a b).bind fun x31=>(ZC x31.1).bind fun x32=>bif x32 then some (x31.1,x31.2,0) else some ((Za.mk ([]:List Int) 0 0),(Zb.mk false 0 0 0 0 0),120) else bif (b.end_ != 0) then some ((Za.mk ([]:List Int) 0 0),(Zb.mk false 0 0 0 0 0),122) else bif (decide (b.at_<0)) then some ((Za.mk ([]:List Int) 0 0),(Zb.mk false 0 0 0 0 0),122) else bif (decide (4<b.at_)) then some ((Za.mk ([]:List Int) 0 0),(Zb.mk false 0 0 0 0 0),122) else bif b.steal then bif (decide (3<b.at_)) then some ((Za.mk ([]:List Int) 0 0),(Zb.mk false 0 0 0 0 0),122) else bif (decide (0<b.at_)) then bif b.steal then (Zae a b).bind fun x33=>(ZC x33.1).bind fun x34=>bif x34 then some (x33.1,x33.2,0) else some ((Za.mk ([]:List Int) 0 0),(Zb.mk false 0 0 0 0 0),120) else (Zad a b).bind fun x35=>(ZC x35.1).bind fun x36=>bif x36 then some (x35.1,x35.2,0) else some ((Za.mk ([]:List Int) 0 0),(Zb.mk false 0 0 0 0 0),120) else bif b.steal then (Zae a b).bind fun x37=>(ZC x37.1).bind fun x38=>bif x38 then some (x37.1,x37.2,0) else some ((Za.mk ([]:List Int) 0 0),(Zb.mk false 0 0 0 0 0),120) else (Zad a b).bind fun x39=>(ZC x39.1).bind fun x40=>bif x40 then some (x39.1,x39.2,0) else some ((Za.mk ([]:List Int) 0 0),(Zb.mk false 0 0 0 0 0),120) else bif (decide (0<b.at_)) then bif b.steal then (Zae a b).bind fun x41=>(ZC x41.1).bind fun x42=>bif x42 then some (x41.1,x41.2,0) else some ((Za.mk ([]:List Int) 0 0),(Zb.mk false 0 0 0 0 0),120) else (Zad a b).bind fun x43=>(ZC x43.1).bind fun x44=>bif x44 then some (x43.1,x43.2,0) else some ((Za.mk ([]:List Int) 0 0),(Zb.mk false 0 0 0 0 0),120) else bif b.steal then (Zae a b).bind fun x45=>(ZC x45.1).bind fun x46=>bif x46 then some (x45.1,x45.2,0) else some ((Za.mk ([]:List Int) 0 0),(Zb.mk false 0 0 0 0 0),120) else (Zad a b).bind fun x47=>(ZC x47.1).bind fun x48=>bif x48 then some (x47.1,x47.2,0) else some ((Za.mk ([]:List Int) 0 0),(Zb.mk false 0 0 0 0 0),120) else some ((Za.mk ([]:List Int) 0 0),(Zb.mk false 0 0 0 0 0),120)
def ZaE (a:Zu) (b:Int) (c:Za):Option Zu:=bif (Nat.ble (a.deques.length) lim) then (Zt a.deques b).bind fun x0=>some (Zu.mk a.crew (List.set a.deques b.toNat c) a.takers a.from_) else none
def Zab (a:Zu) (b:Int) (c:Zb) (d:Int):Option Zu:=bif (Nat.ble (a.takers.length) lim) then bif (Nat.ble (a.from_.length) lim) then (Zt a.takers b).bind fun x0=>(Zt a.from_ b).bind fun x1=>some (Zu.mk a.crew a.deques (List.set a.takers b.toNat c) (List.set a.from_ b.toNat d)) else none else none
def ZbI (a2:List Zb) (a3:List Int) (b:Int) (c:Zb) (d:Int):Option Unit:=bif (Nat.ble (a2.length) lim) then bif (Nat.ble (a3.length) lim) then (Zt a2 b).bind fun x0=>(Zt a3 b).bind fun x1=>some () else none else none
def ZdU (a:Zj) (b:Zu) (c:Int):Option (Zu×Int):=(Zt b.from_ c).bind fun x0=>bif (decide ((b.crew.on.length:Int)<=(w64 (c+x0)))) then (Zt b.deques (w64 ((w64 (c+x0))-(b.crew.on.length:Int)))).bind fun x1=>(Zt b.takers c).bind fun x2=>(ZdZ x1 x2).bind fun x3=>bif (x3.2.2 != 0) then some ((Zu.mk (Zq.mk ([]:List Int) ([]:List Int)) ([]:List Za) ([]:List Zb) ([]:List Int)),130) else (ZaE b (w64 ((w64 (c+x0))-(b.crew.on.length:Int))) x3.1).bind fun x4=>(Zab x4 c x3.2.1 x0).bind fun x5=>bif (x3.2.1.end_==0) then some (x5,0) else bif (x3.2.1.end_ != 1) then (Zt x5.from_ c).bind fun x6=>bif ((w64 (x6+1))==(b.crew.on.length:Int)) then (Zab x5 c (Zb.mk false 0 0 0 0 0) 0).bind fun x7=>some (x7,0) else bif (decide (0<(w64 (x6+1)))) then (Zab x5 c (Zb.mk true 0 0 0 0 0) (w64 (x6+1))).bind fun x8=>some (x8,0) else (Zab x5 c (Zb.mk false 0 0 0 0 0) (w64 (x6+1))).bind fun x9=>some (x9,0) else (Zch a x5.crew).bind fun x10=>(Zcj x10 x3.2.1.got).bind fun x11=>bif x11 then bif (Nat.ble (x5.crew.on.length) lim) then (Zt x5.crew.on c).bind fun x12=>(ZbI x5.takers x5.from_ c (Zb.mk false 0 0 0 0 0) 0).bind fun x13=>some ((Zu.mk (Zq.mk (List.set x5.crew.on c.toNat x3.2.1.got) x5.crew.left) x5.deques (List.set x5.takers c.toNat (Zb.mk false 0 0 0 0 0)) (List.set x5.from_ c.toNat 0)),0) else none else some ((Zu.mk (Zq.mk ([]:List Int) ([]:List Int)) ([]:List Za) ([]:List Zb) ([]:List Int)),130) else (Zt b.deques (w64 (c+x0))).bind fun x14=>(Zt b.takers c).bind fun x15=>(ZdZ x14 x15).bind fun x16=>bif (x16.2.2 != 0) then some ((Zu.mk (Zq.mk ([]:List Int) ([]:List Int)) ([]:List Za) ([]:List Zb) ([]:List Int)),130) else (ZaE b (w64 (c+x0)) x16.1).bind fun x17=>(Zab x17 c x16.2.1 x0).bind fun x18=>bif (x16.2.1.end_==0) then some (x18,0) else bif (x16.2.1.end_ != 1) then (Zt x18.from_ c).bind fun x19=>bif ((w64 (x19+1))==(b.crew.on.length:Int)) then (Zab x18 c (Zb.mk false 0 0 0 0 0) 0).bind fun x20=>some (x20,0) else bif (decide (0<(w64 (x19+1)))) then (Zab x18 c (Zb.mk true 0 0 0 0 0) (w64 (x19+1))).bind fun x21=>some (x21,0) else (Zab x18 c (Zb.mk false 0 0 0 0 0) (w64 (x19+1))).bind fun x22=>some (x22,0) else (Zch a x18.crew).bind fun x23=>(Zcj x23 x16.2.1.got).bind fun x24=>bif x24 then bif (Nat.ble (x18.crew.on.length) lim) then (Zt x18.crew.on c).bind fun x25=>(ZbI x18.takers x18.from_ c (Zb.mk false 0 0 0 0 0) 0).bind fun x26=>some ((Zu.mk (Zq.mk (List.set x18.crew.on c.toNat x16.2.1.got) x18.crew.left) x18.deques (List.set x18.takers c.toNat (Zb.mk false 0 0 0 0 0)) (List.set x18.from_ c.toNat 0)),0) else none else some ((Zu.mk (Zq.mk ([]:List Int) ([]:List Int)) ([]:List Za) ([]:List Zb) ([]:List Int)),130)
def Zd5 (s0:Int×Int×(List Int)×(List Int)×(List Za)×(List Zb)×(List Int)) (x1:List Int) (s3:Int×Int):Option ((Int×Int)⊕Int):=bif (decide (0<=s3.2)) then (Zt x1 s3.2).bind fun x4=>bif (decide (s0.1<x4)) then some (.inl (x4,(w64 (s3.2-1)))) else some (.inl (s3.1,(w64 (s3.2-1)))) else some (.inr s3.1)
def Zee (a:Zj) (c:List Int) (s0:Int×Int×(List Int)×(List Int)×(List Za)×(List Zb)×(List Int)):Option ((Int×Int×(List Int)×(List Int)×(List Za)×(List Zb)×(List Int))⊕((Int×(List Int)×(List Int)×(List Za)×(List Zb)×(List Int))⊕Int)):=(ZgP (Zu.mk (Zq.mk s0.2.2.1 s0.2.2.2.1) s0.2.2.2.2.1 s0.2.2.2.2.2.1 s0.2.2.2.2.2.2)).bind fun x1=>bif ((x1.length:Int)==0) then some (.inr (.inl (s0.2.1,s0.2.2.1,s0.2.2.2.1,s0.2.2.2.2.1,s0.2.2.2.2.2.1,s0.2.2.2.2.2.2))) else (Zt x1 0).bind fun x2=>(lp (Zd5 s0 x1) (x2,(w64 ((x1.length:Int)-1)))).bind fun r5=>bif (decide (s0.2.1<(c.length:Int))) then (Zt c s0.2.1).bind fun x6=>bif ((x1.length:Int)==0) then none else (Zt x1 (Int.tmod (bif decide (x6<0) then 0 else x6) (x1.length:Int))).bind fun x7=>(ZdU a (Zu.mk (Zq.mk s0.2.2.1 s0.2.2.2.1) s0.2.2.2.2.1 s0.2.2.2.2.2.1 s0.2.2.2.2.2.2) x7).bind fun x8=>bif (x8.2 != 0) then some (.inr (.inr x8.2)) else some (.inl (x7,(w64 (s0.2.1+1)),x8.1.crew.on,x8.1.crew.left,x8.1.deques,x8.1.takers,x8.1.from_)) else (ZdU a (Zu.mk (Zq.mk s0.2.2.1 s0.2.2.2.1) s0.2.2.2.2.1 s0.2.2.2.2.2.1 s0.2.2.2.2.2.2) r5).bind fun x9=>bif (x9.2 != 0) then some (.inr (.inr x9.2)) else some (.inl (r5,(w64 (s0.2.1+1)),x9.1.crew.on,x9.1.crew.left,x9.1.deques,x9.1.takers,x9.1.from_))
def ZhJ (a:Zj) (b:Zu) (c:List Int):Option (Zu×Int×Int):=(lp (Zee a c) ((-1),0,b.crew.on,b.crew.left,b.deques,b.takers,b.from_)).bind fun r10=>match r10 with | (.inl r10)=>some ((Zu.mk (Zq.mk r10.2.1 r10.2.2.1) r10.2.2.2.1 r10.2.2.2.2.1 r10.2.2.2.2.2),r10.1,0) | (.inr r10)=>some ((Zu.mk (Zq.mk ([]:List Int) ([]:List Int)) ([]:List Za) ([]:List Zb) ([]:List Int)),0,r10)
def ZkL (a:Zj) (b:Zu) (c:List Int):Option (Zu×Int×Int):=(Zel a b).bind fun x0=>bif (x0 != 0) then some ((Zu.mk (Zq.mk ([]:List Int) ([]:List Int)) ([]:List Za) ([]:List Zb) ([]:List Int)),0,x0) else (ZhJ a b c).bind fun x1=>some (x1.1,x1.2.1,x1.2.2)
def ZcS (a:Zq) (s0:Int×(List Int)×(List Int)×(List Int)) (s1:Int×(List Int)×(List Int)×(List Int)):Option ((Int×(List Int)×(List Int)×(List Int))⊕((List Int)×(List Int)×(List Int))):=bif (decide (s1.1<(a.on.length:Int))) then (Zt a.on s1.1).bind fun x2=>bif (x2 != s0.1) then some (.inl ((w64 (s1.1+1)),s1.2.1,s1.2.2.1,s1.2.2.2)) else (Zt a.left s0.1).bind fun x3=>(Zt s1.2.2.2 s0.1).bind fun x4=>(Zt (List.set s1.2.2.2 s0.1.toNat (w64 (x3-1))) s0.1).bind fun x5=>bif (x5==0) then (Zt s1.2.2.1 s1.1).bind fun x6=>bif (Nat.ble (s1.2.1.length+1) lim) then some (.inl ((w64 (s1.1+1)),(s1.2.1++[s0.1]),(List.set s1.2.2.1 s1.1.toNat (-1)),(List.set s1.2.2.2 s0.1.toNat (w64 (x3-1))))) else none else some (.inl ((w64 (s1.1+1)),s1.2.1,s1.2.2.1,(List.set s1.2.2.2 s0.1.toNat (w64 (x3-1))))) else some (.inr (s1.2.1,s1.2.2.1,s1.2.2.2))
def ZcU (a:Zq) (s0:Int×(List Int)×(List Int)×(List Int)):Option ((Int×(List Int)×(List Int)×(List Int))⊕((List Int)×(List Int)×(List Int))):=bif (decide (s0.1<(a.left.length:Int))) then (lp (ZcS a s0) (0,s0.2.1,s0.2.2.1,s0.2.2.2)).bind fun r7=>some (.inl ((w64 (s0.1+1)),r7.1,r7.2.1,r7.2.2)) else some (.inr (s0.2.1,s0.2.2.1,s0.2.2.2))
def Zf5 (a:Zq):Option (Zq×(List Int)):=bif (Nat.ble (a.on.length) lim) then bif (Nat.ble (a.left.length) lim) then (lp (ZcU a) (0,([]:List Int),a.on,a.left)).bind fun r8=>some ((Zq.mk r8.2.1 r8.2.2),r8.1) else none else none
def ZdK (a:Zj) (b:Int) (s0:Int×(List Int)):Option ((Int×(List Int))⊕(List Int)):=bif (decide (s0.1<(a.work.length:Int))) then (ZfU a b s0.1).bind fun x1=>bif x1 then bif (Nat.ble (s0.2.length+1) lim) then some (.inl ((w64 (s0.1+1)),(s0.2++[s0.1]))) else none else some (.inl ((w64 (s0.1+1)),s0.2)) else some (.inr s0.2)
def ZgT (a:Zj) (b:Int):Option (List Int):=(lp (ZdK a b) (0,([]:List Int))).bind fun r2=>some r2
def Zfn (x2:List Int) (s3:Int×(List Int)×(List Int)×(List Za)×(List Zb)×(List Int)×(List Int)) (x6:List Int) (s7:Int×(List Int)×(List Int)×(List Za)×(List Zb)×(List Int)×(List Int)):Option ((Int×(List Int)×(List Int)×(List Za)×(List Zb)×(List Int)×(List Int))⊕(((List Int)×(List Int)×(List Za)×(List Zb)×(List Int)×(List Int))⊕((List Int)×(List Int)×(List Za)×(List Zb)×(List Int)×(List Int)))):=bif (decide (s7.1<(x6.length:Int))) then (Zt x6 s7.1).bind fun x8=>(Zcj x2 x8).bind fun x9=>bif x9 then (Zcj s7.2.2.2.2.2.2 x8).bind fun x10=>bif x10 then some (.inl ((w64 (s7.1+1)),s7.2.1,s7.2.2.1,s7.2.2.2.1,s7.2.2.2.2.1,s7.2.2.2.2.2.1,s7.2.2.2.2.2.2)) else (Zt s7.2.2.2.1 s3.1).bind fun x11=>(Ze2 x11 x8).bind fun x12=>bif (x12.2 != 0) then some (.inr (.inl (s7.2.1,s7.2.2.1,s7.2.2.2.1,s7.2.2.2.2.1,s7.2.2.2.2.2.1,s7.2.2.2.2.2.2))) else (ZaE (Zu.mk (Zq.mk s7.2.1 s7.2.2.1) s7.2.2.2.1 s7.2.2.2.2.1 s7.2.2.2.2.2.1) s3.1 x12.1).bind fun x13=>bif (Nat.ble (s7.2.2.2.2.2.2.length+1) lim) then some (.inl ((w64 (s7.1+1)),x13.crew.on,x13.crew.left,x13.deques,x13.takers,x13.from_,(s7.2.2.2.2.2.2++[x8]))) else none else some (.inl ((w64 (s7.1+1)),s7.2.1,s7.2.2.1,s7.2.2.2.1,s7.2.2.2.2.1,s7.2.2.2.2.2.1,s7.2.2.2.2.2.2)) else some (.inr (.inr (s7.2.1,s7.2.2.1,s7.2.2.2.1,s7.2.2.2.2.1,s7.2.2.2.2.2.1,s7.2.2.2.2.2.2)))
def Zec (a:Zj) (b:Zu) (x1:(Zq×(List Int))) (x2:List Int) (s3:Int×(List Int)×(List Int)×(List Za)×(List Zb)×(List Int)×(List Int)):Option ((Int×(List Int)×(List Int)×(List Za)×(List Zb)×(List Int)×(List Int))⊕(((List Int)×(List Int)×(List Za)×(List Zb)×(List Int))⊕((List Int)×(List Int)×(List Za)×(List Zb)×(List Int)))):=bif (decide (s3.1<(b.crew.on.length:Int))) then (Zt b.crew.on s3.1).bind fun x4=>bif (decide (x4<0)) then some (.inl ((w64 (s3.1+1)),s3.2.1,s3.2.2.1,s3.2.2.2.1,s3.2.2.2.2.1,s3.2.2.2.2.2.1,s3.2.2.2.2.2.2)) else (Zcj x1.2 x4).bind fun x5=>bif x5 then (ZgT a x4).bind fun x6=>(lp (Zfn x2 s3 x6) (0,s3.2.1,s3.2.2.1,s3.2.2.2.1,s3.2.2.2.2.1,s3.2.2.2.2.2.1,s3.2.2.2.2.2.2)).bind fun r14=>match r14 with | (.inl r14)=>some (.inr (.inl (r14.1,r14.2.1,r14.2.2.1,r14.2.2.2.1,r14.2.2.2.2.1))) | (.inr r14)=>some (.inl ((w64 (s3.1+1)),r14.1,r14.2.1,r14.2.2.1,r14.2.2.2.1,r14.2.2.2.2.1,r14.2.2.2.2.2)) else some (.inl ((w64 (s3.1+1)),s3.2.1,s3.2.2.1,s3.2.2.2.1,s3.2.2.2.2.1,s3.2.2.2.2.2.1,s3.2.2.2.2.2.2)) else some (.inr (.inr (s3.2.1,s3.2.2.1,s3.2.2.2.1,s3.2.2.2.2.1,s3.2.2.2.2.2.1)))
def ZhG (a:Zj) (b:Zu):Option (Zu×(List Int)×Int):=(Zel a b).bind fun x0=>bif (x0 != 0) then some ((Zu.mk (Zq.mk ([]:List Int) ([]:List Int)) ([]:List Za) ([]:List Zb) ([]:List Int)),([]:List Int),x0) else (Zf5 b.crew).bind fun x1=>(Zch a x1.1).bind fun x2=>(lp (Zec a b x1 x2) (0,x1.1.on,x1.1.left,b.deques,b.takers,b.from_,([]:List Int))).bind fun r15=>match r15 with | (.inl r15)=>some ((Zu.mk (Zq.mk ([]:List Int) ([]:List Int)) ([]:List Za) ([]:List Zb) ([]:List Int)),([]:List Int),130) | (.inr r15)=>some ((Zu.mk (Zq.mk r15.1 r15.2.1) r15.2.2.1 r15.2.2.2.1 r15.2.2.2.2),x1.2,0)
def Zb0 (a:Zj) (b:Zq) (s0:Int×(List Int)):Option ((Int×(List Int))⊕(List Int)):=bif (decide (s0.1<(s0.2.length:Int))) then (Zch a (Zq.mk s0.2 b.left)).bind fun x1=>(Zt s0.2 s0.1).bind fun x2=>bif (x2==(-1)) then bif (decide (0<(x1.length:Int))) then (Zt x1 0).bind fun x3=>some (.inl ((w64 (s0.1+1)),(List.set s0.2 s0.1.toNat x3))) else some (.inl ((w64 (s0.1+1)),s0.2)) else some (.inl ((w64 (s0.1+1)),s0.2)) else some (.inr s0.2)
def ZhH (a:Zj) (b:Zq):Option Zq:=bif (Nat.ble (b.on.length) lim) then bif (Nat.ble (b.left.length) lim) then (lp (Zb0 a b) (0,b.on)).bind fun r4=>some (Zq.mk r4 b.left) else none else none
def ZfS (a:Zj) (b:ZW) (c:List Int):Option (ZW×Zaw×Int):=(ZgM a b).bind fun x0=>bif (x0 != 0) then some ((ZW.mk false ([]:List Int) 0 (Zu.mk (Zq.mk ([]:List Int) ([]:List Int)) ([]:List Za) ([]:List Zb) ([]:List Int))),(Zaw.mk ([]:List Int) ([]:List Int) 0),x0) else bif (b.state != 1) then some ((ZW.mk false ([]:List Int) 0 (Zu.mk (Zq.mk ([]:List Int) ([]:List Int)) ([]:List Za) ([]:List Zb) ([]:List Int))),(Zaw.mk ([]:List Int) ([]:List Int) 0),191) else bif b.stealing then (ZkL a b.gang c).bind fun x1=>bif (x1.2.2 != 0) then some ((ZW.mk false ([]:List Int) 0 (Zu.mk (Zq.mk ([]:List Int) ([]:List Int)) ([]:List Za) ([]:List Zb) ([]:List Int))),(Zaw.mk ([]:List Int) ([]:List Int) 0),x1.2.2) else bif (Nat.ble (x1.1.crew.on.length) lim) then (ZhG a x1.1).bind fun x2=>bif (x2.2.2 != 0) then some ((ZW.mk false ([]:List Int) 0 (Zu.mk (Zq.mk ([]:List Int) ([]:List Int)) ([]:List Za) ([]:List Zb) ([]:List Int))),(Zaw.mk ([]:List Int) ([]:List Int) 0),x2.2.2) else (ZaZ a b.demand x2.1.crew.left).bind fun x3=>some ((ZW.mk b.stealing b.demand x3 x2.1),(Zaw.mk x1.1.crew.on x2.2.1 x1.2.1),0) else none else (ZhH a b.gang.crew).bind fun x4=>bif (Nat.ble (x4.on.length) lim) then (Zf5 x4).bind fun x5=>(ZaZ a b.demand x5.1.left).bind fun x6=>some ((ZW.mk b.stealing b.demand x6 (Zu.mk x5.1 b.gang.deques b.gang.takers b.gang.from_)),(Zaw.mk x4.on x5.2 0),0) else none
def ZeD (x0:(ZW×Int)) (s1:Int×Int):Option ((Int×Int)⊕Int):=bif (decide (s1.2<(x0.1.gang.crew.left.length:Int))) then (Zt x0.1.gang.crew.left s1.2).bind fun x2=>some (.inl ((w64 (s1.1+x2)),(w64 (s1.2+1)))) else some (.inr s1.1)
def Zdv (a:Zj) (s4:(List Int)×Bool×(List Int)×Int×(List Int)×(List Int)×(List Za)×(List Zb)×(List Int)×(List (List Int))):Option (((List Int)×Bool×(List Int)×Int×(List Int)×(List Int)×(List Za)×(List Zb)×(List Int)×(List (List Int)))⊕((Int×Bool×(List Int)×Int×(List Int)×(List Int)×(List Za)×(List Zb)×(List Int)×(List (List Int)))⊕(Bool×(List Int)×Int×(List Int)×(List Int)×(List Za)×(List Zb)×(List Int)×(List (List Int))))):=bif (s4.2.2.2.1==1) then (ZfS a (ZW.mk s4.2.1 s4.2.2.1 s4.2.2.2.1 (Zu.mk (Zq.mk s4.2.2.2.2.1 s4.2.2.2.2.2.1) s4.2.2.2.2.2.2.1 s4.2.2.2.2.2.2.2.1 s4.2.2.2.2.2.2.2.2.1)) s4.1).bind fun x5=>bif (x5.2.2 != 0) then some (.inr (.inl (x5.2.2,s4.2.1,s4.2.2.1,s4.2.2.2.1,s4.2.2.2.2.1,s4.2.2.2.2.2.1,s4.2.2.2.2.2.2.1,s4.2.2.2.2.2.2.2.1,s4.2.2.2.2.2.2.2.2.1,s4.2.2.2.2.2.2.2.2.2))) else bif (decide (0<=(bif decide ((s4.1.length:Int)<x5.2.1.steps) then (s4.1.length:Int) else x5.2.1.steps))) then bif (Nat.ble (bif decide ((s4.1.length:Int)<x5.2.1.steps) then (s4.1.length:Int) else x5.2.1.steps).toNat (s4.1.length)) then bif (Nat.ble (s4.2.2.2.2.2.2.2.2.2.length+1) lim) then some (.inl ((List.drop (bif decide ((s4.1.length:Int)<x5.2.1.steps) then (s4.1.length:Int) else x5.2.1.steps).toNat s4.1),x5.1.stealing,x5.1.demand,x5.1.state,x5.1.gang.crew.on,x5.1.gang.crew.left,x5.1.gang.deques,x5.1.gang.takers,x5.1.gang.from_,(s4.2.2.2.2.2.2.2.2.2++[x5.2.1.on]))) else none else none else none else some (.inr (.inr (s4.2.1,s4.2.2.1,s4.2.2.2.1,s4.2.2.2.2.1,s4.2.2.2.2.2.1,s4.2.2.2.2.2.2.1,s4.2.2.2.2.2.2.2.1,s4.2.2.2.2.2.2.2.2.1,s4.2.2.2.2.2.2.2.2.2)))
def ZfI (a:Zj) (b:List Int) (c:Int) (d:Bool) (e:List Int):Option ((List (List Int))×Int×Int):=(ZcZ a b c d).bind fun x0=>bif (x0.2 != 0) then some (([]:List (List Int)),0,x0.2) else (lp (ZeD x0) (0,0)).bind fun r3=>bif (decide (4096<r3)) then some (([]:List (List Int)),0,190) else (lp (Zdv a) (e,x0.1.stealing,x0.1.demand,x0.1.state,x0.1.gang.crew.on,x0.1.gang.crew.left,x0.1.gang.deques,x0.1.gang.takers,x0.1.gang.from_,([]:(List (List Int))))).bind fun r6=>match r6 with | (.inl r6)=>some (([]:List (List Int)),0,r6.1) | (.inr r6)=>some (r6.2.2.2.2.2.2.2.2,r6.2.2.1,0)
def Zd9 (a:List Int) (b:List Int) (s0:Int):Option (Int⊕(Unit⊕Unit)):=bif (decide (s0<(a.length:Int))) then (Zt a s0).bind fun x1=>(Zt b s0).bind fun x2=>bif (x1 != x2) then some (.inr (.inl ())) else some (.inl (w64 (s0+1))) else some (.inr (.inr ()))
def ZbE (a:List Int) (b:List Int):Option Bool:=bif ((a.length:Int) != (b.length:Int)) then some false else (lp (Zd9 a b) 0).bind fun r3=>match r3 with | (.inl r3)=>some false | (.inr r3)=>some true
def ZbH (a:(List (List Int))) (b:(List (List Int))) (s0:Int):Option (Int⊕(Unit⊕Unit)):=bif (decide (s0<(a.length:Int))) then (Zt a s0).bind fun x1=>(Zt b s0).bind fun x2=>(ZbE x1 x2).bind fun x3=>bif x3 then some (.inl (w64 (s0+1))) else some (.inr (.inl ())) else some (.inr (.inr ()))
def Zes (a:(List (List Int))) (b:(List (List Int))):Option Bool:=bif ((a.length:Int) != (b.length:Int)) then some false else (lp (ZbH a b) 0).bind fun r4=>match r4 with | (.inl r4)=>some false | (.inr r4)=>some true
def ZkR (a b:Zq):Option Bool:=(ZbE a.on b.on).bind fun x0=>bif x0 then (ZbE a.left b.left).bind fun x1=>bif x1 then some true else some false else some false
def ZhM (a b:Za):Option Bool:=(ZbE a.ring b.ring).bind fun x0=>bif x0 then bif (a.top==b.top) then bif (a.bottom==b.bottom) then some true else some false else some false else some false
def Zfk (a b:Zu) (s2:Int):Option (Int⊕(Unit⊕Unit)):=bif (decide (s2<(a.deques.length:Int))) then (Zt a.deques s2).bind fun x3=>(Zt b.deques s2).bind fun x4=>(ZhM x3 x4).bind fun x5=>bif x5 then some (.inl (w64 (s2+1))) else some (.inr (.inl ())) else some (.inr (.inr ()))
def Zfs (a b:Zu) (s7:Int):Option (Int⊕(Unit⊕Unit)):=bif (decide (s7<(a.takers.length:Int))) then (Zt a.takers s7).bind fun x8=>(Zt b.takers s7).bind fun x9=>bif (!((x8.steal==x9.steal)&&((x8.at_==x9.at_)&&((x8.top==x9.top)&&((x8.bottom==x9.bottom)&&((x8.got==x9.got)&&((x8.end_==x9.end_)&&true))))))) then some (.inr (.inl ())) else some (.inl (w64 (s7+1))) else some (.inr (.inr ()))
def Ze1 (a b:Zu):Option Bool:=(ZkR a.crew b.crew).bind fun x0=>bif x0 then bif ((a.deques.length:Int) != (b.deques.length:Int)) then some false else bif ((a.takers.length:Int) != (b.takers.length:Int)) then some false else (ZbE a.from_ b.from_).bind fun x1=>bif x1 then (lp (Zfk a b) 0).bind fun r6=>match r6 with | (.inl r6)=>some false | (.inr r6)=>(lp (Zfs a b) 0).bind fun r10=>match r10 with | (.inl r10)=>some false | (.inr r10)=>some true else some false else some false
def ZhV (a b:ZW):Option Bool:=bif a.stealing then bif b.stealing then (ZbE a.demand b.demand).bind fun x0=>bif x0 then bif (a.state==b.state) then (Ze1 a.gang b.gang).bind fun x1=>bif x1 then some true else some false else some false else some false else some false else bif b.stealing then some false else (ZbE a.demand b.demand).bind fun x2=>bif x2 then bif (a.state==b.state) then (Ze1 a.gang b.gang).bind fun x3=>bif x3 then some true else some false else some false else some false
def Zgt (a:Zj) (b:List Int) (c:Int) (d:Bool) (e:List Int):Option Bool:=Zen.bind fun x0=>bif x0 then (Zf6 a b).bind fun x1=>bif x1 then bif (decide (600<(e.length:Int))) then Zen.bind fun x2=>bif x2 then some true else some false else (ZfE a).bind fun x3=>(ZeV b).bind fun x4=>(ZeV e).bind fun x5=>(ZgD a b c d e).bind fun x6=>(ZfI a b c d e).bind fun x7=>(ZfE a).bind fun x8=>(ZeV b).bind fun x9=>(ZeI a b c d).bind fun x10=>(ZcZ a b c d).bind fun x11=>(Zes x6.1 x7.1).bind fun x12=>bif x12 then bif (x6.2.1==x7.2.1) then bif (x6.2.2==x7.2.2) then (ZhV x10.1 x11.1).bind fun x13=>bif x13 then bif (x10.2==x11.2) then some true else some false else some false else some false else some false else some false else Zen.bind fun x14=>bif x14 then some true else some false else Zen.bind fun x15=>bif x15 then some true else some false
abbrev zL (t:Bool) (l:List Int):D:=.list t (List.map Zs l)
abbrev zM {A:Type} (t:Bool) (f:A->D) (l:List A):D:=.list t (List.map f l)
abbrev zN (n:Int):V:=.d (Zs n)
abbrev zV (t:Bool) (l:List Int):V:=.d (zL t l)
abbrev zW {A:Type} (t:Bool) (f:A->D) (l:List A):V:=.d (zM t f l)
abbrev zA (l:List Int):Blk:=.arr 1 (List.map Zs l)
abbrev zK0 (x0:Bool) (x1:List Int) (x2:Bool) (x3:List Zv):Blk:=.cells [(zV x0 x1),(zW x2 Zbs x3)]
abbrev zK1 (x0:Bool) (x1:List Int) (x2:Bool) (x3:List Zv):D:=D.agg [(zL x0 x1),(zM x2 Zbs x3)]
abbrev zK2 (x0:Bool) (x1:List Int) (x2:Bool) (x3:List Int) (x4:Bool) (x5:List Za) (x6:Bool) (x7:List Zb) (x8:Bool) (x9:List Int):Blk:=.cells [(zV x0 x1),(zV x2 x3),(zW x4 Zy x5),(zW x6 ZD x7),(zV x8 x9)]
abbrev zK3 (x0:Bool) (x1:List Int) (x2:Bool) (x3:List Int) (x4:Bool) (x5:List Za) (x6:Bool) (x7:List Zb) (x8:Bool) (x9:List Int):D:=D.agg [(zL x0 x1),(zL x2 x3),(zM x4 Zy x5),(zM x6 ZD x7),(zL x8 x9)]
abbrev zK4 (x0:Bool) (x1:List Int) (x2:Int) (x3:Int):D:=D.agg [(zL x0 x1),(Zs x2),(Zs x3)]
abbrev zK5 (x0:Bool) (x1:List Int) (x2:Bool) (x3:List Int):D:=D.agg [(zL x0 x1),(zL x2 x3)]
abbrev zK6 (x0:Bool) (x1:List Int) (x2:Bool) (x3:List Int):Blk:=.cells [(zV x0 x1),(zV x2 x3)]
abbrev zK7 (x0:Bool) (x1:List Int) (x2:Bool) (x3:List Zv) (x4:Int):Blk:=.cells [(.sl 1 1),(.sl 2 1),(.sl 3 3),(.sl 4 6),(.sl 5 1),(zV x0 x1),(zW x2 Zbs x3),(zN x4)]
abbrev zK8 (x0:Bool) (x1:List Int):Blk:=.cells [(zV x0 x1),(.sl 1 1),(.sl 2 2),(.sl 3 1)]
abbrev zK9  : Blk:=.cells [(.sl 4 1),(.sl 5 1)]
abbrev ZvP (x0:Int) (x1:Int):Blk:=.cells [(.sl 2 1),(zN x0),(zN x1)]
abbrev ZwP  : Blk:=.cells [(.sl 4 1),(.sl 5 1),(.sl 6 3),(.sl 7 6),(.sl 8 1)]
abbrev Zwn  : Blk:=.cells [(.sl 2 1),(.sl 3 1),(.sl 4 3),(.sl 5 6),(.sl 6 1)]
abbrev Zv6 (x0:Bool) (x1:List Int) (x2:Bool) (x3:List Int) (x4:Bool) (x5:List ZaI) (x6:Bool) (x7:List Int):D:=D.rptr [(zL x0 x1),(zL x2 x3),(zM x4 Zgk x5),(zL x6 x7)]
abbrev Zw1 (x0:Bool) (x1:List Int) (x2:Bool) (x3:List Int) (x4:Bool) (x5:List Za) (x6:Bool) (x7:List Zb) (x8:Bool) (x9:List Int) (x10:Bool) (x11:List Int) (x12:Bool) (x13:List Zv) (x14:Int):D:=D.rptr [(zL x0 x1),(zL x2 x3),(zM x4 Zy x5),(zM x6 ZD x7),(zL x8 x9),(zL x10 x11),(zM x12 Zbs x13),(Zs x14)]
abbrev ZyR (x0:Bool) (x1:List Int):Blk:=.cells [(zV x0 x1),(.sl 2 1),(.sl 3 2),(.sl 4 1)]
abbrev ZD8  : Blk:=.cells [(.sl 2 1),(.sl 3 1)]
abbrev ZAR (x0:Int) (x1:Int):D:=D.agg [(Zs x0),(Zs x1)]
end
def ZB4 (n a b:Int):Bool:=decide (a<=n)&&decide (n<=b)
theorem ZlM {γ:Type} (l:List γ) (p:γ->Bool) (step:Int->Option (Int⊕(Int⊕Unit)))
  (h1:∀i x,i<l.length->l[i]? = some x->step (i:Int)=some (bif p x then .inr (.inl (i:Int)) else .inl ((i+1:Nat):Int)))
  (h2:step (l.length:Int)=some (.inr (.inr ()))) :
  (((lp step 0).bind fun(r:Int⊕Unit)=>match r with | .inl r=>some r | .inr _=>some (-1)).bind fun x=>bif decide (0<=x) then some true else some false)=some (l.any p):=by
 rw[Zdd l step (fun _=>p) (fun i _=>.inl (i:Int)) (.inr ()) h1 h2]
 rcases ZrK p () l 0 with⟨j,e1,e2⟩ | ⟨e1,e2⟩
 ·rw[e1,e2]
  show(bif decide ((0:Int)<=(j:Int)) then some true else some false)=some true
  rw[dT (by omega)]
  rfl
 ·rw[e1,e2]
  rfl
def Zoe (e x:Zv):Bool:=e.src==x.src&&(e.dst==x.dst&&true)
theorem Zzt (l:List Zv) (e:Zv) (hl:l.length<9223372036854775808):ZaT l e=some (l.any (Zoe e)):=by
 unfold ZaT Zcv
 refine ZlM l (Zoe e) _ (fun i x hi hx=>?_) ?_
 ·simp only[ZaQ,ZaU hi,Zn hx,bS,ZA hi hl,cT,Zoe]
  cases (e.src==x.src&&(e.dst==x.dst&&true))<;>rfl
 ·simp only[ZaQ,ZaY];rfl
def again (f g:Zxm):Bool:=g.user==f.user&&g.pos==f.pos
theorem Zhd (l:List Int) (n:Int) (hl:l.length<9223372036854775808):ZR l n=some (l.any (fun x=>n==x)):=by
 unfold ZR Zc7
 refine ZlM l (fun x=>n==x) _ (fun i x hi hx=>?_) ?_
 ·simp only[Zbb,ZaU hi,Zn hx,bS,ZA hi hl,cT]
  cases (n==x)<;>rfl
 ·simp only[Zbb,ZaY];rfl
theorem Zff (l:List Int) (f:Int->Option Bool) (p:Int->Bool) (hf:∀x∈l,f x=some (p x)) (hl:l.length<9223372036854775808):ZF l f=some (l.any p):=by
 unfold ZF ZL
 refine ZlM l p _ (fun i x hi hx=>?_) ?_
 ·simp only[ZE,ZaU hi,Zn hx,bS,hf x (mG hx),ZA hi hl,cT]
  cases p x<;>rfl
 ·simp only[ZE,ZaY];rfl
def two (n:Nat) (a b:Int):Bool:=(a != b)&&(ZB4 a 0 (n-1)&&ZB4 b 0 (n-1))
def Zjv (n:Int):Int:=bif decide (n<0) then 10 else bif decide (1099511627775<n) then 11 else 0
theorem Zni (n:Int):Zg0 n=some (Zjv n):=by
 unfold Zg0 Zjv
 cases decide (n<0)<;>cases decide (1099511627775<n)<;>rfl
noncomputable def Zyy (x:Int):Int:=match ZbU x with | some n=>n | none=>0
theorem ZFw (x:Int):ZcE x=some (Zyy x):=by
 unfold ZcE Zyy ZbU
 rfl
def ZCX (n:Nat):Bool:=[1,2,4,8,16,32,64,128,256,512,1024,2048,4096].contains n
theorem ZwJ:((List.range 4097).all fun n=>(Zyy (u64.wrap (n:Int))==1)==ZCX n)=true:=by kernel_rfl
theorem Zxe (n:Nat) (h:n<=4096):(Zyy (u64.wrap (n:Int))==1)=ZCX n:=by
 have:=List.all_eq_true.1 ZwJ n (by simp;omega)
 simpa using this
noncomputable def ZBM (n:Int):Bool:=!(Zjv n != 0) && !(Zyy (u64.wrap n) != 1)
theorem Zz1 (n:Int):Zh2 n=some (bif ZBM n then .inr () else .inl ()):=by
 have tz:Zbq (u64.wrap n)=some ():=by
  unfold Zbq Zb9
  cases u64.wrap n==0<;>rfl
 unfold Zh2 ZBM
 simp only[Zni,ZFw,bS,tz]
 cases (Zjv n != 0)
 ·cases (Zyy (u64.wrap n) != 1)<;>rfl
 ·rfl
theorem ZwN (n:Nat) (h:n<=4096):ZBM (n:Int)=ZCX n:=by
 have h1:(Zjv (n:Int) != 0)=false:=by
  unfold Zjv
  rw[dF (show ¬((n:Int)<0) by omega),dF (show ¬((1099511627775:Int)<n) by omega)]
  rfl
 rw[<- Zxe n h]
 unfold ZBM
 rw[h1]
 unfold bne
 rw[Bool.not_not]
 rfl
open List (length_nil length_take length_map length_set length_cons map_cons length_singleton getElem_mem drop_zero append_nil mem_singleton any_eq_true sum_cons set_set)
def ZGe (b:Zvb):Prop:=b.ins.length<9223372036854775808/\b.outs.length<9223372036854775808
structure ZFd (d:ZAh):Prop where
 p:d.parts.length<9223372036854775808
 e:d.edges.length<9223372036854775808
 f:d.futures.length<9223372036854775808
 b:d.barriers.length<9223372036854775808
 i:∀b∈d.barriers,ZGe b
theorem ZwF {γ:Type}{l:List γ}{i n:Nat} (h:l.length<n):(l.take i).length<n:=by rw[length_take];omega
open Nat (succ_mul le_trans lt_or_ge zero_le add_zero zero_add add_mul mod_lt mod_eq_of_lt)
def ZDY (n:Int):Bool:=(List.range 40).any fun k=>((2:Int) ^ k==n)
theorem ZDz (n:Int):∃k,Zhb n=some (k,ZDY n):=by
 have step:∀k:Nat,k<40->ZbK n ((2:Int) ^ k,(k:Int))=some (bif ((2:Int) ^ k==n) then .inr (.inl (k:Int)) else .inl ((2:Int) ^ (k+1),((k+1:Nat):Int))):=by
  intro k hk
  have hp:(2:Int) ^ k<=2 ^ 39:=by
   have:(2:Nat) ^ k<=2 ^ 39:=Nat.pow_le_pow_right (by omega) (by omega)
   exact_mod_cast this
  have hq:(0:Int)<2 ^ k:=by
   have:(0:Nat)<2 ^ k:=Nat.pow_pos (by omega)
   exact_mod_cast this
  have e39:(2:Int) ^ 39=549755813888:=by decide
  rw[e39] at hp
  have e1:w64 (2*(2:Int) ^ k)=(2:Int) ^ (k+1):=by rw[Zcm (by omega),Int.pow_succ];omega
  have e2:w64 ((k:Int)+1)=((k+1:Nat):Int):=ZA hk (by omega)
  unfold ZbK
  simp only[dT (show(k:Int)<40 by omega),cT,e1,e2]
  cases ((2:Int) ^ k==n)<;>rfl
 have key:∀m k:Nat,k+m=40->lp (ZbK n) ((2:Int) ^ k,(k:Int))=some (match (List.range' k m).find? (fun j=>(2:Int) ^ j==n) with | some j=>.inl (j:Int) | none=>.inr ()):=by
  intro m
  induction m with
  | zero=>
   intro k hk
   have:k=40:=by omega
   subst this
   rw[Zaj]
   unfold ZbK
   rfl
  | succ m ih=>
   intro k hk
   rw[Zaj,step k (by omega),List.range'_succ,List.find?_cons]
   cases h:((2:Int) ^ k==n) with
   | true=>rfl
   | false=>exact ih (k+1) (by omega)
 have k0:=key 40 0 rfl
 rw[show((2:Int) ^ 0)=1 from rfl] at k0
 have e:(List.range 40).any (fun j=>(2:Int) ^ j==n)=((List.range' 0 40).find? (fun j=>(2:Int) ^ j==n)).isSome:=by
  rw[List.range_eq_range',Bool.eq_iff_iff,any_eq_true,List.find?_isSome]
 unfold Zhb ZDY
 rw[e]
 cases hf:(List.range' 0 40).find? (fun j=>(2:Int) ^ j==n) with
 | none=>
  rw[hf] at k0
  refine⟨0,?_⟩
  show(lp (ZbK n) (1,((0:Nat):Int))).bind _=_
  rw[k0];rfl
 | some j=>
  rw[hf] at k0
  refine⟨j,?_⟩
  show(lp (ZbK n) (1,((0:Nat):Int))).bind _=_
  rw[k0];rfl
theorem Zww (n:Nat) (h:n<=4096):ZDY (n:Int)=ZCX n:=by
 rw[Bool.eq_iff_iff]
 unfold ZDY ZCX
 rw[any_eq_true]
 constructor
 ·rintro ⟨k,hk,he⟩
  have hk:=List.mem_range.1 hk
  have he:(2:Nat) ^ k=n:=by have:=eq_of_beq he;exact_mod_cast this
  have h13:k<13:=by
   rcases lt_or_ge k 13 with h1 | h1
   ·exact h1
   ·have:2 ^ 13<=2 ^ k:=Nat.pow_le_pow_right (by omega) h1
    omega
  subst he
  have:((List.range 13).all fun k=>[1,2,4,8,16,32,64,128,256,512,1024,2048,4096].contains (2 ^ k))=true:=by decide
  exact List.all_eq_true.1 this k (by simpa using h13)
 ·intro h
  have:n=2 ^ 0∨n=2 ^ 1∨n=2 ^ 2∨n=2 ^ 3∨n=2 ^ 4∨n=2 ^ 5∨n=2 ^ 6∨n=2 ^ 7∨n=2 ^ 8∨n=2 ^ 9∨n=2 ^ 10∨n=2 ^ 11∨n=2 ^ 12:=by
   simpa using h
  rcases this with h | h | h | h | h | h | h | h | h | h | h | h | h<;>subst h
  ·exact⟨0,by decide,by decide⟩
  ·exact⟨1,by decide,by decide⟩
  ·exact⟨2,by decide,by decide⟩
  ·exact⟨3,by decide,by decide⟩
  ·exact⟨4,by decide,by decide⟩
  ·exact⟨5,by decide,by decide⟩
  ·exact⟨6,by decide,by decide⟩
  ·exact⟨7,by decide,by decide⟩
  ·exact⟨8,by decide,by decide⟩
  ·exact⟨9,by decide,by decide⟩
  ·exact⟨10,by decide,by decide⟩
  ·exact⟨11,by decide,by decide⟩
  ·exact⟨12,by decide,by decide⟩
def Zhp (n:Nat) (x:Int):Bool:=decide (0<=x)&&decide (x<(n:Int))
theorem ZAf {γ R:Type} (l:List γ) (i:Nat) (hi:i<l.length) (step:Int->Option (Int⊕R)) (p:γ->Bool) (c fin:R)
  (h1:∀(k:Nat) x,k<i->l[k]? = some x->step (k:Int)=some (bif p x then .inr c else .inl ((k+1:Nat):Int)))
  (h2:step (i:Int)=some (.inr fin)):lp step 0=some (bif (l.take i).any p then c else fin):=by
 have hl:(l.take i).length=i:=by rw[length_take];omega
 have key:=Zdd (l.take i) step (fun _=>p) (fun _ _=>c) fin (fun k x hk hx=>by
   rw[hl] at hk
   refine h1 k x hk ?_
   rw[List.getElem?_take_of_lt hk] at hx
   exact hx) (by rw[hl];exact h2)
 rw[key,Zbi,Zg2]
theorem Zky (l:List Int) (n:Int) (hl:l.length<9223372036854775808):Zcj l n=some (l.any fun x=>n==x):=by
 have key:=Zdd l (ZeO l n) (fun _ x=>n==x) (fun _ _=>.inl ()) (.inr ()) (fun i x hi hx=>by
   have e:(x==n)=(n==x):=Bool.beq_comm
   simp only[ZeO,ZaU hi,Zn hx,bS,ZA hi hl,cT,e]
   cases (n==x)<;>rfl) (by simp only[ZeO,ZaY];rfl)
 unfold Zcj
 rw[key,Zbi,Zg2]
 cases (l.any fun x=>n==x)<;>rfl
open Int (toNat_of_nonneg le_refl toNat_natCast)
def Zex {γ S:Type} (f:Nat->S->γ->S):Nat->S->List γ->S
 | _,s,[]=>s
 | i,s,x :: l=>Zex f (i+1) (f i s x) l
theorem ZlF {γ S T R:Type} (l:List γ) (step:T->Option (T⊕R)) (st:Nat->S->T) (f:Nat->S->γ->S) (fin:S->R) (I:Nat->S->Prop)
  (h1:∀i x s,i<l.length->l[i]? = some x->I i s->step (st i s)=some (.inl (st (i+1) (f i s x)))/\I (i+1) (f i s x))
  (h2:∀s,I l.length s->step (st l.length s)=some (.inr (fin s))) (s:S) (h0:I 0 s) :
  lp step (st 0 s)=some (fin (Zex f 0 s l))/\I l.length (Zex f 0 s l):=by
 have key:∀(k i:Nat) (s:S),i+k=l.length->I i s->lp step (st i s)=some (fin (Zex f i s (l.drop i)))/\I l.length (Zex f i s (l.drop i)):=by
  intro k
  induction k with
  | zero=>
   intro i s hi hI
   have:i=l.length:=by omega
   subst this
   rw[List.drop_length,Zaj,h2 s hI]
   exact⟨rfl,hI⟩
  | succ k ih=>
   intro i s hi hI
   have hi':i<l.length:=by omega
   obtain⟨e,hI'⟩:=h1 i l[i] s hi' (gE hi') hI
   rw[List.drop_eq_getElem_cons hi',Zaj,e]
   exact ih (i+1) _ (by omega) hI'
 have:=key l.length 0 s (by omega) h0
 rwa [drop_zero] at this
def ZeT (w:Int):Bool:=decide (w<0) || decide (1000<w)
def Zln (g:Zj) (i:Nat) (e:Zv):Bool:=!(Zhp g.work.length e.src) || (!(Zhp g.work.length e.dst) || ((e.src==e.dst) || (g.edges.take i).any (Zoe e)))
def Zfy (g:Zj):Int:=bif decide (64<(g.work.length:Int)) || decide (256<(g.edges.length:Int)) then 40 else bif g.work.any ZeT then 41 else bif ZhU (Zln g) 0 g.edges then 42 else 0
structure Zfc (g:Zj):Prop where
 w:g.work.length<9223372036854775808
 e:g.edges.length<9223372036854775808
theorem ZzU (w:Int):Zci w=some (ZeT w):=by
 unfold Zci ZeT
 cases decide (w<0)<;>cases decide (1000<w)<;>rfl
theorem ZB5 (a:Int) (l:List Int):Zfe a l=some (Zhp l.length a):=by
 unfold Zfe Zhp
 cases decide (0<=a)<;>cases decide (a<(l.length:Int))<;>rfl
theorem ZEt (g:Zj) (a:Int):ZfW g a=some (Zhp g.work.length a):=by
 unfold ZfW Zhp
 cases decide (0<=a)<;>cases decide (a<(g.work.length:Int))<;>rfl
theorem Zv2 (g:Zj) (h:Zfc g):lp (ZdM g) 0=some (bif ZhU (Zln g) 0 g.edges then .inl () else .inr ()):=by
 have key:=Zdd g.edges (ZdM g) (Zln g) (fun _ _=>.inl ()) (.inr ()) (fun i x hi hx=>by
   have e0:decide ((0:Int)<=(i:Int))=true:=dT (by omega)
   have e1:Nat.ble i g.edges.length=true:=Nat.ble_eq_true_of_le (by omega)
   simp only[ZdM,ZaU hi,Zn hx,bS,ZA hi h.e,cT,ZB5,Zln,e0,toNat_natCast,e1,Zzt _ x (ZwF h.e)]
   cases Zhp g.work.length x.src<;>cases Zhp g.work.length x.dst<;>cases (x.src==x.dst)<;>cases (g.edges.take i).any (Zoe x)<;>rfl) (by simp only[ZdM,ZaY];rfl)
 rw[key,Zbi]
theorem Zw4 (g:Zj) (h:Zfc g):ZgS g=some (Zfy g):=by
 have k0:=Zdd g.work (Zdh g) (fun _=>ZeT) (fun _ _=>.inl ()) (.inr ()) (fun i x hi hx=>by
   simp only[Zdh,ZaU hi,Zn hx,bS,ZA hi h.w,cT,ZeT]
   cases decide (x<0)<;>cases decide (1000<x)<;>rfl) (by simp only[Zdh,ZaY];rfl)
 have k2:=Zdd g.edges (Zdp g) (Zln g) (fun _ _=>.inl ()) (.inr ()) (fun i x hi hx=>by
   have inner:=ZAf g.edges i hi (ZdI g (i:Int) x) (Zoe x) (.inl ()) (.inr ()) (fun k y hk hy=>by
     simp only[ZdI,ZaU hk,Zn hy,bS,ZA hk (Nat.lt_trans hi h.e),cT,Zoe]
     have e1:(y.src==x.src)=(x.src==y.src):=Bool.beq_comm
     have e2:(y.dst==x.dst)=(x.dst==y.dst):=Bool.beq_comm
     rw[e1,e2]
     cases (x.src==y.src)<;>cases (x.dst==y.dst)<;>rfl) (by simp only[ZdI,ZaY];rfl)
   simp only[Zdp,ZaU hi,Zn hx,bS,ZA hi h.e,cT,ZEt,Zln,inner]
   cases Zhp g.work.length x.src<;>cases Zhp g.work.length x.dst<;>cases (x.src==x.dst)<;>cases (g.edges.take i).any (Zoe x)<;>rfl) (by simp only[Zdp,ZaY];rfl)
 unfold ZgS Zfy
 rw[k0,k2,Zbi,Zbi,Zg2]
 cases decide (64<(g.work.length:Int))<;>cases decide (256<(g.edges.length:Int))<;>cases g.work.any ZeT<;>cases ZhU (Zln g) 0 g.edges<;>rfl
inductive Way (g:Zj):Int->Int->Prop
 | one {e:Zv}:e∈g.edges->Way g e.src e.dst
 | more {a:Int} {e:Zv}:Way g a e.src->e∈g.edges->Way g a e.dst
theorem Way.trans {g:Zj}{a b c:Int} (h1:Way g a b) (h2:Way g b c):Way g a c:=by
 induction h2 with
 | one he=>exact Way.more h1 he
 | more _ he ih=>exact Way.more (ih h1) he
def Zmx (g:Zj):Prop:=∀a,¬Way g a a
structure Zbe (g:Zj):Prop where
 wl:g.work.length<=64
 el:g.edges.length<=256
 w:∀x∈g.work,0<=x/\x<=1000
 src:∀e∈g.edges,0<=e.src/\e.src.toNat<g.work.length
 dst:∀e∈g.edges,0<=e.dst/\e.dst.toNat<g.work.length
theorem Zbe.short {g:Zj} (h:Zbe g):Zfc g:=⟨by have:=h.wl;omega,by have:=h.el;omega⟩
theorem Ztz {n:Nat}{a:Int} (h:Zhp n a=true):0<=a/\a.toNat<n:=by
 unfold Zhp at h
 simp only[aT,decide_eq_true_eq] at h
 omega
theorem Zrn {g:Zj} (h:Zfy g=0):Zbe g:=by
 unfold Zfy at h
 cases h1:decide (64<(g.work.length:Int)) with
 | true=>rw[h1] at h;simp at h
 | false=>
 cases h2:decide (256<(g.edges.length:Int)) with
 | true=>rw[h1,h2] at h;simp at h
 | false=>
 cases h3:g.work.any ZeT with
 | true=>rw[h1,h2,h3] at h;simp at h
 | false=>
 cases h4:ZhU (Zln g) 0 g.edges with
 | true=>rw[h1,h2,h3,h4] at h;simp at h
 | false=>
 have hE:∀e∈g.edges,∃i,Zln g i e=false:=fun e he=>by
  obtain⟨i,hi⟩:=List.getElem?_of_mem he
  refine⟨i,?_⟩
  cases hb:Zln g i e with
  | false=>rfl
  | true=>rw[(ZjX _ _ 0).2 ⟨i,e,hi,by simpa using hb⟩] at h4;cases h4
 refine⟨by have:=of_decide_eq_false h1;omega,by have:=of_decide_eq_false h2;omega,fun x hx=>?_,fun e he=>?_,fun e he=>?_⟩
 ·have:=List.any_eq_false.1 h3 x hx
  unfold ZeT at this
  simp only[Bool.or_eq_true,decide_eq_true_eq,not_or] at this
  omega
 ·obtain⟨i,hi⟩:=hE e he
  unfold Zln at hi
  simp only[Bool.or_eq_false_iff,Bool.not_eq_false'] at hi
  exact Ztz hi.1
 ·obtain⟨i,hi⟩:=hE e he
  unfold Zln at hi
  simp only[Bool.or_eq_false_iff,Bool.not_eq_false'] at hi
  exact Ztz hi.2.1
theorem Way.src_in {g:Zj} (h:Zbe g) {a b:Int} (w:Way g a b):0<=a/\a.toNat<g.work.length:=by
 induction w with
 | one he=>exact h.src _ he
 | more _ _ ih=>exact ih
theorem Zvq {g:Zj} (hg:Zmx g):∀(n:Nat) (S:List Int),S.length<=n->S≠[]->∃m∈S,∀e∈g.edges,e.dst=m->e.src∉S:=by
 intro n
 induction n with
 | zero=>intro S h1 h2;exact absurd (List.length_eq_zero_iff.1 (by omega)) h2
 | succ n ih=>
  intro S h1 h2
  obtain⟨m,hm⟩:=List.exists_mem_of_ne_nil S h2
  classical
  by_cases hS:(S.filter fun x=>decide (Way g x m))=[]
  ·refine⟨m,hm,fun e he hd hs=>?_⟩
   have:e.src∈S.filter fun x=>decide (Way g x m):=List.mem_filter.2 ⟨hs,dT (hd ▸ Way.one he)⟩
   rw[hS] at this
   cases this
  ·have hlt:(S.filter fun x=>decide (Way g x m)).length<S.length:=by
    refine Nat.lt_of_le_of_ne (List.length_filter_le _ _) fun he=>?_
    have:=List.length_filter_eq_length_iff.1 he m hm
    exact hg m (of_decide_eq_true this)
   obtain⟨k,hk,hk2⟩:=ih _ (by omega) hS
   obtain⟨k1,k2⟩:=List.mem_filter.1 hk
   refine⟨k,k1,fun e he hd hs=>hk2 e he hd (List.mem_filter.2 ⟨hs,dT ?_⟩)⟩
   exact(hd ▸ Way.one he:Way g e.src k).trans (of_decide_eq_true k2)
def bAt (l:List Bool) (z:Int):Bool:=match l[z.toNat]? with | some b=>b | none=>false
def ZpU (g:Zj) (done:List Bool) (i:Nat):Bool:=!(bAt done (i:Int)) && !(g.edges.any fun e=>(e.dst==(i:Int)) && !(bAt done e.src))
def Zp1 (g:Zj) (done:List Bool):Option Nat:=ZkZ (fun i _=>ZpU g done i) (fun i _=>some i) none 0 g.work
def Zo3 (g:Zj):Nat->List Int->List Bool->Option (List Int)
 | 0,out,_=>some out
 | k+1,out,done=>(match Zp1 g done with | some i=>Zo3 g k (out++[(i:Int)]) (done.set i true) | none=>none)
theorem Zvo {γ R S:Type} (p:Nat->γ->Bool) (out:Nat->γ->R) (fin:R) (F:R->S):∀(l:List γ) (i:Nat),F (ZkZ p out fin i l)=ZkZ p (fun i x=>F (out i x)) (F fin) i l
 | [],i=>rfl
 | x :: l,i=>by
  unfold ZkZ
  cases p i x with
  | true=>rfl
  | false=>exact Zvo p out fin F l (i+1)
theorem ZtO {γ:Type} (p:Nat->γ->Bool):∀(l:List γ) (i k:Nat),ZkZ p (fun i _=>some i) none i l=some k->i<=k/\k<i+l.length/\∃x,l[k-i]? = some x/\p k x=true
 | [],i,k,h=>by cases h
 | x :: l,i,k,h=>by
  unfold ZkZ at h
  cases hp:p i x with
  | true=>
   rw[hp] at h
   cases h
   exact⟨Nat.le_refl _,by simp,x,by simp,hp⟩
  | false=>
   rw[hp] at h
   obtain⟨h1,h2,y,h3,h4⟩:=ZtO p l (i+1) k h
   refine⟨by omega,by simp only[length_cons];omega,y,?_,h4⟩
   rw[show k-i=(k-(i+1))+1 by omega]
   exact h3
theorem Zto {γ:Type} (p:Nat->γ->Bool):∀(l:List γ) (i:Nat),ZkZ p (fun i _=>some i) none i l=none->∀(j:Nat) x,l[j]? = some x->p (i+j) x=false
 | [],i,h,j,x,hx=>by cases hx
 | y :: l,i,h,j,x,hx=>by
  unfold ZkZ at h
  cases hp:p i y with
  | true=>rw[hp] at h;cases h
  | false=>
   rw[hp] at h
   cases j with
   | zero=>cases hx;exact hp
   | succ j=>
    have:=Zto p l (i+1) h j x hx
    rwa [show i+1+j=i+(j+1) by omega] at this
theorem ZoI {g:Zj}{done:List Bool} (hd:done.length=g.work.length) {z:Int} (h:0<=z/\z.toNat<g.work.length):Zt done z=some (bAt done z):=by
 have e:=gE (show z.toNat<done.length by rw[hd];exact h.2)
 rw[Zxf h.1 e]
 unfold bAt
 rw[e]
theorem ZFx {g:Zj} (h:Zbe g) (out:List Int) (ho:out.length<g.work.length) (done:List Bool) (hd:done.length=g.work.length) :
  lp (Zdg g (out,done)) 0=some (match Zp1 g done with | some i=>.inl (out++[(i:Int)],done.set i true) | none=>.inr ()):=by
 have key:=Zdd g.work (Zdg g (out,done)) (fun i _=>ZpU g done i) (fun i _=>.inl (out++[(i:Int)],done.set i true)) (.inr ()) (fun i x hi hx=>by
   have inner:=Zdd g.edges (ZeQ g (out,done) (i:Int)) (fun _ e=>(e.dst==(i:Int)) && !(bAt done e.src)) (fun _ _=>.inl ()) (.inr ()) (fun k e hk he=>by
     simp only[ZeQ,ZaU hk,Zn he,bS,ZA hk h.short.e,cT,ZoI hd (h.src e (mG he))]
     cases (e.dst==(i:Int))<;>cases bAt done e.src<;>rfl) (by simp only[ZeQ,ZaY];rfl)
   rw[Zbi,Zg2] at inner
   have hl:=h.wl
   simp only[Zdg,ZaU hi,ZoI hd (z:=(i:Int)) ⟨by omega,by simpa using hi⟩,bS,ZA hi h.short.w,cT,inner,Zar (show out.length+1<=1073741824 by omega),toNat_natCast,ZpU]
   cases bAt done (i:Int)<;>cases g.edges.any (fun e=>(e.dst==(i:Int)) && !(bAt done e.src))<;>rfl) (by simp only[Zdg,ZaY];rfl)
 rw[key]
 unfold Zp1
 exact congrArg some (Zvo (fun i _=>ZpU g done i) (fun i _=>some i) none (fun o:Option Nat=>(match o with | some i=>(.inl (out++[(i:Int)],done.set i true):(List Int×List Bool)⊕Unit) | none=>.inr ())) g.work 0).symm
theorem Zyk {g:Zj} (h:Zbe g):∀(k:Nat) (out:List Int) (done:List Bool),out.length+k=g.work.length->done.length=g.work.length ->
  ∃r,lp (ZeR g) (out,done)=some r/\(match Zo3 g k out done with | some l=>r = .inr l | none=>∃l,r = .inl l)
 | 0,out,done,h1,h2=>by
  rw[Zaj]
  simp only[ZeR,show out.length=g.work.length by omega,ZaY,cF]
  exact⟨_,rfl,rfl⟩
 | k+1,out,done,h1,h2=>by
  rw[Zaj]
  simp only[ZeR,ZaU (show out.length<g.work.length by omega),cT,ZFx h out (by omega) done h2,bS]
  unfold Zo3
  cases Zp1 g done with
  | none=>exact⟨_,rfl,_,rfl⟩
  | some i=>exact Zyk h k (out++[(i:Int)]) (done.set i true) (by rw[lA];simp only[length_cons,length_nil];omega) (by rw[length_set];exact h2)
theorem Zya {g:Zj} (h:Zbe g):ZfB g=some (match Zo3 g g.work.length [] (List.replicate g.work.length false) with | some l=>(l,true) | none=>([],false)):=by
 obtain⟨r,e,hr⟩:=Zyk h g.work.length [] (List.replicate g.work.length false) (by simp) (by simp)
 have hl:=h.wl
 unfold ZfB
 rw[dT (show(0:Int)<=(g.work.length:Int) by omega),dT (show(g.work.length:Int)<=lim by show(g.work.length:Int)<=1073741824;omega),beq_self_eq_true]
 simp only[decide_true,Bool.and_true,cT,toNat_natCast,e,bS]
 cases ho:Zo3 g g.work.length [] (List.replicate g.work.length false) with
 | some l=>rw[ho] at hr;simp only at hr;subst hr;rfl
 | none=>rw[ho] at hr;obtain⟨l,rfl⟩:=hr;rfl
structure ZeW (g:Zj) (out:List Int) (done:List Bool):Prop where
 dl:done.length=g.work.length
 mem:∀i:Nat,bAt done (i:Int)=true↔(i:Int)∈out
 inn:∀z∈out,0<=z/\z.toNat<g.work.length
 nod:out.Nodup
 topo:∀(i:Nat) (n:Int),out[i]? = some n->∀e∈g.edges,e.dst=n->∃j,j<i/\out[j]? = some e.src
theorem Zyf {done:List Bool}{i:Nat} (hi:i<done.length) (z:Int) (hz:0<=z):bAt (done.set i true) z=(decide (z=(i:Int)) || bAt done z):=by
 unfold bAt
 rw[List.getElem?_set]
 by_cases h:i=z.toNat
 ·subst h
  rw[if_pos rfl,if_pos hi,dT (show z=((z.toNat:Nat):Int) by omega)];rfl
 ·rw[if_neg h,dF (show ¬z=(i:Int) by omega)];rfl
theorem ZeW.start (g:Zj):ZeW g [] (List.replicate g.work.length false):=by
 refine⟨by simp,fun i=>?_,by simp,by simp,by simp⟩
 unfold bAt
 rw[List.getElem?_replicate]
 by_cases h:((i:Int)).toNat<g.work.length
 ·rw[if_pos h];simp
 ·rw[if_neg h];simp
theorem ZeW.next {g:Zj} (h:Zbe g) {out:List Int}{done:List Bool} (o:ZeW g out done) {i:Nat} (hn:Zp1 g done=some i):ZeW g (out++[(i:Int)]) (done.set i true):=by
 obtain⟨_,hi,x,_,hp⟩:=ZtO _ _ _ _ hn
 rw[zero_add] at hi
 unfold ZpU at hp
 simp only[aT,Bool.not_eq_true',List.any_eq_false,Bool.not_eq_true] at hp
 have hid:i<done.length:=by rw[o.dl];exact hi
 have hnot:(i:Int)∉out:=fun hm=>by have:=(o.mem i).2 hm;rw[hp.1] at this;cases this
 refine⟨by rw[length_set];exact o.dl,fun j=>?_,fun z hz=>?_,?_,fun k n hk e he hd=>?_⟩
 ·rw[Zyf hid (j:Int) (by omega),Bool.or_eq_true,decide_eq_true_eq,o.mem,List.mem_append,mem_singleton]
  exact Or.comm
 ·rcases List.mem_append.1 hz with hz | hz
  ·exact o.inn z hz
  ·rw[mem_singleton] at hz;subst hz;exact⟨by omega,by simpa using hi⟩
 ·rw[List.nodup_append]
  refine⟨o.nod,by simp,fun a ha b hb=>?_⟩
  rw[mem_singleton] at hb
  subst hb
  exact fun hab=>hnot (hab ▸ ha)
 ·rcases lt_or_ge k out.length with hk2 | hk2
  ·rw[List.getElem?_append_left hk2] at hk
   obtain⟨j,h1,h2⟩:=o.topo k n hk e he hd
   exact⟨j,h1,by rw[List.getElem?_append_left (by omega)];exact h2⟩
  ·rw[List.getElem?_append_right hk2] at hk
   have hk0:k-out.length=0:=by
    rcases Nat.eq_zero_or_pos (k-out.length) with h0 | h0
    ·exact h0
    ·rw[List.getElem?_eq_none (by simp only[length_cons,length_nil];omega)] at hk;cases hk
   rw[hk0] at hk
   simp only[List.getElem?_cons_zero,sJ] at hk
   subst hk
   have hs:=hp.2 e he
   rw[hd] at hs
   have hs:bAt done e.src=true:=by simpa using hs
   have hsr:=h.src e he
   have:=(o.mem e.src.toNat).1 (by rw[show((e.src.toNat:Nat):Int)=e.src by omega];exact hs)
   rw[show((e.src.toNat:Nat):Int)=e.src by omega] at this
   obtain⟨j,hj⟩:=List.getElem?_of_mem this
   have hjl:=(gQ hj).1
   exact⟨j,by omega,by rw[List.getElem?_append_left hjl];exact hj⟩
theorem ZeW.way {g:Zj}{out:List Int}{done:List Bool} (o:ZeW g out done) {a b:Int} (w:Way g a b):∀j:Nat,out[j]? = some b->∃i,i<j/\out[i]? = some a:=by
 induction w with
 | one he=>intro j hj;exact o.topo j _ hj _ he rfl
 | more _ he ih=>
  intro j hj
  obtain⟨i,h1,h2⟩:=o.topo j _ hj _ he rfl
  obtain⟨k,h3,h4⟩:=ih i h2
  exact⟨k,by omega,h4⟩
theorem ZtL {l:List Int} (h:l.Nodup) {i j:Nat}{a:Int} (h1:l[i]? = some a) (h2:l[j]? = some a):i=j:=by
 obtain⟨a1,a2⟩:=gQ h1
 obtain⟨b1,b2⟩:=gQ h2
 exact(List.getElem_inj h).1 (a2.trans b2.symm)
def ZCo (n:Nat) (done:List Bool):List Int:=((List.range n).filter fun i:Nat=>!bAt done (i:Int)).map fun i:Nat=>(i:Int)
theorem Zr3 {n:Nat}{done:List Bool}{i:Nat} (h1:i<n) (h2:bAt done (i:Int)=false):(i:Int)∈ZCo n done:=
 List.mem_map.2 ⟨i,List.mem_filter.2 ⟨List.mem_range.2 h1,by rw[h2];rfl⟩,rfl⟩
theorem Zzw {g:Zj} (h:Zbe g) (hg:Zmx g) {out:List Int}{done:List Bool} (o:ZeW g out done) (i0:Nat) (hi0:i0<g.work.length) (hb:bAt done (i0:Int)=false):∃i,Zp1 g done=some i:=by
 cases hn:Zp1 g done with
 | some i=>exact⟨i,rfl⟩
 | none=>
  exfalso
  have hall:=Zto _ _ _ hn
  obtain⟨m,hm,hm2⟩:=Zvq hg _ (ZCo g.work.length done) (Nat.le_refl _) (by
   intro he
   have:=Zr3 hi0 hb
   rw[he] at this;cases this)
  obtain⟨k,hk,rfl⟩:=List.mem_map.1 hm
  obtain⟨hk1,hk2⟩:=List.mem_filter.1 hk
  rw[List.mem_range] at hk1
  have hr:=hall k g.work[k] (gE hk1)
  rw[zero_add] at hr
  unfold ZpU at hr
  rw[hk2,Bool.true_and,Bool.not_eq_false',any_eq_true] at hr
  obtain⟨e,he,he2⟩:=hr
  simp only[aT,beq_iff_eq] at he2
  have hsr:=h.src e he
  refine hm2 e he he2.1 ?_
  have es:((e.src.toNat:Nat):Int)=e.src:=by omega
  rw[<- es]
  exact Zr3 hsr.2 (by rw[es];simpa using he2.2)
theorem ZCH {n:Nat}{out:List Int} (h1:out.Nodup) (h2:∀z∈out,0<=z/\z.toNat<n):(out.length<=n)/\(out.length=n->∀i:Nat,i<n->(i:Int)∈out):=by
 induction n generalizing out with
 | zero=>
  refine⟨?_,fun _ i hi=>absurd hi (by omega)⟩
  cases out with
  | nil=>simp
  | cons z l=>have:=h2 z (by simp);omega
 | succ n ih=>
  by_cases hm:(n:Int)∈out
  ·have e1:(out.erase (n:Int)).length=out.length-1:=List.length_erase_of_mem hm
   have pos:0<out.length:=List.length_pos_of_mem hm
   obtain⟨a,b⟩:=ih (out:=out.erase (n:Int)) (h1.erase _) (fun z hz=>by
    have hz2:=(List.Nodup.mem_erase_iff h1).1 hz
    have:=h2 z hz2.2
    have:=hz2.1
    omega)
   refine⟨by omega,fun hl i hi=>?_⟩
   by_cases hin:i=n
   ·subst hin;exact hm
   ·exact List.mem_of_mem_erase (b (by omega) i (by omega))
  ·obtain⟨a,b⟩:=ih (out:=out) h1 (fun z hz=>by
    have:=h2 z hz
    have:z≠(n:Int):=fun he=>hm (he ▸ hz)
    omega)
   exact⟨by omega,fun hl=>by omega⟩
theorem ZCF:∀(n:Nat) (out:List Int),(∀i:Nat,i<n->(i:Int)∈out)->n<=out.length
 | 0,out,h=>by omega
 | n+1,out,h=>by
  have hm:=h n (by omega)
  have e1:(out.erase (n:Int)).length=out.length-1:=List.length_erase_of_mem hm
  have pos:0<out.length:=List.length_pos_of_mem hm
  have:=ZCF n (out.erase (n:Int)) (fun i hi=>(List.mem_erase_of_ne (by omega)).2 (h i (by omega)))
  omega
theorem Znh {g:Zj} (h:Zbe g):∀(k:Nat) (out:List Int) (done:List Bool),ZeW g out done->out.length+k=g.work.length->(∀l,Zo3 g k out done=some l->∃done',ZeW g l done'/\l.length=g.work.length)/\(Zmx g->∃l,Zo3 g k out done=some l)
 | 0,out,done,o,hl=>⟨fun l h=>by cases h;exact⟨done,o,by omega⟩,fun _=>⟨out,rfl⟩⟩
 | k+1,out,done,o,hl=>by
  unfold Zo3
  cases hn:Zp1 g done with
  | none=>
   refine⟨fun l h=>(by cases h),fun hg=>?_⟩
   exfalso
   have hex:∃i0,i0<g.work.length/\(i0:Int)∉out:=by
    apply Classical.byContradiction
    intro hc
    have hc2:∀i0,i0<g.work.length->(i0:Int)∈out:=fun i0 hi=>Classical.byContradiction fun hx=>hc ⟨i0,hi,hx⟩
    have sub:=ZCF g.work.length out hc2
    omega
   obtain⟨i0,h1,h2⟩:=hex
   obtain⟨i,hi⟩:=Zzw h hg o i0 h1 (by
    cases hb:bAt done (i0:Int) with
    | false=>rfl
    | true=>exact absurd ((o.mem i0).1 hb) h2)
   rw[hn] at hi
   cases hi
  | some i=>
   exact Znh h k _ _ (o.next h hn) (by rw[lA];simp only[length_cons,length_nil];omega)
theorem ZDh {g:Zj} (h:Zbe g) {l:List Int}{done:List Bool} (o:ZeW g l done) (hl:l.length=g.work.length):Zmx g:=by
 intro a w
 have ha:=w.src_in h
 have hm:=(ZCH o.nod o.inn).2 hl a.toNat ha.2
 rw[show((a.toNat:Nat):Int)=a by omega] at hm
 obtain⟨j,hj⟩:=List.getElem?_of_mem hm
 obtain⟨i,h1,h2⟩:=o.way w j hj
 have:=ZtL o.nod h2 hj
 omega
structure ZIS (g:Zj) (l:List Int):Prop where
 len:l.length=g.work.length
 all:∀i:Nat,i<g.work.length->(i:Int)∈l
 inn:∀z∈l,0<=z/\z.toNat<g.work.length
 nod:l.Nodup
 topo:∀(i:Nat) (n:Int),l[i]? = some n->∀e∈g.edges,e.dst=n->∃j,j<i/\l[j]? = some e.src
theorem ZyL {g:Zj} (h:Zbe g) (hg:Zmx g):∃l,ZfB g=some (l,true)/\ZIS g l:=by
 obtain⟨k1,k2⟩:=Znh h g.work.length [] _ (ZeW.start g) (by simp)
 obtain⟨l,hl⟩:=k2 hg
 obtain⟨done,o,hn⟩:=k1 l hl
 exact⟨l,by rw[Zya h,hl],hn,(ZCH o.nod o.inn).2 hn,o.inn,o.nod,o.topo⟩
theorem ZC4 {g:Zj} (h:Zbe g) (hg:¬Zmx g):ZfB g=some ([],false):=by
 rw[Zya h]
 cases ho:Zo3 g g.work.length [] (List.replicate g.work.length false) with
 | none=>rfl
 | some l=>
  obtain⟨done,o,hn⟩:=(Znh h g.work.length [] _ (ZeW.start g) (by simp)).1 l ho
  exact absurd (ZDh h o hn) hg
noncomputable def ZAp (g:Zj):Bool:=@decide (Zmx g) (Classical.propDecidable _)
theorem Zx0 {g:Zj} (h:Zmx g):ZAp g=true:=@decide_eq_true _ (Classical.propDecidable _) h
theorem Zt5 {g:Zj} (h:¬Zmx g):ZAp g=false:=@decide_eq_false _ (Classical.propDecidable _) h
noncomputable def ZM (g:Zj):Int:=bif Zfy g==0 then (bif ZAp g then 0 else 43) else Zfy g
theorem ZT {g:Zj} (h:ZM g=0):Zbe g/\Zmx g:=by
 unfold ZM at h
 by_cases h0:Zfy g=0
 ·rw[h0] at h
  refine⟨Zrn h0,Classical.byContradiction fun hn=>?_⟩
  rw[Zt5 hn] at h
  simp at h
 ·rw[beq_false_of_ne h0] at h
  exact absurd h h0
theorem ZeC (g:Zj) (h:Zfc g):ZcX g=some (ZM g):=by
 have hw:=Zff g.work (fun z0=>Zci z0) ZeT (fun x _=>ZzU x) h.w
 unfold ZcX ZM
 rw[hw,Zv2 g h]
 by_cases h0:Zfy g=0
 ·have hG:=Zrn h0
  rw[h0]
  unfold Zfy at h0
  by_cases hg:Zmx g
  ·obtain⟨l,e,_⟩:=ZyL hG hg
   rw[e,Zx0 hg]
   revert h0
   cases decide (64<(g.work.length:Int))<;>cases decide (256<(g.edges.length:Int))<;>cases g.work.any ZeT<;>cases ZhU (Zln g) 0 g.edges<;>simp
  ·rw[ZC4 hG hg,Zt5 hg]
   revert h0
   cases decide (64<(g.work.length:Int))<;>cases decide (256<(g.edges.length:Int))<;>cases g.work.any ZeT<;>cases ZhU (Zln g) 0 g.edges<;>simp
 ·rw[beq_false_of_ne h0]
  unfold Zfy at h0 ⊢
  revert h0
  cases decide (64<(g.work.length:Int))<;>cases decide (256<(g.edges.length:Int))<;>cases g.work.any ZeT<;>cases ZhU (Zln g) 0 g.edges<;>simp
theorem ZgZ {g:Zj} (hG:Zbe g):ZfV g.edges g.work.length:=fun e he=>⟨hG.src e he,hG.dst e he⟩
theorem Zzo {g:Zj} (hG:Zbe g) (hA:Zmx g) {left:List Int} (hl:left.length=g.work.length) (hr:∀x∈left,0<=x) (h:∃n,isN left n/\0<lf left n):∃n,isN left n/\0<lf left n/\ZlB g.edges left n:=by
 have pos:∀n,0<=lf left n:=fun n=>by
  unfold lf
  cases hx:left[n.toNat]? with
  | none=>simp
  | some x=>exact hr x (mG hx)
 let S:List Int:=((List.range left.length).map fun i:Nat=>(i:Int)).filter fun n=>decide (0<lf left n)
 have mem:∀n,n∈S↔isN left n/\0<lf left n:=fun n=>by
  simp only[S,List.mem_filter,List.mem_map,List.mem_range,decide_eq_true_eq]
  constructor
  ·rintro ⟨⟨i,hi,rfl⟩,h2⟩
   exact⟨⟨by omega,by simpa using hi⟩,h2⟩
  ·rintro ⟨h1,h2⟩
   exact⟨⟨n.toNat,h1.2,toNat_of_nonneg h1.1⟩,h2⟩
 obtain⟨n0,h0⟩:=h
 obtain⟨n,hn,hn2⟩:=Zvq hA S.length S (Nat.le_refl _) (fun he=>by
  have:=(mem n0).2 h0
  rw[he] at this
  cases this)
 obtain⟨h1,h2⟩:=(mem n).1 hn
 refine⟨n,h1,h2,fun e he hd=>?_⟩
 have hs:=hG.src e he
 have:=hn2 e he hd
 rw[mem] at this
 have h3:=pos e.src
 apply Classical.byContradiction
 intro hc
 exact this ⟨⟨hs.1,by rw[hl];exact hs.2⟩,by omega⟩
theorem Zru {row:List Int}{n:Int} (h:n∈row) (hn:n ≠ -1):0<busy row:=by
 unfold busy
 exact List.countP_pos_iff.2 ⟨n,h,by simpa using hn⟩
theorem ZpV {g:Zj} (hG:Zbe g) (hA:Zmx g) {left on row:List Int} (hl:left.length=g.work.length) (h:∃n,isN left n/\0<lf left n) (c:Zht g.edges left on) (f:Zfi g.edges left on row) (hm:1<=on.length):0<busy row:=by
 obtain⟨n,h1,h2,h3⟩:=Zzo hG hA hl (fun x hx=>(c.rng x hx).1) h
 have n0:n ≠ -1:=by have:=h1.1;omega
 by_cases ho:n∈on
 ·obtain⟨i,hi⟩:=List.getElem?_of_mem ho
  exact Zru (mG (f.keep i n hi n0)) n0
 ·by_cases hr:n∈row
  ·exact Zru hr n0
  ·by_cases hi : -1∈row
   ·exact absurd ⟨h1,h2,hr,h3⟩ (f.all hi n)
   ·have hlen:0<row.length:=by rw[f.len];omega
    refine Zru (getElem_mem hlen) fun he=>hi ?_
    rw[<- he]
    exact getElem_mem hlen
theorem ZBj {g:Zj} (hG:Zbe g) (hA:Zmx g) {need:List Int} (hn:need.length=g.work.length) (h:∀x∈need,1<=x/\x<=1000) {t:List (List Int)}{left on:List Int} (s:Sched g.edges need 1 t left on):Zet t=t.length:=by
 have hE:ZfV g.edges need.length:=by rw[hn];exact ZgZ hG
 induction s with
 | nil=>rfl
 | @snoc t left on row s hs f ih=>
  have c:=s.crew h hE
  have hl:=s.len
  have b:=ZpV hG hA (by rw[hl.1,hn]) hs c f (by rw[hl.2.1];exact Nat.le_refl _)
  have hr:row.length=1:=by rw[f.len,hl.2.1]
  have:busy row<=row.length:=List.countP_le_length
  have e:Zet (t++[row])=Zet t+busy row:=by
   unfold Zet
   rw[List.map_append,List.sum_append]
   simp
  rw[e,ih,lA,length_singleton]
  omega
theorem Sched.short {g:Zj} (hG:Zbe g) (hA:Zmx g) {need:List Int} (hn:need.length=g.work.length) (h:∀x∈need,1<=x/\x<=1000) {m:Nat} (hm:1<=m) {t:List (List Int)}{left on:List Int} (s:Sched g.edges need m t left on):t.length<=Zet t:=by
 have hE:ZfV g.edges need.length:=by rw[hn];exact ZgZ hG
 induction s with
 | nil=>exact zero_le _
 | @snoc t left on row s hs f ih=>
  have c:=s.crew h hE
  have hl:=s.len
  have b:=ZpV hG hA (by rw[hl.1,hn]) hs c f (by rw[hl.2.1];exact hm)
  have e:Zet (t++[row])=Zet t+busy row:=by
   unfold Zet
   rw[List.map_append,List.sum_append]
   simp
  rw[e,lA,length_singleton]
  omega
theorem ZCZ {l:List Int} (h:∀x∈l,x=0):l.sum=0:=by
 induction l with
 | nil=>rfl
 | cons x l ih=>
  rw[sum_cons,h x (by simp),ih fun y hy=>h y (by simp[hy])]
  rfl
theorem Zvv (l:List Zv) (f:Zv->Option Bool) (p:Zv->Bool) (hf:∀x∈l,f x=some (p x)) (hl:l.length<9223372036854775808):ZU l f=some (l.any p):=by
 unfold ZU ZaL
 refine ZlM l p _ (fun i x hi hx=>?_) ?_
 ·simp only[Z4,ZaU hi,Zn hx,bS,hf x (mG hx),ZA hi hl,cT]
  cases p x<;>rfl
 ·simp only[Z4,ZaY];rfl
theorem ZhQ (l:List Int) (n:Int):(l.any fun x=>n==x)=decide (n∈l):=by
 rw[Bool.eq_iff_iff,any_eq_true,decide_eq_true_eq]
 constructor
 ·rintro ⟨x,hx,h⟩
  have:n=x:=by simpa using h
  rw[this];exact hx
 ·intro h
  exact⟨n,h,by simp⟩
theorem Zhm {γ R:Type} (l:List γ) (step:Int->Option (Int⊕R)) (fin:R) (h1:∀i x,i<l.length->l[i]? = some x->step (i:Int)=some (.inl ((i+1:Nat):Int))) (h2:step (l.length:Int)=some (.inr fin)):lp step 0=some fin:=by
 rw[Zdd l step (fun _ _=>false) (fun _ _=>fin) fin h1 h2,Zbi]
 cases ZhU (fun _ _=>false) 0 l<;>rfl
theorem ZkO {n:Nat} (step:Int×List Int->Option ((Int×List Int)⊕List Int)) (p:Nat->Bool)
  (h1:∀(i:Nat) (out:List Int),i<n->out.length<=i->step ((i:Int),out)=some (.inl (((i+1:Nat):Int),bif p i then out++[(i:Int)] else out)))
  (h2:∀out,step ((n:Int),out)=some (.inr out)):lp step (0,[])=some (((List.range n).filter p).map fun i:Nat=>(i:Int)):=by
 have key:∀(k i:Nat) (out:List Int),i+k=n->out.length<=i->lp step ((i:Int),out)=some (out++((List.range' i k).filter p).map fun i:Nat=>(i:Int)):=by
  intro k
  induction k with
  | zero=>
   intro i out hi _
   have:i=n:=by omega
   subst this
   rw[Zaj,h2]
   simp
  | succ k ih=>
   intro i out hi ho
   rw[Zaj,h1 i out (by omega) ho]
   dsimp only
   rw[List.range'_succ]
   cases hp:p i with
   | true=>
    rw[cT,ih (i+1) _ (by omega) (by rw[lA];simp;exact ho),List.filter_cons_of_pos hp,map_cons,List.append_assoc]
    rfl
   | false=>
    rw[cF,ih (i+1) _ (by omega) (by omega),List.filter_cons_of_neg (by rw[hp];decide)]
 have:=key n 0 [] (by omega) (by simp)
 rw[List.range_eq_range']
 simpa using this
theorem Zf3 {n:Nat}{p:Nat->Bool}{z:Int}:(z∈((List.range n).filter p).map fun i:Nat=>(i:Int))↔0<=z/\z.toNat<n/\p z.toNat=true:=by
 rw[List.mem_map]
 constructor
 ·rintro ⟨i,hi,rfl⟩
  obtain⟨h1,h2⟩:=List.mem_filter.1 hi
  rw[List.mem_range] at h1
  exact⟨by omega,by simpa using h1,by simpa using h2⟩
 ·rintro ⟨h0,h1,h2⟩
  exact⟨z.toNat,List.mem_filter.2 ⟨List.mem_range.2 h1,h2⟩,toNat_of_nonneg h0⟩
theorem Zkf {left:List Int}{n:Int} (h:isN left n):Zt left n=some (lf left n):=Zxf h.1 (ZjB h.1 h.2)
theorem ZrP {c:Zq}{n:Int} (h:isN c.left n):ZdP c n=some (lf c.left n==0):=by
 unfold ZdP
 rw[Zkf h,bS]
 cases lf c.left n==0<;>rfl
def ZiH (E:List Zv) (left:List Int) (n:Int):Bool:=!(E.any fun e=>(e.dst==n) && !(lf left e.src==0))
theorem Zcs {E:List Zv}{left:List Int}{n:Int}:ZiH E left n=true↔ZlB E left n:=by
 unfold ZiH ZlB
 rw[Bool.not_eq_true',List.any_eq_false]
 constructor
 ·intro h e he hd
  have:=h e he
  rw[hd,beq_self_eq_true,Bool.true_and,Bool.not_eq_true',Bool.not_eq_false] at this
  simpa using this
 ·intro h e he hh
  simp only[aT,beq_iff_eq,Bool.not_eq_true',beq_eq_false_iff_ne] at hh
  exact hh.2 (h e he hh.1)
theorem ZwG {g:Zj} (hG:Zbe g) {c:Zq} (hl:c.left.length=g.work.length) (n:Int):ZfF g c n=some (ZiH g.edges c.left n):=by
 unfold ZfF
 rw[Zvv _ _ (fun e=>(e.dst==n) && !(lf c.left e.src==0)) (fun e he=>by
  have hs:=hG.src e he
  unfold Zek
  rw[show(Zq.mk c.on c.left)=c from rfl,ZrP (c:=c) (n:=e.src) ⟨hs.1,by rw[hl];exact hs.2⟩]
  cases e.dst==n<;>cases lf c.left e.src==0<;>rfl) hG.short.e]
 unfold ZiH
 cases (g.edges.any fun e=>(e.dst==n) && !(lf c.left e.src==0))<;>rfl
structure ZaB (g:Zj) (left on:List Int):Prop where
 ll:left.length=g.work.length
 o1:1<=on.length
 o8:on.length<=8
 ok:Zht g.edges left on
theorem ZBZ (x:Int):Zcw x=some (decide (x<0) || decide (1000<x)):=by
 unfold Zcw
 cases decide (x<0)<;>cases decide (1000<x)<;>rfl
theorem ZDA {g:Zj} (hG:Zbe g) {left on:List Int} (c:ZaB g left on):ZhN g (Zq.mk on left)=some true:=by
 have o1:=c.o1
 have o8:=c.o8
 have hw:=hG.wl
 have ll:=c.ll
 unfold ZhN
 dsimp only
 rw[dF (by omega),cF,dF (by omega),cF,show((left.length:Int) != (g.work.length:Int))=false by rw[ll];simp,cF,
  Zff left _ (fun x=>decide (x<0) || decide (1000<x)) (fun x _=>ZBZ x) (by omega),bS]
 have h0:(left.any fun x=>decide (x<0) || decide (1000<x))=false:=List.any_eq_false.2 fun x hx=>by
  have:=c.ok.rng x hx
  rw[dF (by omega),dF (by omega)]
  decide
 rw[h0,cF,Zhm on (Zea g (Zq.mk on left)) (.inr ()) (fun i n hi hn=>?_) (by simp only[Zea,ZaY];rfl),bS]
 ·dsimp only
  rw[Zhm left (Zeh g (Zq.mk on left)) (.inr ()) (fun i x hi hx=>?_) (by simp only[Zeh,ZaY];rfl)]
  ·rfl
  ·have hin:isN left (i:Int):=⟨by omega,by simpa using hi⟩
   simp only[Zeh,ZaU hi,cT,ZrP (c:=Zq.mk on left) hin,bS,ZwG hG (c:=Zq.mk on left) c.ll,ZA hi (by omega)]
   cases hz:lf left (i:Int)==0 with
   | false=>rfl
   | true=>
    have:=Zcs.2 (c.ok.over _ hin (by simpa using hz))
    rw[this];rfl
 ·simp only[Zea,ZaU hi,cT,Zn hn,bS,ZA hi (by omega)]
  cases hz:n == -1 with
  | true=>rfl
  | false=>
   have hne:n ≠ -1:=by simpa using hz
   rcases c.ok.run n (mG hn) with h | ⟨h1,h2,h3⟩
   ·exact absurd h hne
   ·have:=h1.1
    have:=h1.2
    have hm:(List.take i on).any (fun x=>n==x)=false:=List.any_eq_false.2 fun x hx hq=>by
     have:n=x:=by simpa using hq
     subst this
     obtain⟨j,hj⟩:=List.getElem?_of_mem hx
     have hjl:=(gQ hj).1
     rw[length_take] at hjl
     rw[List.getElem?_take,if_pos (by omega)] at hj
     have:=c.ok.one j i n hj hn hne
     omega
    simp only[cF,dF (show ¬n<0 by omega),dF (show ¬(left.length:Int)<=n by omega),ZrP (c:=Zq.mk on left) h1,bS,show(lf left n==0)=false from beq_eq_false_iff_ne.2 (by omega),
     dT (show(0:Int)<=(i:Int) by omega),toNat_natCast,Nat.ble_eq_true_of_le (show i<=on.length by omega),cT,Zhd (List.take i on) n (by rw[length_take];omega),hm,ZwG hG (c:=Zq.mk on left) c.ll,Zcs.2 h3]
theorem Zhf {g:Zj} (h:ZM g=0) {left on:List Int} (c:ZaB g left on):Zd2 g (Zq.mk on left)=some 0:=by
 obtain⟨hG,hA⟩:=ZT h
 unfold Zd2
 rw[ZeC g hG.short,h,bS]
 simp only[beq_self_eq_true,cT,ZDA hG c,bS]
def ZX (E:List Zv) (left on:List Int):List Int:=((List.range left.length).filter fun i:Nat=>!(lf left (i:Int)==0)&&(!(decide ((i:Int)∈on))&&ZiH E left (i:Int))).map fun i:Nat=>(i:Int)
theorem Zkx {g:Zj} (h:ZM g=0) {left on:List Int} (c:ZaB g left on):Zc1 g (Zq.mk on left)=some (ZX g.edges left on):=by
 obtain⟨hG,hA⟩:=ZT h
 have hw:=hG.wl
 have ll:=c.ll
 have o8:=c.o8
 unfold Zc1
 rw[Zhf h c,bS]
 unfold ZfY
 rw[ZkO (n:=left.length) (Zd3 g (Zq.mk on left)) (fun i:Nat=>!(lf left (i:Int)==0)&&(!(decide ((i:Int)∈on))&&ZiH g.edges left (i:Int))) (fun i out hi ho=>?_) (fun out=>by simp only[Zd3,ZaY];rfl)]
 ·rfl
 ·have hin:isN left (i:Int):=⟨by omega,by simpa using hi⟩
  simp only[Zd3,ZaU hi,cT,ZrP (c:=Zq.mk on left) hin,bS,Zhd on (i:Int) (by omega),ZhQ,ZwG hG (c:=Zq.mk on left) c.ll,ZA hi (by omega),Zar (show out.length+1<=1073741824 by omega)]
  cases lf left (i:Int)==0<;>cases decide ((i:Int)∈on)<;>cases ZiH g.edges left (i:Int)<;>rfl
theorem ZkH {E:List Zv}{left on:List Int} (hr:∀x∈left,0<=x) {n:Int}:n∈ZX E left on↔Rdy E left on n:=by
 unfold ZX Rdy isN
 rw[Zf3]
 simp only[aT,Bool.not_eq_true',beq_eq_false_iff_ne,decide_eq_false_iff_not]
 constructor
 ·rintro ⟨h0,h1,h2,h3,h4⟩
  rw[toNat_of_nonneg h0] at h2 h3 h4
  refine⟨⟨h0,h1⟩,?_,h3,Zcs.1 h4⟩
  have:0<=lf left n:=by
   rw[show lf left n=lf left n from rfl]
   exact hr _ (mG (ZjB h0 h1))
  omega
 ·rintro ⟨⟨h0,h1⟩,h2,h3,h4⟩
  refine⟨h0,h1,?_⟩
  rw[toNat_of_nonneg h0]
  exact⟨by omega,h3,Zcs.2 h4⟩
theorem ZkQ (E:List Zv) (left on:List Int):(ZX E left on).Nodup:=by
 unfold ZX
 exact List.Pairwise.map _ (fun a b (h:a≠b)=>by omega) (List.Pairwise.filter _ List.nodup_range)
def upd {α:Type} (f:Nat->α) (c:Nat) (v:α):Nat->α:=fun k=>if k=c then v else f k
theorem Z2 {α:Type} (f:Nat->α) (c:Nat) (v:α):upd f c v c=v:=if_pos rfl
theorem ZuD {α:Type} (f:Nat->α) {c k:Nat} (v:α) (h:k≠c):upd f c v k=f k:=if_neg h
structure Zh where
 T:Nat->Int
 B:Nat->Int
 R:Nat->Int->Int
 O:Nat->Int
 a:Nat->Int
 x:Nat->Int
 y:Nat->Int
 z:Nat->Int
 F:Nat->Nat
def vic (m c f:Nat):Nat:=(c+f) % m
def Zh.fresh (V:Zh) (c f:Nat):Zh:=⟨V.T,V.B,V.R,V.O,upd V.a c 0,upd V.x c 0,upd V.y c 0,upd V.z c 0,upd V.F c f⟩
def Zh.got (V:Zh) (c:Nat) (n:Int):Zh:=⟨V.T,V.B,V.R,upd V.O c n,upd V.a c 0,upd V.x c 0,upd V.y c 0,upd V.z c 0,upd V.F c 0⟩
def Zh.setT (V:Zh) (c:Nat) (n:Int):Zh:=⟨upd V.T c n,V.B,V.R,V.O,V.a,V.x,V.y,V.z,V.F⟩
def Zh.setB (V:Zh) (c:Nat) (n:Int):Zh:=⟨V.T,upd V.B c n,V.R,V.O,V.a,V.x,V.y,V.z,V.F⟩
def Zh.tk (V:Zh) (c:Nat) (a x y z:Int):Zh:=⟨V.T,V.B,V.R,V.O,upd V.a c a,upd V.x c x,upd V.y c y,upd V.z c z,V.F⟩
def Zat (m:Nat) (V:Zh) (c:Nat):Zh:=
 if V.F c=0 then
  if V.a c=0 then (V.setB c (V.B c-1)).tk c 1 (V.x c) (V.B c-1) (V.z c)
  else if V.a c=1 then
   if V.T c<V.y c then V.got c (V.R c (V.y c))
   else if V.T c=V.y c then V.tk c 2 (V.T c) (V.y c) (V.z c)
   else V.tk c 3 (V.T c) (V.y c) (V.z c)
  else if V.a c=2 then
   if V.T c=V.x c then (V.setT c (V.T c+1)).tk c 4 (V.x c) (V.y c) (V.R c (V.y c))
   else V.tk c 3 (V.x c) (V.y c) (V.z c)
  else if V.a c=4 then (V.setB c (V.y c+1)).got c (V.z c)
  else (V.setB c (V.y c+1)).fresh c (1 % m)
 else
  if V.a c=0 then V.tk c 1 (V.T (vic m c (V.F c))) (V.y c) (V.z c)
  else if V.a c=1 then
   if V.x c<V.B (vic m c (V.F c)) then V.tk c 2 (V.x c) (V.B (vic m c (V.F c))) (V.z c)
   else V.fresh c ((V.F c+1) % m)
  else if V.a c=2 then V.tk c 3 (V.x c) (V.y c) (V.R (vic m c (V.F c)) (V.x c))
  else if V.T (vic m c (V.F c))=V.x c then (V.setT (vic m c (V.F c)) (V.T (vic m c (V.F c))+1)).got c (V.z c)
  else V.fresh c ((V.F c+1) % m)
def Zh.be (V:Zh) (c:Nat):Int:=if V.F c=0/\0<V.a c then V.B c+1 else V.B c
def Zh.lo (V:Zh) (c:Nat):Int:=if V.F c=0/\V.a c=4 then V.T c-1 else V.T c
structure Pos (m:Nat) (V:Zh) (c:Nat):Prop where
 F:V.F c<m
 busy:V.O c ≠ -1->V.a c=0/\V.F c=0
 a0:0<=V.a c
 a4:V.a c<=4
 a3:V.F c≠0->V.a c<=3
 T0:0<=V.T c
 TB:V.T c<=V.be c
 B64:V.be c<=64
 o1:V.F c=0->0<V.a c->V.y c=V.B c
 o2:V.F c=0->V.a c=2->V.x c=V.y c/\V.x c<=V.T c
 o3:V.F c=0->V.a c=3∨V.a c=4->V.T c=V.B c+1
 o4:V.F c=0->V.a c=4->V.z c=V.R c (V.B c)
 t1:V.F c≠0->0<V.a c->0<=V.x c/\V.x c<=V.T (vic m c (V.F c))
 t2:V.F c≠0->2<=V.a c->V.x c=V.T (vic m c (V.F c))->V.T (vic m c (V.F c))<V.be (vic m c (V.F c))
 t3:V.F c≠0->V.a c=3->V.z c=V.R (vic m c (V.F c)) (V.x c)
 rx : -1<=V.x c/\V.x c<=64
 ry : -1<=V.y c/\V.y c<=64
def Item (m:Nat) (V:Zh) (c:Nat) (k:Int):Prop:=c<m/\V.lo c<=k/\k<V.be c
structure Zr9 (m:Nat) (base:Int->Prop) (V:Zh):Prop where
 rdy:∀c k,Item m V c k->base (V.R c k)/\∀i,i<m->V.O i≠V.R c k
 inj:∀c k c' k',Item m V c k->Item m V c' k'->V.R c k=V.R c' k'->c=c'/\k=k'
 all:∀n,base n->(∀i,i<m->V.O i≠n)->∃c k,Item m V c k/\V.R c k=n
structure Inv (m:Nat) (base:Int->Prop) (V:Zh):Prop where
 pos:∀c,c<m->Pos m V c
 items:Zr9 m base V
theorem Zpk {m:Nat} (hm:0<m) (c f:Nat):vic m c f<m:=mod_lt _ hm
theorem ZFJ {m c f:Nat} (hc:c<m) (hf:f<m) (h0:f≠0):vic m c f≠c:=by
 unfold vic
 intro h
 by_cases hl:c+f<m
 ·rw[mod_eq_of_lt hl] at h;omega
 ·rw[Nat.mod_eq_sub_mod (by omega),mod_eq_of_lt (by omega)] at h;omega
theorem Zvu {m c:Nat} (hc:c<m):vic m c 0=c:=by unfold vic;rw[add_zero,mod_eq_of_lt hc]
theorem Pos.other {m:Nat}{V W:Zh}{c i:Nat} (hm:0<m) (all:∀j,j<m->V.T j<=V.be j) (p:Pos m V i) (hi:i<m)
  (hT:∀j,j<m->W.T j=V.T j∨(W.T j=V.T j+1/\V.T j<V.be j))
  (hb:∀j,j<m->W.be j=V.be j∨(j=c/\W.be j=V.be j-1/\V.T j<W.be j/\W.T j=V.T j))
  (hne:i≠c) (hF:W.F i=V.F i) (ha:W.a i=V.a i) (hx:W.x i=V.x i) (hy:W.y i=V.y i) (hz:W.z i=V.z i) (hO:W.O i=V.O i) (hB:W.B i=V.B i) (hR:W.R=V.R):Pos m W i:=by
 have hTi:=hT i hi
 have hbi:W.be i=V.be i:=by
  rcases hb i hi with h | ⟨h,_⟩
  ·exact h
  ·exact absurd h hne
 have hv:=Zpk hm i (V.F i)
 have hTv:=hT _ hv
 have hbv:=hb _ hv
 refine⟨by rw[hF];exact p.F,fun h=>?_,by rw[ha];exact p.a0,by rw[ha];exact p.a4,fun h=>?_,?_,?_,by rw[hbi];exact p.B64,fun h h2=>?_,fun h h2=>?_,fun h h2=>?_,fun h h2=>?_,fun h h2=>?_,fun h h2 h3=>?_,fun h h2=>?_,by rw[hx];exact p.rx,by rw[hy];exact p.ry⟩
 ·rw[hO] at h;rw[ha,hF];exact p.busy h
 ·rw[hF] at h;rw[ha];exact p.a3 h
 ·have:=p.T0;rcases hTi with h | h<;>omega
 ·have:=p.TB;rw[hbi];rcases hTi with h | h<;>omega
 ·rw[hF] at h;rw[ha] at h2;rw[hy,hB];exact p.o1 h h2
 ·rw[hF] at h;rw[ha] at h2
  have:=p.o2 h h2
  rw[hx,hy]
  refine⟨this.1,?_⟩
  rcases hTi with h | h<;>omega
 ·rw[hF] at h;rw[ha] at h2
  have h3:=p.o3 h h2
  rw[hB]
  rcases hTi with h4 | ⟨h4,h5⟩
  ·omega
  ·have:V.be i=V.B i+1:=by unfold Zh.be;rw[if_pos ⟨h,by omega⟩]
   omega
 ·rw[hF] at h;rw[ha] at h2;rw[hz,hR,hB];exact p.o4 h h2
 ·rw[hF] at h ⊢;rw[ha] at h2
  have:=p.t1 h h2
  rw[hx]
  refine⟨this.1,?_⟩
  rcases hTv with h | h<;>omega
 ·rw[hF] at h h3 ⊢;rw[ha] at h2;rw[hx] at h3
  have h5:=p.t1 h (by omega)
  rcases hTv with h4 | ⟨h4,_⟩
  ·have h6:=p.t2 h h2 (by omega)
   rcases hbv with h7 | ⟨_,h7,h8,_⟩<;>omega
  ·omega
 ·rw[hF] at h ⊢;rw[ha] at h2;rw[hz,hR,hx];exact p.t3 h h2
theorem Zr9.same {m:Nat}{base:Int->Prop}{V W:Zh} (h:Zr9 m base V) (hlo:∀j,j<m->W.lo j=V.lo j) (hbe:∀j,j<m->W.be j=V.be j) (hO:∀j,j<m->W.O j=V.O j) (hR:W.R=V.R):Zr9 m base W:=by
 have it:∀c k,Item m W c k↔Item m V c k:=fun c k=>by
  unfold Item
  constructor
  ·rintro ⟨h1,h2,h3⟩;rw[hlo c h1] at h2;rw[hbe c h1] at h3;exact⟨h1,h2,h3⟩
  ·rintro ⟨h1,h2,h3⟩;rw[<- hlo c h1] at h2;rw[<- hbe c h1] at h3;exact⟨h1,h2,h3⟩
 refine⟨fun c k hi=>?_,fun c k c' k' h1 h2 h3=>?_,fun n hn ho=>?_⟩
 ·rw[hR]
  obtain⟨h1,h2⟩:=h.rdy c k ((it c k).1 hi)
  exact⟨h1,fun i hi=>by rw[hO i hi];exact h2 i hi⟩
 ·rw[hR] at h3
  exact h.inj c k c' k' ((it c k).1 h1) ((it c' k').1 h2) h3
 ·obtain⟨c,k,h1,h2⟩:=h.all n hn fun i hi=>by rw[<- hO i hi];exact ho i hi
  exact⟨c,k,(it c k).2 h1,by rw[hR];exact h2⟩
theorem Zr9.take {m:Nat}{base:Int->Prop}{V W:Zh}{c v:Nat}{k0:Int} (h:Zr9 m base V) (hc:c<m) (hidle:V.O c = -1) (hb:∀n,base n->n ≠ -1) (hit:Item m V v k0)
  (it:∀i k,Item m W i k↔Item m V i k/\¬(i=v/\k=k0)) (hO:W.O c=V.R v k0) (hO2:∀j,j<m->j≠c->W.O j=V.O j) (hR:W.R=V.R):Zr9 m base W:=by
 refine⟨fun i k hi=>?_,fun i k i' k' h1 h2 h3=>?_,fun n hn ho=>?_⟩
 ·obtain⟨h1,h2⟩:=(it i k).1 hi
  obtain⟨h3,h4⟩:=h.rdy i k h1
  rw[hR]
  refine⟨h3,fun j hj=>?_⟩
  by_cases e:j=c
  ·rw[e,hO]
   intro he
   exact h2 (by have:=h.inj v k0 i k hit h1 he;exact⟨this.1.symm,this.2.symm⟩)
  ·rw[hO2 j hj e];exact h4 j hj
 ·rw[hR] at h3
  exact h.inj i k i' k' ((it i k).1 h1).1 ((it i' k').1 h2).1 h3
 ·have hne:n≠V.R v k0:=fun e=>ho c hc (by rw[hO,e])
  obtain⟨i,k,h1,h2⟩:=h.all n hn fun j hj=>by
   by_cases e:j=c
   ·rw[e,hidle];exact fun he=>hb n hn he.symm
   ·rw[<- hO2 j hj e];exact ho j hj
  refine⟨i,k,(it i k).2 ⟨h1,fun⟨e1,e2⟩=>hne ?_⟩,by rw[hR];exact h2⟩
  rw[<- h2,e1,e2]
theorem Pos.fresh0 {m:Nat}{W:Zh}{c:Nat} (hF:W.F c<m) (ha:W.a c=0) (hx:W.x c=0) (hy:W.y c=0) (hO:W.O c ≠ -1->W.F c=0) (h0:0<=W.T c) (h1:W.T c<=W.B c) (h2:W.B c<=64):Pos m W c:=by
 have hb:W.be c=W.B c:=by unfold Zh.be;rw[if_neg (by omega)]
 refine⟨hF,fun h=>⟨ha,hO h⟩,by omega,by omega,fun _=>by omega,h0,by omega,by omega,fun _ h=>by omega,fun _ h=>by omega,fun _ h=>by omega,fun _ h=>by omega,fun _ h=>by omega,fun _ h=>by omega,fun _ h=>by omega,by omega,by omega⟩
theorem Pos.owner {m:Nat}{W:Zh}{c:Nat} (hm:0<m) (hF:W.F c=0) (hO:W.O c = -1) (ha:1<=W.a c/\W.a c<=4) (hy:W.y c=W.B c) (h0:0<=W.T c) (h1:W.T c<=W.B c+1) (h2:W.B c+1<=64)
  (q2:W.a c=2->W.x c=W.y c/\W.x c<=W.T c) (q3:W.a c=3∨W.a c=4->W.T c=W.B c+1) (q4:W.a c=4->W.z c=W.R c (W.B c)) (rx : -1<=W.x c/\W.x c<=64):Pos m W c:=by
 have hb:W.be c=W.B c+1:=by unfold Zh.be;rw[if_pos ⟨hF,by omega⟩]
 refine⟨by omega,fun h=>absurd hO h,by omega,by omega,fun h=>absurd hF h,h0,by omega,by omega,fun _ _=>hy,fun _ h=>q2 h,fun _ h=>q3 h,fun _ h=>q4 h,fun h=>absurd hF h,fun h=>absurd hF h,fun h=>absurd hF h,rx,by omega⟩
theorem Pos.thief {m:Nat}{V W:Zh}{c:Nat} (p:Pos m V c) (hF:W.F c=V.F c) (h0:V.F c≠0) (hO:W.O c = -1) (hT:W.T=V.T) (hB:W.B=V.B) (hbe:∀j,W.be j=V.be j) (ha:1<=W.a c/\W.a c<=3) (q1:0<=W.x c/\W.x c<=V.T (vic m c (V.F c)))
  (q2:2<=W.a c->W.x c=V.T (vic m c (V.F c))->V.T (vic m c (V.F c))<V.be (vic m c (V.F c))) (q3:W.a c=3->W.z c=W.R (vic m c (V.F c)) (W.x c)) (rx:W.x c<=64) (ry : -1<=W.y c/\W.y c<=64):Pos m W c:=by
 have h0':W.F c≠0:=by rw[hF];exact h0
 refine⟨by rw[hF];exact p.F,fun h=>absurd hO h,by omega,by omega,fun _=>by omega,by rw[hT];exact p.T0,by rw[hT,hbe];exact p.TB,by rw[hbe];exact p.B64,fun h=>absurd h h0',fun h=>absurd h h0',fun h=>absurd h h0',fun h=>absurd h h0',?_,?_,?_,by omega,ry⟩
 ·intro _ _;rw[hF,hT];exact q1
 ·intro _ h h2;rw[hF,hT] at h2 ⊢;rw[hbe];exact q2 h h2
 ·intro _ h;rw[hF];exact q3 h
def Zxr (m:Nat) (base:Int->Prop) (V W:Zh) (c:Nat):Prop:=
 (∀j,W.O j=V.O j)∨(base (W.O c)/\(∀i,i<m->V.O i≠W.O c)/\∀j,j≠c->W.O j=V.O j)
theorem Inv.step {m:Nat}{base:Int->Prop}{V:Zh}{c:Nat} (I:Inv m base V) (hb:∀n,base n->n ≠ -1) (hc:c<m) (hidle:V.O c = -1):Inv m base (Zat m V c)/\Zxr m base V (Zat m V c) c/\(Zat m V c).R=V.R:=by
 have hm:0<m:=by omega
 have p:=I.pos c hc
 have TB:∀j,j<m->V.T j<=V.be j:=fun j hj=>(I.pos j hj).TB
 obtain⟨pF,_,pa0,pa4,pa3,pT0,pTB,pB64,po1,po2,po3,po4,pt1,pt2,pt3,prx,pry⟩:=p
 have quiet:∀W:Zh,W.R=V.R->W.T=V.T->(∀j,W.O j=V.O j)->(∀j,W.be j=V.be j)->(∀j,W.lo j=V.lo j)->(∀i,i≠c->W.F i=V.F i/\W.a i=V.a i/\W.x i=V.x i/\W.y i=V.y i/\W.z i=V.z i/\W.B i=V.B i)->Pos m W c->Inv m base W/\Zxr m base V W c/\W.R=V.R:=by
  intro W hR hT hO hbe hlo hsame hp
  refine⟨⟨fun i hi=>?_,I.items.same (fun j _=>hlo j) (fun j _=>hbe j) (fun j _=>hO j) hR⟩,.inl hO,hR⟩
  by_cases e:i=c
  ·rw[e];exact hp
  ·obtain⟨s1,s2,s3,s4,s5,s6⟩:=hsame i e
   exact(I.pos i hi).other (c:=c) hm TB hi (fun j _=>.inl (by rw[hT])) (fun j _=>.inl (hbe j)) e s1 s2 s3 s4 s5 (hO i) s6 hR
 have hv:=Zpk hm c (V.F c)
 unfold Zat
 by_cases hF:V.F c=0
 ·rw[if_pos hF]
  by_cases a0:V.a c=0
  ·rw[if_pos a0]
   have hbc:V.be c=V.B c:=by unfold Zh.be;rw[if_neg (by omega)]
   refine quiet _ rfl rfl (fun _=>rfl) (fun j=>?_) (fun j=>?_) (fun i e=>?_) ?_
   ·by_cases e:j=c
    ·subst e;simp[Zh.be,Zh.tk,Zh.setB,upd,hF,a0]
    ·simp[Zh.be,Zh.tk,Zh.setB,upd,e]
   ·by_cases e:j=c
    ·subst e;simp[Zh.lo,Zh.tk,Zh.setB,upd,hF,a0]
    ·simp[Zh.lo,Zh.tk,Zh.setB,upd,e]
   ·simp[Zh.tk,Zh.setB,upd,e]
   ·refine Pos.owner hm hF hidle ?_ ?_ pT0 ?_ ?_ ?_ ?_ ?_ ?_<;>simp only[Zh.tk,Zh.setB,Z2]
    ·omega
    ·omega
    ·omega
    ·intro h;omega
    ·intro h;omega
    ·intro h;omega
    ·exact prx
  rw[if_neg a0]
  have hbc:V.be c=V.B c+1:=by unfold Zh.be;rw[if_pos ⟨hF,by omega⟩]
  have hy:=po1 hF (by omega)
  by_cases a1:V.a c=1
  ·rw[if_pos a1]
   by_cases h1:V.T c<V.y c
   ·
    rw[if_pos h1]
    have it0:Item m V c (V.y c):=⟨hc,by unfold Zh.lo;rw[if_neg (by omega)];omega,by omega⟩
    have beW:∀j,j≠c->(V.got c (V.R c (V.y c))).be j=V.be j:=fun j e=>by simp[Zh.be,Zh.got,upd,e]
    have beC:(V.got c (V.R c (V.y c))).be c=V.B c:=by simp[Zh.be,Zh.got,upd]
    have loW:∀j,(V.got c (V.R c (V.y c))).lo j=V.lo j:=fun j=>by
     by_cases e:j=c
     ·subst e;simp[Zh.lo,Zh.got,upd,a1]
     ·simp[Zh.lo,Zh.got,upd,e]
    refine⟨⟨fun i hi=>?_,?_⟩,.inr ⟨?_,?_,fun j e=>by simp[Zh.got,upd,e]⟩,rfl⟩
    ·by_cases e:i=c
     ·rw[e]
      refine Pos.fresh0 ?_ ?_ ?_ ?_ ?_ pT0 ?_ ?_<;>simp only[Zh.got,Z2]
      ·exact hm
      ·exact fun _=>trivial
      ·omega
      ·omega
     ·refine(I.pos i hi).other (c:=c) hm TB hi (fun j _=>.inl rfl) (fun j _=>?_) e ?_ ?_ ?_ ?_ ?_ ?_ rfl rfl
      ·by_cases e2:j=c
       ·subst e2
        exact .inr ⟨rfl,by rw[beC];omega,by rw[beC];omega,rfl⟩
       ·exact .inl (beW j e2)
      all_goals simp[Zh.got,upd,e]
    ·refine I.items.take hc hidle hb it0 (fun i k=>?_) (by simp[Zh.got,upd]) (fun j _ e=>by simp[Zh.got,upd,e]) rfl
     unfold Item
     rw[loW]
     by_cases e:i=c
     ·subst e;rw[beC]
      constructor
      ·rintro ⟨q1,q2,q3⟩;exact⟨⟨q1,q2,by omega⟩,fun h=>by omega⟩
      ·rintro ⟨⟨q1,q2,q3⟩,q4⟩;exact⟨q1,q2,by have:k≠V.y i:=fun h=>q4 ⟨rfl,h⟩;omega⟩
     ·rw[beW i e]
      constructor
      ·rintro ⟨q1,q2,q3⟩;exact⟨⟨q1,q2,q3⟩,fun h=>e h.1⟩
      ·rintro ⟨q,_⟩;exact q
    ·have:=(I.items.rdy c _ it0).1
     simpa [Zh.got,upd] using this
    ·have:=(I.items.rdy c _ it0).2
     simpa [Zh.got,upd] using this
   rw[if_neg h1]
   by_cases h2:V.T c=V.y c
   ·rw[if_pos h2]
    refine quiet _ rfl rfl (fun _=>rfl) (fun j=>?_) (fun j=>?_) (fun i e=>?_) ?_
    ·by_cases e:j=c
     ·subst e;simp[Zh.be,Zh.tk,upd,hF,a1]
     ·simp[Zh.be,Zh.tk,upd,e]
    ·by_cases e:j=c
     ·subst e;simp[Zh.lo,Zh.tk,upd,hF,a1]
     ·simp[Zh.lo,Zh.tk,upd,e]
    ·simp[Zh.tk,upd,e]
    ·refine Pos.owner hm hF hidle ?_ ?_ pT0 ?_ ?_ ?_ ?_ ?_ ?_<;>simp only[Zh.tk,Z2]
     ·omega
     ·exact hy
     ·omega
     ·omega
     ·intro _;exact⟨h2,le_refl _⟩
     ·intro h;omega
     ·intro h;omega
     ·omega
   ·rw[if_neg h2]
    refine quiet _ rfl rfl (fun _=>rfl) (fun j=>?_) (fun j=>?_) (fun i e=>?_) ?_
    ·by_cases e:j=c
     ·subst e;simp[Zh.be,Zh.tk,upd,hF,a1]
     ·simp[Zh.be,Zh.tk,upd,e]
    ·by_cases e:j=c
     ·subst e;simp[Zh.lo,Zh.tk,upd,hF,a1]
     ·simp[Zh.lo,Zh.tk,upd,e]
    ·simp[Zh.tk,upd,e]
    ·refine Pos.owner hm hF hidle ?_ ?_ pT0 ?_ ?_ ?_ ?_ ?_ ?_<;>simp only[Zh.tk,Z2]
     ·omega
     ·exact hy
     ·omega
     ·omega
     ·intro h;omega
     ·intro h;omega
     ·intro h;omega
     ·omega
  rw[if_neg a1]
  by_cases a2:V.a c=2
  ·rw[if_pos a2]
   obtain⟨x1,x2⟩:=po2 hF a2
   by_cases h1:V.T c=V.x c
   ·
    rw[if_pos h1]
    have beW:∀j,((V.setT c (V.T c+1)).tk c 4 (V.x c) (V.y c) (V.R c (V.y c))).be j=V.be j:=fun j=>by
     by_cases e:j=c
     ·subst e;simp[Zh.be,Zh.tk,Zh.setT,upd,hF,a2]
     ·simp[Zh.be,Zh.tk,Zh.setT,upd,e]
    have loW:∀j,((V.setT c (V.T c+1)).tk c 4 (V.x c) (V.y c) (V.R c (V.y c))).lo j=V.lo j:=fun j=>by
     by_cases e:j=c
     ·subst e;simp[Zh.lo,Zh.tk,Zh.setT,upd,hF,a2]
     ·simp[Zh.lo,Zh.tk,Zh.setT,upd,e]
    refine⟨⟨fun i hi=>?_,I.items.same (fun j _=>loW j) (fun j _=>beW j) (fun j _=>rfl) rfl⟩,.inl fun _=>rfl,rfl⟩
    by_cases e:i=c
    ·rw[e]
     refine Pos.owner hm hF hidle ?_ ?_ ?_ ?_ ?_ ?_ ?_ ?_ ?_<;>simp only[Zh.tk,Zh.setT,Z2]
     ·omega
     ·exact hy
     ·omega
     ·omega
     ·omega
     ·intro h;omega
     ·intro h;omega
     ·intro h;rw[hy]
     ·exact prx
    ·refine(I.pos i hi).other (c:=c) hm TB hi (fun j _=>?_) (fun j _=>.inl (beW j)) e ?_ ?_ ?_ ?_ ?_ rfl ?_ rfl
     ·by_cases e2:j=c
      ·subst e2
       refine .inr ⟨by simp[Zh.tk,Zh.setT,upd],by omega⟩
      ·exact .inl (by simp[Zh.tk,Zh.setT,upd,e2])
     all_goals simp[Zh.tk,Zh.setT,upd,e]
   ·rw[if_neg h1]
    refine quiet _ rfl rfl (fun _=>rfl) (fun j=>?_) (fun j=>?_) (fun i e=>?_) ?_
    ·by_cases e:j=c
     ·subst e;simp[Zh.be,Zh.tk,upd,hF,a2]
     ·simp[Zh.be,Zh.tk,upd,e]
    ·by_cases e:j=c
     ·subst e;simp[Zh.lo,Zh.tk,upd,hF,a2]
     ·simp[Zh.lo,Zh.tk,upd,e]
    ·simp[Zh.tk,upd,e]
    ·refine Pos.owner hm hF hidle ?_ ?_ pT0 ?_ ?_ ?_ ?_ ?_ ?_<;>simp only[Zh.tk,Z2]
     ·omega
     ·exact hy
     ·omega
     ·omega
     ·intro h;omega
     ·intro h;omega
     ·intro h;omega
     ·exact prx
  rw[if_neg a2]
  have hT:=po3 hF (by omega)
  by_cases a4:V.a c=4
  ·
   rw[if_pos a4]
   have hz:=po4 hF a4
   have it0:Item m V c (V.B c):=⟨hc,by unfold Zh.lo;rw[if_pos ⟨hF,a4⟩];omega,by omega⟩
   have beW:∀j,j≠c->((V.setB c (V.y c+1)).got c (V.z c)).be j=V.be j:=fun j e=>by simp[Zh.be,Zh.got,Zh.setB,upd,e]
   have beC:((V.setB c (V.y c+1)).got c (V.z c)).be c=V.B c+1:=by simp[Zh.be,Zh.got,Zh.setB,upd];omega
   have loC:((V.setB c (V.y c+1)).got c (V.z c)).lo c=V.T c:=by simp[Zh.lo,Zh.got,Zh.setB,upd]
   have loW:∀j,j≠c->((V.setB c (V.y c+1)).got c (V.z c)).lo j=V.lo j:=fun j e=>by simp[Zh.lo,Zh.got,Zh.setB,upd,e]
   have loV:V.lo c=V.T c-1:=by unfold Zh.lo;rw[if_pos ⟨hF,a4⟩]
   refine⟨⟨fun i hi=>?_,?_⟩,.inr ⟨?_,?_,fun j e=>by simp[Zh.got,Zh.setB,upd,e]⟩,rfl⟩
   ·by_cases e:i=c
    ·rw[e]
     refine Pos.fresh0 ?_ ?_ ?_ ?_ ?_ pT0 ?_ ?_<;>simp only[Zh.got,Zh.setB,Z2]
     ·exact hm
     ·exact fun _=>trivial
     ·omega
     ·omega
    ·refine(I.pos i hi).other (c:=c) hm TB hi (fun j _=>.inl rfl) (fun j _=>?_) e ?_ ?_ ?_ ?_ ?_ ?_ ?_ rfl
     ·by_cases e2:j=c
      ·subst e2
       exact .inl (by rw[beC];omega)
      ·exact .inl (beW j e2)
     all_goals simp[Zh.got,Zh.setB,upd,e]
   ·refine I.items.take hc hidle hb it0 (fun i k=>?_) (by simp[Zh.got,Zh.setB,upd];exact hz) (fun j _ e=>by simp[Zh.got,Zh.setB,upd,e]) rfl
    unfold Item
    by_cases e:i=c
    ·subst e;rw[beC,loC,loV]
     constructor
     ·rintro ⟨q1,q2,q3⟩;omega
     ·rintro ⟨⟨q1,q2,q3⟩,q4⟩
      exact absurd ⟨rfl,by omega⟩ q4
    ·rw[beW i e,loW i e]
     constructor
     ·rintro ⟨q1,q2,q3⟩;exact⟨⟨q1,q2,q3⟩,fun h=>e h.1⟩
     ·rintro ⟨q,_⟩;exact q
   ·have:=(I.items.rdy c _ it0).1
    simp only[Zh.got,Zh.setB,Z2]
    rw[hz];exact this
   ·have:=(I.items.rdy c _ it0).2
    simp only[Zh.got,Zh.setB,Z2]
    rw[hz];exact this
  ·rw[if_neg a4]
   have a3:V.a c=3:=by omega
   refine quiet _ rfl rfl (fun _=>rfl) (fun j=>?_) (fun j=>?_) (fun i e=>?_) ?_
   ·by_cases e:j=c
    ·subst e
     rw[hbc]
     simp[Zh.be,Zh.fresh,Zh.setB,upd]
     omega
    ·simp[Zh.be,Zh.fresh,Zh.setB,upd,e]
   ·by_cases e:j=c
    ·subst e;simp[Zh.lo,Zh.fresh,Zh.setB,upd,a3]
    ·simp[Zh.lo,Zh.fresh,Zh.setB,upd,e]
   ·simp[Zh.fresh,Zh.setB,upd,e]
   ·refine Pos.fresh0 ?_ ?_ ?_ ?_ ?_ pT0 ?_ ?_<;>simp only[Zh.fresh,Zh.setB,Z2]
    ·exact mod_lt _ hm
    ·exact fun h=>absurd hidle h
    ·omega
    ·omega
 ·rw[if_neg hF]
  have pv:=I.pos _ hv
  have hbc:V.be c=V.B c:=by unfold Zh.be;rw[if_neg (by omega)]
  have fresh:∀f,f<m->Inv m base (V.fresh c f)/\Zxr m base V (V.fresh c f) c/\(V.fresh c f).R=V.R:=fun f hf=>by
   refine quiet _ rfl rfl (fun _=>rfl) (fun j=>?_) (fun j=>?_) (fun i e=>?_) ?_
   ·by_cases e:j=c
    ·subst e;rw[hbc];simp[Zh.be,Zh.fresh,upd]
    ·simp[Zh.be,Zh.fresh,upd,e]
   ·by_cases e:j=c
    ·subst e;simp[Zh.lo,Zh.fresh,upd,hF]
    ·simp[Zh.lo,Zh.fresh,upd,e]
   ·simp[Zh.fresh,upd,e]
   ·refine Pos.fresh0 ?_ ?_ ?_ ?_ ?_ pT0 ?_ ?_<;>simp only[Zh.fresh,Z2]
    ·exact hf
    ·exact fun h=>absurd hidle h
    ·omega
    ·omega
  have tk:∀a x y z,1<=a/\a<=3->(0<=x/\x<=V.T (vic m c (V.F c)))->(2<=a->x=V.T (vic m c (V.F c))->V.T (vic m c (V.F c))<V.be (vic m c (V.F c)))->(a=3->z=V.R (vic m c (V.F c)) x)->x<=64->(-1<=y/\y<=64)->Inv m base (V.tk c a x y z)/\Zxr m base V (V.tk c a x y z) c/\(V.tk c a x y z).R=V.R:=fun a x y z q0 q1 q2 q3 q4 q5=>by
   have hbe:∀j,(V.tk c a x y z).be j=V.be j:=fun j=>by
    by_cases e:j=c
    ·subst e;rw[hbc];simp[Zh.be,Zh.tk,upd,hF]
    ·simp[Zh.be,Zh.tk,upd,e]
   refine quiet _ rfl rfl (fun _=>rfl) hbe (fun j=>?_) (fun i e=>?_) ?_
   ·by_cases e:j=c
    ·subst e;simp[Zh.lo,Zh.tk,upd,hF]
    ·simp[Zh.lo,Zh.tk,upd,e]
   ·simp[Zh.tk,upd,e]
   ·refine Pos.thief (I.pos c hc) rfl hF hidle rfl rfl hbe ?_ ?_ ?_ ?_ ?_ ?_<;>simp only[Zh.tk,Z2]
    ·exact q0
    ·exact q1
    ·exact q2
    ·exact q3
    ·exact q4
    ·exact q5
  have bv:V.B (vic m c (V.F c))<=V.be (vic m c (V.F c)) /\ -1<=V.B (vic m c (V.F c)):=by
   have h1:=pv.T0
   have h2:=pv.TB
   unfold Zh.be at h2 ⊢
   split at h2<;>rename_i hh<;>simp only[hh]<;>simp<;>omega
  have b64:=pv.B64
  have t64:=pv.TB
  by_cases a0:V.a c=0
  ·rw[if_pos a0]
   exact tk 1 _ _ _ (by omega) ⟨pv.T0,le_refl _⟩ (fun h=>by omega) (fun h=>by omega) (by omega) pry
  rw[if_neg a0]
  have x0:=pt1 hF (by omega)
  by_cases a1:V.a c=1
  ·rw[if_pos a1]
   by_cases h1:V.x c<V.B (vic m c (V.F c))
   ·rw[if_pos h1]
    exact tk 2 _ _ _ (by omega) x0 (fun _ h=>by omega) (fun h=>by omega) prx.2 (by omega)
   ·rw[if_neg h1]
    exact fresh _ (mod_lt _ hm)
  rw[if_neg a1]
  by_cases a2:V.a c=2
  ·rw[if_pos a2]
   exact tk 3 _ _ _ (by omega) x0 (fun _ h=>pt2 hF (by omega) h) (fun _=>rfl) prx.2 pry
  rw[if_neg a2]
  have a3:V.a c=3:=by have:=pa3 hF;omega
  by_cases h1:V.T (vic m c (V.F c))=V.x c
  ·
   rw[if_pos h1]
   have hlt:=pt2 hF (by omega) h1.symm
   have hz:=pt3 hF a3
   have vne:=ZFJ hc pF hF
   have hcv:c≠vic m c (V.F c):=fun e=>vne e.symm
   generalize hvv:vic m c (V.F c)=v at *
   have loV:V.lo v=V.T v:=by
    unfold Zh.lo
    by_cases hh:V.F v=0/\V.a v=4
    ·exfalso
     have:=pv.o3 hh.1 (.inr hh.2)
     have:V.be v=V.B v+1:=by unfold Zh.be;rw[if_pos ⟨hh.1,by omega⟩]
     omega
    ·rw[if_neg hh]
   have it0:Item m V v (V.T v):=⟨hv,by omega,hlt⟩
   have beW:∀j,((V.setT v (V.T v+1)).got c (V.z c)).be j=V.be j:=fun j=>by
    by_cases e:j=c
    ·subst e;rw[hbc];simp[Zh.be,Zh.got,Zh.setT,upd]
    ·simp[Zh.be,Zh.got,Zh.setT,upd,e]
   have loW:∀j,j≠v->((V.setT v (V.T v+1)).got c (V.z c)).lo j=V.lo j:=fun j e=>by
    by_cases e2:j=c
    ·subst e2;simp[Zh.lo,Zh.got,Zh.setT,upd,hF,e]
    ·simp[Zh.lo,Zh.got,Zh.setT,upd,e,e2]
   have loC:((V.setT v (V.T v+1)).got c (V.z c)).lo v=V.T v+1:=by
    have hn:¬(V.F v=0/\V.a v=4):=fun hh=>by
     have:V.lo v=V.T v-1:=by unfold Zh.lo;rw[if_pos hh]
     omega
    simp[Zh.lo,Zh.got,Zh.setT,upd,vne]
    intro h h2
    exact absurd ⟨h,h2⟩ hn
   refine⟨⟨fun i hi=>?_,?_⟩,.inr ⟨?_,?_,fun j e=>by simp[Zh.got,Zh.setT,upd,e]⟩,rfl⟩
   ·by_cases e:i=c
    ·rw[e]
     refine Pos.fresh0 ?_ ?_ ?_ ?_ ?_ ?_ ?_ ?_<;>simp only[Zh.got,Zh.setT,Z2,ZuD _ _ hcv]
     ·exact hm
     ·exact fun _=>trivial
     ·exact pT0
     ·omega
     ·omega
    ·refine(I.pos i hi).other (c:=c) hm TB hi (fun j _=>?_) (fun j _=>.inl (beW j)) e ?_ ?_ ?_ ?_ ?_ ?_ rfl rfl
     ·by_cases e2:j=v
      ·subst e2
       exact .inr ⟨by simp[Zh.got,Zh.setT,upd],hlt⟩
      ·exact .inl (by simp[Zh.got,Zh.setT,upd,e2])
     all_goals simp[Zh.got,Zh.setT,upd,e]
   ·refine I.items.take hc hidle hb it0 (fun i k=>?_) (by simp[Zh.got,Zh.setT,upd];rw[hz,h1]) (fun j _ e=>by simp[Zh.got,Zh.setT,upd,e]) rfl
    unfold Item
    rw[beW]
    by_cases e:i=v
    ·subst e;rw[loC,loV]
     constructor
     ·rintro ⟨q1,q2,q3⟩;exact⟨⟨q1,by omega,q3⟩,fun h=>by omega⟩
     ·rintro ⟨⟨q1,q2,q3⟩,q4⟩;exact⟨q1,by have:k≠V.T i:=fun h=>q4 ⟨rfl,h⟩;omega,q3⟩
    ·rw[loW i e]
     constructor
     ·rintro ⟨q1,q2,q3⟩;exact⟨⟨q1,q2,q3⟩,fun h=>e h.1⟩
     ·rintro ⟨q,_⟩;exact q
   ·have:=(I.items.rdy v _ it0).1
    simp only[Zh.got,Zh.setT,Z2]
    rw[hz,<- h1];exact this
   ·have:=(I.items.rdy v _ it0).2
    simp only[Zh.got,Zh.setT,Z2]
    rw[hz,<- h1];exact this
  ·rw[if_neg h1]
   exact fresh _ (mod_lt _ hm)
def Zgg (f:Nat->Nat):Nat->Nat
 | 0=>0
 | n+1=>Zgg f n+f n
theorem ZtX {f h:Nat->Nat}:∀n,(∀i,i<n->f i<=h i)->Zgg f n<=Zgg h n
 | 0,_=>Nat.le_refl _
 | n+1,e=>by
  have:=ZtX n fun i hi=>e i (by omega)
  have:=e n (by omega)
  unfold Zgg
  omega
theorem Znj {f h:Nat->Nat} (n:Nat) (e:∀i,i<n->f i=h i):Zgg f n=Zgg h n:=
 Nat.le_antisymm (ZtX n fun i hi=>Nat.le_of_eq (e i hi)) (ZtX n fun i hi=>Nat.le_of_eq (e i hi).symm)
theorem ZlI {f h:Nat->Nat}{c:Nat}:∀n,c<n->(∀i,i<n->i≠c->f i=h i)->f c+1<=h c->Zgg f n+1<=Zgg h n
 | 0,hc,_,_=>by omega
 | n+1,hc,e,hd=>by
  unfold Zgg
  by_cases hn:c=n
  ·subst hn
   have:=Znj (f:=f) (h:=h) c fun i hi=>e i (by omega) (by omega)
   omega
  ·have:=ZlI n (by omega) (fun i hi hne=>e i (by omega) hne) hd
   have:=e n (by omega) (fun h=>hn h.symm)
   omega
theorem Zot {a b:Nat}{p:Nat->Prop} (dp:∀i,Decidable (p i)) {f h:Nat->Nat}:∀n,(∀i,i<n->(p i->f i<=a/\h i=1)/\(¬p i->f i<=b/\h i=0))->Zgg f n<=Zgg h n*a+(n-Zgg h n)*b/\Zgg h n<=n
 | 0,_=>by simp[Zgg]
 | n+1,e=>by
  obtain⟨h1,h2⟩:=Zot dp n fun i hi=>e i (by omega)
  obtain⟨e1,e2⟩:=e n (by omega)
  unfold Zgg
  by_cases hp:p n
  ·obtain⟨q1,q2⟩:=e1 hp
   rw[q2]
   refine⟨?_,by omega⟩
   have:n+1-(Zgg h n+1)=n-Zgg h n:=by omega
   rw[this,succ_mul]
   omega
  ·obtain⟨q1,q2⟩:=e2 hp
   rw[q2,add_zero]
   refine⟨?_,by omega⟩
   have:n+1-Zgg h n=(n-Zgg h n)+1:=by omega
   rw[this,succ_mul]
   omega
def Za4 (V:Zh) (c:Nat):Prop:=V.F c=0->0<V.a c->V.y c=V.B c/\(V.a c=2->V.x c=V.y c/\V.x c<=V.T c)/\(V.a c=3∨V.a c=4->V.B c+1<=V.T c)
noncomputable def BeG (V:Zh) (c:Nat):Int:=@ite _ (V.F c=0/\0<V.a c/\Za4 V c) (Classical.propDecidable _) (V.B c+1) (V.B c)
theorem ZgU {V:Zh}{c:Nat} (hF:V.F c=0) (ha:0<V.a c) (h:Za4 V c):BeG V c=V.B c+1:=by unfold BeG;rw[if_pos ⟨hF,ha,h⟩]
theorem ZbF {V:Zh}{c:Nat} (h:¬(V.F c=0/\0<V.a c/\Za4 V c)):BeG V c=V.B c:=by unfold BeG;rw[if_neg h]
theorem ZJe (V:Zh) (c:Nat):V.B c<=BeG V c:=by unfold BeG;split<;>omega
def NE (V:Zh) (j:Nat):Prop:=V.T j<BeG V j
def Zum (m:Nat) (V:Zh) (p:Nat):Prop:=p<m/\V.O p = -1/\V.F p=0/\((V.a p=1/\V.T p<=V.y p)∨(V.a p=2/\V.T p=V.x p))
noncomputable def wV (m:Nat) (V:Zh):Nat:=Zgg (fun c=>@ite _ (Za4 V c) (Classical.propDecidable _) 0 1) m
def rP (V:Zh) (p:Nat):Nat:=if V.a p=1 then 2 else 1
def dP (m:Nat) (last:Int) (p:Nat):Nat:=if last<(p:Int) then ((p:Int)-last-1).toNat else ((p:Int)+m-last-1).toNat
def Zcc (V:Zh) (c:Nat):Nat:=if V.a c=4 then 1 else (4-V.a c).toNat
def Zj7 (V:Zh) (c:Nat):Nat:=if V.a c=0 then 0 else Zcc V c
def ZEg (m:Nat) (V:Zh) (c:Nat):Prop:=NE V (vic m c (V.F c))/\(V.a c=0∨(V.F c≠0/\V.x c=V.T (vic m c (V.F c))))
def OKD (m:Nat) (V:Zh) (c d:Nat):Prop:=(V.F c=0/\V.a c=4/\1<=d)∨(ZEg m V c/\Zcc V c<=d)∨(∃j,1<=j/\NE V (vic m c (V.F c+j))/\Zcc V c+4*j<=d)
def In (m:Nat) (V:Zh) (last:Int) (k:Nat):Prop:=
 (∃p,Zum m V p/\rP V p*m+dP m last p<=k) ∨
 ((∀p,¬Zum m V p)/\(∃j,j<m/\NE V j)/\∃D:Nat->Nat,(∀c,c<m->V.O c = -1->OKD m V c (D c))/\3*m+Zgg (fun c=>if V.O c = -1 then D c else 0) m<=k) ∨
 ((∀p,¬Zum m V p)/\(∀j,j<m->¬NE V j)/\Zgg (fun c=>if V.O c = -1 then Zj7 V c else 0) m<=k)
def uV (m:Nat) (V:Zh):Nat:=Zgg (fun c=>if V.O c = -1/\¬(V.F c=0/\V.a c=4) then 1 else 0) m
def Claim (m:Nat) (V:Zh) (c:Nat):Prop:=(V.F c=0/\V.a c=1/\V.T c<V.y c)∨(V.F c=0/\V.a c=2/\V.T c=V.x c)∨(V.F c≠0/\V.a c=3/\V.T (vic m c (V.F c))=V.x c)
def ZdA (m:Nat) (V:Zh) (c:Nat):Prop:=c<m/\V.O c = -1/\((∃j,j<m/\V.T j<V.B j)∨V.a c≠0)
structure Gen (m:Nat) (V:Zh) (c:Nat):Prop where
 F:V.F c<m
 busy:V.O c ≠ -1->V.a c=0/\V.F c=0
 a0:0<=V.a c
 a4:V.a c<=4
 a3:V.F c≠0->V.a c<=3
theorem Pos.gen {m:Nat}{V:Zh}{c:Nat} (p:Pos m V c):Gen m V c:=⟨p.F,p.busy,p.a0,p.a4,p.a3⟩
theorem Pos.ownOK {m:Nat}{V:Zh}{c:Nat} (p:Pos m V c):Za4 V c:=fun h1 h2=>⟨p.o1 h1 h2,p.o2 h1,fun h=>by have:=p.o3 h1 h;omega⟩
def ZFp (m:Nat) (V:Zh) (c:Nat):Prop:=(V.F c=0/\V.a c=1/\V.T c<V.y c)∨(V.F c=0/\V.a c=4)∨(V.F c≠0/\V.a c=3/\V.T (vic m c (V.F c))=V.x c)
inductive StepC (m:Nat) (V:Zh) (c:Nat):Zh->Prop
 | own0:V.F c=0->V.a c=0->StepC m V c ((V.setB c (V.B c-1)).tk c 1 (V.x c) (V.B c-1) (V.z c))
 | take:V.F c=0->V.a c=1->V.T c<V.y c->StepC m V c (V.got c (V.R c (V.y c)))
 | last:V.F c=0->V.a c=1->V.T c=V.y c->StepC m V c (V.tk c 2 (V.T c) (V.y c) (V.z c))
 | none1:V.F c=0->V.a c=1->V.y c<V.T c->StepC m V c (V.tk c 3 (V.T c) (V.y c) (V.z c))
 | win:V.F c=0->V.a c=2->V.T c=V.x c->StepC m V c ((V.setT c (V.T c+1)).tk c 4 (V.x c) (V.y c) (V.R c (V.y c)))
 | lose:V.F c=0->V.a c=2->V.T c≠V.x c->StepC m V c (V.tk c 3 (V.x c) (V.y c) (V.z c))
 | work:V.F c=0->V.a c=4->StepC m V c ((V.setB c (V.y c+1)).got c (V.z c))
 | back:V.F c=0->V.a c=3->StepC m V c ((V.setB c (V.y c+1)).fresh c (1 % m))
 | top:V.F c≠0->V.a c=0->StepC m V c (V.tk c 1 (V.T (vic m c (V.F c))) (V.y c) (V.z c))
 | bottom:V.F c≠0->V.a c=1->V.x c<V.B (vic m c (V.F c))->StepC m V c (V.tk c 2 (V.x c) (V.B (vic m c (V.F c))) (V.z c))
 | none2:V.F c≠0->V.a c=1->V.B (vic m c (V.F c))<=V.x c->StepC m V c (V.fresh c ((V.F c+1) % m))
 | read:V.F c≠0->V.a c=2->StepC m V c (V.tk c 3 (V.x c) (V.y c) (V.R (vic m c (V.F c)) (V.x c)))
 | steal:V.F c≠0->V.a c=3->V.T (vic m c (V.F c))=V.x c->StepC m V c ((V.setT (vic m c (V.F c)) (V.T (vic m c (V.F c))+1)).got c (V.z c))
 | lost:V.F c≠0->V.a c=3->V.T (vic m c (V.F c))≠V.x c->StepC m V c (V.fresh c ((V.F c+1) % m))
theorem Zw8 {m:Nat}{V:Zh}{c:Nat} (p:Gen m V c):StepC m V c (Zat m V c):=by
 have h0:=p.a0
 have h4:=p.a4
 have h3:=p.a3
 unfold Zat
 split
 ·rename_i hF
  split
  ·rename_i h;exact .own0 hF h
  split
  ·rename_i h
   split
   ·rename_i q;exact .take hF h q
   split
   ·rename_i q;exact .last hF h q
   ·rename_i q1 q2;exact .none1 hF h (by omega)
  split
  ·rename_i h
   split
   ·rename_i q;exact .win hF h q
   ·rename_i q;exact .lose hF h q
  split
  ·rename_i h;exact .work hF h
  ·exact .back hF (by omega)
 ·rename_i hF
  have:=h3 hF
  split
  ·rename_i h;exact .top hF h
  split
  ·rename_i h
   split
   ·rename_i q;exact .bottom hF h q
   ·rename_i q;exact .none2 hF h (by omega)
  split
  ·rename_i h;exact .read hF h
  split
  ·rename_i q;exact .steal hF (by omega) q
  ·rename_i q;exact .lost hF (by omega) q
theorem ZdT {V:Zh}{c:Nat} (h:V.F c≠0):Za4 V c:=fun h1=>absurd h1 h
theorem Zid {V:Zh}{c:Nat} (h:V.a c=0):Za4 V c:=fun _ h2=>by omega
theorem ZyD {V W:Zh}{j:Nat} (hT:W.T j=V.T j) (hB:W.B j=V.B j) (hF:W.F j=V.F j) (ha:W.a j=V.a j) (hx:W.x j=V.x j) (hy:W.y j=V.y j):(Za4 W j↔Za4 V j)/\BeG W j=BeG V j:=by
 have h:Za4 W j↔Za4 V j:=by unfold Za4;rw[hT,hB,hF,ha,hx,hy]
 refine⟨h,?_⟩
 have e:(W.F j=0/\0<W.a j/\Za4 W j)↔(V.F j=0/\0<V.a j/\Za4 V j):=by rw[hF,ha,h]
 unfold BeG
 by_cases hh:V.F j=0/\0<V.a j/\Za4 V j
 ·rw[if_pos hh,if_pos (e.2 hh),hB]
 ·rw[if_neg hh,if_neg (fun h=>hh (e.1 h)),hB]
theorem Zck {m:Nat}{V W:Zh}{c:Nat} (s:StepC m V c W) {i:Nat} (hi:i≠c):W.O i=V.O i/\W.F i=V.F i/\W.a i=V.a i/\W.x i=V.x i/\W.y i=V.y i/\W.B i=V.B i:=by
 cases s<;>simp[Zh.tk,Zh.got,Zh.fresh,Zh.setB,Zh.setT,upd,hi]
theorem Zwg {m:Nat}{V W:Zh}{c:Nat} (s:StepC m V c W) (hn:¬Claim m V c):W.T=V.T/\((¬Za4 V c/\Za4 W c)∨((Za4 W c↔Za4 V c)/\BeG W c=BeG V c)):=by
 cases s with
 | own0 hF ha=>
  have h1:Za4 V c:=Zid ha
  have h2:Za4 ((V.setB c (V.B c-1)).tk c 1 (V.x c) (V.B c-1) (V.z c)) c:=fun _ _=>by simp[Zh.tk,Zh.setB,upd]
  refine⟨rfl,.inr ⟨⟨fun _=>h1,fun _=>h2⟩,?_⟩⟩
  rw[ZbF (V:=V) (by omega),ZgU (by simpa [Zh.tk,Zh.setB] using hF) (by simp[Zh.tk,Zh.setB,upd]) h2]
  simp[Zh.tk,Zh.setB,upd]
 | take hF ha h=>exact absurd (.inl ⟨hF,ha,h⟩) hn
 | last hF ha h=>
  have e:Za4 (V.tk c 2 (V.T c) (V.y c) (V.z c)) c↔Za4 V c:=by
   unfold Za4
   simp[Zh.tk,upd,hF,ha,h]
  refine⟨rfl,.inr ⟨e,?_⟩⟩
  by_cases h1:Za4 V c
  ·rw[ZgU hF (by omega) h1,ZgU (by simpa [Zh.tk] using hF) (by simp[Zh.tk,upd]) (e.2 h1)]
   rfl
  ·rw[ZbF (fun h=>h1 h.2.2),ZbF (fun h=>h1 (e.1 h.2.2))]
   rfl
 | none1 hF ha h=>
  have e:Za4 (V.tk c 3 (V.T c) (V.y c) (V.z c)) c↔Za4 V c:=by
   unfold Za4
   simp[Zh.tk,upd,hF,ha]
   omega
  refine⟨rfl,.inr ⟨e,?_⟩⟩
  by_cases h1:Za4 V c
  ·rw[ZgU hF (by omega) h1,ZgU (by simpa [Zh.tk] using hF) (by simp[Zh.tk,upd]) (e.2 h1)]
   rfl
  ·rw[ZbF (fun h=>h1 h.2.2),ZbF (fun h=>h1 (e.1 h.2.2))]
   rfl
 | win hF ha h=>exact absurd (.inr (.inl ⟨hF,ha,h⟩)) hn
 | lose hF ha h=>
  refine⟨rfl,?_⟩
  by_cases h1:Za4 V c
  ·right
   obtain⟨q1,q2,_⟩:=h1 hF (by omega)
   obtain⟨q2,q3⟩:=q2 ha
   have h2:Za4 (V.tk c 3 (V.x c) (V.y c) (V.z c)) c:=fun _ _=>by
    simp[Zh.tk,upd]
    omega
   refine⟨⟨fun _=>h1,fun _=>h2⟩,?_⟩
   rw[ZgU hF (by omega) h1,ZgU (by simpa [Zh.tk] using hF) (by simp[Zh.tk,upd]) h2]
   rfl
  ·by_cases h2:Za4 (V.tk c 3 (V.x c) (V.y c) (V.z c)) c
   ·exact .inl ⟨h1,h2⟩
   ·refine .inr ⟨⟨fun h=>absurd h h2,fun h=>absurd h h1⟩,?_⟩
    rw[ZbF (fun h=>h1 h.2.2),ZbF (fun h=>h2 h.2.2)]
    rfl
 | work hF ha=>
  refine⟨rfl,?_⟩
  have h2:Za4 ((V.setB c (V.y c+1)).got c (V.z c)) c:=Zid (by simp[Zh.got,Zh.setB,upd])
  by_cases h1:Za4 V c
  ·refine .inr ⟨⟨fun _=>h1,fun _=>h2⟩,?_⟩
   have q1:=(h1 hF (by omega)).1
   rw[ZgU hF (by omega) h1,ZbF (by simp[Zh.got,Zh.setB,upd])]
   simp[Zh.got,Zh.setB,upd]
   omega
  ·exact .inl ⟨h1,h2⟩
 | back hF ha=>
  refine⟨rfl,?_⟩
  have h2:Za4 ((V.setB c (V.y c+1)).fresh c (1 % m)) c:=Zid (by simp[Zh.fresh,Zh.setB,upd])
  by_cases h1:Za4 V c
  ·refine .inr ⟨⟨fun _=>h1,fun _=>h2⟩,?_⟩
   have q1:=(h1 hF (by omega)).1
   rw[ZgU hF (by omega) h1,ZbF (by simp[Zh.fresh,Zh.setB,upd])]
   simp[Zh.fresh,Zh.setB,upd]
   omega
  ·exact .inl ⟨h1,h2⟩
 | top hF ha=>
  refine⟨rfl,.inr ⟨⟨fun _=>ZdT hF,fun _=>ZdT (by simpa [Zh.tk] using hF)⟩,?_⟩⟩
  rw[ZbF (fun h=>hF h.1),ZbF (by simp[Zh.tk,hF])]
  rfl
 | bottom hF ha h=>
  refine⟨rfl,.inr ⟨⟨fun _=>ZdT hF,fun _=>ZdT (by simpa [Zh.tk] using hF)⟩,?_⟩⟩
  rw[ZbF (fun h=>hF h.1),ZbF (by simp[Zh.tk,hF])]
  rfl
 | none2 hF ha h=>
  refine⟨rfl,.inr ⟨⟨fun _=>ZdT hF,fun _=>Zid (by simp[Zh.fresh,upd])⟩,?_⟩⟩
  rw[ZbF (fun h=>hF h.1),ZbF (by simp[Zh.fresh,upd])]
  rfl
 | read hF ha=>
  refine⟨rfl,.inr ⟨⟨fun _=>ZdT hF,fun _=>ZdT (by simpa [Zh.tk] using hF)⟩,?_⟩⟩
  rw[ZbF (fun h=>hF h.1),ZbF (by simp[Zh.tk,hF])]
  rfl
 | steal hF ha h=>exact absurd (.inr (.inr ⟨hF,ha,h⟩)) hn
 | lost hF ha h=>
  refine⟨rfl,.inr ⟨⟨fun _=>ZdT hF,fun _=>Zid (by simp[Zh.fresh,upd])⟩,?_⟩⟩
  rw[ZbF (fun h=>hF h.1),ZbF (by simp[Zh.fresh,upd])]
  rfl
theorem ZDn {m:Nat}{V W:Zh}{c:Nat} (hc:c<m) (hidle:V.O c = -1) (s:StepC m V c W) (h:Claim m V c) (hw:(V.F c=0/\V.a c=2)∨W.O c ≠ -1):uV m W+1<=uV m V:=by
 unfold uV
 refine ZlI m hc (fun i hi hne=>?_) ?_
 ·obtain⟨h1,h2,h3,_⟩:=Zck s hne
  simp only[h1,h2,h3]
 ·have hnot:¬(V.F c=0/\V.a c=4):=by
   rintro ⟨h1,h2⟩
   rcases h with⟨_,h3,_⟩ | ⟨_,h3,_⟩ | ⟨h3,_⟩<;>omega
  have e1:(if V.O c = -1/\¬(V.F c=0/\V.a c=4) then 1 else 0)=1:=if_pos ⟨hidle,hnot⟩
  rw[e1]
  rcases hw with⟨h1,h2⟩ | h1
  ·have:W.F c=0/\W.a c=4:=by
    cases s<;>simp_all [Zh.tk,Zh.setT,upd,Claim]
   rw[if_neg fun hh=>hh.2 this]
   exact Nat.le_refl _
  ·rw[if_neg fun hh=>h1 hh.1]
   exact Nat.le_refl _
theorem ZDd {m:Nat}{V W:Zh}{c:Nat} (hc:c<m) (hidle:V.O c = -1) (s:StepC m V c W) (hn:¬Claim m V c) (hz:V.F c=0->V.a c=4->W.O c ≠ -1):uV m W=uV m V:=by
 unfold uV
 refine Znj m fun i hi=>?_
 by_cases e:i=c
 ·subst e
  cases s with
  | take hF ha h=>exact absurd (.inl ⟨hF,ha,h⟩) hn
  | win hF ha h=>exact absurd (.inr (.inl ⟨hF,ha,h⟩)) hn
  | steal hF ha h=>exact absurd (.inr (.inr ⟨hF,ha,h⟩)) hn
  | work hF ha=>
   have:=hz hF ha
   simp only[hF,ha,if_neg (fun h:_/\_=>this h.1)]
   simp
  | _=>simp_all [Zh.tk,Zh.got,Zh.fresh,Zh.setB,Zh.setT,upd]
 ·obtain⟨h1,h2,h3,_⟩:=Zck s e
  simp only[h1,h2,h3]
theorem Zyq (m c f j:Nat):vic m c (f % m+j)=vic m c (f+j):=by
 unfold vic
 rw[show c+(f % m+j)=f % m+(c+j) by omega,Nat.mod_add_mod,show f+(c+j)=c+(f+j) by omega]
theorem Zze {m:Nat}{V W:Zh}{i d:Nat} (hT:W.T=V.T) (hbe:∀j,BeG W j=BeG V j) (hF:W.F i=V.F i) (ha:W.a i=V.a i) (hx:W.x i=V.x i) (h:OKD m V i d):OKD m W i d:=by
 unfold OKD ZEg NE Zcc at *
 simp only[hT,hbe,hF,ha,hx]
 exact h
theorem ZDe {m:Nat}{V:Zh}{c d:Nat} (p:Gen m V c) (h:OKD m V c d):1<=d:=by
 have h0:=p.a0
 have h4:=p.a4
 rcases h with⟨_,_,h⟩ | ⟨_,h⟩ | ⟨j,h1,_,h⟩
 ·exact h
 ·unfold Zcc at h;split at h<;>omega
 ·omega
theorem ZpQ {m:Nat}{V W:Zh}{c d:Nat} (hT:W.T=V.T) (hbe:∀j,BeG W j=BeG V j) (hF:W.F c=(V.F c+1) % m) (ha:W.a c=0) (r:1<=Zcc V c) (h:∃j,1<=j/\NE V (vic m c (V.F c+j))/\Zcc V c+4*j<=d):OKD m W c (d-1):=by
 obtain⟨j,h1,h2,h3⟩:=h
 have ne:∀i,NE W i↔NE V i:=fun i=>by unfold NE;rw[hT,hbe]
 have r4:Zcc W c=4:=by unfold Zcc;rw[if_neg (by omega),ha];rfl
 by_cases e:j=1
 ·subst e
  refine .inr (.inl ⟨?_,by omega⟩)
  refine⟨(ne _).2 ?_,.inl ha⟩
  rw[hF]
  have:=Zyq m c (V.F c+1) 0
  rw[add_zero,add_zero] at this
  rw[this]
  exact h2
 ·refine .inr (.inr ⟨j-1,by omega,(ne _).2 ?_,by omega⟩)
  rw[hF,Zyq,show V.F c+1+(j-1)=V.F c+j by omega]
  exact h2
theorem In.step {m:Nat}{V:Zh}{c k:Nat}{last:Int} (G:∀i,i<m->Gen m V i) (hgot:ZFp m V c->(Zat m V c).O c ≠ -1) (hw:ZdA m V c) (hnext:∀p,ZdA m V p->p≠c->dP m (c:Int) p<dP m last p) (h:In m V last k) :
  uV m (Zat m V c)+1<=uV m V∨(uV m (Zat m V c)=uV m V/\wV m (Zat m V c)+1<=wV m V)∨(uV m (Zat m V c)=uV m V/\wV m (Zat m V c)=wV m V/\1<=k/\In m (Zat m V c) (c:Int) (k-1)):=by
 obtain⟨hc,hidle,hwant⟩:=hw
 have p:=G c hc
 have s:=Zw8 p
 generalize hWW:Zat m V c=W at s hgot
 have hm:0<m:=by omega
 have hF':=p.F
 by_cases hcl:Claim m V c
 ·left
  have hO:(V.F c=0/\V.a c=2)∨W.O c ≠ -1:=by
   rcases hcl with⟨h1,h2,h3⟩ | ⟨h1,h2,h3⟩ | ⟨h1,h2,h3⟩
   ·exact .inr (hgot (.inl ⟨h1,h2,h3⟩))
   ·exact .inl ⟨h1,h2⟩
   ·exact .inr (hgot (.inr (.inr ⟨h1,h2,h3⟩)))
  exact ZDn hc hidle s hcl hO
 ·right
  obtain⟨hT,hq⟩:=Zwg s hcl
  have hz:V.F c=0->V.a c=4->W.O c ≠ -1:=fun h1 h2=>hgot (.inr (.inl ⟨h1,h2⟩))
  have hu:=ZDd hc hidle s hcl hz
  have oth:∀i,i≠c->(Za4 W i↔Za4 V i)/\BeG W i=BeG V i:=fun i hi=>by
   obtain⟨_,h2,h3,h4,h5,h6⟩:=Zck s hi
   exact ZyD (by rw[hT]) h6 h2 h3 h4 h5
  rcases hq with⟨q1,q2⟩ | ⟨q1,q2⟩
  ·left
   refine⟨hu,?_⟩
   unfold wV
   refine ZlI m hc (fun i hi hne=>?_) ?_
   ·by_cases h:Za4 V i
    ·rw[if_pos h,if_pos ((oth i hne).1.2 h)]
    ·rw[if_neg h,if_neg (fun h2=>h ((oth i hne).1.1 h2))]
   ·rw[if_pos q2,if_neg q1]
    exact Nat.le_refl _
  right
  have hbe:∀j,BeG W j=BeG V j:=fun j=>by
   by_cases e:j=c
   ·rw[e];exact q2
   ·exact(oth j e).2
  have hwv:wV m W=wV m V:=by
   unfold wV
   refine Znj m fun i hi=>?_
   by_cases e:i=c
   ·subst e
    by_cases h:Za4 V i
    ·rw[if_pos h,if_pos (q1.2 h)]
    ·rw[if_neg h,if_neg (fun h2=>h (q1.1 h2))]
   ·by_cases h:Za4 V i
    ·rw[if_pos h,if_pos ((oth i e).1.2 h)]
    ·rw[if_neg h,if_neg (fun h2=>h ((oth i e).1.1 h2))]
  have ne:∀i,NE W i↔NE V i:=fun i=>by unfold NE;rw[hT,hbe]
  have pend:∀q,q≠c->(Zum m W q↔Zum m V q):=fun q hq=>by
   obtain⟨h1,h2,h3,h4,h5,_⟩:=Zck s hq
   unfold Zum
   rw[h1,h2,h3,h4,h5,hT]
  refine⟨hu,hwv,?_⟩
  have dcc:dP m (c:Int) c=m-1:=by unfold dP;rw[if_neg (by omega)];omega
  rcases h with⟨q,hq,hk⟩ | ⟨np,hne,D,hD,hk⟩ | ⟨np,nn,hk⟩
  ·
   by_cases e:q=c
   ·subst e
    obtain⟨_,_,h1,h2⟩:=hq
    rcases h2 with⟨h2,h3⟩ | ⟨h2,h3⟩
    ·have hTy:V.T q=V.y q:=by
      by_cases hlt:V.T q<V.y q
      ·exact absurd (.inl ⟨h1,h2,hlt⟩) hcl
      ·omega
     have r2:rP V q=2:=by unfold rP;rw[if_pos h2]
     rw[r2] at hk
     have hW:W.O q = -1/\W.F q=0/\W.a q=2/\W.T q=W.x q:=by cases s<;>simp_all [Zh.tk,Zh.got,Zh.fresh,Zh.setB,Zh.setT,upd]<;>omega
     refine⟨by omega,.inl ⟨q,⟨hc,hW.1,hW.2.1,.inr ⟨hW.2.2.1,hW.2.2.2⟩⟩,?_⟩⟩
     have:rP W q=1:=by unfold rP;rw[if_neg (by omega)]
     rw[this,dcc]
     omega
    ·exact absurd (.inr (.inl ⟨h1,h2,h3⟩)) hcl
   ·have hd:=hnext q ⟨hq.1,hq.2.1,.inr (by rcases hq.2.2.2 with h | h<;>omega)⟩ e
    have hr:rP W q=rP V q:=by unfold rP;rw[(Zck s e).2.2.1]
    refine⟨by omega,.inl ⟨q,(pend q e).2 hq,?_⟩⟩
    rw[hr]
    omega
  ·
   by_cases hpc:Zum m W c
   ·refine⟨by omega,.inl ⟨c,hpc,?_⟩⟩
    have:rP W c<=2:=by unfold rP;split<;>omega
    have h2:rP W c*m<=2*m:=Nat.mul_le_mul_right m this
    rw[dcc]
    omega
   ·have okc:=hD c hc hidle
    have d1:=ZDe p okc
    have okW:W.O c = -1->OKD m W c (D c-1):=fun hO=>by
     have v0:V.F c=0->vic m c (V.F c)=c:=fun h=>by rw[h];exact Zvu hc
     cases s with
     | own0 hF ha=>
      have nc:¬NE V c:=fun hh=>hpc ⟨hc,hidle,by simpa [Zh.tk,Zh.setB] using hF,.inl (by
       unfold NE at hh
       rw[ZbF (by omega)] at hh
       simp[Zh.tk,Zh.setB,upd]
       omega)⟩
      rcases okc with⟨_,h4,_⟩ | ⟨⟨hg,_⟩,_⟩ | ⟨j,h1,h2,h3⟩
      ·omega
      ·rw[v0 hF] at hg;exact absurd hg nc
      ·refine .inr (.inr ⟨j,h1,(ne _).2 h2,?_⟩)
       have e1:Zcc V c=4:=by unfold Zcc;rw[if_neg (by omega),ha];rfl
       have e2:Zcc ((V.setB c (V.B c-1)).tk c 1 (V.x c) (V.B c-1) (V.z c)) c=3:=by unfold Zcc;simp[Zh.tk,upd]
       omega
     | take hF ha hlt=>exact absurd (.inl ⟨hF,ha,hlt⟩) hcl
     | last hF ha heq=>
      exact absurd ⟨hc,hidle,hF,.inl ⟨ha,by omega⟩⟩ (np c)
     | none1 hF ha hlt=>
      rcases okc with⟨_,h4,_⟩ | ⟨⟨_,hg⟩,_⟩ | ⟨j,h1,h2,h3⟩
      ·omega
      ·rcases hg with hg | ⟨hg,_⟩
       ·omega
       ·exact absurd hF hg
      ·refine .inr (.inr ⟨j,h1,(ne _).2 h2,?_⟩)
       have e1:Zcc V c=3:=by unfold Zcc;rw[if_neg (by omega),ha];rfl
       have e2:Zcc (V.tk c 3 (V.T c) (V.y c) (V.z c)) c=1:=by unfold Zcc;simp[Zh.tk,upd]
       omega
     | win hF ha heq=>exact absurd (.inr (.inl ⟨hF,ha,heq⟩)) hcl
     | lose hF ha hne2=>
      rcases okc with⟨_,h4,_⟩ | ⟨⟨_,hg⟩,_⟩ | ⟨j,h1,h2,h3⟩
      ·omega
      ·rcases hg with hg | ⟨hg,_⟩
       ·omega
       ·exact absurd hF hg
      ·refine .inr (.inr ⟨j,h1,(ne _).2 h2,?_⟩)
       have e1:Zcc V c=2:=by unfold Zcc;rw[if_neg (by omega),ha];rfl
       have e2:Zcc (V.tk c 3 (V.x c) (V.y c) (V.z c)) c=1:=by unfold Zcc;simp[Zh.tk,upd]
       omega
     | work hF ha=>
      exact absurd hO (hz hF ha)
     | back hF ha=>
      rcases okc with⟨_,h4,_⟩ | ⟨⟨_,hg⟩,_⟩ | hj
      ·omega
      ·rcases hg with hg | ⟨hg,_⟩
       ·omega
       ·exact absurd hF hg
      ·exact ZpQ hT hbe (by simp[Zh.fresh,Zh.setB,upd,hF]) (by simp[Zh.fresh,Zh.setB,upd]) (by unfold Zcc;split<;>omega) hj
     | top hF ha=>
      have e1:Zcc V c=4:=by unfold Zcc;rw[if_neg (by omega),ha];rfl
      have e2:Zcc (V.tk c 1 (V.T (vic m c (V.F c))) (V.y c) (V.z c)) c=3:=by unfold Zcc;simp[Zh.tk,upd]
      rcases okc with⟨h4,_,_⟩ | ⟨⟨hg,_⟩,hr⟩ | ⟨j,h1,h2,h3⟩
      ·exact absurd h4 hF
      ·exact .inr (.inl ⟨⟨(ne _).2 hg,.inr ⟨hF,by simp[Zh.tk,upd]⟩⟩,by omega⟩)
      ·exact .inr (.inr ⟨j,h1,(ne _).2 h2,by omega⟩)
     | bottom hF ha hlt=>
      have e1:Zcc V c=3:=by unfold Zcc;rw[if_neg (by omega),ha];rfl
      have e2:Zcc (V.tk c 2 (V.x c) (V.B (vic m c (V.F c))) (V.z c)) c=2:=by unfold Zcc;simp[Zh.tk,upd]
      rcases okc with⟨h4,_,_⟩ | ⟨⟨hg,hx⟩,hr⟩ | ⟨j,h1,h2,h3⟩
      ·exact absurd h4 hF
      ·refine .inr (.inl ⟨⟨(ne _).2 hg,.inr ⟨hF,?_⟩⟩,by omega⟩)
       rcases hx with hx | ⟨_,hx⟩
       ·omega
       ·simpa [Zh.tk,upd] using hx
      ·exact .inr (.inr ⟨j,h1,(ne _).2 h2,by omega⟩)
     | none2 hF ha hle=>
      rcases okc with⟨h4,_,_⟩ | ⟨⟨hg,hx⟩,hr⟩ | hj
      ·exact absurd h4 hF
      ·exfalso
       rcases hx with hx | ⟨_,hx⟩
       ·omega
       ·have hv:=Zpk hm c (V.F c)
        have pv:=G _ hv
        generalize vic m c (V.F c)=v at *
        unfold NE at hg
        by_cases ho:V.F v=0/\0<V.a v/\Za4 V v
        ·rw[ZgU ho.1 ho.2.1 ho.2.2] at hg
         obtain⟨q1,q2,q3⟩:=ho.2.2 ho.1 ho.2.1
         have hi:V.O v = -1:=Classical.byContradiction fun hi=>by have:=(pv.busy hi).1;omega
         have a4:=pv.a4
         by_cases h1:V.a v=1
         ·exact np v ⟨hv,hi,ho.1,.inl ⟨h1,by omega⟩⟩
         ·by_cases h2:V.a v=2
          ·have:=q2 h2
           exact np v ⟨hv,hi,ho.1,.inr ⟨h2,by omega⟩⟩
          ·have:=q3 (by omega)
           omega
        ·rw[ZbF ho] at hg
         omega
      ·exact ZpQ hT hbe (by simp[Zh.fresh,upd]) (by simp[Zh.fresh,upd]) (by unfold Zcc;split<;>omega) hj
     | read hF ha=>
      have e1:Zcc V c=2:=by unfold Zcc;rw[if_neg (by omega),ha];rfl
      have e2:Zcc (V.tk c 3 (V.x c) (V.y c) (V.R (vic m c (V.F c)) (V.x c))) c=1:=by unfold Zcc;simp[Zh.tk,upd]
      rcases okc with⟨h4,_,_⟩ | ⟨⟨hg,hx⟩,hr⟩ | ⟨j,h1,h2,h3⟩
      ·exact absurd h4 hF
      ·refine .inr (.inl ⟨⟨(ne _).2 hg,.inr ⟨hF,?_⟩⟩,by omega⟩)
       rcases hx with hx | ⟨_,hx⟩
       ·omega
       ·simpa [Zh.tk,upd] using hx
      ·exact .inr (.inr ⟨j,h1,(ne _).2 h2,by omega⟩)
     | steal hF ha heq=>exact absurd (.inr (.inr ⟨hF,ha,heq⟩)) hcl
     | lost hF ha hne2=>
      rcases okc with⟨h4,_,_⟩ | ⟨⟨hg,hx⟩,hr⟩ | hj
      ·exact absurd h4 hF
      ·exfalso
       rcases hx with hx | ⟨_,hx⟩
       ·omega
       ·exact hne2 hx.symm
      ·exact ZpQ hT hbe (by simp[Zh.fresh,upd]) (by simp[Zh.fresh,upd]) (by unfold Zcc;split<;>omega) hj
    have dec:=ZlI (f:=fun i=>if W.O i = -1 then upd D c (D c-1) i else 0) (h:=fun i=>if V.O i = -1 then D i else 0) (c:=c) m hc (fun i hi hne2=>by
     simp only[(Zck s hne2).1,ZuD D _ hne2]) (by
     simp only[Z2]
     rw[if_pos hidle]
     split<;>omega)
    refine⟨by omega,.inr (.inl ⟨fun q hq=>?_,?_,upd D c (D c-1),fun i hi ho=>?_,by omega⟩)⟩
    ·by_cases e:q=c
     ·rw[e] at hq;exact hpc hq
     ·exact np q ((pend q e).1 hq)
    ·obtain⟨j,h1,h2⟩:=hne
     exact⟨j,h1,(ne j).2 h2⟩
    ·by_cases e:i=c
     ·rw[e,Z2]
      rw[e] at ho
      exact okW ho
     ·obtain⟨h1,h2,h3,h4,_⟩:=Zck s e
      rw[ZuD D _ e]
      rw[h1] at ho
      exact Zze hT hbe h2 h3 h4 (hD i hi ho)
  ·
   have ha0:V.a c≠0:=by
    rcases hwant with⟨j,h1,h2⟩ | h
    ·exfalso
     have:=ZJe V j
     exact nn j h1 (by unfold NE;omega)
    ·exact h
   have dec:=ZlI (f:=fun i=>if W.O i = -1 then Zj7 W i else 0) (h:=fun i=>if V.O i = -1 then Zj7 V i else 0) (c:=c) m hc (fun i hi hne2=>by
    obtain⟨h1,h2,h3,_⟩:=Zck s hne2
    simp only[Zj7,Zcc,h1,h3]) (by
    show(if W.O c = -1 then Zj7 W c else 0)+1<=(if V.O c = -1 then Zj7 V c else 0)
    have e1:(if V.O c = -1 then Zj7 V c else 0)=Zj7 V c:=if_pos hidle
    rw[e1]
    cases s with
    | own0 hF ha=>exact absurd ha ha0
    | take hF ha hlt=>exact absurd (.inl ⟨hF,ha,hlt⟩) hcl
    | last hF ha heq=>
     exact absurd ⟨hc,hidle,hF,.inl ⟨ha,by omega⟩⟩ (np c)
    | none1 hF ha hlt=>simp[Zj7,Zcc,Zh.tk,upd,ha,hidle]
    | win hF ha heq=>exact absurd (.inr (.inl ⟨hF,ha,heq⟩)) hcl
    | lose hF ha hne2=>simp[Zj7,Zcc,Zh.tk,upd,ha,hidle]
    | work hF ha=>
     rw[if_neg (hz hF ha)]
     simp[Zj7,Zcc,ha]
    | back hF ha=>simp[Zj7,Zcc,Zh.fresh,Zh.setB,upd,ha,hidle]
    | top hF ha=>exact absurd ha ha0
    | bottom hF ha hlt=>simp[Zj7,Zcc,Zh.tk,upd,ha,hidle]
    | none2 hF ha hle=>simp[Zj7,Zcc,Zh.fresh,upd,ha,hidle]
    | read hF ha=>simp[Zj7,Zcc,Zh.tk,upd,ha,hidle]
    | steal hF ha heq=>exact absurd (.inr (.inr ⟨hF,ha,heq⟩)) hcl
    | lost hF ha hne2=>simp[Zj7,Zcc,Zh.fresh,upd,ha,hidle])
   refine⟨by omega,.inr (.inr ⟨fun q hq=>?_,fun j hj=>by rw[ne];exact nn j hj,by omega⟩)⟩
   by_cases e:q=c
   ·subst e
    obtain⟨_,_,h1,h2⟩:=hq
    cases s with
    | own0 hF ha=>exact ha0 ha
    | take hF ha hlt=>exact hcl (.inl ⟨hF,ha,hlt⟩)
    | last hF ha heq=>exact np q ⟨hc,hidle,hF,.inl ⟨ha,by omega⟩⟩
    | win hF ha heq=>exact hcl (.inr (.inl ⟨hF,ha,heq⟩))
    | steal hF ha heq=>exact hcl (.inr (.inr ⟨hF,ha,heq⟩))
    | _=>simp_all [Zh.tk,Zh.got,Zh.fresh,Zh.setB,Zh.setT,upd]
   ·exact np q ((pend q e).1 hq)
def mi (m u:Nat):Nat:=3*m+u*(4*m+4)+(m-u)
def Gm (m:Nat):Nat->Nat
  | 0=>0
  | u+1=>Gm m u+mi m u+1
theorem ZxG (m:Nat):∀{a b:Nat},a<=b->Gm m a<=Gm m b
  | a, 0, h => by have : a = 0 := by omega
                  subst this;exact Nat.le_refl _
  | a,b+1,h=>by
    by_cases e:a=b+1
    · subst e;exact Nat.le_refl _
    · have:=ZxG m (show a<=b by omega)
      show _<=Gm m b+mi m b+1
      omega
theorem Zt3 {m a b:Nat} (h:a<=b) (hb:b<=m):mi m a<=mi m b:=by
  unfold mi
  obtain⟨d,rfl⟩:∃d,b=a+d:=⟨b-a,by omega⟩
  rw[add_mul]
  have:d<=d*(4*m+4):=Nat.le_mul_of_pos_right d (by omega)
  omega
theorem ZE1 (m:Nat) (V:Zh):uV m V<=m:=(Zot (a:=0) (b:=0) (p:=fun c=>V.O c = -1/\¬(V.F c=0/\V.a c=4)) (fun _=>Classical.propDecidable _) (f:=fun _=>0) (h:=fun c=>if V.O c = -1/\¬(V.F c=0/\V.a c=4) then 1 else 0) m fun i _=>⟨fun h=>⟨Nat.le_refl _,if_pos h⟩,fun h=>⟨Nat.le_refl _,if_neg h⟩⟩).2
theorem Zve (m:Nat) (last:Int) (p:Nat):(last<(p:Int)/\dP m last p=((p:Int)-last-1).toNat)∨((p:Int)<=last/\dP m last p=((p:Int)+m-last-1).toNat):=by
  unfold dP
  by_cases h:last<(p:Int)
  · rw[if_pos h];exact .inl ⟨h,rfl⟩
  · rw[if_neg h];exact .inr ⟨by omega,rfl⟩
theorem ZHj {m:Nat}{last:Int} (hl : -1<=last/\last<m) {p:Nat} (hp:p<m):dP m last p+1<=m:=by
  unfold dP
  split<;>omega
theorem ZDU {m c f j:Nat} (hc:c<m) (hf:f<m) (hj:j<m):∃i,1<=i/\i<=m/\vic m c (f+i)=j:=by
  have h0:(c+f) % m<m:=mod_lt _ (by omega)
  refine⟨if j<=(c+f) % m then j+m-(c+f) % m else j-(c+f) % m,?_,?_,?_⟩
  · split<;>omega
  · split<;>omega
  · unfold vic
    rw[<- Nat.add_assoc,Nat.add_mod]
    split
    · rename_i h
      by_cases e:j=(c+f) % m
      · rw[show j+m-(c+f) % m=m by omega,Nat.mod_self,add_zero,Nat.mod_mod]
        exact e.symm
      · rw[mod_eq_of_lt (show j+m-(c+f) % m<m by omega),show(c+f) % m+(j+m-(c+f) % m)=j+m by omega,Nat.add_mod_right,mod_eq_of_lt hj]
    · rename_i h
      rw[mod_eq_of_lt (show j-(c+f) % m<m by omega),show(c+f) % m+(j-(c+f) % m)=j by omega,mod_eq_of_lt hj]
theorem In.start {m:Nat}{V:Zh}{last:Int} (G:∀i,i<m->Gen m V i) (hl : -1<=last/\last<m):In m V last (mi m (uV m V)):=by
  have hu:=ZE1 m V
  by_cases hp:∃p,Zum m V p
  · obtain⟨p,hp⟩:=hp
    refine .inl ⟨p,hp,?_⟩
    have h1:=ZHj hl hp.1
    have h2:rP V p<=2:=by unfold rP;split<;>omega
    have h3:rP V p*m<=2*m:=Nat.mul_le_mul_right m h2
    unfold mi
    omega
  · have np:∀p,¬Zum m V p:=fun p h=>hp ⟨p,h⟩
    by_cases hn:∃j,j<m/\NE V j
    · obtain⟨j,hj,hne⟩:=hn
      refine .inr (.inl ⟨np,⟨j,hj,hne⟩,fun c=>if V.F c=0/\V.a c=4 then 1 else 4*m+4,fun c hc ho=>?_,?_⟩)
      · have p:=G c hc
        by_cases h4:V.F c=0/\V.a c=4
        · simp only[if_pos h4]
          exact .inl ⟨h4.1,h4.2,Nat.le_refl _⟩
        · simp only[if_neg h4]
          obtain⟨i,h1,h2,h3⟩:=ZDU hc p.F hj
          refine .inr (.inr ⟨i,h1,by rw[h3];exact hne,?_⟩)
          have:Zcc V c<=4:=by
            have:=p.a0
            unfold Zcc
            split<;>omega
          omega
      · have:=(Zot (a:=4*m+4) (b:=1) (p:=fun i=>V.O i = -1/\¬(V.F i=0/\V.a i=4)) (fun _=>Classical.propDecidable _) (f:=fun c=>if V.O c = -1 then (if V.F c=0/\V.a c=4 then 1 else 4*m+4) else 0) (h:=fun c=>if V.O c = -1/\¬(V.F c=0/\V.a c=4) then 1 else 0) m fun i _=>by
          constructor
          · rintro ⟨h1,h2⟩
            simp only[if_pos h1,if_neg h2,h1,h2,not_false_iff,and_self,if_true]
            exact⟨Nat.le_refl _,trivial⟩
          · intro h
            simp only[if_neg h]
            refine⟨?_,trivial⟩
            by_cases h1:V.O i = -1
            · have h2:V.F i=0/\V.a i=4:=Classical.byContradiction fun h2=>h ⟨h1,h2⟩
              simp only[if_pos h1,if_pos h2]
              exact Nat.le_refl _
            · simp only[if_neg h1]
              omega).1
        have this:Zgg (fun c=>if V.O c = -1 then (if V.F c=0/\V.a c=4 then 1 else 4*m+4) else 0) m<=uV m V*(4*m+4)+(m-uV m V)*1:=this
        show 3*m+Zgg (fun c=>if V.O c = -1 then (if V.F c=0/\V.a c=4 then 1 else 4*m+4) else 0) m<=mi m (uV m V)
        unfold mi
        omega
    · refine .inr (.inr ⟨np,fun j hj hne=>hn ⟨j,hj,hne⟩,?_⟩)
      have:=(Zot (a:=4) (b:=1) (p:=fun i=>V.O i = -1/\¬(V.F i=0/\V.a i=4)) (fun _=>Classical.propDecidable _) (f:=fun c=>if V.O c = -1 then Zj7 V c else 0) (h:=fun c=>if V.O c = -1/\¬(V.F c=0/\V.a c=4) then 1 else 0) m fun i hi=>by
        have p:=G i hi
        have h0:=p.a0
        constructor
        · rintro ⟨h1,h2⟩
          simp only[if_pos h1,h1,h2,not_false_iff,and_self,if_true]
          refine⟨?_,trivial⟩
          unfold Zj7 Zcc
          split
          · omega
          · split<;>omega
        · intro h
          simp only[if_neg h]
          refine⟨?_,trivial⟩
          by_cases h1:V.O i = -1
          · have h2:V.F i=0/\V.a i=4:=Classical.byContradiction fun h2=>h ⟨h1,h2⟩
            simp only[if_pos h1]
            unfold Zj7 Zcc
            rw[if_neg (by omega),if_pos h2.2]
            exact Nat.le_refl _
          · simp only[if_neg h1]
            omega).1
      have h4:uV m V*4<=uV m V*(4*m+4):=Nat.mul_le_mul (Nat.le_refl _) (by omega)
      have this:Zgg (fun c=>if V.O c = -1 then Zj7 V c else 0) m<=uV m V*4+(m-uV m V)*1:=this
      unfold mi
      omega
def Next (m:Nat) (V:Zh) (last:Int) (c:Nat):Prop:=ZdA m V c/\((last<(c:Int)/\∀p,ZdA m V p->last<(p:Int)->c<=p)∨((∀p,ZdA m V p->(p:Int)<=last)/\∀p,ZdA m V p->c<=p))
theorem Next.near {m:Nat}{V:Zh}{last:Int}{c:Nat} (h:Next m V last c) (hl : -1<=last/\last<m):∀p,ZdA m V p->p≠c->dP m (c:Int) p<dP m last p:=fun p hp hne=>by
  obtain⟨hw,h⟩:=h
  have hc:=hw.1
  have hpm:=hp.1
  have e1:=Zve m (c:Int) p
  have e2:=Zve m last p
  rcases h with⟨h1,h2⟩ | ⟨h1,h2⟩
  · by_cases h3:last<(p:Int)
    · have:=h2 p hp h3
      rcases e1 with e1 | e1<;>rcases e2 with e2 | e2<;>omega
    · rcases e1 with e1 | e1<;>rcases e2 with e2 | e2<;>omega
  · have:=h1 p hp
    have:=h2 p hp
    rcases e1 with e1 | e1<;>rcases e2 with e2 | e2<;>omega
theorem Inv.gen {m:Nat}{base:Int->Prop}{V:Zh} (I:Inv m base V):∀i,i<m->Gen m V i:=fun i hi=>(I.pos i hi).gen
theorem Ztl:∀{f:Nat->Nat} (n:Nat),(∀i,i<n->f i=0)->Zgg f n=0
  | _,0,_=>rfl
  | f,n+1,h=>by
    unfold Zgg
    rw[Ztl n fun i hi=>h i (by omega),h n (by omega)]
theorem Inv.w {m:Nat}{base:Int->Prop}{V:Zh} (I:Inv m base V):wV m V=0:=by
  unfold wV
  exact Ztl m fun i hi=>if_pos (I.pos i hi).ownOK
theorem Inv.gets {m:Nat}{base:Int->Prop}{V:Zh} (I:Inv m base V) (hb:∀n,base n->n ≠ -1) {c:Nat} (hc:c<m) (hidle:V.O c = -1) (h:ZFp m V c):(Zat m V c).O c ≠ -1:=by
  have p:=I.pos c hc
  have hm:0<m:=by omega
  rcases h with⟨h1,h2,h3⟩ | ⟨h1,h2⟩ | ⟨h1,h2,h3⟩
  · have hy:=p.o1 h1 (by omega)
    have it:Item m V c (V.y c):=⟨hc,by unfold Zh.lo;rw[if_neg (by omega)];omega,by unfold Zh.be;rw[if_pos ⟨h1,by omega⟩];omega⟩
    have:=hb _ (I.items.rdy c _ it).1
    simpa [Zat,h1,h2,h3,Zh.got,upd] using this
  · have hB:=p.o3 h1 (.inr h2)
    have it:Item m V c (V.B c):=⟨hc,by unfold Zh.lo;rw[if_pos ⟨h1,h2⟩];omega,by unfold Zh.be;rw[if_pos ⟨h1,by omega⟩];omega⟩
    have:=hb _ (I.items.rdy c _ it).1
    rw[<- p.o4 h1 h2] at this
    simpa [Zat,h1,h2,Zh.got,Zh.setB,upd] using this
  · have it:Item m V (vic m c (V.F c)) (V.x c):=⟨Zpk hm _ _,by unfold Zh.lo;split<;>omega,by
      have:=p.t2 h1 (by omega) h3.symm
      omega⟩
    have:=hb _ (I.items.rdy _ _ it).1
    rw[<- p.t3 h1 h2] at this
    simpa [Zat,h1,h2,h3,Zh.got,Zh.setT,upd] using this
theorem ZCW {m L:Nat}{base:Int->Prop} (hb:∀n,base n->n ≠ -1) (ch:Zh->Int->Nat->Nat)
    (hch:∀V last s,Inv m base V->(∃c,ZdA m V c)->ZdA m V (ch V last s)/\(L<=s->Next m V last (ch V last s)))
    (Q:Nat->Nat->Zh->Int->Prop) (mono:∀n k s V l,n<=k->Q n s V l->Q k s V l)
    (h0:∀n s V l,Inv m base V->(∀c,¬ZdA m V c)->Q n s V l)
    (h1:∀n s V l,Inv m base V->ZdA m V (ch V l s)->Q n (s+1) (Zat m V (ch V l s)) (ch V l s:Int)->Q (n+1) s V l) :
    ∀s V l,Inv m base V->(-1<=l/\l<(m:Int))->Q ((L-s)+(Gm m m+mi m m)) s V l:=by
  have one:∀{s V l c k},L<=s->Inv m base V->(-1<=l/\l<(m:Int))->ZdA m V c->Next m V l c->In m V l k->uV m (Zat m V c)+1<=uV m V∨(uV m (Zat m V c)=uV m V/\1<=k/\In m (Zat m V c) (c:Int) (k-1)):=fun {s V l c k} hs I hl hw nx hin=>by
    have I':=(I.step hb hw.1 hw.2.1).1
    rcases In.step I.gen (I.gets hb hw.1 hw.2.1) hw (nx.near hl) hin with h | ⟨_,h⟩ | ⟨h,_,h2,h3⟩
    · exact .inl h
    · rw[I.w] at h;omega
    · exact .inr ⟨h,h2,h3⟩
  have late:∀U k s V l,L<=s->Inv m base V->(-1<=l/\l<(m:Int))->uV m V<=U->In m V l k->Q (Gm m U+k) s V l:=by
    intro U
    induction U with
    | zero=>
      intro k
      induction k with
      | zero=>
        intro s V l hs I hl hu hin
        by_cases hw:∃c,ZdA m V c
        · obtain⟨w1,w2⟩:=hch V l s I hw
          rcases one hs I hl w1 (w2 hs) hin with h | ⟨_,h,_⟩<;>omega
        · exact h0 _ s V l I fun c hc=>hw ⟨c,hc⟩
      | succ k ih=>
        intro s V l hs I hl hu hin
        by_cases hw:∃c,ZdA m V c
        · obtain⟨w1,w2⟩:=hch V l s I hw
          rcases one hs I hl w1 (w2 hs) hin with h | ⟨h,_,h2⟩
          · omega
          · have:=w1.1
            exact h1 _ s V l I w1 (ih (s+1) _ _ (by omega) (I.step hb w1.1 w1.2.1).1 (by omega) (by omega) h2)
        · exact h0 _ s V l I fun c hc=>hw ⟨c,hc⟩
    | succ U ihU=>
      intro k
      have down:∀s V l c,L<=s->Inv m base V->ZdA m V c->ch V l s=c->uV m (Zat m V c)<=U->∀k,Q (Gm m (U+1)+k) s V l:=fun s V l c hs I hw hcc hu k=>by
        subst hcc
        have I':=(I.step hb hw.1 hw.2.1).1
        have hc:=hw.1
        have hl' : -1<=((ch V l s:Nat):Int)/\((ch V l s:Nat):Int)<(m:Int):=by omega
        have q:=ihU _ (s+1) _ _ (by omega) I' hl' hu (In.start I'.gen hl')
        refine mono (Gm m U+mi m (uV m (Zat m V (ch V l s)))+1) _ s V l ?_ (h1 _ s V l I hw q)
        have hum:=ZE1 m (Zat m V (ch V l s))
        have e:Gm m (U+1)=Gm m U+mi m U+1:=rfl
        by_cases hU:U<=m
        · have:=Zt3 (m:=m) hu hU
          omega
        · have h5:=Zt3 (m:=m) hum (Nat.le_refl m)
          have h6:mi m m<=mi m U:=by
            unfold mi
            have:m*(4*m+4)<=U*(4*m+4):=Nat.mul_le_mul_right _ (by omega)
            omega
          omega
      induction k with
      | zero=>
        intro s V l hs I hl hu hin
        by_cases hw:∃c,ZdA m V c
        · obtain⟨w1,w2⟩:=hch V l s I hw
          rcases one hs I hl w1 (w2 hs) hin with h | ⟨_,h,_⟩
          · exact down s V l _ hs I w1 rfl (by omega) 0
          · omega
        · exact h0 _ s V l I fun c hc=>hw ⟨c,hc⟩
      | succ k ih=>
        intro s V l hs I hl hu hin
        by_cases hw:∃c,ZdA m V c
        · obtain⟨w1,w2⟩:=hch V l s I hw
          rcases one hs I hl w1 (w2 hs) hin with h | ⟨h,_,h2⟩
          · exact down s V l _ hs I w1 rfl (by omega) (k+1)
          · have:=w1.1
            exact h1 _ s V l I w1 (ih (s+1) _ _ (by omega) (I.step hb w1.1 w1.2.1).1 (by omega) (by omega) h2)
        · exact h0 _ s V l I fun c hc=>hw ⟨c,hc⟩
  intro s
  generalize hd:L-s=d
  induction d generalizing s with
  | zero=>
    intro V l I hl
    rw[zero_add]
    have hu:=ZE1 m V
    refine mono (Gm m (uV m V)+mi m (uV m V)) _ s V l ?_ (late _ _ s V l (by omega) I hl (Nat.le_refl _) (In.start I.gen hl))
    have:=ZxG m hu
    have:=Zt3 (m:=m) hu (Nat.le_refl m)
    omega
  | succ d ih=>
    intro V l I hl
    by_cases hw:∃c,ZdA m V c
    · obtain⟨w1,_⟩:=hch V l s I hw
      have:=w1.1
      have q:=ih (s+1) (by omega) (Zat m V (ch V l s)) _ (I.step hb w1.1 w1.2.1).1 (show -1<=((ch V l s:Nat):Int)/\((ch V l s:Nat):Int)<(m:Int) by omega)
      refine mono (d+(Gm m m+mi m m)+1) _ s V l (by omega) (h1 _ s V l I w1 q)
    · exact h0 _ s V l I fun c hc=>hw ⟨c,hc⟩
theorem ZyO {m:Nat} (h1:1<=m) (h8:m<=8):Gm m m+mi m m<=8*m*m*(m+1):=by
  have:m=1∨m=2∨m=3∨m=4∨m=5∨m=6∨m=7∨m=8:=by omega
  rcases this with rfl | rfl | rfl | rfl | rfl | rfl | rfl | rfl<;>decide
section
theorem ZBq:∃k:Unit,Zh2 64=some (.inr k):=by
 have hk:=Zz1 64
 have:ZBM 64=true:=by
  have:=ZwN 64 (by omega)
  rw[show((64:Nat):Int)=64 from rfl] at this
  rw[this];rfl
 rw[this] at hk
 exact⟨(),hk⟩
structure ZkX (d:Za):Prop where
 len:d.ring.length=64
 t0:0<=d.top
 t1:d.top<=64
 b0:d.top-1<=d.bottom
 b1:d.bottom<=64
theorem ZgB {d:Za} (h:ZkX d):ZaG d=some 0:=by
 obtain⟨k,hk⟩:=ZBq
 have:=h.t0
 have:=h.t1
 have:=h.b0
 have:=h.b1
 unfold ZaG
 rw[h.len,show((64:Nat):Int)=64 from rfl,hk,bS]
 have e:Zjv d.top=0:=by
  unfold Zjv
  rw[dF (by omega),dF (by omega)];rfl
 simp only[cT,Zni,bS,e,ZkD (show -9223372036854775808<=d.top-1 by omega) (by omega),ZkD (show -9223372036854775808<=d.top+64 by omega) (by omega)]
 rw[dF (show ¬(64:Int)<64 by omega),dF (show ¬d.bottom<d.top-1 by omega),dF (show ¬d.top+64<d.bottom by omega)]
 rfl
def gt {α β:Type} (f:α->β) (z:β) (l:List α) (c:Nat):β:=match l[c]? with | some x=>f x | none=>z
theorem ZO {α β:Type}{f:α->β}{z:β}{l:List α}{c:Nat}{x:α} (h:l[c]? = some x):gt f z l c=f x:=by unfold gt;rw[h]
theorem ZbJ {α β:Type}{f:α->β}{z:β}{l:List α}{c:Nat}{v:α} (h:c<l.length):gt f z (l.set c v)=upd (gt f z l) c (f v):=by
 funext k
 unfold gt upd
 rw[List.getElem?_set]
 by_cases e:c=k
 ·subst e;rw[if_pos rfl,if_pos h,if_pos rfl]
 ·rw[if_neg e,if_neg (fun h=>e h.symm)]
theorem ZbZ {α:Type} (f:Nat->α) (c:Nat) {v:α} (h:v=f c):upd f c v=f:=by
 funext k
 unfold upd
 split
 ·rename_i e;rw[h,e]
 ·rfl
def plc (k:Int):Nat:=(Int.tmod (bif decide (k<0) then 0 else k) 64).toNat
theorem ZrF (k:Int):Int.tmod (bif decide (k<0) then 0 else k) 64=(plc k:Int)/\plc k<64:=by
 have h0:(0:Int)<=(bif decide (k<0) then 0 else k):=by
  by_cases h:k<0
  ·rw[dT h];exact le_refl _
  ·rw[dF h];show 0<=k;omega
 unfold plc
 have h1:=Int.tmod_nonneg 64 h0
 have h2:=Int.tmod_lt_of_pos (bif decide (k<0) then 0 else k) (show(0:Int)<64 by omega)
 omega
theorem ZzH {k:Int} (h0:0<=k) (h:k<64):plc k=k.toNat:=by
 unfold plc
 rw[dF (by omega),cF,Int.tmod_eq_emod_of_nonneg h0,Int.emod_eq_of_lt h0 h]
def Zfv (r:List Int) (k:Int):Int:=gt id 0 r (plc k)
theorem Zh0 {d:Za} (h:d.ring.length=64) (k:Int):Zc3 d k=some (plc k:Int):=by
 unfold Zc3
 rw[h,show((64:Nat):Int)=64 from rfl,(ZrF k).1]
 rfl
theorem ZiD {r:List Int} (h:r.length=64) (k:Int):Zt r (plc k:Int)=some (Zfv r k):=by
 have hl:plc k<r.length:=by rw[h];exact(ZrF k).2
 have:=gE hl
 rw[Zn this]
 unfold Zfv
 rw[ZO this]
 rfl
theorem Zdf {l:List Int} (h:l.length<=1073741824):Zo l=some ():=by
 unfold Zo
 rw[Zar h];rfl
theorem Zmm {d:Za} (h:d.ring.length=64):Zg7 d=some ():=by
 unfold Zg7
 rw[Zdf (by omega)];rfl
structure Zw3 (t:Zb):Prop where
 en:t.end_=0
 a0:0<=t.at_
 a4:t.at_<=4
 a3:t.steal=true->t.at_<=3
 rx : -1<=t.top/\t.top<=64
 ry : -1<=t.bottom/\t.bottom<=64
theorem Zxq {n:Int} (h : -1<=n/\n<=64):ZcA n=some false:=by
 unfold ZcA
 rw[dF (by omega),dF (by omega)];rfl
theorem Zws {t:Zb} (h:Zw3 t):ZhE t=some true:=by
 have:=h.a0
 have:=h.a4
 unfold ZhE
 rw[Zxq h.rx,Zxq h.ry,h.en,dT (show 0<=t.at_ by omega),dT (show t.at_<=4 by omega)]
 cases hs:t.steal with
 | true=>
  have:=h.a3 hs
  rw[dT (show t.at_<=3 by omega)]
  cases t.at_==0<;>rfl
 | false=>cases t.at_==0<;>rfl
theorem ZfC {d:Za}{t:Zb}{x:Int×Int×Int×Int×Int×Int×Int} (hd:ZkX d) (ht:Zw3 t) (hs:t.steal=false) (hx:Za5 d.top d.bottom t.at_ t.top t.bottom t.got t.end_ d.ring=some x) (hd':ZkX ⟨d.ring,x.1,x.2.1⟩) :
  Zag d t=some (⟨d.ring,x.1,x.2.1⟩,⟨false,x.2.2.1,x.2.2.2.1,x.2.2.2.2.1,x.2.2.2.2.2.1,x.2.2.2.2.2.2⟩,0):=by
 unfold Zag
 rw[ZgB hd,bS,show((0:Int) != 0)=false from rfl,cF,Zws ht,bS,cT,Zmm hd.len,bS,hs,cF,hx,bS,ZgB hd',bS]
 rfl
theorem ZfL {d:Za}{t:Zb}{x:Int×Int×Int×Int×Int×Int} (hd:ZkX d) (ht:Zw3 t) (hs:t.steal=true) (hx:ZaV d.top d.bottom t.at_ t.top t.bottom t.got t.end_ d.ring=some x) (hd':ZkX ⟨d.ring,x.1,d.bottom⟩) :
  Zag d t=some (⟨d.ring,x.1,d.bottom⟩,⟨true,x.2.1,x.2.2.1,x.2.2.2.1,x.2.2.2.2.1,x.2.2.2.2.2⟩,0):=by
 unfold Zag
 rw[ZgB hd,bS,show((0:Int) != 0)=false from rfl,cF,Zws ht,bS,cT,Zmm hd.len,bS,hs,cT,hx,bS,ZgB hd',bS]
 rfl
theorem ZxH {m c:Nat}{f:Int} (hm:0<m) (h8:m<=8) (hc:c<m) (h0:0<=f) (hf:f<(m:Int)):Int.tmod (w64 ((c:Int)+f)) (m:Int)=((vic m c f.toNat:Nat):Int):=by
 rw[Zcm (by omega),show(c:Int)+f=((c+f.toNat:Nat):Int) by omega,Int.tmod_eq_emod_of_nonneg (by omega)]
 rfl
theorem ZEe {m:Nat}{f:Int} (hm:0<m) (h8:m<=8) (h0:0<=f) (hf:f<(m:Int)):Int.tmod (w64 (f+1)) (m:Int)=(((f.toNat+1) % m:Nat):Int):=by
 rw[Zcm (by omega),show f+1=((f.toNat+1:Nat):Int) by omega,Int.tmod_eq_emod_of_nonneg (by omega)]
 rfl
section
variable {m c:Nat} {work:List Int} {E:List Zv} {on left fs:List Int} {ds:List Za} {ts:List Zb} {f:Int} {d d':Za} {t t':Zb}
theorem Zyt {c:Nat}{x:Int}{ts:List Zb}{fs:List Int} (ht:c<ts.length) (hf:c<fs.length):ZbB (c:Int) x ts fs=some (ts.set c ⟨x != 0,0,0,0,0,0⟩):=by
 unfold ZbB
 rw[Zn (gE hf),bS,Zn (gE ht)]
 cases x != 0<;>rfl
theorem Ztv (hm:0<m) (h8:m<=8) (hc:c<m) (ho:on.length=m) (h0:0<=f) (hf:f<(m:Int)) (hfs:fs[c]? = some f) (hds:ds[vic m c f.toNat]? = some d) (hts:ts[c]? = some t) (hd:Zag d t=some (d',t',0)) (he:t'.end_=0) :
  Z9 (c:Int) work E on left ds ts fs=some (0,on,ds.set (vic m c f.toNat) d',ts.set c t',fs):=by
 unfold Z9
 rw[Zn hfs,bS,ho,show((m:Int)==0)=false from beq_eq_false_iff_ne.2 (by omega),cF,ZxH hm h8 hc h0 hf,Zn hds,bS,Zn hts,bS,hd,bS]
 simp only[he,show((0:Int) != 0)=false from rfl,show((0:Int)==1)=false from rfl,show((0:Int)==2)=false from rfl,show((0:Int)==3)=false from rfl,cF,toNat_natCast]
theorem Ztg {R:List Int} (hm:0<m) (h8:m<=8) (hc:c<m) (ho:on.length=m) (hl:ts.length=m) (hlf:fs.length=m) (h0:0<=f) (hf:f<(m:Int)) (hfs:fs[c]? = some f) (hds:ds[vic m c f.toNat]? = some d) (hts:ts[c]? = some t) (hd:Zag d t=some (d',t',0)) (he:t'.end_=1)
  (hR:Zc1 ⟨work,E⟩ ⟨on,left⟩=some R) (hRl:R.length<9223372036854775808) (hg:t'.got∈R) :
  Z9 (c:Int) work E on left ds ts fs=some (0,on.set c t'.got,ds.set (vic m c f.toNat) d',ts.set c ⟨false,0,0,0,0,0⟩,fs.set c 0):=by
 unfold Z9
 rw[Zn hfs,bS,ho,show((m:Int)==0)=false from beq_eq_false_iff_ne.2 (by omega),cF,ZxH hm h8 hc h0 hf,Zn hds,bS,Zn hts,bS,hd,bS]
 simp only[he,show((0:Int) != 0)=false from rfl,show((1:Int)==1)=true from rfl,cF,cT,hR,bS,Zhd R _ hRl,ZhQ,dT hg,Zn (gE (show c<on.length by omega)),toNat_natCast]
 rw[show(0:Int)=(0:Int) from rfl,Zyt (by rw[length_set];omega) (by omega),bS,set_set]
 rfl
theorem Zq3 (hm:0<m) (h8:m<=8) (hc:c<m) (ho:on.length=m) (hl:ts.length=m) (hlf:fs.length=m) (h0:0<=f) (hf:f<(m:Int)) (hfs:fs[c]? = some f) (hds:ds[vic m c f.toNat]? = some d) (hts:ts[c]? = some t) (hd:Zag d t=some (d',t',0)) (he:t'.end_=2∨t'.end_=3) :
  Z9 (c:Int) work E on left ds ts fs=some (0,on,ds.set (vic m c f.toNat) d',ts.set c ⟨(((f.toNat+1) % m:Nat):Int) != 0,0,0,0,0,0⟩,fs.set c (((f.toNat+1) % m:Nat):Int)):=by
 unfold Z9
 rw[Zn hfs,bS,ho,show((m:Int)==0)=false from beq_eq_false_iff_ne.2 (by omega),cF,ZxH hm h8 hc h0 hf,Zn hds,bS,Zn hts,bS,hd,bS]
 have hfr:=Zyt (c:=c) (x:=(((f.toNat+1) % m:Nat):Int)) (ts:=ts.set c t') (fs:=fs) (by rw[length_set];omega) (by omega)
 rcases he with he | he
 ·simp only[he,show((0:Int) != 0)=false from rfl,show((2:Int)==1)=false from rfl,show((2:Int)==2)=true from rfl,cF,cT,ZEe hm h8 h0 hf,hfr,bS,toNat_natCast,set_set]
 ·simp only[he,show((0:Int) != 0)=false from rfl,show((3:Int)==1)=false from rfl,show((3:Int)==2)=false from rfl,show((3:Int)==3)=true from rfl,cF,cT,ZEe hm h8 h0 hf,hfr,bS,toNat_natCast,set_set]
end
def vw (on:List Int) (ds:List Za) (ts:List Zb) (fs:List Int):Zh:=
 ⟨gt (·.top) 0 ds,gt (·.bottom) 0 ds,gt (fun d=>Zfv d.ring) (fun _=>0) ds,gt id 0 on,gt (·.at_) 0 ts,gt (·.top) 0 ts,gt (·.bottom) 0 ts,gt (·.got) 0 ts,gt Int.toNat 0 fs⟩
def base (E:List Zv) (left:List Int) (n:Int):Prop:=isN left n/\0<lf left n/\ZlB E left n
theorem ZkB {E:List Zv}{left:List Int}:∀n,base E left n->n ≠ -1:=fun n h=>by have:=h.1.1;omega
structure GangIn (g:Zj) (m:Nat) (left on:List Int) (ds:List Za) (ts:List Zb) (fs:List Int):Prop where
 crew:ZaB g left on
 ol:on.length=m
 dl:ds.length=m
 tl:ts.length=m
 fl:fs.length=m
 ring:∀d∈ds,d.ring.length=64
 en:∀t∈ts,t.end_=0
 f0:∀f∈fs,0<=f
 st:∀(c:Nat) t f,ts[c]? = some t->fs[c]? = some f->t.steal=(f != 0)
 bz:∀(c:Nat) n t,on[c]? = some n->n ≠ -1->ts[c]? = some t->t=⟨false,0,0,0,0,0⟩
 inv:Inv m (base g.edges left) (vw on ds ts fs)
end
section
theorem Zh.eq_of {V W:Zh} (hT:V.T=W.T) (hB:V.B=W.B) (hR:V.R=W.R) (hO:V.O=W.O) (ha:V.a=W.a) (hx:V.x=W.x) (hy:V.y=W.y) (hz:V.z=W.z) (hF:V.F=W.F):V=W:=by
 cases V;cases W;cases hT;cases hB;cases hR;cases hO;cases ha;cases hx;cases hy;cases hz;cases hF;rfl
theorem ZbX {α:Type}{l:List α}{i:Nat}{v x:α} (h:x∈l.set i v):x∈l∨x=v:=by
 obtain⟨j,hj⟩:=List.getElem?_of_mem h
 rw[List.getElem?_set] at hj
 split at hj
 ·split at hj
  ·exact .inr (Option.some.inj hj).symm
  ·cases hj
 ·exact .inl (mG hj)
def ZoB (g:Zj) (m:Nat) (left on:List Int) (ds:List Za) (ts:List Zb) (fs:List Int) (c:Nat):Prop:=
 ∃on' ds' ts' fs',Z9 (c:Int) g.work g.edges on left ds ts fs=some (0,on',ds',ts',fs')/\GangIn g m left on' ds' ts' fs'/\vw on' ds' ts' fs'=Zat m (vw on ds ts fs) c
theorem Zns (on:List Int) (ds:List Za) (ts:List Zb) (fs:List Int) {i:Nat}{n:Int} (h:on[i]? = some n):(vw on ds ts fs).O i=n:=ZO h
theorem Zx3 {on:List Int}{ds:List Za}{ts:List Zb}{fs:List Int}{i:Nat}{n:Int} (hi:(vw on ds ts fs).O i = -1) (h:on[i]? = some n):n = -1:=by
 rw[Zns on ds ts fs h] at hi
 exact hi
section
variable {g:Zj} {m c v:Nat} {on left fs:List Int} {ds:List Za} {ts:List Zb} {f:Int} {d d':Za} {t t':Zb}
theorem Zrq (hv:v<ds.length) (hd:ds[v]? = some d) (hr:d'.ring=d.ring):gt (fun d:Za=>Zfv d.ring) (fun _=>0) (ds.set v d')=gt (fun d:Za=>Zfv d.ring) (fun _=>0) ds:=by
 rw[ZbJ hv]
 exact ZbZ _ _ (by rw[ZO hd,hr])
theorem Zg9 (h:ZM g=0) (G:GangIn g m left on ds ts fs) (hm:0<m) (h8:m<=8) (hc:c<m) (hidle:(vw on ds ts fs).O c = -1) (hf:f<(m:Int)) (hfs:fs[c]? = some f) (hv:v=vic m c f.toNat) (hvm:v<m) (hds:ds[v]? = some d) (hts:ts[c]? = some t)
  (hd:Zag d t=some (d',t',0)) (he:t'.end_=0) (hr:d'.ring=d.ring) (hs:t'.steal=t.steal)
  (hW:Zat m (vw on ds ts fs) c=⟨upd (vw on ds ts fs).T v d'.top,upd (vw on ds ts fs).B v d'.bottom,(vw on ds ts fs).R,(vw on ds ts fs).O,upd (vw on ds ts fs).a c t'.at_,upd (vw on ds ts fs).x c t'.top,upd (vw on ds ts fs).y c t'.bottom,upd (vw on ds ts fs).z c t'.got,(vw on ds ts fs).F⟩):ZoB g m left on ds ts fs c:=by
 have h0:=G.f0 f (mG hfs)
 have hvd:v<ds.length:=by rw[G.dl];exact hvm
 have hct:c<ts.length:=by rw[G.tl];exact hc
 have hV:vw on (ds.set v d') (ts.set c t') fs=Zat m (vw on ds ts fs) c:=by
  rw[hW]
  refine Zh.eq_of ?_ ?_ ?_ rfl ?_ ?_ ?_ ?_ rfl
  ·exact ZbJ hvd
  ·exact ZbJ hvd
  ·exact Zrq hvd hds hr
  ·exact ZbJ hct
  ·exact ZbJ hct
  ·exact ZbJ hct
  ·exact ZbJ hct
 refine⟨on,ds.set v d',ts.set c t',fs,?_,⟨G.crew,G.ol,by rw[length_set];exact G.dl,by rw[length_set];exact G.tl,G.fl,fun x hx=>?_,fun x hx=>?_,G.f0,fun i ti fi hti hfi=>?_,fun i n ti hi hn hti=>?_,?_⟩,hV⟩
 ·subst hv;exact Ztv hm h8 hc G.ol h0 hf hfs hds hts hd he
 ·rcases ZbX hx with hx | hx
  ·exact G.ring x hx
  ·rw[hx,hr];exact G.ring d (mG hds)
 ·rcases ZbX hx with hx | hx
  ·exact G.en x hx
  ·rw[hx];exact he
 ·rw[List.getElem?_set] at hti
  split at hti
  ·rename_i e
   subst e
   cases hti
   rw[hs]
   rw[hfs] at hfi
   cases hfi
   exact G.st c t f hts hfs
  ·exact G.st i ti fi hti hfi
 ·rw[List.getElem?_set] at hti
  split at hti
  ·rename_i e
   subst e
   exact absurd (Zx3 hidle hi) hn
  ·exact G.bz i n ti hi hn hti
 ·rw[hV]
  exact(G.inv.step ZkB hc hidle).1
theorem ZpF (h:ZM g=0) (G:GangIn g m left on ds ts fs) (hm:0<m) (h8:m<=8) (hc:c<m) (hidle:(vw on ds ts fs).O c = -1) (hf:f<(m:Int)) (hfs:fs[c]? = some f) (hv:v=vic m c f.toNat) (hvm:v<m) (hds:ds[v]? = some d) (hts:ts[c]? = some t)
  (hd:Zag d t=some (d',t',0)) (he:t'.end_=2∨t'.end_=3) (hr:d'.ring=d.ring)
  (hW:Zat m (vw on ds ts fs) c=⟨upd (vw on ds ts fs).T v d'.top,upd (vw on ds ts fs).B v d'.bottom,(vw on ds ts fs).R,(vw on ds ts fs).O,upd (vw on ds ts fs).a c 0,upd (vw on ds ts fs).x c 0,upd (vw on ds ts fs).y c 0,upd (vw on ds ts fs).z c 0,upd (vw on ds ts fs).F c ((f.toNat+1) % m)⟩):ZoB g m left on ds ts fs c:=by
 have h0:=G.f0 f (mG hfs)
 have hvd:v<ds.length:=by rw[G.dl];exact hvm
 have hct:c<ts.length:=by rw[G.tl];exact hc
 have hcf:c<fs.length:=by rw[G.fl];exact hc
 have hV:vw on (ds.set v d') (ts.set c ⟨(((f.toNat+1) % m:Nat):Int) != 0,0,0,0,0,0⟩) (fs.set c (((f.toNat+1) % m:Nat):Int))=Zat m (vw on ds ts fs) c:=by
  rw[hW]
  refine Zh.eq_of ?_ ?_ ?_ rfl ?_ ?_ ?_ ?_ ?_
  ·exact ZbJ hvd
  ·exact ZbJ hvd
  ·exact Zrq hvd hds hr
  ·exact ZbJ hct
  ·exact ZbJ hct
  ·exact ZbJ hct
  ·exact ZbJ hct
  ·exact ZbJ hcf
 refine⟨on,_,_,_,?_,⟨G.crew,G.ol,by rw[length_set];exact G.dl,by rw[length_set];exact G.tl,by rw[length_set];exact G.fl,fun x hx=>?_,fun x hx=>?_,fun x hx=>?_,fun i ti fi hti hfi=>?_,fun i n ti hi hn hti=>?_,?_⟩,hV⟩
 ·subst hv;exact Zq3 hm h8 hc G.ol G.tl G.fl h0 hf hfs hds hts hd he
 ·rcases ZbX hx with hx | hx
  ·exact G.ring x hx
  ·rw[hx,hr];exact G.ring d (mG hds)
 ·rcases ZbX hx with hx | hx
  ·exact G.en x hx
  ·rw[hx]
 ·rcases ZbX hx with hx | hx
  ·exact G.f0 x hx
  ·rw[hx];omega
 ·rw[List.getElem?_set] at hti hfi
  split at hti
  ·rename_i e
   subst e
   rw[if_pos rfl,if_pos hcf] at hfi
   cases hti;cases hfi;rfl
  ·rename_i e
   rw[if_neg e] at hfi
   exact G.st i ti fi hti hfi
 ·rw[List.getElem?_set] at hti
  split at hti
  ·rename_i e
   subst e
   exact absurd (Zx3 hidle hi) hn
  ·exact G.bz i n ti hi hn hti
 ·rw[hV]
  exact(G.inv.step ZkB hc hidle).1
theorem ZrU (h:ZM g=0) (G:GangIn g m left on ds ts fs) (hm:0<m) (h8:m<=8) (hc:c<m) (hidle:(vw on ds ts fs).O c = -1) (hf:f<(m:Int)) (hfs:fs[c]? = some f) (hv:v=vic m c f.toNat) (hvm:v<m) (hds:ds[v]? = some d) (hts:ts[c]? = some t)
  (hd:Zag d t=some (d',t',0)) (he:t'.end_=1) (hr:d'.ring=d.ring)
  (hget:ZFp m (vw on ds ts fs) c)
  (hW:Zat m (vw on ds ts fs) c=⟨upd (vw on ds ts fs).T v d'.top,upd (vw on ds ts fs).B v d'.bottom,(vw on ds ts fs).R,upd (vw on ds ts fs).O c t'.got,upd (vw on ds ts fs).a c 0,upd (vw on ds ts fs).x c 0,upd (vw on ds ts fs).y c 0,upd (vw on ds ts fs).z c 0,upd (vw on ds ts fs).F c 0⟩):ZoB g m left on ds ts fs c:=by
 have h0:=G.f0 f (mG hfs)
 have hvd:v<ds.length:=by rw[G.dl];exact hvm
 have hct:c<ts.length:=by rw[G.tl];exact hc
 have hcf:c<fs.length:=by rw[G.fl];exact hc
 have hco:c<on.length:=by rw[G.ol];exact hc
 obtain⟨hG,hA⟩:=ZT h
 have rng:∀x∈left,0<=x:=fun x hx=>(G.crew.ok.rng x hx).1
 have hO:(Zat m (vw on ds ts fs) c).O c=t'.got:=by rw[hW];exact Z2 _ _ _
 have hne:=G.inv.gets ZkB hc hidle hget
 have htk:=(G.inv.step ZkB hc hidle).2.1
 have hrdy:base g.edges left t'.got/\∀i,i<m->(vw on ds ts fs).O i≠t'.got:=by
  rcases htk with h1 | ⟨h1,h2,_⟩
  ·rw[h1 c] at hne;exact absurd hidle hne
  ·rw[hO] at h1 h2;exact⟨h1,h2⟩
 have hnot:t'.got∉on:=fun hm'=>by
  obtain⟨i,hi⟩:=List.getElem?_of_mem hm'
  have hil:=(gQ hi).1
  exact hrdy.2 i (by rw[<- G.ol];exact hil) (Zns on ds ts fs hi)
 have hR:t'.got∈ZX g.edges left on:=(ZkH rng).2 ⟨hrdy.1.1,hrdy.1.2.1,hnot,hrdy.1.2.2⟩
 have hRl:(ZX g.edges left on).length<9223372036854775808:=by
  have:(ZX g.edges left on).length<=left.length:=by
   unfold ZX
   rw[length_map]
   exact le_trans (List.length_filter_le _ _) (by rw[List.length_range];exact Nat.le_refl _)
  have:=G.crew.ll
  have:=hG.wl
  omega
 have hV:vw (on.set c t'.got) (ds.set v d') (ts.set c ⟨false,0,0,0,0,0⟩) (fs.set c 0)=Zat m (vw on ds ts fs) c:=by
  rw[hW]
  refine Zh.eq_of ?_ ?_ ?_ ?_ ?_ ?_ ?_ ?_ ?_
  ·exact ZbJ hvd
  ·exact ZbJ hvd
  ·exact Zrq hvd hds hr
  ·exact ZbJ hco
  ·exact ZbJ hct
  ·exact ZbJ hct
  ·exact ZbJ hct
  ·exact ZbJ hct
  ·exact ZbJ hcf
 have crew':ZaB g left (on.set c t'.got):=by
  refine⟨G.crew.ll,by rw[length_set];exact G.crew.o1,by rw[length_set];exact G.crew.o8,G.crew.ok.rng,fun n hn=>?_,fun i j n hi hj hnn=>?_,G.crew.ok.over⟩
  ·rcases ZbX hn with hn | hn
   ·exact G.crew.ok.run n hn
   ·rw[hn];exact .inr ⟨hrdy.1.1,hrdy.1.2.1,hrdy.1.2.2⟩
  ·rw[List.getElem?_set] at hi hj
   by_cases e1:c=i
   ·by_cases e2:c=j
    ·omega
    ·rw[if_pos e1,if_pos hco] at hi
     rw[if_neg e2] at hj
     cases hi
     exact absurd (mG hj) hnot
   ·by_cases e2:c=j
    ·rw[if_neg e1] at hi
     rw[if_pos e2,if_pos hco] at hj
     cases hj
     exact absurd (mG hi) hnot
    ·rw[if_neg e1] at hi
     rw[if_neg e2] at hj
     exact G.crew.ok.one i j n hi hj hnn
 refine⟨_,_,_,_,?_,⟨crew',by rw[length_set];exact G.ol,by rw[length_set];exact G.dl,by rw[length_set];exact G.tl,by rw[length_set];exact G.fl,fun x hx=>?_,fun x hx=>?_,fun x hx=>?_,fun i ti fi hti hfi=>?_,fun i n ti hi hn hti=>?_,?_⟩,hV⟩
 ·subst hv;exact Ztg hm h8 hc G.ol G.tl G.fl h0 hf hfs hds hts hd he (Zkx h G.crew) hRl hR
 ·rcases ZbX hx with hx | hx
  ·exact G.ring x hx
  ·rw[hx,hr];exact G.ring d (mG hds)
 ·rcases ZbX hx with hx | hx
  ·exact G.en x hx
  ·rw[hx]
 ·rcases ZbX hx with hx | hx
  ·exact G.f0 x hx
  ·rw[hx];exact le_refl _
 ·rw[List.getElem?_set] at hti hfi
  split at hti
  ·rename_i e
   subst e
   rw[if_pos rfl,if_pos hcf] at hfi
   cases hti;cases hfi;rfl
  ·rename_i e
   rw[if_neg e] at hfi
   exact G.st i ti fi hti hfi
 ·rw[List.getElem?_set] at hti hi
  split at hti
  ·rename_i e
   subst e
   cases hti;rfl
  ·rename_i e
   rw[if_neg e] at hi
   exact G.bz i n ti hi hn hti
 ·rw[hV]
  exact(G.inv.step ZkB hc hidle).1
theorem ZCK (h:ZM g=0) (G:GangIn g m left on ds ts fs) (hc:c<m) (hidle:(vw on ds ts fs).O c = -1):ZoB g m left on ds ts fs c:=by
 have hm:0<m:=by omega
 have h8:m<=8:=by rw[<- G.ol];exact G.crew.o8
 have p:=G.inv.pos c hc
 have hcf:c<fs.length:=by rw[G.fl];exact hc
 have hct:c<ts.length:=by rw[G.tl];exact hc
 obtain⟨f,hfs⟩:∃f,fs[c]? = some f:=⟨_,gE hcf⟩
 obtain⟨t,hts⟩:∃t,ts[c]? = some t:=⟨_,gE hct⟩
 have qF:(vw on ds ts fs).F c=f.toNat:=ZO hfs
 have qa:(vw on ds ts fs).a c=t.at_:=ZO hts
 have qx:(vw on ds ts fs).x c=t.top:=ZO hts
 have qy:(vw on ds ts fs).y c=t.bottom:=ZO hts
 have qz:(vw on ds ts fs).z c=t.got:=ZO hts
 have h0:=G.f0 f (mG hfs)
 have hst:=G.st c t f hts hfs
 have pF:=p.F
 rw[qF] at pF
 have hf:f<(m:Int):=by omega
 have hvm:=Zpk hm c f.toNat
 have hvd:vic m c f.toNat<ds.length:=by rw[G.dl];exact hvm
 obtain⟨d,hds⟩:∃d,ds[vic m c f.toNat]? = some d:=⟨_,gE hvd⟩
 have pv:=G.inv.pos _ hvm
 have qT:(vw on ds ts fs).T (vic m c f.toNat)=d.top:=ZO hds
 have qB:(vw on ds ts fs).B (vic m c f.toNat)=d.bottom:=ZO hds
 have qR:(vw on ds ts fs).R (vic m c f.toNat)=Zfv d.ring:=ZO hds
 have hring:=G.ring d (mG hds)
 have hbe:(vw on ds ts fs).be (vic m c f.toNat)=d.bottom∨(vw on ds ts fs).be (vic m c f.toNat)=d.bottom+1:=by
  unfold Zh.be
  split
  ·right;rw[qB]
  ·left;rw[qB]
 have vT0:=pv.T0
 have vTB:=pv.TB
 have vB64:=pv.B64
 rw[qT] at vT0 vTB
 have hd:ZkX d:=⟨hring,vT0,by omega,by rcases hbe with e | e<;>omega,by rcases hbe with e | e<;>omega⟩
 have pa0:=p.a0
 have pa4:=p.a4
 have pa3:=p.a3
 have prx:=p.rx
 have pry:=p.ry
 have po1:=p.o1
 have po2:=p.o2
 have po3:=p.o3
 have pt1:=p.t1
 have pt2:=p.t2
 have pt3:=p.t3
 have po4:=p.o4
 rw[qa] at pa0 pa4 po1 po2 po3 po4 pt1 pt2 pt3 pa3
 rw[qF] at pa3 po1 po2 po3 po4 pt1 pt2 pt3
 rw[qx] at prx po2 pt1 pt2 pt3
 rw[qy] at pry po1 po2
 have ht:Zw3 t:=⟨G.en t (mG hts),pa0,pa4,fun hs=>pa3 (by
  rw[hst] at hs
  have:f≠0:=by simpa using hs
  omega),prx,pry⟩
 have hen:=ht.en
 by_cases hF:f.toNat=0
 ·
  have hv:vic m c f.toNat=c:=by rw[hF];exact Zvu hc
  rw[hv] at hds qT qB qR hbe vTB vB64 hvm
  have hs:t.steal=false:=by rw[hst];simp;omega
  have hVF:(vw on ds ts fs).F c=0:=by rw[qF,hF]
  by_cases a0:t.at_=0
  ·have hbc:(vw on ds ts fs).be c=d.bottom:=by
    unfold Zh.be
    rw[if_neg (by rw[qa];omega),qB]
   refine Zg9 h G hm h8 hc hidle hf hfs hv.symm hc hds hts (ZfC hd ht hs (x:=(d.top,d.bottom-1,1,t.top,d.bottom-1,t.got,t.end_)) ?_ ⟨hring,hd.t0,hd.t1,?_,?_⟩) hen rfl hs.symm ?_
   ·unfold Za5
    rw[a0,ZkD (by have:=hd.t0;have:=hd.b0;omega) (by have:=hd.b1;omega)]
    rfl
   ·show d.top-1<=d.bottom-1;omega
   ·show d.bottom-1<=64;omega
   ·unfold Zat
    rw[if_pos hVF,if_pos (by rw[qa];exact a0),qB,qx,qz]
    exact Zh.eq_of (ZbZ _ _ qT.symm).symm rfl rfl rfl rfl rfl rfl rfl rfl
  have hbc:(vw on ds ts fs).be c=d.bottom+1:=by
   unfold Zh.be
   rw[if_pos ⟨hVF,by rw[qa];omega⟩,qB]
  have hyb:=po1 hF (by omega)
  rw[qB] at hyb
  by_cases a1:t.at_=1
  ·by_cases c1:d.top<t.bottom
   ·refine ZrU h G hm h8 hc hidle hf hfs hv.symm hc hds hts (ZfC hd ht hs (x:=(d.top,d.bottom,1,d.top,t.bottom,Zfv d.ring t.bottom,1)) ?_ hd) rfl rfl (.inl ⟨hVF,by rw[qa];exact a1,by rw[qT,qy];exact c1⟩) ?_
    ·unfold Za5
     rw[a1,dT c1]
     simp only[show((1:Int)==0)=false from rfl,show((1:Int)==1)=true from rfl,cF,cT,Zh0 (d:=⟨d.ring,d.top,d.bottom⟩) hring,bS,ZiD hring]
    ·unfold Zat
     rw[if_pos hVF,if_neg (by rw[qa];exact a0),if_pos (by rw[qa];exact a1),qT,qy,if_pos c1,qR]
     exact Zh.eq_of (ZbZ _ _ qT.symm).symm (ZbZ _ _ qB.symm).symm rfl rfl rfl rfl rfl rfl rfl
   ·by_cases c2:d.top=t.bottom
    ·refine Zg9 h G hm h8 hc hidle hf hfs hv.symm hc hds hts (ZfC hd ht hs (x:=(d.top,d.bottom,2,d.top,t.bottom,t.got,t.end_)) ?_ hd) hen rfl hs.symm ?_
     ·unfold Za5
      rw[a1,dF c1,show(d.top==t.bottom)=true from beq_iff_eq.2 c2]
      rfl
     ·unfold Zat
      rw[if_pos hVF,if_neg (by rw[qa];exact a0),if_pos (by rw[qa];exact a1),qT,qy,if_neg c1,if_pos c2,qz]
      exact Zh.eq_of (ZbZ _ _ qT.symm).symm (ZbZ _ _ qB.symm).symm rfl rfl rfl rfl rfl rfl rfl
    ·refine Zg9 h G hm h8 hc hidle hf hfs hv.symm hc hds hts (ZfC hd ht hs (x:=(d.top,d.bottom,3,d.top,t.bottom,t.got,t.end_)) ?_ hd) hen rfl hs.symm ?_
     ·unfold Za5
      rw[a1,dF c1,show(d.top==t.bottom)=false from beq_eq_false_iff_ne.2 c2]
      rfl
     ·unfold Zat
      rw[if_pos hVF,if_neg (by rw[qa];exact a0),if_pos (by rw[qa];exact a1),qT,qy,if_neg c1,if_neg c2,qz]
      exact Zh.eq_of (ZbZ _ _ qT.symm).symm (ZbZ _ _ qB.symm).symm rfl rfl rfl rfl rfl rfl rfl
  by_cases a2:t.at_=2
  ·by_cases c1:d.top=t.top
   ·have hd':ZkX ⟨d.ring,d.top+1,d.bottom⟩:=by
     have:=po2 hF a2
     exact⟨hring,by show 0<=d.top+1;omega,by show d.top+1<=64;omega,by show d.top+1-1<=d.bottom;omega,hd.b1⟩
    refine Zg9 h G hm h8 hc hidle hf hfs hv.symm hc hds hts (ZfC hd ht hs (x:=(d.top+1,d.bottom,4,t.top,t.bottom,Zfv d.ring t.bottom,t.end_)) ?_ hd') hen rfl hs.symm ?_
    ·unfold Za5 Zb8
     have hw:w64 (d.top+1)=d.top+1:=ZkD (by have:=hd.t0;omega) (by have:=hd.t1;omega)
     simp only[a2,show((2:Int)==0)=false from rfl,show((2:Int)==1)=false from rfl,show((2:Int)==2)=true from rfl,cF,cT,show(d.top != t.top)=false by rw[c1];simp,bS,hw,Zh0 (d:=⟨d.ring,d.top+1,d.bottom⟩) hring,ZiD hring]
    ·unfold Zat
     rw[if_pos hVF,if_neg (by rw[qa];exact a0),if_neg (by rw[qa];exact a1),if_pos (by rw[qa];exact a2),qT,qx,if_pos c1,qy,qR]
     exact Zh.eq_of rfl (ZbZ _ _ qB.symm).symm rfl rfl rfl rfl rfl rfl rfl
   ·refine Zg9 h G hm h8 hc hidle hf hfs hv.symm hc hds hts (ZfC hd ht hs (x:=(d.top,d.bottom,3,t.top,t.bottom,t.got,t.end_)) ?_ hd) hen rfl hs.symm ?_
    ·unfold Za5 Zb8
     simp only[a2,show((2:Int)==0)=false from rfl,show((2:Int)==1)=false from rfl,show((2:Int)==2)=true from rfl,cF,cT,show(d.top != t.top)=true by simpa using c1,bS]
    ·unfold Zat
     rw[if_pos hVF,if_neg (by rw[qa];exact a0),if_neg (by rw[qa];exact a1),if_pos (by rw[qa];exact a2),qT,qx,if_neg c1,qy,qz]
     exact Zh.eq_of (ZbZ _ _ qT.symm).symm (ZbZ _ _ qB.symm).symm rfl rfl rfl rfl rfl rfl rfl
  have hw:w64 (t.bottom+1)=t.bottom+1:=Zcm (by omega)
  by_cases a4:t.at_=4
  ·have hd':ZkX ⟨d.ring,d.top,t.bottom+1⟩:=by
    have:=po3 hF (.inr a4)
    exact⟨hring,hd.t0,hd.t1,by show d.top-1<=t.bottom+1;omega,by show t.bottom+1<=64;omega⟩
   refine ZrU h G hm h8 hc hidle hf hfs hv.symm hc hds hts (ZfC hd ht hs (x:=(d.top,t.bottom+1,4,t.top,t.bottom,t.got,1)) ?_ hd') rfl rfl (.inr (.inl ⟨hVF,by rw[qa];exact a4⟩)) ?_
   ·unfold Za5
    rw[a4,hw]
    rfl
   ·unfold Zat
    rw[if_pos hVF,if_neg (by rw[qa];exact a0),if_neg (by rw[qa];exact a1),if_neg (by rw[qa];exact a2),if_pos (by rw[qa];exact a4),qy,qz]
    exact Zh.eq_of (ZbZ _ _ qT.symm).symm rfl rfl rfl rfl rfl rfl rfl rfl
  ·have a3:t.at_=3:=by omega
   have hd':ZkX ⟨d.ring,d.top,t.bottom+1⟩:=by
    have:=po3 hF (.inl a3)
    exact⟨hring,hd.t0,hd.t1,by show d.top-1<=t.bottom+1;omega,by show t.bottom+1<=64;omega⟩
   refine ZpF h G hm h8 hc hidle hf hfs hv.symm hc hds hts (ZfC hd ht hs (x:=(d.top,t.bottom+1,3,t.top,t.bottom,t.got,2)) ?_ hd') (.inl rfl) rfl ?_
   ·unfold Za5
    rw[a3,hw]
    rfl
   ·unfold Zat
    rw[if_pos hVF,if_neg (by rw[qa];exact a0),if_neg (by rw[qa];exact a1),if_neg (by rw[qa];exact a2),if_neg (by rw[qa];exact a4),qy,hF]
    exact Zh.eq_of (ZbZ _ _ qT.symm).symm rfl rfl rfl rfl rfl rfl rfl rfl
 ·
  have hs:t.steal=true:=by rw[hst];simp;omega
  have hVF:(vw on ds ts fs).F c≠0:=by rw[qF];exact hF
  have hvv:vic m c ((vw on ds ts fs).F c)=vic m c f.toNat:=by rw[qF]
  by_cases a0:t.at_=0
  ·refine Zg9 h G hm h8 hc hidle hf hfs rfl hvm hds hts (ZfL hd ht hs (x:=(d.top,1,d.top,t.bottom,t.got,t.end_)) ?_ hd) hen rfl hs.symm ?_
   ·unfold ZaV
    rw[a0]
    rfl
   ·unfold Zat
    rw[if_neg hVF,if_pos (by rw[qa];exact a0),hvv,qT,qy,qz]
    exact Zh.eq_of (ZbZ _ _ qT.symm).symm (ZbZ _ _ qB.symm).symm rfl rfl rfl rfl rfl rfl rfl
  by_cases a1:t.at_=1
  ·by_cases c1:t.top<d.bottom
   ·refine Zg9 h G hm h8 hc hidle hf hfs rfl hvm hds hts (ZfL hd ht hs (x:=(d.top,2,t.top,d.bottom,t.got,t.end_)) ?_ hd) hen rfl hs.symm ?_
    ·unfold ZaV
     rw[a1,dF (show ¬d.bottom<=t.top by omega)]
     rfl
    ·unfold Zat
     rw[if_neg hVF,if_neg (by rw[qa];exact a0),if_pos (by rw[qa];exact a1),hvv,qB,qx,if_pos c1,qz]
     exact Zh.eq_of (ZbZ _ _ qT.symm).symm (ZbZ _ _ qB.symm).symm rfl rfl rfl rfl rfl rfl rfl
   ·refine ZpF h G hm h8 hc hidle hf hfs rfl hvm hds hts (ZfL hd ht hs (x:=(d.top,1,t.top,d.bottom,t.got,2)) ?_ hd) (.inl rfl) rfl ?_
    ·unfold ZaV
     rw[a1,dT (show d.bottom<=t.top by omega)]
     rfl
    ·unfold Zat
     rw[if_neg hVF,if_neg (by rw[qa];exact a0),if_pos (by rw[qa];exact a1),hvv,qB,qx,if_neg c1,qF]
     exact Zh.eq_of (ZbZ _ _ qT.symm).symm (ZbZ _ _ qB.symm).symm rfl rfl rfl rfl rfl rfl rfl
  by_cases a2:t.at_=2
  ·refine Zg9 h G hm h8 hc hidle hf hfs rfl hvm hds hts (ZfL hd ht hs (x:=(d.top,3,t.top,t.bottom,Zfv d.ring t.top,t.end_)) ?_ hd) hen rfl hs.symm ?_
   ·unfold ZaV
    rw[a2]
    simp only[show((2:Int)==0)=false from rfl,show((2:Int)==1)=false from rfl,show((2:Int)==2)=true from rfl,cF,cT,Zh0 (d:=⟨d.ring,d.top,d.bottom⟩) hring,bS,ZiD hring]
   ·unfold Zat
    rw[if_neg hVF,if_neg (by rw[qa];exact a0),if_neg (by rw[qa];exact a1),if_pos (by rw[qa];exact a2),hvv,qx,qy,qR]
    exact Zh.eq_of (ZbZ _ _ qT.symm).symm (ZbZ _ _ qB.symm).symm rfl rfl rfl rfl rfl rfl rfl
  have a3:t.at_=3:=by have:=pa3 hF;omega
  by_cases c1:d.top=t.top
  ·have hlt:=pt2 hF (by omega) (by rw[qT];exact c1.symm)
   rw[qT] at hlt
   have hd':ZkX ⟨d.ring,d.top+1,d.bottom⟩:=⟨hring,by show 0<=d.top+1;omega,by show d.top+1<=64;omega,by show d.top+1-1<=d.bottom;rcases hbe with e | e<;>omega,hd.b1⟩
   refine ZrU h G hm h8 hc hidle hf hfs rfl hvm hds hts (ZfL hd ht hs (x:=(d.top+1,3,t.top,t.bottom,t.got,1)) ?_ hd') rfl rfl (.inr (.inr ⟨hVF,by rw[qa];exact a3,by rw[hvv,qT,qx];exact c1⟩)) ?_
   ·unfold ZaV Zb8
    have hw:w64 (d.top+1)=d.top+1:=ZkD (by have:=hd.t0;omega) (by have:=hd.t1;omega)
    simp only[a3,show((3:Int)==0)=false from rfl,show((3:Int)==1)=false from rfl,show((3:Int)==2)=false from rfl,cF,show(d.top != t.top)=false by rw[c1];simp,bS,hw]
   ·unfold Zat
    rw[if_neg hVF,if_neg (by rw[qa];exact a0),if_neg (by rw[qa];exact a1),if_neg (by rw[qa];exact a2),hvv,qT,qx,if_pos c1,qz]
    exact Zh.eq_of rfl (ZbZ _ _ qB.symm).symm rfl rfl rfl rfl rfl rfl rfl
  ·refine ZpF h G hm h8 hc hidle hf hfs rfl hvm hds hts (ZfL hd ht hs (x:=(d.top,3,t.top,t.bottom,0,3)) ?_ hd) (.inr rfl) rfl ?_
   ·unfold ZaV Zb8
    simp only[a3,show((3:Int)==0)=false from rfl,show((3:Int)==1)=false from rfl,show((3:Int)==2)=false from rfl,cF,show(d.top != t.top)=true by simpa using c1,bS,cT]
   ·unfold Zat
    rw[if_neg hVF,if_neg (by rw[qa];exact a0),if_neg (by rw[qa];exact a1),if_neg (by rw[qa];exact a2),hvv,qT,qx,if_neg c1,qF]
    exact Zh.eq_of (ZbZ _ _ qT.symm).symm (ZbZ _ _ qB.symm).symm rfl rfl rfl rfl rfl rfl rfl
end
end
section
theorem Zvx (l:List Za) (f:Za->Option Bool) (p:Za->Bool) (hf:∀x∈l,f x=some (p x)) (hl:l.length<9223372036854775808):Zai l f=some (l.any p):=by
 unfold Zai Zbg
 refine ZlM l p _ (fun i x hi hx=>?_) ?_
 ·simp only[Zal,ZaU hi,Zn hx,bS,hf x (mG hx),ZA hi hl,cT]
  cases p x<;>rfl
 ·simp only[Zal,ZaY];rfl
def Zqa (m:Nat) (V:Zh):Bool:=(List.range m).any fun j=>decide (V.T j<V.B j)
def wlV (m:Nat) (V:Zh):List Int:=((List.range m).filter fun i=>decide (V.O i = -1)&&(Zqa m V || !decide (V.a i=0))).map fun i:Nat=>(i:Int)
theorem Zji {m:Nat}{V:Zh}{z:Int}:z∈wlV m V↔0<=z/\ZdA m V z.toNat:=by
 unfold wlV
 rw[Zf3]
 unfold ZdA Zqa
 simp only[aT,Bool.or_eq_true,Bool.not_eq_true',decide_eq_true_eq,decide_eq_false_iff_not,any_eq_true,List.mem_range]
theorem ZuU {m:Nat}{ds:List Za} (hl:ds.length=m) (on:List Int) (ts:List Zb) (fs:List Int):(ds.any fun d=>decide (d.top<d.bottom))=Zqa m (vw on ds ts fs):=by
 rw[Bool.eq_iff_iff]
 unfold Zqa
 rw[any_eq_true,any_eq_true]
 constructor
 ·rintro ⟨d,hd,h⟩
  obtain⟨i,hi⟩:=List.getElem?_of_mem hd
  refine⟨i,List.mem_range.2 (by rw[<- hl];exact(gQ hi).1),?_⟩
  rw[show(vw on ds ts fs).T i=d.top from ZO hi,show(vw on ds ts fs).B i=d.bottom from ZO hi]
  exact h
 ·rintro ⟨i,hi,h⟩
  rw[List.mem_range] at hi
  have hd:ds[i]? = some ds[i]:=gE (by omega)
  rw[show(vw on ds ts fs).T i=ds[i].top from ZO hd,show(vw on ds ts fs).B i=ds[i].bottom from ZO hd] at h
  exact⟨_,getElem_mem _,h⟩
theorem ZAI (d:Za):ZaD d=some (decide (d.top<d.bottom)):=by
 unfold ZaD
 cases decide (d.top<d.bottom)<;>rfl
theorem ZqR {m:Nat}{on fs:List Int}{ds:List Za}{ts:List Zb} (ho:on.length=m) (hd:ds.length=m) (ht:ts.length=m) (h8:m<=8):Zcx on ds ts=some (wlV m (vw on ds ts fs)):=by
 unfold Zcx
 rw[Zvx ds _ (fun d=>decide (d.top<d.bottom)) (fun d _=>ZAI d) (by omega),bS,ZuU hd on ts fs]
 unfold wlV
 cases hs:Zqa m (vw on ds ts fs) with
 | true=>
  rw[cT,ZkO (n:=on.length) (Zbu on) (fun i=>decide ((vw on ds ts fs).O i = -1)&&(true || !decide ((vw on ds ts fs).a i=0))) (fun i out hi hout=>?_) (fun out=>by simp only[Zbu,ZaY];rfl),bS,ho]
  have hx:=gE hi
  simp only[Zbu,ZaU hi,cT,Zn hx,bS,ZA hi (by omega),Zar (show out.length+1<=1073741824 by omega),Bool.true_or,Bool.and_true]
  rw[show(vw on ds ts fs).O i=on[i] from ZO hx]
  by_cases h:on[i] = -1
  ·rw[show(on[i] == -1)=true from beq_iff_eq.2 h,dT h];rfl
  ·rw[show(on[i] == -1)=false from beq_eq_false_iff_ne.2 h,dF h];rfl
 | false=>
  rw[cF,ZkO (n:=on.length) (Za9 on ts) (fun i=>decide ((vw on ds ts fs).O i = -1)&&(false || !decide ((vw on ds ts fs).a i=0))) (fun i out hi hout=>?_) (fun out=>by simp only[Za9,ZaY];rfl),bS,ho]
  have hx:=gE hi
  have ht:=gE (show i<ts.length by omega)
  simp only[Za9,ZaU hi,cT,Zn hx,Zn ht,bS,ZA hi (by omega),Zar (show out.length+1<=1073741824 by omega),Bool.false_or]
  rw[show(vw on ds ts fs).O i=on[i] from ZO hx,show(vw on ds ts fs).a i=ts[i].at_ from ZO ht]
  by_cases h:on[i] = -1
  ·rw[show(on[i] == -1)=true from beq_iff_eq.2 h,dT h]
   by_cases h2:ts[i].at_=0
   ·rw[show(ts[i].at_ != 0)=false by rw[h2];rfl,dT h2];rfl
   ·rw[show(ts[i].at_ != 0)=true by simpa using h2,dF h2];rfl
  ·rw[show(on[i] == -1)=false from beq_eq_false_iff_ne.2 h,dF h];rfl
theorem Zyg (m:Nat) (V:Zh):(wlV m V).length<=m:=by
 unfold wlV
 rw[length_map]
 exact le_trans (List.length_filter_le _ _) (by rw[List.length_range];exact Nat.le_refl _)
theorem ZwD (m:Nat) (V:Zh):(wlV m V).Pairwise (· < ·):=by
 unfold wlV
 refine List.Pairwise.map _ (fun a b (h:a<b)=>by omega) (List.Pairwise.filter _ List.pairwise_lt_range)
def Zjw (last:Int):Nat->List Int->Option Nat
 | _,[]=>none
 | i,x :: l=>if last<x then some i else Zjw last (i+1) l
theorem Zmr (last:Int):∀(l:List Int) (i:Nat),(match Zjw last i l with | some k=>i<=k/\(∃x,l[k-i]? = some x/\last<x/\∀j,j<k-i->∀y,l[j]? = some y->y<=last) | none=>∀y∈l,y<=last)
 | [],i=>fun y hy=>by cases hy
 | x :: l,i=>by
  unfold Zjw
  by_cases h:last<x
  ·rw[if_pos h]
   exact⟨Nat.le_refl _,x,by simp,h,fun j hj=>by omega⟩
  ·rw[if_neg h]
   have ih:=Zmr last l (i+1)
   cases hf:Zjw last (i+1) l with
   | none=>
    rw[hf] at ih
    intro y hy
    rcases List.mem_cons.1 hy with rfl | hy
    ·omega
    ·exact ih y hy
   | some k=>
    rw[hf] at ih
    obtain⟨h1,z,h2,h3,h4⟩:=ih
    refine⟨by omega,z,?_,h3,fun j hj y hy=>?_⟩
    ·rw[show k-i=(k-(i+1))+1 by omega];exact h2
    ·cases j with
     | zero=>cases hy;omega
     | succ j=>exact h4 j (by omega) y hy
def nxI (l:List Int) (last:Int):Nat:=match Zjw last 0 l with | some k=>k | none=>0
theorem ZuN (l:List Int) (last:Int) (hl:l.length<9223372036854775808):ZL l (fun z0=>ZaP z0 last)=some (match Zjw last 0 l with | some k=>(k:Int) | none=>-1):=by
 unfold ZL
 have key:=Zdd l (ZE l (fun z0=>ZaP z0 last)) (fun _ x=>decide (last<x)) (fun i _=>.inl (i:Int)) (.inr ()) (fun i x hi hx=>by
  simp only[ZE,ZaU hi,cT,Zn hx,bS,ZaP,ZA hi hl]
  cases decide (last<x)<;>rfl) (by simp only[ZE,ZaY];rfl)
 rw[key,bS]
 have:∀(l:List Int) (i:Nat),ZkZ (fun _ x=>decide (last<x)) (fun i (_:Int)=>(.inl (i:Int):Int⊕Unit)) (.inr ()) i l=(match Zjw last i l with | some k=>.inl (k:Int) | none=>.inr ()):=by
  intro l
  induction l with
  | nil=>intro i;rfl
  | cons x l ih=>
   intro i
   unfold ZkZ Zjw
   by_cases h:last<x
   ·rw[if_pos h,dT h];rfl
   ·rw[if_neg h,dF h,cF];exact ih (i+1)
 rw[this l 0]
 cases Zjw last 0 l<;>rfl
def chI (l picks:List Int) (last:Int) (s:Nat):Int:=
 match picks[s]? with
 | some x=>gt id 0 l (Int.tmod (bif decide (x<0) then 0 else x) (l.length:Int)).toNat
 | none=>gt id 0 l (nxI l last)
theorem ZBn {l picks:List Int}{last:Int}{s:Nat} (hne:l≠[]) (hl:l.length<9223372036854775808) (hp:picks.length<9223372036854775808):ZaS last l picks (s:Int)=some (chI l picks last s)/\chI l picks last s∈l:=by
 have h0:0<l.length:=List.length_pos_iff.2 hne
 unfold ZaS chI
 by_cases hs:s<picks.length
 ·have hx:=gE hs
  rw[ZaU hs,cT,Zn hx,bS,hx,show((l.length:Int)==0)=false from beq_eq_false_iff_ne.2 (by omega),cF]
  have hz:(0:Int)<=(bif decide (picks[s]<0) then 0 else picks[s]):=by
   by_cases h:picks[s]<0
   ·rw[dT h];exact le_refl _
   ·rw[dF h];show 0<=picks[s];omega
  have h1:=Int.tmod_nonneg (l.length:Int) hz
  have h2:=Int.tmod_lt_of_pos (bif decide (picks[s]<0) then 0 else picks[s]) (show(0:Int)<(l.length:Int) by omega)
  have h3:(Int.tmod (bif decide (picks[s]<0) then 0 else picks[s]) (l.length:Int)).toNat<l.length:=by omega
  have hy:=gE h3
  rw[Zxf h1 hy,bS]
  dsimp only
  rw[ZO hy]
  exact⟨rfl,getElem_mem _⟩
 ·have hn:picks[s]? = none:=List.getElem?_eq_none (by omega)
  rw[dF (show ¬(s:Int)<(picks.length:Int) by omega),cF,hn,ZuN l last hl,bS]
  dsimp only
  have sp:=Zmr last l 0
  unfold nxI
  cases hf:Zjw last 0 l with
  | none=>
   dsimp only
   have hy:=gE h0
   rw[ZO hy]
   have:Zt l (bif decide ((-1:Int)<0) then 0 else -1)=some l[0]:=Zn (i:=0) hy
   rw[this]
   exact⟨rfl,getElem_mem _⟩
  | some k=>
   rw[hf] at sp
   obtain⟨_,x,h1,_⟩:=sp
   rw[Nat.sub_zero] at h1
   dsimp only
   rw[ZO h1,dF (show ¬(k:Int)<0 by omega),cF,Zn h1]
   exact⟨rfl,mG h1⟩
def chV (m:Nat) (picks:List Int) (V:Zh) (last:Int) (s:Nat):Nat:=(chI (wlV m V) picks last s).toNat
theorem Zsy {m:Nat}{picks:List Int}{V:Zh}{last:Int}{s:Nat} (hm:m<=8) (hp:picks.length<9223372036854775808) (h:∃c,ZdA m V c):ZdA m V (chV m picks V last s)/\(picks.length<=s->Next m V last (chV m picks V last s))/\ZaS last (wlV m V) picks (s:Int)=some (chV m picks V last s:Int):=by
 obtain⟨c,hc⟩:=h
 have hin:(c:Int)∈wlV m V:=Zji.2 ⟨by omega,by simpa using hc⟩
 have hl:=Zyg m V
 obtain⟨h1,h2⟩:=ZBn (l:=wlV m V) (picks:=picks) (last:=last) (s:=s) (fun e=>by rw[e] at hin;cases hin) (by omega) hp
 obtain⟨h3,h4⟩:=Zji.1 h2
 have e:((chV m picks V last s:Nat):Int)=chI (wlV m V) picks last s:=toNat_of_nonneg h3
 refine⟨h4,fun hs=>⟨h4,?_⟩,by rw[e];exact h1⟩
 have hch:chI (wlV m V) picks last s=gt id 0 (wlV m V) (nxI (wlV m V) last):=by
  unfold chI
  rw[List.getElem?_eq_none hs]
 have sp:=Zmr last (wlV m V) 0
 have so:=ZwD m V
 unfold nxI at hch
 cases hf:Zjw last 0 (wlV m V) with
 | none=>
  rw[hf] at sp hch
  right
  have hx:=gE (show 0<(wlV m V).length from List.length_pos_iff.2 (fun e=>by rw[e] at hin;cases hin))
  rw[ZO hx] at hch
  refine⟨fun p hp=>?_,fun p hp=>?_⟩
  ·exact sp (p:Int) (Zji.2 ⟨by omega,by simpa using hp⟩)
  ·have hpm:(p:Int)∈wlV m V:=Zji.2 ⟨by omega,by simpa using hp⟩
   obtain⟨j,hj⟩:=List.getElem?_of_mem hpm
   have hjl:=(gQ hj).1
   have hje:=(gQ hj).2
   have:(wlV m V)[0]<=(p:Int):=by
    rcases Nat.eq_zero_or_pos j with rfl | hj0
    ·rw[hje];exact le_refl _
    ·have:=List.pairwise_iff_getElem.1 so 0 j (by omega) hjl hj0
     omega
   have e2:chI (wlV m V) picks last s=(wlV m V)[0]:=hch
   omega
 | some k=>
  rw[hf] at sp hch
  obtain⟨_,x,k1,k2,k3⟩:=sp
  rw[Nat.sub_zero] at k1 k3
  rw[ZO k1] at hch
  have hkl:=(gQ k1).1
  have hke:=(gQ k1).2
  have e2:chI (wlV m V) picks last s=x:=hch
  left
  refine⟨by omega,fun p hp hlp=>?_⟩
  have hpm:(p:Int)∈wlV m V:=Zji.2 ⟨by omega,by simpa using hp⟩
  obtain⟨j,hj⟩:=List.getElem?_of_mem hpm
  have hjl:=(gQ hj).1
  have hje:=(gQ hj).2
  have hkj:k<=j:=by
   rcases lt_or_ge j k with h | h
   ·have:=k3 j h _ hj;omega
   ·exact h
  rcases Nat.eq_or_lt_of_le hkj with rfl | hlt
  ·rw[k1] at hj;cases hj;omega
  ·have:=List.pairwise_iff_getElem.1 so k j hkl hjl hlt
   omega
theorem ZGQ {m c:Nat}{b:Int->Prop}{V:Zh} (I:Inv m b V) (hc:c<m) (j:Nat):(Zat m V c).be j<=V.be j:=by
 have p:=I.pos c hc
 have s:=Zw8 p.gen
 generalize Zat m V c=W at s
 by_cases e:j=c
 ·subst e
  have o1:=p.o1
  cases s with
  | own0 hF ha=>simp only[Zh.be,Zh.tk,Zh.setB,Z2,hF,ha];simp
  | take hF ha h=>have:=o1 hF (by omega);simp only[Zh.be,Zh.got,Z2,hF,ha];simp;omega
  | last hF ha h=>simp only[Zh.be,Zh.tk,Z2,hF,ha];simp
  | none1 hF ha h=>simp only[Zh.be,Zh.tk,Z2,hF,ha];simp
  | win hF ha h=>simp only[Zh.be,Zh.tk,Zh.setT,Z2,hF,ha];simp
  | lose hF ha h=>simp only[Zh.be,Zh.tk,Z2,hF,ha];simp
  | work hF ha=>have:=o1 hF (by omega);simp only[Zh.be,Zh.got,Zh.setB,Z2,hF,ha];simp;omega
  | back hF ha=>have:=o1 hF (by omega);simp only[Zh.be,Zh.fresh,Zh.setB,Z2,hF,ha];simp;omega
  | top hF ha=>simp only[Zh.be,Zh.tk,hF];simp
  | bottom hF ha h=>simp only[Zh.be,Zh.tk,hF];simp
  | none2 hF ha h=>simp only[Zh.be,Zh.fresh,Z2,hF];simp
  | read hF ha=>simp only[Zh.be,Zh.tk,hF];simp
  | steal hF ha h=>simp only[Zh.be,Zh.got,Zh.setT,Z2,hF];simp
  | lost hF ha h=>simp only[Zh.be,Zh.fresh,Z2,hF];simp
 ·obtain⟨_,h2,h3,_,_,h6⟩:=Zck s e
  unfold Zh.be
  rw[h2,h3,h6]
  exact le_refl _
structure Zss (m:Nat) (on on':List Int) (ds ds':List Za) (ts ts':List Zb) (fs fs':List Int):Prop where
 row:∀(c:Nat) (n:Int),on[c]? = some n->n ≠ -1->on'[c]? = some n
 be:∀c,(vw on' ds' ts' fs').be c<=(vw on ds ts fs).be c
theorem Zss.refl (m:Nat) (on:List Int) (ds:List Za) (ts:List Zb) (fs:List Int):Zss m on on ds ds ts ts fs fs:=⟨fun _ _ h _=>h,fun _=>le_refl _⟩
theorem Zss.trans {m:Nat}{on on' on2 fs fs' fs2:List Int}{ds ds' ds2:List Za}{ts ts' ts2:List Zb} (a:Zss m on on' ds ds' ts ts' fs fs') (b:Zss m on' on2 ds' ds2 ts' ts2 fs' fs2):Zss m on on2 ds ds2 ts ts2 fs fs2:=
 ⟨fun c n h hn=>b.row c n (a.row c n h hn) hn,fun c=>Int.le_trans (b.be c) (a.be c)⟩
section
variable {g:Zj} {m:Nat} {left:List Int}
theorem ZyI {on fs on' fs':List Int}{ds ds':List Za}{ts ts':List Zb}{c:Nat} (G:GangIn g m left on ds ts fs) (hc:c<m) (hidle:(vw on ds ts fs).O c = -1) (G':GangIn g m left on' ds' ts' fs') (hV:vw on' ds' ts' fs'=Zat m (vw on ds ts fs) c):Zss m on on' ds ds' ts ts' fs fs':=by
 refine⟨fun i n hi hn=>?_,fun j=>by rw[hV];exact ZGQ G.inv hc j⟩
 have hil:=(gQ hi).1
 have hic:i≠c:=fun e=>by
  subst e
  rw[Zns on ds ts fs hi] at hidle
  exact hn hidle
 have h1:=(Zck (Zw8 (G.inv.pos c hc).gen) hic).1
 rw[<- hV,Zns on ds ts fs hi] at h1
 have hl':i<on'.length:=by rw[G'.ol,<- G.ol];exact hil
 have:=gE hl'
 rw[Zns on' ds' ts' fs' this] at h1
 rw[this,h1]
theorem ZF5 (h:ZM g=0) {picks:List Int} (hp:picks.length<=100000) {on fs:List Int}{ds:List Za}{ts:List Zb} (G:GangIn g m left on ds ts fs) :
  ∃(n:Nat) (l:Int) (on':List Int) (ds':List Za) (ts':List Zb) (fs':List Int),ZbR picks g.work g.edges on left ds ts fs=some ((n:Int),0,l,on',ds',ts',fs')/\GangIn g m left on' ds' ts' fs'/\(∀c,¬ZdA m (vw on' ds' ts' fs') c)/\Zss m on on' ds ds' ts ts' fs fs'/\n<=picks.length+8*m*m*(m+1):=by
 have h8:m<=8:=by rw[<- G.ol];exact G.crew.o8
 have h1m:1<=m:=by rw[<- G.ol];exact G.crew.o1
 have key:=ZCW (m:=m) (L:=picks.length) (base:=base g.edges left) ZkB (chV m picks) (fun V last s I hx=>⟨(Zsy h8 (by omega) hx).1,(Zsy h8 (by omega) hx).2.1⟩)
  (fun n s V l=>s+n<=200000->∀(on fs:List Int) (ds:List Za) (ts:List Zb),GangIn g m left on ds ts fs->vw on ds ts fs=V ->
   ∃(n':Nat) (l':Int) (on':List Int) (ds':List Za) (ts':List Zb) (fs':List Int),lp (ZaC picks g.work g.edges left) ((s:Int),wlV m V,l,on,ds,ts,fs)=some (.inr ((n':Int),l',on',ds',ts',fs'))/\GangIn g m left on' ds' ts' fs'/\(∀c,¬ZdA m (vw on' ds' ts' fs') c)/\Zss m on on' ds ds' ts ts' fs fs'/\n'<=s+n)
  (fun n k s V l hnk hq hk on fs ds ts G hV=>by
   obtain⟨n',l',on',ds',ts',fs',q1,q2,q3,q4,q5⟩:=hq (by omega) on fs ds ts G hV
   exact⟨n',l',on',ds',ts',fs',q1,q2,q3,q4,by omega⟩)
  (fun n s V l I hw hk on fs ds ts G hV=>by
   subst hV
   have hnil:wlV m (vw on ds ts fs)=[]:=by
    rw[List.eq_nil_iff_forall_not_mem]
    intro z hz
    exact hw _ (Zji.1 hz).2
   refine⟨s,l,on,ds,ts,fs,?_,G,hw,Zss.refl _ _ _ _ _,by omega⟩
   rw[Zaj,hnil]
   rfl)
  (fun n s V l I hw hq hk on fs ds ts G hV=>by
   subst hV
   obtain⟨on1,ds1,ts1,fs1,p1,p2,p3⟩:=ZCK h G hw.1 hw.2.1
   obtain⟨n',l',on',ds',ts',fs',q1,q2,q3,q4,q5⟩:=hq (by omega) on1 fs1 ds1 ts1 p2 p3
   refine⟨n',l',on',ds',ts',fs',?_,q2,q3,(ZyI G hw.1 hw.2.1 p2 p3).trans q4,by omega⟩
   have hne:0<(wlV m (vw on ds ts fs)).length:=List.length_pos_iff.2 fun e=>by
    have:((chV m picks (vw on ds ts fs) l s:Nat):Int)∈wlV m (vw on ds ts fs):=Zji.2 ⟨by omega,by simpa using hw⟩
    rw[e] at this;cases this
   rw[Zaj]
   have hnx:=(Zsy (picks:=picks) (last:=l) (s:=s) h8 (by omega) ⟨_,hw⟩).2.2
   simp only[ZaC,dT (show(0:Int)<((wlV m (vw on ds ts fs)).length:Int) by omega),cT,hnx,bS,p1,show((0:Int) != 0)=false from rfl,cF,ZqR (fs:=fs1) p2.ol p2.dl p2.tl h8]
   rw[Zcm (by omega),show(s:Int)+1=((s+1:Nat):Int) by omega,p3]
   exact q1)
  0 (vw on ds ts fs) (-1) G.inv ⟨by omega,by omega⟩
 have hmost:=ZyO h1m h8
 have hsz:8*m*m*(m+1)<=8*8*8*9:=Nat.mul_le_mul (Nat.mul_le_mul (Nat.mul_le_mul_left 8 h8) h8) (by omega)
 obtain⟨n',l',on',ds',ts',fs',q1,q2,q3,q4,q5⟩:=key (by omega) on fs ds ts G rfl
 refine⟨n',l',on',ds',ts',fs',?_,q2,q3,q4,by omega⟩
 unfold ZbR
 rw[ZqR (fs:=fs) G.ol G.dl G.tl h8,bS]
 rw[show(lp (ZaC picks g.work g.edges left) (0,wlV m (vw on ds ts fs), -1,on,ds,ts,fs))=_ from q1]
 rfl
end
end
open Go Go.Proofs.YtgcfmiajkbbmeaaGreatE Go.Sort
section
structure OKA (P:Int->Prop) (d:Array Int):Prop where
 el:∀i,i<d.size->P d[i]!
 sz:d.size<=1000
section
variable (cmp:Int->Int->Option Int) (c:Int->Int->Int) (P:Int->Prop)
def Zxk:Prop:=∀x y,P x->P y->cmp x y=some (c x y)
def ltC (x y:Int):Bool:=decide (c x y<0)
variable {cmp c P} (hc:Zxk cmp c P)
include hc
end
end
section
section
variable {cmp:Int->Int->Option Int} {c:Int->Int->Int} {P:Int->Prop} (hc:Zxk cmp c P)
include hc
end
end
section
section
variable {cmp:Int->Int->Option Int} {c:Int->Int->Int} {P:Int->Prop} (hc:Zxk cmp c P)
include hc
end
end
def Zwy (a b:Int):Int:=u64.wrap (Zlm a ^^^ Zlm b).toNat
def xs (r:Int):Int:=Zwy (Zwy (Zwy r (u64.wrap (r*2 ^ 13))) (Int.fdiv (Zwy r (u64.wrap (r*2 ^ 13))) (2 ^ 7))) (u64.wrap (Zwy (Zwy r (u64.wrap (r*2 ^ 13))) (Int.fdiv (Zwy r (u64.wrap (r*2 ^ 13))) (2 ^ 7))*2 ^ 17))
section
def Res (P:Int->Prop) (r:Option (List Int)) (X:Array Int) (n:Nat):Prop:=r=some X.toList/\OKA P X/\X.size=n
section
variable {cmp:Int->Int->Option Int} {c:Int->Int->Int} {P:Int->Prop} (hc:Zxk cmp c P) (hs:SWO (ltC c))
include hc hs
end
end
theorem Zph (l:List Int) (hl:l.length<=1000):∃r:List Int,Za8 l=some r/\r.Perm l/\r.Pairwise (fun x y=>x<=y):=by
 refine⟨sortI l,?_,ZnL l,ZkK l⟩
 unfold Za8
 rw[Nat.ble_eq_true_of_le (le_trans hl (by decide))]
 rfl
structure ZEb (d:ZAh):Prop where
 p:d.parts.length<=20
 e:d.edges.length<=60
 f:d.futures.length<=20
 b:d.barriers.length<=8
 i:∀b∈d.barriers,b.ins.length<=20/\b.outs.length<=20
theorem ZEb.short {d:ZAh} (h:ZEb d):ZFd d:=
 ⟨by have:=h.p;omega,by have:=h.e;omega,by have:=h.f;omega,by have:=h.b;omega,fun b hb=>⟨by have:=(h.i b hb).1;omega,by have:=(h.i b hb).2;omega⟩⟩
def sel {γ:Type} (p:γ->Bool) (g:Nat->γ->Int):Nat->List γ->List Int
 | _,[]=>[]
 | i,x :: l=>bif p x then g i x :: sel p g (i+1) l else sel p g (i+1) l
theorem Zx4 {γ:Type} (p:γ->Bool) (g:Nat->γ->Int):∀(l:List γ) (i:Nat),(sel p g i l).length=l.countP p
 | [],_=>rfl
 | x :: l,i=>by
  unfold sel
  have ih:=Zx4 p g l (i+1)
  cases h:p x with
  | true=>simp[ih,h]
  | false=>simp[ih,h]
theorem Zt7 {γ:Type} (p:γ->Bool) (g:Nat->γ->Int) (z:Int):∀(l:List γ) (i:Nat),z∈sel p g i l↔∃j x,l[j]? = some x/\p x=true/\z=g (i+j) x
 | [],i=>by simp[sel]
 | x :: l,i=>by
  have ih:=Zt7 p g z l (i+1)
  have key:(∃j y,(x :: l)[j]? = some y/\p y=true/\z=g (i+j) y)↔(p x=true/\z=g i x)∨∃j y,l[j]? = some y/\p y=true/\z=g (i+1+j) y:=by
   constructor
   ·rintro ⟨j,y,h1,h2,h3⟩
    cases j with
    | zero=>left;simp at h1;subst h1;exact⟨h2,h3⟩
    | succ j=>right;exact⟨j,y,by simpa using h1,h2,by rw[h3];congr 1;omega⟩
   ·rintro (⟨h2,h3⟩ | ⟨j,y,h1,h2,h3⟩)
    ·exact⟨0,x,rfl,h2,h3⟩
    ·exact⟨j+1,y,by simpa using h1,h2,by rw[h3];congr 1;omega⟩
  rw[key]
  unfold sel
  cases h:p x with
  | true=>simp[ih]
  | false=>simp[ih]
theorem ZBS {γ:Type} (l:List γ) (hl:l.length<=1000) (p:γ->Bool) (g:Nat->γ->Int) (step:Int×List Int->Option ((Int×List Int)⊕List Int))
  (h1:∀i x s,i<l.length->l[i]? = some x->step ((i:Int),s)=(bif p x then (bif Nat.ble (s.length+1) lim then some (.inl (((i+1:Nat):Int),s++[g i x])) else none) else some (.inl (((i+1:Nat):Int),s))))
  (h2:∀s,step ((l.length:Int),s)=some (.inr s)) (s:List Int) (hs:s.length<=1000000):lp step (0,s)=some (s++sel p g 0 l):=by
 have key:=Zxp l step (fun i s=>((i:Int),s)) (fun i x s=>bif p x then (bif Nat.ble (s.length+1) lim then some (.inl (s++[g i x])) else none) else some (.inl s)) (fun s=>some s) (fun i x s hi hx=>by
   rw[h1 i x s hi hx]
   cases p x<;>cases Nat.ble (s.length+1) lim<;>rfl) (fun s=>h2 s) s
 refine(key:lp step (0,s)=_).trans ?_
 have:∀(l:List γ) (i:Nat) (s:List Int),s.length+l.length<=1001000->ZsM (fun i x s=>bif p x then (bif Nat.ble (s.length+1) lim then some (Sum.inl (s++[g i x])) else (none:Option (List Int⊕List Int))) else some (.inl s)) (fun s=>some s) i l s=some (s++sel p g i l):=by
  intro l
  induction l with
  | nil=>intro i s _;simp[ZsM,sel]
  | cons x l ih=>
   intro i s hb
   rw[length_cons] at hb
   unfold ZsM sel
   cases p x with
   | true=>
    rw[Zar (show s.length+1<=1073741824 by omega)]
    simp only[cT]
    rw[ih (i+1) (s++[g i x]) (by rw[lA,length_singleton];omega)]
    simp
   | false=>
    simp only[cF]
    rw[ih (i+1) s (by omega)]
 exact this l 0 s (by omega)
theorem Ztj {γ:Type} (p:γ->Bool) (g:Nat->γ->Int) (l:List γ) (i:Nat):(sel p g i l).length<=l.length:=by rw[Zx4];exact List.countP_le_length
def Zeu (left row:List Int) (n:Int):Int:=if n = -1 then -1 else if lf (ZJ left row) n=0 then -1 else n
theorem Zcr (left row:List Int):ZH left row=row.map (Zeu left row):=rfl
theorem ZyF {row:List Int} (h:ZpG row) (k:Nat):ZpG (row.take k):=fun i j n hi hj hn=>by
 rw[List.getElem?_take] at hi hj
 split at hi
 ·split at hj
  ·exact h i j n hi hj hn
  ·cases hj
 ·cases hi
theorem ZA4 {l:List Int}{n:Int} (h:n ≠ -1):dec l n=l.set n.toNat (lf l n-1):=by unfold dec;rw[if_neg h]
theorem Zy8 (row left:List Int):(row.foldl dec left).length=left.length:=ZbV row left
theorem ZIx {row:List Int} (left:List Int) (h:ZpG row) (hr:∀n∈row,n = -1∨(isN left n/\0<lf left n)) (h64:left.length<=64) (hv:∀x∈left,x<=1000) (h8:row.length<=8) :
  lp (ZdN row) (0,row,left,([]:List Int))=some (ZH left row,ZJ left row,row.filter fun n=>decide (n ≠ -1)&&decide (lf (ZJ left row) n=0)):=by
 have hr1:∀n∈row,n = -1∨isN left n:=fun n hn=>(hr n hn).imp id (·.1)
 have key:∀(k i:Nat),i+k=row.length->lp (ZdN row) ((i:Int),(ZH left row).take i++row.drop i,(row.take i).foldl dec left,(row.take i).filter fun n=>decide (n ≠ -1)&&decide (lf (ZJ left row) n=0))=some (ZH left row,ZJ left row,row.filter fun n=>decide (n ≠ -1)&&decide (lf (ZJ left row) n=0)):=by
  intro k
  induction k with
  | zero=>
   intro i hi
   have hi:i=row.length:=by omega
   subst hi
   have hl:(ZH left row).length=row.length:=by rw[Zcr,length_map]
   rw[Zaj,List.drop_length,append_nil,List.take_length,List.take_of_length_le (by omega)]
   simp only[ZdN,ZaY,cF]
   rfl
  | succ k ih=>
   intro i hi
   have hi':i<row.length:=by omega
   have hx:=gE hi'
   generalize hn:row[i]=n at hx
   have htl:(ZH left row).length=row.length:=by rw[Zcr,length_map]
   have htake:((ZH left row).take i).length=i:=by rw[length_take,htl];omega
   have hget:((ZH left row).take i++row.drop i)[i]? = some n:=by
    rw[List.getElem?_append_right (by omega),htake,List.getElem?_drop,Nat.sub_self,add_zero]
    exact hx
   have hdrop:row.drop i=n :: row.drop (i+1):=by rw[<- hn];exact List.drop_eq_getElem_cons hi'
   have htk:row.take (i+1)=row.take i++[n]:=by rw[List.take_add_one,hx];rfl
   have hto:(ZH left row).take (i+1)=(ZH left row).take i++[Zeu left row n]:=by
    rw[List.take_add_one,Zcr,List.getElem?_map,hx];rfl
   have hset:∀v,((ZH left row).take i++row.drop i).set i v=(ZH left row).take i++v :: row.drop (i+1):=fun v=>by
    rw[List.set_append_right _ _ (by omega),htake,Nat.sub_self,hdrop];rfl
   have ih':=ih (i+1) (by omega)
   rw[htk,hto,List.foldl_append,List.filter_append,List.append_assoc] at ih'
   rw[Zaj]
   simp only[ZdN,ZaU hi',cT,Zn hget,bS,ZA hi' (show row.length<9223372036854775808 by omega)]
   by_cases h1:n = -1
   ·subst h1
    rw[show((-1:Int) == -1)=true from rfl,cT]
    have e1:Zeu left row (-1) = -1:=rfl
    have e2:∀l:List Int,[(-1:Int)].foldl dec l=l:=fun l=>rfl
    have e3:([(-1:Int)].filter fun n=>decide (n ≠ -1)&&decide (lf (ZJ left row) n=0))=[]:=rfl
    rw[e1,e2,e3,append_nil] at ih'
    rw[hdrop]
    exact ih'
   ·rw[show(n == -1)=false from beq_eq_false_iff_ne.2 h1,cF]
    rcases hr n (by rw[<- hn];exact getElem_mem _) with h2 | ⟨h2,h3⟩
    ·exact absurd h2 h1
    ·have hnt:n∉row.take i:=fun hm=>by
      obtain⟨j,hj⟩:=List.getElem?_of_mem hm
      have hjl:=(gQ hj).1
      rw[length_take] at hjl
      rw[List.getElem?_take,if_pos (by omega)] at hj
      have:=h j i n hj hx h1
      omega
     have hl1:lf ((row.take i).foldl dec left) n=lf left n:=by
      have:=Zl3 (row.take i) left (ZyF h i) (fun m hm=>hr1 m (List.mem_of_mem_take hm)) n h2.1
      rw[if_neg hnt] at this
      exact this
     have hl2:lf (ZJ left row) n=lf left n-1:=by
      have:=Zl3 row left h hr1 n h2.1
      rwa [if_pos (by rw[<- hn];exact getElem_mem _)] at this
     have hin:isN ((row.take i).foldl dec left) n:=⟨h2.1,by rw[Zy8];exact h2.2⟩
     have h1000:lf left n<=1000:=hv _ (mG (ZjB h2.1 h2.2))
     have hdec:((row.take i).foldl dec left).set n.toNat (w64 (lf ((row.take i).foldl dec left) n-1))=dec ((row.take i).foldl dec left) n:=by
      rw[ZA4 h1,ZkD (by rw[hl1];omega) (by rw[hl1];omega)]
     rw[Zkf hin,bS,hdec]
     have hin2:isN (dec ((row.take i).foldl dec left) n) n:=⟨h2.1,by rw[ZqL];exact hin.2⟩
     have hl3:lf (dec ((row.take i).foldl dec left) n) n=lf (ZJ left row) n:=by
      rw[hl2,<- hl1,ZA4 h1,ZCb ⟨hin.1,hin.2⟩ h2.1,if_pos rfl]
     rw[ZrP (c:=⟨(ZH left row).take i++row.drop i,dec ((row.take i).foldl dec left) n⟩) hin2,bS]
     dsimp only
     rw[hl3]
     have e2:∀l:List Int,[n].foldl dec l=dec l n:=fun l=>rfl
     rw[e2] at ih'
     by_cases h4:lf (ZJ left row) n=0
     ·have e1:Zeu left row n = -1:=by unfold Zeu;rw[if_neg h1,if_pos h4]
      have e3:([n].filter fun n=>decide (n ≠ -1)&&decide (lf (ZJ left row) n=0))=[n]:=by
       rw[List.filter_cons_of_pos (by rw[dT h1,dT h4];rfl)];rfl
      have hf8:((row.take i).filter fun n=>decide (n ≠ -1)&&decide (lf (ZJ left row) n=0)).length<=i:=le_trans (List.length_filter_le _ _) (by rw[length_take];omega)
      rw[e1,e3] at ih'
      rw[show(lf (ZJ left row) n==0)=true from beq_iff_eq.2 h4,cT,Zar (show((row.take i).filter fun n=>decide (n ≠ -1)&&decide (lf (ZJ left row) n=0)).length+1<=1073741824 by omega),cT,toNat_natCast,hset]
      exact ih'
     ·have e1:Zeu left row n=n:=by unfold Zeu;rw[if_neg h1,if_neg h4]
      have e3:([n].filter fun n=>decide (n ≠ -1)&&decide (lf (ZJ left row) n=0))=[]:=by
       rw[List.filter_cons_of_neg (by rw[dT h1,dF h4];decide)];rfl
      rw[e1,e3,append_nil] at ih'
      rw[show(lf (ZJ left row) n==0)=false from beq_eq_false_iff_ne.2 h4,cF,hdrop]
      exact ih'
 have:=key row.length 0 (by omega)
 simpa using this
theorem ZnJ {g:Zj} (h:ZM g=0) {left row:List Int} (c:ZaB g left row):∃done,Zg5 g ⟨row,left⟩=some (.inr (ZH left row,ZJ left row,done))/\(∀z,z∈done↔z∈row/\z ≠ -1/\lf (ZJ left row) z=0):=by
 obtain⟨hG,hA⟩:=ZT h
 have hw:=hG.wl
 have ll:=c.ll
 have o8:=c.o8
 have hk:=ZIx left c.ok.one (fun n hn=>(c.ok.run n hn).imp id fun h=>⟨h.1,h.2.1⟩) (by omega) (fun x hx=>(c.ok.rng x hx).2) o8
 obtain⟨r,h1,h2,_⟩:=Zph (row.filter fun n=>decide (n ≠ -1)&&decide (lf (ZJ left row) n=0)) (le_trans (List.length_filter_le _ _) (by omega))
 refine⟨r,?_,fun z=>?_⟩
 ·unfold Zg5
  rw[Zhf h c,bS,show((0:Int) != 0)=false from rfl,cF]
  unfold Zgs
  rw[Zdf (show row.length<=1073741824 by omega),bS,Zdf (show left.length<=1073741824 by omega),bS,bS]
  unfold Zmb
  dsimp only
  rw[hk,bS]
  dsimp only
  rw[h1]
  rfl
 ·rw[h2.mem_iff,List.mem_filter,aT,decide_eq_true_eq,decide_eq_true_eq]
structure PG (m:Nat) (b:Int->Prop) (on:List Int) (ds:List Za) (ts:List Zb) (fs:List Int):Prop where
 dl:ds.length=m
 ring:∀d∈ds,d.ring.length=64
 inv:Inv m b (vw on ds ts fs)
 a0:∀i,i<m->(vw on ds ts fs).a i=0
theorem Inv.congr {m:Nat}{b b':Int->Prop}{V:Zh} (h:∀n,b n↔b' n) (I:Inv m b V):Inv m b' V:=
 ⟨I.pos,⟨fun c k hi=>by obtain⟨h1,h2⟩:=I.items.rdy c k hi;exact⟨(h _).1 h1,h2⟩,I.items.inj,fun n hn ho=>I.items.all n ((h n).2 hn) ho⟩⟩
theorem PG.be {m:Nat}{b:Int->Prop}{on fs:List Int}{ds:List Za}{ts:List Zb} (P:PG m b on ds ts fs) {i:Nat} (hi:i<m):(vw on ds ts fs).be i=(vw on ds ts fs).B i/\(vw on ds ts fs).lo i=(vw on ds ts fs).T i:=by
 have:=P.a0 i hi
 constructor
 ·unfold Zh.be;rw[if_neg (by omega)]
 ·unfold Zh.lo;rw[if_neg (by omega)]
theorem Pos.still {m:Nat}{W:Zh}{i:Nat} (ha:W.a i=0) (hF:W.F i<m) (hO:W.O i ≠ -1->W.F i=0) (h0:0<=W.T i) (h1:W.T i<=W.B i) (h2:W.B i<=64) (rx : -1<=W.x i/\W.x i<=64) (ry : -1<=W.y i/\W.y i<=64):Pos m W i:=by
 have hb:W.be i=W.B i:=by unfold Zh.be;rw[if_neg (by omega)]
 refine⟨hF,fun h=>⟨ha,hO h⟩,by omega,by omega,fun _=>by omega,h0,by omega,by omega,fun _ h=>by omega,fun _ h=>by omega,fun _ h=>by omega,fun _ h=>by omega,fun _ h=>by omega,fun _ h=>by omega,fun _ h=>by omega,rx,ry⟩
theorem ZBB {m c:Nat}{b:Int->Prop}{on fs:List Int}{ds:List Za}{ts:List Zb}{n:Int} (P:PG m b on ds ts fs) (hc:c<m) (h8:m<=8) (hB:(vw on ds ts fs).B c<64) (hnb:¬b n) (hno:∀i,i<m->(vw on ds ts fs).O i≠n) :
  ∃ds',Zax (c:Int) n ds=some (.inl ds')/\PG m (fun x=>b x∨x=n) on ds' ts fs/\∀i,(vw on ds' ts fs).B i=if i=c then (vw on ds ts fs).B c+1 else (vw on ds ts fs).B i:=by
 have hcd:c<ds.length:=by rw[P.dl];exact hc
 have hds:=gE hcd
 generalize hd:ds[c]=d at hds
 have hring:=P.ring d (by rw[<- hd];exact getElem_mem _)
 have p:=P.inv.pos c hc
 have qT:(vw on ds ts fs).T c=d.top:=ZO hds
 have qB:(vw on ds ts fs).B c=d.bottom:=ZO hds
 have qR:(vw on ds ts fs).R c=Zfv d.ring:=ZO hds
 have hbe:=(P.be hc).1
 have p0:=p.T0
 have pTB:=p.TB
 rw[qT] at p0 pTB
 rw[hbe,qB] at pTB
 rw[qB] at hB
 have dok:ZkX d:=⟨hring,p0,by omega,by omega,by omega⟩
 have hpl:=ZzH (k:=d.bottom) (by omega) hB
 have hlt:d.bottom.toNat<d.ring.length:=by rw[hring];omega
 refine⟨ds.set c ⟨d.ring.set d.bottom.toNat n,d.top,d.bottom+1⟩,?_,?_,fun i=>?_⟩
 ·unfold Zax
  rw[Zn hds,bS]
  unfold ZbD
  rw[ZgB dok,bS,show((0:Int) != 0)=false from rfl,cF,dF (show ¬d.bottom<d.top by omega),cF,Zcm (by omega),hring,show(d.bottom-d.top==((64:Nat):Int))=false from beq_eq_false_iff_ne.2 (by omega),cF,Zmm hring,bS,Zh0 hring,bS,ZiD hring,bS,hpl,Zcm (by omega)]
  rfl
 ·
  have eT:(vw on (ds.set c ⟨d.ring.set d.bottom.toNat n,d.top,d.bottom+1⟩) ts fs).T=(vw on ds ts fs).T:=by
   show gt _ _ _=_
   rw[ZbJ hcd]
   exact ZbZ _ _ qT.symm
  have eB:(vw on (ds.set c ⟨d.ring.set d.bottom.toNat n,d.top,d.bottom+1⟩) ts fs).B=upd (vw on ds ts fs).B c (d.bottom+1):=ZbJ hcd
  have eR:(vw on (ds.set c ⟨d.ring.set d.bottom.toNat n,d.top,d.bottom+1⟩) ts fs).R=upd (vw on ds ts fs).R c (Zfv (d.ring.set d.bottom.toNat n)):=ZbJ hcd
  have rA:∀k,0<=k->k<64->Zfv (d.ring.set d.bottom.toNat n) k=if k=d.bottom then n else Zfv d.ring k:=fun k hk0 hk1=>by
   unfold Zfv gt
   rw[ZzH hk0 hk1,List.getElem?_set]
   by_cases e:k=d.bottom
   ·subst e;rw[if_pos rfl,if_pos hlt,if_pos rfl];rfl
   ·rw[if_neg (by omega),if_neg e]
  generalize hW:vw on (ds.set c ⟨d.ring.set d.bottom.toNat n,d.top,d.bottom+1⟩) ts fs=W at eT eB eR
  have oO:W.O=(vw on ds ts fs).O:=by rw[<- hW];rfl
  have oa:W.a=(vw on ds ts fs).a:=by rw[<- hW];rfl
  have ox:W.x=(vw on ds ts fs).x:=by rw[<- hW];rfl
  have oy:W.y=(vw on ds ts fs).y:=by rw[<- hW];rfl
  have oF:W.F=(vw on ds ts fs).F:=by rw[<- hW];rfl
  have wa:∀i,i<m->W.a i=0:=fun i hi=>by rw[oa];exact P.a0 i hi
  have wB:∀i,W.B i=if i=c then d.bottom+1 else (vw on ds ts fs).B i:=fun i=>by rw[eB];rfl
  have wit:∀i k,Item m W i k↔Item m (vw on ds ts fs) i k∨(i=c/\k=d.bottom):=fun i k=>by
   unfold Item
   constructor
   ·rintro ⟨h1,h2,h3⟩
    have e1:W.lo i=W.T i:=by unfold Zh.lo;rw[if_neg (by have:=wa i h1;omega)]
    have e2:W.be i=W.B i:=by unfold Zh.be;rw[if_neg (by have:=wa i h1;omega)]
    rw[e1,eT] at h2
    rw[e2,wB] at h3
    obtain⟨q1,q2⟩:=P.be h1
    by_cases e:i=c
    ·subst e
     rw[if_pos rfl] at h3
     by_cases ek:k=d.bottom
     ·exact .inr ⟨rfl,ek⟩
     ·exact .inl ⟨h1,by rw[q2];exact h2,by rw[q1,qB];omega⟩
    ·rw[if_neg e] at h3
     exact .inl ⟨h1,by rw[q2];exact h2,by rw[q1];exact h3⟩
   ·have back:∀i,i<m->W.lo i=(vw on ds ts fs).T i/\W.be i=W.B i:=fun i h1=>by
     have:=wa i h1
     constructor
     ·unfold Zh.lo;rw[if_neg (by omega),eT]
     ·unfold Zh.be;rw[if_neg (by omega)]
    rintro (⟨h1,h2,h3⟩ | ⟨rfl,rfl⟩)
    ·obtain⟨q1,q2⟩:=P.be h1
     obtain⟨b1,b2⟩:=back i h1
     rw[q2] at h2
     rw[q1] at h3
     refine⟨h1,by rw[b1];exact h2,?_⟩
     rw[b2,wB]
     by_cases e:i=c
     ·subst e;rw[if_pos rfl];rw[qB] at h3;omega
     ·rw[if_neg e];exact h3
    ·obtain⟨b1,b2⟩:=back i hc
     refine⟨hc,by rw[b1,qT];omega,?_⟩
     rw[b2,wB,if_pos rfl];omega
  have wR:∀i k,Item m (vw on ds ts fs) i k->W.R i k=(vw on ds ts fs).R i k:=fun i k hi=>by
   rw[eR]
   by_cases e:i=c
   ·subst e
    rw[Z2,qR]
    obtain⟨q1,q2⟩:=P.be hc
    obtain⟨_,h2,h3⟩:=hi
    rw[q2,qT] at h2
    rw[q1,qB] at h3
    rw[rA k (by omega) (by omega),if_neg (by omega)]
   ·rw[ZuD _ _ e]
  have wn:W.R c d.bottom=n:=by
   rw[eR,Z2,rA d.bottom (by omega) hB,if_pos rfl]
  refine⟨by rw[length_set];exact P.dl,fun x hx=>?_,?_,fun i hi=>by rw[hW];exact wa i hi⟩
  ·rcases ZbX hx with hx | hx
   ·exact P.ring x hx
   ·rw[hx];show(d.ring.set _ _).length=64;rw[length_set];exact hring
  ·rw[hW]
   refine⟨fun i hi=>?_,⟨fun i k hk=>?_,fun i k i' k' h1 h2 h3=>?_,fun x hx ho=>?_⟩⟩
   ·have pi:=P.inv.pos i hi
    have q1:=(P.be hi).1
    have t1:=pi.TB
    have t2:=pi.B64
    rw[q1] at t1 t2
    refine Pos.still (wa i hi) (by rw[oF];exact pi.F) (fun h=>by rw[oF];rw[oO] at h;exact(pi.busy h).2) (by rw[eT];exact pi.T0) ?_ ?_ (by rw[ox];exact pi.rx) (by rw[oy];exact pi.ry)
    ·rw[eT,wB]
     by_cases e:i=c
     ·subst e;rw[if_pos rfl,qT];omega
     ·rw[if_neg e];exact t1
    ·rw[wB]
     by_cases e:i=c
     ·rw[if_pos e];omega
     ·rw[if_neg e];exact t2
   ·rw[oO]
    rcases(wit i k).1 hk with h1 | ⟨rfl,rfl⟩
    ·obtain⟨r1,r2⟩:=P.inv.items.rdy i k h1
     rw[wR i k h1]
     exact⟨.inl r1,r2⟩
    ·rw[wn]
     exact⟨.inr rfl,hno⟩
   ·rcases(wit i k).1 h1 with h1 | ⟨rfl,rfl⟩
    ·rcases(wit i' k').1 h2 with h2 | ⟨rfl,rfl⟩
     ·rw[wR i k h1,wR i' k' h2] at h3
      exact P.inv.items.inj i k i' k' h1 h2 h3
     ·rw[wn,wR i k h1] at h3
      exact absurd (h3 ▸ (P.inv.items.rdy i k h1).1) hnb
    ·rcases(wit i' k').1 h2 with h2 | ⟨rfl,rfl⟩
     ·rw[wn,wR i' k' h2] at h3
      exact absurd (h3 ▸ (P.inv.items.rdy i' k' h2).1) hnb
     ·exact⟨rfl,rfl⟩
   ·rw[oO] at ho
    rcases hx with hx | rfl
    ·obtain⟨i,k,h1,h2⟩:=P.inv.items.all x hx ho
     exact⟨i,k,(wit i k).2 (.inl h1),by rw[wR i k h1];exact h2⟩
    ·exact⟨c,d.bottom,(wit c d.bottom).2 (.inr ⟨rfl,rfl⟩),wn⟩
 ·show gt _ _ _ _=_
  rw[ZbJ hcd]
  unfold upd
  rw[qB]
  rfl
end Go.Proofs.YtgcfmiajkbbmeaaGreat
