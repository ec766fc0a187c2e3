/- AdmitPlans: part 4 of 4 of the proof: the row and the card of the law, out of what the evaluator says of it; without conditions. -/
import Derived.Test.YtmnglncebfabpaaGreatDoorZAdmitPlansc
import Derived.KernelRfl
import Derived.Sort.AssemblyPlain
import Derived.Test.YtmnglncebfabpaaGreatDoorRows
import Derived.Test.YtmnglncebfabpaaGreatDoorCards
import Derived.Test.YtmnglncebfabpaaGreatDoorTie
import Derived.WalkKit
import Derived.ProofKit
import Derived.OpenShut
import Derived.ShutString
import Derived.ChangeOld
import Derived.Below
import Derived.SizedLaws
import Derived.Handed
import Derived.LaidMore
import Derived.Stop.Joined
import Derived.ChangeShapes
import Derived.Carry
import Derived.SevenTiedAt
set_option maxRecDepth 100000
set_option maxHeartbeats 40000000
set_option linter.unusedVariables false
set_option linter.unusedSimpArgs false
namespace Go.Proofs.YtmnglncebfabpaaGreatDoor
open Go Go.Proofs.YtmnglncebfabpaaGreatDoorE
open Go.IntKind (u64 i64 u32 i32 u8)
abbrev LI:=List Int
noncomputable section
structure Za where
 total:Int
 long:Int
 most:Int
 deadline:Int
 period:Int
 deriving DecidableEq
abbrev Zf (x:Za):D:=(D.agg [(ZY x.total),(ZY x.long),(ZY x.most),(ZY x.deadline),(ZY x.period)])
structure Zq where
 shapes:(List Za)
 cores:(List LI)
 deriving DecidableEq
abbrev Zyv (x:Zq):D:=(D.agg [(D.list true (List.map Zf x.shapes)),(D.list true (List.map (ZP true) x.cores))])
structure Zv7 where
 work:LI
 edges:(List ZmR)
 deriving DecidableEq
structure Zni where
 shape:Za
 deriving DecidableEq
structure ZcP where
 cores:Int
 e:Int
 deriving DecidableEq
structure ZjJ where
 shape:Za
 deriving DecidableEq
def ZnZ:ByteArray:=zT1
def Zb8:Option Bool:=some true
def Zc8 (a:Int):Option Int:=bif (decide (a<0)) then some 10 else bif (decide (1099511627775<a)) then some 11 else some 0
abbrev oc0 (a:Int):Int:=(u64.wrap (Ze a &&& Ze 6148914691236517205).toNat)
abbrev oc1 (a:Int):Int:=(u64.wrap (Ze (Int.fdiv a (2 ^ 1)) &&& Ze 6148914691236517205).toNat)
abbrev oc2 (a:Int):Int:=(u64.wrap ((oc1 a)+(oc0 a)))
abbrev oc3 (a:Int):Int:=(Int.fdiv (oc2 a) (2 ^ 2))
abbrev oc4 (a:Int):Int:=(u64.wrap (Ze (oc3 a) &&& Ze 3689348814741910323).toNat)
abbrev oc5 (a:Int):Int:=(u64.wrap (Ze (oc2 a) &&& Ze 3689348814741910323).toNat)
abbrev oc6 (a:Int):Int:=(u64.wrap ((oc4 a)+(oc5 a)))
abbrev oc7 (a:Int):Int:=(Int.fdiv (oc6 a) (2 ^ 4))
abbrev oc8 (a:Int):Int:=(u64.wrap ((oc7 a)+(oc6 a)))
abbrev oc9 (a:Int):Int:=(u64.wrap (Ze (oc8 a) &&& Ze 1085102592571150095).toNat)
abbrev ZzM (a:Int):Int:=(Int.fdiv (oc9 a) (2 ^ 8))
abbrev Zx5 (a:Int):Int:=(u64.wrap ((oc9 a)+(ZzM a)))
abbrev Zzw (a:Int):Int:=(Int.fdiv (Zx5 a) (2 ^ 16))
abbrev ZxD (a:Int):Int:=(u64.wrap ((Zx5 a)+(Zzw a)))
def ZaH (a:Int):Option Int:=some (i64.wrap (ZuL (w64 (u64.wrap ((ZxD a)+(Int.fdiv (ZxD a) (2 ^ 32))))) &&& ZuL 127).toNat)
def Zba (a:Int):Option Int:=(ZaH a).bind fun x0=>some x0
def ZnP:LI:=[0,1,56,2,57,49,28,3,61,58,42,50,38,29,17,4,62,47,59,36,45,43,51,22,53,39,33,30,24,18,12,5,63,55,48,27,60,41,37,16,46,35,44,21,52,32,23,11,54,26,40,15,34,20,31,10,25,14,19,9,13,8,7,6]
def ZaT (a:Int):Option Int:=some (bif a==0 then 64 else w64 (ZnP.getD (Int.fdiv (u64.wrap ((u64.wrap (Ze a &&& Ze (u64.wrap (0-a))).toNat)*285870213051353865)) (2 ^ (min (Int.toNat 58) u64.bits))).toNat 0))
def Zbj (a:Int):Option Int:=(ZaT a).bind fun x0=>some x0
def Zhw (a:Int):Option (Int×Bool):=(Zc8 a).bind fun x0=>bif (x0 != 0) then some (0,false) else (Zba (u64.wrap a)).bind fun x1=>bif (x1 != 1) then some (0,false) else (Zbj (u64.wrap a)).bind fun x2=>some (x2,true)
def Zae (a:LI) (b s0:Int):Option (Int⊕(Int⊕Unit)):=bif (decide (s0<(a.length:Int))) then (Zj a s0).bind fun x1=>bif (b==x1) then some (.inr (.inl s0)) else some (.inl (w64 (s0+1))) else some (.inr (.inr ()))
def ZbA (a:LI) (b:Int):Option Int:=(lp (Zae a b) 0).bind fun r2=>match r2 with | (.inl r2)=>some r2 | (.inr r2)=>some (-1)
def Zu (a:LI) (b:Int):Option Bool:=(ZbA a b).bind fun x0=>bif (decide (0<=x0)) then some true else some false
def Zz (a:LI) (b:(Int->Option Bool)) (s0:Int):Option (Int⊕(Int⊕Unit)):=bif (decide (s0<(a.length:Int))) then (Zj a s0).bind fun x1=>(b x1).bind fun x2=>bif x2 then some (.inr (.inl s0)) else some (.inl (w64 (s0+1))) else some (.inr (.inr ()))
def ZaL (a:LI) (b:(Int->Option Bool)):Option Int:=(lp (Zz a b) 0).bind fun r3=>match r3 with | (.inl r3)=>some r3 | (.inr r3)=>some (-1)
def Zjh (a:Int):Option Int:=bif (decide (4294967296<=a)) then bif (decide (65536<=(Int.fdiv a (2 ^ 32)))) then bif (decide (256<=(Int.fdiv (Int.fdiv a (2 ^ 32)) (2 ^ 16)))) then bif (decide (0<=(u8.wrap (Int.fdiv (Int.fdiv (Int.fdiv a (2 ^ 32)) (2 ^ 16)) (2 ^ 8))))) then (ZnZ[(u8.wrap (Int.fdiv (Int.fdiv (Int.fdiv a (2 ^ 32)) (2 ^ 16)) (2 ^ 8))).toNat]?).bind fun x0=>some (w64 (56+(w64 (x0.toNat:Int)))) else none else bif (decide (0<=(u8.wrap (Int.fdiv (Int.fdiv a (2 ^ 32)) (2 ^ 16))))) then (ZnZ[(u8.wrap (Int.fdiv (Int.fdiv a (2 ^ 32)) (2 ^ 16))).toNat]?).bind fun x1=>some (w64 (48+(w64 (x1.toNat:Int)))) else none else bif (decide (256<=(Int.fdiv a (2 ^ 32)))) then bif (decide (0<=(u8.wrap (Int.fdiv (Int.fdiv a (2 ^ 32)) (2 ^ 8))))) then (ZnZ[(u8.wrap (Int.fdiv (Int.fdiv a (2 ^ 32)) (2 ^ 8))).toNat]?).bind fun x2=>some (w64 (40+(w64 (x2.toNat:Int)))) else none else bif (decide (0<=(u8.wrap (Int.fdiv a (2 ^ 32))))) then (ZnZ[(u8.wrap (Int.fdiv a (2 ^ 32))).toNat]?).bind fun x3=>some (w64 (32+(w64 (x3.toNat:Int)))) else none else bif (decide (65536<=a)) then bif (decide (256<=(Int.fdiv a (2 ^ 16)))) then bif (decide (0<=(u8.wrap (Int.fdiv (Int.fdiv a (2 ^ 16)) (2 ^ 8))))) then (ZnZ[(u8.wrap (Int.fdiv (Int.fdiv a (2 ^ 16)) (2 ^ 8))).toNat]?).bind fun x4=>some (w64 (24+(w64 (x4.toNat:Int)))) else none else bif (decide (0<=(u8.wrap (Int.fdiv a (2 ^ 16))))) then (ZnZ[(u8.wrap (Int.fdiv a (2 ^ 16))).toNat]?).bind fun x5=>some (w64 (16+(w64 (x5.toNat:Int)))) else none else bif (decide (256<=a)) then bif (decide (0<=(u8.wrap (Int.fdiv a (2 ^ 8))))) then (ZnZ[(u8.wrap (Int.fdiv a (2 ^ 8))).toNat]?).bind fun x6=>some (w64 (8+(w64 (x6.toNat:Int)))) else none else bif (decide (0<=(u8.wrap a))) then (ZnZ[(u8.wrap a).toNat]?).bind fun x7=>some (w64 (0+(w64 (x7.toNat:Int)))) else none
def Zkz (a:Int):Option Int:=(Zjh a).bind fun x0=>some x0
def ZcG (b:Int) (d:(Int->Int->Option Int)) (s1:Int×LI):Option ((Int×LI)⊕LI):=bif (decide (b<s1.1)) then (Zj s1.2 s1.1).bind fun x2=>(Zj s1.2 (w64 (s1.1-1))).bind fun x3=>(d x2 x3).bind fun x4=>bif (decide (x4<0)) then (Zj (List.set s1.2 s1.1.toNat x3) (w64 (s1.1-1))).bind fun x5=>some (.inl ((w64 (s1.1-1)),(List.set (List.set s1.2 s1.1.toNat x3) (w64 (s1.1-1)).toNat x2))) else some (.inr s1.2) else some (.inr s1.2)
def ZcF (b c:Int) (d:(Int->Int->Option Int)) (s0:Int×LI):Option ((Int×LI)⊕LI):=bif (decide (s0.1<c)) then (lp (ZcG b d) (s0.1,s0.2)).bind fun r6=>some (.inl ((w64 (s0.1+1)),r6)) else some (.inr s0.2)
def ZR (b c:Int) (d:(Int->Int->Option Int)) (mA:LI):Option LI:=(lp (ZcF b c d) ((w64 (b+1)),mA)).bind fun r7=>some r7
def Zdy (c d:Int) (e:(Int->Int->Option Int)) (s0:Int×LI):Option ((Int×LI)⊕(LI⊕LI)):=bif (decide (c<=(w64 ((w64 (2*s0.1))+1)))) then some (.inr (.inl s0.2)) else bif (decide ((w64 ((w64 ((w64 (2*s0.1))+1))+1))<c)) then (Zj s0.2 (w64 (d+(w64 ((w64 (2*s0.1))+1))))).bind fun x1=>(Zj s0.2 (w64 ((w64 (d+(w64 ((w64 (2*s0.1))+1))))+1))).bind fun x2=>(e x1 x2).bind fun x3=>bif (decide (x3<0)) then (Zj s0.2 (w64 (d+s0.1))).bind fun x4=>(Zj s0.2 (w64 (d+(w64 ((w64 ((w64 (2*s0.1))+1))+1))))).bind fun x5=>(e x4 x5).bind fun x6=>bif (decide (x6<0)) then (Zj (List.set s0.2 (w64 (d+s0.1)).toNat x5) (w64 (d+(w64 ((w64 ((w64 (2*s0.1))+1))+1))))).bind fun x7=>some (.inl ((w64 ((w64 ((w64 (2*s0.1))+1))+1)),(List.set (List.set s0.2 (w64 (d+s0.1)).toNat x5) (w64 (d+(w64 ((w64 ((w64 (2*s0.1))+1))+1)))).toNat x4))) else some (.inr (.inr s0.2)) else (Zj s0.2 (w64 (d+s0.1))).bind fun x8=>(e x8 x1).bind fun x9=>bif (decide (x9<0)) then (Zj (List.set s0.2 (w64 (d+s0.1)).toNat x1) (w64 (d+(w64 ((w64 (2*s0.1))+1))))).bind fun x10=>some (.inl ((w64 ((w64 (2*s0.1))+1)),(List.set (List.set s0.2 (w64 (d+s0.1)).toNat x1) (w64 (d+(w64 ((w64 (2*s0.1))+1)))).toNat x8))) else some (.inr (.inr s0.2)) else (Zj s0.2 (w64 (d+s0.1))).bind fun x11=>(Zj s0.2 (w64 (d+(w64 ((w64 (2*s0.1))+1))))).bind fun x12=>(e x11 x12).bind fun x13=>bif (decide (x13<0)) then (Zj (List.set s0.2 (w64 (d+s0.1)).toNat x12) (w64 (d+(w64 ((w64 (2*s0.1))+1))))).bind fun x14=>some (.inl ((w64 ((w64 (2*s0.1))+1)),(List.set (List.set s0.2 (w64 (d+s0.1)).toNat x12) (w64 (d+(w64 ((w64 (2*s0.1))+1)))).toNat x11))) else some (.inr (.inr s0.2))
def ZbW (b c d:Int) (e:(Int->Int->Option Int)) (mA:LI):Option LI:=(lp (Zdy c d e) (b,mA)).bind fun r15=>match r15 with | (.inl r15)=>some r15 | (.inr r15)=>some r15
def Zdw (b c:Int) (d:(Int->Int->Option Int)) (s0:Int×LI):Option ((Int×LI)⊕LI):=bif (decide (0<=s0.1)) then (ZbW s0.1 (w64 (c-b)) b d s0.2).bind fun x1=>some (.inl ((w64 (s0.1-1)),x1)) else some (.inr s0.2)
def ZdA (b:Int) (d:(Int->Int->Option Int)) (s3:Int×LI):Option ((Int×LI)⊕LI):=bif (decide (0<=s3.1)) then (Zj s3.2 (w64 (b+s3.1))).bind fun x4=>(Zj s3.2 b).bind fun x5=>(Zj (List.set s3.2 b.toNat x4) (w64 (b+s3.1))).bind fun x6=>(ZbW 0 s3.1 b d (List.set (List.set s3.2 b.toNat x4) (w64 (b+s3.1)).toNat x5)).bind fun x7=>some (.inl ((w64 (s3.1-1)),x7)) else some (.inr s3.2)
def Zaa (b c:Int) (d:(Int->Int->Option Int)) (mA:LI):Option LI:=(lp (Zdw b c d) ((w64 (Int.tdiv (w64 ((w64 (c-b))-1)) 2)),mA)).bind fun r2=>(lp (ZdA b d) ((w64 ((w64 (c-b))-1)),r2)).bind fun r8=>some r8
def Za6 (b c:Int) (e:(Int->Int->Option Int)) (mA:LI) (mB:Int):Option (Int×Int×Int):=(Zj mA c).bind fun x0=>(Zj mA b).bind fun x1=>(e x0 x1).bind fun x2=>bif (decide (x2<0)) then some (c,b,(w64 (mB+1))) else some (b,c,mB)
def Za4 (b c d:Int) (f:(Int->Int->Option Int)) (mA:LI) (mB:Int):Option (Int×Int):=(Za6 b c f mA mB).bind fun x0=>(Za6 x0.2.1 d f mA x0.2.2).bind fun x1=>(Za6 x0.1 x1.1 f mA x1.2.2).bind fun x2=>some (x2.2.1,x2.2.2)
def Zab (b:Int) (d:(Int->Int->Option Int)) (mA:LI) (mB:Int):Option (Int×Int):=(Za4 (w64 (b-1)) b (w64 (b+1)) d mA mB).bind fun x0=>some (x0.1,x0.2)
def ZX (b c:Int) (d:(Int->Int->Option Int)) (mA:LI):Option (Int×Int):=bif (decide (8<=(w64 (c-b)))) then bif (decide (50<=(w64 (c-b)))) then (Zab (w64 (b+(w64 ((w64 (Int.tdiv (w64 (c-b)) 4))*1)))) d mA 0).bind fun x0=>(Zab (w64 (b+(w64 ((w64 (Int.tdiv (w64 (c-b)) 4))*2)))) d mA x0.2).bind fun x1=>(Zab (w64 (b+(w64 ((w64 (Int.tdiv (w64 (c-b)) 4))*3)))) d mA x1.2).bind fun x2=>(Za4 x0.1 x1.1 x2.1 d mA x2.2).bind fun x3=>bif (x3.2==0) then some (x3.1,1) else bif (x3.2==12) then some (x3.1,2) else some (x3.1,0) else (Za4 (w64 (b+(w64 ((w64 (Int.tdiv (w64 (c-b)) 4))*1)))) (w64 (b+(w64 ((w64 (Int.tdiv (w64 (c-b)) 4))*2)))) (w64 (b+(w64 ((w64 (Int.tdiv (w64 (c-b)) 4))*3)))) d mA 0).bind fun x4=>bif (x4.2==0) then some (x4.1,1) else bif (x4.2==12) then some (x4.1,2) else some (x4.1,0) else some ((w64 (b+(w64 ((w64 (Int.tdiv (w64 (c-b)) 4))*2)))),1)
def ZcM (s0:Int×Int×LI):Option ((Int×Int×LI)⊕LI):=bif (decide (s0.1<s0.2.1)) then (Zj s0.2.2 s0.2.1).bind fun x1=>(Zj s0.2.2 s0.1).bind fun x2=>(Zj (List.set s0.2.2 s0.1.toNat x1) s0.2.1).bind fun x3=>some (.inl ((w64 (s0.1+1)),(w64 (s0.2.1-1)),(List.set (List.set s0.2.2 s0.1.toNat x1) s0.2.1.toNat x2))) else some (.inr s0.2.2)
def ZU (b c:Int) (d:(Int->Int->Option Int)) (mA:LI):Option LI:=(lp (ZcM) (b,(w64 (c-1)),mA)).bind fun r4=>some r4
def ZbL (c:Int) (d:(Int->Int->Option Int)) (s0:Int×Int×LI) (s1:Int):Option (Int⊕Int):=bif (decide (s1<c)) then (Zj s0.2.2 s1).bind fun x2=>(Zj s0.2.2 (w64 (s1-1))).bind fun x3=>(d x2 x3).bind fun x4=>bif (decide (x4<0)) then some (.inr s1) else some (.inl (w64 (s1+1))) else some (.inr s1)
def ZbK (d:(Int->Int->Option Int)) (s9:Int×LI):Option ((Int×LI)⊕LI):=bif (decide (1<=s9.1)) then (Zj s9.2 s9.1).bind fun x10=>(Zj s9.2 (w64 (s9.1-1))).bind fun x11=>(d x10 x11).bind fun x12=>bif (decide (x12<0)) then (Zj (List.set s9.2 s9.1.toNat x11) (w64 (s9.1-1))).bind fun x13=>some (.inl ((w64 (s9.1-1)),(List.set (List.set s9.2 s9.1.toNat x11) (w64 (s9.1-1)).toNat x10))) else some (.inr s9.2) else some (.inr s9.2)
def Zaf (c:Int) (d:(Int->Int->Option Int)) (s15:Int×LI):Option ((Int×LI)⊕LI):=bif (decide (s15.1<c)) then (Zj s15.2 s15.1).bind fun x16=>(Zj s15.2 (w64 (s15.1-1))).bind fun x17=>(d x16 x17).bind fun x18=>bif (decide (x18<0)) then (Zj (List.set s15.2 s15.1.toNat x17) (w64 (s15.1-1))).bind fun x19=>some (.inl ((w64 (s15.1+1)),(List.set (List.set s15.2 s15.1.toNat x17) (w64 (s15.1-1)).toNat x16))) else some (.inr s15.2) else some (.inr s15.2)
def ZbJ (b c:Int) (d:(Int->Int->Option Int)) (s0:Int×Int×LI):Option ((Int×Int×LI)⊕(LI⊕(LI⊕LI))):=bif (decide (s0.2.1<5)) then (lp (ZbL c d s0) s0.1).bind fun r5=>bif (r5==c) then some (.inr (.inl s0.2.2)) else bif (decide ((w64 (c-b))<50)) then some (.inr (.inr (.inl s0.2.2))) else (Zj s0.2.2 (w64 (r5-1))).bind fun x6=>(Zj s0.2.2 r5).bind fun x7=>(Zj (List.set s0.2.2 r5.toNat x6) (w64 (r5-1))).bind fun x8=>bif (decide (2<=(w64 (r5-b)))) then (lp (ZbK d) ((w64 (r5-1)),(List.set (List.set s0.2.2 r5.toNat x6) (w64 (r5-1)).toNat x7))).bind fun r14=>bif (decide (2<=(w64 (c-r5)))) then (lp (Zaf c d) ((w64 (r5+1)),r14)).bind fun r20=>some (.inl (r5,(w64 (s0.2.1+1)),r20)) else some (.inl (r5,(w64 (s0.2.1+1)),r14)) else bif (decide (2<=(w64 (c-r5)))) then (lp (Zaf c d) ((w64 (r5+1)),(List.set (List.set s0.2.2 r5.toNat x6) (w64 (r5-1)).toNat x7))).bind fun r26=>some (.inl (r5,(w64 (s0.2.1+1)),r26)) else some (.inl (r5,(w64 (s0.2.1+1)),(List.set (List.set s0.2.2 r5.toNat x6) (w64 (r5-1)).toNat x7))) else some (.inr (.inr (.inr s0.2.2)))
def Zao (b c:Int) (d:(Int->Int->Option Int)) (mA:LI):Option (LI⊕LI):=(lp (ZbJ b c d) ((w64 (b+1)),0,mA)).bind fun r27=>match r27 with | (.inl r27)=>some (.inl r27) | (.inr (.inl r27))=>some (.inr r27) | (.inr (.inr r27))=>some (.inr r27)
def Zdn (b c d:Int) (mA:LI) (e:(Int->Int->Option Int)) (x0 x1 s3:Int):Option (Int⊕Int):=bif (decide (s3<=(w64 (c-1)))) then (Zj (List.set (List.set mA b.toNat x0) d.toNat x1) s3).bind fun x4=>(Zj (List.set (List.set mA b.toNat x0) d.toNat x1) b).bind fun x5=>(e x4 x5).bind fun x6=>bif (decide (x6<0)) then some (.inl (w64 (s3+1))) else some (.inr s3) else some (.inr s3)
def Zdm (b d:Int) (mA:LI) (e:(Int->Int->Option Int)) (x0 x1 r7 s8:Int):Option (Int⊕Int):=bif (decide (r7<=s8)) then (Zj (List.set (List.set mA b.toNat x0) d.toNat x1) s8).bind fun x9=>(Zj (List.set (List.set mA b.toNat x0) d.toNat x1) b).bind fun x10=>(e x9 x10).bind fun x11=>bif (decide (x11<0)) then some (.inr s8) else some (.inl (w64 (s8-1))) else some (.inr s8)
def Zdo (b:Int) (e:(Int->Int->Option Int)) (s19:Int×Int×LI) (s20:Int):Option (Int⊕Int):=bif (decide (s20<=s19.2.1)) then (Zj s19.2.2 s20).bind fun x21=>(Zj s19.2.2 b).bind fun x22=>(e x21 x22).bind fun x23=>bif (decide (x23<0)) then some (.inl (w64 (s20+1))) else some (.inr s20) else some (.inr s20)
def Zdf (b:Int) (e:(Int->Int->Option Int)) (s19:Int×Int×LI) (r24 s25:Int):Option (Int⊕Int):=bif (decide (r24<=s25)) then (Zj s19.2.2 s25).bind fun x26=>(Zj s19.2.2 b).bind fun x27=>(e x26 x27).bind fun x28=>bif (decide (x28<0)) then some (.inr s25) else some (.inl (w64 (s25-1))) else some (.inr s25)
def Zdu (b:Int) (e:(Int->Int->Option Int)) (s19:Int×Int×LI):Option ((Int×Int×LI)⊕(Int×LI)):=(lp (Zdo b e s19) s19.1).bind fun r24=>(lp (Zdf b e s19 r24) s19.2.1).bind fun r29=>bif (decide (r29<r24)) then some (.inr (r29,s19.2.2)) else (Zj s19.2.2 r29).bind fun x30=>(Zj s19.2.2 r24).bind fun x31=>(Zj (List.set s19.2.2 r24.toNat x30) r29).bind fun x32=>some (.inl ((w64 (r24+1)),(w64 (r29-1)),(List.set (List.set s19.2.2 r24.toNat x30) r29.toNat x31)))
def Zd (b c d:Int) (e:(Int->Int->Option Int)) (mA:LI):Option ((Int×LI)⊕(Int×LI)):=(Zj mA d).bind fun x0=>(Zj mA b).bind fun x1=>(Zj (List.set mA b.toNat x0) d).bind fun x2=>(lp (Zdn b c d mA e x0 x1) (w64 (b+1))).bind fun r7=>(lp (Zdm b d mA e x0 x1 r7) (w64 (c-1))).bind fun r12=>bif (decide (r12<r7)) then (Zj (List.set (List.set mA b.toNat x0) d.toNat x1) b).bind fun x13=>(Zj (List.set (List.set mA b.toNat x0) d.toNat x1) r12).bind fun x14=>(Zj (List.set (List.set (List.set mA b.toNat x0) d.toNat x1) r12.toNat x13) b).bind fun x15=>some (.inl (r12,(List.set (List.set (List.set (List.set mA b.toNat x0) d.toNat x1) r12.toNat x13) b.toNat x14))) else (Zj (List.set (List.set mA b.toNat x0) d.toNat x1) r12).bind fun x16=>(Zj (List.set (List.set mA b.toNat x0) d.toNat x1) r7).bind fun x17=>(Zj (List.set (List.set (List.set mA b.toNat x0) d.toNat x1) r7.toNat x16) r12).bind fun x18=>(lp (Zdu b e) ((w64 (r7+1)),(w64 (r12-1)),(List.set (List.set (List.set (List.set mA b.toNat x0) d.toNat x1) r7.toNat x16) r12.toNat x17))).bind fun r33=>(Zj r33.2 b).bind fun x34=>(Zj r33.2 r33.1).bind fun x35=>(Zj (List.set r33.2 r33.1.toNat x34) b).bind fun x36=>some (.inr (r33.1,(List.set (List.set r33.2 r33.1.toNat x34) b.toNat x35)))
def Zct (b:Int) (e:(Int->Int->Option Int)) (s3:Int×Int×LI) (s4:Int):Option (Int⊕Int):=bif (decide (s4<=s3.2.1)) then (Zj s3.2.2 b).bind fun x5=>(Zj s3.2.2 s4).bind fun x6=>(e x5 x6).bind fun x7=>bif (decide (x7<0)) then some (.inr s4) else some (.inl (w64 (s4+1))) else some (.inr s4)
def Zcw (b:Int) (e:(Int->Int->Option Int)) (s3:Int×Int×LI) (r8 s9:Int):Option (Int⊕Int):=bif (decide (r8<=s9)) then (Zj s3.2.2 b).bind fun x10=>(Zj s3.2.2 s9).bind fun x11=>(e x10 x11).bind fun x12=>bif (decide (x12<0)) then some (.inl (w64 (s9-1))) else some (.inr s9) else some (.inr s9)
def Zcs (b:Int) (e:(Int->Int->Option Int)) (s3:Int×Int×LI):Option ((Int×Int×LI)⊕(Int×LI)):=(lp (Zct b e s3) s3.1).bind fun r8=>(lp (Zcw b e s3 r8) s3.2.1).bind fun r13=>bif (decide (r13<r8)) then some (.inr (r8,s3.2.2)) else (Zj s3.2.2 r13).bind fun x14=>(Zj s3.2.2 r8).bind fun x15=>(Zj (List.set s3.2.2 r8.toNat x14) r13).bind fun x16=>some (.inl ((w64 (r8+1)),(w64 (r13-1)),(List.set (List.set s3.2.2 r8.toNat x14) r13.toNat x15)))
def Zo (b c d:Int) (e:(Int->Int->Option Int)) (mA:LI):Option (Int×LI):=(Zj mA d).bind fun x0=>(Zj mA b).bind fun x1=>(Zj (List.set mA b.toNat x0) d).bind fun x2=>(lp (Zcs b e) ((w64 (b+1)),(w64 (c-1)),(List.set (List.set mA b.toNat x0) d.toNat x1))).bind fun r17=>some (r17.1,r17.2)
def Zf2 (a:Int):Option Int:=(Zkz (u64.wrap a)).bind fun x0=>bif (decide (x0<0)) then none else some (u64.wrap (1*2 ^ (min (x0).toNat u64.bits)))
def Zgn:Option Unit:=some ()
def ZcH (b c x0:Int) (s1:Int×LI×Int):Option ((Int×LI×Int)⊕LI):=bif (decide (s1.1<=(w64 ((w64 (b+(w64 ((w64 (Int.tdiv (w64 (c-b)) 4))*2))))+1)))) then Zgn.bind fun x2=>bif (decide ((w64 (c-b))<=(w64 (u64.wrap (Ze (u64.wrap (Ze (u64.wrap (Ze (u64.wrap (Ze s1.2.2 ^^^ Ze (u64.wrap (s1.2.2*2 ^ 13))).toNat) ^^^ Ze (Int.fdiv (u64.wrap (Ze s1.2.2 ^^^ Ze (u64.wrap (s1.2.2*2 ^ 13))).toNat) (2 ^ 7))).toNat) ^^^ Ze (u64.wrap ((u64.wrap (Ze (u64.wrap (Ze s1.2.2 ^^^ Ze (u64.wrap (s1.2.2*2 ^ 13))).toNat) ^^^ Ze (Int.fdiv (u64.wrap (Ze s1.2.2 ^^^ Ze (u64.wrap (s1.2.2*2 ^ 13))).toNat) (2 ^ 7))).toNat)*2 ^ 17))).toNat) &&& Ze (u64.wrap (x0-1))).toNat)))) then (Zj s1.2.1 (w64 (b+(w64 ((w64 (u64.wrap (Ze (u64.wrap (Ze (u64.wrap (Ze (u64.wrap (Ze s1.2.2 ^^^ Ze (u64.wrap (s1.2.2*2 ^ 13))).toNat) ^^^ Ze (Int.fdiv (u64.wrap (Ze s1.2.2 ^^^ Ze (u64.wrap (s1.2.2*2 ^ 13))).toNat) (2 ^ 7))).toNat) ^^^ Ze (u64.wrap ((u64.wrap (Ze (u64.wrap (Ze s1.2.2 ^^^ Ze (u64.wrap (s1.2.2*2 ^ 13))).toNat) ^^^ Ze (Int.fdiv (u64.wrap (Ze s1.2.2 ^^^ Ze (u64.wrap (s1.2.2*2 ^ 13))).toNat) (2 ^ 7))).toNat)*2 ^ 17))).toNat) &&& Ze (u64.wrap (x0-1))).toNat))-(w64 (c-b))))))).bind fun x3=>(Zj s1.2.1 s1.1).bind fun x4=>(Zj (List.set s1.2.1 s1.1.toNat x3) (w64 (b+(w64 ((w64 (u64.wrap (Ze (u64.wrap (Ze (u64.wrap (Ze (u64.wrap (Ze s1.2.2 ^^^ Ze (u64.wrap (s1.2.2*2 ^ 13))).toNat) ^^^ Ze (Int.fdiv (u64.wrap (Ze s1.2.2 ^^^ Ze (u64.wrap (s1.2.2*2 ^ 13))).toNat) (2 ^ 7))).toNat) ^^^ Ze (u64.wrap ((u64.wrap (Ze (u64.wrap (Ze s1.2.2 ^^^ Ze (u64.wrap (s1.2.2*2 ^ 13))).toNat) ^^^ Ze (Int.fdiv (u64.wrap (Ze s1.2.2 ^^^ Ze (u64.wrap (s1.2.2*2 ^ 13))).toNat) (2 ^ 7))).toNat)*2 ^ 17))).toNat) &&& Ze (u64.wrap (x0-1))).toNat))-(w64 (c-b))))))).bind fun x5=>some (.inl ((w64 (s1.1+1)),(List.set (List.set s1.2.1 s1.1.toNat x3) (w64 (b+(w64 ((w64 (u64.wrap (Ze (u64.wrap (Ze (u64.wrap (Ze (u64.wrap (Ze s1.2.2 ^^^ Ze (u64.wrap (s1.2.2*2 ^ 13))).toNat) ^^^ Ze (Int.fdiv (u64.wrap (Ze s1.2.2 ^^^ Ze (u64.wrap (s1.2.2*2 ^ 13))).toNat) (2 ^ 7))).toNat) ^^^ Ze (u64.wrap ((u64.wrap (Ze (u64.wrap (Ze s1.2.2 ^^^ Ze (u64.wrap (s1.2.2*2 ^ 13))).toNat) ^^^ Ze (Int.fdiv (u64.wrap (Ze s1.2.2 ^^^ Ze (u64.wrap (s1.2.2*2 ^ 13))).toNat) (2 ^ 7))).toNat)*2 ^ 17))).toNat) &&& Ze (u64.wrap (x0-1))).toNat))-(w64 (c-b)))))).toNat x4),(u64.wrap (Ze (u64.wrap (Ze (u64.wrap (Ze s1.2.2 ^^^ Ze (u64.wrap (s1.2.2*2 ^ 13))).toNat) ^^^ Ze (Int.fdiv (u64.wrap (Ze s1.2.2 ^^^ Ze (u64.wrap (s1.2.2*2 ^ 13))).toNat) (2 ^ 7))).toNat) ^^^ Ze (u64.wrap ((u64.wrap (Ze (u64.wrap (Ze s1.2.2 ^^^ Ze (u64.wrap (s1.2.2*2 ^ 13))).toNat) ^^^ Ze (Int.fdiv (u64.wrap (Ze s1.2.2 ^^^ Ze (u64.wrap (s1.2.2*2 ^ 13))).toNat) (2 ^ 7))).toNat)*2 ^ 17))).toNat))) else (Zj s1.2.1 (w64 (b+(w64 (u64.wrap (Ze (u64.wrap (Ze (u64.wrap (Ze (u64.wrap (Ze s1.2.2 ^^^ Ze (u64.wrap (s1.2.2*2 ^ 13))).toNat) ^^^ Ze (Int.fdiv (u64.wrap (Ze s1.2.2 ^^^ Ze (u64.wrap (s1.2.2*2 ^ 13))).toNat) (2 ^ 7))).toNat) ^^^ Ze (u64.wrap ((u64.wrap (Ze (u64.wrap (Ze s1.2.2 ^^^ Ze (u64.wrap (s1.2.2*2 ^ 13))).toNat) ^^^ Ze (Int.fdiv (u64.wrap (Ze s1.2.2 ^^^ Ze (u64.wrap (s1.2.2*2 ^ 13))).toNat) (2 ^ 7))).toNat)*2 ^ 17))).toNat) &&& Ze (u64.wrap (x0-1))).toNat))))).bind fun x6=>(Zj s1.2.1 s1.1).bind fun x7=>(Zj (List.set s1.2.1 s1.1.toNat x6) (w64 (b+(w64 (u64.wrap (Ze (u64.wrap (Ze (u64.wrap (Ze (u64.wrap (Ze s1.2.2 ^^^ Ze (u64.wrap (s1.2.2*2 ^ 13))).toNat) ^^^ Ze (Int.fdiv (u64.wrap (Ze s1.2.2 ^^^ Ze (u64.wrap (s1.2.2*2 ^ 13))).toNat) (2 ^ 7))).toNat) ^^^ Ze (u64.wrap ((u64.wrap (Ze (u64.wrap (Ze s1.2.2 ^^^ Ze (u64.wrap (s1.2.2*2 ^ 13))).toNat) ^^^ Ze (Int.fdiv (u64.wrap (Ze s1.2.2 ^^^ Ze (u64.wrap (s1.2.2*2 ^ 13))).toNat) (2 ^ 7))).toNat)*2 ^ 17))).toNat) &&& Ze (u64.wrap (x0-1))).toNat))))).bind fun x8=>some (.inl ((w64 (s1.1+1)),(List.set (List.set s1.2.1 s1.1.toNat x6) (w64 (b+(w64 (u64.wrap (Ze (u64.wrap (Ze (u64.wrap (Ze (u64.wrap (Ze s1.2.2 ^^^ Ze (u64.wrap (s1.2.2*2 ^ 13))).toNat) ^^^ Ze (Int.fdiv (u64.wrap (Ze s1.2.2 ^^^ Ze (u64.wrap (s1.2.2*2 ^ 13))).toNat) (2 ^ 7))).toNat) ^^^ Ze (u64.wrap ((u64.wrap (Ze (u64.wrap (Ze s1.2.2 ^^^ Ze (u64.wrap (s1.2.2*2 ^ 13))).toNat) ^^^ Ze (Int.fdiv (u64.wrap (Ze s1.2.2 ^^^ Ze (u64.wrap (s1.2.2*2 ^ 13))).toNat) (2 ^ 7))).toNat)*2 ^ 17))).toNat) &&& Ze (u64.wrap (x0-1))).toNat)))).toNat x7),(u64.wrap (Ze (u64.wrap (Ze (u64.wrap (Ze s1.2.2 ^^^ Ze (u64.wrap (s1.2.2*2 ^ 13))).toNat) ^^^ Ze (Int.fdiv (u64.wrap (Ze s1.2.2 ^^^ Ze (u64.wrap (s1.2.2*2 ^ 13))).toNat) (2 ^ 7))).toNat) ^^^ Ze (u64.wrap ((u64.wrap (Ze (u64.wrap (Ze s1.2.2 ^^^ Ze (u64.wrap (s1.2.2*2 ^ 13))).toNat) ^^^ Ze (Int.fdiv (u64.wrap (Ze s1.2.2 ^^^ Ze (u64.wrap (s1.2.2*2 ^ 13))).toNat) (2 ^ 7))).toNat)*2 ^ 17))).toNat))) else some (.inr s1.2.1)
def Zbf (b c:Int) (d:(Int->Int->Option Int)) (mA:LI):Option LI:=bif (decide (8<=(w64 (c-b)))) then (Zf2 (w64 (c-b))).bind fun x0=>(lp (ZcH b c x0) ((w64 ((w64 (b+(w64 ((w64 (Int.tdiv (w64 (c-b)) 4))*2))))-1)),mA,(u64.wrap (w64 (c-b))))).bind fun r9=>some r9 else some mA
def ZdK (e:(Int->Int->Option Int)) (rc:Int->Int->Int->(Int->Int->Option Int)->LI->Option LI) (s0:Int×Int×Int×Bool×Bool×LI):Option ((Int×Int×Int×Bool×Bool×LI)⊕LI):=bif s0.2.2.2.1 then bif s0.2.2.2.2.1 then bif (decide ((w64 (s0.2.1-s0.1))<=12)) then (ZR s0.1 s0.2.1 e s0.2.2.2.2.2).bind fun x1=>some (.inr x1) else bif (s0.2.2.1==0) then (Zaa s0.1 s0.2.1 e s0.2.2.2.2.2).bind fun x2=>some (.inr x2) else (ZX s0.1 s0.2.1 e s0.2.2.2.2.2).bind fun x3=>bif (x3.2==2) then (ZU s0.1 s0.2.1 e s0.2.2.2.2.2).bind fun x4=>(Zao s0.1 s0.2.1 e x4).bind fun x5=>match x5 with | (.inl x5)=>some (.inr x5) | (.inr x5)=>bif (decide (0<s0.1)) then (Zj x5 (w64 (s0.1-1))).bind fun x6=>(Zj x5 (w64 ((w64 (s0.2.1-1))-(w64 (x3.1-s0.1))))).bind fun x7=>(e x6 x7).bind fun x8=>bif (decide (x8<0)) then (Zd s0.1 s0.2.1 (w64 ((w64 (s0.2.1-1))-(w64 (x3.1-s0.1)))) e x5).bind fun x9=>match x9 with | (.inl x9)=>bif (decide ((w64 (x9.1-s0.1))<(w64 (s0.2.1-x9.1)))) then bif (decide ((w64 (Int.tdiv (w64 (s0.2.1-s0.1)) 8))<=(w64 (x9.1-s0.1)))) then (rc s0.1 x9.1 s0.2.2.1 e x9.2).bind fun x10=>some (.inl ((w64 (x9.1+1)),s0.2.1,s0.2.2.1,true,true,x10)) else (rc s0.1 x9.1 s0.2.2.1 e x9.2).bind fun x11=>some (.inl ((w64 (x9.1+1)),s0.2.1,s0.2.2.1,false,true,x11)) else bif (decide ((w64 (Int.tdiv (w64 (s0.2.1-s0.1)) 8))<=(w64 (s0.2.1-x9.1)))) then (rc (w64 (x9.1+1)) s0.2.1 s0.2.2.1 e x9.2).bind fun x12=>some (.inl (s0.1,x9.1,s0.2.2.1,true,true,x12)) else (rc (w64 (x9.1+1)) s0.2.1 s0.2.2.1 e x9.2).bind fun x13=>some (.inl (s0.1,x9.1,s0.2.2.1,false,true,x13)) | (.inr x9)=>bif (decide ((w64 (x9.1-s0.1))<(w64 (s0.2.1-x9.1)))) then bif (decide ((w64 (Int.tdiv (w64 (s0.2.1-s0.1)) 8))<=(w64 (x9.1-s0.1)))) then (rc s0.1 x9.1 s0.2.2.1 e x9.2).bind fun x14=>some (.inl ((w64 (x9.1+1)),s0.2.1,s0.2.2.1,true,false,x14)) else (rc s0.1 x9.1 s0.2.2.1 e x9.2).bind fun x15=>some (.inl ((w64 (x9.1+1)),s0.2.1,s0.2.2.1,false,false,x15)) else bif (decide ((w64 (Int.tdiv (w64 (s0.2.1-s0.1)) 8))<=(w64 (s0.2.1-x9.1)))) then (rc (w64 (x9.1+1)) s0.2.1 s0.2.2.1 e x9.2).bind fun x16=>some (.inl (s0.1,x9.1,s0.2.2.1,true,false,x16)) else (rc (w64 (x9.1+1)) s0.2.1 s0.2.2.1 e x9.2).bind fun x17=>some (.inl (s0.1,x9.1,s0.2.2.1,false,false,x17)) else (Zo s0.1 s0.2.1 (w64 ((w64 (s0.2.1-1))-(w64 (x3.1-s0.1)))) e x5).bind fun x18=>some (.inl (x18.1,s0.2.1,s0.2.2.1,true,true,x18.2)) else (Zd s0.1 s0.2.1 (w64 ((w64 (s0.2.1-1))-(w64 (x3.1-s0.1)))) e x5).bind fun x19=>match x19 with | (.inl x19)=>bif (decide ((w64 (x19.1-s0.1))<(w64 (s0.2.1-x19.1)))) then bif (decide ((w64 (Int.tdiv (w64 (s0.2.1-s0.1)) 8))<=(w64 (x19.1-s0.1)))) then (rc s0.1 x19.1 s0.2.2.1 e x19.2).bind fun x20=>some (.inl ((w64 (x19.1+1)),s0.2.1,s0.2.2.1,true,true,x20)) else (rc s0.1 x19.1 s0.2.2.1 e x19.2).bind fun x21=>some (.inl ((w64 (x19.1+1)),s0.2.1,s0.2.2.1,false,true,x21)) else bif (decide ((w64 (Int.tdiv (w64 (s0.2.1-s0.1)) 8))<=(w64 (s0.2.1-x19.1)))) then (rc (w64 (x19.1+1)) s0.2.1 s0.2.2.1 e x19.2).bind fun x22=>some (.inl (s0.1,x19.1,s0.2.2.1,true,true,x22)) else (rc (w64 (x19.1+1)) s0.2.1 s0.2.2.1 e x19.2).bind fun x23=>some (.inl (s0.1,x19.1,s0.2.2.1,false,true,x23)) | (.inr x19)=>bif (decide ((w64 (x19.1-s0.1))<(w64 (s0.2.1-x19.1)))) then bif (decide ((w64 (Int.tdiv (w64 (s0.2.1-s0.1)) 8))<=(w64 (x19.1-s0.1)))) then (rc s0.1 x19.1 s0.2.2.1 e x19.2).bind fun x24=>some (.inl ((w64 (x19.1+1)),s0.2.1,s0.2.2.1,true,false,x24)) else (rc s0.1 x19.1 s0.2.2.1 e x19.2).bind fun x25=>some (.inl ((w64 (x19.1+1)),s0.2.1,s0.2.2.1,false,false,x25)) else bif (decide ((w64 (Int.tdiv (w64 (s0.2.1-s0.1)) 8))<=(w64 (s0.2.1-x19.1)))) then (rc (w64 (x19.1+1)) s0.2.1 s0.2.2.1 e x19.2).bind fun x26=>some (.inl (s0.1,x19.1,s0.2.2.1,true,false,x26)) else (rc (w64 (x19.1+1)) s0.2.1 s0.2.2.1 e x19.2).bind fun x27=>some (.inl (s0.1,x19.1,s0.2.2.1,false,false,x27)) else bif (x3.2==1) then (Zao s0.1 s0.2.1 e s0.2.2.2.2.2).bind fun x28=>match x28 with | (.inl x28)=>some (.inr x28) | (.inr x28)=>bif (decide (0<s0.1)) then (Zj x28 (w64 (s0.1-1))).bind fun x29=>(Zj x28 x3.1).bind fun x30=>(e x29 x30).bind fun x31=>bif (decide (x31<0)) then (Zd s0.1 s0.2.1 x3.1 e x28).bind fun x32=>match x32 with | (.inl x32)=>bif (decide ((w64 (x32.1-s0.1))<(w64 (s0.2.1-x32.1)))) then bif (decide ((w64 (Int.tdiv (w64 (s0.2.1-s0.1)) 8))<=(w64 (x32.1-s0.1)))) then (rc s0.1 x32.1 s0.2.2.1 e x32.2).bind fun x33=>some (.inl ((w64 (x32.1+1)),s0.2.1,s0.2.2.1,true,true,x33)) else (rc s0.1 x32.1 s0.2.2.1 e x32.2).bind fun x34=>some (.inl ((w64 (x32.1+1)),s0.2.1,s0.2.2.1,false,true,x34)) else bif (decide ((w64 (Int.tdiv (w64 (s0.2.1-s0.1)) 8))<=(w64 (s0.2.1-x32.1)))) then (rc (w64 (x32.1+1)) s0.2.1 s0.2.2.1 e x32.2).bind fun x35=>some (.inl (s0.1,x32.1,s0.2.2.1,true,true,x35)) else (rc (w64 (x32.1+1)) s0.2.1 s0.2.2.1 e x32.2).bind fun x36=>some (.inl (s0.1,x32.1,s0.2.2.1,false,true,x36)) | (.inr x32)=>bif (decide ((w64 (x32.1-s0.1))<(w64 (s0.2.1-x32.1)))) then bif (decide ((w64 (Int.tdiv (w64 (s0.2.1-s0.1)) 8))<=(w64 (x32.1-s0.1)))) then (rc s0.1 x32.1 s0.2.2.1 e x32.2).bind fun x37=>some (.inl ((w64 (x32.1+1)),s0.2.1,s0.2.2.1,true,false,x37)) else (rc s0.1 x32.1 s0.2.2.1 e x32.2).bind fun x38=>some (.inl ((w64 (x32.1+1)),s0.2.1,s0.2.2.1,false,false,x38)) else bif (decide ((w64 (Int.tdiv (w64 (s0.2.1-s0.1)) 8))<=(w64 (s0.2.1-x32.1)))) then (rc (w64 (x32.1+1)) s0.2.1 s0.2.2.1 e x32.2).bind fun x39=>some (.inl (s0.1,x32.1,s0.2.2.1,true,false,x39)) else (rc (w64 (x32.1+1)) s0.2.1 s0.2.2.1 e x32.2).bind fun x40=>some (.inl (s0.1,x32.1,s0.2.2.1,false,false,x40)) else (Zo s0.1 s0.2.1 x3.1 e x28).bind fun x41=>some (.inl (x41.1,s0.2.1,s0.2.2.1,true,true,x41.2)) else (Zd s0.1 s0.2.1 x3.1 e x28).bind fun x42=>match x42 with | (.inl x42)=>bif (decide ((w64 (x42.1-s0.1))<(w64 (s0.2.1-x42.1)))) then bif (decide ((w64 (Int.tdiv (w64 (s0.2.1-s0.1)) 8))<=(w64 (x42.1-s0.1)))) then (rc s0.1 x42.1 s0.2.2.1 e x42.2).bind fun x43=>some (.inl ((w64 (x42.1+1)),s0.2.1,s0.2.2.1,true,true,x43)) else (rc s0.1 x42.1 s0.2.2.1 e x42.2).bind fun x44=>some (.inl ((w64 (x42.1+1)),s0.2.1,s0.2.2.1,false,true,x44)) else bif (decide ((w64 (Int.tdiv (w64 (s0.2.1-s0.1)) 8))<=(w64 (s0.2.1-x42.1)))) then (rc (w64 (x42.1+1)) s0.2.1 s0.2.2.1 e x42.2).bind fun x45=>some (.inl (s0.1,x42.1,s0.2.2.1,true,true,x45)) else (rc (w64 (x42.1+1)) s0.2.1 s0.2.2.1 e x42.2).bind fun x46=>some (.inl (s0.1,x42.1,s0.2.2.1,false,true,x46)) | (.inr x42)=>bif (decide ((w64 (x42.1-s0.1))<(w64 (s0.2.1-x42.1)))) then bif (decide ((w64 (Int.tdiv (w64 (s0.2.1-s0.1)) 8))<=(w64 (x42.1-s0.1)))) then (rc s0.1 x42.1 s0.2.2.1 e x42.2).bind fun x47=>some (.inl ((w64 (x42.1+1)),s0.2.1,s0.2.2.1,true,false,x47)) else (rc s0.1 x42.1 s0.2.2.1 e x42.2).bind fun x48=>some (.inl ((w64 (x42.1+1)),s0.2.1,s0.2.2.1,false,false,x48)) else bif (decide ((w64 (Int.tdiv (w64 (s0.2.1-s0.1)) 8))<=(w64 (s0.2.1-x42.1)))) then (rc (w64 (x42.1+1)) s0.2.1 s0.2.2.1 e x42.2).bind fun x49=>some (.inl (s0.1,x42.1,s0.2.2.1,true,false,x49)) else (rc (w64 (x42.1+1)) s0.2.1 s0.2.2.1 e x42.2).bind fun x50=>some (.inl (s0.1,x42.1,s0.2.2.1,false,false,x50)) else bif (decide (0<s0.1)) then (Zj s0.2.2.2.2.2 (w64 (s0.1-1))).bind fun x51=>(Zj s0.2.2.2.2.2 x3.1).bind fun x52=>(e x51 x52).bind fun x53=>bif (decide (x53<0)) then (Zd s0.1 s0.2.1 x3.1 e s0.2.2.2.2.2).bind fun x54=>match x54 with | (.inl x54)=>bif (decide ((w64 (x54.1-s0.1))<(w64 (s0.2.1-x54.1)))) then bif (decide ((w64 (Int.tdiv (w64 (s0.2.1-s0.1)) 8))<=(w64 (x54.1-s0.1)))) then (rc s0.1 x54.1 s0.2.2.1 e x54.2).bind fun x55=>some (.inl ((w64 (x54.1+1)),s0.2.1,s0.2.2.1,true,true,x55)) else (rc s0.1 x54.1 s0.2.2.1 e x54.2).bind fun x56=>some (.inl ((w64 (x54.1+1)),s0.2.1,s0.2.2.1,false,true,x56)) else bif (decide ((w64 (Int.tdiv (w64 (s0.2.1-s0.1)) 8))<=(w64 (s0.2.1-x54.1)))) then (rc (w64 (x54.1+1)) s0.2.1 s0.2.2.1 e x54.2).bind fun x57=>some (.inl (s0.1,x54.1,s0.2.2.1,true,true,x57)) else (rc (w64 (x54.1+1)) s0.2.1 s0.2.2.1 e x54.2).bind fun x58=>some (.inl (s0.1,x54.1,s0.2.2.1,false,true,x58)) | (.inr x54)=>bif (decide ((w64 (x54.1-s0.1))<(w64 (s0.2.1-x54.1)))) then bif (decide ((w64 (Int.tdiv (w64 (s0.2.1-s0.1)) 8))<=(w64 (x54.1-s0.1)))) then (rc s0.1 x54.1 s0.2.2.1 e x54.2).bind fun x59=>some (.inl ((w64 (x54.1+1)),s0.2.1,s0.2.2.1,true,false,x59)) else (rc s0.1 x54.1 s0.2.2.1 e x54.2).bind fun x60=>some (.inl ((w64 (x54.1+1)),s0.2.1,s0.2.2.1,false,false,x60)) else bif (decide ((w64 (Int.tdiv (w64 (s0.2.1-s0.1)) 8))<=(w64 (s0.2.1-x54.1)))) then (rc (w64 (x54.1+1)) s0.2.1 s0.2.2.1 e x54.2).bind fun x61=>some (.inl (s0.1,x54.1,s0.2.2.1,true,false,x61)) else (rc (w64 (x54.1+1)) s0.2.1 s0.2.2.1 e x54.2).bind fun x62=>some (.inl (s0.1,x54.1,s0.2.2.1,false,false,x62)) else (Zo s0.1 s0.2.1 x3.1 e s0.2.2.2.2.2).bind fun x63=>some (.inl (x63.1,s0.2.1,s0.2.2.1,true,true,x63.2)) else (Zd s0.1 s0.2.1 x3.1 e s0.2.2.2.2.2).bind fun x64=>match x64 with | (.inl x64)=>bif (decide ((w64 (x64.1-s0.1))<(w64 (s0.2.1-x64.1)))) then bif (decide ((w64 (Int.tdiv (w64 (s0.2.1-s0.1)) 8))<=(w64 (x64.1-s0.1)))) then (rc s0.1 x64.1 s0.2.2.1 e x64.2).bind fun x65=>some (.inl ((w64 (x64.1+1)),s0.2.1,s0.2.2.1,true,true,x65)) else (rc s0.1 x64.1 s0.2.2.1 e x64.2).bind fun x66=>some (.inl ((w64 (x64.1+1)),s0.2.1,s0.2.2.1,false,true,x66)) else bif (decide ((w64 (Int.tdiv (w64 (s0.2.1-s0.1)) 8))<=(w64 (s0.2.1-x64.1)))) then (rc (w64 (x64.1+1)) s0.2.1 s0.2.2.1 e x64.2).bind fun x67=>some (.inl (s0.1,x64.1,s0.2.2.1,true,true,x67)) else (rc (w64 (x64.1+1)) s0.2.1 s0.2.2.1 e x64.2).bind fun x68=>some (.inl (s0.1,x64.1,s0.2.2.1,false,true,x68)) | (.inr x64)=>bif (decide ((w64 (x64.1-s0.1))<(w64 (s0.2.1-x64.1)))) then bif (decide ((w64 (Int.tdiv (w64 (s0.2.1-s0.1)) 8))<=(w64 (x64.1-s0.1)))) then (rc s0.1 x64.1 s0.2.2.1 e x64.2).bind fun x69=>some (.inl ((w64 (x64.1+1)),s0.2.1,s0.2.2.1,true,false,x69)) else (rc s0.1 x64.1 s0.2.2.1 e x64.2).bind fun x70=>some (.inl ((w64 (x64.1+1)),s0.2.1,s0.2.2.1,false,false,x70)) else bif (decide ((w64 (Int.tdiv (w64 (s0.2.1-s0.1)) 8))<=(w64 (s0.2.1-x64.1)))) then (rc (w64 (x64.1+1)) s0.2.1 s0.2.2.1 e x64.2).bind fun x71=>some (.inl (s0.1,x64.1,s0.2.2.1,true,false,x71)) else (rc (w64 (x64.1+1)) s0.2.1 s0.2.2.1 e x64.2).bind fun x72=>some (.inl (s0.1,x64.1,s0.2.2.1,false,false,x72)) else bif (decide ((w64 (s0.2.1-s0.1))<=12)) then (ZR s0.1 s0.2.1 e s0.2.2.2.2.2).bind fun x73=>some (.inr x73) else bif (s0.2.2.1==0) then (Zaa s0.1 s0.2.1 e s0.2.2.2.2.2).bind fun x74=>some (.inr x74) else (ZX s0.1 s0.2.1 e s0.2.2.2.2.2).bind fun x75=>bif (x75.2==2) then (ZU s0.1 s0.2.1 e s0.2.2.2.2.2).bind fun x76=>bif (decide (0<s0.1)) then (Zj x76 (w64 (s0.1-1))).bind fun x77=>(Zj x76 (w64 ((w64 (s0.2.1-1))-(w64 (x75.1-s0.1))))).bind fun x78=>(e x77 x78).bind fun x79=>bif (decide (x79<0)) then (Zd s0.1 s0.2.1 (w64 ((w64 (s0.2.1-1))-(w64 (x75.1-s0.1)))) e x76).bind fun x80=>match x80 with | (.inl x80)=>bif (decide ((w64 (x80.1-s0.1))<(w64 (s0.2.1-x80.1)))) then bif (decide ((w64 (Int.tdiv (w64 (s0.2.1-s0.1)) 8))<=(w64 (x80.1-s0.1)))) then (rc s0.1 x80.1 s0.2.2.1 e x80.2).bind fun x81=>some (.inl ((w64 (x80.1+1)),s0.2.1,s0.2.2.1,true,true,x81)) else (rc s0.1 x80.1 s0.2.2.1 e x80.2).bind fun x82=>some (.inl ((w64 (x80.1+1)),s0.2.1,s0.2.2.1,false,true,x82)) else bif (decide ((w64 (Int.tdiv (w64 (s0.2.1-s0.1)) 8))<=(w64 (s0.2.1-x80.1)))) then (rc (w64 (x80.1+1)) s0.2.1 s0.2.2.1 e x80.2).bind fun x83=>some (.inl (s0.1,x80.1,s0.2.2.1,true,true,x83)) else (rc (w64 (x80.1+1)) s0.2.1 s0.2.2.1 e x80.2).bind fun x84=>some (.inl (s0.1,x80.1,s0.2.2.1,false,true,x84)) | (.inr x80)=>bif (decide ((w64 (x80.1-s0.1))<(w64 (s0.2.1-x80.1)))) then bif (decide ((w64 (Int.tdiv (w64 (s0.2.1-s0.1)) 8))<=(w64 (x80.1-s0.1)))) then (rc s0.1 x80.1 s0.2.2.1 e x80.2).bind fun x85=>some (.inl ((w64 (x80.1+1)),s0.2.1,s0.2.2.1,true,false,x85)) else (rc s0.1 x80.1 s0.2.2.1 e x80.2).bind fun x86=>some (.inl ((w64 (x80.1+1)),s0.2.1,s0.2.2.1,false,false,x86)) else bif (decide ((w64 (Int.tdiv (w64 (s0.2.1-s0.1)) 8))<=(w64 (s0.2.1-x80.1)))) then (rc (w64 (x80.1+1)) s0.2.1 s0.2.2.1 e x80.2).bind fun x87=>some (.inl (s0.1,x80.1,s0.2.2.1,true,false,x87)) else (rc (w64 (x80.1+1)) s0.2.1 s0.2.2.1 e x80.2).bind fun x88=>some (.inl (s0.1,x80.1,s0.2.2.1,false,false,x88)) else (Zo s0.1 s0.2.1 (w64 ((w64 (s0.2.1-1))-(w64 (x75.1-s0.1)))) e x76).bind fun x89=>some (.inl (x89.1,s0.2.1,s0.2.2.1,true,false,x89.2)) else (Zd s0.1 s0.2.1 (w64 ((w64 (s0.2.1-1))-(w64 (x75.1-s0.1)))) e x76).bind fun x90=>match x90 with | (.inl x90)=>bif (decide ((w64 (x90.1-s0.1))<(w64 (s0.2.1-x90.1)))) then bif (decide ((w64 (Int.tdiv (w64 (s0.2.1-s0.1)) 8))<=(w64 (x90.1-s0.1)))) then (rc s0.1 x90.1 s0.2.2.1 e x90.2).bind fun x91=>some (.inl ((w64 (x90.1+1)),s0.2.1,s0.2.2.1,true,true,x91)) else (rc s0.1 x90.1 s0.2.2.1 e x90.2).bind fun x92=>some (.inl ((w64 (x90.1+1)),s0.2.1,s0.2.2.1,false,true,x92)) else bif (decide ((w64 (Int.tdiv (w64 (s0.2.1-s0.1)) 8))<=(w64 (s0.2.1-x90.1)))) then (rc (w64 (x90.1+1)) s0.2.1 s0.2.2.1 e x90.2).bind fun x93=>some (.inl (s0.1,x90.1,s0.2.2.1,true,true,x93)) else (rc (w64 (x90.1+1)) s0.2.1 s0.2.2.1 e x90.2).bind fun x94=>some (.inl (s0.1,x90.1,s0.2.2.1,false,true,x94)) | (.inr x90)=>bif (decide ((w64 (x90.1-s0.1))<(w64 (s0.2.1-x90.1)))) then bif (decide ((w64 (Int.tdiv (w64 (s0.2.1-s0.1)) 8))<=(w64 (x90.1-s0.1)))) then (rc s0.1 x90.1 s0.2.2.1 e x90.2).bind fun x95=>some (.inl ((w64 (x90.1+1)),s0.2.1,s0.2.2.1,true,false,x95)) else (rc s0.1 x90.1 s0.2.2.1 e x90.2).bind fun x96=>some (.inl ((w64 (x90.1+1)),s0.2.1,s0.2.2.1,false,false,x96)) else bif (decide ((w64 (Int.tdiv (w64 (s0.2.1-s0.1)) 8))<=(w64 (s0.2.1-x90.1)))) then (rc (w64 (x90.1+1)) s0.2.1 s0.2.2.1 e x90.2).bind fun x97=>some (.inl (s0.1,x90.1,s0.2.2.1,true,false,x97)) else (rc (w64 (x90.1+1)) s0.2.1 s0.2.2.1 e x90.2).bind fun x98=>some (.inl (s0.1,x90.1,s0.2.2.1,false,false,x98)) else bif (decide (0<s0.1)) then (Zj s0.2.2.2.2.2 (w64 (s0.1-1))).bind fun x99=>(Zj s0.2.2.2.2.2 x75.1).bind fun x100=>(e x99 x100).bind fun x101=>bif (decide (x101<0)) then (Zd s0.1 s0.2.1 x75.1 e s0.2.2.2.2.2).bind fun x102=>match x102 with | (.inl x102)=>bif (decide ((w64 (x102.1-s0.1))<(w64 (s0.2.1-x102.1)))) then bif (decide ((w64 (Int.tdiv (w64 (s0.2.1-s0.1)) 8))<=(w64 (x102.1-s0.1)))) then (rc s0.1 x102.1 s0.2.2.1 e x102.2).bind fun x103=>some (.inl ((w64 (x102.1+1)),s0.2.1,s0.2.2.1,true,true,x103)) else (rc s0.1 x102.1 s0.2.2.1 e x102.2).bind fun x104=>some (.inl ((w64 (x102.1+1)),s0.2.1,s0.2.2.1,false,true,x104)) else bif (decide ((w64 (Int.tdiv (w64 (s0.2.1-s0.1)) 8))<=(w64 (s0.2.1-x102.1)))) then (rc (w64 (x102.1+1)) s0.2.1 s0.2.2.1 e x102.2).bind fun x105=>some (.inl (s0.1,x102.1,s0.2.2.1,true,true,x105)) else (rc (w64 (x102.1+1)) s0.2.1 s0.2.2.1 e x102.2).bind fun x106=>some (.inl (s0.1,x102.1,s0.2.2.1,false,true,x106)) | (.inr x102)=>bif (decide ((w64 (x102.1-s0.1))<(w64 (s0.2.1-x102.1)))) then bif (decide ((w64 (Int.tdiv (w64 (s0.2.1-s0.1)) 8))<=(w64 (x102.1-s0.1)))) then (rc s0.1 x102.1 s0.2.2.1 e x102.2).bind fun x107=>some (.inl ((w64 (x102.1+1)),s0.2.1,s0.2.2.1,true,false,x107)) else (rc s0.1 x102.1 s0.2.2.1 e x102.2).bind fun x108=>some (.inl ((w64 (x102.1+1)),s0.2.1,s0.2.2.1,false,false,x108)) else bif (decide ((w64 (Int.tdiv (w64 (s0.2.1-s0.1)) 8))<=(w64 (s0.2.1-x102.1)))) then (rc (w64 (x102.1+1)) s0.2.1 s0.2.2.1 e x102.2).bind fun x109=>some (.inl (s0.1,x102.1,s0.2.2.1,true,false,x109)) else (rc (w64 (x102.1+1)) s0.2.1 s0.2.2.1 e x102.2).bind fun x110=>some (.inl (s0.1,x102.1,s0.2.2.1,false,false,x110)) else (Zo s0.1 s0.2.1 x75.1 e s0.2.2.2.2.2).bind fun x111=>some (.inl (x111.1,s0.2.1,s0.2.2.1,true,false,x111.2)) else (Zd s0.1 s0.2.1 x75.1 e s0.2.2.2.2.2).bind fun x112=>match x112 with | (.inl x112)=>bif (decide ((w64 (x112.1-s0.1))<(w64 (s0.2.1-x112.1)))) then bif (decide ((w64 (Int.tdiv (w64 (s0.2.1-s0.1)) 8))<=(w64 (x112.1-s0.1)))) then (rc s0.1 x112.1 s0.2.2.1 e x112.2).bind fun x113=>some (.inl ((w64 (x112.1+1)),s0.2.1,s0.2.2.1,true,true,x113)) else (rc s0.1 x112.1 s0.2.2.1 e x112.2).bind fun x114=>some (.inl ((w64 (x112.1+1)),s0.2.1,s0.2.2.1,false,true,x114)) else bif (decide ((w64 (Int.tdiv (w64 (s0.2.1-s0.1)) 8))<=(w64 (s0.2.1-x112.1)))) then (rc (w64 (x112.1+1)) s0.2.1 s0.2.2.1 e x112.2).bind fun x115=>some (.inl (s0.1,x112.1,s0.2.2.1,true,true,x115)) else (rc (w64 (x112.1+1)) s0.2.1 s0.2.2.1 e x112.2).bind fun x116=>some (.inl (s0.1,x112.1,s0.2.2.1,false,true,x116)) | (.inr x112)=>bif (decide ((w64 (x112.1-s0.1))<(w64 (s0.2.1-x112.1)))) then bif (decide ((w64 (Int.tdiv (w64 (s0.2.1-s0.1)) 8))<=(w64 (x112.1-s0.1)))) then (rc s0.1 x112.1 s0.2.2.1 e x112.2).bind fun x117=>some (.inl ((w64 (x112.1+1)),s0.2.1,s0.2.2.1,true,false,x117)) else (rc s0.1 x112.1 s0.2.2.1 e x112.2).bind fun x118=>some (.inl ((w64 (x112.1+1)),s0.2.1,s0.2.2.1,false,false,x118)) else bif (decide ((w64 (Int.tdiv (w64 (s0.2.1-s0.1)) 8))<=(w64 (s0.2.1-x112.1)))) then (rc (w64 (x112.1+1)) s0.2.1 s0.2.2.1 e x112.2).bind fun x119=>some (.inl (s0.1,x112.1,s0.2.2.1,true,false,x119)) else (rc (w64 (x112.1+1)) s0.2.1 s0.2.2.1 e x112.2).bind fun x120=>some (.inl (s0.1,x112.1,s0.2.2.1,false,false,x120)) else bif s0.2.2.2.2.1 then bif (decide ((w64 (s0.2.1-s0.1))<=12)) then (ZR s0.1 s0.2.1 e s0.2.2.2.2.2).bind fun x121=>some (.inr x121) else bif (s0.2.2.1==0) then (Zaa s0.1 s0.2.1 e s0.2.2.2.2.2).bind fun x122=>some (.inr x122) else (Zbf s0.1 s0.2.1 e s0.2.2.2.2.2).bind fun x123=>(ZX s0.1 s0.2.1 e x123).bind fun x124=>bif (x124.2==2) then (ZU s0.1 s0.2.1 e x123).bind fun x125=>bif (decide (0<s0.1)) then (Zj x125 (w64 (s0.1-1))).bind fun x126=>(Zj x125 (w64 ((w64 (s0.2.1-1))-(w64 (x124.1-s0.1))))).bind fun x127=>(e x126 x127).bind fun x128=>bif (decide (x128<0)) then (Zd s0.1 s0.2.1 (w64 ((w64 (s0.2.1-1))-(w64 (x124.1-s0.1)))) e x125).bind fun x129=>match x129 with | (.inl x129)=>bif (decide ((w64 (x129.1-s0.1))<(w64 (s0.2.1-x129.1)))) then bif (decide ((w64 (Int.tdiv (w64 (s0.2.1-s0.1)) 8))<=(w64 (x129.1-s0.1)))) then (rc s0.1 x129.1 (w64 (s0.2.2.1-1)) e x129.2).bind fun x130=>some (.inl ((w64 (x129.1+1)),s0.2.1,(w64 (s0.2.2.1-1)),true,true,x130)) else (rc s0.1 x129.1 (w64 (s0.2.2.1-1)) e x129.2).bind fun x131=>some (.inl ((w64 (x129.1+1)),s0.2.1,(w64 (s0.2.2.1-1)),false,true,x131)) else bif (decide ((w64 (Int.tdiv (w64 (s0.2.1-s0.1)) 8))<=(w64 (s0.2.1-x129.1)))) then (rc (w64 (x129.1+1)) s0.2.1 (w64 (s0.2.2.1-1)) e x129.2).bind fun x132=>some (.inl (s0.1,x129.1,(w64 (s0.2.2.1-1)),true,true,x132)) else (rc (w64 (x129.1+1)) s0.2.1 (w64 (s0.2.2.1-1)) e x129.2).bind fun x133=>some (.inl (s0.1,x129.1,(w64 (s0.2.2.1-1)),false,true,x133)) | (.inr x129)=>bif (decide ((w64 (x129.1-s0.1))<(w64 (s0.2.1-x129.1)))) then bif (decide ((w64 (Int.tdiv (w64 (s0.2.1-s0.1)) 8))<=(w64 (x129.1-s0.1)))) then (rc s0.1 x129.1 (w64 (s0.2.2.1-1)) e x129.2).bind fun x134=>some (.inl ((w64 (x129.1+1)),s0.2.1,(w64 (s0.2.2.1-1)),true,false,x134)) else (rc s0.1 x129.1 (w64 (s0.2.2.1-1)) e x129.2).bind fun x135=>some (.inl ((w64 (x129.1+1)),s0.2.1,(w64 (s0.2.2.1-1)),false,false,x135)) else bif (decide ((w64 (Int.tdiv (w64 (s0.2.1-s0.1)) 8))<=(w64 (s0.2.1-x129.1)))) then (rc (w64 (x129.1+1)) s0.2.1 (w64 (s0.2.2.1-1)) e x129.2).bind fun x136=>some (.inl (s0.1,x129.1,(w64 (s0.2.2.1-1)),true,false,x136)) else (rc (w64 (x129.1+1)) s0.2.1 (w64 (s0.2.2.1-1)) e x129.2).bind fun x137=>some (.inl (s0.1,x129.1,(w64 (s0.2.2.1-1)),false,false,x137)) else (Zo s0.1 s0.2.1 (w64 ((w64 (s0.2.1-1))-(w64 (x124.1-s0.1)))) e x125).bind fun x138=>some (.inl (x138.1,s0.2.1,(w64 (s0.2.2.1-1)),false,true,x138.2)) else (Zd s0.1 s0.2.1 (w64 ((w64 (s0.2.1-1))-(w64 (x124.1-s0.1)))) e x125).bind fun x139=>match x139 with | (.inl x139)=>bif (decide ((w64 (x139.1-s0.1))<(w64 (s0.2.1-x139.1)))) then bif (decide ((w64 (Int.tdiv (w64 (s0.2.1-s0.1)) 8))<=(w64 (x139.1-s0.1)))) then (rc s0.1 x139.1 (w64 (s0.2.2.1-1)) e x139.2).bind fun x140=>some (.inl ((w64 (x139.1+1)),s0.2.1,(w64 (s0.2.2.1-1)),true,true,x140)) else (rc s0.1 x139.1 (w64 (s0.2.2.1-1)) e x139.2).bind fun x141=>some (.inl ((w64 (x139.1+1)),s0.2.1,(w64 (s0.2.2.1-1)),false,true,x141)) else bif (decide ((w64 (Int.tdiv (w64 (s0.2.1-s0.1)) 8))<=(w64 (s0.2.1-x139.1)))) then (rc (w64 (x139.1+1)) s0.2.1 (w64 (s0.2.2.1-1)) e x139.2).bind fun x142=>some (.inl (s0.1,x139.1,(w64 (s0.2.2.1-1)),true,true,x142)) else (rc (w64 (x139.1+1)) s0.2.1 (w64 (s0.2.2.1-1)) e x139.2).bind fun x143=>some (.inl (s0.1,x139.1,(w64 (s0.2.2.1-1)),false,true,x143)) | (.inr x139)=>bif (decide ((w64 (x139.1-s0.1))<(w64 (s0.2.1-x139.1)))) then bif (decide ((w64 (Int.tdiv (w64 (s0.2.1-s0.1)) 8))<=(w64 (x139.1-s0.1)))) then (rc s0.1 x139.1 (w64 (s0.2.2.1-1)) e x139.2).bind fun x144=>some (.inl ((w64 (x139.1+1)),s0.2.1,(w64 (s0.2.2.1-1)),true,false,x144)) else (rc s0.1 x139.1 (w64 (s0.2.2.1-1)) e x139.2).bind fun x145=>some (.inl ((w64 (x139.1+1)),s0.2.1,(w64 (s0.2.2.1-1)),false,false,x145)) else bif (decide ((w64 (Int.tdiv (w64 (s0.2.1-s0.1)) 8))<=(w64 (s0.2.1-x139.1)))) then (rc (w64 (x139.1+1)) s0.2.1 (w64 (s0.2.2.1-1)) e x139.2).bind fun x146=>some (.inl (s0.1,x139.1,(w64 (s0.2.2.1-1)),true,false,x146)) else (rc (w64 (x139.1+1)) s0.2.1 (w64 (s0.2.2.1-1)) e x139.2).bind fun x147=>some (.inl (s0.1,x139.1,(w64 (s0.2.2.1-1)),false,false,x147)) else bif (decide (0<s0.1)) then (Zj x123 (w64 (s0.1-1))).bind fun x148=>(Zj x123 x124.1).bind fun x149=>(e x148 x149).bind fun x150=>bif (decide (x150<0)) then (Zd s0.1 s0.2.1 x124.1 e x123).bind fun x151=>match x151 with | (.inl x151)=>bif (decide ((w64 (x151.1-s0.1))<(w64 (s0.2.1-x151.1)))) then bif (decide ((w64 (Int.tdiv (w64 (s0.2.1-s0.1)) 8))<=(w64 (x151.1-s0.1)))) then (rc s0.1 x151.1 (w64 (s0.2.2.1-1)) e x151.2).bind fun x152=>some (.inl ((w64 (x151.1+1)),s0.2.1,(w64 (s0.2.2.1-1)),true,true,x152)) else (rc s0.1 x151.1 (w64 (s0.2.2.1-1)) e x151.2).bind fun x153=>some (.inl ((w64 (x151.1+1)),s0.2.1,(w64 (s0.2.2.1-1)),false,true,x153)) else bif (decide ((w64 (Int.tdiv (w64 (s0.2.1-s0.1)) 8))<=(w64 (s0.2.1-x151.1)))) then (rc (w64 (x151.1+1)) s0.2.1 (w64 (s0.2.2.1-1)) e x151.2).bind fun x154=>some (.inl (s0.1,x151.1,(w64 (s0.2.2.1-1)),true,true,x154)) else (rc (w64 (x151.1+1)) s0.2.1 (w64 (s0.2.2.1-1)) e x151.2).bind fun x155=>some (.inl (s0.1,x151.1,(w64 (s0.2.2.1-1)),false,true,x155)) | (.inr x151)=>bif (decide ((w64 (x151.1-s0.1))<(w64 (s0.2.1-x151.1)))) then bif (decide ((w64 (Int.tdiv (w64 (s0.2.1-s0.1)) 8))<=(w64 (x151.1-s0.1)))) then (rc s0.1 x151.1 (w64 (s0.2.2.1-1)) e x151.2).bind fun x156=>some (.inl ((w64 (x151.1+1)),s0.2.1,(w64 (s0.2.2.1-1)),true,false,x156)) else (rc s0.1 x151.1 (w64 (s0.2.2.1-1)) e x151.2).bind fun x157=>some (.inl ((w64 (x151.1+1)),s0.2.1,(w64 (s0.2.2.1-1)),false,false,x157)) else bif (decide ((w64 (Int.tdiv (w64 (s0.2.1-s0.1)) 8))<=(w64 (s0.2.1-x151.1)))) then (rc (w64 (x151.1+1)) s0.2.1 (w64 (s0.2.2.1-1)) e x151.2).bind fun x158=>some (.inl (s0.1,x151.1,(w64 (s0.2.2.1-1)),true,false,x158)) else (rc (w64 (x151.1+1)) s0.2.1 (w64 (s0.2.2.1-1)) e x151.2).bind fun x159=>some (.inl (s0.1,x151.1,(w64 (s0.2.2.1-1)),false,false,x159)) else (Zo s0.1 s0.2.1 x124.1 e x123).bind fun x160=>some (.inl (x160.1,s0.2.1,(w64 (s0.2.2.1-1)),false,true,x160.2)) else (Zd s0.1 s0.2.1 x124.1 e x123).bind fun x161=>match x161 with | (.inl x161)=>bif (decide ((w64 (x161.1-s0.1))<(w64 (s0.2.1-x161.1)))) then bif (decide ((w64 (Int.tdiv (w64 (s0.2.1-s0.1)) 8))<=(w64 (x161.1-s0.1)))) then (rc s0.1 x161.1 (w64 (s0.2.2.1-1)) e x161.2).bind fun x162=>some (.inl ((w64 (x161.1+1)),s0.2.1,(w64 (s0.2.2.1-1)),true,true,x162)) else (rc s0.1 x161.1 (w64 (s0.2.2.1-1)) e x161.2).bind fun x163=>some (.inl ((w64 (x161.1+1)),s0.2.1,(w64 (s0.2.2.1-1)),false,true,x163)) else bif (decide ((w64 (Int.tdiv (w64 (s0.2.1-s0.1)) 8))<=(w64 (s0.2.1-x161.1)))) then (rc (w64 (x161.1+1)) s0.2.1 (w64 (s0.2.2.1-1)) e x161.2).bind fun x164=>some (.inl (s0.1,x161.1,(w64 (s0.2.2.1-1)),true,true,x164)) else (rc (w64 (x161.1+1)) s0.2.1 (w64 (s0.2.2.1-1)) e x161.2).bind fun x165=>some (.inl (s0.1,x161.1,(w64 (s0.2.2.1-1)),false,true,x165)) | (.inr x161)=>bif (decide ((w64 (x161.1-s0.1))<(w64 (s0.2.1-x161.1)))) then bif (decide ((w64 (Int.tdiv (w64 (s0.2.1-s0.1)) 8))<=(w64 (x161.1-s0.1)))) then (rc s0.1 x161.1 (w64 (s0.2.2.1-1)) e x161.2).bind fun x166=>some (.inl ((w64 (x161.1+1)),s0.2.1,(w64 (s0.2.2.1-1)),true,false,x166)) else (rc s0.1 x161.1 (w64 (s0.2.2.1-1)) e x161.2).bind fun x167=>some (.inl ((w64 (x161.1+1)),s0.2.1,(w64 (s0.2.2.1-1)),false,false,x167)) else bif (decide ((w64 (Int.tdiv (w64 (s0.2.1-s0.1)) 8))<=(w64 (s0.2.1-x161.1)))) then (rc (w64 (x161.1+1)) s0.2.1 (w64 (s0.2.2.1-1)) e x161.2).bind fun x168=>some (.inl (s0.1,x161.1,(w64 (s0.2.2.1-1)),true,false,x168)) else (rc (w64 (x161.1+1)) s0.2.1 (w64 (s0.2.2.1-1)) e x161.2).bind fun x169=>some (.inl (s0.1,x161.1,(w64 (s0.2.2.1-1)),false,false,x169)) else bif (decide ((w64 (s0.2.1-s0.1))<=12)) then (ZR s0.1 s0.2.1 e s0.2.2.2.2.2).bind fun x170=>some (.inr x170) else bif (s0.2.2.1==0) then (Zaa s0.1 s0.2.1 e s0.2.2.2.2.2).bind fun x171=>some (.inr x171) else (Zbf s0.1 s0.2.1 e s0.2.2.2.2.2).bind fun x172=>(ZX s0.1 s0.2.1 e x172).bind fun x173=>bif (x173.2==2) then (ZU s0.1 s0.2.1 e x172).bind fun x174=>bif (decide (0<s0.1)) then (Zj x174 (w64 (s0.1-1))).bind fun x175=>(Zj x174 (w64 ((w64 (s0.2.1-1))-(w64 (x173.1-s0.1))))).bind fun x176=>(e x175 x176).bind fun x177=>bif (decide (x177<0)) then (Zd s0.1 s0.2.1 (w64 ((w64 (s0.2.1-1))-(w64 (x173.1-s0.1)))) e x174).bind fun x178=>match x178 with | (.inl x178)=>bif (decide ((w64 (x178.1-s0.1))<(w64 (s0.2.1-x178.1)))) then bif (decide ((w64 (Int.tdiv (w64 (s0.2.1-s0.1)) 8))<=(w64 (x178.1-s0.1)))) then (rc s0.1 x178.1 (w64 (s0.2.2.1-1)) e x178.2).bind fun x179=>some (.inl ((w64 (x178.1+1)),s0.2.1,(w64 (s0.2.2.1-1)),true,true,x179)) else (rc s0.1 x178.1 (w64 (s0.2.2.1-1)) e x178.2).bind fun x180=>some (.inl ((w64 (x178.1+1)),s0.2.1,(w64 (s0.2.2.1-1)),false,true,x180)) else bif (decide ((w64 (Int.tdiv (w64 (s0.2.1-s0.1)) 8))<=(w64 (s0.2.1-x178.1)))) then (rc (w64 (x178.1+1)) s0.2.1 (w64 (s0.2.2.1-1)) e x178.2).bind fun x181=>some (.inl (s0.1,x178.1,(w64 (s0.2.2.1-1)),true,true,x181)) else (rc (w64 (x178.1+1)) s0.2.1 (w64 (s0.2.2.1-1)) e x178.2).bind fun x182=>some (.inl (s0.1,x178.1,(w64 (s0.2.2.1-1)),false,true,x182)) | (.inr x178)=>bif (decide ((w64 (x178.1-s0.1))<(w64 (s0.2.1-x178.1)))) then bif (decide ((w64 (Int.tdiv (w64 (s0.2.1-s0.1)) 8))<=(w64 (x178.1-s0.1)))) then (rc s0.1 x178.1 (w64 (s0.2.2.1-1)) e x178.2).bind fun x183=>some (.inl ((w64 (x178.1+1)),s0.2.1,(w64 (s0.2.2.1-1)),true,false,x183)) else (rc s0.1 x178.1 (w64 (s0.2.2.1-1)) e x178.2).bind fun x184=>some (.inl ((w64 (x178.1+1)),s0.2.1,(w64 (s0.2.2.1-1)),false,false,x184)) else bif (decide ((w64 (Int.tdiv (w64 (s0.2.1-s0.1)) 8))<=(w64 (s0.2.1-x178.1)))) then (rc (w64 (x178.1+1)) s0.2.1 (w64 (s0.2.2.1-1)) e x178.2).bind fun x185=>some (.inl (s0.1,x178.1,(w64 (s0.2.2.1-1)),true,false,x185)) else (rc (w64 (x178.1+1)) s0.2.1 (w64 (s0.2.2.1-1)) e x178.2).bind fun x186=>some (.inl (s0.1,x178.1,(w64 (s0.2.2.1-1)),false,false,x186)) else (Zo s0.1 s0.2.1 (w64 ((w64 (s0.2.1-1))-(w64 (x173.1-s0.1)))) e x174).bind fun x187=>some (.inl (x187.1,s0.2.1,(w64 (s0.2.2.1-1)),false,false,x187.2)) else (Zd s0.1 s0.2.1 (w64 ((w64 (s0.2.1-1))-(w64 (x173.1-s0.1)))) e x174).bind fun x188=>match x188 with | (.inl x188)=>bif (decide ((w64 (x188.1-s0.1))<(w64 (s0.2.1-x188.1)))) then bif (decide ((w64 (Int.tdiv (w64 (s0.2.1-s0.1)) 8))<=(w64 (x188.1-s0.1)))) then (rc s0.1 x188.1 (w64 (s0.2.2.1-1)) e x188.2).bind fun x189=>some (.inl ((w64 (x188.1+1)),s0.2.1,(w64 (s0.2.2.1-1)),true,true,x189)) else (rc s0.1 x188.1 (w64 (s0.2.2.1-1)) e x188.2).bind fun x190=>some (.inl ((w64 (x188.1+1)),s0.2.1,(w64 (s0.2.2.1-1)),false,true,x190)) else bif (decide ((w64 (Int.tdiv (w64 (s0.2.1-s0.1)) 8))<=(w64 (s0.2.1-x188.1)))) then (rc (w64 (x188.1+1)) s0.2.1 (w64 (s0.2.2.1-1)) e x188.2).bind fun x191=>some (.inl (s0.1,x188.1,(w64 (s0.2.2.1-1)),true,true,x191)) else (rc (w64 (x188.1+1)) s0.2.1 (w64 (s0.2.2.1-1)) e x188.2).bind fun x192=>some (.inl (s0.1,x188.1,(w64 (s0.2.2.1-1)),false,true,x192)) | (.inr x188)=>bif (decide ((w64 (x188.1-s0.1))<(w64 (s0.2.1-x188.1)))) then bif (decide ((w64 (Int.tdiv (w64 (s0.2.1-s0.1)) 8))<=(w64 (x188.1-s0.1)))) then (rc s0.1 x188.1 (w64 (s0.2.2.1-1)) e x188.2).bind fun x193=>some (.inl ((w64 (x188.1+1)),s0.2.1,(w64 (s0.2.2.1-1)),true,false,x193)) else (rc s0.1 x188.1 (w64 (s0.2.2.1-1)) e x188.2).bind fun x194=>some (.inl ((w64 (x188.1+1)),s0.2.1,(w64 (s0.2.2.1-1)),false,false,x194)) else bif (decide ((w64 (Int.tdiv (w64 (s0.2.1-s0.1)) 8))<=(w64 (s0.2.1-x188.1)))) then (rc (w64 (x188.1+1)) s0.2.1 (w64 (s0.2.2.1-1)) e x188.2).bind fun x195=>some (.inl (s0.1,x188.1,(w64 (s0.2.2.1-1)),true,false,x195)) else (rc (w64 (x188.1+1)) s0.2.1 (w64 (s0.2.2.1-1)) e x188.2).bind fun x196=>some (.inl (s0.1,x188.1,(w64 (s0.2.2.1-1)),false,false,x196)) else bif (decide (0<s0.1)) then (Zj x172 (w64 (s0.1-1))).bind fun x197=>(Zj x172 x173.1).bind fun x198=>(e x197 x198).bind fun x199=>bif (decide (x199<0)) then (Zd s0.1 s0.2.1 x173.1 e x172).bind fun x200=>match x200 with | (.inl x200)=>bif (decide ((w64 (x200.1-s0.1))<(w64 (s0.2.1-x200.1)))) then bif (decide ((w64 (Int.tdiv (w64 (s0.2.1-s0.1)) 8))<=(w64 (x200.1-s0.1)))) then (rc s0.1 x200.1 (w64 (s0.2.2.1-1)) e x200.2).bind fun x201=>some (.inl ((w64 (x200.1+1)),s0.2.1,(w64 (s0.2.2.1-1)),true,true,x201)) else (rc s0.1 x200.1 (w64 (s0.2.2.1-1)) e x200.2).bind fun x202=>some (.inl ((w64 (x200.1+1)),s0.2.1,(w64 (s0.2.2.1-1)),false,true,x202)) else bif (decide ((w64 (Int.tdiv (w64 (s0.2.1-s0.1)) 8))<=(w64 (s0.2.1-x200.1)))) then (rc (w64 (x200.1+1)) s0.2.1 (w64 (s0.2.2.1-1)) e x200.2).bind fun x203=>some (.inl (s0.1,x200.1,(w64 (s0.2.2.1-1)),true,true,x203)) else (rc (w64 (x200.1+1)) s0.2.1 (w64 (s0.2.2.1-1)) e x200.2).bind fun x204=>some (.inl (s0.1,x200.1,(w64 (s0.2.2.1-1)),false,true,x204)) | (.inr x200)=>bif (decide ((w64 (x200.1-s0.1))<(w64 (s0.2.1-x200.1)))) then bif (decide ((w64 (Int.tdiv (w64 (s0.2.1-s0.1)) 8))<=(w64 (x200.1-s0.1)))) then (rc s0.1 x200.1 (w64 (s0.2.2.1-1)) e x200.2).bind fun x205=>some (.inl ((w64 (x200.1+1)),s0.2.1,(w64 (s0.2.2.1-1)),true,false,x205)) else (rc s0.1 x200.1 (w64 (s0.2.2.1-1)) e x200.2).bind fun x206=>some (.inl ((w64 (x200.1+1)),s0.2.1,(w64 (s0.2.2.1-1)),false,false,x206)) else bif (decide ((w64 (Int.tdiv (w64 (s0.2.1-s0.1)) 8))<=(w64 (s0.2.1-x200.1)))) then (rc (w64 (x200.1+1)) s0.2.1 (w64 (s0.2.2.1-1)) e x200.2).bind fun x207=>some (.inl (s0.1,x200.1,(w64 (s0.2.2.1-1)),true,false,x207)) else (rc (w64 (x200.1+1)) s0.2.1 (w64 (s0.2.2.1-1)) e x200.2).bind fun x208=>some (.inl (s0.1,x200.1,(w64 (s0.2.2.1-1)),false,false,x208)) else (Zo s0.1 s0.2.1 x173.1 e x172).bind fun x209=>some (.inl (x209.1,s0.2.1,(w64 (s0.2.2.1-1)),false,false,x209.2)) else (Zd s0.1 s0.2.1 x173.1 e x172).bind fun x210=>match x210 with | (.inl x210)=>bif (decide ((w64 (x210.1-s0.1))<(w64 (s0.2.1-x210.1)))) then bif (decide ((w64 (Int.tdiv (w64 (s0.2.1-s0.1)) 8))<=(w64 (x210.1-s0.1)))) then (rc s0.1 x210.1 (w64 (s0.2.2.1-1)) e x210.2).bind fun x211=>some (.inl ((w64 (x210.1+1)),s0.2.1,(w64 (s0.2.2.1-1)),true,true,x211)) else (rc s0.1 x210.1 (w64 (s0.2.2.1-1)) e x210.2).bind fun x212=>some (.inl ((w64 (x210.1+1)),s0.2.1,(w64 (s0.2.2.1-1)),false,true,x212)) else bif (decide ((w64 (Int.tdiv (w64 (s0.2.1-s0.1)) 8))<=(w64 (s0.2.1-x210.1)))) then (rc (w64 (x210.1+1)) s0.2.1 (w64 (s0.2.2.1-1)) e x210.2).bind fun x213=>some (.inl (s0.1,x210.1,(w64 (s0.2.2.1-1)),true,true,x213)) else (rc (w64 (x210.1+1)) s0.2.1 (w64 (s0.2.2.1-1)) e x210.2).bind fun x214=>some (.inl (s0.1,x210.1,(w64 (s0.2.2.1-1)),false,true,x214)) | (.inr x210)=>bif (decide ((w64 (x210.1-s0.1))<(w64 (s0.2.1-x210.1)))) then bif (decide ((w64 (Int.tdiv (w64 (s0.2.1-s0.1)) 8))<=(w64 (x210.1-s0.1)))) then (rc s0.1 x210.1 (w64 (s0.2.2.1-1)) e x210.2).bind fun x215=>some (.inl ((w64 (x210.1+1)),s0.2.1,(w64 (s0.2.2.1-1)),true,false,x215)) else (rc s0.1 x210.1 (w64 (s0.2.2.1-1)) e x210.2).bind fun x216=>some (.inl ((w64 (x210.1+1)),s0.2.1,(w64 (s0.2.2.1-1)),false,false,x216)) else bif (decide ((w64 (Int.tdiv (w64 (s0.2.1-s0.1)) 8))<=(w64 (s0.2.1-x210.1)))) then (rc (w64 (x210.1+1)) s0.2.1 (w64 (s0.2.2.1-1)) e x210.2).bind fun x217=>some (.inl (s0.1,x210.1,(w64 (s0.2.2.1-1)),true,false,x217)) else (rc (w64 (x210.1+1)) s0.2.1 (w64 (s0.2.2.1-1)) e x210.2).bind fun x218=>some (.inl (s0.1,x210.1,(w64 (s0.2.2.1-1)),false,false,x218))
def ZaM (a b:Int):Option Bool:=bif (decide (1<=a)) then bif (decide (a<=b)) then some true else some false else some false
def Zbx (a:Za):Option Int:=(Zhw a.period).bind fun x0=>bif x0.2 then bif (decide (4096<a.period)) then some 140 else (ZaM a.deadline a.period).bind fun x1=>bif x1 then (ZaM a.total 4096).bind fun x2=>bif x2 then (ZaM a.long a.total).bind fun x3=>bif x3 then (ZaM a.most a.long).bind fun x4=>bif x4 then some 0 else some 140 else some 140 else some 140 else some 140 else some 140
def Ze5 (a:Za):Option (Unit⊕Unit):=bif (decide (a.deadline<a.total)) then some (.inl ()) else some (.inr ())
def Ze8 (a0:Int):Option Int:=some (w64 (a0-1))
def ZaB (a:Int):Option Bool:=(Zc8 a).bind fun x0=>bif (x0 != 0) then some true else some false
def ZfI (a:LI):Option Int:=(ZaL a (fun z0=>ZaB z0)).bind fun x0=>bif (decide (x0<0)) then some 0 else (Zj a x0).bind fun x1=>(Zc8 x1).bind fun x2=>some x2
def Zds (a b:Int) (c:(Option Int)):Option (Int×Int):=(ZfI [a,b]).bind fun x0=>bif (x0 != 0) then some (0,x0) else bif (b==0) then some (0,12) else (c).bind fun x1=>bif (b==0) then none else some ((w64 (Int.tdiv (w64 (a+x1)) b)),0)
def ZfQ (a b:Int):Option (Int×Int):=(Zds a b (Ze8 b)).bind fun x0=>some (x0.1,x0.2)
def Za5 (a:Zni):Option ZcP:=bif (decide (a.shape.deadline<=a.shape.long)) then some (ZcP.mk 0 141) else (ZfQ (w64 (a.shape.total-a.shape.long)) (w64 (a.shape.deadline-a.shape.long))).bind fun x0=>bif (x0.2==0) then bif (decide (8<x0.1)) then some (ZcP.mk 0 142) else some (ZcP.mk x0.1 x0.2) else some (ZcP.mk x0.1 x0.2)
def Zay (a:ZjJ):Option ZcP:=some (ZcP.mk 1 0)
def Zd1 (a:Za):Option (Int×Int):=(Zbx a).bind fun x0=>bif (x0 != 0) then some (0,x0) else (Ze5 a).bind fun x1=>match x1 with | (.inl x1)=>(Za5 (Zni.mk a)).bind fun x2=>some (x2.cores,x2.e) | (.inr x1)=>(Zay (ZjJ.mk a)).bind fun x3=>some (x3.cores,x3.e)
def ZaC (a:Za):Option Bool:=(Zbx a).bind fun x0=>bif (x0==0) then (Ze5 a).bind fun x1=>match x1 with | (.inl x1)=>(Za5 (Zni.mk a)).bind fun x2=>(Zay (ZjJ.mk a)).bind fun x3=>bif (!((x2.cores==x3.cores)&&((x2.e==x3.e)&&true))) then some true else some false | (.inr x1)=>(Zay (ZjJ.mk a)).bind fun x4=>(Zay (ZjJ.mk a)).bind fun x5=>bif (!((x4.cores==x5.cores)&&((x4.e==x5.e)&&true))) then some true else some false else some false
def ZaD (a:Za):Option Bool:=(Zbx a).bind fun x0=>bif (x0 != 0) then some true else (ZaC a).bind fun x1=>bif x1 then some true else some false
def ZB (a:List Za) (b:(Za->Option Bool)) (s0:Int):Option (Int⊕(Int⊕Unit)):=bif (decide (s0<(a.length:Int))) then (Zj a s0).bind fun x1=>(b x1).bind fun x2=>bif x2 then some (.inr (.inl s0)) else some (.inl (w64 (s0+1))) else some (.inr (.inr ()))
def Zah (a:List Za) (b:(Za->Option Bool)):Option Int:=(lp (ZB a b) 0).bind fun r3=>match r3 with | (.inl r3)=>some r3 | (.inr r3)=>some (-1)
def ZQ (a:List Za) (b:(Za->Option Bool)):Option Bool:=(Zah a b).bind fun x0=>bif (decide (0<=x0)) then some true else some false
def Zee (a:List Za):Option Int:=bif (decide (8<(a.length:Int))) then some 150 else (ZQ a (fun z0=>ZaD z0)).bind fun x0=>bif x0 then some 150 else some 0
def ZaK (a:Int) (b:Za):Option Int:=some (bif decide (a<b.period) then b.period else a)
def ZaX (a:List Za) (b:(Int->Za->Option Int)) (s0:Int×Int):Option ((Int×Int)⊕Int):=bif (decide (s0.2<(a.length:Int))) then (Zj a s0.2).bind fun x1=>(b s0.1 x1).bind fun x2=>some (.inl (x2,(w64 (s0.2+1)))) else some (.inr s0.1)
def Zck (a:List Za) (b:(Int->Za->Option Int)):Option Int:=(lp (ZaX a b) (0,0)).bind fun r3=>some r3
def Zd5 (a:List Za):Option Int:=(Zee a).bind fun x0=>bif (x0 != 0) then some 0 else (Zck a (fun z0 z1=>ZaK z0 z1)).bind fun x1=>some x1
def Za3 (a:Int) (b:Za) (c0:Int):Option Int:=bif (decide (c0<b.deadline)) then some a else bif (b.period==0) then none else some (w64 (a+(w64 (b.total*(w64 ((w64 (Int.tdiv (w64 (c0-b.deadline)) b.period))+1))))))
def ZeD (a:List Za) (b:Int):Option Int:=(Zck a (fun z0 z1=>Za3 z0 z1 b)).bind fun x0=>some x0
def Zbw (a:Int) (b:Za) (c0:Int):Option Int:=bif (decide (c0<b.deadline)) then some (bif decide (a<b.most) then b.most else a) else some a
def ZfF (a:List Za) (b:Int):Option Int:=(Zck a (fun z0 z1=>Zbw z0 z1 b)).bind fun x0=>some x0
def Zb7 (a:List Za) (x2:Za) (s3:Int):Option (Int⊕(Unit⊕Unit)):=(Zd5 a).bind fun x4=>bif (decide (s3<=x4)) then (ZeD a s3).bind fun x5=>(ZfF a s3).bind fun x6=>bif (decide (s3<(w64 (x5+x6)))) then some (.inr (.inl ())) else some (.inl (w64 (s3+x2.period))) else some (.inr (.inr ()))
def ZcS (a:List Za) (s1:Int):Option (Int⊕(Unit⊕Unit)):=bif (decide (s1<(a.length:Int))) then (Zj a s1).bind fun x2=>(lp (Zb7 a x2) x2.deadline).bind fun r7=>match r7 with | (.inl r7)=>some (.inr (.inl ())) | (.inr r7)=>some (.inl (w64 (s1+1))) else some (.inr (.inr ()))
def Ze6 (a:List Za):Option Bool:=(Zee a).bind fun x0=>bif (x0 != 0) then some false else (lp (ZcS a) 0).bind fun r8=>match r8 with | (.inl r8)=>some false | (.inr r8)=>some true
def ZaF (a:Int) (s0:Int×Int):Option ((Int×Int)⊕(Int⊕Unit)):=bif (decide (s0.2<40)) then bif (s0.1==a) then some (.inr (.inl s0.2)) else some (.inl ((w64 (2*s0.1)),(w64 (s0.2+1)))) else some (.inr (.inr ()))
def ZfC (a:Int):Option (Int×Bool):=(lp (ZaF a) (1,0)).bind fun r1=>match r1 with | (.inl r1)=>some (r1,true) | (.inr r1)=>some (0,false)
def Zcn (a:LI) (b s0:Int):Option (Int⊕(Unit⊕Unit)):=bif (decide (s0<(a.length:Int))) then (Zj a s0).bind fun x1=>bif (x1==b) then some (.inr (.inl ())) else some (.inl (w64 (s0+1))) else some (.inr (.inr ()))
def Zbt (a:LI) (b:Int):Option Bool:=(lp (Zcn a b) 0).bind fun r2=>match r2 with | (.inl r2)=>some true | (.inr r2)=>some false
def ZbB (a:Za):Option Bool:=(ZfC a.period).bind fun x0=>bif x0.2 then bif (decide (a.period<=4096)) then bif (decide (1<=a.deadline)) then bif (decide (a.deadline<=a.period)) then bif (decide (1<=a.total)) then bif (decide (a.total<=4096)) then bif (decide (1<=a.long)) then bif (decide (a.long<=a.total)) then bif (decide (1<=a.most)) then bif (decide (a.most<=a.long)) then some true else some false else some false else some false else some false else some false else some false else some false else some false else some false else some false
def ZbE (a:Za) (s1:Int):Option (Int⊕(Int⊕Unit)):=bif (decide (s1<=8)) then bif (decide ((w64 (a.total-a.long))<=(w64 (s1*(w64 (a.deadline-a.long)))))) then some (.inr (.inl s1)) else some (.inl (w64 (s1+1))) else some (.inr (.inr ()))
def Zd3 (a:Za):Option (Int×Int):=(ZbB a).bind fun x0=>bif x0 then bif (decide (a.total<=a.deadline)) then some (1,0) else bif (decide (a.deadline<=a.long)) then some (0,141) else (lp (ZbE a) 1).bind fun r2=>match r2 with | (.inl r2)=>some (r2,0) | (.inr r2)=>some (0,142) else some (0,140)
def ZbF (a:List Za) (s0:Int):Option (Int⊕(Unit⊕Unit)):=bif (decide (s0<(a.length:Int))) then (Zj a s0).bind fun x1=>(ZbB x1).bind fun x2=>bif x2 then bif (decide (x1.deadline<x1.total)) then some (.inr (.inl ())) else some (.inl (w64 (s0+1))) else some (.inr (.inl ())) else some (.inr (.inr ()))
def ZcO (a:List Za):Option Bool:=(lp (ZbF a) 0).bind fun r3=>match r3 with | (.inl r3)=>some false | (.inr r3)=>bif (decide ((a.length:Int)<=8)) then some true else some false
def Zav (a:List Za) (s0:Int×Int):Option ((Int×Int)⊕Int):=bif (decide (s0.2<(a.length:Int))) then (ZcO a).bind fun x1=>bif x1 then (Zj a s0.2).bind fun x2=>some (.inl ((bif decide (s0.1<x2.period) then x2.period else s0.1),(w64 (s0.2+1)))) else some (.inr s0.1) else some (.inr s0.1)
def ZcU (a:List Za):Option Int:=(lp (Zav a) (0,0)).bind fun r3=>some r3
def ZaJ (a:List Za) (b:Int) (s0:Int×Int):Option ((Int×Int)⊕Int):=bif (decide (s0.2<(a.length:Int))) then (Zj a s0.2).bind fun x1=>bif (decide (x1.deadline<=b)) then bif (x1.period==0) then none else some (.inl ((w64 (s0.1+(w64 (x1.total*(w64 ((w64 (Int.tdiv (w64 (b-x1.deadline)) x1.period))+1)))))),(w64 (s0.2+1)))) else some (.inl (s0.1,(w64 (s0.2+1)))) else some (.inr s0.1)
def Zdk (a:List Za) (b:Int):Option Int:=(lp (ZaJ a b) (0,0)).bind fun r2=>some r2
def Za2 (a:List Za) (b:Int) (s0:Int×Int):Option ((Int×Int)⊕Int):=bif (decide (s0.2<(a.length:Int))) then (Zj a s0.2).bind fun x1=>bif (decide (b<x1.deadline)) then some (.inl ((bif decide (s0.1<x1.most) then x1.most else s0.1),(w64 (s0.2+1)))) else some (.inl (s0.1,(w64 (s0.2+1)))) else some (.inr s0.1)
def ZdU (a:List Za) (b:Int):Option Int:=(lp (Za2 a b) (0,0)).bind fun r2=>some r2
def ZN (a:List Za) (s1:Int):Option (Int⊕(Unit⊕Unit)):=(ZcU a).bind fun x2=>bif (decide (s1<=x2)) then (Zdk a s1).bind fun x3=>bif (decide (0<x3)) then (ZdU a s1).bind fun x4=>bif (decide (s1<(w64 (x3+x4)))) then some (.inr (.inl ())) else some (.inl (w64 (s1+1))) else some (.inl (w64 (s1+1))) else some (.inr (.inr ()))
def Zdj (a:List Za):Option Bool:=(ZcO a).bind fun x0=>bif x0 then (lp (ZN a) 1).bind fun r5=>match r5 with | (.inl r5)=>some false | (.inr r5)=>some true else some false
def ZbZ (a:List Za) (b:List Za) (s0:Int):Option (Int⊕(Unit⊕Unit)):=bif (decide (s0<(a.length:Int))) then (Zj a s0).bind fun x1=>(Zj b s0).bind fun x2=>bif (!((x1.total==x2.total)&&((x1.long==x2.long)&&((x1.most==x2.most)&&((x1.deadline==x2.deadline)&&((x1.period==x2.period)&&true)))))) then some (.inr (.inl ())) else some (.inl (w64 (s0+1))) else some (.inr (.inr ()))
def ZeC (a:List Za) (b:List Za):Option Bool:=bif ((a.length:Int) != (b.length:Int)) then some false else (lp (ZbZ a b) 0).bind fun r3=>match r3 with | (.inl r3)=>some false | (.inr r3)=>some true
def Zb0 (a:LI) (b:LI) (s0:Int):Option (Int⊕(Unit⊕Unit)):=bif (decide (s0<(a.length:Int))) then (Zj a s0).bind fun x1=>(Zj b s0).bind fun x2=>bif (x1 != x2) then some (.inr (.inl ())) else some (.inl (w64 (s0+1))) else some (.inr (.inr ()))
def Zcx (a:LI) (b:LI):Option Bool:=bif ((a.length:Int) != (b.length:Int)) then some false else (lp (Zb0 a b) 0).bind fun r3=>match r3 with | (.inl r3)=>some false | (.inr r3)=>some true
def Zb3 (a b:Zq) (s1:Int):Option (Int⊕(Unit⊕Unit)):=bif (decide (s1<(a.cores.length:Int))) then (Zj a.cores s1).bind fun x2=>(Zj b.cores s1).bind fun x3=>(Zcx x2 x3).bind fun x4=>bif x4 then some (.inl (w64 (s1+1))) else some (.inr (.inl ())) else some (.inr (.inr ()))
def ZbS (a b:Zq):Option Bool:=(ZeC a.shapes b.shapes).bind fun x0=>bif x0 then bif ((a.cores.length:Int) != (b.cores.length:Int)) then some false else (lp (Zb3 a b) 0).bind fun r5=>match r5 with | (.inl r5)=>some false | (.inr r5)=>some true else some false
def Zai (a:Zq) (s0:Int):Option (Int⊕(Unit⊕Unit)):=bif (decide (s0<(a.cores.length:Int))) then bif (decide (s0<21)) then (Zj a.cores s0).bind fun x1=>bif (decide (12<(x1.length:Int))) then some (.inr (.inl ())) else some (.inl (w64 (s0+1))) else some (.inr (.inr ())) else some (.inr (.inr ()))
def Zec (a:Zq):Option Bool:=(lp (Zai a) 0).bind fun r2=>match r2 with | (.inl r2)=>some false | (.inr r2)=>bif (decide ((a.shapes.length:Int)<=20)) then bif (decide ((a.cores.length:Int)<=20)) then some true else some false else some false
def Zbn (a:Zq) (s0:Int×(List LI)):Option ((Int×(List LI))⊕(List LI)):=bif (decide (s0.1<(a.cores.length:Int))) then (Zj a.cores s0.1).bind fun x1=>bif (Nat.ble (x1.length) lim) then bif (Nat.ble (s0.2.length+1) lim) then some (.inl ((w64 (s0.1+1)),(s0.2++[x1]))) else none else none else some (.inr s0.2)
def Z8 (a:Zq):Option (List LI):=bif (Nat.ble (a.shapes.length) lim) then (lp (Zbn a) (0,([]:(List LI)))).bind fun r2=>some r2 else none
def Za7 (b:LI) (c s1:Int):Option (Int⊕(Unit⊕Unit)):=bif (decide (s1<(b.length:Int))) then (Zj b s1).bind fun x2=>bif (decide (x2<0)) then some (.inr (.inl ())) else bif (decide (c<=x2)) then some (.inr (.inl ())) else bif (decide (0<s1)) then (Zj b (w64 (s1-1))).bind fun x3=>bif (decide (x2<=x3)) then some (.inr (.inl ())) else some (.inl (w64 (s1+1))) else some (.inl (w64 (s1+1))) else some (.inr (.inr ()))
def Zft (a:Za) (b:LI) (c:Int):Option Bool:=(Zd1 a).bind fun x0=>(lp (Za7 b c) 0).bind fun r4=>match r4 with | (.inl r4)=>some false | (.inr r4)=>bif (x0.2==0) then bif ((b.length:Int)==x0.1) then some true else some false else some false
def Zc1 (a:Int) (b:Za) (c:LI) (mA:Bool) (mB:Int):Option (Unit⊕Unit):=bif mA then (Zft b c mB).bind fun x0=>bif x0 then some (.inl ()) else some (.inr ()) else some (.inr ())
def Zbk (a:Zq) (mB:Int) (s0:Int×Bool):Option ((Int×Bool)⊕Bool):=bif (decide (s0.1<(bif decide ((a.cores.length:Int)<(a.shapes.length:Int)) then (a.cores.length:Int) else (a.shapes.length:Int)))) then (Zj a.shapes s0.1).bind fun x1=>(Zj a.cores s0.1).bind fun x2=>(Zc1 s0.1 x1 x2 s0.2 mB).bind fun x3=>match x3 with | (.inl x3)=>some (.inl ((w64 (s0.1+1)),true)) | (.inr x3)=>some (.inl ((w64 (s0.1+1)),false)) else some (.inr s0.2)
def ZeE (a:Zq) (mB:Int):Option Bool:=(lp (Zbk a mB) (0,true)).bind fun r4=>some r4
def Zc4 (a:Int) (b:Za) (c:LI) (mA mB:Int) (mC:List Za):Option (Int⊕Unit):=(Zu c mA).bind fun x0=>bif x0 then (ZaC b).bind fun x1=>bif x1 then some (.inl (w64 (mB+1))) else bif (Nat.ble (mC.length+1) lim) then some (.inr ()) else none else some (.inl mB)
def Zas (a:Zq) (mA:Int) (s0:Int×Int×(List Za)):Option ((Int×Int×(List Za))⊕(Int×(List Za))):=bif (decide (s0.1<(bif decide ((a.cores.length:Int)<(a.shapes.length:Int)) then (a.cores.length:Int) else (a.shapes.length:Int)))) then (Zj a.shapes s0.1).bind fun x1=>(Zj a.cores s0.1).bind fun x2=>(Zc4 s0.1 x1 x2 mA s0.2.1 s0.2.2).bind fun x3=>match x3 with | (.inl x3)=>some (.inl ((w64 (s0.1+1)),x3,s0.2.2)) | (.inr x3)=>some (.inl ((w64 (s0.1+1)),s0.2.1,(s0.2.2++[x1]))) else some (.inr (s0.2.1,s0.2.2))
def ZcT (a:Zq) (mA mB:Int):Option (Int×(List Za)):=(lp (Zas a mA) (0,mB,([]:List Za))).bind fun r4=>some (r4.1,r4.2)
def Zad (a:Zq) (b s1:Int):Option (Int⊕(Unit⊕Unit)):=bif (decide (s1<b)) then (ZcT a s1 0).bind fun x2=>bif (decide (1<x2.1)) then some (.inr (.inl ())) else bif (x2.1==1) then bif (decide (0<(x2.2.length:Int))) then some (.inr (.inl ())) else (Ze6 x2.2).bind fun x3=>bif x3 then some (.inl (w64 (s1+1))) else some (.inr (.inl ())) else (Ze6 x2.2).bind fun x4=>bif x4 then some (.inl (w64 (s1+1))) else some (.inr (.inl ())) else some (.inr (.inr ()))
def Zd4 (a:Zq) (b:Int):Option Bool:=bif (decide (b<1)) then some false else bif (decide (8<b)) then some false else bif (decide (8<(a.shapes.length:Int))) then some false else bif ((a.cores.length:Int) != (a.shapes.length:Int)) then some false else (ZeE a b).bind fun x0=>bif x0 then (lp (Zad a b) 0).bind fun r5=>match r5 with | (.inl r5)=>some false | (.inr r5)=>some true else some false
def Zax (a:Zq) (b:Int) (s0:Int×LI):Option ((Int×LI)⊕LI):=bif (decide (s0.1<(a.shapes.length:Int))) then bif (decide (s0.1<(a.cores.length:Int))) then (Zj a.shapes s0.1).bind fun x1=>(ZbB x1).bind fun x2=>bif x2 then bif (decide (x1.total<=x1.deadline)) then (Zj a.cores s0.1).bind fun x3=>(Zbt x3 b).bind fun x4=>bif x4 then bif (Nat.ble (s0.2.length+1) lim) then some (.inl ((w64 (s0.1+1)),(s0.2++[s0.1]))) else none else some (.inl ((w64 (s0.1+1)),s0.2)) else some (.inl ((w64 (s0.1+1)),s0.2)) else some (.inl ((w64 (s0.1+1)),s0.2)) else some (.inr s0.2) else some (.inr s0.2)
def Zb5 (a:Zq) (b:Int):Option LI:=(lp (Zax a b) (0,([]:LI))).bind fun r5=>some r5
def ZdR (b:Int) (x3:LI) (s4:Int):Option (Int⊕(Unit⊕Unit)):=bif (decide (s4<(x3.length:Int))) then (Zj x3 s4).bind fun x5=>bif (decide (x5<0)) then some (.inr (.inl ())) else bif (decide (b<=x5)) then some (.inr (.inl ())) else bif (decide (0<s4)) then (Zj x3 (w64 (s4-1))).bind fun x6=>bif (decide (x5<=x6)) then some (.inr (.inl ())) else some (.inl (w64 (s4+1))) else some (.inl (w64 (s4+1))) else some (.inr (.inr ()))
def ZaY (a:Zq) (b s0:Int):Option (Int⊕(Unit⊕Unit)):=bif (decide (s0<(a.shapes.length:Int))) then (Zj a.shapes s0).bind fun x1=>(Zd3 x1).bind fun x2=>(Zj a.cores s0).bind fun x3=>bif (x2.2 != 0) then some (.inr (.inl ())) else bif ((x3.length:Int) != x2.1) then some (.inr (.inl ())) else (lp (ZdR b x3) 0).bind fun r7=>match r7 with | (.inl r7)=>some (.inr (.inl ())) | (.inr r7)=>some (.inl (w64 (s0+1))) else some (.inr (.inr ()))
def Zaz (a:Zq) (s9:Int) (s10:Int×Int):Option ((Int×Int)⊕Int):=bif (decide (s10.2<(a.shapes.length:Int))) then (Zj a.shapes s10.2).bind fun x11=>bif (decide (x11.deadline<x11.total)) then (Zj a.cores s10.2).bind fun x12=>(Zbt x12 s9).bind fun x13=>bif x13 then some (.inl ((w64 (s10.1+1)),(w64 (s10.2+1)))) else some (.inl (s10.1,(w64 (s10.2+1)))) else some (.inl (s10.1,(w64 (s10.2+1)))) else some (.inr s10.1)
def Zaq (a:Zq) (x15:LI) (s16:Int×(List Za)):Option ((Int×(List Za))⊕(List Za)):=bif (decide (s16.1<(x15.length:Int))) then (Zj x15 s16.1).bind fun x17=>(Zj a.shapes x17).bind fun x18=>bif (Nat.ble (s16.2.length+1) lim) then some (.inl ((w64 (s16.1+1)),(s16.2++[x18]))) else none else some (.inr s16.2)
def Zcr (a:Zq) (b s9:Int):Option (Int⊕(Unit⊕Unit)):=bif (decide (s9<b)) then (lp (Zaz a s9) (0,0)).bind fun r14=>(Zb5 a s9).bind fun x15=>(lp (Zaq a x15) (0,([]:List Za))).bind fun r19=>bif (decide (1<r14)) then some (.inr (.inl ())) else bif (r14==1) then bif (decide (0<(x15.length:Int))) then some (.inr (.inl ())) else (Zdj r19).bind fun x20=>bif x20 then some (.inl (w64 (s9+1))) else some (.inr (.inl ())) else (Zdj r19).bind fun x21=>bif x21 then some (.inl (w64 (s9+1))) else some (.inr (.inl ())) else some (.inr (.inr ()))
def ZcL (a:Zq) (b:Int):Option Bool:=bif (decide (b<1)) then some false else bif (decide (8<b)) then some false else bif (decide (8<(a.shapes.length:Int))) then some false else bif ((a.cores.length:Int) != (a.shapes.length:Int)) then some false else (lp (ZaY a b) 0).bind fun r8=>match r8 with | (.inl r8)=>some false | (.inr r8)=>(lp (Zcr a b) 0).bind fun r22=>match r22 with | (.inl r22)=>some false | (.inr r22)=>some true
def Zeq (a:Int) (b:Za) (c:LI) (mA mB:Int):Option Int:=bif (decide (mA<0)) then (ZaC b).bind fun x0=>bif x0 then (Zu c mB).bind fun x1=>bif x1 then some a else some mA else some mA else some mA
def Zaw (a:Zq) (mB:Int) (s0:Int×Int):Option ((Int×Int)⊕Int):=bif (decide (s0.1<(bif decide ((a.cores.length:Int)<(a.shapes.length:Int)) then (a.cores.length:Int) else (a.shapes.length:Int)))) then (Zj a.shapes s0.1).bind fun x1=>(Zj a.cores s0.1).bind fun x2=>(Zeq s0.1 x1 x2 s0.2 mB).bind fun x3=>some (.inl ((w64 (s0.1+1)),x3)) else some (.inr s0.2)
def Zer (a:Zq) (mA mB:Int):Option Int:=(lp (Zaw a mB) (0,mA)).bind fun r4=>some r4
def ZcQ (a:Zq) (b:Int):Option Int:=(Zer a (-1) b).bind fun x0=>some x0
def Za0 (a:Zq) (b s0:Int):Option (Int⊕(Int⊕Unit)):=bif (decide (s0<(a.shapes.length:Int))) then bif (decide (s0<(a.cores.length:Int))) then (Zj a.shapes s0).bind fun x1=>(ZbB x1).bind fun x2=>bif x2 then bif (decide (x1.deadline<x1.total)) then (Zj a.cores s0).bind fun x3=>(Zbt x3 b).bind fun x4=>bif x4 then some (.inr (.inl s0)) else some (.inl (w64 (s0+1))) else some (.inl (w64 (s0+1))) else some (.inl (w64 (s0+1))) else some (.inr (.inr ())) else some (.inr (.inr ()))
def ZcN (a:Zq) (b:Int):Option Int:=(lp (Za0 a b) 0).bind fun r5=>match r5 with | (.inl r5)=>some r5 | (.inr r5)=>some (-1)
def Zc5 (a:Int) (b:Za) (c:LI) (mA:Int) (mD:LI):Option (Unit⊕Unit):=(Zbx b).bind fun x0=>bif (x0==0) then (ZaC b).bind fun x1=>bif x1 then some (.inl ()) else (Zu c mA).bind fun x2=>bif x2 then bif (Nat.ble (mD.length+1) lim) then some (.inr ()) else none else some (.inl ()) else some (.inl ())
def Zat (a:Zq) (mA:Int) (s0:Int×LI):Option ((Int×LI)⊕LI):=bif (decide (s0.1<(bif decide ((a.cores.length:Int)<(a.shapes.length:Int)) then (a.cores.length:Int) else (a.shapes.length:Int)))) then (Zj a.shapes s0.1).bind fun x1=>(Zj a.cores s0.1).bind fun x2=>(Zc5 s0.1 x1 x2 mA s0.2).bind fun x3=>match x3 with | (.inl x3)=>some (.inl ((w64 (s0.1+1)),s0.2)) | (.inr x3)=>some (.inl ((w64 (s0.1+1)),(s0.2++[s0.1]))) else some (.inr s0.2)
def Zes (a:Zq) (mA:Int):Option LI:=(lp (Zat a mA) (0,([]:LI))).bind fun r4=>some r4
def ZcK (a:Zq) (b:Int):Option LI:=(Zes a b).bind fun x0=>some x0
def ZK (a:List Za) (b:List Za) (s0:Int):Option (Int⊕(Unit⊕Unit)):=bif (decide (s0<(a.length:Int))) then (Zj a s0).bind fun x1=>(Zj b s0).bind fun x2=>bif (!((x1.total==x2.total)&&((x1.long==x2.long)&&((x1.most==x2.most)&&((x1.deadline==x2.deadline)&&((x1.period==x2.period)&&true)))))) then some (.inr (.inl ())) else some (.inl (w64 (s0+1))) else some (.inr (.inr ()))
def Z7 (a:List Za) (b:List Za):Option Bool:=bif ((a.length:Int) != (b.length:Int)) then some false else (lp (ZK a b) 0).bind fun r3=>match r3 with | (.inl r3)=>some false | (.inr r3)=>some true
def ZT (a:LI) (b:LI) (s0:Int):Option (Int⊕(Unit⊕Unit)):=bif (decide (s0<(a.length:Int))) then (Zj a s0).bind fun x1=>(Zj b s0).bind fun x2=>bif (x1 != x2) then some (.inr (.inl ())) else some (.inl (w64 (s0+1))) else some (.inr (.inr ()))
def ZI (a:LI) (b:LI):Option Bool:=bif ((a.length:Int) != (b.length:Int)) then some false else (lp (ZT a b) 0).bind fun r3=>match r3 with | (.inl r3)=>some false | (.inr r3)=>some true
def Zr (a:(List LI)) (b:(List LI)) (c:(LI->LI->Option Bool)) (s0:Int):Option (Int⊕(Unit⊕Unit)):=bif (decide (s0<(a.length:Int))) then (Zj a s0).bind fun x1=>(Zj b s0).bind fun x2=>(c x1 x2).bind fun x3=>bif x3 then some (.inl (w64 (s0+1))) else some (.inr (.inl ())) else some (.inr (.inr ()))
def ZH (a:(List LI)) (b:(List LI)) (c:(LI->LI->Option Bool)):Option Bool:=bif ((a.length:Int) != (b.length:Int)) then some false else (lp (Zr a b c) 0).bind fun r4=>match r4 with | (.inl r4)=>some false | (.inr r4)=>some true
def Zdp (a b:Zq):Option Bool:=(Z7 a.shapes b.shapes).bind fun x0=>bif x0 then (ZH a.cores b.cores (fun z0 z1=>ZI z0 z1)).bind fun x1=>bif x1 then some true else some false else some false
def Zc2 (a b:Zq) (c d:Int):Option Bool:=Zb8.bind fun x0=>bif x0 then (Zec a).bind fun x1=>bif x1 then (Zec b).bind fun x2=>bif x2 then (Z8 a).bind fun x3=>(Zd4 (Zq.mk a.shapes x3) c).bind fun x4=>bif x4 then (ZcL a c).bind fun x5=>bif x5 then (Z8 a).bind fun x6=>(ZcQ (Zq.mk a.shapes x6) d).bind fun x7=>(ZcN a d).bind fun x8=>bif (x7==x8) then (Z8 a).bind fun x9=>(ZcK (Zq.mk a.shapes x9) d).bind fun x10=>(Zb5 a d).bind fun x11=>(Zcx x10 x11).bind fun x12=>bif x12 then (Z8 a).bind fun x13=>(Z8 b).bind fun x14=>(Zdp (Zq.mk a.shapes x13) (Zq.mk b.shapes x14)).bind fun x15=>bif x15 then (ZbS a b).bind fun x16=>bif x16 then some true else some false else (ZbS a b).bind fun x17=>bif x17 then some false else some true else some false else some false else some false else (ZcL a c).bind fun x18=>bif x18 then some false else (Z8 a).bind fun x19=>(ZcQ (Zq.mk a.shapes x19) d).bind fun x20=>(ZcN a d).bind fun x21=>bif (x20==x21) then (Z8 a).bind fun x22=>(ZcK (Zq.mk a.shapes x22) d).bind fun x23=>(Zb5 a d).bind fun x24=>(Zcx x23 x24).bind fun x25=>bif x25 then (Z8 a).bind fun x26=>(Z8 b).bind fun x27=>(Zdp (Zq.mk a.shapes x26) (Zq.mk b.shapes x27)).bind fun x28=>bif x28 then (ZbS a b).bind fun x29=>bif x29 then some true else some false else (ZbS a b).bind fun x30=>bif x30 then some false else some true else some false else some false else Zb8.bind fun x31=>bif x31 then some true else some false else Zb8.bind fun x32=>bif x32 then some true else some false else Zb8.bind fun x33=>bif x33 then some true else some false
abbrev zL (t:Bool) (l:LI):D:=.list t (List.map ZY l)
abbrev zM {A:Type} (t:Bool) (f:A->D) (l:List A):D:=.list t (List.map f l)
abbrev zN (n:Int):V:=.d (ZY n)
abbrev zV (t:Bool) (l:LI):V:=.d (zL t l)
abbrev zW {A:Type} (t:Bool) (f:A->D) (l:List A):V:=.d (zM t f l)
abbrev zA (l:LI):Blk:=.arr 1 (List.map ZY l)
abbrev zK0 (x0:Int) (x1:Int) (x2:Int) (x3:Int) (x4:Int):D:=D.agg [(ZY x0),(ZY x1),(ZY x2),(ZY x3),(ZY x4)]
end
end Go.Proofs.YtmnglncebfabpaaGreatDoor
namespace Go.Proofs.YtmnglncebfabpaaGreatDoorE
open Go
open Go.IntKind (u64 i64 u32 i32 u8)
open List (drop_zero)
theorem ZcI {i n:Nat} (h:i<n):decide ((i:Int)<(n:Int))=true:=dT (by omega)
theorem Zdd (n:Nat):decide ((n:Int)<(n:Int))=false:=dF (by omega)
theorem Zx {γ:Type}{l:List γ}{i:Nat}{x:γ} (h:l[i]? = some x):Zj l (i:Int)=some x:=(Zr1 l i).trans h
theorem ZvX {n:Int} (h1 : -9223372036854775808<=n) (h2:n<9223372036854775808):w64 n=n:=Zwh h1 h2
theorem ZaI {n:Int} (h : -9223372036854775808<=n/\n<9223372036854775808):w64 n=n:=ZvX h.1 h.2
theorem ZF {i n:Nat} (h:i<n) (hn:n<9223372036854775808):w64 ((i:Int)+1)=((i+1:Nat):Int):=by rw[ZaI (by omega)];omega
theorem Zlo {n:Nat} (h:n<=1073741824):Nat.ble n lim=true:=Nat.ble_eq_true_of_le h
def Znu {γ S R:Type} (f:Nat->γ->S->Option (S⊕R)) (fin:S->Option R):Nat->List γ->S->Option R
 | _,[],s=>fin s
 | i,x :: l,s=>(match f i x s with | some (.inl s')=>Znu f fin (i+1) l s' | some (.inr r)=>some r | none=>none)
theorem ZpZ {γ S St R:Type} (l:List γ) (step:St->Option (St⊕R)) (st:Nat->S->St) (f:Nat->γ->S->Option (S⊕R)) (fin:S->Option R)
  (h1:∀i x s,i<l.length->l[i]? = some x->step (st i s)=(match f i x s with | some (.inl s')=>some (.inl (st (i+1) s')) | some (.inr r)=>some (.inr r) | none=>none))
  (h2:∀s,step (st l.length s)=(fin s).map Sum.inr):∀s,lp step (st 0 s)=Znu f fin 0 l s:=by
 have key:∀(k i:Nat) (s:S),i+k=l.length->lp step (st i s)=Znu f fin i (l.drop i) s:=by
  intro k
  induction k with
  | zero=>
   intro i s hi
   have:i=l.length:=by omega
   subst this
   rw[List.drop_length,ZdB,h2]
   unfold Znu
   cases fin s<;>rfl
  | succ k ih=>
   intro i s hi
   have hi':i<l.length:=by omega
   rw[List.drop_eq_getElem_cons hi',ZdB,h1 i l[i] s hi' (gE hi')]
   conv=>rhs;unfold Znu
   cases f i l[i] s with
   | none=>rfl
   | some t=>
    cases t with
    | inl s'=>exact ih (i+1) s' (by omega)
    | inr r=>rfl
 intro s
 have:=key l.length 0 s (by omega)
 rwa [drop_zero] at this
def Zkw {γ R:Type} (p:Nat->γ->Bool) (out:Nat->γ->R) (fin:R):Nat->List γ->R
 | _,[]=>fin
 | i,x :: l=>bif p i x then out i x else Zkw p out fin (i+1) l
theorem ZdV {γ R:Type} (l:List γ) (step:Int->Option (Int⊕R)) (p:Nat->γ->Bool) (out:Nat->γ->R) (fin:R)
  (h1:∀i x,i<l.length->l[i]? = some x->step (i:Int)=some (bif p i x then .inr (out i x) else .inl ((i+1:Nat):Int)))
  (h2:step (l.length:Int)=some (.inr fin)):lp step 0=some (Zkw p out fin 0 l):=by
 have key:=ZpZ (S:=Unit) l step (fun i _=>(i:Int)) (fun i x _=>some (bif p i x then .inr (out i x) else .inl ())) (fun _=>some fin)
  (fun i x s hi hx=>by rw[h1 i x hi hx];cases p i x<;>rfl) (fun _=>h2) ()
 refine(key:lp step 0=_).trans ?_
 have:∀(l:List γ) (i:Nat),Znu (S:=Unit) (fun i x _=>some (bif p i x then Sum.inr (out i x) else Sum.inl ())) (fun _=>some fin) i l ()=some (Zkw p out fin i l):=by
  intro l
  induction l with
  | nil=>intro i;rfl
  | cons x l ih=>
   intro i
   unfold Znu Zkw
   cases p i x with
   | true=>rfl
   | false=>exact ih (i+1)
 exact this l 0
def ZoS {γ:Type} (p:Nat->γ->Bool):Nat->List γ->Bool
 | _,[]=>false
 | i,x :: l=>p i x || ZoS p (i+1) l
theorem Zg6 {γ:Type} (p:γ->Bool):∀(l:List γ) (i:Nat),ZoS (fun _=>p) i l=l.any p
 | [],_=>rfl
 | x :: l,i=>by rw[ZoS,List.any_cons,Zg6 p l]
theorem Zc0 {γ R:Type} (p:Nat->γ->Bool) (c fin:R):∀(l:List γ) (i:Nat),Zkw p (fun _ _=>c) fin i l=bif ZoS p i l then c else fin
 | [],_=>rfl
 | x :: l,i=>by
  unfold Zkw ZoS
  rw[Zc0 p c fin l (i+1)]
  cases p i x<;>rfl
theorem Zie {γ R:Type} (p:γ->Bool) (fin:R):∀(l:List γ) (i:Nat),(∃j:Nat,Zkw (fun _=>p) (fun i _=>(Sum.inl (i:Int):Int⊕R)) (.inr fin) i l = .inl (j:Int)/\l.any p=true)∨(Zkw (fun _=>p) (fun i _=>(Sum.inl (i:Int):Int⊕R)) (.inr fin) i l = .inr fin/\l.any p=false)
 | [],_=>.inr ⟨rfl,rfl⟩
 | x :: l,i=>by
  unfold Zkw
  rw[List.any_cons]
  cases h:p x with
  | true=>exact .inl ⟨i,rfl,rfl⟩
  | false=>simpa using Zie p fin l (i+1)
theorem Zhx {γ:Type} [DecidableEq γ] (a b:List γ) (he:a.length=b.length) (step:Int->Option (Int⊕(Unit⊕Unit)))
  (h1:∀i x y,i<a.length->a[i]? = some x->b[i]? = some y->step (i:Int)=some (bif decide (x=y) then .inl ((i+1:Nat):Int) else .inr (.inl ())))
  (h2:step (a.length:Int)=some (.inr (.inr ()))):lp step 0=some (bif decide (a=b) then .inr () else .inl ()):=by
 have key:∀(k i:Nat),i+k=a.length->lp step (i:Int)=some (bif decide (a.drop i=b.drop i) then .inr () else .inl ()):=by
  intro k
  induction k with
  | zero=>
   intro i hi
   have:i=a.length:=by omega
   subst this
   rw[ZdB,h2,List.drop_length,he,List.drop_length]
   rfl
  | succ k ih=>
   intro i hi
   have ha:i<a.length:=by omega
   have hb:i<b.length:=by omega
   rw[ZdB,h1 i a[i] b[i] ha (gE ha) (gE hb),List.drop_eq_getElem_cons ha,List.drop_eq_getElem_cons hb]
   by_cases h:a[i]=b[i]
   ·rw[dT h]
    simp only[cT]
    rw[ih (i+1) (by omega)]
    by_cases h3:a.drop (i+1)=b.drop (i+1)
    ·rw[dT h3,dT (by rw[h,h3])]
    ·rw[dF h3,dF (by intro h4;exact h3 (List.cons.inj h4).2)]
   ·rw[dF h,dF (by intro h4;exact h (List.cons.inj h4).1)]
    rfl
 have:=key a.length 0 (by omega)
 rwa [drop_zero,drop_zero] at this
end Go.Proofs.YtmnglncebfabpaaGreatDoorE
namespace Go.Proofs.YtmnglncebfabpaaGreatDoor
open Go Go.Proofs.YtmnglncebfabpaaGreatDoorE
open Go.IntKind (u64 i64 u32 i32 u8)
def ZpK (n a b:Int):Bool:=decide (a<=n)&&decide (n<=b)
theorem Zsl {γ:Type} (l:List γ) (p:γ->Bool) (step:Int->Option (Int⊕(Int⊕Unit)))
  (h1:∀i x,i<l.length->l[i]? = some x->step (i:Int)=some (bif p x then .inr (.inl (i:Int)) else .inl ((i+1:Nat):Int)))
  (h2:step (l.length:Int)=some (.inr (.inr ()))) :
  (((lp step 0).bind fun(r:Int⊕Unit)=>match r with | .inl r=>some r | .inr _=>some (-1)).bind fun x=>bif decide (0<=x) then some true else some false)=some (l.any p):=by
 rw[ZdV l step (fun _=>p) (fun i _=>.inl (i:Int)) (.inr ()) h1 h2]
 rcases Zie p () l 0 with⟨j,e1,e2⟩ | ⟨e1,e2⟩
 ·rw[e1,e2]
  show(bif decide ((0:Int)<=(j:Int)) then some true else some false)=some true
  rw[dT (by omega)]
  rfl
 ·rw[e1,e2]
  rfl
def again (f g:ZiC):Bool:=g.user==f.user&&g.pos==f.pos
theorem ZlU (l:LI) (n:Int) (hl:l.length<9223372036854775808):Zu l n=some (l.any (fun x=>n==x)):=by
 unfold Zu ZbA
 refine Zsl l (fun x=>n==x) _ (fun i x hi hx=>?_) ?_
 ·simp only[Zae,ZcI hi,Zx hx,bS,ZF hi hl,cT]
  cases (n==x)<;>rfl
 ·simp only[Zae,Zdd];rfl
def two (n:Nat) (a b:Int):Bool:=(a != b)&&(ZpK a 0 (n-1)&&ZpK b 0 (n-1))
def Zgq (n:Int):Int:=bif decide (n<0) then 10 else bif decide (1099511627775<n) then 11 else 0
theorem ZkQ (n:Int):Zc8 n=some (Zgq n):=by
 unfold Zc8 Zgq
 cases decide (n<0)<;>cases decide (1099511627775<n)<;>rfl
noncomputable def Zqv (x:Int):Int:=match ZaH x with | some n=>n | none=>0
theorem Zwk (x:Int):Zba x=some (Zqv x):=by
 unfold Zba Zqv ZaH
 rfl
def ZnQ (n:Nat):Bool:=[1,2,4,8,16,32,64,128,256,512,1024,2048,4096].contains n
theorem ZpD:((List.range 4097).all fun n=>(Zqv (u64.wrap (n:Int))==1)==ZnQ n)=true:=by kernel_rfl
theorem ZpU (n:Nat) (h:n<=4096):(Zqv (u64.wrap (n:Int))==1)=ZnQ n:=by
 have:=List.all_eq_true.1 ZpD n (by simp;omega)
 simpa using this
noncomputable def Zks (n:Int):Bool:=!(Zgq n != 0) && !(Zqv (u64.wrap n) != 1)
theorem Zrr (n:Int):∃k,Zhw n=some (k,Zks n):=by
 have tz:∃k,Zbj (u64.wrap n)=some k:=⟨_,rfl⟩
 obtain⟨k,hk⟩:=tz
 unfold Zhw Zks
 simp only[ZkQ,Zwk,bS,hk]
 cases (Zgq n != 0)
 ·cases (Zqv (u64.wrap n) != 1)
  ·exact⟨k,rfl⟩
  ·exact⟨0,rfl⟩
 ·exact⟨0,rfl⟩
theorem ZsR {n:Int} (h:n<0):Zks n=false:=by
 have:(Zgq n != 0)=true:=by unfold Zgq;rw[dT h];rfl
 simp only[Zks,this];rfl
theorem ZlH (n:Nat) (h:n<=4096):Zks (n:Int)=ZnQ n:=by
 have h1:(Zgq (n:Int) != 0)=false:=by
  unfold Zgq
  rw[dF (show ¬((n:Int)<0) by omega),dF (show ¬((1099511627775:Int)<n) by omega)]
  rfl
 rw[<- ZpU n h]
 unfold Zks
 rw[h1]
 unfold bne
 rw[Bool.not_not]
 rfl
def ZwJ (ps:List ZuN) (z:Int):Int:=match ps[z.toNat]? with | some p=>p.work | none=>0
theorem ZnG {n:Nat}{a b:Int} (h:two n a b=true):(0<=a/\a.toNat<n)/\(0<=b/\b.toNat<n)/\a≠b:=by
 simp only[two,ZpK,aT,decide_eq_true_eq,bne_iff_ne] at h
 omega
open Go Go.Proofs.YtmnglncebfabpaaGreatDoorE Go.Sort
section
structure OKA (P:Int->Prop) (d:Array Int):Prop where
 el:∀i,i<d.size->P d[i]!
 sz:d.size<=1000
section
variable (cmp:Int->Int->Option Int) (c:Int->Int->Int) (P:Int->Prop)
def ZpX:Prop:=∀x y,P x->P y->cmp x y=some (c x y)
def ltC (x y:Int):Bool:=decide (c x y<0)
variable {cmp c P} (hc:ZpX cmp c P)
include hc
end
end
section
section
variable {cmp:Int->Int->Option Int} {c:Int->Int->Int} {P:Int->Prop} (hc:ZpX cmp c P)
include hc
end
end
section
section
variable {cmp:Int->Int->Option Int} {c:Int->Int->Int} {P:Int->Prop} (hc:ZpX cmp c P)
include hc
end
end
def Zpu (a b:Int):Int:=u64.wrap (Ze a ^^^ Ze b).toNat
def xs (r:Int):Int:=Zpu (Zpu (Zpu r (u64.wrap (r*2 ^ 13))) (Int.fdiv (Zpu r (u64.wrap (r*2 ^ 13))) (2 ^ 7))) (u64.wrap (Zpu (Zpu r (u64.wrap (r*2 ^ 13))) (Int.fdiv (Zpu r (u64.wrap (r*2 ^ 13))) (2 ^ 7))*2 ^ 17))
abbrev Zzg:=Int×Int×Int×Bool×Bool×LI
section
noncomputable def after (e:Int->Int->Option Int) (rc:Int->Int->Int->(Int->Int->Option Int)->LI->Option LI) (x:Option (Zzg⊕LI)):Option LI:=
 match x with | some (.inl s')=>lp (ZdK e rc) s' | some (.inr r)=>some r | none=>none
def Res (P:Int->Prop) (r:Option LI) (X:Array Int) (n:Nat):Prop:=r=some X.toList/\OKA P X/\X.size=n
section
variable {cmp:Int->Int->Option Int} {c:Int->Int->Int} {P:Int->Prop} (hc:ZpX cmp c P) (hs:SWO (ltC c))
include hc hs
end
end
structure ZzF (d:Zlg):Prop where
 w:∀p∈d.parts,1<=p.work/\p.work<=100
 e:∀x∈d.edges,two d.parts.length x.src x.dst=true
 f:∀x∈d.futures,two d.parts.length x.maker x.user=true/\1<=x.pos/\x.pos<=ZwJ d.parts x.user-1
 ne:∀(i j:Nat) (x y:ZiC),i<j->d.futures[i]? = some x->d.futures[j]? = some y->¬(x.user=y.user/\x.pos=y.pos)
structure Zj3 (d:Zlg):Prop where
 g:ZzF d
 ins:∀b∈d.barriers,∀q∈b.ins,0<=q/\q.toNat<d.parts.length
 outs:∀b∈d.barriers,∀q∈b.outs,0<=q/\q.toNat<d.parts.length
 disj:∀b∈d.barriers,∀q∈b.ins,q∉b.outs
 pl:d.parts.length<=16
 el:d.edges.length<=48
 fl:d.futures.length<=16
 bl:d.barriers.length<=4
 p1:1<=d.parts.length
 arg:∀p∈d.parts,0<=p.arg/\p.arg<=2147483647
def inR (d:Zlg) (p:Int):Prop:=0<=p/\p.toNat<d.parts.length
theorem Zj3.src {d:Zlg} (g:Zj3 d) {e:ZmR} (h:e∈d.edges):inR d e.src:=(ZnG (g.g.e e h)).1
theorem Zj3.dst {d:Zlg} (g:Zj3 d) {e:ZmR} (h:e∈d.edges):inR d e.dst:=(ZnG (g.g.e e h)).2.1
theorem Zj3.maker {d:Zlg} (g:Zj3 d) {f:ZiC} (h:f∈d.futures):inR d f.maker:=(ZnG (g.g.f f h).1).1
theorem Zj3.user {d:Zlg} (g:Zj3 d) {f:ZiC} (h:f∈d.futures):inR d f.user:=(ZnG (g.g.f f h).1).2.1
open Nat (lt_or_ge)
def ZpM (n:Int):Bool:=(List.range 40).any fun k=>((2:Int) ^ k==n)
theorem ZtG (n:Int):∃k,ZfC n=some (k,ZpM n):=by
 have step:∀k:Nat,k<40->ZaF n ((2:Int) ^ k,(k:Int))=some (bif ((2:Int) ^ k==n) then .inr (.inl (k:Int)) else .inl ((2:Int) ^ (k+1),((k+1:Nat):Int))):=by
  intro k hk
  have hp:(2:Int) ^ k<=2 ^ 39:=by
   have:(2:Nat) ^ k<=2 ^ 39:=Nat.pow_le_pow_right (by omega) (by omega)
   exact_mod_cast this
  have hq:(0:Int)<2 ^ k:=by
   have:(0:Nat)<2 ^ k:=Nat.pow_pos (by omega)
   exact_mod_cast this
  have e39:(2:Int) ^ 39=549755813888:=by decide
  rw[e39] at hp
  have e1:w64 (2*(2:Int) ^ k)=(2:Int) ^ (k+1):=by rw[ZaI (by omega),Int.pow_succ];omega
  have e2:w64 ((k:Int)+1)=((k+1:Nat):Int):=ZF hk (by omega)
  unfold ZaF
  simp only[dT (show(k:Int)<40 by omega),cT,e1,e2]
  cases ((2:Int) ^ k==n)<;>rfl
 have key:∀m k:Nat,k+m=40->lp (ZaF n) ((2:Int) ^ k,(k:Int))=some (match (List.range' k m).find? (fun j=>(2:Int) ^ j==n) with | some j=>.inl (j:Int) | none=>.inr ()):=by
  intro m
  induction m with
  | zero=>
   intro k hk
   have:k=40:=by omega
   subst this
   rw[ZdB]
   unfold ZaF
   rfl
  | succ m ih=>
   intro k hk
   rw[ZdB,step k (by omega),List.range'_succ,List.find?_cons]
   cases h:((2:Int) ^ k==n) with
   | true=>rfl
   | false=>exact ih (k+1) (by omega)
 have k0:=key 40 0 rfl
 rw[show((2:Int) ^ 0)=1 from rfl] at k0
 have e:(List.range 40).any (fun j=>(2:Int) ^ j==n)=((List.range' 0 40).find? (fun j=>(2:Int) ^ j==n)).isSome:=by
  rw[List.range_eq_range',Bool.eq_iff_iff,List.any_eq_true,List.find?_isSome]
 unfold ZfC ZpM
 rw[e]
 cases hf:(List.range' 0 40).find? (fun j=>(2:Int) ^ j==n) with
 | none=>
  rw[hf] at k0
  refine⟨0,?_⟩
  show(lp (ZaF n) (1,((0:Nat):Int))).bind _=_
  rw[k0];rfl
 | some j=>
  rw[hf] at k0
  refine⟨j,?_⟩
  show(lp (ZaF n) (1,((0:Nat):Int))).bind _=_
  rw[k0];rfl
theorem Zpr (n:Nat) (h:n<=4096):ZpM (n:Int)=ZnQ n:=by
 rw[Bool.eq_iff_iff]
 unfold ZpM ZnQ
 rw[List.any_eq_true]
 constructor
 ·rintro ⟨k,hk,he⟩
  have hk:=List.mem_range.1 hk
  have he:(2:Nat) ^ k=n:=by have:=eq_of_beq he;exact_mod_cast this
  have h13:k<13:=by
   rcases lt_or_ge k 13 with h1 | h1
   ·exact h1
   ·have:2 ^ 13<=2 ^ k:=Nat.pow_le_pow_right (by omega) h1
    omega
  subst he
  have:((List.range 13).all fun k=>[1,2,4,8,16,32,64,128,256,512,1024,2048,4096].contains (2 ^ k))=true:=by decide
  exact List.all_eq_true.1 this k (by simpa using h13)
 ·intro h
  have:n=2 ^ 0∨n=2 ^ 1∨n=2 ^ 2∨n=2 ^ 3∨n=2 ^ 4∨n=2 ^ 5∨n=2 ^ 6∨n=2 ^ 7∨n=2 ^ 8∨n=2 ^ 9∨n=2 ^ 10∨n=2 ^ 11∨n=2 ^ 12:=by
   simpa using h
  rcases this with h | h | h | h | h | h | h | h | h | h | h | h | h<;>subst h
  ·exact⟨0,by decide,by decide⟩
  ·exact⟨1,by decide,by decide⟩
  ·exact⟨2,by decide,by decide⟩
  ·exact⟨3,by decide,by decide⟩
  ·exact⟨4,by decide,by decide⟩
  ·exact⟨5,by decide,by decide⟩
  ·exact⟨6,by decide,by decide⟩
  ·exact⟨7,by decide,by decide⟩
  ·exact⟨8,by decide,by decide⟩
  ·exact⟨9,by decide,by decide⟩
  ·exact⟨10,by decide,by decide⟩
  ·exact⟨11,by decide,by decide⟩
  ·exact⟨12,by decide,by decide⟩
theorem Zno (l:LI) (n:Int) (hl:l.length<9223372036854775808):Zbt l n=some (l.any fun x=>n==x):=by
 have key:=ZdV l (Zcn l n) (fun _ x=>n==x) (fun _ _=>.inl ()) (.inr ()) (fun i x hi hx=>by
   have e:(x==n)=(n==x):=Bool.beq_comm
   simp only[Zcn,ZcI hi,Zx hx,bS,ZF hi hl,cT,e]
   cases (n==x)<;>rfl) (by simp only[Zcn,Zdd];rfl)
 unfold Zbt
 rw[key,Zc0,Zg6]
 cases (l.any fun x=>n==x)<;>rfl
open List (length_take length_cons map_cons drop_zero length_zip)
def Zci {γ S:Type} (f:Nat->S->γ->S):Nat->S->List γ->S
 | _,s,[]=>s
 | i,s,x :: l=>Zci f (i+1) (f i s x) l
theorem Zce {γ S T R:Type} (l:List γ) (step:T->Option (T⊕R)) (st:Nat->S->T) (f:Nat->S->γ->S) (fin:S->R) (I:Nat->S->Prop)
  (h1:∀i x s,i<l.length->l[i]? = some x->I i s->step (st i s)=some (.inl (st (i+1) (f i s x)))/\I (i+1) (f i s x))
  (h2:∀s,I l.length s->step (st l.length s)=some (.inr (fin s))) (s:S) (h0:I 0 s) :
  lp step (st 0 s)=some (fin (Zci f 0 s l))/\I l.length (Zci f 0 s l):=by
 have key:∀(k i:Nat) (s:S),i+k=l.length->I i s->lp step (st i s)=some (fin (Zci f i s (l.drop i)))/\I l.length (Zci f i s (l.drop i)):=by
  intro k
  induction k with
  | zero=>
   intro i s hi hI
   have:i=l.length:=by omega
   subst this
   rw[List.drop_length,ZdB,h2 s hI]
   exact⟨rfl,hI⟩
  | succ k ih=>
   intro i s hi hI
   have hi':i<l.length:=by omega
   obtain⟨e,hI'⟩:=h1 i l[i] s hi' (gE hi') hI
   rw[List.drop_eq_getElem_cons hi',ZdB,e]
   exact ih (i+1) _ (by omega) hI'
 have:=key l.length 0 s (by omega) h0
 rwa [drop_zero] at this
inductive Way (g:Zv7):Int->Int->Prop
 | one {e:ZmR}:e∈g.edges->Way g e.src e.dst
 | more {a:Int} {e:ZmR}:Way g a e.src->e∈g.edges->Way g a e.dst
theorem Way.trans {g:Zv7}{a b c:Int} (h1:Way g a b) (h2:Way g b c):Way g a c:=by
 induction h2 with
 | one he=>exact Way.more h1 he
 | more _ he ih=>exact Way.more (ih h1) he
def bAt (l:List Bool) (z:Int):Bool:=match l[z.toNat]? with | some b=>b | none=>false
def Ziu (g:Zv7) (a:Int) (T:List Bool):Prop:=∀e∈g.edges,(e.src=a∨bAt T e.src=true)->bAt T e.dst=true
theorem ZtI (n:Int) (h:n<=4096):ZpM n=Zks n:=by
 by_cases h0:n<0
 ·rw[ZsR h0]
  unfold ZpM
  rw[List.any_eq_false]
  intro k _ he
  have he:=eq_of_beq he
  have:(0:Int)<2 ^ k:=Int.pow_pos (by omega)
  omega
 ·obtain⟨m,rfl⟩:∃m:Nat,n=(m:Int):=⟨n.toNat,by omega⟩
  rw[Zpr m (by omega),ZlH m (by omega)]
def rng (n m:Int):Bool:=decide (1<=n)&&decide (n<=m)
theorem ZwR (n m:Int):ZaM n m=some (rng n m):=by
 unfold ZaM rng
 cases decide (1<=n)<;>cases decide (n<=m)<;>rfl
noncomputable def Z2 (s:Za):Bool:=Zks s.period&&(!decide (4096<s.period)&&(rng s.deadline s.period&&(rng s.total 4096&&(rng s.long s.total&&rng s.most s.long))))
theorem ZiW (s:Za):Zbx s=some (bif Z2 s then 0 else 140):=by
 obtain⟨k,hk⟩:=Zrr s.period
 unfold Zbx Z2
 simp only[hk,ZwR,bS]
 cases Zks s.period<;>cases decide (4096<s.period)<;>cases rng s.deadline s.period<;>cases rng s.total 4096<;>cases rng s.long s.total<;>cases rng s.most s.long<;>rfl
structure Zb9 (s:Za):Prop where
 p:s.period<=4096
 d1:1<=s.deadline
 d2:s.deadline<=s.period
 t1:1<=s.total
 t2:s.total<=4096
 l1:1<=s.long
 l2:s.long<=s.total
 m1:1<=s.most
 m2:s.most<=s.long
theorem Zgg {s:Za} (h:Z2 s=true):Zb9 s:=by
 unfold Z2 rng at h
 simp only[aT,Bool.not_eq_true',decide_eq_false_iff_not,decide_eq_true_eq] at h
 obtain⟨_,h1,h2,h3,h4,h5⟩:=h
 exact⟨by omega,h2.1,h2.2,h3.1,h3.2,h4.1,h4.2,h5.1,h5.2⟩
theorem Zqm (a b:Int) (ha:0<=a) (ha2:a<=1099511627775) (hb:0<=b) (hb2:b<=1099511627775):ZfI [a,b]=some 0:=by
 have ne:∀x:Int,0<=x->x<=1099511627775->ZaB x=some false:=fun x h1 h2=>by
  unfold ZaB
  rw[ZkQ]
  unfold Zgq
  rw[dF (show ¬x<0 by omega),dF (show ¬1099511627775<x by omega)]
  rfl
 have key:lp (Zz [a,b] (fun z0=>ZaB z0)) 0=some (.inr ()):=by
  have:=ZdV [a,b] (Zz [a,b] (fun z0=>ZaB z0)) (fun _ _=>false) (fun i _=>.inl (i:Int)) (.inr ()) (fun i x hi hx=>by
   have hx':x=a∨x=b:=by
    have:=mG hx
    simpa using this
   have e:ZaB x=some false:=by
    rcases hx' with rfl | rfl
    ·exact ne _ ha ha2
    ·exact ne _ hb hb2
   simp only[Zz,ZcI hi,Zx hx,bS,ZF hi (show [a,b].length<9223372036854775808 by simp),cT,e,cF]) (by simp only[Zz,Zdd];rfl)
  rw[this]
  rfl
 unfold ZfI ZaL
 rw[key]
 rfl
theorem Zqi (s:Za) (h:Z2 s=true):ZaC s=some (decide (s.deadline<s.total)):=by
 have o:=Zgg h
 have o1:=o.p;have o2:=o.d1;have o3:=o.d2;have o4:=o.t1;have o5:=o.t2;have o6:=o.l1;have o7:=o.l2
 unfold ZaC
 rw[ZiW,h]
 simp only[cT,bS,beq_self_eq_true]
 unfold Ze5
 by_cases h1:s.deadline<s.total
 ·rw[dT h1]
  simp only[cT,bS]
  unfold Za5 Zay
  by_cases h2:s.deadline<=s.long
  ·rw[dT h2]
   rfl
  ·rw[dF h2]
   have e1:w64 (s.total-s.long)=s.total-s.long:=ZaI (by omega)
   have e2:w64 (s.deadline-s.long)=s.deadline-s.long:=ZaI (by omega)
   have up:∃n,2<=n/\ZfQ (s.total-s.long) (s.deadline-s.long)=some (n,0):=by
    unfold ZfQ Zds Ze8
    rw[Zqm _ _ (by omega) (by omega) (by omega) (by omega)]
    have e3:w64 (s.deadline-s.long-1)=s.deadline-s.long-1:=ZaI (by omega)
    have e4:w64 (s.total-s.long+(s.deadline-s.long-1))=s.total-s.long+(s.deadline-s.long-1):=ZaI (by omega)
    have hq:2<=(s.total-s.long+(s.deadline-s.long-1)) / (s.deadline-s.long):=Int.le_ediv_of_mul_le (by omega) (by omega)
    have hq2:(s.total-s.long+(s.deadline-s.long-1)) / (s.deadline-s.long)<=s.total-s.long+(s.deadline-s.long-1):=Int.ediv_le_self _ (by omega)
    refine⟨(s.total-s.long+(s.deadline-s.long-1)) / (s.deadline-s.long),hq,?_⟩
    simp only[bS,bne_self_eq_false,cF,show((s.deadline-s.long)==0)=false by simp;omega,e3,e4]
    rw[Int.tdiv_eq_ediv_of_nonneg (by omega),ZaI (by omega)]
   obtain⟨n,n1,n2⟩:=up
   simp only[cF,e1,e2,n2,bS,beq_self_eq_true,cT]
   by_cases h3:8<n
   ·rw[dT h3];rfl
   ·rw[dF h3]
    simp only[cF,bS,show(n==1)=false by simp;omega,Bool.false_and,Bool.not_false,cT]
 ·rw[dF h1]
  rfl
theorem ZzU (a b:Int) (ha:0<=a) (ha2:a<=4096) (hb:1<=b) (hb2:b<=4096):ZfQ a b=some ((a+(b-1)) / b,0):=by
 unfold ZfQ Zds Ze8
 rw[Zqm _ _ (by omega) (by omega) (by omega) (by omega)]
 have e3:w64 (b-1)=b-1:=ZaI (by omega)
 have e4:w64 (a+(b-1))=a+(b-1):=ZaI (by omega)
 have h0:0<=(a+(b-1)) / b:=Int.ediv_nonneg (by omega) (by omega)
 have hq2:(a+(b-1)) / b<=a+(b-1):=Int.ediv_le_self _ (by omega)
 simp only[bS,bne_self_eq_false,cF,show(b==0)=false by simp;omega,e3,e4]
 rw[Int.tdiv_eq_ediv_of_nonneg (by omega),ZaI (by omega)]
theorem Zd2 (s:Za):ZbB s=some (Z2 s):=by
 obtain⟨k,hk⟩:=ZtG s.period
 unfold ZbB Z2 rng
 simp only[hk,bS]
 by_cases hp:s.period<=4096
 ·rw[ZtI _ hp,dT hp,dF (show ¬4096<s.period by omega)]
  cases Zks s.period with
  | false=>rfl
  | true=>
   cases decide (1<=s.deadline) with
   | false=>rfl
   | true=>
    cases decide (s.deadline<=s.period) with
    | false=>rfl
    | true=>
     cases decide (1<=s.total) with
     | false=>rfl
     | true=>cases decide (s.total<=4096)<;>cases decide (1<=s.long)<;>cases decide (s.long<=s.total)<;>cases decide (1<=s.most)<;>cases decide (s.most<=s.long)<;>rfl
 ·rw[dF hp,dT (show 4096<s.period by omega)]
  cases ZpM s.period<;>cases Zks s.period<;>rfl
def upN (s:Za):Int:=(s.total-s.long+(s.deadline-s.long-1)) / (s.deadline-s.long)
noncomputable def Zcb (s:Za):Int×Int:=bif Z2 s then (bif decide (s.deadline<s.total) then (bif decide (s.deadline<=s.long) then (0,141) else bif decide (8<upN s) then (0,142) else (upN s,0)) else (1,0)) else (0,140)
theorem Zrn {s:Za} (h:s.long<s.deadline) (n:Int):upN s<=n↔s.total-s.long<=n*(s.deadline-s.long):=by
 have hb:0<s.deadline-s.long:=by omega
 have:=Int.ediv_lt_iff_lt_mul (a:=s.total-s.long+(s.deadline-s.long-1)) (b:=n+1) hb
 rw[Int.add_mul,Int.one_mul] at this
 unfold upN
 omega
theorem ZtF (s:Za):Zd1 s=some (Zcb s):=by
 unfold Zd1 Zcb
 rw[ZiW]
 cases h:Z2 s with
 | false=>rfl
 | true=>
  have o:=Zgg h
  have o1:=o.p;have o2:=o.d1;have o3:=o.d2;have o4:=o.t1;have o5:=o.t2;have o6:=o.l1;have o7:=o.l2
  simp only[cT,bS,bne_self_eq_false,cF]
  unfold Ze5
  cases h1:decide (s.deadline<s.total) with
  | false=>rfl
  | true=>
   have h1:=of_decide_eq_true h1
   simp only[cT,bS]
   unfold Za5
   by_cases h2:s.deadline<=s.long
   ·rw[dT h2];rfl
   ·rw[dF h2]
    have e1:w64 (s.total-s.long)=s.total-s.long:=ZaI (by omega)
    have e2:w64 (s.deadline-s.long)=s.deadline-s.long:=ZaI (by omega)
    simp only[cF,e1,e2,ZzU _ _ (show 0<=s.total-s.long by omega) (by omega) (show 1<=s.deadline-s.long by omega) (by omega),bS,beq_self_eq_true,cT]
    show(bif decide (8<upN s) then _ else _:Option ZcP).bind _=_
    cases decide (8<upN s)<;>rfl
theorem Zmd (s:Za):Zd3 s=some (Zcb s):=by
 unfold Zd3 Zcb
 rw[Zd2]
 cases h:Z2 s with
 | false=>rfl
 | true=>
  have o:=Zgg h
  have o1:=o.p;have o2:=o.d1;have o3:=o.d2;have o4:=o.t1;have o5:=o.t2;have o6:=o.l1;have o7:=o.l2
  simp only[cT,bS]
  by_cases h1:s.deadline<s.total
  ·rw[dT h1,dF (show ¬s.total<=s.deadline by omega)]
   by_cases h2:s.deadline<=s.long
   ·rw[dT h2];rfl
   ·rw[dF h2]
    have e1:w64 (s.total-s.long)=s.total-s.long:=ZaI (by omega)
    have e2:w64 (s.deadline-s.long)=s.deadline-s.long:=ZaI (by omega)
    have u:=Zrn (s:=s) (by omega)
    have u1:1<=upN s:=by
     have:=(u 0).1
     rw[Int.zero_mul] at this
     omega
    have key:∀m k:Nat,k+m=9->1<=k->(k:Int)<=upN s->lp (ZbE s) (k:Int)=some (bif decide (8<upN s) then .inr () else .inl (upN s)):=by
     intro m
     induction m with
     | zero=>
      intro k hk _ hu
      have:k=9:=by omega
      subst this
      rw[ZdB]
      simp only[ZbE,dF (show ¬(((9:Nat):Int)<=8) by omega),cF,dT (show 8<upN s by omega),cT]
     | succ m ih=>
      intro k hk h1k hu
      have hb:(k:Int)*(s.deadline-s.long)<=8*4096:=by
       have:=Int.mul_le_mul (show(k:Int)<=8 by omega) (show s.deadline-s.long<=4096 by omega) (by omega) (by omega)
       exact this
      have hb0:0<=(k:Int)*(s.deadline-s.long):=Int.mul_nonneg (by omega) (by omega)
      have e3:w64 ((k:Int)*(s.deadline-s.long))=(k:Int)*(s.deadline-s.long):=ZaI (by omega)
      have e4:w64 ((k:Int)+1)=((k+1:Nat):Int):=ZF (show k<100 by omega) (by omega)
      rw[ZdB]
      simp only[ZbE,dT (show(k:Int)<=8 by omega),cT,e1,e2,e3,e4]
      by_cases hle:upN s<=(k:Int)
      ·rw[dT ((u k).1 hle),dF (show ¬8<upN s by omega)]
       simp only[cT,cF]
       rw[show upN s=(k:Int) by omega]
      ·rw[dF (fun h=>hle ((u k).2 h))]
       simp only[cF]
       exact ih (k+1) (by omega) (by omega) (by omega)
    have k1:=key 8 1 rfl (by omega) (by simpa using u1)
    rw[show((1:Nat):Int)=1 from rfl] at k1
    rw[k1]
    cases decide (8<upN s)<;>rfl
  ·rw[dF h1,dT (show s.total<=s.deadline by omega)]
   rfl
def Zqp (l:List Za) (z:Int):Int:=match l[z.toNat]? with | some s=>s.total | none=>0
def ahead (l:List Za) (x y:Int):Prop:=Zqp l y<Zqp l x∨(Zqp l x=Zqp l y/\x<y)
def ZtC:Nat->Nat->LI
 | _,0=>[]
 | i,k+1=>(i:Int) :: ZtC (i+1) k
theorem Zo4:∀(k i:Nat),(ZtC i k).length=k
 | 0,_=>rfl
 | k+1,i=>by unfold ZtC;rw[length_cons,Zo4 k]
structure ZkN (l:List Za) (r:LI):Prop where
 perm:r.Perm (ZtC 0 l.length)
 rise:r.Pairwise (ahead l)
theorem ZkN.len {l:List Za}{r:LI} (h:ZkN l r):r.length=l.length:=by rw[h.perm.length_eq,Zo4]
theorem ZkN.nodup {l:List Za}{r:LI} (h:ZkN l r):r.Nodup:=h.rise.imp fun {x y} hp he=>by
 subst he
 unfold ahead at hp
 omega
open Int (le_refl)
noncomputable section
def okS (s:Za):Bool:=Z2 s&&decide (s.total<=s.deadline)
theorem ZvR (s:Za):ZaD s=some (!(okS s)):=by
 unfold ZaD okS
 rw[ZiW]
 cases h:Z2 s with
 | false=>rfl
 | true=>
  rw[Zqi s h]
  have e:decide (s.deadline<s.total) = !decide (s.total<=s.deadline):=by rw[<- decide_not];exact decide_eq_decide.2 (by omega)
  simp only[cT,bS,bne_self_eq_false,cF,e]
  cases decide (s.total<=s.deadline)<;>rfl
def ZbC (l:List Za):Bool:=!decide ((8:Int)<(l.length:Int)) && !(l.any fun s=>!(okS s))
theorem ZuX (l:List Za) (hl:l.length<=1000):Zee l=some (bif ZbC l then 0 else 150):=by
 have key:ZQ l (fun z0=>ZaD z0)=some (l.any fun s=>!(okS s)):=by
  unfold ZQ Zah
  rw[ZdV l (ZB l (fun z0=>ZaD z0)) (fun _ s=>!(okS s)) (fun i _=>.inl (i:Int)) (.inr ()) (fun i x hi hx=>by
   simp only[ZB,ZcI hi,Zx hx,bS,ZvR,ZF hi (by omega),cT]
   cases okS x<;>rfl) (by simp only[ZB,Zdd];rfl)]
  rcases Zie (fun s=>!(okS s)) () l 0 with⟨j,e1,e2⟩ | ⟨e1,e2⟩
  ·rw[e1,e2]
   show(bif decide ((0:Int)<=(j:Int)) then some true else some false)=some true
   rw[dT (by omega)]
   rfl
  ·rw[e1,e2]
   rfl
 unfold Zee ZbC
 rw[key]
 cases decide ((8:Int)<(l.length:Int)) with
 | true=>rfl
 | false=>cases (l.any fun s=>!(okS s))<;>rfl
theorem ZaN {l:List Za} (h:ZbC l=true):l.length<=8/\∀s∈l,Zb9 s/\s.total<=s.deadline:=by
 unfold ZbC at h
 simp only[aT,Bool.not_eq_true',decide_eq_false_iff_not] at h
 refine⟨by omega,fun s hs=>?_⟩
 have:=List.any_eq_false.1 h.2 s hs
 simp only[Bool.not_eq_true',Bool.not_eq_false] at this
 unfold okS at this
 simp only[aT,decide_eq_true_eq] at this
 exact⟨Zgg this.1,this.2⟩
def Zb1 (t:Int) (s:Za):Int:=if t<s.deadline then 0 else s.total*((t-s.deadline) / s.period+1)
def Zey (t:Int) (s:Za):Int:=if t<s.deadline then s.most else 0
def dem (t:Int):List Za->Int
 | []=>0
 | s :: l=>Zb1 t s+dem t l
def blk (t:Int):List Za->Int
 | []=>0
 | s :: l=>max (Zey t s) (blk t l)
def hor:List Za->Int
 | []=>0
 | s :: l=>max s.period (hor l)
theorem ZpS (l:List Za) (hl:l.length<=8) (b:Int->Za->Option Int) (F:Int->Za->Int) (h:∀n s,s∈l->0<=n->n<=1152921504606846976->b n s=some (F n s)/\0<=F n s/\F n s<=n+18014398509481984):Zck l b=some (l.foldl F 0):=by
 have key:=ZpZ l (ZaX l b) (fun i (n:Int)=>(n,(i:Int))) (fun i x n=>(b n x).map Sum.inl) (fun n=>some n) (fun i x n hi hx=>by
   simp only[ZaX,ZcI hi,Zx hx,bS,ZF hi (by omega),cT]
   cases b n x<;>rfl) (fun n=>by simp only[ZaX,Zdd];rfl) 0
 have sc:∀(m:List Za) (i:Nat) (n:Int),(∀s∈m,s∈l)->0<=n->n+18014398509481984*m.length<=1152921504606846976->Znu (fun(_:Nat) x n=>(b n x).map (Sum.inl:Int->Int⊕Int)) (fun n=>some n) i m n=some (m.foldl F n):=by
  intro m
  induction m with
  | nil=>intro i n _ _ _;rfl
  | cons x m ih=>
   intro i n hm h0 hn
   rw[length_cons] at hn
   obtain⟨h1,h2,h3⟩:=h n x (hm x (by simp)) h0 (by omega)
   unfold Znu
   rw[h1]
   exact ih (i+1) (F n x) (fun s hs=>hm s (by simp[hs])) h2 (by omega)
 have key2:lp (ZaX l b) (0,0)=_:=key
 unfold Zck
 rw[key2,sc l 0 0 (fun s h=>h) (by omega) (by omega)]
 rfl
theorem Zjv (g:Za->Int) (f:List Za->Int) (h0:f []=0) (h1:∀s l,f (s :: l)=g s+f l):∀(l:List Za) (n:Int),l.foldl (fun n s=>n+g s) n=n+f l
 | [],n=>by rw[h0];simp
 | s :: l,n=>by
  rw[List.foldl_cons,Zjv g f h0 h1 l,h1]
  omega
theorem ZfW (g:Za->Int) (f:List Za->Int) (h0:f []=0) (h1:∀s l,f (s :: l)=max (g s) (f l)):∀(l:List Za) (n:Int),0<=n->l.foldl (fun n s=>max n (g s)) n=max n (f l)
 | [],n,hn=>by rw[h0];simp;omega
 | s :: l,n,hn=>by
  rw[List.foldl_cons,ZfW g f h0 h1 l _ (by omega),h1]
  omega
theorem Zgy {s:Za} (o:Zb9 s) {t:Int} (h1:1<=t) (h2:t<=4096):0<=Zb1 t s/\Zb1 t s<=33554432:=by
 have:=o.t1;have:=o.t2;have:=o.d1;have:=o.d2
 unfold Zb1
 split
 ·omega
 ·have q1:0<=(t-s.deadline) / s.period:=Int.ediv_nonneg (by omega) (by omega)
  have q2:(t-s.deadline) / s.period<=t-s.deadline:=Int.ediv_le_self _ (by omega)
  constructor
  ·exact Int.mul_nonneg (by omega) (by omega)
  ·have:s.total*((t-s.deadline) / s.period+1)<=4096*8192:=Int.mul_le_mul (by omega) (by omega) (by omega) (by omega)
   omega
theorem ZrT (l:List Za) (h:ZbC l=true) (t:Int) (h1:1<=t) (h2:t<=4096):ZeD l t=some (dem t l):=by
 obtain⟨hl,ho⟩:=ZaN h
 have key:=ZpS l hl (fun z0 z1=>Za3 z0 z1 t) (fun n s=>n+Zb1 t s) (fun n s hs hn hn2=>by
  have o:=(ho s hs).1
  obtain⟨b1,b2⟩:=Zgy o h1 h2
  have:=o.t1;have:=o.t2;have:=o.d1;have:=o.d2;have:=o.p
  refine⟨?_,by omega,by omega⟩
  show Za3 n s t=some (n+Zb1 t s)
  unfold Za3
  unfold Zb1 at b1 b2 ⊢
  by_cases hd:t<s.deadline
  ·rw[dT hd,if_pos hd,Int.add_zero];rfl
  ·rw[dF hd,if_neg hd]
   rw[if_neg hd] at b1 b2
   have q1:0<=(t-s.deadline) / s.period:=Int.ediv_nonneg (by omega) (by omega)
   have q2:(t-s.deadline) / s.period<=t-s.deadline:=Int.ediv_le_self _ (by omega)
   have e1:w64 (t-s.deadline)=t-s.deadline:=ZaI (by omega)
   have e2:w64 (Int.tdiv (t-s.deadline) s.period)=(t-s.deadline) / s.period:=by
    rw[Int.tdiv_eq_ediv_of_nonneg (by omega)]
    exact ZaI (by omega)
   have e3:w64 ((t-s.deadline) / s.period+1)=(t-s.deadline) / s.period+1:=ZaI (by omega)
   have e4:w64 (s.total*((t-s.deadline) / s.period+1))=s.total*((t-s.deadline) / s.period+1):=ZaI (by omega)
   have e5:w64 (n+s.total*((t-s.deadline) / s.period+1))=n+s.total*((t-s.deadline) / s.period+1):=ZaI (by omega)
   simp only[cF,show(s.period==0)=false by simp;omega,e1,e2,e3,e4,e5])
 unfold ZeD
 rw[key,Zjv (Zb1 t) (dem t) rfl (fun _ _=>rfl),Int.zero_add]
 rfl
theorem Ztg (l:List Za) (h:ZbC l=true) (t:Int):ZfF l t=some (blk t l):=by
 obtain⟨hl,ho⟩:=ZaN h
 have key:=ZpS l hl (fun z0 z1=>Zbw z0 z1 t) (fun n s=>max n (Zey t s)) (fun n s hs hn hn2=>by
  have o:=(ho s hs).1
  have:=o.m1;have:=o.m2;have:=o.l2;have:=o.t2
  show Zbw n s t=some (max n (Zey t s))/\_
  unfold Zbw Zey
  by_cases hd:t<s.deadline
  ·rw[dT hd,if_pos hd]
   refine⟨?_,by omega,by omega⟩
   by_cases hm:n<s.most
   ·rw[dT hm,show max n s.most=s.most by omega];rfl
   ·rw[dF hm,show max n s.most=n by omega];rfl
  ·rw[dF hd,if_neg hd]
   refine⟨?_,by omega,by omega⟩
   rw[show max n (0:Int)=n by omega]
   rfl)
 have hb:∀m:List Za,0<=blk t m:=fun m=>by
  induction m with
  | nil=>exact le_refl _
  | cons s m ih=>unfold blk;omega
 unfold ZfF
 rw[key,ZfW (Zey t) (blk t) rfl (fun _ _=>rfl) l 0 (le_refl _),show max (0:Int) (blk t l)=blk t l by have:=hb l;omega]
 rfl
theorem Zjo (l:List Za) (h:ZbC l=true):Zd5 l=some (hor l):=by
 obtain⟨hl,ho⟩:=ZaN h
 have key:=ZpS l hl (fun z0 z1=>ZaK z0 z1) (fun n s=>max n s.period) (fun n s hs hn hn2=>by
  have o:=(ho s hs).1
  have:=o.p;have:=o.d1;have:=o.d2
  show ZaK n s=some (max n s.period)/\_
  unfold ZaK
  refine⟨?_,by omega,by omega⟩
  by_cases hm:n<s.period
  ·rw[dT hm,show max n s.period=s.period by omega];rfl
  ·rw[dF hm,show max n s.period=n by omega];rfl)
 have hb:∀m:List Za,0<=hor m:=fun m=>by
  induction m with
  | nil=>exact le_refl _
  | cons s m ih=>unfold hor;omega
 unfold Zd5
 rw[ZuX l (by omega),h]
 simp only[cT,bS,bne_self_eq_false,cF]
 rw[key,ZfW (fun s=>s.period) hor rfl (fun _ _=>rfl) l 0 (le_refl _),show max (0:Int) (hor l)=hor l by have:=hb l;omega]
 rfl
theorem Zry {l:List Za} (h:∀s∈l,Zb9 s/\s.total<=s.deadline):hor l<=4096:=by
 induction l with
 | nil=>unfold hor;omega
 | cons s l ih=>
  have:=ih fun x hx=>h x (by simp[hx])
  have:=(h s (by simp)).1.p
  unfold hor
  omega
def ZqL (l:List Za) (s:Za) (t:Int):Prop:=∀k:Nat,t+k*s.period<=hor l->dem (t+k*s.period) l+blk (t+k*s.period) l<=t+k*s.period
def ZmF (l:List Za):Prop:=ZbC l=true/\∀s∈l,ZqL l s s.deadline
def Zju (l:List Za):Bool:=@decide (ZmF l) (Classical.propDecidable _)
theorem Zhg (l:List Za):Zju l=true↔ZmF l:=by unfold Zju;exact @decide_eq_true_iff _ (Classical.propDecidable _)
def ZiR (l:List Za) (s:Za):Bool:=@decide (¬ZqL l s s.deadline) (Classical.propDecidable _)
theorem Zlf {l:List Za} (h:ZbC l=true) {t:Int} (h1:1<=t) (h2:t<=4096):0<=dem t l/\dem t l<=33554432*l.length/\0<=blk t l/\blk t l<=4096:=by
 have ho:=(ZaN h).2
 clear h
 induction l with
 | nil=>unfold dem blk;simp
 | cons s l ih=>
  obtain⟨a1,a2,a3,a4⟩:=ih fun x hx=>ho x (by simp[hx])
  have o:=(ho s (by simp)).1
  obtain⟨b1,b2⟩:=Zgy o h1 h2
  have:=o.m1;have:=o.m2;have:=o.l2;have:=o.t2
  have c:0<=Zey t s/\Zey t s<=4096:=by unfold Zey;split<;>omega
  unfold dem blk
  rw[length_cons]
  omega
theorem Zuk (l:List Za) (h:ZbC l=true) (s:Za) (hs:s∈l):∀(m:Nat) (t:Int),1<=t->t<=8192->4096-t<(m:Int)->∃r,lp (Zb7 l s) t=some r/\(r = .inr ()/\ZqL l s t∨r = .inl ()/\¬ZqL l s t):=by
 obtain⟨hl,ho⟩:=ZaN h
 have o:=(ho s hs).1
 have hh:=Zry ho
 have:=o.p;have:=o.d1;have:=o.d2
 intro m
 induction m with
 | zero=>
  intro t h1 h2 hm
  rw[ZdB]
  simp only[Zb7,Zjo l h,bS,dF (show ¬t<=hor l by omega),cF]
  refine⟨_,rfl,.inl ⟨rfl,fun k hk=>?_⟩⟩
  have:0<=(k:Int)*s.period:=Int.mul_nonneg (by omega) (by omega)
  omega
 | succ m ih=>
  intro t h1 h2 hm
  rw[ZdB]
  by_cases ht:t<=hor l
  ·have t4:t<=4096:=by omega
   obtain⟨a1,a2,a3,a4⟩:=Zlf h h1 t4
   have e1:w64 (dem t l+blk t l)=dem t l+blk t l:=ZaI (by omega)
   have e2:w64 (t+s.period)=t+s.period:=ZaI (by omega)
   simp only[Zb7,Zjo l h,bS,dT ht,cT,ZrT l h t h1 t4,Ztg l h t,e1,e2]
   by_cases hv:t<dem t l+blk t l
   ·rw[dT hv]
    refine⟨_,rfl,.inr ⟨rfl,fun hk=>?_⟩⟩
    have:=hk 0 (by simpa using ht)
    simp only[Int.natCast_zero,Int.zero_mul,Int.add_zero] at this
    omega
   ·rw[dF hv]
    simp only[cF]
    obtain⟨r,r1,r2⟩:=ih (t+s.period) (by omega) (by omega) (by omega)
    have key:ZqL l s t↔ZqL l s (t+s.period):=by
     constructor
     ·intro hk k hk2
      have e:t+s.period+(k:Int)*s.period=t+((k+1:Nat):Int)*s.period:=by
       rw[Int.natCast_add,Int.add_mul];omega
      rw[e] at hk2 ⊢
      exact hk (k+1) hk2
     ·intro hk k hk2
      cases k with
      | zero=>
       simp only[Int.natCast_zero,Int.zero_mul,Int.add_zero]
       omega
      | succ k=>
       have e:t+s.period+(k:Int)*s.period=t+((k+1:Nat):Int)*s.period:=by
        rw[Int.natCast_add,Int.add_mul];omega
       have:=hk k
       rw[e] at this
       exact this hk2
    exact⟨r,r1,by rw[key];exact r2⟩
  ·simp only[Zb7,Zjo l h,bS,dF ht,cF]
   refine⟨_,rfl,.inl ⟨rfl,fun k hk=>?_⟩⟩
   have:0<=(k:Int)*s.period:=Int.mul_nonneg (by omega) (by omega)
   omega
theorem Zsu (l:List Za) (hl:l.length<=1000):Ze6 l=some (Zju l):=by
 unfold Ze6
 rw[ZuX l hl]
 cases h:ZbC l with
 | false=>
  have:Zju l=false:=by
   cases hf:Zju l with
   | false=>rfl
   | true=>have:=((Zhg l).1 hf).1;rw[h] at this;cases this
  rw[this]
  rfl
 | true=>
  obtain⟨hl8,ho⟩:=ZaN h
  have key:=ZdV l (ZcS l) (fun _ s=>ZiR l s) (fun _ _=>.inl ()) (.inr ()) (fun i x hi hx=>by
   have hm:=mG hx
   have o:=(ho x hm).1
   have:=o.p;have:=o.d1;have:=o.d2
   obtain⟨r,r1,r2⟩:=Zuk l h x hm 4097 x.deadline o.d1 (by omega) (by omega)
   simp only[ZcS,ZcI hi,Zx hx,bS,ZF hi (by omega),cT,r1]
   rcases r2 with⟨rfl,hk⟩ | ⟨rfl,hk⟩
   ·rw[show ZiR l x=false by unfold ZiR;exact @decide_eq_false _ (Classical.propDecidable _) (fun h=>h hk)];rfl
   ·rw[show ZiR l x=true by unfold ZiR;exact @decide_eq_true _ (Classical.propDecidable _) hk];rfl) (by simp only[ZcS,Zdd];rfl)
  rw[Zc0,Zg6] at key
  simp only[cT,bS,bne_self_eq_false,cF,key]
  have e:Zju l = !(l.any (ZiR l)):=by
   rw[Bool.eq_iff_iff,Zhg,Bool.not_eq_true',List.any_eq_false]
   constructor
   ·rintro ⟨_,hk⟩ s hs hlate
    unfold ZiR at hlate
    exact(@of_decide_eq_true _ (Classical.propDecidable _) hlate) (hk s hs)
   ·intro hk
    refine⟨h,fun s hs=>?_⟩
    have:=hk s hs
    unfold ZiR at this
    exact Classical.not_not.1 fun hn=>this (@decide_eq_true _ (Classical.propDecidable _) hn)
  rw[e]
  cases l.any (ZiR l)<;>rfl
end
def on (l:List Za) (at_:LI) (core:Int):List Za:=((l.zip at_).filter fun p=>p.2==core).map Prod.fst
theorem ZoP (a b:LI) (hl:a.length<9223372036854775808):Zcx a b=some (decide (a=b)):=by
  unfold Zcx
  by_cases he:a.length=b.length
  · have key := Zhx a b he (Zb0 a b) (fun i x y hi hx hy => by
        simp only[Zb0,ZcI hi,Zx hx,Zx hy,bS,ZF hi hl,cT]
        have e:(x != y) = !decide (x=y):=by rw[Bool.eq_iff_iff];simp
        rw[e]
        cases decide (x=y)<;>rfl) (by simp only[Zb0,Zdd];rfl)
    rw[key,show((a.length:Int) != (b.length:Int))=false by rw[he];simp]
    cases decide (a=b)<;>rfl
  · rw[show((a.length:Int) != (b.length:Int))=true by simp;omega,dF (fun h=>he (by rw[h]))]
    rfl
theorem ZrA {x:D} (h:ZqX (.sl true [.int .i64,.int .i64,.int .i64,.int .i64,.int .i64]) x):∃l:List Za,x = .list true (l.map Zf):=by
  obtain⟨l,h1,_,_⟩:=Zto (f:=Zf) (p:=fun _=>True) h fun cs hc=>by
    obtain⟨_,_,rfl,⟨a,rfl,_⟩,_,_,rfl,⟨b,rfl,_⟩,_,_,rfl,⟨c,rfl,_⟩,_,_,rfl,⟨d,rfl,_⟩,_,_,rfl,⟨e,rfl,_⟩,rfl⟩:=hc
    exact⟨⟨a,b,c,d,e⟩,rfl,trivial⟩
  exact⟨l,h1⟩
theorem ZxO:((0:Int) != 0)=false:=rfl
def hv (s:Za):Bool:=decide (s.deadline<s.total)
theorem Zsx {s:Za} (h:(Zcb s).2=0):Z2 s=true/\1<=(Zcb s).1/\(Zcb s).1<=8/\(hv s=false->(Zcb s).1=1):=by
 unfold Zcb at h ⊢
 unfold hv
 cases ho:Z2 s with
 | false=>rw[ho] at h;exact absurd (show(140:Int)=0 from h) (by decide)
 | true=>
  rw[ho] at h
  simp only[cT] at h ⊢
  have o:=Zgg ho
  have o2:=o.d1;have o4:=o.t1;have o6:=o.l1;have o7:=o.l2
  by_cases q1:s.deadline<s.total
  ·rw[dT q1] at h ⊢
   simp only[cT] at h ⊢
   by_cases q2:s.deadline<=s.long
   ·rw[dT q2] at h;exact absurd (show(141:Int)=0 from h) (by decide)
   ·rw[dF q2] at h ⊢
    simp only[cF] at h ⊢
    by_cases q3:8<upN s
    ·rw[dT q3] at h;exact absurd (show(142:Int)=0 from h) (by decide)
    ·rw[dF q3]
     simp only[cF]
     have h1:1<=upN s:=by
      apply Classical.byContradiction
      intro hn
      have h0:upN s<=0:=by omega
      have:=(Zrn (show s.long<s.deadline by omega) 0).1 h0
      omega
     exact⟨trivial,h1,by omega,fun e=>by cases e⟩
  ·rw[dF q1]
   simp only[cF]
   exact⟨trivial,by omega,by omega,fun _=>trivial⟩
def Zmx:Nat->Nat->LI
 | _,0=>[]
 | k,n+1=>(k:Int) :: Zmx (k+1) n
theorem Zjy:∀(n k:Nat),(Zmx k n).length=n
 | 0,_=>rfl
 | n+1,k=>by unfold Zmx;rw[length_cons,Zjy n]
noncomputable section
abbrev Zgw:=Za×LI
theorem Zgz {s:List Za}{r:List LI}{i:Nat}{z:Zgw} (h:(s.zip r)[i]? = some z):s[i]? = some z.1/\r[i]? = some z.2:=List.getElem?_zip_eq_some.1 h
theorem Zj9 (s:List Za) (r:List LI):(bif decide ((r.length:Int)<(s.length:Int)) then (r.length:Int) else (s.length:Int))=((s.zip r).length:Int):=by
 rw[length_zip]
 by_cases h:(r.length:Int)<(s.length:Int)
 ·rw[dT h,cT];omega
 ·rw[dF h,cF];omega
def hvB (s:Za):Bool:=Z2 s&&hv s
theorem ZkZ (s:Za):ZaC s=some (hvB s):=by
 unfold hvB
 cases h:Z2 s with
 | true=>rw[Zqi s h];rfl
 | false=>unfold ZaC;rw[ZiW,h];rfl
def hsB (z:Zgw) (c:Int):Bool:=z.2.any fun x=>c==x
def Zqn (r:LI) (i:Nat) (x:Int):Bool:=match r[i-1]? with | some y=>decide (x<=y) | none=>false
def ZnF (r:LI) (c:Int):Bool:=ZoS (fun i x=>decide (x<0) || (decide (c<=x) || (decide (0<i)&&Zqn r i x))) 0 r
theorem Zmy (r:LI) (c:Int) (hr:r.length<=1000):lp (Za7 r c) 0=some (bif ZnF r c then .inl () else .inr ()):=by
 have key:=ZdV r (Za7 r c) (fun i x=>decide (x<0) || (decide (c<=x) || (decide (0<i)&&Zqn r i x))) (fun _ _=>.inl ()) (.inr ()) (fun i x hi hx=>by
   have hw:=ZF hi (by omega)
   simp only[Za7,ZcI hi,cT,Zx hx,bS]
   cases decide (x<0) with
   | true=>rfl
   | false=>
    cases decide (c<=x) with
    | true=>rfl
    | false=>
     simp only[cF,Bool.false_or]
     by_cases h0:0<i
     ·have hp:r[i-1]? = some r[i-1]:=gE (by omega)
      have hq:Zqn r i x=decide (x<=r[i-1]):=by unfold Zqn;rw[hp]
      generalize r[i-1]=y at hp hq
      rw[dT h0,dT (show(0:Int)<(i:Int) by omega),cT,ZaI (by omega),show(i:Int)-1=((i-1:Nat):Int) by omega,Zx hp,bS,Bool.true_and,hq,hw]
      cases decide (x<=y)<;>rfl
     ·rw[dF h0,dF (show ¬(0:Int)<(i:Int) by omega),cF,hw];rfl) (by simp only[Za7,Zdd];rfl)
 rw[key,Zc0]
 rfl
def ZfR (z:Zgw) (c:Int):Bool:=(Zcb z.1).2==0&&((z.2.length:Int)==(Zcb z.1).1 && !ZnF z.2 c)
theorem ZvL (z:Zgw) (c:Int) (hr:z.2.length<=1000):Zft z.1 z.2 c=some (ZfR z c):=by
 unfold Zft ZfR
 rw[ZtF,bS,Zmy z.2 c hr,bS]
 cases ZnF z.2 c with
 | true=>cases (Zcb z.1).2==0<;>cases ((z.2.length:Int)==(Zcb z.1).1)<;>rfl
 | false=>
  simp only[cF]
  cases (Zcb z.1).2==0<;>cases ((z.2.length:Int)==(Zcb z.1).1)<;>rfl
theorem ZmS (p:Zgw->Bool):∀(l:List Zgw) (i:Nat) (b:Bool),Zci (fun _ b z=>b&&p z) i b l=(b&&l.all p)
 | [],_,b=>by simp[Zci]
 | z :: l,i,b=>by
  unfold Zci
  rw[ZmS p l,List.all_cons,Bool.and_assoc]
theorem ZwA (s:List Za) (r:List LI) (c:Int) (hs:s.length<=1000) (hr:∀x∈r,x.length<=1000):ZeE ⟨s,r⟩ c=some ((s.zip r).all fun z=>ZfR z c):=by
 have hl:(s.zip r).length<=1000:=by rw[length_zip];omega
 have:=(Zce (s.zip r) (Zbk ⟨s,r⟩ c) (fun i b=>((i:Int),b)) (fun _ b z=>b&&ZfR z c) id (fun _ _=>True) (fun i z b hi hz _=>by
   obtain⟨h1,h2⟩:=Zgz hz
   have hrow:=ZvL z c (hr _ (mG h2))
   refine⟨?_,trivial⟩
   simp only[Zbk,Zj9,ZcI hi,cT,Zx h1,Zx h2,bS,Zc1,hrow,ZF hi (by omega)]
   cases b<;>cases ZfR z c<;>rfl) (fun b _=>by simp only[Zbk,Zj9,Zdd,cF];rfl) true trivial).1
 unfold ZeE
 rw[show lp (Zbk ⟨s,r⟩ c) (0,true)=_ from this,ZmS]
 rfl
def Zh6 (c:Int):List Zgw->Nat
 | []=>0
 | z :: l=>(bif hsB z c&&hvB z.1 then 1 else 0)+Zh6 c l
def Zou (c:Int) (l:List Zgw):List Za:=(l.filter fun z=>hsB z c && !hvB z.1).map Prod.fst
theorem Zlj (c:Int):∀(l:List Zgw) (i:Nat) (n:Int) (m:List Za),Zci (fun _ (s:Int×List Za) z=>bif hsB z c then (bif hvB z.1 then (s.1+1,s.2) else (s.1,s.2++[z.1])) else s) i (n,m) l=(n+(Zh6 c l:Int),m++Zou c l)
 | [],_,n,m=>by simp[Zci,Zh6,Zou]
 | z :: l,i,n,m=>by
  have ih:=Zlj c l (i+1)
  unfold Zci Zh6
  have ho:Zou c (z :: l)=(bif hsB z c && !hvB z.1 then [z.1] else [])++Zou c l:=by
   unfold Zou
   rw[List.filter_cons]
   cases hsB z c && !hvB z.1<;>rfl
  rw[ho]
  cases hsB z c with
  | false=>
   rw[cF,ih]
   simp
  | true=>
   cases hvB z.1 with
   | true=>
    rw[cT,cT,ih]
    simp
    omega
   | false=>
    rw[cT,cF,ih]
    simp
theorem Zqd (s:List Za) (r:List LI) (c:Int) (hs:s.length<=1000) (hr:∀x∈r,x.length<=1000):ZcT ⟨s,r⟩ c 0=some ((Zh6 c (s.zip r):Int),Zou c (s.zip r)):=by
 have hl:(s.zip r).length<=1000:=by rw[length_zip];omega
 have:=(Zce (s.zip r) (Zas ⟨s,r⟩ c) (fun i s=>((i:Int),s.1,s.2)) (fun _ (s:Int×List Za) z=>bif hsB z c then (bif hvB z.1 then (s.1+1,s.2) else (s.1,s.2++[z.1])) else s) id (fun i s=>0<=s.1/\s.1<=(i:Int)/\s.2.length<=i) (fun i z st hi hz hI=>by
   obtain⟨h1,h2⟩:=Zgz hz
   have hrow:=hr _ (mG h2)
   have hhas:=ZlU z.2 c (by omega)
   change Zu z.2 c=some (hsB z c) at hhas
   obtain⟨i1,i2,i3⟩:=hI
   simp only[Zas,Zj9,ZcI hi,cT,Zx h1,Zx h2,bS,Zc4,hhas,ZkZ,ZF hi (by omega)]
   cases hsB z c with
   | false=>exact⟨rfl,i1,by show st.1<=((i+1:Nat):Int);omega,by show st.2.length<=i+1;omega⟩
   | true=>
    cases hvB z.1 with
    | true=>
     refine⟨?_,by show 0<=st.1+1;omega,by show st.1+1<=((i+1:Nat):Int);omega,by show st.2.length<=i+1;omega⟩
     simp only[cT,ZaI (n:=st.1+1) (by omega)]
     rfl
    | false=>
     refine⟨?_,i1,by show st.1<=((i+1:Nat):Int);omega,by show(st.2++[z.1]).length<=i+1;rw[lA,List.length_singleton];omega⟩
     simp only[cT,cF,Zlo (show st.2.length+1<=1073741824 by omega)]
     rfl) (fun st _=>by simp only[Zas,Zj9,Zdd,cF];rfl) (0,[]) (by simp)).1
 unfold ZcT
 rw[show lp (Zas ⟨s,r⟩ c) (0,0,([]:List Za))=_ from this,Zlj]
 simp
def Zcv (z:Zgw) (c:Int):Bool:=Z2 z.1&&(!hvB z.1&&hsB z c)
def liL (c:Int):Nat->List Zgw->LI
 | _,[]=>[]
 | i,z :: l=>bif Zcv z c then (i:Int) :: liL c (i+1) l else liL c (i+1) l
theorem Zib (c:Int):∀(l:List Zgw) (i:Nat) (m:LI),Zci (fun i m z=>bif Zcv z c then m++[(i:Int)] else m) i m l=m++liL c i l
 | [],_,m=>by simp[Zci,liL]
 | z :: l,i,m=>by
  unfold Zci liL
  rw[Zib c l]
  cases Zcv z c<;>simp
theorem Ztd (s:List Za) (r:List LI) (c:Int) (hs:s.length<=1000) (hr:∀x∈r,x.length<=1000):ZcK ⟨s,r⟩ c=some (liL c 0 (s.zip r)):=by
 have hl:(s.zip r).length<=1000:=by rw[length_zip];omega
 have:=(Zce (s.zip r) (Zat ⟨s,r⟩ c) (fun i m=>((i:Int),m)) (fun i m z=>bif Zcv z c then m++[(i:Int)] else m) id (fun i m=>m.length<=i) (fun i z m hi hz hI=>by
   obtain⟨h1,h2⟩:=Zgz hz
   have hrow:=hr _ (mG h2)
   have hhas:=ZlU z.2 c (by omega)
   change Zu z.2 c=some (hsB z c) at hhas
   simp only[Zat,Zj9,ZcI hi,cT,Zx h1,Zx h2,bS,Zc5,ZiW,hhas,ZkZ,ZF hi (by omega)]
   unfold Zcv
   cases Z2 z.1 with
   | false=>exact⟨rfl,by show m.length<=i+1;omega⟩
   | true=>
    cases hvB z.1 with
    | true=>exact⟨rfl,by show m.length<=i+1;omega⟩
    | false=>
     cases hsB z c with
     | false=>exact⟨rfl,by show m.length<=i+1;omega⟩
     | true=>
      refine⟨?_,by show(m++[(i:Int)]).length<=i+1;rw[lA,List.length_singleton];omega⟩
      simp only[cT,cF,Zlo (show m.length+1<=1073741824 by omega),ZxO,beq_self_eq_true]
      rfl) (fun m _=>by simp only[Zat,Zj9,Zdd,cF];rfl) [] (by simp)).1
 unfold ZcK Zes
 rw[show lp (Zat ⟨s,r⟩ c) (0,([]:LI))=_ from this,Zib]
 rfl
theorem ZkE (c:Int):∀(l:List Zgw) (i:Nat),(liL c i l).length<=l.length
 | [],_=>by simp[liL]
 | z :: l,i=>by
  have:=ZkE c l (i+1)
  unfold liL
  cases Zcv z c
  ·simp only[cF,length_cons];omega
  ·simp only[cT,length_cons];omega
def Zg3 (c:Int) (l:List Zgw):List Za:=(l.filter fun z=>Zcv z c).map Prod.fst
theorem Zl1 (c:Int) (s:List Za):∀(l:List Zgw) (i:Nat),(∀(j:Nat) z,l[j]? = some z->s[i+j]? = some z.1)->(liL c i l).map (fun x=>(Zj s x))=(Zg3 c l).map some
 | [],_,_=>by simp[liL,Zg3]
 | z :: l,i,h=>by
  have ih:=Zl1 c s l (i+1) fun j y hy=>by rw[show i+1+j=i+(j+1) by omega];exact h (j+1) y hy
  have ho:Zg3 c (z :: l)=(bif Zcv z c then [z.1] else [])++Zg3 c l:=by
   unfold Zg3
   rw[List.filter_cons]
   cases Zcv z c<;>rfl
  rw[ho]
  unfold liL
  cases Zcv z c with
  | false=>rw[cF,cF,ih];rfl
  | true=>
   rw[cT,cT,map_cons,ih,Zx (show s[i]? = some z.1 from h 0 z rfl)]
   rfl
end
def ptS (t:Int) (s:Za):Int:=s.deadline+((t-s.deadline) / s.period)*s.period
theorem ZuW {s:Za} (o:Zb9 s) {t:Int} (h:s.deadline<=t):s.deadline<=ptS t s/\ptS t s<=t:=by
 have:=o.d1;have:=o.d2
 unfold ptS
 have h0:0<=(t-s.deadline) / s.period:=Int.ediv_nonneg (by omega) (by omega)
 have h1:(t-s.deadline) / s.period*s.period<=t-s.deadline:=Int.ediv_mul_le _ (by omega)
 have h2:0<=(t-s.deadline) / s.period*s.period:=Int.mul_nonneg h0 (by omega)
 omega
theorem ZsL {s:Za} (o:Zb9 s) {t u:Int} (hu:u<=t) (h:s.deadline<=t->ptS t s<=u):Zb1 u s=Zb1 t s:=by
 have:=o.d1;have:=o.d2
 unfold Zb1
 by_cases hd:t<s.deadline
 ·rw[if_pos hd,if_pos (by omega)]
 ·have h1:=(ZuW o (t:=t) (by omega)).1
  have h2:=h (by omega)
  rw[if_neg hd,if_neg (by omega)]
  have a1:(t-s.deadline) / s.period<=(u-s.deadline) / s.period:=by
   refine Int.le_ediv_of_mul_le (by omega) ?_
   unfold ptS at h2
   omega
  have a2:(u-s.deadline) / s.period<=(t-s.deadline) / s.period:=Int.ediv_le_ediv (by omega) (by omega)
  rw[Int.le_antisymm a2 a1]
theorem ZrE {t u:Int} (hu:u<=t):∀{l:List Za},(∀s∈l,Zb9 s)->(∀s∈l,s.deadline<=t->ptS t s<=u)->dem u l=dem t l
 | [],_,_=>rfl
 | s :: l,ho,h=>by
  unfold dem
  rw[ZsL (ho s (by simp)) hu (h s (by simp)),ZrE hu (fun x hx=>ho x (by simp[hx])) (fun x hx=>h x (by simp[hx]))]
theorem ZiP {t u:Int} (hu:u<=t):∀{l:List Za},(∀s∈l,Zb9 s)->blk t l<=blk u l/\0<=blk t l
 | [],_=>by unfold blk;omega
 | s :: l,ho=>by
  have ih:=ZiP hu (l:=l) fun x hx=>ho x (by simp[hx])
  have:=(ho s (by simp)).m1
  have hb:Zey t s<=Zey u s:=by
   unfold Zey
   split<;>split<;>omega
  have:=ih.1;have:=ih.2
  unfold blk
  omega
theorem Zj6 (t:Int):∀{l:List Za},(∃s∈l,s.deadline<=t)->∃s∈l,s.deadline<=t/\∀x∈l,x.deadline<=t->ptS t x<=ptS t s
 | [],h=>by obtain⟨s,hs,_⟩:=h;cases hs
 | y :: l,h=>by
  by_cases hl:∃s∈l,s.deadline<=t
  ·obtain⟨s,h1,h2,h3⟩:=Zj6 t hl
   by_cases hy:y.deadline<=t/\ptS t s<ptS t y
   ·refine⟨y,by simp,hy.1,fun x hx hd=>?_⟩
    rcases List.mem_cons.1 hx with rfl | hx
    ·exact le_refl _
    ·have:=h3 x hx hd;omega
   ·refine⟨s,by simp[h1],h2,fun x hx hd=>?_⟩
    rcases List.mem_cons.1 hx with rfl | hx
    ·have:¬ptS t s<ptS t x:=fun e=>hy ⟨hd,e⟩
     omega
    ·exact h3 x hx hd
  ·obtain⟨s,h1,h2⟩:=h
   rcases List.mem_cons.1 h1 with rfl | h1
   ·refine⟨s,by simp,h2,fun x hx hd=>?_⟩
    rcases List.mem_cons.1 hx with rfl | hx
    ·exact le_refl _
    ·exact absurd ⟨x,hx,hd⟩ hl
   ·exact absurd ⟨s,h1,h2⟩ hl
theorem Zoe {l:List Za} (h:ZmF l) {t:Int} (ht:t<=hor l) (he:∃s∈l,s.deadline<=t):dem t l+blk t l<=t:=by
 obtain⟨hc,hp⟩:=h
 have ho:=fun s hs=>((ZaN hc).2 s hs).1
 obtain⟨s,hs,hd,hm⟩:=Zj6 t he
 have o:=ho s hs
 obtain⟨p1,p2⟩:=ZuW o hd
 have:=o.d1;have:=o.d2
 have h0:0<=(t-s.deadline) / s.period:=Int.ediv_nonneg (by omega) (by omega)
 have hk:((((t-s.deadline) / s.period).toNat:Nat):Int)=(t-s.deadline) / s.period:=Int.toNat_of_nonneg h0
 have key:=hp s hs ((t-s.deadline) / s.period).toNat
 rw[hk] at key
 change ptS t s<=hor l->dem (ptS t s) l+blk (ptS t s) l<=ptS t s at key
 have k2:=key (by omega)
 rw[ZrE p2 ho hm] at k2
 have:=(ZiP p2 ho).1
 omega
theorem ZlY {t:Int}:∀{l:List Za},(¬∃s∈l,s.deadline<=t)->dem t l=0
 | [],_=>rfl
 | s :: l,h=>by
  have h1:t<s.deadline:=Int.not_le.1 fun e=>h ⟨s,by simp,e⟩
  have h2:=ZlY (t:=t) (l:=l) fun⟨x,hx,e⟩=>h ⟨x,by simp[hx],e⟩
  unfold dem Zb1
  rw[if_pos h1,h2];rfl
theorem ZiF {s:Za} (o:Zb9 s) (t:Int):0<=Zb1 t s:=by
 have:=o.d1;have:=o.d2;have:=o.t1
 unfold Zb1
 split
 ·omega
 ·have h0:0<=(t-s.deadline) / s.period:=Int.ediv_nonneg (by omega) (by omega)
  exact Int.mul_nonneg (by omega) (by omega)
theorem Zld (t:Int):∀{l:List Za},(∀s∈l,Zb9 s)->0<=dem t l
 | [],_=>by unfold dem;omega
 | s :: l,ho=>by
  have:=Zld t (l:=l) fun x hx=>ho x (by simp[hx])
  have:=ZiF (ho s (by simp)) t
  unfold dem
  omega
theorem Zp7 {l:List Za} (h:ZmF l) {t:Int} (h0:0<=t) (ht:t<=hor l):dem t l<=t:=by
 have ho:=fun s hs=>((ZaN h.1).2 s hs).1
 by_cases he:∃s∈l,s.deadline<=t
 ·have:=Zoe h ht he
  have:=(ZiP (le_refl t) ho).2
  omega
 ·rw[ZlY he];exact h0
theorem ZrK {p q:Nat} (hp:ZnQ p=true) (hq:ZnQ q=true) (h:p<=q):p ∣ q:=by
 have key:∀p∈[1,2,4,8,16,32,64,128,256,512,1024,2048,4096],∀q∈[1,2,4,8,16,32,64,128,256,512,1024,2048,4096],p<=q->q % p=0:=by decide
 unfold ZnQ at hp hq
 exact Nat.dvd_of_mod_eq_zero (key p (by simpa using hp) q (by simpa using hq) h)
theorem ZnO:∀{l:List Za},(∀s∈l,1<=s.period)->l≠[]->(∃s∈l,hor l=s.period)/\∀s∈l,s.period<=hor l
 | [],_,h=>absurd rfl h
 | s :: l,hp,_=>by
  have h1:=hp s (by simp)
  cases l with
  | nil=>
   unfold hor hor
   refine⟨⟨s,by simp,by omega⟩,fun x hx=>by rw[List.mem_singleton.1 hx];omega⟩
  | cons y l=>
   obtain⟨⟨z,hz,e⟩,hm⟩:=ZnO (l:=y :: l) (fun x hx=>hp x (by simp[hx])) (by simp)
   unfold hor
   refine⟨?_,fun x hx=>?_⟩
   ·by_cases hs:s.period<=hor (y :: l)
    ·exact⟨z,by simp[hz],by omega⟩
    ·exact⟨s,by simp,by omega⟩
   ·rcases List.mem_cons.1 hx with rfl | hx
    ·omega
    ·have:=hm x hx;omega
theorem Zp2 {s:Za} (h:Z2 s=true):ZnQ s.period.toNat=true:=by
 have o:=Zgg h
 have:=o.p;have:=o.d1;have:=o.d2
 unfold Z2 at h
 have ht:Zks s.period=true:=by
  simp only[aT] at h
  exact h.1
 rw[<- ZlH s.period.toNat (by omega),Int.toNat_of_nonneg (by omega)]
 exact ht
theorem Zt3 {l:List Za} (hc:ZbC l=true) {s:Za} (hs:s∈l):∃m:Int,hor l=m*s.period:=by
 have ho:=ZaN hc
 have hk:∀s∈l,Z2 s=true:=fun s hs=>by
  unfold ZbC at hc
  simp only[aT,Bool.not_eq_true'] at hc
  have:=List.any_eq_false.1 hc.2 s hs
  unfold okS at this
  simp only[Bool.not_eq_true',Bool.not_eq_false,aT] at this
  exact this.1
 have hp:∀s∈l,1<=s.period:=fun s hs=>by have:=(ho.2 s hs).1.d1;have:=(ho.2 s hs).1.d2;omega
 obtain⟨⟨z,hz,e⟩,hm⟩:=ZnO hp (List.ne_nil_of_mem hs)
 have h1:=hp s hs;have h2:=hp z hz;have h3:=hm s hs
 obtain⟨m,hm2⟩:=ZrK (Zp2 (hk s hs)) (Zp2 (hk z hz)) (show s.period.toNat<=z.period.toNat by omega)
 refine⟨(m:Int),?_⟩
 rw[e]
 have e2:((z.period.toNat:Nat):Int)=((s.period.toNat*m:Nat):Int):=by rw[hm2]
 rw[Int.toNat_of_nonneg (by omega)] at e2
 rw[e2]
 push_cast
 rw[Int.toNat_of_nonneg (by omega),Int.mul_comm]
theorem Zic {s:Za} (o:Zb9 s) {t:Int} (h:0<=t):Zb1 t s=s.total*((t-s.deadline) / s.period+1):=by
 have:=o.d1;have:=o.d2
 unfold Zb1
 split
 ·have e:(t-s.deadline) / s.period = -1:=by
   have h1:(t-s.deadline+s.period) / s.period=0:=Int.ediv_eq_zero_of_lt (by omega) (by omega)
   have h2:(t-s.deadline+1*s.period) / s.period=(t-s.deadline) / s.period+1:=Int.add_mul_ediv_right _ _ (by omega)
   rw[Int.one_mul] at h2
   omega
  rw[e];simp
 ·rfl
theorem Zn9 {s:Za} (o:Zb9 s) {H m:Int} (hH:H=m*s.period) (h0:0<=H) {r q:Int} (hr:0<=r) (hq:0<=q):Zb1 (r+q*H) s=Zb1 r s+q*Zb1 H s:=by
 have:=o.d1;have:=o.d2
 have hqH:0<=q*H:=Int.mul_nonneg hq h0
 rw[Zic o (by omega),Zic o hr,Zic o h0]
 have e1:(r+q*H-s.deadline) / s.period=(r-s.deadline) / s.period+q*m:=by
  rw[hH,show r+q*(m*s.period)-s.deadline=(r-s.deadline)+(q*m)*s.period by rw[Int.mul_assoc];omega]
  exact Int.add_mul_ediv_right _ _ (by omega)
 have e2:(H-s.deadline) / s.period=m-1:=by
  rw[hH,show m*s.period-s.deadline=(s.period-s.deadline)+(m-1)*s.period by rw[Int.sub_mul];omega,Int.add_mul_ediv_right _ _ (by omega),Int.ediv_eq_zero_of_lt (by omega) (by omega)]
  omega
 rw[e1,e2,show(r-s.deadline) / s.period+q*m+1=((r-s.deadline) / s.period+1)+q*m by omega,show m-1+1=m by omega,Int.mul_add,Int.mul_left_comm]
theorem Zm7 {H:Int} (h0:0<=H) {r q:Int} (hr:0<=r) (hq:0<=q):∀{l:List Za},(∀s∈l,Zb9 s/\∃m:Int,H=m*s.period)->dem (r+q*H) l=dem r l+q*dem H l
 | [],_=>by unfold dem;simp
 | s :: l,h=>by
  obtain⟨o,m,hm⟩:=h s (by simp)
  have ih:=Zm7 h0 hr hq (l:=l) fun x hx=>h x (by simp[hx])
  unfold dem
  rw[ih,Zn9 o hm h0 hr hq,Int.mul_add]
  omega
theorem ZoR {t:Int}:∀{l:List Za},(∀s∈l,s.deadline<=t)->blk t l=0
 | [],_=>rfl
 | s :: l,h=>by
  have h1:=h s (by simp)
  have h2:=ZoR (t:=t) (l:=l) fun x hx=>h x (by simp[hx])
  unfold blk Zey
  rw[if_neg (by omega),h2];rfl
theorem Zq9 {l:List Za} (h:ZmF l) {t:Int} (ht:1<=t) (hd:0<dem t l):dem t l+blk t l<=t:=by
 have he:∃s∈l,s.deadline<=t:=Classical.byContradiction fun hn=>by rw[ZlY hn] at hd;omega
 by_cases hh:t<=hor l
 ·exact Zoe h hh he
 ·have ho:=fun s hs=>((ZaN h.1).2 s hs).1
  obtain⟨z,hz,_⟩:=he
  have hp:∀s∈l,1<=s.period:=fun s hs=>by have:=(ho s hs).d1;have:=(ho s hs).d2;omega
  obtain⟨_,hm⟩:=ZnO hp (List.ne_nil_of_mem hz)
  have hH:1<=hor l:=by have:=hm z hz;have:=hp z hz;omega
  rw[ZoR fun s hs=>by have:=hm s hs;have:=(ho s hs).d2;omega]
  have hq:0<=(t-1) / hor l:=Int.ediv_nonneg (by omega) (by omega)
  have hr0:0<=(t-1) % hor l:=Int.emod_nonneg _ (by omega)
  have hr1:(t-1) % hor l<hor l:=Int.emod_lt_of_pos _ (by omega)
  have hdm:hor l*((t-1) / hor l)+(t-1) % hor l=t-1:=Int.mul_ediv_add_emod _ _
  generalize (t-1) / hor l=q at hq hdm
  generalize (t-1) % hor l=r at hr0 hr1 hdm
  have e:t=(r+1)+q*hor l:=by rw[Int.mul_comm q];omega
  have k1:=Zm7 (H:=hor l) (by omega) (r:=r+1) (q:=q) (by omega) hq (l:=l) fun s hs=>⟨ho s hs,Zt3 h.1 hs⟩
  rw[<- e] at k1
  have k2:=Zp7 h (t:=r+1) (by omega) (by omega)
  have k3:=Zp7 h (t:=hor l) (by omega) (le_refl _)
  have k4:q*dem (hor l) l<=q*hor l:=Int.mul_le_mul_of_nonneg_left k3 hq
  omega
theorem ZmN (p:Zq) (h1:p.shapes.length<=1000) (h2:p.cores.length<=1000) (h3:∀r∈p.cores,r.length<=1000):Z8 p=some p.cores:=by
 have:=Zce p.cores (Zbn p) (fun i m=>((i:Int),m)) (fun _ m x=>m++[x]) id (fun i m=>m=p.cores.take i) (fun i x m hi hx hI=>by
   have hr:=h3 x (mG hx)
   have hm:m.length<=1000:=by rw[hI,length_take];omega
   refine⟨?_,?_⟩
   ·simp only[Zbn,ZcI hi,cT,Zx hx,bS,Zlo (show x.length<=1073741824 by omega),Zlo (show m.length+1<=1073741824 by omega),ZF hi (by omega)]
   ·rw[hI,List.take_add_one,hx];rfl) (fun m _=>by simp only[Zbn,Zdd,cF];rfl) [] (by simp)
 unfold Z8
 rw[Zlo (show p.shapes.length<=1073741824 by omega),cT,show lp (Zbn p) (0,([]:List LI))=_ from this.1,this.2,List.take_length]
 rfl
theorem Zi8 (l:List Za) (hl:l.length<=1000):ZcO l=some (ZbC l):=by
 have key:=ZdV l (ZbF l) (fun _ s=>!(okS s)) (fun _ _=>.inl ()) (.inr ()) (fun i x hi hx=>by
   simp only[ZbF,ZcI hi,Zx hx,bS,Zd2,ZF hi (by omega),cT]
   unfold okS
   cases Z2 x with
   | false=>rfl
   | true=>
    by_cases h:x.deadline<x.total
    ·rw[dT h,dF (show ¬x.total<=x.deadline by omega)];rfl
    ·rw[dF h,dT (show x.total<=x.deadline by omega)];rfl) (by simp only[ZbF,Zdd];rfl)
 unfold ZcO ZbC
 rw[key,Zc0,Zg6]
 cases (l.any fun s=>!(okS s)) with
 | true=>simp
 | false=>
  by_cases h:(8:Int)<(l.length:Int)
  ·rw[dT h];simp only[bS,dF (show ¬(l.length:Int)<=8 by omega),cF];rfl
  ·rw[dF h];simp only[bS,dT (show(l.length:Int)<=8 by omega),cF];rfl
theorem Zfz {γ S:Type} (f:S->γ->S):∀(l:List γ) (i:Nat) (s:S),Zci (fun _ s x=>f s x) i s l=l.foldl f s
 | [],_,_=>rfl
 | x :: l,i,s=>Zfz f l (i+1) (f s x)
theorem ZgB (l:List Za) (h:ZbC l=true):ZcU l=some (hor l):=by
 have hl:=(ZaN h).1
 have:=(Zce l (Zav l) (fun i n=>(n,(i:Int))) (fun _ n s=>max n s.period) id (fun _ _=>True) (fun i x n hi hx _=>by
   refine⟨?_,trivial⟩
   simp only[Zav,ZcI hi,cT,Zi8 l (by omega),h,Zx hx,bS,ZF hi (by omega)]
   by_cases q:n<x.period
   ·rw[dT q,cT,show max n x.period=x.period by omega]
   ·rw[dF q,cF,show max n x.period=n by omega]) (fun n _=>by simp only[Zav,Zdd,cF];rfl) 0 trivial).1
 have h0:0<=hor l:=by
  clear this h hl
  induction l with
  | nil=>exact le_refl _
  | cons s l ih=>unfold hor;omega
 unfold ZcU
 rw[show lp (Zav l) (0,0)=_ from this,Zfz,ZfW (fun s=>s.period) hor rfl (fun _ _=>rfl) l 0 (le_refl _),show max (0:Int) (hor l)=hor l by omega]
 rfl
theorem Zig (l:List Za) (h:ZbC l=true) (t:Int) (h1:1<=t) (h2:t<=4096):Zdk l t=some (dem t l):=by
 obtain⟨hl,ho⟩:=ZaN h
 have:=(Zce l (ZaJ l t) (fun i n=>(n,(i:Int))) (fun _ n s=>n+Zb1 t s) id (fun i n=>0<=n/\n<=33554432*(i:Int)) (fun i x n hi hx hI=>by
   have o:=(ho x (mG hx)).1
   obtain⟨b1,b2⟩:=Zgy o h1 h2
   have:=o.t1;have:=o.t2;have:=o.d1;have:=o.d2;have:=o.p
   obtain⟨i1,i2⟩:=hI
   refine⟨?_,by omega,by omega⟩
   simp only[ZaJ,ZcI hi,cT,Zx hx,bS,ZF hi (by omega)]
   unfold Zb1 at b1 b2 ⊢
   by_cases hd:t<x.deadline
   ·rw[dF (show ¬x.deadline<=t by omega),if_pos hd,Int.add_zero];rfl
   ·rw[dT (show x.deadline<=t by omega),if_neg hd]
    rw[if_neg hd] at b1 b2
    have q1:0<=(t-x.deadline) / x.period:=Int.ediv_nonneg (by omega) (by omega)
    have q2:(t-x.deadline) / x.period<=t-x.deadline:=Int.ediv_le_self _ (by omega)
    have e1:w64 (t-x.deadline)=t-x.deadline:=ZaI (by omega)
    have e2:w64 (Int.tdiv (t-x.deadline) x.period)=(t-x.deadline) / x.period:=by
     rw[Int.tdiv_eq_ediv_of_nonneg (by omega)]
     exact ZaI (by omega)
    have e3:w64 ((t-x.deadline) / x.period+1)=(t-x.deadline) / x.period+1:=ZaI (by omega)
    have e4:w64 (x.total*((t-x.deadline) / x.period+1))=x.total*((t-x.deadline) / x.period+1):=ZaI (by omega)
    have e5:w64 (n+x.total*((t-x.deadline) / x.period+1))=n+x.total*((t-x.deadline) / x.period+1):=ZaI (by omega)
    simp only[cT,cF,show(x.period==0)=false by simp;omega,e1,e2,e3,e4,e5]) (fun n _=>by simp only[ZaJ,Zdd,cF];rfl) 0 (by simp)).1
 unfold Zdk
 rw[show lp (ZaJ l t) (0,0)=_ from this,Zfz,Zjv (Zb1 t) (dem t) rfl (fun _ _=>rfl),Int.zero_add]
 rfl
theorem ZlX (l:List Za) (h:ZbC l=true) (t:Int):ZdU l t=some (blk t l):=by
 obtain⟨hl,ho⟩:=ZaN h
 have:=(Zce l (Za2 l t) (fun i n=>(n,(i:Int))) (fun _ n s=>max n (Zey t s)) id (fun _ n=>0<=n) (fun i x n hi hx hI=>by
   have o:=(ho x (mG hx)).1
   refine⟨?_,by show 0<=max n (Zey t x);omega⟩
   simp only[Za2,ZcI hi,cT,Zx hx,bS,ZF hi (by omega)]
   unfold Zey
   by_cases hd:t<x.deadline
   ·rw[dT hd,if_pos hd,cT]
    by_cases hm:n<x.most
    ·rw[dT hm,cT,show max n x.most=x.most by omega]
    ·rw[dF hm,cF,show max n x.most=n by omega]
   ·rw[dF hd,if_neg hd,cF,show max n (0:Int)=n by omega]) (fun n _=>by simp only[Za2,Zdd,cF];rfl) 0 (le_refl _)).1
 have hb:=(ZiP (le_refl t) (l:=l) fun s hs=>(ho s hs).1).2
 unfold ZdU
 rw[show lp (Za2 l t) (0,0)=_ from this,Zfz,ZfW (Zey t) (blk t) rfl (fun _ _=>rfl) l 0 (le_refl _),show max (0:Int) (blk t l)=blk t l by omega]
 rfl
def Zm6 (l:List Za) (t:Int):Prop:=0<dem t l->dem t l+blk t l<=t
theorem Zmz (l:List Za) (hc:ZbC l=true):ZmF l↔∀t,1<=t->t<=hor l->Zm6 l t:=by
 have ho:=fun s hs=>((ZaN hc).2 s hs).1
 constructor
 ·intro h t h1 h2 hd
  exact Zq9 h h1 hd
 ·intro h
  refine⟨hc,fun s hs k hk=>?_⟩
  have o:=ho s hs
  have:=o.d1;have:=o.d2;have:=o.t1
  have hp:0<=(k:Int)*s.period:=Int.mul_nonneg (by omega) (by omega)
  refine h (s.deadline+k*s.period) (by omega) hk ?_
  have key:∀{m:List Za},(∀x∈m,Zb9 x)->s∈m->Zb1 (s.deadline+k*s.period) s<=dem (s.deadline+k*s.period) m:=fun {m}=>by
   induction m with
   | nil=>intro _ hs;cases hs
   | cons y m ih=>
    intro hm hs
    have n1:=ZiF (hm y (by simp)) (s.deadline+k*s.period)
    have n2:=Zld (s.deadline+k*s.period) (l:=m) fun x hx=>hm x (by simp[hx])
    unfold dem
    rcases List.mem_cons.1 hs with rfl | hs
    ·omega
    ·have:=ih (fun x hx=>hm x (by simp[hx])) hs
     omega
  have k1:=key ho hs
  have k2:1<=Zb1 (s.deadline+k*s.period) s:=by
   unfold Zb1
   rw[if_neg (by omega),show s.deadline+(k:Int)*s.period-s.deadline=(k:Int)*s.period by omega,Int.mul_ediv_cancel _ (by omega)]
   have:s.total*1<=s.total*((k:Int)+1):=Int.mul_le_mul_of_nonneg_left (by omega) (by omega)
   omega
  omega
theorem Znp (l:List Za) (hc:ZbC l=true):∀(k:Nat) (t:Int),1<=t->t+k=hor l+1->(lp (ZN l) t=some (.inr ())/\∀u,t<=u->u<=hor l->Zm6 l u)∨(lp (ZN l) t=some (.inl ())/\∃u,t<=u/\u<=hor l/\¬Zm6 l u):=by
 have hh:=Zry (ZaN hc).2
 intro k
 induction k with
 | zero=>
  intro t h1 ht
  refine .inl ⟨?_,fun u a b=>by omega⟩
  rw[ZdB]
  simp only[ZN,ZgB l hc,bS,dF (show ¬t<=hor l by omega),cF]
 | succ k ih=>
  intro t h1 ht
  have hle:t<=hor l:=by omega
  have b:=Zlf hc h1 (show t<=4096 by omega)
  have hl:=(ZaN hc).1
  have hw:w64 (t+1)=t+1:=ZaI (by omega)
  have hw2:w64 (dem t l+blk t l)=dem t l+blk t l:=ZaI (by omega)
  have recr:Zm6 l t->lp (ZN l) t=lp (ZN l) (t+1)->(lp (ZN l) t=some (.inr ())/\∀u,t<=u->u<=hor l->Zm6 l u)∨(lp (ZN l) t=some (.inl ())/\∃u,t<=u/\u<=hor l/\¬Zm6 l u):=fun hg he=>by
   rcases ih (t+1) (by omega) (by omega) with⟨q1,q2⟩ | ⟨q1,u,q2,q3,q4⟩
   ·refine .inl ⟨by rw[he];exact q1,fun u a b=>?_⟩
    by_cases e:u=t
    ·rw[e];exact hg
    ·exact q2 u (by omega) b
   ·exact .inr ⟨by rw[he];exact q1,u,by omega,q3,q4⟩
  by_cases hd:0<dem t l
  ·by_cases hq:t<dem t l+blk t l
   ·refine .inr ⟨?_,t,le_refl _,hle,fun hg=>by have:=hg hd;omega⟩
    rw[ZdB]
    simp only[ZN,ZgB l hc,bS,dT hle,cT,Zig l hc t h1 (by omega),dT hd,ZlX l hc t,hw2,dT hq]
   ·refine recr (fun _=>by omega) ?_
    rw[ZdB]
    simp only[ZN,ZgB l hc,bS,dT hle,cT,Zig l hc t h1 (by omega),dT hd,ZlX l hc t,hw2,dF hq,cF,hw]
  ·refine recr (fun e=>absurd e hd) ?_
   rw[ZdB]
   simp only[ZN,ZgB l hc,bS,dT hle,cT,Zig l hc t h1 (by omega),dF hd,cF,hw]
theorem ZoD (l:List Za) (hl:l.length<=1000):Zdj l=some (Zju l):=by
 unfold Zdj
 rw[Zi8 l hl,bS]
 cases hc:ZbC l with
 | false=>
  have:Zju l=false:=Bool.eq_false_iff.2 fun e=>by have:=((Zhg l).1 e).1;rw[hc] at this;cases this
  rw[this];rfl
 | true=>
  have h0:0<=hor l:=by
   clear hl hc
   induction l with
   | nil=>exact le_refl _
   | cons s l ih=>unfold hor;omega
  rw[cT]
  rcases Znp l hc (hor l).toNat 1 (by omega) (by omega) with⟨q1,q2⟩ | ⟨q1,u,q2,q3,q4⟩
  ·rw[q1,(Zhg l).2 ((Zmz l hc).2 q2)];rfl
  ·rw[q1,show Zju l=false from Bool.eq_false_iff.2 fun e=>q4 ((Zmz l hc).1 ((Zhg l).1 e) u q2 q3)];rfl
theorem Zn4 (x y:Za):(!((x.total==y.total)&&((x.long==y.long)&&((x.most==y.most)&&((x.deadline==y.deadline)&&((x.period==y.period)&&true)))))) = !decide (x=y):=by
  rw[Bool.eq_iff_iff];cases x;cases y;simp
theorem ZoK (a b:List Za) (hl:a.length<9223372036854775808):ZeC a b=some (decide (a=b)):=by
  unfold ZeC
  by_cases he:a.length=b.length
  · have key := Zhx a b he (ZbZ a b) (fun i x y hi hx hy => by
        simp only[ZbZ,ZcI hi,Zx hx,Zx hy,bS,ZF hi hl,cT,Zn4]
        cases decide (x=y)<;>rfl) (by simp only[ZbZ,Zdd];rfl)
    rw[key,show((a.length:Int) != (b.length:Int))=false by rw[he];simp]
    cases decide (a=b)<;>rfl
  · rw[show((a.length:Int) != (b.length:Int))=true by simp;omega,dF (fun h=>he (by rw[h]))]
    rfl
theorem ZoW (p q:Zq) (h1:p.shapes.length<=1000) (h2:p.cores.length<=1000) (h3:∀r∈p.cores,r.length<=1000):ZbS p q=some (decide (p=q)):=by
  unfold ZbS
  rw[ZoK p.shapes q.shapes (by omega),bS]
  have hpq:p=q↔p.shapes=q.shapes/\p.cores=q.cores:=by cases p;cases q;simp
  by_cases hs:p.shapes=q.shapes
  · rw[dT hs,cT]
    by_cases he:p.cores.length=q.cores.length
    · have key := Zhx p.cores q.cores he (Zb3 p q) (fun i x y hi hx hy => by
          have:=h3 x (mG hx)
          simp only[Zb3,ZcI hi,Zx hx,Zx hy,bS,ZoP x y (by omega),ZF hi (by omega),cT]
          cases decide (x=y)<;>rfl) (by simp only[Zb3,Zdd];rfl)
      rw[key,show((p.cores.length:Int) != (q.cores.length:Int))=false by rw[he];simp]
      by_cases hc:p.cores=q.cores
      · rw[dT hc,dT (hpq.2 ⟨hs,hc⟩)];rfl
      · rw[dF hc,dF fun e=>hc (hpq.1 e).2];rfl
    · rw[show((p.cores.length:Int) != (q.cores.length:Int))=true by simp;omega,dF fun e=>he (by rw[e])]
      rfl
  · rw[dF hs,dF fun e=>hs (by rw[e])];rfl
section
section
variable {α β:Type} {A B:Option α} {Q:α->Option β->Prop}
theorem yB {c:Bool}{X Y:Option β} (h1:ZbO A Q X) (h2:ZbO B Q Y):ZbO (bif c then A else B) Q (br c X Y):=Zgx rfl h1 h2
theorem yBn {c:Bool}{X Y:Option β} (h2:ZbO B Q Y):ZbO (bif c then none else B) Q (br c X Y):=Zgx rfl Zeb h2
theorem yT {X Y:Option β} (h1:ZbO A Q X):ZbO A Q (br true X Y):=Zso rfl h1
theorem yF {X Y:Option β} (h1:ZbO A Q Y):ZbO A Q (br false X Y):=Zxp rfl h1
theorem yG {γ:Type}{f:γ->D}{l:List γ}{i:Int}{A:γ->Option α}{K:D->Option β} (k:∀r,Zj l i=some r->ZbO (A r) Q (K (f r))):ZbO ((Zj l i).bind A) Q (bnd (Zj (l.map f) i) K):=Zs9 rfl rfl k
theorem yC {γ:Type}{Γ:Ctx}{f:Nat}{args:List V}{E:Option γ}{A:γ->Option α}{K:V->Option β}{enc:γ->D} (w:∀r,E=some r->evD Γ f args=some (enc r)) (k:∀r,E=some r->ZbO (A r) Q (Zqq (enc r) K)):ZbO (E.bind A) Q (bnd (evW Γ f args []) (ZjT K)):=Zst enc w rfl k
theorem yR {a:α}{f:α->Option β}:ZbO (some a) (fun r rhs=>rhs=f r) (f a):=Zg rfl
theorem yBr {a:α}{c:Bool}{f:α->Option β}{Y:Option β} (h2:ZbO B (fun r rhs=>rhs=f r) Y):ZbO (bif c then some a else B) (fun r rhs=>rhs=f r) (br c (f a) Y):=yB yR h2
theorem evT {Γ : Ctx} {f : Nat} (fn : FnI) {args : List V} {E : Option α} {enc : α -> D} (hc : Γ.code f = some fn) (hn : Nat.beq args.length fn.nargs = true) (h : ZbO E (fun r rhs => rhs = some (enc r)) (Zek Γ 0 fn.body (ZW 0 args) [] fun x e H1 => (match x with
      | .exit _=>none
      | _=>(match Zfq e H1 fn.res with
        | some l=>ZbX 0 [Zc6 l] H1 fun _ vs H2=>(match vs with | [v]=>(match fr H2 6 v with | some (x,_)=>some x | none=>none) | _=>none)
        | none=>none)))):∀r,E=some r->evD Γ f args=some (enc r):=by rw[ZuA Γ f fn args hc hn];exact h
theorem evS {Γ : Ctx} {f : Nat} (fn : FnI) {args : List V} {H : Zb} {E : Option α} {enc : α -> V × Zb} (hc : Γ.code f = some fn) (hn : Nat.beq args.length fn.nargs = true) (h : ZbO E (fun r rhs => rhs = some (enc r)) (Zek Γ H.length fn.body (ZW 0 args) H fun x e H1 => (match x with
      | .exit _=>none
      | _=>(match Zfq e H1 fn.res with
        | some l=>ZbX H.length [Zc6 l] H1 fun _ vs H2=>(match vs with | [v]=>some (v,H2) | _=>none)
        | none=>none)))):∀r,E=some r->evW Γ f args H=some (enc r):=by rw[ZuF Γ f fn args H hc hn];exact h
theorem lpT {S R:Type}{step:S->Option (S⊕R)}{Γ:Ctx}{k:Nat}{live outs:List Nat}{b:C}{vs:S->List V}{H:S->Zb} (x:R->Ex×List V×Zb)
    (h:∀(s:S) (rec:S->Option R),(∀s r,rec s=some r->lpW Γ k live outs b (vs s) (H s)=some (x r))->ZbO (step s) (fun t rhs=>(match t with | .inl s'=>∀r,rec s'=some r->rhs=some (x r) | .inr r=>rhs=some (x r))) (Zek Γ k b (Zbc live (vs s)) (H s) fun x e H=>(match x with
      | .normal=>ZjX k (live.map e) H fun vs H=>bnd (lpW Γ k live outs b vs H) some
      | x=>ZbX k (outs.map e) H fun _ vs H=>some (x,vs,H)))):∀s r,lp step s=some r->lpW Γ k live outs b (vs s) (H s)=some (x r):=
  Zxa (G:=fun s=>lpW Γ k live outs b (vs s) (H s)) x fun s rec ih=>by rw[Zxs];exact h s rec ih
end
theorem Zcp:∀r,Zb8=some r->evD ctx 9 []=some (D.bool r):=fun r h=>by
  cases h
  exact Zwq 100 (by kernel_rfl)
def Zmh (r:Int):D:=(ZY r)
theorem Ze2 {a:Int}:∀r,(Zc8 a)=some r->evD ctx 102 [(zN a)]=some (Zmh r):=
 evT ZrW rfl rfl <| yBr (yBr yR)
def Zfp (r:Int):D:=(ZY r)
theorem ZeU {a:Int}:∀r,(ZaH a)=some r->evD ctx 136 [(.d (D.int .u64 a))]=some (Zfp r):=
 evT Zsn rfl rfl <| yF (yF (yF (yF (yF (yF yR)))))
def Zgh (r:Int):D:=(ZY r)
theorem ZfL {a:Int}:∀r,(Zba a)=some r->evD ctx 103 [(.d (D.int .u64 a))]=some (Zgh r):=
 evT Zr4 rfl rfl <| yC ZeU fun x0 _=>
  yR
theorem Zxf (n:Int):0<=u64.wrap n/\u64.wrap n<18446744073709551616:=by
  have:u64.wrap n=n % 18446744073709551616:=by
    show(if (false&&decide (n % 18446744073709551616 ≥ 9223372036854775808))=true then n % 18446744073709551616-18446744073709551616 else n % 18446744073709551616)=_
    simp
  rw[this]
  omega
theorem Zyb (n:Int):∃j:Nat,j<64/\(u64.wrap n).fdiv (2 ^ (min (Int.toNat 58) u64.bits))=(j:Int):=by
  obtain⟨h1,h2⟩:=Zxf n
  have e:(2:Int) ^ (min (Int.toNat 58) u64.bits)=288230376151711744:=by decide
  rw[e,Int.fdiv_eq_ediv_of_nonneg _ (by omega)]
  refine⟨((u64.wrap n) / 288230376151711744).toNat,?_,?_⟩<;>omega
theorem Zyj:∀j:Nat,j<64->ZaQ [] 1 false (.d (.rptr (Zse.drop (j*1))))=some (.d (.int .u8 (ZnP.getD j 0))):=by
  have key:((List.range 64).all fun j=>match ZaQ [] 1 false (.d (.rptr (Zse.drop (j*1)))) with | some (.d (.int .u8 z))=>z==ZnP.getD j 0 | _=>false)=true:=by rfl
  intro j hj
  have:=List.all_eq_true.1 key j (by simpa using hj)
  split at this
  · rename_i z hz
    rw[hz,eq_of_beq this]
  · cases this
def Zeh (r:Int):D:=ZY r
theorem ZdF (a:Int):∀r,ZaT a=some r->evD ctx 138 [.d (.int .u64 a)]=some (Zeh r):=by
  intro r hr
  unfold ZaT at hr
  have hr:=Option.some.inj hr
  subst hr
  rw[ZuA ctx 138 ZrQ _ rfl rfl]
  by_cases h:(a==0)=true
  · conv=>lhs;whnf
    rw[h,ZtP]
    rfl
  · replace h:(a==0)=false:=by simpa using h
    obtain⟨j,hj,e⟩:=Zyb (u64.wrap ((Ze a &&& Ze (u64.wrap (0-a))).toNat:Int)*285870213051353865)
    conv=>lhs;whnf
    rw[h,Zud]
    conv=>lhs;whnf
    refine(Zyd (by rfl)).trans ?_
    conv=>lhs;whnf
    rw[e]
    refine(Zw1 (by simp;omega)).trans ?_
    conv=>lhs;whnf
    erw [Zyj j hj]
    rfl
def ZeK (r:Int):D:=(ZY r)
theorem Zeu {a:Int}:∀r,(Zbj a)=some r->evD ctx 104 [(.d (D.int .u64 a))]=some (ZeK r):=
 evT ZrM rfl rfl <| yC (ZdF _) fun x0 _=>
  yR
def Zoa (r:(Int×Bool)):D:=(D.tup [(ZY r.1),(D.bool r.2)])
theorem Znv {a:Int}:∀r,(Zhw a)=some r->evD ctx 82 [(zN a)]=some (Zoa r):=
 evT Zwv rfl rfl <| yC Ze2 fun x0 _=>
  yBr (yC ZfL fun x1 _=>
  yBr (yC Zeu fun x2 _=>
  yR))
def Zff (r:Int):D:=(ZY r)
def ZbR (t0:Bool) (a:LI) (b:Int):(Int⊕Unit)->Ex×List V×Zb
  | (.inl r)=>(.ret,[(zN r)],[])
  | (.inr r)=>(.exit 0,[.bad],[])
theorem ZdJ {t0:Bool}{a:LI}{b:Int}:∀(s0:Int) (r:(Int⊕Unit)),lp (Zae a b) s0=some r->lpW ctx 0 [0,1,7,8] [4] Zsg [(zV t0 a),(zN b),(zN (a.length:Int)),(zN s0)] []=some ((ZbR t0 a b) r):=
 lpT (ZbR t0 a b) fun s0 _ ih=>yB (yG fun x1 _=>
  yB (Zg rfl)
  (Zh (ih _)))
  (Zg rfl)
theorem ZeL {t0:Bool}{a:LI}{b:Int}:∀r,(ZbA a b)=some r->evD ctx 76 [(zV t0 a),(zN b)]=some (Zff r):=
 evT ZvQ rfl rfl <| Zi (Zn _ _) (by
 conv=>rhs;whnf
 refine Zm _ (ZdJ _) fun r2 _=>?_
 rcases r2 with r2 | r2
 exact yR
 exact yR)
def Zea (r:Bool):D:=(D.bool r)
theorem Zau {t0:Bool}{a:LI}{b:Int}:∀r,(Zu a b)=some r->evD ctx 45 [(zV t0 a),(zN b)]=some (Zea r):=
 evT Zv6 rfl rfl <| yC ZeL fun x0 _=>
  yBr yR
def Ziz (r:Bool):D:=(D.bool r)
theorem ZbU {a b:Int}:∀r,(ZaM a b)=some r->evD ctx 83 [(zN a),(zN b)]=some (Ziz r):=
 evT ZvA rfl rfl <| yB (yBr yR)
  yR
def Zkj (r:Int):D:=(ZY r)
theorem ZcC {a:Za}:∀r,(Zbx a)=some r->evD ctx 51 [(.d (zK0 a.total a.long a.most a.deadline a.period))]=some (Zkj r):=
 evT Zv4 rfl rfl <| yC Znv fun x0 _=>
  yB (yBr (yC ZbU fun x1 _=>
  yB (yC ZbU fun x2 _=>
  yB (yC ZbU fun x3 _=>
  yB (yC ZbU fun x4 _=>
  yBr yR)
  yR)
  yR)
  yR))
  yR
def Znq (a:Za):(Unit⊕Unit)->D
  | (.inl r)=>(D.iface 128 (zK0 a.total a.long a.most a.deadline a.period))
  | (.inr r)=>(D.iface 97 (zK0 a.total a.long a.most a.deadline a.period))
theorem ZhT {a:Za}:∀r,(Ze5 a)=some r->evD ctx 59 [(.d (zK0 a.total a.long a.most a.deadline a.period))]=some ((Znq a) r):=
 evT Zvv rfl rfl <| yBr yR
def ZnH (r:Int):D:=(ZY r)
theorem Zmb {a0:Int}:∀r,(Ze8 a0)=some r->evD ctx 199 [(.d (D.rptr [(ZY a0)]))]=some (ZnH r):=
 evT Zr3 rfl rfl <| yR
def Zki (r:Bool):D:=(D.bool r)
theorem Zjs {a:Int}:∀r,(ZaB a)=some r->evD ctx 201 [(zN a)]=some (Zki r):=
 evT Zsr rfl rfl <| yC Ze2 fun x0 _=>
  yBr yR
def ZbM (r:Int):D:=(ZY r)
def Z5 (t0:Bool) (a:LI):(Int⊕Unit)->Ex×List V×Zb
  | (.inl r)=>(.ret,[(zN r)],[])
  | (.inr r)=>(.exit 0,[.bad],[])
theorem Zbo {t0:Bool}{a:LI}:∀(s0:Int) (r:(Int⊕Unit)),lp (Zz a (fun z0=>ZaB z0)) s0=some r->lpW ctx 0 [0,1,7,8] [4] Zqa [(zV t0 a),(.d (D.fn 201 [])),(zN (a.length:Int)),(zN s0)] []=some ((Z5 t0 a) r):=
 lpT (Z5 t0 a) fun s0 _ ih=>yB (yG fun x1 _=>
  yC Zjs fun x2 _=>
  yB (Zg rfl)
  (Zh (ih _)))
  (Zg rfl)
theorem ZbG {t0:Bool}{a:LI}:∀r,(ZaL a (fun z0=>ZaB z0))=some r->evD ctx 142 [(zV t0 a),(.d (D.fn 201 []))]=some (ZbM r):=
 evT Zsp rfl rfl <| Zi (Zn _ _) (by
 conv=>rhs;whnf
 refine Zm _ (Zbo _) fun r3 _=>?_
 rcases r3 with r3 | r3
 exact yR
 exact yR)
def Zl9 (r:Int):D:=(ZY r)
theorem Zle {t0:Bool}{a:LI}:∀r,(ZfI a)=some r->evD ctx 200 [(zV t0 a)]=some (Zl9 r):=
 evT ZsE rfl rfl <| yC ZbG fun x0 _=>
  yBr (yG fun x1 _=>
  yC Ze2 fun x2 _=>
  yR)
def Zfd (r:(Int×Int)):D:=(D.tup [(ZY r.1),(ZY r.2)])
theorem ZeM {a b c0:Int}:∀r,(Zds a b (Ze8 c0))=some r->evD ctx 198 [(zN a),(zN b),(.d (D.fn 199 [(D.rptr [(ZY c0)])]))]=some (Zfd r):=
 evT ZsS rfl rfl <| yC Zle fun x0 _=>
  yBr (yBr (yC Zmb fun x1 _=>
  yBn yR))
def Zpy (r:(Int×Int)):D:=(D.tup [(ZY r.1),(ZY r.2)])
theorem Zo1 {a b:Int}:∀r,(ZfQ a b)=some r->evD ctx 197 [(zN a),(zN b)]=some (Zpy r):=
 evT ZrV rfl rfl <| yC ZeM fun x0 _=>
  yR
def Zhp (r:ZcP):D:=(D.agg [(ZY r.cores),(ZY r.e)])
theorem ZdC {a:Zni}:∀r,(Za5 a)=some r->evD ctx 196 [(.d (zK0 a.shape.total a.shape.long a.shape.most a.shape.deadline a.shape.period))]=some (Zhp r):=
 evT ZrR rfl rfl <| yBr (yC Zo1 fun x0 _=>
  yB (yBr yR)
  yR)
def Zg9 (r:ZcP):D:=(D.agg [(ZY r.cores),(ZY r.e)])
theorem Zbb {a:ZjJ}:∀r,(Zay a)=some r->evD ctx 60 [(.d (zK0 a.shape.total a.shape.long a.shape.most a.shape.deadline a.shape.period))]=some (Zg9 r):=
 evT Zvg rfl rfl <| yR
def ZkA (r:(Int×Int)):D:=(D.tup [(ZY r.1),(ZY r.2)])
theorem ZjL {a:Za}:∀r,(Zd1 a)=some r->evD ctx 27 [(.d (zK0 a.total a.long a.most a.deadline a.period))]=some (ZkA r):=
 evT Zvm rfl rfl <| yC ZcC fun x0 _=>
  yBr (by
 conv=>rhs;whnf
 refine yC ZhT fun x1 _=>?_
 rcases x1 with x1 | x1
 exact yC ZdC fun x2 _=>
  yR
 exact yC Zbb fun x3 _=>
  yR)
def Zkp (r:Bool):D:=(D.bool r)
theorem Zcq {a:Za}:∀r,(ZaC a)=some r->evD ctx 28 [(.d (zK0 a.total a.long a.most a.deadline a.period))]=some (Zkp r):=
 evT ZvK rfl rfl <| yC ZcC fun x0 _=>
  yB ((by
 conv=>rhs;whnf
 refine yC ZhT fun x1 _=>?_
 rcases x1 with x1 | x1
 exact yC ZdC fun x2 _=>
  yC Zbb fun x3 _=>
  yBr yR
 exact yC Zbb fun x4 _=>
  yC Zbb fun x5 _=>
  yBr yR))
  yR
def Zkk (r:Bool):D:=(D.bool r)
theorem ZjD {a:Za}:∀r,(ZaD a)=some r->evD ctx 94 [(.d (zK0 a.total a.long a.most a.deadline a.period))]=some (Zkk r):=
 evT Zwp rfl rfl <| yC ZcC fun x0 _=>
  yBr (yC Zcq fun x1 _=>
  yBr yR)
def Zbr (r:Int):D:=(ZY r)
def ZZ (t0:Bool) (a:List Za):(Int⊕Unit)->Ex×List V×Zb
  | (.inl r)=>(.ret,[(zN r)],[])
  | (.inr r)=>(.exit 0,[.bad],[])
theorem Za1 {t0:Bool}{a:List Za}:∀(s0:Int) (r:(Int⊕Unit)),lp (ZB a (fun z0=>ZaD z0)) s0=some r->lpW ctx 0 [0,1,7,8] [4] Zqc [(zW t0 Zf a),(.d (D.fn 94 [])),(zN (a.length:Int)),(zN s0)] []=some ((ZZ t0 a) r):=
 lpT (ZZ t0 a) fun s0 _ ih=>yB (yG fun x1 _=>
  yC ZjD fun x2 _=>
  yB (Zg rfl)
  (Zh (ih _)))
  (Zg rfl)
theorem Zbi {t0:Bool}{a:List Za}:∀r,(Zah a (fun z0=>ZaD z0))=some r->evD ctx 121 [(zW t0 Zf a),(.d (D.fn 94 []))]=some (Zbr r):=
 evT Zru rfl rfl <| Zi (Zn _ _) (by
 conv=>rhs;whnf
 refine Zm _ (Za1 _) fun r3 _=>?_
 rcases r3 with r3 | r3
 exact yR
 exact yR)
def Za9 (r:Bool):D:=(D.bool r)
theorem ZaZ {t0:Bool}{a:List Za}:∀r,(ZQ a (fun z0=>ZaD z0))=some r->evD ctx 95 [(zW t0 Zf a),(.d (D.fn 94 []))]=some (Za9 r):=
 evT Zwc rfl rfl <| yC Zbi fun x0 _=>
  yBr yR
def Zmf (r:Int):D:=(ZY r)
theorem Zg2 {t0:Bool}{a:List Za}:∀r,(Zee a)=some r->evD ctx 64 [(zW t0 Zf a)]=some (Zmf r):=
 evT ZvP rfl rfl <| Zi (Zn _ _) (yBr (yC ZaZ fun x0 _=>
  yBr yR))
def ZiO (r:Int):D:=(ZY r)
theorem Zh5 {a:Int}{b:Za}:∀r,(ZaK a b)=some r->evD ctx 101 [(zN a),(.d (zK0 b.total b.long b.most b.deadline b.period))]=some (ZiO r):=
 evT ZrH rfl rfl <| yR
def ZeN (r:Int):D:=(ZY r)
def ZbI (t0:Bool) (a:List Za):Int->Ex×List V×Zb
  | r=>(.exit 0,[(zN r)],[])
theorem Zdx {t0:Bool}{a:List Za}:∀(s0:Int×Int) (r:Int),lp (ZaX a (fun z0 z1=>ZaK z0 z1)) s0=some r->lpW ctx 0 [1,5,8,9,10] [5] Znr [(.d (D.fn 101 [])),(zN s0.1),(zW t0 Zf a),(zN (a.length:Int)),(zN s0.2)] []=some ((ZbI t0 a) r):=
 lpT (ZbI t0 a) fun s0 _ ih=>yB (yG fun x1 _=>
  yC Zh5 fun x2 _=>
  Zh (ih _))
  (Zg rfl)
theorem Zep {t0:Bool}{a:List Za}:∀r,(Zck a (fun z0 z1=>ZaK z0 z1))=some r->evD ctx 91 [(zW t0 Zf a),(.d (D.fn 101 []))]=some (ZeN r):=
 evT Zr7 rfl rfl <| Zi (Zn _ _) (Zm _ (Zdx _) fun r3 _=>
  yR)
def Zkc (r:Int):D:=(ZY r)
theorem Zjl {t0:Bool}{a:List Za}:∀r,(Zd5 a)=some r->evD ctx 77 [(zW t0 Zf a)]=some (Zkc r):=
 evT Zvl rfl rfl <| yC Zg2 fun x0 _=>
  yBr (yC Zep fun x1 _=>
  yR)
def ZjS (r:Int):D:=(ZY r)
theorem Ziy {a:Int}{b:Za}{c0:Int}:∀r,(Za3 a b c0)=some r->evD ctx 92 [(zN a),(.d (zK0 b.total b.long b.most b.deadline b.period)),(.d (D.rptr [(ZY c0)]))]=some (ZjS r):=
 evT Zvk rfl rfl <| yBr (yBn yR)
def Zfa (r:Int):D:=(ZY r)
def ZbP (t0:Bool) (a:List Za) (b0:Int):Int->Ex×List V×Zb
  | r=>(.exit 0,[(zN r)],[])
theorem ZdH {t0:Bool}{a:List Za}{b0:Int}:∀(s0:Int×Int) (r:Int),lp (ZaX a (fun z0 z1=>Za3 z0 z1 b0)) s0=some r->lpW ctx 0 [1,5,8,9,10] [5] Znr [(.d (D.fn 92 [(D.rptr [(ZY b0)])])),(zN s0.1),(zW t0 Zf a),(zN (a.length:Int)),(zN s0.2)] []=some ((ZbP t0 a b0) r):=
 lpT (ZbP t0 a b0) fun s0 _ ih=>yB (yG fun x1 _=>
  yC Ziy fun x2 _=>
  Zh (ih _))
  (Zg rfl)
theorem ZeH {t0:Bool}{a:List Za}{b0:Int}:∀r,(Zck a (fun z0 z1=>Za3 z0 z1 b0))=some r->evD ctx 91 [(zW t0 Zf a),(.d (D.fn 92 [(D.rptr [(ZY b0)])]))]=some (Zfa r):=
 evT Zr7 rfl rfl <| Zi (Zn _ _) (Zm _ (ZdH _) fun r3 _=>
  yR)
def ZlB (r:Int):D:=(ZY r)
theorem Zkt {t0:Bool}{a:List Za}{b:Int}:∀r,(ZeD a b)=some r->evD ctx 62 [(zW t0 Zf a),(zN b)]=some (ZlB r):=
 evT ZvI rfl rfl <| yC ZeH fun x0 _=>
  yR
def Zkl (r:Int):D:=(ZY r)
theorem Zjm {a:Int}{b:Za}{c0:Int}:∀r,(Zbw a b c0)=some r->evD ctx 93 [(zN a),(.d (zK0 b.total b.long b.most b.deadline b.period)),(.d (D.rptr [(ZY c0)]))]=some (Zkl r):=
 evT Zwf rfl rfl <| yBr yR
def Zfr (r:Int):D:=(ZY r)
def Zb2 (t0:Bool) (a:List Za) (b0:Int):Int->Ex×List V×Zb
  | r=>(.exit 0,[(zN r)],[])
theorem Zei {t0:Bool}{a:List Za}{b0:Int}:∀(s0:Int×Int) (r:Int),lp (ZaX a (fun z0 z1=>Zbw z0 z1 b0)) s0=some r->lpW ctx 0 [1,5,8,9,10] [5] Znr [(.d (D.fn 93 [(D.rptr [(ZY b0)])])),(zN s0.1),(zW t0 Zf a),(zN (a.length:Int)),(zN s0.2)] []=some ((Zb2 t0 a b0) r):=
 lpT (Zb2 t0 a b0) fun s0 _ ih=>yB (yG fun x1 _=>
  yC Zjm fun x2 _=>
  Zh (ih _))
  (Zg rfl)
theorem ZeT {t0:Bool}{a:List Za}{b0:Int}:∀r,(Zck a (fun z0 z1=>Zbw z0 z1 b0))=some r->evD ctx 91 [(zW t0 Zf a),(.d (D.fn 93 [(D.rptr [(ZY b0)])]))]=some (Zfr r):=
 evT Zr7 rfl rfl <| Zi (Zn _ _) (Zm _ (Zei _) fun r3 _=>
  yR)
def Zmi (r:Int):D:=(ZY r)
theorem ZlZ {t0:Bool}{a:List Za}{b:Int}:∀r,(ZfF a b)=some r->evD ctx 63 [(zW t0 Zf a),(zN b)]=some (Zmi r):=
 evT Zwd rfl rfl <| yC ZeT fun x0 _=>
  yR
def Znt (r:Bool):D:=(D.bool r)
def ZgQ (t0:Bool) (a:List Za) (s1:Int) (x2:Za):(Unit⊕Unit)->Ex×List V×Zb
  | (.inl r)=>(.ret,[(zW t0 Zf a),(.d (D.bool false)),(zW t0 Zf a),(zN (a.length:Int)),(zN s1)],[])
  | (.inr r)=>(.exit 2,[(zW t0 Zf a),.bad,(zW t0 Zf a),(zN (a.length:Int)),(zN s1)],[])
theorem ZjG {t0:Bool}{a:List Za}{s1:Int}{x2:Za}:∀(s3:Int) (r:(Unit⊕Unit)),lp (Zb7 a x2) s3=some r->lpW ctx 0 [0,4,5,9,10,11] [0,2,9,10,11] ZrL [(zW t0 Zf a),(.ptr 0 0),(zN s3),(zW t0 Zf a),(zN (a.length:Int)),(zN s1)] [(.cells [(zN x2.total),(zN x2.long),(zN x2.most),(zN x2.deadline),(zN x2.period)])]=some ((ZgQ t0 a s1 x2) r):=
 lpT (ZgQ t0 a s1 x2) fun s3 _ ih=>yC Zjl fun x4 _=>
  yB (yC Zkt fun x5 _=>
  yC ZlZ fun x6 _=>
  yB (Zg rfl)
  (Zh (ih _)))
  (Zg rfl)
def ZgR (t0:Bool) (a:List Za):(Unit⊕Unit)->Ex×List V×Zb
  | (.inl r)=>(.ret,[(.d (D.bool false))],[])
  | (.inr r)=>(.exit 0,[.bad],[])
theorem ZjN {t0:Bool}{a:List Za}:∀(s1:Int) (r:(Unit⊕Unit)),lp (ZcS a) s1=some r->lpW ctx 0 [0,9,10,11] [2] ZsV [(zW t0 Zf a),(zW t0 Zf a),(zN (a.length:Int)),(zN s1)] []=some ((ZgR t0 a) r):=
 lpT (ZgR t0 a) fun s1 _ ih=>yB (yG fun x2 _=>
  (by
 conv=>rhs;whnf
 refine Zm _ (ZjG _) fun r7 _=>?_
 rcases r7 with r7 | r7
 exact Zg rfl
 exact Zh (ih _)))
  (Zg rfl)
theorem ZhY {t0:Bool}{a:List Za}:∀r,(Ze6 a)=some r->evD ctx 46 [(zW t0 Zf a)]=some (Znt r):=
 evT Zwa rfl rfl <| yC Zg2 fun x0 _=>
  yBr (Zi (Zn _ _) (by
 conv=>rhs;whnf
 refine Zm _ (ZjN _) fun r8 _=>?_
 rcases r8 with r8 | r8
 exact yR
 exact yR))
def Zme (r:(Int×Bool)):D:=(D.tup [(ZY r.1),(D.bool r.2)])
def Zgk (a:Int):(Int⊕Unit)->Ex×List V×Zb
  | (.inl r)=>(.ret,[(zN r),(.d (D.bool true))],[])
  | (.inr r)=>(.exit 0,[.bad,.bad],[])
theorem ZiV {a:Int}:∀(s0:Int×Int) (r:(Int⊕Unit)),lp (ZaF a) s0=some r->lpW ctx 0 [0,4,5] [2,3] Zs2 [(zN a),(zN s0.1),(zN s0.2)] []=some ((Zgk a) r):=
 lpT (Zgk a) fun s0 _ ih=>yB (yB (Zg rfl)
  (Zh (ih _)))
  (Zg rfl)
theorem Zk9 {a:Int}:∀r,(ZfC a)=some r->evD ctx 81 [(zN a)]=some (Zme r):=
 evT Zvy rfl rfl <| (by
 conv=>rhs;whnf
 refine Zm _ (ZiV _) fun r1 _=>?_
 rcases r1 with r1 | r1
 exact yR
 exact yR)
def Zmk (r:Bool):D:=(D.bool r)
def Zf8 (t0:Bool) (a:LI) (b:Int):(Unit⊕Unit)->Ex×List V×Zb
  | (.inl r)=>(.ret,[(.d (D.bool true))],[])
  | (.inr r)=>(.exit 0,[.bad],[])
theorem ZiX {t0:Bool}{a:LI}{b:Int}:∀(s0:Int) (r:(Unit⊕Unit)),lp (Zcn a b) s0=some r->lpW ctx 0 [0,1,5] [4] Zrj [(zV t0 a),(zN b),(zN s0)] []=some ((Zf8 t0 a b) r):=
 lpT (Zf8 t0 a b) fun s0 _ ih=>Zi (Zn _ _) (yB (yG fun x1 _=>
  yB (Zg rfl)
  (Zh (ih _)))
  (Zg rfl))
theorem Ze7 {t0:Bool}{a:LI}{b:Int}:∀r,(Zbt a b)=some r->evD ctx 29 [(zV t0 a),(zN b)]=some (Zmk r):=
 evT ZvN rfl rfl <| (by
 conv=>rhs;whnf
 refine Zm _ (ZiX _) fun r2 _=>?_
 rcases r2 with r2 | r2
 exact yR
 exact yR)
def Zke (r:Bool):D:=(D.bool r)
theorem ZcD {a:Za}:∀r,(ZbB a)=some r->evD ctx 49 [(.d (zK0 a.total a.long a.most a.deadline a.period))]=some (Zke r):=
 evT ZwM rfl rfl <| yC Zk9 fun x0 _=>
  yB (yB (yB (yB (yB (yB (yB (yB (yB (yBr yR)
  yR)
  yR)
  yR)
  yR)
  yR)
  yR)
  yR)
  yR)
  yR
def Zkb (r:(Int×Int)):D:=(D.tup [(ZY r.1),(ZY r.2)])
def Zfn (a:Za):(Int⊕Unit)->Ex×List V×Zb
  | (.inl r)=>(.ret,[(zN r),(zN 0)],[])
  | (.inr r)=>(.exit 0,[.bad,.bad],[])
theorem ZhH {a:Za}:∀(s1:Int) (r:(Int⊕Unit)),lp (ZbE a) s1=some r->lpW ctx 0 [1,4] [2,3] Zr0 [(.ptr 0 0),(zN s1)] [(.cells [(zN a.total),(zN a.long),(zN a.most),(zN a.deadline),(zN a.period)])]=some ((Zfn a) r):=
 lpT (Zfn a) fun s1 _ ih=>yB (yB (Zg rfl)
  (Zh (ih _)))
  (Zg rfl)
theorem Zjp {a:Za}:∀r,(Zd3 a)=some r->evD ctx 38 [(.d (zK0 a.total a.long a.most a.deadline a.period))]=some (Zkb r):=
 evT Zvf rfl rfl <| yC ZcD fun x0 _=>
  yB (yBr (yBr (by
 conv=>rhs;whnf
 refine Zm _ (ZhH _) fun r2 _=>?_
 rcases r2 with r2 | r2
 exact yR
 exact yR)))
  yR
def Zkx (r:Bool):D:=(D.bool r)
def Zfe (t0:Bool) (a:List Za):(Unit⊕Unit)->Ex×List V×Zb
  | (.inl r)=>(.ret,[(zW t0 Zf a),(.d (D.bool false))],[])
  | (.inr r)=>(.exit 0,[(zW t0 Zf a),.bad],[])
theorem ZhN {t0:Bool}{a:List Za}:∀(s0:Int) (r:(Unit⊕Unit)),lp (ZbF a) s0=some r->lpW ctx 0 [0,3] [0,2] Zsc [(zW t0 Zf a),(zN s0)] []=some ((Zfe t0 a) r):=
 lpT (Zfe t0 a) fun s0 _ ih=>Zi (Zn _ _) (yB (yG fun x1 hx1=>
  yC ZcD fun x2 _=>
  yB (ZcA (ZgL rfl hx1) (ZcA (ZgL rfl hx1) (yB (Zg rfl)
  (Zh (ih _)))))
  (Zg rfl))
  (Zg rfl))
theorem Zf7 {t0:Bool}{a:List Za}:∀r,(ZcO a)=some r->evD ctx 72 [(zW t0 Zf a)]=some (Zkx r):=
 evT Zve rfl rfl <| (by
 conv=>rhs;whnf
 refine Zm _ (ZhN _) fun r3 _=>?_
 rcases r3 with r3 | r3
 exact yR
 exact Zi (Zn _ _) (yBr yR))
def Zi1 (r:Int):D:=(ZY r)
def Zd9 (t0:Bool) (a:List Za):Int->Ex×List V×Zb
  | r=>(.exit 0,[(zN r)],[])
theorem Zg0 {t0:Bool}{a:List Za}:∀(s0:Int×Int) (r:Int),lp (Zav a) s0=some r->lpW ctx 0 [0,3,4] [3] Zrg [(zW t0 Zf a),(zN s0.1),(zN s0.2)] []=some ((Zd9 t0 a) r):=
 lpT (Zd9 t0 a) fun s0 _ ih=>Zi (Zn _ _) (yB (yC Zf7 fun x1 _=>
  yB (yG fun x2 _=>
  Zh (ih _))
  (Zg rfl))
  (Zg rfl))
theorem Zh1 {t0:Bool}{a:List Za}:∀r,(ZcU a)=some r->evD ctx 78 [(zW t0 Zf a)]=some (Zi1 r):=
 evT Zwz rfl rfl <| Zm _ (Zg0 _) fun r3 _=>
  yR
def ZjK (r:Int):D:=(ZY r)
def Zew (t0:Bool) (a:List Za) (b:Int):Int->Ex×List V×Zb
  | r=>(.exit 0,[(zN r)],[])
theorem Zhs {t0:Bool}{a:List Za}{b:Int}:∀(s0:Int×Int) (r:Int),lp (ZaJ a b) s0=some r->lpW ctx 0 [0,1,5,6] [5] Zrt [(zW t0 Zf a),(zN b),(zN s0.1),(zN s0.2)] []=some ((Zew t0 a b) r):=
 lpT (Zew t0 a b) fun s0 _ ih=>Zi (Zn _ _) (yB (yG fun x1 hx1=>
  yB (ZcA (ZgL rfl hx1) (ZcA (ZgL rfl hx1) (ZcA (ZgL rfl hx1) (yBn (Zh (ih _))))))
  (Zh (ih _)))
  (Zg rfl))
theorem Zjj {t0:Bool}{a:List Za}{b:Int}:∀r,(Zdk a b)=some r->evD ctx 79 [(zW t0 Zf a),(zN b)]=some (ZjK r):=
 evT ZvB rfl rfl <| Zm _ (Zhs _) fun r2 _=>
  yR
def Zkm (r:Int):D:=(ZY r)
def Zfh (t0:Bool) (a:List Za) (b:Int):Int->Ex×List V×Zb
  | r=>(.exit 0,[(zN r)],[])
theorem ZhM {t0:Bool}{a:List Za}{b:Int}:∀(s0:Int×Int) (r:Int),lp (Za2 a b) s0=some r->lpW ctx 0 [0,1,5,6] [5] Zsz [(zW t0 Zf a),(zN b),(zN s0.1),(zN s0.2)] []=some ((Zfh t0 a b) r):=
 lpT (Zfh t0 a b) fun s0 _ ih=>Zi (Zn _ _) (yB (yG fun x1 hx1=>
  yB (ZcA (ZgL rfl hx1) (Zh (ih _)))
  (Zh (ih _)))
  (Zg rfl))
theorem Zjt {t0:Bool}{a:List Za}{b:Int}:∀r,(ZdU a b)=some r->evD ctx 80 [(zW t0 Zf a),(zN b)]=some (Zkm r):=
 evT ZwC rfl rfl <| Zm _ (ZhM _) fun r2 _=>
  yR
def ZlM (r:Bool):D:=(D.bool r)
def Zfu (t0:Bool) (a:List Za):(Unit⊕Unit)->Ex×List V×Zb
  | (.inl r)=>(.ret,[(.d (D.bool false))],[])
  | (.inr r)=>(.exit 0,[.bad],[])
theorem Zip {t0:Bool}{a:List Za}:∀(s1:Int) (r:(Unit⊕Unit)),lp (ZN a) s1=some r->lpW ctx 0 [0,3] [2] ZsM [(zW t0 Zf a),(zN s1)] []=some ((Zfu t0 a) r):=
 lpT (Zfu t0 a) fun s1 _ ih=>yC Zh1 fun x2 _=>
  yB (yC Zjj fun x3 _=>
  yB (yC Zjt fun x4 _=>
  yB (Zg rfl)
  (Zh (ih _)))
  (Zh (ih _)))
  (Zg rfl)
theorem ZgP {t0:Bool}{a:List Za}:∀r,(Zdj a)=some r->evD ctx 47 [(zW t0 Zf a)]=some (ZlM r):=
 evT Zvn rfl rfl <| yC Zf7 fun x0 _=>
  yB ((by
 conv=>rhs;whnf
 refine Zm _ (Zip _) fun r5 _=>?_
 rcases r5 with r5 | r5
 exact yR
 exact yR))
  yR
def Zlz (r:Bool):D:=(D.bool r)
def ZfB (t0 t1:Bool) (a:List Za) (b:List Za):(Unit⊕Unit)->Ex×List V×Zb
  | (.inl r)=>(.ret,[(.d (D.bool false))],[])
  | (.inr r)=>(.exit 0,[.bad],[])
theorem Zis {t0 t1:Bool}{a:List Za}{b:List Za}:∀(s0:Int) (r:(Unit⊕Unit)),lp (ZbZ a b) s0=some r->lpW ctx 0 [0,1,5] [4] ZrF [(zW t0 Zf a),(zW t1 Zf b),(zN s0)] []=some ((ZfB t0 t1 a b) r):=
 lpT (ZfB t0 t1 a b) fun s0 _ ih=>Zi (Zn _ _) (yB (yG fun x1 _=>
  yG fun x2 _=>
  yB (Zg rfl)
  (Zh (ih _)))
  (Zg rfl))
theorem Zkg {t0 t1:Bool}{a:List Za}{b:List Za}:∀r,(ZeC a b)=some r->evD ctx 40 [(zW t0 Zf a),(zW t1 Zf b)]=some (Zlz r):=
 evT Zvj rfl rfl <| Zi (Zn _ _) (Zi (Zn _ _) (yBr (by
 conv=>rhs;whnf
 refine Zm _ (Zis _) fun r3 _=>?_
 rcases r3 with r3 | r3
 exact yR
 exact yR)))
def Zl4 (r:Bool):D:=(D.bool r)
def Zfx (t0 t1:Bool) (a:LI) (b:LI):(Unit⊕Unit)->Ex×List V×Zb
  | (.inl r)=>(.ret,[(.d (D.bool false))],[])
  | (.inr r)=>(.exit 0,[.bad],[])
theorem Zin {t0 t1:Bool}{a:LI}{b:LI}:∀(s0:Int) (r:(Unit⊕Unit)),lp (Zb0 a b) s0=some r->lpW ctx 0 [0,1,5] [4] ZsJ [(zV t0 a),(zV t1 b),(zN s0)] []=some ((Zfx t0 t1 a b) r):=
 lpT (Zfx t0 t1 a b) fun s0 _ ih=>Zi (Zn _ _) (yB (yG fun x1 _=>
  yG fun x2 _=>
  yB (Zg rfl)
  (Zh (ih _)))
  (Zg rfl))
theorem Zen {t0 t1:Bool}{a:LI}{b:LI}:∀r,(Zcx a b)=some r->evD ctx 21 [(zV t0 a),(zV t1 b)]=some (Zl4 r):=
 evT Zwr rfl rfl <| Zi (Zn _ _) (Zi (Zn _ _) (yBr (by
 conv=>rhs;whnf
 refine Zm _ (Zin _) fun r3 _=>?_
 rcases r3 with r3 | r3
 exact yR
 exact yR)))
def Zly (r:Bool):D:=(D.bool r)
def ZfD (t0 t1 t2 t3:Bool) (a b:Zq):(Unit⊕Unit)->Ex×List V×Zb
  | (.inl r)=>(.ret,[(.d (D.bool false))],[])
  | (.inr r)=>(.exit 0,[.bad],[])
theorem Zh4 {t0 t1:Bool}{t2 t3:Bool}{a b:Zq}:∀(s1:Int) (r:(Unit⊕Unit)),lp (Zb3 a b) s1=some r->lpW ctx 0 [2,3,5] [4] Zsh [(.ptr 0 0),(.ptr 1 0),(zN s1)] [(.cells [(zW t0 Zf a.shapes),(.d (D.list t1 (List.map (ZP true) a.cores)))]),(.cells [(zW t2 Zf b.shapes),(.d (D.list t3 (List.map (ZP true) b.cores)))])]=some ((ZfD t0 t1 t2 t3 a b) r):=
 lpT (ZfD t0 t1 t2 t3 a b) fun s1 _ ih=>Zi (Zn _ _) (yB (yG fun x2 _=>
  yG fun x3 _=>
  yC Zen fun x4 _=>
  yB (Zh (ih _))
  (Zg rfl))
  (Zg rfl))
theorem ZcV {t0 t1:Bool}{t2 t3:Bool}{a b:Zq}:∀r,(ZbS a b)=some r->evD ctx 14 [(.d (D.agg [(zM t0 Zf a.shapes),(D.list t1 (List.map (ZP true) a.cores))])),(.d (D.agg [(zM t2 Zf b.shapes),(D.list t3 (List.map (ZP true) b.cores))]))]=some (Zly r):=
 evT ZwI rfl rfl <| yC Zkg fun x0 _=>
  yB (Zi (Zn _ _) (Zi (Zn _ _) (yBr (by
 conv=>rhs;whnf
 refine Zm _ (Zh4 _) fun r5 _=>?_
 rcases r5 with r5 | r5
 exact yR
 exact yR))))
  yR
def Zmg (r:Bool):D:=(D.bool r)
def ZfS (t0 t1:Bool) (a:Zq):(Unit⊕Unit)->Ex×List V×Zb
  | (.inl r)=>(.ret,[(.ptr 0 0),(.d (D.bool false))],[(.cells [(zW t0 Zf a.shapes),(.d (D.list t1 (List.map (ZP true) a.cores)))])])
  | (.inr r)=>(.exit 0,[(.ptr 0 0),.bad],[(.cells [(zW t0 Zf a.shapes),(.d (D.list t1 (List.map (ZP true) a.cores)))])])
theorem ZiY {t0 t1:Bool}{a:Zq}:∀(s0:Int) (r:(Unit⊕Unit)),lp (Zai a) s0=some r->lpW ctx 0 [1,3] [1,2] Zsd [(.ptr 0 0),(zN s0)] [(.cells [(zW t0 Zf a.shapes),(.d (D.list t1 (List.map (ZP true) a.cores)))])]=some ((ZfS t0 t1 a) r):=
 lpT (ZfS t0 t1 a) fun s0 _ ih=>Zi (Zn _ _) (yB (yB (yG fun x1 _=>
  Zi (Zn _ _) (yB (Zg rfl)
  (Zh (ih _))))
  (Zg rfl))
  (Zg rfl))
theorem Zho {t0 t1:Bool}{a:Zq}:∀r,(Zec a)=some r->evD ctx 15 [(.d (D.agg [(zM t0 Zf a.shapes),(D.list t1 (List.map (ZP true) a.cores))]))]=some (Zmg r):=
 evT Zwu rfl rfl <| (by
 conv=>rhs;whnf
 refine Zm _ (ZiY _) fun r2 _=>?_
 rcases r2 with r2 | r2
 exact yR
 exact Zi (Zn _ _) (yB (Zi (Zn _ _) (yBr yR))
  yR))
def Zlc (t0 t1:Bool) (a:Zq):(List LI)->V×Zb
  | r=>((.agg [(.sl 0 5),(.sl 1 1)]),[(.arr 5 (List.map Zf a.shapes)),(.arr 1 (List.map (ZP true) r))])
def Zfs (t0 t1:Bool) (a:Zq):(List LI)->Ex×List V×Zb
  | r=>(.exit 0,[(.ptr 0 0),(.ptr 1 0)],[(.cells [(.sl 2 5),(.sl 3 1)]),(.cells [(.sl 4 5),(.sl 5 1)]),(.arr 5 []),(.arr 1 []),(.arr 5 (List.map Zf a.shapes)),(.arr 1 (List.map (ZP true) r))])
theorem Zid {t0 t1:Bool}{a:Zq}:∀(s0:Int×(List LI)) (r:(List LI)),lp (Zbn a) s0=some r->lpW ctx 0 [1,2,3,4] [2,3] ZsX [(.ptr 0 0),(.ptr 1 0),(.ptr 2 0),(zN s0.1)] [(.cells [(zW t0 Zf a.shapes),(.d (D.list t1 (List.map (ZP true) a.cores)))]),(.cells [(.sl 3 5),(.sl 4 1)]),(.cells [(.sl 5 5),(.sl 6 1)]),(.arr 5 []),(.arr 1 []),(.arr 5 (List.map Zf a.shapes)),(.arr 1 (List.map (ZP true) s0.2))]=some ((Zfs t0 t1 a) r):=
 lpT (Zfs t0 t1 a) fun s0 _ ih=>Zi (Zn _ _) (yB (yG fun x1 _=>
  Zso (ZoX (f:=ZY) (fun _=>⟨rfl,rfl⟩) x1 0) (Zgx (ZoV ZY x1) (Zi (rfl:_=List.map ZY x1) (yT (Zgx (Zi9 (ZP true) s0.2 1) (Zi (ZiZ (ZP true) s0.2 [x1]) (Zh (ih _)))
  Zeb)))
  Zeb))
  (Zg rfl))
theorem Z9 {t0 t1:Bool}{a:Zq}:∀r,(Z8 a)=some r->evW ctx 17 [(.d (D.agg [(zM t0 Zf a.shapes),(D.list t1 (List.map (ZP true) a.cores))]))] []=some ((Zlc t0 t1 a) r):=
 evS ZwP rfl rfl <| Zso (ZoX (f:=Zf) (fun _=>⟨rfl,rfl⟩) a.shapes 0) (Zgx (ZoV Zf a.shapes) (Zi (rfl:_=List.map Zf a.shapes) (Zm _ (Zid _) fun r2 _=>
  yR))
  Zeb)
def Zml (r:Bool):D:=(D.bool r)
def Zgj (t0:Bool) (b:LI) (c:Int) (x0:(Int×Int)):(Unit⊕Unit)->Ex×List V×Zb
  | (.inl r)=>(.ret,[(zV t0 b),(.d (D.bool false)),(zN x0.1),(zN x0.2)],[])
  | (.inr r)=>(.exit 0,[(zV t0 b),.bad,(zN x0.1),(zN x0.2)],[])
theorem Zjc {t0:Bool}{b:LI}{c:Int}{x0:(Int×Int)}:∀(s1:Int) (r:(Unit⊕Unit)),lp (Za7 b c) s1=some r->lpW ctx 0 [1,2,7,8,16,17,18] [1,6,7,8] Zsi [(zV t0 b),(zN c),(zN x0.1),(zN x0.2),(zV t0 b),(zN (b.length:Int)),(zN s1)] []=some ((Zgj t0 b c x0) r):=
 lpT (Zgj t0 b c x0) fun s1 _ ih=>yB (yG fun x2 _=>
  yB (Zg rfl)
  (yB (Zg rfl)
  (yB (yG fun x3 _=>
  yB (Zg rfl)
  (Zh (ih _)))
  (Zh (ih _)))))
  (Zg rfl)
theorem Zlk {t0:Bool}{a:Za}{b:LI}{c:Int}:∀r,(Zft a b c)=some r->evD ctx 43 [(.d (zK0 a.total a.long a.most a.deadline a.period)),(zV t0 b),(zN c)]=some (Zml r):=
 evT Zwe rfl rfl <| yC ZjL fun x0 _=>
  Zi (Zn _ _) (by
 conv=>rhs;whnf
 refine Zm _ (Zjc _) fun r4 _=>?_
 rcases r4 with r4 | r4
 exact yR
 exact yB (Zi (Zn _ _) (yBr yR))
  yR)
def Zht (t0:Bool) (a:Int) (b:Za) (c:LI) (mA:Bool) (mB:Int):(Unit⊕Unit)->V×Zb
  | (.inl r)=>((.d (D.tup [])),[(.cells [(.d (D.bool true))]),(.cells [(zN mB)])])
  | (.inr r)=>((.d (D.tup [])),[(.cells [(.d (D.bool false))]),(.cells [(zN mB)])])
theorem ZgX {t0:Bool}{a:Int}{b:Za}{c:LI}{mA:Bool}{mB:Int}:∀r,(Zc1 a b c mA mB)=some r->evW ctx 42 [(zN a),(.d (zK0 b.total b.long b.most b.deadline b.period)),(zV t0 c),(.ptr 0 0),(.ptr 1 0)] [(.cells [(.d (D.bool mA))]),(.cells [(zN mB)])]=some ((Zht t0 a b c mA mB) r):=
 evS ZwQ rfl rfl <| yB (yC Zlk fun x0 _=>
  yBr yR)
  yR
def Zeg (t0 t1:Bool) (a:Zq) (mB:Int):Bool->V×Zb
  | r=>((.d (D.tup [])),[(.cells [(.d (D.bool r))]),(.cells [(zN mB)])])
def Zbp (t0 t1:Bool) (a:Zq) (mB:Int):Bool->Ex×List V×Zb
  | r=>(.exit 0,[],[(.cells [(.d (D.bool r))]),(.cells [(zN mB)])])
theorem Zdb {t0 t1:Bool}{a:Zq}{mB:Int}:∀(s0:Int×Bool) (r:Bool),lp (Zbk a mB) s0=some r->lpW ctx 2 [1,2,11,12] [] Zlv [(.fn 42 [(.ptr 0 0),(.ptr 1 0)]),(.ptr 2 0),(zN (bif decide ((a.cores.length:Int)<(a.shapes.length:Int)) then (a.cores.length:Int) else (a.shapes.length:Int))),(zN s0.1)] [(.cells [(.d (D.bool s0.2))]),(.cells [(zN mB)]),(.cells [(zW t0 Zf a.shapes),(.d (D.list t1 (List.map (ZP true) a.cores)))])]=some ((Zbp t0 t1 a mB) r):=
 lpT (Zbp t0 t1 a mB) fun s0 _ ih=>yB (yG fun x1 _=>
  yG fun x2 _=>
  (by
 conv=>rhs;whnf
 refine Zm _ ZgX fun x3 _=>?_
 rcases x3 with x3 | x3
 exact Zh (ih _)
 exact Zh (ih _)))
  (Zg rfl)
theorem ZdO {t0 t1:Bool}{a:Zq}{mB:Int}:∀r,(ZeE a mB)=some r->evW ctx 41 [(.d (D.agg [(zM t0 Zf a.shapes),(D.list t1 (List.map (ZP true) a.cores))])),(.fn 42 [(.ptr 0 0),(.ptr 1 0)])] [(.cells [(.d (D.bool true))]),(.cells [(zN mB)])]=some ((Zeg t0 t1 a mB) r):=
 evS ZqQ rfl rfl <| Zi (Zn _ _) (Zi (Zn _ _) (Zm _ (Zdb _) fun r4 _=>
  yR))
def Zg7 (t0:Bool) (a:Int) (b:Za) (c:LI) (mA mB:Int) (mC:List Za):(Int⊕Unit)->V×Zb
  | (.inl r)=>((.d (D.tup [])),[(.cells [(zN mA)]),(.cells [(zN r)]),(.cells [(.sl 3 5)]),(.arr 5 (List.map Zf mC))])
  | (.inr r)=>((.d (D.tup [])),[(.cells [(zN mA)]),(.cells [(zN mB)]),(.cells [(.sl 4 5)]),.dead,(.arr 5 (List.map Zf (mC++[b])))])
theorem ZgU {t0:Bool}{a:Int}{b:Za}{c:LI}{mA mB:Int}{mC:List Za}:∀r,(Zc4 a b c mA mB mC)=some r->evW ctx 44 [(zN a),(.d (zK0 b.total b.long b.most b.deadline b.period)),(zV t0 c),(.ptr 0 0),(.ptr 1 0),(.ptr 2 0)] [(.cells [(zN mA)]),(.cells [(zN mB)]),(.cells [(.sl 3 5)]),(.arr 5 (List.map Zf mC))]=some ((Zg7 t0 a b c mA mB mC) r):=
 evS Zwo rfl rfl <| yC Zau fun x0 _=>
  yB (yC Zcq fun x1 _=>
  yBr (yT (Zgx (Zi9 Zf mC 1) (Zi (ZiZ Zf mC [b]) yR)
  Zeb)))
  yR
def Zej (t0 t1:Bool) (a:Zq) (mA mB:Int):(Int×(List Za))->V×Zb
  | r=>((.d (D.tup [])),[(.cells [(zN mA)]),(.cells [(zN r.1)]),(.cells [(.sl 3 5)]),(.arr 5 (List.map Zf r.2))])
def Zbs (t0 t1:Bool) (a:Zq) (mA:Int):(Int×(List Za))->Ex×List V×Zb
  | r=>(.exit 0,[],[(.cells [(zN mA)]),(.cells [(zN r.1)]),(.cells [(.sl 3 5)]),(.arr 5 (List.map Zf r.2))])
theorem Zdc {t0 t1:Bool}{a:Zq}{mA:Int}:∀(s0:Int×Int×(List Za)) (r:(Int×(List Za))),lp (Zas a mA) s0=some r->lpW ctx 3 [1,2,11,12] [] Zlv [(.fn 44 [(.ptr 0 0),(.ptr 1 0),(.ptr 2 0)]),(.ptr 3 0),(zN (bif decide ((a.cores.length:Int)<(a.shapes.length:Int)) then (a.cores.length:Int) else (a.shapes.length:Int))),(zN s0.1)] [(.cells [(zN mA)]),(.cells [(zN s0.2.1)]),(.cells [(.sl 4 5)]),(.cells [(zW t0 Zf a.shapes),(.d (D.list t1 (List.map (ZP true) a.cores)))]),(.arr 5 (List.map Zf s0.2.2))]=some ((Zbs t0 t1 a mA) r):=
 lpT (Zbs t0 t1 a mA) fun s0 _ ih=>yB (yG fun x1 _=>
  yG fun x2 _=>
  (by
 conv=>rhs;whnf
 refine Zm _ ZgU fun x3 _=>?_
 rcases x3 with x3 | x3
 exact Zh (ih _)
 exact Zh (ih _)))
  (Zg rfl)
theorem ZdS {t0 t1:Bool}{a:Zq}{mA mB:Int}:∀r,(ZcT a mA mB)=some r->evW ctx 41 [(.d (D.agg [(zM t0 Zf a.shapes),(D.list t1 (List.map (ZP true) a.cores))])),(.fn 44 [(.ptr 0 0),(.ptr 1 0),(.ptr 2 0)])] [(.cells [(zN mA)]),(.cells [(zN mB)]),(.cells [(.nilsl 5)])]=some ((Zej t0 t1 a mA mB) r):=
 evS ZqQ rfl rfl <| Zi (Zn _ _) (Zi (Zn _ _) (Zm _ (Zdc _) fun r4 _=>
  yR))
def Zkf (r:Bool):D:=(D.bool r)
def ZeZ (t0 t1:Bool) (a:Zq) (b:Int):(Unit⊕Unit)->Ex×List V×Zb
  | (.inl r)=>(.ret,[(.d (D.bool false))],[])
  | (.inr r)=>(.exit 0,[.bad],[])
theorem ZhP {t0 t1:Bool}{a:Zq}{b:Int}:∀(s1:Int) (r:(Unit⊕Unit)),lp (Zad a b) s1=some r->lpW ctx 0 [2,35,36] [4] Zrk [(.ptr 0 0),(zN b),(zN s1)] [(.cells [(zW t0 Zf a.shapes),(.d (D.list t1 (List.map (ZP true) a.cores)))])]=some ((ZeZ t0 t1 a b) r):=
 lpT (ZeZ t0 t1 a b) fun s1 _ ih=>yB (Zm _ ZdS fun x2 _=>
  yB (Zg rfl)
  (yB (Zi (Zn _ _) (yB (Zg rfl)
  (yC ZhY fun x3 _=>
  yB (Zh (ih _))
  (Zg rfl))))
  (yC ZhY fun x4 _=>
  yB (Zh (ih _))
  (Zg rfl))))
  (Zg rfl)
theorem ZjA {t0 t1:Bool}{a:Zq}{b:Int}:∀r,(Zd4 a b)=some r->evD ctx 16 [(.d (D.agg [(zM t0 Zf a.shapes),(D.list t1 (List.map (ZP true) a.cores))])),(zN b)]=some (Zkf r):=
 evT ZwF rfl rfl <| yBr (yBr (Zi (Zn _ _) (yBr (Zi (Zn _ _) (Zi (Zn _ _) (yBr (Zm _ ZdO fun x0 _=>
  yB ((by
 conv=>rhs;whnf
 refine Zm _ (ZhP _) fun r5 _=>?_
 rcases r5 with r5 | r5
 exact yR
 exact yR))
  yR)))))))
def Zkq (r:LI):D:=(zL true r)
def Ze0 (t0 t1:Bool) (a:Zq) (b:Int):LI->Ex×List V×Zb
  | r=>(.exit 0,[(.sl 0 1)],[(zA r)])
theorem ZhQ {t0 t1:Bool}{a:Zq}{b:Int}:∀(s0:Int×LI) (r:LI),lp (Zax a b) s0=some r->lpW ctx 0 [1,2,5,6] [5] ZsP [(zN b),(.ptr 0 0),(.sl 1 1),(zN s0.1)] [(.cells [(zW t0 Zf a.shapes),(.d (D.list t1 (List.map (ZP true) a.cores)))]),(zA s0.2)]=some ((Ze0 t0 t1 a b) r):=
 lpT (Ze0 t0 t1 a b) fun s0 _ ih=>Zi (Zn _ _) (yB (Zi (Zn _ _) (yB (yG fun x1 _=>
  yC ZcD fun x2 _=>
  yB (yB (yG fun x3 _=>
  yC Ze7 fun x4 _=>
  yB (yT (Zgx (Zi9 ZY s0.2 1) (Zi (ZiZ ZY s0.2 [s0.1]) (Zh (ih _)))
  Zeb))
  (Zh (ih _)))
  (Zh (ih _)))
  (Zh (ih _)))
  (Zg rfl)))
  (Zg rfl))
theorem ZdP {t0 t1:Bool}{a:Zq}{b:Int}:∀r,(Zb5 a b)=some r->evD ctx 23 [(.d (D.agg [(zM t0 Zf a.shapes),(D.list t1 (List.map (ZP true) a.cores))])),(zN b)]=some (Zkq r):=
 evT ZwE rfl rfl <| Zm _ (ZhQ _) fun r5 _=>
  yR
def Zkh (r:Bool):D:=(D.bool r)
def ZeV (t0 t1:Bool) (a:Zq) (b s0:Int) (x3:LI):(Unit⊕Unit)->Ex×List V×Zb
  | (.inl r)=>(.ret,[(zN b),(.ptr 0 0),(.d (D.bool false)),(zN s0)],[(.cells [(zW t0 Zf a.shapes),(.d (D.list t1 (List.map (ZP true) a.cores)))])])
  | (.inr r)=>(.exit 2,[(zN b),(.ptr 0 0),.bad,(zN s0)],[(.cells [(zW t0 Zf a.shapes),(.d (D.list t1 (List.map (ZP true) a.cores)))])])
theorem ZhJ {t0 t1:Bool}{a:Zq}{b s0:Int}{x3:LI}:∀(s4:Int) (r:(Unit⊕Unit)),lp (ZdR b x3) s4=some r->lpW ctx 0 [1,2,5,8,9] [1,2,4,5] ZrX [(zN b),(.ptr 0 0),(zN s0),(zV true x3),(zN s4)] [(.cells [(zW t0 Zf a.shapes),(.d (D.list t1 (List.map (ZP true) a.cores)))])]=some ((ZeV t0 t1 a b s0 x3) r):=
 lpT (ZeV t0 t1 a b s0 x3) fun s4 _ ih=>Zi (Zn _ _) (yB (yG fun x5 hx5=>
  yB (Zg rfl)
  (ZcA (ZgL rfl hx5) (yB (Zg rfl)
  (yB (yG fun x6 _=>
  ZcA (ZgL rfl hx5) (yB (Zg rfl)
  (Zh (ih _))))
  (Zh (ih _))))))
  (Zg rfl))
def Zfc (t0 t1:Bool) (a:Zq) (b:Int):(Unit⊕Unit)->Ex×List V×Zb
  | (.inl r)=>(.ret,[(zN b),(.ptr 0 0),(.d (D.bool false))],[(.cells [(zW t0 Zf a.shapes),(.d (D.list t1 (List.map (ZP true) a.cores)))])])
  | (.inr r)=>(.exit 0,[(zN b),(.ptr 0 0),.bad],[(.cells [(zW t0 Zf a.shapes),(.d (D.list t1 (List.map (ZP true) a.cores)))])])
theorem ZhI {t0 t1:Bool}{a:Zq}{b:Int}:∀(s0:Int) (r:(Unit⊕Unit)),lp (ZaY a b) s0=some r->lpW ctx 0 [1,2,5] [1,2,4] Zri [(zN b),(.ptr 0 0),(zN s0)] [(.cells [(zW t0 Zf a.shapes),(.d (D.list t1 (List.map (ZP true) a.cores)))])]=some ((Zfc t0 t1 a b) r):=
 lpT (Zfc t0 t1 a b) fun s0 _ ih=>Zi (Zn _ _) (yB (yG fun x1 _=>
  yC Zjp fun x2 _=>
  yG fun x3 _=>
  yB (Zg rfl)
  (Zi (Zn _ _) (yB (Zg rfl)
  (by
 conv=>rhs;whnf
 refine Zm _ (ZhJ _) fun r7 _=>?_
 rcases r7 with r7 | r7
 exact Zg rfl
 exact Zh (ih _)))))
  (Zg rfl))
def Zfg (t0 t1:Bool) (a:Zq) (b s9:Int):Int->Ex×List V×Zb
  | r=>(.exit 6,[(zN b),(.ptr 0 0),(zN s9),(zN r)],[(.cells [(zW t0 Zf a.shapes),(.d (D.list t1 (List.map (ZP true) a.cores)))])])
theorem ZhK {t0 t1:Bool}{a:Zq}{b s9:Int}:∀(s10:Int×Int) (r:Int),lp (Zaz a s9) s10=some r->lpW ctx 0 [1,2,10,11,12] [1,2,10,11] ZsC [(zN b),(.ptr 0 0),(zN s9),(zN s10.1),(zN s10.2)] [(.cells [(zW t0 Zf a.shapes),(.d (D.list t1 (List.map (ZP true) a.cores)))])]=some ((Zfg t0 t1 a b s9) r):=
 lpT (Zfg t0 t1 a b s9) fun s10 _ ih=>Zi (Zn _ _) (yB (yG fun x11 hx11=>
  ZcA (ZgL rfl hx11) (yB (yG fun x12 _=>
  yC Ze7 fun x13 _=>
  yB (Zh (ih _))
  (Zh (ih _)))
  (Zh (ih _))))
  (Zg rfl))
def ZeW (t0 t1:Bool) (a:Zq) (b s9 r14:Int) (x15:LI):(List Za)->Ex×List V×Zb
  | r=>(.exit 8,[(zN b),(.ptr 0 0),(zN s9),(zN r14),(zV true x15),(.sl 1 5)],[(.cells [(zW t0 Zf a.shapes),(.d (D.list t1 (List.map (ZP true) a.cores)))]),(.arr 5 (List.map Zf r))])
theorem ZhO {t0 t1:Bool}{a:Zq}{b s9 r14:Int}{x15:LI}:∀(s16:Int×(List Za)) (r:List Za),lp (Zaq a x15) s16=some r->lpW ctx 0 [1,2,10,11,13,14,15] [1,2,10,11,13,14] ZsH [(zN b),(.ptr 0 0),(zN s9),(zN r14),(zV true x15),(.sl 1 5),(zN s16.1)] [(.cells [(zW t0 Zf a.shapes),(.d (D.list t1 (List.map (ZP true) a.cores)))]),(.arr 5 (List.map Zf s16.2))]=some ((ZeW t0 t1 a b s9 r14 x15) r):=
 lpT (ZeW t0 t1 a b s9 r14 x15) fun s16 _ ih=>Zi (Zn _ _) (yB (yG fun x17 _=>
  yG fun x18 _=>
  yT (Zgx (Zi9 Zf s16.2 1) (Zi (ZiZ Zf s16.2 [x18]) (Zh (ih _)))
  Zeb))
  (Zg rfl))
def Zfb (t0 t1:Bool) (a:Zq) (b:Int):(Unit⊕Unit)->Ex×List V×Zb
  | (.inl r)=>(.ret,[(.d (D.bool false))],[])
  | (.inr r)=>(.exit 4,[.bad],[])
theorem ZhL {t0 t1:Bool}{a:Zq}{b:Int}:∀(s9:Int) (r:(Unit⊕Unit)),lp (Zcr a b) s9=some r->lpW ctx 0 [1,2,10] [4] Zsa [(zN b),(.ptr 0 0),(zN s9)] [(.cells [(zW t0 Zf a.shapes),(.d (D.list t1 (List.map (ZP true) a.cores)))])]=some ((Zfb t0 t1 a b) r):=
 lpT (Zfb t0 t1 a b) fun s9 _ ih=>yB (Zm _ (ZhK _) fun r14 _=>
  yC ZdP fun x15 _=>
  Zm _ (ZhO _) fun r19 _=>
  yB (Zg rfl)
  (yB (Zi (Zn _ _) (yB (Zg rfl)
  (yC ZgP fun x20 _=>
  yB (Zh (ih _))
  (Zg rfl))))
  (yC ZgP fun x21 _=>
  yB (Zh (ih _))
  (Zg rfl))))
  (Zg rfl)
theorem Zgi {t0 t1:Bool}{a:Zq}{b:Int}:∀r,(ZcL a b)=some r->evD ctx 18 [(.d (D.agg [(zM t0 Zf a.shapes),(D.list t1 (List.map (ZP true) a.cores))])),(zN b)]=some (Zkh r):=
 evT ZwG rfl rfl <| yBr (yBr (Zi (Zn _ _) (yBr (Zi (Zn _ _) (Zi (Zn _ _) (yBr (by
 conv=>rhs;whnf
 refine Zm _ (ZhI _) fun r8 _=>?_
 rcases r8 with r8 | r8
 exact yR
 exact(by
 conv=>rhs;whnf
 refine Zm _ (ZhL _) fun r22 _=>?_
 rcases r22 with r22 | r22
 exact yR
 exact yR))))))))
def ZiS (t0:Bool) (a:Int) (b:Za) (c:LI) (mA mB:Int):Int->V×Zb
  | r=>((.d (D.tup [])),[(.cells [(zN r)]),(.cells [(zN mB)])])
theorem Zii {t0:Bool}{a:Int}{b:Za}{c:LI}{mA mB:Int}:∀r,(Zeq a b c mA mB)=some r->evW ctx 48 [(zN a),(.d (zK0 b.total b.long b.most b.deadline b.period)),(zV t0 c),(.ptr 0 0),(.ptr 1 0)] [(.cells [(zN mA)]),(.cells [(zN mB)])]=some ((ZiS t0 a b c mA mB) r):=
 evS Zwg rfl rfl <| yB (yC Zcq fun x0 _=>
  yB (yC Zau fun x1 _=>
  yBr yR)
  yR)
  yR
def Zd8 (t0 t1:Bool) (a:Zq) (mA mB:Int):Int->V×Zb
  | r=>((.d (D.tup [])),[(.cells [(zN r)]),(.cells [(zN mB)])])
def Zbu (t0 t1:Bool) (a:Zq) (mB:Int):Int->Ex×List V×Zb
  | r=>(.exit 0,[],[(.cells [(zN r)]),(.cells [(zN mB)])])
theorem Zde {t0 t1:Bool}{a:Zq}{mB:Int}:∀(s0:Int×Int) (r:Int),lp (Zaw a mB) s0=some r->lpW ctx 2 [1,2,11,12] [] Zlv [(.fn 48 [(.ptr 0 0),(.ptr 1 0)]),(.ptr 2 0),(zN (bif decide ((a.cores.length:Int)<(a.shapes.length:Int)) then (a.cores.length:Int) else (a.shapes.length:Int))),(zN s0.1)] [(.cells [(zN s0.2)]),(.cells [(zN mB)]),(.cells [(zW t0 Zf a.shapes),(.d (D.list t1 (List.map (ZP true) a.cores)))])]=some ((Zbu t0 t1 a mB) r):=
 lpT (Zbu t0 t1 a mB) fun s0 _ ih=>yB (yG fun x1 _=>
  yG fun x2 _=>
  Zm _ Zii fun x3 _=>
  Zh (ih _))
  (Zg rfl)
theorem ZdQ {t0 t1:Bool}{a:Zq}{mA mB:Int}:∀r,(Zer a mA mB)=some r->evW ctx 41 [(.d (D.agg [(zM t0 Zf a.shapes),(D.list t1 (List.map (ZP true) a.cores))])),(.fn 48 [(.ptr 0 0),(.ptr 1 0)])] [(.cells [(zN mA)]),(.cells [(zN mB)])]=some ((Zd8 t0 t1 a mA mB) r):=
 evS ZqQ rfl rfl <| Zi (Zn _ _) (Zi (Zn _ _) (Zm _ (Zde _) fun r4 _=>
  yR))
def Zky (r:Int):D:=(ZY r)
theorem Zgd {t0 t1:Bool}{a:Zq}{b:Int}:∀r,(ZcQ a b)=some r->evD ctx 19 [(.d (D.agg [(zM t0 Zf a.shapes),(D.list t1 (List.map (ZP true) a.cores))])),(zN b)]=some (Zky r):=
 evT Zvi rfl rfl <| Zm _ ZdQ fun x0 _=>
  yR
def Zkd (r:Int):D:=(ZY r)
def Zfm (t0 t1:Bool) (a:Zq) (b:Int):(Int⊕Unit)->Ex×List V×Zb
  | (.inl r)=>(.ret,[(zN r)],[])
  | (.inr r)=>(.exit 0,[.bad],[])
theorem ZhG {t0 t1:Bool}{a:Zq}{b:Int}:∀(s0:Int) (r:(Int⊕Unit)),lp (Za0 a b) s0=some r->lpW ctx 0 [1,2,5] [4] ZsD [(zN b),(.ptr 0 0),(zN s0)] [(.cells [(zW t0 Zf a.shapes),(.d (D.list t1 (List.map (ZP true) a.cores)))])]=some ((Zfm t0 t1 a b) r):=
 lpT (Zfm t0 t1 a b) fun s0 _ ih=>Zi (Zn _ _) (yB (Zi (Zn _ _) (yB (yG fun x1 _=>
  yC ZcD fun x2 _=>
  yB (yB (yG fun x3 _=>
  yC Ze7 fun x4 _=>
  yB (Zg rfl)
  (Zh (ih _)))
  (Zh (ih _)))
  (Zh (ih _)))
  (Zg rfl)))
  (Zg rfl))
theorem Zf0 {t0 t1:Bool}{a:Zq}{b:Int}:∀r,(ZcN a b)=some r->evD ctx 20 [(.d (D.agg [(zM t0 Zf a.shapes),(D.list t1 (List.map (ZP true) a.cores))])),(zN b)]=some (Zkd r):=
 evT ZvW rfl rfl <| (by
 conv=>rhs;whnf
 refine Zm _ (ZhG _) fun r5 _=>?_
 rcases r5 with r5 | r5
 exact yR
 exact yR)
def Zhn (t0:Bool) (a:Int) (b:Za) (c:LI) (mA:Int) (mD:LI):(Unit⊕Unit)->V×Zb
  | (.inl r)=>((.d (D.tup [])),[(.cells [(zN mA)]),(.cells [(.sl 2 1)]),(zA mD)])
  | (.inr r)=>((.d (D.tup [])),[(.cells [(zN mA)]),(.cells [(.sl 3 1)]),.dead,(zA (mD++[a]))])
theorem ZgZ {t0:Bool}{a:Int}{b:Za}{c:LI}{mA:Int}{mD:LI}:∀r,(Zc5 a b c mA mD)=some r->evW ctx 50 [(zN a),(.d (zK0 b.total b.long b.most b.deadline b.period)),(zV t0 c),(.ptr 0 0),(.ptr 1 0)] [(.cells [(zN mA)]),(.cells [(.sl 2 1)]),(zA mD)]=some ((Zhn t0 a b c mA mD) r):=
 evS ZwO rfl rfl <| yC ZcC fun x0 _=>
  yB (yC Zcq fun x1 _=>
  yBr (yC Zau fun x2 _=>
  yB (yT (Zgx (Zi9 ZY mD 1) (Zi (ZiZ ZY mD [a]) yR)
  Zeb))
  yR))
  yR
def Zd7 (t0 t1:Bool) (a:Zq) (mA:Int):LI->V×Zb
  | r=>((.d (D.tup [])),[(.cells [(zN mA)]),(.cells [(.sl 2 1)]),(zA r)])
def Zbq (t0 t1:Bool) (a:Zq) (mA:Int):LI->Ex×List V×Zb
  | r=>(.exit 0,[],[(.cells [(zN mA)]),(.cells [(.sl 2 1)]),(zA r)])
theorem Zda {t0 t1:Bool}{a:Zq}{mA:Int}:∀(s0:Int×LI) (r:LI),lp (Zat a mA) s0=some r->lpW ctx 2 [1,2,11,12] [] Zlv [(.fn 50 [(.ptr 0 0),(.ptr 1 0)]),(.ptr 2 0),(zN (bif decide ((a.cores.length:Int)<(a.shapes.length:Int)) then (a.cores.length:Int) else (a.shapes.length:Int))),(zN s0.1)] [(.cells [(zN mA)]),(.cells [(.sl 3 1)]),(.cells [(zW t0 Zf a.shapes),(.d (D.list t1 (List.map (ZP true) a.cores)))]),(zA s0.2)]=some ((Zbq t0 t1 a mA) r):=
 lpT (Zbq t0 t1 a mA) fun s0 _ ih=>yB (yG fun x1 _=>
  yG fun x2 _=>
  (by
 conv=>rhs;whnf
 refine Zm _ ZgZ fun x3 _=>?_
 rcases x3 with x3 | x3
 exact Zh (ih _)
 exact Zh (ih _)))
  (Zg rfl)
theorem ZdM {t0 t1:Bool}{a:Zq}{mA:Int}:∀r,(Zes a mA)=some r->evW ctx 41 [(.d (D.agg [(zM t0 Zf a.shapes),(D.list t1 (List.map (ZP true) a.cores))])),(.fn 50 [(.ptr 0 0),(.ptr 1 0)])] [(.cells [(zN mA)]),(.cells [(.nilsl 1)])]=some ((Zd7 t0 t1 a mA) r):=
 evS ZqQ rfl rfl <| Zi (Zn _ _) (Zi (Zn _ _) (Zm _ (Zda _) fun r4 _=>
  yR))
def Zkr (r:LI):D:=(zL true r)
theorem ZfX {t0 t1:Bool}{a:Zq}{b:Int}:∀r,(ZcK a b)=some r->evD ctx 22 [(.d (D.agg [(zM t0 Zf a.shapes),(D.list t1 (List.map (ZP true) a.cores))])),(zN b)]=some (Zkr r):=
 evT Zv8 rfl rfl <| Zm _ ZdM fun x0 _=>
  yR
def ZdT (r:Bool):D:=(D.bool r)
def Zbe (t0 t1:Bool) (a:List Za) (b:List Za):(Unit⊕Unit)->Ex×List V×Zb
  | (.inl r)=>(.ret,[(.d (D.bool false))],[])
  | (.inr r)=>(.exit 0,[.bad],[])
theorem ZcX {t0 t1:Bool}{a:List Za}{b:List Za}:∀(s0:Int) (r:(Unit⊕Unit)),lp (ZK a b) s0=some r->lpW ctx 0 [0,1,12,13] [4] ZrU [(zW t0 Zf a),(zW t1 Zf b),(zN (a.length:Int)),(zN s0)] []=some ((Zbe t0 t1 a b) r):=
 lpT (Zbe t0 t1 a b) fun s0 _ ih=>yB (yG fun x1 _=>
  yG fun x2 _=>
  yB (Zg rfl)
  (Zh (ih _)))
  (Zg rfl)
theorem Zdz {t0 t1:Bool}{a:List Za}{b:List Za}:∀r,(Z7 a b)=some r->evD ctx 52 [(zW t0 Zf a),(zW t1 Zf b)]=some (ZdT r):=
 evT ZwD rfl rfl <| Zi (Zn _ _) (Zi (Zn _ _) (yBr (Zi (Zn _ _) (by
 conv=>rhs;whnf
 refine Zm _ (ZcX _) fun r3 _=>?_
 rcases r3 with r3 | r3
 exact yR
 exact yR))))
def Ze1 (r:Bool):D:=(D.bool r)
def ZbQ (t0 t1:Bool) (a:LI) (b:LI):(Unit⊕Unit)->Ex×List V×Zb
  | (.inl r)=>(.ret,[(.d (D.bool false))],[])
  | (.inr r)=>(.exit 0,[.bad],[])
theorem ZdN {t0 t1:Bool}{a:LI}{b:LI}:∀(s0:Int) (r:(Unit⊕Unit)),lp (ZT a b) s0=some r->lpW ctx 0 [0,1,12,13] [4] Zrh [(zV t0 a),(zV t1 b),(zN (a.length:Int)),(zN s0)] []=some ((ZbQ t0 t1 a b) r):=
 lpT (ZbQ t0 t1 a b) fun s0 _ ih=>yB (yG fun x1 _=>
  yG fun x2 _=>
  yB (Zg rfl)
  (Zh (ih _)))
  (Zg rfl)
theorem ZeI {t0 t1:Bool}{a:LI}{b:LI}:∀r,(ZI a b)=some r->evD ctx 54 [(zV t0 a),(zV t1 b)]=some (Ze1 r):=
 evT ZvU rfl rfl <| Zi (Zn _ _) (Zi (Zn _ _) (yBr (Zi (Zn _ _) (by
 conv=>rhs;whnf
 refine Zm _ (ZdN _) fun r3 _=>?_
 rcases r3 with r3 | r3
 exact yR
 exact yR))))
def Z1 (r:Bool):D:=(D.bool r)
def Zy (t0 t1:Bool) (a:(List LI)) (b:(List LI)):(Unit⊕Unit)->Ex×List V×Zb
  | (.inl r)=>(.ret,[(.d (D.bool false))],[])
  | (.inr r)=>(.exit 0,[.bad],[])
theorem ZV {t0 t1:Bool}{a:(List LI)}{b:(List LI)}:∀(s0:Int) (r:(Unit⊕Unit)),lp (Zr a b (fun z0 z1=>ZI z0 z1)) s0=some r->lpW ctx 0 [1,2,15,16,17] [6] ZrG [(.d (D.list t1 (List.map (ZP true) b))),(.d (D.fn 54 [])),(.d (D.list t0 (List.map (ZP true) a))),(zN (a.length:Int)),(zN s0)] []=some ((Zy t0 t1 a b) r):=
 lpT (Zy t0 t1 a b) fun s0 _ ih=>yB (yG fun x1 _=>
  yG fun x2 _=>
  yC ZeI fun x3 _=>
  yB (Zh (ih _))
  (Zg rfl))
  (Zg rfl)
theorem Z0 {t0 t1:Bool}{a:(List LI)}{b:(List LI)}:∀r,(ZH a b (fun z0 z1=>ZI z0 z1))=some r->evD ctx 53 [(.d (D.list t0 (List.map (ZP true) a))),(.d (D.list t1 (List.map (ZP true) b))),(.d (D.fn 54 []))]=some (Z1 r):=
 evT ZwN rfl rfl <| Zi (Zn _ _) (Zi (Zn _ _) (yBr (Zi (Zn _ _) (by
 conv=>rhs;whnf
 refine Zm _ (ZV _) fun r4 _=>?_
 rcases r4 with r4 | r4
 exact yR
 exact yR))))
def Zk0 (r:Bool):D:=(D.bool r)
theorem ZgO {t0 t1:Bool}{t2 t3:Bool}{a b:Zq}:∀r,(Zdp a b)=some r->evD ctx 24 [(.d (D.agg [(zM t0 Zf a.shapes),(D.list t1 (List.map (ZP true) a.cores))])),(.d (D.agg [(zM t2 Zf b.shapes),(D.list t3 (List.map (ZP true) b.cores))]))]=some (Zk0 r):=
 evT Zvs rfl rfl <| yC Zdz fun x0 _=>
  yB (yC Z0 fun x1 _=>
  yBr yR)
  yR
def Zg8 (r:Bool):D:=(D.bool r)
theorem ZgV {t0 t1:Bool}{t2 t3:Bool}{a b:Zq}{c d:Int}:∀r,(Zc2 a b c d)=some r->evD ctx 4 [(.d (D.agg [(zM t0 Zf a.shapes),(D.list t1 (List.map (ZP true) a.cores))])),(.d (D.agg [(zM t2 Zf b.shapes),(D.list t3 (List.map (ZP true) b.cores))])),(zN c),(zN d)]=some (Zg8 r):=
 evT fn4 rfl rfl <| yC Zcp fun x0 _=>
  yB (yC Zho fun x1 _=>
  yB (yC Zho fun x2 _=>
  yB (Zm _ Z9 fun x3 _=>
  yC ZjA fun x4 _=>
  yB (yC Zgi fun x5 _=>
  yB (yT (Zm _ Z9 fun x6 _=>
  yC Zgd fun x7 _=>
  yC Zf0 fun x8 _=>
  yB (Zm _ Z9 fun x9 _=>
  yC ZfX fun x10 _=>
  yC ZdP fun x11 _=>
  yC Zen fun x12 _=>
  yB (Zm _ Z9 fun x13 _=>
  Zm _ Z9 fun x14 _=>
  yC ZgO fun x15 _=>
  yB (yC ZcV fun x16 _=>
  yB (yT yR)
  (yF yR))
  (yC ZcV fun x17 _=>
  yB (yF yR)
  (yT yR)))
  yR)
  yR))
  (yF yR))
  (yC Zgi fun x18 _=>
  yB (yF yR)
  (yT (Zm _ Z9 fun x19 _=>
  yC Zgd fun x20 _=>
  yC Zf0 fun x21 _=>
  yB (Zm _ Z9 fun x22 _=>
  yC ZfX fun x23 _=>
  yC ZdP fun x24 _=>
  yC Zen fun x25 _=>
  yB (Zm _ Z9 fun x26 _=>
  Zm _ Z9 fun x27 _=>
  yC ZgO fun x28 _=>
  yB (yC ZcV fun x29 _=>
  yB (yT yR)
  (yF yR))
  (yC ZcV fun x30 _=>
  yB (yF yR)
  (yT yR)))
  yR)
  yR))))
  (yC Zcp fun x31 _=>
  yBr yR))
  (yC Zcp fun x32 _=>
  yBr yR))
  (yC Zcp fun x33 _=>
  yBr yR)
end
end Go.Proofs.YtmnglncebfabpaaGreatDoor
namespace Go.Proofs.YtmnglncebfabpaaGreatDoor
open Go Go.Proofs.YtmnglncebfabpaaGreatDoorE
open Go.IntKind (u64 i64 u32 i32 u8)
abbrev Zmc:List Lf×Bool:=([.int .i64],false)
abbrev ZhR:List Lf×Bool:=([.sl true [.int .i64,.int .i64,.int .i64,.int .i64,.int .i64],.sl false [.sl false [.int .i64]]],true)
end Go.Proofs.YtmnglncebfabpaaGreatDoor
namespace Go.Proofs.YtmnglncebfabpaaGreatDoor
open Go Go.Proofs.YtmnglncebfabpaaGreatDoorE
open Go.IntKind (u64 i64 u32 i32 u8)
open Nat (zero_add)
open List (length_take length_zip)
theorem ZoN (p:Zq):∃b,Zec p=some b/\(b=true->p.shapes.length<=20/\p.cores.length<=20/\∀r∈p.cores,r.length<=12):=by
  have key:∀(k i:Nat),i+k=p.cores.length->(∀r∈p.cores.take i,r.length<=12) ->
      (∃r,lp (Zai p) (i:Int)=some (.inl r))∨(∃r,lp (Zai p) (i:Int)=some (.inr r)/\(p.cores.length<=20->∀r∈p.cores,r.length<=12)):=by
    intro k
    induction k with
    | zero=>
      intro i hi h
      have hi:i=p.cores.length:=by omega
      subst hi
      rw[List.take_length] at h
      rw[ZdB]
      simp only[Zai,Zdd,cF]
      exact .inr ⟨(),trivial,fun _=>h⟩
    | succ k ih=>
      intro i hi h
      have hil:i<p.cores.length:=by omega
      have hx:=gE hil
      have ht:p.cores.take (i+1)=p.cores.take i++[p.cores[i]]:=by rw[List.take_add_one,hx];rfl
      generalize p.cores[i]=d at hx ht
      rw[ZdB]
      by_cases h13:(i:Int)<21
      · have hw:w64 ((i:Int)+1)=((i+1:Nat):Int):=by rw[ZaI (by omega)];omega
        simp only[Zai,ZcI hil,cT,dT h13,Zx hx,bS,hw]
        by_cases hd:(12:Int)<(d.length:Int)
        · rw[dT hd];exact .inl ⟨(),rfl⟩
        · rw[dF hd]
          exact ih (i+1) (by omega) (fun e he=>by
            rw[ht] at he
            rcases List.mem_append.1 he with he | he
            · exact h e he
            · rw[List.mem_singleton.1 he];omega)
      · simp only[Zai,ZcI hil,cT,dF h13,cF]
        exact .inr ⟨(),trivial,fun h12=>by omega⟩
  unfold Zec
  rcases key p.cores.length 0 (by omega) (fun d hd=>by simp at hd) with⟨r,h⟩ | ⟨r,h,h2⟩
  · rw[show lp (Zai p) 0=_ from h]
    exact⟨false,rfl,fun e=>by cases e⟩
  · rw[show lp (Zai p) 0=_ from h]
    by_cases h1:(p.shapes.length:Int)<=20
    · by_cases h3:(p.cores.length:Int)<=20
      · exact⟨true,by simp only[bS,dT h1,dT h3];rfl,fun _=>⟨by omega,by omega,h2 (by omega)⟩⟩
      · exact⟨false,by simp only[bS,dT h1,dF h3];rfl,fun e=>by cases e⟩
    · exact⟨false,by simp only[bS,dF h1];rfl,fun e=>by cases e⟩
theorem ZnC {s:List Za}{r:List LI}{i:Nat} (h:i<(s.zip r).length):i<s.length/\i<r.length:=by
  rw[length_zip] at h
  omega
theorem Zlr (s:List Za) (r:List LI) (c:Int) (hs:s.length<=1000) (hr:∀x∈r,x.length<=1000):Zb5 ⟨s,r⟩ c=some (liL c 0 (s.zip r)):=by
  have hl:(s.zip r).length<=1000:=by rw[length_zip];omega
  have:=(Zce (s.zip r) (Zax ⟨s,r⟩ c) (fun i m=>((i:Int),m)) (fun i m z=>bif Zcv z c then m++[(i:Int)] else m) id (fun i m=>m.length<=i) (fun i z m hi hz hI=>by
      obtain⟨h1,h2⟩:=Zgz hz
      obtain⟨l1,l2⟩:=ZnC hi
      have hrow:=hr _ (mG h2)
      have hhas:=Zno z.2 c (by omega)
      change Zbt z.2 c=some (hsB z c) at hhas
      have hd:decide (z.1.total<=z.1.deadline) = !hv z.1:=by
        unfold hv
        by_cases h:z.1.deadline<z.1.total
        · rw[dT h,dF (by omega)];rfl
        · rw[dF h,dT (by omega)];rfl
      simp only[Zax,ZcI l1,ZcI l2,cT,Zx h1,Zx h2,bS,Zd2,hd,hhas,ZF hi (by omega),Zlo (show m.length+1<=1073741824 by omega)]
      unfold Zcv hvB
      cases Z2 z.1 with
      | false=>exact⟨rfl,by show m.length<=i+1;omega⟩
      | true=>
        cases hv z.1 with
        | true=>exact⟨rfl,by show m.length<=i+1;omega⟩
        | false=>
          cases hsB z c with
          | false=>exact⟨rfl,by show m.length<=i+1;omega⟩
          | true=>exact⟨rfl,by show(m++[(i:Int)]).length<=i+1;rw[lA,List.length_singleton];omega⟩) (fun m _=>by
      by_cases h:(s.zip r).length<s.length
      · have:(s.zip r).length=r.length:=by rw[length_zip] at h ⊢;omega
        simp only[Zax,ZcI h,cT]
        rw[this]
        simp only[Zdd,cF];rfl
      · have:(s.zip r).length=s.length:=by rw[length_zip] at h ⊢;omega
        rw[this]
        simp only[Zax,Zdd,cF];rfl) [] (by simp)).1
  unfold Zb5
  rw[show lp (Zax ⟨s,r⟩ c) (0,([]:LI))=_ from this,Zib]
  rfl
noncomputable def ZdZ (z:Zgw) (c:Int):Bool:=hvB z.1&&hsB z c
theorem ZlK (c:Int):∀(l:List Zgw) (i:Nat) (m:Int),0<=m->Zci (fun i m z=>bif decide (m<0) then (bif ZdZ z c then (i:Int) else m) else m) i m l=m
  | [],_,_,_=>rfl
  | z :: l,i,m,h=>by
    unfold Zci
    rw[dF (by omega),cF]
    exact ZlK c l (i+1) m h
theorem Zk2 (c:Int):∀(l:List Zgw) (i:Nat),Zci (fun i m z=>bif decide (m<0) then (bif ZdZ z c then (i:Int) else m) else m) i (-1) l=(match Zkw (fun _ z=>ZdZ z c) (fun i _=>(Sum.inl (i:Int):Int⊕Unit)) (.inr ()) i l with | .inl x=>x | .inr _=>-1)
  | [],_=>rfl
  | z :: l,i=>by
    unfold Zci Zkw
    rw[dT (show(-1:Int)<0 by omega),cT]
    cases ZdZ z c with
    | true=>rw[cT,cT,ZlK c l (i+1) (i:Int) (by omega)]
    | false=>rw[cF,cF];exact Zk2 c l (i+1)
theorem Zq7 (s:List Za) (r:List LI) (c:Int) (hs:s.length<=1000) (hr:∀x∈r,x.length<=1000):∃n,ZcQ ⟨s,r⟩ c=some n/\ZcN ⟨s,r⟩ c=some n:=by
  have hl:(s.zip r).length<=1000:=by rw[length_zip];omega
  have a1:=(Zce (s.zip r) (Zaw ⟨s,r⟩ c) (fun i m=>((i:Int),m)) (fun i m z=>bif decide (m<0) then (bif ZdZ z c then (i:Int) else m) else m) id (fun _ _=>True) (fun i z m hi hz _=>by
      obtain⟨h1,h2⟩:=Zgz hz
      have hrow:=hr _ (mG h2)
      have hhas:=ZlU z.2 c (by omega)
      change Zu z.2 c=some (hsB z c) at hhas
      refine⟨?_,trivial⟩
      simp only[Zaw,Zj9,ZcI hi,cT,Zx h1,Zx h2,bS,Zeq,hhas,ZkZ,ZF hi (by omega)]
      unfold ZdZ
      cases decide (m<0) with
      | false=>rfl
      | true=>
        cases hvB z.1 with
        | false=>rfl
        | true=>cases hsB z c<;>rfl) (fun m _=>by simp only[Zaw,Zj9,Zdd,cF];rfl) (-1) trivial).1
  have r1:=ZdV (s.zip r) (Za0 ⟨s,r⟩ c) (fun _ z=>ZdZ z c) (fun i _=>(Sum.inl (i:Int):Int⊕Unit)) (.inr ()) (fun i z hi hz=>by
      obtain⟨h1,h2⟩:=Zgz hz
      obtain⟨l1,l2⟩:=ZnC hi
      have hrow:=hr _ (mG h2)
      have hhas:=Zno z.2 c (by omega)
      change Zbt z.2 c=some (hsB z c) at hhas
      simp only[Za0,ZcI l1,ZcI l2,cT,Zx h1,Zx h2,bS,Zd2,show decide (z.1.deadline<z.1.total)=hv z.1 from rfl,hhas,ZF hi (by omega)]
      unfold ZdZ hvB
      cases Z2 z.1<;>cases hv z.1<;>cases hsB z c<;>rfl) (by
      by_cases h:(s.zip r).length<s.length
      · have:(s.zip r).length=r.length:=by rw[length_zip] at h ⊢;omega
        simp only[Za0,ZcI h,cT]
        rw[this]
        simp only[Zdd,cF]
      · have:(s.zip r).length=s.length:=by rw[length_zip] at h ⊢;omega
        rw[this]
        simp only[Za0,Zdd,cF])
  refine⟨Zci (fun i m z=>bif decide (m<0) then (bif ZdZ z c then (i:Int) else m) else m) 0 (-1) (s.zip r),?_,?_⟩
  · unfold ZcQ Zer
    rw[show lp (Zaw ⟨s,r⟩ c) (0, -1)=_ from a1]
    rfl
  · unfold ZcN
    rw[r1,Zk2]
    cases Zkw (fun _ z=>ZdZ z c) (fun i _=>(Sum.inl (i:Int):Int⊕Unit)) (.inr ()) 0 (s.zip r)<;>rfl
theorem Zoj (c:Int) (r:LI):ZdR c r=Za7 r c:=rfl
theorem ZqW (s:List Za) (r:List LI) (c:Int) (hs:s.length<=1000) (hl:r.length=s.length) (hr:∀x∈r,x.length<=1000):lp (ZaY ⟨s,r⟩ c) 0=some (bif (s.zip r).all fun z=>ZfR z c then .inr () else .inl ()):=by
  have hzl:(s.zip r).length=s.length:=by rw[length_zip];omega
  have key:=ZdV (s.zip r) (ZaY ⟨s,r⟩ c) (fun _ z=>!ZfR z c) (fun _ _=>.inl ()) (.inr ()) (fun i z hi hz=>by
      obtain⟨h1,h2⟩:=Zgz hz
      obtain⟨l1,l2⟩:=ZnC hi
      have hrow:=hr _ (mG h2)
      simp only[ZaY,ZcI l1,cT,Zx h1,Zx h2,bS,Zmd,Zoj,Zmy z.2 c hrow,ZF hi (by omega)]
      unfold ZfR bne
      cases (Zcb z.1).2==0 with
      | false=>rfl
      | true=>
        cases ((z.2.length:Int)==(Zcb z.1).1) with
        | false=>rfl
        | true=>cases ZnF z.2 c<;>rfl) (by rw[hzl];simp only[ZaY,Zdd,cF])
  rw[key,Zc0,Zg6]
  congr 1
  have:((s.zip r).any fun z=>!ZfR z c) = !((s.zip r).all fun z=>ZfR z c):=by
    rw[List.not_all_eq_any_not]
  rw[this]
  cases (s.zip r).all fun z=>ZfR z c<;>rfl
theorem ZpC (s:List Za) (r:List LI) (c:Int) (hs:s.length<=1000) (hl:r.length=s.length) (hr:∀x∈r,x.length<=1000) (ok:∀z∈s.zip r,Z2 z.1=true):lp (Zaz ⟨s,r⟩ c) (0,0)=some (Zh6 c (s.zip r):Int):=by
  have hzl:(s.zip r).length=s.length:=by rw[length_zip];omega
  have ff:∀(l:List Zgw) (i:Nat) (n:Int),(∀z∈l,Z2 z.1=true)->Zci (fun _ n z=>bif hv z.1&&hsB z c then n+1 else n) i n l=n+(Zh6 c l:Int):=by
    intro l
    induction l with
    | nil=>intro i n _;simp[Zci,Zh6]
    | cons z l ih=>
      intro i n h
      have e:hvB z.1=hv z.1:=by unfold hvB;rw[h z (by simp)];rfl
      unfold Zci Zh6
      rw[ih _ _ fun y hy=>h y (by simp[hy]),e]
      cases hv z.1<;>cases hsB z c<;>simp<;>omega
  have:=(Zce (s.zip r) (Zaz ⟨s,r⟩ c) (fun i n=>(n,(i:Int))) (fun _ n z=>bif hv z.1&&hsB z c then n+1 else n) id (fun i n=>0<=n/\n<=(i:Int)) (fun i z n hi hz hI=>by
      obtain⟨h1,h2⟩:=Zgz hz
      obtain⟨l1,l2⟩:=ZnC hi
      have hrow:=hr _ (mG h2)
      have hhas:=Zno z.2 c (by omega)
      change Zbt z.2 c=some (hsB z c) at hhas
      obtain⟨i1,i2⟩:=hI
      simp only[Zaz,ZcI l1,cT,Zx h1,Zx h2,bS,show decide (z.1.deadline<z.1.total)=hv z.1 from rfl,hhas,ZF hi (by omega),ZaI (n:=n+1) (by omega)]
      cases hv z.1 with
      | false=>exact⟨rfl,i1,by show n<=((i+1:Nat):Int);omega⟩
      | true=>
        cases hsB z c with
        | false=>exact⟨rfl,i1,by show n<=((i+1:Nat):Int);omega⟩
        | true=>exact⟨rfl,by show 0<=n+1;omega,by show n+1<=((i+1:Nat):Int);omega⟩) (fun n _=>by rw[hzl];simp only[Zaz,Zdd,cF];rfl) 0 (by simp)).1
  rw[show lp (Zaz ⟨s,r⟩ c) (0,0)=_ from this,ff _ _ _ ok]
  simp
theorem ZnE (s:List Za) (r:List LI) (x17:LI) (w:List Za) (hl:x17.length<=1000) (h:x17.map (fun x=>Zj s x)=w.map some):lp (Zaq ⟨s,r⟩ x17) (0,([]:List Za))=some w:=by
  have hwl:x17.length=w.length:=by have:=congrArg List.length h;simpa using this
  have:=Zce x17 (Zaq ⟨s,r⟩ x17) (fun j m=>((j:Int),m)) (fun j _ _=>w.take (j+1)) id (fun j m=>m=w.take j) (fun j x m hj hx hI=>by
      have hml:m.length<=1000:=by rw[hI,length_take];omega
      have hg:w[j]? = some w[j]:=gE (by omega)
      have hv:Zj s x=some w[j]:=by
        have e1:(x17.map fun x=>Zj s x)[j]? = some (Zj s x):=by rw[List.getElem?_map,hx];rfl
        rw[h,List.getElem?_map,hg] at e1
        exact(Option.some.inj e1).symm
      have ht:w.take (j+1)=m++[w[j]]:=by rw[List.take_add_one,hg,hI];rfl
      refine⟨?_,rfl⟩
      simp only[Zaq,ZcI hj,cT,Zx hx,hv,bS,Zlo (show m.length+1<=1073741824 by omega),ZF hj (by omega),ht]) (fun m _=>by simp only[Zaq,Zdd,cF];rfl) [] (by simp)
  obtain⟨h1,h2⟩:=this
  rw[hwl,List.take_length] at h2
  rw[show lp (Zaq ⟨s,r⟩ x17) (0,([]:List Za))=_ from h1,h2]
  rfl
theorem Zrx (s:List Za) (r:List LI) (c:Int) (hs:s.length<=1000) (hr:∀x∈r,x.length<=1000):∃b,Zd4 ⟨s,r⟩ c=some b/\ZcL ⟨s,r⟩ c=some b:=by
  unfold Zd4 ZcL
  by_cases c1:c<1
  · rw[dT c1];exact⟨false,rfl,rfl⟩
  by_cases c8:8<c
  · rw[dF c1,dT c8];exact⟨false,rfl,rfl⟩
  by_cases h8:8<(s.length:Int)
  · rw[dF c1,dF c8];dsimp only;rw[dT h8];exact⟨false,rfl,rfl⟩
  rw[dF c1,dF c8]
  dsimp only
  rw[dF h8]
  simp only[cF]
  by_cases hl:r.length=s.length
  · rw[hl,bne_self_eq_false,cF,cF,ZwA s r c hs hr,ZqW s r c hs hl hr,bS,bS]
    cases hall:(s.zip r).all fun z=>ZfR z c with
    | false=>exact⟨false,rfl,rfl⟩
    | true=>
      simp only[cT]
      have ok:∀z∈s.zip r,Z2 z.1=true:=fun z hz=>by
        have:=List.all_eq_true.1 hall z hz
        unfold ZfR at this
        simp only[aT,beq_iff_eq] at this
        exact(Zsx this.1).1
      have hzl:(s.zip r).length=s.length:=by rw[length_zip];omega
      have hoff:∀core:Int,Zou core (s.zip r)=Zg3 core (s.zip r):=fun core=>by
        unfold Zou Zg3
        congr 1
        refine List.filter_congr fun z hz=>?_
        unfold Zcv
        rw[ok z hz,Bool.true_and,Bool.and_comm]
      have hsh:∀core:Int,(liL core 0 (s.zip r)).map (fun x=>Zj s x)=(Zg3 core (s.zip r)).map some:=fun core=>Zl1 core s (s.zip r) 0 (fun j z hz=>by rw[zero_add];exact(Zgz hz).1)
      have hll:∀core:Int,(liL core 0 (s.zip r)).length=(Zg3 core (s.zip r)).length:=fun core=>by have:=congrArg List.length (hsh core);simpa using this
      have hl8:∀core:Int,(Zg3 core (s.zip r)).length<=1000:=fun core=>by rw[<- hll];have:=ZkE core (s.zip r) 0;omega
      have same:Zad ⟨s,r⟩ c=Zcr ⟨s,r⟩ c:=by
        funext i
        unfold Zad Zcr
        rw[Zqd s r i hs hr,ZpC s r i hs hl hr ok,Zlr s r i hs hr]
        simp only[bS]
        rw[ZnE s r _ _ (by have:=ZkE i (s.zip r) 0;omega) (hsh i)]
        simp only[bS,hoff,hll,Zsu _ (hl8 i),ZoD _ (hl8 i)]
      let bad:Int->Bool:=fun i=>decide (1<(Zh6 i (s.zip r):Int)) || (((Zh6 i (s.zip r):Int)==1&&decide (0<((Zg3 i (s.zip r)).length:Int))) || !Zju (Zg3 i (s.zip r)))
      have hlp:lp (Zad ⟨s,r⟩ c) 0=some (bif ZoS (fun i _=>bad (i:Int)) 0 (Zmx 0 c.toNat) then .inl () else .inr ()):=by
        have key:=ZdV (Zmx 0 c.toNat) (Zad ⟨s,r⟩ c) (fun i _=>bad (i:Int)) (fun _ _=>.inl ()) (.inr ()) (fun i x hi _=>by
            rw[Zjy] at hi
            have hw:w64 ((i:Int)+1)=((i+1:Nat):Int):=by rw[ZaI (by omega)];omega
            simp only[Zad,dT (show(i:Int)<c by omega),cT,Zqd s r (i:Int) hs hr,bS,hoff,Zsu _ (hl8 (i:Int)),hw]
            show _=some (bif (decide (1<(Zh6 (i:Int) (s.zip r):Int)) || (((Zh6 (i:Int) (s.zip r):Int)==1&&decide (0<((Zg3 (i:Int) (s.zip r)).length:Int))) || !Zju (Zg3 (i:Int) (s.zip r)))) then _ else _)
            cases decide (1<(Zh6 (i:Int) (s.zip r):Int)) with
            | true=>rfl
            | false=>
              cases ((Zh6 (i:Int) (s.zip r):Int)==1) with
              | false=>cases Zju (Zg3 (i:Int) (s.zip r))<;>rfl
              | true=>cases decide (0<((Zg3 (i:Int) (s.zip r)).length:Int))<;>cases Zju (Zg3 (i:Int) (s.zip r))<;>rfl) (by
            rw[Zjy]
            simp only[Zad,dF (show ¬((c.toNat:Nat):Int)<c by omega),cF])
        rw[key,Zc0]
      rw[<- same,hlp]
      cases ZoS (fun i _=>bad (i:Int)) 0 (Zmx 0 c.toNat) with
      | true=>exact⟨false,rfl,rfl⟩
      | false=>exact⟨true,rfl,rfl⟩
  · rw[show((r.length:Int) != (s.length:Int))=true by simp;omega]
    exact⟨false,rfl,rfl⟩
theorem Zpp (a b:List Za) (hl:a.length<9223372036854775808):Z7 a b=some (decide (a=b)):=by
  unfold Z7
  by_cases he:a.length=b.length
  · have key := Zhx a b he (ZK a b) (fun i x y hi hx hy => by
        simp only[ZK,ZcI hi,Zx hx,Zx hy,bS,ZF hi hl,cT,Zn4]
        cases decide (x=y)<;>rfl) (by simp only[ZK,Zdd];rfl)
    rw[key,show((a.length:Int) != (b.length:Int))=false by rw[he];simp]
    cases decide (a=b)<;>rfl
  · rw[show((a.length:Int) != (b.length:Int))=true by simp;omega,dF (fun h=>he (by rw[h]))]
    rfl
theorem Zsj (a b:LI) (hl:a.length<9223372036854775808):ZI a b=some (decide (a=b)):=by
  unfold ZI
  by_cases he:a.length=b.length
  · have key := Zhx a b he (ZT a b) (fun i x y hi hx hy => by
        simp only[ZT,ZcI hi,Zx hx,Zx hy,bS,ZF hi hl,cT]
        have e:(x != y) = !decide (x=y):=by rw[Bool.eq_iff_iff];simp
        rw[e]
        cases decide (x=y)<;>rfl) (by simp only[ZT,Zdd];rfl)
    rw[key,show((a.length:Int) != (b.length:Int))=false by rw[he];simp]
    cases decide (a=b)<;>rfl
  · rw[show((a.length:Int) != (b.length:Int))=true by simp;omega,dF (fun h=>he (by rw[h]))]
    rfl
theorem ZsG (p q:Zq) (h1:p.shapes.length<=1000) (h2:p.cores.length<=1000) (h3:∀r∈p.cores,r.length<=1000):Zdp p q=some (decide (p=q)):=by
  unfold Zdp
  rw[Zpp p.shapes q.shapes (by omega),bS]
  have hpq:p=q↔p.shapes=q.shapes/\p.cores=q.cores:=by cases p;cases q;simp
  by_cases hs:p.shapes=q.shapes
  · rw[dT hs,cT]
    unfold ZH
    by_cases he:p.cores.length=q.cores.length
    · have key := Zhx p.cores q.cores he (Zr p.cores q.cores (fun z0 z1 => ZI z0 z1)) (fun i x y hi hx hy => by
          have:=h3 x (mG hx)
          simp only[Zr,ZcI hi,Zx hx,Zx hy,bS,Zsj x y (by omega),ZF hi (by omega),cT]
          cases decide (x=y)<;>rfl) (by simp only[Zr,Zdd];rfl)
      rw[key,show((p.cores.length:Int) != (q.cores.length:Int))=false by rw[he];simp]
      by_cases hc:p.cores=q.cores
      · rw[dT hc,dT (hpq.2 ⟨hs,hc⟩)];rfl
      · rw[dF hc,dF fun e=>hc (hpq.1 e).2];rfl
    · rw[show((p.cores.length:Int) != (q.cores.length:Int))=true by simp;omega,dF fun e=>he (by rw[e])]
      rfl
  · rw[dF hs,dF fun e=>hs (by rw[e])];rfl
theorem ZlW (a b:Zq) (c d:Int):Zc2 a b c d=some true:=by
  unfold Zc2
  simp only[Zb8,bS,cT]
  obtain⟨f,f1,f2⟩:=ZoN a
  obtain⟨g,g1,g2⟩:=ZoN b
  rw[f1,g1,bS,bS]
  cases f with
  | false=>rfl
  | true=>
    cases g with
    | false=>rfl
    | true=>
      obtain⟨a1,a2,a3⟩:=f2 rfl
      obtain⟨b1,b2,b3⟩:=g2 rfl
      have ra:∀r∈a.cores,r.length<=1000:=fun r hr=>by have:=a3 r hr;omega
      have rb:∀r∈b.cores,r.length<=1000:=fun r hr=>by have:=b3 r hr;omega
      have pa:=ZmN a (by omega) (by omega) ra
      have pb:=ZmN b (by omega) (by omega) rb
      obtain⟨x,x1,x2⟩:=Zrx a.shapes a.cores c (by omega) ra
      obtain⟨y,y1,y2⟩:=Zq7 a.shapes a.cores d (by omega) ra
      have l1:=Ztd a.shapes a.cores d (by omega) ra
      have l2:=Zlr a.shapes a.cores d (by omega) ra
      have hll:=ZkE d (a.shapes.zip a.cores) 0
      have hzl:(a.shapes.zip a.cores).length<=20:=by rw[length_zip];omega
      have ri:=ZoP (liL d 0 (a.shapes.zip a.cores)) (liL d 0 (a.shapes.zip a.cores)) (by omega)
      rw[dT rfl] at ri
      have sm:=ZsG a b (by omega) (by omega) ra
      have rs:=ZoW a b (by omega) (by omega) ra
      have ea:Zq.mk a.shapes a.cores=a:=rfl
      have eb:Zq.mk b.shapes b.cores=b:=rfl
      rw[ea] at x1 x2 y1 y2 l1 l2
      simp only[cT,pa,pb,ea,eb,bS,x1,x2,y1,y2,beq_self_eq_true,l1,l2,ri,sm,rs]
      cases x<;>cases decide (a=b)<;>rfl
theorem Zuh {x:D} (h:ZqX (.sl false [.sl false [.int .i64]]) x):∃l:List LI,x = .list true (l.map (ZP true)):=by
  obtain⟨xs,rfl,h1,h2⟩:=h
  obtain⟨l,hl,_⟩:=ZkM (f:=ZP true) (p:=fun _=>True) (xs:=xs) fun y hy=>by
    obtain⟨a1,a2⟩:=h2 y hy
    rw[Zqe a1] at a2
    obtain⟨d,r,e1,e2,_⟩:=a2
    cases e1
    obtain⟨m,hm,_⟩:=Ztc e2
    exact⟨m,hm,trivial⟩
  subst hl
  exact⟨l,rfl⟩
theorem ZoG {xs:List D} (h:Zdg [.sl true [.int .i64,.int .i64,.int .i64,.int .i64,.int .i64],.sl false [.sl false [.int .i64]]] xs):∃p:Zq,D.agg xs=Zyv p:=by
  obtain⟨x,r,rfl,h1,y,r2,rfl,h2,rfl⟩:=h
  obtain⟨s,rfl⟩:=ZrA h1
  obtain⟨m,rfl⟩:=Zuh h2
  exact⟨⟨s,m⟩,rfl⟩
theorem Zl7 (xs:List D) (h:Zdg ZhR.1 xs) (ys:List D) (h2:Zdg ZhR.1 ys) (zs:List D) (k:Zdg Zmc.1 zs) (ws:List D) (m:Zdg Zmc.1 ws):∃H',evW ctx 4 (ZaG [ZjC ZhR.2 xs,ZjC ZhR.2 ys,ZjC Zmc.2 zs,ZjC Zmc.2 ws]) []=some (.d (.bool true),H'):=by
  obtain⟨p,hp⟩:=ZoG h
  obtain⟨q,hq⟩:=ZoG h2
  obtain⟨n,hn,okn⟩:=Zss k
  obtain⟨n2,hn2,okn2⟩:=Zss m
  show ∃H',evW ctx 4 [.d (D.agg xs),.d (D.agg ys),.d (ZjC false zs),.d (ZjC false ws)] []=_
  rw[hp,hq,hn,hn2]
  exact ZsU (ZgV true (ZlW p q n n2))
end Go.Proofs.YtmnglncebfabpaaGreatDoor
namespace Go.Proofs.YtmnglncebfabpaaGreatDoor.LawAdmitPlans
open Go.ChangeShapes Go.WideShapes Go.ChangeAt Go.RowKit Go.Proofs.YtmnglncebfabpaaGreatDoorE
theorem own:ownKnob Tryz.prog.godebug=none:=by kernel_rfl
theorem ZkL:laidOutB Tryz.prog=true:=by kernel_rfl
def Zl3 : List (String × DataW Unit) := [("math/bits.deBruijn32tab", Rows.laid_math_bits_deBruijn32tab), ("math/bits.deBruijn64tab", Rows.laid_math_bits_deBruijn64tab)]
theorem ZsI (os:Os) (args:Array Value):laidMetH Tryz.prog Zl3 ((World.doorLaid Tryz.prog 19 os).forCall (fun _ _=>0) ⟨#[],args,[]⟩).memory:=
 laidMetH_of_parts3 (fuel:=8) (laidMet_of_run' 8 (by kernel_rfl) (by kernel_rfl)) (by kernel_rfl) (by kernel_rfl)
theorem ZrI {W:World} (h:laidMetH Tryz.prog Zl3 W):GOK ZfZ R0 W:=by
 intro g l hg
 unfold ZfZ at hg
 split at hg
 ·cases hg
  exact ZlJ (t := 175) (N := 32) (e := 5) (k := .u8) h (by kernel_rfl) (n := "math/bits.deBruijn32tab") (by rw [show DataW.agg (Zij ZuP) = Rows.laid_math_bits_deBruijn32tab by kernel_rfl]; simp [Zl3]) (by kernel_rfl) (by kernel_rfl) (by kernel_rfl) (by kernel_rfl) (by kernel_rfl) (by kernel_rfl) (by decide)
 ·cases hg
  exact ZlJ (t := 176) (N := 64) (e := 5) (k := .u8) h (by kernel_rfl) (n := "math/bits.deBruijn64tab") (by rw [show DataW.agg (Zij Zus) = Rows.laid_math_bits_deBruijn64tab by kernel_rfl]; simp [Zl3]) (by kernel_rfl) (by kernel_rfl) (by kernel_rfl) (by kernel_rfl) (by kernel_rfl) (by kernel_rfl) (by decide)
 ·cases hg
theorem Zwi (os:Os) (started:os.Started) (H:Type) (enc:TypeId×Value->H) :
  ReturnsInHanded {} Tryz.checked os 4 .any (fun w args=>(Rows.admitPlansSpec.pre enc Tryz.prog Tryz.f4 [] false w args/\laidMetH Tryz.prog Zl3 w)/\sizedMet enc Tryz.prog Tryz.f4 (OpenSpec.ofChange Rows.admitPlansSpec) false w args) (Rows.admitPlansSpec.post enc Tryz.prog Tryz.f4 false true false false):=by
 refine returnsInHanded_of_change_and (C:=Tryz.checked) (X:=fun w _=>laidMetH Tryz.prog Zl3 w) (fun _ _ _ hh h=>h.of_heap hh) own started (by kernel_rfl) Tryz.func4
  (ChangeSpec.witness_shaped (enc:=enc) (C:=Tryz.checked) (os:=os) (X:=fun w _=>laidMetH Tryz.prog Zl3 w) false (World.doorLaid Tryz.prog 19 os) #[.agg #[.slice none 0 0,.slice none 0 0],.agg #[.slice none 0 0,.slice none 0 0],.int .i64 0,.int .i64 0] 8 rfl (World.shaped_of_RefB (by kernel_rfl) (by kernel_rfl)) (by kernel_rfl) (by kernel_rfl) (by kernel_rfl) (ZsI os _)) ?_
 intro W base args ds gs before hval0 hW _ _ hL _
 have hval:∀(j:Nat) t v,Tryz.f4.params[j]? = some t->args[j]? = some v->Value.okWide Tryz.prog W .any base t v:=hval0
 have hW':=hW
 obtain⟨p,q,hA0,hV,rfl,hfz,hnd⟩:=hW
 have hA:DataW.TrodAll enc Tryz.prog W 0 (fun _=>true) true Tryz.f4.params.toList args.toList ds p:=hA0
 rw[Tryz.params4] at hA hval
 obtain⟨v0,vs0,d0,ds0,p0,q0,hargs,rfl,rfl,h0,r0⟩:=trodAll_cons hA
 obtain⟨v1,vs1,d1,ds1,p1,q1,rfl,rfl,rfl,h1,r1⟩:=trodAll_cons r0
 obtain⟨v2,vs2,d2,ds2,p2,q2,rfl,rfl,rfl,h2,r2⟩:=trodAll_cons r1
 obtain⟨v3,vs3,d3,ds3,p3,q3,rfl,rfl,rfl,h3,r3⟩:=trodAll_cons r2
 obtain⟨rfl,rfl,rfl⟩:=trodAll_nil r3
 obtain rfl:args = #[v0,v1,v2,v3]:=by cases args;simp_all
 obtain⟨rfl,rfl⟩:=trodVars_none hV
 have lt0:∀x∈p0,x.block<W.heap.size:=by obtain⟨m,hm⟩:=h0;exact DataW.trod_lt m _ _ _ hm
 obtain⟨x0,ok0,den0⟩:=Znl (P:=Tryz.prog) (n:=8) (t:=28) (l:=ZhR.1) (ag:=ZhR.2) (by kernel_rfl) (hval 0 28 v0 rfl rfl) h0
 have lt1:∀x∈p1,x.block<W.heap.size:=by obtain⟨m,hm⟩:=h1;exact DataW.trod_lt m _ _ _ hm
 obtain⟨x1,ok1,den1⟩:=Znl (P:=Tryz.prog) (n:=8) (t:=28) (l:=ZhR.1) (ag:=ZhR.2) (by kernel_rfl) (hval 1 28 v1 rfl rfl) h1
 have lt2:∀x∈p2,x.block<W.heap.size:=by obtain⟨m,hm⟩:=h2;exact DataW.trod_lt m _ _ _ hm
 obtain⟨x2,ok2,den2⟩:=Znl (P:=Tryz.prog) (n:=8) (t:=3) (l:=Zmc.1) (ag:=Zmc.2) (by kernel_rfl) (hval 2 3 v2 rfl rfl) h2
 have lt3:∀x∈p3,x.block<W.heap.size:=by obtain⟨m,hm⟩:=h3;exact DataW.trod_lt m _ _ _ hm
 obtain⟨x3,ok3,den3⟩:=Znl (P:=Tryz.prog) (n:=8) (t:=3) (l:=Zmc.1) (ag:=Zmc.2) (by kernel_rfl) (hval 3 3 v3 rfl rfl) h3
 obtain⟨H1,ev⟩:=Zl7 x0 ok0 x1 ok1 x2 ok2 x3 ok3
 have den:ZE All All All W [ZjC ZhR.2 x0,ZjC ZhR.2 x1,ZjC Zmc.2 x2,ZjC Zmc.2 x3] [v0,v1,v2,v3]:=⟨_,_,rfl,den0,⟨_,_,rfl,den1,⟨_,_,rfl,den2,⟨_,_,rfl,den3,rfl⟩⟩⟩⟩
 refine(Zq3 ZxK (ZrI hL) den ev).mono fun e W' ⟨he,bel⟩=>?_
 subst he
 exact⟨_,rfl,_,_,_,[],_,[],hW',trodAll_mk1 (shut_bool Tryz.underlying4 _),(trodAll_cons_mk (Below.trod ZkL (by kernel_rfl) (of_decide_eq_true (by kernel_rfl)) h0 bel lt0) (trodAll_cons_mk (Below.trod ZkL (by kernel_rfl) (of_decide_eq_true (by kernel_rfl)) h1 bel lt1) (trodAll_cons_mk (Below.trod ZkL (by kernel_rfl) (of_decide_eq_true (by kernel_rfl)) h2 bel lt2) (trodAll_cons_mk (Below.trod ZkL (by kernel_rfl) (of_decide_eq_true (by kernel_rfl)) h3 bel lt3) trodAll_mk0)))),rfl,bel.frame _,fun h=>by cases h⟩
theorem over:Rows.admitPlansRow.holds Tryz.pinned (OpenSpec.ofChange Rows.admitPlansSpec):=
 OpenClaim.holds_of_wide 4 Tryz.f4 rfl rfl rfl rfl rfl rfl rfl ⟨rfl,rfl,rfl,rfl,rfl⟩ rfl rfl rfl rfl rfl (by kernel_rfl) Tryz.func4 (by kernel_rfl)
  (of_decide_eq_true (by kernel_rfl)) (by unfold Func.isWrapper;first | (rw[if_pos (by decide +kernel)];kernel_rfl) | (rw[if_neg (by decide +kernel)];exact⟨rfl,rfl⟩))
  (fun os started H enc _=>Zwi os started H enc)
theorem proved:Rows.AdmitPlansSaid:=over
theorem carded:Rows.AdmitPlansCardSaid:=
 Claim7.holds_tied_plain_at .later [] [.data, .data] true (true, "5993bbbb36cd418e27731508b4ad0539b37fc49c272e06c4f0b99c3df5968dc5") false
  proved (fun _ h=>by cases h) (by kernel_rfl) (fun _ h=>by cases h) admitPlans_row_tie rfl ⟨rfl,rfl⟩ (by kernel_rfl) rfl
  (fun f fn hf hfn=>by
   obtain rfl : f = 4 := Option.some.inj ((show Tryz.prog.funcNamed "trefoil/trefoillaw17.AdmitPlans" = some 4 by kernel_rfl).symm.trans hf) |>.symm
   obtain rfl:fn=Tryz.f4:=(Option.some.inj (Tryz.func4.symm.trans hfn)).symm
   exact⟨by kernel_rfl,fun j t ht=>by
    rw[Tryz.params4] at ht
    have hm:t∈[28,28,3,3]:=by simpa using Array.mem_of_getElem? ht
    have hall:([28,28,3,3].all fun u=>!Tryz.prog.wantsStandIn u)=true:=by kernel_rfl
    exact(show Tryz.prog.wantsStandIn t=false by simpa using List.all_eq_true.1 hall t hm)⟩)
  (by kernel_rfl)
end Go.Proofs.YtmnglncebfabpaaGreatDoor.LawAdmitPlans
namespace Go.Proofs.YtmnglncebfabpaaGreatDoor
theorem admitPlans_holds:Rows.AdmitPlansCardSaid:=LawAdmitPlans.carded
#print axioms admitPlans_holds
end Go.Proofs.YtmnglncebfabpaaGreatDoor
