/- AdmitTells: part 4 of 6 of the proof. -/
import Derived.Test.YtmnglncebfabpaaGreatDoorZAdmitTellsc
import Derived.KernelRfl
import Derived.Sort.AssemblyPlain
set_option maxRecDepth 100000
set_option maxHeartbeats 40000000
set_option linter.unusedVariables false
set_option linter.unusedSimpArgs false
namespace Go.Proofs.YtmnglncebfabpaaGreatDoor
open Go Go.Proofs.YtmnglncebfabpaaGreatDoorE
open Go.IntKind (u64 i64 u32 i32 u8)
abbrev LI:=List Int
noncomputable section
structure Zf where
 total:Int
 long:Int
 most:Int
 deadline:Int
 period:Int
 deriving DecidableEq
abbrev Zr (x:Zf):D:=(D.agg [(Zn x.total),(Zn x.long),(Zn x.most),(Zn x.deadline),(Zn x.period)])
structure ZfM where
 shapes:(List Zf)
 cores:(List LI)
 deriving DecidableEq
structure Z5 where
 work:LI
 edges:(List Zo)
 deriving DecidableEq
structure Zi where
 part:Int
 step:Int
 deriving DecidableEq
abbrev ZaA (x:Zi):D:=(D.agg [(Zn x.part),(Zn x.step)])
structure ZoC where
 dag:Z5
 pieces:(List Zi)
 deriving DecidableEq
structure ZxV where
 shape:Zf
 deriving DecidableEq
structure ZiK where
 cores:Int
 e:Int
 deriving DecidableEq
structure Ztg where
 shape:Zf
 deriving DecidableEq
def Zzf:ByteArray:=zT1
abbrev dA (t0 t1 t2 t3:Bool) (a:Zj):List D:=[(Zn a.period),(Zn a.deadline),(D.list t0 (List.map Zk3 a.parts)),(D.list t1 (List.map Zab a.edges)),(D.list t2 (List.map Z6 a.futures)),(D.list t3 (List.map Zdx a.barriers))]
abbrev dV (t0 t1 t2 t3:Bool) (a:Zj):List V:=[(.d (Zn a.period)),(.d (Zn a.deadline)),(.d (D.list t0 (List.map Zk3 a.parts))),(.d (D.list t1 (List.map Zab a.edges))),(.d (D.list t2 (List.map Z6 a.futures))),(.d (D.list t3 (List.map Zdx a.barriers)))]
def Zh9:Option Bool:=some true
def Zho (a:Zj) (s0:Int):Option (Int⊕(Unit⊕Unit)):=bif (decide (s0<(a.barriers.length:Int))) then bif (decide (s0<9)) then (ZA a.barriers s0).bind fun x1=>bif (decide (20<(x1.ins.length:Int))) then some (.inr (.inl ())) else bif (decide (20<(x1.outs.length:Int))) then some (.inr (.inl ())) else some (.inl (w64 (s0+1))) else some (.inr (.inr ())) else some (.inr (.inr ()))
def Zl4 (a:Zj):Option Bool:=(lp (Zho a) 0).bind fun r2=>match r2 with | (.inl r2)=>some false | (.inr r2)=>bif (decide ((a.parts.length:Int)<=20)) then bif (decide ((a.edges.length:Int)<=60)) then bif (decide ((a.futures.length:Int)<=20)) then bif (decide ((a.barriers.length:Int)<=8)) then some true else some false else some false else some false else some false
def Zc0 (a:List Zj) (s0:Int):Option (Int⊕(Unit⊕Unit)):=bif (decide (s0<(a.length:Int))) then bif (decide (s0<13)) then (ZA a s0).bind fun x1=>(Zl4 x1).bind fun x2=>bif x2 then some (.inl (w64 (s0+1))) else some (.inr (.inl ())) else some (.inr (.inr ())) else some (.inr (.inr ()))
def Zl2 (a:List Zj):Option Bool:=(lp (Zc0 a) 0).bind fun r3=>match r3 with | (.inl r3)=>some false | (.inr r3)=>bif (decide ((a.length:Int)<=12)) then some true else some false
def Zgd (a:Zj) (s0:Int×(List Zv)):Option ((Int×(List Zv))⊕(List Zv)):=bif (decide (s0.1<(a.barriers.length:Int))) then (ZA a.barriers s0.1).bind fun x1=>bif (Nat.ble (x1.ins.length) lim) then bif (Nat.ble (x1.outs.length) lim) then bif (Nat.ble (s0.2.length+1) lim) then some (.inl ((w64 (s0.1+1)),(s0.2++[x1]))) else none else none else none else some (.inr s0.2)
def Zmg (a:Zj):Option (List Zv):=bif (Nat.ble (a.parts.length) lim) then bif (Nat.ble (a.edges.length) lim) then bif (Nat.ble (a.futures.length) lim) then (lp (Zgd a) (0,([]:List Zv))).bind fun r2=>some r2 else none else none else none
def Zgr (a:List Zj) (s0:Int×(List Zj)):Option ((Int×(List Zj))⊕(List Zj)):=bif (decide (s0.1<(a.length:Int))) then (ZA a s0.1).bind fun x1=>(Zmg x1).bind fun x2=>bif (Nat.ble (s0.2.length+1) lim) then some (.inl ((w64 (s0.1+1)),(s0.2++[(Zj.mk x1.period x1.deadline x1.parts x1.edges x1.futures x2)]))) else none else some (.inr s0.2)
def Zml (a:List Zj):Option (List Zj):=(lp (Zgr a) (0,([]:List Zj))).bind fun r3=>some r3
def Zb9 (a b c:Int):Option Bool:=bif (decide (b<=a)) then bif (decide (a<=c)) then some true else some false else some false
def Ziu (a:Int):Option Int:=bif (decide (a<0)) then some 10 else bif (decide (1099511627775<a)) then some 11 else some 0
abbrev oc0 (a:Int):Int:=(u64.wrap (Zs a &&& Zs 6148914691236517205).toNat)
abbrev oc1 (a:Int):Int:=(u64.wrap (Zs (Int.fdiv a (2 ^ 1)) &&& Zs 6148914691236517205).toNat)
abbrev oc2 (a:Int):Int:=(u64.wrap ((oc1 a)+(oc0 a)))
abbrev oc3 (a:Int):Int:=(Int.fdiv (oc2 a) (2 ^ 2))
abbrev oc4 (a:Int):Int:=(u64.wrap (Zs (oc3 a) &&& Zs 3689348814741910323).toNat)
abbrev oc5 (a:Int):Int:=(u64.wrap (Zs (oc2 a) &&& Zs 3689348814741910323).toNat)
abbrev oc6 (a:Int):Int:=(u64.wrap ((oc4 a)+(oc5 a)))
abbrev oc7 (a:Int):Int:=(Int.fdiv (oc6 a) (2 ^ 4))
abbrev oc8 (a:Int):Int:=(u64.wrap ((oc7 a)+(oc6 a)))
abbrev oc9 (a:Int):Int:=(u64.wrap (Zs (oc8 a) &&& Zs 1085102592571150095).toNat)
abbrev ZO2 (a:Int):Int:=(Int.fdiv (oc9 a) (2 ^ 8))
abbrev ZNd (a:Int):Int:=(u64.wrap ((oc9 a)+(ZO2 a)))
abbrev ZOL (a:Int):Int:=(Int.fdiv (ZNd a) (2 ^ 16))
abbrev ZMJ (a:Int):Int:=(u64.wrap ((ZNd a)+(ZOL a)))
def ZdL (a:Int):Option Int:=some (i64.wrap (ZJL (w64 (u64.wrap ((ZMJ a)+(Int.fdiv (ZMJ a) (2 ^ 32))))) &&& ZJL 127).toNat)
def Ze6 (a:Int):Option Int:=(ZdL a).bind fun x0=>some x0
def ZyU:LI:=[0,1,56,2,57,49,28,3,61,58,42,50,38,29,17,4,62,47,59,36,45,43,51,22,53,39,33,30,24,18,12,5,63,55,48,27,60,41,37,16,46,35,44,21,52,32,23,11,54,26,40,15,34,20,31,10,25,14,19,9,13,8,7,6]
def Zeb (a:Int):Option Int:=some (bif a==0 then 64 else w64 (ZyU.getD (Int.fdiv (u64.wrap ((u64.wrap (Zs a &&& Zs (u64.wrap (0-a))).toNat)*285870213051353865)) (2 ^ (min (Int.toNat 58) u64.bits))).toNat 0))
def Zfq (a:Int):Option Int:=(Zeb a).bind fun x0=>some x0
def ZmO (a:Int):Option (Int×Bool):=(Ziu a).bind fun x0=>bif (x0 != 0) then some (0,false) else (Ze6 (u64.wrap a)).bind fun x1=>bif (x1 != 1) then some (0,false) else (Zfq (u64.wrap a)).bind fun x2=>some (x2,true)
def Zhw (a:Z7):Option Bool:=(Zb9 a.op 0 5).bind fun x0=>bif x0 then (Zb9 a.arg 0 2147483647).bind fun x1=>bif x1 then (Zb9 a.work 1 100).bind fun x2=>bif x2 then some false else some true else some true else some true
def ZbM (a:List Z7) (b:(Z7->Option Bool)) (s0:Int):Option (Int⊕(Int⊕Unit)):=bif (decide (s0<(a.length:Int))) then (ZA a s0).bind fun x1=>(b x1).bind fun x2=>bif x2 then some (.inr (.inl s0)) else some (.inl (w64 (s0+1))) else some (.inr (.inr ()))
def Zdd (a:List Z7) (b:(Z7->Option Bool)):Option Int:=(lp (ZbM a b) 0).bind fun r3=>match r3 with | (.inl r3)=>some r3 | (.inr r3)=>some (-1)
def ZbN (a:List Z7) (b:(Z7->Option Bool)):Option Bool:=(Zdd a b).bind fun x0=>bif (decide (0<=x0)) then some true else some false
def Zlm (a:Zj) (b c:Int):Option Bool:=bif (b != c) then (Zb9 b 0 (w64 ((a.parts.length:Int)-1))).bind fun x0=>bif x0 then (Zb9 c 0 (w64 ((a.parts.length:Int)-1))).bind fun x1=>bif x1 then some true else some false else some false else some false
def Zcp (a:List Zo) (b:Zo) (s0:Int):Option (Int⊕(Int⊕Unit)):=bif (decide (s0<(a.length:Int))) then (ZA a s0).bind fun x1=>bif ((b.src==x1.src)&&((b.dst==x1.dst)&&true)) then some (.inr (.inl s0)) else some (.inl (w64 (s0+1))) else some (.inr (.inr ()))
def ZeN (a:List Zo) (b:Zo):Option Int:=(lp (Zcp a b) 0).bind fun r2=>match r2 with | (.inl r2)=>some r2 | (.inr r2)=>some (-1)
def ZbD (a:List Zo) (b:Zo):Option Bool:=(ZeN a b).bind fun x0=>bif (decide (0<=x0)) then some true else some false
def Ze4 (a:Zl) (b1 b2:Int):Option Bool:=bif (a.user==b1) then bif (a.pos==b2) then some true else some false else some false
def Zbi (a:List Zl) (b:(Zl->Option Bool)) (s0:Int):Option (Int⊕(Int⊕Unit)):=bif (decide (s0<(a.length:Int))) then (ZA a s0).bind fun x1=>(b x1).bind fun x2=>bif x2 then some (.inr (.inl s0)) else some (.inl (w64 (s0+1))) else some (.inr (.inr ()))
def ZcJ (a:List Zl) (b:(Zl->Option Bool)):Option Int:=(lp (Zbi a b) 0).bind fun r3=>match r3 with | (.inl r3)=>some r3 | (.inr r3)=>some (-1)
def Zbj (a:List Zl) (b:(Zl->Option Bool)):Option Bool:=(ZcJ a b).bind fun x0=>bif (decide (0<=x0)) then some true else some false
def Zh4 (a:Zj) (b:LI) (s0:Int):Option (Int⊕(Unit⊕Unit)):=bif (decide (s0<(b.length:Int))) then (ZA b s0).bind fun x1=>(Zb9 x1 0 (w64 ((a.parts.length:Int)-1))).bind fun x2=>bif x2 then bif (decide (0<s0)) then (ZA b (w64 (s0-1))).bind fun x3=>bif (decide (x1<=x3)) then some (.inr (.inl ())) else some (.inl (w64 (s0+1))) else some (.inl (w64 (s0+1))) else some (.inr (.inl ())) else some (.inr (.inr ()))
def Zlq (a:Zj) (b:LI):Option Bool:=(lp (Zh4 a b) 0).bind fun r4=>match r4 with | (.inl r4)=>some false | (.inr r4)=>bif (decide (0<(b.length:Int))) then some true else some false
def ZcR (a:LI) (b s0:Int):Option (Int⊕(Int⊕Unit)):=bif (decide (s0<(a.length:Int))) then (ZA a s0).bind fun x1=>bif (b==x1) then some (.inr (.inl s0)) else some (.inl (w64 (s0+1))) else some (.inr (.inr ()))
def Zf0 (a:LI) (b:Int):Option Int:=(lp (ZcR a b) 0).bind fun r2=>match r2 with | (.inl r2)=>some r2 | (.inr r2)=>some (-1)
def ZcQ (a:LI) (b:Int):Option Bool:=(Zf0 a b).bind fun x0=>bif (decide (0<=x0)) then some true else some false
def Ze5 (a:Int) (b1:LI):Option Bool:=(ZcQ b1 a).bind fun x0=>bif x0 then some true else some false
def Z1 (a:LI) (b:(Int->Option Bool)) (s0:Int):Option (Int⊕(Int⊕Unit)):=bif (decide (s0<(a.length:Int))) then (ZA a s0).bind fun x1=>(b x1).bind fun x2=>bif x2 then some (.inr (.inl s0)) else some (.inl (w64 (s0+1))) else some (.inr (.inr ()))
def ZaN (a:LI) (b:(Int->Option Bool)):Option Int:=(lp (Z1 a b) 0).bind fun r3=>match r3 with | (.inl r3)=>some r3 | (.inr r3)=>some (-1)
def ZaR (a:LI) (b:(Int->Option Bool)):Option Bool:=(ZaN a b).bind fun x0=>bif (decide (0<=x0)) then some true else some false
def ZfA (a:Zj) (s4:Int):Option (Int⊕(Unit⊕Unit)):=bif (decide (s4<(a.edges.length:Int))) then (ZA a.edges s4).bind fun x5=>(Zlm a x5.src x5.dst).bind fun x6=>bif x6 then bif (decide (0<=s4)) then bif (Nat.ble s4.toNat (a.edges.length)) then (ZbD (List.take s4.toNat a.edges) x5).bind fun x7=>bif x7 then some (.inr (.inl ())) else some (.inl (w64 (s4+1))) else none else none else some (.inr (.inl ())) else some (.inr (.inr ()))
def ZfC (a:Zj) (s9:Int):Option (Int⊕(Unit⊕Unit)):=bif (decide (s9<(a.futures.length:Int))) then (ZA a.futures s9).bind fun x10=>(Zlm a x10.maker x10.user).bind fun x11=>bif x11 then (ZA a.parts x10.user).bind fun x12=>(Zb9 x10.pos 1 (w64 (x12.work-1))).bind fun x13=>bif x13 then bif (decide (0<=s9)) then bif (Nat.ble s9.toNat (a.futures.length)) then (Zbj (List.take s9.toNat a.futures) (fun z0=>Ze4 z0 x10.user x10.pos)).bind fun x14=>bif x14 then some (.inr (.inl ())) else some (.inl (w64 (s9+1))) else none else none else some (.inr (.inl ())) else some (.inr (.inl ())) else some (.inr (.inr ()))
def ZfB (a:Zj) (s16:Int):Option (Int⊕(Unit⊕Unit)):=bif (decide (s16<(a.barriers.length:Int))) then (ZA a.barriers s16).bind fun x17=>(Zlq a x17.ins).bind fun x18=>bif x18 then (Zlq a x17.outs).bind fun x19=>bif x19 then (ZaR x17.ins (fun z0=>Ze5 z0 x17.outs)).bind fun x20=>bif x20 then some (.inr (.inl ())) else some (.inl (w64 (s16+1))) else some (.inr (.inl ())) else some (.inr (.inl ())) else some (.inr (.inr ()))
def ZiQ (a:Zj):Option Int:=(Zb9 (a.parts.length:Int) 1 16).bind fun x0=>bif x0 then bif (decide (48<(a.edges.length:Int))) then some 50 else bif (decide (16<(a.futures.length:Int))) then some 50 else bif (decide (4<(a.barriers.length:Int))) then some 50 else (ZmO a.period).bind fun x1=>bif x1.2 then bif (decide (4096<a.period)) then some 51 else (Zb9 a.deadline 1 a.period).bind fun x2=>bif x2 then (ZbN a.parts (fun z0=>Zhw z0)).bind fun x3=>bif x3 then some 52 else (lp (ZfA a) 0).bind fun r8=>match r8 with | (.inl r8)=>some 53 | (.inr r8)=>(lp (ZfC a) 0).bind fun r15=>match r15 with | (.inl r15)=>some 54 | (.inr r15)=>(lp (ZfB a) 0).bind fun r21=>match r21 with | (.inl r21)=>some 55 | (.inr r21)=>some 0 else some 51 else some 51 else some 50
def Zz (a b:Int) (c4:List Zl):Option Int:=(ZA c4 a).bind fun x0=>(ZA c4 b).bind fun x1=>some (w64 (x0.pos-x1.pos))
def Zmt (a:Int):Option Int:=bif (decide (4294967296<=a)) then bif (decide (65536<=(Int.fdiv a (2 ^ 32)))) then bif (decide (256<=(Int.fdiv (Int.fdiv a (2 ^ 32)) (2 ^ 16)))) then bif (decide (0<=(u8.wrap (Int.fdiv (Int.fdiv (Int.fdiv a (2 ^ 32)) (2 ^ 16)) (2 ^ 8))))) then (Zzf[(u8.wrap (Int.fdiv (Int.fdiv (Int.fdiv a (2 ^ 32)) (2 ^ 16)) (2 ^ 8))).toNat]?).bind fun x0=>some (w64 (56+(w64 (x0.toNat:Int)))) else none else bif (decide (0<=(u8.wrap (Int.fdiv (Int.fdiv a (2 ^ 32)) (2 ^ 16))))) then (Zzf[(u8.wrap (Int.fdiv (Int.fdiv a (2 ^ 32)) (2 ^ 16))).toNat]?).bind fun x1=>some (w64 (48+(w64 (x1.toNat:Int)))) else none else bif (decide (256<=(Int.fdiv a (2 ^ 32)))) then bif (decide (0<=(u8.wrap (Int.fdiv (Int.fdiv a (2 ^ 32)) (2 ^ 8))))) then (Zzf[(u8.wrap (Int.fdiv (Int.fdiv a (2 ^ 32)) (2 ^ 8))).toNat]?).bind fun x2=>some (w64 (40+(w64 (x2.toNat:Int)))) else none else bif (decide (0<=(u8.wrap (Int.fdiv a (2 ^ 32))))) then (Zzf[(u8.wrap (Int.fdiv a (2 ^ 32))).toNat]?).bind fun x3=>some (w64 (32+(w64 (x3.toNat:Int)))) else none else bif (decide (65536<=a)) then bif (decide (256<=(Int.fdiv a (2 ^ 16)))) then bif (decide (0<=(u8.wrap (Int.fdiv (Int.fdiv a (2 ^ 16)) (2 ^ 8))))) then (Zzf[(u8.wrap (Int.fdiv (Int.fdiv a (2 ^ 16)) (2 ^ 8))).toNat]?).bind fun x4=>some (w64 (24+(w64 (x4.toNat:Int)))) else none else bif (decide (0<=(u8.wrap (Int.fdiv a (2 ^ 16))))) then (Zzf[(u8.wrap (Int.fdiv a (2 ^ 16))).toNat]?).bind fun x5=>some (w64 (16+(w64 (x5.toNat:Int)))) else none else bif (decide (256<=a)) then bif (decide (0<=(u8.wrap (Int.fdiv a (2 ^ 8))))) then (Zzf[(u8.wrap (Int.fdiv a (2 ^ 8))).toNat]?).bind fun x6=>some (w64 (8+(w64 (x6.toNat:Int)))) else none else bif (decide (0<=(u8.wrap a))) then (Zzf[(u8.wrap a).toNat]?).bind fun x7=>some (w64 (0+(w64 (x7.toNat:Int)))) else none
def Zg5 (a:Int):Option Int:=(Zmt a).bind fun x0=>some x0
def Z4 (b:Int) (d:(Int->Int->Option Int)) (s1:Int×LI):Option ((Int×LI)⊕LI):=bif (decide (b<s1.1)) then (ZA s1.2 s1.1).bind fun x2=>(ZA s1.2 (w64 (s1.1-1))).bind fun x3=>(d x2 x3).bind fun x4=>bif (decide (x4<0)) then (ZA (List.set s1.2 s1.1.toNat x3) (w64 (s1.1-1))).bind fun x5=>some (.inl ((w64 (s1.1-1)),(List.set (List.set s1.2 s1.1.toNat x3) (w64 (s1.1-1)).toNat x2))) else some (.inr s1.2) else some (.inr s1.2)
def Zat (b c:Int) (d:(Int->Int->Option Int)) (s0:Int×LI):Option ((Int×LI)⊕LI):=bif (decide (s0.1<c)) then (lp (Z4 b d) (s0.1,s0.2)).bind fun r6=>some (.inl ((w64 (s0.1+1)),r6)) else some (.inr s0.2)
def Z3 (b c:Int) (d:(Int->Int->Option Int)) (mH:LI):Option LI:=(lp (Zat b c d) ((w64 (b+1)),mH)).bind fun r7=>some r7
def ZN (c d:Int) (e:(Int->Int->Option Int)) (s0:Int×LI):Option ((Int×LI)⊕(LI⊕LI)):=bif (decide (c<=(w64 ((w64 (2*s0.1))+1)))) then some (.inr (.inl s0.2)) else bif (decide ((w64 ((w64 ((w64 (2*s0.1))+1))+1))<c)) then (ZA s0.2 (w64 (d+(w64 ((w64 (2*s0.1))+1))))).bind fun x1=>(ZA s0.2 (w64 ((w64 (d+(w64 ((w64 (2*s0.1))+1))))+1))).bind fun x2=>(e x1 x2).bind fun x3=>bif (decide (x3<0)) then (ZA s0.2 (w64 (d+s0.1))).bind fun x4=>(ZA s0.2 (w64 (d+(w64 ((w64 ((w64 (2*s0.1))+1))+1))))).bind fun x5=>(e x4 x5).bind fun x6=>bif (decide (x6<0)) then (ZA (List.set s0.2 (w64 (d+s0.1)).toNat x5) (w64 (d+(w64 ((w64 ((w64 (2*s0.1))+1))+1))))).bind fun x7=>some (.inl ((w64 ((w64 ((w64 (2*s0.1))+1))+1)),(List.set (List.set s0.2 (w64 (d+s0.1)).toNat x5) (w64 (d+(w64 ((w64 ((w64 (2*s0.1))+1))+1)))).toNat x4))) else some (.inr (.inr s0.2)) else (ZA s0.2 (w64 (d+s0.1))).bind fun x8=>(e x8 x1).bind fun x9=>bif (decide (x9<0)) then (ZA (List.set s0.2 (w64 (d+s0.1)).toNat x1) (w64 (d+(w64 ((w64 (2*s0.1))+1))))).bind fun x10=>some (.inl ((w64 ((w64 (2*s0.1))+1)),(List.set (List.set s0.2 (w64 (d+s0.1)).toNat x1) (w64 (d+(w64 ((w64 (2*s0.1))+1)))).toNat x8))) else some (.inr (.inr s0.2)) else (ZA s0.2 (w64 (d+s0.1))).bind fun x11=>(ZA s0.2 (w64 (d+(w64 ((w64 (2*s0.1))+1))))).bind fun x12=>(e x11 x12).bind fun x13=>bif (decide (x13<0)) then (ZA (List.set s0.2 (w64 (d+s0.1)).toNat x12) (w64 (d+(w64 ((w64 (2*s0.1))+1))))).bind fun x14=>some (.inl ((w64 ((w64 (2*s0.1))+1)),(List.set (List.set s0.2 (w64 (d+s0.1)).toNat x12) (w64 (d+(w64 ((w64 (2*s0.1))+1)))).toNat x11))) else some (.inr (.inr s0.2))
def ZaM (b c d:Int) (e:(Int->Int->Option Int)) (mH:LI):Option LI:=(lp (ZN c d e) (b,mH)).bind fun r15=>match r15 with | (.inl r15)=>some r15 | (.inr r15)=>some r15
def ZaQ (b c:Int) (d:(Int->Int->Option Int)) (s0:Int×LI):Option ((Int×LI)⊕LI):=bif (decide (0<=s0.1)) then (ZaM s0.1 (w64 (c-b)) b d s0.2).bind fun x1=>some (.inl ((w64 (s0.1-1)),x1)) else some (.inr s0.2)
def ZaS (b:Int) (d:(Int->Int->Option Int)) (s3:Int×LI):Option ((Int×LI)⊕LI):=bif (decide (0<=s3.1)) then (ZA s3.2 (w64 (b+s3.1))).bind fun x4=>(ZA s3.2 b).bind fun x5=>(ZA (List.set s3.2 b.toNat x4) (w64 (b+s3.1))).bind fun x6=>(ZaM 0 s3.1 b d (List.set (List.set s3.2 b.toNat x4) (w64 (b+s3.1)).toNat x5)).bind fun x7=>some (.inl ((w64 (s3.1-1)),x7)) else some (.inr s3.2)
def Zaf (b c:Int) (d:(Int->Int->Option Int)) (mH:LI):Option LI:=(lp (ZaQ b c d) ((w64 (Int.tdiv (w64 ((w64 (c-b))-1)) 2)),mH)).bind fun r2=>(lp (ZaS b d) ((w64 ((w64 (c-b))-1)),r2)).bind fun r8=>some r8
def Za3 (b c:Int) (e:(Int->Int->Option Int)) (mH:LI) (mA:Int):Option (Int×Int×Int):=(ZA mH c).bind fun x0=>(ZA mH b).bind fun x1=>(e x0 x1).bind fun x2=>bif (decide (x2<0)) then some (c,b,(w64 (mA+1))) else some (b,c,mA)
def Za2 (b c d:Int) (f:(Int->Int->Option Int)) (mH:LI) (mA:Int):Option (Int×Int):=(Za3 b c f mH mA).bind fun x0=>(Za3 x0.2.1 d f mH x0.2.2).bind fun x1=>(Za3 x0.1 x1.1 f mH x1.2.2).bind fun x2=>some (x2.2.1,x2.2.2)
def Zah (b:Int) (d:(Int->Int->Option Int)) (mH:LI) (mA:Int):Option (Int×Int):=(Za2 (w64 (b-1)) b (w64 (b+1)) d mH mA).bind fun x0=>some (x0.1,x0.2)
def ZU (b c:Int) (d:(Int->Int->Option Int)) (mH:LI):Option (Int×Int):=bif (decide (8<=(w64 (c-b)))) then bif (decide (50<=(w64 (c-b)))) then (Zah (w64 (b+(w64 ((w64 (Int.tdiv (w64 (c-b)) 4))*1)))) d mH 0).bind fun x0=>(Zah (w64 (b+(w64 ((w64 (Int.tdiv (w64 (c-b)) 4))*2)))) d mH x0.2).bind fun x1=>(Zah (w64 (b+(w64 ((w64 (Int.tdiv (w64 (c-b)) 4))*3)))) d mH x1.2).bind fun x2=>(Za2 x0.1 x1.1 x2.1 d mH x2.2).bind fun x3=>bif (x3.2==0) then some (x3.1,1) else bif (x3.2==12) then some (x3.1,2) else some (x3.1,0) else (Za2 (w64 (b+(w64 ((w64 (Int.tdiv (w64 (c-b)) 4))*1)))) (w64 (b+(w64 ((w64 (Int.tdiv (w64 (c-b)) 4))*2)))) (w64 (b+(w64 ((w64 (Int.tdiv (w64 (c-b)) 4))*3)))) d mH 0).bind fun x4=>bif (x4.2==0) then some (x4.1,1) else bif (x4.2==12) then some (x4.1,2) else some (x4.1,0) else some ((w64 (b+(w64 ((w64 (Int.tdiv (w64 (c-b)) 4))*2)))),1)
def Zac (s0:Int×Int×LI):Option ((Int×Int×LI)⊕LI):=bif (decide (s0.1<s0.2.1)) then (ZA s0.2.2 s0.2.1).bind fun x1=>(ZA s0.2.2 s0.1).bind fun x2=>(ZA (List.set s0.2.2 s0.1.toNat x1) s0.2.1).bind fun x3=>some (.inl ((w64 (s0.1+1)),(w64 (s0.2.1-1)),(List.set (List.set s0.2.2 s0.1.toNat x1) s0.2.1.toNat x2))) else some (.inr s0.2.2)
def ZR (b c:Int) (d:(Int->Int->Option Int)) (mH:LI):Option LI:=(lp (Zac) (b,(w64 (c-1)),mH)).bind fun r4=>some r4
def ZQ (c:Int) (d:(Int->Int->Option Int)) (s0:Int×Int×LI) (s1:Int):Option (Int⊕Int):=bif (decide (s1<c)) then (ZA s0.2.2 s1).bind fun x2=>(ZA s0.2.2 (w64 (s1-1))).bind fun x3=>(d x2 x3).bind fun x4=>bif (decide (x4<0)) then some (.inr s1) else some (.inl (w64 (s1+1))) else some (.inr s1)
def Z0 (d:(Int->Int->Option Int)) (s9:Int×LI):Option ((Int×LI)⊕LI):=bif (decide (1<=s9.1)) then (ZA s9.2 s9.1).bind fun x10=>(ZA s9.2 (w64 (s9.1-1))).bind fun x11=>(d x10 x11).bind fun x12=>bif (decide (x12<0)) then (ZA (List.set s9.2 s9.1.toNat x11) (w64 (s9.1-1))).bind fun x13=>some (.inl ((w64 (s9.1-1)),(List.set (List.set s9.2 s9.1.toNat x11) (w64 (s9.1-1)).toNat x10))) else some (.inr s9.2) else some (.inr s9.2)
def ZM (c:Int) (d:(Int->Int->Option Int)) (s15:Int×LI):Option ((Int×LI)⊕LI):=bif (decide (s15.1<c)) then (ZA s15.2 s15.1).bind fun x16=>(ZA s15.2 (w64 (s15.1-1))).bind fun x17=>(d x16 x17).bind fun x18=>bif (decide (x18<0)) then (ZA (List.set s15.2 s15.1.toNat x17) (w64 (s15.1-1))).bind fun x19=>some (.inl ((w64 (s15.1+1)),(List.set (List.set s15.2 s15.1.toNat x17) (w64 (s15.1-1)).toNat x16))) else some (.inr s15.2) else some (.inr s15.2)
def ZZ (b c:Int) (d:(Int->Int->Option Int)) (s0:Int×Int×LI):Option ((Int×Int×LI)⊕(LI⊕(LI⊕LI))):=bif (decide (s0.2.1<5)) then (lp (ZQ c d s0) s0.1).bind fun r5=>bif (r5==c) then some (.inr (.inl s0.2.2)) else bif (decide ((w64 (c-b))<50)) then some (.inr (.inr (.inl s0.2.2))) else (ZA s0.2.2 (w64 (r5-1))).bind fun x6=>(ZA s0.2.2 r5).bind fun x7=>(ZA (List.set s0.2.2 r5.toNat x6) (w64 (r5-1))).bind fun x8=>bif (decide (2<=(w64 (r5-b)))) then (lp (Z0 d) ((w64 (r5-1)),(List.set (List.set s0.2.2 r5.toNat x6) (w64 (r5-1)).toNat x7))).bind fun r14=>bif (decide (2<=(w64 (c-r5)))) then (lp (ZM c d) ((w64 (r5+1)),r14)).bind fun r20=>some (.inl (r5,(w64 (s0.2.1+1)),r20)) else some (.inl (r5,(w64 (s0.2.1+1)),r14)) else bif (decide (2<=(w64 (c-r5)))) then (lp (ZM c d) ((w64 (r5+1)),(List.set (List.set s0.2.2 r5.toNat x6) (w64 (r5-1)).toNat x7))).bind fun r26=>some (.inl (r5,(w64 (s0.2.1+1)),r26)) else some (.inl (r5,(w64 (s0.2.1+1)),(List.set (List.set s0.2.2 r5.toNat x6) (w64 (r5-1)).toNat x7))) else some (.inr (.inr (.inr s0.2.2)))
def ZX (b c:Int) (d:(Int->Int->Option Int)) (mH:LI):Option (LI⊕LI):=(lp (ZZ b c d) ((w64 (b+1)),0,mH)).bind fun r27=>match r27 with | (.inl r27)=>some (.inl r27) | (.inr (.inl r27))=>some (.inr r27) | (.inr (.inr r27))=>some (.inr r27)
def ZaK (b c d:Int) (mH:LI) (e:(Int->Int->Option Int)) (x0 x1 s3:Int):Option (Int⊕Int):=bif (decide (s3<=(w64 (c-1)))) then (ZA (List.set (List.set mH b.toNat x0) d.toNat x1) s3).bind fun x4=>(ZA (List.set (List.set mH b.toNat x0) d.toNat x1) b).bind fun x5=>(e x4 x5).bind fun x6=>bif (decide (x6<0)) then some (.inl (w64 (s3+1))) else some (.inr s3) else some (.inr s3)
def ZaJ (b d:Int) (mH:LI) (e:(Int->Int->Option Int)) (x0 x1 r7 s8:Int):Option (Int⊕Int):=bif (decide (r7<=s8)) then (ZA (List.set (List.set mH b.toNat x0) d.toNat x1) s8).bind fun x9=>(ZA (List.set (List.set mH b.toNat x0) d.toNat x1) b).bind fun x10=>(e x9 x10).bind fun x11=>bif (decide (x11<0)) then some (.inr s8) else some (.inl (w64 (s8-1))) else some (.inr s8)
def ZaL (b:Int) (e:(Int->Int->Option Int)) (s19:Int×Int×LI) (s20:Int):Option (Int⊕Int):=bif (decide (s20<=s19.2.1)) then (ZA s19.2.2 s20).bind fun x21=>(ZA s19.2.2 b).bind fun x22=>(e x21 x22).bind fun x23=>bif (decide (x23<0)) then some (.inl (w64 (s20+1))) else some (.inr s20) else some (.inr s20)
def ZaH (b:Int) (e:(Int->Int->Option Int)) (s19:Int×Int×LI) (r24 s25:Int):Option (Int⊕Int):=bif (decide (r24<=s25)) then (ZA s19.2.2 s25).bind fun x26=>(ZA s19.2.2 b).bind fun x27=>(e x26 x27).bind fun x28=>bif (decide (x28<0)) then some (.inr s25) else some (.inl (w64 (s25-1))) else some (.inr s25)
def Za9 (b:Int) (e:(Int->Int->Option Int)) (s19:Int×Int×LI):Option ((Int×Int×LI)⊕(Int×LI)):=(lp (ZaL b e s19) s19.1).bind fun r24=>(lp (ZaH b e s19 r24) s19.2.1).bind fun r29=>bif (decide (r29<r24)) then some (.inr (r29,s19.2.2)) else (ZA s19.2.2 r29).bind fun x30=>(ZA s19.2.2 r24).bind fun x31=>(ZA (List.set s19.2.2 r24.toNat x30) r29).bind fun x32=>some (.inl ((w64 (r24+1)),(w64 (r29-1)),(List.set (List.set s19.2.2 r24.toNat x30) r29.toNat x31)))
def Zu (b c d:Int) (e:(Int->Int->Option Int)) (mH:LI):Option ((Int×LI)⊕(Int×LI)):=(ZA mH d).bind fun x0=>(ZA mH b).bind fun x1=>(ZA (List.set mH b.toNat x0) d).bind fun x2=>(lp (ZaK b c d mH e x0 x1) (w64 (b+1))).bind fun r7=>(lp (ZaJ b d mH e x0 x1 r7) (w64 (c-1))).bind fun r12=>bif (decide (r12<r7)) then (ZA (List.set (List.set mH b.toNat x0) d.toNat x1) b).bind fun x13=>(ZA (List.set (List.set mH b.toNat x0) d.toNat x1) r12).bind fun x14=>(ZA (List.set (List.set (List.set mH b.toNat x0) d.toNat x1) r12.toNat x13) b).bind fun x15=>some (.inl (r12,(List.set (List.set (List.set (List.set mH b.toNat x0) d.toNat x1) r12.toNat x13) b.toNat x14))) else (ZA (List.set (List.set mH b.toNat x0) d.toNat x1) r12).bind fun x16=>(ZA (List.set (List.set mH b.toNat x0) d.toNat x1) r7).bind fun x17=>(ZA (List.set (List.set (List.set mH b.toNat x0) d.toNat x1) r7.toNat x16) r12).bind fun x18=>(lp (Za9 b e) ((w64 (r7+1)),(w64 (r12-1)),(List.set (List.set (List.set (List.set mH b.toNat x0) d.toNat x1) r7.toNat x16) r12.toNat x17))).bind fun r33=>(ZA r33.2 b).bind fun x34=>(ZA r33.2 r33.1).bind fun x35=>(ZA (List.set r33.2 r33.1.toNat x34) b).bind fun x36=>some (.inr (r33.1,(List.set (List.set r33.2 r33.1.toNat x34) b.toNat x35)))
def Zal (b:Int) (e:(Int->Int->Option Int)) (s3:Int×Int×LI) (s4:Int):Option (Int⊕Int):=bif (decide (s4<=s3.2.1)) then (ZA s3.2.2 b).bind fun x5=>(ZA s3.2.2 s4).bind fun x6=>(e x5 x6).bind fun x7=>bif (decide (x7<0)) then some (.inr s4) else some (.inl (w64 (s4+1))) else some (.inr s4)
def Zam (b:Int) (e:(Int->Int->Option Int)) (s3:Int×Int×LI) (r8 s9:Int):Option (Int⊕Int):=bif (decide (r8<=s9)) then (ZA s3.2.2 b).bind fun x10=>(ZA s3.2.2 s9).bind fun x11=>(e x10 x11).bind fun x12=>bif (decide (x12<0)) then some (.inl (w64 (s9-1))) else some (.inr s9) else some (.inr s9)
def ZaI (b:Int) (e:(Int->Int->Option Int)) (s3:Int×Int×LI):Option ((Int×Int×LI)⊕(Int×LI)):=(lp (Zal b e s3) s3.1).bind fun r8=>(lp (Zam b e s3 r8) s3.2.1).bind fun r13=>bif (decide (r13<r8)) then some (.inr (r8,s3.2.2)) else (ZA s3.2.2 r13).bind fun x14=>(ZA s3.2.2 r8).bind fun x15=>(ZA (List.set s3.2.2 r8.toNat x14) r13).bind fun x16=>some (.inl ((w64 (r8+1)),(w64 (r13-1)),(List.set (List.set s3.2.2 r8.toNat x14) r13.toNat x15)))
def ZG (b c d:Int) (e:(Int->Int->Option Int)) (mH:LI):Option (Int×LI):=(ZA mH d).bind fun x0=>(ZA mH b).bind fun x1=>(ZA (List.set mH b.toNat x0) d).bind fun x2=>(lp (ZaI b e) ((w64 (b+1)),(w64 (c-1)),(List.set (List.set mH b.toNat x0) d.toNat x1))).bind fun r17=>some (r17.1,r17.2)
def ZdJ (a:Int):Option Int:=(Zg5 (u64.wrap a)).bind fun x0=>bif (decide (x0<0)) then none else some (u64.wrap (1*2 ^ (min (x0).toNat u64.bits)))
def ZgL:Option Unit:=some ()
def ZaP (b c x0:Int) (s1:Int×LI×Int):Option ((Int×LI×Int)⊕LI):=bif (decide (s1.1<=(w64 ((w64 (b+(w64 ((w64 (Int.tdiv (w64 (c-b)) 4))*2))))+1)))) then ZgL.bind fun x2=>bif (decide ((w64 (c-b))<=(w64 (u64.wrap (Zs (u64.wrap (Zs (u64.wrap (Zs (u64.wrap (Zs s1.2.2 ^^^ Zs (u64.wrap (s1.2.2*2 ^ 13))).toNat) ^^^ Zs (Int.fdiv (u64.wrap (Zs s1.2.2 ^^^ Zs (u64.wrap (s1.2.2*2 ^ 13))).toNat) (2 ^ 7))).toNat) ^^^ Zs (u64.wrap ((u64.wrap (Zs (u64.wrap (Zs s1.2.2 ^^^ Zs (u64.wrap (s1.2.2*2 ^ 13))).toNat) ^^^ Zs (Int.fdiv (u64.wrap (Zs s1.2.2 ^^^ Zs (u64.wrap (s1.2.2*2 ^ 13))).toNat) (2 ^ 7))).toNat)*2 ^ 17))).toNat) &&& Zs (u64.wrap (x0-1))).toNat)))) then (ZA s1.2.1 (w64 (b+(w64 ((w64 (u64.wrap (Zs (u64.wrap (Zs (u64.wrap (Zs (u64.wrap (Zs s1.2.2 ^^^ Zs (u64.wrap (s1.2.2*2 ^ 13))).toNat) ^^^ Zs (Int.fdiv (u64.wrap (Zs s1.2.2 ^^^ Zs (u64.wrap (s1.2.2*2 ^ 13))).toNat) (2 ^ 7))).toNat) ^^^ Zs (u64.wrap ((u64.wrap (Zs (u64.wrap (Zs s1.2.2 ^^^ Zs (u64.wrap (s1.2.2*2 ^ 13))).toNat) ^^^ Zs (Int.fdiv (u64.wrap (Zs s1.2.2 ^^^ Zs (u64.wrap (s1.2.2*2 ^ 13))).toNat) (2 ^ 7))).toNat)*2 ^ 17))).toNat) &&& Zs (u64.wrap (x0-1))).toNat))-(w64 (c-b))))))).bind fun x3=>(ZA s1.2.1 s1.1).bind fun x4=>(ZA (List.set s1.2.1 s1.1.toNat x3) (w64 (b+(w64 ((w64 (u64.wrap (Zs (u64.wrap (Zs (u64.wrap (Zs (u64.wrap (Zs s1.2.2 ^^^ Zs (u64.wrap (s1.2.2*2 ^ 13))).toNat) ^^^ Zs (Int.fdiv (u64.wrap (Zs s1.2.2 ^^^ Zs (u64.wrap (s1.2.2*2 ^ 13))).toNat) (2 ^ 7))).toNat) ^^^ Zs (u64.wrap ((u64.wrap (Zs (u64.wrap (Zs s1.2.2 ^^^ Zs (u64.wrap (s1.2.2*2 ^ 13))).toNat) ^^^ Zs (Int.fdiv (u64.wrap (Zs s1.2.2 ^^^ Zs (u64.wrap (s1.2.2*2 ^ 13))).toNat) (2 ^ 7))).toNat)*2 ^ 17))).toNat) &&& Zs (u64.wrap (x0-1))).toNat))-(w64 (c-b))))))).bind fun x5=>some (.inl ((w64 (s1.1+1)),(List.set (List.set s1.2.1 s1.1.toNat x3) (w64 (b+(w64 ((w64 (u64.wrap (Zs (u64.wrap (Zs (u64.wrap (Zs (u64.wrap (Zs s1.2.2 ^^^ Zs (u64.wrap (s1.2.2*2 ^ 13))).toNat) ^^^ Zs (Int.fdiv (u64.wrap (Zs s1.2.2 ^^^ Zs (u64.wrap (s1.2.2*2 ^ 13))).toNat) (2 ^ 7))).toNat) ^^^ Zs (u64.wrap ((u64.wrap (Zs (u64.wrap (Zs s1.2.2 ^^^ Zs (u64.wrap (s1.2.2*2 ^ 13))).toNat) ^^^ Zs (Int.fdiv (u64.wrap (Zs s1.2.2 ^^^ Zs (u64.wrap (s1.2.2*2 ^ 13))).toNat) (2 ^ 7))).toNat)*2 ^ 17))).toNat) &&& Zs (u64.wrap (x0-1))).toNat))-(w64 (c-b)))))).toNat x4),(u64.wrap (Zs (u64.wrap (Zs (u64.wrap (Zs s1.2.2 ^^^ Zs (u64.wrap (s1.2.2*2 ^ 13))).toNat) ^^^ Zs (Int.fdiv (u64.wrap (Zs s1.2.2 ^^^ Zs (u64.wrap (s1.2.2*2 ^ 13))).toNat) (2 ^ 7))).toNat) ^^^ Zs (u64.wrap ((u64.wrap (Zs (u64.wrap (Zs s1.2.2 ^^^ Zs (u64.wrap (s1.2.2*2 ^ 13))).toNat) ^^^ Zs (Int.fdiv (u64.wrap (Zs s1.2.2 ^^^ Zs (u64.wrap (s1.2.2*2 ^ 13))).toNat) (2 ^ 7))).toNat)*2 ^ 17))).toNat))) else (ZA s1.2.1 (w64 (b+(w64 (u64.wrap (Zs (u64.wrap (Zs (u64.wrap (Zs (u64.wrap (Zs s1.2.2 ^^^ Zs (u64.wrap (s1.2.2*2 ^ 13))).toNat) ^^^ Zs (Int.fdiv (u64.wrap (Zs s1.2.2 ^^^ Zs (u64.wrap (s1.2.2*2 ^ 13))).toNat) (2 ^ 7))).toNat) ^^^ Zs (u64.wrap ((u64.wrap (Zs (u64.wrap (Zs s1.2.2 ^^^ Zs (u64.wrap (s1.2.2*2 ^ 13))).toNat) ^^^ Zs (Int.fdiv (u64.wrap (Zs s1.2.2 ^^^ Zs (u64.wrap (s1.2.2*2 ^ 13))).toNat) (2 ^ 7))).toNat)*2 ^ 17))).toNat) &&& Zs (u64.wrap (x0-1))).toNat))))).bind fun x6=>(ZA s1.2.1 s1.1).bind fun x7=>(ZA (List.set s1.2.1 s1.1.toNat x6) (w64 (b+(w64 (u64.wrap (Zs (u64.wrap (Zs (u64.wrap (Zs (u64.wrap (Zs s1.2.2 ^^^ Zs (u64.wrap (s1.2.2*2 ^ 13))).toNat) ^^^ Zs (Int.fdiv (u64.wrap (Zs s1.2.2 ^^^ Zs (u64.wrap (s1.2.2*2 ^ 13))).toNat) (2 ^ 7))).toNat) ^^^ Zs (u64.wrap ((u64.wrap (Zs (u64.wrap (Zs s1.2.2 ^^^ Zs (u64.wrap (s1.2.2*2 ^ 13))).toNat) ^^^ Zs (Int.fdiv (u64.wrap (Zs s1.2.2 ^^^ Zs (u64.wrap (s1.2.2*2 ^ 13))).toNat) (2 ^ 7))).toNat)*2 ^ 17))).toNat) &&& Zs (u64.wrap (x0-1))).toNat))))).bind fun x8=>some (.inl ((w64 (s1.1+1)),(List.set (List.set s1.2.1 s1.1.toNat x6) (w64 (b+(w64 (u64.wrap (Zs (u64.wrap (Zs (u64.wrap (Zs (u64.wrap (Zs s1.2.2 ^^^ Zs (u64.wrap (s1.2.2*2 ^ 13))).toNat) ^^^ Zs (Int.fdiv (u64.wrap (Zs s1.2.2 ^^^ Zs (u64.wrap (s1.2.2*2 ^ 13))).toNat) (2 ^ 7))).toNat) ^^^ Zs (u64.wrap ((u64.wrap (Zs (u64.wrap (Zs s1.2.2 ^^^ Zs (u64.wrap (s1.2.2*2 ^ 13))).toNat) ^^^ Zs (Int.fdiv (u64.wrap (Zs s1.2.2 ^^^ Zs (u64.wrap (s1.2.2*2 ^ 13))).toNat) (2 ^ 7))).toNat)*2 ^ 17))).toNat) &&& Zs (u64.wrap (x0-1))).toNat)))).toNat x7),(u64.wrap (Zs (u64.wrap (Zs (u64.wrap (Zs s1.2.2 ^^^ Zs (u64.wrap (s1.2.2*2 ^ 13))).toNat) ^^^ Zs (Int.fdiv (u64.wrap (Zs s1.2.2 ^^^ Zs (u64.wrap (s1.2.2*2 ^ 13))).toNat) (2 ^ 7))).toNat) ^^^ Zs (u64.wrap ((u64.wrap (Zs (u64.wrap (Zs s1.2.2 ^^^ Zs (u64.wrap (s1.2.2*2 ^ 13))).toNat) ^^^ Zs (Int.fdiv (u64.wrap (Zs s1.2.2 ^^^ Zs (u64.wrap (s1.2.2*2 ^ 13))).toNat) (2 ^ 7))).toNat)*2 ^ 17))).toNat))) else some (.inr s1.2.1)
def Zaj (b c:Int) (d:(Int->Int->Option Int)) (mH:LI):Option LI:=bif (decide (8<=(w64 (c-b)))) then (ZdJ (w64 (c-b))).bind fun x0=>(lp (ZaP b c x0) ((w64 ((w64 (b+(w64 ((w64 (Int.tdiv (w64 (c-b)) 4))*2))))-1)),mH,(u64.wrap (w64 (c-b))))).bind fun r9=>some r9 else some mH
def ZD (e:(Int->Int->Option Int)) (rc:Int->Int->Int->(Int->Int->Option Int)->LI->Option LI) (s0:Int×Int×Int×Bool×Bool×LI):Option ((Int×Int×Int×Bool×Bool×LI)⊕LI):=bif s0.2.2.2.1 then bif s0.2.2.2.2.1 then bif (decide ((w64 (s0.2.1-s0.1))<=12)) then (Z3 s0.1 s0.2.1 e s0.2.2.2.2.2).bind fun x1=>some (.inr x1) else bif (s0.2.2.1==0) then (Zaf s0.1 s0.2.1 e s0.2.2.2.2.2).bind fun x2=>some (.inr x2) else (ZU s0.1 s0.2.1 e s0.2.2.2.2.2).bind fun x3=>bif (x3.2==2) then (ZR s0.1 s0.2.1 e s0.2.2.2.2.2).bind fun x4=>(ZX s0.1 s0.2.1 e x4).bind fun x5=>match x5 with | (.inl x5)=>some (.inr x5) | (.inr x5)=>bif (decide (0<s0.1)) then (ZA x5 (w64 (s0.1-1))).bind fun x6=>(ZA x5 (w64 ((w64 (s0.2.1-1))-(w64 (x3.1-s0.1))))).bind fun x7=>(e x6 x7).bind fun x8=>bif (decide (x8<0)) then (Zu s0.1 s0.2.1 (w64 ((w64 (s0.2.1-1))-(w64 (x3.1-s0.1)))) e x5).bind fun x9=>match x9 with | (.inl x9)=>bif (decide ((w64 (x9.1-s0.1))<(w64 (s0.2.1-x9.1)))) then bif (decide ((w64 (Int.tdiv (w64 (s0.2.1-s0.1)) 8))<=(w64 (x9.1-s0.1)))) then (rc s0.1 x9.1 s0.2.2.1 e x9.2).bind fun x10=>some (.inl ((w64 (x9.1+1)),s0.2.1,s0.2.2.1,true,true,x10)) else (rc s0.1 x9.1 s0.2.2.1 e x9.2).bind fun x11=>some (.inl ((w64 (x9.1+1)),s0.2.1,s0.2.2.1,false,true,x11)) else bif (decide ((w64 (Int.tdiv (w64 (s0.2.1-s0.1)) 8))<=(w64 (s0.2.1-x9.1)))) then (rc (w64 (x9.1+1)) s0.2.1 s0.2.2.1 e x9.2).bind fun x12=>some (.inl (s0.1,x9.1,s0.2.2.1,true,true,x12)) else (rc (w64 (x9.1+1)) s0.2.1 s0.2.2.1 e x9.2).bind fun x13=>some (.inl (s0.1,x9.1,s0.2.2.1,false,true,x13)) | (.inr x9)=>bif (decide ((w64 (x9.1-s0.1))<(w64 (s0.2.1-x9.1)))) then bif (decide ((w64 (Int.tdiv (w64 (s0.2.1-s0.1)) 8))<=(w64 (x9.1-s0.1)))) then (rc s0.1 x9.1 s0.2.2.1 e x9.2).bind fun x14=>some (.inl ((w64 (x9.1+1)),s0.2.1,s0.2.2.1,true,false,x14)) else (rc s0.1 x9.1 s0.2.2.1 e x9.2).bind fun x15=>some (.inl ((w64 (x9.1+1)),s0.2.1,s0.2.2.1,false,false,x15)) else bif (decide ((w64 (Int.tdiv (w64 (s0.2.1-s0.1)) 8))<=(w64 (s0.2.1-x9.1)))) then (rc (w64 (x9.1+1)) s0.2.1 s0.2.2.1 e x9.2).bind fun x16=>some (.inl (s0.1,x9.1,s0.2.2.1,true,false,x16)) else (rc (w64 (x9.1+1)) s0.2.1 s0.2.2.1 e x9.2).bind fun x17=>some (.inl (s0.1,x9.1,s0.2.2.1,false,false,x17)) else (ZG s0.1 s0.2.1 (w64 ((w64 (s0.2.1-1))-(w64 (x3.1-s0.1)))) e x5).bind fun x18=>some (.inl (x18.1,s0.2.1,s0.2.2.1,true,true,x18.2)) else (Zu s0.1 s0.2.1 (w64 ((w64 (s0.2.1-1))-(w64 (x3.1-s0.1)))) e x5).bind fun x19=>match x19 with | (.inl x19)=>bif (decide ((w64 (x19.1-s0.1))<(w64 (s0.2.1-x19.1)))) then bif (decide ((w64 (Int.tdiv (w64 (s0.2.1-s0.1)) 8))<=(w64 (x19.1-s0.1)))) then (rc s0.1 x19.1 s0.2.2.1 e x19.2).bind fun x20=>some (.inl ((w64 (x19.1+1)),s0.2.1,s0.2.2.1,true,true,x20)) else (rc s0.1 x19.1 s0.2.2.1 e x19.2).bind fun x21=>some (.inl ((w64 (x19.1+1)),s0.2.1,s0.2.2.1,false,true,x21)) else bif (decide ((w64 (Int.tdiv (w64 (s0.2.1-s0.1)) 8))<=(w64 (s0.2.1-x19.1)))) then (rc (w64 (x19.1+1)) s0.2.1 s0.2.2.1 e x19.2).bind fun x22=>some (.inl (s0.1,x19.1,s0.2.2.1,true,true,x22)) else (rc (w64 (x19.1+1)) s0.2.1 s0.2.2.1 e x19.2).bind fun x23=>some (.inl (s0.1,x19.1,s0.2.2.1,false,true,x23)) | (.inr x19)=>bif (decide ((w64 (x19.1-s0.1))<(w64 (s0.2.1-x19.1)))) then bif (decide ((w64 (Int.tdiv (w64 (s0.2.1-s0.1)) 8))<=(w64 (x19.1-s0.1)))) then (rc s0.1 x19.1 s0.2.2.1 e x19.2).bind fun x24=>some (.inl ((w64 (x19.1+1)),s0.2.1,s0.2.2.1,true,false,x24)) else (rc s0.1 x19.1 s0.2.2.1 e x19.2).bind fun x25=>some (.inl ((w64 (x19.1+1)),s0.2.1,s0.2.2.1,false,false,x25)) else bif (decide ((w64 (Int.tdiv (w64 (s0.2.1-s0.1)) 8))<=(w64 (s0.2.1-x19.1)))) then (rc (w64 (x19.1+1)) s0.2.1 s0.2.2.1 e x19.2).bind fun x26=>some (.inl (s0.1,x19.1,s0.2.2.1,true,false,x26)) else (rc (w64 (x19.1+1)) s0.2.1 s0.2.2.1 e x19.2).bind fun x27=>some (.inl (s0.1,x19.1,s0.2.2.1,false,false,x27)) else bif (x3.2==1) then (ZX s0.1 s0.2.1 e s0.2.2.2.2.2).bind fun x28=>match x28 with | (.inl x28)=>some (.inr x28) | (.inr x28)=>bif (decide (0<s0.1)) then (ZA x28 (w64 (s0.1-1))).bind fun x29=>(ZA x28 x3.1).bind fun x30=>(e x29 x30).bind fun x31=>bif (decide (x31<0)) then (Zu s0.1 s0.2.1 x3.1 e x28).bind fun x32=>match x32 with | (.inl x32)=>bif (decide ((w64 (x32.1-s0.1))<(w64 (s0.2.1-x32.1)))) then bif (decide ((w64 (Int.tdiv (w64 (s0.2.1-s0.1)) 8))<=(w64 (x32.1-s0.1)))) then (rc s0.1 x32.1 s0.2.2.1 e x32.2).bind fun x33=>some (.inl ((w64 (x32.1+1)),s0.2.1,s0.2.2.1,true,true,x33)) else (rc s0.1 x32.1 s0.2.2.1 e x32.2).bind fun x34=>some (.inl ((w64 (x32.1+1)),s0.2.1,s0.2.2.1,false,true,x34)) else bif (decide ((w64 (Int.tdiv (w64 (s0.2.1-s0.1)) 8))<=(w64 (s0.2.1-x32.1)))) then (rc (w64 (x32.1+1)) s0.2.1 s0.2.2.1 e x32.2).bind fun x35=>some (.inl (s0.1,x32.1,s0.2.2.1,true,true,x35)) else (rc (w64 (x32.1+1)) s0.2.1 s0.2.2.1 e x32.2).bind fun x36=>some (.inl (s0.1,x32.1,s0.2.2.1,false,true,x36)) | (.inr x32)=>bif (decide ((w64 (x32.1-s0.1))<(w64 (s0.2.1-x32.1)))) then bif (decide ((w64 (Int.tdiv (w64 (s0.2.1-s0.1)) 8))<=(w64 (x32.1-s0.1)))) then (rc s0.1 x32.1 s0.2.2.1 e x32.2).bind fun x37=>some (.inl ((w64 (x32.1+1)),s0.2.1,s0.2.2.1,true,false,x37)) else (rc s0.1 x32.1 s0.2.2.1 e x32.2).bind fun x38=>some (.inl ((w64 (x32.1+1)),s0.2.1,s0.2.2.1,false,false,x38)) else bif (decide ((w64 (Int.tdiv (w64 (s0.2.1-s0.1)) 8))<=(w64 (s0.2.1-x32.1)))) then (rc (w64 (x32.1+1)) s0.2.1 s0.2.2.1 e x32.2).bind fun x39=>some (.inl (s0.1,x32.1,s0.2.2.1,true,false,x39)) else (rc (w64 (x32.1+1)) s0.2.1 s0.2.2.1 e x32.2).bind fun x40=>some (.inl (s0.1,x32.1,s0.2.2.1,false,false,x40)) else (ZG s0.1 s0.2.1 x3.1 e x28).bind fun x41=>some (.inl (x41.1,s0.2.1,s0.2.2.1,true,true,x41.2)) else (Zu s0.1 s0.2.1 x3.1 e x28).bind fun x42=>match x42 with | (.inl x42)=>bif (decide ((w64 (x42.1-s0.1))<(w64 (s0.2.1-x42.1)))) then bif (decide ((w64 (Int.tdiv (w64 (s0.2.1-s0.1)) 8))<=(w64 (x42.1-s0.1)))) then (rc s0.1 x42.1 s0.2.2.1 e x42.2).bind fun x43=>some (.inl ((w64 (x42.1+1)),s0.2.1,s0.2.2.1,true,true,x43)) else (rc s0.1 x42.1 s0.2.2.1 e x42.2).bind fun x44=>some (.inl ((w64 (x42.1+1)),s0.2.1,s0.2.2.1,false,true,x44)) else bif (decide ((w64 (Int.tdiv (w64 (s0.2.1-s0.1)) 8))<=(w64 (s0.2.1-x42.1)))) then (rc (w64 (x42.1+1)) s0.2.1 s0.2.2.1 e x42.2).bind fun x45=>some (.inl (s0.1,x42.1,s0.2.2.1,true,true,x45)) else (rc (w64 (x42.1+1)) s0.2.1 s0.2.2.1 e x42.2).bind fun x46=>some (.inl (s0.1,x42.1,s0.2.2.1,false,true,x46)) | (.inr x42)=>bif (decide ((w64 (x42.1-s0.1))<(w64 (s0.2.1-x42.1)))) then bif (decide ((w64 (Int.tdiv (w64 (s0.2.1-s0.1)) 8))<=(w64 (x42.1-s0.1)))) then (rc s0.1 x42.1 s0.2.2.1 e x42.2).bind fun x47=>some (.inl ((w64 (x42.1+1)),s0.2.1,s0.2.2.1,true,false,x47)) else (rc s0.1 x42.1 s0.2.2.1 e x42.2).bind fun x48=>some (.inl ((w64 (x42.1+1)),s0.2.1,s0.2.2.1,false,false,x48)) else bif (decide ((w64 (Int.tdiv (w64 (s0.2.1-s0.1)) 8))<=(w64 (s0.2.1-x42.1)))) then (rc (w64 (x42.1+1)) s0.2.1 s0.2.2.1 e x42.2).bind fun x49=>some (.inl (s0.1,x42.1,s0.2.2.1,true,false,x49)) else (rc (w64 (x42.1+1)) s0.2.1 s0.2.2.1 e x42.2).bind fun x50=>some (.inl (s0.1,x42.1,s0.2.2.1,false,false,x50)) else bif (decide (0<s0.1)) then (ZA s0.2.2.2.2.2 (w64 (s0.1-1))).bind fun x51=>(ZA s0.2.2.2.2.2 x3.1).bind fun x52=>(e x51 x52).bind fun x53=>bif (decide (x53<0)) then (Zu s0.1 s0.2.1 x3.1 e s0.2.2.2.2.2).bind fun x54=>match x54 with | (.inl x54)=>bif (decide ((w64 (x54.1-s0.1))<(w64 (s0.2.1-x54.1)))) then bif (decide ((w64 (Int.tdiv (w64 (s0.2.1-s0.1)) 8))<=(w64 (x54.1-s0.1)))) then (rc s0.1 x54.1 s0.2.2.1 e x54.2).bind fun x55=>some (.inl ((w64 (x54.1+1)),s0.2.1,s0.2.2.1,true,true,x55)) else (rc s0.1 x54.1 s0.2.2.1 e x54.2).bind fun x56=>some (.inl ((w64 (x54.1+1)),s0.2.1,s0.2.2.1,false,true,x56)) else bif (decide ((w64 (Int.tdiv (w64 (s0.2.1-s0.1)) 8))<=(w64 (s0.2.1-x54.1)))) then (rc (w64 (x54.1+1)) s0.2.1 s0.2.2.1 e x54.2).bind fun x57=>some (.inl (s0.1,x54.1,s0.2.2.1,true,true,x57)) else (rc (w64 (x54.1+1)) s0.2.1 s0.2.2.1 e x54.2).bind fun x58=>some (.inl (s0.1,x54.1,s0.2.2.1,false,true,x58)) | (.inr x54)=>bif (decide ((w64 (x54.1-s0.1))<(w64 (s0.2.1-x54.1)))) then bif (decide ((w64 (Int.tdiv (w64 (s0.2.1-s0.1)) 8))<=(w64 (x54.1-s0.1)))) then (rc s0.1 x54.1 s0.2.2.1 e x54.2).bind fun x59=>some (.inl ((w64 (x54.1+1)),s0.2.1,s0.2.2.1,true,false,x59)) else (rc s0.1 x54.1 s0.2.2.1 e x54.2).bind fun x60=>some (.inl ((w64 (x54.1+1)),s0.2.1,s0.2.2.1,false,false,x60)) else bif (decide ((w64 (Int.tdiv (w64 (s0.2.1-s0.1)) 8))<=(w64 (s0.2.1-x54.1)))) then (rc (w64 (x54.1+1)) s0.2.1 s0.2.2.1 e x54.2).bind fun x61=>some (.inl (s0.1,x54.1,s0.2.2.1,true,false,x61)) else (rc (w64 (x54.1+1)) s0.2.1 s0.2.2.1 e x54.2).bind fun x62=>some (.inl (s0.1,x54.1,s0.2.2.1,false,false,x62)) else (ZG s0.1 s0.2.1 x3.1 e s0.2.2.2.2.2).bind fun x63=>some (.inl (x63.1,s0.2.1,s0.2.2.1,true,true,x63.2)) else (Zu s0.1 s0.2.1 x3.1 e s0.2.2.2.2.2).bind fun x64=>match x64 with | (.inl x64)=>bif (decide ((w64 (x64.1-s0.1))<(w64 (s0.2.1-x64.1)))) then bif (decide ((w64 (Int.tdiv (w64 (s0.2.1-s0.1)) 8))<=(w64 (x64.1-s0.1)))) then (rc s0.1 x64.1 s0.2.2.1 e x64.2).bind fun x65=>some (.inl ((w64 (x64.1+1)),s0.2.1,s0.2.2.1,true,true,x65)) else (rc s0.1 x64.1 s0.2.2.1 e x64.2).bind fun x66=>some (.inl ((w64 (x64.1+1)),s0.2.1,s0.2.2.1,false,true,x66)) else bif (decide ((w64 (Int.tdiv (w64 (s0.2.1-s0.1)) 8))<=(w64 (s0.2.1-x64.1)))) then (rc (w64 (x64.1+1)) s0.2.1 s0.2.2.1 e x64.2).bind fun x67=>some (.inl (s0.1,x64.1,s0.2.2.1,true,true,x67)) else (rc (w64 (x64.1+1)) s0.2.1 s0.2.2.1 e x64.2).bind fun x68=>some (.inl (s0.1,x64.1,s0.2.2.1,false,true,x68)) | (.inr x64)=>bif (decide ((w64 (x64.1-s0.1))<(w64 (s0.2.1-x64.1)))) then bif (decide ((w64 (Int.tdiv (w64 (s0.2.1-s0.1)) 8))<=(w64 (x64.1-s0.1)))) then (rc s0.1 x64.1 s0.2.2.1 e x64.2).bind fun x69=>some (.inl ((w64 (x64.1+1)),s0.2.1,s0.2.2.1,true,false,x69)) else (rc s0.1 x64.1 s0.2.2.1 e x64.2).bind fun x70=>some (.inl ((w64 (x64.1+1)),s0.2.1,s0.2.2.1,false,false,x70)) else bif (decide ((w64 (Int.tdiv (w64 (s0.2.1-s0.1)) 8))<=(w64 (s0.2.1-x64.1)))) then (rc (w64 (x64.1+1)) s0.2.1 s0.2.2.1 e x64.2).bind fun x71=>some (.inl (s0.1,x64.1,s0.2.2.1,true,false,x71)) else (rc (w64 (x64.1+1)) s0.2.1 s0.2.2.1 e x64.2).bind fun x72=>some (.inl (s0.1,x64.1,s0.2.2.1,false,false,x72)) else bif (decide ((w64 (s0.2.1-s0.1))<=12)) then (Z3 s0.1 s0.2.1 e s0.2.2.2.2.2).bind fun x73=>some (.inr x73) else bif (s0.2.2.1==0) then (Zaf s0.1 s0.2.1 e s0.2.2.2.2.2).bind fun x74=>some (.inr x74) else (ZU s0.1 s0.2.1 e s0.2.2.2.2.2).bind fun x75=>bif (x75.2==2) then (ZR s0.1 s0.2.1 e s0.2.2.2.2.2).bind fun x76=>bif (decide (0<s0.1)) then (ZA x76 (w64 (s0.1-1))).bind fun x77=>(ZA x76 (w64 ((w64 (s0.2.1-1))-(w64 (x75.1-s0.1))))).bind fun x78=>(e x77 x78).bind fun x79=>bif (decide (x79<0)) then (Zu s0.1 s0.2.1 (w64 ((w64 (s0.2.1-1))-(w64 (x75.1-s0.1)))) e x76).bind fun x80=>match x80 with | (.inl x80)=>bif (decide ((w64 (x80.1-s0.1))<(w64 (s0.2.1-x80.1)))) then bif (decide ((w64 (Int.tdiv (w64 (s0.2.1-s0.1)) 8))<=(w64 (x80.1-s0.1)))) then (rc s0.1 x80.1 s0.2.2.1 e x80.2).bind fun x81=>some (.inl ((w64 (x80.1+1)),s0.2.1,s0.2.2.1,true,true,x81)) else (rc s0.1 x80.1 s0.2.2.1 e x80.2).bind fun x82=>some (.inl ((w64 (x80.1+1)),s0.2.1,s0.2.2.1,false,true,x82)) else bif (decide ((w64 (Int.tdiv (w64 (s0.2.1-s0.1)) 8))<=(w64 (s0.2.1-x80.1)))) then (rc (w64 (x80.1+1)) s0.2.1 s0.2.2.1 e x80.2).bind fun x83=>some (.inl (s0.1,x80.1,s0.2.2.1,true,true,x83)) else (rc (w64 (x80.1+1)) s0.2.1 s0.2.2.1 e x80.2).bind fun x84=>some (.inl (s0.1,x80.1,s0.2.2.1,false,true,x84)) | (.inr x80)=>bif (decide ((w64 (x80.1-s0.1))<(w64 (s0.2.1-x80.1)))) then bif (decide ((w64 (Int.tdiv (w64 (s0.2.1-s0.1)) 8))<=(w64 (x80.1-s0.1)))) then (rc s0.1 x80.1 s0.2.2.1 e x80.2).bind fun x85=>some (.inl ((w64 (x80.1+1)),s0.2.1,s0.2.2.1,true,false,x85)) else (rc s0.1 x80.1 s0.2.2.1 e x80.2).bind fun x86=>some (.inl ((w64 (x80.1+1)),s0.2.1,s0.2.2.1,false,false,x86)) else bif (decide ((w64 (Int.tdiv (w64 (s0.2.1-s0.1)) 8))<=(w64 (s0.2.1-x80.1)))) then (rc (w64 (x80.1+1)) s0.2.1 s0.2.2.1 e x80.2).bind fun x87=>some (.inl (s0.1,x80.1,s0.2.2.1,true,false,x87)) else (rc (w64 (x80.1+1)) s0.2.1 s0.2.2.1 e x80.2).bind fun x88=>some (.inl (s0.1,x80.1,s0.2.2.1,false,false,x88)) else (ZG s0.1 s0.2.1 (w64 ((w64 (s0.2.1-1))-(w64 (x75.1-s0.1)))) e x76).bind fun x89=>some (.inl (x89.1,s0.2.1,s0.2.2.1,true,false,x89.2)) else (Zu s0.1 s0.2.1 (w64 ((w64 (s0.2.1-1))-(w64 (x75.1-s0.1)))) e x76).bind fun x90=>match x90 with | (.inl x90)=>bif (decide ((w64 (x90.1-s0.1))<(w64 (s0.2.1-x90.1)))) then bif (decide ((w64 (Int.tdiv (w64 (s0.2.1-s0.1)) 8))<=(w64 (x90.1-s0.1)))) then (rc s0.1 x90.1 s0.2.2.1 e x90.2).bind fun x91=>some (.inl ((w64 (x90.1+1)),s0.2.1,s0.2.2.1,true,true,x91)) else (rc s0.1 x90.1 s0.2.2.1 e x90.2).bind fun x92=>some (.inl ((w64 (x90.1+1)),s0.2.1,s0.2.2.1,false,true,x92)) else bif (decide ((w64 (Int.tdiv (w64 (s0.2.1-s0.1)) 8))<=(w64 (s0.2.1-x90.1)))) then (rc (w64 (x90.1+1)) s0.2.1 s0.2.2.1 e x90.2).bind fun x93=>some (.inl (s0.1,x90.1,s0.2.2.1,true,true,x93)) else (rc (w64 (x90.1+1)) s0.2.1 s0.2.2.1 e x90.2).bind fun x94=>some (.inl (s0.1,x90.1,s0.2.2.1,false,true,x94)) | (.inr x90)=>bif (decide ((w64 (x90.1-s0.1))<(w64 (s0.2.1-x90.1)))) then bif (decide ((w64 (Int.tdiv (w64 (s0.2.1-s0.1)) 8))<=(w64 (x90.1-s0.1)))) then (rc s0.1 x90.1 s0.2.2.1 e x90.2).bind fun x95=>some (.inl ((w64 (x90.1+1)),s0.2.1,s0.2.2.1,true,false,x95)) else (rc s0.1 x90.1 s0.2.2.1 e x90.2).bind fun x96=>some (.inl ((w64 (x90.1+1)),s0.2.1,s0.2.2.1,false,false,x96)) else bif (decide ((w64 (Int.tdiv (w64 (s0.2.1-s0.1)) 8))<=(w64 (s0.2.1-x90.1)))) then (rc (w64 (x90.1+1)) s0.2.1 s0.2.2.1 e x90.2).bind fun x97=>some (.inl (s0.1,x90.1,s0.2.2.1,true,false,x97)) else (rc (w64 (x90.1+1)) s0.2.1 s0.2.2.1 e x90.2).bind fun x98=>some (.inl (s0.1,x90.1,s0.2.2.1,false,false,x98)) else bif (decide (0<s0.1)) then (ZA s0.2.2.2.2.2 (w64 (s0.1-1))).bind fun x99=>(ZA s0.2.2.2.2.2 x75.1).bind fun x100=>(e x99 x100).bind fun x101=>bif (decide (x101<0)) then (Zu s0.1 s0.2.1 x75.1 e s0.2.2.2.2.2).bind fun x102=>match x102 with | (.inl x102)=>bif (decide ((w64 (x102.1-s0.1))<(w64 (s0.2.1-x102.1)))) then bif (decide ((w64 (Int.tdiv (w64 (s0.2.1-s0.1)) 8))<=(w64 (x102.1-s0.1)))) then (rc s0.1 x102.1 s0.2.2.1 e x102.2).bind fun x103=>some (.inl ((w64 (x102.1+1)),s0.2.1,s0.2.2.1,true,true,x103)) else (rc s0.1 x102.1 s0.2.2.1 e x102.2).bind fun x104=>some (.inl ((w64 (x102.1+1)),s0.2.1,s0.2.2.1,false,true,x104)) else bif (decide ((w64 (Int.tdiv (w64 (s0.2.1-s0.1)) 8))<=(w64 (s0.2.1-x102.1)))) then (rc (w64 (x102.1+1)) s0.2.1 s0.2.2.1 e x102.2).bind fun x105=>some (.inl (s0.1,x102.1,s0.2.2.1,true,true,x105)) else (rc (w64 (x102.1+1)) s0.2.1 s0.2.2.1 e x102.2).bind fun x106=>some (.inl (s0.1,x102.1,s0.2.2.1,false,true,x106)) | (.inr x102)=>bif (decide ((w64 (x102.1-s0.1))<(w64 (s0.2.1-x102.1)))) then bif (decide ((w64 (Int.tdiv (w64 (s0.2.1-s0.1)) 8))<=(w64 (x102.1-s0.1)))) then (rc s0.1 x102.1 s0.2.2.1 e x102.2).bind fun x107=>some (.inl ((w64 (x102.1+1)),s0.2.1,s0.2.2.1,true,false,x107)) else (rc s0.1 x102.1 s0.2.2.1 e x102.2).bind fun x108=>some (.inl ((w64 (x102.1+1)),s0.2.1,s0.2.2.1,false,false,x108)) else bif (decide ((w64 (Int.tdiv (w64 (s0.2.1-s0.1)) 8))<=(w64 (s0.2.1-x102.1)))) then (rc (w64 (x102.1+1)) s0.2.1 s0.2.2.1 e x102.2).bind fun x109=>some (.inl (s0.1,x102.1,s0.2.2.1,true,false,x109)) else (rc (w64 (x102.1+1)) s0.2.1 s0.2.2.1 e x102.2).bind fun x110=>some (.inl (s0.1,x102.1,s0.2.2.1,false,false,x110)) else (ZG s0.1 s0.2.1 x75.1 e s0.2.2.2.2.2).bind fun x111=>some (.inl (x111.1,s0.2.1,s0.2.2.1,true,false,x111.2)) else (Zu s0.1 s0.2.1 x75.1 e s0.2.2.2.2.2).bind fun x112=>match x112 with | (.inl x112)=>bif (decide ((w64 (x112.1-s0.1))<(w64 (s0.2.1-x112.1)))) then bif (decide ((w64 (Int.tdiv (w64 (s0.2.1-s0.1)) 8))<=(w64 (x112.1-s0.1)))) then (rc s0.1 x112.1 s0.2.2.1 e x112.2).bind fun x113=>some (.inl ((w64 (x112.1+1)),s0.2.1,s0.2.2.1,true,true,x113)) else (rc s0.1 x112.1 s0.2.2.1 e x112.2).bind fun x114=>some (.inl ((w64 (x112.1+1)),s0.2.1,s0.2.2.1,false,true,x114)) else bif (decide ((w64 (Int.tdiv (w64 (s0.2.1-s0.1)) 8))<=(w64 (s0.2.1-x112.1)))) then (rc (w64 (x112.1+1)) s0.2.1 s0.2.2.1 e x112.2).bind fun x115=>some (.inl (s0.1,x112.1,s0.2.2.1,true,true,x115)) else (rc (w64 (x112.1+1)) s0.2.1 s0.2.2.1 e x112.2).bind fun x116=>some (.inl (s0.1,x112.1,s0.2.2.1,false,true,x116)) | (.inr x112)=>bif (decide ((w64 (x112.1-s0.1))<(w64 (s0.2.1-x112.1)))) then bif (decide ((w64 (Int.tdiv (w64 (s0.2.1-s0.1)) 8))<=(w64 (x112.1-s0.1)))) then (rc s0.1 x112.1 s0.2.2.1 e x112.2).bind fun x117=>some (.inl ((w64 (x112.1+1)),s0.2.1,s0.2.2.1,true,false,x117)) else (rc s0.1 x112.1 s0.2.2.1 e x112.2).bind fun x118=>some (.inl ((w64 (x112.1+1)),s0.2.1,s0.2.2.1,false,false,x118)) else bif (decide ((w64 (Int.tdiv (w64 (s0.2.1-s0.1)) 8))<=(w64 (s0.2.1-x112.1)))) then (rc (w64 (x112.1+1)) s0.2.1 s0.2.2.1 e x112.2).bind fun x119=>some (.inl (s0.1,x112.1,s0.2.2.1,true,false,x119)) else (rc (w64 (x112.1+1)) s0.2.1 s0.2.2.1 e x112.2).bind fun x120=>some (.inl (s0.1,x112.1,s0.2.2.1,false,false,x120)) else bif s0.2.2.2.2.1 then bif (decide ((w64 (s0.2.1-s0.1))<=12)) then (Z3 s0.1 s0.2.1 e s0.2.2.2.2.2).bind fun x121=>some (.inr x121) else bif (s0.2.2.1==0) then (Zaf s0.1 s0.2.1 e s0.2.2.2.2.2).bind fun x122=>some (.inr x122) else (Zaj s0.1 s0.2.1 e s0.2.2.2.2.2).bind fun x123=>(ZU s0.1 s0.2.1 e x123).bind fun x124=>bif (x124.2==2) then (ZR s0.1 s0.2.1 e x123).bind fun x125=>bif (decide (0<s0.1)) then (ZA x125 (w64 (s0.1-1))).bind fun x126=>(ZA x125 (w64 ((w64 (s0.2.1-1))-(w64 (x124.1-s0.1))))).bind fun x127=>(e x126 x127).bind fun x128=>bif (decide (x128<0)) then (Zu s0.1 s0.2.1 (w64 ((w64 (s0.2.1-1))-(w64 (x124.1-s0.1)))) e x125).bind fun x129=>match x129 with | (.inl x129)=>bif (decide ((w64 (x129.1-s0.1))<(w64 (s0.2.1-x129.1)))) then bif (decide ((w64 (Int.tdiv (w64 (s0.2.1-s0.1)) 8))<=(w64 (x129.1-s0.1)))) then (rc s0.1 x129.1 (w64 (s0.2.2.1-1)) e x129.2).bind fun x130=>some (.inl ((w64 (x129.1+1)),s0.2.1,(w64 (s0.2.2.1-1)),true,true,x130)) else (rc s0.1 x129.1 (w64 (s0.2.2.1-1)) e x129.2).bind fun x131=>some (.inl ((w64 (x129.1+1)),s0.2.1,(w64 (s0.2.2.1-1)),false,true,x131)) else bif (decide ((w64 (Int.tdiv (w64 (s0.2.1-s0.1)) 8))<=(w64 (s0.2.1-x129.1)))) then (rc (w64 (x129.1+1)) s0.2.1 (w64 (s0.2.2.1-1)) e x129.2).bind fun x132=>some (.inl (s0.1,x129.1,(w64 (s0.2.2.1-1)),true,true,x132)) else (rc (w64 (x129.1+1)) s0.2.1 (w64 (s0.2.2.1-1)) e x129.2).bind fun x133=>some (.inl (s0.1,x129.1,(w64 (s0.2.2.1-1)),false,true,x133)) | (.inr x129)=>bif (decide ((w64 (x129.1-s0.1))<(w64 (s0.2.1-x129.1)))) then bif (decide ((w64 (Int.tdiv (w64 (s0.2.1-s0.1)) 8))<=(w64 (x129.1-s0.1)))) then (rc s0.1 x129.1 (w64 (s0.2.2.1-1)) e x129.2).bind fun x134=>some (.inl ((w64 (x129.1+1)),s0.2.1,(w64 (s0.2.2.1-1)),true,false,x134)) else (rc s0.1 x129.1 (w64 (s0.2.2.1-1)) e x129.2).bind fun x135=>some (.inl ((w64 (x129.1+1)),s0.2.1,(w64 (s0.2.2.1-1)),false,false,x135)) else bif (decide ((w64 (Int.tdiv (w64 (s0.2.1-s0.1)) 8))<=(w64 (s0.2.1-x129.1)))) then (rc (w64 (x129.1+1)) s0.2.1 (w64 (s0.2.2.1-1)) e x129.2).bind fun x136=>some (.inl (s0.1,x129.1,(w64 (s0.2.2.1-1)),true,false,x136)) else (rc (w64 (x129.1+1)) s0.2.1 (w64 (s0.2.2.1-1)) e x129.2).bind fun x137=>some (.inl (s0.1,x129.1,(w64 (s0.2.2.1-1)),false,false,x137)) else (ZG s0.1 s0.2.1 (w64 ((w64 (s0.2.1-1))-(w64 (x124.1-s0.1)))) e x125).bind fun x138=>some (.inl (x138.1,s0.2.1,(w64 (s0.2.2.1-1)),false,true,x138.2)) else (Zu s0.1 s0.2.1 (w64 ((w64 (s0.2.1-1))-(w64 (x124.1-s0.1)))) e x125).bind fun x139=>match x139 with | (.inl x139)=>bif (decide ((w64 (x139.1-s0.1))<(w64 (s0.2.1-x139.1)))) then bif (decide ((w64 (Int.tdiv (w64 (s0.2.1-s0.1)) 8))<=(w64 (x139.1-s0.1)))) then (rc s0.1 x139.1 (w64 (s0.2.2.1-1)) e x139.2).bind fun x140=>some (.inl ((w64 (x139.1+1)),s0.2.1,(w64 (s0.2.2.1-1)),true,true,x140)) else (rc s0.1 x139.1 (w64 (s0.2.2.1-1)) e x139.2).bind fun x141=>some (.inl ((w64 (x139.1+1)),s0.2.1,(w64 (s0.2.2.1-1)),false,true,x141)) else bif (decide ((w64 (Int.tdiv (w64 (s0.2.1-s0.1)) 8))<=(w64 (s0.2.1-x139.1)))) then (rc (w64 (x139.1+1)) s0.2.1 (w64 (s0.2.2.1-1)) e x139.2).bind fun x142=>some (.inl (s0.1,x139.1,(w64 (s0.2.2.1-1)),true,true,x142)) else (rc (w64 (x139.1+1)) s0.2.1 (w64 (s0.2.2.1-1)) e x139.2).bind fun x143=>some (.inl (s0.1,x139.1,(w64 (s0.2.2.1-1)),false,true,x143)) | (.inr x139)=>bif (decide ((w64 (x139.1-s0.1))<(w64 (s0.2.1-x139.1)))) then bif (decide ((w64 (Int.tdiv (w64 (s0.2.1-s0.1)) 8))<=(w64 (x139.1-s0.1)))) then (rc s0.1 x139.1 (w64 (s0.2.2.1-1)) e x139.2).bind fun x144=>some (.inl ((w64 (x139.1+1)),s0.2.1,(w64 (s0.2.2.1-1)),true,false,x144)) else (rc s0.1 x139.1 (w64 (s0.2.2.1-1)) e x139.2).bind fun x145=>some (.inl ((w64 (x139.1+1)),s0.2.1,(w64 (s0.2.2.1-1)),false,false,x145)) else bif (decide ((w64 (Int.tdiv (w64 (s0.2.1-s0.1)) 8))<=(w64 (s0.2.1-x139.1)))) then (rc (w64 (x139.1+1)) s0.2.1 (w64 (s0.2.2.1-1)) e x139.2).bind fun x146=>some (.inl (s0.1,x139.1,(w64 (s0.2.2.1-1)),true,false,x146)) else (rc (w64 (x139.1+1)) s0.2.1 (w64 (s0.2.2.1-1)) e x139.2).bind fun x147=>some (.inl (s0.1,x139.1,(w64 (s0.2.2.1-1)),false,false,x147)) else bif (decide (0<s0.1)) then (ZA x123 (w64 (s0.1-1))).bind fun x148=>(ZA x123 x124.1).bind fun x149=>(e x148 x149).bind fun x150=>bif (decide (x150<0)) then (Zu s0.1 s0.2.1 x124.1 e x123).bind fun x151=>match x151 with | (.inl x151)=>bif (decide ((w64 (x151.1-s0.1))<(w64 (s0.2.1-x151.1)))) then bif (decide ((w64 (Int.tdiv (w64 (s0.2.1-s0.1)) 8))<=(w64 (x151.1-s0.1)))) then (rc s0.1 x151.1 (w64 (s0.2.2.1-1)) e x151.2).bind fun x152=>some (.inl ((w64 (x151.1+1)),s0.2.1,(w64 (s0.2.2.1-1)),true,true,x152)) else (rc s0.1 x151.1 (w64 (s0.2.2.1-1)) e x151.2).bind fun x153=>some (.inl ((w64 (x151.1+1)),s0.2.1,(w64 (s0.2.2.1-1)),false,true,x153)) else bif (decide ((w64 (Int.tdiv (w64 (s0.2.1-s0.1)) 8))<=(w64 (s0.2.1-x151.1)))) then (rc (w64 (x151.1+1)) s0.2.1 (w64 (s0.2.2.1-1)) e x151.2).bind fun x154=>some (.inl (s0.1,x151.1,(w64 (s0.2.2.1-1)),true,true,x154)) else (rc (w64 (x151.1+1)) s0.2.1 (w64 (s0.2.2.1-1)) e x151.2).bind fun x155=>some (.inl (s0.1,x151.1,(w64 (s0.2.2.1-1)),false,true,x155)) | (.inr x151)=>bif (decide ((w64 (x151.1-s0.1))<(w64 (s0.2.1-x151.1)))) then bif (decide ((w64 (Int.tdiv (w64 (s0.2.1-s0.1)) 8))<=(w64 (x151.1-s0.1)))) then (rc s0.1 x151.1 (w64 (s0.2.2.1-1)) e x151.2).bind fun x156=>some (.inl ((w64 (x151.1+1)),s0.2.1,(w64 (s0.2.2.1-1)),true,false,x156)) else (rc s0.1 x151.1 (w64 (s0.2.2.1-1)) e x151.2).bind fun x157=>some (.inl ((w64 (x151.1+1)),s0.2.1,(w64 (s0.2.2.1-1)),false,false,x157)) else bif (decide ((w64 (Int.tdiv (w64 (s0.2.1-s0.1)) 8))<=(w64 (s0.2.1-x151.1)))) then (rc (w64 (x151.1+1)) s0.2.1 (w64 (s0.2.2.1-1)) e x151.2).bind fun x158=>some (.inl (s0.1,x151.1,(w64 (s0.2.2.1-1)),true,false,x158)) else (rc (w64 (x151.1+1)) s0.2.1 (w64 (s0.2.2.1-1)) e x151.2).bind fun x159=>some (.inl (s0.1,x151.1,(w64 (s0.2.2.1-1)),false,false,x159)) else (ZG s0.1 s0.2.1 x124.1 e x123).bind fun x160=>some (.inl (x160.1,s0.2.1,(w64 (s0.2.2.1-1)),false,true,x160.2)) else (Zu s0.1 s0.2.1 x124.1 e x123).bind fun x161=>match x161 with | (.inl x161)=>bif (decide ((w64 (x161.1-s0.1))<(w64 (s0.2.1-x161.1)))) then bif (decide ((w64 (Int.tdiv (w64 (s0.2.1-s0.1)) 8))<=(w64 (x161.1-s0.1)))) then (rc s0.1 x161.1 (w64 (s0.2.2.1-1)) e x161.2).bind fun x162=>some (.inl ((w64 (x161.1+1)),s0.2.1,(w64 (s0.2.2.1-1)),true,true,x162)) else (rc s0.1 x161.1 (w64 (s0.2.2.1-1)) e x161.2).bind fun x163=>some (.inl ((w64 (x161.1+1)),s0.2.1,(w64 (s0.2.2.1-1)),false,true,x163)) else bif (decide ((w64 (Int.tdiv (w64 (s0.2.1-s0.1)) 8))<=(w64 (s0.2.1-x161.1)))) then (rc (w64 (x161.1+1)) s0.2.1 (w64 (s0.2.2.1-1)) e x161.2).bind fun x164=>some (.inl (s0.1,x161.1,(w64 (s0.2.2.1-1)),true,true,x164)) else (rc (w64 (x161.1+1)) s0.2.1 (w64 (s0.2.2.1-1)) e x161.2).bind fun x165=>some (.inl (s0.1,x161.1,(w64 (s0.2.2.1-1)),false,true,x165)) | (.inr x161)=>bif (decide ((w64 (x161.1-s0.1))<(w64 (s0.2.1-x161.1)))) then bif (decide ((w64 (Int.tdiv (w64 (s0.2.1-s0.1)) 8))<=(w64 (x161.1-s0.1)))) then (rc s0.1 x161.1 (w64 (s0.2.2.1-1)) e x161.2).bind fun x166=>some (.inl ((w64 (x161.1+1)),s0.2.1,(w64 (s0.2.2.1-1)),true,false,x166)) else (rc s0.1 x161.1 (w64 (s0.2.2.1-1)) e x161.2).bind fun x167=>some (.inl ((w64 (x161.1+1)),s0.2.1,(w64 (s0.2.2.1-1)),false,false,x167)) else bif (decide ((w64 (Int.tdiv (w64 (s0.2.1-s0.1)) 8))<=(w64 (s0.2.1-x161.1)))) then (rc (w64 (x161.1+1)) s0.2.1 (w64 (s0.2.2.1-1)) e x161.2).bind fun x168=>some (.inl (s0.1,x161.1,(w64 (s0.2.2.1-1)),true,false,x168)) else (rc (w64 (x161.1+1)) s0.2.1 (w64 (s0.2.2.1-1)) e x161.2).bind fun x169=>some (.inl (s0.1,x161.1,(w64 (s0.2.2.1-1)),false,false,x169)) else bif (decide ((w64 (s0.2.1-s0.1))<=12)) then (Z3 s0.1 s0.2.1 e s0.2.2.2.2.2).bind fun x170=>some (.inr x170) else bif (s0.2.2.1==0) then (Zaf s0.1 s0.2.1 e s0.2.2.2.2.2).bind fun x171=>some (.inr x171) else (Zaj s0.1 s0.2.1 e s0.2.2.2.2.2).bind fun x172=>(ZU s0.1 s0.2.1 e x172).bind fun x173=>bif (x173.2==2) then (ZR s0.1 s0.2.1 e x172).bind fun x174=>bif (decide (0<s0.1)) then (ZA x174 (w64 (s0.1-1))).bind fun x175=>(ZA x174 (w64 ((w64 (s0.2.1-1))-(w64 (x173.1-s0.1))))).bind fun x176=>(e x175 x176).bind fun x177=>bif (decide (x177<0)) then (Zu s0.1 s0.2.1 (w64 ((w64 (s0.2.1-1))-(w64 (x173.1-s0.1)))) e x174).bind fun x178=>match x178 with | (.inl x178)=>bif (decide ((w64 (x178.1-s0.1))<(w64 (s0.2.1-x178.1)))) then bif (decide ((w64 (Int.tdiv (w64 (s0.2.1-s0.1)) 8))<=(w64 (x178.1-s0.1)))) then (rc s0.1 x178.1 (w64 (s0.2.2.1-1)) e x178.2).bind fun x179=>some (.inl ((w64 (x178.1+1)),s0.2.1,(w64 (s0.2.2.1-1)),true,true,x179)) else (rc s0.1 x178.1 (w64 (s0.2.2.1-1)) e x178.2).bind fun x180=>some (.inl ((w64 (x178.1+1)),s0.2.1,(w64 (s0.2.2.1-1)),false,true,x180)) else bif (decide ((w64 (Int.tdiv (w64 (s0.2.1-s0.1)) 8))<=(w64 (s0.2.1-x178.1)))) then (rc (w64 (x178.1+1)) s0.2.1 (w64 (s0.2.2.1-1)) e x178.2).bind fun x181=>some (.inl (s0.1,x178.1,(w64 (s0.2.2.1-1)),true,true,x181)) else (rc (w64 (x178.1+1)) s0.2.1 (w64 (s0.2.2.1-1)) e x178.2).bind fun x182=>some (.inl (s0.1,x178.1,(w64 (s0.2.2.1-1)),false,true,x182)) | (.inr x178)=>bif (decide ((w64 (x178.1-s0.1))<(w64 (s0.2.1-x178.1)))) then bif (decide ((w64 (Int.tdiv (w64 (s0.2.1-s0.1)) 8))<=(w64 (x178.1-s0.1)))) then (rc s0.1 x178.1 (w64 (s0.2.2.1-1)) e x178.2).bind fun x183=>some (.inl ((w64 (x178.1+1)),s0.2.1,(w64 (s0.2.2.1-1)),true,false,x183)) else (rc s0.1 x178.1 (w64 (s0.2.2.1-1)) e x178.2).bind fun x184=>some (.inl ((w64 (x178.1+1)),s0.2.1,(w64 (s0.2.2.1-1)),false,false,x184)) else bif (decide ((w64 (Int.tdiv (w64 (s0.2.1-s0.1)) 8))<=(w64 (s0.2.1-x178.1)))) then (rc (w64 (x178.1+1)) s0.2.1 (w64 (s0.2.2.1-1)) e x178.2).bind fun x185=>some (.inl (s0.1,x178.1,(w64 (s0.2.2.1-1)),true,false,x185)) else (rc (w64 (x178.1+1)) s0.2.1 (w64 (s0.2.2.1-1)) e x178.2).bind fun x186=>some (.inl (s0.1,x178.1,(w64 (s0.2.2.1-1)),false,false,x186)) else (ZG s0.1 s0.2.1 (w64 ((w64 (s0.2.1-1))-(w64 (x173.1-s0.1)))) e x174).bind fun x187=>some (.inl (x187.1,s0.2.1,(w64 (s0.2.2.1-1)),false,false,x187.2)) else (Zu s0.1 s0.2.1 (w64 ((w64 (s0.2.1-1))-(w64 (x173.1-s0.1)))) e x174).bind fun x188=>match x188 with | (.inl x188)=>bif (decide ((w64 (x188.1-s0.1))<(w64 (s0.2.1-x188.1)))) then bif (decide ((w64 (Int.tdiv (w64 (s0.2.1-s0.1)) 8))<=(w64 (x188.1-s0.1)))) then (rc s0.1 x188.1 (w64 (s0.2.2.1-1)) e x188.2).bind fun x189=>some (.inl ((w64 (x188.1+1)),s0.2.1,(w64 (s0.2.2.1-1)),true,true,x189)) else (rc s0.1 x188.1 (w64 (s0.2.2.1-1)) e x188.2).bind fun x190=>some (.inl ((w64 (x188.1+1)),s0.2.1,(w64 (s0.2.2.1-1)),false,true,x190)) else bif (decide ((w64 (Int.tdiv (w64 (s0.2.1-s0.1)) 8))<=(w64 (s0.2.1-x188.1)))) then (rc (w64 (x188.1+1)) s0.2.1 (w64 (s0.2.2.1-1)) e x188.2).bind fun x191=>some (.inl (s0.1,x188.1,(w64 (s0.2.2.1-1)),true,true,x191)) else (rc (w64 (x188.1+1)) s0.2.1 (w64 (s0.2.2.1-1)) e x188.2).bind fun x192=>some (.inl (s0.1,x188.1,(w64 (s0.2.2.1-1)),false,true,x192)) | (.inr x188)=>bif (decide ((w64 (x188.1-s0.1))<(w64 (s0.2.1-x188.1)))) then bif (decide ((w64 (Int.tdiv (w64 (s0.2.1-s0.1)) 8))<=(w64 (x188.1-s0.1)))) then (rc s0.1 x188.1 (w64 (s0.2.2.1-1)) e x188.2).bind fun x193=>some (.inl ((w64 (x188.1+1)),s0.2.1,(w64 (s0.2.2.1-1)),true,false,x193)) else (rc s0.1 x188.1 (w64 (s0.2.2.1-1)) e x188.2).bind fun x194=>some (.inl ((w64 (x188.1+1)),s0.2.1,(w64 (s0.2.2.1-1)),false,false,x194)) else bif (decide ((w64 (Int.tdiv (w64 (s0.2.1-s0.1)) 8))<=(w64 (s0.2.1-x188.1)))) then (rc (w64 (x188.1+1)) s0.2.1 (w64 (s0.2.2.1-1)) e x188.2).bind fun x195=>some (.inl (s0.1,x188.1,(w64 (s0.2.2.1-1)),true,false,x195)) else (rc (w64 (x188.1+1)) s0.2.1 (w64 (s0.2.2.1-1)) e x188.2).bind fun x196=>some (.inl (s0.1,x188.1,(w64 (s0.2.2.1-1)),false,false,x196)) else bif (decide (0<s0.1)) then (ZA x172 (w64 (s0.1-1))).bind fun x197=>(ZA x172 x173.1).bind fun x198=>(e x197 x198).bind fun x199=>bif (decide (x199<0)) then (Zu s0.1 s0.2.1 x173.1 e x172).bind fun x200=>match x200 with | (.inl x200)=>bif (decide ((w64 (x200.1-s0.1))<(w64 (s0.2.1-x200.1)))) then bif (decide ((w64 (Int.tdiv (w64 (s0.2.1-s0.1)) 8))<=(w64 (x200.1-s0.1)))) then (rc s0.1 x200.1 (w64 (s0.2.2.1-1)) e x200.2).bind fun x201=>some (.inl ((w64 (x200.1+1)),s0.2.1,(w64 (s0.2.2.1-1)),true,true,x201)) else (rc s0.1 x200.1 (w64 (s0.2.2.1-1)) e x200.2).bind fun x202=>some (.inl ((w64 (x200.1+1)),s0.2.1,(w64 (s0.2.2.1-1)),false,true,x202)) else bif (decide ((w64 (Int.tdiv (w64 (s0.2.1-s0.1)) 8))<=(w64 (s0.2.1-x200.1)))) then (rc (w64 (x200.1+1)) s0.2.1 (w64 (s0.2.2.1-1)) e x200.2).bind fun x203=>some (.inl (s0.1,x200.1,(w64 (s0.2.2.1-1)),true,true,x203)) else (rc (w64 (x200.1+1)) s0.2.1 (w64 (s0.2.2.1-1)) e x200.2).bind fun x204=>some (.inl (s0.1,x200.1,(w64 (s0.2.2.1-1)),false,true,x204)) | (.inr x200)=>bif (decide ((w64 (x200.1-s0.1))<(w64 (s0.2.1-x200.1)))) then bif (decide ((w64 (Int.tdiv (w64 (s0.2.1-s0.1)) 8))<=(w64 (x200.1-s0.1)))) then (rc s0.1 x200.1 (w64 (s0.2.2.1-1)) e x200.2).bind fun x205=>some (.inl ((w64 (x200.1+1)),s0.2.1,(w64 (s0.2.2.1-1)),true,false,x205)) else (rc s0.1 x200.1 (w64 (s0.2.2.1-1)) e x200.2).bind fun x206=>some (.inl ((w64 (x200.1+1)),s0.2.1,(w64 (s0.2.2.1-1)),false,false,x206)) else bif (decide ((w64 (Int.tdiv (w64 (s0.2.1-s0.1)) 8))<=(w64 (s0.2.1-x200.1)))) then (rc (w64 (x200.1+1)) s0.2.1 (w64 (s0.2.2.1-1)) e x200.2).bind fun x207=>some (.inl (s0.1,x200.1,(w64 (s0.2.2.1-1)),true,false,x207)) else (rc (w64 (x200.1+1)) s0.2.1 (w64 (s0.2.2.1-1)) e x200.2).bind fun x208=>some (.inl (s0.1,x200.1,(w64 (s0.2.2.1-1)),false,false,x208)) else (ZG s0.1 s0.2.1 x173.1 e x172).bind fun x209=>some (.inl (x209.1,s0.2.1,(w64 (s0.2.2.1-1)),false,false,x209.2)) else (Zu s0.1 s0.2.1 x173.1 e x172).bind fun x210=>match x210 with | (.inl x210)=>bif (decide ((w64 (x210.1-s0.1))<(w64 (s0.2.1-x210.1)))) then bif (decide ((w64 (Int.tdiv (w64 (s0.2.1-s0.1)) 8))<=(w64 (x210.1-s0.1)))) then (rc s0.1 x210.1 (w64 (s0.2.2.1-1)) e x210.2).bind fun x211=>some (.inl ((w64 (x210.1+1)),s0.2.1,(w64 (s0.2.2.1-1)),true,true,x211)) else (rc s0.1 x210.1 (w64 (s0.2.2.1-1)) e x210.2).bind fun x212=>some (.inl ((w64 (x210.1+1)),s0.2.1,(w64 (s0.2.2.1-1)),false,true,x212)) else bif (decide ((w64 (Int.tdiv (w64 (s0.2.1-s0.1)) 8))<=(w64 (s0.2.1-x210.1)))) then (rc (w64 (x210.1+1)) s0.2.1 (w64 (s0.2.2.1-1)) e x210.2).bind fun x213=>some (.inl (s0.1,x210.1,(w64 (s0.2.2.1-1)),true,true,x213)) else (rc (w64 (x210.1+1)) s0.2.1 (w64 (s0.2.2.1-1)) e x210.2).bind fun x214=>some (.inl (s0.1,x210.1,(w64 (s0.2.2.1-1)),false,true,x214)) | (.inr x210)=>bif (decide ((w64 (x210.1-s0.1))<(w64 (s0.2.1-x210.1)))) then bif (decide ((w64 (Int.tdiv (w64 (s0.2.1-s0.1)) 8))<=(w64 (x210.1-s0.1)))) then (rc s0.1 x210.1 (w64 (s0.2.2.1-1)) e x210.2).bind fun x215=>some (.inl ((w64 (x210.1+1)),s0.2.1,(w64 (s0.2.2.1-1)),true,false,x215)) else (rc s0.1 x210.1 (w64 (s0.2.2.1-1)) e x210.2).bind fun x216=>some (.inl ((w64 (x210.1+1)),s0.2.1,(w64 (s0.2.2.1-1)),false,false,x216)) else bif (decide ((w64 (Int.tdiv (w64 (s0.2.1-s0.1)) 8))<=(w64 (s0.2.1-x210.1)))) then (rc (w64 (x210.1+1)) s0.2.1 (w64 (s0.2.2.1-1)) e x210.2).bind fun x217=>some (.inl (s0.1,x210.1,(w64 (s0.2.2.1-1)),true,false,x217)) else (rc (w64 (x210.1+1)) s0.2.1 (w64 (s0.2.2.1-1)) e x210.2).bind fun x218=>some (.inl (s0.1,x210.1,(w64 (s0.2.2.1-1)),false,false,x218))
def ZaE (rc:Int->Int->Int->(Int->Int->Option Int)->LI->Option LI) (b c d:Int) (e:(Int->Int->Option Int)) (mH:LI):Option LI:=(lp (ZD e rc) (b,c,d,true,true,mH)).bind fun r219=>some r219
def ZT:Nat->Int->Int->Int->(Int->Int->Option Int)->LI->Option LI
 | 0=>fun _ _ _ _ _=>none
 | n+1=>ZaE (ZT n)
def ZcP (b c d:Int) (e:(Int->Int->Option Int)) (mH:LI):Option LI:=ZFG fun n=>ZT n b c d e mH
def Zay (b:(Int->Int->Option Int)) (mH:LI):Option LI:=(Zg5 (u64.wrap (mH.length:Int))).bind fun x0=>(ZcP 0 (mH.length:Int) x0 b mH).bind fun x1=>some x1
def ZfH (a:Zj) (b:Int) (s1:Int×LI):Option ((Int×LI)⊕LI):=bif (decide (s1.1<(a.futures.length:Int))) then (ZA a.futures s1.1).bind fun x2=>bif (x2.user==b) then bif (Nat.ble (s1.2.length+1) lim) then some (.inl ((w64 (s1.1+1)),(s1.2++[s1.1]))) else none else some (.inl ((w64 (s1.1+1)),s1.2)) else some (.inr s1.2)
def Ze0 (a:Zj) (b:Int):Option LI:=(ZiQ a).bind fun x0=>bif (x0 != 0) then some ([]:LI) else (lp (ZfH a b) (0,([]:LI))).bind fun r3=>(Zay (fun z0 z1=>Zz z0 z1 a.futures) r3).bind fun x4=>some x4
def ZaB (b:Zi) (c:Int) (mA:LI) (mI:List Zi):Option Unit:=bif (Nat.ble (mI.length+1) lim) then bif (Nat.ble (mA.length+1) lim) then some () else none else none
def ZP (b c:Int) (mJ:List Zo):Option Unit:=bif (Nat.ble (mJ.length+1) lim) then some () else none
def ZH (b:Zj) (c:Int) (x0:LI) (s14:Int×Int×(List (Int×Int))×(List (Zl×Int))×LI×(List Zo)×(List Zi)):Option ((Int×Int×(List (Int×Int))×(List (Zl×Int))×LI×(List Zo)×(List Zi))⊕((List (Int×Int))×(List (Zl×Int))×LI×(List Zo)×(List Zi))):=bif (decide (s14.2.1<(w64 ((x0.length:Int)+1)))) then (ZA b.parts c).bind fun x15=>bif (decide (s14.2.1<(x0.length:Int))) then (ZA x0 s14.2.1).bind fun x16=>(ZA b.futures x16).bind fun x17=>(ZaB (Zi.mk c s14.2.1) (w64 (x17.pos-s14.1)) s14.2.2.2.2.1 s14.2.2.2.2.2.2).bind fun x18=>bif (decide (0<s14.2.1)) then (ZP (w64 ((Zae zE (Zy zE s14.2.2.1 c (w64 ((List.length (s14.2.2.2.2.2.2++[(Zi.mk c s14.2.1)]):Int)-1))) c 0)-1)) (Zae zE (Zy zE s14.2.2.1 c (w64 ((List.length (s14.2.2.2.2.2.2++[(Zi.mk c s14.2.1)]):Int)-1))) c 0) s14.2.2.2.2.2.1).bind fun x19=>(ZA x0 (w64 (s14.2.1-1))).bind fun x20=>(ZA b.futures x20).bind fun x21=>some (.inl (x17.pos,(w64 (s14.2.1+1)),(Zy zE s14.2.2.1 c (w64 ((List.length (s14.2.2.2.2.2.2++[(Zi.mk c s14.2.1)]):Int)-1))),(Zy (fun ka kb:Zl=>((ka.maker==kb.maker)&&((ka.user==kb.user)&&((ka.pos==kb.pos)&&true)))) s14.2.2.2.1 x21 (Zae zE (Zy zE s14.2.2.1 c (w64 ((List.length (s14.2.2.2.2.2.2++[(Zi.mk c s14.2.1)]):Int)-1))) c 0)),(s14.2.2.2.2.1++[(w64 (x17.pos-s14.1))]),(s14.2.2.2.2.2.1++[(Zo.mk (w64 ((Zae zE (Zy zE s14.2.2.1 c (w64 ((List.length (s14.2.2.2.2.2.2++[(Zi.mk c s14.2.1)]):Int)-1))) c 0)-1)) (Zae zE (Zy zE s14.2.2.1 c (w64 ((List.length (s14.2.2.2.2.2.2++[(Zi.mk c s14.2.1)]):Int)-1))) c 0))]),(s14.2.2.2.2.2.2++[(Zi.mk c s14.2.1)]))) else some (.inl (x17.pos,(w64 (s14.2.1+1)),(Zy zE s14.2.2.1 c (w64 ((List.length (s14.2.2.2.2.2.2++[(Zi.mk c s14.2.1)]):Int)-1))),s14.2.2.2.1,(s14.2.2.2.2.1++[(w64 (x17.pos-s14.1))]),s14.2.2.2.2.2.1,(s14.2.2.2.2.2.2++[(Zi.mk c s14.2.1)]))) else (ZaB (Zi.mk c s14.2.1) (w64 (x15.work-s14.1)) s14.2.2.2.2.1 s14.2.2.2.2.2.2).bind fun x22=>bif (decide (0<s14.2.1)) then (ZP (w64 ((Zae zE (Zy zE s14.2.2.1 c (w64 ((List.length (s14.2.2.2.2.2.2++[(Zi.mk c s14.2.1)]):Int)-1))) c 0)-1)) (Zae zE (Zy zE s14.2.2.1 c (w64 ((List.length (s14.2.2.2.2.2.2++[(Zi.mk c s14.2.1)]):Int)-1))) c 0) s14.2.2.2.2.2.1).bind fun x23=>(ZA x0 (w64 (s14.2.1-1))).bind fun x24=>(ZA b.futures x24).bind fun x25=>some (.inl (x15.work,(w64 (s14.2.1+1)),(Zy zE s14.2.2.1 c (w64 ((List.length (s14.2.2.2.2.2.2++[(Zi.mk c s14.2.1)]):Int)-1))),(Zy (fun ka kb:Zl=>((ka.maker==kb.maker)&&((ka.user==kb.user)&&((ka.pos==kb.pos)&&true)))) s14.2.2.2.1 x25 (Zae zE (Zy zE s14.2.2.1 c (w64 ((List.length (s14.2.2.2.2.2.2++[(Zi.mk c s14.2.1)]):Int)-1))) c 0)),(s14.2.2.2.2.1++[(w64 (x15.work-s14.1))]),(s14.2.2.2.2.2.1++[(Zo.mk (w64 ((Zae zE (Zy zE s14.2.2.1 c (w64 ((List.length (s14.2.2.2.2.2.2++[(Zi.mk c s14.2.1)]):Int)-1))) c 0)-1)) (Zae zE (Zy zE s14.2.2.1 c (w64 ((List.length (s14.2.2.2.2.2.2++[(Zi.mk c s14.2.1)]):Int)-1))) c 0))]),(s14.2.2.2.2.2.2++[(Zi.mk c s14.2.1)]))) else some (.inl (x15.work,(w64 (s14.2.1+1)),(Zy zE s14.2.2.1 c (w64 ((List.length (s14.2.2.2.2.2.2++[(Zi.mk c s14.2.1)]):Int)-1))),s14.2.2.2.1,(s14.2.2.2.2.1++[(w64 (x15.work-s14.1))]),s14.2.2.2.2.2.1,(s14.2.2.2.2.2.2++[(Zi.mk c s14.2.1)]))) else some (.inr (s14.2.2.1,s14.2.2.2.1,s14.2.2.2.2.1,s14.2.2.2.2.2.1,s14.2.2.2.2.2.2))
def ZcB (b:Zj) (c:Int) (mA:LI) (mJ:List Zo) (mI:List Zi) (mK:(List (Int×Int))) (mL:(List (Zl×Int))) (x0:LI) (x4:Zl) (s6:Unit):Option (Unit⊕(((List (Int×Int))×(List (Zl×Int))×LI×(List Zo)×(List Zi))⊕Unit)):=bif (decide (1<(w64 ((x0.length:Int)+1)))) then (ZA b.parts c).bind fun x7=>bif (decide (1<(x0.length:Int))) then (ZA x0 1).bind fun x8=>(ZA b.futures x8).bind fun x9=>(ZaB (Zi.mk c 1) (w64 (x9.pos-x4.pos)) (mA++[(w64 (x4.pos-0))]) (mI++[(Zi.mk c 0)])).bind fun x10=>(ZP (w64 ((Zae zE (Zy zE (Zy zE mK c (w64 ((List.length (mI++[(Zi.mk c 0)]):Int)-1))) c (w64 ((List.length ((mI++[(Zi.mk c 0)])++[(Zi.mk c 1)]):Int)-1))) c 0)-1)) (Zae zE (Zy zE (Zy zE mK c (w64 ((List.length (mI++[(Zi.mk c 0)]):Int)-1))) c (w64 ((List.length ((mI++[(Zi.mk c 0)])++[(Zi.mk c 1)]):Int)-1))) c 0) mJ).bind fun x11=>(ZA x0 0).bind fun x12=>(ZA b.futures x12).bind fun x13=>(lp (ZH b c x0) (x9.pos,2,(Zy zE (Zy zE mK c (w64 ((List.length (mI++[(Zi.mk c 0)]):Int)-1))) c (w64 ((List.length ((mI++[(Zi.mk c 0)])++[(Zi.mk c 1)]):Int)-1))),(Zy (fun ka kb:Zl=>((ka.maker==kb.maker)&&((ka.user==kb.user)&&((ka.pos==kb.pos)&&true)))) mL x13 (Zae zE (Zy zE (Zy zE mK c (w64 ((List.length (mI++[(Zi.mk c 0)]):Int)-1))) c (w64 ((List.length ((mI++[(Zi.mk c 0)])++[(Zi.mk c 1)]):Int)-1))) c 0)),((mA++[(w64 (x4.pos-0))])++[(w64 (x9.pos-x4.pos))]),(mJ++[(Zo.mk (w64 ((Zae zE (Zy zE (Zy zE mK c (w64 ((List.length (mI++[(Zi.mk c 0)]):Int)-1))) c (w64 ((List.length ((mI++[(Zi.mk c 0)])++[(Zi.mk c 1)]):Int)-1))) c 0)-1)) (Zae zE (Zy zE (Zy zE mK c (w64 ((List.length (mI++[(Zi.mk c 0)]):Int)-1))) c (w64 ((List.length ((mI++[(Zi.mk c 0)])++[(Zi.mk c 1)]):Int)-1))) c 0))]),((mI++[(Zi.mk c 0)])++[(Zi.mk c 1)]))).bind fun r26=>some (.inr (.inl (r26.1,r26.2.1,r26.2.2.1,r26.2.2.2.1,r26.2.2.2.2))) else (ZaB (Zi.mk c 1) (w64 (x7.work-x4.pos)) (mA++[(w64 (x4.pos-0))]) (mI++[(Zi.mk c 0)])).bind fun x27=>(ZP (w64 ((Zae zE (Zy zE (Zy zE mK c (w64 ((List.length (mI++[(Zi.mk c 0)]):Int)-1))) c (w64 ((List.length ((mI++[(Zi.mk c 0)])++[(Zi.mk c 1)]):Int)-1))) c 0)-1)) (Zae zE (Zy zE (Zy zE mK c (w64 ((List.length (mI++[(Zi.mk c 0)]):Int)-1))) c (w64 ((List.length ((mI++[(Zi.mk c 0)])++[(Zi.mk c 1)]):Int)-1))) c 0) mJ).bind fun x28=>(ZA x0 0).bind fun x29=>(ZA b.futures x29).bind fun x30=>(lp (ZH b c x0) (x7.work,2,(Zy zE (Zy zE mK c (w64 ((List.length (mI++[(Zi.mk c 0)]):Int)-1))) c (w64 ((List.length ((mI++[(Zi.mk c 0)])++[(Zi.mk c 1)]):Int)-1))),(Zy (fun ka kb:Zl=>((ka.maker==kb.maker)&&((ka.user==kb.user)&&((ka.pos==kb.pos)&&true)))) mL x30 (Zae zE (Zy zE (Zy zE mK c (w64 ((List.length (mI++[(Zi.mk c 0)]):Int)-1))) c (w64 ((List.length ((mI++[(Zi.mk c 0)])++[(Zi.mk c 1)]):Int)-1))) c 0)),((mA++[(w64 (x4.pos-0))])++[(w64 (x7.work-x4.pos))]),(mJ++[(Zo.mk (w64 ((Zae zE (Zy zE (Zy zE mK c (w64 ((List.length (mI++[(Zi.mk c 0)]):Int)-1))) c (w64 ((List.length ((mI++[(Zi.mk c 0)])++[(Zi.mk c 1)]):Int)-1))) c 0)-1)) (Zae zE (Zy zE (Zy zE mK c (w64 ((List.length (mI++[(Zi.mk c 0)]):Int)-1))) c (w64 ((List.length ((mI++[(Zi.mk c 0)])++[(Zi.mk c 1)]):Int)-1))) c 0))]),((mI++[(Zi.mk c 0)])++[(Zi.mk c 1)]))).bind fun r43=>some (.inr (.inl (r43.1,r43.2.1,r43.2.2.1,r43.2.2.2.1,r43.2.2.2.2))) else some (.inr (.inr ()))
def Zdu (b:Zj) (c:Int) (mA:LI) (mJ:List Zo) (mI:List Zi) (mK:(List (Int×Int))) (mL:(List (Zl×Int))) (x0:LI) (x2:Z7) (s46:Unit):Option (Unit⊕(((List (Int×Int))×(List (Zl×Int))×LI×(List Zo)×(List Zi))⊕Unit)):=bif (decide (1<(w64 ((x0.length:Int)+1)))) then (ZA b.parts c).bind fun x47=>bif (decide (1<(x0.length:Int))) then (ZA x0 1).bind fun x48=>(ZA b.futures x48).bind fun x49=>(ZaB (Zi.mk c 1) (w64 (x49.pos-x2.work)) (mA++[(w64 (x2.work-0))]) (mI++[(Zi.mk c 0)])).bind fun x50=>(ZP (w64 ((Zae zE (Zy zE (Zy zE mK c (w64 ((List.length (mI++[(Zi.mk c 0)]):Int)-1))) c (w64 ((List.length ((mI++[(Zi.mk c 0)])++[(Zi.mk c 1)]):Int)-1))) c 0)-1)) (Zae zE (Zy zE (Zy zE mK c (w64 ((List.length (mI++[(Zi.mk c 0)]):Int)-1))) c (w64 ((List.length ((mI++[(Zi.mk c 0)])++[(Zi.mk c 1)]):Int)-1))) c 0) mJ).bind fun x51=>(ZA x0 0).bind fun x52=>(ZA b.futures x52).bind fun x53=>(lp (ZH b c x0) (x49.pos,2,(Zy zE (Zy zE mK c (w64 ((List.length (mI++[(Zi.mk c 0)]):Int)-1))) c (w64 ((List.length ((mI++[(Zi.mk c 0)])++[(Zi.mk c 1)]):Int)-1))),(Zy (fun ka kb:Zl=>((ka.maker==kb.maker)&&((ka.user==kb.user)&&((ka.pos==kb.pos)&&true)))) mL x53 (Zae zE (Zy zE (Zy zE mK c (w64 ((List.length (mI++[(Zi.mk c 0)]):Int)-1))) c (w64 ((List.length ((mI++[(Zi.mk c 0)])++[(Zi.mk c 1)]):Int)-1))) c 0)),((mA++[(w64 (x2.work-0))])++[(w64 (x49.pos-x2.work))]),(mJ++[(Zo.mk (w64 ((Zae zE (Zy zE (Zy zE mK c (w64 ((List.length (mI++[(Zi.mk c 0)]):Int)-1))) c (w64 ((List.length ((mI++[(Zi.mk c 0)])++[(Zi.mk c 1)]):Int)-1))) c 0)-1)) (Zae zE (Zy zE (Zy zE mK c (w64 ((List.length (mI++[(Zi.mk c 0)]):Int)-1))) c (w64 ((List.length ((mI++[(Zi.mk c 0)])++[(Zi.mk c 1)]):Int)-1))) c 0))]),((mI++[(Zi.mk c 0)])++[(Zi.mk c 1)]))).bind fun r66=>some (.inr (.inl (r66.1,r66.2.1,r66.2.2.1,r66.2.2.2.1,r66.2.2.2.2))) else (ZaB (Zi.mk c 1) (w64 (x47.work-x2.work)) (mA++[(w64 (x2.work-0))]) (mI++[(Zi.mk c 0)])).bind fun x67=>(ZP (w64 ((Zae zE (Zy zE (Zy zE mK c (w64 ((List.length (mI++[(Zi.mk c 0)]):Int)-1))) c (w64 ((List.length ((mI++[(Zi.mk c 0)])++[(Zi.mk c 1)]):Int)-1))) c 0)-1)) (Zae zE (Zy zE (Zy zE mK c (w64 ((List.length (mI++[(Zi.mk c 0)]):Int)-1))) c (w64 ((List.length ((mI++[(Zi.mk c 0)])++[(Zi.mk c 1)]):Int)-1))) c 0) mJ).bind fun x68=>(ZA x0 0).bind fun x69=>(ZA b.futures x69).bind fun x70=>(lp (ZH b c x0) (x47.work,2,(Zy zE (Zy zE mK c (w64 ((List.length (mI++[(Zi.mk c 0)]):Int)-1))) c (w64 ((List.length ((mI++[(Zi.mk c 0)])++[(Zi.mk c 1)]):Int)-1))),(Zy (fun ka kb:Zl=>((ka.maker==kb.maker)&&((ka.user==kb.user)&&((ka.pos==kb.pos)&&true)))) mL x70 (Zae zE (Zy zE (Zy zE mK c (w64 ((List.length (mI++[(Zi.mk c 0)]):Int)-1))) c (w64 ((List.length ((mI++[(Zi.mk c 0)])++[(Zi.mk c 1)]):Int)-1))) c 0)),((mA++[(w64 (x2.work-0))])++[(w64 (x47.work-x2.work))]),(mJ++[(Zo.mk (w64 ((Zae zE (Zy zE (Zy zE mK c (w64 ((List.length (mI++[(Zi.mk c 0)]):Int)-1))) c (w64 ((List.length ((mI++[(Zi.mk c 0)])++[(Zi.mk c 1)]):Int)-1))) c 0)-1)) (Zae zE (Zy zE (Zy zE mK c (w64 ((List.length (mI++[(Zi.mk c 0)]):Int)-1))) c (w64 ((List.length ((mI++[(Zi.mk c 0)])++[(Zi.mk c 1)]):Int)-1))) c 0))]),((mI++[(Zi.mk c 0)])++[(Zi.mk c 1)]))).bind fun r83=>some (.inr (.inl (r83.1,r83.2.1,r83.2.2.1,r83.2.2.2.1,r83.2.2.2.2))) else some (.inr (.inr ()))
def ZcE (b:Zj) (c:Int) (mA:LI) (mJ:List Zo) (mI:List Zi) (mK:(List (Int×Int))) (mL:(List (Zl×Int))) (x0:LI) (s1:Unit):Option (Unit⊕(((List (Int×Int))×(List (Zl×Int))×LI×(List Zo)×(List Zi))⊕(LI⊕Unit))):=bif (decide (0<(w64 ((x0.length:Int)+1)))) then (ZA b.parts c).bind fun x2=>bif (decide (0<(x0.length:Int))) then (ZA x0 0).bind fun x3=>(ZA b.futures x3).bind fun x4=>(ZaB (Zi.mk c 0) (w64 (x4.pos-0)) mA mI).bind fun x5=>(lp (ZcB b c mA mJ mI mK mL x0 x4) ()).bind fun r44=>match r44 with | (.inl r44)=>some (.inr (.inl (r44.1,r44.2.1,r44.2.2.1,r44.2.2.2.1,r44.2.2.2.2))) | (.inr r44)=>some (.inr (.inr (.inl (mA++[(w64 (x4.pos-0))])))) else (ZaB (Zi.mk c 0) (w64 (x2.work-0)) mA mI).bind fun x45=>(lp (Zdu b c mA mJ mI mK mL x0 x2) ()).bind fun r84=>match r84 with | (.inl r84)=>some (.inr (.inl (r84.1,r84.2.1,r84.2.2.1,r84.2.2.2.1,r84.2.2.2.2))) | (.inr r84)=>some (.inr (.inr (.inl (mA++[(w64 (x2.work-0))])))) else some (.inr (.inr (.inr ())))
def Zf9 (b:Zj) (c:Int) (mA:LI) (mJ:List Zo) (mI:List Zi) (mK:(List (Int×Int))) (mL:(List (Zl×Int))):Option (((List (Int×Int))×(List (Zl×Int))×LI×(List Zo)×(List Zi))⊕(LI⊕Unit)):=(Ze0 b c).bind fun x0=>(lp (ZcE b c mA mJ mI mK mL x0) ()).bind fun r85=>match r85 with | (.inl r85)=>some (.inl (r85.1,r85.2.1,r85.2.2.1,r85.2.2.2.1,r85.2.2.2.2)) | (.inr (.inl r85))=>some (.inr (.inl r85)) | (.inr (.inr r85))=>some (.inr (.inr ()))
def Zei (a:Int):Option Bool:=bif (decide (a<0)) then some true else bif (decide (1000<a)) then some true else some false
def Zh1 (a:Int) (b0:LI):Option Bool:=bif (decide (0<=a)) then bif (decide (a<(b0.length:Int))) then some true else some false else some false
def ZhG (a:Z5) (s0:LI×(List Bool)) (s1 s3:Int):Option (Int⊕(Unit⊕Unit)):=bif (decide (s3<(a.edges.length:Int))) then (ZA a.edges s3).bind fun x4=>bif (x4.dst==s1) then (ZA s0.2 x4.src).bind fun x5=>bif x5 then some (.inl (w64 (s3+1))) else some (.inr (.inl ())) else some (.inl (w64 (s3+1))) else some (.inr (.inr ()))
def Zga (a:Z5) (s0:LI×(List Bool)) (s1:Int):Option (Int⊕((LI×(List Bool))⊕Unit)):=bif (decide (s1<(a.work.length:Int))) then (ZA s0.2 s1).bind fun x2=>bif x2 then some (.inl (w64 (s1+1))) else (lp (ZhG a s0 s1) 0).bind fun r6=>match r6 with | (.inl r6)=>some (.inl (w64 (s1+1))) | (.inr r6)=>bif (Nat.ble (s0.1.length+1) lim) then some (.inr (.inl ((s0.1++[s1]),(List.set s0.2 s1.toNat true)))) else none else some (.inr (.inr ()))
def ZhK (a:Z5) (s0:LI×(List Bool)):Option ((LI×(List Bool))⊕(LI⊕LI)):=bif (decide ((s0.1.length:Int)<(a.work.length:Int))) then (lp (Zga a s0) 0).bind fun r7=>match r7 with | (.inl r7)=>some (.inl (r7.1,r7.2)) | (.inr r7)=>some (.inr (.inl s0.1)) else some (.inr (.inr s0.1))
def Zhp (a:Z5):Option (LI×Bool):=bif (decide (0<=(a.work.length:Int))&&decide ((a.work.length:Int)<=lim)&&decide ((a.work.length:Int)==(a.work.length:Int))) then (lp (ZhK a) (([]:LI),(List.replicate (a.work.length:Int).toNat (false:Bool)))).bind fun r8=>match r8 with | (.inl r8)=>some (([]:LI),false) | (.inr r8)=>some (r8,true) else none
def ZgB (a:Z5) (s1:Int):Option (Int⊕(Unit⊕Unit)):=bif (decide (s1<(a.edges.length:Int))) then (ZA a.edges s1).bind fun x2=>(Zh1 x2.src a.work).bind fun x3=>bif x3 then (Zh1 x2.dst a.work).bind fun x4=>bif x4 then bif (x2.src==x2.dst) then some (.inr (.inl ())) else bif (decide (0<=s1)) then bif (Nat.ble s1.toNat (a.edges.length)) then (ZbD (List.take s1.toNat a.edges) x2).bind fun x5=>bif x5 then some (.inr (.inl ())) else some (.inl (w64 (s1+1))) else none else none else some (.inr (.inl ())) else some (.inr (.inl ())) else some (.inr (.inr ()))
def Ziw (a:Z5):Option Int:=bif (decide (64<(a.work.length:Int))) then some 40 else bif (decide (256<(a.edges.length:Int))) then some 40 else (ZaR a.work (fun z0=>Zei z0)).bind fun x0=>bif x0 then some 41 else (lp (ZgB a) 0).bind fun r6=>match r6 with | (.inl r6)=>some 42 | (.inr r6)=>(Zhp a).bind fun x7=>bif x7.2 then some 0 else some 43
def Zdm (a:Zj) (s1:Int×LI×(List Zo)×(List Zi)×(List (Int×Int))×(List (Int×Int))×(List (Zl×Int))):Option ((Int×LI×(List Zo)×(List Zi)×(List (Int×Int))×(List (Int×Int))×(List (Zl×Int)))⊕(LI×(List Zo)×(List Zi)×(List (Int×Int))×(List (Int×Int))×(List (Zl×Int)))):=bif (decide (s1.1<(a.parts.length:Int))) then (Zf9 a s1.1 s1.2.1 s1.2.2.1 s1.2.2.2.1 s1.2.2.2.2.2.1 s1.2.2.2.2.2.2).bind fun x2=>match x2 with | (.inl x2)=>some (.inl ((w64 (s1.1+1)),x2.2.2.1,x2.2.2.2.1,x2.2.2.2.2,(Zy zE s1.2.2.2.2.1 s1.1 (s1.2.2.2.1.length:Int)),x2.1,x2.2.1)) | (.inr (.inl x2))=>some (.inl ((w64 (s1.1+1)),x2,s1.2.2.1,(s1.2.2.2.1++[(Zi.mk s1.1 0)]),(Zy zE s1.2.2.2.2.1 s1.1 (s1.2.2.2.1.length:Int)),(Zy zE s1.2.2.2.2.2.1 s1.1 (w64 ((List.length (s1.2.2.2.1++[(Zi.mk s1.1 0)]):Int)-1))),s1.2.2.2.2.2.2)) | (.inr (.inr x2))=>some (.inl ((w64 (s1.1+1)),s1.2.1,s1.2.2.1,s1.2.2.2.1,(Zy zE s1.2.2.2.2.1 s1.1 (s1.2.2.2.1.length:Int)),s1.2.2.2.2.2.1,s1.2.2.2.2.2.2)) else some (.inr (s1.2.1,s1.2.2.1,s1.2.2.2.1,s1.2.2.2.2.1,s1.2.2.2.2.2.1,s1.2.2.2.2.2.2))
def Zeo (a:Zj) (r3:(LI×(List Zo)×(List Zi)×(List (Int×Int))×(List (Int×Int))×(List (Zl×Int)))) (s4:Int×(List Zo)):Option ((Int×(List Zo))⊕(List Zo)):=bif (decide (s4.1<(a.edges.length:Int))) then (ZA a.edges s4.1).bind fun x5=>(ZP (Zae zE r3.2.2.2.2.1 x5.src 0) (Zae zE r3.2.2.2.1 x5.dst 0) s4.2).bind fun x6=>some (.inl ((w64 (s4.1+1)),(s4.2++[(Zo.mk (Zae zE r3.2.2.2.2.1 x5.src 0) (Zae zE r3.2.2.2.1 x5.dst 0))]))) else some (.inr s4.2)
def ZeF (a:Zj) (r3:(LI×(List Zo)×(List Zi)×(List (Int×Int))×(List (Int×Int))×(List (Zl×Int)))) (s8:Int×(List Zo)):Option ((Int×(List Zo))⊕(List Zo)):=bif (decide (s8.1<(a.futures.length:Int))) then (ZA a.futures s8.1).bind fun x9=>(ZP (Zae zE r3.2.2.2.2.1 x9.maker 0) (Zae (fun ka kb:Zl=>((ka.maker==kb.maker)&&((ka.user==kb.user)&&((ka.pos==kb.pos)&&true)))) r3.2.2.2.2.2 x9 0) s8.2).bind fun x10=>some (.inl ((w64 (s8.1+1)),(s8.2++[(Zo.mk (Zae zE r3.2.2.2.2.1 x9.maker 0) (Zae (fun ka kb:Zl=>((ka.maker==kb.maker)&&((ka.user==kb.user)&&((ka.pos==kb.pos)&&true)))) r3.2.2.2.2.2 x9 0))]))) else some (.inr s8.2)
def Zgh (r3:(LI×(List Zo)×(List Zi)×(List (Int×Int))×(List (Int×Int))×(List (Zl×Int)))) (s12:Int×LI×(List Zo)×(List Zi)) (x13:Zv) (s15:Int×(List Zo)):Option ((Int×(List Zo))⊕(List Zo)):=bif (decide (s15.1<(x13.ins.length:Int))) then (ZA x13.ins s15.1).bind fun x16=>(ZP (Zae zE r3.2.2.2.2.1 x16 0) (w64 ((List.length (s12.2.2.2++[(Zi.mk (-1) s12.1)]):Int)-1)) s15.2).bind fun x17=>some (.inl ((w64 (s15.1+1)),(s15.2++[(Zo.mk (Zae zE r3.2.2.2.2.1 x16 0) (w64 ((List.length (s12.2.2.2++[(Zi.mk (-1) s12.1)]):Int)-1)))]))) else some (.inr s15.2)
def Zgk (r3:(LI×(List Zo)×(List Zi)×(List (Int×Int))×(List (Int×Int))×(List (Zl×Int)))) (s12:Int×LI×(List Zo)×(List Zi)) (x13:Zv) (s19:Int×(List Zo)):Option ((Int×(List Zo))⊕(List Zo)):=bif (decide (s19.1<(x13.outs.length:Int))) then (ZA x13.outs s19.1).bind fun x20=>(ZP (w64 ((List.length (s12.2.2.2++[(Zi.mk (-1) s12.1)]):Int)-1)) (Zae zE r3.2.2.2.1 x20 0) s19.2).bind fun x21=>some (.inl ((w64 (s19.1+1)),(s19.2++[(Zo.mk (w64 ((List.length (s12.2.2.2++[(Zi.mk (-1) s12.1)]):Int)-1)) (Zae zE r3.2.2.2.1 x20 0))]))) else some (.inr s19.2)
def Zey (a:Zj) (r3:(LI×(List Zo)×(List Zi)×(List (Int×Int))×(List (Int×Int))×(List (Zl×Int)))) (s12:Int×LI×(List Zo)×(List Zi)):Option ((Int×LI×(List Zo)×(List Zi))⊕(LI×(List Zo)×(List Zi))):=bif (decide (s12.1<(a.barriers.length:Int))) then (ZA a.barriers s12.1).bind fun x13=>(ZaB (Zi.mk (-1) s12.1) 1 s12.2.1 s12.2.2.2).bind fun x14=>(lp (Zgh r3 s12 x13) (0,s12.2.2.1)).bind fun r18=>(lp (Zgk r3 s12 x13) (0,r18)).bind fun r22=>some (.inl ((w64 (s12.1+1)),(s12.2.1++[1]),r22,(s12.2.2.2++[(Zi.mk (-1) s12.1)]))) else some (.inr (s12.2.1,s12.2.2.1,s12.2.2.2))
def ZjC (a:Zj):Option (ZoC×Int):=(ZiQ a).bind fun x0=>bif (x0 != 0) then some ((ZoC.mk (Z5.mk ([]:LI) ([]:List Zo)) ([]:List Zi)),x0) else (lp (Zdm a) (0,([]:LI),([]:List Zo),([]:List Zi),([]:(List (Int×Int))),([]:(List (Int×Int))),([]:(List (Zl×Int))))).bind fun r3=>(lp (Zeo a r3) (0,r3.2.1)).bind fun r7=>(lp (ZeF a r3) (0,r7)).bind fun r11=>(lp (Zey a r3) (0,r3.1,r11,r3.2.2.1)).bind fun r23=>(Ziw (Z5.mk r23.1 r23.2.1)).bind fun x24=>bif (x24 != 0) then some ((ZoC.mk (Z5.mk ([]:LI) ([]:List Zo)) ([]:List Zi)),70) else some ((ZoC.mk (Z5.mk r23.1 r23.2.1) r23.2.2),0)
def Zhq (a:Z5) (s1:Int×Int):Option ((Int×Int)⊕Int):=bif (decide (s1.2<(a.work.length:Int))) then (ZA a.work s1.2).bind fun x2=>some (.inl ((w64 (s1.1+x2)),(w64 (s1.2+1)))) else some (.inr s1.1)
def ZlY (a:Z5):Option Int:=(Ziw a).bind fun x0=>bif (x0==0) then (lp (Zhq a) (0,0)).bind fun r3=>some r3 else some 0
def Zl3 (a:Z5):Option LI:=(Ziw a).bind fun x0=>bif (x0 != 0) then some ([]:LI) else (Zhp a).bind fun x1=>bif x1.2 then some x1.1 else some x1.1
def Zg7 (a:Zo) (b0:Int):Option (Int×Bool):=bif (a.dst==b0) then some (a.src,true) else some (a.src,false)
def ZdK (mH:LI):Option LI:=bif (Nat.ble (mH.length) lim) then (some (sortI mH)).bind fun x0=>some x0 else none
def ZiO (a:Z5) (b:(Zo->Option (Int×Bool))) (s0:Int×LI):Option ((Int×LI)⊕LI):=bif (decide (s0.1<(a.edges.length:Int))) then (ZA a.edges s0.1).bind fun x1=>(b x1).bind fun x2=>bif x2.2 then bif (Nat.ble (s0.2.length+1) lim) then some (.inl ((w64 (s0.1+1)),(s0.2++[x2.1]))) else none else some (.inl ((w64 (s0.1+1)),s0.2)) else some (.inr s0.2)
def ZsF (a:Z5) (b:(Zo->Option (Int×Bool))):Option LI:=(lp (ZiO a b) (0,([]:LI))).bind fun r3=>(ZdK r3).bind fun x4=>some x4
def Zl9 (a:Z5) (b:Int):Option LI:=(ZsF a (fun z0=>Zg7 z0 b)).bind fun x0=>some x0
def Zha (x2:Int) (x3:LI) (s4:Int×LI):Option ((Int×LI)⊕LI):=bif (decide (s4.1<(x3.length:Int))) then (ZA x3 s4.1).bind fun x5=>(ZA s4.2 x2).bind fun x6=>(ZA s4.2 x5).bind fun x7=>some (.inl ((w64 (s4.1+1)),(List.set s4.2 x2.toNat (bif decide (x6<x7) then x7 else x6)))) else some (.inr s4.2)
def Zhf (a:Z5) (x0:LI) (s1:Int×Int×LI):Option ((Int×Int×LI)⊕Int):=bif (decide (s1.2.1<(x0.length:Int))) then (ZA x0 s1.2.1).bind fun x2=>(Zl9 a x2).bind fun x3=>(lp (Zha x2 x3) (0,s1.2.2)).bind fun r8=>(ZA r8 x2).bind fun x9=>(ZA a.work x2).bind fun x10=>(ZA (List.set r8 x2.toNat (w64 (x9+x10))) x2).bind fun x11=>some (.inl ((bif decide (s1.1<x11) then x11 else s1.1),(w64 (s1.2.1+1)),(List.set r8 x2.toNat (w64 (x9+x10))))) else some (.inr s1.1)
def Zny (a:Z5):Option Int:=bif (decide (0<=(a.work.length:Int))&&decide ((a.work.length:Int)<=lim)&&decide ((a.work.length:Int)==(a.work.length:Int))) then (Zl3 a).bind fun x0=>(lp (Zhf a x0) (0,0,(List.replicate (a.work.length:Int).toNat (0:Int)))).bind fun r12=>some r12 else none
def ZbE (a:LI) (s1:Int×Int):Option ((Int×Int)⊕Int):=bif (decide (s1.2<(a.length:Int))) then (ZA a s1.2).bind fun x2=>some (.inl ((bif decide (s1.1<x2) then x2 else s1.1),(w64 (s1.2+1)))) else some (.inr s1.1)
def Zcf (a:LI):Option Int:=bif (decide ((a.length:Int)<1)) then none else (ZA a 0).bind fun x0=>(lp (ZbE a) (x0,1)).bind fun r3=>some r3
def Zdq (a:Zj):Option (Zf×Int):=(ZjC a).bind fun x0=>bif (x0.2 != 0) then some ((Zf.mk 0 0 0 0 0),x0.2) else (ZlY x0.1.dag).bind fun x1=>(Zny x0.1.dag).bind fun x2=>(Zcf x0.1.dag.work).bind fun x3=>some ((Zf.mk x1 x2 x3 a.deadline a.period),0)
def ZdU (a b:Int):Option Bool:=bif (decide (1<=a)) then bif (decide (a<=b)) then some true else some false else some false
def Zg8 (a:Zf):Option Int:=(ZmO a.period).bind fun x0=>bif x0.2 then bif (decide (4096<a.period)) then some 140 else (ZdU a.deadline a.period).bind fun x1=>bif x1 then (ZdU a.total 4096).bind fun x2=>bif x2 then (ZdU a.long a.total).bind fun x3=>bif x3 then (ZdU a.most a.long).bind fun x4=>bif x4 then some 0 else some 140 else some 140 else some 140 else some 140 else some 140
def Zlk (a:Zf):Option (Unit⊕Unit):=bif (decide (a.deadline<a.total)) then some (.inl ()) else some (.inr ())
def Zlr (a0:Int):Option Int:=some (w64 (a0-1))
def Zdp (a:Int):Option Bool:=(Ziu a).bind fun x0=>bif (x0 != 0) then some true else some false
def Zmv (a:LI):Option Int:=(ZaN a (fun z0=>Zdp z0)).bind fun x0=>bif (decide (x0<0)) then some 0 else (ZA a x0).bind fun x1=>(Ziu x1).bind fun x2=>some x2
def ZiU (a b:Int) (c:(Option Int)):Option (Int×Int):=(Zmv [a,b]).bind fun x0=>bif (x0 != 0) then some (0,x0) else bif (b==0) then some (0,12) else (c).bind fun x1=>bif (b==0) then none else some ((w64 (Int.tdiv (w64 (a+x1)) b)),0)
def ZmJ (a b:Int):Option (Int×Int):=(ZiU a b (Zlr b)).bind fun x0=>some (x0.1,x0.2)
def ZeW (a:ZxV):Option ZiK:=bif (decide (a.shape.deadline<=a.shape.long)) then some (ZiK.mk 0 141) else (ZmJ (w64 (a.shape.total-a.shape.long)) (w64 (a.shape.deadline-a.shape.long))).bind fun x0=>bif (x0.2==0) then bif (decide (8<x0.1)) then some (ZiK.mk 0 142) else some (ZiK.mk x0.1 x0.2) else some (ZiK.mk x0.1 x0.2)
def Zdn (a:Ztg):Option ZiK:=some (ZiK.mk 1 0)
def Zh3 (a:Zf):Option (Int×Int):=(Zg8 a).bind fun x0=>bif (x0 != 0) then some (0,x0) else (Zlk a).bind fun x1=>match x1 with | (.inl x1)=>(ZeW (ZxV.mk a)).bind fun x2=>some (x2.cores,x2.e) | (.inr x1)=>(Zdn (Ztg.mk a)).bind fun x3=>some (x3.cores,x3.e)
def ZaZ (a:List Zj) (s0:Int×(List Zf)):Option ((Int×(List Zf))⊕((Int×(List Zf))⊕(List Zf))):=bif (decide (s0.1<(a.length:Int))) then (ZA a s0.1).bind fun x1=>(Zdq x1).bind fun x2=>bif (x2.2 != 0) then some (.inr (.inl (x2.2,s0.2))) else bif (Nat.ble (s0.2.length+1) lim) then some (.inl ((w64 (s0.1+1)),(s0.2++[x2.1]))) else none else some (.inr (.inr s0.2))
def Zcs (r3:List Zf) (s4:Int):Option (Int⊕(Int⊕Unit)):=bif (decide (s4<(r3.length:Int))) then (ZA r3 s4).bind fun x5=>(Zh3 x5).bind fun x6=>bif (x6.2 != 0) then some (.inr (.inl x6.2)) else some (.inl (w64 (s4+1))) else some (.inr (.inr ()))
def ZiJ (a:List Zj):Option ((List Zf)×Int):=(lp (ZaZ a) (0,([]:List Zf))).bind fun r3=>match r3 with | (.inl r3)=>some (([]:List Zf),r3.1) | (.inr r3)=>(lp (Zcs r3) 0).bind fun r7=>match r7 with | (.inl r7)=>some (([]:List Zf),r7) | (.inr r7)=>some (r3,0)
def Zkv (a:Int):Option Unit:=bif (decide (0<=a)&&decide (a<=1000)) then some () else none
def ZfW (a:Zf):Option Bool:=(Zg8 a).bind fun x0=>bif (x0==0) then (Zlk a).bind fun x1=>match x1 with | (.inl x1)=>(ZeW (ZxV.mk a)).bind fun x2=>(Zdn (Ztg.mk a)).bind fun x3=>bif (!((x2.cores==x3.cores)&&((x2.e==x3.e)&&true))) then some true else some false | (.inr x1)=>(Zdn (Ztg.mk a)).bind fun x4=>(Zdn (Ztg.mk a)).bind fun x5=>bif (!((x4.cores==x5.cores)&&((x4.e==x5.e)&&true))) then some true else some false else some false
def Zn8 (b:Int) (mH:LI):Option (Unit⊕Unit):=bif (decide (0<=b)&&decide (b<=1000)) then bif (Nat.ble b.toNat (mH.length)) then some (.inl ()) else some (.inr ()) else none
def Zds (a:Zf):Option Bool:=(Zg8 a).bind fun x0=>bif (x0 != 0) then some true else (ZfW a).bind fun x1=>bif x1 then some true else some false
def ZaV (a:List Zf) (b:(Zf->Option Bool)) (s0:Int):Option (Int⊕(Int⊕Unit)):=bif (decide (s0<(a.length:Int))) then (ZA a s0).bind fun x1=>(b x1).bind fun x2=>bif x2 then some (.inr (.inl s0)) else some (.inl (w64 (s0+1))) else some (.inr (.inr ()))
def ZcW (a:List Zf) (b:(Zf->Option Bool)):Option Int:=(lp (ZaV a b) 0).bind fun r3=>match r3 with | (.inl r3)=>some r3 | (.inr r3)=>some (-1)
def Zbx (a:List Zf) (b:(Zf->Option Bool)):Option Bool:=(ZcW a b).bind fun x0=>bif (decide (0<=x0)) then some true else some false
def Zix (a:List Zf):Option Int:=bif (decide (8<(a.length:Int))) then some 150 else (Zbx a (fun z0=>Zds z0)).bind fun x0=>bif x0 then some 150 else some 0
def Zjz (a:Int):Option Bool:=bif (decide (0<=a)) then bif (decide (a<=8)) then some true else some false else some false
def ZE (a b:Int) (c0:List Zf):Option Int:=(ZA c0 a).bind fun x0=>(ZA c0 b).bind fun x1=>bif (decide (x1.total<x0.total)) then some (-1) else bif (decide (x0.total<x1.total)) then some 1 else some (w64 (a-b))
def Zfw (a:List Zf) (s0:Int×LI):Option ((Int×LI)⊕LI):=bif (decide (s0.1<(a.length:Int))) then bif (Nat.ble (s0.2.length+1) lim) then some (.inl ((w64 (s0.1+1)),(s0.2++[s0.1]))) else none else some (.inr s0.2)
def ZgP (a:List Zf):Option LI:=(lp (Zfw a) (0,([]:LI))).bind fun r1=>(Zay (fun z0 z1=>ZE z0 z1 a) r1).bind fun x2=>some x2
def ZgI (a:List Zf) (b:LI) (c:Int) (s0:Int×(List Zf)):Option ((Int×(List Zf))⊕(List Zf)):=bif (decide (s0.1<(a.length:Int))) then (ZA a s0.1).bind fun x1=>bif (decide (s0.1<(b.length:Int))) then (ZA b s0.1).bind fun x2=>bif (x2==c) then bif (Nat.ble (s0.2.length+1) lim) then some (.inl ((w64 (s0.1+1)),(s0.2++[x1]))) else none else some (.inl ((w64 (s0.1+1)),s0.2)) else some (.inl ((w64 (s0.1+1)),s0.2)) else some (.inr s0.2)
def Zpu (a:List Zf) (b:LI) (c:Int):Option (List Zf):=(lp (ZgI a b c) (0,([]:List Zf))).bind fun r3=>some r3
def ZdN (a:Int) (b:Zf):Option Int:=some (bif decide (a<b.period) then b.period else a)
def Zej (a:List Zf) (b:(Int->Zf->Option Int)) (s0:Int×Int):Option ((Int×Int)⊕Int):=bif (decide (s0.2<(a.length:Int))) then (ZA a s0.2).bind fun x1=>(b s0.1 x1).bind fun x2=>some (.inl (x2,(w64 (s0.2+1)))) else some (.inr s0.1)
def ZhB (a:List Zf) (b:(Int->Zf->Option Int)):Option Int:=(lp (Zej a b) (0,0)).bind fun r3=>some r3
def ZjE (a:List Zf):Option Int:=(Zix a).bind fun x0=>bif (x0 != 0) then some 0 else (ZhB a (fun z0 z1=>ZdN z0 z1)).bind fun x1=>some x1
def ZeO (a:Int) (b:Zf) (c0:Int):Option Int:=bif (decide (c0<b.deadline)) then some a else bif (b.period==0) then none else some (w64 (a+(w64 (b.total*(w64 ((w64 (Int.tdiv (w64 (c0-b.deadline)) b.period))+1))))))
def Zkt (a:List Zf) (b:Int):Option Int:=(ZhB a (fun z0 z1=>ZeO z0 z1 b)).bind fun x0=>some x0
def ZfU (a:Int) (b:Zf) (c0:Int):Option Int:=bif (decide (c0<b.deadline)) then some (bif decide (a<b.most) then b.most else a) else some a
def Zmr (a:List Zf) (b:Int):Option Int:=(ZhB a (fun z0 z1=>ZfU z0 z1 b)).bind fun x0=>some x0
def Zhc (a:List Zf) (x2:Zf) (s3:Int):Option (Int⊕(Unit⊕Unit)):=(ZjE a).bind fun x4=>bif (decide (s3<=x4)) then (Zkt a s3).bind fun x5=>(Zmr a s3).bind fun x6=>bif (decide (s3<(w64 (x5+x6)))) then some (.inr (.inl ())) else some (.inl (w64 (s3+x2.period))) else some (.inr (.inr ()))
def Zic (a:List Zf) (s1:Int):Option (Int⊕(Unit⊕Unit)):=bif (decide (s1<(a.length:Int))) then (ZA a s1).bind fun x2=>(lp (Zhc a x2) x2.deadline).bind fun r7=>match r7 with | (.inl r7)=>some (.inr (.inl ())) | (.inr r7)=>some (.inl (w64 (s1+1))) else some (.inr (.inr ()))
def ZnD (a:List Zf):Option Bool:=(Zix a).bind fun x0=>bif (x0 != 0) then some false else (lp (Zic a) 0).bind fun r8=>match r8 with | (.inl r8)=>some false | (.inr r8)=>some true
def Zk0 (a mA:Int) (mJ:List Zf) (mI:LI):Option (Unit⊕Unit):=(ZA mI mA).bind fun x0=>(Zpu mJ (List.set mI mA.toNat a) a).bind fun x1=>(ZnD x1).bind fun x2=>bif x2 then some (.inl ()) else some (.inr ())
def Zfu (a:List Zf) (s2:Int×LI):Option ((Int×LI)⊕LI):=bif (decide (s2.1<(List.length (List.replicate (a.length:Int).toNat (0:Int)):Int))) then (ZA s2.2 s2.1).bind fun x3=>some (.inl ((w64 (s2.1+1)),(List.set s2.2 s2.1.toNat (-1)))) else some (.inr s2.2)
def Zfv (a:List Zf) (b x7:Int) (s8:Int×LI):Option ((Int×LI)⊕(LI⊕LI)):=bif (decide (s8.1<b)) then (Zk0 s8.1 x7 a s8.2).bind fun x9=>match x9 with | (.inl x9)=>some (.inr (.inl (List.set s8.2 x7.toNat s8.1))) | (.inr x9)=>some (.inl ((w64 (s8.1+1)),(List.set s8.2 x7.toNat s8.1))) else some (.inr (.inr s8.2))
def Zfz (a:List Zf) (b:Int) (x5:LI) (s6:Int×LI):Option ((Int×LI)⊕(LI⊕LI)):=bif (decide (s6.1<(x5.length:Int))) then (ZA x5 s6.1).bind fun x7=>(lp (Zfv a b x7) (0,s6.2)).bind fun r10=>match r10 with | (.inl r10)=>some (.inl ((w64 (s6.1+1)),r10)) | (.inr r10)=>some (.inr (.inl r10)) else some (.inr (.inr s6.2))
def ZiP (a:List Zf) (b:Int):Option (LI×Int):=(Zix a).bind fun x0=>bif (x0 != 0) then some (([]:LI),160) else (Zjz b).bind fun x1=>bif x1 then bif (decide (0<=(a.length:Int))&&decide ((a.length:Int)<=lim)&&decide ((a.length:Int)==(a.length:Int))) then (lp (Zfu a) (0,(List.replicate (a.length:Int).toNat (0:Int)))).bind fun r4=>(ZgP a).bind fun x5=>(lp (Zfz a b x5) (0,r4)).bind fun r11=>match r11 with | (.inl r11)=>some (([]:LI),161) | (.inr r11)=>some (r11,0) else none else some (([]:LI),160)
def ZcL (x0:((List Zf)×Int)) (s2:Int×LI×(List Zf)×(List LI)):Option ((Int×LI×(List Zf)×(List LI))⊕(((List Zf)×(List LI))⊕(LI×(List Zf)×(List LI)))):=bif (decide (s2.1<(x0.1.length:Int))) then (ZA x0.1 s2.1).bind fun x3=>(ZfW x3).bind fun x4=>bif x4 then (Zh3 x3).bind fun x5=>(Zn8 x5.1 s2.2.1).bind fun x6=>match x6 with | (.inl x6)=>(ZA s2.2.2.2 s2.1).bind fun x7=>some (.inl ((w64 (s2.1+1)),(List.drop x5.1.toNat s2.2.1),s2.2.2.1,(List.set s2.2.2.2 s2.1.toNat (List.take x5.1.toNat s2.2.1)))) | (.inr x6)=>some (.inr (.inl (s2.2.2.1,s2.2.2.2))) else bif (Nat.ble (s2.2.2.1.length+1) lim) then some (.inl ((w64 (s2.1+1)),s2.2.1,(s2.2.2.1++[x3]),s2.2.2.2)) else none else some (.inr (.inr (s2.2.1,s2.2.2.1,s2.2.2.2)))
def Zer (b:Int) (x0:((List Zf)×Int)) (r8:(LI×(List Zf)×(List LI))) (s10:LI×Int×(List LI)):Option ((LI×Int×(List LI))⊕(List LI)):=bif (decide (s10.2.1<(x0.1.length:Int))) then (ZA x0.1 s10.2.1).bind fun x11=>(ZfW x11).bind fun x12=>bif x12 then some (.inl (s10.1,(w64 (s10.2.1+1)),s10.2.2)) else (ZA s10.1 0).bind fun x13=>bif (Nat.ble 1 (s10.1.length)) then (ZA s10.2.2 s10.2.1).bind fun x14=>some (.inl ((List.drop 1 s10.1),(w64 (s10.2.1+1)),(List.set s10.2.2 s10.2.1.toNat [(w64 ((w64 (b-(r8.1.length:Int)))+x13))]))) else none else some (.inr s10.2.2)
def ZjA (a:List Zj) (b:Int):Option (ZfM×Int):=bif (decide (8<(a.length:Int))) then some ((ZfM.mk ([]:List Zf) ([]:List LI)),170) else bif (decide (b<1)) then some ((ZfM.mk ([]:List Zf) ([]:List LI)),170) else bif (decide (8<b)) then some ((ZfM.mk ([]:List Zf) ([]:List LI)),170) else (ZiJ a).bind fun x0=>bif (x0.2 != 0) then some ((ZfM.mk ([]:List Zf) ([]:List LI)),x0.2) else bif (decide (0<=(x0.1.length:Int))&&decide ((x0.1.length:Int)<=lim)&&decide ((x0.1.length:Int)==(x0.1.length:Int))) then (Zkv b).bind fun x1=>(lp (ZcL x0) (0,(ZdO b),([]:List Zf),(List.replicate (x0.1.length:Int).toNat (([]:LI):LI)))).bind fun r8=>match r8 with | (.inl r8)=>some ((ZfM.mk ([]:List Zf) ([]:List LI)),171) | (.inr r8)=>(ZiP r8.2.1 (r8.1.length:Int)).bind fun x9=>bif (x9.2 != 0) then some ((ZfM.mk ([]:List Zf) ([]:List LI)),171) else (lp (Zer b x0 r8) (x9.1,0,r8.2.2)).bind fun r15=>some ((ZfM.mk x0.1 r15),0) else none
def ZdA (a:Int) (s0:Int×Int):Option ((Int×Int)⊕(Int⊕Unit)):=bif (decide (s0.2<40)) then bif (s0.1==a) then some (.inr (.inl s0.2)) else some (.inl ((w64 (2*s0.1)),(w64 (s0.2+1)))) else some (.inr (.inr ()))
def ZjU (a:Int):Option (Int×Bool):=(lp (ZdA a) (1,0)).bind fun r1=>match r1 with | (.inl r1)=>some (r1,true) | (.inr r1)=>some (0,false)
def ZkF (a:Zj):Option Bool:=(ZjU a.period).bind fun x0=>bif x0.2 then bif (decide (a.period<=4096)) then bif (decide (1<=a.deadline)) then bif (decide (a.deadline<=a.period)) then some true else some false else some false else some false else some false
def Zgo (a:Zj) (s0:Int):Option (Int⊕(Unit⊕Unit)):=bif (decide (s0<(a.parts.length:Int))) then (ZA a.parts s0).bind fun x1=>bif (decide (x1.op<0)) then some (.inr (.inl ())) else bif (decide (5<x1.op)) then some (.inr (.inl ())) else bif (decide (x1.arg<0)) then some (.inr (.inl ())) else bif (decide (2147483647<x1.arg)) then some (.inr (.inl ())) else bif (decide (x1.work<1)) then some (.inr (.inl ())) else bif (decide (100<x1.work)) then some (.inr (.inl ())) else some (.inl (w64 (s0+1))) else some (.inr (.inr ()))
def ZjF (a:Zj):Option Bool:=(lp (Zgo a) 0).bind fun r2=>match r2 with | (.inl r2)=>some false | (.inr r2)=>some true
def ZfR (a:Zj) (b:Int):Option Bool:=bif (decide (0<=b)) then bif (decide (b<(a.parts.length:Int))) then some true else some false else some false
def Zgp (a:Zj) (s0:Int) (x1:Zo) (s4:Int):Option (Int⊕(Unit⊕Unit)):=bif (decide (s4<s0)) then (ZA a.edges s4).bind fun x5=>bif (x5.src==x1.src) then bif (x5.dst==x1.dst) then some (.inr (.inl ())) else some (.inl (w64 (s4+1))) else some (.inl (w64 (s4+1))) else some (.inr (.inr ()))
def Zgu (a:Zj) (s0:Int):Option (Int⊕(Unit⊕Unit)):=bif (decide (s0<(a.edges.length:Int))) then (ZA a.edges s0).bind fun x1=>(ZfR a x1.src).bind fun x2=>bif x2 then (ZfR a x1.dst).bind fun x3=>bif x3 then bif (x1.src==x1.dst) then some (.inr (.inl ())) else (lp (Zgp a s0 x1) 0).bind fun r6=>match r6 with | (.inl r6)=>some (.inr (.inl ())) | (.inr r6)=>some (.inl (w64 (s0+1))) else some (.inr (.inl ())) else some (.inr (.inl ())) else some (.inr (.inr ()))
def Zjy (a:Zj):Option Bool:=(lp (Zgu a) 0).bind fun r7=>match r7 with | (.inl r7)=>some false | (.inr r7)=>some true
def ZeY (a:Zj) (s0:Int) (x1:Zl) (s5:Int):Option (Int⊕(Unit⊕Unit)):=bif (decide (s5<s0)) then (ZA a.futures s5).bind fun x6=>bif (x6.user==x1.user) then bif (x6.pos==x1.pos) then some (.inr (.inl ())) else some (.inl (w64 (s5+1))) else some (.inl (w64 (s5+1))) else some (.inr (.inr ()))
def Ze1 (a:Zj) (s0:Int):Option (Int⊕(Unit⊕Unit)):=bif (decide (s0<(a.futures.length:Int))) then (ZA a.futures s0).bind fun x1=>(ZfR a x1.maker).bind fun x2=>bif x2 then (ZfR a x1.user).bind fun x3=>bif x3 then bif (x1.maker==x1.user) then some (.inr (.inl ())) else bif (decide (x1.pos<1)) then some (.inr (.inl ())) else (ZA a.parts x1.user).bind fun x4=>bif (decide (x4.work<=x1.pos)) then some (.inr (.inl ())) else (lp (ZeY a s0 x1) 0).bind fun r7=>match r7 with | (.inl r7)=>some (.inr (.inl ())) | (.inr r7)=>some (.inl (w64 (s0+1))) else some (.inr (.inl ())) else some (.inr (.inl ())) else some (.inr (.inr ()))
def Zig (a:Zj):Option Bool:=(lp (Ze1 a) 0).bind fun r8=>match r8 with | (.inl r8)=>some false | (.inr r8)=>some true
def ZhJ (a:Zj) (b:LI) (s0:Int):Option (Int⊕(Unit⊕Unit)):=bif (decide (s0<(b.length:Int))) then (ZA b s0).bind fun x1=>(ZfR a x1).bind fun x2=>bif x2 then bif (decide (0<s0)) then (ZA b (w64 (s0-1))).bind fun x3=>bif (decide (x1<=x3)) then some (.inr (.inl ())) else some (.inl (w64 (s0+1))) else some (.inl (w64 (s0+1))) else some (.inr (.inl ())) else some (.inr (.inr ()))
def ZjV (a:Zj) (b:LI):Option Bool:=(lp (ZhJ a b) 0).bind fun r4=>match r4 with | (.inl r4)=>some false | (.inr r4)=>bif (decide (0<(b.length:Int))) then some true else some false
def ZhE (a:LI) (b s0:Int):Option (Int⊕(Unit⊕Unit)):=bif (decide (s0<(a.length:Int))) then (ZA a s0).bind fun x1=>bif (x1==b) then some (.inr (.inl ())) else some (.inl (w64 (s0+1))) else some (.inr (.inr ()))
def ZjQ (a:LI) (b:Int):Option Bool:=(lp (ZhE a b) 0).bind fun r2=>match r2 with | (.inl r2)=>some true | (.inr r2)=>some false
def Zd3 (x1:Zv) (s4:Int):Option (Int⊕(Unit⊕Unit)):=bif (decide (s4<(x1.ins.length:Int))) then (ZA x1.ins s4).bind fun x5=>(ZjQ x1.outs x5).bind fun x6=>bif x6 then some (.inr (.inl ())) else some (.inl (w64 (s4+1))) else some (.inr (.inr ()))
def Zd4 (a:Zj) (s0:Int):Option (Int⊕(Unit⊕Unit)):=bif (decide (s0<(a.barriers.length:Int))) then (ZA a.barriers s0).bind fun x1=>(ZjV a x1.ins).bind fun x2=>bif x2 then (ZjV a x1.outs).bind fun x3=>bif x3 then (lp (Zd3 x1) 0).bind fun r7=>match r7 with | (.inl r7)=>some (.inr (.inl ())) | (.inr r7)=>some (.inl (w64 (s0+1))) else some (.inr (.inl ())) else some (.inr (.inl ())) else some (.inr (.inr ()))
def ZhN (a:Zj):Option Bool:=(lp (Zd4 a) 0).bind fun r8=>match r8 with | (.inl r8)=>some false | (.inr r8)=>some true
def Zjx (a:Zj):Option Int:=bif (decide ((a.parts.length:Int)<1)) then some 50 else bif (decide (16<(a.parts.length:Int))) then some 50 else bif (decide (48<(a.edges.length:Int))) then some 50 else bif (decide (16<(a.futures.length:Int))) then some 50 else bif (decide (4<(a.barriers.length:Int))) then some 50 else (ZkF a).bind fun x0=>bif x0 then (ZjF a).bind fun x1=>bif x1 then (Zjy a).bind fun x2=>bif x2 then (Zig a).bind fun x3=>bif x3 then (ZhN a).bind fun x4=>bif x4 then some 0 else some 55 else some 54 else some 53 else some 52 else some 51
def Zdg (a:Zj) (b:Int) (s0:Int×LI) (s1:Int×LI):Option ((Int×LI)⊕LI):=bif (decide (s1.1<(a.futures.length:Int))) then (ZA a.futures s1.1).bind fun x2=>bif (x2.user==b) then bif (x2.pos==s0.1) then bif (Nat.ble (s1.2.length+1) lim) then some (.inl ((w64 (s1.1+1)),(s1.2++[s1.1]))) else none else some (.inl ((w64 (s1.1+1)),s1.2)) else some (.inl ((w64 (s1.1+1)),s1.2)) else some (.inr s1.2)
def ZgR (a:Zj) (b:Int) (s0:Int×LI):Option ((Int×LI)⊕LI):=bif (decide (s0.1<100)) then (lp (Zdg a b s0) (0,s0.2)).bind fun r3=>some (.inl ((w64 (s0.1+1)),r3)) else some (.inr s0.2)
def ZfG (a:Zj) (b:Int):Option LI:=(lp (ZgR a b) (1,([]:LI))).bind fun r4=>some r4
def ZeG (a:Zj) (x0:LI) (s1:Int×Int×LI):Option ((Int×Int×LI)⊕(Int×LI)):=bif (decide (s1.2.1<(x0.length:Int))) then (ZA x0 s1.2.1).bind fun x2=>(ZA a.futures x2).bind fun x3=>bif (Nat.ble (s1.2.2.length+1) lim) then some (.inl (x3.pos,(w64 (s1.2.1+1)),(s1.2.2++[(w64 (x3.pos-s1.1))]))) else none else some (.inr (s1.1,s1.2.2))
def Zia (a:Zj) (b:Int):Option LI:=(ZfG a b).bind fun x0=>(lp (ZeG a x0) (0,0,([]:LI))).bind fun r4=>(ZA a.parts b).bind fun x5=>bif (Nat.ble (r4.2.length+1) lim) then some (r4.2++[(w64 (x5.work-r4.1))]) else none
def Zeu (a:Zj) (b:Int) (s0:Int×Int):Option ((Int×Int)⊕Int):=bif (decide (s0.2<b)) then (Zia a s0.2).bind fun x1=>some (.inl ((w64 (s0.1+(x1.length:Int))),(w64 (s0.2+1)))) else some (.inr s0.1)
def ZcT (a:Zj) (b:Int):Option Int:=(lp (Zeu a b) (0,0)).bind fun r2=>some r2
def Zhd (a:Zj) (b:Int):Option Int:=(ZcT a (w64 (b+1))).bind fun x0=>some (w64 (x0-1))
def Zgy (a:Zj) (b:Zl) (x0:LI) (s1:Int):Option (Int⊕(Int⊕Unit)):=bif (decide (s1<(x0.length:Int))) then (ZA x0 s1).bind fun x2=>(ZA a.futures x2).bind fun x3=>bif (x3.pos==b.pos) then (ZcT a b.user).bind fun x4=>some (.inr (.inl (w64 ((w64 (x4+s1))+1)))) else some (.inl (w64 (s1+1))) else some (.inr (.inr ()))
def ZjH (a:Zj) (b:Zl):Option Int:=(ZfG a b.user).bind fun x0=>(lp (Zgy a b x0) 0).bind fun r5=>match r5 with | (.inl r5)=>some r5 | (.inr r5)=>some (-1)
def Zev (a:Zj) (s0:Int×(List Zo)×LI×(List Zi)) (x1:LI) (s2:Int×(List Zo)×LI×(List Zi)):Option ((Int×(List Zo)×LI×(List Zi))⊕((List Zo)×LI×(List Zi))):=bif (decide (s2.1<(x1.length:Int))) then bif (Nat.ble (s2.2.2.2.length+1) lim) then (ZA x1 s2.1).bind fun x3=>bif (Nat.ble (s2.2.2.1.length+1) lim) then bif (decide (0<s2.1)) then (ZcT a s0.1).bind fun x4=>(ZcT a s0.1).bind fun x5=>bif (Nat.ble (s2.2.1.length+1) lim) then some (.inl ((w64 (s2.1+1)),(s2.2.1++[(Zo.mk (w64 ((w64 (x4+s2.1))-1)) (w64 (x5+s2.1)))]),(s2.2.2.1++[x3]),(s2.2.2.2++[(Zi.mk s0.1 s2.1)]))) else none else some (.inl ((w64 (s2.1+1)),s2.2.1,(s2.2.2.1++[x3]),(s2.2.2.2++[(Zi.mk s0.1 s2.1)]))) else none else none else some (.inr (s2.2.1,s2.2.2.1,s2.2.2.2))
def ZeH (a:Zj) (s0:Int×(List Zo)×LI×(List Zi)):Option ((Int×(List Zo)×LI×(List Zi))⊕((List Zo)×LI×(List Zi))):=bif (decide (s0.1<(a.parts.length:Int))) then (Zia a s0.1).bind fun x1=>(lp (Zev a s0 x1) (0,s0.2.1,s0.2.2.1,s0.2.2.2)).bind fun r6=>some (.inl ((w64 (s0.1+1)),r6.1,r6.2.1,r6.2.2)) else some (.inr (s0.2.1,s0.2.2.1,s0.2.2.2))
def ZeD (a:Zj) (s8:Int×(List Zo)):Option ((Int×(List Zo))⊕(List Zo)):=bif (decide (s8.1<(a.edges.length:Int))) then (ZA a.edges s8.1).bind fun x9=>(Zhd a x9.src).bind fun x10=>(ZcT a x9.dst).bind fun x11=>bif (Nat.ble (s8.2.length+1) lim) then some (.inl ((w64 (s8.1+1)),(s8.2++[(Zo.mk x10 x11)]))) else none else some (.inr s8.2)
def Zep (a:Zj) (s13:Int×(List Zo)):Option ((Int×(List Zo))⊕(List Zo)):=bif (decide (s13.1<(a.futures.length:Int))) then (ZA a.futures s13.1).bind fun x14=>(Zhd a x14.maker).bind fun x15=>(ZjH a x14).bind fun x16=>bif (Nat.ble (s13.2.length+1) lim) then some (.inl ((w64 (s13.1+1)),(s13.2++[(Zo.mk x15 x16)]))) else none else some (.inr s13.2)
def ZgE (a:Zj) (s18:Int×(List Zo)×LI×(List Zi)) (x19:Zv) (s20:Int×(List Zo)):Option ((Int×(List Zo))⊕(List Zo)):=bif (decide (s20.1<(x19.ins.length:Int))) then (ZA x19.ins s20.1).bind fun x21=>(Zhd a x21).bind fun x22=>bif (Nat.ble (s20.2.length+1) lim) then some (.inl ((w64 (s20.1+1)),(s20.2++[(Zo.mk x22 (s18.2.2.2.length:Int))]))) else none else some (.inr s20.2)
def Zgb (a:Zj) (s18:Int×(List Zo)×LI×(List Zi)) (x19:Zv) (s24:Int×(List Zo)):Option ((Int×(List Zo))⊕(List Zo)):=bif (decide (s24.1<(x19.outs.length:Int))) then (ZA x19.outs s24.1).bind fun x25=>(ZcT a x25).bind fun x26=>bif (Nat.ble (s24.2.length+1) lim) then some (.inl ((w64 (s24.1+1)),(s24.2++[(Zo.mk (s18.2.2.2.length:Int) x26)]))) else none else some (.inr s24.2)
def Zen (a:Zj) (s18:Int×(List Zo)×LI×(List Zi)):Option ((Int×(List Zo)×LI×(List Zi))⊕((List Zo)×LI×(List Zi))):=bif (decide (s18.1<(a.barriers.length:Int))) then bif (Nat.ble (s18.2.2.2.length+1) lim) then bif (Nat.ble (s18.2.2.1.length+1) lim) then (ZA a.barriers s18.1).bind fun x19=>(lp (ZgE a s18 x19) (0,s18.2.1)).bind fun r23=>(lp (Zgb a s18 x19) (0,r23)).bind fun r27=>some (.inl ((w64 (s18.1+1)),r27,(s18.2.2.1++[1]),(s18.2.2.2++[(Zi.mk (-1) s18.1)]))) else none else none else some (.inr (s18.2.1,s18.2.2.1,s18.2.2.2))
def Zjt (a:Zj):Option ZoC:=(lp (ZeH a) (0,([]:List Zo),([]:LI),([]:List Zi))).bind fun r7=>(lp (ZeD a) (0,r7.1)).bind fun r12=>(lp (Zep a) (0,r12)).bind fun r17=>(lp (Zen a) (0,r17,r7.2.1,r7.2.2)).bind fun r28=>some (ZoC.mk (Z5.mk r28.2.1 r28.1) r28.2.2)
def ZiF (a:Z5) (b:Int):Option Bool:=bif (decide (0<=b)) then bif (decide (b<(a.work.length:Int))) then some true else some false else some false
def Zgc (a:Z5) (s0:Int):Option (Int⊕(Unit⊕Unit)):=bif (decide (s0<(a.work.length:Int))) then (ZA a.work s0).bind fun x1=>bif (decide (x1<0)) then some (.inr (.inl ())) else bif (decide (1000<x1)) then some (.inr (.inl ())) else some (.inl (w64 (s0+1))) else some (.inr (.inr ()))
def Zgz (a:Z5) (s3:Int) (x4:Zo) (s7:Int):Option (Int⊕(Unit⊕Unit)):=bif (decide (s7<s3)) then (ZA a.edges s7).bind fun x8=>bif ((x8.src==x4.src)&&((x8.dst==x4.dst)&&true)) then some (.inr (.inl ())) else some (.inl (w64 (s7+1))) else some (.inr (.inr ()))
def Zgj (a:Z5) (s3:Int):Option (Int⊕(Unit⊕Unit)):=bif (decide (s3<(a.edges.length:Int))) then (ZA a.edges s3).bind fun x4=>(ZiF a x4.src).bind fun x5=>bif x5 then (ZiF a x4.dst).bind fun x6=>bif x6 then bif (x4.src==x4.dst) then some (.inr (.inl ())) else (lp (Zgz a s3 x4) 0).bind fun r9=>match r9 with | (.inl r9)=>some (.inr (.inl ())) | (.inr r9)=>some (.inl (w64 (s3+1))) else some (.inr (.inl ())) else some (.inr (.inl ())) else some (.inr (.inr ()))
def ZjB (a:Z5):Option Int:=bif (decide (64<(a.work.length:Int))) then some 40 else bif (decide (256<(a.edges.length:Int))) then some 40 else (lp (Zgc a) 0).bind fun r2=>match r2 with | (.inl r2)=>some 41 | (.inr r2)=>(lp (Zgj a) 0).bind fun r10=>match r10 with | (.inl r10)=>some 42 | (.inr r10)=>some 0
def ZeL (a:Z5) (b:Int) (s1:Int×(List Bool)):Option ((Int×(List Bool))⊕(List Bool)):=bif (decide (s1.1<(a.edges.length:Int))) then (ZA a.edges s1.1).bind fun x2=>bif (x2.src==b) then (ZA s1.2 x2.dst).bind fun x3=>some (.inl ((w64 (s1.1+1)),(List.set s1.2 x2.dst.toNat true))) else (ZA s1.2 x2.src).bind fun x4=>bif x4 then (ZA s1.2 x2.dst).bind fun x5=>some (.inl ((w64 (s1.1+1)),(List.set s1.2 x2.dst.toNat true))) else some (.inl ((w64 (s1.1+1)),s1.2)) else some (.inr s1.2)
def Zet (a:Z5) (b:Int) (s0:Int×(List Bool)):Option ((Int×(List Bool))⊕(List Bool)):=bif (decide (s0.1<(a.work.length:Int))) then (lp (ZeL a b) (0,s0.2)).bind fun r6=>some (.inl ((w64 (s0.1+1)),r6)) else some (.inr s0.2)
def ZjG (a:Z5) (b:Int):Option (List Bool):=bif (decide (0<=(a.work.length:Int))&&decide ((a.work.length:Int)<=lim)&&decide ((a.work.length:Int)==(a.work.length:Int))) then (lp (Zet a b) (0,(List.replicate (a.work.length:Int).toNat (false:Bool)))).bind fun r7=>some r7 else none
def Zgs (a:Z5) (s1:Int):Option (Int⊕(Unit⊕Unit)):=bif (decide (s1<(a.work.length:Int))) then (ZjG a s1).bind fun x2=>(ZA x2 s1).bind fun x3=>bif x3 then some (.inr (.inl ())) else some (.inl (w64 (s1+1))) else some (.inr (.inr ()))
def Zjs (a:Z5):Option Int:=(ZjB a).bind fun x0=>bif (x0 != 0) then some x0 else (lp (Zgs a) 0).bind fun r4=>match r4 with | (.inl r4)=>some 43 | (.inr r4)=>some 0
def Zjo (a:Zj):Option (ZoC×Int):=(Zjx a).bind fun x0=>bif (x0 != 0) then some ((ZoC.mk (Z5.mk ([]:LI) ([]:List Zo)) ([]:List Zi)),x0) else (Zjt a).bind fun x1=>(Zjs x1.dag).bind fun x2=>bif (x2 != 0) then some ((ZoC.mk (Z5.mk ([]:LI) ([]:List Zo)) ([]:List Zi)),70) else some (x1,0)
def Zgl (a:Z5) (s0:Int×Int):Option ((Int×Int)⊕Int):=bif (decide (s0.2<(a.work.length:Int))) then (ZA a.work s0.2).bind fun x1=>some (.inl ((w64 (s0.1+x1)),(w64 (s0.2+1)))) else some (.inr s0.1)
def Zjn (a:Z5):Option Int:=(lp (Zgl a) (0,0)).bind fun r2=>some r2
def ZfE (a:Z5) (s1:Int×LI):Option ((Int×LI)⊕LI):=bif (decide (s1.1<(a.edges.length:Int))) then (ZA a.edges s1.1).bind fun x2=>(ZA s1.2 x2.src).bind fun x3=>(ZA a.work x2.dst).bind fun x4=>(ZA s1.2 x2.dst).bind fun x5=>bif (decide (x5<(w64 (x3+x4)))) then some (.inl ((w64 (s1.1+1)),(List.set s1.2 x2.dst.toNat (w64 (x3+x4))))) else some (.inl ((w64 (s1.1+1)),s1.2)) else some (.inr s1.2)
def ZfF (a:Z5) (s0:Int×LI):Option ((Int×LI)⊕LI):=bif (decide (s0.1<(a.work.length:Int))) then (lp (ZfE a) (0,s0.2)).bind fun r6=>some (.inl ((w64 (s0.1+1)),r6)) else some (.inr s0.2)
def Zft (r7:LI) (s8:Int×Int):Option ((Int×Int)⊕Int):=bif (decide (s8.2<(r7.length:Int))) then (ZA r7 s8.2).bind fun x9=>some (.inl ((bif decide (s8.1<x9) then x9 else s8.1),(w64 (s8.2+1)))) else some (.inr s8.1)
def Zks (a:Z5):Option Int:=bif (Nat.ble (a.work.length) lim) then (lp (ZfF a) (0,a.work)).bind fun r7=>(lp (Zft r7) (0,0)).bind fun r10=>some r10 else none
def ZeC (x0:(ZoC×Int)) (s3:Int×Int):Option ((Int×Int)⊕Int):=bif (decide (s3.1<(x0.1.dag.work.length:Int))) then (ZA x0.1.dag.work s3.1).bind fun x4=>some (.inl ((w64 (s3.1+1)),(bif decide (s3.2<x4) then x4 else s3.2))) else some (.inr s3.2)
def Zjq (a:Zj):Option (Zf×Int):=(Zjo a).bind fun x0=>bif (x0.2 != 0) then some ((Zf.mk 0 0 0 0 0),x0.2) else (Zjn x0.1.dag).bind fun x1=>(Zks x0.1.dag).bind fun x2=>(lp (ZeC x0) (0,0)).bind fun r5=>some ((Zf.mk x1 x2 r5 a.deadline a.period),0)
def Zh6 (a:Zf):Option Bool:=(ZjU a.period).bind fun x0=>bif x0.2 then bif (decide (a.period<=4096)) then bif (decide (1<=a.deadline)) then bif (decide (a.deadline<=a.period)) then bif (decide (1<=a.total)) then bif (decide (a.total<=4096)) then bif (decide (1<=a.long)) then bif (decide (a.long<=a.total)) then bif (decide (1<=a.most)) then bif (decide (a.most<=a.long)) then some true else some false else some false else some false else some false else some false else some false else some false else some false else some false else some false
def Zgf (a:Zf) (s1:Int):Option (Int⊕(Int⊕Unit)):=bif (decide (s1<=8)) then bif (decide ((w64 (a.total-a.long))<=(w64 (s1*(w64 (a.deadline-a.long)))))) then some (.inr (.inl s1)) else some (.inl (w64 (s1+1))) else some (.inr (.inr ()))
def Zh5 (a:Zf):Option (Int×Int):=(Zh6 a).bind fun x0=>bif x0 then bif (decide (a.total<=a.deadline)) then some (1,0) else bif (decide (a.deadline<=a.long)) then some (0,141) else (lp (Zgf a) 1).bind fun r2=>match r2 with | (.inl r2)=>some (r2,0) | (.inr r2)=>some (0,142) else some (0,140)
def Zgq (a:List Zf) (s0:Int):Option (Int⊕(Unit⊕Unit)):=bif (decide (s0<(a.length:Int))) then (ZA a s0).bind fun x1=>(Zh6 x1).bind fun x2=>bif x2 then bif (decide (x1.deadline<x1.total)) then some (.inr (.inl ())) else some (.inl (w64 (s0+1))) else some (.inr (.inl ())) else some (.inr (.inr ()))
def Zg9 (a:List Zf):Option Bool:=(lp (Zgq a) 0).bind fun r3=>match r3 with | (.inl r3)=>some false | (.inr r3)=>bif (decide ((a.length:Int)<=8)) then some true else some false
def Zel (a:List Zf) (s0:Int×LI) (s1:Int×Int):Option ((Int×Int)⊕Int):=bif (decide (s1.2<(a.length:Int))) then (ZjQ s0.2 s1.2).bind fun x2=>bif x2 then some (.inl (s1.1,(w64 (s1.2+1)))) else bif (decide (s1.1<0)) then some (.inl (s1.2,(w64 (s1.2+1)))) else (ZA a s1.2).bind fun x3=>(ZA a s1.1).bind fun x4=>bif (decide (x4.total<x3.total)) then some (.inl (s1.2,(w64 (s1.2+1)))) else some (.inl (s1.1,(w64 (s1.2+1)))) else some (.inr s1.1)
def Zew (a:List Zf) (s0:Int×LI):Option ((Int×LI)⊕LI):=bif (decide (s0.1<(a.length:Int))) then (lp (Zel a s0) ((-1),0)).bind fun r5=>bif (Nat.ble (s0.2.length+1) lim) then some (.inl ((w64 (s0.1+1)),(s0.2++[r5]))) else none else some (.inr s0.2)
def ZjD (a:List Zf):Option LI:=(lp (Zew a) (0,([]:LI))).bind fun r6=>some r6
def ZgK (a:LI) (b c:Int):Option LI:=bif (Nat.ble (a.length) lim) then (ZA a b).bind fun x0=>some (List.set a b.toNat c) else none
def Zhe (a:List Zf) (b:LI) (c:Int) (s0:Int×(List Zf)):Option ((Int×(List Zf))⊕(List Zf)):=bif (decide (s0.1<(a.length:Int))) then bif (decide (s0.1<(b.length:Int))) then (ZA b s0.1).bind fun x1=>bif (x1==c) then (ZA a s0.1).bind fun x2=>bif (Nat.ble (s0.2.length+1) lim) then some (.inl ((w64 (s0.1+1)),(s0.2++[x2]))) else none else some (.inl ((w64 (s0.1+1)),s0.2)) else some (.inr s0.2) else some (.inr s0.2)
def Zll (a:List Zf) (b:LI) (c:Int):Option (List Zf):=(lp (Zhe a b c) (0,([]:List Zf))).bind fun r3=>some r3
def Zdk (a:List Zf) (s0:Int×Int):Option ((Int×Int)⊕Int):=bif (decide (s0.2<(a.length:Int))) then (Zg9 a).bind fun x1=>bif x1 then (ZA a s0.2).bind fun x2=>some (.inl ((bif decide (s0.1<x2.period) then x2.period else s0.1),(w64 (s0.2+1)))) else some (.inr s0.1) else some (.inr s0.1)
def Zif (a:List Zf):Option Int:=(lp (Zdk a) (0,0)).bind fun r3=>some r3
def ZdM (a:List Zf) (b:Int) (s0:Int×Int):Option ((Int×Int)⊕Int):=bif (decide (s0.2<(a.length:Int))) then (ZA a s0.2).bind fun x1=>bif (decide (x1.deadline<=b)) then bif (x1.period==0) then none else some (.inl ((w64 (s0.1+(w64 (x1.total*(w64 ((w64 (Int.tdiv (w64 (b-x1.deadline)) x1.period))+1)))))),(w64 (s0.2+1)))) else some (.inl (s0.1,(w64 (s0.2+1)))) else some (.inr s0.1)
def ZiL (a:List Zf) (b:Int):Option Int:=(lp (ZdM a b) (0,0)).bind fun r2=>some r2
def ZeB (a:List Zf) (b:Int) (s0:Int×Int):Option ((Int×Int)⊕Int):=bif (decide (s0.2<(a.length:Int))) then (ZA a s0.2).bind fun x1=>bif (decide (b<x1.deadline)) then some (.inl ((bif decide (s0.1<x1.most) then x1.most else s0.1),(w64 (s0.2+1)))) else some (.inl (s0.1,(w64 (s0.2+1)))) else some (.inr s0.1)
def Zjm (a:List Zf) (b:Int):Option Int:=(lp (ZeB a b) (0,0)).bind fun r2=>some r2
def Zbv (a:List Zf) (s1:Int):Option (Int⊕(Unit⊕Unit)):=(Zif a).bind fun x2=>bif (decide (s1<=x2)) then (ZiL a s1).bind fun x3=>bif (decide (0<x3)) then (Zjm a s1).bind fun x4=>bif (decide (s1<(w64 (x3+x4)))) then some (.inr (.inl ())) else some (.inl (w64 (s1+1))) else some (.inl (w64 (s1+1))) else some (.inr (.inr ()))
def ZiC (a:List Zf):Option Bool:=(Zg9 a).bind fun x0=>bif x0 then (lp (Zbv a) 1).bind fun r5=>match r5 with | (.inl r5)=>some false | (.inr r5)=>some true else some false
def Zdh (a:List Zf) (s1:Int×LI):Option ((Int×LI)⊕LI):=bif (decide (s1.1<(a.length:Int))) then bif (Nat.ble (s1.2.length+1) lim) then some (.inl ((w64 (s1.1+1)),(s1.2++[(-1)]))) else none else some (.inr s1.2)
def Zjf (a:List Zf) (b:Int) (r2:LI) (x5 s6:Int):Option (Int⊕Int):=bif (decide (s6<b)) then (ZgK r2 x5 s6).bind fun x7=>(Zll a x7 s6).bind fun x8=>(ZiC x8).bind fun x9=>bif x9 then some (.inr s6) else some (.inl (w64 (s6+1))) else some (.inr s6)
def Zdf (a:List Zf) (b:Int) (s12:LI×Int) (x13 s14:Int):Option (Int⊕Int):=bif (decide (s14<b)) then (ZgK s12.1 x13 s14).bind fun x15=>(Zll a x15 s14).bind fun x16=>(ZiC x16).bind fun x17=>bif x17 then some (.inr s14) else some (.inl (w64 (s14+1))) else some (.inr s14)
def Zes (a:List Zf) (b:Int) (x3:LI) (s12:LI×Int):Option ((LI×Int)⊕(LI⊕LI)):=bif (decide (s12.2<(x3.length:Int))) then (ZA x3 s12.2).bind fun x13=>(lp (Zdf a b s12 x13) 0).bind fun r18=>bif (decide (b<=r18)) then some (.inr (.inl s12.1)) else (ZgK s12.1 x13 r18).bind fun x19=>some (.inl (x19,(w64 (s12.2+1)))) else some (.inr (.inr s12.1))
def Zir (a:List Zf) (b:Int) (r2:LI) (x3:LI) (s4:Unit):Option (Unit⊕(Unit⊕(LI⊕(LI⊕Unit)))):=bif (decide (0<(x3.length:Int))) then (ZA x3 0).bind fun x5=>(lp (Zjf a b r2 x5) 0).bind fun r10=>bif (decide (b<=r10)) then some (.inr (.inl ())) else (ZgK r2 x5 r10).bind fun x11=>(lp (Zes a b x3) (x11,1)).bind fun r20=>match r20 with | (.inl r20)=>some (.inr (.inr (.inl r20))) | (.inr r20)=>some (.inr (.inr (.inr (.inl r20)))) else some (.inr (.inr (.inr (.inr ()))))
def Zjr (a:List Zf) (b:Int):Option (LI×Int):=(Zg9 a).bind fun x0=>bif x0 then bif (decide (b<0)) then some (([]:LI),160) else bif (decide (8<b)) then some (([]:LI),160) else (lp (Zdh a) (0,([]:LI))).bind fun r2=>(ZjD a).bind fun x3=>(lp (Zir a b r2 x3) ()).bind fun r21=>match r21 with | (.inl r21)=>some (([]:LI),161) | (.inr (.inl r21))=>some (([]:LI),161) | (.inr (.inr (.inl r21)))=>some (r21,0) | (.inr (.inr (.inr r21)))=>some (r2,0) else some (([]:LI),160)
def ZhR (a:List Zj) (s0:Int×(List Zf)):Option ((Int×(List Zf))⊕((Int×(List Zf))⊕(List Zf))):=bif (decide (s0.1<(a.length:Int))) then (ZA a s0.1).bind fun x1=>(Zjq x1).bind fun x2=>bif (x2.2 != 0) then some (.inr (.inl (x2.2,s0.2))) else bif (Nat.ble (s0.2.length+1) lim) then some (.inl ((w64 (s0.1+1)),(s0.2++[x2.1]))) else none else some (.inr (.inr s0.2))
def ZcN (r3:List Zf) (s4:Int×Int×(List Zf)):Option ((Int×Int×(List Zf))⊕((Int×Int×(List Zf))⊕(Int×(List Zf)))):=bif (decide (s4.2.1<(r3.length:Int))) then (ZA r3 s4.2.1).bind fun x5=>(Zh5 x5).bind fun x6=>bif (x6.2 != 0) then some (.inr (.inl (x6.2,s4.1,s4.2.2))) else bif (decide (x5.total<=x5.deadline)) then bif (Nat.ble (s4.2.2.length+1) lim) then some (.inl (s4.1,(w64 (s4.2.1+1)),(s4.2.2++[x5]))) else none else some (.inl ((w64 (s4.1+x6.1)),(w64 (s4.2.1+1)),s4.2.2)) else some (.inr (.inr (s4.1,s4.2.2)))
def ZeK (x11:(Int×Int)) (s13:Int×Int×LI):Option ((Int×Int×LI)⊕(Int×LI)):=bif (decide (s13.2.1<x11.1)) then bif (Nat.ble (s13.2.2.length+1) lim) then some (.inl ((w64 (s13.1+1)),(w64 (s13.2.1+1)),(s13.2.2++[s13.1]))) else none else some (.inr (s13.1,s13.2.2))
def ZcO (r3:List Zf) (r7:(Int×(List Zf))) (x8:(LI×Int)) (s9:Int×Int×Int×(List LI)):Option ((Int×Int×Int×(List LI))⊕(List LI)):=bif (decide (s9.2.2.1<(r3.length:Int))) then (ZA r3 s9.2.2.1).bind fun x10=>(Zh5 x10).bind fun x11=>bif (decide (x10.total<=x10.deadline)) then (ZA x8.1 s9.2.1).bind fun x12=>bif (Nat.ble (s9.2.2.2.length+1) lim) then some (.inl (s9.1,(w64 (s9.2.1+1)),(w64 (s9.2.2.1+1)),(s9.2.2.2++[[(w64 (r7.1+x12))]]))) else none else (lp (ZeK x11) (s9.1,0,([]:LI))).bind fun r14=>bif (Nat.ble (s9.2.2.2.length+1) lim) then some (.inl (r14.1,s9.2.1,(w64 (s9.2.2.1+1)),(s9.2.2.2++[r14.2]))) else none else some (.inr s9.2.2.2)
def Zjp (a:List Zj) (b:Int):Option (ZfM×Int):=bif (decide (8<(a.length:Int))) then some ((ZfM.mk ([]:List Zf) ([]:List LI)),170) else bif (decide (b<1)) then some ((ZfM.mk ([]:List Zf) ([]:List LI)),170) else bif (decide (8<b)) then some ((ZfM.mk ([]:List Zf) ([]:List LI)),170) else (lp (ZhR a) (0,([]:List Zf))).bind fun r3=>match r3 with | (.inl r3)=>some ((ZfM.mk ([]:List Zf) ([]:List LI)),r3.1) | (.inr r3)=>(lp (ZcN r3) (0,0,([]:List Zf))).bind fun r7=>match r7 with | (.inl r7)=>some ((ZfM.mk ([]:List Zf) ([]:List LI)),r7.1) | (.inr r7)=>bif (decide (b<r7.1)) then some ((ZfM.mk ([]:List Zf) ([]:List LI)),171) else (Zjr r7.2 (w64 (b-r7.1))).bind fun x8=>bif (x8.2 != 0) then some ((ZfM.mk ([]:List Zf) ([]:List LI)),171) else (lp (ZcO r3 r7 x8) (0,0,0,([]:(List LI)))).bind fun r15=>some ((ZfM.mk r3 r15),0)
def ZgZ (a:List Zf) (b:List Zf) (s0:Int):Option (Int⊕(Unit⊕Unit)):=bif (decide (s0<(a.length:Int))) then (ZA a s0).bind fun x1=>(ZA b s0).bind fun x2=>bif (!((x1.total==x2.total)&&((x1.long==x2.long)&&((x1.most==x2.most)&&((x1.deadline==x2.deadline)&&((x1.period==x2.period)&&true)))))) then some (.inr (.inl ())) else some (.inl (w64 (s0+1))) else some (.inr (.inr ()))
def Zkr (a:List Zf) (b:List Zf):Option Bool:=bif ((a.length:Int) != (b.length:Int)) then some false else (lp (ZgZ a b) 0).bind fun r3=>match r3 with | (.inl r3)=>some false | (.inr r3)=>some true
def Zg0 (a:LI) (b:LI) (s0:Int):Option (Int⊕(Unit⊕Unit)):=bif (decide (s0<(a.length:Int))) then (ZA a s0).bind fun x1=>(ZA b s0).bind fun x2=>bif (x1 != x2) then some (.inr (.inl ())) else some (.inl (w64 (s0+1))) else some (.inr (.inr ()))
def Zky (a:LI) (b:LI):Option Bool:=bif ((a.length:Int) != (b.length:Int)) then some false else (lp (Zg0 a b) 0).bind fun r3=>match r3 with | (.inl r3)=>some false | (.inr r3)=>some true
def Zg2 (a b:ZfM) (s1:Int):Option (Int⊕(Unit⊕Unit)):=bif (decide (s1<(a.cores.length:Int))) then (ZA a.cores s1).bind fun x2=>(ZA b.cores s1).bind fun x3=>(Zky x2 x3).bind fun x4=>bif x4 then some (.inl (w64 (s1+1))) else some (.inr (.inl ())) else some (.inr (.inr ()))
def ZiG (a b:ZfM):Option Bool:=(Zkr a.shapes b.shapes).bind fun x0=>bif x0 then bif ((a.cores.length:Int) != (b.cores.length:Int)) then some false else (lp (Zg2 a b) 0).bind fun r5=>match r5 with | (.inl r5)=>some false | (.inr r5)=>some true else some false
def Zip (a:List Zj) (b:Int):Option Bool:=Zh9.bind fun x0=>bif x0 then (Zl2 a).bind fun x1=>bif x1 then (Zml a).bind fun x2=>(ZjA x2 b).bind fun x3=>(Zjp a b).bind fun x4=>(ZiG x3.1 x4.1).bind fun x5=>bif x5 then bif (x3.2==x4.2) then some true else some false else some false else Zh9.bind fun x6=>bif x6 then some true else some false else Zh9.bind fun x7=>bif x7 then some true else some false
abbrev zL (t:Bool) (l:LI):D:=.list t (List.map Zn l)
abbrev zM {A:Type} (t:Bool) (f:A->D) (l:List A):D:=.list t (List.map f l)
abbrev zN (n:Int):V:=.d (Zn n)
abbrev zV (t:Bool) (l:LI):V:=.d (zL t l)
abbrev zW {A:Type} (t:Bool) (f:A->D) (l:List A):V:=.d (zM t f l)
abbrev zA (l:LI):Blk:=.arr 1 (List.map Zn l)
abbrev zK0 (x0:Int) (x1:Int) (x2:Bool) (x3:List Z7) (x4:Bool) (x5:List Zo) (x6:Bool) (x7:List Zl) (x8:Bool) (x9:List Zv):Blk:=.cells [(zN x0),(zN x1),(zW x2 Zk3 x3),(zW x4 Zab x5),(zW x6 Z6 x7),(zW x8 Zdx x9)]
abbrev zK1 (x0:Bool) (x1:LI) (x2:Bool) (x3:List Zo):Blk:=.cells [(zV x0 x1),(zW x2 Zab x3)]
abbrev zK2 (x0:Int) (x1:Int) (x2:Int) (x3:Int) (x4:Int):D:=D.agg [(Zn x0),(Zn x1),(Zn x2),(Zn x3),(Zn x4)]
abbrev zK3 (x0:Bool) (x1:LI) (x2:Bool) (x3:List Zo):D:=D.agg [(zL x0 x1),(zM x2 Zab x3)]
abbrev zK4  : Blk:=.cells [(.sl 4 1),(.sl 5 2),(.sl 6 2)]
abbrev zK5  : Blk:=.cells [(.sl 7 1),(.sl 8 2),(.sl 9 2)]
abbrev zK6  : Blk:=.cells [(.sl 3 1),(.sl 4 2),(.sl 5 2)]
abbrev zK7  : Blk:=.cells [(.sl 4 5),(.sl 5 1)]
abbrev zK8 (x0:Bool) (x1:LI) (x2:Bool) (x3:LI):Blk:=.cells [(zV x0 x1),(zV x2 x3)]
abbrev zK9 (x0:Int) (x1:Int):D:=D.agg [(Zn x0),(Zn x1)]
abbrev ZD7 (x0:Int) (x1:Int) (x2:Int) (x3:Int) (x4:Int):Blk:=.cells [(zN x0),(zN x1),(zN x2),(zN x3),(zN x4)]
abbrev ZD2  : Blk:=.cells [(.sl 3 5),(.sl 4 1)]
abbrev ZFp  : Blk:=.cells [(.sl 5 5),(.sl 6 1)]
end
end Go.Proofs.YtmnglncebfabpaaGreatDoor
namespace Go.Proofs.YtmnglncebfabpaaGreatDoorE
open Go
open Go.IntKind (u64 i64 u32 i32 u8)
open Int (toNat_of_nonneg)
open List (drop_zero)
theorem ZaW {i n:Nat} (h:i<n):decide ((i:Int)<(n:Int))=true:=dT (by omega)
theorem Zbh (n:Nat):decide ((n:Int)<(n:Int))=false:=dF (by omega)
theorem ZI {γ:Type}{l:List γ}{i:Nat}{x:γ} (h:l[i]? = some x):ZA l (i:Int)=some x:=(ZF6 l i).trans h
theorem Zv9 {γ:Type}{l:List γ}{i:Int}{x:γ} (h0:0<=i) (h:l[i.toNat]? = some x):ZA l i=some x:=by
 have:=ZI h
 rwa [toNat_of_nonneg h0] at this
theorem ZiI {n:Int} (h1 : -9223372036854775808<=n) (h2:n<9223372036854775808):w64 n=n:=ZK7 h1 h2
theorem Za0 {n:Int} (h : -9223372036854775808<=n/\n<9223372036854775808):w64 n=n:=ZiI h.1 h.2
theorem Zw {i n:Nat} (h:i<n) (hn:n<9223372036854775808):w64 ((i:Int)+1)=((i+1:Nat):Int):=by rw[Za0 (by omega)];omega
theorem Zeg {n:Nat} (h:n<=1073741824):Nat.ble n lim=true:=Nat.ble_eq_true_of_le h
def ZqT {γ S R:Type} (f:Nat->γ->S->Option (S⊕R)) (fin:S->Option R):Nat->List γ->S->Option R
 | _,[],s=>fin s
 | i,x :: l,s=>(match f i x s with | some (.inl s')=>ZqT f fin (i+1) l s' | some (.inr r)=>some r | none=>none)
theorem Zum {γ S St R:Type} (l:List γ) (step:St->Option (St⊕R)) (st:Nat->S->St) (f:Nat->γ->S->Option (S⊕R)) (fin:S->Option R)
  (h1:∀i x s,i<l.length->l[i]? = some x->step (st i s)=(match f i x s with | some (.inl s')=>some (.inl (st (i+1) s')) | some (.inr r)=>some (.inr r) | none=>none))
  (h2:∀s,step (st l.length s)=(fin s).map Sum.inr):∀s,lp step (st 0 s)=ZqT f fin 0 l s:=by
 have key:∀(k i:Nat) (s:S),i+k=l.length->lp step (st i s)=ZqT f fin i (l.drop i) s:=by
  intro k
  induction k with
  | zero=>
   intro i s hi
   have:i=l.length:=by omega
   subst this
   rw[List.drop_length,ZY,h2]
   unfold ZqT
   cases fin s<;>rfl
  | succ k ih=>
   intro i s hi
   have hi':i<l.length:=by omega
   rw[List.drop_eq_getElem_cons hi',ZY,h1 i l[i] s hi' (gE hi')]
   conv=>rhs;unfold ZqT
   cases f i l[i] s with
   | none=>rfl
   | some t=>
    cases t with
    | inl s'=>exact ih (i+1) s' (by omega)
    | inr r=>rfl
 intro s
 have:=key l.length 0 s (by omega)
 rwa [drop_zero] at this
def ZlV {γ R:Type} (p:Nat->γ->Bool) (out:Nat->γ->R) (fin:R):Nat->List γ->R
 | _,[]=>fin
 | i,x :: l=>bif p i x then out i x else ZlV p out fin (i+1) l
theorem ZcG {γ R:Type} (l:List γ) (step:Int->Option (Int⊕R)) (p:Nat->γ->Bool) (out:Nat->γ->R) (fin:R)
  (h1:∀i x,i<l.length->l[i]? = some x->step (i:Int)=some (bif p i x then .inr (out i x) else .inl ((i+1:Nat):Int)))
  (h2:step (l.length:Int)=some (.inr fin)):lp step 0=some (ZlV p out fin 0 l):=by
 have key:=Zum (S:=Unit) l step (fun i _=>(i:Int)) (fun i x _=>some (bif p i x then .inr (out i x) else .inl ())) (fun _=>some fin)
  (fun i x s hi hx=>by rw[h1 i x hi hx];cases p i x<;>rfl) (fun _=>h2) ()
 refine(key:lp step 0=_).trans ?_
 have:∀(l:List γ) (i:Nat),ZqT (S:=Unit) (fun i x _=>some (bif p i x then Sum.inr (out i x) else Sum.inl ())) (fun _=>some fin) i l ()=some (ZlV p out fin i l):=by
  intro l
  induction l with
  | nil=>intro i;rfl
  | cons x l ih=>
   intro i
   unfold ZqT ZlV
   cases p i x with
   | true=>rfl
   | false=>exact ih (i+1)
 exact this l 0
def Zhn {γ:Type} (p:Nat->γ->Bool):Nat->List γ->Bool
 | _,[]=>false
 | i,x :: l=>p i x || Zhn p (i+1) l
theorem ZgV {γ:Type} (p:γ->Bool):∀(l:List γ) (i:Nat),Zhn (fun _=>p) i l=l.any p
 | [],_=>rfl
 | x :: l,i=>by rw[Zhn,List.any_cons,ZgV p l]
theorem Zbg {γ R:Type} (p:Nat->γ->Bool) (c fin:R):∀(l:List γ) (i:Nat),ZlV p (fun _ _=>c) fin i l=bif Zhn p i l then c else fin
 | [],_=>rfl
 | x :: l,i=>by
  unfold ZlV Zhn
  rw[Zbg p c fin l (i+1)]
  cases p i x<;>rfl
theorem ZqS {γ R:Type} (p:γ->Bool) (fin:R):∀(l:List γ) (i:Nat),(∃j:Nat,ZlV (fun _=>p) (fun i _=>(Sum.inl (i:Int):Int⊕R)) (.inr fin) i l = .inl (j:Int)/\l.any p=true)∨(ZlV (fun _=>p) (fun i _=>(Sum.inl (i:Int):Int⊕R)) (.inr fin) i l = .inr fin/\l.any p=false)
 | [],_=>.inr ⟨rfl,rfl⟩
 | x :: l,i=>by
  unfold ZlV
  rw[List.any_cons]
  cases h:p x with
  | true=>exact .inl ⟨i,rfl,rfl⟩
  | false=>simpa using ZqS p fin l (i+1)
theorem Zlg {γ:Type} (p:Nat->γ->Bool):∀(l:List γ) (i:Nat),Zhn p i l=true↔∃j x,l[j]? = some x/\p (i+j) x=true
 | [],i=>by simp[Zhn]
 | x :: l,i=>by
  rw[Zhn,Bool.or_eq_true,Zlg p l (i+1)]
  constructor
  ·rintro (h | ⟨j,y,hj,hp⟩)
   ·exact⟨0,x,rfl,h⟩
   ·exact⟨j+1,y,by simpa using hj,by rw[show i+(j+1)=i+1+j by omega];exact hp⟩
  ·rintro ⟨j,y,hj,hp⟩
   cases j with
   | zero=>left;simp at hj;subst hj;exact hp
   | succ j=>right;exact⟨j,y,by simpa using hj,by rw[show i+1+j=i+(j+1) by omega];exact hp⟩
theorem Zx1 {γ:Type} [DecidableEq γ] (a b:List γ) (he:a.length=b.length) (step:Int->Option (Int⊕(Unit⊕Unit)))
  (h1:∀i x y,i<a.length->a[i]? = some x->b[i]? = some y->step (i:Int)=some (bif decide (x=y) then .inl ((i+1:Nat):Int) else .inr (.inl ())))
  (h2:step (a.length:Int)=some (.inr (.inr ()))):lp step 0=some (bif decide (a=b) then .inr () else .inl ()):=by
 have key:∀(k i:Nat),i+k=a.length->lp step (i:Int)=some (bif decide (a.drop i=b.drop i) then .inr () else .inl ()):=by
  intro k
  induction k with
  | zero=>
   intro i hi
   have:i=a.length:=by omega
   subst this
   rw[ZY,h2,List.drop_length,he,List.drop_length]
   rfl
  | succ k ih=>
   intro i hi
   have ha:i<a.length:=by omega
   have hb:i<b.length:=by omega
   rw[ZY,h1 i a[i] b[i] ha (gE ha) (gE hb),List.drop_eq_getElem_cons ha,List.drop_eq_getElem_cons hb]
   by_cases h:a[i]=b[i]
   ·rw[dT h]
    simp only[cT]
    rw[ih (i+1) (by omega)]
    by_cases h3:a.drop (i+1)=b.drop (i+1)
    ·rw[dT h3,dT (by rw[h,h3])]
    ·rw[dF h3,dF (by intro h4;exact h3 (List.cons.inj h4).2)]
   ·rw[dF h,dF (by intro h4;exact h (List.cons.inj h4).1)]
    rfl
 have:=key a.length 0 (by omega)
 rwa [drop_zero,drop_zero] at this
end Go.Proofs.YtmnglncebfabpaaGreatDoorE
namespace Go.Proofs.YtmnglncebfabpaaGreatDoor
open Go Go.Proofs.YtmnglncebfabpaaGreatDoorE
open Go.IntKind (u64 i64 u32 i32 u8)
open List (length_nil length_take length_set length_cons length_singleton getElem_mem mem_cons drop_zero append_nil)
def ZcF (n a b:Int):Bool:=decide (a<=n)&&decide (n<=b)
theorem ZoP (n a b:Int):Zb9 n a b=some (ZcF n a b):=by
 unfold Zb9 ZcF
 cases decide (a<=n)<;>cases decide (n<=b)<;>rfl
theorem Zo1 (x:Int) (n:Nat):ZcF x 0 ((n:Int)-1)=(decide (0<=x)&&decide (x<(n:Int))):=by
 unfold ZcF
 congr 1
 exact decide_eq_decide.2 (by omega)
def ZfL (p:Z7):Bool:=!(ZcF p.op 0 5&&(ZcF p.arg 0 2147483647&&ZcF p.work 1 100))
theorem ZKq (p:Z7):Zhw p=some (ZfL p):=by
 unfold Zhw ZfL
 simp only[ZoP,bS]
 cases ZcF p.op 0 5<;>cases ZcF p.arg 0 2147483647<;>cases ZcF p.work 1 100<;>rfl
theorem ZoX {γ:Type} (l:List γ) (p:γ->Bool) (step:Int->Option (Int⊕(Int⊕Unit)))
  (h1:∀i x,i<l.length->l[i]? = some x->step (i:Int)=some (bif p x then .inr (.inl (i:Int)) else .inl ((i+1:Nat):Int)))
  (h2:step (l.length:Int)=some (.inr (.inr ()))) :
  (((lp step 0).bind fun(r:Int⊕Unit)=>match r with | .inl r=>some r | .inr _=>some (-1)).bind fun x=>bif decide (0<=x) then some true else some false)=some (l.any p):=by
 rw[ZcG l step (fun _=>p) (fun i _=>.inl (i:Int)) (.inr ()) h1 h2]
 rcases ZqS p () l 0 with⟨j,e1,e2⟩ | ⟨e1,e2⟩
 ·rw[e1,e2]
  show(bif decide ((0:Int)<=(j:Int)) then some true else some false)=some true
  rw[dT (by omega)]
  rfl
 ·rw[e1,e2]
  rfl
theorem ZvY (l:List Z7) (f:Z7->Option Bool) (p:Z7->Bool) (hf:∀x∈l,f x=some (p x)) (hl:l.length<9223372036854775808):ZbN l f=some (l.any p):=by
 unfold ZbN Zdd
 refine ZoX l p _ (fun i x hi hx=>?_) ?_
 ·simp only[ZbM,ZaW hi,ZI hx,bS,hf x (mG hx),Zw hi hl,cT]
  cases p x<;>rfl
 ·simp only[ZbM,Zbh];rfl
def ZmN (e x:Zo):Bool:=e.src==x.src&&(e.dst==x.dst&&true)
theorem ZxE (l:List Zo) (e:Zo) (hl:l.length<9223372036854775808):ZbD l e=some (l.any (ZmN e)):=by
 unfold ZbD ZeN
 refine ZoX l (ZmN e) _ (fun i x hi hx=>?_) ?_
 ·simp only[Zcp,ZaW hi,ZI hx,bS,Zw hi hl,cT,ZmN]
  cases (e.src==x.src&&(e.dst==x.dst&&true))<;>rfl
 ·simp only[Zcp,Zbh];rfl
def again (f g:Zl):Bool:=g.user==f.user&&g.pos==f.pos
theorem ZsK (l:List Zl) (f:Zl->Option Bool) (p:Zl->Bool) (hf:∀x∈l,f x=some (p x)) (hl:l.length<9223372036854775808):Zbj l f=some (l.any p):=by
 unfold Zbj ZcJ
 refine ZoX l p _ (fun i x hi hx=>?_) ?_
 ·simp only[Zbi,ZaW hi,ZI hx,bS,hf x (mG hx),Zw hi hl,cT]
  cases p x<;>rfl
 ·simp only[Zbi,Zbh];rfl
theorem ZIF (f g:Zl):Ze4 g f.user f.pos=some (again f g):=by
 unfold Ze4 again
 cases (g.user==f.user)<;>cases (g.pos==f.pos)<;>rfl
theorem ZHK (l:LI) (n:Int) (hl:l.length<9223372036854775808):ZcQ l n=some (l.any (fun x=>n==x)):=by
 unfold ZcQ Zf0
 refine ZoX l (fun x=>n==x) _ (fun i x hi hx=>?_) ?_
 ·simp only[ZcR,ZaW hi,ZI hx,bS,Zw hi hl,cT]
  cases (n==x)<;>rfl
 ·simp only[ZcR,Zbh];rfl
def Zqt (b:Zv) (n:Int):Bool:=b.outs.any fun x=>n==x
theorem Zqr (l:LI) (f:Int->Option Bool) (p:Int->Bool) (hf:∀x∈l,f x=some (p x)) (hl:l.length<9223372036854775808):ZaR l f=some (l.any p):=by
 unfold ZaR ZaN
 refine ZoX l p _ (fun i x hi hx=>?_) ?_
 ·simp only[Z1,ZaW hi,ZI hx,bS,hf x (mG hx),Zw hi hl,cT]
  cases p x<;>rfl
 ·simp only[Z1,Zbh];rfl
theorem ZNt (b:Zv) (h2:b.outs.length<9223372036854775808) (n:Int):Ze5 n b.outs=some (Zqt b n):=by
 unfold Ze5
 simp only[ZHK _ _ h2,bS]
 unfold Zqt
 cases (b.outs.any fun y=>n==y)<;>rfl
def two (n:Nat) (a b:Int):Bool:=(a != b)&&(ZcF a 0 (n-1)&&ZcF b 0 (n-1))
theorem ZJu (d:Zj) (hl:d.parts.length<9223372036854775808) (a b:Int):Zlm d a b=some (two d.parts.length a b):=by
 unfold Zlm two
 rw[Za0 (by omega)]
 simp only[ZoP,bS]
 cases (a != b)<;>cases ZcF a 0 (d.parts.length-1)<;>cases ZcF b 0 (d.parts.length-1)<;>rfl
def ZtM (n:Nat) (l:LI) (i:Nat) (x:Int):Bool:=!(ZcF x 0 (n-1)) || (match i with | 0=>false | j+1=>match l[j]? with | some y=>decide (x<=y) | none=>false)
def Zmh (n:Nat) (l:LI):Bool:=!(Zhn (ZtM n l) 0 l) && !l.isEmpty
theorem ZCz (b:Bool) (l:LI):((some (bif b then (Sum.inl ():Unit⊕Unit) else .inr ())).bind fun r=>match r with | .inl _=>some false | .inr _=>bif decide (0<(l.length:Int)) then some true else some false)=some (!b && !l.isEmpty):=by
 cases b with
 | true=>rfl
 | false=>
  cases l with
  | nil=>rfl
  | cons x l=>show(bif decide (0<((x :: l).length:Int)) then some true else some false)=some true;rw[dT (by rw[length_cons];omega)];rfl
theorem ZJw (d:Zj) (hd:d.parts.length<9223372036854775808) (l:LI) (hl:l.length<9223372036854775808):Zlq d l=some (Zmh d.parts.length l):=by
 have key:=ZcG l (Zh4 d l) (ZtM d.parts.length l) (fun _ _=>.inl ()) (.inr ()) (fun i x hi hx=>by
   simp only[Zh4,ZaW hi,ZI hx,bS,Zw hi hl,cT,ZoP,ZtM]
   rw[Za0 (by omega)]
   cases ZcF x 0 (d.parts.length-1) with
   | false=>rfl
   | true=>
    cases i with
    | zero=>rfl
    | succ i=>
     rw[dT (show(0:Int)<((i+1:Nat):Int) by omega),Za0 (by omega),show(((i+1:Nat):Int)-1)=(i:Int) by omega]
     have hi2:l[i]? = some l[i]:=gE (by omega)
     rw[ZI hi2]
     simp only[cT,bS,Bool.not_true,Bool.false_or,hi2]
     cases decide (x<=l[i])<;>rfl) (by simp only[Zh4,Zbh];rfl)
 unfold Zlq Zmh
 rw[key,Zbg]
 exact ZCz _ _
def Znv (n:Int):Int:=bif decide (n<0) then 10 else bif decide (1099511627775<n) then 11 else 0
theorem ZuB (n:Int):Ziu n=some (Znv n):=by
 unfold Ziu Znv
 cases decide (n<0)<;>cases decide (1099511627775<n)<;>rfl
noncomputable def ZDq (x:Int):Int:=match ZdL x with | some n=>n | none=>0
theorem ZLc (x:Int):Ze6 x=some (ZDq x):=by
 unfold Ze6 ZDq ZdL
 rfl
def ZyV (n:Nat):Bool:=[1,2,4,8,16,32,64,128,256,512,1024,2048,4096].contains n
theorem ZBp:((List.range 4097).all fun n=>(ZDq (u64.wrap (n:Int))==1)==ZyV n)=true:=by kernel_rfl
theorem ZBS (n:Nat) (h:n<=4096):(ZDq (u64.wrap (n:Int))==1)=ZyV n:=by
 have:=List.all_eq_true.1 ZBp n (by simp;omega)
 simpa using this
noncomputable def Zp0 (n:Int):Bool:=!(Znv n != 0) && !(ZDq (u64.wrap n) != 1)
theorem Zzh (n:Int):∃k,ZmO n=some (k,Zp0 n):=by
 have tz:∃k,Zfq (u64.wrap n)=some k:=⟨_,rfl⟩
 obtain⟨k,hk⟩:=tz
 unfold ZmO Zp0
 simp only[ZuB,ZLc,bS,hk]
 cases (Znv n != 0)
 ·cases (ZDq (u64.wrap n) != 1)
  ·exact⟨k,rfl⟩
  ·exact⟨0,rfl⟩
 ·exact⟨0,rfl⟩
theorem ZAp {n:Int} (h:n<0):Zp0 n=false:=by
 have:(Znv n != 0)=true:=by unfold Znv;rw[dT h];rfl
 simp only[Zp0,this];rfl
theorem Zq1 (n:Nat) (h:n<=4096):Zp0 (n:Int)=ZyV n:=by
 have h1:(Znv (n:Int) != 0)=false:=by
  unfold Znv
  rw[dF (show ¬((n:Int)<0) by omega),dF (show ¬((1099511627775:Int)<n) by omega)]
  rfl
 rw[<- ZBS n h]
 unfold Zp0
 rw[h1]
 unfold bne
 rw[Bool.not_not]
 rfl
open Int (toNat_of_nonneg le_refl toNat_natCast)
def ZJt (b:Zv):Prop:=b.ins.length<9223372036854775808/\b.outs.length<9223372036854775808
structure Zji (d:Zj):Prop where
 p:d.parts.length<9223372036854775808
 e:d.edges.length<9223372036854775808
 f:d.futures.length<9223372036854775808
 b:d.barriers.length<9223372036854775808
 i:∀b∈d.barriers,ZJt b
theorem ZqX {γ:Type}{l:List γ}{i n:Nat} (h:l.length<n):(l.take i).length<n:=by rw[length_take];omega
def Zf8 (d:Zj) (i:Nat) (e:Zo):Bool:=!(two d.parts.length e.src e.dst) || (d.edges.take i).any (ZmN e)
theorem ZIM (d:Zj) (h:Zji d):lp (ZfA d) 0=some (bif Zhn (Zf8 d) 0 d.edges then .inl () else .inr ()):=by
 have key:=ZcG d.edges (ZfA d) (Zf8 d) (fun _ _=>.inl ()) (.inr ()) (fun i x hi hx=>by
   simp only[ZfA,ZaW hi,ZI hx,bS,Zw hi h.e,cT,ZJu d h.p,Zf8,toNat_natCast,ZxE _ _ (ZqX h.e)]
   rw[dT (show(0:Int)<=(i:Int) by omega),Nat.ble_eq_true_of_le (Nat.le_of_lt hi)]
   cases two d.parts.length x.src x.dst<;>cases (d.edges.take i).any (ZmN x)<;>rfl) (by simp only[ZfA,Zbh];rfl)
 rw[key,Zbg]
def ZdX (ps:List Z7) (z:Int):Int:=match ps[z.toNat]? with | some p=>p.work | none=>0
def ZcK (d:Zj) (i:Nat) (f:Zl):Bool:=!(two d.parts.length f.maker f.user) || (!(ZcF f.pos 1 (ZdX d.parts f.user-1)) || (d.futures.take i).any (again f))
theorem ZvH {n:Nat}{a b:Int} (h:two n a b=true):(0<=a/\a.toNat<n)/\(0<=b/\b.toNat<n)/\a≠b:=by
 simp only[two,ZcF,aT,decide_eq_true_eq,bne_iff_ne] at h
 omega
theorem ZDh {γ:Type}{l:List γ}{z:Int} (h0:0<=z) (h:z.toNat<l.length):ZA l z=some l[z.toNat]:=Zv9 h0 (gE h)
theorem ZEe (d:Zj) (h:Zji d) (hg:∀p∈d.parts,1<=p.work/\p.work<=100):lp (ZfC d) 0=some (bif Zhn (ZcK d) 0 d.futures then .inl () else .inr ()):=by
 have key:=ZcG d.futures (ZfC d) (ZcK d) (fun _ _=>.inl ()) (.inr ()) (fun i x hi hx=>by
   simp only[ZfC,ZaW hi,ZI hx,bS,Zw hi h.f,cT,ZJu d h.p,ZcK]
   cases h1:two d.parts.length x.maker x.user with
   | false=>rfl
   | true=>
    obtain⟨_,⟨u1,u2⟩,_⟩:=ZvH h1
    have w:=hg _ (getElem_mem u2)
    have wa:ZdX d.parts x.user=d.parts[x.user.toNat].work:=by simp only[ZdX,gE u2]
    rw[<- wa] at w
    rw[ZDh u1 u2]
    simp only[cT,bS,ZoP,<- wa,ZiI (show -9223372036854775808<=ZdX d.parts x.user-1 by omega) (by omega),toNat_natCast]
    rw[dT (show(0:Int)<=(i:Int) by omega),Nat.ble_eq_true_of_le (Nat.le_of_lt hi),ZsK _ _ (again x) (fun y _=>ZIF x y) (ZqX h.f)]
    cases ZcF x.pos 1 (ZdX d.parts x.user-1)<;>cases (d.futures.take i).any (again x)<;>rfl) (by simp only[ZfC,Zbh];rfl)
 rw[key,Zbg]
def Zdj (n:Nat) (b:Zv):Bool:=!(Zmh n b.ins) || (!(Zmh n b.outs) || b.ins.any (Zqt b))
theorem ZBt (d:Zj) (h:Zji d):lp (ZfB d) 0=some (bif d.barriers.any (Zdj d.parts.length) then .inl () else .inr ()):=by
 have key:=ZcG d.barriers (ZfB d) (fun _=>Zdj d.parts.length) (fun _ _=>.inl ()) (.inr ()) (fun i x hi hx=>by
   have hb:=h.i x (mG hx)
   simp only[ZfB,ZaW hi,ZI hx,bS,Zw hi h.b,cT,ZJw d h.p _ hb.1,ZJw d h.p _ hb.2,Zdj,Zqr x.ins _ (Zqt x) (fun y _=>ZNt x hb.2 y) hb.1]
   cases Zmh d.parts.length x.ins<;>cases Zmh d.parts.length x.outs<;>cases x.ins.any (Zqt x)<;>rfl) (by simp only[ZfB,Zbh];rfl)
 rw[key,Zbg,ZgV]
noncomputable def Zpe (d:Zj):Bool:=Zp0 d.period&&(!decide (4096<d.period)&&ZcF d.deadline 1 d.period)
def ZoI (d:Zj):Bool:=ZcF (d.parts.length:Int) 1 16&&(!decide ((48:Int)<d.edges.length)&&(!decide ((16:Int)<d.futures.length) && !decide ((4:Int)<d.barriers.length)))
noncomputable def ZhI (d:Zj):Int:=
 bif ZoI d then bif Zpe d then bif d.parts.any ZfL then 52 else bif Zhn (Zf8 d) 0 d.edges then 53 else
 bif Zhn (ZcK d) 0 d.futures then 54 else bif d.barriers.any (Zdj d.parts.length) then 55 else 0 else 51 else 50
theorem Zv8 {ps:List Z7} (h:ps.any ZfL=false):∀p∈ps,1<=p.work/\p.work<=100:=fun p hp=>by
 have:=List.any_eq_false.1 h p hp
 simp only[ZfL,ZcF,Bool.not_eq_true,Bool.not_eq_false',aT,decide_eq_true_eq] at this
 exact this.2.2
theorem ZB3 (d:Zj) (h:Zji d):ZiQ d=some (ZhI d):=by
 obtain⟨k,hk⟩:=Zzh d.period
 unfold ZiQ ZhI ZoI Zpe
 simp only[ZoP,bS,hk,ZvY _ _ ZfL (fun x _=>ZKq x) h.p,ZIM d h,ZBt d h]
 cases ZcF (d.parts.length:Int) 1 16 with
 | false=>rfl
 | true=>
  cases decide ((48:Int)<d.edges.length) with
  | true=>rfl
  | false=>
   cases decide ((16:Int)<d.futures.length) with
   | true=>rfl
   | false=>
    cases decide ((4:Int)<d.barriers.length) with
    | true=>rfl
    | false=>
     cases Zp0 d.period with
     | false=>rfl
     | true=>
      cases decide (4096<d.period) with
      | true=>rfl
      | false=>
       cases ZcF d.deadline 1 d.period with
       | false=>rfl
       | true=>
        cases hp:d.parts.any ZfL with
        | true=>rfl
        | false=>
         rw[ZEe d h (Zv8 hp)]
         cases Zhn (Zf8 d) 0 d.edges<;>cases Zhn (ZcK d) 0 d.futures<;>cases d.barriers.any (Zdj d.parts.length)<;>rfl
open Nat (lt_or_ge zero_le zero_add)
def Zuf (n:Int):Bool:=(List.range 40).any fun k=>((2:Int) ^ k==n)
theorem ZCE (n:Int):∃k,ZjU n=some (k,Zuf n):=by
 have step:∀k:Nat,k<40->ZdA n ((2:Int) ^ k,(k:Int))=some (bif ((2:Int) ^ k==n) then .inr (.inl (k:Int)) else .inl ((2:Int) ^ (k+1),((k+1:Nat):Int))):=by
  intro k hk
  have hp:(2:Int) ^ k<=2 ^ 39:=by
   have:(2:Nat) ^ k<=2 ^ 39:=Nat.pow_le_pow_right (by omega) (by omega)
   exact_mod_cast this
  have hq:(0:Int)<2 ^ k:=by
   have:(0:Nat)<2 ^ k:=Nat.pow_pos (by omega)
   exact_mod_cast this
  have e39:(2:Int) ^ 39=549755813888:=by decide
  rw[e39] at hp
  have e1:w64 (2*(2:Int) ^ k)=(2:Int) ^ (k+1):=by rw[Za0 (by omega),Int.pow_succ];omega
  have e2:w64 ((k:Int)+1)=((k+1:Nat):Int):=Zw hk (by omega)
  unfold ZdA
  simp only[dT (show(k:Int)<40 by omega),cT,e1,e2]
  cases ((2:Int) ^ k==n)<;>rfl
 have key:∀m k:Nat,k+m=40->lp (ZdA n) ((2:Int) ^ k,(k:Int))=some (match (List.range' k m).find? (fun j=>(2:Int) ^ j==n) with | some j=>.inl (j:Int) | none=>.inr ()):=by
  intro m
  induction m with
  | zero=>
   intro k hk
   have:k=40:=by omega
   subst this
   rw[ZY]
   unfold ZdA
   rfl
  | succ m ih=>
   intro k hk
   rw[ZY,step k (by omega),List.range'_succ,List.find?_cons]
   cases h:((2:Int) ^ k==n) with
   | true=>rfl
   | false=>exact ih (k+1) (by omega)
 have k0:=key 40 0 rfl
 rw[show((2:Int) ^ 0)=1 from rfl] at k0
 have e:(List.range 40).any (fun j=>(2:Int) ^ j==n)=((List.range' 0 40).find? (fun j=>(2:Int) ^ j==n)).isSome:=by
  rw[List.range_eq_range',Bool.eq_iff_iff,List.any_eq_true,List.find?_isSome]
 unfold ZjU Zuf
 rw[e]
 cases hf:(List.range' 0 40).find? (fun j=>(2:Int) ^ j==n) with
 | none=>
  rw[hf] at k0
  refine⟨0,?_⟩
  show(lp (ZdA n) (1,((0:Nat):Int))).bind _=_
  rw[k0];rfl
 | some j=>
  rw[hf] at k0
  refine⟨j,?_⟩
  show(lp (ZdA n) (1,((0:Nat):Int))).bind _=_
  rw[k0];rfl
theorem Zvs (n:Nat) (h:n<=4096):Zuf (n:Int)=ZyV n:=by
 rw[Bool.eq_iff_iff]
 unfold Zuf ZyV
 rw[List.any_eq_true]
 constructor
 ·rintro ⟨k,hk,he⟩
  have hk:=List.mem_range.1 hk
  have he:(2:Nat) ^ k=n:=by have:=eq_of_beq he;exact_mod_cast this
  have h13:k<13:=by
   rcases lt_or_ge k 13 with h1 | h1
   ·exact h1
   ·have:2 ^ 13<=2 ^ k:=Nat.pow_le_pow_right (by omega) h1
    omega
  subst he
  have:((List.range 13).all fun k=>[1,2,4,8,16,32,64,128,256,512,1024,2048,4096].contains (2 ^ k))=true:=by decide
  exact List.all_eq_true.1 this k (by simpa using h13)
 ·intro h
  have:n=2 ^ 0∨n=2 ^ 1∨n=2 ^ 2∨n=2 ^ 3∨n=2 ^ 4∨n=2 ^ 5∨n=2 ^ 6∨n=2 ^ 7∨n=2 ^ 8∨n=2 ^ 9∨n=2 ^ 10∨n=2 ^ 11∨n=2 ^ 12:=by
   simpa using h
  rcases this with h | h | h | h | h | h | h | h | h | h | h | h | h<;>subst h
  ·exact⟨0,by decide,by decide⟩
  ·exact⟨1,by decide,by decide⟩
  ·exact⟨2,by decide,by decide⟩
  ·exact⟨3,by decide,by decide⟩
  ·exact⟨4,by decide,by decide⟩
  ·exact⟨5,by decide,by decide⟩
  ·exact⟨6,by decide,by decide⟩
  ·exact⟨7,by decide,by decide⟩
  ·exact⟨8,by decide,by decide⟩
  ·exact⟨9,by decide,by decide⟩
  ·exact⟨10,by decide,by decide⟩
  ·exact⟨11,by decide,by decide⟩
  ·exact⟨12,by decide,by decide⟩
theorem ZGL (d:Zj):ZkF d=some (Zpe d):=by
 obtain⟨k,hk⟩:=ZCE d.period
 unfold ZkF Zpe ZcF
 simp only[hk,bS]
 by_cases h1:d.period<0
 ·have:Zuf d.period=false:=by
   unfold Zuf
   rw[List.any_eq_false]
   intro k _ he
   have he:=eq_of_beq he
   have:(0:Nat)<2 ^ k:=Nat.pow_pos (by omega)
   have:(0:Int)<2 ^ k:=by exact_mod_cast this
   omega
  rw[this,ZAp h1];rfl
 ·by_cases h2:d.period<=4096
  ·have e:d.period=((d.period.toNat:Nat):Int):=by omega
   have:Zp0 d.period=Zuf d.period:=by rw[e,Zq1 _ (by omega),Zvs _ (by omega)]
   rw[this,dT h2,dF (show ¬4096<d.period by omega)]
   cases Zuf d.period<;>cases decide (1<=d.deadline)<;>cases decide (d.deadline<=d.period)<;>rfl
  ·rw[dF h2,dT (show 4096<d.period by omega)]
   cases Zuf d.period<;>cases Zp0 d.period<;>rfl
theorem ZDX (d:Zj) (h:Zji d):ZjF d=some (!(d.parts.any ZfL)):=by
 have key:=ZcG d.parts (Zgo d) (fun _=>ZfL) (fun _ _=>.inl ()) (.inr ()) (fun i x hi hx=>by
   simp only[Zgo,ZaW hi,ZI hx,bS,Zw hi h.p,cT]
   have e1:decide (x.op<0) = !decide (0<=x.op):=by rw[<- decide_not];exact decide_eq_decide.2 (by omega)
   have e2:decide (5<x.op) = !decide (x.op<=5):=by rw[<- decide_not];exact decide_eq_decide.2 (by omega)
   have e3:decide (x.arg<0) = !decide (0<=x.arg):=by rw[<- decide_not];exact decide_eq_decide.2 (by omega)
   have e4:decide (2147483647<x.arg) = !decide (x.arg<=2147483647):=by rw[<- decide_not];exact decide_eq_decide.2 (by omega)
   have e5:decide (x.work<1) = !decide (1<=x.work):=by rw[<- decide_not];exact decide_eq_decide.2 (by omega)
   have e6:decide (100<x.work) = !decide (x.work<=100):=by rw[<- decide_not];exact decide_eq_decide.2 (by omega)
   simp only[e1,e2,e3,e4,e5,e6,ZfL,ZcF]
   cases decide (0<=x.op)<;>cases decide (x.op<=5)<;>cases decide (0<=x.arg)<;>cases decide (x.arg<=2147483647)<;>cases decide (1<=x.work)<;>cases decide (x.work<=100)<;>rfl) (by simp only[Zgo,Zbh];rfl)
 unfold ZjF
 rw[key,Zbg,ZgV]
 cases d.parts.any ZfL<;>rfl
def ZdR (n:Nat) (x:Int):Bool:=decide (0<=x)&&decide (x<(n:Int))
theorem ZuV (d:Zj) (x:Int):ZfR d x=some (ZdR d.parts.length x):=by
 unfold ZfR ZdR
 cases decide (0<=x)<;>cases decide (x<(d.parts.length:Int))<;>rfl
theorem ZzM (n:Nat) (a b:Int):two n a b=((a != b)&&(ZdR n a&&ZdR n b)):=by
 unfold two ZdR
 rw[Zo1,Zo1]
theorem Zu1 {γ R:Type} (l:List γ) (i:Nat) (hi:i<l.length) (step:Int->Option (Int⊕R)) (p:γ->Bool) (c fin:R)
  (h1:∀(k:Nat) x,k<i->l[k]? = some x->step (k:Int)=some (bif p x then .inr c else .inl ((k+1:Nat):Int)))
  (h2:step (i:Int)=some (.inr fin)):lp step 0=some (bif (l.take i).any p then c else fin):=by
 have hl:(l.take i).length=i:=by rw[length_take];omega
 have key:=ZcG (l.take i) step (fun _=>p) (fun _ _=>c) fin (fun k x hk hx=>by
   rw[hl] at hk
   refine h1 k x hk ?_
   rw[List.getElem?_take_of_lt hk] at hx
   exact hx) (by rw[hl];exact h2)
 rw[key,Zbg,ZgV]
theorem ZDH (d:Zj) (h:Zji d):Zjy d=some (!(Zhn (Zf8 d) 0 d.edges)):=by
 have key:=ZcG d.edges (Zgu d) (Zf8 d) (fun _ _=>.inl ()) (.inr ()) (fun i x hi hx=>by
   have inner:=Zu1 d.edges i hi (Zgp d (i:Int) x) (ZmN x) (.inl ()) (.inr ()) (fun k y hk hy=>by
     simp only[Zgp,ZaW hk,ZI hy,bS,Zw hk (Nat.lt_trans hi h.e),cT,ZmN]
     have e1:(y.src==x.src)=(x.src==y.src):=Bool.beq_comm
     have e2:(y.dst==x.dst)=(x.dst==y.dst):=Bool.beq_comm
     rw[e1,e2]
     cases (x.src==y.src)<;>cases (x.dst==y.dst)<;>rfl) (by simp only[Zgp,Zbh];rfl)
   simp only[Zgu,ZaW hi,ZI hx,bS,Zw hi h.e,cT,ZuV,Zf8,ZzM,inner,bne]
   cases ZdR d.parts.length x.src<;>cases ZdR d.parts.length x.dst<;>cases (x.src==x.dst)<;>cases (d.edges.take i).any (ZmN x)<;>rfl) (by simp only[Zgu,Zbh];rfl)
 unfold Zjy
 rw[key,Zbg]
 cases Zhn (Zf8 d) 0 d.edges<;>rfl
theorem Zzl (d:Zj) (h:Zji d):Zig d=some (!(Zhn (ZcK d) 0 d.futures)):=by
 have key:=ZcG d.futures (Ze1 d) (ZcK d) (fun _ _=>.inl ()) (.inr ()) (fun i x hi hx=>by
   have inner:=Zu1 d.futures i hi (ZeY d (i:Int) x) (again x) (.inl ()) (.inr ()) (fun k y hk hy=>by
     simp only[ZeY,ZaW hk,ZI hy,bS,Zw hk (Nat.lt_trans hi h.f),cT,again]
     cases (y.user==x.user)<;>cases (y.pos==x.pos)<;>rfl) (by simp only[ZeY,Zbh];rfl)
   simp only[Ze1,ZaW hi,ZI hx,bS,Zw hi h.f,cT,ZuV,ZcK,ZzM,inner,bne]
   cases h1:ZdR d.parts.length x.maker with
   | false=>cases (x.maker==x.user)<;>rfl
   | true=>
    cases h2:ZdR d.parts.length x.user with
    | false=>cases (x.maker==x.user)<;>rfl
    | true=>
     simp only[ZdR,aT,decide_eq_true_eq] at h2
     have u2:x.user.toNat<d.parts.length:=by omega
     have wa:ZdX d.parts x.user=d.parts[x.user.toNat].work:=by simp only[ZdX,gE u2]
     rw[ZDh h2.1 u2,wa]
     have e1:decide (x.pos<1) = !decide (1<=x.pos):=by rw[<- decide_not];exact decide_eq_decide.2 (by omega)
     have e2:decide (d.parts[x.user.toNat].work<=x.pos) = !decide (x.pos<=d.parts[x.user.toNat].work-1):=by rw[<- decide_not];exact decide_eq_decide.2 (by omega)
     simp only[bS,ZcF,e1,e2]
     cases (x.maker==x.user)<;>cases decide (1<=x.pos)<;>cases decide (x.pos<=d.parts[x.user.toNat].work-1)<;>cases (d.futures.take i).any (again x)<;>rfl) (by simp only[Ze1,Zbh];rfl)
 unfold Zig
 rw[key,Zbg]
 cases Zhn (ZcK d) 0 d.futures<;>rfl
theorem ZCN (d:Zj) (hd:d.parts.length<9223372036854775808) (l:LI) (hl:l.length<9223372036854775808):ZjV d l=some (Zmh d.parts.length l):=by
 have key:=ZcG l (ZhJ d l) (ZtM d.parts.length l) (fun _ _=>.inl ()) (.inr ()) (fun i x hi hx=>by
   simp only[ZhJ,ZaW hi,ZI hx,bS,Zw hi hl,cT,ZuV,ZtM,Zo1]
   show(bif ZdR d.parts.length x then _ else _)=some (bif !(ZdR d.parts.length x) || _ then _ else _)
   cases ZdR d.parts.length x with
   | false=>rfl
   | true=>
    cases i with
    | zero=>rfl
    | succ i=>
     rw[dT (show(0:Int)<((i+1:Nat):Int) by omega),Za0 (by omega),show(((i+1:Nat):Int)-1)=(i:Int) by omega]
     have hi2:l[i]? = some l[i]:=gE (by omega)
     rw[ZI hi2]
     simp only[cT,bS,Bool.not_true,Bool.false_or,hi2]
     cases decide (x<=l[i])<;>rfl) (by simp only[ZhJ,Zbh];rfl)
 unfold ZjV Zmh
 rw[key,Zbg]
 exact ZCz _ _
theorem ZCr (l:LI) (n:Int) (hl:l.length<9223372036854775808):ZjQ l n=some (l.any fun x=>n==x):=by
 have key:=ZcG l (ZhE l n) (fun _ x=>n==x) (fun _ _=>.inl ()) (.inr ()) (fun i x hi hx=>by
   have e:(x==n)=(n==x):=Bool.beq_comm
   simp only[ZhE,ZaW hi,ZI hx,bS,Zw hi hl,cT,e]
   cases (n==x)<;>rfl) (by simp only[ZhE,Zbh];rfl)
 unfold ZjQ
 rw[key,Zbg,ZgV]
 cases (l.any fun x=>n==x)<;>rfl
theorem Zy0 (d:Zj) (h:Zji d):ZhN d=some (!(d.barriers.any (Zdj d.parts.length))):=by
 have key:=ZcG d.barriers (Zd4 d) (fun _=>Zdj d.parts.length) (fun _ _=>.inl ()) (.inr ()) (fun i x hi hx=>by
   have hb:=h.i x (mG hx)
   have inner:=ZcG x.ins (Zd3 x) (fun _=>Zqt x) (fun _ _=>.inl ()) (.inr ()) (fun k y hk hy=>by
     simp only[Zd3,ZaW hk,ZI hy,bS,Zw hk hb.1,cT,ZCr _ _ hb.2,Zqt]
     cases (x.outs.any fun z=>y==z)<;>rfl) (by simp only[Zd3,Zbh];rfl)
   rw[Zbg,ZgV] at inner
   simp only[Zd4,ZaW hi,ZI hx,bS,Zw hi h.b,cT,ZCN d h.p _ hb.1,ZCN d h.p _ hb.2,Zdj,inner]
   cases Zmh d.parts.length x.ins<;>cases Zmh d.parts.length x.outs<;>cases x.ins.any (Zqt x)<;>rfl) (by simp only[Zd4,Zbh];rfl)
 unfold ZhN
 rw[key,Zbg,ZgV]
 cases d.barriers.any (Zdj d.parts.length)<;>rfl
theorem ZDJ (d:Zj) (h:Zji d):Zjx d=some (ZhI d):=by
 unfold Zjx ZhI ZoI ZcF
 simp only[ZGL,ZDX d h,ZDH d h,Zzl d h,Zy0 d h,bS]
 have e1:decide ((d.parts.length:Int)<1) = !decide (1<=(d.parts.length:Int)):=by rw[<- decide_not];exact decide_eq_decide.2 (by omega)
 have e2:decide (16<(d.parts.length:Int)) = !decide ((d.parts.length:Int)<=16):=by rw[<- decide_not];exact decide_eq_decide.2 (by omega)
 rw[e1,e2]
 cases decide (1<=(d.parts.length:Int)) with
 | false=>rfl
 | true=>
  cases decide ((d.parts.length:Int)<=16) with
  | false=>rfl
  | true=>
   cases decide ((48:Int)<d.edges.length) with
   | true=>rfl
   | false=>
    cases decide ((16:Int)<d.futures.length) with
    | true=>rfl
    | false=>
     cases decide ((4:Int)<d.barriers.length) with
     | true=>rfl
     | false=>cases Zpe d<;>cases d.parts.any ZfL<;>cases Zhn (Zf8 d) 0 d.edges<;>cases Zhn (ZcK d) 0 d.futures<;>cases d.barriers.any (Zdj d.parts.length)<;>rfl
theorem ZIN (n:Int) (h:n<=4096):Zuf n=Zp0 n:=by
 by_cases h0:n<0
 ·rw[ZAp h0]
  unfold Zuf
  rw[List.any_eq_false]
  intro k _ he
  have he:=eq_of_beq he
  have:(0:Int)<2 ^ k:=Int.pow_pos (by omega)
  omega
 ·obtain⟨m,rfl⟩:∃m:Nat,n=(m:Int):=⟨n.toNat,by omega⟩
  rw[Zvs m (by omega),Zq1 m (by omega)]
def rng (n m:Int):Bool:=decide (1<=n)&&decide (n<=m)
theorem ZLK (n m:Int):ZdU n m=some (rng n m):=by
 unfold ZdU rng
 cases decide (1<=n)<;>cases decide (n<=m)<;>rfl
noncomputable def Ze7 (s:Zf):Bool:=Zp0 s.period&&(!decide (4096<s.period)&&(rng s.deadline s.period&&(rng s.total 4096&&(rng s.long s.total&&rng s.most s.long))))
theorem Zyf (s:Zf):Zg8 s=some (bif Ze7 s then 0 else 140):=by
 obtain⟨k,hk⟩:=Zzh s.period
 unfold Zg8 Ze7
 simp only[hk,ZLK,bS]
 cases Zp0 s.period<;>cases decide (4096<s.period)<;>cases rng s.deadline s.period<;>cases rng s.total 4096<;>cases rng s.long s.total<;>cases rng s.most s.long<;>rfl
structure Zhh (s:Zf):Prop where
 p:s.period<=4096
 d1:1<=s.deadline
 d2:s.deadline<=s.period
 t1:1<=s.total
 t2:s.total<=4096
 l1:1<=s.long
 l2:s.long<=s.total
 m1:1<=s.most
 m2:s.most<=s.long
theorem Zni {s:Zf} (h:Ze7 s=true):Zhh s:=by
 unfold Ze7 rng at h
 simp only[aT,Bool.not_eq_true',decide_eq_false_iff_not,decide_eq_true_eq] at h
 obtain⟨_,h1,h2,h3,h4,h5⟩:=h
 exact⟨by omega,h2.1,h2.2,h3.1,h3.2,h4.1,h4.2,h5.1,h5.2⟩
theorem ZC5 (a b:Int) (ha:0<=a) (ha2:a<=1099511627775) (hb:0<=b) (hb2:b<=1099511627775):Zmv [a,b]=some 0:=by
 have ne:∀x:Int,0<=x->x<=1099511627775->Zdp x=some false:=fun x h1 h2=>by
  unfold Zdp
  rw[ZuB]
  unfold Znv
  rw[dF (show ¬x<0 by omega),dF (show ¬1099511627775<x by omega)]
  rfl
 have key:lp (Z1 [a,b] (fun z0=>Zdp z0)) 0=some (.inr ()):=by
  have:=ZcG [a,b] (Z1 [a,b] (fun z0=>Zdp z0)) (fun _ _=>false) (fun i _=>.inl (i:Int)) (.inr ()) (fun i x hi hx=>by
   have hx':x=a∨x=b:=by
    have:=mG hx
    simpa using this
   have e:Zdp x=some false:=by
    rcases hx' with rfl | rfl
    ·exact ne _ ha ha2
    ·exact ne _ hb hb2
   simp only[Z1,ZaW hi,ZI hx,bS,Zw hi (show [a,b].length<9223372036854775808 by simp),cT,e,cF]) (by simp only[Z1,Zbh];rfl)
  rw[this]
  rfl
 unfold Zmv ZaN
 rw[key]
 rfl
theorem ZCV (s:Zf) (h:Ze7 s=true):ZfW s=some (decide (s.deadline<s.total)):=by
 have o:=Zni h
 have o1:=o.p;have o2:=o.d1;have o3:=o.d2;have o4:=o.t1;have o5:=o.t2;have o6:=o.l1;have o7:=o.l2
 unfold ZfW
 rw[Zyf,h]
 simp only[cT,bS,beq_self_eq_true]
 unfold Zlk
 by_cases h1:s.deadline<s.total
 ·rw[dT h1]
  simp only[cT,bS]
  unfold ZeW Zdn
  by_cases h2:s.deadline<=s.long
  ·rw[dT h2]
   rfl
  ·rw[dF h2]
   have e1:w64 (s.total-s.long)=s.total-s.long:=Za0 (by omega)
   have e2:w64 (s.deadline-s.long)=s.deadline-s.long:=Za0 (by omega)
   have up:∃n,2<=n/\ZmJ (s.total-s.long) (s.deadline-s.long)=some (n,0):=by
    unfold ZmJ ZiU Zlr
    rw[ZC5 _ _ (by omega) (by omega) (by omega) (by omega)]
    have e3:w64 (s.deadline-s.long-1)=s.deadline-s.long-1:=Za0 (by omega)
    have e4:w64 (s.total-s.long+(s.deadline-s.long-1))=s.total-s.long+(s.deadline-s.long-1):=Za0 (by omega)
    have hq:2<=(s.total-s.long+(s.deadline-s.long-1)) / (s.deadline-s.long):=Int.le_ediv_of_mul_le (by omega) (by omega)
    have hq2:(s.total-s.long+(s.deadline-s.long-1)) / (s.deadline-s.long)<=s.total-s.long+(s.deadline-s.long-1):=Int.ediv_le_self _ (by omega)
    refine⟨(s.total-s.long+(s.deadline-s.long-1)) / (s.deadline-s.long),hq,?_⟩
    simp only[bS,bne_self_eq_false,cF,show((s.deadline-s.long)==0)=false by simp;omega,e3,e4]
    rw[Int.tdiv_eq_ediv_of_nonneg (by omega),Za0 (by omega)]
   obtain⟨n,n1,n2⟩:=up
   simp only[cF,e1,e2,n2,bS,beq_self_eq_true,cT]
   by_cases h3:8<n
   ·rw[dT h3];rfl
   ·rw[dF h3]
    simp only[cF,bS,show(n==1)=false by simp;omega,Bool.false_and,Bool.not_false,cT]
 ·rw[dF h1]
  rfl
theorem ZPb (a b:Int) (ha:0<=a) (ha2:a<=4096) (hb:1<=b) (hb2:b<=4096):ZmJ a b=some ((a+(b-1)) / b,0):=by
 unfold ZmJ ZiU Zlr
 rw[ZC5 _ _ (by omega) (by omega) (by omega) (by omega)]
 have e3:w64 (b-1)=b-1:=Za0 (by omega)
 have e4:w64 (a+(b-1))=a+(b-1):=Za0 (by omega)
 have h0:0<=(a+(b-1)) / b:=Int.ediv_nonneg (by omega) (by omega)
 have hq2:(a+(b-1)) / b<=a+(b-1):=Int.ediv_le_self _ (by omega)
 simp only[bS,bne_self_eq_false,cF,show(b==0)=false by simp;omega,e3,e4]
 rw[Int.tdiv_eq_ediv_of_nonneg (by omega),Za0 (by omega)]
theorem Zqo (s:Zf):Zh6 s=some (Ze7 s):=by
 obtain⟨k,hk⟩:=ZCE s.period
 unfold Zh6 Ze7 rng
 simp only[hk,bS]
 by_cases hp:s.period<=4096
 ·rw[ZIN _ hp,dT hp,dF (show ¬4096<s.period by omega)]
  cases Zp0 s.period with
  | false=>rfl
  | true=>
   cases decide (1<=s.deadline) with
   | false=>rfl
   | true=>
    cases decide (s.deadline<=s.period) with
    | false=>rfl
    | true=>
     cases decide (1<=s.total) with
     | false=>rfl
     | true=>cases decide (s.total<=4096)<;>cases decide (1<=s.long)<;>cases decide (s.long<=s.total)<;>cases decide (1<=s.most)<;>cases decide (s.most<=s.long)<;>rfl
 ·rw[dF hp,dT (show 4096<s.period by omega)]
  cases Zuf s.period<;>cases Zp0 s.period<;>rfl
def upN (s:Zf):Int:=(s.total-s.long+(s.deadline-s.long-1)) / (s.deadline-s.long)
noncomputable def Zbf (s:Zf):Int×Int:=bif Ze7 s then (bif decide (s.deadline<s.total) then (bif decide (s.deadline<=s.long) then (0,141) else bif decide (8<upN s) then (0,142) else (upN s,0)) else (1,0)) else (0,140)
theorem ZEW {s:Zf} (h:s.long<s.deadline) (n:Int):upN s<=n↔s.total-s.long<=n*(s.deadline-s.long):=by
 have hb:0<s.deadline-s.long:=by omega
 have:=Int.ediv_lt_iff_lt_mul (a:=s.total-s.long+(s.deadline-s.long-1)) (b:=n+1) hb
 rw[Int.add_mul,Int.one_mul] at this
 unfold upN
 omega
theorem ZCC (s:Zf):Zh3 s=some (Zbf s):=by
 unfold Zh3 Zbf
 rw[Zyf]
 cases h:Ze7 s with
 | false=>rfl
 | true=>
  have o:=Zni h
  have o1:=o.p;have o2:=o.d1;have o3:=o.d2;have o4:=o.t1;have o5:=o.t2;have o6:=o.l1;have o7:=o.l2
  simp only[cT,bS,bne_self_eq_false,cF]
  unfold Zlk
  cases h1:decide (s.deadline<s.total) with
  | false=>rfl
  | true=>
   have h1:=of_decide_eq_true h1
   simp only[cT,bS]
   unfold ZeW
   by_cases h2:s.deadline<=s.long
   ·rw[dT h2];rfl
   ·rw[dF h2]
    have e1:w64 (s.total-s.long)=s.total-s.long:=Za0 (by omega)
    have e2:w64 (s.deadline-s.long)=s.deadline-s.long:=Za0 (by omega)
    simp only[cF,e1,e2,ZPb _ _ (show 0<=s.total-s.long by omega) (by omega) (show 1<=s.deadline-s.long by omega) (by omega),bS,beq_self_eq_true,cT]
    show(bif decide (8<upN s) then _ else _:Option ZiK).bind _=_
    cases decide (8<upN s)<;>rfl
theorem ZmB (s:Zf):Zh5 s=some (Zbf s):=by
 unfold Zh5 Zbf
 rw[Zqo]
 cases h:Ze7 s with
 | false=>rfl
 | true=>
  have o:=Zni h
  have o1:=o.p;have o2:=o.d1;have o3:=o.d2;have o4:=o.t1;have o5:=o.t2;have o6:=o.l1;have o7:=o.l2
  simp only[cT,bS]
  by_cases h1:s.deadline<s.total
  ·rw[dT h1,dF (show ¬s.total<=s.deadline by omega)]
   by_cases h2:s.deadline<=s.long
   ·rw[dT h2];rfl
   ·rw[dF h2]
    have e1:w64 (s.total-s.long)=s.total-s.long:=Za0 (by omega)
    have e2:w64 (s.deadline-s.long)=s.deadline-s.long:=Za0 (by omega)
    have u:=ZEW (s:=s) (by omega)
    have u1:1<=upN s:=by
     have:=(u 0).1
     rw[Int.zero_mul] at this
     omega
    have key:∀m k:Nat,k+m=9->1<=k->(k:Int)<=upN s->lp (Zgf s) (k:Int)=some (bif decide (8<upN s) then .inr () else .inl (upN s)):=by
     intro m
     induction m with
     | zero=>
      intro k hk _ hu
      have:k=9:=by omega
      subst this
      rw[ZY]
      simp only[Zgf,dF (show ¬(((9:Nat):Int)<=8) by omega),cF,dT (show 8<upN s by omega),cT]
     | succ m ih=>
      intro k hk h1k hu
      have hb:(k:Int)*(s.deadline-s.long)<=8*4096:=by
       have:=Int.mul_le_mul (show(k:Int)<=8 by omega) (show s.deadline-s.long<=4096 by omega) (by omega) (by omega)
       exact this
      have hb0:0<=(k:Int)*(s.deadline-s.long):=Int.mul_nonneg (by omega) (by omega)
      have e3:w64 ((k:Int)*(s.deadline-s.long))=(k:Int)*(s.deadline-s.long):=Za0 (by omega)
      have e4:w64 ((k:Int)+1)=((k+1:Nat):Int):=Zw (show k<100 by omega) (by omega)
      rw[ZY]
      simp only[Zgf,dT (show(k:Int)<=8 by omega),cT,e1,e2,e3,e4]
      by_cases hle:upN s<=(k:Int)
      ·rw[dT ((u k).1 hle),dF (show ¬8<upN s by omega)]
       simp only[cT,cF]
       rw[show upN s=(k:Int) by omega]
      ·rw[dF (fun h=>hle ((u k).2 h))]
       simp only[cF]
       exact ih (k+1) (by omega) (by omega) (by omega)
    have k1:=key 8 1 rfl (by omega) (by simpa using u1)
    rw[show((1:Nat):Int)=1 from rfl] at k1
    rw[k1]
    cases decide (8<upN s)<;>rfl
  ·rw[dF h1,dT (show s.total<=s.deadline by omega)]
   rfl
open Go Go.Proofs.YtmnglncebfabpaaGreatDoorE Go.Sort
section
structure OKA (P:Int->Prop) (d:Array Int):Prop where
 el:∀i,i<d.size->P d[i]!
 sz:d.size<=1000
theorem ZbZ {d:Array Int}{i:Nat} (h:i<d.size):ZA d.toList (i:Int)=some d[i]!:=by
 refine ZI ?_
 rw[Array.getElem?_toList,Array.getElem?_eq_getElem h,getElem!_pos d i h]
theorem ZJX (d:Array Int) (i:Nat) (x:Int):List.set d.toList i x=(d.setIfInBounds i x).toList:=by simp
theorem ZjN (d:Array Int) (i j:Nat):List.set (List.set d.toList i d[j]!) j d[i]! = (swp d i j).toList:=by
 unfold swp
 rw[ZJX,ZJX]
theorem ZoO {d:Array Int}{i j:Nat}{x:Int} (h:j<d.size):∃y,ZA (List.set d.toList i x) (j:Int)=some y:=by
 rw[ZJX]
 exact⟨_,ZbZ (by simpa using h)⟩
theorem Zak (d:Array Int) (i j:Nat):(swp d i j).size=d.size:=by unfold swp;simp
theorem ZJk {d:Array Int}{i j k:Nat} (hi:i<d.size) (hj:j<d.size):(swp d i j)[k]! = if k=j then d[i]! else if k=i then d[j]! else d[k]!:=by
 unfold swp
 by_cases hk:k<d.size
 ·rw[getElem!_pos _ k (by simpa using hk),getElem!_pos d k hk,Array.getElem_setIfInBounds (by simpa using hk)]
  by_cases h1:j=k
  ·rw[if_pos h1,if_pos h1.symm]
  ·rw[if_neg h1,if_neg (Ne.symm h1),Array.getElem_setIfInBounds hk]
   by_cases h2:i=k
   ·rw[if_pos h2,if_pos h2.symm]
   ·rw[if_neg h2,if_neg (Ne.symm h2)]
 ·rw[getElem!_neg _ k (by simpa using hk),getElem!_neg d k hk,if_neg (by omega),if_neg (by omega)]
theorem OKA.swp {P:Int->Prop}{d:Array Int} (h:OKA P d) {i j:Nat} (hi:i<d.size) (hj:j<d.size):OKA P (swp d i j):=
 ⟨fun k hk=>by
  rw[Zak] at hk
  rw[ZJk hi hj]
  split
  ·exact h.el _ hi
  ·split
   ·exact h.el _ hj
   ·exact h.el _ hk,by rw[Zak];exact h.sz⟩
theorem ZiD {a b:Nat}:decide ((a:Int)<(b:Int))=decide (a<b):=decide_eq_decide.2 (by omega)
theorem ZjZ {a b:Nat}:decide ((a:Int)<=(b:Int))=decide (a<=b):=decide_eq_decide.2 (by omega)
theorem ZaG {z:Int}{n:Nat} (h:z=(n:Int)) (hn:n<9223372036854775808):w64 z=(n:Int):=by rw[h,Za0 (by omega)]
section
variable (cmp:Int->Int->Option Int) (c:Int->Int->Int) (P:Int->Prop)
def ZwD:Prop:=∀x y,P x->P y->cmp x y=some (c x y)
def ltC (x y:Int):Bool:=decide (c x y<0)
variable {cmp c P} (hc:ZwD cmp c P)
include hc
theorem Zw1 (a:Nat):∀(j:Nat) (d:Array Int),OKA P d->j<d.size->lp (Z4 (a:Int) cmp) ((j:Int),d.toList)=some (insInner (ltC c) a j d).toList/\OKA P (insInner (ltC c) a j d)/\(insInner (ltC c) a j d).size=d.size
 | 0,d,hd,hj=>by
  rw[ZY]
  simp only[Z4,dF (show ¬((a:Int)<((0:Nat):Int)) by omega),cF]
  exact⟨rfl,hd,rfl⟩
 | j+1,d,hd,hj=>by
  have hj':j<d.size:=by omega
  have hz:=hd.sz
  rw[ZY]
  have e2:w64 (((j+1:Nat):Int)-1)=(j:Int):=ZaG (by omega) (by omega)
  have e3:=hc _ _ (hd.el (j+1) hj) (hd.el j hj')
  unfold insInner
  by_cases h1:a<j+1
  ·by_cases h2:c d[j+1]! d[j]! < 0
   ·have ih:=Zw1 a j (swp d (j+1) j) (hd.swp hj hj') (by rw[Zak];omega)
    obtain⟨y,e5⟩:=ZoO (i:=j+1) (x:=d[j]!) hj'
    simp only[Z4,ZiD,dT h1,cT,ZbZ hj,e2,ZbZ hj',bS,e3,dT h2,toNat_natCast,e5,ZjN]
    rw[if_pos (by simp[h1,h2,ltC])]
    rw[Zak] at ih
    exact ih
   ·simp only[Z4,ZiD,dT h1,cT,ZbZ hj,e2,ZbZ hj',bS,e3,dF h2,cF]
    rw[if_neg (by simp[h1,h2,ltC])]
    exact⟨rfl,hd,rfl⟩
  ·simp only[Z4,ZiD,dF h1,cF]
   rw[if_neg (by simp[h1])]
   exact⟨rfl,hd,rfl⟩
theorem Zxy (a b:Nat):∀(k i:Nat) (d:Array Int),i+k=max i b->b<=d.size->OKA P d->lp (Zat (a:Int) (b:Int) cmp) ((i:Int),d.toList)=some (insOuter (ltC c) a b i d).toList/\OKA P (insOuter (ltC c) a b i d)/\(insOuter (ltC c) a b i d).size=d.size
 | 0,i,d,hi,hb,hd=>by
  rw[ZY]
  unfold insOuter
  simp only[Zat,ZiD,dF (show ¬i<b by omega),cF]
  rw[if_neg (by omega)]
  exact⟨rfl,hd,rfl⟩
 | k+1,i,d,hi,hb,hd=>by
  have hib:i<b:=by omega
  have hz:=hd.sz
  obtain⟨h1,h2,h3⟩:=Zw1 hc a i d hd (by omega)
  have ih:=Zxy a b k (i+1) (insInner (ltC c) a i d) (by omega) (by rw[h3];exact hb) h2
  rw[ZY]
  unfold insOuter
  simp only[Zat,ZiD,dT hib,cT,h1,bS,Zw hib (by omega)]
  rw[if_pos hib,<- h3]
  exact ih
theorem ZJK (a b:Nat) (d:Array Int) (hb:b<=d.size) (ha:a<=b) (hd:OKA P d):Z3 (a:Int) (b:Int) cmp d.toList=some (insertionSort (ltC c) d a b).toList/\OKA P (insertionSort (ltC c) d a b)/\(insertionSort (ltC c) d a b).size=d.size:=by
 have hz:=hd.sz
 obtain⟨h1,h2⟩:=Zxy hc a b (max (a+1) b-(a+1)) (a+1) d (by omega) hb hd
 unfold Z3 insertionSort
 rw[ZaG (n:=a+1) (by omega) (by omega),h1]
 exact⟨rfl,h2⟩
theorem ZIl (hi first:Nat):∀(k root:Nat) (d:Array Int),hi-root<=k->root<=hi->first+hi<=d.size->OKA P d->∃r,lp (ZN (hi:Int) (first:Int) cmp) ((root:Int),d.toList)=some r/\(r = .inl (siftDown (ltC c) hi first root d).toList∨r = .inr (siftDown (ltC c) hi first root d).toList)/\OKA P (siftDown (ltC c) hi first root d)/\(siftDown (ltC c) hi first root d).size=d.size:=by
 intro k
 induction k with
 | zero=>
  intro root d hk hr hs hd
  have hz:=hd.sz
  rw[ZY]
  unfold siftDown
  have e0:w64 (2*(root:Int))=((2*root:Nat):Int):=ZaG (by omega) (by omega)
  have e1:w64 (((2*root:Nat):Int)+1)=((2*root+1:Nat):Int):=ZaG (by omega) (by omega)
  simp only[ZN,e0,e1,ZjZ,dT (show hi<=2*root+1 by omega),cT]
  rw[dif_pos (by omega)]
  exact⟨_,rfl,.inl rfl,hd,rfl⟩
 | succ k ih=>
  intro root d hk hr hs hd
  have hz:=hd.sz
  rw[ZY]
  unfold siftDown
  have e0:w64 (2*(root:Int))=((2*root:Nat):Int):=ZaG (by omega) (by omega)
  have e1:w64 (((2*root:Nat):Int)+1)=((2*root+1:Nat):Int):=ZaG (by omega) (by omega)
  by_cases h1:hi<=2*root+1
  ·simp only[ZN,e0,e1,ZjZ,dT h1,cT]
   rw[dif_pos (by omega)]
   exact⟨_,rfl,.inl rfl,hd,rfl⟩
  have e2:w64 (((2*root+1:Nat):Int)+1)=((2*root+2:Nat):Int):=ZaG (by omega) (by omega)
  have er:w64 ((first:Int)+(root:Int))=((first+root:Nat):Int):=ZaG (by omega) (by omega)
  have ef:w64 ((first:Int)+((2*root+1:Nat):Int))=((first+(2*root+1):Nat):Int):=ZaG (by omega) (by omega)
  have ef1:w64 (((first+(2*root+1):Nat):Int)+1)=((first+(2*root+1)+1:Nat):Int):=ZaG (by omega) (by omega)
  have ef2:w64 ((first:Int)+((2*root+2:Nat):Int))=((first+(2*root+2):Nat):Int):=ZaG (by omega) (by omega)
  have ir:first+root<d.size:=by omega
  have i1:first+(2*root+1)<d.size:=by omega
  have cr1:=hc _ _ (hd.el _ ir) (hd.el _ i1)
  have one:∀{r:LI⊕LI} {A:Array Int},A=d->(r = .inl d.toList∨r = .inr d.toList)->∃q,some r=some q/\(q = .inl A.toList∨q = .inr A.toList)/\OKA P A/\A.size=d.size:=fun hA hr=>by
   subst hA
   exact⟨_,rfl,hr,hd,rfl⟩
  rw[dif_neg (by omega)]
  by_cases h2:2*root+2<hi
  ·have i2:first+(2*root+2)<d.size:=by omega
   have i2':first+(2*root+1)+1<d.size:=by omega
   have c12:=hc _ _ (hd.el _ i1) (hd.el _ i2')
   have cr2:=hc _ _ (hd.el _ ir) (hd.el _ i2)
   by_cases h3:c d[first+(2*root+1)]! d[first+(2*root+1)+1]! < 0
   ·rw[if_pos (by simp[h3,ltC];omega)]
    by_cases h4:c d[first+root]! d[first+(2*root+2)]! < 0
    ·obtain⟨y,em⟩:=ZoO (i:=first+root) (x:=d[first+(2*root+2)]!) i2
     simp only[ZN,e0,e1,e2,ZjZ,ZiD,dF h1,dT h2,cF,cT,ef,ef1,ef2,er,ZbZ i1,ZbZ i2',ZbZ ir,ZbZ i2,bS,c12,cr2,dT h3,dT h4,toNat_natCast,em,ZjN]
     rw[if_neg (by simp[h4,ltC]),dif_pos h2]
     have:=ih (2*root+2) (swp d (first+root) (first+(2*root+2))) (by omega) (by omega) (by rw[Zak];omega) (hd.swp ir i2)
     rw[Zak] at this
     exact this
    ·simp only[ZN,e0,e1,e2,ZjZ,ZiD,dF h1,dT h2,cF,cT,ef,ef1,ef2,er,ZbZ i1,ZbZ i2',ZbZ ir,ZbZ i2,bS,c12,cr2,dT h3,dF h4]
     rw[if_pos (by simp[h4,ltC])]
     exact one rfl (.inr rfl)
   ·rw[if_neg (by simp[h3,ltC])]
    by_cases h4:c d[first+root]! d[first+(2*root+1)]! < 0
    ·obtain⟨y,em⟩:=ZoO (i:=first+root) (x:=d[first+(2*root+1)]!) i1
     simp only[ZN,e0,e1,e2,ZjZ,ZiD,dF h1,dT h2,cF,cT,ef,ef1,ef2,er,ZbZ i1,ZbZ i2',ZbZ ir,bS,c12,cr1,dF h3,dT h4,toNat_natCast,em,ZjN]
     rw[if_neg (by simp[h4,ltC])]
     have:=ih (2*root+1) (swp d (first+root) (first+(2*root+1))) (by omega) (by omega) (by rw[Zak];omega) (hd.swp ir i1)
     rw[Zak] at this
     exact this
    ·simp only[ZN,e0,e1,e2,ZjZ,ZiD,dF h1,dT h2,cF,cT,ef,ef1,ef2,er,ZbZ i1,ZbZ i2',ZbZ ir,bS,c12,cr1,dF h3,dF h4]
     rw[if_pos (by simp[h4,ltC])]
     exact one rfl (.inr rfl)
  ·rw[if_neg (by simp;omega)]
   by_cases h4:c d[first+root]! d[first+(2*root+1)]! < 0
   ·obtain⟨y,em⟩:=ZoO (i:=first+root) (x:=d[first+(2*root+1)]!) i1
    simp only[ZN,e0,e1,e2,ZjZ,ZiD,dF h1,dF h2,cF,cT,ef,er,ZbZ i1,ZbZ ir,bS,cr1,dT h4,toNat_natCast,em,ZjN]
    rw[if_neg (by simp[h4,ltC])]
    have:=ih (2*root+1) (swp d (first+root) (first+(2*root+1))) (by omega) (by omega) (by rw[Zak];omega) (hd.swp ir i1)
    rw[Zak] at this
    exact this
   ·simp only[ZN,e0,e1,e2,ZjZ,ZiD,dF h1,dF h2,cF,cT,ef,er,ZbZ i1,ZbZ ir,bS,cr1,dF h4]
    rw[if_pos (by simp[h4,ltC])]
    exact one rfl (.inr rfl)
theorem ZId (hi first root:Nat) (d:Array Int) (hr:root<=hi) (hs:first+hi<=d.size) (hd:OKA P d):ZaM (root:Int) (hi:Int) (first:Int) cmp d.toList=some (siftDown (ltC c) hi first root d).toList/\OKA P (siftDown (ltC c) hi first root d)/\(siftDown (ltC c) hi first root d).size=d.size:=by
 obtain⟨r,h1,h2,h3⟩:=ZIl hc hi first _ root d (Nat.le_refl _) hr hs hd
 unfold ZaM
 rw[h1]
 rcases h2 with rfl | rfl
 ·exact⟨rfl,h3⟩
 ·exact⟨rfl,h3⟩
theorem ZCF (hi first b:Nat) (hb:(b:Int)=first+hi):∀(k:Nat) (d:Array Int),k<=hi+1->first+hi<=d.size->OKA P d->lp (ZaQ (first:Int) (b:Int) cmp) ((k:Int)-1,d.toList)=some (heapBuild (ltC c) hi first k d).toList/\OKA P (heapBuild (ltC c) hi first k d)/\(heapBuild (ltC c) hi first k d).size=d.size
 | 0,d,hk,hs,hd=>by
  rw[ZY]
  simp only[ZaQ,dF (show ¬((0:Int)<=((0:Nat):Int)-1) by omega),cF]
  exact⟨rfl,hd,rfl⟩
 | k+1,d,hk,hs,hd=>by
  have hz:=hd.sz
  obtain⟨h1,h2,h3⟩:=ZId hc hi first k d (by omega) hs hd
  have ih:=ZCF hi first b hb k (siftDown (ltC c) hi first k d) (by omega) (by rw[h3];exact hs) h2
  have e1:w64 ((b:Int)-(first:Int))=(hi:Int):=ZaG (by omega) (by omega)
  have e2:(((k+1:Nat):Int)-1)=(k:Int):=by omega
  have e3:w64 ((k:Int)-1)=(k:Int)-1:=Za0 (by omega)
  rw[ZY,e2]
  simp only[ZaQ,dT (show(0:Int)<=(k:Int) by omega),cT,e1,h1,bS,e3]
  rw[<- h3]
  exact ih
theorem ZJG (first:Nat):∀(k:Nat) (d:Array Int),first+k<=d.size->OKA P d->lp (ZaS (first:Int) cmp) ((k:Int)-1,d.toList)=some (heapPop (ltC c) first k d).toList/\OKA P (heapPop (ltC c) first k d)/\(heapPop (ltC c) first k d).size=d.size
 | 0,d,hs,hd=>by
  rw[ZY]
  simp only[ZaS,dF (show ¬((0:Int)<=((0:Nat):Int)-1) by omega),cF]
  exact⟨rfl,hd,rfl⟩
 | k+1,d,hs,hd=>by
  have hz:=hd.sz
  have i1:first+k<d.size:=by omega
  have i2:first<d.size:=by omega
  obtain⟨h1,h2,h3⟩:=ZId hc k first 0 (swp d first (first+k)) (by omega) (by rw[Zak];omega) (hd.swp i2 i1)
  rw[Zak] at h3
  have ih:=ZJG first k (siftDown (ltC c) k first 0 (swp d first (first+k))) (by rw[h3];omega) h2
  have e2:(((k+1:Nat):Int)-1)=(k:Int):=by omega
  have e3:w64 ((k:Int)-1)=(k:Int)-1:=Za0 (by omega)
  have e4:w64 ((first:Int)+(k:Int))=((first+k:Nat):Int):=ZaG (by omega) (by omega)
  obtain⟨y,em⟩:=ZoO (i:=first) (x:=d[first+k]!) i1
  have h1':ZaM 0 (k:Int) (first:Int) cmp (swp d first (first+k)).toList=_:=h1
  rw[ZY,e2]
  simp only[ZaS,dT (show(0:Int)<=(k:Int) by omega),cT,e4,ZbZ i1,ZbZ i2,bS,toNat_natCast,em,ZjN,h1',e3]
  rw[<- h3]
  exact ih
theorem ZKN (a b:Nat) (d:Array Int) (ha:a<=b) (hb:b<=d.size) (hd:OKA P d):Zaf (a:Int) (b:Int) cmp d.toList=some (heapSort (ltC c) d a b).toList/\OKA P (heapSort (ltC c) d a b)/\(heapSort (ltC c) d a b).size=d.size:=by
 have hz:=hd.sz
 have e1:w64 ((b:Int)-(a:Int))=((b-a:Nat):Int):=ZaG (by omega) (by omega)
 have e2:w64 (((b-a:Nat):Int)-1)=((b-a:Nat):Int)-1:=Za0 (by omega)
 have e3:w64 (Int.tdiv (((b-a:Nat):Int)-1) 2)=(((b-a-1) / 2+1:Nat):Int)-1:=by
  by_cases h:b-a=0
  ·rw[h];rfl
  ·rw[Int.tdiv_eq_ediv_of_nonneg (by omega),Za0 (by omega)]
   omega
 obtain⟨h1,h2,h3⟩:=ZCF hc (b-a) a b (by omega) ((b-a-1) / 2+1) d (by omega) (by omega) hd
 obtain⟨h4,h5,h6⟩:=ZJG hc a (b-a) (heapBuild (ltC c) (b-a) a ((b-a-1) / 2+1) d) (by rw[h3];omega) h2
 unfold Zaf heapSort
 simp only[e1,e2,e3,h1,h4,bS]
 exact⟨trivial,h5,by rw[h6,h3]⟩
end
end
section
theorem Ztk (step:Int->Option (Int⊕Int)) (p:Int->Bool) (d:Array Int) (j:Nat) (h:∀i:Nat,i<=j+2->step (i:Int)=some (bif decide (i<=j)&&p d[i]! then .inl ((i+1:Nat):Int) else .inr (i:Int))) :
  ∀(k i:Nat),j+2-i<=k->i<=j+2->lp step (i:Int)=some ((scanUp p d j i:Nat):Int)/\i<=scanUp p d j i/\scanUp p d j i<=max i (j+1):=by
 intro k
 induction k with
 | zero=>
  intro i hk hi
  rw[ZY,h i hi]
  unfold scanUp
  rw[dF (show ¬i<=j by omega)]
  simp[show ¬i<=j by omega]
  omega
 | succ k ih=>
  intro i hk hi
  rw[ZY,h i hi]
  unfold scanUp
  by_cases h1:i<=j
  ·cases h2:p d[i]! with
   | true=>
    rw[dT h1,if_pos (by simp[h1])]
    obtain⟨a1,a2,a3⟩:=ih (i+1) (by omega) (by omega)
    exact⟨a1,by omega,by omega⟩
   | false=>
    rw[dT h1,if_neg (by simp)]
    exact⟨rfl,by omega,by omega⟩
  ·rw[dF h1,if_neg (by simp[h1])]
   exact⟨rfl,by omega,by omega⟩
theorem Zmk (step:Int->Option (Int⊕Int)) (p:Int->Bool) (d:Array Int) (i:Nat) (hi:1<=i):∀(j:Nat),(∀k:Nat,k<=j->step (k:Int)=some (bif decide (i<=k)&&p d[k]! then .inl ((k:Int)-1) else .inr (k:Int)))->lp step (j:Int)=some ((scanDown p d i j:Nat):Int)/\scanDown p d i j<=j
 | 0,h=>by
  rw[ZY,h 0 (Nat.le_refl _),dF (show ¬i<=0 by omega)]
  exact⟨rfl,Nat.le_refl _⟩
 | j+1,h=>by
  rw[ZY,h (j+1) (Nat.le_refl _)]
  unfold scanDown
  by_cases h1:i<=j+1
  ·cases h2:p d[j+1]! with
   | true=>
    rw[dT h1,if_pos (by simp[h1])]
    have ih:=Zmk step p d i hi j (fun k hk=>h k (by omega))
    have e:(((j+1:Nat):Int)-1)=(j:Int):=by omega
    simp only[Bool.and_self,cT,e]
    exact⟨ih.1,by omega⟩
   | false=>
    rw[dT h1,if_neg (by simp)]
    exact⟨rfl,Nat.le_refl _⟩
  ·rw[dF h1,if_neg (by simp[h1])]
   exact⟨rfl,Nat.le_refl _⟩
section
variable {cmp:Int->Int->Option Int} {c:Int->Int->Int} {P:Int->Prop} (hc:ZwD cmp c P)
include hc
theorem ZEn (a:Nat):∀(k i j:Nat) (d:Array Int),j+3-i<=k->1<=i->i<=j+2->j<d.size->a<d.size->OKA P d ->
  lp (Za9 (a:Int) cmp) ((i:Int),(j:Int),d.toList)=some (((partLoop (ltC c) a i j d).1:Int),(partLoop (ltC c) a i j d).2.toList)/\OKA P (partLoop (ltC c) a i j d).2/\(partLoop (ltC c) a i j d).2.size=d.size/\(partLoop (ltC c) a i j d).1<=j:=by
 intro k
 induction k with
 | zero=>
  intro i j d hk h1 h2 hj ha hd
  exact absurd hk (by omega)
 | succ k ih=>
  intro i j d hk h1 h2 hj ha hd
  have hz:=hd.sz
  obtain⟨u1,u2,u3⟩:=Ztk (ZaL (a:Int) cmp ((i:Int),(j:Int),d.toList)) (fun x=>ltC c x d[a]!) d j (fun m hm=>by
    by_cases hmj:m<=j
    ·have im:m<d.size:=by omega
     simp only[ZaL,ZjZ,dT hmj,cT,ZbZ im,ZbZ ha,bS,hc _ _ (hd.el _ im) (hd.el _ ha),ltC,Bool.true_and,Zw (show m<j+1 by omega) (by omega)]
     cases decide (c d[m]! d[a]! < 0)<;>rfl
    ·simp only[ZaL,ZjZ,dF hmj,cF,Bool.false_and]) (j+2-i) i (Nat.le_refl _) h2
  generalize hi2:scanUp (fun x=>ltC c x d[a]!) d j i=i2 at u1 u2 u3
  obtain⟨v1,v2⟩:=Zmk (ZaH (a:Int) cmp ((i:Int),(j:Int),d.toList) (i2:Int)) (fun x=>!ltC c x d[a]!) d i2 (by omega) j (fun m hm=>by
    have im:m<d.size:=by omega
    by_cases hmi:i2<=m
    ·simp only[ZaH,ZjZ,dT hmi,cT,ZbZ im,ZbZ ha,bS,hc _ _ (hd.el _ im) (hd.el _ ha),ltC,Bool.true_and,ZiI (show -9223372036854775808<=(m:Int)-1 by omega) (by omega)]
     cases decide (c d[m]! d[a]! < 0)<;>rfl
    ·simp only[ZaH,ZjZ,dF hmi,cF,Bool.false_and])
  generalize hj2:scanDown (fun x=>!ltC c x d[a]!) d i2 j=j2 at v1 v2
  rw[ZY]
  unfold partLoop
  simp only[Za9,u1,v1,bS,ZiD,hi2,hj2]
  by_cases hij:j2<i2
  ·rw[dT hij,if_pos hij]
   exact⟨rfl,hd,rfl,v2⟩
  ·have k1:i2<d.size:=by omega
   have k2:j2<d.size:=by omega
   obtain⟨y,em⟩:=ZoO (i:=i2) (x:=d[j2]!) k2
   have e1:w64 ((i2:Int)+1)=((i2+1:Nat):Int):=ZaG (by omega) (by omega)
   have e2:w64 ((j2:Int)-1)=((j2-1:Nat):Int):=ZaG (by omega) (by omega)
   rw[dF hij,if_neg hij,dif_pos (by omega)]
   simp only[cF,ZbZ k1,ZbZ k2,bS,toNat_natCast,em,ZjN,e1,e2]
   obtain⟨q1,q2,q3,q4⟩:=ih (i2+1) (j2-1) (swp d i2 j2) (by omega) (by omega) (by omega) (by rw[Zak];omega) (by rw[Zak];exact ha) (hd.swp k1 k2)
   rw[Zak] at q3
   exact⟨q1,q2,q3,by omega⟩
theorem ZI0 (a b pivot:Nat) (d:Array Int) (h1:a<=pivot) (h2:pivot<b) (hb:b<=d.size) (hd:OKA P d) :
  Zu (a:Int) (b:Int) (pivot:Int) cmp d.toList=some (bif (partition (ltC c) d a b pivot).2.1 then .inl (((partition (ltC c) d a b pivot).1:Int),(partition (ltC c) d a b pivot).2.2.toList) else .inr (((partition (ltC c) d a b pivot).1:Int),(partition (ltC c) d a b pivot).2.2.toList)) /\
  OKA P (partition (ltC c) d a b pivot).2.2/\(partition (ltC c) d a b pivot).2.2.size=d.size:=by
 have hz:=hd.sz
 have ip:pivot<d.size:=by omega
 have ia:a<d.size:=by omega
 have hd1:=hd.swp ia ip
 have s1:=Zak d a pivot
 obtain⟨y,em⟩:=ZoO (i:=a) (x:=d[pivot]!) ip
 have e1:w64 ((a:Int)+1)=((a+1:Nat):Int):=ZaG (by omega) (by omega)
 have e2:w64 ((b:Int)-1)=((b-1:Nat):Int):=ZaG (by omega) (by omega)
 have sw:=ZjN d a pivot
 have ia1:a<(swp d a pivot).size:=by omega
 obtain⟨u1,u2,u3⟩:=Ztk (ZaK (a:Int) (b:Int) (pivot:Int) d.toList cmp d[pivot]! d[a]!) (fun x=>ltC c x (swp d a pivot)[a]!) (swp d a pivot) (b-1) (fun m hm=>by
   by_cases hmj:m<=b-1
   ·have im:m<(swp d a pivot).size:=by omega
    simp only[ZaK,e2,ZjZ,dT hmj,cT,toNat_natCast,sw,ZbZ im,ZbZ ia1,bS,hc _ _ (hd1.el _ im) (hd1.el _ ia1),ltC,Bool.true_and,Zw (show m<b by omega) (by omega)]
    cases decide (c (swp d a pivot)[m]! (swp d a pivot)[a]! < 0)<;>rfl
   ·simp only[ZaK,e2,ZjZ,dF hmj,cF,Bool.false_and]) (b-1+2-(a+1)) (a+1) (Nat.le_refl _) (by omega)
 generalize hi2:scanUp (fun x=>ltC c x (swp d a pivot)[a]!) (swp d a pivot) (b-1) (a+1)=i2 at u1 u2 u3
 obtain⟨v1,v2⟩:=Zmk (ZaJ (a:Int) (pivot:Int) d.toList cmp d[pivot]! d[a]! (i2:Int)) (fun x=>!ltC c x (swp d a pivot)[a]!) (swp d a pivot) i2 (by omega) (b-1) (fun m hm=>by
   have im:m<(swp d a pivot).size:=by omega
   by_cases hmi:i2<=m
   ·simp only[ZaJ,ZjZ,dT hmi,cT,toNat_natCast,sw,ZbZ im,ZbZ ia1,bS,hc _ _ (hd1.el _ im) (hd1.el _ ia1),ltC,Bool.true_and,ZiI (show -9223372036854775808<=(m:Int)-1 by omega) (by omega)]
    cases decide (c (swp d a pivot)[m]! (swp d a pivot)[a]! < 0)<;>rfl
   ·simp only[ZaJ,ZjZ,dF hmi,cF,Bool.false_and])
 generalize hj2:scanDown (fun x=>!ltC c x (swp d a pivot)[a]!) (swp d a pivot) i2 (b-1)=j2 at v1 v2
 unfold Zu partition
 simp only[ZbZ ip,ZbZ ia,bS,toNat_natCast,em,e1,e2,u1,v1,ZiD,sw,hi2,hj2]
 have kj:j2<(swp d a pivot).size:=by omega
 by_cases hij:j2<i2
 ·obtain⟨y2,em2⟩:=ZoO (i:=j2) (x:=(swp d a pivot)[a]!) ia1
  rw[dT hij,if_pos hij]
  simp only[cT,ZbZ ia1,ZbZ kj,bS,toNat_natCast,em2,ZjN]
  exact⟨trivial,hd1.swp kj ia1,by rw[Zak,s1]⟩
 ·have ki:i2<(swp d a pivot).size:=by omega
  obtain⟨y2,em2⟩:=ZoO (i:=i2) (x:=(swp d a pivot)[j2]!) kj
  have e3:w64 ((i2:Int)+1)=((i2+1:Nat):Int):=ZaG (by omega) (by omega)
  have e4:w64 ((j2:Int)-1)=((j2-1:Nat):Int):=ZaG (by omega) (by omega)
  obtain⟨q1,q2,q3,q4⟩:=ZEn hc a (j2-1+3-(i2+1)) (i2+1) (j2-1) (swp (swp d a pivot) i2 j2) (by omega) (by omega) (by omega) (by rw[Zak];omega) (by rw[Zak];exact ia1) (hd1.swp ki kj)
  rw[Zak,s1] at q3
  rw[dF hij,if_neg hij]
  simp only[cF,ZbZ ki,ZbZ kj,bS,toNat_natCast,em2,ZjN,e3,e4,q1]
  generalize partLoop (ltC c) a (i2+1) (j2-1) (swp (swp d a pivot) i2 j2)=r at *
  have kr:r.1<r.2.size:=by omega
  have kr2:a<r.2.size:=by omega
  obtain⟨y3,em3⟩:=ZoO (i:=r.1) (x:=r.2[a]!) kr2
  simp only[ZbZ kr,ZbZ kr2,bS,em3,ZjN]
  exact⟨trivial,q2.swp kr kr2,by rw[Zak,q3]⟩
theorem ZAj (a:Nat):∀(k i j:Nat) (d:Array Int),j+3-i<=k->1<=i->i<=j+2->j<d.size->a<d.size->OKA P d ->
  lp (ZaI (a:Int) cmp) ((i:Int),(j:Int),d.toList)=some (((partEqLoop (ltC c) a i j d).1:Int),(partEqLoop (ltC c) a i j d).2.toList)/\OKA P (partEqLoop (ltC c) a i j d).2/\(partEqLoop (ltC c) a i j d).2.size=d.size/\i<=(partEqLoop (ltC c) a i j d).1/\(partEqLoop (ltC c) a i j d).1<=max i (j+1):=by
 intro k
 induction k with
 | zero=>
  intro i j d hk h1 h2 hj ha hd
  exact absurd hk (by omega)
 | succ k ih=>
  intro i j d hk h1 h2 hj ha hd
  have hz:=hd.sz
  obtain⟨u1,u2,u3⟩:=Ztk (Zal (a:Int) cmp ((i:Int),(j:Int),d.toList)) (fun x=>!ltC c d[a]! x) d j (fun m hm=>by
    by_cases hmj:m<=j
    ·have im:m<d.size:=by omega
     simp only[Zal,ZjZ,dT hmj,cT,ZbZ im,ZbZ ha,bS,hc _ _ (hd.el _ ha) (hd.el _ im),ltC,Bool.true_and,Zw (show m<j+1 by omega) (by omega)]
     cases decide (c d[a]! d[m]! < 0)<;>rfl
    ·simp only[Zal,ZjZ,dF hmj,cF,Bool.false_and]) (j+2-i) i (Nat.le_refl _) h2
  generalize hi2:scanUp (fun x=>!ltC c d[a]! x) d j i=i2 at u1 u2 u3
  obtain⟨v1,v2⟩:=Zmk (Zam (a:Int) cmp ((i:Int),(j:Int),d.toList) (i2:Int)) (fun x=>ltC c d[a]! x) d i2 (by omega) j (fun m hm=>by
    have im:m<d.size:=by omega
    by_cases hmi:i2<=m
    ·simp only[Zam,ZjZ,dT hmi,cT,ZbZ im,ZbZ ha,bS,hc _ _ (hd.el _ ha) (hd.el _ im),ltC,Bool.true_and,ZiI (show -9223372036854775808<=(m:Int)-1 by omega) (by omega)]
     cases decide (c d[a]! d[m]! < 0)<;>rfl
    ·simp only[Zam,ZjZ,dF hmi,cF,Bool.false_and])
  generalize hj2:scanDown (fun x=>ltC c d[a]! x) d i2 j=j2 at v1 v2
  rw[ZY]
  unfold partEqLoop
  simp only[ZaI,u1,v1,bS,ZiD,hi2,hj2]
  by_cases hij:j2<i2
  ·rw[dT hij,if_pos hij]
   exact⟨rfl,hd,rfl,u2,u3⟩
  ·have k1:i2<d.size:=by omega
   have k2:j2<d.size:=by omega
   obtain⟨y,em⟩:=ZoO (i:=i2) (x:=d[j2]!) k2
   have e1:w64 ((i2:Int)+1)=((i2+1:Nat):Int):=ZaG (by omega) (by omega)
   have e2:w64 ((j2:Int)-1)=((j2-1:Nat):Int):=ZaG (by omega) (by omega)
   rw[dF hij,if_neg hij,dif_pos (by omega)]
   simp only[cF,ZbZ k1,ZbZ k2,bS,toNat_natCast,em,ZjN,e1,e2]
   obtain⟨q1,q2,q3,q4,q5⟩:=ih (i2+1) (j2-1) (swp d i2 j2) (by omega) (by omega) (by omega) (by rw[Zak];omega) (by rw[Zak];exact ha) (hd.swp k1 k2)
   rw[Zak] at q3
   exact⟨q1,q2,q3,by omega,by omega⟩
theorem ZHJ (a b pivot:Nat) (d:Array Int) (h1:a<=pivot) (h2:pivot<b) (hb:b<=d.size) (hd:OKA P d) :
  ZG (a:Int) (b:Int) (pivot:Int) cmp d.toList=some (((partitionEqual (ltC c) d a b pivot).1:Int),(partitionEqual (ltC c) d a b pivot).2.toList)/\OKA P (partitionEqual (ltC c) d a b pivot).2/\(partitionEqual (ltC c) d a b pivot).2.size=d.size/\a<(partitionEqual (ltC c) d a b pivot).1/\(partitionEqual (ltC c) d a b pivot).1<=b:=by
 have hz:=hd.sz
 have ip:pivot<d.size:=by omega
 have ia:a<d.size:=by omega
 obtain⟨y,em⟩:=ZoO (i:=a) (x:=d[pivot]!) ip
 have e1:w64 ((a:Int)+1)=((a+1:Nat):Int):=ZaG (by omega) (by omega)
 have e2:w64 ((b:Int)-1)=((b-1:Nat):Int):=ZaG (by omega) (by omega)
 obtain⟨q1,q2,q3,q4,q5⟩:=ZAj hc a (b-1+3-(a+1)) (a+1) (b-1) (swp d a pivot) (by omega) (by omega) (by omega) (by rw[Zak];omega) (by rw[Zak];omega) (hd.swp ia ip)
 rw[Zak] at q3
 unfold ZG partitionEqual
 simp only[ZbZ ip,ZbZ ia,bS,toNat_natCast,em,e1,e2,ZjN,q1]
 exact⟨trivial,q2,q3,by omega,by omega⟩
end
end
section
def Zv1:Hint->Int
 | .unknown=>0
 | .increasing=>1
 | .decreasing=>2
theorem ZHD (p:Int×Int) (n:Nat) (x:Int) (h:p.2=(n:Int)) (hx:p.1=x):(bif p.2==0 then some (p.1,(1:Int)) else bif p.2==12 then some (p.1,2) else some (p.1,0))=some (x,Zv1 (if n=0 then Hint.increasing else if n=12 then .decreasing else .unknown)):=by
 rw[h,hx]
 by_cases h0:n=0
 ·subst h0;rfl
 ·by_cases h1:n=12
  ·subst h1;rfl
  ·rw[show((n:Int)==0)=false by simpa using h0,show((n:Int)==12)=false by simp;omega,if_neg h0,if_neg h1]
   rfl
section
variable {cmp:Int->Int->Option Int} {c:Int->Int->Int} {P:Int->Prop} (hc:ZwD cmp c P)
include hc
theorem ZJB:∀(j:Nat) (d:Array Int),OKA P d->j<d.size->lp (Z0 cmp) ((j:Int),d.toList)=some (shiftDown (ltC c) j d).toList/\OKA P (shiftDown (ltC c) j d)/\(shiftDown (ltC c) j d).size=d.size
 | 0,d,hd,hj=>by
  rw[ZY]
  simp only[Z0,dF (show ¬((1:Int)<=((0:Nat):Int)) by omega),cF]
  exact⟨rfl,hd,rfl⟩
 | j+1,d,hd,hj=>by
  have hj':j<d.size:=by omega
  have hz:=hd.sz
  rw[ZY]
  have e2:w64 (((j+1:Nat):Int)-1)=(j:Int):=ZaG (by omega) (by omega)
  have e3:=hc _ _ (hd.el (j+1) hj) (hd.el j hj')
  unfold shiftDown
  by_cases h2:c d[j+1]! d[j]! < 0
  ·obtain⟨y,e5⟩:=ZoO (i:=j+1) (x:=d[j]!) hj'
   simp only[Z0,dT (show(1:Int)<=((j+1:Nat):Int) by omega),cT,ZbZ hj,e2,ZbZ hj',bS,e3,dT h2,toNat_natCast,e5,ZjN]
   rw[if_neg (by simp[h2,ltC])]
   have ih:=ZJB j (swp d (j+1) j) (hd.swp hj hj') (by rw[Zak];omega)
   rw[Zak] at ih
   exact ih
  ·simp only[Z0,dT (show(1:Int)<=((j+1:Nat):Int) by omega),cT,ZbZ hj,e2,ZbZ hj',bS,e3,dF h2,cF]
   rw[if_pos (by simp[h2,ltC])]
   exact⟨rfl,hd,rfl⟩
theorem ZJF (b:Nat):∀(k j:Nat) (d:Array Int),b-j<=k->1<=j->b<=d.size->OKA P d->lp (ZM (b:Int) cmp) ((j:Int),d.toList)=some (shiftUp (ltC c) b j d).toList/\OKA P (shiftUp (ltC c) b j d)/\(shiftUp (ltC c) b j d).size=d.size:=by
 intro k
 induction k with
 | zero=>
  intro j d hk hj hb hd
  rw[ZY]
  unfold shiftUp
  simp only[ZM,ZiD,dF (show ¬j<b by omega),cF]
  rw[if_neg (by omega)]
  exact⟨rfl,hd,rfl⟩
 | succ k ih=>
  intro j d hk hj hb hd
  have hz:=hd.sz
  rw[ZY]
  unfold shiftUp
  by_cases h1:j<b
  ·have i1:j<d.size:=by omega
   have i2:j-1<d.size:=by omega
   have e2:w64 ((j:Int)-1)=((j-1:Nat):Int):=ZaG (by omega) (by omega)
   have e3:=hc _ _ (hd.el j i1) (hd.el (j-1) i2)
   rw[if_pos h1]
   by_cases h2:c d[j]! d[j-1]! < 0
   ·obtain⟨y,e5⟩:=ZoO (i:=j) (x:=d[j-1]!) i2
    simp only[ZM,ZiD,dT h1,cT,ZbZ i1,e2,ZbZ i2,bS,e3,dT h2,toNat_natCast,e5,ZjN,Zw h1 (by omega)]
    rw[if_neg (by simp[h2,ltC])]
    have:=ih (j+1) (swp d j (j-1)) (by omega) (by omega) (by rw[Zak];exact hb) (hd.swp i1 i2)
    rw[Zak] at this
    exact this
   ·simp only[ZM,ZiD,dT h1,cT,ZbZ i1,e2,ZbZ i2,bS,e3,dF h2,cF]
    rw[if_pos (by simp[h2,ltC])]
    exact⟨rfl,hd,rfl⟩
  ·simp only[ZM,ZiD,dF h1,cF]
   rw[if_neg h1]
   exact⟨rfl,hd,rfl⟩
theorem ZEI (b:Nat) (z:Int) (d:Array Int) (hb:b<=d.size) (hd:OKA P d) (y1 y2:Int):∀(k i:Nat),b-i<=k->1<=i->i<=b->lp (ZQ (b:Int) cmp (y1,y2,d.toList)) (i:Int)=some ((scanSorted (ltC c) d b i:Nat):Int)/\i<=scanSorted (ltC c) d b i/\scanSorted (ltC c) d b i<=b:=by
 have hz:=hd.sz
 intro k
 induction k with
 | zero=>
  intro i hk hi hib
  rw[ZY]
  unfold scanSorted
  simp only[ZQ,ZiD,dF (show ¬i<b by omega),cF]
  rw[if_neg (by simp[show ¬i<b by omega])]
  exact⟨rfl,Nat.le_refl _,hib⟩
 | succ k ih=>
  intro i hk hi hib
  rw[ZY]
  unfold scanSorted
  by_cases h1:i<b
  ·have i1:i<d.size:=by omega
   have i2:i-1<d.size:=by omega
   have e2:w64 ((i:Int)-1)=((i-1:Nat):Int):=ZaG (by omega) (by omega)
   have e3:=hc _ _ (hd.el i i1) (hd.el (i-1) i2)
   by_cases h2:c d[i]! d[i-1]! < 0
   ·simp only[ZQ,ZiD,dT h1,cT,ZbZ i1,e2,ZbZ i2,bS,e3,dT h2]
    rw[if_neg (by simp[h2,ltC])]
    exact⟨rfl,Nat.le_refl _,hib⟩
   ·simp only[ZQ,ZiD,dT h1,cT,ZbZ i1,e2,ZbZ i2,bS,e3,dF h2,cF,Zw h1 (by omega)]
    rw[if_pos (by simp[h1,h2,ltC])]
    obtain⟨a1,a2,a3⟩:=ih (i+1) (by omega) (by omega) (by omega)
    exact⟨a1,by omega,a3⟩
  ·simp only[ZQ,ZiD,dF h1,cF]
   rw[if_neg (by simp[h1])]
   exact⟨rfl,Nat.le_refl _,hib⟩
theorem ZHg (a b:Nat):∀(s i:Nat) (d:Array Int),s<=5->a<i->i<=b->b<=d.size->OKA P d ->
  ∃r,lp (ZZ (a:Int) (b:Int) cmp) ((i:Int),((5-s:Nat):Int),d.toList)=some r/\(match r with | .inl l=>l=(partialIns (ltC c) a b s i d).1.toList/\(partialIns (ltC c) a b s i d).2=true | .inr (.inl l)=>l=(partialIns (ltC c) a b s i d).1.toList/\(partialIns (ltC c) a b s i d).2=false | .inr (.inr l)=>l=(partialIns (ltC c) a b s i d).1.toList/\(partialIns (ltC c) a b s i d).2=false) /\
   OKA P (partialIns (ltC c) a b s i d).1/\(partialIns (ltC c) a b s i d).1.size=d.size
 | 0,i,d,hs,ha,hi,hb,hd=>by
  rw[ZY]
  simp only[ZZ,dF (show ¬(((5-0:Nat):Int)<5) by omega),cF]
  exact⟨_,rfl,by simp[partialIns],by first | exact hd | (simpa [partialIns] using hd),by first | rfl | simp[partialIns]⟩
 | s+1,i,d,hs,ha,hi,hb,hd=>by
  have hz:=hd.sz
  obtain⟨u1,u2,u3⟩:=ZEI hc b 0 d hb hd (i:Int) ((5-(s+1):Nat):Int) (b-i) i (Nat.le_refl _) (by omega) hi
  rw[ZY]
  unfold partialIns
  generalize hi2:scanSorted (ltC c) d b i=i2 at u1 u2 u3 ⊢
  simp only[ZZ,dT (show(((5-(s+1):Nat):Int)<5) by omega),cT,u1,bS]
  by_cases h1:i2=b
  ·rw[show((i2:Int)==(b:Int))=true by simp[h1],if_pos h1]
   exact⟨_,rfl,by simp[partialIns],by first | exact hd | (simpa [partialIns] using hd),by first | rfl | simp[partialIns]⟩
  ·have e1:w64 ((b:Int)-(a:Int))=((b-a:Nat):Int):=ZaG (by omega) (by omega)
   rw[show((i2:Int)==(b:Int))=false by simpa using (show ¬(i2:Int)=(b:Int) by omega),if_neg h1]
   by_cases h2:b-a<50
   ·rw[if_pos h2]
    simp only[cF,e1,dT (show((b-a:Nat):Int)<50 by omega),cT]
    exact⟨_,rfl,by simp[partialIns],by first | exact hd | (simpa [partialIns] using hd),by first | rfl | simp[partialIns]⟩
   ·rw[if_neg h2]
    have i1:i2<d.size:=by omega
    have i3:i2-1<d.size:=by omega
    have e2:w64 ((i2:Int)-1)=((i2-1:Nat):Int):=ZaG (by omega) (by omega)
    have e3:w64 ((i2:Int)-(a:Int))=((i2-a:Nat):Int):=ZaG (by omega) (by omega)
    have e4:w64 ((b:Int)-(i2:Int))=((b-i2:Nat):Int):=ZaG (by omega) (by omega)
    have e5:w64 ((i2:Int)+1)=((i2+1:Nat):Int):=ZaG (by omega) (by omega)
    have e6:w64 (((5-(s+1):Nat):Int)+1)=((5-s:Nat):Int):=ZaG (by omega) (by omega)
    obtain⟨y,em⟩:=ZoO (i:=i2) (x:=d[i2-1]!) i3
    have hd2:=hd.swp i1 i3
    simp only[cF,e1,dF (show ¬((b-a:Nat):Int)<50 by omega),e2,ZbZ i1,ZbZ i3,bS,toNat_natCast,em,ZjN,e3,e4,e5,e6]
    have n2:∀n:Nat,decide ((2:Int)<=(n:Int))=decide (n ≥ 2):=fun n=>decide_eq_decide.2 (by omega)
    rw[n2,n2]
    have go:∀d':Array Int,OKA P d'->d'.size=d.size->∃r,lp (ZZ (a:Int) (b:Int) cmp) ((i2:Int),((5-s:Nat):Int),d'.toList)=some r/\(match r with | .inl l=>l=(partialIns (ltC c) a b s i2 d').1.toList/\(partialIns (ltC c) a b s i2 d').2=true | .inr (.inl l)=>l=(partialIns (ltC c) a b s i2 d').1.toList/\(partialIns (ltC c) a b s i2 d').2=false | .inr (.inr l)=>l=(partialIns (ltC c) a b s i2 d').1.toList/\(partialIns (ltC c) a b s i2 d').2=false) /\
      OKA P (partialIns (ltC c) a b s i2 d').1/\(partialIns (ltC c) a b s i2 d').1.size=d.size:=fun d' h h'=>by
     have:=ZHg a b s i2 d' (by omega) (by omega) u3 (by omega) h
     rw[h'] at this
     exact this
    by_cases h3:i2-a ≥ 2
    ·obtain⟨v1,v2,v3⟩:=ZJB hc (i2-1) (swp d i2 (i2-1)) hd2 (by rw[Zak];exact i3)
     rw[Zak] at v3
     rw[dT h3,if_pos h3]
     simp only[cT,v1,bS]
     by_cases h4:b-i2 ≥ 2
     ·obtain⟨w1,w2,w3⟩:=ZJF hc b (b-(i2+1)) (i2+1) (shiftDown (ltC c) (i2-1) (swp d i2 (i2-1))) (Nat.le_refl _) (by omega) (by omega) v2
      rw[dT h4,if_pos h4]
      simp only[cT,w1,bS]
      exact go _ w2 (by omega)
     ·rw[dF h4,if_neg h4]
      exact go _ v2 v3
    ·rw[dF h3,if_neg h3]
     simp only[cF]
     by_cases h4:b-i2 ≥ 2
     ·obtain⟨w1,w2,w3⟩:=ZJF hc b (b-(i2+1)) (i2+1) (swp d i2 (i2-1)) (Nat.le_refl _) (by omega) (by rw[Zak];omega) hd2
      rw[Zak] at w3
      rw[dT h4,if_pos h4]
      simp only[cT,w1,bS]
      exact go _ w2 w3
     ·rw[dF h4,if_neg h4]
      exact go _ hd2 (Zak _ _ _)
theorem ZJO (a b:Nat) (d:Array Int) (h1:a<b) (hb:b<=d.size) (hd:OKA P d) :
  ZX (a:Int) (b:Int) cmp d.toList=some (bif (partialInsertionSort (ltC c) d a b).2 then .inl (partialInsertionSort (ltC c) d a b).1.toList else .inr (partialInsertionSort (ltC c) d a b).1.toList)/\OKA P (partialInsertionSort (ltC c) d a b).1/\(partialInsertionSort (ltC c) d a b).1.size=d.size:=by
 have hz:=hd.sz
 obtain⟨r,e,h2,h3⟩:=ZHg hc a b 5 (a+1) d (Nat.le_refl _) (by omega) (by omega) hb hd
 unfold ZX partialInsertionSort
 have e0:((5-5:Nat):Int)=0:=rfl
 rw[e0] at e
 rw[ZaG (n:=a+1) (by omega) (by omega),e]
 refine⟨?_,h3⟩
 rcases r with l | l | l
 ·obtain⟨rfl,h⟩:=h2;rw[h];rfl
 ·obtain⟨rfl,h⟩:=h2;rw[h];rfl
 ·obtain⟨rfl,h⟩:=h2;rw[h];rfl
theorem ZG2 (d:Array Int) (hd:OKA P d) (a b n:Nat) (ha:a<d.size) (hb:b<d.size) (hn:n<1000):Za3 (a:Int) (b:Int) cmp d.toList (n:Int)=some (((order2 (ltC c) d a b n).1:Int),((order2 (ltC c) d a b n).2.1:Int),((order2 (ltC c) d a b n).2.2:Int)) /\
  (order2 (ltC c) d a b n).1<d.size/\(order2 (ltC c) d a b n).2.1<d.size/\(order2 (ltC c) d a b n).2.2<=n+1:=by
 unfold Za3 order2
 simp only[ZbZ ha,ZbZ hb,bS,hc _ _ (hd.el b hb) (hd.el a ha)]
 by_cases h:c d[b]! d[a]! < 0
 ·rw[if_pos (by simp[h,ltC]),dT h,ZaG (n:=n+1) (by omega) (by omega)]
  exact⟨rfl,hb,ha,Nat.le_refl _⟩
 ·rw[if_neg (by simp[h,ltC]),dF h]
  exact⟨rfl,ha,hb,Nat.le_succ _⟩
theorem ZE0 (d:Array Int) (hd:OKA P d) (i j k n:Nat) (hi:i<d.size) (hj:j<d.size) (hk:k<d.size) (hn:n<990):Za2 (i:Int) (j:Int) (k:Int) cmp d.toList (n:Int)=some (((median (ltC c) d i j k n).1:Int),((median (ltC c) d i j k n).2:Int))/\(median (ltC c) d i j k n).1<d.size/\(median (ltC c) d i j k n).2<=n+3:=by
 obtain⟨a1,a2,a3,a4⟩:=ZG2 hc d hd i j n hi hj (by omega)
 obtain⟨b1,b2,b3,b4⟩:=ZG2 hc d hd (order2 (ltC c) d i j n).2.1 k (order2 (ltC c) d i j n).2.2 a3 hk (by omega)
 obtain⟨c1,c2,c3,c4⟩:=ZG2 hc d hd (order2 (ltC c) d i j n).1 (order2 (ltC c) d (order2 (ltC c) d i j n).2.1 k (order2 (ltC c) d i j n).2.2).1 (order2 (ltC c) d (order2 (ltC c) d i j n).2.1 k (order2 (ltC c) d i j n).2.2).2.2 a2 b2 (by omega)
 unfold Za2 median
 simp only[a1,b1,c1,bS]
 exact⟨trivial,c3,by omega⟩
theorem ZEP (d:Array Int) (hd:OKA P d) (i n:Nat) (h1:1<=i) (hi:i+1<d.size) (hn:n<990):Zah (i:Int) cmp d.toList (n:Int)=some (((medianAdjacent (ltC c) d i n).1:Int),((medianAdjacent (ltC c) d i n).2:Int))/\(medianAdjacent (ltC c) d i n).1<d.size/\(medianAdjacent (ltC c) d i n).2<=n+3:=by
 have hz:=hd.sz
 obtain⟨a1,a2⟩:=ZE0 hc d hd (i-1) i (i+1) n (by omega) (by omega) hi hn
 unfold Zah medianAdjacent
 rw[ZaG (n:=i-1) (by omega) (by omega),ZaG (n:=i+1) (by omega) (by omega),a1]
 exact⟨rfl,a2⟩
theorem ZJN (a b:Nat) (d:Array Int) (hab:a<b) (hb:b<=d.size) (hd:OKA P d):ZU (a:Int) (b:Int) cmp d.toList=some (((choosePivot (ltC c) d a b).1:Int),Zv1 (choosePivot (ltC c) d a b).2):=by
 have hz:=hd.sz
 have e1:w64 ((b:Int)-(a:Int))=((b-a:Nat):Int):=ZaG (by omega) (by omega)
 have e2:w64 (Int.tdiv ((b-a:Nat):Int) 4)=(((b-a) / 4:Nat):Int):=by
  rw[Int.tdiv_eq_ediv_of_nonneg (by omega)]
  exact ZaG (by omega) (by omega)
 have q:∀m:Nat,m<=3->w64 ((((b-a) / 4:Nat):Int)*(m:Int))=(((b-a) / 4*m:Nat):Int):=fun m hm=>by
  refine ZaG (by rw[Int.natCast_mul]) ?_
  have:(b-a) / 4*m<=(b-a) / 4*3:=Nat.mul_le_mul_left _ hm
  omega
 have q1:=q 1 (by omega)
 have q2:=q 2 (by omega)
 have q3:=q 3 (by omega)
 have p:∀m:Nat,m<=3->w64 ((a:Int)+(((b-a) / 4*m:Nat):Int))=((a+(b-a) / 4*m:Nat):Int):=fun m hm=>by
  refine ZaG (by omega) ?_
  have:(b-a) / 4*m<=(b-a) / 4*3:=Nat.mul_le_mul_left _ hm
  omega
 have p1:=p 1 (by omega)
 have p2:=p 2 (by omega)
 have p3:=p 3 (by omega)
 unfold ZU choosePivot
 have q1':w64 ((((b-a) / 4:Nat):Int)*1)=_:=q1
 have q2':w64 ((((b-a) / 4:Nat):Int)*2)=_:=q2
 have q3':w64 ((((b-a) / 4:Nat):Int)*3)=_:=q3
 simp only[e1,e2,q1',q2',q3',p1,p2,p3]
 have z:((0:Nat):Int)=0:=rfl
 by_cases h8:b-a ≥ 8
 ·rw[dT (show(8:Int)<=((b-a:Nat):Int) by omega),if_pos h8]
  by_cases h50:b-a ≥ 50
  ·obtain⟨m1,m2,m3⟩:=ZEP hc d hd (a+(b-a) / 4*1) 0 (by omega) (by omega) (by omega)
   obtain⟨n1,n2,n3⟩:=ZEP hc d hd (a+(b-a) / 4*2) (medianAdjacent (ltC c) d (a+(b-a) / 4*1) 0).2 (by omega) (by omega) (by omega)
   obtain⟨o1,o2,o3⟩:=ZEP hc d hd (a+(b-a) / 4*3) (medianAdjacent (ltC c) d (a+(b-a) / 4*2) (medianAdjacent (ltC c) d (a+(b-a) / 4*1) 0).2).2 (by omega) (by omega) (by omega)
   obtain⟨r1,r2,r3⟩:=ZE0 hc d hd _ _ _ (medianAdjacent (ltC c) d (a+(b-a) / 4*3) (medianAdjacent (ltC c) d (a+(b-a) / 4*2) (medianAdjacent (ltC c) d (a+(b-a) / 4*1) 0).2).2).2 m2 n2 o2 (by omega)
   rw[z] at m1
   rw[dT (show(50:Int)<=((b-a:Nat):Int) by omega),if_pos h50]
   simp only[cT,m1,n1,o1,r1,bS]
   exact ZHD (_,_) _ _ rfl rfl
  ·obtain⟨r1,r2,r3⟩:=ZE0 hc d hd (a+(b-a) / 4*1) (a+(b-a) / 4*2) (a+(b-a) / 4*3) 0 (by omega) (by omega) (by omega) (by omega)
   rw[z] at r1
   rw[dF (show ¬(50:Int)<=((b-a:Nat):Int) by omega),if_neg h50]
   simp only[cT,cF,r1,bS]
   exact ZHD (_,_) _ _ rfl rfl
 ·rw[dF (show ¬(8:Int)<=((b-a:Nat):Int) by omega),if_neg h8]
  rfl
end
theorem ZLC {P:Int->Prop}:∀(k i j:Nat) (d:Array Int),j-i<=k->j<d.size∨j<=i->OKA P d->lp Zac ((i:Int),(j:Int),d.toList)=some (reverseLoop i j d).toList/\OKA P (reverseLoop i j d)/\(reverseLoop i j d).size=d.size:=by
 intro k
 induction k with
 | zero=>
  intro i j d hk hj hd
  rw[ZY]
  unfold reverseLoop
  simp only[Zac,ZiD,dF (show ¬i<j by omega),cF]
  rw[if_neg (by omega)]
  exact⟨rfl,hd,rfl⟩
 | succ k ih=>
  intro i j d hk hj hd
  have hz:=hd.sz
  rw[ZY]
  unfold reverseLoop
  by_cases h:i<j
  ·have i1:j<d.size:=by omega
   have i2:i<d.size:=by omega
   obtain⟨y,em⟩:=ZoO (i:=i) (x:=d[j]!) i1
   have e2:w64 ((j:Int)-1)=((j-1:Nat):Int):=ZaG (by omega) (by omega)
   simp only[Zac,ZiD,dT h,cT,ZbZ i1,ZbZ i2,bS,toNat_natCast,em,ZjN,Zw h (by omega),e2]
   rw[if_pos h]
   have:=ih (i+1) (j-1) (swp d i j) (by omega) (by rw[Zak];omega) (hd.swp i2 i1)
   rw[Zak] at this
   exact this
  ·simp only[Zac,ZiD,dF h,cF]
   rw[if_neg h]
   exact⟨rfl,hd,rfl⟩
theorem ZG9 {P:Int->Prop} (cmp:Int->Int->Option Int) (a b:Nat) (d:Array Int) (hab:a<b) (hb:b<=d.size) (hd:OKA P d):ZR (a:Int) (b:Int) cmp d.toList=some (reverseRange d a b).toList/\OKA P (reverseRange d a b)/\(reverseRange d a b).size=d.size:=by
 have hz:=hd.sz
 obtain⟨h1,h2⟩:=ZLC (b-1-a) a (b-1) d (Nat.le_refl _) (by omega) hd
 unfold ZR reverseRange
 rw[ZaG (n:=b-1) (by omega) (by omega)]
 simp only[h1,bS]
 exact⟨trivial,h2⟩
end
theorem Zz1 (n:Int):u64.wrap n=n % 18446744073709551616:=by
 show(if (false&&decide (n % 18446744073709551616 ≥ 9223372036854775808))=true then n % 18446744073709551616-18446744073709551616 else n % 18446744073709551616)=_
 simp
theorem Zkp {n:Nat} (h:n<18446744073709551616):u64.wrap (n:Int)=(n:Int):=by rw[Zz1];omega
def Zyi (a b:Int):Int:=u64.wrap (Zs a ^^^ Zs b).toNat
def ZEQ (a b:Int):Int:=u64.wrap (Zs a &&& Zs b).toNat
def xs (r:Int):Int:=Zyi (Zyi (Zyi r (u64.wrap (r*2 ^ 13))) (Int.fdiv (Zyi r (u64.wrap (r*2 ^ 13))) (2 ^ 7))) (u64.wrap (Zyi (Zyi r (u64.wrap (r*2 ^ 13))) (Int.fdiv (Zyi r (u64.wrap (r*2 ^ 13))) (2 ^ 7))*2 ^ 17))
theorem ZxM (u:UInt64):Zs (u.toNat:Int)=u.toBitVec:=by
 show BitVec.ofInt 64 (u.toNat:Int)=u.toBitVec
 rw[BitVec.ofInt_natCast]
 apply BitVec.eq_of_toNat_eq
 rw[BitVec.toNat_ofNat]
 exact Nat.mod_eq_of_lt u.toNat_lt
theorem ZGQ (u v:UInt64):Zyi (u.toNat:Int) (v.toNat:Int)=((u ^^^ v).toNat:Int):=by
 unfold Zyi
 rw[ZxM,ZxM]
 exact Zkp (u ^^^ v).toNat_lt
theorem ZJy (u:UInt64) (k:Nat) (v:UInt64) (hk:v.toNat % 64=k):u64.wrap ((u.toNat:Int)*2 ^ k)=((u <<< v).toNat:Int):=by
 rw[Zz1,UInt64.toNat_shiftLeft,hk,Nat.shiftLeft_eq]
 have:((2:Int) ^ k)=((2 ^ k:Nat):Int):=by rw[Int.natCast_pow];rfl
 rw[this]
 omega
theorem ZMn (u:UInt64) (k:Nat) (v:UInt64) (hk:v.toNat % 64=k):Int.fdiv (u.toNat:Int) (2 ^ k)=((u >>> v).toNat:Int):=by
 have e:((2:Int) ^ k)=((2 ^ k:Nat):Int):=by rw[Int.natCast_pow];rfl
 rw[UInt64.toNat_shiftRight,hk,Nat.shiftRight_eq_div_pow,e,Int.fdiv_eq_ediv_of_nonneg _ (Int.natCast_nonneg _)]
 exact(Int.natCast_ediv _ _).symm
theorem ZMs (u:UInt64):xs (u.toNat:Int)=((xorNext u).toNat:Int):=by
 unfold xs xorNext
 rw[ZJy u 13 13 rfl,ZGQ,ZMn _ 7 7 rfl,ZGQ,ZJy _ 17 17 rfl,ZGQ]
theorem ZI6 (u:UInt64) (m:Nat) (hm:m<18446744073709551616):ZEQ (u.toNat:Int) (m:Int)=((u.toNat &&& m:Nat):Int):=by
 unfold ZEQ
 rw[ZxM]
 have:Zs (m:Int)=BitVec.ofNat 64 m:=BitVec.ofInt_natCast _ _
 rw[this]
 show u64.wrap ((((u.toBitVec &&& BitVec.ofNat 64 m:BitVec 64)).toNat:Nat):Int)=_
 rw[BitVec.toNat_and,BitVec.toNat_ofNat,Nat.mod_eq_of_lt hm]
 refine Zkp (Nat.lt_of_le_of_lt Nat.and_le_left u.toNat_lt)
theorem ZEm:((List.range 1001).all fun n=>(match Zg5 (u64.wrap (n:Int)) with | some v=>v==(bitsLen n:Int) | none=>false)&&((match ZdJ (n:Int) with | some v=>v==((1 <<< bitsLen n:Nat):Int) | none=>false)&&(decide (1 <<< bitsLen n<=2*n) || n==0)))=true:=by kernel_rfl
theorem ZGv {n:Nat} (h:n<=1000):Zg5 (u64.wrap (n:Int))=some (bitsLen n:Int)/\ZdJ (n:Int)=some ((1 <<< bitsLen n:Nat):Int)/\(0<n->1 <<< bitsLen n<=2*n):=by
 have:=List.all_eq_true.1 ZEm n (by simp;omega)
 simp only[aT,Bool.or_eq_true,decide_eq_true_eq,beq_iff_eq] at this
 obtain⟨h1,h2,h3⟩:=this
 refine⟨?_,?_,fun h=>by omega⟩
 ·split at h1
  ·rename_i v hv;rw[hv,eq_of_beq h1]
  ·cases h1
 ·split at h2
  ·rename_i v hv;rw[hv,eq_of_beq h2]
  ·cases h2
def Zuw (s:Int×LI×Int) (o:Int):Option ((Int×LI×Int)⊕LI):=
 (ZA s.2.1 o).bind fun x3=>(ZA s.2.1 s.1).bind fun x4=>(ZA (List.set s.2.1 s.1.toNat x3) o).bind fun _=>some (Sum.inl (w64 (s.1+1),List.set (List.set s.2.1 s.1.toNat x3) o.toNat x4,xs s.2.2))
theorem ZJQ (b c x0:Int) (s:Int×LI×Int):ZaP b c x0 s=(bif (decide (s.1<=(w64 ((w64 (b+(w64 ((w64 (Int.tdiv (w64 (c-b)) 4))*2))))+1)))) then
  ZgL.bind fun _=>bif decide (w64 (c-b)<=w64 (ZEQ (xs s.2.2) (u64.wrap (x0-1)))) then Zuw s (w64 (b+w64 (w64 (ZEQ (xs s.2.2) (u64.wrap (x0-1)))-w64 (c-b)))) else Zuw s (w64 (b+w64 (ZEQ (xs s.2.2) (u64.wrap (x0-1)))))
 else some (.inr s.2.1)):=rfl
theorem ZzY {P:Int->Prop} (d:Array Int) (hd:OKA P d) (i o:Nat) (u:UInt64) (hi:i<d.size) (ho:o<d.size):Zuw ((i:Int),d.toList,(u.toNat:Int)) (o:Int)=some (.inl (((i+1:Nat):Int),(swp d i o).toList,((xorNext u).toNat:Int))):=by
 have hz:=hd.sz
 obtain⟨y,em⟩:=ZoO (i:=i) (x:=d[o]!) ho
 unfold Zuw
 simp only[ZbZ ho,ZbZ hi,bS,toNat_natCast,em,ZjN,ZMs,Zw hi (by omega)]
theorem Zx7 {P:Int->Prop} (a b:Nat) (d:Array Int) (hd:OKA P d) (h8:8<=b-a) (hb:b<=d.size) (i:Nat) (hi:i<=a+(b-a) / 4*2+1) (u:UInt64) :
  ZaP (a:Int) (b:Int) ((1 <<< bitsLen (b-a):Nat):Int) ((i:Int),d.toList,(u.toNat:Int))=some (.inl (((i+1:Nat):Int),(breakStep a (b-a) (1 <<< bitsLen (b-a)) (u,d) i).2.toList,((breakStep a (b-a) (1 <<< bitsLen (b-a)) (u,d) i).1.toNat:Int))) /\
  OKA P (breakStep a (b-a) (1 <<< bitsLen (b-a)) (u,d) i).2/\(breakStep a (b-a) (1 <<< bitsLen (b-a)) (u,d) i).2.size=d.size:=by
 have hz:=hd.sz
 obtain⟨_,_,l3⟩:=ZGv (show b-a<=1000 by omega)
 have l4:=l3 (by omega)
 have l5:0<1 <<< bitsLen (b-a):=by rw[Nat.shiftLeft_eq,Nat.one_mul];exact Nat.pow_pos (by omega)
 generalize hm:1 <<< bitsLen (b-a)=m at *
 have e1:w64 ((b:Int)-(a:Int))=((b-a:Nat):Int):=ZaG (by omega) (by omega)
 have e2:w64 (Int.tdiv ((b-a:Nat):Int) 4)=(((b-a) / 4:Nat):Int):=by
  rw[Int.tdiv_eq_ediv_of_nonneg (by omega)]
  exact ZaG (by omega) (by omega)
 have e3:w64 ((((b-a) / 4:Nat):Int)*2)=(((b-a) / 4*2:Nat):Int):=ZaG (by omega) (by omega)
 have e4:w64 ((a:Int)+(((b-a) / 4*2:Nat):Int))=((a+(b-a) / 4*2:Nat):Int):=ZaG (by omega) (by omega)
 have e5:w64 (((a+(b-a) / 4*2:Nat):Int)+1)=((a+(b-a) / 4*2+1:Nat):Int):=ZaG (by omega) (by omega)
 have e6:u64.wrap ((m:Int)-1)=((m-1:Nat):Int):=by
  rw[show(m:Int)-1=((m-1:Nat):Int) by omega];exact Zkp (by omega)
 have hand:(xorNext u).toNat &&& (m-1)<=m-1:=Nat.and_le_right
 have e7:w64 (((xorNext u).toNat &&& (m-1):Nat):Int)=(((xorNext u).toNat &&& (m-1):Nat):Int):=ZaG rfl (by omega)
 have ii:i<d.size:=by omega
 rw[ZJQ]
 unfold breakStep
 simp only[e1,e2,e3,e4,e5,ZjZ,dT hi,cT,ZMs,e6,ZI6 _ (m-1) (by omega),e7]
 generalize (xorNext u).toNat &&& (m-1)=o at *
 show(bif decide (b-a<=o) then _ else _)=_/\_
 by_cases ho:b-a<=o
 ·have e8:w64 ((o:Int)-((b-a:Nat):Int))=((o-(b-a):Nat):Int):=ZaG (by omega) (by omega)
  have e9:w64 ((a:Int)+((o-(b-a):Nat):Int))=((a+(o-(b-a)):Nat):Int):=ZaG (by omega) (by omega)
  rw[dT ho,if_pos ho]
  simp only[cT,e8,e9]
  exact⟨ZzY d hd i _ u ii (by omega),hd.swp ii (by omega),Zak _ _ _⟩
 ·have e9:w64 ((a:Int)+(o:Int))=((a+o:Nat):Int):=ZaG (by omega) (by omega)
  rw[dF ho,if_neg ho]
  simp only[cF,e9]
  exact⟨ZzY d hd i _ u ii (by omega),hd.swp ii (by omega),Zak _ _ _⟩
theorem ZN8 {P:Int->Prop} (cmp:Int->Int->Option Int) (a b:Nat) (d:Array Int) (hab:a<=b) (hb:b<=d.size) (hd:OKA P d):Zaj (a:Int) (b:Int) cmp d.toList=some (breakPatterns d a b).toList/\OKA P (breakPatterns d a b)/\(breakPatterns d a b).size=d.size:=by
 have hz:=hd.sz
 have e1:w64 ((b:Int)-(a:Int))=((b-a:Nat):Int):=ZaG (by omega) (by omega)
 unfold Zaj breakPatterns
 simp only[e1]
 by_cases h8:8<=b-a
 ·obtain⟨_,l2,_⟩:=ZGv (show b-a<=1000 by omega)
  have e2:w64 (Int.tdiv ((b-a:Nat):Int) 4)=(((b-a) / 4:Nat):Int):=by
   rw[Int.tdiv_eq_ediv_of_nonneg (by omega)]
   exact ZaG (by omega) (by omega)
  have e3:w64 ((((b-a) / 4:Nat):Int)*2)=(((b-a) / 4*2:Nat):Int):=ZaG (by omega) (by omega)
  have e4:w64 ((a:Int)+(((b-a) / 4*2:Nat):Int))=((a+(b-a) / 4*2:Nat):Int):=ZaG (by omega) (by omega)
  have e5:w64 (((a+(b-a) / 4*2:Nat):Int)-1)=((a+(b-a) / 4*2-1:Nat):Int):=ZaG (by omega) (by omega)
  have e6:u64.wrap ((b-a:Nat):Int)=((UInt64.ofNat (b-a)).toNat:Int):=by
   rw[Zkp (by omega),UInt64.toNat_ofNat_of_lt' (by show b-a<2 ^ 64;omega)]
  rw[dT (show(8:Int)<=((b-a:Nat):Int) by omega),if_pos h8]
  simp only[cT,l2,bS,e2,e3,e4,e5,e6]
  generalize hi0:a+(b-a) / 4*2-1=i0
  obtain⟨p1,p2,p3⟩:=Zx7 a b d hd h8 hb i0 (by omega) (UInt64.ofNat (b-a))
  generalize breakStep a (b-a) (1 <<< bitsLen (b-a)) (UInt64.ofNat (b-a),d) i0=r1 at *
  obtain⟨q1,q2,q3⟩:=Zx7 a b r1.2 p2 h8 (by omega) (i0+1) (by omega) r1.1
  generalize breakStep a (b-a) (1 <<< bitsLen (b-a)) (r1.1,r1.2) (i0+1)=r2 at *
  obtain⟨s1,s2,s3⟩:=Zx7 a b r2.2 q2 h8 (by omega) (i0+2) (by omega) r2.1
  generalize breakStep a (b-a) (1 <<< bitsLen (b-a)) (r2.1,r2.2) (i0+2)=r3 at *
  rw[Zvc p1,Zvc q1,Zvc s1,ZJa (r:=r3.2.toList)]
  ·exact⟨rfl,s2,by omega⟩
  ·rw[ZJQ]
   have e7:w64 (((a+(b-a) / 4*2:Nat):Int)+1)=((a+(b-a) / 4*2+1:Nat):Int):=ZaG (by omega) (by omega)
   simp only[e1,e2,e3,e4,e7,ZjZ,dF (show ¬i0+2+1<=a+(b-a) / 4*2+1 by omega),cF]
 ·rw[dF (show ¬(8:Int)<=((b-a:Nat):Int) by omega),if_neg h8]
  exact⟨rfl,hd,rfl⟩
abbrev ZIK:=Int×Int×Int×Bool×Bool×LI
noncomputable def ZBV (e:Int->Int->Option Int) (rc:Int->Int->Int->(Int->Int->Option Int)->LI->Option LI) (a b limit pivot:Int) (x5:LI):Option (ZIK⊕LI):=
 (Zu a b pivot e x5).bind fun x9=>
 match x9 with
 | .inl x9=>
  bif decide (w64 (x9.1-a)<w64 (b-x9.1)) then
   bif decide (w64 (Int.tdiv (w64 (b-a)) 8)<=w64 (x9.1-a)) then (rc a x9.1 limit e x9.2).bind fun x10=>some (.inl (w64 (x9.1+1),b,limit,true,true,x10))
   else (rc a x9.1 limit e x9.2).bind fun x10=>some (.inl (w64 (x9.1+1),b,limit,false,true,x10))
  else
   bif decide (w64 (Int.tdiv (w64 (b-a)) 8)<=w64 (b-x9.1)) then (rc (w64 (x9.1+1)) b limit e x9.2).bind fun x10=>some (.inl (a,x9.1,limit,true,true,x10))
   else (rc (w64 (x9.1+1)) b limit e x9.2).bind fun x10=>some (.inl (a,x9.1,limit,false,true,x10))
 | .inr x9=>
  bif decide (w64 (x9.1-a)<w64 (b-x9.1)) then
   bif decide (w64 (Int.tdiv (w64 (b-a)) 8)<=w64 (x9.1-a)) then (rc a x9.1 limit e x9.2).bind fun x10=>some (.inl (w64 (x9.1+1),b,limit,true,false,x10))
   else (rc a x9.1 limit e x9.2).bind fun x10=>some (.inl (w64 (x9.1+1),b,limit,false,false,x10))
  else
   bif decide (w64 (Int.tdiv (w64 (b-a)) 8)<=w64 (b-x9.1)) then (rc (w64 (x9.1+1)) b limit e x9.2).bind fun x10=>some (.inl (a,x9.1,limit,true,false,x10))
   else (rc (w64 (x9.1+1)) b limit e x9.2).bind fun x10=>some (.inl (a,x9.1,limit,false,false,x10))
noncomputable def Zss (e:Int->Int->Option Int) (rc:Int->Int->Int->(Int->Int->Option Int)->LI->Option LI) (a b limit pivot:Int) (wb wp:Bool) (x5:LI):Option (ZIK⊕LI):=
 bif decide (0<a) then
  (ZA x5 (w64 (a-1))).bind fun x6=>(ZA x5 pivot).bind fun x7=>(e x6 x7).bind fun x8=>
  bif decide (x8<0) then ZBV e rc a b limit pivot x5
  else (ZG a b pivot e x5).bind fun x18=>some (.inl (x18.1,b,limit,wb,wp,x18.2))
 else ZBV e rc a b limit pivot x5
theorem Zwv (e:Int->Int->Option Int) (rc:Int->Int->Int->(Int->Int->Option Int)->LI->Option LI) (a b limit:Int) (wb wp:Bool) (l:LI):ZD e rc (a,b,limit,wb,wp,l) =
  (bif decide (w64 (b-a)<=12) then (Z3 a b e l).bind fun x=>some (.inr x)
  else bif limit==0 then (Zaf a b e l).bind fun x=>some (.inr x)
  else (bif wb then bif wp then
    (ZU a b e l).bind fun x3=>
    bif x3.2==2 then (ZR a b e l).bind fun x4=>(ZX a b e x4).bind fun x5=>(match x5 with | .inl x5=>some (.inr x5) | .inr x5=>Zss e rc a b limit (w64 (w64 (b-1)-w64 (x3.1-a))) true true x5)
    else bif x3.2==1 then (ZX a b e l).bind fun x5=>(match x5 with | .inl x5=>some (.inr x5) | .inr x5=>Zss e rc a b limit x3.1 true true x5)
    else Zss e rc a b limit x3.1 true true l
   else
    (ZU a b e l).bind fun x3=>
    bif x3.2==2 then (ZR a b e l).bind fun x4=>Zss e rc a b limit (w64 (w64 (b-1)-w64 (x3.1-a))) true false x4
    else Zss e rc a b limit x3.1 true false l
  else
   (Zaj a b e l).bind fun x0=>(ZU a b e x0).bind fun x3=>
    bif x3.2==2 then (ZR a b e x0).bind fun x4=>Zss e rc a b (w64 (limit-1)) (w64 (w64 (b-1)-w64 (x3.1-a))) false wp x4
    else Zss e rc a b (w64 (limit-1)) x3.1 false wp x0)):=by
 cases wb<;>cases wp<;>rfl
section
noncomputable def after (e:Int->Int->Option Int) (rc:Int->Int->Int->(Int->Int->Option Int)->LI->Option LI) (x:Option (ZIK⊕LI)):Option LI:=
 match x with | some (.inl s')=>lp (ZD e rc) s' | some (.inr r)=>some r | none=>none
theorem ZEG (e:Int->Int->Option Int) (rc:Int->Int->Int->(Int->Int->Option Int)->LI->Option LI) (s:ZIK):lp (ZD e rc) s=after e rc (ZD e rc s):=by
 rw[ZY]
 unfold after
 cases ZD e rc s with
 | none=>rfl
 | some t=>cases t<;>rfl
def Res (P:Int->Prop) (r:Option LI) (X:Array Int) (n:Nat):Prop:=r=some X.toList/\OKA P X/\X.size=n
section
variable {cmp:Int->Int->Option Int} {c:Int->Int->Int} {P:Int->Prop} (hc:ZwD cmp c P) (hs:SWO (ltC c))
include hc hs
def Zux (cmp:Int->Int->Option Int) (c:Int->Int->Int) (P:Int->Prop) (rc:Int->Int->Int->(Int->Int->Option Int)->LI->Option LI) (k:Nat):Prop:=
 ∀(a b limit:Nat) (wb wp:Bool) (d:Array Int),b-a<=k->a<=b->b<=d.size->OKA P d->limit<=1000 ->
  Res P (rc (a:Int) (b:Int) (limit:Int) cmp d.toList) (pdq (ltC c) d a b limit true true) d.size /\
  Res P (lp (ZD cmp rc) ((a:Int),(b:Int),(limit:Int),wb,wp,d.toList)) (pdq (ltC c) d a b limit wb wp) d.size
theorem ZBl {rc:Int->Int->Int->(Int->Int->Option Int)->LI->Option LI}{k:Nat} (ih:Zux cmp c P rc k) (a b limit pivot:Nat) (d:Array Int) (hk:b-a<=k+1) (h1:a<=pivot) (h2:pivot<b) (hb:b<=d.size) (hd:OKA P d) (hl:limit<=1000) :
  Res P (after cmp rc (ZBV cmp rc (a:Int) (b:Int) (limit:Int) (pivot:Int) d.toList)) (match partition (ltC c) d a b pivot with
   | (mid,alreadyPartitioned,d4)=>
    if _h:a<=mid/\mid<b then
     if mid-a<b-mid then pdq (ltC c) (pdq (ltC c) d4 a mid limit true true) (mid+1) b limit (decide (mid-a ≥ (b-a) / 8)) alreadyPartitioned
     else pdq (ltC c) (pdq (ltC c) d4 (mid+1) b limit true true) a mid limit (decide (b-mid ≥ (b-a) / 8)) alreadyPartitioned
    else d4) d.size:=by
 have hz:=hd.sz
 obtain⟨p1,p2,p3⟩:=ZI0 hc a b pivot d h1 h2 hb hd
 obtain⟨r1,r2,_⟩:=partition_holds (ltC c) hs d a b pivot h1 h2 hb
 unfold ZBV
 rw[p1]
 generalize partition (ltC c) d a b pivot=q at *
 obtain⟨mid,ap,d4⟩:=q
 dsimp only at *
 rw[dif_pos ⟨r1,r2⟩]
 have e1:w64 ((mid:Int)-(a:Int))=((mid-a:Nat):Int):=ZaG (by omega) (by omega)
 have e2:w64 ((b:Int)-(mid:Int))=((b-mid:Nat):Int):=ZaG (by omega) (by omega)
 have e3:w64 ((b:Int)-(a:Int))=((b-a:Nat):Int):=ZaG (by omega) (by omega)
 have e4:w64 (Int.tdiv ((b-a:Nat):Int) 8)=(((b-a) / 8:Nat):Int):=by
  rw[Int.tdiv_eq_ediv_of_nonneg (by omega)]
  exact ZaG (by omega) (by omega)
 have e5:w64 ((mid:Int)+1)=((mid+1:Nat):Int):=ZaG (by omega) (by omega)
 by_cases hlt:mid-a<b-mid
 ·obtain⟨⟨u1,u2,u3⟩,_⟩:=ih a mid limit true true d4 (by omega) r1 (by omega) p2 hl
  rw[if_pos hlt]
  by_cases ht:mid-a ≥ (b-a) / 8
  ·obtain⟨_,v1,v2,v3⟩:=ih (mid+1) b limit true ap (pdq (ltC c) d4 a mid limit true true) (by omega) (by omega) (by omega) u2 hl
   rw[dT ht]
   refine⟨?_,v2,by omega⟩
   cases ap<;>simp only[cT,cF,bS,e1,e2,e3,e4,e5,ZiD,ZjZ,dT hlt,dT (show(b-a) / 8<=mid-a from ht),u1,after]<;>exact v1
  ·obtain⟨_,v1,v2,v3⟩:=ih (mid+1) b limit false ap (pdq (ltC c) d4 a mid limit true true) (by omega) (by omega) (by omega) u2 hl
   rw[dF ht]
   refine⟨?_,v2,by omega⟩
   cases ap<;>simp only[cT,cF,bS,e1,e2,e3,e4,e5,ZiD,ZjZ,dT hlt,dF (show ¬(b-a) / 8<=mid-a from ht),u1,after]<;>exact v1
 ·obtain⟨⟨u1,u2,u3⟩,_⟩:=ih (mid+1) b limit true true d4 (by omega) (by omega) (by omega) p2 hl
  rw[if_neg hlt]
  by_cases ht:b-mid ≥ (b-a) / 8
  ·obtain⟨_,v1,v2,v3⟩:=ih a mid limit true ap (pdq (ltC c) d4 (mid+1) b limit true true) (by omega) r1 (by omega) u2 hl
   rw[dT ht]
   refine⟨?_,v2,by omega⟩
   cases ap<;>simp only[cT,cF,bS,e1,e2,e3,e4,e5,ZiD,ZjZ,dF hlt,dT (show(b-a) / 8<=b-mid from ht),u1,after]<;>exact v1
  ·obtain⟨_,v1,v2,v3⟩:=ih a mid limit false ap (pdq (ltC c) d4 (mid+1) b limit true true) (by omega) r1 (by omega) u2 hl
   rw[dF ht]
   refine⟨?_,v2,by omega⟩
   cases ap<;>simp only[cT,cF,bS,e1,e2,e3,e4,e5,ZiD,ZjZ,dF hlt,dF (show ¬(b-a) / 8<=b-mid from ht),u1,after]<;>exact v1
theorem ZgT {rc:Int->Int->Int->(Int->Int->Option Int)->LI->Option LI}{k:Nat} (ih:Zux cmp c P rc k) (a b limit pivot:Nat) (wb wp:Bool) (d:Array Int) (hk:b-a<=k+1) (h1:a<=pivot) (h2:pivot<b) (hb:b<=d.size) (hd:OKA P d) (hl:limit<=1000) :
  Res P (after cmp rc (Zss cmp rc (a:Int) (b:Int) (limit:Int) (pivot:Int) wb wp d.toList)) (if (decide (a > 0) && !ltC c d[a-1]! d[pivot]!)=true then
    match partitionEqual (ltC c) d a b pivot with
    | (mid,d4)=>if _h:a<mid/\mid<=b then pdq (ltC c) d4 mid b limit wb wp else d4
   else
    match partition (ltC c) d a b pivot with
    | (mid,alreadyPartitioned,d4)=>
     if _h:a<=mid/\mid<b then
      if mid-a<b-mid then pdq (ltC c) (pdq (ltC c) d4 a mid limit true true) (mid+1) b limit (decide (mid-a ≥ (b-a) / 8)) alreadyPartitioned
      else pdq (ltC c) (pdq (ltC c) d4 (mid+1) b limit true true) a mid limit (decide (b-mid ≥ (b-a) / 8)) alreadyPartitioned
     else d4) d.size:=by
 have hz:=hd.sz
 have pa:=ZBl hc hs ih a b limit pivot d hk h1 h2 hb hd hl
 have ip:pivot<d.size:=by omega
 unfold Zss
 by_cases ha:0<a
 ·have ia:a-1<d.size:=by omega
  have e1:w64 ((a:Int)-1)=((a-1:Nat):Int):=ZaG (by omega) (by omega)
  have e3:=hc _ _ (hd.el _ ia) (hd.el _ ip)
  simp only[dT (show(0:Int)<(a:Int) by omega),cT,e1,ZbZ ia,ZbZ ip,bS,e3]
  by_cases h:c d[a-1]! d[pivot]! < 0
  ·rw[dT h,if_neg (by simp[ltC,h])]
   exact pa
  ·rw[dF h,if_pos (by simp[ltC,h,ha])]
   obtain⟨q1,q2,q3,q4,q5⟩:=ZHJ hc a b pivot d h1 h2 hb hd
   generalize partitionEqual (ltC c) d a b pivot=q at *
   obtain⟨mid,d4⟩:=q
   dsimp only at *
   rw[dif_pos ⟨q4,q5⟩]
   obtain⟨_,v1,v2,v3⟩:=ih mid b limit wb wp d4 (by omega) q5 (by omega) q2 hl
   simp only[cF,q1,bS,after]
   exact⟨v1,v2,by omega⟩
 ·rw[if_neg (by simp[ha])]
  simp only[dF (show ¬(0:Int)<(a:Int) by omega),cF]
  exact pa
theorem Zw7 {rc:Int->Int->Int->(Int->Int->Option Int)->LI->Option LI}{k:Nat} (ih:Zux cmp c P rc k) (a b limit:Nat) (wb wp:Bool) (d:Array Int) (hk:b-a<=k+1) (hab:a<=b) (hb:b<=d.size) (hd:OKA P d) (hl:limit<=1000) :
  Res P (lp (ZD cmp rc) ((a:Int),(b:Int),(limit:Int),wb,wp,d.toList)) (pdq (ltC c) d a b limit wb wp) d.size:=by
 have hz:=hd.sz
 have e1:w64 ((b:Int)-(a:Int))=((b-a:Nat):Int):=ZaG (by omega) (by omega)
 rw[ZEG,Zwv,pdq,e1]
 by_cases h12:b-a<=12
 ·obtain⟨q1,q2,q3⟩:=ZJK hc a b d hb hab hd
  rw[dT (show((b-a:Nat):Int)<=12 by omega),if_pos h12]
  simp only[cT,q1,bS,after]
  exact⟨rfl,q2,q3⟩
 rw[dF (show ¬((b-a:Nat):Int)<=12 by omega),if_neg h12]
 by_cases h0:limit=0
 ·obtain⟨q1,q2,q3⟩:=ZKN hc a b d hab hb hd
  rw[show((limit:Int)==0)=true by simp[h0],if_pos h0]
  simp only[cF,cT,q1,bS,after]
  exact⟨rfl,q2,q3⟩
 rw[show((limit:Int)==0)=false by simpa using (show ¬(limit:Int)=0 by omega),if_neg h0]
 have hl2:∀x:Nat,(Zv1 Hint.unknown==2)=false/\(Zv1 Hint.unknown==1)=false/\(Zv1 Hint.increasing==2)=false/\(Zv1 Hint.increasing==1)=true/\(Zv1 Hint.decreasing==2)=true:=fun _=>⟨rfl,rfl,rfl,rfl,rfl⟩
 obtain⟨g1,g2,g3,g4,g5⟩:=hl2 0
 have rp:∀p:Nat,a<=p->p<b->w64 (w64 ((b:Int)-1)-w64 ((p:Int)-(a:Int)))=(((b-1)-(p-a):Nat):Int):=fun p h1 h2=>by
  have x1:w64 ((b:Int)-1)=((b-1:Nat):Int):=ZaG (by omega) (by omega)
  have x2:w64 ((p:Int)-(a:Int))=((p-a:Nat):Int):=ZaG (by omega) (by omega)
  rw[x1,x2]
  exact ZaG (by omega) (by omega)
 cases wb with
 | true=>
  have pv:=ZJN hc a b d (by omega) hb hd
  have pr:=choosePivot_holds (ltC c) d a b (by omega)
  simp only[cF,cT,Bool.not_true,Bool.false_eq_true,if_false,Bool.true_and]
  generalize choosePivot (ltC c) d a b=cp at *
  obtain⟨p,h⟩:=cp
  dsimp only at *
  cases wp with
  | true=>
   simp only[cT,pv,bS]
   cases h with
   | decreasing=>
    obtain⟨v1,v2,v3⟩:=ZG9 (P:=P) cmp a b d (by omega) hb hd
    obtain⟨w1,w2,w3⟩:=ZJO hc a b (reverseRange d a b) (by omega) (by omega) v2
    simp only[g5,cT,v1,bS,w1,if_true,decide_true,Bool.and_self]
    generalize partialInsertionSort (ltC c) (reverseRange d a b) a b=pi at *
    obtain⟨d3,fin⟩:=pi
    dsimp only at *
    cases fin with
    | true=>exact⟨rfl,w2,w3.trans v3⟩
    | false=>
     rw[rp p pr.1 pr.2]
     have:=ZgT hc hs ih a b limit ((b-1)-(p-a)) true true d3 hk (by omega) (by omega) (by omega) w2 hl
     rw[show d3.size=d.size by omega] at this
     exact this
   | increasing=>
    obtain⟨w1,w2,w3⟩:=ZJO hc a b d (by omega) hb hd
    simp only[g3,g4,cT,cF,w1,bS,reduceCtorEq,if_false,if_true,decide_true,Bool.and_self]
    generalize partialInsertionSort (ltC c) d a b=pi at *
    obtain⟨d3,fin⟩:=pi
    dsimp only at *
    cases fin with
    | true=>exact⟨rfl,w2,w3⟩
    | false=>
     have:=ZgT hc hs ih a b limit p true true d3 hk pr.1 pr.2 (by omega) w2 hl
     rw[show d3.size=d.size by omega] at this
     exact this
   | unknown=>
    simp only[g1,g2,cF,reduceCtorEq,if_false,decide_false,Bool.and_false,Bool.false_eq_true]
    exact ZgT hc hs ih a b limit p true true d hk pr.1 pr.2 hb hd hl
  | false=>
   simp only[cF,pv,bS,Bool.false_and,Bool.false_eq_true,if_false]
   cases h with
   | decreasing=>
    obtain⟨v1,v2,v3⟩:=ZG9 (P:=P) cmp a b d (by omega) hb hd
    simp only[g5,cT,v1,bS,if_true]
    rw[rp p pr.1 pr.2]
    have:=ZgT hc hs ih a b limit ((b-1)-(p-a)) true false (reverseRange d a b) hk (by omega) (by omega) (by omega) v2 hl
    rw[v3] at this
    exact this
   | increasing=>
    simp only[g3,cF,reduceCtorEq,if_false]
    exact ZgT hc hs ih a b limit p true false d hk pr.1 pr.2 hb hd hl
   | unknown=>
    simp only[g1,cF,reduceCtorEq,if_false]
    exact ZgT hc hs ih a b limit p true false d hk pr.1 pr.2 hb hd hl
 | false=>
  obtain⟨b1,b2,b3⟩:=ZN8 (P:=P) cmp a b d hab hb hd
  have pv:=ZJN hc a b (breakPatterns d a b) (by omega) (by omega) b2
  have pr:=choosePivot_holds (ltC c) (breakPatterns d a b) a b (by omega)
  have el:w64 ((limit:Int)-1)=((limit-1:Nat):Int):=ZaG (by omega) (by omega)
  simp only[cF,b1,bS,pv,Bool.not_false,if_true,Bool.false_and,Bool.false_eq_true,if_false,el]
  generalize choosePivot (ltC c) (breakPatterns d a b) a b=cp at *
  obtain⟨p,h⟩:=cp
  dsimp only at *
  cases h with
  | decreasing=>
   obtain⟨v1,v2,v3⟩:=ZG9 (P:=P) cmp a b (breakPatterns d a b) (by omega) (by omega) b2
   simp only[g5,cT,v1,bS,if_true]
   rw[rp p pr.1 pr.2]
   have:=ZgT hc hs ih a b (limit-1) ((b-1)-(p-a)) false wp (reverseRange (breakPatterns d a b) a b) hk (by omega) (by omega) (by omega) v2 (by omega)
   rw[v3,b3] at this
   exact this
  | increasing=>
   simp only[g3,cF,reduceCtorEq,if_false]
   have:=ZgT hc hs ih a b (limit-1) p false wp (breakPatterns d a b) hk pr.1 pr.2 (by omega) b2 (by omega)
   rw[b3] at this
   exact this
  | unknown=>
   simp only[g1,cF,reduceCtorEq,if_false]
   have:=ZgT hc hs ih a b (limit-1) p false wp (breakPatterns d a b) hk pr.1 pr.2 (by omega) b2 (by omega)
   rw[b3] at this
   exact this
theorem ZJg:∀(k m:Nat),k<=m->Zux cmp c P (ZT (m+1)) k:=by
 intro k
 induction k with
 | zero=>
  intro m hm
  have base:∀(rc:Int->Int->Int->(Int->Int->Option Int)->LI->Option LI) (a b limit:Nat) (wb wp:Bool) (d:Array Int),b-a<=0->a<=b->b<=d.size->OKA P d->Res P (lp (ZD cmp rc) ((a:Int),(b:Int),(limit:Int),wb,wp,d.toList)) (pdq (ltC c) d a b limit wb wp) d.size:=by
   intro rc a b limit wb wp d hk hab hb hd
   have hz:=hd.sz
   have e1:w64 ((b:Int)-(a:Int))=((b-a:Nat):Int):=ZaG (by omega) (by omega)
   obtain⟨q1,q2,q3⟩:=ZJK hc a b d hb hab hd
   rw[ZY,Zwv,pdq,e1,dT (show((b-a:Nat):Int)<=12 by omega),if_pos (by omega)]
   simp only[cT,q1,bS]
   exact⟨rfl,q2,q3⟩
  intro a b limit wb wp d hk hab hb hd hl
  refine⟨?_,base _ a b limit wb wp d hk hab hb hd⟩
  obtain⟨r1,r2⟩:=base (ZT m) a b limit true true d hk hab hb hd
  refine⟨?_,r2⟩
  show ZaE (ZT m) (a:Int) (b:Int) (limit:Int) cmp d.toList=_
  unfold ZaE
  rw[r1];rfl
 | succ k ih=>
  intro m hm a b limit wb wp d hk hab hb hd hl
  refine⟨?_,Zw7 hc hs (ih m (by omega)) a b limit wb wp d hk hab hb hd hl⟩
  obtain⟨m',rfl⟩:∃m',m=m'+1:=⟨m-1,by omega⟩
  obtain⟨r1,r2⟩:=Zw7 hc hs (ih m' (by omega)) a b limit true true d hk hab hb hd hl
  refine⟨?_,r2⟩
  show ZaE (ZT (m'+1)) (a:Int) (b:Int) (limit:Int) cmp d.toList=_
  unfold ZaE
  rw[r1];rfl
theorem ZI5 (l:LI) (hl:l.length<=1000) (hP:∀x∈l,P x):Zay cmp l=some (Sort.sort (ltC c) l.toArray).toList:=by
 have hd:OKA P l.toArray:=⟨fun i hi=>by
  have hi':i<l.length:=by simpa using hi
  rw[getElem!_pos l.toArray i hi]
  simpa using hP _ (getElem_mem hi'),by simpa using hl⟩
 obtain⟨l1,_,_⟩:=ZGv hl
 have hbl:bitsLen l.length<=1000:=by
  unfold bitsLen
  split
  ·omega
  ·have:Nat.log2 l.length<11:=(Nat.log2_lt (by assumption)).2 (by omega)
   omega
 have key:∀n,l.length+1<=n->ZT n 0 (l.length:Int) (bitsLen l.length:Int) cmp l=some (Sort.sort (ltC c) l.toArray).toList:=by
  intro n hn
  obtain⟨m,rfl⟩:∃m,n=m+1:=⟨n-1,by omega⟩
  obtain⟨⟨r1,_⟩,_⟩:=ZJg hc hs l.length m (by omega) 0 l.length (bitsLen l.length) true true l.toArray (by omega) (by omega) (by simp) hd hbl
  refine(r1:ZT (m+1) 0 (l.length:Int) (bitsLen l.length:Int) cmp l=_).trans ?_
  unfold Sort.sort
  rw[List.size_toArray]
 unfold Zay ZcP
 rw[l1,bS,ZIr key]
 rfl
theorem ZG8 (l:LI) (hl:l.length<=1000) (hP:∀x∈l,P x):∃r:LI,Zay cmp l=some r/\r.Perm l/\r.Pairwise (fun x y=>ltC c y x=false):=by
 refine⟨_,ZI5 hc hs l hl hP,?_⟩
 obtain⟨⟨h1,_,h2⟩,h3⟩:=sort_sorts (ltC c) hs l.toArray
 generalize Sort.sort (ltC c) l.toArray=d at *
 constructor
 ·have e1:d.extract 0 l.toArray.size=d:=by rw[<- h1];simp
  rw[e1] at h2
  simpa using h2
 ·rw[List.pairwise_iff_getElem]
  intro i j hi hj hij
  have hj':j<d.size:=by simpa using hj
  have hi':i<d.size:=by omega
  have:=h3 i j (zero_le _) hij (by omega)
  rw[getElem!_pos d j hj',getElem!_pos d i hi'] at this
  simpa using this
end
end
def Zkj (l:List Zf) (z:Int):Int:=match l[z.toNat]? with | some s=>s.total | none=>0
def ahead (l:List Zf) (x y:Int):Prop:=Zkj l y<Zkj l x∨(Zkj l x=Zkj l y/\x<y)
def ZBN (l:List Zf) (x y:Int):Int:=if Zkj l y<Zkj l x then -1 else if Zkj l x<Zkj l y then 1 else x-y
theorem ZF3 (l:List Zf) (x y:Int):ltC (ZBN l) x y=true↔ahead l x y:=by
 unfold ltC ZBN ahead
 rw[decide_eq_true_eq]
 split
 ·omega
 ·split<;>omega
theorem Zyu (l:List Zf) (x y:Int):ltC (ZBN l) x y=false↔¬ahead l x y:=by rw[<- ZF3];simp
theorem ZIP (l:List Zf):SWO (ltC (ZBN l)):=by
 refine⟨fun x=>?_,fun x y z h1 h2=>?_,fun x y z h1 h2=>?_⟩
 ·rw[Zyu];unfold ahead;omega
 ·rw[ZF3] at *;unfold ahead at *;omega
 ·rw[Zyu] at *;unfold ahead at *;omega
def InL (l:List Zf) (z:Int):Prop:=0<=z/\z.toNat<l.length
theorem ZLM {l:List Zf}{z:Int} (h:InL l z):∃s,ZA l z=some s/\l[z.toNat]? = some s/\Zkj l z=s.total:=by
 refine⟨l[z.toNat]'h.2,?_,gE h.2,?_⟩
 ·have:=ZI (gE h.2)
  rwa [toNat_of_nonneg h.1] at this
 ·unfold Zkj;rw[gE h.2]
theorem ZJc (l:List Zf) (hl:l.length<=1000):ZwD (fun z0 z1=>ZE z0 z1 l) (ZBN l) (InL l):=by
 intro x y hx hy
 obtain⟨s,s1,_,s2⟩:=ZLM hx
 obtain⟨t,t1,_,t2⟩:=ZLM hy
 have hx2:=hx.2
 have hy2:=hy.2
 have hx1:=hx.1
 have hy1:=hy.1
 show ZE x y l=some (ZBN l x y)
 unfold ZE ZBN
 rw[s1,t1,s2,t2]
 simp only[bS]
 by_cases h1:t.total<s.total
 ·rw[dT h1,if_pos h1];rfl
 ·rw[dF h1,if_neg h1]
  by_cases h2:s.total<t.total
  ·rw[dT h2,if_pos h2];rfl
  ·rw[dF h2,if_neg h2,Za0 (by omega)];rfl
def ZrY:Nat->Nat->LI
 | _,0=>[]
 | i,k+1=>(i:Int) :: ZrY (i+1) k
theorem Zsw (z:Int):∀(k i:Nat),z∈ZrY i k↔(i:Int)<=z/\z<(i:Int)+k
 | 0,i=>by simp only[ZrY,List.not_mem_nil,false_iff];omega
 | k+1,i=>by
  simp only[ZrY,mem_cons,Zsw z k (i+1)]
  omega
theorem ZwW:∀(k i:Nat),(ZrY i k).Pairwise (fun x y=>x<y)
 | 0,i=>List.Pairwise.nil
 | k+1,i=>by
  unfold ZrY
  rw[List.pairwise_cons]
  refine⟨fun z hz=>?_,ZwW k (i+1)⟩
  have:=(Zsw z k (i+1)).1 hz
  omega
theorem Zwe:∀(k i:Nat),(ZrY i k).length=k
 | 0,_=>rfl
 | k+1,i=>by unfold ZrY;rw[length_cons,Zwe k]
structure Zhm (l:List Zf) (r:LI):Prop where
 perm:r.Perm (ZrY 0 l.length)
 rise:r.Pairwise (ahead l)
theorem Zhm.mem {l:List Zf}{r:LI} (h:Zhm l r) (z:Int):z∈r↔InL l z:=by
 rw[h.perm.mem_iff,Zsw]
 unfold InL
 omega
theorem Zhm.len {l:List Zf}{r:LI} (h:Zhm l r):r.length=l.length:=by rw[h.perm.length_eq,Zwe]
theorem Zhm.nodup {l:List Zf}{r:LI} (h:Zhm l r):r.Nodup:=h.rise.imp fun {x y} hp he=>by
 subst he
 unfold ahead at hp
 omega
theorem ZEt (l:List Zf) (hl:l.length<=1000):∃r,ZgP l=some r/\Zhm l r:=by
 have loop:∀(k i:Nat) (s:LI),i+k=l.length->s.length<=i->lp (Zfw l) ((i:Int),s)=some (s++ZrY i k):=by
  intro k
  induction k with
  | zero=>
   intro i s hi hs
   have:i=l.length:=by omega
   subst this
   rw[ZY]
   simp only[Zfw,Zbh,cF,ZrY,append_nil]
  | succ k ih=>
   intro i s hi hs
   have hi':i<l.length:=by omega
   rw[ZY]
   simp only[Zfw,ZaW hi',cT,Zeg (show s.length+1<=1073741824 by omega),Zw hi' (show l.length<9223372036854775808 by omega)]
   rw[ih (i+1) (s++[(i:Int)]) (by omega) (by rw[lA,length_singleton];omega)]
   simp[ZrY]
 have k0:lp (Zfw l) (0,[])=some (ZrY 0 l.length):=loop l.length 0 [] (by omega) (by simp)
 obtain⟨r,h1,h2,h3⟩:=ZG8 (ZJc l hl) (ZIP l) (ZrY 0 l.length) (by rw[Zwe];exact hl) (fun x hx=>by
  have:=(Zsw x l.length 0).1 hx
  unfold InL
  omega)
 refine⟨r,?_,h2,?_⟩
 ·unfold ZgP
  rw[k0,bS,h1]
  rfl
 ·have nd:r.Pairwise (fun x y=>x≠y):=(h2.pairwise_iff (fun h=>Ne.symm h)).2 ((ZwW l.length 0).imp fun h=>by omega)
  refine(h3.and nd).imp fun {x y} hp=>?_
  have h4:=(Zyu l y x).1 hp.1
  have h5:=hp.2
  unfold ahead at *
  omega
noncomputable section
def okS (s:Zf):Bool:=Ze7 s&&decide (s.total<=s.deadline)
theorem ZKI (s:Zf):Zds s=some (!(okS s)):=by
 unfold Zds okS
 rw[Zyf]
 cases h:Ze7 s with
 | false=>rfl
 | true=>
  rw[ZCV s h]
  have e:decide (s.deadline<s.total) = !decide (s.total<=s.deadline):=by rw[<- decide_not];exact decide_eq_decide.2 (by omega)
  simp only[cT,bS,bne_self_eq_false,cF,e]
  cases decide (s.total<=s.deadline)<;>rfl
def Zc1 (l:List Zf):Bool:=!decide ((8:Int)<(l.length:Int)) && !(l.any fun s=>!(okS s))
theorem ZG7 (l:List Zf) (hl:l.length<=1000):Zix l=some (bif Zc1 l then 0 else 150):=by
 have key:Zbx l (fun z0=>Zds z0)=some (l.any fun s=>!(okS s)):=by
  unfold Zbx ZcW
  rw[ZcG l (ZaV l (fun z0=>Zds z0)) (fun _ s=>!(okS s)) (fun i _=>.inl (i:Int)) (.inr ()) (fun i x hi hx=>by
   simp only[ZaV,ZaW hi,ZI hx,bS,ZKI,Zw hi (by omega),cT]
   cases okS x<;>rfl) (by simp only[ZaV,Zbh];rfl)]
  rcases ZqS (fun s=>!(okS s)) () l 0 with⟨j,e1,e2⟩ | ⟨e1,e2⟩
  ·rw[e1,e2]
   show(bif decide ((0:Int)<=(j:Int)) then some true else some false)=some true
   rw[dT (by omega)]
   rfl
  ·rw[e1,e2]
   rfl
 unfold Zix Zc1
 rw[key]
 cases decide ((8:Int)<(l.length:Int)) with
 | true=>rfl
 | false=>cases (l.any fun s=>!(okS s))<;>rfl
theorem ZdY {l:List Zf} (h:Zc1 l=true):l.length<=8/\∀s∈l,Zhh s/\s.total<=s.deadline:=by
 unfold Zc1 at h
 simp only[aT,Bool.not_eq_true',decide_eq_false_iff_not] at h
 refine⟨by omega,fun s hs=>?_⟩
 have:=List.any_eq_false.1 h.2 s hs
 simp only[Bool.not_eq_true',Bool.not_eq_false] at this
 unfold okS at this
 simp only[aT,decide_eq_true_eq] at this
 exact⟨Zni this.1,this.2⟩
def Zg1 (t:Int) (s:Zf):Int:=if t<s.deadline then 0 else s.total*((t-s.deadline) / s.period+1)
def Zkl (t:Int) (s:Zf):Int:=if t<s.deadline then s.most else 0
def dem (t:Int):List Zf->Int
 | []=>0
 | s :: l=>Zg1 t s+dem t l
def blk (t:Int):List Zf->Int
 | []=>0
 | s :: l=>max (Zkl t s) (blk t l)
def hor:List Zf->Int
 | []=>0
 | s :: l=>max s.period (hor l)
theorem ZBP (l:List Zf) (hl:l.length<=8) (b:Int->Zf->Option Int) (F:Int->Zf->Int) (h:∀n s,s∈l->0<=n->n<=1152921504606846976->b n s=some (F n s)/\0<=F n s/\F n s<=n+18014398509481984):ZhB l b=some (l.foldl F 0):=by
 have key:=Zum l (Zej l b) (fun i (n:Int)=>(n,(i:Int))) (fun i x n=>(b n x).map Sum.inl) (fun n=>some n) (fun i x n hi hx=>by
   simp only[Zej,ZaW hi,ZI hx,bS,Zw hi (by omega),cT]
   cases b n x<;>rfl) (fun n=>by simp only[Zej,Zbh];rfl) 0
 have sc:∀(m:List Zf) (i:Nat) (n:Int),(∀s∈m,s∈l)->0<=n->n+18014398509481984*m.length<=1152921504606846976->ZqT (fun(_:Nat) x n=>(b n x).map (Sum.inl:Int->Int⊕Int)) (fun n=>some n) i m n=some (m.foldl F n):=by
  intro m
  induction m with
  | nil=>intro i n _ _ _;rfl
  | cons x m ih=>
   intro i n hm h0 hn
   rw[length_cons] at hn
   obtain⟨h1,h2,h3⟩:=h n x (hm x (by simp)) h0 (by omega)
   unfold ZqT
   rw[h1]
   exact ih (i+1) (F n x) (fun s hs=>hm s (by simp[hs])) h2 (by omega)
 have key2:lp (Zej l b) (0,0)=_:=key
 unfold ZhB
 rw[key2,sc l 0 0 (fun s h=>h) (by omega) (by omega)]
 rfl
theorem ZsN (g:Zf->Int) (f:List Zf->Int) (h0:f []=0) (h1:∀s l,f (s :: l)=g s+f l):∀(l:List Zf) (n:Int),l.foldl (fun n s=>n+g s) n=n+f l
 | [],n=>by rw[h0];simp
 | s :: l,n=>by
  rw[List.foldl_cons,ZsN g f h0 h1 l,h1]
  omega
theorem ZmT (g:Zf->Int) (f:List Zf->Int) (h0:f []=0) (h1:∀s l,f (s :: l)=max (g s) (f l)):∀(l:List Zf) (n:Int),0<=n->l.foldl (fun n s=>max n (g s)) n=max n (f l)
 | [],n,hn=>by rw[h0];simp;omega
 | s :: l,n,hn=>by
  rw[List.foldl_cons,ZmT g f h0 h1 l _ (by omega),h1]
  omega
theorem ZnH {s:Zf} (o:Zhh s) {t:Int} (h1:1<=t) (h2:t<=4096):0<=Zg1 t s/\Zg1 t s<=33554432:=by
 have:=o.t1;have:=o.t2;have:=o.d1;have:=o.d2
 unfold Zg1
 split
 ·omega
 ·have q1:0<=(t-s.deadline) / s.period:=Int.ediv_nonneg (by omega) (by omega)
  have q2:(t-s.deadline) / s.period<=t-s.deadline:=Int.ediv_le_self _ (by omega)
  constructor
  ·exact Int.mul_nonneg (by omega) (by omega)
  ·have:s.total*((t-s.deadline) / s.period+1)<=4096*8192:=Int.mul_le_mul (by omega) (by omega) (by omega) (by omega)
   omega
theorem ZFV (l:List Zf) (h:Zc1 l=true) (t:Int) (h1:1<=t) (h2:t<=4096):Zkt l t=some (dem t l):=by
 obtain⟨hl,ho⟩:=ZdY h
 have key:=ZBP l hl (fun z0 z1=>ZeO z0 z1 t) (fun n s=>n+Zg1 t s) (fun n s hs hn hn2=>by
  have o:=(ho s hs).1
  obtain⟨b1,b2⟩:=ZnH o h1 h2
  have:=o.t1;have:=o.t2;have:=o.d1;have:=o.d2;have:=o.p
  refine⟨?_,by omega,by omega⟩
  show ZeO n s t=some (n+Zg1 t s)
  unfold ZeO
  unfold Zg1 at b1 b2 ⊢
  by_cases hd:t<s.deadline
  ·rw[dT hd,if_pos hd,Int.add_zero];rfl
  ·rw[dF hd,if_neg hd]
   rw[if_neg hd] at b1 b2
   have q1:0<=(t-s.deadline) / s.period:=Int.ediv_nonneg (by omega) (by omega)
   have q2:(t-s.deadline) / s.period<=t-s.deadline:=Int.ediv_le_self _ (by omega)
   have e1:w64 (t-s.deadline)=t-s.deadline:=Za0 (by omega)
   have e2:w64 (Int.tdiv (t-s.deadline) s.period)=(t-s.deadline) / s.period:=by
    rw[Int.tdiv_eq_ediv_of_nonneg (by omega)]
    exact Za0 (by omega)
   have e3:w64 ((t-s.deadline) / s.period+1)=(t-s.deadline) / s.period+1:=Za0 (by omega)
   have e4:w64 (s.total*((t-s.deadline) / s.period+1))=s.total*((t-s.deadline) / s.period+1):=Za0 (by omega)
   have e5:w64 (n+s.total*((t-s.deadline) / s.period+1))=n+s.total*((t-s.deadline) / s.period+1):=Za0 (by omega)
   simp only[cF,show(s.period==0)=false by simp;omega,e1,e2,e3,e4,e5])
 unfold Zkt
 rw[key,ZsN (Zg1 t) (dem t) rfl (fun _ _=>rfl),Int.zero_add]
 rfl
theorem ZIp (l:List Zf) (h:Zc1 l=true) (t:Int):Zmr l t=some (blk t l):=by
 obtain⟨hl,ho⟩:=ZdY h
 have key:=ZBP l hl (fun z0 z1=>ZfU z0 z1 t) (fun n s=>max n (Zkl t s)) (fun n s hs hn hn2=>by
  have o:=(ho s hs).1
  have:=o.m1;have:=o.m2;have:=o.l2;have:=o.t2
  show ZfU n s t=some (max n (Zkl t s))/\_
  unfold ZfU Zkl
  by_cases hd:t<s.deadline
  ·rw[dT hd,if_pos hd]
   refine⟨?_,by omega,by omega⟩
   by_cases hm:n<s.most
   ·rw[dT hm,show max n s.most=s.most by omega];rfl
   ·rw[dF hm,show max n s.most=n by omega];rfl
  ·rw[dF hd,if_neg hd]
   refine⟨?_,by omega,by omega⟩
   rw[show max n (0:Int)=n by omega]
   rfl)
 have hb:∀m:List Zf,0<=blk t m:=fun m=>by
  induction m with
  | nil=>exact le_refl _
  | cons s m ih=>unfold blk;omega
 unfold Zmr
 rw[key,ZmT (Zkl t) (blk t) rfl (fun _ _=>rfl) l 0 (le_refl _),show max (0:Int) (blk t l)=blk t l by have:=hb l;omega]
 rfl
theorem ZsE (l:List Zf) (h:Zc1 l=true):ZjE l=some (hor l):=by
 obtain⟨hl,ho⟩:=ZdY h
 have key:=ZBP l hl (fun z0 z1=>ZdN z0 z1) (fun n s=>max n s.period) (fun n s hs hn hn2=>by
  have o:=(ho s hs).1
  have:=o.p;have:=o.d1;have:=o.d2
  show ZdN n s=some (max n s.period)/\_
  unfold ZdN
  refine⟨?_,by omega,by omega⟩
  by_cases hm:n<s.period
  ·rw[dT hm,show max n s.period=s.period by omega];rfl
  ·rw[dF hm,show max n s.period=n by omega];rfl)
 have hb:∀m:List Zf,0<=hor m:=fun m=>by
  induction m with
  | nil=>exact le_refl _
  | cons s m ih=>unfold hor;omega
 unfold ZjE
 rw[ZG7 l (by omega),h]
 simp only[cT,bS,bne_self_eq_false,cF]
 rw[key,ZmT (fun s=>s.period) hor rfl (fun _ _=>rfl) l 0 (le_refl _),show max (0:Int) (hor l)=hor l by have:=hb l;omega]
 rfl
theorem ZFe {l:List Zf} (h:∀s∈l,Zhh s/\s.total<=s.deadline):hor l<=4096:=by
 induction l with
 | nil=>unfold hor;omega
 | cons s l ih=>
  have:=ih fun x hx=>h x (by simp[hx])
  have:=(h s (by simp)).1.p
  unfold hor
  omega
def ZDP (l:List Zf) (s:Zf) (t:Int):Prop:=∀k:Nat,t+k*s.period<=hor l->dem (t+k*s.period) l+blk (t+k*s.period) l<=t+k*s.period
def ZwS (l:List Zf):Prop:=Zc1 l=true/\∀s∈l,ZDP l s s.deadline
def ZqG (l:List Zf):Bool:=@decide (ZwS l) (Classical.propDecidable _)
theorem Zm8 (l:List Zf):ZqG l=true↔ZwS l:=by unfold ZqG;exact @decide_eq_true_iff _ (Classical.propDecidable _)
def ZrR (l:List Zf) (s:Zf):Bool:=@decide (¬ZDP l s s.deadline) (Classical.propDecidable _)
theorem Zu3 {l:List Zf} (h:Zc1 l=true) {t:Int} (h1:1<=t) (h2:t<=4096):0<=dem t l/\dem t l<=33554432*l.length/\0<=blk t l/\blk t l<=4096:=by
 have ho:=(ZdY h).2
 clear h
 induction l with
 | nil=>unfold dem blk;simp
 | cons s l ih=>
  obtain⟨a1,a2,a3,a4⟩:=ih fun x hx=>ho x (by simp[hx])
  have o:=(ho s (by simp)).1
  obtain⟨b1,b2⟩:=ZnH o h1 h2
  have:=o.m1;have:=o.m2;have:=o.l2;have:=o.t2
  have c:0<=Zkl t s/\Zkl t s<=4096:=by unfold Zkl;split<;>omega
  unfold dem blk
  rw[length_cons]
  omega
theorem ZJp (l:List Zf) (h:Zc1 l=true) (s:Zf) (hs:s∈l):∀(m:Nat) (t:Int),1<=t->t<=8192->4096-t<(m:Int)->∃r,lp (Zhc l s) t=some r/\(r = .inr ()/\ZDP l s t∨r = .inl ()/\¬ZDP l s t):=by
 obtain⟨hl,ho⟩:=ZdY h
 have o:=(ho s hs).1
 have hh:=ZFe ho
 have:=o.p;have:=o.d1;have:=o.d2
 intro m
 induction m with
 | zero=>
  intro t h1 h2 hm
  rw[ZY]
  simp only[Zhc,ZsE l h,bS,dF (show ¬t<=hor l by omega),cF]
  refine⟨_,rfl,.inl ⟨rfl,fun k hk=>?_⟩⟩
  have:0<=(k:Int)*s.period:=Int.mul_nonneg (by omega) (by omega)
  omega
 | succ m ih=>
  intro t h1 h2 hm
  rw[ZY]
  by_cases ht:t<=hor l
  ·have t4:t<=4096:=by omega
   obtain⟨a1,a2,a3,a4⟩:=Zu3 h h1 t4
   have e1:w64 (dem t l+blk t l)=dem t l+blk t l:=Za0 (by omega)
   have e2:w64 (t+s.period)=t+s.period:=Za0 (by omega)
   simp only[Zhc,ZsE l h,bS,dT ht,cT,ZFV l h t h1 t4,ZIp l h t,e1,e2]
   by_cases hv:t<dem t l+blk t l
   ·rw[dT hv]
    refine⟨_,rfl,.inr ⟨rfl,fun hk=>?_⟩⟩
    have:=hk 0 (by simpa using ht)
    simp only[Int.natCast_zero,Int.zero_mul,Int.add_zero] at this
    omega
   ·rw[dF hv]
    simp only[cF]
    obtain⟨r,r1,r2⟩:=ih (t+s.period) (by omega) (by omega) (by omega)
    have key:ZDP l s t↔ZDP l s (t+s.period):=by
     constructor
     ·intro hk k hk2
      have e:t+s.period+(k:Int)*s.period=t+((k+1:Nat):Int)*s.period:=by
       rw[Int.natCast_add,Int.add_mul];omega
      rw[e] at hk2 ⊢
      exact hk (k+1) hk2
     ·intro hk k hk2
      cases k with
      | zero=>
       simp only[Int.natCast_zero,Int.zero_mul,Int.add_zero]
       omega
      | succ k=>
       have e:t+s.period+(k:Int)*s.period=t+((k+1:Nat):Int)*s.period:=by
        rw[Int.natCast_add,Int.add_mul];omega
       have:=hk k
       rw[e] at this
       exact this hk2
    exact⟨r,r1,by rw[key];exact r2⟩
  ·simp only[Zhc,ZsE l h,bS,dF ht,cF]
   refine⟨_,rfl,.inl ⟨rfl,fun k hk=>?_⟩⟩
   have:0<=(k:Int)*s.period:=Int.mul_nonneg (by omega) (by omega)
   omega
theorem ZK2 (l:List Zf) (hl:l.length<=1000):ZnD l=some (ZqG l):=by
 unfold ZnD
 rw[ZG7 l hl]
 cases h:Zc1 l with
 | false=>
  have:ZqG l=false:=by
   cases hf:ZqG l with
   | false=>rfl
   | true=>have:=((Zm8 l).1 hf).1;rw[h] at this;cases this
  rw[this]
  rfl
 | true=>
  obtain⟨hl8,ho⟩:=ZdY h
  have key:=ZcG l (Zic l) (fun _ s=>ZrR l s) (fun _ _=>.inl ()) (.inr ()) (fun i x hi hx=>by
   have hm:=mG hx
   have o:=(ho x hm).1
   have:=o.p;have:=o.d1;have:=o.d2
   obtain⟨r,r1,r2⟩:=ZJp l h x hm 4097 x.deadline o.d1 (by omega) (by omega)
   simp only[Zic,ZaW hi,ZI hx,bS,Zw hi (by omega),cT,r1]
   rcases r2 with⟨rfl,hk⟩ | ⟨rfl,hk⟩
   ·rw[show ZrR l x=false by unfold ZrR;exact @decide_eq_false _ (Classical.propDecidable _) (fun h=>h hk)];rfl
   ·rw[show ZrR l x=true by unfold ZrR;exact @decide_eq_true _ (Classical.propDecidable _) hk];rfl) (by simp only[Zic,Zbh];rfl)
  rw[Zbg,ZgV] at key
  simp only[cT,bS,bne_self_eq_false,cF,key]
  have e:ZqG l = !(l.any (ZrR l)):=by
   rw[Bool.eq_iff_iff,Zm8,Bool.not_eq_true',List.any_eq_false]
   constructor
   ·rintro ⟨_,hk⟩ s hs hlate
    unfold ZrR at hlate
    exact(@of_decide_eq_true _ (Classical.propDecidable _) hlate) (hk s hs)
   ·intro hk
    refine⟨h,fun s hs=>?_⟩
    have:=hk s hs
    unfold ZrR at this
    exact Classical.not_not.1 fun hn=>this (@decide_eq_true _ (Classical.propDecidable _) hn)
  rw[e]
  cases l.any (ZrR l)<;>rfl
theorem ZFs:ZqG []=true:=by
 rw[Zm8]
 refine⟨by unfold Zc1;rfl,fun s hs=>by cases hs⟩
end
def ptS (t:Int) (s:Zf):Int:=s.deadline+((t-s.deadline) / s.period)*s.period
theorem ZJR {s:Zf} (o:Zhh s) {t:Int} (h:s.deadline<=t):s.deadline<=ptS t s/\ptS t s<=t:=by
 have:=o.d1;have:=o.d2
 unfold ptS
 have h0:0<=(t-s.deadline) / s.period:=Int.ediv_nonneg (by omega) (by omega)
 have h1:(t-s.deadline) / s.period*s.period<=t-s.deadline:=Int.ediv_mul_le _ (by omega)
 have h2:0<=(t-s.deadline) / s.period*s.period:=Int.mul_nonneg h0 (by omega)
 omega
theorem ZHO {s:Zf} (o:Zhh s) {t u:Int} (hu:u<=t) (h:s.deadline<=t->ptS t s<=u):Zg1 u s=Zg1 t s:=by
 have:=o.d1;have:=o.d2
 unfold Zg1
 by_cases hd:t<s.deadline
 ·rw[if_pos hd,if_pos (by omega)]
 ·have h1:=(ZJR o (t:=t) (by omega)).1
  have h2:=h (by omega)
  rw[if_neg hd,if_neg (by omega)]
  have a1:(t-s.deadline) / s.period<=(u-s.deadline) / s.period:=by
   refine Int.le_ediv_of_mul_le (by omega) ?_
   unfold ptS at h2
   omega
  have a2:(u-s.deadline) / s.period<=(t-s.deadline) / s.period:=Int.ediv_le_ediv (by omega) (by omega)
  rw[Int.le_antisymm a2 a1]
theorem ZFq {t u:Int} (hu:u<=t):∀{l:List Zf},(∀s∈l,Zhh s)->(∀s∈l,s.deadline<=t->ptS t s<=u)->dem u l=dem t l
 | [],_,_=>rfl
 | s :: l,ho,h=>by
  unfold dem
  rw[ZHO (ho s (by simp)) hu (h s (by simp)),ZFq hu (fun x hx=>ho x (by simp[hx])) (fun x hx=>h x (by simp[hx]))]
theorem ZrP {t u:Int} (hu:u<=t):∀{l:List Zf},(∀s∈l,Zhh s)->blk t l<=blk u l/\0<=blk t l
 | [],_=>by unfold blk;omega
 | s :: l,ho=>by
  have ih:=ZrP hu (l:=l) fun x hx=>ho x (by simp[hx])
  have:=(ho s (by simp)).m1
  have hb:Zkl t s<=Zkl u s:=by
   unfold Zkl
   split<;>split<;>omega
  have:=ih.1;have:=ih.2
  unfold blk
  omega
theorem ZtV (t:Int):∀{l:List Zf},(∃s∈l,s.deadline<=t)->∃s∈l,s.deadline<=t/\∀x∈l,x.deadline<=t->ptS t x<=ptS t s
 | [],h=>by obtain⟨s,hs,_⟩:=h;cases hs
 | y :: l,h=>by
  by_cases hl:∃s∈l,s.deadline<=t
  ·obtain⟨s,h1,h2,h3⟩:=ZtV t hl
   by_cases hy:y.deadline<=t/\ptS t s<ptS t y
   ·refine⟨y,by simp,hy.1,fun x hx hd=>?_⟩
    rcases List.mem_cons.1 hx with rfl | hx
    ·exact le_refl _
    ·have:=h3 x hx hd;omega
   ·refine⟨s,by simp[h1],h2,fun x hx hd=>?_⟩
    rcases List.mem_cons.1 hx with rfl | hx
    ·have:¬ptS t s<ptS t x:=fun e=>hy ⟨hd,e⟩
     omega
    ·exact h3 x hx hd
  ·obtain⟨s,h1,h2⟩:=h
   rcases List.mem_cons.1 h1 with rfl | h1
   ·refine⟨s,by simp,h2,fun x hx hd=>?_⟩
    rcases List.mem_cons.1 hx with rfl | hx
    ·exact le_refl _
    ·exact absurd ⟨x,hx,hd⟩ hl
   ·exact absurd ⟨s,h1,h2⟩ hl
theorem Zzx {l:List Zf} (h:ZwS l) {t:Int} (ht:t<=hor l) (he:∃s∈l,s.deadline<=t):dem t l+blk t l<=t:=by
 obtain⟨hc,hp⟩:=h
 have ho:=fun s hs=>((ZdY hc).2 s hs).1
 obtain⟨s,hs,hd,hm⟩:=ZtV t he
 have o:=ho s hs
 obtain⟨p1,p2⟩:=ZJR o hd
 have:=o.d1;have:=o.d2
 have h0:0<=(t-s.deadline) / s.period:=Int.ediv_nonneg (by omega) (by omega)
 have hk:((((t-s.deadline) / s.period).toNat:Nat):Int)=(t-s.deadline) / s.period:=toNat_of_nonneg h0
 have key:=hp s hs ((t-s.deadline) / s.period).toNat
 rw[hk] at key
 change ptS t s<=hor l->dem (ptS t s) l+blk (ptS t s) l<=ptS t s at key
 have k2:=key (by omega)
 rw[ZFq p2 ho hm] at k2
 have:=(ZrP p2 ho).1
 omega
theorem Zv4 {t:Int}:∀{l:List Zf},(¬∃s∈l,s.deadline<=t)->dem t l=0
 | [],_=>rfl
 | s :: l,h=>by
  have h1:t<s.deadline:=Int.not_le.1 fun e=>h ⟨s,by simp,e⟩
  have h2:=Zv4 (t:=t) (l:=l) fun⟨x,hx,e⟩=>h ⟨x,by simp[hx],e⟩
  unfold dem Zg1
  rw[if_pos h1,h2];rfl
theorem Zrt {s:Zf} (o:Zhh s) (t:Int):0<=Zg1 t s:=by
 have:=o.d1;have:=o.d2;have:=o.t1
 unfold Zg1
 split
 ·omega
 ·have h0:0<=(t-s.deadline) / s.period:=Int.ediv_nonneg (by omega) (by omega)
  exact Int.mul_nonneg (by omega) (by omega)
theorem Zu0 (t:Int):∀{l:List Zf},(∀s∈l,Zhh s)->0<=dem t l
 | [],_=>by unfold dem;omega
 | s :: l,ho=>by
  have:=Zu0 t (l:=l) fun x hx=>ho x (by simp[hx])
  have:=Zrt (ho s (by simp)) t
  unfold dem
  omega
theorem ZCi {l:List Zf} (h:ZwS l) {t:Int} (h0:0<=t) (ht:t<=hor l):dem t l<=t:=by
 have ho:=fun s hs=>((ZdY h.1).2 s hs).1
 by_cases he:∃s∈l,s.deadline<=t
 ·have:=Zzx h ht he
  have:=(ZrP (le_refl t) ho).2
  omega
 ·rw[Zv4 he];exact h0
theorem ZFD {p q:Nat} (hp:ZyV p=true) (hq:ZyV q=true) (h:p<=q):p ∣ q:=by
 have key:∀p∈[1,2,4,8,16,32,64,128,256,512,1024,2048,4096],∀q∈[1,2,4,8,16,32,64,128,256,512,1024,2048,4096],p<=q->q % p=0:=by decide
 unfold ZyV at hp hq
 exact Nat.dvd_of_mod_eq_zero (key p (by simpa using hp) q (by simpa using hq) h)
theorem ZyS:∀{l:List Zf},(∀s∈l,1<=s.period)->l≠[]->(∃s∈l,hor l=s.period)/\∀s∈l,s.period<=hor l
 | [],_,h=>absurd rfl h
 | s :: l,hp,_=>by
  have h1:=hp s (by simp)
  cases l with
  | nil=>
   unfold hor hor
   refine⟨⟨s,by simp,by omega⟩,fun x hx=>by rw[List.mem_singleton.1 hx];omega⟩
  | cons y l=>
   obtain⟨⟨z,hz,e⟩,hm⟩:=ZyS (l:=y :: l) (fun x hx=>hp x (by simp[hx])) (by simp)
   unfold hor
   refine⟨?_,fun x hx=>?_⟩
   ·by_cases hs:s.period<=hor (y :: l)
    ·exact⟨z,by simp[hz],by omega⟩
    ·exact⟨s,by simp,by omega⟩
   ·rcases List.mem_cons.1 hx with rfl | hx
    ·omega
    ·have:=hm x hx;omega
theorem ZB7 {s:Zf} (h:Ze7 s=true):ZyV s.period.toNat=true:=by
 have o:=Zni h
 have:=o.p;have:=o.d1;have:=o.d2
 unfold Ze7 at h
 have ht:Zp0 s.period=true:=by
  simp only[aT] at h
  exact h.1
 rw[<- Zq1 s.period.toNat (by omega),toNat_of_nonneg (by omega)]
 exact ht
theorem ZJd {l:List Zf} (hc:Zc1 l=true) {s:Zf} (hs:s∈l):∃m:Int,hor l=m*s.period:=by
 have ho:=ZdY hc
 have hk:∀s∈l,Ze7 s=true:=fun s hs=>by
  unfold Zc1 at hc
  simp only[aT,Bool.not_eq_true'] at hc
  have:=List.any_eq_false.1 hc.2 s hs
  unfold okS at this
  simp only[Bool.not_eq_true',Bool.not_eq_false,aT] at this
  exact this.1
 have hp:∀s∈l,1<=s.period:=fun s hs=>by have:=(ho.2 s hs).1.d1;have:=(ho.2 s hs).1.d2;omega
 obtain⟨⟨z,hz,e⟩,hm⟩:=ZyS hp (List.ne_nil_of_mem hs)
 have h1:=hp s hs;have h2:=hp z hz;have h3:=hm s hs
 obtain⟨m,hm2⟩:=ZFD (ZB7 (hk s hs)) (ZB7 (hk z hz)) (show s.period.toNat<=z.period.toNat by omega)
 refine⟨(m:Int),?_⟩
 rw[e]
 have e2:((z.period.toNat:Nat):Int)=((s.period.toNat*m:Nat):Int):=by rw[hm2]
 rw[toNat_of_nonneg (by omega)] at e2
 rw[e2]
 push_cast
 rw[toNat_of_nonneg (by omega),Int.mul_comm]
theorem ZqR {s:Zf} (o:Zhh s) {t:Int} (h:0<=t):Zg1 t s=s.total*((t-s.deadline) / s.period+1):=by
 have:=o.d1;have:=o.d2
 unfold Zg1
 split
 ·have e:(t-s.deadline) / s.period = -1:=by
   have h1:(t-s.deadline+s.period) / s.period=0:=Int.ediv_eq_zero_of_lt (by omega) (by omega)
   have h2:(t-s.deadline+1*s.period) / s.period=(t-s.deadline) / s.period+1:=Int.add_mul_ediv_right _ _ (by omega)
   rw[Int.one_mul] at h2
   omega
  rw[e];simp
 ·rfl
theorem Zzt {s:Zf} (o:Zhh s) {H m:Int} (hH:H=m*s.period) (h0:0<=H) {r q:Int} (hr:0<=r) (hq:0<=q):Zg1 (r+q*H) s=Zg1 r s+q*Zg1 H s:=by
 have:=o.d1;have:=o.d2
 have hqH:0<=q*H:=Int.mul_nonneg hq h0
 rw[ZqR o (by omega),ZqR o hr,ZqR o h0]
 have e1:(r+q*H-s.deadline) / s.period=(r-s.deadline) / s.period+q*m:=by
  rw[hH,show r+q*(m*s.period)-s.deadline=(r-s.deadline)+(q*m)*s.period by rw[Int.mul_assoc];omega]
  exact Int.add_mul_ediv_right _ _ (by omega)
 have e2:(H-s.deadline) / s.period=m-1:=by
  rw[hH,show m*s.period-s.deadline=(s.period-s.deadline)+(m-1)*s.period by rw[Int.sub_mul];omega,Int.add_mul_ediv_right _ _ (by omega),Int.ediv_eq_zero_of_lt (by omega) (by omega)]
  omega
 rw[e1,e2,show(r-s.deadline) / s.period+q*m+1=((r-s.deadline) / s.period+1)+q*m by omega,show m-1+1=m by omega,Int.mul_add,Int.mul_left_comm]
theorem ZxD {H:Int} (h0:0<=H) {r q:Int} (hr:0<=r) (hq:0<=q):∀{l:List Zf},(∀s∈l,Zhh s/\∃m:Int,H=m*s.period)->dem (r+q*H) l=dem r l+q*dem H l
 | [],_=>by unfold dem;simp
 | s :: l,h=>by
  obtain⟨o,m,hm⟩:=h s (by simp)
  have ih:=ZxD h0 hr hq (l:=l) fun x hx=>h x (by simp[hx])
  unfold dem
  rw[ih,Zzt o hm h0 hr hq,Int.mul_add]
  omega
theorem ZAg {t:Int}:∀{l:List Zf},(∀s∈l,s.deadline<=t)->blk t l=0
 | [],_=>rfl
 | s :: l,h=>by
  have h1:=h s (by simp)
  have h2:=ZAg (t:=t) (l:=l) fun x hx=>h x (by simp[hx])
  unfold blk Zkl
  rw[if_neg (by omega),h2];rfl
theorem ZEk {l:List Zf} (h:ZwS l) {t:Int} (ht:1<=t) (hd:0<dem t l):dem t l+blk t l<=t:=by
 have he:∃s∈l,s.deadline<=t:=Classical.byContradiction fun hn=>by rw[Zv4 hn] at hd;omega
 by_cases hh:t<=hor l
 ·exact Zzx h hh he
 ·have ho:=fun s hs=>((ZdY h.1).2 s hs).1
  obtain⟨z,hz,_⟩:=he
  have hp:∀s∈l,1<=s.period:=fun s hs=>by have:=(ho s hs).d1;have:=(ho s hs).d2;omega
  obtain⟨_,hm⟩:=ZyS hp (List.ne_nil_of_mem hz)
  have hH:1<=hor l:=by have:=hm z hz;have:=hp z hz;omega
  rw[ZAg fun s hs=>by have:=hm s hs;have:=(ho s hs).d2;omega]
  have hq:0<=(t-1) / hor l:=Int.ediv_nonneg (by omega) (by omega)
  have hr0:0<=(t-1) % hor l:=Int.emod_nonneg _ (by omega)
  have hr1:(t-1) % hor l<hor l:=Int.emod_lt_of_pos _ (by omega)
  have hdm:hor l*((t-1) / hor l)+(t-1) % hor l=t-1:=Int.mul_ediv_add_emod _ _
  generalize (t-1) / hor l=q at hq hdm
  generalize (t-1) % hor l=r at hr0 hr1 hdm
  have e:t=(r+1)+q*hor l:=by rw[Int.mul_comm q];omega
  have k1:=ZxD (H:=hor l) (by omega) (r:=r+1) (q:=q) (by omega) hq (l:=l) fun s hs=>⟨ho s hs,ZJd h.1 hs⟩
  rw[<- e] at k1
  have k2:=ZCi h (t:=r+1) (by omega) (by omega)
  have k3:=ZCi h (t:=hor l) (by omega) (le_refl _)
  have k4:q*dem (hor l) l<=q*hor l:=Int.mul_le_mul_of_nonneg_left k3 hq
  omega
def Zck {γ S:Type} (f:Nat->S->γ->S):Nat->S->List γ->S
 | _,s,[]=>s
 | i,s,x :: l=>Zck f (i+1) (f i s x) l
theorem ZeS {γ S T R:Type} (l:List γ) (step:T->Option (T⊕R)) (st:Nat->S->T) (f:Nat->S->γ->S) (fin:S->R) (I:Nat->S->Prop)
  (h1:∀i x s,i<l.length->l[i]? = some x->I i s->step (st i s)=some (.inl (st (i+1) (f i s x)))/\I (i+1) (f i s x))
  (h2:∀s,I l.length s->step (st l.length s)=some (.inr (fin s))) (s:S) (h0:I 0 s) :
  lp step (st 0 s)=some (fin (Zck f 0 s l))/\I l.length (Zck f 0 s l):=by
 have key:∀(k i:Nat) (s:S),i+k=l.length->I i s->lp step (st i s)=some (fin (Zck f i s (l.drop i)))/\I l.length (Zck f i s (l.drop i)):=by
  intro k
  induction k with
  | zero=>
   intro i s hi hI
   have:i=l.length:=by omega
   subst this
   rw[List.drop_length,ZY,h2 s hI]
   exact⟨rfl,hI⟩
  | succ k ih=>
   intro i s hi hI
   have hi':i<l.length:=by omega
   obtain⟨e,hI'⟩:=h1 i l[i] s hi' (gE hi') hI
   rw[List.drop_eq_getElem_cons hi',ZY,e]
   exact ih (i+1) _ (by omega) hI'
 have:=key l.length 0 s (by omega) h0
 rwa [drop_zero] at this
def Zie (w:Int):Bool:=decide (w<0) || decide (1000<w)
def ZqK (g:Z5) (i:Nat) (e:Zo):Bool:=!(ZdR g.work.length e.src) || (!(ZdR g.work.length e.dst) || ((e.src==e.dst) || (g.edges.take i).any (ZmN e)))
def Zkb (g:Z5):Int:=bif decide (64<(g.work.length:Int)) || decide (256<(g.edges.length:Int)) then 40 else bif g.work.any Zie then 41 else bif Zhn (ZqK g) 0 g.edges then 42 else 0
structure Ztm (g:Z5):Prop where
 w:g.work.length<9223372036854775808
 e:g.edges.length<9223372036854775808
theorem ZER (w:Int):Zei w=some (Zie w):=by
 unfold Zei Zie
 cases decide (w<0)<;>cases decide (1000<w)<;>rfl
theorem ZHo (a:Int) (l:LI):Zh1 a l=some (ZdR l.length a):=by
 unfold Zh1 ZdR
 cases decide (0<=a)<;>cases decide (a<(l.length:Int))<;>rfl
theorem ZJY (g:Z5) (a:Int):ZiF g a=some (ZdR g.work.length a):=by
 unfold ZiF ZdR
 cases decide (0<=a)<;>cases decide (a<(g.work.length:Int))<;>rfl
theorem ZAz (g:Z5) (h:Ztm g):lp (ZgB g) 0=some (bif Zhn (ZqK g) 0 g.edges then .inl () else .inr ()):=by
 have key:=ZcG g.edges (ZgB g) (ZqK g) (fun _ _=>.inl ()) (.inr ()) (fun i x hi hx=>by
   have e0:decide ((0:Int)<=(i:Int))=true:=dT (by omega)
   have e1:Nat.ble i g.edges.length=true:=Nat.ble_eq_true_of_le (by omega)
   simp only[ZgB,ZaW hi,ZI hx,bS,Zw hi h.e,cT,ZHo,ZqK,e0,toNat_natCast,e1,ZxE _ x (ZqX h.e)]
   cases ZdR g.work.length x.src<;>cases ZdR g.work.length x.dst<;>cases (x.src==x.dst)<;>cases (g.edges.take i).any (ZmN x)<;>rfl) (by simp only[ZgB,Zbh];rfl)
 rw[key,Zbg]
theorem ZBI (g:Z5) (h:Ztm g):ZjB g=some (Zkb g):=by
 have k0:=ZcG g.work (Zgc g) (fun _=>Zie) (fun _ _=>.inl ()) (.inr ()) (fun i x hi hx=>by
   simp only[Zgc,ZaW hi,ZI hx,bS,Zw hi h.w,cT,Zie]
   cases decide (x<0)<;>cases decide (1000<x)<;>rfl) (by simp only[Zgc,Zbh];rfl)
 have k2:=ZcG g.edges (Zgj g) (ZqK g) (fun _ _=>.inl ()) (.inr ()) (fun i x hi hx=>by
   have inner:=Zu1 g.edges i hi (Zgz g (i:Int) x) (ZmN x) (.inl ()) (.inr ()) (fun k y hk hy=>by
     simp only[Zgz,ZaW hk,ZI hy,bS,Zw hk (Nat.lt_trans hi h.e),cT,ZmN]
     have e1:(y.src==x.src)=(x.src==y.src):=Bool.beq_comm
     have e2:(y.dst==x.dst)=(x.dst==y.dst):=Bool.beq_comm
     rw[e1,e2]
     cases (x.src==y.src)<;>cases (x.dst==y.dst)<;>rfl) (by simp only[Zgz,Zbh];rfl)
   simp only[Zgj,ZaW hi,ZI hx,bS,Zw hi h.e,cT,ZJY,ZqK,inner]
   cases ZdR g.work.length x.src<;>cases ZdR g.work.length x.dst<;>cases (x.src==x.dst)<;>cases (g.edges.take i).any (ZmN x)<;>rfl) (by simp only[Zgj,Zbh];rfl)
 unfold ZjB Zkb
 rw[k0,k2,Zbg,Zbg,ZgV]
 cases decide (64<(g.work.length:Int))<;>cases decide (256<(g.edges.length:Int))<;>cases g.work.any Zie<;>cases Zhn (ZqK g) 0 g.edges<;>rfl
inductive Way (g:Z5):Int->Int->Prop
 | one {e:Zo}:e∈g.edges->Way g e.src e.dst
 | more {a:Int} {e:Zo}:Way g a e.src->e∈g.edges->Way g a e.dst
theorem Way.trans {g:Z5}{a b c:Int} (h1:Way g a b) (h2:Way g b c):Way g a c:=by
 induction h2 with
 | one he=>exact Way.more h1 he
 | more _ he ih=>exact Way.more (ih h1) he
def Zt2 (g:Z5):Prop:=∀a,¬Way g a a
structure ZgX (g:Z5):Prop where
 wl:g.work.length<=64
 el:g.edges.length<=256
 w:∀x∈g.work,0<=x/\x<=1000
 src:∀e∈g.edges,0<=e.src/\e.src.toNat<g.work.length
 dst:∀e∈g.edges,0<=e.dst/\e.dst.toNat<g.work.length
theorem ZgX.short {g:Z5} (h:ZgX g):Ztm g:=⟨by have:=h.wl;omega,by have:=h.el;omega⟩
theorem Zxe {n:Nat}{a:Int} (h:ZdR n a=true):0<=a/\a.toNat<n:=by
 unfold ZdR at h
 simp only[aT,decide_eq_true_eq] at h
 omega
theorem Zu4 {g:Z5} (h:Zkb g=0):ZgX g:=by
 unfold Zkb at h
 cases h1:decide (64<(g.work.length:Int)) with
 | true=>rw[h1] at h;simp at h
 | false=>
 cases h2:decide (256<(g.edges.length:Int)) with
 | true=>rw[h1,h2] at h;simp at h
 | false=>
 cases h3:g.work.any Zie with
 | true=>rw[h1,h2,h3] at h;simp at h
 | false=>
 cases h4:Zhn (ZqK g) 0 g.edges with
 | true=>rw[h1,h2,h3,h4] at h;simp at h
 | false=>
 have hE:∀e∈g.edges,∃i,ZqK g i e=false:=fun e he=>by
  obtain⟨i,hi⟩:=List.getElem?_of_mem he
  refine⟨i,?_⟩
  cases hb:ZqK g i e with
  | false=>rfl
  | true=>rw[(Zlg _ _ 0).2 ⟨i,e,hi,by simpa using hb⟩] at h4;cases h4
 refine⟨by have:=of_decide_eq_false h1;omega,by have:=of_decide_eq_false h2;omega,fun x hx=>?_,fun e he=>?_,fun e he=>?_⟩
 ·have:=List.any_eq_false.1 h3 x hx
  unfold Zie at this
  simp only[Bool.or_eq_true,decide_eq_true_eq,not_or] at this
  omega
 ·obtain⟨i,hi⟩:=hE e he
  unfold ZqK at hi
  simp only[Bool.or_eq_false_iff,Bool.not_eq_false'] at hi
  exact Zxe hi.1
 ·obtain⟨i,hi⟩:=hE e he
  unfold ZqK at hi
  simp only[Bool.or_eq_false_iff,Bool.not_eq_false'] at hi
  exact Zxe hi.2.1
theorem Way.src_in {g:Z5} (h:ZgX g) {a b:Int} (w:Way g a b):0<=a/\a.toNat<g.work.length:=by
 induction w with
 | one he=>exact h.src _ he
 | more _ _ ih=>exact ih
theorem ZGj {g:Z5} (hg:Zt2 g):∀(n:Nat) (S:LI),S.length<=n->S≠[]->∃m∈S,∀e∈g.edges,e.dst=m->e.src∉S:=by
 intro n
 induction n with
 | zero=>intro S h1 h2;exact absurd (List.length_eq_zero_iff.1 (by omega)) h2
 | succ n ih=>
  intro S h1 h2
  obtain⟨m,hm⟩:=List.exists_mem_of_ne_nil S h2
  classical
  by_cases hS:(S.filter fun x=>decide (Way g x m))=[]
  ·refine⟨m,hm,fun e he hd hs=>?_⟩
   have:e.src∈S.filter fun x=>decide (Way g x m):=List.mem_filter.2 ⟨hs,dT (hd ▸ Way.one he)⟩
   rw[hS] at this
   cases this
  ·have hlt:(S.filter fun x=>decide (Way g x m)).length<S.length:=by
    refine Nat.lt_of_le_of_ne (List.length_filter_le _ _) fun he=>?_
    have:=List.length_filter_eq_length_iff.1 he m hm
    exact hg m (of_decide_eq_true this)
   obtain⟨k,hk,hk2⟩:=ih _ (by omega) hS
   obtain⟨k1,k2⟩:=List.mem_filter.1 hk
   refine⟨k,k1,fun e he hd hs=>hk2 e he hd (List.mem_filter.2 ⟨hs,dT ?_⟩)⟩
   exact(hd ▸ Way.one he:Way g e.src k).trans (of_decide_eq_true k2)
def bAt (l:List Bool) (z:Int):Bool:=match l[z.toNat]? with | some b=>b | none=>false
def Ztz (g:Z5) (done:List Bool) (i:Nat):Bool:=!(bAt done (i:Int)) && !(g.edges.any fun e=>(e.dst==(i:Int)) && !(bAt done e.src))
def ZtF (g:Z5) (done:List Bool):Option Nat:=ZlV (fun i _=>Ztz g done i) (fun i _=>some i) none 0 g.work
def Zst (g:Z5):Nat->LI->List Bool->Option LI
 | 0,out,_=>some out
 | k+1,out,done=>(match ZtF g done with | some i=>Zst g k (out++[(i:Int)]) (done.set i true) | none=>none)
theorem ZrV {γ R S:Type} (p:Nat->γ->Bool) (out:Nat->γ->R) (fin:R) (F:R->S):∀(l:List γ) (i:Nat),F (ZlV p out fin i l)=ZlV p (fun i x=>F (out i x)) (F fin) i l
 | [],i=>rfl
 | x :: l,i=>by
  unfold ZlV
  cases p i x with
  | true=>rfl
  | false=>exact ZrV p out fin F l (i+1)
theorem ZxA {γ:Type} (p:Nat->γ->Bool):∀(l:List γ) (i k:Nat),ZlV p (fun i _=>some i) none i l=some k->i<=k/\k<i+l.length/\∃x,l[k-i]? = some x/\p k x=true
 | [],i,k,h=>by cases h
 | x :: l,i,k,h=>by
  unfold ZlV at h
  cases hp:p i x with
  | true=>
   rw[hp] at h
   cases h
   exact⟨Nat.le_refl _,by simp,x,by simp,hp⟩
  | false=>
   rw[hp] at h
   obtain⟨h1,h2,y,h3,h4⟩:=ZxA p l (i+1) k h
   refine⟨by omega,by simp only[length_cons];omega,y,?_,h4⟩
   rw[show k-i=(k-(i+1))+1 by omega]
   exact h3
theorem Zw0 {γ:Type} (p:Nat->γ->Bool):∀(l:List γ) (i:Nat),ZlV p (fun i _=>some i) none i l=none->∀(j:Nat) x,l[j]? = some x->p (i+j) x=false
 | [],i,h,j,x,hx=>by cases hx
 | y :: l,i,h,j,x,hx=>by
  unfold ZlV at h
  cases hp:p i y with
  | true=>rw[hp] at h;cases h
  | false=>
   rw[hp] at h
   cases j with
   | zero=>cases hx;exact hp
   | succ j=>
    have:=Zw0 p l (i+1) h j x hx
    rwa [show i+1+j=i+(j+1) by omega] at this
theorem Zr6 {g:Z5}{done:List Bool} (hd:done.length=g.work.length) {z:Int} (h:0<=z/\z.toNat<g.work.length):ZA done z=some (bAt done z):=by
 have e:=gE (show z.toNat<done.length by rw[hd];exact h.2)
 rw[Zv9 h.1 e]
 unfold bAt
 rw[e]
theorem ZLd {g:Z5} (h:ZgX g) (out:LI) (ho:out.length<g.work.length) (done:List Bool) (hd:done.length=g.work.length) :
  lp (Zga g (out,done)) 0=some (match ZtF g done with | some i=>.inl (out++[(i:Int)],done.set i true) | none=>.inr ()):=by
 have key:=ZcG g.work (Zga g (out,done)) (fun i _=>Ztz g done i) (fun i _=>.inl (out++[(i:Int)],done.set i true)) (.inr ()) (fun i x hi hx=>by
   have inner:=ZcG g.edges (ZhG g (out,done) (i:Int)) (fun _ e=>(e.dst==(i:Int)) && !(bAt done e.src)) (fun _ _=>.inl ()) (.inr ()) (fun k e hk he=>by
     simp only[ZhG,ZaW hk,ZI he,bS,Zw hk h.short.e,cT,Zr6 hd (h.src e (mG he))]
     cases (e.dst==(i:Int))<;>cases bAt done e.src<;>rfl) (by simp only[ZhG,Zbh];rfl)
   rw[Zbg,ZgV] at inner
   have hl:=h.wl
   simp only[Zga,ZaW hi,Zr6 hd (z:=(i:Int)) ⟨by omega,by simpa using hi⟩,bS,Zw hi h.short.w,cT,inner,Zeg (show out.length+1<=1073741824 by omega),toNat_natCast,Ztz]
   cases bAt done (i:Int)<;>cases g.edges.any (fun e=>(e.dst==(i:Int)) && !(bAt done e.src))<;>rfl) (by simp only[Zga,Zbh];rfl)
 rw[key]
 unfold ZtF
 exact congrArg some (ZrV (fun i _=>Ztz g done i) (fun i _=>some i) none (fun o:Option Nat=>(match o with | some i=>(.inl (out++[(i:Int)],done.set i true):(LI×List Bool)⊕Unit) | none=>.inr ())) g.work 0).symm
theorem ZC7 {g:Z5} (h:ZgX g):∀(k:Nat) (out:LI) (done:List Bool),out.length+k=g.work.length->done.length=g.work.length ->
  ∃r,lp (ZhK g) (out,done)=some r/\(match Zst g k out done with | some l=>r = .inr l | none=>∃l,r = .inl l)
 | 0,out,done,h1,h2=>by
  rw[ZY]
  simp only[ZhK,show out.length=g.work.length by omega,Zbh,cF]
  exact⟨_,rfl,rfl⟩
 | k+1,out,done,h1,h2=>by
  rw[ZY]
  simp only[ZhK,ZaW (show out.length<g.work.length by omega),cT,ZLd h out (by omega) done h2,bS]
  unfold Zst
  cases ZtF g done with
  | none=>exact⟨_,rfl,_,rfl⟩
  | some i=>exact ZC7 h k (out++[(i:Int)]) (done.set i true) (by rw[lA];simp only[length_cons,length_nil];omega) (by rw[length_set];exact h2)
theorem ZC0 {g:Z5} (h:ZgX g):Zhp g=some (match Zst g g.work.length [] (List.replicate g.work.length false) with | some l=>(l,true) | none=>([],false)):=by
 obtain⟨r,e,hr⟩:=ZC7 h g.work.length [] (List.replicate g.work.length false) (by simp) (by simp)
 have hl:=h.wl
 unfold Zhp
 rw[dT (show(0:Int)<=(g.work.length:Int) by omega),dT (show(g.work.length:Int)<=lim by show(g.work.length:Int)<=1073741824;omega),beq_self_eq_true]
 simp only[decide_true,Bool.and_true,cT,toNat_natCast,e,bS]
 cases ho:Zst g g.work.length [] (List.replicate g.work.length false) with
 | some l=>rw[ho] at hr;simp only at hr;subst hr;rfl
 | none=>rw[ho] at hr;obtain⟨l,rfl⟩:=hr;rfl
structure ZhM (g:Z5) (out:LI) (done:List Bool):Prop where
 dl:done.length=g.work.length
 mem:∀i:Nat,bAt done (i:Int)=true↔(i:Int)∈out
 inn:∀z∈out,0<=z/\z.toNat<g.work.length
 nod:out.Nodup
 topo:∀(i:Nat) (n:Int),out[i]? = some n->∀e∈g.edges,e.dst=n->∃j,j<i/\out[j]? = some e.src
theorem ZC4 {done:List Bool}{i:Nat} (hi:i<done.length) (z:Int) (hz:0<=z):bAt (done.set i true) z=(decide (z=(i:Int)) || bAt done z):=by
 unfold bAt
 rw[List.getElem?_set]
 by_cases h:i=z.toNat
 ·subst h
  rw[if_pos rfl,if_pos hi,dT (show z=((z.toNat:Nat):Int) by omega)];rfl
 ·rw[if_neg h,dF (show ¬z=(i:Int) by omega)];rfl
theorem ZhM.start (g:Z5):ZhM g [] (List.replicate g.work.length false):=by
 refine⟨by simp,fun i=>?_,by simp,by simp,by simp⟩
 unfold bAt
 rw[List.getElem?_replicate]
 by_cases h:((i:Int)).toNat<g.work.length
 ·rw[if_pos h];simp
 ·rw[if_neg h];simp
theorem ZhM.next {g:Z5} (h:ZgX g) {out:LI}{done:List Bool} (o:ZhM g out done) {i:Nat} (hn:ZtF g done=some i):ZhM g (out++[(i:Int)]) (done.set i true):=by
 obtain⟨_,hi,x,_,hp⟩:=ZxA _ _ _ _ hn
 rw[zero_add] at hi
 unfold Ztz at hp
 simp only[aT,Bool.not_eq_true',List.any_eq_false,Bool.not_eq_true] at hp
 have hid:i<done.length:=by rw[o.dl];exact hi
 have hnot:(i:Int)∉out:=fun hm=>by have:=(o.mem i).2 hm;rw[hp.1] at this;cases this
 refine⟨by rw[length_set];exact o.dl,fun j=>?_,fun z hz=>?_,?_,fun k n hk e he hd=>?_⟩
 ·rw[ZC4 hid (j:Int) (by omega),Bool.or_eq_true,decide_eq_true_eq,o.mem,List.mem_append,List.mem_singleton]
  exact Or.comm
 ·rcases List.mem_append.1 hz with hz | hz
  ·exact o.inn z hz
  ·rw[List.mem_singleton] at hz;subst hz;exact⟨by omega,by simpa using hi⟩
 ·rw[List.nodup_append]
  refine⟨o.nod,by simp,fun a ha b hb=>?_⟩
  rw[List.mem_singleton] at hb
  subst hb
  exact fun hab=>hnot (hab ▸ ha)
 ·rcases lt_or_ge k out.length with hk2 | hk2
  ·rw[List.getElem?_append_left hk2] at hk
   obtain⟨j,h1,h2⟩:=o.topo k n hk e he hd
   exact⟨j,h1,by rw[List.getElem?_append_left (by omega)];exact h2⟩
  ·rw[List.getElem?_append_right hk2] at hk
   have hk0:k-out.length=0:=by
    rcases Nat.eq_zero_or_pos (k-out.length) with h0 | h0
    ·exact h0
    ·rw[List.getElem?_eq_none (by simp only[length_cons,length_nil];omega)] at hk;cases hk
   rw[hk0] at hk
   simp only[List.getElem?_cons_zero,sJ] at hk
   subst hk
   have hs:=hp.2 e he
   rw[hd] at hs
   have hs:bAt done e.src=true:=by simpa using hs
   have hsr:=h.src e he
   have:=(o.mem e.src.toNat).1 (by rw[show((e.src.toNat:Nat):Int)=e.src by omega];exact hs)
   rw[show((e.src.toNat:Nat):Int)=e.src by omega] at this
   obtain⟨j,hj⟩:=List.getElem?_of_mem this
   have hjl:=(gQ hj).1
   exact⟨j,by omega,by rw[List.getElem?_append_left hjl];exact hj⟩
theorem ZhM.way {g:Z5}{out:LI}{done:List Bool} (o:ZhM g out done) {a b:Int} (w:Way g a b):∀j:Nat,out[j]? = some b->∃i,i<j/\out[i]? = some a:=by
 induction w with
 | one he=>intro j hj;exact o.topo j _ hj _ he rfl
 | more _ he ih=>
  intro j hj
  obtain⟨i,h1,h2⟩:=o.topo j _ hj _ he rfl
  obtain⟨k,h3,h4⟩:=ih i h2
  exact⟨k,by omega,h4⟩
theorem Zxw {l:LI} (h:l.Nodup) {i j:Nat}{a:Int} (h1:l[i]? = some a) (h2:l[j]? = some a):i=j:=by
 obtain⟨a1,a2⟩:=gQ h1
 obtain⟨b1,b2⟩:=gQ h2
 exact(List.getElem_inj h).1 (a2.trans b2.symm)
def ZHM (n:Nat) (done:List Bool):LI:=((List.range n).filter fun i:Nat=>!bAt done (i:Int)).map fun i:Nat=>(i:Int)
theorem ZvE {n:Nat}{done:List Bool}{i:Nat} (h1:i<n) (h2:bAt done (i:Int)=false):(i:Int)∈ZHM n done:=
 List.mem_map.2 ⟨i,List.mem_filter.2 ⟨List.mem_range.2 h1,by rw[h2];rfl⟩,rfl⟩
theorem ZEq {g:Z5} (h:ZgX g) (hg:Zt2 g) {out:LI}{done:List Bool} (o:ZhM g out done) (i0:Nat) (hi0:i0<g.work.length) (hb:bAt done (i0:Int)=false):∃i,ZtF g done=some i:=by
 cases hn:ZtF g done with
 | some i=>exact⟨i,rfl⟩
 | none=>
  exfalso
  have hall:=Zw0 _ _ _ hn
  obtain⟨m,hm,hm2⟩:=ZGj hg _ (ZHM g.work.length done) (Nat.le_refl _) (by
   intro he
   have:=ZvE hi0 hb
   rw[he] at this;cases this)
  obtain⟨k,hk,rfl⟩:=List.mem_map.1 hm
  obtain⟨hk1,hk2⟩:=List.mem_filter.1 hk
  rw[List.mem_range] at hk1
  have hr:=hall k g.work[k] (gE hk1)
  rw[zero_add] at hr
  unfold Ztz at hr
  rw[hk2,Bool.true_and,Bool.not_eq_false',List.any_eq_true] at hr
  obtain⟨e,he,he2⟩:=hr
  simp only[aT,beq_iff_eq] at he2
  have hsr:=h.src e he
  refine hm2 e he he2.1 ?_
  have es:((e.src.toNat:Nat):Int)=e.src:=by omega
  rw[<- es]
  exact ZvE hsr.2 (by rw[es];simpa using he2.2)
theorem ZH0 {n:Nat}{out:LI} (h1:out.Nodup) (h2:∀z∈out,0<=z/\z.toNat<n):(out.length<=n)/\(out.length=n->∀i:Nat,i<n->(i:Int)∈out):=by
 induction n generalizing out with
 | zero=>
  refine⟨?_,fun _ i hi=>absurd hi (by omega)⟩
  cases out with
  | nil=>simp
  | cons z l=>have:=h2 z (by simp);omega
 | succ n ih=>
  by_cases hm:(n:Int)∈out
  ·have e1:(out.erase (n:Int)).length=out.length-1:=List.length_erase_of_mem hm
   have pos:0<out.length:=List.length_pos_of_mem hm
   obtain⟨a,b⟩:=ih (out:=out.erase (n:Int)) (h1.erase _) (fun z hz=>by
    have hz2:=(List.Nodup.mem_erase_iff h1).1 hz
    have:=h2 z hz2.2
    have:=hz2.1
    omega)
   refine⟨by omega,fun hl i hi=>?_⟩
   by_cases hin:i=n
   ·subst hin;exact hm
   ·exact List.mem_of_mem_erase (b (by omega) i (by omega))
  ·obtain⟨a,b⟩:=ih (out:=out) h1 (fun z hz=>by
    have:=h2 z hz
    have:z≠(n:Int):=fun he=>hm (he ▸ hz)
    omega)
   exact⟨by omega,fun hl=>by omega⟩
theorem ZHY:∀(n:Nat) (out:LI),(∀i:Nat,i<n->(i:Int)∈out)->n<=out.length
 | 0,out,h=>by omega
 | n+1,out,h=>by
  have hm:=h n (by omega)
  have e1:(out.erase (n:Int)).length=out.length-1:=List.length_erase_of_mem hm
  have pos:0<out.length:=List.length_pos_of_mem hm
  have:=ZHY n (out.erase (n:Int)) (fun i hi=>(List.mem_erase_of_ne (by omega)).2 (h i (by omega)))
  omega
theorem Zqv {g:Z5} (h:ZgX g):∀(k:Nat) (out:LI) (done:List Bool),ZhM g out done->out.length+k=g.work.length->(∀l,Zst g k out done=some l->∃done',ZhM g l done'/\l.length=g.work.length)/\(Zt2 g->∃l,Zst g k out done=some l)
 | 0,out,done,o,hl=>⟨fun l h=>by cases h;exact⟨done,o,by omega⟩,fun _=>⟨out,rfl⟩⟩
 | k+1,out,done,o,hl=>by
  unfold Zst
  cases hn:ZtF g done with
  | none=>
   refine⟨fun l h=>(by cases h),fun hg=>?_⟩
   exfalso
   have hex:∃i0,i0<g.work.length/\(i0:Int)∉out:=by
    apply Classical.byContradiction
    intro hc
    have hc2:∀i0,i0<g.work.length->(i0:Int)∈out:=fun i0 hi=>Classical.byContradiction fun hx=>hc ⟨i0,hi,hx⟩
    have sub:=ZHY g.work.length out hc2
    omega
   obtain⟨i0,h1,h2⟩:=hex
   obtain⟨i,hi⟩:=ZEq h hg o i0 h1 (by
    cases hb:bAt done (i0:Int) with
    | false=>rfl
    | true=>exact absurd ((o.mem i0).1 hb) h2)
   rw[hn] at hi
   cases hi
  | some i=>
   exact Zqv h k _ _ (o.next h hn) (by rw[lA];simp only[length_cons,length_nil];omega)
theorem ZIu {g:Z5} (h:ZgX g) {l:LI}{done:List Bool} (o:ZhM g l done) (hl:l.length=g.work.length):Zt2 g:=by
 intro a w
 have ha:=w.src_in h
 have hm:=(ZH0 o.nod o.inn).2 hl a.toNat ha.2
 rw[show((a.toNat:Nat):Int)=a by omega] at hm
 obtain⟨j,hj⟩:=List.getElem?_of_mem hm
 obtain⟨i,h1,h2⟩:=o.way w j hj
 have:=Zxw o.nod h2 hj
 omega
structure ZMF (g:Z5) (l:LI):Prop where
 len:l.length=g.work.length
 all:∀i:Nat,i<g.work.length->(i:Int)∈l
 inn:∀z∈l,0<=z/\z.toNat<g.work.length
 nod:l.Nodup
 topo:∀(i:Nat) (n:Int),l[i]? = some n->∀e∈g.edges,e.dst=n->∃j,j<i/\l[j]? = some e.src
theorem ZwO {g:Z5} (h:ZgX g) (hg:Zt2 g):∃l,Zhp g=some (l,true)/\ZMF g l:=by
 obtain⟨k1,k2⟩:=Zqv h g.work.length [] _ (ZhM.start g) (by simp)
 obtain⟨l,hl⟩:=k2 hg
 obtain⟨done,o,hn⟩:=k1 l hl
 exact⟨l,by rw[ZC0 h,hl],hn,(ZH0 o.nod o.inn).2 hn,o.inn,o.nod,o.topo⟩
theorem ZIf {g:Z5} (h:ZgX g) (hg:¬Zt2 g):Zhp g=some ([],false):=by
 rw[ZC0 h]
 cases ho:Zst g g.work.length [] (List.replicate g.work.length false) with
 | none=>rfl
 | some l=>
  obtain⟨done,o,hn⟩:=(Zqv h g.work.length [] _ (ZhM.start g) (by simp)).1 l ho
  exact absurd (ZIu h o hn) hg
noncomputable def ZFw (g:Z5):Bool:=@decide (Zt2 g) (Classical.propDecidable _)
theorem ZCK {g:Z5} (h:Zt2 g):ZFw g=true:=@decide_eq_true _ (Classical.propDecidable _) h
theorem Zx2 {g:Z5} (h:¬Zt2 g):ZFw g=false:=@decide_eq_false _ (Classical.propDecidable _) h
noncomputable def Zgt (g:Z5):Int:=bif Zkb g==0 then (bif ZFw g then 0 else 43) else Zkb g
theorem ZhS {g:Z5} (h:Zgt g=0):ZgX g/\Zt2 g:=by
 unfold Zgt at h
 by_cases h0:Zkb g=0
 ·rw[h0] at h
  refine⟨Zu4 h0,Classical.byContradiction fun hn=>?_⟩
  rw[Zx2 hn] at h
  simp at h
 ·rw[beq_false_of_ne h0] at h
  exact absurd h h0
theorem ZqE (g:Z5) (h:Ztm g):Ziw g=some (Zgt g):=by
 have hw:=Zqr g.work (fun z0=>Zei z0) Zie (fun x _=>ZER x) h.w
 unfold Ziw Zgt
 rw[hw,ZAz g h]
 by_cases h0:Zkb g=0
 ·have hG:=Zu4 h0
  rw[h0]
  unfold Zkb at h0
  by_cases hg:Zt2 g
  ·obtain⟨l,e,_⟩:=ZwO hG hg
   rw[e,ZCK hg]
   revert h0
   cases decide (64<(g.work.length:Int))<;>cases decide (256<(g.edges.length:Int))<;>cases g.work.any Zie<;>cases Zhn (ZqK g) 0 g.edges<;>simp
  ·rw[ZIf hG hg,Zx2 hg]
   revert h0
   cases decide (64<(g.work.length:Int))<;>cases decide (256<(g.edges.length:Int))<;>cases g.work.any Zie<;>cases Zhn (ZqK g) 0 g.edges<;>simp
 ·rw[beq_false_of_ne h0]
  unfold Zkb at h0 ⊢
  revert h0
  cases decide (64<(g.work.length:Int))<;>cases decide (256<(g.edges.length:Int))<;>cases g.work.any Zie<;>cases Zhn (ZqK g) 0 g.edges<;>simp
end Go.Proofs.YtmnglncebfabpaaGreatDoor
