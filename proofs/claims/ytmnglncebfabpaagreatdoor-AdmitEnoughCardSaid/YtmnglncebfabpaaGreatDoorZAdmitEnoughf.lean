/- AdmitEnough: part 6 of 6 of the proof: the row and the card of the law, out of what the evaluator says of it; without conditions. -/
import Derived.Test.YtmnglncebfabpaaGreatDoorZAdmitEnoughe
import Derived.KernelRfl
import Derived.Test.YtmnglncebfabpaaGreatDoorRows
import Derived.Test.YtmnglncebfabpaaGreatDoorCards
import Derived.Test.YtmnglncebfabpaaGreatDoorTie
import Derived.WalkKit
import Derived.ProofKit
import Derived.OpenShut
import Derived.ShutString
import Derived.ChangeOld
import Derived.Below
import Derived.SizedLaws
import Derived.Handed
import Derived.LaidMore
import Derived.Stop.Joined
import Derived.ChangeShapes
import Derived.Carry
import Derived.SevenTiedAt
set_option maxRecDepth 100000
set_option maxHeartbeats 40000000
set_option linter.unusedVariables false
set_option linter.unusedSimpArgs false
namespace Go.Proofs.YtmnglncebfabpaaGreatDoor
open Go Go.Proofs.YtmnglncebfabpaaGreatDoorE
open Go.IntKind (u64 i64 u32 i32 u8)
def Zp6 (r:Bool):D:=(D.bool r)
theorem ZhJ {a:Zf}:∀r,(Ze3 a)=some r->evD ctx 28 [(.d (zK2 a.total a.long a.most a.deadline a.period))]=some (Zp6 r):=
 evT ZEF rfl rfl <| yC ZhW fun x0 _=>
  yB ((by
 conv=>rhs;whnf
 refine yC ZmK fun x1 _=>?_
 rcases x1 with x1 | x1
 exact yC ZhE fun x2 _=>
  yC Zeg fun x3 _=>
  yBr yR
 exact yC Zeg fun x4 _=>
  yC Zeg fun x5 _=>
  yBr yR))
  yR
def Zq9 (b:Int) (mG:List Int):(Unit⊕Unit)->V×Zl
  | (.inl r)=>((.d (D.tup [(zL true (List.take b.toNat mG)),(D.bool true)])),[(.ch (List.drop b.toNat mG))])
  | (.inr r)=>((.d (D.tup [(zL true ([]:List Int)),(D.bool false)])),[(.ch ([]:List Int))])
theorem Zqi {b:Int}{mG:List Int}:∀r,(Zls b mG)=some r->evW ctx 35 [(.ch 0),(zN b)] [(.ch mG)]=some ((Zq9 b mG) r):=
 evS ZGO rfl rfl <| yBm (yB (yT yR)
  (yF yR))
def Zp0 (r:Bool):D:=(D.bool r)
theorem Zo6 {a:Zf}:∀r,(ZcV a)=some r->evD ctx 94 [(.d (zK2 a.total a.long a.most a.deadline a.period))]=some (Zp0 r):=
 evT ZFh rfl rfl <| yC ZhW fun x0 _=>
  yBr (yC ZhJ fun x1 _=>
  yBr yR)
def ZeR (r:Int):D:=(Zm r)
def ZbQ (t0:Bool) (a:List Zf):(Int⊕Unit)->Ex×List V×Zl
  | (.inl r)=>(.ret,[(zN r)],[])
  | (.inr r)=>(.exit 0,[.bad],[])
theorem ZdS {t0:Bool}{a:List Zf}:∀(s0:Int) (r:(Int⊕Unit)),lp (ZaL a (fun z0=>ZcV z0)) s0=some r->lpW ctx 0 [0,1,7,8] [4] ZxV [(zW t0 Zx a),(.d (D.fn 94 [])),(zN (a.length:Int)),(zN s0)] []=some ((ZbQ t0 a) r):=
 lpT (ZbQ t0 a) fun s0 _ ih=>yB (yG fun x1 _=>
  yC Zo6 fun x2 _=>
  yB (Zj rfl)
  (Zd (ih _)))
  (Zj rfl)
theorem Zey {t0:Bool}{a:List Zf}:∀r,(ZcA a (fun z0=>ZcV z0))=some r->evD ctx 121 [(zW t0 Zx a),(.d (D.fn 94 []))]=some (ZeR r):=
 evT Zz2 rfl rfl <| Zk (ZG _ _) (by
 conv=>rhs;whnf
 refine Zc _ (ZdS _) fun r3 _=>?_
 rcases r3 with r3 | r3
 exact yR
 exact yR)
def Zee (r:Bool):D:=(D.bool r)
theorem ZdN {t0:Bool}{a:List Zf}:∀r,(Zbh a (fun z0=>ZcV z0))=some r->evD ctx 95 [(zW t0 Zx a),(.d (D.fn 94 []))]=some (Zee r):=
 evT ZE2 rfl rfl <| yC Zey fun x0 _=>
  yBr yR
def Zss (r:Int):D:=(Zm r)
theorem Zi1 {t0:Bool}{a:List Zf}:∀r,(Zhd a)=some r->evD ctx 64 [(zW t0 Zx a)]=some (Zss r):=
 evT ZEJ rfl rfl <| Zk (ZG _ _) (yBr (yC ZdN fun x0 _=>
  yBr yR))
def Zp1 (r:Bool):D:=(D.bool r)
theorem Zpg {a:Int}:∀r,(Zh1 a)=some r->evD ctx 65 [(zN a)]=some (Zp1 r):=
 evT ZFz rfl rfl <| yB (yBr yR)
  yR
def ZoX (r:Int):D:=(Zm r)
theorem ZK {t0:Bool}{a b:Int}{c0:List Zf}:∀r,(ZA a b c0)=some r->evD ctx 97 [(zN a),(zN b),(.d (D.rptr [(zM t0 Zx c0)]))]=some (ZoX r):=
 evT ZEX rfl rfl <| yG fun x0 hx0=>
  yG fun x1 hx1=>
  yBr (Ze (Z3 rfl hx0) (Ze (Z3 rfl hx1) (yBr yR)))
def Zeh (t0:Bool) (b:Int) (c:Int) (mG:List Int) (mA:List Zf):(List Int)->V×Zl
  | r=>((.d (D.tup [])),[(zA r),(.cells [(zW t0 Zx mA)])])
def ZbB (t0:Bool) (b:Int) (c:Int) (mA:List Zf) (s0:Int×(List Int)):(List Int)->Ex×List V×Zl
  | r=>(.exit 2,[(.sl 0 1),(zN b),(zN c),(.fn 97 [(.ptr 1 0)]),(zN s0.1)],[(zA r),(.cells [(zW t0 Zx mA)])])
theorem Zdm {t0:Bool}{b c:Int}{mA:List Zf}{s0:Int×(List Int)}:∀(s1:Int×(List Int)) (r:List Int),lp (ZZ b (fun z0 z1=>ZA z0 z1 mA)) s1=some r->lpW ctx 2 [0,1,2,3,8,9] [0,1,2,3,8] Zuo [(.sl 0 1),(zN b),(zN c),(.fn 97 [(.ptr 1 0)]),(zN s0.1),(zN s1.1)] [(zA s1.2),(.cells [(zW t0 Zx mA)])]=some ((ZbB t0 b c mA s0) r):=
 lpT (ZbB t0 b c mA s0) fun s1 _ ih=>yB (yG fun x2 hx2=>
  Ze (Zi rfl hx2) (yG fun x3 hx3=>
  Ze (Zi rfl hx3) (yC ZK fun x4 _=>
  yB (Ze (Z3 rfl hx3) (Ze (Zi rfl hx3) (Ze (Z3 rfl hx2) (Ze (Zi rfl hx2) (Ze (Z3 rfl hx2) (Ze (Zi rfl hx2) (Zk (ZI Zm s1.2 s1.1.toNat x3) (yG fun x5 hx5=>
  Ze (Zi rfl hx5) (Zk (ZI Zm (List.set s1.2 s1.1.toNat x3) (w64 (s1.1-1)).toNat x2) (Zd (ih _)))))))))))
  (Zj rfl))))
  (Zj rfl)
def ZbD (t0:Bool) (b:Int) (c:Int) (mA:List Zf):(List Int)->Ex×List V×Zl
  | r=>(.exit 0,[],[(zA r),(.cells [(zW t0 Zx mA)])])
theorem Zdq {t0:Bool}{b c:Int}{mA:List Zf}:∀(s0:Int×(List Int)) (r:List Int),lp (Zaj b c (fun z0 z1=>ZA z0 z1 mA)) s0=some r->lpW ctx 2 [0,1,2,3,8] [] Zuy [(.sl 0 1),(zN b),(zN c),(.fn 97 [(.ptr 1 0)]),(zN s0.1)] [(zA s0.2),(.cells [(zW t0 Zx mA)])]=some ((ZbD t0 b c mA) r):=
 lpT (ZbD t0 b c mA) fun s0 _ ih=>yB (Zc _ (Zdm _) fun r6 _=>
  Zd (ih _))
  (Zj rfl)
theorem Zai {t0:Bool}{b c:Int}{mG:List Int}{mA:List Zf}:∀r,(ZY b c (fun z0 z1=>ZA z0 z1 mA) mG)=some r->evW ctx 145 [(.sl 0 1),(zN b),(zN c),(.fn 97 [(.ptr 1 0)])] [(zA mG),(.cells [(zW t0 Zx mA)])]=some ((Zeh t0 b c mG mA) r):=
 evS ZxH rfl rfl <| Zc _ (Zdq _) fun r7 _=>
  yR
def Zfu (t0:Bool) (b:Int) (c:Int) (d:Int) (mG:List Int) (mA:List Zf):(List Int)->V×Zl
  | r=>((.d (D.tup [])),[(zA r),(.cells [(zW t0 Zx mA)])])
def Zcf (t0:Bool) (c:Int) (d:Int) (mA:List Zf):((List Int)⊕(List Int))->Ex×List V×Zl
  | (.inl r)=>(.exit 0,[],[(zA r),(.cells [(zW t0 Zx mA)])])
  | (.inr r)=>(.ret,[],[(zA r),(.cells [(zW t0 Zx mA)])])
theorem Zez {t0:Bool}{c d:Int}{mA:List Zf}:∀(s0:Int×(List Int)) (r:((List Int)⊕(List Int))),lp (ZJ c d (fun z0 z1=>ZA z0 z1 mA)) s0=some r->lpW ctx 2 [0,2,3,4,10] [] Zuc [(.sl 0 1),(zN c),(zN d),(.fn 97 [(.ptr 1 0)]),(zN s0.1)] [(zA s0.2),(.cells [(zW t0 Zx mA)])]=some ((Zcf t0 c d mA) r):=
 lpT (Zcf t0 c d mA) fun s0 _ ih=>yB (Zj rfl)
  (yB (yG fun x1 hx1=>
  Ze (Zi rfl hx1) (yG fun x2 hx2=>
  Ze (Zi rfl hx2) (yC ZK fun x3 _=>
  yB (yG fun x4 hx4=>
  Ze (Zi rfl hx4) (yG fun x5 hx5=>
  Ze (Zi rfl hx5) (yC ZK fun x6 _=>
  yB (Ze (Z3 rfl hx5) (Ze (Zi rfl hx5) (Ze (Z3 rfl hx4) (Ze (Zi rfl hx4) (Ze (Z3 rfl hx4) (Ze (Zi rfl hx4) (Zk (ZI Zm s0.2 (w64 (d+s0.1)).toNat x5) (yG fun x7 hx7=>
  Ze (Zi rfl hx7) (Zk (ZI Zm (List.set s0.2 (w64 (d+s0.1)).toNat x5) (w64 (d+(w64 ((w64 ((w64 (2*s0.1))+1))+1)))).toNat x4) (Zd (ih _)))))))))))
  (Zj rfl))))
  (yG fun x8 hx8=>
  Ze (Zi rfl hx8) (Ze (Z3 rfl hx1) (Ze (Zi rfl hx1) (yC ZK fun x9 _=>
  yB (Ze (Z3 rfl hx1) (Ze (Zi rfl hx1) (Ze (Z3 rfl hx8) (Ze (Zi rfl hx8) (Ze (Z3 rfl hx8) (Ze (Zi rfl hx8) (Zk (ZI Zm s0.2 (w64 (d+s0.1)).toNat x1) (yG fun x10 hx10=>
  Ze (Zi rfl hx10) (Zk (ZI Zm (List.set s0.2 (w64 (d+s0.1)).toNat x1) (w64 (d+(w64 ((w64 (2*s0.1))+1)))).toNat x8) (Zd (ih _)))))))))))
  (Zj rfl))))))))
  (yG fun x11 hx11=>
  Ze (Zi rfl hx11) (yG fun x12 hx12=>
  Ze (Zi rfl hx12) (yC ZK fun x13 _=>
  yB (Ze (Z3 rfl hx12) (Ze (Zi rfl hx12) (Ze (Z3 rfl hx11) (Ze (Zi rfl hx11) (Ze (Z3 rfl hx11) (Ze (Zi rfl hx11) (Zk (ZI Zm s0.2 (w64 (d+s0.1)).toNat x12) (yG fun x14 hx14=>
  Ze (Zi rfl hx14) (Zk (ZI Zm (List.set s0.2 (w64 (d+s0.1)).toNat x12) (w64 (d+(w64 ((w64 (2*s0.1))+1)))).toNat x11) (Zd (ih _)))))))))))
  (Zj rfl)))))
theorem Zcp {t0:Bool}{b c d:Int}{mG:List Int}{mA:List Zf}:∀r,(ZaA b c d (fun z0 z1=>ZA z0 z1 mA) mG)=some r->evW ctx 160 [(.sl 0 1),(zN b),(zN c),(zN d),(.fn 97 [(.ptr 1 0)])] [(zA mG),(.cells [(zW t0 Zx mA)])]=some ((Zfu t0 b c d mG mA) r):=
 evS Zx7 rfl rfl <| (by
 conv=>rhs;whnf
 refine Zc _ (Zez _) fun r15 _=>?_
 rcases r15 with r15 | r15
 exact yR
 exact yR)
def ZfC (t0:Bool) (b:Int) (c:Int) (mG:List Int) (mA:List Zf):(List Int)->V×Zl
  | r=>((.d (D.tup [])),[(zA r),(.cells [(zW t0 Zx mA)])])
def Zb8 (t0:Bool) (b:Int) (c:Int) (mA:List Zf):(List Int)->Ex×List V×Zl
  | r=>(.exit 0,[(.sl 0 1),(.fn 97 [(.ptr 1 0)]),(zN b),(zN 0),(zN (w64 (c-b)))],[(zA r),(.cells [(zW t0 Zx mA)])])
theorem ZeB {t0:Bool}{b c:Int}{mA:List Zf}:∀(s0:Int×(List Int)) (r:List Int),lp (ZaF b c (fun z0 z1=>ZA z0 z1 mA)) s0=some r->lpW ctx 2 [0,3,8,9,10,11] [0,3,8,9,10] ZtU [(.sl 0 1),(.fn 97 [(.ptr 1 0)]),(zN b),(zN 0),(zN (w64 (c-b))),(zN s0.1)] [(zA s0.2),(.cells [(zW t0 Zx mA)])]=some ((Zb8 t0 b c mA) r):=
 lpT (Zb8 t0 b c mA) fun s0 _ ih=>yB (Zc _ Zcp fun x1 _=>
  Zd (ih _))
  (Zj rfl)
def Zce (t0:Bool) (b:Int) (mA:List Zf):(List Int)->Ex×List V×Zl
  | r=>(.exit 2,[],[(zA r),(.cells [(zW t0 Zx mA)])])
theorem Zet {t0:Bool}{b:Int}{mA:List Zf}:∀(s3:Int×(List Int)) (r:List Int),lp (ZaH b (fun z0 z1=>ZA z0 z1 mA)) s3=some r->lpW ctx 2 [0,3,8,9,12] [] ZtW [(.sl 0 1),(.fn 97 [(.ptr 1 0)]),(zN b),(zN 0),(zN s3.1)] [(zA s3.2),(.cells [(zW t0 Zx mA)])]=some ((Zce t0 b mA) r):=
 lpT (Zce t0 b mA) fun s3 _ ih=>yB (yG fun x4 hx4=>
  Ze (Zi rfl hx4) (yG fun x5 hx5=>
  Ze (Zi rfl hx5) (Ze (Z3 rfl hx5) (Ze (Zi rfl hx5) (Zk (ZI Zm s3.2 b.toNat x4) (yG fun x6 hx6=>
  Ze (Zi rfl hx6) (Zk (ZI Zm (List.set s3.2 b.toNat x4) (w64 (b+s3.1)).toNat x5) (Zc _ Zcp fun x7 _=>
  Zd (ih _)))))))))
  (Zj rfl)
theorem Zat {t0:Bool}{b c:Int}{mG:List Int}{mA:List Zf}:∀r,(Z7 b c (fun z0 z1=>ZA z0 z1 mA) mG)=some r->evW ctx 146 [(.sl 0 1),(zN b),(zN c),(.fn 97 [(.ptr 1 0)])] [(zA mG),(.cells [(zW t0 Zx mA)])]=some ((ZfC t0 b c mG mA) r):=
 evS Zyp rfl rfl <| yF (Zc _ (ZeB _) fun r2 _=>
  Zc _ (Zet _) fun r8 _=>
  yR)
def ZfP (t0:Bool) (b:Int) (c:Int) (mG:List Int) (mA:Int) (mI:List Zf):(Int×Int×Int)->V×Zl
  | r=>((.d (D.tup [(Zm r.1),(Zm r.2.1)])),[(zA mG),(.cells [(zN r.2.2)]),(.cells [(zW t0 Zx mI)])])
theorem Zbj {t0:Bool}{b c:Int}{mG:List Int}{mA:Int}{mI:List Zf}:∀r,(ZaQ b c (fun z0 z1=>ZA z0 z1 mI) mG mA)=some r->evW ctx 174 [(.sl 0 1),(zN b),(zN c),(.ptr 1 0),(.fn 97 [(.ptr 2 0)])] [(zA mG),(.cells [(zN mA)]),(.cells [(zW t0 Zx mI)])]=some ((ZfP t0 b c mG mA mI) r):=
 evS Zx6 rfl rfl <| yG fun x0 hx0=>
  Ze (Zi rfl hx0) (yG fun x1 hx1=>
  Ze (Zi rfl hx1) (yC ZK fun x2 _=>
  yBr yR))
def ZfU (t0:Bool) (b:Int) (c:Int) (d:Int) (mG:List Int) (mA:Int) (mI:List Zf):(Int×Int)->V×Zl
  | r=>((zN r.1),[(zA mG),(.cells [(zN r.2)]),(.cells [(zW t0 Zx mI)])])
theorem Zbk {t0:Bool}{b c d:Int}{mG:List Int}{mA:Int}{mI:List Zf}:∀r,(ZaP b c d (fun z0 z1=>ZA z0 z1 mI) mG mA)=some r->evW ctx 164 [(.sl 0 1),(zN b),(zN c),(zN d),(.ptr 1 0),(.fn 97 [(.ptr 2 0)])] [(zA mG),(.cells [(zN mA)]),(.cells [(zW t0 Zx mI)])]=some ((ZfU t0 b c d mG mA mI) r):=
 evS Zyo rfl rfl <| Zc _ Zbj fun x0 _=>
  Zc _ Zbj fun x1 _=>
  Zc _ Zbj fun x2 _=>
  yR
def ZdY (t0:Bool) (b:Int) (mG:List Int) (mA:Int) (mI:List Zf):(Int×Int)->V×Zl
  | r=>((zN r.1),[(zA mG),(.cells [(zN r.2)]),(.cells [(zW t0 Zx mI)])])
theorem ZaN {t0:Bool}{b:Int}{mG:List Int}{mA:Int}{mI:List Zf}:∀r,(Z9 b (fun z0 z1=>ZA z0 z1 mI) mG mA)=some r->evW ctx 163 [(.sl 0 1),(zN b),(.ptr 1 0),(.fn 97 [(.ptr 2 0)])] [(zA mG),(.cells [(zN mA)]),(.cells [(zW t0 Zx mI)])]=some ((ZdY t0 b mG mA mI) r):=
 evS Zyk rfl rfl <| Zc _ Zbk fun x0 _=>
  yR
def ZeW (t0:Bool) (b:Int) (c:Int) (mG:List Int) (mA:List Zf):(Int×Int)->V×Zl
  | r=>((.d (D.tup [(Zm r.1),(Zm r.2)])),[(zA mG),(.cells [(zW t0 Zx mA)])])
theorem Zam {t0:Bool}{b c:Int}{mG:List Int}{mA:List Zf}:∀r,(ZQ b c (fun z0 z1=>ZA z0 z1 mA) mG)=some r->evW ctx 148 [(.sl 0 1),(zN b),(zN c),(.fn 97 [(.ptr 1 0)])] [(zA mG),(.cells [(zW t0 Zx mA)])]=some ((ZeW t0 b c mG mA) r):=
 evS Zyf rfl rfl <| yF (yF (yF (yB (yB (Zc _ ZaN fun x0 _=>
  Zc _ ZaN fun x1 _=>
  Zc _ ZaN fun x2 _=>
  Zc _ Zbk fun x3 _=>
  yBr (yBr yR))
  (Zc _ Zbk fun x4 _=>
  yBr (yBr yR)))
  (yT yR))))
def Zew (t0:Bool) (b:Int) (c:Int) (mG:List Int) (mA:List Zf):(List Int)->V×Zl
  | r=>((.d (D.tup [])),[(zA r),(.cells [(zW t0 Zx mA)])])
def ZbJ (t0:Bool) (mA:List Zf):(List Int)->Ex×List V×Zl
  | r=>(.exit 0,[],[(zA r),(.cells [(zW t0 Zx mA)])])
theorem Zdu {t0:Bool}{mA:List Zf}:∀(s0:Int×Int×(List Int)) (r:List Int),lp (Z4) s0=some r->lpW ctx 2 [0,8,9] [] ZuL [(.sl 0 1),(zN s0.1),(zN s0.2.1)] [(zA s0.2.2),(.cells [(zW t0 Zx mA)])]=some ((ZbJ t0 mA) r):=
 lpT (ZbJ t0 mA) fun s0 _ ih=>yB (yG fun x1 hx1=>
  Ze (Zi rfl hx1) (yG fun x2 hx2=>
  Ze (Zi rfl hx2) (Ze (Z3 rfl hx2) (Ze (Zi rfl hx2) (Zk (ZI Zm s0.2.2 s0.1.toNat x1) (yG fun x3 hx3=>
  Ze (Zi rfl hx3) (Zk (ZI Zm (List.set s0.2.2 s0.1.toNat x1) s0.2.1.toNat x2) (Zd (ih _)))))))))
  (Zj rfl)
theorem Zak {t0:Bool}{b c:Int}{mG:List Int}{mA:List Zf}:∀r,(ZO b c (fun z0 z1=>ZA z0 z1 mA) mG)=some r->evW ctx 149 [(.sl 0 1),(zN b),(zN c),(.fn 97 [(.ptr 1 0)])] [(zA mG),(.cells [(zW t0 Zx mA)])]=some ((Zew t0 b c mG mA) r):=
 evS Zyj rfl rfl <| Zc _ (Zdu _) fun r4 _=>
  yR
def Zc1 (t0:Bool) (b:Int) (c:Int) (mG:List Int) (mA:List Zf):((List Int)⊕(List Int))->V×Zl
  | (.inl r)=>((.d (D.bool true)),[(zA r),(.cells [(zW t0 Zx mA)])])
  | (.inr r)=>((.d (D.bool false)),[(zA r),(.cells [(zW t0 Zx mA)])])
def Zbc (t0:Bool) (b:Int) (c:Int) (mA:List Zf) (s0:Int×Int×(List Int)):Int->Ex×List V×Zl
  | r=>(.exit 2,[(.sl 0 1),(zN b),(zN c),(.fn 97 [(.ptr 1 0)]),(zN r),(zN s0.2.1)],[(zA s0.2.2),(.cells [(zW t0 Zx mA)])])
theorem ZcG {t0:Bool}{b c:Int}{mA:List Zf}{s0:Int×Int×(List Int)}:∀(s1:Int) (r:Int),lp (ZM c (fun z0 z1=>ZA z0 z1 mA) s0) s1=some r->lpW ctx 2 [0,1,2,3,9,10] [0,1,2,3,9,10] ZuN [(.sl 0 1),(zN b),(zN c),(.fn 97 [(.ptr 1 0)]),(zN s1),(zN s0.2.1)] [(zA s0.2.2),(.cells [(zW t0 Zx mA)])]=some ((Zbc t0 b c mA s0) r):=
 lpT (Zbc t0 b c mA s0) fun s1 _ ih=>yB (yG fun x2 hx2=>
  Ze (Zi rfl hx2) (yG fun x3 hx3=>
  Ze (Zi rfl hx3) (yC ZK fun x4 _=>
  yB (Zj rfl)
  (Zd (ih _)))))
  (Zj rfl)
def Za9 (t0:Bool) (b:Int) (c:Int) (mA:List Zf) (s0:Int×Int×(List Int)) (r5:Int):(List Int)->Ex×List V×Zl
  | r=>(.exit 4,[(.sl 0 1),(zN b),(zN c),(.fn 97 [(.ptr 1 0)]),(zN r5),(zN s0.2.1)],[(zA r),(.cells [(zW t0 Zx mA)])])
theorem ZcH {t0:Bool}{b c:Int}{mA:List Zf}{s0:Int×Int×(List Int)}{r5:Int}:∀(s9:Int×(List Int)) (r:List Int),lp (ZV (fun z0 z1=>ZA z0 z1 mA)) s9=some r->lpW ctx 2 [0,1,2,3,9,10,11] [0,1,2,3,9,10] Zt4 [(.sl 0 1),(zN b),(zN c),(.fn 97 [(.ptr 1 0)]),(zN r5),(zN s0.2.1),(zN s9.1)] [(zA s9.2),(.cells [(zW t0 Zx mA)])]=some ((Za9 t0 b c mA s0 r5) r):=
 lpT (Za9 t0 b c mA s0 r5) fun s9 _ ih=>yB (yG fun x10 hx10=>
  Ze (Zi rfl hx10) (yG fun x11 hx11=>
  Ze (Zi rfl hx11) (yC ZK fun x12 _=>
  yB (Ze (Z3 rfl hx11) (Ze (Zi rfl hx11) (Ze (Z3 rfl hx10) (Ze (Zi rfl hx10) (Ze (Z3 rfl hx10) (Ze (Zi rfl hx10) (Zk (ZI Zm s9.2 s9.1.toNat x11) (yG fun x13 hx13=>
  Ze (Zi rfl hx13) (Zk (ZI Zm (List.set s9.2 s9.1.toNat x11) (w64 (s9.1-1)).toNat x10) (Zd (ih _)))))))))))
  (Zj rfl))))
  (Zj rfl)
def Zbd (t0:Bool) (b:Int) (c:Int) (mA:List Zf) (s0:Int×Int×(List Int)) (r5:Int):(List Int)->Ex×List V×Zl
  | r=>(.exit 6,[(.sl 0 1),(zN b),(zN c),(.fn 97 [(.ptr 1 0)]),(zN r5),(zN s0.2.1)],[(zA r),(.cells [(zW t0 Zx mA)])])
theorem Za4 {t0:Bool}{b c:Int}{mA:List Zf}{s0:Int×Int×(List Int)}{r5:Int}:∀(s15:Int×(List Int)) (r:List Int),lp (ZH c (fun z0 z1=>ZA z0 z1 mA)) s15=some r->lpW ctx 2 [0,1,2,3,9,10,12] [0,1,2,3,9,10] ZtN [(.sl 0 1),(zN b),(zN c),(.fn 97 [(.ptr 1 0)]),(zN r5),(zN s0.2.1),(zN s15.1)] [(zA s15.2),(.cells [(zW t0 Zx mA)])]=some ((Zbd t0 b c mA s0 r5) r):=
 lpT (Zbd t0 b c mA s0 r5) fun s15 _ ih=>yB (yG fun x16 hx16=>
  Ze (Zi rfl hx16) (yG fun x17 hx17=>
  Ze (Zi rfl hx17) (yC ZK fun x18 _=>
  yB (Ze (Z3 rfl hx17) (Ze (Zi rfl hx17) (Ze (Z3 rfl hx16) (Ze (Zi rfl hx16) (Ze (Z3 rfl hx16) (Ze (Zi rfl hx16) (Zk (ZI Zm s15.2 s15.1.toNat x17) (yG fun x19 hx19=>
  Ze (Zi rfl hx19) (Zk (ZI Zm (List.set s15.2 s15.1.toNat x17) (w64 (s15.1-1)).toNat x16) (Zd (ih _)))))))))))
  (Zj rfl))))
  (Zj rfl)
def Za8 (t0:Bool) (b:Int) (c:Int) (mA:List Zf):((List Int)⊕((List Int)⊕(List Int)))->Ex×List V×Zl
  | (.inl r)=>(.ret,[(.d (D.bool true))],[(zA r),(.cells [(zW t0 Zx mA)])])
  | (.inr (.inl r))=>(.ret,[(.d (D.bool false))],[(zA r),(.cells [(zW t0 Zx mA)])])
  | (.inr (.inr r))=>(.exit 0,[.bad],[(zA r),(.cells [(zW t0 Zx mA)])])
theorem ZcI {t0:Bool}{b c:Int}{mA:List Zf}:∀(s0:Int×Int×(List Int)) (r:((List Int)⊕((List Int)⊕(List Int)))),lp (ZU b c (fun z0 z1=>ZA z0 z1 mA)) s0=some r->lpW ctx 2 [0,1,2,3,9,10] [8] Zut [(.sl 0 1),(zN b),(zN c),(.fn 97 [(.ptr 1 0)]),(zN s0.1),(zN s0.2.1)] [(zA s0.2.2),(.cells [(zW t0 Zx mA)])]=some ((Za8 t0 b c mA) r):=
 lpT (Za8 t0 b c mA) fun s0 _ ih=>yB (Zc _ (ZcG _) fun r5 _=>
  yB (Zj rfl)
  (yB (Zj rfl)
  (yG fun x6 hx6=>
  Ze (Zi rfl hx6) (yG fun x7 hx7=>
  Ze (Zi rfl hx7) (Ze (Z3 rfl hx7) (Ze (Zi rfl hx7) (Zk (ZI Zm s0.2.2 r5.toNat x6) (yG fun x8 hx8=>
  Ze (Zi rfl hx8) (Zk (ZI Zm (List.set s0.2.2 r5.toNat x6) (w64 (r5-1)).toNat x7) (yB (Zc _ (ZcH _) fun r14 _=>
  yB (Zc _ (Za4 _) fun r20 _=>
  Zd (ih _))
  (Zd (ih _)))
  (yB (Zc _ (Za4 _) fun r26 _=>
  Zd (ih _))
  (Zd (ih _)))))))))))))
  (Zj rfl)
theorem Zbi {t0:Bool}{b c:Int}{mG:List Int}{mA:List Zf}:∀r,(ZS b c (fun z0 z1=>ZA z0 z1 mA) mG)=some r->evW ctx 150 [(.sl 0 1),(zN b),(zN c),(.fn 97 [(.ptr 1 0)])] [(zA mG),(.cells [(zW t0 Zx mA)])]=some ((Zc1 t0 b c mG mA) r):=
 evS ZxA rfl rfl <| (by
 conv=>rhs;whnf
 refine Zc _ (ZcI _) fun r27 _=>?_
 rcases r27 with r27 | (r27 | r27)
 exact yR
 exact yR
 exact yR)
def Zfh (t0:Bool) (b:Int) (c:Int) (d:Int) (mG:List Int) (mA:List Zf):((Int×(List Int))⊕(Int×(List Int)))->V×Zl
  | (.inl r)=>((.d (D.tup [(Zm r.1),(D.bool true)])),[(zA r.2),(.cells [(zW t0 Zx mA)])])
  | (.inr r)=>((.d (D.tup [(Zm r.1),(D.bool false)])),[(zA r.2),(.cells [(zW t0 Zx mA)])])
def Zb4 (t0:Bool) (b:Int) (c:Int) (d:Int) (mG:List Int) (mA:List Zf) (x0:Int) (x1:Int):Int->Ex×List V×Zl
  | r=>(.exit 0,[(.sl 0 1),(zN b),(.fn 97 [(.ptr 1 0)]),(zN r),(zN (w64 (c-1)))],[(zA (List.set (List.set mG b.toNat x0) d.toNat x1)),(.cells [(zW t0 Zx mA)])])
theorem Zep {t0:Bool}{b c d:Int}{mG:List Int}{mA:List Zf}{x0 x1:Int}:∀(s3:Int) (r:Int),lp (Zay b c d mG (fun z0 z1=>ZA z0 z1 mA) x0 x1) s3=some r->lpW ctx 2 [0,1,4,12,13] [0,1,4,12,13] ZuI [(.sl 0 1),(zN b),(.fn 97 [(.ptr 1 0)]),(zN s3),(zN (w64 (c-1)))] [(zA (List.set (List.set mG b.toNat x0) d.toNat x1)),(.cells [(zW t0 Zx mA)])]=some ((Zb4 t0 b c d mG mA x0 x1) r):=
 lpT (Zb4 t0 b c d mG mA x0 x1) fun s3 _ ih=>yB (yG fun x4 hx4=>
  Ze (Zi rfl hx4) (yG fun x5 hx5=>
  Ze (Zi rfl hx5) (yC ZK fun x6 _=>
  yB (Zd (ih _))
  (Zj rfl))))
  (Zj rfl)
def Zb3 (t0:Bool) (b:Int) (d:Int) (mG:List Int) (mA:List Zf) (x0:Int) (x1:Int) (r7:Int):Int->Ex×List V×Zl
  | r=>(.exit 2,[(.sl 0 1),(zN b),(.fn 97 [(.ptr 1 0)]),(zN r7),(zN r)],[(zA (List.set (List.set mG b.toNat x0) d.toNat x1)),(.cells [(zW t0 Zx mA)])])
theorem Zek {t0:Bool}{b d:Int}{mG:List Int}{mA:List Zf}{x0 x1 r7:Int}:∀(s8:Int) (r:Int),lp (Zax b d mG (fun z0 z1=>ZA z0 z1 mA) x0 x1 r7) s8=some r->lpW ctx 2 [0,1,4,12,13] [0,1,4,12,13] ZtZ [(.sl 0 1),(zN b),(.fn 97 [(.ptr 1 0)]),(zN r7),(zN s8)] [(zA (List.set (List.set mG b.toNat x0) d.toNat x1)),(.cells [(zW t0 Zx mA)])]=some ((Zb3 t0 b d mG mA x0 x1 r7) r):=
 lpT (Zb3 t0 b d mG mA x0 x1 r7) fun s8 _ ih=>yB (yG fun x9 hx9=>
  Ze (Zi rfl hx9) (yG fun x10 hx10=>
  Ze (Zi rfl hx10) (yC ZK fun x11 _=>
  yB (Zj rfl)
  (Zd (ih _)))))
  (Zj rfl)
def Zb6 (t0:Bool) (b:Int) (mA:List Zf) (s19:Int×Int×(List Int)):Int->Ex×List V×Zl
  | r=>(.exit 6,[(.sl 0 1),(zN b),(.fn 97 [(.ptr 1 0)]),(zN r),(zN s19.2.1)],[(zA s19.2.2),(.cells [(zW t0 Zx mA)])])
theorem Zej {t0:Bool}{b:Int}{mA:List Zf}{s19:Int×Int×(List Int)}:∀(s20:Int) (r:Int),lp (Zaz b (fun z0 z1=>ZA z0 z1 mA) s19) s20=some r->lpW ctx 2 [0,1,4,12,13] [0,1,4,12,13] ZtR [(.sl 0 1),(zN b),(.fn 97 [(.ptr 1 0)]),(zN s20),(zN s19.2.1)] [(zA s19.2.2),(.cells [(zW t0 Zx mA)])]=some ((Zb6 t0 b mA s19) r):=
 lpT (Zb6 t0 b mA s19) fun s20 _ ih=>yB (yG fun x21 hx21=>
  Ze (Zi rfl hx21) (yG fun x22 hx22=>
  Ze (Zi rfl hx22) (yC ZK fun x23 _=>
  yB (Zd (ih _))
  (Zj rfl))))
  (Zj rfl)
def Zb5 (t0:Bool) (b:Int) (mA:List Zf) (s19:Int×Int×(List Int)) (r24:Int):Int->Ex×List V×Zl
  | r=>(.exit 8,[(.sl 0 1),(zN b),(.fn 97 [(.ptr 1 0)]),(zN r24),(zN r)],[(zA s19.2.2),(.cells [(zW t0 Zx mA)])])
theorem Zei {t0:Bool}{b:Int}{mA:List Zf}{s19:Int×Int×(List Int)}{r24:Int}:∀(s25:Int) (r:Int),lp (Zav b (fun z0 z1=>ZA z0 z1 mA) s19 r24) s25=some r->lpW ctx 2 [0,1,4,12,13] [0,1,4,12,13] ZuQ [(.sl 0 1),(zN b),(.fn 97 [(.ptr 1 0)]),(zN r24),(zN s25)] [(zA s19.2.2),(.cells [(zW t0 Zx mA)])]=some ((Zb5 t0 b mA s19 r24) r):=
 lpT (Zb5 t0 b mA s19 r24) fun s25 _ ih=>yB (yG fun x26 hx26=>
  Ze (Zi rfl hx26) (yG fun x27 hx27=>
  Ze (Zi rfl hx27) (yC ZK fun x28 _=>
  yB (Zj rfl)
  (Zd (ih _)))))
  (Zj rfl)
def Zb1 (t0:Bool) (b:Int) (mA:List Zf):(Int×(List Int))->Ex×List V×Zl
  | r=>(.exit 4,[(.sl 0 1),(zN b),(zN r.1)],[(zA r.2),(.cells [(zW t0 Zx mA)])])
theorem Zem {t0:Bool}{b:Int}{mA:List Zf}:∀(s19:Int×Int×(List Int)) (r:(Int×(List Int))),lp (ZaW b (fun z0 z1=>ZA z0 z1 mA)) s19=some r->lpW ctx 2 [0,1,4,12,13] [0,1,13] Zup [(.sl 0 1),(zN b),(.fn 97 [(.ptr 1 0)]),(zN s19.1),(zN s19.2.1)] [(zA s19.2.2),(.cells [(zW t0 Zx mA)])]=some ((Zb1 t0 b mA) r):=
 lpT (Zb1 t0 b mA) fun s19 _ ih=>Zc _ (Zej _) fun r24 _=>
  Zc _ (Zei _) fun r29 _=>
  yB (Zj rfl)
  (yG fun x30 hx30=>
  Ze (Zi rfl hx30) (yG fun x31 hx31=>
  Ze (Zi rfl hx31) (Ze (Z3 rfl hx31) (Ze (Zi rfl hx31) (Zk (ZI Zm s19.2.2 r24.toNat x30) (yG fun x32 hx32=>
  Ze (Zi rfl hx32) (Zk (ZI Zm (List.set s19.2.2 r24.toNat x30) r29.toNat x31) (Zd (ih _)))))))))
theorem Zo {t0:Bool}{b c d:Int}{mG:List Int}{mA:List Zf}:∀r,(Zs b c d (fun z0 z1=>ZA z0 z1 mA) mG)=some r->evW ctx 152 [(.sl 0 1),(zN b),(zN c),(zN d),(.fn 97 [(.ptr 1 0)])] [(zA mG),(.cells [(zW t0 Zx mA)])]=some ((Zfh t0 b c d mG mA) r):=
 evS ZxT rfl rfl <| yG fun x0 hx0=>
  Ze (Zi rfl hx0) (yG fun x1 hx1=>
  Ze (Zi rfl hx1) (Ze (Z3 rfl hx1) (Ze (Zi rfl hx1) (Zk (ZI Zm mG b.toNat x0) (yG fun x2 hx2=>
  Ze (Zi rfl hx2) (Zk (ZI Zm (List.set mG b.toNat x0) d.toNat x1) (Zc _ (Zep _) fun r7 _=>
  Zc _ (Zek _) fun r12 _=>
  yB (yG fun x13 hx13=>
  Ze (Zi rfl hx13) (yG fun x14 hx14=>
  Ze (Zi rfl hx14) (Ze (Z3 rfl hx14) (Ze (Zi rfl hx14) (Zk (ZI Zm (List.set (List.set mG b.toNat x0) d.toNat x1) r12.toNat x13) (yG fun x15 hx15=>
  Ze (Zi rfl hx15) (Zk (ZI Zm (List.set (List.set (List.set mG b.toNat x0) d.toNat x1) r12.toNat x13) b.toNat x14) yR)))))))
  (yG fun x16 hx16=>
  Ze (Zi rfl hx16) (yG fun x17 hx17=>
  Ze (Zi rfl hx17) (Ze (Z3 rfl hx17) (Ze (Zi rfl hx17) (Zk (ZI Zm (List.set (List.set mG b.toNat x0) d.toNat x1) r7.toNat x16) (yG fun x18 hx18=>
  Ze (Zi rfl hx18) (Zk (ZI Zm (List.set (List.set (List.set mG b.toNat x0) d.toNat x1) r7.toNat x16) r12.toNat x17) (Zc _ (Zem _) fun r33 _=>
  yG fun x34 hx34=>
  Ze (Zi rfl hx34) (yG fun x35 hx35=>
  Ze (Zi rfl hx35) (Ze (Z3 rfl hx35) (Ze (Zi rfl hx35) (Zk (ZI Zm r33.2 r33.1.toNat x34) (yG fun x36 hx36=>
  Ze (Zi rfl hx36) (Zk (ZI Zm (List.set r33.2 r33.1.toNat x34) b.toNat x35) yR)))))))))))))))))))))
def Zd3 (t0:Bool) (b:Int) (c:Int) (d:Int) (mG:List Int) (mA:List Zf):(Int×(List Int))->V×Zl
  | r=>((zN r.1),[(zA r.2),(.cells [(zW t0 Zx mA)])])
def Zby (t0:Bool) (b:Int) (mA:List Zf) (s3:Int×Int×(List Int)):Int->Ex×List V×Zl
  | r=>(.exit 2,[(.sl 0 1),(zN b),(.fn 97 [(.ptr 1 0)]),(zN r),(zN s3.2.1)],[(zA s3.2.2),(.cells [(zW t0 Zx mA)])])
theorem Zdl {t0:Bool}{b:Int}{mA:List Zf}{s3:Int×Int×(List Int)}:∀(s4:Int) (r:Int),lp (Zae b (fun z0 z1=>ZA z0 z1 mA) s3) s4=some r->lpW ctx 2 [0,1,4,11,12] [0,1,4,11,12] ZuV [(.sl 0 1),(zN b),(.fn 97 [(.ptr 1 0)]),(zN s4),(zN s3.2.1)] [(zA s3.2.2),(.cells [(zW t0 Zx mA)])]=some ((Zby t0 b mA s3) r):=
 lpT (Zby t0 b mA s3) fun s4 _ ih=>yB (yG fun x5 hx5=>
  Ze (Zi rfl hx5) (yG fun x6 hx6=>
  Ze (Zi rfl hx6) (yC ZK fun x7 _=>
  yB (Zj rfl)
  (Zd (ih _)))))
  (Zj rfl)
def Zbz (t0:Bool) (b:Int) (mA:List Zf) (s3:Int×Int×(List Int)) (r8:Int):Int->Ex×List V×Zl
  | r=>(.exit 4,[(.sl 0 1),(zN b),(.fn 97 [(.ptr 1 0)]),(zN r8),(zN r)],[(zA s3.2.2),(.cells [(zW t0 Zx mA)])])
theorem Zdk {t0:Bool}{b:Int}{mA:List Zf}{s3:Int×Int×(List Int)}{r8:Int}:∀(s9:Int) (r:Int),lp (Zaf b (fun z0 z1=>ZA z0 z1 mA) s3 r8) s9=some r->lpW ctx 2 [0,1,4,11,12] [0,1,4,11,12] Zul [(.sl 0 1),(zN b),(.fn 97 [(.ptr 1 0)]),(zN r8),(zN s9)] [(zA s3.2.2),(.cells [(zW t0 Zx mA)])]=some ((Zbz t0 b mA s3 r8) r):=
 lpT (Zbz t0 b mA s3 r8) fun s9 _ ih=>yB (yG fun x10 hx10=>
  Ze (Zi rfl hx10) (yG fun x11 hx11=>
  Ze (Zi rfl hx11) (yC ZK fun x12 _=>
  yB (Zd (ih _))
  (Zj rfl))))
  (Zj rfl)
def Zbw (t0:Bool) (b:Int) (mA:List Zf):(Int×(List Int))->Ex×List V×Zl
  | r=>(.exit 0,[(zN r.1)],[(zA r.2),(.cells [(zW t0 Zx mA)])])
theorem Zdf {t0:Bool}{b:Int}{mA:List Zf}:∀(s3:Int×Int×(List Int)) (r:(Int×(List Int))),lp (Zaw b (fun z0 z1=>ZA z0 z1 mA)) s3=some r->lpW ctx 2 [0,1,4,11,12] [11] Zuu [(.sl 0 1),(zN b),(.fn 97 [(.ptr 1 0)]),(zN s3.1),(zN s3.2.1)] [(zA s3.2.2),(.cells [(zW t0 Zx mA)])]=some ((Zbw t0 b mA) r):=
 lpT (Zbw t0 b mA) fun s3 _ ih=>Zc _ (Zdl _) fun r8 _=>
  Zc _ (Zdk _) fun r13 _=>
  yB (Zj rfl)
  (yG fun x14 hx14=>
  Ze (Zi rfl hx14) (yG fun x15 hx15=>
  Ze (Zi rfl hx15) (Ze (Z3 rfl hx15) (Ze (Zi rfl hx15) (Zk (ZI Zm s3.2.2 r8.toNat x14) (yG fun x16 hx16=>
  Ze (Zi rfl hx16) (Zk (ZI Zm (List.set s3.2.2 r8.toNat x14) r13.toNat x15) (Zd (ih _)))))))))
theorem ZB {t0:Bool}{b c d:Int}{mG:List Int}{mA:List Zf}:∀r,(ZC b c d (fun z0 z1=>ZA z0 z1 mA) mG)=some r->evW ctx 151 [(.sl 0 1),(zN b),(zN c),(zN d),(.fn 97 [(.ptr 1 0)])] [(zA mG),(.cells [(zW t0 Zx mA)])]=some ((Zd3 t0 b c d mG mA) r):=
 evS ZxX rfl rfl <| yG fun x0 hx0=>
  Ze (Zi rfl hx0) (yG fun x1 hx1=>
  Ze (Zi rfl hx1) (Ze (Z3 rfl hx1) (Ze (Zi rfl hx1) (Zk (ZI Zm mG b.toNat x0) (yG fun x2 hx2=>
  Ze (Zi rfl hx2) (Zk (ZI Zm (List.set mG b.toNat x0) d.toNat x1) (Zc _ (Zdf _) fun r17 _=>
  yR)))))))
def Zen (t0:Bool) (b:Int) (c:Int) (mG:List Int) (mA:List Zf):(List Int)->V×Zl
  | r=>((.d (D.tup [])),[(zA r),(.cells [(zW t0 Zx mA)])])
def ZbC (t0:Bool) (b:Int) (c:Int) (mA:List Zf) (x0:Int):(List Int)->Ex×List V×Zl
  | r=>(.exit 0,[],[(zA r),(.cells [(zW t0 Zx mA)])])
theorem Zdo {t0:Bool}{b c:Int}{mA:List Zf}{x0:Int}:∀(s1:Int×(List Int)×Int) (r:List Int),lp (ZaE b c x0) s1=some r->lpW ctx 2 [0,1,8,9,10,11] [] ZtJ [(.sl 0 1),(zN b),(zN (w64 (c-b))),(.ptr 2 0),(.d (D.int .u64 x0)),(zN s1.1)] [(zA s1.2.1),(.cells [(zW t0 Zx mA)]),(.cells [(.d (D.int .u64 s1.2.2))])]=some ((ZbC t0 b c mA x0) r):=
 lpT (ZbC t0 b c mA x0) fun s1 _ ih=>yF (yB (Zc _ ZgK fun x2 _=>
  yB (yG fun x3 hx3=>
  Ze (Zi rfl hx3) (yG fun x4 hx4=>
  Ze (Zi rfl hx4) (Ze (Z3 rfl hx4) (Ze (Zi rfl hx4) (Zk (ZI Zm s1.2.1 s1.1.toNat x3) (yG fun x5 hx5=>
  Ze (Zi rfl hx5) (Zk (ZI Zm (List.set s1.2.1 s1.1.toNat x3) (w64 (b+(w64 ((w64 (u64.wrap (Zq (u64.wrap (Zq (u64.wrap (Zq (u64.wrap (Zq s1.2.2 ^^^ Zq (u64.wrap (s1.2.2*2 ^ 13))).toNat) ^^^ Zq (Int.fdiv (u64.wrap (Zq s1.2.2 ^^^ Zq (u64.wrap (s1.2.2*2 ^ 13))).toNat) (2 ^ 7))).toNat) ^^^ Zq (u64.wrap ((u64.wrap (Zq (u64.wrap (Zq s1.2.2 ^^^ Zq (u64.wrap (s1.2.2*2 ^ 13))).toNat) ^^^ Zq (Int.fdiv (u64.wrap (Zq s1.2.2 ^^^ Zq (u64.wrap (s1.2.2*2 ^ 13))).toNat) (2 ^ 7))).toNat)*2 ^ 17))).toNat) &&& Zq (u64.wrap (x0-1))).toNat))-(w64 (c-b)))))).toNat x4) (Zd (ih _)))))))))
  (yG fun x6 hx6=>
  Ze (Zi rfl hx6) (yG fun x7 hx7=>
  Ze (Zi rfl hx7) (Ze (Z3 rfl hx7) (Ze (Zi rfl hx7) (Zk (ZI Zm s1.2.1 s1.1.toNat x6) (yG fun x8 hx8=>
  Ze (Zi rfl hx8) (Zk (ZI Zm (List.set s1.2.1 s1.1.toNat x6) (w64 (b+(w64 (u64.wrap (Zq (u64.wrap (Zq (u64.wrap (Zq (u64.wrap (Zq s1.2.2 ^^^ Zq (u64.wrap (s1.2.2*2 ^ 13))).toNat) ^^^ Zq (Int.fdiv (u64.wrap (Zq s1.2.2 ^^^ Zq (u64.wrap (s1.2.2*2 ^ 13))).toNat) (2 ^ 7))).toNat) ^^^ Zq (u64.wrap ((u64.wrap (Zq (u64.wrap (Zq s1.2.2 ^^^ Zq (u64.wrap (s1.2.2*2 ^ 13))).toNat) ^^^ Zq (Int.fdiv (u64.wrap (Zq s1.2.2 ^^^ Zq (u64.wrap (s1.2.2*2 ^ 13))).toNat) (2 ^ 7))).toNat)*2 ^ 17))).toNat) &&& Zq (u64.wrap (x0-1))).toNat)))).toNat x7) (Zd (ih _))))))))))
  (Zj rfl))
theorem ZbM {t0:Bool}{b c:Int}{mG:List Int}{mA:List Zf}:∀r,(Zac b c (fun z0 z1=>ZA z0 z1 mA) mG)=some r->evW ctx 147 [(.sl 0 1),(zN b),(zN c),(.fn 97 [(.ptr 1 0)])] [(zA mG),(.cells [(zW t0 Zx mA)])]=some ((Zen t0 b c mG mA) r):=
 evS ZxO rfl rfl <| yB (yC Zgm fun x0 _=>
  yF (Zc _ (Zdo _) fun r9 _=>
  yR))
  yR
def Zb (t0:Bool) (b:Int) (c:Int) (d:Int) (mG:List Int) (mA:List Zf):(List Int)->V×Zl
  | r=>((.d (D.tup [])),[(zA r),(.cells [(zW t0 Zx mA)])])
def Zck (t0:Bool) (mA:List Zf) (rc:Int->Int->Int->(Int->Int->Option Int)->(List Int)->Option (List Int)):(List Int)->Ex×List V×Zl
  | r=>(.ret,[],[(zA r),(.cells [(zW t0 Zx mA)])])
theorem ZeY {t0:Bool}{mA:List Zf}{rc:Int->Int->Int->(Int->Int->Option Int)->(List Int)->Option (List Int)} (hrc:∀(t0:Bool) (b:Int) (c:Int) (d:Int) (mG:List Int) (mA:List Zf) (r:List Int),rc b c d (fun z0 z1=>ZA z0 z1 mA) mG=some r->evW ctx 122 [(.sl 0 1),(zN b),(zN c),(zN d),(.fn 97 [(.ptr 1 0)])] [(zA mG),(.cells [(zW t0 Zx mA)])]=some ((Zb t0 b c d mG mA) r)):∀(s0:Int×Int×Int×Bool×Bool×(List Int)) (r:List Int),lp (Zz (fun z0 z1=>ZA z0 z1 mA) rc) s0=some r->lpW ctx 2 [0,1,2,3,4,10,11] [] ZuG [(.sl 0 1),(zN s0.1),(zN s0.2.1),(zN s0.2.2.1),(.fn 97 [(.ptr 1 0)]),(.d (D.bool s0.2.2.2.1)),(.d (D.bool s0.2.2.2.2.1))] [(zA s0.2.2.2.2.2),(.cells [(zW t0 Zx mA)])]=some ((Zck t0 mA rc) r):=
 lpT (Zck t0 mA rc) fun s0 _ ih=>(by
 try unfold Zz
 rcases hb:s0.2.2.2.1 with _ | _
 exact Zpj (by
 try unfold Zz
 rcases hb:s0.2.2.2.2.1 with _ | _
 exact Zpj (yB (Zc _ Zai fun x170 _=>
  Zj rfl)
  (yB (Zc _ Zat fun x171 _=>
  Zj rfl)
  (Zc _ ZbM fun x172 _=>
  Zc _ Zam fun x173 _=>
  yB (Zc _ Zak fun x174 _=>
  yB (yG fun x175 hx175=>
  Ze (Zi rfl hx175) (yG fun x176 hx176=>
  Ze (Zi rfl hx176) (yC ZK fun x177 _=>
  yB ((by
 conv=>rhs;whnf
 refine Zc _ Zo fun x178 _=>?_
 rcases x178 with x178 | x178
 exact yT (yF (yB (yB (Zc (Zb t0 s0.1 x178.1 (w64 (s0.2.2.1-1)) x178.2 mA) (hrc t0 s0.1 x178.1 (w64 (s0.2.2.1-1)) x178.2 mA) fun x179 _=>
  Zd (ih _))
  (Zc (Zb t0 s0.1 x178.1 (w64 (s0.2.2.1-1)) x178.2 mA) (hrc t0 s0.1 x178.1 (w64 (s0.2.2.1-1)) x178.2 mA) fun x180 _=>
  Zd (ih _)))
  (yB (Zc (Zb t0 (w64 (x178.1+1)) s0.2.1 (w64 (s0.2.2.1-1)) x178.2 mA) (hrc t0 (w64 (x178.1+1)) s0.2.1 (w64 (s0.2.2.1-1)) x178.2 mA) fun x181 _=>
  Zd (ih _))
  (Zc (Zb t0 (w64 (x178.1+1)) s0.2.1 (w64 (s0.2.2.1-1)) x178.2 mA) (hrc t0 (w64 (x178.1+1)) s0.2.1 (w64 (s0.2.2.1-1)) x178.2 mA) fun x182 _=>
  Zd (ih _)))))
 exact yF (yF (yB (yB (Zc (Zb t0 s0.1 x178.1 (w64 (s0.2.2.1-1)) x178.2 mA) (hrc t0 s0.1 x178.1 (w64 (s0.2.2.1-1)) x178.2 mA) fun x183 _=>
  Zd (ih _))
  (Zc (Zb t0 s0.1 x178.1 (w64 (s0.2.2.1-1)) x178.2 mA) (hrc t0 s0.1 x178.1 (w64 (s0.2.2.1-1)) x178.2 mA) fun x184 _=>
  Zd (ih _)))
  (yB (Zc (Zb t0 (w64 (x178.1+1)) s0.2.1 (w64 (s0.2.2.1-1)) x178.2 mA) (hrc t0 (w64 (x178.1+1)) s0.2.1 (w64 (s0.2.2.1-1)) x178.2 mA) fun x185 _=>
  Zd (ih _))
  (Zc (Zb t0 (w64 (x178.1+1)) s0.2.1 (w64 (s0.2.2.1-1)) x178.2 mA) (hrc t0 (w64 (x178.1+1)) s0.2.1 (w64 (s0.2.2.1-1)) x178.2 mA) fun x186 _=>
  Zd (ih _)))))))
  (Zc _ ZB fun x187 _=>
  Zd (ih _)))))
  (by
 conv=>rhs;whnf
 refine Zc _ Zo fun x188 _=>?_
 rcases x188 with x188 | x188
 exact yT (yF (yB (yB (Zc (Zb t0 s0.1 x188.1 (w64 (s0.2.2.1-1)) x188.2 mA) (hrc t0 s0.1 x188.1 (w64 (s0.2.2.1-1)) x188.2 mA) fun x189 _=>
  Zd (ih _))
  (Zc (Zb t0 s0.1 x188.1 (w64 (s0.2.2.1-1)) x188.2 mA) (hrc t0 s0.1 x188.1 (w64 (s0.2.2.1-1)) x188.2 mA) fun x190 _=>
  Zd (ih _)))
  (yB (Zc (Zb t0 (w64 (x188.1+1)) s0.2.1 (w64 (s0.2.2.1-1)) x188.2 mA) (hrc t0 (w64 (x188.1+1)) s0.2.1 (w64 (s0.2.2.1-1)) x188.2 mA) fun x191 _=>
  Zd (ih _))
  (Zc (Zb t0 (w64 (x188.1+1)) s0.2.1 (w64 (s0.2.2.1-1)) x188.2 mA) (hrc t0 (w64 (x188.1+1)) s0.2.1 (w64 (s0.2.2.1-1)) x188.2 mA) fun x192 _=>
  Zd (ih _)))))
 exact yF (yF (yB (yB (Zc (Zb t0 s0.1 x188.1 (w64 (s0.2.2.1-1)) x188.2 mA) (hrc t0 s0.1 x188.1 (w64 (s0.2.2.1-1)) x188.2 mA) fun x193 _=>
  Zd (ih _))
  (Zc (Zb t0 s0.1 x188.1 (w64 (s0.2.2.1-1)) x188.2 mA) (hrc t0 s0.1 x188.1 (w64 (s0.2.2.1-1)) x188.2 mA) fun x194 _=>
  Zd (ih _)))
  (yB (Zc (Zb t0 (w64 (x188.1+1)) s0.2.1 (w64 (s0.2.2.1-1)) x188.2 mA) (hrc t0 (w64 (x188.1+1)) s0.2.1 (w64 (s0.2.2.1-1)) x188.2 mA) fun x195 _=>
  Zd (ih _))
  (Zc (Zb t0 (w64 (x188.1+1)) s0.2.1 (w64 (s0.2.2.1-1)) x188.2 mA) (hrc t0 (w64 (x188.1+1)) s0.2.1 (w64 (s0.2.2.1-1)) x188.2 mA) fun x196 _=>
  Zd (ih _)))))))
  (yB (yG fun x197 hx197=>
  Ze (Zi rfl hx197) (yG fun x198 hx198=>
  Ze (Zi rfl hx198) (yC ZK fun x199 _=>
  yB ((by
 conv=>rhs;whnf
 refine Zc _ Zo fun x200 _=>?_
 rcases x200 with x200 | x200
 exact yT (yF (yB (yB (Zc (Zb t0 s0.1 x200.1 (w64 (s0.2.2.1-1)) x200.2 mA) (hrc t0 s0.1 x200.1 (w64 (s0.2.2.1-1)) x200.2 mA) fun x201 _=>
  Zd (ih _))
  (Zc (Zb t0 s0.1 x200.1 (w64 (s0.2.2.1-1)) x200.2 mA) (hrc t0 s0.1 x200.1 (w64 (s0.2.2.1-1)) x200.2 mA) fun x202 _=>
  Zd (ih _)))
  (yB (Zc (Zb t0 (w64 (x200.1+1)) s0.2.1 (w64 (s0.2.2.1-1)) x200.2 mA) (hrc t0 (w64 (x200.1+1)) s0.2.1 (w64 (s0.2.2.1-1)) x200.2 mA) fun x203 _=>
  Zd (ih _))
  (Zc (Zb t0 (w64 (x200.1+1)) s0.2.1 (w64 (s0.2.2.1-1)) x200.2 mA) (hrc t0 (w64 (x200.1+1)) s0.2.1 (w64 (s0.2.2.1-1)) x200.2 mA) fun x204 _=>
  Zd (ih _)))))
 exact yF (yF (yB (yB (Zc (Zb t0 s0.1 x200.1 (w64 (s0.2.2.1-1)) x200.2 mA) (hrc t0 s0.1 x200.1 (w64 (s0.2.2.1-1)) x200.2 mA) fun x205 _=>
  Zd (ih _))
  (Zc (Zb t0 s0.1 x200.1 (w64 (s0.2.2.1-1)) x200.2 mA) (hrc t0 s0.1 x200.1 (w64 (s0.2.2.1-1)) x200.2 mA) fun x206 _=>
  Zd (ih _)))
  (yB (Zc (Zb t0 (w64 (x200.1+1)) s0.2.1 (w64 (s0.2.2.1-1)) x200.2 mA) (hrc t0 (w64 (x200.1+1)) s0.2.1 (w64 (s0.2.2.1-1)) x200.2 mA) fun x207 _=>
  Zd (ih _))
  (Zc (Zb t0 (w64 (x200.1+1)) s0.2.1 (w64 (s0.2.2.1-1)) x200.2 mA) (hrc t0 (w64 (x200.1+1)) s0.2.1 (w64 (s0.2.2.1-1)) x200.2 mA) fun x208 _=>
  Zd (ih _)))))))
  (Zc _ ZB fun x209 _=>
  Zd (ih _)))))
  (by
 conv=>rhs;whnf
 refine Zc _ Zo fun x210 _=>?_
 rcases x210 with x210 | x210
 exact yT (yF (yB (yB (Zc (Zb t0 s0.1 x210.1 (w64 (s0.2.2.1-1)) x210.2 mA) (hrc t0 s0.1 x210.1 (w64 (s0.2.2.1-1)) x210.2 mA) fun x211 _=>
  Zd (ih _))
  (Zc (Zb t0 s0.1 x210.1 (w64 (s0.2.2.1-1)) x210.2 mA) (hrc t0 s0.1 x210.1 (w64 (s0.2.2.1-1)) x210.2 mA) fun x212 _=>
  Zd (ih _)))
  (yB (Zc (Zb t0 (w64 (x210.1+1)) s0.2.1 (w64 (s0.2.2.1-1)) x210.2 mA) (hrc t0 (w64 (x210.1+1)) s0.2.1 (w64 (s0.2.2.1-1)) x210.2 mA) fun x213 _=>
  Zd (ih _))
  (Zc (Zb t0 (w64 (x210.1+1)) s0.2.1 (w64 (s0.2.2.1-1)) x210.2 mA) (hrc t0 (w64 (x210.1+1)) s0.2.1 (w64 (s0.2.2.1-1)) x210.2 mA) fun x214 _=>
  Zd (ih _)))))
 exact yF (yF (yB (yB (Zc (Zb t0 s0.1 x210.1 (w64 (s0.2.2.1-1)) x210.2 mA) (hrc t0 s0.1 x210.1 (w64 (s0.2.2.1-1)) x210.2 mA) fun x215 _=>
  Zd (ih _))
  (Zc (Zb t0 s0.1 x210.1 (w64 (s0.2.2.1-1)) x210.2 mA) (hrc t0 s0.1 x210.1 (w64 (s0.2.2.1-1)) x210.2 mA) fun x216 _=>
  Zd (ih _)))
  (yB (Zc (Zb t0 (w64 (x210.1+1)) s0.2.1 (w64 (s0.2.2.1-1)) x210.2 mA) (hrc t0 (w64 (x210.1+1)) s0.2.1 (w64 (s0.2.2.1-1)) x210.2 mA) fun x217 _=>
  Zd (ih _))
  (Zc (Zb t0 (w64 (x210.1+1)) s0.2.1 (w64 (s0.2.2.1-1)) x210.2 mA) (hrc t0 (w64 (x210.1+1)) s0.2.1 (w64 (s0.2.2.1-1)) x210.2 mA) fun x218 _=>
  Zd (ih _))))))))))
 exact ZoJ (yB (Zc _ Zai fun x121 _=>
  Zj rfl)
  (yB (Zc _ Zat fun x122 _=>
  Zj rfl)
  (Zc _ ZbM fun x123 _=>
  Zc _ Zam fun x124 _=>
  yB (Zc _ Zak fun x125 _=>
  yB (yG fun x126 hx126=>
  Ze (Zi rfl hx126) (yG fun x127 hx127=>
  Ze (Zi rfl hx127) (yC ZK fun x128 _=>
  yB ((by
 conv=>rhs;whnf
 refine Zc _ Zo fun x129 _=>?_
 rcases x129 with x129 | x129
 exact yT (yF (yB (yB (Zc (Zb t0 s0.1 x129.1 (w64 (s0.2.2.1-1)) x129.2 mA) (hrc t0 s0.1 x129.1 (w64 (s0.2.2.1-1)) x129.2 mA) fun x130 _=>
  Zd (ih _))
  (Zc (Zb t0 s0.1 x129.1 (w64 (s0.2.2.1-1)) x129.2 mA) (hrc t0 s0.1 x129.1 (w64 (s0.2.2.1-1)) x129.2 mA) fun x131 _=>
  Zd (ih _)))
  (yB (Zc (Zb t0 (w64 (x129.1+1)) s0.2.1 (w64 (s0.2.2.1-1)) x129.2 mA) (hrc t0 (w64 (x129.1+1)) s0.2.1 (w64 (s0.2.2.1-1)) x129.2 mA) fun x132 _=>
  Zd (ih _))
  (Zc (Zb t0 (w64 (x129.1+1)) s0.2.1 (w64 (s0.2.2.1-1)) x129.2 mA) (hrc t0 (w64 (x129.1+1)) s0.2.1 (w64 (s0.2.2.1-1)) x129.2 mA) fun x133 _=>
  Zd (ih _)))))
 exact yF (yF (yB (yB (Zc (Zb t0 s0.1 x129.1 (w64 (s0.2.2.1-1)) x129.2 mA) (hrc t0 s0.1 x129.1 (w64 (s0.2.2.1-1)) x129.2 mA) fun x134 _=>
  Zd (ih _))
  (Zc (Zb t0 s0.1 x129.1 (w64 (s0.2.2.1-1)) x129.2 mA) (hrc t0 s0.1 x129.1 (w64 (s0.2.2.1-1)) x129.2 mA) fun x135 _=>
  Zd (ih _)))
  (yB (Zc (Zb t0 (w64 (x129.1+1)) s0.2.1 (w64 (s0.2.2.1-1)) x129.2 mA) (hrc t0 (w64 (x129.1+1)) s0.2.1 (w64 (s0.2.2.1-1)) x129.2 mA) fun x136 _=>
  Zd (ih _))
  (Zc (Zb t0 (w64 (x129.1+1)) s0.2.1 (w64 (s0.2.2.1-1)) x129.2 mA) (hrc t0 (w64 (x129.1+1)) s0.2.1 (w64 (s0.2.2.1-1)) x129.2 mA) fun x137 _=>
  Zd (ih _)))))))
  (Zc _ ZB fun x138 _=>
  Zd (ih _)))))
  (by
 conv=>rhs;whnf
 refine Zc _ Zo fun x139 _=>?_
 rcases x139 with x139 | x139
 exact yT (yF (yB (yB (Zc (Zb t0 s0.1 x139.1 (w64 (s0.2.2.1-1)) x139.2 mA) (hrc t0 s0.1 x139.1 (w64 (s0.2.2.1-1)) x139.2 mA) fun x140 _=>
  Zd (ih _))
  (Zc (Zb t0 s0.1 x139.1 (w64 (s0.2.2.1-1)) x139.2 mA) (hrc t0 s0.1 x139.1 (w64 (s0.2.2.1-1)) x139.2 mA) fun x141 _=>
  Zd (ih _)))
  (yB (Zc (Zb t0 (w64 (x139.1+1)) s0.2.1 (w64 (s0.2.2.1-1)) x139.2 mA) (hrc t0 (w64 (x139.1+1)) s0.2.1 (w64 (s0.2.2.1-1)) x139.2 mA) fun x142 _=>
  Zd (ih _))
  (Zc (Zb t0 (w64 (x139.1+1)) s0.2.1 (w64 (s0.2.2.1-1)) x139.2 mA) (hrc t0 (w64 (x139.1+1)) s0.2.1 (w64 (s0.2.2.1-1)) x139.2 mA) fun x143 _=>
  Zd (ih _)))))
 exact yF (yF (yB (yB (Zc (Zb t0 s0.1 x139.1 (w64 (s0.2.2.1-1)) x139.2 mA) (hrc t0 s0.1 x139.1 (w64 (s0.2.2.1-1)) x139.2 mA) fun x144 _=>
  Zd (ih _))
  (Zc (Zb t0 s0.1 x139.1 (w64 (s0.2.2.1-1)) x139.2 mA) (hrc t0 s0.1 x139.1 (w64 (s0.2.2.1-1)) x139.2 mA) fun x145 _=>
  Zd (ih _)))
  (yB (Zc (Zb t0 (w64 (x139.1+1)) s0.2.1 (w64 (s0.2.2.1-1)) x139.2 mA) (hrc t0 (w64 (x139.1+1)) s0.2.1 (w64 (s0.2.2.1-1)) x139.2 mA) fun x146 _=>
  Zd (ih _))
  (Zc (Zb t0 (w64 (x139.1+1)) s0.2.1 (w64 (s0.2.2.1-1)) x139.2 mA) (hrc t0 (w64 (x139.1+1)) s0.2.1 (w64 (s0.2.2.1-1)) x139.2 mA) fun x147 _=>
  Zd (ih _)))))))
  (yB (yG fun x148 hx148=>
  Ze (Zi rfl hx148) (yG fun x149 hx149=>
  Ze (Zi rfl hx149) (yC ZK fun x150 _=>
  yB ((by
 conv=>rhs;whnf
 refine Zc _ Zo fun x151 _=>?_
 rcases x151 with x151 | x151
 exact yT (yF (yB (yB (Zc (Zb t0 s0.1 x151.1 (w64 (s0.2.2.1-1)) x151.2 mA) (hrc t0 s0.1 x151.1 (w64 (s0.2.2.1-1)) x151.2 mA) fun x152 _=>
  Zd (ih _))
  (Zc (Zb t0 s0.1 x151.1 (w64 (s0.2.2.1-1)) x151.2 mA) (hrc t0 s0.1 x151.1 (w64 (s0.2.2.1-1)) x151.2 mA) fun x153 _=>
  Zd (ih _)))
  (yB (Zc (Zb t0 (w64 (x151.1+1)) s0.2.1 (w64 (s0.2.2.1-1)) x151.2 mA) (hrc t0 (w64 (x151.1+1)) s0.2.1 (w64 (s0.2.2.1-1)) x151.2 mA) fun x154 _=>
  Zd (ih _))
  (Zc (Zb t0 (w64 (x151.1+1)) s0.2.1 (w64 (s0.2.2.1-1)) x151.2 mA) (hrc t0 (w64 (x151.1+1)) s0.2.1 (w64 (s0.2.2.1-1)) x151.2 mA) fun x155 _=>
  Zd (ih _)))))
 exact yF (yF (yB (yB (Zc (Zb t0 s0.1 x151.1 (w64 (s0.2.2.1-1)) x151.2 mA) (hrc t0 s0.1 x151.1 (w64 (s0.2.2.1-1)) x151.2 mA) fun x156 _=>
  Zd (ih _))
  (Zc (Zb t0 s0.1 x151.1 (w64 (s0.2.2.1-1)) x151.2 mA) (hrc t0 s0.1 x151.1 (w64 (s0.2.2.1-1)) x151.2 mA) fun x157 _=>
  Zd (ih _)))
  (yB (Zc (Zb t0 (w64 (x151.1+1)) s0.2.1 (w64 (s0.2.2.1-1)) x151.2 mA) (hrc t0 (w64 (x151.1+1)) s0.2.1 (w64 (s0.2.2.1-1)) x151.2 mA) fun x158 _=>
  Zd (ih _))
  (Zc (Zb t0 (w64 (x151.1+1)) s0.2.1 (w64 (s0.2.2.1-1)) x151.2 mA) (hrc t0 (w64 (x151.1+1)) s0.2.1 (w64 (s0.2.2.1-1)) x151.2 mA) fun x159 _=>
  Zd (ih _)))))))
  (Zc _ ZB fun x160 _=>
  Zd (ih _)))))
  (by
 conv=>rhs;whnf
 refine Zc _ Zo fun x161 _=>?_
 rcases x161 with x161 | x161
 exact yT (yF (yB (yB (Zc (Zb t0 s0.1 x161.1 (w64 (s0.2.2.1-1)) x161.2 mA) (hrc t0 s0.1 x161.1 (w64 (s0.2.2.1-1)) x161.2 mA) fun x162 _=>
  Zd (ih _))
  (Zc (Zb t0 s0.1 x161.1 (w64 (s0.2.2.1-1)) x161.2 mA) (hrc t0 s0.1 x161.1 (w64 (s0.2.2.1-1)) x161.2 mA) fun x163 _=>
  Zd (ih _)))
  (yB (Zc (Zb t0 (w64 (x161.1+1)) s0.2.1 (w64 (s0.2.2.1-1)) x161.2 mA) (hrc t0 (w64 (x161.1+1)) s0.2.1 (w64 (s0.2.2.1-1)) x161.2 mA) fun x164 _=>
  Zd (ih _))
  (Zc (Zb t0 (w64 (x161.1+1)) s0.2.1 (w64 (s0.2.2.1-1)) x161.2 mA) (hrc t0 (w64 (x161.1+1)) s0.2.1 (w64 (s0.2.2.1-1)) x161.2 mA) fun x165 _=>
  Zd (ih _)))))
 exact yF (yF (yB (yB (Zc (Zb t0 s0.1 x161.1 (w64 (s0.2.2.1-1)) x161.2 mA) (hrc t0 s0.1 x161.1 (w64 (s0.2.2.1-1)) x161.2 mA) fun x166 _=>
  Zd (ih _))
  (Zc (Zb t0 s0.1 x161.1 (w64 (s0.2.2.1-1)) x161.2 mA) (hrc t0 s0.1 x161.1 (w64 (s0.2.2.1-1)) x161.2 mA) fun x167 _=>
  Zd (ih _)))
  (yB (Zc (Zb t0 (w64 (x161.1+1)) s0.2.1 (w64 (s0.2.2.1-1)) x161.2 mA) (hrc t0 (w64 (x161.1+1)) s0.2.1 (w64 (s0.2.2.1-1)) x161.2 mA) fun x168 _=>
  Zd (ih _))
  (Zc (Zb t0 (w64 (x161.1+1)) s0.2.1 (w64 (s0.2.2.1-1)) x161.2 mA) (hrc t0 (w64 (x161.1+1)) s0.2.1 (w64 (s0.2.2.1-1)) x161.2 mA) fun x169 _=>
  Zd (ih _)))))))))))
 exact ZoJ (by
 try unfold Zz
 rcases hb:s0.2.2.2.2.1 with _ | _
 exact Zpj (yB (Zc _ Zai fun x73 _=>
  Zj rfl)
  (yB (Zc _ Zat fun x74 _=>
  Zj rfl)
  (Zc _ Zam fun x75 _=>
  yB (Zc _ Zak fun x76 _=>
  yB (yG fun x77 hx77=>
  Ze (Zi rfl hx77) (yG fun x78 hx78=>
  Ze (Zi rfl hx78) (yC ZK fun x79 _=>
  yB ((by
 conv=>rhs;whnf
 refine Zc _ Zo fun x80 _=>?_
 rcases x80 with x80 | x80
 exact yT (yF (yB (yB (Zc (Zb t0 s0.1 x80.1 s0.2.2.1 x80.2 mA) (hrc t0 s0.1 x80.1 s0.2.2.1 x80.2 mA) fun x81 _=>
  Zd (ih _))
  (Zc (Zb t0 s0.1 x80.1 s0.2.2.1 x80.2 mA) (hrc t0 s0.1 x80.1 s0.2.2.1 x80.2 mA) fun x82 _=>
  Zd (ih _)))
  (yB (Zc (Zb t0 (w64 (x80.1+1)) s0.2.1 s0.2.2.1 x80.2 mA) (hrc t0 (w64 (x80.1+1)) s0.2.1 s0.2.2.1 x80.2 mA) fun x83 _=>
  Zd (ih _))
  (Zc (Zb t0 (w64 (x80.1+1)) s0.2.1 s0.2.2.1 x80.2 mA) (hrc t0 (w64 (x80.1+1)) s0.2.1 s0.2.2.1 x80.2 mA) fun x84 _=>
  Zd (ih _)))))
 exact yF (yF (yB (yB (Zc (Zb t0 s0.1 x80.1 s0.2.2.1 x80.2 mA) (hrc t0 s0.1 x80.1 s0.2.2.1 x80.2 mA) fun x85 _=>
  Zd (ih _))
  (Zc (Zb t0 s0.1 x80.1 s0.2.2.1 x80.2 mA) (hrc t0 s0.1 x80.1 s0.2.2.1 x80.2 mA) fun x86 _=>
  Zd (ih _)))
  (yB (Zc (Zb t0 (w64 (x80.1+1)) s0.2.1 s0.2.2.1 x80.2 mA) (hrc t0 (w64 (x80.1+1)) s0.2.1 s0.2.2.1 x80.2 mA) fun x87 _=>
  Zd (ih _))
  (Zc (Zb t0 (w64 (x80.1+1)) s0.2.1 s0.2.2.1 x80.2 mA) (hrc t0 (w64 (x80.1+1)) s0.2.1 s0.2.2.1 x80.2 mA) fun x88 _=>
  Zd (ih _)))))))
  (Zc _ ZB fun x89 _=>
  Zd (ih _)))))
  (by
 conv=>rhs;whnf
 refine Zc _ Zo fun x90 _=>?_
 rcases x90 with x90 | x90
 exact yT (yF (yB (yB (Zc (Zb t0 s0.1 x90.1 s0.2.2.1 x90.2 mA) (hrc t0 s0.1 x90.1 s0.2.2.1 x90.2 mA) fun x91 _=>
  Zd (ih _))
  (Zc (Zb t0 s0.1 x90.1 s0.2.2.1 x90.2 mA) (hrc t0 s0.1 x90.1 s0.2.2.1 x90.2 mA) fun x92 _=>
  Zd (ih _)))
  (yB (Zc (Zb t0 (w64 (x90.1+1)) s0.2.1 s0.2.2.1 x90.2 mA) (hrc t0 (w64 (x90.1+1)) s0.2.1 s0.2.2.1 x90.2 mA) fun x93 _=>
  Zd (ih _))
  (Zc (Zb t0 (w64 (x90.1+1)) s0.2.1 s0.2.2.1 x90.2 mA) (hrc t0 (w64 (x90.1+1)) s0.2.1 s0.2.2.1 x90.2 mA) fun x94 _=>
  Zd (ih _)))))
 exact yF (yF (yB (yB (Zc (Zb t0 s0.1 x90.1 s0.2.2.1 x90.2 mA) (hrc t0 s0.1 x90.1 s0.2.2.1 x90.2 mA) fun x95 _=>
  Zd (ih _))
  (Zc (Zb t0 s0.1 x90.1 s0.2.2.1 x90.2 mA) (hrc t0 s0.1 x90.1 s0.2.2.1 x90.2 mA) fun x96 _=>
  Zd (ih _)))
  (yB (Zc (Zb t0 (w64 (x90.1+1)) s0.2.1 s0.2.2.1 x90.2 mA) (hrc t0 (w64 (x90.1+1)) s0.2.1 s0.2.2.1 x90.2 mA) fun x97 _=>
  Zd (ih _))
  (Zc (Zb t0 (w64 (x90.1+1)) s0.2.1 s0.2.2.1 x90.2 mA) (hrc t0 (w64 (x90.1+1)) s0.2.1 s0.2.2.1 x90.2 mA) fun x98 _=>
  Zd (ih _)))))))
  (yB (yG fun x99 hx99=>
  Ze (Zi rfl hx99) (yG fun x100 hx100=>
  Ze (Zi rfl hx100) (yC ZK fun x101 _=>
  yB ((by
 conv=>rhs;whnf
 refine Zc _ Zo fun x102 _=>?_
 rcases x102 with x102 | x102
 exact yT (yF (yB (yB (Zc (Zb t0 s0.1 x102.1 s0.2.2.1 x102.2 mA) (hrc t0 s0.1 x102.1 s0.2.2.1 x102.2 mA) fun x103 _=>
  Zd (ih _))
  (Zc (Zb t0 s0.1 x102.1 s0.2.2.1 x102.2 mA) (hrc t0 s0.1 x102.1 s0.2.2.1 x102.2 mA) fun x104 _=>
  Zd (ih _)))
  (yB (Zc (Zb t0 (w64 (x102.1+1)) s0.2.1 s0.2.2.1 x102.2 mA) (hrc t0 (w64 (x102.1+1)) s0.2.1 s0.2.2.1 x102.2 mA) fun x105 _=>
  Zd (ih _))
  (Zc (Zb t0 (w64 (x102.1+1)) s0.2.1 s0.2.2.1 x102.2 mA) (hrc t0 (w64 (x102.1+1)) s0.2.1 s0.2.2.1 x102.2 mA) fun x106 _=>
  Zd (ih _)))))
 exact yF (yF (yB (yB (Zc (Zb t0 s0.1 x102.1 s0.2.2.1 x102.2 mA) (hrc t0 s0.1 x102.1 s0.2.2.1 x102.2 mA) fun x107 _=>
  Zd (ih _))
  (Zc (Zb t0 s0.1 x102.1 s0.2.2.1 x102.2 mA) (hrc t0 s0.1 x102.1 s0.2.2.1 x102.2 mA) fun x108 _=>
  Zd (ih _)))
  (yB (Zc (Zb t0 (w64 (x102.1+1)) s0.2.1 s0.2.2.1 x102.2 mA) (hrc t0 (w64 (x102.1+1)) s0.2.1 s0.2.2.1 x102.2 mA) fun x109 _=>
  Zd (ih _))
  (Zc (Zb t0 (w64 (x102.1+1)) s0.2.1 s0.2.2.1 x102.2 mA) (hrc t0 (w64 (x102.1+1)) s0.2.1 s0.2.2.1 x102.2 mA) fun x110 _=>
  Zd (ih _)))))))
  (Zc _ ZB fun x111 _=>
  Zd (ih _)))))
  (by
 conv=>rhs;whnf
 refine Zc _ Zo fun x112 _=>?_
 rcases x112 with x112 | x112
 exact yT (yF (yB (yB (Zc (Zb t0 s0.1 x112.1 s0.2.2.1 x112.2 mA) (hrc t0 s0.1 x112.1 s0.2.2.1 x112.2 mA) fun x113 _=>
  Zd (ih _))
  (Zc (Zb t0 s0.1 x112.1 s0.2.2.1 x112.2 mA) (hrc t0 s0.1 x112.1 s0.2.2.1 x112.2 mA) fun x114 _=>
  Zd (ih _)))
  (yB (Zc (Zb t0 (w64 (x112.1+1)) s0.2.1 s0.2.2.1 x112.2 mA) (hrc t0 (w64 (x112.1+1)) s0.2.1 s0.2.2.1 x112.2 mA) fun x115 _=>
  Zd (ih _))
  (Zc (Zb t0 (w64 (x112.1+1)) s0.2.1 s0.2.2.1 x112.2 mA) (hrc t0 (w64 (x112.1+1)) s0.2.1 s0.2.2.1 x112.2 mA) fun x116 _=>
  Zd (ih _)))))
 exact yF (yF (yB (yB (Zc (Zb t0 s0.1 x112.1 s0.2.2.1 x112.2 mA) (hrc t0 s0.1 x112.1 s0.2.2.1 x112.2 mA) fun x117 _=>
  Zd (ih _))
  (Zc (Zb t0 s0.1 x112.1 s0.2.2.1 x112.2 mA) (hrc t0 s0.1 x112.1 s0.2.2.1 x112.2 mA) fun x118 _=>
  Zd (ih _)))
  (yB (Zc (Zb t0 (w64 (x112.1+1)) s0.2.1 s0.2.2.1 x112.2 mA) (hrc t0 (w64 (x112.1+1)) s0.2.1 s0.2.2.1 x112.2 mA) fun x119 _=>
  Zd (ih _))
  (Zc (Zb t0 (w64 (x112.1+1)) s0.2.1 s0.2.2.1 x112.2 mA) (hrc t0 (w64 (x112.1+1)) s0.2.1 s0.2.2.1 x112.2 mA) fun x120 _=>
  Zd (ih _))))))))))
 exact ZoJ (yB (Zc _ Zai fun x1 _=>
  Zj rfl)
  (yB (Zc _ Zat fun x2 _=>
  Zj rfl)
  (Zc _ Zam fun x3 _=>
  yB (Zc _ Zak fun x4 _=>
  yT (by
 conv=>rhs;whnf
 refine Zc _ Zbi fun x5 _=>?_
 rcases x5 with x5 | x5
 exact Zj rfl
 exact yB (yG fun x6 hx6=>
  Ze (Zi rfl hx6) (yG fun x7 hx7=>
  Ze (Zi rfl hx7) (yC ZK fun x8 _=>
  yB ((by
 conv=>rhs;whnf
 refine Zc _ Zo fun x9 _=>?_
 rcases x9 with x9 | x9
 exact yT (yF (yB (yB (Zc (Zb t0 s0.1 x9.1 s0.2.2.1 x9.2 mA) (hrc t0 s0.1 x9.1 s0.2.2.1 x9.2 mA) fun x10 _=>
  Zd (ih _))
  (Zc (Zb t0 s0.1 x9.1 s0.2.2.1 x9.2 mA) (hrc t0 s0.1 x9.1 s0.2.2.1 x9.2 mA) fun x11 _=>
  Zd (ih _)))
  (yB (Zc (Zb t0 (w64 (x9.1+1)) s0.2.1 s0.2.2.1 x9.2 mA) (hrc t0 (w64 (x9.1+1)) s0.2.1 s0.2.2.1 x9.2 mA) fun x12 _=>
  Zd (ih _))
  (Zc (Zb t0 (w64 (x9.1+1)) s0.2.1 s0.2.2.1 x9.2 mA) (hrc t0 (w64 (x9.1+1)) s0.2.1 s0.2.2.1 x9.2 mA) fun x13 _=>
  Zd (ih _)))))
 exact yF (yF (yB (yB (Zc (Zb t0 s0.1 x9.1 s0.2.2.1 x9.2 mA) (hrc t0 s0.1 x9.1 s0.2.2.1 x9.2 mA) fun x14 _=>
  Zd (ih _))
  (Zc (Zb t0 s0.1 x9.1 s0.2.2.1 x9.2 mA) (hrc t0 s0.1 x9.1 s0.2.2.1 x9.2 mA) fun x15 _=>
  Zd (ih _)))
  (yB (Zc (Zb t0 (w64 (x9.1+1)) s0.2.1 s0.2.2.1 x9.2 mA) (hrc t0 (w64 (x9.1+1)) s0.2.1 s0.2.2.1 x9.2 mA) fun x16 _=>
  Zd (ih _))
  (Zc (Zb t0 (w64 (x9.1+1)) s0.2.1 s0.2.2.1 x9.2 mA) (hrc t0 (w64 (x9.1+1)) s0.2.1 s0.2.2.1 x9.2 mA) fun x17 _=>
  Zd (ih _)))))))
  (Zc _ ZB fun x18 _=>
  Zd (ih _)))))
  (by
 conv=>rhs;whnf
 refine Zc _ Zo fun x19 _=>?_
 rcases x19 with x19 | x19
 exact yT (yF (yB (yB (Zc (Zb t0 s0.1 x19.1 s0.2.2.1 x19.2 mA) (hrc t0 s0.1 x19.1 s0.2.2.1 x19.2 mA) fun x20 _=>
  Zd (ih _))
  (Zc (Zb t0 s0.1 x19.1 s0.2.2.1 x19.2 mA) (hrc t0 s0.1 x19.1 s0.2.2.1 x19.2 mA) fun x21 _=>
  Zd (ih _)))
  (yB (Zc (Zb t0 (w64 (x19.1+1)) s0.2.1 s0.2.2.1 x19.2 mA) (hrc t0 (w64 (x19.1+1)) s0.2.1 s0.2.2.1 x19.2 mA) fun x22 _=>
  Zd (ih _))
  (Zc (Zb t0 (w64 (x19.1+1)) s0.2.1 s0.2.2.1 x19.2 mA) (hrc t0 (w64 (x19.1+1)) s0.2.1 s0.2.2.1 x19.2 mA) fun x23 _=>
  Zd (ih _)))))
 exact yF (yF (yB (yB (Zc (Zb t0 s0.1 x19.1 s0.2.2.1 x19.2 mA) (hrc t0 s0.1 x19.1 s0.2.2.1 x19.2 mA) fun x24 _=>
  Zd (ih _))
  (Zc (Zb t0 s0.1 x19.1 s0.2.2.1 x19.2 mA) (hrc t0 s0.1 x19.1 s0.2.2.1 x19.2 mA) fun x25 _=>
  Zd (ih _)))
  (yB (Zc (Zb t0 (w64 (x19.1+1)) s0.2.1 s0.2.2.1 x19.2 mA) (hrc t0 (w64 (x19.1+1)) s0.2.1 s0.2.2.1 x19.2 mA) fun x26 _=>
  Zd (ih _))
  (Zc (Zb t0 (w64 (x19.1+1)) s0.2.1 s0.2.2.1 x19.2 mA) (hrc t0 (w64 (x19.1+1)) s0.2.1 s0.2.2.1 x19.2 mA) fun x27 _=>
  Zd (ih _))))))))
  (yB ((by
 conv=>rhs;whnf
 refine Zc _ Zbi fun x28 _=>?_
 rcases x28 with x28 | x28
 exact Zj rfl
 exact yB (yG fun x29 hx29=>
  Ze (Zi rfl hx29) (yG fun x30 hx30=>
  Ze (Zi rfl hx30) (yC ZK fun x31 _=>
  yB ((by
 conv=>rhs;whnf
 refine Zc _ Zo fun x32 _=>?_
 rcases x32 with x32 | x32
 exact yT (yF (yB (yB (Zc (Zb t0 s0.1 x32.1 s0.2.2.1 x32.2 mA) (hrc t0 s0.1 x32.1 s0.2.2.1 x32.2 mA) fun x33 _=>
  Zd (ih _))
  (Zc (Zb t0 s0.1 x32.1 s0.2.2.1 x32.2 mA) (hrc t0 s0.1 x32.1 s0.2.2.1 x32.2 mA) fun x34 _=>
  Zd (ih _)))
  (yB (Zc (Zb t0 (w64 (x32.1+1)) s0.2.1 s0.2.2.1 x32.2 mA) (hrc t0 (w64 (x32.1+1)) s0.2.1 s0.2.2.1 x32.2 mA) fun x35 _=>
  Zd (ih _))
  (Zc (Zb t0 (w64 (x32.1+1)) s0.2.1 s0.2.2.1 x32.2 mA) (hrc t0 (w64 (x32.1+1)) s0.2.1 s0.2.2.1 x32.2 mA) fun x36 _=>
  Zd (ih _)))))
 exact yF (yF (yB (yB (Zc (Zb t0 s0.1 x32.1 s0.2.2.1 x32.2 mA) (hrc t0 s0.1 x32.1 s0.2.2.1 x32.2 mA) fun x37 _=>
  Zd (ih _))
  (Zc (Zb t0 s0.1 x32.1 s0.2.2.1 x32.2 mA) (hrc t0 s0.1 x32.1 s0.2.2.1 x32.2 mA) fun x38 _=>
  Zd (ih _)))
  (yB (Zc (Zb t0 (w64 (x32.1+1)) s0.2.1 s0.2.2.1 x32.2 mA) (hrc t0 (w64 (x32.1+1)) s0.2.1 s0.2.2.1 x32.2 mA) fun x39 _=>
  Zd (ih _))
  (Zc (Zb t0 (w64 (x32.1+1)) s0.2.1 s0.2.2.1 x32.2 mA) (hrc t0 (w64 (x32.1+1)) s0.2.1 s0.2.2.1 x32.2 mA) fun x40 _=>
  Zd (ih _)))))))
  (Zc _ ZB fun x41 _=>
  Zd (ih _)))))
  (by
 conv=>rhs;whnf
 refine Zc _ Zo fun x42 _=>?_
 rcases x42 with x42 | x42
 exact yT (yF (yB (yB (Zc (Zb t0 s0.1 x42.1 s0.2.2.1 x42.2 mA) (hrc t0 s0.1 x42.1 s0.2.2.1 x42.2 mA) fun x43 _=>
  Zd (ih _))
  (Zc (Zb t0 s0.1 x42.1 s0.2.2.1 x42.2 mA) (hrc t0 s0.1 x42.1 s0.2.2.1 x42.2 mA) fun x44 _=>
  Zd (ih _)))
  (yB (Zc (Zb t0 (w64 (x42.1+1)) s0.2.1 s0.2.2.1 x42.2 mA) (hrc t0 (w64 (x42.1+1)) s0.2.1 s0.2.2.1 x42.2 mA) fun x45 _=>
  Zd (ih _))
  (Zc (Zb t0 (w64 (x42.1+1)) s0.2.1 s0.2.2.1 x42.2 mA) (hrc t0 (w64 (x42.1+1)) s0.2.1 s0.2.2.1 x42.2 mA) fun x46 _=>
  Zd (ih _)))))
 exact yF (yF (yB (yB (Zc (Zb t0 s0.1 x42.1 s0.2.2.1 x42.2 mA) (hrc t0 s0.1 x42.1 s0.2.2.1 x42.2 mA) fun x47 _=>
  Zd (ih _))
  (Zc (Zb t0 s0.1 x42.1 s0.2.2.1 x42.2 mA) (hrc t0 s0.1 x42.1 s0.2.2.1 x42.2 mA) fun x48 _=>
  Zd (ih _)))
  (yB (Zc (Zb t0 (w64 (x42.1+1)) s0.2.1 s0.2.2.1 x42.2 mA) (hrc t0 (w64 (x42.1+1)) s0.2.1 s0.2.2.1 x42.2 mA) fun x49 _=>
  Zd (ih _))
  (Zc (Zb t0 (w64 (x42.1+1)) s0.2.1 s0.2.2.1 x42.2 mA) (hrc t0 (w64 (x42.1+1)) s0.2.1 s0.2.2.1 x42.2 mA) fun x50 _=>
  Zd (ih _))))))))
  (yB (yG fun x51 hx51=>
  Ze (Zi rfl hx51) (yG fun x52 hx52=>
  Ze (Zi rfl hx52) (yC ZK fun x53 _=>
  yB ((by
 conv=>rhs;whnf
 refine Zc _ Zo fun x54 _=>?_
 rcases x54 with x54 | x54
 exact yT (yF (yB (yB (Zc (Zb t0 s0.1 x54.1 s0.2.2.1 x54.2 mA) (hrc t0 s0.1 x54.1 s0.2.2.1 x54.2 mA) fun x55 _=>
  Zd (ih _))
  (Zc (Zb t0 s0.1 x54.1 s0.2.2.1 x54.2 mA) (hrc t0 s0.1 x54.1 s0.2.2.1 x54.2 mA) fun x56 _=>
  Zd (ih _)))
  (yB (Zc (Zb t0 (w64 (x54.1+1)) s0.2.1 s0.2.2.1 x54.2 mA) (hrc t0 (w64 (x54.1+1)) s0.2.1 s0.2.2.1 x54.2 mA) fun x57 _=>
  Zd (ih _))
  (Zc (Zb t0 (w64 (x54.1+1)) s0.2.1 s0.2.2.1 x54.2 mA) (hrc t0 (w64 (x54.1+1)) s0.2.1 s0.2.2.1 x54.2 mA) fun x58 _=>
  Zd (ih _)))))
 exact yF (yF (yB (yB (Zc (Zb t0 s0.1 x54.1 s0.2.2.1 x54.2 mA) (hrc t0 s0.1 x54.1 s0.2.2.1 x54.2 mA) fun x59 _=>
  Zd (ih _))
  (Zc (Zb t0 s0.1 x54.1 s0.2.2.1 x54.2 mA) (hrc t0 s0.1 x54.1 s0.2.2.1 x54.2 mA) fun x60 _=>
  Zd (ih _)))
  (yB (Zc (Zb t0 (w64 (x54.1+1)) s0.2.1 s0.2.2.1 x54.2 mA) (hrc t0 (w64 (x54.1+1)) s0.2.1 s0.2.2.1 x54.2 mA) fun x61 _=>
  Zd (ih _))
  (Zc (Zb t0 (w64 (x54.1+1)) s0.2.1 s0.2.2.1 x54.2 mA) (hrc t0 (w64 (x54.1+1)) s0.2.1 s0.2.2.1 x54.2 mA) fun x62 _=>
  Zd (ih _)))))))
  (Zc _ ZB fun x63 _=>
  Zd (ih _)))))
  (by
 conv=>rhs;whnf
 refine Zc _ Zo fun x64 _=>?_
 rcases x64 with x64 | x64
 exact yT (yF (yB (yB (Zc (Zb t0 s0.1 x64.1 s0.2.2.1 x64.2 mA) (hrc t0 s0.1 x64.1 s0.2.2.1 x64.2 mA) fun x65 _=>
  Zd (ih _))
  (Zc (Zb t0 s0.1 x64.1 s0.2.2.1 x64.2 mA) (hrc t0 s0.1 x64.1 s0.2.2.1 x64.2 mA) fun x66 _=>
  Zd (ih _)))
  (yB (Zc (Zb t0 (w64 (x64.1+1)) s0.2.1 s0.2.2.1 x64.2 mA) (hrc t0 (w64 (x64.1+1)) s0.2.1 s0.2.2.1 x64.2 mA) fun x67 _=>
  Zd (ih _))
  (Zc (Zb t0 (w64 (x64.1+1)) s0.2.1 s0.2.2.1 x64.2 mA) (hrc t0 (w64 (x64.1+1)) s0.2.1 s0.2.2.1 x64.2 mA) fun x68 _=>
  Zd (ih _)))))
 exact yF (yF (yB (yB (Zc (Zb t0 s0.1 x64.1 s0.2.2.1 x64.2 mA) (hrc t0 s0.1 x64.1 s0.2.2.1 x64.2 mA) fun x69 _=>
  Zd (ih _))
  (Zc (Zb t0 s0.1 x64.1 s0.2.2.1 x64.2 mA) (hrc t0 s0.1 x64.1 s0.2.2.1 x64.2 mA) fun x70 _=>
  Zd (ih _)))
  (yB (Zc (Zb t0 (w64 (x64.1+1)) s0.2.1 s0.2.2.1 x64.2 mA) (hrc t0 (w64 (x64.1+1)) s0.2.1 s0.2.2.1 x64.2 mA) fun x71 _=>
  Zd (ih _))
  (Zc (Zb t0 (w64 (x64.1+1)) s0.2.1 s0.2.2.1 x64.2 mA) (hrc t0 (w64 (x64.1+1)) s0.2.1 s0.2.2.1 x64.2 mA) fun x72 _=>
  Zd (ih _)))))))))))))
theorem Zfd (rc:Int->Int->Int->(Int->Int->Option Int)->(List Int)->Option (List Int)) (hrc:∀(t0:Bool) (b:Int) (c:Int) (d:Int) (mG:List Int) (mA:List Zf) (r:List Int),rc b c d (fun z0 z1=>ZA z0 z1 mA) mG=some r->evW ctx 122 [(.sl 0 1),(zN b),(zN c),(zN d),(.fn 97 [(.ptr 1 0)])] [(zA mG),(.cells [(zW t0 Zx mA)])]=some ((Zb t0 b c d mG mA) r)) (t0:Bool) (b:Int) (c:Int) (d:Int) (mG:List Int) (mA:List Zf):∀r,(Zas rc b c d (fun z0 z1=>ZA z0 z1 mA) mG)=some r->evW ctx 122 [(.sl 0 1),(zN b),(zN c),(zN d),(.fn 97 [(.ptr 1 0)])] [(zA mG),(.cells [(zW t0 Zx mA)])]=some ((Zb t0 b c d mG mA) r):=
 evS Zxs rfl rfl <| Zc _ (ZeY hrc _) fun r219 _=>
  yR
theorem Zcg:∀(n:Nat) (t0:Bool) (b:Int) (c:Int) (d:Int) (mG:List Int) (mA:List Zf) (r:List Int),ZP n b c d (fun z0 z1=>ZA z0 z1 mA) mG=some r->evW ctx 122 [(.sl 0 1),(zN b),(zN c),(zN d),(.fn 97 [(.ptr 1 0)])] [(zA mG),(.cells [(zW t0 Zx mA)])]=some ((Zb t0 b c d mG mA) r)
  | 0,t0,b,c,d,mG,mA,r,h=>by cases h
  | n+1,t0,b,c,d,mG,mA,r,h=>Zfd (ZP n) (Zcg n) t0 b c d mG mA r h
theorem Zfo {t0:Bool}{b c d:Int}{mG:List Int}{mA:List Zf}:∀r,Zcu b c d (fun z0 z1=>ZA z0 z1 mA) mG=some r->evW ctx 122 [(.sl 0 1),(zN b),(zN c),(zN d),(.fn 97 [(.ptr 1 0)])] [(zA mG),(.cells [(zW t0 Zx mA)])]=some ((Zb t0 b c d mG mA) r):=fun r h=>by
  obtain⟨n,hn⟩:=Zx8 h
  exact Zcg n t0 b c d mG mA r hn
def ZfG (t0:Bool) (mG:List Int) (mA:List Zf):(List Int)->V×Zl
  | r=>((.d (D.tup [])),[(zA r),(.cells [(zW t0 Zx mA)])])
theorem Zfr {t0:Bool}{mG:List Int}{mA:List Zf}:∀r,(Zao (fun z0 z1=>ZA z0 z1 mA) mG)=some r->evW ctx 96 [(.sl 0 1),(.fn 97 [(.ptr 1 0)])] [(zA mG),(.cells [(zW t0 Zx mA)])]=some ((ZfG t0 mG mA) r):=
 evS ZCL rfl rfl <| Zk (ZG _ _) (yC Zg7 fun x0 _=>
  Zc _ Zfo fun x1 _=>
  yR)
def ZqG (r:List Int):D:=(zL true r)
def Zj3 (t0:Bool) (a:List Zf):(List Int)->Ex×List V×Zl
  | r=>(.exit 0,[(.ptr 0 0),(.sl 1 1)],[(.cells [(zW t0 Zx a)]),(zA r)])
theorem ZmY {t0:Bool}{a:List Zf}:∀(s0:Int×(List Int)) (r:List Int),lp (ZeI a) s0=some r->lpW ctx 0 [1,3,6,7] [1,3] ZA9 [(.ptr 0 0),(.sl 1 1),(zN (a.length:Int)),(zN s0.1)] [(.cells [(zW t0 Zx a)]),(zA s0.2)]=some ((Zj3 t0 a) r):=
 lpT (Zj3 t0 a) fun s0 _ ih=>yB (yT (Zdy (Zg1 Zm s0.2 1) (Zk (Zg0 Zm s0.2 [s0.1]) (Zd (ih _)))
  ZbL))
  (Zj rfl)
theorem Zqa {t0:Bool}{a:List Zf}:∀r,(ZfT a)=some r->evD ctx 66 [(zW t0 Zx a)]=some (ZqG r):=
 evT ZET rfl rfl <| Zk (ZG _ _) (Zc _ (ZmY _) fun r1 _=>
  Zc _ Zfr fun x2 _=>
  yR)
def Zv1 (r:List Zf):D:=(zM true Zx r)
def ZlW (t0:Bool) (t1:Bool) (a:List Zf) (b:List Int) (c:Int):(List Zf)->Ex×List V×Zl
  | r=>(.exit 0,[(.sl 0 5)],[(.arr 5 (List.map Zx r))])
theorem ZpV {t0 t1:Bool}{a:List Zf}{b:List Int}{c:Int}:∀(s0:Int×(List Zf)) (r:List Zf),lp (ZfM a b c) s0=some r->lpW ctx 0 [1,2,7,10,11,12] [7] Zz1 [(zV t1 b),(zN c),(.sl 0 5),(zW t0 Zx a),(zN (a.length:Int)),(zN s0.1)] [(.arr 5 (List.map Zx s0.2))]=some ((ZlW t0 t1 a b c) r):=
 lpT (ZlW t0 t1 a b c) fun s0 _ ih=>yB (yG fun x1 _=>
  Zk (ZG _ _) (yB (yG fun x2 _=>
  yB (yT (Zdy (Zg1 Zx s0.2 1) (Zk (Zg0 Zx s0.2 [x1]) (Zd (ih _)))
  ZbL))
  (Zd (ih _)))
  (Zd (ih _))))
  (Zj rfl)
theorem Zum {t0 t1:Bool}{a:List Zf}{b:List Int}{c:Int}:∀r,(Zmx a b c)=some r->evD ctx 68 [(zW t0 Zx a),(zV t1 b),(zN c)]=some (Zv1 r):=
 evT ZEd rfl rfl <| Zk (ZG _ _) (Zc _ (ZpV _) fun r3 _=>
  yR)
def Zn2 (r:Int):D:=(Zm r)
theorem Zm2 {a:Int}{b:Zf}:∀r,(Zdc a b)=some r->evD ctx 101 [(zN a),(.d (zK2 b.total b.long b.most b.deadline b.period))]=some (Zn2 r):=
 evT ZAd rfl rfl <| yR
def ZiS (r:Int):D:=(Zm r)
def ZfB (t0:Bool) (a:List Zf):Int->Ex×List V×Zl
  | r=>(.exit 0,[(zN r)],[])
theorem ZhC {t0:Bool}{a:List Zf}:∀(s0:Int×Int) (r:Int),lp (ZdH a (fun z0 z1=>Zdc z0 z1)) s0=some r->lpW ctx 0 [1,5,8,9,10] [5] Zt6 [(.d (D.fn 101 [])),(zN s0.1),(zW t0 Zx a),(zN (a.length:Int)),(zN s0.2)] []=some ((ZfB t0 a) r):=
 lpT (ZfB t0 a) fun s0 _ ih=>yB (yG fun x1 _=>
  yC Zm2 fun x2 _=>
  Zd (ih _))
  (Zj rfl)
theorem Zil {t0:Bool}{a:List Zf}:∀r,(Zgw a (fun z0 z1=>Zdc z0 z1))=some r->evD ctx 91 [(zW t0 Zx a),(.d (D.fn 101 []))]=some (ZiS r):=
 evT ZAX rfl rfl <| Zk (ZG _ _) (Zc _ (ZhC _) fun r3 _=>
  yR)
def ZpS (r:Int):D:=(Zm r)
theorem ZoH {t0:Bool}{a:List Zf}:∀r,(Zh3 a)=some r->evD ctx 77 [(zW t0 Zx a)]=some (ZpS r):=
 evT ZEb rfl rfl <| yC Zi1 fun x0 _=>
  yBr (yC Zil fun x1 _=>
  yR)
def Zpv (r:Int):D:=(Zm r)
theorem ZnC {a:Int}{b:Zf}{c0:Int}:∀r,(Zd1 a b c0)=some r->evD ctx 92 [(zN a),(.d (zK2 b.total b.long b.most b.deadline b.period)),(.d (D.rptr [(Zm c0)]))]=some (Zpv r):=
 evT ZEa rfl rfl <| yBr (yBn yR)
def Zjo (r:Int):D:=(Zm r)
def ZfJ (t0:Bool) (a:List Zf) (b0:Int):Int->Ex×List V×Zl
  | r=>(.exit 0,[(zN r)],[])
theorem ZhL {t0:Bool}{a:List Zf}{b0:Int}:∀(s0:Int×Int) (r:Int),lp (ZdH a (fun z0 z1=>Zd1 z0 z1 b0)) s0=some r->lpW ctx 0 [1,5,8,9,10] [5] Zt6 [(.d (D.fn 92 [(D.rptr [(Zm b0)])])),(zN s0.1),(zW t0 Zx a),(zN (a.length:Int)),(zN s0.2)] []=some ((ZfJ t0 a b0) r):=
 lpT (ZfJ t0 a b0) fun s0 _ ih=>yB (yG fun x1 _=>
  yC ZnC fun x2 _=>
  Zd (ih _))
  (Zj rfl)
theorem ZiL {t0:Bool}{a:List Zf}{b0:Int}:∀r,(Zgw a (fun z0 z1=>Zd1 z0 z1 b0))=some r->evD ctx 91 [(zW t0 Zx a),(.d (D.fn 92 [(D.rptr [(Zm b0)])]))]=some (Zjo r):=
 evT ZAX rfl rfl <| Zk (ZG _ _) (Zc _ (ZhL _) fun r3 _=>
  yR)
def Zrt (r:Int):D:=(Zm r)
theorem Zqd {t0:Bool}{a:List Zf}{b:Int}:∀r,(ZiG a b)=some r->evD ctx 62 [(zW t0 Zx a),(zN b)]=some (Zrt r):=
 evT ZED rfl rfl <| yC ZiL fun x0 _=>
  yR
def Zp3 (r:Int):D:=(Zm r)
theorem ZoI {a:Int}{b:Zf}{c0:Int}:∀r,(Ze1 a b c0)=some r->evD ctx 93 [(zN a),(.d (zK2 b.total b.long b.most b.deadline b.period)),(.d (D.rptr [(Zm c0)]))]=some (Zp3 r):=
 evT ZE6 rfl rfl <| yBr yR
def ZjI (r:Int):D:=(Zm r)
def Zf0 (t0:Bool) (a:List Zf) (b0:Int):Int->Ex×List V×Zl
  | r=>(.exit 0,[(zN r)],[])
theorem Zig {t0:Bool}{a:List Zf}{b0:Int}:∀(s0:Int×Int) (r:Int),lp (ZdH a (fun z0 z1=>Ze1 z0 z1 b0)) s0=some r->lpW ctx 0 [1,5,8,9,10] [5] Zt6 [(.d (D.fn 93 [(D.rptr [(Zm b0)])])),(zN s0.1),(zW t0 Zx a),(zN (a.length:Int)),(zN s0.2)] []=some ((Zf0 t0 a b0) r):=
 lpT (Zf0 t0 a b0) fun s0 _ ih=>yB (yG fun x1 _=>
  yC ZoI fun x2 _=>
  Zd (ih _))
  (Zj rfl)
theorem ZiZ {t0:Bool}{a:List Zf}{b0:Int}:∀r,(Zgw a (fun z0 z1=>Ze1 z0 z1 b0))=some r->evD ctx 91 [(zW t0 Zx a),(.d (D.fn 93 [(D.rptr [(Zm b0)])]))]=some (ZjI r):=
 evT ZAX rfl rfl <| Zk (ZG _ _) (Zc _ (Zig _) fun r3 _=>
  yR)
def Zsx (r:Int):D:=(Zm r)
theorem Zr5 {t0:Bool}{a:List Zf}{b:Int}:∀r,(Zj4 a b)=some r->evD ctx 63 [(zW t0 Zx a),(zN b)]=some (Zsx r):=
 evT ZE4 rfl rfl <| yC ZiZ fun x0 _=>
  yR
def Zt9 (r:Bool):D:=(D.bool r)
def Zlz (t0:Bool) (a:List Zf) (s1:Int) (x2:Zf):(Unit⊕Unit)->Ex×List V×Zl
  | (.inl r)=>(.ret,[(zW t0 Zx a),(.d (D.bool false)),(zW t0 Zx a),(zN (a.length:Int)),(zN s1)],[])
  | (.inr r)=>(.exit 2,[(zW t0 Zx a),.bad,(zW t0 Zx a),(zN (a.length:Int)),(zN s1)],[])
theorem Zpa {t0:Bool}{a:List Zf}{s1:Int}{x2:Zf}:∀(s3:Int) (r:(Unit⊕Unit)),lp (Zf9 a x2) s3=some r->lpW ctx 0 [0,4,5,9,10,11] [0,2,9,10,11] ZAj [(zW t0 Zx a),(.ptr 0 0),(zN s3),(zW t0 Zx a),(zN (a.length:Int)),(zN s1)] [(.cells [(zN x2.total),(zN x2.long),(zN x2.most),(zN x2.deadline),(zN x2.period)])]=some ((Zlz t0 a s1 x2) r):=
 lpT (Zlz t0 a s1 x2) fun s3 _ ih=>yC ZoH fun x4 _=>
  yB (yC Zqd fun x5 _=>
  yC Zr5 fun x6 _=>
  yB (Zj rfl)
  (Zd (ih _)))
  (Zj rfl)
def ZlA (t0:Bool) (a:List Zf):(Unit⊕Unit)->Ex×List V×Zl
  | (.inl r)=>(.ret,[(.d (D.bool false))],[])
  | (.inr r)=>(.exit 0,[.bad],[])
theorem Zpl {t0:Bool}{a:List Zf}:∀(s1:Int) (r:(Unit⊕Unit)),lp (ZgX a) s1=some r->lpW ctx 0 [0,9,10,11] [2] ZCj [(zW t0 Zx a),(zW t0 Zx a),(zN (a.length:Int)),(zN s1)] []=some ((ZlA t0 a) r):=
 lpT (ZlA t0 a) fun s1 _ ih=>yB (yG fun x2 _=>
  (by
 conv=>rhs;whnf
 refine Zc _ (Zpa _) fun r7 _=>?_
 rcases r7 with r7 | r7
 exact Zj rfl
 exact Zd (ih _)))
  (Zj rfl)
theorem Zst {t0:Bool}{a:List Zf}:∀r,(Zla a)=some r->evD ctx 46 [(zW t0 Zx a)]=some (Zt9 r):=
 evT ZE1 rfl rfl <| yC Zi1 fun x0 _=>
  yBr (Zk (ZG _ _) (by
 conv=>rhs;whnf
 refine Zc _ (Zpl _) fun r8 _=>?_
 rcases r8 with r8 | r8
 exact yR
 exact yR))
def Zpd (t0:Bool) (a:Int) (mA:Int) (mI:List Zf) (mH:List Int):(Unit⊕Unit)->V×Zl
  | (.inl r)=>((.d (D.bool true)),[(.cells [(.sl 3 1)]),(.cells [(zN mA)]),(.cells [(zW t0 Zx mI)]),(zA (List.set mH mA.toNat a))])
  | (.inr r)=>((.d (D.bool false)),[(.cells [(.sl 3 1)]),(.cells [(zN mA)]),(.cells [(zW t0 Zx mI)]),(zA (List.set mH mA.toNat a))])
theorem Zoe {t0:Bool}{a mA:Int}{mI:List Zf}{mH:List Int}:∀r,(Zi8 a mA mI mH)=some r->evW ctx 67 [(zN a),(.ptr 0 0),(.ptr 1 0),(.ptr 2 0)] [(.cells [(.sl 3 1)]),(.cells [(zN mA)]),(.cells [(zW t0 Zx mI)]),(zA mH)]=some ((Zpd t0 a mA mI mH) r):=
 evS ZEI rfl rfl <| yG fun x0 hx0=>
  Ze (Zi rfl hx0) (Zk (ZI Zm mH mA.toNat a) (yC Zum fun x1 _=>
  yC Zst fun x2 _=>
  yBr yR))
def Zq5 (r:((List Int)×Int)):D:=(D.tup [(zL true r.1),(Zm r.2)])
def ZjM (t0:Bool) (a:List Zf) (b:Int):(List Int)->Ex×List V×Zl
  | r=>(.exit 0,[(zN b),(.ptr 0 0),(.ptr 1 0)],[(.cells [(zW t0 Zx a)]),(.cells [(.sl 2 1)]),(zA r)])
theorem Znu {t0:Bool}{a:List Zf}{b:Int}:∀(s2:Int×(List Int)) (r:List Int),lp (ZeG a) s2=some r->lpW ctx 0 [1,2,6,24,25] [1,2,6] Zz8 [(zN b),(.ptr 0 0),(.ptr 1 0),(zN (List.length (List.replicate (a.length:Int).toNat (0:Int)):Int)),(zN s2.1)] [(.cells [(zW t0 Zx a)]),(.cells [(.sl 2 1)]),(zA s2.2)]=some ((ZjM t0 a b) r):=
 lpT (ZjM t0 a b) fun s2 _ ih=>yB (yG fun x3 hx3=>
  Ze (Zi rfl hx3) (Zk (ZI Zm s2.2 s2.1.toNat (-1)) (Zd (ih _))))
  (Zj rfl)
def ZjX (t0:Bool) (a:List Zf) (b:Int) (x5:List Int) (s6:Int×(List Int)) (x7:Int):((List Int)⊕(List Int))->Ex×List V×Zl
  | (.inl r)=>(.exit 3,[(zN b),(.ptr 0 0),(.ptr 1 0),(zV true x5),(zN (x5.length:Int)),(zN s6.1)],[(.cells [(zW t0 Zx a)]),(.cells [(.sl 2 1)]),(zA r)])
  | (.inr r)=>(.exit 4,[(zN b),(.ptr 0 0),(.ptr 1 0),(zV true x5),(zN (x5.length:Int)),(zN s6.1)],[(.cells [(zW t0 Zx a)]),(.cells [(.sl 2 1)]),(zA r)])
theorem Zni {t0:Bool}{a:List Zf}{b:Int}{x5:List Int}{s6:Int×(List Int)}{x7:Int}:∀(s8:Int×(List Int)) (r:((List Int)⊕(List Int))),lp (ZeH a b x7) s8=some r->lpW ctx 0 [1,2,6,10,33,34,35,40,41] [1,2,6,33,34,35] ZAt [(zN b),(.ptr 0 0),(.ptr 1 0),(.fn 67 [(.ptr 1 0),(.ptr 2 0),(.ptr 0 0)]),(zV true x5),(zN (x5.length:Int)),(zN s6.1),(zN b),(zN s8.1)] [(.cells [(zW t0 Zx a)]),(.cells [(.sl 3 1)]),(.cells [(zN x7)]),(zA s8.2)]=some ((ZjX t0 a b x5 s6 x7) r):=
 lpT (ZjX t0 a b x5 s6 x7) fun s8 _ ih=>yB ((by
 conv=>rhs;whnf
 refine Zc _ Zoe fun x9 _=>?_
 rcases x9 with x9 | x9
 exact Zj rfl
 exact Zd (ih _)))
  (Zj rfl)
def ZjL (t0:Bool) (a:List Zf) (b:Int) (x5:List Int):((List Int)⊕(List Int))->Ex×List V×Zl
  | (.inl r)=>(.ret,[(.nilsl 1),(zN 161),(.ptr 0 0)],[(.cells [(.sl 1 1)]),(zA r)])
  | (.inr r)=>(.exit 2,[.bad,.bad,(.ptr 0 0)],[(.cells [(.sl 1 1)]),(zA r)])
theorem ZmX {t0:Bool}{a:List Zf}{b:Int}{x5:List Int}:∀(s6:Int×(List Int)) (r:((List Int)⊕(List Int))),lp (ZeK a b x5) s6=some r->lpW ctx 0 [1,2,6,33,34,35] [4,5,6] ZBn [(zN b),(.ptr 0 0),(.ptr 1 0),(zV true x5),(zN (x5.length:Int)),(zN s6.1)] [(.cells [(zW t0 Zx a)]),(.cells [(.sl 2 1)]),(zA s6.2)]=some ((ZjL t0 a b x5) r):=
 lpT (ZjL t0 a b x5) fun s6 _ ih=>yB (yG fun x7 _=>
  (by
 conv=>rhs;whnf
 refine Zc _ (Zni _) fun r10 _=>?_
 rcases r10 with r10 | r10
 exact Zd (ih _)
 exact Zj rfl))
  (Zj rfl)
theorem ZpT {t0:Bool}{a:List Zf}{b:Int}:∀r,(Zhs a b)=some r->evD ctx 36 [(zW t0 Zx a),(zN b)]=some (Zq5 r):=
 evT ZFr rfl rfl <| yC Zi1 fun x0 _=>
  yBr (yC Zpg fun x1 _=>
  yB (Zk (ZG _ _) (yBm (Zk (Zqv Zm (0:Int) (a.length:Int)) (Zk (ZG _ _) (Zc _ (Znu _) fun r4 _=>
  yC Zqa fun x5 _=>
  Zk (ZG _ _) (by
 conv=>rhs;whnf
 refine Zc _ (ZmX _) fun r11 _=>?_
 rcases r11 with r11 | r11
 exact yR
 exact yR))))))
  yR)
def Zp7 (r:(Zlw×Int)):D:=(D.tup [(D.agg [(zM true Zx r.1.shapes),(D.list true (List.map (Zlu true) r.1.cores))]),(Zm r.2)])
def Zjg (b:Int) (x0:((List Zf)×Int)):(((List Zf)×(List (List Int)))⊕((List Int)×(List Zf)×(List (List Int))))->Ex×List V×Zl
  | (.inl r)=>(.ret,[(zN b),(.ptr 0 0),(zN 171),(zW true Zx x0.1),(.ptr 1 0),(.ch 2),(.sl 3 5)],[(.cells [(.nilsl 5),(.nilsl 1)]),(.cells [(zW true Zx x0.1),(.sl 4 1)]),(.ch ([]:List Int)),(.arr 5 (List.map Zx r.1)),(.arr 1 (List.map (Zlu true) r.2))])
  | (.inr r)=>(.exit 0,[(zN b),(.ptr 0 0),.bad,(zW true Zx x0.1),(.ptr 1 0),(.ch 2),(.sl 3 5)],[(.cells [(.sl 4 5),(.sl 5 1)]),(.cells [(zW true Zx x0.1),(.sl 6 1)]),(.ch r.1),(.arr 5 (List.map Zx r.2.1)),(.arr 5 []),(.arr 1 []),(.arr 1 (List.map (Zlu true) r.2.2))])
theorem ZmI {b:Int}{x0:((List Zf)×Int)}:∀(s2:Int×(List Int)×(List Zf)×(List (List Int))) (r:(((List Zf)×(List (List Int)))⊕((List Int)×(List Zf)×(List (List Int))))),lp (Zcr x0) s2=some r->lpW ctx 0 [1,4,6,8,9,10,49,50,51] [1,4,5,6,8,9,10] ZB5 [(zN b),(.ptr 0 0),(zW true Zx x0.1),(.ptr 1 0),(.ch 2),(.sl 3 5),(zW true Zx x0.1),(zN (x0.1.length:Int)),(zN s2.1)] [(.cells [(.sl 4 5),(.sl 5 1)]),(.cells [(zW true Zx x0.1),(.sl 6 1)]),(.ch s2.2.1),(.arr 5 (List.map Zx s2.2.2.1)),(.arr 5 []),(.arr 1 []),(.arr 1 (List.map (Zlu true) s2.2.2.2))]=some ((Zjg b x0) r):=
 lpT (Zjg b x0) fun s2 _ ih=>yB (yG fun x3 _=>
  yC ZhJ fun x4 _=>
  yB (yC ZhV fun x5 _=>
  (by
 conv=>rhs;whnf
 refine Zc _ Zqi fun x6 _=>?_
 rcases x6 with x6 | x6
 exact yT (yG fun x7 hx7=>
  Ze (Zi rfl hx7) (Zk (ZI (Zlu true) s2.2.2.2 s2.1.toNat (List.take x5.1.toNat s2.2.1)) (Zd (ih _))))
 exact yF (Zj rfl)))
  (yT (Zdy (Zg1 Zx s2.2.2.1 1) (Zk (Zg0 Zx s2.2.2.1 [x3]) (Zd (ih _)))
  ZbL)))
  (Zj rfl)
def Zi9 (b:Int) (x0:((List Zf)×Int)) (r8:((List Int)×(List Zf)×(List (List Int)))):(List (List Int))->Ex×List V×Zl
  | r=>(.exit 2,[(.ptr 0 0),(.ptr 1 0)],[(.cells [(.sl 2 5),(.sl 3 1)]),(.cells [(zW true Zx x0.1),(.sl 4 1)]),(.arr 5 []),(.arr 1 []),(.arr 1 (List.map (Zlu true) r))])
theorem Zmz {b:Int}{x0:((List Zf)×Int)}{r8:((List Int)×(List Zf)×(List (List Int)))}:∀(s10:(List Int)×Int×(List (List Int))) (r:(List (List Int))),lp (ZdO b x0 r8) s10=some r->lpW ctx 0 [4,8,17,18,97,98,99] [4,8] ZA1 [(.ptr 0 0),(.ptr 1 0),(zV true s10.1),(zN (w64 (b-(r8.1.length:Int)))),(zW true Zx x0.1),(zN (x0.1.length:Int)),(zN s10.2.1)] [(.cells [(.sl 2 5),(.sl 3 1)]),(.cells [(zW true Zx x0.1),(.sl 4 1)]),(.arr 5 []),(.arr 1 []),(.arr 1 (List.map (Zlu true) s10.2.2))]=some ((Zi9 b x0 r8) r):=
 lpT (Zi9 b x0 r8) fun s10 _ ih=>yB (yG fun x11 _=>
  yC ZhJ fun x12 _=>
  yB (Zd (ih _))
  (yG fun x13 _=>
  yT (Zdy (ZzF Zm s10.1 1) (Zru (ZEs Zm (fun _=>⟨rfl,rfl⟩) s10.1 _) (Zk (Zw3 Zm s10.1 1) (yG fun x14 hx14=>
  Ze (Zi rfl hx14) (Zk (ZI (Zlu true) s10.2.2 s10.2.1.toNat [(w64 ((w64 (b-(r8.1.length:Int)))+x13))]) (Zd (ih _))))))
  ZbL)))
  (Zj rfl)
theorem ZhR {t0:Bool}{a:List Zp}{b:Int}:∀r,(Zga a b)=some r->evD ctx 11 [(.d (D.list t0 (List.map (Zgu true) a))),(zN b)]=some (Zp7 r):=
 evT ZFq rfl rfl <| Zk (ZG _ _) (yBr (yBr (yBr (yC Zok fun x0 _=>
  yBr (Zk (ZG _ _) (yBm (Zk (Zqv (Zlu true) (([]:List Int):List Int) (x0.1.length:Int)) (Zc _ Zqh fun x1 _=>
  Zk (ZG _ _) (by
 conv=>rhs;whnf
 refine Zc _ (ZmI _) fun r8 _=>?_
 rcases r8 with r8 | r8
 exact yR
 exact yC ZpT fun x9 _=>
  yBr (Zk (ZG _ _) (Zc _ (Zmz _) fun r15 _=>
  yR)))))))))))
def ZlC (r:Bool):D:=(D.bool r)
def ZgT (t0:Bool) (a:List Zp) (b:Int):(Int⊕(Int⊕Int))->Ex×List V×Zl
  | (.inl r)=>(.ret,[(.d (D.list t0 (List.map (Zgu true) a))),(zN b),(.d (D.bool true)),(zN r)],[])
  | (.inr (.inl r))=>(.ret,[(.d (D.list t0 (List.map (Zgu true) a))),(zN b),(.d (D.bool false)),(zN r)],[])
  | (.inr (.inr r))=>(.exit 0,[(.d (D.list t0 (List.map (Zgu true) a))),(zN b),.bad,(zN r)],[])
theorem ZjJ {t0:Bool}{a:List Zp}{b:Int}:∀(s5:Int×Int) (r:(Int⊕(Int⊕Int))),lp (ZaU a b) s5=some r->lpW ctx 0 [0,1,5,6] [0,1,4,5] ZDE [(.d (D.list t0 (List.map (Zgu true) a))),(zN b),(zN s5.1),(zN s5.2)] []=some ((ZgT t0 a b) r):=
 lpT (ZgT t0 a b) fun s5 _ ih=>Zk (ZG _ _) (yB (yG fun x6 _=>
  Zc _ ZlO fun x7 _=>
  yC ZkM fun x8 _=>
  yC ZhV fun x9 _=>
  yB (Zc _ Zi6 fun x10 _=>
  yC ZhR fun x11 _=>
  yB (Zj rfl)
  (Zj rfl))
  (yB (Zc _ Zi6 fun x12 _=>
  yC ZhR fun x13 _=>
  yB (Zj rfl)
  (Zj rfl))
  (Zd (ih _))))
  (Zj rfl))
theorem Zlh {t0:Bool}{a:List Zp}{b:Int}:∀r,(ZgM a b)=some r->evD ctx 5 [(.d (D.list t0 (List.map (Zgu true) a))),(zN b)]=some (ZlC r):=
 evT fn5 rfl rfl <| yC ZdK fun x0 _=>
  yB (yC Zsd fun x1 _=>
  yB (Zk (ZG _ _) (yB (yC ZdK fun x2 _=>
  yBr yR)
  (yB (yC ZdK fun x3 _=>
  yBr yR)
  (yB (yC ZdK fun x4 _=>
  yBr yR)
  (by
 conv=>rhs;whnf
 refine Zc _ (ZjJ _) fun r14 _=>?_
 rcases r14 with r14 | (r14 | r14)
 exact yR
 exact yR
 exact Zc _ Zi6 fun x15 _=>
  yC ZhR fun x16 _=>
  yBr (yB (yBr yR)
  yR))))))
  (yC ZdK fun x17 _=>
  yBr yR))
  (yC ZdK fun x18 _=>
  yBr yR)
abbrev ZA0:List Lf×Bool:=([.int .i64],false)
abbrev Zwd:List Lf×Bool:=([.sl true [.int .i64,.int .i64,.sl true [.int .i64,.int .i64,.int .i64],.sl true [.int .i64,.int .i64],.sl true [.int .i64,.int .i64,.int .i64],.sl true [.sl false [.int .i64],.sl false [.int .i64]]]],false)
noncomputable def Zhk (s:List Zf):Int:=(s.map fun z=>(ZbX z).1).sum
theorem Zrk:∀{s:List Zf},Zof s->Zhk s=(Za5 s:Int)+((ZbZ s).length:Int)
 | [],_=>by simp[Zhk,Za5,ZbZ]
 | z :: s,ok=>by
  obtain⟨_,c1,c8,c2⟩:=Zl9 (ok z (by simp))
  have ih:=Zrk (s:=s) fun y hy=>ok y (by simp[hy])
  have e:Zhk (z :: s)=(ZbX z).1+Zhk s:=by unfold Zhk;simp
  rw[e,ih,Zlb]
  unfold ZbZ
  rw[List.filter_cons]
  cases hz:hv z with
  | true=>
   simp only[cond_true,Bool.not_true,Bool.false_eq_true,if_false]
   unfold cN
   omega
  | false=>
   rw[c2 hz]
   simp only[cond_false,Bool.not_false,if_true,List.length_cons]
   omega
theorem Zsl {s:List Zf} (ok:Zof s) (hs:s.length<=8) {b:Nat} (h:Zhk s<=(b:Int)):∃p,Znh s b=some p:=by
 have hw:=Zrk ok
 have hl:(ZbZ s).length<=8:=Nat.le_trans (List.length_filter_le _ _) hs
 obtain⟨_,h2⟩:=Zwp (l:=ZbZ s) (by omega)
 obtain⟨a,ha⟩:=ZBV (ZlV hs ok) (n:=b-Za5 s) (by omega) (ZvJ (b-Za5 s) h2)
 exact⟨_,ZyQ (by omega) ha⟩
theorem Zqb (l:List Zp) (b:Int):ZgM l b=some true:=by
 unfold ZgM
 simp only[ZdI,Option.bind_some,cond_true]
 obtain⟨f,f1,f2⟩:=ZFW l
 rw[f1,Option.bind_some]
 cases f with
 | false=>rfl
 | true=>
  obtain⟨hl,hz⟩:=f2 rfl
  have hl':l.length<=1000:=by omega
  rw[cond_true]
  by_cases h8:8<(l.length:Int)
  ·rw[decide_eq_true h8];rfl
  rw[decide_eq_false h8,cond_false]
  by_cases b1:b<1
  ·rw[decide_eq_true b1];rfl
  rw[decide_eq_false b1,cond_false]
  by_cases b8:8<b
  ·rw[decide_eq_true b8];rfl
  rw[decide_eq_false b8,cond_false]
  have hadm:ZrM l b=bif shE l==0 then (match Znh (shL l) b.toNat with | some p=>(p,0) | none=>(Zvj,171)) else (Zvj,shE l):=by
   unfold ZrM
   rw[decide_eq_false h8,decide_eq_false b1,decide_eq_false b8]
   rfl
  have bad:shE l≠0->((ZrM l b).2 != 0)=true:=fun h=>by
   rw[hadm,beq_eq_false_iff_ne.2 h]
   exact ZyJ h
  have key:∀(k i:Nat),i+k=l.length->(∀d∈l.take i,(Zhr d).2=0/\(ZbX (Zhr d).1).2=0)->0<=Zhk (shL (l.take i))->Zhk (shL (l.take i))<=8*i ->
    (∃r,lp (ZaU l b) (Zhk (shL (l.take i)),(i:Int))=some (.inl r))∨(lp (ZaU l b) (Zhk (shL (l.take i)),(i:Int))=some (.inr (.inr (Zhk (shL l))))/\shE l=0):=by
   intro k
   induction k with
   | zero=>
    intro i hi h w0 w8
    have hi:i=l.length:=by omega
    subst hi
    rw[List.take_length] at h ⊢
    rw[Zal]
    simp only[ZaU,Ze9,cond_false]
    exact .inr ⟨trivial,ZB9 h⟩
   | succ k ih=>
    intro i hi h w0 w8
    have hil:i<l.length:=by omega
    have hx:=List.getElem?_eq_getElem hil
    have hm:=List.getElem_mem hil
    have ht:l.take (i+1)=l.take i++[l[i]]:=by rw[List.take_add_one,hx];rfl
    generalize l[i]=d at hx ht hm
    have hw:Zhk (shL (l.take (i+1)))=Zhk (shL (l.take i))+(ZbX (Zhr d).1).1:=by
     rw[ht];unfold Zhk shL;simp
    rw[Zal]
    simp only[ZaU,Zc8 hil,cond_true,Zaa hx,Option.bind_some,ZD7 d (hz d hm),ZAA (hz d hm),Zuf,ZDF hl' hz,ZxY hl' hz]
    by_cases e1:(Zhr d).2=0
    ·by_cases e2:(ZbX (Zhr d).1).2=0
     ·obtain⟨_,c1,c8,_⟩:=Zl9 e2
      simp only[e1,e2,Ztb,cond_false,ZT hil (show l.length<9223372036854775808 by omega),ZaJ (show -9223372036854775808<=Zhk (shL (l.take i))+(ZbX (Zhr d).1).1 by omega) (show Zhk (shL (l.take i))+(ZbX (Zhr d).1).1<9223372036854775808 by omega)]
      have:=ih (i+1) (by omega) (fun x hx=>by
       rw[ht] at hx
       rcases List.mem_append.1 hx with hx | hx
       ·exact h x hx
       ·rw[List.mem_singleton.1 hx];exact⟨e1,e2⟩) (by omega) (by omega)
      rw[hw] at this
      exact this
     ·simp only[e1,Ztb,cond_false,ZyJ e2,cond_true,bad (ZBw hm e2)]
      exact .inl ⟨_,rfl⟩
    ·simp only[ZyJ e1,cond_true,bad (ZAP hm e1)]
     exact .inl ⟨_,rfl⟩
  rcases key l.length 0 (by omega) (fun d hd=>by simp at hd) (by simp[Zhk,shL]) (by simp[Zhk,shL]) with⟨r,h⟩ | ⟨h,he⟩
  ·rw[show lp (ZaU l b) (0,0)=_ from h];rfl
  ·rw[show lp (ZaU l b) (0,0)=_ from h]
   simp only[Option.bind_some,ZDF hl' hz,ZxY hl' hz]
   rw[hadm,he]
   simp only[beq_self_eq_true,cond_true]
   cases hp:Znh (shL l) b.toNat with
   | some p=>rfl
   | none=>
    dsimp only
    by_cases hb:b<Zhk (shL l)
    ·rw[decide_eq_true hb];rfl
    ·obtain⟨p,hp2⟩:=Zsl (ZAi he) (show(shL l).length<=8 by unfold shL;rw[List.length_map];omega) (b:=b.toNat) (by omega)
     rw[hp] at hp2;cases hp2
theorem ZrX (xs:List D) (h:Zh4 Zwd.1 xs) (ys:List D) (k:Zh4 ZA0.1 ys):∃H',evW ctx 5 (ZcO [ZvL Zwd.2 xs,ZvL ZA0.2 ys]) []=some (.d (.bool true),H'):=by
 obtain⟨x,r,rfl,h1,rfl⟩:=h
 obtain⟨l,rfl⟩:=ZzS h1
 obtain⟨n,hn,okn⟩:=ZE3 k
 show ∃H',evW ctx 5 [.d (.list true (l.map (Zgu true))),.d (ZvL false ys)] []=_
 rw[hn]
 exact ZCi (Zlh true (Zqb l n))
end Go.Proofs.YtmnglncebfabpaaGreatDoor
namespace Go.Proofs.YtmnglncebfabpaaGreatDoor.LawAdmitEnough
open Go.ChangeShapes Go.WideShapes Go.ChangeAt Go.RowKit Go.Proofs.YtmnglncebfabpaaGreatDoorE
theorem own:ownKnob Tryz.prog.godebug=none:=by kernel_rfl
theorem ZxZ:laidOutB Tryz.prog=true:=by kernel_rfl
def Zsc : List (String × DataW Unit) := [("math/bits.deBruijn32tab", Rows.laid_math_bits_deBruijn32tab), ("math/bits.deBruijn64tab", Rows.laid_math_bits_deBruijn64tab)]
theorem ZBZ (os:Os) (args:Array Value):laidMetH Tryz.prog Zsc ((World.doorLaid Tryz.prog 19 os).forCall (fun _ _=>0) ⟨#[],args,[]⟩).memory:=
 laidMetH_of_parts3 (fuel:=8) (laidMet_of_run' 8 (by kernel_rfl) (by kernel_rfl)) (by kernel_rfl) (by kernel_rfl)
theorem ZAf {W:World} (h:laidMetH Tryz.prog Zsc W):GOK ZkC R0 W:=by
 intro g l hg
 unfold ZkC at hg
 split at hg
 ·cases hg
  exact ZrG (t := 175) (N := 32) (e := 5) (k := .u8) h (by kernel_rfl) (n := "math/bits.deBruijn32tab") (by rw [show DataW.agg (Znk ZD0) = Rows.laid_math_bits_deBruijn32tab by kernel_rfl]; simp [Zsc]) (by kernel_rfl) (by kernel_rfl) (by kernel_rfl) (by kernel_rfl) (by kernel_rfl) (by kernel_rfl) (by decide)
 ·cases hg
  exact ZrG (t := 176) (N := 64) (e := 5) (k := .u8) h (by kernel_rfl) (n := "math/bits.deBruijn64tab") (by rw [show DataW.agg (Znk ZDK) = Rows.laid_math_bits_deBruijn64tab by kernel_rfl]; simp [Zsc]) (by kernel_rfl) (by kernel_rfl) (by kernel_rfl) (by kernel_rfl) (by kernel_rfl) (by kernel_rfl) (by decide)
 ·cases hg
theorem ZFa (os:Os) (started:os.Started) (H:Type) (enc:TypeId×Value->H) :
  ReturnsInHanded {} Tryz.checked os 5 .any (fun w args=>(Rows.admitEnoughSpec.pre enc Tryz.prog Tryz.f5 [] false w args/\laidMetH Tryz.prog Zsc w)/\sizedMet enc Tryz.prog Tryz.f5 (OpenSpec.ofChange Rows.admitEnoughSpec) false w args) (Rows.admitEnoughSpec.post enc Tryz.prog Tryz.f5 false true false false):=by
 refine returnsInHanded_of_change_and (C:=Tryz.checked) (X:=fun w _=>laidMetH Tryz.prog Zsc w) (fun _ _ _ hh h=>h.of_heap hh) own started (by kernel_rfl) Tryz.func5
  (ChangeSpec.witness_shaped (enc:=enc) (C:=Tryz.checked) (os:=os) (X:=fun w _=>laidMetH Tryz.prog Zsc w) false (World.doorLaid Tryz.prog 19 os) #[.slice none 0 0,.int .i64 0] 8 rfl (World.shaped_of_RefB (by kernel_rfl) (by kernel_rfl)) (by kernel_rfl) (by kernel_rfl) (by kernel_rfl) (ZBZ os _)) ?_
 intro W base args ds gs before hval0 hW _ _ hL _
 have hval:∀(j:Nat) t v,Tryz.f5.params[j]? = some t->args[j]? = some v->Value.okWide Tryz.prog W .any base t v:=hval0
 have hW':=hW
 obtain⟨p,q,hA0,hV,rfl,hfz,hnd⟩:=hW
 have hA:DataW.TrodAll enc Tryz.prog W 0 (fun _=>true) true Tryz.f5.params.toList args.toList ds p:=hA0
 rw[Tryz.params5] at hA hval
 obtain⟨v0,vs0,d0,ds0,p0,q0,hargs,rfl,rfl,h0,r0⟩:=trodAll_cons hA
 obtain⟨v1,vs1,d1,ds1,p1,q1,rfl,rfl,rfl,h1,r1⟩:=trodAll_cons r0
 obtain⟨rfl,rfl,rfl⟩:=trodAll_nil r1
 obtain rfl:args = #[v0,v1]:=by cases args;simp_all
 obtain⟨rfl,rfl⟩:=trodVars_none hV
 have lt0:∀x∈p0,x.block<W.heap.size:=by obtain⟨m,hm⟩:=h0;exact DataW.trod_lt m _ _ _ hm
 obtain⟨x0,ok0,den0⟩:=ZAa (P:=Tryz.prog) (n:=8) (t:=22) (l:=Zwd.1) (ag:=Zwd.2) (by kernel_rfl) (hval 0 22 v0 rfl rfl) h0
 have lt1:∀x∈p1,x.block<W.heap.size:=by obtain⟨m,hm⟩:=h1;exact DataW.trod_lt m _ _ _ hm
 obtain⟨x1,ok1,den1⟩:=ZAa (P:=Tryz.prog) (n:=8) (t:=3) (l:=ZA0.1) (ag:=ZA0.2) (by kernel_rfl) (hval 1 3 v1 rfl rfl) h1
 obtain⟨H1,ev⟩:=ZrX x0 ok0 x1 ok1
 have den:ZaT All All All W [ZvL Zwd.2 x0,ZvL ZA0.2 x1] [v0,v1]:=⟨_,_,rfl,den0,⟨_,_,rfl,den1,rfl⟩⟩
 refine(Zzg ZGy (ZAf hL) den ev).mono fun e W' ⟨he,bel⟩=>?_
 subst he
 exact⟨_,rfl,_,_,_,[],_,[],hW',trodAll_mk1 (shut_bool Tryz.underlying4 _),(trodAll_cons_mk (Below.trod ZxZ (by kernel_rfl) (of_decide_eq_true (by kernel_rfl)) h0 bel lt0) (trodAll_cons_mk (Below.trod ZxZ (by kernel_rfl) (of_decide_eq_true (by kernel_rfl)) h1 bel lt1) trodAll_mk0)),rfl,bel.frame _,fun h=>by cases h⟩
theorem over:Rows.admitEnoughRow.holds Tryz.pinned (OpenSpec.ofChange Rows.admitEnoughSpec):=
 OpenClaim.holds_of_wide 5 Tryz.f5 rfl rfl rfl rfl rfl rfl rfl ⟨rfl,rfl,rfl,rfl,rfl⟩ rfl rfl rfl rfl rfl (by kernel_rfl) Tryz.func5 (by kernel_rfl)
  (of_decide_eq_true (by kernel_rfl)) (by unfold Func.isWrapper;first | (rw[if_pos (by decide +kernel)];kernel_rfl) | (rw[if_neg (by decide +kernel)];exact⟨rfl,rfl⟩))
  (fun os started H enc _=>ZFa os started H enc)
theorem proved:Rows.AdmitEnoughSaid:=over
theorem carded:Rows.AdmitEnoughCardSaid:=
 Claim7.holds_tied_plain_at .later [] [.data, .data] true (true, "5993bbbb36cd418e27731508b4ad0539b37fc49c272e06c4f0b99c3df5968dc5") false
  proved (fun _ h=>by cases h) (by kernel_rfl) (fun _ h=>by cases h) admitEnough_row_tie rfl ⟨rfl,rfl⟩ (by kernel_rfl) rfl
  (fun f fn hf hfn=>by
   obtain rfl : f = 5 := Option.some.inj ((show Tryz.prog.funcNamed "trefoil/trefoillaw17.AdmitEnough" = some 5 by kernel_rfl).symm.trans hf) |>.symm
   obtain rfl:fn=Tryz.f5:=(Option.some.inj (Tryz.func5.symm.trans hfn)).symm
   exact⟨by kernel_rfl,fun j t ht=>by
    rw[Tryz.params5] at ht
    have hm:t∈[22,3]:=by simpa using Array.mem_of_getElem? ht
    have hall:([22,3].all fun u=>!Tryz.prog.wantsStandIn u)=true:=by kernel_rfl
    exact(show Tryz.prog.wantsStandIn t=false by simpa using List.all_eq_true.1 hall t hm)⟩)
  (by kernel_rfl)
end Go.Proofs.YtmnglncebfabpaaGreatDoor.LawAdmitEnough
namespace Go.Proofs.YtmnglncebfabpaaGreatDoor
theorem admitEnough_holds:Rows.AdmitEnoughCardSaid:=LawAdmitEnough.carded
#print axioms admitEnough_holds
end Go.Proofs.YtmnglncebfabpaaGreatDoor
