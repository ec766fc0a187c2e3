/- AdmitLess: part 6 of 6 of the proof: the row and the card of the law, out of what the evaluator says of it; without conditions. -/
import Derived.Test.YtmnglncebfabpaaGreatDoorZAdmitLesse
import Derived.KernelRfl
import Derived.Test.YtmnglncebfabpaaGreatDoorRows
import Derived.Test.YtmnglncebfabpaaGreatDoorCards
import Derived.Test.YtmnglncebfabpaaGreatDoorTie
import Derived.WalkKit
import Derived.ProofKit
import Derived.OpenShut
import Derived.ShutString
import Derived.ChangeOld
import Derived.Below
import Derived.SizedLaws
import Derived.Handed
import Derived.LaidMore
import Derived.Stop.Joined
import Derived.ChangeShapes
import Derived.Carry
import Derived.SevenTiedAt
set_option maxRecDepth 100000
set_option maxHeartbeats 40000000
set_option linter.unusedVariables false
set_option linter.unusedSimpArgs false
namespace Go.Proofs.YtmnglncebfabpaaGreatDoor
open Go Go.Proofs.YtmnglncebfabpaaGreatDoorE
open Go.IntKind (u64 i64 u32 i32 u8)
def Zp9 (r:Bool):D:=(D.bool r)
theorem ZgE {a:Zf}:∀r,(ZdF a)=some r->evD ctx 28 [(.d (zK2 a.total a.long a.most a.deadline a.period))]=some (Zp9 r):=
 evT ZEI rfl rfl <| yC ZhV fun x0 _=>
  yB ((by
 conv=>rhs;whnf
 refine yC ZmL fun x1 _=>?_
 rcases x1 with x1 | x1
 exact yC ZhF fun x2 _=>
  yC Zee fun x3 _=>
  yBr yR
 exact yC Zee fun x4 _=>
  yC Zee fun x5 _=>
  yBr yR))
  yR
def Zrc (b:Int) (mG:List Int):(Unit⊕Unit)->V×Zl
  | (.inl r)=>((.d (D.tup [(zL true (List.take b.toNat mG)),(D.bool true)])),[(.ch (List.drop b.toNat mG))])
  | (.inr r)=>((.d (D.tup [(zL true ([]:List Int)),(D.bool false)])),[(.ch ([]:List Int))])
theorem Zqk {b:Int}{mG:List Int}:∀r,(Zlt b mG)=some r->evW ctx 35 [(.ch 0),(zN b)] [(.ch mG)]=some ((Zrc b mG) r):=
 evS ZGT rfl rfl <| yBm (yB (yT yR)
  (yF yR))
def Zp3 (r:Bool):D:=(D.bool r)
theorem Zo7 {a:Zf}:∀r,(ZcV a)=some r->evD ctx 94 [(.d (zK2 a.total a.long a.most a.deadline a.period))]=some (Zp3 r):=
 evT ZFm rfl rfl <| yC ZhV fun x0 _=>
  yBr (yC ZgE fun x1 _=>
  yBr yR)
def ZeP (r:Int):D:=(Zm r)
def ZbQ (t0:Bool) (a:List Zf):(Int⊕Unit)->Ex×List V×Zl
  | (.inl r)=>(.ret,[(zN r)],[])
  | (.inr r)=>(.exit 0,[.bad],[])
theorem ZdQ {t0:Bool}{a:List Zf}:∀(s0:Int) (r:(Int⊕Unit)),lp (ZaM a (fun z0=>ZcV z0)) s0=some r->lpW ctx 0 [0,1,7,8] [4] Zx6 [(zW t0 Zx a),(.d (D.fn 94 [])),(zN (a.length:Int)),(zN s0)] []=some ((ZbQ t0 a) r):=
 lpT (ZbQ t0 a) fun s0 _ ih=>yB (yG fun x1 _=>
  yC Zo7 fun x2 _=>
  yB (Zk rfl)
  (Zd (ih _)))
  (Zk rfl)
theorem Zew {t0:Bool}{a:List Zf}:∀r,(Zcz a (fun z0=>ZcV z0))=some r->evD ctx 121 [(zW t0 Zx a),(.d (D.fn 94 []))]=some (ZeP r):=
 evT ZAb rfl rfl <| Zj (ZG _ _) (by
 conv=>rhs;whnf
 refine Zc _ (ZdQ _) fun r3 _=>?_
 rcases r3 with r3 | r3
 exact yR
 exact yR)
def Zec (r:Bool):D:=(D.bool r)
theorem ZdL {t0:Bool}{a:List Zf}:∀r,(Zbg a (fun z0=>ZcV z0))=some r->evD ctx 95 [(zW t0 Zx a),(.d (D.fn 94 []))]=some (Zec r):=
 evT ZE6 rfl rfl <| yC Zew fun x0 _=>
  yBr yR
def Zsu (r:Int):D:=(Zm r)
theorem Zi1 {t0:Bool}{a:List Zf}:∀r,(Zhd a)=some r->evD ctx 64 [(zW t0 Zx a)]=some (Zsu r):=
 evT ZEN rfl rfl <| Zj (ZG _ _) (yBr (yC ZdL fun x0 _=>
  yBr yR))
def Zp4 (r:Bool):D:=(D.bool r)
theorem Zpi {a:Int}:∀r,(Zh0 a)=some r->evD ctx 65 [(zN a)]=some (Zp4 r):=
 evT ZFE rfl rfl <| yB (yBr yR)
  yR
def ZoX (r:Int):D:=(Zm r)
theorem ZK {t0:Bool}{a b:Int}{c0:List Zf}:∀r,(ZA a b c0)=some r->evD ctx 97 [(zN a),(zN b),(.d (D.rptr [(zM t0 Zx c0)]))]=some (ZoX r):=
 evT ZE1 rfl rfl <| yG fun x0 hx0=>
  yG fun x1 hx1=>
  yBr (Ze (Z3 rfl hx0) (Ze (Z3 rfl hx1) (yBr yR)))
def Zef (t0:Bool) (b:Int) (c:Int) (mG:List Int) (mA:List Zf):(List Int)->V×Zl
  | r=>((.d (D.tup [])),[(zA r),(.cells [(zW t0 Zx mA)])])
def ZbC (t0:Bool) (b:Int) (c:Int) (mA:List Zf) (s0:Int×(List Int)):(List Int)->Ex×List V×Zl
  | r=>(.exit 2,[(.sl 0 1),(zN b),(zN c),(.fn 97 [(.ptr 1 0)]),(zN s0.1)],[(zA r),(.cells [(zW t0 Zx mA)])])
theorem Zdn {t0:Bool}{b c:Int}{mA:List Zf}{s0:Int×(List Int)}:∀(s1:Int×(List Int)) (r:List Int),lp (ZZ b (fun z0 z1=>ZA z0 z1 mA)) s1=some r->lpW ctx 2 [0,1,2,3,8,9] [0,1,2,3,8] Zus [(.sl 0 1),(zN b),(zN c),(.fn 97 [(.ptr 1 0)]),(zN s0.1),(zN s1.1)] [(zA s1.2),(.cells [(zW t0 Zx mA)])]=some ((ZbC t0 b c mA s0) r):=
 lpT (ZbC t0 b c mA s0) fun s1 _ ih=>yB (yG fun x2 hx2=>
  Ze (Zi rfl hx2) (yG fun x3 hx3=>
  Ze (Zi rfl hx3) (yC ZK fun x4 _=>
  yB (Ze (Z3 rfl hx3) (Ze (Zi rfl hx3) (Ze (Z3 rfl hx2) (Ze (Zi rfl hx2) (Ze (Z3 rfl hx2) (Ze (Zi rfl hx2) (Zj (ZI Zm s1.2 s1.1.toNat x3) (yG fun x5 hx5=>
  Ze (Zi rfl hx5) (Zj (ZI Zm (List.set s1.2 s1.1.toNat x3) (w64 (s1.1-1)).toNat x2) (Zd (ih _)))))))))))
  (Zk rfl))))
  (Zk rfl)
def ZbE (t0:Bool) (b:Int) (c:Int) (mA:List Zf):(List Int)->Ex×List V×Zl
  | r=>(.exit 0,[],[(zA r),(.cells [(zW t0 Zx mA)])])
theorem Zds {t0:Bool}{b c:Int}{mA:List Zf}:∀(s0:Int×(List Int)) (r:List Int),lp (Zaj b c (fun z0 z1=>ZA z0 z1 mA)) s0=some r->lpW ctx 2 [0,1,2,3,8] [] ZuE [(.sl 0 1),(zN b),(zN c),(.fn 97 [(.ptr 1 0)]),(zN s0.1)] [(zA s0.2),(.cells [(zW t0 Zx mA)])]=some ((ZbE t0 b c mA) r):=
 lpT (ZbE t0 b c mA) fun s0 _ ih=>yB (Zc _ (Zdn _) fun r6 _=>
  Zd (ih _))
  (Zk rfl)
theorem Zai {t0:Bool}{b c:Int}{mG:List Int}{mA:List Zf}:∀r,(ZY b c (fun z0 z1=>ZA z0 z1 mA) mG)=some r->evW ctx 145 [(.sl 0 1),(zN b),(zN c),(.fn 97 [(.ptr 1 0)])] [(zA mG),(.cells [(zW t0 Zx mA)])]=some ((Zef t0 b c mG mA) r):=
 evS ZxQ rfl rfl <| Zc _ (Zds _) fun r7 _=>
  yR
def Zfs (t0:Bool) (b:Int) (c:Int) (d:Int) (mG:List Int) (mA:List Zf):(List Int)->V×Zl
  | r=>((.d (D.tup [])),[(zA r),(.cells [(zW t0 Zx mA)])])
def Zcd (t0:Bool) (c:Int) (d:Int) (mA:List Zf):((List Int)⊕(List Int))->Ex×List V×Zl
  | (.inl r)=>(.exit 0,[],[(zA r),(.cells [(zW t0 Zx mA)])])
  | (.inr r)=>(.ret,[],[(zA r),(.cells [(zW t0 Zx mA)])])
theorem Zex {t0:Bool}{c d:Int}{mA:List Zf}:∀(s0:Int×(List Int)) (r:((List Int)⊕(List Int))),lp (ZJ c d (fun z0 z1=>ZA z0 z1 mA)) s0=some r->lpW ctx 2 [0,2,3,4,10] [] Zuh [(.sl 0 1),(zN c),(zN d),(.fn 97 [(.ptr 1 0)]),(zN s0.1)] [(zA s0.2),(.cells [(zW t0 Zx mA)])]=some ((Zcd t0 c d mA) r):=
 lpT (Zcd t0 c d mA) fun s0 _ ih=>yB (Zk rfl)
  (yB (yG fun x1 hx1=>
  Ze (Zi rfl hx1) (yG fun x2 hx2=>
  Ze (Zi rfl hx2) (yC ZK fun x3 _=>
  yB (yG fun x4 hx4=>
  Ze (Zi rfl hx4) (yG fun x5 hx5=>
  Ze (Zi rfl hx5) (yC ZK fun x6 _=>
  yB (Ze (Z3 rfl hx5) (Ze (Zi rfl hx5) (Ze (Z3 rfl hx4) (Ze (Zi rfl hx4) (Ze (Z3 rfl hx4) (Ze (Zi rfl hx4) (Zj (ZI Zm s0.2 (w64 (d+s0.1)).toNat x5) (yG fun x7 hx7=>
  Ze (Zi rfl hx7) (Zj (ZI Zm (List.set s0.2 (w64 (d+s0.1)).toNat x5) (w64 (d+(w64 ((w64 ((w64 (2*s0.1))+1))+1)))).toNat x4) (Zd (ih _)))))))))))
  (Zk rfl))))
  (yG fun x8 hx8=>
  Ze (Zi rfl hx8) (Ze (Z3 rfl hx1) (Ze (Zi rfl hx1) (yC ZK fun x9 _=>
  yB (Ze (Z3 rfl hx1) (Ze (Zi rfl hx1) (Ze (Z3 rfl hx8) (Ze (Zi rfl hx8) (Ze (Z3 rfl hx8) (Ze (Zi rfl hx8) (Zj (ZI Zm s0.2 (w64 (d+s0.1)).toNat x1) (yG fun x10 hx10=>
  Ze (Zi rfl hx10) (Zj (ZI Zm (List.set s0.2 (w64 (d+s0.1)).toNat x1) (w64 (d+(w64 ((w64 (2*s0.1))+1)))).toNat x8) (Zd (ih _)))))))))))
  (Zk rfl))))))))
  (yG fun x11 hx11=>
  Ze (Zi rfl hx11) (yG fun x12 hx12=>
  Ze (Zi rfl hx12) (yC ZK fun x13 _=>
  yB (Ze (Z3 rfl hx12) (Ze (Zi rfl hx12) (Ze (Z3 rfl hx11) (Ze (Zi rfl hx11) (Ze (Z3 rfl hx11) (Ze (Zi rfl hx11) (Zj (ZI Zm s0.2 (w64 (d+s0.1)).toNat x12) (yG fun x14 hx14=>
  Ze (Zi rfl hx14) (Zj (ZI Zm (List.set s0.2 (w64 (d+s0.1)).toNat x12) (w64 (d+(w64 ((w64 (2*s0.1))+1)))).toNat x11) (Zd (ih _)))))))))))
  (Zk rfl)))))
theorem Zcn {t0:Bool}{b c d:Int}{mG:List Int}{mA:List Zf}:∀r,(ZaB b c d (fun z0 z1=>ZA z0 z1 mA) mG)=some r->evW ctx 160 [(.sl 0 1),(zN b),(zN c),(zN d),(.fn 97 [(.ptr 1 0)])] [(zA mG),(.cells [(zW t0 Zx mA)])]=some ((Zfs t0 b c d mG mA) r):=
 evS Zyh rfl rfl <| (by
 conv=>rhs;whnf
 refine Zc _ (Zex _) fun r15 _=>?_
 rcases r15 with r15 | r15
 exact yR
 exact yR)
def ZfB (t0:Bool) (b:Int) (c:Int) (mG:List Int) (mA:List Zf):(List Int)->V×Zl
  | r=>((.d (D.tup [])),[(zA r),(.cells [(zW t0 Zx mA)])])
def Zb6 (t0:Bool) (b:Int) (c:Int) (mA:List Zf):(List Int)->Ex×List V×Zl
  | r=>(.exit 0,[(.sl 0 1),(.fn 97 [(.ptr 1 0)]),(zN b),(zN 0),(zN (w64 (c-b)))],[(zA r),(.cells [(zW t0 Zx mA)])])
theorem Zez {t0:Bool}{b c:Int}{mA:List Zf}:∀(s0:Int×(List Int)) (r:List Int),lp (ZaG b c (fun z0 z1=>ZA z0 z1 mA)) s0=some r->lpW ctx 2 [0,3,8,9,10,11] [0,3,8,9,10] ZtY [(.sl 0 1),(.fn 97 [(.ptr 1 0)]),(zN b),(zN 0),(zN (w64 (c-b))),(zN s0.1)] [(zA s0.2),(.cells [(zW t0 Zx mA)])]=some ((Zb6 t0 b c mA) r):=
 lpT (Zb6 t0 b c mA) fun s0 _ ih=>yB (Zc _ Zcn fun x1 _=>
  Zd (ih _))
  (Zk rfl)
def Zcc (t0:Bool) (b:Int) (mA:List Zf):(List Int)->Ex×List V×Zl
  | r=>(.exit 2,[],[(zA r),(.cells [(zW t0 Zx mA)])])
theorem Zer {t0:Bool}{b:Int}{mA:List Zf}:∀(s3:Int×(List Int)) (r:List Int),lp (ZaI b (fun z0 z1=>ZA z0 z1 mA)) s3=some r->lpW ctx 2 [0,3,8,9,12] [] Zt0 [(.sl 0 1),(.fn 97 [(.ptr 1 0)]),(zN b),(zN 0),(zN s3.1)] [(zA s3.2),(.cells [(zW t0 Zx mA)])]=some ((Zcc t0 b mA) r):=
 lpT (Zcc t0 b mA) fun s3 _ ih=>yB (yG fun x4 hx4=>
  Ze (Zi rfl hx4) (yG fun x5 hx5=>
  Ze (Zi rfl hx5) (Ze (Z3 rfl hx5) (Ze (Zi rfl hx5) (Zj (ZI Zm s3.2 b.toNat x4) (yG fun x6 hx6=>
  Ze (Zi rfl hx6) (Zj (ZI Zm (List.set s3.2 b.toNat x4) (w64 (b+s3.1)).toNat x5) (Zc _ Zcn fun x7 _=>
  Zd (ih _)))))))))
  (Zk rfl)
theorem Zat {t0:Bool}{b c:Int}{mG:List Int}{mA:List Zf}:∀r,(Z7 b c (fun z0 z1=>ZA z0 z1 mA) mG)=some r->evW ctx 146 [(.sl 0 1),(zN b),(zN c),(.fn 97 [(.ptr 1 0)])] [(zA mG),(.cells [(zW t0 Zx mA)])]=some ((ZfB t0 b c mG mA) r):=
 evS Zyz rfl rfl <| yF (Zc _ (Zez _) fun r2 _=>
  Zc _ (Zer _) fun r8 _=>
  yR)
def ZfO (t0:Bool) (b:Int) (c:Int) (mG:List Int) (mA:Int) (mI:List Zf):(Int×Int×Int)->V×Zl
  | r=>((.d (D.tup [(Zm r.1),(Zm r.2.1)])),[(zA mG),(.cells [(zN r.2.2)]),(.cells [(zW t0 Zx mI)])])
theorem Zbi {t0:Bool}{b c:Int}{mG:List Int}{mA:Int}{mI:List Zf}:∀r,(ZaR b c (fun z0 z1=>ZA z0 z1 mI) mG mA)=some r->evW ctx 174 [(.sl 0 1),(zN b),(zN c),(.ptr 1 0),(.fn 97 [(.ptr 2 0)])] [(zA mG),(.cells [(zN mA)]),(.cells [(zW t0 Zx mI)])]=some ((ZfO t0 b c mG mA mI) r):=
 evS Zyg rfl rfl <| yG fun x0 hx0=>
  Ze (Zi rfl hx0) (yG fun x1 hx1=>
  Ze (Zi rfl hx1) (yC ZK fun x2 _=>
  yBr yR))
def ZfT (t0:Bool) (b:Int) (c:Int) (d:Int) (mG:List Int) (mA:Int) (mI:List Zf):(Int×Int)->V×Zl
  | r=>((zN r.1),[(zA mG),(.cells [(zN r.2)]),(.cells [(zW t0 Zx mI)])])
theorem Zbk {t0:Bool}{b c d:Int}{mG:List Int}{mA:Int}{mI:List Zf}:∀r,(ZaQ b c d (fun z0 z1=>ZA z0 z1 mI) mG mA)=some r->evW ctx 164 [(.sl 0 1),(zN b),(zN c),(zN d),(.ptr 1 0),(.fn 97 [(.ptr 2 0)])] [(zA mG),(.cells [(zN mA)]),(.cells [(zW t0 Zx mI)])]=some ((ZfT t0 b c d mG mA mI) r):=
 evS Zyy rfl rfl <| Zc _ Zbi fun x0 _=>
  Zc _ Zbi fun x1 _=>
  Zc _ Zbi fun x2 _=>
  yR
def ZdW (t0:Bool) (b:Int) (mG:List Int) (mA:Int) (mI:List Zf):(Int×Int)->V×Zl
  | r=>((zN r.1),[(zA mG),(.cells [(zN r.2)]),(.cells [(zW t0 Zx mI)])])
theorem ZaO {t0:Bool}{b:Int}{mG:List Int}{mA:Int}{mI:List Zf}:∀r,(Z9 b (fun z0 z1=>ZA z0 z1 mI) mG mA)=some r->evW ctx 163 [(.sl 0 1),(zN b),(.ptr 1 0),(.fn 97 [(.ptr 2 0)])] [(zA mG),(.cells [(zN mA)]),(.cells [(zW t0 Zx mI)])]=some ((ZdW t0 b mG mA mI) r):=
 evS Zyu rfl rfl <| Zc _ Zbk fun x0 _=>
  yR
def ZeU (t0:Bool) (b:Int) (c:Int) (mG:List Int) (mA:List Zf):(Int×Int)->V×Zl
  | r=>((.d (D.tup [(Zm r.1),(Zm r.2)])),[(zA mG),(.cells [(zW t0 Zx mA)])])
theorem Zam {t0:Bool}{b c:Int}{mG:List Int}{mA:List Zf}:∀r,(ZQ b c (fun z0 z1=>ZA z0 z1 mA) mG)=some r->evW ctx 148 [(.sl 0 1),(zN b),(zN c),(.fn 97 [(.ptr 1 0)])] [(zA mG),(.cells [(zW t0 Zx mA)])]=some ((ZeU t0 b c mG mA) r):=
 evS Zyp rfl rfl <| yF (yF (yF (yB (yB (Zc _ ZaO fun x0 _=>
  Zc _ ZaO fun x1 _=>
  Zc _ ZaO fun x2 _=>
  Zc _ Zbk fun x3 _=>
  yBr (yBr yR))
  (Zc _ Zbk fun x4 _=>
  yBr (yBr yR)))
  (yT yR))))
def Zeu (t0:Bool) (b:Int) (c:Int) (mG:List Int) (mA:List Zf):(List Int)->V×Zl
  | r=>((.d (D.tup [])),[(zA r),(.cells [(zW t0 Zx mA)])])
def ZbJ (t0:Bool) (mA:List Zf):(List Int)->Ex×List V×Zl
  | r=>(.exit 0,[],[(zA r),(.cells [(zW t0 Zx mA)])])
theorem Zdw {t0:Bool}{mA:List Zf}:∀(s0:Int×Int×(List Int)) (r:List Int),lp (Z4) s0=some r->lpW ctx 2 [0,8,9] [] ZuR [(.sl 0 1),(zN s0.1),(zN s0.2.1)] [(zA s0.2.2),(.cells [(zW t0 Zx mA)])]=some ((ZbJ t0 mA) r):=
 lpT (ZbJ t0 mA) fun s0 _ ih=>yB (yG fun x1 hx1=>
  Ze (Zi rfl hx1) (yG fun x2 hx2=>
  Ze (Zi rfl hx2) (Ze (Z3 rfl hx2) (Ze (Zi rfl hx2) (Zj (ZI Zm s0.2.2 s0.1.toNat x1) (yG fun x3 hx3=>
  Ze (Zi rfl hx3) (Zj (ZI Zm (List.set s0.2.2 s0.1.toNat x1) s0.2.1.toNat x2) (Zd (ih _)))))))))
  (Zk rfl)
theorem Zak {t0:Bool}{b c:Int}{mG:List Int}{mA:List Zf}:∀r,(ZO b c (fun z0 z1=>ZA z0 z1 mA) mG)=some r->evW ctx 149 [(.sl 0 1),(zN b),(zN c),(.fn 97 [(.ptr 1 0)])] [(zA mG),(.cells [(zW t0 Zx mA)])]=some ((Zeu t0 b c mG mA) r):=
 evS Zyt rfl rfl <| Zc _ (Zdw _) fun r4 _=>
  yR
def Zc1 (t0:Bool) (b:Int) (c:Int) (mG:List Int) (mA:List Zf):((List Int)⊕(List Int))->V×Zl
  | (.inl r)=>((.d (D.bool true)),[(zA r),(.cells [(zW t0 Zx mA)])])
  | (.inr r)=>((.d (D.bool false)),[(zA r),(.cells [(zW t0 Zx mA)])])
def Zbb (t0:Bool) (b:Int) (c:Int) (mA:List Zf) (s0:Int×Int×(List Int)):Int->Ex×List V×Zl
  | r=>(.exit 2,[(.sl 0 1),(zN b),(zN c),(.fn 97 [(.ptr 1 0)]),(zN r),(zN s0.2.1)],[(zA s0.2.2),(.cells [(zW t0 Zx mA)])])
theorem ZcF {t0:Bool}{b c:Int}{mA:List Zf}{s0:Int×Int×(List Int)}:∀(s1:Int) (r:Int),lp (ZM c (fun z0 z1=>ZA z0 z1 mA) s0) s1=some r->lpW ctx 2 [0,1,2,3,9,10] [0,1,2,3,9,10] ZuS [(.sl 0 1),(zN b),(zN c),(.fn 97 [(.ptr 1 0)]),(zN s1),(zN s0.2.1)] [(zA s0.2.2),(.cells [(zW t0 Zx mA)])]=some ((Zbb t0 b c mA s0) r):=
 lpT (Zbb t0 b c mA s0) fun s1 _ ih=>yB (yG fun x2 hx2=>
  Ze (Zi rfl hx2) (yG fun x3 hx3=>
  Ze (Zi rfl hx3) (yC ZK fun x4 _=>
  yB (Zk rfl)
  (Zd (ih _)))))
  (Zk rfl)
def Za8 (t0:Bool) (b:Int) (c:Int) (mA:List Zf) (s0:Int×Int×(List Int)) (r5:Int):(List Int)->Ex×List V×Zl
  | r=>(.exit 4,[(.sl 0 1),(zN b),(zN c),(.fn 97 [(.ptr 1 0)]),(zN r5),(zN s0.2.1)],[(zA r),(.cells [(zW t0 Zx mA)])])
theorem ZcG {t0:Bool}{b c:Int}{mA:List Zf}{s0:Int×Int×(List Int)}{r5:Int}:∀(s9:Int×(List Int)) (r:List Int),lp (ZV (fun z0 z1=>ZA z0 z1 mA)) s9=some r->lpW ctx 2 [0,1,2,3,9,10,11] [0,1,2,3,9,10] Zt8 [(.sl 0 1),(zN b),(zN c),(.fn 97 [(.ptr 1 0)]),(zN r5),(zN s0.2.1),(zN s9.1)] [(zA s9.2),(.cells [(zW t0 Zx mA)])]=some ((Za8 t0 b c mA s0 r5) r):=
 lpT (Za8 t0 b c mA s0 r5) fun s9 _ ih=>yB (yG fun x10 hx10=>
  Ze (Zi rfl hx10) (yG fun x11 hx11=>
  Ze (Zi rfl hx11) (yC ZK fun x12 _=>
  yB (Ze (Z3 rfl hx11) (Ze (Zi rfl hx11) (Ze (Z3 rfl hx10) (Ze (Zi rfl hx10) (Ze (Z3 rfl hx10) (Ze (Zi rfl hx10) (Zj (ZI Zm s9.2 s9.1.toNat x11) (yG fun x13 hx13=>
  Ze (Zi rfl hx13) (Zj (ZI Zm (List.set s9.2 s9.1.toNat x11) (w64 (s9.1-1)).toNat x10) (Zd (ih _)))))))))))
  (Zk rfl))))
  (Zk rfl)
def Zbc (t0:Bool) (b:Int) (c:Int) (mA:List Zf) (s0:Int×Int×(List Int)) (r5:Int):(List Int)->Ex×List V×Zl
  | r=>(.exit 6,[(.sl 0 1),(zN b),(zN c),(.fn 97 [(.ptr 1 0)]),(zN r5),(zN s0.2.1)],[(zA r),(.cells [(zW t0 Zx mA)])])
theorem Za4 {t0:Bool}{b c:Int}{mA:List Zf}{s0:Int×Int×(List Int)}{r5:Int}:∀(s15:Int×(List Int)) (r:List Int),lp (ZH c (fun z0 z1=>ZA z0 z1 mA)) s15=some r->lpW ctx 2 [0,1,2,3,9,10,12] [0,1,2,3,9,10] ZtR [(.sl 0 1),(zN b),(zN c),(.fn 97 [(.ptr 1 0)]),(zN r5),(zN s0.2.1),(zN s15.1)] [(zA s15.2),(.cells [(zW t0 Zx mA)])]=some ((Zbc t0 b c mA s0 r5) r):=
 lpT (Zbc t0 b c mA s0 r5) fun s15 _ ih=>yB (yG fun x16 hx16=>
  Ze (Zi rfl hx16) (yG fun x17 hx17=>
  Ze (Zi rfl hx17) (yC ZK fun x18 _=>
  yB (Ze (Z3 rfl hx17) (Ze (Zi rfl hx17) (Ze (Z3 rfl hx16) (Ze (Zi rfl hx16) (Ze (Z3 rfl hx16) (Ze (Zi rfl hx16) (Zj (ZI Zm s15.2 s15.1.toNat x17) (yG fun x19 hx19=>
  Ze (Zi rfl hx19) (Zj (ZI Zm (List.set s15.2 s15.1.toNat x17) (w64 (s15.1-1)).toNat x16) (Zd (ih _)))))))))))
  (Zk rfl))))
  (Zk rfl)
def Za7 (t0:Bool) (b:Int) (c:Int) (mA:List Zf):((List Int)⊕((List Int)⊕(List Int)))->Ex×List V×Zl
  | (.inl r)=>(.ret,[(.d (D.bool true))],[(zA r),(.cells [(zW t0 Zx mA)])])
  | (.inr (.inl r))=>(.ret,[(.d (D.bool false))],[(zA r),(.cells [(zW t0 Zx mA)])])
  | (.inr (.inr r))=>(.exit 0,[.bad],[(zA r),(.cells [(zW t0 Zx mA)])])
theorem ZcH {t0:Bool}{b c:Int}{mA:List Zf}:∀(s0:Int×Int×(List Int)) (r:((List Int)⊕((List Int)⊕(List Int)))),lp (ZU b c (fun z0 z1=>ZA z0 z1 mA)) s0=some r->lpW ctx 2 [0,1,2,3,9,10] [8] Zuy [(.sl 0 1),(zN b),(zN c),(.fn 97 [(.ptr 1 0)]),(zN s0.1),(zN s0.2.1)] [(zA s0.2.2),(.cells [(zW t0 Zx mA)])]=some ((Za7 t0 b c mA) r):=
 lpT (Za7 t0 b c mA) fun s0 _ ih=>yB (Zc _ (ZcF _) fun r5 _=>
  yB (Zk rfl)
  (yB (Zk rfl)
  (yG fun x6 hx6=>
  Ze (Zi rfl hx6) (yG fun x7 hx7=>
  Ze (Zi rfl hx7) (Ze (Z3 rfl hx7) (Ze (Zi rfl hx7) (Zj (ZI Zm s0.2.2 r5.toNat x6) (yG fun x8 hx8=>
  Ze (Zi rfl hx8) (Zj (ZI Zm (List.set s0.2.2 r5.toNat x6) (w64 (r5-1)).toNat x7) (yB (Zc _ (ZcG _) fun r14 _=>
  yB (Zc _ (Za4 _) fun r20 _=>
  Zd (ih _))
  (Zd (ih _)))
  (yB (Zc _ (Za4 _) fun r26 _=>
  Zd (ih _))
  (Zd (ih _)))))))))))))
  (Zk rfl)
theorem Zbh {t0:Bool}{b c:Int}{mG:List Int}{mA:List Zf}:∀r,(ZS b c (fun z0 z1=>ZA z0 z1 mA) mG)=some r->evW ctx 150 [(.sl 0 1),(zN b),(zN c),(.fn 97 [(.ptr 1 0)])] [(zA mG),(.cells [(zW t0 Zx mA)])]=some ((Zc1 t0 b c mG mA) r):=
 evS ZxJ rfl rfl <| (by
 conv=>rhs;whnf
 refine Zc _ (ZcH _) fun r27 _=>?_
 rcases r27 with r27 | (r27 | r27)
 exact yR
 exact yR
 exact yR)
def Zff (t0:Bool) (b:Int) (c:Int) (d:Int) (mG:List Int) (mA:List Zf):((Int×(List Int))⊕(Int×(List Int)))->V×Zl
  | (.inl r)=>((.d (D.tup [(Zm r.1),(D.bool true)])),[(zA r.2),(.cells [(zW t0 Zx mA)])])
  | (.inr r)=>((.d (D.tup [(Zm r.1),(D.bool false)])),[(zA r.2),(.cells [(zW t0 Zx mA)])])
def Zb2 (t0:Bool) (b:Int) (c:Int) (d:Int) (mG:List Int) (mA:List Zf) (x0:Int) (x1:Int):Int->Ex×List V×Zl
  | r=>(.exit 0,[(.sl 0 1),(zN b),(.fn 97 [(.ptr 1 0)]),(zN r),(zN (w64 (c-1)))],[(zA (List.set (List.set mG b.toNat x0) d.toNat x1)),(.cells [(zW t0 Zx mA)])])
theorem Zen {t0:Bool}{b c d:Int}{mG:List Int}{mA:List Zf}{x0 x1:Int}:∀(s3:Int) (r:Int),lp (Zay b c d mG (fun z0 z1=>ZA z0 z1 mA) x0 x1) s3=some r->lpW ctx 2 [0,1,4,12,13] [0,1,4,12,13] ZuO [(.sl 0 1),(zN b),(.fn 97 [(.ptr 1 0)]),(zN s3),(zN (w64 (c-1)))] [(zA (List.set (List.set mG b.toNat x0) d.toNat x1)),(.cells [(zW t0 Zx mA)])]=some ((Zb2 t0 b c d mG mA x0 x1) r):=
 lpT (Zb2 t0 b c d mG mA x0 x1) fun s3 _ ih=>yB (yG fun x4 hx4=>
  Ze (Zi rfl hx4) (yG fun x5 hx5=>
  Ze (Zi rfl hx5) (yC ZK fun x6 _=>
  yB (Zd (ih _))
  (Zk rfl))))
  (Zk rfl)
def Zb1 (t0:Bool) (b:Int) (d:Int) (mG:List Int) (mA:List Zf) (x0:Int) (x1:Int) (r7:Int):Int->Ex×List V×Zl
  | r=>(.exit 2,[(.sl 0 1),(zN b),(.fn 97 [(.ptr 1 0)]),(zN r7),(zN r)],[(zA (List.set (List.set mG b.toNat x0) d.toNat x1)),(.cells [(zW t0 Zx mA)])])
theorem Zei {t0:Bool}{b d:Int}{mG:List Int}{mA:List Zf}{x0 x1 r7:Int}:∀(s8:Int) (r:Int),lp (Zax b d mG (fun z0 z1=>ZA z0 z1 mA) x0 x1 r7) s8=some r->lpW ctx 2 [0,1,4,12,13] [0,1,4,12,13] Zt3 [(.sl 0 1),(zN b),(.fn 97 [(.ptr 1 0)]),(zN r7),(zN s8)] [(zA (List.set (List.set mG b.toNat x0) d.toNat x1)),(.cells [(zW t0 Zx mA)])]=some ((Zb1 t0 b d mG mA x0 x1 r7) r):=
 lpT (Zb1 t0 b d mG mA x0 x1 r7) fun s8 _ ih=>yB (yG fun x9 hx9=>
  Ze (Zi rfl hx9) (yG fun x10 hx10=>
  Ze (Zi rfl hx10) (yC ZK fun x11 _=>
  yB (Zk rfl)
  (Zd (ih _)))))
  (Zk rfl)
def Zb4 (t0:Bool) (b:Int) (mA:List Zf) (s19:Int×Int×(List Int)):Int->Ex×List V×Zl
  | r=>(.exit 6,[(.sl 0 1),(zN b),(.fn 97 [(.ptr 1 0)]),(zN r),(zN s19.2.1)],[(zA s19.2.2),(.cells [(zW t0 Zx mA)])])
theorem Zeh {t0:Bool}{b:Int}{mA:List Zf}{s19:Int×Int×(List Int)}:∀(s20:Int) (r:Int),lp (Zaz b (fun z0 z1=>ZA z0 z1 mA) s19) s20=some r->lpW ctx 2 [0,1,4,12,13] [0,1,4,12,13] ZtV [(.sl 0 1),(zN b),(.fn 97 [(.ptr 1 0)]),(zN s20),(zN s19.2.1)] [(zA s19.2.2),(.cells [(zW t0 Zx mA)])]=some ((Zb4 t0 b mA s19) r):=
 lpT (Zb4 t0 b mA s19) fun s20 _ ih=>yB (yG fun x21 hx21=>
  Ze (Zi rfl hx21) (yG fun x22 hx22=>
  Ze (Zi rfl hx22) (yC ZK fun x23 _=>
  yB (Zd (ih _))
  (Zk rfl))))
  (Zk rfl)
def Zb3 (t0:Bool) (b:Int) (mA:List Zf) (s19:Int×Int×(List Int)) (r24:Int):Int->Ex×List V×Zl
  | r=>(.exit 8,[(.sl 0 1),(zN b),(.fn 97 [(.ptr 1 0)]),(zN r24),(zN r)],[(zA s19.2.2),(.cells [(zW t0 Zx mA)])])
theorem Zeg {t0:Bool}{b:Int}{mA:List Zf}{s19:Int×Int×(List Int)}{r24:Int}:∀(s25:Int) (r:Int),lp (Zav b (fun z0 z1=>ZA z0 z1 mA) s19 r24) s25=some r->lpW ctx 2 [0,1,4,12,13] [0,1,4,12,13] ZuV [(.sl 0 1),(zN b),(.fn 97 [(.ptr 1 0)]),(zN r24),(zN s25)] [(zA s19.2.2),(.cells [(zW t0 Zx mA)])]=some ((Zb3 t0 b mA s19 r24) r):=
 lpT (Zb3 t0 b mA s19 r24) fun s25 _ ih=>yB (yG fun x26 hx26=>
  Ze (Zi rfl hx26) (yG fun x27 hx27=>
  Ze (Zi rfl hx27) (yC ZK fun x28 _=>
  yB (Zk rfl)
  (Zd (ih _)))))
  (Zk rfl)
def ZbZ (t0:Bool) (b:Int) (mA:List Zf):(Int×(List Int))->Ex×List V×Zl
  | r=>(.exit 4,[(.sl 0 1),(zN b),(zN r.1)],[(zA r.2),(.cells [(zW t0 Zx mA)])])
theorem Zek {t0:Bool}{b:Int}{mA:List Zf}:∀(s19:Int×Int×(List Int)) (r:(Int×(List Int))),lp (ZaW b (fun z0 z1=>ZA z0 z1 mA)) s19=some r->lpW ctx 2 [0,1,4,12,13] [0,1,13] Zut [(.sl 0 1),(zN b),(.fn 97 [(.ptr 1 0)]),(zN s19.1),(zN s19.2.1)] [(zA s19.2.2),(.cells [(zW t0 Zx mA)])]=some ((ZbZ t0 b mA) r):=
 lpT (ZbZ t0 b mA) fun s19 _ ih=>Zc _ (Zeh _) fun r24 _=>
  Zc _ (Zeg _) fun r29 _=>
  yB (Zk rfl)
  (yG fun x30 hx30=>
  Ze (Zi rfl hx30) (yG fun x31 hx31=>
  Ze (Zi rfl hx31) (Ze (Z3 rfl hx31) (Ze (Zi rfl hx31) (Zj (ZI Zm s19.2.2 r24.toNat x30) (yG fun x32 hx32=>
  Ze (Zi rfl hx32) (Zj (ZI Zm (List.set s19.2.2 r24.toNat x30) r29.toNat x31) (Zd (ih _)))))))))
theorem Zo {t0:Bool}{b c d:Int}{mG:List Int}{mA:List Zf}:∀r,(Zs b c d (fun z0 z1=>ZA z0 z1 mA) mG)=some r->evW ctx 152 [(.sl 0 1),(zN b),(zN c),(zN d),(.fn 97 [(.ptr 1 0)])] [(zA mG),(.cells [(zW t0 Zx mA)])]=some ((Zff t0 b c d mG mA) r):=
 evS Zx4 rfl rfl <| yG fun x0 hx0=>
  Ze (Zi rfl hx0) (yG fun x1 hx1=>
  Ze (Zi rfl hx1) (Ze (Z3 rfl hx1) (Ze (Zi rfl hx1) (Zj (ZI Zm mG b.toNat x0) (yG fun x2 hx2=>
  Ze (Zi rfl hx2) (Zj (ZI Zm (List.set mG b.toNat x0) d.toNat x1) (Zc _ (Zen _) fun r7 _=>
  Zc _ (Zei _) fun r12 _=>
  yB (yG fun x13 hx13=>
  Ze (Zi rfl hx13) (yG fun x14 hx14=>
  Ze (Zi rfl hx14) (Ze (Z3 rfl hx14) (Ze (Zi rfl hx14) (Zj (ZI Zm (List.set (List.set mG b.toNat x0) d.toNat x1) r12.toNat x13) (yG fun x15 hx15=>
  Ze (Zi rfl hx15) (Zj (ZI Zm (List.set (List.set (List.set mG b.toNat x0) d.toNat x1) r12.toNat x13) b.toNat x14) yR)))))))
  (yG fun x16 hx16=>
  Ze (Zi rfl hx16) (yG fun x17 hx17=>
  Ze (Zi rfl hx17) (Ze (Z3 rfl hx17) (Ze (Zi rfl hx17) (Zj (ZI Zm (List.set (List.set mG b.toNat x0) d.toNat x1) r7.toNat x16) (yG fun x18 hx18=>
  Ze (Zi rfl hx18) (Zj (ZI Zm (List.set (List.set (List.set mG b.toNat x0) d.toNat x1) r7.toNat x16) r12.toNat x17) (Zc _ (Zek _) fun r33 _=>
  yG fun x34 hx34=>
  Ze (Zi rfl hx34) (yG fun x35 hx35=>
  Ze (Zi rfl hx35) (Ze (Z3 rfl hx35) (Ze (Zi rfl hx35) (Zj (ZI Zm r33.2 r33.1.toNat x34) (yG fun x36 hx36=>
  Ze (Zi rfl hx36) (Zj (ZI Zm (List.set r33.2 r33.1.toNat x34) b.toNat x35) yR)))))))))))))))))))))
def Zd1 (t0:Bool) (b:Int) (c:Int) (d:Int) (mG:List Int) (mA:List Zf):(Int×(List Int))->V×Zl
  | r=>((zN r.1),[(zA r.2),(.cells [(zW t0 Zx mA)])])
def Zbz (t0:Bool) (b:Int) (mA:List Zf) (s3:Int×Int×(List Int)):Int->Ex×List V×Zl
  | r=>(.exit 2,[(.sl 0 1),(zN b),(.fn 97 [(.ptr 1 0)]),(zN r),(zN s3.2.1)],[(zA s3.2.2),(.cells [(zW t0 Zx mA)])])
theorem Zdm {t0:Bool}{b:Int}{mA:List Zf}{s3:Int×Int×(List Int)}:∀(s4:Int) (r:Int),lp (Zae b (fun z0 z1=>ZA z0 z1 mA) s3) s4=some r->lpW ctx 2 [0,1,4,11,12] [0,1,4,11,12] Zu0 [(.sl 0 1),(zN b),(.fn 97 [(.ptr 1 0)]),(zN s4),(zN s3.2.1)] [(zA s3.2.2),(.cells [(zW t0 Zx mA)])]=some ((Zbz t0 b mA s3) r):=
 lpT (Zbz t0 b mA s3) fun s4 _ ih=>yB (yG fun x5 hx5=>
  Ze (Zi rfl hx5) (yG fun x6 hx6=>
  Ze (Zi rfl hx6) (yC ZK fun x7 _=>
  yB (Zk rfl)
  (Zd (ih _)))))
  (Zk rfl)
def ZbA (t0:Bool) (b:Int) (mA:List Zf) (s3:Int×Int×(List Int)) (r8:Int):Int->Ex×List V×Zl
  | r=>(.exit 4,[(.sl 0 1),(zN b),(.fn 97 [(.ptr 1 0)]),(zN r8),(zN r)],[(zA s3.2.2),(.cells [(zW t0 Zx mA)])])
theorem Zdl {t0:Bool}{b:Int}{mA:List Zf}{s3:Int×Int×(List Int)}{r8:Int}:∀(s9:Int) (r:Int),lp (Zaf b (fun z0 z1=>ZA z0 z1 mA) s3 r8) s9=some r->lpW ctx 2 [0,1,4,11,12] [0,1,4,11,12] Zup [(.sl 0 1),(zN b),(.fn 97 [(.ptr 1 0)]),(zN r8),(zN s9)] [(zA s3.2.2),(.cells [(zW t0 Zx mA)])]=some ((ZbA t0 b mA s3 r8) r):=
 lpT (ZbA t0 b mA s3 r8) fun s9 _ ih=>yB (yG fun x10 hx10=>
  Ze (Zi rfl hx10) (yG fun x11 hx11=>
  Ze (Zi rfl hx11) (yC ZK fun x12 _=>
  yB (Zd (ih _))
  (Zk rfl))))
  (Zk rfl)
def Zbx (t0:Bool) (b:Int) (mA:List Zf):(Int×(List Int))->Ex×List V×Zl
  | r=>(.exit 0,[(zN r.1)],[(zA r.2),(.cells [(zW t0 Zx mA)])])
theorem Zdg {t0:Bool}{b:Int}{mA:List Zf}:∀(s3:Int×Int×(List Int)) (r:(Int×(List Int))),lp (Zaw b (fun z0 z1=>ZA z0 z1 mA)) s3=some r->lpW ctx 2 [0,1,4,11,12] [11] Zuz [(.sl 0 1),(zN b),(.fn 97 [(.ptr 1 0)]),(zN s3.1),(zN s3.2.1)] [(zA s3.2.2),(.cells [(zW t0 Zx mA)])]=some ((Zbx t0 b mA) r):=
 lpT (Zbx t0 b mA) fun s3 _ ih=>Zc _ (Zdm _) fun r8 _=>
  Zc _ (Zdl _) fun r13 _=>
  yB (Zk rfl)
  (yG fun x14 hx14=>
  Ze (Zi rfl hx14) (yG fun x15 hx15=>
  Ze (Zi rfl hx15) (Ze (Z3 rfl hx15) (Ze (Zi rfl hx15) (Zj (ZI Zm s3.2.2 r8.toNat x14) (yG fun x16 hx16=>
  Ze (Zi rfl hx16) (Zj (ZI Zm (List.set s3.2.2 r8.toNat x14) r13.toNat x15) (Zd (ih _)))))))))
theorem ZB {t0:Bool}{b c d:Int}{mG:List Int}{mA:List Zf}:∀r,(ZC b c d (fun z0 z1=>ZA z0 z1 mA) mG)=some r->evW ctx 151 [(.sl 0 1),(zN b),(zN c),(zN d),(.fn 97 [(.ptr 1 0)])] [(zA mG),(.cells [(zW t0 Zx mA)])]=some ((Zd1 t0 b c d mG mA) r):=
 evS Zx8 rfl rfl <| yG fun x0 hx0=>
  Ze (Zi rfl hx0) (yG fun x1 hx1=>
  Ze (Zi rfl hx1) (Ze (Z3 rfl hx1) (Ze (Zi rfl hx1) (Zj (ZI Zm mG b.toNat x0) (yG fun x2 hx2=>
  Ze (Zi rfl hx2) (Zj (ZI Zm (List.set mG b.toNat x0) d.toNat x1) (Zc _ (Zdg _) fun r17 _=>
  yR)))))))
def Zel (t0:Bool) (b:Int) (c:Int) (mG:List Int) (mA:List Zf):(List Int)->V×Zl
  | r=>((.d (D.tup [])),[(zA r),(.cells [(zW t0 Zx mA)])])
def ZbD (t0:Bool) (b:Int) (c:Int) (mA:List Zf) (x0:Int):(List Int)->Ex×List V×Zl
  | r=>(.exit 0,[],[(zA r),(.cells [(zW t0 Zx mA)])])
theorem Zdq {t0:Bool}{b c:Int}{mA:List Zf}{x0:Int}:∀(s1:Int×(List Int)×Int) (r:List Int),lp (ZaF b c x0) s1=some r->lpW ctx 2 [0,1,8,9,10,11] [] ZtN [(.sl 0 1),(zN b),(zN (w64 (c-b))),(.ptr 2 0),(.d (D.int .u64 x0)),(zN s1.1)] [(zA s1.2.1),(.cells [(zW t0 Zx mA)]),(.cells [(.d (D.int .u64 s1.2.2))])]=some ((ZbD t0 b c mA x0) r):=
 lpT (ZbD t0 b c mA x0) fun s1 _ ih=>yF (yB (Zc _ ZgL fun x2 _=>
  yB (yG fun x3 hx3=>
  Ze (Zi rfl hx3) (yG fun x4 hx4=>
  Ze (Zi rfl hx4) (Ze (Z3 rfl hx4) (Ze (Zi rfl hx4) (Zj (ZI Zm s1.2.1 s1.1.toNat x3) (yG fun x5 hx5=>
  Ze (Zi rfl hx5) (Zj (ZI Zm (List.set s1.2.1 s1.1.toNat x3) (w64 (b+(w64 ((w64 (u64.wrap (Zq (u64.wrap (Zq (u64.wrap (Zq (u64.wrap (Zq s1.2.2 ^^^ Zq (u64.wrap (s1.2.2*2 ^ 13))).toNat) ^^^ Zq (Int.fdiv (u64.wrap (Zq s1.2.2 ^^^ Zq (u64.wrap (s1.2.2*2 ^ 13))).toNat) (2 ^ 7))).toNat) ^^^ Zq (u64.wrap ((u64.wrap (Zq (u64.wrap (Zq s1.2.2 ^^^ Zq (u64.wrap (s1.2.2*2 ^ 13))).toNat) ^^^ Zq (Int.fdiv (u64.wrap (Zq s1.2.2 ^^^ Zq (u64.wrap (s1.2.2*2 ^ 13))).toNat) (2 ^ 7))).toNat)*2 ^ 17))).toNat) &&& Zq (u64.wrap (x0-1))).toNat))-(w64 (c-b)))))).toNat x4) (Zd (ih _)))))))))
  (yG fun x6 hx6=>
  Ze (Zi rfl hx6) (yG fun x7 hx7=>
  Ze (Zi rfl hx7) (Ze (Z3 rfl hx7) (Ze (Zi rfl hx7) (Zj (ZI Zm s1.2.1 s1.1.toNat x6) (yG fun x8 hx8=>
  Ze (Zi rfl hx8) (Zj (ZI Zm (List.set s1.2.1 s1.1.toNat x6) (w64 (b+(w64 (u64.wrap (Zq (u64.wrap (Zq (u64.wrap (Zq (u64.wrap (Zq s1.2.2 ^^^ Zq (u64.wrap (s1.2.2*2 ^ 13))).toNat) ^^^ Zq (Int.fdiv (u64.wrap (Zq s1.2.2 ^^^ Zq (u64.wrap (s1.2.2*2 ^ 13))).toNat) (2 ^ 7))).toNat) ^^^ Zq (u64.wrap ((u64.wrap (Zq (u64.wrap (Zq s1.2.2 ^^^ Zq (u64.wrap (s1.2.2*2 ^ 13))).toNat) ^^^ Zq (Int.fdiv (u64.wrap (Zq s1.2.2 ^^^ Zq (u64.wrap (s1.2.2*2 ^ 13))).toNat) (2 ^ 7))).toNat)*2 ^ 17))).toNat) &&& Zq (u64.wrap (x0-1))).toNat)))).toNat x7) (Zd (ih _))))))))))
  (Zk rfl))
theorem ZbM {t0:Bool}{b c:Int}{mG:List Int}{mA:List Zf}:∀r,(Zac b c (fun z0 z1=>ZA z0 z1 mA) mG)=some r->evW ctx 147 [(.sl 0 1),(zN b),(zN c),(.fn 97 [(.ptr 1 0)])] [(zA mG),(.cells [(zW t0 Zx mA)])]=some ((Zel t0 b c mG mA) r):=
 evS ZxX rfl rfl <| yB (yC Zgm fun x0 _=>
  yF (Zc _ (Zdq _) fun r9 _=>
  yR))
  yR
def Zb (t0:Bool) (b:Int) (c:Int) (d:Int) (mG:List Int) (mA:List Zf):(List Int)->V×Zl
  | r=>((.d (D.tup [])),[(zA r),(.cells [(zW t0 Zx mA)])])
def Zci (t0:Bool) (mA:List Zf) (rc:Int->Int->Int->(Int->Int->Option Int)->(List Int)->Option (List Int)):(List Int)->Ex×List V×Zl
  | r=>(.ret,[],[(zA r),(.cells [(zW t0 Zx mA)])])
theorem ZeW {t0:Bool}{mA:List Zf}{rc:Int->Int->Int->(Int->Int->Option Int)->(List Int)->Option (List Int)} (hrc:∀(t0:Bool) (b:Int) (c:Int) (d:Int) (mG:List Int) (mA:List Zf) (r:List Int),rc b c d (fun z0 z1=>ZA z0 z1 mA) mG=some r->evW ctx 122 [(.sl 0 1),(zN b),(zN c),(zN d),(.fn 97 [(.ptr 1 0)])] [(zA mG),(.cells [(zW t0 Zx mA)])]=some ((Zb t0 b c d mG mA) r)):∀(s0:Int×Int×Int×Bool×Bool×(List Int)) (r:List Int),lp (Zz (fun z0 z1=>ZA z0 z1 mA) rc) s0=some r->lpW ctx 2 [0,1,2,3,4,10,11] [] ZuM [(.sl 0 1),(zN s0.1),(zN s0.2.1),(zN s0.2.2.1),(.fn 97 [(.ptr 1 0)]),(.d (D.bool s0.2.2.2.1)),(.d (D.bool s0.2.2.2.2.1))] [(zA s0.2.2.2.2.2),(.cells [(zW t0 Zx mA)])]=some ((Zci t0 mA rc) r):=
 lpT (Zci t0 mA rc) fun s0 _ ih=>(by
 try unfold Zz
 rcases hb:s0.2.2.2.1 with _ | _
 exact Zpl (by
 try unfold Zz
 rcases hb:s0.2.2.2.2.1 with _ | _
 exact Zpl (yB (Zc _ Zai fun x170 _=>
  Zk rfl)
  (yB (Zc _ Zat fun x171 _=>
  Zk rfl)
  (Zc _ ZbM fun x172 _=>
  Zc _ Zam fun x173 _=>
  yB (Zc _ Zak fun x174 _=>
  yB (yG fun x175 hx175=>
  Ze (Zi rfl hx175) (yG fun x176 hx176=>
  Ze (Zi rfl hx176) (yC ZK fun x177 _=>
  yB ((by
 conv=>rhs;whnf
 refine Zc _ Zo fun x178 _=>?_
 rcases x178 with x178 | x178
 exact yT (yF (yB (yB (Zc (Zb t0 s0.1 x178.1 (w64 (s0.2.2.1-1)) x178.2 mA) (hrc t0 s0.1 x178.1 (w64 (s0.2.2.1-1)) x178.2 mA) fun x179 _=>
  Zd (ih _))
  (Zc (Zb t0 s0.1 x178.1 (w64 (s0.2.2.1-1)) x178.2 mA) (hrc t0 s0.1 x178.1 (w64 (s0.2.2.1-1)) x178.2 mA) fun x180 _=>
  Zd (ih _)))
  (yB (Zc (Zb t0 (w64 (x178.1+1)) s0.2.1 (w64 (s0.2.2.1-1)) x178.2 mA) (hrc t0 (w64 (x178.1+1)) s0.2.1 (w64 (s0.2.2.1-1)) x178.2 mA) fun x181 _=>
  Zd (ih _))
  (Zc (Zb t0 (w64 (x178.1+1)) s0.2.1 (w64 (s0.2.2.1-1)) x178.2 mA) (hrc t0 (w64 (x178.1+1)) s0.2.1 (w64 (s0.2.2.1-1)) x178.2 mA) fun x182 _=>
  Zd (ih _)))))
 exact yF (yF (yB (yB (Zc (Zb t0 s0.1 x178.1 (w64 (s0.2.2.1-1)) x178.2 mA) (hrc t0 s0.1 x178.1 (w64 (s0.2.2.1-1)) x178.2 mA) fun x183 _=>
  Zd (ih _))
  (Zc (Zb t0 s0.1 x178.1 (w64 (s0.2.2.1-1)) x178.2 mA) (hrc t0 s0.1 x178.1 (w64 (s0.2.2.1-1)) x178.2 mA) fun x184 _=>
  Zd (ih _)))
  (yB (Zc (Zb t0 (w64 (x178.1+1)) s0.2.1 (w64 (s0.2.2.1-1)) x178.2 mA) (hrc t0 (w64 (x178.1+1)) s0.2.1 (w64 (s0.2.2.1-1)) x178.2 mA) fun x185 _=>
  Zd (ih _))
  (Zc (Zb t0 (w64 (x178.1+1)) s0.2.1 (w64 (s0.2.2.1-1)) x178.2 mA) (hrc t0 (w64 (x178.1+1)) s0.2.1 (w64 (s0.2.2.1-1)) x178.2 mA) fun x186 _=>
  Zd (ih _)))))))
  (Zc _ ZB fun x187 _=>
  Zd (ih _)))))
  (by
 conv=>rhs;whnf
 refine Zc _ Zo fun x188 _=>?_
 rcases x188 with x188 | x188
 exact yT (yF (yB (yB (Zc (Zb t0 s0.1 x188.1 (w64 (s0.2.2.1-1)) x188.2 mA) (hrc t0 s0.1 x188.1 (w64 (s0.2.2.1-1)) x188.2 mA) fun x189 _=>
  Zd (ih _))
  (Zc (Zb t0 s0.1 x188.1 (w64 (s0.2.2.1-1)) x188.2 mA) (hrc t0 s0.1 x188.1 (w64 (s0.2.2.1-1)) x188.2 mA) fun x190 _=>
  Zd (ih _)))
  (yB (Zc (Zb t0 (w64 (x188.1+1)) s0.2.1 (w64 (s0.2.2.1-1)) x188.2 mA) (hrc t0 (w64 (x188.1+1)) s0.2.1 (w64 (s0.2.2.1-1)) x188.2 mA) fun x191 _=>
  Zd (ih _))
  (Zc (Zb t0 (w64 (x188.1+1)) s0.2.1 (w64 (s0.2.2.1-1)) x188.2 mA) (hrc t0 (w64 (x188.1+1)) s0.2.1 (w64 (s0.2.2.1-1)) x188.2 mA) fun x192 _=>
  Zd (ih _)))))
 exact yF (yF (yB (yB (Zc (Zb t0 s0.1 x188.1 (w64 (s0.2.2.1-1)) x188.2 mA) (hrc t0 s0.1 x188.1 (w64 (s0.2.2.1-1)) x188.2 mA) fun x193 _=>
  Zd (ih _))
  (Zc (Zb t0 s0.1 x188.1 (w64 (s0.2.2.1-1)) x188.2 mA) (hrc t0 s0.1 x188.1 (w64 (s0.2.2.1-1)) x188.2 mA) fun x194 _=>
  Zd (ih _)))
  (yB (Zc (Zb t0 (w64 (x188.1+1)) s0.2.1 (w64 (s0.2.2.1-1)) x188.2 mA) (hrc t0 (w64 (x188.1+1)) s0.2.1 (w64 (s0.2.2.1-1)) x188.2 mA) fun x195 _=>
  Zd (ih _))
  (Zc (Zb t0 (w64 (x188.1+1)) s0.2.1 (w64 (s0.2.2.1-1)) x188.2 mA) (hrc t0 (w64 (x188.1+1)) s0.2.1 (w64 (s0.2.2.1-1)) x188.2 mA) fun x196 _=>
  Zd (ih _)))))))
  (yB (yG fun x197 hx197=>
  Ze (Zi rfl hx197) (yG fun x198 hx198=>
  Ze (Zi rfl hx198) (yC ZK fun x199 _=>
  yB ((by
 conv=>rhs;whnf
 refine Zc _ Zo fun x200 _=>?_
 rcases x200 with x200 | x200
 exact yT (yF (yB (yB (Zc (Zb t0 s0.1 x200.1 (w64 (s0.2.2.1-1)) x200.2 mA) (hrc t0 s0.1 x200.1 (w64 (s0.2.2.1-1)) x200.2 mA) fun x201 _=>
  Zd (ih _))
  (Zc (Zb t0 s0.1 x200.1 (w64 (s0.2.2.1-1)) x200.2 mA) (hrc t0 s0.1 x200.1 (w64 (s0.2.2.1-1)) x200.2 mA) fun x202 _=>
  Zd (ih _)))
  (yB (Zc (Zb t0 (w64 (x200.1+1)) s0.2.1 (w64 (s0.2.2.1-1)) x200.2 mA) (hrc t0 (w64 (x200.1+1)) s0.2.1 (w64 (s0.2.2.1-1)) x200.2 mA) fun x203 _=>
  Zd (ih _))
  (Zc (Zb t0 (w64 (x200.1+1)) s0.2.1 (w64 (s0.2.2.1-1)) x200.2 mA) (hrc t0 (w64 (x200.1+1)) s0.2.1 (w64 (s0.2.2.1-1)) x200.2 mA) fun x204 _=>
  Zd (ih _)))))
 exact yF (yF (yB (yB (Zc (Zb t0 s0.1 x200.1 (w64 (s0.2.2.1-1)) x200.2 mA) (hrc t0 s0.1 x200.1 (w64 (s0.2.2.1-1)) x200.2 mA) fun x205 _=>
  Zd (ih _))
  (Zc (Zb t0 s0.1 x200.1 (w64 (s0.2.2.1-1)) x200.2 mA) (hrc t0 s0.1 x200.1 (w64 (s0.2.2.1-1)) x200.2 mA) fun x206 _=>
  Zd (ih _)))
  (yB (Zc (Zb t0 (w64 (x200.1+1)) s0.2.1 (w64 (s0.2.2.1-1)) x200.2 mA) (hrc t0 (w64 (x200.1+1)) s0.2.1 (w64 (s0.2.2.1-1)) x200.2 mA) fun x207 _=>
  Zd (ih _))
  (Zc (Zb t0 (w64 (x200.1+1)) s0.2.1 (w64 (s0.2.2.1-1)) x200.2 mA) (hrc t0 (w64 (x200.1+1)) s0.2.1 (w64 (s0.2.2.1-1)) x200.2 mA) fun x208 _=>
  Zd (ih _)))))))
  (Zc _ ZB fun x209 _=>
  Zd (ih _)))))
  (by
 conv=>rhs;whnf
 refine Zc _ Zo fun x210 _=>?_
 rcases x210 with x210 | x210
 exact yT (yF (yB (yB (Zc (Zb t0 s0.1 x210.1 (w64 (s0.2.2.1-1)) x210.2 mA) (hrc t0 s0.1 x210.1 (w64 (s0.2.2.1-1)) x210.2 mA) fun x211 _=>
  Zd (ih _))
  (Zc (Zb t0 s0.1 x210.1 (w64 (s0.2.2.1-1)) x210.2 mA) (hrc t0 s0.1 x210.1 (w64 (s0.2.2.1-1)) x210.2 mA) fun x212 _=>
  Zd (ih _)))
  (yB (Zc (Zb t0 (w64 (x210.1+1)) s0.2.1 (w64 (s0.2.2.1-1)) x210.2 mA) (hrc t0 (w64 (x210.1+1)) s0.2.1 (w64 (s0.2.2.1-1)) x210.2 mA) fun x213 _=>
  Zd (ih _))
  (Zc (Zb t0 (w64 (x210.1+1)) s0.2.1 (w64 (s0.2.2.1-1)) x210.2 mA) (hrc t0 (w64 (x210.1+1)) s0.2.1 (w64 (s0.2.2.1-1)) x210.2 mA) fun x214 _=>
  Zd (ih _)))))
 exact yF (yF (yB (yB (Zc (Zb t0 s0.1 x210.1 (w64 (s0.2.2.1-1)) x210.2 mA) (hrc t0 s0.1 x210.1 (w64 (s0.2.2.1-1)) x210.2 mA) fun x215 _=>
  Zd (ih _))
  (Zc (Zb t0 s0.1 x210.1 (w64 (s0.2.2.1-1)) x210.2 mA) (hrc t0 s0.1 x210.1 (w64 (s0.2.2.1-1)) x210.2 mA) fun x216 _=>
  Zd (ih _)))
  (yB (Zc (Zb t0 (w64 (x210.1+1)) s0.2.1 (w64 (s0.2.2.1-1)) x210.2 mA) (hrc t0 (w64 (x210.1+1)) s0.2.1 (w64 (s0.2.2.1-1)) x210.2 mA) fun x217 _=>
  Zd (ih _))
  (Zc (Zb t0 (w64 (x210.1+1)) s0.2.1 (w64 (s0.2.2.1-1)) x210.2 mA) (hrc t0 (w64 (x210.1+1)) s0.2.1 (w64 (s0.2.2.1-1)) x210.2 mA) fun x218 _=>
  Zd (ih _))))))))))
 exact ZoJ (yB (Zc _ Zai fun x121 _=>
  Zk rfl)
  (yB (Zc _ Zat fun x122 _=>
  Zk rfl)
  (Zc _ ZbM fun x123 _=>
  Zc _ Zam fun x124 _=>
  yB (Zc _ Zak fun x125 _=>
  yB (yG fun x126 hx126=>
  Ze (Zi rfl hx126) (yG fun x127 hx127=>
  Ze (Zi rfl hx127) (yC ZK fun x128 _=>
  yB ((by
 conv=>rhs;whnf
 refine Zc _ Zo fun x129 _=>?_
 rcases x129 with x129 | x129
 exact yT (yF (yB (yB (Zc (Zb t0 s0.1 x129.1 (w64 (s0.2.2.1-1)) x129.2 mA) (hrc t0 s0.1 x129.1 (w64 (s0.2.2.1-1)) x129.2 mA) fun x130 _=>
  Zd (ih _))
  (Zc (Zb t0 s0.1 x129.1 (w64 (s0.2.2.1-1)) x129.2 mA) (hrc t0 s0.1 x129.1 (w64 (s0.2.2.1-1)) x129.2 mA) fun x131 _=>
  Zd (ih _)))
  (yB (Zc (Zb t0 (w64 (x129.1+1)) s0.2.1 (w64 (s0.2.2.1-1)) x129.2 mA) (hrc t0 (w64 (x129.1+1)) s0.2.1 (w64 (s0.2.2.1-1)) x129.2 mA) fun x132 _=>
  Zd (ih _))
  (Zc (Zb t0 (w64 (x129.1+1)) s0.2.1 (w64 (s0.2.2.1-1)) x129.2 mA) (hrc t0 (w64 (x129.1+1)) s0.2.1 (w64 (s0.2.2.1-1)) x129.2 mA) fun x133 _=>
  Zd (ih _)))))
 exact yF (yF (yB (yB (Zc (Zb t0 s0.1 x129.1 (w64 (s0.2.2.1-1)) x129.2 mA) (hrc t0 s0.1 x129.1 (w64 (s0.2.2.1-1)) x129.2 mA) fun x134 _=>
  Zd (ih _))
  (Zc (Zb t0 s0.1 x129.1 (w64 (s0.2.2.1-1)) x129.2 mA) (hrc t0 s0.1 x129.1 (w64 (s0.2.2.1-1)) x129.2 mA) fun x135 _=>
  Zd (ih _)))
  (yB (Zc (Zb t0 (w64 (x129.1+1)) s0.2.1 (w64 (s0.2.2.1-1)) x129.2 mA) (hrc t0 (w64 (x129.1+1)) s0.2.1 (w64 (s0.2.2.1-1)) x129.2 mA) fun x136 _=>
  Zd (ih _))
  (Zc (Zb t0 (w64 (x129.1+1)) s0.2.1 (w64 (s0.2.2.1-1)) x129.2 mA) (hrc t0 (w64 (x129.1+1)) s0.2.1 (w64 (s0.2.2.1-1)) x129.2 mA) fun x137 _=>
  Zd (ih _)))))))
  (Zc _ ZB fun x138 _=>
  Zd (ih _)))))
  (by
 conv=>rhs;whnf
 refine Zc _ Zo fun x139 _=>?_
 rcases x139 with x139 | x139
 exact yT (yF (yB (yB (Zc (Zb t0 s0.1 x139.1 (w64 (s0.2.2.1-1)) x139.2 mA) (hrc t0 s0.1 x139.1 (w64 (s0.2.2.1-1)) x139.2 mA) fun x140 _=>
  Zd (ih _))
  (Zc (Zb t0 s0.1 x139.1 (w64 (s0.2.2.1-1)) x139.2 mA) (hrc t0 s0.1 x139.1 (w64 (s0.2.2.1-1)) x139.2 mA) fun x141 _=>
  Zd (ih _)))
  (yB (Zc (Zb t0 (w64 (x139.1+1)) s0.2.1 (w64 (s0.2.2.1-1)) x139.2 mA) (hrc t0 (w64 (x139.1+1)) s0.2.1 (w64 (s0.2.2.1-1)) x139.2 mA) fun x142 _=>
  Zd (ih _))
  (Zc (Zb t0 (w64 (x139.1+1)) s0.2.1 (w64 (s0.2.2.1-1)) x139.2 mA) (hrc t0 (w64 (x139.1+1)) s0.2.1 (w64 (s0.2.2.1-1)) x139.2 mA) fun x143 _=>
  Zd (ih _)))))
 exact yF (yF (yB (yB (Zc (Zb t0 s0.1 x139.1 (w64 (s0.2.2.1-1)) x139.2 mA) (hrc t0 s0.1 x139.1 (w64 (s0.2.2.1-1)) x139.2 mA) fun x144 _=>
  Zd (ih _))
  (Zc (Zb t0 s0.1 x139.1 (w64 (s0.2.2.1-1)) x139.2 mA) (hrc t0 s0.1 x139.1 (w64 (s0.2.2.1-1)) x139.2 mA) fun x145 _=>
  Zd (ih _)))
  (yB (Zc (Zb t0 (w64 (x139.1+1)) s0.2.1 (w64 (s0.2.2.1-1)) x139.2 mA) (hrc t0 (w64 (x139.1+1)) s0.2.1 (w64 (s0.2.2.1-1)) x139.2 mA) fun x146 _=>
  Zd (ih _))
  (Zc (Zb t0 (w64 (x139.1+1)) s0.2.1 (w64 (s0.2.2.1-1)) x139.2 mA) (hrc t0 (w64 (x139.1+1)) s0.2.1 (w64 (s0.2.2.1-1)) x139.2 mA) fun x147 _=>
  Zd (ih _)))))))
  (yB (yG fun x148 hx148=>
  Ze (Zi rfl hx148) (yG fun x149 hx149=>
  Ze (Zi rfl hx149) (yC ZK fun x150 _=>
  yB ((by
 conv=>rhs;whnf
 refine Zc _ Zo fun x151 _=>?_
 rcases x151 with x151 | x151
 exact yT (yF (yB (yB (Zc (Zb t0 s0.1 x151.1 (w64 (s0.2.2.1-1)) x151.2 mA) (hrc t0 s0.1 x151.1 (w64 (s0.2.2.1-1)) x151.2 mA) fun x152 _=>
  Zd (ih _))
  (Zc (Zb t0 s0.1 x151.1 (w64 (s0.2.2.1-1)) x151.2 mA) (hrc t0 s0.1 x151.1 (w64 (s0.2.2.1-1)) x151.2 mA) fun x153 _=>
  Zd (ih _)))
  (yB (Zc (Zb t0 (w64 (x151.1+1)) s0.2.1 (w64 (s0.2.2.1-1)) x151.2 mA) (hrc t0 (w64 (x151.1+1)) s0.2.1 (w64 (s0.2.2.1-1)) x151.2 mA) fun x154 _=>
  Zd (ih _))
  (Zc (Zb t0 (w64 (x151.1+1)) s0.2.1 (w64 (s0.2.2.1-1)) x151.2 mA) (hrc t0 (w64 (x151.1+1)) s0.2.1 (w64 (s0.2.2.1-1)) x151.2 mA) fun x155 _=>
  Zd (ih _)))))
 exact yF (yF (yB (yB (Zc (Zb t0 s0.1 x151.1 (w64 (s0.2.2.1-1)) x151.2 mA) (hrc t0 s0.1 x151.1 (w64 (s0.2.2.1-1)) x151.2 mA) fun x156 _=>
  Zd (ih _))
  (Zc (Zb t0 s0.1 x151.1 (w64 (s0.2.2.1-1)) x151.2 mA) (hrc t0 s0.1 x151.1 (w64 (s0.2.2.1-1)) x151.2 mA) fun x157 _=>
  Zd (ih _)))
  (yB (Zc (Zb t0 (w64 (x151.1+1)) s0.2.1 (w64 (s0.2.2.1-1)) x151.2 mA) (hrc t0 (w64 (x151.1+1)) s0.2.1 (w64 (s0.2.2.1-1)) x151.2 mA) fun x158 _=>
  Zd (ih _))
  (Zc (Zb t0 (w64 (x151.1+1)) s0.2.1 (w64 (s0.2.2.1-1)) x151.2 mA) (hrc t0 (w64 (x151.1+1)) s0.2.1 (w64 (s0.2.2.1-1)) x151.2 mA) fun x159 _=>
  Zd (ih _)))))))
  (Zc _ ZB fun x160 _=>
  Zd (ih _)))))
  (by
 conv=>rhs;whnf
 refine Zc _ Zo fun x161 _=>?_
 rcases x161 with x161 | x161
 exact yT (yF (yB (yB (Zc (Zb t0 s0.1 x161.1 (w64 (s0.2.2.1-1)) x161.2 mA) (hrc t0 s0.1 x161.1 (w64 (s0.2.2.1-1)) x161.2 mA) fun x162 _=>
  Zd (ih _))
  (Zc (Zb t0 s0.1 x161.1 (w64 (s0.2.2.1-1)) x161.2 mA) (hrc t0 s0.1 x161.1 (w64 (s0.2.2.1-1)) x161.2 mA) fun x163 _=>
  Zd (ih _)))
  (yB (Zc (Zb t0 (w64 (x161.1+1)) s0.2.1 (w64 (s0.2.2.1-1)) x161.2 mA) (hrc t0 (w64 (x161.1+1)) s0.2.1 (w64 (s0.2.2.1-1)) x161.2 mA) fun x164 _=>
  Zd (ih _))
  (Zc (Zb t0 (w64 (x161.1+1)) s0.2.1 (w64 (s0.2.2.1-1)) x161.2 mA) (hrc t0 (w64 (x161.1+1)) s0.2.1 (w64 (s0.2.2.1-1)) x161.2 mA) fun x165 _=>
  Zd (ih _)))))
 exact yF (yF (yB (yB (Zc (Zb t0 s0.1 x161.1 (w64 (s0.2.2.1-1)) x161.2 mA) (hrc t0 s0.1 x161.1 (w64 (s0.2.2.1-1)) x161.2 mA) fun x166 _=>
  Zd (ih _))
  (Zc (Zb t0 s0.1 x161.1 (w64 (s0.2.2.1-1)) x161.2 mA) (hrc t0 s0.1 x161.1 (w64 (s0.2.2.1-1)) x161.2 mA) fun x167 _=>
  Zd (ih _)))
  (yB (Zc (Zb t0 (w64 (x161.1+1)) s0.2.1 (w64 (s0.2.2.1-1)) x161.2 mA) (hrc t0 (w64 (x161.1+1)) s0.2.1 (w64 (s0.2.2.1-1)) x161.2 mA) fun x168 _=>
  Zd (ih _))
  (Zc (Zb t0 (w64 (x161.1+1)) s0.2.1 (w64 (s0.2.2.1-1)) x161.2 mA) (hrc t0 (w64 (x161.1+1)) s0.2.1 (w64 (s0.2.2.1-1)) x161.2 mA) fun x169 _=>
  Zd (ih _)))))))))))
 exact ZoJ (by
 try unfold Zz
 rcases hb:s0.2.2.2.2.1 with _ | _
 exact Zpl (yB (Zc _ Zai fun x73 _=>
  Zk rfl)
  (yB (Zc _ Zat fun x74 _=>
  Zk rfl)
  (Zc _ Zam fun x75 _=>
  yB (Zc _ Zak fun x76 _=>
  yB (yG fun x77 hx77=>
  Ze (Zi rfl hx77) (yG fun x78 hx78=>
  Ze (Zi rfl hx78) (yC ZK fun x79 _=>
  yB ((by
 conv=>rhs;whnf
 refine Zc _ Zo fun x80 _=>?_
 rcases x80 with x80 | x80
 exact yT (yF (yB (yB (Zc (Zb t0 s0.1 x80.1 s0.2.2.1 x80.2 mA) (hrc t0 s0.1 x80.1 s0.2.2.1 x80.2 mA) fun x81 _=>
  Zd (ih _))
  (Zc (Zb t0 s0.1 x80.1 s0.2.2.1 x80.2 mA) (hrc t0 s0.1 x80.1 s0.2.2.1 x80.2 mA) fun x82 _=>
  Zd (ih _)))
  (yB (Zc (Zb t0 (w64 (x80.1+1)) s0.2.1 s0.2.2.1 x80.2 mA) (hrc t0 (w64 (x80.1+1)) s0.2.1 s0.2.2.1 x80.2 mA) fun x83 _=>
  Zd (ih _))
  (Zc (Zb t0 (w64 (x80.1+1)) s0.2.1 s0.2.2.1 x80.2 mA) (hrc t0 (w64 (x80.1+1)) s0.2.1 s0.2.2.1 x80.2 mA) fun x84 _=>
  Zd (ih _)))))
 exact yF (yF (yB (yB (Zc (Zb t0 s0.1 x80.1 s0.2.2.1 x80.2 mA) (hrc t0 s0.1 x80.1 s0.2.2.1 x80.2 mA) fun x85 _=>
  Zd (ih _))
  (Zc (Zb t0 s0.1 x80.1 s0.2.2.1 x80.2 mA) (hrc t0 s0.1 x80.1 s0.2.2.1 x80.2 mA) fun x86 _=>
  Zd (ih _)))
  (yB (Zc (Zb t0 (w64 (x80.1+1)) s0.2.1 s0.2.2.1 x80.2 mA) (hrc t0 (w64 (x80.1+1)) s0.2.1 s0.2.2.1 x80.2 mA) fun x87 _=>
  Zd (ih _))
  (Zc (Zb t0 (w64 (x80.1+1)) s0.2.1 s0.2.2.1 x80.2 mA) (hrc t0 (w64 (x80.1+1)) s0.2.1 s0.2.2.1 x80.2 mA) fun x88 _=>
  Zd (ih _)))))))
  (Zc _ ZB fun x89 _=>
  Zd (ih _)))))
  (by
 conv=>rhs;whnf
 refine Zc _ Zo fun x90 _=>?_
 rcases x90 with x90 | x90
 exact yT (yF (yB (yB (Zc (Zb t0 s0.1 x90.1 s0.2.2.1 x90.2 mA) (hrc t0 s0.1 x90.1 s0.2.2.1 x90.2 mA) fun x91 _=>
  Zd (ih _))
  (Zc (Zb t0 s0.1 x90.1 s0.2.2.1 x90.2 mA) (hrc t0 s0.1 x90.1 s0.2.2.1 x90.2 mA) fun x92 _=>
  Zd (ih _)))
  (yB (Zc (Zb t0 (w64 (x90.1+1)) s0.2.1 s0.2.2.1 x90.2 mA) (hrc t0 (w64 (x90.1+1)) s0.2.1 s0.2.2.1 x90.2 mA) fun x93 _=>
  Zd (ih _))
  (Zc (Zb t0 (w64 (x90.1+1)) s0.2.1 s0.2.2.1 x90.2 mA) (hrc t0 (w64 (x90.1+1)) s0.2.1 s0.2.2.1 x90.2 mA) fun x94 _=>
  Zd (ih _)))))
 exact yF (yF (yB (yB (Zc (Zb t0 s0.1 x90.1 s0.2.2.1 x90.2 mA) (hrc t0 s0.1 x90.1 s0.2.2.1 x90.2 mA) fun x95 _=>
  Zd (ih _))
  (Zc (Zb t0 s0.1 x90.1 s0.2.2.1 x90.2 mA) (hrc t0 s0.1 x90.1 s0.2.2.1 x90.2 mA) fun x96 _=>
  Zd (ih _)))
  (yB (Zc (Zb t0 (w64 (x90.1+1)) s0.2.1 s0.2.2.1 x90.2 mA) (hrc t0 (w64 (x90.1+1)) s0.2.1 s0.2.2.1 x90.2 mA) fun x97 _=>
  Zd (ih _))
  (Zc (Zb t0 (w64 (x90.1+1)) s0.2.1 s0.2.2.1 x90.2 mA) (hrc t0 (w64 (x90.1+1)) s0.2.1 s0.2.2.1 x90.2 mA) fun x98 _=>
  Zd (ih _)))))))
  (yB (yG fun x99 hx99=>
  Ze (Zi rfl hx99) (yG fun x100 hx100=>
  Ze (Zi rfl hx100) (yC ZK fun x101 _=>
  yB ((by
 conv=>rhs;whnf
 refine Zc _ Zo fun x102 _=>?_
 rcases x102 with x102 | x102
 exact yT (yF (yB (yB (Zc (Zb t0 s0.1 x102.1 s0.2.2.1 x102.2 mA) (hrc t0 s0.1 x102.1 s0.2.2.1 x102.2 mA) fun x103 _=>
  Zd (ih _))
  (Zc (Zb t0 s0.1 x102.1 s0.2.2.1 x102.2 mA) (hrc t0 s0.1 x102.1 s0.2.2.1 x102.2 mA) fun x104 _=>
  Zd (ih _)))
  (yB (Zc (Zb t0 (w64 (x102.1+1)) s0.2.1 s0.2.2.1 x102.2 mA) (hrc t0 (w64 (x102.1+1)) s0.2.1 s0.2.2.1 x102.2 mA) fun x105 _=>
  Zd (ih _))
  (Zc (Zb t0 (w64 (x102.1+1)) s0.2.1 s0.2.2.1 x102.2 mA) (hrc t0 (w64 (x102.1+1)) s0.2.1 s0.2.2.1 x102.2 mA) fun x106 _=>
  Zd (ih _)))))
 exact yF (yF (yB (yB (Zc (Zb t0 s0.1 x102.1 s0.2.2.1 x102.2 mA) (hrc t0 s0.1 x102.1 s0.2.2.1 x102.2 mA) fun x107 _=>
  Zd (ih _))
  (Zc (Zb t0 s0.1 x102.1 s0.2.2.1 x102.2 mA) (hrc t0 s0.1 x102.1 s0.2.2.1 x102.2 mA) fun x108 _=>
  Zd (ih _)))
  (yB (Zc (Zb t0 (w64 (x102.1+1)) s0.2.1 s0.2.2.1 x102.2 mA) (hrc t0 (w64 (x102.1+1)) s0.2.1 s0.2.2.1 x102.2 mA) fun x109 _=>
  Zd (ih _))
  (Zc (Zb t0 (w64 (x102.1+1)) s0.2.1 s0.2.2.1 x102.2 mA) (hrc t0 (w64 (x102.1+1)) s0.2.1 s0.2.2.1 x102.2 mA) fun x110 _=>
  Zd (ih _)))))))
  (Zc _ ZB fun x111 _=>
  Zd (ih _)))))
  (by
 conv=>rhs;whnf
 refine Zc _ Zo fun x112 _=>?_
 rcases x112 with x112 | x112
 exact yT (yF (yB (yB (Zc (Zb t0 s0.1 x112.1 s0.2.2.1 x112.2 mA) (hrc t0 s0.1 x112.1 s0.2.2.1 x112.2 mA) fun x113 _=>
  Zd (ih _))
  (Zc (Zb t0 s0.1 x112.1 s0.2.2.1 x112.2 mA) (hrc t0 s0.1 x112.1 s0.2.2.1 x112.2 mA) fun x114 _=>
  Zd (ih _)))
  (yB (Zc (Zb t0 (w64 (x112.1+1)) s0.2.1 s0.2.2.1 x112.2 mA) (hrc t0 (w64 (x112.1+1)) s0.2.1 s0.2.2.1 x112.2 mA) fun x115 _=>
  Zd (ih _))
  (Zc (Zb t0 (w64 (x112.1+1)) s0.2.1 s0.2.2.1 x112.2 mA) (hrc t0 (w64 (x112.1+1)) s0.2.1 s0.2.2.1 x112.2 mA) fun x116 _=>
  Zd (ih _)))))
 exact yF (yF (yB (yB (Zc (Zb t0 s0.1 x112.1 s0.2.2.1 x112.2 mA) (hrc t0 s0.1 x112.1 s0.2.2.1 x112.2 mA) fun x117 _=>
  Zd (ih _))
  (Zc (Zb t0 s0.1 x112.1 s0.2.2.1 x112.2 mA) (hrc t0 s0.1 x112.1 s0.2.2.1 x112.2 mA) fun x118 _=>
  Zd (ih _)))
  (yB (Zc (Zb t0 (w64 (x112.1+1)) s0.2.1 s0.2.2.1 x112.2 mA) (hrc t0 (w64 (x112.1+1)) s0.2.1 s0.2.2.1 x112.2 mA) fun x119 _=>
  Zd (ih _))
  (Zc (Zb t0 (w64 (x112.1+1)) s0.2.1 s0.2.2.1 x112.2 mA) (hrc t0 (w64 (x112.1+1)) s0.2.1 s0.2.2.1 x112.2 mA) fun x120 _=>
  Zd (ih _))))))))))
 exact ZoJ (yB (Zc _ Zai fun x1 _=>
  Zk rfl)
  (yB (Zc _ Zat fun x2 _=>
  Zk rfl)
  (Zc _ Zam fun x3 _=>
  yB (Zc _ Zak fun x4 _=>
  yT (by
 conv=>rhs;whnf
 refine Zc _ Zbh fun x5 _=>?_
 rcases x5 with x5 | x5
 exact Zk rfl
 exact yB (yG fun x6 hx6=>
  Ze (Zi rfl hx6) (yG fun x7 hx7=>
  Ze (Zi rfl hx7) (yC ZK fun x8 _=>
  yB ((by
 conv=>rhs;whnf
 refine Zc _ Zo fun x9 _=>?_
 rcases x9 with x9 | x9
 exact yT (yF (yB (yB (Zc (Zb t0 s0.1 x9.1 s0.2.2.1 x9.2 mA) (hrc t0 s0.1 x9.1 s0.2.2.1 x9.2 mA) fun x10 _=>
  Zd (ih _))
  (Zc (Zb t0 s0.1 x9.1 s0.2.2.1 x9.2 mA) (hrc t0 s0.1 x9.1 s0.2.2.1 x9.2 mA) fun x11 _=>
  Zd (ih _)))
  (yB (Zc (Zb t0 (w64 (x9.1+1)) s0.2.1 s0.2.2.1 x9.2 mA) (hrc t0 (w64 (x9.1+1)) s0.2.1 s0.2.2.1 x9.2 mA) fun x12 _=>
  Zd (ih _))
  (Zc (Zb t0 (w64 (x9.1+1)) s0.2.1 s0.2.2.1 x9.2 mA) (hrc t0 (w64 (x9.1+1)) s0.2.1 s0.2.2.1 x9.2 mA) fun x13 _=>
  Zd (ih _)))))
 exact yF (yF (yB (yB (Zc (Zb t0 s0.1 x9.1 s0.2.2.1 x9.2 mA) (hrc t0 s0.1 x9.1 s0.2.2.1 x9.2 mA) fun x14 _=>
  Zd (ih _))
  (Zc (Zb t0 s0.1 x9.1 s0.2.2.1 x9.2 mA) (hrc t0 s0.1 x9.1 s0.2.2.1 x9.2 mA) fun x15 _=>
  Zd (ih _)))
  (yB (Zc (Zb t0 (w64 (x9.1+1)) s0.2.1 s0.2.2.1 x9.2 mA) (hrc t0 (w64 (x9.1+1)) s0.2.1 s0.2.2.1 x9.2 mA) fun x16 _=>
  Zd (ih _))
  (Zc (Zb t0 (w64 (x9.1+1)) s0.2.1 s0.2.2.1 x9.2 mA) (hrc t0 (w64 (x9.1+1)) s0.2.1 s0.2.2.1 x9.2 mA) fun x17 _=>
  Zd (ih _)))))))
  (Zc _ ZB fun x18 _=>
  Zd (ih _)))))
  (by
 conv=>rhs;whnf
 refine Zc _ Zo fun x19 _=>?_
 rcases x19 with x19 | x19
 exact yT (yF (yB (yB (Zc (Zb t0 s0.1 x19.1 s0.2.2.1 x19.2 mA) (hrc t0 s0.1 x19.1 s0.2.2.1 x19.2 mA) fun x20 _=>
  Zd (ih _))
  (Zc (Zb t0 s0.1 x19.1 s0.2.2.1 x19.2 mA) (hrc t0 s0.1 x19.1 s0.2.2.1 x19.2 mA) fun x21 _=>
  Zd (ih _)))
  (yB (Zc (Zb t0 (w64 (x19.1+1)) s0.2.1 s0.2.2.1 x19.2 mA) (hrc t0 (w64 (x19.1+1)) s0.2.1 s0.2.2.1 x19.2 mA) fun x22 _=>
  Zd (ih _))
  (Zc (Zb t0 (w64 (x19.1+1)) s0.2.1 s0.2.2.1 x19.2 mA) (hrc t0 (w64 (x19.1+1)) s0.2.1 s0.2.2.1 x19.2 mA) fun x23 _=>
  Zd (ih _)))))
 exact yF (yF (yB (yB (Zc (Zb t0 s0.1 x19.1 s0.2.2.1 x19.2 mA) (hrc t0 s0.1 x19.1 s0.2.2.1 x19.2 mA) fun x24 _=>
  Zd (ih _))
  (Zc (Zb t0 s0.1 x19.1 s0.2.2.1 x19.2 mA) (hrc t0 s0.1 x19.1 s0.2.2.1 x19.2 mA) fun x25 _=>
  Zd (ih _)))
  (yB (Zc (Zb t0 (w64 (x19.1+1)) s0.2.1 s0.2.2.1 x19.2 mA) (hrc t0 (w64 (x19.1+1)) s0.2.1 s0.2.2.1 x19.2 mA) fun x26 _=>
  Zd (ih _))
  (Zc (Zb t0 (w64 (x19.1+1)) s0.2.1 s0.2.2.1 x19.2 mA) (hrc t0 (w64 (x19.1+1)) s0.2.1 s0.2.2.1 x19.2 mA) fun x27 _=>
  Zd (ih _))))))))
  (yB ((by
 conv=>rhs;whnf
 refine Zc _ Zbh fun x28 _=>?_
 rcases x28 with x28 | x28
 exact Zk rfl
 exact yB (yG fun x29 hx29=>
  Ze (Zi rfl hx29) (yG fun x30 hx30=>
  Ze (Zi rfl hx30) (yC ZK fun x31 _=>
  yB ((by
 conv=>rhs;whnf
 refine Zc _ Zo fun x32 _=>?_
 rcases x32 with x32 | x32
 exact yT (yF (yB (yB (Zc (Zb t0 s0.1 x32.1 s0.2.2.1 x32.2 mA) (hrc t0 s0.1 x32.1 s0.2.2.1 x32.2 mA) fun x33 _=>
  Zd (ih _))
  (Zc (Zb t0 s0.1 x32.1 s0.2.2.1 x32.2 mA) (hrc t0 s0.1 x32.1 s0.2.2.1 x32.2 mA) fun x34 _=>
  Zd (ih _)))
  (yB (Zc (Zb t0 (w64 (x32.1+1)) s0.2.1 s0.2.2.1 x32.2 mA) (hrc t0 (w64 (x32.1+1)) s0.2.1 s0.2.2.1 x32.2 mA) fun x35 _=>
  Zd (ih _))
  (Zc (Zb t0 (w64 (x32.1+1)) s0.2.1 s0.2.2.1 x32.2 mA) (hrc t0 (w64 (x32.1+1)) s0.2.1 s0.2.2.1 x32.2 mA) fun x36 _=>
  Zd (ih _)))))
 exact yF (yF (yB (yB (Zc (Zb t0 s0.1 x32.1 s0.2.2.1 x32.2 mA) (hrc t0 s0.1 x32.1 s0.2.2.1 x32.2 mA) fun x37 _=>
  Zd (ih _))
  (Zc (Zb t0 s0.1 x32.1 s0.2.2.1 x32.2 mA) (hrc t0 s0.1 x32.1 s0.2.2.1 x32.2 mA) fun x38 _=>
  Zd (ih _)))
  (yB (Zc (Zb t0 (w64 (x32.1+1)) s0.2.1 s0.2.2.1 x32.2 mA) (hrc t0 (w64 (x32.1+1)) s0.2.1 s0.2.2.1 x32.2 mA) fun x39 _=>
  Zd (ih _))
  (Zc (Zb t0 (w64 (x32.1+1)) s0.2.1 s0.2.2.1 x32.2 mA) (hrc t0 (w64 (x32.1+1)) s0.2.1 s0.2.2.1 x32.2 mA) fun x40 _=>
  Zd (ih _)))))))
  (Zc _ ZB fun x41 _=>
  Zd (ih _)))))
  (by
 conv=>rhs;whnf
 refine Zc _ Zo fun x42 _=>?_
 rcases x42 with x42 | x42
 exact yT (yF (yB (yB (Zc (Zb t0 s0.1 x42.1 s0.2.2.1 x42.2 mA) (hrc t0 s0.1 x42.1 s0.2.2.1 x42.2 mA) fun x43 _=>
  Zd (ih _))
  (Zc (Zb t0 s0.1 x42.1 s0.2.2.1 x42.2 mA) (hrc t0 s0.1 x42.1 s0.2.2.1 x42.2 mA) fun x44 _=>
  Zd (ih _)))
  (yB (Zc (Zb t0 (w64 (x42.1+1)) s0.2.1 s0.2.2.1 x42.2 mA) (hrc t0 (w64 (x42.1+1)) s0.2.1 s0.2.2.1 x42.2 mA) fun x45 _=>
  Zd (ih _))
  (Zc (Zb t0 (w64 (x42.1+1)) s0.2.1 s0.2.2.1 x42.2 mA) (hrc t0 (w64 (x42.1+1)) s0.2.1 s0.2.2.1 x42.2 mA) fun x46 _=>
  Zd (ih _)))))
 exact yF (yF (yB (yB (Zc (Zb t0 s0.1 x42.1 s0.2.2.1 x42.2 mA) (hrc t0 s0.1 x42.1 s0.2.2.1 x42.2 mA) fun x47 _=>
  Zd (ih _))
  (Zc (Zb t0 s0.1 x42.1 s0.2.2.1 x42.2 mA) (hrc t0 s0.1 x42.1 s0.2.2.1 x42.2 mA) fun x48 _=>
  Zd (ih _)))
  (yB (Zc (Zb t0 (w64 (x42.1+1)) s0.2.1 s0.2.2.1 x42.2 mA) (hrc t0 (w64 (x42.1+1)) s0.2.1 s0.2.2.1 x42.2 mA) fun x49 _=>
  Zd (ih _))
  (Zc (Zb t0 (w64 (x42.1+1)) s0.2.1 s0.2.2.1 x42.2 mA) (hrc t0 (w64 (x42.1+1)) s0.2.1 s0.2.2.1 x42.2 mA) fun x50 _=>
  Zd (ih _))))))))
  (yB (yG fun x51 hx51=>
  Ze (Zi rfl hx51) (yG fun x52 hx52=>
  Ze (Zi rfl hx52) (yC ZK fun x53 _=>
  yB ((by
 conv=>rhs;whnf
 refine Zc _ Zo fun x54 _=>?_
 rcases x54 with x54 | x54
 exact yT (yF (yB (yB (Zc (Zb t0 s0.1 x54.1 s0.2.2.1 x54.2 mA) (hrc t0 s0.1 x54.1 s0.2.2.1 x54.2 mA) fun x55 _=>
  Zd (ih _))
  (Zc (Zb t0 s0.1 x54.1 s0.2.2.1 x54.2 mA) (hrc t0 s0.1 x54.1 s0.2.2.1 x54.2 mA) fun x56 _=>
  Zd (ih _)))
  (yB (Zc (Zb t0 (w64 (x54.1+1)) s0.2.1 s0.2.2.1 x54.2 mA) (hrc t0 (w64 (x54.1+1)) s0.2.1 s0.2.2.1 x54.2 mA) fun x57 _=>
  Zd (ih _))
  (Zc (Zb t0 (w64 (x54.1+1)) s0.2.1 s0.2.2.1 x54.2 mA) (hrc t0 (w64 (x54.1+1)) s0.2.1 s0.2.2.1 x54.2 mA) fun x58 _=>
  Zd (ih _)))))
 exact yF (yF (yB (yB (Zc (Zb t0 s0.1 x54.1 s0.2.2.1 x54.2 mA) (hrc t0 s0.1 x54.1 s0.2.2.1 x54.2 mA) fun x59 _=>
  Zd (ih _))
  (Zc (Zb t0 s0.1 x54.1 s0.2.2.1 x54.2 mA) (hrc t0 s0.1 x54.1 s0.2.2.1 x54.2 mA) fun x60 _=>
  Zd (ih _)))
  (yB (Zc (Zb t0 (w64 (x54.1+1)) s0.2.1 s0.2.2.1 x54.2 mA) (hrc t0 (w64 (x54.1+1)) s0.2.1 s0.2.2.1 x54.2 mA) fun x61 _=>
  Zd (ih _))
  (Zc (Zb t0 (w64 (x54.1+1)) s0.2.1 s0.2.2.1 x54.2 mA) (hrc t0 (w64 (x54.1+1)) s0.2.1 s0.2.2.1 x54.2 mA) fun x62 _=>
  Zd (ih _)))))))
  (Zc _ ZB fun x63 _=>
  Zd (ih _)))))
  (by
 conv=>rhs;whnf
 refine Zc _ Zo fun x64 _=>?_
 rcases x64 with x64 | x64
 exact yT (yF (yB (yB (Zc (Zb t0 s0.1 x64.1 s0.2.2.1 x64.2 mA) (hrc t0 s0.1 x64.1 s0.2.2.1 x64.2 mA) fun x65 _=>
  Zd (ih _))
  (Zc (Zb t0 s0.1 x64.1 s0.2.2.1 x64.2 mA) (hrc t0 s0.1 x64.1 s0.2.2.1 x64.2 mA) fun x66 _=>
  Zd (ih _)))
  (yB (Zc (Zb t0 (w64 (x64.1+1)) s0.2.1 s0.2.2.1 x64.2 mA) (hrc t0 (w64 (x64.1+1)) s0.2.1 s0.2.2.1 x64.2 mA) fun x67 _=>
  Zd (ih _))
  (Zc (Zb t0 (w64 (x64.1+1)) s0.2.1 s0.2.2.1 x64.2 mA) (hrc t0 (w64 (x64.1+1)) s0.2.1 s0.2.2.1 x64.2 mA) fun x68 _=>
  Zd (ih _)))))
 exact yF (yF (yB (yB (Zc (Zb t0 s0.1 x64.1 s0.2.2.1 x64.2 mA) (hrc t0 s0.1 x64.1 s0.2.2.1 x64.2 mA) fun x69 _=>
  Zd (ih _))
  (Zc (Zb t0 s0.1 x64.1 s0.2.2.1 x64.2 mA) (hrc t0 s0.1 x64.1 s0.2.2.1 x64.2 mA) fun x70 _=>
  Zd (ih _)))
  (yB (Zc (Zb t0 (w64 (x64.1+1)) s0.2.1 s0.2.2.1 x64.2 mA) (hrc t0 (w64 (x64.1+1)) s0.2.1 s0.2.2.1 x64.2 mA) fun x71 _=>
  Zd (ih _))
  (Zc (Zb t0 (w64 (x64.1+1)) s0.2.1 s0.2.2.1 x64.2 mA) (hrc t0 (w64 (x64.1+1)) s0.2.1 s0.2.2.1 x64.2 mA) fun x72 _=>
  Zd (ih _)))))))))))))
theorem Zfb (rc:Int->Int->Int->(Int->Int->Option Int)->(List Int)->Option (List Int)) (hrc:∀(t0:Bool) (b:Int) (c:Int) (d:Int) (mG:List Int) (mA:List Zf) (r:List Int),rc b c d (fun z0 z1=>ZA z0 z1 mA) mG=some r->evW ctx 122 [(.sl 0 1),(zN b),(zN c),(zN d),(.fn 97 [(.ptr 1 0)])] [(zA mG),(.cells [(zW t0 Zx mA)])]=some ((Zb t0 b c d mG mA) r)) (t0:Bool) (b:Int) (c:Int) (d:Int) (mG:List Int) (mA:List Zf):∀r,(Zas rc b c d (fun z0 z1=>ZA z0 z1 mA) mG)=some r->evW ctx 122 [(.sl 0 1),(zN b),(zN c),(zN d),(.fn 97 [(.ptr 1 0)])] [(zA mG),(.cells [(zW t0 Zx mA)])]=some ((Zb t0 b c d mG mA) r):=
 evS ZxB rfl rfl <| Zc _ (ZeW hrc _) fun r219 _=>
  yR
theorem Zce:∀(n:Nat) (t0:Bool) (b:Int) (c:Int) (d:Int) (mG:List Int) (mA:List Zf) (r:List Int),ZP n b c d (fun z0 z1=>ZA z0 z1 mA) mG=some r->evW ctx 122 [(.sl 0 1),(zN b),(zN c),(zN d),(.fn 97 [(.ptr 1 0)])] [(zA mG),(.cells [(zW t0 Zx mA)])]=some ((Zb t0 b c d mG mA) r)
  | 0,t0,b,c,d,mG,mA,r,h=>by cases h
  | n+1,t0,b,c,d,mG,mA,r,h=>Zfb (ZP n) (Zce n) t0 b c d mG mA r h
theorem Zfm {t0:Bool}{b c d:Int}{mG:List Int}{mA:List Zf}:∀r,Zct b c d (fun z0 z1=>ZA z0 z1 mA) mG=some r->evW ctx 122 [(.sl 0 1),(zN b),(zN c),(zN d),(.fn 97 [(.ptr 1 0)])] [(zA mG),(.cells [(zW t0 Zx mA)])]=some ((Zb t0 b c d mG mA) r):=fun r h=>by
  obtain⟨n,hn⟩:=Zyi h
  exact Zce n t0 b c d mG mA r hn
def ZfF (t0:Bool) (mG:List Int) (mA:List Zf):(List Int)->V×Zl
  | r=>((.d (D.tup [])),[(zA r),(.cells [(zW t0 Zx mA)])])
theorem Zfp {t0:Bool}{mG:List Int}{mA:List Zf}:∀r,(Zao (fun z0 z1=>ZA z0 z1 mA) mG)=some r->evW ctx 96 [(.sl 0 1),(.fn 97 [(.ptr 1 0)])] [(zA mG),(.cells [(zW t0 Zx mA)])]=some ((ZfF t0 mG mA) r):=
 evS ZCQ rfl rfl <| Zj (ZG _ _) (yC Zg7 fun x0 _=>
  Zc _ Zfm fun x1 _=>
  yR)
def ZqJ (r:List Int):D:=(zL true r)
def Zj3 (t0:Bool) (a:List Zf):(List Int)->Ex×List V×Zl
  | r=>(.exit 0,[(.ptr 0 0),(.sl 1 1)],[(.cells [(zW t0 Zx a)]),(zA r)])
theorem ZmZ {t0:Bool}{a:List Zf}:∀(s0:Int×(List Int)) (r:List Int),lp (ZeG a) s0=some r->lpW ctx 0 [1,3,6,7] [1,3] ZBh [(.ptr 0 0),(.sl 1 1),(zN (a.length:Int)),(zN s0.1)] [(.cells [(zW t0 Zx a)]),(zA s0.2)]=some ((Zj3 t0 a) r):=
 lpT (Zj3 t0 a) fun s0 _ ih=>yB (yT (Zc2 (Zg1 Zm s0.2 1) (Zj (Zg0 Zm s0.2 [s0.1]) (Zd (ih _)))
  Zbr))
  (Zk rfl)
theorem Zqd {t0:Bool}{a:List Zf}:∀r,(ZfS a)=some r->evD ctx 66 [(zW t0 Zx a)]=some (ZqJ r):=
 evT ZEX rfl rfl <| Zj (ZG _ _) (Zc _ (ZmZ _) fun r1 _=>
  Zc _ Zfp fun x2 _=>
  yR)
def Zv5 (r:List Zf):D:=(zM true Zx r)
def ZlW (t0:Bool) (t1:Bool) (a:List Zf) (b:List Int) (c:Int):(List Zf)->Ex×List V×Zl
  | r=>(.exit 0,[(.sl 0 5)],[(.arr 5 (List.map Zx r))])
theorem ZpY {t0 t1:Bool}{a:List Zf}{b:List Int}{c:Int}:∀(s0:Int×(List Zf)) (r:List Zf),lp (ZfL a b c) s0=some r->lpW ctx 0 [1,2,7,10,11,12] [7] ZAa [(zV t1 b),(zN c),(.sl 0 5),(zW t0 Zx a),(zN (a.length:Int)),(zN s0.1)] [(.arr 5 (List.map Zx s0.2))]=some ((ZlW t0 t1 a b c) r):=
 lpT (ZlW t0 t1 a b c) fun s0 _ ih=>yB (yG fun x1 _=>
  Zj (ZG _ _) (yB (yG fun x2 _=>
  yB (yT (Zc2 (Zg1 Zx s0.2 1) (Zj (Zg0 Zx s0.2 [x1]) (Zd (ih _)))
  Zbr))
  (Zd (ih _)))
  (Zd (ih _))))
  (Zk rfl)
theorem Zuq {t0 t1:Bool}{a:List Zf}{b:List Int}{c:Int}:∀r,(Zmx a b c)=some r->evD ctx 68 [(zW t0 Zx a),(zV t1 b),(zN c)]=some (Zv5 r):=
 evT ZEh rfl rfl <| Zj (ZG _ _) (Zc _ (ZpY _) fun r3 _=>
  yR)
def Zn2 (r:Int):D:=(Zm r)
theorem Zm3 {a:Int}{b:Zf}:∀r,(Zdd a b)=some r->evD ctx 101 [(zN a),(.d (zK2 b.total b.long b.most b.deadline b.period))]=some (Zn2 r):=
 evT ZAo rfl rfl <| yR
def ZiS (r:Int):D:=(Zm r)
def ZfA (t0:Bool) (a:List Zf):Int->Ex×List V×Zl
  | r=>(.exit 0,[(zN r)],[])
theorem ZhC {t0:Bool}{a:List Zf}:∀(s0:Int×Int) (r:Int),lp (ZdH a (fun z0 z1=>Zdd z0 z1)) s0=some r->lpW ctx 0 [1,5,8,9,10] [5] Zua [(.d (D.fn 101 [])),(zN s0.1),(zW t0 Zx a),(zN (a.length:Int)),(zN s0.2)] []=some ((ZfA t0 a) r):=
 lpT (ZfA t0 a) fun s0 _ ih=>yB (yG fun x1 _=>
  yC Zm3 fun x2 _=>
  Zd (ih _))
  (Zk rfl)
theorem Zik {t0:Bool}{a:List Zf}:∀r,(Zgv a (fun z0 z1=>Zdd z0 z1))=some r->evD ctx 91 [(zW t0 Zx a),(.d (D.fn 101 []))]=some (ZiS r):=
 evT ZA5 rfl rfl <| Zj (ZG _ _) (Zc _ (ZhC _) fun r3 _=>
  yR)
def ZpV (r:Int):D:=(Zm r)
theorem ZoH {t0:Bool}{a:List Zf}:∀r,(Zh2 a)=some r->evD ctx 77 [(zW t0 Zx a)]=some (ZpV r):=
 evT ZEf rfl rfl <| yC Zi1 fun x0 _=>
  yBr (yC Zik fun x1 _=>
  yR)
def Zpx (r:Int):D:=(Zm r)
theorem ZnC {a:Int}{b:Zf}{c0:Int}:∀r,(ZdZ a b c0)=some r->evD ctx 92 [(zN a),(.d (zK2 b.total b.long b.most b.deadline b.period)),(.d (D.rptr [(Zm c0)]))]=some (Zpx r):=
 evT ZEe rfl rfl <| yBr (yBn yR)
def Zjp (r:Int):D:=(Zm r)
def ZfI (t0:Bool) (a:List Zf) (b0:Int):Int->Ex×List V×Zl
  | r=>(.exit 0,[(zN r)],[])
theorem ZhK {t0:Bool}{a:List Zf}{b0:Int}:∀(s0:Int×Int) (r:Int),lp (ZdH a (fun z0 z1=>ZdZ z0 z1 b0)) s0=some r->lpW ctx 0 [1,5,8,9,10] [5] Zua [(.d (D.fn 92 [(D.rptr [(Zm b0)])])),(zN s0.1),(zW t0 Zx a),(zN (a.length:Int)),(zN s0.2)] []=some ((ZfI t0 a b0) r):=
 lpT (ZfI t0 a b0) fun s0 _ ih=>yB (yG fun x1 _=>
  yC ZnC fun x2 _=>
  Zd (ih _))
  (Zk rfl)
theorem ZiL {t0:Bool}{a:List Zf}{b0:Int}:∀r,(Zgv a (fun z0 z1=>ZdZ z0 z1 b0))=some r->evD ctx 91 [(zW t0 Zx a),(.d (D.fn 92 [(D.rptr [(Zm b0)])]))]=some (Zjp r):=
 evT ZA5 rfl rfl <| Zj (ZG _ _) (Zc _ (ZhK _) fun r3 _=>
  yR)
def Zrz (r:Int):D:=(Zm r)
theorem Zqf {t0:Bool}{a:List Zf}{b:Int}:∀r,(ZiG a b)=some r->evD ctx 62 [(zW t0 Zx a),(zN b)]=some (Zrz r):=
 evT ZEG rfl rfl <| yC ZiL fun x0 _=>
  yR
def Zp6 (r:Int):D:=(Zm r)
theorem ZoI {a:Int}{b:Zf}{c0:Int}:∀r,(ZeZ a b c0)=some r->evD ctx 93 [(zN a),(.d (zK2 b.total b.long b.most b.deadline b.period)),(.d (D.rptr [(Zm c0)]))]=some (Zp6 r):=
 evT ZFa rfl rfl <| yBr yR
def ZjJ (r:Int):D:=(Zm r)
def ZfZ (t0:Bool) (a:List Zf) (b0:Int):Int->Ex×List V×Zl
  | r=>(.exit 0,[(zN r)],[])
theorem Zif {t0:Bool}{a:List Zf}{b0:Int}:∀(s0:Int×Int) (r:Int),lp (ZdH a (fun z0 z1=>ZeZ z0 z1 b0)) s0=some r->lpW ctx 0 [1,5,8,9,10] [5] Zua [(.d (D.fn 93 [(D.rptr [(Zm b0)])])),(zN s0.1),(zW t0 Zx a),(zN (a.length:Int)),(zN s0.2)] []=some ((ZfZ t0 a b0) r):=
 lpT (ZfZ t0 a b0) fun s0 _ ih=>yB (yG fun x1 _=>
  yC ZoI fun x2 _=>
  Zd (ih _))
  (Zk rfl)
theorem ZiZ {t0:Bool}{a:List Zf}{b0:Int}:∀r,(Zgv a (fun z0 z1=>ZeZ z0 z1 b0))=some r->evD ctx 91 [(zW t0 Zx a),(.d (D.fn 93 [(D.rptr [(Zm b0)])]))]=some (ZjJ r):=
 evT ZA5 rfl rfl <| Zj (ZG _ _) (Zc _ (Zif _) fun r3 _=>
  yR)
def Zsz (r:Int):D:=(Zm r)
theorem Zr9 {t0:Bool}{a:List Zf}{b:Int}:∀r,(Zj4 a b)=some r->evD ctx 63 [(zW t0 Zx a),(zN b)]=some (Zsz r):=
 evT ZE8 rfl rfl <| yC ZiZ fun x0 _=>
  yR
def Zud (r:Bool):D:=(D.bool r)
def Zly (t0:Bool) (a:List Zf) (s1:Int) (x2:Zf):(Unit⊕Unit)->Ex×List V×Zl
  | (.inl r)=>(.ret,[(zW t0 Zx a),(.d (D.bool false)),(zW t0 Zx a),(zN (a.length:Int)),(zN s1)],[])
  | (.inr r)=>(.exit 2,[(zW t0 Zx a),.bad,(zW t0 Zx a),(zN (a.length:Int)),(zN s1)],[])
theorem Zpc {t0:Bool}{a:List Zf}{s1:Int}{x2:Zf}:∀(s3:Int) (r:(Unit⊕Unit)),lp (Zf7 a x2) s3=some r->lpW ctx 0 [0,4,5,9,10,11] [0,2,9,10,11] ZAt [(zW t0 Zx a),(.ptr 0 0),(zN s3),(zW t0 Zx a),(zN (a.length:Int)),(zN s1)] [(.cells [(zN x2.total),(zN x2.long),(zN x2.most),(zN x2.deadline),(zN x2.period)])]=some ((Zly t0 a s1 x2) r):=
 lpT (Zly t0 a s1 x2) fun s3 _ ih=>yC ZoH fun x4 _=>
  yB (yC Zqf fun x5 _=>
  yC Zr9 fun x6 _=>
  yB (Zk rfl)
  (Zd (ih _)))
  (Zk rfl)
def Zlz (t0:Bool) (a:List Zf):(Unit⊕Unit)->Ex×List V×Zl
  | (.inl r)=>(.ret,[(.d (D.bool false))],[])
  | (.inr r)=>(.exit 0,[.bad],[])
theorem Zpn {t0:Bool}{a:List Zf}:∀(s1:Int) (r:(Unit⊕Unit)),lp (ZgX a) s1=some r->lpW ctx 0 [0,9,10,11] [2] ZCn [(zW t0 Zx a),(zW t0 Zx a),(zN (a.length:Int)),(zN s1)] []=some ((Zlz t0 a) r):=
 lpT (Zlz t0 a) fun s1 _ ih=>yB (yG fun x2 _=>
  (by
 conv=>rhs;whnf
 refine Zc _ (Zpc _) fun r7 _=>?_
 rcases r7 with r7 | r7
 exact Zk rfl
 exact Zd (ih _)))
  (Zk rfl)
theorem Zsv {t0:Bool}{a:List Zf}:∀r,(Zlc a)=some r->evD ctx 46 [(zW t0 Zx a)]=some (Zud r):=
 evT ZE5 rfl rfl <| yC Zi1 fun x0 _=>
  yBr (Zj (ZG _ _) (by
 conv=>rhs;whnf
 refine Zc _ (Zpn _) fun r8 _=>?_
 rcases r8 with r8 | r8
 exact yR
 exact yR))
def Zpf (t0:Bool) (a:Int) (mA:Int) (mI:List Zf) (mH:List Int):(Unit⊕Unit)->V×Zl
  | (.inl r)=>((.d (D.bool true)),[(.cells [(.sl 3 1)]),(.cells [(zN mA)]),(.cells [(zW t0 Zx mI)]),(zA (List.set mH mA.toNat a))])
  | (.inr r)=>((.d (D.bool false)),[(.cells [(.sl 3 1)]),(.cells [(zN mA)]),(.cells [(zW t0 Zx mI)]),(zA (List.set mH mA.toNat a))])
theorem Zoe {t0:Bool}{a mA:Int}{mI:List Zf}{mH:List Int}:∀r,(Zi8 a mA mI mH)=some r->evW ctx 67 [(zN a),(.ptr 0 0),(.ptr 1 0),(.ptr 2 0)] [(.cells [(.sl 3 1)]),(.cells [(zN mA)]),(.cells [(zW t0 Zx mI)]),(zA mH)]=some ((Zpf t0 a mA mI mH) r):=
 evS ZEM rfl rfl <| yG fun x0 hx0=>
  Ze (Zi rfl hx0) (Zj (ZI Zm mH mA.toNat a) (yC Zuq fun x1 _=>
  yC Zsv fun x2 _=>
  yBr yR))
def Zq9 (r:((List Int)×Int)):D:=(D.tup [(zL true r.1),(Zm r.2)])
def ZjM (t0:Bool) (a:List Zf) (b:Int):(List Int)->Ex×List V×Zl
  | r=>(.exit 0,[(zN b),(.ptr 0 0),(.ptr 1 0)],[(.cells [(zW t0 Zx a)]),(.cells [(.sl 2 1)]),(zA r)])
theorem Znu {t0:Bool}{a:List Zf}{b:Int}:∀(s2:Int×(List Int)) (r:List Int),lp (ZeE a) s2=some r->lpW ctx 0 [1,2,6,24,25] [1,2,6] ZAj [(zN b),(.ptr 0 0),(.ptr 1 0),(zN (List.length (List.replicate (a.length:Int).toNat (0:Int)):Int)),(zN s2.1)] [(.cells [(zW t0 Zx a)]),(.cells [(.sl 2 1)]),(zA s2.2)]=some ((ZjM t0 a b) r):=
 lpT (ZjM t0 a b) fun s2 _ ih=>yB (yG fun x3 hx3=>
  Ze (Zi rfl hx3) (Zj (ZI Zm s2.2 s2.1.toNat (-1)) (Zd (ih _))))
  (Zk rfl)
def ZjW (t0:Bool) (a:List Zf) (b:Int) (x5:List Int) (s6:Int×(List Int)) (x7:Int):((List Int)⊕(List Int))->Ex×List V×Zl
  | (.inl r)=>(.exit 3,[(zN b),(.ptr 0 0),(.ptr 1 0),(zV true x5),(zN (x5.length:Int)),(zN s6.1)],[(.cells [(zW t0 Zx a)]),(.cells [(.sl 2 1)]),(zA r)])
  | (.inr r)=>(.exit 4,[(zN b),(.ptr 0 0),(.ptr 1 0),(zV true x5),(zN (x5.length:Int)),(zN s6.1)],[(.cells [(zW t0 Zx a)]),(.cells [(.sl 2 1)]),(zA r)])
theorem Zni {t0:Bool}{a:List Zf}{b:Int}{x5:List Int}{s6:Int×(List Int)}{x7:Int}:∀(s8:Int×(List Int)) (r:((List Int)⊕(List Int))),lp (ZeF a b x7) s8=some r->lpW ctx 0 [1,2,6,10,33,34,35,40,41] [1,2,6,33,34,35] ZAD [(zN b),(.ptr 0 0),(.ptr 1 0),(.fn 67 [(.ptr 1 0),(.ptr 2 0),(.ptr 0 0)]),(zV true x5),(zN (x5.length:Int)),(zN s6.1),(zN b),(zN s8.1)] [(.cells [(zW t0 Zx a)]),(.cells [(.sl 3 1)]),(.cells [(zN x7)]),(zA s8.2)]=some ((ZjW t0 a b x5 s6 x7) r):=
 lpT (ZjW t0 a b x5 s6 x7) fun s8 _ ih=>yB ((by
 conv=>rhs;whnf
 refine Zc _ Zoe fun x9 _=>?_
 rcases x9 with x9 | x9
 exact Zk rfl
 exact Zd (ih _)))
  (Zk rfl)
def ZjL (t0:Bool) (a:List Zf) (b:Int) (x5:List Int):((List Int)⊕(List Int))->Ex×List V×Zl
  | (.inl r)=>(.ret,[(.nilsl 1),(zN 161),(.ptr 0 0)],[(.cells [(.sl 1 1)]),(zA r)])
  | (.inr r)=>(.exit 2,[.bad,.bad,(.ptr 0 0)],[(.cells [(.sl 1 1)]),(zA r)])
theorem ZmY {t0:Bool}{a:List Zf}{b:Int}{x5:List Int}:∀(s6:Int×(List Int)) (r:((List Int)⊕(List Int))),lp (ZeI a b x5) s6=some r->lpW ctx 0 [1,2,6,33,34,35] [4,5,6] ZBv [(zN b),(.ptr 0 0),(.ptr 1 0),(zV true x5),(zN (x5.length:Int)),(zN s6.1)] [(.cells [(zW t0 Zx a)]),(.cells [(.sl 2 1)]),(zA s6.2)]=some ((ZjL t0 a b x5) r):=
 lpT (ZjL t0 a b x5) fun s6 _ ih=>yB (yG fun x7 _=>
  (by
 conv=>rhs;whnf
 refine Zc _ (Zni _) fun r10 _=>?_
 rcases r10 with r10 | r10
 exact Zd (ih _)
 exact Zk rfl))
  (Zk rfl)
theorem ZpW {t0:Bool}{a:List Zf}{b:Int}:∀r,(Zhr a b)=some r->evD ctx 36 [(zW t0 Zx a),(zN b)]=some (Zq9 r):=
 evT ZFw rfl rfl <| yC Zi1 fun x0 _=>
  yBr (yC Zpi fun x1 _=>
  yB (Zj (ZG _ _) (yBm (Zj (Zqx Zm (0:Int) (a.length:Int)) (Zj (ZG _ _) (Zc _ (Znu _) fun r4 _=>
  yC Zqd fun x5 _=>
  Zj (ZG _ _) (by
 conv=>rhs;whnf
 refine Zc _ (ZmY _) fun r11 _=>?_
 rcases r11 with r11 | r11
 exact yR
 exact yR))))))
  yR)
def Zqa (r:(ZhE×Int)):D:=(D.tup [(D.agg [(zM true Zx r.1.shapes),(D.list true (List.map (Zjg true) r.1.cores))]),(Zm r.2)])
def Zjh (b:Int) (x0:((List Zf)×Int)):(((List Zf)×(List (List Int)))⊕((List Int)×(List Zf)×(List (List Int))))->Ex×List V×Zl
  | (.inl r)=>(.ret,[(zN b),(.ptr 0 0),(zN 171),(zW true Zx x0.1),(.ptr 1 0),(.ch 2),(.sl 3 5)],[(.cells [(.nilsl 5),(.nilsl 1)]),(.cells [(zW true Zx x0.1),(.sl 4 1)]),(.ch ([]:List Int)),(.arr 5 (List.map Zx r.1)),(.arr 1 (List.map (Zjg true) r.2))])
  | (.inr r)=>(.exit 0,[(zN b),(.ptr 0 0),.bad,(zW true Zx x0.1),(.ptr 1 0),(.ch 2),(.sl 3 5)],[(.cells [(.sl 4 5),(.sl 5 1)]),(.cells [(zW true Zx x0.1),(.sl 6 1)]),(.ch r.1),(.arr 5 (List.map Zx r.2.1)),(.arr 5 []),(.arr 1 []),(.arr 1 (List.map (Zjg true) r.2.2))])
theorem ZmJ {b:Int}{x0:((List Zf)×Int)}:∀(s2:Int×(List Int)×(List Zf)×(List (List Int))) (r:(((List Zf)×(List (List Int)))⊕((List Int)×(List Zf)×(List (List Int))))),lp (Zcp x0) s2=some r->lpW ctx 0 [1,4,6,8,9,10,49,50,51] [1,4,5,6,8,9,10] ZCa [(zN b),(.ptr 0 0),(zW true Zx x0.1),(.ptr 1 0),(.ch 2),(.sl 3 5),(zW true Zx x0.1),(zN (x0.1.length:Int)),(zN s2.1)] [(.cells [(.sl 4 5),(.sl 5 1)]),(.cells [(zW true Zx x0.1),(.sl 6 1)]),(.ch s2.2.1),(.arr 5 (List.map Zx s2.2.2.1)),(.arr 5 []),(.arr 1 []),(.arr 1 (List.map (Zjg true) s2.2.2.2))]=some ((Zjh b x0) r):=
 lpT (Zjh b x0) fun s2 _ ih=>yB (yG fun x3 _=>
  yC ZgE fun x4 _=>
  yB (yC ZkS fun x5 _=>
  (by
 conv=>rhs;whnf
 refine Zc _ Zqk fun x6 _=>?_
 rcases x6 with x6 | x6
 exact yT (yG fun x7 hx7=>
  Ze (Zi rfl hx7) (Zj (ZI (Zjg true) s2.2.2.2 s2.1.toNat (List.take x5.1.toNat s2.2.1)) (Zd (ih _))))
 exact yF (Zk rfl)))
  (yT (Zc2 (Zg1 Zx s2.2.2.1 1) (Zj (Zg0 Zx s2.2.2.1 [x3]) (Zd (ih _)))
  Zbr)))
  (Zk rfl)
def Zi9 (b:Int) (x0:((List Zf)×Int)) (r8:((List Int)×(List Zf)×(List (List Int)))):(List (List Int))->Ex×List V×Zl
  | r=>(.exit 2,[(.ptr 0 0),(.ptr 1 0)],[(.cells [(.sl 2 5),(.sl 3 1)]),(.cells [(zW true Zx x0.1),(.sl 4 1)]),(.arr 5 []),(.arr 1 []),(.arr 1 (List.map (Zjg true) r))])
theorem Zmz {b:Int}{x0:((List Zf)×Int)}{r8:((List Int)×(List Zf)×(List (List Int)))}:∀(s10:(List Int)×Int×(List (List Int))) (r:(List (List Int))),lp (ZdM b x0 r8) s10=some r->lpW ctx 0 [4,8,17,18,97,98,99] [4,8] ZA9 [(.ptr 0 0),(.ptr 1 0),(zV true s10.1),(zN (w64 (b-(r8.1.length:Int)))),(zW true Zx x0.1),(zN (x0.1.length:Int)),(zN s10.2.1)] [(.cells [(.sl 2 5),(.sl 3 1)]),(.cells [(zW true Zx x0.1),(.sl 4 1)]),(.arr 5 []),(.arr 1 []),(.arr 1 (List.map (Zjg true) s10.2.2))]=some ((Zi9 b x0 r8) r):=
 lpT (Zi9 b x0 r8) fun s10 _ ih=>yB (yG fun x11 _=>
  yC ZgE fun x12 _=>
  yB (Zd (ih _))
  (yG fun x13 _=>
  yT (Zc2 (ZzN Zm s10.1 1) (ZpO (ZAf Zm (fun _=>⟨rfl,rfl⟩) s10.1 _) (Zj (Zxa Zm s10.1 1) (yG fun x14 hx14=>
  Ze (Zi rfl hx14) (Zj (ZI (Zjg true) s10.2.2 s10.2.1.toNat [(w64 ((w64 (b-(r8.1.length:Int)))+x13))]) (Zd (ih _))))))
  Zbr)))
  (Zk rfl)
theorem ZhQ {t0:Bool}{a:List Zp}{b:Int}:∀r,(Zf8 a b)=some r->evD ctx 11 [(.d (D.list t0 (List.map (Zfu true) a))),(zN b)]=some (Zqa r):=
 evT ZFv rfl rfl <| Zj (ZG _ _) (yBr (yBr (yBr (yC Zok fun x0 _=>
  yBr (Zj (ZG _ _) (yBm (Zj (Zqx (Zjg true) (([]:List Int):List Int) (x0.1.length:Int)) (Zc _ Zqj fun x1 _=>
  Zj (ZG _ _) (by
 conv=>rhs;whnf
 refine Zc _ (ZmJ _) fun r8 _=>?_
 rcases r8 with r8 | r8
 exact yR
 exact yC ZpW fun x9 _=>
  yBr (Zj (ZG _ _) (Zc _ (Zmz _) fun r15 _=>
  yR)))))))))))
def ZmF (r:Bool):D:=(D.bool r)
def Zht (t0:Bool) (a:List Zp) (b:Int) (x4:(ZhE×Int)):(Unit⊕Unit)->Ex×List V×Zl
  | (.inl r)=>(.ret,[(.d (D.list t0 (List.map (Zfu true) a))),(zN b),(.d (D.bool false)),(.ptr 0 0)],[(.cells [(zW true Zx x4.1.shapes),(.d (D.list true (List.map (Zjg true) x4.1.cores)))])])
  | (.inr r)=>(.exit 0,[(.d (D.list t0 (List.map (Zfu true) a))),(zN b),.bad,(.ptr 0 0)],[(.cells [(zW true Zx x4.1.shapes),(.d (D.list true (List.map (Zjg true) x4.1.cores)))])])
theorem Zku {t0:Bool}{a:List Zp}{b:Int}{x4:(ZhE×Int)}:∀(s5:Int) (r:(Unit⊕Unit)),lp (Zcr a b) s5=some r->lpW ctx 0 [0,1,5,7] [0,1,4,5] ZDS [(.d (D.list t0 (List.map (Zfu true) a))),(zN b),(.ptr 0 0),(zN s5)] [(.cells [(zW true Zx x4.1.shapes),(.d (D.list true (List.map (Zjg true) x4.1.cores)))])]=some ((Zht t0 a b x4) r):=
 lpT (Zht t0 a b x4) fun s5 _ ih=>Zj (ZG _ _) (yB (yBm (yBm (Zc2 (ZIh (Zfu true) a s5.toNat (w64 (s5+1)).toNat) (ZpO (ZAf (Zfu true) (fun _=>⟨rfl,rfl⟩) a _) (Zj (ZFi (Zfu true) a s5.toNat (w64 (s5+1)).toNat) (Zc _ Zi5 fun x6 _=>
  yC ZhQ fun x7 _=>
  yB (Zk rfl)
  (Zd (ih _)))))
  Zbr)))
  (Zk rfl))
theorem ZlJ {t0:Bool}{a:List Zp}{b:Int}:∀r,(Zhh a b)=some r->evD ctx 7 [(.d (D.list t0 (List.map (Zfu true) a))),(zN b)]=some (ZmF r):=
 evT fn7 rfl rfl <| yC ZgD fun x0 _=>
  yB (yC Zsh fun x1 _=>
  yB (Zj (ZG _ _) (yB (yC ZgD fun x2 _=>
  yBr yR)
  (Zc _ Zi5 fun x3 _=>
  yC ZhQ fun x4 _=>
  yBr (by
 conv=>rhs;whnf
 refine Zc _ (Zku _) fun r8 _=>?_
 rcases r8 with r8 | r8
 exact yR
 exact Zj (ZG _ _) (yG fun x9 _=>
  yC ZgE fun x10 _=>
  yB (yBm (Zc2 (Zx1 (Zfu true) a (w64 ((a.length:Int)-1)).toNat) (yT (Zj (ZqC (Zfu true) a (w64 ((a.length:Int)-1)).toNat) (Zc _ Zi5 fun x11 _=>
  yC ZhQ fun x12 _=>
  yBr yR)))
  Zbr))
  yR)))))
  (yC ZgD fun x13 _=>
  yBr yR))
  (yC ZgD fun x14 _=>
  yBr yR)
abbrev ZA8:List Lf×Bool:=([.int .i64],false)
abbrev Zwh:List Lf×Bool:=([.sl true [.int .i64,.int .i64,.sl true [.int .i64,.int .i64,.int .i64],.sl true [.int .i64,.int .i64],.sl true [.int .i64,.int .i64,.int .i64],.sl true [.sl false [.int .i64],.sl false [.int .i64]]]],false)
theorem Zru {l:List Zf}{n:Nat}{o at_ a:List Int} (h:Zgb l n o at_=some a):∀k,Zgb l (n+k) o at_=some a
 | 0=>h
 | k+1=>ZsQ (Zru h k)
theorem ZuB {s:List Zf}{z:Zf} (hz:hv z=true) {b:Nat}{p:ZhE} (h:Zhn (s++[z]) b=some p):∃q,Zhn s b=some q:=by
 obtain⟨h1,a,h2,_⟩:=ZlV h
 have e1:Zbj (s++[z])=Zbj s:=by unfold Zbj;rw[List.filter_append];simp[hz]
 have e2:=ZkF s [z]
 rw[e1] at h2
 have hm:ZlM (Zbj s) (b-ZaA (s++[z])+ZaA [z])=some a:=Zru h2 _
 rw[show b-ZaA (s++[z])+ZaA [z]=b-ZaA s by omega] at hm
 exact⟨_,Zo4 (by omega) hm⟩
theorem ZwI {s:List Zf}{z:Zf} (hm:z∈s) (ok:Zof s) {b:Nat} (hb:1<=b) {p:ZhE} (h:Zhn s b=some p):∃q,Zhn [z] b=some q:=by
 obtain⟨h1,a,h2,_⟩:=ZlV h
 have ok1:Zof [z]:=fun y hy=>by rw[List.mem_singleton.1 hy];exact ok z hm
 obtain⟨_,o2⟩:=Zwu (l:=Zbj [z]) (Nat.le_trans (List.length_filter_le _ _) (by simp))
 have hlc:=ZlU (s:=[z]) (by simp) ok1
 cases hz:hv z with
 | true=>
  have e1:Zbj [z]=[]:=by unfold Zbj;simp[hz]
  have hu:ZaA [z]<=ZaA s:=by
   obtain⟨u,v,rfl⟩:=List.append_of_mem hm
   have e:u++z :: v=u++([z]++v):=rfl
   rw[e,ZkF,ZkF]
   omega
  obtain⟨a,ha⟩:=Zxi hlc (n:=b-ZaA [z]) (by rw[e1];simp) (Zrv _ o2)
  exact⟨_,Zo4 (by omega) ha⟩
 | false=>
  have e1:Zbj [z]=[z]:=by unfold Zbj;simp[hz]
  have hu:ZaA [z]=0:=by rw[Zld,hz];simp[ZaA]
  obtain⟨a,ha⟩:=Zxi hlc (n:=b-ZaA [z]) (by rw[e1,hu];simpa using hb) (Zrv _ o2)
  exact⟨_,Zo4 (by omega) ha⟩
theorem ZsD (l:List Zp) (b:Int):Zhh l b=some true:=by
 unfold Zhh
 simp only[Zf9,Option.bind_some,cond_true]
 obtain⟨f,f1,f2⟩:=ZF1 l
 rw[f1,Option.bind_some]
 cases f with
 | false=>rfl
 | true=>
  obtain⟨hl,hz⟩:=f2 rfl
  have hl':l.length<=1000:=by omega
  rw[cond_true]
  by_cases h0:l.length=0
  ·rw[show((l.length:Int)==0)=true from beq_iff_eq.2 (by omega)];rfl
  rw[show((l.length:Int)==0)=false from beq_eq_false_iff_ne.2 (by omega)]
  simp only[cond_false,ZzS hl' hz,Option.bind_some,Zuu hl' hz]
  by_cases hne:(Zmc l b).2=0
  ·obtain⟨h8,b1,b8,he,p,hp,hF⟩:=Zu7 hne
   rw[hF,Zte,cond_false]
   have hall:=ZCF he
   have ok:=ZwO he
   have one:∀(k i:Nat),i+k=l.length->lp (Zcr l b) (i:Int)=some (.inr ()):=by
    intro k
    induction k with
    | zero=>
     intro i hi
     have hi:i=l.length:=by omega
     subst hi
     rw[Zal]
     simp only[Zcr,Ze7,cond_false]
    | succ k ih=>
     intro i hi
     have hil:i<l.length:=by omega
     have hx:=List.getElem?_eq_getElem hil
     have hm:=List.getElem_mem hil
     have hd:List.take (i+1-i) (List.drop i l)=[l[i]]:=by
      rw[show i+1-i=1 by omega,List.drop_eq_getElem_cons hil];rfl
     generalize l[i]=d at hx hm hd
     have hz1:∀x∈[d],Ziw x:=fun x hx=>by rw[List.mem_singleton.1 hx];exact hz d hm
     have he1:shE [d]=0:=Zwi fun x hx=>by rw[List.mem_singleton.1 hx];exact hall d hm
     obtain⟨q,hq⟩:=ZwI (z:=(ZhT d).1) (List.mem_map.2 ⟨d,hm,rfl⟩) ok (by omega) hp
     have hq1:Zhn (shL [d]) b.toNat=some q:=hq
     rw[Zal]
     simp only[Zcr,Zc9 hil,cond_true,ZT hil (show l.length<9223372036854775808 by omega),decide_eq_true (show(0:Int)<=(i:Int) by omega),decide_eq_true (show(0:Int)<=((i+1:Nat):Int) by omega),Int.toNat_natCast,Nat.ble_eq_true_of_le (show i<=i+1 by omega),Nat.ble_eq_true_of_le (show i+1<=l.length by omega),Bool.and_self,hd,ZzS (show [d].length<=1000 by simp) hz1,Zuu (show [d].length<=1000 by simp) hz1,Option.bind_some,ZtD (show [d].length<=8 by simp) b1 b8 he1 hq1,Zte,cond_false]
     exact ih (i+1) (by omega)
   rw[show lp (Zcr l b) 0=_ from one l.length 0 (by omega)]
   obtain⟨_,a,_,rfl⟩:=ZlV hp
   have hil:l.length-1<l.length:=by omega
   have hx:=List.getElem?_eq_getElem hil
   have hm:=List.getElem_mem hil
   have hd:l=l.take (l.length-1)++[l[l.length-1]]:=by
    have:=List.take_append_drop (l.length-1) l
    rw[List.drop_eq_getElem_cons hil,List.drop_eq_nil_of_le (show l.length<=l.length-1+1 by omega)] at this
    exact this.symm
   generalize l[l.length-1]=d at hx hm hd
   have hw:w64 ((l.length:Int)-1)=((l.length-1:Nat):Int):=by rw[ZaK (by omega) (by omega)];omega
   have hxs:(shL l)[l.length-1]? = some (ZhT d).1:=by unfold shL;rw[List.getElem?_map,hx];rfl
   have hms:(ZhT d).1∈shL l:=List.mem_map.2 ⟨d,hm,rfl⟩
   simp only[Option.bind_some,hw,Zaa hxs,ok.heavy hms]
   cases hh:hv (ZhT d).1 with
   | false=>rfl
   | true=>
    have hs:shL l=shL (l.take (l.length-1))++[(ZhT d).1]:=by
     conv=>lhs;rw[hd]
     unfold shL
     rw[List.map_append];rfl
    rw[hs] at hp
    obtain⟨q,hq⟩:=ZuB hh hp
    have htk:∀x∈l.take (l.length-1),x∈l:=fun x hx=>List.mem_of_mem_take hx
    have htl:(l.take (l.length-1)).length<=8:=by rw[List.length_take];omega
    simp only[cond_true,decide_eq_true (show(0:Int)<=((l.length-1:Nat):Int) by omega),Int.toNat_natCast,Nat.ble_eq_true_of_le (show l.length-1<=l.length by omega),ZzS (show(l.take (l.length-1)).length<=1000 by omega) (fun x hx=>hz x (htk x hx)),Option.bind_some,Zuu (show(l.take (l.length-1)).length<=1000 by omega) (fun x hx=>hz x (htk x hx)),ZtD htl b1 b8 (Zwi fun x hx=>hall x (htk x hx)) hq]
    rfl
  ·rw[ZCR hne];rfl
theorem Zuf (xs:List D) (h:Zh3 Zwh.1 xs) (ys:List D) (k:Zh3 ZA8.1 ys):∃H',evW ctx 7 (ZcO [ZvP Zwh.2 xs,ZvP ZA8.2 ys]) []=some (.d (.bool true),H'):=by
 obtain⟨x,r,rfl,h1,rfl⟩:=h
 obtain⟨l,rfl⟩:=Zz1 h1
 obtain⟨n,hn,okn⟩:=ZE7 k
 show ∃H',evW ctx 7 [.d (.list true (l.map (Zfu true))),.d (ZvP false ys)] []=_
 rw[hn]
 exact ZCm (ZlJ true (ZsD l n))
end Go.Proofs.YtmnglncebfabpaaGreatDoor
namespace Go.Proofs.YtmnglncebfabpaaGreatDoor.LawAdmitLess
open Go.ChangeShapes Go.WideShapes Go.ChangeAt Go.RowKit Go.Proofs.YtmnglncebfabpaaGreatDoorE
theorem own:ownKnob Tryz.prog.godebug=none:=by kernel_rfl
theorem Zx9:laidOutB Tryz.prog=true:=by kernel_rfl
def Zsg : List (String × DataW Unit) := [("math/bits.deBruijn32tab", Rows.laid_math_bits_deBruijn32tab), ("math/bits.deBruijn64tab", Rows.laid_math_bits_deBruijn64tab)]
theorem ZB4 (os:Os) (args:Array Value):laidMetH Tryz.prog Zsg ((World.doorLaid Tryz.prog 19 os).forCall (fun _ _=>0) ⟨#[],args,[]⟩).memory:=
 laidMetH_of_parts3 (fuel:=8) (laidMet_of_run' 8 (by kernel_rfl) (by kernel_rfl)) (by kernel_rfl) (by kernel_rfl)
theorem ZAq {W:World} (h:laidMetH Tryz.prog Zsg W):GOK ZkD R0 W:=by
 intro g l hg
 unfold ZkD at hg
 split at hg
 ·cases hg
  exact ZrM (t := 175) (N := 32) (e := 5) (k := .u8) h (by kernel_rfl) (n := "math/bits.deBruijn32tab") (by rw [show DataW.agg (Znk ZD5) = Rows.laid_math_bits_deBruijn32tab by kernel_rfl]; simp [Zsg]) (by kernel_rfl) (by kernel_rfl) (by kernel_rfl) (by kernel_rfl) (by kernel_rfl) (by kernel_rfl) (by decide)
 ·cases hg
  exact ZrM (t := 176) (N := 64) (e := 5) (k := .u8) h (by kernel_rfl) (n := "math/bits.deBruijn64tab") (by rw [show DataW.agg (Znk ZDO) = Rows.laid_math_bits_deBruijn64tab by kernel_rfl]; simp [Zsg]) (by kernel_rfl) (by kernel_rfl) (by kernel_rfl) (by kernel_rfl) (by kernel_rfl) (by kernel_rfl) (by decide)
 ·cases hg
theorem ZFe (os:Os) (started:os.Started) (H:Type) (enc:TypeId×Value->H) :
  ReturnsInHanded {} Tryz.checked os 7 .any (fun w args=>(Rows.admitLessSpec.pre enc Tryz.prog Tryz.f7 [] false w args/\laidMetH Tryz.prog Zsg w)/\sizedMet enc Tryz.prog Tryz.f7 (OpenSpec.ofChange Rows.admitLessSpec) false w args) (Rows.admitLessSpec.post enc Tryz.prog Tryz.f7 false true false false):=by
 refine returnsInHanded_of_change_and (C:=Tryz.checked) (X:=fun w _=>laidMetH Tryz.prog Zsg w) (fun _ _ _ hh h=>h.of_heap hh) own started (by kernel_rfl) Tryz.func7
  (ChangeSpec.witness_shaped (enc:=enc) (C:=Tryz.checked) (os:=os) (X:=fun w _=>laidMetH Tryz.prog Zsg w) false (World.doorLaid Tryz.prog 19 os) #[.slice none 0 0,.int .i64 0] 8 rfl (World.shaped_of_RefB (by kernel_rfl) (by kernel_rfl)) (by kernel_rfl) (by kernel_rfl) (by kernel_rfl) (ZB4 os _)) ?_
 intro W base args ds gs before hval0 hW _ _ hL _
 have hval:∀(j:Nat) t v,Tryz.f7.params[j]? = some t->args[j]? = some v->Value.okWide Tryz.prog W .any base t v:=hval0
 have hW':=hW
 obtain⟨p,q,hA0,hV,rfl,hfz,hnd⟩:=hW
 have hA:DataW.TrodAll enc Tryz.prog W 0 (fun _=>true) true Tryz.f7.params.toList args.toList ds p:=hA0
 rw[Tryz.params7] at hA hval
 obtain⟨v0,vs0,d0,ds0,p0,q0,hargs,rfl,rfl,h0,r0⟩:=trodAll_cons hA
 obtain⟨v1,vs1,d1,ds1,p1,q1,rfl,rfl,rfl,h1,r1⟩:=trodAll_cons r0
 obtain⟨rfl,rfl,rfl⟩:=trodAll_nil r1
 obtain rfl:args = #[v0,v1]:=by cases args;simp_all
 obtain⟨rfl,rfl⟩:=trodVars_none hV
 have lt0:∀x∈p0,x.block<W.heap.size:=by obtain⟨m,hm⟩:=h0;exact DataW.trod_lt m _ _ _ hm
 obtain⟨x0,ok0,den0⟩:=ZAl (P:=Tryz.prog) (n:=8) (t:=22) (l:=Zwh.1) (ag:=Zwh.2) (by kernel_rfl) (hval 0 22 v0 rfl rfl) h0
 have lt1:∀x∈p1,x.block<W.heap.size:=by obtain⟨m,hm⟩:=h1;exact DataW.trod_lt m _ _ _ hm
 obtain⟨x1,ok1,den1⟩:=ZAl (P:=Tryz.prog) (n:=8) (t:=3) (l:=ZA8.1) (ag:=ZA8.2) (by kernel_rfl) (hval 1 3 v1 rfl rfl) h1
 obtain⟨H1,ev⟩:=Zuf x0 ok0 x1 ok1
 have den:ZaU All All All W [ZvP Zwh.2 x0,ZvP ZA8.2 x1] [v0,v1]:=⟨_,_,rfl,den0,⟨_,_,rfl,den1,rfl⟩⟩
 refine(Zzo ZGD (ZAq hL) den ev).mono fun e W' ⟨he,bel⟩=>?_
 subst he
 exact⟨_,rfl,_,_,_,[],_,[],hW',trodAll_mk1 (shut_bool Tryz.underlying4 _),(trodAll_cons_mk (Below.trod Zx9 (by kernel_rfl) (of_decide_eq_true (by kernel_rfl)) h0 bel lt0) (trodAll_cons_mk (Below.trod Zx9 (by kernel_rfl) (of_decide_eq_true (by kernel_rfl)) h1 bel lt1) trodAll_mk0)),rfl,bel.frame _,fun h=>by cases h⟩
theorem over:Rows.admitLessRow.holds Tryz.pinned (OpenSpec.ofChange Rows.admitLessSpec):=
 OpenClaim.holds_of_wide 7 Tryz.f7 rfl rfl rfl rfl rfl rfl rfl ⟨rfl,rfl,rfl,rfl,rfl⟩ rfl rfl rfl rfl rfl (by kernel_rfl) Tryz.func7 (by kernel_rfl)
  (of_decide_eq_true (by kernel_rfl)) (by unfold Func.isWrapper;first | (rw[if_pos (by decide +kernel)];kernel_rfl) | (rw[if_neg (by decide +kernel)];exact⟨rfl,rfl⟩))
  (fun os started H enc _=>ZFe os started H enc)
theorem proved:Rows.AdmitLessSaid:=over
theorem carded:Rows.AdmitLessCardSaid:=
 Claim7.holds_tied_plain_at .later [] [.data, .data] true (true, "5993bbbb36cd418e27731508b4ad0539b37fc49c272e06c4f0b99c3df5968dc5") false
  proved (fun _ h=>by cases h) (by kernel_rfl) (fun _ h=>by cases h) admitLess_row_tie rfl ⟨rfl,rfl⟩ (by kernel_rfl) rfl
  (fun f fn hf hfn=>by
   obtain rfl : f = 7 := Option.some.inj ((show Tryz.prog.funcNamed "trefoil/trefoillaw17.AdmitLess" = some 7 by kernel_rfl).symm.trans hf) |>.symm
   obtain rfl:fn=Tryz.f7:=(Option.some.inj (Tryz.func7.symm.trans hfn)).symm
   exact⟨by kernel_rfl,fun j t ht=>by
    rw[Tryz.params7] at ht
    have hm:t∈[22,3]:=by simpa using Array.mem_of_getElem? ht
    have hall:([22,3].all fun u=>!Tryz.prog.wantsStandIn u)=true:=by kernel_rfl
    exact(show Tryz.prog.wantsStandIn t=false by simpa using List.all_eq_true.1 hall t hm)⟩)
  (by kernel_rfl)
end Go.Proofs.YtmnglncebfabpaaGreatDoor.LawAdmitLess
namespace Go.Proofs.YtmnglncebfabpaaGreatDoor
theorem admitLess_holds:Rows.AdmitLessCardSaid:=LawAdmitLess.carded
#print axioms admitLess_holds
end Go.Proofs.YtmnglncebfabpaaGreatDoor
