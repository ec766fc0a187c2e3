/- AdmitMore: part 6 of 6 of the proof: the row and the card of the law, out of what the evaluator says of it; without conditions. -/
import Derived.Test.YtmnglncebfabpaaGreatDoorZAdmitMoree
import Derived.KernelRfl
import Derived.Test.YtmnglncebfabpaaGreatDoorRows
import Derived.Test.YtmnglncebfabpaaGreatDoorCards
import Derived.Test.YtmnglncebfabpaaGreatDoorTie
import Derived.WalkKit
import Derived.ProofKit
import Derived.OpenShut
import Derived.ShutString
import Derived.ChangeOld
import Derived.Below
import Derived.SizedLaws
import Derived.Handed
import Derived.LaidMore
import Derived.Stop.Joined
import Derived.ChangeShapes
import Derived.Carry
import Derived.SevenTiedAt
set_option maxRecDepth 100000
set_option maxHeartbeats 40000000
set_option linter.unusedVariables false
set_option linter.unusedSimpArgs false
namespace Go.Proofs.YtmnglncebfabpaaGreatDoor
open Go Go.Proofs.YtmnglncebfabpaaGreatDoorE
open Go.IntKind (u64 i64 u32 i32 u8)
def Zqk (r:Bool):D:=(D.bool r)
theorem ZhT {a:Zf}:∀r,(Zfc a)=some r->evD ctx 28 [(.d (zK2 a.total a.long a.most a.deadline a.period))]=some (Zqk r):=
 evT ZER rfl rfl <| yC Zh6 fun x0 _=>
  yB ((by
 conv=>rhs;whnf
 refine yC ZmW fun x1 _=>?_
 rcases x1 with x1 | x1
 exact yC ZhP fun x2 _=>
  yC Zen fun x3 _=>
  yBr yR
 exact yC Zen fun x4 _=>
  yC Zen fun x5 _=>
  yBr yR))
  yR
def Zrp (b:Int) (mG:List Int):(Unit⊕Unit)->V×Zl
  | (.inl r)=>((.d (D.tup [(zL true (List.take b.toNat mG)),(D.bool true)])),[(.ch (List.drop b.toNat mG))])
  | (.inr r)=>((.d (D.tup [(zL true ([]:List Int)),(D.bool false)])),[(.ch ([]:List Int))])
theorem Zqv {b:Int}{mG:List Int}:∀r,(ZlE b mG)=some r->evW ctx 35 [(.ch 0),(zN b)] [(.ch mG)]=some ((Zrp b mG) r):=
 evS ZG3 rfl rfl <| yBm (yB (yT yR)
  (yF yR))
def Zqd (r:Bool):D:=(D.bool r)
theorem Zpf {a:Zf}:∀r,(Zc4 a)=some r->evD ctx 94 [(.d (zK2 a.total a.long a.most a.deadline a.period))]=some (Zqd r):=
 evT ZFv rfl rfl <| yC Zh6 fun x0 _=>
  yBr (yC ZhT fun x1 _=>
  yBr yR)
def ZeZ (r:Int):D:=(Zm r)
def ZbV (t0:Bool) (a:List Zf):(Int⊕Unit)->Ex×List V×Zl
  | (.inl r)=>(.ret,[(zN r)],[])
  | (.inr r)=>(.exit 0,[.bad],[])
theorem ZdZ {t0:Bool}{a:List Zf}:∀(s0:Int) (r:(Int⊕Unit)),lp (ZaN a (fun z0=>Zc4 z0)) s0=some r->lpW ctx 0 [0,1,7,8] [4] Zx9 [(zW t0 Zu a),(.d (D.fn 94 [])),(zN (a.length:Int)),(zN s0)] []=some ((ZbV t0 a) r):=
 lpT (ZbV t0 a) fun s0 _ ih=>yB (yG fun x1 _=>
  yC Zpf fun x2 _=>
  yB (Zk rfl)
  (Zd (ih _)))
  (Zk rfl)
theorem ZeG {t0:Bool}{a:List Zf}:∀r,(ZcI a (fun z0=>Zc4 z0))=some r->evD ctx 121 [(zW t0 Zu a),(.d (D.fn 94 []))]=some (ZeZ r):=
 evT ZAg rfl rfl <| Zj (ZF _ _) (by
 conv=>rhs;whnf
 refine Zc _ (ZdZ _) fun r3 _=>?_
 rcases r3 with r3 | r3
 exact yR
 exact yR)
def Zel (r:Bool):D:=(D.bool r)
theorem ZdU {t0:Bool}{a:List Zf}:∀r,(Zbl a (fun z0=>Zc4 z0))=some r->evD ctx 95 [(zW t0 Zu a),(.d (D.fn 94 []))]=some (Zel r):=
 evT ZFg rfl rfl <| yC ZeG fun x0 _=>
  yBr yR
def ZsG (r:Int):D:=(Zm r)
theorem Zjf {t0:Bool}{a:List Zf}:∀r,(Zhm a)=some r->evD ctx 64 [(zW t0 Zu a)]=some (ZsG r):=
 evT ZEV rfl rfl <| Zj (ZF _ _) (yBr (yC ZdU fun x0 _=>
  yBr yR))
def Zqe (r:Bool):D:=(D.bool r)
theorem Zpq {a:Int}:∀r,(Zib a)=some r->evD ctx 65 [(zN a)]=some (Zqe r):=
 evT ZFP rfl rfl <| yB (yBr yR)
  yR
def Zo7 (r:Int):D:=(Zm r)
theorem ZK {t0:Bool}{a b:Int}{c0:List Zf}:∀r,(ZA a b c0)=some r->evD ctx 97 [(zN a),(zN b),(.d (D.rptr [(zM t0 Zu c0)]))]=some (Zo7 r):=
 evT ZFb rfl rfl <| yG fun x0 hx0=>
  yG fun x1 hx1=>
  yBr (Ze (Z4 rfl hx0) (Ze (Z4 rfl hx1) (yBr yR)))
def Zeo (t0:Bool) (b:Int) (c:Int) (mG:List Int) (mA:List Zf):(List Int)->V×Zl
  | r=>((.d (D.tup [])),[(zA r),(.cells [(zW t0 Zu mA)])])
def ZbF (t0:Bool) (b:Int) (c:Int) (mA:List Zf) (s0:Int×(List Int)):(List Int)->Ex×List V×Zl
  | r=>(.exit 2,[(.sl 0 1),(zN b),(zN c),(.fn 97 [(.ptr 1 0)]),(zN s0.1)],[(zA r),(.cells [(zW t0 Zu mA)])])
theorem Zdx {t0:Bool}{b c:Int}{mA:List Zf}{s0:Int×(List Int)}:∀(s1:Int×(List Int)) (r:List Int),lp (ZZ b (fun z0 z1=>ZA z0 z1 mA)) s1=some r->lpW ctx 2 [0,1,2,3,8,9] [0,1,2,3,8] ZuD [(.sl 0 1),(zN b),(zN c),(.fn 97 [(.ptr 1 0)]),(zN s0.1),(zN s1.1)] [(zA s1.2),(.cells [(zW t0 Zu mA)])]=some ((ZbF t0 b c mA s0) r):=
 lpT (ZbF t0 b c mA s0) fun s1 _ ih=>yB (yG fun x2 hx2=>
  Ze (Zi rfl hx2) (yG fun x3 hx3=>
  Ze (Zi rfl hx3) (yC ZK fun x4 _=>
  yB (Ze (Z4 rfl hx3) (Ze (Zi rfl hx3) (Ze (Z4 rfl hx2) (Ze (Zi rfl hx2) (Ze (Z4 rfl hx2) (Ze (Zi rfl hx2) (Zj (ZI Zm s1.2 s1.1.toNat x3) (yG fun x5 hx5=>
  Ze (Zi rfl hx5) (Zj (ZI Zm (List.set s1.2 s1.1.toNat x3) (w64 (s1.1-1)).toNat x2) (Zd (ih _)))))))))))
  (Zk rfl))))
  (Zk rfl)
def ZbI (t0:Bool) (b:Int) (c:Int) (mA:List Zf):(List Int)->Ex×List V×Zl
  | r=>(.exit 0,[],[(zA r),(.cells [(zW t0 Zu mA)])])
theorem ZdB {t0:Bool}{b c:Int}{mA:List Zf}:∀(s0:Int×(List Int)) (r:List Int),lp (Zak b c (fun z0 z1=>ZA z0 z1 mA)) s0=some r->lpW ctx 2 [0,1,2,3,8] [] ZuO [(.sl 0 1),(zN b),(zN c),(.fn 97 [(.ptr 1 0)]),(zN s0.1)] [(zA s0.2),(.cells [(zW t0 Zu mA)])]=some ((ZbI t0 b c mA) r):=
 lpT (ZbI t0 b c mA) fun s0 _ ih=>yB (Zc _ (Zdx _) fun r6 _=>
  Zd (ih _))
  (Zk rfl)
theorem Zaj {t0:Bool}{b c:Int}{mG:List Int}{mA:List Zf}:∀r,(ZY b c (fun z0 z1=>ZA z0 z1 mA) mG)=some r->evW ctx 145 [(.sl 0 1),(zN b),(zN c),(.fn 97 [(.ptr 1 0)])] [(zA mG),(.cells [(zW t0 Zu mA)])]=some ((Zeo t0 b c mG mA) r):=
 evS ZxU rfl rfl <| Zc _ (ZdB _) fun r7 _=>
  yR
def ZfE (t0:Bool) (b:Int) (c:Int) (d:Int) (mG:List Int) (mA:List Zf):(List Int)->V×Zl
  | r=>((.d (D.tup [])),[(zA r),(.cells [(zW t0 Zu mA)])])
def Zcl (t0:Bool) (c:Int) (d:Int) (mA:List Zf):((List Int)⊕(List Int))->Ex×List V×Zl
  | (.inl r)=>(.exit 0,[],[(zA r),(.cells [(zW t0 Zu mA)])])
  | (.inr r)=>(.ret,[],[(zA r),(.cells [(zW t0 Zu mA)])])
theorem ZeH {t0:Bool}{c d:Int}{mA:List Zf}:∀(s0:Int×(List Int)) (r:((List Int)⊕(List Int))),lp (ZJ c d (fun z0 z1=>ZA z0 z1 mA)) s0=some r->lpW ctx 2 [0,2,3,4,10] [] Zus [(.sl 0 1),(zN c),(zN d),(.fn 97 [(.ptr 1 0)]),(zN s0.1)] [(zA s0.2),(.cells [(zW t0 Zu mA)])]=some ((Zcl t0 c d mA) r):=
 lpT (Zcl t0 c d mA) fun s0 _ ih=>yB (Zk rfl)
  (yB (yG fun x1 hx1=>
  Ze (Zi rfl hx1) (yG fun x2 hx2=>
  Ze (Zi rfl hx2) (yC ZK fun x3 _=>
  yB (yG fun x4 hx4=>
  Ze (Zi rfl hx4) (yG fun x5 hx5=>
  Ze (Zi rfl hx5) (yC ZK fun x6 _=>
  yB (Ze (Z4 rfl hx5) (Ze (Zi rfl hx5) (Ze (Z4 rfl hx4) (Ze (Zi rfl hx4) (Ze (Z4 rfl hx4) (Ze (Zi rfl hx4) (Zj (ZI Zm s0.2 (w64 (d+s0.1)).toNat x5) (yG fun x7 hx7=>
  Ze (Zi rfl hx7) (Zj (ZI Zm (List.set s0.2 (w64 (d+s0.1)).toNat x5) (w64 (d+(w64 ((w64 ((w64 (2*s0.1))+1))+1)))).toNat x4) (Zd (ih _)))))))))))
  (Zk rfl))))
  (yG fun x8 hx8=>
  Ze (Zi rfl hx8) (Ze (Z4 rfl hx1) (Ze (Zi rfl hx1) (yC ZK fun x9 _=>
  yB (Ze (Z4 rfl hx1) (Ze (Zi rfl hx1) (Ze (Z4 rfl hx8) (Ze (Zi rfl hx8) (Ze (Z4 rfl hx8) (Ze (Zi rfl hx8) (Zj (ZI Zm s0.2 (w64 (d+s0.1)).toNat x1) (yG fun x10 hx10=>
  Ze (Zi rfl hx10) (Zj (ZI Zm (List.set s0.2 (w64 (d+s0.1)).toNat x1) (w64 (d+(w64 ((w64 (2*s0.1))+1)))).toNat x8) (Zd (ih _)))))))))))
  (Zk rfl))))))))
  (yG fun x11 hx11=>
  Ze (Zi rfl hx11) (yG fun x12 hx12=>
  Ze (Zi rfl hx12) (yC ZK fun x13 _=>
  yB (Ze (Z4 rfl hx12) (Ze (Zi rfl hx12) (Ze (Z4 rfl hx11) (Ze (Zi rfl hx11) (Ze (Z4 rfl hx11) (Ze (Zi rfl hx11) (Zj (ZI Zm s0.2 (w64 (d+s0.1)).toNat x12) (yG fun x14 hx14=>
  Ze (Zi rfl hx14) (Zj (ZI Zm (List.set s0.2 (w64 (d+s0.1)).toNat x12) (w64 (d+(w64 ((w64 (2*s0.1))+1)))).toNat x11) (Zd (ih _)))))))))))
  (Zk rfl)))))
theorem Zcx {t0:Bool}{b c d:Int}{mG:List Int}{mA:List Zf}:∀r,(ZaC b c d (fun z0 z1=>ZA z0 z1 mA) mG)=some r->evW ctx 160 [(.sl 0 1),(zN b),(zN c),(zN d),(.fn 97 [(.ptr 1 0)])] [(zA mG),(.cells [(zW t0 Zu mA)])]=some ((ZfE t0 b c d mG mA) r):=
 evS Zyl rfl rfl <| (by
 conv=>rhs;whnf
 refine Zc _ (ZeH _) fun r15 _=>?_
 rcases r15 with r15 | r15
 exact yR
 exact yR)
def ZfM (t0:Bool) (b:Int) (c:Int) (mG:List Int) (mA:List Zf):(List Int)->V×Zl
  | r=>((.d (D.tup [])),[(zA r),(.cells [(zW t0 Zu mA)])])
def Zce (t0:Bool) (b:Int) (c:Int) (mA:List Zf):(List Int)->Ex×List V×Zl
  | r=>(.exit 0,[(.sl 0 1),(.fn 97 [(.ptr 1 0)]),(zN b),(zN 0),(zN (w64 (c-b)))],[(zA r),(.cells [(zW t0 Zu mA)])])
theorem ZeJ {t0:Bool}{b c:Int}{mA:List Zf}:∀(s0:Int×(List Int)) (r:List Int),lp (ZaH b c (fun z0 z1=>ZA z0 z1 mA)) s0=some r->lpW ctx 2 [0,3,8,9,10,11] [0,3,8,9,10] Zua [(.sl 0 1),(.fn 97 [(.ptr 1 0)]),(zN b),(zN 0),(zN (w64 (c-b))),(zN s0.1)] [(zA s0.2),(.cells [(zW t0 Zu mA)])]=some ((Zce t0 b c mA) r):=
 lpT (Zce t0 b c mA) fun s0 _ ih=>yB (Zc _ Zcx fun x1 _=>
  Zd (ih _))
  (Zk rfl)
def Zck (t0:Bool) (b:Int) (mA:List Zf):(List Int)->Ex×List V×Zl
  | r=>(.exit 2,[],[(zA r),(.cells [(zW t0 Zu mA)])])
theorem ZeB {t0:Bool}{b:Int}{mA:List Zf}:∀(s3:Int×(List Int)) (r:List Int),lp (ZaJ b (fun z0 z1=>ZA z0 z1 mA)) s3=some r->lpW ctx 2 [0,3,8,9,12] [] Zuc [(.sl 0 1),(.fn 97 [(.ptr 1 0)]),(zN b),(zN 0),(zN s3.1)] [(zA s3.2),(.cells [(zW t0 Zu mA)])]=some ((Zck t0 b mA) r):=
 lpT (Zck t0 b mA) fun s3 _ ih=>yB (yG fun x4 hx4=>
  Ze (Zi rfl hx4) (yG fun x5 hx5=>
  Ze (Zi rfl hx5) (Ze (Z4 rfl hx5) (Ze (Zi rfl hx5) (Zj (ZI Zm s3.2 b.toNat x4) (yG fun x6 hx6=>
  Ze (Zi rfl hx6) (Zj (ZI Zm (List.set s3.2 b.toNat x4) (w64 (b+s3.1)).toNat x5) (Zc _ Zcx fun x7 _=>
  Zd (ih _)))))))))
  (Zk rfl)
theorem Zav {t0:Bool}{b c:Int}{mG:List Int}{mA:List Zf}:∀r,(Z9 b c (fun z0 z1=>ZA z0 z1 mA) mG)=some r->evW ctx 146 [(.sl 0 1),(zN b),(zN c),(.fn 97 [(.ptr 1 0)])] [(zA mG),(.cells [(zW t0 Zu mA)])]=some ((ZfM t0 b c mG mA) r):=
 evS ZyD rfl rfl <| yF (Zc _ (ZeJ _) fun r2 _=>
  Zc _ (ZeB _) fun r8 _=>
  yR)
def Zf1 (t0:Bool) (b:Int) (c:Int) (mG:List Int) (mA:Int) (mI:List Zf):(Int×Int×Int)->V×Zl
  | r=>((.d (D.tup [(Zm r.1),(Zm r.2.1)])),[(zA mG),(.cells [(zN r.2.2)]),(.cells [(zW t0 Zu mI)])])
theorem Zbn {t0:Bool}{b c:Int}{mG:List Int}{mA:Int}{mI:List Zf}:∀r,(ZaS b c (fun z0 z1=>ZA z0 z1 mI) mG mA)=some r->evW ctx 174 [(.sl 0 1),(zN b),(zN c),(.ptr 1 0),(.fn 97 [(.ptr 2 0)])] [(zA mG),(.cells [(zN mA)]),(.cells [(zW t0 Zu mI)])]=some ((Zf1 t0 b c mG mA mI) r):=
 evS Zyk rfl rfl <| yG fun x0 hx0=>
  Ze (Zi rfl hx0) (yG fun x1 hx1=>
  Ze (Zi rfl hx1) (yC ZK fun x2 _=>
  yBr yR))
def Zf5 (t0:Bool) (b:Int) (c:Int) (d:Int) (mG:List Int) (mA:Int) (mI:List Zf):(Int×Int)->V×Zl
  | r=>((zN r.1),[(zA mG),(.cells [(zN r.2)]),(.cells [(zW t0 Zu mI)])])
theorem Zbo {t0:Bool}{b c d:Int}{mG:List Int}{mA:Int}{mI:List Zf}:∀r,(ZaR b c d (fun z0 z1=>ZA z0 z1 mI) mG mA)=some r->evW ctx 164 [(.sl 0 1),(zN b),(zN c),(zN d),(.ptr 1 0),(.fn 97 [(.ptr 2 0)])] [(zA mG),(.cells [(zN mA)]),(.cells [(zW t0 Zu mI)])]=some ((Zf5 t0 b c d mG mA mI) r):=
 evS ZyC rfl rfl <| Zc _ Zbn fun x0 _=>
  Zc _ Zbn fun x1 _=>
  Zc _ Zbn fun x2 _=>
  yR
def Zd5 (t0:Bool) (b:Int) (mG:List Int) (mA:Int) (mI:List Zf):(Int×Int)->V×Zl
  | r=>((zN r.1),[(zA mG),(.cells [(zN r.2)]),(.cells [(zW t0 Zu mI)])])
theorem ZaP {t0:Bool}{b:Int}{mG:List Int}{mA:Int}{mI:List Zf}:∀r,(Zab b (fun z0 z1=>ZA z0 z1 mI) mG mA)=some r->evW ctx 163 [(.sl 0 1),(zN b),(.ptr 1 0),(.fn 97 [(.ptr 2 0)])] [(zA mG),(.cells [(zN mA)]),(.cells [(zW t0 Zu mI)])]=some ((Zd5 t0 b mG mA mI) r):=
 evS Zyy rfl rfl <| Zc _ Zbo fun x0 _=>
  yR
def Ze4 (t0:Bool) (b:Int) (c:Int) (mG:List Int) (mA:List Zf):(Int×Int)->V×Zl
  | r=>((.d (D.tup [(Zm r.1),(Zm r.2)])),[(zA mG),(.cells [(zW t0 Zu mA)])])
theorem Zam {t0:Bool}{b c:Int}{mG:List Int}{mA:List Zf}:∀r,(ZQ b c (fun z0 z1=>ZA z0 z1 mA) mG)=some r->evW ctx 148 [(.sl 0 1),(zN b),(zN c),(.fn 97 [(.ptr 1 0)])] [(zA mG),(.cells [(zW t0 Zu mA)])]=some ((Ze4 t0 b c mG mA) r):=
 evS Zyt rfl rfl <| yF (yF (yF (yB (yB (Zc _ ZaP fun x0 _=>
  Zc _ ZaP fun x1 _=>
  Zc _ ZaP fun x2 _=>
  Zc _ Zbo fun x3 _=>
  yBr (yBr yR))
  (Zc _ Zbo fun x4 _=>
  yBr (yBr yR)))
  (yT yR))))
def ZeE (t0:Bool) (b:Int) (c:Int) (mG:List Int) (mA:List Zf):(List Int)->V×Zl
  | r=>((.d (D.tup [])),[(zA r),(.cells [(zW t0 Zu mA)])])
def ZbO (t0:Bool) (mA:List Zf):(List Int)->Ex×List V×Zl
  | r=>(.exit 0,[],[(zA r),(.cells [(zW t0 Zu mA)])])
theorem ZdF {t0:Bool}{mA:List Zf}:∀(s0:Int×Int×(List Int)) (r:List Int),lp (Z6) s0=some r->lpW ctx 2 [0,8,9] [] Zu0 [(.sl 0 1),(zN s0.1),(zN s0.2.1)] [(zA s0.2.2),(.cells [(zW t0 Zu mA)])]=some ((ZbO t0 mA) r):=
 lpT (ZbO t0 mA) fun s0 _ ih=>yB (yG fun x1 hx1=>
  Ze (Zi rfl hx1) (yG fun x2 hx2=>
  Ze (Zi rfl hx2) (Ze (Z4 rfl hx2) (Ze (Zi rfl hx2) (Zj (ZI Zm s0.2.2 s0.1.toNat x1) (yG fun x3 hx3=>
  Ze (Zi rfl hx3) (Zj (ZI Zm (List.set s0.2.2 s0.1.toNat x1) s0.2.1.toNat x2) (Zd (ih _)))))))))
  (Zk rfl)
theorem Zal {t0:Bool}{b c:Int}{mG:List Int}{mA:List Zf}:∀r,(ZO b c (fun z0 z1=>ZA z0 z1 mA) mG)=some r->evW ctx 149 [(.sl 0 1),(zN b),(zN c),(.fn 97 [(.ptr 1 0)])] [(zA mG),(.cells [(zW t0 Zu mA)])]=some ((ZeE t0 b c mG mA) r):=
 evS Zyx rfl rfl <| Zc _ (ZdF _) fun r4 _=>
  yR
def Zdb (t0:Bool) (b:Int) (c:Int) (mG:List Int) (mA:List Zf):((List Int)⊕(List Int))->V×Zl
  | (.inl r)=>((.d (D.bool true)),[(zA r),(.cells [(zW t0 Zu mA)])])
  | (.inr r)=>((.d (D.bool false)),[(zA r),(.cells [(zW t0 Zu mA)])])
def Zbg (t0:Bool) (b:Int) (c:Int) (mA:List Zf) (s0:Int×Int×(List Int)):Int->Ex×List V×Zl
  | r=>(.exit 2,[(.sl 0 1),(zN b),(zN c),(.fn 97 [(.ptr 1 0)]),(zN r),(zN s0.2.1)],[(zA s0.2.2),(.cells [(zW t0 Zu mA)])])
theorem ZcO {t0:Bool}{b c:Int}{mA:List Zf}{s0:Int×Int×(List Int)}:∀(s1:Int) (r:Int),lp (ZM c (fun z0 z1=>ZA z0 z1 mA) s0) s1=some r->lpW ctx 2 [0,1,2,3,9,10] [0,1,2,3,9,10] Zu2 [(.sl 0 1),(zN b),(zN c),(.fn 97 [(.ptr 1 0)]),(zN s1),(zN s0.2.1)] [(zA s0.2.2),(.cells [(zW t0 Zu mA)])]=some ((Zbg t0 b c mA s0) r):=
 lpT (Zbg t0 b c mA s0) fun s1 _ ih=>yB (yG fun x2 hx2=>
  Ze (Zi rfl hx2) (yG fun x3 hx3=>
  Ze (Zi rfl hx3) (yC ZK fun x4 _=>
  yB (Zk rfl)
  (Zd (ih _)))))
  (Zk rfl)
def Zbd (t0:Bool) (b:Int) (c:Int) (mA:List Zf) (s0:Int×Int×(List Int)) (r5:Int):(List Int)->Ex×List V×Zl
  | r=>(.exit 4,[(.sl 0 1),(zN b),(zN c),(.fn 97 [(.ptr 1 0)]),(zN r5),(zN s0.2.1)],[(zA r),(.cells [(zW t0 Zu mA)])])
theorem ZcP {t0:Bool}{b c:Int}{mA:List Zf}{s0:Int×Int×(List Int)}{r5:Int}:∀(s9:Int×(List Int)) (r:List Int),lp (ZV (fun z0 z1=>ZA z0 z1 mA)) s9=some r->lpW ctx 2 [0,1,2,3,9,10,11] [0,1,2,3,9,10] Zuk [(.sl 0 1),(zN b),(zN c),(.fn 97 [(.ptr 1 0)]),(zN r5),(zN s0.2.1),(zN s9.1)] [(zA s9.2),(.cells [(zW t0 Zu mA)])]=some ((Zbd t0 b c mA s0 r5) r):=
 lpT (Zbd t0 b c mA s0 r5) fun s9 _ ih=>yB (yG fun x10 hx10=>
  Ze (Zi rfl hx10) (yG fun x11 hx11=>
  Ze (Zi rfl hx11) (yC ZK fun x12 _=>
  yB (Ze (Z4 rfl hx11) (Ze (Zi rfl hx11) (Ze (Z4 rfl hx10) (Ze (Zi rfl hx10) (Ze (Z4 rfl hx10) (Ze (Zi rfl hx10) (Zj (ZI Zm s9.2 s9.1.toNat x11) (yG fun x13 hx13=>
  Ze (Zi rfl hx13) (Zj (ZI Zm (List.set s9.2 s9.1.toNat x11) (w64 (s9.1-1)).toNat x10) (Zd (ih _)))))))))))
  (Zk rfl))))
  (Zk rfl)
def Zbh (t0:Bool) (b:Int) (c:Int) (mA:List Zf) (s0:Int×Int×(List Int)) (r5:Int):(List Int)->Ex×List V×Zl
  | r=>(.exit 6,[(.sl 0 1),(zN b),(zN c),(.fn 97 [(.ptr 1 0)]),(zN r5),(zN s0.2.1)],[(zA r),(.cells [(zW t0 Zu mA)])])
theorem Za8 {t0:Bool}{b c:Int}{mA:List Zf}{s0:Int×Int×(List Int)}{r5:Int}:∀(s15:Int×(List Int)) (r:List Int),lp (ZH c (fun z0 z1=>ZA z0 z1 mA)) s15=some r->lpW ctx 2 [0,1,2,3,9,10,12] [0,1,2,3,9,10] Zt3 [(.sl 0 1),(zN b),(zN c),(.fn 97 [(.ptr 1 0)]),(zN r5),(zN s0.2.1),(zN s15.1)] [(zA s15.2),(.cells [(zW t0 Zu mA)])]=some ((Zbh t0 b c mA s0 r5) r):=
 lpT (Zbh t0 b c mA s0 r5) fun s15 _ ih=>yB (yG fun x16 hx16=>
  Ze (Zi rfl hx16) (yG fun x17 hx17=>
  Ze (Zi rfl hx17) (yC ZK fun x18 _=>
  yB (Ze (Z4 rfl hx17) (Ze (Zi rfl hx17) (Ze (Z4 rfl hx16) (Ze (Zi rfl hx16) (Ze (Z4 rfl hx16) (Ze (Zi rfl hx16) (Zj (ZI Zm s15.2 s15.1.toNat x17) (yG fun x19 hx19=>
  Ze (Zi rfl hx19) (Zj (ZI Zm (List.set s15.2 s15.1.toNat x17) (w64 (s15.1-1)).toNat x16) (Zd (ih _)))))))))))
  (Zk rfl))))
  (Zk rfl)
def Zbc (t0:Bool) (b:Int) (c:Int) (mA:List Zf):((List Int)⊕((List Int)⊕(List Int)))->Ex×List V×Zl
  | (.inl r)=>(.ret,[(.d (D.bool true))],[(zA r),(.cells [(zW t0 Zu mA)])])
  | (.inr (.inl r))=>(.ret,[(.d (D.bool false))],[(zA r),(.cells [(zW t0 Zu mA)])])
  | (.inr (.inr r))=>(.exit 0,[.bad],[(zA r),(.cells [(zW t0 Zu mA)])])
theorem ZcQ {t0:Bool}{b c:Int}{mA:List Zf}:∀(s0:Int×Int×(List Int)) (r:((List Int)⊕((List Int)⊕(List Int)))),lp (ZU b c (fun z0 z1=>ZA z0 z1 mA)) s0=some r->lpW ctx 2 [0,1,2,3,9,10] [8] ZuJ [(.sl 0 1),(zN b),(zN c),(.fn 97 [(.ptr 1 0)]),(zN s0.1),(zN s0.2.1)] [(zA s0.2.2),(.cells [(zW t0 Zu mA)])]=some ((Zbc t0 b c mA) r):=
 lpT (Zbc t0 b c mA) fun s0 _ ih=>yB (Zc _ (ZcO _) fun r5 _=>
  yB (Zk rfl)
  (yB (Zk rfl)
  (yG fun x6 hx6=>
  Ze (Zi rfl hx6) (yG fun x7 hx7=>
  Ze (Zi rfl hx7) (Ze (Z4 rfl hx7) (Ze (Zi rfl hx7) (Zj (ZI Zm s0.2.2 r5.toNat x6) (yG fun x8 hx8=>
  Ze (Zi rfl hx8) (Zj (ZI Zm (List.set s0.2.2 r5.toNat x6) (w64 (r5-1)).toNat x7) (yB (Zc _ (ZcP _) fun r14 _=>
  yB (Zc _ (Za8 _) fun r20 _=>
  Zd (ih _))
  (Zd (ih _)))
  (yB (Zc _ (Za8 _) fun r26 _=>
  Zd (ih _))
  (Zd (ih _)))))))))))))
  (Zk rfl)
theorem Zbm {t0:Bool}{b c:Int}{mG:List Int}{mA:List Zf}:∀r,(ZT b c (fun z0 z1=>ZA z0 z1 mA) mG)=some r->evW ctx 150 [(.sl 0 1),(zN b),(zN c),(.fn 97 [(.ptr 1 0)])] [(zA mG),(.cells [(zW t0 Zu mA)])]=some ((Zdb t0 b c mG mA) r):=
 evS ZxN rfl rfl <| (by
 conv=>rhs;whnf
 refine Zc _ (ZcQ _) fun r27 _=>?_
 rcases r27 with r27 | (r27 | r27)
 exact yR
 exact yR
 exact yR)
def Zfq (t0:Bool) (b:Int) (c:Int) (d:Int) (mG:List Int) (mA:List Zf):((Int×(List Int))⊕(Int×(List Int)))->V×Zl
  | (.inl r)=>((.d (D.tup [(Zm r.1),(D.bool true)])),[(zA r.2),(.cells [(zW t0 Zu mA)])])
  | (.inr r)=>((.d (D.tup [(Zm r.1),(D.bool false)])),[(zA r.2),(.cells [(zW t0 Zu mA)])])
def Zca (t0:Bool) (b:Int) (c:Int) (d:Int) (mG:List Int) (mA:List Zf) (x0:Int) (x1:Int):Int->Ex×List V×Zl
  | r=>(.exit 0,[(.sl 0 1),(zN b),(.fn 97 [(.ptr 1 0)]),(zN r),(zN (w64 (c-1)))],[(zA (List.set (List.set mG b.toNat x0) d.toNat x1)),(.cells [(zW t0 Zu mA)])])
theorem Zew {t0:Bool}{b c d:Int}{mG:List Int}{mA:List Zf}{x0 x1:Int}:∀(s3:Int) (r:Int),lp (ZaA b c d mG (fun z0 z1=>ZA z0 z1 mA) x0 x1) s3=some r->lpW ctx 2 [0,1,4,12,13] [0,1,4,12,13] ZuX [(.sl 0 1),(zN b),(.fn 97 [(.ptr 1 0)]),(zN s3),(zN (w64 (c-1)))] [(zA (List.set (List.set mG b.toNat x0) d.toNat x1)),(.cells [(zW t0 Zu mA)])]=some ((Zca t0 b c d mG mA x0 x1) r):=
 lpT (Zca t0 b c d mG mA x0 x1) fun s3 _ ih=>yB (yG fun x4 hx4=>
  Ze (Zi rfl hx4) (yG fun x5 hx5=>
  Ze (Zi rfl hx5) (yC ZK fun x6 _=>
  yB (Zd (ih _))
  (Zk rfl))))
  (Zk rfl)
def Zb9 (t0:Bool) (b:Int) (d:Int) (mG:List Int) (mA:List Zf) (x0:Int) (x1:Int) (r7:Int):Int->Ex×List V×Zl
  | r=>(.exit 2,[(.sl 0 1),(zN b),(.fn 97 [(.ptr 1 0)]),(zN r7),(zN r)],[(zA (List.set (List.set mG b.toNat x0) d.toNat x1)),(.cells [(zW t0 Zu mA)])])
theorem Zer {t0:Bool}{b d:Int}{mG:List Int}{mA:List Zf}{x0 x1 r7:Int}:∀(s8:Int) (r:Int),lp (Zaz b d mG (fun z0 z1=>ZA z0 z1 mA) x0 x1 r7) s8=some r->lpW ctx 2 [0,1,4,12,13] [0,1,4,12,13] Zuf [(.sl 0 1),(zN b),(.fn 97 [(.ptr 1 0)]),(zN r7),(zN s8)] [(zA (List.set (List.set mG b.toNat x0) d.toNat x1)),(.cells [(zW t0 Zu mA)])]=some ((Zb9 t0 b d mG mA x0 x1 r7) r):=
 lpT (Zb9 t0 b d mG mA x0 x1 r7) fun s8 _ ih=>yB (yG fun x9 hx9=>
  Ze (Zi rfl hx9) (yG fun x10 hx10=>
  Ze (Zi rfl hx10) (yC ZK fun x11 _=>
  yB (Zk rfl)
  (Zd (ih _)))))
  (Zk rfl)
def Zcc (t0:Bool) (b:Int) (mA:List Zf) (s19:Int×Int×(List Int)):Int->Ex×List V×Zl
  | r=>(.exit 6,[(.sl 0 1),(zN b),(.fn 97 [(.ptr 1 0)]),(zN r),(zN s19.2.1)],[(zA s19.2.2),(.cells [(zW t0 Zu mA)])])
theorem Zeq {t0:Bool}{b:Int}{mA:List Zf}{s19:Int×Int×(List Int)}:∀(s20:Int) (r:Int),lp (ZaB b (fun z0 z1=>ZA z0 z1 mA) s19) s20=some r->lpW ctx 2 [0,1,4,12,13] [0,1,4,12,13] Zt7 [(.sl 0 1),(zN b),(.fn 97 [(.ptr 1 0)]),(zN s20),(zN s19.2.1)] [(zA s19.2.2),(.cells [(zW t0 Zu mA)])]=some ((Zcc t0 b mA s19) r):=
 lpT (Zcc t0 b mA s19) fun s20 _ ih=>yB (yG fun x21 hx21=>
  Ze (Zi rfl hx21) (yG fun x22 hx22=>
  Ze (Zi rfl hx22) (yC ZK fun x23 _=>
  yB (Zd (ih _))
  (Zk rfl))))
  (Zk rfl)
def Zcb (t0:Bool) (b:Int) (mA:List Zf) (s19:Int×Int×(List Int)) (r24:Int):Int->Ex×List V×Zl
  | r=>(.exit 8,[(.sl 0 1),(zN b),(.fn 97 [(.ptr 1 0)]),(zN r24),(zN r)],[(zA s19.2.2),(.cells [(zW t0 Zu mA)])])
theorem Zep {t0:Bool}{b:Int}{mA:List Zf}{s19:Int×Int×(List Int)}{r24:Int}:∀(s25:Int) (r:Int),lp (Zax b (fun z0 z1=>ZA z0 z1 mA) s19 r24) s25=some r->lpW ctx 2 [0,1,4,12,13] [0,1,4,12,13] Zu5 [(.sl 0 1),(zN b),(.fn 97 [(.ptr 1 0)]),(zN r24),(zN s25)] [(zA s19.2.2),(.cells [(zW t0 Zu mA)])]=some ((Zcb t0 b mA s19 r24) r):=
 lpT (Zcb t0 b mA s19 r24) fun s25 _ ih=>yB (yG fun x26 hx26=>
  Ze (Zi rfl hx26) (yG fun x27 hx27=>
  Ze (Zi rfl hx27) (yC ZK fun x28 _=>
  yB (Zk rfl)
  (Zd (ih _)))))
  (Zk rfl)
def Zb7 (t0:Bool) (b:Int) (mA:List Zf):(Int×(List Int))->Ex×List V×Zl
  | r=>(.exit 4,[(.sl 0 1),(zN b),(zN r.1)],[(zA r.2),(.cells [(zW t0 Zu mA)])])
theorem Zet {t0:Bool}{b:Int}{mA:List Zf}:∀(s19:Int×Int×(List Int)) (r:(Int×(List Int))),lp (ZaY b (fun z0 z1=>ZA z0 z1 mA)) s19=some r->lpW ctx 2 [0,1,4,12,13] [0,1,13] ZuF [(.sl 0 1),(zN b),(.fn 97 [(.ptr 1 0)]),(zN s19.1),(zN s19.2.1)] [(zA s19.2.2),(.cells [(zW t0 Zu mA)])]=some ((Zb7 t0 b mA) r):=
 lpT (Zb7 t0 b mA) fun s19 _ ih=>Zc _ (Zeq _) fun r24 _=>
  Zc _ (Zep _) fun r29 _=>
  yB (Zk rfl)
  (yG fun x30 hx30=>
  Ze (Zi rfl hx30) (yG fun x31 hx31=>
  Ze (Zi rfl hx31) (Ze (Z4 rfl hx31) (Ze (Zi rfl hx31) (Zj (ZI Zm s19.2.2 r24.toNat x30) (yG fun x32 hx32=>
  Ze (Zi rfl hx32) (Zj (ZI Zm (List.set s19.2.2 r24.toNat x30) r29.toNat x31) (Zd (ih _)))))))))
theorem Zo {t0:Bool}{b c d:Int}{mG:List Int}{mA:List Zf}:∀r,(Zs b c d (fun z0 z1=>ZA z0 z1 mA) mG)=some r->evW ctx 152 [(.sl 0 1),(zN b),(zN c),(zN d),(.fn 97 [(.ptr 1 0)])] [(zA mG),(.cells [(zW t0 Zu mA)])]=some ((Zfq t0 b c d mG mA) r):=
 evS Zx7 rfl rfl <| yG fun x0 hx0=>
  Ze (Zi rfl hx0) (yG fun x1 hx1=>
  Ze (Zi rfl hx1) (Ze (Z4 rfl hx1) (Ze (Zi rfl hx1) (Zj (ZI Zm mG b.toNat x0) (yG fun x2 hx2=>
  Ze (Zi rfl hx2) (Zj (ZI Zm (List.set mG b.toNat x0) d.toNat x1) (Zc _ (Zew _) fun r7 _=>
  Zc _ (Zer _) fun r12 _=>
  yB (yG fun x13 hx13=>
  Ze (Zi rfl hx13) (yG fun x14 hx14=>
  Ze (Zi rfl hx14) (Ze (Z4 rfl hx14) (Ze (Zi rfl hx14) (Zj (ZI Zm (List.set (List.set mG b.toNat x0) d.toNat x1) r12.toNat x13) (yG fun x15 hx15=>
  Ze (Zi rfl hx15) (Zj (ZI Zm (List.set (List.set (List.set mG b.toNat x0) d.toNat x1) r12.toNat x13) b.toNat x14) yR)))))))
  (yG fun x16 hx16=>
  Ze (Zi rfl hx16) (yG fun x17 hx17=>
  Ze (Zi rfl hx17) (Ze (Z4 rfl hx17) (Ze (Zi rfl hx17) (Zj (ZI Zm (List.set (List.set mG b.toNat x0) d.toNat x1) r7.toNat x16) (yG fun x18 hx18=>
  Ze (Zi rfl hx18) (Zj (ZI Zm (List.set (List.set (List.set mG b.toNat x0) d.toNat x1) r7.toNat x16) r12.toNat x17) (Zc _ (Zet _) fun r33 _=>
  yG fun x34 hx34=>
  Ze (Zi rfl hx34) (yG fun x35 hx35=>
  Ze (Zi rfl hx35) (Ze (Z4 rfl hx35) (Ze (Zi rfl hx35) (Zj (ZI Zm r33.2 r33.1.toNat x34) (yG fun x36 hx36=>
  Ze (Zi rfl hx36) (Zj (ZI Zm (List.set r33.2 r33.1.toNat x34) b.toNat x35) yR)))))))))))))))))))))
def Zea (t0:Bool) (b:Int) (c:Int) (d:Int) (mG:List Int) (mA:List Zf):(Int×(List Int))->V×Zl
  | r=>((zN r.1),[(zA r.2),(.cells [(zW t0 Zu mA)])])
def ZbC (t0:Bool) (b:Int) (mA:List Zf) (s3:Int×Int×(List Int)):Int->Ex×List V×Zl
  | r=>(.exit 2,[(.sl 0 1),(zN b),(.fn 97 [(.ptr 1 0)]),(zN r),(zN s3.2.1)],[(zA s3.2.2),(.cells [(zW t0 Zu mA)])])
theorem Zdw {t0:Bool}{b:Int}{mA:List Zf}{s3:Int×Int×(List Int)}:∀(s4:Int) (r:Int),lp (Zaf b (fun z0 z1=>ZA z0 z1 mA) s3) s4=some r->lpW ctx 2 [0,1,4,11,12] [0,1,4,11,12] Zva [(.sl 0 1),(zN b),(.fn 97 [(.ptr 1 0)]),(zN s4),(zN s3.2.1)] [(zA s3.2.2),(.cells [(zW t0 Zu mA)])]=some ((ZbC t0 b mA s3) r):=
 lpT (ZbC t0 b mA s3) fun s4 _ ih=>yB (yG fun x5 hx5=>
  Ze (Zi rfl hx5) (yG fun x6 hx6=>
  Ze (Zi rfl hx6) (yC ZK fun x7 _=>
  yB (Zk rfl)
  (Zd (ih _)))))
  (Zk rfl)
def ZbD (t0:Bool) (b:Int) (mA:List Zf) (s3:Int×Int×(List Int)) (r8:Int):Int->Ex×List V×Zl
  | r=>(.exit 4,[(.sl 0 1),(zN b),(.fn 97 [(.ptr 1 0)]),(zN r8),(zN r)],[(zA s3.2.2),(.cells [(zW t0 Zu mA)])])
theorem Zdv {t0:Bool}{b:Int}{mA:List Zf}{s3:Int×Int×(List Int)}{r8:Int}:∀(s9:Int) (r:Int),lp (Zag b (fun z0 z1=>ZA z0 z1 mA) s3 r8) s9=some r->lpW ctx 2 [0,1,4,11,12] [0,1,4,11,12] ZuA [(.sl 0 1),(zN b),(.fn 97 [(.ptr 1 0)]),(zN r8),(zN s9)] [(zA s3.2.2),(.cells [(zW t0 Zu mA)])]=some ((ZbD t0 b mA s3 r8) r):=
 lpT (ZbD t0 b mA s3 r8) fun s9 _ ih=>yB (yG fun x10 hx10=>
  Ze (Zi rfl hx10) (yG fun x11 hx11=>
  Ze (Zi rfl hx11) (yC ZK fun x12 _=>
  yB (Zd (ih _))
  (Zk rfl))))
  (Zk rfl)
def ZbA (t0:Bool) (b:Int) (mA:List Zf):(Int×(List Int))->Ex×List V×Zl
  | r=>(.exit 0,[(zN r.1)],[(zA r.2),(.cells [(zW t0 Zu mA)])])
theorem Zdp {t0:Bool}{b:Int}{mA:List Zf}:∀(s3:Int×Int×(List Int)) (r:(Int×(List Int))),lp (Zay b (fun z0 z1=>ZA z0 z1 mA)) s3=some r->lpW ctx 2 [0,1,4,11,12] [11] ZuK [(.sl 0 1),(zN b),(.fn 97 [(.ptr 1 0)]),(zN s3.1),(zN s3.2.1)] [(zA s3.2.2),(.cells [(zW t0 Zu mA)])]=some ((ZbA t0 b mA) r):=
 lpT (ZbA t0 b mA) fun s3 _ ih=>Zc _ (Zdw _) fun r8 _=>
  Zc _ (Zdv _) fun r13 _=>
  yB (Zk rfl)
  (yG fun x14 hx14=>
  Ze (Zi rfl hx14) (yG fun x15 hx15=>
  Ze (Zi rfl hx15) (Ze (Z4 rfl hx15) (Ze (Zi rfl hx15) (Zj (ZI Zm s3.2.2 r8.toNat x14) (yG fun x16 hx16=>
  Ze (Zi rfl hx16) (Zj (ZI Zm (List.set s3.2.2 r8.toNat x14) r13.toNat x15) (Zd (ih _)))))))))
theorem ZB {t0:Bool}{b c d:Int}{mG:List Int}{mA:List Zf}:∀r,(ZC b c d (fun z0 z1=>ZA z0 z1 mA) mG)=some r->evW ctx 151 [(.sl 0 1),(zN b),(zN c),(zN d),(.fn 97 [(.ptr 1 0)])] [(zA mG),(.cells [(zW t0 Zu mA)])]=some ((Zea t0 b c d mG mA) r):=
 evS Zyc rfl rfl <| yG fun x0 hx0=>
  Ze (Zi rfl hx0) (yG fun x1 hx1=>
  Ze (Zi rfl hx1) (Ze (Z4 rfl hx1) (Ze (Zi rfl hx1) (Zj (ZI Zm mG b.toNat x0) (yG fun x2 hx2=>
  Ze (Zi rfl hx2) (Zj (ZI Zm (List.set mG b.toNat x0) d.toNat x1) (Zc _ (Zdp _) fun r17 _=>
  yR)))))))
def Zeu (t0:Bool) (b:Int) (c:Int) (mG:List Int) (mA:List Zf):(List Int)->V×Zl
  | r=>((.d (D.tup [])),[(zA r),(.cells [(zW t0 Zu mA)])])
def ZbH (t0:Bool) (b:Int) (c:Int) (mA:List Zf) (x0:Int):(List Int)->Ex×List V×Zl
  | r=>(.exit 0,[],[(zA r),(.cells [(zW t0 Zu mA)])])
theorem Zdz {t0:Bool}{b c:Int}{mA:List Zf}{x0:Int}:∀(s1:Int×(List Int)×Int) (r:List Int),lp (ZaG b c x0) s1=some r->lpW ctx 2 [0,1,8,9,10,11] [] ZtZ [(.sl 0 1),(zN b),(zN (w64 (c-b))),(.ptr 2 0),(.d (D.int .u64 x0)),(zN s1.1)] [(zA s1.2.1),(.cells [(zW t0 Zu mA)]),(.cells [(.d (D.int .u64 s1.2.2))])]=some ((ZbH t0 b c mA x0) r):=
 lpT (ZbH t0 b c mA x0) fun s1 _ ih=>yF (yB (Zc _ ZgT fun x2 _=>
  yB (yG fun x3 hx3=>
  Ze (Zi rfl hx3) (yG fun x4 hx4=>
  Ze (Zi rfl hx4) (Ze (Z4 rfl hx4) (Ze (Zi rfl hx4) (Zj (ZI Zm s1.2.1 s1.1.toNat x3) (yG fun x5 hx5=>
  Ze (Zi rfl hx5) (Zj (ZI Zm (List.set s1.2.1 s1.1.toNat x3) (w64 (b+(w64 ((w64 (u64.wrap (Zp (u64.wrap (Zp (u64.wrap (Zp (u64.wrap (Zp s1.2.2 ^^^ Zp (u64.wrap (s1.2.2*2 ^ 13))).toNat) ^^^ Zp (Int.fdiv (u64.wrap (Zp s1.2.2 ^^^ Zp (u64.wrap (s1.2.2*2 ^ 13))).toNat) (2 ^ 7))).toNat) ^^^ Zp (u64.wrap ((u64.wrap (Zp (u64.wrap (Zp s1.2.2 ^^^ Zp (u64.wrap (s1.2.2*2 ^ 13))).toNat) ^^^ Zp (Int.fdiv (u64.wrap (Zp s1.2.2 ^^^ Zp (u64.wrap (s1.2.2*2 ^ 13))).toNat) (2 ^ 7))).toNat)*2 ^ 17))).toNat) &&& Zp (u64.wrap (x0-1))).toNat))-(w64 (c-b)))))).toNat x4) (Zd (ih _)))))))))
  (yG fun x6 hx6=>
  Ze (Zi rfl hx6) (yG fun x7 hx7=>
  Ze (Zi rfl hx7) (Ze (Z4 rfl hx7) (Ze (Zi rfl hx7) (Zj (ZI Zm s1.2.1 s1.1.toNat x6) (yG fun x8 hx8=>
  Ze (Zi rfl hx8) (Zj (ZI Zm (List.set s1.2.1 s1.1.toNat x6) (w64 (b+(w64 (u64.wrap (Zp (u64.wrap (Zp (u64.wrap (Zp (u64.wrap (Zp s1.2.2 ^^^ Zp (u64.wrap (s1.2.2*2 ^ 13))).toNat) ^^^ Zp (Int.fdiv (u64.wrap (Zp s1.2.2 ^^^ Zp (u64.wrap (s1.2.2*2 ^ 13))).toNat) (2 ^ 7))).toNat) ^^^ Zp (u64.wrap ((u64.wrap (Zp (u64.wrap (Zp s1.2.2 ^^^ Zp (u64.wrap (s1.2.2*2 ^ 13))).toNat) ^^^ Zp (Int.fdiv (u64.wrap (Zp s1.2.2 ^^^ Zp (u64.wrap (s1.2.2*2 ^ 13))).toNat) (2 ^ 7))).toNat)*2 ^ 17))).toNat) &&& Zp (u64.wrap (x0-1))).toNat)))).toNat x7) (Zd (ih _))))))))))
  (Zk rfl))
theorem ZbR {t0:Bool}{b c:Int}{mG:List Int}{mA:List Zf}:∀r,(Zad b c (fun z0 z1=>ZA z0 z1 mA) mG)=some r->evW ctx 147 [(.sl 0 1),(zN b),(zN c),(.fn 97 [(.ptr 1 0)])] [(zA mG),(.cells [(zW t0 Zu mA)])]=some ((Zeu t0 b c mG mA) r):=
 evS Zx1 rfl rfl <| yB (yC Zgv fun x0 _=>
  yF (Zc _ (Zdz _) fun r9 _=>
  yR))
  yR
def Zb (t0:Bool) (b:Int) (c:Int) (d:Int) (mG:List Int) (mA:List Zf):(List Int)->V×Zl
  | r=>((.d (D.tup [])),[(zA r),(.cells [(zW t0 Zu mA)])])
def Zcr (t0:Bool) (mA:List Zf) (rc:Int->Int->Int->(Int->Int->Option Int)->(List Int)->Option (List Int)):(List Int)->Ex×List V×Zl
  | r=>(.ret,[],[(zA r),(.cells [(zW t0 Zu mA)])])
theorem Ze6 {t0:Bool}{mA:List Zf}{rc:Int->Int->Int->(Int->Int->Option Int)->(List Int)->Option (List Int)} (hrc:∀(t0:Bool) (b:Int) (c:Int) (d:Int) (mG:List Int) (mA:List Zf) (r:List Int),rc b c d (fun z0 z1=>ZA z0 z1 mA) mG=some r->evW ctx 122 [(.sl 0 1),(zN b),(zN c),(zN d),(.fn 97 [(.ptr 1 0)])] [(zA mG),(.cells [(zW t0 Zu mA)])]=some ((Zb t0 b c d mG mA) r)):∀(s0:Int×Int×Int×Bool×Bool×(List Int)) (r:List Int),lp (Zz (fun z0 z1=>ZA z0 z1 mA) rc) s0=some r->lpW ctx 2 [0,1,2,3,4,10,11] [] ZuV [(.sl 0 1),(zN s0.1),(zN s0.2.1),(zN s0.2.2.1),(.fn 97 [(.ptr 1 0)]),(.d (D.bool s0.2.2.2.1)),(.d (D.bool s0.2.2.2.2.1))] [(zA s0.2.2.2.2.2),(.cells [(zW t0 Zu mA)])]=some ((Zcr t0 mA rc) r):=
 lpT (Zcr t0 mA rc) fun s0 _ ih=>(by
 try unfold Zz
 rcases hb:s0.2.2.2.1 with _ | _
 exact Zpt (by
 try unfold Zz
 rcases hb:s0.2.2.2.2.1 with _ | _
 exact Zpt (yB (Zc _ Zaj fun x170 _=>
  Zk rfl)
  (yB (Zc _ Zav fun x171 _=>
  Zk rfl)
  (Zc _ ZbR fun x172 _=>
  Zc _ Zam fun x173 _=>
  yB (Zc _ Zal fun x174 _=>
  yB (yG fun x175 hx175=>
  Ze (Zi rfl hx175) (yG fun x176 hx176=>
  Ze (Zi rfl hx176) (yC ZK fun x177 _=>
  yB ((by
 conv=>rhs;whnf
 refine Zc _ Zo fun x178 _=>?_
 rcases x178 with x178 | x178
 exact yT (yF (yB (yB (Zc (Zb t0 s0.1 x178.1 (w64 (s0.2.2.1-1)) x178.2 mA) (hrc t0 s0.1 x178.1 (w64 (s0.2.2.1-1)) x178.2 mA) fun x179 _=>
  Zd (ih _))
  (Zc (Zb t0 s0.1 x178.1 (w64 (s0.2.2.1-1)) x178.2 mA) (hrc t0 s0.1 x178.1 (w64 (s0.2.2.1-1)) x178.2 mA) fun x180 _=>
  Zd (ih _)))
  (yB (Zc (Zb t0 (w64 (x178.1+1)) s0.2.1 (w64 (s0.2.2.1-1)) x178.2 mA) (hrc t0 (w64 (x178.1+1)) s0.2.1 (w64 (s0.2.2.1-1)) x178.2 mA) fun x181 _=>
  Zd (ih _))
  (Zc (Zb t0 (w64 (x178.1+1)) s0.2.1 (w64 (s0.2.2.1-1)) x178.2 mA) (hrc t0 (w64 (x178.1+1)) s0.2.1 (w64 (s0.2.2.1-1)) x178.2 mA) fun x182 _=>
  Zd (ih _)))))
 exact yF (yF (yB (yB (Zc (Zb t0 s0.1 x178.1 (w64 (s0.2.2.1-1)) x178.2 mA) (hrc t0 s0.1 x178.1 (w64 (s0.2.2.1-1)) x178.2 mA) fun x183 _=>
  Zd (ih _))
  (Zc (Zb t0 s0.1 x178.1 (w64 (s0.2.2.1-1)) x178.2 mA) (hrc t0 s0.1 x178.1 (w64 (s0.2.2.1-1)) x178.2 mA) fun x184 _=>
  Zd (ih _)))
  (yB (Zc (Zb t0 (w64 (x178.1+1)) s0.2.1 (w64 (s0.2.2.1-1)) x178.2 mA) (hrc t0 (w64 (x178.1+1)) s0.2.1 (w64 (s0.2.2.1-1)) x178.2 mA) fun x185 _=>
  Zd (ih _))
  (Zc (Zb t0 (w64 (x178.1+1)) s0.2.1 (w64 (s0.2.2.1-1)) x178.2 mA) (hrc t0 (w64 (x178.1+1)) s0.2.1 (w64 (s0.2.2.1-1)) x178.2 mA) fun x186 _=>
  Zd (ih _)))))))
  (Zc _ ZB fun x187 _=>
  Zd (ih _)))))
  (by
 conv=>rhs;whnf
 refine Zc _ Zo fun x188 _=>?_
 rcases x188 with x188 | x188
 exact yT (yF (yB (yB (Zc (Zb t0 s0.1 x188.1 (w64 (s0.2.2.1-1)) x188.2 mA) (hrc t0 s0.1 x188.1 (w64 (s0.2.2.1-1)) x188.2 mA) fun x189 _=>
  Zd (ih _))
  (Zc (Zb t0 s0.1 x188.1 (w64 (s0.2.2.1-1)) x188.2 mA) (hrc t0 s0.1 x188.1 (w64 (s0.2.2.1-1)) x188.2 mA) fun x190 _=>
  Zd (ih _)))
  (yB (Zc (Zb t0 (w64 (x188.1+1)) s0.2.1 (w64 (s0.2.2.1-1)) x188.2 mA) (hrc t0 (w64 (x188.1+1)) s0.2.1 (w64 (s0.2.2.1-1)) x188.2 mA) fun x191 _=>
  Zd (ih _))
  (Zc (Zb t0 (w64 (x188.1+1)) s0.2.1 (w64 (s0.2.2.1-1)) x188.2 mA) (hrc t0 (w64 (x188.1+1)) s0.2.1 (w64 (s0.2.2.1-1)) x188.2 mA) fun x192 _=>
  Zd (ih _)))))
 exact yF (yF (yB (yB (Zc (Zb t0 s0.1 x188.1 (w64 (s0.2.2.1-1)) x188.2 mA) (hrc t0 s0.1 x188.1 (w64 (s0.2.2.1-1)) x188.2 mA) fun x193 _=>
  Zd (ih _))
  (Zc (Zb t0 s0.1 x188.1 (w64 (s0.2.2.1-1)) x188.2 mA) (hrc t0 s0.1 x188.1 (w64 (s0.2.2.1-1)) x188.2 mA) fun x194 _=>
  Zd (ih _)))
  (yB (Zc (Zb t0 (w64 (x188.1+1)) s0.2.1 (w64 (s0.2.2.1-1)) x188.2 mA) (hrc t0 (w64 (x188.1+1)) s0.2.1 (w64 (s0.2.2.1-1)) x188.2 mA) fun x195 _=>
  Zd (ih _))
  (Zc (Zb t0 (w64 (x188.1+1)) s0.2.1 (w64 (s0.2.2.1-1)) x188.2 mA) (hrc t0 (w64 (x188.1+1)) s0.2.1 (w64 (s0.2.2.1-1)) x188.2 mA) fun x196 _=>
  Zd (ih _)))))))
  (yB (yG fun x197 hx197=>
  Ze (Zi rfl hx197) (yG fun x198 hx198=>
  Ze (Zi rfl hx198) (yC ZK fun x199 _=>
  yB ((by
 conv=>rhs;whnf
 refine Zc _ Zo fun x200 _=>?_
 rcases x200 with x200 | x200
 exact yT (yF (yB (yB (Zc (Zb t0 s0.1 x200.1 (w64 (s0.2.2.1-1)) x200.2 mA) (hrc t0 s0.1 x200.1 (w64 (s0.2.2.1-1)) x200.2 mA) fun x201 _=>
  Zd (ih _))
  (Zc (Zb t0 s0.1 x200.1 (w64 (s0.2.2.1-1)) x200.2 mA) (hrc t0 s0.1 x200.1 (w64 (s0.2.2.1-1)) x200.2 mA) fun x202 _=>
  Zd (ih _)))
  (yB (Zc (Zb t0 (w64 (x200.1+1)) s0.2.1 (w64 (s0.2.2.1-1)) x200.2 mA) (hrc t0 (w64 (x200.1+1)) s0.2.1 (w64 (s0.2.2.1-1)) x200.2 mA) fun x203 _=>
  Zd (ih _))
  (Zc (Zb t0 (w64 (x200.1+1)) s0.2.1 (w64 (s0.2.2.1-1)) x200.2 mA) (hrc t0 (w64 (x200.1+1)) s0.2.1 (w64 (s0.2.2.1-1)) x200.2 mA) fun x204 _=>
  Zd (ih _)))))
 exact yF (yF (yB (yB (Zc (Zb t0 s0.1 x200.1 (w64 (s0.2.2.1-1)) x200.2 mA) (hrc t0 s0.1 x200.1 (w64 (s0.2.2.1-1)) x200.2 mA) fun x205 _=>
  Zd (ih _))
  (Zc (Zb t0 s0.1 x200.1 (w64 (s0.2.2.1-1)) x200.2 mA) (hrc t0 s0.1 x200.1 (w64 (s0.2.2.1-1)) x200.2 mA) fun x206 _=>
  Zd (ih _)))
  (yB (Zc (Zb t0 (w64 (x200.1+1)) s0.2.1 (w64 (s0.2.2.1-1)) x200.2 mA) (hrc t0 (w64 (x200.1+1)) s0.2.1 (w64 (s0.2.2.1-1)) x200.2 mA) fun x207 _=>
  Zd (ih _))
  (Zc (Zb t0 (w64 (x200.1+1)) s0.2.1 (w64 (s0.2.2.1-1)) x200.2 mA) (hrc t0 (w64 (x200.1+1)) s0.2.1 (w64 (s0.2.2.1-1)) x200.2 mA) fun x208 _=>
  Zd (ih _)))))))
  (Zc _ ZB fun x209 _=>
  Zd (ih _)))))
  (by
 conv=>rhs;whnf
 refine Zc _ Zo fun x210 _=>?_
 rcases x210 with x210 | x210
 exact yT (yF (yB (yB (Zc (Zb t0 s0.1 x210.1 (w64 (s0.2.2.1-1)) x210.2 mA) (hrc t0 s0.1 x210.1 (w64 (s0.2.2.1-1)) x210.2 mA) fun x211 _=>
  Zd (ih _))
  (Zc (Zb t0 s0.1 x210.1 (w64 (s0.2.2.1-1)) x210.2 mA) (hrc t0 s0.1 x210.1 (w64 (s0.2.2.1-1)) x210.2 mA) fun x212 _=>
  Zd (ih _)))
  (yB (Zc (Zb t0 (w64 (x210.1+1)) s0.2.1 (w64 (s0.2.2.1-1)) x210.2 mA) (hrc t0 (w64 (x210.1+1)) s0.2.1 (w64 (s0.2.2.1-1)) x210.2 mA) fun x213 _=>
  Zd (ih _))
  (Zc (Zb t0 (w64 (x210.1+1)) s0.2.1 (w64 (s0.2.2.1-1)) x210.2 mA) (hrc t0 (w64 (x210.1+1)) s0.2.1 (w64 (s0.2.2.1-1)) x210.2 mA) fun x214 _=>
  Zd (ih _)))))
 exact yF (yF (yB (yB (Zc (Zb t0 s0.1 x210.1 (w64 (s0.2.2.1-1)) x210.2 mA) (hrc t0 s0.1 x210.1 (w64 (s0.2.2.1-1)) x210.2 mA) fun x215 _=>
  Zd (ih _))
  (Zc (Zb t0 s0.1 x210.1 (w64 (s0.2.2.1-1)) x210.2 mA) (hrc t0 s0.1 x210.1 (w64 (s0.2.2.1-1)) x210.2 mA) fun x216 _=>
  Zd (ih _)))
  (yB (Zc (Zb t0 (w64 (x210.1+1)) s0.2.1 (w64 (s0.2.2.1-1)) x210.2 mA) (hrc t0 (w64 (x210.1+1)) s0.2.1 (w64 (s0.2.2.1-1)) x210.2 mA) fun x217 _=>
  Zd (ih _))
  (Zc (Zb t0 (w64 (x210.1+1)) s0.2.1 (w64 (s0.2.2.1-1)) x210.2 mA) (hrc t0 (w64 (x210.1+1)) s0.2.1 (w64 (s0.2.2.1-1)) x210.2 mA) fun x218 _=>
  Zd (ih _))))))))))
 exact ZoT (yB (Zc _ Zaj fun x121 _=>
  Zk rfl)
  (yB (Zc _ Zav fun x122 _=>
  Zk rfl)
  (Zc _ ZbR fun x123 _=>
  Zc _ Zam fun x124 _=>
  yB (Zc _ Zal fun x125 _=>
  yB (yG fun x126 hx126=>
  Ze (Zi rfl hx126) (yG fun x127 hx127=>
  Ze (Zi rfl hx127) (yC ZK fun x128 _=>
  yB ((by
 conv=>rhs;whnf
 refine Zc _ Zo fun x129 _=>?_
 rcases x129 with x129 | x129
 exact yT (yF (yB (yB (Zc (Zb t0 s0.1 x129.1 (w64 (s0.2.2.1-1)) x129.2 mA) (hrc t0 s0.1 x129.1 (w64 (s0.2.2.1-1)) x129.2 mA) fun x130 _=>
  Zd (ih _))
  (Zc (Zb t0 s0.1 x129.1 (w64 (s0.2.2.1-1)) x129.2 mA) (hrc t0 s0.1 x129.1 (w64 (s0.2.2.1-1)) x129.2 mA) fun x131 _=>
  Zd (ih _)))
  (yB (Zc (Zb t0 (w64 (x129.1+1)) s0.2.1 (w64 (s0.2.2.1-1)) x129.2 mA) (hrc t0 (w64 (x129.1+1)) s0.2.1 (w64 (s0.2.2.1-1)) x129.2 mA) fun x132 _=>
  Zd (ih _))
  (Zc (Zb t0 (w64 (x129.1+1)) s0.2.1 (w64 (s0.2.2.1-1)) x129.2 mA) (hrc t0 (w64 (x129.1+1)) s0.2.1 (w64 (s0.2.2.1-1)) x129.2 mA) fun x133 _=>
  Zd (ih _)))))
 exact yF (yF (yB (yB (Zc (Zb t0 s0.1 x129.1 (w64 (s0.2.2.1-1)) x129.2 mA) (hrc t0 s0.1 x129.1 (w64 (s0.2.2.1-1)) x129.2 mA) fun x134 _=>
  Zd (ih _))
  (Zc (Zb t0 s0.1 x129.1 (w64 (s0.2.2.1-1)) x129.2 mA) (hrc t0 s0.1 x129.1 (w64 (s0.2.2.1-1)) x129.2 mA) fun x135 _=>
  Zd (ih _)))
  (yB (Zc (Zb t0 (w64 (x129.1+1)) s0.2.1 (w64 (s0.2.2.1-1)) x129.2 mA) (hrc t0 (w64 (x129.1+1)) s0.2.1 (w64 (s0.2.2.1-1)) x129.2 mA) fun x136 _=>
  Zd (ih _))
  (Zc (Zb t0 (w64 (x129.1+1)) s0.2.1 (w64 (s0.2.2.1-1)) x129.2 mA) (hrc t0 (w64 (x129.1+1)) s0.2.1 (w64 (s0.2.2.1-1)) x129.2 mA) fun x137 _=>
  Zd (ih _)))))))
  (Zc _ ZB fun x138 _=>
  Zd (ih _)))))
  (by
 conv=>rhs;whnf
 refine Zc _ Zo fun x139 _=>?_
 rcases x139 with x139 | x139
 exact yT (yF (yB (yB (Zc (Zb t0 s0.1 x139.1 (w64 (s0.2.2.1-1)) x139.2 mA) (hrc t0 s0.1 x139.1 (w64 (s0.2.2.1-1)) x139.2 mA) fun x140 _=>
  Zd (ih _))
  (Zc (Zb t0 s0.1 x139.1 (w64 (s0.2.2.1-1)) x139.2 mA) (hrc t0 s0.1 x139.1 (w64 (s0.2.2.1-1)) x139.2 mA) fun x141 _=>
  Zd (ih _)))
  (yB (Zc (Zb t0 (w64 (x139.1+1)) s0.2.1 (w64 (s0.2.2.1-1)) x139.2 mA) (hrc t0 (w64 (x139.1+1)) s0.2.1 (w64 (s0.2.2.1-1)) x139.2 mA) fun x142 _=>
  Zd (ih _))
  (Zc (Zb t0 (w64 (x139.1+1)) s0.2.1 (w64 (s0.2.2.1-1)) x139.2 mA) (hrc t0 (w64 (x139.1+1)) s0.2.1 (w64 (s0.2.2.1-1)) x139.2 mA) fun x143 _=>
  Zd (ih _)))))
 exact yF (yF (yB (yB (Zc (Zb t0 s0.1 x139.1 (w64 (s0.2.2.1-1)) x139.2 mA) (hrc t0 s0.1 x139.1 (w64 (s0.2.2.1-1)) x139.2 mA) fun x144 _=>
  Zd (ih _))
  (Zc (Zb t0 s0.1 x139.1 (w64 (s0.2.2.1-1)) x139.2 mA) (hrc t0 s0.1 x139.1 (w64 (s0.2.2.1-1)) x139.2 mA) fun x145 _=>
  Zd (ih _)))
  (yB (Zc (Zb t0 (w64 (x139.1+1)) s0.2.1 (w64 (s0.2.2.1-1)) x139.2 mA) (hrc t0 (w64 (x139.1+1)) s0.2.1 (w64 (s0.2.2.1-1)) x139.2 mA) fun x146 _=>
  Zd (ih _))
  (Zc (Zb t0 (w64 (x139.1+1)) s0.2.1 (w64 (s0.2.2.1-1)) x139.2 mA) (hrc t0 (w64 (x139.1+1)) s0.2.1 (w64 (s0.2.2.1-1)) x139.2 mA) fun x147 _=>
  Zd (ih _)))))))
  (yB (yG fun x148 hx148=>
  Ze (Zi rfl hx148) (yG fun x149 hx149=>
  Ze (Zi rfl hx149) (yC ZK fun x150 _=>
  yB ((by
 conv=>rhs;whnf
 refine Zc _ Zo fun x151 _=>?_
 rcases x151 with x151 | x151
 exact yT (yF (yB (yB (Zc (Zb t0 s0.1 x151.1 (w64 (s0.2.2.1-1)) x151.2 mA) (hrc t0 s0.1 x151.1 (w64 (s0.2.2.1-1)) x151.2 mA) fun x152 _=>
  Zd (ih _))
  (Zc (Zb t0 s0.1 x151.1 (w64 (s0.2.2.1-1)) x151.2 mA) (hrc t0 s0.1 x151.1 (w64 (s0.2.2.1-1)) x151.2 mA) fun x153 _=>
  Zd (ih _)))
  (yB (Zc (Zb t0 (w64 (x151.1+1)) s0.2.1 (w64 (s0.2.2.1-1)) x151.2 mA) (hrc t0 (w64 (x151.1+1)) s0.2.1 (w64 (s0.2.2.1-1)) x151.2 mA) fun x154 _=>
  Zd (ih _))
  (Zc (Zb t0 (w64 (x151.1+1)) s0.2.1 (w64 (s0.2.2.1-1)) x151.2 mA) (hrc t0 (w64 (x151.1+1)) s0.2.1 (w64 (s0.2.2.1-1)) x151.2 mA) fun x155 _=>
  Zd (ih _)))))
 exact yF (yF (yB (yB (Zc (Zb t0 s0.1 x151.1 (w64 (s0.2.2.1-1)) x151.2 mA) (hrc t0 s0.1 x151.1 (w64 (s0.2.2.1-1)) x151.2 mA) fun x156 _=>
  Zd (ih _))
  (Zc (Zb t0 s0.1 x151.1 (w64 (s0.2.2.1-1)) x151.2 mA) (hrc t0 s0.1 x151.1 (w64 (s0.2.2.1-1)) x151.2 mA) fun x157 _=>
  Zd (ih _)))
  (yB (Zc (Zb t0 (w64 (x151.1+1)) s0.2.1 (w64 (s0.2.2.1-1)) x151.2 mA) (hrc t0 (w64 (x151.1+1)) s0.2.1 (w64 (s0.2.2.1-1)) x151.2 mA) fun x158 _=>
  Zd (ih _))
  (Zc (Zb t0 (w64 (x151.1+1)) s0.2.1 (w64 (s0.2.2.1-1)) x151.2 mA) (hrc t0 (w64 (x151.1+1)) s0.2.1 (w64 (s0.2.2.1-1)) x151.2 mA) fun x159 _=>
  Zd (ih _)))))))
  (Zc _ ZB fun x160 _=>
  Zd (ih _)))))
  (by
 conv=>rhs;whnf
 refine Zc _ Zo fun x161 _=>?_
 rcases x161 with x161 | x161
 exact yT (yF (yB (yB (Zc (Zb t0 s0.1 x161.1 (w64 (s0.2.2.1-1)) x161.2 mA) (hrc t0 s0.1 x161.1 (w64 (s0.2.2.1-1)) x161.2 mA) fun x162 _=>
  Zd (ih _))
  (Zc (Zb t0 s0.1 x161.1 (w64 (s0.2.2.1-1)) x161.2 mA) (hrc t0 s0.1 x161.1 (w64 (s0.2.2.1-1)) x161.2 mA) fun x163 _=>
  Zd (ih _)))
  (yB (Zc (Zb t0 (w64 (x161.1+1)) s0.2.1 (w64 (s0.2.2.1-1)) x161.2 mA) (hrc t0 (w64 (x161.1+1)) s0.2.1 (w64 (s0.2.2.1-1)) x161.2 mA) fun x164 _=>
  Zd (ih _))
  (Zc (Zb t0 (w64 (x161.1+1)) s0.2.1 (w64 (s0.2.2.1-1)) x161.2 mA) (hrc t0 (w64 (x161.1+1)) s0.2.1 (w64 (s0.2.2.1-1)) x161.2 mA) fun x165 _=>
  Zd (ih _)))))
 exact yF (yF (yB (yB (Zc (Zb t0 s0.1 x161.1 (w64 (s0.2.2.1-1)) x161.2 mA) (hrc t0 s0.1 x161.1 (w64 (s0.2.2.1-1)) x161.2 mA) fun x166 _=>
  Zd (ih _))
  (Zc (Zb t0 s0.1 x161.1 (w64 (s0.2.2.1-1)) x161.2 mA) (hrc t0 s0.1 x161.1 (w64 (s0.2.2.1-1)) x161.2 mA) fun x167 _=>
  Zd (ih _)))
  (yB (Zc (Zb t0 (w64 (x161.1+1)) s0.2.1 (w64 (s0.2.2.1-1)) x161.2 mA) (hrc t0 (w64 (x161.1+1)) s0.2.1 (w64 (s0.2.2.1-1)) x161.2 mA) fun x168 _=>
  Zd (ih _))
  (Zc (Zb t0 (w64 (x161.1+1)) s0.2.1 (w64 (s0.2.2.1-1)) x161.2 mA) (hrc t0 (w64 (x161.1+1)) s0.2.1 (w64 (s0.2.2.1-1)) x161.2 mA) fun x169 _=>
  Zd (ih _)))))))))))
 exact ZoT (by
 try unfold Zz
 rcases hb:s0.2.2.2.2.1 with _ | _
 exact Zpt (yB (Zc _ Zaj fun x73 _=>
  Zk rfl)
  (yB (Zc _ Zav fun x74 _=>
  Zk rfl)
  (Zc _ Zam fun x75 _=>
  yB (Zc _ Zal fun x76 _=>
  yB (yG fun x77 hx77=>
  Ze (Zi rfl hx77) (yG fun x78 hx78=>
  Ze (Zi rfl hx78) (yC ZK fun x79 _=>
  yB ((by
 conv=>rhs;whnf
 refine Zc _ Zo fun x80 _=>?_
 rcases x80 with x80 | x80
 exact yT (yF (yB (yB (Zc (Zb t0 s0.1 x80.1 s0.2.2.1 x80.2 mA) (hrc t0 s0.1 x80.1 s0.2.2.1 x80.2 mA) fun x81 _=>
  Zd (ih _))
  (Zc (Zb t0 s0.1 x80.1 s0.2.2.1 x80.2 mA) (hrc t0 s0.1 x80.1 s0.2.2.1 x80.2 mA) fun x82 _=>
  Zd (ih _)))
  (yB (Zc (Zb t0 (w64 (x80.1+1)) s0.2.1 s0.2.2.1 x80.2 mA) (hrc t0 (w64 (x80.1+1)) s0.2.1 s0.2.2.1 x80.2 mA) fun x83 _=>
  Zd (ih _))
  (Zc (Zb t0 (w64 (x80.1+1)) s0.2.1 s0.2.2.1 x80.2 mA) (hrc t0 (w64 (x80.1+1)) s0.2.1 s0.2.2.1 x80.2 mA) fun x84 _=>
  Zd (ih _)))))
 exact yF (yF (yB (yB (Zc (Zb t0 s0.1 x80.1 s0.2.2.1 x80.2 mA) (hrc t0 s0.1 x80.1 s0.2.2.1 x80.2 mA) fun x85 _=>
  Zd (ih _))
  (Zc (Zb t0 s0.1 x80.1 s0.2.2.1 x80.2 mA) (hrc t0 s0.1 x80.1 s0.2.2.1 x80.2 mA) fun x86 _=>
  Zd (ih _)))
  (yB (Zc (Zb t0 (w64 (x80.1+1)) s0.2.1 s0.2.2.1 x80.2 mA) (hrc t0 (w64 (x80.1+1)) s0.2.1 s0.2.2.1 x80.2 mA) fun x87 _=>
  Zd (ih _))
  (Zc (Zb t0 (w64 (x80.1+1)) s0.2.1 s0.2.2.1 x80.2 mA) (hrc t0 (w64 (x80.1+1)) s0.2.1 s0.2.2.1 x80.2 mA) fun x88 _=>
  Zd (ih _)))))))
  (Zc _ ZB fun x89 _=>
  Zd (ih _)))))
  (by
 conv=>rhs;whnf
 refine Zc _ Zo fun x90 _=>?_
 rcases x90 with x90 | x90
 exact yT (yF (yB (yB (Zc (Zb t0 s0.1 x90.1 s0.2.2.1 x90.2 mA) (hrc t0 s0.1 x90.1 s0.2.2.1 x90.2 mA) fun x91 _=>
  Zd (ih _))
  (Zc (Zb t0 s0.1 x90.1 s0.2.2.1 x90.2 mA) (hrc t0 s0.1 x90.1 s0.2.2.1 x90.2 mA) fun x92 _=>
  Zd (ih _)))
  (yB (Zc (Zb t0 (w64 (x90.1+1)) s0.2.1 s0.2.2.1 x90.2 mA) (hrc t0 (w64 (x90.1+1)) s0.2.1 s0.2.2.1 x90.2 mA) fun x93 _=>
  Zd (ih _))
  (Zc (Zb t0 (w64 (x90.1+1)) s0.2.1 s0.2.2.1 x90.2 mA) (hrc t0 (w64 (x90.1+1)) s0.2.1 s0.2.2.1 x90.2 mA) fun x94 _=>
  Zd (ih _)))))
 exact yF (yF (yB (yB (Zc (Zb t0 s0.1 x90.1 s0.2.2.1 x90.2 mA) (hrc t0 s0.1 x90.1 s0.2.2.1 x90.2 mA) fun x95 _=>
  Zd (ih _))
  (Zc (Zb t0 s0.1 x90.1 s0.2.2.1 x90.2 mA) (hrc t0 s0.1 x90.1 s0.2.2.1 x90.2 mA) fun x96 _=>
  Zd (ih _)))
  (yB (Zc (Zb t0 (w64 (x90.1+1)) s0.2.1 s0.2.2.1 x90.2 mA) (hrc t0 (w64 (x90.1+1)) s0.2.1 s0.2.2.1 x90.2 mA) fun x97 _=>
  Zd (ih _))
  (Zc (Zb t0 (w64 (x90.1+1)) s0.2.1 s0.2.2.1 x90.2 mA) (hrc t0 (w64 (x90.1+1)) s0.2.1 s0.2.2.1 x90.2 mA) fun x98 _=>
  Zd (ih _)))))))
  (yB (yG fun x99 hx99=>
  Ze (Zi rfl hx99) (yG fun x100 hx100=>
  Ze (Zi rfl hx100) (yC ZK fun x101 _=>
  yB ((by
 conv=>rhs;whnf
 refine Zc _ Zo fun x102 _=>?_
 rcases x102 with x102 | x102
 exact yT (yF (yB (yB (Zc (Zb t0 s0.1 x102.1 s0.2.2.1 x102.2 mA) (hrc t0 s0.1 x102.1 s0.2.2.1 x102.2 mA) fun x103 _=>
  Zd (ih _))
  (Zc (Zb t0 s0.1 x102.1 s0.2.2.1 x102.2 mA) (hrc t0 s0.1 x102.1 s0.2.2.1 x102.2 mA) fun x104 _=>
  Zd (ih _)))
  (yB (Zc (Zb t0 (w64 (x102.1+1)) s0.2.1 s0.2.2.1 x102.2 mA) (hrc t0 (w64 (x102.1+1)) s0.2.1 s0.2.2.1 x102.2 mA) fun x105 _=>
  Zd (ih _))
  (Zc (Zb t0 (w64 (x102.1+1)) s0.2.1 s0.2.2.1 x102.2 mA) (hrc t0 (w64 (x102.1+1)) s0.2.1 s0.2.2.1 x102.2 mA) fun x106 _=>
  Zd (ih _)))))
 exact yF (yF (yB (yB (Zc (Zb t0 s0.1 x102.1 s0.2.2.1 x102.2 mA) (hrc t0 s0.1 x102.1 s0.2.2.1 x102.2 mA) fun x107 _=>
  Zd (ih _))
  (Zc (Zb t0 s0.1 x102.1 s0.2.2.1 x102.2 mA) (hrc t0 s0.1 x102.1 s0.2.2.1 x102.2 mA) fun x108 _=>
  Zd (ih _)))
  (yB (Zc (Zb t0 (w64 (x102.1+1)) s0.2.1 s0.2.2.1 x102.2 mA) (hrc t0 (w64 (x102.1+1)) s0.2.1 s0.2.2.1 x102.2 mA) fun x109 _=>
  Zd (ih _))
  (Zc (Zb t0 (w64 (x102.1+1)) s0.2.1 s0.2.2.1 x102.2 mA) (hrc t0 (w64 (x102.1+1)) s0.2.1 s0.2.2.1 x102.2 mA) fun x110 _=>
  Zd (ih _)))))))
  (Zc _ ZB fun x111 _=>
  Zd (ih _)))))
  (by
 conv=>rhs;whnf
 refine Zc _ Zo fun x112 _=>?_
 rcases x112 with x112 | x112
 exact yT (yF (yB (yB (Zc (Zb t0 s0.1 x112.1 s0.2.2.1 x112.2 mA) (hrc t0 s0.1 x112.1 s0.2.2.1 x112.2 mA) fun x113 _=>
  Zd (ih _))
  (Zc (Zb t0 s0.1 x112.1 s0.2.2.1 x112.2 mA) (hrc t0 s0.1 x112.1 s0.2.2.1 x112.2 mA) fun x114 _=>
  Zd (ih _)))
  (yB (Zc (Zb t0 (w64 (x112.1+1)) s0.2.1 s0.2.2.1 x112.2 mA) (hrc t0 (w64 (x112.1+1)) s0.2.1 s0.2.2.1 x112.2 mA) fun x115 _=>
  Zd (ih _))
  (Zc (Zb t0 (w64 (x112.1+1)) s0.2.1 s0.2.2.1 x112.2 mA) (hrc t0 (w64 (x112.1+1)) s0.2.1 s0.2.2.1 x112.2 mA) fun x116 _=>
  Zd (ih _)))))
 exact yF (yF (yB (yB (Zc (Zb t0 s0.1 x112.1 s0.2.2.1 x112.2 mA) (hrc t0 s0.1 x112.1 s0.2.2.1 x112.2 mA) fun x117 _=>
  Zd (ih _))
  (Zc (Zb t0 s0.1 x112.1 s0.2.2.1 x112.2 mA) (hrc t0 s0.1 x112.1 s0.2.2.1 x112.2 mA) fun x118 _=>
  Zd (ih _)))
  (yB (Zc (Zb t0 (w64 (x112.1+1)) s0.2.1 s0.2.2.1 x112.2 mA) (hrc t0 (w64 (x112.1+1)) s0.2.1 s0.2.2.1 x112.2 mA) fun x119 _=>
  Zd (ih _))
  (Zc (Zb t0 (w64 (x112.1+1)) s0.2.1 s0.2.2.1 x112.2 mA) (hrc t0 (w64 (x112.1+1)) s0.2.1 s0.2.2.1 x112.2 mA) fun x120 _=>
  Zd (ih _))))))))))
 exact ZoT (yB (Zc _ Zaj fun x1 _=>
  Zk rfl)
  (yB (Zc _ Zav fun x2 _=>
  Zk rfl)
  (Zc _ Zam fun x3 _=>
  yB (Zc _ Zal fun x4 _=>
  yT (by
 conv=>rhs;whnf
 refine Zc _ Zbm fun x5 _=>?_
 rcases x5 with x5 | x5
 exact Zk rfl
 exact yB (yG fun x6 hx6=>
  Ze (Zi rfl hx6) (yG fun x7 hx7=>
  Ze (Zi rfl hx7) (yC ZK fun x8 _=>
  yB ((by
 conv=>rhs;whnf
 refine Zc _ Zo fun x9 _=>?_
 rcases x9 with x9 | x9
 exact yT (yF (yB (yB (Zc (Zb t0 s0.1 x9.1 s0.2.2.1 x9.2 mA) (hrc t0 s0.1 x9.1 s0.2.2.1 x9.2 mA) fun x10 _=>
  Zd (ih _))
  (Zc (Zb t0 s0.1 x9.1 s0.2.2.1 x9.2 mA) (hrc t0 s0.1 x9.1 s0.2.2.1 x9.2 mA) fun x11 _=>
  Zd (ih _)))
  (yB (Zc (Zb t0 (w64 (x9.1+1)) s0.2.1 s0.2.2.1 x9.2 mA) (hrc t0 (w64 (x9.1+1)) s0.2.1 s0.2.2.1 x9.2 mA) fun x12 _=>
  Zd (ih _))
  (Zc (Zb t0 (w64 (x9.1+1)) s0.2.1 s0.2.2.1 x9.2 mA) (hrc t0 (w64 (x9.1+1)) s0.2.1 s0.2.2.1 x9.2 mA) fun x13 _=>
  Zd (ih _)))))
 exact yF (yF (yB (yB (Zc (Zb t0 s0.1 x9.1 s0.2.2.1 x9.2 mA) (hrc t0 s0.1 x9.1 s0.2.2.1 x9.2 mA) fun x14 _=>
  Zd (ih _))
  (Zc (Zb t0 s0.1 x9.1 s0.2.2.1 x9.2 mA) (hrc t0 s0.1 x9.1 s0.2.2.1 x9.2 mA) fun x15 _=>
  Zd (ih _)))
  (yB (Zc (Zb t0 (w64 (x9.1+1)) s0.2.1 s0.2.2.1 x9.2 mA) (hrc t0 (w64 (x9.1+1)) s0.2.1 s0.2.2.1 x9.2 mA) fun x16 _=>
  Zd (ih _))
  (Zc (Zb t0 (w64 (x9.1+1)) s0.2.1 s0.2.2.1 x9.2 mA) (hrc t0 (w64 (x9.1+1)) s0.2.1 s0.2.2.1 x9.2 mA) fun x17 _=>
  Zd (ih _)))))))
  (Zc _ ZB fun x18 _=>
  Zd (ih _)))))
  (by
 conv=>rhs;whnf
 refine Zc _ Zo fun x19 _=>?_
 rcases x19 with x19 | x19
 exact yT (yF (yB (yB (Zc (Zb t0 s0.1 x19.1 s0.2.2.1 x19.2 mA) (hrc t0 s0.1 x19.1 s0.2.2.1 x19.2 mA) fun x20 _=>
  Zd (ih _))
  (Zc (Zb t0 s0.1 x19.1 s0.2.2.1 x19.2 mA) (hrc t0 s0.1 x19.1 s0.2.2.1 x19.2 mA) fun x21 _=>
  Zd (ih _)))
  (yB (Zc (Zb t0 (w64 (x19.1+1)) s0.2.1 s0.2.2.1 x19.2 mA) (hrc t0 (w64 (x19.1+1)) s0.2.1 s0.2.2.1 x19.2 mA) fun x22 _=>
  Zd (ih _))
  (Zc (Zb t0 (w64 (x19.1+1)) s0.2.1 s0.2.2.1 x19.2 mA) (hrc t0 (w64 (x19.1+1)) s0.2.1 s0.2.2.1 x19.2 mA) fun x23 _=>
  Zd (ih _)))))
 exact yF (yF (yB (yB (Zc (Zb t0 s0.1 x19.1 s0.2.2.1 x19.2 mA) (hrc t0 s0.1 x19.1 s0.2.2.1 x19.2 mA) fun x24 _=>
  Zd (ih _))
  (Zc (Zb t0 s0.1 x19.1 s0.2.2.1 x19.2 mA) (hrc t0 s0.1 x19.1 s0.2.2.1 x19.2 mA) fun x25 _=>
  Zd (ih _)))
  (yB (Zc (Zb t0 (w64 (x19.1+1)) s0.2.1 s0.2.2.1 x19.2 mA) (hrc t0 (w64 (x19.1+1)) s0.2.1 s0.2.2.1 x19.2 mA) fun x26 _=>
  Zd (ih _))
  (Zc (Zb t0 (w64 (x19.1+1)) s0.2.1 s0.2.2.1 x19.2 mA) (hrc t0 (w64 (x19.1+1)) s0.2.1 s0.2.2.1 x19.2 mA) fun x27 _=>
  Zd (ih _))))))))
  (yB ((by
 conv=>rhs;whnf
 refine Zc _ Zbm fun x28 _=>?_
 rcases x28 with x28 | x28
 exact Zk rfl
 exact yB (yG fun x29 hx29=>
  Ze (Zi rfl hx29) (yG fun x30 hx30=>
  Ze (Zi rfl hx30) (yC ZK fun x31 _=>
  yB ((by
 conv=>rhs;whnf
 refine Zc _ Zo fun x32 _=>?_
 rcases x32 with x32 | x32
 exact yT (yF (yB (yB (Zc (Zb t0 s0.1 x32.1 s0.2.2.1 x32.2 mA) (hrc t0 s0.1 x32.1 s0.2.2.1 x32.2 mA) fun x33 _=>
  Zd (ih _))
  (Zc (Zb t0 s0.1 x32.1 s0.2.2.1 x32.2 mA) (hrc t0 s0.1 x32.1 s0.2.2.1 x32.2 mA) fun x34 _=>
  Zd (ih _)))
  (yB (Zc (Zb t0 (w64 (x32.1+1)) s0.2.1 s0.2.2.1 x32.2 mA) (hrc t0 (w64 (x32.1+1)) s0.2.1 s0.2.2.1 x32.2 mA) fun x35 _=>
  Zd (ih _))
  (Zc (Zb t0 (w64 (x32.1+1)) s0.2.1 s0.2.2.1 x32.2 mA) (hrc t0 (w64 (x32.1+1)) s0.2.1 s0.2.2.1 x32.2 mA) fun x36 _=>
  Zd (ih _)))))
 exact yF (yF (yB (yB (Zc (Zb t0 s0.1 x32.1 s0.2.2.1 x32.2 mA) (hrc t0 s0.1 x32.1 s0.2.2.1 x32.2 mA) fun x37 _=>
  Zd (ih _))
  (Zc (Zb t0 s0.1 x32.1 s0.2.2.1 x32.2 mA) (hrc t0 s0.1 x32.1 s0.2.2.1 x32.2 mA) fun x38 _=>
  Zd (ih _)))
  (yB (Zc (Zb t0 (w64 (x32.1+1)) s0.2.1 s0.2.2.1 x32.2 mA) (hrc t0 (w64 (x32.1+1)) s0.2.1 s0.2.2.1 x32.2 mA) fun x39 _=>
  Zd (ih _))
  (Zc (Zb t0 (w64 (x32.1+1)) s0.2.1 s0.2.2.1 x32.2 mA) (hrc t0 (w64 (x32.1+1)) s0.2.1 s0.2.2.1 x32.2 mA) fun x40 _=>
  Zd (ih _)))))))
  (Zc _ ZB fun x41 _=>
  Zd (ih _)))))
  (by
 conv=>rhs;whnf
 refine Zc _ Zo fun x42 _=>?_
 rcases x42 with x42 | x42
 exact yT (yF (yB (yB (Zc (Zb t0 s0.1 x42.1 s0.2.2.1 x42.2 mA) (hrc t0 s0.1 x42.1 s0.2.2.1 x42.2 mA) fun x43 _=>
  Zd (ih _))
  (Zc (Zb t0 s0.1 x42.1 s0.2.2.1 x42.2 mA) (hrc t0 s0.1 x42.1 s0.2.2.1 x42.2 mA) fun x44 _=>
  Zd (ih _)))
  (yB (Zc (Zb t0 (w64 (x42.1+1)) s0.2.1 s0.2.2.1 x42.2 mA) (hrc t0 (w64 (x42.1+1)) s0.2.1 s0.2.2.1 x42.2 mA) fun x45 _=>
  Zd (ih _))
  (Zc (Zb t0 (w64 (x42.1+1)) s0.2.1 s0.2.2.1 x42.2 mA) (hrc t0 (w64 (x42.1+1)) s0.2.1 s0.2.2.1 x42.2 mA) fun x46 _=>
  Zd (ih _)))))
 exact yF (yF (yB (yB (Zc (Zb t0 s0.1 x42.1 s0.2.2.1 x42.2 mA) (hrc t0 s0.1 x42.1 s0.2.2.1 x42.2 mA) fun x47 _=>
  Zd (ih _))
  (Zc (Zb t0 s0.1 x42.1 s0.2.2.1 x42.2 mA) (hrc t0 s0.1 x42.1 s0.2.2.1 x42.2 mA) fun x48 _=>
  Zd (ih _)))
  (yB (Zc (Zb t0 (w64 (x42.1+1)) s0.2.1 s0.2.2.1 x42.2 mA) (hrc t0 (w64 (x42.1+1)) s0.2.1 s0.2.2.1 x42.2 mA) fun x49 _=>
  Zd (ih _))
  (Zc (Zb t0 (w64 (x42.1+1)) s0.2.1 s0.2.2.1 x42.2 mA) (hrc t0 (w64 (x42.1+1)) s0.2.1 s0.2.2.1 x42.2 mA) fun x50 _=>
  Zd (ih _))))))))
  (yB (yG fun x51 hx51=>
  Ze (Zi rfl hx51) (yG fun x52 hx52=>
  Ze (Zi rfl hx52) (yC ZK fun x53 _=>
  yB ((by
 conv=>rhs;whnf
 refine Zc _ Zo fun x54 _=>?_
 rcases x54 with x54 | x54
 exact yT (yF (yB (yB (Zc (Zb t0 s0.1 x54.1 s0.2.2.1 x54.2 mA) (hrc t0 s0.1 x54.1 s0.2.2.1 x54.2 mA) fun x55 _=>
  Zd (ih _))
  (Zc (Zb t0 s0.1 x54.1 s0.2.2.1 x54.2 mA) (hrc t0 s0.1 x54.1 s0.2.2.1 x54.2 mA) fun x56 _=>
  Zd (ih _)))
  (yB (Zc (Zb t0 (w64 (x54.1+1)) s0.2.1 s0.2.2.1 x54.2 mA) (hrc t0 (w64 (x54.1+1)) s0.2.1 s0.2.2.1 x54.2 mA) fun x57 _=>
  Zd (ih _))
  (Zc (Zb t0 (w64 (x54.1+1)) s0.2.1 s0.2.2.1 x54.2 mA) (hrc t0 (w64 (x54.1+1)) s0.2.1 s0.2.2.1 x54.2 mA) fun x58 _=>
  Zd (ih _)))))
 exact yF (yF (yB (yB (Zc (Zb t0 s0.1 x54.1 s0.2.2.1 x54.2 mA) (hrc t0 s0.1 x54.1 s0.2.2.1 x54.2 mA) fun x59 _=>
  Zd (ih _))
  (Zc (Zb t0 s0.1 x54.1 s0.2.2.1 x54.2 mA) (hrc t0 s0.1 x54.1 s0.2.2.1 x54.2 mA) fun x60 _=>
  Zd (ih _)))
  (yB (Zc (Zb t0 (w64 (x54.1+1)) s0.2.1 s0.2.2.1 x54.2 mA) (hrc t0 (w64 (x54.1+1)) s0.2.1 s0.2.2.1 x54.2 mA) fun x61 _=>
  Zd (ih _))
  (Zc (Zb t0 (w64 (x54.1+1)) s0.2.1 s0.2.2.1 x54.2 mA) (hrc t0 (w64 (x54.1+1)) s0.2.1 s0.2.2.1 x54.2 mA) fun x62 _=>
  Zd (ih _)))))))
  (Zc _ ZB fun x63 _=>
  Zd (ih _)))))
  (by
 conv=>rhs;whnf
 refine Zc _ Zo fun x64 _=>?_
 rcases x64 with x64 | x64
 exact yT (yF (yB (yB (Zc (Zb t0 s0.1 x64.1 s0.2.2.1 x64.2 mA) (hrc t0 s0.1 x64.1 s0.2.2.1 x64.2 mA) fun x65 _=>
  Zd (ih _))
  (Zc (Zb t0 s0.1 x64.1 s0.2.2.1 x64.2 mA) (hrc t0 s0.1 x64.1 s0.2.2.1 x64.2 mA) fun x66 _=>
  Zd (ih _)))
  (yB (Zc (Zb t0 (w64 (x64.1+1)) s0.2.1 s0.2.2.1 x64.2 mA) (hrc t0 (w64 (x64.1+1)) s0.2.1 s0.2.2.1 x64.2 mA) fun x67 _=>
  Zd (ih _))
  (Zc (Zb t0 (w64 (x64.1+1)) s0.2.1 s0.2.2.1 x64.2 mA) (hrc t0 (w64 (x64.1+1)) s0.2.1 s0.2.2.1 x64.2 mA) fun x68 _=>
  Zd (ih _)))))
 exact yF (yF (yB (yB (Zc (Zb t0 s0.1 x64.1 s0.2.2.1 x64.2 mA) (hrc t0 s0.1 x64.1 s0.2.2.1 x64.2 mA) fun x69 _=>
  Zd (ih _))
  (Zc (Zb t0 s0.1 x64.1 s0.2.2.1 x64.2 mA) (hrc t0 s0.1 x64.1 s0.2.2.1 x64.2 mA) fun x70 _=>
  Zd (ih _)))
  (yB (Zc (Zb t0 (w64 (x64.1+1)) s0.2.1 s0.2.2.1 x64.2 mA) (hrc t0 (w64 (x64.1+1)) s0.2.1 s0.2.2.1 x64.2 mA) fun x71 _=>
  Zd (ih _))
  (Zc (Zb t0 (w64 (x64.1+1)) s0.2.1 s0.2.2.1 x64.2 mA) (hrc t0 (w64 (x64.1+1)) s0.2.1 s0.2.2.1 x64.2 mA) fun x72 _=>
  Zd (ih _)))))))))))))
theorem Zfm (rc:Int->Int->Int->(Int->Int->Option Int)->(List Int)->Option (List Int)) (hrc:∀(t0:Bool) (b:Int) (c:Int) (d:Int) (mG:List Int) (mA:List Zf) (r:List Int),rc b c d (fun z0 z1=>ZA z0 z1 mA) mG=some r->evW ctx 122 [(.sl 0 1),(zN b),(zN c),(zN d),(.fn 97 [(.ptr 1 0)])] [(zA mG),(.cells [(zW t0 Zu mA)])]=some ((Zb t0 b c d mG mA) r)) (t0:Bool) (b:Int) (c:Int) (d:Int) (mG:List Int) (mA:List Zf):∀r,(Zau rc b c d (fun z0 z1=>ZA z0 z1 mA) mG)=some r->evW ctx 122 [(.sl 0 1),(zN b),(zN c),(zN d),(.fn 97 [(.ptr 1 0)])] [(zA mG),(.cells [(zW t0 Zu mA)])]=some ((Zb t0 b c d mG mA) r):=
 evS ZxF rfl rfl <| Zc _ (Ze6 hrc _) fun r219 _=>
  yR
theorem Zcm:∀(n:Nat) (t0:Bool) (b:Int) (c:Int) (d:Int) (mG:List Int) (mA:List Zf) (r:List Int),ZP n b c d (fun z0 z1=>ZA z0 z1 mA) mG=some r->evW ctx 122 [(.sl 0 1),(zN b),(zN c),(zN d),(.fn 97 [(.ptr 1 0)])] [(zA mG),(.cells [(zW t0 Zu mA)])]=some ((Zb t0 b c d mG mA) r)
  | 0,t0,b,c,d,mG,mA,r,h=>by cases h
  | n+1,t0,b,c,d,mG,mA,r,h=>Zfm (ZP n) (Zcm n) t0 b c d mG mA r h
theorem Zfy {t0:Bool}{b c d:Int}{mG:List Int}{mA:List Zf}:∀r,ZcC b c d (fun z0 z1=>ZA z0 z1 mA) mG=some r->evW ctx 122 [(.sl 0 1),(zN b),(zN c),(zN d),(.fn 97 [(.ptr 1 0)])] [(zA mG),(.cells [(zW t0 Zu mA)])]=some ((Zb t0 b c d mG mA) r):=fun r h=>by
  obtain⟨n,hn⟩:=Zym h
  exact Zcm n t0 b c d mG mA r hn
def ZfQ (t0:Bool) (mG:List Int) (mA:List Zf):(List Int)->V×Zl
  | r=>((.d (D.tup [])),[(zA r),(.cells [(zW t0 Zu mA)])])
theorem ZfB {t0:Bool}{mG:List Int}{mA:List Zf}:∀r,(Zao (fun z0 z1=>ZA z0 z1 mA) mG)=some r->evW ctx 96 [(.sl 0 1),(.fn 97 [(.ptr 1 0)])] [(zA mG),(.cells [(zW t0 Zu mA)])]=some ((ZfQ t0 mG mA) r):=
 evS ZCY rfl rfl <| Zj (ZF _ _) (yC Zhg fun x0 _=>
  Zc _ Zfy fun x1 _=>
  yR)
def ZqU (r:List Int):D:=(zL true r)
def Zkf (t0:Bool) (a:List Zf):(List Int)->Ex×List V×Zl
  | r=>(.exit 0,[(.ptr 0 0),(.sl 1 1)],[(.cells [(zW t0 Zu a)]),(zA r)])
theorem Zna {t0:Bool}{a:List Zf}:∀(s0:Int×(List Int)) (r:List Int),lp (ZeQ a) s0=some r->lpW ctx 0 [1,3,6,7] [1,3] ZBo [(.ptr 0 0),(.sl 1 1),(zN (a.length:Int)),(zN s0.1)] [(.cells [(zW t0 Zu a)]),(zA s0.2)]=some ((Zkf t0 a) r):=
 lpT (Zkf t0 a) fun s0 _ ih=>yB (yT (ZdJ (Zg9 Zm s0.2 1) (Zj (Zg8 Zm s0.2 [s0.1]) (Zd (ih _)))
  ZbQ))
  (Zk rfl)
theorem Zqo {t0:Bool}{a:List Zf}:∀r,(Zf4 a)=some r->evD ctx 66 [(zW t0 Zu a)]=some (ZqU r):=
 evT ZE6 rfl rfl <| Zj (ZF _ _) (Zc _ (Zna _) fun r1 _=>
  Zc _ ZfB fun x2 _=>
  yR)
def Zwe (r:List Zf):D:=(zM true Zu r)
def Zl4 (t0:Bool) (t1:Bool) (a:List Zf) (b:List Int) (c:Int):(List Zf)->Ex×List V×Zl
  | r=>(.exit 0,[(.sl 0 5)],[(.arr 5 (List.map Zu r))])
theorem Zp8 {t0 t1:Bool}{a:List Zf}{b:List Int}{c:Int}:∀(s0:Int×(List Zf)) (r:List Zf),lp (ZfX a b c) s0=some r->lpW ctx 0 [1,2,7,10,11,12] [7] ZAf [(zV t1 b),(zN c),(.sl 0 5),(zW t0 Zu a),(zN (a.length:Int)),(zN s0.1)] [(.arr 5 (List.map Zu s0.2))]=some ((Zl4 t0 t1 a b c) r):=
 lpT (Zl4 t0 t1 a b c) fun s0 _ ih=>yB (yG fun x1 _=>
  Zj (ZF _ _) (yB (yG fun x2 _=>
  yB (yT (ZdJ (Zg9 Zu s0.2 1) (Zj (Zg8 Zu s0.2 [x1]) (Zd (ih _)))
  ZbQ))
  (Zd (ih _)))
  (Zd (ih _))))
  (Zk rfl)
theorem ZuB {t0 t1:Bool}{a:List Zf}{b:List Int}{c:Int}:∀r,(ZmF a b c)=some r->evD ctx 68 [(zW t0 Zu a),(zV t1 b),(zN c)]=some (Zwe r):=
 evT ZEq rfl rfl <| Zj (ZF _ _) (Zc _ (Zp8 _) fun r3 _=>
  yR)
def Zoc (r:Int):D:=(Zm r)
theorem Zne {a:Int}{b:Zf}:∀r,(Zdm a b)=some r->evD ctx 101 [(zN a),(.d (zK2 b.total b.long b.most b.deadline b.period))]=some (Zoc r):=
 evT ZAt rfl rfl <| yR
def Zi5 (r:Int):D:=(Zm r)
def ZfL (t0:Bool) (a:List Zf):Int->Ex×List V×Zl
  | r=>(.exit 0,[(zN r)],[])
theorem ZhL {t0:Bool}{a:List Zf}:∀(s0:Int×Int) (r:Int),lp (ZdQ a (fun z0 z1=>Zdm z0 z1)) s0=some r->lpW ctx 0 [1,5,8,9,10] [5] Zum [(.d (D.fn 101 [])),(zN s0.1),(zW t0 Zu a),(zN (a.length:Int)),(zN s0.2)] []=some ((ZfL t0 a) r):=
 lpT (ZfL t0 a) fun s0 _ ih=>yB (yG fun x1 _=>
  yC Zne fun x2 _=>
  Zd (ih _))
  (Zk rfl)
theorem Ziw {t0:Bool}{a:List Zf}:∀r,(ZgE a (fun z0 z1=>Zdm z0 z1))=some r->evD ctx 91 [(zW t0 Zu a),(.d (D.fn 101 []))]=some (Zi5 r):=
 evT ZBc rfl rfl <| Zj (ZF _ _) (Zc _ (ZhL _) fun r3 _=>
  yR)
def Zp6 (r:Int):D:=(Zm r)
theorem ZoR {t0:Bool}{a:List Zf}:∀r,(Zid a)=some r->evD ctx 77 [(zW t0 Zu a)]=some (Zp6 r):=
 evT ZEo rfl rfl <| yC Zjf fun x0 _=>
  yBr (yC Ziw fun x1 _=>
  yR)
def ZpE (r:Int):D:=(Zm r)
theorem ZnN {a:Int}{b:Zf}{c0:Int}:∀r,(Zd8 a b c0)=some r->evD ctx 92 [(zN a),(.d (zK2 b.total b.long b.most b.deadline b.period)),(.d (D.rptr [(Zm c0)]))]=some (ZpE r):=
 evT ZEn rfl rfl <| yBr (yBn yR)
def ZjB (r:Int):D:=(Zm r)
def ZfT (t0:Bool) (a:List Zf) (b0:Int):Int->Ex×List V×Zl
  | r=>(.exit 0,[(zN r)],[])
theorem ZhV {t0:Bool}{a:List Zf}{b0:Int}:∀(s0:Int×Int) (r:Int),lp (ZdQ a (fun z0 z1=>Zd8 z0 z1 b0)) s0=some r->lpW ctx 0 [1,5,8,9,10] [5] Zum [(.d (D.fn 92 [(D.rptr [(Zm b0)])])),(zN s0.1),(zW t0 Zu a),(zN (a.length:Int)),(zN s0.2)] []=some ((ZfT t0 a b0) r):=
 lpT (ZfT t0 a b0) fun s0 _ ih=>yB (yG fun x1 _=>
  yC ZnN fun x2 _=>
  Zd (ih _))
  (Zk rfl)
theorem ZiW {t0:Bool}{a:List Zf}{b0:Int}:∀r,(ZgE a (fun z0 z1=>Zd8 z0 z1 b0))=some r->evD ctx 91 [(zW t0 Zu a),(.d (D.fn 92 [(D.rptr [(Zm b0)])]))]=some (ZjB r):=
 evT ZBc rfl rfl <| Zj (ZF _ _) (Zc _ (ZhV _) fun r3 _=>
  yR)
def ZrK (r:Int):D:=(Zm r)
theorem Zqq {t0:Bool}{a:List Zf}{b:Int}:∀r,(ZiR a b)=some r->evD ctx 62 [(zW t0 Zu a),(zN b)]=some (ZrK r):=
 evT ZEP rfl rfl <| yC ZiW fun x0 _=>
  yR
def Zqh (r:Int):D:=(Zm r)
theorem ZoS {a:Int}{b:Zf}{c0:Int}:∀r,(Ze9 a b c0)=some r->evD ctx 93 [(zN a),(.d (zK2 b.total b.long b.most b.deadline b.period)),(.d (D.rptr [(Zm c0)]))]=some (Zqh r):=
 evT ZFk rfl rfl <| yBr yR
def ZjV (r:Int):D:=(Zm r)
def Zgb (t0:Bool) (a:List Zf) (b0:Int):Int->Ex×List V×Zl
  | r=>(.exit 0,[(zN r)],[])
theorem Zir {t0:Bool}{a:List Zf}{b0:Int}:∀(s0:Int×Int) (r:Int),lp (ZdQ a (fun z0 z1=>Ze9 z0 z1 b0)) s0=some r->lpW ctx 0 [1,5,8,9,10] [5] Zum [(.d (D.fn 93 [(D.rptr [(Zm b0)])])),(zN s0.1),(zW t0 Zu a),(zN (a.length:Int)),(zN s0.2)] []=some ((Zgb t0 a b0) r):=
 lpT (Zgb t0 a b0) fun s0 _ ih=>yB (yG fun x1 _=>
  yC ZoS fun x2 _=>
  Zd (ih _))
  (Zk rfl)
theorem Zjd {t0:Bool}{a:List Zf}{b0:Int}:∀r,(ZgE a (fun z0 z1=>Ze9 z0 z1 b0))=some r->evD ctx 91 [(zW t0 Zu a),(.d (D.fn 93 [(D.rptr [(Zm b0)])]))]=some (ZjV r):=
 evT ZBc rfl rfl <| Zj (ZF _ _) (Zc _ (Zir _) fun r3 _=>
  yR)
def ZsL (r:Int):D:=(Zm r)
theorem Zsk {t0:Bool}{a:List Zf}{b:Int}:∀r,(Zkg a b)=some r->evD ctx 63 [(zW t0 Zu a),(zN b)]=some (ZsL r):=
 evT ZFi rfl rfl <| yC Zjd fun x0 _=>
  yR
def Zup (r:Bool):D:=(D.bool r)
def ZlJ (t0:Bool) (a:List Zf) (s1:Int) (x2:Zf):(Unit⊕Unit)->Ex×List V×Zl
  | (.inl r)=>(.ret,[(zW t0 Zu a),(.d (D.bool false)),(zW t0 Zu a),(zN (a.length:Int)),(zN s1)],[])
  | (.inr r)=>(.exit 2,[(zW t0 Zu a),.bad,(zW t0 Zu a),(zN (a.length:Int)),(zN s1)],[])
theorem Zpk {t0:Bool}{a:List Zf}{s1:Int}{x2:Zf}:∀(s3:Int) (r:(Unit⊕Unit)),lp (Zgj a x2) s3=some r->lpW ctx 0 [0,4,5,9,10,11] [0,2,9,10,11] ZAz [(zW t0 Zu a),(.ptr 0 0),(zN s3),(zW t0 Zu a),(zN (a.length:Int)),(zN s1)] [(.cells [(zN x2.total),(zN x2.long),(zN x2.most),(zN x2.deadline),(zN x2.period)])]=some ((ZlJ t0 a s1 x2) r):=
 lpT (ZlJ t0 a s1 x2) fun s3 _ ih=>yC ZoR fun x4 _=>
  yB (yC Zqq fun x5 _=>
  yC Zsk fun x6 _=>
  yB (Zk rfl)
  (Zd (ih _)))
  (Zk rfl)
def ZlK (t0:Bool) (a:List Zf):(Unit⊕Unit)->Ex×List V×Zl
  | (.inl r)=>(.ret,[(.d (D.bool false))],[])
  | (.inr r)=>(.exit 0,[.bad],[])
theorem Zpv {t0:Bool}{a:List Zf}:∀(s1:Int) (r:(Unit⊕Unit)),lp (Zg6 a) s1=some r->lpW ctx 0 [0,9,10,11] [2] ZCx [(zW t0 Zu a),(zW t0 Zu a),(zN (a.length:Int)),(zN s1)] []=some ((ZlK t0 a) r):=
 lpT (ZlK t0 a) fun s1 _ ih=>yB (yG fun x2 _=>
  (by
 conv=>rhs;whnf
 refine Zc _ (Zpk _) fun r7 _=>?_
 rcases r7 with r7 | r7
 exact Zk rfl
 exact Zd (ih _)))
  (Zk rfl)
theorem ZsH {t0:Bool}{a:List Zf}:∀r,(Zlo a)=some r->evD ctx 46 [(zW t0 Zu a)]=some (Zup r):=
 evT ZFf rfl rfl <| yC Zjf fun x0 _=>
  yBr (Zj (ZF _ _) (by
 conv=>rhs;whnf
 refine Zc _ (Zpv _) fun r8 _=>?_
 rcases r8 with r8 | r8
 exact yR
 exact yR))
def Zpn (t0:Bool) (a:Int) (mA:Int) (mI:List Zf) (mH:List Int):(Unit⊕Unit)->V×Zl
  | (.inl r)=>((.d (D.bool true)),[(.cells [(.sl 3 1)]),(.cells [(zN mA)]),(.cells [(zW t0 Zu mI)]),(zA (List.set mH mA.toNat a))])
  | (.inr r)=>((.d (D.bool false)),[(.cells [(.sl 3 1)]),(.cells [(zN mA)]),(.cells [(zW t0 Zu mI)]),(zA (List.set mH mA.toNat a))])
theorem Zop {t0:Bool}{a mA:Int}{mI:List Zf}{mH:List Int}:∀r,(Zjl a mA mI mH)=some r->evW ctx 67 [(zN a),(.ptr 0 0),(.ptr 1 0),(.ptr 2 0)] [(.cells [(.sl 3 1)]),(.cells [(zN mA)]),(.cells [(zW t0 Zu mI)]),(zA mH)]=some ((Zpn t0 a mA mI mH) r):=
 evS ZEU rfl rfl <| yG fun x0 hx0=>
  Ze (Zi rfl hx0) (Zj (ZI Zm mH mA.toNat a) (yC ZuB fun x1 _=>
  yC ZsH fun x2 _=>
  yBr yR))
def Zrm (r:((List Int)×Int)):D:=(D.tup [(zL true r.1),(Zm r.2)])
def ZjY (t0:Bool) (a:List Zf) (b:Int):(List Int)->Ex×List V×Zl
  | r=>(.exit 0,[(zN b),(.ptr 0 0),(.ptr 1 0)],[(.cells [(zW t0 Zu a)]),(.cells [(.sl 2 1)]),(zA r)])
theorem ZnF {t0:Bool}{a:List Zf}{b:Int}:∀(s2:Int×(List Int)) (r:List Int),lp (ZeO a) s2=some r->lpW ctx 0 [1,2,6,24,25] [1,2,6] ZAn [(zN b),(.ptr 0 0),(.ptr 1 0),(zN (List.length (List.replicate (a.length:Int).toNat (0:Int)):Int)),(zN s2.1)] [(.cells [(zW t0 Zu a)]),(.cells [(.sl 2 1)]),(zA s2.2)]=some ((ZjY t0 a b) r):=
 lpT (ZjY t0 a b) fun s2 _ ih=>yB (yG fun x3 hx3=>
  Ze (Zi rfl hx3) (Zj (ZI Zm s2.2 s2.1.toNat (-1)) (Zd (ih _))))
  (Zk rfl)
def Zj8 (t0:Bool) (a:List Zf) (b:Int) (x5:List Int) (s6:Int×(List Int)) (x7:Int):((List Int)⊕(List Int))->Ex×List V×Zl
  | (.inl r)=>(.exit 3,[(zN b),(.ptr 0 0),(.ptr 1 0),(zV true x5),(zN (x5.length:Int)),(zN s6.1)],[(.cells [(zW t0 Zu a)]),(.cells [(.sl 2 1)]),(zA r)])
  | (.inr r)=>(.exit 4,[(zN b),(.ptr 0 0),(.ptr 1 0),(zV true x5),(zN (x5.length:Int)),(zN s6.1)],[(.cells [(zW t0 Zu a)]),(.cells [(.sl 2 1)]),(zA r)])
theorem Znt {t0:Bool}{a:List Zf}{b:Int}{x5:List Int}{s6:Int×(List Int)}{x7:Int}:∀(s8:Int×(List Int)) (r:((List Int)⊕(List Int))),lp (ZeP a b x7) s8=some r->lpW ctx 0 [1,2,6,10,33,34,35,40,41] [1,2,6,33,34,35] ZAJ [(zN b),(.ptr 0 0),(.ptr 1 0),(.fn 67 [(.ptr 1 0),(.ptr 2 0),(.ptr 0 0)]),(zV true x5),(zN (x5.length:Int)),(zN s6.1),(zN b),(zN s8.1)] [(.cells [(zW t0 Zu a)]),(.cells [(.sl 3 1)]),(.cells [(zN x7)]),(zA s8.2)]=some ((Zj8 t0 a b x5 s6 x7) r):=
 lpT (Zj8 t0 a b x5 s6 x7) fun s8 _ ih=>yB ((by
 conv=>rhs;whnf
 refine Zc _ Zop fun x9 _=>?_
 rcases x9 with x9 | x9
 exact Zk rfl
 exact Zd (ih _)))
  (Zk rfl)
def ZjX (t0:Bool) (a:List Zf) (b:Int) (x5:List Int):((List Int)⊕(List Int))->Ex×List V×Zl
  | (.inl r)=>(.ret,[(.nilsl 1),(zN 161),(.ptr 0 0)],[(.cells [(.sl 1 1)]),(zA r)])
  | (.inr r)=>(.exit 2,[.bad,.bad,(.ptr 0 0)],[(.cells [(.sl 1 1)]),(zA r)])
theorem Zm9 {t0:Bool}{a:List Zf}{b:Int}{x5:List Int}:∀(s6:Int×(List Int)) (r:((List Int)⊕(List Int))),lp (ZeS a b x5) s6=some r->lpW ctx 0 [1,2,6,33,34,35] [4,5,6] ZBD [(zN b),(.ptr 0 0),(.ptr 1 0),(zV true x5),(zN (x5.length:Int)),(zN s6.1)] [(.cells [(zW t0 Zu a)]),(.cells [(.sl 2 1)]),(zA s6.2)]=some ((ZjX t0 a b x5) r):=
 lpT (ZjX t0 a b x5) fun s6 _ ih=>yB (yG fun x7 _=>
  (by
 conv=>rhs;whnf
 refine Zc _ (Znt _) fun r10 _=>?_
 rcases r10 with r10 | r10
 exact Zd (ih _)
 exact Zk rfl))
  (Zk rfl)
theorem Zp7 {t0:Bool}{a:List Zf}{b:Int}:∀r,(ZhB a b)=some r->evD ctx 36 [(zW t0 Zu a),(zN b)]=some (Zrm r):=
 evT ZFF rfl rfl <| yC Zjf fun x0 _=>
  yBr (yC Zpq fun x1 _=>
  yB (Zj (ZF _ _) (yBm (Zj (ZqJ Zm (0:Int) (a.length:Int)) (Zj (ZF _ _) (Zc _ (ZnF _) fun r4 _=>
  yC Zqo fun x5 _=>
  Zj (ZF _ _) (by
 conv=>rhs;whnf
 refine Zc _ (Zm9 _) fun r11 _=>?_
 rcases r11 with r11 | r11
 exact yR
 exact yR))))))
  yR)
def Zql (r:(Zhw×Int)):D:=(D.tup [(D.agg [(zM true Zu r.1.shapes),(D.list true (List.map (ZhO true) r.1.cores))]),(Zm r.2)])
def Zjt (b:Int) (x0:((List Zf)×Int)):(((List Zf)×(List (List Int)))⊕((List Int)×(List Zf)×(List (List Int))))->Ex×List V×Zl
  | (.inl r)=>(.ret,[(zN b),(.ptr 0 0),(zN 171),(zW true Zu x0.1),(.ptr 1 0),(.ch 2),(.sl 3 5)],[(.cells [(.nilsl 5),(.nilsl 1)]),(.cells [(zW true Zu x0.1),(.sl 4 1)]),(.ch ([]:List Int)),(.arr 5 (List.map Zu r.1)),(.arr 1 (List.map (ZhO true) r.2))])
  | (.inr r)=>(.exit 0,[(zN b),(.ptr 0 0),.bad,(zW true Zu x0.1),(.ptr 1 0),(.ch 2),(.sl 3 5)],[(.cells [(.sl 4 5),(.sl 5 1)]),(.cells [(zW true Zu x0.1),(.sl 6 1)]),(.ch r.1),(.arr 5 (List.map Zu r.2.1)),(.arr 5 []),(.arr 1 []),(.arr 1 (List.map (ZhO true) r.2.2))])
theorem ZmT {b:Int}{x0:((List Zf)×Int)}:∀(s2:Int×(List Int)×(List Zf)×(List (List Int))) (r:(((List Zf)×(List (List Int)))⊕((List Int)×(List Zf)×(List (List Int))))),lp (Zcz x0) s2=some r->lpW ctx 0 [1,4,6,8,9,10,49,50,51] [1,4,5,6,8,9,10] ZCk [(zN b),(.ptr 0 0),(zW true Zu x0.1),(.ptr 1 0),(.ch 2),(.sl 3 5),(zW true Zu x0.1),(zN (x0.1.length:Int)),(zN s2.1)] [(.cells [(.sl 4 5),(.sl 5 1)]),(.cells [(zW true Zu x0.1),(.sl 6 1)]),(.ch s2.2.1),(.arr 5 (List.map Zu s2.2.2.1)),(.arr 5 []),(.arr 1 []),(.arr 1 (List.map (ZhO true) s2.2.2.2))]=some ((Zjt b x0) r):=
 lpT (Zjt b x0) fun s2 _ ih=>yB (yG fun x3 _=>
  yC ZhT fun x4 _=>
  yB (yC Zk5 fun x5 _=>
  (by
 conv=>rhs;whnf
 refine Zc _ Zqv fun x6 _=>?_
 rcases x6 with x6 | x6
 exact yT (yG fun x7 hx7=>
  Ze (Zi rfl hx7) (Zj (ZI (ZhO true) s2.2.2.2 s2.1.toNat (List.take x5.1.toNat s2.2.1)) (Zd (ih _))))
 exact yF (Zk rfl)))
  (yT (ZdJ (Zg9 Zu s2.2.2.1 1) (Zj (Zg8 Zu s2.2.2.1 [x3]) (Zd (ih _)))
  ZbQ)))
  (Zk rfl)
def Zjm (b:Int) (x0:((List Zf)×Int)) (r8:((List Int)×(List Zf)×(List (List Int)))):(List (List Int))->Ex×List V×Zl
  | r=>(.exit 2,[(.ptr 0 0),(.ptr 1 0)],[(.cells [(.sl 2 5),(.sl 3 1)]),(.cells [(zW true Zu x0.1),(.sl 4 1)]),(.arr 5 []),(.arr 1 []),(.arr 1 (List.map (ZhO true) r))])
theorem ZmI {b:Int}{x0:((List Zf)×Int)}{r8:((List Int)×(List Zf)×(List (List Int)))}:∀(s10:(List Int)×Int×(List (List Int))) (r:(List (List Int))),lp (ZdV b x0 r8) s10=some r->lpW ctx 0 [4,8,17,18,97,98,99] [4,8] ZBg [(.ptr 0 0),(.ptr 1 0),(zV true s10.1),(zN (w64 (b-(r8.1.length:Int)))),(zW true Zu x0.1),(zN (x0.1.length:Int)),(zN s10.2.1)] [(.cells [(.sl 2 5),(.sl 3 1)]),(.cells [(zW true Zu x0.1),(.sl 4 1)]),(.arr 5 []),(.arr 1 []),(.arr 1 (List.map (ZhO true) s10.2.2))]=some ((Zjm b x0 r8) r):=
 lpT (Zjm b x0 r8) fun s10 _ ih=>yB (yG fun x11 _=>
  yC ZhT fun x12 _=>
  yB (Zd (ih _))
  (yG fun x13 _=>
  yT (ZdJ (ZzR Zm s10.1 1) (ZrL (ZEF Zm (fun _=>⟨rfl,rfl⟩) s10.1 _) (Zj (Zxe Zm s10.1 1) (yG fun x14 hx14=>
  Ze (Zi rfl hx14) (Zj (ZI (ZhO true) s10.2.2 s10.2.1.toNat [(w64 ((w64 (b-(r8.1.length:Int)))+x13))]) (Zd (ih _))))))
  ZbQ)))
  (Zk rfl)
theorem ZkZ {t0:Bool}{a:List Zq}{b:Int}:∀r,(Zg2 a b)=some r->evD ctx 11 [(.d (D.list t0 (List.map (Zhx true) a))),(zN b)]=some (Zql r):=
 evT ZFE rfl rfl <| Zj (ZF _ _) (yBr (yBr (yBr (yC Zou fun x0 _=>
  yBr (Zj (ZF _ _) (yBm (Zj (ZqJ (ZhO true) (([]:List Int):List Int) (x0.1.length:Int)) (Zc _ Zqu fun x1 _=>
  Zj (ZF _ _) (by
 conv=>rhs;whnf
 refine Zc _ (ZmT _) fun r8 _=>?_
 rcases r8 with r8 | r8
 exact yR
 exact yC Zp7 fun x9 _=>
  yBr (Zj (ZF _ _) (Zc _ (ZmI _) fun r15 _=>
  yR)))))))))))
def Zh5 (r:Bool):D:=(D.bool r)
def Zez (t0:Bool) (t1:Bool) (a:List Zf) (b:List Zf):(Unit⊕Unit)->Ex×List V×Zl
  | (.inl r)=>(.ret,[(.d (D.bool false))],[])
  | (.inr r)=>(.exit 0,[.bad],[])
theorem Zhd {t0 t1:Bool}{a:List Zf}{b:List Zf}:∀(s0:Int) (r:(Unit⊕Unit)),lp (Za9 a b) s0=some r->lpW ctx 0 [0,1,12,13] [4] ZAP [(zW t0 Zu a),(zW t1 Zu b),(zN (a.length:Int)),(zN s0)] []=some ((Zez t0 t1 a b) r):=
 lpT (Zez t0 t1 a b) fun s0 _ ih=>yB (yG fun x1 _=>
  yG fun x2 _=>
  yB (Zk rfl)
  (Zd (ih _)))
  (Zk rfl)
theorem ZhM {t0 t1:Bool}{a:List Zf}{b:List Zf}:∀r,(Zcw a b)=some r->evD ctx 52 [(zW t0 Zu a),(zW t1 Zu b)]=some (Zh5 r):=
 evT ZFK rfl rfl <| Zj (ZF _ _) (Zj (ZF _ _) (yBr (Zj (ZF _ _) (by
 conv=>rhs;whnf
 refine Zc _ (Zhd _) fun r3 _=>?_
 rcases r3 with r3 | r3
 exact yR
 exact yR))))
def Zjk (r:Bool):D:=(D.bool r)
def ZfV (t0:Bool) (t1:Bool) (a:List Int) (b:List Int):(Unit⊕Unit)->Ex×List V×Zl
  | (.inl r)=>(.ret,[(.d (D.bool false))],[])
  | (.inr r)=>(.exit 0,[.bad],[])
theorem Zh1 {t0 t1:Bool}{a:List Int}{b:List Int}:∀(s0:Int) (r:(Unit⊕Unit)),lp (ZbG a b) s0=some r->lpW ctx 0 [0,1,12,13] [4] ZzW [(zV t0 a),(zV t1 b),(zN (a.length:Int)),(zN s0)] []=some ((ZfV t0 t1 a b) r):=
 lpT (ZfV t0 t1 a b) fun s0 _ ih=>yB (yG fun x1 _=>
  yG fun x2 _=>
  yB (Zk rfl)
  (Zd (ih _)))
  (Zk rfl)
theorem ZiX {t0 t1:Bool}{a:List Int}{b:List Int}:∀r,(Za5 a b)=some r->evD ctx 54 [(zV t0 a),(zV t1 b)]=some (Zjk r):=
 evT ZE0 rfl rfl <| Zj (ZF _ _) (Zj (ZF _ _) (yBr (Zj (ZF _ _) (by
 conv=>rhs;whnf
 refine Zc _ (Zh1 _) fun r3 _=>?_
 rcases r3 with r3 | r3
 exact yR
 exact yR))))
def Zb3 (r:Bool):D:=(D.bool r)
def Zat (t0:Bool) (t1:Bool) (a:(List (List Int))) (b:(List (List Int))):(Unit⊕Unit)->Ex×List V×Zl
  | (.inl r)=>(.ret,[(.d (D.bool false))],[])
  | (.inr r)=>(.exit 0,[.bad],[])
theorem ZbL {t0 t1:Bool}{a:(List (List Int))}{b:(List (List Int))}:∀(s0:Int) (r:(Unit⊕Unit)),lp (Z3 a b (fun z0 z1=>Za5 z0 z1)) s0=some r->lpW ctx 0 [1,2,15,16,17] [6] ZAr [(.d (D.list t1 (List.map (ZhO true) b))),(.d (D.fn 54 [])),(.d (D.list t0 (List.map (ZhO true) a))),(zN (a.length:Int)),(zN s0)] []=some ((Zat t0 t1 a b) r):=
 lpT (Zat t0 t1 a b) fun s0 _ ih=>yB (yG fun x1 _=>
  yG fun x2 _=>
  yC ZiX fun x3 _=>
  yB (Zd (ih _))
  (Zk rfl))
  (Zk rfl)
theorem ZbZ {t0 t1:Bool}{a:(List (List Int))}{b:(List (List Int))}:∀r,(Za4 a b (fun z0 z1=>Za5 z0 z1))=some r->evD ctx 53 [(.d (D.list t0 (List.map (ZhO true) a))),(.d (D.list t1 (List.map (ZhO true) b))),(.d (D.fn 54 []))]=some (Zb3 r):=
 evT ZFO rfl rfl <| Zj (ZF _ _) (Zj (ZF _ _) (yBr (Zj (ZF _ _) (by
 conv=>rhs;whnf
 refine Zc _ (ZbL _) fun r4 _=>?_
 rcases r4 with r4 | r4
 exact yR
 exact yR))))
def Zq3 (r:Bool):D:=(D.bool r)
theorem Zqg {t0 t1:Bool}{t2 t3:Bool}{a b:Zhw}:∀r,(Zi2 a b)=some r->evD ctx 24 [(.d (D.agg [(zM t0 Zu a.shapes),(D.list t1 (List.map (ZhO true) a.cores))])),(.d (D.agg [(zM t2 Zu b.shapes),(D.list t3 (List.map (ZhO true) b.cores))]))]=some (Zq3 r):=
 evT ZEy rfl rfl <| yC ZhM fun x0 _=>
  yB (yC ZbZ fun x1 _=>
  yBr yR)
  yR
def ZmM (r:Bool):D:=(D.bool r)
theorem Zmi {t0:Bool}{a:List Zq}{b:Int}:∀r,(Zhr a b)=some r->evD ctx 6 [(.d (D.list t0 (List.map (Zhx true) a))),(zN b)]=some (ZmM r):=
 evT fn6 rfl rfl <| yC Zfu fun x0 _=>
  yB (yC Zst fun x1 _=>
  yB (yB (yC Zfu fun x2 _=>
  yBr yR)
  (yB (yC Zfu fun x3 _=>
  yBr yR)
  (Zc _ ZlU fun x4 _=>
  yC ZkZ fun x5 _=>
  Zc _ ZlU fun x6 _=>
  yC ZkZ fun x7 _=>
  yB (yBr (yBr (yBr yR)))
  (yB (yC Zqg fun x8 _=>
  yB (yBr (yBr (yBr yR)))
  yR)
  yR))))
  (yC Zfu fun x9 _=>
  yBr yR))
  (yC Zfu fun x10 _=>
  yBr yR)
abbrev ZBf:List Lf×Bool:=([.int .i64],false)
abbrev Zwp:List Lf×Bool:=([.sl true [.int .i64,.int .i64,.sl true [.int .i64,.int .i64,.int .i64],.sl true [.int .i64,.int .i64],.sl true [.int .i64,.int .i64,.int .i64],.sl true [.sl false [.int .i64],.sl false [.int .i64]]]],false)
theorem Zvz {s:List Zf}{b:Nat}{p:Zhw} (h:Zkv s b=some p):Zkv s (b+1)=some p:=by
 obtain⟨h1,a,h2,rfl⟩:=ZpO h
 have hm:ZlW (Zcq s) (b-ZaU s+1)=some a:=Zs3 h2
 rw[show b-ZaU s+1=b+1-ZaU s by omega] at hm
 exact Zy3 (by omega) hm
theorem ZyY (a:List Zf) (hl:a.length<9223372036854775808):Zcw a a=some true:=by
 have key:=ZfY a (Za9 a a) (fun _ _=>false) (fun _ _=>.inl ()) (.inr ()) (fun i x hi hx=>by
   simp only[Za9,Zc7 hi,Z5 hx,Option.bind_some,ZS hi hl,cond_true,beq_self_eq_true,Bool.and_self,Bool.not_true]
   rfl) (by simp only[Za9,ZeI];rfl)
 unfold Zcw
 rw[key,Zdr,Zih,List.any_eq_false.2 fun x hx=>by simp]
 simp only[bne_self_eq_false,cond_false]
 rfl
theorem ZDb (a:List Int) (hl:a.length<9223372036854775808):Za5 a a=some true:=by
 have key:=ZfY a (ZbG a a) (fun _ _=>false) (fun _ _=>.inl ()) (.inr ()) (fun i x hi hx=>by
   simp only[ZbG,Zc7 hi,Z5 hx,Option.bind_some,ZS hi hl,cond_true,bne_self_eq_false]
   rfl) (by simp only[ZbG,ZeI];rfl)
 unfold Za5
 rw[key,Zdr,Zih,List.any_eq_false.2 fun x hx=>by simp]
 simp only[bne_self_eq_false,cond_false]
 rfl
theorem Zzv (p:Zhw) (h1:p.shapes.length<=1000) (h2:p.cores.length<=1000) (h3:∀r∈p.cores,r.length<=1000):Zi2 p p=some true:=by
 have key:=ZfY p.cores (Z3 p.cores p.cores (fun z0 z1=>Za5 z0 z1)) (fun _ _=>false) (fun _ _=>.inl ()) (.inr ()) (fun i x hi hx=>by
   have:=h3 x (List.mem_of_getElem? hx)
   simp only[Z3,Zc7 hi,Z5 hx,Option.bind_some,ZDb x (by omega),ZS hi (show p.cores.length<9223372036854775808 by omega),cond_true]
   rfl) (by simp only[Z3,ZeI];rfl)
 unfold Zi2 Za4
 rw[ZyY _ (by omega),key,Zdr,Zih,List.any_eq_false.2 fun x hx=>by simp]
 simp only[bne_self_eq_false,cond_false]
 rfl
theorem ZsR (l:List Zq) (b:Int):Zhr l b=some true:=by
 unfold Zhr
 simp only[Zfj,Option.bind_some,cond_true]
 obtain⟨f,f1,f2⟩:=ZGc l
 rw[f1,Option.bind_some]
 cases f with
 | false=>rfl
 | true=>
  obtain⟨hl,hz⟩:=f2 rfl
  rw[cond_true]
  by_cases b1:b<1
  ·rw[decide_eq_true b1];rfl
  rw[decide_eq_false b1]
  by_cases b8:8<=b
  ·rw[decide_eq_true b8];rfl
  rw[decide_eq_false b8]
  simp only[cond_false,ZFX (show l.length<=1000 by omega) hz,Option.bind_some,ZDf (show l.length<=1000 by omega) hz,ZaL (show -9223372036854775808<=b+1 by omega) (show b+1<9223372036854775808 by omega)]
  have e1:(decide (b<1) || decide (8<b))=false:=by simp;omega
  have e2:(decide (b+1<1) || decide (8<b+1))=false:=by simp;omega
  unfold Zxk
  rw[e1,e2,Bool.or_false]
  cases h8:decide (8<(l.length:Int)) with
  | true=>rfl
  | false=>
   have h8:=of_decide_eq_false h8
   simp only[cond_false]
   by_cases he:shE l=0
   ·rw[he]
    simp only[beq_self_eq_true,cond_true]
    cases hp:Zkv (shL l) b.toNat with
    | none=>rfl
    | some p=>
     have hp2:=Zvz hp
     rw[show(b+1).toNat=b.toNat+1 by omega,hp2]
     obtain⟨q1,q2,q3⟩:=Zxz (ZAy he) (show(shL l).length<=8 by unfold shL;rw[List.length_map];omega) (show b.toNat<=8 by omega) hp
     dsimp only
     rw[Zzv p (by omega) (by omega) q3]
     rfl
   ·have hb:(shE l==0)=false:=beq_eq_false_iff_ne.2 he
    rw[hb]
    simp only[cond_false,ZCZ he,cond_true,hb,beq_self_eq_true]
    cases shE l==171<;>rfl
theorem ZuE (xs:List D) (h:Zie Zwp.1 xs) (ys:List D) (k:Zie ZBf.1 ys):∃H',evW ctx 6 (ZcW [ZvY Zwp.2 xs,ZvY ZBf.2 ys]) []=some (.d (.bool true),H'):=by
 obtain⟨x,r,rfl,h1,rfl⟩:=h
 obtain⟨l,rfl⟩:=Zz6 h1
 obtain⟨n,hn,okn⟩:=ZFh k
 show ∃H',evW ctx 6 [.d (.list true (l.map (Zhx true))),.d (ZvY false ys)] []=_
 rw[hn]
 exact ZCw (Zmi true (ZsR l n))
end Go.Proofs.YtmnglncebfabpaaGreatDoor
namespace Go.Proofs.YtmnglncebfabpaaGreatDoor.LawAdmitMore
open Go.ChangeShapes Go.WideShapes Go.ChangeAt Go.RowKit Go.Proofs.YtmnglncebfabpaaGreatDoorE
theorem own:ownKnob Tryz.prog.godebug=none:=by kernel_rfl
theorem Zyd:laidOutB Tryz.prog=true:=by kernel_rfl
def Zsr : List (String × DataW Unit) := [("math/bits.deBruijn32tab", Rows.laid_math_bits_deBruijn32tab), ("math/bits.deBruijn64tab", Rows.laid_math_bits_deBruijn64tab)]
theorem ZCd (os:Os) (args:Array Value):laidMetH Tryz.prog Zsr ((World.doorLaid Tryz.prog 19 os).forCall (fun _ _=>0) ⟨#[],args,[]⟩).memory:=
 laidMetH_of_parts3 (fuel:=8) (laidMet_of_run' 8 (by kernel_rfl) (by kernel_rfl)) (by kernel_rfl) (by kernel_rfl)
theorem ZAv {W:World} (h:laidMetH Tryz.prog Zsr W):GOK ZkP R0 W:=by
 intro g l hg
 unfold ZkP at hg
 split at hg
 ·cases hg
  exact ZrY (t := 175) (N := 32) (e := 5) (k := .u8) h (by kernel_rfl) (n := "math/bits.deBruijn32tab") (by rw [show DataW.agg (Znv ZEe) = Rows.laid_math_bits_deBruijn32tab by kernel_rfl]; simp [Zsr]) (by kernel_rfl) (by kernel_rfl) (by kernel_rfl) (by kernel_rfl) (by kernel_rfl) (by kernel_rfl) (by decide)
 ·cases hg
  exact ZrY (t := 176) (N := 64) (e := 5) (k := .u8) h (by kernel_rfl) (n := "math/bits.deBruijn64tab") (by rw [show DataW.agg (Znv ZDY) = Rows.laid_math_bits_deBruijn64tab by kernel_rfl]; simp [Zsr]) (by kernel_rfl) (by kernel_rfl) (by kernel_rfl) (by kernel_rfl) (by kernel_rfl) (by kernel_rfl) (by decide)
 ·cases hg
theorem ZFo (os:Os) (started:os.Started) (H:Type) (enc:TypeId×Value->H) :
  ReturnsInHanded {} Tryz.checked os 6 .any (fun w args=>(Rows.admitMoreSpec.pre enc Tryz.prog Tryz.f6 [] false w args/\laidMetH Tryz.prog Zsr w)/\sizedMet enc Tryz.prog Tryz.f6 (OpenSpec.ofChange Rows.admitMoreSpec) false w args) (Rows.admitMoreSpec.post enc Tryz.prog Tryz.f6 false true false false):=by
 refine returnsInHanded_of_change_and (C:=Tryz.checked) (X:=fun w _=>laidMetH Tryz.prog Zsr w) (fun _ _ _ hh h=>h.of_heap hh) own started (by kernel_rfl) Tryz.func6
  (ChangeSpec.witness_shaped (enc:=enc) (C:=Tryz.checked) (os:=os) (X:=fun w _=>laidMetH Tryz.prog Zsr w) false (World.doorLaid Tryz.prog 19 os) #[.slice none 0 0,.int .i64 0] 8 rfl (World.shaped_of_RefB (by kernel_rfl) (by kernel_rfl)) (by kernel_rfl) (by kernel_rfl) (by kernel_rfl) (ZCd os _)) ?_
 intro W base args ds gs before hval0 hW _ _ hL _
 have hval:∀(j:Nat) t v,Tryz.f6.params[j]? = some t->args[j]? = some v->Value.okWide Tryz.prog W .any base t v:=hval0
 have hW':=hW
 obtain⟨p,q,hA0,hV,rfl,hfz,hnd⟩:=hW
 have hA:DataW.TrodAll enc Tryz.prog W 0 (fun _=>true) true Tryz.f6.params.toList args.toList ds p:=hA0
 rw[Tryz.params6] at hA hval
 obtain⟨v0,vs0,d0,ds0,p0,q0,hargs,rfl,rfl,h0,r0⟩:=trodAll_cons hA
 obtain⟨v1,vs1,d1,ds1,p1,q1,rfl,rfl,rfl,h1,r1⟩:=trodAll_cons r0
 obtain⟨rfl,rfl,rfl⟩:=trodAll_nil r1
 obtain rfl:args = #[v0,v1]:=by cases args;simp_all
 obtain⟨rfl,rfl⟩:=trodVars_none hV
 have lt0:∀x∈p0,x.block<W.heap.size:=by obtain⟨m,hm⟩:=h0;exact DataW.trod_lt m _ _ _ hm
 obtain⟨x0,ok0,den0⟩:=ZAp (P:=Tryz.prog) (n:=8) (t:=22) (l:=Zwp.1) (ag:=Zwp.2) (by kernel_rfl) (hval 0 22 v0 rfl rfl) h0
 have lt1:∀x∈p1,x.block<W.heap.size:=by obtain⟨m,hm⟩:=h1;exact DataW.trod_lt m _ _ _ hm
 obtain⟨x1,ok1,den1⟩:=ZAp (P:=Tryz.prog) (n:=8) (t:=3) (l:=ZBf.1) (ag:=ZBf.2) (by kernel_rfl) (hval 1 3 v1 rfl rfl) h1
 obtain⟨H1,ev⟩:=ZuE x0 ok0 x1 ok1
 have den:ZaW All All All W [ZvY Zwp.2 x0,ZvY ZBf.2 x1] [v0,v1]:=⟨_,_,rfl,den0,⟨_,_,rfl,den1,rfl⟩⟩
 refine(Zzr ZGN (ZAv hL) den ev).mono fun e W' ⟨he,bel⟩=>?_
 subst he
 exact⟨_,rfl,_,_,_,[],_,[],hW',trodAll_mk1 (shut_bool Tryz.underlying4 _),(trodAll_cons_mk (Below.trod Zyd (by kernel_rfl) (of_decide_eq_true (by kernel_rfl)) h0 bel lt0) (trodAll_cons_mk (Below.trod Zyd (by kernel_rfl) (of_decide_eq_true (by kernel_rfl)) h1 bel lt1) trodAll_mk0)),rfl,bel.frame _,fun h=>by cases h⟩
theorem over:Rows.admitMoreRow.holds Tryz.pinned (OpenSpec.ofChange Rows.admitMoreSpec):=
 OpenClaim.holds_of_wide 6 Tryz.f6 rfl rfl rfl rfl rfl rfl rfl ⟨rfl,rfl,rfl,rfl,rfl⟩ rfl rfl rfl rfl rfl (by kernel_rfl) Tryz.func6 (by kernel_rfl)
  (of_decide_eq_true (by kernel_rfl)) (by unfold Func.isWrapper;first | (rw[if_pos (by decide +kernel)];kernel_rfl) | (rw[if_neg (by decide +kernel)];exact⟨rfl,rfl⟩))
  (fun os started H enc _=>ZFo os started H enc)
theorem proved:Rows.AdmitMoreSaid:=over
theorem carded:Rows.AdmitMoreCardSaid:=
 Claim7.holds_tied_plain_at .later [] [.data, .data] true (true, "5993bbbb36cd418e27731508b4ad0539b37fc49c272e06c4f0b99c3df5968dc5") false
  proved (fun _ h=>by cases h) (by kernel_rfl) (fun _ h=>by cases h) admitMore_row_tie rfl ⟨rfl,rfl⟩ (by kernel_rfl) rfl
  (fun f fn hf hfn=>by
   obtain rfl : f = 6 := Option.some.inj ((show Tryz.prog.funcNamed "trefoil/trefoillaw17.AdmitMore" = some 6 by kernel_rfl).symm.trans hf) |>.symm
   obtain rfl:fn=Tryz.f6:=(Option.some.inj (Tryz.func6.symm.trans hfn)).symm
   exact⟨by kernel_rfl,fun j t ht=>by
    rw[Tryz.params6] at ht
    have hm:t∈[22,3]:=by simpa using Array.mem_of_getElem? ht
    have hall:([22,3].all fun u=>!Tryz.prog.wantsStandIn u)=true:=by kernel_rfl
    exact(show Tryz.prog.wantsStandIn t=false by simpa using List.all_eq_true.1 hall t hm)⟩)
  (by kernel_rfl)
end Go.Proofs.YtmnglncebfabpaaGreatDoor.LawAdmitMore
namespace Go.Proofs.YtmnglncebfabpaaGreatDoor
theorem admitMore_holds:Rows.AdmitMoreCardSaid:=LawAdmitMore.carded
#print axioms admitMore_holds
end Go.Proofs.YtmnglncebfabpaaGreatDoor
