/- AdmitSound: part 6 of 6 of the proof: the row and the card of the law, out of what the evaluator says of it; without conditions. -/
import Derived.Test.YtmnglncebfabpaaGreatDoorZAdmitSounde
import Derived.KernelRfl
import Derived.Test.YtmnglncebfabpaaGreatDoorRows
import Derived.Test.YtmnglncebfabpaaGreatDoorCards
import Derived.Test.YtmnglncebfabpaaGreatDoorTie
import Derived.WalkKit
import Derived.ProofKit
import Derived.OpenShut
import Derived.ShutString
import Derived.ChangeOld
import Derived.Below
import Derived.SizedLaws
import Derived.Handed
import Derived.LaidMore
import Derived.Stop.Joined
import Derived.ChangeShapes
import Derived.Carry
import Derived.SevenTiedAt
set_option maxRecDepth 100000
set_option maxHeartbeats 40000000
set_option linter.unusedVariables false
set_option linter.unusedSimpArgs false
namespace Go.Proofs.YtmnglncebfabpaaGreatDoor
open Go Go.Proofs.YtmnglncebfabpaaGreatDoorE
open Go.IntKind (u64 i64 u32 i32 u8)
def ZrO (r:Bool):D:=(D.bool r)
theorem ZdW {a:Zf}:∀r,(ZbZ a)=some r->evD ctx 28 [(.d (zK1 a.total a.long a.most a.deadline a.period))]=some (ZrO r):=
 evT ZHm rfl rfl <| yC Zhf fun x0 _=>
  yB ((by
 conv=>rhs;whnf
 refine yC Zn9 fun x1 _=>?_
 rcases x1 with x1 | x1
 exact yC Zil fun x2 _=>
  yC Zet fun x3 _=>
  yBr yR
 exact yC Zet fun x4 _=>
  yC Zet fun x5 _=>
  yBr yR))
  yR
def ZsU (b:Int) (mG:List Int):(Unit⊕Unit)->V×Zl
  | (.inl r)=>((.d (D.tup [(zL true (List.take b.toNat mG)),(D.bool true)])),[(.ch (List.drop b.toNat mG))])
  | (.inr r)=>((.d (D.tup [(zL true ([]:List Int)),(D.bool false)])),[(.ch ([]:List Int))])
theorem Zr0 {b:Int}{mG:List Int}:∀r,(Zmy b mG)=some r->evW ctx 35 [(.ch 0),(zN b)] [(.ch mG)]=some ((ZsU b mG) r):=
 evS ZJC rfl rfl <| yBm (yB (yT yR)
  (yF yR))
def ZrI (r:Bool):D:=(D.bool r)
theorem ZqG {a:Zf}:∀r,(Zda a)=some r->evD ctx 94 [(.d (zK1 a.total a.long a.most a.deadline a.period))]=some (ZrI r):=
 evT ZH1 rfl rfl <| yC Zhf fun x0 _=>
  yBr (yC ZdW fun x1 _=>
  yBr yR)
def Zfb (r:Int):D:=(Zm r)
def ZbV (t0:Bool) (a:List Zf):(Int⊕Unit)->Ex×List V×Zl
  | (.inl r)=>(.ret,[(zN r)],[])
  | (.inr r)=>(.exit 0,[.bad],[])
theorem Zd5 {t0:Bool}{a:List Zf}:∀(s0:Int) (r:(Int⊕Unit)),lp (ZaO a (fun z0=>Zda z0)) s0=some r->lpW ctx 0 [0,1,7,8] [4] ZAm [(zW t0 Zp a),(.d (D.fn 94 [])),(zN (a.length:Int)),(zN s0)] []=some ((ZbV t0 a) r):=
 lpT (ZbV t0 a) fun s0 _ ih=>yB (yG fun x1 _=>
  yC ZqG fun x2 _=>
  yB (Zi rfl)
  (Zd (ih _)))
  (Zi rfl)
theorem ZeM {t0:Bool}{a:List Zf}:∀r,(ZcK a (fun z0=>Zda z0))=some r->evD ctx 121 [(zW t0 Zp a),(.d (D.fn 94 []))]=some (Zfb r):=
 evT ZCv rfl rfl <| Zh (Zy _ _) (by
 conv=>rhs;whnf
 refine Zc _ (Zd5 _) fun r3 _=>?_
 rcases r3 with r3 | r3
 exact yR
 exact yR)
def Zer (r:Bool):D:=(D.bool r)
theorem ZdZ {t0:Bool}{a:List Zf}:∀r,(Zbl a (fun z0=>Zda z0))=some r->evD ctx 95 [(zW t0 Zp a),(.d (D.fn 94 []))]=some (Zer r):=
 evT ZHM rfl rfl <| yC ZeM fun x0 _=>
  yBr yR
def Zun (r:Int):D:=(Zm r)
theorem ZgH {t0:Bool}{a:List Zf}:∀r,(ZgU a)=some r->evD ctx 64 [(zW t0 Zp a)]=some (Zun r):=
 evT ZHt rfl rfl <| Zh (Zy _ _) (yBr (yC ZdZ fun x0 _=>
  yBr yR))
def ZrJ (r:Bool):D:=(D.bool r)
theorem ZqS {a:Int}:∀r,(ZiI a)=some r->evD ctx 65 [(zN a)]=some (ZrJ r):=
 evT ZIp rfl rfl <| yB (yBr yR)
  yR
def Zqw (r:Int):D:=(Zm r)
theorem ZL {t0:Bool}{a b:Int}{c0:List Zf}:∀r,(ZC a b c0)=some r->evD ctx 97 [(zN a),(zN b),(.d (D.rptr [(zM t0 Zp c0)]))]=some (Zqw r):=
 evT ZHG rfl rfl <| yG fun x0 hx0=>
  yG fun x1 hx1=>
  yBr (Ze (Z4 rfl hx0) (Ze (Z4 rfl hx1) (yBr yR)))
def Zeu (t0:Bool) (b:Int) (c:Int) (mG:List Int) (mA:List Zf):(List Int)->V×Zl
  | r=>((.d (D.tup [])),[(zA r),(.cells [(zW t0 Zp mA)])])
def ZbH (t0:Bool) (b:Int) (c:Int) (mA:List Zf) (s0:Int×(List Int)):(List Int)->Ex×List V×Zl
  | r=>(.exit 2,[(.sl 0 1),(zN b),(zN c),(.fn 97 [(.ptr 1 0)]),(zN s0.1)],[(zA r),(.cells [(zW t0 Zp mA)])])
theorem ZdB {t0:Bool}{b c:Int}{mA:List Zf}{s0:Int×(List Int)}:∀(s1:Int×(List Int)) (r:List Int),lp (Z0 b (fun z0 z1=>ZC z0 z1 mA)) s1=some r->lpW ctx 2 [0,1,2,3,8,9] [0,1,2,3,8] Zwr [(.sl 0 1),(zN b),(zN c),(.fn 97 [(.ptr 1 0)]),(zN s0.1),(zN s1.1)] [(zA s1.2),(.cells [(zW t0 Zp mA)])]=some ((ZbH t0 b c mA s0) r):=
 lpT (ZbH t0 b c mA s0) fun s1 _ ih=>yB (yG fun x2 hx2=>
  Ze (Zk rfl hx2) (yG fun x3 hx3=>
  Ze (Zk rfl hx3) (yC ZL fun x4 _=>
  yB (Ze (Z4 rfl hx3) (Ze (Zk rfl hx3) (Ze (Z4 rfl hx2) (Ze (Zk rfl hx2) (Ze (Z4 rfl hx2) (Ze (Zk rfl hx2) (Zh (ZI Zm s1.2 s1.1.toNat x3) (yG fun x5 hx5=>
  Ze (Zk rfl hx5) (Zh (ZI Zm (List.set s1.2 s1.1.toNat x3) (w64 (s1.1-1)).toNat x2) (Zd (ih _)))))))))))
  (Zi rfl))))
  (Zi rfl)
def ZbJ (t0:Bool) (b:Int) (c:Int) (mA:List Zf):(List Int)->Ex×List V×Zl
  | r=>(.exit 0,[],[(zA r),(.cells [(zW t0 Zp mA)])])
theorem ZdF {t0:Bool}{b c:Int}{mA:List Zf}:∀(s0:Int×(List Int)) (r:List Int),lp (Zam b c (fun z0 z1=>ZC z0 z1 mA)) s0=some r->lpW ctx 2 [0,1,2,3,8] [] ZwD [(.sl 0 1),(zN b),(zN c),(.fn 97 [(.ptr 1 0)]),(zN s0.1)] [(zA s0.2),(.cells [(zW t0 Zp mA)])]=some ((ZbJ t0 b c mA) r):=
 lpT (ZbJ t0 b c mA) fun s0 _ ih=>yB (Zc _ (ZdB _) fun r6 _=>
  Zd (ih _))
  (Zi rfl)
theorem Zal {t0:Bool}{b c:Int}{mG:List Int}{mA:List Zf}:∀r,(ZZ b c (fun z0 z1=>ZC z0 z1 mA) mG)=some r->evW ctx 145 [(.sl 0 1),(zN b),(zN c),(.fn 97 [(.ptr 1 0)])] [(zA mG),(.cells [(zW t0 Zp mA)])]=some ((Zeu t0 b c mG mA) r):=
 evS Zz6 rfl rfl <| Zc _ (ZdF _) fun r7 _=>
  yR
def ZfR (t0:Bool) (b:Int) (c:Int) (d:Int) (mG:List Int) (mA:List Zf):(List Int)->V×Zl
  | r=>((.d (D.tup [])),[(zA r),(.cells [(zW t0 Zp mA)])])
def Zck (t0:Bool) (c:Int) (d:Int) (mA:List Zf):((List Int)⊕(List Int))->Ex×List V×Zl
  | (.inl r)=>(.exit 0,[],[(zA r),(.cells [(zW t0 Zp mA)])])
  | (.inr r)=>(.ret,[],[(zA r),(.cells [(zW t0 Zp mA)])])
theorem ZeN {t0:Bool}{c d:Int}{mA:List Zf}:∀(s0:Int×(List Int)) (r:((List Int)⊕(List Int))),lp (ZK c d (fun z0 z1=>ZC z0 z1 mA)) s0=some r->lpW ctx 2 [0,2,3,4,10] [] Zwe [(.sl 0 1),(zN c),(zN d),(.fn 97 [(.ptr 1 0)]),(zN s0.1)] [(zA s0.2),(.cells [(zW t0 Zp mA)])]=some ((Zck t0 c d mA) r):=
 lpT (Zck t0 c d mA) fun s0 _ ih=>yB (Zi rfl)
  (yB (yG fun x1 hx1=>
  Ze (Zk rfl hx1) (yG fun x2 hx2=>
  Ze (Zk rfl hx2) (yC ZL fun x3 _=>
  yB (yG fun x4 hx4=>
  Ze (Zk rfl hx4) (yG fun x5 hx5=>
  Ze (Zk rfl hx5) (yC ZL fun x6 _=>
  yB (Ze (Z4 rfl hx5) (Ze (Zk rfl hx5) (Ze (Z4 rfl hx4) (Ze (Zk rfl hx4) (Ze (Z4 rfl hx4) (Ze (Zk rfl hx4) (Zh (ZI Zm s0.2 (w64 (d+s0.1)).toNat x5) (yG fun x7 hx7=>
  Ze (Zk rfl hx7) (Zh (ZI Zm (List.set s0.2 (w64 (d+s0.1)).toNat x5) (w64 (d+(w64 ((w64 ((w64 (2*s0.1))+1))+1)))).toNat x4) (Zd (ih _)))))))))))
  (Zi rfl))))
  (yG fun x8 hx8=>
  Ze (Zk rfl hx8) (Ze (Z4 rfl hx1) (Ze (Zk rfl hx1) (yC ZL fun x9 _=>
  yB (Ze (Z4 rfl hx1) (Ze (Zk rfl hx1) (Ze (Z4 rfl hx8) (Ze (Zk rfl hx8) (Ze (Z4 rfl hx8) (Ze (Zk rfl hx8) (Zh (ZI Zm s0.2 (w64 (d+s0.1)).toNat x1) (yG fun x10 hx10=>
  Ze (Zk rfl hx10) (Zh (ZI Zm (List.set s0.2 (w64 (d+s0.1)).toNat x1) (w64 (d+(w64 ((w64 (2*s0.1))+1)))).toNat x8) (Zd (ih _)))))))))))
  (Zi rfl))))))))
  (yG fun x11 hx11=>
  Ze (Zk rfl hx11) (yG fun x12 hx12=>
  Ze (Zk rfl hx12) (yC ZL fun x13 _=>
  yB (Ze (Z4 rfl hx12) (Ze (Zk rfl hx12) (Ze (Z4 rfl hx11) (Ze (Zk rfl hx11) (Ze (Z4 rfl hx11) (Ze (Zk rfl hx11) (Zh (ZI Zm s0.2 (w64 (d+s0.1)).toNat x12) (yG fun x14 hx14=>
  Ze (Zk rfl hx14) (Zh (ZI Zm (List.set s0.2 (w64 (d+s0.1)).toNat x12) (w64 (d+(w64 ((w64 (2*s0.1))+1)))).toNat x11) (Zd (ih _)))))))))))
  (Zi rfl)))))
theorem Zcy {t0:Bool}{b c d:Int}{mG:List Int}{mA:List Zf}:∀r,(ZaE b c d (fun z0 z1=>ZC z0 z1 mA) mG)=some r->evW ctx 160 [(.sl 0 1),(zN b),(zN c),(zN d),(.fn 97 [(.ptr 1 0)])] [(zA mG),(.cells [(zW t0 Zp mA)])]=some ((ZfR t0 b c d mG mA) r):=
 evS ZAw rfl rfl <| (by
 conv=>rhs;whnf
 refine Zc _ (ZeN _) fun r15 _=>?_
 rcases r15 with r15 | r15
 exact yR
 exact yR)
def Zf0 (t0:Bool) (b:Int) (c:Int) (mG:List Int) (mA:List Zf):(List Int)->V×Zl
  | r=>((.d (D.tup [])),[(zA r),(.cells [(zW t0 Zp mA)])])
def Zcd (t0:Bool) (b:Int) (c:Int) (mA:List Zf):(List Int)->Ex×List V×Zl
  | r=>(.exit 0,[(.sl 0 1),(.fn 97 [(.ptr 1 0)]),(zN b),(zN 0),(zN (w64 (c-b)))],[(zA r),(.cells [(zW t0 Zp mA)])])
theorem ZeO {t0:Bool}{b c:Int}{mA:List Zf}:∀(s0:Int×(List Int)) (r:List Int),lp (ZaJ b c (fun z0 z1=>ZC z0 z1 mA)) s0=some r->lpW ctx 2 [0,3,8,9,10,11] [0,3,8,9,10] ZvV [(.sl 0 1),(.fn 97 [(.ptr 1 0)]),(zN b),(zN 0),(zN (w64 (c-b))),(zN s0.1)] [(zA s0.2),(.cells [(zW t0 Zp mA)])]=some ((Zcd t0 b c mA) r):=
 lpT (Zcd t0 b c mA) fun s0 _ ih=>yB (Zc _ Zcy fun x1 _=>
  Zd (ih _))
  (Zi rfl)
def Zcj (t0:Bool) (b:Int) (mA:List Zf):(List Int)->Ex×List V×Zl
  | r=>(.exit 2,[],[(zA r),(.cells [(zW t0 Zp mA)])])
theorem ZeH {t0:Bool}{b:Int}{mA:List Zf}:∀(s3:Int×(List Int)) (r:List Int),lp (ZaL b (fun z0 z1=>ZC z0 z1 mA)) s3=some r->lpW ctx 2 [0,3,8,9,12] [] ZvX [(.sl 0 1),(.fn 97 [(.ptr 1 0)]),(zN b),(zN 0),(zN s3.1)] [(zA s3.2),(.cells [(zW t0 Zp mA)])]=some ((Zcj t0 b mA) r):=
 lpT (Zcj t0 b mA) fun s3 _ ih=>yB (yG fun x4 hx4=>
  Ze (Zk rfl hx4) (yG fun x5 hx5=>
  Ze (Zk rfl hx5) (Ze (Z4 rfl hx5) (Ze (Zk rfl hx5) (Zh (ZI Zm s3.2 b.toNat x4) (yG fun x6 hx6=>
  Ze (Zk rfl hx6) (Zh (ZI Zm (List.set s3.2 b.toNat x4) (w64 (b+s3.1)).toNat x5) (Zc _ Zcy fun x7 _=>
  Zd (ih _)))))))))
  (Zi rfl)
theorem Zax {t0:Bool}{b c:Int}{mG:List Int}{mA:List Zf}:∀r,(Z9 b c (fun z0 z1=>ZC z0 z1 mA) mG)=some r->evW ctx 146 [(.sl 0 1),(zN b),(zN c),(.fn 97 [(.ptr 1 0)])] [(zA mG),(.cells [(zW t0 Zp mA)])]=some ((Zf0 t0 b c mG mA) r):=
 evS ZAO rfl rfl <| yF (Zc _ (ZeO _) fun r2 _=>
  Zc _ (ZeH _) fun r8 _=>
  yR)
def Zgd (t0:Bool) (b:Int) (c:Int) (mG:List Int) (mA:Int) (mI:List Zf):(Int×Int×Int)->V×Zl
  | r=>((.d (D.tup [(Zm r.1),(Zm r.2.1)])),[(zA mG),(.cells [(zN r.2.2)]),(.cells [(zW t0 Zp mI)])])
theorem Zbn {t0:Bool}{b c:Int}{mG:List Int}{mA:Int}{mI:List Zf}:∀r,(ZaU b c (fun z0 z1=>ZC z0 z1 mI) mG mA)=some r->evW ctx 174 [(.sl 0 1),(zN b),(zN c),(.ptr 1 0),(.fn 97 [(.ptr 2 0)])] [(zA mG),(.cells [(zN mA)]),(.cells [(zW t0 Zp mI)])]=some ((Zgd t0 b c mG mA mI) r):=
 evS ZAv rfl rfl <| yG fun x0 hx0=>
  Ze (Zk rfl hx0) (yG fun x1 hx1=>
  Ze (Zk rfl hx1) (yC ZL fun x2 _=>
  yBr yR))
def Zgh (t0:Bool) (b:Int) (c:Int) (d:Int) (mG:List Int) (mA:Int) (mI:List Zf):(Int×Int)->V×Zl
  | r=>((zN r.1),[(zA mG),(.cells [(zN r.2)]),(.cells [(zW t0 Zp mI)])])
theorem Zbo {t0:Bool}{b c d:Int}{mG:List Int}{mA:Int}{mI:List Zf}:∀r,(ZaT b c d (fun z0 z1=>ZC z0 z1 mI) mG mA)=some r->evW ctx 164 [(.sl 0 1),(zN b),(zN c),(zN d),(.ptr 1 0),(.fn 97 [(.ptr 2 0)])] [(zA mG),(.cells [(zN mA)]),(.cells [(zW t0 Zp mI)])]=some ((Zgh t0 b c d mG mA mI) r):=
 evS ZAN rfl rfl <| Zc _ Zbn fun x0 _=>
  Zc _ Zbn fun x1 _=>
  Zc _ Zbn fun x2 _=>
  yR
def Zeb (t0:Bool) (b:Int) (mG:List Int) (mA:Int) (mI:List Zf):(Int×Int)->V×Zl
  | r=>((zN r.1),[(zA mG),(.cells [(zN r.2)]),(.cells [(zW t0 Zp mI)])])
theorem ZaR {t0:Bool}{b:Int}{mG:List Int}{mA:Int}{mI:List Zf}:∀r,(Zab b (fun z0 z1=>ZC z0 z1 mI) mG mA)=some r->evW ctx 163 [(.sl 0 1),(zN b),(.ptr 1 0),(.fn 97 [(.ptr 2 0)])] [(zA mG),(.cells [(zN mA)]),(.cells [(zW t0 Zp mI)])]=some ((Zeb t0 b mG mA mI) r):=
 evS ZAJ rfl rfl <| Zc _ Zbo fun x0 _=>
  yR
def Zfj (t0:Bool) (b:Int) (c:Int) (mG:List Int) (mA:List Zf):(Int×Int)->V×Zl
  | r=>((.d (D.tup [(Zm r.1),(Zm r.2)])),[(zA mG),(.cells [(zW t0 Zp mA)])])
theorem Zap {t0:Bool}{b c:Int}{mG:List Int}{mA:List Zf}:∀r,(ZR b c (fun z0 z1=>ZC z0 z1 mA) mG)=some r->evW ctx 148 [(.sl 0 1),(zN b),(zN c),(.fn 97 [(.ptr 1 0)])] [(zA mG),(.cells [(zW t0 Zp mA)])]=some ((Zfj t0 b c mG mA) r):=
 evS ZAE rfl rfl <| yF (yF (yF (yB (yB (Zc _ ZaR fun x0 _=>
  Zc _ ZaR fun x1 _=>
  Zc _ ZaR fun x2 _=>
  Zc _ Zbo fun x3 _=>
  yBr (yBr yR))
  (Zc _ Zbo fun x4 _=>
  yBr (yBr yR)))
  (yT yR))))
def ZeK (t0:Bool) (b:Int) (c:Int) (mG:List Int) (mA:List Zf):(List Int)->V×Zl
  | r=>((.d (D.tup [])),[(zA r),(.cells [(zW t0 Zp mA)])])
def ZbO (t0:Bool) (mA:List Zf):(List Int)->Ex×List V×Zl
  | r=>(.exit 0,[],[(zA r),(.cells [(zW t0 Zp mA)])])
theorem ZdJ {t0:Bool}{mA:List Zf}:∀(s0:Int×Int×(List Int)) (r:List Int),lp (Z6) s0=some r->lpW ctx 2 [0,8,9] [] ZwQ [(.sl 0 1),(zN s0.1),(zN s0.2.1)] [(zA s0.2.2),(.cells [(zW t0 Zp mA)])]=some ((ZbO t0 mA) r):=
 lpT (ZbO t0 mA) fun s0 _ ih=>yB (yG fun x1 hx1=>
  Ze (Zk rfl hx1) (yG fun x2 hx2=>
  Ze (Zk rfl hx2) (Ze (Z4 rfl hx2) (Ze (Zk rfl hx2) (Zh (ZI Zm s0.2.2 s0.1.toNat x1) (yG fun x3 hx3=>
  Ze (Zk rfl hx3) (Zh (ZI Zm (List.set s0.2.2 s0.1.toNat x1) s0.2.1.toNat x2) (Zd (ih _)))))))))
  (Zi rfl)
theorem Zao {t0:Bool}{b c:Int}{mG:List Int}{mA:List Zf}:∀r,(ZP b c (fun z0 z1=>ZC z0 z1 mA) mG)=some r->evW ctx 149 [(.sl 0 1),(zN b),(zN c),(.fn 97 [(.ptr 1 0)])] [(zA mG),(.cells [(zW t0 Zp mA)])]=some ((ZeK t0 b c mG mA) r):=
 evS ZAI rfl rfl <| Zc _ (ZdJ _) fun r4 _=>
  yR
def Zdg (t0:Bool) (b:Int) (c:Int) (mG:List Int) (mA:List Zf):((List Int)⊕(List Int))->V×Zl
  | (.inl r)=>((.d (D.bool true)),[(zA r),(.cells [(zW t0 Zp mA)])])
  | (.inr r)=>((.d (D.bool false)),[(zA r),(.cells [(zW t0 Zp mA)])])
def Zbf (t0:Bool) (b:Int) (c:Int) (mA:List Zf) (s0:Int×Int×(List Int)):Int->Ex×List V×Zl
  | r=>(.exit 2,[(.sl 0 1),(zN b),(zN c),(.fn 97 [(.ptr 1 0)]),(zN r),(zN s0.2.1)],[(zA s0.2.2),(.cells [(zW t0 Zp mA)])])
theorem ZcR {t0:Bool}{b c:Int}{mA:List Zf}{s0:Int×Int×(List Int)}:∀(s1:Int) (r:Int),lp (ZN c (fun z0 z1=>ZC z0 z1 mA) s0) s1=some r->lpW ctx 2 [0,1,2,3,9,10] [0,1,2,3,9,10] ZwS [(.sl 0 1),(zN b),(zN c),(.fn 97 [(.ptr 1 0)]),(zN s1),(zN s0.2.1)] [(zA s0.2.2),(.cells [(zW t0 Zp mA)])]=some ((Zbf t0 b c mA s0) r):=
 lpT (Zbf t0 b c mA s0) fun s1 _ ih=>yB (yG fun x2 hx2=>
  Ze (Zk rfl hx2) (yG fun x3 hx3=>
  Ze (Zk rfl hx3) (yC ZL fun x4 _=>
  yB (Zi rfl)
  (Zd (ih _)))))
  (Zi rfl)
def Zbc (t0:Bool) (b:Int) (c:Int) (mA:List Zf) (s0:Int×Int×(List Int)) (r5:Int):(List Int)->Ex×List V×Zl
  | r=>(.exit 4,[(.sl 0 1),(zN b),(zN c),(.fn 97 [(.ptr 1 0)]),(zN r5),(zN s0.2.1)],[(zA r),(.cells [(zW t0 Zp mA)])])
theorem ZcS {t0:Bool}{b c:Int}{mA:List Zf}{s0:Int×Int×(List Int)}{r5:Int}:∀(s9:Int×(List Int)) (r:List Int),lp (ZW (fun z0 z1=>ZC z0 z1 mA)) s9=some r->lpW ctx 2 [0,1,2,3,9,10,11] [0,1,2,3,9,10] Zv6 [(.sl 0 1),(zN b),(zN c),(.fn 97 [(.ptr 1 0)]),(zN r5),(zN s0.2.1),(zN s9.1)] [(zA s9.2),(.cells [(zW t0 Zp mA)])]=some ((Zbc t0 b c mA s0 r5) r):=
 lpT (Zbc t0 b c mA s0 r5) fun s9 _ ih=>yB (yG fun x10 hx10=>
  Ze (Zk rfl hx10) (yG fun x11 hx11=>
  Ze (Zk rfl hx11) (yC ZL fun x12 _=>
  yB (Ze (Z4 rfl hx11) (Ze (Zk rfl hx11) (Ze (Z4 rfl hx10) (Ze (Zk rfl hx10) (Ze (Z4 rfl hx10) (Ze (Zk rfl hx10) (Zh (ZI Zm s9.2 s9.1.toNat x11) (yG fun x13 hx13=>
  Ze (Zk rfl hx13) (Zh (ZI Zm (List.set s9.2 s9.1.toNat x11) (w64 (s9.1-1)).toNat x10) (Zd (ih _)))))))))))
  (Zi rfl))))
  (Zi rfl)
def Zbg (t0:Bool) (b:Int) (c:Int) (mA:List Zf) (s0:Int×Int×(List Int)) (r5:Int):(List Int)->Ex×List V×Zl
  | r=>(.exit 6,[(.sl 0 1),(zN b),(zN c),(.fn 97 [(.ptr 1 0)]),(zN r5),(zN s0.2.1)],[(zA r),(.cells [(zW t0 Zp mA)])])
theorem Za8 {t0:Bool}{b c:Int}{mA:List Zf}{s0:Int×Int×(List Int)}{r5:Int}:∀(s15:Int×(List Int)) (r:List Int),lp (ZH c (fun z0 z1=>ZC z0 z1 mA)) s15=some r->lpW ctx 2 [0,1,2,3,9,10,12] [0,1,2,3,9,10] ZvN [(.sl 0 1),(zN b),(zN c),(.fn 97 [(.ptr 1 0)]),(zN r5),(zN s0.2.1),(zN s15.1)] [(zA s15.2),(.cells [(zW t0 Zp mA)])]=some ((Zbg t0 b c mA s0 r5) r):=
 lpT (Zbg t0 b c mA s0 r5) fun s15 _ ih=>yB (yG fun x16 hx16=>
  Ze (Zk rfl hx16) (yG fun x17 hx17=>
  Ze (Zk rfl hx17) (yC ZL fun x18 _=>
  yB (Ze (Z4 rfl hx17) (Ze (Zk rfl hx17) (Ze (Z4 rfl hx16) (Ze (Zk rfl hx16) (Ze (Z4 rfl hx16) (Ze (Zk rfl hx16) (Zh (ZI Zm s15.2 s15.1.toNat x17) (yG fun x19 hx19=>
  Ze (Zk rfl hx19) (Zh (ZI Zm (List.set s15.2 s15.1.toNat x17) (w64 (s15.1-1)).toNat x16) (Zd (ih _)))))))))))
  (Zi rfl))))
  (Zi rfl)
def Zbb (t0:Bool) (b:Int) (c:Int) (mA:List Zf):((List Int)⊕((List Int)⊕(List Int)))->Ex×List V×Zl
  | (.inl r)=>(.ret,[(.d (D.bool true))],[(zA r),(.cells [(zW t0 Zp mA)])])
  | (.inr (.inl r))=>(.ret,[(.d (D.bool false))],[(zA r),(.cells [(zW t0 Zp mA)])])
  | (.inr (.inr r))=>(.exit 0,[.bad],[(zA r),(.cells [(zW t0 Zp mA)])])
theorem ZcT {t0:Bool}{b c:Int}{mA:List Zf}:∀(s0:Int×Int×(List Int)) (r:((List Int)⊕((List Int)⊕(List Int)))),lp (ZV b c (fun z0 z1=>ZC z0 z1 mA)) s0=some r->lpW ctx 2 [0,1,2,3,9,10] [8] Zwy [(.sl 0 1),(zN b),(zN c),(.fn 97 [(.ptr 1 0)]),(zN s0.1),(zN s0.2.1)] [(zA s0.2.2),(.cells [(zW t0 Zp mA)])]=some ((Zbb t0 b c mA) r):=
 lpT (Zbb t0 b c mA) fun s0 _ ih=>yB (Zc _ (ZcR _) fun r5 _=>
  yB (Zi rfl)
  (yB (Zi rfl)
  (yG fun x6 hx6=>
  Ze (Zk rfl hx6) (yG fun x7 hx7=>
  Ze (Zk rfl hx7) (Ze (Z4 rfl hx7) (Ze (Zk rfl hx7) (Zh (ZI Zm s0.2.2 r5.toNat x6) (yG fun x8 hx8=>
  Ze (Zk rfl hx8) (Zh (ZI Zm (List.set s0.2.2 r5.toNat x6) (w64 (r5-1)).toNat x7) (yB (Zc _ (ZcS _) fun r14 _=>
  yB (Zc _ (Za8 _) fun r20 _=>
  Zd (ih _))
  (Zd (ih _)))
  (yB (Zc _ (Za8 _) fun r26 _=>
  Zd (ih _))
  (Zd (ih _)))))))))))))
  (Zi rfl)
theorem Zbm {t0:Bool}{b c:Int}{mG:List Int}{mA:List Zf}:∀r,(ZT b c (fun z0 z1=>ZC z0 z1 mA) mG)=some r->evW ctx 150 [(.sl 0 1),(zN b),(zN c),(.fn 97 [(.ptr 1 0)])] [(zA mG),(.cells [(zW t0 Zp mA)])]=some ((Zdg t0 b c mG mA) r):=
 evS ZzX rfl rfl <| (by
 conv=>rhs;whnf
 refine Zc _ (ZcT _) fun r27 _=>?_
 rcases r27 with r27 | (r27 | r27)
 exact yR
 exact yR
 exact yR)
def ZfF (t0:Bool) (b:Int) (c:Int) (d:Int) (mG:List Int) (mA:List Zf):((Int×(List Int))⊕(Int×(List Int)))->V×Zl
  | (.inl r)=>((.d (D.tup [(Zm r.1),(D.bool true)])),[(zA r.2),(.cells [(zW t0 Zp mA)])])
  | (.inr r)=>((.d (D.tup [(Zm r.1),(D.bool false)])),[(zA r.2),(.cells [(zW t0 Zp mA)])])
def Zb9 (t0:Bool) (b:Int) (c:Int) (d:Int) (mG:List Int) (mA:List Zf) (x0:Int) (x1:Int):Int->Ex×List V×Zl
  | r=>(.exit 0,[(.sl 0 1),(zN b),(.fn 97 [(.ptr 1 0)]),(zN r),(zN (w64 (c-1)))],[(zA (List.set (List.set mG b.toNat x0) d.toNat x1)),(.cells [(zW t0 Zp mA)])])
theorem ZeC {t0:Bool}{b c d:Int}{mG:List Int}{mA:List Zf}{x0 x1:Int}:∀(s3:Int) (r:Int),lp (ZaC b c d mG (fun z0 z1=>ZC z0 z1 mA) x0 x1) s3=some r->lpW ctx 2 [0,1,4,12,13] [0,1,4,12,13] ZwN [(.sl 0 1),(zN b),(.fn 97 [(.ptr 1 0)]),(zN s3),(zN (w64 (c-1)))] [(zA (List.set (List.set mG b.toNat x0) d.toNat x1)),(.cells [(zW t0 Zp mA)])]=some ((Zb9 t0 b c d mG mA x0 x1) r):=
 lpT (Zb9 t0 b c d mG mA x0 x1) fun s3 _ ih=>yB (yG fun x4 hx4=>
  Ze (Zk rfl hx4) (yG fun x5 hx5=>
  Ze (Zk rfl hx5) (yC ZL fun x6 _=>
  yB (Zd (ih _))
  (Zi rfl))))
  (Zi rfl)
def Zb8 (t0:Bool) (b:Int) (d:Int) (mG:List Int) (mA:List Zf) (x0:Int) (x1:Int) (r7:Int):Int->Ex×List V×Zl
  | r=>(.exit 2,[(.sl 0 1),(zN b),(.fn 97 [(.ptr 1 0)]),(zN r7),(zN r)],[(zA (List.set (List.set mG b.toNat x0) d.toNat x1)),(.cells [(zW t0 Zp mA)])])
theorem Zex {t0:Bool}{b d:Int}{mG:List Int}{mA:List Zf}{x0 x1 r7:Int}:∀(s8:Int) (r:Int),lp (ZaB b d mG (fun z0 z1=>ZC z0 z1 mA) x0 x1 r7) s8=some r->lpW ctx 2 [0,1,4,12,13] [0,1,4,12,13] Zv0 [(.sl 0 1),(zN b),(.fn 97 [(.ptr 1 0)]),(zN r7),(zN s8)] [(zA (List.set (List.set mG b.toNat x0) d.toNat x1)),(.cells [(zW t0 Zp mA)])]=some ((Zb8 t0 b d mG mA x0 x1 r7) r):=
 lpT (Zb8 t0 b d mG mA x0 x1 r7) fun s8 _ ih=>yB (yG fun x9 hx9=>
  Ze (Zk rfl hx9) (yG fun x10 hx10=>
  Ze (Zk rfl hx10) (yC ZL fun x11 _=>
  yB (Zi rfl)
  (Zd (ih _)))))
  (Zi rfl)
def Zcb (t0:Bool) (b:Int) (mA:List Zf) (s19:Int×Int×(List Int)):Int->Ex×List V×Zl
  | r=>(.exit 6,[(.sl 0 1),(zN b),(.fn 97 [(.ptr 1 0)]),(zN r),(zN s19.2.1)],[(zA s19.2.2),(.cells [(zW t0 Zp mA)])])
theorem Zew {t0:Bool}{b:Int}{mA:List Zf}{s19:Int×Int×(List Int)}:∀(s20:Int) (r:Int),lp (ZaD b (fun z0 z1=>ZC z0 z1 mA) s19) s20=some r->lpW ctx 2 [0,1,4,12,13] [0,1,4,12,13] ZvS [(.sl 0 1),(zN b),(.fn 97 [(.ptr 1 0)]),(zN s20),(zN s19.2.1)] [(zA s19.2.2),(.cells [(zW t0 Zp mA)])]=some ((Zcb t0 b mA s19) r):=
 lpT (Zcb t0 b mA s19) fun s20 _ ih=>yB (yG fun x21 hx21=>
  Ze (Zk rfl hx21) (yG fun x22 hx22=>
  Ze (Zk rfl hx22) (yC ZL fun x23 _=>
  yB (Zd (ih _))
  (Zi rfl))))
  (Zi rfl)
def Zca (t0:Bool) (b:Int) (mA:List Zf) (s19:Int×Int×(List Int)) (r24:Int):Int->Ex×List V×Zl
  | r=>(.exit 8,[(.sl 0 1),(zN b),(.fn 97 [(.ptr 1 0)]),(zN r24),(zN r)],[(zA s19.2.2),(.cells [(zW t0 Zp mA)])])
theorem Zev {t0:Bool}{b:Int}{mA:List Zf}{s19:Int×Int×(List Int)}{r24:Int}:∀(s25:Int) (r:Int),lp (Zaz b (fun z0 z1=>ZC z0 z1 mA) s19 r24) s25=some r->lpW ctx 2 [0,1,4,12,13] [0,1,4,12,13] ZwV [(.sl 0 1),(zN b),(.fn 97 [(.ptr 1 0)]),(zN r24),(zN s25)] [(zA s19.2.2),(.cells [(zW t0 Zp mA)])]=some ((Zca t0 b mA s19 r24) r):=
 lpT (Zca t0 b mA s19 r24) fun s25 _ ih=>yB (yG fun x26 hx26=>
  Ze (Zk rfl hx26) (yG fun x27 hx27=>
  Ze (Zk rfl hx27) (yC ZL fun x28 _=>
  yB (Zi rfl)
  (Zd (ih _)))))
  (Zi rfl)
def Zb6 (t0:Bool) (b:Int) (mA:List Zf):(Int×(List Int))->Ex×List V×Zl
  | r=>(.exit 4,[(.sl 0 1),(zN b),(zN r.1)],[(zA r.2),(.cells [(zW t0 Zp mA)])])
theorem Zez {t0:Bool}{b:Int}{mA:List Zf}:∀(s19:Int×Int×(List Int)) (r:(Int×(List Int))),lp (Za0 b (fun z0 z1=>ZC z0 z1 mA)) s19=some r->lpW ctx 2 [0,1,4,12,13] [0,1,13] Zws [(.sl 0 1),(zN b),(.fn 97 [(.ptr 1 0)]),(zN s19.1),(zN s19.2.1)] [(zA s19.2.2),(.cells [(zW t0 Zp mA)])]=some ((Zb6 t0 b mA) r):=
 lpT (Zb6 t0 b mA) fun s19 _ ih=>Zc _ (Zew _) fun r24 _=>
  Zc _ (Zev _) fun r29 _=>
  yB (Zi rfl)
  (yG fun x30 hx30=>
  Ze (Zk rfl hx30) (yG fun x31 hx31=>
  Ze (Zk rfl hx31) (Ze (Z4 rfl hx31) (Ze (Zk rfl hx31) (Zh (ZI Zm s19.2.2 r24.toNat x30) (yG fun x32 hx32=>
  Ze (Zk rfl hx32) (Zh (ZI Zm (List.set s19.2.2 r24.toNat x30) r29.toNat x31) (Zd (ih _)))))))))
theorem Zo {t0:Bool}{b c d:Int}{mG:List Int}{mA:List Zf}:∀r,(Zt b c d (fun z0 z1=>ZC z0 z1 mA) mG)=some r->evW ctx 152 [(.sl 0 1),(zN b),(zN c),(zN d),(.fn 97 [(.ptr 1 0)])] [(zA mG),(.cells [(zW t0 Zp mA)])]=some ((ZfF t0 b c d mG mA) r):=
 evS ZAk rfl rfl <| yG fun x0 hx0=>
  Ze (Zk rfl hx0) (yG fun x1 hx1=>
  Ze (Zk rfl hx1) (Ze (Z4 rfl hx1) (Ze (Zk rfl hx1) (Zh (ZI Zm mG b.toNat x0) (yG fun x2 hx2=>
  Ze (Zk rfl hx2) (Zh (ZI Zm (List.set mG b.toNat x0) d.toNat x1) (Zc _ (ZeC _) fun r7 _=>
  Zc _ (Zex _) fun r12 _=>
  yB (yG fun x13 hx13=>
  Ze (Zk rfl hx13) (yG fun x14 hx14=>
  Ze (Zk rfl hx14) (Ze (Z4 rfl hx14) (Ze (Zk rfl hx14) (Zh (ZI Zm (List.set (List.set mG b.toNat x0) d.toNat x1) r12.toNat x13) (yG fun x15 hx15=>
  Ze (Zk rfl hx15) (Zh (ZI Zm (List.set (List.set (List.set mG b.toNat x0) d.toNat x1) r12.toNat x13) b.toNat x14) yR)))))))
  (yG fun x16 hx16=>
  Ze (Zk rfl hx16) (yG fun x17 hx17=>
  Ze (Zk rfl hx17) (Ze (Z4 rfl hx17) (Ze (Zk rfl hx17) (Zh (ZI Zm (List.set (List.set mG b.toNat x0) d.toNat x1) r7.toNat x16) (yG fun x18 hx18=>
  Ze (Zk rfl hx18) (Zh (ZI Zm (List.set (List.set (List.set mG b.toNat x0) d.toNat x1) r7.toNat x16) r12.toNat x17) (Zc _ (Zez _) fun r33 _=>
  yG fun x34 hx34=>
  Ze (Zk rfl hx34) (yG fun x35 hx35=>
  Ze (Zk rfl hx35) (Ze (Z4 rfl hx35) (Ze (Zk rfl hx35) (Zh (ZI Zm r33.2 r33.1.toNat x34) (yG fun x36 hx36=>
  Ze (Zk rfl hx36) (Zh (ZI Zm (List.set r33.2 r33.1.toNat x34) b.toNat x35) yR)))))))))))))))))))))
def Zef (t0:Bool) (b:Int) (c:Int) (d:Int) (mG:List Int) (mA:List Zf):(Int×(List Int))->V×Zl
  | r=>((zN r.1),[(zA r.2),(.cells [(zW t0 Zp mA)])])
def ZbC (t0:Bool) (b:Int) (mA:List Zf) (s3:Int×Int×(List Int)):Int->Ex×List V×Zl
  | r=>(.exit 2,[(.sl 0 1),(zN b),(.fn 97 [(.ptr 1 0)]),(zN r),(zN s3.2.1)],[(zA s3.2.2),(.cells [(zW t0 Zp mA)])])
theorem ZdA {t0:Bool}{b:Int}{mA:List Zf}{s3:Int×Int×(List Int)}:∀(s4:Int) (r:Int),lp (Zag b (fun z0 z1=>ZC z0 z1 mA) s3) s4=some r->lpW ctx 2 [0,1,4,11,12] [0,1,4,11,12] Zw2 [(.sl 0 1),(zN b),(.fn 97 [(.ptr 1 0)]),(zN s4),(zN s3.2.1)] [(zA s3.2.2),(.cells [(zW t0 Zp mA)])]=some ((ZbC t0 b mA s3) r):=
 lpT (ZbC t0 b mA s3) fun s4 _ ih=>yB (yG fun x5 hx5=>
  Ze (Zk rfl hx5) (yG fun x6 hx6=>
  Ze (Zk rfl hx6) (yC ZL fun x7 _=>
  yB (Zi rfl)
  (Zd (ih _)))))
  (Zi rfl)
def ZbD (t0:Bool) (b:Int) (mA:List Zf) (s3:Int×Int×(List Int)) (r8:Int):Int->Ex×List V×Zl
  | r=>(.exit 4,[(.sl 0 1),(zN b),(.fn 97 [(.ptr 1 0)]),(zN r8),(zN r)],[(zA s3.2.2),(.cells [(zW t0 Zp mA)])])
theorem Zdz {t0:Bool}{b:Int}{mA:List Zf}{s3:Int×Int×(List Int)}{r8:Int}:∀(s9:Int) (r:Int),lp (Zah b (fun z0 z1=>ZC z0 z1 mA) s3 r8) s9=some r->lpW ctx 2 [0,1,4,11,12] [0,1,4,11,12] Zwn [(.sl 0 1),(zN b),(.fn 97 [(.ptr 1 0)]),(zN r8),(zN s9)] [(zA s3.2.2),(.cells [(zW t0 Zp mA)])]=some ((ZbD t0 b mA s3 r8) r):=
 lpT (ZbD t0 b mA s3 r8) fun s9 _ ih=>yB (yG fun x10 hx10=>
  Ze (Zk rfl hx10) (yG fun x11 hx11=>
  Ze (Zk rfl hx11) (yC ZL fun x12 _=>
  yB (Zd (ih _))
  (Zi rfl))))
  (Zi rfl)
def ZbA (t0:Bool) (b:Int) (mA:List Zf):(Int×(List Int))->Ex×List V×Zl
  | r=>(.exit 0,[(zN r.1)],[(zA r.2),(.cells [(zW t0 Zp mA)])])
theorem Zdu {t0:Bool}{b:Int}{mA:List Zf}:∀(s3:Int×Int×(List Int)) (r:(Int×(List Int))),lp (ZaA b (fun z0 z1=>ZC z0 z1 mA)) s3=some r->lpW ctx 2 [0,1,4,11,12] [11] Zwz [(.sl 0 1),(zN b),(.fn 97 [(.ptr 1 0)]),(zN s3.1),(zN s3.2.1)] [(zA s3.2.2),(.cells [(zW t0 Zp mA)])]=some ((ZbA t0 b mA) r):=
 lpT (ZbA t0 b mA) fun s3 _ ih=>Zc _ (ZdA _) fun r8 _=>
  Zc _ (Zdz _) fun r13 _=>
  yB (Zi rfl)
  (yG fun x14 hx14=>
  Ze (Zk rfl hx14) (yG fun x15 hx15=>
  Ze (Zk rfl hx15) (Ze (Z4 rfl hx15) (Ze (Zk rfl hx15) (Zh (ZI Zm s3.2.2 r8.toNat x14) (yG fun x16 hx16=>
  Ze (Zk rfl hx16) (Zh (ZI Zm (List.set s3.2.2 r8.toNat x14) r13.toNat x15) (Zd (ih _)))))))))
theorem ZD {t0:Bool}{b c d:Int}{mG:List Int}{mA:List Zf}:∀r,(ZE b c d (fun z0 z1=>ZC z0 z1 mA) mG)=some r->evW ctx 151 [(.sl 0 1),(zN b),(zN c),(zN d),(.fn 97 [(.ptr 1 0)])] [(zA mG),(.cells [(zW t0 Zp mA)])]=some ((Zef t0 b c d mG mA) r):=
 evS ZAo rfl rfl <| yG fun x0 hx0=>
  Ze (Zk rfl hx0) (yG fun x1 hx1=>
  Ze (Zk rfl hx1) (Ze (Z4 rfl hx1) (Ze (Zk rfl hx1) (Zh (ZI Zm mG b.toNat x0) (yG fun x2 hx2=>
  Ze (Zk rfl hx2) (Zh (ZI Zm (List.set mG b.toNat x0) d.toNat x1) (Zc _ (Zdu _) fun r17 _=>
  yR)))))))
def ZeA (t0:Bool) (b:Int) (c:Int) (mG:List Int) (mA:List Zf):(List Int)->V×Zl
  | r=>((.d (D.tup [])),[(zA r),(.cells [(zW t0 Zp mA)])])
def ZbI (t0:Bool) (b:Int) (c:Int) (mA:List Zf) (x0:Int):(List Int)->Ex×List V×Zl
  | r=>(.exit 0,[],[(zA r),(.cells [(zW t0 Zp mA)])])
theorem ZdD {t0:Bool}{b c:Int}{mA:List Zf}{x0:Int}:∀(s1:Int×(List Int)×Int) (r:List Int),lp (ZaI b c x0) s1=some r->lpW ctx 2 [0,1,8,9,10,11] [] ZvJ [(.sl 0 1),(zN b),(zN (w64 (c-b))),(.ptr 2 0),(.d (D.int .u64 x0)),(zN s1.1)] [(zA s1.2.1),(.cells [(zW t0 Zp mA)]),(.cells [(.d (D.int .u64 s1.2.2))])]=some ((ZbI t0 b c mA x0) r):=
 lpT (ZbI t0 b c mA x0) fun s1 _ ih=>yF (yB (Zc _ Zhg fun x2 _=>
  yB (yG fun x3 hx3=>
  Ze (Zk rfl hx3) (yG fun x4 hx4=>
  Ze (Zk rfl hx4) (Ze (Z4 rfl hx4) (Ze (Zk rfl hx4) (Zh (ZI Zm s1.2.1 s1.1.toNat x3) (yG fun x5 hx5=>
  Ze (Zk rfl hx5) (Zh (ZI Zm (List.set s1.2.1 s1.1.toNat x3) (w64 (b+(w64 ((w64 (u64.wrap (Zr (u64.wrap (Zr (u64.wrap (Zr (u64.wrap (Zr s1.2.2 ^^^ Zr (u64.wrap (s1.2.2*2 ^ 13))).toNat) ^^^ Zr (Int.fdiv (u64.wrap (Zr s1.2.2 ^^^ Zr (u64.wrap (s1.2.2*2 ^ 13))).toNat) (2 ^ 7))).toNat) ^^^ Zr (u64.wrap ((u64.wrap (Zr (u64.wrap (Zr s1.2.2 ^^^ Zr (u64.wrap (s1.2.2*2 ^ 13))).toNat) ^^^ Zr (Int.fdiv (u64.wrap (Zr s1.2.2 ^^^ Zr (u64.wrap (s1.2.2*2 ^ 13))).toNat) (2 ^ 7))).toNat)*2 ^ 17))).toNat) &&& Zr (u64.wrap (x0-1))).toNat))-(w64 (c-b)))))).toNat x4) (Zd (ih _)))))))))
  (yG fun x6 hx6=>
  Ze (Zk rfl hx6) (yG fun x7 hx7=>
  Ze (Zk rfl hx7) (Ze (Z4 rfl hx7) (Ze (Zk rfl hx7) (Zh (ZI Zm s1.2.1 s1.1.toNat x6) (yG fun x8 hx8=>
  Ze (Zk rfl hx8) (Zh (ZI Zm (List.set s1.2.1 s1.1.toNat x6) (w64 (b+(w64 (u64.wrap (Zr (u64.wrap (Zr (u64.wrap (Zr (u64.wrap (Zr s1.2.2 ^^^ Zr (u64.wrap (s1.2.2*2 ^ 13))).toNat) ^^^ Zr (Int.fdiv (u64.wrap (Zr s1.2.2 ^^^ Zr (u64.wrap (s1.2.2*2 ^ 13))).toNat) (2 ^ 7))).toNat) ^^^ Zr (u64.wrap ((u64.wrap (Zr (u64.wrap (Zr s1.2.2 ^^^ Zr (u64.wrap (s1.2.2*2 ^ 13))).toNat) ^^^ Zr (Int.fdiv (u64.wrap (Zr s1.2.2 ^^^ Zr (u64.wrap (s1.2.2*2 ^ 13))).toNat) (2 ^ 7))).toNat)*2 ^ 17))).toNat) &&& Zr (u64.wrap (x0-1))).toNat)))).toNat x7) (Zd (ih _))))))))))
  (Zi rfl))
theorem ZbR {t0:Bool}{b c:Int}{mG:List Int}{mA:List Zf}:∀r,(Zae b c (fun z0 z1=>ZC z0 z1 mA) mG)=some r->evW ctx 147 [(.sl 0 1),(zN b),(zN c),(.fn 97 [(.ptr 1 0)])] [(zA mG),(.cells [(zW t0 Zp mA)])]=some ((ZeA t0 b c mG mA) r):=
 evS ZAe rfl rfl <| yB (yC ZgM fun x0 _=>
  yF (Zc _ (ZdD _) fun r9 _=>
  yR))
  yR
def Zb (t0:Bool) (b:Int) (c:Int) (d:Int) (mG:List Int) (mA:List Zf):(List Int)->V×Zl
  | r=>((.d (D.tup [])),[(zA r),(.cells [(zW t0 Zp mA)])])
def Zct (t0:Bool) (mA:List Zf) (rc:Int->Int->Int->(Int->Int->Option Int)->(List Int)->Option (List Int)):(List Int)->Ex×List V×Zl
  | r=>(.ret,[],[(zA r),(.cells [(zW t0 Zp mA)])])
theorem Zfl {t0:Bool}{mA:List Zf}{rc:Int->Int->Int->(Int->Int->Option Int)->(List Int)->Option (List Int)} (hrc:∀(t0:Bool) (b:Int) (c:Int) (d:Int) (mG:List Int) (mA:List Zf) (r:List Int),rc b c d (fun z0 z1=>ZC z0 z1 mA) mG=some r->evW ctx 122 [(.sl 0 1),(zN b),(zN c),(zN d),(.fn 97 [(.ptr 1 0)])] [(zA mG),(.cells [(zW t0 Zp mA)])]=some ((Zb t0 b c d mG mA) r)):∀(s0:Int×Int×Int×Bool×Bool×(List Int)) (r:List Int),lp (ZB (fun z0 z1=>ZC z0 z1 mA) rc) s0=some r->lpW ctx 2 [0,1,2,3,4,10,11] [] ZwL [(.sl 0 1),(zN s0.1),(zN s0.2.1),(zN s0.2.2.1),(.fn 97 [(.ptr 1 0)]),(.d (D.bool s0.2.2.2.1)),(.d (D.bool s0.2.2.2.2.1))] [(zA s0.2.2.2.2.2),(.cells [(zW t0 Zp mA)])]=some ((Zct t0 mA rc) r):=
 lpT (Zct t0 mA rc) fun s0 _ ih=>(by
 try unfold ZB
 rcases hb:s0.2.2.2.1 with _ | _
 exact ZqV (by
 try unfold ZB
 rcases hb:s0.2.2.2.2.1 with _ | _
 exact ZqV (yB (Zc _ Zal fun x170 _=>
  Zi rfl)
  (yB (Zc _ Zax fun x171 _=>
  Zi rfl)
  (Zc _ ZbR fun x172 _=>
  Zc _ Zap fun x173 _=>
  yB (Zc _ Zao fun x174 _=>
  yB (yG fun x175 hx175=>
  Ze (Zk rfl hx175) (yG fun x176 hx176=>
  Ze (Zk rfl hx176) (yC ZL fun x177 _=>
  yB ((by
 conv=>rhs;whnf
 refine Zc _ Zo fun x178 _=>?_
 rcases x178 with x178 | x178
 exact yT (yF (yB (yB (Zc (Zb t0 s0.1 x178.1 (w64 (s0.2.2.1-1)) x178.2 mA) (hrc t0 s0.1 x178.1 (w64 (s0.2.2.1-1)) x178.2 mA) fun x179 _=>
  Zd (ih _))
  (Zc (Zb t0 s0.1 x178.1 (w64 (s0.2.2.1-1)) x178.2 mA) (hrc t0 s0.1 x178.1 (w64 (s0.2.2.1-1)) x178.2 mA) fun x180 _=>
  Zd (ih _)))
  (yB (Zc (Zb t0 (w64 (x178.1+1)) s0.2.1 (w64 (s0.2.2.1-1)) x178.2 mA) (hrc t0 (w64 (x178.1+1)) s0.2.1 (w64 (s0.2.2.1-1)) x178.2 mA) fun x181 _=>
  Zd (ih _))
  (Zc (Zb t0 (w64 (x178.1+1)) s0.2.1 (w64 (s0.2.2.1-1)) x178.2 mA) (hrc t0 (w64 (x178.1+1)) s0.2.1 (w64 (s0.2.2.1-1)) x178.2 mA) fun x182 _=>
  Zd (ih _)))))
 exact yF (yF (yB (yB (Zc (Zb t0 s0.1 x178.1 (w64 (s0.2.2.1-1)) x178.2 mA) (hrc t0 s0.1 x178.1 (w64 (s0.2.2.1-1)) x178.2 mA) fun x183 _=>
  Zd (ih _))
  (Zc (Zb t0 s0.1 x178.1 (w64 (s0.2.2.1-1)) x178.2 mA) (hrc t0 s0.1 x178.1 (w64 (s0.2.2.1-1)) x178.2 mA) fun x184 _=>
  Zd (ih _)))
  (yB (Zc (Zb t0 (w64 (x178.1+1)) s0.2.1 (w64 (s0.2.2.1-1)) x178.2 mA) (hrc t0 (w64 (x178.1+1)) s0.2.1 (w64 (s0.2.2.1-1)) x178.2 mA) fun x185 _=>
  Zd (ih _))
  (Zc (Zb t0 (w64 (x178.1+1)) s0.2.1 (w64 (s0.2.2.1-1)) x178.2 mA) (hrc t0 (w64 (x178.1+1)) s0.2.1 (w64 (s0.2.2.1-1)) x178.2 mA) fun x186 _=>
  Zd (ih _)))))))
  (Zc _ ZD fun x187 _=>
  Zd (ih _)))))
  (by
 conv=>rhs;whnf
 refine Zc _ Zo fun x188 _=>?_
 rcases x188 with x188 | x188
 exact yT (yF (yB (yB (Zc (Zb t0 s0.1 x188.1 (w64 (s0.2.2.1-1)) x188.2 mA) (hrc t0 s0.1 x188.1 (w64 (s0.2.2.1-1)) x188.2 mA) fun x189 _=>
  Zd (ih _))
  (Zc (Zb t0 s0.1 x188.1 (w64 (s0.2.2.1-1)) x188.2 mA) (hrc t0 s0.1 x188.1 (w64 (s0.2.2.1-1)) x188.2 mA) fun x190 _=>
  Zd (ih _)))
  (yB (Zc (Zb t0 (w64 (x188.1+1)) s0.2.1 (w64 (s0.2.2.1-1)) x188.2 mA) (hrc t0 (w64 (x188.1+1)) s0.2.1 (w64 (s0.2.2.1-1)) x188.2 mA) fun x191 _=>
  Zd (ih _))
  (Zc (Zb t0 (w64 (x188.1+1)) s0.2.1 (w64 (s0.2.2.1-1)) x188.2 mA) (hrc t0 (w64 (x188.1+1)) s0.2.1 (w64 (s0.2.2.1-1)) x188.2 mA) fun x192 _=>
  Zd (ih _)))))
 exact yF (yF (yB (yB (Zc (Zb t0 s0.1 x188.1 (w64 (s0.2.2.1-1)) x188.2 mA) (hrc t0 s0.1 x188.1 (w64 (s0.2.2.1-1)) x188.2 mA) fun x193 _=>
  Zd (ih _))
  (Zc (Zb t0 s0.1 x188.1 (w64 (s0.2.2.1-1)) x188.2 mA) (hrc t0 s0.1 x188.1 (w64 (s0.2.2.1-1)) x188.2 mA) fun x194 _=>
  Zd (ih _)))
  (yB (Zc (Zb t0 (w64 (x188.1+1)) s0.2.1 (w64 (s0.2.2.1-1)) x188.2 mA) (hrc t0 (w64 (x188.1+1)) s0.2.1 (w64 (s0.2.2.1-1)) x188.2 mA) fun x195 _=>
  Zd (ih _))
  (Zc (Zb t0 (w64 (x188.1+1)) s0.2.1 (w64 (s0.2.2.1-1)) x188.2 mA) (hrc t0 (w64 (x188.1+1)) s0.2.1 (w64 (s0.2.2.1-1)) x188.2 mA) fun x196 _=>
  Zd (ih _)))))))
  (yB (yG fun x197 hx197=>
  Ze (Zk rfl hx197) (yG fun x198 hx198=>
  Ze (Zk rfl hx198) (yC ZL fun x199 _=>
  yB ((by
 conv=>rhs;whnf
 refine Zc _ Zo fun x200 _=>?_
 rcases x200 with x200 | x200
 exact yT (yF (yB (yB (Zc (Zb t0 s0.1 x200.1 (w64 (s0.2.2.1-1)) x200.2 mA) (hrc t0 s0.1 x200.1 (w64 (s0.2.2.1-1)) x200.2 mA) fun x201 _=>
  Zd (ih _))
  (Zc (Zb t0 s0.1 x200.1 (w64 (s0.2.2.1-1)) x200.2 mA) (hrc t0 s0.1 x200.1 (w64 (s0.2.2.1-1)) x200.2 mA) fun x202 _=>
  Zd (ih _)))
  (yB (Zc (Zb t0 (w64 (x200.1+1)) s0.2.1 (w64 (s0.2.2.1-1)) x200.2 mA) (hrc t0 (w64 (x200.1+1)) s0.2.1 (w64 (s0.2.2.1-1)) x200.2 mA) fun x203 _=>
  Zd (ih _))
  (Zc (Zb t0 (w64 (x200.1+1)) s0.2.1 (w64 (s0.2.2.1-1)) x200.2 mA) (hrc t0 (w64 (x200.1+1)) s0.2.1 (w64 (s0.2.2.1-1)) x200.2 mA) fun x204 _=>
  Zd (ih _)))))
 exact yF (yF (yB (yB (Zc (Zb t0 s0.1 x200.1 (w64 (s0.2.2.1-1)) x200.2 mA) (hrc t0 s0.1 x200.1 (w64 (s0.2.2.1-1)) x200.2 mA) fun x205 _=>
  Zd (ih _))
  (Zc (Zb t0 s0.1 x200.1 (w64 (s0.2.2.1-1)) x200.2 mA) (hrc t0 s0.1 x200.1 (w64 (s0.2.2.1-1)) x200.2 mA) fun x206 _=>
  Zd (ih _)))
  (yB (Zc (Zb t0 (w64 (x200.1+1)) s0.2.1 (w64 (s0.2.2.1-1)) x200.2 mA) (hrc t0 (w64 (x200.1+1)) s0.2.1 (w64 (s0.2.2.1-1)) x200.2 mA) fun x207 _=>
  Zd (ih _))
  (Zc (Zb t0 (w64 (x200.1+1)) s0.2.1 (w64 (s0.2.2.1-1)) x200.2 mA) (hrc t0 (w64 (x200.1+1)) s0.2.1 (w64 (s0.2.2.1-1)) x200.2 mA) fun x208 _=>
  Zd (ih _)))))))
  (Zc _ ZD fun x209 _=>
  Zd (ih _)))))
  (by
 conv=>rhs;whnf
 refine Zc _ Zo fun x210 _=>?_
 rcases x210 with x210 | x210
 exact yT (yF (yB (yB (Zc (Zb t0 s0.1 x210.1 (w64 (s0.2.2.1-1)) x210.2 mA) (hrc t0 s0.1 x210.1 (w64 (s0.2.2.1-1)) x210.2 mA) fun x211 _=>
  Zd (ih _))
  (Zc (Zb t0 s0.1 x210.1 (w64 (s0.2.2.1-1)) x210.2 mA) (hrc t0 s0.1 x210.1 (w64 (s0.2.2.1-1)) x210.2 mA) fun x212 _=>
  Zd (ih _)))
  (yB (Zc (Zb t0 (w64 (x210.1+1)) s0.2.1 (w64 (s0.2.2.1-1)) x210.2 mA) (hrc t0 (w64 (x210.1+1)) s0.2.1 (w64 (s0.2.2.1-1)) x210.2 mA) fun x213 _=>
  Zd (ih _))
  (Zc (Zb t0 (w64 (x210.1+1)) s0.2.1 (w64 (s0.2.2.1-1)) x210.2 mA) (hrc t0 (w64 (x210.1+1)) s0.2.1 (w64 (s0.2.2.1-1)) x210.2 mA) fun x214 _=>
  Zd (ih _)))))
 exact yF (yF (yB (yB (Zc (Zb t0 s0.1 x210.1 (w64 (s0.2.2.1-1)) x210.2 mA) (hrc t0 s0.1 x210.1 (w64 (s0.2.2.1-1)) x210.2 mA) fun x215 _=>
  Zd (ih _))
  (Zc (Zb t0 s0.1 x210.1 (w64 (s0.2.2.1-1)) x210.2 mA) (hrc t0 s0.1 x210.1 (w64 (s0.2.2.1-1)) x210.2 mA) fun x216 _=>
  Zd (ih _)))
  (yB (Zc (Zb t0 (w64 (x210.1+1)) s0.2.1 (w64 (s0.2.2.1-1)) x210.2 mA) (hrc t0 (w64 (x210.1+1)) s0.2.1 (w64 (s0.2.2.1-1)) x210.2 mA) fun x217 _=>
  Zd (ih _))
  (Zc (Zb t0 (w64 (x210.1+1)) s0.2.1 (w64 (s0.2.2.1-1)) x210.2 mA) (hrc t0 (w64 (x210.1+1)) s0.2.1 (w64 (s0.2.2.1-1)) x210.2 mA) fun x218 _=>
  Zd (ih _))))))))))
 exact Zqg (yB (Zc _ Zal fun x121 _=>
  Zi rfl)
  (yB (Zc _ Zax fun x122 _=>
  Zi rfl)
  (Zc _ ZbR fun x123 _=>
  Zc _ Zap fun x124 _=>
  yB (Zc _ Zao fun x125 _=>
  yB (yG fun x126 hx126=>
  Ze (Zk rfl hx126) (yG fun x127 hx127=>
  Ze (Zk rfl hx127) (yC ZL fun x128 _=>
  yB ((by
 conv=>rhs;whnf
 refine Zc _ Zo fun x129 _=>?_
 rcases x129 with x129 | x129
 exact yT (yF (yB (yB (Zc (Zb t0 s0.1 x129.1 (w64 (s0.2.2.1-1)) x129.2 mA) (hrc t0 s0.1 x129.1 (w64 (s0.2.2.1-1)) x129.2 mA) fun x130 _=>
  Zd (ih _))
  (Zc (Zb t0 s0.1 x129.1 (w64 (s0.2.2.1-1)) x129.2 mA) (hrc t0 s0.1 x129.1 (w64 (s0.2.2.1-1)) x129.2 mA) fun x131 _=>
  Zd (ih _)))
  (yB (Zc (Zb t0 (w64 (x129.1+1)) s0.2.1 (w64 (s0.2.2.1-1)) x129.2 mA) (hrc t0 (w64 (x129.1+1)) s0.2.1 (w64 (s0.2.2.1-1)) x129.2 mA) fun x132 _=>
  Zd (ih _))
  (Zc (Zb t0 (w64 (x129.1+1)) s0.2.1 (w64 (s0.2.2.1-1)) x129.2 mA) (hrc t0 (w64 (x129.1+1)) s0.2.1 (w64 (s0.2.2.1-1)) x129.2 mA) fun x133 _=>
  Zd (ih _)))))
 exact yF (yF (yB (yB (Zc (Zb t0 s0.1 x129.1 (w64 (s0.2.2.1-1)) x129.2 mA) (hrc t0 s0.1 x129.1 (w64 (s0.2.2.1-1)) x129.2 mA) fun x134 _=>
  Zd (ih _))
  (Zc (Zb t0 s0.1 x129.1 (w64 (s0.2.2.1-1)) x129.2 mA) (hrc t0 s0.1 x129.1 (w64 (s0.2.2.1-1)) x129.2 mA) fun x135 _=>
  Zd (ih _)))
  (yB (Zc (Zb t0 (w64 (x129.1+1)) s0.2.1 (w64 (s0.2.2.1-1)) x129.2 mA) (hrc t0 (w64 (x129.1+1)) s0.2.1 (w64 (s0.2.2.1-1)) x129.2 mA) fun x136 _=>
  Zd (ih _))
  (Zc (Zb t0 (w64 (x129.1+1)) s0.2.1 (w64 (s0.2.2.1-1)) x129.2 mA) (hrc t0 (w64 (x129.1+1)) s0.2.1 (w64 (s0.2.2.1-1)) x129.2 mA) fun x137 _=>
  Zd (ih _)))))))
  (Zc _ ZD fun x138 _=>
  Zd (ih _)))))
  (by
 conv=>rhs;whnf
 refine Zc _ Zo fun x139 _=>?_
 rcases x139 with x139 | x139
 exact yT (yF (yB (yB (Zc (Zb t0 s0.1 x139.1 (w64 (s0.2.2.1-1)) x139.2 mA) (hrc t0 s0.1 x139.1 (w64 (s0.2.2.1-1)) x139.2 mA) fun x140 _=>
  Zd (ih _))
  (Zc (Zb t0 s0.1 x139.1 (w64 (s0.2.2.1-1)) x139.2 mA) (hrc t0 s0.1 x139.1 (w64 (s0.2.2.1-1)) x139.2 mA) fun x141 _=>
  Zd (ih _)))
  (yB (Zc (Zb t0 (w64 (x139.1+1)) s0.2.1 (w64 (s0.2.2.1-1)) x139.2 mA) (hrc t0 (w64 (x139.1+1)) s0.2.1 (w64 (s0.2.2.1-1)) x139.2 mA) fun x142 _=>
  Zd (ih _))
  (Zc (Zb t0 (w64 (x139.1+1)) s0.2.1 (w64 (s0.2.2.1-1)) x139.2 mA) (hrc t0 (w64 (x139.1+1)) s0.2.1 (w64 (s0.2.2.1-1)) x139.2 mA) fun x143 _=>
  Zd (ih _)))))
 exact yF (yF (yB (yB (Zc (Zb t0 s0.1 x139.1 (w64 (s0.2.2.1-1)) x139.2 mA) (hrc t0 s0.1 x139.1 (w64 (s0.2.2.1-1)) x139.2 mA) fun x144 _=>
  Zd (ih _))
  (Zc (Zb t0 s0.1 x139.1 (w64 (s0.2.2.1-1)) x139.2 mA) (hrc t0 s0.1 x139.1 (w64 (s0.2.2.1-1)) x139.2 mA) fun x145 _=>
  Zd (ih _)))
  (yB (Zc (Zb t0 (w64 (x139.1+1)) s0.2.1 (w64 (s0.2.2.1-1)) x139.2 mA) (hrc t0 (w64 (x139.1+1)) s0.2.1 (w64 (s0.2.2.1-1)) x139.2 mA) fun x146 _=>
  Zd (ih _))
  (Zc (Zb t0 (w64 (x139.1+1)) s0.2.1 (w64 (s0.2.2.1-1)) x139.2 mA) (hrc t0 (w64 (x139.1+1)) s0.2.1 (w64 (s0.2.2.1-1)) x139.2 mA) fun x147 _=>
  Zd (ih _)))))))
  (yB (yG fun x148 hx148=>
  Ze (Zk rfl hx148) (yG fun x149 hx149=>
  Ze (Zk rfl hx149) (yC ZL fun x150 _=>
  yB ((by
 conv=>rhs;whnf
 refine Zc _ Zo fun x151 _=>?_
 rcases x151 with x151 | x151
 exact yT (yF (yB (yB (Zc (Zb t0 s0.1 x151.1 (w64 (s0.2.2.1-1)) x151.2 mA) (hrc t0 s0.1 x151.1 (w64 (s0.2.2.1-1)) x151.2 mA) fun x152 _=>
  Zd (ih _))
  (Zc (Zb t0 s0.1 x151.1 (w64 (s0.2.2.1-1)) x151.2 mA) (hrc t0 s0.1 x151.1 (w64 (s0.2.2.1-1)) x151.2 mA) fun x153 _=>
  Zd (ih _)))
  (yB (Zc (Zb t0 (w64 (x151.1+1)) s0.2.1 (w64 (s0.2.2.1-1)) x151.2 mA) (hrc t0 (w64 (x151.1+1)) s0.2.1 (w64 (s0.2.2.1-1)) x151.2 mA) fun x154 _=>
  Zd (ih _))
  (Zc (Zb t0 (w64 (x151.1+1)) s0.2.1 (w64 (s0.2.2.1-1)) x151.2 mA) (hrc t0 (w64 (x151.1+1)) s0.2.1 (w64 (s0.2.2.1-1)) x151.2 mA) fun x155 _=>
  Zd (ih _)))))
 exact yF (yF (yB (yB (Zc (Zb t0 s0.1 x151.1 (w64 (s0.2.2.1-1)) x151.2 mA) (hrc t0 s0.1 x151.1 (w64 (s0.2.2.1-1)) x151.2 mA) fun x156 _=>
  Zd (ih _))
  (Zc (Zb t0 s0.1 x151.1 (w64 (s0.2.2.1-1)) x151.2 mA) (hrc t0 s0.1 x151.1 (w64 (s0.2.2.1-1)) x151.2 mA) fun x157 _=>
  Zd (ih _)))
  (yB (Zc (Zb t0 (w64 (x151.1+1)) s0.2.1 (w64 (s0.2.2.1-1)) x151.2 mA) (hrc t0 (w64 (x151.1+1)) s0.2.1 (w64 (s0.2.2.1-1)) x151.2 mA) fun x158 _=>
  Zd (ih _))
  (Zc (Zb t0 (w64 (x151.1+1)) s0.2.1 (w64 (s0.2.2.1-1)) x151.2 mA) (hrc t0 (w64 (x151.1+1)) s0.2.1 (w64 (s0.2.2.1-1)) x151.2 mA) fun x159 _=>
  Zd (ih _)))))))
  (Zc _ ZD fun x160 _=>
  Zd (ih _)))))
  (by
 conv=>rhs;whnf
 refine Zc _ Zo fun x161 _=>?_
 rcases x161 with x161 | x161
 exact yT (yF (yB (yB (Zc (Zb t0 s0.1 x161.1 (w64 (s0.2.2.1-1)) x161.2 mA) (hrc t0 s0.1 x161.1 (w64 (s0.2.2.1-1)) x161.2 mA) fun x162 _=>
  Zd (ih _))
  (Zc (Zb t0 s0.1 x161.1 (w64 (s0.2.2.1-1)) x161.2 mA) (hrc t0 s0.1 x161.1 (w64 (s0.2.2.1-1)) x161.2 mA) fun x163 _=>
  Zd (ih _)))
  (yB (Zc (Zb t0 (w64 (x161.1+1)) s0.2.1 (w64 (s0.2.2.1-1)) x161.2 mA) (hrc t0 (w64 (x161.1+1)) s0.2.1 (w64 (s0.2.2.1-1)) x161.2 mA) fun x164 _=>
  Zd (ih _))
  (Zc (Zb t0 (w64 (x161.1+1)) s0.2.1 (w64 (s0.2.2.1-1)) x161.2 mA) (hrc t0 (w64 (x161.1+1)) s0.2.1 (w64 (s0.2.2.1-1)) x161.2 mA) fun x165 _=>
  Zd (ih _)))))
 exact yF (yF (yB (yB (Zc (Zb t0 s0.1 x161.1 (w64 (s0.2.2.1-1)) x161.2 mA) (hrc t0 s0.1 x161.1 (w64 (s0.2.2.1-1)) x161.2 mA) fun x166 _=>
  Zd (ih _))
  (Zc (Zb t0 s0.1 x161.1 (w64 (s0.2.2.1-1)) x161.2 mA) (hrc t0 s0.1 x161.1 (w64 (s0.2.2.1-1)) x161.2 mA) fun x167 _=>
  Zd (ih _)))
  (yB (Zc (Zb t0 (w64 (x161.1+1)) s0.2.1 (w64 (s0.2.2.1-1)) x161.2 mA) (hrc t0 (w64 (x161.1+1)) s0.2.1 (w64 (s0.2.2.1-1)) x161.2 mA) fun x168 _=>
  Zd (ih _))
  (Zc (Zb t0 (w64 (x161.1+1)) s0.2.1 (w64 (s0.2.2.1-1)) x161.2 mA) (hrc t0 (w64 (x161.1+1)) s0.2.1 (w64 (s0.2.2.1-1)) x161.2 mA) fun x169 _=>
  Zd (ih _)))))))))))
 exact Zqg (by
 try unfold ZB
 rcases hb:s0.2.2.2.2.1 with _ | _
 exact ZqV (yB (Zc _ Zal fun x73 _=>
  Zi rfl)
  (yB (Zc _ Zax fun x74 _=>
  Zi rfl)
  (Zc _ Zap fun x75 _=>
  yB (Zc _ Zao fun x76 _=>
  yB (yG fun x77 hx77=>
  Ze (Zk rfl hx77) (yG fun x78 hx78=>
  Ze (Zk rfl hx78) (yC ZL fun x79 _=>
  yB ((by
 conv=>rhs;whnf
 refine Zc _ Zo fun x80 _=>?_
 rcases x80 with x80 | x80
 exact yT (yF (yB (yB (Zc (Zb t0 s0.1 x80.1 s0.2.2.1 x80.2 mA) (hrc t0 s0.1 x80.1 s0.2.2.1 x80.2 mA) fun x81 _=>
  Zd (ih _))
  (Zc (Zb t0 s0.1 x80.1 s0.2.2.1 x80.2 mA) (hrc t0 s0.1 x80.1 s0.2.2.1 x80.2 mA) fun x82 _=>
  Zd (ih _)))
  (yB (Zc (Zb t0 (w64 (x80.1+1)) s0.2.1 s0.2.2.1 x80.2 mA) (hrc t0 (w64 (x80.1+1)) s0.2.1 s0.2.2.1 x80.2 mA) fun x83 _=>
  Zd (ih _))
  (Zc (Zb t0 (w64 (x80.1+1)) s0.2.1 s0.2.2.1 x80.2 mA) (hrc t0 (w64 (x80.1+1)) s0.2.1 s0.2.2.1 x80.2 mA) fun x84 _=>
  Zd (ih _)))))
 exact yF (yF (yB (yB (Zc (Zb t0 s0.1 x80.1 s0.2.2.1 x80.2 mA) (hrc t0 s0.1 x80.1 s0.2.2.1 x80.2 mA) fun x85 _=>
  Zd (ih _))
  (Zc (Zb t0 s0.1 x80.1 s0.2.2.1 x80.2 mA) (hrc t0 s0.1 x80.1 s0.2.2.1 x80.2 mA) fun x86 _=>
  Zd (ih _)))
  (yB (Zc (Zb t0 (w64 (x80.1+1)) s0.2.1 s0.2.2.1 x80.2 mA) (hrc t0 (w64 (x80.1+1)) s0.2.1 s0.2.2.1 x80.2 mA) fun x87 _=>
  Zd (ih _))
  (Zc (Zb t0 (w64 (x80.1+1)) s0.2.1 s0.2.2.1 x80.2 mA) (hrc t0 (w64 (x80.1+1)) s0.2.1 s0.2.2.1 x80.2 mA) fun x88 _=>
  Zd (ih _)))))))
  (Zc _ ZD fun x89 _=>
  Zd (ih _)))))
  (by
 conv=>rhs;whnf
 refine Zc _ Zo fun x90 _=>?_
 rcases x90 with x90 | x90
 exact yT (yF (yB (yB (Zc (Zb t0 s0.1 x90.1 s0.2.2.1 x90.2 mA) (hrc t0 s0.1 x90.1 s0.2.2.1 x90.2 mA) fun x91 _=>
  Zd (ih _))
  (Zc (Zb t0 s0.1 x90.1 s0.2.2.1 x90.2 mA) (hrc t0 s0.1 x90.1 s0.2.2.1 x90.2 mA) fun x92 _=>
  Zd (ih _)))
  (yB (Zc (Zb t0 (w64 (x90.1+1)) s0.2.1 s0.2.2.1 x90.2 mA) (hrc t0 (w64 (x90.1+1)) s0.2.1 s0.2.2.1 x90.2 mA) fun x93 _=>
  Zd (ih _))
  (Zc (Zb t0 (w64 (x90.1+1)) s0.2.1 s0.2.2.1 x90.2 mA) (hrc t0 (w64 (x90.1+1)) s0.2.1 s0.2.2.1 x90.2 mA) fun x94 _=>
  Zd (ih _)))))
 exact yF (yF (yB (yB (Zc (Zb t0 s0.1 x90.1 s0.2.2.1 x90.2 mA) (hrc t0 s0.1 x90.1 s0.2.2.1 x90.2 mA) fun x95 _=>
  Zd (ih _))
  (Zc (Zb t0 s0.1 x90.1 s0.2.2.1 x90.2 mA) (hrc t0 s0.1 x90.1 s0.2.2.1 x90.2 mA) fun x96 _=>
  Zd (ih _)))
  (yB (Zc (Zb t0 (w64 (x90.1+1)) s0.2.1 s0.2.2.1 x90.2 mA) (hrc t0 (w64 (x90.1+1)) s0.2.1 s0.2.2.1 x90.2 mA) fun x97 _=>
  Zd (ih _))
  (Zc (Zb t0 (w64 (x90.1+1)) s0.2.1 s0.2.2.1 x90.2 mA) (hrc t0 (w64 (x90.1+1)) s0.2.1 s0.2.2.1 x90.2 mA) fun x98 _=>
  Zd (ih _)))))))
  (yB (yG fun x99 hx99=>
  Ze (Zk rfl hx99) (yG fun x100 hx100=>
  Ze (Zk rfl hx100) (yC ZL fun x101 _=>
  yB ((by
 conv=>rhs;whnf
 refine Zc _ Zo fun x102 _=>?_
 rcases x102 with x102 | x102
 exact yT (yF (yB (yB (Zc (Zb t0 s0.1 x102.1 s0.2.2.1 x102.2 mA) (hrc t0 s0.1 x102.1 s0.2.2.1 x102.2 mA) fun x103 _=>
  Zd (ih _))
  (Zc (Zb t0 s0.1 x102.1 s0.2.2.1 x102.2 mA) (hrc t0 s0.1 x102.1 s0.2.2.1 x102.2 mA) fun x104 _=>
  Zd (ih _)))
  (yB (Zc (Zb t0 (w64 (x102.1+1)) s0.2.1 s0.2.2.1 x102.2 mA) (hrc t0 (w64 (x102.1+1)) s0.2.1 s0.2.2.1 x102.2 mA) fun x105 _=>
  Zd (ih _))
  (Zc (Zb t0 (w64 (x102.1+1)) s0.2.1 s0.2.2.1 x102.2 mA) (hrc t0 (w64 (x102.1+1)) s0.2.1 s0.2.2.1 x102.2 mA) fun x106 _=>
  Zd (ih _)))))
 exact yF (yF (yB (yB (Zc (Zb t0 s0.1 x102.1 s0.2.2.1 x102.2 mA) (hrc t0 s0.1 x102.1 s0.2.2.1 x102.2 mA) fun x107 _=>
  Zd (ih _))
  (Zc (Zb t0 s0.1 x102.1 s0.2.2.1 x102.2 mA) (hrc t0 s0.1 x102.1 s0.2.2.1 x102.2 mA) fun x108 _=>
  Zd (ih _)))
  (yB (Zc (Zb t0 (w64 (x102.1+1)) s0.2.1 s0.2.2.1 x102.2 mA) (hrc t0 (w64 (x102.1+1)) s0.2.1 s0.2.2.1 x102.2 mA) fun x109 _=>
  Zd (ih _))
  (Zc (Zb t0 (w64 (x102.1+1)) s0.2.1 s0.2.2.1 x102.2 mA) (hrc t0 (w64 (x102.1+1)) s0.2.1 s0.2.2.1 x102.2 mA) fun x110 _=>
  Zd (ih _)))))))
  (Zc _ ZD fun x111 _=>
  Zd (ih _)))))
  (by
 conv=>rhs;whnf
 refine Zc _ Zo fun x112 _=>?_
 rcases x112 with x112 | x112
 exact yT (yF (yB (yB (Zc (Zb t0 s0.1 x112.1 s0.2.2.1 x112.2 mA) (hrc t0 s0.1 x112.1 s0.2.2.1 x112.2 mA) fun x113 _=>
  Zd (ih _))
  (Zc (Zb t0 s0.1 x112.1 s0.2.2.1 x112.2 mA) (hrc t0 s0.1 x112.1 s0.2.2.1 x112.2 mA) fun x114 _=>
  Zd (ih _)))
  (yB (Zc (Zb t0 (w64 (x112.1+1)) s0.2.1 s0.2.2.1 x112.2 mA) (hrc t0 (w64 (x112.1+1)) s0.2.1 s0.2.2.1 x112.2 mA) fun x115 _=>
  Zd (ih _))
  (Zc (Zb t0 (w64 (x112.1+1)) s0.2.1 s0.2.2.1 x112.2 mA) (hrc t0 (w64 (x112.1+1)) s0.2.1 s0.2.2.1 x112.2 mA) fun x116 _=>
  Zd (ih _)))))
 exact yF (yF (yB (yB (Zc (Zb t0 s0.1 x112.1 s0.2.2.1 x112.2 mA) (hrc t0 s0.1 x112.1 s0.2.2.1 x112.2 mA) fun x117 _=>
  Zd (ih _))
  (Zc (Zb t0 s0.1 x112.1 s0.2.2.1 x112.2 mA) (hrc t0 s0.1 x112.1 s0.2.2.1 x112.2 mA) fun x118 _=>
  Zd (ih _)))
  (yB (Zc (Zb t0 (w64 (x112.1+1)) s0.2.1 s0.2.2.1 x112.2 mA) (hrc t0 (w64 (x112.1+1)) s0.2.1 s0.2.2.1 x112.2 mA) fun x119 _=>
  Zd (ih _))
  (Zc (Zb t0 (w64 (x112.1+1)) s0.2.1 s0.2.2.1 x112.2 mA) (hrc t0 (w64 (x112.1+1)) s0.2.1 s0.2.2.1 x112.2 mA) fun x120 _=>
  Zd (ih _))))))))))
 exact Zqg (yB (Zc _ Zal fun x1 _=>
  Zi rfl)
  (yB (Zc _ Zax fun x2 _=>
  Zi rfl)
  (Zc _ Zap fun x3 _=>
  yB (Zc _ Zao fun x4 _=>
  yT (by
 conv=>rhs;whnf
 refine Zc _ Zbm fun x5 _=>?_
 rcases x5 with x5 | x5
 exact Zi rfl
 exact yB (yG fun x6 hx6=>
  Ze (Zk rfl hx6) (yG fun x7 hx7=>
  Ze (Zk rfl hx7) (yC ZL fun x8 _=>
  yB ((by
 conv=>rhs;whnf
 refine Zc _ Zo fun x9 _=>?_
 rcases x9 with x9 | x9
 exact yT (yF (yB (yB (Zc (Zb t0 s0.1 x9.1 s0.2.2.1 x9.2 mA) (hrc t0 s0.1 x9.1 s0.2.2.1 x9.2 mA) fun x10 _=>
  Zd (ih _))
  (Zc (Zb t0 s0.1 x9.1 s0.2.2.1 x9.2 mA) (hrc t0 s0.1 x9.1 s0.2.2.1 x9.2 mA) fun x11 _=>
  Zd (ih _)))
  (yB (Zc (Zb t0 (w64 (x9.1+1)) s0.2.1 s0.2.2.1 x9.2 mA) (hrc t0 (w64 (x9.1+1)) s0.2.1 s0.2.2.1 x9.2 mA) fun x12 _=>
  Zd (ih _))
  (Zc (Zb t0 (w64 (x9.1+1)) s0.2.1 s0.2.2.1 x9.2 mA) (hrc t0 (w64 (x9.1+1)) s0.2.1 s0.2.2.1 x9.2 mA) fun x13 _=>
  Zd (ih _)))))
 exact yF (yF (yB (yB (Zc (Zb t0 s0.1 x9.1 s0.2.2.1 x9.2 mA) (hrc t0 s0.1 x9.1 s0.2.2.1 x9.2 mA) fun x14 _=>
  Zd (ih _))
  (Zc (Zb t0 s0.1 x9.1 s0.2.2.1 x9.2 mA) (hrc t0 s0.1 x9.1 s0.2.2.1 x9.2 mA) fun x15 _=>
  Zd (ih _)))
  (yB (Zc (Zb t0 (w64 (x9.1+1)) s0.2.1 s0.2.2.1 x9.2 mA) (hrc t0 (w64 (x9.1+1)) s0.2.1 s0.2.2.1 x9.2 mA) fun x16 _=>
  Zd (ih _))
  (Zc (Zb t0 (w64 (x9.1+1)) s0.2.1 s0.2.2.1 x9.2 mA) (hrc t0 (w64 (x9.1+1)) s0.2.1 s0.2.2.1 x9.2 mA) fun x17 _=>
  Zd (ih _)))))))
  (Zc _ ZD fun x18 _=>
  Zd (ih _)))))
  (by
 conv=>rhs;whnf
 refine Zc _ Zo fun x19 _=>?_
 rcases x19 with x19 | x19
 exact yT (yF (yB (yB (Zc (Zb t0 s0.1 x19.1 s0.2.2.1 x19.2 mA) (hrc t0 s0.1 x19.1 s0.2.2.1 x19.2 mA) fun x20 _=>
  Zd (ih _))
  (Zc (Zb t0 s0.1 x19.1 s0.2.2.1 x19.2 mA) (hrc t0 s0.1 x19.1 s0.2.2.1 x19.2 mA) fun x21 _=>
  Zd (ih _)))
  (yB (Zc (Zb t0 (w64 (x19.1+1)) s0.2.1 s0.2.2.1 x19.2 mA) (hrc t0 (w64 (x19.1+1)) s0.2.1 s0.2.2.1 x19.2 mA) fun x22 _=>
  Zd (ih _))
  (Zc (Zb t0 (w64 (x19.1+1)) s0.2.1 s0.2.2.1 x19.2 mA) (hrc t0 (w64 (x19.1+1)) s0.2.1 s0.2.2.1 x19.2 mA) fun x23 _=>
  Zd (ih _)))))
 exact yF (yF (yB (yB (Zc (Zb t0 s0.1 x19.1 s0.2.2.1 x19.2 mA) (hrc t0 s0.1 x19.1 s0.2.2.1 x19.2 mA) fun x24 _=>
  Zd (ih _))
  (Zc (Zb t0 s0.1 x19.1 s0.2.2.1 x19.2 mA) (hrc t0 s0.1 x19.1 s0.2.2.1 x19.2 mA) fun x25 _=>
  Zd (ih _)))
  (yB (Zc (Zb t0 (w64 (x19.1+1)) s0.2.1 s0.2.2.1 x19.2 mA) (hrc t0 (w64 (x19.1+1)) s0.2.1 s0.2.2.1 x19.2 mA) fun x26 _=>
  Zd (ih _))
  (Zc (Zb t0 (w64 (x19.1+1)) s0.2.1 s0.2.2.1 x19.2 mA) (hrc t0 (w64 (x19.1+1)) s0.2.1 s0.2.2.1 x19.2 mA) fun x27 _=>
  Zd (ih _))))))))
  (yB ((by
 conv=>rhs;whnf
 refine Zc _ Zbm fun x28 _=>?_
 rcases x28 with x28 | x28
 exact Zi rfl
 exact yB (yG fun x29 hx29=>
  Ze (Zk rfl hx29) (yG fun x30 hx30=>
  Ze (Zk rfl hx30) (yC ZL fun x31 _=>
  yB ((by
 conv=>rhs;whnf
 refine Zc _ Zo fun x32 _=>?_
 rcases x32 with x32 | x32
 exact yT (yF (yB (yB (Zc (Zb t0 s0.1 x32.1 s0.2.2.1 x32.2 mA) (hrc t0 s0.1 x32.1 s0.2.2.1 x32.2 mA) fun x33 _=>
  Zd (ih _))
  (Zc (Zb t0 s0.1 x32.1 s0.2.2.1 x32.2 mA) (hrc t0 s0.1 x32.1 s0.2.2.1 x32.2 mA) fun x34 _=>
  Zd (ih _)))
  (yB (Zc (Zb t0 (w64 (x32.1+1)) s0.2.1 s0.2.2.1 x32.2 mA) (hrc t0 (w64 (x32.1+1)) s0.2.1 s0.2.2.1 x32.2 mA) fun x35 _=>
  Zd (ih _))
  (Zc (Zb t0 (w64 (x32.1+1)) s0.2.1 s0.2.2.1 x32.2 mA) (hrc t0 (w64 (x32.1+1)) s0.2.1 s0.2.2.1 x32.2 mA) fun x36 _=>
  Zd (ih _)))))
 exact yF (yF (yB (yB (Zc (Zb t0 s0.1 x32.1 s0.2.2.1 x32.2 mA) (hrc t0 s0.1 x32.1 s0.2.2.1 x32.2 mA) fun x37 _=>
  Zd (ih _))
  (Zc (Zb t0 s0.1 x32.1 s0.2.2.1 x32.2 mA) (hrc t0 s0.1 x32.1 s0.2.2.1 x32.2 mA) fun x38 _=>
  Zd (ih _)))
  (yB (Zc (Zb t0 (w64 (x32.1+1)) s0.2.1 s0.2.2.1 x32.2 mA) (hrc t0 (w64 (x32.1+1)) s0.2.1 s0.2.2.1 x32.2 mA) fun x39 _=>
  Zd (ih _))
  (Zc (Zb t0 (w64 (x32.1+1)) s0.2.1 s0.2.2.1 x32.2 mA) (hrc t0 (w64 (x32.1+1)) s0.2.1 s0.2.2.1 x32.2 mA) fun x40 _=>
  Zd (ih _)))))))
  (Zc _ ZD fun x41 _=>
  Zd (ih _)))))
  (by
 conv=>rhs;whnf
 refine Zc _ Zo fun x42 _=>?_
 rcases x42 with x42 | x42
 exact yT (yF (yB (yB (Zc (Zb t0 s0.1 x42.1 s0.2.2.1 x42.2 mA) (hrc t0 s0.1 x42.1 s0.2.2.1 x42.2 mA) fun x43 _=>
  Zd (ih _))
  (Zc (Zb t0 s0.1 x42.1 s0.2.2.1 x42.2 mA) (hrc t0 s0.1 x42.1 s0.2.2.1 x42.2 mA) fun x44 _=>
  Zd (ih _)))
  (yB (Zc (Zb t0 (w64 (x42.1+1)) s0.2.1 s0.2.2.1 x42.2 mA) (hrc t0 (w64 (x42.1+1)) s0.2.1 s0.2.2.1 x42.2 mA) fun x45 _=>
  Zd (ih _))
  (Zc (Zb t0 (w64 (x42.1+1)) s0.2.1 s0.2.2.1 x42.2 mA) (hrc t0 (w64 (x42.1+1)) s0.2.1 s0.2.2.1 x42.2 mA) fun x46 _=>
  Zd (ih _)))))
 exact yF (yF (yB (yB (Zc (Zb t0 s0.1 x42.1 s0.2.2.1 x42.2 mA) (hrc t0 s0.1 x42.1 s0.2.2.1 x42.2 mA) fun x47 _=>
  Zd (ih _))
  (Zc (Zb t0 s0.1 x42.1 s0.2.2.1 x42.2 mA) (hrc t0 s0.1 x42.1 s0.2.2.1 x42.2 mA) fun x48 _=>
  Zd (ih _)))
  (yB (Zc (Zb t0 (w64 (x42.1+1)) s0.2.1 s0.2.2.1 x42.2 mA) (hrc t0 (w64 (x42.1+1)) s0.2.1 s0.2.2.1 x42.2 mA) fun x49 _=>
  Zd (ih _))
  (Zc (Zb t0 (w64 (x42.1+1)) s0.2.1 s0.2.2.1 x42.2 mA) (hrc t0 (w64 (x42.1+1)) s0.2.1 s0.2.2.1 x42.2 mA) fun x50 _=>
  Zd (ih _))))))))
  (yB (yG fun x51 hx51=>
  Ze (Zk rfl hx51) (yG fun x52 hx52=>
  Ze (Zk rfl hx52) (yC ZL fun x53 _=>
  yB ((by
 conv=>rhs;whnf
 refine Zc _ Zo fun x54 _=>?_
 rcases x54 with x54 | x54
 exact yT (yF (yB (yB (Zc (Zb t0 s0.1 x54.1 s0.2.2.1 x54.2 mA) (hrc t0 s0.1 x54.1 s0.2.2.1 x54.2 mA) fun x55 _=>
  Zd (ih _))
  (Zc (Zb t0 s0.1 x54.1 s0.2.2.1 x54.2 mA) (hrc t0 s0.1 x54.1 s0.2.2.1 x54.2 mA) fun x56 _=>
  Zd (ih _)))
  (yB (Zc (Zb t0 (w64 (x54.1+1)) s0.2.1 s0.2.2.1 x54.2 mA) (hrc t0 (w64 (x54.1+1)) s0.2.1 s0.2.2.1 x54.2 mA) fun x57 _=>
  Zd (ih _))
  (Zc (Zb t0 (w64 (x54.1+1)) s0.2.1 s0.2.2.1 x54.2 mA) (hrc t0 (w64 (x54.1+1)) s0.2.1 s0.2.2.1 x54.2 mA) fun x58 _=>
  Zd (ih _)))))
 exact yF (yF (yB (yB (Zc (Zb t0 s0.1 x54.1 s0.2.2.1 x54.2 mA) (hrc t0 s0.1 x54.1 s0.2.2.1 x54.2 mA) fun x59 _=>
  Zd (ih _))
  (Zc (Zb t0 s0.1 x54.1 s0.2.2.1 x54.2 mA) (hrc t0 s0.1 x54.1 s0.2.2.1 x54.2 mA) fun x60 _=>
  Zd (ih _)))
  (yB (Zc (Zb t0 (w64 (x54.1+1)) s0.2.1 s0.2.2.1 x54.2 mA) (hrc t0 (w64 (x54.1+1)) s0.2.1 s0.2.2.1 x54.2 mA) fun x61 _=>
  Zd (ih _))
  (Zc (Zb t0 (w64 (x54.1+1)) s0.2.1 s0.2.2.1 x54.2 mA) (hrc t0 (w64 (x54.1+1)) s0.2.1 s0.2.2.1 x54.2 mA) fun x62 _=>
  Zd (ih _)))))))
  (Zc _ ZD fun x63 _=>
  Zd (ih _)))))
  (by
 conv=>rhs;whnf
 refine Zc _ Zo fun x64 _=>?_
 rcases x64 with x64 | x64
 exact yT (yF (yB (yB (Zc (Zb t0 s0.1 x64.1 s0.2.2.1 x64.2 mA) (hrc t0 s0.1 x64.1 s0.2.2.1 x64.2 mA) fun x65 _=>
  Zd (ih _))
  (Zc (Zb t0 s0.1 x64.1 s0.2.2.1 x64.2 mA) (hrc t0 s0.1 x64.1 s0.2.2.1 x64.2 mA) fun x66 _=>
  Zd (ih _)))
  (yB (Zc (Zb t0 (w64 (x64.1+1)) s0.2.1 s0.2.2.1 x64.2 mA) (hrc t0 (w64 (x64.1+1)) s0.2.1 s0.2.2.1 x64.2 mA) fun x67 _=>
  Zd (ih _))
  (Zc (Zb t0 (w64 (x64.1+1)) s0.2.1 s0.2.2.1 x64.2 mA) (hrc t0 (w64 (x64.1+1)) s0.2.1 s0.2.2.1 x64.2 mA) fun x68 _=>
  Zd (ih _)))))
 exact yF (yF (yB (yB (Zc (Zb t0 s0.1 x64.1 s0.2.2.1 x64.2 mA) (hrc t0 s0.1 x64.1 s0.2.2.1 x64.2 mA) fun x69 _=>
  Zd (ih _))
  (Zc (Zb t0 s0.1 x64.1 s0.2.2.1 x64.2 mA) (hrc t0 s0.1 x64.1 s0.2.2.1 x64.2 mA) fun x70 _=>
  Zd (ih _)))
  (yB (Zc (Zb t0 (w64 (x64.1+1)) s0.2.1 s0.2.2.1 x64.2 mA) (hrc t0 (w64 (x64.1+1)) s0.2.1 s0.2.2.1 x64.2 mA) fun x71 _=>
  Zd (ih _))
  (Zc (Zb t0 (w64 (x64.1+1)) s0.2.1 s0.2.2.1 x64.2 mA) (hrc t0 (w64 (x64.1+1)) s0.2.1 s0.2.2.1 x64.2 mA) fun x72 _=>
  Zd (ih _)))))))))))))
theorem ZfB (rc:Int->Int->Int->(Int->Int->Option Int)->(List Int)->Option (List Int)) (hrc:∀(t0:Bool) (b:Int) (c:Int) (d:Int) (mG:List Int) (mA:List Zf) (r:List Int),rc b c d (fun z0 z1=>ZC z0 z1 mA) mG=some r->evW ctx 122 [(.sl 0 1),(zN b),(zN c),(zN d),(.fn 97 [(.ptr 1 0)])] [(zA mG),(.cells [(zW t0 Zp mA)])]=some ((Zb t0 b c d mG mA) r)) (t0:Bool) (b:Int) (c:Int) (d:Int) (mG:List Int) (mA:List Zf):∀r,(Zaw rc b c d (fun z0 z1=>ZC z0 z1 mA) mG)=some r->evW ctx 122 [(.sl 0 1),(zN b),(zN c),(zN d),(.fn 97 [(.ptr 1 0)])] [(zA mG),(.cells [(zW t0 Zp mA)])]=some ((Zb t0 b c d mG mA) r):=
 evS ZzN rfl rfl <| Zc _ (Zfl hrc _) fun r219 _=>
  yR
theorem Zco:∀(n:Nat) (t0:Bool) (b:Int) (c:Int) (d:Int) (mG:List Int) (mA:List Zf) (r:List Int),ZQ n b c d (fun z0 z1=>ZC z0 z1 mA) mG=some r->evW ctx 122 [(.sl 0 1),(zN b),(zN c),(zN d),(.fn 97 [(.ptr 1 0)])] [(zA mG),(.cells [(zW t0 Zp mA)])]=some ((Zb t0 b c d mG mA) r)
  | 0,t0,b,c,d,mG,mA,r,h=>by cases h
  | n+1,t0,b,c,d,mG,mA,r,h=>ZfB (ZQ n) (Zco n) t0 b c d mG mA r h
theorem ZfL {t0:Bool}{b c d:Int}{mG:List Int}{mA:List Zf}:∀r,ZcE b c d (fun z0 z1=>ZC z0 z1 mA) mG=some r->evW ctx 122 [(.sl 0 1),(zN b),(zN c),(zN d),(.fn 97 [(.ptr 1 0)])] [(zA mG),(.cells [(zW t0 Zp mA)])]=some ((Zb t0 b c d mG mA) r):=fun r h=>by
  obtain⟨n,hn⟩:=ZAx h
  exact Zco n t0 b c d mG mA r hn
def Zf4 (t0:Bool) (mG:List Int) (mA:List Zf):(List Int)->V×Zl
  | r=>((.d (D.tup [])),[(zA r),(.cells [(zW t0 Zp mA)])])
theorem ZfO {t0:Bool}{mG:List Int}{mA:List Zf}:∀r,(Zar (fun z0 z1=>ZC z0 z1 mA) mG)=some r->evW ctx 96 [(.sl 0 1),(.fn 97 [(.ptr 1 0)])] [(zA mG),(.cells [(zW t0 Zp mA)])]=some ((Zf4 t0 mG mA) r):=
 evS ZFk rfl rfl <| Zh (Zy _ _) (yC ZhG fun x0 _=>
  Zc _ ZfL fun x1 _=>
  yR)
def Zso (r:List Int):D:=(zL true r)
def ZkZ (t0:Bool) (a:List Zf):(List Int)->Ex×List V×Zl
  | r=>(.exit 0,[(.ptr 0 0),(.sl 1 1)],[(.cells [(zW t0 Zp a)]),(zA r)])
theorem Zon {t0:Bool}{a:List Zf}:∀(s0:Int×(List Int)) (r:List Int),lp (ZeX a) s0=some r->lpW ctx 0 [1,3,6,7] [1,3] ZDB [(.ptr 0 0),(.sl 1 1),(zN (a.length:Int)),(zN s0.1)] [(.cells [(zW t0 Zp a)]),(zA s0.2)]=some ((ZkZ t0 a) r):=
 lpT (ZkZ t0 a) fun s0 _ ih=>yB (yT (ZcA (Zfi Zm s0.2 1) (Zh (Zfg Zm s0.2 [s0.1]) (Zd (ih _)))
  ZaW))
  (Zi rfl)
theorem ZrT {t0:Bool}{a:List Zf}:∀r,(Zgg a)=some r->evD ctx 66 [(zW t0 Zp a)]=some (Zso r):=
 evT ZHD rfl rfl <| Zh (Zy _ _) (Zc _ (Zon _) fun r1 _=>
  Zc _ ZfO fun x2 _=>
  yR)
def Zyb (r:List Zf):D:=(zM true Zp r)
def Zna (t0:Bool) (t1:Bool) (a:List Zf) (b:List Int) (c:Int):(List Zf)->Ex×List V×Zl
  | r=>(.exit 0,[(.sl 0 5)],[(.arr 5 (List.map Zp r))])
theorem ZrC {t0 t1:Bool}{a:List Zf}{b:List Int}{c:Int}:∀(s0:Int×(List Zf)) (r:List Zf),lp (Zga a b c) s0=some r->lpW ctx 0 [1,2,7,10,11,12] [7] ZCu [(zV t1 b),(zN c),(.sl 0 5),(zW t0 Zp a),(zN (a.length:Int)),(zN s0.1)] [(.arr 5 (List.map Zp s0.2))]=some ((Zna t0 t1 a b c) r):=
 lpT (Zna t0 t1 a b c) fun s0 _ ih=>yB (yG fun x1 _=>
  Zh (Zy _ _) (yB (yG fun x2 _=>
  yB (yT (ZcA (Zfi Zp s0.2 1) (Zh (Zfg Zp s0.2 [x1]) (Zd (ih _)))
  ZaW))
  (Zd (ih _)))
  (Zd (ih _))))
  (Zi rfl)
theorem Zwo {t0 t1:Bool}{a:List Zf}{b:List Int}{c:Int}:∀r,(ZnU a b c)=some r->evD ctx 68 [(zW t0 Zp a),(zV t1 b),(zN c)]=some (Zyb r):=
 evT ZGV rfl rfl <| Zh (Zy _ _) (Zc _ (ZrC _) fun r3 _=>
  yR)
def Zpx (r:Int):D:=(Zm r)
theorem Zou {a:Int}{b:Zf}:∀r,(Zdr a b)=some r->evD ctx 101 [(zN a),(.d (zK1 b.total b.long b.most b.deadline b.period))]=some (Zpx r):=
 evT ZCH rfl rfl <| yR
def ZjH (r:Int):D:=(Zm r)
def ZfY (t0:Bool) (a:List Zf):Int->Ex×List V×Zl
  | r=>(.exit 0,[(zN r)],[])
theorem Zii {t0:Bool}{a:List Zf}:∀(s0:Int×Int) (r:Int),lp (ZdU a (fun z0 z1=>Zdr z0 z1)) s0=some r->lpW ctx 0 [1,5,8,9,10] [5] Zv8 [(.d (D.fn 101 [])),(zN s0.1),(zW t0 Zp a),(zN (a.length:Int)),(zN s0.2)] []=some ((ZfY t0 a) r):=
 lpT (ZfY t0 a) fun s0 _ ih=>yB (yG fun x1 _=>
  yC Zou fun x2 _=>
  Zd (ih _))
  (Zi rfl)
theorem Zi7 {t0:Bool}{a:List Zf}:∀r,(ZgY a (fun z0 z1=>Zdr z0 z1))=some r->evD ctx 91 [(zW t0 Zp a),(.d (D.fn 101 []))]=some (ZjH r):=
 evT ZDq rfl rfl <| Zh (Zy _ _) (Zc _ (Zii _) fun r3 _=>
  yR)
def Zrz (r:Int):D:=(Zm r)
theorem Zqe {t0:Bool}{a:List Zf}:∀r,(ZiM a)=some r->evD ctx 77 [(zW t0 Zp a)]=some (Zrz r):=
 evT ZGT rfl rfl <| yC ZgH fun x0 _=>
  yBr (yC Zi7 fun x1 _=>
  yR)
def Zq6 (r:Int):D:=(Zm r)
theorem Zo7 {a:Int}{b:Zf}{c0:Int}:∀r,(Zcn a b c0)=some r->evD ctx 92 [(zN a),(.d (zK1 b.total b.long b.most b.deadline b.period)),(.d (D.rptr [(Zm c0)]))]=some (Zq6 r):=
 evT ZGS rfl rfl <| yBr (yBn yR)
def Zkc (r:Int):D:=(Zm r)
def Zf7 (t0:Bool) (a:List Zf) (b0:Int):Int->Ex×List V×Zl
  | r=>(.exit 0,[(zN r)],[])
theorem Zir {t0:Bool}{a:List Zf}{b0:Int}:∀(s0:Int×Int) (r:Int),lp (ZdU a (fun z0 z1=>Zcn z0 z1 b0)) s0=some r->lpW ctx 0 [1,5,8,9,10] [5] Zv8 [(.d (D.fn 92 [(D.rptr [(Zm b0)])])),(zN s0.1),(zW t0 Zp a),(zN (a.length:Int)),(zN s0.2)] []=some ((Zf7 t0 a b0) r):=
 lpT (Zf7 t0 a b0) fun s0 _ ih=>yB (yG fun x1 _=>
  yC Zo7 fun x2 _=>
  Zd (ih _))
  (Zi rfl)
theorem ZjA {t0:Bool}{a:List Zf}{b0:Int}:∀r,(ZgY a (fun z0 z1=>Zcn z0 z1 b0))=some r->evD ctx 91 [(zW t0 Zp a),(.d (D.fn 92 [(D.rptr [(Zm b0)])]))]=some (Zkc r):=
 evT ZDq rfl rfl <| Zh (Zy _ _) (Zc _ (Zir _) fun r3 _=>
  yR)
def Ztm (r:Int):D:=(Zm r)
theorem ZmI {t0:Bool}{a:List Zf}{b:Int}:∀r,(Ze8 a b)=some r->evD ctx 62 [(zW t0 Zp a),(zN b)]=some (Ztm r):=
 evT ZHk rfl rfl <| yC ZjA fun x0 _=>
  yR
def ZrL (r:Int):D:=(Zm r)
theorem Zqf {a:Int}{b:Zf}{c0:Int}:∀r,(Zfo a b c0)=some r->evD ctx 93 [(zN a),(.d (zK1 b.total b.long b.most b.deadline b.period)),(.d (D.rptr [(Zm c0)]))]=some (ZrL r):=
 evT ZHP rfl rfl <| yBr yR
def Zkz (r:Int):D:=(Zm r)
def Zgn (t0:Bool) (a:List Zf) (b0:Int):Int->Ex×List V×Zl
  | r=>(.exit 0,[(zN r)],[])
theorem Zi1 {t0:Bool}{a:List Zf}{b0:Int}:∀(s0:Int×Int) (r:Int),lp (ZdU a (fun z0 z1=>Zfo z0 z1 b0)) s0=some r->lpW ctx 0 [1,5,8,9,10] [5] Zv8 [(.d (D.fn 93 [(D.rptr [(Zm b0)])])),(zN s0.1),(zW t0 Zp a),(zN (a.length:Int)),(zN s0.2)] []=some ((Zgn t0 a b0) r):=
 lpT (Zgn t0 a b0) fun s0 _ ih=>yB (yG fun x1 _=>
  yC Zqf fun x2 _=>
  Zd (ih _))
  (Zi rfl)
theorem ZjO {t0:Bool}{a:List Zf}{b0:Int}:∀r,(ZgY a (fun z0 z1=>Zfo z0 z1 b0))=some r->evD ctx 91 [(zW t0 Zp a),(.d (D.fn 93 [(D.rptr [(Zm b0)])]))]=some (Zkz r):=
 evT ZDq rfl rfl <| Zh (Zy _ _) (Zc _ (Zi1 _) fun r3 _=>
  yR)
def Zur (r:Int):D:=(Zm r)
theorem ZnB {t0:Bool}{a:List Zf}{b:Int}:∀r,(ZhT a b)=some r->evD ctx 63 [(zW t0 Zp a),(zN b)]=some (Zur r):=
 evT ZHN rfl rfl <| yC ZjO fun x0 _=>
  yR
def Zwb (r:Bool):D:=(D.bool r)
def ZmG (t0:Bool) (a:List Zf) (s1:Int) (x2:Zf):(Unit⊕Unit)->Ex×List V×Zl
  | (.inl r)=>(.ret,[(zW t0 Zp a),(.d (D.bool false)),(zW t0 Zp a),(zN (a.length:Int)),(zN s1)],[])
  | (.inr r)=>(.exit 2,[(zW t0 Zp a),.bad,(zW t0 Zp a),(zN (a.length:Int)),(zN s1)],[])
theorem ZqM {t0:Bool}{a:List Zf}{s1:Int}{x2:Zf}:∀(s3:Int) (r:(Unit⊕Unit)),lp (Zgv a x2) s3=some r->lpW ctx 0 [0,4,5,9,10,11] [0,2,9,10,11] ZCO [(zW t0 Zp a),(.ptr 0 0),(zN s3),(zW t0 Zp a),(zN (a.length:Int)),(zN s1)] [(.cells [(zN x2.total),(zN x2.long),(zN x2.most),(zN x2.deadline),(zN x2.period)])]=some ((ZmG t0 a s1 x2) r):=
 lpT (ZmG t0 a s1 x2) fun s3 _ ih=>yC Zqe fun x4 _=>
  yB (yC ZmI fun x5 _=>
  yC ZnB fun x6 _=>
  yB (Zi rfl)
  (Zd (ih _)))
  (Zi rfl)
def ZmH (t0:Bool) (a:List Zf):(Unit⊕Unit)->Ex×List V×Zl
  | (.inl r)=>(.ret,[(.d (D.bool false))],[])
  | (.inr r)=>(.exit 0,[.bad],[])
theorem ZqX {t0:Bool}{a:List Zf}:∀(s1:Int) (r:(Unit⊕Unit)),lp (Zhv a) s1=some r->lpW ctx 0 [0,9,10,11] [2] ZER [(zW t0 Zp a),(zW t0 Zp a),(zN (a.length:Int)),(zN s1)] []=some ((ZmH t0 a) r):=
 lpT (ZmH t0 a) fun s1 _ ih=>yB (yG fun x2 _=>
  (by
 conv=>rhs;whnf
 refine Zc _ (ZqM _) fun r7 _=>?_
 rcases r7 with r7 | r7
 exact Zi rfl
 exact Zd (ih _)))
  (Zi rfl)
theorem Zlh {t0:Bool}{a:List Zf}:∀r,(Ziy a)=some r->evD ctx 46 [(zW t0 Zp a)]=some (Zwb r):=
 evT ZHL rfl rfl <| yC ZgH fun x0 _=>
  yBr (Zh (Zy _ _) (by
 conv=>rhs;whnf
 refine Zc _ (ZqX _) fun r8 _=>?_
 rcases r8 with r8 | r8
 exact yR
 exact yR))
def ZqP (t0:Bool) (a:Int) (mA:Int) (mI:List Zf) (mH:List Int):(Unit⊕Unit)->V×Zl
  | (.inl r)=>((.d (D.bool true)),[(.cells [(.sl 3 1)]),(.cells [(zN mA)]),(.cells [(zW t0 Zp mI)]),(zA (List.set mH mA.toNat a))])
  | (.inr r)=>((.d (D.bool false)),[(.cells [(.sl 3 1)]),(.cells [(zN mA)]),(.cells [(zW t0 Zp mI)]),(zA (List.set mH mA.toNat a))])
theorem ZpN {t0:Bool}{a mA:Int}{mI:List Zf}{mH:List Int}:∀r,(ZjW a mA mI mH)=some r->evW ctx 67 [(zN a),(.ptr 0 0),(.ptr 1 0),(.ptr 2 0)] [(.cells [(.sl 3 1)]),(.cells [(zN mA)]),(.cells [(zW t0 Zp mI)]),(zA mH)]=some ((ZqP t0 a mA mI mH) r):=
 evS ZHs rfl rfl <| yG fun x0 hx0=>
  Ze (Zk rfl hx0) (Zh (ZI Zm mH mA.toNat a) (yC Zwo fun x1 _=>
  yC Zlh fun x2 _=>
  yBr yR))
def ZsP (r:((List Int)×Int)):D:=(D.tup [(zL true r.1),(Zm r.2)])
def ZkE (t0:Bool) (a:List Zf) (b:Int):(List Int)->Ex×List V×Zl
  | r=>(.exit 0,[(zN b),(.ptr 0 0),(.ptr 1 0)],[(.cells [(zW t0 Zp a)]),(.cells [(.sl 2 1)]),(zA r)])
theorem ZoY {t0:Bool}{a:List Zf}{b:Int}:∀(s2:Int×(List Int)) (r:List Int),lp (ZeT a) s2=some r->lpW ctx 0 [1,2,6,24,25] [1,2,6] ZCC [(zN b),(.ptr 0 0),(.ptr 1 0),(zN (List.length (List.replicate (a.length:Int).toNat (0:Int)):Int)),(zN s2.1)] [(.cells [(zW t0 Zp a)]),(.cells [(.sl 2 1)]),(zA s2.2)]=some ((ZkE t0 a b) r):=
 lpT (ZkE t0 a b) fun s2 _ ih=>yB (yG fun x3 hx3=>
  Ze (Zk rfl hx3) (Zh (ZI Zm s2.2 s2.1.toNat (-1)) (Zd (ih _))))
  (Zi rfl)
def ZkP (t0:Bool) (a:List Zf) (b:Int) (x5:List Int) (s6:Int×(List Int)) (x7:Int):((List Int)⊕(List Int))->Ex×List V×Zl
  | (.inl r)=>(.exit 3,[(zN b),(.ptr 0 0),(.ptr 1 0),(zV true x5),(zN (x5.length:Int)),(zN s6.1)],[(.cells [(zW t0 Zp a)]),(.cells [(.sl 2 1)]),(zA r)])
  | (.inr r)=>(.exit 4,[(zN b),(.ptr 0 0),(.ptr 1 0),(zV true x5),(zN (x5.length:Int)),(zN s6.1)],[(.cells [(zW t0 Zp a)]),(.cells [(.sl 2 1)]),(zA r)])
theorem ZoL {t0:Bool}{a:List Zf}{b:Int}{x5:List Int}{s6:Int×(List Int)}{x7:Int}:∀(s8:Int×(List Int)) (r:((List Int)⊕(List Int))),lp (ZeW a b x7) s8=some r->lpW ctx 0 [1,2,6,10,33,34,35,40,41] [1,2,6,33,34,35] ZCY [(zN b),(.ptr 0 0),(.ptr 1 0),(.fn 67 [(.ptr 1 0),(.ptr 2 0),(.ptr 0 0)]),(zV true x5),(zN (x5.length:Int)),(zN s6.1),(zN b),(zN s8.1)] [(.cells [(zW t0 Zp a)]),(.cells [(.sl 3 1)]),(.cells [(zN x7)]),(zA s8.2)]=some ((ZkP t0 a b x5 s6 x7) r):=
 lpT (ZkP t0 a b x5 s6 x7) fun s8 _ ih=>yB ((by
 conv=>rhs;whnf
 refine Zc _ ZpN fun x9 _=>?_
 rcases x9 with x9 | x9
 exact Zi rfl
 exact Zd (ih _)))
  (Zi rfl)
def ZkC (t0:Bool) (a:List Zf) (b:Int) (x5:List Int):((List Int)⊕(List Int))->Ex×List V×Zl
  | (.inl r)=>(.ret,[(.nilsl 1),(zN 161),(.ptr 0 0)],[(.cells [(.sl 1 1)]),(zA r)])
  | (.inr r)=>(.exit 2,[.bad,.bad,(.ptr 0 0)],[(.cells [(.sl 1 1)]),(zA r)])
theorem Zom {t0:Bool}{a:List Zf}{b:Int}{x5:List Int}:∀(s6:Int×(List Int)) (r:((List Int)⊕(List Int))),lp (ZeZ a b x5) s6=some r->lpW ctx 0 [1,2,6,33,34,35] [4,5,6] ZDT [(zN b),(.ptr 0 0),(.ptr 1 0),(zV true x5),(zN (x5.length:Int)),(zN s6.1)] [(.cells [(zW t0 Zp a)]),(.cells [(.sl 2 1)]),(zA s6.2)]=some ((ZkC t0 a b x5) r):=
 lpT (ZkC t0 a b x5) fun s6 _ ih=>yB (yG fun x7 _=>
  (by
 conv=>rhs;whnf
 refine Zc _ (ZoL _) fun r10 _=>?_
 rcases r10 with r10 | r10
 exact Zd (ih _)
 exact Zi rfl))
  (Zi rfl)
theorem ZrA {t0:Bool}{a:List Zf}{b:Int}:∀r,(Zh8 a b)=some r->evD ctx 36 [(zW t0 Zp a),(zN b)]=some (ZsP r):=
 evT ZIc rfl rfl <| yC ZgH fun x0 _=>
  yBr (yC ZqS fun x1 _=>
  yB (Zh (Zy _ _) (yBm (Zh (Zsd Zm (0:Int) (a.length:Int)) (Zh (Zy _ _) (Zc _ (ZoY _) fun r4 _=>
  yC ZrT fun x5 _=>
  Zh (Zy _ _) (by
 conv=>rhs;whnf
 refine Zc _ (Zom _) fun r11 _=>?_
 rcases r11 with r11 | r11
 exact yR
 exact yR))))))
  yR)
def ZrP (r:(Zan×Int)):D:=(D.tup [(D.agg [(zM true Zp r.1.shapes),(D.list true (List.map (Zcs true) r.1.cores))]),(Zm r.2)])
def Zj4 (b:Int) (x0:((List Zf)×Int)):(((List Zf)×(List (List Int)))⊕((List Int)×(List Zf)×(List (List Int))))->Ex×List V×Zl
  | (.inl r)=>(.ret,[(zN b),(.ptr 0 0),(zN 171),(zW true Zp x0.1),(.ptr 1 0),(.ch 2),(.sl 3 5)],[(.cells [(.nilsl 5),(.nilsl 1)]),(.cells [(zW true Zp x0.1),(.sl 4 1)]),(.ch ([]:List Int)),(.arr 5 (List.map Zp r.1)),(.arr 1 (List.map (Zcs true) r.2))])
  | (.inr r)=>(.exit 0,[(zN b),(.ptr 0 0),.bad,(zW true Zp x0.1),(.ptr 1 0),(.ch 2),(.sl 3 5)],[(.cells [(.sl 4 5),(.sl 5 1)]),(.cells [(zW true Zp x0.1),(.sl 6 1)]),(.ch r.1),(.arr 5 (List.map Zp r.2.1)),(.arr 5 []),(.arr 1 []),(.arr 1 (List.map (Zcs true) r.2.2))])
theorem Zn6 {b:Int}{x0:((List Zf)×Int)}:∀(s2:Int×(List Int)×(List Zf)×(List (List Int))) (r:(((List Zf)×(List (List Int)))⊕((List Int)×(List Zf)×(List (List Int))))),lp (ZcB x0) s2=some r->lpW ctx 0 [1,4,6,8,9,10,49,50,51] [1,4,5,6,8,9,10] ZEC [(zN b),(.ptr 0 0),(zW true Zp x0.1),(.ptr 1 0),(.ch 2),(.sl 3 5),(zW true Zp x0.1),(zN (x0.1.length:Int)),(zN s2.1)] [(.cells [(.sl 4 5),(.sl 5 1)]),(.cells [(zW true Zp x0.1),(.sl 6 1)]),(.ch s2.2.1),(.arr 5 (List.map Zp s2.2.2.1)),(.arr 5 []),(.arr 1 []),(.arr 1 (List.map (Zcs true) s2.2.2.2))]=some ((Zj4 b x0) r):=
 lpT (Zj4 b x0) fun s2 _ ih=>yB (yG fun x3 _=>
  yC ZdW fun x4 _=>
  yB (yC ZiC fun x5 _=>
  (by
 conv=>rhs;whnf
 refine Zc _ Zr0 fun x6 _=>?_
 rcases x6 with x6 | x6
 exact yT (yG fun x7 hx7=>
  Ze (Zk rfl hx7) (Zh (ZI (Zcs true) s2.2.2.2 s2.1.toNat (List.take x5.1.toNat s2.2.1)) (Zd (ih _))))
 exact yF (Zi rfl)))
  (yT (ZcA (Zfi Zp s2.2.2.1 1) (Zh (Zfg Zp s2.2.2.1 [x3]) (Zd (ih _)))
  ZaW)))
  (Zi rfl)
def ZjX (b:Int) (x0:((List Zf)×Int)) (r8:((List Int)×(List Zf)×(List (List Int)))):(List (List Int))->Ex×List V×Zl
  | r=>(.exit 2,[(.ptr 0 0),(.ptr 1 0)],[(.cells [(.sl 2 5),(.sl 3 1)]),(.cells [(zW true Zp x0.1),(.sl 4 1)]),(.arr 5 []),(.arr 1 []),(.arr 1 (List.map (Zcs true) r))])
theorem ZnW {b:Int}{x0:((List Zf)×Int)}{r8:((List Int)×(List Zf)×(List (List Int)))}:∀(s10:(List Int)×Int×(List (List Int))) (r:(List (List Int))),lp (Zd0 b x0 r8) s10=some r->lpW ctx 0 [4,8,17,18,97,98,99] [4,8] ZDt [(.ptr 0 0),(.ptr 1 0),(zV true s10.1),(zN (w64 (b-(r8.1.length:Int)))),(zW true Zp x0.1),(zN (x0.1.length:Int)),(zN s10.2.1)] [(.cells [(.sl 2 5),(.sl 3 1)]),(.cells [(zW true Zp x0.1),(.sl 4 1)]),(.arr 5 []),(.arr 1 []),(.arr 1 (List.map (Zcs true) s10.2.2))]=some ((ZjX b x0 r8) r):=
 lpT (ZjX b x0 r8) fun s10 _ ih=>yB (yG fun x11 _=>
  yC ZdW fun x12 _=>
  yB (Zd (ih _))
  (yG fun x13 _=>
  yT (ZcA (ZB4 Zm s10.1 1) (ZpO (ZG8 Zm (fun _=>⟨rfl,rfl⟩) s10.1 _) (Zh (Zzn Zm s10.1 1) (yG fun x14 hx14=>
  Ze (Zk rfl hx14) (Zh (ZI (Zcs true) s10.2.2 s10.2.1.toNat [(w64 ((w64 (b-(r8.1.length:Int)))+x13))]) (Zd (ih _))))))
  ZaW)))
  (Zi rfl)
theorem ZqH {t0:Bool}{a:List Zq}{b:Int}:∀r,(ZiJ a b)=some r->evD ctx 11 [(.d (D.list t0 (List.map (ZeE true) a))),(zN b)]=some (ZrP r):=
 evT ZIb rfl rfl <| Zh (Zy _ _) (yBr (yBr (yBr (yC ZpS fun x0 _=>
  yBr (Zh (Zy _ _) (yBm (Zh (Zsd (Zcs true) (([]:List Int):List Int) (x0.1.length:Int)) (Zc _ ZrZ fun x1 _=>
  Zh (Zy _ _) (by
 conv=>rhs;whnf
 refine Zc _ (Zn6 _) fun r8 _=>?_
 rcases r8 with r8 | r8
 exact yR
 exact yC ZrA fun x9 _=>
  yBr (Zh (Zy _ _) (Zc _ (ZnW _) fun r15 _=>
  yR)))))))))))
def Zuv (r:Bool):D:=(D.bool r)
def ZlL (t0:Bool) (a:List Int) (b:Int):(Unit⊕Unit)->Ex×List V×Zl
  | (.inl r)=>(.ret,[(.d (D.bool true))],[])
  | (.inr r)=>(.exit 0,[.bad],[])
theorem ZpI {t0:Bool}{a:List Int}{b:Int}:∀(s0:Int) (r:(Unit⊕Unit)),lp (Zg2 a b) s0=some r->lpW ctx 0 [0,1,5] [4] ZCa [(zV t0 a),(zN b),(zN s0)] []=some ((ZlL t0 a b) r):=
 lpT (ZlL t0 a b) fun s0 _ ih=>Zh (Zy _ _) (yB (yG fun x1 _=>
  yB (Zi rfl)
  (Zd (ih _)))
  (Zi rfl))
theorem Znd {t0:Bool}{a:List Int}{b:Int}:∀r,(ZgX a b)=some r->evD ctx 29 [(zV t0 a),(zN b)]=some (Zuv r):=
 evT ZHr rfl rfl <| (by
 conv=>rhs;whnf
 refine Zc _ (ZpI _) fun r2 _=>?_
 rcases r2 with r2 | r2
 exact yR
 exact yR)
def Ztj (r:Bool):D:=(D.bool r)
def ZkR (t0:Bool) (t1:Bool) (a:List Zf) (b:List Zf):(Unit⊕Unit)->Ex×List V×Zl
  | (.inl r)=>(.ret,[(.d (D.bool false))],[])
  | (.inr r)=>(.exit 0,[.bad],[])
theorem Zo1 {t0 t1:Bool}{a:List Zf}{b:List Zf}:∀(s0:Int) (r:(Unit⊕Unit)),lp (ZmB a b) s0=some r->lpW ctx 0 [0,1,5] [4] ZCF [(zW t0 Zp a),(zW t1 Zp b),(zN s0)] []=some ((ZkR t0 t1 a b) r):=
 lpT (ZkR t0 t1 a b) fun s0 _ ih=>Zh (Zy _ _) (yB (yG fun x1 _=>
  yG fun x2 _=>
  yB (Zi rfl)
  (Zd (ih _)))
  (Zi rfl))
theorem ZrF {t0 t1:Bool}{a:List Zf}{b:List Zf}:∀r,(ZhZ a b)=some r->evD ctx 40 [(zW t0 Zp a),(zW t1 Zp b)]=some (Ztj r):=
 evT ZGR rfl rfl <| Zh (Zy _ _) (Zh (Zy _ _) (yBr (by
 conv=>rhs;whnf
 refine Zc _ (Zo1 _) fun r3 _=>?_
 rcases r3 with r3 | r3
 exact yR
 exact yR)))
def Zt6 (r:Bool):D:=(D.bool r)
def ZkL (t0:Bool) (t1:Bool) (a:List Int) (b:List Int):(Unit⊕Unit)->Ex×List V×Zl
  | (.inl r)=>(.ret,[(.d (D.bool false))],[])
  | (.inr r)=>(.exit 0,[.bad],[])
theorem ZoV {t0 t1:Bool}{a:List Int}{b:List Int}:∀(s0:Int) (r:(Unit⊕Unit)),lp (ZmC a b) s0=some r->lpW ctx 0 [0,1,5] [4] ZEy [(zV t0 a),(zV t1 b),(zN s0)] []=some ((ZkL t0 t1 a b) r):=
 lpT (ZkL t0 t1 a b) fun s0 _ ih=>Zh (Zy _ _) (yB (yG fun x1 _=>
  yG fun x2 _=>
  yB (Zi rfl)
  (Zd (ih _)))
  (Zi rfl))
theorem Zrx {t0 t1:Bool}{a:List Int}{b:List Int}:∀r,(ZpM a b)=some r->evD ctx 21 [(zV t0 a),(zV t1 b)]=some (Zt6 r):=
 evT ZH6 rfl rfl <| Zh (Zy _ _) (Zh (Zy _ _) (yBr (by
 conv=>rhs;whnf
 refine Zc _ (ZoV _) fun r3 _=>?_
 rcases r3 with r3 | r3
 exact yR
 exact yR)))
def Zte (r:Bool):D:=(D.bool r)
def ZkW (t0:Bool) (t1:Bool) (t2:Bool) (t3:Bool) (a:Zan) (b:Zan):(Unit⊕Unit)->Ex×List V×Zl
  | (.inl r)=>(.ret,[(.d (D.bool false))],[])
  | (.inr r)=>(.exit 0,[.bad],[])
theorem Zos {t0 t1:Bool}{t2 t3:Bool}{a b:Zan}:∀(s1:Int) (r:(Unit⊕Unit)),lp (Zjd a b) s1=some r->lpW ctx 0 [2,3,5] [4] ZDD [(.ptr 0 0),(.ptr 1 0),(zN s1)] [(.cells [(zW t0 Zp a.shapes),(.d (D.list t1 (List.map (Zcs true) a.cores)))]),(.cells [(zW t2 Zp b.shapes),(.d (D.list t3 (List.map (Zcs true) b.cores)))])]=some ((ZkW t0 t1 t2 t3 a b) r):=
 lpT (ZkW t0 t1 t2 t3 a b) fun s1 _ ih=>Zh (Zy _ _) (yB (yG fun x2 _=>
  yG fun x3 _=>
  yC Zrx fun x4 _=>
  yB (Zd (ih _))
  (Zi rfl))
  (Zi rfl))
theorem ZrU {t0 t1:Bool}{t2 t3:Bool}{a b:Zan}:∀r,(Zjx a b)=some r->evD ctx 14 [(.d (D.agg [(zM t0 Zp a.shapes),(D.list t1 (List.map (Zcs true) a.cores))])),(.d (D.agg [(zM t2 Zp b.shapes),(D.list t3 (List.map (Zcs true) b.cores))]))]=some (Zte r):=
 evT ZIk rfl rfl <| yC ZrF fun x0 _=>
  yB (Zh (Zy _ _) (Zh (Zy _ _) (yBr (by
 conv=>rhs;whnf
 refine Zc _ (Zos _) fun r5 _=>?_
 rcases r5 with r5 | r5
 exact yR
 exact yR))))
  yR
def ZsL (t0:Bool) (t1:Bool) (a:Zan):(List (List Int))->V×Zl
  | r=>((.agg [(.sl 0 5),(.sl 1 1)]),[(.arr 5 (List.map Zp a.shapes)),(.arr 1 (List.map (Zcs true) r))])
def ZkB (t0:Bool) (t1:Bool) (a:Zan):(List (List Int))->Ex×List V×Zl
  | r=>(.exit 0,[(.ptr 0 0),(.ptr 1 0)],[(.cells [(.sl 2 5),(.sl 3 1)]),(.cells [(.sl 4 5),(.sl 5 1)]),(.arr 5 []),(.arr 1 []),(.arr 5 (List.map Zp a.shapes)),(.arr 1 (List.map (Zcs true) r))])
theorem ZoC {t0 t1:Bool}{a:Zan}:∀(s0:Int×(List (List Int))) (r:(List (List Int))),lp (Ze4 a) s0=some r->lpW ctx 0 [1,2,3,4] [2,3] ZEV [(.ptr 0 0),(.ptr 1 0),(.ptr 2 0),(zN s0.1)] [(.cells [(zW t0 Zp a.shapes),(.d (D.list t1 (List.map (Zcs true) a.cores)))]),(.cells [(.sl 3 5),(.sl 4 1)]),(.cells [(.sl 5 5),(.sl 6 1)]),(.arr 5 []),(.arr 1 []),(.arr 5 (List.map Zp a.shapes)),(.arr 1 (List.map (Zcs true) s0.2))]=some ((ZkB t0 t1 a) r):=
 lpT (ZkB t0 t1 a) fun s0 _ ih=>Zh (Zy _ _) (yB (yG fun x1 _=>
  ZpO (ZiZ (f:=Zm) (fun _=>⟨rfl,rfl⟩) x1 0) (ZcA (Zko Zm x1) (Zh (rfl:_=List.map Zm x1) (yT (ZcA (Zfi (Zcs true) s0.2 1) (Zh (Zfg (Zcs true) s0.2 [x1]) (Zd (ih _)))
  ZaW)))
  ZaW))
  (Zi rfl))
theorem ZmJ {t0 t1:Bool}{a:Zan}:∀r,(Zh4 a)=some r->evW ctx 17 [(.d (D.agg [(zM t0 Zp a.shapes),(D.list t1 (List.map (Zcs true) a.cores))]))] []=some ((ZsL t0 t1 a) r):=
 evS ZIn rfl rfl <| ZpO (ZiZ (f:=Zp) (fun _=>⟨rfl,rfl⟩) a.shapes 0) (ZcA (Zko Zp a.shapes) (Zh (rfl:_=List.map Zp a.shapes) (Zc _ (ZoC _) fun r2 _=>
  yR))
  ZaW)
def Zuy (r:Bool):D:=(D.bool r)
def ZlX (t0:Bool) (b:List Int) (c:Int) (x0:(Int×Int)):(Unit⊕Unit)->Ex×List V×Zl
  | (.inl r)=>(.ret,[(zV t0 b),(.d (D.bool false)),(zN x0.1),(zN x0.2)],[])
  | (.inr r)=>(.exit 0,[(zV t0 b),.bad,(zN x0.1),(zN x0.2)],[])
theorem Zp1 {t0:Bool}{b:List Int}{c:Int}{x0:(Int×Int)}:∀(s1:Int) (r:(Unit⊕Unit)),lp (ZfT b c) s1=some r->lpW ctx 0 [1,2,7,8,16,17,18] [1,6,7,8] ZDH [(zV t0 b),(zN c),(zN x0.1),(zN x0.2),(zV t0 b),(zN (b.length:Int)),(zN s1)] []=some ((ZlX t0 b c x0) r):=
 lpT (ZlX t0 b c x0) fun s1 _ ih=>yB (yG fun x2 _=>
  yB (Zi rfl)
  (yB (Zi rfl)
  (yB (yG fun x3 _=>
  yB (Zi rfl)
  (Zd (ih _)))
  (Zd (ih _)))))
  (Zi rfl)
theorem ZsS {t0:Bool}{a:Zf}{b:List Int}{c:Int}:∀r,(ZkD a b c)=some r->evD ctx 43 [(.d (zK1 a.total a.long a.most a.deadline a.period)),(zV t0 b),(zN c)]=some (Zuy r):=
 evT ZHO rfl rfl <| yC ZiC fun x0 _=>
  Zh (Zy _ _) (by
 conv=>rhs;whnf
 refine Zc _ (Zp1 _) fun r4 _=>?_
 rcases r4 with r4 | r4
 exact yR
 exact yB (Zh (Zy _ _) (yBr yR))
  yR)
def ZnE (t0:Bool) (a:Int) (b:Zf) (c:List Int) (mG:Bool) (mA:Int):(Unit⊕Unit)->V×Zl
  | (.inl r)=>((.d (D.tup [])),[(.cells [(.d (D.bool true))]),(.cells [(zN mA)])])
  | (.inr r)=>((.d (D.tup [])),[(.cells [(.d (D.bool false))]),(.cells [(zN mA)])])
theorem ZmS {t0:Bool}{a:Int}{b:Zf}{c:List Int}{mG:Bool}{mA:Int}:∀r,(ZhC a b c mG mA)=some r->evW ctx 42 [(zN a),(.d (zK1 b.total b.long b.most b.deadline b.period)),(zV t0 c),(.ptr 0 0),(.ptr 1 0)] [(.cells [(.d (D.bool mG))]),(.cells [(zN mA)])]=some ((ZnE t0 a b c mG mA) r):=
 evS ZIo rfl rfl <| yB (yC ZsS fun x0 _=>
  yBr yR)
  yR
def ZiX (t0:Bool) (t1:Bool) (a:Zan) (mA:Int):Bool->V×Zl
  | r=>((.d (D.tup [])),[(.cells [(.d (D.bool r))]),(.cells [(zN mA)])])
def Ze9 (t0:Bool) (t1:Bool) (a:Zan) (mA:Int):Bool->Ex×List V×Zl
  | r=>(.exit 0,[],[(.cells [(.d (D.bool r))]),(.cells [(zN mA)])])
theorem ZhW {t0 t1:Bool}{a:Zan}{mA:Int}:∀(s0:Int×Bool) (r:Bool),lp (ZeV a mA) s0=some r->lpW ctx 2 [1,2,11,12] [] Zwd [(.fn 42 [(.ptr 0 0),(.ptr 1 0)]),(.ptr 2 0),(zN (bif decide ((a.cores.length:Int)<(a.shapes.length:Int)) then (a.cores.length:Int) else (a.shapes.length:Int))),(zN s0.1)] [(.cells [(.d (D.bool s0.2))]),(.cells [(zN mA)]),(.cells [(zW t0 Zp a.shapes),(.d (D.list t1 (List.map (Zcs true) a.cores)))])]=some ((Ze9 t0 t1 a mA) r):=
 lpT (Ze9 t0 t1 a mA) fun s0 _ ih=>yB (yG fun x1 _=>
  yG fun x2 _=>
  (by
 conv=>rhs;whnf
 refine Zc _ ZmS fun x3 _=>?_
 rcases x3 with x3 | x3
 exact Zd (ih _)
 exact Zd (ih _)))
  (Zi rfl)
theorem Ziz {t0 t1:Bool}{a:Zan}{mA:Int}:∀r,(Zju a mA)=some r->evW ctx 41 [(.d (D.agg [(zM t0 Zp a.shapes),(D.list t1 (List.map (Zcs true) a.cores))])),(.fn 42 [(.ptr 0 0),(.ptr 1 0)])] [(.cells [(.d (D.bool true))]),(.cells [(zN mA)])]=some ((ZiX t0 t1 a mA) r):=
 evS ZDK rfl rfl <| Zh (Zy _ _) (Zh (Zy _ _) (Zc _ (ZhW _) fun r4 _=>
  yR))
def Zm0 (t0:Bool) (a:Int) (b:Zf) (c:List Int) (mG:Int) (mA:Int) (mH:List Zf):(Int⊕Unit)->V×Zl
  | (.inl r)=>((.d (D.tup [])),[(.cells [(zN mG)]),(.cells [(zN r)]),(.cells [(.sl 3 5)]),(.arr 5 (List.map Zp mH))])
  | (.inr r)=>((.d (D.tup [])),[(.cells [(zN mG)]),(.cells [(zN mA)]),(.cells [(.sl 4 5)]),.dead,(.arr 5 (List.map Zp (mH++[b])))])
theorem ZmM {t0:Bool}{a:Int}{b:Zf}{c:List Int}{mG mA:Int}{mH:List Zf}:∀r,(ZhF a b c mG mA mH)=some r->evW ctx 44 [(zN a),(.d (zK1 b.total b.long b.most b.deadline b.period)),(zV t0 c),(.ptr 0 0),(.ptr 1 0),(.ptr 2 0)] [(.cells [(zN mG)]),(.cells [(zN mA)]),(.cells [(.sl 3 5)]),(.arr 5 (List.map Zp mH))]=some ((Zm0 t0 a b c mG mA mH) r):=
 evS ZH0 rfl rfl <| yC Zc4 fun x0 _=>
  yB (yC ZdW fun x1 _=>
  yBr (yT (ZcA (Zfi Zp mH 1) (Zh (Zfg Zp mH [b]) yR)
  ZaW)))
  yR
def Zi3 (t0:Bool) (t1:Bool) (a:Zan) (mG:Int) (mA:Int):(Int×(List Zf))->V×Zl
  | r=>((.d (D.tup [])),[(.cells [(zN mG)]),(.cells [(zN r.1)]),(.cells [(.sl 3 5)]),(.arr 5 (List.map Zp r.2))])
def Zfd (t0:Bool) (t1:Bool) (a:Zan) (mG:Int):(Int×(List Zf))->Ex×List V×Zl
  | r=>(.exit 0,[],[(.cells [(zN mG)]),(.cells [(zN r.1)]),(.cells [(.sl 3 5)]),(.arr 5 (List.map Zp r.2))])
theorem ZhX {t0 t1:Bool}{a:Zan}{mG:Int}:∀(s0:Int×Int×(List Zf)) (r:(Int×(List Zf))),lp (Zc2 a mG) s0=some r->lpW ctx 3 [1,2,11,12] [] Zwd [(.fn 44 [(.ptr 0 0),(.ptr 1 0),(.ptr 2 0)]),(.ptr 3 0),(zN (bif decide ((a.cores.length:Int)<(a.shapes.length:Int)) then (a.cores.length:Int) else (a.shapes.length:Int))),(zN s0.1)] [(.cells [(zN mG)]),(.cells [(zN s0.2.1)]),(.cells [(.sl 4 5)]),(.cells [(zW t0 Zp a.shapes),(.d (D.list t1 (List.map (Zcs true) a.cores)))]),(.arr 5 (List.map Zp s0.2.2))]=some ((Zfd t0 t1 a mG) r):=
 lpT (Zfd t0 t1 a mG) fun s0 _ ih=>yB (yG fun x1 _=>
  yG fun x2 _=>
  (by
 conv=>rhs;whnf
 refine Zc _ ZmM fun x3 _=>?_
 rcases x3 with x3 | x3
 exact Zd (ih _)
 exact Zd (ih _)))
  (Zi rfl)
theorem ZiB {t0 t1:Bool}{a:Zan}{mG mA:Int}:∀r,(Zhw a mG mA)=some r->evW ctx 41 [(.d (D.agg [(zM t0 Zp a.shapes),(D.list t1 (List.map (Zcs true) a.cores))])),(.fn 44 [(.ptr 0 0),(.ptr 1 0),(.ptr 2 0)])] [(.cells [(zN mG)]),(.cells [(zN mA)]),(.cells [(.nilsl 5)])]=some ((Zi3 t0 t1 a mG mA) r):=
 evS ZDK rfl rfl <| Zh (Zy _ _) (Zh (Zy _ _) (Zc _ (ZhX _) fun r4 _=>
  yR))
def ZrB (r:Bool):D:=(D.bool r)
def ZjV (t0:Bool) (t1:Bool) (a:Zan) (b:Int):(Unit⊕Unit)->Ex×List V×Zl
  | (.inl r)=>(.ret,[(.d (D.bool false))],[])
  | (.inr r)=>(.exit 0,[.bad],[])
theorem Zn7 {t0 t1:Bool}{a:Zan}{b:Int}:∀(s1:Int) (r:(Unit⊕Unit)),lp (Zd2 a b) s1=some r->lpW ctx 0 [2,35,36] [4] ZCd [(.ptr 0 0),(zN b),(zN s1)] [(.cells [(zW t0 Zp a.shapes),(.d (D.list t1 (List.map (Zcs true) a.cores)))])]=some ((ZjV t0 t1 a b) r):=
 lpT (ZjV t0 t1 a b) fun s1 _ ih=>yB (Zc _ ZiB fun x2 _=>
  yB (Zi rfl)
  (yB (Zh (Zy _ _) (yB (Zi rfl)
  (yC Zlh fun x3 _=>
  yB (Zd (ih _))
  (Zi rfl))))
  (yC Zlh fun x4 _=>
  yB (Zd (ih _))
  (Zi rfl))))
  (Zi rfl)
theorem ZqA {t0 t1:Bool}{a:Zan}{b:Int}:∀r,(ZiL a b)=some r->evD ctx 16 [(.d (D.agg [(zM t0 Zp a.shapes),(D.list t1 (List.map (Zcs true) a.cores))])),(zN b)]=some (ZrB r):=
 evT ZIh rfl rfl <| yBr (yBr (Zh (Zy _ _) (yBr (Zh (Zy _ _) (Zh (Zy _ _) (yBr (Zc _ Ziz fun x0 _=>
  yB ((by
 conv=>rhs;whnf
 refine Zc _ (Zn7 _) fun r5 _=>?_
 rcases r5 with r5 | r5
 exact yR
 exact yR))
  yR)))))))
def Znz (t0:Bool) (a:Int) (b:Zf) (c:List Int) (mG:Int) (mI:List Int):(Unit⊕Unit)->V×Zl
  | (.inl r)=>((.d (D.tup [])),[(.cells [(zN mG)]),(.cells [(.sl 2 1)]),(zA mI)])
  | (.inr r)=>((.d (D.tup [])),[(.cells [(zN mG)]),(.cells [(.sl 3 1)]),.dead,(zA (mI++[a]))])
theorem ZmV {t0:Bool}{a:Int}{b:Zf}{c:List Int}{mG:Int}{mI:List Int}:∀r,(ZhH a b c mG mI)=some r->evW ctx 50 [(zN a),(.d (zK1 b.total b.long b.most b.deadline b.period)),(zV t0 c),(.ptr 0 0),(.ptr 1 0)] [(.cells [(zN mG)]),(.cells [(.sl 2 1)]),(zA mI)]=some ((Znz t0 a b c mG mI) r):=
 evS ZIm rfl rfl <| yC Zhf fun x0 _=>
  yB (yC ZdW fun x1 _=>
  yBr (yC Zc4 fun x2 _=>
  yB (yT (ZcA (Zfi Zm mI 1) (Zh (Zfg Zm mI [a]) yR)
  ZaW))
  yR))
  yR
def ZiO (t0:Bool) (t1:Bool) (a:Zan) (mG:Int):(List Int)->V×Zl
  | r=>((.d (D.tup [])),[(.cells [(zN mG)]),(.cells [(.sl 2 1)]),(zA r)])
def Zfa (t0:Bool) (t1:Bool) (a:Zan) (mG:Int):(List Int)->Ex×List V×Zl
  | r=>(.exit 0,[],[(.cells [(zN mG)]),(.cells [(.sl 2 1)]),(zA r)])
theorem ZhV {t0 t1:Bool}{a:Zan}{mG:Int}:∀(s0:Int×(List Int)) (r:List Int),lp (Zc3 a mG) s0=some r->lpW ctx 2 [1,2,11,12] [] Zwd [(.fn 50 [(.ptr 0 0),(.ptr 1 0)]),(.ptr 2 0),(zN (bif decide ((a.cores.length:Int)<(a.shapes.length:Int)) then (a.cores.length:Int) else (a.shapes.length:Int))),(zN s0.1)] [(.cells [(zN mG)]),(.cells [(.sl 3 1)]),(.cells [(zW t0 Zp a.shapes),(.d (D.list t1 (List.map (Zcs true) a.cores)))]),(zA s0.2)]=some ((Zfa t0 t1 a mG) r):=
 lpT (Zfa t0 t1 a mG) fun s0 _ ih=>yB (yG fun x1 _=>
  yG fun x2 _=>
  (by
 conv=>rhs;whnf
 refine Zc _ ZmV fun x3 _=>?_
 rcases x3 with x3 | x3
 exact Zd (ih _)
 exact Zd (ih _)))
  (Zi rfl)
theorem Zix {t0 t1:Bool}{a:Zan}{mG:Int}:∀r,(Zje a mG)=some r->evW ctx 41 [(.d (D.agg [(zM t0 Zp a.shapes),(D.list t1 (List.map (Zcs true) a.cores))])),(.fn 50 [(.ptr 0 0),(.ptr 1 0)])] [(.cells [(zN mG)]),(.cells [(.nilsl 1)])]=some ((ZiO t0 t1 a mG) r):=
 evS ZDK rfl rfl <| Zh (Zy _ _) (Zh (Zy _ _) (Zc _ (ZhV _) fun r4 _=>
  yR))
def ZrS (r:List Int):D:=(zL true r)
theorem Zqz {t0 t1:Bool}{a:Zan}{b:Int}:∀r,(ZiE a b)=some r->evD ctx 22 [(.d (D.agg [(zM t0 Zp a.shapes),(D.list t1 (List.map (Zcs true) a.cores))])),(zN b)]=some (ZrS r):=
 evT ZHK rfl rfl <| Zc _ Zix fun x0 _=>
  yR
def Zmh (r:(Int×Int)):D:=(D.tup [(Zm r.1),(Zm r.2)])
theorem Zl0 {t0:Bool}{a:List Zf}{b:Int}:∀r,(Zl2 a b (fun z0 z1=>Ze8 z0 z1))=some r->evD ctx 61 [(zW t0 Zp a),(zN b),(.d (D.fn 62 []))]=some (Zmh r):=
 evT ZFy rfl rfl <| yC ZgH fun x0 _=>
  yBr (yBr (yBr (yC ZmI fun x1 _=>
  yR)))
def Zsx (r:(Int×Int)):D:=(D.tup [(Zm r.1),(Zm r.2)])
theorem ZmA {t0:Bool}{a:List Zf}{b:Int}:∀r,(Zhb a b)=some r->evD ctx 30 [(zW t0 Zp a),(zN b)]=some (Zsx r):=
 evT ZG9 rfl rfl <| yC Zl0 fun x0 _=>
  yR
def ZmP (r:(Int×Int)):D:=(D.tup [(Zm r.1),(Zm r.2)])
theorem Zl8 {t0:Bool}{a:List Zf}{b:Int}:∀r,(Zl2 a b (fun z0 z1=>ZhT z0 z1))=some r->evD ctx 61 [(zW t0 Zp a),(zN b),(.d (D.fn 63 []))]=some (ZmP r):=
 evT ZFy rfl rfl <| yC ZgH fun x0 _=>
  yBr (yBr (yBr (yC ZnB fun x1 _=>
  yR)))
def Zuf (r:(Int×Int)):D:=(D.tup [(Zm r.1),(Zm r.2)])
theorem Znw {t0:Bool}{a:List Zf}{b:Int}:∀r,(ZhO a b)=some r->evD ctx 31 [(zW t0 Zp a),(zN b)]=some (Zuf r):=
 evT ZHw rfl rfl <| yC Zl8 fun x0 _=>
  yR
def ZmY (r:Bool):D:=(D.bool r)
def ZhK (t0:Bool) (a:List Zq) (b:Int) (c:Int) (x3:(Zan×Int)) (s5:Int×(List Int)) (x8:List Int):((List Int)⊕(List Int))->Ex×List V×Zl
  | (.inl r)=>(.ret,[(.d (D.list t0 (List.map (ZeE true) a))),(zN b),(zN c),(.d (D.bool false)),(.ptr 0 0),(.sl 1 1),(zN s5.1)],[(.cells [(zW true Zp x3.1.shapes),(.d (D.list true (List.map (Zcs true) x3.1.cores)))]),(zA r)])
  | (.inr r)=>(.exit 2,[(.d (D.list t0 (List.map (ZeE true) a))),(zN b),(zN c),.bad,(.ptr 0 0),(.sl 1 1),(zN s5.1)],[(.cells [(zW true Zp x3.1.shapes),(.d (D.list true (List.map (Zcs true) x3.1.cores)))]),(zA r)])
theorem Zlm {t0:Bool}{a:List Zq}{b c:Int}{x3:(Zan×Int)}{s5:Int×(List Int)}{x8:List Int}:∀(s9:Int×(List Int)) (r:((List Int)⊕(List Int))),lp (Zcl x3 s5 x8) s9=some r->lpW ctx 0 [0,1,2,7,9,10,12,13] [0,1,2,6,7,9,10] ZGo [(.d (D.list t0 (List.map (ZeE true) a))),(zN b),(zN c),(.ptr 0 0),(.sl 1 1),(zN s5.1),(zN (x8.length:Int)),(zN s9.1)] [(.cells [(zW true Zp x3.1.shapes),(.d (D.list true (List.map (Zcs true) x3.1.cores)))]),(zA s9.2)]=some ((ZhK t0 a b c x3 s5 x8) r):=
 lpT (ZhK t0 a b c x3 s5 x8) fun s9 _ ih=>yB (yG fun x10 hx10=>
  yG fun x11 hx11=>
  yC Znd fun x12 _=>
  yB (Zi rfl)
  (Ze (Z4 rfl hx10) (Ze (Z4 rfl hx11) (yT (ZcA (Zfi Zm s9.2 1) (Zh (Zfg Zm s9.2 [x11]) (Zd (ih _)))
  ZaW)))))
  (Zi rfl)
def ZhR (t0:Bool) (a:List Zq) (b:Int) (c:Int) (x3:(Zan×Int)):((List Int)⊕(List Int))->Ex×List V×Zl
  | (.inl r)=>(.ret,[(.d (D.list t0 (List.map (ZeE true) a))),(zN b),(zN c),(.d (D.bool false)),(.ptr 0 0),(.sl 1 1)],[(.cells [(zW true Zp x3.1.shapes),(.d (D.list true (List.map (Zcs true) x3.1.cores)))]),(zA r)])
  | (.inr r)=>(.exit 0,[(.d (D.list t0 (List.map (ZeE true) a))),(zN b),(zN c),.bad,(.ptr 0 0),(.sl 1 1)],[(.cells [(zW true Zp x3.1.shapes),(.d (D.list true (List.map (Zcs true) x3.1.cores)))]),(zA r)])
theorem Zk9 {t0:Bool}{a:List Zq}{b c:Int}{x3:(Zan×Int)}:∀(s5:Int×(List Int)) (r:((List Int)⊕(List Int))),lp (ZbG x3) s5=some r->lpW ctx 0 [0,1,2,7,9,10] [0,1,2,6,7,9] ZGN [(.d (D.list t0 (List.map (ZeE true) a))),(zN b),(zN c),(.ptr 0 0),(.sl 1 1),(zN s5.1)] [(.cells [(zW true Zp x3.1.shapes),(.d (D.list true (List.map (Zcs true) x3.1.cores)))]),(zA s5.2)]=some ((ZhR t0 a b c x3) r):=
 lpT (ZhR t0 a b c x3) fun s5 _ ih=>Zh (Zy _ _) (yB (Zh (Zy _ _) (yB (yG fun x6 _=>
  yC ZdW fun x7 _=>
  yB (yG fun x8 _=>
  Zh (Zy _ _) (yB (Zi rfl)
  (yB (Zi rfl)
  (yB (Zi rfl)
  (by
 conv=>rhs;whnf
 refine Zc _ (Zlm _) fun r13 _=>?_
 rcases r13 with r13 | r13
 exact Zi rfl
 exact Zd (ih _))))))
  (Zd (ih _)))
  (Zi rfl)))
  (Zi rfl))
def ZhN (t0:Bool) (a:List Zq) (b:Int) (c:Int) (x3:(Zan×Int)) (r14:List Int) (s15:Int) (x17:List Int):(List Zf)->Ex×List V×Zl
  | r=>(.exit 6,[(.d (D.list t0 (List.map (ZeE true) a))),(zN b),(zN c),(.ptr 0 0),(.sl 1 1),(zN s15),(zV true x17),(.sl 2 5)],[(.cells [(zW true Zp x3.1.shapes),(.d (D.list true (List.map (Zcs true) x3.1.cores)))]),(zA r14),(.arr 5 (List.map Zp r))])
theorem Zla {t0:Bool}{a:List Zq}{b c:Int}{x3:(Zan×Int)}{r14:List Int}{s15:Int}{x17:List Int}:∀(s18:Int×(List Zf)) (r:List Zf),lp (ZbF x3 x17) s18=some r->lpW ctx 0 [0,1,2,7,9,14,15,16,17] [0,1,2,7,9,14,15,16] ZGr [(.d (D.list t0 (List.map (ZeE true) a))),(zN b),(zN c),(.ptr 0 0),(.sl 1 1),(zN s15),(zV true x17),(.sl 2 5),(zN s18.1)] [(.cells [(zW true Zp x3.1.shapes),(.d (D.list true (List.map (Zcs true) x3.1.cores)))]),(zA r14),(.arr 5 (List.map Zp s18.2))]=some ((ZhN t0 a b c x3 r14 s15 x17) r):=
 lpT (ZhN t0 a b c x3 r14 s15 x17) fun s18 _ ih=>Zh (Zy _ _) (yB (yG fun x19 _=>
  yG fun x20 _=>
  yT (ZcA (Zfi Zp s18.2 1) (Zh (Zfg Zp s18.2 [x20]) (Zd (ih _)))
  ZaW))
  (Zi rfl))
def ZhM (t0:Bool) (a:List Zq) (b:Int) (c:Int) (x3:(Zan×Int)) (r14:List Int):(Unit⊕Unit)->Ex×List V×Zl
  | (.inl r)=>(.ret,[(.d (D.list t0 (List.map (ZeE true) a))),(zN b),(.d (D.bool false)),(.ptr 0 0)],[(.cells [(zW true Zp x3.1.shapes),(.d (D.list true (List.map (Zcs true) x3.1.cores)))])])
  | (.inr r)=>(.exit 4,[(.d (D.list t0 (List.map (ZeE true) a))),(zN b),.bad,(.ptr 0 0)],[(.cells [(zW true Zp x3.1.shapes),(.d (D.list true (List.map (Zcs true) x3.1.cores)))])])
theorem Zli {t0:Bool}{a:List Zq}{b c:Int}{x3:(Zan×Int)}{r14:List Int}:∀(s15:Int) (r:(Unit⊕Unit)),lp (Zcm b c x3 r14) s15=some r->lpW ctx 0 [0,1,2,7,9,14] [0,1,6,7] ZGO [(.d (D.list t0 (List.map (ZeE true) a))),(zN b),(zN c),(.ptr 0 0),(.sl 1 1),(zN s15)] [(.cells [(zW true Zp x3.1.shapes),(.d (D.list true (List.map (Zcs true) x3.1.cores)))]),(zA r14)]=some ((ZhM t0 a b c x3 r14) r):=
 lpT (ZhM t0 a b c x3 r14) fun s15 _ ih=>yB (Zc _ ZmJ fun x16 _=>
  yC Zqz fun x17 _=>
  Zc _ (Zla _) fun r21 _=>
  Zh (Zy _ _) (yB (yC Znd fun x22 _=>
  yB (Zi rfl)
  (yB (yB (yC ZmA fun x23 _=>
  yC Znw fun x24 _=>
  yB (Zi rfl)
  (yB (Zi rfl)
  (yB (yB (Zi rfl)
  (Zd (ih _)))
  (Zd (ih _)))))
  (Zd (ih _)))
  (Zd (ih _))))
  (yB (yB (yC ZmA fun x25 _=>
  yC Znw fun x26 _=>
  yB (Zi rfl)
  (yB (Zi rfl)
  (yB (yB (Zi rfl)
  (Zd (ih _)))
  (Zd (ih _)))))
  (Zd (ih _)))
  (Zd (ih _)))))
  (Zi rfl)
theorem ZmN {t0:Bool}{a:List Zq}{b c:Int}:∀r,(ZhD a b c)=some r->evD ctx 8 [(.d (D.list t0 (List.map (ZeE true) a))),(zN b),(zN c)]=some (ZmY r):=
 evT fn8 rfl rfl <| yC Zio fun x0 _=>
  yB (yC Zt8 fun x1 _=>
  yB (Zc _ ZsA fun x2 _=>
  yC ZqH fun x3 _=>
  yB (yC ZrU fun x4 _=>
  yBr yR)
  (by
 conv=>rhs;whnf
 refine Zc _ (Zk9 _) fun r14 _=>?_
 rcases r14 with r14 | r14
 exact yR
 exact(by
 conv=>rhs;whnf
 refine Zc _ (Zli _) fun r27 _=>?_
 rcases r27 with r27 | r27
 exact yR
 exact Zc _ ZmJ fun x28 _=>
  yC ZqA fun x29 _=>
  yB (Zh (Zy _ _) (Zh (Zy _ _) (yB (Zh (Zy _ _) (Zh (Zy _ _) (yBr yR)))
  yR)))
  yR)))
  (yC Zio fun x30 _=>
  yBr yR))
  (yC Zio fun x31 _=>
  yBr yR)
abbrev Zul:List Lf×Bool:=([.int .i64],false)
abbrev Zyo:List Lf×Bool:=([.sl true [.int .i64,.int .i64,.sl true [.int .i64,.int .i64,.int .i64],.sl true [.int .i64,.int .i64],.sl true [.int .i64,.int .i64,.int .i64],.sl true [.sl false [.int .i64],.sl false [.int .i64]]]],false)
theorem Zy2:Zjx Zrd (Zan.mk ([]:List Zf) ([]:List (List Int)))=some true:=by
 have e1:ZhZ ([]:List Zf) []=some true:=by
  unfold ZhZ
  rw[show(((([]:List Zf).length:Nat):Int) != ((([]:List Zf).length:Nat):Int))=false from bne_self_eq_false _,cond_false,Zaj]
  rfl
 have e2:lp (Zjd Zrd (Zan.mk ([]:List Zf) ([]:List (List Int)))) 0=some (.inr ()):=by
  rw[Zaj];rfl
 unfold Zjx
 rw[show ZhZ Zrd.shapes (Zan.mk ([]:List Zf) ([]:List (List Int))).shapes=some true from e1,Option.bind_some,cond_true,show(((Zrd.cores.length:Nat):Int) != (((Zan.mk ([]:List Zf) ([]:List (List Int))).cores.length:Nat):Int))=false from bne_self_eq_false _,cond_false,e2]
 rfl
theorem Zy0 (k:Nat):Zbk 0 (k+1)=Zbk 0 k++[(k:Int)]:=by
 rw[ZnI k 0 1,Nat.zero_add];rfl
theorem ZxB {x3:Zan×Int}{st:Int×List Int}{row:List Int}{k n:Nat} (hi:Zz x3.1.cores st.1=some row) (hr:row=Zbk k n) (hn:k+n<=1000):lp (Zcl x3 st row) (0,Zbk 0 k)=some (.inr (Zbk 0 (k+n))):=by
 have hl:row.length=n:=by rw[hr,ZeU]
 have:=ZgO row (Zcl x3 st row) (fun j m=>((j:Int),m)) (fun _ m x=>m++[x]) (fun m=>.inr m) (fun j m=>m=Zbk 0 (k+j)) (fun j x m hj hx hI=>by
   have hg:=hx
   rw[hr] at hg
   obtain⟨e,hjn⟩:=ZnL n k j x hg
   have hml:m.length<=1000:=by rw[hI,ZeU];omega
   have hhas:ZgX m x=some false:=by
    rw[ZAa m x (by omega),hI,ZnJ x (k+j) 0,decide_eq_false (by omega)]
   refine⟨?_,?_⟩
   ·simp only[Zcl,ZcG hj,cond_true,hi,ZU hx,Option.bind_some,hhas,cond_false,ZgB (show m.length+1<=1073741824 by omega),ZJ hj (show row.length<9223372036854775808 by omega)]
   ·rw[<- Nat.add_assoc,Zy0,hI,e]) (fun m _=>by simp only[Zcl,Zdn,cond_false]) (Zbk 0 k) rfl
 obtain⟨h1,h2⟩:=this
 rw[hl] at h2
 rw[<- h2]
 exact h1
theorem ZBW {z:Zf} (h:(ZbP z).2=0) (hz:hv z=true):z.long<z.deadline/\(cN z:Int)=upN z/\1<=upN z/\upN z<=8/\Zg7 z:=by
 have hz2:=hz
 unfold hv at hz
 have hok:=(Zhp h).1
 have c1:=(Zhp h).2.1
 have c8:=(Zhp h).2.2.1
 have he:(ZbP z).1=upN z/\z.long<z.deadline:=by
  unfold ZbP at h ⊢
  rw[hok,cond_true,hz,cond_true] at h ⊢
  by_cases q:z.deadline<=z.long
  ·rw[decide_eq_true q] at h;exact absurd (show(141:Int)=0 from h) (by decide)
  ·rw[decide_eq_false q,cond_false] at h ⊢
   by_cases q3:8<upN z
   ·rw[decide_eq_true q3] at h;exact absurd (show(142:Int)=0 from h) (by decide)
   ·rw[decide_eq_false q3];exact⟨rfl,by omega⟩
 refine⟨he.2,?_,by omega,by omega,ZlV hok⟩
 unfold cN
 rw[Int.toNat_of_nonneg (by omega)]
 exact he.1
theorem ZBe (s:List Zf) (x3:Zan×Int) (hs:x3.1.shapes=s) (x17:List Int) (w:List Zf) (hl:x17.length<=1000) (h:x17.map (fun x=>Zz s x)=w.map some):lp (ZbF x3 x17) (0,([]:List Zf))=some w:=by
 have hwl:x17.length=w.length:=by have:=congrArg List.length h;simpa using this
 have:=ZgO x17 (ZbF x3 x17) (fun j m=>((j:Int),m)) (fun j _ _=>w.take (j+1)) id (fun j m=>m=w.take j) (fun j x m hj hx hI=>by
   have hml:m.length<=1000:=by rw[hI,List.length_take];omega
   have hg:w[j]? = some w[j]:=List.getElem?_eq_getElem (by omega)
   have hv:Zz s x=some w[j]:=by
    have e1:(x17.map fun x=>Zz s x)[j]? = some (Zz s x):=by rw[List.getElem?_map,hx];rfl
    rw[h,List.getElem?_map,hg] at e1
    exact(Option.some.inj e1).symm
   have ht:w.take (j+1)=m++[w[j]]:=by rw[List.take_add_one,hg,hI];rfl
   refine⟨?_,rfl⟩
   simp only[ZbF,ZcG hj,cond_true,ZU hx,hs,hv,Option.bind_some,ZgB (show m.length+1<=1073741824 by omega),ZJ hj (show x17.length<9223372036854775808 by omega),ht]) (fun m _=>by simp only[ZbF,Zdn,cond_false];rfl) [] (by simp)
 obtain⟨h1,h2⟩:=this
 rw[hwl,List.take_length] at h2
 rw[show lp (ZbF x3 x17) (0,([]:List Zf))=_ from h1,h2]
 rfl
theorem ZBP {l:List Zf} (h:ZsZ l) {t:Int} (h1:1<=t) (h2:t<=1099511627775):Zhb l t=some (dem t l,0)/\ZhO l t=some (blk t l,0):=by
 have hl:=(Ze5 h.1).1
 have hat:∀f:List Zf->Int->Option Int,Zl2 l t f=(f l t).bind fun x=>some (x,0):=fun f=>by
  unfold Zl2
  rw[ZAp l (by omega),h.1]
  simp only[Option.bind_some,cond_true,Zrn,cond_false]
  rw[decide_eq_false (show ¬t<0 by omega),decide_eq_false (show ¬1099511627775<t by omega)]
  rfl
 constructor
 ·unfold Zhb
  rw[hat,Zzj l h.1 t h1 h2]
  rfl
 ·unfold ZhO
  rw[hat,ZzV l h.1 t]
  rfl
theorem Zs7 (l:List Zq) (b c:Int):ZhD l b c=some true:=by
 unfold ZhD
 simp only[Zht,Option.bind_some,cond_true]
 obtain⟨f,f1,f2⟩:=ZIN l
 rw[f1,Option.bind_some]
 cases f with
 | false=>rfl
 | true=>
  obtain⟨hl,hz⟩:=f2 rfl
  have hl':l.length<=1000:=by omega
  simp only[cond_true,ZIx hl' hz,Option.bind_some,ZFC hl' hz]
  by_cases hne:(Zns l b).2=0
  ·obtain⟨h8,b1,b8,he,p,hp,hF⟩:=Zxa hne
   have ok:=ZCN he
   have hsl:(shL l).length<=8:=by unfold shL;rw[List.length_map];exact h8
   have hbn:((b.toNat:Nat):Int)=b:=Int.toNat_of_nonneg (by omega)
   obtain⟨a,P⟩:=ZGb ok hsl (by omega) hp
   have hlen:(shL l).length=l.length:=by unfold shL;rw[List.length_map]
   rw[hF,Zrn,cond_false]
   generalize shL l=s at hp ok hsl P hlen
   have hul:Z1 s<=8:=by have:=P.used;omega
   have hzl:(s.zip p.cores).length=s.length:=by rw[List.length_zip,P.len];omega
   have loop1:lp (ZbG (p,0)) (0,([]:List Int))=some (.inr (Zbk 0 (Z1 s))):=by
    have:=ZgO (s.zip p.cores) (ZbG (p,0)) (fun i m=>((i:Int),m)) (fun i _ _=>Zbk 0 (Z1 (s.take (i+1)))) (fun m=>.inr m) (fun i m=>m=Zbk 0 (Z1 (s.take i))) (fun i z m hi hx hI=>by
      obtain⟨g1,g2⟩:=Zth hx
      have hm:=List.mem_of_getElem? g1
      have hok:=ok z.1 hm
      have ht:s.take (i+1)=s.take i++[z.1]:=by rw[List.take_add_one,g1];rfl
      have hu:Z1 (s.take (i+1))=Z1 (s.take i)+(bif hv z.1 then cN z.1 else 0):=by
       rw[ht,ZnM,Zft];simp[Z1]
      have hs1:i<s.length:=by rw[<- hzl];exact hi
      refine⟨?_,rfl⟩
      simp only[ZbG,P.sh,ZcG hs1,ZcG (show i<p.cores.length by rw[P.len];exact hs1),cond_true,ZU g1,ZU g2,Option.bind_some,ok.heavy hm,ZJ hs1 (show s.length<9223372036854775808 by omega)]
      cases hh:hv z.1 with
      | false=>
       have hu2:Z1 (s.take (i+1))=Z1 (s.take i):=by rw[hh] at hu;simpa using hu
       rw[hu2,<- hI]
       rfl
      | true=>
       have hu:Z1 (s.take (i+1))=Z1 (s.take i)+cN z.1:=by rw[hh] at hu;simpa using hu
       have hrow:=ZyS (Z1 s:Int) s 0 a P.al i z (by rw[<- P.zip];exact hx) hh
       rw[Nat.zero_add] at hrow
       obtain⟨r1,r2,r3,r4,o⟩:=ZBW hok hh
       have hrl:z.2.length=cN z.1:=by rw[hrow,ZeU]
       have:=o.l1;have:=o.l2;have:=o.t2;have:=o.d2;have:=o.p
       have u1:=(ZyG r1 (upN z.1)).1 (Int.le_refl _)
       have u2:¬z.1.total-z.1.long<=(upN z.1-1)*(z.1.deadline-z.1.long):=fun e=>by have:=(ZyG r1 (upN z.1-1)).2 e;omega
       have m1:upN z.1*(z.1.deadline-z.1.long)<=8*4096:=Int.mul_le_mul r4 (by omega) (by omega) (by omega)
       have m0:0<=upN z.1*(z.1.deadline-z.1.long):=Int.mul_nonneg (by omega) (by omega)
       have m2:(upN z.1-1)*(z.1.deadline-z.1.long)=upN z.1*(z.1.deadline-z.1.long)-(z.1.deadline-z.1.long):=by rw[Int.sub_mul,Int.one_mul]
       rw[cond_true,decide_eq_false (show ¬z.1.deadline<=z.1.long by omega),cond_false,hrl,r2]
       have w1:w64 (z.1.deadline-z.1.long)=z.1.deadline-z.1.long:=Zac (by omega) (by omega)
       have w2:w64 (z.1.total-z.1.long)=z.1.total-z.1.long:=Zac (by omega) (by omega)
       have w3:w64 (upN z.1-1)=upN z.1-1:=Zac (by omega) (by omega)
       have w4:w64 (upN z.1*(z.1.deadline-z.1.long))=upN z.1*(z.1.deadline-z.1.long):=Zac (by omega) (by omega)
       have w5:w64 ((upN z.1-1)*(z.1.deadline-z.1.long))=(upN z.1-1)*(z.1.deadline-z.1.long):=Zac (by omega) (by omega)
       rw[w1,w2,w3,w4,w5,decide_eq_false (by omega),decide_eq_false (show ¬z.1.total-z.1.long<=(upN z.1-1)*(z.1.deadline-z.1.long) from u2),cond_false,cond_false]
       have husd:Z1 (s.take i)+cN z.1<=1000:=by
        have e:Z1 s=Z1 (s.take (i+1))+Z1 (s.drop (i+1)):=by rw[<- ZnM,List.take_append_drop]
        omega
       have F:=ZxB (x3:=(p,0)) (st:=((i:Int),m)) (row:=z.2) (k:=Z1 (s.take i)) (n:=cN z.1) (ZU g2) hrow husd
       rw[hI]
       rw[hI] at F
       rw[F,hu]
       rfl) (fun m _=>by rw[hzl];simp only[ZbG,P.sh,Zdn,cond_false]) [] (by simp[Z1,Zbk])
    obtain⟨k1,k2⟩:=this
    rw[hzl,List.take_length] at k2
    rw[show lp (ZbG (p,0)) (0,([]:List Int))=_ from k1,k2]
   rw[loop1,Option.bind_some]
   dsimp only
   have loop3:∀(k i:Nat),i+k=b.toNat->lp (Zcm b c (p,0) (Zbk 0 (Z1 s))) (i:Int)=some (.inr ()):=by
    intro k
    induction k with
    | zero=>
     intro i hi
     rw[Zaj]
     simp only[Zcm,decide_eq_false (show ¬(i:Int)<b by omega),cond_false]
    | succ k ih=>
     intro i hi
     have hn:=ih (i+1) (by omega)
     have hw:w64 ((i:Int)+1)=((i+1:Nat):Int):=by rw[Zac (by omega) (by omega)];omega
     have hlp:=Zva p (by rw[P.sh];omega) (by rw[P.len];omega) P.row
     have hlight:=ZFa s p.cores (i:Int) (by omega) P.row
     obtain⟨_,o2⟩:=Zyp (Z1 s:Int) (i:Int) s 0 a P.al ok
     rw[<- P.zip] at o2
     have F:=P.fit (i:Int) (by omega) (by omega)
     have hsh:=Zt2 (i:Int) s (s.zip p.cores) 0 (fun j z hz=>by rw[Nat.zero_add];exact(Zth hz).1)
     have hll:=Zz3 (i:Int) (s.zip p.cores) 0
     have hat:=ZBe s (p,0) P.sh _ _ (by omega) hsh
     have hlen2:(liL (i:Int) 0 (s.zip p.cores)).length=(Zoo (i:Int) (s.zip p.cores)).length:=by have:=congrArg List.length hsh;simpa using this
     rw[<- o2] at F
     have hx:0<(liL (i:Int) 0 (s.zip p.cores)).length->ZgX (Zbk 0 (Z1 s)) (i:Int)=some false:=fun h0=>by
      rw[ZAa _ _ (by rw[ZeU];omega),ZnJ,decide_eq_false]
      intro q
      rw[hlen2,o2,Zwp _ _ _ fun x hx=>by have:=P.rng x hx;omega] at h0
      exact absurd h0 (by simp)
     have tail:(bif decide (1<=c) then bif decide (c<=1099511627775) then (Zhb (Zoo (i:Int) (s.zip p.cores)) c).bind fun x23=>(ZhO (Zoo (i:Int) (s.zip p.cores)) c).bind fun x24=>bif (x23.2 != 0) then some (Sum.inr (.inl ())) else bif (x24.2 != 0) then some (.inr (.inl ())) else bif (decide (0<x23.1)) then bif (decide (c<(w64 (x23.1+x24.1)))) then some (.inr (.inl ())) else some (.inl ((i+1:Nat):Int)) else some (.inl ((i+1:Nat):Int)) else some (.inl ((i+1:Nat):Int)) else some (.inl ((i+1:Nat):Int)):Option (Int⊕(Unit⊕Unit)))=some (.inl ((i+1:Nat):Int)):=by
      by_cases c1:1<=c
      ·by_cases c2:c<=1099511627775
       ·rw[decide_eq_true c1,decide_eq_true c2,cond_true,cond_true]
        obtain⟨d1,d2⟩:=ZBP F c1 c2
        rw[d1,d2]
        simp only[Option.bind_some,Zrn,cond_false]
        by_cases hd:0<dem c (Zoo (i:Int) (s.zip p.cores))
        ·have he:=ZBI F c1 hd
         have hb:=(Zpy (Int.le_refl c) (l:=Zoo (i:Int) (s.zip p.cores)) fun s hs=>((Ze5 F.1).2 s hs).1).2
         rw[decide_eq_true hd,cond_true,Zac (by omega) (by omega),decide_eq_false (by omega),cond_false]
        ·rw[decide_eq_false hd,cond_false]
       ·rw[decide_eq_true c1,decide_eq_false c2,cond_true,cond_false]
      ·rw[decide_eq_false c1,cond_false]
     rw[Zaj]
     simp only[Zcm,decide_eq_true (show(i:Int)<b by omega),cond_true,hlp,Option.bind_some,P.sh,hlight,hat,hw]
     by_cases h0:0<(liL (i:Int) 0 (s.zip p.cores)).length
     ·rw[decide_eq_true (show(0:Int)<((liL (i:Int) 0 (s.zip p.cores)).length:Int) by omega),cond_true,hx h0,Option.bind_some,cond_false,tail]
      exact hn
     ·rw[decide_eq_false (show ¬(0:Int)<((liL (i:Int) 0 (s.zip p.cores)).length:Int) by omega),cond_false,tail]
      exact hn
   rw[show lp (Zcm b c (p,0) (Zbk 0 (Z1 s))) 0=_ from loop3 b.toNat 0 (by omega)]
   have hR:=Zw8 ok hsl (b:=b.toNat) (by omega) (by omega) P
   rw[hbn] at hR
   simp only[Option.bind_some,Zva p (show p.shapes.length<=1000 by rw[P.sh];omega) (show p.cores.length<=1000 by rw[P.len];omega) P.row,P.sh,P.len,hR,cond_true,hlen,beq_self_eq_true]
  ·rw[ZFl hne,cond_true]
   have:(Zns l b).1=Zrd:=by
    unfold Zns at hne ⊢
    revert hne
    cases (decide (8<(l.length:Int)) || (decide (b<1) || decide (8<b))) with
    | true=>exact fun _=>rfl
    | false=>
     cases shE l==0 with
     | false=>exact fun _=>rfl
     | true=>
      cases Zmk (shL l) b.toNat with
      | none=>exact fun _=>rfl
      | some p=>exact fun hne=>absurd rfl hne
   rw[this,Zy2]
   rfl
theorem ZuA (xs:List D) (h:Zik Zyo.1 xs) (ys:List D) (k:Zik Zul.1 ys) (zs:List D) (m:Zik Zul.1 zs):∃H',evW ctx 8 (ZcZ [Ztg Zyo.2 xs,Ztg Zul.2 ys,Ztg Zul.2 zs]) []=some (.d (.bool true),H'):=by
 obtain⟨x,r,rfl,h1,rfl⟩:=h
 obtain⟨l,rfl⟩:=ZCk h1
 obtain⟨n,hn,okn⟩:=ZDW k
 obtain⟨n2,hn2,okn2⟩:=ZDW m
 show ∃H',evW ctx 8 [.d (.list true (l.map (ZeE true))),.d (Ztg false ys),.d (Ztg false zs)] []=_
 rw[hn,hn2]
 exact ZEQ (ZmN true (Zs7 l n n2))
end Go.Proofs.YtmnglncebfabpaaGreatDoor
namespace Go.Proofs.YtmnglncebfabpaaGreatDoor.LawAdmitSound
open Go.ChangeShapes Go.WideShapes Go.ChangeAt Go.RowKit Go.Proofs.YtmnglncebfabpaaGreatDoorE
theorem own:ownKnob Tryz.prog.godebug=none:=by kernel_rfl
theorem Zwu:laidOutB Tryz.prog=true:=by kernel_rfl
def Zt5 : List (String × DataW Unit) := [("math/bits.deBruijn32tab", Rows.laid_math_bits_deBruijn32tab), ("math/bits.deBruijn64tab", Rows.laid_math_bits_deBruijn64tab)]
theorem ZEv (os:Os) (args:Array Value):laidMetH Tryz.prog Zt5 ((World.doorLaid Tryz.prog 19 os).forCall (fun _ _=>0) ⟨#[],args,[]⟩).memory:=
 laidMetH_of_parts3 (fuel:=8) (laidMet_of_run' 8 (by kernel_rfl) (by kernel_rfl)) (by kernel_rfl) (by kernel_rfl)
theorem ZCJ {W:World} (h:laidMetH Tryz.prog Zt5 W):GOK ZlC R0 W:=by
 intro g l hg
 unfold ZlC at hg
 split at hg
 ·cases hg
  exact Ztz (t := 175) (N := 32) (e := 5) (k := .u8) h (by kernel_rfl) (n := "math/bits.deBruijn32tab") (by rw [show DataW.agg (ZoN ZGF) = Rows.laid_math_bits_deBruijn32tab by kernel_rfl]; simp [Zt5]) (by kernel_rfl) (by kernel_rfl) (by kernel_rfl) (by kernel_rfl) (by kernel_rfl) (by kernel_rfl) (by decide)
 ·cases hg
  exact Ztz (t := 176) (N := 64) (e := 5) (k := .u8) h (by kernel_rfl) (n := "math/bits.deBruijn64tab") (by rw [show DataW.agg (ZoN ZGp) = Rows.laid_math_bits_deBruijn64tab by kernel_rfl]; simp [Zt5]) (by kernel_rfl) (by kernel_rfl) (by kernel_rfl) (by kernel_rfl) (by kernel_rfl) (by kernel_rfl) (by decide)
 ·cases hg
theorem ZHT (os:Os) (started:os.Started) (H:Type) (enc:TypeId×Value->H) :
  ReturnsInHanded {} Tryz.checked os 8 .any (fun w args=>(Rows.admitSoundSpec.pre enc Tryz.prog Tryz.f8 [] false w args/\laidMetH Tryz.prog Zt5 w)/\sizedMet enc Tryz.prog Tryz.f8 (OpenSpec.ofChange Rows.admitSoundSpec) false w args) (Rows.admitSoundSpec.post enc Tryz.prog Tryz.f8 false true false false):=by
 refine returnsInHanded_of_change_and (C:=Tryz.checked) (X:=fun w _=>laidMetH Tryz.prog Zt5 w) (fun _ _ _ hh h=>h.of_heap hh) own started (by kernel_rfl) Tryz.func8
  (ChangeSpec.witness_shaped (enc:=enc) (C:=Tryz.checked) (os:=os) (X:=fun w _=>laidMetH Tryz.prog Zt5 w) false (World.doorLaid Tryz.prog 19 os) #[.slice none 0 0,.int .i64 0,.int .i64 0] 8 rfl (World.shaped_of_RefB (by kernel_rfl) (by kernel_rfl)) (by kernel_rfl) (by kernel_rfl) (by kernel_rfl) (ZEv os _)) ?_
 intro W base args ds gs before hval0 hW _ _ hL _
 have hval:∀(j:Nat) t v,Tryz.f8.params[j]? = some t->args[j]? = some v->Value.okWide Tryz.prog W .any base t v:=hval0
 have hW':=hW
 obtain⟨p,q,hA0,hV,rfl,hfz,hnd⟩:=hW
 have hA:DataW.TrodAll enc Tryz.prog W 0 (fun _=>true) true Tryz.f8.params.toList args.toList ds p:=hA0
 rw[Tryz.params8] at hA hval
 obtain⟨v0,vs0,d0,ds0,p0,q0,hargs,rfl,rfl,h0,r0⟩:=trodAll_cons hA
 obtain⟨v1,vs1,d1,ds1,p1,q1,rfl,rfl,rfl,h1,r1⟩:=trodAll_cons r0
 obtain⟨v2,vs2,d2,ds2,p2,q2,rfl,rfl,rfl,h2,r2⟩:=trodAll_cons r1
 obtain⟨rfl,rfl,rfl⟩:=trodAll_nil r2
 obtain rfl:args = #[v0,v1,v2]:=by cases args;simp_all
 obtain⟨rfl,rfl⟩:=trodVars_none hV
 have lt0:∀x∈p0,x.block<W.heap.size:=by obtain⟨m,hm⟩:=h0;exact DataW.trod_lt m _ _ _ hm
 obtain⟨x0,ok0,den0⟩:=ZyV (P:=Tryz.prog) (n:=8) (t:=22) (l:=Zyo.1) (ag:=Zyo.2) (by kernel_rfl) (hval 0 22 v0 rfl rfl) h0
 have lt1:∀x∈p1,x.block<W.heap.size:=by obtain⟨m,hm⟩:=h1;exact DataW.trod_lt m _ _ _ hm
 obtain⟨x1,ok1,den1⟩:=ZyV (P:=Tryz.prog) (n:=8) (t:=3) (l:=Zul.1) (ag:=Zul.2) (by kernel_rfl) (hval 1 3 v1 rfl rfl) h1
 have lt2:∀x∈p2,x.block<W.heap.size:=by obtain⟨m,hm⟩:=h2;exact DataW.trod_lt m _ _ _ hm
 obtain⟨x2,ok2,den2⟩:=ZyV (P:=Tryz.prog) (n:=8) (t:=3) (l:=Zul.1) (ag:=Zul.2) (by kernel_rfl) (hval 2 3 v2 rfl rfl) h2
 obtain⟨H1,ev⟩:=ZuA x0 ok0 x1 ok1 x2 ok2
 have den:ZaY All All All W [Ztg Zyo.2 x0,Ztg Zul.2 x1,Ztg Zul.2 x2] [v0,v1,v2]:=⟨_,_,rfl,den0,⟨_,_,rfl,den1,⟨_,_,rfl,den2,rfl⟩⟩⟩
 refine(ZBB ZJp (ZCJ hL) den ev).mono fun e W' ⟨he,bel⟩=>?_
 subst he
 exact⟨_,rfl,_,_,_,[],_,[],hW',trodAll_mk1 (shut_bool Tryz.underlying4 _),(trodAll_cons_mk (Below.trod Zwu (by kernel_rfl) (of_decide_eq_true (by kernel_rfl)) h0 bel lt0) (trodAll_cons_mk (Below.trod Zwu (by kernel_rfl) (of_decide_eq_true (by kernel_rfl)) h1 bel lt1) (trodAll_cons_mk (Below.trod Zwu (by kernel_rfl) (of_decide_eq_true (by kernel_rfl)) h2 bel lt2) trodAll_mk0))),rfl,bel.frame _,fun h=>by cases h⟩
theorem over:Rows.admitSoundRow.holds Tryz.pinned (OpenSpec.ofChange Rows.admitSoundSpec):=
 OpenClaim.holds_of_wide 8 Tryz.f8 rfl rfl rfl rfl rfl rfl rfl ⟨rfl,rfl,rfl,rfl,rfl⟩ rfl rfl rfl rfl rfl (by kernel_rfl) Tryz.func8 (by kernel_rfl)
  (of_decide_eq_true (by kernel_rfl)) (by unfold Func.isWrapper;first | (rw[if_pos (by decide +kernel)];kernel_rfl) | (rw[if_neg (by decide +kernel)];exact⟨rfl,rfl⟩))
  (fun os started H enc _=>ZHT os started H enc)
theorem proved:Rows.AdmitSoundSaid:=over
theorem carded:Rows.AdmitSoundCardSaid:=
 Claim7.holds_tied_plain_at .later [] [.data, .data] true (true, "5993bbbb36cd418e27731508b4ad0539b37fc49c272e06c4f0b99c3df5968dc5") false
  proved (fun _ h=>by cases h) (by kernel_rfl) (fun _ h=>by cases h) admitSound_row_tie rfl ⟨rfl,rfl⟩ (by kernel_rfl) rfl
  (fun f fn hf hfn=>by
   obtain rfl : f = 8 := Option.some.inj ((show Tryz.prog.funcNamed "trefoil/trefoillaw17.AdmitSound" = some 8 by kernel_rfl).symm.trans hf) |>.symm
   obtain rfl:fn=Tryz.f8:=(Option.some.inj (Tryz.func8.symm.trans hfn)).symm
   exact⟨by kernel_rfl,fun j t ht=>by
    rw[Tryz.params8] at ht
    have hm:t∈[22,3,3]:=by simpa using Array.mem_of_getElem? ht
    have hall:([22,3,3].all fun u=>!Tryz.prog.wantsStandIn u)=true:=by kernel_rfl
    exact(show Tryz.prog.wantsStandIn t=false by simpa using List.all_eq_true.1 hall t hm)⟩)
  (by kernel_rfl)
end Go.Proofs.YtmnglncebfabpaaGreatDoor.LawAdmitSound
namespace Go.Proofs.YtmnglncebfabpaaGreatDoor
theorem admitSound_holds:Rows.AdmitSoundCardSaid:=LawAdmitSound.carded
#print axioms admitSound_holds
end Go.Proofs.YtmnglncebfabpaaGreatDoor
