/- DescFeeds: part 4 of 4 of the proof: the row and the card of the law, out of what the evaluator says of it; without conditions. -/
import Derived.Test.YtnpidpcmpleiaaaDoorZDescFeedsc
import Derived.KernelRfl
import Derived.Test.YtnpidpcmpleiaaaDoorRows
import Derived.Test.YtnpidpcmpleiaaaDoorCards
import Derived.Test.YtnpidpcmpleiaaaDoorTie
import Derived.WalkKit
import Derived.ProofKit
import Derived.OpenShut
import Derived.ShutString
import Derived.ChangeOld
import Derived.Below
import Derived.SizedLaws
import Derived.Handed
import Derived.LaidMore
import Derived.Stop.Joined
import Derived.ChangeShapes
import Derived.Carry
import Derived.SevenTiedAt
set_option maxRecDepth 100000
set_option maxHeartbeats 40000000
namespace Go.Proofs.YtnpidpcmpleiaaaDoor
open Go Go.Proofs.YtnpidpcmpleiaaaDoorE Go.Sort
set_option linter.unusedVariables false
set_option linter.unusedSimpArgs false
def ZlD:Hint→Int
 | .unknown=>0
 | .increasing=>1
 | .decreasing=>2
theorem ZrA (p:Int×Int) (n:Nat) (x:Int) (h:p.2=(n:Int)) (hx:p.1=x):(bif p.2==0 then some (p.1,(1:Int)) else bif p.2==12 then some (p.1,2) else some (p.1,0))=some (x,ZlD (if n=0 then Hint.increasing else if n=12 then .decreasing else .unknown)):=by
 rw[h,hx]
 by_cases h0:n=0
 ·subst h0;rfl
 ·by_cases h1:n=12
  ·subst h1;rfl
  ·rw[show((n:Int)==0)=false by simpa using h0,show((n:Int)==12)=false by simp;omega,if_neg h0,if_neg h1]
   rfl
section
variable {cmp:Int→Int→Option Int} {c:Int→Int→Int} {P:Int→Prop} (hc:Znj cmp c P)
include hc
theorem ZsW:∀(j:Nat) (d:Array Int),OKA P d→j<d.size→lp (ZJ cmp) ((j:Int),d.toList)=some (shiftDown (ltC c) j d).toList∧OKA P (shiftDown (ltC c) j d)∧(shiftDown (ltC c) j d).size=d.size
 | 0,d,hd,hj=>by
  rw[Zb9]
  simp only[ZJ,decide_eq_false (show ¬((1:Int)≤((0:Nat):Int)) by omega),cond_false]
  exact⟨rfl,hd,rfl⟩
 | j+1,d,hd,hj=>by
  have hj':j<d.size:=by omega
  have hz:=hd.sz
  rw[Zb9]
  have e2:w64 (((j+1:Nat):Int)-1)=(j:Int):=Zag (by omega) (by omega)
  have e3:=hc _ _ (hd.el (j+1) hj) (hd.el j hj')
  unfold shiftDown
  by_cases h2:c d[j+1]! d[j]! < 0
  ·obtain⟨y,e5⟩:=ZhC (i:=j+1) (x:=d[j]!) hj'
   simp only[ZJ,decide_eq_true (show(1:Int)≤((j+1:Nat):Int) by omega),cond_true,Zbi hj,e2,Zbi hj',Option.bind_some,e3,decide_eq_true h2,Int.toNat_natCast,e5,Ze5]
   rw[if_neg (by simp[h2,ltC])]
   have ih:=ZsW j (swp d (j+1) j) (hd.swp hj hj') (by rw[Z3];omega)
   rw[Z3] at ih
   exact ih
  ·simp only[ZJ,decide_eq_true (show(1:Int)≤((j+1:Nat):Int) by omega),cond_true,Zbi hj,e2,Zbi hj',Option.bind_some,e3,decide_eq_false h2,cond_false]
   rw[if_pos (by simp[h2,ltC])]
   exact⟨rfl,hd,rfl⟩
theorem ZsX (b:Nat):∀(k j:Nat) (d:Array Int),b-j≤k→1≤j→b≤d.size→OKA P d→lp (Zz (b:Int) cmp) ((j:Int),d.toList)=some (shiftUp (ltC c) b j d).toList∧OKA P (shiftUp (ltC c) b j d)∧(shiftUp (ltC c) b j d).size=d.size:=by
 intro k
 induction k with
 | zero=>
  intro j d hk hj hb hd
  rw[Zb9]
  unfold shiftUp
  simp only[Zz,Zew,decide_eq_false (show ¬j<b by omega),cond_false]
  rw[if_neg (by omega)]
  exact⟨rfl,hd,rfl⟩
 | succ k ih=>
  intro j d hk hj hb hd
  have hz:=hd.sz
  rw[Zb9]
  unfold shiftUp
  by_cases h1:j<b
  ·have i1:j<d.size:=by omega
   have i2:j-1<d.size:=by omega
   have e2:w64 ((j:Int)-1)=((j-1:Nat):Int):=Zag (by omega) (by omega)
   have e3:=hc _ _ (hd.el j i1) (hd.el (j-1) i2)
   rw[if_pos h1]
   by_cases h2:c d[j]! d[j-1]! < 0
   ·obtain⟨y,e5⟩:=ZhC (i:=j) (x:=d[j-1]!) i2
    simp only[Zz,Zew,decide_eq_true h1,cond_true,Zbi i1,e2,Zbi i2,Option.bind_some,e3,decide_eq_true h2,Int.toNat_natCast,e5,Ze5,Zae h1 (by omega)]
    rw[if_neg (by simp[h2,ltC])]
    have:=ih (j+1) (swp d j (j-1)) (by omega) (by omega) (by rw[Z3];exact hb) (hd.swp i1 i2)
    rw[Z3] at this
    exact this
   ·simp only[Zz,Zew,decide_eq_true h1,cond_true,Zbi i1,e2,Zbi i2,Option.bind_some,e3,decide_eq_false h2,cond_false]
    rw[if_pos (by simp[h2,ltC])]
    exact⟨rfl,hd,rfl⟩
  ·simp only[Zz,Zew,decide_eq_false h1,cond_false]
   rw[if_neg h1]
   exact⟨rfl,hd,rfl⟩
theorem Zqg (b:Nat) (z:Int) (d:Array Int) (hb:b≤d.size) (hd:OKA P d) (y1 y2:Int):∀(k i:Nat),b-i≤k→1≤i→i≤b→lp (ZB (b:Int) cmp (y1,y2,d.toList)) (i:Int)=some ((scanSorted (ltC c) d b i:Nat):Int)∧i≤scanSorted (ltC c) d b i∧scanSorted (ltC c) d b i≤b:=by
 have hz:=hd.sz
 intro k
 induction k with
 | zero=>
  intro i hk hi hib
  rw[Zb9]
  unfold scanSorted
  simp only[ZB,Zew,decide_eq_false (show ¬i<b by omega),cond_false]
  rw[if_neg (by simp[show ¬i<b by omega])]
  exact⟨rfl,Nat.le_refl _,hib⟩
 | succ k ih=>
  intro i hk hi hib
  rw[Zb9]
  unfold scanSorted
  by_cases h1:i<b
  ·have i1:i<d.size:=by omega
   have i2:i-1<d.size:=by omega
   have e2:w64 ((i:Int)-1)=((i-1:Nat):Int):=Zag (by omega) (by omega)
   have e3:=hc _ _ (hd.el i i1) (hd.el (i-1) i2)
   by_cases h2:c d[i]! d[i-1]! < 0
   ·simp only[ZB,Zew,decide_eq_true h1,cond_true,Zbi i1,e2,Zbi i2,Option.bind_some,e3,decide_eq_true h2]
    rw[if_neg (by simp[h2,ltC])]
    exact⟨rfl,Nat.le_refl _,hib⟩
   ·simp only[ZB,Zew,decide_eq_true h1,cond_true,Zbi i1,e2,Zbi i2,Option.bind_some,e3,decide_eq_false h2,cond_false,Zae h1 (by omega)]
    rw[if_pos (by simp[h1,h2,ltC])]
    obtain⟨a1,a2,a3⟩:=ih (i+1) (by omega) (by omega) (by omega)
    exact⟨a1,by omega,a3⟩
  ·simp only[ZB,Zew,decide_eq_false h1,cond_false]
   rw[if_neg (by simp[h1])]
   exact⟨rfl,Nat.le_refl _,hib⟩
theorem Zro (a b:Nat):∀(s i:Nat) (d:Array Int),s≤5→a<i→i≤b→b≤d.size→OKA P d →
  ∃r,lp (ZI (a:Int) (b:Int) cmp) ((i:Int),((5-s:Nat):Int),d.toList)=some r∧(match r with | .inl l=>l=(partialIns (ltC c) a b s i d).1.toList∧(partialIns (ltC c) a b s i d).2=true | .inr (.inl l)=>l=(partialIns (ltC c) a b s i d).1.toList∧(partialIns (ltC c) a b s i d).2=false | .inr (.inr l)=>l=(partialIns (ltC c) a b s i d).1.toList∧(partialIns (ltC c) a b s i d).2=false) ∧
   OKA P (partialIns (ltC c) a b s i d).1∧(partialIns (ltC c) a b s i d).1.size=d.size
 | 0,i,d,hs,ha,hi,hb,hd=>by
  rw[Zb9]
  simp only[ZI,decide_eq_false (show ¬(((5-0:Nat):Int)<5) by omega),cond_false]
  exact⟨_,rfl,by simp[partialIns],by first | exact hd | (simpa [partialIns] using hd),by first | rfl | simp[partialIns]⟩
 | s+1,i,d,hs,ha,hi,hb,hd=>by
  have hz:=hd.sz
  obtain⟨u1,u2,u3⟩:=Zqg hc b 0 d hb hd (i:Int) ((5-(s+1):Nat):Int) (b-i) i (Nat.le_refl _) (by omega) hi
  rw[Zb9]
  unfold partialIns
  generalize hi2:scanSorted (ltC c) d b i=i2 at u1 u2 u3 ⊢
  simp only[ZI,decide_eq_true (show(((5-(s+1):Nat):Int)<5) by omega),cond_true,u1,Option.bind_some]
  by_cases h1:i2=b
  ·rw[show((i2:Int)==(b:Int))=true by simp[h1],if_pos h1]
   exact⟨_,rfl,by simp[partialIns],by first | exact hd | (simpa [partialIns] using hd),by first | rfl | simp[partialIns]⟩
  ·have e1:w64 ((b:Int)-(a:Int))=((b-a:Nat):Int):=Zag (by omega) (by omega)
   rw[show((i2:Int)==(b:Int))=false by simpa using (show ¬(i2:Int)=(b:Int) by omega),if_neg h1]
   by_cases h2:b-a<50
   ·rw[if_pos h2]
    simp only[cond_false,e1,decide_eq_true (show((b-a:Nat):Int)<50 by omega),cond_true]
    exact⟨_,rfl,by simp[partialIns],by first | exact hd | (simpa [partialIns] using hd),by first | rfl | simp[partialIns]⟩
   ·rw[if_neg h2]
    have i1:i2<d.size:=by omega
    have i3:i2-1<d.size:=by omega
    have e2:w64 ((i2:Int)-1)=((i2-1:Nat):Int):=Zag (by omega) (by omega)
    have e3:w64 ((i2:Int)-(a:Int))=((i2-a:Nat):Int):=Zag (by omega) (by omega)
    have e4:w64 ((b:Int)-(i2:Int))=((b-i2:Nat):Int):=Zag (by omega) (by omega)
    have e5:w64 ((i2:Int)+1)=((i2+1:Nat):Int):=Zag (by omega) (by omega)
    have e6:w64 (((5-(s+1):Nat):Int)+1)=((5-s:Nat):Int):=Zag (by omega) (by omega)
    obtain⟨y,em⟩:=ZhC (i:=i2) (x:=d[i2-1]!) i3
    have hd2:=hd.swp i1 i3
    simp only[cond_false,e1,decide_eq_false (show ¬((b-a:Nat):Int)<50 by omega),e2,Zbi i1,Zbi i3,Option.bind_some,Int.toNat_natCast,em,Ze5,e3,e4,e5,e6]
    have n2:∀n:Nat,decide ((2:Int)≤(n:Int))=decide (n ≥ 2):=fun n=>decide_eq_decide.2 (by omega)
    rw[n2,n2]
    have go:∀d':Array Int,OKA P d'→d'.size=d.size→∃r,lp (ZI (a:Int) (b:Int) cmp) ((i2:Int),((5-s:Nat):Int),d'.toList)=some r∧(match r with | .inl l=>l=(partialIns (ltC c) a b s i2 d').1.toList∧(partialIns (ltC c) a b s i2 d').2=true | .inr (.inl l)=>l=(partialIns (ltC c) a b s i2 d').1.toList∧(partialIns (ltC c) a b s i2 d').2=false | .inr (.inr l)=>l=(partialIns (ltC c) a b s i2 d').1.toList∧(partialIns (ltC c) a b s i2 d').2=false) ∧
      OKA P (partialIns (ltC c) a b s i2 d').1∧(partialIns (ltC c) a b s i2 d').1.size=d.size:=fun d' h h'=>by
     have:=Zro a b s i2 d' (by omega) (by omega) u3 (by omega) h
     rw[h'] at this
     exact this
    by_cases h3:i2-a ≥ 2
    ·obtain⟨v1,v2,v3⟩:=ZsW hc (i2-1) (swp d i2 (i2-1)) hd2 (by rw[Z3];exact i3)
     rw[Z3] at v3
     rw[decide_eq_true h3,if_pos h3]
     simp only[cond_true,v1,Option.bind_some]
     by_cases h4:b-i2 ≥ 2
     ·obtain⟨w1,w2,w3⟩:=ZsX hc b (b-(i2+1)) (i2+1) (shiftDown (ltC c) (i2-1) (swp d i2 (i2-1))) (Nat.le_refl _) (by omega) (by omega) v2
      rw[decide_eq_true h4,if_pos h4]
      simp only[cond_true,w1,Option.bind_some]
      exact go _ w2 (by omega)
     ·rw[decide_eq_false h4,if_neg h4]
      exact go _ v2 v3
    ·rw[decide_eq_false h3,if_neg h3]
     simp only[cond_false]
     by_cases h4:b-i2 ≥ 2
     ·obtain⟨w1,w2,w3⟩:=ZsX hc b (b-(i2+1)) (i2+1) (swp d i2 (i2-1)) (Nat.le_refl _) (by omega) (by rw[Z3];omega) hd2
      rw[Z3] at w3
      rw[decide_eq_true h4,if_pos h4]
      simp only[cond_true,w1,Option.bind_some]
      exact go _ w2 w3
     ·rw[decide_eq_false h4,if_neg h4]
      exact go _ hd2 (Z3 _ _ _)
theorem Zs5 (a b:Nat) (d:Array Int) (h1:a<b) (hb:b≤d.size) (hd:OKA P d) :
  ZE (a:Int) (b:Int) cmp d.toList=some (bif (partialInsertionSort (ltC c) d a b).2 then .inl (partialInsertionSort (ltC c) d a b).1.toList else .inr (partialInsertionSort (ltC c) d a b).1.toList)∧OKA P (partialInsertionSort (ltC c) d a b).1∧(partialInsertionSort (ltC c) d a b).1.size=d.size:=by
 have hz:=hd.sz
 obtain⟨r,e,h2,h3⟩:=Zro hc a b 5 (a+1) d (Nat.le_refl _) (by omega) (by omega) hb hd
 unfold ZE partialInsertionSort
 have e0:((5-5:Nat):Int)=0:=rfl
 rw[e0] at e
 rw[Zag (n:=a+1) (by omega) (by omega),e]
 refine⟨?_,h3⟩
 rcases r with l | l | l
 ·obtain⟨rfl,h⟩:=h2;rw[h];rfl
 ·obtain⟨rfl,h⟩:=h2;rw[h];rfl
 ·obtain⟨rfl,h⟩:=h2;rw[h];rfl
theorem Zri (d:Array Int) (hd:OKA P d) (a b n:Nat) (ha:a<d.size) (hb:b<d.size) (hn:n<1000):Zay (a:Int) (b:Int) cmp d.toList (n:Int)=some (((order2 (ltC c) d a b n).1:Int),((order2 (ltC c) d a b n).2.1:Int),((order2 (ltC c) d a b n).2.2:Int)) ∧
  (order2 (ltC c) d a b n).1<d.size∧(order2 (ltC c) d a b n).2.1<d.size∧(order2 (ltC c) d a b n).2.2≤n+1:=by
 unfold Zay order2
 simp only[Zbi ha,Zbi hb,Option.bind_some,hc _ _ (hd.el b hb) (hd.el a ha)]
 by_cases h:c d[b]! d[a]! < 0
 ·rw[if_pos (by simp[h,ltC]),decide_eq_true h,Zag (n:=n+1) (by omega) (by omega)]
  exact⟨rfl,hb,ha,Nat.le_refl _⟩
 ·rw[if_neg (by simp[h,ltC]),decide_eq_false h]
  exact⟨rfl,ha,hb,Nat.le_succ _⟩
theorem Zqs (d:Array Int) (hd:OKA P d) (i j k n:Nat) (hi:i<d.size) (hj:j<d.size) (hk:k<d.size) (hn:n<990):Zax (i:Int) (j:Int) (k:Int) cmp d.toList (n:Int)=some (((median (ltC c) d i j k n).1:Int),((median (ltC c) d i j k n).2:Int))∧(median (ltC c) d i j k n).1<d.size∧(median (ltC c) d i j k n).2≤n+3:=by
 obtain⟨a1,a2,a3,a4⟩:=Zri hc d hd i j n hi hj (by omega)
 obtain⟨b1,b2,b3,b4⟩:=Zri hc d hd (order2 (ltC c) d i j n).2.1 k (order2 (ltC c) d i j n).2.2 a3 hk (by omega)
 obtain⟨c1,c2,c3,c4⟩:=Zri hc d hd (order2 (ltC c) d i j n).1 (order2 (ltC c) d (order2 (ltC c) d i j n).2.1 k (order2 (ltC c) d i j n).2.2).1 (order2 (ltC c) d (order2 (ltC c) d i j n).2.1 k (order2 (ltC c) d i j n).2.2).2.2 a2 b2 (by omega)
 unfold Zax median
 simp only[a1,b1,c1,Option.bind_some]
 exact⟨trivial,c3,by omega⟩
theorem Zqj (d:Array Int) (hd:OKA P d) (i n:Nat) (h1:1≤i) (hi:i+1<d.size) (hn:n<990):ZZ (i:Int) cmp d.toList (n:Int)=some (((medianAdjacent (ltC c) d i n).1:Int),((medianAdjacent (ltC c) d i n).2:Int))∧(medianAdjacent (ltC c) d i n).1<d.size∧(medianAdjacent (ltC c) d i n).2≤n+3:=by
 have hz:=hd.sz
 obtain⟨a1,a2⟩:=Zqs hc d hd (i-1) i (i+1) n (by omega) (by omega) hi hn
 unfold ZZ medianAdjacent
 rw[Zag (n:=i-1) (by omega) (by omega),Zag (n:=i+1) (by omega) (by omega),a1]
 exact⟨rfl,a2⟩
theorem Zs3 (a b:Nat) (d:Array Int) (hab:a<b) (hb:b≤d.size) (hd:OKA P d):ZD (a:Int) (b:Int) cmp d.toList=some (((choosePivot (ltC c) d a b).1:Int),ZlD (choosePivot (ltC c) d a b).2):=by
 have hz:=hd.sz
 have e1:w64 ((b:Int)-(a:Int))=((b-a:Nat):Int):=Zag (by omega) (by omega)
 have e2:w64 (Int.tdiv ((b-a:Nat):Int) 4)=(((b-a) / 4:Nat):Int):=by
  rw[Int.tdiv_eq_ediv_of_nonneg (by omega)]
  exact Zag (by omega) (by omega)
 have q:∀m:Nat,m≤3→w64 ((((b-a) / 4:Nat):Int)*(m:Int))=(((b-a) / 4*m:Nat):Int):=fun m hm=>by
  refine Zag (by rw[Int.natCast_mul]) ?_
  have:(b-a) / 4*m≤(b-a) / 4*3:=Nat.mul_le_mul_left _ hm
  omega
 have q1:=q 1 (by omega)
 have q2:=q 2 (by omega)
 have q3:=q 3 (by omega)
 have p:∀m:Nat,m≤3→w64 ((a:Int)+(((b-a) / 4*m:Nat):Int))=((a+(b-a) / 4*m:Nat):Int):=fun m hm=>by
  refine Zag (by omega) ?_
  have:(b-a) / 4*m≤(b-a) / 4*3:=Nat.mul_le_mul_left _ hm
  omega
 have p1:=p 1 (by omega)
 have p2:=p 2 (by omega)
 have p3:=p 3 (by omega)
 unfold ZD choosePivot
 have q1':w64 ((((b-a) / 4:Nat):Int)*1)=_:=q1
 have q2':w64 ((((b-a) / 4:Nat):Int)*2)=_:=q2
 have q3':w64 ((((b-a) / 4:Nat):Int)*3)=_:=q3
 simp only[e1,e2,q1',q2',q3',p1,p2,p3]
 have z:((0:Nat):Int)=0:=rfl
 by_cases h8:b-a ≥ 8
 ·rw[decide_eq_true (show(8:Int)≤((b-a:Nat):Int) by omega),if_pos h8]
  by_cases h50:b-a ≥ 50
  ·obtain⟨m1,m2,m3⟩:=Zqj hc d hd (a+(b-a) / 4*1) 0 (by omega) (by omega) (by omega)
   obtain⟨n1,n2,n3⟩:=Zqj hc d hd (a+(b-a) / 4*2) (medianAdjacent (ltC c) d (a+(b-a) / 4*1) 0).2 (by omega) (by omega) (by omega)
   obtain⟨o1,o2,o3⟩:=Zqj hc d hd (a+(b-a) / 4*3) (medianAdjacent (ltC c) d (a+(b-a) / 4*2) (medianAdjacent (ltC c) d (a+(b-a) / 4*1) 0).2).2 (by omega) (by omega) (by omega)
   obtain⟨r1,r2,r3⟩:=Zqs hc d hd _ _ _ (medianAdjacent (ltC c) d (a+(b-a) / 4*3) (medianAdjacent (ltC c) d (a+(b-a) / 4*2) (medianAdjacent (ltC c) d (a+(b-a) / 4*1) 0).2).2).2 m2 n2 o2 (by omega)
   rw[z] at m1
   rw[decide_eq_true (show(50:Int)≤((b-a:Nat):Int) by omega),if_pos h50]
   simp only[cond_true,m1,n1,o1,r1,Option.bind_some]
   exact ZrA (_,_) _ _ rfl rfl
  ·obtain⟨r1,r2,r3⟩:=Zqs hc d hd (a+(b-a) / 4*1) (a+(b-a) / 4*2) (a+(b-a) / 4*3) 0 (by omega) (by omega) (by omega) (by omega)
   rw[z] at r1
   rw[decide_eq_false (show ¬(50:Int)≤((b-a:Nat):Int) by omega),if_neg h50]
   simp only[cond_true,cond_false,r1,Option.bind_some]
   exact ZrA (_,_) _ _ rfl rfl
 ·rw[decide_eq_false (show ¬(8:Int)≤((b-a:Nat):Int) by omega),if_neg h8]
  rfl
end
theorem Zuv {P:Int→Prop}:∀(k i j:Nat) (d:Array Int),j-i≤k→j<d.size∨j≤i→OKA P d→lp ZW ((i:Int),(j:Int),d.toList)=some (reverseLoop i j d).toList∧OKA P (reverseLoop i j d)∧(reverseLoop i j d).size=d.size:=by
 intro k
 induction k with
 | zero=>
  intro i j d hk hj hd
  rw[Zb9]
  unfold reverseLoop
  simp only[ZW,Zew,decide_eq_false (show ¬i<j by omega),cond_false]
  rw[if_neg (by omega)]
  exact⟨rfl,hd,rfl⟩
 | succ k ih=>
  intro i j d hk hj hd
  have hz:=hd.sz
  rw[Zb9]
  unfold reverseLoop
  by_cases h:i<j
  ·have i1:j<d.size:=by omega
   have i2:i<d.size:=by omega
   obtain⟨y,em⟩:=ZhC (i:=i) (x:=d[j]!) i1
   have e2:w64 ((j:Int)-1)=((j-1:Nat):Int):=Zag (by omega) (by omega)
   simp only[ZW,Zew,decide_eq_true h,cond_true,Zbi i1,Zbi i2,Option.bind_some,Int.toNat_natCast,em,Ze5,Zae h (by omega),e2]
   rw[if_pos h]
   have:=ih (i+1) (j-1) (swp d i j) (by omega) (by rw[Z3];omega) (hd.swp i2 i1)
   rw[Z3] at this
   exact this
  ·simp only[ZW,Zew,decide_eq_false h,cond_false]
   rw[if_neg h]
   exact⟨rfl,hd,rfl⟩
theorem Zrl {P:Int→Prop} (cmp:Int→Int→Option Int) (a b:Nat) (d:Array Int) (hab:a<b) (hb:b≤d.size) (hd:OKA P d):ZC (a:Int) (b:Int) cmp d.toList=some (reverseRange d a b).toList∧OKA P (reverseRange d a b)∧(reverseRange d a b).size=d.size:=by
 have hz:=hd.sz
 obtain⟨h1,h2⟩:=Zuv (b-1-a) a (b-1) d (Nat.le_refl _) (by omega) hd
 unfold ZC reverseRange
 rw[Zag (n:=b-1) (by omega) (by omega)]
 simp only[h1,Option.bind_some]
 exact⟨trivial,h2⟩
end Go.Proofs.YtnpidpcmpleiaaaDoor
namespace Go.Proofs.YtnpidpcmpleiaaaDoor
open Go Go.Proofs.YtnpidpcmpleiaaaDoorE Go.Sort
set_option linter.unusedVariables false
set_option linter.unusedSimpArgs false
theorem ZnX (n:Int):IntKind.u64.wrap n=n % 18446744073709551616:=by
 show(if (false&&decide (n % 18446744073709551616 ≥ 9223372036854775808))=true then n % 18446744073709551616-18446744073709551616 else n % 18446744073709551616)=_
 simp
theorem Zfz {n:Nat} (h:n<18446744073709551616):IntKind.u64.wrap (n:Int)=(n:Int):=by rw[ZnX];omega
def ZmW (a b:Int):Int:=IntKind.u64.wrap (BitVec.ofInt IntKind.u64.bits a ^^^ BitVec.ofInt IntKind.u64.bits b).toNat
def Zqk (a b:Int):Int:=IntKind.u64.wrap (BitVec.ofInt IntKind.u64.bits a &&& BitVec.ofInt IntKind.u64.bits b).toNat
def xs (r:Int):Int:=ZmW (ZmW (ZmW r (IntKind.u64.wrap (r*2 ^ 13))) (Int.fdiv (ZmW r (IntKind.u64.wrap (r*2 ^ 13))) (2 ^ 7))) (IntKind.u64.wrap (ZmW (ZmW r (IntKind.u64.wrap (r*2 ^ 13))) (Int.fdiv (ZmW r (IntKind.u64.wrap (r*2 ^ 13))) (2 ^ 7))*2 ^ 17))
theorem ZmF (u:UInt64):BitVec.ofInt IntKind.u64.bits (u.toNat:Int)=u.toBitVec:=by
 show BitVec.ofInt 64 (u.toNat:Int)=u.toBitVec
 rw[BitVec.ofInt_natCast]
 apply BitVec.eq_of_toNat_eq
 rw[BitVec.toNat_ofNat]
 exact Nat.mod_eq_of_lt u.toNat_lt
theorem Zre (u v:UInt64):ZmW (u.toNat:Int) (v.toNat:Int)=((u ^^^ v).toNat:Int):=by
 unfold ZmW
 rw[ZmF,ZmF]
 exact Zfz (u ^^^ v).toNat_lt
theorem ZsU (u:UInt64) (k:Nat) (v:UInt64) (hk:v.toNat % 64=k):IntKind.u64.wrap ((u.toNat:Int)*2 ^ k)=((u <<< v).toNat:Int):=by
 rw[ZnX,UInt64.toNat_shiftLeft,hk,Nat.shiftLeft_eq]
 have:((2:Int) ^ k)=((2 ^ k:Nat):Int):=by rw[Int.natCast_pow];rfl
 rw[this]
 omega
theorem ZuM (u:UInt64) (k:Nat) (v:UInt64) (hk:v.toNat % 64=k):Int.fdiv (u.toNat:Int) (2 ^ k)=((u >>> v).toNat:Int):=by
 have e:((2:Int) ^ k)=((2 ^ k:Nat):Int):=by rw[Int.natCast_pow];rfl
 rw[UInt64.toNat_shiftRight,hk,Nat.shiftRight_eq_div_pow,e,Int.fdiv_eq_ediv_of_nonneg _ (Int.natCast_nonneg _)]
 exact(Int.natCast_ediv _ _).symm
theorem ZuP (u:UInt64):xs (u.toNat:Int)=((xorNext u).toNat:Int):=by
 unfold xs xorNext
 rw[ZsU u 13 13 rfl,Zre,ZuM _ 7 7 rfl,Zre,ZsU _ 17 17 rfl,Zre]
theorem Zsy (u:UInt64) (m:Nat) (hm:m<18446744073709551616):Zqk (u.toNat:Int) (m:Int)=((u.toNat &&& m:Nat):Int):=by
 unfold Zqk
 rw[ZmF]
 have:BitVec.ofInt IntKind.u64.bits (m:Int)=BitVec.ofNat 64 m:=BitVec.ofInt_natCast _ _
 rw[this]
 show IntKind.u64.wrap ((((u.toBitVec &&& BitVec.ofNat 64 m:BitVec 64)).toNat:Nat):Int)=_
 rw[BitVec.toNat_and,BitVec.toNat_ofNat,Nat.mod_eq_of_lt hm]
 refine Zfz (Nat.lt_of_le_of_lt Nat.and_le_left u.toNat_lt)
theorem Zp5:((List.range 1001).all fun n=>(match Zdb (IntKind.u64.wrap (n:Int)) with | some v=>v==(bitsLen n:Int) | none=>false)&&((match ZbR (n:Int) with | some v=>v==((1 <<< bitsLen n:Nat):Int) | none=>false)&&(decide (1 <<< bitsLen n≤2*n) || n==0)))=true:=by kernel_rfl
theorem Zq6 {n:Nat} (h:n≤1000):Zdb (IntKind.u64.wrap (n:Int))=some (bitsLen n:Int)∧ZbR (n:Int)=some ((1 <<< bitsLen n:Nat):Int)∧(0<n→1 <<< bitsLen n≤2*n):=by
 have:=List.all_eq_true.1 Zp5 n (by simp;omega)
 simp only[Bool.and_eq_true,Bool.or_eq_true,decide_eq_true_eq,beq_iff_eq] at this
 obtain⟨h1,h2,h3⟩:=this
 refine⟨?_,?_,fun h=>by omega⟩
 ·split at h1
  ·rename_i v hv;rw[hv,eq_of_beq h1]
  ·cases h1
 ·split at h2
  ·rename_i v hv;rw[hv,eq_of_beq h2]
  ·cases h2
def Zkx (s:Int×List Int×Int) (o:Int):Option ((Int×List Int×Int)⊕List Int):=
 (ZF s.2.1 o).bind fun x3=>(ZF s.2.1 s.1).bind fun x4=>(ZF (List.set s.2.1 s.1.toNat x3) o).bind fun _=>some (Sum.inl (w64 (s.1+1),List.set (List.set s.2.1 s.1.toNat x3) o.toNat x4,xs s.2.2))
theorem Zs7 (b c x0:Int) (s:Int×List Int×Int):Zaq b c x0 s=(bif (decide (s.1≤(w64 ((w64 (b+(w64 ((w64 (Int.tdiv (w64 (c-b)) 4))*2))))+1)))) then
  ZcG.bind fun _=>bif decide (w64 (c-b)≤w64 (Zqk (xs s.2.2) (IntKind.u64.wrap (x0-1)))) then Zkx s (w64 (b+w64 (w64 (Zqk (xs s.2.2) (IntKind.u64.wrap (x0-1)))-w64 (c-b)))) else Zkx s (w64 (b+w64 (Zqk (xs s.2.2) (IntKind.u64.wrap (x0-1)))))
 else some (.inr s.2.1)):=rfl
theorem ZnV {P:Int→Prop} (d:Array Int) (hd:OKA P d) (i o:Nat) (u:UInt64) (hi:i<d.size) (ho:o<d.size):Zkx ((i:Int),d.toList,(u.toNat:Int)) (o:Int)=some (.inl (((i+1:Nat):Int),(swp d i o).toList,((xorNext u).toNat:Int))):=by
 have hz:=hd.sz
 obtain⟨y,em⟩:=ZhC (i:=i) (x:=d[o]!) ho
 unfold Zkx
 simp only[Zbi ho,Zbi hi,Option.bind_some,Int.toNat_natCast,em,Ze5,ZuP,Zae hi (by omega)]
theorem ZmR {P:Int→Prop} (a b:Nat) (d:Array Int) (hd:OKA P d) (h8:8≤b-a) (hb:b≤d.size) (i:Nat) (hi:i≤a+(b-a) / 4*2+1) (u:UInt64) :
  Zaq (a:Int) (b:Int) ((1 <<< bitsLen (b-a):Nat):Int) ((i:Int),d.toList,(u.toNat:Int))=some (.inl (((i+1:Nat):Int),(breakStep a (b-a) (1 <<< bitsLen (b-a)) (u,d) i).2.toList,((breakStep a (b-a) (1 <<< bitsLen (b-a)) (u,d) i).1.toNat:Int))) ∧
  OKA P (breakStep a (b-a) (1 <<< bitsLen (b-a)) (u,d) i).2∧(breakStep a (b-a) (1 <<< bitsLen (b-a)) (u,d) i).2.size=d.size:=by
 have hz:=hd.sz
 obtain⟨_,_,l3⟩:=Zq6 (show b-a≤1000 by omega)
 have l4:=l3 (by omega)
 have l5:0<1 <<< bitsLen (b-a):=by rw[Nat.shiftLeft_eq,Nat.one_mul];exact Nat.pow_pos (by omega)
 generalize hm:1 <<< bitsLen (b-a)=m at *
 have e1:w64 ((b:Int)-(a:Int))=((b-a:Nat):Int):=Zag (by omega) (by omega)
 have e2:w64 (Int.tdiv ((b-a:Nat):Int) 4)=(((b-a) / 4:Nat):Int):=by
  rw[Int.tdiv_eq_ediv_of_nonneg (by omega)]
  exact Zag (by omega) (by omega)
 have e3:w64 ((((b-a) / 4:Nat):Int)*2)=(((b-a) / 4*2:Nat):Int):=Zag (by omega) (by omega)
 have e4:w64 ((a:Int)+(((b-a) / 4*2:Nat):Int))=((a+(b-a) / 4*2:Nat):Int):=Zag (by omega) (by omega)
 have e5:w64 (((a+(b-a) / 4*2:Nat):Int)+1)=((a+(b-a) / 4*2+1:Nat):Int):=Zag (by omega) (by omega)
 have e6:IntKind.u64.wrap ((m:Int)-1)=((m-1:Nat):Int):=by
  rw[show(m:Int)-1=((m-1:Nat):Int) by omega];exact Zfz (by omega)
 have hand:(xorNext u).toNat &&& (m-1)≤m-1:=Nat.and_le_right
 have e7:w64 (((xorNext u).toNat &&& (m-1):Nat):Int)=(((xorNext u).toNat &&& (m-1):Nat):Int):=Zag rfl (by omega)
 have ii:i<d.size:=by omega
 rw[Zs7]
 unfold breakStep
 simp only[e1,e2,e3,e4,e5,Zfe,decide_eq_true hi,cond_true,ZuP,e6,Zsy _ (m-1) (by omega),e7]
 generalize (xorNext u).toNat &&& (m-1)=o at *
 show(bif decide (b-a≤o) then _ else _)=_∧_
 by_cases ho:b-a≤o
 ·have e8:w64 ((o:Int)-((b-a:Nat):Int))=((o-(b-a):Nat):Int):=Zag (by omega) (by omega)
  have e9:w64 ((a:Int)+((o-(b-a):Nat):Int))=((a+(o-(b-a)):Nat):Int):=Zag (by omega) (by omega)
  rw[decide_eq_true ho,if_pos ho]
  simp only[cond_true,e8,e9]
  exact⟨ZnV d hd i _ u ii (by omega),hd.swp ii (by omega),Z3 _ _ _⟩
 ·have e9:w64 ((a:Int)+(o:Int))=((a+o:Nat):Int):=Zag (by omega) (by omega)
  rw[decide_eq_false ho,if_neg ho]
  simp only[cond_false,e9]
  exact⟨ZnV d hd i _ u ii (by omega),hd.swp ii (by omega),Z3 _ _ _⟩
theorem ZvM {P:Int→Prop} (cmp:Int→Int→Option Int) (a b:Nat) (d:Array Int) (hab:a≤b) (hb:b≤d.size) (hd:OKA P d):Z2 (a:Int) (b:Int) cmp d.toList=some (breakPatterns d a b).toList∧OKA P (breakPatterns d a b)∧(breakPatterns d a b).size=d.size:=by
 have hz:=hd.sz
 have e1:w64 ((b:Int)-(a:Int))=((b-a:Nat):Int):=Zag (by omega) (by omega)
 unfold Z2 breakPatterns
 simp only[e1]
 by_cases h8:8≤b-a
 ·obtain⟨_,l2,_⟩:=Zq6 (show b-a≤1000 by omega)
  have e2:w64 (Int.tdiv ((b-a:Nat):Int) 4)=(((b-a) / 4:Nat):Int):=by
   rw[Int.tdiv_eq_ediv_of_nonneg (by omega)]
   exact Zag (by omega) (by omega)
  have e3:w64 ((((b-a) / 4:Nat):Int)*2)=(((b-a) / 4*2:Nat):Int):=Zag (by omega) (by omega)
  have e4:w64 ((a:Int)+(((b-a) / 4*2:Nat):Int))=((a+(b-a) / 4*2:Nat):Int):=Zag (by omega) (by omega)
  have e5:w64 (((a+(b-a) / 4*2:Nat):Int)-1)=((a+(b-a) / 4*2-1:Nat):Int):=Zag (by omega) (by omega)
  have e6:IntKind.u64.wrap ((b-a:Nat):Int)=((UInt64.ofNat (b-a)).toNat:Int):=by
   rw[Zfz (by omega),UInt64.toNat_ofNat_of_lt' (by show b-a<2 ^ 64;omega)]
  rw[decide_eq_true (show(8:Int)≤((b-a:Nat):Int) by omega),if_pos h8]
  simp only[cond_true,l2,Option.bind_some,e2,e3,e4,e5,e6]
  generalize hi0:a+(b-a) / 4*2-1=i0
  obtain⟨p1,p2,p3⟩:=ZmR a b d hd h8 hb i0 (by omega) (UInt64.ofNat (b-a))
  generalize breakStep a (b-a) (1 <<< bitsLen (b-a)) (UInt64.ofNat (b-a),d) i0=r1 at *
  obtain⟨q1,q2,q3⟩:=ZmR a b r1.2 p2 h8 (by omega) (i0+1) (by omega) r1.1
  generalize breakStep a (b-a) (1 <<< bitsLen (b-a)) (r1.1,r1.2) (i0+1)=r2 at *
  obtain⟨s1,s2,s3⟩:=ZmR a b r2.2 q2 h8 (by omega) (i0+2) (by omega) r2.1
  generalize breakStep a (b-a) (1 <<< bitsLen (b-a)) (r2.1,r2.2) (i0+2)=r3 at *
  rw[ZkZ p1,ZkZ q1,ZkZ s1,ZsE (r:=r3.2.toList)]
  ·exact⟨rfl,s2,by omega⟩
  ·rw[Zs7]
   have e7:w64 (((a+(b-a) / 4*2:Nat):Int)+1)=((a+(b-a) / 4*2+1:Nat):Int):=Zag (by omega) (by omega)
   simp only[e1,e2,e3,e4,e7,Zfe,decide_eq_false (show ¬i0+2+1≤a+(b-a) / 4*2+1 by omega),cond_false]
 ·rw[decide_eq_false (show ¬(8:Int)≤((b-a:Nat):Int) by omega),if_neg h8]
  exact⟨rfl,hd,rfl⟩
end Go.Proofs.YtnpidpcmpleiaaaDoor
namespace Go.Proofs.YtnpidpcmpleiaaaDoor
open Go Go.Proofs.YtnpidpcmpleiaaaDoorE Go.Sort
set_option linter.unusedVariables false
set_option linter.unusedSimpArgs false
abbrev Zsi:=Int×Int×Int×Bool×Bool×List Int
noncomputable def ZoZ (e:Int→Int→Option Int) (rc:Int→Int→Int→(Int→Int→Option Int)→List Int→Option (List Int)) (a b limit pivot:Int) (x5:List Int):Option (Zsi⊕List Int):=
 (Zj a b pivot e x5).bind fun x9=>
 match x9 with
 | .inl x9=>
  bif decide (w64 (x9.1-a)<w64 (b-x9.1)) then
   bif decide (w64 (Int.tdiv (w64 (b-a)) 8)≤w64 (x9.1-a)) then (rc a x9.1 limit e x9.2).bind fun x10=>some (.inl (w64 (x9.1+1),b,limit,true,true,x10))
   else (rc a x9.1 limit e x9.2).bind fun x10=>some (.inl (w64 (x9.1+1),b,limit,false,true,x10))
  else
   bif decide (w64 (Int.tdiv (w64 (b-a)) 8)≤w64 (b-x9.1)) then (rc (w64 (x9.1+1)) b limit e x9.2).bind fun x10=>some (.inl (a,x9.1,limit,true,true,x10))
   else (rc (w64 (x9.1+1)) b limit e x9.2).bind fun x10=>some (.inl (a,x9.1,limit,false,true,x10))
 | .inr x9=>
  bif decide (w64 (x9.1-a)<w64 (b-x9.1)) then
   bif decide (w64 (Int.tdiv (w64 (b-a)) 8)≤w64 (x9.1-a)) then (rc a x9.1 limit e x9.2).bind fun x10=>some (.inl (w64 (x9.1+1),b,limit,true,false,x10))
   else (rc a x9.1 limit e x9.2).bind fun x10=>some (.inl (w64 (x9.1+1),b,limit,false,false,x10))
  else
   bif decide (w64 (Int.tdiv (w64 (b-a)) 8)≤w64 (b-x9.1)) then (rc (w64 (x9.1+1)) b limit e x9.2).bind fun x10=>some (.inl (a,x9.1,limit,true,false,x10))
   else (rc (w64 (x9.1+1)) b limit e x9.2).bind fun x10=>some (.inl (a,x9.1,limit,false,false,x10))
noncomputable def Zjz (e:Int→Int→Option Int) (rc:Int→Int→Int→(Int→Int→Option Int)→List Int→Option (List Int)) (a b limit pivot:Int) (wb wp:Bool) (x5:List Int):Option (Zsi⊕List Int):=
 bif decide (0<a) then
  (ZF x5 (w64 (a-1))).bind fun x6=>(ZF x5 pivot).bind fun x7=>(e x6 x7).bind fun x8=>
  bif decide (x8<0) then ZoZ e rc a b limit pivot x5
  else (Zv a b pivot e x5).bind fun x18=>some (.inl (x18.1,b,limit,wb,wp,x18.2))
 else ZoZ e rc a b limit pivot x5
theorem ZlT (e:Int→Int→Option Int) (rc:Int→Int→Int→(Int→Int→Option Int)→List Int→Option (List Int)) (a b limit:Int) (wb wp:Bool) (l:List Int):ZH e rc (a,b,limit,wb,wp,l) =
  (bif decide (w64 (b-a)≤12) then (ZM a b e l).bind fun x=>some (.inr x)
  else bif limit==0 then (ZY a b e l).bind fun x=>some (.inr x)
  else (bif wb then bif wp then
    (ZD a b e l).bind fun x3=>
    bif x3.2==2 then (ZC a b e l).bind fun x4=>(ZE a b e x4).bind fun x5=>(match x5 with | .inl x5=>some (.inr x5) | .inr x5=>Zjz e rc a b limit (w64 (w64 (b-1)-w64 (x3.1-a))) true true x5)
    else bif x3.2==1 then (ZE a b e l).bind fun x5=>(match x5 with | .inl x5=>some (.inr x5) | .inr x5=>Zjz e rc a b limit x3.1 true true x5)
    else Zjz e rc a b limit x3.1 true true l
   else
    (ZD a b e l).bind fun x3=>
    bif x3.2==2 then (ZC a b e l).bind fun x4=>Zjz e rc a b limit (w64 (w64 (b-1)-w64 (x3.1-a))) true false x4
    else Zjz e rc a b limit x3.1 true false l
  else
   (Z2 a b e l).bind fun x0=>(ZD a b e x0).bind fun x3=>
    bif x3.2==2 then (ZC a b e x0).bind fun x4=>Zjz e rc a b (w64 (limit-1)) (w64 (w64 (b-1)-w64 (x3.1-a))) false wp x4
    else Zjz e rc a b (w64 (limit-1)) x3.1 false wp x0)):=by
 cases wb<;>cases wp<;>rfl
end Go.Proofs.YtnpidpcmpleiaaaDoor
namespace Go.Proofs.YtnpidpcmpleiaaaDoor
open Go Go.Proofs.YtnpidpcmpleiaaaDoorE Go.Sort
set_option linter.unusedVariables false
set_option linter.unusedSimpArgs false
noncomputable def after (e:Int→Int→Option Int) (rc:Int→Int→Int→(Int→Int→Option Int)→List Int→Option (List Int)) (x:Option (Zsi⊕List Int)):Option (List Int):=
 match x with | some (.inl s')=>lp (ZH e rc) s' | some (.inr r)=>some r | none=>none
theorem Zqf (e:Int→Int→Option Int) (rc:Int→Int→Int→(Int→Int→Option Int)→List Int→Option (List Int)) (s:Zsi):lp (ZH e rc) s=after e rc (ZH e rc s):=by
 rw[Zb9]
 unfold after
 cases ZH e rc s with
 | none=>rfl
 | some t=>cases t<;>rfl
def Res (P:Int→Prop) (r:Option (List Int)) (X:Array Int) (n:Nat):Prop:=r=some X.toList∧OKA P X∧X.size=n
section
variable {cmp:Int→Int→Option Int} {c:Int→Int→Int} {P:Int→Prop} (hc:Znj cmp c P) (hs:SWO (ltC c))
include hc hs
def Zky (cmp:Int→Int→Option Int) (c:Int→Int→Int) (P:Int→Prop) (rc:Int→Int→Int→(Int→Int→Option Int)→List Int→Option (List Int)) (k:Nat):Prop:=
 ∀(a b limit:Nat) (wb wp:Bool) (d:Array Int),b-a≤k→a≤b→b≤d.size→OKA P d→limit≤1000 →
  Res P (rc (a:Int) (b:Int) (limit:Int) cmp d.toList) (pdq (ltC c) d a b limit true true) d.size ∧
  Res P (lp (ZH cmp rc) ((a:Int),(b:Int),(limit:Int),wb,wp,d.toList)) (pdq (ltC c) d a b limit wb wp) d.size
theorem ZoE {rc:Int→Int→Int→(Int→Int→Option Int)→List Int→Option (List Int)}{k:Nat} (ih:Zky cmp c P rc k) (a b limit pivot:Nat) (d:Array Int) (hk:b-a≤k+1) (h1:a≤pivot) (h2:pivot<b) (hb:b≤d.size) (hd:OKA P d) (hl:limit≤1000) :
  Res P (after cmp rc (ZoZ cmp rc (a:Int) (b:Int) (limit:Int) (pivot:Int) d.toList)) (match partition (ltC c) d a b pivot with
   | (mid,alreadyPartitioned,d4)=>
    if _h:a≤mid∧mid<b then
     if mid-a<b-mid then pdq (ltC c) (pdq (ltC c) d4 a mid limit true true) (mid+1) b limit (decide (mid-a ≥ (b-a) / 8)) alreadyPartitioned
     else pdq (ltC c) (pdq (ltC c) d4 (mid+1) b limit true true) a mid limit (decide (b-mid ≥ (b-a) / 8)) alreadyPartitioned
    else d4) d.size:=by
 have hz:=hd.sz
 obtain⟨p1,p2,p3⟩:=Zsu hc a b pivot d h1 h2 hb hd
 obtain⟨r1,r2,_⟩:=partition_holds (ltC c) hs d a b pivot h1 h2 hb
 unfold ZoZ
 rw[p1]
 generalize partition (ltC c) d a b pivot=q at *
 obtain⟨mid,ap,d4⟩:=q
 dsimp only at *
 rw[dif_pos ⟨r1,r2⟩]
 have e1:w64 ((mid:Int)-(a:Int))=((mid-a:Nat):Int):=Zag (by omega) (by omega)
 have e2:w64 ((b:Int)-(mid:Int))=((b-mid:Nat):Int):=Zag (by omega) (by omega)
 have e3:w64 ((b:Int)-(a:Int))=((b-a:Nat):Int):=Zag (by omega) (by omega)
 have e4:w64 (Int.tdiv ((b-a:Nat):Int) 8)=(((b-a) / 8:Nat):Int):=by
  rw[Int.tdiv_eq_ediv_of_nonneg (by omega)]
  exact Zag (by omega) (by omega)
 have e5:w64 ((mid:Int)+1)=((mid+1:Nat):Int):=Zag (by omega) (by omega)
 by_cases hlt:mid-a<b-mid
 ·obtain⟨⟨u1,u2,u3⟩,_⟩:=ih a mid limit true true d4 (by omega) r1 (by omega) p2 hl
  rw[if_pos hlt]
  by_cases ht:mid-a ≥ (b-a) / 8
  ·obtain⟨_,v1,v2,v3⟩:=ih (mid+1) b limit true ap (pdq (ltC c) d4 a mid limit true true) (by omega) (by omega) (by omega) u2 hl
   rw[decide_eq_true ht]
   refine⟨?_,v2,by omega⟩
   cases ap<;>simp only[cond_true,cond_false,Option.bind_some,e1,e2,e3,e4,e5,Zew,Zfe,decide_eq_true hlt,decide_eq_true (show(b-a) / 8≤mid-a from ht),u1,after]<;>exact v1
  ·obtain⟨_,v1,v2,v3⟩:=ih (mid+1) b limit false ap (pdq (ltC c) d4 a mid limit true true) (by omega) (by omega) (by omega) u2 hl
   rw[decide_eq_false ht]
   refine⟨?_,v2,by omega⟩
   cases ap<;>simp only[cond_true,cond_false,Option.bind_some,e1,e2,e3,e4,e5,Zew,Zfe,decide_eq_true hlt,decide_eq_false (show ¬(b-a) / 8≤mid-a from ht),u1,after]<;>exact v1
 ·obtain⟨⟨u1,u2,u3⟩,_⟩:=ih (mid+1) b limit true true d4 (by omega) (by omega) (by omega) p2 hl
  rw[if_neg hlt]
  by_cases ht:b-mid ≥ (b-a) / 8
  ·obtain⟨_,v1,v2,v3⟩:=ih a mid limit true ap (pdq (ltC c) d4 (mid+1) b limit true true) (by omega) r1 (by omega) u2 hl
   rw[decide_eq_true ht]
   refine⟨?_,v2,by omega⟩
   cases ap<;>simp only[cond_true,cond_false,Option.bind_some,e1,e2,e3,e4,e5,Zew,Zfe,decide_eq_false hlt,decide_eq_true (show(b-a) / 8≤b-mid from ht),u1,after]<;>exact v1
  ·obtain⟨_,v1,v2,v3⟩:=ih a mid limit false ap (pdq (ltC c) d4 (mid+1) b limit true true) (by omega) r1 (by omega) u2 hl
   rw[decide_eq_false ht]
   refine⟨?_,v2,by omega⟩
   cases ap<;>simp only[cond_true,cond_false,Option.bind_some,e1,e2,e3,e4,e5,Zew,Zfe,decide_eq_false hlt,decide_eq_false (show ¬(b-a) / 8≤b-mid from ht),u1,after]<;>exact v1
theorem ZdG {rc:Int→Int→Int→(Int→Int→Option Int)→List Int→Option (List Int)}{k:Nat} (ih:Zky cmp c P rc k) (a b limit pivot:Nat) (wb wp:Bool) (d:Array Int) (hk:b-a≤k+1) (h1:a≤pivot) (h2:pivot<b) (hb:b≤d.size) (hd:OKA P d) (hl:limit≤1000) :
  Res P (after cmp rc (Zjz cmp rc (a:Int) (b:Int) (limit:Int) (pivot:Int) wb wp d.toList)) (if (decide (a > 0) && !ltC c d[a-1]! d[pivot]!)=true then
    match partitionEqual (ltC c) d a b pivot with
    | (mid,d4)=>if _h:a<mid∧mid≤b then pdq (ltC c) d4 mid b limit wb wp else d4
   else
    match partition (ltC c) d a b pivot with
    | (mid,alreadyPartitioned,d4)=>
     if _h:a≤mid∧mid<b then
      if mid-a<b-mid then pdq (ltC c) (pdq (ltC c) d4 a mid limit true true) (mid+1) b limit (decide (mid-a ≥ (b-a) / 8)) alreadyPartitioned
      else pdq (ltC c) (pdq (ltC c) d4 (mid+1) b limit true true) a mid limit (decide (b-mid ≥ (b-a) / 8)) alreadyPartitioned
     else d4) d.size:=by
 have hz:=hd.sz
 have pa:=ZoE hc hs ih a b limit pivot d hk h1 h2 hb hd hl
 have ip:pivot<d.size:=by omega
 unfold Zjz
 by_cases ha:0<a
 ·have ia:a-1<d.size:=by omega
  have e1:w64 ((a:Int)-1)=((a-1:Nat):Int):=Zag (by omega) (by omega)
  have e3:=hc _ _ (hd.el _ ia) (hd.el _ ip)
  simp only[decide_eq_true (show(0:Int)<(a:Int) by omega),cond_true,e1,Zbi ia,Zbi ip,Option.bind_some,e3]
  by_cases h:c d[a-1]! d[pivot]! < 0
  ·rw[decide_eq_true h,if_neg (by simp[ltC,h])]
   exact pa
  ·rw[decide_eq_false h,if_pos (by simp[ltC,h,ha])]
   obtain⟨q1,q2,q3,q4,q5⟩:=ZrG hc a b pivot d h1 h2 hb hd
   generalize partitionEqual (ltC c) d a b pivot=q at *
   obtain⟨mid,d4⟩:=q
   dsimp only at *
   rw[dif_pos ⟨q4,q5⟩]
   obtain⟨_,v1,v2,v3⟩:=ih mid b limit wb wp d4 (by omega) q5 (by omega) q2 hl
   simp only[cond_false,q1,Option.bind_some,after]
   exact⟨v1,v2,by omega⟩
 ·rw[if_neg (by simp[ha])]
  simp only[decide_eq_false (show ¬(0:Int)<(a:Int) by omega),cond_false]
  exact pa
theorem Zme {rc:Int→Int→Int→(Int→Int→Option Int)→List Int→Option (List Int)}{k:Nat} (ih:Zky cmp c P rc k) (a b limit:Nat) (wb wp:Bool) (d:Array Int) (hk:b-a≤k+1) (hab:a≤b) (hb:b≤d.size) (hd:OKA P d) (hl:limit≤1000) :
  Res P (lp (ZH cmp rc) ((a:Int),(b:Int),(limit:Int),wb,wp,d.toList)) (pdq (ltC c) d a b limit wb wp) d.size:=by
 have hz:=hd.sz
 have e1:w64 ((b:Int)-(a:Int))=((b-a:Nat):Int):=Zag (by omega) (by omega)
 rw[Zqf,ZlT,pdq,e1]
 by_cases h12:b-a≤12
 ·obtain⟨q1,q2,q3⟩:=Zs1 hc a b d hb hab hd
  rw[decide_eq_true (show((b-a:Nat):Int)≤12 by omega),if_pos h12]
  simp only[cond_true,q1,Option.bind_some,after]
  exact⟨rfl,q2,q3⟩
 rw[decide_eq_false (show ¬((b-a:Nat):Int)≤12 by omega),if_neg h12]
 by_cases h0:limit=0
 ·obtain⟨q1,q2,q3⟩:=ZtQ hc a b d hab hb hd
  rw[show((limit:Int)==0)=true by simp[h0],if_pos h0]
  simp only[cond_false,cond_true,q1,Option.bind_some,after]
  exact⟨rfl,q2,q3⟩
 rw[show((limit:Int)==0)=false by simpa using (show ¬(limit:Int)=0 by omega),if_neg h0]
 have hl2:∀x:Nat,(ZlD Hint.unknown==2)=false∧(ZlD Hint.unknown==1)=false∧(ZlD Hint.increasing==2)=false∧(ZlD Hint.increasing==1)=true∧(ZlD Hint.decreasing==2)=true:=fun _=>⟨rfl,rfl,rfl,rfl,rfl⟩
 obtain⟨g1,g2,g3,g4,g5⟩:=hl2 0
 have rp:∀p:Nat,a≤p→p<b→w64 (w64 ((b:Int)-1)-w64 ((p:Int)-(a:Int)))=(((b-1)-(p-a):Nat):Int):=fun p h1 h2=>by
  have x1:w64 ((b:Int)-1)=((b-1:Nat):Int):=Zag (by omega) (by omega)
  have x2:w64 ((p:Int)-(a:Int))=((p-a:Nat):Int):=Zag (by omega) (by omega)
  rw[x1,x2]
  exact Zag (by omega) (by omega)
 cases wb with
 | true=>
  have pv:=Zs3 hc a b d (by omega) hb hd
  have pr:=choosePivot_holds (ltC c) d a b (by omega)
  simp only[cond_false,cond_true,Bool.not_true,Bool.false_eq_true,if_false,Bool.true_and]
  generalize choosePivot (ltC c) d a b=cp at *
  obtain⟨p,h⟩:=cp
  dsimp only at *
  cases wp with
  | true=>
   simp only[cond_true,pv,Option.bind_some]
   cases h with
   | decreasing=>
    obtain⟨v1,v2,v3⟩:=Zrl (P:=P) cmp a b d (by omega) hb hd
    obtain⟨w1,w2,w3⟩:=Zs5 hc a b (reverseRange d a b) (by omega) (by omega) v2
    simp only[g5,cond_true,v1,Option.bind_some,w1,if_true,decide_true,Bool.and_self]
    generalize partialInsertionSort (ltC c) (reverseRange d a b) a b=pi at *
    obtain⟨d3,fin⟩:=pi
    dsimp only at *
    cases fin with
    | true=>exact⟨rfl,w2,w3.trans v3⟩
    | false=>
     rw[rp p pr.1 pr.2]
     have:=ZdG hc hs ih a b limit ((b-1)-(p-a)) true true d3 hk (by omega) (by omega) (by omega) w2 hl
     rw[show d3.size=d.size by omega] at this
     exact this
   | increasing=>
    obtain⟨w1,w2,w3⟩:=Zs5 hc a b d (by omega) hb hd
    simp only[g3,g4,cond_true,cond_false,w1,Option.bind_some,reduceCtorEq,if_false,if_true,decide_true,Bool.and_self]
    generalize partialInsertionSort (ltC c) d a b=pi at *
    obtain⟨d3,fin⟩:=pi
    dsimp only at *
    cases fin with
    | true=>exact⟨rfl,w2,w3⟩
    | false=>
     have:=ZdG hc hs ih a b limit p true true d3 hk pr.1 pr.2 (by omega) w2 hl
     rw[show d3.size=d.size by omega] at this
     exact this
   | unknown=>
    simp only[g1,g2,cond_false,reduceCtorEq,if_false,decide_false,Bool.and_false,Bool.false_eq_true]
    exact ZdG hc hs ih a b limit p true true d hk pr.1 pr.2 hb hd hl
  | false=>
   simp only[cond_false,pv,Option.bind_some,Bool.false_and,Bool.false_eq_true,if_false]
   cases h with
   | decreasing=>
    obtain⟨v1,v2,v3⟩:=Zrl (P:=P) cmp a b d (by omega) hb hd
    simp only[g5,cond_true,v1,Option.bind_some,if_true]
    rw[rp p pr.1 pr.2]
    have:=ZdG hc hs ih a b limit ((b-1)-(p-a)) true false (reverseRange d a b) hk (by omega) (by omega) (by omega) v2 hl
    rw[v3] at this
    exact this
   | increasing=>
    simp only[g3,cond_false,reduceCtorEq,if_false]
    exact ZdG hc hs ih a b limit p true false d hk pr.1 pr.2 hb hd hl
   | unknown=>
    simp only[g1,cond_false,reduceCtorEq,if_false]
    exact ZdG hc hs ih a b limit p true false d hk pr.1 pr.2 hb hd hl
 | false=>
  obtain⟨b1,b2,b3⟩:=ZvM (P:=P) cmp a b d hab hb hd
  have pv:=Zs3 hc a b (breakPatterns d a b) (by omega) (by omega) b2
  have pr:=choosePivot_holds (ltC c) (breakPatterns d a b) a b (by omega)
  have el:w64 ((limit:Int)-1)=((limit-1:Nat):Int):=Zag (by omega) (by omega)
  simp only[cond_false,b1,Option.bind_some,pv,Bool.not_false,if_true,Bool.false_and,Bool.false_eq_true,if_false,el]
  generalize choosePivot (ltC c) (breakPatterns d a b) a b=cp at *
  obtain⟨p,h⟩:=cp
  dsimp only at *
  cases h with
  | decreasing=>
   obtain⟨v1,v2,v3⟩:=Zrl (P:=P) cmp a b (breakPatterns d a b) (by omega) (by omega) b2
   simp only[g5,cond_true,v1,Option.bind_some,if_true]
   rw[rp p pr.1 pr.2]
   have:=ZdG hc hs ih a b (limit-1) ((b-1)-(p-a)) false wp (reverseRange (breakPatterns d a b) a b) hk (by omega) (by omega) (by omega) v2 (by omega)
   rw[v3,b3] at this
   exact this
  | increasing=>
   simp only[g3,cond_false,reduceCtorEq,if_false]
   have:=ZdG hc hs ih a b (limit-1) p false wp (breakPatterns d a b) hk pr.1 pr.2 (by omega) b2 (by omega)
   rw[b3] at this
   exact this
  | unknown=>
   simp only[g1,cond_false,reduceCtorEq,if_false]
   have:=ZdG hc hs ih a b (limit-1) p false wp (breakPatterns d a b) hk pr.1 pr.2 (by omega) b2 (by omega)
   rw[b3] at this
   exact this
theorem ZsG:∀(k m:Nat),k≤m→Zky cmp c P (ZP (m+1)) k:=by
 intro k
 induction k with
 | zero=>
  intro m hm
  have base:∀(rc:Int→Int→Int→(Int→Int→Option Int)→List Int→Option (List Int)) (a b limit:Nat) (wb wp:Bool) (d:Array Int),b-a≤0→a≤b→b≤d.size→OKA P d→Res P (lp (ZH cmp rc) ((a:Int),(b:Int),(limit:Int),wb,wp,d.toList)) (pdq (ltC c) d a b limit wb wp) d.size:=by
   intro rc a b limit wb wp d hk hab hb hd
   have hz:=hd.sz
   have e1:w64 ((b:Int)-(a:Int))=((b-a:Nat):Int):=Zag (by omega) (by omega)
   obtain⟨q1,q2,q3⟩:=Zs1 hc a b d hb hab hd
   rw[Zb9,ZlT,pdq,e1,decide_eq_true (show((b-a:Nat):Int)≤12 by omega),if_pos (by omega)]
   simp only[cond_true,q1,Option.bind_some]
   exact⟨rfl,q2,q3⟩
  intro a b limit wb wp d hk hab hb hd hl
  refine⟨?_,base _ a b limit wb wp d hk hab hb hd⟩
  obtain⟨r1,r2⟩:=base (ZP m) a b limit true true d hk hab hb hd
  refine⟨?_,r2⟩
  show Zaf (ZP m) (a:Int) (b:Int) (limit:Int) cmp d.toList=_
  unfold Zaf
  rw[r1];rfl
 | succ k ih=>
  intro m hm a b limit wb wp d hk hab hb hd hl
  refine⟨?_,Zme hc hs (ih m (by omega)) a b limit wb wp d hk hab hb hd hl⟩
  obtain⟨m',rfl⟩:∃m',m=m'+1:=⟨m-1,by omega⟩
  obtain⟨r1,r2⟩:=Zme hc hs (ih m' (by omega)) a b limit true true d hk hab hb hd hl
  refine⟨?_,r2⟩
  show Zaf (ZP (m'+1)) (a:Int) (b:Int) (limit:Int) cmp d.toList=_
  unfold Zaf
  rw[r1];rfl
theorem Zsx (l:List Int) (hl:l.length≤1000) (hP:∀x∈l,P x):Zau cmp l=some (Sort.sort (ltC c) l.toArray).toList:=by
 have hd:OKA P l.toArray:=⟨fun i hi=>by
  have hi':i<l.length:=by simpa using hi
  rw[getElem!_pos l.toArray i hi]
  simpa using hP _ (List.getElem_mem hi'),by simpa using hl⟩
 obtain⟨l1,_,_⟩:=Zq6 hl
 have hbl:bitsLen l.length≤1000:=by
  unfold bitsLen
  split
  ·omega
  ·have:Nat.log2 l.length<11:=(Nat.log2_lt (by assumption)).2 (by omega)
   omega
 have key:∀n,l.length+1≤n→ZP n 0 (l.length:Int) (bitsLen l.length:Int) cmp l=some (Sort.sort (ltC c) l.toArray).toList:=by
  intro n hn
  obtain⟨m,rfl⟩:∃m,n=m+1:=⟨n-1,by omega⟩
  obtain⟨⟨r1,_⟩,_⟩:=ZsG hc hs l.length m (by omega) 0 l.length (bitsLen l.length) true true l.toArray (by omega) (by omega) (by simp) hd hbl
  refine(r1:ZP (m+1) 0 (l.length:Int) (bitsLen l.length:Int) cmp l=_).trans ?_
  unfold Sort.sort
  rw[List.size_toArray]
 unfold Zau ZcF
 rw[l1,Option.bind_some,Zr5 key]
 rfl
theorem Zt7 (l:List Int) (hl:l.length≤1000) (hP:∀x∈l,P x):∃r:List Int,Zau cmp l=some r∧r.Perm l∧r.Pairwise (fun x y=>ltC c y x=false):=by
 refine⟨_,Zsx hc hs l hl hP,?_⟩
 obtain⟨⟨h1,_,h2⟩,h3⟩:=sort_sorts (ltC c) hs l.toArray
 generalize Sort.sort (ltC c) l.toArray=d at *
 constructor
 ·have e1:d.extract 0 l.toArray.size=d:=by rw[← h1];simp
  rw[e1] at h2
  simpa using h2
 ·rw[List.pairwise_iff_getElem]
  intro i j hi hj hij
  have hj':j<d.size:=by simpa using hj
  have hi':i<d.size:=by omega
  have:=h3 i j (Nat.zero_le _) hij (by omega)
  rw[getElem!_pos d j hj',getElem!_pos d i hi'] at this
  simpa using this
end
end Go.Proofs.YtnpidpcmpleiaaaDoor
namespace Go.Proofs.YtnpidpcmpleiaaaDoor
open Go Go.Proofs.YtnpidpcmpleiaaaDoorE Go.Sort
set_option linter.unusedVariables false
set_option linter.unusedSimpArgs false
def sel {γ:Type} (p:γ→Bool) (g:Nat→γ→Int):Nat→List γ→List Int
 | _,[]=>[]
 | i,x :: l=>bif p x then g i x :: sel p g (i+1) l else sel p g (i+1) l
theorem Zkw {γ:Type} (p:γ→Bool) (g:Nat→γ→Int):∀(l:List γ) (i:Nat),(sel p g i l).length=l.countP p
 | [],_=>rfl
 | x :: l,i=>by
  unfold sel
  have ih:=Zkw p g l (i+1)
  cases h:p x with
  | true=>simp[ih,h]
  | false=>simp[ih,h]
theorem ZmN {γ:Type} (p:γ→Bool) (g:Nat→γ→Int) (z:Int):∀(l:List γ) (i:Nat),z∈sel p g i l↔∃j x,l[j]? = some x∧p x=true∧z=g (i+j) x
 | [],i=>by simp[sel]
 | x :: l,i=>by
  have ih:=ZmN p g z l (i+1)
  have key:(∃j y,(x :: l)[j]? = some y∧p y=true∧z=g (i+j) y)↔(p x=true∧z=g i x)∨∃j y,l[j]? = some y∧p y=true∧z=g (i+1+j) y:=by
   constructor
   ·rintro ⟨j,y,h1,h2,h3⟩
    cases j with
    | zero=>left;simp at h1;subst h1;exact⟨h2,h3⟩
    | succ j=>right;exact⟨j,y,by simpa using h1,h2,by rw[h3];congr 1;omega⟩
   ·rintro (⟨h2,h3⟩ | ⟨j,y,h1,h2,h3⟩)
    ·exact⟨0,x,rfl,h2,h3⟩
    ·exact⟨j+1,y,by simpa using h1,h2,by rw[h3];congr 1;omega⟩
  rw[key]
  unfold sel
  cases h:p x with
  | true=>simp[ih]
  | false=>simp[ih]
theorem Zm1 {γ:Type} (l:List γ) (hl:l.length≤1000) (p:γ→Bool) (g:Nat→γ→Int) (Zav:Int×List Int→Option ((Int×List Int)⊕List Int))
  (h1:∀i x s,i<l.length→l[i]? = some x→Zav ((i:Int),s)=(bif p x then (bif Nat.ble (s.length+1) lim then some (.inl (((i+1:Nat):Int),s++[g i x])) else none) else some (.inl (((i+1:Nat):Int),s))))
  (h2:∀s,Zav ((l.length:Int),s)=some (.inr s)) (s:List Int) (hs:s.length≤1000000):lp Zav (0,s)=some (s++sel p g 0 l):=by
 have key:=ZmI l Zav (fun i s=>((i:Int),s)) (fun i x s=>bif p x then (bif Nat.ble (s.length+1) lim then some (.inl (s++[g i x])) else none) else some (.inl s)) (fun s=>some s) (fun i x s hi hx=>by
   rw[h1 i x s hi hx]
   cases p x<;>cases Nat.ble (s.length+1) lim<;>rfl) (fun s=>h2 s) s
 refine(key:lp Zav (0,s)=_).trans ?_
 have:∀(l:List γ) (i:Nat) (s:List Int),s.length+l.length≤1001000→ZjJ (fun i x s=>bif p x then (bif Nat.ble (s.length+1) lim then some (Sum.inl (s++[g i x])) else (none:Option (List Int⊕List Int))) else some (.inl s)) (fun s=>some s) i l s=some (s++sel p g i l):=by
  intro l
  induction l with
  | nil=>intro i s _;simp[ZjJ,sel]
  | cons x l ih=>
   intro i s hb
   rw[List.length_cons] at hb
   unfold ZjJ sel
   cases p x with
   | true=>
    rw[Zk4 (show s.length+1≤1073741824 by omega)]
    simp only[cond_true]
    rw[ih (i+1) (s++[g i x]) (by rw[List.length_append,List.length_singleton];omega)]
    simp
   | false=>
    simp only[cond_false]
    rw[ih (i+1) s (by omega)]
 exact this l 0 s (by omega)
theorem Zk7 (k:Int→Int):∀(l m:List Int),l.Pairwise (fun x y=>k x<k y)→m.Pairwise (fun x y=>k x<k y)→(∀z,z∈l↔z∈m)→l=m
 | [],[],_,_,_=>rfl
 | [],y :: m,_,_,h=>absurd ((h y).2 (by simp)) (by simp)
 | x :: l,[],_,_,h=>absurd ((h x).1 (by simp)) (by simp)
 | x :: l,y :: m,h1,h2,h=>by
  rw[List.pairwise_cons] at h1 h2
  have hxy:x=y:=by
   rcases List.mem_cons.1 ((h x).1 (by simp)) with e | e
   ·exact e
   ·rcases List.mem_cons.1 ((h y).2 (by simp)) with e2 | e2
    ·exact e2.symm
    ·have:=h2.1 _ e
     have:=h1.1 _ e2
     omega
  subst hxy
  congr 1
  refine Zk7 k l m h1.2 h2.2 fun z=>?_
  constructor
  ·intro hz
   rcases List.mem_cons.1 ((h z).1 (by simp[hz])) with e | e
   ·subst e
    have:=h1.1 _ hz
    omega
   ·exact e
  ·intro hz
   rcases List.mem_cons.1 ((h z).2 (by simp[hz])) with e | e
   ·subst e
    have:=h2.1 _ hz
    omega
   ·exact e
structure ZoO (d:Zt):Prop where
 w:∀p∈d.parts,1≤p.work∧p.work≤100
 e:∀x∈d.edges,two d.parts.length x.src x.dst=true
 f:∀x∈d.futures,two d.parts.length x.maker x.user=true∧1≤x.pos∧x.pos≤Zgt d.parts x.user-1
 ne:∀(i j:Nat) (x y:Zn),i<j→d.futures[i]? = some x→d.futures[j]? = some y→¬(x.user=y.user∧x.pos=y.pos)
theorem Zpd {d:Zt} (h:ZeC d=0):ZoO d:=by
 unfold ZeC at h
 have all:Zk1 d=true∧ZiW d=true∧d.parts.any ZdS=false∧Zfl (ZdF d) 0 d.edges=false∧Zfl (Zb6 d) 0 d.futures=false:=by
  revert h
  cases Zk1 d<;>cases ZiW d<;>cases d.parts.any ZdS<;>cases Zfl (ZdF d) 0 d.edges<;>cases Zfl (Zb6 d) 0 d.futures<;>simp
 obtain⟨_,_,h3,h4,h5⟩:=all
 have he:∀(i:Nat) x,d.edges[i]? = some x→ZdF d i x=false:=fun i x hx=>by
  cases hb:ZdF d i x with
  | false=>rfl
  | true=>rw[(Zk8 _ _ 0).2 ⟨i,x,hx,by simpa using hb⟩] at h4;cases h4
 have hf:∀(i:Nat) x,d.futures[i]? = some x→Zb6 d i x=false:=fun i x hx=>by
  cases hb:Zb6 d i x with
  | false=>rfl
  | true=>rw[(Zk8 _ _ 0).2 ⟨i,x,hx,by simpa using hb⟩] at h5;cases h5
 refine⟨ZlF h3,fun x hx=>?_,fun x hx=>?_,fun i j x y hij hx hy=>?_⟩
 ·obtain⟨i,hi⟩:=List.getElem?_of_mem hx
  have:=he i x hi
  unfold ZdF at this
  simp only[Bool.or_eq_false_iff,Bool.not_eq_false'] at this
  exact this.1
 ·obtain⟨i,hi⟩:=List.getElem?_of_mem hx
  have:=hf i x hi
  unfold Zb6 Zb5 at this
  simp only[Bool.or_eq_false_iff,Bool.not_eq_false',Bool.and_eq_true,decide_eq_true_eq] at this
  exact⟨this.1,this.2.1.1,this.2.1.2⟩
 ·rintro ⟨h1,h2⟩
  have:=hf j y hy
  unfold Zb6 at this
  simp only[Bool.or_eq_false_iff] at this
  have h6:=List.any_eq_false.1 this.2.2 x (List.mem_of_getElem? (i:=i) (by rw[List.getElem?_take_of_lt hij];exact hx))
  unfold again at h6
  simp[h1,h2] at h6
theorem Zmf {d:Zt} (g:ZoO d) (u:Int):Zgt d.parts u≤100:=by
 unfold Zgt
 split
 ·rename_i p hp;exact(g.w p (List.mem_of_getElem? hp)).2
 ·omega
def Zft (fs:List Zn) (z:Int):Int:=match fs[z.toNat]? with | some f=>f.pos | none=>0
def Zlm (d:Zt) (u:Int):List Int:=sel (fun f:Zn=>f.user==u) (fun i _=>(i:Int)) 0 d.futures
theorem ZhW (d:Zt) (u z:Int):z∈Zlm d u↔∃(i:Nat) (f:Zn),d.futures[i]? = some f∧f.user=u∧z=(i:Int):=by
 unfold Zlm
 rw[ZmN]
 simp
theorem Zlt (d:Zt) (u:Int):(Zlm d u).Pairwise (fun x y=>x<y):=by
 have:∀(l:List Zn) (i:Nat),(sel (fun f:Zn=>f.user==u) (fun i _=>(i:Int)) i l).Pairwise (fun x y=>x<y)∧∀z∈sel (fun f:Zn=>f.user==u) (fun i _=>(i:Int)) i l,(i:Int)≤z:=by
  intro l
  induction l with
  | nil=>intro i;simp[sel]
  | cons x l ih=>
   intro i
   obtain⟨h1,h2⟩:=ih (i+1)
   unfold sel
   cases x.user==u with
   | true=>
    simp only[cond_true,List.pairwise_cons,List.mem_cons]
    refine⟨⟨fun z hz=>?_,h1⟩,?_⟩
    ·have:=h2 z hz;omega
    ·rintro z (rfl | hz)
     ·exact Int.le_refl _
     ·have:=h2 z hz;omega
   | false=>
    simp only[cond_false]
    exact⟨h1,fun z hz=>by have:=h2 z hz;omega⟩
 exact(this d.futures 0).1
structure ZdL (d:Zt) (u:Int) (r:List Int):Prop where
 mem:∀z,z∈r↔∃(i:Nat) (f:Zn),d.futures[i]? = some f∧f.user=u∧z=(i:Int)
 rise:r.Pairwise (fun x y=>Zft d.futures x<Zft d.futures y)
theorem ZdL.eq {d:Zt}{u:Int}{r s:List Int} (h1:ZdL d u r) (h2:ZdL d u s):r=s:=Zk7 (Zft d.futures) r s h1.rise h2.rise fun z=>by rw[h1.mem,h2.mem]
theorem Znm {l:List Int}{p q:Int→Int→Prop} (h:l.Pairwise p) (hq:∀x y,x∈l→y∈l→p x y→q x y):l.Pairwise q:=by
 rw[List.pairwise_iff_getElem] at h ⊢
 exact fun i j hi hj hij=>hq _ _ (List.getElem_mem hi) (List.getElem_mem hj) (h i j hi hj hij)
theorem ZrC {d:Zt} (g:ZoO d) {u x y:Int} (hx:∃(i:Nat) (f:Zn),d.futures[i]? = some f∧f.user=u∧x=(i:Int)) (hy:∃(i:Nat) (f:Zn),d.futures[i]? = some f∧f.user=u∧y=(i:Int)) (hne:x≠y):Zft d.futures x≠Zft d.futures y:=by
 obtain⟨i,f,h1,h2,rfl⟩:=hx
 obtain⟨j,e,h3,h4,rfl⟩:=hy
 intro he
 unfold Zft at he
 rw[Int.toNat_natCast,Int.toNat_natCast,h1,h3] at he
 simp only at he
 rcases Nat.lt_trichotomy i j with h | h | h
 ·exact g.ne i j f e h h1 h3 ⟨h2.trans h4.symm,he⟩
 ·exact hne (by rw[h])
 ·exact g.ne j i e f h h3 h1 ⟨h4.trans h2.symm,he.symm⟩
theorem Zp3 {d:Zt} (g:ZoO d):Znj (fun z0 z1=>Zl z0 z1 d.futures) (fun x y=>Zft d.futures x-Zft d.futures y) (fun z=>0≤z∧z.toNat<d.futures.length):=by
 intro x y hx hy
 have b:∀z:Int,z.toNat<d.futures.length→∃f,d.futures[z.toNat]? = some f∧Zft d.futures z=f.pos∧1≤f.pos∧f.pos≤100:=fun z hz=>by
  have hm:=List.getElem_mem hz
  have:=g.f _ hm
  have hw:=Zmf g d.futures[z.toNat].user
  exact⟨d.futures[z.toNat],List.getElem?_eq_getElem hz,by unfold Zft;rw[List.getElem?_eq_getElem hz],this.2.1,by omega⟩
 obtain⟨f,f1,f2,f3,f4⟩:=b x hx.2
 obtain⟨e,e1,e2,e3,e4⟩:=b y hy.2
 show Zl x y d.futures=some (Zft d.futures x-Zft d.futures y)
 unfold Zl
 rw[ZoY hx.1 f1,ZoY hy.1 e1]
 simp only[Option.bind_some]
 rw[f2,e2,Zea (by omega) (by omega)]
theorem Zsn (k:Int→Int):SWO (ltC fun x y=>k x-k y):=by
 refine⟨fun x=>?_,fun x y z h1 h2=>?_,fun x y z h1 h2=>?_⟩
 ·show decide (k x-k x<0)=false
  exact decide_eq_false (by omega)
 ·simp only[ltC,decide_eq_true_eq] at *
  omega
 ·simp only[ltC,decide_eq_false_iff_not] at *
  omega
theorem Zl1 (d:Zt) (h:Zeo d) (hf:d.futures.length≤1000) (hc:ZeC d=0) (u:Int):∃r,Zcm d u=some r∧ZdL d u r:=by
 have g:=Zpd hc
 have key:=Zm1 d.futures hf (fun f:Zn=>f.user==u) (fun i _=>(i:Int)) (Zcu d u) (fun i x s hi hx=>by
   simp only[Zcu,Zfn hi,Za5 hx,Option.bind_some,Zae hi h.f,cond_true]) (fun s=>by simp only[Zcu,Zfk];rfl) [] (by simp)
 have hP:∀x∈Zlm d u,0≤x∧x.toNat<d.futures.length:=fun x hx=>by
  obtain⟨i,f,h1,h2,rfl⟩:=(ZhW d u x).1 hx
  have:=(List.getElem?_eq_some_iff.1 h1).1
  exact⟨by omega,by simpa using this⟩
 have hlen:(Zlm d u).length≤1000:=by
  unfold Zlm
  rw[Zkw]
  exact Nat.le_trans List.countP_le_length hf
 obtain⟨r,h1,h2,h3⟩:=Zt7 (Zp3 g) (Zsn _) (Zlm d u) hlen hP
 refine⟨r,?_,?_,?_⟩
 ·unfold Zcm
  rw[Zkn d h,hc]
  simp only[Option.bind_some,bne_self_eq_false,cond_false]
  rw[key,List.nil_append,Option.bind_some]
  show(Zau (fun z0 z1=>Zl z0 z1 d.futures) (Zlm d u)).bind _=_
  rw[h1]
  rfl
 ·exact fun z=>by rw[h2.mem_iff,ZhW]
 ·have nd:r.Pairwise (fun x y=>x≠y):=(h2.pairwise_iff (fun h=>Ne.symm h)).2 ((Zlt d u).imp fun h=>by omega)
  refine Znm (h3.and nd) fun x y hx hy hp=>?_
  have a:=(ZhW d u x).1 (h2.mem_iff.1 hx)
  have b:=(ZhW d u y).1 (h2.mem_iff.1 hy)
  have h4:=ZrC g a b hp.2
  have h5:=hp.1
  simp only[ltC,decide_eq_false_iff_not] at h5
  omega
theorem ZnR (d:Zt) (h:Zeo d) (hc:ZeC d≠0) (u:Int):Zcm d u=some []:=by
 unfold Zcm
 rw[Zkn d h]
 simp only[Option.bind_some,show(ZeC d != 0)=true by simpa using hc,cond_true]
def Zh7 (fs:List Zn) (z:Int):Int:=match fs[z.toNat]? with | some f=>f.maker | none=>0
def Zmg (d:Zt) (u:Int) (r:List Int):List Int:=sel (fun e:ZL=>e.dst==u) (fun _ e=>e.src) 0 d.edges++r.map (Zh7 d.futures)
theorem Zph {γ:Type} (k:γ→Int):∀(l:List γ) (i:Nat),sel (fun _=>true) (fun _ x=>k x) i l=l.map k
 | [],_=>rfl
 | x :: l,i=>by unfold sel;rw[Zph k l];rfl
theorem ZkE (d:Zt) (r s:List Int) (hr:r.length≤1000) (hs:s.length≤1000000) (hP:∀x∈r,0≤x∧x.toNat<d.futures.length) (Zav:Int×List Int→Option ((Int×List Int)⊕List Int))
  (hstep:∀t,Zav t=(bif (decide (t.1<(r.length:Int))) then (ZF r t.1).bind fun x6=>(ZF d.futures x6).bind fun x7=>bif (Nat.ble (List.length t.2+1) lim) then some (.inl ((w64 (t.1+1)),(t.2++[x7.maker]))) else none else some (.inr t.2))) :
  lp Zav (0,s)=some (s++r.map (Zh7 d.futures)):=by
 rw[← Zph (Zh7 d.futures) r 0]
 refine Zm1 r hr (fun _=>true) (fun _ x=>Zh7 d.futures x) Zav (fun i x s hi hx=>?_) (fun s=>?_) s hs
 ·obtain⟨p1,p2⟩:=hP x (List.mem_of_getElem? hx)
  rw[hstep]
  have hm:Zh7 d.futures x=d.futures[x.toNat].maker:=by unfold Zh7;rw[List.getElem?_eq_getElem p2]
  simp only[Zfn hi,Za5 hx,Option.bind_some,Zae hi (show r.length<9223372036854775808 by omega),cond_true,Znb p1 p2,hm]
 ·rw[hstep]
  simp only[Zfk,cond_false]
theorem ZnY {d:Zt}{u:Int}{r:List Int} (h:ZdL d u r):∀x∈r,0≤x∧x.toNat<d.futures.length:=fun x hx=>by
 obtain⟨i,f,h1,h2,rfl⟩:=(h.mem x).1 hx
 have:=(List.getElem?_eq_some_iff.1 h1).1
 exact⟨by omega,by simpa using this⟩
theorem Zpw {d:Zt}{u:Int}{r:List Int} (h:ZdL d u r):r.length=(Zlm d u).length:=by
 have nd1:r.Nodup:=h.rise.imp fun hp he=>by rw[he] at hp;omega
 have nd2:(Zlm d u).Nodup:=(Zlt d u).imp fun hp he=>by omega
 exact((List.perm_ext_iff_of_nodup nd1 nd2).2 fun z=>by rw[h.mem,ZhW]).length_eq
theorem ZhP {d:Zt}{u:Int}{r:List Int} (h:ZdL d u r):r.length≤d.futures.length:=by
 rw[Zpw h]
 unfold Zlm
 rw[Zkw]
 exact List.countP_le_length
theorem Zmp (d:Zt) (he:d.edges.length≤1000) (u:Int) (Zav:Int×List Int→Option ((Int×List Int)⊕List Int))
  (hstep:∀t,Zav t=(bif (decide (t.1<(d.edges.length:Int))) then (ZF d.edges t.1).bind fun x2=>bif (x2.dst==u) then bif (Nat.ble (List.length t.2+1) lim) then some (.inl ((w64 (t.1+1)),(t.2++[x2.src]))) else none else some (.inl ((w64 (t.1+1)),t.2)) else some (.inr t.2))) :
  lp Zav (0,[])=some (sel (fun e:ZL=>e.dst==u) (fun _ e=>e.src) 0 d.edges):=by
 have key:=Zm1 d.edges he (fun e:ZL=>e.dst==u) (fun _ e=>e.src) Zav (fun i x s hi hx=>by
   rw[hstep]
   simp only[Zfn hi,Za5 hx,Option.bind_some,Zae hi (show d.edges.length<9223372036854775808 by omega),cond_true]) (fun s=>by rw[hstep];simp only[Zfk,cond_false]) [] (by simp)
 rwa [List.nil_append] at key
theorem Zia {γ:Type} (p:γ→Bool) (g:Nat→γ→Int) (l:List γ) (i:Nat):(sel p g i l).length≤l.length:=by rw[Zkw];exact List.countP_le_length
end Go.Proofs.YtnpidpcmpleiaaaDoor
namespace Go.Proofs.YtnpidpcmpleiaaaDoor
open Go Go.Proofs.YtnpidpcmpleiaaaDoorE
set_option linter.unusedVariables false
set_option linter.unusedSimpArgs false
def Zm5 (n:Int):Bool:=(List.range 40).any fun k=>((2:Int) ^ k==n)
theorem Zsl (n:Int):∃k,Zfb n=some (k,Zm5 n):=by
 have Zav:∀k:Nat,k<40→Zb2 n ((2:Int) ^ k,(k:Int))=some (bif ((2:Int) ^ k==n) then .inr (.inl (k:Int)) else .inl ((2:Int) ^ (k+1),((k+1:Nat):Int))):=by
  intro k hk
  have hp:(2:Int) ^ k≤2 ^ 39:=by
   have:(2:Nat) ^ k≤2 ^ 39:=Nat.pow_le_pow_right (by omega) (by omega)
   exact_mod_cast this
  have hq:(0:Int)<2 ^ k:=by
   have:(0:Nat)<2 ^ k:=Nat.pow_pos (by omega)
   exact_mod_cast this
  have e39:(2:Int) ^ 39=549755813888:=by decide
  rw[e39] at hp
  have e1:w64 (2*(2:Int) ^ k)=(2:Int) ^ (k+1):=by rw[Zea (by omega) (by omega),Int.pow_succ];omega
  have e2:w64 ((k:Int)+1)=((k+1:Nat):Int):=Zae hk (by omega)
  unfold Zb2
  simp only[decide_eq_true (show(k:Int)<40 by omega),cond_true,e1,e2]
  cases ((2:Int) ^ k==n)<;>rfl
 have key:∀m k:Nat,k+m=40→lp (Zb2 n) ((2:Int) ^ k,(k:Int))=some (match (List.range' k m).find? (fun j=>(2:Int) ^ j==n) with | some j=>.inl (j:Int) | none=>.inr ()):=by
  intro m
  induction m with
  | zero=>
   intro k hk
   have:k=40:=by omega
   subst this
   rw[Zb9]
   unfold Zb2
   rfl
  | succ m ih=>
   intro k hk
   rw[Zb9,Zav k (by omega),List.range'_succ,List.find?_cons]
   cases h:((2:Int) ^ k==n) with
   | true=>rfl
   | false=>exact ih (k+1) (by omega)
 have k0:=key 40 0 rfl
 rw[show((2:Int) ^ 0)=1 from rfl] at k0
 have e:(List.range 40).any (fun j=>(2:Int) ^ j==n)=((List.range' 0 40).find? (fun j=>(2:Int) ^ j==n)).isSome:=by
  rw[List.range_eq_range',Bool.eq_iff_iff,List.any_eq_true,List.find?_isSome]
 unfold Zfb Zm5
 rw[e]
 cases hf:(List.range' 0 40).find? (fun j=>(2:Int) ^ j==n) with
 | none=>
  rw[hf] at k0
  refine⟨0,?_⟩
  show(lp (Zb2 n) (1,((0:Nat):Int))).bind _=_
  rw[k0];rfl
 | some j=>
  rw[hf] at k0
  refine⟨j,?_⟩
  show(lp (Zb2 n) (1,((0:Nat):Int))).bind _=_
  rw[k0];rfl
theorem Zoz (n:Nat) (h:n≤4096):Zm5 (n:Int)=ZrV n:=by
 rw[Bool.eq_iff_iff]
 unfold Zm5 ZrV
 rw[List.any_eq_true]
 constructor
 ·rintro ⟨k,hk,he⟩
  have hk:=List.mem_range.1 hk
  have he:(2:Nat) ^ k=n:=by have:=eq_of_beq he;exact_mod_cast this
  have h13:k<13:=by
   rcases Nat.lt_or_ge k 13 with h1 | h1
   ·exact h1
   ·have:2 ^ 13≤2 ^ k:=Nat.pow_le_pow_right (by omega) h1
    omega
  subst he
  have:((List.range 13).all fun k=>[1,2,4,8,16,32,64,128,256,512,1024,2048,4096].contains (2 ^ k))=true:=by decide
  exact List.all_eq_true.1 this k (by simpa using h13)
 ·intro h
  have:n=2 ^ 0∨n=2 ^ 1∨n=2 ^ 2∨n=2 ^ 3∨n=2 ^ 4∨n=2 ^ 5∨n=2 ^ 6∨n=2 ^ 7∨n=2 ^ 8∨n=2 ^ 9∨n=2 ^ 10∨n=2 ^ 11∨n=2 ^ 12:=by
   simpa using h
  rcases this with h | h | h | h | h | h | h | h | h | h | h | h | h<;>subst h
  ·exact⟨0,by decide,by decide⟩
  ·exact⟨1,by decide,by decide⟩
  ·exact⟨2,by decide,by decide⟩
  ·exact⟨3,by decide,by decide⟩
  ·exact⟨4,by decide,by decide⟩
  ·exact⟨5,by decide,by decide⟩
  ·exact⟨6,by decide,by decide⟩
  ·exact⟨7,by decide,by decide⟩
  ·exact⟨8,by decide,by decide⟩
  ·exact⟨9,by decide,by decide⟩
  ·exact⟨10,by decide,by decide⟩
  ·exact⟨11,by decide,by decide⟩
  ·exact⟨12,by decide,by decide⟩
theorem Zrd (d:Zt):ZeF d=some (ZiW d):=by
 obtain⟨k,hk⟩:=Zsl d.period
 unfold ZeF ZiW Zb5
 simp only[hk,Option.bind_some]
 by_cases h1:d.period<0
 ·have:Zm5 d.period=false:=by
   unfold Zm5
   rw[List.any_eq_false]
   intro k _ he
   have he:=eq_of_beq he
   have:(0:Nat)<2 ^ k:=Nat.pow_pos (by omega)
   have:(0:Int)<2 ^ k:=by exact_mod_cast this
   omega
  rw[this,ZrP h1];rfl
 ·by_cases h2:d.period≤4096
  ·have e:d.period=((d.period.toNat:Nat):Int):=by omega
   have:ZlO d.period=Zm5 d.period:=by rw[e,ZoK _ (by omega),Zoz _ (by omega)]
   rw[this,decide_eq_true h2,decide_eq_false (show ¬4096<d.period by omega)]
   cases Zm5 d.period<;>cases decide (1≤d.deadline)<;>cases decide (d.deadline≤d.period)<;>rfl
  ·rw[decide_eq_false h2,decide_eq_true (show 4096<d.period by omega)]
   cases Zm5 d.period<;>cases ZlO d.period<;>rfl
theorem ZpQ (d:Zt) (h:Zeo d):Zeh d=some (!(d.parts.any ZdS)):=by
 have key:=ZdQ d.parts (ZcP d) (fun _=>ZdS) (fun _ _=>.inl ()) (.inr ()) (fun i x hi hx=>by
   simp only[ZcP,Zfn hi,Za5 hx,Option.bind_some,Zae hi h.p,cond_true]
   have e1:decide (x.op<0) = !decide (0≤x.op):=by rw[← decide_not];exact decide_eq_decide.2 (by omega)
   have e2:decide (5<x.op) = !decide (x.op≤5):=by rw[← decide_not];exact decide_eq_decide.2 (by omega)
   have e3:decide (x.arg<0) = !decide (0≤x.arg):=by rw[← decide_not];exact decide_eq_decide.2 (by omega)
   have e4:decide (2147483647<x.arg) = !decide (x.arg≤2147483647):=by rw[← decide_not];exact decide_eq_decide.2 (by omega)
   have e5:decide (x.work<1) = !decide (1≤x.work):=by rw[← decide_not];exact decide_eq_decide.2 (by omega)
   have e6:decide (100<x.work) = !decide (x.work≤100):=by rw[← decide_not];exact decide_eq_decide.2 (by omega)
   simp only[e1,e2,e3,e4,e5,e6,ZdS,Zb5]
   cases decide (0≤x.op)<;>cases decide (x.op≤5)<;>cases decide (0≤x.arg)<;>cases decide (x.arg≤2147483647)<;>cases decide (1≤x.work)<;>cases decide (x.work≤100)<;>rfl) (by simp only[ZcP,Zfk];rfl)
 unfold Zeh
 rw[key,Zb1,Ze1]
 cases d.parts.any ZdS<;>rfl
def ZeM (n:Nat) (x:Int):Bool:=decide (0≤x)&&decide (x<(n:Int))
theorem ZkN (d:Zt) (x:Int):ZcL d x=some (ZeM d.parts.length x):=by
 unfold ZcL ZeM
 cases decide (0≤x)<;>cases decide (x<(d.parts.length:Int))<;>rfl
theorem ZnJ (n:Nat) (a b:Int):two n a b=((a != b)&&(ZeM n a&&ZeM n b)):=by
 unfold two ZeM
 rw[ZhM,ZhM]
theorem Znr {γ R:Type} (l:List γ) (i:Nat) (hi:i<l.length) (Zav:Int→Option (Int⊕R)) (p:γ→Bool) (c fin:R)
  (h1:∀(k:Nat) x,k<i→l[k]? = some x→Zav (k:Int)=some (bif p x then .inr c else .inl ((k+1:Nat):Int)))
  (h2:Zav (i:Int)=some (.inr fin)):lp Zav 0=some (bif (l.take i).any p then c else fin):=by
 have hl:(l.take i).length=i:=by rw[List.length_take];omega
 have key:=ZdQ (l.take i) Zav (fun _=>p) (fun _ _=>c) fin (fun k x hk hx=>by
   rw[hl] at hk
   refine h1 k x hk ?_
   rw[List.getElem?_take_of_lt hk] at hx
   exact hx) (by rw[hl];exact h2)
 rw[key,Zb1,Ze1]
theorem ZpF (d:Zt) (h:Zeo d):Zef d=some (!(Zfl (ZdF d) 0 d.edges)):=by
 have key:=ZdQ d.edges (ZcS d) (ZdF d) (fun _ _=>.inl ()) (.inr ()) (fun i x hi hx=>by
   have inner:=Znr d.edges i hi (ZcQ d (i:Int) x) (Zj2 x) (.inl ()) (.inr ()) (fun k y hk hy=>by
     simp only[ZcQ,Zfn hk,Za5 hy,Option.bind_some,Zae hk (Nat.lt_trans hi h.e),cond_true,Zj2]
     have e1:(y.src==x.src)=(x.src==y.src):=Bool.beq_comm
     have e2:(y.dst==x.dst)=(x.dst==y.dst):=Bool.beq_comm
     rw[e1,e2]
     cases (x.src==y.src)<;>cases (x.dst==y.dst)<;>rfl) (by simp only[ZcQ,Zfk];rfl)
   simp only[ZcS,Zfn hi,Za5 hx,Option.bind_some,Zae hi h.e,cond_true,ZkN,ZdF,ZnJ,inner,bne]
   cases ZeM d.parts.length x.src<;>cases ZeM d.parts.length x.dst<;>cases (x.src==x.dst)<;>cases (d.edges.take i).any (Zj2 x)<;>rfl) (by simp only[ZcS,Zfk];rfl)
 unfold Zef
 rw[key,Zb1]
 cases Zfl (ZdF d) 0 d.edges<;>rfl
theorem Zno (d:Zt) (h:Zeo d):ZdI d=some (!(Zfl (Zb6 d) 0 d.futures)):=by
 have key:=ZdQ d.futures (Zch d) (Zb6 d) (fun _ _=>.inl ()) (.inr ()) (fun i x hi hx=>by
   have inner:=Znr d.futures i hi (Zcg d (i:Int) x) (again x) (.inl ()) (.inr ()) (fun k y hk hy=>by
     simp only[Zcg,Zfn hk,Za5 hy,Option.bind_some,Zae hk (Nat.lt_trans hi h.f),cond_true,again]
     cases (y.user==x.user)<;>cases (y.pos==x.pos)<;>rfl) (by simp only[Zcg,Zfk];rfl)
   simp only[Zch,Zfn hi,Za5 hx,Option.bind_some,Zae hi h.f,cond_true,ZkN,Zb6,ZnJ,inner,bne]
   cases h1:ZeM d.parts.length x.maker with
   | false=>cases (x.maker==x.user)<;>rfl
   | true=>
    cases h2:ZeM d.parts.length x.user with
    | false=>cases (x.maker==x.user)<;>rfl
    | true=>
     simp only[ZeM,Bool.and_eq_true,decide_eq_true_eq] at h2
     have u2:x.user.toNat<d.parts.length:=by omega
     have wa:Zgt d.parts x.user=d.parts[x.user.toNat].work:=by simp only[Zgt,List.getElem?_eq_getElem u2]
     rw[Znb h2.1 u2,wa]
     have e1:decide (x.pos<1) = !decide (1≤x.pos):=by rw[← decide_not];exact decide_eq_decide.2 (by omega)
     have e2:decide (d.parts[x.user.toNat].work≤x.pos) = !decide (x.pos≤d.parts[x.user.toNat].work-1):=by rw[← decide_not];exact decide_eq_decide.2 (by omega)
     simp only[Option.bind_some,Zb5,e1,e2]
     cases (x.maker==x.user)<;>cases decide (1≤x.pos)<;>cases decide (x.pos≤d.parts[x.user.toNat].work-1)<;>cases (d.futures.take i).any (again x)<;>rfl) (by simp only[Zch,Zfk];rfl)
 unfold ZdI
 rw[key,Zb1]
 cases Zfl (Zb6 d) 0 d.futures<;>rfl
theorem Zpg (d:Zt) (hd:d.parts.length<9223372036854775808) (l:List Int) (hl:l.length<9223372036854775808):Zer d l=some (Ziy d.parts.length l):=by
 have key:=ZdQ l (Zdx d l) (ZnL d.parts.length l) (fun _ _=>.inl ()) (.inr ()) (fun i x hi hx=>by
   simp only[Zdx,Zfn hi,Za5 hx,Option.bind_some,Zae hi hl,cond_true,ZkN,ZnL,ZhM]
   show(bif ZeM d.parts.length x then _ else _)=some (bif !(ZeM d.parts.length x) || _ then _ else _)
   cases ZeM d.parts.length x with
   | false=>rfl
   | true=>
    cases i with
    | zero=>rfl
    | succ i=>
     rw[decide_eq_true (show(0:Int)<((i+1:Nat):Int) by omega),Zea (by omega) (by omega),show(((i+1:Nat):Int)-1)=(i:Int) by omega]
     have hi2:l[i]? = some l[i]:=List.getElem?_eq_getElem (by omega)
     rw[Za5 hi2]
     simp only[cond_true,Option.bind_some,Bool.not_true,Bool.false_or,hi2]
     cases decide (x≤l[i])<;>rfl) (by simp only[Zdx,Zfk];rfl)
 unfold Zer Ziy
 rw[key,Zb1]
 exact Zpc _ _
theorem Zsd (l:List Int) (n:Int) (hl:l.length<9223372036854775808):Ze7 l n=some (l.any fun x=>n==x):=by
 have key:=ZdQ l (Zdw l n) (fun _ x=>n==x) (fun _ _=>.inl ()) (.inr ()) (fun i x hi hx=>by
   have e:(x==n)=(n==x):=Bool.beq_comm
   simp only[Zdw,Zfn hi,Za5 hx,Option.bind_some,Zae hi hl,cond_true,e]
   cases (n==x)<;>rfl) (by simp only[Zdw,Zfk];rfl)
 unfold Ze7
 rw[key,Zb1,Ze1]
 cases (l.any fun x=>n==x)<;>rfl
theorem Zne (d:Zt) (h:Zeo d):Zds d=some (!(d.barriers.any (Zdj d.parts.length))):=by
 have key:=ZdQ d.barriers (Zb8 d) (fun _=>Zdj d.parts.length) (fun _ _=>.inl ()) (.inr ()) (fun i x hi hx=>by
   have hb:=h.i x (List.mem_of_getElem? hx)
   have inner:=ZdQ x.ins (Zb7 x) (fun _=>Zkf x) (fun _ _=>.inl ()) (.inr ()) (fun k y hk hy=>by
     simp only[Zb7,Zfn hk,Za5 hy,Option.bind_some,Zae hk hb.1,cond_true,Zsd _ _ hb.2,Zkf]
     cases (x.outs.any fun z=>y==z)<;>rfl) (by simp only[Zb7,Zfk];rfl)
   rw[Zb1,Ze1] at inner
   simp only[Zb8,Zfn hi,Za5 hx,Option.bind_some,Zae hi h.b,cond_true,Zpg d h.p _ hb.1,Zpg d h.p _ hb.2,Zdj,inner]
   cases Ziy d.parts.length x.ins<;>cases Ziy d.parts.length x.outs<;>cases x.ins.any (Zkf x)<;>rfl) (by simp only[Zb8,Zfk];rfl)
 unfold Zds
 rw[key,Zb1,Ze1]
 cases d.barriers.any (Zdj d.parts.length)<;>rfl
theorem ZpH (d:Zt) (h:Zeo d):Zee d=some (ZeC d):=by
 unfold Zee ZeC Zk1 Zb5
 simp only[Zrd,ZpQ d h,ZpF d h,Zno d h,Zne d h,Option.bind_some]
 have e1:decide ((d.parts.length:Int)<1) = !decide (1≤(d.parts.length:Int)):=by rw[← decide_not];exact decide_eq_decide.2 (by omega)
 have e2:decide (16<(d.parts.length:Int)) = !decide ((d.parts.length:Int)≤16):=by rw[← decide_not];exact decide_eq_decide.2 (by omega)
 rw[e1,e2]
 cases decide (1≤(d.parts.length:Int)) with
 | false=>rfl
 | true=>
  cases decide ((d.parts.length:Int)≤16) with
  | false=>rfl
  | true=>
   cases decide ((48:Int)<d.edges.length) with
   | true=>rfl
   | false=>
    cases decide ((16:Int)<d.futures.length) with
    | true=>rfl
    | false=>
     cases decide ((4:Int)<d.barriers.length) with
     | true=>rfl
     | false=>cases ZiW d<;>cases d.parts.any ZdS<;>cases Zfl (ZdF d) 0 d.edges<;>cases Zfl (Zb6 d) 0 d.futures<;>cases d.barriers.any (Zdj d.parts.length)<;>rfl
end Go.Proofs.YtnpidpcmpleiaaaDoor
namespace Go.Proofs.YtnpidpcmpleiaaaDoor
open Go Go.Proofs.YtnpidpcmpleiaaaDoorE
set_option linter.unusedVariables false
set_option linter.unusedSimpArgs false
theorem Zqx {γ:Type} (p:γ→Bool):∀(l:List γ) (i:Nat),(sel p (fun i _=>(i:Int)) i l).Pairwise (fun x y=>x<y)∧∀z∈sel p (fun i _=>(i:Int)) i l,(i:Int)≤z:=by
 intro l
 induction l with
 | nil=>intro i;simp[sel]
 | cons x l ih=>
  intro i
  obtain⟨h1,h2⟩:=ih (i+1)
  unfold sel
  cases p x with
  | true=>
   simp only[cond_true,List.pairwise_cons,List.mem_cons]
   refine⟨⟨fun z hz=>?_,h1⟩,?_⟩
   ·have:=h2 z hz;omega
   ·rintro z (rfl | hz)
    ·exact Int.le_refl _
    ·have:=h2 z hz;omega
  | false=>
   simp only[cond_false]
   exact⟨h1,fun z hz=>by have:=h2 z hz;omega⟩
def ZhH (d:Zt) (u:Int) (t:Int):List Int:=sel (fun f:Zn=>f.user==u&&f.pos==t) (fun i _=>(i:Int)) 0 d.futures
theorem ZjE (d:Zt) (u t z:Int):z∈ZhH d u t↔∃(i:Nat) (f:Zn),d.futures[i]? = some f∧f.user=u∧f.pos=t∧z=(i:Int):=by
 unfold ZhH
 rw[ZmN]
 simp[and_assoc]
theorem Zic {d:Zt}{u t z:Int} (h:z∈ZhH d u t):Zft d.futures z=t:=by
 obtain⟨i,f,h1,_,h3,rfl⟩:=(ZjE d u t z).1 h
 unfold Zft
 rw[Int.toNat_natCast,h1,← h3]
theorem Zlg {d:Zt}{u t z:Int} (h:z∈ZhH d u t):∃(i:Nat) (f:Zn),d.futures[i]? = some f∧f.user=u∧z=(i:Int):=by
 obtain⟨i,f,h1,h2,_,h4⟩:=(ZjE d u t z).1 h
 exact⟨i,f,h1,h2,h4⟩
def tl (d:Zt) (u:Int):Nat→Nat→List Int
 | _,0=>[]
 | i,k+1=>ZhH d u ((i+1:Nat):Int)++tl d u (i+1) k
theorem Zow (d:Zt) (u z:Int):∀(k i:Nat),z∈tl d u i k↔∃t:Nat,i<t∧t≤i+k∧z∈ZhH d u (t:Int)
 | 0,i=>by
  unfold tl
  constructor
  ·intro h;cases h
  ·rintro ⟨t,h1,h2,_⟩;omega
 | k+1,i=>by
  unfold tl
  rw[List.mem_append,Zow d u z k (i+1)]
  constructor
  ·rintro (h | ⟨t,h1,h2,h3⟩)
   ·exact⟨i+1,by omega,by omega,h⟩
   ·exact⟨t,by omega,by omega,h3⟩
  ·rintro ⟨t,h1,h2,h3⟩
   by_cases h:t=i+1
   ·subst h;exact .inl h3
   ·exact .inr ⟨t,by omega,by omega,h3⟩
theorem Zpo {d:Zt} (g:ZoO d) (u:Int):∀(k i:Nat),(tl d u i k).Pairwise (fun x y=>Zft d.futures x<Zft d.futures y)
 | 0,i=>List.Pairwise.nil
 | k+1,i=>by
  unfold tl
  rw[List.pairwise_append]
  refine⟨?_,Zpo g u k (i+1),fun x hx y hy=>?_⟩
  ·refine Znm (Zqx _ _ _).1 fun x y hx hy hlt=>?_
   have hx':x∈ZhH d u ((i+1:Nat):Int):=hx
   have hy':y∈ZhH d u ((i+1:Nat):Int):=hy
   exact absurd ((Zic hx').trans (Zic hy').symm) (ZrC g (Zlg hx') (Zlg hy') (by omega))
  ·obtain⟨t,h1,h2,h3⟩:=(Zow d u y k (i+1)).1 hy
   rw[Zic hx,Zic h3]
   omega
theorem Zlq {d:Zt} (g:ZoO d) (u:Int):ZdL d u (tl d u 0 99):=by
 refine⟨fun z=>?_,Zpo g u 99 0⟩
 rw[Zow]
 constructor
 ·rintro ⟨t,_,_,h⟩;exact Zlg h
 ·rintro ⟨i,f,h1,h2,h3⟩
  have hf:=g.f f (List.mem_of_getElem? h1)
  have hw:=Zmf g f.user
  refine⟨f.pos.toNat,by omega,by omega,?_⟩
  rw[ZjE]
  exact⟨i,f,h1,h2,by omega,h3⟩
theorem Zj6 (d:Zt) (hf:d.futures.length≤1000) (u:Int):Zdc d u=some (tl d u 0 99):=by
 have inner:∀(t:Int) (s0 s:List Int),s.length≤1000000→lp (ZbP d u (t,s0)) (0,s)=some (s++ZhH d u t):=fun t s0 s hs=>
  Zm1 d.futures hf (fun f:Zn=>f.user==u&&f.pos==t) (fun i _=>(i:Int)) (ZbP d u (t,s0)) (fun i x s hi hx=>by
   simp only[ZbP,Zfn hi,Za5 hx,Option.bind_some,Zae hi (show d.futures.length<9223372036854775808 by omega),cond_true]
   cases x.user==u<;>cases x.pos==t<;>rfl) (fun s=>by simp only[ZbP,Zfk];rfl) s hs
 have key:∀(k i:Nat) (s:List Int),i+k=99→s.length≤1000*i→lp (Zc1 d u) (((i+1:Nat):Int),s)=some (s++tl d u i k):=by
  intro k
  induction k with
  | zero=>
   intro i s hi hs
   have:i=99:=by omega
   subst this
   rw[Zb9]
   unfold tl
   rw[List.append_nil]
   rfl
  | succ k ih=>
   intro i s hi hs
   rw[Zb9]
   unfold tl
   simp only[Zc1,decide_eq_true (show((i+1:Nat):Int)<100 by omega),cond_true,inner ((i+1:Nat):Int) s s (by omega),Option.bind_some,Zae (show i+1<100 by omega) (by omega)]
   have hl:(ZhH d u ((i+1:Nat):Int)).length≤1000:=Nat.le_trans (Zia _ _ _ _) hf
   rw[ih (i+1) (s++ZhH d u ((i+1:Nat):Int)) (by omega) (by rw[List.length_append];omega),List.append_assoc]
 have k0:=key 99 0 [] rfl (by simp)
 unfold Zdc
 rw[show((1:Int),([]:List Int))=(((0+1:Nat):Int),[]) from rfl,k0]
 rfl
end Go.Proofs.YtnpidpcmpleiaaaDoor
namespace Go.Proofs.YtnpidpcmpleiaaaDoor
open Go Go.Proofs.YtnpidpcmpleiaaaDoorE
set_option linter.unusedVariables false
set_option linter.unusedSimpArgs false
theorem Zpv (d:Zt) (he:d.edges.length≤1000) (hf:d.futures.length≤1000) (g:ZoO d) (u:Int) {r:List Int} (hr:ZdL d u r):Zec d u=some (Zmg d u r):=by
 have h2:=Zlq g u
 have e:=h2.eq hr
 have k1:=Zmp d he u (Zd3 d u) (fun t=>rfl)
 have k2:=ZkE d (tl d u 0 99) (sel (fun e:ZL=>e.dst==u) (fun _ e=>e.src) 0 d.edges) (Nat.le_trans (ZhP h2) hf) (Nat.le_trans (Zia _ _ _ _) (by omega)) (ZnY h2) (Zd2 d (tl d u 0 99)) (fun t=>rfl)
 unfold Zec Zmg
 simp only[k1,Option.bind_some,Zj6 d hf u,k2,← e]
end Go.Proofs.YtnpidpcmpleiaaaDoor
namespace Go.Proofs.YtnpidpcmpleiaaaDoor
open Go Go.Proofs.YtnpidpcmpleiaaaDoorE
set_option linter.unusedVariables false
set_option linter.unusedSimpArgs false
theorem Zn6 (a b:List Int) (hl:a.length<9223372036854775808):Zd4 a b=some (decide (a=b)):=by
  unfold Zd4
  by_cases he:a.length=b.length
  · have key := Zr4 a b he (Zc9 a b) (fun i x y hi hx hy => by
        simp only[Zc9,Zfn hi,Za5 hx,Za5 hy,Option.bind_some,Zae hi hl,cond_true]
        have e:(x != y) = !decide (x=y):=by rw[Bool.eq_iff_iff];simp
        rw[e]
        cases decide (x=y)<;>rfl) (by simp only[Zc9,Zfk];rfl)
    rw[key,show((a.length:Int) != (b.length:Int))=false by rw[he];simp]
    cases decide (a=b)<;>rfl
  · rw[show((a.length:Int) != (b.length:Int))=true by simp;omega,decide_eq_false (fun h=>he (by rw[h]))]
    rfl
section
variable (a b:Zt) (h:Zeo a)
include h
end
end Go.Proofs.YtnpidpcmpleiaaaDoor
namespace Go.Proofs.YtnpidpcmpleiaaaDoor
open Go Go.Proofs.YtnpidpcmpleiaaaDoorE Go.Sort
set_option linter.unusedVariables false
set_option linter.unusedSimpArgs false
theorem Zsj (d:Zt) (h:Zeo d) (he:d.edges.length≤1000) (hf:d.futures.length≤1000) (hc:ZeC d=0) (u:Int) {r:List Int} (hr:ZdL d u r):ZdD d u=some (Zmg d u r):=by
 obtain⟨r',h1,h2⟩:=Zl1 d h hf hc u
 have:=h2.eq hr
 subst this
 have k1:=Zmp d he u (Zei d u) (fun t=>rfl)
 have k2:=ZkE d r' (sel (fun e:ZL=>e.dst==u) (fun _ e=>e.src) 0 d.edges) (Nat.le_trans (ZhP h2) hf) (Nat.le_trans (Zia _ _ _ _) (by omega)) (ZnY h2) (Zej d r') (fun t=>rfl)
 unfold ZdD Zmg
 rw[Zkn d h,hc]
 simp only[Option.bind_some,bne_self_eq_false,cond_false,k1,h1,k2]
theorem Zpt (d:Zt) (h:Zeo d) (hc:ZeC d≠0) (u:Int):ZdD d u=some []:=by
 unfold ZdD
 rw[Zkn d h]
 simp only[Option.bind_some,show(ZeC d != 0)=true by simpa using hc,cond_true]
end Go.Proofs.YtnpidpcmpleiaaaDoor
namespace Go.Proofs.YtnpidpcmpleiaaaDoor
open Go Go.Proofs.YtnpidpcmpleiaaaDoorE
set_option linter.unusedVariables false
set_option linter.unusedSimpArgs false
theorem ZeO:∀r,Zeg=some r→evD ctx 4 []=some (D.bool r):=fun r h=>by
  cases h
  exact Zud 100 (by kernel_rfl)
def Ziz (r:Bool):D:=(D.bool r)
def Zgz (t0:Bool) (t1:Bool) (t2:Bool) (t3:Bool) (a:Zt):(Unit⊕Unit)→Ex×List V×Zi
  | (.inl r)=>(.ret,[(.ptr 0 0),(.d (D.bool false))],[(.cells (dV t0 t1 t2 t3 a))])
  | (.inr r)=>(.exit 0,[(.ptr 0 0),.bad],[(.cells (dV t0 t1 t2 t3 a))])
theorem Zi9 {t0:Bool}{t1:Bool}{t2:Bool}{t3:Bool}{a:Zt}:∀(s0:Int) (r:(Unit⊕Unit)),lp (Zdp a) s0=some r→lpW ctx 0 [1,3] [1,2] ZsP [(.ptr 0 0),(.d (Zf s0))] [(.cells (dV t0 t1 t2 t3 a))]=some ((Zgz t0 t1 t2 t3 a) r):=by
 refine Zbc (Zgz t0 t1 t2 t3 a) ?_
 intro s0 rcl ih
 show ZV _ _ (lpW _ _ _ _ _ _ _)
 unfold Zdp
 rw[Zbd]
 conv=>arg 3;whnf
 refine Zs (ZX _ _) ?_;conv=>arg 3;whnf
 refine Zd rfl ?_ ?_<;>conv=>arg 3;whnf
 ·refine Zd rfl ?_ ?_<;>conv=>arg 3;whnf
  ·refine Zk rfl rfl fun x1 hx1=>?_;conv=>arg 3;whnf
   refine Zs (ZX _ _) ?_;conv=>arg 3;whnf
   refine Zd rfl ?_ ?_<;>conv=>arg 3;whnf
   ·exact Ze rfl
   ·refine Zg (Za4 rfl hx1) ?_;conv=>arg 3;whnf
    refine Zs (ZX _ _) ?_;conv=>arg 3;whnf
    refine Zd rfl ?_ ?_<;>conv=>arg 3;whnf
    ·exact Ze rfl
    ·exact Zc (ih _)
  ·exact Ze rfl
 ·exact Ze rfl
theorem Zlw {t0:Bool}{t1:Bool}{t2:Bool}{t3:Bool}{a:Zt}:∀r,(Ze3 a)=some r→evD ctx 5 [(.d (D.agg (dA t0 t1 t2 t3 a)))]=some (Ziz r):=by
 show ZV _ (fun r rhs=>rhs=some (Ziz r)) _
 unfold Ze3
 rw[ZbC ctx 5 fn5 _ rfl rfl]
 conv=>arg 3;whnf
 refine Zb _ (Zi9 _) fun r2 hr2=>?_
 clear hr2
 rcases r2 with r2 | r2
 ·conv=>arg 3;whnf
  exact Ze rfl
 ·conv=>arg 3;whnf
  refine Zs (ZX _ _) ?_;conv=>arg 3;whnf
  refine Zd rfl ?_ ?_<;>conv=>arg 3;whnf
  ·refine Zs (ZX _ _) ?_;conv=>arg 3;whnf
   refine Zd rfl ?_ ?_<;>conv=>arg 3;whnf
   ·refine Zs (ZX _ _) ?_;conv=>arg 3;whnf
    refine Zd rfl ?_ ?_<;>conv=>arg 3;whnf
    ·refine Zs (ZX _ _) ?_;conv=>arg 3;whnf
     refine Zd rfl ?_ ?_<;>conv=>arg 3;whnf
     ·exact Ze rfl
     ·exact Ze rfl
    ·exact Ze rfl
   ·exact Ze rfl
  ·exact Ze rfl
def ZiD (t0:Bool) (t1:Bool) (t2:Bool) (t3:Bool) (a:Zt):(List Zm)→V×Zi
  | r=>((.agg [(.d (Zf a.period)),(.d (Zf a.deadline)),(.sl 0 3),(.sl 1 2),(.sl 2 3),(.sl 3 2)]),[(.arr 3 (List.map ZU a.parts)),(.arr 2 (List.map ZR a.edges)),(.arr 3 (List.map Zw a.futures)),(.arr 2 (List.map Zq r))])
def Zgu (t0:Bool) (t1:Bool) (t2:Bool) (t3:Bool) (a:Zt):(List Zm)→Ex×List V×Zi
  | r=>(.exit 0,[(.ptr 0 0),(.ptr 1 0)],[(.cells [(.d (Zf 0)),(.d (Zf 0)),(.sl 2 3),(.sl 3 2),(.sl 4 3),(.sl 5 2)]),(.cells [(.d (Zf a.period)),(.d (Zf a.deadline)),(.sl 6 3),(.sl 7 2),(.sl 8 3),(.sl 9 2)]),(.arr 3 []),(.arr 2 []),(.arr 3 []),(.arr 2 []),(.arr 3 (List.map ZU a.parts)),(.arr 2 (List.map ZR a.edges)),(.arr 3 (List.map Zw a.futures)),(.arr 2 (List.map Zq r))])
theorem Zi0 {t0:Bool}{t1:Bool}{t2:Bool}{t3:Bool}{a:Zt}:∀(s0:Int×(List Zm)) (r:(List Zm)),lp (ZcW a) s0=some r→lpW ctx 0 [1,2,3,4] [2,3] ZsV [(.ptr 0 0),(.ptr 1 0),(.ptr 2 0),(.d (Zf s0.1))] [(.cells (dV t0 t1 t2 t3 a)),(.cells [(.d (Zf 0)),(.d (Zf 0)),(.sl 3 3),(.sl 4 2),(.sl 5 3),(.sl 6 2)]),(.cells [(.d (Zf a.period)),(.d (Zf a.deadline)),(.sl 7 3),(.sl 8 2),(.sl 9 3),(.sl 10 2)]),(.arr 3 []),(.arr 2 []),(.arr 3 []),(.arr 2 []),(.arr 3 (List.map ZU a.parts)),(.arr 2 (List.map ZR a.edges)),(.arr 3 (List.map Zw a.futures)),(.arr 2 (List.map Zq s0.2))]=some ((Zgu t0 t1 t2 t3 a) r):=by
 refine Zbc (Zgu t0 t1 t2 t3 a) ?_
 intro s0 rcl ih
 show ZV _ _ (lpW _ _ _ _ _ _ _)
 unfold ZcW
 rw[Zbd]
 conv=>arg 3;whnf
 refine Zs (ZX _ _) ?_;conv=>arg 3;whnf
 refine Zd rfl ?_ ?_<;>conv=>arg 3;whnf
 ·refine Zk rfl rfl fun x1 hx1=>?_;conv=>arg 3;whnf
  refine Zcv (ZhY (f:=Zf) (fun _=>⟨rfl,rfl⟩) x1.ins 0) ?_;conv=>arg 3;whnf
  refine Zd (ZhX Zf x1.ins) ?_ ?_
  ·conv=>arg 3;whnf
   refine Zs (rfl:_=List.map Zf x1.ins) ?_;conv=>arg 3;whnf
   refine Zg (Za4 rfl hx1) ?_;conv=>arg 3;whnf
   refine Zcv (ZhY (f:=Zf) (fun _=>⟨rfl,rfl⟩) x1.outs 0) ?_;conv=>arg 3;whnf
   refine Zd (ZhX Zf x1.outs) ?_ ?_
   ·conv=>arg 3;whnf
    refine Zs (rfl:_=List.map Zf x1.outs) ?_;conv=>arg 3;whnf
    refine Zcv rfl ?_;conv=>arg 3;whnf
    refine Zd (Zg6 Zq s0.2 1) ?_ ?_
    ·conv=>arg 3;whnf
     refine Zs (Zg2 Zq s0.2 [x1]) ?_;conv=>arg 3;whnf
     exact Zc (ih _)
    ·exact Za0
   ·exact Za0
  ·exact Za0
 ·exact Ze rfl
theorem ZhA {t0:Bool}{t1:Bool}{t2:Bool}{t3:Bool}{a:Zt}:∀r,(Zeq a)=some r→evW ctx 7 [(.d (D.agg (dA t0 t1 t2 t3 a)))] []=some ((ZiD t0 t1 t2 t3 a) r):=by
 show ZV _ (fun r rhs=>rhs=some ((ZiD t0 t1 t2 t3 a) r)) _
 unfold Zeq
 rw[Ze4 ctx 7 fn7 _ _ rfl rfl]
 conv=>arg 3;whnf
 refine Zcv (ZhY (f:=ZU) (fun _=>⟨rfl,rfl⟩) a.parts 0) ?_;conv=>arg 3;whnf
 refine Zd (ZhX ZU a.parts) ?_ ?_
 ·conv=>arg 3;whnf
  refine Zs (rfl:_=List.map ZU a.parts) ?_;conv=>arg 3;whnf
  refine Zcv (ZhY (f:=ZR) (fun _=>⟨rfl,rfl⟩) a.edges 0) ?_;conv=>arg 3;whnf
  refine Zd (ZhX ZR a.edges) ?_ ?_
  ·conv=>arg 3;whnf
   refine Zs (rfl:_=List.map ZR a.edges) ?_;conv=>arg 3;whnf
   refine Zcv (ZhY (f:=Zw) (fun _=>⟨rfl,rfl⟩) a.futures 0) ?_;conv=>arg 3;whnf
   refine Zd (ZhX Zw a.futures) ?_ ?_
   ·conv=>arg 3;whnf
    refine Zs (rfl:_=List.map Zw a.futures) ?_;conv=>arg 3;whnf
    refine Zb _ (Zi0 _) fun r2 hr2=>?_;conv=>arg 3;whnf
    exact Ze rfl
   ·exact Za0
  ·exact Za0
 ·exact Za0
def Zhk (r:Bool):D:=(D.bool r)
theorem Zby {a:Int}{b:Int}{c:Int}:∀r,(Za6 a b c)=some r→evD ctx 22 [(.d (Zf a)),(.d (Zf b)),(.d (Zf c))]=some (Zhk r):=by
 show ZV _ (fun r rhs=>rhs=some (Zhk r)) _
 unfold Za6
 rw[ZbC ctx 22 ZtW _ rfl rfl]
 conv=>arg 3;whnf
 refine Zd rfl ?_ ?_<;>conv=>arg 3;whnf
 ·refine Zd rfl ?_ ?_<;>conv=>arg 3;whnf
  ·exact Ze rfl
  ·exact Ze rfl
 ·exact Ze rfl
def Zix (r:Int):D:=(Zf r)
theorem ZkS {a:Int}:∀r,(Ze0 a)=some r→evD ctx 46 [(.d (Zf a))]=some (Zix r):=by
 show ZV _ (fun r rhs=>rhs=some (Zix r)) _
 unfold Ze0
 rw[ZbC ctx 46 ZtX _ rfl rfl]
 conv=>arg 3;whnf
 refine Zd rfl ?_ ?_<;>conv=>arg 3;whnf
 ·exact Ze rfl
 ·refine Zd rfl ?_ ?_<;>conv=>arg 3;whnf
  ·exact Ze rfl
  ·exact Ze rfl
def Zd7 (r:Int):D:=(Zf r)
theorem ZfK {a:Int}:∀r,(ZbT a)=some r→evD ctx 65 [(.d (D.int .u64 a))]=some (Zd7 r):=by
 show ZV _ (fun r rhs=>rhs=some (Zd7 r)) _
 unfold ZbT
 rw[ZbC ctx 65 ZuB _ rfl rfl]
 conv=>arg 3;whnf
 refine Zab rfl ?_;conv=>arg 3;whnf
 refine Zab rfl ?_;conv=>arg 3;whnf
 refine Zab rfl ?_;conv=>arg 3;whnf
 refine Zab rfl ?_;conv=>arg 3;whnf
 refine Zab rfl ?_;conv=>arg 3;whnf
 refine Zab rfl ?_;conv=>arg 3;whnf
 exact Ze rfl
def Zes (r:Int):D:=(Zf r)
theorem Zgq {a:Int}:∀r,(Zcb a)=some r→evD ctx 47 [(.d (D.int .u64 a))]=some (Zes r):=by
 show ZV _ (fun r rhs=>rhs=some (Zes r)) _
 unfold Zcb
 rw[ZbC ctx 47 Zti _ rfl rfl]
 conv=>arg 3;whnf
 refine Zp _ ZfK rfl fun x0 hx0=>?_;conv=>arg 3;whnf
 exact Ze rfl
theorem ZuK (n:Int):0≤IntKind.u64.wrap n∧IntKind.u64.wrap n<18446744073709551616:=by
  have:IntKind.u64.wrap n=n % 18446744073709551616:=by
    show(if (false&&decide (n % 18446744073709551616 ≥ 9223372036854775808))=true then n % 18446744073709551616-18446744073709551616 else n % 18446744073709551616)=_
    simp
  rw[this]
  omega
theorem Zu2 (n:Int):∃j:Nat,j<64∧(IntKind.u64.wrap n).fdiv (2 ^ (min (Int.toNat 58) IntKind.u64.bits))=(j:Int):=by
  obtain⟨h1,h2⟩:=ZuK n
  have e:(2:Int) ^ (min (Int.toNat 58) IntKind.u64.bits)=288230376151711744:=by decide
  rw[e,Int.fdiv_eq_ediv_of_nonneg _ (by omega)]
  refine⟨((IntKind.u64.wrap n) / 288230376151711744).toNat,?_,?_⟩<;>omega
theorem Zu6:∀j:Nat,j<64→ZcE [] 1 false (.d (.rptr (Zq7.drop (j*1))))=some (.d (.int .u8 (Znc.getD j 0))):=by
  have key:((List.range 64).all fun j=>match ZcE [] 1 false (.d (.rptr (Zq7.drop (j*1)))) with | some (.d (.int .u8 z))=>z==Znc.getD j 0 | _=>false)=true:=by rfl
  intro j hj
  have:=List.all_eq_true.1 key j (by simpa using hj)
  split at this
  · rename_i z hz
    rw[hz,eq_of_beq this]
  · cases this
def Zfd (r:Int):D:=Zf r
theorem ZeJ (a:Int):∀r,ZcJ a=some r→evD ctx 67 [.d (.int .u64 a)]=some (Zfd r):=by
  intro r hr
  unfold ZcJ at hr
  have hr:=Option.some.inj hr
  subst hr
  rw[ZbC ctx 67 ZtH _ rfl rfl]
  by_cases h:(a==0)=true
  · conv=>lhs;whnf
    rw[h,Zss]
    rfl
  · replace h:(a==0)=false:=by simpa using h
    obtain⟨j,hj,e⟩:=Zu2 (IntKind.u64.wrap ((BitVec.ofInt IntKind.u64.bits a &&& BitVec.ofInt IntKind.u64.bits (IntKind.u64.wrap (0-a))).toNat:Int)*285870213051353865)
    conv=>lhs;whnf
    rw[h,ZsL]
    conv=>lhs;whnf
    refine(Zu3 (by rfl)).trans ?_
    conv=>lhs;whnf
    rw[e]
    refine(ZuI (by simp;omega)).trans ?_
    conv=>lhs;whnf
    erw [Zu6 j hj]
    rfl
def ZdU (r:Int):D:=(Zf r)
theorem Zfm {a:Int}:∀r,(Zca a)=some r→evD ctx 48 [(.d (D.int .u64 a))]=some (ZdU r):=by
 show ZV _ (fun r rhs=>rhs=some (ZdU r)) _
 unfold Zca
 rw[ZbC ctx 48 Zt2 _ rfl rfl]
 conv=>arg 3;whnf
 refine Zp _ (ZeJ _) rfl fun x0 hx0=>?_;conv=>arg 3;whnf
 exact Ze rfl
def Zj4 (r:(Int×Bool)):D:=(D.tup [(Zf r.1),(D.bool r.2)])
theorem ZmU {a:Int}:∀r,(ZgA a)=some r→evD ctx 23 [(.d (Zf a))]=some (Zj4 r):=by
 show ZV _ (fun r rhs=>rhs=some (Zj4 r)) _
 unfold ZgA
 rw[ZbC ctx 23 Zur _ rfl rfl]
 conv=>arg 3;whnf
 refine Zp _ ZkS rfl fun x0 hx0=>?_;conv=>arg 3;whnf
 refine Zd rfl ?_ ?_<;>conv=>arg 3;whnf
 ·exact Ze rfl
 ·refine Zp _ Zgq rfl fun x1 hx1=>?_;conv=>arg 3;whnf
  refine Zd rfl ?_ ?_<;>conv=>arg 3;whnf
  ·exact Ze rfl
  ·refine Zp _ Zfm rfl fun x2 hx2=>?_;conv=>arg 3;whnf
   exact Ze rfl
def Zir (r:Bool):D:=(D.bool r)
theorem ZkU {a:ZQ}:∀r,(Zdz a)=some r→evD ctx 25 [(.d (D.agg [(Zf a.op),(Zf a.arg),(Zf a.work)]))]=some (Zir r):=by
 show ZV _ (fun r rhs=>rhs=some (Zir r)) _
 unfold Zdz
 rw[ZbC ctx 25 Zue _ rfl rfl]
 conv=>arg 3;whnf
 refine Zp _ Zby rfl fun x0 hx0=>?_;conv=>arg 3;whnf
 refine Zd rfl ?_ ?_<;>conv=>arg 3;whnf
 ·refine Zp _ Zby rfl fun x1 hx1=>?_;conv=>arg 3;whnf
  refine Zd rfl ?_ ?_<;>conv=>arg 3;whnf
  ·refine Zp _ Zby rfl fun x2 hx2=>?_;conv=>arg 3;whnf
   refine Zd rfl ?_ ?_<;>conv=>arg 3;whnf
   ·exact Ze rfl
   ·exact Ze rfl
  ·exact Ze rfl
 ·exact Ze rfl
def ZbW (r:Int):D:=(Zf r)
def ZbH (t0:Bool) (a:(List ZQ)):(Int⊕Unit)→Ex×List V×Zi
  | (.inl r)=>(.ret,[(.d (Zf r))],[])
  | (.inr r)=>(.exit 0,[.bad],[])
theorem Zdf {t0:Bool}{a:(List ZQ)}:∀(s0:Int) (r:(Int⊕Unit)),lp (ZaA a (fun z0=>Zdz z0)) s0=some r→lpW ctx 0 [0,1,7,8] [4] ZrL [(.d (D.list t0 (List.map ZU a))),(.d (D.fn 25 [])),(.d (Zf (a.length:Int))),(.d (Zf s0))] []=some ((ZbH t0 a) r):=by
 refine Zbc (ZbH t0 a) ?_
 intro s0 rcl ih
 show ZV _ _ (lpW _ _ _ _ _ _ _)
 unfold ZaA
 rw[Zbd]
 conv=>arg 3;whnf
 refine Zd rfl ?_ ?_<;>conv=>arg 3;whnf
 ·refine Zk rfl rfl fun x1 hx1=>?_;conv=>arg 3;whnf
  refine Zp _ ZkU rfl fun x2 hx2=>?_;conv=>arg 3;whnf
  refine Zd rfl ?_ ?_<;>conv=>arg 3;whnf
  ·exact Ze rfl
  ·exact Zc (ih _)
 ·exact Ze rfl
theorem Zdt {t0:Bool}{a:(List ZQ)}:∀r,(Zbx a (fun z0=>Zdz z0))=some r→evD ctx 49 [(.d (D.list t0 (List.map ZU a))),(.d (D.fn 25 []))]=some (ZbW r):=by
 show ZV _ (fun r rhs=>rhs=some (ZbW r)) _
 unfold Zbx
 rw[ZbC ctx 49 Zuw _ rfl rfl]
 conv=>arg 3;whnf
 refine Zs (ZX _ _) ?_;conv=>arg 3;whnf
 refine Zb _ (Zdf _) fun r3 hr3=>?_
 clear hr3
 rcases r3 with r3 | r3
 ·conv=>arg 3;whnf
  exact Ze rfl
 ·conv=>arg 3;whnf
  exact Ze rfl
def ZbJ (r:Bool):D:=(D.bool r)
theorem Zdg {t0:Bool}{a:(List ZQ)}:∀r,(ZaB a (fun z0=>Zdz z0))=some r→evD ctx 24 [(.d (D.list t0 (List.map ZU a))),(.d (D.fn 25 []))]=some (ZbJ r):=by
 show ZV _ (fun r rhs=>rhs=some (ZbJ r)) _
 unfold ZaB
 rw[ZbC ctx 24 Ztm _ rfl rfl]
 conv=>arg 3;whnf
 refine Zp _ Zdt rfl fun x0 hx0=>?_;conv=>arg 3;whnf
 refine Zd rfl ?_ ?_<;>conv=>arg 3;whnf
 ·exact Ze rfl
 ·exact Ze rfl
def Zjv (r:Bool):D:=(D.bool r)
theorem Ziv {t0:Bool}{t1:Bool}{t2:Bool}{t3:Bool}{a:Zt}{b:Int}{c:Int}:∀r,(ZeR a b c)=some r→evD ctx 26 [(.d (D.agg (dA t0 t1 t2 t3 a))),(.d (Zf b)),(.d (Zf c))]=some (Zjv r):=by
 show ZV _ (fun r rhs=>rhs=some (Zjv r)) _
 unfold ZeR
 rw[ZbC ctx 26 Ztk _ rfl rfl]
 conv=>arg 3;whnf
 refine Zd rfl ?_ ?_<;>conv=>arg 3;whnf
 ·refine Zs (ZX _ _) ?_;conv=>arg 3;whnf
  refine Zp _ Zby rfl fun x0 hx0=>?_;conv=>arg 3;whnf
  refine Zd rfl ?_ ?_<;>conv=>arg 3;whnf
  ·refine Zs (ZX _ _) ?_;conv=>arg 3;whnf
   refine Zp _ Zby rfl fun x1 hx1=>?_;conv=>arg 3;whnf
   refine Zd rfl ?_ ?_<;>conv=>arg 3;whnf
   ·exact Ze rfl
   ·exact Ze rfl
  ·exact Ze rfl
 ·exact Ze rfl
def ZdH (r:Int):D:=(Zf r)
def Zdm (t0:Bool) (a:(List ZL)) (b:ZL):(Int⊕Unit)→Ex×List V×Zi
  | (.inl r)=>(.ret,[(.d (Zf r))],[])
  | (.inr r)=>(.exit 0,[.bad],[])
theorem Zex {t0:Bool}{a:(List ZL)}{b:ZL}:∀(s0:Int) (r:(Int⊕Unit)),lp (ZaS a b) s0=some r→lpW ctx 0 [0,3,7,8] [4] Zqe [(.d (D.list t0 (List.map ZR a))),(.ptr 0 0),(.d (Zf (a.length:Int))),(.d (Zf s0))] [(.cells [(.d (Zf b.src)),(.d (Zf b.dst))])]=some ((Zdm t0 a b) r):=by
 refine Zbc (Zdm t0 a b) ?_
 intro s0 rcl ih
 show ZV _ _ (lpW _ _ _ _ _ _ _)
 unfold ZaS
 rw[Zbd]
 conv=>arg 3;whnf
 refine Zd rfl ?_ ?_<;>conv=>arg 3;whnf
 ·refine Zk rfl rfl fun x1 hx1=>?_;conv=>arg 3;whnf
  refine Zd rfl ?_ ?_<;>conv=>arg 3;whnf
  ·exact Ze rfl
  ·exact Zc (ih _)
 ·exact Ze rfl
theorem Zff {t0:Bool}{a:(List ZL)}{b:ZL}:∀r,(ZbY a b)=some r→evD ctx 50 [(.d (D.list t0 (List.map ZR a))),(.d (D.agg [(Zf b.src),(Zf b.dst)]))]=some (ZdH r):=by
 show ZV _ (fun r rhs=>rhs=some (ZdH r)) _
 unfold ZbY
 rw[ZbC ctx 50 Zuy _ rfl rfl]
 conv=>arg 3;whnf
 refine Zs (ZX _ _) ?_;conv=>arg 3;whnf
 refine Zb _ (Zex _) fun r2 hr2=>?_
 clear hr2
 rcases r2 with r2 | r2
 ·conv=>arg 3;whnf
  exact Ze rfl
 ·conv=>arg 3;whnf
  exact Ze rfl
def Zdn (r:Bool):D:=(D.bool r)
theorem Zey {t0:Bool}{a:(List ZL)}{b:ZL}:∀r,(ZaT a b)=some r→evD ctx 27 [(.d (D.list t0 (List.map ZR a))),(.d (D.agg [(Zf b.src),(Zf b.dst)]))]=some (Zdn r):=by
 show ZV _ (fun r rhs=>rhs=some (Zdn r)) _
 unfold ZaT
 rw[ZbC ctx 27 Ztg _ rfl rfl]
 conv=>arg 3;whnf
 refine Zp _ Zff rfl fun x0 hx0=>?_;conv=>arg 3;whnf
 refine Zd rfl ?_ ?_<;>conv=>arg 3;whnf
 ·exact Ze rfl
 ·exact Ze rfl
def ZgM (r:Bool):D:=(D.bool r)
theorem Zjm {a:Zn}{b0:Int}{b1:Int}{b2:Int}:∀r,(Zcn a b1 b2)=some r→evD ctx 28 [(.d (D.agg [(Zf a.maker),(Zf a.user),(Zf a.pos)])),(.d (D.rptr [(Zf b0),(Zf b1),(Zf b2)]))]=some (ZgM r):=by
 show ZV _ (fun r rhs=>rhs=some (ZgM r)) _
 unfold Zcn
 rw[ZbC ctx 28 ZtE _ rfl rfl]
 conv=>arg 3;whnf
 refine Zd rfl ?_ ?_<;>conv=>arg 3;whnf
 ·refine Zd rfl ?_ ?_<;>conv=>arg 3;whnf
  ·exact Ze rfl
  ·exact Ze rfl
 ·exact Ze rfl
def Zbr (r:Int):D:=(Zf r)
def Zba (t0:Bool) (a:(List Zn)) (b0:Int) (b1:Int) (b2:Int):(Int⊕Unit)→Ex×List V×Zi
  | (.inl r)=>(.ret,[(.d (Zf r))],[])
  | (.inr r)=>(.exit 0,[.bad],[])
theorem ZcA {t0:Bool}{a:(List Zn)}{b0:Int}{b1:Int}{b2:Int}:∀(s0:Int) (r:(Int⊕Unit)),lp (Zam a (fun z0=>Zcn z0 b1 b2)) s0=some r→lpW ctx 0 [0,1,7,8] [4] ZrQ [(.d (D.list t0 (List.map Zw a))),(.d (D.fn 28 [(D.rptr [(Zf b0),(Zf b1),(Zf b2)])])),(.d (Zf (a.length:Int))),(.d (Zf s0))] []=some ((Zba t0 a b0 b1 b2) r):=by
 refine Zbc (Zba t0 a b0 b1 b2) ?_
 intro s0 rcl ih
 show ZV _ _ (lpW _ _ _ _ _ _ _)
 unfold Zam
 rw[Zbd]
 conv=>arg 3;whnf
 refine Zd rfl ?_ ?_<;>conv=>arg 3;whnf
 ·refine Zk rfl rfl fun x1 hx1=>?_;conv=>arg 3;whnf
  refine Zp _ Zjm rfl fun x2 hx2=>?_;conv=>arg 3;whnf
  refine Zd rfl ?_ ?_<;>conv=>arg 3;whnf
  ·exact Ze rfl
  ·exact Zc (ih _)
 ·exact Ze rfl
theorem ZcN {t0:Bool}{a:(List Zn)}{b0:Int}{b1:Int}{b2:Int}:∀r,(ZaU a (fun z0=>Zcn z0 b1 b2))=some r→evD ctx 51 [(.d (D.list t0 (List.map Zw a))),(.d (D.fn 28 [(D.rptr [(Zf b0),(Zf b1),(Zf b2)])]))]=some (Zbr r):=by
 show ZV _ (fun r rhs=>rhs=some (Zbr r)) _
 unfold ZaU
 rw[ZbC ctx 51 ZtS _ rfl rfl]
 conv=>arg 3;whnf
 refine Zs (ZX _ _) ?_;conv=>arg 3;whnf
 refine Zb _ (ZcA _) fun r3 hr3=>?_
 clear hr3
 rcases r3 with r3 | r3
 ·conv=>arg 3;whnf
  exact Ze rfl
 ·conv=>arg 3;whnf
  exact Ze rfl
def Za7 (r:Bool):D:=(D.bool r)
theorem Zcy {t0:Bool}{a:(List Zn)}{b0:Int}{b1:Int}{b2:Int}:∀r,(Zan a (fun z0=>Zcn z0 b1 b2))=some r→evD ctx 29 [(.d (D.list t0 (List.map Zw a))),(.d (D.fn 28 [(D.rptr [(Zf b0),(Zf b1),(Zf b2)])]))]=some (Za7 r):=by
 show ZV _ (fun r rhs=>rhs=some (Za7 r)) _
 unfold Zan
 rw[ZbC ctx 29 ZtG _ rfl rfl]
 conv=>arg 3;whnf
 refine Zp _ ZcN rfl fun x0 hx0=>?_;conv=>arg 3;whnf
 refine Zd rfl ?_ ?_<;>conv=>arg 3;whnf
 ·exact Ze rfl
 ·exact Ze rfl
def Zjk (r:Bool):D:=(D.bool r)
def Zhi (t0:Bool) (t1:Bool) (t2:Bool) (t3:Bool) (t4:Bool) (a:Zt) (b:(List Int)):(Unit⊕Unit)→Ex×List V×Zi
  | (.inl r)=>(.ret,[(.d (D.list t4 (List.map Zf b))),(.d (D.bool false))],[])
  | (.inr r)=>(.exit 0,[(.d (D.list t4 (List.map Zf b))),.bad],[])
theorem ZjX {t0:Bool}{t1:Bool}{t2:Bool}{t3:Bool}{t4:Bool}{a:Zt}{b:(List Int)}:∀(s0:Int) (r:(Unit⊕Unit)),lp (ZdN a b) s0=some r→lpW ctx 0 [1,2,7,8,9] [1,4] ZqI [(.d (D.list t4 (List.map Zf b))),(.ptr 0 0),(.d (D.list t4 (List.map Zf b))),(.d (Zf (b.length:Int))),(.d (Zf s0))] [(.cells (dV t0 t1 t2 t3 a))]=some ((Zhi t0 t1 t2 t3 t4 a b) r):=by
 refine Zbc (Zhi t0 t1 t2 t3 t4 a b) ?_
 intro s0 rcl ih
 show ZV _ _ (lpW _ _ _ _ _ _ _)
 unfold ZdN
 rw[Zbd]
 conv=>arg 3;whnf
 refine Zd rfl ?_ ?_<;>conv=>arg 3;whnf
 ·refine Zk rfl rfl fun x1 hx1=>?_;conv=>arg 3;whnf
  refine Zs (ZX _ _) ?_;conv=>arg 3;whnf
  refine Zp _ Zby rfl fun x2 hx2=>?_;conv=>arg 3;whnf
  refine Zd rfl ?_ ?_<;>conv=>arg 3;whnf
  ·refine Zd rfl ?_ ?_<;>conv=>arg 3;whnf
   ·refine Zk rfl rfl fun x3 hx3=>?_;conv=>arg 3;whnf
    refine Zd rfl ?_ ?_<;>conv=>arg 3;whnf
    ·exact Ze rfl
    ·exact Zc (ih _)
   ·exact Zc (ih _)
  ·exact Ze rfl
 ·exact Ze rfl
theorem ZiB {t0:Bool}{t1:Bool}{t2:Bool}{t3:Bool}{t4:Bool}{a:Zt}{b:(List Int)}:∀r,(ZeS a b)=some r→evD ctx 32 [(.d (D.agg (dA t0 t1 t2 t3 a))),(.d (D.list t4 (List.map Zf b)))]=some (Zjk r):=by
 show ZV _ (fun r rhs=>rhs=some (Zjk r)) _
 unfold ZeS
 rw[ZbC ctx 32 ZtF _ rfl rfl]
 conv=>arg 3;whnf
 refine Zs (ZX _ _) ?_;conv=>arg 3;whnf
 refine Zb _ (ZjX _) fun r4 hr4=>?_
 clear hr4
 rcases r4 with r4 | r4
 ·conv=>arg 3;whnf
  exact Ze rfl
 ·conv=>arg 3;whnf
  refine Zs (ZX _ _) ?_;conv=>arg 3;whnf
  refine Zd rfl ?_ ?_<;>conv=>arg 3;whnf
  ·exact Ze rfl
  ·exact Ze rfl
def Zd0 (r:Int):D:=(Zf r)
def ZdA (t0:Bool) (a:(List Int)) (b:Int):(Int⊕Unit)→Ex×List V×Zi
  | (.inl r)=>(.ret,[(.d (Zf r))],[])
  | (.inr r)=>(.exit 0,[.bad],[])
theorem ZeP {t0:Bool}{a:(List Int)}{b:Int}:∀(s0:Int) (r:(Int⊕Unit)),lp (Zbe a b) s0=some r→lpW ctx 0 [0,1,7,8] [4] ZqR [(.d (D.list t0 (List.map Zf a))),(.d (Zf b)),(.d (Zf (a.length:Int))),(.d (Zf s0))] []=some ((ZdA t0 a b) r):=by
 refine Zbc (ZdA t0 a b) ?_
 intro s0 rcl ih
 show ZV _ _ (lpW _ _ _ _ _ _ _)
 unfold Zbe
 rw[Zbd]
 conv=>arg 3;whnf
 refine Zd rfl ?_ ?_<;>conv=>arg 3;whnf
 ·refine Zk rfl rfl fun x1 hx1=>?_;conv=>arg 3;whnf
  refine Zd rfl ?_ ?_<;>conv=>arg 3;whnf
  ·exact Ze rfl
  ·exact Zc (ih _)
 ·exact Ze rfl
theorem ZfG {t0:Bool}{a:(List Int)}{b:Int}:∀r,(Zcj a b)=some r→evD ctx 52 [(.d (D.list t0 (List.map Zf a))),(.d (Zf b))]=some (Zd0 r):=by
 show ZV _ (fun r rhs=>rhs=some (Zd0 r)) _
 unfold Zcj
 rw[ZbC ctx 52 Zuq _ rfl rfl]
 conv=>arg 3;whnf
 refine Zs (ZX _ _) ?_;conv=>arg 3;whnf
 refine Zb _ (ZeP _) fun r2 hr2=>?_
 clear hr2
 rcases r2 with r2 | r2
 ·conv=>arg 3;whnf
  exact Ze rfl
 ·conv=>arg 3;whnf
  exact Ze rfl
def Zdy (r:Bool):D:=(D.bool r)
theorem ZeT {t0:Bool}{a:(List Int)}{b:Int}:∀r,(Zbb a b)=some r→evD ctx 31 [(.d (D.list t0 (List.map Zf a))),(.d (Zf b))]=some (Zdy r):=by
 show ZV _ (fun r rhs=>rhs=some (Zdy r)) _
 unfold Zbb
 rw[ZbC ctx 31 ZtK _ rfl rfl]
 conv=>arg 3;whnf
 refine Zp _ ZfG rfl fun x0 hx0=>?_;conv=>arg 3;whnf
 refine Zd rfl ?_ ?_<;>conv=>arg 3;whnf
 ·exact Ze rfl
 ·exact Ze rfl
def ZgQ (r:Bool):D:=(D.bool r)
theorem Zji {t0:Bool}{t1:Bool}{a:Int}{b0:(List Int)}{b1:(List Int)}:∀r,(Zcp a b1)=some r→evD ctx 30 [(.d (Zf a)),(.d (D.rptr [(D.list t0 (List.map Zf b0)),(D.list t1 (List.map Zf b1))]))]=some (ZgQ r):=by
 show ZV _ (fun r rhs=>rhs=some (ZgQ r)) _
 unfold Zcp
 rw[ZbC ctx 30 Ztr _ rfl rfl]
 conv=>arg 3;whnf
 refine Zp _ ZeT rfl fun x0 hx0=>?_;conv=>arg 3;whnf
 refine Zd rfl ?_ ?_<;>conv=>arg 3;whnf
 ·exact Ze rfl
 ·exact Ze rfl
def ZbS (r:Int):D:=(Zf r)
def ZbE (t0:Bool) (t1:Bool) (t2:Bool) (a:(List Int)) (b0:(List Int)) (b1:(List Int)):(Int⊕Unit)→Ex×List V×Zi
  | (.inl r)=>(.ret,[(.d (Zf r))],[])
  | (.inr r)=>(.exit 0,[.bad],[])
theorem Zc4 {t0:Bool}{t1:Bool}{t2:Bool}{a:(List Int)}{b0:(List Int)}{b1:(List Int)}:∀(s0:Int) (r:(Int⊕Unit)),lp (ZaK a (fun z0=>Zcp z0 b1)) s0=some r→lpW ctx 0 [0,1,7,8] [4] ZqH [(.d (D.list t0 (List.map Zf a))),(.d (D.fn 30 [(D.rptr [(D.list t1 (List.map Zf b0)),(D.list t2 (List.map Zf b1))])])),(.d (Zf (a.length:Int))),(.d (Zf s0))] []=some ((ZbE t0 t1 t2 a b0 b1) r):=by
 refine Zbc (ZbE t0 t1 t2 a b0 b1) ?_
 intro s0 rcl ih
 show ZV _ _ (lpW _ _ _ _ _ _ _)
 unfold ZaK
 rw[Zbd]
 conv=>arg 3;whnf
 refine Zd rfl ?_ ?_<;>conv=>arg 3;whnf
 ·refine Zk rfl rfl fun x1 hx1=>?_;conv=>arg 3;whnf
  refine Zp _ Zji rfl fun x2 hx2=>?_;conv=>arg 3;whnf
  refine Zd rfl ?_ ?_<;>conv=>arg 3;whnf
  ·exact Ze rfl
  ·exact Zc (ih _)
 ·exact Ze rfl
theorem Zdo {t0:Bool}{t1:Bool}{t2:Bool}{a:(List Int)}{b0:(List Int)}{b1:(List Int)}:∀r,(ZbN a (fun z0=>Zcp z0 b1))=some r→evD ctx 53 [(.d (D.list t0 (List.map Zf a))),(.d (D.fn 30 [(D.rptr [(D.list t1 (List.map Zf b0)),(D.list t2 (List.map Zf b1))])]))]=some (ZbS r):=by
 show ZV _ (fun r rhs=>rhs=some (ZbS r)) _
 unfold ZbN
 rw[ZbC ctx 53 Zux _ rfl rfl]
 conv=>arg 3;whnf
 refine Zs (ZX _ _) ?_;conv=>arg 3;whnf
 refine Zb _ (Zc4 _) fun r3 hr3=>?_
 clear hr3
 rcases r3 with r3 | r3
 ·conv=>arg 3;whnf
  exact Ze rfl
 ·conv=>arg 3;whnf
  exact Ze rfl
def ZbF (r:Bool):D:=(D.bool r)
theorem Zc7 {t0:Bool}{t1:Bool}{t2:Bool}{a:(List Int)}{b0:(List Int)}{b1:(List Int)}:∀r,(ZaL a (fun z0=>Zcp z0 b1))=some r→evD ctx 33 [(.d (D.list t0 (List.map Zf a))),(.d (D.fn 30 [(D.rptr [(D.list t1 (List.map Zf b0)),(D.list t2 (List.map Zf b1))])]))]=some (ZbF r):=by
 show ZV _ (fun r rhs=>rhs=some (ZbF r)) _
 unfold ZaL
 rw[ZbC ctx 33 Zui _ rfl rfl]
 conv=>arg 3;whnf
 refine Zp _ Zdo rfl fun x0 hx0=>?_;conv=>arg 3;whnf
 refine Zd rfl ?_ ?_<;>conv=>arg 3;whnf
 ·exact Ze rfl
 ·exact Ze rfl
def ZhV (r:Int):D:=(Zf r)
def Zgc (t0:Bool) (t1:Bool) (t2:Bool) (t3:Bool) (a:Zt):(Unit⊕Unit)→Ex×List V×Zi
  | (.inl r)=>(.ret,[(.ptr 0 0),(.d (Zf 53))],[(.cells (dV t0 t1 t2 t3 a))])
  | (.inr r)=>(.exit 0,[(.ptr 0 0),.bad],[(.cells (dV t0 t1 t2 t3 a))])
theorem ZiI {t0:Bool}{t1:Bool}{t2:Bool}{t3:Bool}{a:Zt}:∀(s4:Int) (r:(Unit⊕Unit)),lp (Zcz a) s4=some r→lpW ctx 0 [1,61,62,63] [1,2] Zq5 [(.ptr 0 0),(.d (D.list t1 (List.map ZR a.edges))),(.d (Zf (a.edges.length:Int))),(.d (Zf s4))] [(.cells (dV t0 t1 t2 t3 a))]=some ((Zgc t0 t1 t2 t3 a) r):=by
 refine Zbc (Zgc t0 t1 t2 t3 a) ?_
 intro s4 rcl ih
 show ZV _ _ (lpW _ _ _ _ _ _ _)
 unfold Zcz
 rw[Zbd]
 conv=>arg 3;whnf
 refine Zd rfl ?_ ?_<;>conv=>arg 3;whnf
 ·refine Zk rfl rfl fun x5 hx5=>?_;conv=>arg 3;whnf
  refine Zp _ Ziv rfl fun x6 hx6=>?_;conv=>arg 3;whnf
  refine Zd rfl ?_ ?_<;>conv=>arg 3;whnf
  ·refine Zd rfl ?_ ?_
   ·conv=>arg 3;whnf
    refine Zd (Zs0 ZR a.edges s4.toNat) ?_ ?_
    ·conv=>arg 3;whnf
     refine Zcv rfl ?_;conv=>arg 3;whnf
     refine Zs (Zpp ZR a.edges s4.toNat) ?_;conv=>arg 3;whnf
     refine Zp _ Zey rfl fun x7 hx7=>?_;conv=>arg 3;whnf
     refine Zd rfl ?_ ?_<;>conv=>arg 3;whnf
     ·exact Ze rfl
     ·exact Zc (ih _)
    ·exact Za0
   ·exact Za0
  ·exact Ze rfl
 ·exact Ze rfl
def Zgf (t0:Bool) (t1:Bool) (t2:Bool) (t3:Bool) (a:Zt):(Unit⊕Unit)→Ex×List V×Zi
  | (.inl r)=>(.ret,[(.ptr 0 0),(.d (Zf 54))],[(.cells (dV t0 t1 t2 t3 a))])
  | (.inr r)=>(.exit 2,[(.ptr 0 0),.bad],[(.cells (dV t0 t1 t2 t3 a))])
theorem ZiR {t0:Bool}{t1:Bool}{t2:Bool}{t3:Bool}{a:Zt}:∀(s9:Int) (r:(Unit⊕Unit)),lp (ZcD a) s9=some r→lpW ctx 0 [1,85,86,87] [1,2] Zrw [(.ptr 0 0),(.d (D.list t2 (List.map Zw a.futures))),(.d (Zf (a.futures.length:Int))),(.d (Zf s9))] [(.cells (dV t0 t1 t2 t3 a))]=some ((Zgf t0 t1 t2 t3 a) r):=by
 refine Zbc (Zgf t0 t1 t2 t3 a) ?_
 intro s9 rcl ih
 show ZV _ _ (lpW _ _ _ _ _ _ _)
 unfold ZcD
 rw[Zbd]
 conv=>arg 3;whnf
 refine Zd rfl ?_ ?_<;>conv=>arg 3;whnf
 ·refine Zk rfl rfl fun x10 hx10=>?_;conv=>arg 3;whnf
  refine Zp _ Ziv rfl fun x11 hx11=>?_;conv=>arg 3;whnf
  refine Zd rfl ?_ ?_<;>conv=>arg 3;whnf
  ·refine Zk rfl rfl fun x12 hx12=>?_;conv=>arg 3;whnf
   refine Zp _ Zby rfl fun x13 hx13=>?_;conv=>arg 3;whnf
   refine Zd rfl ?_ ?_<;>conv=>arg 3;whnf
   ·refine Zd rfl ?_ ?_
    ·conv=>arg 3;whnf
     refine Zd (Zs0 Zw a.futures s9.toNat) ?_ ?_
     ·conv=>arg 3;whnf
      refine Zcv rfl ?_;conv=>arg 3;whnf
      refine Zs (Zpp Zw a.futures s9.toNat) ?_;conv=>arg 3;whnf
      refine Zp _ Zcy rfl fun x14 hx14=>?_;conv=>arg 3;whnf
      refine Zd rfl ?_ ?_<;>conv=>arg 3;whnf
      ·exact Ze rfl
      ·exact Zc (ih _)
     ·exact Za0
    ·exact Za0
   ·exact Ze rfl
  ·exact Ze rfl
 ·exact Ze rfl
def Zgd (t0:Bool) (t1:Bool) (t2:Bool) (t3:Bool) (a:Zt):(Unit⊕Unit)→Ex×List V×Zi
  | (.inl r)=>(.ret,[(.d (Zf 55))],[])
  | (.inr r)=>(.exit 4,[.bad],[])
theorem ZiP {t0:Bool}{t1:Bool}{t2:Bool}{t3:Bool}{a:Zt}:∀(s16:Int) (r:(Unit⊕Unit)),lp (ZcB a) s16=some r→lpW ctx 0 [1,124,125,126] [2] Zqu [(.ptr 0 0),(.d (D.list t3 (List.map Zq a.barriers))),(.d (Zf (a.barriers.length:Int))),(.d (Zf s16))] [(.cells (dV t0 t1 t2 t3 a))]=some ((Zgd t0 t1 t2 t3 a) r):=by
 refine Zbc (Zgd t0 t1 t2 t3 a) ?_
 intro s16 rcl ih
 show ZV _ _ (lpW _ _ _ _ _ _ _)
 unfold ZcB
 rw[Zbd]
 conv=>arg 3;whnf
 refine Zd rfl ?_ ?_<;>conv=>arg 3;whnf
 ·refine Zk rfl rfl fun x17 hx17=>?_;conv=>arg 3;whnf
  refine Zp _ ZiB rfl fun x18 hx18=>?_;conv=>arg 3;whnf
  refine Zd rfl ?_ ?_<;>conv=>arg 3;whnf
  ·refine Zp _ ZiB rfl fun x19 hx19=>?_;conv=>arg 3;whnf
   refine Zd rfl ?_ ?_<;>conv=>arg 3;whnf
   ·refine Zp _ Zc7 rfl fun x20 hx20=>?_;conv=>arg 3;whnf
    refine Zd rfl ?_ ?_<;>conv=>arg 3;whnf
    ·exact Ze rfl
    ·exact Zc (ih _)
   ·exact Ze rfl
  ·exact Ze rfl
 ·exact Ze rfl
theorem Zhl {t0:Bool}{t1:Bool}{t2:Bool}{t3:Bool}{a:Zt}:∀r,(Zd5 a)=some r→evD ctx 13 [(.d (D.agg (dA t0 t1 t2 t3 a)))]=some (ZhV r):=by
 show ZV _ (fun r rhs=>rhs=some (ZhV r)) _
 unfold Zd5
 rw[ZbC ctx 13 Zub _ rfl rfl]
 conv=>arg 3;whnf
 refine Zs (ZX _ _) ?_;conv=>arg 3;whnf
 refine Zp _ Zby rfl fun x0 hx0=>?_;conv=>arg 3;whnf
 refine Zd rfl ?_ ?_<;>conv=>arg 3;whnf
 ·refine Zs (ZX _ _) ?_;conv=>arg 3;whnf
  refine Zd rfl ?_ ?_<;>conv=>arg 3;whnf
  ·exact Ze rfl
  ·refine Zs (ZX _ _) ?_;conv=>arg 3;whnf
   refine Zd rfl ?_ ?_<;>conv=>arg 3;whnf
   ·exact Ze rfl
   ·refine Zs (ZX _ _) ?_;conv=>arg 3;whnf
    refine Zd rfl ?_ ?_<;>conv=>arg 3;whnf
    ·exact Ze rfl
    ·refine Zp _ ZmU rfl fun x1 hx1=>?_;conv=>arg 3;whnf
     refine Zd rfl ?_ ?_<;>conv=>arg 3;whnf
     ·refine Zd rfl ?_ ?_<;>conv=>arg 3;whnf
      ·exact Ze rfl
      ·refine Zp _ Zby rfl fun x2 hx2=>?_;conv=>arg 3;whnf
       refine Zd rfl ?_ ?_<;>conv=>arg 3;whnf
       ·refine Zp _ Zdg rfl fun x3 hx3=>?_;conv=>arg 3;whnf
        refine Zd rfl ?_ ?_<;>conv=>arg 3;whnf
        ·exact Ze rfl
        ·refine Zs (ZX _ _) ?_;conv=>arg 3;whnf
         refine Zb _ (ZiI _) fun r8 hr8=>?_
         clear hr8
         rcases r8 with r8 | r8
         ·conv=>arg 3;whnf
          exact Ze rfl
         ·conv=>arg 3;whnf
          refine Zs (ZX _ _) ?_;conv=>arg 3;whnf
          refine Zb _ (ZiR _) fun r15 hr15=>?_
          clear hr15
          rcases r15 with r15 | r15
          ·conv=>arg 3;whnf
           exact Ze rfl
          ·conv=>arg 3;whnf
           refine Zs (ZX _ _) ?_;conv=>arg 3;whnf
           refine Zb _ (ZiP _) fun r21 hr21=>?_
           clear hr21
           rcases r21 with r21 | r21
           ·conv=>arg 3;whnf
            exact Ze rfl
           ·conv=>arg 3;whnf
            exact Ze rfl
       ·exact Ze rfl
     ·exact Ze rfl
 ·exact Ze rfl
def ZfT (r:Int):D:=(Zf r)
theorem Zy {t0:Bool}{t1:Bool}{t2:Bool}{t3:Bool}{a:Int}{b:Int}{c0:Int}{c1:Int}{c2:(List ZQ)}{c3:(List ZL)}{c4:(List Zn)}{c5:(List Zm)}:∀r,(Zl a b c4)=some r→evD ctx 16 [(.d (Zf a)),(.d (Zf b)),(.d (D.rptr [(Zf c0),(Zf c1),(D.list t0 (List.map ZU c2)),(D.list t1 (List.map ZR c3)),(D.list t2 (List.map Zw c4)),(D.list t3 (List.map Zq c5))]))]=some (ZfT r):=by
 show ZV _ (fun r rhs=>rhs=some (ZfT r)) _
 unfold Zl
 rw[ZbC ctx 16 Zus _ rfl rfl]
 conv=>arg 3;whnf
 refine Zk rfl rfl fun x0 hx0=>?_;conv=>arg 3;whnf
 refine Zk rfl rfl fun x1 hx1=>?_;conv=>arg 3;whnf
 exact Ze rfl
def Zfw (r:Int):D:=(Zf r)
theorem Zhz {a:Int}:∀r,(ZeE a)=some r→evD ctx 63 [(.d (D.int .u64 a))]=some (Zfw r):=by
 show ZV _ (fun r rhs=>rhs=some (Zfw r)) _
 unfold ZeE
 rw[ZbC ctx 63 ZtZ _ rfl rfl]
 conv=>arg 3;whnf
 refine Zd rfl ?_ ?_<;>conv=>arg 3;whnf
 ·refine Zab rfl ?_;conv=>arg 3;whnf
  refine Zd rfl ?_ ?_<;>conv=>arg 3;whnf
  ·refine Zab rfl ?_;conv=>arg 3;whnf
   refine Zd rfl ?_ ?_<;>conv=>arg 3;whnf
   ·refine Zab rfl ?_;conv=>arg 3;whnf
    refine Zd rfl ?_ ?_
    ·conv=>arg 3;whnf
     refine ZeZ rfl fun x0 hx0=>?_;conv=>arg 3;whnf
     exact Ze rfl
    ·exact Za0
   ·refine Zd rfl ?_ ?_
    ·conv=>arg 3;whnf
     refine ZeZ rfl fun x1 hx1=>?_;conv=>arg 3;whnf
     exact Ze rfl
    ·exact Za0
  ·refine Zd rfl ?_ ?_<;>conv=>arg 3;whnf
   ·refine Zab rfl ?_;conv=>arg 3;whnf
    refine Zd rfl ?_ ?_
    ·conv=>arg 3;whnf
     refine ZeZ rfl fun x2 hx2=>?_;conv=>arg 3;whnf
     exact Ze rfl
    ·exact Za0
   ·refine Zd rfl ?_ ?_
    ·conv=>arg 3;whnf
     refine ZeZ rfl fun x3 hx3=>?_;conv=>arg 3;whnf
     exact Ze rfl
    ·exact Za0
 ·refine Zd rfl ?_ ?_<;>conv=>arg 3;whnf
  ·refine Zab rfl ?_;conv=>arg 3;whnf
   refine Zd rfl ?_ ?_<;>conv=>arg 3;whnf
   ·refine Zab rfl ?_;conv=>arg 3;whnf
    refine Zd rfl ?_ ?_
    ·conv=>arg 3;whnf
     refine ZeZ rfl fun x4 hx4=>?_;conv=>arg 3;whnf
     exact Ze rfl
    ·exact Za0
   ·refine Zd rfl ?_ ?_
    ·conv=>arg 3;whnf
     refine ZeZ rfl fun x5 hx5=>?_;conv=>arg 3;whnf
     exact Ze rfl
    ·exact Za0
  ·refine Zd rfl ?_ ?_<;>conv=>arg 3;whnf
   ·refine Zab rfl ?_;conv=>arg 3;whnf
    refine Zd rfl ?_ ?_
    ·conv=>arg 3;whnf
     refine ZeZ rfl fun x6 hx6=>?_;conv=>arg 3;whnf
     exact Ze rfl
    ·exact Za0
   ·refine Zd rfl ?_ ?_
    ·conv=>arg 3;whnf
     refine ZeZ rfl fun x7 hx7=>?_;conv=>arg 3;whnf
     exact Ze rfl
    ·exact Za0
def Zf7 (r:Int):D:=(Zf r)
theorem ZfY {a:Int}:∀r,(Zdb a)=some r→evD ctx 41 [(.d (D.int .u64 a))]=some (Zf7 r):=by
 show ZV _ (fun r rhs=>rhs=some (Zf7 r)) _
 unfold Zdb
 rw[ZbC ctx 41 ZtT _ rfl rfl]
 conv=>arg 3;whnf
 refine Zp _ Zhz rfl fun x0 hx0=>?_;conv=>arg 3;whnf
 exact Ze rfl
def Zbk (t0:Bool) (t1:Bool) (t2:Bool) (t3:Bool) (b:Int) (c:Int) (m0_0:(List Int)) (m1_0:Int) (m1_1:Int) (m1_2:(List ZQ)) (m1_3:(List ZL)) (m1_4:(List Zn)) (m1_5:(List Zm)):(List Int)→V×Zi
  | r=>((.d (D.tup [])),[(.arr 1 (List.map Zf r)),(.cells [(.d (Zf m1_0)),(.d (Zf m1_1)),(.d (D.list t0 (List.map ZU m1_2))),(.d (D.list t1 (List.map ZR m1_3))),(.d (D.list t2 (List.map Zw m1_4))),(.d (D.list t3 (List.map Zq m1_5)))])])
def ZaZ (t0:Bool) (t1:Bool) (t2:Bool) (t3:Bool) (b:Int) (c:Int) (m1_0:Int) (m1_1:Int) (m1_2:(List ZQ)) (m1_3:(List ZL)) (m1_4:(List Zn)) (m1_5:(List Zm)) (s0:Int×(List Int)):(List Int)→Ex×List V×Zi
  | r=>(.exit 2,[(.sl 0 1),(.d (Zf b)),(.d (Zf c)),(.fn 16 [(.ptr 1 0)]),(.d (Zf s0.1))],[(.arr 1 (List.map Zf r)),(.cells [(.d (Zf m1_0)),(.d (Zf m1_1)),(.d (D.list t0 (List.map ZU m1_2))),(.d (D.list t1 (List.map ZR m1_3))),(.d (D.list t2 (List.map Zw m1_4))),(.d (D.list t3 (List.map Zq m1_5)))])])
theorem Zcq {t0:Bool}{t1:Bool}{t2:Bool}{t3:Bool}{b:Int}{c:Int}{m1_0:Int}{m1_1:Int}{m1_2:(List ZQ)}{m1_3:(List ZL)}{m1_4:(List Zn)}{m1_5:(List Zm)}{s0:Int×(List Int)}:∀(s1:Int×(List Int)) (r:(List Int)),lp (ZO b (fun z0 z1=>Zl z0 z1 m1_4)) s1=some r→lpW ctx 2 [0,1,2,3,8,9] [0,1,2,3,8] Zqh [(.sl 0 1),(.d (Zf b)),(.d (Zf c)),(.fn 16 [(.ptr 1 0)]),(.d (Zf s0.1)),(.d (Zf s1.1))] [(.arr 1 (List.map Zf s1.2)),(.cells [(.d (Zf m1_0)),(.d (Zf m1_1)),(.d (D.list t0 (List.map ZU m1_2))),(.d (D.list t1 (List.map ZR m1_3))),(.d (D.list t2 (List.map Zw m1_4))),(.d (D.list t3 (List.map Zq m1_5)))])]=some ((ZaZ t0 t1 t2 t3 b c m1_0 m1_1 m1_2 m1_3 m1_4 m1_5 s0) r):=by
 refine Zbc (ZaZ t0 t1 t2 t3 b c m1_0 m1_1 m1_2 m1_3 m1_4 m1_5 s0) ?_
 intro s1 rcl ih
 show ZV _ _ (lpW _ _ _ _ _ _ _)
 unfold ZO
 rw[Zbd]
 conv=>arg 3;whnf
 refine Zd rfl ?_ ?_<;>conv=>arg 3;whnf
 ·refine Zk rfl rfl fun x2 hx2=>?_;conv=>arg 3;whnf
  refine Zg (Zu rfl hx2) ?_;conv=>arg 3;whnf
  refine Zk rfl rfl fun x3 hx3=>?_;conv=>arg 3;whnf
  refine Zg (Zu rfl hx3) ?_;conv=>arg 3;whnf
  refine Zp _ Zy rfl fun x4 hx4=>?_;conv=>arg 3;whnf
  refine Zd rfl ?_ ?_<;>conv=>arg 3;whnf
  ·refine Zg (Za4 rfl hx3) ?_;conv=>arg 3;whnf
   refine Zg (Zu rfl hx3) ?_;conv=>arg 3;whnf
   refine Zg (Za4 rfl hx2) ?_;conv=>arg 3;whnf
   refine Zg (Zu rfl hx2) ?_;conv=>arg 3;whnf
   refine Zg (Za4 rfl hx2) ?_;conv=>arg 3;whnf
   refine Zg (Zu rfl hx2) ?_;conv=>arg 3;whnf
   refine Zs (ZaC Zf s1.2 s1.1.toNat x3) ?_;conv=>arg 3;whnf
   refine Zk rfl rfl fun x5 hx5=>?_;conv=>arg 3;whnf
   refine Zg (Zu rfl hx5) ?_;conv=>arg 3;whnf
   refine Zs (ZaC Zf (List.set s1.2 s1.1.toNat x3) (w64 (s1.1-1)).toNat x2) ?_;conv=>arg 3;whnf
   exact Zc (ih _)
  ·exact Ze rfl
 ·exact Ze rfl
def Za2 (t0:Bool) (t1:Bool) (t2:Bool) (t3:Bool) (b:Int) (c:Int) (m1_0:Int) (m1_1:Int) (m1_2:(List ZQ)) (m1_3:(List ZL)) (m1_4:(List Zn)) (m1_5:(List Zm)):(List Int)→Ex×List V×Zi
  | r=>(.exit 0,[],[(.arr 1 (List.map Zf r)),(.cells [(.d (Zf m1_0)),(.d (Zf m1_1)),(.d (D.list t0 (List.map ZU m1_2))),(.d (D.list t1 (List.map ZR m1_3))),(.d (D.list t2 (List.map Zw m1_4))),(.d (D.list t3 (List.map Zq m1_5)))])])
theorem Zcr {t0:Bool}{t1:Bool}{t2:Bool}{t3:Bool}{b:Int}{c:Int}{m1_0:Int}{m1_1:Int}{m1_2:(List ZQ)}{m1_3:(List ZL)}{m1_4:(List Zn)}{m1_5:(List Zm)}:∀(s0:Int×(List Int)) (r:(List Int)),lp (Z9 b c (fun z0 z1=>Zl z0 z1 m1_4)) s0=some r→lpW ctx 2 [0,1,2,3,8] [] Zrt [(.sl 0 1),(.d (Zf b)),(.d (Zf c)),(.fn 16 [(.ptr 1 0)]),(.d (Zf s0.1))] [(.arr 1 (List.map Zf s0.2)),(.cells [(.d (Zf m1_0)),(.d (Zf m1_1)),(.d (D.list t0 (List.map ZU m1_2))),(.d (D.list t1 (List.map ZR m1_3))),(.d (D.list t2 (List.map Zw m1_4))),(.d (D.list t3 (List.map Zq m1_5)))])]=some ((Za2 t0 t1 t2 t3 b c m1_0 m1_1 m1_2 m1_3 m1_4 m1_5) r):=by
 refine Zbc (Za2 t0 t1 t2 t3 b c m1_0 m1_1 m1_2 m1_3 m1_4 m1_5) ?_
 intro s0 rcl ih
 show ZV _ _ (lpW _ _ _ _ _ _ _)
 unfold Z9
 rw[Zbd]
 conv=>arg 3;whnf
 refine Zd rfl ?_ ?_<;>conv=>arg 3;whnf
 ·refine Zb _ (Zcq _) fun r6 hr6=>?_;conv=>arg 3;whnf
  exact Zc (ih _)
 ·exact Ze rfl
theorem Z0 {t0:Bool}{t1:Bool}{t2:Bool}{t3:Bool}{b:Int}{c:Int}{m0_0:(List Int)}{m1_0:Int}{m1_1:Int}{m1_2:(List ZQ)}{m1_3:(List ZL)}{m1_4:(List Zn)}{m1_5:(List Zm)}:∀r,(ZM b c (fun z0 z1=>Zl z0 z1 m1_4) m0_0)=some r→evW ctx 54 [(.sl 0 1),(.d (Zf b)),(.d (Zf c)),(.fn 16 [(.ptr 1 0)])] [(.arr 1 (List.map Zf m0_0)),(.cells [(.d (Zf m1_0)),(.d (Zf m1_1)),(.d (D.list t0 (List.map ZU m1_2))),(.d (D.list t1 (List.map ZR m1_3))),(.d (D.list t2 (List.map Zw m1_4))),(.d (D.list t3 (List.map Zq m1_5)))])]=some ((Zbk t0 t1 t2 t3 b c m0_0 m1_0 m1_1 m1_2 m1_3 m1_4 m1_5) r):=by
 show ZV _ (fun r rhs=>rhs=some ((Zbk t0 t1 t2 t3 b c m0_0 m1_0 m1_1 m1_2 m1_3 m1_4 m1_5) r)) _
 unfold ZM
 rw[Ze4 ctx 54 ZtM _ _ rfl rfl]
 conv=>arg 3;whnf
 refine Zb _ (Zcr _) fun r7 hr7=>?_;conv=>arg 3;whnf
 exact Ze rfl
def ZbL (t0:Bool) (t1:Bool) (t2:Bool) (t3:Bool) (b:Int) (c:Int) (d:Int) (m0_0:(List Int)) (m1_0:Int) (m1_1:Int) (m1_2:(List ZQ)) (m1_3:(List ZL)) (m1_4:(List Zn)) (m1_5:(List Zm)):(List Int)→V×Zi
  | r=>((.d (D.tup [])),[(.arr 1 (List.map Zf r)),(.cells [(.d (Zf m1_0)),(.d (Zf m1_1)),(.d (D.list t0 (List.map ZU m1_2))),(.d (D.list t1 (List.map ZR m1_3))),(.d (D.list t2 (List.map Zw m1_4))),(.d (D.list t3 (List.map Zq m1_5)))])])
def Zbw (t0:Bool) (t1:Bool) (t2:Bool) (t3:Bool) (c:Int) (d:Int) (m1_0:Int) (m1_1:Int) (m1_2:(List ZQ)) (m1_3:(List ZL)) (m1_4:(List Zn)) (m1_5:(List Zm)):((List Int)⊕(List Int))→Ex×List V×Zi
  | (.inl r)=>(.exit 0,[],[(.arr 1 (List.map Zf r)),(.cells [(.d (Zf m1_0)),(.d (Zf m1_1)),(.d (D.list t0 (List.map ZU m1_2))),(.d (D.list t1 (List.map ZR m1_3))),(.d (D.list t2 (List.map Zw m1_4))),(.d (D.list t3 (List.map Zq m1_5)))])])
  | (.inr r)=>(.ret,[],[(.arr 1 (List.map Zf r)),(.cells [(.d (Zf m1_0)),(.d (Zf m1_1)),(.d (D.list t0 (List.map ZU m1_2))),(.d (D.list t1 (List.map ZR m1_3))),(.d (D.list t2 (List.map Zw m1_4))),(.d (D.list t3 (List.map Zq m1_5)))])])
theorem ZcX {t0:Bool}{t1:Bool}{t2:Bool}{t3:Bool}{c:Int}{d:Int}{m1_0:Int}{m1_1:Int}{m1_2:(List ZQ)}{m1_3:(List ZL)}{m1_4:(List Zn)}{m1_5:(List Zm)}:∀(s0:Int×(List Int)) (r:((List Int)⊕(List Int))),lp (ZA c d (fun z0 z1=>Zl z0 z1 m1_4)) s0=some r→lpW ctx 2 [0,2,3,4,10] [] Zqy [(.sl 0 1),(.d (Zf c)),(.d (Zf d)),(.fn 16 [(.ptr 1 0)]),(.d (Zf s0.1))] [(.arr 1 (List.map Zf s0.2)),(.cells [(.d (Zf m1_0)),(.d (Zf m1_1)),(.d (D.list t0 (List.map ZU m1_2))),(.d (D.list t1 (List.map ZR m1_3))),(.d (D.list t2 (List.map Zw m1_4))),(.d (D.list t3 (List.map Zq m1_5)))])]=some ((Zbw t0 t1 t2 t3 c d m1_0 m1_1 m1_2 m1_3 m1_4 m1_5) r):=by
 refine Zbc (Zbw t0 t1 t2 t3 c d m1_0 m1_1 m1_2 m1_3 m1_4 m1_5) ?_
 intro s0 rcl ih
 show ZV _ _ (lpW _ _ _ _ _ _ _)
 unfold ZA
 rw[Zbd]
 conv=>arg 3;whnf
 refine Zd rfl ?_ ?_<;>conv=>arg 3;whnf
 ·exact Ze rfl
 ·refine Zd rfl ?_ ?_<;>conv=>arg 3;whnf
  ·refine Zk rfl rfl fun x1 hx1=>?_;conv=>arg 3;whnf
   refine Zg (Zu rfl hx1) ?_;conv=>arg 3;whnf
   refine Zk rfl rfl fun x2 hx2=>?_;conv=>arg 3;whnf
   refine Zg (Zu rfl hx2) ?_;conv=>arg 3;whnf
   refine Zp _ Zy rfl fun x3 hx3=>?_;conv=>arg 3;whnf
   refine Zd rfl ?_ ?_<;>conv=>arg 3;whnf
   ·refine Zk rfl rfl fun x4 hx4=>?_;conv=>arg 3;whnf
    refine Zg (Zu rfl hx4) ?_;conv=>arg 3;whnf
    refine Zk rfl rfl fun x5 hx5=>?_;conv=>arg 3;whnf
    refine Zg (Zu rfl hx5) ?_;conv=>arg 3;whnf
    refine Zp _ Zy rfl fun x6 hx6=>?_;conv=>arg 3;whnf
    refine Zd rfl ?_ ?_<;>conv=>arg 3;whnf
    ·refine Zg (Za4 rfl hx5) ?_;conv=>arg 3;whnf
     refine Zg (Zu rfl hx5) ?_;conv=>arg 3;whnf
     refine Zg (Za4 rfl hx4) ?_;conv=>arg 3;whnf
     refine Zg (Zu rfl hx4) ?_;conv=>arg 3;whnf
     refine Zg (Za4 rfl hx4) ?_;conv=>arg 3;whnf
     refine Zg (Zu rfl hx4) ?_;conv=>arg 3;whnf
     refine Zs (ZaC Zf s0.2 (w64 (d+s0.1)).toNat x5) ?_;conv=>arg 3;whnf
     refine Zk rfl rfl fun x7 hx7=>?_;conv=>arg 3;whnf
     refine Zg (Zu rfl hx7) ?_;conv=>arg 3;whnf
     refine Zs (ZaC Zf (List.set s0.2 (w64 (d+s0.1)).toNat x5) (w64 (d+(w64 ((w64 ((w64 (2*s0.1))+1))+1)))).toNat x4) ?_;conv=>arg 3;whnf
     exact Zc (ih _)
    ·exact Ze rfl
   ·refine Zk rfl rfl fun x8 hx8=>?_;conv=>arg 3;whnf
    refine Zg (Zu rfl hx8) ?_;conv=>arg 3;whnf
    refine Zg (Za4 rfl hx1) ?_;conv=>arg 3;whnf
    refine Zg (Zu rfl hx1) ?_;conv=>arg 3;whnf
    refine Zp _ Zy rfl fun x9 hx9=>?_;conv=>arg 3;whnf
    refine Zd rfl ?_ ?_<;>conv=>arg 3;whnf
    ·refine Zg (Za4 rfl hx1) ?_;conv=>arg 3;whnf
     refine Zg (Zu rfl hx1) ?_;conv=>arg 3;whnf
     refine Zg (Za4 rfl hx8) ?_;conv=>arg 3;whnf
     refine Zg (Zu rfl hx8) ?_;conv=>arg 3;whnf
     refine Zg (Za4 rfl hx8) ?_;conv=>arg 3;whnf
     refine Zg (Zu rfl hx8) ?_;conv=>arg 3;whnf
     refine Zs (ZaC Zf s0.2 (w64 (d+s0.1)).toNat x1) ?_;conv=>arg 3;whnf
     refine Zk rfl rfl fun x10 hx10=>?_;conv=>arg 3;whnf
     refine Zg (Zu rfl hx10) ?_;conv=>arg 3;whnf
     refine Zs (ZaC Zf (List.set s0.2 (w64 (d+s0.1)).toNat x1) (w64 (d+(w64 ((w64 (2*s0.1))+1)))).toNat x8) ?_;conv=>arg 3;whnf
     exact Zc (ih _)
    ·exact Ze rfl
  ·refine Zk rfl rfl fun x11 hx11=>?_;conv=>arg 3;whnf
   refine Zg (Zu rfl hx11) ?_;conv=>arg 3;whnf
   refine Zk rfl rfl fun x12 hx12=>?_;conv=>arg 3;whnf
   refine Zg (Zu rfl hx12) ?_;conv=>arg 3;whnf
   refine Zp _ Zy rfl fun x13 hx13=>?_;conv=>arg 3;whnf
   refine Zd rfl ?_ ?_<;>conv=>arg 3;whnf
   ·refine Zg (Za4 rfl hx12) ?_;conv=>arg 3;whnf
    refine Zg (Zu rfl hx12) ?_;conv=>arg 3;whnf
    refine Zg (Za4 rfl hx11) ?_;conv=>arg 3;whnf
    refine Zg (Zu rfl hx11) ?_;conv=>arg 3;whnf
    refine Zg (Za4 rfl hx11) ?_;conv=>arg 3;whnf
    refine Zg (Zu rfl hx11) ?_;conv=>arg 3;whnf
    refine Zs (ZaC Zf s0.2 (w64 (d+s0.1)).toNat x12) ?_;conv=>arg 3;whnf
    refine Zk rfl rfl fun x14 hx14=>?_;conv=>arg 3;whnf
    refine Zg (Zu rfl hx14) ?_;conv=>arg 3;whnf
    refine Zs (ZaC Zf (List.set s0.2 (w64 (d+s0.1)).toNat x12) (w64 (d+(w64 ((w64 (2*s0.1))+1)))).toNat x11) ?_;conv=>arg 3;whnf
    exact Zc (ih _)
   ·exact Ze rfl
theorem ZbD {t0:Bool}{t1:Bool}{t2:Bool}{t3:Bool}{b:Int}{c:Int}{d:Int}{m0_0:(List Int)}{m1_0:Int}{m1_1:Int}{m1_2:(List ZQ)}{m1_3:(List ZL)}{m1_4:(List Zn)}{m1_5:(List Zm)}:∀r,(Zao b c d (fun z0 z1=>Zl z0 z1 m1_4) m0_0)=some r→evW ctx 68 [(.sl 0 1),(.d (Zf b)),(.d (Zf c)),(.d (Zf d)),(.fn 16 [(.ptr 1 0)])] [(.arr 1 (List.map Zf m0_0)),(.cells [(.d (Zf m1_0)),(.d (Zf m1_1)),(.d (D.list t0 (List.map ZU m1_2))),(.d (D.list t1 (List.map ZR m1_3))),(.d (D.list t2 (List.map Zw m1_4))),(.d (D.list t3 (List.map Zq m1_5)))])]=some ((ZbL t0 t1 t2 t3 b c d m0_0 m1_0 m1_1 m1_2 m1_3 m1_4 m1_5) r):=by
 show ZV _ (fun r rhs=>rhs=some ((ZbL t0 t1 t2 t3 b c d m0_0 m1_0 m1_1 m1_2 m1_3 m1_4 m1_5) r)) _
 unfold Zao
 rw[Ze4 ctx 68 Zth _ _ rfl rfl]
 conv=>arg 3;whnf
 refine Zb _ (ZcX _) fun r15 hr15=>?_
 clear hr15
 rcases r15 with r15 | r15
 ·conv=>arg 3;whnf
  exact Ze rfl
 ·conv=>arg 3;whnf
  exact Ze rfl
def ZbK (t0:Bool) (t1:Bool) (t2:Bool) (t3:Bool) (b:Int) (c:Int) (m0_0:(List Int)) (m1_0:Int) (m1_1:Int) (m1_2:(List ZQ)) (m1_3:(List ZL)) (m1_4:(List Zn)) (m1_5:(List Zm)):(List Int)→V×Zi
  | r=>((.d (D.tup [])),[(.arr 1 (List.map Zf r)),(.cells [(.d (Zf m1_0)),(.d (Zf m1_1)),(.d (D.list t0 (List.map ZU m1_2))),(.d (D.list t1 (List.map ZR m1_3))),(.d (D.list t2 (List.map Zw m1_4))),(.d (D.list t3 (List.map Zq m1_5)))])])
def Zbt (t0:Bool) (t1:Bool) (t2:Bool) (t3:Bool) (b:Int) (c:Int) (m1_0:Int) (m1_1:Int) (m1_2:(List ZQ)) (m1_3:(List ZL)) (m1_4:(List Zn)) (m1_5:(List Zm)):(List Int)→Ex×List V×Zi
  | r=>(.exit 0,[(.sl 0 1),(.fn 16 [(.ptr 1 0)]),(.d (Zf b)),(.d (Zf 0)),(.d (Zf (w64 (c-b))))],[(.arr 1 (List.map Zf r)),(.cells [(.d (Zf m1_0)),(.d (Zf m1_1)),(.d (D.list t0 (List.map ZU m1_2))),(.d (D.list t1 (List.map ZR m1_3))),(.d (D.list t2 (List.map Zw m1_4))),(.d (D.list t3 (List.map Zq m1_5)))])])
theorem ZcZ {t0:Bool}{t1:Bool}{t2:Bool}{t3:Bool}{b:Int}{c:Int}{m1_0:Int}{m1_1:Int}{m1_2:(List ZQ)}{m1_3:(List ZL)}{m1_4:(List Zn)}{m1_5:(List Zm)}:∀(s0:Int×(List Int)) (r:(List Int)),lp (Zar b c (fun z0 z1=>Zl z0 z1 m1_4)) s0=some r→lpW ctx 2 [0,3,8,9,10,11] [0,3,8,9,10] Zqb [(.sl 0 1),(.fn 16 [(.ptr 1 0)]),(.d (Zf b)),(.d (Zf 0)),(.d (Zf (w64 (c-b)))),(.d (Zf s0.1))] [(.arr 1 (List.map Zf s0.2)),(.cells [(.d (Zf m1_0)),(.d (Zf m1_1)),(.d (D.list t0 (List.map ZU m1_2))),(.d (D.list t1 (List.map ZR m1_3))),(.d (D.list t2 (List.map Zw m1_4))),(.d (D.list t3 (List.map Zq m1_5)))])]=some ((Zbt t0 t1 t2 t3 b c m1_0 m1_1 m1_2 m1_3 m1_4 m1_5) r):=by
 refine Zbc (Zbt t0 t1 t2 t3 b c m1_0 m1_1 m1_2 m1_3 m1_4 m1_5) ?_
 intro s0 rcl ih
 show ZV _ _ (lpW _ _ _ _ _ _ _)
 unfold Zar
 rw[Zbd]
 conv=>arg 3;whnf
 refine Zd rfl ?_ ?_<;>conv=>arg 3;whnf
 ·refine Zb _ ZbD fun x1 hx1=>?_;conv=>arg 3;whnf
  exact Zc (ih _)
 ·exact Ze rfl
def Zbu (t0:Bool) (t1:Bool) (t2:Bool) (t3:Bool) (b:Int) (m1_0:Int) (m1_1:Int) (m1_2:(List ZQ)) (m1_3:(List ZL)) (m1_4:(List Zn)) (m1_5:(List Zm)):(List Int)→Ex×List V×Zi
  | r=>(.exit 2,[],[(.arr 1 (List.map Zf r)),(.cells [(.d (Zf m1_0)),(.d (Zf m1_1)),(.d (D.list t0 (List.map ZU m1_2))),(.d (D.list t1 (List.map ZR m1_3))),(.d (D.list t2 (List.map Zw m1_4))),(.d (D.list t3 (List.map Zq m1_5)))])])
theorem ZcY {t0:Bool}{t1:Bool}{t2:Bool}{t3:Bool}{b:Int}{m1_0:Int}{m1_1:Int}{m1_2:(List ZQ)}{m1_3:(List ZL)}{m1_4:(List Zn)}{m1_5:(List Zm)}:∀(s3:Int×(List Int)) (r:(List Int)),lp (Zas b (fun z0 z1=>Zl z0 z1 m1_4)) s3=some r→lpW ctx 2 [0,3,8,9,12] [] ZqS [(.sl 0 1),(.fn 16 [(.ptr 1 0)]),(.d (Zf b)),(.d (Zf 0)),(.d (Zf s3.1))] [(.arr 1 (List.map Zf s3.2)),(.cells [(.d (Zf m1_0)),(.d (Zf m1_1)),(.d (D.list t0 (List.map ZU m1_2))),(.d (D.list t1 (List.map ZR m1_3))),(.d (D.list t2 (List.map Zw m1_4))),(.d (D.list t3 (List.map Zq m1_5)))])]=some ((Zbu t0 t1 t2 t3 b m1_0 m1_1 m1_2 m1_3 m1_4 m1_5) r):=by
 refine Zbc (Zbu t0 t1 t2 t3 b m1_0 m1_1 m1_2 m1_3 m1_4 m1_5) ?_
 intro s3 rcl ih
 show ZV _ _ (lpW _ _ _ _ _ _ _)
 unfold Zas
 rw[Zbd]
 conv=>arg 3;whnf
 refine Zd rfl ?_ ?_<;>conv=>arg 3;whnf
 ·refine Zk rfl rfl fun x4 hx4=>?_;conv=>arg 3;whnf
  refine Zg (Zu rfl hx4) ?_;conv=>arg 3;whnf
  refine Zk rfl rfl fun x5 hx5=>?_;conv=>arg 3;whnf
  refine Zg (Zu rfl hx5) ?_;conv=>arg 3;whnf
  refine Zg (Za4 rfl hx5) ?_;conv=>arg 3;whnf
  refine Zg (Zu rfl hx5) ?_;conv=>arg 3;whnf
  refine Zs (ZaC Zf s3.2 b.toNat x4) ?_;conv=>arg 3;whnf
  refine Zk rfl rfl fun x6 hx6=>?_;conv=>arg 3;whnf
  refine Zg (Zu rfl hx6) ?_;conv=>arg 3;whnf
  refine Zs (ZaC Zf (List.set s3.2 b.toNat x4) (w64 (b+s3.1)).toNat x5) ?_;conv=>arg 3;whnf
  refine Zb _ ZbD fun x7 hx7=>?_;conv=>arg 3;whnf
  exact Zc (ih _)
 ·exact Ze rfl
theorem Zad {t0:Bool}{t1:Bool}{t2:Bool}{t3:Bool}{b:Int}{c:Int}{m0_0:(List Int)}{m1_0:Int}{m1_1:Int}{m1_2:(List ZQ)}{m1_3:(List ZL)}{m1_4:(List Zn)}{m1_5:(List Zm)}:∀r,(ZY b c (fun z0 z1=>Zl z0 z1 m1_4) m0_0)=some r→evW ctx 55 [(.sl 0 1),(.d (Zf b)),(.d (Zf c)),(.fn 16 [(.ptr 1 0)])] [(.arr 1 (List.map Zf m0_0)),(.cells [(.d (Zf m1_0)),(.d (Zf m1_1)),(.d (D.list t0 (List.map ZU m1_2))),(.d (D.list t1 (List.map ZR m1_3))),(.d (D.list t2 (List.map Zw m1_4))),(.d (D.list t3 (List.map Zq m1_5)))])]=some ((ZbK t0 t1 t2 t3 b c m0_0 m1_0 m1_1 m1_2 m1_3 m1_4 m1_5) r):=by
 show ZV _ (fun r rhs=>rhs=some ((ZbK t0 t1 t2 t3 b c m0_0 m1_0 m1_1 m1_2 m1_3 m1_4 m1_5) r)) _
 unfold ZY
 rw[Ze4 ctx 55 ZtC _ _ rfl rfl]
 conv=>arg 3;whnf
 refine Zab rfl ?_;conv=>arg 3;whnf
 refine Zb _ (ZcZ _) fun r2 hr2=>?_;conv=>arg 3;whnf
 refine Zb _ (ZcY _) fun r8 hr8=>?_;conv=>arg 3;whnf
 exact Ze rfl
def ZbV (t0:Bool) (t1:Bool) (t2:Bool) (t3:Bool) (b:Int) (c:Int) (m0_0:(List Int)) (m1_0:Int) (m2_0:Int) (m2_1:Int) (m2_2:(List ZQ)) (m2_3:(List ZL)) (m2_4:(List Zn)) (m2_5:(List Zm)):(Int×Int×Int)→V×Zi
  | r=>((.d (D.tup [(Zf r.1),(Zf r.2.1)])),[(.arr 1 (List.map Zf m0_0)),(.cells [(.d (Zf r.2.2))]),(.cells [(.d (Zf m2_0)),(.d (Zf m2_1)),(.d (D.list t0 (List.map ZU m2_2))),(.d (D.list t1 (List.map ZR m2_3))),(.d (D.list t2 (List.map Zw m2_4))),(.d (D.list t3 (List.map Zq m2_5)))])])
theorem ZaN {t0:Bool}{t1:Bool}{t2:Bool}{t3:Bool}{b:Int}{c:Int}{m0_0:(List Int)}{m1_0:Int}{m2_0:Int}{m2_1:Int}{m2_2:(List ZQ)}{m2_3:(List ZL)}{m2_4:(List Zn)}{m2_5:(List Zm)}:∀r,(Zay b c (fun z0 z1=>Zl z0 z1 m2_4) m0_0 m1_0)=some r→evW ctx 73 [(.sl 0 1),(.d (Zf b)),(.d (Zf c)),(.ptr 1 0),(.fn 16 [(.ptr 2 0)])] [(.arr 1 (List.map Zf m0_0)),(.cells [(.d (Zf m1_0))]),(.cells [(.d (Zf m2_0)),(.d (Zf m2_1)),(.d (D.list t0 (List.map ZU m2_2))),(.d (D.list t1 (List.map ZR m2_3))),(.d (D.list t2 (List.map Zw m2_4))),(.d (D.list t3 (List.map Zq m2_5)))])]=some ((ZbV t0 t1 t2 t3 b c m0_0 m1_0 m2_0 m2_1 m2_2 m2_3 m2_4 m2_5) r):=by
 show ZV _ (fun r rhs=>rhs=some ((ZbV t0 t1 t2 t3 b c m0_0 m1_0 m2_0 m2_1 m2_2 m2_3 m2_4 m2_5) r)) _
 unfold Zay
 rw[Ze4 ctx 73 Ztu _ _ rfl rfl]
 conv=>arg 3;whnf
 refine Zk rfl rfl fun x0 hx0=>?_;conv=>arg 3;whnf
 refine Zg (Zu rfl hx0) ?_;conv=>arg 3;whnf
 refine Zk rfl rfl fun x1 hx1=>?_;conv=>arg 3;whnf
 refine Zg (Zu rfl hx1) ?_;conv=>arg 3;whnf
 refine Zp _ Zy rfl fun x2 hx2=>?_;conv=>arg 3;whnf
 refine Zd rfl ?_ ?_<;>conv=>arg 3;whnf
 ·exact Ze rfl
 ·exact Ze rfl
def ZbU (t0:Bool) (t1:Bool) (t2:Bool) (t3:Bool) (b:Int) (c:Int) (d:Int) (m0_0:(List Int)) (m1_0:Int) (m2_0:Int) (m2_1:Int) (m2_2:(List ZQ)) (m2_3:(List ZL)) (m2_4:(List Zn)) (m2_5:(List Zm)):(Int×Int)→V×Zi
  | r=>((.d (Zf r.1)),[(.arr 1 (List.map Zf m0_0)),(.cells [(.d (Zf r.2))]),(.cells [(.d (Zf m2_0)),(.d (Zf m2_1)),(.d (D.list t0 (List.map ZU m2_2))),(.d (D.list t1 (List.map ZR m2_3))),(.d (D.list t2 (List.map Zw m2_4))),(.d (D.list t3 (List.map Zq m2_5)))])])
theorem ZaO {t0:Bool}{t1:Bool}{t2:Bool}{t3:Bool}{b:Int}{c:Int}{d:Int}{m0_0:(List Int)}{m1_0:Int}{m2_0:Int}{m2_1:Int}{m2_2:(List ZQ)}{m2_3:(List ZL)}{m2_4:(List Zn)}{m2_5:(List Zm)}:∀r,(Zax b c d (fun z0 z1=>Zl z0 z1 m2_4) m0_0 m1_0)=some r→evW ctx 72 [(.sl 0 1),(.d (Zf b)),(.d (Zf c)),(.d (Zf d)),(.ptr 1 0),(.fn 16 [(.ptr 2 0)])] [(.arr 1 (List.map Zf m0_0)),(.cells [(.d (Zf m1_0))]),(.cells [(.d (Zf m2_0)),(.d (Zf m2_1)),(.d (D.list t0 (List.map ZU m2_2))),(.d (D.list t1 (List.map ZR m2_3))),(.d (D.list t2 (List.map Zw m2_4))),(.d (D.list t3 (List.map Zq m2_5)))])]=some ((ZbU t0 t1 t2 t3 b c d m0_0 m1_0 m2_0 m2_1 m2_2 m2_3 m2_4 m2_5) r):=by
 show ZV _ (fun r rhs=>rhs=some ((ZbU t0 t1 t2 t3 b c d m0_0 m1_0 m2_0 m2_1 m2_2 m2_3 m2_4 m2_5) r)) _
 unfold Zax
 rw[Ze4 ctx 72 Zta _ _ rfl rfl]
 conv=>arg 3;whnf
 refine Zb _ ZaN fun x0 hx0=>?_;conv=>arg 3;whnf
 refine Zb _ ZaN fun x1 hx1=>?_;conv=>arg 3;whnf
 refine Zb _ ZaN fun x2 hx2=>?_;conv=>arg 3;whnf
 exact Ze rfl
def Zbf (t0:Bool) (t1:Bool) (t2:Bool) (t3:Bool) (b:Int) (m0_0:(List Int)) (m1_0:Int) (m2_0:Int) (m2_1:Int) (m2_2:(List ZQ)) (m2_3:(List ZL)) (m2_4:(List Zn)) (m2_5:(List Zm)):(Int×Int)→V×Zi
  | r=>((.d (Zf r.1)),[(.arr 1 (List.map Zf m0_0)),(.cells [(.d (Zf r.2))]),(.cells [(.d (Zf m2_0)),(.d (Zf m2_1)),(.d (D.list t0 (List.map ZU m2_2))),(.d (D.list t1 (List.map ZR m2_3))),(.d (D.list t2 (List.map Zw m2_4))),(.d (D.list t3 (List.map Zq m2_5)))])])
theorem Zap {t0:Bool}{t1:Bool}{t2:Bool}{t3:Bool}{b:Int}{m0_0:(List Int)}{m1_0:Int}{m2_0:Int}{m2_1:Int}{m2_2:(List ZQ)}{m2_3:(List ZL)}{m2_4:(List Zn)}{m2_5:(List Zm)}:∀r,(ZZ b (fun z0 z1=>Zl z0 z1 m2_4) m0_0 m1_0)=some r→evW ctx 71 [(.sl 0 1),(.d (Zf b)),(.ptr 1 0),(.fn 16 [(.ptr 2 0)])] [(.arr 1 (List.map Zf m0_0)),(.cells [(.d (Zf m1_0))]),(.cells [(.d (Zf m2_0)),(.d (Zf m2_1)),(.d (D.list t0 (List.map ZU m2_2))),(.d (D.list t1 (List.map ZR m2_3))),(.d (D.list t2 (List.map Zw m2_4))),(.d (D.list t3 (List.map Zq m2_5)))])]=some ((Zbf t0 t1 t2 t3 b m0_0 m1_0 m2_0 m2_1 m2_2 m2_3 m2_4 m2_5) r):=by
 show ZV _ (fun r rhs=>rhs=some ((Zbf t0 t1 t2 t3 b m0_0 m1_0 m2_0 m2_1 m2_2 m2_3 m2_4 m2_5) r)) _
 unfold ZZ
 rw[Ze4 ctx 71 Zt0 _ _ rfl rfl]
 conv=>arg 3;whnf
 refine Zb _ ZaO fun x0 hx0=>?_;conv=>arg 3;whnf
 exact Ze rfl
def Zbv (t0:Bool) (t1:Bool) (t2:Bool) (t3:Bool) (b:Int) (c:Int) (m0_0:(List Int)) (m1_0:Int) (m1_1:Int) (m1_2:(List ZQ)) (m1_3:(List ZL)) (m1_4:(List Zn)) (m1_5:(List Zm)):(Int×Int)→V×Zi
  | r=>((.d (D.tup [(Zf r.1),(Zf r.2)])),[(.arr 1 (List.map Zf m0_0)),(.cells [(.d (Zf m1_0)),(.d (Zf m1_1)),(.d (D.list t0 (List.map ZU m1_2))),(.d (D.list t1 (List.map ZR m1_3))),(.d (D.list t2 (List.map Zw m1_4))),(.d (D.list t3 (List.map Zq m1_5)))])])
theorem Z8 {t0:Bool}{t1:Bool}{t2:Bool}{t3:Bool}{b:Int}{c:Int}{m0_0:(List Int)}{m1_0:Int}{m1_1:Int}{m1_2:(List ZQ)}{m1_3:(List ZL)}{m1_4:(List Zn)}{m1_5:(List Zm)}:∀r,(ZD b c (fun z0 z1=>Zl z0 z1 m1_4) m0_0)=some r→evW ctx 57 [(.sl 0 1),(.d (Zf b)),(.d (Zf c)),(.fn 16 [(.ptr 1 0)])] [(.arr 1 (List.map Zf m0_0)),(.cells [(.d (Zf m1_0)),(.d (Zf m1_1)),(.d (D.list t0 (List.map ZU m1_2))),(.d (D.list t1 (List.map ZR m1_3))),(.d (D.list t2 (List.map Zw m1_4))),(.d (D.list t3 (List.map Zq m1_5)))])]=some ((Zbv t0 t1 t2 t3 b c m0_0 m1_0 m1_1 m1_2 m1_3 m1_4 m1_5) r):=by
 show ZV _ (fun r rhs=>rhs=some ((Zbv t0 t1 t2 t3 b c m0_0 m1_0 m1_1 m1_2 m1_3 m1_4 m1_5) r)) _
 unfold ZD
 rw[Ze4 ctx 57 Zuk _ _ rfl rfl]
 conv=>arg 3;whnf
 refine Zab rfl ?_;conv=>arg 3;whnf
 refine Zab rfl ?_;conv=>arg 3;whnf
 refine Zab rfl ?_;conv=>arg 3;whnf
 refine Zd rfl ?_ ?_<;>conv=>arg 3;whnf
 ·refine Zd rfl ?_ ?_<;>conv=>arg 3;whnf
  ·refine Zb _ Zap fun x0 hx0=>?_;conv=>arg 3;whnf
   refine Zb _ Zap fun x1 hx1=>?_;conv=>arg 3;whnf
   refine Zb _ Zap fun x2 hx2=>?_;conv=>arg 3;whnf
   refine Zb _ ZaO fun x3 hx3=>?_;conv=>arg 3;whnf
   refine Zd rfl ?_ ?_<;>conv=>arg 3;whnf
   ·exact Ze rfl
   ·refine Zd rfl ?_ ?_<;>conv=>arg 3;whnf
    ·exact Ze rfl
    ·exact Ze rfl
  ·refine Zb _ ZaO fun x4 hx4=>?_;conv=>arg 3;whnf
   refine Zd rfl ?_ ?_<;>conv=>arg 3;whnf
   ·exact Ze rfl
   ·refine Zd rfl ?_ ?_<;>conv=>arg 3;whnf
    ·exact Ze rfl
    ·exact Ze rfl
 ·refine Zcv rfl ?_;conv=>arg 3;whnf
  exact Ze rfl
def Zbl (t0:Bool) (t1:Bool) (t2:Bool) (t3:Bool) (b:Int) (c:Int) (m0_0:(List Int)) (m1_0:Int) (m1_1:Int) (m1_2:(List ZQ)) (m1_3:(List ZL)) (m1_4:(List Zn)) (m1_5:(List Zm)):(List Int)→V×Zi
  | r=>((.d (D.tup [])),[(.arr 1 (List.map Zf r)),(.cells [(.d (Zf m1_0)),(.d (Zf m1_1)),(.d (D.list t0 (List.map ZU m1_2))),(.d (D.list t1 (List.map ZR m1_3))),(.d (D.list t2 (List.map Zw m1_4))),(.d (D.list t3 (List.map Zq m1_5)))])])
def Za8 (t0:Bool) (t1:Bool) (t2:Bool) (t3:Bool) (m1_0:Int) (m1_1:Int) (m1_2:(List ZQ)) (m1_3:(List ZL)) (m1_4:(List Zn)) (m1_5:(List Zm)):(List Int)→Ex×List V×Zi
  | r=>(.exit 0,[],[(.arr 1 (List.map Zf r)),(.cells [(.d (Zf m1_0)),(.d (Zf m1_1)),(.d (D.list t0 (List.map ZU m1_2))),(.d (D.list t1 (List.map ZR m1_3))),(.d (D.list t2 (List.map Zw m1_4))),(.d (D.list t3 (List.map Zq m1_5)))])])
theorem Zcw {t0:Bool}{t1:Bool}{t2:Bool}{t3:Bool}{m1_0:Int}{m1_1:Int}{m1_2:(List ZQ)}{m1_3:(List ZL)}{m1_4:(List Zn)}{m1_5:(List Zm)}:∀(s0:Int×Int×(List Int)) (r:(List Int)),lp (ZW) s0=some r→lpW ctx 2 [0,8,9] [] Zrg [(.sl 0 1),(.d (Zf s0.1)),(.d (Zf s0.2.1))] [(.arr 1 (List.map Zf s0.2.2)),(.cells [(.d (Zf m1_0)),(.d (Zf m1_1)),(.d (D.list t0 (List.map ZU m1_2))),(.d (D.list t1 (List.map ZR m1_3))),(.d (D.list t2 (List.map Zw m1_4))),(.d (D.list t3 (List.map Zq m1_5)))])]=some ((Za8 t0 t1 t2 t3 m1_0 m1_1 m1_2 m1_3 m1_4 m1_5) r):=by
 refine Zbc (Za8 t0 t1 t2 t3 m1_0 m1_1 m1_2 m1_3 m1_4 m1_5) ?_
 intro s0 rcl ih
 show ZV _ _ (lpW _ _ _ _ _ _ _)
 unfold ZW
 rw[Zbd]
 conv=>arg 3;whnf
 refine Zd rfl ?_ ?_<;>conv=>arg 3;whnf
 ·refine Zk rfl rfl fun x1 hx1=>?_;conv=>arg 3;whnf
  refine Zg (Zu rfl hx1) ?_;conv=>arg 3;whnf
  refine Zk rfl rfl fun x2 hx2=>?_;conv=>arg 3;whnf
  refine Zg (Zu rfl hx2) ?_;conv=>arg 3;whnf
  refine Zg (Za4 rfl hx2) ?_;conv=>arg 3;whnf
  refine Zg (Zu rfl hx2) ?_;conv=>arg 3;whnf
  refine Zs (ZaC Zf s0.2.2 s0.1.toNat x1) ?_;conv=>arg 3;whnf
  refine Zk rfl rfl fun x3 hx3=>?_;conv=>arg 3;whnf
  refine Zg (Zu rfl hx3) ?_;conv=>arg 3;whnf
  refine Zs (ZaC Zf (List.set s0.2.2 s0.1.toNat x1) s0.2.1.toNat x2) ?_;conv=>arg 3;whnf
  exact Zc (ih _)
 ·exact Ze rfl
theorem Z6 {t0:Bool}{t1:Bool}{t2:Bool}{t3:Bool}{b:Int}{c:Int}{m0_0:(List Int)}{m1_0:Int}{m1_1:Int}{m1_2:(List ZQ)}{m1_3:(List ZL)}{m1_4:(List Zn)}{m1_5:(List Zm)}:∀r,(ZC b c (fun z0 z1=>Zl z0 z1 m1_4) m0_0)=some r→evW ctx 58 [(.sl 0 1),(.d (Zf b)),(.d (Zf c)),(.fn 16 [(.ptr 1 0)])] [(.arr 1 (List.map Zf m0_0)),(.cells [(.d (Zf m1_0)),(.d (Zf m1_1)),(.d (D.list t0 (List.map ZU m1_2))),(.d (D.list t1 (List.map ZR m1_3))),(.d (D.list t2 (List.map Zw m1_4))),(.d (D.list t3 (List.map Zq m1_5)))])]=some ((Zbl t0 t1 t2 t3 b c m0_0 m1_0 m1_1 m1_2 m1_3 m1_4 m1_5) r):=by
 show ZV _ (fun r rhs=>rhs=some ((Zbl t0 t1 t2 t3 b c m0_0 m1_0 m1_1 m1_2 m1_3 m1_4 m1_5) r)) _
 unfold ZC
 rw[Ze4 ctx 58 ZtB _ _ rfl rfl]
 conv=>arg 3;whnf
 refine Zb _ (Zcw _) fun r4 hr4=>?_;conv=>arg 3;whnf
 exact Ze rfl
def ZaQ (t0:Bool) (t1:Bool) (t2:Bool) (t3:Bool) (b:Int) (c:Int) (m0_0:(List Int)) (m1_0:Int) (m1_1:Int) (m1_2:(List ZQ)) (m1_3:(List ZL)) (m1_4:(List Zn)) (m1_5:(List Zm)):((List Int)⊕(List Int))→V×Zi
  | (.inl r)=>((.d (D.bool true)),[(.arr 1 (List.map Zf r)),(.cells [(.d (Zf m1_0)),(.d (Zf m1_1)),(.d (D.list t0 (List.map ZU m1_2))),(.d (D.list t1 (List.map ZR m1_3))),(.d (D.list t2 (List.map Zw m1_4))),(.d (D.list t3 (List.map Zq m1_5)))])])
  | (.inr r)=>((.d (D.bool false)),[(.arr 1 (List.map Zf r)),(.cells [(.d (Zf m1_0)),(.d (Zf m1_1)),(.d (D.list t0 (List.map ZU m1_2))),(.d (D.list t1 (List.map ZR m1_3))),(.d (D.list t2 (List.map Zw m1_4))),(.d (D.list t3 (List.map Zq m1_5)))])])
def ZaJ (t0:Bool) (t1:Bool) (t2:Bool) (t3:Bool) (b:Int) (c:Int) (m1_0:Int) (m1_1:Int) (m1_2:(List ZQ)) (m1_3:(List ZL)) (m1_4:(List Zn)) (m1_5:(List Zm)) (s0:Int×Int×(List Int)):Int→Ex×List V×Zi
  | r=>(.exit 2,[(.sl 0 1),(.d (Zf b)),(.d (Zf c)),(.fn 16 [(.ptr 1 0)]),(.d (Zf r)),(.d (Zf s0.2.1))],[(.arr 1 (List.map Zf s0.2.2)),(.cells [(.d (Zf m1_0)),(.d (Zf m1_1)),(.d (D.list t0 (List.map ZU m1_2))),(.d (D.list t1 (List.map ZR m1_3))),(.d (D.list t2 (List.map Zw m1_4))),(.d (D.list t3 (List.map Zq m1_5)))])])
theorem Zb0 {t0:Bool}{t1:Bool}{t2:Bool}{t3:Bool}{b:Int}{c:Int}{m1_0:Int}{m1_1:Int}{m1_2:(List ZQ)}{m1_3:(List ZL)}{m1_4:(List Zn)}{m1_5:(List Zm)}{s0:Int×Int×(List Int)}:∀(s1:Int) (r:Int),lp (ZB c (fun z0 z1=>Zl z0 z1 m1_4) s0) s1=some r→lpW ctx 2 [0,1,2,3,9,10] [0,1,2,3,9,10] ZrT [(.sl 0 1),(.d (Zf b)),(.d (Zf c)),(.fn 16 [(.ptr 1 0)]),(.d (Zf s1)),(.d (Zf s0.2.1))] [(.arr 1 (List.map Zf s0.2.2)),(.cells [(.d (Zf m1_0)),(.d (Zf m1_1)),(.d (D.list t0 (List.map ZU m1_2))),(.d (D.list t1 (List.map ZR m1_3))),(.d (D.list t2 (List.map Zw m1_4))),(.d (D.list t3 (List.map Zq m1_5)))])]=some ((ZaJ t0 t1 t2 t3 b c m1_0 m1_1 m1_2 m1_3 m1_4 m1_5 s0) r):=by
 refine Zbc (ZaJ t0 t1 t2 t3 b c m1_0 m1_1 m1_2 m1_3 m1_4 m1_5 s0) ?_
 intro s1 rcl ih
 show ZV _ _ (lpW _ _ _ _ _ _ _)
 unfold ZB
 rw[Zbd]
 conv=>arg 3;whnf
 refine Zd rfl ?_ ?_<;>conv=>arg 3;whnf
 ·refine Zk rfl rfl fun x2 hx2=>?_;conv=>arg 3;whnf
  refine Zg (Zu rfl hx2) ?_;conv=>arg 3;whnf
  refine Zk rfl rfl fun x3 hx3=>?_;conv=>arg 3;whnf
  refine Zg (Zu rfl hx3) ?_;conv=>arg 3;whnf
  refine Zp _ Zy rfl fun x4 hx4=>?_;conv=>arg 3;whnf
  refine Zd rfl ?_ ?_<;>conv=>arg 3;whnf
  ·exact Ze rfl
  ·exact Zc (ih _)
 ·exact Ze rfl
def ZaG (t0:Bool) (t1:Bool) (t2:Bool) (t3:Bool) (b:Int) (c:Int) (m1_0:Int) (m1_1:Int) (m1_2:(List ZQ)) (m1_3:(List ZL)) (m1_4:(List Zn)) (m1_5:(List Zm)) (s0:Int×Int×(List Int)) (r5:Int):(List Int)→Ex×List V×Zi
  | r=>(.exit 4,[(.sl 0 1),(.d (Zf b)),(.d (Zf c)),(.fn 16 [(.ptr 1 0)]),(.d (Zf r5)),(.d (Zf s0.2.1))],[(.arr 1 (List.map Zf r)),(.cells [(.d (Zf m1_0)),(.d (Zf m1_1)),(.d (D.list t0 (List.map ZU m1_2))),(.d (D.list t1 (List.map ZR m1_3))),(.d (D.list t2 (List.map Zw m1_4))),(.d (D.list t3 (List.map Zq m1_5)))])])
theorem ZbZ {t0:Bool}{t1:Bool}{t2:Bool}{t3:Bool}{b:Int}{c:Int}{m1_0:Int}{m1_1:Int}{m1_2:(List ZQ)}{m1_3:(List ZL)}{m1_4:(List Zn)}{m1_5:(List Zm)}{s0:Int×Int×(List Int)}{r5:Int}:∀(s9:Int×(List Int)) (r:(List Int)),lp (ZJ (fun z0 z1=>Zl z0 z1 m1_4)) s9=some r→lpW ctx 2 [0,1,2,3,9,10,11] [0,1,2,3,9,10] ZqO [(.sl 0 1),(.d (Zf b)),(.d (Zf c)),(.fn 16 [(.ptr 1 0)]),(.d (Zf r5)),(.d (Zf s0.2.1)),(.d (Zf s9.1))] [(.arr 1 (List.map Zf s9.2)),(.cells [(.d (Zf m1_0)),(.d (Zf m1_1)),(.d (D.list t0 (List.map ZU m1_2))),(.d (D.list t1 (List.map ZR m1_3))),(.d (D.list t2 (List.map Zw m1_4))),(.d (D.list t3 (List.map Zq m1_5)))])]=some ((ZaG t0 t1 t2 t3 b c m1_0 m1_1 m1_2 m1_3 m1_4 m1_5 s0 r5) r):=by
 refine Zbc (ZaG t0 t1 t2 t3 b c m1_0 m1_1 m1_2 m1_3 m1_4 m1_5 s0 r5) ?_
 intro s9 rcl ih
 show ZV _ _ (lpW _ _ _ _ _ _ _)
 unfold ZJ
 rw[Zbd]
 conv=>arg 3;whnf
 refine Zd rfl ?_ ?_<;>conv=>arg 3;whnf
 ·refine Zk rfl rfl fun x10 hx10=>?_;conv=>arg 3;whnf
  refine Zg (Zu rfl hx10) ?_;conv=>arg 3;whnf
  refine Zk rfl rfl fun x11 hx11=>?_;conv=>arg 3;whnf
  refine Zg (Zu rfl hx11) ?_;conv=>arg 3;whnf
  refine Zp _ Zy rfl fun x12 hx12=>?_;conv=>arg 3;whnf
  refine Zd rfl ?_ ?_<;>conv=>arg 3;whnf
  ·refine Zg (Za4 rfl hx11) ?_;conv=>arg 3;whnf
   refine Zg (Zu rfl hx11) ?_;conv=>arg 3;whnf
   refine Zg (Za4 rfl hx10) ?_;conv=>arg 3;whnf
   refine Zg (Zu rfl hx10) ?_;conv=>arg 3;whnf
   refine Zg (Za4 rfl hx10) ?_;conv=>arg 3;whnf
   refine Zg (Zu rfl hx10) ?_;conv=>arg 3;whnf
   refine Zs (ZaC Zf s9.2 s9.1.toNat x11) ?_;conv=>arg 3;whnf
   refine Zk rfl rfl fun x13 hx13=>?_;conv=>arg 3;whnf
   refine Zg (Zu rfl hx13) ?_;conv=>arg 3;whnf
   refine Zs (ZaC Zf (List.set s9.2 s9.1.toNat x11) (w64 (s9.1-1)).toNat x10) ?_;conv=>arg 3;whnf
   exact Zc (ih _)
  ·exact Ze rfl
 ·exact Ze rfl
def ZaH (t0:Bool) (t1:Bool) (t2:Bool) (t3:Bool) (b:Int) (c:Int) (m1_0:Int) (m1_1:Int) (m1_2:(List ZQ)) (m1_3:(List ZL)) (m1_4:(List Zn)) (m1_5:(List Zm)) (s0:Int×Int×(List Int)) (r5:Int):(List Int)→Ex×List V×Zi
  | r=>(.exit 6,[(.sl 0 1),(.d (Zf b)),(.d (Zf c)),(.fn 16 [(.ptr 1 0)]),(.d (Zf r5)),(.d (Zf s0.2.1))],[(.arr 1 (List.map Zf r)),(.cells [(.d (Zf m1_0)),(.d (Zf m1_1)),(.d (D.list t0 (List.map ZU m1_2))),(.d (D.list t1 (List.map ZR m1_3))),(.d (D.list t2 (List.map Zw m1_4))),(.d (D.list t3 (List.map Zq m1_5)))])])
theorem ZaE {t0:Bool}{t1:Bool}{t2:Bool}{t3:Bool}{b:Int}{c:Int}{m1_0:Int}{m1_1:Int}{m1_2:(List ZQ)}{m1_3:(List ZL)}{m1_4:(List Zn)}{m1_5:(List Zm)}{s0:Int×Int×(List Int)}{r5:Int}:∀(s15:Int×(List Int)) (r:(List Int)),lp (Zz c (fun z0 z1=>Zl z0 z1 m1_4)) s15=some r→lpW ctx 2 [0,1,2,3,9,10,12] [0,1,2,3,9,10] ZqB [(.sl 0 1),(.d (Zf b)),(.d (Zf c)),(.fn 16 [(.ptr 1 0)]),(.d (Zf r5)),(.d (Zf s0.2.1)),(.d (Zf s15.1))] [(.arr 1 (List.map Zf s15.2)),(.cells [(.d (Zf m1_0)),(.d (Zf m1_1)),(.d (D.list t0 (List.map ZU m1_2))),(.d (D.list t1 (List.map ZR m1_3))),(.d (D.list t2 (List.map Zw m1_4))),(.d (D.list t3 (List.map Zq m1_5)))])]=some ((ZaH t0 t1 t2 t3 b c m1_0 m1_1 m1_2 m1_3 m1_4 m1_5 s0 r5) r):=by
 refine Zbc (ZaH t0 t1 t2 t3 b c m1_0 m1_1 m1_2 m1_3 m1_4 m1_5 s0 r5) ?_
 intro s15 rcl ih
 show ZV _ _ (lpW _ _ _ _ _ _ _)
 unfold Zz
 rw[Zbd]
 conv=>arg 3;whnf
 refine Zd rfl ?_ ?_<;>conv=>arg 3;whnf
 ·refine Zk rfl rfl fun x16 hx16=>?_;conv=>arg 3;whnf
  refine Zg (Zu rfl hx16) ?_;conv=>arg 3;whnf
  refine Zk rfl rfl fun x17 hx17=>?_;conv=>arg 3;whnf
  refine Zg (Zu rfl hx17) ?_;conv=>arg 3;whnf
  refine Zp _ Zy rfl fun x18 hx18=>?_;conv=>arg 3;whnf
  refine Zd rfl ?_ ?_<;>conv=>arg 3;whnf
  ·refine Zg (Za4 rfl hx17) ?_;conv=>arg 3;whnf
   refine Zg (Zu rfl hx17) ?_;conv=>arg 3;whnf
   refine Zg (Za4 rfl hx16) ?_;conv=>arg 3;whnf
   refine Zg (Zu rfl hx16) ?_;conv=>arg 3;whnf
   refine Zg (Za4 rfl hx16) ?_;conv=>arg 3;whnf
   refine Zg (Zu rfl hx16) ?_;conv=>arg 3;whnf
   refine Zs (ZaC Zf s15.2 s15.1.toNat x17) ?_;conv=>arg 3;whnf
   refine Zk rfl rfl fun x19 hx19=>?_;conv=>arg 3;whnf
   refine Zg (Zu rfl hx19) ?_;conv=>arg 3;whnf
   refine Zs (ZaC Zf (List.set s15.2 s15.1.toNat x17) (w64 (s15.1-1)).toNat x16) ?_;conv=>arg 3;whnf
   exact Zc (ih _)
  ·exact Ze rfl
 ·exact Ze rfl
def ZaI (t0:Bool) (t1:Bool) (t2:Bool) (t3:Bool) (b:Int) (c:Int) (m1_0:Int) (m1_1:Int) (m1_2:(List ZQ)) (m1_3:(List ZL)) (m1_4:(List Zn)) (m1_5:(List Zm)):((List Int)⊕((List Int)⊕(List Int)))→Ex×List V×Zi
  | (.inl r)=>(.ret,[(.d (D.bool true))],[(.arr 1 (List.map Zf r)),(.cells [(.d (Zf m1_0)),(.d (Zf m1_1)),(.d (D.list t0 (List.map ZU m1_2))),(.d (D.list t1 (List.map ZR m1_3))),(.d (D.list t2 (List.map Zw m1_4))),(.d (D.list t3 (List.map Zq m1_5)))])])
  | (.inr (.inl r))=>(.ret,[(.d (D.bool false))],[(.arr 1 (List.map Zf r)),(.cells [(.d (Zf m1_0)),(.d (Zf m1_1)),(.d (D.list t0 (List.map ZU m1_2))),(.d (D.list t1 (List.map ZR m1_3))),(.d (D.list t2 (List.map Zw m1_4))),(.d (D.list t3 (List.map Zq m1_5)))])])
  | (.inr (.inr r))=>(.exit 0,[.bad],[(.arr 1 (List.map Zf r)),(.cells [(.d (Zf m1_0)),(.d (Zf m1_1)),(.d (D.list t0 (List.map ZU m1_2))),(.d (D.list t1 (List.map ZR m1_3))),(.d (D.list t2 (List.map Zw m1_4))),(.d (D.list t3 (List.map Zq m1_5)))])])
theorem Zb4 {t0:Bool}{t1:Bool}{t2:Bool}{t3:Bool}{b:Int}{c:Int}{m1_0:Int}{m1_1:Int}{m1_2:(List ZQ)}{m1_3:(List ZL)}{m1_4:(List Zn)}{m1_5:(List Zm)}:∀(s0:Int×Int×(List Int)) (r:((List Int)⊕((List Int)⊕(List Int)))),lp (ZI b c (fun z0 z1=>Zl z0 z1 m1_4)) s0=some r→lpW ctx 2 [0,1,2,3,9,10] [8] ZqD [(.sl 0 1),(.d (Zf b)),(.d (Zf c)),(.fn 16 [(.ptr 1 0)]),(.d (Zf s0.1)),(.d (Zf s0.2.1))] [(.arr 1 (List.map Zf s0.2.2)),(.cells [(.d (Zf m1_0)),(.d (Zf m1_1)),(.d (D.list t0 (List.map ZU m1_2))),(.d (D.list t1 (List.map ZR m1_3))),(.d (D.list t2 (List.map Zw m1_4))),(.d (D.list t3 (List.map Zq m1_5)))])]=some ((ZaI t0 t1 t2 t3 b c m1_0 m1_1 m1_2 m1_3 m1_4 m1_5) r):=by
 refine Zbc (ZaI t0 t1 t2 t3 b c m1_0 m1_1 m1_2 m1_3 m1_4 m1_5) ?_
 intro s0 rcl ih
 show ZV _ _ (lpW _ _ _ _ _ _ _)
 unfold ZI
 rw[Zbd]
 conv=>arg 3;whnf
 refine Zd rfl ?_ ?_<;>conv=>arg 3;whnf
 ·refine Zb _ (Zb0 _) fun r5 hr5=>?_;conv=>arg 3;whnf
  refine Zd rfl ?_ ?_<;>conv=>arg 3;whnf
  ·exact Ze rfl
  ·refine Zd rfl ?_ ?_<;>conv=>arg 3;whnf
   ·exact Ze rfl
   ·refine Zk rfl rfl fun x6 hx6=>?_;conv=>arg 3;whnf
    refine Zg (Zu rfl hx6) ?_;conv=>arg 3;whnf
    refine Zk rfl rfl fun x7 hx7=>?_;conv=>arg 3;whnf
    refine Zg (Zu rfl hx7) ?_;conv=>arg 3;whnf
    refine Zg (Za4 rfl hx7) ?_;conv=>arg 3;whnf
    refine Zg (Zu rfl hx7) ?_;conv=>arg 3;whnf
    refine Zs (ZaC Zf s0.2.2 r5.toNat x6) ?_;conv=>arg 3;whnf
    refine Zk rfl rfl fun x8 hx8=>?_;conv=>arg 3;whnf
    refine Zg (Zu rfl hx8) ?_;conv=>arg 3;whnf
    refine Zs (ZaC Zf (List.set s0.2.2 r5.toNat x6) (w64 (r5-1)).toNat x7) ?_;conv=>arg 3;whnf
    refine Zd rfl ?_ ?_<;>conv=>arg 3;whnf
    ·refine Zb _ (ZbZ _) fun r14 hr14=>?_;conv=>arg 3;whnf
     refine Zd rfl ?_ ?_<;>conv=>arg 3;whnf
     ·refine Zb _ (ZaE _) fun r20 hr20=>?_;conv=>arg 3;whnf
      exact Zc (ih _)
     ·exact Zc (ih _)
    ·refine Zd rfl ?_ ?_<;>conv=>arg 3;whnf
     ·refine Zb _ (ZaE _) fun r26 hr26=>?_;conv=>arg 3;whnf
      exact Zc (ih _)
     ·exact Zc (ih _)
 ·exact Ze rfl
theorem ZaP {t0:Bool}{t1:Bool}{t2:Bool}{t3:Bool}{b:Int}{c:Int}{m0_0:(List Int)}{m1_0:Int}{m1_1:Int}{m1_2:(List ZQ)}{m1_3:(List ZL)}{m1_4:(List Zn)}{m1_5:(List Zm)}:∀r,(ZE b c (fun z0 z1=>Zl z0 z1 m1_4) m0_0)=some r→evW ctx 59 [(.sl 0 1),(.d (Zf b)),(.d (Zf c)),(.fn 16 [(.ptr 1 0)])] [(.arr 1 (List.map Zf m0_0)),(.cells [(.d (Zf m1_0)),(.d (Zf m1_1)),(.d (D.list t0 (List.map ZU m1_2))),(.d (D.list t1 (List.map ZR m1_3))),(.d (D.list t2 (List.map Zw m1_4))),(.d (D.list t3 (List.map Zq m1_5)))])]=some ((ZaQ t0 t1 t2 t3 b c m0_0 m1_0 m1_1 m1_2 m1_3 m1_4 m1_5) r):=by
 show ZV _ (fun r rhs=>rhs=some ((ZaQ t0 t1 t2 t3 b c m0_0 m1_0 m1_1 m1_2 m1_3 m1_4 m1_5) r)) _
 unfold ZE
 rw[Ze4 ctx 59 Zto _ _ rfl rfl]
 conv=>arg 3;whnf
 refine Zb _ (Zb4 _) fun r27 hr27=>?_
 clear hr27
 rcases r27 with r27 | (r27 | r27)
 ·conv=>arg 3;whnf
  exact Ze rfl
 ·conv=>arg 3;whnf
  exact Ze rfl
 ·conv=>arg 3;whnf
  exact Ze rfl
def ZbG (t0:Bool) (t1:Bool) (t2:Bool) (t3:Bool) (b:Int) (c:Int) (d:Int) (m0_0:(List Int)) (m1_0:Int) (m1_1:Int) (m1_2:(List ZQ)) (m1_3:(List ZL)) (m1_4:(List Zn)) (m1_5:(List Zm)):((Int×(List Int))⊕(Int×(List Int)))→V×Zi
  | (.inl r)=>((.d (D.tup [(Zf r.1),(D.bool true)])),[(.arr 1 (List.map Zf r.2)),(.cells [(.d (Zf m1_0)),(.d (Zf m1_1)),(.d (D.list t0 (List.map ZU m1_2))),(.d (D.list t1 (List.map ZR m1_3))),(.d (D.list t2 (List.map Zw m1_4))),(.d (D.list t3 (List.map Zq m1_5)))])])
  | (.inr r)=>((.d (D.tup [(Zf r.1),(D.bool false)])),[(.arr 1 (List.map Zf r.2)),(.cells [(.d (Zf m1_0)),(.d (Zf m1_1)),(.d (D.list t0 (List.map ZU m1_2))),(.d (D.list t1 (List.map ZR m1_3))),(.d (D.list t2 (List.map Zw m1_4))),(.d (D.list t3 (List.map Zq m1_5)))])])
def Zbs (t0:Bool) (t1:Bool) (t2:Bool) (t3:Bool) (b:Int) (c:Int) (d:Int) (m0_0:(List Int)) (m1_0:Int) (m1_1:Int) (m1_2:(List ZQ)) (m1_3:(List ZL)) (m1_4:(List Zn)) (m1_5:(List Zm)) (x0:Int) (x1:Int):Int→Ex×List V×Zi
  | r=>(.exit 0,[(.sl 0 1),(.d (Zf b)),(.fn 16 [(.ptr 1 0)]),(.d (Zf r)),(.d (Zf (w64 (c-1))))],[(.arr 1 (List.map Zf (List.set (List.set m0_0 b.toNat x0) d.toNat x1))),(.cells [(.d (Zf m1_0)),(.d (Zf m1_1)),(.d (D.list t0 (List.map ZU m1_2))),(.d (D.list t1 (List.map ZR m1_3))),(.d (D.list t2 (List.map Zw m1_4))),(.d (D.list t3 (List.map Zq m1_5)))])])
theorem ZcT {t0:Bool}{t1:Bool}{t2:Bool}{t3:Bool}{b:Int}{c:Int}{d:Int}{m0_0:(List Int)}{m1_0:Int}{m1_1:Int}{m1_2:(List ZQ)}{m1_3:(List ZL)}{m1_4:(List Zn)}{m1_5:(List Zm)}{x0:Int}{x1:Int}:∀(s3:Int) (r:Int),lp (Zak b c d m0_0 (fun z0 z1=>Zl z0 z1 m1_4) x0 x1) s3=some r→lpW ctx 2 [0,1,4,12,13] [0,1,4,12,13] Zqi [(.sl 0 1),(.d (Zf b)),(.fn 16 [(.ptr 1 0)]),(.d (Zf s3)),(.d (Zf (w64 (c-1))))] [(.arr 1 (List.map Zf (List.set (List.set m0_0 b.toNat x0) d.toNat x1))),(.cells [(.d (Zf m1_0)),(.d (Zf m1_1)),(.d (D.list t0 (List.map ZU m1_2))),(.d (D.list t1 (List.map ZR m1_3))),(.d (D.list t2 (List.map Zw m1_4))),(.d (D.list t3 (List.map Zq m1_5)))])]=some ((Zbs t0 t1 t2 t3 b c d m0_0 m1_0 m1_1 m1_2 m1_3 m1_4 m1_5 x0 x1) r):=by
 refine Zbc (Zbs t0 t1 t2 t3 b c d m0_0 m1_0 m1_1 m1_2 m1_3 m1_4 m1_5 x0 x1) ?_
 intro s3 rcl ih
 show ZV _ _ (lpW _ _ _ _ _ _ _)
 unfold Zak
 rw[Zbd]
 conv=>arg 3;whnf
 refine Zd rfl ?_ ?_<;>conv=>arg 3;whnf
 ·refine Zk rfl rfl fun x4 hx4=>?_;conv=>arg 3;whnf
  refine Zg (Zu rfl hx4) ?_;conv=>arg 3;whnf
  refine Zk rfl rfl fun x5 hx5=>?_;conv=>arg 3;whnf
  refine Zg (Zu rfl hx5) ?_;conv=>arg 3;whnf
  refine Zp _ Zy rfl fun x6 hx6=>?_;conv=>arg 3;whnf
  refine Zd rfl ?_ ?_<;>conv=>arg 3;whnf
  ·exact Zc (ih _)
  ·exact Ze rfl
 ·exact Ze rfl
def Zbp (t0:Bool) (t1:Bool) (t2:Bool) (t3:Bool) (b:Int) (d:Int) (m0_0:(List Int)) (m1_0:Int) (m1_1:Int) (m1_2:(List ZQ)) (m1_3:(List ZL)) (m1_4:(List Zn)) (m1_5:(List Zm)) (x0:Int) (x1:Int) (r7:Int):Int→Ex×List V×Zi
  | r=>(.exit 2,[(.sl 0 1),(.d (Zf b)),(.fn 16 [(.ptr 1 0)]),(.d (Zf r7)),(.d (Zf r))],[(.arr 1 (List.map Zf (List.set (List.set m0_0 b.toNat x0) d.toNat x1))),(.cells [(.d (Zf m1_0)),(.d (Zf m1_1)),(.d (D.list t0 (List.map ZU m1_2))),(.d (D.list t1 (List.map ZR m1_3))),(.d (D.list t2 (List.map Zw m1_4))),(.d (D.list t3 (List.map Zq m1_5)))])])
theorem ZcR {t0:Bool}{t1:Bool}{t2:Bool}{t3:Bool}{b:Int}{d:Int}{m0_0:(List Int)}{m1_0:Int}{m1_1:Int}{m1_2:(List ZQ)}{m1_3:(List ZL)}{m1_4:(List Zn)}{m1_5:(List Zm)}{x0:Int}{x1:Int}{r7:Int}:∀(s8:Int) (r:Int),lp (Zaj b d m0_0 (fun z0 z1=>Zl z0 z1 m1_4) x0 x1 r7) s8=some r→lpW ctx 2 [0,1,4,12,13] [0,1,4,12,13] Zrj [(.sl 0 1),(.d (Zf b)),(.fn 16 [(.ptr 1 0)]),(.d (Zf r7)),(.d (Zf s8))] [(.arr 1 (List.map Zf (List.set (List.set m0_0 b.toNat x0) d.toNat x1))),(.cells [(.d (Zf m1_0)),(.d (Zf m1_1)),(.d (D.list t0 (List.map ZU m1_2))),(.d (D.list t1 (List.map ZR m1_3))),(.d (D.list t2 (List.map Zw m1_4))),(.d (D.list t3 (List.map Zq m1_5)))])]=some ((Zbp t0 t1 t2 t3 b d m0_0 m1_0 m1_1 m1_2 m1_3 m1_4 m1_5 x0 x1 r7) r):=by
 refine Zbc (Zbp t0 t1 t2 t3 b d m0_0 m1_0 m1_1 m1_2 m1_3 m1_4 m1_5 x0 x1 r7) ?_
 intro s8 rcl ih
 show ZV _ _ (lpW _ _ _ _ _ _ _)
 unfold Zaj
 rw[Zbd]
 conv=>arg 3;whnf
 refine Zd rfl ?_ ?_<;>conv=>arg 3;whnf
 ·refine Zk rfl rfl fun x9 hx9=>?_;conv=>arg 3;whnf
  refine Zg (Zu rfl hx9) ?_;conv=>arg 3;whnf
  refine Zk rfl rfl fun x10 hx10=>?_;conv=>arg 3;whnf
  refine Zg (Zu rfl hx10) ?_;conv=>arg 3;whnf
  refine Zp _ Zy rfl fun x11 hx11=>?_;conv=>arg 3;whnf
  refine Zd rfl ?_ ?_<;>conv=>arg 3;whnf
  ·exact Ze rfl
  ·exact Zc (ih _)
 ·exact Ze rfl
def Zbm (t0:Bool) (t1:Bool) (t2:Bool) (t3:Bool) (b:Int) (m1_0:Int) (m1_1:Int) (m1_2:(List ZQ)) (m1_3:(List ZL)) (m1_4:(List Zn)) (m1_5:(List Zm)) (s19:Int×Int×(List Int)):Int→Ex×List V×Zi
  | r=>(.exit 6,[(.sl 0 1),(.d (Zf b)),(.fn 16 [(.ptr 1 0)]),(.d (Zf r)),(.d (Zf s19.2.1))],[(.arr 1 (List.map Zf s19.2.2)),(.cells [(.d (Zf m1_0)),(.d (Zf m1_1)),(.d (D.list t0 (List.map ZU m1_2))),(.d (D.list t1 (List.map ZR m1_3))),(.d (D.list t2 (List.map Zw m1_4))),(.d (D.list t3 (List.map Zq m1_5)))])])
theorem ZcV {t0:Bool}{t1:Bool}{t2:Bool}{t3:Bool}{b:Int}{m1_0:Int}{m1_1:Int}{m1_2:(List ZQ)}{m1_3:(List ZL)}{m1_4:(List Zn)}{m1_5:(List Zm)}{s19:Int×Int×(List Int)}:∀(s20:Int) (r:Int),lp (Zal b (fun z0 z1=>Zl z0 z1 m1_4) s19) s20=some r→lpW ctx 2 [0,1,4,12,13] [0,1,4,12,13] ZrJ [(.sl 0 1),(.d (Zf b)),(.fn 16 [(.ptr 1 0)]),(.d (Zf s20)),(.d (Zf s19.2.1))] [(.arr 1 (List.map Zf s19.2.2)),(.cells [(.d (Zf m1_0)),(.d (Zf m1_1)),(.d (D.list t0 (List.map ZU m1_2))),(.d (D.list t1 (List.map ZR m1_3))),(.d (D.list t2 (List.map Zw m1_4))),(.d (D.list t3 (List.map Zq m1_5)))])]=some ((Zbm t0 t1 t2 t3 b m1_0 m1_1 m1_2 m1_3 m1_4 m1_5 s19) r):=by
 refine Zbc (Zbm t0 t1 t2 t3 b m1_0 m1_1 m1_2 m1_3 m1_4 m1_5 s19) ?_
 intro s20 rcl ih
 show ZV _ _ (lpW _ _ _ _ _ _ _)
 unfold Zal
 rw[Zbd]
 conv=>arg 3;whnf
 refine Zd rfl ?_ ?_<;>conv=>arg 3;whnf
 ·refine Zk rfl rfl fun x21 hx21=>?_;conv=>arg 3;whnf
  refine Zg (Zu rfl hx21) ?_;conv=>arg 3;whnf
  refine Zk rfl rfl fun x22 hx22=>?_;conv=>arg 3;whnf
  refine Zg (Zu rfl hx22) ?_;conv=>arg 3;whnf
  refine Zp _ Zy rfl fun x23 hx23=>?_;conv=>arg 3;whnf
  refine Zd rfl ?_ ?_<;>conv=>arg 3;whnf
  ·exact Zc (ih _)
  ·exact Ze rfl
 ·exact Ze rfl
def Zbq (t0:Bool) (t1:Bool) (t2:Bool) (t3:Bool) (b:Int) (m1_0:Int) (m1_1:Int) (m1_2:(List ZQ)) (m1_3:(List ZL)) (m1_4:(List Zn)) (m1_5:(List Zm)) (s19:Int×Int×(List Int)) (r24:Int):Int→Ex×List V×Zi
  | r=>(.exit 8,[(.sl 0 1),(.d (Zf b)),(.fn 16 [(.ptr 1 0)]),(.d (Zf r24)),(.d (Zf r))],[(.arr 1 (List.map Zf s19.2.2)),(.cells [(.d (Zf m1_0)),(.d (Zf m1_1)),(.d (D.list t0 (List.map ZU m1_2))),(.d (D.list t1 (List.map ZR m1_3))),(.d (D.list t2 (List.map Zw m1_4))),(.d (D.list t3 (List.map Zq m1_5)))])])
theorem ZcO {t0:Bool}{t1:Bool}{t2:Bool}{t3:Bool}{b:Int}{m1_0:Int}{m1_1:Int}{m1_2:(List ZQ)}{m1_3:(List ZL)}{m1_4:(List Zn)}{m1_5:(List Zm)}{s19:Int×Int×(List Int)}{r24:Int}:∀(s25:Int) (r:Int),lp (Zah b (fun z0 z1=>Zl z0 z1 m1_4) s19 r24) s25=some r→lpW ctx 2 [0,1,4,12,13] [0,1,4,12,13] ZqV [(.sl 0 1),(.d (Zf b)),(.fn 16 [(.ptr 1 0)]),(.d (Zf r24)),(.d (Zf s25))] [(.arr 1 (List.map Zf s19.2.2)),(.cells [(.d (Zf m1_0)),(.d (Zf m1_1)),(.d (D.list t0 (List.map ZU m1_2))),(.d (D.list t1 (List.map ZR m1_3))),(.d (D.list t2 (List.map Zw m1_4))),(.d (D.list t3 (List.map Zq m1_5)))])]=some ((Zbq t0 t1 t2 t3 b m1_0 m1_1 m1_2 m1_3 m1_4 m1_5 s19 r24) r):=by
 refine Zbc (Zbq t0 t1 t2 t3 b m1_0 m1_1 m1_2 m1_3 m1_4 m1_5 s19 r24) ?_
 intro s25 rcl ih
 show ZV _ _ (lpW _ _ _ _ _ _ _)
 unfold Zah
 rw[Zbd]
 conv=>arg 3;whnf
 refine Zd rfl ?_ ?_<;>conv=>arg 3;whnf
 ·refine Zk rfl rfl fun x26 hx26=>?_;conv=>arg 3;whnf
  refine Zg (Zu rfl hx26) ?_;conv=>arg 3;whnf
  refine Zk rfl rfl fun x27 hx27=>?_;conv=>arg 3;whnf
  refine Zg (Zu rfl hx27) ?_;conv=>arg 3;whnf
  refine Zp _ Zy rfl fun x28 hx28=>?_;conv=>arg 3;whnf
  refine Zd rfl ?_ ?_<;>conv=>arg 3;whnf
  ·exact Ze rfl
  ·exact Zc (ih _)
 ·exact Ze rfl
def Zbo (t0:Bool) (t1:Bool) (t2:Bool) (t3:Bool) (b:Int) (m1_0:Int) (m1_1:Int) (m1_2:(List ZQ)) (m1_3:(List ZL)) (m1_4:(List Zn)) (m1_5:(List Zm)):(Int×(List Int))→Ex×List V×Zi
  | r=>(.exit 4,[(.sl 0 1),(.d (Zf b)),(.d (Zf r.1))],[(.arr 1 (List.map Zf r.2)),(.cells [(.d (Zf m1_0)),(.d (Zf m1_1)),(.d (D.list t0 (List.map ZU m1_2))),(.d (D.list t1 (List.map ZR m1_3))),(.d (D.list t2 (List.map Zw m1_4))),(.d (D.list t3 (List.map Zq m1_5)))])])
theorem ZcU {t0:Bool}{t1:Bool}{t2:Bool}{t3:Bool}{b:Int}{m1_0:Int}{m1_1:Int}{m1_2:(List ZQ)}{m1_3:(List ZL)}{m1_4:(List Zn)}{m1_5:(List Zm)}:∀(s19:Int×Int×(List Int)) (r:(Int×(List Int))),lp (ZaF b (fun z0 z1=>Zl z0 z1 m1_4)) s19=some r→lpW ctx 2 [0,1,4,12,13] [0,1,13] Zqd [(.sl 0 1),(.d (Zf b)),(.fn 16 [(.ptr 1 0)]),(.d (Zf s19.1)),(.d (Zf s19.2.1))] [(.arr 1 (List.map Zf s19.2.2)),(.cells [(.d (Zf m1_0)),(.d (Zf m1_1)),(.d (D.list t0 (List.map ZU m1_2))),(.d (D.list t1 (List.map ZR m1_3))),(.d (D.list t2 (List.map Zw m1_4))),(.d (D.list t3 (List.map Zq m1_5)))])]=some ((Zbo t0 t1 t2 t3 b m1_0 m1_1 m1_2 m1_3 m1_4 m1_5) r):=by
 refine Zbc (Zbo t0 t1 t2 t3 b m1_0 m1_1 m1_2 m1_3 m1_4 m1_5) ?_
 intro s19 rcl ih
 show ZV _ _ (lpW _ _ _ _ _ _ _)
 unfold ZaF
 rw[Zbd]
 conv=>arg 3;whnf
 refine Zb _ (ZcV _) fun r24 hr24=>?_;conv=>arg 3;whnf
 refine Zb _ (ZcO _) fun r29 hr29=>?_;conv=>arg 3;whnf
 refine Zd rfl ?_ ?_<;>conv=>arg 3;whnf
 ·exact Ze rfl
 ·refine Zk rfl rfl fun x30 hx30=>?_;conv=>arg 3;whnf
  refine Zg (Zu rfl hx30) ?_;conv=>arg 3;whnf
  refine Zk rfl rfl fun x31 hx31=>?_;conv=>arg 3;whnf
  refine Zg (Zu rfl hx31) ?_;conv=>arg 3;whnf
  refine Zg (Za4 rfl hx31) ?_;conv=>arg 3;whnf
  refine Zg (Zu rfl hx31) ?_;conv=>arg 3;whnf
  refine Zs (ZaC Zf s19.2.2 r24.toNat x30) ?_;conv=>arg 3;whnf
  refine Zk rfl rfl fun x32 hx32=>?_;conv=>arg 3;whnf
  refine Zg (Zu rfl hx32) ?_;conv=>arg 3;whnf
  refine Zs (ZaC Zf (List.set s19.2.2 r24.toNat x30) r29.toNat x31) ?_;conv=>arg 3;whnf
  exact Zc (ih _)
theorem Zh {t0:Bool}{t1:Bool}{t2:Bool}{t3:Bool}{b:Int}{c:Int}{d:Int}{m0_0:(List Int)}{m1_0:Int}{m1_1:Int}{m1_2:(List ZQ)}{m1_3:(List ZL)}{m1_4:(List Zn)}{m1_5:(List Zm)}:∀r,(Zj b c d (fun z0 z1=>Zl z0 z1 m1_4) m0_0)=some r→evW ctx 61 [(.sl 0 1),(.d (Zf b)),(.d (Zf c)),(.d (Zf d)),(.fn 16 [(.ptr 1 0)])] [(.arr 1 (List.map Zf m0_0)),(.cells [(.d (Zf m1_0)),(.d (Zf m1_1)),(.d (D.list t0 (List.map ZU m1_2))),(.d (D.list t1 (List.map ZR m1_3))),(.d (D.list t2 (List.map Zw m1_4))),(.d (D.list t3 (List.map Zq m1_5)))])]=some ((ZbG t0 t1 t2 t3 b c d m0_0 m1_0 m1_1 m1_2 m1_3 m1_4 m1_5) r):=by
 show ZV _ (fun r rhs=>rhs=some ((ZbG t0 t1 t2 t3 b c d m0_0 m1_0 m1_1 m1_2 m1_3 m1_4 m1_5) r)) _
 unfold Zj
 rw[Ze4 ctx 61 ZtP _ _ rfl rfl]
 conv=>arg 3;whnf
 refine Zk rfl rfl fun x0 hx0=>?_;conv=>arg 3;whnf
 refine Zg (Zu rfl hx0) ?_;conv=>arg 3;whnf
 refine Zk rfl rfl fun x1 hx1=>?_;conv=>arg 3;whnf
 refine Zg (Zu rfl hx1) ?_;conv=>arg 3;whnf
 refine Zg (Za4 rfl hx1) ?_;conv=>arg 3;whnf
 refine Zg (Zu rfl hx1) ?_;conv=>arg 3;whnf
 refine Zs (ZaC Zf m0_0 b.toNat x0) ?_;conv=>arg 3;whnf
 refine Zk rfl rfl fun x2 hx2=>?_;conv=>arg 3;whnf
 refine Zg (Zu rfl hx2) ?_;conv=>arg 3;whnf
 refine Zs (ZaC Zf (List.set m0_0 b.toNat x0) d.toNat x1) ?_;conv=>arg 3;whnf
 refine Zb _ (ZcT _) fun r7 hr7=>?_;conv=>arg 3;whnf
 refine Zb _ (ZcR _) fun r12 hr12=>?_;conv=>arg 3;whnf
 refine Zd rfl ?_ ?_<;>conv=>arg 3;whnf
 ·refine Zk rfl rfl fun x13 hx13=>?_;conv=>arg 3;whnf
  refine Zg (Zu rfl hx13) ?_;conv=>arg 3;whnf
  refine Zk rfl rfl fun x14 hx14=>?_;conv=>arg 3;whnf
  refine Zg (Zu rfl hx14) ?_;conv=>arg 3;whnf
  refine Zg (Za4 rfl hx14) ?_;conv=>arg 3;whnf
  refine Zg (Zu rfl hx14) ?_;conv=>arg 3;whnf
  refine Zs (ZaC Zf (List.set (List.set m0_0 b.toNat x0) d.toNat x1) r12.toNat x13) ?_;conv=>arg 3;whnf
  refine Zk rfl rfl fun x15 hx15=>?_;conv=>arg 3;whnf
  refine Zg (Zu rfl hx15) ?_;conv=>arg 3;whnf
  refine Zs (ZaC Zf (List.set (List.set (List.set m0_0 b.toNat x0) d.toNat x1) r12.toNat x13) b.toNat x14) ?_;conv=>arg 3;whnf
  exact Ze rfl
 ·refine Zk rfl rfl fun x16 hx16=>?_;conv=>arg 3;whnf
  refine Zg (Zu rfl hx16) ?_;conv=>arg 3;whnf
  refine Zk rfl rfl fun x17 hx17=>?_;conv=>arg 3;whnf
  refine Zg (Zu rfl hx17) ?_;conv=>arg 3;whnf
  refine Zg (Za4 rfl hx17) ?_;conv=>arg 3;whnf
  refine Zg (Zu rfl hx17) ?_;conv=>arg 3;whnf
  refine Zs (ZaC Zf (List.set (List.set m0_0 b.toNat x0) d.toNat x1) r7.toNat x16) ?_;conv=>arg 3;whnf
  refine Zk rfl rfl fun x18 hx18=>?_;conv=>arg 3;whnf
  refine Zg (Zu rfl hx18) ?_;conv=>arg 3;whnf
  refine Zs (ZaC Zf (List.set (List.set (List.set m0_0 b.toNat x0) d.toNat x1) r7.toNat x16) r12.toNat x17) ?_;conv=>arg 3;whnf
  refine Zb _ (ZcU _) fun r33 hr33=>?_;conv=>arg 3;whnf
  refine Zk rfl rfl fun x34 hx34=>?_;conv=>arg 3;whnf
  refine Zg (Zu rfl hx34) ?_;conv=>arg 3;whnf
  refine Zk rfl rfl fun x35 hx35=>?_;conv=>arg 3;whnf
  refine Zg (Zu rfl hx35) ?_;conv=>arg 3;whnf
  refine Zg (Za4 rfl hx35) ?_;conv=>arg 3;whnf
  refine Zg (Zu rfl hx35) ?_;conv=>arg 3;whnf
  refine Zs (ZaC Zf r33.2 r33.1.toNat x34) ?_;conv=>arg 3;whnf
  refine Zk rfl rfl fun x36 hx36=>?_;conv=>arg 3;whnf
  refine Zg (Zu rfl hx36) ?_;conv=>arg 3;whnf
  refine Zs (ZaC Zf (List.set r33.2 r33.1.toNat x34) b.toNat x35) ?_;conv=>arg 3;whnf
  exact Ze rfl
def Zbg (t0:Bool) (t1:Bool) (t2:Bool) (t3:Bool) (b:Int) (c:Int) (d:Int) (m0_0:(List Int)) (m1_0:Int) (m1_1:Int) (m1_2:(List ZQ)) (m1_3:(List ZL)) (m1_4:(List Zn)) (m1_5:(List Zm)):(Int×(List Int))→V×Zi
  | r=>((.d (Zf r.1)),[(.arr 1 (List.map Zf r.2)),(.cells [(.d (Zf m1_0)),(.d (Zf m1_1)),(.d (D.list t0 (List.map ZU m1_2))),(.d (D.list t1 (List.map ZR m1_3))),(.d (D.list t2 (List.map Zw m1_4))),(.d (D.list t3 (List.map Zq m1_5)))])])
def ZaW (t0:Bool) (t1:Bool) (t2:Bool) (t3:Bool) (b:Int) (m1_0:Int) (m1_1:Int) (m1_2:(List ZQ)) (m1_3:(List ZL)) (m1_4:(List Zn)) (m1_5:(List Zm)) (s3:Int×Int×(List Int)):Int→Ex×List V×Zi
  | r=>(.exit 2,[(.sl 0 1),(.d (Zf b)),(.fn 16 [(.ptr 1 0)]),(.d (Zf r)),(.d (Zf s3.2.1))],[(.arr 1 (List.map Zf s3.2.2)),(.cells [(.d (Zf m1_0)),(.d (Zf m1_1)),(.d (D.list t0 (List.map ZU m1_2))),(.d (D.list t1 (List.map ZR m1_3))),(.d (D.list t2 (List.map Zw m1_4))),(.d (D.list t3 (List.map Zq m1_5)))])])
theorem Zck {t0:Bool}{t1:Bool}{t2:Bool}{t3:Bool}{b:Int}{m1_0:Int}{m1_1:Int}{m1_2:(List ZQ)}{m1_3:(List ZL)}{m1_4:(List Zn)}{m1_5:(List Zm)}{s3:Int×Int×(List Int)}:∀(s4:Int) (r:Int),lp (Z4 b (fun z0 z1=>Zl z0 z1 m1_4) s3) s4=some r→lpW ctx 2 [0,1,4,11,12] [0,1,4,11,12] Zrh [(.sl 0 1),(.d (Zf b)),(.fn 16 [(.ptr 1 0)]),(.d (Zf s4)),(.d (Zf s3.2.1))] [(.arr 1 (List.map Zf s3.2.2)),(.cells [(.d (Zf m1_0)),(.d (Zf m1_1)),(.d (D.list t0 (List.map ZU m1_2))),(.d (D.list t1 (List.map ZR m1_3))),(.d (D.list t2 (List.map Zw m1_4))),(.d (D.list t3 (List.map Zq m1_5)))])]=some ((ZaW t0 t1 t2 t3 b m1_0 m1_1 m1_2 m1_3 m1_4 m1_5 s3) r):=by
 refine Zbc (ZaW t0 t1 t2 t3 b m1_0 m1_1 m1_2 m1_3 m1_4 m1_5 s3) ?_
 intro s4 rcl ih
 show ZV _ _ (lpW _ _ _ _ _ _ _)
 unfold Z4
 rw[Zbd]
 conv=>arg 3;whnf
 refine Zd rfl ?_ ?_<;>conv=>arg 3;whnf
 ·refine Zk rfl rfl fun x5 hx5=>?_;conv=>arg 3;whnf
  refine Zg (Zu rfl hx5) ?_;conv=>arg 3;whnf
  refine Zk rfl rfl fun x6 hx6=>?_;conv=>arg 3;whnf
  refine Zg (Zu rfl hx6) ?_;conv=>arg 3;whnf
  refine Zp _ Zy rfl fun x7 hx7=>?_;conv=>arg 3;whnf
  refine Zd rfl ?_ ?_<;>conv=>arg 3;whnf
  ·exact Ze rfl
  ·exact Zc (ih _)
 ·exact Ze rfl
def ZaX (t0:Bool) (t1:Bool) (t2:Bool) (t3:Bool) (b:Int) (m1_0:Int) (m1_1:Int) (m1_2:(List ZQ)) (m1_3:(List ZL)) (m1_4:(List Zn)) (m1_5:(List Zm)) (s3:Int×Int×(List Int)) (r8:Int):Int→Ex×List V×Zi
  | r=>(.exit 4,[(.sl 0 1),(.d (Zf b)),(.fn 16 [(.ptr 1 0)]),(.d (Zf r8)),(.d (Zf r))],[(.arr 1 (List.map Zf s3.2.2)),(.cells [(.d (Zf m1_0)),(.d (Zf m1_1)),(.d (D.list t0 (List.map ZU m1_2))),(.d (D.list t1 (List.map ZR m1_3))),(.d (D.list t2 (List.map Zw m1_4))),(.d (D.list t3 (List.map Zq m1_5)))])])
theorem Zco {t0:Bool}{t1:Bool}{t2:Bool}{t3:Bool}{b:Int}{m1_0:Int}{m1_1:Int}{m1_2:(List ZQ)}{m1_3:(List ZL)}{m1_4:(List Zn)}{m1_5:(List Zm)}{s3:Int×Int×(List Int)}{r8:Int}:∀(s9:Int) (r:Int),lp (Z5 b (fun z0 z1=>Zl z0 z1 m1_4) s3 r8) s9=some r→lpW ctx 2 [0,1,4,11,12] [0,1,4,11,12] Zqp [(.sl 0 1),(.d (Zf b)),(.fn 16 [(.ptr 1 0)]),(.d (Zf r8)),(.d (Zf s9))] [(.arr 1 (List.map Zf s3.2.2)),(.cells [(.d (Zf m1_0)),(.d (Zf m1_1)),(.d (D.list t0 (List.map ZU m1_2))),(.d (D.list t1 (List.map ZR m1_3))),(.d (D.list t2 (List.map Zw m1_4))),(.d (D.list t3 (List.map Zq m1_5)))])]=some ((ZaX t0 t1 t2 t3 b m1_0 m1_1 m1_2 m1_3 m1_4 m1_5 s3 r8) r):=by
 refine Zbc (ZaX t0 t1 t2 t3 b m1_0 m1_1 m1_2 m1_3 m1_4 m1_5 s3 r8) ?_
 intro s9 rcl ih
 show ZV _ _ (lpW _ _ _ _ _ _ _)
 unfold Z5
 rw[Zbd]
 conv=>arg 3;whnf
 refine Zd rfl ?_ ?_<;>conv=>arg 3;whnf
 ·refine Zk rfl rfl fun x10 hx10=>?_;conv=>arg 3;whnf
  refine Zg (Zu rfl hx10) ?_;conv=>arg 3;whnf
  refine Zk rfl rfl fun x11 hx11=>?_;conv=>arg 3;whnf
  refine Zg (Zu rfl hx11) ?_;conv=>arg 3;whnf
  refine Zp _ Zy rfl fun x12 hx12=>?_;conv=>arg 3;whnf
  refine Zd rfl ?_ ?_<;>conv=>arg 3;whnf
  ·exact Zc (ih _)
  ·exact Ze rfl
 ·exact Ze rfl
def ZaV (t0:Bool) (t1:Bool) (t2:Bool) (t3:Bool) (b:Int) (m1_0:Int) (m1_1:Int) (m1_2:(List ZQ)) (m1_3:(List ZL)) (m1_4:(List Zn)) (m1_5:(List Zm)):(Int×(List Int))→Ex×List V×Zi
  | r=>(.exit 0,[(.d (Zf r.1))],[(.arr 1 (List.map Zf r.2)),(.cells [(.d (Zf m1_0)),(.d (Zf m1_1)),(.d (D.list t0 (List.map ZU m1_2))),(.d (D.list t1 (List.map ZR m1_3))),(.d (D.list t2 (List.map Zw m1_4))),(.d (D.list t3 (List.map Zq m1_5)))])])
theorem Zcl {t0:Bool}{t1:Bool}{t2:Bool}{t3:Bool}{b:Int}{m1_0:Int}{m1_1:Int}{m1_2:(List ZQ)}{m1_3:(List ZL)}{m1_4:(List Zn)}{m1_5:(List Zm)}:∀(s3:Int×Int×(List Int)) (r:(Int×(List Int))),lp (Zai b (fun z0 z1=>Zl z0 z1 m1_4)) s3=some r→lpW ctx 2 [0,1,4,11,12] [11] Zrp [(.sl 0 1),(.d (Zf b)),(.fn 16 [(.ptr 1 0)]),(.d (Zf s3.1)),(.d (Zf s3.2.1))] [(.arr 1 (List.map Zf s3.2.2)),(.cells [(.d (Zf m1_0)),(.d (Zf m1_1)),(.d (D.list t0 (List.map ZU m1_2))),(.d (D.list t1 (List.map ZR m1_3))),(.d (D.list t2 (List.map Zw m1_4))),(.d (D.list t3 (List.map Zq m1_5)))])]=some ((ZaV t0 t1 t2 t3 b m1_0 m1_1 m1_2 m1_3 m1_4 m1_5) r):=by
 refine Zbc (ZaV t0 t1 t2 t3 b m1_0 m1_1 m1_2 m1_3 m1_4 m1_5) ?_
 intro s3 rcl ih
 show ZV _ _ (lpW _ _ _ _ _ _ _)
 unfold Zai
 rw[Zbd]
 conv=>arg 3;whnf
 refine Zb _ (Zck _) fun r8 hr8=>?_;conv=>arg 3;whnf
 refine Zb _ (Zco _) fun r13 hr13=>?_;conv=>arg 3;whnf
 refine Zd rfl ?_ ?_<;>conv=>arg 3;whnf
 ·exact Ze rfl
 ·refine Zk rfl rfl fun x14 hx14=>?_;conv=>arg 3;whnf
  refine Zg (Zu rfl hx14) ?_;conv=>arg 3;whnf
  refine Zk rfl rfl fun x15 hx15=>?_;conv=>arg 3;whnf
  refine Zg (Zu rfl hx15) ?_;conv=>arg 3;whnf
  refine Zg (Za4 rfl hx15) ?_;conv=>arg 3;whnf
  refine Zg (Zu rfl hx15) ?_;conv=>arg 3;whnf
  refine Zs (ZaC Zf s3.2.2 r8.toNat x14) ?_;conv=>arg 3;whnf
  refine Zk rfl rfl fun x16 hx16=>?_;conv=>arg 3;whnf
  refine Zg (Zu rfl hx16) ?_;conv=>arg 3;whnf
  refine Zs (ZaC Zf (List.set s3.2.2 r8.toNat x14) r13.toNat x15) ?_;conv=>arg 3;whnf
  exact Zc (ih _)
theorem Zr {t0:Bool}{t1:Bool}{t2:Bool}{t3:Bool}{b:Int}{c:Int}{d:Int}{m0_0:(List Int)}{m1_0:Int}{m1_1:Int}{m1_2:(List ZQ)}{m1_3:(List ZL)}{m1_4:(List Zn)}{m1_5:(List Zm)}:∀r,(Zv b c d (fun z0 z1=>Zl z0 z1 m1_4) m0_0)=some r→evW ctx 60 [(.sl 0 1),(.d (Zf b)),(.d (Zf c)),(.d (Zf d)),(.fn 16 [(.ptr 1 0)])] [(.arr 1 (List.map Zf m0_0)),(.cells [(.d (Zf m1_0)),(.d (Zf m1_1)),(.d (D.list t0 (List.map ZU m1_2))),(.d (D.list t1 (List.map ZR m1_3))),(.d (D.list t2 (List.map Zw m1_4))),(.d (D.list t3 (List.map Zq m1_5)))])]=some ((Zbg t0 t1 t2 t3 b c d m0_0 m1_0 m1_1 m1_2 m1_3 m1_4 m1_5) r):=by
 show ZV _ (fun r rhs=>rhs=some ((Zbg t0 t1 t2 t3 b c d m0_0 m1_0 m1_1 m1_2 m1_3 m1_4 m1_5) r)) _
 unfold Zv
 rw[Ze4 ctx 60 Ztc _ _ rfl rfl]
 conv=>arg 3;whnf
 refine Zk rfl rfl fun x0 hx0=>?_;conv=>arg 3;whnf
 refine Zg (Zu rfl hx0) ?_;conv=>arg 3;whnf
 refine Zk rfl rfl fun x1 hx1=>?_;conv=>arg 3;whnf
 refine Zg (Zu rfl hx1) ?_;conv=>arg 3;whnf
 refine Zg (Za4 rfl hx1) ?_;conv=>arg 3;whnf
 refine Zg (Zu rfl hx1) ?_;conv=>arg 3;whnf
 refine Zs (ZaC Zf m0_0 b.toNat x0) ?_;conv=>arg 3;whnf
 refine Zk rfl rfl fun x2 hx2=>?_;conv=>arg 3;whnf
 refine Zg (Zu rfl hx2) ?_;conv=>arg 3;whnf
 refine Zs (ZaC Zf (List.set m0_0 b.toNat x0) d.toNat x1) ?_;conv=>arg 3;whnf
 refine Zb _ (Zcl _) fun r17 hr17=>?_;conv=>arg 3;whnf
 exact Ze rfl
def Zd8 (r:Int):D:=(D.int .u64 r)
theorem ZfP {a:Int}:∀r,(ZbR a)=some r→evD ctx 69 [(.d (Zf a))]=some (Zd8 r):=by
 show ZV _ (fun r rhs=>rhs=some (Zd8 r)) _
 unfold ZbR
 rw[ZbC ctx 69 Zuh _ rfl rfl]
 conv=>arg 3;whnf
 refine Zp _ ZfY rfl fun x0 hx0=>?_;conv=>arg 3;whnf
 refine Zd rfl ?_ ?_
 ·exact Za0
 ·conv=>arg 3;whnf
  exact Ze rfl
def Zed (m0_0:Int):Unit→V×Zi
  | r=>((.d (D.int .u64 (IntKind.u64.wrap (BitVec.ofInt IntKind.u64.bits (IntKind.u64.wrap (BitVec.ofInt IntKind.u64.bits (IntKind.u64.wrap (BitVec.ofInt IntKind.u64.bits m0_0 ^^^ BitVec.ofInt IntKind.u64.bits (IntKind.u64.wrap (m0_0*2 ^ 13))).toNat) ^^^ BitVec.ofInt IntKind.u64.bits (Int.fdiv (IntKind.u64.wrap (BitVec.ofInt IntKind.u64.bits m0_0 ^^^ BitVec.ofInt IntKind.u64.bits (IntKind.u64.wrap (m0_0*2 ^ 13))).toNat) (2 ^ 7))).toNat) ^^^ BitVec.ofInt IntKind.u64.bits (IntKind.u64.wrap ((IntKind.u64.wrap (BitVec.ofInt IntKind.u64.bits (IntKind.u64.wrap (BitVec.ofInt IntKind.u64.bits m0_0 ^^^ BitVec.ofInt IntKind.u64.bits (IntKind.u64.wrap (m0_0*2 ^ 13))).toNat) ^^^ BitVec.ofInt IntKind.u64.bits (Int.fdiv (IntKind.u64.wrap (BitVec.ofInt IntKind.u64.bits m0_0 ^^^ BitVec.ofInt IntKind.u64.bits (IntKind.u64.wrap (m0_0*2 ^ 13))).toNat) (2 ^ 7))).toNat)*2 ^ 17))).toNat))),[(.cells [(.d (D.int .u64 (IntKind.u64.wrap (BitVec.ofInt IntKind.u64.bits (IntKind.u64.wrap (BitVec.ofInt IntKind.u64.bits (IntKind.u64.wrap (BitVec.ofInt IntKind.u64.bits m0_0 ^^^ BitVec.ofInt IntKind.u64.bits (IntKind.u64.wrap (m0_0*2 ^ 13))).toNat) ^^^ BitVec.ofInt IntKind.u64.bits (Int.fdiv (IntKind.u64.wrap (BitVec.ofInt IntKind.u64.bits m0_0 ^^^ BitVec.ofInt IntKind.u64.bits (IntKind.u64.wrap (m0_0*2 ^ 13))).toNat) (2 ^ 7))).toNat) ^^^ BitVec.ofInt IntKind.u64.bits (IntKind.u64.wrap ((IntKind.u64.wrap (BitVec.ofInt IntKind.u64.bits (IntKind.u64.wrap (BitVec.ofInt IntKind.u64.bits m0_0 ^^^ BitVec.ofInt IntKind.u64.bits (IntKind.u64.wrap (m0_0*2 ^ 13))).toNat) ^^^ BitVec.ofInt IntKind.u64.bits (Int.fdiv (IntKind.u64.wrap (BitVec.ofInt IntKind.u64.bits m0_0 ^^^ BitVec.ofInt IntKind.u64.bits (IntKind.u64.wrap (m0_0*2 ^ 13))).toNat) (2 ^ 7))).toNat)*2 ^ 17))).toNat)))])])
theorem Zf3 {m0_0:Int}:∀r,ZcG=some r→evW ctx 70 [(.ptr 0 0)] [(.cells [(.d (D.int .u64 m0_0))])]=some ((Zed m0_0) r):=by
 show ZV _ (fun r rhs=>rhs=some ((Zed m0_0) r)) _
 unfold ZcG
 rw[Ze4 ctx 70 Zua _ _ rfl rfl]
 conv=>arg 3;whnf
 refine Zab rfl ?_;conv=>arg 3;whnf
 refine Zab rfl ?_;conv=>arg 3;whnf
 refine Zab rfl ?_;conv=>arg 3;whnf
 exact Ze rfl
def Zbj (t0:Bool) (t1:Bool) (t2:Bool) (t3:Bool) (b:Int) (c:Int) (m0_0:(List Int)) (m1_0:Int) (m1_1:Int) (m1_2:(List ZQ)) (m1_3:(List ZL)) (m1_4:(List Zn)) (m1_5:(List Zm)):(List Int)→V×Zi
  | r=>((.d (D.tup [])),[(.arr 1 (List.map Zf r)),(.cells [(.d (Zf m1_0)),(.d (Zf m1_1)),(.d (D.list t0 (List.map ZU m1_2))),(.d (D.list t1 (List.map ZR m1_3))),(.d (D.list t2 (List.map Zw m1_4))),(.d (D.list t3 (List.map Zq m1_5)))])])
def Za1 (t0:Bool) (t1:Bool) (t2:Bool) (t3:Bool) (b:Int) (c:Int) (m1_0:Int) (m1_1:Int) (m1_2:(List ZQ)) (m1_3:(List ZL)) (m1_4:(List Zn)) (m1_5:(List Zm)) (x0:Int):(List Int)→Ex×List V×Zi
  | r=>(.exit 0,[],[(.arr 1 (List.map Zf r)),(.cells [(.d (Zf m1_0)),(.d (Zf m1_1)),(.d (D.list t0 (List.map ZU m1_2))),(.d (D.list t1 (List.map ZR m1_3))),(.d (D.list t2 (List.map Zw m1_4))),(.d (D.list t3 (List.map Zq m1_5)))])])
theorem Zcs {t0:Bool}{t1:Bool}{t2:Bool}{t3:Bool}{b:Int}{c:Int}{m1_0:Int}{m1_1:Int}{m1_2:(List ZQ)}{m1_3:(List ZL)}{m1_4:(List Zn)}{m1_5:(List Zm)}{x0:Int}:∀(s1:Int×(List Int)×Int) (r:(List Int)),lp (Zaq b c x0) s1=some r→lpW ctx 2 [0,1,8,9,10,11] [] ZqM [(.sl 0 1),(.d (Zf b)),(.d (Zf (w64 (c-b)))),(.ptr 2 0),(.d (D.int .u64 x0)),(.d (Zf s1.1))] [(.arr 1 (List.map Zf s1.2.1)),(.cells [(.d (Zf m1_0)),(.d (Zf m1_1)),(.d (D.list t0 (List.map ZU m1_2))),(.d (D.list t1 (List.map ZR m1_3))),(.d (D.list t2 (List.map Zw m1_4))),(.d (D.list t3 (List.map Zq m1_5)))]),(.cells [(.d (D.int .u64 s1.2.2))])]=some ((Za1 t0 t1 t2 t3 b c m1_0 m1_1 m1_2 m1_3 m1_4 m1_5 x0) r):=by
 refine Zbc (Za1 t0 t1 t2 t3 b c m1_0 m1_1 m1_2 m1_3 m1_4 m1_5 x0) ?_
 intro s1 rcl ih
 show ZV _ _ (lpW _ _ _ _ _ _ _)
 unfold Zaq
 rw[Zbd]
 conv=>arg 3;whnf
 refine Zab rfl ?_;conv=>arg 3;whnf
 refine Zd rfl ?_ ?_<;>conv=>arg 3;whnf
 ·refine Zb _ Zf3 fun x2 hx2=>?_;conv=>arg 3;whnf
  refine Zd rfl ?_ ?_<;>conv=>arg 3;whnf
  ·refine Zk rfl rfl fun x3 hx3=>?_;conv=>arg 3;whnf
   refine Zg (Zu rfl hx3) ?_;conv=>arg 3;whnf
   refine Zk rfl rfl fun x4 hx4=>?_;conv=>arg 3;whnf
   refine Zg (Zu rfl hx4) ?_;conv=>arg 3;whnf
   refine Zg (Za4 rfl hx4) ?_;conv=>arg 3;whnf
   refine Zg (Zu rfl hx4) ?_;conv=>arg 3;whnf
   refine Zs (ZaC Zf s1.2.1 s1.1.toNat x3) ?_;conv=>arg 3;whnf
   refine Zk rfl rfl fun x5 hx5=>?_;conv=>arg 3;whnf
   refine Zg (Zu rfl hx5) ?_;conv=>arg 3;whnf
   refine Zs (ZaC Zf (List.set s1.2.1 s1.1.toNat x3) (w64 (b+(w64 ((w64 (IntKind.u64.wrap (BitVec.ofInt IntKind.u64.bits (IntKind.u64.wrap (BitVec.ofInt IntKind.u64.bits (IntKind.u64.wrap (BitVec.ofInt IntKind.u64.bits (IntKind.u64.wrap (BitVec.ofInt IntKind.u64.bits s1.2.2 ^^^ BitVec.ofInt IntKind.u64.bits (IntKind.u64.wrap (s1.2.2*2 ^ 13))).toNat) ^^^ BitVec.ofInt IntKind.u64.bits (Int.fdiv (IntKind.u64.wrap (BitVec.ofInt IntKind.u64.bits s1.2.2 ^^^ BitVec.ofInt IntKind.u64.bits (IntKind.u64.wrap (s1.2.2*2 ^ 13))).toNat) (2 ^ 7))).toNat) ^^^ BitVec.ofInt IntKind.u64.bits (IntKind.u64.wrap ((IntKind.u64.wrap (BitVec.ofInt IntKind.u64.bits (IntKind.u64.wrap (BitVec.ofInt IntKind.u64.bits s1.2.2 ^^^ BitVec.ofInt IntKind.u64.bits (IntKind.u64.wrap (s1.2.2*2 ^ 13))).toNat) ^^^ BitVec.ofInt IntKind.u64.bits (Int.fdiv (IntKind.u64.wrap (BitVec.ofInt IntKind.u64.bits s1.2.2 ^^^ BitVec.ofInt IntKind.u64.bits (IntKind.u64.wrap (s1.2.2*2 ^ 13))).toNat) (2 ^ 7))).toNat)*2 ^ 17))).toNat) &&& BitVec.ofInt IntKind.u64.bits (IntKind.u64.wrap (x0-1))).toNat))-(w64 (c-b)))))).toNat x4) ?_;conv=>arg 3;whnf
   exact Zc (ih _)
  ·refine Zk rfl rfl fun x6 hx6=>?_;conv=>arg 3;whnf
   refine Zg (Zu rfl hx6) ?_;conv=>arg 3;whnf
   refine Zk rfl rfl fun x7 hx7=>?_;conv=>arg 3;whnf
   refine Zg (Zu rfl hx7) ?_;conv=>arg 3;whnf
   refine Zg (Za4 rfl hx7) ?_;conv=>arg 3;whnf
   refine Zg (Zu rfl hx7) ?_;conv=>arg 3;whnf
   refine Zs (ZaC Zf s1.2.1 s1.1.toNat x6) ?_;conv=>arg 3;whnf
   refine Zk rfl rfl fun x8 hx8=>?_;conv=>arg 3;whnf
   refine Zg (Zu rfl hx8) ?_;conv=>arg 3;whnf
   refine Zs (ZaC Zf (List.set s1.2.1 s1.1.toNat x6) (w64 (b+(w64 (IntKind.u64.wrap (BitVec.ofInt IntKind.u64.bits (IntKind.u64.wrap (BitVec.ofInt IntKind.u64.bits (IntKind.u64.wrap (BitVec.ofInt IntKind.u64.bits (IntKind.u64.wrap (BitVec.ofInt IntKind.u64.bits s1.2.2 ^^^ BitVec.ofInt IntKind.u64.bits (IntKind.u64.wrap (s1.2.2*2 ^ 13))).toNat) ^^^ BitVec.ofInt IntKind.u64.bits (Int.fdiv (IntKind.u64.wrap (BitVec.ofInt IntKind.u64.bits s1.2.2 ^^^ BitVec.ofInt IntKind.u64.bits (IntKind.u64.wrap (s1.2.2*2 ^ 13))).toNat) (2 ^ 7))).toNat) ^^^ BitVec.ofInt IntKind.u64.bits (IntKind.u64.wrap ((IntKind.u64.wrap (BitVec.ofInt IntKind.u64.bits (IntKind.u64.wrap (BitVec.ofInt IntKind.u64.bits s1.2.2 ^^^ BitVec.ofInt IntKind.u64.bits (IntKind.u64.wrap (s1.2.2*2 ^ 13))).toNat) ^^^ BitVec.ofInt IntKind.u64.bits (Int.fdiv (IntKind.u64.wrap (BitVec.ofInt IntKind.u64.bits s1.2.2 ^^^ BitVec.ofInt IntKind.u64.bits (IntKind.u64.wrap (s1.2.2*2 ^ 13))).toNat) (2 ^ 7))).toNat)*2 ^ 17))).toNat) &&& BitVec.ofInt IntKind.u64.bits (IntKind.u64.wrap (x0-1))).toNat)))).toNat x7) ?_;conv=>arg 3;whnf
   exact Zc (ih _)
 ·exact Ze rfl
theorem Zbh {t0:Bool}{t1:Bool}{t2:Bool}{t3:Bool}{b:Int}{c:Int}{m0_0:(List Int)}{m1_0:Int}{m1_1:Int}{m1_2:(List ZQ)}{m1_3:(List ZL)}{m1_4:(List Zn)}{m1_5:(List Zm)}:∀r,(Z2 b c (fun z0 z1=>Zl z0 z1 m1_4) m0_0)=some r→evW ctx 56 [(.sl 0 1),(.d (Zf b)),(.d (Zf c)),(.fn 16 [(.ptr 1 0)])] [(.arr 1 (List.map Zf m0_0)),(.cells [(.d (Zf m1_0)),(.d (Zf m1_1)),(.d (D.list t0 (List.map ZU m1_2))),(.d (D.list t1 (List.map ZR m1_3))),(.d (D.list t2 (List.map Zw m1_4))),(.d (D.list t3 (List.map Zq m1_5)))])]=some ((Zbj t0 t1 t2 t3 b c m0_0 m1_0 m1_1 m1_2 m1_3 m1_4 m1_5) r):=by
 show ZV _ (fun r rhs=>rhs=some ((Zbj t0 t1 t2 t3 b c m0_0 m1_0 m1_1 m1_2 m1_3 m1_4 m1_5) r)) _
 unfold Z2
 rw[Ze4 ctx 56 ZtU _ _ rfl rfl]
 conv=>arg 3;whnf
 refine Zd rfl ?_ ?_<;>conv=>arg 3;whnf
 ·refine Zp _ ZfP rfl fun x0 hx0=>?_;conv=>arg 3;whnf
  refine Zab rfl ?_;conv=>arg 3;whnf
  refine Zb _ (Zcs _) fun r9 hr9=>?_;conv=>arg 3;whnf
  exact Ze rfl
 ·exact Ze rfl
def Za (t0:Bool) (t1:Bool) (t2:Bool) (t3:Bool) (b:Int) (c:Int) (d:Int) (m0_0:(List Int)) (m1_0:Int) (m1_1:Int) (m1_2:(List ZQ)) (m1_3:(List ZL)) (m1_4:(List Zn)) (m1_5:(List Zm)):(List Int)→V×Zi
  | r=>((.d (D.tup [])),[(.arr 1 (List.map Zf r)),(.cells [(.d (Zf m1_0)),(.d (Zf m1_1)),(.d (D.list t0 (List.map ZU m1_2))),(.d (D.list t1 (List.map ZR m1_3))),(.d (D.list t2 (List.map Zw m1_4))),(.d (D.list t3 (List.map Zq m1_5)))])])
def ZbB (t0:Bool) (t1:Bool) (t2:Bool) (t3:Bool) (m1_0:Int) (m1_1:Int) (m1_2:(List ZQ)) (m1_3:(List ZL)) (m1_4:(List Zn)) (m1_5:(List Zm)) (rc:Int→Int→Int→(Int→Int→Option Int)→(List Int)→Option (List Int)):(List Int)→Ex×List V×Zi
  | r=>(.ret,[],[(.arr 1 (List.map Zf r)),(.cells [(.d (Zf m1_0)),(.d (Zf m1_1)),(.d (D.list t0 (List.map ZU m1_2))),(.d (D.list t1 (List.map ZR m1_3))),(.d (D.list t2 (List.map Zw m1_4))),(.d (D.list t3 (List.map Zq m1_5)))])])
theorem Zc2 {t0:Bool}{t1:Bool}{t2:Bool}{t3:Bool}{m1_0:Int}{m1_1:Int}{m1_2:(List ZQ)}{m1_3:(List ZL)}{m1_4:(List Zn)}{m1_5:(List Zm)}{rc:Int→Int→Int→(Int→Int→Option Int)→(List Int)→Option (List Int)} (hrc:∀(t0:Bool) (t1:Bool) (t2:Bool) (t3:Bool) (b:Int) (c:Int) (d:Int) (m0_0:(List Int)) (m1_0:Int) (m1_1:Int) (m1_2:(List ZQ)) (m1_3:(List ZL)) (m1_4:(List Zn)) (m1_5:(List Zm)) (r:(List Int)),rc b c d (fun z0 z1=>Zl z0 z1 m1_4) m0_0=some r→evW ctx 40 [(.sl 0 1),(.d (Zf b)),(.d (Zf c)),(.d (Zf d)),(.fn 16 [(.ptr 1 0)])] [(.arr 1 (List.map Zf m0_0)),(.cells [(.d (Zf m1_0)),(.d (Zf m1_1)),(.d (D.list t0 (List.map ZU m1_2))),(.d (D.list t1 (List.map ZR m1_3))),(.d (D.list t2 (List.map Zw m1_4))),(.d (D.list t3 (List.map Zq m1_5)))])]=some ((Za t0 t1 t2 t3 b c d m0_0 m1_0 m1_1 m1_2 m1_3 m1_4 m1_5) r)):∀(s0:Int×Int×Int×Bool×Bool×(List Int)) (r:(List Int)),lp (ZH (fun z0 z1=>Zl z0 z1 m1_4) rc) s0=some r→lpW ctx 2 [0,1,2,3,4,10,11] [] ZqG [(.sl 0 1),(.d (Zf s0.1)),(.d (Zf s0.2.1)),(.d (Zf s0.2.2.1)),(.fn 16 [(.ptr 1 0)]),(.d (D.bool s0.2.2.2.1)),(.d (D.bool s0.2.2.2.2.1))] [(.arr 1 (List.map Zf s0.2.2.2.2.2)),(.cells [(.d (Zf m1_0)),(.d (Zf m1_1)),(.d (D.list t0 (List.map ZU m1_2))),(.d (D.list t1 (List.map ZR m1_3))),(.d (D.list t2 (List.map Zw m1_4))),(.d (D.list t3 (List.map Zq m1_5)))])]=some ((ZbB t0 t1 t2 t3 m1_0 m1_1 m1_2 m1_3 m1_4 m1_5 rc) r):=by
 refine Zbc (ZbB t0 t1 t2 t3 m1_0 m1_1 m1_2 m1_3 m1_4 m1_5 rc) ?_
 intro s0 rcl ih
 show ZV _ _ (lpW _ _ _ _ _ _ _)
 unfold ZH
 rw[Zbd]
 rcases hb:s0.2.2.2.1 with _ | _
 ·refine ZoQ ?_
  rcases hb:s0.2.2.2.2.1 with _ | _
  ·refine ZoQ ?_;conv=>arg 3;whnf
   refine Zd rfl ?_ ?_<;>conv=>arg 3;whnf
   ·refine Zb _ Z0 fun x170 hx170=>?_;conv=>arg 3;whnf
    exact Ze rfl
   ·refine Zd rfl ?_ ?_<;>conv=>arg 3;whnf
    ·refine Zb _ Zad fun x171 hx171=>?_;conv=>arg 3;whnf
     exact Ze rfl
    ·refine Zb _ Zbh fun x172 hx172=>?_;conv=>arg 3;whnf
     refine Zb _ Z8 fun x173 hx173=>?_;conv=>arg 3;whnf
     refine Zd rfl ?_ ?_<;>conv=>arg 3;whnf
     ·refine Zb _ Z6 fun x174 hx174=>?_;conv=>arg 3;whnf
      refine Zd rfl ?_ ?_<;>conv=>arg 3;whnf
      ·refine Zk rfl rfl fun x175 hx175=>?_;conv=>arg 3;whnf
       refine Zg (Zu rfl hx175) ?_;conv=>arg 3;whnf
       refine Zk rfl rfl fun x176 hx176=>?_;conv=>arg 3;whnf
       refine Zg (Zu rfl hx176) ?_;conv=>arg 3;whnf
       refine Zp _ Zy rfl fun x177 hx177=>?_;conv=>arg 3;whnf
       refine Zd rfl ?_ ?_<;>conv=>arg 3;whnf
       ·refine Zb _ Zh fun x178 hx178=>?_
        clear hx178
        rcases x178 with x178 | x178
        ·conv=>arg 3;whnf
         refine Zcv rfl ?_;conv=>arg 3;whnf
         refine Zab rfl ?_;conv=>arg 3;whnf
         refine Zd rfl ?_ ?_<;>conv=>arg 3;whnf
         ·refine Zd rfl ?_ ?_<;>conv=>arg 3;whnf
          ·refine Zb (Za t0 t1 t2 t3 s0.1 x178.1 (w64 (s0.2.2.1-1)) x178.2 m1_0 m1_1 m1_2 m1_3 m1_4 m1_5) (hrc t0 t1 t2 t3 s0.1 x178.1 (w64 (s0.2.2.1-1)) x178.2 m1_0 m1_1 m1_2 m1_3 m1_4 m1_5) fun x179 hx179=>?_;conv=>arg 3;whnf
           exact Zc (ih _)
          ·refine Zb (Za t0 t1 t2 t3 s0.1 x178.1 (w64 (s0.2.2.1-1)) x178.2 m1_0 m1_1 m1_2 m1_3 m1_4 m1_5) (hrc t0 t1 t2 t3 s0.1 x178.1 (w64 (s0.2.2.1-1)) x178.2 m1_0 m1_1 m1_2 m1_3 m1_4 m1_5) fun x180 hx180=>?_;conv=>arg 3;whnf
           exact Zc (ih _)
         ·refine Zd rfl ?_ ?_<;>conv=>arg 3;whnf
          ·refine Zb (Za t0 t1 t2 t3 (w64 (x178.1+1)) s0.2.1 (w64 (s0.2.2.1-1)) x178.2 m1_0 m1_1 m1_2 m1_3 m1_4 m1_5) (hrc t0 t1 t2 t3 (w64 (x178.1+1)) s0.2.1 (w64 (s0.2.2.1-1)) x178.2 m1_0 m1_1 m1_2 m1_3 m1_4 m1_5) fun x181 hx181=>?_;conv=>arg 3;whnf
           exact Zc (ih _)
          ·refine Zb (Za t0 t1 t2 t3 (w64 (x178.1+1)) s0.2.1 (w64 (s0.2.2.1-1)) x178.2 m1_0 m1_1 m1_2 m1_3 m1_4 m1_5) (hrc t0 t1 t2 t3 (w64 (x178.1+1)) s0.2.1 (w64 (s0.2.2.1-1)) x178.2 m1_0 m1_1 m1_2 m1_3 m1_4 m1_5) fun x182 hx182=>?_;conv=>arg 3;whnf
           exact Zc (ih _)
        ·conv=>arg 3;whnf
         refine Zab rfl ?_;conv=>arg 3;whnf
         refine Zab rfl ?_;conv=>arg 3;whnf
         refine Zd rfl ?_ ?_<;>conv=>arg 3;whnf
         ·refine Zd rfl ?_ ?_<;>conv=>arg 3;whnf
          ·refine Zb (Za t0 t1 t2 t3 s0.1 x178.1 (w64 (s0.2.2.1-1)) x178.2 m1_0 m1_1 m1_2 m1_3 m1_4 m1_5) (hrc t0 t1 t2 t3 s0.1 x178.1 (w64 (s0.2.2.1-1)) x178.2 m1_0 m1_1 m1_2 m1_3 m1_4 m1_5) fun x183 hx183=>?_;conv=>arg 3;whnf
           exact Zc (ih _)
          ·refine Zb (Za t0 t1 t2 t3 s0.1 x178.1 (w64 (s0.2.2.1-1)) x178.2 m1_0 m1_1 m1_2 m1_3 m1_4 m1_5) (hrc t0 t1 t2 t3 s0.1 x178.1 (w64 (s0.2.2.1-1)) x178.2 m1_0 m1_1 m1_2 m1_3 m1_4 m1_5) fun x184 hx184=>?_;conv=>arg 3;whnf
           exact Zc (ih _)
         ·refine Zd rfl ?_ ?_<;>conv=>arg 3;whnf
          ·refine Zb (Za t0 t1 t2 t3 (w64 (x178.1+1)) s0.2.1 (w64 (s0.2.2.1-1)) x178.2 m1_0 m1_1 m1_2 m1_3 m1_4 m1_5) (hrc t0 t1 t2 t3 (w64 (x178.1+1)) s0.2.1 (w64 (s0.2.2.1-1)) x178.2 m1_0 m1_1 m1_2 m1_3 m1_4 m1_5) fun x185 hx185=>?_;conv=>arg 3;whnf
           exact Zc (ih _)
          ·refine Zb (Za t0 t1 t2 t3 (w64 (x178.1+1)) s0.2.1 (w64 (s0.2.2.1-1)) x178.2 m1_0 m1_1 m1_2 m1_3 m1_4 m1_5) (hrc t0 t1 t2 t3 (w64 (x178.1+1)) s0.2.1 (w64 (s0.2.2.1-1)) x178.2 m1_0 m1_1 m1_2 m1_3 m1_4 m1_5) fun x186 hx186=>?_;conv=>arg 3;whnf
           exact Zc (ih _)
       ·refine Zb _ Zr fun x187 hx187=>?_;conv=>arg 3;whnf
        exact Zc (ih _)
      ·refine Zb _ Zh fun x188 hx188=>?_
       clear hx188
       rcases x188 with x188 | x188
       ·conv=>arg 3;whnf
        refine Zcv rfl ?_;conv=>arg 3;whnf
        refine Zab rfl ?_;conv=>arg 3;whnf
        refine Zd rfl ?_ ?_<;>conv=>arg 3;whnf
        ·refine Zd rfl ?_ ?_<;>conv=>arg 3;whnf
         ·refine Zb (Za t0 t1 t2 t3 s0.1 x188.1 (w64 (s0.2.2.1-1)) x188.2 m1_0 m1_1 m1_2 m1_3 m1_4 m1_5) (hrc t0 t1 t2 t3 s0.1 x188.1 (w64 (s0.2.2.1-1)) x188.2 m1_0 m1_1 m1_2 m1_3 m1_4 m1_5) fun x189 hx189=>?_;conv=>arg 3;whnf
          exact Zc (ih _)
         ·refine Zb (Za t0 t1 t2 t3 s0.1 x188.1 (w64 (s0.2.2.1-1)) x188.2 m1_0 m1_1 m1_2 m1_3 m1_4 m1_5) (hrc t0 t1 t2 t3 s0.1 x188.1 (w64 (s0.2.2.1-1)) x188.2 m1_0 m1_1 m1_2 m1_3 m1_4 m1_5) fun x190 hx190=>?_;conv=>arg 3;whnf
          exact Zc (ih _)
        ·refine Zd rfl ?_ ?_<;>conv=>arg 3;whnf
         ·refine Zb (Za t0 t1 t2 t3 (w64 (x188.1+1)) s0.2.1 (w64 (s0.2.2.1-1)) x188.2 m1_0 m1_1 m1_2 m1_3 m1_4 m1_5) (hrc t0 t1 t2 t3 (w64 (x188.1+1)) s0.2.1 (w64 (s0.2.2.1-1)) x188.2 m1_0 m1_1 m1_2 m1_3 m1_4 m1_5) fun x191 hx191=>?_;conv=>arg 3;whnf
          exact Zc (ih _)
         ·refine Zb (Za t0 t1 t2 t3 (w64 (x188.1+1)) s0.2.1 (w64 (s0.2.2.1-1)) x188.2 m1_0 m1_1 m1_2 m1_3 m1_4 m1_5) (hrc t0 t1 t2 t3 (w64 (x188.1+1)) s0.2.1 (w64 (s0.2.2.1-1)) x188.2 m1_0 m1_1 m1_2 m1_3 m1_4 m1_5) fun x192 hx192=>?_;conv=>arg 3;whnf
          exact Zc (ih _)
       ·conv=>arg 3;whnf
        refine Zab rfl ?_;conv=>arg 3;whnf
        refine Zab rfl ?_;conv=>arg 3;whnf
        refine Zd rfl ?_ ?_<;>conv=>arg 3;whnf
        ·refine Zd rfl ?_ ?_<;>conv=>arg 3;whnf
         ·refine Zb (Za t0 t1 t2 t3 s0.1 x188.1 (w64 (s0.2.2.1-1)) x188.2 m1_0 m1_1 m1_2 m1_3 m1_4 m1_5) (hrc t0 t1 t2 t3 s0.1 x188.1 (w64 (s0.2.2.1-1)) x188.2 m1_0 m1_1 m1_2 m1_3 m1_4 m1_5) fun x193 hx193=>?_;conv=>arg 3;whnf
          exact Zc (ih _)
         ·refine Zb (Za t0 t1 t2 t3 s0.1 x188.1 (w64 (s0.2.2.1-1)) x188.2 m1_0 m1_1 m1_2 m1_3 m1_4 m1_5) (hrc t0 t1 t2 t3 s0.1 x188.1 (w64 (s0.2.2.1-1)) x188.2 m1_0 m1_1 m1_2 m1_3 m1_4 m1_5) fun x194 hx194=>?_;conv=>arg 3;whnf
          exact Zc (ih _)
        ·refine Zd rfl ?_ ?_<;>conv=>arg 3;whnf
         ·refine Zb (Za t0 t1 t2 t3 (w64 (x188.1+1)) s0.2.1 (w64 (s0.2.2.1-1)) x188.2 m1_0 m1_1 m1_2 m1_3 m1_4 m1_5) (hrc t0 t1 t2 t3 (w64 (x188.1+1)) s0.2.1 (w64 (s0.2.2.1-1)) x188.2 m1_0 m1_1 m1_2 m1_3 m1_4 m1_5) fun x195 hx195=>?_;conv=>arg 3;whnf
          exact Zc (ih _)
         ·refine Zb (Za t0 t1 t2 t3 (w64 (x188.1+1)) s0.2.1 (w64 (s0.2.2.1-1)) x188.2 m1_0 m1_1 m1_2 m1_3 m1_4 m1_5) (hrc t0 t1 t2 t3 (w64 (x188.1+1)) s0.2.1 (w64 (s0.2.2.1-1)) x188.2 m1_0 m1_1 m1_2 m1_3 m1_4 m1_5) fun x196 hx196=>?_;conv=>arg 3;whnf
          exact Zc (ih _)
     ·refine Zd rfl ?_ ?_<;>conv=>arg 3;whnf
      ·refine Zk rfl rfl fun x197 hx197=>?_;conv=>arg 3;whnf
       refine Zg (Zu rfl hx197) ?_;conv=>arg 3;whnf
       refine Zk rfl rfl fun x198 hx198=>?_;conv=>arg 3;whnf
       refine Zg (Zu rfl hx198) ?_;conv=>arg 3;whnf
       refine Zp _ Zy rfl fun x199 hx199=>?_;conv=>arg 3;whnf
       refine Zd rfl ?_ ?_<;>conv=>arg 3;whnf
       ·refine Zb _ Zh fun x200 hx200=>?_
        clear hx200
        rcases x200 with x200 | x200
        ·conv=>arg 3;whnf
         refine Zcv rfl ?_;conv=>arg 3;whnf
         refine Zab rfl ?_;conv=>arg 3;whnf
         refine Zd rfl ?_ ?_<;>conv=>arg 3;whnf
         ·refine Zd rfl ?_ ?_<;>conv=>arg 3;whnf
          ·refine Zb (Za t0 t1 t2 t3 s0.1 x200.1 (w64 (s0.2.2.1-1)) x200.2 m1_0 m1_1 m1_2 m1_3 m1_4 m1_5) (hrc t0 t1 t2 t3 s0.1 x200.1 (w64 (s0.2.2.1-1)) x200.2 m1_0 m1_1 m1_2 m1_3 m1_4 m1_5) fun x201 hx201=>?_;conv=>arg 3;whnf
           exact Zc (ih _)
          ·refine Zb (Za t0 t1 t2 t3 s0.1 x200.1 (w64 (s0.2.2.1-1)) x200.2 m1_0 m1_1 m1_2 m1_3 m1_4 m1_5) (hrc t0 t1 t2 t3 s0.1 x200.1 (w64 (s0.2.2.1-1)) x200.2 m1_0 m1_1 m1_2 m1_3 m1_4 m1_5) fun x202 hx202=>?_;conv=>arg 3;whnf
           exact Zc (ih _)
         ·refine Zd rfl ?_ ?_<;>conv=>arg 3;whnf
          ·refine Zb (Za t0 t1 t2 t3 (w64 (x200.1+1)) s0.2.1 (w64 (s0.2.2.1-1)) x200.2 m1_0 m1_1 m1_2 m1_3 m1_4 m1_5) (hrc t0 t1 t2 t3 (w64 (x200.1+1)) s0.2.1 (w64 (s0.2.2.1-1)) x200.2 m1_0 m1_1 m1_2 m1_3 m1_4 m1_5) fun x203 hx203=>?_;conv=>arg 3;whnf
           exact Zc (ih _)
          ·refine Zb (Za t0 t1 t2 t3 (w64 (x200.1+1)) s0.2.1 (w64 (s0.2.2.1-1)) x200.2 m1_0 m1_1 m1_2 m1_3 m1_4 m1_5) (hrc t0 t1 t2 t3 (w64 (x200.1+1)) s0.2.1 (w64 (s0.2.2.1-1)) x200.2 m1_0 m1_1 m1_2 m1_3 m1_4 m1_5) fun x204 hx204=>?_;conv=>arg 3;whnf
           exact Zc (ih _)
        ·conv=>arg 3;whnf
         refine Zab rfl ?_;conv=>arg 3;whnf
         refine Zab rfl ?_;conv=>arg 3;whnf
         refine Zd rfl ?_ ?_<;>conv=>arg 3;whnf
         ·refine Zd rfl ?_ ?_<;>conv=>arg 3;whnf
          ·refine Zb (Za t0 t1 t2 t3 s0.1 x200.1 (w64 (s0.2.2.1-1)) x200.2 m1_0 m1_1 m1_2 m1_3 m1_4 m1_5) (hrc t0 t1 t2 t3 s0.1 x200.1 (w64 (s0.2.2.1-1)) x200.2 m1_0 m1_1 m1_2 m1_3 m1_4 m1_5) fun x205 hx205=>?_;conv=>arg 3;whnf
           exact Zc (ih _)
          ·refine Zb (Za t0 t1 t2 t3 s0.1 x200.1 (w64 (s0.2.2.1-1)) x200.2 m1_0 m1_1 m1_2 m1_3 m1_4 m1_5) (hrc t0 t1 t2 t3 s0.1 x200.1 (w64 (s0.2.2.1-1)) x200.2 m1_0 m1_1 m1_2 m1_3 m1_4 m1_5) fun x206 hx206=>?_;conv=>arg 3;whnf
           exact Zc (ih _)
         ·refine Zd rfl ?_ ?_<;>conv=>arg 3;whnf
          ·refine Zb (Za t0 t1 t2 t3 (w64 (x200.1+1)) s0.2.1 (w64 (s0.2.2.1-1)) x200.2 m1_0 m1_1 m1_2 m1_3 m1_4 m1_5) (hrc t0 t1 t2 t3 (w64 (x200.1+1)) s0.2.1 (w64 (s0.2.2.1-1)) x200.2 m1_0 m1_1 m1_2 m1_3 m1_4 m1_5) fun x207 hx207=>?_;conv=>arg 3;whnf
           exact Zc (ih _)
          ·refine Zb (Za t0 t1 t2 t3 (w64 (x200.1+1)) s0.2.1 (w64 (s0.2.2.1-1)) x200.2 m1_0 m1_1 m1_2 m1_3 m1_4 m1_5) (hrc t0 t1 t2 t3 (w64 (x200.1+1)) s0.2.1 (w64 (s0.2.2.1-1)) x200.2 m1_0 m1_1 m1_2 m1_3 m1_4 m1_5) fun x208 hx208=>?_;conv=>arg 3;whnf
           exact Zc (ih _)
       ·refine Zb _ Zr fun x209 hx209=>?_;conv=>arg 3;whnf
        exact Zc (ih _)
      ·refine Zb _ Zh fun x210 hx210=>?_
       clear hx210
       rcases x210 with x210 | x210
       ·conv=>arg 3;whnf
        refine Zcv rfl ?_;conv=>arg 3;whnf
        refine Zab rfl ?_;conv=>arg 3;whnf
        refine Zd rfl ?_ ?_<;>conv=>arg 3;whnf
        ·refine Zd rfl ?_ ?_<;>conv=>arg 3;whnf
         ·refine Zb (Za t0 t1 t2 t3 s0.1 x210.1 (w64 (s0.2.2.1-1)) x210.2 m1_0 m1_1 m1_2 m1_3 m1_4 m1_5) (hrc t0 t1 t2 t3 s0.1 x210.1 (w64 (s0.2.2.1-1)) x210.2 m1_0 m1_1 m1_2 m1_3 m1_4 m1_5) fun x211 hx211=>?_;conv=>arg 3;whnf
          exact Zc (ih _)
         ·refine Zb (Za t0 t1 t2 t3 s0.1 x210.1 (w64 (s0.2.2.1-1)) x210.2 m1_0 m1_1 m1_2 m1_3 m1_4 m1_5) (hrc t0 t1 t2 t3 s0.1 x210.1 (w64 (s0.2.2.1-1)) x210.2 m1_0 m1_1 m1_2 m1_3 m1_4 m1_5) fun x212 hx212=>?_;conv=>arg 3;whnf
          exact Zc (ih _)
        ·refine Zd rfl ?_ ?_<;>conv=>arg 3;whnf
         ·refine Zb (Za t0 t1 t2 t3 (w64 (x210.1+1)) s0.2.1 (w64 (s0.2.2.1-1)) x210.2 m1_0 m1_1 m1_2 m1_3 m1_4 m1_5) (hrc t0 t1 t2 t3 (w64 (x210.1+1)) s0.2.1 (w64 (s0.2.2.1-1)) x210.2 m1_0 m1_1 m1_2 m1_3 m1_4 m1_5) fun x213 hx213=>?_;conv=>arg 3;whnf
          exact Zc (ih _)
         ·refine Zb (Za t0 t1 t2 t3 (w64 (x210.1+1)) s0.2.1 (w64 (s0.2.2.1-1)) x210.2 m1_0 m1_1 m1_2 m1_3 m1_4 m1_5) (hrc t0 t1 t2 t3 (w64 (x210.1+1)) s0.2.1 (w64 (s0.2.2.1-1)) x210.2 m1_0 m1_1 m1_2 m1_3 m1_4 m1_5) fun x214 hx214=>?_;conv=>arg 3;whnf
          exact Zc (ih _)
       ·conv=>arg 3;whnf
        refine Zab rfl ?_;conv=>arg 3;whnf
        refine Zab rfl ?_;conv=>arg 3;whnf
        refine Zd rfl ?_ ?_<;>conv=>arg 3;whnf
        ·refine Zd rfl ?_ ?_<;>conv=>arg 3;whnf
         ·refine Zb (Za t0 t1 t2 t3 s0.1 x210.1 (w64 (s0.2.2.1-1)) x210.2 m1_0 m1_1 m1_2 m1_3 m1_4 m1_5) (hrc t0 t1 t2 t3 s0.1 x210.1 (w64 (s0.2.2.1-1)) x210.2 m1_0 m1_1 m1_2 m1_3 m1_4 m1_5) fun x215 hx215=>?_;conv=>arg 3;whnf
          exact Zc (ih _)
         ·refine Zb (Za t0 t1 t2 t3 s0.1 x210.1 (w64 (s0.2.2.1-1)) x210.2 m1_0 m1_1 m1_2 m1_3 m1_4 m1_5) (hrc t0 t1 t2 t3 s0.1 x210.1 (w64 (s0.2.2.1-1)) x210.2 m1_0 m1_1 m1_2 m1_3 m1_4 m1_5) fun x216 hx216=>?_;conv=>arg 3;whnf
          exact Zc (ih _)
        ·refine Zd rfl ?_ ?_<;>conv=>arg 3;whnf
         ·refine Zb (Za t0 t1 t2 t3 (w64 (x210.1+1)) s0.2.1 (w64 (s0.2.2.1-1)) x210.2 m1_0 m1_1 m1_2 m1_3 m1_4 m1_5) (hrc t0 t1 t2 t3 (w64 (x210.1+1)) s0.2.1 (w64 (s0.2.2.1-1)) x210.2 m1_0 m1_1 m1_2 m1_3 m1_4 m1_5) fun x217 hx217=>?_;conv=>arg 3;whnf
          exact Zc (ih _)
         ·refine Zb (Za t0 t1 t2 t3 (w64 (x210.1+1)) s0.2.1 (w64 (s0.2.2.1-1)) x210.2 m1_0 m1_1 m1_2 m1_3 m1_4 m1_5) (hrc t0 t1 t2 t3 (w64 (x210.1+1)) s0.2.1 (w64 (s0.2.2.1-1)) x210.2 m1_0 m1_1 m1_2 m1_3 m1_4 m1_5) fun x218 hx218=>?_;conv=>arg 3;whnf
          exact Zc (ih _)
  ·refine Zoj ?_;conv=>arg 3;whnf
   refine Zd rfl ?_ ?_<;>conv=>arg 3;whnf
   ·refine Zb _ Z0 fun x121 hx121=>?_;conv=>arg 3;whnf
    exact Ze rfl
   ·refine Zd rfl ?_ ?_<;>conv=>arg 3;whnf
    ·refine Zb _ Zad fun x122 hx122=>?_;conv=>arg 3;whnf
     exact Ze rfl
    ·refine Zb _ Zbh fun x123 hx123=>?_;conv=>arg 3;whnf
     refine Zb _ Z8 fun x124 hx124=>?_;conv=>arg 3;whnf
     refine Zd rfl ?_ ?_<;>conv=>arg 3;whnf
     ·refine Zb _ Z6 fun x125 hx125=>?_;conv=>arg 3;whnf
      refine Zd rfl ?_ ?_<;>conv=>arg 3;whnf
      ·refine Zk rfl rfl fun x126 hx126=>?_;conv=>arg 3;whnf
       refine Zg (Zu rfl hx126) ?_;conv=>arg 3;whnf
       refine Zk rfl rfl fun x127 hx127=>?_;conv=>arg 3;whnf
       refine Zg (Zu rfl hx127) ?_;conv=>arg 3;whnf
       refine Zp _ Zy rfl fun x128 hx128=>?_;conv=>arg 3;whnf
       refine Zd rfl ?_ ?_<;>conv=>arg 3;whnf
       ·refine Zb _ Zh fun x129 hx129=>?_
        clear hx129
        rcases x129 with x129 | x129
        ·conv=>arg 3;whnf
         refine Zcv rfl ?_;conv=>arg 3;whnf
         refine Zab rfl ?_;conv=>arg 3;whnf
         refine Zd rfl ?_ ?_<;>conv=>arg 3;whnf
         ·refine Zd rfl ?_ ?_<;>conv=>arg 3;whnf
          ·refine Zb (Za t0 t1 t2 t3 s0.1 x129.1 (w64 (s0.2.2.1-1)) x129.2 m1_0 m1_1 m1_2 m1_3 m1_4 m1_5) (hrc t0 t1 t2 t3 s0.1 x129.1 (w64 (s0.2.2.1-1)) x129.2 m1_0 m1_1 m1_2 m1_3 m1_4 m1_5) fun x130 hx130=>?_;conv=>arg 3;whnf
           exact Zc (ih _)
          ·refine Zb (Za t0 t1 t2 t3 s0.1 x129.1 (w64 (s0.2.2.1-1)) x129.2 m1_0 m1_1 m1_2 m1_3 m1_4 m1_5) (hrc t0 t1 t2 t3 s0.1 x129.1 (w64 (s0.2.2.1-1)) x129.2 m1_0 m1_1 m1_2 m1_3 m1_4 m1_5) fun x131 hx131=>?_;conv=>arg 3;whnf
           exact Zc (ih _)
         ·refine Zd rfl ?_ ?_<;>conv=>arg 3;whnf
          ·refine Zb (Za t0 t1 t2 t3 (w64 (x129.1+1)) s0.2.1 (w64 (s0.2.2.1-1)) x129.2 m1_0 m1_1 m1_2 m1_3 m1_4 m1_5) (hrc t0 t1 t2 t3 (w64 (x129.1+1)) s0.2.1 (w64 (s0.2.2.1-1)) x129.2 m1_0 m1_1 m1_2 m1_3 m1_4 m1_5) fun x132 hx132=>?_;conv=>arg 3;whnf
           exact Zc (ih _)
          ·refine Zb (Za t0 t1 t2 t3 (w64 (x129.1+1)) s0.2.1 (w64 (s0.2.2.1-1)) x129.2 m1_0 m1_1 m1_2 m1_3 m1_4 m1_5) (hrc t0 t1 t2 t3 (w64 (x129.1+1)) s0.2.1 (w64 (s0.2.2.1-1)) x129.2 m1_0 m1_1 m1_2 m1_3 m1_4 m1_5) fun x133 hx133=>?_;conv=>arg 3;whnf
           exact Zc (ih _)
        ·conv=>arg 3;whnf
         refine Zab rfl ?_;conv=>arg 3;whnf
         refine Zab rfl ?_;conv=>arg 3;whnf
         refine Zd rfl ?_ ?_<;>conv=>arg 3;whnf
         ·refine Zd rfl ?_ ?_<;>conv=>arg 3;whnf
          ·refine Zb (Za t0 t1 t2 t3 s0.1 x129.1 (w64 (s0.2.2.1-1)) x129.2 m1_0 m1_1 m1_2 m1_3 m1_4 m1_5) (hrc t0 t1 t2 t3 s0.1 x129.1 (w64 (s0.2.2.1-1)) x129.2 m1_0 m1_1 m1_2 m1_3 m1_4 m1_5) fun x134 hx134=>?_;conv=>arg 3;whnf
           exact Zc (ih _)
          ·refine Zb (Za t0 t1 t2 t3 s0.1 x129.1 (w64 (s0.2.2.1-1)) x129.2 m1_0 m1_1 m1_2 m1_3 m1_4 m1_5) (hrc t0 t1 t2 t3 s0.1 x129.1 (w64 (s0.2.2.1-1)) x129.2 m1_0 m1_1 m1_2 m1_3 m1_4 m1_5) fun x135 hx135=>?_;conv=>arg 3;whnf
           exact Zc (ih _)
         ·refine Zd rfl ?_ ?_<;>conv=>arg 3;whnf
          ·refine Zb (Za t0 t1 t2 t3 (w64 (x129.1+1)) s0.2.1 (w64 (s0.2.2.1-1)) x129.2 m1_0 m1_1 m1_2 m1_3 m1_4 m1_5) (hrc t0 t1 t2 t3 (w64 (x129.1+1)) s0.2.1 (w64 (s0.2.2.1-1)) x129.2 m1_0 m1_1 m1_2 m1_3 m1_4 m1_5) fun x136 hx136=>?_;conv=>arg 3;whnf
           exact Zc (ih _)
          ·refine Zb (Za t0 t1 t2 t3 (w64 (x129.1+1)) s0.2.1 (w64 (s0.2.2.1-1)) x129.2 m1_0 m1_1 m1_2 m1_3 m1_4 m1_5) (hrc t0 t1 t2 t3 (w64 (x129.1+1)) s0.2.1 (w64 (s0.2.2.1-1)) x129.2 m1_0 m1_1 m1_2 m1_3 m1_4 m1_5) fun x137 hx137=>?_;conv=>arg 3;whnf
           exact Zc (ih _)
       ·refine Zb _ Zr fun x138 hx138=>?_;conv=>arg 3;whnf
        exact Zc (ih _)
      ·refine Zb _ Zh fun x139 hx139=>?_
       clear hx139
       rcases x139 with x139 | x139
       ·conv=>arg 3;whnf
        refine Zcv rfl ?_;conv=>arg 3;whnf
        refine Zab rfl ?_;conv=>arg 3;whnf
        refine Zd rfl ?_ ?_<;>conv=>arg 3;whnf
        ·refine Zd rfl ?_ ?_<;>conv=>arg 3;whnf
         ·refine Zb (Za t0 t1 t2 t3 s0.1 x139.1 (w64 (s0.2.2.1-1)) x139.2 m1_0 m1_1 m1_2 m1_3 m1_4 m1_5) (hrc t0 t1 t2 t3 s0.1 x139.1 (w64 (s0.2.2.1-1)) x139.2 m1_0 m1_1 m1_2 m1_3 m1_4 m1_5) fun x140 hx140=>?_;conv=>arg 3;whnf
          exact Zc (ih _)
         ·refine Zb (Za t0 t1 t2 t3 s0.1 x139.1 (w64 (s0.2.2.1-1)) x139.2 m1_0 m1_1 m1_2 m1_3 m1_4 m1_5) (hrc t0 t1 t2 t3 s0.1 x139.1 (w64 (s0.2.2.1-1)) x139.2 m1_0 m1_1 m1_2 m1_3 m1_4 m1_5) fun x141 hx141=>?_;conv=>arg 3;whnf
          exact Zc (ih _)
        ·refine Zd rfl ?_ ?_<;>conv=>arg 3;whnf
         ·refine Zb (Za t0 t1 t2 t3 (w64 (x139.1+1)) s0.2.1 (w64 (s0.2.2.1-1)) x139.2 m1_0 m1_1 m1_2 m1_3 m1_4 m1_5) (hrc t0 t1 t2 t3 (w64 (x139.1+1)) s0.2.1 (w64 (s0.2.2.1-1)) x139.2 m1_0 m1_1 m1_2 m1_3 m1_4 m1_5) fun x142 hx142=>?_;conv=>arg 3;whnf
          exact Zc (ih _)
         ·refine Zb (Za t0 t1 t2 t3 (w64 (x139.1+1)) s0.2.1 (w64 (s0.2.2.1-1)) x139.2 m1_0 m1_1 m1_2 m1_3 m1_4 m1_5) (hrc t0 t1 t2 t3 (w64 (x139.1+1)) s0.2.1 (w64 (s0.2.2.1-1)) x139.2 m1_0 m1_1 m1_2 m1_3 m1_4 m1_5) fun x143 hx143=>?_;conv=>arg 3;whnf
          exact Zc (ih _)
       ·conv=>arg 3;whnf
        refine Zab rfl ?_;conv=>arg 3;whnf
        refine Zab rfl ?_;conv=>arg 3;whnf
        refine Zd rfl ?_ ?_<;>conv=>arg 3;whnf
        ·refine Zd rfl ?_ ?_<;>conv=>arg 3;whnf
         ·refine Zb (Za t0 t1 t2 t3 s0.1 x139.1 (w64 (s0.2.2.1-1)) x139.2 m1_0 m1_1 m1_2 m1_3 m1_4 m1_5) (hrc t0 t1 t2 t3 s0.1 x139.1 (w64 (s0.2.2.1-1)) x139.2 m1_0 m1_1 m1_2 m1_3 m1_4 m1_5) fun x144 hx144=>?_;conv=>arg 3;whnf
          exact Zc (ih _)
         ·refine Zb (Za t0 t1 t2 t3 s0.1 x139.1 (w64 (s0.2.2.1-1)) x139.2 m1_0 m1_1 m1_2 m1_3 m1_4 m1_5) (hrc t0 t1 t2 t3 s0.1 x139.1 (w64 (s0.2.2.1-1)) x139.2 m1_0 m1_1 m1_2 m1_3 m1_4 m1_5) fun x145 hx145=>?_;conv=>arg 3;whnf
          exact Zc (ih _)
        ·refine Zd rfl ?_ ?_<;>conv=>arg 3;whnf
         ·refine Zb (Za t0 t1 t2 t3 (w64 (x139.1+1)) s0.2.1 (w64 (s0.2.2.1-1)) x139.2 m1_0 m1_1 m1_2 m1_3 m1_4 m1_5) (hrc t0 t1 t2 t3 (w64 (x139.1+1)) s0.2.1 (w64 (s0.2.2.1-1)) x139.2 m1_0 m1_1 m1_2 m1_3 m1_4 m1_5) fun x146 hx146=>?_;conv=>arg 3;whnf
          exact Zc (ih _)
         ·refine Zb (Za t0 t1 t2 t3 (w64 (x139.1+1)) s0.2.1 (w64 (s0.2.2.1-1)) x139.2 m1_0 m1_1 m1_2 m1_3 m1_4 m1_5) (hrc t0 t1 t2 t3 (w64 (x139.1+1)) s0.2.1 (w64 (s0.2.2.1-1)) x139.2 m1_0 m1_1 m1_2 m1_3 m1_4 m1_5) fun x147 hx147=>?_;conv=>arg 3;whnf
          exact Zc (ih _)
     ·refine Zd rfl ?_ ?_<;>conv=>arg 3;whnf
      ·refine Zk rfl rfl fun x148 hx148=>?_;conv=>arg 3;whnf
       refine Zg (Zu rfl hx148) ?_;conv=>arg 3;whnf
       refine Zk rfl rfl fun x149 hx149=>?_;conv=>arg 3;whnf
       refine Zg (Zu rfl hx149) ?_;conv=>arg 3;whnf
       refine Zp _ Zy rfl fun x150 hx150=>?_;conv=>arg 3;whnf
       refine Zd rfl ?_ ?_<;>conv=>arg 3;whnf
       ·refine Zb _ Zh fun x151 hx151=>?_
        clear hx151
        rcases x151 with x151 | x151
        ·conv=>arg 3;whnf
         refine Zcv rfl ?_;conv=>arg 3;whnf
         refine Zab rfl ?_;conv=>arg 3;whnf
         refine Zd rfl ?_ ?_<;>conv=>arg 3;whnf
         ·refine Zd rfl ?_ ?_<;>conv=>arg 3;whnf
          ·refine Zb (Za t0 t1 t2 t3 s0.1 x151.1 (w64 (s0.2.2.1-1)) x151.2 m1_0 m1_1 m1_2 m1_3 m1_4 m1_5) (hrc t0 t1 t2 t3 s0.1 x151.1 (w64 (s0.2.2.1-1)) x151.2 m1_0 m1_1 m1_2 m1_3 m1_4 m1_5) fun x152 hx152=>?_;conv=>arg 3;whnf
           exact Zc (ih _)
          ·refine Zb (Za t0 t1 t2 t3 s0.1 x151.1 (w64 (s0.2.2.1-1)) x151.2 m1_0 m1_1 m1_2 m1_3 m1_4 m1_5) (hrc t0 t1 t2 t3 s0.1 x151.1 (w64 (s0.2.2.1-1)) x151.2 m1_0 m1_1 m1_2 m1_3 m1_4 m1_5) fun x153 hx153=>?_;conv=>arg 3;whnf
           exact Zc (ih _)
         ·refine Zd rfl ?_ ?_<;>conv=>arg 3;whnf
          ·refine Zb (Za t0 t1 t2 t3 (w64 (x151.1+1)) s0.2.1 (w64 (s0.2.2.1-1)) x151.2 m1_0 m1_1 m1_2 m1_3 m1_4 m1_5) (hrc t0 t1 t2 t3 (w64 (x151.1+1)) s0.2.1 (w64 (s0.2.2.1-1)) x151.2 m1_0 m1_1 m1_2 m1_3 m1_4 m1_5) fun x154 hx154=>?_;conv=>arg 3;whnf
           exact Zc (ih _)
          ·refine Zb (Za t0 t1 t2 t3 (w64 (x151.1+1)) s0.2.1 (w64 (s0.2.2.1-1)) x151.2 m1_0 m1_1 m1_2 m1_3 m1_4 m1_5) (hrc t0 t1 t2 t3 (w64 (x151.1+1)) s0.2.1 (w64 (s0.2.2.1-1)) x151.2 m1_0 m1_1 m1_2 m1_3 m1_4 m1_5) fun x155 hx155=>?_;conv=>arg 3;whnf
           exact Zc (ih _)
        ·conv=>arg 3;whnf
         refine Zab rfl ?_;conv=>arg 3;whnf
         refine Zab rfl ?_;conv=>arg 3;whnf
         refine Zd rfl ?_ ?_<;>conv=>arg 3;whnf
         ·refine Zd rfl ?_ ?_<;>conv=>arg 3;whnf
          ·refine Zb (Za t0 t1 t2 t3 s0.1 x151.1 (w64 (s0.2.2.1-1)) x151.2 m1_0 m1_1 m1_2 m1_3 m1_4 m1_5) (hrc t0 t1 t2 t3 s0.1 x151.1 (w64 (s0.2.2.1-1)) x151.2 m1_0 m1_1 m1_2 m1_3 m1_4 m1_5) fun x156 hx156=>?_;conv=>arg 3;whnf
           exact Zc (ih _)
          ·refine Zb (Za t0 t1 t2 t3 s0.1 x151.1 (w64 (s0.2.2.1-1)) x151.2 m1_0 m1_1 m1_2 m1_3 m1_4 m1_5) (hrc t0 t1 t2 t3 s0.1 x151.1 (w64 (s0.2.2.1-1)) x151.2 m1_0 m1_1 m1_2 m1_3 m1_4 m1_5) fun x157 hx157=>?_;conv=>arg 3;whnf
           exact Zc (ih _)
         ·refine Zd rfl ?_ ?_<;>conv=>arg 3;whnf
          ·refine Zb (Za t0 t1 t2 t3 (w64 (x151.1+1)) s0.2.1 (w64 (s0.2.2.1-1)) x151.2 m1_0 m1_1 m1_2 m1_3 m1_4 m1_5) (hrc t0 t1 t2 t3 (w64 (x151.1+1)) s0.2.1 (w64 (s0.2.2.1-1)) x151.2 m1_0 m1_1 m1_2 m1_3 m1_4 m1_5) fun x158 hx158=>?_;conv=>arg 3;whnf
           exact Zc (ih _)
          ·refine Zb (Za t0 t1 t2 t3 (w64 (x151.1+1)) s0.2.1 (w64 (s0.2.2.1-1)) x151.2 m1_0 m1_1 m1_2 m1_3 m1_4 m1_5) (hrc t0 t1 t2 t3 (w64 (x151.1+1)) s0.2.1 (w64 (s0.2.2.1-1)) x151.2 m1_0 m1_1 m1_2 m1_3 m1_4 m1_5) fun x159 hx159=>?_;conv=>arg 3;whnf
           exact Zc (ih _)
       ·refine Zb _ Zr fun x160 hx160=>?_;conv=>arg 3;whnf
        exact Zc (ih _)
      ·refine Zb _ Zh fun x161 hx161=>?_
       clear hx161
       rcases x161 with x161 | x161
       ·conv=>arg 3;whnf
        refine Zcv rfl ?_;conv=>arg 3;whnf
        refine Zab rfl ?_;conv=>arg 3;whnf
        refine Zd rfl ?_ ?_<;>conv=>arg 3;whnf
        ·refine Zd rfl ?_ ?_<;>conv=>arg 3;whnf
         ·refine Zb (Za t0 t1 t2 t3 s0.1 x161.1 (w64 (s0.2.2.1-1)) x161.2 m1_0 m1_1 m1_2 m1_3 m1_4 m1_5) (hrc t0 t1 t2 t3 s0.1 x161.1 (w64 (s0.2.2.1-1)) x161.2 m1_0 m1_1 m1_2 m1_3 m1_4 m1_5) fun x162 hx162=>?_;conv=>arg 3;whnf
          exact Zc (ih _)
         ·refine Zb (Za t0 t1 t2 t3 s0.1 x161.1 (w64 (s0.2.2.1-1)) x161.2 m1_0 m1_1 m1_2 m1_3 m1_4 m1_5) (hrc t0 t1 t2 t3 s0.1 x161.1 (w64 (s0.2.2.1-1)) x161.2 m1_0 m1_1 m1_2 m1_3 m1_4 m1_5) fun x163 hx163=>?_;conv=>arg 3;whnf
          exact Zc (ih _)
        ·refine Zd rfl ?_ ?_<;>conv=>arg 3;whnf
         ·refine Zb (Za t0 t1 t2 t3 (w64 (x161.1+1)) s0.2.1 (w64 (s0.2.2.1-1)) x161.2 m1_0 m1_1 m1_2 m1_3 m1_4 m1_5) (hrc t0 t1 t2 t3 (w64 (x161.1+1)) s0.2.1 (w64 (s0.2.2.1-1)) x161.2 m1_0 m1_1 m1_2 m1_3 m1_4 m1_5) fun x164 hx164=>?_;conv=>arg 3;whnf
          exact Zc (ih _)
         ·refine Zb (Za t0 t1 t2 t3 (w64 (x161.1+1)) s0.2.1 (w64 (s0.2.2.1-1)) x161.2 m1_0 m1_1 m1_2 m1_3 m1_4 m1_5) (hrc t0 t1 t2 t3 (w64 (x161.1+1)) s0.2.1 (w64 (s0.2.2.1-1)) x161.2 m1_0 m1_1 m1_2 m1_3 m1_4 m1_5) fun x165 hx165=>?_;conv=>arg 3;whnf
          exact Zc (ih _)
       ·conv=>arg 3;whnf
        refine Zab rfl ?_;conv=>arg 3;whnf
        refine Zab rfl ?_;conv=>arg 3;whnf
        refine Zd rfl ?_ ?_<;>conv=>arg 3;whnf
        ·refine Zd rfl ?_ ?_<;>conv=>arg 3;whnf
         ·refine Zb (Za t0 t1 t2 t3 s0.1 x161.1 (w64 (s0.2.2.1-1)) x161.2 m1_0 m1_1 m1_2 m1_3 m1_4 m1_5) (hrc t0 t1 t2 t3 s0.1 x161.1 (w64 (s0.2.2.1-1)) x161.2 m1_0 m1_1 m1_2 m1_3 m1_4 m1_5) fun x166 hx166=>?_;conv=>arg 3;whnf
          exact Zc (ih _)
         ·refine Zb (Za t0 t1 t2 t3 s0.1 x161.1 (w64 (s0.2.2.1-1)) x161.2 m1_0 m1_1 m1_2 m1_3 m1_4 m1_5) (hrc t0 t1 t2 t3 s0.1 x161.1 (w64 (s0.2.2.1-1)) x161.2 m1_0 m1_1 m1_2 m1_3 m1_4 m1_5) fun x167 hx167=>?_;conv=>arg 3;whnf
          exact Zc (ih _)
        ·refine Zd rfl ?_ ?_<;>conv=>arg 3;whnf
         ·refine Zb (Za t0 t1 t2 t3 (w64 (x161.1+1)) s0.2.1 (w64 (s0.2.2.1-1)) x161.2 m1_0 m1_1 m1_2 m1_3 m1_4 m1_5) (hrc t0 t1 t2 t3 (w64 (x161.1+1)) s0.2.1 (w64 (s0.2.2.1-1)) x161.2 m1_0 m1_1 m1_2 m1_3 m1_4 m1_5) fun x168 hx168=>?_;conv=>arg 3;whnf
          exact Zc (ih _)
         ·refine Zb (Za t0 t1 t2 t3 (w64 (x161.1+1)) s0.2.1 (w64 (s0.2.2.1-1)) x161.2 m1_0 m1_1 m1_2 m1_3 m1_4 m1_5) (hrc t0 t1 t2 t3 (w64 (x161.1+1)) s0.2.1 (w64 (s0.2.2.1-1)) x161.2 m1_0 m1_1 m1_2 m1_3 m1_4 m1_5) fun x169 hx169=>?_;conv=>arg 3;whnf
          exact Zc (ih _)
 ·refine Zoj ?_
  rcases hb:s0.2.2.2.2.1 with _ | _
  ·refine ZoQ ?_;conv=>arg 3;whnf
   refine Zd rfl ?_ ?_<;>conv=>arg 3;whnf
   ·refine Zb _ Z0 fun x73 hx73=>?_;conv=>arg 3;whnf
    exact Ze rfl
   ·refine Zd rfl ?_ ?_<;>conv=>arg 3;whnf
    ·refine Zb _ Zad fun x74 hx74=>?_;conv=>arg 3;whnf
     exact Ze rfl
    ·refine Zb _ Z8 fun x75 hx75=>?_;conv=>arg 3;whnf
     refine Zd rfl ?_ ?_<;>conv=>arg 3;whnf
     ·refine Zb _ Z6 fun x76 hx76=>?_;conv=>arg 3;whnf
      refine Zd rfl ?_ ?_<;>conv=>arg 3;whnf
      ·refine Zk rfl rfl fun x77 hx77=>?_;conv=>arg 3;whnf
       refine Zg (Zu rfl hx77) ?_;conv=>arg 3;whnf
       refine Zk rfl rfl fun x78 hx78=>?_;conv=>arg 3;whnf
       refine Zg (Zu rfl hx78) ?_;conv=>arg 3;whnf
       refine Zp _ Zy rfl fun x79 hx79=>?_;conv=>arg 3;whnf
       refine Zd rfl ?_ ?_<;>conv=>arg 3;whnf
       ·refine Zb _ Zh fun x80 hx80=>?_
        clear hx80
        rcases x80 with x80 | x80
        ·conv=>arg 3;whnf
         refine Zcv rfl ?_;conv=>arg 3;whnf
         refine Zab rfl ?_;conv=>arg 3;whnf
         refine Zd rfl ?_ ?_<;>conv=>arg 3;whnf
         ·refine Zd rfl ?_ ?_<;>conv=>arg 3;whnf
          ·refine Zb (Za t0 t1 t2 t3 s0.1 x80.1 s0.2.2.1 x80.2 m1_0 m1_1 m1_2 m1_3 m1_4 m1_5) (hrc t0 t1 t2 t3 s0.1 x80.1 s0.2.2.1 x80.2 m1_0 m1_1 m1_2 m1_3 m1_4 m1_5) fun x81 hx81=>?_;conv=>arg 3;whnf
           exact Zc (ih _)
          ·refine Zb (Za t0 t1 t2 t3 s0.1 x80.1 s0.2.2.1 x80.2 m1_0 m1_1 m1_2 m1_3 m1_4 m1_5) (hrc t0 t1 t2 t3 s0.1 x80.1 s0.2.2.1 x80.2 m1_0 m1_1 m1_2 m1_3 m1_4 m1_5) fun x82 hx82=>?_;conv=>arg 3;whnf
           exact Zc (ih _)
         ·refine Zd rfl ?_ ?_<;>conv=>arg 3;whnf
          ·refine Zb (Za t0 t1 t2 t3 (w64 (x80.1+1)) s0.2.1 s0.2.2.1 x80.2 m1_0 m1_1 m1_2 m1_3 m1_4 m1_5) (hrc t0 t1 t2 t3 (w64 (x80.1+1)) s0.2.1 s0.2.2.1 x80.2 m1_0 m1_1 m1_2 m1_3 m1_4 m1_5) fun x83 hx83=>?_;conv=>arg 3;whnf
           exact Zc (ih _)
          ·refine Zb (Za t0 t1 t2 t3 (w64 (x80.1+1)) s0.2.1 s0.2.2.1 x80.2 m1_0 m1_1 m1_2 m1_3 m1_4 m1_5) (hrc t0 t1 t2 t3 (w64 (x80.1+1)) s0.2.1 s0.2.2.1 x80.2 m1_0 m1_1 m1_2 m1_3 m1_4 m1_5) fun x84 hx84=>?_;conv=>arg 3;whnf
           exact Zc (ih _)
        ·conv=>arg 3;whnf
         refine Zab rfl ?_;conv=>arg 3;whnf
         refine Zab rfl ?_;conv=>arg 3;whnf
         refine Zd rfl ?_ ?_<;>conv=>arg 3;whnf
         ·refine Zd rfl ?_ ?_<;>conv=>arg 3;whnf
          ·refine Zb (Za t0 t1 t2 t3 s0.1 x80.1 s0.2.2.1 x80.2 m1_0 m1_1 m1_2 m1_3 m1_4 m1_5) (hrc t0 t1 t2 t3 s0.1 x80.1 s0.2.2.1 x80.2 m1_0 m1_1 m1_2 m1_3 m1_4 m1_5) fun x85 hx85=>?_;conv=>arg 3;whnf
           exact Zc (ih _)
          ·refine Zb (Za t0 t1 t2 t3 s0.1 x80.1 s0.2.2.1 x80.2 m1_0 m1_1 m1_2 m1_3 m1_4 m1_5) (hrc t0 t1 t2 t3 s0.1 x80.1 s0.2.2.1 x80.2 m1_0 m1_1 m1_2 m1_3 m1_4 m1_5) fun x86 hx86=>?_;conv=>arg 3;whnf
           exact Zc (ih _)
         ·refine Zd rfl ?_ ?_<;>conv=>arg 3;whnf
          ·refine Zb (Za t0 t1 t2 t3 (w64 (x80.1+1)) s0.2.1 s0.2.2.1 x80.2 m1_0 m1_1 m1_2 m1_3 m1_4 m1_5) (hrc t0 t1 t2 t3 (w64 (x80.1+1)) s0.2.1 s0.2.2.1 x80.2 m1_0 m1_1 m1_2 m1_3 m1_4 m1_5) fun x87 hx87=>?_;conv=>arg 3;whnf
           exact Zc (ih _)
          ·refine Zb (Za t0 t1 t2 t3 (w64 (x80.1+1)) s0.2.1 s0.2.2.1 x80.2 m1_0 m1_1 m1_2 m1_3 m1_4 m1_5) (hrc t0 t1 t2 t3 (w64 (x80.1+1)) s0.2.1 s0.2.2.1 x80.2 m1_0 m1_1 m1_2 m1_3 m1_4 m1_5) fun x88 hx88=>?_;conv=>arg 3;whnf
           exact Zc (ih _)
       ·refine Zb _ Zr fun x89 hx89=>?_;conv=>arg 3;whnf
        exact Zc (ih _)
      ·refine Zb _ Zh fun x90 hx90=>?_
       clear hx90
       rcases x90 with x90 | x90
       ·conv=>arg 3;whnf
        refine Zcv rfl ?_;conv=>arg 3;whnf
        refine Zab rfl ?_;conv=>arg 3;whnf
        refine Zd rfl ?_ ?_<;>conv=>arg 3;whnf
        ·refine Zd rfl ?_ ?_<;>conv=>arg 3;whnf
         ·refine Zb (Za t0 t1 t2 t3 s0.1 x90.1 s0.2.2.1 x90.2 m1_0 m1_1 m1_2 m1_3 m1_4 m1_5) (hrc t0 t1 t2 t3 s0.1 x90.1 s0.2.2.1 x90.2 m1_0 m1_1 m1_2 m1_3 m1_4 m1_5) fun x91 hx91=>?_;conv=>arg 3;whnf
          exact Zc (ih _)
         ·refine Zb (Za t0 t1 t2 t3 s0.1 x90.1 s0.2.2.1 x90.2 m1_0 m1_1 m1_2 m1_3 m1_4 m1_5) (hrc t0 t1 t2 t3 s0.1 x90.1 s0.2.2.1 x90.2 m1_0 m1_1 m1_2 m1_3 m1_4 m1_5) fun x92 hx92=>?_;conv=>arg 3;whnf
          exact Zc (ih _)
        ·refine Zd rfl ?_ ?_<;>conv=>arg 3;whnf
         ·refine Zb (Za t0 t1 t2 t3 (w64 (x90.1+1)) s0.2.1 s0.2.2.1 x90.2 m1_0 m1_1 m1_2 m1_3 m1_4 m1_5) (hrc t0 t1 t2 t3 (w64 (x90.1+1)) s0.2.1 s0.2.2.1 x90.2 m1_0 m1_1 m1_2 m1_3 m1_4 m1_5) fun x93 hx93=>?_;conv=>arg 3;whnf
          exact Zc (ih _)
         ·refine Zb (Za t0 t1 t2 t3 (w64 (x90.1+1)) s0.2.1 s0.2.2.1 x90.2 m1_0 m1_1 m1_2 m1_3 m1_4 m1_5) (hrc t0 t1 t2 t3 (w64 (x90.1+1)) s0.2.1 s0.2.2.1 x90.2 m1_0 m1_1 m1_2 m1_3 m1_4 m1_5) fun x94 hx94=>?_;conv=>arg 3;whnf
          exact Zc (ih _)
       ·conv=>arg 3;whnf
        refine Zab rfl ?_;conv=>arg 3;whnf
        refine Zab rfl ?_;conv=>arg 3;whnf
        refine Zd rfl ?_ ?_<;>conv=>arg 3;whnf
        ·refine Zd rfl ?_ ?_<;>conv=>arg 3;whnf
         ·refine Zb (Za t0 t1 t2 t3 s0.1 x90.1 s0.2.2.1 x90.2 m1_0 m1_1 m1_2 m1_3 m1_4 m1_5) (hrc t0 t1 t2 t3 s0.1 x90.1 s0.2.2.1 x90.2 m1_0 m1_1 m1_2 m1_3 m1_4 m1_5) fun x95 hx95=>?_;conv=>arg 3;whnf
          exact Zc (ih _)
         ·refine Zb (Za t0 t1 t2 t3 s0.1 x90.1 s0.2.2.1 x90.2 m1_0 m1_1 m1_2 m1_3 m1_4 m1_5) (hrc t0 t1 t2 t3 s0.1 x90.1 s0.2.2.1 x90.2 m1_0 m1_1 m1_2 m1_3 m1_4 m1_5) fun x96 hx96=>?_;conv=>arg 3;whnf
          exact Zc (ih _)
        ·refine Zd rfl ?_ ?_<;>conv=>arg 3;whnf
         ·refine Zb (Za t0 t1 t2 t3 (w64 (x90.1+1)) s0.2.1 s0.2.2.1 x90.2 m1_0 m1_1 m1_2 m1_3 m1_4 m1_5) (hrc t0 t1 t2 t3 (w64 (x90.1+1)) s0.2.1 s0.2.2.1 x90.2 m1_0 m1_1 m1_2 m1_3 m1_4 m1_5) fun x97 hx97=>?_;conv=>arg 3;whnf
          exact Zc (ih _)
         ·refine Zb (Za t0 t1 t2 t3 (w64 (x90.1+1)) s0.2.1 s0.2.2.1 x90.2 m1_0 m1_1 m1_2 m1_3 m1_4 m1_5) (hrc t0 t1 t2 t3 (w64 (x90.1+1)) s0.2.1 s0.2.2.1 x90.2 m1_0 m1_1 m1_2 m1_3 m1_4 m1_5) fun x98 hx98=>?_;conv=>arg 3;whnf
          exact Zc (ih _)
     ·refine Zd rfl ?_ ?_<;>conv=>arg 3;whnf
      ·refine Zk rfl rfl fun x99 hx99=>?_;conv=>arg 3;whnf
       refine Zg (Zu rfl hx99) ?_;conv=>arg 3;whnf
       refine Zk rfl rfl fun x100 hx100=>?_;conv=>arg 3;whnf
       refine Zg (Zu rfl hx100) ?_;conv=>arg 3;whnf
       refine Zp _ Zy rfl fun x101 hx101=>?_;conv=>arg 3;whnf
       refine Zd rfl ?_ ?_<;>conv=>arg 3;whnf
       ·refine Zb _ Zh fun x102 hx102=>?_
        clear hx102
        rcases x102 with x102 | x102
        ·conv=>arg 3;whnf
         refine Zcv rfl ?_;conv=>arg 3;whnf
         refine Zab rfl ?_;conv=>arg 3;whnf
         refine Zd rfl ?_ ?_<;>conv=>arg 3;whnf
         ·refine Zd rfl ?_ ?_<;>conv=>arg 3;whnf
          ·refine Zb (Za t0 t1 t2 t3 s0.1 x102.1 s0.2.2.1 x102.2 m1_0 m1_1 m1_2 m1_3 m1_4 m1_5) (hrc t0 t1 t2 t3 s0.1 x102.1 s0.2.2.1 x102.2 m1_0 m1_1 m1_2 m1_3 m1_4 m1_5) fun x103 hx103=>?_;conv=>arg 3;whnf
           exact Zc (ih _)
          ·refine Zb (Za t0 t1 t2 t3 s0.1 x102.1 s0.2.2.1 x102.2 m1_0 m1_1 m1_2 m1_3 m1_4 m1_5) (hrc t0 t1 t2 t3 s0.1 x102.1 s0.2.2.1 x102.2 m1_0 m1_1 m1_2 m1_3 m1_4 m1_5) fun x104 hx104=>?_;conv=>arg 3;whnf
           exact Zc (ih _)
         ·refine Zd rfl ?_ ?_<;>conv=>arg 3;whnf
          ·refine Zb (Za t0 t1 t2 t3 (w64 (x102.1+1)) s0.2.1 s0.2.2.1 x102.2 m1_0 m1_1 m1_2 m1_3 m1_4 m1_5) (hrc t0 t1 t2 t3 (w64 (x102.1+1)) s0.2.1 s0.2.2.1 x102.2 m1_0 m1_1 m1_2 m1_3 m1_4 m1_5) fun x105 hx105=>?_;conv=>arg 3;whnf
           exact Zc (ih _)
          ·refine Zb (Za t0 t1 t2 t3 (w64 (x102.1+1)) s0.2.1 s0.2.2.1 x102.2 m1_0 m1_1 m1_2 m1_3 m1_4 m1_5) (hrc t0 t1 t2 t3 (w64 (x102.1+1)) s0.2.1 s0.2.2.1 x102.2 m1_0 m1_1 m1_2 m1_3 m1_4 m1_5) fun x106 hx106=>?_;conv=>arg 3;whnf
           exact Zc (ih _)
        ·conv=>arg 3;whnf
         refine Zab rfl ?_;conv=>arg 3;whnf
         refine Zab rfl ?_;conv=>arg 3;whnf
         refine Zd rfl ?_ ?_<;>conv=>arg 3;whnf
         ·refine Zd rfl ?_ ?_<;>conv=>arg 3;whnf
          ·refine Zb (Za t0 t1 t2 t3 s0.1 x102.1 s0.2.2.1 x102.2 m1_0 m1_1 m1_2 m1_3 m1_4 m1_5) (hrc t0 t1 t2 t3 s0.1 x102.1 s0.2.2.1 x102.2 m1_0 m1_1 m1_2 m1_3 m1_4 m1_5) fun x107 hx107=>?_;conv=>arg 3;whnf
           exact Zc (ih _)
          ·refine Zb (Za t0 t1 t2 t3 s0.1 x102.1 s0.2.2.1 x102.2 m1_0 m1_1 m1_2 m1_3 m1_4 m1_5) (hrc t0 t1 t2 t3 s0.1 x102.1 s0.2.2.1 x102.2 m1_0 m1_1 m1_2 m1_3 m1_4 m1_5) fun x108 hx108=>?_;conv=>arg 3;whnf
           exact Zc (ih _)
         ·refine Zd rfl ?_ ?_<;>conv=>arg 3;whnf
          ·refine Zb (Za t0 t1 t2 t3 (w64 (x102.1+1)) s0.2.1 s0.2.2.1 x102.2 m1_0 m1_1 m1_2 m1_3 m1_4 m1_5) (hrc t0 t1 t2 t3 (w64 (x102.1+1)) s0.2.1 s0.2.2.1 x102.2 m1_0 m1_1 m1_2 m1_3 m1_4 m1_5) fun x109 hx109=>?_;conv=>arg 3;whnf
           exact Zc (ih _)
          ·refine Zb (Za t0 t1 t2 t3 (w64 (x102.1+1)) s0.2.1 s0.2.2.1 x102.2 m1_0 m1_1 m1_2 m1_3 m1_4 m1_5) (hrc t0 t1 t2 t3 (w64 (x102.1+1)) s0.2.1 s0.2.2.1 x102.2 m1_0 m1_1 m1_2 m1_3 m1_4 m1_5) fun x110 hx110=>?_;conv=>arg 3;whnf
           exact Zc (ih _)
       ·refine Zb _ Zr fun x111 hx111=>?_;conv=>arg 3;whnf
        exact Zc (ih _)
      ·refine Zb _ Zh fun x112 hx112=>?_
       clear hx112
       rcases x112 with x112 | x112
       ·conv=>arg 3;whnf
        refine Zcv rfl ?_;conv=>arg 3;whnf
        refine Zab rfl ?_;conv=>arg 3;whnf
        refine Zd rfl ?_ ?_<;>conv=>arg 3;whnf
        ·refine Zd rfl ?_ ?_<;>conv=>arg 3;whnf
         ·refine Zb (Za t0 t1 t2 t3 s0.1 x112.1 s0.2.2.1 x112.2 m1_0 m1_1 m1_2 m1_3 m1_4 m1_5) (hrc t0 t1 t2 t3 s0.1 x112.1 s0.2.2.1 x112.2 m1_0 m1_1 m1_2 m1_3 m1_4 m1_5) fun x113 hx113=>?_;conv=>arg 3;whnf
          exact Zc (ih _)
         ·refine Zb (Za t0 t1 t2 t3 s0.1 x112.1 s0.2.2.1 x112.2 m1_0 m1_1 m1_2 m1_3 m1_4 m1_5) (hrc t0 t1 t2 t3 s0.1 x112.1 s0.2.2.1 x112.2 m1_0 m1_1 m1_2 m1_3 m1_4 m1_5) fun x114 hx114=>?_;conv=>arg 3;whnf
          exact Zc (ih _)
        ·refine Zd rfl ?_ ?_<;>conv=>arg 3;whnf
         ·refine Zb (Za t0 t1 t2 t3 (w64 (x112.1+1)) s0.2.1 s0.2.2.1 x112.2 m1_0 m1_1 m1_2 m1_3 m1_4 m1_5) (hrc t0 t1 t2 t3 (w64 (x112.1+1)) s0.2.1 s0.2.2.1 x112.2 m1_0 m1_1 m1_2 m1_3 m1_4 m1_5) fun x115 hx115=>?_;conv=>arg 3;whnf
          exact Zc (ih _)
         ·refine Zb (Za t0 t1 t2 t3 (w64 (x112.1+1)) s0.2.1 s0.2.2.1 x112.2 m1_0 m1_1 m1_2 m1_3 m1_4 m1_5) (hrc t0 t1 t2 t3 (w64 (x112.1+1)) s0.2.1 s0.2.2.1 x112.2 m1_0 m1_1 m1_2 m1_3 m1_4 m1_5) fun x116 hx116=>?_;conv=>arg 3;whnf
          exact Zc (ih _)
       ·conv=>arg 3;whnf
        refine Zab rfl ?_;conv=>arg 3;whnf
        refine Zab rfl ?_;conv=>arg 3;whnf
        refine Zd rfl ?_ ?_<;>conv=>arg 3;whnf
        ·refine Zd rfl ?_ ?_<;>conv=>arg 3;whnf
         ·refine Zb (Za t0 t1 t2 t3 s0.1 x112.1 s0.2.2.1 x112.2 m1_0 m1_1 m1_2 m1_3 m1_4 m1_5) (hrc t0 t1 t2 t3 s0.1 x112.1 s0.2.2.1 x112.2 m1_0 m1_1 m1_2 m1_3 m1_4 m1_5) fun x117 hx117=>?_;conv=>arg 3;whnf
          exact Zc (ih _)
         ·refine Zb (Za t0 t1 t2 t3 s0.1 x112.1 s0.2.2.1 x112.2 m1_0 m1_1 m1_2 m1_3 m1_4 m1_5) (hrc t0 t1 t2 t3 s0.1 x112.1 s0.2.2.1 x112.2 m1_0 m1_1 m1_2 m1_3 m1_4 m1_5) fun x118 hx118=>?_;conv=>arg 3;whnf
          exact Zc (ih _)
        ·refine Zd rfl ?_ ?_<;>conv=>arg 3;whnf
         ·refine Zb (Za t0 t1 t2 t3 (w64 (x112.1+1)) s0.2.1 s0.2.2.1 x112.2 m1_0 m1_1 m1_2 m1_3 m1_4 m1_5) (hrc t0 t1 t2 t3 (w64 (x112.1+1)) s0.2.1 s0.2.2.1 x112.2 m1_0 m1_1 m1_2 m1_3 m1_4 m1_5) fun x119 hx119=>?_;conv=>arg 3;whnf
          exact Zc (ih _)
         ·refine Zb (Za t0 t1 t2 t3 (w64 (x112.1+1)) s0.2.1 s0.2.2.1 x112.2 m1_0 m1_1 m1_2 m1_3 m1_4 m1_5) (hrc t0 t1 t2 t3 (w64 (x112.1+1)) s0.2.1 s0.2.2.1 x112.2 m1_0 m1_1 m1_2 m1_3 m1_4 m1_5) fun x120 hx120=>?_;conv=>arg 3;whnf
          exact Zc (ih _)
  ·refine Zoj ?_;conv=>arg 3;whnf
   refine Zd rfl ?_ ?_<;>conv=>arg 3;whnf
   ·refine Zb _ Z0 fun x1 hx1=>?_;conv=>arg 3;whnf
    exact Ze rfl
   ·refine Zd rfl ?_ ?_<;>conv=>arg 3;whnf
    ·refine Zb _ Zad fun x2 hx2=>?_;conv=>arg 3;whnf
     exact Ze rfl
    ·refine Zb _ Z8 fun x3 hx3=>?_;conv=>arg 3;whnf
     refine Zd rfl ?_ ?_<;>conv=>arg 3;whnf
     ·refine Zb _ Z6 fun x4 hx4=>?_;conv=>arg 3;whnf
      refine Zcv rfl ?_;conv=>arg 3;whnf
      refine Zb _ ZaP fun x5 hx5=>?_
      clear hx5
      rcases x5 with x5 | x5
      ·conv=>arg 3;whnf
       exact Ze rfl
      ·conv=>arg 3;whnf
       refine Zd rfl ?_ ?_<;>conv=>arg 3;whnf
       ·refine Zk rfl rfl fun x6 hx6=>?_;conv=>arg 3;whnf
        refine Zg (Zu rfl hx6) ?_;conv=>arg 3;whnf
        refine Zk rfl rfl fun x7 hx7=>?_;conv=>arg 3;whnf
        refine Zg (Zu rfl hx7) ?_;conv=>arg 3;whnf
        refine Zp _ Zy rfl fun x8 hx8=>?_;conv=>arg 3;whnf
        refine Zd rfl ?_ ?_<;>conv=>arg 3;whnf
        ·refine Zb _ Zh fun x9 hx9=>?_
         clear hx9
         rcases x9 with x9 | x9
         ·conv=>arg 3;whnf
          refine Zcv rfl ?_;conv=>arg 3;whnf
          refine Zab rfl ?_;conv=>arg 3;whnf
          refine Zd rfl ?_ ?_<;>conv=>arg 3;whnf
          ·refine Zd rfl ?_ ?_<;>conv=>arg 3;whnf
           ·refine Zb (Za t0 t1 t2 t3 s0.1 x9.1 s0.2.2.1 x9.2 m1_0 m1_1 m1_2 m1_3 m1_4 m1_5) (hrc t0 t1 t2 t3 s0.1 x9.1 s0.2.2.1 x9.2 m1_0 m1_1 m1_2 m1_3 m1_4 m1_5) fun x10 hx10=>?_;conv=>arg 3;whnf
            exact Zc (ih _)
           ·refine Zb (Za t0 t1 t2 t3 s0.1 x9.1 s0.2.2.1 x9.2 m1_0 m1_1 m1_2 m1_3 m1_4 m1_5) (hrc t0 t1 t2 t3 s0.1 x9.1 s0.2.2.1 x9.2 m1_0 m1_1 m1_2 m1_3 m1_4 m1_5) fun x11 hx11=>?_;conv=>arg 3;whnf
            exact Zc (ih _)
          ·refine Zd rfl ?_ ?_<;>conv=>arg 3;whnf
           ·refine Zb (Za t0 t1 t2 t3 (w64 (x9.1+1)) s0.2.1 s0.2.2.1 x9.2 m1_0 m1_1 m1_2 m1_3 m1_4 m1_5) (hrc t0 t1 t2 t3 (w64 (x9.1+1)) s0.2.1 s0.2.2.1 x9.2 m1_0 m1_1 m1_2 m1_3 m1_4 m1_5) fun x12 hx12=>?_;conv=>arg 3;whnf
            exact Zc (ih _)
           ·refine Zb (Za t0 t1 t2 t3 (w64 (x9.1+1)) s0.2.1 s0.2.2.1 x9.2 m1_0 m1_1 m1_2 m1_3 m1_4 m1_5) (hrc t0 t1 t2 t3 (w64 (x9.1+1)) s0.2.1 s0.2.2.1 x9.2 m1_0 m1_1 m1_2 m1_3 m1_4 m1_5) fun x13 hx13=>?_;conv=>arg 3;whnf
            exact Zc (ih _)
         ·conv=>arg 3;whnf
          refine Zab rfl ?_;conv=>arg 3;whnf
          refine Zab rfl ?_;conv=>arg 3;whnf
          refine Zd rfl ?_ ?_<;>conv=>arg 3;whnf
          ·refine Zd rfl ?_ ?_<;>conv=>arg 3;whnf
           ·refine Zb (Za t0 t1 t2 t3 s0.1 x9.1 s0.2.2.1 x9.2 m1_0 m1_1 m1_2 m1_3 m1_4 m1_5) (hrc t0 t1 t2 t3 s0.1 x9.1 s0.2.2.1 x9.2 m1_0 m1_1 m1_2 m1_3 m1_4 m1_5) fun x14 hx14=>?_;conv=>arg 3;whnf
            exact Zc (ih _)
           ·refine Zb (Za t0 t1 t2 t3 s0.1 x9.1 s0.2.2.1 x9.2 m1_0 m1_1 m1_2 m1_3 m1_4 m1_5) (hrc t0 t1 t2 t3 s0.1 x9.1 s0.2.2.1 x9.2 m1_0 m1_1 m1_2 m1_3 m1_4 m1_5) fun x15 hx15=>?_;conv=>arg 3;whnf
            exact Zc (ih _)
          ·refine Zd rfl ?_ ?_<;>conv=>arg 3;whnf
           ·refine Zb (Za t0 t1 t2 t3 (w64 (x9.1+1)) s0.2.1 s0.2.2.1 x9.2 m1_0 m1_1 m1_2 m1_3 m1_4 m1_5) (hrc t0 t1 t2 t3 (w64 (x9.1+1)) s0.2.1 s0.2.2.1 x9.2 m1_0 m1_1 m1_2 m1_3 m1_4 m1_5) fun x16 hx16=>?_;conv=>arg 3;whnf
            exact Zc (ih _)
           ·refine Zb (Za t0 t1 t2 t3 (w64 (x9.1+1)) s0.2.1 s0.2.2.1 x9.2 m1_0 m1_1 m1_2 m1_3 m1_4 m1_5) (hrc t0 t1 t2 t3 (w64 (x9.1+1)) s0.2.1 s0.2.2.1 x9.2 m1_0 m1_1 m1_2 m1_3 m1_4 m1_5) fun x17 hx17=>?_;conv=>arg 3;whnf
            exact Zc (ih _)
        ·refine Zb _ Zr fun x18 hx18=>?_;conv=>arg 3;whnf
         exact Zc (ih _)
       ·refine Zb _ Zh fun x19 hx19=>?_
        clear hx19
        rcases x19 with x19 | x19
        ·conv=>arg 3;whnf
         refine Zcv rfl ?_;conv=>arg 3;whnf
         refine Zab rfl ?_;conv=>arg 3;whnf
         refine Zd rfl ?_ ?_<;>conv=>arg 3;whnf
         ·refine Zd rfl ?_ ?_<;>conv=>arg 3;whnf
          ·refine Zb (Za t0 t1 t2 t3 s0.1 x19.1 s0.2.2.1 x19.2 m1_0 m1_1 m1_2 m1_3 m1_4 m1_5) (hrc t0 t1 t2 t3 s0.1 x19.1 s0.2.2.1 x19.2 m1_0 m1_1 m1_2 m1_3 m1_4 m1_5) fun x20 hx20=>?_;conv=>arg 3;whnf
           exact Zc (ih _)
          ·refine Zb (Za t0 t1 t2 t3 s0.1 x19.1 s0.2.2.1 x19.2 m1_0 m1_1 m1_2 m1_3 m1_4 m1_5) (hrc t0 t1 t2 t3 s0.1 x19.1 s0.2.2.1 x19.2 m1_0 m1_1 m1_2 m1_3 m1_4 m1_5) fun x21 hx21=>?_;conv=>arg 3;whnf
           exact Zc (ih _)
         ·refine Zd rfl ?_ ?_<;>conv=>arg 3;whnf
          ·refine Zb (Za t0 t1 t2 t3 (w64 (x19.1+1)) s0.2.1 s0.2.2.1 x19.2 m1_0 m1_1 m1_2 m1_3 m1_4 m1_5) (hrc t0 t1 t2 t3 (w64 (x19.1+1)) s0.2.1 s0.2.2.1 x19.2 m1_0 m1_1 m1_2 m1_3 m1_4 m1_5) fun x22 hx22=>?_;conv=>arg 3;whnf
           exact Zc (ih _)
          ·refine Zb (Za t0 t1 t2 t3 (w64 (x19.1+1)) s0.2.1 s0.2.2.1 x19.2 m1_0 m1_1 m1_2 m1_3 m1_4 m1_5) (hrc t0 t1 t2 t3 (w64 (x19.1+1)) s0.2.1 s0.2.2.1 x19.2 m1_0 m1_1 m1_2 m1_3 m1_4 m1_5) fun x23 hx23=>?_;conv=>arg 3;whnf
           exact Zc (ih _)
        ·conv=>arg 3;whnf
         refine Zab rfl ?_;conv=>arg 3;whnf
         refine Zab rfl ?_;conv=>arg 3;whnf
         refine Zd rfl ?_ ?_<;>conv=>arg 3;whnf
         ·refine Zd rfl ?_ ?_<;>conv=>arg 3;whnf
          ·refine Zb (Za t0 t1 t2 t3 s0.1 x19.1 s0.2.2.1 x19.2 m1_0 m1_1 m1_2 m1_3 m1_4 m1_5) (hrc t0 t1 t2 t3 s0.1 x19.1 s0.2.2.1 x19.2 m1_0 m1_1 m1_2 m1_3 m1_4 m1_5) fun x24 hx24=>?_;conv=>arg 3;whnf
           exact Zc (ih _)
          ·refine Zb (Za t0 t1 t2 t3 s0.1 x19.1 s0.2.2.1 x19.2 m1_0 m1_1 m1_2 m1_3 m1_4 m1_5) (hrc t0 t1 t2 t3 s0.1 x19.1 s0.2.2.1 x19.2 m1_0 m1_1 m1_2 m1_3 m1_4 m1_5) fun x25 hx25=>?_;conv=>arg 3;whnf
           exact Zc (ih _)
         ·refine Zd rfl ?_ ?_<;>conv=>arg 3;whnf
          ·refine Zb (Za t0 t1 t2 t3 (w64 (x19.1+1)) s0.2.1 s0.2.2.1 x19.2 m1_0 m1_1 m1_2 m1_3 m1_4 m1_5) (hrc t0 t1 t2 t3 (w64 (x19.1+1)) s0.2.1 s0.2.2.1 x19.2 m1_0 m1_1 m1_2 m1_3 m1_4 m1_5) fun x26 hx26=>?_;conv=>arg 3;whnf
           exact Zc (ih _)
          ·refine Zb (Za t0 t1 t2 t3 (w64 (x19.1+1)) s0.2.1 s0.2.2.1 x19.2 m1_0 m1_1 m1_2 m1_3 m1_4 m1_5) (hrc t0 t1 t2 t3 (w64 (x19.1+1)) s0.2.1 s0.2.2.1 x19.2 m1_0 m1_1 m1_2 m1_3 m1_4 m1_5) fun x27 hx27=>?_;conv=>arg 3;whnf
           exact Zc (ih _)
     ·refine Zd rfl ?_ ?_<;>conv=>arg 3;whnf
      ·refine Zb _ ZaP fun x28 hx28=>?_
       clear hx28
       rcases x28 with x28 | x28
       ·conv=>arg 3;whnf
        exact Ze rfl
       ·conv=>arg 3;whnf
        refine Zd rfl ?_ ?_<;>conv=>arg 3;whnf
        ·refine Zk rfl rfl fun x29 hx29=>?_;conv=>arg 3;whnf
         refine Zg (Zu rfl hx29) ?_;conv=>arg 3;whnf
         refine Zk rfl rfl fun x30 hx30=>?_;conv=>arg 3;whnf
         refine Zg (Zu rfl hx30) ?_;conv=>arg 3;whnf
         refine Zp _ Zy rfl fun x31 hx31=>?_;conv=>arg 3;whnf
         refine Zd rfl ?_ ?_<;>conv=>arg 3;whnf
         ·refine Zb _ Zh fun x32 hx32=>?_
          clear hx32
          rcases x32 with x32 | x32
          ·conv=>arg 3;whnf
           refine Zcv rfl ?_;conv=>arg 3;whnf
           refine Zab rfl ?_;conv=>arg 3;whnf
           refine Zd rfl ?_ ?_<;>conv=>arg 3;whnf
           ·refine Zd rfl ?_ ?_<;>conv=>arg 3;whnf
            ·refine Zb (Za t0 t1 t2 t3 s0.1 x32.1 s0.2.2.1 x32.2 m1_0 m1_1 m1_2 m1_3 m1_4 m1_5) (hrc t0 t1 t2 t3 s0.1 x32.1 s0.2.2.1 x32.2 m1_0 m1_1 m1_2 m1_3 m1_4 m1_5) fun x33 hx33=>?_;conv=>arg 3;whnf
             exact Zc (ih _)
            ·refine Zb (Za t0 t1 t2 t3 s0.1 x32.1 s0.2.2.1 x32.2 m1_0 m1_1 m1_2 m1_3 m1_4 m1_5) (hrc t0 t1 t2 t3 s0.1 x32.1 s0.2.2.1 x32.2 m1_0 m1_1 m1_2 m1_3 m1_4 m1_5) fun x34 hx34=>?_;conv=>arg 3;whnf
             exact Zc (ih _)
           ·refine Zd rfl ?_ ?_<;>conv=>arg 3;whnf
            ·refine Zb (Za t0 t1 t2 t3 (w64 (x32.1+1)) s0.2.1 s0.2.2.1 x32.2 m1_0 m1_1 m1_2 m1_3 m1_4 m1_5) (hrc t0 t1 t2 t3 (w64 (x32.1+1)) s0.2.1 s0.2.2.1 x32.2 m1_0 m1_1 m1_2 m1_3 m1_4 m1_5) fun x35 hx35=>?_;conv=>arg 3;whnf
             exact Zc (ih _)
            ·refine Zb (Za t0 t1 t2 t3 (w64 (x32.1+1)) s0.2.1 s0.2.2.1 x32.2 m1_0 m1_1 m1_2 m1_3 m1_4 m1_5) (hrc t0 t1 t2 t3 (w64 (x32.1+1)) s0.2.1 s0.2.2.1 x32.2 m1_0 m1_1 m1_2 m1_3 m1_4 m1_5) fun x36 hx36=>?_;conv=>arg 3;whnf
             exact Zc (ih _)
          ·conv=>arg 3;whnf
           refine Zab rfl ?_;conv=>arg 3;whnf
           refine Zab rfl ?_;conv=>arg 3;whnf
           refine Zd rfl ?_ ?_<;>conv=>arg 3;whnf
           ·refine Zd rfl ?_ ?_<;>conv=>arg 3;whnf
            ·refine Zb (Za t0 t1 t2 t3 s0.1 x32.1 s0.2.2.1 x32.2 m1_0 m1_1 m1_2 m1_3 m1_4 m1_5) (hrc t0 t1 t2 t3 s0.1 x32.1 s0.2.2.1 x32.2 m1_0 m1_1 m1_2 m1_3 m1_4 m1_5) fun x37 hx37=>?_;conv=>arg 3;whnf
             exact Zc (ih _)
            ·refine Zb (Za t0 t1 t2 t3 s0.1 x32.1 s0.2.2.1 x32.2 m1_0 m1_1 m1_2 m1_3 m1_4 m1_5) (hrc t0 t1 t2 t3 s0.1 x32.1 s0.2.2.1 x32.2 m1_0 m1_1 m1_2 m1_3 m1_4 m1_5) fun x38 hx38=>?_;conv=>arg 3;whnf
             exact Zc (ih _)
           ·refine Zd rfl ?_ ?_<;>conv=>arg 3;whnf
            ·refine Zb (Za t0 t1 t2 t3 (w64 (x32.1+1)) s0.2.1 s0.2.2.1 x32.2 m1_0 m1_1 m1_2 m1_3 m1_4 m1_5) (hrc t0 t1 t2 t3 (w64 (x32.1+1)) s0.2.1 s0.2.2.1 x32.2 m1_0 m1_1 m1_2 m1_3 m1_4 m1_5) fun x39 hx39=>?_;conv=>arg 3;whnf
             exact Zc (ih _)
            ·refine Zb (Za t0 t1 t2 t3 (w64 (x32.1+1)) s0.2.1 s0.2.2.1 x32.2 m1_0 m1_1 m1_2 m1_3 m1_4 m1_5) (hrc t0 t1 t2 t3 (w64 (x32.1+1)) s0.2.1 s0.2.2.1 x32.2 m1_0 m1_1 m1_2 m1_3 m1_4 m1_5) fun x40 hx40=>?_;conv=>arg 3;whnf
             exact Zc (ih _)
         ·refine Zb _ Zr fun x41 hx41=>?_;conv=>arg 3;whnf
          exact Zc (ih _)
        ·refine Zb _ Zh fun x42 hx42=>?_
         clear hx42
         rcases x42 with x42 | x42
         ·conv=>arg 3;whnf
          refine Zcv rfl ?_;conv=>arg 3;whnf
          refine Zab rfl ?_;conv=>arg 3;whnf
          refine Zd rfl ?_ ?_<;>conv=>arg 3;whnf
          ·refine Zd rfl ?_ ?_<;>conv=>arg 3;whnf
           ·refine Zb (Za t0 t1 t2 t3 s0.1 x42.1 s0.2.2.1 x42.2 m1_0 m1_1 m1_2 m1_3 m1_4 m1_5) (hrc t0 t1 t2 t3 s0.1 x42.1 s0.2.2.1 x42.2 m1_0 m1_1 m1_2 m1_3 m1_4 m1_5) fun x43 hx43=>?_;conv=>arg 3;whnf
            exact Zc (ih _)
           ·refine Zb (Za t0 t1 t2 t3 s0.1 x42.1 s0.2.2.1 x42.2 m1_0 m1_1 m1_2 m1_3 m1_4 m1_5) (hrc t0 t1 t2 t3 s0.1 x42.1 s0.2.2.1 x42.2 m1_0 m1_1 m1_2 m1_3 m1_4 m1_5) fun x44 hx44=>?_;conv=>arg 3;whnf
            exact Zc (ih _)
          ·refine Zd rfl ?_ ?_<;>conv=>arg 3;whnf
           ·refine Zb (Za t0 t1 t2 t3 (w64 (x42.1+1)) s0.2.1 s0.2.2.1 x42.2 m1_0 m1_1 m1_2 m1_3 m1_4 m1_5) (hrc t0 t1 t2 t3 (w64 (x42.1+1)) s0.2.1 s0.2.2.1 x42.2 m1_0 m1_1 m1_2 m1_3 m1_4 m1_5) fun x45 hx45=>?_;conv=>arg 3;whnf
            exact Zc (ih _)
           ·refine Zb (Za t0 t1 t2 t3 (w64 (x42.1+1)) s0.2.1 s0.2.2.1 x42.2 m1_0 m1_1 m1_2 m1_3 m1_4 m1_5) (hrc t0 t1 t2 t3 (w64 (x42.1+1)) s0.2.1 s0.2.2.1 x42.2 m1_0 m1_1 m1_2 m1_3 m1_4 m1_5) fun x46 hx46=>?_;conv=>arg 3;whnf
            exact Zc (ih _)
         ·conv=>arg 3;whnf
          refine Zab rfl ?_;conv=>arg 3;whnf
          refine Zab rfl ?_;conv=>arg 3;whnf
          refine Zd rfl ?_ ?_<;>conv=>arg 3;whnf
          ·refine Zd rfl ?_ ?_<;>conv=>arg 3;whnf
           ·refine Zb (Za t0 t1 t2 t3 s0.1 x42.1 s0.2.2.1 x42.2 m1_0 m1_1 m1_2 m1_3 m1_4 m1_5) (hrc t0 t1 t2 t3 s0.1 x42.1 s0.2.2.1 x42.2 m1_0 m1_1 m1_2 m1_3 m1_4 m1_5) fun x47 hx47=>?_;conv=>arg 3;whnf
            exact Zc (ih _)
           ·refine Zb (Za t0 t1 t2 t3 s0.1 x42.1 s0.2.2.1 x42.2 m1_0 m1_1 m1_2 m1_3 m1_4 m1_5) (hrc t0 t1 t2 t3 s0.1 x42.1 s0.2.2.1 x42.2 m1_0 m1_1 m1_2 m1_3 m1_4 m1_5) fun x48 hx48=>?_;conv=>arg 3;whnf
            exact Zc (ih _)
          ·refine Zd rfl ?_ ?_<;>conv=>arg 3;whnf
           ·refine Zb (Za t0 t1 t2 t3 (w64 (x42.1+1)) s0.2.1 s0.2.2.1 x42.2 m1_0 m1_1 m1_2 m1_3 m1_4 m1_5) (hrc t0 t1 t2 t3 (w64 (x42.1+1)) s0.2.1 s0.2.2.1 x42.2 m1_0 m1_1 m1_2 m1_3 m1_4 m1_5) fun x49 hx49=>?_;conv=>arg 3;whnf
            exact Zc (ih _)
           ·refine Zb (Za t0 t1 t2 t3 (w64 (x42.1+1)) s0.2.1 s0.2.2.1 x42.2 m1_0 m1_1 m1_2 m1_3 m1_4 m1_5) (hrc t0 t1 t2 t3 (w64 (x42.1+1)) s0.2.1 s0.2.2.1 x42.2 m1_0 m1_1 m1_2 m1_3 m1_4 m1_5) fun x50 hx50=>?_;conv=>arg 3;whnf
            exact Zc (ih _)
      ·refine Zd rfl ?_ ?_<;>conv=>arg 3;whnf
       ·refine Zk rfl rfl fun x51 hx51=>?_;conv=>arg 3;whnf
        refine Zg (Zu rfl hx51) ?_;conv=>arg 3;whnf
        refine Zk rfl rfl fun x52 hx52=>?_;conv=>arg 3;whnf
        refine Zg (Zu rfl hx52) ?_;conv=>arg 3;whnf
        refine Zp _ Zy rfl fun x53 hx53=>?_;conv=>arg 3;whnf
        refine Zd rfl ?_ ?_<;>conv=>arg 3;whnf
        ·refine Zb _ Zh fun x54 hx54=>?_
         clear hx54
         rcases x54 with x54 | x54
         ·conv=>arg 3;whnf
          refine Zcv rfl ?_;conv=>arg 3;whnf
          refine Zab rfl ?_;conv=>arg 3;whnf
          refine Zd rfl ?_ ?_<;>conv=>arg 3;whnf
          ·refine Zd rfl ?_ ?_<;>conv=>arg 3;whnf
           ·refine Zb (Za t0 t1 t2 t3 s0.1 x54.1 s0.2.2.1 x54.2 m1_0 m1_1 m1_2 m1_3 m1_4 m1_5) (hrc t0 t1 t2 t3 s0.1 x54.1 s0.2.2.1 x54.2 m1_0 m1_1 m1_2 m1_3 m1_4 m1_5) fun x55 hx55=>?_;conv=>arg 3;whnf
            exact Zc (ih _)
           ·refine Zb (Za t0 t1 t2 t3 s0.1 x54.1 s0.2.2.1 x54.2 m1_0 m1_1 m1_2 m1_3 m1_4 m1_5) (hrc t0 t1 t2 t3 s0.1 x54.1 s0.2.2.1 x54.2 m1_0 m1_1 m1_2 m1_3 m1_4 m1_5) fun x56 hx56=>?_;conv=>arg 3;whnf
            exact Zc (ih _)
          ·refine Zd rfl ?_ ?_<;>conv=>arg 3;whnf
           ·refine Zb (Za t0 t1 t2 t3 (w64 (x54.1+1)) s0.2.1 s0.2.2.1 x54.2 m1_0 m1_1 m1_2 m1_3 m1_4 m1_5) (hrc t0 t1 t2 t3 (w64 (x54.1+1)) s0.2.1 s0.2.2.1 x54.2 m1_0 m1_1 m1_2 m1_3 m1_4 m1_5) fun x57 hx57=>?_;conv=>arg 3;whnf
            exact Zc (ih _)
           ·refine Zb (Za t0 t1 t2 t3 (w64 (x54.1+1)) s0.2.1 s0.2.2.1 x54.2 m1_0 m1_1 m1_2 m1_3 m1_4 m1_5) (hrc t0 t1 t2 t3 (w64 (x54.1+1)) s0.2.1 s0.2.2.1 x54.2 m1_0 m1_1 m1_2 m1_3 m1_4 m1_5) fun x58 hx58=>?_;conv=>arg 3;whnf
            exact Zc (ih _)
         ·conv=>arg 3;whnf
          refine Zab rfl ?_;conv=>arg 3;whnf
          refine Zab rfl ?_;conv=>arg 3;whnf
          refine Zd rfl ?_ ?_<;>conv=>arg 3;whnf
          ·refine Zd rfl ?_ ?_<;>conv=>arg 3;whnf
           ·refine Zb (Za t0 t1 t2 t3 s0.1 x54.1 s0.2.2.1 x54.2 m1_0 m1_1 m1_2 m1_3 m1_4 m1_5) (hrc t0 t1 t2 t3 s0.1 x54.1 s0.2.2.1 x54.2 m1_0 m1_1 m1_2 m1_3 m1_4 m1_5) fun x59 hx59=>?_;conv=>arg 3;whnf
            exact Zc (ih _)
           ·refine Zb (Za t0 t1 t2 t3 s0.1 x54.1 s0.2.2.1 x54.2 m1_0 m1_1 m1_2 m1_3 m1_4 m1_5) (hrc t0 t1 t2 t3 s0.1 x54.1 s0.2.2.1 x54.2 m1_0 m1_1 m1_2 m1_3 m1_4 m1_5) fun x60 hx60=>?_;conv=>arg 3;whnf
            exact Zc (ih _)
          ·refine Zd rfl ?_ ?_<;>conv=>arg 3;whnf
           ·refine Zb (Za t0 t1 t2 t3 (w64 (x54.1+1)) s0.2.1 s0.2.2.1 x54.2 m1_0 m1_1 m1_2 m1_3 m1_4 m1_5) (hrc t0 t1 t2 t3 (w64 (x54.1+1)) s0.2.1 s0.2.2.1 x54.2 m1_0 m1_1 m1_2 m1_3 m1_4 m1_5) fun x61 hx61=>?_;conv=>arg 3;whnf
            exact Zc (ih _)
           ·refine Zb (Za t0 t1 t2 t3 (w64 (x54.1+1)) s0.2.1 s0.2.2.1 x54.2 m1_0 m1_1 m1_2 m1_3 m1_4 m1_5) (hrc t0 t1 t2 t3 (w64 (x54.1+1)) s0.2.1 s0.2.2.1 x54.2 m1_0 m1_1 m1_2 m1_3 m1_4 m1_5) fun x62 hx62=>?_;conv=>arg 3;whnf
            exact Zc (ih _)
        ·refine Zb _ Zr fun x63 hx63=>?_;conv=>arg 3;whnf
         exact Zc (ih _)
       ·refine Zb _ Zh fun x64 hx64=>?_
        clear hx64
        rcases x64 with x64 | x64
        ·conv=>arg 3;whnf
         refine Zcv rfl ?_;conv=>arg 3;whnf
         refine Zab rfl ?_;conv=>arg 3;whnf
         refine Zd rfl ?_ ?_<;>conv=>arg 3;whnf
         ·refine Zd rfl ?_ ?_<;>conv=>arg 3;whnf
          ·refine Zb (Za t0 t1 t2 t3 s0.1 x64.1 s0.2.2.1 x64.2 m1_0 m1_1 m1_2 m1_3 m1_4 m1_5) (hrc t0 t1 t2 t3 s0.1 x64.1 s0.2.2.1 x64.2 m1_0 m1_1 m1_2 m1_3 m1_4 m1_5) fun x65 hx65=>?_;conv=>arg 3;whnf
           exact Zc (ih _)
          ·refine Zb (Za t0 t1 t2 t3 s0.1 x64.1 s0.2.2.1 x64.2 m1_0 m1_1 m1_2 m1_3 m1_4 m1_5) (hrc t0 t1 t2 t3 s0.1 x64.1 s0.2.2.1 x64.2 m1_0 m1_1 m1_2 m1_3 m1_4 m1_5) fun x66 hx66=>?_;conv=>arg 3;whnf
           exact Zc (ih _)
         ·refine Zd rfl ?_ ?_<;>conv=>arg 3;whnf
          ·refine Zb (Za t0 t1 t2 t3 (w64 (x64.1+1)) s0.2.1 s0.2.2.1 x64.2 m1_0 m1_1 m1_2 m1_3 m1_4 m1_5) (hrc t0 t1 t2 t3 (w64 (x64.1+1)) s0.2.1 s0.2.2.1 x64.2 m1_0 m1_1 m1_2 m1_3 m1_4 m1_5) fun x67 hx67=>?_;conv=>arg 3;whnf
           exact Zc (ih _)
          ·refine Zb (Za t0 t1 t2 t3 (w64 (x64.1+1)) s0.2.1 s0.2.2.1 x64.2 m1_0 m1_1 m1_2 m1_3 m1_4 m1_5) (hrc t0 t1 t2 t3 (w64 (x64.1+1)) s0.2.1 s0.2.2.1 x64.2 m1_0 m1_1 m1_2 m1_3 m1_4 m1_5) fun x68 hx68=>?_;conv=>arg 3;whnf
           exact Zc (ih _)
        ·conv=>arg 3;whnf
         refine Zab rfl ?_;conv=>arg 3;whnf
         refine Zab rfl ?_;conv=>arg 3;whnf
         refine Zd rfl ?_ ?_<;>conv=>arg 3;whnf
         ·refine Zd rfl ?_ ?_<;>conv=>arg 3;whnf
          ·refine Zb (Za t0 t1 t2 t3 s0.1 x64.1 s0.2.2.1 x64.2 m1_0 m1_1 m1_2 m1_3 m1_4 m1_5) (hrc t0 t1 t2 t3 s0.1 x64.1 s0.2.2.1 x64.2 m1_0 m1_1 m1_2 m1_3 m1_4 m1_5) fun x69 hx69=>?_;conv=>arg 3;whnf
           exact Zc (ih _)
          ·refine Zb (Za t0 t1 t2 t3 s0.1 x64.1 s0.2.2.1 x64.2 m1_0 m1_1 m1_2 m1_3 m1_4 m1_5) (hrc t0 t1 t2 t3 s0.1 x64.1 s0.2.2.1 x64.2 m1_0 m1_1 m1_2 m1_3 m1_4 m1_5) fun x70 hx70=>?_;conv=>arg 3;whnf
           exact Zc (ih _)
         ·refine Zd rfl ?_ ?_<;>conv=>arg 3;whnf
          ·refine Zb (Za t0 t1 t2 t3 (w64 (x64.1+1)) s0.2.1 s0.2.2.1 x64.2 m1_0 m1_1 m1_2 m1_3 m1_4 m1_5) (hrc t0 t1 t2 t3 (w64 (x64.1+1)) s0.2.1 s0.2.2.1 x64.2 m1_0 m1_1 m1_2 m1_3 m1_4 m1_5) fun x71 hx71=>?_;conv=>arg 3;whnf
           exact Zc (ih _)
          ·refine Zb (Za t0 t1 t2 t3 (w64 (x64.1+1)) s0.2.1 s0.2.2.1 x64.2 m1_0 m1_1 m1_2 m1_3 m1_4 m1_5) (hrc t0 t1 t2 t3 (w64 (x64.1+1)) s0.2.1 s0.2.2.1 x64.2 m1_0 m1_1 m1_2 m1_3 m1_4 m1_5) fun x72 hx72=>?_;conv=>arg 3;whnf
           exact Zc (ih _)
theorem Zc5 (rc:Int→Int→Int→(Int→Int→Option Int)→(List Int)→Option (List Int)) (hrc:∀(t0:Bool) (t1:Bool) (t2:Bool) (t3:Bool) (b:Int) (c:Int) (d:Int) (m0_0:(List Int)) (m1_0:Int) (m1_1:Int) (m1_2:(List ZQ)) (m1_3:(List ZL)) (m1_4:(List Zn)) (m1_5:(List Zm)) (r:(List Int)),rc b c d (fun z0 z1=>Zl z0 z1 m1_4) m0_0=some r→evW ctx 40 [(.sl 0 1),(.d (Zf b)),(.d (Zf c)),(.d (Zf d)),(.fn 16 [(.ptr 1 0)])] [(.arr 1 (List.map Zf m0_0)),(.cells [(.d (Zf m1_0)),(.d (Zf m1_1)),(.d (D.list t0 (List.map ZU m1_2))),(.d (D.list t1 (List.map ZR m1_3))),(.d (D.list t2 (List.map Zw m1_4))),(.d (D.list t3 (List.map Zq m1_5)))])]=some ((Za t0 t1 t2 t3 b c d m0_0 m1_0 m1_1 m1_2 m1_3 m1_4 m1_5) r)) (t0:Bool) (t1:Bool) (t2:Bool) (t3:Bool) (b:Int) (c:Int) (d:Int) (m0_0:(List Int)) (m1_0:Int) (m1_1:Int) (m1_2:(List ZQ)) (m1_3:(List ZL)) (m1_4:(List Zn)) (m1_5:(List Zm)):∀r,(Zaf rc b c d (fun z0 z1=>Zl z0 z1 m1_4) m0_0)=some r→evW ctx 40 [(.sl 0 1),(.d (Zf b)),(.d (Zf c)),(.d (Zf d)),(.fn 16 [(.ptr 1 0)])] [(.arr 1 (List.map Zf m0_0)),(.cells [(.d (Zf m1_0)),(.d (Zf m1_1)),(.d (D.list t0 (List.map ZU m1_2))),(.d (D.list t1 (List.map ZR m1_3))),(.d (D.list t2 (List.map Zw m1_4))),(.d (D.list t3 (List.map Zq m1_5)))])]=some ((Za t0 t1 t2 t3 b c d m0_0 m1_0 m1_1 m1_2 m1_3 m1_4 m1_5) r):=by
 show ZV _ (fun r rhs=>rhs=some ((Za t0 t1 t2 t3 b c d m0_0 m1_0 m1_1 m1_2 m1_3 m1_4 m1_5) r)) _
 unfold Zaf
 rw[Ze4 ctx 40 Ztf _ _ rfl rfl]
 conv=>arg 3;whnf
 refine Zb _ (Zc2 hrc _) fun r219 hr219=>?_;conv=>arg 3;whnf
 exact Ze rfl
theorem ZbA:∀(n:Nat) (t0:Bool) (t1:Bool) (t2:Bool) (t3:Bool) (b:Int) (c:Int) (d:Int) (m0_0:(List Int)) (m1_0:Int) (m1_1:Int) (m1_2:(List ZQ)) (m1_3:(List ZL)) (m1_4:(List Zn)) (m1_5:(List Zm)) (r:(List Int)),ZP n b c d (fun z0 z1=>Zl z0 z1 m1_4) m0_0=some r→evW ctx 40 [(.sl 0 1),(.d (Zf b)),(.d (Zf c)),(.d (Zf d)),(.fn 16 [(.ptr 1 0)])] [(.arr 1 (List.map Zf m0_0)),(.cells [(.d (Zf m1_0)),(.d (Zf m1_1)),(.d (D.list t0 (List.map ZU m1_2))),(.d (D.list t1 (List.map ZR m1_3))),(.d (D.list t2 (List.map Zw m1_4))),(.d (D.list t3 (List.map Zq m1_5)))])]=some ((Za t0 t1 t2 t3 b c d m0_0 m1_0 m1_1 m1_2 m1_3 m1_4 m1_5) r)
  | 0,t0,t1,t2,t3,b,c,d,m0_0,m1_0,m1_1,m1_2,m1_3,m1_4,m1_5,r,h=>by cases h
  | n+1,t0,t1,t2,t3,b,c,d,m0_0,m1_0,m1_1,m1_2,m1_3,m1_4,m1_5,r,h=>Zc5 (ZP n) (ZbA n) t0 t1 t2 t3 b c d m0_0 m1_0 m1_1 m1_2 m1_3 m1_4 m1_5 r h
theorem Zdl {t0:Bool}{t1:Bool}{t2:Bool}{t3:Bool}{b:Int}{c:Int}{d:Int}{m0_0:(List Int)}{m1_0:Int}{m1_1:Int}{m1_2:(List ZQ)}{m1_3:(List ZL)}{m1_4:(List Zn)}{m1_5:(List Zm)}:∀r,ZcF b c d (fun z0 z1=>Zl z0 z1 m1_4) m0_0=some r→evW ctx 40 [(.sl 0 1),(.d (Zf b)),(.d (Zf c)),(.d (Zf d)),(.fn 16 [(.ptr 1 0)])] [(.arr 1 (List.map Zf m0_0)),(.cells [(.d (Zf m1_0)),(.d (Zf m1_1)),(.d (D.list t0 (List.map ZU m1_2))),(.d (D.list t1 (List.map ZR m1_3))),(.d (D.list t2 (List.map Zw m1_4))),(.d (D.list t3 (List.map Zq m1_5)))])]=some ((Za t0 t1 t2 t3 b c d m0_0 m1_0 m1_1 m1_2 m1_3 m1_4 m1_5) r):=fun r h=>by
  obtain⟨n,hn⟩:=ZsD h
  exact ZbA n t0 t1 t2 t3 b c d m0_0 m1_0 m1_1 m1_2 m1_3 m1_4 m1_5 r hn
def ZbO (t0:Bool) (t1:Bool) (t2:Bool) (t3:Bool) (m0_0:(List Int)) (m1_0:Int) (m1_1:Int) (m1_2:(List ZQ)) (m1_3:(List ZL)) (m1_4:(List Zn)) (m1_5:(List Zm)):(List Int)→V×Zi
  | r=>((.d (D.tup [])),[(.arr 1 (List.map Zf r)),(.cells [(.d (Zf m1_0)),(.d (Zf m1_1)),(.d (D.list t0 (List.map ZU m1_2))),(.d (D.list t1 (List.map ZR m1_3))),(.d (D.list t2 (List.map Zw m1_4))),(.d (D.list t3 (List.map Zq m1_5)))])])
theorem Zdk {t0:Bool}{t1:Bool}{t2:Bool}{t3:Bool}{m0_0:(List Int)}{m1_0:Int}{m1_1:Int}{m1_2:(List ZQ)}{m1_3:(List ZL)}{m1_4:(List Zn)}{m1_5:(List Zm)}:∀r,(Zau (fun z0 z1=>Zl z0 z1 m1_4) m0_0)=some r→evW ctx 15 [(.sl 0 1),(.fn 16 [(.ptr 1 0)])] [(.arr 1 (List.map Zf m0_0)),(.cells [(.d (Zf m1_0)),(.d (Zf m1_1)),(.d (D.list t0 (List.map ZU m1_2))),(.d (D.list t1 (List.map ZR m1_3))),(.d (D.list t2 (List.map Zw m1_4))),(.d (D.list t3 (List.map Zq m1_5)))])]=some ((ZbO t0 t1 t2 t3 m0_0 m1_0 m1_1 m1_2 m1_3 m1_4 m1_5) r):=by
 show ZV _ (fun r rhs=>rhs=some ((ZbO t0 t1 t2 t3 m0_0 m1_0 m1_1 m1_2 m1_3 m1_4 m1_5) r)) _
 unfold Zau
 rw[Ze4 ctx 15 Zug _ _ rfl rfl]
 conv=>arg 3;whnf
 refine Zs (ZX _ _) ?_;conv=>arg 3;whnf
 refine Zp _ ZfY rfl fun x0 hx0=>?_;conv=>arg 3;whnf
 refine Zb _ Zdl fun x1 hx1=>?_;conv=>arg 3;whnf
 exact Ze rfl
def Zgy (r:(List Int)):D:=(D.list true (List.map Zf r))
def Zfr (t0:Bool) (t1:Bool) (t2:Bool) (t3:Bool) (a:Zt) (b:Int):(List Int)→Ex×List V×Zi
  | r=>(.exit 0,[(.ptr 0 0),(.sl 1 1)],[(.cells (dV t0 t1 t2 t3 a)),(.arr 1 (List.map Zf r))])
theorem ZhO {t0:Bool}{t1:Bool}{t2:Bool}{t3:Bool}{a:Zt}{b:Int}:∀(s1:Int×(List Int)) (r:(List Int)),lp (Zcu a b) s1=some r→lpW ctx 0 [1,2,5,12,13,14] [2,5] Zs4 [(.d (Zf b)),(.ptr 0 0),(.sl 1 1),(.d (D.list t2 (List.map Zw a.futures))),(.d (Zf (a.futures.length:Int))),(.d (Zf s1.1))] [(.cells (dV t0 t1 t2 t3 a)),(.arr 1 (List.map Zf s1.2))]=some ((Zfr t0 t1 t2 t3 a b) r):=by
 refine Zbc (Zfr t0 t1 t2 t3 a b) ?_
 intro s1 rcl ih
 show ZV _ _ (lpW _ _ _ _ _ _ _)
 unfold Zcu
 rw[Zbd]
 conv=>arg 3;whnf
 refine Zd rfl ?_ ?_<;>conv=>arg 3;whnf
 ·refine Zk rfl rfl fun x2 hx2=>?_;conv=>arg 3;whnf
  refine Zd rfl ?_ ?_<;>conv=>arg 3;whnf
  ·refine Zcv rfl ?_;conv=>arg 3;whnf
   refine Zd (Zg6 Zf s1.2 1) ?_ ?_
   ·conv=>arg 3;whnf
    refine Zs (Zg2 Zf s1.2 [s1.1]) ?_;conv=>arg 3;whnf
    exact Zc (ih _)
   ·exact Za0
  ·exact Zc (ih _)
 ·exact Ze rfl
theorem Zge {t0:Bool}{t1:Bool}{t2:Bool}{t3:Bool}{a:Zt}{b:Int}:∀r,(Zcm a b)=some r→evD ctx 6 [(.d (D.agg (dA t0 t1 t2 t3 a))),(.d (Zf b))]=some (Zgy r):=by
 show ZV _ (fun r rhs=>rhs=some (Zgy r)) _
 unfold Zcm
 rw[ZbC ctx 6 fn6 _ rfl rfl]
 conv=>arg 3;whnf
 refine Zp _ Zhl rfl fun x0 hx0=>?_;conv=>arg 3;whnf
 refine Zd rfl ?_ ?_<;>conv=>arg 3;whnf
 ·exact Ze rfl
 ·refine Zs (ZX _ _) ?_;conv=>arg 3;whnf
  refine Zb _ (ZhO _) fun r3 hr3=>?_;conv=>arg 3;whnf
  refine Zb _ Zdk fun x4 hx4=>?_;conv=>arg 3;whnf
  exact Ze rfl
end Go.Proofs.YtnpidpcmpleiaaaDoor
namespace Go.Proofs.YtnpidpcmpleiaaaDoor
open Go Go.Proofs.YtnpidpcmpleiaaaDoorE
set_option linter.unusedVariables false
set_option linter.unusedSimpArgs false
def Zh2 (r:(List Int)):D:=(D.list true (List.map Zf r))
def Zf9 (t0:Bool) (t1:Bool) (t2:Bool) (t3:Bool) (a:Zt) (b:Int):(List Int)→Ex×List V×Zi
  | r=>(.exit 0,[(.d (Zf b)),(.ptr 0 0),(.sl 1 1)],[(.cells (dV t0 t1 t2 t3 a)),(.arr 1 (List.map Zf r))])
theorem ZiK {t0:Bool}{t1:Bool}{t2:Bool}{t3:Bool}{a:Zt}{b:Int}:∀(s1:Int×(List Int)) (r:(List Int)),lp (Zei a b) s1=some r→lpW ctx 0 [1,2,5,14,15,16] [1,2,5] ZsS [(.d (Zf b)),(.ptr 0 0),(.sl 1 1),(.d (D.list t1 (List.map ZR a.edges))),(.d (Zf (a.edges.length:Int))),(.d (Zf s1.1))] [(.cells (dV t0 t1 t2 t3 a)),(.arr 1 (List.map Zf s1.2))]=some ((Zf9 t0 t1 t2 t3 a b) r):=by
 refine Zbc (Zf9 t0 t1 t2 t3 a b) ?_
 intro s1 rcl ih
 show ZV _ _ (lpW _ _ _ _ _ _ _)
 unfold Zei
 rw[Zbd]
 conv=>arg 3;whnf
 refine Zd rfl ?_ ?_<;>conv=>arg 3;whnf
 ·refine Zk rfl rfl fun x2 hx2=>?_;conv=>arg 3;whnf
  refine Zd rfl ?_ ?_<;>conv=>arg 3;whnf
  ·refine Zcv rfl ?_;conv=>arg 3;whnf
   refine Zd (Zg6 Zf s1.2 1) ?_ ?_
   ·conv=>arg 3;whnf
    refine Zs (Zg2 Zf s1.2 [x2.src]) ?_;conv=>arg 3;whnf
    exact Zc (ih _)
   ·exact Za0
  ·exact Zc (ih _)
 ·exact Ze rfl
def Zgj (t0:Bool) (t1:Bool) (t2:Bool) (t3:Bool) (a:Zt) (x4:(List Int)):(List Int)→Ex×List V×Zi
  | r=>(.exit 2,[(.sl 0 1)],[(.arr 1 (List.map Zf r))])
theorem ZiH {t0:Bool}{t1:Bool}{t2:Bool}{t3:Bool}{a:Zt}{x4:(List Int)}:∀(s5:Int×(List Int)) (r:(List Int)),lp (Zej a x4) s5=some r→lpW ctx 0 [2,5,32,33,34] [5] Zs9 [(.ptr 0 0),(.sl 1 1),(.d (D.list true (List.map Zf x4))),(.d (Zf (x4.length:Int))),(.d (Zf s5.1))] [(.cells (dV t0 t1 t2 t3 a)),(.arr 1 (List.map Zf s5.2))]=some ((Zgj t0 t1 t2 t3 a x4) r):=by
 refine Zbc (Zgj t0 t1 t2 t3 a x4) ?_
 intro s5 rcl ih
 show ZV _ _ (lpW _ _ _ _ _ _ _)
 unfold Zej
 rw[Zbd]
 conv=>arg 3;whnf
 refine Zd rfl ?_ ?_<;>conv=>arg 3;whnf
 ·refine Zk rfl rfl fun x6 hx6=>?_;conv=>arg 3;whnf
  refine Zk rfl rfl fun x7 hx7=>?_;conv=>arg 3;whnf
  refine Zcv rfl ?_;conv=>arg 3;whnf
  refine Zd (Zg6 Zf s5.2 1) ?_ ?_
  ·conv=>arg 3;whnf
   refine Zs (Zg2 Zf s5.2 [x7.maker]) ?_;conv=>arg 3;whnf
   exact Zc (ih _)
  ·exact Za0
 ·exact Ze rfl
theorem Zkg {t0:Bool}{t1:Bool}{t2:Bool}{t3:Bool}{a:Zt}{b:Int}:∀r,(ZdD a b)=some r→evD ctx 8 [(.d (D.agg (dA t0 t1 t2 t3 a))),(.d (Zf b))]=some (Zh2 r):=by
 show ZV _ (fun r rhs=>rhs=some (Zh2 r)) _
 unfold ZdD
 rw[ZbC ctx 8 fn8 _ rfl rfl]
 conv=>arg 3;whnf
 refine Zp _ Zhl rfl fun x0 hx0=>?_;conv=>arg 3;whnf
 refine Zd rfl ?_ ?_<;>conv=>arg 3;whnf
 ·exact Ze rfl
 ·refine Zs (ZX _ _) ?_;conv=>arg 3;whnf
  refine Zb _ (ZiK _) fun r3 hr3=>?_;conv=>arg 3;whnf
  refine Zp _ Zge rfl fun x4 hx4=>?_;conv=>arg 3;whnf
  refine Zs (ZX _ _) ?_;conv=>arg 3;whnf
  refine Zb _ (ZiH _) fun r8 hr8=>?_;conv=>arg 3;whnf
  exact Ze rfl
def Zis (r:(Int×Bool)):D:=(D.tup [(Zf r.1),(D.bool r.2)])
def ZgR (a:Int):(Int⊕Unit)→Ex×List V×Zi
  | (.inl r)=>(.ret,[(.d (Zf r)),(.d (D.bool true))],[])
  | (.inr r)=>(.exit 0,[.bad,.bad],[])
theorem Zjj {a:Int}:∀(s0:Int×Int) (r:(Int⊕Unit)),lp (Zb2 a) s0=some r→lpW ctx 0 [0,4,5] [2,3] Zrz [(.d (Zf a)),(.d (Zf s0.1)),(.d (Zf s0.2))] []=some ((ZgR a) r):=by
 refine Zbc (ZgR a) ?_
 intro s0 rcl ih
 show ZV _ _ (lpW _ _ _ _ _ _ _)
 unfold Zb2
 rw[Zbd]
 conv=>arg 3;whnf
 refine Zd rfl ?_ ?_<;>conv=>arg 3;whnf
 ·refine Zd rfl ?_ ?_<;>conv=>arg 3;whnf
  ·exact Ze rfl
  ·exact Zc (ih _)
 ·exact Ze rfl
theorem ZkP {a:Int}:∀r,(Zfb a)=some r→evD ctx 42 [(.d (Zf a))]=some (Zis r):=by
 show ZV _ (fun r rhs=>rhs=some (Zis r)) _
 unfold Zfb
 rw[ZbC ctx 42 ZuA _ rfl rfl]
 conv=>arg 3;whnf
 refine Zb _ (Zjj _) fun r1 hr1=>?_
 clear hr1
 rcases r1 with r1 | r1
 ·conv=>arg 3;whnf
  exact Ze rfl
 ·conv=>arg 3;whnf
  exact Ze rfl
def Zhx (r:Bool):D:=(D.bool r)
theorem Zkj {t0:Bool}{t1:Bool}{t2:Bool}{t3:Bool}{a:Zt}:∀r,(ZeF a)=some r→evD ctx 17 [(.d (D.agg (dA t0 t1 t2 t3 a)))]=some (Zhx r):=by
 show ZV _ (fun r rhs=>rhs=some (Zhx r)) _
 unfold ZeF
 rw[ZbC ctx 17 Zuz _ rfl rfl]
 conv=>arg 3;whnf
 refine Zp _ ZkP rfl fun x0 hx0=>?_;conv=>arg 3;whnf
 refine Zd rfl ?_ ?_<;>conv=>arg 3;whnf
 ·refine Zd rfl ?_ ?_<;>conv=>arg 3;whnf
  ·refine Zd rfl ?_ ?_<;>conv=>arg 3;whnf
   ·refine Zd rfl ?_ ?_<;>conv=>arg 3;whnf
    ·exact Ze rfl
    ·exact Ze rfl
   ·exact Ze rfl
  ·exact Ze rfl
 ·exact Ze rfl
def Zhj (r:Bool):D:=(D.bool r)
def ZfW (t0:Bool) (t1:Bool) (t2:Bool) (t3:Bool) (a:Zt):(Unit⊕Unit)→Ex×List V×Zi
  | (.inl r)=>(.ret,[(.d (D.bool false))],[])
  | (.inr r)=>(.exit 0,[.bad],[])
theorem Zil {t0:Bool}{t1:Bool}{t2:Bool}{t3:Bool}{a:Zt}:∀(s0:Int) (r:(Unit⊕Unit)),lp (ZcP a) s0=some r→lpW ctx 0 [1,3] [2] ZqT [(.ptr 0 0),(.d (Zf s0))] [(.cells (dV t0 t1 t2 t3 a))]=some ((ZfW t0 t1 t2 t3 a) r):=by
 refine Zbc (ZfW t0 t1 t2 t3 a) ?_
 intro s0 rcl ih
 show ZV _ _ (lpW _ _ _ _ _ _ _)
 unfold ZcP
 rw[Zbd]
 conv=>arg 3;whnf
 refine Zs (ZX _ _) ?_;conv=>arg 3;whnf
 refine Zd rfl ?_ ?_<;>conv=>arg 3;whnf
 ·refine Zk rfl rfl fun x1 hx1=>?_;conv=>arg 3;whnf
  refine Zd rfl ?_ ?_<;>conv=>arg 3;whnf
  ·exact Ze rfl
  ·refine Zd rfl ?_ ?_<;>conv=>arg 3;whnf
   ·exact Ze rfl
   ·refine Zd rfl ?_ ?_<;>conv=>arg 3;whnf
    ·exact Ze rfl
    ·refine Zd rfl ?_ ?_<;>conv=>arg 3;whnf
     ·exact Ze rfl
     ·refine Zd rfl ?_ ?_<;>conv=>arg 3;whnf
      ·exact Ze rfl
      ·refine Zd rfl ?_ ?_<;>conv=>arg 3;whnf
       ·exact Ze rfl
       ·exact Zc (ih _)
 ·exact Ze rfl
theorem ZjN {t0:Bool}{t1:Bool}{t2:Bool}{t3:Bool}{a:Zt}:∀r,(Zeh a)=some r→evD ctx 18 [(.d (D.agg (dA t0 t1 t2 t3 a)))]=some (Zhj r):=by
 show ZV _ (fun r rhs=>rhs=some (Zhj r)) _
 unfold Zeh
 rw[ZbC ctx 18 Zut _ rfl rfl]
 conv=>arg 3;whnf
 refine Zb _ (Zil _) fun r2 hr2=>?_
 clear hr2
 rcases r2 with r2 | r2
 ·conv=>arg 3;whnf
  exact Ze rfl
 ·conv=>arg 3;whnf
  exact Ze rfl
def ZhL (r:Bool):D:=(D.bool r)
theorem ZdJ {t0:Bool}{t1:Bool}{t2:Bool}{t3:Bool}{a:Zt}{b:Int}:∀r,(ZcL a b)=some r→evD ctx 43 [(.d (D.agg (dA t0 t1 t2 t3 a))),(.d (Zf b))]=some (ZhL r):=by
 show ZV _ (fun r rhs=>rhs=some (ZhL r)) _
 unfold ZcL
 rw[ZbC ctx 43 Zt1 _ rfl rfl]
 conv=>arg 3;whnf
 refine Zd rfl ?_ ?_<;>conv=>arg 3;whnf
 ·refine Zs (ZX _ _) ?_;conv=>arg 3;whnf
  refine Zd rfl ?_ ?_<;>conv=>arg 3;whnf
  ·exact Ze rfl
  ·exact Ze rfl
 ·exact Ze rfl
def Zhm (r:Bool):D:=(D.bool r)
def ZfL (t0:Bool) (t1:Bool) (t2:Bool) (t3:Bool) (a:Zt) (s0:Int) (x1:ZL):(Unit⊕Unit)→Ex×List V×Zi
  | (.inl r)=>(.ret,[(.ptr 0 0),(.d (D.bool false)),(.d (Zf s0))],[(.cells (dV t0 t1 t2 t3 a))])
  | (.inr r)=>(.exit 2,[(.ptr 0 0),.bad,(.d (Zf s0))],[(.cells (dV t0 t1 t2 t3 a))])
theorem Zim {t0:Bool}{t1:Bool}{t2:Bool}{t3:Bool}{a:Zt}{s0:Int}{x1:ZL}:∀(s4:Int) (r:(Unit⊕Unit)),lp (ZcQ a s0 x1) s4=some r→lpW ctx 0 [1,3,4,5] [1,2,3] Zry [(.ptr 0 0),(.d (Zf s0)),(.ptr 1 0),(.d (Zf s4))] [(.cells (dV t0 t1 t2 t3 a)),(.cells [(.d (Zf x1.src)),(.d (Zf x1.dst))])]=some ((ZfL t0 t1 t2 t3 a s0 x1) r):=by
 refine Zbc (ZfL t0 t1 t2 t3 a s0 x1) ?_
 intro s4 rcl ih
 show ZV _ _ (lpW _ _ _ _ _ _ _)
 unfold ZcQ
 rw[Zbd]
 conv=>arg 3;whnf
 refine Zd rfl ?_ ?_<;>conv=>arg 3;whnf
 ·refine Zk rfl rfl fun x5 hx5=>?_;conv=>arg 3;whnf
  refine Zd rfl ?_ ?_<;>conv=>arg 3;whnf
  ·refine Zg (Za4 rfl hx5) ?_;conv=>arg 3;whnf
   refine Zd rfl ?_ ?_<;>conv=>arg 3;whnf
   ·exact Ze rfl
   ·exact Zc (ih _)
  ·exact Zc (ih _)
 ·exact Ze rfl
def ZfQ (t0:Bool) (t1:Bool) (t2:Bool) (t3:Bool) (a:Zt):(Unit⊕Unit)→Ex×List V×Zi
  | (.inl r)=>(.ret,[(.d (D.bool false))],[])
  | (.inr r)=>(.exit 0,[.bad],[])
theorem Zio {t0:Bool}{t1:Bool}{t2:Bool}{t3:Bool}{a:Zt}:∀(s0:Int) (r:(Unit⊕Unit)),lp (ZcS a) s0=some r→lpW ctx 0 [1,3] [2] Zqn [(.ptr 0 0),(.d (Zf s0))] [(.cells (dV t0 t1 t2 t3 a))]=some ((ZfQ t0 t1 t2 t3 a) r):=by
 refine Zbc (ZfQ t0 t1 t2 t3 a) ?_
 intro s0 rcl ih
 show ZV _ _ (lpW _ _ _ _ _ _ _)
 unfold ZcS
 rw[Zbd]
 conv=>arg 3;whnf
 refine Zs (ZX _ _) ?_;conv=>arg 3;whnf
 refine Zd rfl ?_ ?_<;>conv=>arg 3;whnf
 ·refine Zk rfl rfl fun x1 hx1=>?_;conv=>arg 3;whnf
  refine Zp _ ZdJ rfl fun x2 hx2=>?_;conv=>arg 3;whnf
  refine Zd rfl ?_ ?_<;>conv=>arg 3;whnf
  ·refine Zp _ ZdJ rfl fun x3 hx3=>?_;conv=>arg 3;whnf
   refine Zd rfl ?_ ?_<;>conv=>arg 3;whnf
   ·refine Zd rfl ?_ ?_<;>conv=>arg 3;whnf
    ·exact Ze rfl
    ·refine Zb _ (Zim _) fun r6 hr6=>?_
     clear hr6
     rcases r6 with r6 | r6
     ·conv=>arg 3;whnf
      exact Ze rfl
     ·conv=>arg 3;whnf
      exact Zc (ih _)
   ·exact Ze rfl
  ·exact Ze rfl
 ·exact Ze rfl
theorem ZjM {t0:Bool}{t1:Bool}{t2:Bool}{t3:Bool}{a:Zt}:∀r,(Zef a)=some r→evD ctx 19 [(.d (D.agg (dA t0 t1 t2 t3 a)))]=some (Zhm r):=by
 show ZV _ (fun r rhs=>rhs=some (Zhm r)) _
 unfold Zef
 rw[ZbC ctx 19 Ztd _ rfl rfl]
 conv=>arg 3;whnf
 refine Zb _ (Zio _) fun r7 hr7=>?_
 clear hr7
 rcases r7 with r7 | r7
 ·conv=>arg 3;whnf
  exact Ze rfl
 ·conv=>arg 3;whnf
  exact Ze rfl
def Zgh (r:Bool):D:=(D.bool r)
def Zfg (t0:Bool) (t1:Bool) (t2:Bool) (t3:Bool) (a:Zt) (s0:Int) (x1:Zn):(Unit⊕Unit)→Ex×List V×Zi
  | (.inl r)=>(.ret,[(.ptr 0 0),(.d (D.bool false)),(.d (Zf s0))],[(.cells (dV t0 t1 t2 t3 a))])
  | (.inr r)=>(.exit 2,[(.ptr 0 0),.bad,(.d (Zf s0))],[(.cells (dV t0 t1 t2 t3 a))])
theorem Zhv {t0:Bool}{t1:Bool}{t2:Bool}{t3:Bool}{a:Zt}{s0:Int}{x1:Zn}:∀(s5:Int) (r:(Unit⊕Unit)),lp (Zcg a s0 x1) s5=some r→lpW ctx 0 [1,3,4,5] [1,2,3] Zru [(.ptr 0 0),(.d (Zf s0)),(.ptr 1 0),(.d (Zf s5))] [(.cells (dV t0 t1 t2 t3 a)),(.cells [(.d (Zf x1.maker)),(.d (Zf x1.user)),(.d (Zf x1.pos))])]=some ((Zfg t0 t1 t2 t3 a s0 x1) r):=by
 refine Zbc (Zfg t0 t1 t2 t3 a s0 x1) ?_
 intro s5 rcl ih
 show ZV _ _ (lpW _ _ _ _ _ _ _)
 unfold Zcg
 rw[Zbd]
 conv=>arg 3;whnf
 refine Zd rfl ?_ ?_<;>conv=>arg 3;whnf
 ·refine Zk rfl rfl fun x6 hx6=>?_;conv=>arg 3;whnf
  refine Zd rfl ?_ ?_<;>conv=>arg 3;whnf
  ·refine Zg (Za4 rfl hx6) ?_;conv=>arg 3;whnf
   refine Zd rfl ?_ ?_<;>conv=>arg 3;whnf
   ·exact Ze rfl
   ·exact Zc (ih _)
  ·exact Zc (ih _)
 ·exact Ze rfl
def Ze2 (t0:Bool) (t1:Bool) (t2:Bool) (t3:Bool) (a:Zt):(Unit⊕Unit)→Ex×List V×Zi
  | (.inl r)=>(.ret,[(.d (D.bool false))],[])
  | (.inr r)=>(.exit 0,[.bad],[])
theorem Zhq {t0:Bool}{t1:Bool}{t2:Bool}{t3:Bool}{a:Zt}:∀(s0:Int) (r:(Unit⊕Unit)),lp (Zch a) s0=some r→lpW ctx 0 [1,3] [2] Zrn [(.ptr 0 0),(.d (Zf s0))] [(.cells (dV t0 t1 t2 t3 a))]=some ((Ze2 t0 t1 t2 t3 a) r):=by
 refine Zbc (Ze2 t0 t1 t2 t3 a) ?_
 intro s0 rcl ih
 show ZV _ _ (lpW _ _ _ _ _ _ _)
 unfold Zch
 rw[Zbd]
 conv=>arg 3;whnf
 refine Zs (ZX _ _) ?_;conv=>arg 3;whnf
 refine Zd rfl ?_ ?_<;>conv=>arg 3;whnf
 ·refine Zk rfl rfl fun x1 hx1=>?_;conv=>arg 3;whnf
  refine Zp _ ZdJ rfl fun x2 hx2=>?_;conv=>arg 3;whnf
  refine Zd rfl ?_ ?_<;>conv=>arg 3;whnf
  ·refine Zp _ ZdJ rfl fun x3 hx3=>?_;conv=>arg 3;whnf
   refine Zd rfl ?_ ?_<;>conv=>arg 3;whnf
   ·refine Zd rfl ?_ ?_<;>conv=>arg 3;whnf
    ·exact Ze rfl
    ·refine Zd rfl ?_ ?_<;>conv=>arg 3;whnf
     ·exact Ze rfl
     ·refine Zk rfl rfl fun x4 hx4=>?_;conv=>arg 3;whnf
      refine Zd rfl ?_ ?_<;>conv=>arg 3;whnf
      ·exact Ze rfl
      ·refine Zb _ (Zhv _) fun r7 hr7=>?_
       clear hr7
       rcases r7 with r7 | r7
       ·conv=>arg 3;whnf
        exact Ze rfl
       ·conv=>arg 3;whnf
        exact Zc (ih _)
   ·exact Ze rfl
  ·exact Ze rfl
 ·exact Ze rfl
theorem ZiL {t0:Bool}{t1:Bool}{t2:Bool}{t3:Bool}{a:Zt}:∀r,(ZdI a)=some r→evD ctx 20 [(.d (D.agg (dA t0 t1 t2 t3 a)))]=some (Zgh r):=by
 show ZV _ (fun r rhs=>rhs=some (Zgh r)) _
 unfold ZdI
 rw[ZbC ctx 20 ZtO _ rfl rfl]
 conv=>arg 3;whnf
 refine Zb _ (Zhq _) fun r8 hr8=>?_
 clear hr8
 rcases r8 with r8 | r8
 ·conv=>arg 3;whnf
  exact Ze rfl
 ·conv=>arg 3;whnf
  exact Ze rfl
def ZiC (r:Bool):D:=(D.bool r)
def Zgx (t0:Bool) (t1:Bool) (t2:Bool) (t3:Bool) (t4:Bool) (a:Zt) (b:(List Int)):(Unit⊕Unit)→Ex×List V×Zi
  | (.inl r)=>(.ret,[(.d (D.list t4 (List.map Zf b))),(.d (D.bool false))],[])
  | (.inr r)=>(.exit 0,[(.d (D.list t4 (List.map Zf b))),.bad],[])
theorem Zjd {t0:Bool}{t1:Bool}{t2:Bool}{t3:Bool}{t4:Bool}{a:Zt}{b:(List Int)}:∀(s0:Int) (r:(Unit⊕Unit)),lp (Zdx a b) s0=some r→lpW ctx 0 [1,2,5] [1,4] Zql [(.d (D.list t4 (List.map Zf b))),(.ptr 0 0),(.d (Zf s0))] [(.cells (dV t0 t1 t2 t3 a))]=some ((Zgx t0 t1 t2 t3 t4 a b) r):=by
 refine Zbc (Zgx t0 t1 t2 t3 t4 a b) ?_
 intro s0 rcl ih
 show ZV _ _ (lpW _ _ _ _ _ _ _)
 unfold Zdx
 rw[Zbd]
 conv=>arg 3;whnf
 refine Zs (ZX _ _) ?_;conv=>arg 3;whnf
 refine Zd rfl ?_ ?_<;>conv=>arg 3;whnf
 ·refine Zk rfl rfl fun x1 hx1=>?_;conv=>arg 3;whnf
  refine Zp _ ZdJ rfl fun x2 hx2=>?_;conv=>arg 3;whnf
  refine Zd rfl ?_ ?_<;>conv=>arg 3;whnf
  ·refine Zd rfl ?_ ?_<;>conv=>arg 3;whnf
   ·refine Zk rfl rfl fun x3 hx3=>?_;conv=>arg 3;whnf
    refine Zg (Za4 rfl hx1) ?_;conv=>arg 3;whnf
    refine Zd rfl ?_ ?_<;>conv=>arg 3;whnf
    ·exact Ze rfl
    ·exact Zc (ih _)
   ·exact Zc (ih _)
  ·exact Ze rfl
 ·exact Ze rfl
theorem ZhZ {t0:Bool}{t1:Bool}{t2:Bool}{t3:Bool}{t4:Bool}{a:Zt}{b:(List Int)}:∀r,(Zer a b)=some r→evD ctx 44 [(.d (D.agg (dA t0 t1 t2 t3 a))),(.d (D.list t4 (List.map Zf b)))]=some (ZiC r):=by
 show ZV _ (fun r rhs=>rhs=some (ZiC r)) _
 unfold Zer
 rw[ZbC ctx 44 Zuc _ rfl rfl]
 conv=>arg 3;whnf
 refine Zb _ (Zjd _) fun r4 hr4=>?_
 clear hr4
 rcases r4 with r4 | r4
 ·conv=>arg 3;whnf
  exact Ze rfl
 ·conv=>arg 3;whnf
  refine Zs (ZX _ _) ?_;conv=>arg 3;whnf
  refine Zd rfl ?_ ?_<;>conv=>arg 3;whnf
  ·exact Ze rfl
  ·exact Ze rfl
def ZiA (r:Bool):D:=(D.bool r)
def ZgI (t0:Bool) (a:(List Int)) (b:Int):(Unit⊕Unit)→Ex×List V×Zi
  | (.inl r)=>(.ret,[(.d (D.bool true))],[])
  | (.inr r)=>(.exit 0,[.bad],[])
theorem Zjl {t0:Bool}{a:(List Int)}{b:Int}:∀(s0:Int) (r:(Unit⊕Unit)),lp (Zdw a b) s0=some r→lpW ctx 0 [0,1,5] [4] Zq9 [(.d (D.list t0 (List.map Zf a))),(.d (Zf b)),(.d (Zf s0))] []=some ((ZgI t0 a b) r):=by
 refine Zbc (ZgI t0 a b) ?_
 intro s0 rcl ih
 show ZV _ _ (lpW _ _ _ _ _ _ _)
 unfold Zdw
 rw[Zbd]
 conv=>arg 3;whnf
 refine Zs (ZX _ _) ?_;conv=>arg 3;whnf
 refine Zd rfl ?_ ?_<;>conv=>arg 3;whnf
 ·refine Zk rfl rfl fun x1 hx1=>?_;conv=>arg 3;whnf
  refine Zd rfl ?_ ?_<;>conv=>arg 3;whnf
  ·exact Ze rfl
  ·exact Zc (ih _)
 ·exact Ze rfl
theorem Zlb {t0:Bool}{a:(List Int)}{b:Int}:∀r,(Ze7 a b)=some r→evD ctx 45 [(.d (D.list t0 (List.map Zf a))),(.d (Zf b))]=some (ZiA r):=by
 show ZV _ (fun r rhs=>rhs=some (ZiA r)) _
 unfold Ze7
 rw[ZbC ctx 45 ZtV _ rfl rfl]
 conv=>arg 3;whnf
 refine Zb _ (Zjl _) fun r2 hr2=>?_
 clear hr2
 rcases r2 with r2 | r2
 ·conv=>arg 3;whnf
  exact Ze rfl
 ·conv=>arg 3;whnf
  exact Ze rfl
def ZfS (r:Bool):D:=(D.bool r)
def ZeH (t0:Bool) (t1:Bool) (t2:Bool) (t3:Bool) (a:Zt) (s0:Int) (x1:Zm):(Unit⊕Unit)→Ex×List V×Zi
  | (.inl r)=>(.ret,[(.ptr 0 0),(.d (D.bool false)),(.d (Zf s0))],[(.cells (dV t0 t1 t2 t3 a))])
  | (.inr r)=>(.exit 2,[(.ptr 0 0),.bad,(.d (Zf s0))],[(.cells (dV t0 t1 t2 t3 a))])
theorem Zhb {t0:Bool}{t1:Bool}{t2:Bool}{t3:Bool}{a:Zt}{s0:Int}{x1:Zm}:∀(s4:Int) (r:(Unit⊕Unit)),lp (Zb7 x1) s4=some r→lpW ctx 0 [1,3,4,5] [1,2,3] ZrE [(.ptr 0 0),(.d (Zf s0)),(.ptr 1 0),(.d (Zf s4))] [(.cells (dV t0 t1 t2 t3 a)),(.cells [(.d (D.list true (List.map Zf x1.ins))),(.d (D.list true (List.map Zf x1.outs)))])]=some ((ZeH t0 t1 t2 t3 a s0 x1) r):=by
 refine Zbc (ZeH t0 t1 t2 t3 a s0 x1) ?_
 intro s4 rcl ih
 show ZV _ _ (lpW _ _ _ _ _ _ _)
 unfold Zb7
 rw[Zbd]
 conv=>arg 3;whnf
 refine Zs (ZX _ _) ?_;conv=>arg 3;whnf
 refine Zd rfl ?_ ?_<;>conv=>arg 3;whnf
 ·refine Zk rfl rfl fun x5 hx5=>?_;conv=>arg 3;whnf
  refine Zp _ Zlb rfl fun x6 hx6=>?_;conv=>arg 3;whnf
  refine Zd rfl ?_ ?_<;>conv=>arg 3;whnf
  ·exact Ze rfl
  ·exact Zc (ih _)
 ·exact Ze rfl
def ZeI (t0:Bool) (t1:Bool) (t2:Bool) (t3:Bool) (a:Zt):(Unit⊕Unit)→Ex×List V×Zi
  | (.inl r)=>(.ret,[(.d (D.bool false))],[])
  | (.inr r)=>(.exit 0,[.bad],[])
theorem Zg7 {t0:Bool}{t1:Bool}{t2:Bool}{t3:Bool}{a:Zt}:∀(s0:Int) (r:(Unit⊕Unit)),lp (Zb8 a) s0=some r→lpW ctx 0 [1,3] [2] Zrs [(.ptr 0 0),(.d (Zf s0))] [(.cells (dV t0 t1 t2 t3 a))]=some ((ZeI t0 t1 t2 t3 a) r):=by
 refine Zbc (ZeI t0 t1 t2 t3 a) ?_
 intro s0 rcl ih
 show ZV _ _ (lpW _ _ _ _ _ _ _)
 unfold Zb8
 rw[Zbd]
 conv=>arg 3;whnf
 refine Zs (ZX _ _) ?_;conv=>arg 3;whnf
 refine Zd rfl ?_ ?_<;>conv=>arg 3;whnf
 ·refine Zk rfl rfl fun x1 hx1=>?_;conv=>arg 3;whnf
  refine Zp _ ZhZ rfl fun x2 hx2=>?_;conv=>arg 3;whnf
  refine Zd rfl ?_ ?_<;>conv=>arg 3;whnf
  ·refine Zp _ ZhZ rfl fun x3 hx3=>?_;conv=>arg 3;whnf
   refine Zd rfl ?_ ?_<;>conv=>arg 3;whnf
   ·refine Zb _ (Zhb _) fun r7 hr7=>?_
    clear hr7
    rcases r7 with r7 | r7
    ·conv=>arg 3;whnf
     exact Ze rfl
    ·conv=>arg 3;whnf
     exact Zc (ih _)
   ·exact Ze rfl
  ·exact Ze rfl
 ·exact Ze rfl
theorem Zij {t0:Bool}{t1:Bool}{t2:Bool}{t3:Bool}{a:Zt}:∀r,(Zds a)=some r→evD ctx 21 [(.d (D.agg (dA t0 t1 t2 t3 a)))]=some (ZfS r):=by
 show ZV _ (fun r rhs=>rhs=some (ZfS r)) _
 unfold Zds
 rw[ZbC ctx 21 Zuf _ rfl rfl]
 conv=>arg 3;whnf
 refine Zb _ (Zg7 _) fun r8 hr8=>?_
 clear hr8
 rcases r8 with r8 | r8
 ·conv=>arg 3;whnf
  exact Ze rfl
 ·conv=>arg 3;whnf
  exact Ze rfl
def Zhn (r:Int):D:=(Zf r)
theorem ZjL {t0:Bool}{t1:Bool}{t2:Bool}{t3:Bool}{a:Zt}:∀r,(Zee a)=some r→evD ctx 9 [(.d (D.agg (dA t0 t1 t2 t3 a)))]=some (Zhn r):=by
 show ZV _ (fun r rhs=>rhs=some (Zhn r)) _
 unfold Zee
 rw[ZbC ctx 9 fn9 _ rfl rfl]
 conv=>arg 3;whnf
 refine Zs (ZX _ _) ?_;conv=>arg 3;whnf
 refine Zd rfl ?_ ?_<;>conv=>arg 3;whnf
 ·exact Ze rfl
 ·refine Zs (ZX _ _) ?_;conv=>arg 3;whnf
  refine Zd rfl ?_ ?_<;>conv=>arg 3;whnf
  ·exact Ze rfl
  ·refine Zs (ZX _ _) ?_;conv=>arg 3;whnf
   refine Zd rfl ?_ ?_<;>conv=>arg 3;whnf
   ·exact Ze rfl
   ·refine Zs (ZX _ _) ?_;conv=>arg 3;whnf
    refine Zd rfl ?_ ?_<;>conv=>arg 3;whnf
    ·exact Ze rfl
    ·refine Zs (ZX _ _) ?_;conv=>arg 3;whnf
     refine Zd rfl ?_ ?_<;>conv=>arg 3;whnf
     ·exact Ze rfl
     ·refine Zp _ Zkj rfl fun x0 hx0=>?_;conv=>arg 3;whnf
      refine Zd rfl ?_ ?_<;>conv=>arg 3;whnf
      ·refine Zp _ ZjN rfl fun x1 hx1=>?_;conv=>arg 3;whnf
       refine Zd rfl ?_ ?_<;>conv=>arg 3;whnf
       ·refine Zp _ ZjM rfl fun x2 hx2=>?_;conv=>arg 3;whnf
        refine Zd rfl ?_ ?_<;>conv=>arg 3;whnf
        ·refine Zp _ ZiL rfl fun x3 hx3=>?_;conv=>arg 3;whnf
         refine Zd rfl ?_ ?_<;>conv=>arg 3;whnf
         ·refine Zp _ Zij rfl fun x4 hx4=>?_;conv=>arg 3;whnf
          refine Zd rfl ?_ ?_<;>conv=>arg 3;whnf
          ·exact Ze rfl
          ·exact Ze rfl
         ·exact Ze rfl
        ·exact Ze rfl
       ·exact Ze rfl
      ·exact Ze rfl
def Zf6 (r:(List Int)):D:=(D.list true (List.map Zf r))
def Zfa (t0:Bool) (t1:Bool) (t2:Bool) (t3:Bool) (a:Zt) (b:Int) (s0:Int×(List Int)):(List Int)→Ex×List V×Zi
  | r=>(.exit 2,[(.d (Zf b)),(.ptr 0 0),(.sl 1 1),(.d (Zf s0.1))],[(.cells (dV t0 t1 t2 t3 a)),(.arr 1 (List.map Zf r))])
theorem Zhr {t0:Bool}{t1:Bool}{t2:Bool}{t3:Bool}{a:Zt}{b:Int}{s0:Int×(List Int)}:∀(s1:Int×(List Int)) (r:(List Int)),lp (ZbP a b s0) s1=some r→lpW ctx 0 [1,2,5,6,7] [1,2,5,6] ZrI [(.d (Zf b)),(.ptr 0 0),(.sl 1 1),(.d (Zf s0.1)),(.d (Zf s1.1))] [(.cells (dV t0 t1 t2 t3 a)),(.arr 1 (List.map Zf s1.2))]=some ((Zfa t0 t1 t2 t3 a b s0) r):=by
 refine Zbc (Zfa t0 t1 t2 t3 a b s0) ?_
 intro s1 rcl ih
 show ZV _ _ (lpW _ _ _ _ _ _ _)
 unfold ZbP
 rw[Zbd]
 conv=>arg 3;whnf
 refine Zs (ZX _ _) ?_;conv=>arg 3;whnf
 refine Zd rfl ?_ ?_<;>conv=>arg 3;whnf
 ·refine Zk rfl rfl fun x2 hx2=>?_;conv=>arg 3;whnf
  refine Zd rfl ?_ ?_<;>conv=>arg 3;whnf
  ·refine Zg (Za4 rfl hx2) ?_;conv=>arg 3;whnf
   refine Zd rfl ?_ ?_<;>conv=>arg 3;whnf
   ·refine Zcv rfl ?_;conv=>arg 3;whnf
    refine Zd (Zg6 Zf s1.2 1) ?_ ?_
    ·conv=>arg 3;whnf
     refine Zs (Zg2 Zf s1.2 [s1.1]) ?_;conv=>arg 3;whnf
     exact Zc (ih _)
    ·exact Za0
   ·exact Zc (ih _)
  ·exact Zc (ih _)
 ·exact Ze rfl
def Ze9 (t0:Bool) (t1:Bool) (t2:Bool) (t3:Bool) (a:Zt) (b:Int):(List Int)→Ex×List V×Zi
  | r=>(.exit 0,[(.sl 0 1)],[(.arr 1 (List.map Zf r))])
theorem Zhs {t0:Bool}{t1:Bool}{t2:Bool}{t3:Bool}{a:Zt}{b:Int}:∀(s0:Int×(List Int)) (r:(List Int)),lp (Zc1 a b) s0=some r→lpW ctx 0 [1,2,5,6] [5] Zq4 [(.d (Zf b)),(.ptr 0 0),(.sl 1 1),(.d (Zf s0.1))] [(.cells (dV t0 t1 t2 t3 a)),(.arr 1 (List.map Zf s0.2))]=some ((Ze9 t0 t1 t2 t3 a b) r):=by
 refine Zbc (Ze9 t0 t1 t2 t3 a b) ?_
 intro s0 rcl ih
 show ZV _ _ (lpW _ _ _ _ _ _ _)
 unfold Zc1
 rw[Zbd]
 conv=>arg 3;whnf
 refine Zd rfl ?_ ?_<;>conv=>arg 3;whnf
 ·refine Zb _ (Zhr _) fun r3 hr3=>?_;conv=>arg 3;whnf
  exact Zc (ih _)
 ·exact Ze rfl
theorem ZfM {t0:Bool}{t1:Bool}{t2:Bool}{t3:Bool}{a:Zt}{b:Int}:∀r,(Zdc a b)=some r→evD ctx 11 [(.d (D.agg (dA t0 t1 t2 t3 a))),(.d (Zf b))]=some (Zf6 r):=by
 show ZV _ (fun r rhs=>rhs=some (Zf6 r)) _
 unfold Zdc
 rw[ZbC ctx 11 Zul _ rfl rfl]
 conv=>arg 3;whnf
 refine Zb _ (Zhs _) fun r4 hr4=>?_;conv=>arg 3;whnf
 exact Ze rfl
def Zh3 (r:Bool):D:=(D.bool r)
def Zga (t0:Bool) (t1:Bool) (a:(List Int)) (b:(List Int)):(Unit⊕Unit)→Ex×List V×Zi
  | (.inl r)=>(.ret,[(.d (D.bool false))],[])
  | (.inr r)=>(.exit 0,[.bad],[])
theorem ZiT {t0:Bool}{t1:Bool}{a:(List Int)}{b:(List Int)}:∀(s0:Int) (r:(Unit⊕Unit)),lp (Zc9 a b) s0=some r→lpW ctx 0 [0,1,5] [4] Zrv [(.d (D.list t0 (List.map Zf a))),(.d (D.list t1 (List.map Zf b))),(.d (Zf s0))] []=some ((Zga t0 t1 a b) r):=by
 refine Zbc (Zga t0 t1 a b) ?_
 intro s0 rcl ih
 show ZV _ _ (lpW _ _ _ _ _ _ _)
 unfold Zc9
 rw[Zbd]
 conv=>arg 3;whnf
 refine Zs (ZX _ _) ?_;conv=>arg 3;whnf
 refine Zd rfl ?_ ?_<;>conv=>arg 3;whnf
 ·refine Zk rfl rfl fun x1 hx1=>?_;conv=>arg 3;whnf
  refine Zk rfl rfl fun x2 hx2=>?_;conv=>arg 3;whnf
  refine Zd rfl ?_ ?_<;>conv=>arg 3;whnf
  ·exact Ze rfl
  ·exact Zc (ih _)
 ·exact Ze rfl
theorem Zhh {t0:Bool}{t1:Bool}{a:(List Int)}{b:(List Int)}:∀r,(Zd4 a b)=some r→evD ctx 10 [(.d (D.list t0 (List.map Zf a))),(.d (D.list t1 (List.map Zf b)))]=some (Zh3 r):=by
 show ZV _ (fun r rhs=>rhs=some (Zh3 r)) _
 unfold Zd4
 rw[ZbC ctx 10 Ztj _ rfl rfl]
 conv=>arg 3;whnf
 refine Zs (ZX _ _) ?_;conv=>arg 3;whnf
 refine Zs (ZX _ _) ?_;conv=>arg 3;whnf
 refine Zd rfl ?_ ?_<;>conv=>arg 3;whnf
 ·exact Ze rfl
 ·refine Zb _ (ZiT _) fun r3 hr3=>?_
  clear hr3
  rcases r3 with r3 | r3
  ·conv=>arg 3;whnf
   exact Ze rfl
  ·conv=>arg 3;whnf
   exact Ze rfl
def Zho (r:(List Int)):D:=(D.list true (List.map Zf r))
def ZfZ (t0:Bool) (t1:Bool) (t2:Bool) (t3:Bool) (a:Zt) (b:Int):(List Int)→Ex×List V×Zi
  | r=>(.exit 0,[(.d (Zf b)),(.ptr 0 0),(.sl 1 1)],[(.cells (dV t0 t1 t2 t3 a)),(.arr 1 (List.map Zf r))])
theorem Zii {t0:Bool}{t1:Bool}{t2:Bool}{t3:Bool}{a:Zt}{b:Int}:∀(s0:Int×(List Int)) (r:(List Int)),lp (Zd3 a b) s0=some r→lpW ctx 0 [1,2,5,6] [1,2,5] Zqc [(.d (Zf b)),(.ptr 0 0),(.sl 1 1),(.d (Zf s0.1))] [(.cells (dV t0 t1 t2 t3 a)),(.arr 1 (List.map Zf s0.2))]=some ((ZfZ t0 t1 t2 t3 a b) r):=by
 refine Zbc (ZfZ t0 t1 t2 t3 a b) ?_
 intro s0 rcl ih
 show ZV _ _ (lpW _ _ _ _ _ _ _)
 unfold Zd3
 rw[Zbd]
 conv=>arg 3;whnf
 refine Zs (ZX _ _) ?_;conv=>arg 3;whnf
 refine Zd rfl ?_ ?_<;>conv=>arg 3;whnf
 ·refine Zk rfl rfl fun x1 hx1=>?_;conv=>arg 3;whnf
  refine Zd rfl ?_ ?_<;>conv=>arg 3;whnf
  ·refine Zg (Za4 rfl hx1) ?_;conv=>arg 3;whnf
   refine Zcv rfl ?_;conv=>arg 3;whnf
   refine Zd (Zg6 Zf s0.2 1) ?_ ?_
   ·conv=>arg 3;whnf
    refine Zs (Zg2 Zf s0.2 [x1.src]) ?_;conv=>arg 3;whnf
    exact Zc (ih _)
   ·exact Za0
  ·exact Zc (ih _)
 ·exact Ze rfl
def Zf2 (t0:Bool) (t1:Bool) (t2:Bool) (t3:Bool) (a:Zt) (x3:(List Int)):(List Int)→Ex×List V×Zi
  | r=>(.exit 2,[(.sl 0 1)],[(.arr 1 (List.map Zf r))])
theorem Zin {t0:Bool}{t1:Bool}{t2:Bool}{t3:Bool}{a:Zt}{x3:(List Int)}:∀(s4:Int×(List Int)) (r:(List Int)),lp (Zd2 a x3) s4=some r→lpW ctx 0 [2,5,7,8] [5] Zrr [(.ptr 0 0),(.sl 1 1),(.d (D.list true (List.map Zf x3))),(.d (Zf s4.1))] [(.cells (dV t0 t1 t2 t3 a)),(.arr 1 (List.map Zf s4.2))]=some ((Zf2 t0 t1 t2 t3 a x3) r):=by
 refine Zbc (Zf2 t0 t1 t2 t3 a x3) ?_
 intro s4 rcl ih
 show ZV _ _ (lpW _ _ _ _ _ _ _)
 unfold Zd2
 rw[Zbd]
 conv=>arg 3;whnf
 refine Zs (ZX _ _) ?_;conv=>arg 3;whnf
 refine Zd rfl ?_ ?_<;>conv=>arg 3;whnf
 ·refine Zk rfl rfl fun x5 hx5=>?_;conv=>arg 3;whnf
  refine Zk rfl rfl fun x6 hx6=>?_;conv=>arg 3;whnf
  refine Zcv rfl ?_;conv=>arg 3;whnf
  refine Zd (Zg6 Zf s4.2 1) ?_ ?_
  ·conv=>arg 3;whnf
   refine Zs (Zg2 Zf s4.2 [x6.maker]) ?_;conv=>arg 3;whnf
   exact Zc (ih _)
  ·exact Za0
 ·exact Ze rfl
theorem ZjK {t0:Bool}{t1:Bool}{t2:Bool}{t3:Bool}{a:Zt}{b:Int}:∀r,(Zec a b)=some r→evD ctx 12 [(.d (D.agg (dA t0 t1 t2 t3 a))),(.d (Zf b))]=some (Zho r):=by
 show ZV _ (fun r rhs=>rhs=some (Zho r)) _
 unfold Zec
 rw[ZbC ctx 12 ZtJ _ rfl rfl]
 conv=>arg 3;whnf
 refine Zb _ (Zii _) fun r2 hr2=>?_;conv=>arg 3;whnf
 refine Zp _ ZfM rfl fun x3 hx3=>?_;conv=>arg 3;whnf
 refine Zb _ (Zin _) fun r7 hr7=>?_;conv=>arg 3;whnf
 exact Ze rfl
def Zfs (r:Bool):D:=(D.bool r)
theorem ZhF {t0:Bool}{t1:Bool}{t2:Bool}{t3:Bool}{a:Zt}{b:Int}:∀r,(ZdR a b)=some r→evD ctx 3 [(.d (D.agg (dA t0 t1 t2 t3 a))),(.d (Zf b))]=some (Zfs r):=by
 show ZV _ (fun r rhs=>rhs=some (Zfs r)) _
 unfold ZdR
 rw[ZbC ctx 3 fn3 _ rfl rfl]
 conv=>arg 3;whnf
 refine Zp _ ZeO rfl fun x0 hx0=>?_;conv=>arg 3;whnf
 refine Zd rfl ?_ ?_<;>conv=>arg 3;whnf
 ·refine Zp _ Zlw rfl fun x1 hx1=>?_;conv=>arg 3;whnf
  refine Zd rfl ?_ ?_<;>conv=>arg 3;whnf
  ·refine Zb _ ZhA fun x2 hx2=>?_;conv=>arg 3;whnf
   refine Zp _ Zge rfl fun x3 hx3=>?_;conv=>arg 3;whnf
   refine Zb _ ZhA fun x4 hx4=>?_;conv=>arg 3;whnf
   refine Zp _ Zkg rfl fun x5 hx5=>?_;conv=>arg 3;whnf
   refine Zp _ ZjL rfl fun x6 hx6=>?_;conv=>arg 3;whnf
   refine Zd rfl ?_ ?_<;>conv=>arg 3;whnf
   ·refine Zs (ZX _ _) ?_;conv=>arg 3;whnf
    refine Zd rfl ?_ ?_<;>conv=>arg 3;whnf
    ·refine Zs (ZX _ _) ?_;conv=>arg 3;whnf
     refine Zd rfl ?_ ?_<;>conv=>arg 3;whnf
     ·exact Ze rfl
     ·exact Ze rfl
    ·exact Ze rfl
   ·refine Zp _ ZfM rfl fun x7 hx7=>?_;conv=>arg 3;whnf
    refine Zp _ Zhh rfl fun x8 hx8=>?_;conv=>arg 3;whnf
    refine Zd rfl ?_ ?_<;>conv=>arg 3;whnf
    ·refine Zp _ ZjK rfl fun x9 hx9=>?_;conv=>arg 3;whnf
     refine Zp _ Zhh rfl fun x10 hx10=>?_;conv=>arg 3;whnf
     refine Zd rfl ?_ ?_<;>conv=>arg 3;whnf
     ·exact Ze rfl
     ·exact Ze rfl
    ·exact Ze rfl
  ·refine Zp _ ZeO rfl fun x11 hx11=>?_;conv=>arg 3;whnf
   refine Zd rfl ?_ ?_<;>conv=>arg 3;whnf
   ·exact Ze rfl
   ·exact Ze rfl
 ·refine Zp _ ZeO rfl fun x12 hx12=>?_;conv=>arg 3;whnf
  refine Zd rfl ?_ ?_<;>conv=>arg 3;whnf
  ·exact Ze rfl
  ·exact Ze rfl
end Go.Proofs.YtnpidpcmpleiaaaDoor
namespace Go.Proofs.YtnpidpcmpleiaaaDoor
open Go Go.Proofs.YtnpidpcmpleiaaaDoorE
abbrev Zq3:List Lf×Bool:=([.int .i64],false)
abbrev Znz:List Lf×Bool:=([.int .i64,.int .i64,.sl true [.int .i64,.int .i64,.int .i64],.sl true [.int .i64,.int .i64],.sl true [.int .i64,.int .i64,.int .i64],.sl true [.sl false [.int .i64],.sl false [.int .i64]]],true)
end Go.Proofs.YtnpidpcmpleiaaaDoor
namespace Go.Proofs.YtnpidpcmpleiaaaDoor
open Go Go.Proofs.YtnpidpcmpleiaaaDoorE
set_option linter.unusedVariables false
set_option linter.unusedSimpArgs false
theorem ZlN (a:Zt) (b:Int):ZdR a b=some true:=by
 unfold ZdR
 simp only[Zeg,ZuH,Option.bind_some,cond_true]
 cases ha:few a with
 | false=>rfl
 | true=>
  have sa:=Zpz ha
  have sh:=sa.short
  have he:a.edges.length≤1000:=by have:=sa.e;omega
  have hf:a.futures.length≤1000:=by have:=sa.f;omega
  simp only[Zvb a sa,Option.bind_some,ZpH a sh,cond_true]
  by_cases hc:ZeC a=0
  ·obtain⟨r,h1,h2⟩:=Zl1 a sh hf hc b
   have g:=Zpd hc
   have e:=(Zlq g b).eq h2
   have hr:r.length≤1000:=Nat.le_trans (ZhP h2) hf
   have hfl:(Zmg a b r).length<9223372036854775808:=by
    unfold Zmg
    rw[List.length_append,List.length_map]
    have:=Zia (fun e:ZL=>e.dst==b) (fun _ e=>e.src) a.edges 0
    omega
   simp only[h1,Zsj a sh he hf hc b h2,Option.bind_some,hc,bne_self_eq_false,cond_false,Zj6 a hf b,Zpv a he hf g b h2,← e]
   rw[e,Zn6 r r (by omega),decide_eq_true rfl]
   simp only[Option.bind_some,cond_true]
   rw[Zn6 _ _ hfl,decide_eq_true rfl]
   rfl
  ·simp only[ZnR a sh hc b,Zpt a sh hc b,Option.bind_some,show(ZeC a != 0)=true by simpa using hc,cond_true]
   rfl
theorem Zm9 (xs:List D) (h:ZeW Znz.1 xs) (ys:List D) (k:ZeW Zq3.1 ys):∃H',evW ctx 3 (Zcf [ZnN Znz.2 xs,ZnN Zq3.2 ys]) []=some (.d (.bool true),H'):=by
 obtain⟨d,hd,okd⟩:=ZrZ h
 obtain⟨n,hn,okn⟩:=ZtY k
 show ∃H',evW ctx 3 [.d (D.agg xs),.d (ZnN false ys)] []=_
 rw[hd,hn]
 exact ZrS (ZhF true (ZlN d n))
end Go.Proofs.YtnpidpcmpleiaaaDoor
namespace Go.Proofs.YtnpidpcmpleiaaaDoor.LawDescFeeds
open Go.ChangeShapes Go.WideShapes Go.ChangeAt Go.RowKit Go.Proofs.YtnpidpcmpleiaaaDoorE
set_option linter.unusedVariables false
theorem own:ownKnob Tryd.prog.godebug=none:=by kernel_rfl
theorem Zpf:laidOutB Tryd.prog=true:=by kernel_rfl
def ZlH : List (String × DataW Unit) := [("math/bits.deBruijn32tab", Rows.laid_math_bits_deBruijn32tab), ("math/bits.deBruijn64tab", Rows.laid_math_bits_deBruijn64tab)]
theorem ZrB (os:Os) (args:Array Value):laidMetH Tryd.prog ZlH ((World.doorLaid Tryd.prog 19 os).forCall (fun _ _=>0) ⟨#[],args,[]⟩).memory:=
 laidMetH_of_parts3 (fuel:=8) (laidMet_of_run' 8 (by kernel_rfl) (by kernel_rfl)) (by kernel_rfl) (by kernel_rfl)
theorem ZqJ {W:World} (h:laidMetH Tryd.prog ZlH W):GOK Zx R0 W:=by
 intro g l hg
 unfold Zx at hg
 split at hg
 ·cases hg
  exact Zlo (t := 93) (N := 32) (e := 5) (k := .u8) h (by kernel_rfl) (n := "math/bits.deBruijn32tab") (by rw [show DataW.agg (ZiO Zs2) = Rows.laid_math_bits_deBruijn32tab by kernel_rfl]; simp [ZlH]) (by kernel_rfl) (by kernel_rfl) (by kernel_rfl) (by kernel_rfl) (by kernel_rfl) (by kernel_rfl) (by decide)
 ·cases hg
  exact Zlo (t := 94) (N := 64) (e := 5) (k := .u8) h (by kernel_rfl) (n := "math/bits.deBruijn64tab") (by rw [show DataW.agg (ZiO ZsT) = Rows.laid_math_bits_deBruijn64tab by kernel_rfl]; simp [ZlH]) (by kernel_rfl) (by kernel_rfl) (by kernel_rfl) (by kernel_rfl) (by kernel_rfl) (by kernel_rfl) (by decide)
 ·cases hg
theorem Zt4 (os:Os) (started:os.Started) (H:Type) (enc:TypeId×Value→H) :
  ReturnsInHanded {} Tryd.checked os 3 .any (fun w args=>(Rows.descFeedsSpec.pre enc Tryd.prog Tryd.f3 [] false w args∧laidMetH Tryd.prog ZlH w)∧sizedMet enc Tryd.prog Tryd.f3 (OpenSpec.ofChange Rows.descFeedsSpec) false w args) (Rows.descFeedsSpec.post enc Tryd.prog Tryd.f3 false true false false):=by
 refine returnsInHanded_of_change_and (C:=Tryd.checked) (X:=fun w _=>laidMetH Tryd.prog ZlH w) (fun _ _ _ hh h=>h.of_heap hh) own started (by kernel_rfl) Tryd.func3
  (ChangeSpec.witness_shaped (enc:=enc) (C:=Tryd.checked) (os:=os) (X:=fun w _=>laidMetH Tryd.prog ZlH w) false (World.doorLaid Tryd.prog 19 os) #[.agg #[.int .i64 0,.int .i64 0,.slice none 0 0,.slice none 0 0,.slice none 0 0,.slice none 0 0],.int .i64 0] 8 rfl (World.shaped_of_RefB (by kernel_rfl) (by kernel_rfl)) (by kernel_rfl) (by kernel_rfl) (by kernel_rfl) (ZrB os _)) ?_
 intro W base args ds gs before hval0 hW _ _ hL _
 have hval:∀(j:Nat) t v,Tryd.f3.params[j]? = some t→args[j]? = some v→Value.okWide Tryd.prog W .any base t v:=hval0
 have hW':=hW
 obtain⟨p,q,hA0,hV,rfl,hfz,hnd⟩:=hW
 have hA:DataW.TrodAll enc Tryd.prog W 0 (fun _=>true) true Tryd.f3.params.toList args.toList ds p:=hA0
 rw[Tryd.params3] at hA hval
 obtain⟨v0,vs0,d0,ds0,p0,q0,hargs,rfl,rfl,h0,r0⟩:=trodAll_cons hA
 obtain⟨v1,vs1,d1,ds1,p1,q1,rfl,rfl,rfl,h1,r1⟩:=trodAll_cons r0
 obtain⟨rfl,rfl,rfl⟩:=trodAll_nil r1
 obtain rfl:args = #[v0,v1]:=by cases args;simp_all
 obtain⟨rfl,rfl⟩:=trodVars_none hV
 have lt0:∀x∈p0,x.block<W.heap.size:=by obtain⟨m,hm⟩:=h0;exact DataW.trod_lt m _ _ _ hm
 obtain⟨x0,ok0,den0⟩:=ZqF (P:=Tryd.prog) (n:=8) (t:=27) (l:=Znz.1) (ag:=Znz.2) (by kernel_rfl) (hval 0 27 v0 rfl rfl) h0
 have lt1:∀x∈p1,x.block<W.heap.size:=by obtain⟨m,hm⟩:=h1;exact DataW.trod_lt m _ _ _ hm
 obtain⟨x1,ok1,den1⟩:=ZqF (P:=Tryd.prog) (n:=8) (t:=3) (l:=Zq3.1) (ag:=Zq3.2) (by kernel_rfl) (hval 1 3 v1 rfl rfl) h1
 obtain⟨H1,ev⟩:=Zm9 x0 ok0 x1 ok1
 have den:ZaD All All All W [ZnN Znz.2 x0,ZnN Zq3.2 x1] [v0,v1]:=⟨_,_,rfl,den0,⟨_,_,rfl,den1,rfl⟩⟩
 refine(ZpY ZuX (ZqJ hL) den ev).mono fun e W' ⟨he,bel⟩=>?_
 subst he
 exact⟨_,rfl,_,_,_,[],_,[],hW',trodAll_mk1 (shut_bool Tryd.underlying4 _),(trodAll_cons_mk (Below.trod Zpf (by kernel_rfl) (of_decide_eq_true (by kernel_rfl)) h0 bel lt0) (trodAll_cons_mk (Below.trod Zpf (by kernel_rfl) (of_decide_eq_true (by kernel_rfl)) h1 bel lt1) trodAll_mk0)),rfl,bel.frame _,fun h=>by cases h⟩
theorem over:Rows.descFeedsRow.holds Tryd.pinned (OpenSpec.ofChange Rows.descFeedsSpec):=
 OpenClaim.holds_of_wide 3 Tryd.f3 rfl rfl rfl rfl rfl rfl rfl ⟨rfl,rfl,rfl,rfl,rfl⟩ rfl rfl rfl rfl rfl (by kernel_rfl) Tryd.func3 (by kernel_rfl)
  (of_decide_eq_true (by kernel_rfl)) (by unfold Func.isWrapper;first | (rw[if_pos (by decide +kernel)];kernel_rfl) | (rw[if_neg (by decide +kernel)];exact⟨rfl,rfl⟩))
  (fun os started H enc _=>Zt4 os started H enc)
theorem proved:Rows.DescFeedsSaid:=over
theorem carded:Rows.DescFeedsCardSaid:=
 Claim7.holds_tied_plain_at .later [] [.data, .data] true (true, "98ff9083b453f9a824804d8eb151ebf26dcad139571c8fa2a3f10d736681436a") false
  proved (fun _ h=>by cases h) (by kernel_rfl) (fun _ h=>by cases h) descFeeds_row_tie rfl ⟨rfl,rfl⟩ (by kernel_rfl) rfl
  (fun f fn hf hfn=>by
   obtain rfl : f = 3 := Option.some.inj ((show Tryd.prog.funcNamed "trefoil/trefoillaw05.DescFeeds" = some 3 by kernel_rfl).symm.trans hf) |>.symm
   obtain rfl:fn=Tryd.f3:=(Option.some.inj (Tryd.func3.symm.trans hfn)).symm
   exact⟨by kernel_rfl,fun j t ht=>by
    rw[Tryd.params3] at ht
    have hm:t∈[27,3]:=by simpa using Array.mem_of_getElem? ht
    have hall:([27,3].all fun u=>!Tryd.prog.wantsStandIn u)=true:=by kernel_rfl
    exact(show Tryd.prog.wantsStandIn t=false by simpa using List.all_eq_true.1 hall t hm)⟩)
  (by kernel_rfl)
end Go.Proofs.YtnpidpcmpleiaaaDoor.LawDescFeeds
namespace Go.Proofs.YtnpidpcmpleiaaaDoor
theorem descFeeds_holds:Rows.DescFeedsCardSaid:=LawDescFeeds.carded
#print axioms descFeeds_holds
end Go.Proofs.YtnpidpcmpleiaaaDoor
