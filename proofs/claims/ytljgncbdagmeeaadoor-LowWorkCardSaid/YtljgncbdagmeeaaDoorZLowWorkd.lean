/- LowWork: part 4 of 5 of the proof. -/
import Derived.Test.YtljgncbdagmeeaaDoorZLowWorkc
import Derived.Sort.AssemblyPlain
import Derived.KernelRfl
set_option maxRecDepth 100000
set_option maxHeartbeats 40000000
namespace Go.Proofs.YtljgncbdagmeeaaDoor
open Go Go.Proofs.YtljgncbdagmeeaaDoorE
set_option linter.unusedVariables false
set_option linter.unusedSimpArgs false
def ZlZ (b:Zq):Bool:=decide (20<(b.ins.length:Int)) || decide (20<(b.outs.length:Int))
def few (d:Zo):Bool:=!((d.barriers.take 9).any ZlZ)&&(decide ((d.parts.length:Int)≤20)&&(decide ((d.edges.length:Int)≤60)&&(decide ((d.futures.length:Int)≤20)&&decide ((d.barriers.length:Int)≤8))))
theorem ZwX (d:Zo):ZfK d=some (few d):=by
 have hl:(d.barriers.take 9).length=min 9 d.barriers.length:=List.length_take
 have key:=ZfB (d.barriers.take 9) (ZdS d) (fun _=>ZlZ) (fun _ _=>.inl ()) (.inr ()) (fun i x hi hx=>by
   have h9:i<9:=by omega
   rw[List.getElem?_take_of_lt h9] at hx
   simp only[ZdS,ZeA (show i<d.barriers.length by omega),ZaX hx,Option.bind_some,Z8 h9 (by omega),cond_true,ZlZ,decide_eq_true (show(i:Int)<9 by omega)]
   cases decide (20<(x.ins.length:Int))<;>cases decide (20<(x.outs.length:Int))<;>rfl) (by
   rw[hl]
   unfold ZdS
   by_cases h:d.barriers.length≤9
   ·rw[Nat.min_eq_right h,Zfe]; rfl
   ·rw[Nat.min_eq_left (by omega),decide_eq_true (show((9:Nat):Int)<d.barriers.length by omega)]; rfl)
 unfold ZfK few
 rw[key,Zd7,Zii]
 cases (d.barriers.take 9).any ZlZ<;>cases decide ((d.parts.length:Int)≤20)<;>cases decide ((d.edges.length:Int)≤60)<;>cases decide ((d.futures.length:Int)≤20)<;>cases decide ((d.barriers.length:Int)≤8)<;>rfl
structure ZjW (d:Zo):Prop where
 p:d.parts.length≤20
 e:d.edges.length≤60
 f:d.futures.length≤20
 b:d.barriers.length≤8
 i:∀b∈d.barriers,b.ins.length≤20∧b.outs.length≤20
theorem Zrv {d:Zo} (h:few d=true):ZjW d:=by
 unfold few at h
 simp only[Bool.and_eq_true,decide_eq_true_eq,Bool.not_eq_true'] at h
 obtain⟨h1,h2,h3,h4,h5⟩:=h
 refine⟨by omega,by omega,by omega,by omega,fun b hb=>?_⟩
 have:=List.any_eq_false.1 h1 b (by rw[List.take_of_length_le (by omega)]; exact hb)
 simp only[ZlZ,Bool.or_eq_true,decide_eq_true_eq,not_or] at this
 omega
theorem ZjW.short {d:Zo} (h:ZjW d):Ziv d:=
 ⟨by have:=h.p; omega,by have:=h.e; omega,by have:=h.f; omega,by have:=h.b; omega,fun b hb=>⟨by have:=(h.i b hb).1; omega,by have:=(h.i b hb).2; omega⟩⟩
theorem Zyl (d:Zo) (h:ZjW d):ZfP d=some d.barriers:=by
 have key:=ZnW d.barriers (Zdh d) (fun i (s:List Zq)=>((i:Int),s)) (fun i x s=>bif Nat.ble (s.length+1) lim then some (.inl (s++[x])) else none) (fun s=>some s) (fun i x s hi hx=>by
   have hb:=h.i x (List.mem_of_getElem? hx)
   simp only[Zdh,ZeA hi,ZaX hx,Option.bind_some,Z8 hi h.short.b,cond_true,Zh9 (show x.ins.length≤1073741824 by omega),Zh9 (show x.outs.length≤1073741824 by omega)]
   cases Nat.ble (s.length+1) lim<;>rfl) (fun s=>by simp only[Zdh,Zfe]; rfl) []
 have sc:∀(l:List Zq) (i:Nat) (s:List Zq),s.length+l.length≤1073741824→ZkM (fun i x s=>bif Nat.ble (s.length+1) lim then some (Sum.inl (s++[x])) else (none:Option (List Zq⊕List Zq))) (fun s=>some s) i l s=some (s++l):=by
  intro l
  induction l with
  | nil=>intro i s _; simp[ZkM]
  | cons x l ih=>
   intro i s hs
   rw[List.length_cons] at hs
   unfold ZkM
   rw[Zh9 (by omega)]
   simp only[cond_true]
   rw[ih (i+1) (s++[x]) (by rw[List.length_append]; simp; omega)]
   simp
 rw[sc _ _ _ (by have:=h.b; simp; omega)] at key
 unfold ZfP
 rw[Zh9 (show List.length d.parts≤1073741824 by have:=h.p; omega),Zh9 (show List.length d.edges≤1073741824 by have:=h.e; omega),Zh9 (show List.length d.futures≤1073741824 by have:=h.f; omega)]
 show(lp (Zdh d) (((0:Nat):Int),[])).bind _=_
 rw[key]
 rfl
end Go.Proofs.YtljgncbdagmeeaaDoor
namespace Go.Proofs.YtljgncbdagmeeaaDoor
open Go Go.Proofs.YtljgncbdagmeeaaDoorE Go.Sort
set_option linter.unusedVariables false
set_option linter.unusedSimpArgs false
structure OKA (P:Int→Prop) (d:Array Int):Prop where
 el:∀i,i<d.size→P d[i]!
 sz:d.size≤1000
theorem Zbv {d:Array Int} {i:Nat} (h:i<d.size):ZF d.toList (i:Int)=some d[i]!:=by
 refine ZaX ?_
 rw[Array.getElem?_toList,Array.getElem?_eq_getElem h,getElem!_pos d i h]
theorem ZvO (d:Array Int) (i:Nat) (x:Int):List.set d.toList i x=(d.setIfInBounds i x).toList:=by simp
theorem ZfM (d:Array Int) (i j:Nat):List.set (List.set d.toList i d[j]!) j d[i]! = (swp d i j).toList:=by
 unfold swp
 rw[ZvO,ZvO]
theorem Zio {d:Array Int} {i j:Nat} {x:Int} (h:j<d.size):∃y,ZF (List.set d.toList i x) (j:Int)=some y:=by
 rw[ZvO]
 exact⟨_,Zbv (by simpa using h)⟩
theorem Z9 (d:Array Int) (i j:Nat):(swp d i j).size=d.size:=by unfold swp; simp
theorem Zvk {d:Array Int} {i j k:Nat} (hi:i<d.size) (hj:j<d.size):(swp d i j)[k]! = if k=j then d[i]! else if k=i then d[j]! else d[k]!:=by
 unfold swp
 by_cases hk:k<d.size
 ·rw[getElem!_pos _ k (by simpa using hk),getElem!_pos d k hk,Array.getElem_setIfInBounds (by simpa using hk)]
  by_cases h1:j=k
  ·rw[if_pos h1,if_pos h1.symm]
  ·rw[if_neg h1,if_neg (Ne.symm h1),Array.getElem_setIfInBounds hk]
   by_cases h2:i=k
   ·rw[if_pos h2,if_pos h2.symm]
   ·rw[if_neg h2,if_neg (Ne.symm h2)]
 ·rw[getElem!_neg _ k (by simpa using hk),getElem!_neg d k hk,if_neg (by omega),if_neg (by omega)]
theorem OKA.swp {P:Int→Prop} {d:Array Int} (h:OKA P d) {i j:Nat} (hi:i<d.size) (hj:j<d.size):OKA P (swp d i j):=
 ⟨fun k hk=>by
  rw[Z9] at hk
  rw[Zvk hi hj]
  split
  ·exact h.el _ hi
  ·split
   ·exact h.el _ hj
   ·exact h.el _ hk,by rw[Z9]; exact h.sz⟩
theorem Ze8 {a b:Nat}:decide ((a:Int)<(b:Int))=decide (a<b):=decide_eq_decide.2 (by omega)
theorem ZfS {a b:Nat}:decide ((a:Int)≤(b:Int))=decide (a≤b):=decide_eq_decide.2 (by omega)
theorem Zap {z:Int} {n:Nat} (h:z=(n:Int)) (hn:n<9223372036854775808):w64 z=(n:Int):=by rw[h,Zcm (by omega) (by omega)]
section
variable (cmp:Int→Int→Option Int) (c:Int→Int→Int) (P:Int→Prop)
def ZoJ:Prop:=∀x y,P x→P y→cmp x y=some (c x y)
def ltC (x y:Int):Bool:=decide (c x y<0)
variable {cmp c P} (hc:ZoJ cmp c P)
include hc
theorem Zni (a:Nat):∀(j:Nat) (d:Array Int),OKA P d→j<d.size→lp (ZS (a:Int) cmp) ((j:Int),d.toList)=some (insInner (ltC c) a j d).toList∧OKA P (insInner (ltC c) a j d)∧(insInner (ltC c) a j d).size=d.size
 | 0,d,hd,hj=>by
  rw[Zbl]
  simp only[ZS,decide_eq_false (show ¬((a:Int)<((0:Nat):Int)) by omega),cond_false]
  exact⟨rfl,hd,rfl⟩
 | j+1,d,hd,hj=>by
  have hj':j<d.size:=by omega
  have hz:=hd.sz
  rw[Zbl]
  have e2:w64 (((j+1:Nat):Int)-1)=(j:Int):=Zap (by omega) (by omega)
  have e3:=hc _ _ (hd.el (j+1) hj) (hd.el j hj')
  unfold insInner
  by_cases h1:a<j+1
  ·by_cases h2:c d[j+1]! d[j]! < 0
   ·have ih:=Zni a j (swp d (j+1) j) (hd.swp hj hj') (by rw[Z9]; omega)
    obtain⟨y,e5⟩:=Zio (i:=j+1) (x:=d[j]!) hj'
    simp only[ZS,Ze8,decide_eq_true h1,cond_true,Zbv hj,e2,Zbv hj',Option.bind_some,e3,decide_eq_true h2,Int.toNat_natCast,e5,ZfM]
    rw[if_pos (by simp[h1,h2,ltC])]
    rw[Z9] at ih
    exact ih
   ·simp only[ZS,Ze8,decide_eq_true h1,cond_true,Zbv hj,e2,Zbv hj',Option.bind_some,e3,decide_eq_false h2,cond_false]
    rw[if_neg (by simp[h1,h2,ltC])]
    exact⟨rfl,hd,rfl⟩
  ·simp only[ZS,Ze8,decide_eq_false h1,cond_false]
   rw[if_neg (by simp[h1])]
   exact⟨rfl,hd,rfl⟩
theorem ZnK (a b:Nat):∀(k i:Nat) (d:Array Int),i+k=max i b→b≤d.size→OKA P d→lp (Zag (a:Int) (b:Int) cmp) ((i:Int),d.toList)=some (insOuter (ltC c) a b i d).toList∧OKA P (insOuter (ltC c) a b i d)∧(insOuter (ltC c) a b i d).size=d.size
 | 0,i,d,hi,hb,hd=>by
  rw[Zbl]
  unfold insOuter
  simp only[Zag,Ze8,decide_eq_false (show ¬i<b by omega),cond_false]
  rw[if_neg (by omega)]
  exact⟨rfl,hd,rfl⟩
 | k+1,i,d,hi,hb,hd=>by
  have hib:i<b:=by omega
  have hz:=hd.sz
  obtain⟨h1,h2,h3⟩:=Zni hc a i d hd (by omega)
  have ih:=ZnK a b k (i+1) (insInner (ltC c) a i d) (by omega) (by rw[h3]; exact hb) h2
  rw[Zbl]
  unfold insOuter
  simp only[Zag,Ze8,decide_eq_true hib,cond_true,h1,Option.bind_some,Z8 hib (by omega)]
  rw[if_pos hib,← h3]
  exact ih
theorem ZvE (a b:Nat) (d:Array Int) (hb:b≤d.size) (ha:a≤b) (hd:OKA P d):ZR (a:Int) (b:Int) cmp d.toList=some (insertionSort (ltC c) d a b).toList∧OKA P (insertionSort (ltC c) d a b)∧(insertionSort (ltC c) d a b).size=d.size:=by
 have hz:=hd.sz
 obtain⟨h1,h2⟩:=ZnK hc a b (max (a+1) b-(a+1)) (a+1) d (by omega) hb hd
 unfold ZR insertionSort
 rw[Zap (n:=a+1) (by omega) (by omega),h1]
 exact⟨rfl,h2⟩
theorem Zut (hi first:Nat):∀(k root:Nat) (d:Array Int),hi-root≤k→root≤hi→first+hi≤d.size→OKA P d→∃r,lp (ZH (hi:Int) (first:Int) cmp) ((root:Int),d.toList)=some r∧(r = .inl (siftDown (ltC c) hi first root d).toList∨r = .inr (siftDown (ltC c) hi first root d).toList)∧OKA P (siftDown (ltC c) hi first root d)∧(siftDown (ltC c) hi first root d).size=d.size:=by
 intro k
 induction k with
 | zero=>
  intro root d hk hr hs hd
  have hz:=hd.sz
  rw[Zbl]
  unfold siftDown
  have e0:w64 (2*(root:Int))=((2*root:Nat):Int):=Zap (by omega) (by omega)
  have e1:w64 (((2*root:Nat):Int)+1)=((2*root+1:Nat):Int):=Zap (by omega) (by omega)
  simp only[ZH,e0,e1,ZfS,decide_eq_true (show hi≤2*root+1 by omega),cond_true]
  rw[dif_pos (by omega)]
  exact⟨_,rfl,.inl rfl,hd,rfl⟩
 | succ k ih=>
  intro root d hk hr hs hd
  have hz:=hd.sz
  rw[Zbl]
  unfold siftDown
  have e0:w64 (2*(root:Int))=((2*root:Nat):Int):=Zap (by omega) (by omega)
  have e1:w64 (((2*root:Nat):Int)+1)=((2*root+1:Nat):Int):=Zap (by omega) (by omega)
  by_cases h1:hi≤2*root+1
  ·simp only[ZH,e0,e1,ZfS,decide_eq_true h1,cond_true]
   rw[dif_pos (by omega)]
   exact⟨_,rfl,.inl rfl,hd,rfl⟩
  have e2:w64 (((2*root+1:Nat):Int)+1)=((2*root+2:Nat):Int):=Zap (by omega) (by omega)
  have er:w64 ((first:Int)+(root:Int))=((first+root:Nat):Int):=Zap (by omega) (by omega)
  have ef:w64 ((first:Int)+((2*root+1:Nat):Int))=((first+(2*root+1):Nat):Int):=Zap (by omega) (by omega)
  have ef1:w64 (((first+(2*root+1):Nat):Int)+1)=((first+(2*root+1)+1:Nat):Int):=Zap (by omega) (by omega)
  have ef2:w64 ((first:Int)+((2*root+2:Nat):Int))=((first+(2*root+2):Nat):Int):=Zap (by omega) (by omega)
  have ir:first+root<d.size:=by omega
  have i1:first+(2*root+1)<d.size:=by omega
  have cr1:=hc _ _ (hd.el _ ir) (hd.el _ i1)
  have one:∀{r:List Int⊕List Int} {A:Array Int},A=d→(r = .inl d.toList∨r = .inr d.toList)→∃q,some r=some q∧(q = .inl A.toList∨q = .inr A.toList)∧OKA P A∧A.size=d.size:=fun hA hr=>by
   subst hA
   exact⟨_,rfl,hr,hd,rfl⟩
  rw[dif_neg (by omega)]
  by_cases h2:2*root+2<hi
  ·have i2:first+(2*root+2)<d.size:=by omega
   have i2':first+(2*root+1)+1<d.size:=by omega
   have c12:=hc _ _ (hd.el _ i1) (hd.el _ i2')
   have cr2:=hc _ _ (hd.el _ ir) (hd.el _ i2)
   by_cases h3:c d[first+(2*root+1)]! d[first+(2*root+1)+1]! < 0
   ·rw[if_pos (by simp[h3,ltC]; omega)]
    by_cases h4:c d[first+root]! d[first+(2*root+2)]! < 0
    ·obtain⟨y,em⟩:=Zio (i:=first+root) (x:=d[first+(2*root+2)]!) i2
     simp only[ZH,e0,e1,e2,ZfS,Ze8,decide_eq_false h1,decide_eq_true h2,cond_false,cond_true,ef,ef1,ef2,er,Zbv i1,Zbv i2',Zbv ir,Zbv i2,Option.bind_some,c12,cr2,decide_eq_true h3,decide_eq_true h4,Int.toNat_natCast,em,ZfM]
     rw[if_neg (by simp[h4,ltC]),dif_pos h2]
     have:=ih (2*root+2) (swp d (first+root) (first+(2*root+2))) (by omega) (by omega) (by rw[Z9]; omega) (hd.swp ir i2)
     rw[Z9] at this
     exact this
    ·simp only[ZH,e0,e1,e2,ZfS,Ze8,decide_eq_false h1,decide_eq_true h2,cond_false,cond_true,ef,ef1,ef2,er,Zbv i1,Zbv i2',Zbv ir,Zbv i2,Option.bind_some,c12,cr2,decide_eq_true h3,decide_eq_false h4]
     rw[if_pos (by simp[h4,ltC])]
     exact one rfl (.inr rfl)
   ·rw[if_neg (by simp[h3,ltC])]
    by_cases h4:c d[first+root]! d[first+(2*root+1)]! < 0
    ·obtain⟨y,em⟩:=Zio (i:=first+root) (x:=d[first+(2*root+1)]!) i1
     simp only[ZH,e0,e1,e2,ZfS,Ze8,decide_eq_false h1,decide_eq_true h2,cond_false,cond_true,ef,ef1,ef2,er,Zbv i1,Zbv i2',Zbv ir,Option.bind_some,c12,cr1,decide_eq_false h3,decide_eq_true h4,Int.toNat_natCast,em,ZfM]
     rw[if_neg (by simp[h4,ltC])]
     have:=ih (2*root+1) (swp d (first+root) (first+(2*root+1))) (by omega) (by omega) (by rw[Z9]; omega) (hd.swp ir i1)
     rw[Z9] at this
     exact this
    ·simp only[ZH,e0,e1,e2,ZfS,Ze8,decide_eq_false h1,decide_eq_true h2,cond_false,cond_true,ef,ef1,ef2,er,Zbv i1,Zbv i2',Zbv ir,Option.bind_some,c12,cr1,decide_eq_false h3,decide_eq_false h4]
     rw[if_pos (by simp[h4,ltC])]
     exact one rfl (.inr rfl)
  ·rw[if_neg (by simp; omega)]
   by_cases h4:c d[first+root]! d[first+(2*root+1)]! < 0
   ·obtain⟨y,em⟩:=Zio (i:=first+root) (x:=d[first+(2*root+1)]!) i1
    simp only[ZH,e0,e1,e2,ZfS,Ze8,decide_eq_false h1,decide_eq_false h2,cond_false,cond_true,ef,er,Zbv i1,Zbv ir,Option.bind_some,cr1,decide_eq_true h4,Int.toNat_natCast,em,ZfM]
    rw[if_neg (by simp[h4,ltC])]
    have:=ih (2*root+1) (swp d (first+root) (first+(2*root+1))) (by omega) (by omega) (by rw[Z9]; omega) (hd.swp ir i1)
    rw[Z9] at this
    exact this
   ·simp only[ZH,e0,e1,e2,ZfS,Ze8,decide_eq_false h1,decide_eq_false h2,cond_false,cond_true,ef,er,Zbv i1,Zbv ir,Option.bind_some,cr1,decide_eq_false h4]
    rw[if_pos (by simp[h4,ltC])]
    exact one rfl (.inr rfl)
theorem Zum (hi first root:Nat) (d:Array Int) (hr:root≤hi) (hs:first+hi≤d.size) (hd:OKA P d):Zax (root:Int) (hi:Int) (first:Int) cmp d.toList=some (siftDown (ltC c) hi first root d).toList∧OKA P (siftDown (ltC c) hi first root d)∧(siftDown (ltC c) hi first root d).size=d.size:=by
 obtain⟨r,h1,h2,h3⟩:=Zut hc hi first _ root d (Nat.le_refl _) hr hs hd
 unfold Zax
 rw[h1]
 rcases h2 with rfl | rfl
 ·exact⟨rfl,h3⟩
 ·exact⟨rfl,h3⟩
theorem Zq4 (hi first b:Nat) (hb:(b:Int)=first+hi):∀(k:Nat) (d:Array Int),k≤hi+1→first+hi≤d.size→OKA P d→lp (ZaB (first:Int) (b:Int) cmp) ((k:Int)-1,d.toList)=some (heapBuild (ltC c) hi first k d).toList∧OKA P (heapBuild (ltC c) hi first k d)∧(heapBuild (ltC c) hi first k d).size=d.size
 | 0,d,hk,hs,hd=>by
  rw[Zbl]
  simp only[ZaB,decide_eq_false (show ¬((0:Int)≤((0:Nat):Int)-1) by omega),cond_false]
  exact⟨rfl,hd,rfl⟩
 | k+1,d,hk,hs,hd=>by
  have hz:=hd.sz
  obtain⟨h1,h2,h3⟩:=Zum hc hi first k d (by omega) hs hd
  have ih:=Zq4 hi first b hb k (siftDown (ltC c) hi first k d) (by omega) (by rw[h3]; exact hs) h2
  have e1:w64 ((b:Int)-(first:Int))=(hi:Int):=Zap (by omega) (by omega)
  have e2:(((k+1:Nat):Int)-1)=(k:Int):=by omega
  have e3:w64 ((k:Int)-1)=(k:Int)-1:=Zcm (by omega) (by omega)
  rw[Zbl,e2]
  simp only[ZaB,decide_eq_true (show(0:Int)≤(k:Int) by omega),cond_true,e1,h1,Option.bind_some,e3]
  rw[← h3]
  exact ih
theorem ZvC (first:Nat):∀(k:Nat) (d:Array Int),first+k≤d.size→OKA P d→lp (ZaC (first:Int) cmp) ((k:Int)-1,d.toList)=some (heapPop (ltC c) first k d).toList∧OKA P (heapPop (ltC c) first k d)∧(heapPop (ltC c) first k d).size=d.size
 | 0,d,hs,hd=>by
  rw[Zbl]
  simp only[ZaC,decide_eq_false (show ¬((0:Int)≤((0:Nat):Int)-1) by omega),cond_false]
  exact⟨rfl,hd,rfl⟩
 | k+1,d,hs,hd=>by
  have hz:=hd.sz
  have i1:first+k<d.size:=by omega
  have i2:first<d.size:=by omega
  obtain⟨h1,h2,h3⟩:=Zum hc k first 0 (swp d first (first+k)) (by omega) (by rw[Z9]; omega) (hd.swp i2 i1)
  rw[Z9] at h3
  have ih:=ZvC first k (siftDown (ltC c) k first 0 (swp d first (first+k))) (by rw[h3]; omega) h2
  have e2:(((k+1:Nat):Int)-1)=(k:Int):=by omega
  have e3:w64 ((k:Int)-1)=(k:Int)-1:=Zcm (by omega) (by omega)
  have e4:w64 ((first:Int)+(k:Int))=((first+k:Nat):Int):=Zap (by omega) (by omega)
  obtain⟨y,em⟩:=Zio (i:=first) (x:=d[first+k]!) i1
  have h1':Zax 0 (k:Int) (first:Int) cmp (swp d first (first+k)).toList=_:=h1
  rw[Zbl,e2]
  simp only[ZaC,decide_eq_true (show(0:Int)≤(k:Int) by omega),cond_true,e4,Zbv i1,Zbv i2,Option.bind_some,Int.toNat_natCast,em,ZfM,h1',e3]
  rw[← h3]
  exact ih
theorem Zwf (a b:Nat) (d:Array Int) (ha:a≤b) (hb:b≤d.size) (hd:OKA P d):Z3 (a:Int) (b:Int) cmp d.toList=some (heapSort (ltC c) d a b).toList∧OKA P (heapSort (ltC c) d a b)∧(heapSort (ltC c) d a b).size=d.size:=by
 have hz:=hd.sz
 have e1:w64 ((b:Int)-(a:Int))=((b-a:Nat):Int):=Zap (by omega) (by omega)
 have e2:w64 (((b-a:Nat):Int)-1)=((b-a:Nat):Int)-1:=Zcm (by omega) (by omega)
 have e3:w64 (Int.tdiv (((b-a:Nat):Int)-1) 2)=(((b-a-1) / 2+1:Nat):Int)-1:=by
  by_cases h:b-a=0
  ·rw[h]; rfl
  ·rw[Int.tdiv_eq_ediv_of_nonneg (by omega),Zcm (by omega) (by omega)]
   omega
 obtain⟨h1,h2,h3⟩:=Zq4 hc (b-a) a b (by omega) ((b-a-1) / 2+1) d (by omega) (by omega) hd
 obtain⟨h4,h5,h6⟩:=ZvC hc a (b-a) (heapBuild (ltC c) (b-a) a ((b-a-1) / 2+1) d) (by rw[h3]; omega) h2
 unfold Z3 heapSort
 simp only[e1,e2,e3,h1,h4,Option.bind_some]
 exact⟨trivial,h5,by rw[h6,h3]⟩
end
end Go.Proofs.YtljgncbdagmeeaaDoor
namespace Go.Proofs.YtljgncbdagmeeaaDoor
open Go Go.Proofs.YtljgncbdagmeeaaDoorE Go.Sort
set_option linter.unusedVariables false
set_option linter.unusedSimpArgs false
theorem ZkT (step:Int→Option (Int⊕Int)) (p:Int→Bool) (d:Array Int) (j:Nat) (h:∀i:Nat,i≤j+2→step (i:Int)=some (bif decide (i≤j)&&p d[i]! then .inl ((i+1:Nat):Int) else .inr (i:Int))) :
  ∀(k i:Nat),j+2-i≤k→i≤j+2→lp step (i:Int)=some ((scanUp p d j i:Nat):Int)∧i≤scanUp p d j i∧scanUp p d j i≤max i (j+1):=by
 intro k
 induction k with
 | zero=>
  intro i hk hi
  rw[Zbl,h i hi]
  unfold scanUp
  rw[decide_eq_false (show ¬i≤j by omega)]
  simp[show ¬i≤j by omega]
  omega
 | succ k ih=>
  intro i hk hi
  rw[Zbl,h i hi]
  unfold scanUp
  by_cases h1:i≤j
  ·cases h2:p d[i]! with
   | true=>
    rw[decide_eq_true h1,if_pos (by simp[h1])]
    obtain⟨a1,a2,a3⟩:=ih (i+1) (by omega) (by omega)
    exact⟨a1,by omega,by omega⟩
   | false=>
    rw[decide_eq_true h1,if_neg (by simp)]
    exact⟨rfl,by omega,by omega⟩
  ·rw[decide_eq_false h1,if_neg (by simp[h1])]
   exact⟨rfl,by omega,by omega⟩
theorem ZgZ (step:Int→Option (Int⊕Int)) (p:Int→Bool) (d:Array Int) (i:Nat) (hi:1≤i):∀(j:Nat),(∀k:Nat,k≤j→step (k:Int)=some (bif decide (i≤k)&&p d[k]! then .inl ((k:Int)-1) else .inr (k:Int)))→lp step (j:Int)=some ((scanDown p d i j:Nat):Int)∧scanDown p d i j≤j
 | 0,h=>by
  rw[Zbl,h 0 (Nat.le_refl _),decide_eq_false (show ¬i≤0 by omega)]
  exact⟨rfl,Nat.le_refl _⟩
 | j+1,h=>by
  rw[Zbl,h (j+1) (Nat.le_refl _)]
  unfold scanDown
  by_cases h1:i≤j+1
  ·cases h2:p d[j+1]! with
   | true=>
    rw[decide_eq_true h1,if_pos (by simp[h1])]
    have ih:=ZgZ step p d i hi j (fun k hk=>h k (by omega))
    have e:(((j+1:Nat):Int)-1)=(j:Int):=by omega
    simp only[Bool.and_self,cond_true,e]
    exact⟨ih.1,by omega⟩
   | false=>
    rw[decide_eq_true h1,if_neg (by simp)]
    exact⟨rfl,Nat.le_refl _⟩
  ·rw[decide_eq_false h1,if_neg (by simp[h1])]
   exact⟨rfl,Nat.le_refl _⟩
section
variable {cmp:Int→Int→Option Int} {c:Int→Int→Int} {P:Int→Prop} (hc:ZoJ cmp c P)
include hc
theorem Zsc (a:Nat):∀(k i j:Nat) (d:Array Int),j+3-i≤k→1≤i→i≤j+2→j<d.size→a<d.size→OKA P d →
  lp (ZaS (a:Int) cmp) ((i:Int),(j:Int),d.toList)=some (((partLoop (ltC c) a i j d).1:Int),(partLoop (ltC c) a i j d).2.toList)∧OKA P (partLoop (ltC c) a i j d).2∧(partLoop (ltC c) a i j d).2.size=d.size∧(partLoop (ltC c) a i j d).1≤j:=by
 intro k
 induction k with
 | zero=>
  intro i j d hk h1 h2 hj ha hd
  exact absurd hk (by omega)
 | succ k ih=>
  intro i j d hk h1 h2 hj ha hd
  have hz:=hd.sz
  obtain⟨u1,u2,u3⟩:=ZkT (Zau (a:Int) cmp ((i:Int),(j:Int),d.toList)) (fun x=>ltC c x d[a]!) d j (fun m hm=>by
    by_cases hmj:m≤j
    ·have im:m<d.size:=by omega
     simp only[Zau,ZfS,decide_eq_true hmj,cond_true,Zbv im,Zbv ha,Option.bind_some,hc _ _ (hd.el _ im) (hd.el _ ha),ltC,Bool.true_and,Z8 (show m<j+1 by omega) (by omega)]
     cases decide (c d[m]! d[a]! < 0)<;>rfl
    ·simp only[Zau,ZfS,decide_eq_false hmj,cond_false,Bool.false_and]) (j+2-i) i (Nat.le_refl _) h2
  generalize hi2:scanUp (fun x=>ltC c x d[a]!) d j i=i2 at u1 u2 u3
  obtain⟨v1,v2⟩:=ZgZ (Zaq (a:Int) cmp ((i:Int),(j:Int),d.toList) (i2:Int)) (fun x=>!ltC c x d[a]!) d i2 (by omega) j (fun m hm=>by
    have im:m<d.size:=by omega
    by_cases hmi:i2≤m
    ·simp only[Zaq,ZfS,decide_eq_true hmi,cond_true,Zbv im,Zbv ha,Option.bind_some,hc _ _ (hd.el _ im) (hd.el _ ha),ltC,Bool.true_and,Zcm (show -9223372036854775808≤(m:Int)-1 by omega) (by omega)]
     cases decide (c d[m]! d[a]! < 0)<;>rfl
    ·simp only[Zaq,ZfS,decide_eq_false hmi,cond_false,Bool.false_and])
  generalize hj2:scanDown (fun x=>!ltC c x d[a]!) d i2 j=j2 at v1 v2
  rw[Zbl]
  unfold partLoop
  simp only[ZaS,u1,v1,Option.bind_some,Ze8,hi2,hj2]
  by_cases hij:j2<i2
  ·rw[decide_eq_true hij,if_pos hij]
   exact⟨rfl,hd,rfl,v2⟩
  ·have k1:i2<d.size:=by omega
   have k2:j2<d.size:=by omega
   obtain⟨y,em⟩:=Zio (i:=i2) (x:=d[j2]!) k2
   have e1:w64 ((i2:Int)+1)=((i2+1:Nat):Int):=Zap (by omega) (by omega)
   have e2:w64 ((j2:Int)-1)=((j2-1:Nat):Int):=Zap (by omega) (by omega)
   rw[decide_eq_false hij,if_neg hij,dif_pos (by omega)]
   simp only[cond_false,Zbv k1,Zbv k2,Option.bind_some,Int.toNat_natCast,em,ZfM,e1,e2]
   obtain⟨q1,q2,q3,q4⟩:=ih (i2+1) (j2-1) (swp d i2 j2) (by omega) (by omega) (by omega) (by rw[Z9]; omega) (by rw[Z9]; exact ha) (hd.swp k1 k2)
   rw[Z9] at q3
   exact⟨q1,q2,q3,by omega⟩
theorem Zu3 (a b pivot:Nat) (d:Array Int) (h1:a≤pivot) (h2:pivot<b) (hb:b≤d.size) (hd:OKA P d) :
  Zp (a:Int) (b:Int) (pivot:Int) cmp d.toList=some (bif (partition (ltC c) d a b pivot).2.1 then .inl (((partition (ltC c) d a b pivot).1:Int),(partition (ltC c) d a b pivot).2.2.toList) else .inr (((partition (ltC c) d a b pivot).1:Int),(partition (ltC c) d a b pivot).2.2.toList)) ∧
  OKA P (partition (ltC c) d a b pivot).2.2∧(partition (ltC c) d a b pivot).2.2.size=d.size:=by
 have hz:=hd.sz
 have ip:pivot<d.size:=by omega
 have ia:a<d.size:=by omega
 have hd1:=hd.swp ia ip
 have s1:=Z9 d a pivot
 obtain⟨y,em⟩:=Zio (i:=a) (x:=d[pivot]!) ip
 have e1:w64 ((a:Int)+1)=((a+1:Nat):Int):=Zap (by omega) (by omega)
 have e2:w64 ((b:Int)-1)=((b-1:Nat):Int):=Zap (by omega) (by omega)
 have sw:=ZfM d a pivot
 have ia1:a<(swp d a pivot).size:=by omega
 obtain⟨u1,u2,u3⟩:=ZkT (Zat (a:Int) (b:Int) (pivot:Int) d.toList cmp d[pivot]! d[a]!) (fun x=>ltC c x (swp d a pivot)[a]!) (swp d a pivot) (b-1) (fun m hm=>by
   by_cases hmj:m≤b-1
   ·have im:m<(swp d a pivot).size:=by omega
    simp only[Zat,e2,ZfS,decide_eq_true hmj,cond_true,Int.toNat_natCast,sw,Zbv im,Zbv ia1,Option.bind_some,hc _ _ (hd1.el _ im) (hd1.el _ ia1),ltC,Bool.true_and,Z8 (show m<b by omega) (by omega)]
    cases decide (c (swp d a pivot)[m]! (swp d a pivot)[a]! < 0)<;>rfl
   ·simp only[Zat,e2,ZfS,decide_eq_false hmj,cond_false,Bool.false_and]) (b-1+2-(a+1)) (a+1) (Nat.le_refl _) (by omega)
 generalize hi2:scanUp (fun x=>ltC c x (swp d a pivot)[a]!) (swp d a pivot) (b-1) (a+1)=i2 at u1 u2 u3
 obtain⟨v1,v2⟩:=ZgZ (Zas (a:Int) (pivot:Int) d.toList cmp d[pivot]! d[a]! (i2:Int)) (fun x=>!ltC c x (swp d a pivot)[a]!) (swp d a pivot) i2 (by omega) (b-1) (fun m hm=>by
   have im:m<(swp d a pivot).size:=by omega
   by_cases hmi:i2≤m
   ·simp only[Zas,ZfS,decide_eq_true hmi,cond_true,Int.toNat_natCast,sw,Zbv im,Zbv ia1,Option.bind_some,hc _ _ (hd1.el _ im) (hd1.el _ ia1),ltC,Bool.true_and,Zcm (show -9223372036854775808≤(m:Int)-1 by omega) (by omega)]
    cases decide (c (swp d a pivot)[m]! (swp d a pivot)[a]! < 0)<;>rfl
   ·simp only[Zas,ZfS,decide_eq_false hmi,cond_false,Bool.false_and])
 generalize hj2:scanDown (fun x=>!ltC c x (swp d a pivot)[a]!) (swp d a pivot) i2 (b-1)=j2 at v1 v2
 unfold Zp partition
 simp only[Zbv ip,Zbv ia,Option.bind_some,Int.toNat_natCast,em,e1,e2,u1,v1,Ze8,sw,hi2,hj2]
 have kj:j2<(swp d a pivot).size:=by omega
 by_cases hij:j2<i2
 ·obtain⟨y2,em2⟩:=Zio (i:=j2) (x:=(swp d a pivot)[a]!) ia1
  rw[decide_eq_true hij,if_pos hij]
  simp only[cond_true,Zbv ia1,Zbv kj,Option.bind_some,Int.toNat_natCast,em2,ZfM]
  exact⟨trivial,hd1.swp kj ia1,by rw[Z9,s1]⟩
 ·have ki:i2<(swp d a pivot).size:=by omega
  obtain⟨y2,em2⟩:=Zio (i:=i2) (x:=(swp d a pivot)[j2]!) kj
  have e3:w64 ((i2:Int)+1)=((i2+1:Nat):Int):=Zap (by omega) (by omega)
  have e4:w64 ((j2:Int)-1)=((j2-1:Nat):Int):=Zap (by omega) (by omega)
  obtain⟨q1,q2,q3,q4⟩:=Zsc hc a (j2-1+3-(i2+1)) (i2+1) (j2-1) (swp (swp d a pivot) i2 j2) (by omega) (by omega) (by omega) (by rw[Z9]; omega) (by rw[Z9]; exact ia1) (hd1.swp ki kj)
  rw[Z9,s1] at q3
  rw[decide_eq_false hij,if_neg hij]
  simp only[cond_false,Zbv ki,Zbv kj,Option.bind_some,Int.toNat_natCast,em2,ZfM,e3,e4,q1]
  generalize partLoop (ltC c) a (i2+1) (j2-1) (swp (swp d a pivot) i2 j2)=r at *
  have kr:r.1<r.2.size:=by omega
  have kr2:a<r.2.size:=by omega
  obtain⟨y3,em3⟩:=Zio (i:=r.1) (x:=r.2[a]!) kr2
  simp only[Zbv kr,Zbv kr2,Option.bind_some,em3,ZfM]
  exact⟨trivial,q2.swp kr kr2,by rw[Z9,q3]⟩
theorem Zpz (a:Nat):∀(k i j:Nat) (d:Array Int),j+3-i≤k→1≤i→i≤j+2→j<d.size→a<d.size→OKA P d →
  lp (Zar (a:Int) cmp) ((i:Int),(j:Int),d.toList)=some (((partEqLoop (ltC c) a i j d).1:Int),(partEqLoop (ltC c) a i j d).2.toList)∧OKA P (partEqLoop (ltC c) a i j d).2∧(partEqLoop (ltC c) a i j d).2.size=d.size∧i≤(partEqLoop (ltC c) a i j d).1∧(partEqLoop (ltC c) a i j d).1≤max i (j+1):=by
 intro k
 induction k with
 | zero=>
  intro i j d hk h1 h2 hj ha hd
  exact absurd hk (by omega)
 | succ k ih=>
  intro i j d hk h1 h2 hj ha hd
  have hz:=hd.sz
  obtain⟨u1,u2,u3⟩:=ZkT (Zaa (a:Int) cmp ((i:Int),(j:Int),d.toList)) (fun x=>!ltC c d[a]! x) d j (fun m hm=>by
    by_cases hmj:m≤j
    ·have im:m<d.size:=by omega
     simp only[Zaa,ZfS,decide_eq_true hmj,cond_true,Zbv im,Zbv ha,Option.bind_some,hc _ _ (hd.el _ ha) (hd.el _ im),ltC,Bool.true_and,Z8 (show m<j+1 by omega) (by omega)]
     cases decide (c d[a]! d[m]! < 0)<;>rfl
    ·simp only[Zaa,ZfS,decide_eq_false hmj,cond_false,Bool.false_and]) (j+2-i) i (Nat.le_refl _) h2
  generalize hi2:scanUp (fun x=>!ltC c d[a]! x) d j i=i2 at u1 u2 u3
  obtain⟨v1,v2⟩:=ZgZ (Zab (a:Int) cmp ((i:Int),(j:Int),d.toList) (i2:Int)) (fun x=>ltC c d[a]! x) d i2 (by omega) j (fun m hm=>by
    have im:m<d.size:=by omega
    by_cases hmi:i2≤m
    ·simp only[Zab,ZfS,decide_eq_true hmi,cond_true,Zbv im,Zbv ha,Option.bind_some,hc _ _ (hd.el _ ha) (hd.el _ im),ltC,Bool.true_and,Zcm (show -9223372036854775808≤(m:Int)-1 by omega) (by omega)]
     cases decide (c d[a]! d[m]! < 0)<;>rfl
    ·simp only[Zab,ZfS,decide_eq_false hmi,cond_false,Bool.false_and])
  generalize hj2:scanDown (fun x=>ltC c d[a]! x) d i2 j=j2 at v1 v2
  rw[Zbl]
  unfold partEqLoop
  simp only[Zar,u1,v1,Option.bind_some,Ze8,hi2,hj2]
  by_cases hij:j2<i2
  ·rw[decide_eq_true hij,if_pos hij]
   exact⟨rfl,hd,rfl,u2,u3⟩
  ·have k1:i2<d.size:=by omega
   have k2:j2<d.size:=by omega
   obtain⟨y,em⟩:=Zio (i:=i2) (x:=d[j2]!) k2
   have e1:w64 ((i2:Int)+1)=((i2+1:Nat):Int):=Zap (by omega) (by omega)
   have e2:w64 ((j2:Int)-1)=((j2-1:Nat):Int):=Zap (by omega) (by omega)
   rw[decide_eq_false hij,if_neg hij,dif_pos (by omega)]
   simp only[cond_false,Zbv k1,Zbv k2,Option.bind_some,Int.toNat_natCast,em,ZfM,e1,e2]
   obtain⟨q1,q2,q3,q4,q5⟩:=ih (i2+1) (j2-1) (swp d i2 j2) (by omega) (by omega) (by omega) (by rw[Z9]; omega) (by rw[Z9]; exact ha) (hd.swp k1 k2)
   rw[Z9] at q3
   exact⟨q1,q2,q3,by omega,by omega⟩
theorem Zt1 (a b pivot:Nat) (d:Array Int) (h1:a≤pivot) (h2:pivot<b) (hb:b≤d.size) (hd:OKA P d) :
  ZB (a:Int) (b:Int) (pivot:Int) cmp d.toList=some (((partitionEqual (ltC c) d a b pivot).1:Int),(partitionEqual (ltC c) d a b pivot).2.toList)∧OKA P (partitionEqual (ltC c) d a b pivot).2∧(partitionEqual (ltC c) d a b pivot).2.size=d.size∧a<(partitionEqual (ltC c) d a b pivot).1∧(partitionEqual (ltC c) d a b pivot).1≤b:=by
 have hz:=hd.sz
 have ip:pivot<d.size:=by omega
 have ia:a<d.size:=by omega
 obtain⟨y,em⟩:=Zio (i:=a) (x:=d[pivot]!) ip
 have e1:w64 ((a:Int)+1)=((a+1:Nat):Int):=Zap (by omega) (by omega)
 have e2:w64 ((b:Int)-1)=((b-1:Nat):Int):=Zap (by omega) (by omega)
 obtain⟨q1,q2,q3,q4,q5⟩:=Zpz hc a (b-1+3-(a+1)) (a+1) (b-1) (swp d a pivot) (by omega) (by omega) (by omega) (by rw[Z9]; omega) (by rw[Z9]; omega) (hd.swp ia ip)
 rw[Z9] at q3
 unfold ZB partitionEqual
 simp only[Zbv ip,Zbv ia,Option.bind_some,Int.toNat_natCast,em,e1,e2,ZfM,q1]
 exact⟨trivial,q2,q3,by omega,by omega⟩
end
end Go.Proofs.YtljgncbdagmeeaaDoor
namespace Go.Proofs.YtljgncbdagmeeaaDoor
open Go Go.Proofs.YtljgncbdagmeeaaDoorE Go.Sort
set_option linter.unusedVariables false
set_option linter.unusedSimpArgs false
def ZmM:Hint→Int
 | .unknown=>0
 | .increasing=>1
 | .decreasing=>2
theorem ZtU (p:Int×Int) (n:Nat) (x:Int) (h:p.2=(n:Int)) (hx:p.1=x):(bif p.2==0 then some (p.1,(1:Int)) else bif p.2==12 then some (p.1,2) else some (p.1,0))=some (x,ZmM (if n=0 then Hint.increasing else if n=12 then .decreasing else .unknown)):=by
 rw[h,hx]
 by_cases h0:n=0
 ·subst h0; rfl
 ·by_cases h1:n=12
  ·subst h1; rfl
  ·rw[show((n:Int)==0)=false by simpa using h0,show((n:Int)==12)=false by simp; omega,if_neg h0,if_neg h1]
   rfl
section
variable {cmp:Int→Int→Option Int} {c:Int→Int→Int} {P:Int→Prop} (hc:ZoJ cmp c P)
include hc
theorem ZvA:∀(j:Nat) (d:Array Int),OKA P d→j<d.size→lp (ZP cmp) ((j:Int),d.toList)=some (shiftDown (ltC c) j d).toList∧OKA P (shiftDown (ltC c) j d)∧(shiftDown (ltC c) j d).size=d.size
 | 0,d,hd,hj=>by
  rw[Zbl]
  simp only[ZP,decide_eq_false (show ¬((1:Int)≤((0:Nat):Int)) by omega),cond_false]
  exact⟨rfl,hd,rfl⟩
 | j+1,d,hd,hj=>by
  have hj':j<d.size:=by omega
  have hz:=hd.sz
  rw[Zbl]
  have e2:w64 (((j+1:Nat):Int)-1)=(j:Int):=Zap (by omega) (by omega)
  have e3:=hc _ _ (hd.el (j+1) hj) (hd.el j hj')
  unfold shiftDown
  by_cases h2:c d[j+1]! d[j]! < 0
  ·obtain⟨y,e5⟩:=Zio (i:=j+1) (x:=d[j]!) hj'
   simp only[ZP,decide_eq_true (show(1:Int)≤((j+1:Nat):Int) by omega),cond_true,Zbv hj,e2,Zbv hj',Option.bind_some,e3,decide_eq_true h2,Int.toNat_natCast,e5,ZfM]
   rw[if_neg (by simp[h2,ltC])]
   have ih:=ZvA j (swp d (j+1) j) (hd.swp hj hj') (by rw[Z9]; omega)
   rw[Z9] at ih
   exact ih
  ·simp only[ZP,decide_eq_true (show(1:Int)≤((j+1:Nat):Int) by omega),cond_true,Zbv hj,e2,Zbv hj',Option.bind_some,e3,decide_eq_false h2,cond_false]
   rw[if_pos (by simp[h2,ltC])]
   exact⟨rfl,hd,rfl⟩
theorem ZvB (b:Nat):∀(k j:Nat) (d:Array Int),b-j≤k→1≤j→b≤d.size→OKA P d→lp (ZE (b:Int) cmp) ((j:Int),d.toList)=some (shiftUp (ltC c) b j d).toList∧OKA P (shiftUp (ltC c) b j d)∧(shiftUp (ltC c) b j d).size=d.size:=by
 intro k
 induction k with
 | zero=>
  intro j d hk hj hb hd
  rw[Zbl]
  unfold shiftUp
  simp only[ZE,Ze8,decide_eq_false (show ¬j<b by omega),cond_false]
  rw[if_neg (by omega)]
  exact⟨rfl,hd,rfl⟩
 | succ k ih=>
  intro j d hk hj hb hd
  have hz:=hd.sz
  rw[Zbl]
  unfold shiftUp
  by_cases h1:j<b
  ·have i1:j<d.size:=by omega
   have i2:j-1<d.size:=by omega
   have e2:w64 ((j:Int)-1)=((j-1:Nat):Int):=Zap (by omega) (by omega)
   have e3:=hc _ _ (hd.el j i1) (hd.el (j-1) i2)
   rw[if_pos h1]
   by_cases h2:c d[j]! d[j-1]! < 0
   ·obtain⟨y,e5⟩:=Zio (i:=j) (x:=d[j-1]!) i2
    simp only[ZE,Ze8,decide_eq_true h1,cond_true,Zbv i1,e2,Zbv i2,Option.bind_some,e3,decide_eq_true h2,Int.toNat_natCast,e5,ZfM,Z8 h1 (by omega)]
    rw[if_neg (by simp[h2,ltC])]
    have:=ih (j+1) (swp d j (j-1)) (by omega) (by omega) (by rw[Z9]; exact hb) (hd.swp i1 i2)
    rw[Z9] at this
    exact this
   ·simp only[ZE,Ze8,decide_eq_true h1,cond_true,Zbv i1,e2,Zbv i2,Option.bind_some,e3,decide_eq_false h2,cond_false]
    rw[if_pos (by simp[h2,ltC])]
    exact⟨rfl,hd,rfl⟩
  ·simp only[ZE,Ze8,decide_eq_false h1,cond_false]
   rw[if_neg h1]
   exact⟨rfl,hd,rfl⟩
theorem Zsk (b:Nat) (z:Int) (d:Array Int) (hb:b≤d.size) (hd:OKA P d) (y1 y2:Int):∀(k i:Nat),b-i≤k→1≤i→i≤b→lp (ZI (b:Int) cmp (y1,y2,d.toList)) (i:Int)=some ((scanSorted (ltC c) d b i:Nat):Int)∧i≤scanSorted (ltC c) d b i∧scanSorted (ltC c) d b i≤b:=by
 have hz:=hd.sz
 intro k
 induction k with
 | zero=>
  intro i hk hi hib
  rw[Zbl]
  unfold scanSorted
  simp only[ZI,Ze8,decide_eq_false (show ¬i<b by omega),cond_false]
  rw[if_neg (by simp[show ¬i<b by omega])]
  exact⟨rfl,Nat.le_refl _,hib⟩
 | succ k ih=>
  intro i hk hi hib
  rw[Zbl]
  unfold scanSorted
  by_cases h1:i<b
  ·have i1:i<d.size:=by omega
   have i2:i-1<d.size:=by omega
   have e2:w64 ((i:Int)-1)=((i-1:Nat):Int):=Zap (by omega) (by omega)
   have e3:=hc _ _ (hd.el i i1) (hd.el (i-1) i2)
   by_cases h2:c d[i]! d[i-1]! < 0
   ·simp only[ZI,Ze8,decide_eq_true h1,cond_true,Zbv i1,e2,Zbv i2,Option.bind_some,e3,decide_eq_true h2]
    rw[if_neg (by simp[h2,ltC])]
    exact⟨rfl,Nat.le_refl _,hib⟩
   ·simp only[ZI,Ze8,decide_eq_true h1,cond_true,Zbv i1,e2,Zbv i2,Option.bind_some,e3,decide_eq_false h2,cond_false,Z8 h1 (by omega)]
    rw[if_pos (by simp[h1,h2,ltC])]
    obtain⟨a1,a2,a3⟩:=ih (i+1) (by omega) (by omega) (by omega)
    exact⟨a1,by omega,a3⟩
  ·simp only[ZI,Ze8,decide_eq_false h1,cond_false]
   rw[if_neg (by simp[h1])]
   exact⟨rfl,Nat.le_refl _,hib⟩
theorem ZtJ (a b:Nat):∀(s i:Nat) (d:Array Int),s≤5→a<i→i≤b→b≤d.size→OKA P d →
  ∃r,lp (ZO (a:Int) (b:Int) cmp) ((i:Int),((5-s:Nat):Int),d.toList)=some r∧(match r with | .inl l=>l=(partialIns (ltC c) a b s i d).1.toList∧(partialIns (ltC c) a b s i d).2=true | .inr (.inl l)=>l=(partialIns (ltC c) a b s i d).1.toList∧(partialIns (ltC c) a b s i d).2=false | .inr (.inr l)=>l=(partialIns (ltC c) a b s i d).1.toList∧(partialIns (ltC c) a b s i d).2=false) ∧
   OKA P (partialIns (ltC c) a b s i d).1∧(partialIns (ltC c) a b s i d).1.size=d.size
 | 0,i,d,hs,ha,hi,hb,hd=>by
  rw[Zbl]
  simp only[ZO,decide_eq_false (show ¬(((5-0:Nat):Int)<5) by omega),cond_false]
  exact⟨_,rfl,by simp[partialIns],by first | exact hd | (simpa [partialIns] using hd),by first | rfl | simp[partialIns]⟩
 | s+1,i,d,hs,ha,hi,hb,hd=>by
  have hz:=hd.sz
  obtain⟨u1,u2,u3⟩:=Zsk hc b 0 d hb hd (i:Int) ((5-(s+1):Nat):Int) (b-i) i (Nat.le_refl _) (by omega) hi
  rw[Zbl]
  unfold partialIns
  generalize hi2:scanSorted (ltC c) d b i=i2 at u1 u2 u3 ⊢
  simp only[ZO,decide_eq_true (show(((5-(s+1):Nat):Int)<5) by omega),cond_true,u1,Option.bind_some]
  by_cases h1:i2=b
  ·rw[show((i2:Int)==(b:Int))=true by simp[h1],if_pos h1]
   exact⟨_,rfl,by simp[partialIns],by first | exact hd | (simpa [partialIns] using hd),by first | rfl | simp[partialIns]⟩
  ·have e1:w64 ((b:Int)-(a:Int))=((b-a:Nat):Int):=Zap (by omega) (by omega)
   rw[show((i2:Int)==(b:Int))=false by simpa using (show ¬(i2:Int)=(b:Int) by omega),if_neg h1]
   by_cases h2:b-a<50
   ·rw[if_pos h2]
    simp only[cond_false,e1,decide_eq_true (show((b-a:Nat):Int)<50 by omega),cond_true]
    exact⟨_,rfl,by simp[partialIns],by first | exact hd | (simpa [partialIns] using hd),by first | rfl | simp[partialIns]⟩
   ·rw[if_neg h2]
    have i1:i2<d.size:=by omega
    have i3:i2-1<d.size:=by omega
    have e2:w64 ((i2:Int)-1)=((i2-1:Nat):Int):=Zap (by omega) (by omega)
    have e3:w64 ((i2:Int)-(a:Int))=((i2-a:Nat):Int):=Zap (by omega) (by omega)
    have e4:w64 ((b:Int)-(i2:Int))=((b-i2:Nat):Int):=Zap (by omega) (by omega)
    have e5:w64 ((i2:Int)+1)=((i2+1:Nat):Int):=Zap (by omega) (by omega)
    have e6:w64 (((5-(s+1):Nat):Int)+1)=((5-s:Nat):Int):=Zap (by omega) (by omega)
    obtain⟨y,em⟩:=Zio (i:=i2) (x:=d[i2-1]!) i3
    have hd2:=hd.swp i1 i3
    simp only[cond_false,e1,decide_eq_false (show ¬((b-a:Nat):Int)<50 by omega),e2,Zbv i1,Zbv i3,Option.bind_some,Int.toNat_natCast,em,ZfM,e3,e4,e5,e6]
    have n2:∀n:Nat,decide ((2:Int)≤(n:Int))=decide (n ≥ 2):=fun n=>decide_eq_decide.2 (by omega)
    rw[n2,n2]
    have go:∀d':Array Int,OKA P d'→d'.size=d.size→∃r,lp (ZO (a:Int) (b:Int) cmp) ((i2:Int),((5-s:Nat):Int),d'.toList)=some r∧(match r with | .inl l=>l=(partialIns (ltC c) a b s i2 d').1.toList∧(partialIns (ltC c) a b s i2 d').2=true | .inr (.inl l)=>l=(partialIns (ltC c) a b s i2 d').1.toList∧(partialIns (ltC c) a b s i2 d').2=false | .inr (.inr l)=>l=(partialIns (ltC c) a b s i2 d').1.toList∧(partialIns (ltC c) a b s i2 d').2=false) ∧
      OKA P (partialIns (ltC c) a b s i2 d').1∧(partialIns (ltC c) a b s i2 d').1.size=d.size:=fun d' h h'=>by
     have:=ZtJ a b s i2 d' (by omega) (by omega) u3 (by omega) h
     rw[h'] at this
     exact this
    by_cases h3:i2-a ≥ 2
    ·obtain⟨v1,v2,v3⟩:=ZvA hc (i2-1) (swp d i2 (i2-1)) hd2 (by rw[Z9]; exact i3)
     rw[Z9] at v3
     rw[decide_eq_true h3,if_pos h3]
     simp only[cond_true,v1,Option.bind_some]
     by_cases h4:b-i2 ≥ 2
     ·obtain⟨w1,w2,w3⟩:=ZvB hc b (b-(i2+1)) (i2+1) (shiftDown (ltC c) (i2-1) (swp d i2 (i2-1))) (Nat.le_refl _) (by omega) (by omega) v2
      rw[decide_eq_true h4,if_pos h4]
      simp only[cond_true,w1,Option.bind_some]
      exact go _ w2 (by omega)
     ·rw[decide_eq_false h4,if_neg h4]
      exact go _ v2 v3
    ·rw[decide_eq_false h3,if_neg h3]
     simp only[cond_false]
     by_cases h4:b-i2 ≥ 2
     ·obtain⟨w1,w2,w3⟩:=ZvB hc b (b-(i2+1)) (i2+1) (swp d i2 (i2-1)) (Nat.le_refl _) (by omega) (by rw[Z9]; omega) hd2
      rw[Z9] at w3
      rw[decide_eq_true h4,if_pos h4]
      simp only[cond_true,w1,Option.bind_some]
      exact go _ w2 w3
     ·rw[decide_eq_false h4,if_neg h4]
      exact go _ hd2 (Z9 _ _ _)
theorem ZvJ (a b:Nat) (d:Array Int) (h1:a<b) (hb:b≤d.size) (hd:OKA P d) :
  ZM (a:Int) (b:Int) cmp d.toList=some (bif (partialInsertionSort (ltC c) d a b).2 then .inl (partialInsertionSort (ltC c) d a b).1.toList else .inr (partialInsertionSort (ltC c) d a b).1.toList)∧OKA P (partialInsertionSort (ltC c) d a b).1∧(partialInsertionSort (ltC c) d a b).1.size=d.size:=by
 have hz:=hd.sz
 obtain⟨r,e,h2,h3⟩:=ZtJ hc a b 5 (a+1) d (Nat.le_refl _) (by omega) (by omega) hb hd
 unfold ZM partialInsertionSort
 have e0:((5-5:Nat):Int)=0:=rfl
 rw[e0] at e
 rw[Zap (n:=a+1) (by omega) (by omega),e]
 refine⟨?_,h3⟩
 rcases r with l | l | l
 ·obtain⟨rfl,h⟩:=h2; rw[h]; rfl
 ·obtain⟨rfl,h⟩:=h2; rw[h]; rfl
 ·obtain⟨rfl,h⟩:=h2; rw[h]; rfl
theorem ZtC (d:Array Int) (hd:OKA P d) (a b n:Nat) (ha:a<d.size) (hb:b<d.size) (hn:n<1000):ZaJ (a:Int) (b:Int) cmp d.toList (n:Int)=some (((order2 (ltC c) d a b n).1:Int),((order2 (ltC c) d a b n).2.1:Int),((order2 (ltC c) d a b n).2.2:Int)) ∧
  (order2 (ltC c) d a b n).1<d.size∧(order2 (ltC c) d a b n).2.1<d.size∧(order2 (ltC c) d a b n).2.2≤n+1:=by
 unfold ZaJ order2
 simp only[Zbv ha,Zbv hb,Option.bind_some,hc _ _ (hd.el b hb) (hd.el a ha)]
 by_cases h:c d[b]! d[a]! < 0
 ·rw[if_pos (by simp[h,ltC]),decide_eq_true h,Zap (n:=n+1) (by omega) (by omega)]
  exact⟨rfl,hb,ha,Nat.le_refl _⟩
 ·rw[if_neg (by simp[h,ltC]),decide_eq_false h]
  exact⟨rfl,ha,hb,Nat.le_succ _⟩
theorem Zsw (d:Array Int) (hd:OKA P d) (i j k n:Nat) (hi:i<d.size) (hj:j<d.size) (hk:k<d.size) (hn:n<990):ZaI (i:Int) (j:Int) (k:Int) cmp d.toList (n:Int)=some (((median (ltC c) d i j k n).1:Int),((median (ltC c) d i j k n).2:Int))∧(median (ltC c) d i j k n).1<d.size∧(median (ltC c) d i j k n).2≤n+3:=by
 obtain⟨a1,a2,a3,a4⟩:=ZtC hc d hd i j n hi hj (by omega)
 obtain⟨b1,b2,b3,b4⟩:=ZtC hc d hd (order2 (ltC c) d i j n).2.1 k (order2 (ltC c) d i j n).2.2 a3 hk (by omega)
 obtain⟨c1,c2,c3,c4⟩:=ZtC hc d hd (order2 (ltC c) d i j n).1 (order2 (ltC c) d (order2 (ltC c) d i j n).2.1 k (order2 (ltC c) d i j n).2.2).1 (order2 (ltC c) d (order2 (ltC c) d i j n).2.1 k (order2 (ltC c) d i j n).2.2).2.2 a2 b2 (by omega)
 unfold ZaI median
 simp only[a1,b1,c1,Option.bind_some]
 exact⟨trivial,c3,by omega⟩
theorem Zsn (d:Array Int) (hd:OKA P d) (i n:Nat) (h1:1≤i) (hi:i+1<d.size) (hn:n<990):Z4 (i:Int) cmp d.toList (n:Int)=some (((medianAdjacent (ltC c) d i n).1:Int),((medianAdjacent (ltC c) d i n).2:Int))∧(medianAdjacent (ltC c) d i n).1<d.size∧(medianAdjacent (ltC c) d i n).2≤n+3:=by
 have hz:=hd.sz
 obtain⟨a1,a2⟩:=Zsw hc d hd (i-1) i (i+1) n (by omega) (by omega) hi hn
 unfold Z4 medianAdjacent
 rw[Zap (n:=i-1) (by omega) (by omega),Zap (n:=i+1) (by omega) (by omega),a1]
 exact⟨rfl,a2⟩
theorem ZvI (a b:Nat) (d:Array Int) (hab:a<b) (hb:b≤d.size) (hd:OKA P d):ZL (a:Int) (b:Int) cmp d.toList=some (((choosePivot (ltC c) d a b).1:Int),ZmM (choosePivot (ltC c) d a b).2):=by
 have hz:=hd.sz
 have e1:w64 ((b:Int)-(a:Int))=((b-a:Nat):Int):=Zap (by omega) (by omega)
 have e2:w64 (Int.tdiv ((b-a:Nat):Int) 4)=(((b-a) / 4:Nat):Int):=by
  rw[Int.tdiv_eq_ediv_of_nonneg (by omega)]
  exact Zap (by omega) (by omega)
 have q:∀m:Nat,m≤3→w64 ((((b-a) / 4:Nat):Int)*(m:Int))=(((b-a) / 4*m:Nat):Int):=fun m hm=>by
  refine Zap (by rw[Int.natCast_mul]) ?_
  have:(b-a) / 4*m≤(b-a) / 4*3:=Nat.mul_le_mul_left _ hm
  omega
 have q1:=q 1 (by omega)
 have q2:=q 2 (by omega)
 have q3:=q 3 (by omega)
 have p:∀m:Nat,m≤3→w64 ((a:Int)+(((b-a) / 4*m:Nat):Int))=((a+(b-a) / 4*m:Nat):Int):=fun m hm=>by
  refine Zap (by omega) ?_
  have:(b-a) / 4*m≤(b-a) / 4*3:=Nat.mul_le_mul_left _ hm
  omega
 have p1:=p 1 (by omega)
 have p2:=p 2 (by omega)
 have p3:=p 3 (by omega)
 unfold ZL choosePivot
 have q1':w64 ((((b-a) / 4:Nat):Int)*1)=_:=q1
 have q2':w64 ((((b-a) / 4:Nat):Int)*2)=_:=q2
 have q3':w64 ((((b-a) / 4:Nat):Int)*3)=_:=q3
 simp only[e1,e2,q1',q2',q3',p1,p2,p3]
 have z:((0:Nat):Int)=0:=rfl
 by_cases h8:b-a ≥ 8
 ·rw[decide_eq_true (show(8:Int)≤((b-a:Nat):Int) by omega),if_pos h8]
  by_cases h50:b-a ≥ 50
  ·obtain⟨m1,m2,m3⟩:=Zsn hc d hd (a+(b-a) / 4*1) 0 (by omega) (by omega) (by omega)
   obtain⟨n1,n2,n3⟩:=Zsn hc d hd (a+(b-a) / 4*2) (medianAdjacent (ltC c) d (a+(b-a) / 4*1) 0).2 (by omega) (by omega) (by omega)
   obtain⟨o1,o2,o3⟩:=Zsn hc d hd (a+(b-a) / 4*3) (medianAdjacent (ltC c) d (a+(b-a) / 4*2) (medianAdjacent (ltC c) d (a+(b-a) / 4*1) 0).2).2 (by omega) (by omega) (by omega)
   obtain⟨r1,r2,r3⟩:=Zsw hc d hd _ _ _ (medianAdjacent (ltC c) d (a+(b-a) / 4*3) (medianAdjacent (ltC c) d (a+(b-a) / 4*2) (medianAdjacent (ltC c) d (a+(b-a) / 4*1) 0).2).2).2 m2 n2 o2 (by omega)
   rw[z] at m1
   rw[decide_eq_true (show(50:Int)≤((b-a:Nat):Int) by omega),if_pos h50]
   simp only[cond_true,m1,n1,o1,r1,Option.bind_some]
   exact ZtU (_,_) _ _ rfl rfl
  ·obtain⟨r1,r2,r3⟩:=Zsw hc d hd (a+(b-a) / 4*1) (a+(b-a) / 4*2) (a+(b-a) / 4*3) 0 (by omega) (by omega) (by omega) (by omega)
   rw[z] at r1
   rw[decide_eq_false (show ¬(50:Int)≤((b-a:Nat):Int) by omega),if_neg h50]
   simp only[cond_true,cond_false,r1,Option.bind_some]
   exact ZtU (_,_) _ _ rfl rfl
 ·rw[decide_eq_false (show ¬(8:Int)≤((b-a:Nat):Int) by omega),if_neg h8]
  rfl
end
theorem ZwK {P:Int→Prop}:∀(k i j:Nat) (d:Array Int),j-i≤k→j<d.size∨j≤i→OKA P d→lp Z0 ((i:Int),(j:Int),d.toList)=some (reverseLoop i j d).toList∧OKA P (reverseLoop i j d)∧(reverseLoop i j d).size=d.size:=by
 intro k
 induction k with
 | zero=>
  intro i j d hk hj hd
  rw[Zbl]
  unfold reverseLoop
  simp only[Z0,Ze8,decide_eq_false (show ¬i<j by omega),cond_false]
  rw[if_neg (by omega)]
  exact⟨rfl,hd,rfl⟩
 | succ k ih=>
  intro i j d hk hj hd
  have hz:=hd.sz
  rw[Zbl]
  unfold reverseLoop
  by_cases h:i<j
  ·have i1:j<d.size:=by omega
   have i2:i<d.size:=by omega
   obtain⟨y,em⟩:=Zio (i:=i) (x:=d[j]!) i1
   have e2:w64 ((j:Int)-1)=((j-1:Nat):Int):=Zap (by omega) (by omega)
   simp only[Z0,Ze8,decide_eq_true h,cond_true,Zbv i1,Zbv i2,Option.bind_some,Int.toNat_natCast,em,ZfM,Z8 h (by omega),e2]
   rw[if_pos h]
   have:=ih (i+1) (j-1) (swp d i j) (by omega) (by rw[Z9]; omega) (hd.swp i2 i1)
   rw[Z9] at this
   exact this
  ·simp only[Z0,Ze8,decide_eq_false h,cond_false]
   rw[if_neg h]
   exact⟨rfl,hd,rfl⟩
theorem ZtF {P:Int→Prop} (cmp:Int→Int→Option Int) (a b:Nat) (d:Array Int) (hab:a<b) (hb:b≤d.size) (hd:OKA P d):ZJ (a:Int) (b:Int) cmp d.toList=some (reverseRange d a b).toList∧OKA P (reverseRange d a b)∧(reverseRange d a b).size=d.size:=by
 have hz:=hd.sz
 obtain⟨h1,h2⟩:=ZwK (b-1-a) a (b-1) d (Nat.le_refl _) (by omega) hd
 unfold ZJ reverseRange
 rw[Zap (n:=b-1) (by omega) (by omega)]
 simp only[h1,Option.bind_some]
 exact⟨trivial,h2⟩
end Go.Proofs.YtljgncbdagmeeaaDoor
namespace Go.Proofs.YtljgncbdagmeeaaDoor
open Go Go.Proofs.YtljgncbdagmeeaaDoorE Go.Sort
set_option linter.unusedVariables false
set_option linter.unusedSimpArgs false
theorem Zpk (n:Int):IntKind.u64.wrap n=n % 18446744073709551616:=by
 show(if (false&&decide (n % 18446744073709551616 ≥ 9223372036854775808))=true then n % 18446744073709551616-18446744073709551616 else n % 18446744073709551616)=_
 simp
theorem Zf6 {n:Nat} (h:n<18446744073709551616):IntKind.u64.wrap (n:Int)=(n:Int):=by rw[Zpk]; omega
def Zog (a b:Int):Int:=IntKind.u64.wrap (BitVec.ofInt IntKind.u64.bits a ^^^ BitVec.ofInt IntKind.u64.bits b).toNat
def Zso (a b:Int):Int:=IntKind.u64.wrap (BitVec.ofInt IntKind.u64.bits a &&& BitVec.ofInt IntKind.u64.bits b).toNat
def xs (r:Int):Int:=Zog (Zog (Zog r (IntKind.u64.wrap (r*2 ^ 13))) (Int.fdiv (Zog r (IntKind.u64.wrap (r*2 ^ 13))) (2 ^ 7))) (IntKind.u64.wrap (Zog (Zog r (IntKind.u64.wrap (r*2 ^ 13))) (Int.fdiv (Zog r (IntKind.u64.wrap (r*2 ^ 13))) (2 ^ 7))*2 ^ 17))
theorem ZnT (u:UInt64):BitVec.ofInt IntKind.u64.bits (u.toNat:Int)=u.toBitVec:=by
 show BitVec.ofInt 64 (u.toNat:Int)=u.toBitVec
 rw[BitVec.ofInt_natCast]
 apply BitVec.eq_of_toNat_eq
 rw[BitVec.toNat_ofNat]
 exact Nat.mod_eq_of_lt u.toNat_lt
theorem Ztv (u v:UInt64):Zog (u.toNat:Int) (v.toNat:Int)=((u ^^^ v).toNat:Int):=by
 unfold Zog
 rw[ZnT,ZnT]
 exact Zf6 (u ^^^ v).toNat_lt
theorem Zvz (u:UInt64) (k:Nat) (v:UInt64) (hk:v.toNat % 64=k):IntKind.u64.wrap ((u.toNat:Int)*2 ^ k)=((u <<< v).toNat:Int):=by
 rw[Zpk,UInt64.toNat_shiftLeft,hk,Nat.shiftLeft_eq]
 have:((2:Int) ^ k)=((2 ^ k:Nat):Int):=by rw[Int.natCast_pow]; rfl
 rw[this]
 omega
theorem Zxl (u:UInt64) (k:Nat) (v:UInt64) (hk:v.toNat % 64=k):Int.fdiv (u.toNat:Int) (2 ^ k)=((u >>> v).toNat:Int):=by
 have e:((2:Int) ^ k)=((2 ^ k:Nat):Int):=by rw[Int.natCast_pow]; rfl
 rw[UInt64.toNat_shiftRight,hk,Nat.shiftRight_eq_div_pow,e,Int.fdiv_eq_ediv_of_nonneg _ (Int.natCast_nonneg _)]
 exact(Int.natCast_ediv _ _).symm
theorem Zxo (u:UInt64):xs (u.toNat:Int)=((xorNext u).toNat:Int):=by
 unfold xs xorNext
 rw[Zvz u 13 13 rfl,Ztv,Zxl _ 7 7 rfl,Ztv,Zvz _ 17 17 rfl,Ztv]
theorem Zu7 (u:UInt64) (m:Nat) (hm:m<18446744073709551616):Zso (u.toNat:Int) (m:Int)=((u.toNat &&& m:Nat):Int):=by
 unfold Zso
 rw[ZnT]
 have:BitVec.ofInt IntKind.u64.bits (m:Int)=BitVec.ofNat 64 m:=BitVec.ofInt_natCast _ _
 rw[this]
 show IntKind.u64.wrap ((((u.toBitVec &&& BitVec.ofNat 64 m:BitVec 64)).toNat:Nat):Int)=_
 rw[BitVec.toNat_and,BitVec.toNat_ofNat,Nat.mod_eq_of_lt hm]
 refine Zf6 (Nat.lt_of_le_of_lt Nat.and_le_left u.toNat_lt)
theorem Zsb:((List.range 1001).all fun n=>(match ZdC (IntKind.u64.wrap (n:Int)) with | some v=>v==(bitsLen n:Int) | none=>false)&&((match Zb7 (n:Int) with | some v=>v==((1 <<< bitsLen n:Nat):Int) | none=>false)&&(decide (1 <<< bitsLen n≤2*n) || n==0)))=true:=by kernel_rfl
theorem Ztk {n:Nat} (h:n≤1000):ZdC (IntKind.u64.wrap (n:Int))=some (bitsLen n:Int)∧Zb7 (n:Int)=some ((1 <<< bitsLen n:Nat):Int)∧(0<n→1 <<< bitsLen n≤2*n):=by
 have:=List.all_eq_true.1 Zsb n (by simp; omega)
 simp only[Bool.and_eq_true,Bool.or_eq_true,decide_eq_true_eq,beq_iff_eq] at this
 obtain⟨h1,h2,h3⟩:=this
 refine⟨?_,?_,fun h=>by omega⟩
 ·split at h1
  ·rename_i v hv; rw[hv,eq_of_beq h1]
  ·cases h1
 ·split at h2
  ·rename_i v hv; rw[hv,eq_of_beq h2]
  ·cases h2
def Zlz (s:Int×List Int×Int) (o:Int):Option ((Int×List Int×Int)⊕List Int):=
 (ZF s.2.1 o).bind fun x3=>(ZF s.2.1 s.1).bind fun x4=>(ZF (List.set s.2.1 s.1.toNat x3) o).bind fun _=>some (Sum.inl (w64 (s.1+1),List.set (List.set s.2.1 s.1.toNat x3) o.toNat x4,xs s.2.2))
theorem ZvL (b c x0:Int) (s:Int×List Int×Int):ZaA b c x0 s=(bif (decide (s.1≤(w64 ((w64 (b+(w64 ((w64 (Int.tdiv (w64 (c-b)) 4))*2))))+1)))) then
  Zc0.bind fun _=>bif decide (w64 (c-b)≤w64 (Zso (xs s.2.2) (IntKind.u64.wrap (x0-1)))) then Zlz s (w64 (b+w64 (w64 (Zso (xs s.2.2) (IntKind.u64.wrap (x0-1)))-w64 (c-b)))) else Zlz s (w64 (b+w64 (Zso (xs s.2.2) (IntKind.u64.wrap (x0-1)))))
 else some (.inr s.2.1)):=rfl
theorem Zpi {P:Int→Prop} (d:Array Int) (hd:OKA P d) (i o:Nat) (u:UInt64) (hi:i<d.size) (ho:o<d.size):Zlz ((i:Int),d.toList,(u.toNat:Int)) (o:Int)=some (.inl (((i+1:Nat):Int),(swp d i o).toList,((xorNext u).toNat:Int))):=by
 have hz:=hd.sz
 obtain⟨y,em⟩:=Zio (i:=i) (x:=d[o]!) ho
 unfold Zlz
 simp only[Zbv ho,Zbv hi,Option.bind_some,Int.toNat_natCast,em,ZfM,Zxo,Z8 hi (by omega)]
theorem Zn9 {P:Int→Prop} (a b:Nat) (d:Array Int) (hd:OKA P d) (h8:8≤b-a) (hb:b≤d.size) (i:Nat) (hi:i≤a+(b-a) / 4*2+1) (u:UInt64) :
  ZaA (a:Int) (b:Int) ((1 <<< bitsLen (b-a):Nat):Int) ((i:Int),d.toList,(u.toNat:Int))=some (.inl (((i+1:Nat):Int),(breakStep a (b-a) (1 <<< bitsLen (b-a)) (u,d) i).2.toList,((breakStep a (b-a) (1 <<< bitsLen (b-a)) (u,d) i).1.toNat:Int))) ∧
  OKA P (breakStep a (b-a) (1 <<< bitsLen (b-a)) (u,d) i).2∧(breakStep a (b-a) (1 <<< bitsLen (b-a)) (u,d) i).2.size=d.size:=by
 have hz:=hd.sz
 obtain⟨_,_,l3⟩:=Ztk (show b-a≤1000 by omega)
 have l4:=l3 (by omega)
 have l5:0<1 <<< bitsLen (b-a):=by rw[Nat.shiftLeft_eq,Nat.one_mul]; exact Nat.pow_pos (by omega)
 generalize hm:1 <<< bitsLen (b-a)=m at *
 have e1:w64 ((b:Int)-(a:Int))=((b-a:Nat):Int):=Zap (by omega) (by omega)
 have e2:w64 (Int.tdiv ((b-a:Nat):Int) 4)=(((b-a) / 4:Nat):Int):=by
  rw[Int.tdiv_eq_ediv_of_nonneg (by omega)]
  exact Zap (by omega) (by omega)
 have e3:w64 ((((b-a) / 4:Nat):Int)*2)=(((b-a) / 4*2:Nat):Int):=Zap (by omega) (by omega)
 have e4:w64 ((a:Int)+(((b-a) / 4*2:Nat):Int))=((a+(b-a) / 4*2:Nat):Int):=Zap (by omega) (by omega)
 have e5:w64 (((a+(b-a) / 4*2:Nat):Int)+1)=((a+(b-a) / 4*2+1:Nat):Int):=Zap (by omega) (by omega)
 have e6:IntKind.u64.wrap ((m:Int)-1)=((m-1:Nat):Int):=by
  rw[show(m:Int)-1=((m-1:Nat):Int) by omega]; exact Zf6 (by omega)
 have hand:(xorNext u).toNat &&& (m-1)≤m-1:=Nat.and_le_right
 have e7:w64 (((xorNext u).toNat &&& (m-1):Nat):Int)=(((xorNext u).toNat &&& (m-1):Nat):Int):=Zap rfl (by omega)
 have ii:i<d.size:=by omega
 rw[ZvL]
 unfold breakStep
 simp only[e1,e2,e3,e4,e5,ZfS,decide_eq_true hi,cond_true,Zxo,e6,Zu7 _ (m-1) (by omega),e7]
 generalize (xorNext u).toNat &&& (m-1)=o at *
 show(bif decide (b-a≤o) then _ else _)=_∧_
 by_cases ho:b-a≤o
 ·have e8:w64 ((o:Int)-((b-a:Nat):Int))=((o-(b-a):Nat):Int):=Zap (by omega) (by omega)
  have e9:w64 ((a:Int)+((o-(b-a):Nat):Int))=((a+(o-(b-a)):Nat):Int):=Zap (by omega) (by omega)
  rw[decide_eq_true ho,if_pos ho]
  simp only[cond_true,e8,e9]
  exact⟨Zpi d hd i _ u ii (by omega),hd.swp ii (by omega),Z9 _ _ _⟩
 ·have e9:w64 ((a:Int)+(o:Int))=((a+o:Nat):Int):=Zap (by omega) (by omega)
  rw[decide_eq_false ho,if_neg ho]
  simp only[cond_false,e9]
  exact⟨Zpi d hd i _ u ii (by omega),hd.swp ii (by omega),Z9 _ _ _⟩
theorem ZyM {P:Int→Prop} (cmp:Int→Int→Option Int) (a b:Nat) (d:Array Int) (hab:a≤b) (hb:b≤d.size) (hd:OKA P d):Z7 (a:Int) (b:Int) cmp d.toList=some (breakPatterns d a b).toList∧OKA P (breakPatterns d a b)∧(breakPatterns d a b).size=d.size:=by
 have hz:=hd.sz
 have e1:w64 ((b:Int)-(a:Int))=((b-a:Nat):Int):=Zap (by omega) (by omega)
 unfold Z7 breakPatterns
 simp only[e1]
 by_cases h8:8≤b-a
 ·obtain⟨_,l2,_⟩:=Ztk (show b-a≤1000 by omega)
  have e2:w64 (Int.tdiv ((b-a:Nat):Int) 4)=(((b-a) / 4:Nat):Int):=by
   rw[Int.tdiv_eq_ediv_of_nonneg (by omega)]
   exact Zap (by omega) (by omega)
  have e3:w64 ((((b-a) / 4:Nat):Int)*2)=(((b-a) / 4*2:Nat):Int):=Zap (by omega) (by omega)
  have e4:w64 ((a:Int)+(((b-a) / 4*2:Nat):Int))=((a+(b-a) / 4*2:Nat):Int):=Zap (by omega) (by omega)
  have e5:w64 (((a+(b-a) / 4*2:Nat):Int)-1)=((a+(b-a) / 4*2-1:Nat):Int):=Zap (by omega) (by omega)
  have e6:IntKind.u64.wrap ((b-a:Nat):Int)=((UInt64.ofNat (b-a)).toNat:Int):=by
   rw[Zf6 (by omega),UInt64.toNat_ofNat_of_lt' (by show b-a<2 ^ 64; omega)]
  rw[decide_eq_true (show(8:Int)≤((b-a:Nat):Int) by omega),if_pos h8]
  simp only[cond_true,l2,Option.bind_some,e2,e3,e4,e5,e6]
  generalize hi0:a+(b-a) / 4*2-1=i0
  obtain⟨p1,p2,p3⟩:=Zn9 a b d hd h8 hb i0 (by omega) (UInt64.ofNat (b-a))
  generalize breakStep a (b-a) (1 <<< bitsLen (b-a)) (UInt64.ofNat (b-a),d) i0=r1 at *
  obtain⟨q1,q2,q3⟩:=Zn9 a b r1.2 p2 h8 (by omega) (i0+1) (by omega) r1.1
  generalize breakStep a (b-a) (1 <<< bitsLen (b-a)) (r1.1,r1.2) (i0+1)=r2 at *
  obtain⟨s1,s2,s3⟩:=Zn9 a b r2.2 q2 h8 (by omega) (i0+2) (by omega) r2.1
  generalize breakStep a (b-a) (1 <<< bitsLen (b-a)) (r2.1,r2.2) (i0+2)=r3 at *
  rw[Zl2 p1,Zl2 q1,Zl2 s1,Zvc (r:=r3.2.toList)]
  ·exact⟨rfl,s2,by omega⟩
  ·rw[ZvL]
   have e7:w64 (((a+(b-a) / 4*2:Nat):Int)+1)=((a+(b-a) / 4*2+1:Nat):Int):=Zap (by omega) (by omega)
   simp only[e1,e2,e3,e4,e7,ZfS,decide_eq_false (show ¬i0+2+1≤a+(b-a) / 4*2+1 by omega),cond_false]
 ·rw[decide_eq_false (show ¬(8:Int)≤((b-a:Nat):Int) by omega),if_neg h8]
  exact⟨rfl,hd,rfl⟩
end Go.Proofs.YtljgncbdagmeeaaDoor
namespace Go.Proofs.YtljgncbdagmeeaaDoor
open Go Go.Proofs.YtljgncbdagmeeaaDoorE Go.Sort
set_option linter.unusedVariables false
set_option linter.unusedSimpArgs false
abbrev ZuL:=Int×Int×Int×Bool×Bool×List Int
noncomputable def ZqA (e:Int→Int→Option Int) (rc:Int→Int→Int→(Int→Int→Option Int)→List Int→Option (List Int)) (a b limit pivot:Int) (x5:List Int):Option (ZuL⊕List Int):=
 (Zp a b pivot e x5).bind fun x9=>
 match x9 with
 | .inl x9=>
  bif decide (w64 (x9.1-a)<w64 (b-x9.1)) then
   bif decide (w64 (Int.tdiv (w64 (b-a)) 8)≤w64 (x9.1-a)) then (rc a x9.1 limit e x9.2).bind fun x10=>some (.inl (w64 (x9.1+1),b,limit,true,true,x10))
   else (rc a x9.1 limit e x9.2).bind fun x10=>some (.inl (w64 (x9.1+1),b,limit,false,true,x10))
  else
   bif decide (w64 (Int.tdiv (w64 (b-a)) 8)≤w64 (b-x9.1)) then (rc (w64 (x9.1+1)) b limit e x9.2).bind fun x10=>some (.inl (a,x9.1,limit,true,true,x10))
   else (rc (w64 (x9.1+1)) b limit e x9.2).bind fun x10=>some (.inl (a,x9.1,limit,false,true,x10))
 | .inr x9=>
  bif decide (w64 (x9.1-a)<w64 (b-x9.1)) then
   bif decide (w64 (Int.tdiv (w64 (b-a)) 8)≤w64 (x9.1-a)) then (rc a x9.1 limit e x9.2).bind fun x10=>some (.inl (w64 (x9.1+1),b,limit,true,false,x10))
   else (rc a x9.1 limit e x9.2).bind fun x10=>some (.inl (w64 (x9.1+1),b,limit,false,false,x10))
  else
   bif decide (w64 (Int.tdiv (w64 (b-a)) 8)≤w64 (b-x9.1)) then (rc (w64 (x9.1+1)) b limit e x9.2).bind fun x10=>some (.inl (a,x9.1,limit,true,false,x10))
   else (rc (w64 (x9.1+1)) b limit e x9.2).bind fun x10=>some (.inl (a,x9.1,limit,false,false,x10))
noncomputable def Zky (e:Int→Int→Option Int) (rc:Int→Int→Int→(Int→Int→Option Int)→List Int→Option (List Int)) (a b limit pivot:Int) (wb wp:Bool) (x5:List Int):Option (ZuL⊕List Int):=
 bif decide (0<a) then
  (ZF x5 (w64 (a-1))).bind fun x6=>(ZF x5 pivot).bind fun x7=>(e x6 x7).bind fun x8=>
  bif decide (x8<0) then ZqA e rc a b limit pivot x5
  else (ZB a b pivot e x5).bind fun x18=>some (.inl (x18.1,b,limit,wb,wp,x18.2))
 else ZqA e rc a b limit pivot x5
theorem Zm1 (e:Int→Int→Option Int) (rc:Int→Int→Int→(Int→Int→Option Int)→List Int→Option (List Int)) (a b limit:Int) (wb wp:Bool) (l:List Int):ZN e rc (a,b,limit,wb,wp,l) =
  (bif decide (w64 (b-a)≤12) then (ZR a b e l).bind fun x=>some (.inr x)
  else bif limit==0 then (Z3 a b e l).bind fun x=>some (.inr x)
  else (bif wb then bif wp then
    (ZL a b e l).bind fun x3=>
    bif x3.2==2 then (ZJ a b e l).bind fun x4=>(ZM a b e x4).bind fun x5=>(match x5 with | .inl x5=>some (.inr x5) | .inr x5=>Zky e rc a b limit (w64 (w64 (b-1)-w64 (x3.1-a))) true true x5)
    else bif x3.2==1 then (ZM a b e l).bind fun x5=>(match x5 with | .inl x5=>some (.inr x5) | .inr x5=>Zky e rc a b limit x3.1 true true x5)
    else Zky e rc a b limit x3.1 true true l
   else
    (ZL a b e l).bind fun x3=>
    bif x3.2==2 then (ZJ a b e l).bind fun x4=>Zky e rc a b limit (w64 (w64 (b-1)-w64 (x3.1-a))) true false x4
    else Zky e rc a b limit x3.1 true false l
  else
   (Z7 a b e l).bind fun x0=>(ZL a b e x0).bind fun x3=>
    bif x3.2==2 then (ZJ a b e x0).bind fun x4=>Zky e rc a b (w64 (limit-1)) (w64 (w64 (b-1)-w64 (x3.1-a))) false wp x4
    else Zky e rc a b (w64 (limit-1)) x3.1 false wp x0)):=by
 cases wb<;>cases wp<;>rfl
end Go.Proofs.YtljgncbdagmeeaaDoor
namespace Go.Proofs.YtljgncbdagmeeaaDoor
open Go Go.Proofs.YtljgncbdagmeeaaDoorE Go.Sort
set_option linter.unusedVariables false
set_option linter.unusedSimpArgs false
noncomputable def after (e:Int→Int→Option Int) (rc:Int→Int→Int→(Int→Int→Option Int)→List Int→Option (List Int)) (x:Option (ZuL⊕List Int)):Option (List Int):=
 match x with | some (.inl s')=>lp (ZN e rc) s' | some (.inr r)=>some r | none=>none
theorem Zsj (e:Int→Int→Option Int) (rc:Int→Int→Int→(Int→Int→Option Int)→List Int→Option (List Int)) (s:ZuL):lp (ZN e rc) s=after e rc (ZN e rc s):=by
 rw[Zbl]
 unfold after
 cases ZN e rc s with
 | none=>rfl
 | some t=>cases t<;>rfl
def Res (P:Int→Prop) (r:Option (List Int)) (X:Array Int) (n:Nat):Prop:=r=some X.toList∧OKA P X∧X.size=n
section
variable {cmp:Int→Int→Option Int} {c:Int→Int→Int} {P:Int→Prop} (hc:ZoJ cmp c P) (hs:SWO (ltC c))
include hc hs
def ZlA (cmp:Int→Int→Option Int) (c:Int→Int→Int) (P:Int→Prop) (rc:Int→Int→Int→(Int→Int→Option Int)→List Int→Option (List Int)) (k:Nat):Prop:=
 ∀(a b limit:Nat) (wb wp:Bool) (d:Array Int),b-a≤k→a≤b→b≤d.size→OKA P d→limit≤1000 →
  Res P (rc (a:Int) (b:Int) (limit:Int) cmp d.toList) (pdq (ltC c) d a b limit true true) d.size ∧
  Res P (lp (ZN cmp rc) ((a:Int),(b:Int),(limit:Int),wb,wp,d.toList)) (pdq (ltC c) d a b limit wb wp) d.size
theorem Zqe {rc:Int→Int→Int→(Int→Int→Option Int)→List Int→Option (List Int)} {k:Nat} (ih:ZlA cmp c P rc k) (a b limit pivot:Nat) (d:Array Int) (hk:b-a≤k+1) (h1:a≤pivot) (h2:pivot<b) (hb:b≤d.size) (hd:OKA P d) (hl:limit≤1000) :
  Res P (after cmp rc (ZqA cmp rc (a:Int) (b:Int) (limit:Int) (pivot:Int) d.toList)) (match partition (ltC c) d a b pivot with
   | (mid,alreadyPartitioned,d4)=>
    if _h:a≤mid∧mid<b then
     if mid-a<b-mid then pdq (ltC c) (pdq (ltC c) d4 a mid limit true true) (mid+1) b limit (decide (mid-a ≥ (b-a) / 8)) alreadyPartitioned
     else pdq (ltC c) (pdq (ltC c) d4 (mid+1) b limit true true) a mid limit (decide (b-mid ≥ (b-a) / 8)) alreadyPartitioned
    else d4) d.size:=by
 have hz:=hd.sz
 obtain⟨p1,p2,p3⟩:=Zu3 hc a b pivot d h1 h2 hb hd
 obtain⟨r1,r2,_⟩:=partition_holds (ltC c) hs d a b pivot h1 h2 hb
 unfold ZqA
 rw[p1]
 generalize partition (ltC c) d a b pivot=q at *
 obtain⟨mid,ap,d4⟩:=q
 dsimp only at *
 rw[dif_pos ⟨r1,r2⟩]
 have e1:w64 ((mid:Int)-(a:Int))=((mid-a:Nat):Int):=Zap (by omega) (by omega)
 have e2:w64 ((b:Int)-(mid:Int))=((b-mid:Nat):Int):=Zap (by omega) (by omega)
 have e3:w64 ((b:Int)-(a:Int))=((b-a:Nat):Int):=Zap (by omega) (by omega)
 have e4:w64 (Int.tdiv ((b-a:Nat):Int) 8)=(((b-a) / 8:Nat):Int):=by
  rw[Int.tdiv_eq_ediv_of_nonneg (by omega)]
  exact Zap (by omega) (by omega)
 have e5:w64 ((mid:Int)+1)=((mid+1:Nat):Int):=Zap (by omega) (by omega)
 by_cases hlt:mid-a<b-mid
 ·obtain⟨⟨u1,u2,u3⟩,_⟩:=ih a mid limit true true d4 (by omega) r1 (by omega) p2 hl
  rw[if_pos hlt]
  by_cases ht:mid-a ≥ (b-a) / 8
  ·obtain⟨_,v1,v2,v3⟩:=ih (mid+1) b limit true ap (pdq (ltC c) d4 a mid limit true true) (by omega) (by omega) (by omega) u2 hl
   rw[decide_eq_true ht]
   refine⟨?_,v2,by omega⟩
   cases ap<;>simp only[cond_true,cond_false,Option.bind_some,e1,e2,e3,e4,e5,Ze8,ZfS,decide_eq_true hlt,decide_eq_true (show(b-a) / 8≤mid-a from ht),u1,after]<;>exact v1
  ·obtain⟨_,v1,v2,v3⟩:=ih (mid+1) b limit false ap (pdq (ltC c) d4 a mid limit true true) (by omega) (by omega) (by omega) u2 hl
   rw[decide_eq_false ht]
   refine⟨?_,v2,by omega⟩
   cases ap<;>simp only[cond_true,cond_false,Option.bind_some,e1,e2,e3,e4,e5,Ze8,ZfS,decide_eq_true hlt,decide_eq_false (show ¬(b-a) / 8≤mid-a from ht),u1,after]<;>exact v1
 ·obtain⟨⟨u1,u2,u3⟩,_⟩:=ih (mid+1) b limit true true d4 (by omega) (by omega) (by omega) p2 hl
  rw[if_neg hlt]
  by_cases ht:b-mid ≥ (b-a) / 8
  ·obtain⟨_,v1,v2,v3⟩:=ih a mid limit true ap (pdq (ltC c) d4 (mid+1) b limit true true) (by omega) r1 (by omega) u2 hl
   rw[decide_eq_true ht]
   refine⟨?_,v2,by omega⟩
   cases ap<;>simp only[cond_true,cond_false,Option.bind_some,e1,e2,e3,e4,e5,Ze8,ZfS,decide_eq_false hlt,decide_eq_true (show(b-a) / 8≤b-mid from ht),u1,after]<;>exact v1
  ·obtain⟨_,v1,v2,v3⟩:=ih a mid limit false ap (pdq (ltC c) d4 (mid+1) b limit true true) (by omega) r1 (by omega) u2 hl
   rw[decide_eq_false ht]
   refine⟨?_,v2,by omega⟩
   cases ap<;>simp only[cond_true,cond_false,Option.bind_some,e1,e2,e3,e4,e5,Ze8,ZfS,decide_eq_false hlt,decide_eq_false (show ¬(b-a) / 8≤b-mid from ht),u1,after]<;>exact v1
theorem Zd9 {rc:Int→Int→Int→(Int→Int→Option Int)→List Int→Option (List Int)} {k:Nat} (ih:ZlA cmp c P rc k) (a b limit pivot:Nat) (wb wp:Bool) (d:Array Int) (hk:b-a≤k+1) (h1:a≤pivot) (h2:pivot<b) (hb:b≤d.size) (hd:OKA P d) (hl:limit≤1000) :
  Res P (after cmp rc (Zky cmp rc (a:Int) (b:Int) (limit:Int) (pivot:Int) wb wp d.toList)) (if (decide (a > 0) && !ltC c d[a-1]! d[pivot]!)=true then
    match partitionEqual (ltC c) d a b pivot with
    | (mid,d4)=>if _h:a<mid∧mid≤b then pdq (ltC c) d4 mid b limit wb wp else d4
   else
    match partition (ltC c) d a b pivot with
    | (mid,alreadyPartitioned,d4)=>
     if _h:a≤mid∧mid<b then
      if mid-a<b-mid then pdq (ltC c) (pdq (ltC c) d4 a mid limit true true) (mid+1) b limit (decide (mid-a ≥ (b-a) / 8)) alreadyPartitioned
      else pdq (ltC c) (pdq (ltC c) d4 (mid+1) b limit true true) a mid limit (decide (b-mid ≥ (b-a) / 8)) alreadyPartitioned
     else d4) d.size:=by
 have hz:=hd.sz
 have pa:=Zqe hc hs ih a b limit pivot d hk h1 h2 hb hd hl
 have ip:pivot<d.size:=by omega
 unfold Zky
 by_cases ha:0<a
 ·have ia:a-1<d.size:=by omega
  have e1:w64 ((a:Int)-1)=((a-1:Nat):Int):=Zap (by omega) (by omega)
  have e3:=hc _ _ (hd.el _ ia) (hd.el _ ip)
  simp only[decide_eq_true (show(0:Int)<(a:Int) by omega),cond_true,e1,Zbv ia,Zbv ip,Option.bind_some,e3]
  by_cases h:c d[a-1]! d[pivot]! < 0
  ·rw[decide_eq_true h,if_neg (by simp[ltC,h])]
   exact pa
  ·rw[decide_eq_false h,if_pos (by simp[ltC,h,ha])]
   obtain⟨q1,q2,q3,q4,q5⟩:=Zt1 hc a b pivot d h1 h2 hb hd
   generalize partitionEqual (ltC c) d a b pivot=q at *
   obtain⟨mid,d4⟩:=q
   dsimp only at *
   rw[dif_pos ⟨q4,q5⟩]
   obtain⟨_,v1,v2,v3⟩:=ih mid b limit wb wp d4 (by omega) q5 (by omega) q2 hl
   simp only[cond_false,q1,Option.bind_some,after]
   exact⟨v1,v2,by omega⟩
 ·rw[if_neg (by simp[ha])]
  simp only[decide_eq_false (show ¬(0:Int)<(a:Int) by omega),cond_false]
  exact pa
theorem Znn {rc:Int→Int→Int→(Int→Int→Option Int)→List Int→Option (List Int)} {k:Nat} (ih:ZlA cmp c P rc k) (a b limit:Nat) (wb wp:Bool) (d:Array Int) (hk:b-a≤k+1) (hab:a≤b) (hb:b≤d.size) (hd:OKA P d) (hl:limit≤1000) :
  Res P (lp (ZN cmp rc) ((a:Int),(b:Int),(limit:Int),wb,wp,d.toList)) (pdq (ltC c) d a b limit wb wp) d.size:=by
 have hz:=hd.sz
 have e1:w64 ((b:Int)-(a:Int))=((b-a:Nat):Int):=Zap (by omega) (by omega)
 rw[Zsj,Zm1,pdq,e1]
 by_cases h12:b-a≤12
 ·obtain⟨q1,q2,q3⟩:=ZvE hc a b d hb hab hd
  rw[decide_eq_true (show((b-a:Nat):Int)≤12 by omega),if_pos h12]
  simp only[cond_true,q1,Option.bind_some,after]
  exact⟨rfl,q2,q3⟩
 rw[decide_eq_false (show ¬((b-a:Nat):Int)≤12 by omega),if_neg h12]
 by_cases h0:limit=0
 ·obtain⟨q1,q2,q3⟩:=Zwf hc a b d hab hb hd
  rw[show((limit:Int)==0)=true by simp[h0],if_pos h0]
  simp only[cond_false,cond_true,q1,Option.bind_some,after]
  exact⟨rfl,q2,q3⟩
 rw[show((limit:Int)==0)=false by simpa using (show ¬(limit:Int)=0 by omega),if_neg h0]
 have hl2:∀x:Nat,(ZmM Hint.unknown==2)=false∧(ZmM Hint.unknown==1)=false∧(ZmM Hint.increasing==2)=false∧(ZmM Hint.increasing==1)=true∧(ZmM Hint.decreasing==2)=true:=fun _=>⟨rfl,rfl,rfl,rfl,rfl⟩
 obtain⟨g1,g2,g3,g4,g5⟩:=hl2 0
 have rp:∀p:Nat,a≤p→p<b→w64 (w64 ((b:Int)-1)-w64 ((p:Int)-(a:Int)))=(((b-1)-(p-a):Nat):Int):=fun p h1 h2=>by
  have x1:w64 ((b:Int)-1)=((b-1:Nat):Int):=Zap (by omega) (by omega)
  have x2:w64 ((p:Int)-(a:Int))=((p-a:Nat):Int):=Zap (by omega) (by omega)
  rw[x1,x2]
  exact Zap (by omega) (by omega)
 cases wb with
 | true=>
  have pv:=ZvI hc a b d (by omega) hb hd
  have pr:=choosePivot_holds (ltC c) d a b (by omega)
  simp only[cond_false,cond_true,Bool.not_true,Bool.false_eq_true,if_false,Bool.true_and]
  generalize choosePivot (ltC c) d a b=cp at *
  obtain⟨p,h⟩:=cp
  dsimp only at *
  cases wp with
  | true=>
   simp only[cond_true,pv,Option.bind_some]
   cases h with
   | decreasing=>
    obtain⟨v1,v2,v3⟩:=ZtF (P:=P) cmp a b d (by omega) hb hd
    obtain⟨w1,w2,w3⟩:=ZvJ hc a b (reverseRange d a b) (by omega) (by omega) v2
    simp only[g5,cond_true,v1,Option.bind_some,w1,if_true,decide_true,Bool.and_self]
    generalize partialInsertionSort (ltC c) (reverseRange d a b) a b=pi at *
    obtain⟨d3,fin⟩:=pi
    dsimp only at *
    cases fin with
    | true=>exact⟨rfl,w2,w3.trans v3⟩
    | false=>
     rw[rp p pr.1 pr.2]
     have:=Zd9 hc hs ih a b limit ((b-1)-(p-a)) true true d3 hk (by omega) (by omega) (by omega) w2 hl
     rw[show d3.size=d.size by omega] at this
     exact this
   | increasing=>
    obtain⟨w1,w2,w3⟩:=ZvJ hc a b d (by omega) hb hd
    simp only[g3,g4,cond_true,cond_false,w1,Option.bind_some,reduceCtorEq,if_false,if_true,decide_true,Bool.and_self]
    generalize partialInsertionSort (ltC c) d a b=pi at *
    obtain⟨d3,fin⟩:=pi
    dsimp only at *
    cases fin with
    | true=>exact⟨rfl,w2,w3⟩
    | false=>
     have:=Zd9 hc hs ih a b limit p true true d3 hk pr.1 pr.2 (by omega) w2 hl
     rw[show d3.size=d.size by omega] at this
     exact this
   | unknown=>
    simp only[g1,g2,cond_false,reduceCtorEq,if_false,decide_false,Bool.and_false,Bool.false_eq_true]
    exact Zd9 hc hs ih a b limit p true true d hk pr.1 pr.2 hb hd hl
  | false=>
   simp only[cond_false,pv,Option.bind_some,Bool.false_and,Bool.false_eq_true,if_false]
   cases h with
   | decreasing=>
    obtain⟨v1,v2,v3⟩:=ZtF (P:=P) cmp a b d (by omega) hb hd
    simp only[g5,cond_true,v1,Option.bind_some,if_true]
    rw[rp p pr.1 pr.2]
    have:=Zd9 hc hs ih a b limit ((b-1)-(p-a)) true false (reverseRange d a b) hk (by omega) (by omega) (by omega) v2 hl
    rw[v3] at this
    exact this
   | increasing=>
    simp only[g3,cond_false,reduceCtorEq,if_false]
    exact Zd9 hc hs ih a b limit p true false d hk pr.1 pr.2 hb hd hl
   | unknown=>
    simp only[g1,cond_false,reduceCtorEq,if_false]
    exact Zd9 hc hs ih a b limit p true false d hk pr.1 pr.2 hb hd hl
 | false=>
  obtain⟨b1,b2,b3⟩:=ZyM (P:=P) cmp a b d hab hb hd
  have pv:=ZvI hc a b (breakPatterns d a b) (by omega) (by omega) b2
  have pr:=choosePivot_holds (ltC c) (breakPatterns d a b) a b (by omega)
  have el:w64 ((limit:Int)-1)=((limit-1:Nat):Int):=Zap (by omega) (by omega)
  simp only[cond_false,b1,Option.bind_some,pv,Bool.not_false,if_true,Bool.false_and,Bool.false_eq_true,if_false,el]
  generalize choosePivot (ltC c) (breakPatterns d a b) a b=cp at *
  obtain⟨p,h⟩:=cp
  dsimp only at *
  cases h with
  | decreasing=>
   obtain⟨v1,v2,v3⟩:=ZtF (P:=P) cmp a b (breakPatterns d a b) (by omega) (by omega) b2
   simp only[g5,cond_true,v1,Option.bind_some,if_true]
   rw[rp p pr.1 pr.2]
   have:=Zd9 hc hs ih a b (limit-1) ((b-1)-(p-a)) false wp (reverseRange (breakPatterns d a b) a b) hk (by omega) (by omega) (by omega) v2 (by omega)
   rw[v3,b3] at this
   exact this
  | increasing=>
   simp only[g3,cond_false,reduceCtorEq,if_false]
   have:=Zd9 hc hs ih a b (limit-1) p false wp (breakPatterns d a b) hk pr.1 pr.2 (by omega) b2 (by omega)
   rw[b3] at this
   exact this
  | unknown=>
   simp only[g1,cond_false,reduceCtorEq,if_false]
   have:=Zd9 hc hs ih a b (limit-1) p false wp (breakPatterns d a b) hk pr.1 pr.2 (by omega) b2 (by omega)
   rw[b3] at this
   exact this
theorem Zvg:∀(k m:Nat),k≤m→ZlA cmp c P (ZU (m+1)) k:=by
 intro k
 induction k with
 | zero=>
  intro m hm
  have base:∀(rc:Int→Int→Int→(Int→Int→Option Int)→List Int→Option (List Int)) (a b limit:Nat) (wb wp:Bool) (d:Array Int),b-a≤0→a≤b→b≤d.size→OKA P d→Res P (lp (ZN cmp rc) ((a:Int),(b:Int),(limit:Int),wb,wp,d.toList)) (pdq (ltC c) d a b limit wb wp) d.size:=by
   intro rc a b limit wb wp d hk hab hb hd
   have hz:=hd.sz
   have e1:w64 ((b:Int)-(a:Int))=((b-a:Nat):Int):=Zap (by omega) (by omega)
   obtain⟨q1,q2,q3⟩:=ZvE hc a b d hb hab hd
   rw[Zbl,Zm1,pdq,e1,decide_eq_true (show((b-a:Nat):Int)≤12 by omega),if_pos (by omega)]
   simp only[cond_true,q1,Option.bind_some]
   exact⟨rfl,q2,q3⟩
  intro a b limit wb wp d hk hab hb hd hl
  refine⟨?_,base _ a b limit wb wp d hk hab hb hd⟩
  obtain⟨r1,r2⟩:=base (ZU m) a b limit true true d hk hab hb hd
  refine⟨?_,r2⟩
  show Zao (ZU m) (a:Int) (b:Int) (limit:Int) cmp d.toList=_
  unfold Zao
  rw[r1]; rfl
 | succ k ih=>
  intro m hm a b limit wb wp d hk hab hb hd hl
  refine⟨?_,Znn hc hs (ih m (by omega)) a b limit wb wp d hk hab hb hd hl⟩
  obtain⟨m',rfl⟩:∃m',m=m'+1:=⟨m-1,by omega⟩
  obtain⟨r1,r2⟩:=Znn hc hs (ih m' (by omega)) a b limit true true d hk hab hb hd hl
  refine⟨?_,r2⟩
  show Zao (ZU (m'+1)) (a:Int) (b:Int) (limit:Int) cmp d.toList=_
  unfold Zao
  rw[r1]; rfl
theorem Zu6 (l:List Int) (hl:l.length≤1000) (hP:∀x∈l,P x):ZaE cmp l=some (Sort.sort (ltC c) l.toArray).toList:=by
 have hd:OKA P l.toArray:=⟨fun i hi=>by
  have hi':i<l.length:=by simpa using hi
  rw[getElem!_pos l.toArray i hi]
  simpa using hP _ (List.getElem_mem hi'),by simpa using hl⟩
 obtain⟨l1,_,_⟩:=Ztk hl
 have hbl:bitsLen l.length≤1000:=by
  unfold bitsLen
  split
  ·omega
  ·have:Nat.log2 l.length<11:=(Nat.log2_lt (by assumption)).2 (by omega)
   omega
 have key:∀n,l.length+1≤n→ZU n 0 (l.length:Int) (bitsLen l.length:Int) cmp l=some (Sort.sort (ltC c) l.toArray).toList:=by
  intro n hn
  obtain⟨m,rfl⟩:∃m,n=m+1:=⟨n-1,by omega⟩
  obtain⟨⟨r1,_⟩,_⟩:=Zvg hc hs l.length m (by omega) 0 l.length (bitsLen l.length) true true l.toArray (by omega) (by omega) (by simp) hd hbl
  refine(r1:ZU (m+1) 0 (l.length:Int) (bitsLen l.length:Int) cmp l=_).trans ?_
  unfold Sort.sort
  rw[List.size_toArray]
 unfold ZaE ZcZ
 rw[l1,Option.bind_some,Zuw key]
 rfl
theorem Zwr (l:List Int) (hl:l.length≤1000) (hP:∀x∈l,P x):∃r:List Int,ZaE cmp l=some r∧r.Perm l∧r.Pairwise (fun x y=>ltC c y x=false):=by
 refine⟨_,Zu6 hc hs l hl hP,?_⟩
 obtain⟨⟨h1,_,h2⟩,h3⟩:=sort_sorts (ltC c) hs l.toArray
 generalize Sort.sort (ltC c) l.toArray=d at *
 constructor
 ·have e1:d.extract 0 l.toArray.size=d:=by rw[← h1]; simp
  rw[e1] at h2
  simpa using h2
 ·rw[List.pairwise_iff_getElem]
  intro i j hi hj hij
  have hj':j<d.size:=by simpa using hj
  have hi':i<d.size:=by omega
  have:=h3 i j (Nat.zero_le _) hij (by omega)
  rw[getElem!_pos d j hj',getElem!_pos d i hi'] at this
  simpa using this
end
end Go.Proofs.YtljgncbdagmeeaaDoor
namespace Go.Proofs.YtljgncbdagmeeaaDoor
open Go Go.Proofs.YtljgncbdagmeeaaDoorE Go.Sort
set_option linter.unusedVariables false
set_option linter.unusedSimpArgs false
def sel {γ:Type} (p:γ→Bool) (g:Nat→γ→Int):Nat→List γ→List Int
 | _,[]=>[]
 | i,x :: l=>bif p x then g i x :: sel p g (i+1) l else sel p g (i+1) l
theorem Zly {γ:Type} (p:γ→Bool) (g:Nat→γ→Int):∀(l:List γ) (i:Nat),(sel p g i l).length=l.countP p
 | [],_=>rfl
 | x :: l,i=>by
  unfold sel
  have ih:=Zly p g l (i+1)
  cases h:p x with
  | true=>simp[ih,h]
  | false=>simp[ih,h]
theorem Zn4 {γ:Type} (p:γ→Bool) (g:Nat→γ→Int) (z:Int):∀(l:List γ) (i:Nat),z∈sel p g i l↔∃j x,l[j]? = some x∧p x=true∧z=g (i+j) x
 | [],i=>by simp[sel]
 | x :: l,i=>by
  have ih:=Zn4 p g z l (i+1)
  have key:(∃j y,(x :: l)[j]? = some y∧p y=true∧z=g (i+j) y)↔(p x=true∧z=g i x)∨∃j y,l[j]? = some y∧p y=true∧z=g (i+1+j) y:=by
   constructor
   ·rintro ⟨j,y,h1,h2,h3⟩
    cases j with
    | zero=>left; simp at h1; subst h1; exact⟨h2,h3⟩
    | succ j=>right; exact⟨j,y,by simpa using h1,h2,by rw[h3]; congr 1; omega⟩
   ·rintro (⟨h2,h3⟩ | ⟨j,y,h1,h2,h3⟩)
    ·exact⟨0,x,rfl,h2,h3⟩
    ·exact⟨j+1,y,by simpa using h1,h2,by rw[h3]; congr 1; omega⟩
  rw[key]
  unfold sel
  cases h:p x with
  | true=>simp[ih]
  | false=>simp[ih]
theorem Zwu {γ:Type} (l:List γ) (hl:l.length≤1000) (p:γ→Bool) (g:Nat→γ→Int) (step:Int×List Int→Option ((Int×List Int)⊕List Int))
  (h1:∀i x s,i<l.length→l[i]? = some x→step ((i:Int),s)=(bif p x then (bif Nat.ble (s.length+1) lim then some (.inl (((i+1:Nat):Int),s++[g i x])) else none) else some (.inl (((i+1:Nat):Int),s))))
  (h2:∀s,step ((l.length:Int),s)=some (.inr s)) (s:List Int) (hs:s.length≤1000000):lp step (0,s)=some (s++sel p g 0 l):=by
 have key:=ZnW l step (fun i s=>((i:Int),s)) (fun i x s=>bif p x then (bif Nat.ble (s.length+1) lim then some (.inl (s++[g i x])) else none) else some (.inl s)) (fun s=>some s) (fun i x s hi hx=>by
   rw[h1 i x s hi hx]
   cases p x<;>cases Nat.ble (s.length+1) lim<;>rfl) (fun s=>h2 s) s
 refine(key:lp step (0,s)=_).trans ?_
 have:∀(l:List γ) (i:Nat) (s:List Int),s.length+l.length≤1001000→ZkM (fun i x s=>bif p x then (bif Nat.ble (s.length+1) lim then some (Sum.inl (s++[g i x])) else (none:Option (List Int⊕List Int))) else some (.inl s)) (fun s=>some s) i l s=some (s++sel p g i l):=by
  intro l
  induction l with
  | nil=>intro i s _; simp[ZkM,sel]
  | cons x l ih=>
   intro i s hb
   rw[List.length_cons] at hb
   unfold ZkM sel
   cases p x with
   | true=>
    rw[Zh9 (show s.length+1≤1073741824 by omega)]
    simp only[cond_true]
    rw[ih (i+1) (s++[g i x]) (by rw[List.length_append,List.length_singleton]; omega)]
    simp
   | false=>
    simp only[cond_false]
    rw[ih (i+1) s (by omega)]
 exact this l 0 s (by omega)
theorem Zl8 (k:Int→Int):∀(l m:List Int),l.Pairwise (fun x y=>k x<k y)→m.Pairwise (fun x y=>k x<k y)→(∀z,z∈l↔z∈m)→l=m
 | [],[],_,_,_=>rfl
 | [],y :: m,_,_,h=>absurd ((h y).2 (by simp)) (by simp)
 | x :: l,[],_,_,h=>absurd ((h x).1 (by simp)) (by simp)
 | x :: l,y :: m,h1,h2,h=>by
  rw[List.pairwise_cons] at h1 h2
  have hxy:x=y:=by
   rcases List.mem_cons.1 ((h x).1 (by simp)) with e | e
   ·exact e
   ·rcases List.mem_cons.1 ((h y).2 (by simp)) with e2 | e2
    ·exact e2.symm
    ·have:=h2.1 _ e
     have:=h1.1 _ e2
     omega
  subst hxy
  congr 1
  refine Zl8 k l m h1.2 h2.2 fun z=>?_
  constructor
  ·intro hz
   rcases List.mem_cons.1 ((h z).1 (by simp[hz])) with e | e
   ·subst e
    have:=h1.1 _ hz
    omega
   ·exact e
  ·intro hz
   rcases List.mem_cons.1 ((h z).2 (by simp[hz])) with e | e
   ·subst e
    have:=h2.1 _ hz
    omega
   ·exact e
structure Zi7 (d:Zo):Prop where
 w:∀p∈d.parts,1≤p.work∧p.work≤100
 e:∀x∈d.edges,two d.parts.length x.src x.dst=true
 f:∀x∈d.futures,two d.parts.length x.maker x.user=true∧1≤x.pos∧x.pos≤Zdt d.parts x.user-1
 ne:∀(i j:Nat) (x y:Zi),i<j→d.futures[i]? = some x→d.futures[j]? = some y→¬(x.user=y.user∧x.pos=y.pos)
theorem Zod {d:Zo} (h:Zfz d=0):Zi7 d:=by
 unfold Zfz at h
 have all:Zjw d=true∧ZmO d=true∧d.parts.any ZeR=false∧Zfy (Zfd d) 0 d.edges=false∧Zfy (Zdv d) 0 d.futures=false:=by
  revert h
  cases Zjw d<;>cases ZmO d<;>cases d.parts.any ZeR<;>cases Zfy (Zfd d) 0 d.edges<;>cases Zfy (Zdv d) 0 d.futures<;>simp
 obtain⟨_,_,h3,h4,h5⟩:=all
 have he:∀(i:Nat) x,d.edges[i]? = some x→Zfd d i x=false:=fun i x hx=>by
  cases hb:Zfd d i x with
  | false=>rfl
  | true=>rw[(Zin _ _ 0).2 ⟨i,x,hx,by simpa using hb⟩] at h4; cases h4
 have hf:∀(i:Nat) x,d.futures[i]? = some x→Zdv d i x=false:=fun i x hx=>by
  cases hb:Zdv d i x with
  | false=>rfl
  | true=>rw[(Zin _ _ 0).2 ⟨i,x,hx,by simpa using hb⟩] at h5; cases h5
 refine⟨ZmQ h3,fun x hx=>?_,fun x hx=>?_,fun i j x y hij hx hy=>?_⟩
 ·obtain⟨i,hi⟩:=List.getElem?_of_mem hx
  have:=he i x hi
  unfold Zfd at this
  simp only[Bool.or_eq_false_iff,Bool.not_eq_false'] at this
  exact this.1
 ·obtain⟨i,hi⟩:=List.getElem?_of_mem hx
  have:=hf i x hi
  unfold Zdv ZcF at this
  simp only[Bool.or_eq_false_iff,Bool.not_eq_false',Bool.and_eq_true,decide_eq_true_eq] at this
  exact⟨this.1,this.2.1.1,this.2.1.2⟩
 ·rintro ⟨h1,h2⟩
  have:=hf j y hy
  unfold Zdv at this
  simp only[Bool.or_eq_false_iff] at this
  have h6:=List.any_eq_false.1 this.2.2 x (List.mem_of_getElem? (i:=i) (by rw[List.getElem?_take_of_lt hij]; exact hx))
  unfold again at h6
  simp[h1,h2] at h6
theorem ZiV {d:Zo} (g:Zi7 d) (u:Int):Zdt d.parts u≤100:=by
 unfold Zdt
 split
 ·rename_i p hp; exact(g.w p (List.mem_of_getElem? hp)).2
 ·omega
def Zd2 (fs:List Zi) (z:Int):Int:=match fs[z.toNat]? with | some f=>f.pos | none=>0
def Zlm (d:Zo) (u:Int):List Int:=sel (fun f:Zi=>f.user==u) (fun i _=>(i:Int)) 0 d.futures
theorem ZiH (d:Zo) (u z:Int):z∈Zlm d u↔∃(i:Nat) (f:Zi),d.futures[i]? = some f∧f.user=u∧z=(i:Int):=by
 unfold Zlm
 rw[Zn4]
 simp
theorem Zmw (d:Zo) (u:Int):(Zlm d u).Pairwise (fun x y=>x<y):=by
 have:∀(l:List Zi) (i:Nat),(sel (fun f:Zi=>f.user==u) (fun i _=>(i:Int)) i l).Pairwise (fun x y=>x<y)∧∀z∈sel (fun f:Zi=>f.user==u) (fun i _=>(i:Int)) i l,(i:Int)≤z:=by
  intro l
  induction l with
  | nil=>intro i; simp[sel]
  | cons x l ih=>
   intro i
   obtain⟨h1,h2⟩:=ih (i+1)
   unfold sel
   cases x.user==u with
   | true=>
    simp only[cond_true,List.pairwise_cons,List.mem_cons]
    refine⟨⟨fun z hz=>?_,h1⟩,?_⟩
    ·have:=h2 z hz; omega
    ·rintro z (rfl | hz)
     ·exact Int.le_refl _
     ·have:=h2 z hz; omega
   | false=>
    simp only[cond_false]
    exact⟨h1,fun z hz=>by have:=h2 z hz; omega⟩
 exact(this d.futures 0).1
structure Ze0 (d:Zo) (u:Int) (r:List Int):Prop where
 mem:∀z,z∈r↔∃(i:Nat) (f:Zi),d.futures[i]? = some f∧f.user=u∧z=(i:Int)
 rise:r.Pairwise (fun x y=>Zd2 d.futures x<Zd2 d.futures y)
theorem Ze0.eq {d:Zo} {u:Int} {r s:List Int} (h1:Ze0 d u r) (h2:Ze0 d u s):r=s:=Zl8 (Zd2 d.futures) r s h1.rise h2.rise fun z=>by rw[h1.mem,h2.mem]
theorem ZoM {l:List Int} {p q:Int→Int→Prop} (h:l.Pairwise p) (hq:∀x y,x∈l→y∈l→p x y→q x y):l.Pairwise q:=by
 rw[List.pairwise_iff_getElem] at h ⊢
 exact fun i j hi hj hij=>hq _ _ (List.getElem_mem hi) (List.getElem_mem hj) (h i j hi hj hij)
theorem ZtW {d:Zo} (g:Zi7 d) {u x y:Int} (hx:∃(i:Nat) (f:Zi),d.futures[i]? = some f∧f.user=u∧x=(i:Int)) (hy:∃(i:Nat) (f:Zi),d.futures[i]? = some f∧f.user=u∧y=(i:Int)) (hne:x≠y):Zd2 d.futures x≠Zd2 d.futures y:=by
 obtain⟨i,f,h1,h2,rfl⟩:=hx
 obtain⟨j,e,h3,h4,rfl⟩:=hy
 intro he
 unfold Zd2 at he
 rw[Int.toNat_natCast,Int.toNat_natCast,h1,h3] at he
 simp only at he
 rcases Nat.lt_trichotomy i j with h | h | h
 ·exact g.ne i j f e h h1 h3 ⟨h2.trans h4.symm,he⟩
 ·exact hne (by rw[h])
 ·exact g.ne j i e f h h3 h1 ⟨h4.trans h2.symm,he.symm⟩
theorem Zr8 {d:Zo} (g:Zi7 d):ZoJ (fun z0 z1=>Zr z0 z1 d.futures) (fun x y=>Zd2 d.futures x-Zd2 d.futures y) (fun z=>0≤z∧z.toNat<d.futures.length):=by
 intro x y hx hy
 have b:∀z:Int,z.toNat<d.futures.length→∃f,d.futures[z.toNat]? = some f∧Zd2 d.futures z=f.pos∧1≤f.pos∧f.pos≤100:=fun z hz=>by
  have hm:=List.getElem_mem hz
  have:=g.f _ hm
  have hw:=ZiV g d.futures[z.toNat].user
  exact⟨d.futures[z.toNat],List.getElem?_eq_getElem hz,by unfold Zd2; rw[List.getElem?_eq_getElem hz],this.2.1,by omega⟩
 obtain⟨f,f1,f2,f3,f4⟩:=b x hx.2
 obtain⟨e,e1,e2,e3,e4⟩:=b y hy.2
 show Zr x y d.futures=some (Zd2 d.futures x-Zd2 d.futures y)
 unfold Zr
 rw[ZoA hx.1 f1,ZoA hy.1 e1]
 simp only[Option.bind_some]
 rw[f2,e2,Zcm (by omega) (by omega)]
theorem ZuR (k:Int→Int):SWO (ltC fun x y=>k x-k y):=by
 refine⟨fun x=>?_,fun x y z h1 h2=>?_,fun x y z h1 h2=>?_⟩
 ·show decide (k x-k x<0)=false
  exact decide_eq_false (by omega)
 ·simp only[ltC,decide_eq_true_eq] at *
  omega
 ·simp only[ltC,decide_eq_false_iff_not] at *
  omega
theorem Zrw (d:Zo) (h:Ziv d) (hf:d.futures.length≤1000) (hc:Zfz d=0) (u:Int):∃r,ZcE d u=some r∧Ze0 d u r:=by
 have g:=Zod hc
 have key:=Zwu d.futures hf (fun f:Zi=>f.user==u) (fun i _=>(i:Int)) (ZcN d u) (fun i x s hi hx=>by
   simp only[ZcN,ZeA hi,ZaX hx,Option.bind_some,Z8 hi h.f,cond_true]) (fun s=>by simp only[ZcN,Zfe]; rfl) [] (by simp)
 have hP:∀x∈Zlm d u,0≤x∧x.toNat<d.futures.length:=fun x hx=>by
  obtain⟨i,f,h1,h2,rfl⟩:=(ZiH d u x).1 hx
  have:=(List.getElem?_eq_some_iff.1 h1).1
  exact⟨by omega,by simpa using this⟩
 have hlen:(Zlm d u).length≤1000:=by
  unfold Zlm
  rw[Zly]
  exact Nat.le_trans List.countP_le_length hf
 obtain⟨r,h1,h2,h3⟩:=Zwr (Zr8 g) (ZuR _) (Zlm d u) hlen hP
 refine⟨r,?_,?_,?_⟩
 ·unfold ZcE
  rw[ZqH d h,hc]
  simp only[Option.bind_some,bne_self_eq_false,cond_false]
  rw[key,List.nil_append,Option.bind_some]
  show(ZaE (fun z0 z1=>Zr z0 z1 d.futures) (Zlm d u)).bind _=_
  rw[h1]
  rfl
 ·exact fun z=>by rw[h2.mem_iff,ZiH]
 ·have nd:r.Pairwise (fun x y=>x≠y):=(h2.pairwise_iff (fun h=>Ne.symm h)).2 ((Zmw d u).imp fun h=>by omega)
  refine ZoM (h3.and nd) fun x y hx hy hp=>?_
  have a:=(ZiH d u x).1 (h2.mem_iff.1 hx)
  have b:=(ZiH d u y).1 (h2.mem_iff.1 hy)
  have h4:=ZtW g a b hp.2
  have h5:=hp.1
  simp only[ltC,decide_eq_false_iff_not] at h5
  omega
theorem Zm8 {d:Zo} {u:Int} {r:List Int} (h:Ze0 d u r):r.length=(Zlm d u).length:=by
 have nd1:r.Nodup:=h.rise.imp fun hp he=>by rw[he] at hp; omega
 have nd2:(Zlm d u).Nodup:=(Zmw d u).imp fun hp he=>by omega
 exact((List.perm_ext_iff_of_nodup nd1 nd2).2 fun z=>by rw[h.mem,ZiH]).length_eq
theorem Zpl {d:Zo} {u:Int} {r:List Int} (h:Ze0 d u r):r.length≤d.futures.length:=by
 rw[Zm8 h]
 unfold Zlm
 rw[Zly]
 exact List.countP_le_length
end Go.Proofs.YtljgncbdagmeeaaDoor
namespace Go.Proofs.YtljgncbdagmeeaaDoor
open Go Go.Proofs.YtljgncbdagmeeaaDoorE
set_option linter.unusedVariables false
set_option linter.unusedSimpArgs false
structure Zc7 (d:Zo):Prop where
 g:Zi7 d
 ins:∀b∈d.barriers,∀q∈b.ins,0≤q∧q.toNat<d.parts.length
 outs:∀b∈d.barriers,∀q∈b.outs,0≤q∧q.toNat<d.parts.length
 disj:∀b∈d.barriers,∀q∈b.ins,q∉b.outs
 pl:d.parts.length≤16
 el:d.edges.length≤48
 fl:d.futures.length≤16
 bl:d.barriers.length≤4
 p1:1≤d.parts.length
 arg:∀p∈d.parts,0≤p.arg∧p.arg≤2147483647
theorem Zsi {n:Nat} {l:List Int} (h:Zjk n l=true):∀q∈l,0≤q∧q.toNat<n:=by
 intro q hq
 unfold Zjk at h
 simp only[Bool.and_eq_true,Bool.not_eq_true'] at h
 obtain⟨i,hi⟩:=List.getElem?_of_mem hq
 have:Znk n l i q=false:=by
  cases hb:Znk n l i q with
  | false=>rfl
  | true=>rw[(Zin _ _ 0).2 ⟨i,q,hi,by simpa using hb⟩] at h; exact absurd h.1 (by simp)
 unfold Znk ZcF at this
 simp only[Bool.or_eq_false_iff,Bool.not_eq_false',Bool.and_eq_true,decide_eq_true_eq] at this
 omega
theorem ZoY {d:Zo} (h:Zfz d=0):Zc7 d:=by
 have g:=Zod h
 unfold Zfz at h
 have all:Zjw d=true∧d.barriers.any (Zep d.parts.length)=false∧d.parts.any ZeR=false:=by
  revert h
  cases Zjw d<;>cases ZmO d<;>cases d.parts.any ZeR<;>cases Zfy (Zfd d) 0 d.edges<;>cases Zfy (Zdv d) 0 d.futures<;>cases d.barriers.any (Zep d.parts.length)<;>simp
 have hb:∀b∈d.barriers,Zjk d.parts.length b.ins=true∧Zjk d.parts.length b.outs=true∧b.ins.any (ZmP b)=false:=fun b hb=>by
  have:=List.any_eq_false.1 all.2.1 b hb
  simp only[Zep,Bool.or_eq_true,Bool.not_eq_true',not_or,Bool.not_eq_false,Bool.not_eq_true] at this
  exact this
 have m:=all.1
 unfold Zjw ZcF at m
 simp only[Bool.and_eq_true,decide_eq_true_eq,Bool.not_eq_true',decide_eq_false_iff_not] at m
 refine⟨g,fun b h1=>Zsi (hb b h1).1,fun b h1=>Zsi (hb b h1).2.1,fun b h1 q h2 h3=>?_,by omega,by omega,by omega,by omega,by omega,fun p hp=>?_⟩
 case refine_2=>
  have:=List.any_eq_false.1 all.2.2 p hp
  simp only[ZeR,ZcF,Bool.not_eq_true,Bool.not_eq_false',Bool.and_eq_true,decide_eq_true_eq] at this
  exact this.2.1
 have:=List.any_eq_false.1 (hb b h1).2.2 q h2
 unfold ZmP at this
 exact this (List.any_eq_true.2 ⟨q,h3,by simp⟩)
def inR (d:Zo) (p:Int):Prop:=0≤p∧p.toNat<d.parts.length
theorem Zc7.src {d:Zo} (g:Zc7 d) {e:Zm} (h:e∈d.edges):inR d e.src:=(Zmp (g.g.e e h)).1
theorem Zc7.dst {d:Zo} (g:Zc7 d) {e:Zm} (h:e∈d.edges):inR d e.dst:=(Zmp (g.g.e e h)).2.1
theorem Zc7.maker {d:Zo} (g:Zc7 d) {f:Zi} (h:f∈d.futures):inR d f.maker:=(Zmp (g.g.f f h).1).1
theorem Zc7.user {d:Zo} (g:Zc7 d) {f:Zi} (h:f∈d.futures):inR d f.user:=(Zmp (g.g.f f h).1).2.1
theorem Zc7.short {d:Zo} (g:Zc7 d) (hs:∀b∈d.barriers,Zvr b):Ziv d:=⟨by have:=g.pl; omega,by have:=g.el; omega,by have:=g.fl; omega,by have:=g.bl; omega,hs⟩
end Go.Proofs.YtljgncbdagmeeaaDoor
namespace Go.Proofs.YtljgncbdagmeeaaDoor
open Go Go.Proofs.YtljgncbdagmeeaaDoorE
set_option linter.unusedVariables false
set_option linter.unusedSimpArgs false
def Zij (n:Nat) (x:Int):Bool:=decide (0≤x)&&decide (x<(n:Int))
end Go.Proofs.YtljgncbdagmeeaaDoor
namespace Go.Proofs.YtljgncbdagmeeaaDoor
open Go Go.Proofs.YtljgncbdagmeeaaDoorE
set_option linter.unusedVariables false
set_option linter.unusedSimpArgs false
theorem ZsB {γ:Type} (p:γ→Bool):∀(l:List γ) (i:Nat),(sel p (fun i _=>(i:Int)) i l).Pairwise (fun x y=>x<y)∧∀z∈sel p (fun i _=>(i:Int)) i l,(i:Int)≤z:=by
 intro l
 induction l with
 | nil=>intro i; simp[sel]
 | cons x l ih=>
  intro i
  obtain⟨h1,h2⟩:=ih (i+1)
  unfold sel
  cases p x with
  | true=>
   simp only[cond_true,List.pairwise_cons,List.mem_cons]
   refine⟨⟨fun z hz=>?_,h1⟩,?_⟩
   ·have:=h2 z hz; omega
   ·rintro z (rfl | hz)
    ·exact Int.le_refl _
    ·have:=h2 z hz; omega
  | false=>
   simp only[cond_false]
   exact⟨h1,fun z hz=>by have:=h2 z hz; omega⟩
def Zlc (d:Zo) (u:Int) (t:Int):List Int:=sel (fun f:Zi=>f.user==u&&f.pos==t) (fun i _=>(i:Int)) 0 d.futures
theorem ZkG (d:Zo) (u t z:Int):z∈Zlc d u t↔∃(i:Nat) (f:Zi),d.futures[i]? = some f∧f.user=u∧f.pos=t∧z=(i:Int):=by
 unfold Zlc
 rw[Zn4]
 simp[and_assoc]
theorem ZiT {d:Zo} {u t z:Int} (h:z∈Zlc d u t):Zd2 d.futures z=t:=by
 obtain⟨i,f,h1,_,h3,rfl⟩:=(ZkG d u t z).1 h
 unfold Zd2
 rw[Int.toNat_natCast,h1,← h3]
theorem Zmh {d:Zo} {u t z:Int} (h:z∈Zlc d u t):∃(i:Nat) (f:Zi),d.futures[i]? = some f∧f.user=u∧z=(i:Int):=by
 obtain⟨i,f,h1,h2,_,h4⟩:=(ZkG d u t z).1 h
 exact⟨i,f,h1,h2,h4⟩
def tl (d:Zo) (u:Int):Nat→Nat→List Int
 | _,0=>[]
 | i,k+1=>Zlc d u ((i+1:Nat):Int)++tl d u (i+1) k
theorem Zp3 (d:Zo) (u z:Int):∀(k i:Nat),z∈tl d u i k↔∃t:Nat,i<t∧t≤i+k∧z∈Zlc d u (t:Int)
 | 0,i=>by
  unfold tl
  constructor
  ·intro h; cases h
  ·rintro ⟨t,h1,h2,_⟩; omega
 | k+1,i=>by
  unfold tl
  rw[List.mem_append,Zp3 d u z k (i+1)]
  constructor
  ·rintro (h | ⟨t,h1,h2,h3⟩)
   ·exact⟨i+1,by omega,by omega,h⟩
   ·exact⟨t,by omega,by omega,h3⟩
  ·rintro ⟨t,h1,h2,h3⟩
   by_cases h:t=i+1
   ·subst h; exact .inl h3
   ·exact .inr ⟨t,by omega,by omega,h3⟩
theorem Zrm {d:Zo} (g:Zi7 d) (u:Int):∀(k i:Nat),(tl d u i k).Pairwise (fun x y=>Zd2 d.futures x<Zd2 d.futures y)
 | 0,i=>List.Pairwise.nil
 | k+1,i=>by
  unfold tl
  rw[List.pairwise_append]
  refine⟨?_,Zrm g u k (i+1),fun x hx y hy=>?_⟩
  ·refine ZoM (ZsB _ _ _).1 fun x y hx hy hlt=>?_
   have hx':x∈Zlc d u ((i+1:Nat):Int):=hx
   have hy':y∈Zlc d u ((i+1:Nat):Int):=hy
   exact absurd ((ZiT hx').trans (ZiT hy').symm) (ZtW g (Zmh hx') (Zmh hy') (by omega))
  ·obtain⟨t,h1,h2,h3⟩:=(Zp3 d u y k (i+1)).1 hy
   rw[ZiT hx,ZiT h3]
   omega
theorem Zqn {d:Zo} (g:Zi7 d) (u:Int):Ze0 d u (tl d u 0 99):=by
 refine⟨fun z=>?_,Zrm g u 99 0⟩
 rw[Zp3]
 constructor
 ·rintro ⟨t,_,_,h⟩; exact Zmh h
 ·rintro ⟨i,f,h1,h2,h3⟩
  have hf:=g.f f (List.mem_of_getElem? h1)
  have hw:=ZiV g f.user
  refine⟨f.pos.toNat,by omega,by omega,?_⟩
  rw[ZkG]
  exact⟨i,f,h1,h2,by omega,h3⟩
end Go.Proofs.YtljgncbdagmeeaaDoor
namespace Go.Proofs.YtljgncbdagmeeaaDoor
open Go Go.Proofs.YtljgncbdagmeeaaDoorE
set_option linter.unusedVariables false
set_option linter.unusedSimpArgs false
def Zix {γ S:Type} (f:Nat→S→γ→S):Nat→S→List γ→S
 | _,s,[]=>s
 | i,s,x :: l=>Zix f (i+1) (f i s x) l
theorem ZoV {γ S T R:Type} (l:List γ) (step:T→Option (T⊕R)) (st:Nat→S→T) (f:Nat→S→γ→S) (fin:S→R) (I:Nat→S→Prop)
  (h1:∀i x s,i<l.length→l[i]? = some x→I i s→step (st i s)=some (.inl (st (i+1) (f i s x)))∧I (i+1) (f i s x))
  (h2:∀s,I l.length s→step (st l.length s)=some (.inr (fin s))) (s:S) (h0:I 0 s) :
  lp step (st 0 s)=some (fin (Zix f 0 s l))∧I l.length (Zix f 0 s l):=by
 have key:∀(k i:Nat) (s:S),i+k=l.length→I i s→lp step (st i s)=some (fin (Zix f i s (l.drop i)))∧I l.length (Zix f i s (l.drop i)):=by
  intro k
  induction k with
  | zero=>
   intro i s hi hI
   have:i=l.length:=by omega
   subst this
   rw[List.drop_length,Zbl,h2 s hI]
   exact⟨rfl,hI⟩
  | succ k ih=>
   intro i s hi hI
   have hi':i<l.length:=by omega
   obtain⟨e,hI'⟩:=h1 i l[i] s hi' (List.getElem?_eq_getElem hi') hI
   rw[List.drop_eq_getElem_cons hi',Zbl,e]
   exact ih (i+1) _ (by omega) hI'
 have:=key l.length 0 s (by omega) h0
 rwa [List.drop_zero] at this
def Zf8 (w:Int):Bool:=decide (w<0) || decide (1000<w)
def Zli (g:Za2) (i:Nat) (e:Zm):Bool:=!(Zij g.work.length e.src) || (!(Zij g.work.length e.dst) || ((e.src==e.dst) || (g.edges.take i).any (ZlP e)))
def ZiD (g:Za2):Int:=bif decide (64<(g.work.length:Int)) || decide (256<(g.edges.length:Int)) then 40 else bif g.work.any Zf8 then 41 else bif Zfy (Zli g) 0 g.edges then 42 else 0
structure Zou (g:Za2):Prop where
 w:g.work.length<9223372036854775808
 e:g.edges.length<9223372036854775808
theorem Zsq (w:Int):ZcA w=some (Zf8 w):=by
 unfold ZcA Zf8
 cases decide (w<0)<;>cases decide (1000<w)<;>rfl
theorem ZtP (a:Int) (l:List Int):Zed a l=some (Zij l.length a):=by
 unfold Zed Zij
 cases decide (0≤a)<;>cases decide (a<(l.length:Int))<;>rfl
theorem ZpI (g:Za2) (h:Zou g):lp (Zdo g) 0=some (bif Zfy (Zli g) 0 g.edges then .inl () else .inr ()):=by
 have key:=ZfB g.edges (Zdo g) (Zli g) (fun _ _=>.inl ()) (.inr ()) (fun i x hi hx=>by
   have e0:decide ((0:Int)≤(i:Int))=true:=decide_eq_true (by omega)
   have e1:Nat.ble i g.edges.length=true:=Nat.ble_eq_true_of_le (by omega)
   simp only[Zdo,ZeA hi,ZaX hx,Option.bind_some,Z8 hi h.e,cond_true,ZtP,Zli,e0,Int.toNat_natCast,e1,ZnO _ x (ZjB h.e)]
   cases Zij g.work.length x.src<;>cases Zij g.work.length x.dst<;>cases (x.src==x.dst)<;>cases (g.edges.take i).any (ZlP x)<;>rfl) (by simp only[Zdo,Zfe]; rfl)
 rw[key,Zd7]
inductive Way (g:Za2):Int→Int→Prop
 | one {e:Zm}:e∈g.edges→Way g e.src e.dst
 | more {a:Int} {e:Zm}:Way g a e.src→e∈g.edges→Way g a e.dst
theorem Way.trans {g:Za2} {a b c:Int} (h1:Way g a b) (h2:Way g b c):Way g a c:=by
 induction h2 with
 | one he=>exact Way.more h1 he
 | more _ he ih=>exact Way.more (ih h1) he
def ZlL (g:Za2):Prop:=∀a,¬Way g a a
structure ZgS (g:Za2):Prop where
 wl:g.work.length≤64
 el:g.edges.length≤256
 w:∀x∈g.work,0≤x∧x≤1000
 src:∀e∈g.edges,0≤e.src∧e.src.toNat<g.work.length
 dst:∀e∈g.edges,0≤e.dst∧e.dst.toNat<g.work.length
theorem ZgS.short {g:Za2} (h:ZgS g):Zou g:=⟨by have:=h.wl; omega,by have:=h.el; omega⟩
theorem Znt {n:Nat} {a:Int} (h:Zij n a=true):0≤a∧a.toNat<n:=by
 unfold Zij at h
 simp only[Bool.and_eq_true,decide_eq_true_eq] at h
 omega
theorem ZoR {g:Za2} (h:ZiD g=0):ZgS g:=by
 unfold ZiD at h
 cases h1:decide (64<(g.work.length:Int)) with
 | true=>rw[h1] at h; simp at h
 | false=>
 cases h2:decide (256<(g.edges.length:Int)) with
 | true=>rw[h1,h2] at h; simp at h
 | false=>
 cases h3:g.work.any Zf8 with
 | true=>rw[h1,h2,h3] at h; simp at h
 | false=>
 cases h4:Zfy (Zli g) 0 g.edges with
 | true=>rw[h1,h2,h3,h4] at h; simp at h
 | false=>
 have hE:∀e∈g.edges,∃i,Zli g i e=false:=fun e he=>by
  obtain⟨i,hi⟩:=List.getElem?_of_mem he
  refine⟨i,?_⟩
  cases hb:Zli g i e with
  | false=>rfl
  | true=>rw[(Zin _ _ 0).2 ⟨i,e,hi,by simpa using hb⟩] at h4; cases h4
 refine⟨by have:=of_decide_eq_false h1; omega,by have:=of_decide_eq_false h2; omega,fun x hx=>?_,fun e he=>?_,fun e he=>?_⟩
 ·have:=List.any_eq_false.1 h3 x hx
  unfold Zf8 at this
  simp only[Bool.or_eq_true,decide_eq_true_eq,not_or] at this
  omega
 ·obtain⟨i,hi⟩:=hE e he
  unfold Zli at hi
  simp only[Bool.or_eq_false_iff,Bool.not_eq_false'] at hi
  exact Znt hi.1
 ·obtain⟨i,hi⟩:=hE e he
  unfold Zli at hi
  simp only[Bool.or_eq_false_iff,Bool.not_eq_false'] at hi
  exact Znt hi.2.1
theorem Way.src_in {g:Za2} (h:ZgS g) {a b:Int} (w:Way g a b):0≤a∧a.toNat<g.work.length:=by
 induction w with
 | one he=>exact h.src _ he
 | more _ _ ih=>exact ih
theorem Zth {g:Za2} (hg:ZlL g):∀(n:Nat) (S:List Int),S.length≤n→S≠[]→∃m∈S,∀e∈g.edges,e.dst=m→e.src∉S:=by
 intro n
 induction n with
 | zero=>intro S h1 h2; exact absurd (List.length_eq_zero_iff.1 (by omega)) h2
 | succ n ih=>
  intro S h1 h2
  obtain⟨m,hm⟩:=List.exists_mem_of_ne_nil S h2
  classical
  by_cases hS:(S.filter fun x=>decide (Way g x m))=[]
  ·refine⟨m,hm,fun e he hd hs=>?_⟩
   have:e.src∈S.filter fun x=>decide (Way g x m):=List.mem_filter.2 ⟨hs,decide_eq_true (hd ▸ Way.one he)⟩
   rw[hS] at this
   cases this
  ·have hlt:(S.filter fun x=>decide (Way g x m)).length<S.length:=by
    refine Nat.lt_of_le_of_ne (List.length_filter_le _ _) fun he=>?_
    have:=List.length_filter_eq_length_iff.1 he m hm
    exact hg m (of_decide_eq_true this)
   obtain⟨k,hk,hk2⟩:=ih _ (by omega) hS
   obtain⟨k1,k2⟩:=List.mem_filter.1 hk
   refine⟨k,k1,fun e he hd hs=>hk2 e he hd (List.mem_filter.2 ⟨hs,decide_eq_true ?_⟩)⟩
   exact(hd ▸ Way.one he:Way g e.src k).trans (of_decide_eq_true k2)
def bAt (l:List Bool) (z:Int):Bool:=match l[z.toNat]? with | some b=>b | none=>false
def Zk0 (g:Za2) (done:List Bool) (i:Nat):Bool:=!(bAt done (i:Int)) && !(g.edges.any fun e=>(e.dst==(i:Int)) && !(bAt done e.src))
def Zk4 (g:Za2) (done:List Bool):Option Nat:=Zgg (fun i _=>Zk0 g done i) (fun i _=>some i) none 0 g.work
def ZkB (g:Za2):Nat→List Int→List Bool→Option (List Int)
 | 0,out,_=>some out
 | k+1,out,done=>(match Zk4 g done with | some i=>ZkB g k (out++[(i:Int)]) (done.set i true) | none=>none)
theorem Zo8 {γ R S:Type} (p:Nat→γ→Bool) (out:Nat→γ→R) (fin:R) (F:R→S):∀(l:List γ) (i:Nat),F (Zgg p out fin i l)=Zgg p (fun i x=>F (out i x)) (F fin) i l
 | [],i=>rfl
 | x :: l,i=>by
  unfold Zgg
  cases p i x with
  | true=>rfl
  | false=>exact Zo8 p out fin F l (i+1)
theorem ZnM {γ:Type} (p:Nat→γ→Bool):∀(l:List γ) (i k:Nat),Zgg p (fun i _=>some i) none i l=some k→i≤k∧k<i+l.length∧∃x,l[k-i]? = some x∧p k x=true
 | [],i,k,h=>by cases h
 | x :: l,i,k,h=>by
  unfold Zgg at h
  cases hp:p i x with
  | true=>
   rw[hp] at h
   cases h
   exact⟨Nat.le_refl _,by simp,x,by simp,hp⟩
  | false=>
   rw[hp] at h
   obtain⟨h1,h2,y,h3,h4⟩:=ZnM p l (i+1) k h
   refine⟨by omega,by simp only[List.length_cons]; omega,y,?_,h4⟩
   rw[show k-i=(k-(i+1))+1 by omega]
   exact h3
theorem Znh {γ:Type} (p:Nat→γ→Bool):∀(l:List γ) (i:Nat),Zgg p (fun i _=>some i) none i l=none→∀(j:Nat) x,l[j]? = some x→p (i+j) x=false
 | [],i,h,j,x,hx=>by cases hx
 | y :: l,i,h,j,x,hx=>by
  unfold Zgg at h
  cases hp:p i y with
  | true=>rw[hp] at h; cases h
  | false=>
   rw[hp] at h
   cases j with
   | zero=>cases hx; exact hp
   | succ j=>
    have:=Znh p l (i+1) h j x hx
    rwa [show i+1+j=i+(j+1) by omega] at this
theorem Zq6 {g:Za2} {done:List Bool} (hd:done.length=g.work.length) {z:Int} (h:0≤z∧z.toNat<g.work.length):ZF done z=some (bAt done z):=by
 have e:=List.getElem?_eq_getElem (show z.toNat<done.length by rw[hd]; exact h.2)
 rw[ZoA h.1 e]
 unfold bAt
 rw[e]
theorem Zws {g:Za2} (h:ZgS g) (out:List Int) (ho:out.length<g.work.length) (done:List Bool) (hd:done.length=g.work.length) :
  lp (Zdg g (out,done)) 0=some (match Zk4 g done with | some i=>.inl (out++[(i:Int)],done.set i true) | none=>.inr ()):=by
 have key:=ZfB g.work (Zdg g (out,done)) (fun i _=>Zk0 g done i) (fun i _=>.inl (out++[(i:Int)],done.set i true)) (.inr ()) (fun i x hi hx=>by
   have inner:=ZfB g.edges (ZdY g (out,done) (i:Int)) (fun _ e=>(e.dst==(i:Int)) && !(bAt done e.src)) (fun _ _=>.inl ()) (.inr ()) (fun k e hk he=>by
     simp only[ZdY,ZeA hk,ZaX he,Option.bind_some,Z8 hk h.short.e,cond_true,Zq6 hd (h.src e (List.mem_of_getElem? he))]
     cases (e.dst==(i:Int))<;>cases bAt done e.src<;>rfl) (by simp only[ZdY,Zfe]; rfl)
   rw[Zd7,Zii] at inner
   have hl:=h.wl
   simp only[Zdg,ZeA hi,Zq6 hd (z:=(i:Int)) ⟨by omega,by simpa using hi⟩,Option.bind_some,Z8 hi h.short.w,cond_true,inner,Zh9 (show out.length+1≤1073741824 by omega),Int.toNat_natCast,Zk0]
   cases bAt done (i:Int)<;>cases g.edges.any (fun e=>(e.dst==(i:Int)) && !(bAt done e.src))<;>rfl) (by simp only[Zdg,Zfe]; rfl)
 rw[key]
 unfold Zk4
 exact congrArg some (Zo8 (fun i _=>Zk0 g done i) (fun i _=>some i) none (fun o:Option Nat=>(match o with | some i=>(.inl (out++[(i:Int)],done.set i true):(List Int×List Bool)⊕Unit) | none=>.inr ())) g.work 0).symm
theorem Zrj {g:Za2} (h:ZgS g):∀(k:Nat) (out:List Int) (done:List Bool),out.length+k=g.work.length→done.length=g.work.length →
  ∃r,lp (Zd0 g) (out,done)=some r∧(match ZkB g k out done with | some l=>r = .inr l | none=>∃l,r = .inl l)
 | 0,out,done,h1,h2=>by
  rw[Zbl]
  simp only[Zd0,show out.length=g.work.length by omega,Zfe,cond_false]
  exact⟨_,rfl,rfl⟩
 | k+1,out,done,h1,h2=>by
  rw[Zbl]
  simp only[Zd0,ZeA (show out.length<g.work.length by omega),cond_true,Zws h out (by omega) done h2,Option.bind_some]
  unfold ZkB
  cases Zk4 g done with
  | none=>exact⟨_,rfl,_,rfl⟩
  | some i=>exact Zrj h k (out++[(i:Int)]) (done.set i true) (by rw[List.length_append]; simp only[List.length_cons,List.length_nil]; omega) (by rw[List.length_set]; exact h2)
theorem Zrf {g:Za2} (h:ZgS g):Zel g=some (match ZkB g g.work.length [] (List.replicate g.work.length false) with | some l=>(l,true) | none=>([],false)):=by
 obtain⟨r,e,hr⟩:=Zrj h g.work.length [] (List.replicate g.work.length false) (by simp) (by simp)
 have hl:=h.wl
 unfold Zel
 rw[decide_eq_true (show(0:Int)≤(g.work.length:Int) by omega),decide_eq_true (show(g.work.length:Int)≤lim by show(g.work.length:Int)≤1073741824; omega),beq_self_eq_true]
 simp only[decide_true,Bool.and_true,cond_true,Int.toNat_natCast,e,Option.bind_some]
 cases ho:ZkB g g.work.length [] (List.replicate g.work.length false) with
 | some l=>rw[ho] at hr; simp only at hr; subst hr; rfl
 | none=>rw[ho] at hr; obtain⟨l,rfl⟩:=hr; rfl
structure ZeD (g:Za2) (out:List Int) (done:List Bool):Prop where
 dl:done.length=g.work.length
 mem:∀i:Nat,bAt done (i:Int)=true↔(i:Int)∈out
 inn:∀z∈out,0≤z∧z.toNat<g.work.length
 nod:out.Nodup
 topo:∀(i:Nat) (n:Int),out[i]? = some n→∀e∈g.edges,e.dst=n→∃j,j<i∧out[j]? = some e.src
theorem Zve {done:List Bool} {i:Nat} (hi:i<done.length) (z:Int) (hz:0≤z):bAt (done.set i true) z=(decide (z=(i:Int)) || bAt done z):=by
 unfold bAt
 rw[List.getElem?_set]
 by_cases h:i=z.toNat
 ·subst h
  rw[if_pos rfl,if_pos hi,decide_eq_true (show z=((z.toNat:Nat):Int) by omega)]; rfl
 ·rw[if_neg h,decide_eq_false (show ¬z=(i:Int) by omega)]; rfl
theorem ZeD.start (g:Za2):ZeD g [] (List.replicate g.work.length false):=by
 refine⟨by simp,fun i=>?_,by simp,by simp,by simp⟩
 unfold bAt
 rw[List.getElem?_replicate]
 by_cases h:((i:Int)).toNat<g.work.length
 ·rw[if_pos h]; simp
 ·rw[if_neg h]; simp
theorem ZeD.next {g:Za2} (h:ZgS g) {out:List Int} {done:List Bool} (o:ZeD g out done) {i:Nat} (hn:Zk4 g done=some i):ZeD g (out++[(i:Int)]) (done.set i true):=by
 obtain⟨_,hi,x,_,hp⟩:=ZnM _ _ _ _ hn
 rw[Nat.zero_add] at hi
 unfold Zk0 at hp
 simp only[Bool.and_eq_true,Bool.not_eq_true',List.any_eq_false,Bool.not_eq_true] at hp
 have hid:i<done.length:=by rw[o.dl]; exact hi
 have hnot:(i:Int)∉out:=fun hm=>by have:=(o.mem i).2 hm; rw[hp.1] at this; cases this
 refine⟨by rw[List.length_set]; exact o.dl,fun j=>?_,fun z hz=>?_,?_,fun k n hk e he hd=>?_⟩
 ·rw[Zve hid (j:Int) (by omega),Bool.or_eq_true,decide_eq_true_eq,o.mem,List.mem_append,List.mem_singleton]
  exact Or.comm
 ·rcases List.mem_append.1 hz with hz | hz
  ·exact o.inn z hz
  ·rw[List.mem_singleton] at hz; subst hz; exact⟨by omega,by simpa using hi⟩
 ·rw[List.nodup_append]
  refine⟨o.nod,by simp,fun a ha b hb=>?_⟩
  rw[List.mem_singleton] at hb
  subst hb
  exact fun hab=>hnot (hab ▸ ha)
 ·rcases Nat.lt_or_ge k out.length with hk2 | hk2
  ·rw[List.getElem?_append_left hk2] at hk
   obtain⟨j,h1,h2⟩:=o.topo k n hk e he hd
   exact⟨j,h1,by rw[List.getElem?_append_left (by omega)]; exact h2⟩
  ·rw[List.getElem?_append_right hk2] at hk
   have hk0:k-out.length=0:=by
    rcases Nat.eq_zero_or_pos (k-out.length) with h0 | h0
    ·exact h0
    ·rw[List.getElem?_eq_none (by simp only[List.length_cons,List.length_nil]; omega)] at hk; cases hk
   rw[hk0] at hk
   simp only[List.getElem?_cons_zero,Option.some.injEq] at hk
   subst hk
   have hs:=hp.2 e he
   rw[hd] at hs
   have hs:bAt done e.src=true:=by simpa using hs
   have hsr:=h.src e he
   have:=(o.mem e.src.toNat).1 (by rw[show((e.src.toNat:Nat):Int)=e.src by omega]; exact hs)
   rw[show((e.src.toNat:Nat):Int)=e.src by omega] at this
   obtain⟨j,hj⟩:=List.getElem?_of_mem this
   have hjl:=(List.getElem?_eq_some_iff.1 hj).1
   exact⟨j,by omega,by rw[List.getElem?_append_left hjl]; exact hj⟩
theorem ZeD.way {g:Za2} {out:List Int} {done:List Bool} (o:ZeD g out done) {a b:Int} (w:Way g a b):∀j:Nat,out[j]? = some b→∃i,i<j∧out[i]? = some a:=by
 induction w with
 | one he=>intro j hj; exact o.topo j _ hj _ he rfl
 | more _ he ih=>
  intro j hj
  obtain⟨i,h1,h2⟩:=o.topo j _ hj _ he rfl
  obtain⟨k,h3,h4⟩:=ih i h2
  exact⟨k,by omega,h4⟩
theorem Zr7 {l:List Int} (h:l.Nodup) {i j:Nat} {a:Int} (h1:l[i]? = some a) (h2:l[j]? = some a):i=j:=by
 obtain⟨a1,a2⟩:=List.getElem?_eq_some_iff.1 h1
 obtain⟨b1,b2⟩:=List.getElem?_eq_some_iff.1 h2
 exact(List.getElem_inj h).1 (a2.trans b2.symm)
def Zt4 (n:Nat) (done:List Bool):List Int:=((List.range n).filter fun i:Nat=>!bAt done (i:Int)).map fun i:Nat=>(i:Int)
theorem Zmo {n:Nat} {done:List Bool} {i:Nat} (h1:i<n) (h2:bAt done (i:Int)=false):(i:Int)∈Zt4 n done:=
 List.mem_map.2 ⟨i,List.mem_filter.2 ⟨List.mem_range.2 h1,by rw[h2]; rfl⟩,rfl⟩
theorem Zsf {g:Za2} (h:ZgS g) (hg:ZlL g) {out:List Int} {done:List Bool} (o:ZeD g out done) (i0:Nat) (hi0:i0<g.work.length) (hb:bAt done (i0:Int)=false):∃i,Zk4 g done=some i:=by
 cases hn:Zk4 g done with
 | some i=>exact⟨i,rfl⟩
 | none=>
  exfalso
  have hall:=Znh _ _ _ hn
  obtain⟨m,hm,hm2⟩:=Zth hg _ (Zt4 g.work.length done) (Nat.le_refl _) (by
   intro he
   have:=Zmo hi0 hb
   rw[he] at this; cases this)
  obtain⟨k,hk,rfl⟩:=List.mem_map.1 hm
  obtain⟨hk1,hk2⟩:=List.mem_filter.1 hk
  rw[List.mem_range] at hk1
  have hr:=hall k g.work[k] (List.getElem?_eq_getElem hk1)
  rw[Nat.zero_add] at hr
  unfold Zk0 at hr
  rw[hk2,Bool.true_and,Bool.not_eq_false',List.any_eq_true] at hr
  obtain⟨e,he,he2⟩:=hr
  simp only[Bool.and_eq_true,beq_iff_eq] at he2
  have hsr:=h.src e he
  refine hm2 e he he2.1 ?_
  have es:((e.src.toNat:Nat):Int)=e.src:=by omega
  rw[← es]
  exact Zmo hsr.2 (by rw[es]; simpa using he2.2)
theorem Zue {n:Nat} {out:List Int} (h1:out.Nodup) (h2:∀z∈out,0≤z∧z.toNat<n):(out.length≤n)∧(out.length=n→∀i:Nat,i<n→(i:Int)∈out):=by
 induction n generalizing out with
 | zero=>
  refine⟨?_,fun _ i hi=>absurd hi (by omega)⟩
  cases out with
  | nil=>simp
  | cons z l=>have:=h2 z (by simp); omega
 | succ n ih=>
  by_cases hm:(n:Int)∈out
  ·have e1:(out.erase (n:Int)).length=out.length-1:=List.length_erase_of_mem hm
   have pos:0<out.length:=List.length_pos_of_mem hm
   obtain⟨a,b⟩:=ih (out:=out.erase (n:Int)) (h1.erase _) (fun z hz=>by
    have hz2:=(List.Nodup.mem_erase_iff h1).1 hz
    have:=h2 z hz2.2
    have:=hz2.1
    omega)
   refine⟨by omega,fun hl i hi=>?_⟩
   by_cases hin:i=n
   ·subst hin; exact hm
   ·exact List.mem_of_mem_erase (b (by omega) i (by omega))
  ·obtain⟨a,b⟩:=ih (out:=out) h1 (fun z hz=>by
    have:=h2 z hz
    have:z≠(n:Int):=fun he=>hm (he ▸ hz)
    omega)
   exact⟨by omega,fun hl=>by omega⟩
theorem Zuc:∀(n:Nat) (out:List Int),(∀i:Nat,i<n→(i:Int)∈out)→n≤out.length
 | 0,out,h=>by omega
 | n+1,out,h=>by
  have hm:=h n (by omega)
  have e1:(out.erase (n:Int)).length=out.length-1:=List.length_erase_of_mem hm
  have pos:0<out.length:=List.length_pos_of_mem hm
  have:=Zuc n (out.erase (n:Int)) (fun i hi=>(List.mem_erase_of_ne (by omega)).2 (h i (by omega)))
  omega
theorem Zjq {g:Za2} (h:ZgS g):∀(k:Nat) (out:List Int) (done:List Bool),ZeD g out done→out.length+k=g.work.length→(∀l,ZkB g k out done=some l→∃done',ZeD g l done'∧l.length=g.work.length)∧(ZlL g→∃l,ZkB g k out done=some l)
 | 0,out,done,o,hl=>⟨fun l h=>by cases h; exact⟨done,o,by omega⟩,fun _=>⟨out,rfl⟩⟩
 | k+1,out,done,o,hl=>by
  unfold ZkB
  cases hn:Zk4 g done with
  | none=>
   refine⟨fun l h=>(by cases h),fun hg=>?_⟩
   exfalso
   have hex:∃i0,i0<g.work.length∧(i0:Int)∉out:=by
    apply Classical.byContradiction
    intro hc
    have hc2:∀i0,i0<g.work.length→(i0:Int)∈out:=fun i0 hi=>Classical.byContradiction fun hx=>hc ⟨i0,hi,hx⟩
    have sub:=Zuc g.work.length out hc2
    omega
   obtain⟨i0,h1,h2⟩:=hex
   obtain⟨i,hi⟩:=Zsf h hg o i0 h1 (by
    cases hb:bAt done (i0:Int) with
    | false=>rfl
    | true=>exact absurd ((o.mem i0).1 hb) h2)
   rw[hn] at hi
   cases hi
  | some i=>
   exact Zjq h k _ _ (o.next h hn) (by rw[List.length_append]; simp only[List.length_cons,List.length_nil]; omega)
theorem Zuy {g:Za2} (h:ZgS g) {l:List Int} {done:List Bool} (o:ZeD g l done) (hl:l.length=g.work.length):ZlL g:=by
 intro a w
 have ha:=w.src_in h
 have hm:=(Zue o.nod o.inn).2 hl a.toNat ha.2
 rw[show((a.toNat:Nat):Int)=a by omega] at hm
 obtain⟨j,hj⟩:=List.getElem?_of_mem hm
 obtain⟨i,h1,h2⟩:=o.way w j hj
 have:=Zr7 o.nod h2 hj
 omega
structure Zy7 (g:Za2) (l:List Int):Prop where
 len:l.length=g.work.length
 all:∀i:Nat,i<g.work.length→(i:Int)∈l
 inn:∀z∈l,0≤z∧z.toNat<g.work.length
 nod:l.Nodup
 topo:∀(i:Nat) (n:Int),l[i]? = some n→∀e∈g.edges,e.dst=n→∃j,j<i∧l[j]? = some e.src
theorem ZrA {g:Za2} (h:ZgS g) (hg:ZlL g):∃l,Zel g=some (l,true)∧Zy7 g l:=by
 obtain⟨k1,k2⟩:=Zjq h g.work.length [] _ (ZeD.start g) (by simp)
 obtain⟨l,hl⟩:=k2 hg
 obtain⟨done,o,hn⟩:=k1 l hl
 exact⟨l,by rw[Zrf h,hl],hn,(Zue o.nod o.inn).2 hn,o.inn,o.nod,o.topo⟩
theorem Zup {g:Za2} (h:ZgS g) (hg:¬ZlL g):Zel g=some ([],false):=by
 rw[Zrf h]
 cases ho:ZkB g g.work.length [] (List.replicate g.work.length false) with
 | none=>rfl
 | some l=>
  obtain⟨done,o,hn⟩:=(Zjq h g.work.length [] _ (ZeD.start g) (by simp)).1 l ho
  exact absurd (Zuy h o hn) hg
noncomputable def ZsK (g:Za2):Bool:=@decide (ZlL g) (Classical.propDecidable _)
theorem ZuS {g:Za2} (h:ZlL g):ZsK g=true:=@decide_eq_true _ (Classical.propDecidable _) h
theorem ZqN {g:Za2} (h:¬ZlL g):ZsK g=false:=@decide_eq_false _ (Classical.propDecidable _) h
noncomputable def ZhU (g:Za2):Int:=bif ZiD g==0 then (bif ZsK g then 0 else 43) else ZiD g
theorem Zns {g:Za2} (h:ZhU g=0):ZgS g∧ZlL g:=by
 unfold ZhU at h
 by_cases h0:ZiD g=0
 ·rw[h0] at h
  refine⟨ZoR h0,Classical.byContradiction fun hn=>?_⟩
  rw[ZqN hn] at h
  simp at h
 ·rw[beq_false_of_ne h0] at h
  exact absurd h h0
theorem Zju (g:Za2) (h:Zou g):Zer g=some (ZhU g):=by
 have hw:=Zjo g.work (fun z0=>ZcA z0) Zf8 (fun x _=>Zsq x) h.w
 unfold Zer ZhU
 rw[hw,ZpI g h]
 by_cases h0:ZiD g=0
 ·have hG:=ZoR h0
  rw[h0]
  unfold ZiD at h0
  by_cases hg:ZlL g
  ·obtain⟨l,e,_⟩:=ZrA hG hg
   rw[e,ZuS hg]
   revert h0
   cases decide (64<(g.work.length:Int))<;>cases decide (256<(g.edges.length:Int))<;>cases g.work.any Zf8<;>cases Zfy (Zli g) 0 g.edges<;>simp
  ·rw[Zup hG hg,ZqN hg]
   revert h0
   cases decide (64<(g.work.length:Int))<;>cases decide (256<(g.edges.length:Int))<;>cases g.work.any Zf8<;>cases Zfy (Zli g) 0 g.edges<;>simp
 ·rw[beq_false_of_ne h0]
  unfold ZiD at h0 ⊢
  revert h0
  cases decide (64<(g.work.length:Int))<;>cases decide (256<(g.edges.length:Int))<;>cases g.work.any Zf8<;>cases Zfy (Zli g) 0 g.edges<;>simp
end Go.Proofs.YtljgncbdagmeeaaDoor
namespace Go.Proofs.YtljgncbdagmeeaaDoor
open Go Go.Proofs.YtljgncbdagmeeaaDoorE
set_option linter.unusedVariables false
set_option linter.unusedSimpArgs false
theorem ZgD {K W:Type} (eq:K→K→Bool) (k:K) (v:W):∀l:List (K×W),(∀q∈l,eq k q.1=false)→Zt eq l k v=l++[(k,v)]
 | [],_=>rfl
 | (a,u) :: r,h=>by
  unfold Zt
  rw[h (a,u) (by simp)]
  simp only[cond_false,List.cons_append]
  rw[ZgD eq k v r fun q hq=>h q (by simp[hq])]
theorem Zg9 {K W:Type} (eq:K→K→Bool) (k:K) (z:W) (m:List (K×W)):∀l:List (K×W),(∀q∈l,eq k q.1=false)→Z2 eq (l++m) k z=Z2 eq m k z
 | [],_=>rfl
 | (a,u) :: r,h=>by
  rw[List.cons_append]
  conv=>lhs; unfold Z2
  rw[h (a,u) (by simp)]
  exact Zg9 eq k z m r fun q hq=>h q (by simp[hq])
theorem ZhI {K W:Type} (eq:K→K→Bool) (k:K) (z:W) (m:List (K×W)):∀l:List (K×W),(∃q∈l,eq k q.1=true)→Z2 eq (l++m) k z=Z2 eq l k z
 | [],h=>by obtain⟨q,hq,_⟩:=h; simp at hq
 | (a,u) :: r,h=>by
  rw[List.cons_append]
  unfold Z2
  cases hb:eq k a with
  | true=>rfl
  | false=>
   simp only[cond_false]
   refine ZhI eq k z m r ?_
   obtain⟨q,hq,hk⟩:=h
   rcases List.mem_cons.1 hq with rfl | hq
   ·rw[hb] at hk; cases hk
   ·exact⟨q,hq,hk⟩
abbrev eqI:Int→Int→Bool:=fun ka kb:Int=>(ka==kb)
theorem Zle {K W:Type} (eq:K→K→Bool) (k:K) (v w:W) (hk:eq k k=true):∀l:List (K×W),(∀q∈l,eq k q.1=false)→Zt eq (l++[(k,v)]) k w=l++[(k,w)]
 | [],_=>by
  show(bif eq k k then _ else _)=_
  rw[hk]; rfl
 | (a,u) :: r,h=>by
  rw[List.cons_append]
  unfold Zt
  rw[h (a,u) (by simp)]
  simp only[cond_false,List.cons_append]
  rw[Zle eq k v w hk r fun q hq=>h q (by simp[hq])]
theorem Znu {K W:Type} (eq:K→K→Bool) (k:K) (z v:W) (hk:eq k k=true) (l m:List (K×W)) (h:∀q∈l,eq k q.1=false):Z2 eq (l++(k,v) :: m) k z=v:=by
 rw[Zg9 eq k z _ l h]
 show(bif eq k k then _ else _)=_
 rw[hk]; rfl
end Go.Proofs.YtljgncbdagmeeaaDoor
namespace Go.Proofs.YtljgncbdagmeeaaDoor
open Go Go.Proofs.YtljgncbdagmeeaaDoorE
set_option linter.unusedVariables false
set_option linter.unusedSimpArgs false
def tch (d:Zo) (n:Nat):List Int:=tl d (n:Int) 0 99
theorem ZjG {d:Zo} (g:Zi7 d) (n:Nat):Ze0 d (n:Int) (tch d n):=Zqn g (n:Int)
theorem Zw9 {d:Zo} (hs:Ziv d) (hf:d.futures.length≤1000) (hc:Zfz d=0) (n:Nat):ZcE d (n:Int)=some (tch d n):=by
 obtain⟨r,h1,h2⟩:=Zrw d hs hf hc (n:Int)
 rw[h1,h2.eq (ZjG (Zod hc) n)]
abbrev nt (d:Zo) (n:Nat):Nat:=(tch d n).length
theorem ZtA {d:Zo} (g:Zc7 d) (n:Nat):nt d n≤16:=Nat.le_trans (Zpl (ZjG g.g n)) g.fl
def cut (d:Zo) (n i:Nat):Int:=if i=0 then 0 else match (tch d n)[i-1]? with | some z=>Zd2 d.futures z | none=>Zdt d.parts (n:Int)
def Zgo (d:Zo) (n k:Nat):List Int:=(List.range k).map fun i=>cut d n (i+1)-cut d n i
def Zay (d:Zo):Nat→Nat
 | 0=>0
 | n+1=>Zay d n+(nt d n+1)
theorem Zgk {d:Zo} (g:Zc7 d):∀n,Zay d n≤17*n
 | 0=>Nat.le_refl _
 | n+1=>by have:=Zgk g n; have:=ZtA g n; show Zay d n+(nt d n+1)≤_; omega
theorem ZhB {d:Zo} {n i:Nat} (g:Zi7 d) (hi:i<nt d n):∃f,ZF (tch d n) (i:Int)=some (tch d n)[i]∧ZF d.futures (tch d n)[i]=some f∧d.futures[((tch d n)[i]).toNat]? = some f∧f.user=(n:Int)∧f.pos=cut d n (i+1)∧f∈d.futures:=by
 obtain⟨j,f,h1,h2,h3⟩:=(ZjG g n).mem _ |>.1 (List.getElem_mem hi)
 refine⟨f,ZaX (List.getElem?_eq_getElem hi),?_,?_,h2,?_,List.mem_of_getElem? h1⟩
 ·rw[h3]; exact ZaX h1
 ·rw[h3,Int.toNat_natCast]; exact h1
 ·unfold cut
  rw[if_neg (by omega),Nat.add_sub_cancel,List.getElem?_eq_getElem hi]
  show _=Zd2 d.futures (tch d n)[i]
  unfold Zd2
  rw[h3,Int.toNat_natCast,h1]
theorem Zvv {d:Zo} (g:Zi7 d) (n i:Nat):0≤cut d n i∧cut d n i≤100:=by
 unfold cut
 split
 ·omega
 ·have wb:0≤Zdt d.parts (n:Int)∧Zdt d.parts (n:Int)≤100:=by
   refine⟨?_,ZiV g _⟩
   unfold Zdt
   split
   ·rename_i p hp; have:=g.w p (List.mem_of_getElem? hp); omega
   ·omega
  split
  ·rename_i z hz
   obtain⟨j,f,h1,h2,h3⟩:=(ZjG g n).mem z |>.1 (List.mem_of_getElem? hz)
   have:=g.f f (List.mem_of_getElem? h1)
   have:=ZiV g f.user
   unfold Zd2
   rw[h3,Int.toNat_natCast,h1]
   show 0≤f.pos∧f.pos≤100
   omega
  ·exact wb
theorem Zon (d:Zo) (n:Nat):cut d n (nt d n+1)=Zdt d.parts (n:Int):=by
 unfold cut
 rw[if_neg (by omega),Nat.add_sub_cancel,List.getElem?_eq_none (Nat.le_refl _)]
theorem Zk6 (d:Zo) (n k:Nat):Zgo d n (k+1)=Zgo d n k++[cut d n (k+1)-cut d n k]:=by unfold Zgo; rw[List.range_succ,List.map_append]; rfl
theorem ZmI (d:Zo) (n k:Nat):(Zgo d n k).length=k:=by unfold Zgo; simp
def Zhb (d:Zo) (n:Nat):List Int:=Zgo d n (nt d n+1)
theorem Zrc {d:Zo} {n:Nat} (hn:n<d.parts.length):∃x,ZF d.parts (n:Int)=some x∧x.work=Zdt d.parts (n:Int):=by
 refine⟨d.parts[n],ZaX (List.getElem?_eq_getElem hn),?_⟩
 unfold Zdt
 rw[Int.toNat_natCast,List.getElem?_eq_getElem hn]
def ZiF (d:Zo) (z:Int):Int:=(Zay d z.toNat:Int)
def ZjT (d:Zo) (z:Int):Int:=(Zay d (z.toNat+1):Int)-1
def ZrU (d:Zo) (f:Zi):Int:=Zgg (fun _ z=>Zd2 d.futures z==f.pos) (fun i _=>ZiF d f.user+(i:Int)+1) (-1) 0 (tch d f.user.toNat)
end Go.Proofs.YtljgncbdagmeeaaDoor
namespace Go.Proofs.YtljgncbdagmeeaaDoor
open Go Go.Proofs.YtljgncbdagmeeaaDoorE
set_option linter.unusedVariables false
set_option linter.unusedSimpArgs false
def upto {β:Type} (B:Nat→List β) (k:Nat):List β:=(List.range k).flatMap B
theorem Zcv {β:Type} (B:Nat→List β) (k:Nat):upto B (k+1)=upto B k++B k:=by unfold upto; rw[List.range_succ,List.flatMap_append]; simp
theorem Zn7 {γ β:Type} (l:List γ) (hl:l.length≤1000) (step:Int×List β→Option ((Int×List β)⊕List β)) (g:γ→β)
  (h1:∀(i:Nat) x s,i<l.length→l[i]? = some x→Nat.ble (s.length+1) lim=true→step ((i:Int),s)=some (.inl (((i+1:Nat):Int),s++[g x])))
  (h2:∀s,step ((l.length:Int),s)=some (.inr s)) (s:List β) (hs:s.length≤1000000):lp step (0,s)=some (s++l.map g):=by
 have key:=(ZoV l step (fun i s=>((i:Int),s)) (fun _ s x=>s++[g x]) id (fun i s=>s.length≤1000000+i) (fun i x s hi hx hI=>⟨h1 i x s hi hx (Zh9 (by omega)),by rw[List.length_append]; simp only[List.length_cons,List.length_nil]; omega⟩) (fun s _=>h2 s) s (by omega)).1
 have e:∀(l:List γ) (i:Nat) (s:List β),Zix (fun _ s x=>s++[g x]) i s l=s++l.map g:=by
  intro l
  induction l with
  | nil=>intro i s; simp[Zix]
  | cons x l ih=>intro i s; show Zix _ (i+1) (s++[g x]) l=_; rw[ih]; simp
 rw[e] at key
 exact key
def Zfx (d:Zo) (n k:Nat):List Zm:=(List.range k).map fun j=>⟨((Zay d n+j:Nat):Int),((Zay d n+j+1:Nat):Int)⟩
theorem Zld (d:Zo) (n k:Nat):Zfx d n (k+1)=Zfx d n k++[⟨((Zay d n+k:Nat):Int),((Zay d n+k+1:Nat):Int)⟩]:=by unfold Zfx; rw[List.range_succ,List.map_append]; rfl
theorem Zmm (d:Zo) (n k:Nat):(Zfx d n k).length=k:=by unfold Zfx; simp
def Zd8 (n k:Nat):List Zh:=(List.range k).map fun j:Nat=>⟨(n:Int),(j:Int)⟩
theorem Zn1 (n k:Nat):Zd8 n (k+1)=Zd8 n k++[⟨(n:Int),(k:Int)⟩]:=by unfold Zd8; rw[List.range_succ,List.map_append]; rfl
theorem Zk8 (n k:Nat):(Zd8 n k).length=k:=by unfold Zd8; simp
def Ze1 (d:Zo) (k:Nat):List Int:=upto (Zhb d) k
def Zfr (d:Zo) (k:Nat):List Zm:=upto (fun n=>Zfx d n (nt d n)) k
def Zc3 (d:Zo) (k:Nat):List Zh:=upto (fun n=>Zd8 n (nt d n+1)) k
theorem ZhE (d:Zo):∀k,(Ze1 d k).length=Zay d k
 | 0=>rfl
 | k+1=>by unfold Ze1; rw[Zcv,List.length_append]; unfold Zhb; rw[ZmI]; show(Ze1 d k).length+_=Zay d k+_; rw[ZhE d k]
theorem Zev (d:Zo):∀k,(Zc3 d k).length=Zay d k
 | 0=>rfl
 | k+1=>by unfold Zc3; rw[Zcv,List.length_append,Zk8]; show(Zc3 d k).length+_=Zay d k+_; rw[Zev d k]
theorem ZjL (d:Zo):∀k,(Zfr d k).length≤Zay d k
 | 0=>Nat.le_refl _
 | k+1=>by unfold Zfr; rw[Zcv,List.length_append,Zmm]; have:=ZjL d k; unfold Zfr at this; show _≤Zay d k+(nt d k+1); omega
def ZmB (d:Zo):List Zm:=d.edges.map fun e=>⟨ZjT d e.src,ZiF d e.dst⟩
def Zob (d:Zo):List Zm:=d.futures.map fun f=>⟨ZjT d f.maker,ZrU d f⟩
def Zs5 (d:Zo) (at_:Int) (b:Zq):List Zm:=b.ins.map (fun q=>⟨ZjT d q,at_⟩)++b.outs.map (fun q=>⟨at_,ZiF d q⟩)
def ZmG (d:Zo) (i:Nat):Int:=((Zay d d.parts.length+i:Nat):Int)
def ZeV (d:Zo) (k:Nat):List Zm:=upto (fun i=>match d.barriers[i]? with | some b=>Zs5 d (ZmG d i) b | none=>[]) k
def ZeB (k:Nat):List Zh:=(List.range k).map fun i:Nat=>⟨-1,(i:Int)⟩
theorem Zk5 (k:Nat):(ZeB k).length=k:=by unfold ZeB; simp
theorem Zol (k:Nat):ZeB (k+1)=ZeB k++[⟨-1,(k:Int)⟩]:=by unfold ZeB; rw[List.range_succ,List.map_append]; rfl
def ZeJ (d:Zo):List Int:=Ze1 d d.parts.length++List.replicate d.barriers.length 1
def ZkO (d:Zo):List Zm:=Zfr d d.parts.length++ZmB d++Zob d
def ZpV (d:Zo):List Zm:=ZkO d++ZeV d d.barriers.length
def ZkD (d:Zo):List Zh:=Zc3 d d.parts.length++ZeB d.barriers.length
def Zey (d:Zo):Zf9:=⟨⟨ZeJ d,ZpV d⟩,ZkD d⟩
theorem ZlG {d:Zo} (g:Zc7 d):(ZkO d).length≤1000:=by
 unfold ZkO ZmB Zob
 have h1:=ZjL d d.parts.length
 have h2:=Zgk g d.parts.length
 have h3:=g.pl
 have h4:=g.el
 have h5:=g.fl
 simp only[List.length_append,List.length_map]
 omega
theorem Ztc {d:Zo} (hz:ZjW d) {b:Zq} (hb:b∈d.barriers) (z:Int):(Zs5 d z b).length≤40:=by
 have:=hz.i b hb
 unfold Zs5
 simp only[List.length_append,List.length_map]
 omega
theorem ZjC {d:Zo} (hz:ZjW d):∀k,(ZeV d k).length≤40*k
 | 0=>Nat.le_refl _
 | k+1=>by
  have ih:=ZjC hz k
  unfold ZeV at ih ⊢
  rw[Zcv,List.length_append]
  split
  ·rename_i b hb
   have:=Ztc hz (List.mem_of_getElem? hb) (ZmG d k)
   omega
  ·simp only[List.length_nil]; omega
end Go.Proofs.YtljgncbdagmeeaaDoor
namespace Go.Proofs.YtljgncbdagmeeaaDoor
open Go Go.Proofs.YtljgncbdagmeeaaDoorE
set_option linter.unusedVariables false
set_option linter.unusedSimpArgs false
theorem Zfp (b:Zh) (c:Int) {W:List Int} {P:List Zh} (h1:W.length≤10000) (h2:P.length≤10000):Zaf b c W P=some ():=by
 unfold Zaf
 rw[Zh9 (by omega),Zh9 (by omega)]; rfl
theorem ZhJ (b c:Int) {E:List Zm} (h1:E.length≤10000):ZG b c E=some ():=by
 unfold ZG
 rw[Zh9 (by omega)]; rfl
theorem Zoy {β:Type} (P:List β) (x:β) (hP:P.length≤10000):w64 ((List.length (P++[x]):Int)-1)=(P.length:Int):=by
 rw[List.length_append]
 simp only[List.length_cons,List.length_nil]
 rw[Zcm (by omega) (by omega)]
 omega
theorem Zr0 {d:Zo} (g:Zc7 d) {n:Nat} (hn:n<d.parts.length) (hc:ZcE d (n:Int)=some (tch d n)) {W:List Int} {E:List Zm} {P:List Zh} (M5:List (Int×Int)) (M6:List (Zi×Int)) (hW:W.length≤1000) (hE:E.length≤1000) (hP:P.length≤1000) :
  ZcX d (n:Int) W E P M5 M6=(lp (Zy d (n:Int) (tch d n)) (0,0,M5,M6,W,E,P)).bind fun r=>some (bif decide (0<nt d n) then .inl r else .inr (.inl r.2.2.1)):=by
 obtain⟨x,x1,x2⟩:=Zrc hn
 have hnt:=ZtA g n
 have hnl:(tch d n).length=nt d n:=rfl
 have e1:w64 (((tch d n).length:Int)+1)=(((tch d n).length+1:Nat):Int):=by rw[Zcm (by omega) (by omega)]; omega
 have w1:w64 ((0:Int)+1)=1:=Zcm (by omega) (by omega)
 have w2:w64 ((1:Int)+1)=2:=Zcm (by omega) (by omega)
 have w0:w64 ((1:Int)-1)=0:=Zcm (by omega) (by omega)
 have lW:∀a:Int,(W++[a]).length≤10000:=fun a=>by rw[List.length_append]; simp only[List.length_cons,List.length_nil]; omega
 have lP:∀a:Zh,(P++[a]).length≤10000:=fun a=>by rw[List.length_append]; simp only[List.length_cons,List.length_nil]; omega
 unfold ZcX
 rw[hc,Option.bind_some,Zbl (Zbj d (n:Int) W E P M5 M6 (tch d n)),Zbl (Zy d (n:Int) (tch d n))]
 by_cases h0:0<nt d n
 ·obtain⟨f,f1,f2,_⟩:=ZhB g.g h0
  have c0:decide ((0:Int)<(((tch d n).length+1:Nat):Int))=true:=decide_eq_true (by omega)
  have c1:decide ((0:Int)<((tch d n).length:Int))=true:=decide_eq_true (by omega)
  have c2:decide ((1:Int)<(((tch d n).length+1:Nat):Int))=true:=decide_eq_true (by omega)
  have f1':ZF (tch d n) 0=some (tch d n)[0]:=f1
  simp only[Zbj,Zy,e1,c0,c1,cond_true,x1,Option.bind_some,f1',f2,Zfp _ _ (show W.length≤10000 by omega) (show P.length≤10000 by omega),w1,decide_eq_false (show ¬(0:Int)<0 by omega),cond_false,decide_eq_true h0]
  rw[Zbl (Zbi d (n:Int) W E P M5 M6 (tch d n) f),Zbl (Zy d (n:Int) (tch d n))]
  by_cases h1:1<nt d n
  ·obtain⟨f',f1b,f2b,_⟩:=ZhB g.g h1
   have f1b':ZF (tch d n) 1=some (tch d n)[1]:=f1b
   have c3:decide ((1:Int)<((tch d n).length:Int))=true:=decide_eq_true (by omega)
   simp only[Zbi,Zy,e1,c2,c3,cond_true,x1,Option.bind_some,f1',f2,f1b',f2b,Zfp _ _ (lW _) (lP _),ZhJ _ _ (show E.length≤10000 by omega),w2,w0,decide_eq_true (show(0:Int)<1 by omega)]
   generalize lp (Zy d (n:Int) (tch d n)) _=r
   cases r<;>rfl
  ·have c3:decide ((1:Int)<((tch d n).length:Int))=false:=decide_eq_false (by omega)
   simp only[Zbi,Zy,e1,c2,c3,cond_true,cond_false,x1,Option.bind_some,f1',f2,Zfp _ _ (lW _) (lP _),ZhJ _ _ (show E.length≤10000 by omega),w2,w0,decide_eq_true (show(0:Int)<1 by omega)]
   generalize lp (Zy d (n:Int) (tch d n)) _=r
   cases r<;>rfl
 ·have c0:decide ((0:Int)<(((tch d n).length+1:Nat):Int))=true:=decide_eq_true (by omega)
  have c1:decide ((0:Int)<((tch d n).length:Int))=false:=decide_eq_false (by omega)
  have c2:decide ((1:Int)<(((tch d n).length+1:Nat):Int))=false:=decide_eq_false (by omega)
  simp only[Zbj,Zy,e1,c0,c1,cond_true,x1,Option.bind_some,Zfp _ _ (show W.length≤10000 by omega) (show P.length≤10000 by omega),w1,decide_eq_false (show ¬(0:Int)<0 by omega),cond_false,decide_eq_false h0]
  rw[Zbl (ZbZ d (n:Int) W E P M5 M6 (tch d n) x),Zbl (Zy d (n:Int) (tch d n))]
  simp only[ZbZ,Zy,e1,c2,cond_false,Option.bind_some]
abbrev eqF:Zi→Zi→Bool:=fun ka kb:Zi=>((ka.maker==kb.maker)&&((ka.user==kb.user)&&((ka.pos==kb.pos)&&true)))
def Zg1 (M:List (Int×Int)) (n F i:Nat):List (Int×Int):=if i=0 then M else M++[((n:Int),((F+i-1:Nat):Int))]
theorem ZpA {M:List (Int×Int)} {n F:Nat} (h:∀q∈M,q.1≠(n:Int)) (i:Nat):Zt (fun ka kb:Int=>(ka==kb)) (Zg1 M n F i) (n:Int) ((F+i:Nat):Int)=Zg1 M n F (i+1):=by
 have hq:∀q∈M,eqI (n:Int) q.1=false:=fun q hq=>by
  show((n:Int)==q.1)=false
  exact beq_false_of_ne (Ne.symm (h q hq))
 unfold Zg1
 rw[if_neg (show i+1≠0 by omega)]
 by_cases h0:i=0
 ·subst h0
  rw[if_pos rfl]
  exact ZgD eqI (n:Int) _ M hq
 ·rw[if_neg h0]
  exact Zle eqI (n:Int) _ _ (by simp) M hq
theorem ZoO {M:List (Int×Int)} {n F:Nat} (h:∀q∈M,q.1≠(n:Int)) (i:Nat):Z2 (fun ka kb:Int=>(ka==kb)) (Zg1 M n F (i+1)) (n:Int) 0=((F+i:Nat):Int):=by
 unfold Zg1
 rw[if_neg (show i+1≠0 by omega)]
 exact Znu eqI (n:Int) 0 _ (by simp) M [] (fun q hq=>by
  show((n:Int)==q.1)=false
  exact beq_false_of_ne (Ne.symm (h q hq)))
def ZeQ (d:Zo) (n j:Nat):Zi:=match (tch d n)[j]? with | some z=>(match d.futures[z.toNat]? with | some f=>f | none=>⟨0,0,0⟩) | none=>⟨0,0,0⟩
theorem Zdw {d:Zo} {n i:Nat} (g:Zi7 d) (hi:i<nt d n):ZF (tch d n) (i:Int)=some (tch d n)[i]∧ZF d.futures (tch d n)[i]=some (ZeQ d n i)∧(ZeQ d n i).user=(n:Int)∧(ZeQ d n i).pos=cut d n (i+1)∧ZeQ d n i∈d.futures:=by
 obtain⟨f,h1,h2,h3,h4,h5,h6⟩:=ZhB g hi
 have e:ZeQ d n i=f:=by
  unfold ZeQ
  rw[List.getElem?_eq_getElem hi]
  show(match d.futures[((tch d n)[i]).toNat]? with | some f=>f | none=>⟨0,0,0⟩)=f
  rw[h3]
 rw[e]
 exact⟨h1,h2,h4,h5,h6⟩
theorem Zj7 {d:Zo} (g:Zi7 d) {n i j:Nat} (hij:i<j) (hj:j<nt d n):(ZeQ d n i).pos<(ZeQ d n j).pos:=by
 obtain⟨_,_,h3,_,_,h5,_⟩:=ZhB g (show i<nt d n by omega)
 obtain⟨_,_,k3,_,_,k5,_⟩:=ZhB g hj
 rw[(Zdw g (show i<nt d n by omega)).2.2.2.1,(Zdw g hj).2.2.2.1]
 have:=List.pairwise_iff_getElem.1 (ZjG g n).rise i j (show i<nt d n by omega) hj hij
 have e:∀k (hk:k<nt d n),cut d n (k+1)=Zd2 d.futures (tch d n)[k]:=fun k hk=>by
  unfold cut
  rw[if_neg (by omega),Nat.add_sub_cancel,List.getElem?_eq_getElem hk]
 rw[e i (by omega),e j hj]
 exact this
def ZeK (d:Zo) (n k:Nat):List (Zi×Int):=(List.range k).map fun j:Nat=>(ZeQ d n j,((Zay d n+j+1:Nat):Int))
theorem ZoG (d:Zo) (n k:Nat):ZeK d n (k+1)=ZeK d n k++[(ZeQ d n k,((Zay d n+k+1:Nat):Int))]:=by unfold ZeK; rw[List.range_succ,List.map_append]; rfl
theorem Zom {a b:Zi} (h:a.user≠b.user∨a.pos≠b.pos):eqF a b=false:=by
 show((a.maker==b.maker)&&((a.user==b.user)&&((a.pos==b.pos)&&true)))=false
 rcases h with h | h
 ·rw[beq_false_of_ne h]; simp
 ·rw[beq_false_of_ne h]; simp
theorem Zl9 {d:Zo} (g:Zi7 d) {n k:Nat} (hk:k<nt d n) {M:List (Zi×Int)} (h:∀q∈M,q.1.user≠(n:Int)) :
  Zt (fun ka kb:Zi=>((ka.maker==kb.maker)&&((ka.user==kb.user)&&((ka.pos==kb.pos)&&true)))) (M++ZeK d n k) (ZeQ d n k) ((Zay d n+(k+1):Nat):Int)=M++ZeK d n (k+1):=by
 rw[ZoG,← List.append_assoc]
 refine ZgD eqF _ _ _ fun q hq=>?_
 have hu:=(Zdw g hk).2.2.1
 rcases List.mem_append.1 hq with hq | hq
 ·exact Zom (.inl (by rw[hu]; exact Ne.symm (h q hq)))
 ·unfold ZeK at hq
  obtain⟨j,hj,rfl⟩:=List.mem_map.1 hq
  rw[List.mem_range] at hj
  have:=Zj7 g hj hk
  exact Zom (.inr (by show(ZeQ d n k).pos≠(ZeQ d n j).pos; omega))
theorem Zqs {d:Zo} (g:Zc7 d) {n:Nat} (hn:n<d.parts.length) {W:List Int} {E:List Zm} {P:List Zh} {M5:List (Int×Int)} {M6:List (Zi×Int)} (hW:W.length≤1000) (hE:E.length≤1000) (hP:P.length=Zay d n)
  (h5:∀q∈M5,q.1≠(n:Int)) (h6:∀q∈M6,q.1.user≠(n:Int)) :
  lp (Zy d (n:Int) (tch d n)) (0,0,M5,M6,W,E,P)=some (M5++[((n:Int),((Zay d n+nt d n:Nat):Int))],M6++ZeK d n (nt d n),W++Zhb d n,E++Zfx d n (nt d n),P++Zd8 n (nt d n+1)):=by
 obtain⟨x,x1,x2⟩:=Zrc hn
 have hnt:=ZtA g n
 have hnl:(tch d n).length=nt d n:=rfl
 have hF:=Zgk g n
 have hpl:=g.pl
 have e1:w64 (((tch d n).length:Int)+1)=((nt d n+1:Nat):Int):=by show w64 ((nt d n:Int)+1)=_; rw[Zcm (by omega) (by omega)]; omega
 have key:∀(k i:Nat),i+k=nt d n+1→lp (Zy d (n:Int) (tch d n)) (cut d n i,(i:Int),Zg1 M5 n (Zay d n) i,M6++ZeK d n (i-1),W++Zgo d n i,E++Zfx d n (i-1),P++Zd8 n i) =
   some (Zg1 M5 n (Zay d n) (nt d n+1),M6++ZeK d n (nt d n),W++Zhb d n,E++Zfx d n (nt d n),P++Zd8 n (nt d n+1)):=by
  intro k
  induction k with
  | zero=>
   intro i hi
   have:i=nt d n+1:=by omega
   subst this
   rw[Zbl]
   simp only[Zy,e1,Zfe,cond_false]
   rfl
  | succ k ih=>
   intro i hi
   have hi':i<nt d n+1:=by omega
   have b0:=Zvv g.g n i
   have b1:=Zvv g.g n (i+1)
   have lP:(P++Zd8 n i).length=Zay d n+i:=by rw[List.length_append,Zk8,hP]
   have l2:(W++Zgo d n i).length≤10000:=by rw[List.length_append,ZmI]; omega
   have l3:(E++Zfx d n (i-1)).length≤10000:=by rw[List.length_append,Zmm]; omega
   have lput:=Zoy (P++Zd8 n i) (Zh.mk (n:Int) (i:Int)) (by rw[lP]; omega)
   rw[lP] at lput
   have p5:=ZpA (F:=Zay d n) h5 i
   have g5:=ZoO (F:=Zay d n) h5 i
   have w5:w64 (cut d n (i+1)-cut d n i)=cut d n (i+1)-cut d n i:=Zcm (by omega) (by omega)
   have ih':=ih (i+1) (by omega)
   rw[Zk6,Zn1,← List.append_assoc,← List.append_assoc] at ih'
   rw[Zbl]
   have fin:i=nt d n→cut d n (i+1)=x.work:=fun h=>by rw[h,Zon,x2]
   have node:=fun c=>Zfp (Zh.mk (n:Int) (i:Int)) c l2 (show(P++Zd8 n i).length≤10000 by rw[lP]; omega)
   by_cases hlast:i<nt d n
   ·obtain⟨q1,q2,q3,q4,_⟩:=Zdw g.g hlast
    cases i with
    | zero=>
     simp only[Zy,e1,ZeA hi',cond_true,x1,Option.bind_some,ZeA (show 0<(tch d n).length from hlast),q1,q2,q4,node,decide_eq_false (show ¬(0:Int)<((0:Nat):Int) by omega),cond_false,lput,p5,w5,Z8 hi' (show nt d n+1<9223372036854775808 by omega)]
     exact ih'
    | succ j=>
     obtain⟨r1,r2,r3,r4,_⟩:=Zdw g.g (show j<nt d n by omega)
     have e2:w64 (((j+1:Nat):Int)-1)=(j:Int):=by rw[Zcm (by omega) (by omega)]; omega
     have e3:w64 (((Zay d n+(j+1):Nat):Int)-1)=((Zay d n+j:Nat):Int):=by rw[Zcm (by omega) (by omega)]; omega
     have p6:=Zl9 g.g (show j<nt d n by omega) h6
     rw[Nat.add_sub_cancel] at l3 ih' ⊢
     rw[Zld,← List.append_assoc] at ih'
     simp only[Zy,e1,ZeA hi',cond_true,x1,Option.bind_some,ZeA (show j+1<(tch d n).length from hlast),q1,q2,q4,node,decide_eq_true (show(0:Int)<((j+1:Nat):Int) by omega),lput,p5,g5,w5,e2,e3,r1,r2,ZhJ _ _ l3,p6,Z8 hi' (show nt d n+1<9223372036854775808 by omega)]
     exact ih'
   ·have hin:i=nt d n:=by omega
    have hfin:=fin hin
    rw[hfin] at w5 ih'
    have c3:decide ((i:Int)<((tch d n).length:Int))=false:=decide_eq_false (by have:((tch d n).length:Int)=(nt d n:Int):=rfl; omega)
    cases i with
    | zero=>
     simp only[Zy,e1,ZeA hi',cond_true,x1,Option.bind_some,c3,node,decide_eq_false (show ¬(0:Int)<((0:Nat):Int) by omega),cond_false,lput,p5,w5,Z8 hi' (show nt d n+1<9223372036854775808 by omega)]
     exact ih'
    | succ j=>
     obtain⟨r1,r2,r3,r4,_⟩:=Zdw g.g (show j<nt d n by omega)
     have e2:w64 (((j+1:Nat):Int)-1)=(j:Int):=by rw[Zcm (by omega) (by omega)]; omega
     have e3:w64 (((Zay d n+(j+1):Nat):Int)-1)=((Zay d n+j:Nat):Int):=by rw[Zcm (by omega) (by omega)]; omega
     have p6:=Zl9 g.g (show j<nt d n by omega) h6
     rw[Nat.add_sub_cancel] at l3 ih' ⊢
     rw[Zld,← List.append_assoc] at ih'
     simp only[Zy,e1,ZeA hi',cond_true,cond_false,x1,Option.bind_some,c3,node,decide_eq_true (show(0:Int)<((j+1:Nat):Int) by omega),lput,p5,g5,w5,e2,e3,r1,r2,ZhJ _ _ l3,p6,Z8 hi' (show nt d n+1<9223372036854775808 by omega)]
     exact ih'
 have:=key (nt d n+1) 0 (by omega)
 simpa [Zg1,ZeK,Zgo,Zfx,Zd8,cut] using this
end Go.Proofs.YtljgncbdagmeeaaDoor
namespace Go.Proofs.YtljgncbdagmeeaaDoor
open Go Go.Proofs.YtljgncbdagmeeaaDoorE
set_option linter.unusedVariables false
set_option linter.unusedSimpArgs false
def ZjN (g:Za2) (a:Int) (T:List Bool):Prop:=∀e∈g.edges,(e.src=a∨bAt T e.src=true)→bAt T e.dst=true
end Go.Proofs.YtljgncbdagmeeaaDoor
namespace Go.Proofs.YtljgncbdagmeeaaDoor
open Go Go.Proofs.YtljgncbdagmeeaaDoorE
set_option linter.unusedVariables false
set_option linter.unusedSimpArgs false
def ZeC (d:Zo) (k:Nat):List (Int×Int):=(List.range k).map fun n:Nat=>((n:Int),(Zay d n:Int))
def ZeU (d:Zo) (k:Nat):List (Int×Int):=(List.range k).map fun n:Nat=>((n:Int),((Zay d n+nt d n:Nat):Int))
def Zdj (d:Zo) (k:Nat):List (Zi×Int):=upto (fun n=>ZeK d n (nt d n)) k
theorem Zor (d:Zo) (k:Nat):ZeC d (k+1)=ZeC d k++[((k:Int),(Zay d k:Int))]:=by unfold ZeC; rw[List.range_succ,List.map_append]; rfl
theorem Zpa (d:Zo) (k:Nat):ZeU d (k+1)=ZeU d k++[((k:Int),((Zay d k+nt d k:Nat):Int))]:=by unfold ZeU; rw[List.range_succ,List.map_append]; rfl
theorem Zqc (d:Zo) (k:Nat):∀q∈ZeC d k,q.1≠(k:Int):=fun q hq=>by
 unfold ZeC at hq
 obtain⟨j,hj,rfl⟩:=List.mem_map.1 hq
 rw[List.mem_range] at hj
 show(j:Int)≠(k:Int)
 omega
theorem ZnF (d:Zo) (k:Nat):∀q∈ZeU d k,q.1≠(k:Int):=fun q hq=>by
 unfold ZeU at hq
 obtain⟨j,hj,rfl⟩:=List.mem_map.1 hq
 rw[List.mem_range] at hj
 show(j:Int)≠(k:Int)
 omega
theorem Zj0 {d:Zo} {k:Nat} {q:Zi×Int} (h:q∈Zdj d k):∃n j,n<k∧j<nt d n∧q=(ZeQ d n j,((Zay d n+j+1:Nat):Int)):=by
 unfold Zdj upto at h
 obtain⟨n,hn,hq⟩:=List.mem_flatMap.1 h
 unfold ZeK at hq
 obtain⟨j,hj,rfl⟩:=List.mem_map.1 hq
 exact⟨n,j,List.mem_range.1 hn,List.mem_range.1 hj,rfl⟩
theorem Zpt {d:Zo} (g:Zi7 d) (k:Nat):∀q∈Zdj d k,q.1.user≠(k:Int):=fun q hq=>by
 obtain⟨n,j,hn,hj,rfl⟩:=Zj0 hq
 show(ZeQ d n j).user≠(k:Int)
 rw[(Zdw g hj).2.2.1]
 omega
theorem Zgc {K W:Type} (eq:K→K→Bool) (z:W) (f:Nat→K) (v:Nat→W) {i:Nat} (h0:eq (f i) (f i)=true) (h1:∀j,j<i→eq (f i) (f j)=false):∀k,i<k→Z2 eq ((List.range k).map fun j=>(f j,v j)) (f i) z=v i
 | 0,h=>absurd h (by omega)
 | k+1,h=>by
  rw[List.range_succ,List.map_append]
  by_cases hk:i<k
  ·rw[ZhI eq (f i) z _ _ ⟨(f i,v i),List.mem_map.2 ⟨i,List.mem_range.2 hk,rfl⟩,h0⟩]
   exact Zgc eq z f v h0 h1 k hk
  ·have:i=k:=by omega
   subst this
   refine Znu eq (f i) z (v i) h0 _ [] fun q hq=>?_
   obtain⟨j,hj,rfl⟩:=List.mem_map.1 hq
   exact h1 j (List.mem_range.1 hj)
theorem ZnI {d:Zo} {z:Int} (h:inR d z):Z2 (fun ka kb:Int=>(ka==kb)) (ZeC d d.parts.length) z 0=ZiF d z:=by
 have:=Zgc eqI 0 (fun n:Nat=>(n:Int)) (fun n=>(Zay d n:Int)) (i:=z.toNat) (by simp) (fun j hj=>beq_false_of_ne (by omega)) d.parts.length h.2
 have e:((z.toNat:Nat):Int)=z:=Int.toNat_of_nonneg h.1
 simp only[e] at this
 exact this
theorem Zmt {d:Zo} {z:Int} (h:inR d z):Z2 (fun ka kb:Int=>(ka==kb)) (ZeU d d.parts.length) z 0=ZjT d z:=by
 have:=Zgc eqI 0 (fun n:Nat=>(n:Int)) (fun n=>((Zay d n+nt d n:Nat):Int)) (i:=z.toNat) (by simp) (fun j hj=>beq_false_of_ne (by omega)) d.parts.length h.2
 have e:((z.toNat:Nat):Int)=z:=Int.toNat_of_nonneg h.1
 simp only[e] at this
 refine Eq.trans this ?_
 unfold ZjT
 show _=((Zay d z.toNat+(nt d z.toNat+1):Nat):Int)-1
 omega
theorem Zsh {d:Zo} (g:Zc7 d) {f:Zi} (h:f∈d.futures):∃j,j<nt d f.user.toNat∧ZeQ d f.user.toNat j=f:=by
 obtain⟨m,hm⟩:=List.getElem?_of_mem h
 have hu:=g.user h
 have e:((f.user.toNat:Nat):Int)=f.user:=Int.toNat_of_nonneg hu.1
 have:=(ZjG g.g f.user.toNat).mem (m:Int) |>.2 ⟨m,f,hm,e.symm,rfl⟩
 obtain⟨j,hj,hj2⟩:=List.getElem_of_mem this
 refine⟨j,hj,?_⟩
 unfold ZeQ
 rw[List.getElem?_eq_getElem hj]
 show(match d.futures[((tch d f.user.toNat)[j]).toNat]? with | some f=>f | none=>⟨0,0,0⟩)=f
 rw[hj2,Int.toNat_natCast,hm]
theorem Zq1 {γ R:Type} (p:Nat→γ→Bool) (out:Nat→γ→R) (fin:R):∀(l:List γ) (i j:Nat) (x:γ),l[j]? = some x→p (i+j) x=true→(∀k y,k<j→l[k]? = some y→p (i+k) y=false)→Zgg p out fin i l=out (i+j) x
 | [],i,j,x,h,_,_=>by cases h
 | y :: l,i,0,x,h,h1,_=>by
  cases h
  unfold Zgg
  rw[Nat.add_zero] at h1
  rw[h1]; rfl
 | y :: l,i,j+1,x,h,h1,h2=>by
  unfold Zgg
  have h0:=h2 0 y (by omega) rfl
  rw[Nat.add_zero] at h0
  rw[h0]
  show Zgg p out fin (i+1) l=_
  rw[show i+(j+1)=i+1+j by omega] at h1 ⊢
  exact Zq1 p out fin l (i+1) j x h h1 fun k z hk hz=>by
   have:=h2 (k+1) z (by omega) hz
   rwa [show i+(k+1)=i+1+k by omega] at this
theorem ZuA {d:Zo} (g:Zc7 d) {f:Zi} (h:f∈d.futures) {j:Nat} (hj:j<nt d f.user.toNat) (he:ZeQ d f.user.toNat j=f):ZrU d f=((Zay d f.user.toNat+j+1:Nat):Int):=by
 have pos:∀k (hk:k<nt d f.user.toNat),Zd2 d.futures (tch d f.user.toNat)[k]=(ZeQ d f.user.toNat k).pos:=fun k hk=>by
  rw[(Zdw g.g hk).2.2.2.1]
  unfold cut
  rw[if_neg (by omega),Nat.add_sub_cancel,List.getElem?_eq_getElem hk]
 unfold ZrU
 rw[Zq1 (fun _ z=>Zd2 d.futures z==f.pos) (fun i _=>ZiF d f.user+(i:Int)+1) (-1) (tch d f.user.toNat) 0 j _ (List.getElem?_eq_getElem hj) (by show(Zd2 d.futures (tch d f.user.toNat)[j]==f.pos)=true; rw[pos j hj,he]; simp) (fun k y hk hy=>by
  have hk2:k<nt d f.user.toNat:=by omega
  have hy2:(tch d f.user.toNat)[k]=y:=Option.some.inj ((List.getElem?_eq_getElem hk2).symm.trans hy)
  have:=Zj7 g.g hk hj
  rw[he] at this
  show(Zd2 d.futures y==f.pos)=false
  rw[← hy2,pos k hk2]
  exact beq_false_of_ne (by omega))]
 unfold ZiF
 omega
theorem ZoE (f:Zi):eqF f f=true:=by simp[eqF]
theorem ZrI {d:Zo} (g:Zc7 d) {f:Zi} (h:f∈d.futures):Z2 (fun ka kb:Zi=>((ka.maker==kb.maker)&&((ka.user==kb.user)&&((ka.pos==kb.pos)&&true)))) (Zdj d d.parts.length) f 0=ZrU d f:=by
 obtain⟨j,hj,he⟩:=Zsh g h
 have hu:=g.user h
 have eu:((f.user.toNat:Nat):Int)=f.user:=Int.toNat_of_nonneg hu.1
 have key:∀k,f.user.toNat<k→Z2 eqF (Zdj d k) f 0=ZrU d f:=by
  intro k
  induction k with
  | zero=>intro hk; exact absurd hk (by omega)
  | succ k ih=>
   intro hk
   rw[show Zdj d (k+1)=Zdj d k++ZeK d k (nt d k) from Zcv _ k]
   by_cases hlt:f.user.toNat<k
   ·rw[ZhI eqF f 0 _ _ ⟨(f,((Zay d f.user.toNat+j+1:Nat):Int)),?_,ZoE f⟩]
    ·exact ih hlt
    ·unfold Zdj upto
     refine List.mem_flatMap.2 ⟨f.user.toNat,List.mem_range.2 hlt,?_⟩
     unfold ZeK
     exact List.mem_map.2 ⟨j,List.mem_range.2 hj,by rw[he]⟩
   ·have hk2:k=f.user.toNat:=by omega
    subst hk2
    rw[Zg9 eqF f 0 _ _ (fun q hq=>by
     obtain⟨n,i,hn,hi,rfl⟩:=Zj0 hq
     refine Zom (.inl ?_)
     show f.user≠(ZeQ d n i).user
     rw[(Zdw g.g hi).2.2.1]
     omega)]
    have:=Zgc eqF 0 (fun i=>ZeQ d f.user.toNat i) (fun i=>((Zay d f.user.toNat+i+1:Nat):Int)) (i:=j) (ZoE _) (fun i hi=>by
     have:=Zj7 g.g hi hj
     exact Zom (.inr (by omega))) (nt d f.user.toNat) hj
    rw[ZuA g h hj he]
    rw[he] at this
    exact this
 exact key d.parts.length hu.2
theorem Zqy {d:Zo} (g:Zc7 d) (hc:∀n:Nat,ZcE d (n:Int)=some (tch d n)):lp (Zca d) (0,[],[],[],[],[],[])=some (Ze1 d d.parts.length,Zfr d d.parts.length,Zc3 d d.parts.length,ZeC d d.parts.length,ZeU d d.parts.length,Zdj d d.parts.length):=by
 have hpl:=g.pl
 have key:∀(k i:Nat),i+k=d.parts.length→lp (Zca d) ((i:Int),Ze1 d i,Zfr d i,Zc3 d i,ZeC d i,ZeU d i,Zdj d i)=some (Ze1 d d.parts.length,Zfr d d.parts.length,Zc3 d d.parts.length,ZeC d d.parts.length,ZeU d d.parts.length,Zdj d d.parts.length):=by
  intro k
  induction k with
  | zero=>
   intro i hi
   have:i=d.parts.length:=by omega
   subst this
   rw[Zbl]
   simp only[Zca,Zfe,cond_false]
  | succ k ih=>
   intro i hi
   have hi':i<d.parts.length:=by omega
   have hF:=Zgk g i
   have h1:=ZjL d i
   have l1:(Ze1 d i).length≤1000:=by rw[ZhE]; omega
   have l2:(Zfr d i).length≤1000:=by omega
   have l3:(Zc3 d i).length≤1000:=by rw[Zev]; omega
   have ih':=ih (i+1) (by omega)
   rw[show Zfr d (i+1)=Zfr d i++Zfx d i (nt d i) from Zcv _ i,show Ze1 d (i+1)=Ze1 d i++Zhb d i from Zcv _ i,show Zc3 d (i+1)=Zc3 d i++Zd8 i (nt d i+1) from Zcv _ i,Zor,Zpa,show Zdj d (i+1)=Zdj d i++ZeK d i (nt d i) from Zcv _ i] at ih'
   have pe:=Zr0 g hi' (hc i) (ZeU d i) (Zdj d i) l1 l2 l3
   rw[Zqs g hi' l1 l2 (Zev d i) (ZnF d i) (Zpt g.g i),Option.bind_some] at pe
   have p4:Zt (fun ka kb:Int=>(ka==kb)) (ZeC d i) (i:Int) ((Zc3 d i).length:Int)=ZeC d i++[((i:Int),(Zay d i:Int))]:=by
    rw[Zev]
    exact ZgD eqI (i:Int) _ _ fun q hq=>beq_false_of_ne (Ne.symm (Zqc d i q hq))
   have p5:Zt (fun ka kb:Int=>(ka==kb)) (ZeU d i) (i:Int) (Zay d i:Int)=ZeU d i++[((i:Int),(Zay d i:Int))]:=ZgD eqI (i:Int) _ _ fun q hq=>beq_false_of_ne (Ne.symm (ZnF d i q hq))
   have lput:=Zoy (Zc3 d i) (Zh.mk (i:Int) 0) (by omega)
   rw[Zev] at lput
   rw[Zbl]
   by_cases h0:0<nt d i
   ·rw[decide_eq_true h0] at pe
    simp only[Zca,ZeA hi',cond_true,pe,Option.bind_some,p4,Z8 hi' (show d.parts.length<9223372036854775808 by omega)]
    exact ih'
   ·have hz:nt d i=0:=by omega
    rw[decide_eq_false h0] at pe
    simp only[Zca,ZeA hi',cond_true,cond_false,pe,Option.bind_some,p4,lput,p5,Z8 hi' (show d.parts.length<9223372036854775808 by omega)]
    rw[hz] at ih'
    simpa [Zfx,Zd8,ZeK] using ih'
 exact key d.parts.length 0 (by omega)
theorem Zqa {d:Zo} (g:Zc7 d) {r3:List Int×List Zm×List Zh×List (Int×Int)×List (Int×Int)×List (Zi×Int)} (h4:r3.2.2.2.1=ZeC d d.parts.length) (h5:r3.2.2.2.2.1=ZeU d d.parts.length) (E:List Zm) (hE:E.length≤1000):lp (Zcu d r3) (0,E)=some (E++ZmB d):=
 have he:=g.el
 Zn7 d.edges (by omega) (Zcu d r3) (fun e=>⟨ZjT d e.src,ZiF d e.dst⟩) (fun i x s hi hx hb=>by
  have hm:=List.mem_of_getElem? hx
  have ed:∀b c,ZG b c s=some ():=fun b c=>by unfold ZG; rw[hb]; rfl
  simp only[Zcu,ZeA hi,cond_true,ZaX hx,Option.bind_some,h4,h5,Zmt (g.src hm),ZnI (g.dst hm),ed,Z8 hi (show d.edges.length<9223372036854775808 by omega)]) (fun s=>by simp only[Zcu,Zfe,cond_false]) E (by omega)
theorem Zoo {d:Zo} (g:Zc7 d) {r3:List Int×List Zm×List Zh×List (Int×Int)×List (Int×Int)×List (Zi×Int)} (h5:r3.2.2.2.2.1=ZeU d d.parts.length) (h6:r3.2.2.2.2.2=Zdj d d.parts.length) (E:List Zm) (hE:E.length≤1000):lp (Zcx d r3) (0,E)=some (E++Zob d):=
 have he:=g.fl
 Zn7 d.futures (by omega) (Zcx d r3) (fun f=>⟨ZjT d f.maker,ZrU d f⟩) (fun i x s hi hx hb=>by
  have hm:=List.mem_of_getElem? hx
  have ed:∀b c,ZG b c s=some ():=fun b c=>by unfold ZG; rw[hb]; rfl
  simp only[Zcx,ZeA hi,cond_true,ZaX hx,Option.bind_some,h5,h6,Zmt (g.maker hm),ZrI g hm,ed,Z8 hi (show d.futures.length<9223372036854775808 by omega)]) (fun s=>by simp only[Zcx,Zfe,cond_false]) E (by omega)
theorem ZrP {d:Zo} (g:Zc7 d) (hz:ZjW d) {r3:List Int×List Zm×List Zh×List (Int×Int)×List (Int×Int)×List (Zi×Int)} (h4:r3.2.2.2.1=ZeC d d.parts.length) (h5:r3.2.2.2.2.1=ZeU d d.parts.length) (E:List Zm) (hE:E.length≤1000) :
  lp (Zcw d r3) (0,Ze1 d d.parts.length,E,Zc3 d d.parts.length)=some (ZeJ d,E++ZeV d d.barriers.length,ZkD d):=by
 have hbl:=g.bl
 have hF:=Zgk g d.parts.length
 have hpl:=g.pl
 have key:∀(k i:Nat),i+k=d.barriers.length→lp (Zcw d r3) ((i:Int),Ze1 d d.parts.length++List.replicate i 1,E++ZeV d i,Zc3 d d.parts.length++ZeB i)=some (ZeJ d,E++ZeV d d.barriers.length,ZkD d):=by
  intro k
  induction k with
  | zero=>
   intro i hi
   have:i=d.barriers.length:=by omega
   subst this
   rw[Zbl]
   simp only[Zcw,Zfe,cond_false]
   rfl
  | succ k ih=>
   intro i hi
   have hi':i<d.barriers.length:=by omega
   have hx:d.barriers[i]? = some d.barriers[i]:=List.getElem?_eq_getElem hi'
   have hm:=List.mem_of_getElem? hx
   have hsz:=hz.i _ hm
   have hB:=ZjC hz i
   have lp_:(Zc3 d d.parts.length++ZeB i).length=Zay d d.parts.length+i:=by rw[List.length_append,Zev,Zk5]
   have lw_:(Ze1 d d.parts.length++List.replicate i (1:Int)).length=Zay d d.parts.length+i:=by rw[List.length_append,ZhE,List.length_replicate]
   have lput:=Zoy (Zc3 d d.parts.length++ZeB i) (Zh.mk (-1) (i:Int)) (by rw[lp_]; omega)
   rw[lp_,show((Zay d d.parts.length+i:Nat):Int)=ZmG d i from rfl] at lput
   have k4:=fun s=>Zn7 d.barriers[i].ins (by omega) (Zda r3 ((i:Int),Ze1 d d.parts.length++List.replicate i 1,E++ZeV d i,Zc3 d d.parts.length++ZeB i) d.barriers[i]) (fun q=>⟨ZjT d q,ZmG d i⟩) (fun j x s hj hx hb=>by
    have ed:∀b c,ZG b c s=some ():=fun b c=>by unfold ZG; rw[hb]; rfl
    simp only[Zda,ZeA hj,cond_true,ZaX hx,Option.bind_some,h5,Zmt (g.ins _ hm x (List.mem_of_getElem? hx)),lput,ed,Z8 hj (show d.barriers[i].ins.length<9223372036854775808 by omega)]) (fun s=>by simp only[Zda,Zfe,cond_false]) s
   have k5:=fun s=>Zn7 d.barriers[i].outs (by omega) (Zdb r3 ((i:Int),Ze1 d d.parts.length++List.replicate i 1,E++ZeV d i,Zc3 d d.parts.length++ZeB i) d.barriers[i]) (fun q=>⟨ZmG d i,ZiF d q⟩) (fun j x s hj hx hb=>by
    have ed:∀b c,ZG b c s=some ():=fun b c=>by unfold ZG; rw[hb]; rfl
    simp only[Zdb,ZeA hj,cond_true,ZaX hx,Option.bind_some,h4,ZnI (g.outs _ hm x (List.mem_of_getElem? hx)),lput,ed,Z8 hj (show d.barriers[i].outs.length<9223372036854775808 by omega)]) (fun s=>by simp only[Zdb,Zfe,cond_false]) s
   have ih':=ih (i+1) (by omega)
   have eB:ZeV d (i+1)=ZeV d i++Zs5 d (ZmG d i) d.barriers[i]:=by
    unfold ZeV
    rw[Zcv,hx]
   rw[eB,Zol,List.replicate_succ',Zs5,← List.append_assoc,← List.append_assoc,← List.append_assoc,← List.append_assoc] at ih'
   rw[Zbl]
   simp only[Zcw,ZeA hi',cond_true,ZaX hx,Option.bind_some,Zfp _ _ (show(Ze1 d d.parts.length++List.replicate i (1:Int)).length≤10000 by rw[lw_]; omega) (show(Zc3 d d.parts.length++ZeB i).length≤10000 by rw[lp_]; omega),k4 (E++ZeV d i) (by rw[List.length_append]; omega),
    k5 (E++ZeV d i++List.map (fun q=>⟨ZjT d q,ZmG d i⟩) d.barriers[i].ins) (by simp only[List.length_append,List.length_map]; omega),Z8 hi' (show d.barriers.length<9223372036854775808 by omega)]
   exact ih'
 have:=key d.barriers.length 0 (by omega)
 simpa [ZeV,upto,ZeB] using this
theorem Zpc {d:Zo} (g:Zc7 d) (hz:ZjW d):Zou (Zey d).dag:=by
 have hE:=ZlG g
 have hB:=ZjC hz d.barriers.length
 have hbl:=g.bl
 have hF:=Zgk g d.parts.length
 have hpl:=g.pl
 constructor
 ·show(ZeJ d).length<_
  unfold ZeJ
  rw[List.length_append,ZhE,List.length_replicate]
  omega
 ·show(ZpV d).length<_
  unfold ZpV
  rw[List.length_append]
  omega
noncomputable def ZpU (d:Zo):Zf9×Int:=
 bif Zfz d==0 then (bif ZhU (Zey d).dag==0 then (Zey d,0) else (⟨⟨[],[]⟩,[]⟩,70)) else (⟨⟨[],[]⟩,[]⟩,Zfz d)
theorem ZuQ {d:Zo} (hz:ZjW d):ZeO d=some (ZpU d):=by
 have hs:=hz.short
 unfold ZeO ZpU
 rw[ZqH d hs,Option.bind_some]
 by_cases hc:Zfz d=0
 ·have g:=ZoY hc
  have hE:=ZlG g
  have h3:(Zfr d d.parts.length++ZmB d).length≤1000:=by unfold ZkO at hE; rw[List.length_append] at hE; omega
  have h4:(Zfr d d.parts.length).length≤1000:=by rw[List.length_append] at h3; omega
  rw[hc]
  simp only[bne_self_eq_false,cond_false,beq_self_eq_true,cond_true,Zqy g (Zw9 hs (by have:=g.fl; omega) hc),Option.bind_some]
  rw[Zqa g rfl rfl _ h4]
  simp only[Option.bind_some]
  rw[Zoo g rfl rfl _ h3]
  simp only[Option.bind_some]
  rw[show Zfr d d.parts.length++ZmB d++Zob d=ZkO d from rfl,ZrP g hz rfl rfl _ hE]
  simp only[Option.bind_some]
  rw[show Za2.mk (ZeJ d) (ZkO d++ZeV d d.barriers.length)=(Zey d).dag from rfl,Zju _ (Zpc g hz),Option.bind_some]
  by_cases hk:ZhU (Zey d).dag=0
  ·rw[hk]; rfl
  ·rw[beq_false_of_ne hk,bne,beq_false_of_ne hk]; rfl
 ·rw[beq_false_of_ne hc,bne,beq_false_of_ne hc]; rfl
end Go.Proofs.YtljgncbdagmeeaaDoor
namespace Go.Proofs.YtljgncbdagmeeaaDoor
open Go Go.Proofs.YtljgncbdagmeeaaDoorE
set_option linter.unusedVariables false
set_option linter.unusedSimpArgs false
theorem Zu0 {d:Zo} (g:Zc7 d) {n:Nat} (hn:n<d.parts.length):1≤Zdt d.parts (n:Int):=by
 unfold Zdt
 rw[Int.toNat_natCast,List.getElem?_eq_getElem hn]
 exact(g.g.w _ (List.getElem_mem hn)).1
theorem Zq2 {d:Zo} (g:Zi7 d) {n i:Nat} (hi:i<nt d n):1≤cut d n (i+1)∧cut d n (i+1)≤Zdt d.parts (n:Int)-1:=by
 obtain⟨_,_,h3,h4,h5⟩:=Zdw g hi
 have:=(g.f _ h5).2
 rw[h3,h4] at this
 exact this
theorem ZtO {d:Zo} (g:Zc7 d) {n:Nat} (hn:n<d.parts.length) {i:Nat} (hi:i≤nt d n):1≤cut d n (i+1)-cut d n i:=by
 have hw:=Zu0 g hn
 by_cases hl:i<nt d n
 ·have h1:=Zq2 g.g hl
  cases i with
  | zero=>have:cut d n 0=0:=rfl; omega
  | succ j=>
   have:=Zj7 g.g (show j<j+1 by omega) hl
   rw[(Zdw g.g (show j<nt d n by omega)).2.2.2.1,(Zdw g.g hl).2.2.2.1] at this
   omega
 ·have:i=nt d n:=by omega
  subst this
  rw[Zon]
  cases h0:nt d n with
  | zero=>have:cut d n 0=0:=rfl; omega
  | succ j=>
   have:=Zq2 g.g (show j<nt d n by omega)
   omega
theorem ZsP {d:Zo} (g:Zc7 d) {n:Nat} (hn:n<d.parts.length):∀x∈Zhb d n,1≤x:=fun x hx=>by
 unfold Zhb Zgo at hx
 obtain⟨i,hi,rfl⟩:=List.mem_map.1 hx
 rw[List.mem_range] at hi
 exact ZtO g hn (by omega)
theorem Zmi (d:Zo) (n:Nat):∀k,(Zgo d n k).sum=cut d n k
 | 0=>rfl
 | k+1=>by
  rw[Zk6,List.sum_append,Zmi d n k]
  simp only[List.sum_cons,List.sum_nil]
  omega
theorem ZrZ (d:Zo) (n:Nat):(Zhb d n).sum=Zdt d.parts (n:Int):=by unfold Zhb; rw[Zmi,Zon]
def ZkQ (d:Zo):Nat→Int
 | 0=>0
 | k+1=>ZkQ d k+Zdt d.parts (k:Int)
theorem ZnG (d:Zo):∀k,(Ze1 d k).sum=ZkQ d k
 | 0=>rfl
 | k+1=>by
  rw[show Ze1 d (k+1)=Ze1 d k++Zhb d k from Zcv _ k,List.sum_append,ZnG d k,ZrZ]
  rfl
theorem Zp1 (d:Zo):(ZeJ d).sum=ZkQ d d.parts.length+(d.barriers.length:Int):=by
 have:∀n:Nat,(List.replicate n (1:Int)).sum=(n:Int):=by
  intro n
  induction n with
  | zero=>rfl
  | succ n ih=>rw[List.replicate_succ,List.sum_cons,ih]; omega
 unfold ZeJ
 rw[List.sum_append,ZnG,this]
theorem ZrT {d:Zo} (g:Zc7 d):∀x∈ZeJ d,1≤x:=fun x hx=>by
 unfold ZeJ at hx
 rcases List.mem_append.1 hx with hx | hx
 ·unfold Ze1 upto at hx
  obtain⟨n,hn,hx⟩:=List.mem_flatMap.1 hx
  exact ZsP g (List.mem_range.1 hn) x hx
 ·rw[(List.mem_replicate.1 hx).2]; exact Int.le_refl _
theorem ZtE (d:Zo) (g:Zi7 d) (n:Nat):nt d n=d.futures.countP fun f=>f.user==(n:Int):=by
 show(tch d n).length=_
 rw[Zm8 (ZjG g n)]
 unfold Zlm
 rw[Zly]
theorem Zno {γ:Type} (p q r:γ→Bool) (h:∀x,r x=(p x || q x)) (h2:∀x,¬(p x=true∧q x=true)):∀l:List γ,l.countP r=l.countP p+l.countP q
 | []=>rfl
 | x :: l=>by
  rw[List.countP_cons,List.countP_cons,List.countP_cons,Zno p q r h h2 l,h x]
  have:=h2 x
  cases hp:p x<;>cases hq:q x<;>simp_all<;>omega
theorem Zkk {d:Zo} (g:Zc7 d):∀k,Zay d k=k+d.futures.countP fun f=>decide (0≤f.user)&&decide (f.user<(k:Int))
 | 0=>by
  have:(d.futures.countP fun f=>decide (0≤f.user)&&decide (f.user<((0:Nat):Int)))=0:=by
   rw[List.countP_eq_zero]
   intro f _
   simp only[Bool.and_eq_true,decide_eq_true_eq]
   omega
  rw[this]; rfl
 | k+1=>by
  rw[Zno (fun f:Zi=>decide (0≤f.user)&&decide (f.user<(k:Int))) (fun f=>f.user==(k:Int)) (fun f=>decide (0≤f.user)&&decide (f.user<((k+1:Nat):Int))) (fun f=>by
   rw[Bool.eq_iff_iff]
   simp only[Bool.and_eq_true,Bool.or_eq_true,decide_eq_true_eq,beq_iff_eq]
   omega) (fun f=>by
   simp only[Bool.and_eq_true,decide_eq_true_eq,beq_iff_eq]
   omega)]
  show Zay d k+(nt d k+1)=_
  rw[Zkk g k,ZtE d g.g k]
  omega
theorem Zmj {d:Zo} (g:Zc7 d):Zay d d.parts.length=d.parts.length+d.futures.length:=by
 rw[Zkk g,List.countP_eq_length.2 fun f hf=>?_]
 have:=g.user hf
 have h1:=this.1
 have h2:=this.2
 simp only[Bool.and_eq_true,decide_eq_true_eq]
 omega
theorem Zqx {d:Zo} (g:Zc7 d):(ZeJ d).length=d.parts.length+d.futures.length+d.barriers.length:=by
 unfold ZeJ
 rw[List.length_append,ZhE,List.length_replicate,Zmj g]
theorem ZpZ {d:Zo} (g:Zc7 d):(ZkD d).length=d.parts.length+d.futures.length+d.barriers.length:=by
 unfold ZkD
 rw[List.length_append,Zev,Zk5,Zmj g]
theorem Zuq (l:List Int) (hl:l.length≤1000) (hb:∀x∈l,0≤x∧x≤1000000) (step:Int×Int→Option ((Int×Int)⊕Int))
  (h1:∀(i:Nat) x s,i<l.length→l[i]? = some x→step (s,(i:Int))=some (.inl (w64 (s+x),((i+1:Nat):Int)))) (h2:∀s,step (s,(l.length:Int))=some (.inr s)) (s:Int) (hs:0≤s∧s≤1000000):lp step (s,0)=some (s+l.sum):=by
 have key:=(ZoV l step (fun i s=>(s,(i:Int))) (fun _ s x=>s+x) id (fun i s=>0≤s∧s≤1000000+1000000*i) (fun i x s hi hx hI=>by
  have:=hb x (List.mem_of_getElem? hx)
  refine⟨?_,by omega⟩
  rw[h1 i x s hi hx,Zcm (by omega) (by omega)]) (fun s _=>h2 s) s (by omega)).1
 have e:∀(l:List Int) (i:Nat) (s:Int),Zix (fun _ s x=>s+x) i s l=s+l.sum:=by
  intro l
  induction l with
  | nil=>intro i s; simp[Zix]
  | cons x l ih=>intro i s; show Zix _ (i+1) (s+x) l=_; rw[ih,List.sum_cons]; omega
 rw[e] at key
 exact key
theorem Zqu {g:Za2} (h:ZhU g=0):ZfI g=some g.work.sum:=by
 have hG:=(Zns h).1
 unfold ZfI
 rw[Zju g hG.short,h]
 have:=Zuq g.work (by have:=hG.wl; omega) (fun x hx=>by have:=hG.w x hx; omega) (ZdT g) (fun i x s hi hx=>by
  simp only[ZdT,ZeA hi,cond_true,ZaX hx,Option.bind_some,Z8 hi hG.short.w]) (fun s=>by simp only[ZdT,Zfe,cond_false]) 0 (by omega)
 simp only[Option.bind_some,beq_self_eq_true,cond_true,this,Int.zero_add]
theorem Zsa (d:Zo):(d.parts.map fun p=>p.work).sum=ZkQ d d.parts.length:=by
 have key:∀k,k≤d.parts.length→((d.parts.take k).map fun p=>p.work).sum=ZkQ d k:=by
  intro k
  induction k with
  | zero=>intro _; rfl
  | succ k ih=>
   intro hk
   have hk':k<d.parts.length:=by omega
   rw[List.take_succ_eq_append_getElem hk',List.map_append,List.sum_append,ih (by omega)]
   show _+([d.parts[k].work]).sum=ZkQ d k+Zdt d.parts (k:Int)
   unfold Zdt
   rw[Int.toNat_natCast,List.getElem?_eq_getElem hk']
   simp
 have:=key d.parts.length (Nat.le_refl _)
 rwa [List.take_length] at this
theorem Zp6 (d:Zo):(ZpU d=(Zey d,0)∧Zfz d=0∧ZhU (Zey d).dag=0)∨((ZpU d).1=⟨⟨[],[]⟩,[]⟩∧(ZpU d).2≠0):=by
 unfold ZpU
 by_cases hc:Zfz d=0
 ·rw[hc]
  by_cases hk:ZhU (Zey d).dag=0
  ·rw[hk]; exact .inl ⟨rfl,rfl,rfl⟩
  ·rw[beq_false_of_ne hk]; exact .inr ⟨rfl,by show(70:Int)≠0; omega⟩
 ·rw[beq_false_of_ne hc]; exact .inr ⟨rfl,hc⟩
end Go.Proofs.YtljgncbdagmeeaaDoor
namespace Go.Proofs.YtljgncbdagmeeaaDoor
open Go Go.Proofs.YtljgncbdagmeeaaDoorE
set_option linter.unusedVariables false
set_option linter.unusedSimpArgs false
theorem Zoq {γ δ:Type} (a:List γ) (b:List δ):(((a.length:Int)) != (b.length:Int)) = !decide (a.length=b.length):=by
 by_cases h:a.length=b.length
 ·rw[decide_eq_true h,h]; simp
 ·rw[decide_eq_false h]
  have:((a.length:Int))≠(b.length:Int):=by omega
  simp[bne_iff_ne.2 this]
theorem ZrE (x y:Zm):((x.src==y.src)&&((x.dst==y.dst)&&true))=decide (x=y):=by
 cases x; cases y
 simp[Zm.mk.injEq,Bool.beq_eq_decide_eq]
theorem ZrN (x y:Int):(x != y) = !decide (x=y):=by
 by_cases h:x=y
 ·subst h; simp
 ·rw[decide_eq_false h]; simpa using h
theorem Zw6 (a b:Za2):(decide (a.work=b.work)&&decide (a.edges=b.edges))=decide (a=b):=by
 cases a; cases b
 simp[Za2.mk.injEq]
theorem ZoN (a b:Za2) (h1:a.work.length<9223372036854775808) (h2:a.edges.length<9223372036854775808):Ze9 a b=some (decide (a=b)):=by
 unfold Ze9
 rw[Zoq,Zoq,← Zw6]
 by_cases l1:a.work.length=b.work.length
 case neg=>rw[decide_eq_false l1,decide_eq_false (show ¬a.work=b.work from fun e=>l1 (by rw[e]))]; rfl
 by_cases l2:a.edges.length=b.edges.length
 case neg=>rw[decide_eq_true l1,decide_eq_false l2,decide_eq_false (show ¬a.edges=b.edges from fun e=>l2 (by rw[e])),Bool.and_false]; rfl
 rw[decide_eq_true l1,decide_eq_true l2]
 simp only[Bool.not_true,cond_false]
 rw[Zn2 a.work b.work l1 (ZdA a b) (fun i x y hi hx hy=>by
  simp only[ZdA,ZeA hi,ZaX hx,ZaX hy,Option.bind_some,Z8 hi h1,cond_true,ZrN]
  cases decide (x=y)<;>rfl) (by simp only[ZdA,Zfe]; rfl)]
 cases decide (a.work=b.work) with
 | false=>rfl
 | true=>
  simp only[cond_true,Option.bind_some]
  rw[Zn2 a.edges b.edges l2 (Zdx a b) (fun i x y hi hx hy=>by
   simp only[Zdx,ZeA hi,ZaX hx,ZaX hy,Option.bind_some,Z8 hi h2,cond_true,ZrE]
   cases decide (x=y)<;>rfl) (by simp only[Zdx,Zfe]; rfl)]
  cases decide (a.edges=b.edges)<;>rfl
theorem Zqb (x y:Zh):((x.part==y.part)&&((x.step==y.step)&&true))=decide (x=y):=by
 cases x; cases y
 simp[Zh.mk.injEq,Bool.beq_eq_decide_eq]
theorem Zpm (a b:Zf9) (h1:a.dag.work.length<9223372036854775808) (h2:a.dag.edges.length<9223372036854775808) (h3:a.pieces.length<9223372036854775808):Ze4 a b=some (decide (a.dag=b.dag)&&decide (a.pieces=b.pieces)):=by
 unfold Ze4
 rw[Zoq]
 by_cases l1:a.pieces.length=b.pieces.length
 case neg=>rw[decide_eq_false l1,decide_eq_false (show ¬a.pieces=b.pieces from fun e=>l1 (by rw[e])),Bool.and_false]; rfl
 rw[decide_eq_true l1]
 simp only[Bool.not_true,cond_false]
 rw[Zn2 a.pieces b.pieces l1 (Zdy a b) (fun i x y hi hx hy=>by
  simp only[Zdy,ZeA hi,ZaX hx,ZaX hy,Option.bind_some,Z8 hi h3,cond_true,Zqb]
  cases decide (x=y)<;>rfl) (by simp only[Zdy,Zfe]; rfl)]
 simp only[ZoN _ _ h1 h2]
 cases decide (a.pieces=b.pieces)<;>cases decide (a.dag=b.dag)<;>rfl
end Go.Proofs.YtljgncbdagmeeaaDoor
