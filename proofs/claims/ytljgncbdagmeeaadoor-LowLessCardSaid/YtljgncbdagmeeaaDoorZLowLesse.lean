/- LowLess: part 5 of 6 of the proof. -/
import Derived.Test.YtljgncbdagmeeaaDoorZLowLessd
import Derived.KernelRfl
set_option maxRecDepth 100000
set_option maxHeartbeats 40000000
namespace Go.Proofs.YtljgncbdagmeeaaDoor
open Go Go.Proofs.YtljgncbdagmeeaaDoorE Go.Sort
set_option linter.unusedVariables false
set_option linter.unusedSimpArgs false
def sel {γ:Type} (p:γ→Bool) (g:Nat→γ→Int):Nat→List γ→List Int
 | _,[]=>[]
 | i,x :: l=>bif p x then g i x :: sel p g (i+1) l else sel p g (i+1) l
theorem Znp {γ:Type} (p:γ→Bool) (g:Nat→γ→Int):∀(l:List γ) (i:Nat),(sel p g i l).length=l.countP p
 | [],_=>rfl
 | x :: l,i=>by
  unfold sel
  have ih:=Znp p g l (i+1)
  cases h:p x with
  | true=>simp[ih,h]
  | false=>simp[ih,h]
theorem ZoC {γ:Type} (p:γ→Bool) (g:Nat→γ→Int) (z:Int):∀(l:List γ) (i:Nat),z∈sel p g i l↔∃j x,l[j]? = some x∧p x=true∧z=g (i+j) x
 | [],i=>by simp[sel]
 | x :: l,i=>by
  have ih:=ZoC p g z l (i+1)
  have key:(∃j y,(x :: l)[j]? = some y∧p y=true∧z=g (i+j) y)↔(p x=true∧z=g i x)∨∃j y,l[j]? = some y∧p y=true∧z=g (i+1+j) y:=by
   constructor
   ·rintro ⟨j,y,h1,h2,h3⟩
    cases j with
    | zero=>left;simp at h1;subst h1;exact⟨h2,h3⟩
    | succ j=>right;exact⟨j,y,by simpa using h1,h2,by rw[h3];congr 1;omega⟩
   ·rintro (⟨h2,h3⟩ | ⟨j,y,h1,h2,h3⟩)
    ·exact⟨0,x,rfl,h2,h3⟩
    ·exact⟨j+1,y,by simpa using h1,h2,by rw[h3];congr 1;omega⟩
  rw[key]
  unfold sel
  cases h:p x with
  | true=>simp[ih]
  | false=>simp[ih]
theorem ZxO {γ:Type} (l:List γ) (hl:l.length≤1000) (p:γ→Bool) (g:Nat→γ→Int) (step:Int×List Int→Option ((Int×List Int)⊕List Int))
  (h1:∀i x s,i<l.length→l[i]? = some x→step ((i:Int),s)=(bif p x then (bif Nat.ble (s.length+1) lim then some (.inl (((i+1:Nat):Int),s++[g i x])) else none) else some (.inl (((i+1:Nat):Int),s))))
  (h2:∀s,step ((l.length:Int),s)=some (.inr s)) (s:List Int) (hs:s.length≤1000000):lp step (0,s)=some (s++sel p g 0 l):=by
 have key:=Zrj l step (fun i s=>((i:Int),s)) (fun i x s=>bif p x then (bif Nat.ble (s.length+1) lim then some (.inl (s++[g i x])) else none) else some (.inl s)) (fun s=>some s) (fun i x s hi hx=>by
   rw[h1 i x s hi hx]
   cases p x<;>cases Nat.ble (s.length+1) lim<;>rfl) (fun s=>h2 s) s
 refine(key:lp step (0,s)=_).trans ?_
 have:∀(l:List γ) (i:Nat) (s:List Int),s.length+l.length≤1001000→ZnT (fun i x s=>bif p x then (bif Nat.ble (s.length+1) lim then some (Sum.inl (s++[g i x])) else (none:Option (List Int⊕List Int))) else some (.inl s)) (fun s=>some s) i l s=some (s++sel p g i l):=by
  intro l
  induction l with
  | nil=>intro i s _;simp[ZnT,sel]
  | cons x l ih=>
   intro i s hb
   rw[List.length_cons] at hb
   unfold ZnT sel
   cases p x with
   | true=>
    rw[ZkY (show s.length+1≤1073741824 by omega)]
    simp only[cond_true]
    rw[ih (i+1) (s++[g i x]) (by rw[List.length_append,List.length_singleton];omega)]
    simp
   | false=>
    simp only[cond_false]
    rw[ih (i+1) s (by omega)]
 exact this l 0 s (by omega)
theorem Zpk (k:Int→Int):∀(l m:List Int),l.Pairwise (fun x y=>k x<k y)→m.Pairwise (fun x y=>k x<k y)→(∀z,z∈l↔z∈m)→l=m
 | [],[],_,_,_=>rfl
 | [],y :: m,_,_,h=>absurd ((h y).2 (by simp)) (by simp)
 | x :: l,[],_,_,h=>absurd ((h x).1 (by simp)) (by simp)
 | x :: l,y :: m,h1,h2,h=>by
  rw[List.pairwise_cons] at h1 h2
  have hxy:x=y:=by
   rcases List.mem_cons.1 ((h x).1 (by simp)) with e | e
   ·exact e
   ·rcases List.mem_cons.1 ((h y).2 (by simp)) with e2 | e2
    ·exact e2.symm
    ·have:=h2.1 _ e
     have:=h1.1 _ e2
     omega
  subst hxy
  congr 1
  refine Zpk k l m h1.2 h2.2 fun z=>?_
  constructor
  ·intro hz
   rcases List.mem_cons.1 ((h z).1 (by simp[hz])) with e | e
   ·subst e
    have:=h1.1 _ hz
    omega
   ·exact e
  ·intro hz
   rcases List.mem_cons.1 ((h z).2 (by simp[hz])) with e | e
   ·subst e
    have:=h2.1 _ hz
    omega
   ·exact e
structure Zls (d:Zn):Prop where
 w:∀p∈d.parts,1≤p.work∧p.work≤100
 e:∀x∈d.edges,two d.parts.length x.src x.dst=true
 f:∀x∈d.futures,two d.parts.length x.maker x.user=true∧1≤x.pos∧x.pos≤Zeu d.parts x.user-1
 ne:∀(i j:Nat) (x y:Zk),i<j→d.futures[i]? = some x→d.futures[j]? = some y→¬(x.user=y.user∧x.pos=y.pos)
theorem ZrA {d:Zn} (h:Zes d=0):Zls d:=by
 unfold Zes at h
 have all:Zh0 d=true∧ZkS d=true∧d.parts.any Zgu=false∧Zgs (ZeI d) 0 d.edges=false∧Zgs (ZdO d) 0 d.futures=false:=by
  revert h
  cases Zh0 d<;>cases ZkS d<;>cases d.parts.any Zgu<;>cases Zgs (ZeI d) 0 d.edges<;>cases Zgs (ZdO d) 0 d.futures<;>simp
 obtain⟨_,_,h3,h4,h5⟩:=all
 have he:∀(i:Nat) x,d.edges[i]? = some x→ZeI d i x=false:=fun i x hx=>by
  cases hb:ZeI d i x with
  | false=>rfl
  | true=>rw[(Zio _ _ 0).2 ⟨i,x,hx,by simpa using hb⟩] at h4;cases h4
 have hf:∀(i:Nat) x,d.futures[i]? = some x→ZdO d i x=false:=fun i x hx=>by
  cases hb:ZdO d i x with
  | false=>rfl
  | true=>rw[(Zio _ _ 0).2 ⟨i,x,hx,by simpa using hb⟩] at h5;cases h5
 refine⟨ZpZ h3,fun x hx=>?_,fun x hx=>?_,fun i j x y hij hx hy=>?_⟩
 ·obtain⟨i,hi⟩:=List.getElem?_of_mem hx
  have:=he i x hi
  unfold ZeI at this
  simp only[Bool.or_eq_false_iff,Bool.not_eq_false'] at this
  exact this.1
 ·obtain⟨i,hi⟩:=List.getElem?_of_mem hx
  have:=hf i x hi
  unfold ZdO ZdG at this
  simp only[Bool.or_eq_false_iff,Bool.not_eq_false',Bool.and_eq_true,decide_eq_true_eq] at this
  exact⟨this.1,this.2.1.1,this.2.1.2⟩
 ·rintro ⟨h1,h2⟩
  have:=hf j y hy
  unfold ZdO at this
  simp only[Bool.or_eq_false_iff] at this
  have h6:=List.any_eq_false.1 this.2.2 x (List.mem_of_getElem? (i:=i) (by rw[List.getElem?_take_of_lt hij];exact hx))
  unfold again at h6
  simp[h1,h2] at h6
theorem ZlM {d:Zn} (g:Zls d) (u:Int):Zeu d.parts u≤100:=by
 unfold Zeu
 split
 ·rename_i p hp;exact(g.w p (List.mem_of_getElem? hp)).2
 ·omega
def Zf5 (fs:List Zk) (z:Int):Int:=match fs[z.toNat]? with | some f=>f.pos | none=>0
def Zow (d:Zn) (u:Int):List Int:=sel (fun f:Zk=>f.user==u) (fun i _=>(i:Int)) 0 d.futures
theorem Zlx (d:Zn) (u z:Int):z∈Zow d u↔∃(i:Nat) (f:Zk),d.futures[i]? = some f∧f.user=u∧z=(i:Int):=by
 unfold Zow
 rw[ZoC]
 simp
theorem ZpH (d:Zn) (u:Int):(Zow d u).Pairwise (fun x y=>x<y):=by
 have:∀(l:List Zk) (i:Nat),(sel (fun f:Zk=>f.user==u) (fun i _=>(i:Int)) i l).Pairwise (fun x y=>x<y)∧∀z∈sel (fun f:Zk=>f.user==u) (fun i _=>(i:Int)) i l,(i:Int)≤z:=by
  intro l
  induction l with
  | nil=>intro i;simp[sel]
  | cons x l ih=>
   intro i
   obtain⟨h1,h2⟩:=ih (i+1)
   unfold sel
   cases x.user==u with
   | true=>
    simp only[cond_true,List.pairwise_cons,List.mem_cons]
    refine⟨⟨fun z hz=>?_,h1⟩,?_⟩
    ·have:=h2 z hz;omega
    ·rintro z (rfl | hz)
     ·exact Int.le_refl _
     ·have:=h2 z hz;omega
   | false=>
    simp only[cond_false]
    exact⟨h1,fun z hz=>by have:=h2 z hz;omega⟩
 exact(this d.futures 0).1
structure Zhx (d:Zn) (u:Int) (r:List Int):Prop where
 mem:∀z,z∈r↔∃(i:Nat) (f:Zk),d.futures[i]? = some f∧f.user=u∧z=(i:Int)
 rise:r.Pairwise (fun x y=>Zf5 d.futures x<Zf5 d.futures y)
theorem Zhx.eq {d:Zn}{u:Int}{r s:List Int} (h1:Zhx d u r) (h2:Zhx d u s):r=s:=Zpk (Zf5 d.futures) r s h1.rise h2.rise fun z=>by rw[h1.mem,h2.mem]
theorem Zsd {l:List Int}{p q:Int→Int→Prop} (h:l.Pairwise p) (hq:∀x y,x∈l→y∈l→p x y→q x y):l.Pairwise q:=by
 rw[List.pairwise_iff_getElem] at h ⊢
 exact fun i j hi hj hij=>hq _ _ (List.getElem_mem hi) (List.getElem_mem hj) (h i j hi hj hij)
theorem Zx6 {d:Zn} (g:Zls d) {u x y:Int} (hx:∃(i:Nat) (f:Zk),d.futures[i]? = some f∧f.user=u∧x=(i:Int)) (hy:∃(i:Nat) (f:Zk),d.futures[i]? = some f∧f.user=u∧y=(i:Int)) (hne:x≠y):Zf5 d.futures x≠Zf5 d.futures y:=by
 obtain⟨i,f,h1,h2,rfl⟩:=hx
 obtain⟨j,e,h3,h4,rfl⟩:=hy
 intro he
 unfold Zf5 at he
 rw[Int.toNat_natCast,Int.toNat_natCast,h1,h3] at he
 simp only at he
 rcases Nat.lt_trichotomy i j with h | h | h
 ·exact g.ne i j f e h h1 h3 ⟨h2.trans h4.symm,he⟩
 ·exact hne (by rw[h])
 ·exact g.ne j i e f h h3 h1 ⟨h4.trans h2.symm,he.symm⟩
theorem ZvZ {d:Zn} (g:Zls d):Zqj (fun z0 z1=>Zw z0 z1 d.futures) (fun x y=>Zf5 d.futures x-Zf5 d.futures y) (fun z=>0≤z∧z.toNat<d.futures.length):=by
 intro x y hx hy
 have b:∀z:Int,z.toNat<d.futures.length→∃f,d.futures[z.toNat]? = some f∧Zf5 d.futures z=f.pos∧1≤f.pos∧f.pos≤100:=fun z hz=>by
  have hm:=List.getElem_mem hz
  have:=g.f _ hm
  have hw:=ZlM g d.futures[z.toNat].user
  exact⟨d.futures[z.toNat],List.getElem?_eq_getElem hz,by unfold Zf5;rw[List.getElem?_eq_getElem hz],this.2.1,by omega⟩
 obtain⟨f,f1,f2,f3,f4⟩:=b x hx.2
 obtain⟨e,e1,e2,e3,e4⟩:=b y hy.2
 show Zw x y d.futures=some (Zf5 d.futures x-Zf5 d.futures y)
 unfold Zw
 rw[Zp0 hx.1 f1,Zp0 hy.1 e1]
 simp only[Option.bind_some]
 rw[f2,e2,ZdI (by omega) (by omega)]
theorem ZyZ (k:Int→Int):SWO (ltC fun x y=>k x-k y):=by
 refine⟨fun x=>?_,fun x y z h1 h2=>?_,fun x y z h1 h2=>?_⟩
 ·show decide (k x-k x<0)=false
  exact decide_eq_false (by omega)
 ·simp only[ltC,decide_eq_true_eq] at *
  omega
 ·simp only[ltC,decide_eq_false_iff_not] at *
  omega
theorem Zvm (d:Zn) (h:Zln d) (hf:d.futures.length≤1000) (hc:Zes d=0) (u:Int):∃r,Zd7 d u=some r∧Zhx d u r:=by
 have g:=ZrA hc
 have key:=ZxO d.futures hf (fun f:Zk=>f.user==u) (fun i _=>(i:Int)) (Zeg d u) (fun i x s hi hx=>by
   simp only[Zeg,Zha hi,Zcp hx,Option.bind_some,Za1 hi h.f,cond_true]) (fun s=>by simp only[Zeg,Zib];rfl) [] (by simp)
 have hP:∀x∈Zow d u,0≤x∧x.toNat<d.futures.length:=fun x hx=>by
  obtain⟨i,f,h1,h2,rfl⟩:=(Zlx d u x).1 hx
  have:=(List.getElem?_eq_some_iff.1 h1).1
  exact⟨by omega,by simpa using this⟩
 have hlen:(Zow d u).length≤1000:=by
  unfold Zow
  rw[Znp]
  exact Nat.le_trans List.countP_le_length hf
 obtain⟨r,h1,h2,h3⟩:=ZxL (ZvZ g) (ZyZ _) (Zow d u) hlen hP
 refine⟨r,?_,?_,?_⟩
 ·unfold Zd7
  rw[Zua d h,hc]
  simp only[Option.bind_some,bne_self_eq_false,cond_false]
  rw[key,List.nil_append,Option.bind_some]
  show(ZaN (fun z0 z1=>Zw z0 z1 d.futures) (Zow d u)).bind _=_
  rw[h1]
  rfl
 ·exact fun z=>by rw[h2.mem_iff,Zlx]
 ·have nd:r.Pairwise (fun x y=>x≠y):=(h2.pairwise_iff (fun h=>Ne.symm h)).2 ((ZpH d u).imp fun h=>by omega)
  refine Zsd (h3.and nd) fun x y hx hy hp=>?_
  have a:=(Zlx d u x).1 (h2.mem_iff.1 hx)
  have b:=(Zlx d u y).1 (h2.mem_iff.1 hy)
  have h4:=Zx6 g a b hp.2
  have h5:=hp.1
  simp only[ltC,decide_eq_false_iff_not] at h5
  omega
theorem Zqm {d:Zn}{u:Int}{r:List Int} (h:Zhx d u r):r.length=(Zow d u).length:=by
 have nd1:r.Nodup:=h.rise.imp fun hp he=>by rw[he] at hp;omega
 have nd2:(Zow d u).Nodup:=(ZpH d u).imp fun hp he=>by omega
 exact((List.perm_ext_iff_of_nodup nd1 nd2).2 fun z=>by rw[h.mem,Zlx]).length_eq
theorem ZsL {d:Zn}{u:Int}{r:List Int} (h:Zhx d u r):r.length≤d.futures.length:=by
 rw[Zqm h]
 unfold Zow
 rw[Znp]
 exact List.countP_le_length
theorem Zvz {γ:Type} (p:γ→Bool) (g:Nat→γ→Int) (l:List γ) (i:Nat):(sel p g i l).length≤l.length:=by rw[Znp];exact List.countP_le_length
end Go.Proofs.YtljgncbdagmeeaaDoor
namespace Go.Proofs.YtljgncbdagmeeaaDoor
open Go Go.Proofs.YtljgncbdagmeeaaDoorE
set_option linter.unusedVariables false
set_option linter.unusedSimpArgs false
structure Zda (d:Zn):Prop where
 g:Zls d
 ins:∀b∈d.barriers,∀q∈b.ins,0≤q∧q.toNat<d.parts.length
 outs:∀b∈d.barriers,∀q∈b.outs,0≤q∧q.toNat<d.parts.length
 disj:∀b∈d.barriers,∀q∈b.ins,q∉b.outs
 pl:d.parts.length≤16
 el:d.edges.length≤48
 fl:d.futures.length≤16
 bl:d.barriers.length≤4
 p1:1≤d.parts.length
 arg:∀p∈d.parts,0≤p.arg∧p.arg≤2147483647
theorem Zv8 {n:Nat}{l:List Int} (h:Zk4 n l=true):∀q∈l,0≤q∧q.toNat<n:=by
 intro q hq
 unfold Zk4 at h
 simp only[Bool.and_eq_true,Bool.not_eq_true'] at h
 obtain⟨i,hi⟩:=List.getElem?_of_mem hq
 have:Zm9 n l i q=false:=by
  cases hb:Zm9 n l i q with
  | false=>rfl
  | true=>rw[(Zio _ _ 0).2 ⟨i,q,hi,by simpa using hb⟩] at h;exact absurd h.1 (by simp)
 unfold Zm9 ZdG at this
 simp only[Bool.or_eq_false_iff,Bool.not_eq_false',Bool.and_eq_true,decide_eq_true_eq] at this
 omega
theorem Zjc {d:Zn} (h:Zes d=0):Zda d:=by
 have g:=ZrA h
 unfold Zes at h
 have all:Zh0 d=true∧d.barriers.any (Zem d.parts.length)=false∧d.parts.any Zgu=false:=by
  revert h
  cases Zh0 d<;>cases ZkS d<;>cases d.parts.any Zgu<;>cases Zgs (ZeI d) 0 d.edges<;>cases Zgs (ZdO d) 0 d.futures<;>cases d.barriers.any (Zem d.parts.length)<;>simp
 have hb:∀b∈d.barriers,Zk4 d.parts.length b.ins=true∧Zk4 d.parts.length b.outs=true∧b.ins.any (ZpY b)=false:=fun b hb=>by
  have:=List.any_eq_false.1 all.2.1 b hb
  simp only[Zem,Bool.or_eq_true,Bool.not_eq_true',not_or,Bool.not_eq_false,Bool.not_eq_true] at this
  exact this
 have m:=all.1
 unfold Zh0 ZdG at m
 simp only[Bool.and_eq_true,decide_eq_true_eq,Bool.not_eq_true',decide_eq_false_iff_not] at m
 refine⟨g,fun b h1=>Zv8 (hb b h1).1,fun b h1=>Zv8 (hb b h1).2.1,fun b h1 q h2 h3=>?_,by omega,by omega,by omega,by omega,by omega,fun p hp=>?_⟩
 case refine_2=>
  have:=List.any_eq_false.1 all.2.2 p hp
  simp only[Zgu,ZdG,Bool.not_eq_true,Bool.not_eq_false',Bool.and_eq_true,decide_eq_true_eq] at this
  exact this.2.1
 have:=List.any_eq_false.1 (hb b h1).2.2 q h2
 unfold ZpY at this
 exact this (List.any_eq_true.2 ⟨q,h3,by simp⟩)
def inR (d:Zn) (p:Int):Prop:=0≤p∧p.toNat<d.parts.length
theorem Zda.src {d:Zn} (g:Zda d) {e:Zo} (h:e∈d.edges):inR d e.src:=(Zmz (g.g.e e h)).1
theorem Zda.dst {d:Zn} (g:Zda d) {e:Zo} (h:e∈d.edges):inR d e.dst:=(Zmz (g.g.e e h)).2.1
theorem Zda.maker {d:Zn} (g:Zda d) {f:Zk} (h:f∈d.futures):inR d f.maker:=(Zmz (g.g.f f h).1).1
theorem Zda.user {d:Zn} (g:Zda d) {f:Zk} (h:f∈d.futures):inR d f.user:=(Zmz (g.g.f f h).1).2.1
theorem Zda.short {d:Zn} (g:Zda d) (hs:∀b∈d.barriers,ZzA b):Zln d:=⟨by have:=g.pl;omega,by have:=g.el;omega,by have:=g.fl;omega,by have:=g.bl;omega,hs⟩
end Go.Proofs.YtljgncbdagmeeaaDoor
namespace Go.Proofs.YtljgncbdagmeeaaDoor
open Go Go.Proofs.YtljgncbdagmeeaaDoorE
set_option linter.unusedVariables false
set_option linter.unusedSimpArgs false
def Zg7 (n:Nat) (x:Int):Bool:=decide (0≤x)&&decide (x<(n:Int))
end Go.Proofs.YtljgncbdagmeeaaDoor
namespace Go.Proofs.YtljgncbdagmeeaaDoor
open Go Go.Proofs.YtljgncbdagmeeaaDoorE
set_option linter.unusedVariables false
set_option linter.unusedSimpArgs false
theorem Zww {γ:Type} (p:γ→Bool):∀(l:List γ) (i:Nat),(sel p (fun i _=>(i:Int)) i l).Pairwise (fun x y=>x<y)∧∀z∈sel p (fun i _=>(i:Int)) i l,(i:Int)≤z:=by
 intro l
 induction l with
 | nil=>intro i;simp[sel]
 | cons x l ih=>
  intro i
  obtain⟨h1,h2⟩:=ih (i+1)
  unfold sel
  cases p x with
  | true=>
   simp only[cond_true,List.pairwise_cons,List.mem_cons]
   refine⟨⟨fun z hz=>?_,h1⟩,?_⟩
   ·have:=h2 z hz;omega
   ·rintro z (rfl | hz)
    ·exact Int.le_refl _
    ·have:=h2 z hz;omega
  | false=>
   simp only[cond_false]
   exact⟨h1,fun z hz=>by have:=h2 z hz;omega⟩
def Zol (d:Zn) (u:Int) (t:Int):List Int:=sel (fun f:Zk=>f.user==u&&f.pos==t) (fun i _=>(i:Int)) 0 d.futures
theorem ZnM (d:Zn) (u t z:Int):z∈Zol d u t↔∃(i:Nat) (f:Zk),d.futures[i]? = some f∧f.user=u∧f.pos=t∧z=(i:Int):=by
 unfold Zol
 rw[ZoC]
 simp[and_assoc]
theorem ZlK {d:Zn}{u t z:Int} (h:z∈Zol d u t):Zf5 d.futures z=t:=by
 obtain⟨i,f,h1,_,h3,rfl⟩:=(ZnM d u t z).1 h
 unfold Zf5
 rw[Int.toNat_natCast,h1,← h3]
theorem Zpt {d:Zn}{u t z:Int} (h:z∈Zol d u t):∃(i:Nat) (f:Zk),d.futures[i]? = some f∧f.user=u∧z=(i:Int):=by
 obtain⟨i,f,h1,h2,_,h4⟩:=(ZnM d u t z).1 h
 exact⟨i,f,h1,h2,h4⟩
def tl (d:Zn) (u:Int):Nat→Nat→List Int
 | _,0=>[]
 | i,k+1=>Zol d u ((i+1:Nat):Int)++tl d u (i+1) k
theorem Ztu (d:Zn) (u z:Int):∀(k i:Nat),z∈tl d u i k↔∃t:Nat,i<t∧t≤i+k∧z∈Zol d u (t:Int)
 | 0,i=>by
  unfold tl
  constructor
  ·intro h;cases h
  ·rintro ⟨t,h1,h2,_⟩;omega
 | k+1,i=>by
  unfold tl
  rw[List.mem_append,Ztu d u z k (i+1)]
  constructor
  ·rintro (h | ⟨t,h1,h2,h3⟩)
   ·exact⟨i+1,by omega,by omega,h⟩
   ·exact⟨t,by omega,by omega,h3⟩
  ·rintro ⟨t,h1,h2,h3⟩
   by_cases h:t=i+1
   ·subst h;exact .inl h3
   ·exact .inr ⟨t,by omega,by omega,h3⟩
theorem Zu9 {d:Zn} (g:Zls d) (u:Int):∀(k i:Nat),(tl d u i k).Pairwise (fun x y=>Zf5 d.futures x<Zf5 d.futures y)
 | 0,i=>List.Pairwise.nil
 | k+1,i=>by
  unfold tl
  rw[List.pairwise_append]
  refine⟨?_,Zu9 g u k (i+1),fun x hx y hy=>?_⟩
  ·refine Zsd (Zww _ _ _).1 fun x y hx hy hlt=>?_
   have hx':x∈Zol d u ((i+1:Nat):Int):=hx
   have hy':y∈Zol d u ((i+1:Nat):Int):=hy
   exact absurd ((ZlK hx').trans (ZlK hy').symm) (Zx6 g (Zpt hx') (Zpt hy') (by omega))
  ·obtain⟨t,h1,h2,h3⟩:=(Ztu d u y k (i+1)).1 hy
   rw[ZlK hx,ZlK h3]
   omega
theorem ZtO {d:Zn} (g:Zls d) (u:Int):Zhx d u (tl d u 0 99):=by
 refine⟨fun z=>?_,Zu9 g u 99 0⟩
 rw[Ztu]
 constructor
 ·rintro ⟨t,_,_,h⟩;exact Zpt h
 ·rintro ⟨i,f,h1,h2,h3⟩
  have hf:=g.f f (List.mem_of_getElem? h1)
  have hw:=ZlM g f.user
  refine⟨f.pos.toNat,by omega,by omega,?_⟩
  rw[ZnM]
  exact⟨i,f,h1,h2,by omega,h3⟩
end Go.Proofs.YtljgncbdagmeeaaDoor
namespace Go.Proofs.YtljgncbdagmeeaaDoor
open Go Go.Proofs.YtljgncbdagmeeaaDoorE
set_option linter.unusedVariables false
set_option linter.unusedSimpArgs false
def ZhS {γ S:Type} (f:Nat→S→γ→S):Nat→S→List γ→S
 | _,s,[]=>s
 | i,s,x :: l=>ZhS f (i+1) (f i s x) l
theorem Zpa {γ S T R:Type} (l:List γ) (step:T→Option (T⊕R)) (st:Nat→S→T) (f:Nat→S→γ→S) (fin:S→R) (I:Nat→S→Prop)
  (h1:∀i x s,i<l.length→l[i]? = some x→I i s→step (st i s)=some (.inl (st (i+1) (f i s x)))∧I (i+1) (f i s x))
  (h2:∀s,I l.length s→step (st l.length s)=some (.inr (fin s))) (s:S) (h0:I 0 s) :
  lp step (st 0 s)=some (fin (ZhS f 0 s l))∧I l.length (ZhS f 0 s l):=by
 have key:∀(k i:Nat) (s:S),i+k=l.length→I i s→lp step (st i s)=some (fin (ZhS f i s (l.drop i)))∧I l.length (ZhS f i s (l.drop i)):=by
  intro k
  induction k with
  | zero=>
   intro i s hi hI
   have:i=l.length:=by omega
   subst this
   rw[List.drop_length,Zcl,h2 s hI]
   exact⟨rfl,hI⟩
  | succ k ih=>
   intro i s hi hI
   have hi':i<l.length:=by omega
   obtain⟨e,hI'⟩:=h1 i l[i] s hi' (List.getElem?_eq_getElem hi') hI
   rw[List.drop_eq_getElem_cons hi',Zcl,e]
   exact ih (i+1) _ (by omega) hI'
 have:=key l.length 0 s (by omega) h0
 rwa [List.drop_zero] at this
def ZhE (w:Int):Bool:=decide (w<0) || decide (1000<w)
def Zmp (g:ZbS) (i:Nat) (e:Zo):Bool:=!(Zg7 g.work.length e.src) || (!(Zg7 g.work.length e.dst) || ((e.src==e.dst) || (g.edges.take i).any (Zk9 e)))
def ZjU (g:ZbS):Int:=bif decide (64<(g.work.length:Int)) || decide (256<(g.edges.length:Int)) then 40 else bif g.work.any ZhE then 41 else bif Zgs (Zmp g) 0 g.edges then 42 else 0
structure ZrQ (g:ZbS):Prop where
 w:g.work.length<9223372036854775808
 e:g.edges.length<9223372036854775808
theorem Zwj (w:Int):ZdY w=some (ZhE w):=by
 unfold ZdY ZhE
 cases decide (w<0)<;>cases decide (1000<w)<;>rfl
theorem ZxY (a:Int) (l:List Int):Zgi a l=some (Zg7 l.length a):=by
 unfold Zgi Zg7
 cases decide (0≤a)<;>cases decide (a<(l.length:Int))<;>rfl
theorem Ztb (g:ZbS) (h:ZrQ g):lp (Zfb g) 0=some (bif Zgs (Zmp g) 0 g.edges then .inl () else .inr ()):=by
 have key:=ZiO g.edges (Zfb g) (Zmp g) (fun _ _=>.inl ()) (.inr ()) (fun i x hi hx=>by
   have e0:decide ((0:Int)≤(i:Int))=true:=decide_eq_true (by omega)
   have e1:Nat.ble i g.edges.length=true:=Nat.ble_eq_true_of_le (by omega)
   simp only[Zfb,Zha hi,Zcp hx,Option.bind_some,Za1 hi h.e,cond_true,ZxY,Zmp,e0,Int.toNat_natCast,e1,Zra _ x (Zmu h.e)]
   cases Zg7 g.work.length x.src<;>cases Zg7 g.work.length x.dst<;>cases (x.src==x.dst)<;>cases (g.edges.take i).any (Zk9 x)<;>rfl) (by simp only[Zfb,Zib];rfl)
 rw[key,ZgK]
inductive Way (g:ZbS):Int→Int→Prop
 | one {e:Zo}:e∈g.edges→Way g e.src e.dst
 | more {a:Int} {e:Zo}:Way g a e.src→e∈g.edges→Way g a e.dst
theorem Way.trans {g:ZbS}{a b c:Int} (h1:Way g a b) (h2:Way g b c):Way g a c:=by
 induction h2 with
 | one he=>exact Way.more h1 he
 | more _ he ih=>exact Way.more (ih h1) he
def ZmP (g:ZbS):Prop:=∀a,¬Way g a a
structure ZiI (g:ZbS):Prop where
 wl:g.work.length≤64
 el:g.edges.length≤256
 w:∀x∈g.work,0≤x∧x≤1000
 src:∀e∈g.edges,0≤e.src∧e.src.toNat<g.work.length
 dst:∀e∈g.edges,0≤e.dst∧e.dst.toNat<g.work.length
theorem ZiI.short {g:ZbS} (h:ZiI g):ZrQ g:=⟨by have:=h.wl;omega,by have:=h.el;omega⟩
theorem ZqM {n:Nat}{a:Int} (h:Zg7 n a=true):0≤a∧a.toNat<n:=by
 unfold Zg7 at h
 simp only[Bool.and_eq_true,decide_eq_true_eq] at h
 omega
theorem Zo5 {g:ZbS} (h:ZjU g=0):ZiI g:=by
 unfold ZjU at h
 cases h1:decide (64<(g.work.length:Int)) with
 | true=>rw[h1] at h;simp at h
 | false=>
 cases h2:decide (256<(g.edges.length:Int)) with
 | true=>rw[h1,h2] at h;simp at h
 | false=>
 cases h3:g.work.any ZhE with
 | true=>rw[h1,h2,h3] at h;simp at h
 | false=>
 cases h4:Zgs (Zmp g) 0 g.edges with
 | true=>rw[h1,h2,h3,h4] at h;simp at h
 | false=>
 have hE:∀e∈g.edges,∃i,Zmp g i e=false:=fun e he=>by
  obtain⟨i,hi⟩:=List.getElem?_of_mem he
  refine⟨i,?_⟩
  cases hb:Zmp g i e with
  | false=>rfl
  | true=>rw[(Zio _ _ 0).2 ⟨i,e,hi,by simpa using hb⟩] at h4;cases h4
 refine⟨by have:=of_decide_eq_false h1;omega,by have:=of_decide_eq_false h2;omega,fun x hx=>?_,fun e he=>?_,fun e he=>?_⟩
 ·have:=List.any_eq_false.1 h3 x hx
  unfold ZhE at this
  simp only[Bool.or_eq_true,decide_eq_true_eq,not_or] at this
  omega
 ·obtain⟨i,hi⟩:=hE e he
  unfold Zmp at hi
  simp only[Bool.or_eq_false_iff,Bool.not_eq_false'] at hi
  exact ZqM hi.1
 ·obtain⟨i,hi⟩:=hE e he
  unfold Zmp at hi
  simp only[Bool.or_eq_false_iff,Bool.not_eq_false'] at hi
  exact ZqM hi.2.1
theorem Way.src_in {g:ZbS} (h:ZiI g) {a b:Int} (w:Way g a b):0≤a∧a.toNat<g.work.length:=by
 induction w with
 | one he=>exact h.src _ he
 | more _ _ ih=>exact ih
theorem Zxi {g:ZbS} (hg:ZmP g):∀(n:Nat) (S:List Int),S.length≤n→S≠[]→∃m∈S,∀e∈g.edges,e.dst=m→e.src∉S:=by
 intro n
 induction n with
 | zero=>intro S h1 h2;exact absurd (List.length_eq_zero_iff.1 (by omega)) h2
 | succ n ih=>
  intro S h1 h2
  obtain⟨m,hm⟩:=List.exists_mem_of_ne_nil S h2
  classical
  by_cases hS:(S.filter fun x=>decide (Way g x m))=[]
  ·refine⟨m,hm,fun e he hd hs=>?_⟩
   have:e.src∈S.filter fun x=>decide (Way g x m):=List.mem_filter.2 ⟨hs,decide_eq_true (hd ▸ Way.one he)⟩
   rw[hS] at this
   cases this
  ·have hlt:(S.filter fun x=>decide (Way g x m)).length<S.length:=by
    refine Nat.lt_of_le_of_ne (List.length_filter_le _ _) fun he=>?_
    have:=List.length_filter_eq_length_iff.1 he m hm
    exact hg m (of_decide_eq_true this)
   obtain⟨k,hk,hk2⟩:=ih _ (by omega) hS
   obtain⟨k1,k2⟩:=List.mem_filter.1 hk
   refine⟨k,k1,fun e he hd hs=>hk2 e he hd (List.mem_filter.2 ⟨hs,decide_eq_true ?_⟩)⟩
   exact(hd ▸ Way.one he:Way g e.src k).trans (of_decide_eq_true k2)
def bAt (l:List Bool) (z:Int):Bool:=match l[z.toNat]? with | some b=>b | none=>false
def Zn7 (g:ZbS) (done:List Bool) (i:Nat):Bool:=!(bAt done (i:Int)) && !(g.edges.any fun e=>(e.dst==(i:Int)) && !(bAt done e.src))
def Zoc (g:ZbS) (done:List Bool):Option Nat:=ZiX (fun i _=>Zn7 g done i) (fun i _=>some i) none 0 g.work
def ZnE (g:ZbS):Nat→List Int→List Bool→Option (List Int)
 | 0,out,_=>some out
 | k+1,out,done=>(match Zoc g done with | some i=>ZnE g k (out++[(i:Int)]) (done.set i true) | none=>none)
theorem Zsx {γ R S:Type} (p:Nat→γ→Bool) (out:Nat→γ→R) (fin:R) (F:R→S):∀(l:List γ) (i:Nat),F (ZiX p out fin i l)=ZiX p (fun i x=>F (out i x)) (F fin) i l
 | [],i=>rfl
 | x :: l,i=>by
  unfold ZiX
  cases p i x with
  | true=>rfl
  | false=>exact Zsx p out fin F l (i+1)
theorem Zq8 {γ:Type} (p:Nat→γ→Bool):∀(l:List γ) (i k:Nat),ZiX p (fun i _=>some i) none i l=some k→i≤k∧k<i+l.length∧∃x,l[k-i]? = some x∧p k x=true
 | [],i,k,h=>by cases h
 | x :: l,i,k,h=>by
  unfold ZiX at h
  cases hp:p i x with
  | true=>
   rw[hp] at h
   cases h
   exact⟨Nat.le_refl _,by simp,x,by simp,hp⟩
  | false=>
   rw[hp] at h
   obtain⟨h1,h2,y,h3,h4⟩:=Zq8 p l (i+1) k h
   refine⟨by omega,by simp only[List.length_cons];omega,y,?_,h4⟩
   rw[show k-i=(k-(i+1))+1 by omega]
   exact h3
theorem Zqy {γ:Type} (p:Nat→γ→Bool):∀(l:List γ) (i:Nat),ZiX p (fun i _=>some i) none i l=none→∀(j:Nat) x,l[j]? = some x→p (i+j) x=false
 | [],i,h,j,x,hx=>by cases hx
 | y :: l,i,h,j,x,hx=>by
  unfold ZiX at h
  cases hp:p i y with
  | true=>rw[hp] at h;cases h
  | false=>
   rw[hp] at h
   cases j with
   | zero=>cases hx;exact hp
   | succ j=>
    have:=Zqy p l (i+1) h j x hx
    rwa [show i+1+j=i+(j+1) by omega] at this
theorem ZuK {g:ZbS}{done:List Bool} (hd:done.length=g.work.length) {z:Int} (h:0≤z∧z.toNat<g.work.length):Zy done z=some (bAt done z):=by
 have e:=List.getElem?_eq_getElem (show z.toNat<done.length by rw[hd];exact h.2)
 rw[Zp0 h.1 e]
 unfold bAt
 rw[e]
theorem ZAz {g:ZbS} (h:ZiI g) (out:List Int) (ho:out.length<g.work.length) (done:List Bool) (hd:done.length=g.work.length) :
  lp (ZeV g (out,done)) 0=some (match Zoc g done with | some i=>.inl (out++[(i:Int)],done.set i true) | none=>.inr ()):=by
 have key:=ZiO g.work (ZeV g (out,done)) (fun i _=>Zn7 g done i) (fun i _=>.inl (out++[(i:Int)],done.set i true)) (.inr ()) (fun i x hi hx=>by
   have inner:=ZiO g.edges (ZfZ g (out,done) (i:Int)) (fun _ e=>(e.dst==(i:Int)) && !(bAt done e.src)) (fun _ _=>.inl ()) (.inr ()) (fun k e hk he=>by
     simp only[ZfZ,Zha hk,Zcp he,Option.bind_some,Za1 hk h.short.e,cond_true,ZuK hd (h.src e (List.mem_of_getElem? he))]
     cases (e.dst==(i:Int))<;>cases bAt done e.src<;>rfl) (by simp only[ZfZ,Zib];rfl)
   rw[ZgK,ZmR] at inner
   have hl:=h.wl
   simp only[ZeV,Zha hi,ZuK hd (z:=(i:Int)) ⟨by omega,by simpa using hi⟩,Option.bind_some,Za1 hi h.short.w,cond_true,inner,ZkY (show out.length+1≤1073741824 by omega),Int.toNat_natCast,Zn7]
   cases bAt done (i:Int)<;>cases g.edges.any (fun e=>(e.dst==(i:Int)) && !(bAt done e.src))<;>rfl) (by simp only[ZeV,Zib];rfl)
 rw[key]
 unfold Zoc
 exact congrArg some (Zsx (fun i _=>Zn7 g done i) (fun i _=>some i) none (fun o:Option Nat=>(match o with | some i=>(.inl (out++[(i:Int)],done.set i true):(List Int×List Bool)⊕Unit) | none=>.inr ())) g.work 0).symm
theorem Zu6 {g:ZbS} (h:ZiI g):∀(k:Nat) (out:List Int) (done:List Bool),out.length+k=g.work.length→done.length=g.work.length →
  ∃r,lp (Zf1 g) (out,done)=some r∧(match ZnE g k out done with | some l=>r = .inr l | none=>∃l,r = .inl l)
 | 0,out,done,h1,h2=>by
  rw[Zcl]
  simp only[Zf1,show out.length=g.work.length by omega,Zib,cond_false]
  exact⟨_,rfl,rfl⟩
 | k+1,out,done,h1,h2=>by
  rw[Zcl]
  simp only[Zf1,Zha (show out.length<g.work.length by omega),cond_true,ZAz h out (by omega) done h2,Option.bind_some]
  unfold ZnE
  cases Zoc g done with
  | none=>exact⟨_,rfl,_,rfl⟩
  | some i=>exact Zu6 h k (out++[(i:Int)]) (done.set i true) (by rw[List.length_append];simp only[List.length_cons,List.length_nil];omega) (by rw[List.length_set];exact h2)
theorem ZuY {g:ZbS} (h:ZiI g):Zf3 g=some (match ZnE g g.work.length [] (List.replicate g.work.length false) with | some l=>(l,true) | none=>([],false)):=by
 obtain⟨r,e,hr⟩:=Zu6 h g.work.length [] (List.replicate g.work.length false) (by simp) (by simp)
 have hl:=h.wl
 unfold Zf3
 rw[decide_eq_true (show(0:Int)≤(g.work.length:Int) by omega),decide_eq_true (show(g.work.length:Int)≤lim by show(g.work.length:Int)≤1073741824;omega),beq_self_eq_true]
 simp only[decide_true,Bool.and_true,cond_true,Int.toNat_natCast,e,Option.bind_some]
 cases ho:ZnE g g.work.length [] (List.replicate g.work.length false) with
 | some l=>rw[ho] at hr;simp only at hr;subst hr;rfl
 | none=>rw[ho] at hr;obtain⟨l,rfl⟩:=hr;rfl
structure ZgW (g:ZbS) (out:List Int) (done:List Bool):Prop where
 dl:done.length=g.work.length
 mem:∀i:Nat,bAt done (i:Int)=true↔(i:Int)∈out
 inn:∀z∈out,0≤z∧z.toNat<g.work.length
 nod:out.Nodup
 topo:∀(i:Nat) (n:Int),out[i]? = some n→∀e∈g.edges,e.dst=n→∃j,j<i∧out[j]? = some e.src
theorem Zzl {done:List Bool}{i:Nat} (hi:i<done.length) (z:Int) (hz:0≤z):bAt (done.set i true) z=(decide (z=(i:Int)) || bAt done z):=by
 unfold bAt
 rw[List.getElem?_set]
 by_cases h:i=z.toNat
 ·subst h
  rw[if_pos rfl,if_pos hi,decide_eq_true (show z=((z.toNat:Nat):Int) by omega)];rfl
 ·rw[if_neg h,decide_eq_false (show ¬z=(i:Int) by omega)];rfl
theorem ZgW.start (g:ZbS):ZgW g [] (List.replicate g.work.length false):=by
 refine⟨by simp,fun i=>?_,by simp,by simp,by simp⟩
 unfold bAt
 rw[List.getElem?_replicate]
 by_cases h:((i:Int)).toNat<g.work.length
 ·rw[if_pos h];simp
 ·rw[if_neg h];simp
theorem ZgW.next {g:ZbS} (h:ZiI g) {out:List Int}{done:List Bool} (o:ZgW g out done) {i:Nat} (hn:Zoc g done=some i):ZgW g (out++[(i:Int)]) (done.set i true):=by
 obtain⟨_,hi,x,_,hp⟩:=Zq8 _ _ _ _ hn
 rw[Nat.zero_add] at hi
 unfold Zn7 at hp
 simp only[Bool.and_eq_true,Bool.not_eq_true',List.any_eq_false,Bool.not_eq_true] at hp
 have hid:i<done.length:=by rw[o.dl];exact hi
 have hnot:(i:Int)∉out:=fun hm=>by have:=(o.mem i).2 hm;rw[hp.1] at this;cases this
 refine⟨by rw[List.length_set];exact o.dl,fun j=>?_,fun z hz=>?_,?_,fun k n hk e he hd=>?_⟩
 ·rw[Zzl hid (j:Int) (by omega),Bool.or_eq_true,decide_eq_true_eq,o.mem,List.mem_append,List.mem_singleton]
  exact Or.comm
 ·rcases List.mem_append.1 hz with hz | hz
  ·exact o.inn z hz
  ·rw[List.mem_singleton] at hz;subst hz;exact⟨by omega,by simpa using hi⟩
 ·rw[List.nodup_append]
  refine⟨o.nod,by simp,fun a ha b hb=>?_⟩
  rw[List.mem_singleton] at hb
  subst hb
  exact fun hab=>hnot (hab ▸ ha)
 ·rcases Nat.lt_or_ge k out.length with hk2 | hk2
  ·rw[List.getElem?_append_left hk2] at hk
   obtain⟨j,h1,h2⟩:=o.topo k n hk e he hd
   exact⟨j,h1,by rw[List.getElem?_append_left (by omega)];exact h2⟩
  ·rw[List.getElem?_append_right hk2] at hk
   have hk0:k-out.length=0:=by
    rcases Nat.eq_zero_or_pos (k-out.length) with h0 | h0
    ·exact h0
    ·rw[List.getElem?_eq_none (by simp only[List.length_cons,List.length_nil];omega)] at hk;cases hk
   rw[hk0] at hk
   simp only[List.getElem?_cons_zero,Option.some.injEq] at hk
   subst hk
   have hs:=hp.2 e he
   rw[hd] at hs
   have hs:bAt done e.src=true:=by simpa using hs
   have hsr:=h.src e he
   have:=(o.mem e.src.toNat).1 (by rw[show((e.src.toNat:Nat):Int)=e.src by omega];exact hs)
   rw[show((e.src.toNat:Nat):Int)=e.src by omega] at this
   obtain⟨j,hj⟩:=List.getElem?_of_mem this
   have hjl:=(List.getElem?_eq_some_iff.1 hj).1
   exact⟨j,by omega,by rw[List.getElem?_append_left hjl];exact hj⟩
theorem ZgW.way {g:ZbS}{out:List Int}{done:List Bool} (o:ZgW g out done) {a b:Int} (w:Way g a b):∀j:Nat,out[j]? = some b→∃i,i<j∧out[i]? = some a:=by
 induction w with
 | one he=>intro j hj;exact o.topo j _ hj _ he rfl
 | more _ he ih=>
  intro j hj
  obtain⟨i,h1,h2⟩:=o.topo j _ hj _ he rfl
  obtain⟨k,h3,h4⟩:=ih i h2
  exact⟨k,by omega,h4⟩
theorem Zq3 {l:List Int} (h:l.Nodup) {i j:Nat}{a:Int} (h1:l[i]? = some a) (h2:l[j]? = some a):i=j:=by
 obtain⟨a1,a2⟩:=List.getElem?_eq_some_iff.1 h1
 obtain⟨b1,b2⟩:=List.getElem?_eq_some_iff.1 h2
 exact(List.getElem_inj h).1 (a2.trans b2.symm)
def Zye (n:Nat) (done:List Bool):List Int:=((List.range n).filter fun i:Nat=>!bAt done (i:Int)).map fun i:Nat=>(i:Int)
theorem ZpA {n:Nat}{done:List Bool}{i:Nat} (h1:i<n) (h2:bAt done (i:Int)=false):(i:Int)∈Zye n done:=
 List.mem_map.2 ⟨i,List.mem_filter.2 ⟨List.mem_range.2 h1,by rw[h2];rfl⟩,rfl⟩
theorem Zv6 {g:ZbS} (h:ZiI g) (hg:ZmP g) {out:List Int}{done:List Bool} (o:ZgW g out done) (i0:Nat) (hi0:i0<g.work.length) (hb:bAt done (i0:Int)=false):∃i,Zoc g done=some i:=by
 cases hn:Zoc g done with
 | some i=>exact⟨i,rfl⟩
 | none=>
  exfalso
  have hall:=Zqy _ _ _ hn
  obtain⟨m,hm,hm2⟩:=Zxi hg _ (Zye g.work.length done) (Nat.le_refl _) (by
   intro he
   have:=ZpA hi0 hb
   rw[he] at this;cases this)
  obtain⟨k,hk,rfl⟩:=List.mem_map.1 hm
  obtain⟨hk1,hk2⟩:=List.mem_filter.1 hk
  rw[List.mem_range] at hk1
  have hr:=hall k g.work[k] (List.getElem?_eq_getElem hk1)
  rw[Nat.zero_add] at hr
  unfold Zn7 at hr
  rw[hk2,Bool.true_and,Bool.not_eq_false',List.any_eq_true] at hr
  obtain⟨e,he,he2⟩:=hr
  simp only[Bool.and_eq_true,beq_iff_eq] at he2
  have hsr:=h.src e he
  refine hm2 e he he2.1 ?_
  have es:((e.src.toNat:Nat):Int)=e.src:=by omega
  rw[← es]
  exact ZpA hsr.2 (by rw[es];simpa using he2.2)
theorem ZrV {n:Nat}{out:List Int} (h1:out.Nodup) (h2:∀z∈out,0≤z∧z.toNat<n):(out.length≤n)∧(out.length=n→∀i:Nat,i<n→(i:Int)∈out):=by
 induction n generalizing out with
 | zero=>
  refine⟨?_,fun _ i hi=>absurd hi (by omega)⟩
  cases out with
  | nil=>simp
  | cons z l=>have:=h2 z (by simp);omega
 | succ n ih=>
  by_cases hm:(n:Int)∈out
  ·have e1:(out.erase (n:Int)).length=out.length-1:=List.length_erase_of_mem hm
   have pos:0<out.length:=List.length_pos_of_mem hm
   obtain⟨a,b⟩:=ih (out:=out.erase (n:Int)) (h1.erase _) (fun z hz=>by
    have hz2:=(List.Nodup.mem_erase_iff h1).1 hz
    have:=h2 z hz2.2
    have:=hz2.1
    omega)
   refine⟨by omega,fun hl i hi=>?_⟩
   by_cases hin:i=n
   ·subst hin;exact hm
   ·exact List.mem_of_mem_erase (b (by omega) i (by omega))
  ·obtain⟨a,b⟩:=ih (out:=out) h1 (fun z hz=>by
    have:=h2 z hz
    have:z≠(n:Int):=fun he=>hm (he ▸ hz)
    omega)
   exact⟨by omega,fun hl=>by omega⟩
theorem Zyo:∀(n:Nat) (out:List Int),(∀i:Nat,i<n→(i:Int)∈out)→n≤out.length
 | 0,out,h=>by omega
 | n+1,out,h=>by
  have hm:=h n (by omega)
  have e1:(out.erase (n:Int)).length=out.length-1:=List.length_erase_of_mem hm
  have pos:0<out.length:=List.length_pos_of_mem hm
  have:=Zyo n (out.erase (n:Int)) (fun i hi=>(List.mem_erase_of_ne (by omega)).2 (h i (by omega)))
  omega
theorem Zmi {g:ZbS} (h:ZiI g):∀(k:Nat) (out:List Int) (done:List Bool),ZgW g out done→out.length+k=g.work.length→(∀l,ZnE g k out done=some l→∃done',ZgW g l done'∧l.length=g.work.length)∧(ZmP g→∃l,ZnE g k out done=some l)
 | 0,out,done,o,hl=>⟨fun l h=>by cases h;exact⟨done,o,by omega⟩,fun _=>⟨out,rfl⟩⟩
 | k+1,out,done,o,hl=>by
  unfold ZnE
  cases hn:Zoc g done with
  | none=>
   refine⟨fun l h=>(by cases h),fun hg=>?_⟩
   exfalso
   have hex:∃i0,i0<g.work.length∧(i0:Int)∉out:=by
    apply Classical.byContradiction
    intro hc
    have hc2:∀i0,i0<g.work.length→(i0:Int)∈out:=fun i0 hi=>Classical.byContradiction fun hx=>hc ⟨i0,hi,hx⟩
    have sub:=Zyo g.work.length out hc2
    omega
   obtain⟨i0,h1,h2⟩:=hex
   obtain⟨i,hi⟩:=Zv6 h hg o i0 h1 (by
    cases hb:bAt done (i0:Int) with
    | false=>rfl
    | true=>exact absurd ((o.mem i0).1 hb) h2)
   rw[hn] at hi
   cases hi
  | some i=>
   exact Zmi h k _ _ (o.next h hn) (by rw[List.length_append];simp only[List.length_cons,List.length_nil];omega)
theorem ZyJ {g:ZbS} (h:ZiI g) {l:List Int}{done:List Bool} (o:ZgW g l done) (hl:l.length=g.work.length):ZmP g:=by
 intro a w
 have ha:=w.src_in h
 have hm:=(ZrV o.nod o.inn).2 hl a.toNat ha.2
 rw[show((a.toNat:Nat):Int)=a by omega] at hm
 obtain⟨j,hj⟩:=List.getElem?_of_mem hm
 obtain⟨i,h1,h2⟩:=o.way w j hj
 have:=Zq3 o.nod h2 hj
 omega
structure ZBQ (g:ZbS) (l:List Int):Prop where
 len:l.length=g.work.length
 all:∀i:Nat,i<g.work.length→(i:Int)∈l
 inn:∀z∈l,0≤z∧z.toNat<g.work.length
 nod:l.Nodup
 topo:∀(i:Nat) (n:Int),l[i]? = some n→∀e∈g.edges,e.dst=n→∃j,j<i∧l[j]? = some e.src
theorem Zqq {g:ZbS} (h:ZiI g) (hg:ZmP g):∃l,Zf3 g=some (l,true)∧ZBQ g l:=by
 obtain⟨k1,k2⟩:=Zmi h g.work.length [] _ (ZgW.start g) (by simp)
 obtain⟨l,hl⟩:=k2 hg
 obtain⟨done,o,hn⟩:=k1 l hl
 exact⟨l,by rw[ZuY h,hl],hn,(ZrV o.nod o.inn).2 hn,o.inn,o.nod,o.topo⟩
theorem ZyB {g:ZbS} (h:ZiI g) (hg:¬ZmP g):Zf3 g=some ([],false):=by
 rw[ZuY h]
 cases ho:ZnE g g.work.length [] (List.replicate g.work.length false) with
 | none=>rfl
 | some l=>
  obtain⟨done,o,hn⟩:=(Zmi h g.work.length [] _ (ZgW.start g) (by simp)).1 l ho
  exact absurd (ZyJ h o hn) hg
noncomputable def ZwH (g:ZbS):Bool:=@decide (ZmP g) (Classical.propDecidable _)
theorem ZuN {g:ZbS} (h:ZmP g):ZwH g=true:=@decide_eq_true _ (Classical.propDecidable _) h
theorem Zrq {g:ZbS} (h:¬ZmP g):ZwH g=false:=@decide_eq_false _ (Classical.propDecidable _) h
noncomputable def Zg8 (g:ZbS):Int:=bif ZjU g==0 then (bif ZwH g then 0 else 43) else ZjU g
theorem Zkn {g:ZbS} (h:Zg8 g=0):ZiI g∧ZmP g:=by
 unfold Zg8 at h
 by_cases h0:ZjU g=0
 ·rw[h0] at h
  refine⟨Zo5 h0,Classical.byContradiction fun hn=>?_⟩
  rw[Zrq hn] at h
  simp at h
 ·rw[beq_false_of_ne h0] at h
  exact absurd h h0
theorem Zmm (g:ZbS) (h:ZrQ g):ZgM g=some (Zg8 g):=by
 have hw:=Zmg g.work (fun z0=>ZdY z0) ZhE (fun x _=>Zwj x) h.w
 unfold ZgM Zg8
 rw[hw,Ztb g h]
 by_cases h0:ZjU g=0
 ·have hG:=Zo5 h0
  rw[h0]
  unfold ZjU at h0
  by_cases hg:ZmP g
  ·obtain⟨l,e,_⟩:=Zqq hG hg
   rw[e,ZuN hg]
   revert h0
   cases decide (64<(g.work.length:Int))<;>cases decide (256<(g.edges.length:Int))<;>cases g.work.any ZhE<;>cases Zgs (Zmp g) 0 g.edges<;>simp
  ·rw[ZyB hG hg,Zrq hg]
   revert h0
   cases decide (64<(g.work.length:Int))<;>cases decide (256<(g.edges.length:Int))<;>cases g.work.any ZhE<;>cases Zgs (Zmp g) 0 g.edges<;>simp
 ·rw[beq_false_of_ne h0]
  unfold ZjU at h0 ⊢
  revert h0
  cases decide (64<(g.work.length:Int))<;>cases decide (256<(g.edges.length:Int))<;>cases g.work.any ZhE<;>cases Zgs (Zmp g) 0 g.edges<;>simp
end Go.Proofs.YtljgncbdagmeeaaDoor
namespace Go.Proofs.YtljgncbdagmeeaaDoor
open Go Go.Proofs.YtljgncbdagmeeaaDoorE
set_option linter.unusedVariables false
set_option linter.unusedSimpArgs false
theorem Zjl {K W:Type} (eq:K→K→Bool) (k:K) (v:W):∀l:List (K×W),(∀q∈l,eq k q.1=false)→Zx eq l k v=l++[(k,v)]
 | [],_=>rfl
 | (a,u) :: r,h=>by
  unfold Zx
  rw[h (a,u) (by simp)]
  simp only[cond_false,List.cons_append]
  rw[Zjl eq k v r fun q hq=>h q (by simp[hq])]
theorem ZjR {K W:Type} (eq:K→K→Bool) (k:K) (z:W) (m:List (K×W)):∀l:List (K×W),(∀q∈l,eq k q.1=false)→ZaL eq (l++m) k z=ZaL eq m k z
 | [],_=>rfl
 | (a,u) :: r,h=>by
  rw[List.cons_append]
  conv=>lhs;unfold ZaL
  rw[h (a,u) (by simp)]
  exact ZjR eq k z m r fun q hq=>h q (by simp[hq])
theorem Zku {K W:Type} (eq:K→K→Bool) (k:K) (z:W) (m:List (K×W)):∀l:List (K×W),(∃q∈l,eq k q.1=true)→ZaL eq (l++m) k z=ZaL eq l k z
 | [],h=>by obtain⟨q,hq,_⟩:=h;simp at hq
 | (a,u) :: r,h=>by
  rw[List.cons_append]
  unfold ZaL
  cases hb:eq k a with
  | true=>rfl
  | false=>
   simp only[cond_false]
   refine Zku eq k z m r ?_
   obtain⟨q,hq,hk⟩:=h
   rcases List.mem_cons.1 hq with rfl | hq
   ·rw[hb] at hk;cases hk
   ·exact⟨q,hq,hk⟩
abbrev eqI:Int→Int→Bool:=fun ka kb:Int=>(ka==kb)
theorem Zoo {K W:Type} (eq:K→K→Bool) (k:K) (v w:W) (hk:eq k k=true):∀l:List (K×W),(∀q∈l,eq k q.1=false)→Zx eq (l++[(k,v)]) k w=l++[(k,w)]
 | [],_=>by
  show(bif eq k k then _ else _)=_
  rw[hk];rfl
 | (a,u) :: r,h=>by
  rw[List.cons_append]
  unfold Zx
  rw[h (a,u) (by simp)]
  simp only[cond_false,List.cons_append]
  rw[Zoo eq k v w hk r fun q hq=>h q (by simp[hq])]
theorem ZqN {K W:Type} (eq:K→K→Bool) (k:K) (z v:W) (hk:eq k k=true) (l m:List (K×W)) (h:∀q∈l,eq k q.1=false):ZaL eq (l++(k,v) :: m) k z=v:=by
 rw[ZjR eq k z _ l h]
 show(bif eq k k then _ else _)=_
 rw[hk];rfl
end Go.Proofs.YtljgncbdagmeeaaDoor
namespace Go.Proofs.YtljgncbdagmeeaaDoor
open Go Go.Proofs.YtljgncbdagmeeaaDoorE
set_option linter.unusedVariables false
set_option linter.unusedSimpArgs false
def tch (d:Zn) (n:Nat):List Int:=tl d (n:Int) 0 99
theorem ZmC {d:Zn} (g:Zls d) (n:Nat):Zhx d (n:Int) (tch d n):=ZtO g (n:Int)
theorem ZBl {d:Zn} (hs:Zln d) (hf:d.futures.length≤1000) (hc:Zes d=0) (n:Nat):Zd7 d (n:Int)=some (tch d n):=by
 obtain⟨r,h1,h2⟩:=Zvm d hs hf hc (n:Int)
 rw[h1,h2.eq (ZmC (ZrA hc) n)]
abbrev nt (d:Zn) (n:Nat):Nat:=(tch d n).length
theorem ZxF {d:Zn} (g:Zda d) (n:Nat):nt d n≤16:=Nat.le_trans (ZsL (ZmC g.g n)) g.fl
def cut (d:Zn) (n i:Nat):Int:=if i=0 then 0 else match (tch d n)[i-1]? with | some z=>Zf5 d.futures z | none=>Zeu d.parts (n:Int)
def ZhU (d:Zn) (n k:Nat):List Int:=(List.range k).map fun i=>cut d n (i+1)-cut d n i
def ZR (d:Zn):Nat→Nat
 | 0=>0
 | n+1=>ZR d n+(nt d n+1)
theorem Zi1 {d:Zn} (g:Zda d):∀n,ZR d n≤17*n
 | 0=>Nat.le_refl _
 | n+1=>by have:=Zi1 g n;have:=ZxF g n;show ZR d n+(nt d n+1)≤_;omega
theorem Zko {d:Zn}{n i:Nat} (g:Zls d) (hi:i<nt d n):∃f,Zy (tch d n) (i:Int)=some (tch d n)[i]∧Zy d.futures (tch d n)[i]=some f∧d.futures[((tch d n)[i]).toNat]? = some f∧f.user=(n:Int)∧f.pos=cut d n (i+1)∧f∈d.futures:=by
 obtain⟨j,f,h1,h2,h3⟩:=(ZmC g n).mem _ |>.1 (List.getElem_mem hi)
 refine⟨f,Zcp (List.getElem?_eq_getElem hi),?_,?_,h2,?_,List.mem_of_getElem? h1⟩
 ·rw[h3];exact Zcp h1
 ·rw[h3,Int.toNat_natCast];exact h1
 ·unfold cut
  rw[if_neg (by omega),Nat.add_sub_cancel,List.getElem?_eq_getElem hi]
  show _=Zf5 d.futures (tch d n)[i]
  unfold Zf5
  rw[h3,Int.toNat_natCast,h1]
theorem Zt7 {d:Zn} (g:Zls d) (n i:Nat):0≤cut d n i∧cut d n i≤100:=by
 unfold cut
 split
 ·omega
 ·have wb:0≤Zeu d.parts (n:Int)∧Zeu d.parts (n:Int)≤100:=by
   refine⟨?_,ZlM g _⟩
   unfold Zeu
   split
   ·rename_i p hp;have:=g.w p (List.mem_of_getElem? hp);omega
   ·omega
  split
  ·rename_i z hz
   obtain⟨j,f,h1,h2,h3⟩:=(ZmC g n).mem z |>.1 (List.mem_of_getElem? hz)
   have:=g.f f (List.mem_of_getElem? h1)
   have:=ZlM g f.user
   unfold Zf5
   rw[h3,Int.toNat_natCast,h1]
   show 0≤f.pos∧f.pos≤100
   omega
  ·exact wb
theorem Znn (d:Zn) (n:Nat):cut d n (nt d n+1)=Zeu d.parts (n:Int):=by
 unfold cut
 rw[if_neg (by omega),Nat.add_sub_cancel,List.getElem?_eq_none (Nat.le_refl _)]
theorem Zod (d:Zn) (n k:Nat):ZhU d n (k+1)=ZhU d n k++[cut d n (k+1)-cut d n k]:=by unfold ZhU;rw[List.range_succ,List.map_append];rfl
theorem ZpQ (d:Zn) (n k:Nat):(ZhU d n k).length=k:=by unfold ZhU;simp
def Zh7 (d:Zn) (n:Nat):List Int:=ZhU d n (nt d n+1)
theorem ZuU {d:Zn}{n:Nat} (hn:n<d.parts.length):∃x,Zy d.parts (n:Int)=some x∧x.work=Zeu d.parts (n:Int):=by
 refine⟨d.parts[n],Zcp (List.getElem?_eq_getElem hn),?_⟩
 unfold Zeu
 rw[Int.toNat_natCast,List.getElem?_eq_getElem hn]
def Zfa (d:Zn) (z:Int):Int:=(ZR d z.toNat:Int)
def ZgD (d:Zn) (z:Int):Int:=(ZR d (z.toNat+1):Int)-1
def ZvL (d:Zn) (f:Zk):Int:=ZiX (fun _ z=>Zf5 d.futures z==f.pos) (fun i _=>Zfa d f.user+(i:Int)+1) (-1) 0 (tch d f.user.toNat)
end Go.Proofs.YtljgncbdagmeeaaDoor
namespace Go.Proofs.YtljgncbdagmeeaaDoor
open Go Go.Proofs.YtljgncbdagmeeaaDoorE
set_option linter.unusedVariables false
set_option linter.unusedSimpArgs false
def upto {β:Type} (B:Nat→List β) (k:Nat):List β:=(List.range k).flatMap B
theorem ZcT {β:Type} (B:Nat→List β) (k:Nat):upto B (k+1)=upto B k++B k:=by unfold upto;rw[List.range_succ,List.flatMap_append];simp
theorem Zru {γ β:Type} (l:List γ) (hl:l.length≤1000) (step:Int×List β→Option ((Int×List β)⊕List β)) (g:γ→β)
  (h1:∀(i:Nat) x s,i<l.length→l[i]? = some x→Nat.ble (s.length+1) lim=true→step ((i:Int),s)=some (.inl (((i+1:Nat):Int),s++[g x])))
  (h2:∀s,step ((l.length:Int),s)=some (.inr s)) (s:List β) (hs:s.length≤1000000):lp step (0,s)=some (s++l.map g):=by
 have key:=(Zpa l step (fun i s=>((i:Int),s)) (fun _ s x=>s++[g x]) id (fun i s=>s.length≤1000000+i) (fun i x s hi hx hI=>⟨h1 i x s hi hx (ZkY (by omega)),by rw[List.length_append];simp only[List.length_cons,List.length_nil];omega⟩) (fun s _=>h2 s) s (by omega)).1
 have e:∀(l:List γ) (i:Nat) (s:List β),ZhS (fun _ s x=>s++[g x]) i s l=s++l.map g:=by
  intro l
  induction l with
  | nil=>intro i s;simp[ZhS]
  | cons x l ih=>intro i s;show ZhS _ (i+1) (s++[g x]) l=_;rw[ih];simp
 rw[e] at key
 exact key
def Zgp (d:Zn) (n k:Nat):List Zo:=(List.range k).map fun j=>⟨((ZR d n+j:Nat):Int),((ZR d n+j+1:Nat):Int)⟩
theorem Zon (d:Zn) (n k:Nat):Zgp d n (k+1)=Zgp d n k++[⟨((ZR d n+k:Nat):Int),((ZR d n+k+1:Nat):Int)⟩]:=by unfold Zgp;rw[List.range_succ,List.map_append];rfl
theorem Zmx (d:Zn) (n k:Nat):(Zgp d n k).length=k:=by unfold Zgp;simp
def Zga (n k:Nat):List Zi:=(List.range k).map fun j:Nat=>⟨(n:Int),(j:Int)⟩
theorem Zrp (n k:Nat):Zga n (k+1)=Zga n k++[⟨(n:Int),(k:Int)⟩]:=by unfold Zga;rw[List.range_succ,List.map_append];rfl
theorem Zog (n k:Nat):(Zga n k).length=k:=by unfold Zga;simp
def Zgw (d:Zn) (k:Nat):List Int:=upto (Zh7 d) k
def ZfT (d:Zn) (k:Nat):List Zo:=upto (fun n=>Zgp d n (nt d n)) k
def ZeG (d:Zn) (k:Nat):List Zi:=upto (fun n=>Zga n (nt d n+1)) k
theorem ZfY (d:Zn):∀k,(Zgw d k).length=ZR d k
 | 0=>rfl
 | k+1=>by unfold Zgw;rw[ZcT,List.length_append];unfold Zh7;rw[ZpQ];show(Zgw d k).length+_=ZR d k+_;rw[ZfY d k]
theorem Zhz (d:Zn):∀k,(ZeG d k).length=ZR d k
 | 0=>rfl
 | k+1=>by unfold ZeG;rw[ZcT,List.length_append,Zog];show(ZeG d k).length+_=ZR d k+_;rw[Zhz d k]
theorem ZmG (d:Zn):∀k,(ZfT d k).length≤ZR d k
 | 0=>Nat.le_refl _
 | k+1=>by unfold ZfT;rw[ZcT,List.length_append,Zmx];have:=ZmG d k;unfold ZfT at this;show _≤ZR d k+(nt d k+1);omega
def Zjp (d:Zn):List Zo:=d.edges.map fun e=>⟨ZgD d e.src,Zfa d e.dst⟩
def Zlg (d:Zn):List Zo:=d.futures.map fun f=>⟨ZgD d f.maker,ZvL d f⟩
def Zm4 (d:Zn) (at_:Int) (b:Zu):List Zo:=b.ins.map (fun q=>⟨ZgD d q,at_⟩)++b.outs.map (fun q=>⟨at_,Zfa d q⟩)
def ZeA (d:Zn) (i:Nat):Int:=((ZR d d.parts.length+i:Nat):Int)
def Zfj (d:Zn) (k:Nat):List Zo:=upto (fun i=>match d.barriers[i]? with | some b=>Zm4 d (ZeA d i) b | none=>[]) k
def ZgT (k:Nat):List Zi:=(List.range k).map fun i:Nat=>⟨-1,(i:Int)⟩
theorem Zsh (k:Nat):(ZgT k).length=k:=by unfold ZgT;simp
theorem ZrI (k:Nat):ZgT (k+1)=ZgT k++[⟨-1,(k:Int)⟩]:=by unfold ZgT;rw[List.range_succ,List.map_append];rfl
def ZcS (d:Zn):List Int:=Zgw d d.parts.length++List.replicate d.barriers.length 1
def ZiD (d:Zn):List Zo:=ZfT d d.parts.length++Zjp d++Zlg d
def ZfS (d:Zn):List Zo:=ZiD d++Zfj d d.barriers.length
def Zta (d:Zn):List Zi:=ZeG d d.parts.length++ZgT d.barriers.length
def Za5 (d:Zn):Ztn:=⟨⟨ZcS d,ZfS d⟩,Zta d⟩
theorem ZoS {d:Zn} (g:Zda d):(ZiD d).length≤1000:=by
 unfold ZiD Zjp Zlg
 have h1:=ZmG d d.parts.length
 have h2:=Zi1 g d.parts.length
 have h3:=g.pl
 have h4:=g.el
 have h5:=g.fl
 simp only[List.length_append,List.length_map]
 omega
theorem Zxc {d:Zn} (hz:ZlY d) {b:Zu} (hb:b∈d.barriers) (z:Int):(Zm4 d z b).length≤40:=by
 have:=hz.i b hb
 unfold Zm4
 simp only[List.length_append,List.length_map]
 omega
theorem Zmv {d:Zn} (hz:ZlY d):∀k,(Zfj d k).length≤40*k
 | 0=>Nat.le_refl _
 | k+1=>by
  have ih:=Zmv hz k
  unfold Zfj at ih ⊢
  rw[ZcT,List.length_append]
  split
  ·rename_i b hb
   have:=Zxc hz (List.mem_of_getElem? hb) (ZeA d k)
   omega
  ·simp only[List.length_nil];omega
end Go.Proofs.YtljgncbdagmeeaaDoor
namespace Go.Proofs.YtljgncbdagmeeaaDoor
open Go Go.Proofs.YtljgncbdagmeeaaDoorE
set_option linter.unusedVariables false
set_option linter.unusedSimpArgs false
theorem ZhZ (b:Zi) (c:Int) {W:List Int}{P:List Zi} (h1:W.length≤10000) (h2:P.length≤10000):Za0 b c W P=some ():=by
 unfold Za0
 rw[ZkY (by omega),ZkY (by omega)];rfl
theorem Zkv (b c:Int) {E:List Zo} (h1:E.length≤10000):ZX b c E=some ():=by
 unfold ZX
 rw[ZkY (by omega)];rfl
theorem ZrW {β:Type} (P:List β) (x:β) (hP:P.length≤10000):w64 ((List.length (P++[x]):Int)-1)=(P.length:Int):=by
 rw[List.length_append]
 simp only[List.length_cons,List.length_nil]
 rw[ZdI (by omega) (by omega)]
 omega
theorem ZvS {d:Zn} (g:Zda d) {n:Nat} (hn:n<d.parts.length) (hc:Zd7 d (n:Int)=some (tch d n)) {W:List Int}{E:List Zo}{P:List Zi} (M5:List (Int×Int)) (M6:List (Zk×Int)) (hW:W.length≤1000) (hE:E.length≤1000) (hP:P.length≤1000) :
  ZeB d (n:Int) W E P M5 M6=(lp (ZF d (n:Int) (tch d n)) (0,0,M5,M6,W,E,P)).bind fun r=>some (bif decide (0<nt d n) then .inl r else .inr (.inl r.2.2.1)):=by
 obtain⟨x,x1,x2⟩:=ZuU hn
 have hnt:=ZxF g n
 have hnl:(tch d n).length=nt d n:=rfl
 have e1:w64 (((tch d n).length:Int)+1)=(((tch d n).length+1:Nat):Int):=by rw[ZdI (by omega) (by omega)];omega
 have w1:w64 ((0:Int)+1)=1:=ZdI (by omega) (by omega)
 have w2:w64 ((1:Int)+1)=2:=ZdI (by omega) (by omega)
 have w0:w64 ((1:Int)-1)=0:=ZdI (by omega) (by omega)
 have lW:∀a:Int,(W++[a]).length≤10000:=fun a=>by rw[List.length_append];simp only[List.length_cons,List.length_nil];omega
 have lP:∀a:Zi,(P++[a]).length≤10000:=fun a=>by rw[List.length_append];simp only[List.length_cons,List.length_nil];omega
 unfold ZeB
 rw[hc,Option.bind_some,Zcl (Zcj d (n:Int) W E P M5 M6 (tch d n)),Zcl (ZF d (n:Int) (tch d n))]
 by_cases h0:0<nt d n
 ·obtain⟨f,f1,f2,_⟩:=Zko g.g h0
  have c0:decide ((0:Int)<(((tch d n).length+1:Nat):Int))=true:=decide_eq_true (by omega)
  have c1:decide ((0:Int)<((tch d n).length:Int))=true:=decide_eq_true (by omega)
  have c2:decide ((1:Int)<(((tch d n).length+1:Nat):Int))=true:=decide_eq_true (by omega)
  have f1':Zy (tch d n) 0=some (tch d n)[0]:=f1
  simp only[Zcj,ZF,e1,c0,c1,cond_true,x1,Option.bind_some,f1',f2,ZhZ _ _ (show W.length≤10000 by omega) (show P.length≤10000 by omega),w1,decide_eq_false (show ¬(0:Int)<0 by omega),cond_false,decide_eq_true h0]
  rw[Zcl (Zci d (n:Int) W E P M5 M6 (tch d n) f),Zcl (ZF d (n:Int) (tch d n))]
  by_cases h1:1<nt d n
  ·obtain⟨f',f1b,f2b,_⟩:=Zko g.g h1
   have f1b':Zy (tch d n) 1=some (tch d n)[1]:=f1b
   have c3:decide ((1:Int)<((tch d n).length:Int))=true:=decide_eq_true (by omega)
   simp only[Zci,ZF,e1,c2,c3,cond_true,x1,Option.bind_some,f1',f2,f1b',f2b,ZhZ _ _ (lW _) (lP _),Zkv _ _ (show E.length≤10000 by omega),w2,w0,decide_eq_true (show(0:Int)<1 by omega)]
   generalize lp (ZF d (n:Int) (tch d n)) _=r
   cases r<;>rfl
  ·have c3:decide ((1:Int)<((tch d n).length:Int))=false:=decide_eq_false (by omega)
   simp only[Zci,ZF,e1,c2,c3,cond_true,cond_false,x1,Option.bind_some,f1',f2,ZhZ _ _ (lW _) (lP _),Zkv _ _ (show E.length≤10000 by omega),w2,w0,decide_eq_true (show(0:Int)<1 by omega)]
   generalize lp (ZF d (n:Int) (tch d n)) _=r
   cases r<;>rfl
 ·have c0:decide ((0:Int)<(((tch d n).length+1:Nat):Int))=true:=decide_eq_true (by omega)
  have c1:decide ((0:Int)<((tch d n).length:Int))=false:=decide_eq_false (by omega)
  have c2:decide ((1:Int)<(((tch d n).length+1:Nat):Int))=false:=decide_eq_false (by omega)
  simp only[Zcj,ZF,e1,c0,c1,cond_true,x1,Option.bind_some,ZhZ _ _ (show W.length≤10000 by omega) (show P.length≤10000 by omega),w1,decide_eq_false (show ¬(0:Int)<0 by omega),cond_false,decide_eq_false h0]
  rw[Zcl (Zdd d (n:Int) W E P M5 M6 (tch d n) x),Zcl (ZF d (n:Int) (tch d n))]
  simp only[Zdd,ZF,e1,c2,cond_false,Option.bind_some]
abbrev eqF:Zk→Zk→Bool:=fun ka kb:Zk=>((ka.maker==kb.maker)&&((ka.user==kb.user)&&((ka.pos==kb.pos)&&true)))
def ZjI (M:List (Int×Int)) (n F i:Nat):List (Int×Int):=if i=0 then M else M++[((n:Int),((F+i-1:Nat):Int))]
theorem Zs2 {M:List (Int×Int)}{n F:Nat} (h:∀q∈M,q.1≠(n:Int)) (i:Nat):Zx (fun ka kb:Int=>(ka==kb)) (ZjI M n F i) (n:Int) ((F+i:Nat):Int)=ZjI M n F (i+1):=by
 have hq:∀q∈M,eqI (n:Int) q.1=false:=fun q hq=>by
  show((n:Int)==q.1)=false
  exact beq_false_of_ne (Ne.symm (h q hq))
 unfold ZjI
 rw[if_neg (show i+1≠0 by omega)]
 by_cases h0:i=0
 ·subst h0
  rw[if_pos rfl]
  exact Zjl eqI (n:Int) _ M hq
 ·rw[if_neg h0]
  exact Zoo eqI (n:Int) _ _ (by simp) M hq
theorem Zse {M:List (Int×Int)}{n F:Nat} (h:∀q∈M,q.1≠(n:Int)) (i:Nat):ZaL (fun ka kb:Int=>(ka==kb)) (ZjI M n F (i+1)) (n:Int) 0=((F+i:Nat):Int):=by
 unfold ZjI
 rw[if_neg (show i+1≠0 by omega)]
 exact ZqN eqI (n:Int) 0 _ (by simp) M [] (fun q hq=>by
  show((n:Int)==q.1)=false
  exact beq_false_of_ne (Ne.symm (h q hq)))
def Zhk (d:Zn) (n j:Nat):Zk:=match (tch d n)[j]? with | some z=>(match d.futures[z.toNat]? with | some f=>f | none=>⟨0,0,0⟩) | none=>⟨0,0,0⟩
theorem Zfm {d:Zn}{n i:Nat} (g:Zls d) (hi:i<nt d n):Zy (tch d n) (i:Int)=some (tch d n)[i]∧Zy d.futures (tch d n)[i]=some (Zhk d n i)∧(Zhk d n i).user=(n:Int)∧(Zhk d n i).pos=cut d n (i+1)∧Zhk d n i∈d.futures:=by
 obtain⟨f,h1,h2,h3,h4,h5,h6⟩:=Zko g hi
 have e:Zhk d n i=f:=by
  unfold Zhk
  rw[List.getElem?_eq_getElem hi]
  show(match d.futures[((tch d n)[i]).toNat]? with | some f=>f | none=>⟨0,0,0⟩)=f
  rw[h3]
 rw[e]
 exact⟨h1,h2,h4,h5,h6⟩
theorem Zm2 {d:Zn} (g:Zls d) {n i j:Nat} (hij:i<j) (hj:j<nt d n):(Zhk d n i).pos<(Zhk d n j).pos:=by
 obtain⟨_,_,h3,_,_,h5,_⟩:=Zko g (show i<nt d n by omega)
 obtain⟨_,_,k3,_,_,k5,_⟩:=Zko g hj
 rw[(Zfm g (show i<nt d n by omega)).2.2.2.1,(Zfm g hj).2.2.2.1]
 have:=List.pairwise_iff_getElem.1 (ZmC g n).rise i j (show i<nt d n by omega) hj hij
 have e:∀k (hk:k<nt d n),cut d n (k+1)=Zf5 d.futures (tch d n)[k]:=fun k hk=>by
  unfold cut
  rw[if_neg (by omega),Nat.add_sub_cancel,List.getElem?_eq_getElem hk]
 rw[e i (by omega),e j hj]
 exact this
def Zg9 (d:Zn) (n k:Nat):List (Zk×Int):=(List.range k).map fun j:Nat=>(Zhk d n j,((ZR d n+j+1:Nat):Int))
theorem Zr5 (d:Zn) (n k:Nat):Zg9 d n (k+1)=Zg9 d n k++[(Zhk d n k,((ZR d n+k+1:Nat):Int))]:=by unfold Zg9;rw[List.range_succ,List.map_append];rfl
theorem ZrJ {a b:Zk} (h:a.user≠b.user∨a.pos≠b.pos):eqF a b=false:=by
 show((a.maker==b.maker)&&((a.user==b.user)&&((a.pos==b.pos)&&true)))=false
 rcases h with h | h
 ·rw[beq_false_of_ne h];simp
 ·rw[beq_false_of_ne h];simp
theorem Zpl {d:Zn} (g:Zls d) {n k:Nat} (hk:k<nt d n) {M:List (Zk×Int)} (h:∀q∈M,q.1.user≠(n:Int)) :
  Zx (fun ka kb:Zk=>((ka.maker==kb.maker)&&((ka.user==kb.user)&&((ka.pos==kb.pos)&&true)))) (M++Zg9 d n k) (Zhk d n k) ((ZR d n+(k+1):Nat):Int)=M++Zg9 d n (k+1):=by
 rw[Zr5,← List.append_assoc]
 refine Zjl eqF _ _ _ fun q hq=>?_
 have hu:=(Zfm g hk).2.2.1
 rcases List.mem_append.1 hq with hq | hq
 ·exact ZrJ (.inl (by rw[hu];exact Ne.symm (h q hq)))
 ·unfold Zg9 at hq
  obtain⟨j,hj,rfl⟩:=List.mem_map.1 hq
  rw[List.mem_range] at hj
  have:=Zm2 g hj hk
  exact ZrJ (.inr (by show(Zhk d n k).pos≠(Zhk d n j).pos;omega))
theorem ZtR {d:Zn} (g:Zda d) {n:Nat} (hn:n<d.parts.length) {W:List Int}{E:List Zo}{P:List Zi}{M5:List (Int×Int)}{M6:List (Zk×Int)} (hW:W.length≤1000) (hE:E.length≤1000) (hP:P.length=ZR d n)
  (h5:∀q∈M5,q.1≠(n:Int)) (h6:∀q∈M6,q.1.user≠(n:Int)) :
  lp (ZF d (n:Int) (tch d n)) (0,0,M5,M6,W,E,P)=some (M5++[((n:Int),((ZR d n+nt d n:Nat):Int))],M6++Zg9 d n (nt d n),W++Zh7 d n,E++Zgp d n (nt d n),P++Zga n (nt d n+1)):=by
 obtain⟨x,x1,x2⟩:=ZuU hn
 have hnt:=ZxF g n
 have hnl:(tch d n).length=nt d n:=rfl
 have hF:=Zi1 g n
 have hpl:=g.pl
 have e1:w64 (((tch d n).length:Int)+1)=((nt d n+1:Nat):Int):=by show w64 ((nt d n:Int)+1)=_;rw[ZdI (by omega) (by omega)];omega
 have key:∀(k i:Nat),i+k=nt d n+1→lp (ZF d (n:Int) (tch d n)) (cut d n i,(i:Int),ZjI M5 n (ZR d n) i,M6++Zg9 d n (i-1),W++ZhU d n i,E++Zgp d n (i-1),P++Zga n i) =
   some (ZjI M5 n (ZR d n) (nt d n+1),M6++Zg9 d n (nt d n),W++Zh7 d n,E++Zgp d n (nt d n),P++Zga n (nt d n+1)):=by
  intro k
  induction k with
  | zero=>
   intro i hi
   have:i=nt d n+1:=by omega
   subst this
   rw[Zcl]
   simp only[ZF,e1,Zib,cond_false]
   rfl
  | succ k ih=>
   intro i hi
   have hi':i<nt d n+1:=by omega
   have b0:=Zt7 g.g n i
   have b1:=Zt7 g.g n (i+1)
   have lP:(P++Zga n i).length=ZR d n+i:=by rw[List.length_append,Zog,hP]
   have l2:(W++ZhU d n i).length≤10000:=by rw[List.length_append,ZpQ];omega
   have l3:(E++Zgp d n (i-1)).length≤10000:=by rw[List.length_append,Zmx];omega
   have lput:=ZrW (P++Zga n i) (Zi.mk (n:Int) (i:Int)) (by rw[lP];omega)
   rw[lP] at lput
   have p5:=Zs2 (F:=ZR d n) h5 i
   have g5:=Zse (F:=ZR d n) h5 i
   have w5:w64 (cut d n (i+1)-cut d n i)=cut d n (i+1)-cut d n i:=ZdI (by omega) (by omega)
   have ih':=ih (i+1) (by omega)
   rw[Zod,Zrp,← List.append_assoc,← List.append_assoc] at ih'
   rw[Zcl]
   have fin:i=nt d n→cut d n (i+1)=x.work:=fun h=>by rw[h,Znn,x2]
   have node:=fun c=>ZhZ (Zi.mk (n:Int) (i:Int)) c l2 (show(P++Zga n i).length≤10000 by rw[lP];omega)
   by_cases hlast:i<nt d n
   ·obtain⟨q1,q2,q3,q4,_⟩:=Zfm g.g hlast
    cases i with
    | zero=>
     simp only[ZF,e1,Zha hi',cond_true,x1,Option.bind_some,Zha (show 0<(tch d n).length from hlast),q1,q2,q4,node,decide_eq_false (show ¬(0:Int)<((0:Nat):Int) by omega),cond_false,lput,p5,w5,Za1 hi' (show nt d n+1<9223372036854775808 by omega)]
     exact ih'
    | succ j=>
     obtain⟨r1,r2,r3,r4,_⟩:=Zfm g.g (show j<nt d n by omega)
     have e2:w64 (((j+1:Nat):Int)-1)=(j:Int):=by rw[ZdI (by omega) (by omega)];omega
     have e3:w64 (((ZR d n+(j+1):Nat):Int)-1)=((ZR d n+j:Nat):Int):=by rw[ZdI (by omega) (by omega)];omega
     have p6:=Zpl g.g (show j<nt d n by omega) h6
     rw[Nat.add_sub_cancel] at l3 ih' ⊢
     rw[Zon,← List.append_assoc] at ih'
     simp only[ZF,e1,Zha hi',cond_true,x1,Option.bind_some,Zha (show j+1<(tch d n).length from hlast),q1,q2,q4,node,decide_eq_true (show(0:Int)<((j+1:Nat):Int) by omega),lput,p5,g5,w5,e2,e3,r1,r2,Zkv _ _ l3,p6,Za1 hi' (show nt d n+1<9223372036854775808 by omega)]
     exact ih'
   ·have hin:i=nt d n:=by omega
    have hfin:=fin hin
    rw[hfin] at w5 ih'
    have c3:decide ((i:Int)<((tch d n).length:Int))=false:=decide_eq_false (by have:((tch d n).length:Int)=(nt d n:Int):=rfl;omega)
    cases i with
    | zero=>
     simp only[ZF,e1,Zha hi',cond_true,x1,Option.bind_some,c3,node,decide_eq_false (show ¬(0:Int)<((0:Nat):Int) by omega),cond_false,lput,p5,w5,Za1 hi' (show nt d n+1<9223372036854775808 by omega)]
     exact ih'
    | succ j=>
     obtain⟨r1,r2,r3,r4,_⟩:=Zfm g.g (show j<nt d n by omega)
     have e2:w64 (((j+1:Nat):Int)-1)=(j:Int):=by rw[ZdI (by omega) (by omega)];omega
     have e3:w64 (((ZR d n+(j+1):Nat):Int)-1)=((ZR d n+j:Nat):Int):=by rw[ZdI (by omega) (by omega)];omega
     have p6:=Zpl g.g (show j<nt d n by omega) h6
     rw[Nat.add_sub_cancel] at l3 ih' ⊢
     rw[Zon,← List.append_assoc] at ih'
     simp only[ZF,e1,Zha hi',cond_true,cond_false,x1,Option.bind_some,c3,node,decide_eq_true (show(0:Int)<((j+1:Nat):Int) by omega),lput,p5,g5,w5,e2,e3,r1,r2,Zkv _ _ l3,p6,Za1 hi' (show nt d n+1<9223372036854775808 by omega)]
     exact ih'
 have:=key (nt d n+1) 0 (by omega)
 simpa [ZjI,Zg9,ZhU,Zgp,Zga,cut] using this
end Go.Proofs.YtljgncbdagmeeaaDoor
namespace Go.Proofs.YtljgncbdagmeeaaDoor
open Go Go.Proofs.YtljgncbdagmeeaaDoorE
set_option linter.unusedVariables false
set_option linter.unusedSimpArgs false
def ZmI (g:ZbS) (a:Int) (T:List Bool):Prop:=∀e∈g.edges,(e.src=a∨bAt T e.src=true)→bAt T e.dst=true
end Go.Proofs.YtljgncbdagmeeaaDoor
namespace Go.Proofs.YtljgncbdagmeeaaDoor
open Go Go.Proofs.YtljgncbdagmeeaaDoorE
set_option linter.unusedVariables false
set_option linter.unusedSimpArgs false
def ZgV (d:Zn) (k:Nat):List (Int×Int):=(List.range k).map fun n:Nat=>((n:Int),(ZR d n:Int))
def Zho (d:Zn) (k:Nat):List (Int×Int):=(List.range k).map fun n:Nat=>((n:Int),((ZR d n+nt d n:Nat):Int))
def Ze0 (d:Zn) (k:Nat):List (Zk×Int):=upto (fun n=>Zg9 d n (nt d n)) k
theorem ZrN (d:Zn) (k:Nat):ZgV d (k+1)=ZgV d k++[((k:Int),(ZR d k:Int))]:=by unfold ZgV;rw[List.range_succ,List.map_append];rfl
theorem ZsA (d:Zn) (k:Nat):Zho d (k+1)=Zho d k++[((k:Int),((ZR d k+nt d k:Nat):Int))]:=by unfold Zho;rw[List.range_succ,List.map_append];rfl
theorem ZtC (d:Zn) (k:Nat):∀q∈ZgV d k,q.1≠(k:Int):=fun q hq=>by
 unfold ZgV at hq
 obtain⟨j,hj,rfl⟩:=List.mem_map.1 hq
 rw[List.mem_range] at hj
 show(j:Int)≠(k:Int)
 omega
theorem ZqZ (d:Zn) (k:Nat):∀q∈Zho d k,q.1≠(k:Int):=fun q hq=>by
 unfold Zho at hq
 obtain⟨j,hj,rfl⟩:=List.mem_map.1 hq
 rw[List.mem_range] at hj
 show(j:Int)≠(k:Int)
 omega
theorem ZmV {d:Zn}{k:Nat}{q:Zk×Int} (h:q∈Ze0 d k):∃n j,n<k∧j<nt d n∧q=(Zhk d n j,((ZR d n+j+1:Nat):Int)):=by
 unfold Ze0 upto at h
 obtain⟨n,hn,hq⟩:=List.mem_flatMap.1 h
 unfold Zg9 at hq
 obtain⟨j,hj,rfl⟩:=List.mem_map.1 hq
 exact⟨n,j,List.mem_range.1 hn,List.mem_range.1 hj,rfl⟩
theorem ZsV {d:Zn} (g:Zls d) (k:Nat):∀q∈Ze0 d k,q.1.user≠(k:Int):=fun q hq=>by
 obtain⟨n,j,hn,hj,rfl⟩:=ZmV hq
 show(Zhk d n j).user≠(k:Int)
 rw[(Zfm g hj).2.2.1]
 omega
theorem ZiT {K W:Type} (eq:K→K→Bool) (z:W) (f:Nat→K) (v:Nat→W) {i:Nat} (h0:eq (f i) (f i)=true) (h1:∀j,j<i→eq (f i) (f j)=false):∀k,i<k→ZaL eq ((List.range k).map fun j=>(f j,v j)) (f i) z=v i
 | 0,h=>absurd h (by omega)
 | k+1,h=>by
  rw[List.range_succ,List.map_append]
  by_cases hk:i<k
  ·rw[Zku eq (f i) z _ _ ⟨(f i,v i),List.mem_map.2 ⟨i,List.mem_range.2 hk,rfl⟩,h0⟩]
   exact ZiT eq z f v h0 h1 k hk
  ·have:i=k:=by omega
   subst this
   refine ZqN eq (f i) z (v i) h0 _ [] fun q hq=>?_
   obtain⟨j,hj,rfl⟩:=List.mem_map.1 hq
   exact h1 j (List.mem_range.1 hj)
theorem Zq2 {d:Zn}{z:Int} (h:inR d z):ZaL (fun ka kb:Int=>(ka==kb)) (ZgV d d.parts.length) z 0=Zfa d z:=by
 have:=ZiT eqI 0 (fun n:Nat=>(n:Int)) (fun n=>(ZR d n:Int)) (i:=z.toNat) (by simp) (fun j hj=>beq_false_of_ne (by omega)) d.parts.length h.2
 have e:((z.toNat:Nat):Int)=z:=Int.toNat_of_nonneg h.1
 simp only[e] at this
 exact this
theorem ZpE {d:Zn}{z:Int} (h:inR d z):ZaL (fun ka kb:Int=>(ka==kb)) (Zho d d.parts.length) z 0=ZgD d z:=by
 have:=ZiT eqI 0 (fun n:Nat=>(n:Int)) (fun n=>((ZR d n+nt d n:Nat):Int)) (i:=z.toNat) (by simp) (fun j hj=>beq_false_of_ne (by omega)) d.parts.length h.2
 have e:((z.toNat:Nat):Int)=z:=Int.toNat_of_nonneg h.1
 simp only[e] at this
 refine Eq.trans this ?_
 unfold ZgD
 show _=((ZR d z.toNat+(nt d z.toNat+1):Nat):Int)-1
 omega
theorem ZmM {d:Zn} (g:Zda d) {f:Zk} (h:f∈d.futures):∃j,j<nt d f.user.toNat∧Zhk d f.user.toNat j=f:=by
 obtain⟨m,hm⟩:=List.getElem?_of_mem h
 have hu:=g.user h
 have e:((f.user.toNat:Nat):Int)=f.user:=Int.toNat_of_nonneg hu.1
 have:=(ZmC g.g f.user.toNat).mem (m:Int) |>.2 ⟨m,f,hm,e.symm,rfl⟩
 obtain⟨j,hj,hj2⟩:=List.getElem_of_mem this
 refine⟨j,hj,?_⟩
 unfold Zhk
 rw[List.getElem?_eq_getElem hj]
 show(match d.futures[((tch d f.user.toNat)[j]).toNat]? with | some f=>f | none=>⟨0,0,0⟩)=f
 rw[hj2,Int.toNat_natCast,hm]
theorem Zuy {γ R:Type} (p:Nat→γ→Bool) (out:Nat→γ→R) (fin:R):∀(l:List γ) (i j:Nat) (x:γ),l[j]? = some x→p (i+j) x=true→(∀k y,k<j→l[k]? = some y→p (i+k) y=false)→ZiX p out fin i l=out (i+j) x
 | [],i,j,x,h,_,_=>by cases h
 | y :: l,i,0,x,h,h1,_=>by
  cases h
  unfold ZiX
  rw[Nat.add_zero] at h1
  rw[h1];rfl
 | y :: l,i,j+1,x,h,h1,h2=>by
  unfold ZiX
  have h0:=h2 0 y (by omega) rfl
  rw[Nat.add_zero] at h0
  rw[h0]
  show ZiX p out fin (i+1) l=_
  rw[show i+(j+1)=i+1+j by omega] at h1 ⊢
  exact Zuy p out fin l (i+1) j x h h1 fun k z hk hz=>by
   have:=h2 (k+1) z (by omega) hz
   rwa [show i+(k+1)=i+1+k by omega] at this
theorem ZoD {d:Zn} (g:Zda d) {f:Zk} (h:f∈d.futures) {j:Nat} (hj:j<nt d f.user.toNat) (he:Zhk d f.user.toNat j=f):ZvL d f=((ZR d f.user.toNat+j+1:Nat):Int):=by
 have pos:∀k (hk:k<nt d f.user.toNat),Zf5 d.futures (tch d f.user.toNat)[k]=(Zhk d f.user.toNat k).pos:=fun k hk=>by
  rw[(Zfm g.g hk).2.2.2.1]
  unfold cut
  rw[if_neg (by omega),Nat.add_sub_cancel,List.getElem?_eq_getElem hk]
 unfold ZvL
 rw[Zuy (fun _ z=>Zf5 d.futures z==f.pos) (fun i _=>Zfa d f.user+(i:Int)+1) (-1) (tch d f.user.toNat) 0 j _ (List.getElem?_eq_getElem hj) (by show(Zf5 d.futures (tch d f.user.toNat)[j]==f.pos)=true;rw[pos j hj,he];simp) (fun k y hk hy=>by
  have hk2:k<nt d f.user.toNat:=by omega
  have hy2:(tch d f.user.toNat)[k]=y:=Option.some.inj ((List.getElem?_eq_getElem hk2).symm.trans hy)
  have:=Zm2 g.g hk hj
  rw[he] at this
  show(Zf5 d.futures y==f.pos)=false
  rw[← hy2,pos k hk2]
  exact beq_false_of_ne (by omega))]
 unfold Zfa
 omega
theorem Zr3 (f:Zk):eqF f f=true:=by simp[eqF]
theorem ZvA {d:Zn} (g:Zda d) {f:Zk} (h:f∈d.futures):ZaL (fun ka kb:Zk=>((ka.maker==kb.maker)&&((ka.user==kb.user)&&((ka.pos==kb.pos)&&true)))) (Ze0 d d.parts.length) f 0=ZvL d f:=by
 obtain⟨j,hj,he⟩:=ZmM g h
 have hu:=g.user h
 have eu:((f.user.toNat:Nat):Int)=f.user:=Int.toNat_of_nonneg hu.1
 have key:∀k,f.user.toNat<k→ZaL eqF (Ze0 d k) f 0=ZvL d f:=by
  intro k
  induction k with
  | zero=>intro hk;exact absurd hk (by omega)
  | succ k ih=>
   intro hk
   rw[show Ze0 d (k+1)=Ze0 d k++Zg9 d k (nt d k) from ZcT _ k]
   by_cases hlt:f.user.toNat<k
   ·rw[Zku eqF f 0 _ _ ⟨(f,((ZR d f.user.toNat+j+1:Nat):Int)),?_,Zr3 f⟩]
    ·exact ih hlt
    ·unfold Ze0 upto
     refine List.mem_flatMap.2 ⟨f.user.toNat,List.mem_range.2 hlt,?_⟩
     unfold Zg9
     exact List.mem_map.2 ⟨j,List.mem_range.2 hj,by rw[he]⟩
   ·have hk2:k=f.user.toNat:=by omega
    subst hk2
    rw[ZjR eqF f 0 _ _ (fun q hq=>by
     obtain⟨n,i,hn,hi,rfl⟩:=ZmV hq
     refine ZrJ (.inl ?_)
     show f.user≠(Zhk d n i).user
     rw[(Zfm g.g hi).2.2.1]
     omega)]
    have:=ZiT eqF 0 (fun i=>Zhk d f.user.toNat i) (fun i=>((ZR d f.user.toNat+i+1:Nat):Int)) (i:=j) (Zr3 _) (fun i hi=>by
     have:=Zm2 g.g hi hj
     exact ZrJ (.inr (by omega))) (nt d f.user.toNat) hj
    rw[ZoD g h hj he]
    rw[he] at this
    exact this
 exact key d.parts.length hu.2
theorem ZtV {d:Zn} (g:Zda d) (hc:∀n:Nat,Zd7 d (n:Int)=some (tch d n)):lp (Zdr d) (0,[],[],[],[],[],[])=some (Zgw d d.parts.length,ZfT d d.parts.length,ZeG d d.parts.length,ZgV d d.parts.length,Zho d d.parts.length,Ze0 d d.parts.length):=by
 have hpl:=g.pl
 have key:∀(k i:Nat),i+k=d.parts.length→lp (Zdr d) ((i:Int),Zgw d i,ZfT d i,ZeG d i,ZgV d i,Zho d i,Ze0 d i)=some (Zgw d d.parts.length,ZfT d d.parts.length,ZeG d d.parts.length,ZgV d d.parts.length,Zho d d.parts.length,Ze0 d d.parts.length):=by
  intro k
  induction k with
  | zero=>
   intro i hi
   have:i=d.parts.length:=by omega
   subst this
   rw[Zcl]
   simp only[Zdr,Zib,cond_false]
  | succ k ih=>
   intro i hi
   have hi':i<d.parts.length:=by omega
   have hF:=Zi1 g i
   have h1:=ZmG d i
   have l1:(Zgw d i).length≤1000:=by rw[ZfY];omega
   have l2:(ZfT d i).length≤1000:=by omega
   have l3:(ZeG d i).length≤1000:=by rw[Zhz];omega
   have ih':=ih (i+1) (by omega)
   rw[show ZfT d (i+1)=ZfT d i++Zgp d i (nt d i) from ZcT _ i,show Zgw d (i+1)=Zgw d i++Zh7 d i from ZcT _ i,show ZeG d (i+1)=ZeG d i++Zga i (nt d i+1) from ZcT _ i,ZrN,ZsA,show Ze0 d (i+1)=Ze0 d i++Zg9 d i (nt d i) from ZcT _ i] at ih'
   have pe:=ZvS g hi' (hc i) (Zho d i) (Ze0 d i) l1 l2 l3
   rw[ZtR g hi' l1 l2 (Zhz d i) (ZqZ d i) (ZsV g.g i),Option.bind_some] at pe
   have p4:Zx (fun ka kb:Int=>(ka==kb)) (ZgV d i) (i:Int) ((ZeG d i).length:Int)=ZgV d i++[((i:Int),(ZR d i:Int))]:=by
    rw[Zhz]
    exact Zjl eqI (i:Int) _ _ fun q hq=>beq_false_of_ne (Ne.symm (ZtC d i q hq))
   have p5:Zx (fun ka kb:Int=>(ka==kb)) (Zho d i) (i:Int) (ZR d i:Int)=Zho d i++[((i:Int),(ZR d i:Int))]:=Zjl eqI (i:Int) _ _ fun q hq=>beq_false_of_ne (Ne.symm (ZqZ d i q hq))
   have lput:=ZrW (ZeG d i) (Zi.mk (i:Int) 0) (by omega)
   rw[Zhz] at lput
   rw[Zcl]
   by_cases h0:0<nt d i
   ·rw[decide_eq_true h0] at pe
    simp only[Zdr,Zha hi',cond_true,pe,Option.bind_some,p4,Za1 hi' (show d.parts.length<9223372036854775808 by omega)]
    exact ih'
   ·have hz:nt d i=0:=by omega
    rw[decide_eq_false h0] at pe
    simp only[Zdr,Zha hi',cond_true,cond_false,pe,Option.bind_some,p4,lput,p5,Za1 hi' (show d.parts.length<9223372036854775808 by omega)]
    rw[hz] at ih'
    simpa [Zgp,Zga,Zg9] using ih'
 exact key d.parts.length 0 (by omega)
theorem ZtB {d:Zn} (g:Zda d) {r3:List Int×List Zo×List Zi×List (Int×Int)×List (Int×Int)×List (Zk×Int)} (h4:r3.2.2.2.1=ZgV d d.parts.length) (h5:r3.2.2.2.2.1=Zho d d.parts.length) (E:List Zo) (hE:E.length≤1000):lp (ZdR d r3) (0,E)=some (E++Zjp d):=
 have he:=g.el
 Zru d.edges (by omega) (ZdR d r3) (fun e=>⟨ZgD d e.src,Zfa d e.dst⟩) (fun i x s hi hx hb=>by
  have hm:=List.mem_of_getElem? hx
  have ed:∀b c,ZX b c s=some ():=fun b c=>by unfold ZX;rw[hb];rfl
  simp only[ZdR,Zha hi,cond_true,Zcp hx,Option.bind_some,h4,h5,ZpE (g.src hm),Zq2 (g.dst hm),ed,Za1 hi (show d.edges.length<9223372036854775808 by omega)]) (fun s=>by simp only[ZdR,Zib,cond_false]) E (by omega)
theorem ZrK {d:Zn} (g:Zda d) {r3:List Int×List Zo×List Zi×List (Int×Int)×List (Int×Int)×List (Zk×Int)} (h5:r3.2.2.2.2.1=Zho d d.parts.length) (h6:r3.2.2.2.2.2=Ze0 d d.parts.length) (E:List Zo) (hE:E.length≤1000):lp (ZdT d r3) (0,E)=some (E++Zlg d):=
 have he:=g.fl
 Zru d.futures (by omega) (ZdT d r3) (fun f=>⟨ZgD d f.maker,ZvL d f⟩) (fun i x s hi hx hb=>by
  have hm:=List.mem_of_getElem? hx
  have ed:∀b c,ZX b c s=some ():=fun b c=>by unfold ZX;rw[hb];rfl
  simp only[ZdT,Zha hi,cond_true,Zcp hx,Option.bind_some,h5,h6,ZpE (g.maker hm),ZvA g hm,ed,Za1 hi (show d.futures.length<9223372036854775808 by omega)]) (fun s=>by simp only[ZdT,Zib,cond_false]) E (by omega)
theorem ZvG {d:Zn} (g:Zda d) (hz:ZlY d) {r3:List Int×List Zo×List Zi×List (Int×Int)×List (Int×Int)×List (Zk×Int)} (h4:r3.2.2.2.1=ZgV d d.parts.length) (h5:r3.2.2.2.2.1=Zho d d.parts.length) (E:List Zo) (hE:E.length≤1000) :
  lp (ZdS d r3) (0,Zgw d d.parts.length,E,ZeG d d.parts.length)=some (ZcS d,E++Zfj d d.barriers.length,Zta d):=by
 have hbl:=g.bl
 have hF:=Zi1 g d.parts.length
 have hpl:=g.pl
 have key:∀(k i:Nat),i+k=d.barriers.length→lp (ZdS d r3) ((i:Int),Zgw d d.parts.length++List.replicate i 1,E++Zfj d i,ZeG d d.parts.length++ZgT i)=some (ZcS d,E++Zfj d d.barriers.length,Zta d):=by
  intro k
  induction k with
  | zero=>
   intro i hi
   have:i=d.barriers.length:=by omega
   subst this
   rw[Zcl]
   simp only[ZdS,Zib,cond_false]
   rfl
  | succ k ih=>
   intro i hi
   have hi':i<d.barriers.length:=by omega
   have hx:d.barriers[i]? = some d.barriers[i]:=List.getElem?_eq_getElem hi'
   have hm:=List.mem_of_getElem? hx
   have hsz:=hz.i _ hm
   have hB:=Zmv hz i
   have lp_:(ZeG d d.parts.length++ZgT i).length=ZR d d.parts.length+i:=by rw[List.length_append,Zhz,Zsh]
   have lw_:(Zgw d d.parts.length++List.replicate i (1:Int)).length=ZR d d.parts.length+i:=by rw[List.length_append,ZfY,List.length_replicate]
   have lput:=ZrW (ZeG d d.parts.length++ZgT i) (Zi.mk (-1) (i:Int)) (by rw[lp_];omega)
   rw[lp_,show((ZR d d.parts.length+i:Nat):Int)=ZeA d i from rfl] at lput
   have k4:=fun s=>Zru d.barriers[i].ins (by omega) (ZeP r3 ((i:Int),Zgw d d.parts.length++List.replicate i 1,E++Zfj d i,ZeG d d.parts.length++ZgT i) d.barriers[i]) (fun q=>⟨ZgD d q,ZeA d i⟩) (fun j x s hj hx hb=>by
    have ed:∀b c,ZX b c s=some ():=fun b c=>by unfold ZX;rw[hb];rfl
    simp only[ZeP,Zha hj,cond_true,Zcp hx,Option.bind_some,h5,ZpE (g.ins _ hm x (List.mem_of_getElem? hx)),lput,ed,Za1 hj (show d.barriers[i].ins.length<9223372036854775808 by omega)]) (fun s=>by simp only[ZeP,Zib,cond_false]) s
   have k5:=fun s=>Zru d.barriers[i].outs (by omega) (ZeQ r3 ((i:Int),Zgw d d.parts.length++List.replicate i 1,E++Zfj d i,ZeG d d.parts.length++ZgT i) d.barriers[i]) (fun q=>⟨ZeA d i,Zfa d q⟩) (fun j x s hj hx hb=>by
    have ed:∀b c,ZX b c s=some ():=fun b c=>by unfold ZX;rw[hb];rfl
    simp only[ZeQ,Zha hj,cond_true,Zcp hx,Option.bind_some,h4,Zq2 (g.outs _ hm x (List.mem_of_getElem? hx)),lput,ed,Za1 hj (show d.barriers[i].outs.length<9223372036854775808 by omega)]) (fun s=>by simp only[ZeQ,Zib,cond_false]) s
   have ih':=ih (i+1) (by omega)
   have eB:Zfj d (i+1)=Zfj d i++Zm4 d (ZeA d i) d.barriers[i]:=by
    unfold Zfj
    rw[ZcT,hx]
   rw[eB,ZrI,List.replicate_succ',Zm4,← List.append_assoc,← List.append_assoc,← List.append_assoc,← List.append_assoc] at ih'
   rw[Zcl]
   simp only[ZdS,Zha hi',cond_true,Zcp hx,Option.bind_some,ZhZ _ _ (show(Zgw d d.parts.length++List.replicate i (1:Int)).length≤10000 by rw[lw_];omega) (show(ZeG d d.parts.length++ZgT i).length≤10000 by rw[lp_];omega),k4 (E++Zfj d i) (by rw[List.length_append];omega),
    k5 (E++Zfj d i++List.map (fun q=>⟨ZgD d q,ZeA d i⟩) d.barriers[i].ins) (by simp only[List.length_append,List.length_map];omega),Za1 hi' (show d.barriers.length<9223372036854775808 by omega)]
   exact ih'
 have:=key d.barriers.length 0 (by omega)
 simpa [Zfj,upto,ZgT] using this
theorem ZsC {d:Zn} (g:Zda d) (hz:ZlY d):ZrQ (Za5 d).dag:=by
 have hE:=ZoS g
 have hB:=Zmv hz d.barriers.length
 have hbl:=g.bl
 have hF:=Zi1 g d.parts.length
 have hpl:=g.pl
 constructor
 ·show(ZcS d).length<_
  unfold ZcS
  rw[List.length_append,ZfY,List.length_replicate]
  omega
 ·show(ZfS d).length<_
  unfold ZfS
  rw[List.length_append]
  omega
noncomputable def Zrm (d:Zn):Ztn×Int:=
 bif Zes d==0 then (bif Zg8 (Za5 d).dag==0 then (Za5 d,0) else (⟨⟨[],[]⟩,[]⟩,70)) else (⟨⟨[],[]⟩,[]⟩,Zes d)
theorem ZuM {d:Zn} (hz:ZlY d):Zgl d=some (Zrm d):=by
 have hs:=hz.short
 unfold Zgl Zrm
 rw[Zua d hs,Option.bind_some]
 by_cases hc:Zes d=0
 ·have g:=Zjc hc
  have hE:=ZoS g
  have h3:(ZfT d d.parts.length++Zjp d).length≤1000:=by unfold ZiD at hE;rw[List.length_append] at hE;omega
  have h4:(ZfT d d.parts.length).length≤1000:=by rw[List.length_append] at h3;omega
  rw[hc]
  simp only[bne_self_eq_false,cond_false,beq_self_eq_true,cond_true,ZtV g (ZBl hs (by have:=g.fl;omega) hc),Option.bind_some]
  rw[ZtB g rfl rfl _ h4]
  simp only[Option.bind_some]
  rw[ZrK g rfl rfl _ h3]
  simp only[Option.bind_some]
  rw[show ZfT d d.parts.length++Zjp d++Zlg d=ZiD d from rfl,ZvG g hz rfl rfl _ hE]
  simp only[Option.bind_some]
  rw[show ZbS.mk (ZcS d) (ZiD d++Zfj d d.barriers.length)=(Za5 d).dag from rfl,Zmm _ (ZsC g hz),Option.bind_some]
  by_cases hk:Zg8 (Za5 d).dag=0
  ·rw[hk];rfl
  ·rw[beq_false_of_ne hk,bne,beq_false_of_ne hk];rfl
 ·rw[beq_false_of_ne hc,bne,beq_false_of_ne hc];rfl
end Go.Proofs.YtljgncbdagmeeaaDoor
namespace Go.Proofs.YtljgncbdagmeeaaDoor
open Go Go.Proofs.YtljgncbdagmeeaaDoorE
set_option linter.unusedVariables false
set_option linter.unusedSimpArgs false
theorem Zy7 {d:Zn} (g:Zda d) {n:Nat} (hn:n<d.parts.length):1≤Zeu d.parts (n:Int):=by
 unfold Zeu
 rw[Int.toNat_natCast,List.getElem?_eq_getElem hn]
 exact(g.g.w _ (List.getElem_mem hn)).1
theorem ZuB {d:Zn} (g:Zls d) {n i:Nat} (hi:i<nt d n):1≤cut d n (i+1)∧cut d n (i+1)≤Zeu d.parts (n:Int)-1:=by
 obtain⟨_,_,h3,h4,h5⟩:=Zfm g hi
 have:=(g.f _ h5).2
 rw[h3,h4] at this
 exact this
theorem ZxW {d:Zn} (g:Zda d) {n:Nat} (hn:n<d.parts.length) {i:Nat} (hi:i≤nt d n):1≤cut d n (i+1)-cut d n i:=by
 have hw:=Zy7 g hn
 by_cases hl:i<nt d n
 ·have h1:=ZuB g.g hl
  cases i with
  | zero=>have:cut d n 0=0:=rfl;omega
  | succ j=>
   have:=Zm2 g.g (show j<j+1 by omega) hl
   rw[(Zfm g.g (show j<nt d n by omega)).2.2.2.1,(Zfm g.g hl).2.2.2.1] at this
   omega
 ·have:i=nt d n:=by omega
  subst this
  rw[Znn]
  cases h0:nt d n with
  | zero=>have:cut d n 0=0:=rfl;omega
  | succ j=>
   have:=ZuB g.g (show j<nt d n by omega)
   omega
theorem ZwN {d:Zn} (g:Zda d) {n:Nat} (hn:n<d.parts.length):∀x∈Zh7 d n,1≤x:=fun x hx=>by
 unfold Zh7 ZhU at hx
 obtain⟨i,hi,rfl⟩:=List.mem_map.1 hx
 rw[List.mem_range] at hi
 exact ZxW g hn (by omega)
theorem Zpu (d:Zn) (n:Nat):∀k,(ZhU d n k).sum=cut d n k
 | 0=>rfl
 | k+1=>by
  rw[Zod,List.sum_append,Zpu d n k]
  simp only[List.sum_cons,List.sum_nil]
  omega
theorem ZvR (d:Zn) (n:Nat):(Zh7 d n).sum=Zeu d.parts (n:Int):=by unfold Zh7;rw[Zpu,Znn]
def Zmw (d:Zn):Nat→Int
 | 0=>0
 | k+1=>Zmw d k+Zeu d.parts (k:Int)
theorem Zq0 (d:Zn):∀k,(Zgw d k).sum=Zmw d k
 | 0=>rfl
 | k+1=>by
  rw[show Zgw d (k+1)=Zgw d k++Zh7 d k from ZcT _ k,List.sum_append,Zq0 d k,ZvR]
  rfl
theorem Zpb (d:Zn):(ZcS d).sum=Zmw d d.parts.length+(d.barriers.length:Int):=by
 have:∀n:Nat,(List.replicate n (1:Int)).sum=(n:Int):=by
  intro n
  induction n with
  | zero=>rfl
  | succ n ih=>rw[List.replicate_succ,List.sum_cons,ih];omega
 unfold ZcS
 rw[List.sum_append,Zq0,this]
theorem ZqI {d:Zn} (g:Zda d):∀x∈ZcS d,1≤x:=fun x hx=>by
 unfold ZcS at hx
 rcases List.mem_append.1 hx with hx | hx
 ·unfold Zgw upto at hx
  obtain⟨n,hn,hx⟩:=List.mem_flatMap.1 hx
  exact ZwN g (List.mem_range.1 hn) x hx
 ·rw[(List.mem_replicate.1 hx).2];exact Int.le_refl _
theorem ZxK (d:Zn) (g:Zls d) (n:Nat):nt d n=d.futures.countP fun f=>f.user==(n:Int):=by
 show(tch d n).length=_
 rw[Zqm (ZmC g n)]
 unfold Zow
 rw[Znp]
theorem ZqF {γ:Type} (p q r:γ→Bool) (h:∀x,r x=(p x || q x)) (h2:∀x,¬(p x=true∧q x=true)):∀l:List γ,l.countP r=l.countP p+l.countP q
 | []=>rfl
 | x :: l=>by
  rw[List.countP_cons,List.countP_cons,List.countP_cons,ZqF p q r h h2 l,h x]
  have:=h2 x
  cases hp:p x<;>cases hq:q x<;>simp_all<;>omega
theorem Znh {d:Zn} (g:Zda d):∀k,ZR d k=k+d.futures.countP fun f=>decide (0≤f.user)&&decide (f.user<(k:Int))
 | 0=>by
  have:(d.futures.countP fun f=>decide (0≤f.user)&&decide (f.user<((0:Nat):Int)))=0:=by
   rw[List.countP_eq_zero]
   intro f _
   simp only[Bool.and_eq_true,decide_eq_true_eq]
   omega
  rw[this];rfl
 | k+1=>by
  rw[ZqF (fun f:Zk=>decide (0≤f.user)&&decide (f.user<(k:Int))) (fun f=>f.user==(k:Int)) (fun f=>decide (0≤f.user)&&decide (f.user<((k+1:Nat):Int))) (fun f=>by
   rw[Bool.eq_iff_iff]
   simp only[Bool.and_eq_true,Bool.or_eq_true,decide_eq_true_eq,beq_iff_eq]
   omega) (fun f=>by
   simp only[Bool.and_eq_true,decide_eq_true_eq,beq_iff_eq]
   omega)]
  show ZR d k+(nt d k+1)=_
  rw[Znh g k,ZxK d g.g k]
  omega
theorem Zh6 {d:Zn} (g:Zda d):ZR d d.parts.length=d.parts.length+d.futures.length:=by
 rw[Znh g,List.countP_eq_length.2 fun f hf=>?_]
 have:=g.user hf
 have h1:=this.1
 have h2:=this.2
 simp only[Bool.and_eq_true,decide_eq_true_eq]
 omega
theorem Zid {d:Zn} (g:Zda d):(ZcS d).length=d.parts.length+d.futures.length+d.barriers.length:=by
 unfold ZcS
 rw[List.length_append,ZfY,List.length_replicate,Zh6 g]
theorem ZAU (l:List Int) (hl:l.length≤1000) (hb:∀x∈l,0≤x∧x≤1000000) (step:Int×Int→Option ((Int×Int)⊕Int))
  (h1:∀(i:Nat) x s,i<l.length→l[i]? = some x→step (s,(i:Int))=some (.inl (w64 (s+x),((i+1:Nat):Int)))) (h2:∀s,step (s,(l.length:Int))=some (.inr s)) (s:Int) (hs:0≤s∧s≤1000000):lp step (s,0)=some (s+l.sum):=by
 have key:=(Zpa l step (fun i s=>(s,(i:Int))) (fun _ s x=>s+x) id (fun i s=>0≤s∧s≤1000000+1000000*i) (fun i x s hi hx hI=>by
  have:=hb x (List.mem_of_getElem? hx)
  refine⟨?_,by omega⟩
  rw[h1 i x s hi hx,ZdI (by omega) (by omega)]) (fun s _=>h2 s) s (by omega)).1
 have e:∀(l:List Int) (i:Nat) (s:Int),ZhS (fun _ s x=>s+x) i s l=s+l.sum:=by
  intro l
  induction l with
  | nil=>intro i s;simp[ZhS]
  | cons x l ih=>intro i s;show ZhS _ (i+1) (s+x) l=_;rw[ih,List.sum_cons];omega
 rw[e] at key
 exact key
theorem ZpU {g:ZbS} (h:Zg8 g=0):Zhw g=some g.work.sum:=by
 have hG:=(Zkn h).1
 unfold Zhw
 rw[Zmm g hG.short,h]
 have:=ZAU g.work (by have:=hG.wl;omega) (fun x hx=>by have:=hG.w x hx;omega) (ZfQ g) (fun i x s hi hx=>by
  simp only[ZfQ,Zha hi,cond_true,Zcp hx,Option.bind_some,Za1 hi hG.short.w]) (fun s=>by simp only[ZfQ,Zib,cond_false]) 0 (by omega)
 simp only[Option.bind_some,beq_self_eq_true,cond_true,this,Int.zero_add]
theorem Ztx (d:Zn):(Zrm d=(Za5 d,0)∧Zes d=0∧Zg8 (Za5 d).dag=0)∨((Zrm d).1=⟨⟨[],[]⟩,[]⟩∧(Zrm d).2≠0):=by
 unfold Zrm
 by_cases hc:Zes d=0
 ·rw[hc]
  by_cases hk:Zg8 (Za5 d).dag=0
  ·rw[hk];exact .inl ⟨rfl,rfl,rfl⟩
  ·rw[beq_false_of_ne hk];exact .inr ⟨rfl,by show(70:Int)≠0;omega⟩
 ·rw[beq_false_of_ne hc];exact .inr ⟨rfl,hc⟩
end Go.Proofs.YtljgncbdagmeeaaDoor
namespace Go.Proofs.YtljgncbdagmeeaaDoor
open Go Go.Proofs.YtljgncbdagmeeaaDoorE Go.Sort
set_option linter.unusedVariables false
set_option linter.unusedSimpArgs false
set_option maxRecDepth 20000
def ZgB:Int→Int→Option Int:=fun x y=>some (bif decide (x<y) then (-1:Int) else 0)
theorem Zc8 (x y:Int):Z8 x y=some (decide (x<y)):=by
 unfold Z8 Zgd
 simp only[bne_self_eq_false,cond_false,Option.bind_some]
 cases decide (x<y)<;>rfl
theorem Zdf (x y:Int):ZgB x y=some (bif decide (x<y) then (-1:Int) else 0):=rfl
theorem Zb0 (b:Bool):decide ((bif b then (-1:Int) else 0)<0)=b:=by cases b<;>rfl
theorem ZG (b:Int):Zbp b=Z3 b ZgB:=by
 funext s
 simp only[Zbp,Z3,Zc8,Zdf,Zb0,Option.bind_some]
theorem ZI (b:Int) (c:Int):Zbo b c=Zak b c ZgB:=by
 funext s
 simp only[Zbo,Zak,Zc8,Zdf,Zb0,Option.bind_some,ZG]
theorem ZY (b:Int) (c:Int) (m:List Int):Zat b c m=Z4 b c ZgB m:=by
 simp only[Zat,Z4,Zc8,Zdf,Zb0,Option.bind_some,ZG,ZI]
theorem Zai (c:Int) (d:Int):ZbW c d=ZM c d ZgB:=by
 funext s
 simp only[ZbW,ZM,Zc8,Zdf,Zb0,Option.bind_some,ZG,ZI,ZY]
theorem Zbb (b:Int) (c:Int) (d:Int) (m:List Int):ZbE b c d m=ZaK b c d ZgB m:=by
 simp only[ZbE,ZaK,Zc8,Zdf,Zb0,Option.bind_some,ZG,ZI,ZY,Zai]
theorem Zao (b:Int) (c:Int):ZbT b c=ZaG b c ZgB:=by
 funext s
 simp only[ZbT,ZaG,Zc8,Zdf,Zb0,Option.bind_some,ZG,ZI,ZY,Zai,Zbb]
theorem Zaw (b:Int):ZbV b=ZaJ b ZgB:=by
 funext s
 simp only[ZbV,ZaJ,Zc8,Zdf,Zb0,Option.bind_some,ZG,ZI,ZY,Zai,Zbb,Zao]
theorem Zbt (b:Int) (c:Int) (m:List Int):Za3 b c m=Zag b c ZgB m:=by
 simp only[Za3,Zag,Zc8,Zdf,Zb0,Option.bind_some,ZG,ZI,ZY,Zai,Zbb,Zao,Zaw]
theorem ZcE (b:Int) (c:Int) (m:List Int) (k:Int):Zbw b c m k=ZaX b c ZgB m k:=by
 simp only[Zbw,ZaX,Zc8,Zdf,Zb0,Option.bind_some,ZG,ZI,ZY,Zai,Zbb,Zao,Zaw,Zbt]
theorem ZcY (b:Int) (c:Int) (d:Int) (m:List Int) (k:Int):Zbx b c d m k=ZaW b c d ZgB m k:=by
 simp only[Zbx,ZaW,Zc8,Zdf,Zb0,Option.bind_some,ZG,ZI,ZY,Zai,Zbb,Zao,Zaw,Zbt,ZcE]
theorem Zaj (b:Int) (m:List Int) (k:Int):ZaM b m k=Zad b ZgB m k:=by
 simp only[ZaM,Zad,Zc8,Zdf,Zb0,Option.bind_some,ZG,ZI,ZY,Zai,Zbb,Zao,Zaw,Zbt,ZcE,ZcY]
theorem Za6 (b:Int) (c:Int) (m:List Int):ZaI b c m=ZU b c ZgB m:=by
 simp only[ZaI,ZU,Zc8,Zdf,Zb0,Option.bind_some,ZG,ZI,ZY,Zai,Zbb,Zao,Zaw,Zbt,ZcE,ZcY,Zaj]
theorem Zap  : Zbu  = Zaa :=by
 funext s
 simp only[Zbu,Zaa,Zc8,Zdf,Zb0,Option.bind_some,ZG,ZI,ZY,Zai,Zbb,Zao,Zaw,Zbt,ZcE,ZcY,Zaj,Za6]
theorem Za9 (b:Int) (c:Int) (m:List Int):ZaB b c m=ZO b c ZgB m:=by
 simp only[ZaB,ZO,Zc8,Zdf,Zb0,Option.bind_some,ZG,ZI,ZY,Zai,Zbb,Zao,Zaw,Zbt,ZcE,ZcY,Zaj,Za6,Zap]
theorem ZW (c:Int):ZaT c=ZK c ZgB:=by
 funext s s1
 simp only[ZaT,ZK,Zc8,Zdf,Zb0,Option.bind_some,ZG,ZI,ZY,Zai,Zbb,Zao,Zaw,Zbt,ZcE,ZcY,Zaj,Za6,Zap,Za9]
theorem Z5  : ZaQ  = ZT ZgB:=by
 funext s
 simp only[ZaQ,ZT,Zc8,Zdf,Zb0,Option.bind_some,ZG,ZI,ZY,Zai,Zbb,Zao,Zaw,Zbt,ZcE,ZcY,Zaj,Za6,Zap,Za9,ZW]
theorem Z9 (c:Int):Zan c=ZH c ZgB:=by
 funext s
 simp only[Zan,ZH,Zc8,Zdf,Zb0,Option.bind_some,ZG,ZI,ZY,Zai,Zbb,Zao,Zaw,Zbt,ZcE,ZcY,Zaj,Za6,Zap,Za9,ZW,Z5]
theorem Zac (b:Int) (c:Int):ZaS b c=ZS b c ZgB:=by
 funext s
 simp only[ZaS,ZS,Zc8,Zdf,Zb0,Option.bind_some,ZG,ZI,ZY,Zai,Zbb,Zao,Zaw,Zbt,ZcE,ZcY,Zaj,Za6,Zap,Za9,ZW,Z5,Z9]
theorem Zas (b:Int) (c:Int) (m:List Int):ZaF b c m=ZP b c ZgB m:=by
 simp only[ZaF,ZP,Zc8,Zdf,Zb0,Option.bind_some,ZG,ZI,ZY,Zai,Zbb,Zao,Zaw,Zbt,ZcE,ZcY,Zaj,Za6,Zap,Za9,ZW,Z5,Z9,Zac]
theorem ZcL (b:Int) (c:Int) (d:Int) (m:List Int) (x:Int) (y:Int):ZbN b c d m x y=ZaC b c d m ZgB x y:=by
 funext k
 simp only[ZbN,ZaC,Zc8,Zdf,Zb0,Option.bind_some,ZG,ZI,ZY,Zai,Zbb,Zao,Zaw,Zbt,ZcE,ZcY,Zaj,Za6,Zap,Za9,ZW,Z5,Z9,Zac,Zas]
theorem Zc5 (b:Int) (d:Int) (m:List Int) (x:Int) (y:Int) (r:Int):ZbG b d m x y r=ZaA b d m ZgB x y r:=by
 funext k
 simp only[ZbG,ZaA,Zc8,Zdf,Zb0,Option.bind_some,ZG,ZI,ZY,Zai,Zbb,Zao,Zaw,Zbt,ZcE,ZcY,Zaj,Za6,Zap,Za9,ZW,Z5,Z9,Zac,Zas,ZcL]
theorem Zdz (b:Int) (s:Int×Int×List Int):ZbH b s=ZaD b ZgB s:=by
 funext k
 simp only[ZbH,ZaD,Zc8,Zdf,Zb0,Option.bind_some,ZG,ZI,ZY,Zai,Zbb,Zao,Zaw,Zbt,ZcE,ZcY,Zaj,Za6,Zap,Za9,ZW,Z5,Z9,Zac,Zas,ZcL,Zc5]
theorem Zd8 (b:Int) (r:Int) (s:Int×Int×List Int):ZbK b s r=Zaz b ZgB s r:=by
 funext k
 simp only[ZbK,Zaz,Zc8,Zdf,Zb0,Option.bind_some,ZG,ZI,ZY,Zai,Zbb,Zao,Zaw,Zbt,ZcE,ZcY,Zaj,Za6,Zap,Za9,ZW,Z5,Z9,Zac,Zas,ZcL,Zc5,Zdz]
theorem ZeX (b:Int):ZbL b=ZaZ b ZgB:=by
 funext s
 simp only[ZbL,ZaZ,Zc8,Zdf,Zb0,Option.bind_some,ZG,ZI,ZY,Zai,Zbb,Zao,Zaw,Zbt,ZcE,ZcY,Zaj,Za6,Zap,Za9,ZW,Z5,Z9,Zac,Zas,ZcL,Zc5,Zdz,Zd8]
theorem ZgE (b:Int) (c:Int) (d:Int) (m:List Int):Zv b c d m=Zr b c d ZgB m:=by
 simp only[Zv,Zr,Zc8,Zdf,Zb0,Option.bind_some,ZG,ZI,ZY,Zai,Zbb,Zao,Zaw,Zbt,ZcE,ZcY,Zaj,Za6,Zap,Za9,ZW,Z5,Z9,Zac,Zas,ZcL,Zc5,Zdz,Zd8,ZeX]
theorem Zey (b:Int) (s:Int×Int×List Int):Zbi b s=Zae b ZgB s:=by
 funext k
 simp only[Zbi,Zae,Zc8,Zdf,Zb0,Option.bind_some,ZG,ZI,ZY,Zai,Zbb,Zao,Zaw,Zbt,ZcE,ZcY,Zaj,Za6,Zap,Za9,ZW,Z5,Z9,Zac,Zas,ZcL,Zc5,Zdz,Zd8,ZeX,ZgE]
theorem ZfO (b:Int) (r:Int) (s:Int×Int×List Int):Zbj b s r=Zaf b ZgB s r:=by
 funext k
 simp only[Zbj,Zaf,Zc8,Zdf,Zb0,Option.bind_some,ZG,ZI,ZY,Zai,Zbb,Zao,Zaw,Zbt,ZcE,ZcY,Zaj,Za6,Zap,Za9,ZW,Z5,Z9,Zac,Zas,ZcL,Zc5,Zdz,Zd8,ZeX,ZgE,Zey]
theorem Zg6 (b:Int):Zbk b=Zar b ZgB:=by
 funext s
 simp only[Zbk,Zar,Zc8,Zdf,Zb0,Option.bind_some,ZG,ZI,ZY,Zai,Zbb,Zao,Zaw,Zbt,ZcE,ZcY,Zaj,Za6,Zap,Za9,ZW,Z5,Z9,Zac,Zas,ZcL,Zc5,Zdz,Zd8,ZeX,ZgE,Zey,ZfO]
theorem Zh9 (b:Int) (c:Int) (d:Int) (m:List Int):ZL b c d m=ZD b c d ZgB m:=by
 simp only[ZL,ZD,Zc8,Zdf,Zb0,Option.bind_some,ZG,ZI,ZY,Zai,Zbb,Zao,Zaw,Zbt,ZcE,ZcY,Zaj,Za6,Zap,Za9,ZW,Z5,Z9,Zac,Zas,ZcL,Zc5,Zdz,Zd8,ZeX,ZgE,Zey,ZfO,Zg6]
theorem Zmr (b:Int) (c:Int) (x:Int):Zbq b c x=Zax b c x:=by
 funext s
 simp only[Zbq,Zax,Zc8,Zdf,Zb0,Option.bind_some,ZG,ZI,ZY,Zai,Zbb,Zao,Zaw,Zbt,ZcE,ZcY,Zaj,Za6,Zap,Za9,ZW,Z5,Z9,Zac,Zas,ZcL,Zc5,Zdz,Zd8,ZeX,ZgE,Zey,ZfO,Zg6,Zh9]
theorem Zot (b:Int) (c:Int) (m:List Int):Zbd b c m=Zah b c ZgB m:=by
 simp only[Zbd,Zah,Zc8,Zdf,Zb0,Option.bind_some,ZG,ZI,ZY,Zai,Zbb,Zao,Zaw,Zbt,ZcE,ZcY,Zaj,Za6,Zap,Za9,ZW,Z5,Z9,Zac,Zas,ZcL,Zc5,Zdz,Zd8,ZeX,ZgE,Zey,ZfO,Zg6,Zh9,Zmr]
theorem ZwM (rc:Int→Int→Int→(Int→Int→Option Int)→List Int→Option (List Int)) (rc':Int→Int→Int→List Int→Option (List Int)) (h:∀a b c l,rc' a b c l=rc a b c ZgB l):Zb3 rc'=ZV ZgB rc:=by
 funext s
 simp only[Zb3,ZV,Zc8,Zdf,Zb0,Option.bind_some,h,ZY,Zbb,Zbt,ZcE,ZcY,Zaj,Za6,Za9,Zas,ZgE,Zh9,Zot]
theorem Zvf:∀(n:Nat) (a b c:Int) (l:List Int),Zbf n a b c l=Z0 n a b c ZgB l
 | 0,_,_,_,_=>rfl
 | n+1,a,b,c,l=>by
  show Zb7 (Zbf n) a b c l=ZaE (Z0 n) a b c ZgB l
  unfold Zb7 ZaE
  rw[ZwM (Z0 n) (Zbf n) (Zvf n)]
theorem Zwl (l:List Int):Zcy l=ZaN ZgB l:=by
 unfold Zcy ZaN ZeF Zdu
 simp only[Zvf]
theorem Zvn (l:List Int) (hl:l.length≤1000):∃r:List Int,Zcy l=some r∧r.Perm l∧r.Pairwise (fun x y=>x≤y):=by
 have hc:Zqj ZgB (fun x y=>bif decide (x<y) then (-1:Int) else 0) (fun _=>True):=fun x y _ _=>rfl
 have e:∀x y:Int,ltC (fun x y=>bif decide (x<y) then (-1:Int) else 0) x y=decide (x<y):=fun x y=>Zb0 _
 have hs:SWO (ltC fun x y=>bif decide (x<y) then (-1:Int) else 0):=by
  refine⟨fun x=>?_,fun x y z h1 h2=>?_,fun x y z h1 h2=>?_⟩<;>simp only[e,decide_eq_true_eq,decide_eq_false_iff_not] at *<;>omega
 obtain⟨r,h1,h2,h3⟩:=ZxL hc hs l hl (fun _ _=>trivial)
 refine⟨r,(Zwl l).trans h1,h2,h3.imp fun {x y} h=>?_⟩
 rw[e,decide_eq_false_iff_not] at h
 omega
end Go.Proofs.YtljgncbdagmeeaaDoor
namespace Go.Proofs.YtljgncbdagmeeaaDoor
open Go Go.Proofs.YtljgncbdagmeeaaDoorE
set_option linter.unusedVariables false
set_option linter.unusedSimpArgs false
theorem Zzn {g:ZbS} (h:ZiI g) (n:Int):∃r,Zis g n=some r∧(∀z,z∈r↔∃e∈g.edges,e.dst=n∧e.src=z)∧r.length≤256:=by
 have hel:=h.el
 have key:=ZxO g.edges (by omega) (fun e:Zo=>e.dst==n) (fun _ e=>e.src) (ZgX g fun z0=>Zfz z0 n) (fun i x s hi hx=>by
  simp only[ZgX,Zha hi,cond_true,Zcp hx,Option.bind_some,Zfz,Za1 hi h.short.e]
  cases x.dst==n<;>rfl) (fun s=>by simp only[ZgX,Zib,cond_false]) [] (by simp)
 rw[List.nil_append] at key
 have hlen:(sel (fun e:Zo=>e.dst==n) (fun _ e=>e.src) 0 g.edges).length≤256:=Nat.le_trans (Zvz _ _ _ _) hel
 obtain⟨r,h1,h2,_⟩:=Zvn _ (Nat.le_trans hlen (by omega))
 refine⟨r,?_,fun z=>?_,by rw[h2.length_eq];exact hlen⟩
 ·unfold Zis ZlD
  simp only[key,Option.bind_some,h1]
 ·rw[h2.mem_iff,ZoC]
  constructor
  ·rintro ⟨j,x,hx,h3,h4⟩
   exact⟨x,List.mem_of_getElem? hx,by simpa using h3,h4.symm⟩
  ·rintro ⟨e,he,h3,h4⟩
   obtain⟨j,hj⟩:=List.getElem?_of_mem he
   exact⟨j,e,hj,by simpa using h3,h4.symm⟩
theorem Zr1 {g:ZbS} (h:Zg8 g=0):∃l,Zim g=some l∧ZBQ g l:=by
 obtain⟨hG,hA⟩:=Zkn h
 obtain⟨l,h1,h2⟩:=Zqq hG hA
 refine⟨l,?_,h2⟩
 unfold Zim
 rw[Zmm g hG.short,h,Option.bind_some]
 simp only[bne_self_eq_false,cond_false,h1,Option.bind_some,cond_true]
end Go.Proofs.YtljgncbdagmeeaaDoor
namespace Go.Proofs.YtljgncbdagmeeaaDoor
open Go Go.Proofs.YtljgncbdagmeeaaDoorE
set_option linter.unusedVariables false
set_option linter.unusedSimpArgs false
theorem Zsz (d:Zn) {m n:Nat} (h:m≤n):ZR d m≤ZR d n:=by
  induction n with
  | zero => have : m = 0 := by omega
            subst this;exact Nat.le_refl _
  | succ n ih=>
    by_cases hm:m=n+1
    · subst hm;exact Nat.le_refl _
    · have:=ih (by omega)
      show ZR d m≤ZR d n+(nt d n+1)
      omega
theorem ZjG (d:Zn) (n:Nat):ZR d (n+1)=ZR d n+nt d n+1:=by show ZR d n+(nt d n+1)=_;omega
theorem ZdH (d:Zn) {m n j:Nat} (h:m<n) (hj:j≤nt d m):ZR d m+j<ZR d n:=by
  have:=Zsz d (show m+1≤n by omega)
  have:=ZjG d m
  omega
theorem ZgU (d:Zn) {m n i j:Nat} (hi:i≤nt d m) (hj:j≤nt d n) (h:ZR d m+i=ZR d n+j):m=n∧i=j:=by
  rcases Nat.lt_trichotomy m n with hlt | heq | hlt
  · have:=ZdH d hlt hi;omega
  · subst heq;exact⟨rfl,by omega⟩
  · have:=ZdH d hlt hj;omega
theorem Zr9 (d:Zn):∀(k n j:Nat),n<k→j≤nt d n→(Zgw d k)[ZR d n+j]? = some (cut d n (j+1)-cut d n j)
  | 0,n,j,h,_=>absurd h (by omega)
  | k+1,n,j,h,hj=>by
    rw[show Zgw d (k+1)=Zgw d k++Zh7 d k from ZcT _ k]
    by_cases hn:n<k
    · rw[List.getElem?_append_left (by rw[ZfY];exact ZdH d hn hj)]
      exact Zr9 d k n j hn hj
    · have:n=k:=by omega
      subst this
      rw[List.getElem?_append_right (by rw[ZfY];omega),ZfY,Nat.add_sub_cancel_left]
      unfold Zh7 ZhU
      rw[List.getElem?_map,List.getElem?_range (by omega)]
      rfl
theorem ZrY {d:Zn}{n j:Nat} (hn:n<d.parts.length) (hj:j≤nt d n):(ZcS d)[ZR d n+j]? = some (cut d n (j+1)-cut d n j):=by
  unfold ZcS
  rw[List.getElem?_append_left (by rw[ZfY];exact ZdH d hn hj)]
  exact Zr9 d _ n j hn hj
theorem Zq4 {d:Zn}{n j:Nat} (hn:n<d.parts.length) (hj:j<nt d n):(⟨((ZR d n+j:Nat):Int),((ZR d n+j+1:Nat):Int)⟩:Zo)∈(Za5 d).dag.edges:=by
  show _∈ZfS d
  unfold ZfS ZiD ZfT upto Zgp
  simp only[List.mem_append,List.mem_flatMap,List.mem_map,List.mem_range]
  exact .inl (.inl (.inl ⟨n,hn,j,hj,rfl⟩))
theorem Zvq {d:Zn}{e:Zo} (h:e∈d.edges):(⟨ZgD d e.src,Zfa d e.dst⟩:Zo)∈(Za5 d).dag.edges:=by
  show _∈ZfS d
  unfold ZfS ZiD Zjp
  simp only[List.mem_append,List.mem_map]
  exact .inl (.inl (.inr ⟨e,h,rfl⟩))
theorem ZqT {d:Zn}{i:Nat}{b:Zu} (h:d.barriers[i]? = some b) {x:Zo} (hx:x∈Zm4 d (ZeA d i) b):x∈(Za5 d).dag.edges:=by
  show _∈ZfS d
  unfold ZfS Zfj upto
  simp only[List.mem_append,List.mem_flatMap,List.mem_range]
  refine .inr ⟨i,(List.getElem?_eq_some_iff.1 h).1,?_⟩
  rw[h]
  exact hx
def ZvJ (g:ZbS) (a b:Int):Prop:=a=b∨Way g a b
theorem ZvJ.way {g:ZbS}{a b c:Int} (h:ZvJ g a b) (w:Way g b c):Way g a c:=by
  rcases h with rfl | h
  · exact w
  · exact h.trans w
theorem Way.ways {g:ZbS}{a b c:Int} (w:Way g a b) (h:ZvJ g b c):Way g a c:=by
  rcases h with rfl | h
  · exact w
  · exact w.trans h
theorem ZzK {d:Zn}{n i:Nat} (hn:n<d.parts.length):∀j,i≤j→j≤nt d n→ZvJ (Za5 d).dag ((ZR d n+i:Nat):Int) ((ZR d n+j:Nat):Int)
  | 0,h1,_=>.inl (by rw[show i=0 by omega])
  | j+1,h1,h2=>by
    by_cases hi:i=j+1
    · exact .inl (by rw[hi])
    · exact .inr ((ZzK hn j (by omega) (by omega)).way (Way.one (Zq4 hn (show j<nt d n by omega))))
theorem ZAI {d:Zn}{z:Int} (h:inR d z):ZvJ (Za5 d).dag (Zfa d z) (ZgD d z):=by
  have:=ZzK h.2 (nt d z.toNat) (Nat.zero_le _) (Nat.le_refl _)
  rw[Nat.add_zero] at this
  unfold Zfa ZgD
  rw[ZjG]
  rwa [show(((ZR d z.toNat+nt d z.toNat+1:Nat):Int)-1)=((ZR d z.toNat+nt d z.toNat:Nat):Int) by omega]
end Go.Proofs.YtljgncbdagmeeaaDoor
namespace Go.Proofs.YtljgncbdagmeeaaDoor
open Go Go.Proofs.YtljgncbdagmeeaaDoorE
set_option linter.unusedVariables false
set_option linter.unusedSimpArgs false
theorem Zh5 (d:Zn) (z:Int):Zfa d z=((ZR d z.toNat+0:Nat):Int):=rfl
theorem Zip (d:Zn) (z:Int):ZgD d z=((ZR d z.toNat+nt d z.toNat:Nat):Int):=by unfold ZgD;rw[ZjG];omega
theorem ZgZ {γ δ:Type} (f:γ→δ):∀l:List γ,l.Nodup→(∀x∈l,∀y∈l,f x=f y→x=y)→(l.map f).Nodup
 | [],_,_=>List.nodup_nil
 | x :: l,h,hf=>by
  rw[List.nodup_cons] at h
  rw[List.map_cons,List.nodup_cons]
  refine⟨fun hm=>?_,ZgZ f l h.2 fun a ha b hb=>hf a (by simp[ha]) b (by simp[hb])⟩
  obtain⟨y,hy,he⟩:=List.mem_map.1 hm
  have:=hf y (by simp[hy]) x (by simp) he
  exact h.1 (this ▸ hy)
theorem Zj4 {γ:Type}{l m:List γ} (h1:l.Nodup) (h2:m.Nodup) (h:∀x∈l,x∉m):(l++m).Nodup:=by
 rw[List.nodup_append]
 exact⟨h1,h2,fun a ha b hb hab=>h a ha (hab ▸ hb)⟩
theorem Zmo {γ:Type} (B:Nat→List γ):∀k,(∀n,n<k→(B n).Nodup)→(∀m n x,m<n→n<k→x∈B m→x∉B n)→(upto B k).Nodup
 | 0,_,_=>List.nodup_nil
 | k+1,h1,h2=>by
  rw[ZcT]
  refine Zj4 (Zmo B k (fun n hn=>h1 n (by omega)) fun m n x a b=>h2 m n x a (by omega)) (h1 k (by omega)) fun x hx=>?_
  unfold upto at hx
  obtain⟨m,hm,hx⟩:=List.mem_flatMap.1 hx
  exact h2 m k x (List.mem_range.1 hm) (by omega) hx
theorem ZkU {γ:Type}{l:List γ} (h:∀(i j:Nat) x,i<j→l[i]? = some x→l[j]? ≠ some x):l.Nodup:=by
 rw[List.nodup_iff_pairwise_ne,List.pairwise_iff_getElem]
 intro i j hi hj hij he
 exact h i j l[i] hij (List.getElem?_eq_getElem hi) (by rw[List.getElem?_eq_getElem hj,he])
theorem ZqC {n:Nat}{l:List Int} (h:Zk4 n l=true):l.Nodup:=by
 unfold Zk4 at h
 simp only[Bool.and_eq_true,Bool.not_eq_true'] at h
 have step:∀(j:Nat) x y,l[j]? = some x→l[j+1]? = some y→x<y:=fun j x y hx hy=>by
  have hb:Zm9 n l (j+1) y=false:=by
   cases hb:Zm9 n l (j+1) y with
   | false=>rfl
   | true=>rw[(Zio _ _ 0).2 ⟨j+1,y,hy,by simpa using hb⟩] at h;exact absurd h.1 (by simp)
  unfold Zm9 at hb
  rw[Bool.or_eq_false_iff] at hb
  have:=hb.2
  simp only[hx,decide_eq_false_iff_not] at this
  omega
 have rise:∀(j i:Nat) x y,i<j→l[i]? = some x→l[j]? = some y→x<y:=by
  intro j
  induction j with
  | zero=>intro i x y hi;omega
  | succ j ih=>
   intro i x y hi hx hy
   have hj:j<l.length:=by have:=(List.getElem?_eq_some_iff.1 hy).1;omega
   have hz:l[j]? = some l[j]:=List.getElem?_eq_getElem hj
   have h2:=step j _ y hz hy
   by_cases hij:i=j
   ·subst hij;rw[hx] at hz;have:=Option.some.inj hz;omega
   ·have:=ih i x _ (by omega) hx hz;omega
 exact ZkU fun i j x hij hx hy=>by have:=rise j i x x hij hx hy;omega
theorem Zoh {d:Zn} (h:Zes d=0):Zgs (ZeI d) 0 d.edges=false∧d.barriers.any (Zem d.parts.length)=false:=by
 unfold Zes at h
 revert h
 cases Zh0 d<;>cases ZkS d<;>cases d.parts.any Zgu<;>cases Zgs (ZeI d) 0 d.edges<;>cases Zgs (ZdO d) 0 d.futures<;>cases d.barriers.any (Zem d.parts.length)<;>simp
theorem Zsu {d:Zn} (h:Zes d=0):d.edges.Nodup:=by
 have h1:=(Zoh h).1
 refine ZkU fun i j x hij hx hy=>?_
 have hb:ZeI d j x=false:=by
  cases hb:ZeI d j x with
  | false=>rfl
  | true=>rw[(Zio _ _ 0).2 ⟨j,x,hy,by simpa using hb⟩] at h1;cases h1
 unfold ZeI at hb
 rw[Bool.or_eq_false_iff] at hb
 have:=List.any_eq_false.1 hb.2 x (List.mem_of_getElem? (i:=i) (by rw[List.getElem?_take_of_lt hij];exact hx))
 unfold Zk9 at this
 simp at this
theorem Zp8 {d:Zn} (g:Zls d):d.futures.Nodup:=ZkU fun i j x hij hx hy=>g.ne i j x x hij hx hy ⟨rfl,rfl⟩
theorem Zt5 {d:Zn} (h:Zes d=0):∀b∈d.barriers,b.ins.Nodup∧b.outs.Nodup:=fun b hb=>by
 have:=List.any_eq_false.1 (Zoh h).2 b hb
 simp only[Zem,Bool.or_eq_true,Bool.not_eq_true',not_or,Bool.not_eq_false,Bool.not_eq_true] at this
 exact⟨ZqC this.1,ZqC this.2.1⟩
def ZpT (d:Zn) (e:Zo):Prop:=∃n j,n<d.parts.length∧j<nt d n∧e=⟨((ZR d n+j:Nat):Int),((ZR d n+(j+1):Nat):Int)⟩
def Zqp (d:Zn) (e:Zo):Prop:=∃s t,s<d.parts.length∧t<d.parts.length∧s≠t∧e=⟨((ZR d s+nt d s:Nat):Int),((ZR d t+0:Nat):Int)⟩
def Zqw (d:Zn) (e:Zo):Prop:=∃m u j,m<d.parts.length∧u<d.parts.length∧m≠u∧j<nt d u∧e=⟨((ZR d m+nt d m:Nat):Int),((ZR d u+(j+1):Nat):Int)⟩
def Zqe (d:Zn) (i:Nat) (e:Zo):Prop:=∃n j,n<d.parts.length∧j≤nt d n∧(e=⟨((ZR d n+j:Nat):Int),ZeA d i⟩∨e=⟨ZeA d i,((ZR d n+j:Nat):Int)⟩)
theorem ZlC {d:Zn}{n:Nat} (hn:n<d.parts.length) {e:Zo} (h:e∈Zgp d n (nt d n)):ZpT d e∧∃j,j<nt d n∧e.src=((ZR d n+j:Nat):Int):=by
 unfold Zgp at h
 obtain⟨j,hj,rfl⟩:=List.mem_map.1 h
 rw[List.mem_range] at hj
 exact⟨⟨n,j,hn,hj,rfl⟩,j,hj,rfl⟩
theorem Ziw {d:Zn}{e:Zo} (h:e∈ZfT d d.parts.length):ZpT d e:=by
 unfold ZfT upto at h
 obtain⟨n,hn,h⟩:=List.mem_flatMap.1 h
 exact(ZlC (List.mem_range.1 hn) h).1
theorem Zjz {d:Zn} (g:Zda d) {e:Zo} (h:e∈Zjp d):Zqp d e:=by
 unfold Zjp at h
 obtain⟨x,hx,rfl⟩:=List.mem_map.1 h
 have hs:=g.src hx
 have ht:=g.dst hx
 have hne:=(Zmz (g.g.e x hx)).2.2
 exact⟨x.src.toNat,x.dst.toNat,hs.2,ht.2,fun hc=>hne (by have:=hs.1;have:=ht.1;omega),by rw[Zip,Zh5]⟩
theorem Zjv {d:Zn} (g:Zda d) {e:Zo} (h:e∈Zlg d):Zqw d e:=by
 unfold Zlg at h
 obtain⟨x,hx,rfl⟩:=List.mem_map.1 h
 have hs:=g.maker hx
 have ht:=g.user hx
 have hne:=(Zmz (g.g.f x hx).1).2.2
 obtain⟨j,hj,hje⟩:=ZmM g hx
 exact⟨x.maker.toNat,x.user.toNat,j,hs.2,ht.2,fun hc=>hne (by have:=hs.1;have:=ht.1;omega),hj,by rw[Zip,ZoD g hx hj hje];rfl⟩
theorem ZnI {d:Zn} (g:Zda d) {i:Nat}{b:Zu} (hb:b∈d.barriers) {e:Zo} (h:e∈Zm4 d (ZeA d i) b):Zqe d i e:=by
 unfold Zm4 at h
 rcases List.mem_append.1 h with h | h
 ·obtain⟨q,hq,rfl⟩:=List.mem_map.1 h
  have:=g.ins b hb q hq
  exact⟨q.toNat,nt d q.toNat,this.2,Nat.le_refl _,.inl (by rw[Zip])⟩
 ·obtain⟨q,hq,rfl⟩:=List.mem_map.1 h
  have:=g.outs b hb q hq
  exact⟨q.toNat,0,this.2,Nat.zero_le _,.inr (by rw[Zh5])⟩
theorem Zof {d:Zn} (g:Zda d) {e:Zo} (h:e∈Zfj d d.barriers.length):∃i,i<d.barriers.length∧Zqe d i e:=by
 unfold Zfj upto at h
 obtain⟨i,hi,h⟩:=List.mem_flatMap.1 h
 rw[List.mem_range] at hi
 rw[List.getElem?_eq_getElem hi] at h
 exact⟨i,hi,ZnI g (List.getElem_mem hi) h⟩
theorem Zif {a b c d:Int} (h:(⟨a,b⟩:Zo)=⟨c,d⟩):a=c∧b=d:=by cases h;exact⟨rfl,rfl⟩
theorem PE {d:Zn}{e:Zo} (h1:ZpT d e) (h2:Zqp d e):False:=by
 obtain⟨n,j,hn,hj,rfl⟩:=h1
 obtain⟨s,t,hs,ht,hne,he⟩:=h2
 have:=(Zif he).2
 have:=ZgU d (m:=n) (n:=t) (i:=j+1) (j:=0) (by omega) (by omega) (by omega)
 omega
theorem PF {d:Zn}{e:Zo} (h1:ZpT d e) (h2:Zqw d e):False:=by
 obtain⟨n,j,hn,hj,rfl⟩:=h1
 obtain⟨m,u,k,hm,hu,hne,hk,he⟩:=h2
 have:=(Zif he).1
 have:=ZgU d (m:=n) (n:=m) (i:=j) (j:=nt d m) (by omega) (by omega) (by omega)
 obtain⟨rfl,h⟩:=this
 omega
theorem EF {d:Zn}{e:Zo} (h1:Zqp d e) (h2:Zqw d e):False:=by
 obtain⟨s,t,hs,ht,hne,rfl⟩:=h1
 obtain⟨m,u,k,hm,hu,hne2,hk,he⟩:=h2
 have:=(Zif he).2
 have:=ZgU d (m:=t) (n:=u) (i:=0) (j:=k+1) (by omega) (by omega) (by omega)
 omega
def Zr8 (d:Zn) (e:Zo):Prop:=(∃i:Nat,i<ZR d d.parts.length∧e.src=(i:Int))∧∃j:Nat,j<ZR d d.parts.length∧e.dst=(j:Int)
theorem ZpT.inner {d:Zn}{e:Zo} (h:ZpT d e):Zr8 d e:=by
 obtain⟨n,j,hn,hj,rfl⟩:=h
 exact⟨⟨_,ZdH d hn (by omega),rfl⟩,⟨_,ZdH d hn (by omega),rfl⟩⟩
theorem Zqp.inner {d:Zn}{e:Zo} (h:Zqp d e):Zr8 d e:=by
 obtain⟨n,j,hn,hj,_,rfl⟩:=h
 exact⟨⟨_,ZdH d hn (by omega),rfl⟩,⟨_,ZdH d hj (by omega),rfl⟩⟩
theorem Zqw.inner {d:Zn}{e:Zo} (h:Zqw d e):Zr8 d e:=by
 obtain⟨n,j,k,hn,hj,_,hk,rfl⟩:=h
 exact⟨⟨_,ZdH d hn (by omega),rfl⟩,⟨_,ZdH d hj (by omega),rfl⟩⟩
theorem ZnG {d:Zn}{i:Nat}{e:Zo} (h:Zr8 d e) (hb:Zqe d i e):False:=by
 obtain⟨⟨a,ha,ha2⟩,⟨b,hb1,hb2⟩⟩:=h
 obtain⟨n,j,hn,hj,rfl | rfl⟩:=hb
 ·have:ZeA d i=(b:Int):=hb2
  unfold ZeA at this
  omega
 ·have:ZeA d i=(a:Int):=ha2
  unfold ZeA at this
  omega
theorem Zzi {d:Zn}{i k:Nat}{e:Zo} (h1:Zqe d i e) (h2:Zqe d k e):i=k:=by
 obtain⟨n,j,hn,hj,h1⟩:=h1
 obtain⟨m,l,hm,hl,h2⟩:=h2
 have a1:=ZdH d hn hj
 have a2:=ZdH d hm hl
 unfold ZeA at h1 h2
 rcases h1 with rfl | rfl<;>rcases h2 with h2 | h2<;>have:=Zif h2<;>omega
theorem ZqJ {d:Zn}{a b:Int} (ha:inR d a) (hb:inR d b) (h:ZgD d a=ZgD d b):a=b:=by
 rw[Zip,Zip] at h
 have:=(ZgU d (Nat.le_refl _) (Nat.le_refl _) (Int.ofNat.inj h)).1
 have:=ha.1;have:=hb.1
 omega
theorem Zpo {d:Zn}{a b:Int} (ha:inR d a) (hb:inR d b) (h:Zfa d a=Zfa d b):a=b:=by
 rw[Zh5,Zh5] at h
 have:=(ZgU d (Nat.zero_le _) (Nat.zero_le _) (Int.ofNat.inj h)).1
 have:=ha.1;have:=hb.1
 omega
theorem ZrM {d:Zn} (hc:Zes d=0):(ZfS d).Nodup:=by
 have g:=Zjc hc
 unfold ZfS ZiD
 refine Zj4 (Zj4 (Zj4 ?_ ?_ ?_) ?_ ?_) ?_ ?_
 ·unfold ZfT
  refine Zmo _ _ (fun n hn=>?_) fun m n x hmn hn hx hy=>?_
  ·unfold Zgp
   refine ZgZ _ _ List.nodup_range fun a ha b hb hab=>?_
   have:=(Zif hab).1
   omega
  ·obtain⟨_,j,hj,h1⟩:=ZlC (show m<d.parts.length by omega) hx
   obtain⟨_,k,hk,h2⟩:=ZlC hn hy
   have:=ZgU d (m:=m) (n:=n) (i:=j) (j:=k) (by omega) (by omega) (by omega)
   omega
 ·unfold Zjp
  refine ZgZ _ _ (Zsu hc) fun a ha b hb hab=>?_
  obtain⟨h1,h2⟩:=Zif hab
  have e1:=ZqJ (g.src ha) (g.src hb) h1
  have e2:=Zpo (g.dst ha) (g.dst hb) h2
  cases a;cases b
  simp only at e1 e2
  rw[e1,e2]
 ·exact fun x hx hy=>PE (Ziw hx) (Zjz g hy)
 ·unfold Zlg
  refine ZgZ _ _ (Zp8 g.g) fun a ha b hb hab=>?_
  obtain⟨_,h2⟩:=Zif hab
  obtain⟨j,hj,hje⟩:=ZmM g ha
  obtain⟨k,hk,hke⟩:=ZmM g hb
  rw[ZoD g ha hj hje,ZoD g hb hk hke] at h2
  have:=ZgU d (m:=a.user.toNat) (n:=b.user.toNat) (i:=j+1) (j:=k+1) (by omega) (by omega) (by omega)
  obtain⟨e1,e2⟩:=this
  rw[← hje,← hke,e1,show j=k by omega]
 ·intro x hx hy
  rcases List.mem_append.1 hx with hx | hx
  ·exact PF (Ziw hx) (Zjv g hy)
  ·exact EF (Zjz g hx) (Zjv g hy)
 ·unfold Zfj
  refine Zmo _ _ (fun i hi=>?_) fun m n x hmn hn hx hy=>?_
  ·rw[List.getElem?_eq_getElem hi]
   have hm:=List.getElem_mem hi
   obtain⟨r1,r2⟩:=Zt5 hc _ hm
   show(Zm4 d (ZeA d i) d.barriers[i]).Nodup
   unfold Zm4
   refine Zj4 (ZgZ _ _ r1 fun a ha b hb hab=>?_) (ZgZ _ _ r2 fun a ha b hb hab=>?_) fun x hx hy=>?_
   ·exact ZqJ (g.ins _ hm a ha) (g.ins _ hm b hb) (Zif hab).1
   ·exact Zpo (g.outs _ hm a ha) (g.outs _ hm b hb) (Zif hab).2
   ·obtain⟨a,ha,rfl⟩:=List.mem_map.1 hx
    obtain⟨b,hb,hab⟩:=List.mem_map.1 hy
    have h1:=(Zif hab).1
    have hq:=g.ins _ hm a ha
    rw[Zip] at h1
    have:=ZdH d hq.2 (Nat.le_refl (nt d a.toNat))
    unfold ZeA at h1
    omega
  ·have hm':m<d.barriers.length:=by omega
   rw[List.getElem?_eq_getElem hm'] at hx
   rw[List.getElem?_eq_getElem hn] at hy
   have:=Zzi (ZnI g (List.getElem_mem hm') hx) (ZnI g (List.getElem_mem hn) hy)
   omega
 ·intro x hx hy
  obtain⟨i,hi,hb⟩:=Zof g hy
  rcases List.mem_append.1 hx with hx | hx
  ·rcases List.mem_append.1 hx with hx | hx
   ·exact ZnG (Ziw hx).inner hb
   ·exact ZnG (Zjz g hx).inner hb
  ·exact ZnG (Zjv g hx).inner hb
theorem Zre {d:Zn} (g:Zda d) {e:Zo} (h:e∈ZfS d):ZpT d e∨Zqp d e∨Zqw d e∨∃i,i<d.barriers.length∧Zqe d i e:=by
 unfold ZfS ZiD at h
 rcases List.mem_append.1 h with h | h
 ·rcases List.mem_append.1 h with h | h
  ·rcases List.mem_append.1 h with h | h
   ·exact .inl (Ziw h)
   ·exact .inr (.inl (Zjz g h))
  ·exact .inr (.inr (.inl (Zjv g h)))
 ·exact .inr (.inr (.inr (Zof g h)))
theorem ZsM {d:Zn} (g:Zda d) {e:Zo} (h:e∈ZfS d):Zg7 (ZcS d).length e.src=true∧Zg7 (ZcS d).length e.dst=true∧e.src≠e.dst:=by
 have hl:(ZcS d).length=ZR d d.parts.length+d.barriers.length:=by rw[Zid g,Zh6 g]
 have inn:Zr8 d e→Zg7 (ZcS d).length e.src=true∧Zg7 (ZcS d).length e.dst=true:=by
  rintro ⟨⟨i,h1,h2⟩,j,h3,h4⟩
  unfold Zg7
  simp only[Bool.and_eq_true,decide_eq_true_eq]
  omega
 rcases Zre g h with hk | hk | hk | ⟨i,hi,hk⟩
 ·refine⟨(inn hk.inner).1,(inn hk.inner).2,?_⟩
  obtain⟨n,j,hn,hj,rfl⟩:=hk
  show((ZR d n+j:Nat):Int)≠((ZR d n+(j+1):Nat):Int)
  omega
 ·refine⟨(inn hk.inner).1,(inn hk.inner).2,?_⟩
  obtain⟨s,t,hs,ht,hne,rfl⟩:=hk
  intro hc
  exact hne (ZgU d (Nat.le_refl _) (Nat.zero_le _) (Int.ofNat.inj hc)).1
 ·refine⟨(inn hk.inner).1,(inn hk.inner).2,?_⟩
  obtain⟨m,u,j,hm,hu,hne,hj,rfl⟩:=hk
  intro hc
  exact hne (ZgU d (Nat.le_refl _) (show j+1≤nt d u by omega) (Int.ofNat.inj hc)).1
 ·obtain⟨n,j,hn,hj,hk⟩:=hk
  have:=ZdH d hn hj
  unfold Zg7 ZeA at *
  simp only[Bool.and_eq_true,decide_eq_true_eq]
  rcases hk with rfl | rfl
  ·show(_∧_)∧(_∧_)∧((ZR d n+j:Nat):Int)≠((ZR d d.parts.length+i:Nat):Int)
   simp only
   omega
  ·show(_∧_)∧(_∧_)∧((ZR d d.parts.length+i:Nat):Int)≠((ZR d n+j:Nat):Int)
   simp only
   omega
theorem Zn8 (d:Zn):∀k,(ZfT d k).length+k=ZR d k
 | 0=>rfl
 | k+1=>by
  have:=Zn8 d k
  have h2:=ZjG d k
  rw[show ZfT d (k+1)=ZfT d k++Zgp d k (nt d k) from ZcT _ k,List.length_append,Zmx]
  omega
theorem Zv0 {d:Zn} (hc:Zes d=0) {b:Zu} (hm:b∈d.barriers) (z:Int):(Zm4 d z b).length≤32:=by
 have g:=Zjc hc
 obtain⟨r1,r2⟩:=Zt5 hc b hm
 have l1:=(ZrV r1 (g.ins b hm)).1
 have l2:=(ZrV r2 (g.outs b hm)).1
 have:=g.pl
 unfold Zm4
 simp only[List.length_append,List.length_map]
 omega
theorem Zor {d:Zn} (hc:Zes d=0):∀k,(Zfj d k).length≤32*k
 | 0=>Nat.le_refl _
 | k+1=>by
  have g:=Zjc hc
  have ih:=Zor hc k
  unfold Zfj at ih ⊢
  rw[ZcT,List.length_append]
  split
  ·rename_i b hb
   have:=Zv0 hc (List.mem_of_getElem? hb) (ZeA d k)
   omega
  ·simp only[List.length_nil];omega
theorem Zom {d:Zn} (hc:Zes d=0):ZjU (Za5 d).dag=0:=by
 have g:=Zjc hc
 have hpl:=g.pl
 have hel:=g.el
 have hfl:=g.fl
 have hbl:=g.bl
 have hW:(Za5 d).dag.work.length≤64:=by show(ZcS d).length≤64;rw[Zid g];omega
 have hE:(Za5 d).dag.edges.length≤256:=by
  show(ZfS d).length≤256
  have h1:=Zn8 d d.parts.length
  have h2:=Zh6 g
  have h3:=Zor hc d.barriers.length
  unfold ZfS ZiD Zjp Zlg
  simp only[List.length_append,List.length_map]
  omega
 have h1:(Za5 d).dag.work.any ZhE=false:=List.any_eq_false.2 fun x hx=>by
  have hx:x∈ZcS d:=hx
  have:=ZqI g x hx
  have h2:x≤1000:=by
   unfold ZcS at hx
   rcases List.mem_append.1 hx with hx | hx
   ·unfold Zgw upto at hx
    obtain⟨n,hn,hx⟩:=List.mem_flatMap.1 hx
    unfold Zh7 ZhU at hx
    obtain⟨i,hi,rfl⟩:=List.mem_map.1 hx
    have b0:=Zt7 g.g n i
    have b1:=Zt7 g.g n (i+1)
    omega
   ·rw[(List.mem_replicate.1 hx).2];omega
  unfold ZhE
  simp only[Bool.or_eq_true,decide_eq_true_eq,not_or]
  omega
 have h2:Zgs (Zmp (Za5 d).dag) 0 (Za5 d).dag.edges=false:=by
  cases hb:Zgs (Zmp (Za5 d).dag) 0 (Za5 d).dag.edges with
  | false=>rfl
  | true=>
   exfalso
   obtain⟨i,e,he,hbe⟩:=(Zio _ _ 0).1 hb
   rw[Nat.zero_add] at hbe
   have he:(ZfS d)[i]? = some e:=he
   obtain⟨k1,k2,k3⟩:=ZsM g (List.mem_of_getElem? he)
   have hx:((ZfS d).take i).any (Zk9 e)=false:=List.any_eq_false.2 fun x hx=>by
    intro hs
    unfold Zk9 at hs
    simp only[Bool.and_true,Bool.and_eq_true,beq_iff_eq] at hs
    have:e=x:=by cases e;cases x;simp only at hs;rw[hs.1,hs.2]
    subst this
    obtain⟨j,hj⟩:=List.getElem?_of_mem hx
    have hji:j<i:=by
     have:=(List.getElem?_eq_some_iff.1 hj).1
     rw[List.length_take] at this
     omega
    rw[List.getElem?_take_of_lt hji] at hj
    obtain⟨a1,a2⟩:=List.getElem?_eq_some_iff.1 hj
    obtain⟨b1,b2⟩:=List.getElem?_eq_some_iff.1 he
    have:=(List.getElem_inj (ZrM hc)).1 (a2.trans b2.symm)
    omega
   unfold Zmp at hbe
   have q1:Zg7 (Za5 d).dag.work.length e.src=true:=k1
   have q2:Zg7 (Za5 d).dag.work.length e.dst=true:=k2
   have q3:((Za5 d).dag.edges.take i).any (Zk9 e)=false:=hx
   rw[q1,q2,q3,beq_false_of_ne k3] at hbe
   simp at hbe
 unfold ZjU
 rw[decide_eq_false (show ¬(64:Int)<((Za5 d).dag.work.length:Int) by omega),decide_eq_false (show ¬(256:Int)<((Za5 d).dag.edges.length:Int) by omega),h1,h2]
 rfl
theorem ZsQ {d:Zn} (hc:Zes d=0):(ZmP (Za5 d).dag→Zg8 (Za5 d).dag=0)∧(¬ZmP (Za5 d).dag→Zg8 (Za5 d).dag=43):=by
 unfold Zg8
 rw[Zom hc]
 exact⟨fun h=>by rw[ZuN h];rfl,fun h=>by rw[Zrq h];rfl⟩
end Go.Proofs.YtljgncbdagmeeaaDoor
namespace Go.Proofs.YtljgncbdagmeeaaDoor
open Go Go.Proofs.YtljgncbdagmeeaaDoorE
set_option linter.unusedVariables false
set_option linter.unusedSimpArgs false
def fat (l:List Int) (z:Int):Int:=match l[z.toNat]? with | some x=>x | none=>0
theorem Znu {l:List Int}{n:Nat} (hl:l.length=n) {z:Int} (h:0≤z∧z.toNat<n):Zy l z=some (fat l z):=by
 have e:=List.getElem?_eq_getElem (show z.toNat<l.length by rw[hl];exact h.2)
 rw[Zp0 h.1 e]
 unfold fat
 rw[e]
theorem ZnA {l:List Int}{n:Nat} (hl:l.length=n) {z w v:Int} (hz:0≤z∧z.toNat<n) (hw:0≤w):fat (l.set z.toNat v) w=if w=z then v else fat l w:=by
 unfold fat
 rw[List.getElem?_set]
 by_cases h:z.toNat=w.toNat
 ·rw[if_pos h,if_pos (by rw[hl];exact hz.2),if_pos (by omega)]
 ·rw[if_neg h,if_neg (by intro hc;exact h (by rw[hc]))]
theorem ZsP (v:Int→Int):∀(ps:List Int) (i:Nat) (m:Int),m≤ZhS (fun _ m p=>bif decide (m<v p) then v p else m) i m ps∧(∀p∈ps,v p≤ZhS (fun _ m p=>bif decide (m<v p) then v p else m) i m ps) ∧
  (ZhS (fun _ m p=>bif decide (m<v p) then v p else m) i m ps=m∨∃p∈ps,ZhS (fun _ m p=>bif decide (m<v p) then v p else m) i m ps=v p)
 | [],i,m=>⟨Int.le_refl _,(fun p hp=>by cases hp),.inl rfl⟩
 | p :: ps,i,m=>by
  obtain⟨h1,h2,h3⟩:=ZsP v ps (i+1) (bif decide (m<v p) then v p else m)
  generalize hr:ZhS (fun _ m p=>bif decide (m<v p) then v p else m) (i+1) (bif decide (m<v p) then v p else m) ps=r at *
  have e:ZhS (fun _ m p=>bif decide (m<v p) then v p else m) i m (p :: ps)=r:=hr
  rw[e]
  by_cases hc:m<v p
  ·rw[decide_eq_true hc] at h1 h3
   simp only[cond_true] at h1 h3
   refine⟨by omega,fun q hq=>?_,?_⟩
   ·rcases List.mem_cons.1 hq with rfl | hq
    ·exact h1
    ·exact h2 q hq
   ·rcases h3 with h3 | ⟨q,hq,h3⟩
    ·exact .inr ⟨p,by simp,h3⟩
    ·exact .inr ⟨q,by simp[hq],h3⟩
  ·rw[decide_eq_false hc] at h1 h3
   simp only[cond_false] at h1 h3
   refine⟨h1,fun q hq=>?_,?_⟩
   ·rcases List.mem_cons.1 hq with rfl | hq
    ·omega
    ·exact h2 q hq
   ·rcases h3 with h3 | ⟨q,hq,h3⟩
    ·exact .inl h3
    ·exact .inr ⟨q,by simp[hq],h3⟩
structure Far (g:ZbS) (F:Int→Int) (M:Int):Prop where
 edge:∀e∈g.edges,F e.src+fat g.work e.dst≤F e.dst
 least:∀i:Nat,i<g.work.length→fat g.work (i:Int)≤F (i:Int)
 some_:∀i:Nat,i<g.work.length→F (i:Int)=fat g.work (i:Int)∨∃e∈g.edges,e.dst=(i:Int)∧F (i:Int)=F e.src+fat g.work (i:Int)
 most:∀i:Nat,i<g.work.length→F (i:Int)≤M
 hit:M=0∨∃i:Nat,i<g.work.length∧M=F (i:Int)
theorem Zxv {g:ZbS} (h:Zg8 g=0):∃F M,ZhY g=some M∧Far g F M:=by
 obtain⟨hG,hA⟩:=Zkn h
 obtain⟨l,h1,T⟩:=Zr1 h
 have hwl:=hG.wl
 have hll:l.length≤64:=by rw[T.len];exact hwl
 have key:∀(k i:Nat) (far:List Int) (mo:Int),i+k=l.length→far.length=g.work.length →
   (∀z,0≤z∧z.toNat<g.work.length→(¬∃j,j<i∧l[j]? = some z)→fat far z=0) →
   (∀e∈g.edges,(∃j,j<i∧l[j]? = some e.dst)→fat far e.src+fat g.work e.dst≤fat far e.dst) →
   (∀z,(∃j,j<i∧l[j]? = some z)→fat g.work z≤fat far z∧(fat far z=fat g.work z∨∃e∈g.edges,e.dst=z∧fat far z=fat far e.src+fat g.work z)∧fat far z≤mo) →
   (mo=0∨∃z,(∃j,j<i∧l[j]? = some z)∧mo=fat far z) →
   (∀z,0≤z∧z.toNat<g.work.length→0≤fat far z∧fat far z≤1000*i) →
   ∃F M,lp (ZfI g l) (mo,(i:Int),far)=some M∧Far g F M:=by
  intro k
  induction k with
  | zero=>
   intro i far mo hi hl hz he hn hm hb
   have:i=l.length:=by omega
   subst this
   have all:∀j:Nat,j<g.work.length→∃q,q<l.length∧l[q]? = some (j:Int):=fun j hj=>by
    obtain⟨q,hq⟩:=List.getElem?_of_mem (T.all j hj)
    exact⟨q,(List.getElem?_eq_some_iff.1 hq).1,hq⟩
   have allz:∀z:Int,0≤z∧z.toNat<g.work.length→∃q,q<l.length∧l[q]? = some z:=fun z hz=>by
    have:=all z.toNat hz.2
    rwa [show((z.toNat:Nat):Int)=z by omega] at this
   refine⟨fat far,mo,?_,fun e hm=>he e hm (allz _ (hG.dst e hm)),fun i hi=>(hn _ (all i hi)).1,fun i hi=>(hn _ (all i hi)).2.1,fun i hi=>(hn _ (all i hi)).2.2,?_⟩
   ·rw[Zcl]
    simp only[ZfI,Zib,cond_false]
   ·rcases hm with hm | ⟨z,⟨j,_,hj⟩,hm⟩
    ·exact .inl hm
    ·have:=T.inn z (List.mem_of_getElem? hj)
     exact .inr ⟨z.toNat,this.2,by rw[show((z.toNat:Nat):Int)=z by omega];exact hm⟩
  | succ k ih=>
   intro i far mo hi hl hz he hn hm hb
   have hi':i<l.length:=by omega
   have hx:l[i]? = some l[i]:=List.getElem?_eq_getElem hi'
   generalize hnn:l[i]=n at hx
   have nin:=T.inn n (List.mem_of_getElem? hx)
   obtain⟨ps,p1,p2,p3⟩:=Zzn hG n
   have fresh:¬∃j,j<i∧l[j]? = some n:=fun⟨j,j1,j2⟩=>by have:=Zq3 T.nod j2 hx;omega
   have h0:=hz n nin fresh
   have psin:∀p∈ps,(0≤p∧p.toNat<g.work.length)∧p≠n∧∃j,j<i∧l[j]? = some p:=fun p hp=>by
    obtain⟨e,e1,e2,e3⟩:=(p2 p).1 hp
    have hs:=hG.src e e1
    obtain⟨j,j1,j2⟩:=T.topo i n hx e e1 e2
    rw[e3] at hs j2
    exact⟨hs,fun hc=>fresh ⟨j,j1,hc ▸ j2⟩,j,j1,j2⟩
   have inner:=(Zpa ps (ZfF n ps) (fun j m=>((j:Int),far.set n.toNat m)) (fun _ m p=>bif decide (m<fat far p) then fat far p else m) (fun m=>far.set n.toNat m) (fun _ _=>True) (fun j p m hj hp _=>by
    obtain⟨q1,q2,_⟩:=psin p (List.mem_of_getElem? hp)
    have hls:(far.set n.toNat m).length=g.work.length:=by rw[List.length_set];exact hl
    have g1:=Znu hls nin
    have g2:=Znu hls q1
    rw[ZnA hl nin nin.1,if_pos rfl] at g1
    rw[ZnA hl nin q1.1,if_neg q2] at g2
    refine⟨?_,trivial⟩
    simp only[ZfF,Zha hj,cond_true,Zcp hp,Option.bind_some,g1,g2,List.set_set,Za1 hj (show ps.length<9223372036854775808 by omega)]) (fun m _=>by simp only[ZfF,Zib,cond_false]) (fat far n) trivial).1
   have self:far.set n.toNat (fat far n)=far:=by
    have e:=List.getElem?_eq_getElem (show n.toNat<far.length by rw[hl];exact nin.2)
    unfold fat
    rw[e]
    exact List.set_getElem_self _
   simp only[self] at inner
   obtain⟨m1,m2,m3⟩:=ZsP (fat far) ps 0 (fat far n)
   generalize ZhS (fun _ m p=>bif decide (m<fat far p) then fat far p else m) 0 (fat far n) ps=m at inner m1 m2 m3
   have inner2:lp (ZfF n ps) (0,far)=some (far.set n.toNat m):=inner
   rw[h0] at m1 m3
   have hwn:0≤fat g.work n∧fat g.work n≤1000:=by
    have e:=List.getElem?_eq_getElem (show n.toNat<g.work.length from nin.2)
    unfold fat
    rw[e]
    exact hG.w _ (List.getElem_mem _)
   have mb:m≤1000*i:=by
    rcases m3 with m3 | ⟨p,hp,m3⟩
    ·omega
    ·have:=hb p (psin p hp).1;omega
   have hls:(far.set n.toNat m).length=g.work.length:=by rw[List.length_set];exact hl
   have g9:=Znu hls nin
   rw[ZnA hl nin nin.1,if_pos rfl] at g9
   have g10:=Znu (l:=g.work) rfl nin
   have hw:w64 (m+fat g.work n)=m+fat g.work n:=ZdI (by omega) (by omega)
   have hls2:(far.set n.toNat (m+fat g.work n)).length=g.work.length:=by rw[List.length_set];exact hl
   have g11:=Znu hls2 nin
   rw[ZnA hl nin nin.1,if_pos rfl] at g11
   have val:∀z,0≤z→fat (far.set n.toNat (m+fat g.work n)) z=if z=n then m+fat g.work n else fat far z:=fun z hz=>ZnA hl nin hz
   have old:∀z,(∃j,j<i∧l[j]? = some z)→0≤z∧z≠n:=fun z ⟨j,j1,j2⟩=>⟨(T.inn z (List.mem_of_getElem? j2)).1,fun hc=>fresh ⟨j,j1,hc ▸ j2⟩⟩
   have split:∀z,(∃j,j<i+1∧l[j]? = some z)→z=n∨∃j,j<i∧l[j]? = some z:=fun z ⟨j,j1,j2⟩=>by
    by_cases hj:j=i
    ·subst hj;rw[hx] at j2;exact .inl (Option.some.inj j2).symm
    ·exact .inr ⟨j,by omega,j2⟩
   have srcOld:∀e∈g.edges,(∃j,j<i+1∧l[j]? = some e.dst)→∃j,j<i∧l[j]? = some e.src:=fun e he1 ⟨j,j1,j2⟩=>by
    obtain⟨q,q1,q2⟩:=T.topo j e.dst j2 e he1 rfl
    exact⟨q,by omega,q2⟩
   rw[Zcl]
   simp only[ZfI,Zha hi',cond_true,Zcp hx,Option.bind_some,p1,inner2,g9,g10,List.set_set,hw,g11,Za1 hi' (show l.length<9223372036854775808 by omega)]
   refine ih (i+1) (far.set n.toNat (m+fat g.work n)) _ (by omega) hls2 (fun z z1 z2=>?_) (fun e e1 e2=>?_) (fun z z1=>?_) ?_ (fun z z1=>?_)
   ·have hzn:z≠n:=fun hc=>z2 ⟨i,by omega,by rw[hc];exact hx⟩
    rw[val z z1.1,if_neg hzn]
    exact hz z z1 fun⟨j,j1,j2⟩=>z2 ⟨j,by omega,j2⟩
   ·have so:=srcOld e e1 e2
    obtain⟨s0,s1⟩:=old e.src so
    have d0:=(hG.dst e e1).1
    rw[val e.src s0,if_neg s1,val e.dst d0]
    rcases split e.dst e2 with hd | hd
    ·rw[if_pos hd,hd]
     have:=m2 e.src ((p2 e.src).2 ⟨e,e1,hd,rfl⟩)
     omega
    ·rw[if_neg (old e.dst hd).2]
     exact he e e1 hd
   ·rcases split z z1 with hd | hd
    ·subst hd
     rw[val z nin.1,if_pos rfl]
     refine⟨by omega,?_,?_⟩
     ·rcases m3 with m3 | ⟨p,hp,m3⟩
      ·exact .inl (by omega)
      ·obtain⟨e,e1,e2,e3⟩:=(p2 p).1 hp
       obtain⟨q1,q2,_⟩:=psin p hp
       refine .inr ⟨e,e1,e2,?_⟩
       rw[e3,val p q1.1,if_neg q2,m3]
     ·by_cases hc:mo<m+fat g.work z
      ·rw[decide_eq_true hc];exact Int.le_refl _
      ·rw[decide_eq_false hc];simp only[cond_false];omega
    ·obtain⟨o1,o2⟩:=old z hd
     obtain⟨n1,n2,n3⟩:=hn z hd
     rw[val z o1,if_neg o2]
     refine⟨n1,?_,?_⟩
     ·rcases n2 with n2 | ⟨e,e1,e2,e3⟩
      ·exact .inl n2
      ·have so:=srcOld e e1 (by obtain⟨j,j1,j2⟩:=hd;exact⟨j,by omega,by rw[e2];exact j2⟩)
       obtain⟨s0,s1⟩:=old e.src so
       exact .inr ⟨e,e1,e2,by rw[val e.src s0,if_neg s1];exact e3⟩
     ·by_cases hc:mo<m+fat g.work n
      ·rw[decide_eq_true hc];simp only[cond_true];omega
      ·rw[decide_eq_false hc];simp only[cond_false];omega
   ·by_cases hc:mo<m+fat g.work n
    ·rw[decide_eq_true hc]
     exact .inr ⟨n,⟨i,by omega,hx⟩,by rw[val n nin.1,if_pos rfl];rfl⟩
    ·rw[decide_eq_false hc]
     rcases hm with hm | ⟨z,⟨j,j1,j2⟩,hm⟩
     ·exact .inl hm
     ·obtain⟨o1,o2⟩:=old z ⟨j,j1,j2⟩
      exact .inr ⟨z,⟨j,by omega,j2⟩,by rw[val z o1,if_neg o2];exact hm⟩
   ·rw[val z z1.1]
    split
    ·omega
    ·have:=hb z z1;omega
 have rep:∀z,fat (List.replicate g.work.length (0:Int)) z=0:=fun z=>by
  unfold fat
  rw[List.getElem?_replicate]
  by_cases hc:z.toNat<g.work.length
  ·rw[if_pos hc]
  ·rw[if_neg hc]
 obtain⟨F,M,k1,k2⟩:=key l.length 0 (List.replicate g.work.length 0) 0 (by omega) (by simp) (fun z _ _=>rep z) (fun e _ ⟨j,j1,_⟩=>by omega) (fun z ⟨j,j1,_⟩=>by omega) (.inl rfl) (fun z _=>by rw[rep];omega)
 refine⟨F,M,?_,k2⟩
 unfold ZhY
 rw[decide_eq_true (show(0:Int)≤(g.work.length:Int) by omega),decide_eq_true (show(g.work.length:Int)≤lim by show(g.work.length:Int)≤1073741824;omega),beq_self_eq_true]
 simp only[decide_true,Bool.and_true,cond_true,Int.toNat_natCast,h1,Option.bind_some]
 have k1:lp (ZfI g l) (0,0,List.replicate g.work.length 0)=some M:=k1
 rw[k1]
 rfl
end Go.Proofs.YtljgncbdagmeeaaDoor
namespace Go.Proofs.YtljgncbdagmeeaaDoor
open Go Go.Proofs.YtljgncbdagmeeaaDoorE
set_option linter.unusedVariables false
set_option linter.unusedSimpArgs false
theorem Zic:∀r,Zhc=some r→evD ctx 14 []=some (D.bool r):=fun r h=>by
  cases h
  exact ZAC 100 (by kernel_rfl)
def Zmd (r:Bool):D:=(D.bool r)
def Zj1 (t0:Bool) (t1:Bool) (t2:Bool) (t3:Bool) (a:Zn):(Unit⊕Unit)→Ex×List V×Zp
  | (.inl r)=>(.ret,[(.ptr 0 0),(.d (D.bool false))],[(.cells (dV t0 t1 t2 t3 a))])
  | (.inr r)=>(.exit 0,[(.ptr 0 0),.bad],[(.cells (dV t0 t1 t2 t3 a))])
theorem ZmX {t0:Bool}{t1:Bool}{t2:Bool}{t3:Bool}{a:Zn}:∀(s0:Int) (r:(Unit⊕Unit)),lp (ZfP a) s0=some r→lpW ctx 0 [1,3] [1,2] Zxo [(.ptr 0 0),(.d (Ze s0))] [(.cells (dV t0 t1 t2 t3 a))]=some ((Zj1 t0 t1 t2 t3 a) r):=by
 refine Zbe (Zj1 t0 t1 t2 t3 a) ?_
 intro s0 rcl ih
 show Z6 _ _ (lpW _ _ _ _ _ _ _)
 unfold ZfP
 rw[Zbg]
 conv=>arg 3;whnf
 refine Zq (Zal _ _) ?_;conv=>arg 3;whnf
 refine Zg rfl ?_ ?_<;>conv=>arg 3;whnf
 ·refine Zg rfl ?_ ?_<;>conv=>arg 3;whnf
  ·refine Zj rfl rfl fun x1 hx1=>?_;conv=>arg 3;whnf
   refine Zq (Zal _ _) ?_;conv=>arg 3;whnf
   refine Zg rfl ?_ ?_<;>conv=>arg 3;whnf
   ·exact Zh rfl
   ·refine Zf (Zay rfl hx1) ?_;conv=>arg 3;whnf
    refine Zq (Zal _ _) ?_;conv=>arg 3;whnf
    refine Zg rfl ?_ ?_<;>conv=>arg 3;whnf
    ·exact Zh rfl
    ·exact Zd (ih _)
  ·exact Zh rfl
 ·exact Zh rfl
theorem ZpK {t0:Bool}{t1:Bool}{t2:Bool}{t3:Bool}{a:Zn}:∀r,(Zin a)=some r→evD ctx 15 [(.d (D.agg (dA t0 t1 t2 t3 a)))]=some (Zmd r):=by
 show Z6 _ (fun r rhs=>rhs=some (Zmd r)) _
 unfold Zin
 rw[ZcX ctx 15 ZAE _ rfl rfl]
 conv=>arg 3;whnf
 refine Zc _ (ZmX _) fun r2 hr2=>?_
 clear hr2
 rcases r2 with r2 | r2
 ·conv=>arg 3;whnf
  exact Zh rfl
 ·conv=>arg 3;whnf
  refine Zq (Zal _ _) ?_;conv=>arg 3;whnf
  refine Zg rfl ?_ ?_<;>conv=>arg 3;whnf
  ·refine Zq (Zal _ _) ?_;conv=>arg 3;whnf
   refine Zg rfl ?_ ?_<;>conv=>arg 3;whnf
   ·refine Zq (Zal _ _) ?_;conv=>arg 3;whnf
    refine Zg rfl ?_ ?_<;>conv=>arg 3;whnf
    ·refine Zq (Zal _ _) ?_;conv=>arg 3;whnf
     refine Zg rfl ?_ ?_<;>conv=>arg 3;whnf
     ·exact Zh rfl
     ·exact Zh rfl
    ·exact Zh rfl
   ·exact Zh rfl
  ·exact Zh rfl
def Zmf (t0:Bool) (t1:Bool) (t2:Bool) (t3:Bool) (a:Zn):(List Zu)→V×Zp
  | r=>((.agg [(.d (Ze a.period)),(.d (Ze a.deadline)),(.sl 0 3),(.sl 1 2),(.sl 2 3),(.sl 3 2)]),[(.arr 3 (List.map Zau a.parts)),(.arr 2 (List.map ZJ a.edges)),(.arr 3 (List.map Zt a.futures)),(.arr 2 (List.map ZA r))])
def ZjX (t0:Bool) (t1:Bool) (t2:Bool) (t3:Bool) (a:Zn):(List Zu)→Ex×List V×Zp
  | r=>(.exit 0,[(.ptr 0 0),(.ptr 1 0)],[(.cells [(.d (Ze 0)),(.d (Ze 0)),(.sl 2 3),(.sl 3 2),(.sl 4 3),(.sl 5 2)]),(.cells [(.d (Ze a.period)),(.d (Ze a.deadline)),(.sl 6 3),(.sl 7 2),(.sl 8 3),(.sl 9 2)]),(.arr 3 []),(.arr 2 []),(.arr 3 []),(.arr 2 []),(.arr 3 (List.map Zau a.parts)),(.arr 2 (List.map ZJ a.edges)),(.arr 3 (List.map Zt a.futures)),(.arr 2 (List.map ZA r))])
theorem ZmN {t0:Bool}{t1:Bool}{t2:Bool}{t3:Bool}{a:Zn}:∀(s0:Int×(List Zu)) (r:(List Zu)),lp (ZeW a) s0=some r→lpW ctx 0 [1,2,3,4] [2,3] Zyt [(.ptr 0 0),(.ptr 1 0),(.ptr 2 0),(.d (Ze s0.1))] [(.cells (dV t0 t1 t2 t3 a)),(.cells [(.d (Ze 0)),(.d (Ze 0)),(.sl 3 3),(.sl 4 2),(.sl 5 3),(.sl 6 2)]),(.cells [(.d (Ze a.period)),(.d (Ze a.deadline)),(.sl 7 3),(.sl 8 2),(.sl 9 3),(.sl 10 2)]),(.arr 3 []),(.arr 2 []),(.arr 3 []),(.arr 2 []),(.arr 3 (List.map Zau a.parts)),(.arr 2 (List.map ZJ a.edges)),(.arr 3 (List.map Zt a.futures)),(.arr 2 (List.map ZA s0.2))]=some ((ZjX t0 t1 t2 t3 a) r):=by
 refine Zbe (ZjX t0 t1 t2 t3 a) ?_
 intro s0 rcl ih
 show Z6 _ _ (lpW _ _ _ _ _ _ _)
 unfold ZeW
 rw[Zbg]
 conv=>arg 3;whnf
 refine Zq (Zal _ _) ?_;conv=>arg 3;whnf
 refine Zg rfl ?_ ?_<;>conv=>arg 3;whnf
 ·refine Zj rfl rfl fun x1 hx1=>?_;conv=>arg 3;whnf
  refine ZbI (Zlz (f:=Ze) (fun _=>⟨rfl,rfl⟩) x1.ins 0) ?_;conv=>arg 3;whnf
  refine Zg (Zly Ze x1.ins) ?_ ?_
  ·conv=>arg 3;whnf
   refine Zq (rfl:_=List.map Ze x1.ins) ?_;conv=>arg 3;whnf
   refine Zf (Zay rfl hx1) ?_;conv=>arg 3;whnf
   refine ZbI (Zlz (f:=Ze) (fun _=>⟨rfl,rfl⟩) x1.outs 0) ?_;conv=>arg 3;whnf
   refine Zg (Zly Ze x1.outs) ?_ ?_
   ·conv=>arg 3;whnf
    refine Zq (rfl:_=List.map Ze x1.outs) ?_;conv=>arg 3;whnf
    refine ZbI rfl ?_;conv=>arg 3;whnf
    refine Zg (ZkK ZA s0.2 1) ?_ ?_
    ·conv=>arg 3;whnf
     refine Zq (ZkG ZA s0.2 [x1]) ?_;conv=>arg 3;whnf
     exact Zd (ih _)
    ·exact ZbF
   ·exact ZbF
  ·exact ZbF
 ·exact Zh rfl
theorem Zlb {t0:Bool}{t1:Bool}{t2:Bool}{t3:Bool}{a:Zn}:∀r,(Zhy a)=some r→evW ctx 17 [(.d (D.agg (dA t0 t1 t2 t3 a)))] []=some ((Zmf t0 t1 t2 t3 a) r):=by
 show Z6 _ (fun r rhs=>rhs=some ((Zmf t0 t1 t2 t3 a) r)) _
 unfold Zhy
 rw[Zeh ctx 17 ZAS _ _ rfl rfl]
 conv=>arg 3;whnf
 refine ZbI (Zlz (f:=Zau) (fun _=>⟨rfl,rfl⟩) a.parts 0) ?_;conv=>arg 3;whnf
 refine Zg (Zly Zau a.parts) ?_ ?_
 ·conv=>arg 3;whnf
  refine Zq (rfl:_=List.map Zau a.parts) ?_;conv=>arg 3;whnf
  refine ZbI (Zlz (f:=ZJ) (fun _=>⟨rfl,rfl⟩) a.edges 0) ?_;conv=>arg 3;whnf
  refine Zg (Zly ZJ a.edges) ?_ ?_
  ·conv=>arg 3;whnf
   refine Zq (rfl:_=List.map ZJ a.edges) ?_;conv=>arg 3;whnf
   refine ZbI (Zlz (f:=Zt) (fun _=>⟨rfl,rfl⟩) a.futures 0) ?_;conv=>arg 3;whnf
   refine Zg (Zly Zt a.futures) ?_ ?_
   ·conv=>arg 3;whnf
    refine Zq (rfl:_=List.map Zt a.futures) ?_;conv=>arg 3;whnf
    refine Zc _ (ZmN _) fun r2 hr2=>?_;conv=>arg 3;whnf
    exact Zh rfl
   ·exact ZbF
  ·exact ZbF
 ·exact ZbF
def ZkX (r:Bool):D:=(D.bool r)
theorem ZcR {a:Int}{b:Int}{c:Int}:∀r,(Zch a b c)=some r→evD ctx 78 [(.d (Ze a)),(.d (Ze b)),(.d (Ze c))]=some (ZkX r):=by
 show Z6 _ (fun r rhs=>rhs=some (ZkX r)) _
 unfold Zch
 rw[ZcX ctx 78 ZAM _ rfl rfl]
 conv=>arg 3;whnf
 refine Zg rfl ?_ ?_<;>conv=>arg 3;whnf
 ·refine Zg rfl ?_ ?_<;>conv=>arg 3;whnf
  ·exact Zh rfl
  ·exact Zh rfl
 ·exact Zh rfl
def Zmb (r:Int):D:=(Ze r)
theorem Zo6 {a:Int}:∀r,(Zik a)=some r→evD ctx 107 [(.d (Ze a))]=some (Zmb r):=by
 show Z6 _ (fun r rhs=>rhs=some (Zmb r)) _
 unfold Zik
 rw[ZcX ctx 107 Zw3 _ rfl rfl]
 conv=>arg 3;whnf
 refine Zg rfl ?_ ?_<;>conv=>arg 3;whnf
 ·exact Zh rfl
 ·refine Zg rfl ?_ ?_<;>conv=>arg 3;whnf
  ·exact Zh rfl
  ·exact Zh rfl
def Zg1 (r:Int):D:=(Ze r)
theorem Zi3 {a:Int}:∀r,(Zdq a)=some r→evD ctx 129 [(.d (D.int .u64 a))]=some (Zg1 r):=by
 show Z6 _ (fun r rhs=>rhs=some (Zg1 r)) _
 unfold Zdq
 rw[ZcX ctx 129 ZxT _ rfl rfl]
 conv=>arg 3;whnf
 refine ZQ rfl ?_;conv=>arg 3;whnf
 refine ZQ rfl ?_;conv=>arg 3;whnf
 refine ZQ rfl ?_;conv=>arg 3;whnf
 refine ZQ rfl ?_;conv=>arg 3;whnf
 refine ZQ rfl ?_;conv=>arg 3;whnf
 refine ZQ rfl ?_;conv=>arg 3;whnf
 exact Zh rfl
def ZhA (r:Int):D:=(Ze r)
theorem ZjT {a:Int}:∀r,(ZdL a)=some r→evD ctx 108 [(.d (D.int .u64 a))]=some (ZhA r):=by
 show Z6 _ (fun r rhs=>rhs=some (ZhA r)) _
 unfold ZdL
 rw[ZcX ctx 108 ZwQ _ rfl rfl]
 conv=>arg 3;whnf
 refine Zs _ Zi3 rfl fun x0 hx0=>?_;conv=>arg 3;whnf
 exact Zh rfl
theorem ZBu (n:Int):0≤IntKind.u64.wrap n∧IntKind.u64.wrap n<18446744073709551616:=by
  have:IntKind.u64.wrap n=n % 18446744073709551616:=by
    show(if (false&&decide (n % 18446744073709551616 ≥ 9223372036854775808))=true then n % 18446744073709551616-18446744073709551616 else n % 18446744073709551616)=_
    simp
  rw[this]
  omega
theorem ZCw (n:Int):∃j:Nat,j<64∧(IntKind.u64.wrap n).fdiv (2 ^ (min (Int.toNat 58) IntKind.u64.bits))=(j:Int):=by
  obtain⟨h1,h2⟩:=ZBu n
  have e:(2:Int) ^ (min (Int.toNat 58) IntKind.u64.bits)=288230376151711744:=by decide
  rw[e,Int.fdiv_eq_ediv_of_nonneg _ (by omega)]
  refine⟨((IntKind.u64.wrap n) / 288230376151711744).toNat,?_,?_⟩<;>omega
theorem ZCG:∀j:Nat,j<64→ZeC [] 1 false (.d (.rptr (Zxp.drop (j*1))))=some (.d (.int .u8 (ZrX.getD j 0))):=by
  have key:((List.range 64).all fun j=>match ZeC [] 1 false (.d (.rptr (Zxp.drop (j*1)))) with | some (.d (.int .u8 z))=>z==ZrX.getD j 0 | _=>false)=true:=by rfl
  intro j hj
  have:=List.all_eq_true.1 key j (by simpa using hj)
  split at this
  · rename_i z hz
    rw[hz,eq_of_beq this]
  · cases this
def Ziv (r:Int):D:=Ze r
theorem ZhV (a:Int):∀r,ZeH a=some r→evD ctx 131 [.d (.int .u64 a)]=some (Ziv r):=by
  intro r hr
  unfold ZeH at hr
  have hr:=Option.some.inj hr
  subst hr
  rw[ZcX ctx 131 Zyd _ rfl rfl]
  by_cases h:(a==0)=true
  · conv=>lhs;whnf
    rw[h,Zy6]
    rfl
  · replace h:(a==0)=false:=by simpa using h
    obtain⟨j,hj,e⟩:=ZCw (IntKind.u64.wrap ((BitVec.ofInt IntKind.u64.bits a &&& BitVec.ofInt IntKind.u64.bits (IntKind.u64.wrap (0-a))).toNat:Int)*285870213051353865)
    conv=>lhs;whnf
    rw[h,Zzt]
    conv=>lhs;whnf
    refine(ZCx (by rfl)).trans ?_
    conv=>lhs;whnf
    rw[e]
    refine(ZBe (by simp;omega)).trans ?_
    conv=>lhs;whnf
    erw [ZCG j hj]
    rfl
def Zgx (r:Int):D:=(Ze r)
theorem ZiE {a:Int}:∀r,(ZdK a)=some r→evD ctx 109 [(.d (D.int .u64 a))]=some (Zgx r):=by
 show Z6 _ (fun r rhs=>rhs=some (Zgx r)) _
 unfold ZdK
 rw[ZcX ctx 109 Zxb _ rfl rfl]
 conv=>arg 3;whnf
 refine Zs _ (ZhV _) rfl fun x0 hx0=>?_;conv=>arg 3;whnf
 exact Zh rfl
def Zoe (r:(Int×Bool)):D:=(D.tup [(Ze r.1),(D.bool r.2)])
theorem ZrB {a:Int}:∀r,(Zj3 a)=some r→evD ctx 64 [(.d (Ze a))]=some (Zoe r):=by
 show Z6 _ (fun r rhs=>rhs=some (Zoe r)) _
 unfold Zj3
 rw[ZcX ctx 64 ZAk _ rfl rfl]
 conv=>arg 3;whnf
 refine Zs _ Zo6 rfl fun x0 hx0=>?_;conv=>arg 3;whnf
 refine Zg rfl ?_ ?_<;>conv=>arg 3;whnf
 ·exact Zh rfl
 ·refine Zs _ ZjT rfl fun x1 hx1=>?_;conv=>arg 3;whnf
  refine Zg rfl ?_ ?_<;>conv=>arg 3;whnf
  ·exact Zh rfl
  ·refine Zs _ ZiE rfl fun x2 hx2=>?_;conv=>arg 3;whnf
   exact Zh rfl
def Zl1 (r:Bool):D:=(D.bool r)
theorem Zo8 {a:Zam}:∀r,(Zf6 a)=some r→evD ctx 80 [(.d (D.agg [(Ze a.op),(Ze a.arg),(Ze a.work)]))]=some (Zl1 r):=by
 show Z6 _ (fun r rhs=>rhs=some (Zl1 r)) _
 unfold Zf6
 rw[ZcX ctx 80 ZAO _ rfl rfl]
 conv=>arg 3;whnf
 refine Zs _ ZcR rfl fun x0 hx0=>?_;conv=>arg 3;whnf
 refine Zg rfl ?_ ?_<;>conv=>arg 3;whnf
 ·refine Zs _ ZcR rfl fun x1 hx1=>?_;conv=>arg 3;whnf
  refine Zg rfl ?_ ?_<;>conv=>arg 3;whnf
  ·refine Zs _ ZcR rfl fun x2 hx2=>?_;conv=>arg 3;whnf
   refine Zg rfl ?_ ?_<;>conv=>arg 3;whnf
   ·exact Zh rfl
   ·exact Zh rfl
  ·exact Zh rfl
 ·exact Zh rfl
def Zdv (r:Int):D:=(Ze r)
def Zc6 (t0:Bool) (a:(List Zam)):(Int⊕Unit)→Ex×List V×Zp
  | (.inl r)=>(.ret,[(.d (Ze r))],[])
  | (.inr r)=>(.exit 0,[.bad],[])
theorem Zfw {t0:Bool}{a:(List Zam)}:∀(s0:Int) (r:(Int⊕Unit)),lp (ZbA a (fun z0=>Zf6 z0)) s0=some r→lpW ctx 0 [0,1,7,8] [4] Zu7 [(.d (D.list t0 (List.map Zau a))),(.d (D.fn 80 [])),(.d (Ze (a.length:Int))),(.d (Ze s0))] []=some ((Zc6 t0 a) r):=by
 refine Zbe (Zc6 t0 a) ?_
 intro s0 rcl ih
 show Z6 _ _ (lpW _ _ _ _ _ _ _)
 unfold ZbA
 rw[Zbg]
 conv=>arg 3;whnf
 refine Zg rfl ?_ ?_<;>conv=>arg 3;whnf
 ·refine Zj rfl rfl fun x1 hx1=>?_;conv=>arg 3;whnf
  refine Zs _ Zo8 rfl fun x2 hx2=>?_;conv=>arg 3;whnf
  refine Zg rfl ?_ ?_<;>conv=>arg 3;whnf
  ·exact Zh rfl
  ·exact Zd (ih _)
 ·exact Zh rfl
theorem ZfU {t0:Bool}{a:(List Zam)}:∀r,(ZcQ a (fun z0=>Zf6 z0))=some r→evD ctx 118 [(.d (D.list t0 (List.map Zau a))),(.d (D.fn 80 []))]=some (Zdv r):=by
 show Z6 _ (fun r rhs=>rhs=some (Zdv r)) _
 unfold ZcQ
 rw[ZcX ctx 118 ZxD _ rfl rfl]
 conv=>arg 3;whnf
 refine Zq (Zal _ _) ?_;conv=>arg 3;whnf
 refine Zc _ (Zfw _) fun r3 hr3=>?_
 clear hr3
 rcases r3 with r3 | r3
 ·conv=>arg 3;whnf
  exact Zh rfl
 ·conv=>arg 3;whnf
  exact Zh rfl
def Zdc (r:Bool):D:=(D.bool r)
theorem Zfx {t0:Bool}{a:(List Zam)}:∀r,(ZbB a (fun z0=>Zf6 z0))=some r→evD ctx 79 [(.d (D.list t0 (List.map Zau a))),(.d (D.fn 80 []))]=some (Zdc r):=by
 show Z6 _ (fun r rhs=>rhs=some (Zdc r)) _
 unfold ZbB
 rw[ZcX ctx 79 Zz9 _ rfl rfl]
 conv=>arg 3;whnf
 refine Zs _ ZfU rfl fun x0 hx0=>?_;conv=>arg 3;whnf
 refine Zg rfl ?_ ?_<;>conv=>arg 3;whnf
 ·exact Zh rfl
 ·exact Zh rfl
def Zns (r:Bool):D:=(D.bool r)
theorem Zl7 {t0:Bool}{t1:Bool}{t2:Bool}{t3:Bool}{a:Zn}{b:Int}{c:Int}:∀r,(Zh3 a b c)=some r→evD ctx 81 [(.d (D.agg (dA t0 t1 t2 t3 a))),(.d (Ze b)),(.d (Ze c))]=some (Zns r):=by
 show Z6 _ (fun r rhs=>rhs=some (Zns r)) _
 unfold Zh3
 rw[ZcX ctx 81 Zz6 _ rfl rfl]
 conv=>arg 3;whnf
 refine Zg rfl ?_ ?_<;>conv=>arg 3;whnf
 ·refine Zq (Zal _ _) ?_;conv=>arg 3;whnf
  refine Zs _ ZcR rfl fun x0 hx0=>?_;conv=>arg 3;whnf
  refine Zg rfl ?_ ?_<;>conv=>arg 3;whnf
  ·refine Zq (Zal _ _) ?_;conv=>arg 3;whnf
   refine Zs _ ZcR rfl fun x1 hx1=>?_;conv=>arg 3;whnf
   refine Zg rfl ?_ ?_<;>conv=>arg 3;whnf
   ·exact Zh rfl
   ·exact Zh rfl
  ·exact Zh rfl
 ·exact Zh rfl
def Zge (r:Int):D:=(Ze r)
def ZfK (t0:Bool) (a:(List Zo)) (b:Zo):(Int⊕Unit)→Ex×List V×Zp
  | (.inl r)=>(.ret,[(.d (Ze r))],[])
  | (.inr r)=>(.exit 0,[.bad],[])
theorem ZhI {t0:Bool}{a:(List Zo)}{b:Zo}:∀(s0:Int) (r:(Int⊕Unit)),lp (Zb6 a b) s0=some r→lpW ctx 0 [0,3,7,8] [4] ZuE [(.d (D.list t0 (List.map ZJ a))),(.ptr 0 0),(.d (Ze (a.length:Int))),(.d (Ze s0))] [(.cells [(.d (Ze b.src)),(.d (Ze b.dst))])]=some ((ZfK t0 a b) r):=by
 refine Zbe (ZfK t0 a b) ?_
 intro s0 rcl ih
 show Z6 _ _ (lpW _ _ _ _ _ _ _)
 unfold Zb6
 rw[Zbg]
 conv=>arg 3;whnf
 refine Zg rfl ?_ ?_<;>conv=>arg 3;whnf
 ·refine Zj rfl rfl fun x1 hx1=>?_;conv=>arg 3;whnf
  refine Zg rfl ?_ ?_<;>conv=>arg 3;whnf
  ·exact Zh rfl
  ·exact Zd (ih _)
 ·exact Zh rfl
theorem Ziy {t0:Bool}{a:(List Zo)}{b:Zo}:∀r,(Zdy a b)=some r→evD ctx 102 [(.d (D.list t0 (List.map ZJ a))),(.d (D.agg [(Ze b.src),(Ze b.dst)]))]=some (Zge r):=by
 show Z6 _ (fun r rhs=>rhs=some (Zge r)) _
 unfold Zdy
 rw[ZcX ctx 102 Zw2 _ rfl rfl]
 conv=>arg 3;whnf
 refine Zq (Zal _ _) ?_;conv=>arg 3;whnf
 refine Zc _ (ZhI _) fun r2 hr2=>?_
 clear hr2
 rcases r2 with r2 | r2
 ·conv=>arg 3;whnf
  exact Zh rfl
 ·conv=>arg 3;whnf
  exact Zh rfl
def ZfM (r:Bool):D:=(D.bool r)
theorem Zfu {t0:Bool}{a:(List Zo)}{b:Zo}:∀r,(Zbz a b)=some r→evD ctx 56 [(.d (D.list t0 (List.map ZJ a))),(.d (D.agg [(Ze b.src),(Ze b.dst)]))]=some (ZfM r):=by
 show Z6 _ (fun r rhs=>rhs=some (ZfM r)) _
 unfold Zbz
 rw[ZcX ctx 56 ZAr _ rfl rfl]
 conv=>arg 3;whnf
 refine Zs _ Ziy rfl fun x0 hx0=>?_;conv=>arg 3;whnf
 refine Zg rfl ?_ ?_<;>conv=>arg 3;whnf
 ·exact Zh rfl
 ·exact Zh rfl
def Zkk (r:Bool):D:=(D.bool r)
theorem Znc {a:Zk}{b0:Int}{b1:Int}{b2:Int}:∀r,(Zd9 a b1 b2)=some r→evD ctx 82 [(.d (D.agg [(Ze a.maker),(Ze a.user),(Ze a.pos)])),(.d (D.rptr [(Ze b0),(Ze b1),(Ze b2)]))]=some (Zkk r):=by
 show Z6 _ (fun r rhs=>rhs=some (Zkk r)) _
 unfold Zd9
 rw[ZcX ctx 82 ZAF _ rfl rfl]
 conv=>arg 3;whnf
 refine Zg rfl ?_ ?_<;>conv=>arg 3;whnf
 ·refine Zg rfl ?_ ?_<;>conv=>arg 3;whnf
  ·exact Zh rfl
  ·exact Zh rfl
 ·exact Zh rfl
def ZcJ (r:Int):D:=(Ze r)
def Zcn (t0:Bool) (a:(List Zk)) (b0:Int) (b1:Int) (b2:Int):(Int⊕Unit)→Ex×List V×Zp
  | (.inl r)=>(.ret,[(.d (Ze r))],[])
  | (.inr r)=>(.exit 0,[.bad],[])
theorem Zeo {t0:Bool}{a:(List Zk)}{b0:Int}{b1:Int}{b2:Int}:∀(s0:Int) (r:(Int⊕Unit)),lp (Zbl a (fun z0=>Zd9 z0 b1 b2)) s0=some r→lpW ctx 0 [0,1,7,8] [4] Zul [(.d (D.list t0 (List.map Zt a))),(.d (D.fn 82 [(D.rptr [(Ze b0),(Ze b1),(Ze b2)])])),(.d (Ze (a.length:Int))),(.d (Ze s0))] []=some ((Zcn t0 a b0 b1 b2) r):=by
 refine Zbe (Zcn t0 a b0 b1 b2) ?_
 intro s0 rcl ih
 show Z6 _ _ (lpW _ _ _ _ _ _ _)
 unfold Zbl
 rw[Zbg]
 conv=>arg 3;whnf
 refine Zg rfl ?_ ?_<;>conv=>arg 3;whnf
 ·refine Zj rfl rfl fun x1 hx1=>?_;conv=>arg 3;whnf
  refine Zs _ Znc rfl fun x2 hx2=>?_;conv=>arg 3;whnf
  refine Zg rfl ?_ ?_<;>conv=>arg 3;whnf
  ·exact Zh rfl
  ·exact Zd (ih _)
 ·exact Zh rfl
theorem ZeN {t0:Bool}{a:(List Zk)}{b0:Int}{b1:Int}{b2:Int}:∀r,(Zb9 a (fun z0=>Zd9 z0 b1 b2))=some r→evD ctx 119 [(.d (D.list t0 (List.map Zt a))),(.d (D.fn 82 [(D.rptr [(Ze b0),(Ze b1),(Ze b2)])]))]=some (ZcJ r):=by
 show Z6 _ (fun r rhs=>rhs=some (ZcJ r)) _
 unfold Zb9
 rw[ZcX ctx 119 Zxy _ rfl rfl]
 conv=>arg 3;whnf
 refine Zq (Zal _ _) ?_;conv=>arg 3;whnf
 refine Zc _ (Zeo _) fun r3 hr3=>?_
 clear hr3
 rcases r3 with r3 | r3
 ·conv=>arg 3;whnf
  exact Zh rfl
 ·conv=>arg 3;whnf
  exact Zh rfl
def Zck (r:Bool):D:=(D.bool r)
theorem Zel {t0:Bool}{a:(List Zk)}{b0:Int}{b1:Int}{b2:Int}:∀r,(Zbm a (fun z0=>Zd9 z0 b1 b2))=some r→evD ctx 83 [(.d (D.list t0 (List.map Zt a))),(.d (D.fn 82 [(D.rptr [(Ze b0),(Ze b1),(Ze b2)])]))]=some (Zck r):=by
 show Z6 _ (fun r rhs=>rhs=some (Zck r)) _
 unfold Zbm
 rw[ZcX ctx 83 Zz7 _ rfl rfl]
 conv=>arg 3;whnf
 refine Zs _ ZeN rfl fun x0 hx0=>?_;conv=>arg 3;whnf
 refine Zg rfl ?_ ?_<;>conv=>arg 3;whnf
 ·exact Zh rfl
 ·exact Zh rfl
def Zna (r:Bool):D:=(D.bool r)
def ZkV (t0:Bool) (t1:Bool) (t2:Bool) (t3:Bool) (t4:Bool) (a:Zn) (b:(List Int)):(Unit⊕Unit)→Ex×List V×Zp
  | (.inl r)=>(.ret,[(.d (D.list t4 (List.map Ze b))),(.d (D.bool false))],[])
  | (.inr r)=>(.exit 0,[(.d (D.list t4 (List.map Ze b))),.bad],[])
theorem Zn4 {t0:Bool}{t1:Bool}{t2:Bool}{t3:Bool}{t4:Bool}{a:Zn}{b:(List Int)}:∀(s0:Int) (r:(Unit⊕Unit)),lp (Zgk a b) s0=some r→lpW ctx 0 [1,2,7,8,9] [1,4] Zw8 [(.d (D.list t4 (List.map Ze b))),(.ptr 0 0),(.d (D.list t4 (List.map Ze b))),(.d (Ze (b.length:Int))),(.d (Ze s0))] [(.cells (dV t0 t1 t2 t3 a))]=some ((ZkV t0 t1 t2 t3 t4 a b) r):=by
 refine Zbe (ZkV t0 t1 t2 t3 t4 a b) ?_
 intro s0 rcl ih
 show Z6 _ _ (lpW _ _ _ _ _ _ _)
 unfold Zgk
 rw[Zbg]
 conv=>arg 3;whnf
 refine Zg rfl ?_ ?_<;>conv=>arg 3;whnf
 ·refine Zj rfl rfl fun x1 hx1=>?_;conv=>arg 3;whnf
  refine Zq (Zal _ _) ?_;conv=>arg 3;whnf
  refine Zs _ ZcR rfl fun x2 hx2=>?_;conv=>arg 3;whnf
  refine Zg rfl ?_ ?_<;>conv=>arg 3;whnf
  ·refine Zg rfl ?_ ?_<;>conv=>arg 3;whnf
   ·refine Zj rfl rfl fun x3 hx3=>?_;conv=>arg 3;whnf
    refine Zg rfl ?_ ?_<;>conv=>arg 3;whnf
    ·exact Zh rfl
    ·exact Zd (ih _)
   ·exact Zd (ih _)
  ·exact Zh rfl
 ·exact Zh rfl
theorem Zme {t0:Bool}{t1:Bool}{t2:Bool}{t3:Bool}{t4:Bool}{a:Zn}{b:(List Int)}:∀r,(Zh4 a b)=some r→evD ctx 85 [(.d (D.agg (dA t0 t1 t2 t3 a))),(.d (D.list t4 (List.map Ze b)))]=some (Zna r):=by
 show Z6 _ (fun r rhs=>rhs=some (Zna r)) _
 unfold Zh4
 rw[ZcX ctx 85 ZzZ _ rfl rfl]
 conv=>arg 3;whnf
 refine Zq (Zal _ _) ?_;conv=>arg 3;whnf
 refine Zc _ (Zn4 _) fun r4 hr4=>?_
 clear hr4
 rcases r4 with r4 | r4
 ·conv=>arg 3;whnf
  exact Zh rfl
 ·conv=>arg 3;whnf
  refine Zq (Zal _ _) ?_;conv=>arg 3;whnf
  refine Zg rfl ?_ ?_<;>conv=>arg 3;whnf
  ·exact Zh rfl
  ·exact Zh rfl
def ZgP (r:Int):D:=(Ze r)
def Zf7 (t0:Bool) (a:(List Int)) (b:Int):(Int⊕Unit)→Ex×List V×Zp
  | (.inl r)=>(.ret,[(.d (Ze r))],[])
  | (.inr r)=>(.exit 0,[.bad],[])
theorem Zh1 {t0:Bool}{a:(List Int)}{b:Int}:∀(s0:Int) (r:(Int⊕Unit)),lp (Zcq a b) s0=some r→lpW ctx 0 [0,1,7,8] [4] ZuJ [(.d (D.list t0 (List.map Ze a))),(.d (Ze b)),(.d (Ze (a.length:Int))),(.d (Ze s0))] []=some ((Zf7 t0 a b) r):=by
 refine Zbe (Zf7 t0 a b) ?_
 intro s0 rcl ih
 show Z6 _ _ (lpW _ _ _ _ _ _ _)
 unfold Zcq
 rw[Zbg]
 conv=>arg 3;whnf
 refine Zg rfl ?_ ?_<;>conv=>arg 3;whnf
 ·refine Zj rfl rfl fun x1 hx1=>?_;conv=>arg 3;whnf
  refine Zg rfl ?_ ?_<;>conv=>arg 3;whnf
  ·exact Zh rfl
  ·exact Zd (ih _)
 ·exact Zh rfl
theorem ZiY {t0:Bool}{a:(List Int)}{b:Int}:∀r,(ZdZ a b)=some r→evD ctx 105 [(.d (D.list t0 (List.map Ze a))),(.d (Ze b))]=some (ZgP r):=by
 show Z6 _ (fun r rhs=>rhs=some (ZgP r)) _
 unfold ZdZ
 rw[ZcX ctx 105 ZxP _ rfl rfl]
 conv=>arg 3;whnf
 refine Zq (Zal _ _) ?_;conv=>arg 3;whnf
 refine Zc _ (Zh1 _) fun r2 hr2=>?_
 clear hr2
 rcases r2 with r2 | r2
 ·conv=>arg 3;whnf
  exact Zh rfl
 ·conv=>arg 3;whnf
  exact Zh rfl
def Zf4 (r:Bool):D:=(D.bool r)
theorem Zh8 {t0:Bool}{a:(List Int)}{b:Int}:∀r,(Zco a b)=some r→evD ctx 60 [(.d (D.list t0 (List.map Ze a))),(.d (Ze b))]=some (Zf4 r):=by
 show Z6 _ (fun r rhs=>rhs=some (Zf4 r)) _
 unfold Zco
 rw[ZcX ctx 60 ZzW _ rfl rfl]
 conv=>arg 3;whnf
 refine Zs _ ZiY rfl fun x0 hx0=>?_;conv=>arg 3;whnf
 refine Zg rfl ?_ ?_<;>conv=>arg 3;whnf
 ·exact Zh rfl
 ·exact Zh rfl
def Zkt (r:Bool):D:=(D.bool r)
theorem Zm8 {t0:Bool}{t1:Bool}{a:Int}{b0:(List Int)}{b1:(List Int)}:∀r,(Zeb a b1)=some r→evD ctx 84 [(.d (Ze a)),(.d (D.rptr [(D.list t0 (List.map Ze b0)),(D.list t1 (List.map Ze b1))]))]=some (Zkt r):=by
 show Z6 _ (fun r rhs=>rhs=some (Zkt r)) _
 unfold Zeb
 rw[ZcX ctx 84 ZAw _ rfl rfl]
 conv=>arg 3;whnf
 refine Zs _ Zh8 rfl fun x0 hx0=>?_;conv=>arg 3;whnf
 refine Zg rfl ?_ ?_<;>conv=>arg 3;whnf
 ·exact Zh rfl
 ·exact Zh rfl
def Zdp (r:Int):D:=(Ze r)
def Zc2 (t0:Bool) (t1:Bool) (t2:Bool) (a:(List Int)) (b0:(List Int)) (b1:(List Int)):(Int⊕Unit)→Ex×List V×Zp
  | (.inl r)=>(.ret,[(.d (Ze r))],[])
  | (.inr r)=>(.exit 0,[.bad],[])
theorem Zfi {t0:Bool}{t1:Bool}{t2:Bool}{a:(List Int)}{b0:(List Int)}{b1:(List Int)}:∀(s0:Int) (r:(Int⊕Unit)),lp (Za4 a (fun z0=>Zeb z0 b1)) s0=some r→lpW ctx 0 [0,1,7,8] [4] Zr0 [(.d (D.list t0 (List.map Ze a))),(.d (D.fn 84 [(D.rptr [(D.list t1 (List.map Ze b0)),(D.list t2 (List.map Ze b1))])])),(.d (Ze (a.length:Int))),(.d (Ze s0))] []=some ((Zc2 t0 t1 t2 a b0 b1) r):=by
 refine Zbe (Zc2 t0 t1 t2 a b0 b1) ?_
 intro s0 rcl ih
 show Z6 _ _ (lpW _ _ _ _ _ _ _)
 unfold Za4
 rw[Zbg]
 conv=>arg 3;whnf
 refine Zg rfl ?_ ?_<;>conv=>arg 3;whnf
 ·refine Zj rfl rfl fun x1 hx1=>?_;conv=>arg 3;whnf
  refine Zs _ Zm8 rfl fun x2 hx2=>?_;conv=>arg 3;whnf
  refine Zg rfl ?_ ?_<;>conv=>arg 3;whnf
  ·exact Zh rfl
  ·exact Zd (ih _)
 ·exact Zh rfl
theorem ZfN {t0:Bool}{t1:Bool}{t2:Bool}{a:(List Int)}{b0:(List Int)}{b1:(List Int)}:∀r,(ZbC a (fun z0=>Zeb z0 b1))=some r→evD ctx 101 [(.d (D.list t0 (List.map Ze a))),(.d (D.fn 84 [(D.rptr [(D.list t1 (List.map Ze b0)),(D.list t2 (List.map Ze b1))])]))]=some (Zdp r):=by
 show Z6 _ (fun r rhs=>rhs=some (Zdp r)) _
 unfold ZbC
 rw[ZcX ctx 101 Zuo _ rfl rfl]
 conv=>arg 3;whnf
 refine Zq (Zal _ _) ?_;conv=>arg 3;whnf
 refine Zc _ (Zfi _) fun r3 hr3=>?_
 clear hr3
 rcases r3 with r3 | r3
 ·conv=>arg 3;whnf
  exact Zh rfl
 ·conv=>arg 3;whnf
  exact Zh rfl
def Zc3 (r:Bool):D:=(D.bool r)
theorem Zfl {t0:Bool}{t1:Bool}{t2:Bool}{a:(List Int)}{b0:(List Int)}{b1:(List Int)}:∀r,(ZaH a (fun z0=>Zeb z0 b1))=some r→evD ctx 53 [(.d (D.list t0 (List.map Ze a))),(.d (D.fn 84 [(D.rptr [(D.list t1 (List.map Ze b0)),(D.list t2 (List.map Ze b1))])]))]=some (Zc3 r):=by
 show Z6 _ (fun r rhs=>rhs=some (Zc3 r)) _
 unfold ZaH
 rw[ZcX ctx 53 Zzx _ rfl rfl]
 conv=>arg 3;whnf
 refine Zs _ ZfN rfl fun x0 hx0=>?_;conv=>arg 3;whnf
 refine Zg rfl ?_ ?_<;>conv=>arg 3;whnf
 ·exact Zh rfl
 ·exact Zh rfl
def Zlw (r:Int):D:=(Ze r)
def ZjC (t0:Bool) (t1:Bool) (t2:Bool) (t3:Bool) (a:Zn):(Unit⊕Unit)→Ex×List V×Zp
  | (.inl r)=>(.ret,[(.ptr 0 0),(.d (Ze 53))],[(.cells (dV t0 t1 t2 t3 a))])
  | (.inr r)=>(.exit 0,[(.ptr 0 0),.bad],[(.cells (dV t0 t1 t2 t3 a))])
theorem Zmn {t0:Bool}{t1:Bool}{t2:Bool}{t3:Bool}{a:Zn}:∀(s4:Int) (r:(Unit⊕Unit)),lp (Zen a) s4=some r→lpW ctx 0 [1,61,62,63] [1,2] Zxg [(.ptr 0 0),(.d (D.list t1 (List.map ZJ a.edges))),(.d (Ze (a.edges.length:Int))),(.d (Ze s4))] [(.cells (dV t0 t1 t2 t3 a))]=some ((ZjC t0 t1 t2 t3 a) r):=by
 refine Zbe (ZjC t0 t1 t2 t3 a) ?_
 intro s4 rcl ih
 show Z6 _ _ (lpW _ _ _ _ _ _ _)
 unfold Zen
 rw[Zbg]
 conv=>arg 3;whnf
 refine Zg rfl ?_ ?_<;>conv=>arg 3;whnf
 ·refine Zj rfl rfl fun x5 hx5=>?_;conv=>arg 3;whnf
  refine Zs _ Zl7 rfl fun x6 hx6=>?_;conv=>arg 3;whnf
  refine Zg rfl ?_ ?_<;>conv=>arg 3;whnf
  ·refine Zg rfl ?_ ?_
   ·conv=>arg 3;whnf
    refine Zg (Zxa ZJ a.edges s4.toNat) ?_ ?_
    ·conv=>arg 3;whnf
     refine ZbI rfl ?_;conv=>arg 3;whnf
     refine Zq (ZrT ZJ a.edges s4.toNat) ?_;conv=>arg 3;whnf
     refine Zs _ Zfu rfl fun x7 hx7=>?_;conv=>arg 3;whnf
     refine Zg rfl ?_ ?_<;>conv=>arg 3;whnf
     ·exact Zh rfl
     ·exact Zd (ih _)
    ·exact ZbF
   ·exact ZbF
  ·exact Zh rfl
 ·exact Zh rfl
def ZjE (t0:Bool) (t1:Bool) (t2:Bool) (t3:Bool) (a:Zn):(Unit⊕Unit)→Ex×List V×Zp
  | (.inl r)=>(.ret,[(.ptr 0 0),(.d (Ze 54))],[(.cells (dV t0 t1 t2 t3 a))])
  | (.inr r)=>(.exit 2,[(.ptr 0 0),.bad],[(.cells (dV t0 t1 t2 t3 a))])
theorem ZmD {t0:Bool}{t1:Bool}{t2:Bool}{t3:Bool}{a:Zn}:∀(s9:Int) (r:(Unit⊕Unit)),lp (Zer a) s9=some r→lpW ctx 0 [1,85,86,87] [1,2] Zwi [(.ptr 0 0),(.d (D.list t2 (List.map Zt a.futures))),(.d (Ze (a.futures.length:Int))),(.d (Ze s9))] [(.cells (dV t0 t1 t2 t3 a))]=some ((ZjE t0 t1 t2 t3 a) r):=by
 refine Zbe (ZjE t0 t1 t2 t3 a) ?_
 intro s9 rcl ih
 show Z6 _ _ (lpW _ _ _ _ _ _ _)
 unfold Zer
 rw[Zbg]
 conv=>arg 3;whnf
 refine Zg rfl ?_ ?_<;>conv=>arg 3;whnf
 ·refine Zj rfl rfl fun x10 hx10=>?_;conv=>arg 3;whnf
  refine Zs _ Zl7 rfl fun x11 hx11=>?_;conv=>arg 3;whnf
  refine Zg rfl ?_ ?_<;>conv=>arg 3;whnf
  ·refine Zj rfl rfl fun x12 hx12=>?_;conv=>arg 3;whnf
   refine Zs _ ZcR rfl fun x13 hx13=>?_;conv=>arg 3;whnf
   refine Zg rfl ?_ ?_<;>conv=>arg 3;whnf
   ·refine Zg rfl ?_ ?_
    ·conv=>arg 3;whnf
     refine Zg (Zxa Zt a.futures s9.toNat) ?_ ?_
     ·conv=>arg 3;whnf
      refine ZbI rfl ?_;conv=>arg 3;whnf
      refine Zq (ZrT Zt a.futures s9.toNat) ?_;conv=>arg 3;whnf
      refine Zs _ Zel rfl fun x14 hx14=>?_;conv=>arg 3;whnf
      refine Zg rfl ?_ ?_<;>conv=>arg 3;whnf
      ·exact Zh rfl
      ·exact Zd (ih _)
     ·exact ZbF
    ·exact ZbF
   ·exact Zh rfl
  ·exact Zh rfl
 ·exact Zh rfl
def ZjD (t0:Bool) (t1:Bool) (t2:Bool) (t3:Bool) (a:Zn):(Unit⊕Unit)→Ex×List V×Zp
  | (.inl r)=>(.ret,[(.d (Ze 55))],[])
  | (.inr r)=>(.exit 4,[.bad],[])
theorem ZmA {t0:Bool}{t1:Bool}{t2:Bool}{t3:Bool}{a:Zn}:∀(s16:Int) (r:(Unit⊕Unit)),lp (Zep a) s16=some r→lpW ctx 0 [1,124,125,126] [2] ZxQ [(.ptr 0 0),(.d (D.list t3 (List.map ZA a.barriers))),(.d (Ze (a.barriers.length:Int))),(.d (Ze s16))] [(.cells (dV t0 t1 t2 t3 a))]=some ((ZjD t0 t1 t2 t3 a) r):=by
 refine Zbe (ZjD t0 t1 t2 t3 a) ?_
 intro s16 rcl ih
 show Z6 _ _ (lpW _ _ _ _ _ _ _)
 unfold Zep
 rw[Zbg]
 conv=>arg 3;whnf
 refine Zg rfl ?_ ?_<;>conv=>arg 3;whnf
 ·refine Zj rfl rfl fun x17 hx17=>?_;conv=>arg 3;whnf
  refine Zs _ Zme rfl fun x18 hx18=>?_;conv=>arg 3;whnf
  refine Zg rfl ?_ ?_<;>conv=>arg 3;whnf
  ·refine Zs _ Zme rfl fun x19 hx19=>?_;conv=>arg 3;whnf
   refine Zg rfl ?_ ?_<;>conv=>arg 3;whnf
   ·refine Zs _ Zfl rfl fun x20 hx20=>?_;conv=>arg 3;whnf
    refine Zg rfl ?_ ?_<;>conv=>arg 3;whnf
    ·exact Zh rfl
    ·exact Zd (ih _)
   ·exact Zh rfl
  ·exact Zh rfl
 ·exact Zh rfl
theorem ZkZ {t0:Bool}{t1:Bool}{t2:Bool}{t3:Bool}{a:Zn}:∀r,(ZgY a)=some r→evD ctx 41 [(.d (D.agg (dA t0 t1 t2 t3 a)))]=some (Zlw r):=by
 show Z6 _ (fun r rhs=>rhs=some (Zlw r)) _
 unfold ZgY
 rw[ZcX ctx 41 ZAq _ rfl rfl]
 conv=>arg 3;whnf
 refine Zq (Zal _ _) ?_;conv=>arg 3;whnf
 refine Zs _ ZcR rfl fun x0 hx0=>?_;conv=>arg 3;whnf
 refine Zg rfl ?_ ?_<;>conv=>arg 3;whnf
 ·refine Zq (Zal _ _) ?_;conv=>arg 3;whnf
  refine Zg rfl ?_ ?_<;>conv=>arg 3;whnf
  ·exact Zh rfl
  ·refine Zq (Zal _ _) ?_;conv=>arg 3;whnf
   refine Zg rfl ?_ ?_<;>conv=>arg 3;whnf
   ·exact Zh rfl
   ·refine Zq (Zal _ _) ?_;conv=>arg 3;whnf
    refine Zg rfl ?_ ?_<;>conv=>arg 3;whnf
    ·exact Zh rfl
    ·refine Zs _ ZrB rfl fun x1 hx1=>?_;conv=>arg 3;whnf
     refine Zg rfl ?_ ?_<;>conv=>arg 3;whnf
     ·refine Zg rfl ?_ ?_<;>conv=>arg 3;whnf
      ·exact Zh rfl
      ·refine Zs _ ZcR rfl fun x2 hx2=>?_;conv=>arg 3;whnf
       refine Zg rfl ?_ ?_<;>conv=>arg 3;whnf
       ·refine Zs _ Zfx rfl fun x3 hx3=>?_;conv=>arg 3;whnf
        refine Zg rfl ?_ ?_<;>conv=>arg 3;whnf
        ·exact Zh rfl
        ·refine Zq (Zal _ _) ?_;conv=>arg 3;whnf
         refine Zc _ (Zmn _) fun r8 hr8=>?_
         clear hr8
         rcases r8 with r8 | r8
         ·conv=>arg 3;whnf
          exact Zh rfl
         ·conv=>arg 3;whnf
          refine Zq (Zal _ _) ?_;conv=>arg 3;whnf
          refine Zc _ (ZmD _) fun r15 hr15=>?_
          clear hr15
          rcases r15 with r15 | r15
          ·conv=>arg 3;whnf
           exact Zh rfl
          ·conv=>arg 3;whnf
           refine Zq (Zal _ _) ?_;conv=>arg 3;whnf
           refine Zc _ (ZmA _) fun r21 hr21=>?_
           clear hr21
           rcases r21 with r21 | r21
           ·conv=>arg 3;whnf
            exact Zh rfl
           ·conv=>arg 3;whnf
            exact Zh rfl
       ·exact Zh rfl
     ·exact Zh rfl
 ·exact Zh rfl
def Zjd (r:Int):D:=(Ze r)
theorem ZN {t0:Bool}{t1:Bool}{t2:Bool}{t3:Bool}{a:Int}{b:Int}{c0:Int}{c1:Int}{c2:(List Zam)}{c3:(List Zo)}{c4:(List Zk)}{c5:(List Zu)}:∀r,(Zw a b c4)=some r→evD ctx 121 [(.d (Ze a)),(.d (Ze b)),(.d (D.rptr [(Ze c0),(Ze c1),(D.list t0 (List.map Zau c2)),(D.list t1 (List.map ZJ c3)),(D.list t2 (List.map Zt c4)),(D.list t3 (List.map ZA c5))]))]=some (Zjd r):=by
 show Z6 _ (fun r rhs=>rhs=some (Zjd r)) _
 unfold Zw
 rw[ZcX ctx 121 Zwx _ rfl rfl]
 conv=>arg 3;whnf
 refine Zj rfl rfl fun x0 hx0=>?_;conv=>arg 3;whnf
 refine Zj rfl rfl fun x1 hx1=>?_;conv=>arg 3;whnf
 exact Zh rfl
def ZiL (r:Int):D:=(Ze r)
theorem Zla {a:Int}:∀r,(ZhO a)=some r→evD ctx 151 [(.d (D.int .u64 a))]=some (ZiL r):=by
 show Z6 _ (fun r rhs=>rhs=some (ZiL r)) _
 unfold ZhO
 rw[ZcX ctx 151 ZxA _ rfl rfl]
 conv=>arg 3;whnf
 refine Zg rfl ?_ ?_<;>conv=>arg 3;whnf
 ·refine ZQ rfl ?_;conv=>arg 3;whnf
  refine Zg rfl ?_ ?_<;>conv=>arg 3;whnf
  ·refine ZQ rfl ?_;conv=>arg 3;whnf
   refine Zg rfl ?_ ?_<;>conv=>arg 3;whnf
   ·refine ZQ rfl ?_;conv=>arg 3;whnf
    refine Zg rfl ?_ ?_
    ·conv=>arg 3;whnf
     refine Zij rfl fun x0 hx0=>?_;conv=>arg 3;whnf
     exact Zh rfl
    ·exact ZbF
   ·refine Zg rfl ?_ ?_
    ·conv=>arg 3;whnf
     refine Zij rfl fun x1 hx1=>?_;conv=>arg 3;whnf
     exact Zh rfl
    ·exact ZbF
  ·refine Zg rfl ?_ ?_<;>conv=>arg 3;whnf
   ·refine ZQ rfl ?_;conv=>arg 3;whnf
    refine Zg rfl ?_ ?_
    ·conv=>arg 3;whnf
     refine Zij rfl fun x2 hx2=>?_;conv=>arg 3;whnf
     exact Zh rfl
    ·exact ZbF
   ·refine Zg rfl ?_ ?_
    ·conv=>arg 3;whnf
     refine Zij rfl fun x3 hx3=>?_;conv=>arg 3;whnf
     exact Zh rfl
    ·exact ZbF
 ·refine Zg rfl ?_ ?_<;>conv=>arg 3;whnf
  ·refine ZQ rfl ?_;conv=>arg 3;whnf
   refine Zg rfl ?_ ?_<;>conv=>arg 3;whnf
   ·refine ZQ rfl ?_;conv=>arg 3;whnf
    refine Zg rfl ?_ ?_
    ·conv=>arg 3;whnf
     refine Zij rfl fun x4 hx4=>?_;conv=>arg 3;whnf
     exact Zh rfl
    ·exact ZbF
   ·refine Zg rfl ?_ ?_
    ·conv=>arg 3;whnf
     refine Zij rfl fun x5 hx5=>?_;conv=>arg 3;whnf
     exact Zh rfl
    ·exact ZbF
  ·refine Zg rfl ?_ ?_<;>conv=>arg 3;whnf
   ·refine ZQ rfl ?_;conv=>arg 3;whnf
    refine Zg rfl ?_ ?_
    ·conv=>arg 3;whnf
     refine Zij rfl fun x6 hx6=>?_;conv=>arg 3;whnf
     exact Zh rfl
    ·exact ZbF
   ·refine Zg rfl ?_ ?_
    ·conv=>arg 3;whnf
     refine Zij rfl fun x7 hx7=>?_;conv=>arg 3;whnf
     exact Zh rfl
    ·exact ZbF
def Zjx (r:Int):D:=(Ze r)
theorem Zhv {a:Int}:∀r,(Zet a)=some r→evD ctx 139 [(.d (D.int .u64 a))]=some (Zjx r):=by
 show Z6 _ (fun r rhs=>rhs=some (Zjx r)) _
 unfold Zet
 rw[ZcX ctx 139 Zxf _ rfl rfl]
 conv=>arg 3;whnf
 refine Zs _ Zla rfl fun x0 hx0=>?_;conv=>arg 3;whnf
 exact Zh rfl
def ZcA (t0:Bool) (t1:Bool) (t2:Bool) (t3:Bool) (b:Int) (c:Int) (m0_0:(List Int)) (m1_0:Int) (m1_1:Int) (m1_2:(List Zam)) (m1_3:(List Zo)) (m1_4:(List Zk)) (m1_5:(List Zu)):(List Int)→V×Zp
  | r=>((.d (D.tup [])),[(.arr 1 (List.map Ze r)),(.cells [(.d (Ze m1_0)),(.d (Ze m1_1)),(.d (D.list t0 (List.map Zau m1_2))),(.d (D.list t1 (List.map ZJ m1_3))),(.d (D.list t2 (List.map Zt m1_4))),(.d (D.list t3 (List.map ZA m1_5)))])])
def Zcd (t0:Bool) (t1:Bool) (t2:Bool) (t3:Bool) (b:Int) (c:Int) (m1_0:Int) (m1_1:Int) (m1_2:(List Zam)) (m1_3:(List Zo)) (m1_4:(List Zk)) (m1_5:(List Zu)) (s0:Int×(List Int)):(List Int)→Ex×List V×Zp
  | r=>(.exit 2,[(.sl 0 1),(.d (Ze b)),(.d (Ze c)),(.fn 121 [(.ptr 1 0)]),(.d (Ze s0.1))],[(.arr 1 (List.map Ze r)),(.cells [(.d (Ze m1_0)),(.d (Ze m1_1)),(.d (D.list t0 (List.map Zau m1_2))),(.d (D.list t1 (List.map ZJ m1_3))),(.d (D.list t2 (List.map Zt m1_4))),(.d (D.list t3 (List.map ZA m1_5)))])])
theorem Zec {t0:Bool}{t1:Bool}{t2:Bool}{t3:Bool}{b:Int}{c:Int}{m1_0:Int}{m1_1:Int}{m1_2:(List Zam)}{m1_3:(List Zo)}{m1_4:(List Zk)}{m1_5:(List Zu)}{s0:Int×(List Int)}:∀(s1:Int×(List Int)) (r:(List Int)),lp (Z3 b (fun z0 z1=>Zw z0 z1 m1_4)) s1=some r→lpW ctx 2 [0,1,2,3,8,9] [0,1,2,3,8] Zuv [(.sl 0 1),(.d (Ze b)),(.d (Ze c)),(.fn 121 [(.ptr 1 0)]),(.d (Ze s0.1)),(.d (Ze s1.1))] [(.arr 1 (List.map Ze s1.2)),(.cells [(.d (Ze m1_0)),(.d (Ze m1_1)),(.d (D.list t0 (List.map Zau m1_2))),(.d (D.list t1 (List.map ZJ m1_3))),(.d (D.list t2 (List.map Zt m1_4))),(.d (D.list t3 (List.map ZA m1_5)))])]=some ((Zcd t0 t1 t2 t3 b c m1_0 m1_1 m1_2 m1_3 m1_4 m1_5 s0) r):=by
 refine Zbe (Zcd t0 t1 t2 t3 b c m1_0 m1_1 m1_2 m1_3 m1_4 m1_5 s0) ?_
 intro s1 rcl ih
 show Z6 _ _ (lpW _ _ _ _ _ _ _)
 unfold Z3
 rw[Zbg]
 conv=>arg 3;whnf
 refine Zg rfl ?_ ?_<;>conv=>arg 3;whnf
 ·refine Zj rfl rfl fun x2 hx2=>?_;conv=>arg 3;whnf
  refine Zf (Zl rfl hx2) ?_;conv=>arg 3;whnf
  refine Zj rfl rfl fun x3 hx3=>?_;conv=>arg 3;whnf
  refine Zf (Zl rfl hx3) ?_;conv=>arg 3;whnf
  refine Zs _ ZN rfl fun x4 hx4=>?_;conv=>arg 3;whnf
  refine Zg rfl ?_ ?_<;>conv=>arg 3;whnf
  ·refine Zf (Zay rfl hx3) ?_;conv=>arg 3;whnf
   refine Zf (Zl rfl hx3) ?_;conv=>arg 3;whnf
   refine Zf (Zay rfl hx2) ?_;conv=>arg 3;whnf
   refine Zf (Zl rfl hx2) ?_;conv=>arg 3;whnf
   refine Zf (Zay rfl hx2) ?_;conv=>arg 3;whnf
   refine Zf (Zl rfl hx2) ?_;conv=>arg 3;whnf
   refine Zq (ZZ Ze s1.2 s1.1.toNat x3) ?_;conv=>arg 3;whnf
   refine Zj rfl rfl fun x5 hx5=>?_;conv=>arg 3;whnf
   refine Zf (Zl rfl hx5) ?_;conv=>arg 3;whnf
   refine Zq (ZZ Ze (List.set s1.2 s1.1.toNat x3) (w64 (s1.1-1)).toNat x2) ?_;conv=>arg 3;whnf
   exact Zd (ih _)
  ·exact Zh rfl
 ·exact Zh rfl
def Zcf (t0:Bool) (t1:Bool) (t2:Bool) (t3:Bool) (b:Int) (c:Int) (m1_0:Int) (m1_1:Int) (m1_2:(List Zam)) (m1_3:(List Zo)) (m1_4:(List Zk)) (m1_5:(List Zu)):(List Int)→Ex×List V×Zp
  | r=>(.exit 0,[],[(.arr 1 (List.map Ze r)),(.cells [(.d (Ze m1_0)),(.d (Ze m1_1)),(.d (D.list t0 (List.map Zau m1_2))),(.d (D.list t1 (List.map ZJ m1_3))),(.d (D.list t2 (List.map Zt m1_4))),(.d (D.list t3 (List.map ZA m1_5)))])])
theorem Zed {t0:Bool}{t1:Bool}{t2:Bool}{t3:Bool}{b:Int}{c:Int}{m1_0:Int}{m1_1:Int}{m1_2:(List Zam)}{m1_3:(List Zo)}{m1_4:(List Zk)}{m1_5:(List Zu)}:∀(s0:Int×(List Int)) (r:(List Int)),lp (Zak b c (fun z0 z1=>Zw z0 z1 m1_4)) s0=some r→lpW ctx 2 [0,1,2,3,8] [] ZuP [(.sl 0 1),(.d (Ze b)),(.d (Ze c)),(.fn 121 [(.ptr 1 0)]),(.d (Ze s0.1))] [(.arr 1 (List.map Ze s0.2)),(.cells [(.d (Ze m1_0)),(.d (Ze m1_1)),(.d (D.list t0 (List.map Zau m1_2))),(.d (D.list t1 (List.map ZJ m1_3))),(.d (D.list t2 (List.map Zt m1_4))),(.d (D.list t3 (List.map ZA m1_5)))])]=some ((Zcf t0 t1 t2 t3 b c m1_0 m1_1 m1_2 m1_3 m1_4 m1_5) r):=by
 refine Zbe (Zcf t0 t1 t2 t3 b c m1_0 m1_1 m1_2 m1_3 m1_4 m1_5) ?_
 intro s0 rcl ih
 show Z6 _ _ (lpW _ _ _ _ _ _ _)
 unfold Zak
 rw[Zbg]
 conv=>arg 3;whnf
 refine Zg rfl ?_ ?_<;>conv=>arg 3;whnf
 ·refine Zc _ (Zec _) fun r6 hr6=>?_;conv=>arg 3;whnf
  exact Zd (ih _)
 ·exact Zh rfl
theorem ZaO {t0:Bool}{t1:Bool}{t2:Bool}{t3:Bool}{b:Int}{c:Int}{m0_0:(List Int)}{m1_0:Int}{m1_1:Int}{m1_2:(List Zam)}{m1_3:(List Zo)}{m1_4:(List Zk)}{m1_5:(List Zu)}:∀r,(Z4 b c (fun z0 z1=>Zw z0 z1 m1_4) m0_0)=some r→evW ctx 142 [(.sl 0 1),(.d (Ze b)),(.d (Ze c)),(.fn 121 [(.ptr 1 0)])] [(.arr 1 (List.map Ze m0_0)),(.cells [(.d (Ze m1_0)),(.d (Ze m1_1)),(.d (D.list t0 (List.map Zau m1_2))),(.d (D.list t1 (List.map ZJ m1_3))),(.d (D.list t2 (List.map Zt m1_4))),(.d (D.list t3 (List.map ZA m1_5)))])]=some ((ZcA t0 t1 t2 t3 b c m0_0 m1_0 m1_1 m1_2 m1_3 m1_4 m1_5) r):=by
 show Z6 _ (fun r rhs=>rhs=some ((ZcA t0 t1 t2 t3 b c m0_0 m1_0 m1_1 m1_2 m1_3 m1_4 m1_5) r)) _
 unfold Z4
 rw[Zeh ctx 142 ZxB _ _ rfl rfl]
 conv=>arg 3;whnf
 refine Zc _ (Zed _) fun r7 hr7=>?_;conv=>arg 3;whnf
 exact Zh rfl
def Zdh (t0:Bool) (t1:Bool) (t2:Bool) (t3:Bool) (b:Int) (c:Int) (d:Int) (m0_0:(List Int)) (m1_0:Int) (m1_1:Int) (m1_2:(List Zam)) (m1_3:(List Zo)) (m1_4:(List Zk)) (m1_5:(List Zu)):(List Int)→V×Zp
  | r=>((.d (D.tup [])),[(.arr 1 (List.map Ze r)),(.cells [(.d (Ze m1_0)),(.d (Ze m1_1)),(.d (D.list t0 (List.map Zau m1_2))),(.d (D.list t1 (List.map ZJ m1_3))),(.d (D.list t2 (List.map Zt m1_4))),(.d (D.list t3 (List.map ZA m1_5)))])])
def ZcP (t0:Bool) (t1:Bool) (t2:Bool) (t3:Bool) (c:Int) (d:Int) (m1_0:Int) (m1_1:Int) (m1_2:(List Zam)) (m1_3:(List Zo)) (m1_4:(List Zk)) (m1_5:(List Zu)):((List Int)⊕(List Int))→Ex×List V×Zp
  | (.inl r)=>(.exit 0,[],[(.arr 1 (List.map Ze r)),(.cells [(.d (Ze m1_0)),(.d (Ze m1_1)),(.d (D.list t0 (List.map Zau m1_2))),(.d (D.list t1 (List.map ZJ m1_3))),(.d (D.list t2 (List.map Zt m1_4))),(.d (D.list t3 (List.map ZA m1_5)))])])
  | (.inr r)=>(.ret,[],[(.arr 1 (List.map Ze r)),(.cells [(.d (Ze m1_0)),(.d (Ze m1_1)),(.d (D.list t0 (List.map Zau m1_2))),(.d (D.list t1 (List.map ZJ m1_3))),(.d (D.list t2 (List.map Zt m1_4))),(.d (D.list t3 (List.map ZA m1_5)))])])
theorem ZeY {t0:Bool}{t1:Bool}{t2:Bool}{t3:Bool}{c:Int}{d:Int}{m1_0:Int}{m1_1:Int}{m1_2:(List Zam)}{m1_3:(List Zo)}{m1_4:(List Zk)}{m1_5:(List Zu)}:∀(s0:Int×(List Int)) (r:((List Int)⊕(List Int))),lp (ZM c d (fun z0 z1=>Zw z0 z1 m1_4)) s0=some r→lpW ctx 2 [0,2,3,4,10] [] Zt6 [(.sl 0 1),(.d (Ze c)),(.d (Ze d)),(.fn 121 [(.ptr 1 0)]),(.d (Ze s0.1))] [(.arr 1 (List.map Ze s0.2)),(.cells [(.d (Ze m1_0)),(.d (Ze m1_1)),(.d (D.list t0 (List.map Zau m1_2))),(.d (D.list t1 (List.map ZJ m1_3))),(.d (D.list t2 (List.map Zt m1_4))),(.d (D.list t3 (List.map ZA m1_5)))])]=some ((ZcP t0 t1 t2 t3 c d m1_0 m1_1 m1_2 m1_3 m1_4 m1_5) r):=by
 refine Zbe (ZcP t0 t1 t2 t3 c d m1_0 m1_1 m1_2 m1_3 m1_4 m1_5) ?_
 intro s0 rcl ih
 show Z6 _ _ (lpW _ _ _ _ _ _ _)
 unfold ZM
 rw[Zbg]
 conv=>arg 3;whnf
 refine Zg rfl ?_ ?_<;>conv=>arg 3;whnf
 ·exact Zh rfl
 ·refine Zg rfl ?_ ?_<;>conv=>arg 3;whnf
  ·refine Zj rfl rfl fun x1 hx1=>?_;conv=>arg 3;whnf
   refine Zf (Zl rfl hx1) ?_;conv=>arg 3;whnf
   refine Zj rfl rfl fun x2 hx2=>?_;conv=>arg 3;whnf
   refine Zf (Zl rfl hx2) ?_;conv=>arg 3;whnf
   refine Zs _ ZN rfl fun x3 hx3=>?_;conv=>arg 3;whnf
   refine Zg rfl ?_ ?_<;>conv=>arg 3;whnf
   ·refine Zj rfl rfl fun x4 hx4=>?_;conv=>arg 3;whnf
    refine Zf (Zl rfl hx4) ?_;conv=>arg 3;whnf
    refine Zj rfl rfl fun x5 hx5=>?_;conv=>arg 3;whnf
    refine Zf (Zl rfl hx5) ?_;conv=>arg 3;whnf
    refine Zs _ ZN rfl fun x6 hx6=>?_;conv=>arg 3;whnf
    refine Zg rfl ?_ ?_<;>conv=>arg 3;whnf
    ·refine Zf (Zay rfl hx5) ?_;conv=>arg 3;whnf
     refine Zf (Zl rfl hx5) ?_;conv=>arg 3;whnf
     refine Zf (Zay rfl hx4) ?_;conv=>arg 3;whnf
     refine Zf (Zl rfl hx4) ?_;conv=>arg 3;whnf
     refine Zf (Zay rfl hx4) ?_;conv=>arg 3;whnf
     refine Zf (Zl rfl hx4) ?_;conv=>arg 3;whnf
     refine Zq (ZZ Ze s0.2 (w64 (d+s0.1)).toNat x5) ?_;conv=>arg 3;whnf
     refine Zj rfl rfl fun x7 hx7=>?_;conv=>arg 3;whnf
     refine Zf (Zl rfl hx7) ?_;conv=>arg 3;whnf
     refine Zq (ZZ Ze (List.set s0.2 (w64 (d+s0.1)).toNat x5) (w64 (d+(w64 ((w64 ((w64 (2*s0.1))+1))+1)))).toNat x4) ?_;conv=>arg 3;whnf
     exact Zd (ih _)
    ·exact Zh rfl
   ·refine Zj rfl rfl fun x8 hx8=>?_;conv=>arg 3;whnf
    refine Zf (Zl rfl hx8) ?_;conv=>arg 3;whnf
    refine Zf (Zay rfl hx1) ?_;conv=>arg 3;whnf
    refine Zf (Zl rfl hx1) ?_;conv=>arg 3;whnf
    refine Zs _ ZN rfl fun x9 hx9=>?_;conv=>arg 3;whnf
    refine Zg rfl ?_ ?_<;>conv=>arg 3;whnf
    ·refine Zf (Zay rfl hx1) ?_;conv=>arg 3;whnf
     refine Zf (Zl rfl hx1) ?_;conv=>arg 3;whnf
     refine Zf (Zay rfl hx8) ?_;conv=>arg 3;whnf
     refine Zf (Zl rfl hx8) ?_;conv=>arg 3;whnf
     refine Zf (Zay rfl hx8) ?_;conv=>arg 3;whnf
     refine Zf (Zl rfl hx8) ?_;conv=>arg 3;whnf
     refine Zq (ZZ Ze s0.2 (w64 (d+s0.1)).toNat x1) ?_;conv=>arg 3;whnf
     refine Zj rfl rfl fun x10 hx10=>?_;conv=>arg 3;whnf
     refine Zf (Zl rfl hx10) ?_;conv=>arg 3;whnf
     refine Zq (ZZ Ze (List.set s0.2 (w64 (d+s0.1)).toNat x1) (w64 (d+(w64 ((w64 (2*s0.1))+1)))).toNat x8) ?_;conv=>arg 3;whnf
     exact Zd (ih _)
    ·exact Zh rfl
  ·refine Zj rfl rfl fun x11 hx11=>?_;conv=>arg 3;whnf
   refine Zf (Zl rfl hx11) ?_;conv=>arg 3;whnf
   refine Zj rfl rfl fun x12 hx12=>?_;conv=>arg 3;whnf
   refine Zf (Zl rfl hx12) ?_;conv=>arg 3;whnf
   refine Zs _ ZN rfl fun x13 hx13=>?_;conv=>arg 3;whnf
   refine Zg rfl ?_ ?_<;>conv=>arg 3;whnf
   ·refine Zf (Zay rfl hx12) ?_;conv=>arg 3;whnf
    refine Zf (Zl rfl hx12) ?_;conv=>arg 3;whnf
    refine Zf (Zay rfl hx11) ?_;conv=>arg 3;whnf
    refine Zf (Zl rfl hx11) ?_;conv=>arg 3;whnf
    refine Zf (Zay rfl hx11) ?_;conv=>arg 3;whnf
    refine Zf (Zl rfl hx11) ?_;conv=>arg 3;whnf
    refine Zq (ZZ Ze s0.2 (w64 (d+s0.1)).toNat x12) ?_;conv=>arg 3;whnf
    refine Zj rfl rfl fun x14 hx14=>?_;conv=>arg 3;whnf
    refine Zf (Zl rfl hx14) ?_;conv=>arg 3;whnf
    refine Zq (ZZ Ze (List.set s0.2 (w64 (d+s0.1)).toNat x12) (w64 (d+(w64 ((w64 (2*s0.1))+1)))).toNat x11) ?_;conv=>arg 3;whnf
    exact Zd (ih _)
   ·exact Zh rfl
theorem Zc1 {t0:Bool}{t1:Bool}{t2:Bool}{t3:Bool}{b:Int}{c:Int}{d:Int}{m0_0:(List Int)}{m1_0:Int}{m1_1:Int}{m1_2:(List Zam)}{m1_3:(List Zo)}{m1_4:(List Zk)}{m1_5:(List Zu)}:∀r,(ZaK b c d (fun z0 z1=>Zw z0 z1 m1_4) m0_0)=some r→evW ctx 161 [(.sl 0 1),(.d (Ze b)),(.d (Ze c)),(.d (Ze d)),(.fn 121 [(.ptr 1 0)])] [(.arr 1 (List.map Ze m0_0)),(.cells [(.d (Ze m1_0)),(.d (Ze m1_1)),(.d (D.list t0 (List.map Zau m1_2))),(.d (D.list t1 (List.map ZJ m1_3))),(.d (D.list t2 (List.map Zt m1_4))),(.d (D.list t3 (List.map ZA m1_5)))])]=some ((Zdh t0 t1 t2 t3 b c d m0_0 m1_0 m1_1 m1_2 m1_3 m1_4 m1_5) r):=by
 show Z6 _ (fun r rhs=>rhs=some ((Zdh t0 t1 t2 t3 b c d m0_0 m1_0 m1_1 m1_2 m1_3 m1_4 m1_5) r)) _
 unfold ZaK
 rw[Zeh ctx 161 Zwu _ _ rfl rfl]
 conv=>arg 3;whnf
 refine Zc _ (ZeY _) fun r15 hr15=>?_
 clear hr15
 rcases r15 with r15 | r15
 ·conv=>arg 3;whnf
  exact Zh rfl
 ·conv=>arg 3;whnf
  exact Zh rfl
def Zdg (t0:Bool) (t1:Bool) (t2:Bool) (t3:Bool) (b:Int) (c:Int) (m0_0:(List Int)) (m1_0:Int) (m1_1:Int) (m1_2:(List Zam)) (m1_3:(List Zo)) (m1_4:(List Zk)) (m1_5:(List Zu)):(List Int)→V×Zp
  | r=>((.d (D.tup [])),[(.arr 1 (List.map Ze r)),(.cells [(.d (Ze m1_0)),(.d (Ze m1_1)),(.d (D.list t0 (List.map Zau m1_2))),(.d (D.list t1 (List.map ZJ m1_3))),(.d (D.list t2 (List.map Zt m1_4))),(.d (D.list t3 (List.map ZA m1_5)))])])
def ZcM (t0:Bool) (t1:Bool) (t2:Bool) (t3:Bool) (b:Int) (c:Int) (m1_0:Int) (m1_1:Int) (m1_2:(List Zam)) (m1_3:(List Zo)) (m1_4:(List Zk)) (m1_5:(List Zu)):(List Int)→Ex×List V×Zp
  | r=>(.exit 0,[(.sl 0 1),(.fn 121 [(.ptr 1 0)]),(.d (Ze b)),(.d (Ze 0)),(.d (Ze (w64 (c-b))))],[(.arr 1 (List.map Ze r)),(.cells [(.d (Ze m1_0)),(.d (Ze m1_1)),(.d (D.list t0 (List.map Zau m1_2))),(.d (D.list t1 (List.map ZJ m1_3))),(.d (D.list t2 (List.map Zt m1_4))),(.d (D.list t3 (List.map ZA m1_5)))])])
theorem Ze8 {t0:Bool}{t1:Bool}{t2:Bool}{t3:Bool}{b:Int}{c:Int}{m1_0:Int}{m1_1:Int}{m1_2:(List Zam)}{m1_3:(List Zo)}{m1_4:(List Zk)}{m1_5:(List Zu)}:∀(s0:Int×(List Int)) (r:(List Int)),lp (ZaG b c (fun z0 z1=>Zw z0 z1 m1_4)) s0=some r→lpW ctx 2 [0,3,8,9,10,11] [0,3,8,9,10] Zvd [(.sl 0 1),(.fn 121 [(.ptr 1 0)]),(.d (Ze b)),(.d (Ze 0)),(.d (Ze (w64 (c-b)))),(.d (Ze s0.1))] [(.arr 1 (List.map Ze s0.2)),(.cells [(.d (Ze m1_0)),(.d (Ze m1_1)),(.d (D.list t0 (List.map Zau m1_2))),(.d (D.list t1 (List.map ZJ m1_3))),(.d (D.list t2 (List.map Zt m1_4))),(.d (D.list t3 (List.map ZA m1_5)))])]=some ((ZcM t0 t1 t2 t3 b c m1_0 m1_1 m1_2 m1_3 m1_4 m1_5) r):=by
 refine Zbe (ZcM t0 t1 t2 t3 b c m1_0 m1_1 m1_2 m1_3 m1_4 m1_5) ?_
 intro s0 rcl ih
 show Z6 _ _ (lpW _ _ _ _ _ _ _)
 unfold ZaG
 rw[Zbg]
 conv=>arg 3;whnf
 refine Zg rfl ?_ ?_<;>conv=>arg 3;whnf
 ·refine Zc _ Zc1 fun x1 hx1=>?_;conv=>arg 3;whnf
  exact Zd (ih _)
 ·exact Zh rfl
def ZcN (t0:Bool) (t1:Bool) (t2:Bool) (t3:Bool) (b:Int) (m1_0:Int) (m1_1:Int) (m1_2:(List Zam)) (m1_3:(List Zo)) (m1_4:(List Zk)) (m1_5:(List Zu)):(List Int)→Ex×List V×Zp
  | r=>(.exit 2,[],[(.arr 1 (List.map Ze r)),(.cells [(.d (Ze m1_0)),(.d (Ze m1_1)),(.d (D.list t0 (List.map Zau m1_2))),(.d (D.list t1 (List.map ZJ m1_3))),(.d (D.list t2 (List.map Zt m1_4))),(.d (D.list t3 (List.map ZA m1_5)))])])
theorem Ze4 {t0:Bool}{t1:Bool}{t2:Bool}{t3:Bool}{b:Int}{m1_0:Int}{m1_1:Int}{m1_2:(List Zam)}{m1_3:(List Zo)}{m1_4:(List Zk)}{m1_5:(List Zu)}:∀(s3:Int×(List Int)) (r:(List Int)),lp (ZaJ b (fun z0 z1=>Zw z0 z1 m1_4)) s3=some r→lpW ctx 2 [0,3,8,9,12] [] Zuf [(.sl 0 1),(.fn 121 [(.ptr 1 0)]),(.d (Ze b)),(.d (Ze 0)),(.d (Ze s3.1))] [(.arr 1 (List.map Ze s3.2)),(.cells [(.d (Ze m1_0)),(.d (Ze m1_1)),(.d (D.list t0 (List.map Zau m1_2))),(.d (D.list t1 (List.map ZJ m1_3))),(.d (D.list t2 (List.map Zt m1_4))),(.d (D.list t3 (List.map ZA m1_5)))])]=some ((ZcN t0 t1 t2 t3 b m1_0 m1_1 m1_2 m1_3 m1_4 m1_5) r):=by
 refine Zbe (ZcN t0 t1 t2 t3 b m1_0 m1_1 m1_2 m1_3 m1_4 m1_5) ?_
 intro s3 rcl ih
 show Z6 _ _ (lpW _ _ _ _ _ _ _)
 unfold ZaJ
 rw[Zbg]
 conv=>arg 3;whnf
 refine Zg rfl ?_ ?_<;>conv=>arg 3;whnf
 ·refine Zj rfl rfl fun x4 hx4=>?_;conv=>arg 3;whnf
  refine Zf (Zl rfl hx4) ?_;conv=>arg 3;whnf
  refine Zj rfl rfl fun x5 hx5=>?_;conv=>arg 3;whnf
  refine Zf (Zl rfl hx5) ?_;conv=>arg 3;whnf
  refine Zf (Zay rfl hx5) ?_;conv=>arg 3;whnf
  refine Zf (Zl rfl hx5) ?_;conv=>arg 3;whnf
  refine Zq (ZZ Ze s3.2 b.toNat x4) ?_;conv=>arg 3;whnf
  refine Zj rfl rfl fun x6 hx6=>?_;conv=>arg 3;whnf
  refine Zf (Zl rfl hx6) ?_;conv=>arg 3;whnf
  refine Zq (ZZ Ze (List.set s3.2 b.toNat x4) (w64 (b+s3.1)).toNat x5) ?_;conv=>arg 3;whnf
  refine Zc _ Zc1 fun x7 hx7=>?_;conv=>arg 3;whnf
  exact Zd (ih _)
 ·exact Zh rfl
theorem Zba {t0:Bool}{t1:Bool}{t2:Bool}{t3:Bool}{b:Int}{c:Int}{m0_0:(List Int)}{m1_0:Int}{m1_1:Int}{m1_2:(List Zam)}{m1_3:(List Zo)}{m1_4:(List Zk)}{m1_5:(List Zu)}:∀r,(Zag b c (fun z0 z1=>Zw z0 z1 m1_4) m0_0)=some r→evW ctx 143 [(.sl 0 1),(.d (Ze b)),(.d (Ze c)),(.fn 121 [(.ptr 1 0)])] [(.arr 1 (List.map Ze m0_0)),(.cells [(.d (Ze m1_0)),(.d (Ze m1_1)),(.d (D.list t0 (List.map Zau m1_2))),(.d (D.list t1 (List.map ZJ m1_3))),(.d (D.list t2 (List.map Zt m1_4))),(.d (D.list t3 (List.map ZA m1_5)))])]=some ((Zdg t0 t1 t2 t3 b c m0_0 m1_0 m1_1 m1_2 m1_3 m1_4 m1_5) r):=by
 show Z6 _ (fun r rhs=>rhs=some ((Zdg t0 t1 t2 t3 b c m0_0 m1_0 m1_1 m1_2 m1_3 m1_4 m1_5) r)) _
 unfold Zag
 rw[Zeh ctx 143 ZxS _ _ rfl rfl]
 conv=>arg 3;whnf
 refine ZQ rfl ?_;conv=>arg 3;whnf
 refine Zc _ (Ze8 _) fun r2 hr2=>?_;conv=>arg 3;whnf
 refine Zc _ (Ze4 _) fun r8 hr8=>?_;conv=>arg 3;whnf
 exact Zh rfl
def Zdt (t0:Bool) (t1:Bool) (t2:Bool) (t3:Bool) (b:Int) (c:Int) (m0_0:(List Int)) (m1_0:Int) (m2_0:Int) (m2_1:Int) (m2_2:(List Zam)) (m2_3:(List Zo)) (m2_4:(List Zk)) (m2_5:(List Zu)):(Int×Int×Int)→V×Zp
  | r=>((.d (D.tup [(Ze r.1),(Ze r.2.1)])),[(.arr 1 (List.map Ze m0_0)),(.cells [(.d (Ze r.2.2))]),(.cells [(.d (Ze m2_0)),(.d (Ze m2_1)),(.d (D.list t0 (List.map Zau m2_2))),(.d (D.list t1 (List.map ZJ m2_3))),(.d (D.list t2 (List.map Zt m2_4))),(.d (D.list t3 (List.map ZA m2_5)))])])
theorem ZbX {t0:Bool}{t1:Bool}{t2:Bool}{t3:Bool}{b:Int}{c:Int}{m0_0:(List Int)}{m1_0:Int}{m2_0:Int}{m2_1:Int}{m2_2:(List Zam)}{m2_3:(List Zo)}{m2_4:(List Zk)}{m2_5:(List Zu)}:∀r,(ZaX b c (fun z0 z1=>Zw z0 z1 m2_4) m0_0 m1_0)=some r→evW ctx 170 [(.sl 0 1),(.d (Ze b)),(.d (Ze c)),(.ptr 1 0),(.fn 121 [(.ptr 2 0)])] [(.arr 1 (List.map Ze m0_0)),(.cells [(.d (Ze m1_0))]),(.cells [(.d (Ze m2_0)),(.d (Ze m2_1)),(.d (D.list t0 (List.map Zau m2_2))),(.d (D.list t1 (List.map ZJ m2_3))),(.d (D.list t2 (List.map Zt m2_4))),(.d (D.list t3 (List.map ZA m2_5)))])]=some ((Zdt t0 t1 t2 t3 b c m0_0 m1_0 m2_0 m2_1 m2_2 m2_3 m2_4 m2_5) r):=by
 show Z6 _ (fun r rhs=>rhs=some ((Zdt t0 t1 t2 t3 b c m0_0 m1_0 m2_0 m2_1 m2_2 m2_3 m2_4 m2_5) r)) _
 unfold ZaX
 rw[Zeh ctx 170 ZwX _ _ rfl rfl]
 conv=>arg 3;whnf
 refine Zj rfl rfl fun x0 hx0=>?_;conv=>arg 3;whnf
 refine Zf (Zl rfl hx0) ?_;conv=>arg 3;whnf
 refine Zj rfl rfl fun x1 hx1=>?_;conv=>arg 3;whnf
 refine Zf (Zl rfl hx1) ?_;conv=>arg 3;whnf
 refine Zs _ ZN rfl fun x2 hx2=>?_;conv=>arg 3;whnf
 refine Zg rfl ?_ ?_<;>conv=>arg 3;whnf
 ·exact Zh rfl
 ·exact Zh rfl
def Zds (t0:Bool) (t1:Bool) (t2:Bool) (t3:Bool) (b:Int) (c:Int) (d:Int) (m0_0:(List Int)) (m1_0:Int) (m2_0:Int) (m2_1:Int) (m2_2:(List Zam)) (m2_3:(List Zo)) (m2_4:(List Zk)) (m2_5:(List Zu)):(Int×Int)→V×Zp
  | r=>((.d (Ze r.1)),[(.arr 1 (List.map Ze m0_0)),(.cells [(.d (Ze r.2))]),(.cells [(.d (Ze m2_0)),(.d (Ze m2_1)),(.d (D.list t0 (List.map Zau m2_2))),(.d (D.list t1 (List.map ZJ m2_3))),(.d (D.list t2 (List.map Zt m2_4))),(.d (D.list t3 (List.map ZA m2_5)))])])
theorem ZbY {t0:Bool}{t1:Bool}{t2:Bool}{t3:Bool}{b:Int}{c:Int}{d:Int}{m0_0:(List Int)}{m1_0:Int}{m2_0:Int}{m2_1:Int}{m2_2:(List Zam)}{m2_3:(List Zo)}{m2_4:(List Zk)}{m2_5:(List Zu)}:∀r,(ZaW b c d (fun z0 z1=>Zw z0 z1 m2_4) m0_0 m1_0)=some r→evW ctx 165 [(.sl 0 1),(.d (Ze b)),(.d (Ze c)),(.d (Ze d)),(.ptr 1 0),(.fn 121 [(.ptr 2 0)])] [(.arr 1 (List.map Ze m0_0)),(.cells [(.d (Ze m1_0))]),(.cells [(.d (Ze m2_0)),(.d (Ze m2_1)),(.d (D.list t0 (List.map Zau m2_2))),(.d (D.list t1 (List.map ZJ m2_3))),(.d (D.list t2 (List.map Zt m2_4))),(.d (D.list t3 (List.map ZA m2_5)))])]=some ((Zds t0 t1 t2 t3 b c d m0_0 m1_0 m2_0 m2_1 m2_2 m2_3 m2_4 m2_5) r):=by
 show Z6 _ (fun r rhs=>rhs=some ((Zds t0 t1 t2 t3 b c d m0_0 m1_0 m2_0 m2_1 m2_2 m2_3 m2_4 m2_5) r)) _
 unfold ZaW
 rw[Zeh ctx 165 ZwC _ _ rfl rfl]
 conv=>arg 3;whnf
 refine Zc _ ZbX fun x0 hx0=>?_;conv=>arg 3;whnf
 refine Zc _ ZbX fun x1 hx1=>?_;conv=>arg 3;whnf
 refine Zc _ ZbX fun x2 hx2=>?_;conv=>arg 3;whnf
 exact Zh rfl
def Zcr (t0:Bool) (t1:Bool) (t2:Bool) (t3:Bool) (b:Int) (m0_0:(List Int)) (m1_0:Int) (m2_0:Int) (m2_1:Int) (m2_2:(List Zam)) (m2_3:(List Zo)) (m2_4:(List Zk)) (m2_5:(List Zu)):(Int×Int)→V×Zp
  | r=>((.d (Ze r.1)),[(.arr 1 (List.map Ze m0_0)),(.cells [(.d (Ze r.2))]),(.cells [(.d (Ze m2_0)),(.d (Ze m2_1)),(.d (D.list t0 (List.map Zau m2_2))),(.d (D.list t1 (List.map ZJ m2_3))),(.d (D.list t2 (List.map Zt m2_4))),(.d (D.list t3 (List.map ZA m2_5)))])])
theorem Zbn {t0:Bool}{t1:Bool}{t2:Bool}{t3:Bool}{b:Int}{m0_0:(List Int)}{m1_0:Int}{m2_0:Int}{m2_1:Int}{m2_2:(List Zam)}{m2_3:(List Zo)}{m2_4:(List Zk)}{m2_5:(List Zu)}:∀r,(Zad b (fun z0 z1=>Zw z0 z1 m2_4) m0_0 m1_0)=some r→evW ctx 164 [(.sl 0 1),(.d (Ze b)),(.ptr 1 0),(.fn 121 [(.ptr 2 0)])] [(.arr 1 (List.map Ze m0_0)),(.cells [(.d (Ze m1_0))]),(.cells [(.d (Ze m2_0)),(.d (Ze m2_1)),(.d (D.list t0 (List.map Zau m2_2))),(.d (D.list t1 (List.map ZJ m2_3))),(.d (D.list t2 (List.map Zt m2_4))),(.d (D.list t3 (List.map ZA m2_5)))])]=some ((Zcr t0 t1 t2 t3 b m0_0 m1_0 m2_0 m2_1 m2_2 m2_3 m2_4 m2_5) r):=by
 show Z6 _ (fun r rhs=>rhs=some ((Zcr t0 t1 t2 t3 b m0_0 m1_0 m2_0 m2_1 m2_2 m2_3 m2_4 m2_5) r)) _
 unfold Zad
 rw[Zeh ctx 164 Zyw _ _ rfl rfl]
 conv=>arg 3;whnf
 refine Zc _ ZbY fun x0 hx0=>?_;conv=>arg 3;whnf
 exact Zh rfl
def ZcO (t0:Bool) (t1:Bool) (t2:Bool) (t3:Bool) (b:Int) (c:Int) (m0_0:(List Int)) (m1_0:Int) (m1_1:Int) (m1_2:(List Zam)) (m1_3:(List Zo)) (m1_4:(List Zk)) (m1_5:(List Zu)):(Int×Int)→V×Zp
  | r=>((.d (D.tup [(Ze r.1),(Ze r.2)])),[(.arr 1 (List.map Ze m0_0)),(.cells [(.d (Ze m1_0)),(.d (Ze m1_1)),(.d (D.list t0 (List.map Zau m1_2))),(.d (D.list t1 (List.map ZJ m1_3))),(.d (D.list t2 (List.map Zt m1_4))),(.d (D.list t3 (List.map ZA m1_5)))])])
theorem ZaV {t0:Bool}{t1:Bool}{t2:Bool}{t3:Bool}{b:Int}{c:Int}{m0_0:(List Int)}{m1_0:Int}{m1_1:Int}{m1_2:(List Zam)}{m1_3:(List Zo)}{m1_4:(List Zk)}{m1_5:(List Zu)}:∀r,(ZU b c (fun z0 z1=>Zw z0 z1 m1_4) m0_0)=some r→evW ctx 145 [(.sl 0 1),(.d (Ze b)),(.d (Ze c)),(.fn 121 [(.ptr 1 0)])] [(.arr 1 (List.map Ze m0_0)),(.cells [(.d (Ze m1_0)),(.d (Ze m1_1)),(.d (D.list t0 (List.map Zau m1_2))),(.d (D.list t1 (List.map ZJ m1_3))),(.d (D.list t2 (List.map Zt m1_4))),(.d (D.list t3 (List.map ZA m1_5)))])]=some ((ZcO t0 t1 t2 t3 b c m0_0 m1_0 m1_1 m1_2 m1_3 m1_4 m1_5) r):=by
 show Z6 _ (fun r rhs=>rhs=some ((ZcO t0 t1 t2 t3 b c m0_0 m1_0 m1_1 m1_2 m1_3 m1_4 m1_5) r)) _
 unfold ZU
 rw[Zeh ctx 145 ZwL _ _ rfl rfl]
 conv=>arg 3;whnf
 refine ZQ rfl ?_;conv=>arg 3;whnf
 refine ZQ rfl ?_;conv=>arg 3;whnf
 refine ZQ rfl ?_;conv=>arg 3;whnf
 refine Zg rfl ?_ ?_<;>conv=>arg 3;whnf
 ·refine Zg rfl ?_ ?_<;>conv=>arg 3;whnf
  ·refine Zc _ Zbn fun x0 hx0=>?_;conv=>arg 3;whnf
   refine Zc _ Zbn fun x1 hx1=>?_;conv=>arg 3;whnf
   refine Zc _ Zbn fun x2 hx2=>?_;conv=>arg 3;whnf
   refine Zc _ ZbY fun x3 hx3=>?_;conv=>arg 3;whnf
   refine Zg rfl ?_ ?_<;>conv=>arg 3;whnf
   ·exact Zh rfl
   ·refine Zg rfl ?_ ?_<;>conv=>arg 3;whnf
    ·exact Zh rfl
    ·exact Zh rfl
  ·refine Zc _ ZbY fun x4 hx4=>?_;conv=>arg 3;whnf
   refine Zg rfl ?_ ?_<;>conv=>arg 3;whnf
   ·exact Zh rfl
   ·refine Zg rfl ?_ ?_<;>conv=>arg 3;whnf
    ·exact Zh rfl
    ·exact Zh rfl
 ·refine ZbI rfl ?_;conv=>arg 3;whnf
  exact Zh rfl
def ZcC (t0:Bool) (t1:Bool) (t2:Bool) (t3:Bool) (b:Int) (c:Int) (m0_0:(List Int)) (m1_0:Int) (m1_1:Int) (m1_2:(List Zam)) (m1_3:(List Zo)) (m1_4:(List Zk)) (m1_5:(List Zu)):(List Int)→V×Zp
  | r=>((.d (D.tup [])),[(.arr 1 (List.map Ze r)),(.cells [(.d (Ze m1_0)),(.d (Ze m1_1)),(.d (D.list t0 (List.map Zau m1_2))),(.d (D.list t1 (List.map ZJ m1_3))),(.d (D.list t2 (List.map Zt m1_4))),(.d (D.list t3 (List.map ZA m1_5)))])])
def Zcm (t0:Bool) (t1:Bool) (t2:Bool) (t3:Bool) (m1_0:Int) (m1_1:Int) (m1_2:(List Zam)) (m1_3:(List Zo)) (m1_4:(List Zk)) (m1_5:(List Zu)):(List Int)→Ex×List V×Zp
  | r=>(.exit 0,[],[(.arr 1 (List.map Ze r)),(.cells [(.d (Ze m1_0)),(.d (Ze m1_1)),(.d (D.list t0 (List.map Zau m1_2))),(.d (D.list t1 (List.map ZJ m1_3))),(.d (D.list t2 (List.map Zt m1_4))),(.d (D.list t3 (List.map ZA m1_5)))])])
theorem Zek {t0:Bool}{t1:Bool}{t2:Bool}{t3:Bool}{m1_0:Int}{m1_1:Int}{m1_2:(List Zam)}{m1_3:(List Zo)}{m1_4:(List Zk)}{m1_5:(List Zu)}:∀(s0:Int×Int×(List Int)) (r:(List Int)),lp (Zaa) s0=some r→lpW ctx 2 [0,8,9] [] Zud [(.sl 0 1),(.d (Ze s0.1)),(.d (Ze s0.2.1))] [(.arr 1 (List.map Ze s0.2.2)),(.cells [(.d (Ze m1_0)),(.d (Ze m1_1)),(.d (D.list t0 (List.map Zau m1_2))),(.d (D.list t1 (List.map ZJ m1_3))),(.d (D.list t2 (List.map Zt m1_4))),(.d (D.list t3 (List.map ZA m1_5)))])]=some ((Zcm t0 t1 t2 t3 m1_0 m1_1 m1_2 m1_3 m1_4 m1_5) r):=by
 refine Zbe (Zcm t0 t1 t2 t3 m1_0 m1_1 m1_2 m1_3 m1_4 m1_5) ?_
 intro s0 rcl ih
 show Z6 _ _ (lpW _ _ _ _ _ _ _)
 unfold Zaa
 rw[Zbg]
 conv=>arg 3;whnf
 refine Zg rfl ?_ ?_<;>conv=>arg 3;whnf
 ·refine Zj rfl rfl fun x1 hx1=>?_;conv=>arg 3;whnf
  refine Zf (Zl rfl hx1) ?_;conv=>arg 3;whnf
  refine Zj rfl rfl fun x2 hx2=>?_;conv=>arg 3;whnf
  refine Zf (Zl rfl hx2) ?_;conv=>arg 3;whnf
  refine Zf (Zay rfl hx2) ?_;conv=>arg 3;whnf
  refine Zf (Zl rfl hx2) ?_;conv=>arg 3;whnf
  refine Zq (ZZ Ze s0.2.2 s0.1.toNat x1) ?_;conv=>arg 3;whnf
  refine Zj rfl rfl fun x3 hx3=>?_;conv=>arg 3;whnf
  refine Zf (Zl rfl hx3) ?_;conv=>arg 3;whnf
  refine Zq (ZZ Ze (List.set s0.2.2 s0.1.toNat x1) s0.2.1.toNat x2) ?_;conv=>arg 3;whnf
  exact Zd (ih _)
 ·exact Zh rfl
theorem ZaU {t0:Bool}{t1:Bool}{t2:Bool}{t3:Bool}{b:Int}{c:Int}{m0_0:(List Int)}{m1_0:Int}{m1_1:Int}{m1_2:(List Zam)}{m1_3:(List Zo)}{m1_4:(List Zk)}{m1_5:(List Zu)}:∀r,(ZO b c (fun z0 z1=>Zw z0 z1 m1_4) m0_0)=some r→evW ctx 146 [(.sl 0 1),(.d (Ze b)),(.d (Ze c)),(.fn 121 [(.ptr 1 0)])] [(.arr 1 (List.map Ze m0_0)),(.cells [(.d (Ze m1_0)),(.d (Ze m1_1)),(.d (D.list t0 (List.map Zau m1_2))),(.d (D.list t1 (List.map ZJ m1_3))),(.d (D.list t2 (List.map Zt m1_4))),(.d (D.list t3 (List.map ZA m1_5)))])]=some ((ZcC t0 t1 t2 t3 b c m0_0 m1_0 m1_1 m1_2 m1_3 m1_4 m1_5) r):=by
 show Z6 _ (fun r rhs=>rhs=some ((ZcC t0 t1 t2 t3 b c m0_0 m1_0 m1_1 m1_2 m1_3 m1_4 m1_5) r)) _
 unfold ZO
 rw[Zeh ctx 146 Zyx _ _ rfl rfl]
 conv=>arg 3;whnf
 refine Zc _ (Zek _) fun r4 hr4=>?_;conv=>arg 3;whnf
 exact Zh rfl
def Zb2 (t0:Bool) (t1:Bool) (t2:Bool) (t3:Bool) (b:Int) (c:Int) (m0_0:(List Int)) (m1_0:Int) (m1_1:Int) (m1_2:(List Zam)) (m1_3:(List Zo)) (m1_4:(List Zk)) (m1_5:(List Zu)):((List Int)⊕(List Int))→V×Zp
  | (.inl r)=>((.d (D.bool true)),[(.arr 1 (List.map Ze r)),(.cells [(.d (Ze m1_0)),(.d (Ze m1_1)),(.d (D.list t0 (List.map Zau m1_2))),(.d (D.list t1 (List.map ZJ m1_3))),(.d (D.list t2 (List.map Zt m1_4))),(.d (D.list t3 (List.map ZA m1_5)))])])
  | (.inr r)=>((.d (D.bool false)),[(.arr 1 (List.map Ze r)),(.cells [(.d (Ze m1_0)),(.d (Ze m1_1)),(.d (D.list t0 (List.map Zau m1_2))),(.d (D.list t1 (List.map ZJ m1_3))),(.d (D.list t2 (List.map Zt m1_4))),(.d (D.list t3 (List.map ZA m1_5)))])])
def ZbR (t0:Bool) (t1:Bool) (t2:Bool) (t3:Bool) (b:Int) (c:Int) (m1_0:Int) (m1_1:Int) (m1_2:(List Zam)) (m1_3:(List Zo)) (m1_4:(List Zk)) (m1_5:(List Zu)) (s0:Int×Int×(List Int)):Int→Ex×List V×Zp
  | r=>(.exit 2,[(.sl 0 1),(.d (Ze b)),(.d (Ze c)),(.fn 121 [(.ptr 1 0)]),(.d (Ze r)),(.d (Ze s0.2.1))],[(.arr 1 (List.map Ze s0.2.2)),(.cells [(.d (Ze m1_0)),(.d (Ze m1_1)),(.d (D.list t0 (List.map Zau m1_2))),(.d (D.list t1 (List.map ZJ m1_3))),(.d (D.list t2 (List.map Zt m1_4))),(.d (D.list t3 (List.map ZA m1_5)))])])
theorem ZdD {t0:Bool}{t1:Bool}{t2:Bool}{t3:Bool}{b:Int}{c:Int}{m1_0:Int}{m1_1:Int}{m1_2:(List Zam)}{m1_3:(List Zo)}{m1_4:(List Zk)}{m1_5:(List Zu)}{s0:Int×Int×(List Int)}:∀(s1:Int) (r:Int),lp (ZK c (fun z0 z1=>Zw z0 z1 m1_4) s0) s1=some r→lpW ctx 2 [0,1,2,3,9,10] [0,1,2,3,9,10] ZtY [(.sl 0 1),(.d (Ze b)),(.d (Ze c)),(.fn 121 [(.ptr 1 0)]),(.d (Ze s1)),(.d (Ze s0.2.1))] [(.arr 1 (List.map Ze s0.2.2)),(.cells [(.d (Ze m1_0)),(.d (Ze m1_1)),(.d (D.list t0 (List.map Zau m1_2))),(.d (D.list t1 (List.map ZJ m1_3))),(.d (D.list t2 (List.map Zt m1_4))),(.d (D.list t3 (List.map ZA m1_5)))])]=some ((ZbR t0 t1 t2 t3 b c m1_0 m1_1 m1_2 m1_3 m1_4 m1_5 s0) r):=by
 refine Zbe (ZbR t0 t1 t2 t3 b c m1_0 m1_1 m1_2 m1_3 m1_4 m1_5 s0) ?_
 intro s1 rcl ih
 show Z6 _ _ (lpW _ _ _ _ _ _ _)
 unfold ZK
 rw[Zbg]
 conv=>arg 3;whnf
 refine Zg rfl ?_ ?_<;>conv=>arg 3;whnf
 ·refine Zj rfl rfl fun x2 hx2=>?_;conv=>arg 3;whnf
  refine Zf (Zl rfl hx2) ?_;conv=>arg 3;whnf
  refine Zj rfl rfl fun x3 hx3=>?_;conv=>arg 3;whnf
  refine Zf (Zl rfl hx3) ?_;conv=>arg 3;whnf
  refine Zs _ ZN rfl fun x4 hx4=>?_;conv=>arg 3;whnf
  refine Zg rfl ?_ ?_<;>conv=>arg 3;whnf
  ·exact Zh rfl
  ·exact Zd (ih _)
 ·exact Zh rfl
def ZbO (t0:Bool) (t1:Bool) (t2:Bool) (t3:Bool) (b:Int) (c:Int) (m1_0:Int) (m1_1:Int) (m1_2:(List Zam)) (m1_3:(List Zo)) (m1_4:(List Zk)) (m1_5:(List Zu)) (s0:Int×Int×(List Int)) (r5:Int):(List Int)→Ex×List V×Zp
  | r=>(.exit 4,[(.sl 0 1),(.d (Ze b)),(.d (Ze c)),(.fn 121 [(.ptr 1 0)]),(.d (Ze r5)),(.d (Ze s0.2.1))],[(.arr 1 (List.map Ze r)),(.cells [(.d (Ze m1_0)),(.d (Ze m1_1)),(.d (D.list t0 (List.map Zau m1_2))),(.d (D.list t1 (List.map ZJ m1_3))),(.d (D.list t2 (List.map Zt m1_4))),(.d (D.list t3 (List.map ZA m1_5)))])])
theorem ZdA {t0:Bool}{t1:Bool}{t2:Bool}{t3:Bool}{b:Int}{c:Int}{m1_0:Int}{m1_1:Int}{m1_2:(List Zam)}{m1_3:(List Zo)}{m1_4:(List Zk)}{m1_5:(List Zu)}{s0:Int×Int×(List Int)}{r5:Int}:∀(s9:Int×(List Int)) (r:(List Int)),lp (ZT (fun z0 z1=>Zw z0 z1 m1_4)) s9=some r→lpW ctx 2 [0,1,2,3,9,10,11] [0,1,2,3,9,10] ZuR [(.sl 0 1),(.d (Ze b)),(.d (Ze c)),(.fn 121 [(.ptr 1 0)]),(.d (Ze r5)),(.d (Ze s0.2.1)),(.d (Ze s9.1))] [(.arr 1 (List.map Ze s9.2)),(.cells [(.d (Ze m1_0)),(.d (Ze m1_1)),(.d (D.list t0 (List.map Zau m1_2))),(.d (D.list t1 (List.map ZJ m1_3))),(.d (D.list t2 (List.map Zt m1_4))),(.d (D.list t3 (List.map ZA m1_5)))])]=some ((ZbO t0 t1 t2 t3 b c m1_0 m1_1 m1_2 m1_3 m1_4 m1_5 s0 r5) r):=by
 refine Zbe (ZbO t0 t1 t2 t3 b c m1_0 m1_1 m1_2 m1_3 m1_4 m1_5 s0 r5) ?_
 intro s9 rcl ih
 show Z6 _ _ (lpW _ _ _ _ _ _ _)
 unfold ZT
 rw[Zbg]
 conv=>arg 3;whnf
 refine Zg rfl ?_ ?_<;>conv=>arg 3;whnf
 ·refine Zj rfl rfl fun x10 hx10=>?_;conv=>arg 3;whnf
  refine Zf (Zl rfl hx10) ?_;conv=>arg 3;whnf
  refine Zj rfl rfl fun x11 hx11=>?_;conv=>arg 3;whnf
  refine Zf (Zl rfl hx11) ?_;conv=>arg 3;whnf
  refine Zs _ ZN rfl fun x12 hx12=>?_;conv=>arg 3;whnf
  refine Zg rfl ?_ ?_<;>conv=>arg 3;whnf
  ·refine Zf (Zay rfl hx11) ?_;conv=>arg 3;whnf
   refine Zf (Zl rfl hx11) ?_;conv=>arg 3;whnf
   refine Zf (Zay rfl hx10) ?_;conv=>arg 3;whnf
   refine Zf (Zl rfl hx10) ?_;conv=>arg 3;whnf
   refine Zf (Zay rfl hx10) ?_;conv=>arg 3;whnf
   refine Zf (Zl rfl hx10) ?_;conv=>arg 3;whnf
   refine Zq (ZZ Ze s9.2 s9.1.toNat x11) ?_;conv=>arg 3;whnf
   refine Zj rfl rfl fun x13 hx13=>?_;conv=>arg 3;whnf
   refine Zf (Zl rfl hx13) ?_;conv=>arg 3;whnf
   refine Zq (ZZ Ze (List.set s9.2 s9.1.toNat x11) (w64 (s9.1-1)).toNat x10) ?_;conv=>arg 3;whnf
   exact Zd (ih _)
  ·exact Zh rfl
 ·exact Zh rfl
def ZbP (t0:Bool) (t1:Bool) (t2:Bool) (t3:Bool) (b:Int) (c:Int) (m1_0:Int) (m1_1:Int) (m1_2:(List Zam)) (m1_3:(List Zo)) (m1_4:(List Zk)) (m1_5:(List Zu)) (s0:Int×Int×(List Int)) (r5:Int):(List Int)→Ex×List V×Zp
  | r=>(.exit 6,[(.sl 0 1),(.d (Ze b)),(.d (Ze c)),(.fn 121 [(.ptr 1 0)]),(.d (Ze r5)),(.d (Ze s0.2.1))],[(.arr 1 (List.map Ze r)),(.cells [(.d (Ze m1_0)),(.d (Ze m1_1)),(.d (D.list t0 (List.map Zau m1_2))),(.d (D.list t1 (List.map ZJ m1_3))),(.d (D.list t2 (List.map Zt m1_4))),(.d (D.list t3 (List.map ZA m1_5)))])])
theorem ZbM {t0:Bool}{t1:Bool}{t2:Bool}{t3:Bool}{b:Int}{c:Int}{m1_0:Int}{m1_1:Int}{m1_2:(List Zam)}{m1_3:(List Zo)}{m1_4:(List Zk)}{m1_5:(List Zu)}{s0:Int×Int×(List Int)}{r5:Int}:∀(s15:Int×(List Int)) (r:(List Int)),lp (ZH c (fun z0 z1=>Zw z0 z1 m1_4)) s15=some r→lpW ctx 2 [0,1,2,3,9,10,12] [0,1,2,3,9,10] ZuZ [(.sl 0 1),(.d (Ze b)),(.d (Ze c)),(.fn 121 [(.ptr 1 0)]),(.d (Ze r5)),(.d (Ze s0.2.1)),(.d (Ze s15.1))] [(.arr 1 (List.map Ze s15.2)),(.cells [(.d (Ze m1_0)),(.d (Ze m1_1)),(.d (D.list t0 (List.map Zau m1_2))),(.d (D.list t1 (List.map ZJ m1_3))),(.d (D.list t2 (List.map Zt m1_4))),(.d (D.list t3 (List.map ZA m1_5)))])]=some ((ZbP t0 t1 t2 t3 b c m1_0 m1_1 m1_2 m1_3 m1_4 m1_5 s0 r5) r):=by
 refine Zbe (ZbP t0 t1 t2 t3 b c m1_0 m1_1 m1_2 m1_3 m1_4 m1_5 s0 r5) ?_
 intro s15 rcl ih
 show Z6 _ _ (lpW _ _ _ _ _ _ _)
 unfold ZH
 rw[Zbg]
 conv=>arg 3;whnf
 refine Zg rfl ?_ ?_<;>conv=>arg 3;whnf
 ·refine Zj rfl rfl fun x16 hx16=>?_;conv=>arg 3;whnf
  refine Zf (Zl rfl hx16) ?_;conv=>arg 3;whnf
  refine Zj rfl rfl fun x17 hx17=>?_;conv=>arg 3;whnf
  refine Zf (Zl rfl hx17) ?_;conv=>arg 3;whnf
  refine Zs _ ZN rfl fun x18 hx18=>?_;conv=>arg 3;whnf
  refine Zg rfl ?_ ?_<;>conv=>arg 3;whnf
  ·refine Zf (Zay rfl hx17) ?_;conv=>arg 3;whnf
   refine Zf (Zl rfl hx17) ?_;conv=>arg 3;whnf
   refine Zf (Zay rfl hx16) ?_;conv=>arg 3;whnf
   refine Zf (Zl rfl hx16) ?_;conv=>arg 3;whnf
   refine Zf (Zay rfl hx16) ?_;conv=>arg 3;whnf
   refine Zf (Zl rfl hx16) ?_;conv=>arg 3;whnf
   refine Zq (ZZ Ze s15.2 s15.1.toNat x17) ?_;conv=>arg 3;whnf
   refine Zj rfl rfl fun x19 hx19=>?_;conv=>arg 3;whnf
   refine Zf (Zl rfl hx19) ?_;conv=>arg 3;whnf
   refine Zq (ZZ Ze (List.set s15.2 s15.1.toNat x17) (w64 (s15.1-1)).toNat x16) ?_;conv=>arg 3;whnf
   exact Zd (ih _)
  ·exact Zh rfl
 ·exact Zh rfl
def ZbQ (t0:Bool) (t1:Bool) (t2:Bool) (t3:Bool) (b:Int) (c:Int) (m1_0:Int) (m1_1:Int) (m1_2:(List Zam)) (m1_3:(List Zo)) (m1_4:(List Zk)) (m1_5:(List Zu)):((List Int)⊕((List Int)⊕(List Int)))→Ex×List V×Zp
  | (.inl r)=>(.ret,[(.d (D.bool true))],[(.arr 1 (List.map Ze r)),(.cells [(.d (Ze m1_0)),(.d (Ze m1_1)),(.d (D.list t0 (List.map Zau m1_2))),(.d (D.list t1 (List.map ZJ m1_3))),(.d (D.list t2 (List.map Zt m1_4))),(.d (D.list t3 (List.map ZA m1_5)))])])
  | (.inr (.inl r))=>(.ret,[(.d (D.bool false))],[(.arr 1 (List.map Ze r)),(.cells [(.d (Ze m1_0)),(.d (Ze m1_1)),(.d (D.list t0 (List.map Zau m1_2))),(.d (D.list t1 (List.map ZJ m1_3))),(.d (D.list t2 (List.map Zt m1_4))),(.d (D.list t3 (List.map ZA m1_5)))])])
  | (.inr (.inr r))=>(.exit 0,[.bad],[(.arr 1 (List.map Ze r)),(.cells [(.d (Ze m1_0)),(.d (Ze m1_1)),(.d (D.list t0 (List.map Zau m1_2))),(.d (D.list t1 (List.map ZJ m1_3))),(.d (D.list t2 (List.map Zt m1_4))),(.d (D.list t3 (List.map ZA m1_5)))])])
theorem ZdF {t0:Bool}{t1:Bool}{t2:Bool}{t3:Bool}{b:Int}{c:Int}{m1_0:Int}{m1_1:Int}{m1_2:(List Zam)}{m1_3:(List Zo)}{m1_4:(List Zk)}{m1_5:(List Zu)}:∀(s0:Int×Int×(List Int)) (r:((List Int)⊕((List Int)⊕(List Int)))),lp (ZS b c (fun z0 z1=>Zw z0 z1 m1_4)) s0=some r→lpW ctx 2 [0,1,2,3,9,10] [8] ZuS [(.sl 0 1),(.d (Ze b)),(.d (Ze c)),(.fn 121 [(.ptr 1 0)]),(.d (Ze s0.1)),(.d (Ze s0.2.1))] [(.arr 1 (List.map Ze s0.2.2)),(.cells [(.d (Ze m1_0)),(.d (Ze m1_1)),(.d (D.list t0 (List.map Zau m1_2))),(.d (D.list t1 (List.map ZJ m1_3))),(.d (D.list t2 (List.map Zt m1_4))),(.d (D.list t3 (List.map ZA m1_5)))])]=some ((ZbQ t0 t1 t2 t3 b c m1_0 m1_1 m1_2 m1_3 m1_4 m1_5) r):=by
 refine Zbe (ZbQ t0 t1 t2 t3 b c m1_0 m1_1 m1_2 m1_3 m1_4 m1_5) ?_
 intro s0 rcl ih
 show Z6 _ _ (lpW _ _ _ _ _ _ _)
 unfold ZS
 rw[Zbg]
 conv=>arg 3;whnf
 refine Zg rfl ?_ ?_<;>conv=>arg 3;whnf
 ·refine Zc _ (ZdD _) fun r5 hr5=>?_;conv=>arg 3;whnf
  refine Zg rfl ?_ ?_<;>conv=>arg 3;whnf
  ·exact Zh rfl
  ·refine Zg rfl ?_ ?_<;>conv=>arg 3;whnf
   ·exact Zh rfl
   ·refine Zj rfl rfl fun x6 hx6=>?_;conv=>arg 3;whnf
    refine Zf (Zl rfl hx6) ?_;conv=>arg 3;whnf
    refine Zj rfl rfl fun x7 hx7=>?_;conv=>arg 3;whnf
    refine Zf (Zl rfl hx7) ?_;conv=>arg 3;whnf
    refine Zf (Zay rfl hx7) ?_;conv=>arg 3;whnf
    refine Zf (Zl rfl hx7) ?_;conv=>arg 3;whnf
    refine Zq (ZZ Ze s0.2.2 r5.toNat x6) ?_;conv=>arg 3;whnf
    refine Zj rfl rfl fun x8 hx8=>?_;conv=>arg 3;whnf
    refine Zf (Zl rfl hx8) ?_;conv=>arg 3;whnf
    refine Zq (ZZ Ze (List.set s0.2.2 r5.toNat x6) (w64 (r5-1)).toNat x7) ?_;conv=>arg 3;whnf
    refine Zg rfl ?_ ?_<;>conv=>arg 3;whnf
    ·refine Zc _ (ZdA _) fun r14 hr14=>?_;conv=>arg 3;whnf
     refine Zg rfl ?_ ?_<;>conv=>arg 3;whnf
     ·refine Zc _ (ZbM _) fun r20 hr20=>?_;conv=>arg 3;whnf
      exact Zd (ih _)
     ·exact Zd (ih _)
    ·refine Zg rfl ?_ ?_<;>conv=>arg 3;whnf
     ·refine Zc _ (ZbM _) fun r26 hr26=>?_;conv=>arg 3;whnf
      exact Zd (ih _)
     ·exact Zd (ih _)
 ·exact Zh rfl
theorem ZbZ {t0:Bool}{t1:Bool}{t2:Bool}{t3:Bool}{b:Int}{c:Int}{m0_0:(List Int)}{m1_0:Int}{m1_1:Int}{m1_2:(List Zam)}{m1_3:(List Zo)}{m1_4:(List Zk)}{m1_5:(List Zu)}:∀r,(ZP b c (fun z0 z1=>Zw z0 z1 m1_4) m0_0)=some r→evW ctx 147 [(.sl 0 1),(.d (Ze b)),(.d (Ze c)),(.fn 121 [(.ptr 1 0)])] [(.arr 1 (List.map Ze m0_0)),(.cells [(.d (Ze m1_0)),(.d (Ze m1_1)),(.d (D.list t0 (List.map Zau m1_2))),(.d (D.list t1 (List.map ZJ m1_3))),(.d (D.list t2 (List.map Zt m1_4))),(.d (D.list t3 (List.map ZA m1_5)))])]=some ((Zb2 t0 t1 t2 t3 b c m0_0 m1_0 m1_1 m1_2 m1_3 m1_4 m1_5) r):=by
 show Z6 _ (fun r rhs=>rhs=some ((Zb2 t0 t1 t2 t3 b c m0_0 m1_0 m1_1 m1_2 m1_3 m1_4 m1_5) r)) _
 unfold ZP
 rw[Zeh ctx 147 Zw4 _ _ rfl rfl]
 conv=>arg 3;whnf
 refine Zc _ (ZdF _) fun r27 hr27=>?_
 clear hr27
 rcases r27 with r27 | (r27 | r27)
 ·conv=>arg 3;whnf
  exact Zh rfl
 ·conv=>arg 3;whnf
  exact Zh rfl
 ·conv=>arg 3;whnf
  exact Zh rfl
def Zc4 (t0:Bool) (t1:Bool) (t2:Bool) (t3:Bool) (b:Int) (c:Int) (d:Int) (m0_0:(List Int)) (m1_0:Int) (m1_1:Int) (m1_2:(List Zam)) (m1_3:(List Zo)) (m1_4:(List Zk)) (m1_5:(List Zu)):((Int×(List Int))⊕(Int×(List Int)))→V×Zp
  | (.inl r)=>((.d (D.tup [(Ze r.1),(D.bool true)])),[(.arr 1 (List.map Ze r.2)),(.cells [(.d (Ze m1_0)),(.d (Ze m1_1)),(.d (D.list t0 (List.map Zau m1_2))),(.d (D.list t1 (List.map ZJ m1_3))),(.d (D.list t2 (List.map Zt m1_4))),(.d (D.list t3 (List.map ZA m1_5)))])])
  | (.inr r)=>((.d (D.tup [(Ze r.1),(D.bool false)])),[(.arr 1 (List.map Ze r.2)),(.cells [(.d (Ze m1_0)),(.d (Ze m1_1)),(.d (D.list t0 (List.map Zau m1_2))),(.d (D.list t1 (List.map ZJ m1_3))),(.d (D.list t2 (List.map Zt m1_4))),(.d (D.list t3 (List.map ZA m1_5)))])])
def ZcK (t0:Bool) (t1:Bool) (t2:Bool) (t3:Bool) (b:Int) (c:Int) (d:Int) (m0_0:(List Int)) (m1_0:Int) (m1_1:Int) (m1_2:(List Zam)) (m1_3:(List Zo)) (m1_4:(List Zk)) (m1_5:(List Zu)) (x0:Int) (x1:Int):Int→Ex×List V×Zp
  | r=>(.exit 0,[(.sl 0 1),(.d (Ze b)),(.fn 121 [(.ptr 1 0)]),(.d (Ze r)),(.d (Ze (w64 (c-1))))],[(.arr 1 (List.map Ze (List.set (List.set m0_0 b.toNat x0) d.toNat x1))),(.cells [(.d (Ze m1_0)),(.d (Ze m1_1)),(.d (D.list t0 (List.map Zau m1_2))),(.d (D.list t1 (List.map ZJ m1_3))),(.d (D.list t2 (List.map Zt m1_4))),(.d (D.list t3 (List.map ZA m1_5)))])])
theorem ZeS {t0:Bool}{t1:Bool}{t2:Bool}{t3:Bool}{b:Int}{c:Int}{d:Int}{m0_0:(List Int)}{m1_0:Int}{m1_1:Int}{m1_2:(List Zam)}{m1_3:(List Zo)}{m1_4:(List Zk)}{m1_5:(List Zu)}{x0:Int}{x1:Int}:∀(s3:Int) (r:Int),lp (ZaC b c d m0_0 (fun z0 z1=>Zw z0 z1 m1_4) x0 x1) s3=some r→lpW ctx 2 [0,1,4,12,13] [0,1,4,12,13] Zu8 [(.sl 0 1),(.d (Ze b)),(.fn 121 [(.ptr 1 0)]),(.d (Ze s3)),(.d (Ze (w64 (c-1))))] [(.arr 1 (List.map Ze (List.set (List.set m0_0 b.toNat x0) d.toNat x1))),(.cells [(.d (Ze m1_0)),(.d (Ze m1_1)),(.d (D.list t0 (List.map Zau m1_2))),(.d (D.list t1 (List.map ZJ m1_3))),(.d (D.list t2 (List.map Zt m1_4))),(.d (D.list t3 (List.map ZA m1_5)))])]=some ((ZcK t0 t1 t2 t3 b c d m0_0 m1_0 m1_1 m1_2 m1_3 m1_4 m1_5 x0 x1) r):=by
 refine Zbe (ZcK t0 t1 t2 t3 b c d m0_0 m1_0 m1_1 m1_2 m1_3 m1_4 m1_5 x0 x1) ?_
 intro s3 rcl ih
 show Z6 _ _ (lpW _ _ _ _ _ _ _)
 unfold ZaC
 rw[Zbg]
 conv=>arg 3;whnf
 refine Zg rfl ?_ ?_<;>conv=>arg 3;whnf
 ·refine Zj rfl rfl fun x4 hx4=>?_;conv=>arg 3;whnf
  refine Zf (Zl rfl hx4) ?_;conv=>arg 3;whnf
  refine Zj rfl rfl fun x5 hx5=>?_;conv=>arg 3;whnf
  refine Zf (Zl rfl hx5) ?_;conv=>arg 3;whnf
  refine Zs _ ZN rfl fun x6 hx6=>?_;conv=>arg 3;whnf
  refine Zg rfl ?_ ?_<;>conv=>arg 3;whnf
  ·exact Zd (ih _)
  ·exact Zh rfl
 ·exact Zh rfl
def ZcH (t0:Bool) (t1:Bool) (t2:Bool) (t3:Bool) (b:Int) (d:Int) (m0_0:(List Int)) (m1_0:Int) (m1_1:Int) (m1_2:(List Zam)) (m1_3:(List Zo)) (m1_4:(List Zk)) (m1_5:(List Zu)) (x0:Int) (x1:Int) (r7:Int):Int→Ex×List V×Zp
  | r=>(.exit 2,[(.sl 0 1),(.d (Ze b)),(.fn 121 [(.ptr 1 0)]),(.d (Ze r7)),(.d (Ze r))],[(.arr 1 (List.map Ze (List.set (List.set m0_0 b.toNat x0) d.toNat x1))),(.cells [(.d (Ze m1_0)),(.d (Ze m1_1)),(.d (D.list t0 (List.map Zau m1_2))),(.d (D.list t1 (List.map ZJ m1_3))),(.d (D.list t2 (List.map Zt m1_4))),(.d (D.list t3 (List.map ZA m1_5)))])])
theorem ZeR {t0:Bool}{t1:Bool}{t2:Bool}{t3:Bool}{b:Int}{d:Int}{m0_0:(List Int)}{m1_0:Int}{m1_1:Int}{m1_2:(List Zam)}{m1_3:(List Zo)}{m1_4:(List Zk)}{m1_5:(List Zu)}{x0:Int}{x1:Int}{r7:Int}:∀(s8:Int) (r:Int),lp (ZaA b d m0_0 (fun z0 z1=>Zw z0 z1 m1_4) x0 x1 r7) s8=some r→lpW ctx 2 [0,1,4,12,13] [0,1,4,12,13] Zt1 [(.sl 0 1),(.d (Ze b)),(.fn 121 [(.ptr 1 0)]),(.d (Ze r7)),(.d (Ze s8))] [(.arr 1 (List.map Ze (List.set (List.set m0_0 b.toNat x0) d.toNat x1))),(.cells [(.d (Ze m1_0)),(.d (Ze m1_1)),(.d (D.list t0 (List.map Zau m1_2))),(.d (D.list t1 (List.map ZJ m1_3))),(.d (D.list t2 (List.map Zt m1_4))),(.d (D.list t3 (List.map ZA m1_5)))])]=some ((ZcH t0 t1 t2 t3 b d m0_0 m1_0 m1_1 m1_2 m1_3 m1_4 m1_5 x0 x1 r7) r):=by
 refine Zbe (ZcH t0 t1 t2 t3 b d m0_0 m1_0 m1_1 m1_2 m1_3 m1_4 m1_5 x0 x1 r7) ?_
 intro s8 rcl ih
 show Z6 _ _ (lpW _ _ _ _ _ _ _)
 unfold ZaA
 rw[Zbg]
 conv=>arg 3;whnf
 refine Zg rfl ?_ ?_<;>conv=>arg 3;whnf
 ·refine Zj rfl rfl fun x9 hx9=>?_;conv=>arg 3;whnf
  refine Zf (Zl rfl hx9) ?_;conv=>arg 3;whnf
  refine Zj rfl rfl fun x10 hx10=>?_;conv=>arg 3;whnf
  refine Zf (Zl rfl hx10) ?_;conv=>arg 3;whnf
  refine Zs _ ZN rfl fun x11 hx11=>?_;conv=>arg 3;whnf
  refine Zg rfl ?_ ?_<;>conv=>arg 3;whnf
  ·exact Zh rfl
  ·exact Zd (ih _)
 ·exact Zh rfl
def ZcD (t0:Bool) (t1:Bool) (t2:Bool) (t3:Bool) (b:Int) (m1_0:Int) (m1_1:Int) (m1_2:(List Zam)) (m1_3:(List Zo)) (m1_4:(List Zk)) (m1_5:(List Zu)) (s19:Int×Int×(List Int)):Int→Ex×List V×Zp
  | r=>(.exit 6,[(.sl 0 1),(.d (Ze b)),(.fn 121 [(.ptr 1 0)]),(.d (Ze r)),(.d (Ze s19.2.1))],[(.arr 1 (List.map Ze s19.2.2)),(.cells [(.d (Ze m1_0)),(.d (Ze m1_1)),(.d (D.list t0 (List.map Zau m1_2))),(.d (D.list t1 (List.map ZJ m1_3))),(.d (D.list t2 (List.map Zt m1_4))),(.d (D.list t3 (List.map ZA m1_5)))])])
theorem ZeU {t0:Bool}{t1:Bool}{t2:Bool}{t3:Bool}{b:Int}{m1_0:Int}{m1_1:Int}{m1_2:(List Zam)}{m1_3:(List Zo)}{m1_4:(List Zk)}{m1_5:(List Zu)}{s19:Int×Int×(List Int)}:∀(s20:Int) (r:Int),lp (ZaD b (fun z0 z1=>Zw z0 z1 m1_4) s19) s20=some r→lpW ctx 2 [0,1,4,12,13] [0,1,4,12,13] Zun [(.sl 0 1),(.d (Ze b)),(.fn 121 [(.ptr 1 0)]),(.d (Ze s20)),(.d (Ze s19.2.1))] [(.arr 1 (List.map Ze s19.2.2)),(.cells [(.d (Ze m1_0)),(.d (Ze m1_1)),(.d (D.list t0 (List.map Zau m1_2))),(.d (D.list t1 (List.map ZJ m1_3))),(.d (D.list t2 (List.map Zt m1_4))),(.d (D.list t3 (List.map ZA m1_5)))])]=some ((ZcD t0 t1 t2 t3 b m1_0 m1_1 m1_2 m1_3 m1_4 m1_5 s19) r):=by
 refine Zbe (ZcD t0 t1 t2 t3 b m1_0 m1_1 m1_2 m1_3 m1_4 m1_5 s19) ?_
 intro s20 rcl ih
 show Z6 _ _ (lpW _ _ _ _ _ _ _)
 unfold ZaD
 rw[Zbg]
 conv=>arg 3;whnf
 refine Zg rfl ?_ ?_<;>conv=>arg 3;whnf
 ·refine Zj rfl rfl fun x21 hx21=>?_;conv=>arg 3;whnf
  refine Zf (Zl rfl hx21) ?_;conv=>arg 3;whnf
  refine Zj rfl rfl fun x22 hx22=>?_;conv=>arg 3;whnf
  refine Zf (Zl rfl hx22) ?_;conv=>arg 3;whnf
  refine Zs _ ZN rfl fun x23 hx23=>?_;conv=>arg 3;whnf
  refine Zg rfl ?_ ?_<;>conv=>arg 3;whnf
  ·exact Zd (ih _)
  ·exact Zh rfl
 ·exact Zh rfl
def ZcI (t0:Bool) (t1:Bool) (t2:Bool) (t3:Bool) (b:Int) (m1_0:Int) (m1_1:Int) (m1_2:(List Zam)) (m1_3:(List Zo)) (m1_4:(List Zk)) (m1_5:(List Zu)) (s19:Int×Int×(List Int)) (r24:Int):Int→Ex×List V×Zp
  | r=>(.exit 8,[(.sl 0 1),(.d (Ze b)),(.fn 121 [(.ptr 1 0)]),(.d (Ze r24)),(.d (Ze r))],[(.arr 1 (List.map Ze s19.2.2)),(.cells [(.d (Ze m1_0)),(.d (Ze m1_1)),(.d (D.list t0 (List.map Zau m1_2))),(.d (D.list t1 (List.map ZJ m1_3))),(.d (D.list t2 (List.map Zt m1_4))),(.d (D.list t3 (List.map ZA m1_5)))])])
theorem ZeO {t0:Bool}{t1:Bool}{t2:Bool}{t3:Bool}{b:Int}{m1_0:Int}{m1_1:Int}{m1_2:(List Zam)}{m1_3:(List Zo)}{m1_4:(List Zk)}{m1_5:(List Zu)}{s19:Int×Int×(List Int)}{r24:Int}:∀(s25:Int) (r:Int),lp (Zaz b (fun z0 z1=>Zw z0 z1 m1_4) s19 r24) s25=some r→lpW ctx 2 [0,1,4,12,13] [0,1,4,12,13] Zvc [(.sl 0 1),(.d (Ze b)),(.fn 121 [(.ptr 1 0)]),(.d (Ze r24)),(.d (Ze s25))] [(.arr 1 (List.map Ze s19.2.2)),(.cells [(.d (Ze m1_0)),(.d (Ze m1_1)),(.d (D.list t0 (List.map Zau m1_2))),(.d (D.list t1 (List.map ZJ m1_3))),(.d (D.list t2 (List.map Zt m1_4))),(.d (D.list t3 (List.map ZA m1_5)))])]=some ((ZcI t0 t1 t2 t3 b m1_0 m1_1 m1_2 m1_3 m1_4 m1_5 s19 r24) r):=by
 refine Zbe (ZcI t0 t1 t2 t3 b m1_0 m1_1 m1_2 m1_3 m1_4 m1_5 s19 r24) ?_
 intro s25 rcl ih
 show Z6 _ _ (lpW _ _ _ _ _ _ _)
 unfold Zaz
 rw[Zbg]
 conv=>arg 3;whnf
 refine Zg rfl ?_ ?_<;>conv=>arg 3;whnf
 ·refine Zj rfl rfl fun x26 hx26=>?_;conv=>arg 3;whnf
  refine Zf (Zl rfl hx26) ?_;conv=>arg 3;whnf
  refine Zj rfl rfl fun x27 hx27=>?_;conv=>arg 3;whnf
  refine Zf (Zl rfl hx27) ?_;conv=>arg 3;whnf
  refine Zs _ ZN rfl fun x28 hx28=>?_;conv=>arg 3;whnf
  refine Zg rfl ?_ ?_<;>conv=>arg 3;whnf
  ·exact Zh rfl
  ·exact Zd (ih _)
 ·exact Zh rfl
def ZcG (t0:Bool) (t1:Bool) (t2:Bool) (t3:Bool) (b:Int) (m1_0:Int) (m1_1:Int) (m1_2:(List Zam)) (m1_3:(List Zo)) (m1_4:(List Zk)) (m1_5:(List Zu)):(Int×(List Int))→Ex×List V×Zp
  | r=>(.exit 4,[(.sl 0 1),(.d (Ze b)),(.d (Ze r.1))],[(.arr 1 (List.map Ze r.2)),(.cells [(.d (Ze m1_0)),(.d (Ze m1_1)),(.d (D.list t0 (List.map Zau m1_2))),(.d (D.list t1 (List.map ZJ m1_3))),(.d (D.list t2 (List.map Zt m1_4))),(.d (D.list t3 (List.map ZA m1_5)))])])
theorem ZeT {t0:Bool}{t1:Bool}{t2:Bool}{t3:Bool}{b:Int}{m1_0:Int}{m1_1:Int}{m1_2:(List Zam)}{m1_3:(List Zo)}{m1_4:(List Zk)}{m1_5:(List Zu)}:∀(s19:Int×Int×(List Int)) (r:(Int×(List Int))),lp (ZaZ b (fun z0 z1=>Zw z0 z1 m1_4)) s19=some r→lpW ctx 2 [0,1,4,12,13] [0,1,13] Zut [(.sl 0 1),(.d (Ze b)),(.fn 121 [(.ptr 1 0)]),(.d (Ze s19.1)),(.d (Ze s19.2.1))] [(.arr 1 (List.map Ze s19.2.2)),(.cells [(.d (Ze m1_0)),(.d (Ze m1_1)),(.d (D.list t0 (List.map Zau m1_2))),(.d (D.list t1 (List.map ZJ m1_3))),(.d (D.list t2 (List.map Zt m1_4))),(.d (D.list t3 (List.map ZA m1_5)))])]=some ((ZcG t0 t1 t2 t3 b m1_0 m1_1 m1_2 m1_3 m1_4 m1_5) r):=by
 refine Zbe (ZcG t0 t1 t2 t3 b m1_0 m1_1 m1_2 m1_3 m1_4 m1_5) ?_
 intro s19 rcl ih
 show Z6 _ _ (lpW _ _ _ _ _ _ _)
 unfold ZaZ
 rw[Zbg]
 conv=>arg 3;whnf
 refine Zc _ (ZeU _) fun r24 hr24=>?_;conv=>arg 3;whnf
 refine Zc _ (ZeO _) fun r29 hr29=>?_;conv=>arg 3;whnf
 refine Zg rfl ?_ ?_<;>conv=>arg 3;whnf
 ·exact Zh rfl
 ·refine Zj rfl rfl fun x30 hx30=>?_;conv=>arg 3;whnf
  refine Zf (Zl rfl hx30) ?_;conv=>arg 3;whnf
  refine Zj rfl rfl fun x31 hx31=>?_;conv=>arg 3;whnf
  refine Zf (Zl rfl hx31) ?_;conv=>arg 3;whnf
  refine Zf (Zay rfl hx31) ?_;conv=>arg 3;whnf
  refine Zf (Zl rfl hx31) ?_;conv=>arg 3;whnf
  refine Zq (ZZ Ze s19.2.2 r24.toNat x30) ?_;conv=>arg 3;whnf
  refine Zj rfl rfl fun x32 hx32=>?_;conv=>arg 3;whnf
  refine Zf (Zl rfl hx32) ?_;conv=>arg 3;whnf
  refine Zq (ZZ Ze (List.set s19.2.2 r24.toNat x30) r29.toNat x31) ?_;conv=>arg 3;whnf
  exact Zd (ih _)
theorem Zm {t0:Bool}{t1:Bool}{t2:Bool}{t3:Bool}{b:Int}{c:Int}{d:Int}{m0_0:(List Int)}{m1_0:Int}{m1_1:Int}{m1_2:(List Zam)}{m1_3:(List Zo)}{m1_4:(List Zk)}{m1_5:(List Zu)}:∀r,(Zr b c d (fun z0 z1=>Zw z0 z1 m1_4) m0_0)=some r→evW ctx 149 [(.sl 0 1),(.d (Ze b)),(.d (Ze c)),(.d (Ze d)),(.fn 121 [(.ptr 1 0)])] [(.arr 1 (List.map Ze m0_0)),(.cells [(.d (Ze m1_0)),(.d (Ze m1_1)),(.d (D.list t0 (List.map Zau m1_2))),(.d (D.list t1 (List.map ZJ m1_3))),(.d (D.list t2 (List.map Zt m1_4))),(.d (D.list t3 (List.map ZA m1_5)))])]=some ((Zc4 t0 t1 t2 t3 b c d m0_0 m1_0 m1_1 m1_2 m1_3 m1_4 m1_5) r):=by
 show Z6 _ (fun r rhs=>rhs=some ((Zc4 t0 t1 t2 t3 b c d m0_0 m1_0 m1_1 m1_2 m1_3 m1_4 m1_5) r)) _
 unfold Zr
 rw[Zeh ctx 149 Zx9 _ _ rfl rfl]
 conv=>arg 3;whnf
 refine Zj rfl rfl fun x0 hx0=>?_;conv=>arg 3;whnf
 refine Zf (Zl rfl hx0) ?_;conv=>arg 3;whnf
 refine Zj rfl rfl fun x1 hx1=>?_;conv=>arg 3;whnf
 refine Zf (Zl rfl hx1) ?_;conv=>arg 3;whnf
 refine Zf (Zay rfl hx1) ?_;conv=>arg 3;whnf
 refine Zf (Zl rfl hx1) ?_;conv=>arg 3;whnf
 refine Zq (ZZ Ze m0_0 b.toNat x0) ?_;conv=>arg 3;whnf
 refine Zj rfl rfl fun x2 hx2=>?_;conv=>arg 3;whnf
 refine Zf (Zl rfl hx2) ?_;conv=>arg 3;whnf
 refine Zq (ZZ Ze (List.set m0_0 b.toNat x0) d.toNat x1) ?_;conv=>arg 3;whnf
 refine Zc _ (ZeS _) fun r7 hr7=>?_;conv=>arg 3;whnf
 refine Zc _ (ZeR _) fun r12 hr12=>?_;conv=>arg 3;whnf
 refine Zg rfl ?_ ?_<;>conv=>arg 3;whnf
 ·refine Zj rfl rfl fun x13 hx13=>?_;conv=>arg 3;whnf
  refine Zf (Zl rfl hx13) ?_;conv=>arg 3;whnf
  refine Zj rfl rfl fun x14 hx14=>?_;conv=>arg 3;whnf
  refine Zf (Zl rfl hx14) ?_;conv=>arg 3;whnf
  refine Zf (Zay rfl hx14) ?_;conv=>arg 3;whnf
  refine Zf (Zl rfl hx14) ?_;conv=>arg 3;whnf
  refine Zq (ZZ Ze (List.set (List.set m0_0 b.toNat x0) d.toNat x1) r12.toNat x13) ?_;conv=>arg 3;whnf
  refine Zj rfl rfl fun x15 hx15=>?_;conv=>arg 3;whnf
  refine Zf (Zl rfl hx15) ?_;conv=>arg 3;whnf
  refine Zq (ZZ Ze (List.set (List.set (List.set m0_0 b.toNat x0) d.toNat x1) r12.toNat x13) b.toNat x14) ?_;conv=>arg 3;whnf
  exact Zh rfl
 ·refine Zj rfl rfl fun x16 hx16=>?_;conv=>arg 3;whnf
  refine Zf (Zl rfl hx16) ?_;conv=>arg 3;whnf
  refine Zj rfl rfl fun x17 hx17=>?_;conv=>arg 3;whnf
  refine Zf (Zl rfl hx17) ?_;conv=>arg 3;whnf
  refine Zf (Zay rfl hx17) ?_;conv=>arg 3;whnf
  refine Zf (Zl rfl hx17) ?_;conv=>arg 3;whnf
  refine Zq (ZZ Ze (List.set (List.set m0_0 b.toNat x0) d.toNat x1) r7.toNat x16) ?_;conv=>arg 3;whnf
  refine Zj rfl rfl fun x18 hx18=>?_;conv=>arg 3;whnf
  refine Zf (Zl rfl hx18) ?_;conv=>arg 3;whnf
  refine Zq (ZZ Ze (List.set (List.set (List.set m0_0 b.toNat x0) d.toNat x1) r7.toNat x16) r12.toNat x17) ?_;conv=>arg 3;whnf
  refine Zc _ (ZeT _) fun r33 hr33=>?_;conv=>arg 3;whnf
  refine Zj rfl rfl fun x34 hx34=>?_;conv=>arg 3;whnf
  refine Zf (Zl rfl hx34) ?_;conv=>arg 3;whnf
  refine Zj rfl rfl fun x35 hx35=>?_;conv=>arg 3;whnf
  refine Zf (Zl rfl hx35) ?_;conv=>arg 3;whnf
  refine Zf (Zay rfl hx35) ?_;conv=>arg 3;whnf
  refine Zf (Zl rfl hx35) ?_;conv=>arg 3;whnf
  refine Zq (ZZ Ze r33.2 r33.1.toNat x34) ?_;conv=>arg 3;whnf
  refine Zj rfl rfl fun x36 hx36=>?_;conv=>arg 3;whnf
  refine Zf (Zl rfl hx36) ?_;conv=>arg 3;whnf
  refine Zq (ZZ Ze (List.set r33.2 r33.1.toNat x34) b.toNat x35) ?_;conv=>arg 3;whnf
  exact Zh rfl
def Zcs (t0:Bool) (t1:Bool) (t2:Bool) (t3:Bool) (b:Int) (c:Int) (d:Int) (m0_0:(List Int)) (m1_0:Int) (m1_1:Int) (m1_2:(List Zam)) (m1_3:(List Zo)) (m1_4:(List Zk)) (m1_5:(List Zu)):(Int×(List Int))→V×Zp
  | r=>((.d (Ze r.1)),[(.arr 1 (List.map Ze r.2)),(.cells [(.d (Ze m1_0)),(.d (Ze m1_1)),(.d (D.list t0 (List.map Zau m1_2))),(.d (D.list t1 (List.map ZJ m1_3))),(.d (D.list t2 (List.map Zt m1_4))),(.d (D.list t3 (List.map ZA m1_5)))])])
def Zcb (t0:Bool) (t1:Bool) (t2:Bool) (t3:Bool) (b:Int) (m1_0:Int) (m1_1:Int) (m1_2:(List Zam)) (m1_3:(List Zo)) (m1_4:(List Zk)) (m1_5:(List Zu)) (s3:Int×Int×(List Int)):Int→Ex×List V×Zp
  | r=>(.exit 2,[(.sl 0 1),(.d (Ze b)),(.fn 121 [(.ptr 1 0)]),(.d (Ze r)),(.d (Ze s3.2.1))],[(.arr 1 (List.map Ze s3.2.2)),(.cells [(.d (Ze m1_0)),(.d (Ze m1_1)),(.d (D.list t0 (List.map Zau m1_2))),(.d (D.list t1 (List.map ZJ m1_3))),(.d (D.list t2 (List.map Zt m1_4))),(.d (D.list t3 (List.map ZA m1_5)))])])
theorem Zd0 {t0:Bool}{t1:Bool}{t2:Bool}{t3:Bool}{b:Int}{m1_0:Int}{m1_1:Int}{m1_2:(List Zam)}{m1_3:(List Zo)}{m1_4:(List Zk)}{m1_5:(List Zu)}{s3:Int×Int×(List Int)}:∀(s4:Int) (r:Int),lp (Zae b (fun z0 z1=>Zw z0 z1 m1_4) s3) s4=some r→lpW ctx 2 [0,1,4,11,12] [0,1,4,11,12] ZuQ [(.sl 0 1),(.d (Ze b)),(.fn 121 [(.ptr 1 0)]),(.d (Ze s4)),(.d (Ze s3.2.1))] [(.arr 1 (List.map Ze s3.2.2)),(.cells [(.d (Ze m1_0)),(.d (Ze m1_1)),(.d (D.list t0 (List.map Zau m1_2))),(.d (D.list t1 (List.map ZJ m1_3))),(.d (D.list t2 (List.map Zt m1_4))),(.d (D.list t3 (List.map ZA m1_5)))])]=some ((Zcb t0 t1 t2 t3 b m1_0 m1_1 m1_2 m1_3 m1_4 m1_5 s3) r):=by
 refine Zbe (Zcb t0 t1 t2 t3 b m1_0 m1_1 m1_2 m1_3 m1_4 m1_5 s3) ?_
 intro s4 rcl ih
 show Z6 _ _ (lpW _ _ _ _ _ _ _)
 unfold Zae
 rw[Zbg]
 conv=>arg 3;whnf
 refine Zg rfl ?_ ?_<;>conv=>arg 3;whnf
 ·refine Zj rfl rfl fun x5 hx5=>?_;conv=>arg 3;whnf
  refine Zf (Zl rfl hx5) ?_;conv=>arg 3;whnf
  refine Zj rfl rfl fun x6 hx6=>?_;conv=>arg 3;whnf
  refine Zf (Zl rfl hx6) ?_;conv=>arg 3;whnf
  refine Zs _ ZN rfl fun x7 hx7=>?_;conv=>arg 3;whnf
  refine Zg rfl ?_ ?_<;>conv=>arg 3;whnf
  ·exact Zh rfl
  ·exact Zd (ih _)
 ·exact Zh rfl
def Zcc (t0:Bool) (t1:Bool) (t2:Bool) (t3:Bool) (b:Int) (m1_0:Int) (m1_1:Int) (m1_2:(List Zam)) (m1_3:(List Zo)) (m1_4:(List Zk)) (m1_5:(List Zu)) (s3:Int×Int×(List Int)) (r8:Int):Int→Ex×List V×Zp
  | r=>(.exit 4,[(.sl 0 1),(.d (Ze b)),(.fn 121 [(.ptr 1 0)]),(.d (Ze r8)),(.d (Ze r))],[(.arr 1 (List.map Ze s3.2.2)),(.cells [(.d (Ze m1_0)),(.d (Ze m1_1)),(.d (D.list t0 (List.map Zau m1_2))),(.d (D.list t1 (List.map ZJ m1_3))),(.d (D.list t2 (List.map Zt m1_4))),(.d (D.list t3 (List.map ZA m1_5)))])])
theorem Zea {t0:Bool}{t1:Bool}{t2:Bool}{t3:Bool}{b:Int}{m1_0:Int}{m1_1:Int}{m1_2:(List Zam)}{m1_3:(List Zo)}{m1_4:(List Zk)}{m1_5:(List Zu)}{s3:Int×Int×(List Int)}{r8:Int}:∀(s9:Int) (r:Int),lp (Zaf b (fun z0 z1=>Zw z0 z1 m1_4) s3 r8) s9=some r→lpW ctx 2 [0,1,4,11,12] [0,1,4,11,12] Zuj [(.sl 0 1),(.d (Ze b)),(.fn 121 [(.ptr 1 0)]),(.d (Ze r8)),(.d (Ze s9))] [(.arr 1 (List.map Ze s3.2.2)),(.cells [(.d (Ze m1_0)),(.d (Ze m1_1)),(.d (D.list t0 (List.map Zau m1_2))),(.d (D.list t1 (List.map ZJ m1_3))),(.d (D.list t2 (List.map Zt m1_4))),(.d (D.list t3 (List.map ZA m1_5)))])]=some ((Zcc t0 t1 t2 t3 b m1_0 m1_1 m1_2 m1_3 m1_4 m1_5 s3 r8) r):=by
 refine Zbe (Zcc t0 t1 t2 t3 b m1_0 m1_1 m1_2 m1_3 m1_4 m1_5 s3 r8) ?_
 intro s9 rcl ih
 show Z6 _ _ (lpW _ _ _ _ _ _ _)
 unfold Zaf
 rw[Zbg]
 conv=>arg 3;whnf
 refine Zg rfl ?_ ?_<;>conv=>arg 3;whnf
 ·refine Zj rfl rfl fun x10 hx10=>?_;conv=>arg 3;whnf
  refine Zf (Zl rfl hx10) ?_;conv=>arg 3;whnf
  refine Zj rfl rfl fun x11 hx11=>?_;conv=>arg 3;whnf
  refine Zf (Zl rfl hx11) ?_;conv=>arg 3;whnf
  refine Zs _ ZN rfl fun x12 hx12=>?_;conv=>arg 3;whnf
  refine Zg rfl ?_ ?_<;>conv=>arg 3;whnf
  ·exact Zd (ih _)
  ·exact Zh rfl
 ·exact Zh rfl
def Zca (t0:Bool) (t1:Bool) (t2:Bool) (t3:Bool) (b:Int) (m1_0:Int) (m1_1:Int) (m1_2:(List Zam)) (m1_3:(List Zo)) (m1_4:(List Zk)) (m1_5:(List Zu)):(Int×(List Int))→Ex×List V×Zp
  | r=>(.exit 0,[(.d (Ze r.1))],[(.arr 1 (List.map Ze r.2)),(.cells [(.d (Ze m1_0)),(.d (Ze m1_1)),(.d (D.list t0 (List.map Zau m1_2))),(.d (D.list t1 (List.map ZJ m1_3))),(.d (D.list t2 (List.map Zt m1_4))),(.d (D.list t3 (List.map ZA m1_5)))])])
theorem Zd4 {t0:Bool}{t1:Bool}{t2:Bool}{t3:Bool}{b:Int}{m1_0:Int}{m1_1:Int}{m1_2:(List Zam)}{m1_3:(List Zo)}{m1_4:(List Zk)}{m1_5:(List Zu)}:∀(s3:Int×Int×(List Int)) (r:(Int×(List Int))),lp (Zar b (fun z0 z1=>Zw z0 z1 m1_4)) s3=some r→lpW ctx 2 [0,1,4,11,12] [11] Zt8 [(.sl 0 1),(.d (Ze b)),(.fn 121 [(.ptr 1 0)]),(.d (Ze s3.1)),(.d (Ze s3.2.1))] [(.arr 1 (List.map Ze s3.2.2)),(.cells [(.d (Ze m1_0)),(.d (Ze m1_1)),(.d (D.list t0 (List.map Zau m1_2))),(.d (D.list t1 (List.map ZJ m1_3))),(.d (D.list t2 (List.map Zt m1_4))),(.d (D.list t3 (List.map ZA m1_5)))])]=some ((Zca t0 t1 t2 t3 b m1_0 m1_1 m1_2 m1_3 m1_4 m1_5) r):=by
 refine Zbe (Zca t0 t1 t2 t3 b m1_0 m1_1 m1_2 m1_3 m1_4 m1_5) ?_
 intro s3 rcl ih
 show Z6 _ _ (lpW _ _ _ _ _ _ _)
 unfold Zar
 rw[Zbg]
 conv=>arg 3;whnf
 refine Zc _ (Zd0 _) fun r8 hr8=>?_;conv=>arg 3;whnf
 refine Zc _ (Zea _) fun r13 hr13=>?_;conv=>arg 3;whnf
 refine Zg rfl ?_ ?_<;>conv=>arg 3;whnf
 ·exact Zh rfl
 ·refine Zj rfl rfl fun x14 hx14=>?_;conv=>arg 3;whnf
  refine Zf (Zl rfl hx14) ?_;conv=>arg 3;whnf
  refine Zj rfl rfl fun x15 hx15=>?_;conv=>arg 3;whnf
  refine Zf (Zl rfl hx15) ?_;conv=>arg 3;whnf
  refine Zf (Zay rfl hx15) ?_;conv=>arg 3;whnf
  refine Zf (Zl rfl hx15) ?_;conv=>arg 3;whnf
  refine Zq (ZZ Ze s3.2.2 r8.toNat x14) ?_;conv=>arg 3;whnf
  refine Zj rfl rfl fun x16 hx16=>?_;conv=>arg 3;whnf
  refine Zf (Zl rfl hx16) ?_;conv=>arg 3;whnf
  refine Zq (ZZ Ze (List.set s3.2.2 r8.toNat x14) r13.toNat x15) ?_;conv=>arg 3;whnf
  exact Zd (ih _)
theorem ZE {t0:Bool}{t1:Bool}{t2:Bool}{t3:Bool}{b:Int}{c:Int}{d:Int}{m0_0:(List Int)}{m1_0:Int}{m1_1:Int}{m1_2:(List Zam)}{m1_3:(List Zo)}{m1_4:(List Zk)}{m1_5:(List Zu)}:∀r,(ZD b c d (fun z0 z1=>Zw z0 z1 m1_4) m0_0)=some r→evW ctx 148 [(.sl 0 1),(.d (Ze b)),(.d (Ze c)),(.d (Ze d)),(.fn 121 [(.ptr 1 0)])] [(.arr 1 (List.map Ze m0_0)),(.cells [(.d (Ze m1_0)),(.d (Ze m1_1)),(.d (D.list t0 (List.map Zau m1_2))),(.d (D.list t1 (List.map ZJ m1_3))),(.d (D.list t2 (List.map Zt m1_4))),(.d (D.list t3 (List.map ZA m1_5)))])]=some ((Zcs t0 t1 t2 t3 b c d m0_0 m1_0 m1_1 m1_2 m1_3 m1_4 m1_5) r):=by
 show Z6 _ (fun r rhs=>rhs=some ((Zcs t0 t1 t2 t3 b c d m0_0 m1_0 m1_1 m1_2 m1_3 m1_4 m1_5) r)) _
 unfold ZD
 rw[Zeh ctx 148 Zx7 _ _ rfl rfl]
 conv=>arg 3;whnf
 refine Zj rfl rfl fun x0 hx0=>?_;conv=>arg 3;whnf
 refine Zf (Zl rfl hx0) ?_;conv=>arg 3;whnf
 refine Zj rfl rfl fun x1 hx1=>?_;conv=>arg 3;whnf
 refine Zf (Zl rfl hx1) ?_;conv=>arg 3;whnf
 refine Zf (Zay rfl hx1) ?_;conv=>arg 3;whnf
 refine Zf (Zl rfl hx1) ?_;conv=>arg 3;whnf
 refine Zq (ZZ Ze m0_0 b.toNat x0) ?_;conv=>arg 3;whnf
 refine Zj rfl rfl fun x2 hx2=>?_;conv=>arg 3;whnf
 refine Zf (Zl rfl hx2) ?_;conv=>arg 3;whnf
 refine Zq (ZZ Ze (List.set m0_0 b.toNat x0) d.toNat x1) ?_;conv=>arg 3;whnf
 refine Zc _ (Zd4 _) fun r17 hr17=>?_;conv=>arg 3;whnf
 exact Zh rfl
def Zg2 (r:Int):D:=(D.int .u64 r)
theorem ZgH {a:Int}:∀r,(Zcx a)=some r→evD ctx 162 [(.d (Ze a))]=some (Zg2 r):=by
 show Z6 _ (fun r rhs=>rhs=some (Zg2 r)) _
 unfold Zcx
 rw[ZcX ctx 162 Zyl _ rfl rfl]
 conv=>arg 3;whnf
 refine Zs _ Zhv rfl fun x0 hx0=>?_;conv=>arg 3;whnf
 refine Zg rfl ?_ ?_
 ·exact ZbF
 ·conv=>arg 3;whnf
  exact Zh rfl
def Zhe (m0_0:Int):Unit→V×Zp
  | r=>((.d (D.int .u64 (IntKind.u64.wrap (BitVec.ofInt IntKind.u64.bits (IntKind.u64.wrap (BitVec.ofInt IntKind.u64.bits (IntKind.u64.wrap (BitVec.ofInt IntKind.u64.bits m0_0 ^^^ BitVec.ofInt IntKind.u64.bits (IntKind.u64.wrap (m0_0*2 ^ 13))).toNat) ^^^ BitVec.ofInt IntKind.u64.bits (Int.fdiv (IntKind.u64.wrap (BitVec.ofInt IntKind.u64.bits m0_0 ^^^ BitVec.ofInt IntKind.u64.bits (IntKind.u64.wrap (m0_0*2 ^ 13))).toNat) (2 ^ 7))).toNat) ^^^ BitVec.ofInt IntKind.u64.bits (IntKind.u64.wrap ((IntKind.u64.wrap (BitVec.ofInt IntKind.u64.bits (IntKind.u64.wrap (BitVec.ofInt IntKind.u64.bits m0_0 ^^^ BitVec.ofInt IntKind.u64.bits (IntKind.u64.wrap (m0_0*2 ^ 13))).toNat) ^^^ BitVec.ofInt IntKind.u64.bits (Int.fdiv (IntKind.u64.wrap (BitVec.ofInt IntKind.u64.bits m0_0 ^^^ BitVec.ofInt IntKind.u64.bits (IntKind.u64.wrap (m0_0*2 ^ 13))).toNat) (2 ^ 7))).toNat)*2 ^ 17))).toNat))),[(.cells [(.d (D.int .u64 (IntKind.u64.wrap (BitVec.ofInt IntKind.u64.bits (IntKind.u64.wrap (BitVec.ofInt IntKind.u64.bits (IntKind.u64.wrap (BitVec.ofInt IntKind.u64.bits m0_0 ^^^ BitVec.ofInt IntKind.u64.bits (IntKind.u64.wrap (m0_0*2 ^ 13))).toNat) ^^^ BitVec.ofInt IntKind.u64.bits (Int.fdiv (IntKind.u64.wrap (BitVec.ofInt IntKind.u64.bits m0_0 ^^^ BitVec.ofInt IntKind.u64.bits (IntKind.u64.wrap (m0_0*2 ^ 13))).toNat) (2 ^ 7))).toNat) ^^^ BitVec.ofInt IntKind.u64.bits (IntKind.u64.wrap ((IntKind.u64.wrap (BitVec.ofInt IntKind.u64.bits (IntKind.u64.wrap (BitVec.ofInt IntKind.u64.bits m0_0 ^^^ BitVec.ofInt IntKind.u64.bits (IntKind.u64.wrap (m0_0*2 ^ 13))).toNat) ^^^ BitVec.ofInt IntKind.u64.bits (Int.fdiv (IntKind.u64.wrap (BitVec.ofInt IntKind.u64.bits m0_0 ^^^ BitVec.ofInt IntKind.u64.bits (IntKind.u64.wrap (m0_0*2 ^ 13))).toNat) (2 ^ 7))).toNat)*2 ^ 17))).toNat)))])])
theorem Zg5 {m0_0:Int}:∀r,ZdC=some r→evW ctx 163 [(.ptr 0 0)] [(.cells [(.d (D.int .u64 m0_0))])]=some ((Zhe m0_0) r):=by
 show Z6 _ (fun r rhs=>rhs=some ((Zhe m0_0) r)) _
 unfold ZdC
 rw[Zeh ctx 163 Zym _ _ rfl rfl]
 conv=>arg 3;whnf
 refine ZQ rfl ?_;conv=>arg 3;whnf
 refine ZQ rfl ?_;conv=>arg 3;whnf
 refine ZQ rfl ?_;conv=>arg 3;whnf
 exact Zh rfl
def Zcw (t0:Bool) (t1:Bool) (t2:Bool) (t3:Bool) (b:Int) (c:Int) (m0_0:(List Int)) (m1_0:Int) (m1_1:Int) (m1_2:(List Zam)) (m1_3:(List Zo)) (m1_4:(List Zk)) (m1_5:(List Zu)):(List Int)→V×Zp
  | r=>((.d (D.tup [])),[(.arr 1 (List.map Ze r)),(.cells [(.d (Ze m1_0)),(.d (Ze m1_1)),(.d (D.list t0 (List.map Zau m1_2))),(.d (D.list t1 (List.map ZJ m1_3))),(.d (D.list t2 (List.map Zt m1_4))),(.d (D.list t3 (List.map ZA m1_5)))])])
def Zce (t0:Bool) (t1:Bool) (t2:Bool) (t3:Bool) (b:Int) (c:Int) (m1_0:Int) (m1_1:Int) (m1_2:(List Zam)) (m1_3:(List Zo)) (m1_4:(List Zk)) (m1_5:(List Zu)) (x0:Int):(List Int)→Ex×List V×Zp
  | r=>(.exit 0,[],[(.arr 1 (List.map Ze r)),(.cells [(.d (Ze m1_0)),(.d (Ze m1_1)),(.d (D.list t0 (List.map Zau m1_2))),(.d (D.list t1 (List.map ZJ m1_3))),(.d (D.list t2 (List.map Zt m1_4))),(.d (D.list t3 (List.map ZA m1_5)))])])
theorem Zee {t0:Bool}{t1:Bool}{t2:Bool}{t3:Bool}{b:Int}{c:Int}{m1_0:Int}{m1_1:Int}{m1_2:(List Zam)}{m1_3:(List Zo)}{m1_4:(List Zk)}{m1_5:(List Zu)}{x0:Int}:∀(s1:Int×(List Int)×Int) (r:(List Int)),lp (Zax b c x0) s1=some r→lpW ctx 2 [0,1,8,9,10,11] [] Zur [(.sl 0 1),(.d (Ze b)),(.d (Ze (w64 (c-b)))),(.ptr 2 0),(.d (D.int .u64 x0)),(.d (Ze s1.1))] [(.arr 1 (List.map Ze s1.2.1)),(.cells [(.d (Ze m1_0)),(.d (Ze m1_1)),(.d (D.list t0 (List.map Zau m1_2))),(.d (D.list t1 (List.map ZJ m1_3))),(.d (D.list t2 (List.map Zt m1_4))),(.d (D.list t3 (List.map ZA m1_5)))]),(.cells [(.d (D.int .u64 s1.2.2))])]=some ((Zce t0 t1 t2 t3 b c m1_0 m1_1 m1_2 m1_3 m1_4 m1_5 x0) r):=by
 refine Zbe (Zce t0 t1 t2 t3 b c m1_0 m1_1 m1_2 m1_3 m1_4 m1_5 x0) ?_
 intro s1 rcl ih
 show Z6 _ _ (lpW _ _ _ _ _ _ _)
 unfold Zax
 rw[Zbg]
 conv=>arg 3;whnf
 refine ZQ rfl ?_;conv=>arg 3;whnf
 refine Zg rfl ?_ ?_<;>conv=>arg 3;whnf
 ·refine Zc _ Zg5 fun x2 hx2=>?_;conv=>arg 3;whnf
  refine Zg rfl ?_ ?_<;>conv=>arg 3;whnf
  ·refine Zj rfl rfl fun x3 hx3=>?_;conv=>arg 3;whnf
   refine Zf (Zl rfl hx3) ?_;conv=>arg 3;whnf
   refine Zj rfl rfl fun x4 hx4=>?_;conv=>arg 3;whnf
   refine Zf (Zl rfl hx4) ?_;conv=>arg 3;whnf
   refine Zf (Zay rfl hx4) ?_;conv=>arg 3;whnf
   refine Zf (Zl rfl hx4) ?_;conv=>arg 3;whnf
   refine Zq (ZZ Ze s1.2.1 s1.1.toNat x3) ?_;conv=>arg 3;whnf
   refine Zj rfl rfl fun x5 hx5=>?_;conv=>arg 3;whnf
   refine Zf (Zl rfl hx5) ?_;conv=>arg 3;whnf
   refine Zq (ZZ Ze (List.set s1.2.1 s1.1.toNat x3) (w64 (b+(w64 ((w64 (IntKind.u64.wrap (BitVec.ofInt IntKind.u64.bits (IntKind.u64.wrap (BitVec.ofInt IntKind.u64.bits (IntKind.u64.wrap (BitVec.ofInt IntKind.u64.bits (IntKind.u64.wrap (BitVec.ofInt IntKind.u64.bits s1.2.2 ^^^ BitVec.ofInt IntKind.u64.bits (IntKind.u64.wrap (s1.2.2*2 ^ 13))).toNat) ^^^ BitVec.ofInt IntKind.u64.bits (Int.fdiv (IntKind.u64.wrap (BitVec.ofInt IntKind.u64.bits s1.2.2 ^^^ BitVec.ofInt IntKind.u64.bits (IntKind.u64.wrap (s1.2.2*2 ^ 13))).toNat) (2 ^ 7))).toNat) ^^^ BitVec.ofInt IntKind.u64.bits (IntKind.u64.wrap ((IntKind.u64.wrap (BitVec.ofInt IntKind.u64.bits (IntKind.u64.wrap (BitVec.ofInt IntKind.u64.bits s1.2.2 ^^^ BitVec.ofInt IntKind.u64.bits (IntKind.u64.wrap (s1.2.2*2 ^ 13))).toNat) ^^^ BitVec.ofInt IntKind.u64.bits (Int.fdiv (IntKind.u64.wrap (BitVec.ofInt IntKind.u64.bits s1.2.2 ^^^ BitVec.ofInt IntKind.u64.bits (IntKind.u64.wrap (s1.2.2*2 ^ 13))).toNat) (2 ^ 7))).toNat)*2 ^ 17))).toNat) &&& BitVec.ofInt IntKind.u64.bits (IntKind.u64.wrap (x0-1))).toNat))-(w64 (c-b)))))).toNat x4) ?_;conv=>arg 3;whnf
   exact Zd (ih _)
  ·refine Zj rfl rfl fun x6 hx6=>?_;conv=>arg 3;whnf
   refine Zf (Zl rfl hx6) ?_;conv=>arg 3;whnf
   refine Zj rfl rfl fun x7 hx7=>?_;conv=>arg 3;whnf
   refine Zf (Zl rfl hx7) ?_;conv=>arg 3;whnf
   refine Zf (Zay rfl hx7) ?_;conv=>arg 3;whnf
   refine Zf (Zl rfl hx7) ?_;conv=>arg 3;whnf
   refine Zq (ZZ Ze s1.2.1 s1.1.toNat x6) ?_;conv=>arg 3;whnf
   refine Zj rfl rfl fun x8 hx8=>?_;conv=>arg 3;whnf
   refine Zf (Zl rfl hx8) ?_;conv=>arg 3;whnf
   refine Zq (ZZ Ze (List.set s1.2.1 s1.1.toNat x6) (w64 (b+(w64 (IntKind.u64.wrap (BitVec.ofInt IntKind.u64.bits (IntKind.u64.wrap (BitVec.ofInt IntKind.u64.bits (IntKind.u64.wrap (BitVec.ofInt IntKind.u64.bits (IntKind.u64.wrap (BitVec.ofInt IntKind.u64.bits s1.2.2 ^^^ BitVec.ofInt IntKind.u64.bits (IntKind.u64.wrap (s1.2.2*2 ^ 13))).toNat) ^^^ BitVec.ofInt IntKind.u64.bits (Int.fdiv (IntKind.u64.wrap (BitVec.ofInt IntKind.u64.bits s1.2.2 ^^^ BitVec.ofInt IntKind.u64.bits (IntKind.u64.wrap (s1.2.2*2 ^ 13))).toNat) (2 ^ 7))).toNat) ^^^ BitVec.ofInt IntKind.u64.bits (IntKind.u64.wrap ((IntKind.u64.wrap (BitVec.ofInt IntKind.u64.bits (IntKind.u64.wrap (BitVec.ofInt IntKind.u64.bits s1.2.2 ^^^ BitVec.ofInt IntKind.u64.bits (IntKind.u64.wrap (s1.2.2*2 ^ 13))).toNat) ^^^ BitVec.ofInt IntKind.u64.bits (Int.fdiv (IntKind.u64.wrap (BitVec.ofInt IntKind.u64.bits s1.2.2 ^^^ BitVec.ofInt IntKind.u64.bits (IntKind.u64.wrap (s1.2.2*2 ^ 13))).toNat) (2 ^ 7))).toNat)*2 ^ 17))).toNat) &&& BitVec.ofInt IntKind.u64.bits (IntKind.u64.wrap (x0-1))).toNat)))).toNat x7) ?_;conv=>arg 3;whnf
   exact Zd (ih _)
 ·exact Zh rfl
theorem Zct {t0:Bool}{t1:Bool}{t2:Bool}{t3:Bool}{b:Int}{c:Int}{m0_0:(List Int)}{m1_0:Int}{m1_1:Int}{m1_2:(List Zam)}{m1_3:(List Zo)}{m1_4:(List Zk)}{m1_5:(List Zu)}:∀r,(Zah b c (fun z0 z1=>Zw z0 z1 m1_4) m0_0)=some r→evW ctx 144 [(.sl 0 1),(.d (Ze b)),(.d (Ze c)),(.fn 121 [(.ptr 1 0)])] [(.arr 1 (List.map Ze m0_0)),(.cells [(.d (Ze m1_0)),(.d (Ze m1_1)),(.d (D.list t0 (List.map Zau m1_2))),(.d (D.list t1 (List.map ZJ m1_3))),(.d (D.list t2 (List.map Zt m1_4))),(.d (D.list t3 (List.map ZA m1_5)))])]=some ((Zcw t0 t1 t2 t3 b c m0_0 m1_0 m1_1 m1_2 m1_3 m1_4 m1_5) r):=by
 show Z6 _ (fun r rhs=>rhs=some ((Zcw t0 t1 t2 t3 b c m0_0 m1_0 m1_1 m1_2 m1_3 m1_4 m1_5) r)) _
 unfold Zah
 rw[Zeh ctx 144 ZwE _ _ rfl rfl]
 conv=>arg 3;whnf
 refine Zg rfl ?_ ?_<;>conv=>arg 3;whnf
 ·refine Zs _ ZgH rfl fun x0 hx0=>?_;conv=>arg 3;whnf
  refine ZQ rfl ?_;conv=>arg 3;whnf
  refine Zc _ (Zee _) fun r9 hr9=>?_;conv=>arg 3;whnf
  exact Zh rfl
 ·exact Zh rfl
def Za (t0:Bool) (t1:Bool) (t2:Bool) (t3:Bool) (b:Int) (c:Int) (d:Int) (m0_0:(List Int)) (m1_0:Int) (m1_1:Int) (m1_2:(List Zam)) (m1_3:(List Zo)) (m1_4:(List Zk)) (m1_5:(List Zu)):(List Int)→V×Zp
  | r=>((.d (D.tup [])),[(.arr 1 (List.map Ze r)),(.cells [(.d (Ze m1_0)),(.d (Ze m1_1)),(.d (D.list t0 (List.map Zau m1_2))),(.d (D.list t1 (List.map ZJ m1_3))),(.d (D.list t2 (List.map Zt m1_4))),(.d (D.list t3 (List.map ZA m1_5)))])])
def ZcZ (t0:Bool) (t1:Bool) (t2:Bool) (t3:Bool) (m1_0:Int) (m1_1:Int) (m1_2:(List Zam)) (m1_3:(List Zo)) (m1_4:(List Zk)) (m1_5:(List Zu)) (rc:Int→Int→Int→(Int→Int→Option Int)→(List Int)→Option (List Int)):(List Int)→Ex×List V×Zp
  | r=>(.ret,[],[(.arr 1 (List.map Ze r)),(.cells [(.d (Ze m1_0)),(.d (Ze m1_1)),(.d (D.list t0 (List.map Zau m1_2))),(.d (D.list t1 (List.map ZJ m1_3))),(.d (D.list t2 (List.map Zt m1_4))),(.d (D.list t3 (List.map ZA m1_5)))])])
theorem Zfc {t0:Bool}{t1:Bool}{t2:Bool}{t3:Bool}{m1_0:Int}{m1_1:Int}{m1_2:(List Zam)}{m1_3:(List Zo)}{m1_4:(List Zk)}{m1_5:(List Zu)}{rc:Int→Int→Int→(Int→Int→Option Int)→(List Int)→Option (List Int)} (hrc:∀(t0:Bool) (t1:Bool) (t2:Bool) (t3:Bool) (b:Int) (c:Int) (d:Int) (m0_0:(List Int)) (m1_0:Int) (m1_1:Int) (m1_2:(List Zam)) (m1_3:(List Zo)) (m1_4:(List Zk)) (m1_5:(List Zu)) (r:(List Int)),rc b c d (fun z0 z1=>Zw z0 z1 m1_4) m0_0=some r→evW ctx 138 [(.sl 0 1),(.d (Ze b)),(.d (Ze c)),(.d (Ze d)),(.fn 121 [(.ptr 1 0)])] [(.arr 1 (List.map Ze m0_0)),(.cells [(.d (Ze m1_0)),(.d (Ze m1_1)),(.d (D.list t0 (List.map Zau m1_2))),(.d (D.list t1 (List.map ZJ m1_3))),(.d (D.list t2 (List.map Zt m1_4))),(.d (D.list t3 (List.map ZA m1_5)))])]=some ((Za t0 t1 t2 t3 b c d m0_0 m1_0 m1_1 m1_2 m1_3 m1_4 m1_5) r)):∀(s0:Int×Int×Int×Bool×Bool×(List Int)) (r:(List Int)),lp (ZV (fun z0 z1=>Zw z0 z1 m1_4) rc) s0=some r→lpW ctx 2 [0,1,2,3,4,10,11] [] Zve [(.sl 0 1),(.d (Ze s0.1)),(.d (Ze s0.2.1)),(.d (Ze s0.2.2.1)),(.fn 121 [(.ptr 1 0)]),(.d (D.bool s0.2.2.2.1)),(.d (D.bool s0.2.2.2.2.1))] [(.arr 1 (List.map Ze s0.2.2.2.2.2)),(.cells [(.d (Ze m1_0)),(.d (Ze m1_1)),(.d (D.list t0 (List.map Zau m1_2))),(.d (D.list t1 (List.map ZJ m1_3))),(.d (D.list t2 (List.map Zt m1_4))),(.d (D.list t3 (List.map ZA m1_5)))])]=some ((ZcZ t0 t1 t2 t3 m1_0 m1_1 m1_2 m1_3 m1_4 m1_5 rc) r):=by
 refine Zbe (ZcZ t0 t1 t2 t3 m1_0 m1_1 m1_2 m1_3 m1_4 m1_5 rc) ?_
 intro s0 rcl ih
 show Z6 _ _ (lpW _ _ _ _ _ _ _)
 unfold ZV
 rw[Zbg]
 rcases hb:s0.2.2.2.1 with _ | _
 ·refine ZnZ ?_
  rcases hb:s0.2.2.2.2.1 with _ | _
  ·refine ZnZ ?_;conv=>arg 3;whnf
   refine Zg rfl ?_ ?_<;>conv=>arg 3;whnf
   ·refine Zc _ ZaO fun x170 hx170=>?_;conv=>arg 3;whnf
    exact Zh rfl
   ·refine Zg rfl ?_ ?_<;>conv=>arg 3;whnf
    ·refine Zc _ Zba fun x171 hx171=>?_;conv=>arg 3;whnf
     exact Zh rfl
    ·refine Zc _ Zct fun x172 hx172=>?_;conv=>arg 3;whnf
     refine Zc _ ZaV fun x173 hx173=>?_;conv=>arg 3;whnf
     refine Zg rfl ?_ ?_<;>conv=>arg 3;whnf
     ·refine Zc _ ZaU fun x174 hx174=>?_;conv=>arg 3;whnf
      refine Zg rfl ?_ ?_<;>conv=>arg 3;whnf
      ·refine Zj rfl rfl fun x175 hx175=>?_;conv=>arg 3;whnf
       refine Zf (Zl rfl hx175) ?_;conv=>arg 3;whnf
       refine Zj rfl rfl fun x176 hx176=>?_;conv=>arg 3;whnf
       refine Zf (Zl rfl hx176) ?_;conv=>arg 3;whnf
       refine Zs _ ZN rfl fun x177 hx177=>?_;conv=>arg 3;whnf
       refine Zg rfl ?_ ?_<;>conv=>arg 3;whnf
       ·refine Zc _ Zm fun x178 hx178=>?_
        clear hx178
        rcases x178 with x178 | x178
        ·conv=>arg 3;whnf
         refine ZbI rfl ?_;conv=>arg 3;whnf
         refine ZQ rfl ?_;conv=>arg 3;whnf
         refine Zg rfl ?_ ?_<;>conv=>arg 3;whnf
         ·refine Zg rfl ?_ ?_<;>conv=>arg 3;whnf
          ·refine Zc (Za t0 t1 t2 t3 s0.1 x178.1 (w64 (s0.2.2.1-1)) x178.2 m1_0 m1_1 m1_2 m1_3 m1_4 m1_5) (hrc t0 t1 t2 t3 s0.1 x178.1 (w64 (s0.2.2.1-1)) x178.2 m1_0 m1_1 m1_2 m1_3 m1_4 m1_5) fun x179 hx179=>?_;conv=>arg 3;whnf
           exact Zd (ih _)
          ·refine Zc (Za t0 t1 t2 t3 s0.1 x178.1 (w64 (s0.2.2.1-1)) x178.2 m1_0 m1_1 m1_2 m1_3 m1_4 m1_5) (hrc t0 t1 t2 t3 s0.1 x178.1 (w64 (s0.2.2.1-1)) x178.2 m1_0 m1_1 m1_2 m1_3 m1_4 m1_5) fun x180 hx180=>?_;conv=>arg 3;whnf
           exact Zd (ih _)
         ·refine Zg rfl ?_ ?_<;>conv=>arg 3;whnf
          ·refine Zc (Za t0 t1 t2 t3 (w64 (x178.1+1)) s0.2.1 (w64 (s0.2.2.1-1)) x178.2 m1_0 m1_1 m1_2 m1_3 m1_4 m1_5) (hrc t0 t1 t2 t3 (w64 (x178.1+1)) s0.2.1 (w64 (s0.2.2.1-1)) x178.2 m1_0 m1_1 m1_2 m1_3 m1_4 m1_5) fun x181 hx181=>?_;conv=>arg 3;whnf
           exact Zd (ih _)
          ·refine Zc (Za t0 t1 t2 t3 (w64 (x178.1+1)) s0.2.1 (w64 (s0.2.2.1-1)) x178.2 m1_0 m1_1 m1_2 m1_3 m1_4 m1_5) (hrc t0 t1 t2 t3 (w64 (x178.1+1)) s0.2.1 (w64 (s0.2.2.1-1)) x178.2 m1_0 m1_1 m1_2 m1_3 m1_4 m1_5) fun x182 hx182=>?_;conv=>arg 3;whnf
           exact Zd (ih _)
        ·conv=>arg 3;whnf
         refine ZQ rfl ?_;conv=>arg 3;whnf
         refine ZQ rfl ?_;conv=>arg 3;whnf
         refine Zg rfl ?_ ?_<;>conv=>arg 3;whnf
         ·refine Zg rfl ?_ ?_<;>conv=>arg 3;whnf
          ·refine Zc (Za t0 t1 t2 t3 s0.1 x178.1 (w64 (s0.2.2.1-1)) x178.2 m1_0 m1_1 m1_2 m1_3 m1_4 m1_5) (hrc t0 t1 t2 t3 s0.1 x178.1 (w64 (s0.2.2.1-1)) x178.2 m1_0 m1_1 m1_2 m1_3 m1_4 m1_5) fun x183 hx183=>?_;conv=>arg 3;whnf
           exact Zd (ih _)
          ·refine Zc (Za t0 t1 t2 t3 s0.1 x178.1 (w64 (s0.2.2.1-1)) x178.2 m1_0 m1_1 m1_2 m1_3 m1_4 m1_5) (hrc t0 t1 t2 t3 s0.1 x178.1 (w64 (s0.2.2.1-1)) x178.2 m1_0 m1_1 m1_2 m1_3 m1_4 m1_5) fun x184 hx184=>?_;conv=>arg 3;whnf
           exact Zd (ih _)
         ·refine Zg rfl ?_ ?_<;>conv=>arg 3;whnf
          ·refine Zc (Za t0 t1 t2 t3 (w64 (x178.1+1)) s0.2.1 (w64 (s0.2.2.1-1)) x178.2 m1_0 m1_1 m1_2 m1_3 m1_4 m1_5) (hrc t0 t1 t2 t3 (w64 (x178.1+1)) s0.2.1 (w64 (s0.2.2.1-1)) x178.2 m1_0 m1_1 m1_2 m1_3 m1_4 m1_5) fun x185 hx185=>?_;conv=>arg 3;whnf
           exact Zd (ih _)
          ·refine Zc (Za t0 t1 t2 t3 (w64 (x178.1+1)) s0.2.1 (w64 (s0.2.2.1-1)) x178.2 m1_0 m1_1 m1_2 m1_3 m1_4 m1_5) (hrc t0 t1 t2 t3 (w64 (x178.1+1)) s0.2.1 (w64 (s0.2.2.1-1)) x178.2 m1_0 m1_1 m1_2 m1_3 m1_4 m1_5) fun x186 hx186=>?_;conv=>arg 3;whnf
           exact Zd (ih _)
       ·refine Zc _ ZE fun x187 hx187=>?_;conv=>arg 3;whnf
        exact Zd (ih _)
      ·refine Zc _ Zm fun x188 hx188=>?_
       clear hx188
       rcases x188 with x188 | x188
       ·conv=>arg 3;whnf
        refine ZbI rfl ?_;conv=>arg 3;whnf
        refine ZQ rfl ?_;conv=>arg 3;whnf
        refine Zg rfl ?_ ?_<;>conv=>arg 3;whnf
        ·refine Zg rfl ?_ ?_<;>conv=>arg 3;whnf
         ·refine Zc (Za t0 t1 t2 t3 s0.1 x188.1 (w64 (s0.2.2.1-1)) x188.2 m1_0 m1_1 m1_2 m1_3 m1_4 m1_5) (hrc t0 t1 t2 t3 s0.1 x188.1 (w64 (s0.2.2.1-1)) x188.2 m1_0 m1_1 m1_2 m1_3 m1_4 m1_5) fun x189 hx189=>?_;conv=>arg 3;whnf
          exact Zd (ih _)
         ·refine Zc (Za t0 t1 t2 t3 s0.1 x188.1 (w64 (s0.2.2.1-1)) x188.2 m1_0 m1_1 m1_2 m1_3 m1_4 m1_5) (hrc t0 t1 t2 t3 s0.1 x188.1 (w64 (s0.2.2.1-1)) x188.2 m1_0 m1_1 m1_2 m1_3 m1_4 m1_5) fun x190 hx190=>?_;conv=>arg 3;whnf
          exact Zd (ih _)
        ·refine Zg rfl ?_ ?_<;>conv=>arg 3;whnf
         ·refine Zc (Za t0 t1 t2 t3 (w64 (x188.1+1)) s0.2.1 (w64 (s0.2.2.1-1)) x188.2 m1_0 m1_1 m1_2 m1_3 m1_4 m1_5) (hrc t0 t1 t2 t3 (w64 (x188.1+1)) s0.2.1 (w64 (s0.2.2.1-1)) x188.2 m1_0 m1_1 m1_2 m1_3 m1_4 m1_5) fun x191 hx191=>?_;conv=>arg 3;whnf
          exact Zd (ih _)
         ·refine Zc (Za t0 t1 t2 t3 (w64 (x188.1+1)) s0.2.1 (w64 (s0.2.2.1-1)) x188.2 m1_0 m1_1 m1_2 m1_3 m1_4 m1_5) (hrc t0 t1 t2 t3 (w64 (x188.1+1)) s0.2.1 (w64 (s0.2.2.1-1)) x188.2 m1_0 m1_1 m1_2 m1_3 m1_4 m1_5) fun x192 hx192=>?_;conv=>arg 3;whnf
          exact Zd (ih _)
       ·conv=>arg 3;whnf
        refine ZQ rfl ?_;conv=>arg 3;whnf
        refine ZQ rfl ?_;conv=>arg 3;whnf
        refine Zg rfl ?_ ?_<;>conv=>arg 3;whnf
        ·refine Zg rfl ?_ ?_<;>conv=>arg 3;whnf
         ·refine Zc (Za t0 t1 t2 t3 s0.1 x188.1 (w64 (s0.2.2.1-1)) x188.2 m1_0 m1_1 m1_2 m1_3 m1_4 m1_5) (hrc t0 t1 t2 t3 s0.1 x188.1 (w64 (s0.2.2.1-1)) x188.2 m1_0 m1_1 m1_2 m1_3 m1_4 m1_5) fun x193 hx193=>?_;conv=>arg 3;whnf
          exact Zd (ih _)
         ·refine Zc (Za t0 t1 t2 t3 s0.1 x188.1 (w64 (s0.2.2.1-1)) x188.2 m1_0 m1_1 m1_2 m1_3 m1_4 m1_5) (hrc t0 t1 t2 t3 s0.1 x188.1 (w64 (s0.2.2.1-1)) x188.2 m1_0 m1_1 m1_2 m1_3 m1_4 m1_5) fun x194 hx194=>?_;conv=>arg 3;whnf
          exact Zd (ih _)
        ·refine Zg rfl ?_ ?_<;>conv=>arg 3;whnf
         ·refine Zc (Za t0 t1 t2 t3 (w64 (x188.1+1)) s0.2.1 (w64 (s0.2.2.1-1)) x188.2 m1_0 m1_1 m1_2 m1_3 m1_4 m1_5) (hrc t0 t1 t2 t3 (w64 (x188.1+1)) s0.2.1 (w64 (s0.2.2.1-1)) x188.2 m1_0 m1_1 m1_2 m1_3 m1_4 m1_5) fun x195 hx195=>?_;conv=>arg 3;whnf
          exact Zd (ih _)
         ·refine Zc (Za t0 t1 t2 t3 (w64 (x188.1+1)) s0.2.1 (w64 (s0.2.2.1-1)) x188.2 m1_0 m1_1 m1_2 m1_3 m1_4 m1_5) (hrc t0 t1 t2 t3 (w64 (x188.1+1)) s0.2.1 (w64 (s0.2.2.1-1)) x188.2 m1_0 m1_1 m1_2 m1_3 m1_4 m1_5) fun x196 hx196=>?_;conv=>arg 3;whnf
          exact Zd (ih _)
     ·refine Zg rfl ?_ ?_<;>conv=>arg 3;whnf
      ·refine Zj rfl rfl fun x197 hx197=>?_;conv=>arg 3;whnf
       refine Zf (Zl rfl hx197) ?_;conv=>arg 3;whnf
       refine Zj rfl rfl fun x198 hx198=>?_;conv=>arg 3;whnf
       refine Zf (Zl rfl hx198) ?_;conv=>arg 3;whnf
       refine Zs _ ZN rfl fun x199 hx199=>?_;conv=>arg 3;whnf
       refine Zg rfl ?_ ?_<;>conv=>arg 3;whnf
       ·refine Zc _ Zm fun x200 hx200=>?_
        clear hx200
        rcases x200 with x200 | x200
        ·conv=>arg 3;whnf
         refine ZbI rfl ?_;conv=>arg 3;whnf
         refine ZQ rfl ?_;conv=>arg 3;whnf
         refine Zg rfl ?_ ?_<;>conv=>arg 3;whnf
         ·refine Zg rfl ?_ ?_<;>conv=>arg 3;whnf
          ·refine Zc (Za t0 t1 t2 t3 s0.1 x200.1 (w64 (s0.2.2.1-1)) x200.2 m1_0 m1_1 m1_2 m1_3 m1_4 m1_5) (hrc t0 t1 t2 t3 s0.1 x200.1 (w64 (s0.2.2.1-1)) x200.2 m1_0 m1_1 m1_2 m1_3 m1_4 m1_5) fun x201 hx201=>?_;conv=>arg 3;whnf
           exact Zd (ih _)
          ·refine Zc (Za t0 t1 t2 t3 s0.1 x200.1 (w64 (s0.2.2.1-1)) x200.2 m1_0 m1_1 m1_2 m1_3 m1_4 m1_5) (hrc t0 t1 t2 t3 s0.1 x200.1 (w64 (s0.2.2.1-1)) x200.2 m1_0 m1_1 m1_2 m1_3 m1_4 m1_5) fun x202 hx202=>?_;conv=>arg 3;whnf
           exact Zd (ih _)
         ·refine Zg rfl ?_ ?_<;>conv=>arg 3;whnf
          ·refine Zc (Za t0 t1 t2 t3 (w64 (x200.1+1)) s0.2.1 (w64 (s0.2.2.1-1)) x200.2 m1_0 m1_1 m1_2 m1_3 m1_4 m1_5) (hrc t0 t1 t2 t3 (w64 (x200.1+1)) s0.2.1 (w64 (s0.2.2.1-1)) x200.2 m1_0 m1_1 m1_2 m1_3 m1_4 m1_5) fun x203 hx203=>?_;conv=>arg 3;whnf
           exact Zd (ih _)
          ·refine Zc (Za t0 t1 t2 t3 (w64 (x200.1+1)) s0.2.1 (w64 (s0.2.2.1-1)) x200.2 m1_0 m1_1 m1_2 m1_3 m1_4 m1_5) (hrc t0 t1 t2 t3 (w64 (x200.1+1)) s0.2.1 (w64 (s0.2.2.1-1)) x200.2 m1_0 m1_1 m1_2 m1_3 m1_4 m1_5) fun x204 hx204=>?_;conv=>arg 3;whnf
           exact Zd (ih _)
        ·conv=>arg 3;whnf
         refine ZQ rfl ?_;conv=>arg 3;whnf
         refine ZQ rfl ?_;conv=>arg 3;whnf
         refine Zg rfl ?_ ?_<;>conv=>arg 3;whnf
         ·refine Zg rfl ?_ ?_<;>conv=>arg 3;whnf
          ·refine Zc (Za t0 t1 t2 t3 s0.1 x200.1 (w64 (s0.2.2.1-1)) x200.2 m1_0 m1_1 m1_2 m1_3 m1_4 m1_5) (hrc t0 t1 t2 t3 s0.1 x200.1 (w64 (s0.2.2.1-1)) x200.2 m1_0 m1_1 m1_2 m1_3 m1_4 m1_5) fun x205 hx205=>?_;conv=>arg 3;whnf
           exact Zd (ih _)
          ·refine Zc (Za t0 t1 t2 t3 s0.1 x200.1 (w64 (s0.2.2.1-1)) x200.2 m1_0 m1_1 m1_2 m1_3 m1_4 m1_5) (hrc t0 t1 t2 t3 s0.1 x200.1 (w64 (s0.2.2.1-1)) x200.2 m1_0 m1_1 m1_2 m1_3 m1_4 m1_5) fun x206 hx206=>?_;conv=>arg 3;whnf
           exact Zd (ih _)
         ·refine Zg rfl ?_ ?_<;>conv=>arg 3;whnf
          ·refine Zc (Za t0 t1 t2 t3 (w64 (x200.1+1)) s0.2.1 (w64 (s0.2.2.1-1)) x200.2 m1_0 m1_1 m1_2 m1_3 m1_4 m1_5) (hrc t0 t1 t2 t3 (w64 (x200.1+1)) s0.2.1 (w64 (s0.2.2.1-1)) x200.2 m1_0 m1_1 m1_2 m1_3 m1_4 m1_5) fun x207 hx207=>?_;conv=>arg 3;whnf
           exact Zd (ih _)
          ·refine Zc (Za t0 t1 t2 t3 (w64 (x200.1+1)) s0.2.1 (w64 (s0.2.2.1-1)) x200.2 m1_0 m1_1 m1_2 m1_3 m1_4 m1_5) (hrc t0 t1 t2 t3 (w64 (x200.1+1)) s0.2.1 (w64 (s0.2.2.1-1)) x200.2 m1_0 m1_1 m1_2 m1_3 m1_4 m1_5) fun x208 hx208=>?_;conv=>arg 3;whnf
           exact Zd (ih _)
       ·refine Zc _ ZE fun x209 hx209=>?_;conv=>arg 3;whnf
        exact Zd (ih _)
      ·refine Zc _ Zm fun x210 hx210=>?_
       clear hx210
       rcases x210 with x210 | x210
       ·conv=>arg 3;whnf
        refine ZbI rfl ?_;conv=>arg 3;whnf
        refine ZQ rfl ?_;conv=>arg 3;whnf
        refine Zg rfl ?_ ?_<;>conv=>arg 3;whnf
        ·refine Zg rfl ?_ ?_<;>conv=>arg 3;whnf
         ·refine Zc (Za t0 t1 t2 t3 s0.1 x210.1 (w64 (s0.2.2.1-1)) x210.2 m1_0 m1_1 m1_2 m1_3 m1_4 m1_5) (hrc t0 t1 t2 t3 s0.1 x210.1 (w64 (s0.2.2.1-1)) x210.2 m1_0 m1_1 m1_2 m1_3 m1_4 m1_5) fun x211 hx211=>?_;conv=>arg 3;whnf
          exact Zd (ih _)
         ·refine Zc (Za t0 t1 t2 t3 s0.1 x210.1 (w64 (s0.2.2.1-1)) x210.2 m1_0 m1_1 m1_2 m1_3 m1_4 m1_5) (hrc t0 t1 t2 t3 s0.1 x210.1 (w64 (s0.2.2.1-1)) x210.2 m1_0 m1_1 m1_2 m1_3 m1_4 m1_5) fun x212 hx212=>?_;conv=>arg 3;whnf
          exact Zd (ih _)
        ·refine Zg rfl ?_ ?_<;>conv=>arg 3;whnf
         ·refine Zc (Za t0 t1 t2 t3 (w64 (x210.1+1)) s0.2.1 (w64 (s0.2.2.1-1)) x210.2 m1_0 m1_1 m1_2 m1_3 m1_4 m1_5) (hrc t0 t1 t2 t3 (w64 (x210.1+1)) s0.2.1 (w64 (s0.2.2.1-1)) x210.2 m1_0 m1_1 m1_2 m1_3 m1_4 m1_5) fun x213 hx213=>?_;conv=>arg 3;whnf
          exact Zd (ih _)
         ·refine Zc (Za t0 t1 t2 t3 (w64 (x210.1+1)) s0.2.1 (w64 (s0.2.2.1-1)) x210.2 m1_0 m1_1 m1_2 m1_3 m1_4 m1_5) (hrc t0 t1 t2 t3 (w64 (x210.1+1)) s0.2.1 (w64 (s0.2.2.1-1)) x210.2 m1_0 m1_1 m1_2 m1_3 m1_4 m1_5) fun x214 hx214=>?_;conv=>arg 3;whnf
          exact Zd (ih _)
       ·conv=>arg 3;whnf
        refine ZQ rfl ?_;conv=>arg 3;whnf
        refine ZQ rfl ?_;conv=>arg 3;whnf
        refine Zg rfl ?_ ?_<;>conv=>arg 3;whnf
        ·refine Zg rfl ?_ ?_<;>conv=>arg 3;whnf
         ·refine Zc (Za t0 t1 t2 t3 s0.1 x210.1 (w64 (s0.2.2.1-1)) x210.2 m1_0 m1_1 m1_2 m1_3 m1_4 m1_5) (hrc t0 t1 t2 t3 s0.1 x210.1 (w64 (s0.2.2.1-1)) x210.2 m1_0 m1_1 m1_2 m1_3 m1_4 m1_5) fun x215 hx215=>?_;conv=>arg 3;whnf
          exact Zd (ih _)
         ·refine Zc (Za t0 t1 t2 t3 s0.1 x210.1 (w64 (s0.2.2.1-1)) x210.2 m1_0 m1_1 m1_2 m1_3 m1_4 m1_5) (hrc t0 t1 t2 t3 s0.1 x210.1 (w64 (s0.2.2.1-1)) x210.2 m1_0 m1_1 m1_2 m1_3 m1_4 m1_5) fun x216 hx216=>?_;conv=>arg 3;whnf
          exact Zd (ih _)
        ·refine Zg rfl ?_ ?_<;>conv=>arg 3;whnf
         ·refine Zc (Za t0 t1 t2 t3 (w64 (x210.1+1)) s0.2.1 (w64 (s0.2.2.1-1)) x210.2 m1_0 m1_1 m1_2 m1_3 m1_4 m1_5) (hrc t0 t1 t2 t3 (w64 (x210.1+1)) s0.2.1 (w64 (s0.2.2.1-1)) x210.2 m1_0 m1_1 m1_2 m1_3 m1_4 m1_5) fun x217 hx217=>?_;conv=>arg 3;whnf
          exact Zd (ih _)
         ·refine Zc (Za t0 t1 t2 t3 (w64 (x210.1+1)) s0.2.1 (w64 (s0.2.2.1-1)) x210.2 m1_0 m1_1 m1_2 m1_3 m1_4 m1_5) (hrc t0 t1 t2 t3 (w64 (x210.1+1)) s0.2.1 (w64 (s0.2.2.1-1)) x210.2 m1_0 m1_1 m1_2 m1_3 m1_4 m1_5) fun x218 hx218=>?_;conv=>arg 3;whnf
          exact Zd (ih _)
  ·refine ZnJ ?_;conv=>arg 3;whnf
   refine Zg rfl ?_ ?_<;>conv=>arg 3;whnf
   ·refine Zc _ ZaO fun x121 hx121=>?_;conv=>arg 3;whnf
    exact Zh rfl
   ·refine Zg rfl ?_ ?_<;>conv=>arg 3;whnf
    ·refine Zc _ Zba fun x122 hx122=>?_;conv=>arg 3;whnf
     exact Zh rfl
    ·refine Zc _ Zct fun x123 hx123=>?_;conv=>arg 3;whnf
     refine Zc _ ZaV fun x124 hx124=>?_;conv=>arg 3;whnf
     refine Zg rfl ?_ ?_<;>conv=>arg 3;whnf
     ·refine Zc _ ZaU fun x125 hx125=>?_;conv=>arg 3;whnf
      refine Zg rfl ?_ ?_<;>conv=>arg 3;whnf
      ·refine Zj rfl rfl fun x126 hx126=>?_;conv=>arg 3;whnf
       refine Zf (Zl rfl hx126) ?_;conv=>arg 3;whnf
       refine Zj rfl rfl fun x127 hx127=>?_;conv=>arg 3;whnf
       refine Zf (Zl rfl hx127) ?_;conv=>arg 3;whnf
       refine Zs _ ZN rfl fun x128 hx128=>?_;conv=>arg 3;whnf
       refine Zg rfl ?_ ?_<;>conv=>arg 3;whnf
       ·refine Zc _ Zm fun x129 hx129=>?_
        clear hx129
        rcases x129 with x129 | x129
        ·conv=>arg 3;whnf
         refine ZbI rfl ?_;conv=>arg 3;whnf
         refine ZQ rfl ?_;conv=>arg 3;whnf
         refine Zg rfl ?_ ?_<;>conv=>arg 3;whnf
         ·refine Zg rfl ?_ ?_<;>conv=>arg 3;whnf
          ·refine Zc (Za t0 t1 t2 t3 s0.1 x129.1 (w64 (s0.2.2.1-1)) x129.2 m1_0 m1_1 m1_2 m1_3 m1_4 m1_5) (hrc t0 t1 t2 t3 s0.1 x129.1 (w64 (s0.2.2.1-1)) x129.2 m1_0 m1_1 m1_2 m1_3 m1_4 m1_5) fun x130 hx130=>?_;conv=>arg 3;whnf
           exact Zd (ih _)
          ·refine Zc (Za t0 t1 t2 t3 s0.1 x129.1 (w64 (s0.2.2.1-1)) x129.2 m1_0 m1_1 m1_2 m1_3 m1_4 m1_5) (hrc t0 t1 t2 t3 s0.1 x129.1 (w64 (s0.2.2.1-1)) x129.2 m1_0 m1_1 m1_2 m1_3 m1_4 m1_5) fun x131 hx131=>?_;conv=>arg 3;whnf
           exact Zd (ih _)
         ·refine Zg rfl ?_ ?_<;>conv=>arg 3;whnf
          ·refine Zc (Za t0 t1 t2 t3 (w64 (x129.1+1)) s0.2.1 (w64 (s0.2.2.1-1)) x129.2 m1_0 m1_1 m1_2 m1_3 m1_4 m1_5) (hrc t0 t1 t2 t3 (w64 (x129.1+1)) s0.2.1 (w64 (s0.2.2.1-1)) x129.2 m1_0 m1_1 m1_2 m1_3 m1_4 m1_5) fun x132 hx132=>?_;conv=>arg 3;whnf
           exact Zd (ih _)
          ·refine Zc (Za t0 t1 t2 t3 (w64 (x129.1+1)) s0.2.1 (w64 (s0.2.2.1-1)) x129.2 m1_0 m1_1 m1_2 m1_3 m1_4 m1_5) (hrc t0 t1 t2 t3 (w64 (x129.1+1)) s0.2.1 (w64 (s0.2.2.1-1)) x129.2 m1_0 m1_1 m1_2 m1_3 m1_4 m1_5) fun x133 hx133=>?_;conv=>arg 3;whnf
           exact Zd (ih _)
        ·conv=>arg 3;whnf
         refine ZQ rfl ?_;conv=>arg 3;whnf
         refine ZQ rfl ?_;conv=>arg 3;whnf
         refine Zg rfl ?_ ?_<;>conv=>arg 3;whnf
         ·refine Zg rfl ?_ ?_<;>conv=>arg 3;whnf
          ·refine Zc (Za t0 t1 t2 t3 s0.1 x129.1 (w64 (s0.2.2.1-1)) x129.2 m1_0 m1_1 m1_2 m1_3 m1_4 m1_5) (hrc t0 t1 t2 t3 s0.1 x129.1 (w64 (s0.2.2.1-1)) x129.2 m1_0 m1_1 m1_2 m1_3 m1_4 m1_5) fun x134 hx134=>?_;conv=>arg 3;whnf
           exact Zd (ih _)
          ·refine Zc (Za t0 t1 t2 t3 s0.1 x129.1 (w64 (s0.2.2.1-1)) x129.2 m1_0 m1_1 m1_2 m1_3 m1_4 m1_5) (hrc t0 t1 t2 t3 s0.1 x129.1 (w64 (s0.2.2.1-1)) x129.2 m1_0 m1_1 m1_2 m1_3 m1_4 m1_5) fun x135 hx135=>?_;conv=>arg 3;whnf
           exact Zd (ih _)
         ·refine Zg rfl ?_ ?_<;>conv=>arg 3;whnf
          ·refine Zc (Za t0 t1 t2 t3 (w64 (x129.1+1)) s0.2.1 (w64 (s0.2.2.1-1)) x129.2 m1_0 m1_1 m1_2 m1_3 m1_4 m1_5) (hrc t0 t1 t2 t3 (w64 (x129.1+1)) s0.2.1 (w64 (s0.2.2.1-1)) x129.2 m1_0 m1_1 m1_2 m1_3 m1_4 m1_5) fun x136 hx136=>?_;conv=>arg 3;whnf
           exact Zd (ih _)
          ·refine Zc (Za t0 t1 t2 t3 (w64 (x129.1+1)) s0.2.1 (w64 (s0.2.2.1-1)) x129.2 m1_0 m1_1 m1_2 m1_3 m1_4 m1_5) (hrc t0 t1 t2 t3 (w64 (x129.1+1)) s0.2.1 (w64 (s0.2.2.1-1)) x129.2 m1_0 m1_1 m1_2 m1_3 m1_4 m1_5) fun x137 hx137=>?_;conv=>arg 3;whnf
           exact Zd (ih _)
       ·refine Zc _ ZE fun x138 hx138=>?_;conv=>arg 3;whnf
        exact Zd (ih _)
      ·refine Zc _ Zm fun x139 hx139=>?_
       clear hx139
       rcases x139 with x139 | x139
       ·conv=>arg 3;whnf
        refine ZbI rfl ?_;conv=>arg 3;whnf
        refine ZQ rfl ?_;conv=>arg 3;whnf
        refine Zg rfl ?_ ?_<;>conv=>arg 3;whnf
        ·refine Zg rfl ?_ ?_<;>conv=>arg 3;whnf
         ·refine Zc (Za t0 t1 t2 t3 s0.1 x139.1 (w64 (s0.2.2.1-1)) x139.2 m1_0 m1_1 m1_2 m1_3 m1_4 m1_5) (hrc t0 t1 t2 t3 s0.1 x139.1 (w64 (s0.2.2.1-1)) x139.2 m1_0 m1_1 m1_2 m1_3 m1_4 m1_5) fun x140 hx140=>?_;conv=>arg 3;whnf
          exact Zd (ih _)
         ·refine Zc (Za t0 t1 t2 t3 s0.1 x139.1 (w64 (s0.2.2.1-1)) x139.2 m1_0 m1_1 m1_2 m1_3 m1_4 m1_5) (hrc t0 t1 t2 t3 s0.1 x139.1 (w64 (s0.2.2.1-1)) x139.2 m1_0 m1_1 m1_2 m1_3 m1_4 m1_5) fun x141 hx141=>?_;conv=>arg 3;whnf
          exact Zd (ih _)
        ·refine Zg rfl ?_ ?_<;>conv=>arg 3;whnf
         ·refine Zc (Za t0 t1 t2 t3 (w64 (x139.1+1)) s0.2.1 (w64 (s0.2.2.1-1)) x139.2 m1_0 m1_1 m1_2 m1_3 m1_4 m1_5) (hrc t0 t1 t2 t3 (w64 (x139.1+1)) s0.2.1 (w64 (s0.2.2.1-1)) x139.2 m1_0 m1_1 m1_2 m1_3 m1_4 m1_5) fun x142 hx142=>?_;conv=>arg 3;whnf
          exact Zd (ih _)
         ·refine Zc (Za t0 t1 t2 t3 (w64 (x139.1+1)) s0.2.1 (w64 (s0.2.2.1-1)) x139.2 m1_0 m1_1 m1_2 m1_3 m1_4 m1_5) (hrc t0 t1 t2 t3 (w64 (x139.1+1)) s0.2.1 (w64 (s0.2.2.1-1)) x139.2 m1_0 m1_1 m1_2 m1_3 m1_4 m1_5) fun x143 hx143=>?_;conv=>arg 3;whnf
          exact Zd (ih _)
       ·conv=>arg 3;whnf
        refine ZQ rfl ?_;conv=>arg 3;whnf
        refine ZQ rfl ?_;conv=>arg 3;whnf
        refine Zg rfl ?_ ?_<;>conv=>arg 3;whnf
        ·refine Zg rfl ?_ ?_<;>conv=>arg 3;whnf
         ·refine Zc (Za t0 t1 t2 t3 s0.1 x139.1 (w64 (s0.2.2.1-1)) x139.2 m1_0 m1_1 m1_2 m1_3 m1_4 m1_5) (hrc t0 t1 t2 t3 s0.1 x139.1 (w64 (s0.2.2.1-1)) x139.2 m1_0 m1_1 m1_2 m1_3 m1_4 m1_5) fun x144 hx144=>?_;conv=>arg 3;whnf
          exact Zd (ih _)
         ·refine Zc (Za t0 t1 t2 t3 s0.1 x139.1 (w64 (s0.2.2.1-1)) x139.2 m1_0 m1_1 m1_2 m1_3 m1_4 m1_5) (hrc t0 t1 t2 t3 s0.1 x139.1 (w64 (s0.2.2.1-1)) x139.2 m1_0 m1_1 m1_2 m1_3 m1_4 m1_5) fun x145 hx145=>?_;conv=>arg 3;whnf
          exact Zd (ih _)
        ·refine Zg rfl ?_ ?_<;>conv=>arg 3;whnf
         ·refine Zc (Za t0 t1 t2 t3 (w64 (x139.1+1)) s0.2.1 (w64 (s0.2.2.1-1)) x139.2 m1_0 m1_1 m1_2 m1_3 m1_4 m1_5) (hrc t0 t1 t2 t3 (w64 (x139.1+1)) s0.2.1 (w64 (s0.2.2.1-1)) x139.2 m1_0 m1_1 m1_2 m1_3 m1_4 m1_5) fun x146 hx146=>?_;conv=>arg 3;whnf
          exact Zd (ih _)
         ·refine Zc (Za t0 t1 t2 t3 (w64 (x139.1+1)) s0.2.1 (w64 (s0.2.2.1-1)) x139.2 m1_0 m1_1 m1_2 m1_3 m1_4 m1_5) (hrc t0 t1 t2 t3 (w64 (x139.1+1)) s0.2.1 (w64 (s0.2.2.1-1)) x139.2 m1_0 m1_1 m1_2 m1_3 m1_4 m1_5) fun x147 hx147=>?_;conv=>arg 3;whnf
          exact Zd (ih _)
     ·refine Zg rfl ?_ ?_<;>conv=>arg 3;whnf
      ·refine Zj rfl rfl fun x148 hx148=>?_;conv=>arg 3;whnf
       refine Zf (Zl rfl hx148) ?_;conv=>arg 3;whnf
       refine Zj rfl rfl fun x149 hx149=>?_;conv=>arg 3;whnf
       refine Zf (Zl rfl hx149) ?_;conv=>arg 3;whnf
       refine Zs _ ZN rfl fun x150 hx150=>?_;conv=>arg 3;whnf
       refine Zg rfl ?_ ?_<;>conv=>arg 3;whnf
       ·refine Zc _ Zm fun x151 hx151=>?_
        clear hx151
        rcases x151 with x151 | x151
        ·conv=>arg 3;whnf
         refine ZbI rfl ?_;conv=>arg 3;whnf
         refine ZQ rfl ?_;conv=>arg 3;whnf
         refine Zg rfl ?_ ?_<;>conv=>arg 3;whnf
         ·refine Zg rfl ?_ ?_<;>conv=>arg 3;whnf
          ·refine Zc (Za t0 t1 t2 t3 s0.1 x151.1 (w64 (s0.2.2.1-1)) x151.2 m1_0 m1_1 m1_2 m1_3 m1_4 m1_5) (hrc t0 t1 t2 t3 s0.1 x151.1 (w64 (s0.2.2.1-1)) x151.2 m1_0 m1_1 m1_2 m1_3 m1_4 m1_5) fun x152 hx152=>?_;conv=>arg 3;whnf
           exact Zd (ih _)
          ·refine Zc (Za t0 t1 t2 t3 s0.1 x151.1 (w64 (s0.2.2.1-1)) x151.2 m1_0 m1_1 m1_2 m1_3 m1_4 m1_5) (hrc t0 t1 t2 t3 s0.1 x151.1 (w64 (s0.2.2.1-1)) x151.2 m1_0 m1_1 m1_2 m1_3 m1_4 m1_5) fun x153 hx153=>?_;conv=>arg 3;whnf
           exact Zd (ih _)
         ·refine Zg rfl ?_ ?_<;>conv=>arg 3;whnf
          ·refine Zc (Za t0 t1 t2 t3 (w64 (x151.1+1)) s0.2.1 (w64 (s0.2.2.1-1)) x151.2 m1_0 m1_1 m1_2 m1_3 m1_4 m1_5) (hrc t0 t1 t2 t3 (w64 (x151.1+1)) s0.2.1 (w64 (s0.2.2.1-1)) x151.2 m1_0 m1_1 m1_2 m1_3 m1_4 m1_5) fun x154 hx154=>?_;conv=>arg 3;whnf
           exact Zd (ih _)
          ·refine Zc (Za t0 t1 t2 t3 (w64 (x151.1+1)) s0.2.1 (w64 (s0.2.2.1-1)) x151.2 m1_0 m1_1 m1_2 m1_3 m1_4 m1_5) (hrc t0 t1 t2 t3 (w64 (x151.1+1)) s0.2.1 (w64 (s0.2.2.1-1)) x151.2 m1_0 m1_1 m1_2 m1_3 m1_4 m1_5) fun x155 hx155=>?_;conv=>arg 3;whnf
           exact Zd (ih _)
        ·conv=>arg 3;whnf
         refine ZQ rfl ?_;conv=>arg 3;whnf
         refine ZQ rfl ?_;conv=>arg 3;whnf
         refine Zg rfl ?_ ?_<;>conv=>arg 3;whnf
         ·refine Zg rfl ?_ ?_<;>conv=>arg 3;whnf
          ·refine Zc (Za t0 t1 t2 t3 s0.1 x151.1 (w64 (s0.2.2.1-1)) x151.2 m1_0 m1_1 m1_2 m1_3 m1_4 m1_5) (hrc t0 t1 t2 t3 s0.1 x151.1 (w64 (s0.2.2.1-1)) x151.2 m1_0 m1_1 m1_2 m1_3 m1_4 m1_5) fun x156 hx156=>?_;conv=>arg 3;whnf
           exact Zd (ih _)
          ·refine Zc (Za t0 t1 t2 t3 s0.1 x151.1 (w64 (s0.2.2.1-1)) x151.2 m1_0 m1_1 m1_2 m1_3 m1_4 m1_5) (hrc t0 t1 t2 t3 s0.1 x151.1 (w64 (s0.2.2.1-1)) x151.2 m1_0 m1_1 m1_2 m1_3 m1_4 m1_5) fun x157 hx157=>?_;conv=>arg 3;whnf
           exact Zd (ih _)
         ·refine Zg rfl ?_ ?_<;>conv=>arg 3;whnf
          ·refine Zc (Za t0 t1 t2 t3 (w64 (x151.1+1)) s0.2.1 (w64 (s0.2.2.1-1)) x151.2 m1_0 m1_1 m1_2 m1_3 m1_4 m1_5) (hrc t0 t1 t2 t3 (w64 (x151.1+1)) s0.2.1 (w64 (s0.2.2.1-1)) x151.2 m1_0 m1_1 m1_2 m1_3 m1_4 m1_5) fun x158 hx158=>?_;conv=>arg 3;whnf
           exact Zd (ih _)
          ·refine Zc (Za t0 t1 t2 t3 (w64 (x151.1+1)) s0.2.1 (w64 (s0.2.2.1-1)) x151.2 m1_0 m1_1 m1_2 m1_3 m1_4 m1_5) (hrc t0 t1 t2 t3 (w64 (x151.1+1)) s0.2.1 (w64 (s0.2.2.1-1)) x151.2 m1_0 m1_1 m1_2 m1_3 m1_4 m1_5) fun x159 hx159=>?_;conv=>arg 3;whnf
           exact Zd (ih _)
       ·refine Zc _ ZE fun x160 hx160=>?_;conv=>arg 3;whnf
        exact Zd (ih _)
      ·refine Zc _ Zm fun x161 hx161=>?_
       clear hx161
       rcases x161 with x161 | x161
       ·conv=>arg 3;whnf
        refine ZbI rfl ?_;conv=>arg 3;whnf
        refine ZQ rfl ?_;conv=>arg 3;whnf
        refine Zg rfl ?_ ?_<;>conv=>arg 3;whnf
        ·refine Zg rfl ?_ ?_<;>conv=>arg 3;whnf
         ·refine Zc (Za t0 t1 t2 t3 s0.1 x161.1 (w64 (s0.2.2.1-1)) x161.2 m1_0 m1_1 m1_2 m1_3 m1_4 m1_5) (hrc t0 t1 t2 t3 s0.1 x161.1 (w64 (s0.2.2.1-1)) x161.2 m1_0 m1_1 m1_2 m1_3 m1_4 m1_5) fun x162 hx162=>?_;conv=>arg 3;whnf
          exact Zd (ih _)
         ·refine Zc (Za t0 t1 t2 t3 s0.1 x161.1 (w64 (s0.2.2.1-1)) x161.2 m1_0 m1_1 m1_2 m1_3 m1_4 m1_5) (hrc t0 t1 t2 t3 s0.1 x161.1 (w64 (s0.2.2.1-1)) x161.2 m1_0 m1_1 m1_2 m1_3 m1_4 m1_5) fun x163 hx163=>?_;conv=>arg 3;whnf
          exact Zd (ih _)
        ·refine Zg rfl ?_ ?_<;>conv=>arg 3;whnf
         ·refine Zc (Za t0 t1 t2 t3 (w64 (x161.1+1)) s0.2.1 (w64 (s0.2.2.1-1)) x161.2 m1_0 m1_1 m1_2 m1_3 m1_4 m1_5) (hrc t0 t1 t2 t3 (w64 (x161.1+1)) s0.2.1 (w64 (s0.2.2.1-1)) x161.2 m1_0 m1_1 m1_2 m1_3 m1_4 m1_5) fun x164 hx164=>?_;conv=>arg 3;whnf
          exact Zd (ih _)
         ·refine Zc (Za t0 t1 t2 t3 (w64 (x161.1+1)) s0.2.1 (w64 (s0.2.2.1-1)) x161.2 m1_0 m1_1 m1_2 m1_3 m1_4 m1_5) (hrc t0 t1 t2 t3 (w64 (x161.1+1)) s0.2.1 (w64 (s0.2.2.1-1)) x161.2 m1_0 m1_1 m1_2 m1_3 m1_4 m1_5) fun x165 hx165=>?_;conv=>arg 3;whnf
          exact Zd (ih _)
       ·conv=>arg 3;whnf
        refine ZQ rfl ?_;conv=>arg 3;whnf
        refine ZQ rfl ?_;conv=>arg 3;whnf
        refine Zg rfl ?_ ?_<;>conv=>arg 3;whnf
        ·refine Zg rfl ?_ ?_<;>conv=>arg 3;whnf
         ·refine Zc (Za t0 t1 t2 t3 s0.1 x161.1 (w64 (s0.2.2.1-1)) x161.2 m1_0 m1_1 m1_2 m1_3 m1_4 m1_5) (hrc t0 t1 t2 t3 s0.1 x161.1 (w64 (s0.2.2.1-1)) x161.2 m1_0 m1_1 m1_2 m1_3 m1_4 m1_5) fun x166 hx166=>?_;conv=>arg 3;whnf
          exact Zd (ih _)
         ·refine Zc (Za t0 t1 t2 t3 s0.1 x161.1 (w64 (s0.2.2.1-1)) x161.2 m1_0 m1_1 m1_2 m1_3 m1_4 m1_5) (hrc t0 t1 t2 t3 s0.1 x161.1 (w64 (s0.2.2.1-1)) x161.2 m1_0 m1_1 m1_2 m1_3 m1_4 m1_5) fun x167 hx167=>?_;conv=>arg 3;whnf
          exact Zd (ih _)
        ·refine Zg rfl ?_ ?_<;>conv=>arg 3;whnf
         ·refine Zc (Za t0 t1 t2 t3 (w64 (x161.1+1)) s0.2.1 (w64 (s0.2.2.1-1)) x161.2 m1_0 m1_1 m1_2 m1_3 m1_4 m1_5) (hrc t0 t1 t2 t3 (w64 (x161.1+1)) s0.2.1 (w64 (s0.2.2.1-1)) x161.2 m1_0 m1_1 m1_2 m1_3 m1_4 m1_5) fun x168 hx168=>?_;conv=>arg 3;whnf
          exact Zd (ih _)
         ·refine Zc (Za t0 t1 t2 t3 (w64 (x161.1+1)) s0.2.1 (w64 (s0.2.2.1-1)) x161.2 m1_0 m1_1 m1_2 m1_3 m1_4 m1_5) (hrc t0 t1 t2 t3 (w64 (x161.1+1)) s0.2.1 (w64 (s0.2.2.1-1)) x161.2 m1_0 m1_1 m1_2 m1_3 m1_4 m1_5) fun x169 hx169=>?_;conv=>arg 3;whnf
          exact Zd (ih _)
 ·refine ZnJ ?_
  rcases hb:s0.2.2.2.2.1 with _ | _
  ·refine ZnZ ?_;conv=>arg 3;whnf
   refine Zg rfl ?_ ?_<;>conv=>arg 3;whnf
   ·refine Zc _ ZaO fun x73 hx73=>?_;conv=>arg 3;whnf
    exact Zh rfl
   ·refine Zg rfl ?_ ?_<;>conv=>arg 3;whnf
    ·refine Zc _ Zba fun x74 hx74=>?_;conv=>arg 3;whnf
     exact Zh rfl
    ·refine Zc _ ZaV fun x75 hx75=>?_;conv=>arg 3;whnf
     refine Zg rfl ?_ ?_<;>conv=>arg 3;whnf
     ·refine Zc _ ZaU fun x76 hx76=>?_;conv=>arg 3;whnf
      refine Zg rfl ?_ ?_<;>conv=>arg 3;whnf
      ·refine Zj rfl rfl fun x77 hx77=>?_;conv=>arg 3;whnf
       refine Zf (Zl rfl hx77) ?_;conv=>arg 3;whnf
       refine Zj rfl rfl fun x78 hx78=>?_;conv=>arg 3;whnf
       refine Zf (Zl rfl hx78) ?_;conv=>arg 3;whnf
       refine Zs _ ZN rfl fun x79 hx79=>?_;conv=>arg 3;whnf
       refine Zg rfl ?_ ?_<;>conv=>arg 3;whnf
       ·refine Zc _ Zm fun x80 hx80=>?_
        clear hx80
        rcases x80 with x80 | x80
        ·conv=>arg 3;whnf
         refine ZbI rfl ?_;conv=>arg 3;whnf
         refine ZQ rfl ?_;conv=>arg 3;whnf
         refine Zg rfl ?_ ?_<;>conv=>arg 3;whnf
         ·refine Zg rfl ?_ ?_<;>conv=>arg 3;whnf
          ·refine Zc (Za t0 t1 t2 t3 s0.1 x80.1 s0.2.2.1 x80.2 m1_0 m1_1 m1_2 m1_3 m1_4 m1_5) (hrc t0 t1 t2 t3 s0.1 x80.1 s0.2.2.1 x80.2 m1_0 m1_1 m1_2 m1_3 m1_4 m1_5) fun x81 hx81=>?_;conv=>arg 3;whnf
           exact Zd (ih _)
          ·refine Zc (Za t0 t1 t2 t3 s0.1 x80.1 s0.2.2.1 x80.2 m1_0 m1_1 m1_2 m1_3 m1_4 m1_5) (hrc t0 t1 t2 t3 s0.1 x80.1 s0.2.2.1 x80.2 m1_0 m1_1 m1_2 m1_3 m1_4 m1_5) fun x82 hx82=>?_;conv=>arg 3;whnf
           exact Zd (ih _)
         ·refine Zg rfl ?_ ?_<;>conv=>arg 3;whnf
          ·refine Zc (Za t0 t1 t2 t3 (w64 (x80.1+1)) s0.2.1 s0.2.2.1 x80.2 m1_0 m1_1 m1_2 m1_3 m1_4 m1_5) (hrc t0 t1 t2 t3 (w64 (x80.1+1)) s0.2.1 s0.2.2.1 x80.2 m1_0 m1_1 m1_2 m1_3 m1_4 m1_5) fun x83 hx83=>?_;conv=>arg 3;whnf
           exact Zd (ih _)
          ·refine Zc (Za t0 t1 t2 t3 (w64 (x80.1+1)) s0.2.1 s0.2.2.1 x80.2 m1_0 m1_1 m1_2 m1_3 m1_4 m1_5) (hrc t0 t1 t2 t3 (w64 (x80.1+1)) s0.2.1 s0.2.2.1 x80.2 m1_0 m1_1 m1_2 m1_3 m1_4 m1_5) fun x84 hx84=>?_;conv=>arg 3;whnf
           exact Zd (ih _)
        ·conv=>arg 3;whnf
         refine ZQ rfl ?_;conv=>arg 3;whnf
         refine ZQ rfl ?_;conv=>arg 3;whnf
         refine Zg rfl ?_ ?_<;>conv=>arg 3;whnf
         ·refine Zg rfl ?_ ?_<;>conv=>arg 3;whnf
          ·refine Zc (Za t0 t1 t2 t3 s0.1 x80.1 s0.2.2.1 x80.2 m1_0 m1_1 m1_2 m1_3 m1_4 m1_5) (hrc t0 t1 t2 t3 s0.1 x80.1 s0.2.2.1 x80.2 m1_0 m1_1 m1_2 m1_3 m1_4 m1_5) fun x85 hx85=>?_;conv=>arg 3;whnf
           exact Zd (ih _)
          ·refine Zc (Za t0 t1 t2 t3 s0.1 x80.1 s0.2.2.1 x80.2 m1_0 m1_1 m1_2 m1_3 m1_4 m1_5) (hrc t0 t1 t2 t3 s0.1 x80.1 s0.2.2.1 x80.2 m1_0 m1_1 m1_2 m1_3 m1_4 m1_5) fun x86 hx86=>?_;conv=>arg 3;whnf
           exact Zd (ih _)
         ·refine Zg rfl ?_ ?_<;>conv=>arg 3;whnf
          ·refine Zc (Za t0 t1 t2 t3 (w64 (x80.1+1)) s0.2.1 s0.2.2.1 x80.2 m1_0 m1_1 m1_2 m1_3 m1_4 m1_5) (hrc t0 t1 t2 t3 (w64 (x80.1+1)) s0.2.1 s0.2.2.1 x80.2 m1_0 m1_1 m1_2 m1_3 m1_4 m1_5) fun x87 hx87=>?_;conv=>arg 3;whnf
           exact Zd (ih _)
          ·refine Zc (Za t0 t1 t2 t3 (w64 (x80.1+1)) s0.2.1 s0.2.2.1 x80.2 m1_0 m1_1 m1_2 m1_3 m1_4 m1_5) (hrc t0 t1 t2 t3 (w64 (x80.1+1)) s0.2.1 s0.2.2.1 x80.2 m1_0 m1_1 m1_2 m1_3 m1_4 m1_5) fun x88 hx88=>?_;conv=>arg 3;whnf
           exact Zd (ih _)
       ·refine Zc _ ZE fun x89 hx89=>?_;conv=>arg 3;whnf
        exact Zd (ih _)
      ·refine Zc _ Zm fun x90 hx90=>?_
       clear hx90
       rcases x90 with x90 | x90
       ·conv=>arg 3;whnf
        refine ZbI rfl ?_;conv=>arg 3;whnf
        refine ZQ rfl ?_;conv=>arg 3;whnf
        refine Zg rfl ?_ ?_<;>conv=>arg 3;whnf
        ·refine Zg rfl ?_ ?_<;>conv=>arg 3;whnf
         ·refine Zc (Za t0 t1 t2 t3 s0.1 x90.1 s0.2.2.1 x90.2 m1_0 m1_1 m1_2 m1_3 m1_4 m1_5) (hrc t0 t1 t2 t3 s0.1 x90.1 s0.2.2.1 x90.2 m1_0 m1_1 m1_2 m1_3 m1_4 m1_5) fun x91 hx91=>?_;conv=>arg 3;whnf
          exact Zd (ih _)
         ·refine Zc (Za t0 t1 t2 t3 s0.1 x90.1 s0.2.2.1 x90.2 m1_0 m1_1 m1_2 m1_3 m1_4 m1_5) (hrc t0 t1 t2 t3 s0.1 x90.1 s0.2.2.1 x90.2 m1_0 m1_1 m1_2 m1_3 m1_4 m1_5) fun x92 hx92=>?_;conv=>arg 3;whnf
          exact Zd (ih _)
        ·refine Zg rfl ?_ ?_<;>conv=>arg 3;whnf
         ·refine Zc (Za t0 t1 t2 t3 (w64 (x90.1+1)) s0.2.1 s0.2.2.1 x90.2 m1_0 m1_1 m1_2 m1_3 m1_4 m1_5) (hrc t0 t1 t2 t3 (w64 (x90.1+1)) s0.2.1 s0.2.2.1 x90.2 m1_0 m1_1 m1_2 m1_3 m1_4 m1_5) fun x93 hx93=>?_;conv=>arg 3;whnf
          exact Zd (ih _)
         ·refine Zc (Za t0 t1 t2 t3 (w64 (x90.1+1)) s0.2.1 s0.2.2.1 x90.2 m1_0 m1_1 m1_2 m1_3 m1_4 m1_5) (hrc t0 t1 t2 t3 (w64 (x90.1+1)) s0.2.1 s0.2.2.1 x90.2 m1_0 m1_1 m1_2 m1_3 m1_4 m1_5) fun x94 hx94=>?_;conv=>arg 3;whnf
          exact Zd (ih _)
       ·conv=>arg 3;whnf
        refine ZQ rfl ?_;conv=>arg 3;whnf
        refine ZQ rfl ?_;conv=>arg 3;whnf
        refine Zg rfl ?_ ?_<;>conv=>arg 3;whnf
        ·refine Zg rfl ?_ ?_<;>conv=>arg 3;whnf
         ·refine Zc (Za t0 t1 t2 t3 s0.1 x90.1 s0.2.2.1 x90.2 m1_0 m1_1 m1_2 m1_3 m1_4 m1_5) (hrc t0 t1 t2 t3 s0.1 x90.1 s0.2.2.1 x90.2 m1_0 m1_1 m1_2 m1_3 m1_4 m1_5) fun x95 hx95=>?_;conv=>arg 3;whnf
          exact Zd (ih _)
         ·refine Zc (Za t0 t1 t2 t3 s0.1 x90.1 s0.2.2.1 x90.2 m1_0 m1_1 m1_2 m1_3 m1_4 m1_5) (hrc t0 t1 t2 t3 s0.1 x90.1 s0.2.2.1 x90.2 m1_0 m1_1 m1_2 m1_3 m1_4 m1_5) fun x96 hx96=>?_;conv=>arg 3;whnf
          exact Zd (ih _)
        ·refine Zg rfl ?_ ?_<;>conv=>arg 3;whnf
         ·refine Zc (Za t0 t1 t2 t3 (w64 (x90.1+1)) s0.2.1 s0.2.2.1 x90.2 m1_0 m1_1 m1_2 m1_3 m1_4 m1_5) (hrc t0 t1 t2 t3 (w64 (x90.1+1)) s0.2.1 s0.2.2.1 x90.2 m1_0 m1_1 m1_2 m1_3 m1_4 m1_5) fun x97 hx97=>?_;conv=>arg 3;whnf
          exact Zd (ih _)
         ·refine Zc (Za t0 t1 t2 t3 (w64 (x90.1+1)) s0.2.1 s0.2.2.1 x90.2 m1_0 m1_1 m1_2 m1_3 m1_4 m1_5) (hrc t0 t1 t2 t3 (w64 (x90.1+1)) s0.2.1 s0.2.2.1 x90.2 m1_0 m1_1 m1_2 m1_3 m1_4 m1_5) fun x98 hx98=>?_;conv=>arg 3;whnf
          exact Zd (ih _)
     ·refine Zg rfl ?_ ?_<;>conv=>arg 3;whnf
      ·refine Zj rfl rfl fun x99 hx99=>?_;conv=>arg 3;whnf
       refine Zf (Zl rfl hx99) ?_;conv=>arg 3;whnf
       refine Zj rfl rfl fun x100 hx100=>?_;conv=>arg 3;whnf
       refine Zf (Zl rfl hx100) ?_;conv=>arg 3;whnf
       refine Zs _ ZN rfl fun x101 hx101=>?_;conv=>arg 3;whnf
       refine Zg rfl ?_ ?_<;>conv=>arg 3;whnf
       ·refine Zc _ Zm fun x102 hx102=>?_
        clear hx102
        rcases x102 with x102 | x102
        ·conv=>arg 3;whnf
         refine ZbI rfl ?_;conv=>arg 3;whnf
         refine ZQ rfl ?_;conv=>arg 3;whnf
         refine Zg rfl ?_ ?_<;>conv=>arg 3;whnf
         ·refine Zg rfl ?_ ?_<;>conv=>arg 3;whnf
          ·refine Zc (Za t0 t1 t2 t3 s0.1 x102.1 s0.2.2.1 x102.2 m1_0 m1_1 m1_2 m1_3 m1_4 m1_5) (hrc t0 t1 t2 t3 s0.1 x102.1 s0.2.2.1 x102.2 m1_0 m1_1 m1_2 m1_3 m1_4 m1_5) fun x103 hx103=>?_;conv=>arg 3;whnf
           exact Zd (ih _)
          ·refine Zc (Za t0 t1 t2 t3 s0.1 x102.1 s0.2.2.1 x102.2 m1_0 m1_1 m1_2 m1_3 m1_4 m1_5) (hrc t0 t1 t2 t3 s0.1 x102.1 s0.2.2.1 x102.2 m1_0 m1_1 m1_2 m1_3 m1_4 m1_5) fun x104 hx104=>?_;conv=>arg 3;whnf
           exact Zd (ih _)
         ·refine Zg rfl ?_ ?_<;>conv=>arg 3;whnf
          ·refine Zc (Za t0 t1 t2 t3 (w64 (x102.1+1)) s0.2.1 s0.2.2.1 x102.2 m1_0 m1_1 m1_2 m1_3 m1_4 m1_5) (hrc t0 t1 t2 t3 (w64 (x102.1+1)) s0.2.1 s0.2.2.1 x102.2 m1_0 m1_1 m1_2 m1_3 m1_4 m1_5) fun x105 hx105=>?_;conv=>arg 3;whnf
           exact Zd (ih _)
          ·refine Zc (Za t0 t1 t2 t3 (w64 (x102.1+1)) s0.2.1 s0.2.2.1 x102.2 m1_0 m1_1 m1_2 m1_3 m1_4 m1_5) (hrc t0 t1 t2 t3 (w64 (x102.1+1)) s0.2.1 s0.2.2.1 x102.2 m1_0 m1_1 m1_2 m1_3 m1_4 m1_5) fun x106 hx106=>?_;conv=>arg 3;whnf
           exact Zd (ih _)
        ·conv=>arg 3;whnf
         refine ZQ rfl ?_;conv=>arg 3;whnf
         refine ZQ rfl ?_;conv=>arg 3;whnf
         refine Zg rfl ?_ ?_<;>conv=>arg 3;whnf
         ·refine Zg rfl ?_ ?_<;>conv=>arg 3;whnf
          ·refine Zc (Za t0 t1 t2 t3 s0.1 x102.1 s0.2.2.1 x102.2 m1_0 m1_1 m1_2 m1_3 m1_4 m1_5) (hrc t0 t1 t2 t3 s0.1 x102.1 s0.2.2.1 x102.2 m1_0 m1_1 m1_2 m1_3 m1_4 m1_5) fun x107 hx107=>?_;conv=>arg 3;whnf
           exact Zd (ih _)
          ·refine Zc (Za t0 t1 t2 t3 s0.1 x102.1 s0.2.2.1 x102.2 m1_0 m1_1 m1_2 m1_3 m1_4 m1_5) (hrc t0 t1 t2 t3 s0.1 x102.1 s0.2.2.1 x102.2 m1_0 m1_1 m1_2 m1_3 m1_4 m1_5) fun x108 hx108=>?_;conv=>arg 3;whnf
           exact Zd (ih _)
         ·refine Zg rfl ?_ ?_<;>conv=>arg 3;whnf
          ·refine Zc (Za t0 t1 t2 t3 (w64 (x102.1+1)) s0.2.1 s0.2.2.1 x102.2 m1_0 m1_1 m1_2 m1_3 m1_4 m1_5) (hrc t0 t1 t2 t3 (w64 (x102.1+1)) s0.2.1 s0.2.2.1 x102.2 m1_0 m1_1 m1_2 m1_3 m1_4 m1_5) fun x109 hx109=>?_;conv=>arg 3;whnf
           exact Zd (ih _)
          ·refine Zc (Za t0 t1 t2 t3 (w64 (x102.1+1)) s0.2.1 s0.2.2.1 x102.2 m1_0 m1_1 m1_2 m1_3 m1_4 m1_5) (hrc t0 t1 t2 t3 (w64 (x102.1+1)) s0.2.1 s0.2.2.1 x102.2 m1_0 m1_1 m1_2 m1_3 m1_4 m1_5) fun x110 hx110=>?_;conv=>arg 3;whnf
           exact Zd (ih _)
       ·refine Zc _ ZE fun x111 hx111=>?_;conv=>arg 3;whnf
        exact Zd (ih _)
      ·refine Zc _ Zm fun x112 hx112=>?_
       clear hx112
       rcases x112 with x112 | x112
       ·conv=>arg 3;whnf
        refine ZbI rfl ?_;conv=>arg 3;whnf
        refine ZQ rfl ?_;conv=>arg 3;whnf
        refine Zg rfl ?_ ?_<;>conv=>arg 3;whnf
        ·refine Zg rfl ?_ ?_<;>conv=>arg 3;whnf
         ·refine Zc (Za t0 t1 t2 t3 s0.1 x112.1 s0.2.2.1 x112.2 m1_0 m1_1 m1_2 m1_3 m1_4 m1_5) (hrc t0 t1 t2 t3 s0.1 x112.1 s0.2.2.1 x112.2 m1_0 m1_1 m1_2 m1_3 m1_4 m1_5) fun x113 hx113=>?_;conv=>arg 3;whnf
          exact Zd (ih _)
         ·refine Zc (Za t0 t1 t2 t3 s0.1 x112.1 s0.2.2.1 x112.2 m1_0 m1_1 m1_2 m1_3 m1_4 m1_5) (hrc t0 t1 t2 t3 s0.1 x112.1 s0.2.2.1 x112.2 m1_0 m1_1 m1_2 m1_3 m1_4 m1_5) fun x114 hx114=>?_;conv=>arg 3;whnf
          exact Zd (ih _)
        ·refine Zg rfl ?_ ?_<;>conv=>arg 3;whnf
         ·refine Zc (Za t0 t1 t2 t3 (w64 (x112.1+1)) s0.2.1 s0.2.2.1 x112.2 m1_0 m1_1 m1_2 m1_3 m1_4 m1_5) (hrc t0 t1 t2 t3 (w64 (x112.1+1)) s0.2.1 s0.2.2.1 x112.2 m1_0 m1_1 m1_2 m1_3 m1_4 m1_5) fun x115 hx115=>?_;conv=>arg 3;whnf
          exact Zd (ih _)
         ·refine Zc (Za t0 t1 t2 t3 (w64 (x112.1+1)) s0.2.1 s0.2.2.1 x112.2 m1_0 m1_1 m1_2 m1_3 m1_4 m1_5) (hrc t0 t1 t2 t3 (w64 (x112.1+1)) s0.2.1 s0.2.2.1 x112.2 m1_0 m1_1 m1_2 m1_3 m1_4 m1_5) fun x116 hx116=>?_;conv=>arg 3;whnf
          exact Zd (ih _)
       ·conv=>arg 3;whnf
        refine ZQ rfl ?_;conv=>arg 3;whnf
        refine ZQ rfl ?_;conv=>arg 3;whnf
        refine Zg rfl ?_ ?_<;>conv=>arg 3;whnf
        ·refine Zg rfl ?_ ?_<;>conv=>arg 3;whnf
         ·refine Zc (Za t0 t1 t2 t3 s0.1 x112.1 s0.2.2.1 x112.2 m1_0 m1_1 m1_2 m1_3 m1_4 m1_5) (hrc t0 t1 t2 t3 s0.1 x112.1 s0.2.2.1 x112.2 m1_0 m1_1 m1_2 m1_3 m1_4 m1_5) fun x117 hx117=>?_;conv=>arg 3;whnf
          exact Zd (ih _)
         ·refine Zc (Za t0 t1 t2 t3 s0.1 x112.1 s0.2.2.1 x112.2 m1_0 m1_1 m1_2 m1_3 m1_4 m1_5) (hrc t0 t1 t2 t3 s0.1 x112.1 s0.2.2.1 x112.2 m1_0 m1_1 m1_2 m1_3 m1_4 m1_5) fun x118 hx118=>?_;conv=>arg 3;whnf
          exact Zd (ih _)
        ·refine Zg rfl ?_ ?_<;>conv=>arg 3;whnf
         ·refine Zc (Za t0 t1 t2 t3 (w64 (x112.1+1)) s0.2.1 s0.2.2.1 x112.2 m1_0 m1_1 m1_2 m1_3 m1_4 m1_5) (hrc t0 t1 t2 t3 (w64 (x112.1+1)) s0.2.1 s0.2.2.1 x112.2 m1_0 m1_1 m1_2 m1_3 m1_4 m1_5) fun x119 hx119=>?_;conv=>arg 3;whnf
          exact Zd (ih _)
         ·refine Zc (Za t0 t1 t2 t3 (w64 (x112.1+1)) s0.2.1 s0.2.2.1 x112.2 m1_0 m1_1 m1_2 m1_3 m1_4 m1_5) (hrc t0 t1 t2 t3 (w64 (x112.1+1)) s0.2.1 s0.2.2.1 x112.2 m1_0 m1_1 m1_2 m1_3 m1_4 m1_5) fun x120 hx120=>?_;conv=>arg 3;whnf
          exact Zd (ih _)
  ·refine ZnJ ?_;conv=>arg 3;whnf
   refine Zg rfl ?_ ?_<;>conv=>arg 3;whnf
   ·refine Zc _ ZaO fun x1 hx1=>?_;conv=>arg 3;whnf
    exact Zh rfl
   ·refine Zg rfl ?_ ?_<;>conv=>arg 3;whnf
    ·refine Zc _ Zba fun x2 hx2=>?_;conv=>arg 3;whnf
     exact Zh rfl
    ·refine Zc _ ZaV fun x3 hx3=>?_;conv=>arg 3;whnf
     refine Zg rfl ?_ ?_<;>conv=>arg 3;whnf
     ·refine Zc _ ZaU fun x4 hx4=>?_;conv=>arg 3;whnf
      refine ZbI rfl ?_;conv=>arg 3;whnf
      refine Zc _ ZbZ fun x5 hx5=>?_
      clear hx5
      rcases x5 with x5 | x5
      ·conv=>arg 3;whnf
       exact Zh rfl
      ·conv=>arg 3;whnf
       refine Zg rfl ?_ ?_<;>conv=>arg 3;whnf
       ·refine Zj rfl rfl fun x6 hx6=>?_;conv=>arg 3;whnf
        refine Zf (Zl rfl hx6) ?_;conv=>arg 3;whnf
        refine Zj rfl rfl fun x7 hx7=>?_;conv=>arg 3;whnf
        refine Zf (Zl rfl hx7) ?_;conv=>arg 3;whnf
        refine Zs _ ZN rfl fun x8 hx8=>?_;conv=>arg 3;whnf
        refine Zg rfl ?_ ?_<;>conv=>arg 3;whnf
        ·refine Zc _ Zm fun x9 hx9=>?_
         clear hx9
         rcases x9 with x9 | x9
         ·conv=>arg 3;whnf
          refine ZbI rfl ?_;conv=>arg 3;whnf
          refine ZQ rfl ?_;conv=>arg 3;whnf
          refine Zg rfl ?_ ?_<;>conv=>arg 3;whnf
          ·refine Zg rfl ?_ ?_<;>conv=>arg 3;whnf
           ·refine Zc (Za t0 t1 t2 t3 s0.1 x9.1 s0.2.2.1 x9.2 m1_0 m1_1 m1_2 m1_3 m1_4 m1_5) (hrc t0 t1 t2 t3 s0.1 x9.1 s0.2.2.1 x9.2 m1_0 m1_1 m1_2 m1_3 m1_4 m1_5) fun x10 hx10=>?_;conv=>arg 3;whnf
            exact Zd (ih _)
           ·refine Zc (Za t0 t1 t2 t3 s0.1 x9.1 s0.2.2.1 x9.2 m1_0 m1_1 m1_2 m1_3 m1_4 m1_5) (hrc t0 t1 t2 t3 s0.1 x9.1 s0.2.2.1 x9.2 m1_0 m1_1 m1_2 m1_3 m1_4 m1_5) fun x11 hx11=>?_;conv=>arg 3;whnf
            exact Zd (ih _)
          ·refine Zg rfl ?_ ?_<;>conv=>arg 3;whnf
           ·refine Zc (Za t0 t1 t2 t3 (w64 (x9.1+1)) s0.2.1 s0.2.2.1 x9.2 m1_0 m1_1 m1_2 m1_3 m1_4 m1_5) (hrc t0 t1 t2 t3 (w64 (x9.1+1)) s0.2.1 s0.2.2.1 x9.2 m1_0 m1_1 m1_2 m1_3 m1_4 m1_5) fun x12 hx12=>?_;conv=>arg 3;whnf
            exact Zd (ih _)
           ·refine Zc (Za t0 t1 t2 t3 (w64 (x9.1+1)) s0.2.1 s0.2.2.1 x9.2 m1_0 m1_1 m1_2 m1_3 m1_4 m1_5) (hrc t0 t1 t2 t3 (w64 (x9.1+1)) s0.2.1 s0.2.2.1 x9.2 m1_0 m1_1 m1_2 m1_3 m1_4 m1_5) fun x13 hx13=>?_;conv=>arg 3;whnf
            exact Zd (ih _)
         ·conv=>arg 3;whnf
          refine ZQ rfl ?_;conv=>arg 3;whnf
          refine ZQ rfl ?_;conv=>arg 3;whnf
          refine Zg rfl ?_ ?_<;>conv=>arg 3;whnf
          ·refine Zg rfl ?_ ?_<;>conv=>arg 3;whnf
           ·refine Zc (Za t0 t1 t2 t3 s0.1 x9.1 s0.2.2.1 x9.2 m1_0 m1_1 m1_2 m1_3 m1_4 m1_5) (hrc t0 t1 t2 t3 s0.1 x9.1 s0.2.2.1 x9.2 m1_0 m1_1 m1_2 m1_3 m1_4 m1_5) fun x14 hx14=>?_;conv=>arg 3;whnf
            exact Zd (ih _)
           ·refine Zc (Za t0 t1 t2 t3 s0.1 x9.1 s0.2.2.1 x9.2 m1_0 m1_1 m1_2 m1_3 m1_4 m1_5) (hrc t0 t1 t2 t3 s0.1 x9.1 s0.2.2.1 x9.2 m1_0 m1_1 m1_2 m1_3 m1_4 m1_5) fun x15 hx15=>?_;conv=>arg 3;whnf
            exact Zd (ih _)
          ·refine Zg rfl ?_ ?_<;>conv=>arg 3;whnf
           ·refine Zc (Za t0 t1 t2 t3 (w64 (x9.1+1)) s0.2.1 s0.2.2.1 x9.2 m1_0 m1_1 m1_2 m1_3 m1_4 m1_5) (hrc t0 t1 t2 t3 (w64 (x9.1+1)) s0.2.1 s0.2.2.1 x9.2 m1_0 m1_1 m1_2 m1_3 m1_4 m1_5) fun x16 hx16=>?_;conv=>arg 3;whnf
            exact Zd (ih _)
           ·refine Zc (Za t0 t1 t2 t3 (w64 (x9.1+1)) s0.2.1 s0.2.2.1 x9.2 m1_0 m1_1 m1_2 m1_3 m1_4 m1_5) (hrc t0 t1 t2 t3 (w64 (x9.1+1)) s0.2.1 s0.2.2.1 x9.2 m1_0 m1_1 m1_2 m1_3 m1_4 m1_5) fun x17 hx17=>?_;conv=>arg 3;whnf
            exact Zd (ih _)
        ·refine Zc _ ZE fun x18 hx18=>?_;conv=>arg 3;whnf
         exact Zd (ih _)
       ·refine Zc _ Zm fun x19 hx19=>?_
        clear hx19
        rcases x19 with x19 | x19
        ·conv=>arg 3;whnf
         refine ZbI rfl ?_;conv=>arg 3;whnf
         refine ZQ rfl ?_;conv=>arg 3;whnf
         refine Zg rfl ?_ ?_<;>conv=>arg 3;whnf
         ·refine Zg rfl ?_ ?_<;>conv=>arg 3;whnf
          ·refine Zc (Za t0 t1 t2 t3 s0.1 x19.1 s0.2.2.1 x19.2 m1_0 m1_1 m1_2 m1_3 m1_4 m1_5) (hrc t0 t1 t2 t3 s0.1 x19.1 s0.2.2.1 x19.2 m1_0 m1_1 m1_2 m1_3 m1_4 m1_5) fun x20 hx20=>?_;conv=>arg 3;whnf
           exact Zd (ih _)
          ·refine Zc (Za t0 t1 t2 t3 s0.1 x19.1 s0.2.2.1 x19.2 m1_0 m1_1 m1_2 m1_3 m1_4 m1_5) (hrc t0 t1 t2 t3 s0.1 x19.1 s0.2.2.1 x19.2 m1_0 m1_1 m1_2 m1_3 m1_4 m1_5) fun x21 hx21=>?_;conv=>arg 3;whnf
           exact Zd (ih _)
         ·refine Zg rfl ?_ ?_<;>conv=>arg 3;whnf
          ·refine Zc (Za t0 t1 t2 t3 (w64 (x19.1+1)) s0.2.1 s0.2.2.1 x19.2 m1_0 m1_1 m1_2 m1_3 m1_4 m1_5) (hrc t0 t1 t2 t3 (w64 (x19.1+1)) s0.2.1 s0.2.2.1 x19.2 m1_0 m1_1 m1_2 m1_3 m1_4 m1_5) fun x22 hx22=>?_;conv=>arg 3;whnf
           exact Zd (ih _)
          ·refine Zc (Za t0 t1 t2 t3 (w64 (x19.1+1)) s0.2.1 s0.2.2.1 x19.2 m1_0 m1_1 m1_2 m1_3 m1_4 m1_5) (hrc t0 t1 t2 t3 (w64 (x19.1+1)) s0.2.1 s0.2.2.1 x19.2 m1_0 m1_1 m1_2 m1_3 m1_4 m1_5) fun x23 hx23=>?_;conv=>arg 3;whnf
           exact Zd (ih _)
        ·conv=>arg 3;whnf
         refine ZQ rfl ?_;conv=>arg 3;whnf
         refine ZQ rfl ?_;conv=>arg 3;whnf
         refine Zg rfl ?_ ?_<;>conv=>arg 3;whnf
         ·refine Zg rfl ?_ ?_<;>conv=>arg 3;whnf
          ·refine Zc (Za t0 t1 t2 t3 s0.1 x19.1 s0.2.2.1 x19.2 m1_0 m1_1 m1_2 m1_3 m1_4 m1_5) (hrc t0 t1 t2 t3 s0.1 x19.1 s0.2.2.1 x19.2 m1_0 m1_1 m1_2 m1_3 m1_4 m1_5) fun x24 hx24=>?_;conv=>arg 3;whnf
           exact Zd (ih _)
          ·refine Zc (Za t0 t1 t2 t3 s0.1 x19.1 s0.2.2.1 x19.2 m1_0 m1_1 m1_2 m1_3 m1_4 m1_5) (hrc t0 t1 t2 t3 s0.1 x19.1 s0.2.2.1 x19.2 m1_0 m1_1 m1_2 m1_3 m1_4 m1_5) fun x25 hx25=>?_;conv=>arg 3;whnf
           exact Zd (ih _)
         ·refine Zg rfl ?_ ?_<;>conv=>arg 3;whnf
          ·refine Zc (Za t0 t1 t2 t3 (w64 (x19.1+1)) s0.2.1 s0.2.2.1 x19.2 m1_0 m1_1 m1_2 m1_3 m1_4 m1_5) (hrc t0 t1 t2 t3 (w64 (x19.1+1)) s0.2.1 s0.2.2.1 x19.2 m1_0 m1_1 m1_2 m1_3 m1_4 m1_5) fun x26 hx26=>?_;conv=>arg 3;whnf
           exact Zd (ih _)
          ·refine Zc (Za t0 t1 t2 t3 (w64 (x19.1+1)) s0.2.1 s0.2.2.1 x19.2 m1_0 m1_1 m1_2 m1_3 m1_4 m1_5) (hrc t0 t1 t2 t3 (w64 (x19.1+1)) s0.2.1 s0.2.2.1 x19.2 m1_0 m1_1 m1_2 m1_3 m1_4 m1_5) fun x27 hx27=>?_;conv=>arg 3;whnf
           exact Zd (ih _)
     ·refine Zg rfl ?_ ?_<;>conv=>arg 3;whnf
      ·refine Zc _ ZbZ fun x28 hx28=>?_
       clear hx28
       rcases x28 with x28 | x28
       ·conv=>arg 3;whnf
        exact Zh rfl
       ·conv=>arg 3;whnf
        refine Zg rfl ?_ ?_<;>conv=>arg 3;whnf
        ·refine Zj rfl rfl fun x29 hx29=>?_;conv=>arg 3;whnf
         refine Zf (Zl rfl hx29) ?_;conv=>arg 3;whnf
         refine Zj rfl rfl fun x30 hx30=>?_;conv=>arg 3;whnf
         refine Zf (Zl rfl hx30) ?_;conv=>arg 3;whnf
         refine Zs _ ZN rfl fun x31 hx31=>?_;conv=>arg 3;whnf
         refine Zg rfl ?_ ?_<;>conv=>arg 3;whnf
         ·refine Zc _ Zm fun x32 hx32=>?_
          clear hx32
          rcases x32 with x32 | x32
          ·conv=>arg 3;whnf
           refine ZbI rfl ?_;conv=>arg 3;whnf
           refine ZQ rfl ?_;conv=>arg 3;whnf
           refine Zg rfl ?_ ?_<;>conv=>arg 3;whnf
           ·refine Zg rfl ?_ ?_<;>conv=>arg 3;whnf
            ·refine Zc (Za t0 t1 t2 t3 s0.1 x32.1 s0.2.2.1 x32.2 m1_0 m1_1 m1_2 m1_3 m1_4 m1_5) (hrc t0 t1 t2 t3 s0.1 x32.1 s0.2.2.1 x32.2 m1_0 m1_1 m1_2 m1_3 m1_4 m1_5) fun x33 hx33=>?_;conv=>arg 3;whnf
             exact Zd (ih _)
            ·refine Zc (Za t0 t1 t2 t3 s0.1 x32.1 s0.2.2.1 x32.2 m1_0 m1_1 m1_2 m1_3 m1_4 m1_5) (hrc t0 t1 t2 t3 s0.1 x32.1 s0.2.2.1 x32.2 m1_0 m1_1 m1_2 m1_3 m1_4 m1_5) fun x34 hx34=>?_;conv=>arg 3;whnf
             exact Zd (ih _)
           ·refine Zg rfl ?_ ?_<;>conv=>arg 3;whnf
            ·refine Zc (Za t0 t1 t2 t3 (w64 (x32.1+1)) s0.2.1 s0.2.2.1 x32.2 m1_0 m1_1 m1_2 m1_3 m1_4 m1_5) (hrc t0 t1 t2 t3 (w64 (x32.1+1)) s0.2.1 s0.2.2.1 x32.2 m1_0 m1_1 m1_2 m1_3 m1_4 m1_5) fun x35 hx35=>?_;conv=>arg 3;whnf
             exact Zd (ih _)
            ·refine Zc (Za t0 t1 t2 t3 (w64 (x32.1+1)) s0.2.1 s0.2.2.1 x32.2 m1_0 m1_1 m1_2 m1_3 m1_4 m1_5) (hrc t0 t1 t2 t3 (w64 (x32.1+1)) s0.2.1 s0.2.2.1 x32.2 m1_0 m1_1 m1_2 m1_3 m1_4 m1_5) fun x36 hx36=>?_;conv=>arg 3;whnf
             exact Zd (ih _)
          ·conv=>arg 3;whnf
           refine ZQ rfl ?_;conv=>arg 3;whnf
           refine ZQ rfl ?_;conv=>arg 3;whnf
           refine Zg rfl ?_ ?_<;>conv=>arg 3;whnf
           ·refine Zg rfl ?_ ?_<;>conv=>arg 3;whnf
            ·refine Zc (Za t0 t1 t2 t3 s0.1 x32.1 s0.2.2.1 x32.2 m1_0 m1_1 m1_2 m1_3 m1_4 m1_5) (hrc t0 t1 t2 t3 s0.1 x32.1 s0.2.2.1 x32.2 m1_0 m1_1 m1_2 m1_3 m1_4 m1_5) fun x37 hx37=>?_;conv=>arg 3;whnf
             exact Zd (ih _)
            ·refine Zc (Za t0 t1 t2 t3 s0.1 x32.1 s0.2.2.1 x32.2 m1_0 m1_1 m1_2 m1_3 m1_4 m1_5) (hrc t0 t1 t2 t3 s0.1 x32.1 s0.2.2.1 x32.2 m1_0 m1_1 m1_2 m1_3 m1_4 m1_5) fun x38 hx38=>?_;conv=>arg 3;whnf
             exact Zd (ih _)
           ·refine Zg rfl ?_ ?_<;>conv=>arg 3;whnf
            ·refine Zc (Za t0 t1 t2 t3 (w64 (x32.1+1)) s0.2.1 s0.2.2.1 x32.2 m1_0 m1_1 m1_2 m1_3 m1_4 m1_5) (hrc t0 t1 t2 t3 (w64 (x32.1+1)) s0.2.1 s0.2.2.1 x32.2 m1_0 m1_1 m1_2 m1_3 m1_4 m1_5) fun x39 hx39=>?_;conv=>arg 3;whnf
             exact Zd (ih _)
            ·refine Zc (Za t0 t1 t2 t3 (w64 (x32.1+1)) s0.2.1 s0.2.2.1 x32.2 m1_0 m1_1 m1_2 m1_3 m1_4 m1_5) (hrc t0 t1 t2 t3 (w64 (x32.1+1)) s0.2.1 s0.2.2.1 x32.2 m1_0 m1_1 m1_2 m1_3 m1_4 m1_5) fun x40 hx40=>?_;conv=>arg 3;whnf
             exact Zd (ih _)
         ·refine Zc _ ZE fun x41 hx41=>?_;conv=>arg 3;whnf
          exact Zd (ih _)
        ·refine Zc _ Zm fun x42 hx42=>?_
         clear hx42
         rcases x42 with x42 | x42
         ·conv=>arg 3;whnf
          refine ZbI rfl ?_;conv=>arg 3;whnf
          refine ZQ rfl ?_;conv=>arg 3;whnf
          refine Zg rfl ?_ ?_<;>conv=>arg 3;whnf
          ·refine Zg rfl ?_ ?_<;>conv=>arg 3;whnf
           ·refine Zc (Za t0 t1 t2 t3 s0.1 x42.1 s0.2.2.1 x42.2 m1_0 m1_1 m1_2 m1_3 m1_4 m1_5) (hrc t0 t1 t2 t3 s0.1 x42.1 s0.2.2.1 x42.2 m1_0 m1_1 m1_2 m1_3 m1_4 m1_5) fun x43 hx43=>?_;conv=>arg 3;whnf
            exact Zd (ih _)
           ·refine Zc (Za t0 t1 t2 t3 s0.1 x42.1 s0.2.2.1 x42.2 m1_0 m1_1 m1_2 m1_3 m1_4 m1_5) (hrc t0 t1 t2 t3 s0.1 x42.1 s0.2.2.1 x42.2 m1_0 m1_1 m1_2 m1_3 m1_4 m1_5) fun x44 hx44=>?_;conv=>arg 3;whnf
            exact Zd (ih _)
          ·refine Zg rfl ?_ ?_<;>conv=>arg 3;whnf
           ·refine Zc (Za t0 t1 t2 t3 (w64 (x42.1+1)) s0.2.1 s0.2.2.1 x42.2 m1_0 m1_1 m1_2 m1_3 m1_4 m1_5) (hrc t0 t1 t2 t3 (w64 (x42.1+1)) s0.2.1 s0.2.2.1 x42.2 m1_0 m1_1 m1_2 m1_3 m1_4 m1_5) fun x45 hx45=>?_;conv=>arg 3;whnf
            exact Zd (ih _)
           ·refine Zc (Za t0 t1 t2 t3 (w64 (x42.1+1)) s0.2.1 s0.2.2.1 x42.2 m1_0 m1_1 m1_2 m1_3 m1_4 m1_5) (hrc t0 t1 t2 t3 (w64 (x42.1+1)) s0.2.1 s0.2.2.1 x42.2 m1_0 m1_1 m1_2 m1_3 m1_4 m1_5) fun x46 hx46=>?_;conv=>arg 3;whnf
            exact Zd (ih _)
         ·conv=>arg 3;whnf
          refine ZQ rfl ?_;conv=>arg 3;whnf
          refine ZQ rfl ?_;conv=>arg 3;whnf
          refine Zg rfl ?_ ?_<;>conv=>arg 3;whnf
          ·refine Zg rfl ?_ ?_<;>conv=>arg 3;whnf
           ·refine Zc (Za t0 t1 t2 t3 s0.1 x42.1 s0.2.2.1 x42.2 m1_0 m1_1 m1_2 m1_3 m1_4 m1_5) (hrc t0 t1 t2 t3 s0.1 x42.1 s0.2.2.1 x42.2 m1_0 m1_1 m1_2 m1_3 m1_4 m1_5) fun x47 hx47=>?_;conv=>arg 3;whnf
            exact Zd (ih _)
           ·refine Zc (Za t0 t1 t2 t3 s0.1 x42.1 s0.2.2.1 x42.2 m1_0 m1_1 m1_2 m1_3 m1_4 m1_5) (hrc t0 t1 t2 t3 s0.1 x42.1 s0.2.2.1 x42.2 m1_0 m1_1 m1_2 m1_3 m1_4 m1_5) fun x48 hx48=>?_;conv=>arg 3;whnf
            exact Zd (ih _)
          ·refine Zg rfl ?_ ?_<;>conv=>arg 3;whnf
           ·refine Zc (Za t0 t1 t2 t3 (w64 (x42.1+1)) s0.2.1 s0.2.2.1 x42.2 m1_0 m1_1 m1_2 m1_3 m1_4 m1_5) (hrc t0 t1 t2 t3 (w64 (x42.1+1)) s0.2.1 s0.2.2.1 x42.2 m1_0 m1_1 m1_2 m1_3 m1_4 m1_5) fun x49 hx49=>?_;conv=>arg 3;whnf
            exact Zd (ih _)
           ·refine Zc (Za t0 t1 t2 t3 (w64 (x42.1+1)) s0.2.1 s0.2.2.1 x42.2 m1_0 m1_1 m1_2 m1_3 m1_4 m1_5) (hrc t0 t1 t2 t3 (w64 (x42.1+1)) s0.2.1 s0.2.2.1 x42.2 m1_0 m1_1 m1_2 m1_3 m1_4 m1_5) fun x50 hx50=>?_;conv=>arg 3;whnf
            exact Zd (ih _)
      ·refine Zg rfl ?_ ?_<;>conv=>arg 3;whnf
       ·refine Zj rfl rfl fun x51 hx51=>?_;conv=>arg 3;whnf
        refine Zf (Zl rfl hx51) ?_;conv=>arg 3;whnf
        refine Zj rfl rfl fun x52 hx52=>?_;conv=>arg 3;whnf
        refine Zf (Zl rfl hx52) ?_;conv=>arg 3;whnf
        refine Zs _ ZN rfl fun x53 hx53=>?_;conv=>arg 3;whnf
        refine Zg rfl ?_ ?_<;>conv=>arg 3;whnf
        ·refine Zc _ Zm fun x54 hx54=>?_
         clear hx54
         rcases x54 with x54 | x54
         ·conv=>arg 3;whnf
          refine ZbI rfl ?_;conv=>arg 3;whnf
          refine ZQ rfl ?_;conv=>arg 3;whnf
          refine Zg rfl ?_ ?_<;>conv=>arg 3;whnf
          ·refine Zg rfl ?_ ?_<;>conv=>arg 3;whnf
           ·refine Zc (Za t0 t1 t2 t3 s0.1 x54.1 s0.2.2.1 x54.2 m1_0 m1_1 m1_2 m1_3 m1_4 m1_5) (hrc t0 t1 t2 t3 s0.1 x54.1 s0.2.2.1 x54.2 m1_0 m1_1 m1_2 m1_3 m1_4 m1_5) fun x55 hx55=>?_;conv=>arg 3;whnf
            exact Zd (ih _)
           ·refine Zc (Za t0 t1 t2 t3 s0.1 x54.1 s0.2.2.1 x54.2 m1_0 m1_1 m1_2 m1_3 m1_4 m1_5) (hrc t0 t1 t2 t3 s0.1 x54.1 s0.2.2.1 x54.2 m1_0 m1_1 m1_2 m1_3 m1_4 m1_5) fun x56 hx56=>?_;conv=>arg 3;whnf
            exact Zd (ih _)
          ·refine Zg rfl ?_ ?_<;>conv=>arg 3;whnf
           ·refine Zc (Za t0 t1 t2 t3 (w64 (x54.1+1)) s0.2.1 s0.2.2.1 x54.2 m1_0 m1_1 m1_2 m1_3 m1_4 m1_5) (hrc t0 t1 t2 t3 (w64 (x54.1+1)) s0.2.1 s0.2.2.1 x54.2 m1_0 m1_1 m1_2 m1_3 m1_4 m1_5) fun x57 hx57=>?_;conv=>arg 3;whnf
            exact Zd (ih _)
           ·refine Zc (Za t0 t1 t2 t3 (w64 (x54.1+1)) s0.2.1 s0.2.2.1 x54.2 m1_0 m1_1 m1_2 m1_3 m1_4 m1_5) (hrc t0 t1 t2 t3 (w64 (x54.1+1)) s0.2.1 s0.2.2.1 x54.2 m1_0 m1_1 m1_2 m1_3 m1_4 m1_5) fun x58 hx58=>?_;conv=>arg 3;whnf
            exact Zd (ih _)
         ·conv=>arg 3;whnf
          refine ZQ rfl ?_;conv=>arg 3;whnf
          refine ZQ rfl ?_;conv=>arg 3;whnf
          refine Zg rfl ?_ ?_<;>conv=>arg 3;whnf
          ·refine Zg rfl ?_ ?_<;>conv=>arg 3;whnf
           ·refine Zc (Za t0 t1 t2 t3 s0.1 x54.1 s0.2.2.1 x54.2 m1_0 m1_1 m1_2 m1_3 m1_4 m1_5) (hrc t0 t1 t2 t3 s0.1 x54.1 s0.2.2.1 x54.2 m1_0 m1_1 m1_2 m1_3 m1_4 m1_5) fun x59 hx59=>?_;conv=>arg 3;whnf
            exact Zd (ih _)
           ·refine Zc (Za t0 t1 t2 t3 s0.1 x54.1 s0.2.2.1 x54.2 m1_0 m1_1 m1_2 m1_3 m1_4 m1_5) (hrc t0 t1 t2 t3 s0.1 x54.1 s0.2.2.1 x54.2 m1_0 m1_1 m1_2 m1_3 m1_4 m1_5) fun x60 hx60=>?_;conv=>arg 3;whnf
            exact Zd (ih _)
          ·refine Zg rfl ?_ ?_<;>conv=>arg 3;whnf
           ·refine Zc (Za t0 t1 t2 t3 (w64 (x54.1+1)) s0.2.1 s0.2.2.1 x54.2 m1_0 m1_1 m1_2 m1_3 m1_4 m1_5) (hrc t0 t1 t2 t3 (w64 (x54.1+1)) s0.2.1 s0.2.2.1 x54.2 m1_0 m1_1 m1_2 m1_3 m1_4 m1_5) fun x61 hx61=>?_;conv=>arg 3;whnf
            exact Zd (ih _)
           ·refine Zc (Za t0 t1 t2 t3 (w64 (x54.1+1)) s0.2.1 s0.2.2.1 x54.2 m1_0 m1_1 m1_2 m1_3 m1_4 m1_5) (hrc t0 t1 t2 t3 (w64 (x54.1+1)) s0.2.1 s0.2.2.1 x54.2 m1_0 m1_1 m1_2 m1_3 m1_4 m1_5) fun x62 hx62=>?_;conv=>arg 3;whnf
            exact Zd (ih _)
        ·refine Zc _ ZE fun x63 hx63=>?_;conv=>arg 3;whnf
         exact Zd (ih _)
       ·refine Zc _ Zm fun x64 hx64=>?_
        clear hx64
        rcases x64 with x64 | x64
        ·conv=>arg 3;whnf
         refine ZbI rfl ?_;conv=>arg 3;whnf
         refine ZQ rfl ?_;conv=>arg 3;whnf
         refine Zg rfl ?_ ?_<;>conv=>arg 3;whnf
         ·refine Zg rfl ?_ ?_<;>conv=>arg 3;whnf
          ·refine Zc (Za t0 t1 t2 t3 s0.1 x64.1 s0.2.2.1 x64.2 m1_0 m1_1 m1_2 m1_3 m1_4 m1_5) (hrc t0 t1 t2 t3 s0.1 x64.1 s0.2.2.1 x64.2 m1_0 m1_1 m1_2 m1_3 m1_4 m1_5) fun x65 hx65=>?_;conv=>arg 3;whnf
           exact Zd (ih _)
          ·refine Zc (Za t0 t1 t2 t3 s0.1 x64.1 s0.2.2.1 x64.2 m1_0 m1_1 m1_2 m1_3 m1_4 m1_5) (hrc t0 t1 t2 t3 s0.1 x64.1 s0.2.2.1 x64.2 m1_0 m1_1 m1_2 m1_3 m1_4 m1_5) fun x66 hx66=>?_;conv=>arg 3;whnf
           exact Zd (ih _)
         ·refine Zg rfl ?_ ?_<;>conv=>arg 3;whnf
          ·refine Zc (Za t0 t1 t2 t3 (w64 (x64.1+1)) s0.2.1 s0.2.2.1 x64.2 m1_0 m1_1 m1_2 m1_3 m1_4 m1_5) (hrc t0 t1 t2 t3 (w64 (x64.1+1)) s0.2.1 s0.2.2.1 x64.2 m1_0 m1_1 m1_2 m1_3 m1_4 m1_5) fun x67 hx67=>?_;conv=>arg 3;whnf
           exact Zd (ih _)
          ·refine Zc (Za t0 t1 t2 t3 (w64 (x64.1+1)) s0.2.1 s0.2.2.1 x64.2 m1_0 m1_1 m1_2 m1_3 m1_4 m1_5) (hrc t0 t1 t2 t3 (w64 (x64.1+1)) s0.2.1 s0.2.2.1 x64.2 m1_0 m1_1 m1_2 m1_3 m1_4 m1_5) fun x68 hx68=>?_;conv=>arg 3;whnf
           exact Zd (ih _)
        ·conv=>arg 3;whnf
         refine ZQ rfl ?_;conv=>arg 3;whnf
         refine ZQ rfl ?_;conv=>arg 3;whnf
         refine Zg rfl ?_ ?_<;>conv=>arg 3;whnf
         ·refine Zg rfl ?_ ?_<;>conv=>arg 3;whnf
          ·refine Zc (Za t0 t1 t2 t3 s0.1 x64.1 s0.2.2.1 x64.2 m1_0 m1_1 m1_2 m1_3 m1_4 m1_5) (hrc t0 t1 t2 t3 s0.1 x64.1 s0.2.2.1 x64.2 m1_0 m1_1 m1_2 m1_3 m1_4 m1_5) fun x69 hx69=>?_;conv=>arg 3;whnf
           exact Zd (ih _)
          ·refine Zc (Za t0 t1 t2 t3 s0.1 x64.1 s0.2.2.1 x64.2 m1_0 m1_1 m1_2 m1_3 m1_4 m1_5) (hrc t0 t1 t2 t3 s0.1 x64.1 s0.2.2.1 x64.2 m1_0 m1_1 m1_2 m1_3 m1_4 m1_5) fun x70 hx70=>?_;conv=>arg 3;whnf
           exact Zd (ih _)
         ·refine Zg rfl ?_ ?_<;>conv=>arg 3;whnf
          ·refine Zc (Za t0 t1 t2 t3 (w64 (x64.1+1)) s0.2.1 s0.2.2.1 x64.2 m1_0 m1_1 m1_2 m1_3 m1_4 m1_5) (hrc t0 t1 t2 t3 (w64 (x64.1+1)) s0.2.1 s0.2.2.1 x64.2 m1_0 m1_1 m1_2 m1_3 m1_4 m1_5) fun x71 hx71=>?_;conv=>arg 3;whnf
           exact Zd (ih _)
          ·refine Zc (Za t0 t1 t2 t3 (w64 (x64.1+1)) s0.2.1 s0.2.2.1 x64.2 m1_0 m1_1 m1_2 m1_3 m1_4 m1_5) (hrc t0 t1 t2 t3 (w64 (x64.1+1)) s0.2.1 s0.2.2.1 x64.2 m1_0 m1_1 m1_2 m1_3 m1_4 m1_5) fun x72 hx72=>?_;conv=>arg 3;whnf
           exact Zd (ih _)
theorem Zfk (rc:Int→Int→Int→(Int→Int→Option Int)→(List Int)→Option (List Int)) (hrc:∀(t0:Bool) (t1:Bool) (t2:Bool) (t3:Bool) (b:Int) (c:Int) (d:Int) (m0_0:(List Int)) (m1_0:Int) (m1_1:Int) (m1_2:(List Zam)) (m1_3:(List Zo)) (m1_4:(List Zk)) (m1_5:(List Zu)) (r:(List Int)),rc b c d (fun z0 z1=>Zw z0 z1 m1_4) m0_0=some r→evW ctx 138 [(.sl 0 1),(.d (Ze b)),(.d (Ze c)),(.d (Ze d)),(.fn 121 [(.ptr 1 0)])] [(.arr 1 (List.map Ze m0_0)),(.cells [(.d (Ze m1_0)),(.d (Ze m1_1)),(.d (D.list t0 (List.map Zau m1_2))),(.d (D.list t1 (List.map ZJ m1_3))),(.d (D.list t2 (List.map Zt m1_4))),(.d (D.list t3 (List.map ZA m1_5)))])]=some ((Za t0 t1 t2 t3 b c d m0_0 m1_0 m1_1 m1_2 m1_3 m1_4 m1_5) r)) (t0:Bool) (t1:Bool) (t2:Bool) (t3:Bool) (b:Int) (c:Int) (d:Int) (m0_0:(List Int)) (m1_0:Int) (m1_1:Int) (m1_2:(List Zam)) (m1_3:(List Zo)) (m1_4:(List Zk)) (m1_5:(List Zu)):∀r,(ZaE rc b c d (fun z0 z1=>Zw z0 z1 m1_4) m0_0)=some r→evW ctx 138 [(.sl 0 1),(.d (Ze b)),(.d (Ze c)),(.d (Ze d)),(.fn 121 [(.ptr 1 0)])] [(.arr 1 (List.map Ze m0_0)),(.cells [(.d (Ze m1_0)),(.d (Ze m1_1)),(.d (D.list t0 (List.map Zau m1_2))),(.d (D.list t1 (List.map ZJ m1_3))),(.d (D.list t2 (List.map Zt m1_4))),(.d (D.list t3 (List.map ZA m1_5)))])]=some ((Za t0 t1 t2 t3 b c d m0_0 m1_0 m1_1 m1_2 m1_3 m1_4 m1_5) r):=by
 show Z6 _ (fun r rhs=>rhs=some ((Za t0 t1 t2 t3 b c d m0_0 m1_0 m1_1 m1_2 m1_3 m1_4 m1_5) r)) _
 unfold ZaE
 rw[Zeh ctx 138 ZwV _ _ rfl rfl]
 conv=>arg 3;whnf
 refine Zc _ (Zfc hrc _) fun r219 hr219=>?_;conv=>arg 3;whnf
 exact Zh rfl
theorem ZcW:∀(n:Nat) (t0:Bool) (t1:Bool) (t2:Bool) (t3:Bool) (b:Int) (c:Int) (d:Int) (m0_0:(List Int)) (m1_0:Int) (m1_1:Int) (m1_2:(List Zam)) (m1_3:(List Zo)) (m1_4:(List Zk)) (m1_5:(List Zu)) (r:(List Int)),Z0 n b c d (fun z0 z1=>Zw z0 z1 m1_4) m0_0=some r→evW ctx 138 [(.sl 0 1),(.d (Ze b)),(.d (Ze c)),(.d (Ze d)),(.fn 121 [(.ptr 1 0)])] [(.arr 1 (List.map Ze m0_0)),(.cells [(.d (Ze m1_0)),(.d (Ze m1_1)),(.d (D.list t0 (List.map Zau m1_2))),(.d (D.list t1 (List.map ZJ m1_3))),(.d (D.list t2 (List.map Zt m1_4))),(.d (D.list t3 (List.map ZA m1_5)))])]=some ((Za t0 t1 t2 t3 b c d m0_0 m1_0 m1_1 m1_2 m1_3 m1_4 m1_5) r)
  | 0,t0,t1,t2,t3,b,c,d,m0_0,m1_0,m1_1,m1_2,m1_3,m1_4,m1_5,r,h=>by cases h
  | n+1,t0,t1,t2,t3,b,c,d,m0_0,m1_0,m1_1,m1_2,m1_3,m1_4,m1_5,r,h=>Zfk (Z0 n) (ZcW n) t0 t1 t2 t3 b c d m0_0 m1_0 m1_1 m1_2 m1_3 m1_4 m1_5 r h
theorem ZfE {t0:Bool}{t1:Bool}{t2:Bool}{t3:Bool}{b:Int}{c:Int}{d:Int}{m0_0:(List Int)}{m1_0:Int}{m1_1:Int}{m1_2:(List Zam)}{m1_3:(List Zo)}{m1_4:(List Zk)}{m1_5:(List Zu)}:∀r,Zdu b c d (fun z0 z1=>Zw z0 z1 m1_4) m0_0=some r→evW ctx 138 [(.sl 0 1),(.d (Ze b)),(.d (Ze c)),(.d (Ze d)),(.fn 121 [(.ptr 1 0)])] [(.arr 1 (List.map Ze m0_0)),(.cells [(.d (Ze m1_0)),(.d (Ze m1_1)),(.d (D.list t0 (List.map Zau m1_2))),(.d (D.list t1 (List.map ZJ m1_3))),(.d (D.list t2 (List.map Zt m1_4))),(.d (D.list t3 (List.map ZA m1_5)))])]=some ((Za t0 t1 t2 t3 b c d m0_0 m1_0 m1_1 m1_2 m1_3 m1_4 m1_5) r):=fun r h=>by
  obtain⟨n,hn⟩:=ZuX h
  exact ZcW n t0 t1 t2 t3 b c d m0_0 m1_0 m1_1 m1_2 m1_3 m1_4 m1_5 r hn
def Zdn (t0:Bool) (t1:Bool) (t2:Bool) (t3:Bool) (m0_0:(List Int)) (m1_0:Int) (m1_1:Int) (m1_2:(List Zam)) (m1_3:(List Zo)) (m1_4:(List Zk)) (m1_5:(List Zu)):(List Int)→V×Zp
  | r=>((.d (D.tup [])),[(.arr 1 (List.map Ze r)),(.cells [(.d (Ze m1_0)),(.d (Ze m1_1)),(.d (D.list t0 (List.map Zau m1_2))),(.d (D.list t1 (List.map ZJ m1_3))),(.d (D.list t2 (List.map Zt m1_4))),(.d (D.list t3 (List.map ZA m1_5)))])])
theorem ZfD {t0:Bool}{t1:Bool}{t2:Bool}{t3:Bool}{m0_0:(List Int)}{m1_0:Int}{m1_1:Int}{m1_2:(List Zam)}{m1_3:(List Zo)}{m1_4:(List Zk)}{m1_5:(List Zu)}:∀r,(ZaN (fun z0 z1=>Zw z0 z1 m1_4) m0_0)=some r→evW ctx 120 [(.sl 0 1),(.fn 121 [(.ptr 1 0)])] [(.arr 1 (List.map Ze m0_0)),(.cells [(.d (Ze m1_0)),(.d (Ze m1_1)),(.d (D.list t0 (List.map Zau m1_2))),(.d (D.list t1 (List.map ZJ m1_3))),(.d (D.list t2 (List.map Zt m1_4))),(.d (D.list t3 (List.map ZA m1_5)))])]=some ((Zdn t0 t1 t2 t3 m0_0 m1_0 m1_1 m1_2 m1_3 m1_4 m1_5) r):=by
 show Z6 _ (fun r rhs=>rhs=some ((Zdn t0 t1 t2 t3 m0_0 m1_0 m1_1 m1_2 m1_3 m1_4 m1_5) r)) _
 unfold ZaN
 rw[Zeh ctx 120 Zxs _ _ rfl rfl]
 conv=>arg 3;whnf
 refine Zq (Zal _ _) ?_;conv=>arg 3;whnf
 refine Zs _ Zhv rfl fun x0 hx0=>?_;conv=>arg 3;whnf
 refine Zc _ ZfE fun x1 hx1=>?_;conv=>arg 3;whnf
 exact Zh rfl
def Zj0 (r:(List Int)):D:=(D.list true (List.map Ze r))
def ZiH (t0:Bool) (t1:Bool) (t2:Bool) (t3:Bool) (a:Zn) (b:Int):(List Int)→Ex×List V×Zp
  | r=>(.exit 0,[(.ptr 0 0),(.sl 1 1)],[(.cells (dV t0 t1 t2 t3 a)),(.arr 1 (List.map Ze r))])
theorem Zlp {t0:Bool}{t1:Bool}{t2:Bool}{t3:Bool}{a:Zn}{b:Int}:∀(s1:Int×(List Int)) (r:(List Int)),lp (Zeg a b) s1=some r→lpW ctx 0 [1,2,5,12,13,14] [2,5] Zwp [(.d (Ze b)),(.ptr 0 0),(.sl 1 1),(.d (D.list t2 (List.map Zt a.futures))),(.d (Ze (a.futures.length:Int))),(.d (Ze s1.1))] [(.cells (dV t0 t1 t2 t3 a)),(.arr 1 (List.map Ze s1.2))]=some ((ZiH t0 t1 t2 t3 a b) r):=by
 refine Zbe (ZiH t0 t1 t2 t3 a b) ?_
 intro s1 rcl ih
 show Z6 _ _ (lpW _ _ _ _ _ _ _)
 unfold Zeg
 rw[Zbg]
 conv=>arg 3;whnf
 refine Zg rfl ?_ ?_<;>conv=>arg 3;whnf
 ·refine Zj rfl rfl fun x2 hx2=>?_;conv=>arg 3;whnf
  refine Zg rfl ?_ ?_<;>conv=>arg 3;whnf
  ·refine ZbI rfl ?_;conv=>arg 3;whnf
   refine Zg (ZkK Ze s1.2 1) ?_ ?_
   ·conv=>arg 3;whnf
    refine Zq (ZkG Ze s1.2 [s1.1]) ?_;conv=>arg 3;whnf
    exact Zd (ih _)
   ·exact ZbF
  ·exact Zd (ih _)
 ·exact Zh rfl
theorem Znk {t0:Bool}{t1:Bool}{t2:Bool}{t3:Bool}{a:Zn}{b:Int}:∀r,(Zd7 a b)=some r→evD ctx 86 [(.d (D.agg (dA t0 t1 t2 t3 a))),(.d (Ze b))]=some (Zj0 r):=by
 show Z6 _ (fun r rhs=>rhs=some (Zj0 r)) _
 unfold Zd7
 rw[ZcX ctx 86 ZAx _ rfl rfl]
 conv=>arg 3;whnf
 refine Zs _ ZkZ rfl fun x0 hx0=>?_;conv=>arg 3;whnf
 refine Zg rfl ?_ ?_<;>conv=>arg 3;whnf
 ·exact Zh rfl
 ·refine Zq (Zal _ _) ?_;conv=>arg 3;whnf
  refine Zc _ (Zlp _) fun r3 hr3=>?_;conv=>arg 3;whnf
  refine Zc _ ZfD fun x4 hx4=>?_;conv=>arg 3;whnf
  exact Zh rfl
def ZhQ (b:Zi) (c:Int) (m1_0:(List Int)) (m2_0:(List Zo)) (m3_0:(List Zi)) (m4_0:(List (Int×Int))) (m5_0:(List (Int×Int))) (m6_0:(List (Zk×Int))):Unit→V×Zp
  | r=>((.d (Ze (w64 ((List.length (m3_0++[b]):Int)-1)))),[(.cells [(.sl 7 1),(.sl 2 2),(.sl 8 2),(.mp 4),(.mp 5),(.mp 6)]),.dead,(.arr 2 (List.map ZJ m2_0)),.dead,(.mp (mpD Ze Ze m4_0)),(.mp (mpD Ze Ze m5_0)),(.mp (mpD Zt Ze m6_0)),(.arr 1 (List.map Ze (m1_0++[c]))),(.arr 2 (List.map ZcF (m3_0++[b])))])
theorem Zbs {b:Zi}{c:Int}{m1_0:(List Int)}{m2_0:(List Zo)}{m3_0:(List Zi)}{m4_0:(List (Int×Int))}{m5_0:(List (Int×Int))}{m6_0:(List (Zk×Int))}:∀r,(Za0 b c m1_0 m3_0)=some r→evW ctx 44 [(.ptr 0 0),(.d (D.agg [(Ze b.part),(Ze b.step)])),(.d (Ze c))] [(.cells [(.sl 1 1),(.sl 2 2),(.sl 3 2),(.mp 4),(.mp 5),(.mp 6)]),(.arr 1 (List.map Ze m1_0)),(.arr 2 (List.map ZJ m2_0)),(.arr 2 (List.map ZcF m3_0)),(.mp (mpD Ze Ze m4_0)),(.mp (mpD Ze Ze m5_0)),(.mp (mpD Zt Ze m6_0))]=some ((ZhQ b c m1_0 m2_0 m3_0 m4_0 m5_0 m6_0) r):=by
 show Z6 _ (fun r rhs=>rhs=some ((ZhQ b c m1_0 m2_0 m3_0 m4_0 m5_0 m6_0) r)) _
 unfold Za0
 rw[Zeh ctx 44 ZAB _ _ rfl rfl]
 conv=>arg 3;whnf
 refine ZbI rfl ?_;conv=>arg 3;whnf
 refine Zg (ZkK ZcF m3_0 1) ?_ ?_
 ·conv=>arg 3;whnf
  refine Zq (ZkG ZcF m3_0 [b]) ?_;conv=>arg 3;whnf
  refine ZbI rfl ?_;conv=>arg 3;whnf
  refine Zg (ZkK Ze m1_0 1) ?_ ?_
  ·conv=>arg 3;whnf
   refine Zq (ZkG Ze m1_0 [c]) ?_;conv=>arg 3;whnf
   refine Zq (Zal _ _) ?_;conv=>arg 3;whnf
   exact Zh rfl
  ·exact ZbF
 ·exact ZbF
end Go.Proofs.YtljgncbdagmeeaaDoor
