/- LowRound: part 5 of 6 of the proof. -/
import Derived.Test.YtljgncbdagmeeaaDoorZLowRoundd
import Derived.KernelRfl
set_option maxRecDepth 100000
set_option maxHeartbeats 40000000
namespace Go.Proofs.YtljgncbdagmeeaaDoor
open Go Go.Proofs.YtljgncbdagmeeaaDoorE Go.Sort
set_option linter.unusedVariables false
set_option linter.unusedSimpArgs false
def sel {γ:Type} (p:γ→Bool) (g:Nat→γ→Int):Nat→List γ→List Int
 | _,[]=>[]
 | i,x :: l=>bif p x then g i x :: sel p g (i+1) l else sel p g (i+1) l
theorem Znz {γ:Type} (p:γ→Bool) (g:Nat→γ→Int):∀(l:List γ) (i:Nat),(sel p g i l).length=l.countP p
 | [],_=>rfl
 | x :: l,i=>by
  unfold sel
  have ih:=Znz p g l (i+1)
  cases h:p x with
  | true=>simp[ih,h]
  | false=>simp[ih,h]
theorem ZoJ {γ:Type} (p:γ→Bool) (g:Nat→γ→Int) (z:Int):∀(l:List γ) (i:Nat),z∈sel p g i l↔∃j x,l[j]? = some x∧p x=true∧z=g (i+j) x
 | [],i=>by simp[sel]
 | x :: l,i=>by
  have ih:=ZoJ p g z l (i+1)
  have key:(∃j y,(x :: l)[j]? = some y∧p y=true∧z=g (i+j) y)↔(p x=true∧z=g i x)∨∃j y,l[j]? = some y∧p y=true∧z=g (i+1+j) y:=by
   constructor
   ·rintro ⟨j,y,h1,h2,h3⟩
    cases j with
    | zero=>left;simp at h1;subst h1;exact⟨h2,h3⟩
    | succ j=>right;exact⟨j,y,by simpa using h1,h2,by rw[h3];congr 1;omega⟩
   ·rintro (⟨h2,h3⟩ | ⟨j,y,h1,h2,h3⟩)
    ·exact⟨0,x,rfl,h2,h3⟩
    ·exact⟨j+1,y,by simpa using h1,h2,by rw[h3];congr 1;omega⟩
  rw[key]
  unfold sel
  cases h:p x with
  | true=>simp[ih]
  | false=>simp[ih]
theorem ZxZ {γ:Type} (l:List γ) (hl:l.length≤1000) (p:γ→Bool) (g:Nat→γ→Int) (step:Int×List Int→Option ((Int×List Int)⊕List Int))
  (h1:∀i x s,i<l.length→l[i]? = some x→step ((i:Int),s)=(bif p x then (bif Nat.ble (s.length+1) lim then some (.inl (((i+1:Nat):Int),s++[g i x])) else none) else some (.inl (((i+1:Nat):Int),s))))
  (h2:∀s,step ((l.length:Int),s)=some (.inr s)) (s:List Int) (hs:s.length≤1000000):lp step (0,s)=some (s++sel p g 0 l):=by
 have key:=Zrj l step (fun i s=>((i:Int),s)) (fun i x s=>bif p x then (bif Nat.ble (s.length+1) lim then some (.inl (s++[g i x])) else none) else some (.inl s)) (fun s=>some s) (fun i x s hi hx=>by
   rw[h1 i x s hi hx]
   cases p x<;>cases Nat.ble (s.length+1) lim<;>rfl) (fun s=>h2 s) s
 refine(key:lp step (0,s)=_).trans ?_
 have:∀(l:List γ) (i:Nat) (s:List Int),s.length+l.length≤1001000→Zn0 (fun i x s=>bif p x then (bif Nat.ble (s.length+1) lim then some (Sum.inl (s++[g i x])) else (none:Option (List Int⊕List Int))) else some (.inl s)) (fun s=>some s) i l s=some (s++sel p g i l):=by
  intro l
  induction l with
  | nil=>intro i s _;simp[Zn0,sel]
  | cons x l ih=>
   intro i s hb
   rw[List.length_cons] at hb
   unfold Zn0 sel
   cases p x with
   | true=>
    rw[Zjf (show s.length+1≤1073741824 by omega)]
    simp only[cond_true]
    rw[ih (i+1) (s++[g i x]) (by rw[List.length_append,List.length_singleton];omega)]
    simp
   | false=>
    simp only[cond_false]
    rw[ih (i+1) s (by omega)]
 exact this l 0 s (by omega)
theorem Zpr (k:Int→Int):∀(l m:List Int),l.Pairwise (fun x y=>k x<k y)→m.Pairwise (fun x y=>k x<k y)→(∀z,z∈l↔z∈m)→l=m
 | [],[],_,_,_=>rfl
 | [],y :: m,_,_,h=>absurd ((h y).2 (by simp)) (by simp)
 | x :: l,[],_,_,h=>absurd ((h x).1 (by simp)) (by simp)
 | x :: l,y :: m,h1,h2,h=>by
  rw[List.pairwise_cons] at h1 h2
  have hxy:x=y:=by
   rcases List.mem_cons.1 ((h x).1 (by simp)) with e | e
   ·exact e
   ·rcases List.mem_cons.1 ((h y).2 (by simp)) with e2 | e2
    ·exact e2.symm
    ·have:=h2.1 _ e
     have:=h1.1 _ e2
     omega
  subst hxy
  congr 1
  refine Zpr k l m h1.2 h2.2 fun z=>?_
  constructor
  ·intro hz
   rcases List.mem_cons.1 ((h z).1 (by simp[hz])) with e | e
   ·subst e
    have:=h1.1 _ hz
    omega
   ·exact e
  ·intro hz
   rcases List.mem_cons.1 ((h z).2 (by simp[hz])) with e | e
   ·subst e
    have:=h2.1 _ hz
    omega
   ·exact e
structure ZlC (d:Zn):Prop where
 w:∀p∈d.parts,1≤p.work∧p.work≤100
 e:∀x∈d.edges,two d.parts.length x.src x.dst=true
 f:∀x∈d.futures,two d.parts.length x.maker x.user=true∧1≤x.pos∧x.pos≤Zgx d.parts x.user-1
 ne:∀(i j:Nat) (x y:Zk),i<j→d.futures[i]? = some x→d.futures[j]? = some y→¬(x.user=y.user∧x.pos=y.pos)
theorem ZrA {d:Zn} (h:Zeb d=0):ZlC d:=by
 unfold Zeb at h
 have all:ZiB d=true∧ZkZ d=true∧d.parts.any ZgA=false∧Zgw (ZdI d) 0 d.edges=false∧Zgw (ZdF d) 0 d.futures=false:=by
  revert h
  cases ZiB d<;>cases ZkZ d<;>cases d.parts.any ZgA<;>cases Zgw (ZdI d) 0 d.edges<;>cases Zgw (ZdF d) 0 d.futures<;>simp
 obtain⟨_,_,h3,h4,h5⟩:=all
 have he:∀(i:Nat) x,d.edges[i]? = some x→ZdI d i x=false:=fun i x hx=>by
  cases hb:ZdI d i x with
  | false=>rfl
  | true=>rw[(Zhk _ _ 0).2 ⟨i,x,hx,by simpa using hb⟩] at h4;cases h4
 have hf:∀(i:Nat) x,d.futures[i]? = some x→ZdF d i x=false:=fun i x hx=>by
  cases hb:ZdF d i x with
  | false=>rfl
  | true=>rw[(Zhk _ _ 0).2 ⟨i,x,hx,by simpa using hb⟩] at h5;cases h5
 refine⟨Zp6 h3,fun x hx=>?_,fun x hx=>?_,fun i j x y hij hx hy=>?_⟩
 ·obtain⟨i,hi⟩:=List.getElem?_of_mem hx
  have:=he i x hi
  unfold ZdI at this
  simp only[Bool.or_eq_false_iff,Bool.not_eq_false'] at this
  exact this.1
 ·obtain⟨i,hi⟩:=List.getElem?_of_mem hx
  have:=hf i x hi
  unfold ZdF ZdS at this
  simp only[Bool.or_eq_false_iff,Bool.not_eq_false',Bool.and_eq_true,decide_eq_true_eq] at this
  exact⟨this.1,this.2.1.1,this.2.1.2⟩
 ·rintro ⟨h1,h2⟩
  have:=hf j y hy
  unfold ZdF at this
  simp only[Bool.or_eq_false_iff] at this
  have h6:=List.any_eq_false.1 this.2.2 x (List.mem_of_getElem? (i:=i) (by rw[List.getElem?_take_of_lt hij];exact hx))
  unfold again at h6
  simp[h1,h2] at h6
theorem ZlY {d:Zn} (g:ZlC d) (u:Int):Zgx d.parts u≤100:=by
 unfold Zgx
 split
 ·rename_i p hp;exact(g.w p (List.mem_of_getElem? hp)).2
 ·omega
def Zf6 (fs:List Zk) (z:Int):Int:=match fs[z.toNat]? with | some f=>f.pos | none=>0
def ZoD (d:Zn) (u:Int):List Int:=sel (fun f:Zk=>f.user==u) (fun i _=>(i:Int)) 0 d.futures
theorem ZlI (d:Zn) (u z:Int):z∈ZoD d u↔∃(i:Nat) (f:Zk),d.futures[i]? = some f∧f.user=u∧z=(i:Int):=by
 unfold ZoD
 rw[ZoJ]
 simp
theorem ZpO (d:Zn) (u:Int):(ZoD d u).Pairwise (fun x y=>x<y):=by
 have:∀(l:List Zk) (i:Nat),(sel (fun f:Zk=>f.user==u) (fun i _=>(i:Int)) i l).Pairwise (fun x y=>x<y)∧∀z∈sel (fun f:Zk=>f.user==u) (fun i _=>(i:Int)) i l,(i:Int)≤z:=by
  intro l
  induction l with
  | nil=>intro i;simp[sel]
  | cons x l ih=>
   intro i
   obtain⟨h1,h2⟩:=ih (i+1)
   unfold sel
   cases x.user==u with
   | true=>
    simp only[cond_true,List.pairwise_cons,List.mem_cons]
    refine⟨⟨fun z hz=>?_,h1⟩,?_⟩
    ·have:=h2 z hz;omega
    ·rintro z (rfl | hz)
     ·exact Int.le_refl _
     ·have:=h2 z hz;omega
   | false=>
    simp only[cond_false]
    exact⟨h1,fun z hz=>by have:=h2 z hz;omega⟩
 exact(this d.futures 0).1
structure ZhD (d:Zn) (u:Int) (r:List Int):Prop where
 mem:∀z,z∈r↔∃(i:Nat) (f:Zk),d.futures[i]? = some f∧f.user=u∧z=(i:Int)
 rise:r.Pairwise (fun x y=>Zf6 d.futures x<Zf6 d.futures y)
theorem ZhD.eq {d:Zn}{u:Int}{r s:List Int} (h1:ZhD d u r) (h2:ZhD d u s):r=s:=Zpr (Zf6 d.futures) r s h1.rise h2.rise fun z=>by rw[h1.mem,h2.mem]
theorem Zsd {l:List Int}{p q:Int→Int→Prop} (h:l.Pairwise p) (hq:∀x y,x∈l→y∈l→p x y→q x y):l.Pairwise q:=by
 rw[List.pairwise_iff_getElem] at h ⊢
 exact fun i j hi hj hij=>hq _ _ (List.getElem_mem hi) (List.getElem_mem hj) (h i j hi hj hij)
theorem Zyj {d:Zn} (g:ZlC d) {u x y:Int} (hx:∃(i:Nat) (f:Zk),d.futures[i]? = some f∧f.user=u∧x=(i:Int)) (hy:∃(i:Nat) (f:Zk),d.futures[i]? = some f∧f.user=u∧y=(i:Int)) (hne:x≠y):Zf6 d.futures x≠Zf6 d.futures y:=by
 obtain⟨i,f,h1,h2,rfl⟩:=hx
 obtain⟨j,e,h3,h4,rfl⟩:=hy
 intro he
 unfold Zf6 at he
 rw[Int.toNat_natCast,Int.toNat_natCast,h1,h3] at he
 simp only at he
 rcases Nat.lt_trichotomy i j with h | h | h
 ·exact g.ne i j f e h h1 h3 ⟨h2.trans h4.symm,he⟩
 ·exact hne (by rw[h])
 ·exact g.ne j i e f h h3 h1 ⟨h4.trans h2.symm,he.symm⟩
theorem Zv6 {d:Zn} (g:ZlC d):Zqq (fun z0 z1=>Zw z0 z1 d.futures) (fun x y=>Zf6 d.futures x-Zf6 d.futures y) (fun z=>0≤z∧z.toNat<d.futures.length):=by
 intro x y hx hy
 have b:∀z:Int,z.toNat<d.futures.length→∃f,d.futures[z.toNat]? = some f∧Zf6 d.futures z=f.pos∧1≤f.pos∧f.pos≤100:=fun z hz=>by
  have hm:=List.getElem_mem hz
  have:=g.f _ hm
  have hw:=ZlY g d.futures[z.toNat].user
  exact⟨d.futures[z.toNat],List.getElem?_eq_getElem hz,by unfold Zf6;rw[List.getElem?_eq_getElem hz],this.2.1,by omega⟩
 obtain⟨f,f1,f2,f3,f4⟩:=b x hx.2
 obtain⟨e,e1,e2,e3,e4⟩:=b y hy.2
 show Zw x y d.futures=some (Zf6 d.futures x-Zf6 d.futures y)
 unfold Zw
 rw[Zr0 hx.1 f1,Zr0 hy.1 e1]
 simp only[Option.bind_some]
 rw[f2,e2,Zep (by omega) (by omega)]
theorem Zzc (k:Int→Int):SWO (ltC fun x y=>k x-k y):=by
 refine⟨fun x=>?_,fun x y z h1 h2=>?_,fun x y z h1 h2=>?_⟩
 ·show decide (k x-k x<0)=false
  exact decide_eq_false (by omega)
 ·simp only[ltC,decide_eq_true_eq] at *
  omega
 ·simp only[ltC,decide_eq_false_iff_not] at *
  omega
theorem Zvv (d:Zn) (h:Zlv d) (hf:d.futures.length≤1000) (hc:Zeb d=0) (u:Int):∃r,Zd7 d u=some r∧ZhD d u r:=by
 have g:=ZrA hc
 have key:=ZxZ d.futures hf (fun f:Zk=>f.user==u) (fun i _=>(i:Int)) (Zeh d u) (fun i x s hi hx=>by
   simp only[Zeh,Zg5 hi,Zci hx,Option.bind_some,ZaW hi h.f,cond_true]) (fun s=>by simp only[Zeh,ZhX];rfl) [] (by simp)
 have hP:∀x∈ZoD d u,0≤x∧x.toNat<d.futures.length:=fun x hx=>by
  obtain⟨i,f,h1,h2,rfl⟩:=(ZlI d u x).1 hx
  have:=(List.getElem?_eq_some_iff.1 h1).1
  exact⟨by omega,by simpa using this⟩
 have hlen:(ZoD d u).length≤1000:=by
  unfold ZoD
  rw[Znz]
  exact Nat.le_trans List.countP_le_length hf
 obtain⟨r,h1,h2,h3⟩:=ZxW (Zv6 g) (Zzc _) (ZoD d u) hlen hP
 refine⟨r,?_,?_,?_⟩
 ·unfold Zd7
  rw[Zul d h,hc]
  simp only[Option.bind_some,bne_self_eq_false,cond_false]
  rw[key,List.nil_append,Option.bind_some]
  show(ZaN (fun z0 z1=>Zw z0 z1 d.futures) (ZoD d u)).bind _=_
  rw[h1]
  rfl
 ·exact fun z=>by rw[h2.mem_iff,ZlI]
 ·have nd:r.Pairwise (fun x y=>x≠y):=(h2.pairwise_iff (fun h=>Ne.symm h)).2 ((ZpO d u).imp fun h=>by omega)
  refine Zsd (h3.and nd) fun x y hx hy hp=>?_
  have a:=(ZlI d u x).1 (h2.mem_iff.1 hx)
  have b:=(ZlI d u y).1 (h2.mem_iff.1 hy)
  have h4:=Zyj g a b hp.2
  have h5:=hp.1
  simp only[ltC,decide_eq_false_iff_not] at h5
  omega
theorem Zqs {d:Zn}{u:Int}{r:List Int} (h:ZhD d u r):r.length=(ZoD d u).length:=by
 have nd1:r.Nodup:=h.rise.imp fun hp he=>by rw[he] at hp;omega
 have nd2:(ZoD d u).Nodup:=(ZpO d u).imp fun hp he=>by omega
 exact((List.perm_ext_iff_of_nodup nd1 nd2).2 fun z=>by rw[h.mem,ZlI]).length_eq
theorem ZsV {d:Zn}{u:Int}{r:List Int} (h:ZhD d u r):r.length≤d.futures.length:=by
 rw[Zqs h]
 unfold ZoD
 rw[Znz]
 exact List.countP_le_length
theorem ZvI {γ:Type} (p:γ→Bool) (g:Nat→γ→Int) (l:List γ) (i:Nat):(sel p g i l).length≤l.length:=by rw[Znz];exact List.countP_le_length
end Go.Proofs.YtljgncbdagmeeaaDoor
namespace Go.Proofs.YtljgncbdagmeeaaDoor
open Go Go.Proofs.YtljgncbdagmeeaaDoorE
set_option linter.unusedVariables false
set_option linter.unusedSimpArgs false
structure Zdu (d:Zn):Prop where
 g:ZlC d
 ins:∀b∈d.barriers,∀q∈b.ins,0≤q∧q.toNat<d.parts.length
 outs:∀b∈d.barriers,∀q∈b.outs,0≤q∧q.toNat<d.parts.length
 disj:∀b∈d.barriers,∀q∈b.ins,q∉b.outs
 pl:d.parts.length≤16
 el:d.edges.length≤48
 fl:d.futures.length≤16
 bl:d.barriers.length≤4
 p1:1≤d.parts.length
 arg:∀p∈d.parts,0≤p.arg∧p.arg≤2147483647
theorem Zwh {n:Nat}{l:List Int} (h:Zld n l=true):∀q∈l,0≤q∧q.toNat<n:=by
 intro q hq
 unfold Zld at h
 simp only[Bool.and_eq_true,Bool.not_eq_true'] at h
 obtain⟨i,hi⟩:=List.getElem?_of_mem hq
 have:Znj n l i q=false:=by
  cases hb:Znj n l i q with
  | false=>rfl
  | true=>rw[(Zhk _ _ 0).2 ⟨i,q,hi,by simpa using hb⟩] at h;exact absurd h.1 (by simp)
 unfold Znj ZdS at this
 simp only[Bool.or_eq_false_iff,Bool.not_eq_false',Bool.and_eq_true,decide_eq_true_eq] at this
 omega
theorem Zki {d:Zn} (h:Zeb d=0):Zdu d:=by
 have g:=ZrA h
 unfold Zeb at h
 have all:ZiB d=true∧d.barriers.any (Zeo d.parts.length)=false∧d.parts.any ZgA=false:=by
  revert h
  cases ZiB d<;>cases ZkZ d<;>cases d.parts.any ZgA<;>cases Zgw (ZdI d) 0 d.edges<;>cases Zgw (ZdF d) 0 d.futures<;>cases d.barriers.any (Zeo d.parts.length)<;>simp
 have hb:∀b∈d.barriers,Zld d.parts.length b.ins=true∧Zld d.parts.length b.outs=true∧b.ins.any (Zp4 b)=false:=fun b hb=>by
  have:=List.any_eq_false.1 all.2.1 b hb
  simp only[Zeo,Bool.or_eq_true,Bool.not_eq_true',not_or,Bool.not_eq_false,Bool.not_eq_true] at this
  exact this
 have m:=all.1
 unfold ZiB ZdS at m
 simp only[Bool.and_eq_true,decide_eq_true_eq,Bool.not_eq_true',decide_eq_false_iff_not] at m
 refine⟨g,fun b h1=>Zwh (hb b h1).1,fun b h1=>Zwh (hb b h1).2.1,fun b h1 q h2 h3=>?_,by omega,by omega,by omega,by omega,by omega,fun p hp=>?_⟩
 case refine_2=>
  have:=List.any_eq_false.1 all.2.2 p hp
  simp only[ZgA,ZdS,Bool.not_eq_true,Bool.not_eq_false',Bool.and_eq_true,decide_eq_true_eq] at this
  exact this.2.1
 have:=List.any_eq_false.1 (hb b h1).2.2 q h2
 unfold Zp4 at this
 exact this (List.any_eq_true.2 ⟨q,h3,by simp⟩)
def inR (d:Zn) (p:Int):Prop:=0≤p∧p.toNat<d.parts.length
theorem Zdu.src {d:Zn} (g:Zdu d) {e:Zo} (h:e∈d.edges):inR d e.src:=(Zlz (g.g.e e h)).1
theorem Zdu.dst {d:Zn} (g:Zdu d) {e:Zo} (h:e∈d.edges):inR d e.dst:=(Zlz (g.g.e e h)).2.1
theorem Zdu.maker {d:Zn} (g:Zdu d) {f:Zk} (h:f∈d.futures):inR d f.maker:=(Zlz (g.g.f f h).1).1
theorem Zdu.user {d:Zn} (g:Zdu d) {f:Zk} (h:f∈d.futures):inR d f.user:=(Zlz (g.g.f f h).1).2.1
theorem Zdu.short {d:Zn} (g:Zdu d) (hs:∀b∈d.barriers,ZzL b):Zlv d:=⟨by have:=g.pl;omega,by have:=g.el;omega,by have:=g.fl;omega,by have:=g.bl;omega,hs⟩
end Go.Proofs.YtljgncbdagmeeaaDoor
namespace Go.Proofs.YtljgncbdagmeeaaDoor
open Go Go.Proofs.YtljgncbdagmeeaaDoorE
set_option linter.unusedVariables false
set_option linter.unusedSimpArgs false
def Zhe (n:Nat) (x:Int):Bool:=decide (0≤x)&&decide (x<(n:Int))
end Go.Proofs.YtljgncbdagmeeaaDoor
namespace Go.Proofs.YtljgncbdagmeeaaDoor
open Go Go.Proofs.YtljgncbdagmeeaaDoorE
set_option linter.unusedVariables false
set_option linter.unusedSimpArgs false
theorem ZwD {γ:Type} (p:γ→Bool):∀(l:List γ) (i:Nat),(sel p (fun i _=>(i:Int)) i l).Pairwise (fun x y=>x<y)∧∀z∈sel p (fun i _=>(i:Int)) i l,(i:Int)≤z:=by
 intro l
 induction l with
 | nil=>intro i;simp[sel]
 | cons x l ih=>
  intro i
  obtain⟨h1,h2⟩:=ih (i+1)
  unfold sel
  cases p x with
  | true=>
   simp only[cond_true,List.pairwise_cons,List.mem_cons]
   refine⟨⟨fun z hz=>?_,h1⟩,?_⟩
   ·have:=h2 z hz;omega
   ·rintro z (rfl | hz)
    ·exact Int.le_refl _
    ·have:=h2 z hz;omega
  | false=>
   simp only[cond_false]
   exact⟨h1,fun z hz=>by have:=h2 z hz;omega⟩
def Znl (d:Zn) (u:Int) (t:Int):List Int:=sel (fun f:Zk=>f.user==u&&f.pos==t) (fun i _=>(i:Int)) 0 d.futures
theorem ZnR (d:Zn) (u t z:Int):z∈Znl d u t↔∃(i:Nat) (f:Zk),d.futures[i]? = some f∧f.user=u∧f.pos=t∧z=(i:Int):=by
 unfold Znl
 rw[ZoJ]
 simp[and_assoc]
theorem ZlW {d:Zn}{u t z:Int} (h:z∈Znl d u t):Zf6 d.futures z=t:=by
 obtain⟨i,f,h1,_,h3,rfl⟩:=(ZnR d u t z).1 h
 unfold Zf6
 rw[Int.toNat_natCast,h1,← h3]
theorem ZpB {d:Zn}{u t z:Int} (h:z∈Znl d u t):∃(i:Nat) (f:Zk),d.futures[i]? = some f∧f.user=u∧z=(i:Int):=by
 obtain⟨i,f,h1,h2,_,h4⟩:=(ZnR d u t z).1 h
 exact⟨i,f,h1,h2,h4⟩
def tl (d:Zn) (u:Int):Nat→Nat→List Int
 | _,0=>[]
 | i,k+1=>Znl d u ((i+1:Nat):Int)++tl d u (i+1) k
theorem ZtG (d:Zn) (u z:Int):∀(k i:Nat),z∈tl d u i k↔∃t:Nat,i<t∧t≤i+k∧z∈Znl d u (t:Int)
 | 0,i=>by
  unfold tl
  constructor
  ·intro h;cases h
  ·rintro ⟨t,h1,h2,_⟩;omega
 | k+1,i=>by
  unfold tl
  rw[List.mem_append,ZtG d u z k (i+1)]
  constructor
  ·rintro (h | ⟨t,h1,h2,h3⟩)
   ·exact⟨i+1,by omega,by omega,h⟩
   ·exact⟨t,by omega,by omega,h3⟩
  ·rintro ⟨t,h1,h2,h3⟩
   by_cases h:t=i+1
   ·subst h;exact .inl h3
   ·exact .inr ⟨t,by omega,by omega,h3⟩
theorem Zvi {d:Zn} (g:ZlC d) (u:Int):∀(k i:Nat),(tl d u i k).Pairwise (fun x y=>Zf6 d.futures x<Zf6 d.futures y)
 | 0,i=>List.Pairwise.nil
 | k+1,i=>by
  unfold tl
  rw[List.pairwise_append]
  refine⟨?_,Zvi g u k (i+1),fun x hx y hy=>?_⟩
  ·refine Zsd (ZwD _ _ _).1 fun x y hx hy hlt=>?_
   have hx':x∈Znl d u ((i+1:Nat):Int):=hx
   have hy':y∈Znl d u ((i+1:Nat):Int):=hy
   exact absurd ((ZlW hx').trans (ZlW hy').symm) (Zyj g (ZpB hx') (ZpB hy') (by omega))
  ·obtain⟨t,h1,h2,h3⟩:=(ZtG d u y k (i+1)).1 hy
   rw[ZlW hx,ZlW h3]
   omega
theorem ZtZ {d:Zn} (g:ZlC d) (u:Int):ZhD d u (tl d u 0 99):=by
 refine⟨fun z=>?_,Zvi g u 99 0⟩
 rw[ZtG]
 constructor
 ·rintro ⟨t,_,_,h⟩;exact ZpB h
 ·rintro ⟨i,f,h1,h2,h3⟩
  have hf:=g.f f (List.mem_of_getElem? h1)
  have hw:=ZlY g f.user
  refine⟨f.pos.toNat,by omega,by omega,?_⟩
  rw[ZnR]
  exact⟨i,f,h1,h2,by omega,h3⟩
end Go.Proofs.YtljgncbdagmeeaaDoor
namespace Go.Proofs.YtljgncbdagmeeaaDoor
open Go Go.Proofs.YtljgncbdagmeeaaDoorE
set_option linter.unusedVariables false
set_option linter.unusedSimpArgs false
def Zov {γ S:Type} (f:Nat→S→γ→S):Nat→S→List γ→S
 | _,s,[]=>s
 | i,s,x :: l=>Zov f (i+1) (f i s x) l
theorem ZwP {γ S T R:Type} (l:List γ) (step:T→Option (T⊕R)) (st:Nat→S→T) (f:Nat→S→γ→S) (fin:S→R) (I:Nat→S→Prop)
  (h1:∀i x s,i<l.length→l[i]? = some x→I i s→step (st i s)=some (.inl (st (i+1) (f i s x)))∧I (i+1) (f i s x))
  (h2:∀s,I l.length s→step (st l.length s)=some (.inr (fin s))) (s:S) (h0:I 0 s) :
  lp step (st 0 s)=some (fin (Zov f 0 s l))∧I l.length (Zov f 0 s l):=by
 have key:∀(k i:Nat) (s:S),i+k=l.length→I i s→lp step (st i s)=some (fin (Zov f i s (l.drop i)))∧I l.length (Zov f i s (l.drop i)):=by
  intro k
  induction k with
  | zero=>
   intro i s hi hI
   have:i=l.length:=by omega
   subst this
   rw[List.drop_length,Zcn,h2 s hI]
   exact⟨rfl,hI⟩
  | succ k ih=>
   intro i s hi hI
   have hi':i<l.length:=by omega
   obtain⟨e,hI'⟩:=h1 i l[i] s hi' (List.getElem?_eq_getElem hi') hI
   rw[List.drop_eq_getElem_cons hi',Zcn,e]
   exact ih (i+1) _ (by omega) hI'
 have:=key l.length 0 s (by omega) h0
 rwa [List.drop_zero] at this
def ZhL (w:Int):Bool:=decide (w<0) || decide (1000<w)
def ZmB (g:ZbR) (i:Nat) (e:Zo):Bool:=!(Zhe g.work.length e.src) || (!(Zhe g.work.length e.dst) || ((e.src==e.dst) || (g.edges.take i).any (Zj8 e)))
def Zj0 (g:ZbR):Int:=bif decide (64<(g.work.length:Int)) || decide (256<(g.edges.length:Int)) then 40 else bif g.work.any ZhL then 41 else bif Zgw (ZmB g) 0 g.edges then 42 else 0
structure ZrS (g:ZbR):Prop where
 w:g.work.length<9223372036854775808
 e:g.edges.length<9223372036854775808
theorem Zwq (w:Int):ZdY w=some (ZhL w):=by
 unfold ZdY ZhL
 cases decide (w<0)<;>cases decide (1000<w)<;>rfl
theorem Zx9 (a:Int) (l:List Int):Zgm a l=some (Zhe l.length a):=by
 unfold Zgm Zhe
 cases decide (0≤a)<;>cases decide (a<(l.length:Int))<;>rfl
theorem Zto (g:ZbR) (h:ZrS g):lp (Zfd g) 0=some (bif Zgw (ZmB g) 0 g.edges then .inl () else .inr ()):=by
 have key:=Zhs g.edges (Zfd g) (ZmB g) (fun _ _=>.inl ()) (.inr ()) (fun i x hi hx=>by
   have e0:decide ((0:Int)≤(i:Int))=true:=decide_eq_true (by omega)
   have e1:Nat.ble i g.edges.length=true:=Nat.ble_eq_true_of_le (by omega)
   simp only[Zfd,Zg5 hi,Zci hx,Option.bind_some,ZaW hi h.e,cond_true,Zx9,ZmB,e0,Int.toNat_natCast,e1,Zra _ x (ZmJ h.e)]
   cases Zhe g.work.length x.src<;>cases Zhe g.work.length x.dst<;>cases (x.src==x.dst)<;>cases (g.edges.take i).any (Zj8 x)<;>rfl) (by simp only[Zfd,ZhX];rfl)
 rw[key,ZfE]
inductive Way (g:ZbR):Int→Int→Prop
 | one {e:Zo}:e∈g.edges→Way g e.src e.dst
 | more {a:Int} {e:Zo}:Way g a e.src→e∈g.edges→Way g a e.dst
theorem Way.trans {g:ZbR}{a b c:Int} (h1:Way g a b) (h2:Way g b c):Way g a c:=by
 induction h2 with
 | one he=>exact Way.more h1 he
 | more _ he ih=>exact Way.more (ih h1) he
def Zmx (g:ZbR):Prop:=∀a,¬Way g a a
structure ZiJ (g:ZbR):Prop where
 wl:g.work.length≤64
 el:g.edges.length≤256
 w:∀x∈g.work,0≤x∧x≤1000
 src:∀e∈g.edges,0≤e.src∧e.src.toNat<g.work.length
 dst:∀e∈g.edges,0≤e.dst∧e.dst.toNat<g.work.length
theorem ZiJ.short {g:ZbR} (h:ZiJ g):ZrS g:=⟨by have:=h.wl;omega,by have:=h.el;omega⟩
theorem ZqQ {n:Nat}{a:Int} (h:Zhe n a=true):0≤a∧a.toNat<n:=by
 unfold Zhe at h
 simp only[Bool.and_eq_true,decide_eq_true_eq] at h
 omega
theorem Zsj {g:ZbR} (h:Zj0 g=0):ZiJ g:=by
 unfold Zj0 at h
 cases h1:decide (64<(g.work.length:Int)) with
 | true=>rw[h1] at h;simp at h
 | false=>
 cases h2:decide (256<(g.edges.length:Int)) with
 | true=>rw[h1,h2] at h;simp at h
 | false=>
 cases h3:g.work.any ZhL with
 | true=>rw[h1,h2,h3] at h;simp at h
 | false=>
 cases h4:Zgw (ZmB g) 0 g.edges with
 | true=>rw[h1,h2,h3,h4] at h;simp at h
 | false=>
 have hE:∀e∈g.edges,∃i,ZmB g i e=false:=fun e he=>by
  obtain⟨i,hi⟩:=List.getElem?_of_mem he
  refine⟨i,?_⟩
  cases hb:ZmB g i e with
  | false=>rfl
  | true=>rw[(Zhk _ _ 0).2 ⟨i,e,hi,by simpa using hb⟩] at h4;cases h4
 refine⟨by have:=of_decide_eq_false h1;omega,by have:=of_decide_eq_false h2;omega,fun x hx=>?_,fun e he=>?_,fun e he=>?_⟩
 ·have:=List.any_eq_false.1 h3 x hx
  unfold ZhL at this
  simp only[Bool.or_eq_true,decide_eq_true_eq,not_or] at this
  omega
 ·obtain⟨i,hi⟩:=hE e he
  unfold ZmB at hi
  simp only[Bool.or_eq_false_iff,Bool.not_eq_false'] at hi
  exact ZqQ hi.1
 ·obtain⟨i,hi⟩:=hE e he
  unfold ZmB at hi
  simp only[Bool.or_eq_false_iff,Bool.not_eq_false'] at hi
  exact ZqQ hi.2.1
theorem Way.dst_in {g:ZbR} (h:ZiJ g) {a b:Int} (w:Way g a b):0≤b∧b.toNat<g.work.length:=by
 cases w with
 | one he=>exact h.dst _ he
 | more _ he=>exact h.dst _ he
theorem Way.src_in {g:ZbR} (h:ZiJ g) {a b:Int} (w:Way g a b):0≤a∧a.toNat<g.work.length:=by
 induction w with
 | one he=>exact h.src _ he
 | more _ _ ih=>exact ih
theorem Zxr {g:ZbR} (hg:Zmx g):∀(n:Nat) (S:List Int),S.length≤n→S≠[]→∃m∈S,∀e∈g.edges,e.dst=m→e.src∉S:=by
 intro n
 induction n with
 | zero=>intro S h1 h2;exact absurd (List.length_eq_zero_iff.1 (by omega)) h2
 | succ n ih=>
  intro S h1 h2
  obtain⟨m,hm⟩:=List.exists_mem_of_ne_nil S h2
  classical
  by_cases hS:(S.filter fun x=>decide (Way g x m))=[]
  ·refine⟨m,hm,fun e he hd hs=>?_⟩
   have:e.src∈S.filter fun x=>decide (Way g x m):=List.mem_filter.2 ⟨hs,decide_eq_true (hd ▸ Way.one he)⟩
   rw[hS] at this
   cases this
  ·have hlt:(S.filter fun x=>decide (Way g x m)).length<S.length:=by
    refine Nat.lt_of_le_of_ne (List.length_filter_le _ _) fun he=>?_
    have:=List.length_filter_eq_length_iff.1 he m hm
    exact hg m (of_decide_eq_true this)
   obtain⟨k,hk,hk2⟩:=ih _ (by omega) hS
   obtain⟨k1,k2⟩:=List.mem_filter.1 hk
   refine⟨k,k1,fun e he hd hs=>hk2 e he hd (List.mem_filter.2 ⟨hs,decide_eq_true ?_⟩)⟩
   exact(hd ▸ Way.one he:Way g e.src k).trans (of_decide_eq_true k2)
def bAt (l:List Bool) (z:Int):Bool:=match l[z.toNat]? with | some b=>b | none=>false
def Zoe (g:ZbR) (done:List Bool) (i:Nat):Bool:=!(bAt done (i:Int)) && !(g.edges.any fun e=>(e.dst==(i:Int)) && !(bAt done e.src))
def Zok (g:ZbR) (done:List Bool):Option Nat:=ZiZ (fun i _=>Zoe g done i) (fun i _=>some i) none 0 g.work
def ZnK (g:ZbR):Nat→List Int→List Bool→Option (List Int)
 | 0,out,_=>some out
 | k+1,out,done=>(match Zok g done with | some i=>ZnK g k (out++[(i:Int)]) (done.set i true) | none=>none)
theorem ZsB {γ R S:Type} (p:Nat→γ→Bool) (out:Nat→γ→R) (fin:R) (F:R→S):∀(l:List γ) (i:Nat),F (ZiZ p out fin i l)=ZiZ p (fun i x=>F (out i x)) (F fin) i l
 | [],i=>rfl
 | x :: l,i=>by
  unfold ZiZ
  cases p i x with
  | true=>rfl
  | false=>exact ZsB p out fin F l (i+1)
theorem Zq8 {γ:Type} (p:Nat→γ→Bool):∀(l:List γ) (i k:Nat),ZiZ p (fun i _=>some i) none i l=some k→i≤k∧k<i+l.length∧∃x,l[k-i]? = some x∧p k x=true
 | [],i,k,h=>by cases h
 | x :: l,i,k,h=>by
  unfold ZiZ at h
  cases hp:p i x with
  | true=>
   rw[hp] at h
   cases h
   exact⟨Nat.le_refl _,by simp,x,by simp,hp⟩
  | false=>
   rw[hp] at h
   obtain⟨h1,h2,y,h3,h4⟩:=Zq8 p l (i+1) k h
   refine⟨by omega,by simp only[List.length_cons];omega,y,?_,h4⟩
   rw[show k-i=(k-(i+1))+1 by omega]
   exact h3
theorem ZqE {γ:Type} (p:Nat→γ→Bool):∀(l:List γ) (i:Nat),ZiZ p (fun i _=>some i) none i l=none→∀(j:Nat) x,l[j]? = some x→p (i+j) x=false
 | [],i,h,j,x,hx=>by cases hx
 | y :: l,i,h,j,x,hx=>by
  unfold ZiZ at h
  cases hp:p i y with
  | true=>rw[hp] at h;cases h
  | false=>
   rw[hp] at h
   cases j with
   | zero=>cases hx;exact hp
   | succ j=>
    have:=ZqE p l (i+1) h j x hx
    rwa [show i+1+j=i+(j+1) by omega] at this
theorem ZuS {g:ZbR}{done:List Bool} (hd:done.length=g.work.length) {z:Int} (h:0≤z∧z.toNat<g.work.length):ZA done z=some (bAt done z):=by
 have e:=List.getElem?_eq_getElem (show z.toNat<done.length by rw[hd];exact h.2)
 rw[Zr0 h.1 e]
 unfold bAt
 rw[e]
theorem ZAI {g:ZbR} (h:ZiJ g) (out:List Int) (ho:out.length<g.work.length) (done:List Bool) (hd:done.length=g.work.length) :
  lp (ZeX g (out,done)) 0=some (match Zok g done with | some i=>.inl (out++[(i:Int)],done.set i true) | none=>.inr ()):=by
 have key:=Zhs g.work (ZeX g (out,done)) (fun i _=>Zoe g done i) (fun i _=>.inl (out++[(i:Int)],done.set i true)) (.inr ()) (fun i x hi hx=>by
   have inner:=Zhs g.edges (Zf0 g (out,done) (i:Int)) (fun _ e=>(e.dst==(i:Int)) && !(bAt done e.src)) (fun _ _=>.inl ()) (.inr ()) (fun k e hk he=>by
     simp only[Zf0,Zg5 hk,Zci he,Option.bind_some,ZaW hk h.short.e,cond_true,ZuS hd (h.src e (List.mem_of_getElem? he))]
     cases (e.dst==(i:Int))<;>cases bAt done e.src<;>rfl) (by simp only[Zf0,ZhX];rfl)
   rw[ZfE,Zj9] at inner
   have hl:=h.wl
   simp only[ZeX,Zg5 hi,ZuS hd (z:=(i:Int)) ⟨by omega,by simpa using hi⟩,Option.bind_some,ZaW hi h.short.w,cond_true,inner,Zjf (show out.length+1≤1073741824 by omega),Int.toNat_natCast,Zoe]
   cases bAt done (i:Int)<;>cases g.edges.any (fun e=>(e.dst==(i:Int)) && !(bAt done e.src))<;>rfl) (by simp only[ZeX,ZhX];rfl)
 rw[key]
 unfold Zok
 exact congrArg some (ZsB (fun i _=>Zoe g done i) (fun i _=>some i) none (fun o:Option Nat=>(match o with | some i=>(.inl (out++[(i:Int)],done.set i true):(List Int×List Bool)⊕Unit) | none=>.inr ())) g.work 0).symm
theorem Zvf {g:ZbR} (h:ZiJ g):∀(k:Nat) (out:List Int) (done:List Bool),out.length+k=g.work.length→done.length=g.work.length →
  ∃r,lp (Zf2 g) (out,done)=some r∧(match ZnK g k out done with | some l=>r = .inr l | none=>∃l,r = .inl l)
 | 0,out,done,h1,h2=>by
  rw[Zcn]
  simp only[Zf2,show out.length=g.work.length by omega,ZhX,cond_false]
  exact⟨_,rfl,rfl⟩
 | k+1,out,done,h1,h2=>by
  rw[Zcn]
  simp only[Zf2,Zg5 (show out.length<g.work.length by omega),cond_true,ZAI h out (by omega) done h2,Option.bind_some]
  unfold ZnK
  cases Zok g done with
  | none=>exact⟨_,rfl,_,rfl⟩
  | some i=>exact Zvf h k (out++[(i:Int)]) (done.set i true) (by rw[List.length_append];simp only[List.length_cons,List.length_nil];omega) (by rw[List.length_set];exact h2)
theorem Zu7 {g:ZbR} (h:ZiJ g):Zf4 g=some (match ZnK g g.work.length [] (List.replicate g.work.length false) with | some l=>(l,true) | none=>([],false)):=by
 obtain⟨r,e,hr⟩:=Zvf h g.work.length [] (List.replicate g.work.length false) (by simp) (by simp)
 have hl:=h.wl
 unfold Zf4
 rw[decide_eq_true (show(0:Int)≤(g.work.length:Int) by omega),decide_eq_true (show(g.work.length:Int)≤lim by show(g.work.length:Int)≤1073741824;omega),beq_self_eq_true]
 simp only[decide_true,Bool.and_true,cond_true,Int.toNat_natCast,e,Option.bind_some]
 cases ho:ZnK g g.work.length [] (List.replicate g.work.length false) with
 | some l=>rw[ho] at hr;simp only at hr;subst hr;rfl
 | none=>rw[ho] at hr;obtain⟨l,rfl⟩:=hr;rfl
structure ZgX (g:ZbR) (out:List Int) (done:List Bool):Prop where
 dl:done.length=g.work.length
 mem:∀i:Nat,bAt done (i:Int)=true↔(i:Int)∈out
 inn:∀z∈out,0≤z∧z.toNat<g.work.length
 nod:out.Nodup
 topo:∀(i:Nat) (n:Int),out[i]? = some n→∀e∈g.edges,e.dst=n→∃j,j<i∧out[j]? = some e.src
theorem Zzx {done:List Bool}{i:Nat} (hi:i<done.length) (z:Int) (hz:0≤z):bAt (done.set i true) z=(decide (z=(i:Int)) || bAt done z):=by
 unfold bAt
 rw[List.getElem?_set]
 by_cases h:i=z.toNat
 ·subst h
  rw[if_pos rfl,if_pos hi,decide_eq_true (show z=((z.toNat:Nat):Int) by omega)];rfl
 ·rw[if_neg h,decide_eq_false (show ¬z=(i:Int) by omega)];rfl
theorem ZgX.start (g:ZbR):ZgX g [] (List.replicate g.work.length false):=by
 refine⟨by simp,fun i=>?_,by simp,by simp,by simp⟩
 unfold bAt
 rw[List.getElem?_replicate]
 by_cases h:((i:Int)).toNat<g.work.length
 ·rw[if_pos h];simp
 ·rw[if_neg h];simp
theorem ZgX.next {g:ZbR} (h:ZiJ g) {out:List Int}{done:List Bool} (o:ZgX g out done) {i:Nat} (hn:Zok g done=some i):ZgX g (out++[(i:Int)]) (done.set i true):=by
 obtain⟨_,hi,x,_,hp⟩:=Zq8 _ _ _ _ hn
 rw[Nat.zero_add] at hi
 unfold Zoe at hp
 simp only[Bool.and_eq_true,Bool.not_eq_true',List.any_eq_false,Bool.not_eq_true] at hp
 have hid:i<done.length:=by rw[o.dl];exact hi
 have hnot:(i:Int)∉out:=fun hm=>by have:=(o.mem i).2 hm;rw[hp.1] at this;cases this
 refine⟨by rw[List.length_set];exact o.dl,fun j=>?_,fun z hz=>?_,?_,fun k n hk e he hd=>?_⟩
 ·rw[Zzx hid (j:Int) (by omega),Bool.or_eq_true,decide_eq_true_eq,o.mem,List.mem_append,List.mem_singleton]
  exact Or.comm
 ·rcases List.mem_append.1 hz with hz | hz
  ·exact o.inn z hz
  ·rw[List.mem_singleton] at hz;subst hz;exact⟨by omega,by simpa using hi⟩
 ·rw[List.nodup_append]
  refine⟨o.nod,by simp,fun a ha b hb=>?_⟩
  rw[List.mem_singleton] at hb
  subst hb
  exact fun hab=>hnot (hab ▸ ha)
 ·rcases Nat.lt_or_ge k out.length with hk2 | hk2
  ·rw[List.getElem?_append_left hk2] at hk
   obtain⟨j,h1,h2⟩:=o.topo k n hk e he hd
   exact⟨j,h1,by rw[List.getElem?_append_left (by omega)];exact h2⟩
  ·rw[List.getElem?_append_right hk2] at hk
   have hk0:k-out.length=0:=by
    rcases Nat.eq_zero_or_pos (k-out.length) with h0 | h0
    ·exact h0
    ·rw[List.getElem?_eq_none (by simp only[List.length_cons,List.length_nil];omega)] at hk;cases hk
   rw[hk0] at hk
   simp only[List.getElem?_cons_zero,Option.some.injEq] at hk
   subst hk
   have hs:=hp.2 e he
   rw[hd] at hs
   have hs:bAt done e.src=true:=by simpa using hs
   have hsr:=h.src e he
   have:=(o.mem e.src.toNat).1 (by rw[show((e.src.toNat:Nat):Int)=e.src by omega];exact hs)
   rw[show((e.src.toNat:Nat):Int)=e.src by omega] at this
   obtain⟨j,hj⟩:=List.getElem?_of_mem this
   have hjl:=(List.getElem?_eq_some_iff.1 hj).1
   exact⟨j,by omega,by rw[List.getElem?_append_left hjl];exact hj⟩
theorem ZgX.way {g:ZbR}{out:List Int}{done:List Bool} (o:ZgX g out done) {a b:Int} (w:Way g a b):∀j:Nat,out[j]? = some b→∃i,i<j∧out[i]? = some a:=by
 induction w with
 | one he=>intro j hj;exact o.topo j _ hj _ he rfl
 | more _ he ih=>
  intro j hj
  obtain⟨i,h1,h2⟩:=o.topo j _ hj _ he rfl
  obtain⟨k,h3,h4⟩:=ih i h2
  exact⟨k,by omega,h4⟩
theorem Zv5 {l:List Int} (h:l.Nodup) {i j:Nat}{a:Int} (h1:l[i]? = some a) (h2:l[j]? = some a):i=j:=by
 obtain⟨a1,a2⟩:=List.getElem?_eq_some_iff.1 h1
 obtain⟨b1,b2⟩:=List.getElem?_eq_some_iff.1 h2
 exact(List.getElem_inj h).1 (a2.trans b2.symm)
def Zyr (n:Nat) (done:List Bool):List Int:=((List.range n).filter fun i:Nat=>!bAt done (i:Int)).map fun i:Nat=>(i:Int)
theorem ZpH {n:Nat}{done:List Bool}{i:Nat} (h1:i<n) (h2:bAt done (i:Int)=false):(i:Int)∈Zyr n done:=
 List.mem_map.2 ⟨i,List.mem_filter.2 ⟨List.mem_range.2 h1,by rw[h2];rfl⟩,rfl⟩
theorem Zwd {g:ZbR} (h:ZiJ g) (hg:Zmx g) {out:List Int}{done:List Bool} (o:ZgX g out done) (i0:Nat) (hi0:i0<g.work.length) (hb:bAt done (i0:Int)=false):∃i,Zok g done=some i:=by
 cases hn:Zok g done with
 | some i=>exact⟨i,rfl⟩
 | none=>
  exfalso
  have hall:=ZqE _ _ _ hn
  obtain⟨m,hm,hm2⟩:=Zxr hg _ (Zyr g.work.length done) (Nat.le_refl _) (by
   intro he
   have:=ZpH hi0 hb
   rw[he] at this;cases this)
  obtain⟨k,hk,rfl⟩:=List.mem_map.1 hm
  obtain⟨hk1,hk2⟩:=List.mem_filter.1 hk
  rw[List.mem_range] at hk1
  have hr:=hall k g.work[k] (List.getElem?_eq_getElem hk1)
  rw[Nat.zero_add] at hr
  unfold Zoe at hr
  rw[hk2,Bool.true_and,Bool.not_eq_false',List.any_eq_true] at hr
  obtain⟨e,he,he2⟩:=hr
  simp only[Bool.and_eq_true,beq_iff_eq] at he2
  have hsr:=h.src e he
  refine hm2 e he he2.1 ?_
  have es:((e.src.toNat:Nat):Int)=e.src:=by omega
  rw[← es]
  exact ZpH hsr.2 (by rw[es];simpa using he2.2)
theorem ZrX {n:Nat}{out:List Int} (h1:out.Nodup) (h2:∀z∈out,0≤z∧z.toNat<n):(out.length≤n)∧(out.length=n→∀i:Nat,i<n→(i:Int)∈out):=by
 induction n generalizing out with
 | zero=>
  refine⟨?_,fun _ i hi=>absurd hi (by omega)⟩
  cases out with
  | nil=>simp
  | cons z l=>have:=h2 z (by simp);omega
 | succ n ih=>
  by_cases hm:(n:Int)∈out
  ·have e1:(out.erase (n:Int)).length=out.length-1:=List.length_erase_of_mem hm
   have pos:0<out.length:=List.length_pos_of_mem hm
   obtain⟨a,b⟩:=ih (out:=out.erase (n:Int)) (h1.erase _) (fun z hz=>by
    have hz2:=(List.Nodup.mem_erase_iff h1).1 hz
    have:=h2 z hz2.2
    have:=hz2.1
    omega)
   refine⟨by omega,fun hl i hi=>?_⟩
   by_cases hin:i=n
   ·subst hin;exact hm
   ·exact List.mem_of_mem_erase (b (by omega) i (by omega))
  ·obtain⟨a,b⟩:=ih (out:=out) h1 (fun z hz=>by
    have:=h2 z hz
    have:z≠(n:Int):=fun he=>hm (he ▸ hz)
    omega)
   exact⟨by omega,fun hl=>by omega⟩
theorem ZyB:∀(n:Nat) (out:List Int),(∀i:Nat,i<n→(i:Int)∈out)→n≤out.length
 | 0,out,h=>by omega
 | n+1,out,h=>by
  have hm:=h n (by omega)
  have e1:(out.erase (n:Int)).length=out.length-1:=List.length_erase_of_mem hm
  have pos:0<out.length:=List.length_pos_of_mem hm
  have:=ZyB n (out.erase (n:Int)) (fun i hi=>(List.mem_erase_of_ne (by omega)).2 (h i (by omega)))
  omega
theorem Zmu {g:ZbR} (h:ZiJ g):∀(k:Nat) (out:List Int) (done:List Bool),ZgX g out done→out.length+k=g.work.length→(∀l,ZnK g k out done=some l→∃done',ZgX g l done'∧l.length=g.work.length)∧(Zmx g→∃l,ZnK g k out done=some l)
 | 0,out,done,o,hl=>⟨fun l h=>by cases h;exact⟨done,o,by omega⟩,fun _=>⟨out,rfl⟩⟩
 | k+1,out,done,o,hl=>by
  unfold ZnK
  cases hn:Zok g done with
  | none=>
   refine⟨fun l h=>(by cases h),fun hg=>?_⟩
   exfalso
   have hex:∃i0,i0<g.work.length∧(i0:Int)∉out:=by
    apply Classical.byContradiction
    intro hc
    have hc2:∀i0,i0<g.work.length→(i0:Int)∈out:=fun i0 hi=>Classical.byContradiction fun hx=>hc ⟨i0,hi,hx⟩
    have sub:=ZyB g.work.length out hc2
    omega
   obtain⟨i0,h1,h2⟩:=hex
   obtain⟨i,hi⟩:=Zwd h hg o i0 h1 (by
    cases hb:bAt done (i0:Int) with
    | false=>rfl
    | true=>exact absurd ((o.mem i0).1 hb) h2)
   rw[hn] at hi
   cases hi
  | some i=>
   exact Zmu h k _ _ (o.next h hn) (by rw[List.length_append];simp only[List.length_cons,List.length_nil];omega)
theorem ZyW {g:ZbR} (h:ZiJ g) {l:List Int}{done:List Bool} (o:ZgX g l done) (hl:l.length=g.work.length):Zmx g:=by
 intro a w
 have ha:=w.src_in h
 have hm:=(ZrX o.nod o.inn).2 hl a.toNat ha.2
 rw[show((a.toNat:Nat):Int)=a by omega] at hm
 obtain⟨j,hj⟩:=List.getElem?_of_mem hm
 obtain⟨i,h1,h2⟩:=o.way w j hj
 have:=Zv5 o.nod h2 hj
 omega
structure ZBX (g:ZbR) (l:List Int):Prop where
 len:l.length=g.work.length
 all:∀i:Nat,i<g.work.length→(i:Int)∈l
 inn:∀z∈l,0≤z∧z.toNat<g.work.length
 nod:l.Nodup
 topo:∀(i:Nat) (n:Int),l[i]? = some n→∀e∈g.edges,e.dst=n→∃j,j<i∧l[j]? = some e.src
theorem Zqw {g:ZbR} (h:ZiJ g) (hg:Zmx g):∃l,Zf4 g=some (l,true)∧ZBX g l:=by
 obtain⟨k1,k2⟩:=Zmu h g.work.length [] _ (ZgX.start g) (by simp)
 obtain⟨l,hl⟩:=k2 hg
 obtain⟨done,o,hn⟩:=k1 l hl
 exact⟨l,by rw[Zu7 h,hl],hn,(ZrX o.nod o.inn).2 hn,o.inn,o.nod,o.topo⟩
theorem ZyN {g:ZbR} (h:ZiJ g) (hg:¬Zmx g):Zf4 g=some ([],false):=by
 rw[Zu7 h]
 cases ho:ZnK g g.work.length [] (List.replicate g.work.length false) with
 | none=>rfl
 | some l=>
  obtain⟨done,o,hn⟩:=(Zmu h g.work.length [] _ (ZgX.start g) (by simp)).1 l ho
  exact absurd (ZyW h o hn) hg
noncomputable def ZwO (g:ZbR):Bool:=@decide (Zmx g) (Classical.propDecidable _)
theorem ZuV {g:ZbR} (h:Zmx g):ZwO g=true:=@decide_eq_true _ (Classical.propDecidable _) h
theorem Zrp {g:ZbR} (h:¬Zmx g):ZwO g=false:=@decide_eq_false _ (Classical.propDecidable _) h
noncomputable def Zib (g:ZbR):Int:=bif Zj0 g==0 then (bif ZwO g then 0 else 43) else Zj0 g
theorem Zn5 {g:ZbR} (h:Zib g=0):ZiJ g∧Zmx g:=by
 unfold Zib at h
 by_cases h0:Zj0 g=0
 ·rw[h0] at h
  refine⟨Zsj h0,Classical.byContradiction fun hn=>?_⟩
  rw[Zrp hn] at h
  simp at h
 ·rw[beq_false_of_ne h0] at h
  exact absurd h h0
theorem Zo4 (g:ZbR) (h:ZrS g):ZhE g=some (Zib g):=by
 have hw:=Zms g.work (fun z0=>ZdY z0) ZhL (fun x _=>Zwq x) h.w
 unfold ZhE Zib
 rw[hw,Zto g h]
 by_cases h0:Zj0 g=0
 ·have hG:=Zsj h0
  rw[h0]
  unfold Zj0 at h0
  by_cases hg:Zmx g
  ·obtain⟨l,e,_⟩:=Zqw hG hg
   rw[e,ZuV hg]
   revert h0
   cases decide (64<(g.work.length:Int))<;>cases decide (256<(g.edges.length:Int))<;>cases g.work.any ZhL<;>cases Zgw (ZmB g) 0 g.edges<;>simp
  ·rw[ZyN hG hg,Zrp hg]
   revert h0
   cases decide (64<(g.work.length:Int))<;>cases decide (256<(g.edges.length:Int))<;>cases g.work.any ZhL<;>cases Zgw (ZmB g) 0 g.edges<;>simp
 ·rw[beq_false_of_ne h0]
  unfold Zj0 at h0 ⊢
  revert h0
  cases decide (64<(g.work.length:Int))<;>cases decide (256<(g.edges.length:Int))<;>cases g.work.any ZhL<;>cases Zgw (ZmB g) 0 g.edges<;>simp
end Go.Proofs.YtljgncbdagmeeaaDoor
namespace Go.Proofs.YtljgncbdagmeeaaDoor
open Go Go.Proofs.YtljgncbdagmeeaaDoorE
set_option linter.unusedVariables false
set_option linter.unusedSimpArgs false
theorem Zjp {K W:Type} (eq:K→K→Bool) (k:K) (v:W):∀l:List (K×W),(∀q∈l,eq k q.1=false)→Zx eq l k v=l++[(k,v)]
 | [],_=>rfl
 | (a,u) :: r,h=>by
  unfold Zx
  rw[h (a,u) (by simp)]
  simp only[cond_false,List.cons_append]
  rw[Zjp eq k v r fun q hq=>h q (by simp[hq])]
theorem ZjW {K W:Type} (eq:K→K→Bool) (k:K) (z:W) (m:List (K×W)):∀l:List (K×W),(∀q∈l,eq k q.1=false)→ZaL eq (l++m) k z=ZaL eq m k z
 | [],_=>rfl
 | (a,u) :: r,h=>by
  rw[List.cons_append]
  conv=>lhs;unfold ZaL
  rw[h (a,u) (by simp)]
  exact ZjW eq k z m r fun q hq=>h q (by simp[hq])
theorem ZkC {K W:Type} (eq:K→K→Bool) (k:K) (z:W) (m:List (K×W)):∀l:List (K×W),(∃q∈l,eq k q.1=true)→ZaL eq (l++m) k z=ZaL eq l k z
 | [],h=>by obtain⟨q,hq,_⟩:=h;simp at hq
 | (a,u) :: r,h=>by
  rw[List.cons_append]
  unfold ZaL
  cases hb:eq k a with
  | true=>rfl
  | false=>
   simp only[cond_false]
   refine ZkC eq k z m r ?_
   obtain⟨q,hq,hk⟩:=h
   rcases List.mem_cons.1 hq with rfl | hq
   ·rw[hb] at hk;cases hk
   ·exact⟨q,hq,hk⟩
abbrev eqI:Int→Int→Bool:=fun ka kb:Int=>(ka==kb)
theorem Zot {K W:Type} (eq:K→K→Bool) (k:K) (v w:W) (hk:eq k k=true):∀l:List (K×W),(∀q∈l,eq k q.1=false)→Zx eq (l++[(k,v)]) k w=l++[(k,w)]
 | [],_=>by
  show(bif eq k k then _ else _)=_
  rw[hk];rfl
 | (a,u) :: r,h=>by
  rw[List.cons_append]
  unfold Zx
  rw[h (a,u) (by simp)]
  simp only[cond_false,List.cons_append]
  rw[Zot eq k v w hk r fun q hq=>h q (by simp[hq])]
theorem ZqR {K W:Type} (eq:K→K→Bool) (k:K) (z v:W) (hk:eq k k=true) (l m:List (K×W)) (h:∀q∈l,eq k q.1=false):ZaL eq (l++(k,v) :: m) k z=v:=by
 rw[ZjW eq k z _ l h]
 show(bif eq k k then _ else _)=_
 rw[hk];rfl
end Go.Proofs.YtljgncbdagmeeaaDoor
namespace Go.Proofs.YtljgncbdagmeeaaDoor
open Go Go.Proofs.YtljgncbdagmeeaaDoorE
set_option linter.unusedVariables false
set_option linter.unusedSimpArgs false
def tch (d:Zn) (n:Nat):List Int:=tl d (n:Int) 0 99
theorem ZmP {d:Zn} (g:ZlC d) (n:Nat):ZhD d (n:Int) (tch d n):=ZtZ g (n:Int)
theorem ZBs {d:Zn} (hs:Zlv d) (hf:d.futures.length≤1000) (hc:Zeb d=0) (n:Nat):Zd7 d (n:Int)=some (tch d n):=by
 obtain⟨r,h1,h2⟩:=Zvv d hs hf hc (n:Int)
 rw[h1,h2.eq (ZmP (ZrA hc) n)]
abbrev nt (d:Zn) (n:Nat):Nat:=(tch d n).length
theorem ZxP {d:Zn} (g:Zdu d) (n:Nat):nt d n≤16:=Nat.le_trans (ZsV (ZmP g.g n)) g.fl
def cut (d:Zn) (n i:Nat):Int:=if i=0 then 0 else match (tch d n)[i-1]? with | some z=>Zf6 d.futures z | none=>Zgx d.parts (n:Int)
def Zi7 (d:Zn) (n k:Nat):List Int:=(List.range k).map fun i=>cut d n (i+1)-cut d n i
def ZU (d:Zn):Nat→Nat
 | 0=>0
 | n+1=>ZU d n+(nt d n+1)
theorem Zi3 {d:Zn} (g:Zdu d):∀n,ZU d n≤17*n
 | 0=>Nat.le_refl _
 | n+1=>by have:=Zi3 g n;have:=ZxP g n;show ZU d n+(nt d n+1)≤_;omega
theorem Zkv {d:Zn}{n i:Nat} (g:ZlC d) (hi:i<nt d n):∃f,ZA (tch d n) (i:Int)=some (tch d n)[i]∧ZA d.futures (tch d n)[i]=some f∧d.futures[((tch d n)[i]).toNat]? = some f∧f.user=(n:Int)∧f.pos=cut d n (i+1)∧f∈d.futures:=by
 obtain⟨j,f,h1,h2,h3⟩:=(ZmP g n).mem _ |>.1 (List.getElem_mem hi)
 refine⟨f,Zci (List.getElem?_eq_getElem hi),?_,?_,h2,?_,List.mem_of_getElem? h1⟩
 ·rw[h3];exact Zci h1
 ·rw[h3,Int.toNat_natCast];exact h1
 ·unfold cut
  rw[if_neg (by omega),Nat.add_sub_cancel,List.getElem?_eq_getElem hi]
  show _=Zf6 d.futures (tch d n)[i]
  unfold Zf6
  rw[h3,Int.toNat_natCast,h1]
theorem Zui {d:Zn} (g:ZlC d) (n i:Nat):0≤cut d n i∧cut d n i≤100:=by
 unfold cut
 split
 ·omega
 ·have wb:0≤Zgx d.parts (n:Int)∧Zgx d.parts (n:Int)≤100:=by
   refine⟨?_,ZlY g _⟩
   unfold Zgx
   split
   ·rename_i p hp;have:=g.w p (List.mem_of_getElem? hp);omega
   ·omega
  split
  ·rename_i z hz
   obtain⟨j,f,h1,h2,h3⟩:=(ZmP g n).mem z |>.1 (List.mem_of_getElem? hz)
   have:=g.f f (List.mem_of_getElem? h1)
   have:=ZlY g f.user
   unfold Zf6
   rw[h3,Int.toNat_natCast,h1]
   show 0≤f.pos∧f.pos≤100
   omega
  ·exact wb
theorem ZuZ (d:Zn) (n:Nat):cut d n (nt d n+1)=Zgx d.parts (n:Int):=by
 unfold cut
 rw[if_neg (by omega),Nat.add_sub_cancel,List.getElem?_eq_none (Nat.le_refl _)]
theorem Zsi (d:Zn) (n k:Nat):Zi7 d n (k+1)=Zi7 d n k++[cut d n (k+1)-cut d n k]:=by unfold Zi7;rw[List.range_succ,List.map_append];rfl
theorem ZpX (d:Zn) (n k:Nat):(Zi7 d n k).length=k:=by unfold Zi7;simp
def Zlt (d:Zn) (n:Nat):List Int:=Zi7 d n (nt d n+1)
theorem Zu3 {d:Zn}{n:Nat} (hn:n<d.parts.length):∃x,ZA d.parts (n:Int)=some x∧x.work=Zgx d.parts (n:Int):=by
 refine⟨d.parts[n],Zci (List.getElem?_eq_getElem hn),?_⟩
 unfold Zgx
 rw[Int.toNat_natCast,List.getElem?_eq_getElem hn]
def Zgb (d:Zn) (z:Int):Int:=(ZU d z.toNat:Int)
def Zg7 (d:Zn) (z:Int):Int:=(ZU d (z.toNat+1):Int)-1
def ZrK (d:Zn) (f:Zk):Int:=ZiZ (fun _ z=>Zf6 d.futures z==f.pos) (fun i _=>Zgb d f.user+(i:Int)+1) (-1) 0 (tch d f.user.toNat)
end Go.Proofs.YtljgncbdagmeeaaDoor
namespace Go.Proofs.YtljgncbdagmeeaaDoor
open Go Go.Proofs.YtljgncbdagmeeaaDoorE
set_option linter.unusedVariables false
set_option linter.unusedSimpArgs false
def upto {β:Type} (B:Nat→List β) (k:Nat):List β:=(List.range k).flatMap B
theorem Zc3 {β:Type} (B:Nat→List β) (k:Nat):upto B (k+1)=upto B k++B k:=by unfold upto;rw[List.range_succ,List.flatMap_append];simp
theorem Zrt {γ β:Type} (l:List γ) (hl:l.length≤1000) (step:Int×List β→Option ((Int×List β)⊕List β)) (g:γ→β)
  (h1:∀(i:Nat) x s,i<l.length→l[i]? = some x→Nat.ble (s.length+1) lim=true→step ((i:Int),s)=some (.inl (((i+1:Nat):Int),s++[g x])))
  (h2:∀s,step ((l.length:Int),s)=some (.inr s)) (s:List β) (hs:s.length≤1000000):lp step (0,s)=some (s++l.map g):=by
 have key:=(ZwP l step (fun i s=>((i:Int),s)) (fun _ s x=>s++[g x]) id (fun i s=>s.length≤1000000+i) (fun i x s hi hx hI=>⟨h1 i x s hi hx (Zjf (by omega)),by rw[List.length_append];simp only[List.length_cons,List.length_nil];omega⟩) (fun s _=>h2 s) s (by omega)).1
 have e:∀(l:List γ) (i:Nat) (s:List β),Zov (fun _ s x=>s++[g x]) i s l=s++l.map g:=by
  intro l
  induction l with
  | nil=>intro i s;simp[Zov]
  | cons x l ih=>intro i s;show Zov _ (i+1) (s++[g x]) l=_;rw[ih];simp
 rw[e] at key
 exact key
def ZfX (d:Zn) (n k:Nat):List Zo:=(List.range k).map fun j=>⟨((ZU d n+j:Nat):Int),((ZU d n+j+1:Nat):Int)⟩
theorem Zos (d:Zn) (n k:Nat):ZfX d n (k+1)=ZfX d n k++[⟨((ZU d n+k:Nat):Int),((ZU d n+k+1:Nat):Int)⟩]:=by unfold ZfX;rw[List.range_succ,List.map_append];rfl
theorem ZmL (d:Zn) (n k:Nat):(ZfX d n k).length=k:=by unfold ZfX;simp
def Zfv (n k:Nat):List Zi:=(List.range k).map fun j:Nat=>⟨(n:Int),(j:Int)⟩
theorem Zro (n k:Nat):Zfv n (k+1)=Zfv n k++[⟨(n:Int),(k:Int)⟩]:=by unfold Zfv;rw[List.range_succ,List.map_append];rfl
theorem Zoo (n k:Nat):(Zfv n k).length=k:=by unfold Zfv;simp
def Zh2 (d:Zn) (k:Nat):List Int:=upto (Zlt d) k
def Ze3 (d:Zn) (k:Nat):List Zo:=upto (fun n=>ZfX d n (nt d n)) k
def ZdH (d:Zn) (k:Nat):List Zi:=upto (fun n=>Zfv n (nt d n+1)) k
theorem Zky (d:Zn):∀k,(Zh2 d k).length=ZU d k
 | 0=>rfl
 | k+1=>by unfold Zh2;rw[Zc3,List.length_append];unfold Zlt;rw[ZpX];show(Zh2 d k).length+_=ZU d k+_;rw[Zky d k]
theorem ZdG (d:Zn):∀k,(ZdH d k).length=ZU d k
 | 0=>rfl
 | k+1=>by unfold ZdH;rw[Zc3,List.length_append,Zoo];show(ZdH d k).length+_=ZU d k+_;rw[ZdG d k]
theorem ZmT (d:Zn):∀k,(Ze3 d k).length≤ZU d k
 | 0=>Nat.le_refl _
 | k+1=>by unfold Ze3;rw[Zc3,List.length_append,ZmL];have:=ZmT d k;unfold Ze3 at this;show _≤ZU d k+(nt d k+1);omega
def Zie (d:Zn):List Zo:=d.edges.map fun e=>⟨Zg7 d e.src,Zgb d e.dst⟩
def ZiD (d:Zn):List Zo:=d.futures.map fun f=>⟨Zg7 d f.maker,ZrK d f⟩
def ZoA (d:Zn) (at_:Int) (b:Zu):List Zo:=b.ins.map (fun q=>⟨Zg7 d q,at_⟩)++b.outs.map (fun q=>⟨at_,Zgb d q⟩)
def ZhH (d:Zn) (i:Nat):Int:=((ZU d d.parts.length+i:Nat):Int)
def ZeF (d:Zn) (k:Nat):List Zo:=upto (fun i=>match d.barriers[i]? with | some b=>ZoA d (ZhH d i) b | none=>[]) k
def Zgy (k:Nat):List Zi:=(List.range k).map fun i:Nat=>⟨-1,(i:Int)⟩
theorem Zol (k:Nat):(Zgy k).length=k:=by unfold Zgy;simp
theorem ZrI (k:Nat):Zgy (k+1)=Zgy k++[⟨-1,(k:Int)⟩]:=by unfold Zgy;rw[List.range_succ,List.map_append];rfl
def Zgs (d:Zn):List Int:=Zh2 d d.parts.length++List.replicate d.barriers.length 1
def ZjY (d:Zn):List Zo:=Ze3 d d.parts.length++Zie d++ZiD d
def Zhw (d:Zn):List Zo:=ZjY d++ZeF d d.barriers.length
def ZfB (d:Zn):List Zi:=ZdH d d.parts.length++Zgy d.barriers.length
def Zcv (d:Zn):Zm4:=⟨⟨Zgs d,Zhw d⟩,ZfB d⟩
theorem ZoZ {d:Zn} (g:Zdu d):(ZjY d).length≤1000:=by
 unfold ZjY Zie ZiD
 have h1:=ZmT d d.parts.length
 have h2:=Zi3 g d.parts.length
 have h3:=g.pl
 have h4:=g.el
 have h5:=g.fl
 simp only[List.length_append,List.length_map]
 omega
theorem Zxk {d:Zn} (hz:Zmc d) {b:Zu} (hb:b∈d.barriers) (z:Int):(ZoA d z b).length≤40:=by
 have:=hz.i b hb
 unfold ZoA
 simp only[List.length_append,List.length_map]
 omega
theorem ZmK {d:Zn} (hz:Zmc d):∀k,(ZeF d k).length≤40*k
 | 0=>Nat.le_refl _
 | k+1=>by
  have ih:=ZmK hz k
  unfold ZeF at ih ⊢
  rw[Zc3,List.length_append]
  split
  ·rename_i b hb
   have:=Zxk hz (List.mem_of_getElem? hb) (ZhH d k)
   omega
  ·simp only[List.length_nil];omega
end Go.Proofs.YtljgncbdagmeeaaDoor
namespace Go.Proofs.YtljgncbdagmeeaaDoor
open Go Go.Proofs.YtljgncbdagmeeaaDoorE
set_option linter.unusedVariables false
set_option linter.unusedSimpArgs false
theorem Zh6 (b:Zi) (c:Int) {W:List Int}{P:List Zi} (h1:W.length≤10000) (h2:P.length≤10000):Za1 b c W P=some ():=by
 unfold Za1
 rw[Zjf (by omega),Zjf (by omega)];rfl
theorem ZkD (b c:Int) {E:List Zo} (h1:E.length≤10000):ZX b c E=some ():=by
 unfold ZX
 rw[Zjf (by omega)];rfl
theorem ZrY {β:Type} (P:List β) (x:β) (hP:P.length≤10000):w64 ((List.length (P++[x]):Int)-1)=(P.length:Int):=by
 rw[List.length_append]
 simp only[List.length_cons,List.length_nil]
 rw[Zep (by omega) (by omega)]
 omega
theorem ZvY {d:Zn} (g:Zdu d) {n:Nat} (hn:n<d.parts.length) (hc:Zd7 d (n:Int)=some (tch d n)) {W:List Int}{E:List Zo}{P:List Zi} (M5:List (Int×Int)) (M6:List (Zk×Int)) (hW:W.length≤1000) (hE:E.length≤1000) (hP:P.length≤1000) :
  ZeD d (n:Int) W E P M5 M6=(lp (ZF d (n:Int) (tch d n)) (0,0,M5,M6,W,E,P)).bind fun r=>some (bif decide (0<nt d n) then .inl r else .inr (.inl r.2.2.1)):=by
 obtain⟨x,x1,x2⟩:=Zu3 hn
 have hnt:=ZxP g n
 have hnl:(tch d n).length=nt d n:=rfl
 have e1:w64 (((tch d n).length:Int)+1)=(((tch d n).length+1:Nat):Int):=by rw[Zep (by omega) (by omega)];omega
 have w1:w64 ((0:Int)+1)=1:=Zep (by omega) (by omega)
 have w2:w64 ((1:Int)+1)=2:=Zep (by omega) (by omega)
 have w0:w64 ((1:Int)-1)=0:=Zep (by omega) (by omega)
 have lW:∀a:Int,(W++[a]).length≤10000:=fun a=>by rw[List.length_append];simp only[List.length_cons,List.length_nil];omega
 have lP:∀a:Zi,(P++[a]).length≤10000:=fun a=>by rw[List.length_append];simp only[List.length_cons,List.length_nil];omega
 unfold ZeD
 rw[hc,Option.bind_some,Zcn (Zcl d (n:Int) W E P M5 M6 (tch d n)),Zcn (ZF d (n:Int) (tch d n))]
 by_cases h0:0<nt d n
 ·obtain⟨f,f1,f2,_⟩:=Zkv g.g h0
  have c0:decide ((0:Int)<(((tch d n).length+1:Nat):Int))=true:=decide_eq_true (by omega)
  have c1:decide ((0:Int)<((tch d n).length:Int))=true:=decide_eq_true (by omega)
  have c2:decide ((1:Int)<(((tch d n).length+1:Nat):Int))=true:=decide_eq_true (by omega)
  have f1':ZA (tch d n) 0=some (tch d n)[0]:=f1
  simp only[Zcl,ZF,e1,c0,c1,cond_true,x1,Option.bind_some,f1',f2,Zh6 _ _ (show W.length≤10000 by omega) (show P.length≤10000 by omega),w1,decide_eq_false (show ¬(0:Int)<0 by omega),cond_false,decide_eq_true h0]
  rw[Zcn (Zck d (n:Int) W E P M5 M6 (tch d n) f),Zcn (ZF d (n:Int) (tch d n))]
  by_cases h1:1<nt d n
  ·obtain⟨f',f1b,f2b,_⟩:=Zkv g.g h1
   have f1b':ZA (tch d n) 1=some (tch d n)[1]:=f1b
   have c3:decide ((1:Int)<((tch d n).length:Int))=true:=decide_eq_true (by omega)
   simp only[Zck,ZF,e1,c2,c3,cond_true,x1,Option.bind_some,f1',f2,f1b',f2b,Zh6 _ _ (lW _) (lP _),ZkD _ _ (show E.length≤10000 by omega),w2,w0,decide_eq_true (show(0:Int)<1 by omega)]
   generalize lp (ZF d (n:Int) (tch d n)) _=r
   cases r<;>rfl
  ·have c3:decide ((1:Int)<((tch d n).length:Int))=false:=decide_eq_false (by omega)
   simp only[Zck,ZF,e1,c2,c3,cond_true,cond_false,x1,Option.bind_some,f1',f2,Zh6 _ _ (lW _) (lP _),ZkD _ _ (show E.length≤10000 by omega),w2,w0,decide_eq_true (show(0:Int)<1 by omega)]
   generalize lp (ZF d (n:Int) (tch d n)) _=r
   cases r<;>rfl
 ·have c0:decide ((0:Int)<(((tch d n).length+1:Nat):Int))=true:=decide_eq_true (by omega)
  have c1:decide ((0:Int)<((tch d n).length:Int))=false:=decide_eq_false (by omega)
  have c2:decide ((1:Int)<(((tch d n).length+1:Nat):Int))=false:=decide_eq_false (by omega)
  simp only[Zcl,ZF,e1,c0,c1,cond_true,x1,Option.bind_some,Zh6 _ _ (show W.length≤10000 by omega) (show P.length≤10000 by omega),w1,decide_eq_false (show ¬(0:Int)<0 by omega),cond_false,decide_eq_false h0]
  rw[Zcn (Zdb d (n:Int) W E P M5 M6 (tch d n) x),Zcn (ZF d (n:Int) (tch d n))]
  simp only[Zdb,ZF,e1,c2,cond_false,Option.bind_some]
abbrev eqF:Zk→Zk→Bool:=fun ka kb:Zk=>((ka.maker==kb.maker)&&((ka.user==kb.user)&&((ka.pos==kb.pos)&&true)))
def ZjN (M:List (Int×Int)) (n F i:Nat):List (Int×Int):=if i=0 then M else M++[((n:Int),((F+i-1:Nat):Int))]
theorem Ztd {M:List (Int×Int)}{n F:Nat} (h:∀q∈M,q.1≠(n:Int)) (i:Nat):Zx (fun ka kb:Int=>(ka==kb)) (ZjN M n F i) (n:Int) ((F+i:Nat):Int)=ZjN M n F (i+1):=by
 have hq:∀q∈M,eqI (n:Int) q.1=false:=fun q hq=>by
  show((n:Int)==q.1)=false
  exact beq_false_of_ne (Ne.symm (h q hq))
 unfold ZjN
 rw[if_neg (show i+1≠0 by omega)]
 by_cases h0:i=0
 ·subst h0
  rw[if_pos rfl]
  exact Zjp eqI (n:Int) _ M hq
 ·rw[if_neg h0]
  exact Zot eqI (n:Int) _ _ (by simp) M hq
theorem Zse {M:List (Int×Int)}{n F:Nat} (h:∀q∈M,q.1≠(n:Int)) (i:Nat):ZaL (fun ka kb:Int=>(ka==kb)) (ZjN M n F (i+1)) (n:Int) 0=((F+i:Nat):Int):=by
 unfold ZjN
 rw[if_neg (show i+1≠0 by omega)]
 exact ZqR eqI (n:Int) 0 _ (by simp) M [] (fun q hq=>by
  show((n:Int)==q.1)=false
  exact beq_false_of_ne (Ne.symm (h q hq)))
def Zhq (d:Zn) (n j:Nat):Zk:=match (tch d n)[j]? with | some z=>(match d.futures[z.toNat]? with | some f=>f | none=>⟨0,0,0⟩) | none=>⟨0,0,0⟩
theorem Zfn {d:Zn}{n i:Nat} (g:ZlC d) (hi:i<nt d n):ZA (tch d n) (i:Int)=some (tch d n)[i]∧ZA d.futures (tch d n)[i]=some (Zhq d n i)∧(Zhq d n i).user=(n:Int)∧(Zhq d n i).pos=cut d n (i+1)∧Zhq d n i∈d.futures:=by
 obtain⟨f,h1,h2,h3,h4,h5,h6⟩:=Zkv g hi
 have e:Zhq d n i=f:=by
  unfold Zhq
  rw[List.getElem?_eq_getElem hi]
  show(match d.futures[((tch d n)[i]).toNat]? with | some f=>f | none=>⟨0,0,0⟩)=f
  rw[h3]
 rw[e]
 exact⟨h1,h2,h4,h5,h6⟩
theorem Znd {d:Zn} (g:ZlC d) {n i j:Nat} (hij:i<j) (hj:j<nt d n):(Zhq d n i).pos<(Zhq d n j).pos:=by
 obtain⟨_,_,h3,_,_,h5,_⟩:=Zkv g (show i<nt d n by omega)
 obtain⟨_,_,k3,_,_,k5,_⟩:=Zkv g hj
 rw[(Zfn g (show i<nt d n by omega)).2.2.2.1,(Zfn g hj).2.2.2.1]
 have:=List.pairwise_iff_getElem.1 (ZmP g n).rise i j (show i<nt d n by omega) hj hij
 have e:∀k (hk:k<nt d n),cut d n (k+1)=Zf6 d.futures (tch d n)[k]:=fun k hk=>by
  unfold cut
  rw[if_neg (by omega),Nat.add_sub_cancel,List.getElem?_eq_getElem hk]
 rw[e i (by omega),e j hj]
 exact this
def Zhf (d:Zn) (n k:Nat):List (Zk×Int):=(List.range k).map fun j:Nat=>(Zhq d n j,((ZU d n+j+1:Nat):Int))
theorem Zr6 (d:Zn) (n k:Nat):Zhf d n (k+1)=Zhf d n k++[(Zhq d n k,((ZU d n+k+1:Nat):Int))]:=by unfold Zhf;rw[List.range_succ,List.map_append];rfl
theorem ZrL {a b:Zk} (h:a.user≠b.user∨a.pos≠b.pos):eqF a b=false:=by
 show((a.maker==b.maker)&&((a.user==b.user)&&((a.pos==b.pos)&&true)))=false
 rcases h with h | h
 ·rw[beq_false_of_ne h];simp
 ·rw[beq_false_of_ne h];simp
theorem Zps {d:Zn} (g:ZlC d) {n k:Nat} (hk:k<nt d n) {M:List (Zk×Int)} (h:∀q∈M,q.1.user≠(n:Int)) :
  Zx (fun ka kb:Zk=>((ka.maker==kb.maker)&&((ka.user==kb.user)&&((ka.pos==kb.pos)&&true)))) (M++Zhf d n k) (Zhq d n k) ((ZU d n+(k+1):Nat):Int)=M++Zhf d n (k+1):=by
 rw[Zr6,← List.append_assoc]
 refine Zjp eqF _ _ _ fun q hq=>?_
 have hu:=(Zfn g hk).2.2.1
 rcases List.mem_append.1 hq with hq | hq
 ·exact ZrL (.inl (by rw[hu];exact Ne.symm (h q hq)))
 ·unfold Zhf at hq
  obtain⟨j,hj,rfl⟩:=List.mem_map.1 hq
  rw[List.mem_range] at hj
  have:=Znd g hj hk
  exact ZrL (.inr (by show(Zhq d n k).pos≠(Zhq d n j).pos;omega))
theorem Zt2 {d:Zn} (g:Zdu d) {n:Nat} (hn:n<d.parts.length) {W:List Int}{E:List Zo}{P:List Zi}{M5:List (Int×Int)}{M6:List (Zk×Int)} (hW:W.length≤1000) (hE:E.length≤1000) (hP:P.length=ZU d n)
  (h5:∀q∈M5,q.1≠(n:Int)) (h6:∀q∈M6,q.1.user≠(n:Int)) :
  lp (ZF d (n:Int) (tch d n)) (0,0,M5,M6,W,E,P)=some (M5++[((n:Int),((ZU d n+nt d n:Nat):Int))],M6++Zhf d n (nt d n),W++Zlt d n,E++ZfX d n (nt d n),P++Zfv n (nt d n+1)):=by
 obtain⟨x,x1,x2⟩:=Zu3 hn
 have hnt:=ZxP g n
 have hnl:(tch d n).length=nt d n:=rfl
 have hF:=Zi3 g n
 have hpl:=g.pl
 have e1:w64 (((tch d n).length:Int)+1)=((nt d n+1:Nat):Int):=by show w64 ((nt d n:Int)+1)=_;rw[Zep (by omega) (by omega)];omega
 have key:∀(k i:Nat),i+k=nt d n+1→lp (ZF d (n:Int) (tch d n)) (cut d n i,(i:Int),ZjN M5 n (ZU d n) i,M6++Zhf d n (i-1),W++Zi7 d n i,E++ZfX d n (i-1),P++Zfv n i) =
   some (ZjN M5 n (ZU d n) (nt d n+1),M6++Zhf d n (nt d n),W++Zlt d n,E++ZfX d n (nt d n),P++Zfv n (nt d n+1)):=by
  intro k
  induction k with
  | zero=>
   intro i hi
   have:i=nt d n+1:=by omega
   subst this
   rw[Zcn]
   simp only[ZF,e1,ZhX,cond_false]
   rfl
  | succ k ih=>
   intro i hi
   have hi':i<nt d n+1:=by omega
   have b0:=Zui g.g n i
   have b1:=Zui g.g n (i+1)
   have lP:(P++Zfv n i).length=ZU d n+i:=by rw[List.length_append,Zoo,hP]
   have l2:(W++Zi7 d n i).length≤10000:=by rw[List.length_append,ZpX];omega
   have l3:(E++ZfX d n (i-1)).length≤10000:=by rw[List.length_append,ZmL];omega
   have lput:=ZrY (P++Zfv n i) (Zi.mk (n:Int) (i:Int)) (by rw[lP];omega)
   rw[lP] at lput
   have p5:=Ztd (F:=ZU d n) h5 i
   have g5:=Zse (F:=ZU d n) h5 i
   have w5:w64 (cut d n (i+1)-cut d n i)=cut d n (i+1)-cut d n i:=Zep (by omega) (by omega)
   have ih':=ih (i+1) (by omega)
   rw[Zsi,Zro,← List.append_assoc,← List.append_assoc] at ih'
   rw[Zcn]
   have fin:i=nt d n→cut d n (i+1)=x.work:=fun h=>by rw[h,ZuZ,x2]
   have node:=fun c=>Zh6 (Zi.mk (n:Int) (i:Int)) c l2 (show(P++Zfv n i).length≤10000 by rw[lP];omega)
   by_cases hlast:i<nt d n
   ·obtain⟨q1,q2,q3,q4,_⟩:=Zfn g.g hlast
    cases i with
    | zero=>
     simp only[ZF,e1,Zg5 hi',cond_true,x1,Option.bind_some,Zg5 (show 0<(tch d n).length from hlast),q1,q2,q4,node,decide_eq_false (show ¬(0:Int)<((0:Nat):Int) by omega),cond_false,lput,p5,w5,ZaW hi' (show nt d n+1<9223372036854775808 by omega)]
     exact ih'
    | succ j=>
     obtain⟨r1,r2,r3,r4,_⟩:=Zfn g.g (show j<nt d n by omega)
     have e2:w64 (((j+1:Nat):Int)-1)=(j:Int):=by rw[Zep (by omega) (by omega)];omega
     have e3:w64 (((ZU d n+(j+1):Nat):Int)-1)=((ZU d n+j:Nat):Int):=by rw[Zep (by omega) (by omega)];omega
     have p6:=Zps g.g (show j<nt d n by omega) h6
     rw[Nat.add_sub_cancel] at l3 ih' ⊢
     rw[Zos,← List.append_assoc] at ih'
     simp only[ZF,e1,Zg5 hi',cond_true,x1,Option.bind_some,Zg5 (show j+1<(tch d n).length from hlast),q1,q2,q4,node,decide_eq_true (show(0:Int)<((j+1:Nat):Int) by omega),lput,p5,g5,w5,e2,e3,r1,r2,ZkD _ _ l3,p6,ZaW hi' (show nt d n+1<9223372036854775808 by omega)]
     exact ih'
   ·have hin:i=nt d n:=by omega
    have hfin:=fin hin
    rw[hfin] at w5 ih'
    have c3:decide ((i:Int)<((tch d n).length:Int))=false:=decide_eq_false (by have:((tch d n).length:Int)=(nt d n:Int):=rfl;omega)
    cases i with
    | zero=>
     simp only[ZF,e1,Zg5 hi',cond_true,x1,Option.bind_some,c3,node,decide_eq_false (show ¬(0:Int)<((0:Nat):Int) by omega),cond_false,lput,p5,w5,ZaW hi' (show nt d n+1<9223372036854775808 by omega)]
     exact ih'
    | succ j=>
     obtain⟨r1,r2,r3,r4,_⟩:=Zfn g.g (show j<nt d n by omega)
     have e2:w64 (((j+1:Nat):Int)-1)=(j:Int):=by rw[Zep (by omega) (by omega)];omega
     have e3:w64 (((ZU d n+(j+1):Nat):Int)-1)=((ZU d n+j:Nat):Int):=by rw[Zep (by omega) (by omega)];omega
     have p6:=Zps g.g (show j<nt d n by omega) h6
     rw[Nat.add_sub_cancel] at l3 ih' ⊢
     rw[Zos,← List.append_assoc] at ih'
     simp only[ZF,e1,Zg5 hi',cond_true,cond_false,x1,Option.bind_some,c3,node,decide_eq_true (show(0:Int)<((j+1:Nat):Int) by omega),lput,p5,g5,w5,e2,e3,r1,r2,ZkD _ _ l3,p6,ZaW hi' (show nt d n+1<9223372036854775808 by omega)]
     exact ih'
 have:=key (nt d n+1) 0 (by omega)
 simpa [ZjN,Zhf,Zi7,ZfX,Zfv,cut] using this
end Go.Proofs.YtljgncbdagmeeaaDoor
namespace Go.Proofs.YtljgncbdagmeeaaDoor
open Go Go.Proofs.YtljgncbdagmeeaaDoorE
set_option linter.unusedVariables false
set_option linter.unusedSimpArgs false
def ZmV (g:ZbR) (a:Int) (T:List Bool):Prop:=∀e∈g.edges,(e.src=a∨bAt T e.src=true)→bAt T e.dst=true
end Go.Proofs.YtljgncbdagmeeaaDoor
namespace Go.Proofs.YtljgncbdagmeeaaDoor
open Go Go.Proofs.YtljgncbdagmeeaaDoorE
set_option linter.unusedVariables false
set_option linter.unusedSimpArgs false
def ZgW (d:Zn) (k:Nat):List (Int×Int):=(List.range k).map fun n:Nat=>((n:Int),(ZU d n:Int))
def Zhu (d:Zn) (k:Nat):List (Int×Int):=(List.range k).map fun n:Nat=>((n:Int),((ZU d n+nt d n:Nat):Int))
def Ze2 (d:Zn) (k:Nat):List (Zk×Int):=upto (fun n=>Zhf d n (nt d n)) k
theorem ZrP (d:Zn) (k:Nat):ZgW d (k+1)=ZgW d k++[((k:Int),(ZU d k:Int))]:=by unfold ZgW;rw[List.range_succ,List.map_append];rfl
theorem ZsE (d:Zn) (k:Nat):Zhu d (k+1)=Zhu d k++[((k:Int),((ZU d k+nt d k:Nat):Int))]:=by unfold Zhu;rw[List.range_succ,List.map_append];rfl
theorem ZtO (d:Zn) (k:Nat):∀q∈ZgW d k,q.1≠(k:Int):=fun q hq=>by
 unfold ZgW at hq
 obtain⟨j,hj,rfl⟩:=List.mem_map.1 hq
 rw[List.mem_range] at hj
 show(j:Int)≠(k:Int)
 omega
theorem Zq2 (d:Zn) (k:Nat):∀q∈Zhu d k,q.1≠(k:Int):=fun q hq=>by
 unfold Zhu at hq
 obtain⟨j,hj,rfl⟩:=List.mem_map.1 hq
 rw[List.mem_range] at hj
 show(j:Int)≠(k:Int)
 omega
theorem Zm7 {d:Zn}{k:Nat}{q:Zk×Int} (h:q∈Ze2 d k):∃n j,n<k∧j<nt d n∧q=(Zhq d n j,((ZU d n+j+1:Nat):Int)):=by
 unfold Ze2 upto at h
 obtain⟨n,hn,hq⟩:=List.mem_flatMap.1 h
 unfold Zhf at hq
 obtain⟨j,hj,rfl⟩:=List.mem_map.1 hq
 exact⟨n,j,List.mem_range.1 hn,List.mem_range.1 hj,rfl⟩
theorem Zs5 {d:Zn} (g:ZlC d) (k:Nat):∀q∈Ze2 d k,q.1.user≠(k:Int):=fun q hq=>by
 obtain⟨n,j,hn,hj,rfl⟩:=Zm7 hq
 show(Zhq d n j).user≠(k:Int)
 rw[(Zfn g hj).2.2.1]
 omega
theorem ZiT {K W:Type} (eq:K→K→Bool) (z:W) (f:Nat→K) (v:Nat→W) {i:Nat} (h0:eq (f i) (f i)=true) (h1:∀j,j<i→eq (f i) (f j)=false):∀k,i<k→ZaL eq ((List.range k).map fun j=>(f j,v j)) (f i) z=v i
 | 0,h=>absurd h (by omega)
 | k+1,h=>by
  rw[List.range_succ,List.map_append]
  by_cases hk:i<k
  ·rw[ZkC eq (f i) z _ _ ⟨(f i,v i),List.mem_map.2 ⟨i,List.mem_range.2 hk,rfl⟩,h0⟩]
   exact ZiT eq z f v h0 h1 k hk
  ·have:i=k:=by omega
   subst this
   refine ZqR eq (f i) z (v i) h0 _ [] fun q hq=>?_
   obtain⟨j,hj,rfl⟩:=List.mem_map.1 hq
   exact h1 j (List.mem_range.1 hj)
theorem Zq4 {d:Zn}{z:Int} (h:inR d z):ZaL (fun ka kb:Int=>(ka==kb)) (ZgW d d.parts.length) z 0=Zgb d z:=by
 have:=ZiT eqI 0 (fun n:Nat=>(n:Int)) (fun n=>(ZU d n:Int)) (i:=z.toNat) (by simp) (fun j hj=>beq_false_of_ne (by omega)) d.parts.length h.2
 have e:((z.toNat:Nat):Int)=z:=Int.toNat_of_nonneg h.1
 simp only[e] at this
 exact this
theorem ZpL {d:Zn}{z:Int} (h:inR d z):ZaL (fun ka kb:Int=>(ka==kb)) (Zhu d d.parts.length) z 0=Zg7 d z:=by
 have:=ZiT eqI 0 (fun n:Nat=>(n:Int)) (fun n=>((ZU d n+nt d n:Nat):Int)) (i:=z.toNat) (by simp) (fun j hj=>beq_false_of_ne (by omega)) d.parts.length h.2
 have e:((z.toNat:Nat):Int)=z:=Int.toNat_of_nonneg h.1
 simp only[e] at this
 refine Eq.trans this ?_
 unfold Zg7
 show _=((ZU d z.toNat+(nt d z.toNat+1):Nat):Int)-1
 omega
theorem ZmZ {d:Zn} (g:Zdu d) {f:Zk} (h:f∈d.futures):∃j,j<nt d f.user.toNat∧Zhq d f.user.toNat j=f:=by
 obtain⟨m,hm⟩:=List.getElem?_of_mem h
 have hu:=g.user h
 have e:((f.user.toNat:Nat):Int)=f.user:=Int.toNat_of_nonneg hu.1
 have:=(ZmP g.g f.user.toNat).mem (m:Int) |>.2 ⟨m,f,hm,e.symm,rfl⟩
 obtain⟨j,hj,hj2⟩:=List.getElem_of_mem this
 refine⟨j,hj,?_⟩
 unfold Zhq
 rw[List.getElem?_eq_getElem hj]
 show(match d.futures[((tch d f.user.toNat)[j]).toNat]? with | some f=>f | none=>⟨0,0,0⟩)=f
 rw[hj2,Int.toNat_natCast,hm]
theorem Zry {γ R:Type} (p:Nat→γ→Bool) (out:Nat→γ→R) (fin:R):∀(l:List γ) (i j:Nat) (x:γ),l[j]? = some x→p (i+j) x=true→(∀k y,k<j→l[k]? = some y→p (i+k) y=false)→ZiZ p out fin i l=out (i+j) x
 | [],i,j,x,h,_,_=>by cases h
 | y :: l,i,0,x,h,h1,_=>by
  cases h
  unfold ZiZ
  rw[Nat.add_zero] at h1
  rw[h1];rfl
 | y :: l,i,j+1,x,h,h1,h2=>by
  unfold ZiZ
  have h0:=h2 0 y (by omega) rfl
  rw[Nat.add_zero] at h0
  rw[h0]
  show ZiZ p out fin (i+1) l=_
  rw[show i+(j+1)=i+1+j by omega] at h1 ⊢
  exact Zry p out fin l (i+1) j x h h1 fun k z hk hz=>by
   have:=h2 (k+1) z (by omega) hz
   rwa [show i+(k+1)=i+1+k by omega] at this
theorem ZoK {d:Zn} (g:Zdu d) {f:Zk} (h:f∈d.futures) {j:Nat} (hj:j<nt d f.user.toNat) (he:Zhq d f.user.toNat j=f):ZrK d f=((ZU d f.user.toNat+j+1:Nat):Int):=by
 have pos:∀k (hk:k<nt d f.user.toNat),Zf6 d.futures (tch d f.user.toNat)[k]=(Zhq d f.user.toNat k).pos:=fun k hk=>by
  rw[(Zfn g.g hk).2.2.2.1]
  unfold cut
  rw[if_neg (by omega),Nat.add_sub_cancel,List.getElem?_eq_getElem hk]
 unfold ZrK
 rw[Zry (fun _ z=>Zf6 d.futures z==f.pos) (fun i _=>Zgb d f.user+(i:Int)+1) (-1) (tch d f.user.toNat) 0 j _ (List.getElem?_eq_getElem hj) (by show(Zf6 d.futures (tch d f.user.toNat)[j]==f.pos)=true;rw[pos j hj,he];simp) (fun k y hk hy=>by
  have hk2:k<nt d f.user.toNat:=by omega
  have hy2:(tch d f.user.toNat)[k]=y:=Option.some.inj ((List.getElem?_eq_getElem hk2).symm.trans hy)
  have:=Znd g.g hk hj
  rw[he] at this
  show(Zf6 d.futures y==f.pos)=false
  rw[← hy2,pos k hk2]
  exact beq_false_of_ne (by omega))]
 unfold Zgb
 omega
theorem Zr4 (f:Zk):eqF f f=true:=by simp[eqF]
theorem ZvJ {d:Zn} (g:Zdu d) {f:Zk} (h:f∈d.futures):ZaL (fun ka kb:Zk=>((ka.maker==kb.maker)&&((ka.user==kb.user)&&((ka.pos==kb.pos)&&true)))) (Ze2 d d.parts.length) f 0=ZrK d f:=by
 obtain⟨j,hj,he⟩:=ZmZ g h
 have hu:=g.user h
 have eu:((f.user.toNat:Nat):Int)=f.user:=Int.toNat_of_nonneg hu.1
 have key:∀k,f.user.toNat<k→ZaL eqF (Ze2 d k) f 0=ZrK d f:=by
  intro k
  induction k with
  | zero=>intro hk;exact absurd hk (by omega)
  | succ k ih=>
   intro hk
   rw[show Ze2 d (k+1)=Ze2 d k++Zhf d k (nt d k) from Zc3 _ k]
   by_cases hlt:f.user.toNat<k
   ·rw[ZkC eqF f 0 _ _ ⟨(f,((ZU d f.user.toNat+j+1:Nat):Int)),?_,Zr4 f⟩]
    ·exact ih hlt
    ·unfold Ze2 upto
     refine List.mem_flatMap.2 ⟨f.user.toNat,List.mem_range.2 hlt,?_⟩
     unfold Zhf
     exact List.mem_map.2 ⟨j,List.mem_range.2 hj,by rw[he]⟩
   ·have hk2:k=f.user.toNat:=by omega
    subst hk2
    rw[ZjW eqF f 0 _ _ (fun q hq=>by
     obtain⟨n,i,hn,hi,rfl⟩:=Zm7 hq
     refine ZrL (.inl ?_)
     show f.user≠(Zhq d n i).user
     rw[(Zfn g.g hi).2.2.1]
     omega)]
    have:=ZiT eqF 0 (fun i=>Zhq d f.user.toNat i) (fun i=>((ZU d f.user.toNat+i+1:Nat):Int)) (i:=j) (Zr4 _) (fun i hi=>by
     have:=Znd g.g hi hj
     exact ZrL (.inr (by omega))) (nt d f.user.toNat) hj
    rw[ZoK g h hj he]
    rw[he] at this
    exact this
 exact key d.parts.length hu.2
theorem Zt6 {d:Zn} (g:Zdu d) (hc:∀n:Nat,Zd7 d (n:Int)=some (tch d n)):lp (Zdp d) (0,[],[],[],[],[],[])=some (Zh2 d d.parts.length,Ze3 d d.parts.length,ZdH d d.parts.length,ZgW d d.parts.length,Zhu d d.parts.length,Ze2 d d.parts.length):=by
 have hpl:=g.pl
 have key:∀(k i:Nat),i+k=d.parts.length→lp (Zdp d) ((i:Int),Zh2 d i,Ze3 d i,ZdH d i,ZgW d i,Zhu d i,Ze2 d i)=some (Zh2 d d.parts.length,Ze3 d d.parts.length,ZdH d d.parts.length,ZgW d d.parts.length,Zhu d d.parts.length,Ze2 d d.parts.length):=by
  intro k
  induction k with
  | zero=>
   intro i hi
   have:i=d.parts.length:=by omega
   subst this
   rw[Zcn]
   simp only[Zdp,ZhX,cond_false]
  | succ k ih=>
   intro i hi
   have hi':i<d.parts.length:=by omega
   have hF:=Zi3 g i
   have h1:=ZmT d i
   have l1:(Zh2 d i).length≤1000:=by rw[Zky];omega
   have l2:(Ze3 d i).length≤1000:=by omega
   have l3:(ZdH d i).length≤1000:=by rw[ZdG];omega
   have ih':=ih (i+1) (by omega)
   rw[show Ze3 d (i+1)=Ze3 d i++ZfX d i (nt d i) from Zc3 _ i,show Zh2 d (i+1)=Zh2 d i++Zlt d i from Zc3 _ i,show ZdH d (i+1)=ZdH d i++Zfv i (nt d i+1) from Zc3 _ i,ZrP,ZsE,show Ze2 d (i+1)=Ze2 d i++Zhf d i (nt d i) from Zc3 _ i] at ih'
   have pe:=ZvY g hi' (hc i) (Zhu d i) (Ze2 d i) l1 l2 l3
   rw[Zt2 g hi' l1 l2 (ZdG d i) (Zq2 d i) (Zs5 g.g i),Option.bind_some] at pe
   have p4:Zx (fun ka kb:Int=>(ka==kb)) (ZgW d i) (i:Int) ((ZdH d i).length:Int)=ZgW d i++[((i:Int),(ZU d i:Int))]:=by
    rw[ZdG]
    exact Zjp eqI (i:Int) _ _ fun q hq=>beq_false_of_ne (Ne.symm (ZtO d i q hq))
   have p5:Zx (fun ka kb:Int=>(ka==kb)) (Zhu d i) (i:Int) (ZU d i:Int)=Zhu d i++[((i:Int),(ZU d i:Int))]:=Zjp eqI (i:Int) _ _ fun q hq=>beq_false_of_ne (Ne.symm (Zq2 d i q hq))
   have lput:=ZrY (ZdH d i) (Zi.mk (i:Int) 0) (by omega)
   rw[ZdG] at lput
   rw[Zcn]
   by_cases h0:0<nt d i
   ·rw[decide_eq_true h0] at pe
    simp only[Zdp,Zg5 hi',cond_true,pe,Option.bind_some,p4,ZaW hi' (show d.parts.length<9223372036854775808 by omega)]
    exact ih'
   ·have hz:nt d i=0:=by omega
    rw[decide_eq_false h0] at pe
    simp only[Zdp,Zg5 hi',cond_true,cond_false,pe,Option.bind_some,p4,lput,p5,ZaW hi' (show d.parts.length<9223372036854775808 by omega)]
    rw[hz] at ih'
    simpa [ZfX,Zfv,Zhf] using ih'
 exact key d.parts.length 0 (by omega)
theorem ZtN {d:Zn} (g:Zdu d) {r3:List Int×List Zo×List Zi×List (Int×Int)×List (Int×Int)×List (Zk×Int)} (h4:r3.2.2.2.1=ZgW d d.parts.length) (h5:r3.2.2.2.2.1=Zhu d d.parts.length) (E:List Zo) (hE:E.length≤1000):lp (ZdQ d r3) (0,E)=some (E++Zie d):=
 have he:=g.el
 Zrt d.edges (by omega) (ZdQ d r3) (fun e=>⟨Zg7 d e.src,Zgb d e.dst⟩) (fun i x s hi hx hb=>by
  have hm:=List.mem_of_getElem? hx
  have ed:∀b c,ZX b c s=some ():=fun b c=>by unfold ZX;rw[hb];rfl
  simp only[ZdQ,Zg5 hi,cond_true,Zci hx,Option.bind_some,h4,h5,ZpL (g.src hm),Zq4 (g.dst hm),ed,ZaW hi (show d.edges.length<9223372036854775808 by omega)]) (fun s=>by simp only[ZdQ,ZhX,cond_false]) E (by omega)
theorem ZrM {d:Zn} (g:Zdu d) {r3:List Int×List Zo×List Zi×List (Int×Int)×List (Int×Int)×List (Zk×Int)} (h5:r3.2.2.2.2.1=Zhu d d.parts.length) (h6:r3.2.2.2.2.2=Ze2 d d.parts.length) (E:List Zo) (hE:E.length≤1000):lp (ZdT d r3) (0,E)=some (E++ZiD d):=
 have he:=g.fl
 Zrt d.futures (by omega) (ZdT d r3) (fun f=>⟨Zg7 d f.maker,ZrK d f⟩) (fun i x s hi hx hb=>by
  have hm:=List.mem_of_getElem? hx
  have ed:∀b c,ZX b c s=some ():=fun b c=>by unfold ZX;rw[hb];rfl
  simp only[ZdT,Zg5 hi,cond_true,Zci hx,Option.bind_some,h5,h6,ZpL (g.maker hm),ZvJ g hm,ed,ZaW hi (show d.futures.length<9223372036854775808 by omega)]) (fun s=>by simp only[ZdT,ZhX,cond_false]) E (by omega)
theorem ZvP {d:Zn} (g:Zdu d) (hz:Zmc d) {r3:List Int×List Zo×List Zi×List (Int×Int)×List (Int×Int)×List (Zk×Int)} (h4:r3.2.2.2.1=ZgW d d.parts.length) (h5:r3.2.2.2.2.1=Zhu d d.parts.length) (E:List Zo) (hE:E.length≤1000) :
  lp (ZdR d r3) (0,Zh2 d d.parts.length,E,ZdH d d.parts.length)=some (Zgs d,E++ZeF d d.barriers.length,ZfB d):=by
 have hbl:=g.bl
 have hF:=Zi3 g d.parts.length
 have hpl:=g.pl
 have key:∀(k i:Nat),i+k=d.barriers.length→lp (ZdR d r3) ((i:Int),Zh2 d d.parts.length++List.replicate i 1,E++ZeF d i,ZdH d d.parts.length++Zgy i)=some (Zgs d,E++ZeF d d.barriers.length,ZfB d):=by
  intro k
  induction k with
  | zero=>
   intro i hi
   have:i=d.barriers.length:=by omega
   subst this
   rw[Zcn]
   simp only[ZdR,ZhX,cond_false]
   rfl
  | succ k ih=>
   intro i hi
   have hi':i<d.barriers.length:=by omega
   have hx:d.barriers[i]? = some d.barriers[i]:=List.getElem?_eq_getElem hi'
   have hm:=List.mem_of_getElem? hx
   have hsz:=hz.i _ hm
   have hB:=ZmK hz i
   have lp_:(ZdH d d.parts.length++Zgy i).length=ZU d d.parts.length+i:=by rw[List.length_append,ZdG,Zol]
   have lw_:(Zh2 d d.parts.length++List.replicate i (1:Int)).length=ZU d d.parts.length+i:=by rw[List.length_append,Zky,List.length_replicate]
   have lput:=ZrY (ZdH d d.parts.length++Zgy i) (Zi.mk (-1) (i:Int)) (by rw[lp_];omega)
   rw[lp_,show((ZU d d.parts.length+i:Nat):Int)=ZhH d i from rfl] at lput
   have k4:=fun s=>Zrt d.barriers[i].ins (by omega) (ZeR r3 ((i:Int),Zh2 d d.parts.length++List.replicate i 1,E++ZeF d i,ZdH d d.parts.length++Zgy i) d.barriers[i]) (fun q=>⟨Zg7 d q,ZhH d i⟩) (fun j x s hj hx hb=>by
    have ed:∀b c,ZX b c s=some ():=fun b c=>by unfold ZX;rw[hb];rfl
    simp only[ZeR,Zg5 hj,cond_true,Zci hx,Option.bind_some,h5,ZpL (g.ins _ hm x (List.mem_of_getElem? hx)),lput,ed,ZaW hj (show d.barriers[i].ins.length<9223372036854775808 by omega)]) (fun s=>by simp only[ZeR,ZhX,cond_false]) s
   have k5:=fun s=>Zrt d.barriers[i].outs (by omega) (ZeS r3 ((i:Int),Zh2 d d.parts.length++List.replicate i 1,E++ZeF d i,ZdH d d.parts.length++Zgy i) d.barriers[i]) (fun q=>⟨ZhH d i,Zgb d q⟩) (fun j x s hj hx hb=>by
    have ed:∀b c,ZX b c s=some ():=fun b c=>by unfold ZX;rw[hb];rfl
    simp only[ZeS,Zg5 hj,cond_true,Zci hx,Option.bind_some,h4,Zq4 (g.outs _ hm x (List.mem_of_getElem? hx)),lput,ed,ZaW hj (show d.barriers[i].outs.length<9223372036854775808 by omega)]) (fun s=>by simp only[ZeS,ZhX,cond_false]) s
   have ih':=ih (i+1) (by omega)
   have eB:ZeF d (i+1)=ZeF d i++ZoA d (ZhH d i) d.barriers[i]:=by
    unfold ZeF
    rw[Zc3,hx]
   rw[eB,ZrI,List.replicate_succ',ZoA,← List.append_assoc,← List.append_assoc,← List.append_assoc,← List.append_assoc] at ih'
   rw[Zcn]
   simp only[ZdR,Zg5 hi',cond_true,Zci hx,Option.bind_some,Zh6 _ _ (show(Zh2 d d.parts.length++List.replicate i (1:Int)).length≤10000 by rw[lw_];omega) (show(ZdH d d.parts.length++Zgy i).length≤10000 by rw[lp_];omega),k4 (E++ZeF d i) (by rw[List.length_append];omega),
    k5 (E++ZeF d i++List.map (fun q=>⟨Zg7 d q,ZhH d i⟩) d.barriers[i].ins) (by simp only[List.length_append,List.length_map];omega),ZaW hi' (show d.barriers.length<9223372036854775808 by omega)]
   exact ih'
 have:=key d.barriers.length 0 (by omega)
 simpa [ZeF,upto,Zgy] using this
theorem ZsI {d:Zn} (g:Zdu d) (hz:Zmc d):ZrS (Zcv d).dag:=by
 have hE:=ZoZ g
 have hB:=ZmK hz d.barriers.length
 have hbl:=g.bl
 have hF:=Zi3 g d.parts.length
 have hpl:=g.pl
 constructor
 ·show(Zgs d).length<_
  unfold Zgs
  rw[List.length_append,Zky,List.length_replicate]
  omega
 ·show(Zhw d).length<_
  unfold Zhw
  rw[List.length_append]
  omega
noncomputable def ZnS (d:Zn):Zm4×Int:=
 bif Zeb d==0 then (bif Zib (Zcv d).dag==0 then (Zcv d,0) else (⟨⟨[],[]⟩,[]⟩,70)) else (⟨⟨[],[]⟩,[]⟩,Zeb d)
theorem ZuU {d:Zn} (hz:Zmc d):Zgp d=some (ZnS d):=by
 have hs:=hz.short
 unfold Zgp ZnS
 rw[Zul d hs,Option.bind_some]
 by_cases hc:Zeb d=0
 ·have g:=Zki hc
  have hE:=ZoZ g
  have h3:(Ze3 d d.parts.length++Zie d).length≤1000:=by unfold ZjY at hE;rw[List.length_append] at hE;omega
  have h4:(Ze3 d d.parts.length).length≤1000:=by rw[List.length_append] at h3;omega
  rw[hc]
  simp only[bne_self_eq_false,cond_false,beq_self_eq_true,cond_true,Zt6 g (ZBs hs (by have:=g.fl;omega) hc),Option.bind_some]
  rw[ZtN g rfl rfl _ h4]
  simp only[Option.bind_some]
  rw[ZrM g rfl rfl _ h3]
  simp only[Option.bind_some]
  rw[show Ze3 d d.parts.length++Zie d++ZiD d=ZjY d from rfl,ZvP g hz rfl rfl _ hE]
  simp only[Option.bind_some]
  rw[show ZbR.mk (Zgs d) (ZjY d++ZeF d d.barriers.length)=(Zcv d).dag from rfl,Zo4 _ (ZsI g hz),Option.bind_some]
  by_cases hk:Zib (Zcv d).dag=0
  ·rw[hk];rfl
  ·rw[beq_false_of_ne hk,bne,beq_false_of_ne hk];rfl
 ·rw[beq_false_of_ne hc,bne,beq_false_of_ne hc];rfl
end Go.Proofs.YtljgncbdagmeeaaDoor
namespace Go.Proofs.YtljgncbdagmeeaaDoor
open Go Go.Proofs.YtljgncbdagmeeaaDoorE
set_option linter.unusedVariables false
set_option linter.unusedSimpArgs false
theorem Zzj {d:Zn} (g:Zdu d) {n:Nat} (hn:n<d.parts.length):1≤Zgx d.parts (n:Int):=by
 unfold Zgx
 rw[Int.toNat_natCast,List.getElem?_eq_getElem hn]
 exact(g.g.w _ (List.getElem_mem hn)).1
theorem ZuM {d:Zn} (g:ZlC d) {n i:Nat} (hi:i<nt d n):1≤cut d n (i+1)∧cut d n (i+1)≤Zgx d.parts (n:Int)-1:=by
 obtain⟨_,_,h3,h4,h5⟩:=Zfn g hi
 have:=(g.f _ h5).2
 rw[h3,h4] at this
 exact this
theorem Zx7 {d:Zn} (g:Zdu d) {n:Nat} (hn:n<d.parts.length) {i:Nat} (hi:i≤nt d n):1≤cut d n (i+1)-cut d n i:=by
 have hw:=Zzj g hn
 by_cases hl:i<nt d n
 ·have h1:=ZuM g.g hl
  cases i with
  | zero=>have:cut d n 0=0:=rfl;omega
  | succ j=>
   have:=Znd g.g (show j<j+1 by omega) hl
   rw[(Zfn g.g (show j<nt d n by omega)).2.2.2.1,(Zfn g.g hl).2.2.2.1] at this
   omega
 ·have:i=nt d n:=by omega
  subst this
  rw[ZuZ]
  cases h0:nt d n with
  | zero=>have:cut d n 0=0:=rfl;omega
  | succ j=>
   have:=ZuM g.g (show j<nt d n by omega)
   omega
theorem ZwW {d:Zn} (g:Zdu d) {n:Nat} (hn:n<d.parts.length):∀x∈Zlt d n,1≤x:=fun x hx=>by
 unfold Zlt Zi7 at hx
 obtain⟨i,hi,rfl⟩:=List.mem_map.1 hx
 rw[List.mem_range] at hi
 exact Zx7 g hn (by omega)
theorem ZvT {d:Zn} (g:Zdu d):∀x∈Zgs d,1≤x:=fun x hx=>by
 unfold Zgs at hx
 rcases List.mem_append.1 hx with hx | hx
 ·unfold Zh2 upto at hx
  obtain⟨n,hn,hx⟩:=List.mem_flatMap.1 hx
  exact ZwW g (List.mem_range.1 hn) x hx
 ·rw[(List.mem_replicate.1 hx).2];exact Int.le_refl _
theorem ZxV (d:Zn) (g:ZlC d) (n:Nat):nt d n=d.futures.countP fun f=>f.user==(n:Int):=by
 show(tch d n).length=_
 rw[Zqs (ZmP g n)]
 unfold ZoD
 rw[Znz]
theorem ZqL {γ:Type} (p q r:γ→Bool) (h:∀x,r x=(p x || q x)) (h2:∀x,¬(p x=true∧q x=true)):∀l:List γ,l.countP r=l.countP p+l.countP q
 | []=>rfl
 | x :: l=>by
  rw[List.countP_cons,List.countP_cons,List.countP_cons,ZqL p q r h h2 l,h x]
  have:=h2 x
  cases hp:p x<;>cases hq:q x<;>simp_all<;>omega
theorem Zns {d:Zn} (g:Zdu d):∀k,ZU d k=k+d.futures.countP fun f=>decide (0≤f.user)&&decide (f.user<(k:Int))
 | 0=>by
  have:(d.futures.countP fun f=>decide (0≤f.user)&&decide (f.user<((0:Nat):Int)))=0:=by
   rw[List.countP_eq_zero]
   intro f _
   simp only[Bool.and_eq_true,decide_eq_true_eq]
   omega
  rw[this];rfl
 | k+1=>by
  rw[ZqL (fun f:Zk=>decide (0≤f.user)&&decide (f.user<(k:Int))) (fun f=>f.user==(k:Int)) (fun f=>decide (0≤f.user)&&decide (f.user<((k+1:Nat):Int))) (fun f=>by
   rw[Bool.eq_iff_iff]
   simp only[Bool.and_eq_true,Bool.or_eq_true,decide_eq_true_eq,beq_iff_eq]
   omega) (fun f=>by
   simp only[Bool.and_eq_true,decide_eq_true_eq,beq_iff_eq]
   omega)]
  show ZU d k+(nt d k+1)=_
  rw[Zns g k,ZxV d g.g k]
  omega
theorem ZkO {d:Zn} (g:Zdu d):ZU d d.parts.length=d.parts.length+d.futures.length:=by
 rw[Zns g,List.countP_eq_length.2 fun f hf=>?_]
 have:=g.user hf
 have h1:=this.1
 have h2:=this.2
 simp only[Bool.and_eq_true,decide_eq_true_eq]
 omega
theorem Zp5 {d:Zn} (g:Zdu d):(Zgs d).length=d.parts.length+d.futures.length+d.barriers.length:=by
 unfold Zgs
 rw[List.length_append,Zky,List.length_replicate,ZkO g]
theorem Zph {d:Zn} (g:Zdu d):(ZfB d).length=d.parts.length+d.futures.length+d.barriers.length:=by
 unfold ZfB
 rw[List.length_append,ZdG,Zol,ZkO g]
theorem ZtJ (d:Zn):(ZnS d=(Zcv d,0)∧Zeb d=0∧Zib (Zcv d).dag=0)∨((ZnS d).1=⟨⟨[],[]⟩,[]⟩∧(ZnS d).2≠0):=by
 unfold ZnS
 by_cases hc:Zeb d=0
 ·rw[hc]
  by_cases hk:Zib (Zcv d).dag=0
  ·rw[hk];exact .inl ⟨rfl,rfl,rfl⟩
  ·rw[beq_false_of_ne hk];exact .inr ⟨rfl,by show(70:Int)≠0;omega⟩
 ·rw[beq_false_of_ne hc];exact .inr ⟨rfl,hc⟩
end Go.Proofs.YtljgncbdagmeeaaDoor
namespace Go.Proofs.YtljgncbdagmeeaaDoor
open Go Go.Proofs.YtljgncbdagmeeaaDoorE Go.Sort
set_option linter.unusedVariables false
set_option linter.unusedSimpArgs false
set_option maxRecDepth 20000
def ZgG:Int→Int→Option Int:=fun x y=>some (bif decide (x<y) then (-1:Int) else 0)
theorem Zc7 (x y:Int):Z8 x y=some (decide (x<y)):=by
 unfold Z8 Zge
 simp only[bne_self_eq_false,cond_false,Option.bind_some]
 cases decide (x<y)<;>rfl
theorem Zdd (x y:Int):ZgG x y=some (bif decide (x<y) then (-1:Int) else 0):=rfl
theorem Zb0 (b:Bool):decide ((bif b then (-1:Int) else 0)<0)=b:=by cases b<;>rfl
theorem ZG (b:Int):Zbo b=Z2 b ZgG:=by
 funext s
 simp only[Zbo,Z2,Zc7,Zdd,Zb0,Option.bind_some]
theorem ZJ (b:Int) (c:Int):Zbn b c=Zak b c ZgG:=by
 funext s
 simp only[Zbn,Zak,Zc7,Zdd,Zb0,Option.bind_some,ZG]
theorem ZY (b:Int) (c:Int) (m:List Int):Zat b c m=Z3 b c ZgG m:=by
 simp only[Zat,Z3,Zc7,Zdd,Zb0,Option.bind_some,ZG,ZJ]
theorem Zai (c:Int) (d:Int):ZbW c d=ZM c d ZgG:=by
 funext s
 simp only[ZbW,ZM,Zc7,Zdd,Zb0,Option.bind_some,ZG,ZJ,ZY]
theorem Zba (b:Int) (c:Int) (d:Int) (m:List Int):ZbF b c d m=ZaK b c d ZgG m:=by
 simp only[ZbF,ZaK,Zc7,Zdd,Zb0,Option.bind_some,ZG,ZJ,ZY,Zai]
theorem Zao (b:Int) (c:Int):ZbT b c=ZaG b c ZgG:=by
 funext s
 simp only[ZbT,ZaG,Zc7,Zdd,Zb0,Option.bind_some,ZG,ZJ,ZY,Zai,Zba]
theorem Zaw (b:Int):ZbV b=ZaJ b ZgG:=by
 funext s
 simp only[ZbV,ZaJ,Zc7,Zdd,Zb0,Option.bind_some,ZG,ZJ,ZY,Zai,Zba,Zao]
theorem Zbs (b:Int) (c:Int) (m:List Int):Za3 b c m=Zag b c ZgG m:=by
 simp only[Za3,Zag,Zc7,Zdd,Zb0,Option.bind_some,ZG,ZJ,ZY,Zai,Zba,Zao,Zaw]
theorem ZcF (b:Int) (c:Int) (m:List Int) (k:Int):Zbv b c m k=ZaY b c ZgG m k:=by
 simp only[Zbv,ZaY,Zc7,Zdd,Zb0,Option.bind_some,ZG,ZJ,ZY,Zai,Zba,Zao,Zaw,Zbs]
theorem ZcW (b:Int) (c:Int) (d:Int) (m:List Int) (k:Int):Zbw b c d m k=ZaX b c d ZgG m k:=by
 simp only[Zbw,ZaX,Zc7,Zdd,Zb0,Option.bind_some,ZG,ZJ,ZY,Zai,Zba,Zao,Zaw,Zbs,ZcF]
theorem Zaj (b:Int) (m:List Int) (k:Int):ZaM b m k=Zad b ZgG m k:=by
 simp only[ZaM,Zad,Zc7,Zdd,Zb0,Option.bind_some,ZG,ZJ,ZY,Zai,Zba,Zao,Zaw,Zbs,ZcF,ZcW]
theorem Za5 (b:Int) (c:Int) (m:List Int):ZaI b c m=ZT b c ZgG m:=by
 simp only[ZaI,ZT,Zc7,Zdd,Zb0,Option.bind_some,ZG,ZJ,ZY,Zai,Zba,Zao,Zaw,Zbs,ZcF,ZcW,Zaj]
theorem Zap  : Zbt  = Zaa :=by
 funext s
 simp only[Zbt,Zaa,Zc7,Zdd,Zb0,Option.bind_some,ZG,ZJ,ZY,Zai,Zba,Zao,Zaw,Zbs,ZcF,ZcW,Zaj,Za5]
theorem Za8 (b:Int) (c:Int) (m:List Int):ZaA b c m=ZP b c ZgG m:=by
 simp only[ZaA,ZP,Zc7,Zdd,Zb0,Option.bind_some,ZG,ZJ,ZY,Zai,Zba,Zao,Zaw,Zbs,ZcF,ZcW,Zaj,Za5,Zap]
theorem ZW (c:Int):ZaT c=ZK c ZgG:=by
 funext s s1
 simp only[ZaT,ZK,Zc7,Zdd,Zb0,Option.bind_some,ZG,ZJ,ZY,Zai,Zba,Zao,Zaw,Zbs,ZcF,ZcW,Zaj,Za5,Zap,Za8]
theorem Z5  : ZaQ  = ZS ZgG:=by
 funext s
 simp only[ZaQ,ZS,Zc7,Zdd,Zb0,Option.bind_some,ZG,ZJ,ZY,Zai,Zba,Zao,Zaw,Zbs,ZcF,ZcW,Zaj,Za5,Zap,Za8,ZW]
theorem Z9 (c:Int):Zan c=ZH c ZgG:=by
 funext s
 simp only[Zan,ZH,Zc7,Zdd,Zb0,Option.bind_some,ZG,ZJ,ZY,Zai,Zba,Zao,Zaw,Zbs,ZcF,ZcW,Zaj,Za5,Zap,Za8,ZW,Z5]
theorem Zac (b:Int) (c:Int):ZaS b c=ZR b c ZgG:=by
 funext s
 simp only[ZaS,ZR,Zc7,Zdd,Zb0,Option.bind_some,ZG,ZJ,ZY,Zai,Zba,Zao,Zaw,Zbs,ZcF,ZcW,Zaj,Za5,Zap,Za8,ZW,Z5,Z9]
theorem Zas (b:Int) (c:Int) (m:List Int):ZaF b c m=ZQ b c ZgG m:=by
 simp only[ZaF,ZQ,Zc7,Zdd,Zb0,Option.bind_some,ZG,ZJ,ZY,Zai,Zba,Zao,Zaw,Zbs,ZcF,ZcW,Zaj,Za5,Zap,Za8,ZW,Z5,Z9,Zac]
theorem ZcM (b:Int) (c:Int) (d:Int) (m:List Int) (x:Int) (y:Int):ZbM b c d m x y=ZaB b c d m ZgG x y:=by
 funext k
 simp only[ZbM,ZaB,Zc7,Zdd,Zb0,Option.bind_some,ZG,ZJ,ZY,Zai,Zba,Zao,Zaw,Zbs,ZcF,ZcW,Zaj,Za5,Zap,Za8,ZW,Z5,Z9,Zac,Zas]
theorem Zc4 (b:Int) (d:Int) (m:List Int) (x:Int) (y:Int) (r:Int):ZbG b d m x y r=Zaz b d m ZgG x y r:=by
 funext k
 simp only[ZbG,Zaz,Zc7,Zdd,Zb0,Option.bind_some,ZG,ZJ,ZY,Zai,Zba,Zao,Zaw,Zbs,ZcF,ZcW,Zaj,Za5,Zap,Za8,ZW,Z5,Z9,Zac,Zas,ZcM]
theorem Zdy (b:Int) (s:Int×Int×List Int):ZbH b s=ZaC b ZgG s:=by
 funext k
 simp only[ZbH,ZaC,Zc7,Zdd,Zb0,Option.bind_some,ZG,ZJ,ZY,Zai,Zba,Zao,Zaw,Zbs,ZcF,ZcW,Zaj,Za5,Zap,Za8,ZW,Z5,Z9,Zac,Zas,ZcM,Zc4]
theorem Zd8 (b:Int) (r:Int) (s:Int×Int×List Int):ZbJ b s r=Zay b ZgG s r:=by
 funext k
 simp only[ZbJ,Zay,Zc7,Zdd,Zb0,Option.bind_some,ZG,ZJ,ZY,Zai,Zba,Zao,Zaw,Zbs,ZcF,ZcW,Zaj,Za5,Zap,Za8,ZW,Z5,Z9,Zac,Zas,ZcM,Zc4,Zdy]
theorem ZeZ (b:Int):ZbK b=Za0 b ZgG:=by
 funext s
 simp only[ZbK,Za0,Zc7,Zdd,Zb0,Option.bind_some,ZG,ZJ,ZY,Zai,Zba,Zao,Zaw,Zbs,ZcF,ZcW,Zaj,Za5,Zap,Za8,ZW,Z5,Z9,Zac,Zas,ZcM,Zc4,Zdy,Zd8]
theorem ZgI (b:Int) (c:Int) (d:Int) (m:List Int):Zv b c d m=Zs b c d ZgG m:=by
 simp only[Zv,Zs,Zc7,Zdd,Zb0,Option.bind_some,ZG,ZJ,ZY,Zai,Zba,Zao,Zaw,Zbs,ZcF,ZcW,Zaj,Za5,Zap,Za8,ZW,Z5,Z9,Zac,Zas,ZcM,Zc4,Zdy,Zd8,ZeZ]
theorem ZeB (b:Int) (s:Int×Int×List Int):Zbh b s=Zae b ZgG s:=by
 funext k
 simp only[Zbh,Zae,Zc7,Zdd,Zb0,Option.bind_some,ZG,ZJ,ZY,Zai,Zba,Zao,Zaw,Zbs,ZcF,ZcW,Zaj,Za5,Zap,Za8,ZW,Z5,Z9,Zac,Zas,ZcM,Zc4,Zdy,Zd8,ZeZ,ZgI]
theorem ZfR (b:Int) (r:Int) (s:Int×Int×List Int):Zbi b s r=Zaf b ZgG s r:=by
 funext k
 simp only[Zbi,Zaf,Zc7,Zdd,Zb0,Option.bind_some,ZG,ZJ,ZY,Zai,Zba,Zao,Zaw,Zbs,ZcF,ZcW,Zaj,Za5,Zap,Za8,ZW,Z5,Z9,Zac,Zas,ZcM,Zc4,Zdy,Zd8,ZeZ,ZgI,ZeB]
theorem Zhd (b:Int):Zbj b=Zar b ZgG:=by
 funext s
 simp only[Zbj,Zar,Zc7,Zdd,Zb0,Option.bind_some,ZG,ZJ,ZY,Zai,Zba,Zao,Zaw,Zbs,ZcF,ZcW,Zaj,Za5,Zap,Za8,ZW,Z5,Z9,Zac,Zas,ZcM,Zc4,Zdy,Zd8,ZeZ,ZgI,ZeB,ZfR]
theorem Zic (b:Int) (c:Int) (d:Int) (m:List Int):ZL b c d m=ZD b c d ZgG m:=by
 simp only[ZL,ZD,Zc7,Zdd,Zb0,Option.bind_some,ZG,ZJ,ZY,Zai,Zba,Zao,Zaw,Zbs,ZcF,ZcW,Zaj,Za5,Zap,Za8,ZW,Z5,Z9,Zac,Zas,ZcM,Zc4,Zdy,Zd8,ZeZ,ZgI,ZeB,ZfR,Zhd]
theorem ZmF (b:Int) (c:Int) (x:Int):Zbp b c x=Zax b c x:=by
 funext s
 simp only[Zbp,Zax,Zc7,Zdd,Zb0,Option.bind_some,ZG,ZJ,ZY,Zai,Zba,Zao,Zaw,Zbs,ZcF,ZcW,Zaj,Za5,Zap,Za8,ZW,Z5,Z9,Zac,Zas,ZcM,Zc4,Zdy,Zd8,ZeZ,ZgI,ZeB,ZfR,Zhd,Zic]
theorem Zoz (b:Int) (c:Int) (m:List Int):Zbe b c m=Zah b c ZgG m:=by
 simp only[Zbe,Zah,Zc7,Zdd,Zb0,Option.bind_some,ZG,ZJ,ZY,Zai,Zba,Zao,Zaw,Zbs,ZcF,ZcW,Zaj,Za5,Zap,Za8,ZW,Z5,Z9,Zac,Zas,ZcM,Zc4,Zdy,Zd8,ZeZ,ZgI,ZeB,ZfR,Zhd,Zic,ZmF]
theorem ZwV (rc:Int→Int→Int→(Int→Int→Option Int)→List Int→Option (List Int)) (rc':Int→Int→Int→List Int→Option (List Int)) (h:∀a b c l,rc' a b c l=rc a b c ZgG l):Zb3 rc'=ZV ZgG rc:=by
 funext s
 simp only[Zb3,ZV,Zc7,Zdd,Zb0,Option.bind_some,h,ZY,Zba,Zbs,ZcF,ZcW,Zaj,Za5,Za8,Zas,ZgI,Zic,Zoz]
theorem Zvo:∀(n:Nat) (a b c:Int) (l:List Int),Zbf n a b c l=ZZ n a b c ZgG l
 | 0,_,_,_,_=>rfl
 | n+1,a,b,c,l=>by
  show Zb7 (Zbf n) a b c l=ZaD (ZZ n) a b c ZgG l
  unfold Zb7 ZaD
  rw[ZwV (ZZ n) (Zbf n) (Zvo n)]
theorem Zws (l:List Int):Zcz l=ZaN ZgG l:=by
 unfold Zcz ZaN ZeI Zds
 simp only[Zvo]
theorem Zvw (l:List Int) (hl:l.length≤1000):∃r:List Int,Zcz l=some r∧r.Perm l∧r.Pairwise (fun x y=>x≤y):=by
 have hc:Zqq ZgG (fun x y=>bif decide (x<y) then (-1:Int) else 0) (fun _=>True):=fun x y _ _=>rfl
 have e:∀x y:Int,ltC (fun x y=>bif decide (x<y) then (-1:Int) else 0) x y=decide (x<y):=fun x y=>Zb0 _
 have hs:SWO (ltC fun x y=>bif decide (x<y) then (-1:Int) else 0):=by
  refine⟨fun x=>?_,fun x y z h1 h2=>?_,fun x y z h1 h2=>?_⟩<;>simp only[e,decide_eq_true_eq,decide_eq_false_iff_not] at *<;>omega
 obtain⟨r,h1,h2,h3⟩:=ZxW hc hs l hl (fun _ _=>trivial)
 refine⟨r,(Zws l).trans h1,h2,h3.imp fun {x y} h=>?_⟩
 rw[e,decide_eq_false_iff_not] at h
 omega
end Go.Proofs.YtljgncbdagmeeaaDoor
namespace Go.Proofs.YtljgncbdagmeeaaDoor
open Go Go.Proofs.YtljgncbdagmeeaaDoorE
set_option linter.unusedVariables false
set_option linter.unusedSimpArgs false
theorem Zzz {g:ZbR} (h:ZiJ g) (n:Int):∃r,Zir g n=some r∧(∀z,z∈r↔∃e∈g.edges,e.dst=n∧e.src=z)∧r.length≤256:=by
 have hel:=h.el
 have key:=ZxZ g.edges (by omega) (fun e:Zo=>e.dst==n) (fun _ e=>e.src) (Zg0 g fun z0=>ZfD z0 n) (fun i x s hi hx=>by
  simp only[Zg0,Zg5 hi,cond_true,Zci hx,Option.bind_some,ZfD,ZaW hi h.short.e]
  cases x.dst==n<;>rfl) (fun s=>by simp only[Zg0,ZhX,cond_false]) [] (by simp)
 rw[List.nil_append] at key
 have hlen:(sel (fun e:Zo=>e.dst==n) (fun _ e=>e.src) 0 g.edges).length≤256:=Nat.le_trans (ZvI _ _ _ _) hel
 obtain⟨r,h1,h2,_⟩:=Zvw _ (Nat.le_trans hlen (by omega))
 refine⟨r,?_,fun z=>?_,by rw[h2.length_eq];exact hlen⟩
 ·unfold Zir ZlP
  simp only[key,Option.bind_some,h1]
 ·rw[h2.mem_iff,ZoJ]
  constructor
  ·rintro ⟨j,x,hx,h3,h4⟩
   exact⟨x,List.mem_of_getElem? hx,by simpa using h3,h4.symm⟩
  ·rintro ⟨e,he,h3,h4⟩
   obtain⟨j,hj⟩:=List.getElem?_of_mem he
   exact⟨j,e,hj,by simpa using h3,h4.symm⟩
noncomputable def ZwS (g:ZbR) (a b:Int):Bool:=@decide (Way g a b) (Classical.propDecidable _)
theorem Zxl {g:ZbR}{a b:Int} (h:Way g a b):ZwS g a b=true:=@decide_eq_true _ (Classical.propDecidable _) h
theorem ZwI {g:ZbR}{a b:Int} (h:¬Way g a b):ZwS g a b=false:=@decide_eq_false _ (Classical.propDecidable _) h
theorem Zwf {g:ZbR} (h:Zib g=0):∃l,Zin g=some l∧ZBX g l:=by
 obtain⟨hG,hA⟩:=Zn5 h
 obtain⟨l,h1,h2⟩:=Zqw hG hA
 refine⟨l,?_,h2⟩
 unfold Zin
 rw[Zo4 g hG.short,h,Option.bind_some]
 simp only[bne_self_eq_false,cond_false,h1,Option.bind_some,cond_true]
theorem Zsp {g:ZbR} (h:Zib g=0) (a b:Int):ZgZ g a b=some (ZwS g a b):=by
 obtain⟨hG,hA⟩:=Zn5 h
 obtain⟨l,h1,T⟩:=Zwf h
 have hwl:=hG.wl
 have hll:l.length≤64:=by rw[T.len];exact hwl
 have key:∀(k i:Nat) (fr:List Int),i+k=l.length→(∀z,z∈fr↔z=a∨(Way g a z∧∃j,j<i∧l[j]? = some z))→fr.length≤i+1→¬(Way g a b∧∃j,j<i∧l[j]? = some b) →
   lp (Zew g b l) ((i:Int),fr)=some (bif ZwS g a b then .inl () else .inr ()):=by
  intro k
  induction k with
  | zero=>
   intro i fr hi hm hl hn
   have:i=l.length:=by omega
   subst this
   rw[Zcn]
   simp only[Zew,ZhX,cond_false]
   have:¬Way g a b:=fun w=>hn ⟨w,by
    have hd:=w.dst_in hG
    have:=T.all b.toNat hd.2
    rw[show((b.toNat:Nat):Int)=b by omega] at this
    obtain⟨j,hj⟩:=List.getElem?_of_mem this
    exact⟨j,(List.getElem?_eq_some_iff.1 hj).1,hj⟩⟩
   rw[ZwI this];rfl
  | succ k ih=>
   intro i fr hi hm hl hn
   have hi':i<l.length:=by omega
   have hx:l[i]? = some l[i]:=List.getElem?_eq_getElem hi'
   obtain⟨ps,p1,p2,p3⟩:=Zzz hG l[i]
   have inner:=Zhs ps (Zfq b ((i:Int),fr) l[i] ps) (fun _ p=>fr.any fun x=>p==x) (fun _ _=>(bif l[i]==b then (.inl ():Unit⊕List Int) else .inr (fr++[l[i]]))) (.inr fr) (fun j p hj hp=>by
    simp only[Zfq,Zg5 hj,cond_true,Zci hp,Option.bind_some,Zte fr p (by omega),Zjf (show fr.length+1≤1073741824 by omega),ZaW hj (show ps.length<9223372036854775808 by omega)]
    cases fr.any (fun x=>p==x)<;>cases l[i]==b<;>rfl) (by simp only[Zfq,ZhX];rfl)
   rw[ZfE,Zj9] at inner
   have hw:(ps.any fun p=>fr.any fun x=>p==x)=true↔Way g a l[i]:=by
    rw[List.any_eq_true]
    constructor
    ·rintro ⟨p,hp,hq⟩
     obtain⟨q,hq1,hq2⟩:=List.any_eq_true.1 hq
     have:p=q:=by simpa using hq2
     subst this
     obtain⟨e,he,e1,e2⟩:=(p2 p).1 hp
     rcases(hm p).1 hq1 with hz | ⟨hz,_⟩
     ·rw[← e1,← hz,← e2];exact Way.one he
     ·rw[← e1];exact Way.more (by rw[e2];exact hz) he
    ·intro w
     generalize hni:l[i]=n at w
     cases w with
     | @one e he=>
      exact⟨e.src,(p2 _).2 ⟨e,he,hni.symm,rfl⟩,List.any_eq_true.2 ⟨e.src,(hm _).2 (.inl rfl),by simp⟩⟩
     | @more _ e w he=>
      obtain⟨j,j1,j2⟩:=T.topo i l[i] hx e he hni.symm
      exact⟨e.src,(p2 _).2 ⟨e,he,hni.symm,rfl⟩,List.any_eq_true.2 ⟨e.src,(hm _).2 (.inr ⟨w,j,j1,j2⟩),by simp⟩⟩
   rw[Zcn]
   simp only[Zew,Zg5 hi',cond_true,Zci hx,Option.bind_some,p1,inner,ZaW hi' (show l.length<9223372036854775808 by omega)]
   by_cases hwi:Way g a l[i]
   ·rw[hw.2 hwi]
    simp only[cond_true]
    by_cases hb:l[i]=b
    ·rw[hb,Zxl (hb ▸ hwi)]
     simp only[beq_self_eq_true,cond_true]
    ·rw[beq_false_of_ne hb]
     simp only[cond_false]
     refine ih (i+1) (fr++[l[i]]) (by omega) (fun z=>?_) (by rw[List.length_append];simp only[List.length_cons,List.length_nil];omega) ?_
     ·rw[List.mem_append,List.mem_singleton,hm z]
      constructor
      ·rintro ((hz | ⟨hz,j,j1,j2⟩) | hz)
       ·exact .inl hz
       ·exact .inr ⟨hz,j,by omega,j2⟩
       ·exact .inr ⟨hz ▸ hwi,i,by omega,by rw[hx,hz]⟩
      ·rintro (hz | ⟨hz,j,j1,j2⟩)
       ·exact .inl (.inl hz)
       ·by_cases hj:j<i
        ·exact .inl (.inr ⟨hz,j,hj,j2⟩)
        ·have:j=i:=by omega
         subst this
         rw[hx] at j2
         exact .inr (Option.some.inj j2).symm
     ·rintro ⟨w,j,j1,j2⟩
      by_cases hj:j<i
      ·exact hn ⟨w,j,hj,j2⟩
      ·have:j=i:=by omega
       subst this
       rw[hx] at j2
       exact hb (Option.some.inj j2)
   ·have hf:(ps.any fun p=>fr.any fun x=>p==x)=false:=by
     cases hc:ps.any fun p=>fr.any fun x=>p==x with
     | false=>rfl
     | true=>exact absurd (hw.1 hc) hwi
    rw[hf]
    simp only[cond_false]
    refine ih (i+1) fr (by omega) (fun z=>?_) (by omega) ?_
    ·rw[hm z]
     constructor
     ·rintro (hz | ⟨hz,j,j1,j2⟩)
      ·exact .inl hz
      ·exact .inr ⟨hz,j,by omega,j2⟩
     ·rintro (hz | ⟨hz,j,j1,j2⟩)
      ·exact .inl hz
      ·by_cases hj:j<i
       ·exact .inr ⟨hz,j,hj,j2⟩
       ·have:j=i:=by omega
        subst this
        rw[hx] at j2
        exact absurd (Option.some.inj j2 ▸ hz) hwi
    ·rintro ⟨w,j,j1,j2⟩
     by_cases hj:j<i
     ·exact hn ⟨w,j,hj,j2⟩
     ·have:j=i:=by omega
      subst this
      rw[hx] at j2
      exact hwi (Option.some.inj j2 ▸ w)
 have k0:=key l.length 0 [a] (by omega) (fun z=>by
  rw[List.mem_singleton]
  constructor
  ·exact .inl
  ·rintro (hz | ⟨_,j,j1,_⟩)
   ·exact hz
   ·omega) (by simp) (by rintro ⟨_,j,j1,_⟩;omega)
 unfold ZgZ
 rw[h1,Option.bind_some,show lp (Zew g b l) (0,[a])=_ from k0]
 cases ZwS g a b<;>rfl
end Go.Proofs.YtljgncbdagmeeaaDoor
namespace Go.Proofs.YtljgncbdagmeeaaDoor
open Go Go.Proofs.YtljgncbdagmeeaaDoorE
set_option linter.unusedVariables false
set_option linter.unusedSimpArgs false
theorem ZsD (d:Zn) {m n:Nat} (h:m≤n):ZU d m≤ZU d n:=by
  induction n with
  | zero => have : m = 0 := by omega
            subst this;exact Nat.le_refl _
  | succ n ih=>
    by_cases hm:m=n+1
    · subst hm;exact Nat.le_refl _
    · have:=ih (by omega)
      show ZU d m≤ZU d n+(nt d n+1)
      omega
theorem Ziu (d:Zn) (n:Nat):ZU d (n+1)=ZU d n+nt d n+1:=by show ZU d n+(nt d n+1)=_;omega
theorem Zei (d:Zn) {m n j:Nat} (h:m<n) (hj:j≤nt d m):ZU d m+j<ZU d n:=by
  have:=ZsD d (show m+1≤n by omega)
  have:=Ziu d m
  omega
theorem Ztf (d:Zn):∀(k i:Nat),i<ZU d k→∃n j,n<k∧j≤nt d n∧i=ZU d n+j
  | 0,i,h=>absurd h (by show ¬i<0;omega)
  | k+1,i,h=>by
    have hs:=Ziu d k
    by_cases hi:i<ZU d k
    · obtain⟨n,j,h1,h2,h3⟩:=Ztf d k i hi
      exact⟨n,j,by omega,h2,h3⟩
    · exact⟨k,i-ZU d k,by omega,by omega,by omega⟩
theorem Zgl (d:Zn) {m n i j:Nat} (hi:i≤nt d m) (hj:j≤nt d n) (h:ZU d m+i=ZU d n+j):m=n∧i=j:=by
  rcases Nat.lt_trichotomy m n with hlt | heq | hlt
  · have:=Zei d hlt hi;omega
  · subst heq;exact⟨rfl,by omega⟩
  · have:=Zei d hlt hj;omega
theorem Zpd (d:Zn):∀(k n j:Nat),n<k→j≤nt d n→(ZdH d k)[ZU d n+j]? = some ⟨(n:Int),(j:Int)⟩
  | 0,n,j,h,_=>absurd h (by omega)
  | k+1,n,j,h,hj=>by
    rw[show ZdH d (k+1)=ZdH d k++Zfv k (nt d k+1) from Zc3 _ k]
    by_cases hn:n<k
    · rw[List.getElem?_append_left (by rw[ZdG];exact Zei d hn hj)]
      exact Zpd d k n j hn hj
    · have:n=k:=by omega
      subst this
      rw[List.getElem?_append_right (by rw[ZdG];omega),ZdG,Nat.add_sub_cancel_left]
      unfold Zfv
      rw[List.getElem?_map,List.getElem?_range (by omega)]
      rfl
theorem ZpF {d:Zn}{n j:Nat} (hn:n<d.parts.length) (hj:j≤nt d n):(ZfB d)[ZU d n+j]? = some ⟨(n:Int),(j:Int)⟩:=by
  unfold ZfB
  rw[List.getElem?_append_left (by rw[ZdG];exact Zei d hn hj)]
  exact Zpd d _ n j hn hj
theorem Zoi {d:Zn}{i:Nat}{x:Zi} (h:(ZfB d)[i]? = some x):(∃n j,n<d.parts.length∧j≤nt d n∧i=ZU d n+j∧x=⟨(n:Int),(j:Int)⟩)∨(ZU d d.parts.length≤i∧x.part = -1):=by
  by_cases hi:i<ZU d d.parts.length
  · obtain⟨n,j,h1,h2,h3⟩:=Ztf d _ i hi
    subst h3
    rw[ZpF h1 h2] at h
    exact .inl ⟨n,j,h1,h2,rfl,(Option.some.inj h).symm⟩
  · refine .inr ⟨by omega,?_⟩
    unfold ZfB at h
    rw[List.getElem?_append_right (by rw[ZdG];omega)] at h
    have:=List.mem_of_getElem? h
    unfold Zgy at this
    obtain⟨k,_,rfl⟩:=List.mem_map.1 this
    rfl
theorem ZsZ {d:Zn} (g:Zdu d) {z:Int} (h:inR d z):ZgV (Zcv d) (Zi.mk z 0)=some (Zgb d z):=by
  have hlen:(ZfB d).length<9223372036854775808:=by rw[Zph g];have:=g.pl;have:=g.fl;have:=g.bl;omega
  have ez:((z.toNat:Nat):Int)=z:=Int.toNat_of_nonneg h.1
  have key:=Zhs (ZfB d) (Zeq (Zcv d) (Zi.mk z 0)) (fun _ x=>(x.part==z)&&((x.step==0)&&true)) (fun i _=>(i:Int)) (-1) (fun i x hi hx=>by
    have hi2:i<(Zcv d).pieces.length:=hi
    have hx2:(Zcv d).pieces[i]? = some x:=hx
    simp only[Zeq,Zg5 hi2,cond_true,Zci hx2,Option.bind_some,ZaW hi2 hlen]
    cases (x.part==z)<;>cases (x.step==0)<;>rfl) (by
    show Zeq (Zcv d) (Zi.mk z 0) ((Zcv d).pieces.length:Int)=_
    simp only[Zeq,ZhX];rfl)
  have hp:=ZpF h.2 (Nat.zero_le (nt d z.toNat))
  rw[Nat.add_zero] at hp
  have hs:=Zry (fun(_:Nat) (x:Zi)=>(x.part==z)&&((x.step==0)&&true)) (fun i _=>(i:Int)) (-1) (ZfB d) 0 (ZU d z.toNat) _ hp (by simp[ez]) (fun k y hk hy=>by
    rcases Zoi hy with⟨n,j,h1,h2,h3,rfl⟩ | ⟨h1,h2⟩
    · rw[Bool.and_true,Bool.and_eq_false_iff]
      by_cases hn:n=z.toNat
      · subst hn
        exact .inr (beq_false_of_ne (by show(j:Int)≠0;omega))
      · exact .inl (beq_false_of_ne (by show(n:Int)≠z;omega))
    · have h0:=h.1
      rw[beq_false_of_ne (show y.part≠z by omega)]
      rfl)
  unfold ZgV
  rw[key,hs]
  simp only[Option.bind_some,Nat.zero_add]
  rfl
theorem Zs8 (zs:List (Int×Int)) (p:Int) (hp:0≤p) (i:Nat):∀k,i<k→(pc zs i).1=p→(∀j,i<j→j<k→(pc zs j).1≠p)→Zgf zs p k=(i:Int)
  | 0,h,_,_=>absurd h (by omega)
  | k+1,h,h1,h2=>by
    unfold Zgf
    by_cases hk:k=i
    · subst hk
      rw[h1,bne_self_eq_false,decide_eq_false (show ¬p<0 by omega)]
      rfl
    · have:=h2 k (by omega) (by omega)
      rw[bne_iff_ne.2 this]
      exact Zs8 zs p hp i k (by omega) h1 fun j a b=>h2 j a (by omega)
theorem Zsn {d:Zn} (g:Zdu d) {z:Int} (h:inR d z):Zg4 (Zcv d) z=some (Zg7 d z):=by
  have hlen:(ZfB d).length≤1000:=by rw[Zph g];have:=g.pl;have:=g.fl;have:=g.bl;omega
  have ez:((z.toNat:Nat):Int)=z:=Int.toNat_of_nonneg h.1
  have hp:=ZpF h.2 (Nat.le_refl (nt d z.toNat))
  have hpc:∀(i:Nat) x,(ZfB d)[i]? = some x→(pc (List.map (fun x:Zi=>(x.part,x.step)) (ZfB d)) i).1=x.part:=fun i x hx=>by
    unfold pc
    rw[List.getElem?_map,hx]
    rfl
  have hi:ZU d z.toNat+nt d z.toNat<(ZfB d).length:=(List.getElem?_eq_some_iff.1 hp).1
  have hs:=Zs8 (List.map (fun x:Zi=>(x.part,x.step)) (ZfB d)) z h.1 (ZU d z.toNat+nt d z.toNat) (ZfB d).length hi (by rw[hpc _ _ hp];exact ez) (fun j h1 h2=>by
    have hy:=List.getElem?_eq_getElem h2
    rw[hpc _ _ hy]
    rcases Zoi hy with⟨n,m,m1,m2,m3,m4⟩ | ⟨_,m2⟩
    · rw[m4]
      show(n:Int)≠z
      intro hc
      have:n=z.toNat:=by omega
      subst this
      omega
    · rw[m2];have:=h.1;omega)
  unfold Zg4 Zsh
  rw[List.length_map,Zjf (show(Zcv d).pieces.length≤1073741824 by show(ZfB d).length≤_;omega)]
  simp only[cond_true,Option.bind_some]
  show some (Zgf (List.map (fun x:Zi=>(x.part,x.step)) (ZfB d)) z (ZfB d).length)=_
  rw[hs]
  unfold Zg7
  rw[Ziu]
  congr 1
  omega
def ZsQ (g:ZbR) (a b:Int):Prop:=a=b∨Way g a b
theorem ZsQ.way {g:ZbR}{a b c:Int} (h:ZsQ g a b) (w:Way g b c):Way g a c:=by
  rcases h with rfl | h
  · exact w
  · exact h.trans w
end Go.Proofs.YtljgncbdagmeeaaDoor
namespace Go.Proofs.YtljgncbdagmeeaaDoor
open Go Go.Proofs.YtljgncbdagmeeaaDoorE
set_option linter.unusedVariables false
set_option linter.unusedSimpArgs false
theorem Zkp (d:Zn) (z:Int):Zgb d z=((ZU d z.toNat+0:Nat):Int):=rfl
theorem Zjj (d:Zn) (z:Int):Zg7 d z=((ZU d z.toNat+nt d z.toNat:Nat):Int):=by unfold Zg7;rw[Ziu];omega
theorem Zg2 {γ δ:Type} (f:γ→δ):∀l:List γ,l.Nodup→(∀x∈l,∀y∈l,f x=f y→x=y)→(l.map f).Nodup
 | [],_,_=>List.nodup_nil
 | x :: l,h,hf=>by
  rw[List.nodup_cons] at h
  rw[List.map_cons,List.nodup_cons]
  refine⟨fun hm=>?_,Zg2 f l h.2 fun a ha b hb=>hf a (by simp[ha]) b (by simp[hb])⟩
  obtain⟨y,hy,he⟩:=List.mem_map.1 hm
  have:=hf y (by simp[hy]) x (by simp) he
  exact h.1 (this ▸ hy)
theorem Zkb {γ:Type}{l m:List γ} (h1:l.Nodup) (h2:m.Nodup) (h:∀x∈l,x∉m):(l++m).Nodup:=by
 rw[List.nodup_append]
 exact⟨h1,h2,fun a ha b hb hab=>h a ha (hab ▸ hb)⟩
theorem ZmA {γ:Type} (B:Nat→List γ):∀k,(∀n,n<k→(B n).Nodup)→(∀m n x,m<n→n<k→x∈B m→x∉B n)→(upto B k).Nodup
 | 0,_,_=>List.nodup_nil
 | k+1,h1,h2=>by
  rw[Zc3]
  refine Zkb (ZmA B k (fun n hn=>h1 n (by omega)) fun m n x a b=>h2 m n x a (by omega)) (h1 k (by omega)) fun x hx=>?_
  unfold upto at hx
  obtain⟨m,hm,hx⟩:=List.mem_flatMap.1 hx
  exact h2 m k x (List.mem_range.1 hm) (by omega) hx
theorem Zk1 {γ:Type}{l:List γ} (h:∀(i j:Nat) x,i<j→l[i]? = some x→l[j]? ≠ some x):l.Nodup:=by
 rw[List.nodup_iff_pairwise_ne,List.pairwise_iff_getElem]
 intro i j hi hj hij he
 exact h i j l[i] hij (List.getElem?_eq_getElem hi) (by rw[List.getElem?_eq_getElem hj,he])
theorem ZqI {n:Nat}{l:List Int} (h:Zld n l=true):l.Nodup:=by
 unfold Zld at h
 simp only[Bool.and_eq_true,Bool.not_eq_true'] at h
 have step:∀(j:Nat) x y,l[j]? = some x→l[j+1]? = some y→x<y:=fun j x y hx hy=>by
  have hb:Znj n l (j+1) y=false:=by
   cases hb:Znj n l (j+1) y with
   | false=>rfl
   | true=>rw[(Zhk _ _ 0).2 ⟨j+1,y,hy,by simpa using hb⟩] at h;exact absurd h.1 (by simp)
  unfold Znj at hb
  rw[Bool.or_eq_false_iff] at hb
  have:=hb.2
  simp only[hx,decide_eq_false_iff_not] at this
  omega
 have rise:∀(j i:Nat) x y,i<j→l[i]? = some x→l[j]? = some y→x<y:=by
  intro j
  induction j with
  | zero=>intro i x y hi;omega
  | succ j ih=>
   intro i x y hi hx hy
   have hj:j<l.length:=by have:=(List.getElem?_eq_some_iff.1 hy).1;omega
   have hz:l[j]? = some l[j]:=List.getElem?_eq_getElem hj
   have h2:=step j _ y hz hy
   by_cases hij:i=j
   ·subst hij;rw[hx] at hz;have:=Option.some.inj hz;omega
   ·have:=ih i x _ (by omega) hx hz;omega
 exact Zk1 fun i j x hij hx hy=>by have:=rise j i x x hij hx hy;omega
theorem Zll {d:Zn} (h:Zeb d=0):Zgw (ZdI d) 0 d.edges=false∧d.barriers.any (Zeo d.parts.length)=false:=by
 unfold Zeb at h
 revert h
 cases ZiB d<;>cases ZkZ d<;>cases d.parts.any ZgA<;>cases Zgw (ZdI d) 0 d.edges<;>cases Zgw (ZdF d) 0 d.futures<;>cases d.barriers.any (Zeo d.parts.length)<;>simp
theorem Zsy {d:Zn} (h:Zeb d=0):d.edges.Nodup:=by
 have h1:=(Zll h).1
 refine Zk1 fun i j x hij hx hy=>?_
 have hb:ZdI d j x=false:=by
  cases hb:ZdI d j x with
  | false=>rfl
  | true=>rw[(Zhk _ _ 0).2 ⟨j,x,hy,by simpa using hb⟩] at h1;cases h1
 unfold ZdI at hb
 rw[Bool.or_eq_false_iff] at hb
 have:=List.any_eq_false.1 hb.2 x (List.mem_of_getElem? (i:=i) (by rw[List.getElem?_take_of_lt hij];exact hx))
 unfold Zj8 at this
 simp at this
theorem Zqf {d:Zn} (g:ZlC d):d.futures.Nodup:=Zk1 fun i j x hij hx hy=>g.ne i j x x hij hx hy ⟨rfl,rfl⟩
theorem Zug {d:Zn} (h:Zeb d=0):∀b∈d.barriers,b.ins.Nodup∧b.outs.Nodup:=fun b hb=>by
 have:=List.any_eq_false.1 (Zll h).2 b hb
 simp only[Zeo,Bool.or_eq_true,Bool.not_eq_true',not_or,Bool.not_eq_false,Bool.not_eq_true] at this
 exact⟨ZqI this.1,ZqI this.2.1⟩
def Zp0 (d:Zn) (e:Zo):Prop:=∃n j,n<d.parts.length∧j<nt d n∧e=⟨((ZU d n+j:Nat):Int),((ZU d n+(j+1):Nat):Int)⟩
def Zqv (d:Zn) (e:Zo):Prop:=∃s t,s<d.parts.length∧t<d.parts.length∧s≠t∧e=⟨((ZU d s+nt d s:Nat):Int),((ZU d t+0:Nat):Int)⟩
def ZqC (d:Zn) (e:Zo):Prop:=∃m u j,m<d.parts.length∧u<d.parts.length∧m≠u∧j<nt d u∧e=⟨((ZU d m+nt d m:Nat):Int),((ZU d u+(j+1):Nat):Int)⟩
def Zql (d:Zn) (i:Nat) (e:Zo):Prop:=∃n j,n<d.parts.length∧j≤nt d n∧(e=⟨((ZU d n+j:Nat):Int),ZhH d i⟩∨e=⟨ZhH d i,((ZU d n+j:Nat):Int)⟩)
theorem ZlO {d:Zn}{n:Nat} (hn:n<d.parts.length) {e:Zo} (h:e∈ZfX d n (nt d n)):Zp0 d e∧∃j,j<nt d n∧e.src=((ZU d n+j:Nat):Int):=by
 unfold ZfX at h
 obtain⟨j,hj,rfl⟩:=List.mem_map.1 h
 rw[List.mem_range] at hj
 exact⟨⟨n,j,hn,hj,rfl⟩,j,hj,rfl⟩
theorem ZjL {d:Zn}{e:Zo} (h:e∈Ze3 d d.parts.length):Zp0 d e:=by
 unfold Ze3 upto at h
 obtain⟨n,hn,h⟩:=List.mem_flatMap.1 h
 exact(ZlO (List.mem_range.1 hn) h).1
theorem ZjC {d:Zn} (g:Zdu d) {e:Zo} (h:e∈Zie d):Zqv d e:=by
 unfold Zie at h
 obtain⟨x,hx,rfl⟩:=List.mem_map.1 h
 have hs:=g.src hx
 have ht:=g.dst hx
 have hne:=(Zlz (g.g.e x hx)).2.2
 exact⟨x.src.toNat,x.dst.toNat,hs.2,ht.2,fun hc=>hne (by have:=hs.1;have:=ht.1;omega),by rw[Zjj,Zkp]⟩
theorem Zjx {d:Zn} (g:Zdu d) {e:Zo} (h:e∈ZiD d):ZqC d e:=by
 unfold ZiD at h
 obtain⟨x,hx,rfl⟩:=List.mem_map.1 h
 have hs:=g.maker hx
 have ht:=g.user hx
 have hne:=(Zlz (g.g.f x hx).1).2.2
 obtain⟨j,hj,hje⟩:=ZmZ g hx
 exact⟨x.maker.toNat,x.user.toNat,j,hs.2,ht.2,fun hc=>hne (by have:=hs.1;have:=ht.1;omega),hj,by rw[Zjj,ZoK g hx hj hje];rfl⟩
theorem ZnN {d:Zn} (g:Zdu d) {i:Nat}{b:Zu} (hb:b∈d.barriers) {e:Zo} (h:e∈ZoA d (ZhH d i) b):Zql d i e:=by
 unfold ZoA at h
 rcases List.mem_append.1 h with h | h
 ·obtain⟨q,hq,rfl⟩:=List.mem_map.1 h
  have:=g.ins b hb q hq
  exact⟨q.toNat,nt d q.toNat,this.2,Nat.le_refl _,.inl (by rw[Zjj])⟩
 ·obtain⟨q,hq,rfl⟩:=List.mem_map.1 h
  have:=g.outs b hb q hq
  exact⟨q.toNat,0,this.2,Nat.zero_le _,.inr (by rw[Zkp])⟩
theorem Zon {d:Zn} (g:Zdu d) {e:Zo} (h:e∈ZeF d d.barriers.length):∃i,i<d.barriers.length∧Zql d i e:=by
 unfold ZeF upto at h
 obtain⟨i,hi,h⟩:=List.mem_flatMap.1 h
 rw[List.mem_range] at hi
 rw[List.getElem?_eq_getElem hi] at h
 exact⟨i,hi,ZnN g (List.getElem_mem hi) h⟩
theorem Zig {a b c d:Int} (h:(⟨a,b⟩:Zo)=⟨c,d⟩):a=c∧b=d:=by cases h;exact⟨rfl,rfl⟩
theorem PE {d:Zn}{e:Zo} (h1:Zp0 d e) (h2:Zqv d e):False:=by
 obtain⟨n,j,hn,hj,rfl⟩:=h1
 obtain⟨s,t,hs,ht,hne,he⟩:=h2
 have:=(Zig he).2
 have:=Zgl d (m:=n) (n:=t) (i:=j+1) (j:=0) (by omega) (by omega) (by omega)
 omega
theorem PF {d:Zn}{e:Zo} (h1:Zp0 d e) (h2:ZqC d e):False:=by
 obtain⟨n,j,hn,hj,rfl⟩:=h1
 obtain⟨m,u,k,hm,hu,hne,hk,he⟩:=h2
 have:=(Zig he).1
 have:=Zgl d (m:=n) (n:=m) (i:=j) (j:=nt d m) (by omega) (by omega) (by omega)
 obtain⟨rfl,h⟩:=this
 omega
theorem EF {d:Zn}{e:Zo} (h1:Zqv d e) (h2:ZqC d e):False:=by
 obtain⟨s,t,hs,ht,hne,rfl⟩:=h1
 obtain⟨m,u,k,hm,hu,hne2,hk,he⟩:=h2
 have:=(Zig he).2
 have:=Zgl d (m:=t) (n:=u) (i:=0) (j:=k+1) (by omega) (by omega) (by omega)
 omega
def Zsa (d:Zn) (e:Zo):Prop:=(∃i:Nat,i<ZU d d.parts.length∧e.src=(i:Int))∧∃j:Nat,j<ZU d d.parts.length∧e.dst=(j:Int)
theorem Zp0.inner {d:Zn}{e:Zo} (h:Zp0 d e):Zsa d e:=by
 obtain⟨n,j,hn,hj,rfl⟩:=h
 exact⟨⟨_,Zei d hn (by omega),rfl⟩,⟨_,Zei d hn (by omega),rfl⟩⟩
theorem Zqv.inner {d:Zn}{e:Zo} (h:Zqv d e):Zsa d e:=by
 obtain⟨n,j,hn,hj,_,rfl⟩:=h
 exact⟨⟨_,Zei d hn (by omega),rfl⟩,⟨_,Zei d hj (by omega),rfl⟩⟩
theorem ZqC.inner {d:Zn}{e:Zo} (h:ZqC d e):Zsa d e:=by
 obtain⟨n,j,k,hn,hj,_,hk,rfl⟩:=h
 exact⟨⟨_,Zei d hn (by omega),rfl⟩,⟨_,Zei d hj (by omega),rfl⟩⟩
theorem ZnM {d:Zn}{i:Nat}{e:Zo} (h:Zsa d e) (hb:Zql d i e):False:=by
 obtain⟨⟨a,ha,ha2⟩,⟨b,hb1,hb2⟩⟩:=h
 obtain⟨n,j,hn,hj,rfl | rfl⟩:=hb
 ·have:ZhH d i=(b:Int):=hb2
  unfold ZhH at this
  omega
 ·have:ZhH d i=(a:Int):=ha2
  unfold ZhH at this
  omega
theorem Zzu {d:Zn}{i k:Nat}{e:Zo} (h1:Zql d i e) (h2:Zql d k e):i=k:=by
 obtain⟨n,j,hn,hj,h1⟩:=h1
 obtain⟨m,l,hm,hl,h2⟩:=h2
 have a1:=Zei d hn hj
 have a2:=Zei d hm hl
 unfold ZhH at h1 h2
 rcases h1 with rfl | rfl<;>rcases h2 with h2 | h2<;>have:=Zig h2<;>omega
theorem ZqN {d:Zn}{a b:Int} (ha:inR d a) (hb:inR d b) (h:Zg7 d a=Zg7 d b):a=b:=by
 rw[Zjj,Zjj] at h
 have:=(Zgl d (Nat.le_refl _) (Nat.le_refl _) (Int.ofNat.inj h)).1
 have:=ha.1;have:=hb.1
 omega
theorem Zpw {d:Zn}{a b:Int} (ha:inR d a) (hb:inR d b) (h:Zgb d a=Zgb d b):a=b:=by
 rw[Zkp,Zkp] at h
 have:=(Zgl d (Nat.zero_le _) (Nat.zero_le _) (Int.ofNat.inj h)).1
 have:=ha.1;have:=hb.1
 omega
theorem ZrO {d:Zn} (hc:Zeb d=0):(Zhw d).Nodup:=by
 have g:=Zki hc
 unfold Zhw ZjY
 refine Zkb (Zkb (Zkb ?_ ?_ ?_) ?_ ?_) ?_ ?_
 ·unfold Ze3
  refine ZmA _ _ (fun n hn=>?_) fun m n x hmn hn hx hy=>?_
  ·unfold ZfX
   refine Zg2 _ _ List.nodup_range fun a ha b hb hab=>?_
   have:=(Zig hab).1
   omega
  ·obtain⟨_,j,hj,h1⟩:=ZlO (show m<d.parts.length by omega) hx
   obtain⟨_,k,hk,h2⟩:=ZlO hn hy
   have:=Zgl d (m:=m) (n:=n) (i:=j) (j:=k) (by omega) (by omega) (by omega)
   omega
 ·unfold Zie
  refine Zg2 _ _ (Zsy hc) fun a ha b hb hab=>?_
  obtain⟨h1,h2⟩:=Zig hab
  have e1:=ZqN (g.src ha) (g.src hb) h1
  have e2:=Zpw (g.dst ha) (g.dst hb) h2
  cases a;cases b
  simp only at e1 e2
  rw[e1,e2]
 ·exact fun x hx hy=>PE (ZjL hx) (ZjC g hy)
 ·unfold ZiD
  refine Zg2 _ _ (Zqf g.g) fun a ha b hb hab=>?_
  obtain⟨_,h2⟩:=Zig hab
  obtain⟨j,hj,hje⟩:=ZmZ g ha
  obtain⟨k,hk,hke⟩:=ZmZ g hb
  rw[ZoK g ha hj hje,ZoK g hb hk hke] at h2
  have:=Zgl d (m:=a.user.toNat) (n:=b.user.toNat) (i:=j+1) (j:=k+1) (by omega) (by omega) (by omega)
  obtain⟨e1,e2⟩:=this
  rw[← hje,← hke,e1,show j=k by omega]
 ·intro x hx hy
  rcases List.mem_append.1 hx with hx | hx
  ·exact PF (ZjL hx) (Zjx g hy)
  ·exact EF (ZjC g hx) (Zjx g hy)
 ·unfold ZeF
  refine ZmA _ _ (fun i hi=>?_) fun m n x hmn hn hx hy=>?_
  ·rw[List.getElem?_eq_getElem hi]
   have hm:=List.getElem_mem hi
   obtain⟨r1,r2⟩:=Zug hc _ hm
   show(ZoA d (ZhH d i) d.barriers[i]).Nodup
   unfold ZoA
   refine Zkb (Zg2 _ _ r1 fun a ha b hb hab=>?_) (Zg2 _ _ r2 fun a ha b hb hab=>?_) fun x hx hy=>?_
   ·exact ZqN (g.ins _ hm a ha) (g.ins _ hm b hb) (Zig hab).1
   ·exact Zpw (g.outs _ hm a ha) (g.outs _ hm b hb) (Zig hab).2
   ·obtain⟨a,ha,rfl⟩:=List.mem_map.1 hx
    obtain⟨b,hb,hab⟩:=List.mem_map.1 hy
    have h1:=(Zig hab).1
    have hq:=g.ins _ hm a ha
    rw[Zjj] at h1
    have:=Zei d hq.2 (Nat.le_refl (nt d a.toNat))
    unfold ZhH at h1
    omega
  ·have hm':m<d.barriers.length:=by omega
   rw[List.getElem?_eq_getElem hm'] at hx
   rw[List.getElem?_eq_getElem hn] at hy
   have:=Zzu (ZnN g (List.getElem_mem hm') hx) (ZnN g (List.getElem_mem hn) hy)
   omega
 ·intro x hx hy
  obtain⟨i,hi,hb⟩:=Zon g hy
  rcases List.mem_append.1 hx with hx | hx
  ·rcases List.mem_append.1 hx with hx | hx
   ·exact ZnM (ZjL hx).inner hb
   ·exact ZnM (ZjC g hx).inner hb
  ·exact ZnM (Zjx g hx).inner hb
theorem Zre {d:Zn} (g:Zdu d) {e:Zo} (h:e∈Zhw d):Zp0 d e∨Zqv d e∨ZqC d e∨∃i,i<d.barriers.length∧Zql d i e:=by
 unfold Zhw ZjY at h
 rcases List.mem_append.1 h with h | h
 ·rcases List.mem_append.1 h with h | h
  ·rcases List.mem_append.1 h with h | h
   ·exact .inl (ZjL h)
   ·exact .inr (.inl (ZjC g h))
  ·exact .inr (.inr (.inl (Zjx g h)))
 ·exact .inr (.inr (.inr (Zon g h)))
theorem ZsW {d:Zn} (g:Zdu d) {e:Zo} (h:e∈Zhw d):Zhe (Zgs d).length e.src=true∧Zhe (Zgs d).length e.dst=true∧e.src≠e.dst:=by
 have hl:(Zgs d).length=ZU d d.parts.length+d.barriers.length:=by rw[Zp5 g,ZkO g]
 have inn:Zsa d e→Zhe (Zgs d).length e.src=true∧Zhe (Zgs d).length e.dst=true:=by
  rintro ⟨⟨i,h1,h2⟩,j,h3,h4⟩
  unfold Zhe
  simp only[Bool.and_eq_true,decide_eq_true_eq]
  omega
 rcases Zre g h with hk | hk | hk | ⟨i,hi,hk⟩
 ·refine⟨(inn hk.inner).1,(inn hk.inner).2,?_⟩
  obtain⟨n,j,hn,hj,rfl⟩:=hk
  show((ZU d n+j:Nat):Int)≠((ZU d n+(j+1):Nat):Int)
  omega
 ·refine⟨(inn hk.inner).1,(inn hk.inner).2,?_⟩
  obtain⟨s,t,hs,ht,hne,rfl⟩:=hk
  intro hc
  exact hne (Zgl d (Nat.le_refl _) (Nat.zero_le _) (Int.ofNat.inj hc)).1
 ·refine⟨(inn hk.inner).1,(inn hk.inner).2,?_⟩
  obtain⟨m,u,j,hm,hu,hne,hj,rfl⟩:=hk
  intro hc
  exact hne (Zgl d (Nat.le_refl _) (show j+1≤nt d u by omega) (Int.ofNat.inj hc)).1
 ·obtain⟨n,j,hn,hj,hk⟩:=hk
  have:=Zei d hn hj
  unfold Zhe ZhH at *
  simp only[Bool.and_eq_true,decide_eq_true_eq]
  rcases hk with rfl | rfl
  ·show(_∧_)∧(_∧_)∧((ZU d n+j:Nat):Int)≠((ZU d d.parts.length+i:Nat):Int)
   simp only
   omega
  ·show(_∧_)∧(_∧_)∧((ZU d d.parts.length+i:Nat):Int)≠((ZU d n+j:Nat):Int)
   simp only
   omega
theorem Zof (d:Zn):∀k,(Ze3 d k).length+k=ZU d k
 | 0=>rfl
 | k+1=>by
  have:=Zof d k
  have h2:=Ziu d k
  rw[show Ze3 d (k+1)=Ze3 d k++ZfX d k (nt d k) from Zc3 _ k,List.length_append,ZmL]
  omega
theorem Zv7 {d:Zn} (hc:Zeb d=0) {b:Zu} (hm:b∈d.barriers) (z:Int):(ZoA d z b).length≤32:=by
 have g:=Zki hc
 obtain⟨r1,r2⟩:=Zug hc b hm
 have l1:=(ZrX r1 (g.ins b hm)).1
 have l2:=(ZrX r2 (g.outs b hm)).1
 have:=g.pl
 unfold ZoA
 simp only[List.length_append,List.length_map]
 omega
theorem Zox {d:Zn} (hc:Zeb d=0):∀k,(ZeF d k).length≤32*k
 | 0=>Nat.le_refl _
 | k+1=>by
  have g:=Zki hc
  have ih:=Zox hc k
  unfold ZeF at ih ⊢
  rw[Zc3,List.length_append]
  split
  ·rename_i b hb
   have:=Zv7 hc (List.mem_of_getElem? hb) (ZhH d k)
   omega
  ·simp only[List.length_nil];omega
theorem ZsM {d:Zn} (hc:Zeb d=0):Zj0 (Zcv d).dag=0:=by
 have g:=Zki hc
 have hpl:=g.pl
 have hel:=g.el
 have hfl:=g.fl
 have hbl:=g.bl
 have hW:(Zcv d).dag.work.length≤64:=by show(Zgs d).length≤64;rw[Zp5 g];omega
 have hE:(Zcv d).dag.edges.length≤256:=by
  show(Zhw d).length≤256
  have h1:=Zof d d.parts.length
  have h2:=ZkO g
  have h3:=Zox hc d.barriers.length
  unfold Zhw ZjY Zie ZiD
  simp only[List.length_append,List.length_map]
  omega
 have h1:(Zcv d).dag.work.any ZhL=false:=List.any_eq_false.2 fun x hx=>by
  have hx:x∈Zgs d:=hx
  have:=ZvT g x hx
  have h2:x≤1000:=by
   unfold Zgs at hx
   rcases List.mem_append.1 hx with hx | hx
   ·unfold Zh2 upto at hx
    obtain⟨n,hn,hx⟩:=List.mem_flatMap.1 hx
    unfold Zlt Zi7 at hx
    obtain⟨i,hi,rfl⟩:=List.mem_map.1 hx
    have b0:=Zui g.g n i
    have b1:=Zui g.g n (i+1)
    omega
   ·rw[(List.mem_replicate.1 hx).2];omega
  unfold ZhL
  simp only[Bool.or_eq_true,decide_eq_true_eq,not_or]
  omega
 have h2:Zgw (ZmB (Zcv d).dag) 0 (Zcv d).dag.edges=false:=by
  cases hb:Zgw (ZmB (Zcv d).dag) 0 (Zcv d).dag.edges with
  | false=>rfl
  | true=>
   exfalso
   obtain⟨i,e,he,hbe⟩:=(Zhk _ _ 0).1 hb
   rw[Nat.zero_add] at hbe
   have he:(Zhw d)[i]? = some e:=he
   obtain⟨k1,k2,k3⟩:=ZsW g (List.mem_of_getElem? he)
   have hx:((Zhw d).take i).any (Zj8 e)=false:=List.any_eq_false.2 fun x hx=>by
    intro hs
    unfold Zj8 at hs
    simp only[Bool.and_true,Bool.and_eq_true,beq_iff_eq] at hs
    have:e=x:=by cases e;cases x;simp only at hs;rw[hs.1,hs.2]
    subst this
    obtain⟨j,hj⟩:=List.getElem?_of_mem hx
    have hji:j<i:=by
     have:=(List.getElem?_eq_some_iff.1 hj).1
     rw[List.length_take] at this
     omega
    rw[List.getElem?_take_of_lt hji] at hj
    obtain⟨a1,a2⟩:=List.getElem?_eq_some_iff.1 hj
    obtain⟨b1,b2⟩:=List.getElem?_eq_some_iff.1 he
    have:=(List.getElem_inj (ZrO hc)).1 (a2.trans b2.symm)
    omega
   unfold ZmB at hbe
   have q1:Zhe (Zcv d).dag.work.length e.src=true:=k1
   have q2:Zhe (Zcv d).dag.work.length e.dst=true:=k2
   have q3:((Zcv d).dag.edges.take i).any (Zj8 e)=false:=hx
   rw[q1,q2,q3,beq_false_of_ne k3] at hbe
   simp at hbe
 unfold Zj0
 rw[decide_eq_false (show ¬(64:Int)<((Zcv d).dag.work.length:Int) by omega),decide_eq_false (show ¬(256:Int)<((Zcv d).dag.edges.length:Int) by omega),h1,h2]
 rfl
theorem Zs0 {d:Zn} (hc:Zeb d=0):(Zmx (Zcv d).dag→Zib (Zcv d).dag=0)∧(¬Zmx (Zcv d).dag→Zib (Zcv d).dag=43):=by
 unfold Zib
 rw[ZsM hc]
 exact⟨fun h=>by rw[ZuV h];rfl,fun h=>by rw[Zrp h];rfl⟩
end Go.Proofs.YtljgncbdagmeeaaDoor
namespace Go.Proofs.YtljgncbdagmeeaaDoor
open Go Go.Proofs.YtljgncbdagmeeaaDoorE
set_option linter.unusedVariables false
set_option linter.unusedSimpArgs false
theorem Zg6:∀r,Zgj=some r→evD ctx 14 []=some (D.bool r):=fun r h=>by
  cases h
  exact ZAL 100 (by kernel_rfl)
def Zmp (r:Bool):D:=(D.bool r)
def Zj7 (t0:Bool) (t1:Bool) (t2:Bool) (t3:Bool) (a:Zn):(Unit⊕Unit)→Ex×List V×Zp
  | (.inl r)=>(.ret,[(.ptr 0 0),(.d (D.bool false))],[(.cells (dV t0 t1 t2 t3 a))])
  | (.inr r)=>(.exit 0,[(.ptr 0 0),.bad],[(.cells (dV t0 t1 t2 t3 a))])
theorem Zm9 {t0:Bool}{t1:Bool}{t2:Bool}{t3:Bool}{a:Zn}:∀(s0:Int) (r:(Unit⊕Unit)),lp (ZfS a) s0=some r→lpW ctx 0 [1,3] [1,2] Zxx [(.ptr 0 0),(.d (Ze s0))] [(.cells (dV t0 t1 t2 t3 a))]=some ((Zj7 t0 t1 t2 t3 a) r):=by
 refine Zbc (Zj7 t0 t1 t2 t3 a) ?_
 intro s0 rcl ih
 show Z6 _ _ (lpW _ _ _ _ _ _ _)
 unfold ZfS
 rw[Zbd]
 conv=>arg 3;whnf
 refine Zq (Zal _ _) ?_;conv=>arg 3;whnf
 refine Zg rfl ?_ ?_<;>conv=>arg 3;whnf
 ·refine Zg rfl ?_ ?_<;>conv=>arg 3;whnf
  ·refine Zj rfl rfl fun x1 hx1=>?_;conv=>arg 3;whnf
   refine Zq (Zal _ _) ?_;conv=>arg 3;whnf
   refine Zg rfl ?_ ?_<;>conv=>arg 3;whnf
   ·exact Zh rfl
   ·refine Zf (ZaE rfl hx1) ?_;conv=>arg 3;whnf
    refine Zq (Zal _ _) ?_;conv=>arg 3;whnf
    refine Zg rfl ?_ ?_<;>conv=>arg 3;whnf
    ·exact Zh rfl
    ·exact Zd (ih _)
  ·exact Zh rfl
 ·exact Zh rfl
theorem ZpR {t0:Bool}{t1:Bool}{t2:Bool}{t3:Bool}{a:Zn}:∀r,(Zio a)=some r→evD ctx 15 [(.d (D.agg (dA t0 t1 t2 t3 a)))]=some (Zmp r):=by
 show Z6 _ (fun r rhs=>rhs=some (Zmp r)) _
 unfold Zio
 rw[ZcG ctx 15 ZAO _ rfl rfl]
 conv=>arg 3;whnf
 refine Zc _ (Zm9 _) fun r2 hr2=>?_
 clear hr2
 rcases r2 with r2 | r2
 ·conv=>arg 3;whnf
  exact Zh rfl
 ·conv=>arg 3;whnf
  refine Zq (Zal _ _) ?_;conv=>arg 3;whnf
  refine Zg rfl ?_ ?_<;>conv=>arg 3;whnf
  ·refine Zq (Zal _ _) ?_;conv=>arg 3;whnf
   refine Zg rfl ?_ ?_<;>conv=>arg 3;whnf
   ·refine Zq (Zal _ _) ?_;conv=>arg 3;whnf
    refine Zg rfl ?_ ?_<;>conv=>arg 3;whnf
    ·refine Zq (Zal _ _) ?_;conv=>arg 3;whnf
     refine Zg rfl ?_ ?_<;>conv=>arg 3;whnf
     ·exact Zh rfl
     ·exact Zh rfl
    ·exact Zh rfl
   ·exact Zh rfl
  ·exact Zh rfl
def Zmr (t0:Bool) (t1:Bool) (t2:Bool) (t3:Bool) (a:Zn):(List Zu)→V×Zp
  | r=>((.agg [(.d (Ze a.period)),(.d (Ze a.deadline)),(.sl 0 3),(.sl 1 2),(.sl 2 3),(.sl 3 2)]),[(.arr 3 (List.map Zau a.parts)),(.arr 2 (List.map ZI a.edges)),(.arr 3 (List.map Zt a.futures)),(.arr 2 (List.map Zz r))])
def Zj3 (t0:Bool) (t1:Bool) (t2:Bool) (t3:Bool) (a:Zn):(List Zu)→Ex×List V×Zp
  | r=>(.exit 0,[(.ptr 0 0),(.ptr 1 0)],[(.cells [(.d (Ze 0)),(.d (Ze 0)),(.sl 2 3),(.sl 3 2),(.sl 4 3),(.sl 5 2)]),(.cells [(.d (Ze a.period)),(.d (Ze a.deadline)),(.sl 6 3),(.sl 7 2),(.sl 8 3),(.sl 9 2)]),(.arr 3 []),(.arr 2 []),(.arr 3 []),(.arr 2 []),(.arr 3 (List.map Zau a.parts)),(.arr 2 (List.map ZI a.edges)),(.arr 3 (List.map Zt a.futures)),(.arr 2 (List.map Zz r))])
theorem Zm0 {t0:Bool}{t1:Bool}{t2:Bool}{t3:Bool}{a:Zn}:∀(s0:Int×(List Zu)) (r:(List Zu)),lp (ZeY a) s0=some r→lpW ctx 0 [1,2,3,4] [2,3] ZyF [(.ptr 0 0),(.ptr 1 0),(.ptr 2 0),(.d (Ze s0.1))] [(.cells (dV t0 t1 t2 t3 a)),(.cells [(.d (Ze 0)),(.d (Ze 0)),(.sl 3 3),(.sl 4 2),(.sl 5 3),(.sl 6 2)]),(.cells [(.d (Ze a.period)),(.d (Ze a.deadline)),(.sl 7 3),(.sl 8 2),(.sl 9 3),(.sl 10 2)]),(.arr 3 []),(.arr 2 []),(.arr 3 []),(.arr 2 []),(.arr 3 (List.map Zau a.parts)),(.arr 2 (List.map ZI a.edges)),(.arr 3 (List.map Zt a.futures)),(.arr 2 (List.map Zz s0.2))]=some ((Zj3 t0 t1 t2 t3 a) r):=by
 refine Zbc (Zj3 t0 t1 t2 t3 a) ?_
 intro s0 rcl ih
 show Z6 _ _ (lpW _ _ _ _ _ _ _)
 unfold ZeY
 rw[Zbd]
 conv=>arg 3;whnf
 refine Zq (Zal _ _) ?_;conv=>arg 3;whnf
 refine Zg rfl ?_ ?_<;>conv=>arg 3;whnf
 ·refine Zj rfl rfl fun x1 hx1=>?_;conv=>arg 3;whnf
  refine Zbx (ZlK (f:=Ze) (fun _=>⟨rfl,rfl⟩) x1.ins 0) ?_;conv=>arg 3;whnf
  refine Zg (ZlJ Ze x1.ins) ?_ ?_
  ·conv=>arg 3;whnf
   refine Zq (rfl:_=List.map Ze x1.ins) ?_;conv=>arg 3;whnf
   refine Zf (ZaE rfl hx1) ?_;conv=>arg 3;whnf
   refine Zbx (ZlK (f:=Ze) (fun _=>⟨rfl,rfl⟩) x1.outs 0) ?_;conv=>arg 3;whnf
   refine Zg (ZlJ Ze x1.outs) ?_ ?_
   ·conv=>arg 3;whnf
    refine Zq (rfl:_=List.map Ze x1.outs) ?_;conv=>arg 3;whnf
    refine Zbx rfl ?_;conv=>arg 3;whnf
    refine Zg (ZiW Zz s0.2 1) ?_ ?_
    ·conv=>arg 3;whnf
     refine Zq (ZiU Zz s0.2 [x1]) ?_;conv=>arg 3;whnf
     exact Zd (ih _)
    ·exact ZbA
   ·exact ZbA
  ·exact ZbA
 ·exact Zh rfl
theorem Zlj {t0:Bool}{t1:Bool}{t2:Bool}{t3:Bool}{a:Zn}:∀r,(ZhF a)=some r→evW ctx 17 [(.d (D.agg (dA t0 t1 t2 t3 a)))] []=some ((Zmr t0 t1 t2 t3 a) r):=by
 show Z6 _ (fun r rhs=>rhs=some ((Zmr t0 t1 t2 t3 a) r)) _
 unfold ZhF
 rw[Zej ctx 17 ZA0 _ _ rfl rfl]
 conv=>arg 3;whnf
 refine Zbx (ZlK (f:=Zau) (fun _=>⟨rfl,rfl⟩) a.parts 0) ?_;conv=>arg 3;whnf
 refine Zg (ZlJ Zau a.parts) ?_ ?_
 ·conv=>arg 3;whnf
  refine Zq (rfl:_=List.map Zau a.parts) ?_;conv=>arg 3;whnf
  refine Zbx (ZlK (f:=ZI) (fun _=>⟨rfl,rfl⟩) a.edges 0) ?_;conv=>arg 3;whnf
  refine Zg (ZlJ ZI a.edges) ?_ ?_
  ·conv=>arg 3;whnf
   refine Zq (rfl:_=List.map ZI a.edges) ?_;conv=>arg 3;whnf
   refine Zbx (ZlK (f:=Zt) (fun _=>⟨rfl,rfl⟩) a.futures 0) ?_;conv=>arg 3;whnf
   refine Zg (ZlJ Zt a.futures) ?_ ?_
   ·conv=>arg 3;whnf
    refine Zq (rfl:_=List.map Zt a.futures) ?_;conv=>arg 3;whnf
    refine Zc _ (Zm0 _) fun r2 hr2=>?_;conv=>arg 3;whnf
    exact Zh rfl
   ·exact ZbA
  ·exact ZbA
 ·exact ZbA
def Zk5 (r:Bool):D:=(D.bool r)
theorem ZcS {a:Int}{b:Int}{c:Int}:∀r,(Zcj a b c)=some r→evD ctx 78 [(.d (Ze a)),(.d (Ze b)),(.d (Ze c))]=some (Zk5 r):=by
 show Z6 _ (fun r rhs=>rhs=some (Zk5 r)) _
 unfold Zcj
 rw[ZcG ctx 78 ZAU _ rfl rfl]
 conv=>arg 3;whnf
 refine Zg rfl ?_ ?_<;>conv=>arg 3;whnf
 ·refine Zg rfl ?_ ?_<;>conv=>arg 3;whnf
  ·exact Zh rfl
  ·exact Zh rfl
 ·exact Zh rfl
def Zmo (r:Int):D:=(Ze r)
theorem Zpe {a:Int}:∀r,(Zil a)=some r→evD ctx 107 [(.d (Ze a))]=some (Zmo r):=by
 show Z6 _ (fun r rhs=>rhs=some (Zmo r)) _
 unfold Zil
 rw[ZcG ctx 107 Zxb _ rfl rfl]
 conv=>arg 3;whnf
 refine Zg rfl ?_ ?_<;>conv=>arg 3;whnf
 ·exact Zh rfl
 ·refine Zg rfl ?_ ?_<;>conv=>arg 3;whnf
  ·exact Zh rfl
  ·exact Zh rfl
def Zg8 (r:Int):D:=(Ze r)
theorem Zi5 {a:Int}:∀r,(Zdo a)=some r→evD ctx 129 [(.d (D.int .u64 a))]=some (Zg8 r):=by
 show Z6 _ (fun r rhs=>rhs=some (Zg8 r)) _
 unfold Zdo
 rw[ZcG ctx 129 Zx4 _ rfl rfl]
 conv=>arg 3;whnf
 refine ZO rfl ?_;conv=>arg 3;whnf
 refine ZO rfl ?_;conv=>arg 3;whnf
 refine ZO rfl ?_;conv=>arg 3;whnf
 refine ZO rfl ?_;conv=>arg 3;whnf
 refine ZO rfl ?_;conv=>arg 3;whnf
 refine ZO rfl ?_;conv=>arg 3;whnf
 exact Zh rfl
def ZhG (r:Int):D:=(Ze r)
theorem ZjZ {a:Int}:∀r,(ZdL a)=some r→evD ctx 108 [(.d (D.int .u64 a))]=some (ZhG r):=by
 show Z6 _ (fun r rhs=>rhs=some (ZhG r)) _
 unfold ZdL
 rw[ZcG ctx 108 ZwZ _ rfl rfl]
 conv=>arg 3;whnf
 refine Zr _ Zi5 rfl fun x0 hx0=>?_;conv=>arg 3;whnf
 exact Zh rfl
theorem ZBB (n:Int):0≤IntKind.u64.wrap n∧IntKind.u64.wrap n<18446744073709551616:=by
  have:IntKind.u64.wrap n=n % 18446744073709551616:=by
    show(if (false&&decide (n % 18446744073709551616 ≥ 9223372036854775808))=true then n % 18446744073709551616-18446744073709551616 else n % 18446744073709551616)=_
    simp
  rw[this]
  omega
theorem ZCC (n:Int):∃j:Nat,j<64∧(IntKind.u64.wrap n).fdiv (2 ^ (min (Int.toNat 58) IntKind.u64.bits))=(j:Int):=by
  obtain⟨h1,h2⟩:=ZBB n
  have e:(2:Int) ^ (min (Int.toNat 58) IntKind.u64.bits)=288230376151711744:=by decide
  rw[e,Int.fdiv_eq_ediv_of_nonneg _ (by omega)]
  refine⟨((IntKind.u64.wrap n) / 288230376151711744).toNat,?_,?_⟩<;>omega
theorem ZCM:∀j:Nat,j<64→ZeE [] 1 false (.d (.rptr (Zxy.drop (j*1))))=some (.d (.int .u8 (ZrZ.getD j 0))):=by
  have key:((List.range 64).all fun j=>match ZeE [] 1 false (.d (.rptr (Zxy.drop (j*1)))) with | some (.d (.int .u8 z))=>z==ZrZ.getD j 0 | _=>false)=true:=by rfl
  intro j hj
  have:=List.all_eq_true.1 key j (by simpa using hj)
  split at this
  · rename_i z hz
    rw[hz,eq_of_beq this]
  · cases this
def Ziv (r:Int):D:=Ze r
theorem Zh3 (a:Int):∀r,ZeJ a=some r→evD ctx 131 [.d (.int .u64 a)]=some (Ziv r):=by
  intro r hr
  unfold ZeJ at hr
  have hr:=Option.some.inj hr
  subst hr
  rw[ZcG ctx 131 Zyq _ rfl rfl]
  by_cases h:(a==0)=true
  · conv=>lhs;whnf
    rw[h,Zzi]
    rfl
  · replace h:(a==0)=false:=by simpa using h
    obtain⟨j,hj,e⟩:=ZCC (IntKind.u64.wrap ((BitVec.ofInt IntKind.u64.bits a &&& BitVec.ofInt IntKind.u64.bits (IntKind.u64.wrap (0-a))).toNat:Int)*285870213051353865)
    conv=>lhs;whnf
    rw[h,ZzF]
    conv=>lhs;whnf
    refine(ZCD (by rfl)).trans ?_
    conv=>lhs;whnf
    rw[e]
    refine(ZBl (by simp;omega)).trans ?_
    conv=>lhs;whnf
    erw [ZCM j hj]
    rfl
def ZgC (r:Int):D:=(Ze r)
theorem ZiE {a:Int}:∀r,(ZdK a)=some r→evD ctx 109 [(.d (D.int .u64 a))]=some (ZgC r):=by
 show Z6 _ (fun r rhs=>rhs=some (ZgC r)) _
 unfold ZdK
 rw[ZcG ctx 109 Zxj _ rfl rfl]
 conv=>arg 3;whnf
 refine Zr _ (Zh3 _) rfl fun x0 hx0=>?_;conv=>arg 3;whnf
 exact Zh rfl
def Zom (r:(Int×Bool)):D:=(D.tup [(Ze r.1),(D.bool r.2)])
theorem ZrB {a:Int}:∀r,(Zka a)=some r→evD ctx 64 [(.d (Ze a))]=some (Zom r):=by
 show Z6 _ (fun r rhs=>rhs=some (Zom r)) _
 unfold Zka
 rw[ZcG ctx 64 ZAt _ rfl rfl]
 conv=>arg 3;whnf
 refine Zr _ Zpe rfl fun x0 hx0=>?_;conv=>arg 3;whnf
 refine Zg rfl ?_ ?_<;>conv=>arg 3;whnf
 ·exact Zh rfl
 ·refine Zr _ ZjZ rfl fun x1 hx1=>?_;conv=>arg 3;whnf
  refine Zg rfl ?_ ?_<;>conv=>arg 3;whnf
  ·exact Zh rfl
  ·refine Zr _ ZiE rfl fun x2 hx2=>?_;conv=>arg 3;whnf
   exact Zh rfl
def Zmf (r:Bool):D:=(D.bool r)
theorem Zpg {a:Zam}:∀r,(Zf7 a)=some r→evD ctx 80 [(.d (D.agg [(Ze a.op),(Ze a.arg),(Ze a.work)]))]=some (Zmf r):=by
 show Z6 _ (fun r rhs=>rhs=some (Zmf r)) _
 unfold Zf7
 rw[ZcG ctx 80 ZAW _ rfl rfl]
 conv=>arg 3;whnf
 refine Zr _ ZcS rfl fun x0 hx0=>?_;conv=>arg 3;whnf
 refine Zg rfl ?_ ?_<;>conv=>arg 3;whnf
 ·refine Zr _ ZcS rfl fun x1 hx1=>?_;conv=>arg 3;whnf
  refine Zg rfl ?_ ?_<;>conv=>arg 3;whnf
  ·refine Zr _ ZcS rfl fun x2 hx2=>?_;conv=>arg 3;whnf
   refine Zg rfl ?_ ?_<;>conv=>arg 3;whnf
   ·exact Zh rfl
   ·exact Zh rfl
  ·exact Zh rfl
 ·exact Zh rfl
def Zdt (r:Int):D:=(Ze r)
def Zc5 (t0:Bool) (a:(List Zam)):(Int⊕Unit)→Ex×List V×Zp
  | (.inl r)=>(.ret,[(.d (Ze r))],[])
  | (.inr r)=>(.exit 0,[.bad],[])
theorem Zfz {t0:Bool}{a:(List Zam)}:∀(s0:Int) (r:(Int⊕Unit)),lp (ZbB a (fun z0=>Zf7 z0)) s0=some r→lpW ctx 0 [0,1,7,8] [4] Zvg [(.d (D.list t0 (List.map Zau a))),(.d (D.fn 80 [])),(.d (Ze (a.length:Int))),(.d (Ze s0))] []=some ((Zc5 t0 a) r):=by
 refine Zbc (Zc5 t0 a) ?_
 intro s0 rcl ih
 show Z6 _ _ (lpW _ _ _ _ _ _ _)
 unfold ZbB
 rw[Zbd]
 conv=>arg 3;whnf
 refine Zg rfl ?_ ?_<;>conv=>arg 3;whnf
 ·refine Zj rfl rfl fun x1 hx1=>?_;conv=>arg 3;whnf
  refine Zr _ Zpg rfl fun x2 hx2=>?_;conv=>arg 3;whnf
  refine Zg rfl ?_ ?_<;>conv=>arg 3;whnf
  ·exact Zh rfl
  ·exact Zd (ih _)
 ·exact Zh rfl
theorem ZfU {t0:Bool}{a:(List Zam)}:∀r,(ZcR a (fun z0=>Zf7 z0))=some r→evD ctx 118 [(.d (D.list t0 (List.map Zau a))),(.d (D.fn 80 []))]=some (Zdt r):=by
 show Z6 _ (fun r rhs=>rhs=some (Zdt r)) _
 unfold ZcR
 rw[ZcG ctx 118 ZxN _ rfl rfl]
 conv=>arg 3;whnf
 refine Zq (Zal _ _) ?_;conv=>arg 3;whnf
 refine Zc _ (Zfz _) fun r3 hr3=>?_
 clear hr3
 rcases r3 with r3 | r3
 ·conv=>arg 3;whnf
  exact Zh rfl
 ·conv=>arg 3;whnf
  exact Zh rfl
def Zda (r:Bool):D:=(D.bool r)
theorem ZfA {t0:Bool}{a:(List Zam)}:∀r,(ZbC a (fun z0=>Zf7 z0))=some r→evD ctx 79 [(.d (D.list t0 (List.map Zau a))),(.d (D.fn 80 []))]=some (Zda r):=by
 show Z6 _ (fun r rhs=>rhs=some (Zda r)) _
 unfold ZbC
 rw[ZcG ctx 79 ZAi _ rfl rfl]
 conv=>arg 3;whnf
 refine Zr _ ZfU rfl fun x0 hx0=>?_;conv=>arg 3;whnf
 refine Zg rfl ?_ ?_<;>conv=>arg 3;whnf
 ·exact Zh rfl
 ·exact Zh rfl
def ZnB (r:Bool):D:=(D.bool r)
theorem Zmk {t0:Bool}{t1:Bool}{t2:Bool}{t3:Bool}{a:Zn}{b:Int}{c:Int}:∀r,(Zh9 a b c)=some r→evD ctx 81 [(.d (D.agg (dA t0 t1 t2 t3 a))),(.d (Ze b)),(.d (Ze c))]=some (ZnB r):=by
 show Z6 _ (fun r rhs=>rhs=some (ZnB r)) _
 unfold Zh9
 rw[ZcG ctx 81 ZAg _ rfl rfl]
 conv=>arg 3;whnf
 refine Zg rfl ?_ ?_<;>conv=>arg 3;whnf
 ·refine Zq (Zal _ _) ?_;conv=>arg 3;whnf
  refine Zr _ ZcS rfl fun x0 hx0=>?_;conv=>arg 3;whnf
  refine Zg rfl ?_ ?_<;>conv=>arg 3;whnf
  ·refine Zq (Zal _ _) ?_;conv=>arg 3;whnf
   refine Zr _ ZcS rfl fun x1 hx1=>?_;conv=>arg 3;whnf
   refine Zg rfl ?_ ?_<;>conv=>arg 3;whnf
   ·exact Zh rfl
   ·exact Zh rfl
  ·exact Zh rfl
 ·exact Zh rfl
def Zgg (r:Int):D:=(Ze r)
def ZfN (t0:Bool) (a:(List Zo)) (b:Zo):(Int⊕Unit)→Ex×List V×Zp
  | (.inl r)=>(.ret,[(.d (Ze r))],[])
  | (.inr r)=>(.exit 0,[.bad],[])
theorem ZhP {t0:Bool}{a:(List Zo)}{b:Zo}:∀(s0:Int) (r:(Int⊕Unit)),lp (Zb6 a b) s0=some r→lpW ctx 0 [0,3,7,8] [4] ZuO [(.d (D.list t0 (List.map ZI a))),(.ptr 0 0),(.d (Ze (a.length:Int))),(.d (Ze s0))] [(.cells [(.d (Ze b.src)),(.d (Ze b.dst))])]=some ((ZfN t0 a b) r):=by
 refine Zbc (ZfN t0 a b) ?_
 intro s0 rcl ih
 show Z6 _ _ (lpW _ _ _ _ _ _ _)
 unfold Zb6
 rw[Zbd]
 conv=>arg 3;whnf
 refine Zg rfl ?_ ?_<;>conv=>arg 3;whnf
 ·refine Zj rfl rfl fun x1 hx1=>?_;conv=>arg 3;whnf
  refine Zg rfl ?_ ?_<;>conv=>arg 3;whnf
  ·exact Zh rfl
  ·exact Zd (ih _)
 ·exact Zh rfl
theorem Zix {t0:Bool}{a:(List Zo)}{b:Zo}:∀r,(Zdx a b)=some r→evD ctx 102 [(.d (D.list t0 (List.map ZI a))),(.d (D.agg [(Ze b.src),(Ze b.dst)]))]=some (Zgg r):=by
 show Z6 _ (fun r rhs=>rhs=some (Zgg r)) _
 unfold Zdx
 rw[ZcG ctx 102 Zxa _ rfl rfl]
 conv=>arg 3;whnf
 refine Zq (Zal _ _) ?_;conv=>arg 3;whnf
 refine Zc _ (ZhP _) fun r2 hr2=>?_
 clear hr2
 rcases r2 with r2 | r2
 ·conv=>arg 3;whnf
  exact Zh rfl
 ·conv=>arg 3;whnf
  exact Zh rfl
def ZfP (r:Bool):D:=(D.bool r)
theorem Zfx {t0:Bool}{a:(List Zo)}{b:Zo}:∀r,(Zbz a b)=some r→evD ctx 56 [(.d (D.list t0 (List.map ZI a))),(.d (D.agg [(Ze b.src),(Ze b.dst)]))]=some (ZfP r):=by
 show Z6 _ (fun r rhs=>rhs=some (ZfP r)) _
 unfold Zbz
 rw[ZcG ctx 56 ZAA _ rfl rfl]
 conv=>arg 3;whnf
 refine Zr _ Zix rfl fun x0 hx0=>?_;conv=>arg 3;whnf
 refine Zg rfl ?_ ?_<;>conv=>arg 3;whnf
 ·exact Zh rfl
 ·exact Zh rfl
def Zks (r:Bool):D:=(D.bool r)
theorem Znn {a:Zk}{b0:Int}{b1:Int}{b2:Int}:∀r,(Zd9 a b1 b2)=some r→evD ctx 82 [(.d (D.agg [(Ze a.maker),(Ze a.user),(Ze a.pos)])),(.d (D.rptr [(Ze b0),(Ze b1),(Ze b2)]))]=some (Zks r):=by
 show Z6 _ (fun r rhs=>rhs=some (Zks r)) _
 unfold Zd9
 rw[ZcG ctx 82 ZAP _ rfl rfl]
 conv=>arg 3;whnf
 refine Zg rfl ?_ ?_<;>conv=>arg 3;whnf
 ·refine Zg rfl ?_ ?_<;>conv=>arg 3;whnf
  ·exact Zh rfl
  ·exact Zh rfl
 ·exact Zh rfl
def ZcK (r:Int):D:=(Ze r)
def Zcp (t0:Bool) (a:(List Zk)) (b0:Int) (b1:Int) (b2:Int):(Int⊕Unit)→Ex×List V×Zp
  | (.inl r)=>(.ret,[(.d (Ze r))],[])
  | (.inr r)=>(.exit 0,[.bad],[])
theorem Zes {t0:Bool}{a:(List Zk)}{b0:Int}{b1:Int}{b2:Int}:∀(s0:Int) (r:(Int⊕Unit)),lp (Zbk a (fun z0=>Zd9 z0 b1 b2)) s0=some r→lpW ctx 0 [0,1,7,8] [4] Zuw [(.d (D.list t0 (List.map Zt a))),(.d (D.fn 82 [(D.rptr [(Ze b0),(Ze b1),(Ze b2)])])),(.d (Ze (a.length:Int))),(.d (Ze s0))] []=some ((Zcp t0 a b0 b1 b2) r):=by
 refine Zbc (Zcp t0 a b0 b1 b2) ?_
 intro s0 rcl ih
 show Z6 _ _ (lpW _ _ _ _ _ _ _)
 unfold Zbk
 rw[Zbd]
 conv=>arg 3;whnf
 refine Zg rfl ?_ ?_<;>conv=>arg 3;whnf
 ·refine Zj rfl rfl fun x1 hx1=>?_;conv=>arg 3;whnf
  refine Zr _ Znn rfl fun x2 hx2=>?_;conv=>arg 3;whnf
  refine Zg rfl ?_ ?_<;>conv=>arg 3;whnf
  ·exact Zh rfl
  ·exact Zd (ih _)
 ·exact Zh rfl
theorem ZeO {t0:Bool}{a:(List Zk)}{b0:Int}{b1:Int}{b2:Int}:∀r,(Zb9 a (fun z0=>Zd9 z0 b1 b2))=some r→evD ctx 119 [(.d (D.list t0 (List.map Zt a))),(.d (D.fn 82 [(D.rptr [(Ze b0),(Ze b1),(Ze b2)])]))]=some (ZcK r):=by
 show Z6 _ (fun r rhs=>rhs=some (ZcK r)) _
 unfold Zb9
 rw[ZcG ctx 119 ZxH _ rfl rfl]
 conv=>arg 3;whnf
 refine Zq (Zal _ _) ?_;conv=>arg 3;whnf
 refine Zc _ (Zes _) fun r3 hr3=>?_
 clear hr3
 rcases r3 with r3 | r3
 ·conv=>arg 3;whnf
  exact Zh rfl
 ·conv=>arg 3;whnf
  exact Zh rfl
def Zcm (r:Bool):D:=(D.bool r)
theorem Zen {t0:Bool}{a:(List Zk)}{b0:Int}{b1:Int}{b2:Int}:∀r,(Zbl a (fun z0=>Zd9 z0 b1 b2))=some r→evD ctx 83 [(.d (D.list t0 (List.map Zt a))),(.d (D.fn 82 [(D.rptr [(Ze b0),(Ze b1),(Ze b2)])]))]=some (Zcm r):=by
 show Z6 _ (fun r rhs=>rhs=some (Zcm r)) _
 unfold Zbl
 rw[ZcG ctx 83 ZAh _ rfl rfl]
 conv=>arg 3;whnf
 refine Zr _ ZeO rfl fun x0 hx0=>?_;conv=>arg 3;whnf
 refine Zg rfl ?_ ?_<;>conv=>arg 3;whnf
 ·exact Zh rfl
 ·exact Zh rfl
def Znk (r:Bool):D:=(D.bool r)
def Zk2 (t0:Bool) (t1:Bool) (t2:Bool) (t3:Bool) (t4:Bool) (a:Zn) (b:(List Int)):(Unit⊕Unit)→Ex×List V×Zp
  | (.inl r)=>(.ret,[(.d (D.list t4 (List.map Ze b))),(.d (D.bool false))],[])
  | (.inr r)=>(.exit 0,[(.d (D.list t4 (List.map Ze b))),.bad],[])
theorem Zob {t0:Bool}{t1:Bool}{t2:Bool}{t3:Bool}{t4:Bool}{a:Zn}{b:(List Int)}:∀(s0:Int) (r:(Unit⊕Unit)),lp (Zgo a b) s0=some r→lpW ctx 0 [1,2,7,8,9] [1,4] Zxg [(.d (D.list t4 (List.map Ze b))),(.ptr 0 0),(.d (D.list t4 (List.map Ze b))),(.d (Ze (b.length:Int))),(.d (Ze s0))] [(.cells (dV t0 t1 t2 t3 a))]=some ((Zk2 t0 t1 t2 t3 t4 a b) r):=by
 refine Zbc (Zk2 t0 t1 t2 t3 t4 a b) ?_
 intro s0 rcl ih
 show Z6 _ _ (lpW _ _ _ _ _ _ _)
 unfold Zgo
 rw[Zbd]
 conv=>arg 3;whnf
 refine Zg rfl ?_ ?_<;>conv=>arg 3;whnf
 ·refine Zj rfl rfl fun x1 hx1=>?_;conv=>arg 3;whnf
  refine Zq (Zal _ _) ?_;conv=>arg 3;whnf
  refine Zr _ ZcS rfl fun x2 hx2=>?_;conv=>arg 3;whnf
  refine Zg rfl ?_ ?_<;>conv=>arg 3;whnf
  ·refine Zg rfl ?_ ?_<;>conv=>arg 3;whnf
   ·refine Zj rfl rfl fun x3 hx3=>?_;conv=>arg 3;whnf
    refine Zg rfl ?_ ?_<;>conv=>arg 3;whnf
    ·exact Zh rfl
    ·exact Zd (ih _)
   ·exact Zd (ih _)
  ·exact Zh rfl
 ·exact Zh rfl
theorem Zmq {t0:Bool}{t1:Bool}{t2:Bool}{t3:Bool}{t4:Bool}{a:Zn}{b:(List Int)}:∀r,(Zia a b)=some r→evD ctx 85 [(.d (D.agg (dA t0 t1 t2 t3 a))),(.d (D.list t4 (List.map Ze b)))]=some (Znk r):=by
 show Z6 _ (fun r rhs=>rhs=some (Znk r)) _
 unfold Zia
 rw[ZcG ctx 85 Zz9 _ rfl rfl]
 conv=>arg 3;whnf
 refine Zq (Zal _ _) ?_;conv=>arg 3;whnf
 refine Zc _ (Zob _) fun r4 hr4=>?_
 clear hr4
 rcases r4 with r4 | r4
 ·conv=>arg 3;whnf
  exact Zh rfl
 ·conv=>arg 3;whnf
  refine Zq (Zal _ _) ?_;conv=>arg 3;whnf
  refine Zg rfl ?_ ?_<;>conv=>arg 3;whnf
  ·exact Zh rfl
  ·exact Zh rfl
def ZgR (r:Int):D:=(Ze r)
def Zf8 (t0:Bool) (a:(List Int)) (b:Int):(Int⊕Unit)→Ex×List V×Zp
  | (.inl r)=>(.ret,[(.d (Ze r))],[])
  | (.inr r)=>(.exit 0,[.bad],[])
theorem Zh7 {t0:Bool}{a:(List Int)}{b:Int}:∀(s0:Int) (r:(Int⊕Unit)),lp (Zcq a b) s0=some r→lpW ctx 0 [0,1,7,8] [4] ZuR [(.d (D.list t0 (List.map Ze a))),(.d (Ze b)),(.d (Ze (a.length:Int))),(.d (Ze s0))] []=some ((Zf8 t0 a b) r):=by
 refine Zbc (Zf8 t0 a b) ?_
 intro s0 rcl ih
 show Z6 _ _ (lpW _ _ _ _ _ _ _)
 unfold Zcq
 rw[Zbd]
 conv=>arg 3;whnf
 refine Zg rfl ?_ ?_<;>conv=>arg 3;whnf
 ·refine Zj rfl rfl fun x1 hx1=>?_;conv=>arg 3;whnf
  refine Zg rfl ?_ ?_<;>conv=>arg 3;whnf
  ·exact Zh rfl
  ·exact Zd (ih _)
 ·exact Zh rfl
theorem Zi0 {t0:Bool}{a:(List Int)}{b:Int}:∀r,(ZdZ a b)=some r→evD ctx 105 [(.d (D.list t0 (List.map Ze a))),(.d (Ze b))]=some (ZgR r):=by
 show Z6 _ (fun r rhs=>rhs=some (ZgR r)) _
 unfold ZdZ
 rw[ZcG ctx 105 Zx0 _ rfl rfl]
 conv=>arg 3;whnf
 refine Zq (Zal _ _) ?_;conv=>arg 3;whnf
 refine Zc _ (Zh7 _) fun r2 hr2=>?_
 clear hr2
 rcases r2 with r2 | r2
 ·conv=>arg 3;whnf
  exact Zh rfl
 ·conv=>arg 3;whnf
  exact Zh rfl
def Zf5 (r:Bool):D:=(D.bool r)
theorem ZfW {t0:Bool}{a:(List Int)}{b:Int}:∀r,(ZbS a b)=some r→evD ctx 60 [(.d (D.list t0 (List.map Ze a))),(.d (Ze b))]=some (Zf5 r):=by
 show Z6 _ (fun r rhs=>rhs=some (Zf5 r)) _
 unfold ZbS
 rw[ZcG ctx 60 Zz6 _ rfl rfl]
 conv=>arg 3;whnf
 refine Zr _ Zi0 rfl fun x0 hx0=>?_;conv=>arg 3;whnf
 refine Zg rfl ?_ ?_<;>conv=>arg 3;whnf
 ·exact Zh rfl
 ·exact Zh rfl
def ZkB (r:Bool):D:=(D.bool r)
theorem Zni {t0:Bool}{t1:Bool}{a:Int}{b0:(List Int)}{b1:(List Int)}:∀r,(Zec a b1)=some r→evD ctx 84 [(.d (Ze a)),(.d (D.rptr [(D.list t0 (List.map Ze b0)),(D.list t1 (List.map Ze b1))]))]=some (ZkB r):=by
 show Z6 _ (fun r rhs=>rhs=some (ZkB r)) _
 unfold Zec
 rw[ZcG ctx 84 ZAF _ rfl rfl]
 conv=>arg 3;whnf
 refine Zr _ ZfW rfl fun x0 hx0=>?_;conv=>arg 3;whnf
 refine Zg rfl ?_ ?_<;>conv=>arg 3;whnf
 ·exact Zh rfl
 ·exact Zh rfl
def Zdn (r:Int):D:=(Ze r)
def Zc0 (t0:Bool) (t1:Bool) (t2:Bool) (a:(List Int)) (b0:(List Int)) (b1:(List Int)):(Int⊕Unit)→Ex×List V×Zp
  | (.inl r)=>(.ret,[(.d (Ze r))],[])
  | (.inr r)=>(.exit 0,[.bad],[])
theorem Zfk {t0:Bool}{t1:Bool}{t2:Bool}{a:(List Int)}{b0:(List Int)}{b1:(List Int)}:∀(s0:Int) (r:(Int⊕Unit)),lp (Za4 a (fun z0=>Zec z0 b1)) s0=some r→lpW ctx 0 [0,1,7,8] [4] Zr2 [(.d (D.list t0 (List.map Ze a))),(.d (D.fn 84 [(D.rptr [(D.list t1 (List.map Ze b0)),(D.list t2 (List.map Ze b1))])])),(.d (Ze (a.length:Int))),(.d (Ze s0))] []=some ((Zc0 t0 t1 t2 a b0 b1) r):=by
 refine Zbc (Zc0 t0 t1 t2 a b0 b1) ?_
 intro s0 rcl ih
 show Z6 _ _ (lpW _ _ _ _ _ _ _)
 unfold Za4
 rw[Zbd]
 conv=>arg 3;whnf
 refine Zg rfl ?_ ?_<;>conv=>arg 3;whnf
 ·refine Zj rfl rfl fun x1 hx1=>?_;conv=>arg 3;whnf
  refine Zr _ Zni rfl fun x2 hx2=>?_;conv=>arg 3;whnf
  refine Zg rfl ?_ ?_<;>conv=>arg 3;whnf
  ·exact Zh rfl
  ·exact Zd (ih _)
 ·exact Zh rfl
theorem ZfQ {t0:Bool}{t1:Bool}{t2:Bool}{a:(List Int)}{b0:(List Int)}{b1:(List Int)}:∀r,(ZbD a (fun z0=>Zec z0 b1))=some r→evD ctx 101 [(.d (D.list t0 (List.map Ze a))),(.d (D.fn 84 [(D.rptr [(D.list t1 (List.map Ze b0)),(D.list t2 (List.map Ze b1))])]))]=some (Zdn r):=by
 show Z6 _ (fun r rhs=>rhs=some (Zdn r)) _
 unfold ZbD
 rw[ZcG ctx 101 Zuz _ rfl rfl]
 conv=>arg 3;whnf
 refine Zq (Zal _ _) ?_;conv=>arg 3;whnf
 refine Zc _ (Zfk _) fun r3 hr3=>?_
 clear hr3
 rcases r3 with r3 | r3
 ·conv=>arg 3;whnf
  exact Zh rfl
 ·conv=>arg 3;whnf
  exact Zh rfl
def Zc1 (r:Bool):D:=(D.bool r)
theorem Zfm {t0:Bool}{t1:Bool}{t2:Bool}{a:(List Int)}{b0:(List Int)}{b1:(List Int)}:∀r,(ZaH a (fun z0=>Zec z0 b1))=some r→evD ctx 53 [(.d (D.list t0 (List.map Ze a))),(.d (D.fn 84 [(D.rptr [(D.list t1 (List.map Ze b0)),(D.list t2 (List.map Ze b1))])]))]=some (Zc1 r):=by
 show Z6 _ (fun r rhs=>rhs=some (Zc1 r)) _
 unfold ZaH
 rw[ZcG ctx 53 ZzI _ rfl rfl]
 conv=>arg 3;whnf
 refine Zr _ ZfQ rfl fun x0 hx0=>?_;conv=>arg 3;whnf
 refine Zg rfl ?_ ?_<;>conv=>arg 3;whnf
 ·exact Zh rfl
 ·exact Zh rfl
def ZlH (r:Int):D:=(Ze r)
def ZjG (t0:Bool) (t1:Bool) (t2:Bool) (t3:Bool) (a:Zn):(Unit⊕Unit)→Ex×List V×Zp
  | (.inl r)=>(.ret,[(.ptr 0 0),(.d (Ze 53))],[(.cells (dV t0 t1 t2 t3 a))])
  | (.inr r)=>(.exit 0,[(.ptr 0 0),.bad],[(.cells (dV t0 t1 t2 t3 a))])
theorem Zmy {t0:Bool}{t1:Bool}{t2:Bool}{t3:Bool}{a:Zn}:∀(s4:Int) (r:(Unit⊕Unit)),lp (Zer a) s4=some r→lpW ctx 0 [1,61,62,63] [1,2] Zxp [(.ptr 0 0),(.d (D.list t1 (List.map ZI a.edges))),(.d (Ze (a.edges.length:Int))),(.d (Ze s4))] [(.cells (dV t0 t1 t2 t3 a))]=some ((ZjG t0 t1 t2 t3 a) r):=by
 refine Zbc (ZjG t0 t1 t2 t3 a) ?_
 intro s4 rcl ih
 show Z6 _ _ (lpW _ _ _ _ _ _ _)
 unfold Zer
 rw[Zbd]
 conv=>arg 3;whnf
 refine Zg rfl ?_ ?_<;>conv=>arg 3;whnf
 ·refine Zj rfl rfl fun x5 hx5=>?_;conv=>arg 3;whnf
  refine Zr _ Zmk rfl fun x6 hx6=>?_;conv=>arg 3;whnf
  refine Zg rfl ?_ ?_<;>conv=>arg 3;whnf
  ·refine Zg rfl ?_ ?_
   ·conv=>arg 3;whnf
    refine Zg (Zxi ZI a.edges s4.toNat) ?_ ?_
    ·conv=>arg 3;whnf
     refine Zbx rfl ?_;conv=>arg 3;whnf
     refine Zq (ZrU ZI a.edges s4.toNat) ?_;conv=>arg 3;whnf
     refine Zr _ Zfx rfl fun x7 hx7=>?_;conv=>arg 3;whnf
     refine Zg rfl ?_ ?_<;>conv=>arg 3;whnf
     ·exact Zh rfl
     ·exact Zd (ih _)
    ·exact ZbA
   ·exact ZbA
  ·exact Zh rfl
 ·exact Zh rfl
def ZjI (t0:Bool) (t1:Bool) (t2:Bool) (t3:Bool) (a:Zn):(Unit⊕Unit)→Ex×List V×Zp
  | (.inl r)=>(.ret,[(.ptr 0 0),(.d (Ze 54))],[(.cells (dV t0 t1 t2 t3 a))])
  | (.inr r)=>(.exit 2,[(.ptr 0 0),.bad],[(.cells (dV t0 t1 t2 t3 a))])
theorem ZmQ {t0:Bool}{t1:Bool}{t2:Bool}{t3:Bool}{a:Zn}:∀(s9:Int) (r:(Unit⊕Unit)),lp (Zev a) s9=some r→lpW ctx 0 [1,85,86,87] [1,2] Zwp [(.ptr 0 0),(.d (D.list t2 (List.map Zt a.futures))),(.d (Ze (a.futures.length:Int))),(.d (Ze s9))] [(.cells (dV t0 t1 t2 t3 a))]=some ((ZjI t0 t1 t2 t3 a) r):=by
 refine Zbc (ZjI t0 t1 t2 t3 a) ?_
 intro s9 rcl ih
 show Z6 _ _ (lpW _ _ _ _ _ _ _)
 unfold Zev
 rw[Zbd]
 conv=>arg 3;whnf
 refine Zg rfl ?_ ?_<;>conv=>arg 3;whnf
 ·refine Zj rfl rfl fun x10 hx10=>?_;conv=>arg 3;whnf
  refine Zr _ Zmk rfl fun x11 hx11=>?_;conv=>arg 3;whnf
  refine Zg rfl ?_ ?_<;>conv=>arg 3;whnf
  ·refine Zj rfl rfl fun x12 hx12=>?_;conv=>arg 3;whnf
   refine Zr _ ZcS rfl fun x13 hx13=>?_;conv=>arg 3;whnf
   refine Zg rfl ?_ ?_<;>conv=>arg 3;whnf
   ·refine Zg rfl ?_ ?_
    ·conv=>arg 3;whnf
     refine Zg (Zxi Zt a.futures s9.toNat) ?_ ?_
     ·conv=>arg 3;whnf
      refine Zbx rfl ?_;conv=>arg 3;whnf
      refine Zq (ZrU Zt a.futures s9.toNat) ?_;conv=>arg 3;whnf
      refine Zr _ Zen rfl fun x14 hx14=>?_;conv=>arg 3;whnf
      refine Zg rfl ?_ ?_<;>conv=>arg 3;whnf
      ·exact Zh rfl
      ·exact Zd (ih _)
     ·exact ZbA
    ·exact ZbA
   ·exact Zh rfl
  ·exact Zh rfl
 ·exact Zh rfl
def ZjH (t0:Bool) (t1:Bool) (t2:Bool) (t3:Bool) (a:Zn):(Unit⊕Unit)→Ex×List V×Zp
  | (.inl r)=>(.ret,[(.d (Ze 55))],[])
  | (.inr r)=>(.exit 4,[.bad],[])
theorem ZmN {t0:Bool}{t1:Bool}{t2:Bool}{t3:Bool}{a:Zn}:∀(s16:Int) (r:(Unit⊕Unit)),lp (Zet a) s16=some r→lpW ctx 0 [1,124,125,126] [2] Zx1 [(.ptr 0 0),(.d (D.list t3 (List.map Zz a.barriers))),(.d (Ze (a.barriers.length:Int))),(.d (Ze s16))] [(.cells (dV t0 t1 t2 t3 a))]=some ((ZjH t0 t1 t2 t3 a) r):=by
 refine Zbc (ZjH t0 t1 t2 t3 a) ?_
 intro s16 rcl ih
 show Z6 _ _ (lpW _ _ _ _ _ _ _)
 unfold Zet
 rw[Zbd]
 conv=>arg 3;whnf
 refine Zg rfl ?_ ?_<;>conv=>arg 3;whnf
 ·refine Zj rfl rfl fun x17 hx17=>?_;conv=>arg 3;whnf
  refine Zr _ Zmq rfl fun x18 hx18=>?_;conv=>arg 3;whnf
  refine Zg rfl ?_ ?_<;>conv=>arg 3;whnf
  ·refine Zr _ Zmq rfl fun x19 hx19=>?_;conv=>arg 3;whnf
   refine Zg rfl ?_ ?_<;>conv=>arg 3;whnf
   ·refine Zr _ Zfm rfl fun x20 hx20=>?_;conv=>arg 3;whnf
    refine Zg rfl ?_ ?_<;>conv=>arg 3;whnf
    ·exact Zh rfl
    ·exact Zd (ih _)
   ·exact Zh rfl
  ·exact Zh rfl
 ·exact Zh rfl
theorem Zk6 {t0:Bool}{t1:Bool}{t2:Bool}{t3:Bool}{a:Zn}:∀r,(Zg1 a)=some r→evD ctx 41 [(.d (D.agg (dA t0 t1 t2 t3 a)))]=some (ZlH r):=by
 show Z6 _ (fun r rhs=>rhs=some (ZlH r)) _
 unfold Zg1
 rw[ZcG ctx 41 ZAz _ rfl rfl]
 conv=>arg 3;whnf
 refine Zq (Zal _ _) ?_;conv=>arg 3;whnf
 refine Zr _ ZcS rfl fun x0 hx0=>?_;conv=>arg 3;whnf
 refine Zg rfl ?_ ?_<;>conv=>arg 3;whnf
 ·refine Zq (Zal _ _) ?_;conv=>arg 3;whnf
  refine Zg rfl ?_ ?_<;>conv=>arg 3;whnf
  ·exact Zh rfl
  ·refine Zq (Zal _ _) ?_;conv=>arg 3;whnf
   refine Zg rfl ?_ ?_<;>conv=>arg 3;whnf
   ·exact Zh rfl
   ·refine Zq (Zal _ _) ?_;conv=>arg 3;whnf
    refine Zg rfl ?_ ?_<;>conv=>arg 3;whnf
    ·exact Zh rfl
    ·refine Zr _ ZrB rfl fun x1 hx1=>?_;conv=>arg 3;whnf
     refine Zg rfl ?_ ?_<;>conv=>arg 3;whnf
     ·refine Zg rfl ?_ ?_<;>conv=>arg 3;whnf
      ·exact Zh rfl
      ·refine Zr _ ZcS rfl fun x2 hx2=>?_;conv=>arg 3;whnf
       refine Zg rfl ?_ ?_<;>conv=>arg 3;whnf
       ·refine Zr _ ZfA rfl fun x3 hx3=>?_;conv=>arg 3;whnf
        refine Zg rfl ?_ ?_<;>conv=>arg 3;whnf
        ·exact Zh rfl
        ·refine Zq (Zal _ _) ?_;conv=>arg 3;whnf
         refine Zc _ (Zmy _) fun r8 hr8=>?_
         clear hr8
         rcases r8 with r8 | r8
         ·conv=>arg 3;whnf
          exact Zh rfl
         ·conv=>arg 3;whnf
          refine Zq (Zal _ _) ?_;conv=>arg 3;whnf
          refine Zc _ (ZmQ _) fun r15 hr15=>?_
          clear hr15
          rcases r15 with r15 | r15
          ·conv=>arg 3;whnf
           exact Zh rfl
          ·conv=>arg 3;whnf
           refine Zq (Zal _ _) ?_;conv=>arg 3;whnf
           refine Zc _ (ZmN _) fun r21 hr21=>?_
           clear hr21
           rcases r21 with r21 | r21
           ·conv=>arg 3;whnf
            exact Zh rfl
           ·conv=>arg 3;whnf
            exact Zh rfl
       ·exact Zh rfl
     ·exact Zh rfl
 ·exact Zh rfl
def Zjg (r:Int):D:=(Ze r)
theorem ZN {t0:Bool}{t1:Bool}{t2:Bool}{t3:Bool}{a:Int}{b:Int}{c0:Int}{c1:Int}{c2:(List Zam)}{c3:(List Zo)}{c4:(List Zk)}{c5:(List Zu)}:∀r,(Zw a b c4)=some r→evD ctx 121 [(.d (Ze a)),(.d (Ze b)),(.d (D.rptr [(Ze c0),(Ze c1),(D.list t0 (List.map Zau c2)),(D.list t1 (List.map ZI c3)),(D.list t2 (List.map Zt c4)),(D.list t3 (List.map Zz c5))]))]=some (Zjg r):=by
 show Z6 _ (fun r rhs=>rhs=some (Zjg r)) _
 unfold Zw
 rw[ZcG ctx 121 ZwE _ rfl rfl]
 conv=>arg 3;whnf
 refine Zj rfl rfl fun x0 hx0=>?_;conv=>arg 3;whnf
 refine Zj rfl rfl fun x1 hx1=>?_;conv=>arg 3;whnf
 exact Zh rfl
def ZiM (r:Int):D:=(Ze r)
theorem Zli {a:Int}:∀r,(ZhV a)=some r→evD ctx 151 [(.d (D.int .u64 a))]=some (ZiM r):=by
 show Z6 _ (fun r rhs=>rhs=some (ZiM r)) _
 unfold ZhV
 rw[ZcG ctx 151 ZxJ _ rfl rfl]
 conv=>arg 3;whnf
 refine Zg rfl ?_ ?_<;>conv=>arg 3;whnf
 ·refine ZO rfl ?_;conv=>arg 3;whnf
  refine Zg rfl ?_ ?_<;>conv=>arg 3;whnf
  ·refine ZO rfl ?_;conv=>arg 3;whnf
   refine Zg rfl ?_ ?_<;>conv=>arg 3;whnf
   ·refine ZO rfl ?_;conv=>arg 3;whnf
    refine Zg rfl ?_ ?_
    ·conv=>arg 3;whnf
     refine Zik rfl fun x0 hx0=>?_;conv=>arg 3;whnf
     exact Zh rfl
    ·exact ZbA
   ·refine Zg rfl ?_ ?_
    ·conv=>arg 3;whnf
     refine Zik rfl fun x1 hx1=>?_;conv=>arg 3;whnf
     exact Zh rfl
    ·exact ZbA
  ·refine Zg rfl ?_ ?_<;>conv=>arg 3;whnf
   ·refine ZO rfl ?_;conv=>arg 3;whnf
    refine Zg rfl ?_ ?_
    ·conv=>arg 3;whnf
     refine Zik rfl fun x2 hx2=>?_;conv=>arg 3;whnf
     exact Zh rfl
    ·exact ZbA
   ·refine Zg rfl ?_ ?_
    ·conv=>arg 3;whnf
     refine Zik rfl fun x3 hx3=>?_;conv=>arg 3;whnf
     exact Zh rfl
    ·exact ZbA
 ·refine Zg rfl ?_ ?_<;>conv=>arg 3;whnf
  ·refine ZO rfl ?_;conv=>arg 3;whnf
   refine Zg rfl ?_ ?_<;>conv=>arg 3;whnf
   ·refine ZO rfl ?_;conv=>arg 3;whnf
    refine Zg rfl ?_ ?_
    ·conv=>arg 3;whnf
     refine Zik rfl fun x4 hx4=>?_;conv=>arg 3;whnf
     exact Zh rfl
    ·exact ZbA
   ·refine Zg rfl ?_ ?_
    ·conv=>arg 3;whnf
     refine Zik rfl fun x5 hx5=>?_;conv=>arg 3;whnf
     exact Zh rfl
    ·exact ZbA
  ·refine Zg rfl ?_ ?_<;>conv=>arg 3;whnf
   ·refine ZO rfl ?_;conv=>arg 3;whnf
    refine Zg rfl ?_ ?_
    ·conv=>arg 3;whnf
     refine Zik rfl fun x6 hx6=>?_;conv=>arg 3;whnf
     exact Zh rfl
    ·exact ZbA
   ·refine Zg rfl ?_ ?_
    ·conv=>arg 3;whnf
     refine Zik rfl fun x7 hx7=>?_;conv=>arg 3;whnf
     exact Zh rfl
    ·exact ZbA
def Zjz (r:Int):D:=(Ze r)
theorem ZhC {a:Int}:∀r,(Zex a)=some r→evD ctx 139 [(.d (D.int .u64 a))]=some (Zjz r):=by
 show Z6 _ (fun r rhs=>rhs=some (Zjz r)) _
 unfold Zex
 rw[ZcG ctx 139 Zxo _ rfl rfl]
 conv=>arg 3;whnf
 refine Zr _ Zli rfl fun x0 hx0=>?_;conv=>arg 3;whnf
 exact Zh rfl
def ZcB (t0:Bool) (t1:Bool) (t2:Bool) (t3:Bool) (b:Int) (c:Int) (m0_0:(List Int)) (m1_0:Int) (m1_1:Int) (m1_2:(List Zam)) (m1_3:(List Zo)) (m1_4:(List Zk)) (m1_5:(List Zu)):(List Int)→V×Zp
  | r=>((.d (D.tup [])),[(.arr 1 (List.map Ze r)),(.cells [(.d (Ze m1_0)),(.d (Ze m1_1)),(.d (D.list t0 (List.map Zau m1_2))),(.d (D.list t1 (List.map ZI m1_3))),(.d (D.list t2 (List.map Zt m1_4))),(.d (D.list t3 (List.map Zz m1_5)))])])
def Zce (t0:Bool) (t1:Bool) (t2:Bool) (t3:Bool) (b:Int) (c:Int) (m1_0:Int) (m1_1:Int) (m1_2:(List Zam)) (m1_3:(List Zo)) (m1_4:(List Zk)) (m1_5:(List Zu)) (s0:Int×(List Int)):(List Int)→Ex×List V×Zp
  | r=>(.exit 2,[(.sl 0 1),(.d (Ze b)),(.d (Ze c)),(.fn 121 [(.ptr 1 0)]),(.d (Ze s0.1))],[(.arr 1 (List.map Ze r)),(.cells [(.d (Ze m1_0)),(.d (Ze m1_1)),(.d (D.list t0 (List.map Zau m1_2))),(.d (D.list t1 (List.map ZI m1_3))),(.d (D.list t2 (List.map Zt m1_4))),(.d (D.list t3 (List.map Zz m1_5)))])])
theorem Zed {t0:Bool}{t1:Bool}{t2:Bool}{t3:Bool}{b:Int}{c:Int}{m1_0:Int}{m1_1:Int}{m1_2:(List Zam)}{m1_3:(List Zo)}{m1_4:(List Zk)}{m1_5:(List Zu)}{s0:Int×(List Int)}:∀(s1:Int×(List Int)) (r:(List Int)),lp (Z2 b (fun z0 z1=>Zw z0 z1 m1_4)) s1=some r→lpW ctx 2 [0,1,2,3,8,9] [0,1,2,3,8] ZuG [(.sl 0 1),(.d (Ze b)),(.d (Ze c)),(.fn 121 [(.ptr 1 0)]),(.d (Ze s0.1)),(.d (Ze s1.1))] [(.arr 1 (List.map Ze s1.2)),(.cells [(.d (Ze m1_0)),(.d (Ze m1_1)),(.d (D.list t0 (List.map Zau m1_2))),(.d (D.list t1 (List.map ZI m1_3))),(.d (D.list t2 (List.map Zt m1_4))),(.d (D.list t3 (List.map Zz m1_5)))])]=some ((Zce t0 t1 t2 t3 b c m1_0 m1_1 m1_2 m1_3 m1_4 m1_5 s0) r):=by
 refine Zbc (Zce t0 t1 t2 t3 b c m1_0 m1_1 m1_2 m1_3 m1_4 m1_5 s0) ?_
 intro s1 rcl ih
 show Z6 _ _ (lpW _ _ _ _ _ _ _)
 unfold Z2
 rw[Zbd]
 conv=>arg 3;whnf
 refine Zg rfl ?_ ?_<;>conv=>arg 3;whnf
 ·refine Zj rfl rfl fun x2 hx2=>?_;conv=>arg 3;whnf
  refine Zf (Zl rfl hx2) ?_;conv=>arg 3;whnf
  refine Zj rfl rfl fun x3 hx3=>?_;conv=>arg 3;whnf
  refine Zf (Zl rfl hx3) ?_;conv=>arg 3;whnf
  refine Zr _ ZN rfl fun x4 hx4=>?_;conv=>arg 3;whnf
  refine Zg rfl ?_ ?_<;>conv=>arg 3;whnf
  ·refine Zf (ZaE rfl hx3) ?_;conv=>arg 3;whnf
   refine Zf (Zl rfl hx3) ?_;conv=>arg 3;whnf
   refine Zf (ZaE rfl hx2) ?_;conv=>arg 3;whnf
   refine Zf (Zl rfl hx2) ?_;conv=>arg 3;whnf
   refine Zf (ZaE rfl hx2) ?_;conv=>arg 3;whnf
   refine Zf (Zl rfl hx2) ?_;conv=>arg 3;whnf
   refine Zq (Z4 Ze s1.2 s1.1.toNat x3) ?_;conv=>arg 3;whnf
   refine Zj rfl rfl fun x5 hx5=>?_;conv=>arg 3;whnf
   refine Zf (Zl rfl hx5) ?_;conv=>arg 3;whnf
   refine Zq (Z4 Ze (List.set s1.2 s1.1.toNat x3) (w64 (s1.1-1)).toNat x2) ?_;conv=>arg 3;whnf
   exact Zd (ih _)
  ·exact Zh rfl
 ·exact Zh rfl
def Zcg (t0:Bool) (t1:Bool) (t2:Bool) (t3:Bool) (b:Int) (c:Int) (m1_0:Int) (m1_1:Int) (m1_2:(List Zam)) (m1_3:(List Zo)) (m1_4:(List Zk)) (m1_5:(List Zu)):(List Int)→Ex×List V×Zp
  | r=>(.exit 0,[],[(.arr 1 (List.map Ze r)),(.cells [(.d (Ze m1_0)),(.d (Ze m1_1)),(.d (D.list t0 (List.map Zau m1_2))),(.d (D.list t1 (List.map ZI m1_3))),(.d (D.list t2 (List.map Zt m1_4))),(.d (D.list t3 (List.map Zz m1_5)))])])
theorem Zee {t0:Bool}{t1:Bool}{t2:Bool}{t3:Bool}{b:Int}{c:Int}{m1_0:Int}{m1_1:Int}{m1_2:(List Zam)}{m1_3:(List Zo)}{m1_4:(List Zk)}{m1_5:(List Zu)}:∀(s0:Int×(List Int)) (r:(List Int)),lp (Zak b c (fun z0 z1=>Zw z0 z1 m1_4)) s0=some r→lpW ctx 2 [0,1,2,3,8] [] ZuX [(.sl 0 1),(.d (Ze b)),(.d (Ze c)),(.fn 121 [(.ptr 1 0)]),(.d (Ze s0.1))] [(.arr 1 (List.map Ze s0.2)),(.cells [(.d (Ze m1_0)),(.d (Ze m1_1)),(.d (D.list t0 (List.map Zau m1_2))),(.d (D.list t1 (List.map ZI m1_3))),(.d (D.list t2 (List.map Zt m1_4))),(.d (D.list t3 (List.map Zz m1_5)))])]=some ((Zcg t0 t1 t2 t3 b c m1_0 m1_1 m1_2 m1_3 m1_4 m1_5) r):=by
 refine Zbc (Zcg t0 t1 t2 t3 b c m1_0 m1_1 m1_2 m1_3 m1_4 m1_5) ?_
 intro s0 rcl ih
 show Z6 _ _ (lpW _ _ _ _ _ _ _)
 unfold Zak
 rw[Zbd]
 conv=>arg 3;whnf
 refine Zg rfl ?_ ?_<;>conv=>arg 3;whnf
 ·refine Zc _ (Zed _) fun r6 hr6=>?_;conv=>arg 3;whnf
  exact Zd (ih _)
 ·exact Zh rfl
theorem ZaO {t0:Bool}{t1:Bool}{t2:Bool}{t3:Bool}{b:Int}{c:Int}{m0_0:(List Int)}{m1_0:Int}{m1_1:Int}{m1_2:(List Zam)}{m1_3:(List Zo)}{m1_4:(List Zk)}{m1_5:(List Zu)}:∀r,(Z3 b c (fun z0 z1=>Zw z0 z1 m1_4) m0_0)=some r→evW ctx 142 [(.sl 0 1),(.d (Ze b)),(.d (Ze c)),(.fn 121 [(.ptr 1 0)])] [(.arr 1 (List.map Ze m0_0)),(.cells [(.d (Ze m1_0)),(.d (Ze m1_1)),(.d (D.list t0 (List.map Zau m1_2))),(.d (D.list t1 (List.map ZI m1_3))),(.d (D.list t2 (List.map Zt m1_4))),(.d (D.list t3 (List.map Zz m1_5)))])]=some ((ZcB t0 t1 t2 t3 b c m0_0 m1_0 m1_1 m1_2 m1_3 m1_4 m1_5) r):=by
 show Z6 _ (fun r rhs=>rhs=some ((ZcB t0 t1 t2 t3 b c m0_0 m1_0 m1_1 m1_2 m1_3 m1_4 m1_5) r)) _
 unfold Z3
 rw[Zej ctx 142 ZxL _ _ rfl rfl]
 conv=>arg 3;whnf
 refine Zc _ (Zee _) fun r7 hr7=>?_;conv=>arg 3;whnf
 exact Zh rfl
def Zdf (t0:Bool) (t1:Bool) (t2:Bool) (t3:Bool) (b:Int) (c:Int) (d:Int) (m0_0:(List Int)) (m1_0:Int) (m1_1:Int) (m1_2:(List Zam)) (m1_3:(List Zo)) (m1_4:(List Zk)) (m1_5:(List Zu)):(List Int)→V×Zp
  | r=>((.d (D.tup [])),[(.arr 1 (List.map Ze r)),(.cells [(.d (Ze m1_0)),(.d (Ze m1_1)),(.d (D.list t0 (List.map Zau m1_2))),(.d (D.list t1 (List.map ZI m1_3))),(.d (D.list t2 (List.map Zt m1_4))),(.d (D.list t3 (List.map Zz m1_5)))])])
def ZcQ (t0:Bool) (t1:Bool) (t2:Bool) (t3:Bool) (c:Int) (d:Int) (m1_0:Int) (m1_1:Int) (m1_2:(List Zam)) (m1_3:(List Zo)) (m1_4:(List Zk)) (m1_5:(List Zu)):((List Int)⊕(List Int))→Ex×List V×Zp
  | (.inl r)=>(.exit 0,[],[(.arr 1 (List.map Ze r)),(.cells [(.d (Ze m1_0)),(.d (Ze m1_1)),(.d (D.list t0 (List.map Zau m1_2))),(.d (D.list t1 (List.map ZI m1_3))),(.d (D.list t2 (List.map Zt m1_4))),(.d (D.list t3 (List.map Zz m1_5)))])])
  | (.inr r)=>(.ret,[],[(.arr 1 (List.map Ze r)),(.cells [(.d (Ze m1_0)),(.d (Ze m1_1)),(.d (D.list t0 (List.map Zau m1_2))),(.d (D.list t1 (List.map ZI m1_3))),(.d (D.list t2 (List.map Zt m1_4))),(.d (D.list t3 (List.map Zz m1_5)))])])
theorem Ze0 {t0:Bool}{t1:Bool}{t2:Bool}{t3:Bool}{c:Int}{d:Int}{m1_0:Int}{m1_1:Int}{m1_2:(List Zam)}{m1_3:(List Zo)}{m1_4:(List Zk)}{m1_5:(List Zu)}:∀(s0:Int×(List Int)) (r:((List Int)⊕(List Int))),lp (ZM c d (fun z0 z1=>Zw z0 z1 m1_4)) s0=some r→lpW ctx 2 [0,2,3,4,10] [] Zuh [(.sl 0 1),(.d (Ze c)),(.d (Ze d)),(.fn 121 [(.ptr 1 0)]),(.d (Ze s0.1))] [(.arr 1 (List.map Ze s0.2)),(.cells [(.d (Ze m1_0)),(.d (Ze m1_1)),(.d (D.list t0 (List.map Zau m1_2))),(.d (D.list t1 (List.map ZI m1_3))),(.d (D.list t2 (List.map Zt m1_4))),(.d (D.list t3 (List.map Zz m1_5)))])]=some ((ZcQ t0 t1 t2 t3 c d m1_0 m1_1 m1_2 m1_3 m1_4 m1_5) r):=by
 refine Zbc (ZcQ t0 t1 t2 t3 c d m1_0 m1_1 m1_2 m1_3 m1_4 m1_5) ?_
 intro s0 rcl ih
 show Z6 _ _ (lpW _ _ _ _ _ _ _)
 unfold ZM
 rw[Zbd]
 conv=>arg 3;whnf
 refine Zg rfl ?_ ?_<;>conv=>arg 3;whnf
 ·exact Zh rfl
 ·refine Zg rfl ?_ ?_<;>conv=>arg 3;whnf
  ·refine Zj rfl rfl fun x1 hx1=>?_;conv=>arg 3;whnf
   refine Zf (Zl rfl hx1) ?_;conv=>arg 3;whnf
   refine Zj rfl rfl fun x2 hx2=>?_;conv=>arg 3;whnf
   refine Zf (Zl rfl hx2) ?_;conv=>arg 3;whnf
   refine Zr _ ZN rfl fun x3 hx3=>?_;conv=>arg 3;whnf
   refine Zg rfl ?_ ?_<;>conv=>arg 3;whnf
   ·refine Zj rfl rfl fun x4 hx4=>?_;conv=>arg 3;whnf
    refine Zf (Zl rfl hx4) ?_;conv=>arg 3;whnf
    refine Zj rfl rfl fun x5 hx5=>?_;conv=>arg 3;whnf
    refine Zf (Zl rfl hx5) ?_;conv=>arg 3;whnf
    refine Zr _ ZN rfl fun x6 hx6=>?_;conv=>arg 3;whnf
    refine Zg rfl ?_ ?_<;>conv=>arg 3;whnf
    ·refine Zf (ZaE rfl hx5) ?_;conv=>arg 3;whnf
     refine Zf (Zl rfl hx5) ?_;conv=>arg 3;whnf
     refine Zf (ZaE rfl hx4) ?_;conv=>arg 3;whnf
     refine Zf (Zl rfl hx4) ?_;conv=>arg 3;whnf
     refine Zf (ZaE rfl hx4) ?_;conv=>arg 3;whnf
     refine Zf (Zl rfl hx4) ?_;conv=>arg 3;whnf
     refine Zq (Z4 Ze s0.2 (w64 (d+s0.1)).toNat x5) ?_;conv=>arg 3;whnf
     refine Zj rfl rfl fun x7 hx7=>?_;conv=>arg 3;whnf
     refine Zf (Zl rfl hx7) ?_;conv=>arg 3;whnf
     refine Zq (Z4 Ze (List.set s0.2 (w64 (d+s0.1)).toNat x5) (w64 (d+(w64 ((w64 ((w64 (2*s0.1))+1))+1)))).toNat x4) ?_;conv=>arg 3;whnf
     exact Zd (ih _)
    ·exact Zh rfl
   ·refine Zj rfl rfl fun x8 hx8=>?_;conv=>arg 3;whnf
    refine Zf (Zl rfl hx8) ?_;conv=>arg 3;whnf
    refine Zf (ZaE rfl hx1) ?_;conv=>arg 3;whnf
    refine Zf (Zl rfl hx1) ?_;conv=>arg 3;whnf
    refine Zr _ ZN rfl fun x9 hx9=>?_;conv=>arg 3;whnf
    refine Zg rfl ?_ ?_<;>conv=>arg 3;whnf
    ·refine Zf (ZaE rfl hx1) ?_;conv=>arg 3;whnf
     refine Zf (Zl rfl hx1) ?_;conv=>arg 3;whnf
     refine Zf (ZaE rfl hx8) ?_;conv=>arg 3;whnf
     refine Zf (Zl rfl hx8) ?_;conv=>arg 3;whnf
     refine Zf (ZaE rfl hx8) ?_;conv=>arg 3;whnf
     refine Zf (Zl rfl hx8) ?_;conv=>arg 3;whnf
     refine Zq (Z4 Ze s0.2 (w64 (d+s0.1)).toNat x1) ?_;conv=>arg 3;whnf
     refine Zj rfl rfl fun x10 hx10=>?_;conv=>arg 3;whnf
     refine Zf (Zl rfl hx10) ?_;conv=>arg 3;whnf
     refine Zq (Z4 Ze (List.set s0.2 (w64 (d+s0.1)).toNat x1) (w64 (d+(w64 ((w64 (2*s0.1))+1)))).toNat x8) ?_;conv=>arg 3;whnf
     exact Zd (ih _)
    ·exact Zh rfl
  ·refine Zj rfl rfl fun x11 hx11=>?_;conv=>arg 3;whnf
   refine Zf (Zl rfl hx11) ?_;conv=>arg 3;whnf
   refine Zj rfl rfl fun x12 hx12=>?_;conv=>arg 3;whnf
   refine Zf (Zl rfl hx12) ?_;conv=>arg 3;whnf
   refine Zr _ ZN rfl fun x13 hx13=>?_;conv=>arg 3;whnf
   refine Zg rfl ?_ ?_<;>conv=>arg 3;whnf
   ·refine Zf (ZaE rfl hx12) ?_;conv=>arg 3;whnf
    refine Zf (Zl rfl hx12) ?_;conv=>arg 3;whnf
    refine Zf (ZaE rfl hx11) ?_;conv=>arg 3;whnf
    refine Zf (Zl rfl hx11) ?_;conv=>arg 3;whnf
    refine Zf (ZaE rfl hx11) ?_;conv=>arg 3;whnf
    refine Zf (Zl rfl hx11) ?_;conv=>arg 3;whnf
    refine Zq (Z4 Ze s0.2 (w64 (d+s0.1)).toNat x12) ?_;conv=>arg 3;whnf
    refine Zj rfl rfl fun x14 hx14=>?_;conv=>arg 3;whnf
    refine Zf (Zl rfl hx14) ?_;conv=>arg 3;whnf
    refine Zq (Z4 Ze (List.set s0.2 (w64 (d+s0.1)).toNat x12) (w64 (d+(w64 ((w64 (2*s0.1))+1)))).toNat x11) ?_;conv=>arg 3;whnf
    exact Zd (ih _)
   ·exact Zh rfl
theorem ZcZ {t0:Bool}{t1:Bool}{t2:Bool}{t3:Bool}{b:Int}{c:Int}{d:Int}{m0_0:(List Int)}{m1_0:Int}{m1_1:Int}{m1_2:(List Zam)}{m1_3:(List Zo)}{m1_4:(List Zk)}{m1_5:(List Zu)}:∀r,(ZaK b c d (fun z0 z1=>Zw z0 z1 m1_4) m0_0)=some r→evW ctx 161 [(.sl 0 1),(.d (Ze b)),(.d (Ze c)),(.d (Ze d)),(.fn 121 [(.ptr 1 0)])] [(.arr 1 (List.map Ze m0_0)),(.cells [(.d (Ze m1_0)),(.d (Ze m1_1)),(.d (D.list t0 (List.map Zau m1_2))),(.d (D.list t1 (List.map ZI m1_3))),(.d (D.list t2 (List.map Zt m1_4))),(.d (D.list t3 (List.map Zz m1_5)))])]=some ((Zdf t0 t1 t2 t3 b c d m0_0 m1_0 m1_1 m1_2 m1_3 m1_4 m1_5) r):=by
 show Z6 _ (fun r rhs=>rhs=some ((Zdf t0 t1 t2 t3 b c d m0_0 m1_0 m1_1 m1_2 m1_3 m1_4 m1_5) r)) _
 unfold ZaK
 rw[Zej ctx 161 ZwB _ _ rfl rfl]
 conv=>arg 3;whnf
 refine Zc _ (Ze0 _) fun r15 hr15=>?_
 clear hr15
 rcases r15 with r15 | r15
 ·conv=>arg 3;whnf
  exact Zh rfl
 ·conv=>arg 3;whnf
  exact Zh rfl
def Zde (t0:Bool) (t1:Bool) (t2:Bool) (t3:Bool) (b:Int) (c:Int) (m0_0:(List Int)) (m1_0:Int) (m1_1:Int) (m1_2:(List Zam)) (m1_3:(List Zo)) (m1_4:(List Zk)) (m1_5:(List Zu)):(List Int)→V×Zp
  | r=>((.d (D.tup [])),[(.arr 1 (List.map Ze r)),(.cells [(.d (Ze m1_0)),(.d (Ze m1_1)),(.d (D.list t0 (List.map Zau m1_2))),(.d (D.list t1 (List.map ZI m1_3))),(.d (D.list t2 (List.map Zt m1_4))),(.d (D.list t3 (List.map Zz m1_5)))])])
def ZcN (t0:Bool) (t1:Bool) (t2:Bool) (t3:Bool) (b:Int) (c:Int) (m1_0:Int) (m1_1:Int) (m1_2:(List Zam)) (m1_3:(List Zo)) (m1_4:(List Zk)) (m1_5:(List Zu)):(List Int)→Ex×List V×Zp
  | r=>(.exit 0,[(.sl 0 1),(.fn 121 [(.ptr 1 0)]),(.d (Ze b)),(.d (Ze 0)),(.d (Ze (w64 (c-b))))],[(.arr 1 (List.map Ze r)),(.cells [(.d (Ze m1_0)),(.d (Ze m1_1)),(.d (D.list t0 (List.map Zau m1_2))),(.d (D.list t1 (List.map ZI m1_3))),(.d (D.list t2 (List.map Zt m1_4))),(.d (D.list t3 (List.map Zz m1_5)))])])
theorem Zfb {t0:Bool}{t1:Bool}{t2:Bool}{t3:Bool}{b:Int}{c:Int}{m1_0:Int}{m1_1:Int}{m1_2:(List Zam)}{m1_3:(List Zo)}{m1_4:(List Zk)}{m1_5:(List Zu)}:∀(s0:Int×(List Int)) (r:(List Int)),lp (ZaG b c (fun z0 z1=>Zw z0 z1 m1_4)) s0=some r→lpW ctx 2 [0,3,8,9,10,11] [0,3,8,9,10] Zvm [(.sl 0 1),(.fn 121 [(.ptr 1 0)]),(.d (Ze b)),(.d (Ze 0)),(.d (Ze (w64 (c-b)))),(.d (Ze s0.1))] [(.arr 1 (List.map Ze s0.2)),(.cells [(.d (Ze m1_0)),(.d (Ze m1_1)),(.d (D.list t0 (List.map Zau m1_2))),(.d (D.list t1 (List.map ZI m1_3))),(.d (D.list t2 (List.map Zt m1_4))),(.d (D.list t3 (List.map Zz m1_5)))])]=some ((ZcN t0 t1 t2 t3 b c m1_0 m1_1 m1_2 m1_3 m1_4 m1_5) r):=by
 refine Zbc (ZcN t0 t1 t2 t3 b c m1_0 m1_1 m1_2 m1_3 m1_4 m1_5) ?_
 intro s0 rcl ih
 show Z6 _ _ (lpW _ _ _ _ _ _ _)
 unfold ZaG
 rw[Zbd]
 conv=>arg 3;whnf
 refine Zg rfl ?_ ?_<;>conv=>arg 3;whnf
 ·refine Zc _ ZcZ fun x1 hx1=>?_;conv=>arg 3;whnf
  exact Zd (ih _)
 ·exact Zh rfl
def ZcO (t0:Bool) (t1:Bool) (t2:Bool) (t3:Bool) (b:Int) (m1_0:Int) (m1_1:Int) (m1_2:(List Zam)) (m1_3:(List Zo)) (m1_4:(List Zk)) (m1_5:(List Zu)):(List Int)→Ex×List V×Zp
  | r=>(.exit 2,[],[(.arr 1 (List.map Ze r)),(.cells [(.d (Ze m1_0)),(.d (Ze m1_1)),(.d (D.list t0 (List.map Zau m1_2))),(.d (D.list t1 (List.map ZI m1_3))),(.d (D.list t2 (List.map Zt m1_4))),(.d (D.list t3 (List.map Zz m1_5)))])])
theorem Ze7 {t0:Bool}{t1:Bool}{t2:Bool}{t3:Bool}{b:Int}{m1_0:Int}{m1_1:Int}{m1_2:(List Zam)}{m1_3:(List Zo)}{m1_4:(List Zk)}{m1_5:(List Zu)}:∀(s3:Int×(List Int)) (r:(List Int)),lp (ZaJ b (fun z0 z1=>Zw z0 z1 m1_4)) s3=some r→lpW ctx 2 [0,3,8,9,12] [] Zuq [(.sl 0 1),(.fn 121 [(.ptr 1 0)]),(.d (Ze b)),(.d (Ze 0)),(.d (Ze s3.1))] [(.arr 1 (List.map Ze s3.2)),(.cells [(.d (Ze m1_0)),(.d (Ze m1_1)),(.d (D.list t0 (List.map Zau m1_2))),(.d (D.list t1 (List.map ZI m1_3))),(.d (D.list t2 (List.map Zt m1_4))),(.d (D.list t3 (List.map Zz m1_5)))])]=some ((ZcO t0 t1 t2 t3 b m1_0 m1_1 m1_2 m1_3 m1_4 m1_5) r):=by
 refine Zbc (ZcO t0 t1 t2 t3 b m1_0 m1_1 m1_2 m1_3 m1_4 m1_5) ?_
 intro s3 rcl ih
 show Z6 _ _ (lpW _ _ _ _ _ _ _)
 unfold ZaJ
 rw[Zbd]
 conv=>arg 3;whnf
 refine Zg rfl ?_ ?_<;>conv=>arg 3;whnf
 ·refine Zj rfl rfl fun x4 hx4=>?_;conv=>arg 3;whnf
  refine Zf (Zl rfl hx4) ?_;conv=>arg 3;whnf
  refine Zj rfl rfl fun x5 hx5=>?_;conv=>arg 3;whnf
  refine Zf (Zl rfl hx5) ?_;conv=>arg 3;whnf
  refine Zf (ZaE rfl hx5) ?_;conv=>arg 3;whnf
  refine Zf (Zl rfl hx5) ?_;conv=>arg 3;whnf
  refine Zq (Z4 Ze s3.2 b.toNat x4) ?_;conv=>arg 3;whnf
  refine Zj rfl rfl fun x6 hx6=>?_;conv=>arg 3;whnf
  refine Zf (Zl rfl hx6) ?_;conv=>arg 3;whnf
  refine Zq (Z4 Ze (List.set s3.2 b.toNat x4) (w64 (b+s3.1)).toNat x5) ?_;conv=>arg 3;whnf
  refine Zc _ ZcZ fun x7 hx7=>?_;conv=>arg 3;whnf
  exact Zd (ih _)
 ·exact Zh rfl
theorem Za9 {t0:Bool}{t1:Bool}{t2:Bool}{t3:Bool}{b:Int}{c:Int}{m0_0:(List Int)}{m1_0:Int}{m1_1:Int}{m1_2:(List Zam)}{m1_3:(List Zo)}{m1_4:(List Zk)}{m1_5:(List Zu)}:∀r,(Zag b c (fun z0 z1=>Zw z0 z1 m1_4) m0_0)=some r→evW ctx 143 [(.sl 0 1),(.d (Ze b)),(.d (Ze c)),(.fn 121 [(.ptr 1 0)])] [(.arr 1 (List.map Ze m0_0)),(.cells [(.d (Ze m1_0)),(.d (Ze m1_1)),(.d (D.list t0 (List.map Zau m1_2))),(.d (D.list t1 (List.map ZI m1_3))),(.d (D.list t2 (List.map Zt m1_4))),(.d (D.list t3 (List.map Zz m1_5)))])]=some ((Zde t0 t1 t2 t3 b c m0_0 m1_0 m1_1 m1_2 m1_3 m1_4 m1_5) r):=by
 show Z6 _ (fun r rhs=>rhs=some ((Zde t0 t1 t2 t3 b c m0_0 m1_0 m1_1 m1_2 m1_3 m1_4 m1_5) r)) _
 unfold Zag
 rw[Zej ctx 143 Zx3 _ _ rfl rfl]
 conv=>arg 3;whnf
 refine ZO rfl ?_;conv=>arg 3;whnf
 refine Zc _ (Zfb _) fun r2 hr2=>?_;conv=>arg 3;whnf
 refine Zc _ (Ze7 _) fun r8 hr8=>?_;conv=>arg 3;whnf
 exact Zh rfl
def Zdr (t0:Bool) (t1:Bool) (t2:Bool) (t3:Bool) (b:Int) (c:Int) (m0_0:(List Int)) (m1_0:Int) (m2_0:Int) (m2_1:Int) (m2_2:(List Zam)) (m2_3:(List Zo)) (m2_4:(List Zk)) (m2_5:(List Zu)):(Int×Int×Int)→V×Zp
  | r=>((.d (D.tup [(Ze r.1),(Ze r.2.1)])),[(.arr 1 (List.map Ze m0_0)),(.cells [(.d (Ze r.2.2))]),(.cells [(.d (Ze m2_0)),(.d (Ze m2_1)),(.d (D.list t0 (List.map Zau m2_2))),(.d (D.list t1 (List.map ZI m2_3))),(.d (D.list t2 (List.map Zt m2_4))),(.d (D.list t3 (List.map Zz m2_5)))])])
theorem ZbX {t0:Bool}{t1:Bool}{t2:Bool}{t3:Bool}{b:Int}{c:Int}{m0_0:(List Int)}{m1_0:Int}{m2_0:Int}{m2_1:Int}{m2_2:(List Zam)}{m2_3:(List Zo)}{m2_4:(List Zk)}{m2_5:(List Zu)}:∀r,(ZaY b c (fun z0 z1=>Zw z0 z1 m2_4) m0_0 m1_0)=some r→evW ctx 170 [(.sl 0 1),(.d (Ze b)),(.d (Ze c)),(.ptr 1 0),(.fn 121 [(.ptr 2 0)])] [(.arr 1 (List.map Ze m0_0)),(.cells [(.d (Ze m1_0))]),(.cells [(.d (Ze m2_0)),(.d (Ze m2_1)),(.d (D.list t0 (List.map Zau m2_2))),(.d (D.list t1 (List.map ZI m2_3))),(.d (D.list t2 (List.map Zt m2_4))),(.d (D.list t3 (List.map Zz m2_5)))])]=some ((Zdr t0 t1 t2 t3 b c m0_0 m1_0 m2_0 m2_1 m2_2 m2_3 m2_4 m2_5) r):=by
 show Z6 _ (fun r rhs=>rhs=some ((Zdr t0 t1 t2 t3 b c m0_0 m1_0 m2_0 m2_1 m2_2 m2_3 m2_4 m2_5) r)) _
 unfold ZaY
 rw[Zej ctx 170 Zw6 _ _ rfl rfl]
 conv=>arg 3;whnf
 refine Zj rfl rfl fun x0 hx0=>?_;conv=>arg 3;whnf
 refine Zf (Zl rfl hx0) ?_;conv=>arg 3;whnf
 refine Zj rfl rfl fun x1 hx1=>?_;conv=>arg 3;whnf
 refine Zf (Zl rfl hx1) ?_;conv=>arg 3;whnf
 refine Zr _ ZN rfl fun x2 hx2=>?_;conv=>arg 3;whnf
 refine Zg rfl ?_ ?_<;>conv=>arg 3;whnf
 ·exact Zh rfl
 ·exact Zh rfl
def Zdq (t0:Bool) (t1:Bool) (t2:Bool) (t3:Bool) (b:Int) (c:Int) (d:Int) (m0_0:(List Int)) (m1_0:Int) (m2_0:Int) (m2_1:Int) (m2_2:(List Zam)) (m2_3:(List Zo)) (m2_4:(List Zk)) (m2_5:(List Zu)):(Int×Int)→V×Zp
  | r=>((.d (Ze r.1)),[(.arr 1 (List.map Ze m0_0)),(.cells [(.d (Ze r.2))]),(.cells [(.d (Ze m2_0)),(.d (Ze m2_1)),(.d (D.list t0 (List.map Zau m2_2))),(.d (D.list t1 (List.map ZI m2_3))),(.d (D.list t2 (List.map Zt m2_4))),(.d (D.list t3 (List.map Zz m2_5)))])])
theorem ZbY {t0:Bool}{t1:Bool}{t2:Bool}{t3:Bool}{b:Int}{c:Int}{d:Int}{m0_0:(List Int)}{m1_0:Int}{m2_0:Int}{m2_1:Int}{m2_2:(List Zam)}{m2_3:(List Zo)}{m2_4:(List Zk)}{m2_5:(List Zu)}:∀r,(ZaX b c d (fun z0 z1=>Zw z0 z1 m2_4) m0_0 m1_0)=some r→evW ctx 165 [(.sl 0 1),(.d (Ze b)),(.d (Ze c)),(.d (Ze d)),(.ptr 1 0),(.fn 121 [(.ptr 2 0)])] [(.arr 1 (List.map Ze m0_0)),(.cells [(.d (Ze m1_0))]),(.cells [(.d (Ze m2_0)),(.d (Ze m2_1)),(.d (D.list t0 (List.map Zau m2_2))),(.d (D.list t1 (List.map ZI m2_3))),(.d (D.list t2 (List.map Zt m2_4))),(.d (D.list t3 (List.map Zz m2_5)))])]=some ((Zdq t0 t1 t2 t3 b c d m0_0 m1_0 m2_0 m2_1 m2_2 m2_3 m2_4 m2_5) r):=by
 show Z6 _ (fun r rhs=>rhs=some ((Zdq t0 t1 t2 t3 b c d m0_0 m1_0 m2_0 m2_1 m2_2 m2_3 m2_4 m2_5) r)) _
 unfold ZaX
 rw[Zej ctx 165 ZwJ _ _ rfl rfl]
 conv=>arg 3;whnf
 refine Zc _ ZbX fun x0 hx0=>?_;conv=>arg 3;whnf
 refine Zc _ ZbX fun x1 hx1=>?_;conv=>arg 3;whnf
 refine Zc _ ZbX fun x2 hx2=>?_;conv=>arg 3;whnf
 exact Zh rfl
def Zcr (t0:Bool) (t1:Bool) (t2:Bool) (t3:Bool) (b:Int) (m0_0:(List Int)) (m1_0:Int) (m2_0:Int) (m2_1:Int) (m2_2:(List Zam)) (m2_3:(List Zo)) (m2_4:(List Zk)) (m2_5:(List Zu)):(Int×Int)→V×Zp
  | r=>((.d (Ze r.1)),[(.arr 1 (List.map Ze m0_0)),(.cells [(.d (Ze r.2))]),(.cells [(.d (Ze m2_0)),(.d (Ze m2_1)),(.d (D.list t0 (List.map Zau m2_2))),(.d (D.list t1 (List.map ZI m2_3))),(.d (D.list t2 (List.map Zt m2_4))),(.d (D.list t3 (List.map Zz m2_5)))])])
theorem Zbm {t0:Bool}{t1:Bool}{t2:Bool}{t3:Bool}{b:Int}{m0_0:(List Int)}{m1_0:Int}{m2_0:Int}{m2_1:Int}{m2_2:(List Zam)}{m2_3:(List Zo)}{m2_4:(List Zk)}{m2_5:(List Zu)}:∀r,(Zad b (fun z0 z1=>Zw z0 z1 m2_4) m0_0 m1_0)=some r→evW ctx 164 [(.sl 0 1),(.d (Ze b)),(.ptr 1 0),(.fn 121 [(.ptr 2 0)])] [(.arr 1 (List.map Ze m0_0)),(.cells [(.d (Ze m1_0))]),(.cells [(.d (Ze m2_0)),(.d (Ze m2_1)),(.d (D.list t0 (List.map Zau m2_2))),(.d (D.list t1 (List.map ZI m2_3))),(.d (D.list t2 (List.map Zt m2_4))),(.d (D.list t3 (List.map Zz m2_5)))])]=some ((Zcr t0 t1 t2 t3 b m0_0 m1_0 m2_0 m2_1 m2_2 m2_3 m2_4 m2_5) r):=by
 show Z6 _ (fun r rhs=>rhs=some ((Zcr t0 t1 t2 t3 b m0_0 m1_0 m2_0 m2_1 m2_2 m2_3 m2_4 m2_5) r)) _
 unfold Zad
 rw[Zej ctx 164 ZyI _ _ rfl rfl]
 conv=>arg 3;whnf
 refine Zc _ ZbY fun x0 hx0=>?_;conv=>arg 3;whnf
 exact Zh rfl
def ZcP (t0:Bool) (t1:Bool) (t2:Bool) (t3:Bool) (b:Int) (c:Int) (m0_0:(List Int)) (m1_0:Int) (m1_1:Int) (m1_2:(List Zam)) (m1_3:(List Zo)) (m1_4:(List Zk)) (m1_5:(List Zu)):(Int×Int)→V×Zp
  | r=>((.d (D.tup [(Ze r.1),(Ze r.2)])),[(.arr 1 (List.map Ze m0_0)),(.cells [(.d (Ze m1_0)),(.d (Ze m1_1)),(.d (D.list t0 (List.map Zau m1_2))),(.d (D.list t1 (List.map ZI m1_3))),(.d (D.list t2 (List.map Zt m1_4))),(.d (D.list t3 (List.map Zz m1_5)))])])
theorem ZaV {t0:Bool}{t1:Bool}{t2:Bool}{t3:Bool}{b:Int}{c:Int}{m0_0:(List Int)}{m1_0:Int}{m1_1:Int}{m1_2:(List Zam)}{m1_3:(List Zo)}{m1_4:(List Zk)}{m1_5:(List Zu)}:∀r,(ZT b c (fun z0 z1=>Zw z0 z1 m1_4) m0_0)=some r→evW ctx 145 [(.sl 0 1),(.d (Ze b)),(.d (Ze c)),(.fn 121 [(.ptr 1 0)])] [(.arr 1 (List.map Ze m0_0)),(.cells [(.d (Ze m1_0)),(.d (Ze m1_1)),(.d (D.list t0 (List.map Zau m1_2))),(.d (D.list t1 (List.map ZI m1_3))),(.d (D.list t2 (List.map Zt m1_4))),(.d (D.list t3 (List.map Zz m1_5)))])]=some ((ZcP t0 t1 t2 t3 b c m0_0 m1_0 m1_1 m1_2 m1_3 m1_4 m1_5) r):=by
 show Z6 _ (fun r rhs=>rhs=some ((ZcP t0 t1 t2 t3 b c m0_0 m1_0 m1_1 m1_2 m1_3 m1_4 m1_5) r)) _
 unfold ZT
 rw[Zej ctx 145 ZwU _ _ rfl rfl]
 conv=>arg 3;whnf
 refine ZO rfl ?_;conv=>arg 3;whnf
 refine ZO rfl ?_;conv=>arg 3;whnf
 refine ZO rfl ?_;conv=>arg 3;whnf
 refine Zg rfl ?_ ?_<;>conv=>arg 3;whnf
 ·refine Zg rfl ?_ ?_<;>conv=>arg 3;whnf
  ·refine Zc _ Zbm fun x0 hx0=>?_;conv=>arg 3;whnf
   refine Zc _ Zbm fun x1 hx1=>?_;conv=>arg 3;whnf
   refine Zc _ Zbm fun x2 hx2=>?_;conv=>arg 3;whnf
   refine Zc _ ZbY fun x3 hx3=>?_;conv=>arg 3;whnf
   refine Zg rfl ?_ ?_<;>conv=>arg 3;whnf
   ·exact Zh rfl
   ·refine Zg rfl ?_ ?_<;>conv=>arg 3;whnf
    ·exact Zh rfl
    ·exact Zh rfl
  ·refine Zc _ ZbY fun x4 hx4=>?_;conv=>arg 3;whnf
   refine Zg rfl ?_ ?_<;>conv=>arg 3;whnf
   ·exact Zh rfl
   ·refine Zg rfl ?_ ?_<;>conv=>arg 3;whnf
    ·exact Zh rfl
    ·exact Zh rfl
 ·refine Zbx rfl ?_;conv=>arg 3;whnf
  exact Zh rfl
def ZcD (t0:Bool) (t1:Bool) (t2:Bool) (t3:Bool) (b:Int) (c:Int) (m0_0:(List Int)) (m1_0:Int) (m1_1:Int) (m1_2:(List Zam)) (m1_3:(List Zo)) (m1_4:(List Zk)) (m1_5:(List Zu)):(List Int)→V×Zp
  | r=>((.d (D.tup [])),[(.arr 1 (List.map Ze r)),(.cells [(.d (Ze m1_0)),(.d (Ze m1_1)),(.d (D.list t0 (List.map Zau m1_2))),(.d (D.list t1 (List.map ZI m1_3))),(.d (D.list t2 (List.map Zt m1_4))),(.d (D.list t3 (List.map Zz m1_5)))])])
def Zco (t0:Bool) (t1:Bool) (t2:Bool) (t3:Bool) (m1_0:Int) (m1_1:Int) (m1_2:(List Zam)) (m1_3:(List Zo)) (m1_4:(List Zk)) (m1_5:(List Zu)):(List Int)→Ex×List V×Zp
  | r=>(.exit 0,[],[(.arr 1 (List.map Ze r)),(.cells [(.d (Ze m1_0)),(.d (Ze m1_1)),(.d (D.list t0 (List.map Zau m1_2))),(.d (D.list t1 (List.map ZI m1_3))),(.d (D.list t2 (List.map Zt m1_4))),(.d (D.list t3 (List.map Zz m1_5)))])])
theorem Zem {t0:Bool}{t1:Bool}{t2:Bool}{t3:Bool}{m1_0:Int}{m1_1:Int}{m1_2:(List Zam)}{m1_3:(List Zo)}{m1_4:(List Zk)}{m1_5:(List Zu)}:∀(s0:Int×Int×(List Int)) (r:(List Int)),lp (Zaa) s0=some r→lpW ctx 2 [0,8,9] [] Zuo [(.sl 0 1),(.d (Ze s0.1)),(.d (Ze s0.2.1))] [(.arr 1 (List.map Ze s0.2.2)),(.cells [(.d (Ze m1_0)),(.d (Ze m1_1)),(.d (D.list t0 (List.map Zau m1_2))),(.d (D.list t1 (List.map ZI m1_3))),(.d (D.list t2 (List.map Zt m1_4))),(.d (D.list t3 (List.map Zz m1_5)))])]=some ((Zco t0 t1 t2 t3 m1_0 m1_1 m1_2 m1_3 m1_4 m1_5) r):=by
 refine Zbc (Zco t0 t1 t2 t3 m1_0 m1_1 m1_2 m1_3 m1_4 m1_5) ?_
 intro s0 rcl ih
 show Z6 _ _ (lpW _ _ _ _ _ _ _)
 unfold Zaa
 rw[Zbd]
 conv=>arg 3;whnf
 refine Zg rfl ?_ ?_<;>conv=>arg 3;whnf
 ·refine Zj rfl rfl fun x1 hx1=>?_;conv=>arg 3;whnf
  refine Zf (Zl rfl hx1) ?_;conv=>arg 3;whnf
  refine Zj rfl rfl fun x2 hx2=>?_;conv=>arg 3;whnf
  refine Zf (Zl rfl hx2) ?_;conv=>arg 3;whnf
  refine Zf (ZaE rfl hx2) ?_;conv=>arg 3;whnf
  refine Zf (Zl rfl hx2) ?_;conv=>arg 3;whnf
  refine Zq (Z4 Ze s0.2.2 s0.1.toNat x1) ?_;conv=>arg 3;whnf
  refine Zj rfl rfl fun x3 hx3=>?_;conv=>arg 3;whnf
  refine Zf (Zl rfl hx3) ?_;conv=>arg 3;whnf
  refine Zq (Z4 Ze (List.set s0.2.2 s0.1.toNat x1) s0.2.1.toNat x2) ?_;conv=>arg 3;whnf
  exact Zd (ih _)
 ·exact Zh rfl
theorem ZaU {t0:Bool}{t1:Bool}{t2:Bool}{t3:Bool}{b:Int}{c:Int}{m0_0:(List Int)}{m1_0:Int}{m1_1:Int}{m1_2:(List Zam)}{m1_3:(List Zo)}{m1_4:(List Zk)}{m1_5:(List Zu)}:∀r,(ZP b c (fun z0 z1=>Zw z0 z1 m1_4) m0_0)=some r→evW ctx 146 [(.sl 0 1),(.d (Ze b)),(.d (Ze c)),(.fn 121 [(.ptr 1 0)])] [(.arr 1 (List.map Ze m0_0)),(.cells [(.d (Ze m1_0)),(.d (Ze m1_1)),(.d (D.list t0 (List.map Zau m1_2))),(.d (D.list t1 (List.map ZI m1_3))),(.d (D.list t2 (List.map Zt m1_4))),(.d (D.list t3 (List.map Zz m1_5)))])]=some ((ZcD t0 t1 t2 t3 b c m0_0 m1_0 m1_1 m1_2 m1_3 m1_4 m1_5) r):=by
 show Z6 _ (fun r rhs=>rhs=some ((ZcD t0 t1 t2 t3 b c m0_0 m1_0 m1_1 m1_2 m1_3 m1_4 m1_5) r)) _
 unfold ZP
 rw[Zej ctx 146 ZyJ _ _ rfl rfl]
 conv=>arg 3;whnf
 refine Zc _ (Zem _) fun r4 hr4=>?_;conv=>arg 3;whnf
 exact Zh rfl
def Zb2 (t0:Bool) (t1:Bool) (t2:Bool) (t3:Bool) (b:Int) (c:Int) (m0_0:(List Int)) (m1_0:Int) (m1_1:Int) (m1_2:(List Zam)) (m1_3:(List Zo)) (m1_4:(List Zk)) (m1_5:(List Zu)):((List Int)⊕(List Int))→V×Zp
  | (.inl r)=>((.d (D.bool true)),[(.arr 1 (List.map Ze r)),(.cells [(.d (Ze m1_0)),(.d (Ze m1_1)),(.d (D.list t0 (List.map Zau m1_2))),(.d (D.list t1 (List.map ZI m1_3))),(.d (D.list t2 (List.map Zt m1_4))),(.d (D.list t3 (List.map Zz m1_5)))])])
  | (.inr r)=>((.d (D.bool false)),[(.arr 1 (List.map Ze r)),(.cells [(.d (Ze m1_0)),(.d (Ze m1_1)),(.d (D.list t0 (List.map Zau m1_2))),(.d (D.list t1 (List.map ZI m1_3))),(.d (D.list t2 (List.map Zt m1_4))),(.d (D.list t3 (List.map Zz m1_5)))])])
def ZbQ (t0:Bool) (t1:Bool) (t2:Bool) (t3:Bool) (b:Int) (c:Int) (m1_0:Int) (m1_1:Int) (m1_2:(List Zam)) (m1_3:(List Zo)) (m1_4:(List Zk)) (m1_5:(List Zu)) (s0:Int×Int×(List Int)):Int→Ex×List V×Zp
  | r=>(.exit 2,[(.sl 0 1),(.d (Ze b)),(.d (Ze c)),(.fn 121 [(.ptr 1 0)]),(.d (Ze r)),(.d (Ze s0.2.1))],[(.arr 1 (List.map Ze s0.2.2)),(.cells [(.d (Ze m1_0)),(.d (Ze m1_1)),(.d (D.list t0 (List.map Zau m1_2))),(.d (D.list t1 (List.map ZI m1_3))),(.d (D.list t2 (List.map Zt m1_4))),(.d (D.list t3 (List.map Zz m1_5)))])])
theorem ZdC {t0:Bool}{t1:Bool}{t2:Bool}{t3:Bool}{b:Int}{c:Int}{m1_0:Int}{m1_1:Int}{m1_2:(List Zam)}{m1_3:(List Zo)}{m1_4:(List Zk)}{m1_5:(List Zu)}{s0:Int×Int×(List Int)}:∀(s1:Int) (r:Int),lp (ZK c (fun z0 z1=>Zw z0 z1 m1_4) s0) s1=some r→lpW ctx 2 [0,1,2,3,9,10] [0,1,2,3,9,10] Zt9 [(.sl 0 1),(.d (Ze b)),(.d (Ze c)),(.fn 121 [(.ptr 1 0)]),(.d (Ze s1)),(.d (Ze s0.2.1))] [(.arr 1 (List.map Ze s0.2.2)),(.cells [(.d (Ze m1_0)),(.d (Ze m1_1)),(.d (D.list t0 (List.map Zau m1_2))),(.d (D.list t1 (List.map ZI m1_3))),(.d (D.list t2 (List.map Zt m1_4))),(.d (D.list t3 (List.map Zz m1_5)))])]=some ((ZbQ t0 t1 t2 t3 b c m1_0 m1_1 m1_2 m1_3 m1_4 m1_5 s0) r):=by
 refine Zbc (ZbQ t0 t1 t2 t3 b c m1_0 m1_1 m1_2 m1_3 m1_4 m1_5 s0) ?_
 intro s1 rcl ih
 show Z6 _ _ (lpW _ _ _ _ _ _ _)
 unfold ZK
 rw[Zbd]
 conv=>arg 3;whnf
 refine Zg rfl ?_ ?_<;>conv=>arg 3;whnf
 ·refine Zj rfl rfl fun x2 hx2=>?_;conv=>arg 3;whnf
  refine Zf (Zl rfl hx2) ?_;conv=>arg 3;whnf
  refine Zj rfl rfl fun x3 hx3=>?_;conv=>arg 3;whnf
  refine Zf (Zl rfl hx3) ?_;conv=>arg 3;whnf
  refine Zr _ ZN rfl fun x4 hx4=>?_;conv=>arg 3;whnf
  refine Zg rfl ?_ ?_<;>conv=>arg 3;whnf
  ·exact Zh rfl
  ·exact Zd (ih _)
 ·exact Zh rfl
def ZbN (t0:Bool) (t1:Bool) (t2:Bool) (t3:Bool) (b:Int) (c:Int) (m1_0:Int) (m1_1:Int) (m1_2:(List Zam)) (m1_3:(List Zo)) (m1_4:(List Zk)) (m1_5:(List Zu)) (s0:Int×Int×(List Int)) (r5:Int):(List Int)→Ex×List V×Zp
  | r=>(.exit 4,[(.sl 0 1),(.d (Ze b)),(.d (Ze c)),(.fn 121 [(.ptr 1 0)]),(.d (Ze r5)),(.d (Ze s0.2.1))],[(.arr 1 (List.map Ze r)),(.cells [(.d (Ze m1_0)),(.d (Ze m1_1)),(.d (D.list t0 (List.map Zau m1_2))),(.d (D.list t1 (List.map ZI m1_3))),(.d (D.list t2 (List.map Zt m1_4))),(.d (D.list t3 (List.map Zz m1_5)))])])
theorem Zdz {t0:Bool}{t1:Bool}{t2:Bool}{t3:Bool}{b:Int}{c:Int}{m1_0:Int}{m1_1:Int}{m1_2:(List Zam)}{m1_3:(List Zo)}{m1_4:(List Zk)}{m1_5:(List Zu)}{s0:Int×Int×(List Int)}{r5:Int}:∀(s9:Int×(List Int)) (r:(List Int)),lp (ZS (fun z0 z1=>Zw z0 z1 m1_4)) s9=some r→lpW ctx 2 [0,1,2,3,9,10,11] [0,1,2,3,9,10] Zu0 [(.sl 0 1),(.d (Ze b)),(.d (Ze c)),(.fn 121 [(.ptr 1 0)]),(.d (Ze r5)),(.d (Ze s0.2.1)),(.d (Ze s9.1))] [(.arr 1 (List.map Ze s9.2)),(.cells [(.d (Ze m1_0)),(.d (Ze m1_1)),(.d (D.list t0 (List.map Zau m1_2))),(.d (D.list t1 (List.map ZI m1_3))),(.d (D.list t2 (List.map Zt m1_4))),(.d (D.list t3 (List.map Zz m1_5)))])]=some ((ZbN t0 t1 t2 t3 b c m1_0 m1_1 m1_2 m1_3 m1_4 m1_5 s0 r5) r):=by
 refine Zbc (ZbN t0 t1 t2 t3 b c m1_0 m1_1 m1_2 m1_3 m1_4 m1_5 s0 r5) ?_
 intro s9 rcl ih
 show Z6 _ _ (lpW _ _ _ _ _ _ _)
 unfold ZS
 rw[Zbd]
 conv=>arg 3;whnf
 refine Zg rfl ?_ ?_<;>conv=>arg 3;whnf
 ·refine Zj rfl rfl fun x10 hx10=>?_;conv=>arg 3;whnf
  refine Zf (Zl rfl hx10) ?_;conv=>arg 3;whnf
  refine Zj rfl rfl fun x11 hx11=>?_;conv=>arg 3;whnf
  refine Zf (Zl rfl hx11) ?_;conv=>arg 3;whnf
  refine Zr _ ZN rfl fun x12 hx12=>?_;conv=>arg 3;whnf
  refine Zg rfl ?_ ?_<;>conv=>arg 3;whnf
  ·refine Zf (ZaE rfl hx11) ?_;conv=>arg 3;whnf
   refine Zf (Zl rfl hx11) ?_;conv=>arg 3;whnf
   refine Zf (ZaE rfl hx10) ?_;conv=>arg 3;whnf
   refine Zf (Zl rfl hx10) ?_;conv=>arg 3;whnf
   refine Zf (ZaE rfl hx10) ?_;conv=>arg 3;whnf
   refine Zf (Zl rfl hx10) ?_;conv=>arg 3;whnf
   refine Zq (Z4 Ze s9.2 s9.1.toNat x11) ?_;conv=>arg 3;whnf
   refine Zj rfl rfl fun x13 hx13=>?_;conv=>arg 3;whnf
   refine Zf (Zl rfl hx13) ?_;conv=>arg 3;whnf
   refine Zq (Z4 Ze (List.set s9.2 s9.1.toNat x11) (w64 (s9.1-1)).toNat x10) ?_;conv=>arg 3;whnf
   exact Zd (ih _)
  ·exact Zh rfl
 ·exact Zh rfl
def ZbO (t0:Bool) (t1:Bool) (t2:Bool) (t3:Bool) (b:Int) (c:Int) (m1_0:Int) (m1_1:Int) (m1_2:(List Zam)) (m1_3:(List Zo)) (m1_4:(List Zk)) (m1_5:(List Zu)) (s0:Int×Int×(List Int)) (r5:Int):(List Int)→Ex×List V×Zp
  | r=>(.exit 6,[(.sl 0 1),(.d (Ze b)),(.d (Ze c)),(.fn 121 [(.ptr 1 0)]),(.d (Ze r5)),(.d (Ze s0.2.1))],[(.arr 1 (List.map Ze r)),(.cells [(.d (Ze m1_0)),(.d (Ze m1_1)),(.d (D.list t0 (List.map Zau m1_2))),(.d (D.list t1 (List.map ZI m1_3))),(.d (D.list t2 (List.map Zt m1_4))),(.d (D.list t3 (List.map Zz m1_5)))])])
theorem ZbL {t0:Bool}{t1:Bool}{t2:Bool}{t3:Bool}{b:Int}{c:Int}{m1_0:Int}{m1_1:Int}{m1_2:(List Zam)}{m1_3:(List Zo)}{m1_4:(List Zk)}{m1_5:(List Zu)}{s0:Int×Int×(List Int)}{r5:Int}:∀(s15:Int×(List Int)) (r:(List Int)),lp (ZH c (fun z0 z1=>Zw z0 z1 m1_4)) s15=some r→lpW ctx 2 [0,1,2,3,9,10,12] [0,1,2,3,9,10] Zu8 [(.sl 0 1),(.d (Ze b)),(.d (Ze c)),(.fn 121 [(.ptr 1 0)]),(.d (Ze r5)),(.d (Ze s0.2.1)),(.d (Ze s15.1))] [(.arr 1 (List.map Ze s15.2)),(.cells [(.d (Ze m1_0)),(.d (Ze m1_1)),(.d (D.list t0 (List.map Zau m1_2))),(.d (D.list t1 (List.map ZI m1_3))),(.d (D.list t2 (List.map Zt m1_4))),(.d (D.list t3 (List.map Zz m1_5)))])]=some ((ZbO t0 t1 t2 t3 b c m1_0 m1_1 m1_2 m1_3 m1_4 m1_5 s0 r5) r):=by
 refine Zbc (ZbO t0 t1 t2 t3 b c m1_0 m1_1 m1_2 m1_3 m1_4 m1_5 s0 r5) ?_
 intro s15 rcl ih
 show Z6 _ _ (lpW _ _ _ _ _ _ _)
 unfold ZH
 rw[Zbd]
 conv=>arg 3;whnf
 refine Zg rfl ?_ ?_<;>conv=>arg 3;whnf
 ·refine Zj rfl rfl fun x16 hx16=>?_;conv=>arg 3;whnf
  refine Zf (Zl rfl hx16) ?_;conv=>arg 3;whnf
  refine Zj rfl rfl fun x17 hx17=>?_;conv=>arg 3;whnf
  refine Zf (Zl rfl hx17) ?_;conv=>arg 3;whnf
  refine Zr _ ZN rfl fun x18 hx18=>?_;conv=>arg 3;whnf
  refine Zg rfl ?_ ?_<;>conv=>arg 3;whnf
  ·refine Zf (ZaE rfl hx17) ?_;conv=>arg 3;whnf
   refine Zf (Zl rfl hx17) ?_;conv=>arg 3;whnf
   refine Zf (ZaE rfl hx16) ?_;conv=>arg 3;whnf
   refine Zf (Zl rfl hx16) ?_;conv=>arg 3;whnf
   refine Zf (ZaE rfl hx16) ?_;conv=>arg 3;whnf
   refine Zf (Zl rfl hx16) ?_;conv=>arg 3;whnf
   refine Zq (Z4 Ze s15.2 s15.1.toNat x17) ?_;conv=>arg 3;whnf
   refine Zj rfl rfl fun x19 hx19=>?_;conv=>arg 3;whnf
   refine Zf (Zl rfl hx19) ?_;conv=>arg 3;whnf
   refine Zq (Z4 Ze (List.set s15.2 s15.1.toNat x17) (w64 (s15.1-1)).toNat x16) ?_;conv=>arg 3;whnf
   exact Zd (ih _)
  ·exact Zh rfl
 ·exact Zh rfl
def ZbP (t0:Bool) (t1:Bool) (t2:Bool) (t3:Bool) (b:Int) (c:Int) (m1_0:Int) (m1_1:Int) (m1_2:(List Zam)) (m1_3:(List Zo)) (m1_4:(List Zk)) (m1_5:(List Zu)):((List Int)⊕((List Int)⊕(List Int)))→Ex×List V×Zp
  | (.inl r)=>(.ret,[(.d (D.bool true))],[(.arr 1 (List.map Ze r)),(.cells [(.d (Ze m1_0)),(.d (Ze m1_1)),(.d (D.list t0 (List.map Zau m1_2))),(.d (D.list t1 (List.map ZI m1_3))),(.d (D.list t2 (List.map Zt m1_4))),(.d (D.list t3 (List.map Zz m1_5)))])])
  | (.inr (.inl r))=>(.ret,[(.d (D.bool false))],[(.arr 1 (List.map Ze r)),(.cells [(.d (Ze m1_0)),(.d (Ze m1_1)),(.d (D.list t0 (List.map Zau m1_2))),(.d (D.list t1 (List.map ZI m1_3))),(.d (D.list t2 (List.map Zt m1_4))),(.d (D.list t3 (List.map Zz m1_5)))])])
  | (.inr (.inr r))=>(.exit 0,[.bad],[(.arr 1 (List.map Ze r)),(.cells [(.d (Ze m1_0)),(.d (Ze m1_1)),(.d (D.list t0 (List.map Zau m1_2))),(.d (D.list t1 (List.map ZI m1_3))),(.d (D.list t2 (List.map Zt m1_4))),(.d (D.list t3 (List.map Zz m1_5)))])])
theorem ZdE {t0:Bool}{t1:Bool}{t2:Bool}{t3:Bool}{b:Int}{c:Int}{m1_0:Int}{m1_1:Int}{m1_2:(List Zam)}{m1_3:(List Zo)}{m1_4:(List Zk)}{m1_5:(List Zu)}:∀(s0:Int×Int×(List Int)) (r:((List Int)⊕((List Int)⊕(List Int)))),lp (ZR b c (fun z0 z1=>Zw z0 z1 m1_4)) s0=some r→lpW ctx 2 [0,1,2,3,9,10] [8] Zu1 [(.sl 0 1),(.d (Ze b)),(.d (Ze c)),(.fn 121 [(.ptr 1 0)]),(.d (Ze s0.1)),(.d (Ze s0.2.1))] [(.arr 1 (List.map Ze s0.2.2)),(.cells [(.d (Ze m1_0)),(.d (Ze m1_1)),(.d (D.list t0 (List.map Zau m1_2))),(.d (D.list t1 (List.map ZI m1_3))),(.d (D.list t2 (List.map Zt m1_4))),(.d (D.list t3 (List.map Zz m1_5)))])]=some ((ZbP t0 t1 t2 t3 b c m1_0 m1_1 m1_2 m1_3 m1_4 m1_5) r):=by
 refine Zbc (ZbP t0 t1 t2 t3 b c m1_0 m1_1 m1_2 m1_3 m1_4 m1_5) ?_
 intro s0 rcl ih
 show Z6 _ _ (lpW _ _ _ _ _ _ _)
 unfold ZR
 rw[Zbd]
 conv=>arg 3;whnf
 refine Zg rfl ?_ ?_<;>conv=>arg 3;whnf
 ·refine Zc _ (ZdC _) fun r5 hr5=>?_;conv=>arg 3;whnf
  refine Zg rfl ?_ ?_<;>conv=>arg 3;whnf
  ·exact Zh rfl
  ·refine Zg rfl ?_ ?_<;>conv=>arg 3;whnf
   ·exact Zh rfl
   ·refine Zj rfl rfl fun x6 hx6=>?_;conv=>arg 3;whnf
    refine Zf (Zl rfl hx6) ?_;conv=>arg 3;whnf
    refine Zj rfl rfl fun x7 hx7=>?_;conv=>arg 3;whnf
    refine Zf (Zl rfl hx7) ?_;conv=>arg 3;whnf
    refine Zf (ZaE rfl hx7) ?_;conv=>arg 3;whnf
    refine Zf (Zl rfl hx7) ?_;conv=>arg 3;whnf
    refine Zq (Z4 Ze s0.2.2 r5.toNat x6) ?_;conv=>arg 3;whnf
    refine Zj rfl rfl fun x8 hx8=>?_;conv=>arg 3;whnf
    refine Zf (Zl rfl hx8) ?_;conv=>arg 3;whnf
    refine Zq (Z4 Ze (List.set s0.2.2 r5.toNat x6) (w64 (r5-1)).toNat x7) ?_;conv=>arg 3;whnf
    refine Zg rfl ?_ ?_<;>conv=>arg 3;whnf
    ·refine Zc _ (Zdz _) fun r14 hr14=>?_;conv=>arg 3;whnf
     refine Zg rfl ?_ ?_<;>conv=>arg 3;whnf
     ·refine Zc _ (ZbL _) fun r20 hr20=>?_;conv=>arg 3;whnf
      exact Zd (ih _)
     ·exact Zd (ih _)
    ·refine Zg rfl ?_ ?_<;>conv=>arg 3;whnf
     ·refine Zc _ (ZbL _) fun r26 hr26=>?_;conv=>arg 3;whnf
      exact Zd (ih _)
     ·exact Zd (ih _)
 ·exact Zh rfl
theorem ZbZ {t0:Bool}{t1:Bool}{t2:Bool}{t3:Bool}{b:Int}{c:Int}{m0_0:(List Int)}{m1_0:Int}{m1_1:Int}{m1_2:(List Zam)}{m1_3:(List Zo)}{m1_4:(List Zk)}{m1_5:(List Zu)}:∀r,(ZQ b c (fun z0 z1=>Zw z0 z1 m1_4) m0_0)=some r→evW ctx 147 [(.sl 0 1),(.d (Ze b)),(.d (Ze c)),(.fn 121 [(.ptr 1 0)])] [(.arr 1 (List.map Ze m0_0)),(.cells [(.d (Ze m1_0)),(.d (Ze m1_1)),(.d (D.list t0 (List.map Zau m1_2))),(.d (D.list t1 (List.map ZI m1_3))),(.d (D.list t2 (List.map Zt m1_4))),(.d (D.list t3 (List.map Zz m1_5)))])]=some ((Zb2 t0 t1 t2 t3 b c m0_0 m1_0 m1_1 m1_2 m1_3 m1_4 m1_5) r):=by
 show Z6 _ (fun r rhs=>rhs=some ((Zb2 t0 t1 t2 t3 b c m0_0 m1_0 m1_1 m1_2 m1_3 m1_4 m1_5) r)) _
 unfold ZQ
 rw[Zej ctx 147 Zxc _ _ rfl rfl]
 conv=>arg 3;whnf
 refine Zc _ (ZdE _) fun r27 hr27=>?_
 clear hr27
 rcases r27 with r27 | (r27 | r27)
 ·conv=>arg 3;whnf
  exact Zh rfl
 ·conv=>arg 3;whnf
  exact Zh rfl
 ·conv=>arg 3;whnf
  exact Zh rfl
def Zc2 (t0:Bool) (t1:Bool) (t2:Bool) (t3:Bool) (b:Int) (c:Int) (d:Int) (m0_0:(List Int)) (m1_0:Int) (m1_1:Int) (m1_2:(List Zam)) (m1_3:(List Zo)) (m1_4:(List Zk)) (m1_5:(List Zu)):((Int×(List Int))⊕(Int×(List Int)))→V×Zp
  | (.inl r)=>((.d (D.tup [(Ze r.1),(D.bool true)])),[(.arr 1 (List.map Ze r.2)),(.cells [(.d (Ze m1_0)),(.d (Ze m1_1)),(.d (D.list t0 (List.map Zau m1_2))),(.d (D.list t1 (List.map ZI m1_3))),(.d (D.list t2 (List.map Zt m1_4))),(.d (D.list t3 (List.map Zz m1_5)))])])
  | (.inr r)=>((.d (D.tup [(Ze r.1),(D.bool false)])),[(.arr 1 (List.map Ze r.2)),(.cells [(.d (Ze m1_0)),(.d (Ze m1_1)),(.d (D.list t0 (List.map Zau m1_2))),(.d (D.list t1 (List.map ZI m1_3))),(.d (D.list t2 (List.map Zt m1_4))),(.d (D.list t3 (List.map Zz m1_5)))])])
def ZcL (t0:Bool) (t1:Bool) (t2:Bool) (t3:Bool) (b:Int) (c:Int) (d:Int) (m0_0:(List Int)) (m1_0:Int) (m1_1:Int) (m1_2:(List Zam)) (m1_3:(List Zo)) (m1_4:(List Zk)) (m1_5:(List Zu)) (x0:Int) (x1:Int):Int→Ex×List V×Zp
  | r=>(.exit 0,[(.sl 0 1),(.d (Ze b)),(.fn 121 [(.ptr 1 0)]),(.d (Ze r)),(.d (Ze (w64 (c-1))))],[(.arr 1 (List.map Ze (List.set (List.set m0_0 b.toNat x0) d.toNat x1))),(.cells [(.d (Ze m1_0)),(.d (Ze m1_1)),(.d (D.list t0 (List.map Zau m1_2))),(.d (D.list t1 (List.map ZI m1_3))),(.d (D.list t2 (List.map Zt m1_4))),(.d (D.list t3 (List.map Zz m1_5)))])])
theorem ZeU {t0:Bool}{t1:Bool}{t2:Bool}{t3:Bool}{b:Int}{c:Int}{d:Int}{m0_0:(List Int)}{m1_0:Int}{m1_1:Int}{m1_2:(List Zam)}{m1_3:(List Zo)}{m1_4:(List Zk)}{m1_5:(List Zu)}{x0:Int}{x1:Int}:∀(s3:Int) (r:Int),lp (ZaB b c d m0_0 (fun z0 z1=>Zw z0 z1 m1_4) x0 x1) s3=some r→lpW ctx 2 [0,1,4,12,13] [0,1,4,12,13] Zvh [(.sl 0 1),(.d (Ze b)),(.fn 121 [(.ptr 1 0)]),(.d (Ze s3)),(.d (Ze (w64 (c-1))))] [(.arr 1 (List.map Ze (List.set (List.set m0_0 b.toNat x0) d.toNat x1))),(.cells [(.d (Ze m1_0)),(.d (Ze m1_1)),(.d (D.list t0 (List.map Zau m1_2))),(.d (D.list t1 (List.map ZI m1_3))),(.d (D.list t2 (List.map Zt m1_4))),(.d (D.list t3 (List.map Zz m1_5)))])]=some ((ZcL t0 t1 t2 t3 b c d m0_0 m1_0 m1_1 m1_2 m1_3 m1_4 m1_5 x0 x1) r):=by
 refine Zbc (ZcL t0 t1 t2 t3 b c d m0_0 m1_0 m1_1 m1_2 m1_3 m1_4 m1_5 x0 x1) ?_
 intro s3 rcl ih
 show Z6 _ _ (lpW _ _ _ _ _ _ _)
 unfold ZaB
 rw[Zbd]
 conv=>arg 3;whnf
 refine Zg rfl ?_ ?_<;>conv=>arg 3;whnf
 ·refine Zj rfl rfl fun x4 hx4=>?_;conv=>arg 3;whnf
  refine Zf (Zl rfl hx4) ?_;conv=>arg 3;whnf
  refine Zj rfl rfl fun x5 hx5=>?_;conv=>arg 3;whnf
  refine Zf (Zl rfl hx5) ?_;conv=>arg 3;whnf
  refine Zr _ ZN rfl fun x6 hx6=>?_;conv=>arg 3;whnf
  refine Zg rfl ?_ ?_<;>conv=>arg 3;whnf
  ·exact Zd (ih _)
  ·exact Zh rfl
 ·exact Zh rfl
def ZcI (t0:Bool) (t1:Bool) (t2:Bool) (t3:Bool) (b:Int) (d:Int) (m0_0:(List Int)) (m1_0:Int) (m1_1:Int) (m1_2:(List Zam)) (m1_3:(List Zo)) (m1_4:(List Zk)) (m1_5:(List Zu)) (x0:Int) (x1:Int) (r7:Int):Int→Ex×List V×Zp
  | r=>(.exit 2,[(.sl 0 1),(.d (Ze b)),(.fn 121 [(.ptr 1 0)]),(.d (Ze r7)),(.d (Ze r))],[(.arr 1 (List.map Ze (List.set (List.set m0_0 b.toNat x0) d.toNat x1))),(.cells [(.d (Ze m1_0)),(.d (Ze m1_1)),(.d (D.list t0 (List.map Zau m1_2))),(.d (D.list t1 (List.map ZI m1_3))),(.d (D.list t2 (List.map Zt m1_4))),(.d (D.list t3 (List.map Zz m1_5)))])])
theorem ZeT {t0:Bool}{t1:Bool}{t2:Bool}{t3:Bool}{b:Int}{d:Int}{m0_0:(List Int)}{m1_0:Int}{m1_1:Int}{m1_2:(List Zam)}{m1_3:(List Zo)}{m1_4:(List Zk)}{m1_5:(List Zu)}{x0:Int}{x1:Int}{r7:Int}:∀(s8:Int) (r:Int),lp (Zaz b d m0_0 (fun z0 z1=>Zw z0 z1 m1_4) x0 x1 r7) s8=some r→lpW ctx 2 [0,1,4,12,13] [0,1,4,12,13] Zuc [(.sl 0 1),(.d (Ze b)),(.fn 121 [(.ptr 1 0)]),(.d (Ze r7)),(.d (Ze s8))] [(.arr 1 (List.map Ze (List.set (List.set m0_0 b.toNat x0) d.toNat x1))),(.cells [(.d (Ze m1_0)),(.d (Ze m1_1)),(.d (D.list t0 (List.map Zau m1_2))),(.d (D.list t1 (List.map ZI m1_3))),(.d (D.list t2 (List.map Zt m1_4))),(.d (D.list t3 (List.map Zz m1_5)))])]=some ((ZcI t0 t1 t2 t3 b d m0_0 m1_0 m1_1 m1_2 m1_3 m1_4 m1_5 x0 x1 r7) r):=by
 refine Zbc (ZcI t0 t1 t2 t3 b d m0_0 m1_0 m1_1 m1_2 m1_3 m1_4 m1_5 x0 x1 r7) ?_
 intro s8 rcl ih
 show Z6 _ _ (lpW _ _ _ _ _ _ _)
 unfold Zaz
 rw[Zbd]
 conv=>arg 3;whnf
 refine Zg rfl ?_ ?_<;>conv=>arg 3;whnf
 ·refine Zj rfl rfl fun x9 hx9=>?_;conv=>arg 3;whnf
  refine Zf (Zl rfl hx9) ?_;conv=>arg 3;whnf
  refine Zj rfl rfl fun x10 hx10=>?_;conv=>arg 3;whnf
  refine Zf (Zl rfl hx10) ?_;conv=>arg 3;whnf
  refine Zr _ ZN rfl fun x11 hx11=>?_;conv=>arg 3;whnf
  refine Zg rfl ?_ ?_<;>conv=>arg 3;whnf
  ·exact Zh rfl
  ·exact Zd (ih _)
 ·exact Zh rfl
def ZcE (t0:Bool) (t1:Bool) (t2:Bool) (t3:Bool) (b:Int) (m1_0:Int) (m1_1:Int) (m1_2:(List Zam)) (m1_3:(List Zo)) (m1_4:(List Zk)) (m1_5:(List Zu)) (s19:Int×Int×(List Int)):Int→Ex×List V×Zp
  | r=>(.exit 6,[(.sl 0 1),(.d (Ze b)),(.fn 121 [(.ptr 1 0)]),(.d (Ze r)),(.d (Ze s19.2.1))],[(.arr 1 (List.map Ze s19.2.2)),(.cells [(.d (Ze m1_0)),(.d (Ze m1_1)),(.d (D.list t0 (List.map Zau m1_2))),(.d (D.list t1 (List.map ZI m1_3))),(.d (D.list t2 (List.map Zt m1_4))),(.d (D.list t3 (List.map Zz m1_5)))])])
theorem ZeW {t0:Bool}{t1:Bool}{t2:Bool}{t3:Bool}{b:Int}{m1_0:Int}{m1_1:Int}{m1_2:(List Zam)}{m1_3:(List Zo)}{m1_4:(List Zk)}{m1_5:(List Zu)}{s19:Int×Int×(List Int)}:∀(s20:Int) (r:Int),lp (ZaC b (fun z0 z1=>Zw z0 z1 m1_4) s19) s20=some r→lpW ctx 2 [0,1,4,12,13] [0,1,4,12,13] Zuy [(.sl 0 1),(.d (Ze b)),(.fn 121 [(.ptr 1 0)]),(.d (Ze s20)),(.d (Ze s19.2.1))] [(.arr 1 (List.map Ze s19.2.2)),(.cells [(.d (Ze m1_0)),(.d (Ze m1_1)),(.d (D.list t0 (List.map Zau m1_2))),(.d (D.list t1 (List.map ZI m1_3))),(.d (D.list t2 (List.map Zt m1_4))),(.d (D.list t3 (List.map Zz m1_5)))])]=some ((ZcE t0 t1 t2 t3 b m1_0 m1_1 m1_2 m1_3 m1_4 m1_5 s19) r):=by
 refine Zbc (ZcE t0 t1 t2 t3 b m1_0 m1_1 m1_2 m1_3 m1_4 m1_5 s19) ?_
 intro s20 rcl ih
 show Z6 _ _ (lpW _ _ _ _ _ _ _)
 unfold ZaC
 rw[Zbd]
 conv=>arg 3;whnf
 refine Zg rfl ?_ ?_<;>conv=>arg 3;whnf
 ·refine Zj rfl rfl fun x21 hx21=>?_;conv=>arg 3;whnf
  refine Zf (Zl rfl hx21) ?_;conv=>arg 3;whnf
  refine Zj rfl rfl fun x22 hx22=>?_;conv=>arg 3;whnf
  refine Zf (Zl rfl hx22) ?_;conv=>arg 3;whnf
  refine Zr _ ZN rfl fun x23 hx23=>?_;conv=>arg 3;whnf
  refine Zg rfl ?_ ?_<;>conv=>arg 3;whnf
  ·exact Zd (ih _)
  ·exact Zh rfl
 ·exact Zh rfl
def ZcJ (t0:Bool) (t1:Bool) (t2:Bool) (t3:Bool) (b:Int) (m1_0:Int) (m1_1:Int) (m1_2:(List Zam)) (m1_3:(List Zo)) (m1_4:(List Zk)) (m1_5:(List Zu)) (s19:Int×Int×(List Int)) (r24:Int):Int→Ex×List V×Zp
  | r=>(.exit 8,[(.sl 0 1),(.d (Ze b)),(.fn 121 [(.ptr 1 0)]),(.d (Ze r24)),(.d (Ze r))],[(.arr 1 (List.map Ze s19.2.2)),(.cells [(.d (Ze m1_0)),(.d (Ze m1_1)),(.d (D.list t0 (List.map Zau m1_2))),(.d (D.list t1 (List.map ZI m1_3))),(.d (D.list t2 (List.map Zt m1_4))),(.d (D.list t3 (List.map Zz m1_5)))])])
theorem ZeQ {t0:Bool}{t1:Bool}{t2:Bool}{t3:Bool}{b:Int}{m1_0:Int}{m1_1:Int}{m1_2:(List Zam)}{m1_3:(List Zo)}{m1_4:(List Zk)}{m1_5:(List Zu)}{s19:Int×Int×(List Int)}{r24:Int}:∀(s25:Int) (r:Int),lp (Zay b (fun z0 z1=>Zw z0 z1 m1_4) s19 r24) s25=some r→lpW ctx 2 [0,1,4,12,13] [0,1,4,12,13] Zvl [(.sl 0 1),(.d (Ze b)),(.fn 121 [(.ptr 1 0)]),(.d (Ze r24)),(.d (Ze s25))] [(.arr 1 (List.map Ze s19.2.2)),(.cells [(.d (Ze m1_0)),(.d (Ze m1_1)),(.d (D.list t0 (List.map Zau m1_2))),(.d (D.list t1 (List.map ZI m1_3))),(.d (D.list t2 (List.map Zt m1_4))),(.d (D.list t3 (List.map Zz m1_5)))])]=some ((ZcJ t0 t1 t2 t3 b m1_0 m1_1 m1_2 m1_3 m1_4 m1_5 s19 r24) r):=by
 refine Zbc (ZcJ t0 t1 t2 t3 b m1_0 m1_1 m1_2 m1_3 m1_4 m1_5 s19 r24) ?_
 intro s25 rcl ih
 show Z6 _ _ (lpW _ _ _ _ _ _ _)
 unfold Zay
 rw[Zbd]
 conv=>arg 3;whnf
 refine Zg rfl ?_ ?_<;>conv=>arg 3;whnf
 ·refine Zj rfl rfl fun x26 hx26=>?_;conv=>arg 3;whnf
  refine Zf (Zl rfl hx26) ?_;conv=>arg 3;whnf
  refine Zj rfl rfl fun x27 hx27=>?_;conv=>arg 3;whnf
  refine Zf (Zl rfl hx27) ?_;conv=>arg 3;whnf
  refine Zr _ ZN rfl fun x28 hx28=>?_;conv=>arg 3;whnf
  refine Zg rfl ?_ ?_<;>conv=>arg 3;whnf
  ·exact Zh rfl
  ·exact Zd (ih _)
 ·exact Zh rfl
def ZcH (t0:Bool) (t1:Bool) (t2:Bool) (t3:Bool) (b:Int) (m1_0:Int) (m1_1:Int) (m1_2:(List Zam)) (m1_3:(List Zo)) (m1_4:(List Zk)) (m1_5:(List Zu)):(Int×(List Int))→Ex×List V×Zp
  | r=>(.exit 4,[(.sl 0 1),(.d (Ze b)),(.d (Ze r.1))],[(.arr 1 (List.map Ze r.2)),(.cells [(.d (Ze m1_0)),(.d (Ze m1_1)),(.d (D.list t0 (List.map Zau m1_2))),(.d (D.list t1 (List.map ZI m1_3))),(.d (D.list t2 (List.map Zt m1_4))),(.d (D.list t3 (List.map Zz m1_5)))])])
theorem ZeV {t0:Bool}{t1:Bool}{t2:Bool}{t3:Bool}{b:Int}{m1_0:Int}{m1_1:Int}{m1_2:(List Zam)}{m1_3:(List Zo)}{m1_4:(List Zk)}{m1_5:(List Zu)}:∀(s19:Int×Int×(List Int)) (r:(Int×(List Int))),lp (Za0 b (fun z0 z1=>Zw z0 z1 m1_4)) s19=some r→lpW ctx 2 [0,1,4,12,13] [0,1,13] ZuE [(.sl 0 1),(.d (Ze b)),(.fn 121 [(.ptr 1 0)]),(.d (Ze s19.1)),(.d (Ze s19.2.1))] [(.arr 1 (List.map Ze s19.2.2)),(.cells [(.d (Ze m1_0)),(.d (Ze m1_1)),(.d (D.list t0 (List.map Zau m1_2))),(.d (D.list t1 (List.map ZI m1_3))),(.d (D.list t2 (List.map Zt m1_4))),(.d (D.list t3 (List.map Zz m1_5)))])]=some ((ZcH t0 t1 t2 t3 b m1_0 m1_1 m1_2 m1_3 m1_4 m1_5) r):=by
 refine Zbc (ZcH t0 t1 t2 t3 b m1_0 m1_1 m1_2 m1_3 m1_4 m1_5) ?_
 intro s19 rcl ih
 show Z6 _ _ (lpW _ _ _ _ _ _ _)
 unfold Za0
 rw[Zbd]
 conv=>arg 3;whnf
 refine Zc _ (ZeW _) fun r24 hr24=>?_;conv=>arg 3;whnf
 refine Zc _ (ZeQ _) fun r29 hr29=>?_;conv=>arg 3;whnf
 refine Zg rfl ?_ ?_<;>conv=>arg 3;whnf
 ·exact Zh rfl
 ·refine Zj rfl rfl fun x30 hx30=>?_;conv=>arg 3;whnf
  refine Zf (Zl rfl hx30) ?_;conv=>arg 3;whnf
  refine Zj rfl rfl fun x31 hx31=>?_;conv=>arg 3;whnf
  refine Zf (Zl rfl hx31) ?_;conv=>arg 3;whnf
  refine Zf (ZaE rfl hx31) ?_;conv=>arg 3;whnf
  refine Zf (Zl rfl hx31) ?_;conv=>arg 3;whnf
  refine Zq (Z4 Ze s19.2.2 r24.toNat x30) ?_;conv=>arg 3;whnf
  refine Zj rfl rfl fun x32 hx32=>?_;conv=>arg 3;whnf
  refine Zf (Zl rfl hx32) ?_;conv=>arg 3;whnf
  refine Zq (Z4 Ze (List.set s19.2.2 r24.toNat x30) r29.toNat x31) ?_;conv=>arg 3;whnf
  exact Zd (ih _)
theorem Zm {t0:Bool}{t1:Bool}{t2:Bool}{t3:Bool}{b:Int}{c:Int}{d:Int}{m0_0:(List Int)}{m1_0:Int}{m1_1:Int}{m1_2:(List Zam)}{m1_3:(List Zo)}{m1_4:(List Zk)}{m1_5:(List Zu)}:∀r,(Zs b c d (fun z0 z1=>Zw z0 z1 m1_4) m0_0)=some r→evW ctx 149 [(.sl 0 1),(.d (Ze b)),(.d (Ze c)),(.d (Ze d)),(.fn 121 [(.ptr 1 0)])] [(.arr 1 (List.map Ze m0_0)),(.cells [(.d (Ze m1_0)),(.d (Ze m1_1)),(.d (D.list t0 (List.map Zau m1_2))),(.d (D.list t1 (List.map ZI m1_3))),(.d (D.list t2 (List.map Zt m1_4))),(.d (D.list t3 (List.map Zz m1_5)))])]=some ((Zc2 t0 t1 t2 t3 b c d m0_0 m1_0 m1_1 m1_2 m1_3 m1_4 m1_5) r):=by
 show Z6 _ (fun r rhs=>rhs=some ((Zc2 t0 t1 t2 t3 b c d m0_0 m1_0 m1_1 m1_2 m1_3 m1_4 m1_5) r)) _
 unfold Zs
 rw[Zej ctx 149 Zym _ _ rfl rfl]
 conv=>arg 3;whnf
 refine Zj rfl rfl fun x0 hx0=>?_;conv=>arg 3;whnf
 refine Zf (Zl rfl hx0) ?_;conv=>arg 3;whnf
 refine Zj rfl rfl fun x1 hx1=>?_;conv=>arg 3;whnf
 refine Zf (Zl rfl hx1) ?_;conv=>arg 3;whnf
 refine Zf (ZaE rfl hx1) ?_;conv=>arg 3;whnf
 refine Zf (Zl rfl hx1) ?_;conv=>arg 3;whnf
 refine Zq (Z4 Ze m0_0 b.toNat x0) ?_;conv=>arg 3;whnf
 refine Zj rfl rfl fun x2 hx2=>?_;conv=>arg 3;whnf
 refine Zf (Zl rfl hx2) ?_;conv=>arg 3;whnf
 refine Zq (Z4 Ze (List.set m0_0 b.toNat x0) d.toNat x1) ?_;conv=>arg 3;whnf
 refine Zc _ (ZeU _) fun r7 hr7=>?_;conv=>arg 3;whnf
 refine Zc _ (ZeT _) fun r12 hr12=>?_;conv=>arg 3;whnf
 refine Zg rfl ?_ ?_<;>conv=>arg 3;whnf
 ·refine Zj rfl rfl fun x13 hx13=>?_;conv=>arg 3;whnf
  refine Zf (Zl rfl hx13) ?_;conv=>arg 3;whnf
  refine Zj rfl rfl fun x14 hx14=>?_;conv=>arg 3;whnf
  refine Zf (Zl rfl hx14) ?_;conv=>arg 3;whnf
  refine Zf (ZaE rfl hx14) ?_;conv=>arg 3;whnf
  refine Zf (Zl rfl hx14) ?_;conv=>arg 3;whnf
  refine Zq (Z4 Ze (List.set (List.set m0_0 b.toNat x0) d.toNat x1) r12.toNat x13) ?_;conv=>arg 3;whnf
  refine Zj rfl rfl fun x15 hx15=>?_;conv=>arg 3;whnf
  refine Zf (Zl rfl hx15) ?_;conv=>arg 3;whnf
  refine Zq (Z4 Ze (List.set (List.set (List.set m0_0 b.toNat x0) d.toNat x1) r12.toNat x13) b.toNat x14) ?_;conv=>arg 3;whnf
  exact Zh rfl
 ·refine Zj rfl rfl fun x16 hx16=>?_;conv=>arg 3;whnf
  refine Zf (Zl rfl hx16) ?_;conv=>arg 3;whnf
  refine Zj rfl rfl fun x17 hx17=>?_;conv=>arg 3;whnf
  refine Zf (Zl rfl hx17) ?_;conv=>arg 3;whnf
  refine Zf (ZaE rfl hx17) ?_;conv=>arg 3;whnf
  refine Zf (Zl rfl hx17) ?_;conv=>arg 3;whnf
  refine Zq (Z4 Ze (List.set (List.set m0_0 b.toNat x0) d.toNat x1) r7.toNat x16) ?_;conv=>arg 3;whnf
  refine Zj rfl rfl fun x18 hx18=>?_;conv=>arg 3;whnf
  refine Zf (Zl rfl hx18) ?_;conv=>arg 3;whnf
  refine Zq (Z4 Ze (List.set (List.set (List.set m0_0 b.toNat x0) d.toNat x1) r7.toNat x16) r12.toNat x17) ?_;conv=>arg 3;whnf
  refine Zc _ (ZeV _) fun r33 hr33=>?_;conv=>arg 3;whnf
  refine Zj rfl rfl fun x34 hx34=>?_;conv=>arg 3;whnf
  refine Zf (Zl rfl hx34) ?_;conv=>arg 3;whnf
  refine Zj rfl rfl fun x35 hx35=>?_;conv=>arg 3;whnf
  refine Zf (Zl rfl hx35) ?_;conv=>arg 3;whnf
  refine Zf (ZaE rfl hx35) ?_;conv=>arg 3;whnf
  refine Zf (Zl rfl hx35) ?_;conv=>arg 3;whnf
  refine Zq (Z4 Ze r33.2 r33.1.toNat x34) ?_;conv=>arg 3;whnf
  refine Zj rfl rfl fun x36 hx36=>?_;conv=>arg 3;whnf
  refine Zf (Zl rfl hx36) ?_;conv=>arg 3;whnf
  refine Zq (Z4 Ze (List.set r33.2 r33.1.toNat x34) b.toNat x35) ?_;conv=>arg 3;whnf
  exact Zh rfl
def Zcs (t0:Bool) (t1:Bool) (t2:Bool) (t3:Bool) (b:Int) (c:Int) (d:Int) (m0_0:(List Int)) (m1_0:Int) (m1_1:Int) (m1_2:(List Zam)) (m1_3:(List Zo)) (m1_4:(List Zk)) (m1_5:(List Zu)):(Int×(List Int))→V×Zp
  | r=>((.d (Ze r.1)),[(.arr 1 (List.map Ze r.2)),(.cells [(.d (Ze m1_0)),(.d (Ze m1_1)),(.d (D.list t0 (List.map Zau m1_2))),(.d (D.list t1 (List.map ZI m1_3))),(.d (D.list t2 (List.map Zt m1_4))),(.d (D.list t3 (List.map Zz m1_5)))])])
def Zcc (t0:Bool) (t1:Bool) (t2:Bool) (t3:Bool) (b:Int) (m1_0:Int) (m1_1:Int) (m1_2:(List Zam)) (m1_3:(List Zo)) (m1_4:(List Zk)) (m1_5:(List Zu)) (s3:Int×Int×(List Int)):Int→Ex×List V×Zp
  | r=>(.exit 2,[(.sl 0 1),(.d (Ze b)),(.fn 121 [(.ptr 1 0)]),(.d (Ze r)),(.d (Ze s3.2.1))],[(.arr 1 (List.map Ze s3.2.2)),(.cells [(.d (Ze m1_0)),(.d (Ze m1_1)),(.d (D.list t0 (List.map Zau m1_2))),(.d (D.list t1 (List.map ZI m1_3))),(.d (D.list t2 (List.map Zt m1_4))),(.d (D.list t3 (List.map Zz m1_5)))])])
theorem Zd0 {t0:Bool}{t1:Bool}{t2:Bool}{t3:Bool}{b:Int}{m1_0:Int}{m1_1:Int}{m1_2:(List Zam)}{m1_3:(List Zo)}{m1_4:(List Zk)}{m1_5:(List Zu)}{s3:Int×Int×(List Int)}:∀(s4:Int) (r:Int),lp (Zae b (fun z0 z1=>Zw z0 z1 m1_4) s3) s4=some r→lpW ctx 2 [0,1,4,11,12] [0,1,4,11,12] ZuY [(.sl 0 1),(.d (Ze b)),(.fn 121 [(.ptr 1 0)]),(.d (Ze s4)),(.d (Ze s3.2.1))] [(.arr 1 (List.map Ze s3.2.2)),(.cells [(.d (Ze m1_0)),(.d (Ze m1_1)),(.d (D.list t0 (List.map Zau m1_2))),(.d (D.list t1 (List.map ZI m1_3))),(.d (D.list t2 (List.map Zt m1_4))),(.d (D.list t3 (List.map Zz m1_5)))])]=some ((Zcc t0 t1 t2 t3 b m1_0 m1_1 m1_2 m1_3 m1_4 m1_5 s3) r):=by
 refine Zbc (Zcc t0 t1 t2 t3 b m1_0 m1_1 m1_2 m1_3 m1_4 m1_5 s3) ?_
 intro s4 rcl ih
 show Z6 _ _ (lpW _ _ _ _ _ _ _)
 unfold Zae
 rw[Zbd]
 conv=>arg 3;whnf
 refine Zg rfl ?_ ?_<;>conv=>arg 3;whnf
 ·refine Zj rfl rfl fun x5 hx5=>?_;conv=>arg 3;whnf
  refine Zf (Zl rfl hx5) ?_;conv=>arg 3;whnf
  refine Zj rfl rfl fun x6 hx6=>?_;conv=>arg 3;whnf
  refine Zf (Zl rfl hx6) ?_;conv=>arg 3;whnf
  refine Zr _ ZN rfl fun x7 hx7=>?_;conv=>arg 3;whnf
  refine Zg rfl ?_ ?_<;>conv=>arg 3;whnf
  ·exact Zh rfl
  ·exact Zd (ih _)
 ·exact Zh rfl
def Zcd (t0:Bool) (t1:Bool) (t2:Bool) (t3:Bool) (b:Int) (m1_0:Int) (m1_1:Int) (m1_2:(List Zam)) (m1_3:(List Zo)) (m1_4:(List Zk)) (m1_5:(List Zu)) (s3:Int×Int×(List Int)) (r8:Int):Int→Ex×List V×Zp
  | r=>(.exit 4,[(.sl 0 1),(.d (Ze b)),(.fn 121 [(.ptr 1 0)]),(.d (Ze r8)),(.d (Ze r))],[(.arr 1 (List.map Ze s3.2.2)),(.cells [(.d (Ze m1_0)),(.d (Ze m1_1)),(.d (D.list t0 (List.map Zau m1_2))),(.d (D.list t1 (List.map ZI m1_3))),(.d (D.list t2 (List.map Zt m1_4))),(.d (D.list t3 (List.map Zz m1_5)))])])
theorem Zea {t0:Bool}{t1:Bool}{t2:Bool}{t3:Bool}{b:Int}{m1_0:Int}{m1_1:Int}{m1_2:(List Zam)}{m1_3:(List Zo)}{m1_4:(List Zk)}{m1_5:(List Zu)}{s3:Int×Int×(List Int)}{r8:Int}:∀(s9:Int) (r:Int),lp (Zaf b (fun z0 z1=>Zw z0 z1 m1_4) s3 r8) s9=some r→lpW ctx 2 [0,1,4,11,12] [0,1,4,11,12] Zuu [(.sl 0 1),(.d (Ze b)),(.fn 121 [(.ptr 1 0)]),(.d (Ze r8)),(.d (Ze s9))] [(.arr 1 (List.map Ze s3.2.2)),(.cells [(.d (Ze m1_0)),(.d (Ze m1_1)),(.d (D.list t0 (List.map Zau m1_2))),(.d (D.list t1 (List.map ZI m1_3))),(.d (D.list t2 (List.map Zt m1_4))),(.d (D.list t3 (List.map Zz m1_5)))])]=some ((Zcd t0 t1 t2 t3 b m1_0 m1_1 m1_2 m1_3 m1_4 m1_5 s3 r8) r):=by
 refine Zbc (Zcd t0 t1 t2 t3 b m1_0 m1_1 m1_2 m1_3 m1_4 m1_5 s3 r8) ?_
 intro s9 rcl ih
 show Z6 _ _ (lpW _ _ _ _ _ _ _)
 unfold Zaf
 rw[Zbd]
 conv=>arg 3;whnf
 refine Zg rfl ?_ ?_<;>conv=>arg 3;whnf
 ·refine Zj rfl rfl fun x10 hx10=>?_;conv=>arg 3;whnf
  refine Zf (Zl rfl hx10) ?_;conv=>arg 3;whnf
  refine Zj rfl rfl fun x11 hx11=>?_;conv=>arg 3;whnf
  refine Zf (Zl rfl hx11) ?_;conv=>arg 3;whnf
  refine Zr _ ZN rfl fun x12 hx12=>?_;conv=>arg 3;whnf
  refine Zg rfl ?_ ?_<;>conv=>arg 3;whnf
  ·exact Zd (ih _)
  ·exact Zh rfl
 ·exact Zh rfl
def Zcb (t0:Bool) (t1:Bool) (t2:Bool) (t3:Bool) (b:Int) (m1_0:Int) (m1_1:Int) (m1_2:(List Zam)) (m1_3:(List Zo)) (m1_4:(List Zk)) (m1_5:(List Zu)):(Int×(List Int))→Ex×List V×Zp
  | r=>(.exit 0,[(.d (Ze r.1))],[(.arr 1 (List.map Ze r.2)),(.cells [(.d (Ze m1_0)),(.d (Ze m1_1)),(.d (D.list t0 (List.map Zau m1_2))),(.d (D.list t1 (List.map ZI m1_3))),(.d (D.list t2 (List.map Zt m1_4))),(.d (D.list t3 (List.map Zz m1_5)))])])
theorem Zd4 {t0:Bool}{t1:Bool}{t2:Bool}{t3:Bool}{b:Int}{m1_0:Int}{m1_1:Int}{m1_2:(List Zam)}{m1_3:(List Zo)}{m1_4:(List Zk)}{m1_5:(List Zu)}:∀(s3:Int×Int×(List Int)) (r:(Int×(List Int))),lp (Zar b (fun z0 z1=>Zw z0 z1 m1_4)) s3=some r→lpW ctx 2 [0,1,4,11,12] [11] Zuj [(.sl 0 1),(.d (Ze b)),(.fn 121 [(.ptr 1 0)]),(.d (Ze s3.1)),(.d (Ze s3.2.1))] [(.arr 1 (List.map Ze s3.2.2)),(.cells [(.d (Ze m1_0)),(.d (Ze m1_1)),(.d (D.list t0 (List.map Zau m1_2))),(.d (D.list t1 (List.map ZI m1_3))),(.d (D.list t2 (List.map Zt m1_4))),(.d (D.list t3 (List.map Zz m1_5)))])]=some ((Zcb t0 t1 t2 t3 b m1_0 m1_1 m1_2 m1_3 m1_4 m1_5) r):=by
 refine Zbc (Zcb t0 t1 t2 t3 b m1_0 m1_1 m1_2 m1_3 m1_4 m1_5) ?_
 intro s3 rcl ih
 show Z6 _ _ (lpW _ _ _ _ _ _ _)
 unfold Zar
 rw[Zbd]
 conv=>arg 3;whnf
 refine Zc _ (Zd0 _) fun r8 hr8=>?_;conv=>arg 3;whnf
 refine Zc _ (Zea _) fun r13 hr13=>?_;conv=>arg 3;whnf
 refine Zg rfl ?_ ?_<;>conv=>arg 3;whnf
 ·exact Zh rfl
 ·refine Zj rfl rfl fun x14 hx14=>?_;conv=>arg 3;whnf
  refine Zf (Zl rfl hx14) ?_;conv=>arg 3;whnf
  refine Zj rfl rfl fun x15 hx15=>?_;conv=>arg 3;whnf
  refine Zf (Zl rfl hx15) ?_;conv=>arg 3;whnf
  refine Zf (ZaE rfl hx15) ?_;conv=>arg 3;whnf
  refine Zf (Zl rfl hx15) ?_;conv=>arg 3;whnf
  refine Zq (Z4 Ze s3.2.2 r8.toNat x14) ?_;conv=>arg 3;whnf
  refine Zj rfl rfl fun x16 hx16=>?_;conv=>arg 3;whnf
  refine Zf (Zl rfl hx16) ?_;conv=>arg 3;whnf
  refine Zq (Z4 Ze (List.set s3.2.2 r8.toNat x14) r13.toNat x15) ?_;conv=>arg 3;whnf
  exact Zd (ih _)
theorem ZE {t0:Bool}{t1:Bool}{t2:Bool}{t3:Bool}{b:Int}{c:Int}{d:Int}{m0_0:(List Int)}{m1_0:Int}{m1_1:Int}{m1_2:(List Zam)}{m1_3:(List Zo)}{m1_4:(List Zk)}{m1_5:(List Zu)}:∀r,(ZD b c d (fun z0 z1=>Zw z0 z1 m1_4) m0_0)=some r→evW ctx 148 [(.sl 0 1),(.d (Ze b)),(.d (Ze c)),(.d (Ze d)),(.fn 121 [(.ptr 1 0)])] [(.arr 1 (List.map Ze m0_0)),(.cells [(.d (Ze m1_0)),(.d (Ze m1_1)),(.d (D.list t0 (List.map Zau m1_2))),(.d (D.list t1 (List.map ZI m1_3))),(.d (D.list t2 (List.map Zt m1_4))),(.d (D.list t3 (List.map Zz m1_5)))])]=some ((Zcs t0 t1 t2 t3 b c d m0_0 m1_0 m1_1 m1_2 m1_3 m1_4 m1_5) r):=by
 show Z6 _ (fun r rhs=>rhs=some ((Zcs t0 t1 t2 t3 b c d m0_0 m1_0 m1_1 m1_2 m1_3 m1_4 m1_5) r)) _
 unfold ZD
 rw[Zej ctx 148 Zyk _ _ rfl rfl]
 conv=>arg 3;whnf
 refine Zj rfl rfl fun x0 hx0=>?_;conv=>arg 3;whnf
 refine Zf (Zl rfl hx0) ?_;conv=>arg 3;whnf
 refine Zj rfl rfl fun x1 hx1=>?_;conv=>arg 3;whnf
 refine Zf (Zl rfl hx1) ?_;conv=>arg 3;whnf
 refine Zf (ZaE rfl hx1) ?_;conv=>arg 3;whnf
 refine Zf (Zl rfl hx1) ?_;conv=>arg 3;whnf
 refine Zq (Z4 Ze m0_0 b.toNat x0) ?_;conv=>arg 3;whnf
 refine Zj rfl rfl fun x2 hx2=>?_;conv=>arg 3;whnf
 refine Zf (Zl rfl hx2) ?_;conv=>arg 3;whnf
 refine Zq (Z4 Ze (List.set m0_0 b.toNat x0) d.toNat x1) ?_;conv=>arg 3;whnf
 refine Zc _ (Zd4 _) fun r17 hr17=>?_;conv=>arg 3;whnf
 exact Zh rfl
def Zg9 (r:Int):D:=(D.int .u64 r)
theorem ZgL {a:Int}:∀r,(Zcy a)=some r→evD ctx 162 [(.d (Ze a))]=some (Zg9 r):=by
 show Z6 _ (fun r rhs=>rhs=some (Zg9 r)) _
 unfold Zcy
 rw[ZcG ctx 162 Zyy _ rfl rfl]
 conv=>arg 3;whnf
 refine Zr _ ZhC rfl fun x0 hx0=>?_;conv=>arg 3;whnf
 refine Zg rfl ?_ ?_
 ·exact ZbA
 ·conv=>arg 3;whnf
  exact Zh rfl
def Zhj (m0_0:Int):Unit→V×Zp
  | r=>((.d (D.int .u64 (IntKind.u64.wrap (BitVec.ofInt IntKind.u64.bits (IntKind.u64.wrap (BitVec.ofInt IntKind.u64.bits (IntKind.u64.wrap (BitVec.ofInt IntKind.u64.bits m0_0 ^^^ BitVec.ofInt IntKind.u64.bits (IntKind.u64.wrap (m0_0*2 ^ 13))).toNat) ^^^ BitVec.ofInt IntKind.u64.bits (Int.fdiv (IntKind.u64.wrap (BitVec.ofInt IntKind.u64.bits m0_0 ^^^ BitVec.ofInt IntKind.u64.bits (IntKind.u64.wrap (m0_0*2 ^ 13))).toNat) (2 ^ 7))).toNat) ^^^ BitVec.ofInt IntKind.u64.bits (IntKind.u64.wrap ((IntKind.u64.wrap (BitVec.ofInt IntKind.u64.bits (IntKind.u64.wrap (BitVec.ofInt IntKind.u64.bits m0_0 ^^^ BitVec.ofInt IntKind.u64.bits (IntKind.u64.wrap (m0_0*2 ^ 13))).toNat) ^^^ BitVec.ofInt IntKind.u64.bits (Int.fdiv (IntKind.u64.wrap (BitVec.ofInt IntKind.u64.bits m0_0 ^^^ BitVec.ofInt IntKind.u64.bits (IntKind.u64.wrap (m0_0*2 ^ 13))).toNat) (2 ^ 7))).toNat)*2 ^ 17))).toNat))),[(.cells [(.d (D.int .u64 (IntKind.u64.wrap (BitVec.ofInt IntKind.u64.bits (IntKind.u64.wrap (BitVec.ofInt IntKind.u64.bits (IntKind.u64.wrap (BitVec.ofInt IntKind.u64.bits m0_0 ^^^ BitVec.ofInt IntKind.u64.bits (IntKind.u64.wrap (m0_0*2 ^ 13))).toNat) ^^^ BitVec.ofInt IntKind.u64.bits (Int.fdiv (IntKind.u64.wrap (BitVec.ofInt IntKind.u64.bits m0_0 ^^^ BitVec.ofInt IntKind.u64.bits (IntKind.u64.wrap (m0_0*2 ^ 13))).toNat) (2 ^ 7))).toNat) ^^^ BitVec.ofInt IntKind.u64.bits (IntKind.u64.wrap ((IntKind.u64.wrap (BitVec.ofInt IntKind.u64.bits (IntKind.u64.wrap (BitVec.ofInt IntKind.u64.bits m0_0 ^^^ BitVec.ofInt IntKind.u64.bits (IntKind.u64.wrap (m0_0*2 ^ 13))).toNat) ^^^ BitVec.ofInt IntKind.u64.bits (Int.fdiv (IntKind.u64.wrap (BitVec.ofInt IntKind.u64.bits m0_0 ^^^ BitVec.ofInt IntKind.u64.bits (IntKind.u64.wrap (m0_0*2 ^ 13))).toNat) (2 ^ 7))).toNat)*2 ^ 17))).toNat)))])])
theorem Zhc {m0_0:Int}:∀r,ZdB=some r→evW ctx 163 [(.ptr 0 0)] [(.cells [(.d (D.int .u64 m0_0))])]=some ((Zhj m0_0) r):=by
 show Z6 _ (fun r rhs=>rhs=some ((Zhj m0_0) r)) _
 unfold ZdB
 rw[Zej ctx 163 Zyz _ _ rfl rfl]
 conv=>arg 3;whnf
 refine ZO rfl ?_;conv=>arg 3;whnf
 refine ZO rfl ?_;conv=>arg 3;whnf
 refine ZO rfl ?_;conv=>arg 3;whnf
 exact Zh rfl
def Zcx (t0:Bool) (t1:Bool) (t2:Bool) (t3:Bool) (b:Int) (c:Int) (m0_0:(List Int)) (m1_0:Int) (m1_1:Int) (m1_2:(List Zam)) (m1_3:(List Zo)) (m1_4:(List Zk)) (m1_5:(List Zu)):(List Int)→V×Zp
  | r=>((.d (D.tup [])),[(.arr 1 (List.map Ze r)),(.cells [(.d (Ze m1_0)),(.d (Ze m1_1)),(.d (D.list t0 (List.map Zau m1_2))),(.d (D.list t1 (List.map ZI m1_3))),(.d (D.list t2 (List.map Zt m1_4))),(.d (D.list t3 (List.map Zz m1_5)))])])
def Zcf (t0:Bool) (t1:Bool) (t2:Bool) (t3:Bool) (b:Int) (c:Int) (m1_0:Int) (m1_1:Int) (m1_2:(List Zam)) (m1_3:(List Zo)) (m1_4:(List Zk)) (m1_5:(List Zu)) (x0:Int):(List Int)→Ex×List V×Zp
  | r=>(.exit 0,[],[(.arr 1 (List.map Ze r)),(.cells [(.d (Ze m1_0)),(.d (Ze m1_1)),(.d (D.list t0 (List.map Zau m1_2))),(.d (D.list t1 (List.map ZI m1_3))),(.d (D.list t2 (List.map Zt m1_4))),(.d (D.list t3 (List.map Zz m1_5)))])])
theorem Zef {t0:Bool}{t1:Bool}{t2:Bool}{t3:Bool}{b:Int}{c:Int}{m1_0:Int}{m1_1:Int}{m1_2:(List Zam)}{m1_3:(List Zo)}{m1_4:(List Zk)}{m1_5:(List Zu)}{x0:Int}:∀(s1:Int×(List Int)×Int) (r:(List Int)),lp (Zax b c x0) s1=some r→lpW ctx 2 [0,1,8,9,10,11] [] ZuC [(.sl 0 1),(.d (Ze b)),(.d (Ze (w64 (c-b)))),(.ptr 2 0),(.d (D.int .u64 x0)),(.d (Ze s1.1))] [(.arr 1 (List.map Ze s1.2.1)),(.cells [(.d (Ze m1_0)),(.d (Ze m1_1)),(.d (D.list t0 (List.map Zau m1_2))),(.d (D.list t1 (List.map ZI m1_3))),(.d (D.list t2 (List.map Zt m1_4))),(.d (D.list t3 (List.map Zz m1_5)))]),(.cells [(.d (D.int .u64 s1.2.2))])]=some ((Zcf t0 t1 t2 t3 b c m1_0 m1_1 m1_2 m1_3 m1_4 m1_5 x0) r):=by
 refine Zbc (Zcf t0 t1 t2 t3 b c m1_0 m1_1 m1_2 m1_3 m1_4 m1_5 x0) ?_
 intro s1 rcl ih
 show Z6 _ _ (lpW _ _ _ _ _ _ _)
 unfold Zax
 rw[Zbd]
 conv=>arg 3;whnf
 refine ZO rfl ?_;conv=>arg 3;whnf
 refine Zg rfl ?_ ?_<;>conv=>arg 3;whnf
 ·refine Zc _ Zhc fun x2 hx2=>?_;conv=>arg 3;whnf
  refine Zg rfl ?_ ?_<;>conv=>arg 3;whnf
  ·refine Zj rfl rfl fun x3 hx3=>?_;conv=>arg 3;whnf
   refine Zf (Zl rfl hx3) ?_;conv=>arg 3;whnf
   refine Zj rfl rfl fun x4 hx4=>?_;conv=>arg 3;whnf
   refine Zf (Zl rfl hx4) ?_;conv=>arg 3;whnf
   refine Zf (ZaE rfl hx4) ?_;conv=>arg 3;whnf
   refine Zf (Zl rfl hx4) ?_;conv=>arg 3;whnf
   refine Zq (Z4 Ze s1.2.1 s1.1.toNat x3) ?_;conv=>arg 3;whnf
   refine Zj rfl rfl fun x5 hx5=>?_;conv=>arg 3;whnf
   refine Zf (Zl rfl hx5) ?_;conv=>arg 3;whnf
   refine Zq (Z4 Ze (List.set s1.2.1 s1.1.toNat x3) (w64 (b+(w64 ((w64 (IntKind.u64.wrap (BitVec.ofInt IntKind.u64.bits (IntKind.u64.wrap (BitVec.ofInt IntKind.u64.bits (IntKind.u64.wrap (BitVec.ofInt IntKind.u64.bits (IntKind.u64.wrap (BitVec.ofInt IntKind.u64.bits s1.2.2 ^^^ BitVec.ofInt IntKind.u64.bits (IntKind.u64.wrap (s1.2.2*2 ^ 13))).toNat) ^^^ BitVec.ofInt IntKind.u64.bits (Int.fdiv (IntKind.u64.wrap (BitVec.ofInt IntKind.u64.bits s1.2.2 ^^^ BitVec.ofInt IntKind.u64.bits (IntKind.u64.wrap (s1.2.2*2 ^ 13))).toNat) (2 ^ 7))).toNat) ^^^ BitVec.ofInt IntKind.u64.bits (IntKind.u64.wrap ((IntKind.u64.wrap (BitVec.ofInt IntKind.u64.bits (IntKind.u64.wrap (BitVec.ofInt IntKind.u64.bits s1.2.2 ^^^ BitVec.ofInt IntKind.u64.bits (IntKind.u64.wrap (s1.2.2*2 ^ 13))).toNat) ^^^ BitVec.ofInt IntKind.u64.bits (Int.fdiv (IntKind.u64.wrap (BitVec.ofInt IntKind.u64.bits s1.2.2 ^^^ BitVec.ofInt IntKind.u64.bits (IntKind.u64.wrap (s1.2.2*2 ^ 13))).toNat) (2 ^ 7))).toNat)*2 ^ 17))).toNat) &&& BitVec.ofInt IntKind.u64.bits (IntKind.u64.wrap (x0-1))).toNat))-(w64 (c-b)))))).toNat x4) ?_;conv=>arg 3;whnf
   exact Zd (ih _)
  ·refine Zj rfl rfl fun x6 hx6=>?_;conv=>arg 3;whnf
   refine Zf (Zl rfl hx6) ?_;conv=>arg 3;whnf
   refine Zj rfl rfl fun x7 hx7=>?_;conv=>arg 3;whnf
   refine Zf (Zl rfl hx7) ?_;conv=>arg 3;whnf
   refine Zf (ZaE rfl hx7) ?_;conv=>arg 3;whnf
   refine Zf (Zl rfl hx7) ?_;conv=>arg 3;whnf
   refine Zq (Z4 Ze s1.2.1 s1.1.toNat x6) ?_;conv=>arg 3;whnf
   refine Zj rfl rfl fun x8 hx8=>?_;conv=>arg 3;whnf
   refine Zf (Zl rfl hx8) ?_;conv=>arg 3;whnf
   refine Zq (Z4 Ze (List.set s1.2.1 s1.1.toNat x6) (w64 (b+(w64 (IntKind.u64.wrap (BitVec.ofInt IntKind.u64.bits (IntKind.u64.wrap (BitVec.ofInt IntKind.u64.bits (IntKind.u64.wrap (BitVec.ofInt IntKind.u64.bits (IntKind.u64.wrap (BitVec.ofInt IntKind.u64.bits s1.2.2 ^^^ BitVec.ofInt IntKind.u64.bits (IntKind.u64.wrap (s1.2.2*2 ^ 13))).toNat) ^^^ BitVec.ofInt IntKind.u64.bits (Int.fdiv (IntKind.u64.wrap (BitVec.ofInt IntKind.u64.bits s1.2.2 ^^^ BitVec.ofInt IntKind.u64.bits (IntKind.u64.wrap (s1.2.2*2 ^ 13))).toNat) (2 ^ 7))).toNat) ^^^ BitVec.ofInt IntKind.u64.bits (IntKind.u64.wrap ((IntKind.u64.wrap (BitVec.ofInt IntKind.u64.bits (IntKind.u64.wrap (BitVec.ofInt IntKind.u64.bits s1.2.2 ^^^ BitVec.ofInt IntKind.u64.bits (IntKind.u64.wrap (s1.2.2*2 ^ 13))).toNat) ^^^ BitVec.ofInt IntKind.u64.bits (Int.fdiv (IntKind.u64.wrap (BitVec.ofInt IntKind.u64.bits s1.2.2 ^^^ BitVec.ofInt IntKind.u64.bits (IntKind.u64.wrap (s1.2.2*2 ^ 13))).toNat) (2 ^ 7))).toNat)*2 ^ 17))).toNat) &&& BitVec.ofInt IntKind.u64.bits (IntKind.u64.wrap (x0-1))).toNat)))).toNat x7) ?_;conv=>arg 3;whnf
   exact Zd (ih _)
 ·exact Zh rfl
theorem Zct {t0:Bool}{t1:Bool}{t2:Bool}{t3:Bool}{b:Int}{c:Int}{m0_0:(List Int)}{m1_0:Int}{m1_1:Int}{m1_2:(List Zam)}{m1_3:(List Zo)}{m1_4:(List Zk)}{m1_5:(List Zu)}:∀r,(Zah b c (fun z0 z1=>Zw z0 z1 m1_4) m0_0)=some r→evW ctx 144 [(.sl 0 1),(.d (Ze b)),(.d (Ze c)),(.fn 121 [(.ptr 1 0)])] [(.arr 1 (List.map Ze m0_0)),(.cells [(.d (Ze m1_0)),(.d (Ze m1_1)),(.d (D.list t0 (List.map Zau m1_2))),(.d (D.list t1 (List.map ZI m1_3))),(.d (D.list t2 (List.map Zt m1_4))),(.d (D.list t3 (List.map Zz m1_5)))])]=some ((Zcx t0 t1 t2 t3 b c m0_0 m1_0 m1_1 m1_2 m1_3 m1_4 m1_5) r):=by
 show Z6 _ (fun r rhs=>rhs=some ((Zcx t0 t1 t2 t3 b c m0_0 m1_0 m1_1 m1_2 m1_3 m1_4 m1_5) r)) _
 unfold Zah
 rw[Zej ctx 144 ZwL _ _ rfl rfl]
 conv=>arg 3;whnf
 refine Zg rfl ?_ ?_<;>conv=>arg 3;whnf
 ·refine Zr _ ZgL rfl fun x0 hx0=>?_;conv=>arg 3;whnf
  refine ZO rfl ?_;conv=>arg 3;whnf
  refine Zc _ (Zef _) fun r9 hr9=>?_;conv=>arg 3;whnf
  exact Zh rfl
 ·exact Zh rfl
def Za (t0:Bool) (t1:Bool) (t2:Bool) (t3:Bool) (b:Int) (c:Int) (d:Int) (m0_0:(List Int)) (m1_0:Int) (m1_1:Int) (m1_2:(List Zam)) (m1_3:(List Zo)) (m1_4:(List Zk)) (m1_5:(List Zu)):(List Int)→V×Zp
  | r=>((.d (D.tup [])),[(.arr 1 (List.map Ze r)),(.cells [(.d (Ze m1_0)),(.d (Ze m1_1)),(.d (D.list t0 (List.map Zau m1_2))),(.d (D.list t1 (List.map ZI m1_3))),(.d (D.list t2 (List.map Zt m1_4))),(.d (D.list t3 (List.map Zz m1_5)))])])
def ZcX (t0:Bool) (t1:Bool) (t2:Bool) (t3:Bool) (m1_0:Int) (m1_1:Int) (m1_2:(List Zam)) (m1_3:(List Zo)) (m1_4:(List Zk)) (m1_5:(List Zu)) (rc:Int→Int→Int→(Int→Int→Option Int)→(List Int)→Option (List Int)):(List Int)→Ex×List V×Zp
  | r=>(.ret,[],[(.arr 1 (List.map Ze r)),(.cells [(.d (Ze m1_0)),(.d (Ze m1_1)),(.d (D.list t0 (List.map Zau m1_2))),(.d (D.list t1 (List.map ZI m1_3))),(.d (D.list t2 (List.map Zt m1_4))),(.d (D.list t3 (List.map Zz m1_5)))])])
theorem Zfe {t0:Bool}{t1:Bool}{t2:Bool}{t3:Bool}{m1_0:Int}{m1_1:Int}{m1_2:(List Zam)}{m1_3:(List Zo)}{m1_4:(List Zk)}{m1_5:(List Zu)}{rc:Int→Int→Int→(Int→Int→Option Int)→(List Int)→Option (List Int)} (hrc:∀(t0:Bool) (t1:Bool) (t2:Bool) (t3:Bool) (b:Int) (c:Int) (d:Int) (m0_0:(List Int)) (m1_0:Int) (m1_1:Int) (m1_2:(List Zam)) (m1_3:(List Zo)) (m1_4:(List Zk)) (m1_5:(List Zu)) (r:(List Int)),rc b c d (fun z0 z1=>Zw z0 z1 m1_4) m0_0=some r→evW ctx 138 [(.sl 0 1),(.d (Ze b)),(.d (Ze c)),(.d (Ze d)),(.fn 121 [(.ptr 1 0)])] [(.arr 1 (List.map Ze m0_0)),(.cells [(.d (Ze m1_0)),(.d (Ze m1_1)),(.d (D.list t0 (List.map Zau m1_2))),(.d (D.list t1 (List.map ZI m1_3))),(.d (D.list t2 (List.map Zt m1_4))),(.d (D.list t3 (List.map Zz m1_5)))])]=some ((Za t0 t1 t2 t3 b c d m0_0 m1_0 m1_1 m1_2 m1_3 m1_4 m1_5) r)):∀(s0:Int×Int×Int×Bool×Bool×(List Int)) (r:(List Int)),lp (ZV (fun z0 z1=>Zw z0 z1 m1_4) rc) s0=some r→lpW ctx 2 [0,1,2,3,4,10,11] [] Zvn [(.sl 0 1),(.d (Ze s0.1)),(.d (Ze s0.2.1)),(.d (Ze s0.2.2.1)),(.fn 121 [(.ptr 1 0)]),(.d (D.bool s0.2.2.2.1)),(.d (D.bool s0.2.2.2.2.1))] [(.arr 1 (List.map Ze s0.2.2.2.2.2)),(.cells [(.d (Ze m1_0)),(.d (Ze m1_1)),(.d (D.list t0 (List.map Zau m1_2))),(.d (D.list t1 (List.map ZI m1_3))),(.d (D.list t2 (List.map Zt m1_4))),(.d (D.list t3 (List.map Zz m1_5)))])]=some ((ZcX t0 t1 t2 t3 m1_0 m1_1 m1_2 m1_3 m1_4 m1_5 rc) r):=by
 refine Zbc (ZcX t0 t1 t2 t3 m1_0 m1_1 m1_2 m1_3 m1_4 m1_5 rc) ?_
 intro s0 rcl ih
 show Z6 _ _ (lpW _ _ _ _ _ _ _)
 unfold ZV
 rw[Zbd]
 rcases hb:s0.2.2.2.1 with _ | _
 ·refine Zn7 ?_
  rcases hb:s0.2.2.2.2.1 with _ | _
  ·refine Zn7 ?_;conv=>arg 3;whnf
   refine Zg rfl ?_ ?_<;>conv=>arg 3;whnf
   ·refine Zc _ ZaO fun x170 hx170=>?_;conv=>arg 3;whnf
    exact Zh rfl
   ·refine Zg rfl ?_ ?_<;>conv=>arg 3;whnf
    ·refine Zc _ Za9 fun x171 hx171=>?_;conv=>arg 3;whnf
     exact Zh rfl
    ·refine Zc _ Zct fun x172 hx172=>?_;conv=>arg 3;whnf
     refine Zc _ ZaV fun x173 hx173=>?_;conv=>arg 3;whnf
     refine Zg rfl ?_ ?_<;>conv=>arg 3;whnf
     ·refine Zc _ ZaU fun x174 hx174=>?_;conv=>arg 3;whnf
      refine Zg rfl ?_ ?_<;>conv=>arg 3;whnf
      ·refine Zj rfl rfl fun x175 hx175=>?_;conv=>arg 3;whnf
       refine Zf (Zl rfl hx175) ?_;conv=>arg 3;whnf
       refine Zj rfl rfl fun x176 hx176=>?_;conv=>arg 3;whnf
       refine Zf (Zl rfl hx176) ?_;conv=>arg 3;whnf
       refine Zr _ ZN rfl fun x177 hx177=>?_;conv=>arg 3;whnf
       refine Zg rfl ?_ ?_<;>conv=>arg 3;whnf
       ·refine Zc _ Zm fun x178 hx178=>?_
        clear hx178
        rcases x178 with x178 | x178
        ·conv=>arg 3;whnf
         refine Zbx rfl ?_;conv=>arg 3;whnf
         refine ZO rfl ?_;conv=>arg 3;whnf
         refine Zg rfl ?_ ?_<;>conv=>arg 3;whnf
         ·refine Zg rfl ?_ ?_<;>conv=>arg 3;whnf
          ·refine Zc (Za t0 t1 t2 t3 s0.1 x178.1 (w64 (s0.2.2.1-1)) x178.2 m1_0 m1_1 m1_2 m1_3 m1_4 m1_5) (hrc t0 t1 t2 t3 s0.1 x178.1 (w64 (s0.2.2.1-1)) x178.2 m1_0 m1_1 m1_2 m1_3 m1_4 m1_5) fun x179 hx179=>?_;conv=>arg 3;whnf
           exact Zd (ih _)
          ·refine Zc (Za t0 t1 t2 t3 s0.1 x178.1 (w64 (s0.2.2.1-1)) x178.2 m1_0 m1_1 m1_2 m1_3 m1_4 m1_5) (hrc t0 t1 t2 t3 s0.1 x178.1 (w64 (s0.2.2.1-1)) x178.2 m1_0 m1_1 m1_2 m1_3 m1_4 m1_5) fun x180 hx180=>?_;conv=>arg 3;whnf
           exact Zd (ih _)
         ·refine Zg rfl ?_ ?_<;>conv=>arg 3;whnf
          ·refine Zc (Za t0 t1 t2 t3 (w64 (x178.1+1)) s0.2.1 (w64 (s0.2.2.1-1)) x178.2 m1_0 m1_1 m1_2 m1_3 m1_4 m1_5) (hrc t0 t1 t2 t3 (w64 (x178.1+1)) s0.2.1 (w64 (s0.2.2.1-1)) x178.2 m1_0 m1_1 m1_2 m1_3 m1_4 m1_5) fun x181 hx181=>?_;conv=>arg 3;whnf
           exact Zd (ih _)
          ·refine Zc (Za t0 t1 t2 t3 (w64 (x178.1+1)) s0.2.1 (w64 (s0.2.2.1-1)) x178.2 m1_0 m1_1 m1_2 m1_3 m1_4 m1_5) (hrc t0 t1 t2 t3 (w64 (x178.1+1)) s0.2.1 (w64 (s0.2.2.1-1)) x178.2 m1_0 m1_1 m1_2 m1_3 m1_4 m1_5) fun x182 hx182=>?_;conv=>arg 3;whnf
           exact Zd (ih _)
        ·conv=>arg 3;whnf
         refine ZO rfl ?_;conv=>arg 3;whnf
         refine ZO rfl ?_;conv=>arg 3;whnf
         refine Zg rfl ?_ ?_<;>conv=>arg 3;whnf
         ·refine Zg rfl ?_ ?_<;>conv=>arg 3;whnf
          ·refine Zc (Za t0 t1 t2 t3 s0.1 x178.1 (w64 (s0.2.2.1-1)) x178.2 m1_0 m1_1 m1_2 m1_3 m1_4 m1_5) (hrc t0 t1 t2 t3 s0.1 x178.1 (w64 (s0.2.2.1-1)) x178.2 m1_0 m1_1 m1_2 m1_3 m1_4 m1_5) fun x183 hx183=>?_;conv=>arg 3;whnf
           exact Zd (ih _)
          ·refine Zc (Za t0 t1 t2 t3 s0.1 x178.1 (w64 (s0.2.2.1-1)) x178.2 m1_0 m1_1 m1_2 m1_3 m1_4 m1_5) (hrc t0 t1 t2 t3 s0.1 x178.1 (w64 (s0.2.2.1-1)) x178.2 m1_0 m1_1 m1_2 m1_3 m1_4 m1_5) fun x184 hx184=>?_;conv=>arg 3;whnf
           exact Zd (ih _)
         ·refine Zg rfl ?_ ?_<;>conv=>arg 3;whnf
          ·refine Zc (Za t0 t1 t2 t3 (w64 (x178.1+1)) s0.2.1 (w64 (s0.2.2.1-1)) x178.2 m1_0 m1_1 m1_2 m1_3 m1_4 m1_5) (hrc t0 t1 t2 t3 (w64 (x178.1+1)) s0.2.1 (w64 (s0.2.2.1-1)) x178.2 m1_0 m1_1 m1_2 m1_3 m1_4 m1_5) fun x185 hx185=>?_;conv=>arg 3;whnf
           exact Zd (ih _)
          ·refine Zc (Za t0 t1 t2 t3 (w64 (x178.1+1)) s0.2.1 (w64 (s0.2.2.1-1)) x178.2 m1_0 m1_1 m1_2 m1_3 m1_4 m1_5) (hrc t0 t1 t2 t3 (w64 (x178.1+1)) s0.2.1 (w64 (s0.2.2.1-1)) x178.2 m1_0 m1_1 m1_2 m1_3 m1_4 m1_5) fun x186 hx186=>?_;conv=>arg 3;whnf
           exact Zd (ih _)
       ·refine Zc _ ZE fun x187 hx187=>?_;conv=>arg 3;whnf
        exact Zd (ih _)
      ·refine Zc _ Zm fun x188 hx188=>?_
       clear hx188
       rcases x188 with x188 | x188
       ·conv=>arg 3;whnf
        refine Zbx rfl ?_;conv=>arg 3;whnf
        refine ZO rfl ?_;conv=>arg 3;whnf
        refine Zg rfl ?_ ?_<;>conv=>arg 3;whnf
        ·refine Zg rfl ?_ ?_<;>conv=>arg 3;whnf
         ·refine Zc (Za t0 t1 t2 t3 s0.1 x188.1 (w64 (s0.2.2.1-1)) x188.2 m1_0 m1_1 m1_2 m1_3 m1_4 m1_5) (hrc t0 t1 t2 t3 s0.1 x188.1 (w64 (s0.2.2.1-1)) x188.2 m1_0 m1_1 m1_2 m1_3 m1_4 m1_5) fun x189 hx189=>?_;conv=>arg 3;whnf
          exact Zd (ih _)
         ·refine Zc (Za t0 t1 t2 t3 s0.1 x188.1 (w64 (s0.2.2.1-1)) x188.2 m1_0 m1_1 m1_2 m1_3 m1_4 m1_5) (hrc t0 t1 t2 t3 s0.1 x188.1 (w64 (s0.2.2.1-1)) x188.2 m1_0 m1_1 m1_2 m1_3 m1_4 m1_5) fun x190 hx190=>?_;conv=>arg 3;whnf
          exact Zd (ih _)
        ·refine Zg rfl ?_ ?_<;>conv=>arg 3;whnf
         ·refine Zc (Za t0 t1 t2 t3 (w64 (x188.1+1)) s0.2.1 (w64 (s0.2.2.1-1)) x188.2 m1_0 m1_1 m1_2 m1_3 m1_4 m1_5) (hrc t0 t1 t2 t3 (w64 (x188.1+1)) s0.2.1 (w64 (s0.2.2.1-1)) x188.2 m1_0 m1_1 m1_2 m1_3 m1_4 m1_5) fun x191 hx191=>?_;conv=>arg 3;whnf
          exact Zd (ih _)
         ·refine Zc (Za t0 t1 t2 t3 (w64 (x188.1+1)) s0.2.1 (w64 (s0.2.2.1-1)) x188.2 m1_0 m1_1 m1_2 m1_3 m1_4 m1_5) (hrc t0 t1 t2 t3 (w64 (x188.1+1)) s0.2.1 (w64 (s0.2.2.1-1)) x188.2 m1_0 m1_1 m1_2 m1_3 m1_4 m1_5) fun x192 hx192=>?_;conv=>arg 3;whnf
          exact Zd (ih _)
       ·conv=>arg 3;whnf
        refine ZO rfl ?_;conv=>arg 3;whnf
        refine ZO rfl ?_;conv=>arg 3;whnf
        refine Zg rfl ?_ ?_<;>conv=>arg 3;whnf
        ·refine Zg rfl ?_ ?_<;>conv=>arg 3;whnf
         ·refine Zc (Za t0 t1 t2 t3 s0.1 x188.1 (w64 (s0.2.2.1-1)) x188.2 m1_0 m1_1 m1_2 m1_3 m1_4 m1_5) (hrc t0 t1 t2 t3 s0.1 x188.1 (w64 (s0.2.2.1-1)) x188.2 m1_0 m1_1 m1_2 m1_3 m1_4 m1_5) fun x193 hx193=>?_;conv=>arg 3;whnf
          exact Zd (ih _)
         ·refine Zc (Za t0 t1 t2 t3 s0.1 x188.1 (w64 (s0.2.2.1-1)) x188.2 m1_0 m1_1 m1_2 m1_3 m1_4 m1_5) (hrc t0 t1 t2 t3 s0.1 x188.1 (w64 (s0.2.2.1-1)) x188.2 m1_0 m1_1 m1_2 m1_3 m1_4 m1_5) fun x194 hx194=>?_;conv=>arg 3;whnf
          exact Zd (ih _)
        ·refine Zg rfl ?_ ?_<;>conv=>arg 3;whnf
         ·refine Zc (Za t0 t1 t2 t3 (w64 (x188.1+1)) s0.2.1 (w64 (s0.2.2.1-1)) x188.2 m1_0 m1_1 m1_2 m1_3 m1_4 m1_5) (hrc t0 t1 t2 t3 (w64 (x188.1+1)) s0.2.1 (w64 (s0.2.2.1-1)) x188.2 m1_0 m1_1 m1_2 m1_3 m1_4 m1_5) fun x195 hx195=>?_;conv=>arg 3;whnf
          exact Zd (ih _)
         ·refine Zc (Za t0 t1 t2 t3 (w64 (x188.1+1)) s0.2.1 (w64 (s0.2.2.1-1)) x188.2 m1_0 m1_1 m1_2 m1_3 m1_4 m1_5) (hrc t0 t1 t2 t3 (w64 (x188.1+1)) s0.2.1 (w64 (s0.2.2.1-1)) x188.2 m1_0 m1_1 m1_2 m1_3 m1_4 m1_5) fun x196 hx196=>?_;conv=>arg 3;whnf
          exact Zd (ih _)
     ·refine Zg rfl ?_ ?_<;>conv=>arg 3;whnf
      ·refine Zj rfl rfl fun x197 hx197=>?_;conv=>arg 3;whnf
       refine Zf (Zl rfl hx197) ?_;conv=>arg 3;whnf
       refine Zj rfl rfl fun x198 hx198=>?_;conv=>arg 3;whnf
       refine Zf (Zl rfl hx198) ?_;conv=>arg 3;whnf
       refine Zr _ ZN rfl fun x199 hx199=>?_;conv=>arg 3;whnf
       refine Zg rfl ?_ ?_<;>conv=>arg 3;whnf
       ·refine Zc _ Zm fun x200 hx200=>?_
        clear hx200
        rcases x200 with x200 | x200
        ·conv=>arg 3;whnf
         refine Zbx rfl ?_;conv=>arg 3;whnf
         refine ZO rfl ?_;conv=>arg 3;whnf
         refine Zg rfl ?_ ?_<;>conv=>arg 3;whnf
         ·refine Zg rfl ?_ ?_<;>conv=>arg 3;whnf
          ·refine Zc (Za t0 t1 t2 t3 s0.1 x200.1 (w64 (s0.2.2.1-1)) x200.2 m1_0 m1_1 m1_2 m1_3 m1_4 m1_5) (hrc t0 t1 t2 t3 s0.1 x200.1 (w64 (s0.2.2.1-1)) x200.2 m1_0 m1_1 m1_2 m1_3 m1_4 m1_5) fun x201 hx201=>?_;conv=>arg 3;whnf
           exact Zd (ih _)
          ·refine Zc (Za t0 t1 t2 t3 s0.1 x200.1 (w64 (s0.2.2.1-1)) x200.2 m1_0 m1_1 m1_2 m1_3 m1_4 m1_5) (hrc t0 t1 t2 t3 s0.1 x200.1 (w64 (s0.2.2.1-1)) x200.2 m1_0 m1_1 m1_2 m1_3 m1_4 m1_5) fun x202 hx202=>?_;conv=>arg 3;whnf
           exact Zd (ih _)
         ·refine Zg rfl ?_ ?_<;>conv=>arg 3;whnf
          ·refine Zc (Za t0 t1 t2 t3 (w64 (x200.1+1)) s0.2.1 (w64 (s0.2.2.1-1)) x200.2 m1_0 m1_1 m1_2 m1_3 m1_4 m1_5) (hrc t0 t1 t2 t3 (w64 (x200.1+1)) s0.2.1 (w64 (s0.2.2.1-1)) x200.2 m1_0 m1_1 m1_2 m1_3 m1_4 m1_5) fun x203 hx203=>?_;conv=>arg 3;whnf
           exact Zd (ih _)
          ·refine Zc (Za t0 t1 t2 t3 (w64 (x200.1+1)) s0.2.1 (w64 (s0.2.2.1-1)) x200.2 m1_0 m1_1 m1_2 m1_3 m1_4 m1_5) (hrc t0 t1 t2 t3 (w64 (x200.1+1)) s0.2.1 (w64 (s0.2.2.1-1)) x200.2 m1_0 m1_1 m1_2 m1_3 m1_4 m1_5) fun x204 hx204=>?_;conv=>arg 3;whnf
           exact Zd (ih _)
        ·conv=>arg 3;whnf
         refine ZO rfl ?_;conv=>arg 3;whnf
         refine ZO rfl ?_;conv=>arg 3;whnf
         refine Zg rfl ?_ ?_<;>conv=>arg 3;whnf
         ·refine Zg rfl ?_ ?_<;>conv=>arg 3;whnf
          ·refine Zc (Za t0 t1 t2 t3 s0.1 x200.1 (w64 (s0.2.2.1-1)) x200.2 m1_0 m1_1 m1_2 m1_3 m1_4 m1_5) (hrc t0 t1 t2 t3 s0.1 x200.1 (w64 (s0.2.2.1-1)) x200.2 m1_0 m1_1 m1_2 m1_3 m1_4 m1_5) fun x205 hx205=>?_;conv=>arg 3;whnf
           exact Zd (ih _)
          ·refine Zc (Za t0 t1 t2 t3 s0.1 x200.1 (w64 (s0.2.2.1-1)) x200.2 m1_0 m1_1 m1_2 m1_3 m1_4 m1_5) (hrc t0 t1 t2 t3 s0.1 x200.1 (w64 (s0.2.2.1-1)) x200.2 m1_0 m1_1 m1_2 m1_3 m1_4 m1_5) fun x206 hx206=>?_;conv=>arg 3;whnf
           exact Zd (ih _)
         ·refine Zg rfl ?_ ?_<;>conv=>arg 3;whnf
          ·refine Zc (Za t0 t1 t2 t3 (w64 (x200.1+1)) s0.2.1 (w64 (s0.2.2.1-1)) x200.2 m1_0 m1_1 m1_2 m1_3 m1_4 m1_5) (hrc t0 t1 t2 t3 (w64 (x200.1+1)) s0.2.1 (w64 (s0.2.2.1-1)) x200.2 m1_0 m1_1 m1_2 m1_3 m1_4 m1_5) fun x207 hx207=>?_;conv=>arg 3;whnf
           exact Zd (ih _)
          ·refine Zc (Za t0 t1 t2 t3 (w64 (x200.1+1)) s0.2.1 (w64 (s0.2.2.1-1)) x200.2 m1_0 m1_1 m1_2 m1_3 m1_4 m1_5) (hrc t0 t1 t2 t3 (w64 (x200.1+1)) s0.2.1 (w64 (s0.2.2.1-1)) x200.2 m1_0 m1_1 m1_2 m1_3 m1_4 m1_5) fun x208 hx208=>?_;conv=>arg 3;whnf
           exact Zd (ih _)
       ·refine Zc _ ZE fun x209 hx209=>?_;conv=>arg 3;whnf
        exact Zd (ih _)
      ·refine Zc _ Zm fun x210 hx210=>?_
       clear hx210
       rcases x210 with x210 | x210
       ·conv=>arg 3;whnf
        refine Zbx rfl ?_;conv=>arg 3;whnf
        refine ZO rfl ?_;conv=>arg 3;whnf
        refine Zg rfl ?_ ?_<;>conv=>arg 3;whnf
        ·refine Zg rfl ?_ ?_<;>conv=>arg 3;whnf
         ·refine Zc (Za t0 t1 t2 t3 s0.1 x210.1 (w64 (s0.2.2.1-1)) x210.2 m1_0 m1_1 m1_2 m1_3 m1_4 m1_5) (hrc t0 t1 t2 t3 s0.1 x210.1 (w64 (s0.2.2.1-1)) x210.2 m1_0 m1_1 m1_2 m1_3 m1_4 m1_5) fun x211 hx211=>?_;conv=>arg 3;whnf
          exact Zd (ih _)
         ·refine Zc (Za t0 t1 t2 t3 s0.1 x210.1 (w64 (s0.2.2.1-1)) x210.2 m1_0 m1_1 m1_2 m1_3 m1_4 m1_5) (hrc t0 t1 t2 t3 s0.1 x210.1 (w64 (s0.2.2.1-1)) x210.2 m1_0 m1_1 m1_2 m1_3 m1_4 m1_5) fun x212 hx212=>?_;conv=>arg 3;whnf
          exact Zd (ih _)
        ·refine Zg rfl ?_ ?_<;>conv=>arg 3;whnf
         ·refine Zc (Za t0 t1 t2 t3 (w64 (x210.1+1)) s0.2.1 (w64 (s0.2.2.1-1)) x210.2 m1_0 m1_1 m1_2 m1_3 m1_4 m1_5) (hrc t0 t1 t2 t3 (w64 (x210.1+1)) s0.2.1 (w64 (s0.2.2.1-1)) x210.2 m1_0 m1_1 m1_2 m1_3 m1_4 m1_5) fun x213 hx213=>?_;conv=>arg 3;whnf
          exact Zd (ih _)
         ·refine Zc (Za t0 t1 t2 t3 (w64 (x210.1+1)) s0.2.1 (w64 (s0.2.2.1-1)) x210.2 m1_0 m1_1 m1_2 m1_3 m1_4 m1_5) (hrc t0 t1 t2 t3 (w64 (x210.1+1)) s0.2.1 (w64 (s0.2.2.1-1)) x210.2 m1_0 m1_1 m1_2 m1_3 m1_4 m1_5) fun x214 hx214=>?_;conv=>arg 3;whnf
          exact Zd (ih _)
       ·conv=>arg 3;whnf
        refine ZO rfl ?_;conv=>arg 3;whnf
        refine ZO rfl ?_;conv=>arg 3;whnf
        refine Zg rfl ?_ ?_<;>conv=>arg 3;whnf
        ·refine Zg rfl ?_ ?_<;>conv=>arg 3;whnf
         ·refine Zc (Za t0 t1 t2 t3 s0.1 x210.1 (w64 (s0.2.2.1-1)) x210.2 m1_0 m1_1 m1_2 m1_3 m1_4 m1_5) (hrc t0 t1 t2 t3 s0.1 x210.1 (w64 (s0.2.2.1-1)) x210.2 m1_0 m1_1 m1_2 m1_3 m1_4 m1_5) fun x215 hx215=>?_;conv=>arg 3;whnf
          exact Zd (ih _)
         ·refine Zc (Za t0 t1 t2 t3 s0.1 x210.1 (w64 (s0.2.2.1-1)) x210.2 m1_0 m1_1 m1_2 m1_3 m1_4 m1_5) (hrc t0 t1 t2 t3 s0.1 x210.1 (w64 (s0.2.2.1-1)) x210.2 m1_0 m1_1 m1_2 m1_3 m1_4 m1_5) fun x216 hx216=>?_;conv=>arg 3;whnf
          exact Zd (ih _)
        ·refine Zg rfl ?_ ?_<;>conv=>arg 3;whnf
         ·refine Zc (Za t0 t1 t2 t3 (w64 (x210.1+1)) s0.2.1 (w64 (s0.2.2.1-1)) x210.2 m1_0 m1_1 m1_2 m1_3 m1_4 m1_5) (hrc t0 t1 t2 t3 (w64 (x210.1+1)) s0.2.1 (w64 (s0.2.2.1-1)) x210.2 m1_0 m1_1 m1_2 m1_3 m1_4 m1_5) fun x217 hx217=>?_;conv=>arg 3;whnf
          exact Zd (ih _)
         ·refine Zc (Za t0 t1 t2 t3 (w64 (x210.1+1)) s0.2.1 (w64 (s0.2.2.1-1)) x210.2 m1_0 m1_1 m1_2 m1_3 m1_4 m1_5) (hrc t0 t1 t2 t3 (w64 (x210.1+1)) s0.2.1 (w64 (s0.2.2.1-1)) x210.2 m1_0 m1_1 m1_2 m1_3 m1_4 m1_5) fun x218 hx218=>?_;conv=>arg 3;whnf
          exact Zd (ih _)
  ·refine ZnO ?_;conv=>arg 3;whnf
   refine Zg rfl ?_ ?_<;>conv=>arg 3;whnf
   ·refine Zc _ ZaO fun x121 hx121=>?_;conv=>arg 3;whnf
    exact Zh rfl
   ·refine Zg rfl ?_ ?_<;>conv=>arg 3;whnf
    ·refine Zc _ Za9 fun x122 hx122=>?_;conv=>arg 3;whnf
     exact Zh rfl
    ·refine Zc _ Zct fun x123 hx123=>?_;conv=>arg 3;whnf
     refine Zc _ ZaV fun x124 hx124=>?_;conv=>arg 3;whnf
     refine Zg rfl ?_ ?_<;>conv=>arg 3;whnf
     ·refine Zc _ ZaU fun x125 hx125=>?_;conv=>arg 3;whnf
      refine Zg rfl ?_ ?_<;>conv=>arg 3;whnf
      ·refine Zj rfl rfl fun x126 hx126=>?_;conv=>arg 3;whnf
       refine Zf (Zl rfl hx126) ?_;conv=>arg 3;whnf
       refine Zj rfl rfl fun x127 hx127=>?_;conv=>arg 3;whnf
       refine Zf (Zl rfl hx127) ?_;conv=>arg 3;whnf
       refine Zr _ ZN rfl fun x128 hx128=>?_;conv=>arg 3;whnf
       refine Zg rfl ?_ ?_<;>conv=>arg 3;whnf
       ·refine Zc _ Zm fun x129 hx129=>?_
        clear hx129
        rcases x129 with x129 | x129
        ·conv=>arg 3;whnf
         refine Zbx rfl ?_;conv=>arg 3;whnf
         refine ZO rfl ?_;conv=>arg 3;whnf
         refine Zg rfl ?_ ?_<;>conv=>arg 3;whnf
         ·refine Zg rfl ?_ ?_<;>conv=>arg 3;whnf
          ·refine Zc (Za t0 t1 t2 t3 s0.1 x129.1 (w64 (s0.2.2.1-1)) x129.2 m1_0 m1_1 m1_2 m1_3 m1_4 m1_5) (hrc t0 t1 t2 t3 s0.1 x129.1 (w64 (s0.2.2.1-1)) x129.2 m1_0 m1_1 m1_2 m1_3 m1_4 m1_5) fun x130 hx130=>?_;conv=>arg 3;whnf
           exact Zd (ih _)
          ·refine Zc (Za t0 t1 t2 t3 s0.1 x129.1 (w64 (s0.2.2.1-1)) x129.2 m1_0 m1_1 m1_2 m1_3 m1_4 m1_5) (hrc t0 t1 t2 t3 s0.1 x129.1 (w64 (s0.2.2.1-1)) x129.2 m1_0 m1_1 m1_2 m1_3 m1_4 m1_5) fun x131 hx131=>?_;conv=>arg 3;whnf
           exact Zd (ih _)
         ·refine Zg rfl ?_ ?_<;>conv=>arg 3;whnf
          ·refine Zc (Za t0 t1 t2 t3 (w64 (x129.1+1)) s0.2.1 (w64 (s0.2.2.1-1)) x129.2 m1_0 m1_1 m1_2 m1_3 m1_4 m1_5) (hrc t0 t1 t2 t3 (w64 (x129.1+1)) s0.2.1 (w64 (s0.2.2.1-1)) x129.2 m1_0 m1_1 m1_2 m1_3 m1_4 m1_5) fun x132 hx132=>?_;conv=>arg 3;whnf
           exact Zd (ih _)
          ·refine Zc (Za t0 t1 t2 t3 (w64 (x129.1+1)) s0.2.1 (w64 (s0.2.2.1-1)) x129.2 m1_0 m1_1 m1_2 m1_3 m1_4 m1_5) (hrc t0 t1 t2 t3 (w64 (x129.1+1)) s0.2.1 (w64 (s0.2.2.1-1)) x129.2 m1_0 m1_1 m1_2 m1_3 m1_4 m1_5) fun x133 hx133=>?_;conv=>arg 3;whnf
           exact Zd (ih _)
        ·conv=>arg 3;whnf
         refine ZO rfl ?_;conv=>arg 3;whnf
         refine ZO rfl ?_;conv=>arg 3;whnf
         refine Zg rfl ?_ ?_<;>conv=>arg 3;whnf
         ·refine Zg rfl ?_ ?_<;>conv=>arg 3;whnf
          ·refine Zc (Za t0 t1 t2 t3 s0.1 x129.1 (w64 (s0.2.2.1-1)) x129.2 m1_0 m1_1 m1_2 m1_3 m1_4 m1_5) (hrc t0 t1 t2 t3 s0.1 x129.1 (w64 (s0.2.2.1-1)) x129.2 m1_0 m1_1 m1_2 m1_3 m1_4 m1_5) fun x134 hx134=>?_;conv=>arg 3;whnf
           exact Zd (ih _)
          ·refine Zc (Za t0 t1 t2 t3 s0.1 x129.1 (w64 (s0.2.2.1-1)) x129.2 m1_0 m1_1 m1_2 m1_3 m1_4 m1_5) (hrc t0 t1 t2 t3 s0.1 x129.1 (w64 (s0.2.2.1-1)) x129.2 m1_0 m1_1 m1_2 m1_3 m1_4 m1_5) fun x135 hx135=>?_;conv=>arg 3;whnf
           exact Zd (ih _)
         ·refine Zg rfl ?_ ?_<;>conv=>arg 3;whnf
          ·refine Zc (Za t0 t1 t2 t3 (w64 (x129.1+1)) s0.2.1 (w64 (s0.2.2.1-1)) x129.2 m1_0 m1_1 m1_2 m1_3 m1_4 m1_5) (hrc t0 t1 t2 t3 (w64 (x129.1+1)) s0.2.1 (w64 (s0.2.2.1-1)) x129.2 m1_0 m1_1 m1_2 m1_3 m1_4 m1_5) fun x136 hx136=>?_;conv=>arg 3;whnf
           exact Zd (ih _)
          ·refine Zc (Za t0 t1 t2 t3 (w64 (x129.1+1)) s0.2.1 (w64 (s0.2.2.1-1)) x129.2 m1_0 m1_1 m1_2 m1_3 m1_4 m1_5) (hrc t0 t1 t2 t3 (w64 (x129.1+1)) s0.2.1 (w64 (s0.2.2.1-1)) x129.2 m1_0 m1_1 m1_2 m1_3 m1_4 m1_5) fun x137 hx137=>?_;conv=>arg 3;whnf
           exact Zd (ih _)
       ·refine Zc _ ZE fun x138 hx138=>?_;conv=>arg 3;whnf
        exact Zd (ih _)
      ·refine Zc _ Zm fun x139 hx139=>?_
       clear hx139
       rcases x139 with x139 | x139
       ·conv=>arg 3;whnf
        refine Zbx rfl ?_;conv=>arg 3;whnf
        refine ZO rfl ?_;conv=>arg 3;whnf
        refine Zg rfl ?_ ?_<;>conv=>arg 3;whnf
        ·refine Zg rfl ?_ ?_<;>conv=>arg 3;whnf
         ·refine Zc (Za t0 t1 t2 t3 s0.1 x139.1 (w64 (s0.2.2.1-1)) x139.2 m1_0 m1_1 m1_2 m1_3 m1_4 m1_5) (hrc t0 t1 t2 t3 s0.1 x139.1 (w64 (s0.2.2.1-1)) x139.2 m1_0 m1_1 m1_2 m1_3 m1_4 m1_5) fun x140 hx140=>?_;conv=>arg 3;whnf
          exact Zd (ih _)
         ·refine Zc (Za t0 t1 t2 t3 s0.1 x139.1 (w64 (s0.2.2.1-1)) x139.2 m1_0 m1_1 m1_2 m1_3 m1_4 m1_5) (hrc t0 t1 t2 t3 s0.1 x139.1 (w64 (s0.2.2.1-1)) x139.2 m1_0 m1_1 m1_2 m1_3 m1_4 m1_5) fun x141 hx141=>?_;conv=>arg 3;whnf
          exact Zd (ih _)
        ·refine Zg rfl ?_ ?_<;>conv=>arg 3;whnf
         ·refine Zc (Za t0 t1 t2 t3 (w64 (x139.1+1)) s0.2.1 (w64 (s0.2.2.1-1)) x139.2 m1_0 m1_1 m1_2 m1_3 m1_4 m1_5) (hrc t0 t1 t2 t3 (w64 (x139.1+1)) s0.2.1 (w64 (s0.2.2.1-1)) x139.2 m1_0 m1_1 m1_2 m1_3 m1_4 m1_5) fun x142 hx142=>?_;conv=>arg 3;whnf
          exact Zd (ih _)
         ·refine Zc (Za t0 t1 t2 t3 (w64 (x139.1+1)) s0.2.1 (w64 (s0.2.2.1-1)) x139.2 m1_0 m1_1 m1_2 m1_3 m1_4 m1_5) (hrc t0 t1 t2 t3 (w64 (x139.1+1)) s0.2.1 (w64 (s0.2.2.1-1)) x139.2 m1_0 m1_1 m1_2 m1_3 m1_4 m1_5) fun x143 hx143=>?_;conv=>arg 3;whnf
          exact Zd (ih _)
       ·conv=>arg 3;whnf
        refine ZO rfl ?_;conv=>arg 3;whnf
        refine ZO rfl ?_;conv=>arg 3;whnf
        refine Zg rfl ?_ ?_<;>conv=>arg 3;whnf
        ·refine Zg rfl ?_ ?_<;>conv=>arg 3;whnf
         ·refine Zc (Za t0 t1 t2 t3 s0.1 x139.1 (w64 (s0.2.2.1-1)) x139.2 m1_0 m1_1 m1_2 m1_3 m1_4 m1_5) (hrc t0 t1 t2 t3 s0.1 x139.1 (w64 (s0.2.2.1-1)) x139.2 m1_0 m1_1 m1_2 m1_3 m1_4 m1_5) fun x144 hx144=>?_;conv=>arg 3;whnf
          exact Zd (ih _)
         ·refine Zc (Za t0 t1 t2 t3 s0.1 x139.1 (w64 (s0.2.2.1-1)) x139.2 m1_0 m1_1 m1_2 m1_3 m1_4 m1_5) (hrc t0 t1 t2 t3 s0.1 x139.1 (w64 (s0.2.2.1-1)) x139.2 m1_0 m1_1 m1_2 m1_3 m1_4 m1_5) fun x145 hx145=>?_;conv=>arg 3;whnf
          exact Zd (ih _)
        ·refine Zg rfl ?_ ?_<;>conv=>arg 3;whnf
         ·refine Zc (Za t0 t1 t2 t3 (w64 (x139.1+1)) s0.2.1 (w64 (s0.2.2.1-1)) x139.2 m1_0 m1_1 m1_2 m1_3 m1_4 m1_5) (hrc t0 t1 t2 t3 (w64 (x139.1+1)) s0.2.1 (w64 (s0.2.2.1-1)) x139.2 m1_0 m1_1 m1_2 m1_3 m1_4 m1_5) fun x146 hx146=>?_;conv=>arg 3;whnf
          exact Zd (ih _)
         ·refine Zc (Za t0 t1 t2 t3 (w64 (x139.1+1)) s0.2.1 (w64 (s0.2.2.1-1)) x139.2 m1_0 m1_1 m1_2 m1_3 m1_4 m1_5) (hrc t0 t1 t2 t3 (w64 (x139.1+1)) s0.2.1 (w64 (s0.2.2.1-1)) x139.2 m1_0 m1_1 m1_2 m1_3 m1_4 m1_5) fun x147 hx147=>?_;conv=>arg 3;whnf
          exact Zd (ih _)
     ·refine Zg rfl ?_ ?_<;>conv=>arg 3;whnf
      ·refine Zj rfl rfl fun x148 hx148=>?_;conv=>arg 3;whnf
       refine Zf (Zl rfl hx148) ?_;conv=>arg 3;whnf
       refine Zj rfl rfl fun x149 hx149=>?_;conv=>arg 3;whnf
       refine Zf (Zl rfl hx149) ?_;conv=>arg 3;whnf
       refine Zr _ ZN rfl fun x150 hx150=>?_;conv=>arg 3;whnf
       refine Zg rfl ?_ ?_<;>conv=>arg 3;whnf
       ·refine Zc _ Zm fun x151 hx151=>?_
        clear hx151
        rcases x151 with x151 | x151
        ·conv=>arg 3;whnf
         refine Zbx rfl ?_;conv=>arg 3;whnf
         refine ZO rfl ?_;conv=>arg 3;whnf
         refine Zg rfl ?_ ?_<;>conv=>arg 3;whnf
         ·refine Zg rfl ?_ ?_<;>conv=>arg 3;whnf
          ·refine Zc (Za t0 t1 t2 t3 s0.1 x151.1 (w64 (s0.2.2.1-1)) x151.2 m1_0 m1_1 m1_2 m1_3 m1_4 m1_5) (hrc t0 t1 t2 t3 s0.1 x151.1 (w64 (s0.2.2.1-1)) x151.2 m1_0 m1_1 m1_2 m1_3 m1_4 m1_5) fun x152 hx152=>?_;conv=>arg 3;whnf
           exact Zd (ih _)
          ·refine Zc (Za t0 t1 t2 t3 s0.1 x151.1 (w64 (s0.2.2.1-1)) x151.2 m1_0 m1_1 m1_2 m1_3 m1_4 m1_5) (hrc t0 t1 t2 t3 s0.1 x151.1 (w64 (s0.2.2.1-1)) x151.2 m1_0 m1_1 m1_2 m1_3 m1_4 m1_5) fun x153 hx153=>?_;conv=>arg 3;whnf
           exact Zd (ih _)
         ·refine Zg rfl ?_ ?_<;>conv=>arg 3;whnf
          ·refine Zc (Za t0 t1 t2 t3 (w64 (x151.1+1)) s0.2.1 (w64 (s0.2.2.1-1)) x151.2 m1_0 m1_1 m1_2 m1_3 m1_4 m1_5) (hrc t0 t1 t2 t3 (w64 (x151.1+1)) s0.2.1 (w64 (s0.2.2.1-1)) x151.2 m1_0 m1_1 m1_2 m1_3 m1_4 m1_5) fun x154 hx154=>?_;conv=>arg 3;whnf
           exact Zd (ih _)
          ·refine Zc (Za t0 t1 t2 t3 (w64 (x151.1+1)) s0.2.1 (w64 (s0.2.2.1-1)) x151.2 m1_0 m1_1 m1_2 m1_3 m1_4 m1_5) (hrc t0 t1 t2 t3 (w64 (x151.1+1)) s0.2.1 (w64 (s0.2.2.1-1)) x151.2 m1_0 m1_1 m1_2 m1_3 m1_4 m1_5) fun x155 hx155=>?_;conv=>arg 3;whnf
           exact Zd (ih _)
        ·conv=>arg 3;whnf
         refine ZO rfl ?_;conv=>arg 3;whnf
         refine ZO rfl ?_;conv=>arg 3;whnf
         refine Zg rfl ?_ ?_<;>conv=>arg 3;whnf
         ·refine Zg rfl ?_ ?_<;>conv=>arg 3;whnf
          ·refine Zc (Za t0 t1 t2 t3 s0.1 x151.1 (w64 (s0.2.2.1-1)) x151.2 m1_0 m1_1 m1_2 m1_3 m1_4 m1_5) (hrc t0 t1 t2 t3 s0.1 x151.1 (w64 (s0.2.2.1-1)) x151.2 m1_0 m1_1 m1_2 m1_3 m1_4 m1_5) fun x156 hx156=>?_;conv=>arg 3;whnf
           exact Zd (ih _)
          ·refine Zc (Za t0 t1 t2 t3 s0.1 x151.1 (w64 (s0.2.2.1-1)) x151.2 m1_0 m1_1 m1_2 m1_3 m1_4 m1_5) (hrc t0 t1 t2 t3 s0.1 x151.1 (w64 (s0.2.2.1-1)) x151.2 m1_0 m1_1 m1_2 m1_3 m1_4 m1_5) fun x157 hx157=>?_;conv=>arg 3;whnf
           exact Zd (ih _)
         ·refine Zg rfl ?_ ?_<;>conv=>arg 3;whnf
          ·refine Zc (Za t0 t1 t2 t3 (w64 (x151.1+1)) s0.2.1 (w64 (s0.2.2.1-1)) x151.2 m1_0 m1_1 m1_2 m1_3 m1_4 m1_5) (hrc t0 t1 t2 t3 (w64 (x151.1+1)) s0.2.1 (w64 (s0.2.2.1-1)) x151.2 m1_0 m1_1 m1_2 m1_3 m1_4 m1_5) fun x158 hx158=>?_;conv=>arg 3;whnf
           exact Zd (ih _)
          ·refine Zc (Za t0 t1 t2 t3 (w64 (x151.1+1)) s0.2.1 (w64 (s0.2.2.1-1)) x151.2 m1_0 m1_1 m1_2 m1_3 m1_4 m1_5) (hrc t0 t1 t2 t3 (w64 (x151.1+1)) s0.2.1 (w64 (s0.2.2.1-1)) x151.2 m1_0 m1_1 m1_2 m1_3 m1_4 m1_5) fun x159 hx159=>?_;conv=>arg 3;whnf
           exact Zd (ih _)
       ·refine Zc _ ZE fun x160 hx160=>?_;conv=>arg 3;whnf
        exact Zd (ih _)
      ·refine Zc _ Zm fun x161 hx161=>?_
       clear hx161
       rcases x161 with x161 | x161
       ·conv=>arg 3;whnf
        refine Zbx rfl ?_;conv=>arg 3;whnf
        refine ZO rfl ?_;conv=>arg 3;whnf
        refine Zg rfl ?_ ?_<;>conv=>arg 3;whnf
        ·refine Zg rfl ?_ ?_<;>conv=>arg 3;whnf
         ·refine Zc (Za t0 t1 t2 t3 s0.1 x161.1 (w64 (s0.2.2.1-1)) x161.2 m1_0 m1_1 m1_2 m1_3 m1_4 m1_5) (hrc t0 t1 t2 t3 s0.1 x161.1 (w64 (s0.2.2.1-1)) x161.2 m1_0 m1_1 m1_2 m1_3 m1_4 m1_5) fun x162 hx162=>?_;conv=>arg 3;whnf
          exact Zd (ih _)
         ·refine Zc (Za t0 t1 t2 t3 s0.1 x161.1 (w64 (s0.2.2.1-1)) x161.2 m1_0 m1_1 m1_2 m1_3 m1_4 m1_5) (hrc t0 t1 t2 t3 s0.1 x161.1 (w64 (s0.2.2.1-1)) x161.2 m1_0 m1_1 m1_2 m1_3 m1_4 m1_5) fun x163 hx163=>?_;conv=>arg 3;whnf
          exact Zd (ih _)
        ·refine Zg rfl ?_ ?_<;>conv=>arg 3;whnf
         ·refine Zc (Za t0 t1 t2 t3 (w64 (x161.1+1)) s0.2.1 (w64 (s0.2.2.1-1)) x161.2 m1_0 m1_1 m1_2 m1_3 m1_4 m1_5) (hrc t0 t1 t2 t3 (w64 (x161.1+1)) s0.2.1 (w64 (s0.2.2.1-1)) x161.2 m1_0 m1_1 m1_2 m1_3 m1_4 m1_5) fun x164 hx164=>?_;conv=>arg 3;whnf
          exact Zd (ih _)
         ·refine Zc (Za t0 t1 t2 t3 (w64 (x161.1+1)) s0.2.1 (w64 (s0.2.2.1-1)) x161.2 m1_0 m1_1 m1_2 m1_3 m1_4 m1_5) (hrc t0 t1 t2 t3 (w64 (x161.1+1)) s0.2.1 (w64 (s0.2.2.1-1)) x161.2 m1_0 m1_1 m1_2 m1_3 m1_4 m1_5) fun x165 hx165=>?_;conv=>arg 3;whnf
          exact Zd (ih _)
       ·conv=>arg 3;whnf
        refine ZO rfl ?_;conv=>arg 3;whnf
        refine ZO rfl ?_;conv=>arg 3;whnf
        refine Zg rfl ?_ ?_<;>conv=>arg 3;whnf
        ·refine Zg rfl ?_ ?_<;>conv=>arg 3;whnf
         ·refine Zc (Za t0 t1 t2 t3 s0.1 x161.1 (w64 (s0.2.2.1-1)) x161.2 m1_0 m1_1 m1_2 m1_3 m1_4 m1_5) (hrc t0 t1 t2 t3 s0.1 x161.1 (w64 (s0.2.2.1-1)) x161.2 m1_0 m1_1 m1_2 m1_3 m1_4 m1_5) fun x166 hx166=>?_;conv=>arg 3;whnf
          exact Zd (ih _)
         ·refine Zc (Za t0 t1 t2 t3 s0.1 x161.1 (w64 (s0.2.2.1-1)) x161.2 m1_0 m1_1 m1_2 m1_3 m1_4 m1_5) (hrc t0 t1 t2 t3 s0.1 x161.1 (w64 (s0.2.2.1-1)) x161.2 m1_0 m1_1 m1_2 m1_3 m1_4 m1_5) fun x167 hx167=>?_;conv=>arg 3;whnf
          exact Zd (ih _)
        ·refine Zg rfl ?_ ?_<;>conv=>arg 3;whnf
         ·refine Zc (Za t0 t1 t2 t3 (w64 (x161.1+1)) s0.2.1 (w64 (s0.2.2.1-1)) x161.2 m1_0 m1_1 m1_2 m1_3 m1_4 m1_5) (hrc t0 t1 t2 t3 (w64 (x161.1+1)) s0.2.1 (w64 (s0.2.2.1-1)) x161.2 m1_0 m1_1 m1_2 m1_3 m1_4 m1_5) fun x168 hx168=>?_;conv=>arg 3;whnf
          exact Zd (ih _)
         ·refine Zc (Za t0 t1 t2 t3 (w64 (x161.1+1)) s0.2.1 (w64 (s0.2.2.1-1)) x161.2 m1_0 m1_1 m1_2 m1_3 m1_4 m1_5) (hrc t0 t1 t2 t3 (w64 (x161.1+1)) s0.2.1 (w64 (s0.2.2.1-1)) x161.2 m1_0 m1_1 m1_2 m1_3 m1_4 m1_5) fun x169 hx169=>?_;conv=>arg 3;whnf
          exact Zd (ih _)
 ·refine ZnO ?_
  rcases hb:s0.2.2.2.2.1 with _ | _
  ·refine Zn7 ?_;conv=>arg 3;whnf
   refine Zg rfl ?_ ?_<;>conv=>arg 3;whnf
   ·refine Zc _ ZaO fun x73 hx73=>?_;conv=>arg 3;whnf
    exact Zh rfl
   ·refine Zg rfl ?_ ?_<;>conv=>arg 3;whnf
    ·refine Zc _ Za9 fun x74 hx74=>?_;conv=>arg 3;whnf
     exact Zh rfl
    ·refine Zc _ ZaV fun x75 hx75=>?_;conv=>arg 3;whnf
     refine Zg rfl ?_ ?_<;>conv=>arg 3;whnf
     ·refine Zc _ ZaU fun x76 hx76=>?_;conv=>arg 3;whnf
      refine Zg rfl ?_ ?_<;>conv=>arg 3;whnf
      ·refine Zj rfl rfl fun x77 hx77=>?_;conv=>arg 3;whnf
       refine Zf (Zl rfl hx77) ?_;conv=>arg 3;whnf
       refine Zj rfl rfl fun x78 hx78=>?_;conv=>arg 3;whnf
       refine Zf (Zl rfl hx78) ?_;conv=>arg 3;whnf
       refine Zr _ ZN rfl fun x79 hx79=>?_;conv=>arg 3;whnf
       refine Zg rfl ?_ ?_<;>conv=>arg 3;whnf
       ·refine Zc _ Zm fun x80 hx80=>?_
        clear hx80
        rcases x80 with x80 | x80
        ·conv=>arg 3;whnf
         refine Zbx rfl ?_;conv=>arg 3;whnf
         refine ZO rfl ?_;conv=>arg 3;whnf
         refine Zg rfl ?_ ?_<;>conv=>arg 3;whnf
         ·refine Zg rfl ?_ ?_<;>conv=>arg 3;whnf
          ·refine Zc (Za t0 t1 t2 t3 s0.1 x80.1 s0.2.2.1 x80.2 m1_0 m1_1 m1_2 m1_3 m1_4 m1_5) (hrc t0 t1 t2 t3 s0.1 x80.1 s0.2.2.1 x80.2 m1_0 m1_1 m1_2 m1_3 m1_4 m1_5) fun x81 hx81=>?_;conv=>arg 3;whnf
           exact Zd (ih _)
          ·refine Zc (Za t0 t1 t2 t3 s0.1 x80.1 s0.2.2.1 x80.2 m1_0 m1_1 m1_2 m1_3 m1_4 m1_5) (hrc t0 t1 t2 t3 s0.1 x80.1 s0.2.2.1 x80.2 m1_0 m1_1 m1_2 m1_3 m1_4 m1_5) fun x82 hx82=>?_;conv=>arg 3;whnf
           exact Zd (ih _)
         ·refine Zg rfl ?_ ?_<;>conv=>arg 3;whnf
          ·refine Zc (Za t0 t1 t2 t3 (w64 (x80.1+1)) s0.2.1 s0.2.2.1 x80.2 m1_0 m1_1 m1_2 m1_3 m1_4 m1_5) (hrc t0 t1 t2 t3 (w64 (x80.1+1)) s0.2.1 s0.2.2.1 x80.2 m1_0 m1_1 m1_2 m1_3 m1_4 m1_5) fun x83 hx83=>?_;conv=>arg 3;whnf
           exact Zd (ih _)
          ·refine Zc (Za t0 t1 t2 t3 (w64 (x80.1+1)) s0.2.1 s0.2.2.1 x80.2 m1_0 m1_1 m1_2 m1_3 m1_4 m1_5) (hrc t0 t1 t2 t3 (w64 (x80.1+1)) s0.2.1 s0.2.2.1 x80.2 m1_0 m1_1 m1_2 m1_3 m1_4 m1_5) fun x84 hx84=>?_;conv=>arg 3;whnf
           exact Zd (ih _)
        ·conv=>arg 3;whnf
         refine ZO rfl ?_;conv=>arg 3;whnf
         refine ZO rfl ?_;conv=>arg 3;whnf
         refine Zg rfl ?_ ?_<;>conv=>arg 3;whnf
         ·refine Zg rfl ?_ ?_<;>conv=>arg 3;whnf
          ·refine Zc (Za t0 t1 t2 t3 s0.1 x80.1 s0.2.2.1 x80.2 m1_0 m1_1 m1_2 m1_3 m1_4 m1_5) (hrc t0 t1 t2 t3 s0.1 x80.1 s0.2.2.1 x80.2 m1_0 m1_1 m1_2 m1_3 m1_4 m1_5) fun x85 hx85=>?_;conv=>arg 3;whnf
           exact Zd (ih _)
          ·refine Zc (Za t0 t1 t2 t3 s0.1 x80.1 s0.2.2.1 x80.2 m1_0 m1_1 m1_2 m1_3 m1_4 m1_5) (hrc t0 t1 t2 t3 s0.1 x80.1 s0.2.2.1 x80.2 m1_0 m1_1 m1_2 m1_3 m1_4 m1_5) fun x86 hx86=>?_;conv=>arg 3;whnf
           exact Zd (ih _)
         ·refine Zg rfl ?_ ?_<;>conv=>arg 3;whnf
          ·refine Zc (Za t0 t1 t2 t3 (w64 (x80.1+1)) s0.2.1 s0.2.2.1 x80.2 m1_0 m1_1 m1_2 m1_3 m1_4 m1_5) (hrc t0 t1 t2 t3 (w64 (x80.1+1)) s0.2.1 s0.2.2.1 x80.2 m1_0 m1_1 m1_2 m1_3 m1_4 m1_5) fun x87 hx87=>?_;conv=>arg 3;whnf
           exact Zd (ih _)
          ·refine Zc (Za t0 t1 t2 t3 (w64 (x80.1+1)) s0.2.1 s0.2.2.1 x80.2 m1_0 m1_1 m1_2 m1_3 m1_4 m1_5) (hrc t0 t1 t2 t3 (w64 (x80.1+1)) s0.2.1 s0.2.2.1 x80.2 m1_0 m1_1 m1_2 m1_3 m1_4 m1_5) fun x88 hx88=>?_;conv=>arg 3;whnf
           exact Zd (ih _)
       ·refine Zc _ ZE fun x89 hx89=>?_;conv=>arg 3;whnf
        exact Zd (ih _)
      ·refine Zc _ Zm fun x90 hx90=>?_
       clear hx90
       rcases x90 with x90 | x90
       ·conv=>arg 3;whnf
        refine Zbx rfl ?_;conv=>arg 3;whnf
        refine ZO rfl ?_;conv=>arg 3;whnf
        refine Zg rfl ?_ ?_<;>conv=>arg 3;whnf
        ·refine Zg rfl ?_ ?_<;>conv=>arg 3;whnf
         ·refine Zc (Za t0 t1 t2 t3 s0.1 x90.1 s0.2.2.1 x90.2 m1_0 m1_1 m1_2 m1_3 m1_4 m1_5) (hrc t0 t1 t2 t3 s0.1 x90.1 s0.2.2.1 x90.2 m1_0 m1_1 m1_2 m1_3 m1_4 m1_5) fun x91 hx91=>?_;conv=>arg 3;whnf
          exact Zd (ih _)
         ·refine Zc (Za t0 t1 t2 t3 s0.1 x90.1 s0.2.2.1 x90.2 m1_0 m1_1 m1_2 m1_3 m1_4 m1_5) (hrc t0 t1 t2 t3 s0.1 x90.1 s0.2.2.1 x90.2 m1_0 m1_1 m1_2 m1_3 m1_4 m1_5) fun x92 hx92=>?_;conv=>arg 3;whnf
          exact Zd (ih _)
        ·refine Zg rfl ?_ ?_<;>conv=>arg 3;whnf
         ·refine Zc (Za t0 t1 t2 t3 (w64 (x90.1+1)) s0.2.1 s0.2.2.1 x90.2 m1_0 m1_1 m1_2 m1_3 m1_4 m1_5) (hrc t0 t1 t2 t3 (w64 (x90.1+1)) s0.2.1 s0.2.2.1 x90.2 m1_0 m1_1 m1_2 m1_3 m1_4 m1_5) fun x93 hx93=>?_;conv=>arg 3;whnf
          exact Zd (ih _)
         ·refine Zc (Za t0 t1 t2 t3 (w64 (x90.1+1)) s0.2.1 s0.2.2.1 x90.2 m1_0 m1_1 m1_2 m1_3 m1_4 m1_5) (hrc t0 t1 t2 t3 (w64 (x90.1+1)) s0.2.1 s0.2.2.1 x90.2 m1_0 m1_1 m1_2 m1_3 m1_4 m1_5) fun x94 hx94=>?_;conv=>arg 3;whnf
          exact Zd (ih _)
       ·conv=>arg 3;whnf
        refine ZO rfl ?_;conv=>arg 3;whnf
        refine ZO rfl ?_;conv=>arg 3;whnf
        refine Zg rfl ?_ ?_<;>conv=>arg 3;whnf
        ·refine Zg rfl ?_ ?_<;>conv=>arg 3;whnf
         ·refine Zc (Za t0 t1 t2 t3 s0.1 x90.1 s0.2.2.1 x90.2 m1_0 m1_1 m1_2 m1_3 m1_4 m1_5) (hrc t0 t1 t2 t3 s0.1 x90.1 s0.2.2.1 x90.2 m1_0 m1_1 m1_2 m1_3 m1_4 m1_5) fun x95 hx95=>?_;conv=>arg 3;whnf
          exact Zd (ih _)
         ·refine Zc (Za t0 t1 t2 t3 s0.1 x90.1 s0.2.2.1 x90.2 m1_0 m1_1 m1_2 m1_3 m1_4 m1_5) (hrc t0 t1 t2 t3 s0.1 x90.1 s0.2.2.1 x90.2 m1_0 m1_1 m1_2 m1_3 m1_4 m1_5) fun x96 hx96=>?_;conv=>arg 3;whnf
          exact Zd (ih _)
        ·refine Zg rfl ?_ ?_<;>conv=>arg 3;whnf
         ·refine Zc (Za t0 t1 t2 t3 (w64 (x90.1+1)) s0.2.1 s0.2.2.1 x90.2 m1_0 m1_1 m1_2 m1_3 m1_4 m1_5) (hrc t0 t1 t2 t3 (w64 (x90.1+1)) s0.2.1 s0.2.2.1 x90.2 m1_0 m1_1 m1_2 m1_3 m1_4 m1_5) fun x97 hx97=>?_;conv=>arg 3;whnf
          exact Zd (ih _)
         ·refine Zc (Za t0 t1 t2 t3 (w64 (x90.1+1)) s0.2.1 s0.2.2.1 x90.2 m1_0 m1_1 m1_2 m1_3 m1_4 m1_5) (hrc t0 t1 t2 t3 (w64 (x90.1+1)) s0.2.1 s0.2.2.1 x90.2 m1_0 m1_1 m1_2 m1_3 m1_4 m1_5) fun x98 hx98=>?_;conv=>arg 3;whnf
          exact Zd (ih _)
     ·refine Zg rfl ?_ ?_<;>conv=>arg 3;whnf
      ·refine Zj rfl rfl fun x99 hx99=>?_;conv=>arg 3;whnf
       refine Zf (Zl rfl hx99) ?_;conv=>arg 3;whnf
       refine Zj rfl rfl fun x100 hx100=>?_;conv=>arg 3;whnf
       refine Zf (Zl rfl hx100) ?_;conv=>arg 3;whnf
       refine Zr _ ZN rfl fun x101 hx101=>?_;conv=>arg 3;whnf
       refine Zg rfl ?_ ?_<;>conv=>arg 3;whnf
       ·refine Zc _ Zm fun x102 hx102=>?_
        clear hx102
        rcases x102 with x102 | x102
        ·conv=>arg 3;whnf
         refine Zbx rfl ?_;conv=>arg 3;whnf
         refine ZO rfl ?_;conv=>arg 3;whnf
         refine Zg rfl ?_ ?_<;>conv=>arg 3;whnf
         ·refine Zg rfl ?_ ?_<;>conv=>arg 3;whnf
          ·refine Zc (Za t0 t1 t2 t3 s0.1 x102.1 s0.2.2.1 x102.2 m1_0 m1_1 m1_2 m1_3 m1_4 m1_5) (hrc t0 t1 t2 t3 s0.1 x102.1 s0.2.2.1 x102.2 m1_0 m1_1 m1_2 m1_3 m1_4 m1_5) fun x103 hx103=>?_;conv=>arg 3;whnf
           exact Zd (ih _)
          ·refine Zc (Za t0 t1 t2 t3 s0.1 x102.1 s0.2.2.1 x102.2 m1_0 m1_1 m1_2 m1_3 m1_4 m1_5) (hrc t0 t1 t2 t3 s0.1 x102.1 s0.2.2.1 x102.2 m1_0 m1_1 m1_2 m1_3 m1_4 m1_5) fun x104 hx104=>?_;conv=>arg 3;whnf
           exact Zd (ih _)
         ·refine Zg rfl ?_ ?_<;>conv=>arg 3;whnf
          ·refine Zc (Za t0 t1 t2 t3 (w64 (x102.1+1)) s0.2.1 s0.2.2.1 x102.2 m1_0 m1_1 m1_2 m1_3 m1_4 m1_5) (hrc t0 t1 t2 t3 (w64 (x102.1+1)) s0.2.1 s0.2.2.1 x102.2 m1_0 m1_1 m1_2 m1_3 m1_4 m1_5) fun x105 hx105=>?_;conv=>arg 3;whnf
           exact Zd (ih _)
          ·refine Zc (Za t0 t1 t2 t3 (w64 (x102.1+1)) s0.2.1 s0.2.2.1 x102.2 m1_0 m1_1 m1_2 m1_3 m1_4 m1_5) (hrc t0 t1 t2 t3 (w64 (x102.1+1)) s0.2.1 s0.2.2.1 x102.2 m1_0 m1_1 m1_2 m1_3 m1_4 m1_5) fun x106 hx106=>?_;conv=>arg 3;whnf
           exact Zd (ih _)
        ·conv=>arg 3;whnf
         refine ZO rfl ?_;conv=>arg 3;whnf
         refine ZO rfl ?_;conv=>arg 3;whnf
         refine Zg rfl ?_ ?_<;>conv=>arg 3;whnf
         ·refine Zg rfl ?_ ?_<;>conv=>arg 3;whnf
          ·refine Zc (Za t0 t1 t2 t3 s0.1 x102.1 s0.2.2.1 x102.2 m1_0 m1_1 m1_2 m1_3 m1_4 m1_5) (hrc t0 t1 t2 t3 s0.1 x102.1 s0.2.2.1 x102.2 m1_0 m1_1 m1_2 m1_3 m1_4 m1_5) fun x107 hx107=>?_;conv=>arg 3;whnf
           exact Zd (ih _)
          ·refine Zc (Za t0 t1 t2 t3 s0.1 x102.1 s0.2.2.1 x102.2 m1_0 m1_1 m1_2 m1_3 m1_4 m1_5) (hrc t0 t1 t2 t3 s0.1 x102.1 s0.2.2.1 x102.2 m1_0 m1_1 m1_2 m1_3 m1_4 m1_5) fun x108 hx108=>?_;conv=>arg 3;whnf
           exact Zd (ih _)
         ·refine Zg rfl ?_ ?_<;>conv=>arg 3;whnf
          ·refine Zc (Za t0 t1 t2 t3 (w64 (x102.1+1)) s0.2.1 s0.2.2.1 x102.2 m1_0 m1_1 m1_2 m1_3 m1_4 m1_5) (hrc t0 t1 t2 t3 (w64 (x102.1+1)) s0.2.1 s0.2.2.1 x102.2 m1_0 m1_1 m1_2 m1_3 m1_4 m1_5) fun x109 hx109=>?_;conv=>arg 3;whnf
           exact Zd (ih _)
          ·refine Zc (Za t0 t1 t2 t3 (w64 (x102.1+1)) s0.2.1 s0.2.2.1 x102.2 m1_0 m1_1 m1_2 m1_3 m1_4 m1_5) (hrc t0 t1 t2 t3 (w64 (x102.1+1)) s0.2.1 s0.2.2.1 x102.2 m1_0 m1_1 m1_2 m1_3 m1_4 m1_5) fun x110 hx110=>?_;conv=>arg 3;whnf
           exact Zd (ih _)
       ·refine Zc _ ZE fun x111 hx111=>?_;conv=>arg 3;whnf
        exact Zd (ih _)
      ·refine Zc _ Zm fun x112 hx112=>?_
       clear hx112
       rcases x112 with x112 | x112
       ·conv=>arg 3;whnf
        refine Zbx rfl ?_;conv=>arg 3;whnf
        refine ZO rfl ?_;conv=>arg 3;whnf
        refine Zg rfl ?_ ?_<;>conv=>arg 3;whnf
        ·refine Zg rfl ?_ ?_<;>conv=>arg 3;whnf
         ·refine Zc (Za t0 t1 t2 t3 s0.1 x112.1 s0.2.2.1 x112.2 m1_0 m1_1 m1_2 m1_3 m1_4 m1_5) (hrc t0 t1 t2 t3 s0.1 x112.1 s0.2.2.1 x112.2 m1_0 m1_1 m1_2 m1_3 m1_4 m1_5) fun x113 hx113=>?_;conv=>arg 3;whnf
          exact Zd (ih _)
         ·refine Zc (Za t0 t1 t2 t3 s0.1 x112.1 s0.2.2.1 x112.2 m1_0 m1_1 m1_2 m1_3 m1_4 m1_5) (hrc t0 t1 t2 t3 s0.1 x112.1 s0.2.2.1 x112.2 m1_0 m1_1 m1_2 m1_3 m1_4 m1_5) fun x114 hx114=>?_;conv=>arg 3;whnf
          exact Zd (ih _)
        ·refine Zg rfl ?_ ?_<;>conv=>arg 3;whnf
         ·refine Zc (Za t0 t1 t2 t3 (w64 (x112.1+1)) s0.2.1 s0.2.2.1 x112.2 m1_0 m1_1 m1_2 m1_3 m1_4 m1_5) (hrc t0 t1 t2 t3 (w64 (x112.1+1)) s0.2.1 s0.2.2.1 x112.2 m1_0 m1_1 m1_2 m1_3 m1_4 m1_5) fun x115 hx115=>?_;conv=>arg 3;whnf
          exact Zd (ih _)
         ·refine Zc (Za t0 t1 t2 t3 (w64 (x112.1+1)) s0.2.1 s0.2.2.1 x112.2 m1_0 m1_1 m1_2 m1_3 m1_4 m1_5) (hrc t0 t1 t2 t3 (w64 (x112.1+1)) s0.2.1 s0.2.2.1 x112.2 m1_0 m1_1 m1_2 m1_3 m1_4 m1_5) fun x116 hx116=>?_;conv=>arg 3;whnf
          exact Zd (ih _)
       ·conv=>arg 3;whnf
        refine ZO rfl ?_;conv=>arg 3;whnf
        refine ZO rfl ?_;conv=>arg 3;whnf
        refine Zg rfl ?_ ?_<;>conv=>arg 3;whnf
        ·refine Zg rfl ?_ ?_<;>conv=>arg 3;whnf
         ·refine Zc (Za t0 t1 t2 t3 s0.1 x112.1 s0.2.2.1 x112.2 m1_0 m1_1 m1_2 m1_3 m1_4 m1_5) (hrc t0 t1 t2 t3 s0.1 x112.1 s0.2.2.1 x112.2 m1_0 m1_1 m1_2 m1_3 m1_4 m1_5) fun x117 hx117=>?_;conv=>arg 3;whnf
          exact Zd (ih _)
         ·refine Zc (Za t0 t1 t2 t3 s0.1 x112.1 s0.2.2.1 x112.2 m1_0 m1_1 m1_2 m1_3 m1_4 m1_5) (hrc t0 t1 t2 t3 s0.1 x112.1 s0.2.2.1 x112.2 m1_0 m1_1 m1_2 m1_3 m1_4 m1_5) fun x118 hx118=>?_;conv=>arg 3;whnf
          exact Zd (ih _)
        ·refine Zg rfl ?_ ?_<;>conv=>arg 3;whnf
         ·refine Zc (Za t0 t1 t2 t3 (w64 (x112.1+1)) s0.2.1 s0.2.2.1 x112.2 m1_0 m1_1 m1_2 m1_3 m1_4 m1_5) (hrc t0 t1 t2 t3 (w64 (x112.1+1)) s0.2.1 s0.2.2.1 x112.2 m1_0 m1_1 m1_2 m1_3 m1_4 m1_5) fun x119 hx119=>?_;conv=>arg 3;whnf
          exact Zd (ih _)
         ·refine Zc (Za t0 t1 t2 t3 (w64 (x112.1+1)) s0.2.1 s0.2.2.1 x112.2 m1_0 m1_1 m1_2 m1_3 m1_4 m1_5) (hrc t0 t1 t2 t3 (w64 (x112.1+1)) s0.2.1 s0.2.2.1 x112.2 m1_0 m1_1 m1_2 m1_3 m1_4 m1_5) fun x120 hx120=>?_;conv=>arg 3;whnf
          exact Zd (ih _)
  ·refine ZnO ?_;conv=>arg 3;whnf
   refine Zg rfl ?_ ?_<;>conv=>arg 3;whnf
   ·refine Zc _ ZaO fun x1 hx1=>?_;conv=>arg 3;whnf
    exact Zh rfl
   ·refine Zg rfl ?_ ?_<;>conv=>arg 3;whnf
    ·refine Zc _ Za9 fun x2 hx2=>?_;conv=>arg 3;whnf
     exact Zh rfl
    ·refine Zc _ ZaV fun x3 hx3=>?_;conv=>arg 3;whnf
     refine Zg rfl ?_ ?_<;>conv=>arg 3;whnf
     ·refine Zc _ ZaU fun x4 hx4=>?_;conv=>arg 3;whnf
      refine Zbx rfl ?_;conv=>arg 3;whnf
      refine Zc _ ZbZ fun x5 hx5=>?_
      clear hx5
      rcases x5 with x5 | x5
      ·conv=>arg 3;whnf
       exact Zh rfl
      ·conv=>arg 3;whnf
       refine Zg rfl ?_ ?_<;>conv=>arg 3;whnf
       ·refine Zj rfl rfl fun x6 hx6=>?_;conv=>arg 3;whnf
        refine Zf (Zl rfl hx6) ?_;conv=>arg 3;whnf
        refine Zj rfl rfl fun x7 hx7=>?_;conv=>arg 3;whnf
        refine Zf (Zl rfl hx7) ?_;conv=>arg 3;whnf
        refine Zr _ ZN rfl fun x8 hx8=>?_;conv=>arg 3;whnf
        refine Zg rfl ?_ ?_<;>conv=>arg 3;whnf
        ·refine Zc _ Zm fun x9 hx9=>?_
         clear hx9
         rcases x9 with x9 | x9
         ·conv=>arg 3;whnf
          refine Zbx rfl ?_;conv=>arg 3;whnf
          refine ZO rfl ?_;conv=>arg 3;whnf
          refine Zg rfl ?_ ?_<;>conv=>arg 3;whnf
          ·refine Zg rfl ?_ ?_<;>conv=>arg 3;whnf
           ·refine Zc (Za t0 t1 t2 t3 s0.1 x9.1 s0.2.2.1 x9.2 m1_0 m1_1 m1_2 m1_3 m1_4 m1_5) (hrc t0 t1 t2 t3 s0.1 x9.1 s0.2.2.1 x9.2 m1_0 m1_1 m1_2 m1_3 m1_4 m1_5) fun x10 hx10=>?_;conv=>arg 3;whnf
            exact Zd (ih _)
           ·refine Zc (Za t0 t1 t2 t3 s0.1 x9.1 s0.2.2.1 x9.2 m1_0 m1_1 m1_2 m1_3 m1_4 m1_5) (hrc t0 t1 t2 t3 s0.1 x9.1 s0.2.2.1 x9.2 m1_0 m1_1 m1_2 m1_3 m1_4 m1_5) fun x11 hx11=>?_;conv=>arg 3;whnf
            exact Zd (ih _)
          ·refine Zg rfl ?_ ?_<;>conv=>arg 3;whnf
           ·refine Zc (Za t0 t1 t2 t3 (w64 (x9.1+1)) s0.2.1 s0.2.2.1 x9.2 m1_0 m1_1 m1_2 m1_3 m1_4 m1_5) (hrc t0 t1 t2 t3 (w64 (x9.1+1)) s0.2.1 s0.2.2.1 x9.2 m1_0 m1_1 m1_2 m1_3 m1_4 m1_5) fun x12 hx12=>?_;conv=>arg 3;whnf
            exact Zd (ih _)
           ·refine Zc (Za t0 t1 t2 t3 (w64 (x9.1+1)) s0.2.1 s0.2.2.1 x9.2 m1_0 m1_1 m1_2 m1_3 m1_4 m1_5) (hrc t0 t1 t2 t3 (w64 (x9.1+1)) s0.2.1 s0.2.2.1 x9.2 m1_0 m1_1 m1_2 m1_3 m1_4 m1_5) fun x13 hx13=>?_;conv=>arg 3;whnf
            exact Zd (ih _)
         ·conv=>arg 3;whnf
          refine ZO rfl ?_;conv=>arg 3;whnf
          refine ZO rfl ?_;conv=>arg 3;whnf
          refine Zg rfl ?_ ?_<;>conv=>arg 3;whnf
          ·refine Zg rfl ?_ ?_<;>conv=>arg 3;whnf
           ·refine Zc (Za t0 t1 t2 t3 s0.1 x9.1 s0.2.2.1 x9.2 m1_0 m1_1 m1_2 m1_3 m1_4 m1_5) (hrc t0 t1 t2 t3 s0.1 x9.1 s0.2.2.1 x9.2 m1_0 m1_1 m1_2 m1_3 m1_4 m1_5) fun x14 hx14=>?_;conv=>arg 3;whnf
            exact Zd (ih _)
           ·refine Zc (Za t0 t1 t2 t3 s0.1 x9.1 s0.2.2.1 x9.2 m1_0 m1_1 m1_2 m1_3 m1_4 m1_5) (hrc t0 t1 t2 t3 s0.1 x9.1 s0.2.2.1 x9.2 m1_0 m1_1 m1_2 m1_3 m1_4 m1_5) fun x15 hx15=>?_;conv=>arg 3;whnf
            exact Zd (ih _)
          ·refine Zg rfl ?_ ?_<;>conv=>arg 3;whnf
           ·refine Zc (Za t0 t1 t2 t3 (w64 (x9.1+1)) s0.2.1 s0.2.2.1 x9.2 m1_0 m1_1 m1_2 m1_3 m1_4 m1_5) (hrc t0 t1 t2 t3 (w64 (x9.1+1)) s0.2.1 s0.2.2.1 x9.2 m1_0 m1_1 m1_2 m1_3 m1_4 m1_5) fun x16 hx16=>?_;conv=>arg 3;whnf
            exact Zd (ih _)
           ·refine Zc (Za t0 t1 t2 t3 (w64 (x9.1+1)) s0.2.1 s0.2.2.1 x9.2 m1_0 m1_1 m1_2 m1_3 m1_4 m1_5) (hrc t0 t1 t2 t3 (w64 (x9.1+1)) s0.2.1 s0.2.2.1 x9.2 m1_0 m1_1 m1_2 m1_3 m1_4 m1_5) fun x17 hx17=>?_;conv=>arg 3;whnf
            exact Zd (ih _)
        ·refine Zc _ ZE fun x18 hx18=>?_;conv=>arg 3;whnf
         exact Zd (ih _)
       ·refine Zc _ Zm fun x19 hx19=>?_
        clear hx19
        rcases x19 with x19 | x19
        ·conv=>arg 3;whnf
         refine Zbx rfl ?_;conv=>arg 3;whnf
         refine ZO rfl ?_;conv=>arg 3;whnf
         refine Zg rfl ?_ ?_<;>conv=>arg 3;whnf
         ·refine Zg rfl ?_ ?_<;>conv=>arg 3;whnf
          ·refine Zc (Za t0 t1 t2 t3 s0.1 x19.1 s0.2.2.1 x19.2 m1_0 m1_1 m1_2 m1_3 m1_4 m1_5) (hrc t0 t1 t2 t3 s0.1 x19.1 s0.2.2.1 x19.2 m1_0 m1_1 m1_2 m1_3 m1_4 m1_5) fun x20 hx20=>?_;conv=>arg 3;whnf
           exact Zd (ih _)
          ·refine Zc (Za t0 t1 t2 t3 s0.1 x19.1 s0.2.2.1 x19.2 m1_0 m1_1 m1_2 m1_3 m1_4 m1_5) (hrc t0 t1 t2 t3 s0.1 x19.1 s0.2.2.1 x19.2 m1_0 m1_1 m1_2 m1_3 m1_4 m1_5) fun x21 hx21=>?_;conv=>arg 3;whnf
           exact Zd (ih _)
         ·refine Zg rfl ?_ ?_<;>conv=>arg 3;whnf
          ·refine Zc (Za t0 t1 t2 t3 (w64 (x19.1+1)) s0.2.1 s0.2.2.1 x19.2 m1_0 m1_1 m1_2 m1_3 m1_4 m1_5) (hrc t0 t1 t2 t3 (w64 (x19.1+1)) s0.2.1 s0.2.2.1 x19.2 m1_0 m1_1 m1_2 m1_3 m1_4 m1_5) fun x22 hx22=>?_;conv=>arg 3;whnf
           exact Zd (ih _)
          ·refine Zc (Za t0 t1 t2 t3 (w64 (x19.1+1)) s0.2.1 s0.2.2.1 x19.2 m1_0 m1_1 m1_2 m1_3 m1_4 m1_5) (hrc t0 t1 t2 t3 (w64 (x19.1+1)) s0.2.1 s0.2.2.1 x19.2 m1_0 m1_1 m1_2 m1_3 m1_4 m1_5) fun x23 hx23=>?_;conv=>arg 3;whnf
           exact Zd (ih _)
        ·conv=>arg 3;whnf
         refine ZO rfl ?_;conv=>arg 3;whnf
         refine ZO rfl ?_;conv=>arg 3;whnf
         refine Zg rfl ?_ ?_<;>conv=>arg 3;whnf
         ·refine Zg rfl ?_ ?_<;>conv=>arg 3;whnf
          ·refine Zc (Za t0 t1 t2 t3 s0.1 x19.1 s0.2.2.1 x19.2 m1_0 m1_1 m1_2 m1_3 m1_4 m1_5) (hrc t0 t1 t2 t3 s0.1 x19.1 s0.2.2.1 x19.2 m1_0 m1_1 m1_2 m1_3 m1_4 m1_5) fun x24 hx24=>?_;conv=>arg 3;whnf
           exact Zd (ih _)
          ·refine Zc (Za t0 t1 t2 t3 s0.1 x19.1 s0.2.2.1 x19.2 m1_0 m1_1 m1_2 m1_3 m1_4 m1_5) (hrc t0 t1 t2 t3 s0.1 x19.1 s0.2.2.1 x19.2 m1_0 m1_1 m1_2 m1_3 m1_4 m1_5) fun x25 hx25=>?_;conv=>arg 3;whnf
           exact Zd (ih _)
         ·refine Zg rfl ?_ ?_<;>conv=>arg 3;whnf
          ·refine Zc (Za t0 t1 t2 t3 (w64 (x19.1+1)) s0.2.1 s0.2.2.1 x19.2 m1_0 m1_1 m1_2 m1_3 m1_4 m1_5) (hrc t0 t1 t2 t3 (w64 (x19.1+1)) s0.2.1 s0.2.2.1 x19.2 m1_0 m1_1 m1_2 m1_3 m1_4 m1_5) fun x26 hx26=>?_;conv=>arg 3;whnf
           exact Zd (ih _)
          ·refine Zc (Za t0 t1 t2 t3 (w64 (x19.1+1)) s0.2.1 s0.2.2.1 x19.2 m1_0 m1_1 m1_2 m1_3 m1_4 m1_5) (hrc t0 t1 t2 t3 (w64 (x19.1+1)) s0.2.1 s0.2.2.1 x19.2 m1_0 m1_1 m1_2 m1_3 m1_4 m1_5) fun x27 hx27=>?_;conv=>arg 3;whnf
           exact Zd (ih _)
     ·refine Zg rfl ?_ ?_<;>conv=>arg 3;whnf
      ·refine Zc _ ZbZ fun x28 hx28=>?_
       clear hx28
       rcases x28 with x28 | x28
       ·conv=>arg 3;whnf
        exact Zh rfl
       ·conv=>arg 3;whnf
        refine Zg rfl ?_ ?_<;>conv=>arg 3;whnf
        ·refine Zj rfl rfl fun x29 hx29=>?_;conv=>arg 3;whnf
         refine Zf (Zl rfl hx29) ?_;conv=>arg 3;whnf
         refine Zj rfl rfl fun x30 hx30=>?_;conv=>arg 3;whnf
         refine Zf (Zl rfl hx30) ?_;conv=>arg 3;whnf
         refine Zr _ ZN rfl fun x31 hx31=>?_;conv=>arg 3;whnf
         refine Zg rfl ?_ ?_<;>conv=>arg 3;whnf
         ·refine Zc _ Zm fun x32 hx32=>?_
          clear hx32
          rcases x32 with x32 | x32
          ·conv=>arg 3;whnf
           refine Zbx rfl ?_;conv=>arg 3;whnf
           refine ZO rfl ?_;conv=>arg 3;whnf
           refine Zg rfl ?_ ?_<;>conv=>arg 3;whnf
           ·refine Zg rfl ?_ ?_<;>conv=>arg 3;whnf
            ·refine Zc (Za t0 t1 t2 t3 s0.1 x32.1 s0.2.2.1 x32.2 m1_0 m1_1 m1_2 m1_3 m1_4 m1_5) (hrc t0 t1 t2 t3 s0.1 x32.1 s0.2.2.1 x32.2 m1_0 m1_1 m1_2 m1_3 m1_4 m1_5) fun x33 hx33=>?_;conv=>arg 3;whnf
             exact Zd (ih _)
            ·refine Zc (Za t0 t1 t2 t3 s0.1 x32.1 s0.2.2.1 x32.2 m1_0 m1_1 m1_2 m1_3 m1_4 m1_5) (hrc t0 t1 t2 t3 s0.1 x32.1 s0.2.2.1 x32.2 m1_0 m1_1 m1_2 m1_3 m1_4 m1_5) fun x34 hx34=>?_;conv=>arg 3;whnf
             exact Zd (ih _)
           ·refine Zg rfl ?_ ?_<;>conv=>arg 3;whnf
            ·refine Zc (Za t0 t1 t2 t3 (w64 (x32.1+1)) s0.2.1 s0.2.2.1 x32.2 m1_0 m1_1 m1_2 m1_3 m1_4 m1_5) (hrc t0 t1 t2 t3 (w64 (x32.1+1)) s0.2.1 s0.2.2.1 x32.2 m1_0 m1_1 m1_2 m1_3 m1_4 m1_5) fun x35 hx35=>?_;conv=>arg 3;whnf
             exact Zd (ih _)
            ·refine Zc (Za t0 t1 t2 t3 (w64 (x32.1+1)) s0.2.1 s0.2.2.1 x32.2 m1_0 m1_1 m1_2 m1_3 m1_4 m1_5) (hrc t0 t1 t2 t3 (w64 (x32.1+1)) s0.2.1 s0.2.2.1 x32.2 m1_0 m1_1 m1_2 m1_3 m1_4 m1_5) fun x36 hx36=>?_;conv=>arg 3;whnf
             exact Zd (ih _)
          ·conv=>arg 3;whnf
           refine ZO rfl ?_;conv=>arg 3;whnf
           refine ZO rfl ?_;conv=>arg 3;whnf
           refine Zg rfl ?_ ?_<;>conv=>arg 3;whnf
           ·refine Zg rfl ?_ ?_<;>conv=>arg 3;whnf
            ·refine Zc (Za t0 t1 t2 t3 s0.1 x32.1 s0.2.2.1 x32.2 m1_0 m1_1 m1_2 m1_3 m1_4 m1_5) (hrc t0 t1 t2 t3 s0.1 x32.1 s0.2.2.1 x32.2 m1_0 m1_1 m1_2 m1_3 m1_4 m1_5) fun x37 hx37=>?_;conv=>arg 3;whnf
             exact Zd (ih _)
            ·refine Zc (Za t0 t1 t2 t3 s0.1 x32.1 s0.2.2.1 x32.2 m1_0 m1_1 m1_2 m1_3 m1_4 m1_5) (hrc t0 t1 t2 t3 s0.1 x32.1 s0.2.2.1 x32.2 m1_0 m1_1 m1_2 m1_3 m1_4 m1_5) fun x38 hx38=>?_;conv=>arg 3;whnf
             exact Zd (ih _)
           ·refine Zg rfl ?_ ?_<;>conv=>arg 3;whnf
            ·refine Zc (Za t0 t1 t2 t3 (w64 (x32.1+1)) s0.2.1 s0.2.2.1 x32.2 m1_0 m1_1 m1_2 m1_3 m1_4 m1_5) (hrc t0 t1 t2 t3 (w64 (x32.1+1)) s0.2.1 s0.2.2.1 x32.2 m1_0 m1_1 m1_2 m1_3 m1_4 m1_5) fun x39 hx39=>?_;conv=>arg 3;whnf
             exact Zd (ih _)
            ·refine Zc (Za t0 t1 t2 t3 (w64 (x32.1+1)) s0.2.1 s0.2.2.1 x32.2 m1_0 m1_1 m1_2 m1_3 m1_4 m1_5) (hrc t0 t1 t2 t3 (w64 (x32.1+1)) s0.2.1 s0.2.2.1 x32.2 m1_0 m1_1 m1_2 m1_3 m1_4 m1_5) fun x40 hx40=>?_;conv=>arg 3;whnf
             exact Zd (ih _)
         ·refine Zc _ ZE fun x41 hx41=>?_;conv=>arg 3;whnf
          exact Zd (ih _)
        ·refine Zc _ Zm fun x42 hx42=>?_
         clear hx42
         rcases x42 with x42 | x42
         ·conv=>arg 3;whnf
          refine Zbx rfl ?_;conv=>arg 3;whnf
          refine ZO rfl ?_;conv=>arg 3;whnf
          refine Zg rfl ?_ ?_<;>conv=>arg 3;whnf
          ·refine Zg rfl ?_ ?_<;>conv=>arg 3;whnf
           ·refine Zc (Za t0 t1 t2 t3 s0.1 x42.1 s0.2.2.1 x42.2 m1_0 m1_1 m1_2 m1_3 m1_4 m1_5) (hrc t0 t1 t2 t3 s0.1 x42.1 s0.2.2.1 x42.2 m1_0 m1_1 m1_2 m1_3 m1_4 m1_5) fun x43 hx43=>?_;conv=>arg 3;whnf
            exact Zd (ih _)
           ·refine Zc (Za t0 t1 t2 t3 s0.1 x42.1 s0.2.2.1 x42.2 m1_0 m1_1 m1_2 m1_3 m1_4 m1_5) (hrc t0 t1 t2 t3 s0.1 x42.1 s0.2.2.1 x42.2 m1_0 m1_1 m1_2 m1_3 m1_4 m1_5) fun x44 hx44=>?_;conv=>arg 3;whnf
            exact Zd (ih _)
          ·refine Zg rfl ?_ ?_<;>conv=>arg 3;whnf
           ·refine Zc (Za t0 t1 t2 t3 (w64 (x42.1+1)) s0.2.1 s0.2.2.1 x42.2 m1_0 m1_1 m1_2 m1_3 m1_4 m1_5) (hrc t0 t1 t2 t3 (w64 (x42.1+1)) s0.2.1 s0.2.2.1 x42.2 m1_0 m1_1 m1_2 m1_3 m1_4 m1_5) fun x45 hx45=>?_;conv=>arg 3;whnf
            exact Zd (ih _)
           ·refine Zc (Za t0 t1 t2 t3 (w64 (x42.1+1)) s0.2.1 s0.2.2.1 x42.2 m1_0 m1_1 m1_2 m1_3 m1_4 m1_5) (hrc t0 t1 t2 t3 (w64 (x42.1+1)) s0.2.1 s0.2.2.1 x42.2 m1_0 m1_1 m1_2 m1_3 m1_4 m1_5) fun x46 hx46=>?_;conv=>arg 3;whnf
            exact Zd (ih _)
         ·conv=>arg 3;whnf
          refine ZO rfl ?_;conv=>arg 3;whnf
          refine ZO rfl ?_;conv=>arg 3;whnf
          refine Zg rfl ?_ ?_<;>conv=>arg 3;whnf
          ·refine Zg rfl ?_ ?_<;>conv=>arg 3;whnf
           ·refine Zc (Za t0 t1 t2 t3 s0.1 x42.1 s0.2.2.1 x42.2 m1_0 m1_1 m1_2 m1_3 m1_4 m1_5) (hrc t0 t1 t2 t3 s0.1 x42.1 s0.2.2.1 x42.2 m1_0 m1_1 m1_2 m1_3 m1_4 m1_5) fun x47 hx47=>?_;conv=>arg 3;whnf
            exact Zd (ih _)
           ·refine Zc (Za t0 t1 t2 t3 s0.1 x42.1 s0.2.2.1 x42.2 m1_0 m1_1 m1_2 m1_3 m1_4 m1_5) (hrc t0 t1 t2 t3 s0.1 x42.1 s0.2.2.1 x42.2 m1_0 m1_1 m1_2 m1_3 m1_4 m1_5) fun x48 hx48=>?_;conv=>arg 3;whnf
            exact Zd (ih _)
          ·refine Zg rfl ?_ ?_<;>conv=>arg 3;whnf
           ·refine Zc (Za t0 t1 t2 t3 (w64 (x42.1+1)) s0.2.1 s0.2.2.1 x42.2 m1_0 m1_1 m1_2 m1_3 m1_4 m1_5) (hrc t0 t1 t2 t3 (w64 (x42.1+1)) s0.2.1 s0.2.2.1 x42.2 m1_0 m1_1 m1_2 m1_3 m1_4 m1_5) fun x49 hx49=>?_;conv=>arg 3;whnf
            exact Zd (ih _)
           ·refine Zc (Za t0 t1 t2 t3 (w64 (x42.1+1)) s0.2.1 s0.2.2.1 x42.2 m1_0 m1_1 m1_2 m1_3 m1_4 m1_5) (hrc t0 t1 t2 t3 (w64 (x42.1+1)) s0.2.1 s0.2.2.1 x42.2 m1_0 m1_1 m1_2 m1_3 m1_4 m1_5) fun x50 hx50=>?_;conv=>arg 3;whnf
            exact Zd (ih _)
      ·refine Zg rfl ?_ ?_<;>conv=>arg 3;whnf
       ·refine Zj rfl rfl fun x51 hx51=>?_;conv=>arg 3;whnf
        refine Zf (Zl rfl hx51) ?_;conv=>arg 3;whnf
        refine Zj rfl rfl fun x52 hx52=>?_;conv=>arg 3;whnf
        refine Zf (Zl rfl hx52) ?_;conv=>arg 3;whnf
        refine Zr _ ZN rfl fun x53 hx53=>?_;conv=>arg 3;whnf
        refine Zg rfl ?_ ?_<;>conv=>arg 3;whnf
        ·refine Zc _ Zm fun x54 hx54=>?_
         clear hx54
         rcases x54 with x54 | x54
         ·conv=>arg 3;whnf
          refine Zbx rfl ?_;conv=>arg 3;whnf
          refine ZO rfl ?_;conv=>arg 3;whnf
          refine Zg rfl ?_ ?_<;>conv=>arg 3;whnf
          ·refine Zg rfl ?_ ?_<;>conv=>arg 3;whnf
           ·refine Zc (Za t0 t1 t2 t3 s0.1 x54.1 s0.2.2.1 x54.2 m1_0 m1_1 m1_2 m1_3 m1_4 m1_5) (hrc t0 t1 t2 t3 s0.1 x54.1 s0.2.2.1 x54.2 m1_0 m1_1 m1_2 m1_3 m1_4 m1_5) fun x55 hx55=>?_;conv=>arg 3;whnf
            exact Zd (ih _)
           ·refine Zc (Za t0 t1 t2 t3 s0.1 x54.1 s0.2.2.1 x54.2 m1_0 m1_1 m1_2 m1_3 m1_4 m1_5) (hrc t0 t1 t2 t3 s0.1 x54.1 s0.2.2.1 x54.2 m1_0 m1_1 m1_2 m1_3 m1_4 m1_5) fun x56 hx56=>?_;conv=>arg 3;whnf
            exact Zd (ih _)
          ·refine Zg rfl ?_ ?_<;>conv=>arg 3;whnf
           ·refine Zc (Za t0 t1 t2 t3 (w64 (x54.1+1)) s0.2.1 s0.2.2.1 x54.2 m1_0 m1_1 m1_2 m1_3 m1_4 m1_5) (hrc t0 t1 t2 t3 (w64 (x54.1+1)) s0.2.1 s0.2.2.1 x54.2 m1_0 m1_1 m1_2 m1_3 m1_4 m1_5) fun x57 hx57=>?_;conv=>arg 3;whnf
            exact Zd (ih _)
           ·refine Zc (Za t0 t1 t2 t3 (w64 (x54.1+1)) s0.2.1 s0.2.2.1 x54.2 m1_0 m1_1 m1_2 m1_3 m1_4 m1_5) (hrc t0 t1 t2 t3 (w64 (x54.1+1)) s0.2.1 s0.2.2.1 x54.2 m1_0 m1_1 m1_2 m1_3 m1_4 m1_5) fun x58 hx58=>?_;conv=>arg 3;whnf
            exact Zd (ih _)
         ·conv=>arg 3;whnf
          refine ZO rfl ?_;conv=>arg 3;whnf
          refine ZO rfl ?_;conv=>arg 3;whnf
          refine Zg rfl ?_ ?_<;>conv=>arg 3;whnf
          ·refine Zg rfl ?_ ?_<;>conv=>arg 3;whnf
           ·refine Zc (Za t0 t1 t2 t3 s0.1 x54.1 s0.2.2.1 x54.2 m1_0 m1_1 m1_2 m1_3 m1_4 m1_5) (hrc t0 t1 t2 t3 s0.1 x54.1 s0.2.2.1 x54.2 m1_0 m1_1 m1_2 m1_3 m1_4 m1_5) fun x59 hx59=>?_;conv=>arg 3;whnf
            exact Zd (ih _)
           ·refine Zc (Za t0 t1 t2 t3 s0.1 x54.1 s0.2.2.1 x54.2 m1_0 m1_1 m1_2 m1_3 m1_4 m1_5) (hrc t0 t1 t2 t3 s0.1 x54.1 s0.2.2.1 x54.2 m1_0 m1_1 m1_2 m1_3 m1_4 m1_5) fun x60 hx60=>?_;conv=>arg 3;whnf
            exact Zd (ih _)
          ·refine Zg rfl ?_ ?_<;>conv=>arg 3;whnf
           ·refine Zc (Za t0 t1 t2 t3 (w64 (x54.1+1)) s0.2.1 s0.2.2.1 x54.2 m1_0 m1_1 m1_2 m1_3 m1_4 m1_5) (hrc t0 t1 t2 t3 (w64 (x54.1+1)) s0.2.1 s0.2.2.1 x54.2 m1_0 m1_1 m1_2 m1_3 m1_4 m1_5) fun x61 hx61=>?_;conv=>arg 3;whnf
            exact Zd (ih _)
           ·refine Zc (Za t0 t1 t2 t3 (w64 (x54.1+1)) s0.2.1 s0.2.2.1 x54.2 m1_0 m1_1 m1_2 m1_3 m1_4 m1_5) (hrc t0 t1 t2 t3 (w64 (x54.1+1)) s0.2.1 s0.2.2.1 x54.2 m1_0 m1_1 m1_2 m1_3 m1_4 m1_5) fun x62 hx62=>?_;conv=>arg 3;whnf
            exact Zd (ih _)
        ·refine Zc _ ZE fun x63 hx63=>?_;conv=>arg 3;whnf
         exact Zd (ih _)
       ·refine Zc _ Zm fun x64 hx64=>?_
        clear hx64
        rcases x64 with x64 | x64
        ·conv=>arg 3;whnf
         refine Zbx rfl ?_;conv=>arg 3;whnf
         refine ZO rfl ?_;conv=>arg 3;whnf
         refine Zg rfl ?_ ?_<;>conv=>arg 3;whnf
         ·refine Zg rfl ?_ ?_<;>conv=>arg 3;whnf
          ·refine Zc (Za t0 t1 t2 t3 s0.1 x64.1 s0.2.2.1 x64.2 m1_0 m1_1 m1_2 m1_3 m1_4 m1_5) (hrc t0 t1 t2 t3 s0.1 x64.1 s0.2.2.1 x64.2 m1_0 m1_1 m1_2 m1_3 m1_4 m1_5) fun x65 hx65=>?_;conv=>arg 3;whnf
           exact Zd (ih _)
          ·refine Zc (Za t0 t1 t2 t3 s0.1 x64.1 s0.2.2.1 x64.2 m1_0 m1_1 m1_2 m1_3 m1_4 m1_5) (hrc t0 t1 t2 t3 s0.1 x64.1 s0.2.2.1 x64.2 m1_0 m1_1 m1_2 m1_3 m1_4 m1_5) fun x66 hx66=>?_;conv=>arg 3;whnf
           exact Zd (ih _)
         ·refine Zg rfl ?_ ?_<;>conv=>arg 3;whnf
          ·refine Zc (Za t0 t1 t2 t3 (w64 (x64.1+1)) s0.2.1 s0.2.2.1 x64.2 m1_0 m1_1 m1_2 m1_3 m1_4 m1_5) (hrc t0 t1 t2 t3 (w64 (x64.1+1)) s0.2.1 s0.2.2.1 x64.2 m1_0 m1_1 m1_2 m1_3 m1_4 m1_5) fun x67 hx67=>?_;conv=>arg 3;whnf
           exact Zd (ih _)
          ·refine Zc (Za t0 t1 t2 t3 (w64 (x64.1+1)) s0.2.1 s0.2.2.1 x64.2 m1_0 m1_1 m1_2 m1_3 m1_4 m1_5) (hrc t0 t1 t2 t3 (w64 (x64.1+1)) s0.2.1 s0.2.2.1 x64.2 m1_0 m1_1 m1_2 m1_3 m1_4 m1_5) fun x68 hx68=>?_;conv=>arg 3;whnf
           exact Zd (ih _)
        ·conv=>arg 3;whnf
         refine ZO rfl ?_;conv=>arg 3;whnf
         refine ZO rfl ?_;conv=>arg 3;whnf
         refine Zg rfl ?_ ?_<;>conv=>arg 3;whnf
         ·refine Zg rfl ?_ ?_<;>conv=>arg 3;whnf
          ·refine Zc (Za t0 t1 t2 t3 s0.1 x64.1 s0.2.2.1 x64.2 m1_0 m1_1 m1_2 m1_3 m1_4 m1_5) (hrc t0 t1 t2 t3 s0.1 x64.1 s0.2.2.1 x64.2 m1_0 m1_1 m1_2 m1_3 m1_4 m1_5) fun x69 hx69=>?_;conv=>arg 3;whnf
           exact Zd (ih _)
          ·refine Zc (Za t0 t1 t2 t3 s0.1 x64.1 s0.2.2.1 x64.2 m1_0 m1_1 m1_2 m1_3 m1_4 m1_5) (hrc t0 t1 t2 t3 s0.1 x64.1 s0.2.2.1 x64.2 m1_0 m1_1 m1_2 m1_3 m1_4 m1_5) fun x70 hx70=>?_;conv=>arg 3;whnf
           exact Zd (ih _)
         ·refine Zg rfl ?_ ?_<;>conv=>arg 3;whnf
          ·refine Zc (Za t0 t1 t2 t3 (w64 (x64.1+1)) s0.2.1 s0.2.2.1 x64.2 m1_0 m1_1 m1_2 m1_3 m1_4 m1_5) (hrc t0 t1 t2 t3 (w64 (x64.1+1)) s0.2.1 s0.2.2.1 x64.2 m1_0 m1_1 m1_2 m1_3 m1_4 m1_5) fun x71 hx71=>?_;conv=>arg 3;whnf
           exact Zd (ih _)
          ·refine Zc (Za t0 t1 t2 t3 (w64 (x64.1+1)) s0.2.1 s0.2.2.1 x64.2 m1_0 m1_1 m1_2 m1_3 m1_4 m1_5) (hrc t0 t1 t2 t3 (w64 (x64.1+1)) s0.2.1 s0.2.2.1 x64.2 m1_0 m1_1 m1_2 m1_3 m1_4 m1_5) fun x72 hx72=>?_;conv=>arg 3;whnf
           exact Zd (ih _)
theorem Zfl (rc:Int→Int→Int→(Int→Int→Option Int)→(List Int)→Option (List Int)) (hrc:∀(t0:Bool) (t1:Bool) (t2:Bool) (t3:Bool) (b:Int) (c:Int) (d:Int) (m0_0:(List Int)) (m1_0:Int) (m1_1:Int) (m1_2:(List Zam)) (m1_3:(List Zo)) (m1_4:(List Zk)) (m1_5:(List Zu)) (r:(List Int)),rc b c d (fun z0 z1=>Zw z0 z1 m1_4) m0_0=some r→evW ctx 138 [(.sl 0 1),(.d (Ze b)),(.d (Ze c)),(.d (Ze d)),(.fn 121 [(.ptr 1 0)])] [(.arr 1 (List.map Ze m0_0)),(.cells [(.d (Ze m1_0)),(.d (Ze m1_1)),(.d (D.list t0 (List.map Zau m1_2))),(.d (D.list t1 (List.map ZI m1_3))),(.d (D.list t2 (List.map Zt m1_4))),(.d (D.list t3 (List.map Zz m1_5)))])]=some ((Za t0 t1 t2 t3 b c d m0_0 m1_0 m1_1 m1_2 m1_3 m1_4 m1_5) r)) (t0:Bool) (t1:Bool) (t2:Bool) (t3:Bool) (b:Int) (c:Int) (d:Int) (m0_0:(List Int)) (m1_0:Int) (m1_1:Int) (m1_2:(List Zam)) (m1_3:(List Zo)) (m1_4:(List Zk)) (m1_5:(List Zu)):∀r,(ZaD rc b c d (fun z0 z1=>Zw z0 z1 m1_4) m0_0)=some r→evW ctx 138 [(.sl 0 1),(.d (Ze b)),(.d (Ze c)),(.d (Ze d)),(.fn 121 [(.ptr 1 0)])] [(.arr 1 (List.map Ze m0_0)),(.cells [(.d (Ze m1_0)),(.d (Ze m1_1)),(.d (D.list t0 (List.map Zau m1_2))),(.d (D.list t1 (List.map ZI m1_3))),(.d (D.list t2 (List.map Zt m1_4))),(.d (D.list t3 (List.map Zz m1_5)))])]=some ((Za t0 t1 t2 t3 b c d m0_0 m1_0 m1_1 m1_2 m1_3 m1_4 m1_5) r):=by
 show Z6 _ (fun r rhs=>rhs=some ((Za t0 t1 t2 t3 b c d m0_0 m1_0 m1_1 m1_2 m1_3 m1_4 m1_5) r)) _
 unfold ZaD
 rw[Zej ctx 138 Zw4 _ _ rfl rfl]
 conv=>arg 3;whnf
 refine Zc _ (Zfe hrc _) fun r219 hr219=>?_;conv=>arg 3;whnf
 exact Zh rfl
theorem ZcV:∀(n:Nat) (t0:Bool) (t1:Bool) (t2:Bool) (t3:Bool) (b:Int) (c:Int) (d:Int) (m0_0:(List Int)) (m1_0:Int) (m1_1:Int) (m1_2:(List Zam)) (m1_3:(List Zo)) (m1_4:(List Zk)) (m1_5:(List Zu)) (r:(List Int)),ZZ n b c d (fun z0 z1=>Zw z0 z1 m1_4) m0_0=some r→evW ctx 138 [(.sl 0 1),(.d (Ze b)),(.d (Ze c)),(.d (Ze d)),(.fn 121 [(.ptr 1 0)])] [(.arr 1 (List.map Ze m0_0)),(.cells [(.d (Ze m1_0)),(.d (Ze m1_1)),(.d (D.list t0 (List.map Zau m1_2))),(.d (D.list t1 (List.map ZI m1_3))),(.d (D.list t2 (List.map Zt m1_4))),(.d (D.list t3 (List.map Zz m1_5)))])]=some ((Za t0 t1 t2 t3 b c d m0_0 m1_0 m1_1 m1_2 m1_3 m1_4 m1_5) r)
  | 0,t0,t1,t2,t3,b,c,d,m0_0,m1_0,m1_1,m1_2,m1_3,m1_4,m1_5,r,h=>by cases h
  | n+1,t0,t1,t2,t3,b,c,d,m0_0,m1_0,m1_1,m1_2,m1_3,m1_4,m1_5,r,h=>Zfl (ZZ n) (ZcV n) t0 t1 t2 t3 b c d m0_0 m1_0 m1_1 m1_2 m1_3 m1_4 m1_5 r h
theorem ZfJ {t0:Bool}{t1:Bool}{t2:Bool}{t3:Bool}{b:Int}{c:Int}{d:Int}{m0_0:(List Int)}{m1_0:Int}{m1_1:Int}{m1_2:(List Zam)}{m1_3:(List Zo)}{m1_4:(List Zk)}{m1_5:(List Zu)}:∀r,Zds b c d (fun z0 z1=>Zw z0 z1 m1_4) m0_0=some r→evW ctx 138 [(.sl 0 1),(.d (Ze b)),(.d (Ze c)),(.d (Ze d)),(.fn 121 [(.ptr 1 0)])] [(.arr 1 (List.map Ze m0_0)),(.cells [(.d (Ze m1_0)),(.d (Ze m1_1)),(.d (D.list t0 (List.map Zau m1_2))),(.d (D.list t1 (List.map ZI m1_3))),(.d (D.list t2 (List.map Zt m1_4))),(.d (D.list t3 (List.map Zz m1_5)))])]=some ((Za t0 t1 t2 t3 b c d m0_0 m1_0 m1_1 m1_2 m1_3 m1_4 m1_5) r):=fun r h=>by
  obtain⟨n,hn⟩:=Zu6 h
  exact ZcV n t0 t1 t2 t3 b c d m0_0 m1_0 m1_1 m1_2 m1_3 m1_4 m1_5 r hn
def Zdl (t0:Bool) (t1:Bool) (t2:Bool) (t3:Bool) (m0_0:(List Int)) (m1_0:Int) (m1_1:Int) (m1_2:(List Zam)) (m1_3:(List Zo)) (m1_4:(List Zk)) (m1_5:(List Zu)):(List Int)→V×Zp
  | r=>((.d (D.tup [])),[(.arr 1 (List.map Ze r)),(.cells [(.d (Ze m1_0)),(.d (Ze m1_1)),(.d (D.list t0 (List.map Zau m1_2))),(.d (D.list t1 (List.map ZI m1_3))),(.d (D.list t2 (List.map Zt m1_4))),(.d (D.list t3 (List.map Zz m1_5)))])])
theorem ZfI {t0:Bool}{t1:Bool}{t2:Bool}{t3:Bool}{m0_0:(List Int)}{m1_0:Int}{m1_1:Int}{m1_2:(List Zam)}{m1_3:(List Zo)}{m1_4:(List Zk)}{m1_5:(List Zu)}:∀r,(ZaN (fun z0 z1=>Zw z0 z1 m1_4) m0_0)=some r→evW ctx 120 [(.sl 0 1),(.fn 121 [(.ptr 1 0)])] [(.arr 1 (List.map Ze m0_0)),(.cells [(.d (Ze m1_0)),(.d (Ze m1_1)),(.d (D.list t0 (List.map Zau m1_2))),(.d (D.list t1 (List.map ZI m1_3))),(.d (D.list t2 (List.map Zt m1_4))),(.d (D.list t3 (List.map Zz m1_5)))])]=some ((Zdl t0 t1 t2 t3 m0_0 m1_0 m1_1 m1_2 m1_3 m1_4 m1_5) r):=by
 show Z6 _ (fun r rhs=>rhs=some ((Zdl t0 t1 t2 t3 m0_0 m1_0 m1_1 m1_2 m1_3 m1_4 m1_5) r)) _
 unfold ZaN
 rw[Zej ctx 120 ZxC _ _ rfl rfl]
 conv=>arg 3;whnf
 refine Zq (Zal _ _) ?_;conv=>arg 3;whnf
 refine Zr _ ZhC rfl fun x0 hx0=>?_;conv=>arg 3;whnf
 refine Zc _ ZfJ fun x1 hx1=>?_;conv=>arg 3;whnf
 exact Zh rfl
def Zj6 (r:(List Int)):D:=(D.list true (List.map Ze r))
def ZiI (t0:Bool) (t1:Bool) (t2:Bool) (t3:Bool) (a:Zn) (b:Int):(List Int)→Ex×List V×Zp
  | r=>(.exit 0,[(.ptr 0 0),(.sl 1 1)],[(.cells (dV t0 t1 t2 t3 a)),(.arr 1 (List.map Ze r))])
theorem Zlw {t0:Bool}{t1:Bool}{t2:Bool}{t3:Bool}{a:Zn}{b:Int}:∀(s1:Int×(List Int)) (r:(List Int)),lp (Zeh a b) s1=some r→lpW ctx 0 [1,2,5,12,13,14] [2,5] Zww [(.d (Ze b)),(.ptr 0 0),(.sl 1 1),(.d (D.list t2 (List.map Zt a.futures))),(.d (Ze (a.futures.length:Int))),(.d (Ze s1.1))] [(.cells (dV t0 t1 t2 t3 a)),(.arr 1 (List.map Ze s1.2))]=some ((ZiI t0 t1 t2 t3 a b) r):=by
 refine Zbc (ZiI t0 t1 t2 t3 a b) ?_
 intro s1 rcl ih
 show Z6 _ _ (lpW _ _ _ _ _ _ _)
 unfold Zeh
 rw[Zbd]
 conv=>arg 3;whnf
 refine Zg rfl ?_ ?_<;>conv=>arg 3;whnf
 ·refine Zj rfl rfl fun x2 hx2=>?_;conv=>arg 3;whnf
  refine Zg rfl ?_ ?_<;>conv=>arg 3;whnf
  ·refine Zbx rfl ?_;conv=>arg 3;whnf
   refine Zg (ZiW Ze s1.2 1) ?_ ?_
   ·conv=>arg 3;whnf
    refine Zq (ZiU Ze s1.2 [s1.1]) ?_;conv=>arg 3;whnf
    exact Zd (ih _)
   ·exact ZbA
  ·exact Zd (ih _)
 ·exact Zh rfl
theorem Znv {t0:Bool}{t1:Bool}{t2:Bool}{t3:Bool}{a:Zn}{b:Int}:∀r,(Zd7 a b)=some r→evD ctx 86 [(.d (D.agg (dA t0 t1 t2 t3 a))),(.d (Ze b))]=some (Zj6 r):=by
 show Z6 _ (fun r rhs=>rhs=some (Zj6 r)) _
 unfold Zd7
 rw[ZcG ctx 86 ZAG _ rfl rfl]
 conv=>arg 3;whnf
 refine Zr _ Zk6 rfl fun x0 hx0=>?_;conv=>arg 3;whnf
 refine Zg rfl ?_ ?_<;>conv=>arg 3;whnf
 ·exact Zh rfl
 ·refine Zq (Zal _ _) ?_;conv=>arg 3;whnf
  refine Zc _ (Zlw _) fun r3 hr3=>?_;conv=>arg 3;whnf
  refine Zc _ ZfI fun x4 hx4=>?_;conv=>arg 3;whnf
  exact Zh rfl
def ZhZ (b:Zi) (c:Int) (m1_0:(List Int)) (m2_0:(List Zo)) (m3_0:(List Zi)) (m4_0:(List (Int×Int))) (m5_0:(List (Int×Int))) (m6_0:(List (Zk×Int))):Unit→V×Zp
  | r=>((.d (Ze (w64 ((List.length (m3_0++[b]):Int)-1)))),[(.cells [(.sl 7 1),(.sl 2 2),(.sl 8 2),(.mp 4),(.mp 5),(.mp 6)]),.dead,(.arr 2 (List.map ZI m2_0)),.dead,(.mp (mpD Ze Ze m4_0)),(.mp (mpD Ze Ze m5_0)),(.mp (mpD Zt Ze m6_0)),(.arr 1 (List.map Ze (m1_0++[c]))),(.arr 2 (List.map Zca (m3_0++[b])))])
theorem Zbr {b:Zi}{c:Int}{m1_0:(List Int)}{m2_0:(List Zo)}{m3_0:(List Zi)}{m4_0:(List (Int×Int))}{m5_0:(List (Int×Int))}{m6_0:(List (Zk×Int))}:∀r,(Za1 b c m1_0 m3_0)=some r→evW ctx 44 [(.ptr 0 0),(.d (D.agg [(Ze b.part),(Ze b.step)])),(.d (Ze c))] [(.cells [(.sl 1 1),(.sl 2 2),(.sl 3 2),(.mp 4),(.mp 5),(.mp 6)]),(.arr 1 (List.map Ze m1_0)),(.arr 2 (List.map ZI m2_0)),(.arr 2 (List.map Zca m3_0)),(.mp (mpD Ze Ze m4_0)),(.mp (mpD Ze Ze m5_0)),(.mp (mpD Zt Ze m6_0))]=some ((ZhZ b c m1_0 m2_0 m3_0 m4_0 m5_0 m6_0) r):=by
 show Z6 _ (fun r rhs=>rhs=some ((ZhZ b c m1_0 m2_0 m3_0 m4_0 m5_0 m6_0) r)) _
 unfold Za1
 rw[Zej ctx 44 ZAK _ _ rfl rfl]
 conv=>arg 3;whnf
 refine Zbx rfl ?_;conv=>arg 3;whnf
 refine Zg (ZiW Zca m3_0 1) ?_ ?_
 ·conv=>arg 3;whnf
  refine Zq (ZiU Zca m3_0 [b]) ?_;conv=>arg 3;whnf
  refine Zbx rfl ?_;conv=>arg 3;whnf
  refine Zg (ZiW Ze m1_0 1) ?_ ?_
  ·conv=>arg 3;whnf
   refine Zq (ZiU Ze m1_0 [c]) ?_;conv=>arg 3;whnf
   refine Zq (Zal _ _) ?_;conv=>arg 3;whnf
   exact Zh rfl
  ·exact ZbA
 ·exact ZbA
end Go.Proofs.YtljgncbdagmeeaaDoor
