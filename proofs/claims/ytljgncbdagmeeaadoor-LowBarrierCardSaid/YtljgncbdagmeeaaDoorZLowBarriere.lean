/- LowBarrier: part 5 of 6 of the proof. -/
import Derived.Test.YtljgncbdagmeeaaDoorZLowBarrierd
import Derived.KernelRfl
set_option maxRecDepth 100000
set_option maxHeartbeats 40000000
namespace Go.Proofs.YtljgncbdagmeeaaDoor
open Go Go.Proofs.YtljgncbdagmeeaaDoorE Go.Sort
set_option linter.unusedVariables false
set_option linter.unusedSimpArgs false
def sel {γ:Type} (p:γ→Bool) (g:Nat→γ→Int):Nat→List γ→List Int
 | _,[]=>[]
 | i,x :: l=>bif p x then g i x :: sel p g (i+1) l else sel p g (i+1) l
theorem Zm6 {γ:Type} (p:γ→Bool) (g:Nat→γ→Int):∀(l:List γ) (i:Nat),(sel p g i l).length=l.countP p
 | [],_=>rfl
 | x :: l,i=>by
  unfold sel
  have ih:=Zm6 p g l (i+1)
  cases h:p x with
  | true=>simp[ih,h]
  | false=>simp[ih,h]
theorem Zob {γ:Type} (p:γ→Bool) (g:Nat→γ→Int) (z:Int):∀(l:List γ) (i:Nat),z∈sel p g i l↔∃j x,l[j]? = some x∧p x=true∧z=g (i+j) x
 | [],i=>by simp[sel]
 | x :: l,i=>by
  have ih:=Zob p g z l (i+1)
  have key:(∃j y,(x :: l)[j]? = some y∧p y=true∧z=g (i+j) y)↔(p x=true∧z=g i x)∨∃j y,l[j]? = some y∧p y=true∧z=g (i+1+j) y:=by
   constructor
   ·rintro ⟨j,y,h1,h2,h3⟩
    cases j with
    | zero=>left; simp at h1; subst h1; exact⟨h2,h3⟩
    | succ j=>right; exact⟨j,y,by simpa using h1,h2,by rw[h3]; congr 1; omega⟩
   ·rintro (⟨h2,h3⟩ | ⟨j,y,h1,h2,h3⟩)
    ·exact⟨0,x,rfl,h2,h3⟩
    ·exact⟨j+1,y,by simpa using h1,h2,by rw[h3]; congr 1; omega⟩
  rw[key]
  unfold sel
  cases h:p x with
  | true=>simp[ih]
  | false=>simp[ih]
theorem Zw0 {γ:Type} (l:List γ) (hl:l.length≤1000) (p:γ→Bool) (g:Nat→γ→Int) (step:Int×List Int→Option ((Int×List Int)⊕List Int))
  (h1:∀i x s,i<l.length→l[i]? = some x→step ((i:Int),s)=(bif p x then (bif Nat.ble (s.length+1) lim then some (.inl (((i+1:Nat):Int),s++[g i x])) else none) else some (.inl (((i+1:Nat):Int),s))))
  (h2:∀s,step ((l.length:Int),s)=some (.inr s)) (s:List Int) (hs:s.length≤1000000):lp step (0,s)=some (s++sel p g 0 l):=by
 have key:=ZqL l step (fun i s=>((i:Int),s)) (fun i x s=>bif p x then (bif Nat.ble (s.length+1) lim then some (.inl (s++[g i x])) else none) else some (.inl s)) (fun s=>some s) (fun i x s hi hx=>by
   rw[h1 i x s hi hx]
   cases p x<;>cases Nat.ble (s.length+1) lim<;>rfl) (fun s=>h2 s) s
 refine(key:lp step (0,s)=_).trans ?_
 have:∀(l:List γ) (i:Nat) (s:List Int),s.length+l.length≤1001000→Znu (fun i x s=>bif p x then (bif Nat.ble (s.length+1) lim then some (Sum.inl (s++[g i x])) else (none:Option (List Int⊕List Int))) else some (.inl s)) (fun s=>some s) i l s=some (s++sel p g i l):=by
  intro l
  induction l with
  | nil=>intro i s _; simp[Znu,sel]
  | cons x l ih=>
   intro i s hb
   rw[List.length_cons] at hb
   unfold Znu sel
   cases p x with
   | true=>
    rw[Zjn (show s.length+1≤1073741824 by omega)]
    simp only[cond_true]
    rw[ih (i+1) (s++[g i x]) (by rw[List.length_append,List.length_singleton]; omega)]
    simp
   | false=>
    simp only[cond_false]
    rw[ih (i+1) s (by omega)]
 exact this l 0 s (by omega)
theorem ZoV (k:Int→Int):∀(l m:List Int),l.Pairwise (fun x y=>k x<k y)→m.Pairwise (fun x y=>k x<k y)→(∀z,z∈l↔z∈m)→l=m
 | [],[],_,_,_=>rfl
 | [],y :: m,_,_,h=>absurd ((h y).2 (by simp)) (by simp)
 | x :: l,[],_,_,h=>absurd ((h x).1 (by simp)) (by simp)
 | x :: l,y :: m,h1,h2,h=>by
  rw[List.pairwise_cons] at h1 h2
  have hxy:x=y:=by
   rcases List.mem_cons.1 ((h x).1 (by simp)) with e | e
   ·exact e
   ·rcases List.mem_cons.1 ((h y).2 (by simp)) with e2 | e2
    ·exact e2.symm
    ·have:=h2.1 _ e
     have:=h1.1 _ e2
     omega
  subst hxy
  congr 1
  refine ZoV k l m h1.2 h2.2 fun z=>?_
  constructor
  ·intro hz
   rcases List.mem_cons.1 ((h z).1 (by simp[hz])) with e | e
   ·subst e
    have:=h1.1 _ hz
    omega
   ·exact e
  ·intro hz
   rcases List.mem_cons.1 ((h z).2 (by simp[hz])) with e | e
   ·subst e
    have:=h2.1 _ hz
    omega
   ·exact e
structure Zmr (d:Zu):Prop where
 w:∀p∈d.parts,1≤p.work∧p.work≤100
 e:∀x∈d.edges,two d.parts.length x.src x.dst=true
 f:∀x∈d.futures,two d.parts.length x.maker x.user=true∧1≤x.pos∧x.pos≤Zhq d.parts x.user-1
 ne:∀(i j:Nat) (x y:Zk),i<j→d.futures[i]? = some x→d.futures[j]? = some y→¬(x.user=y.user∧x.pos=y.pos)
theorem Zq1 {d:Zu} (h:Zh4 d=0):Zmr d:=by
 unfold Zh4 at h
 have all:Zmb d=true∧Zpz d=true∧d.parts.any Zhf=false∧Zh3 (ZhJ d) 0 d.edges=false∧Zh3 (Zfj d) 0 d.futures=false:=by
  revert h
  cases Zmb d<;>cases Zpz d<;>cases d.parts.any Zhf<;>cases Zh3 (ZhJ d) 0 d.edges<;>cases Zh3 (Zfj d) 0 d.futures<;>simp
 obtain⟨_,_,h3,h4,h5⟩:=all
 have he:∀(i:Nat) x,d.edges[i]? = some x→ZhJ d i x=false:=fun i x hx=>by
  cases hb:ZhJ d i x with
  | false=>rfl
  | true=>rw[(Zk0 _ _ 0).2 ⟨i,x,hx,by simpa using hb⟩] at h4; cases h4
 have hf:∀(i:Nat) x,d.futures[i]? = some x→Zfj d i x=false:=fun i x hx=>by
  cases hb:Zfj d i x with
  | false=>rfl
  | true=>rw[(Zk0 _ _ 0).2 ⟨i,x,hx,by simpa using hb⟩] at h5; cases h5
 refine⟨ZpB h3,fun x hx=>?_,fun x hx=>?_,fun i j x y hij hx hy=>?_⟩
 ·obtain⟨i,hi⟩:=List.getElem?_of_mem hx
  have:=he i x hi
  unfold ZhJ at this
  simp only[Bool.or_eq_false_iff,Bool.not_eq_false'] at this
  exact this.1
 ·obtain⟨i,hi⟩:=List.getElem?_of_mem hx
  have:=hf i x hi
  unfold Zfj Zd9 at this
  simp only[Bool.or_eq_false_iff,Bool.not_eq_false',Bool.and_eq_true,decide_eq_true_eq] at this
  exact⟨this.1,this.2.1.1,this.2.1.2⟩
 ·rintro ⟨h1,h2⟩
  have:=hf j y hy
  unfold Zfj at this
  simp only[Bool.or_eq_false_iff] at this
  have h6:=List.any_eq_false.1 this.2.2 x (List.mem_of_getElem? (i:=i) (by rw[List.getElem?_take_of_lt hij]; exact hx))
  unfold again at h6
  simp[h1,h2] at h6
theorem ZlA {d:Zu} (g:Zmr d) (u:Int):Zhq d.parts u≤100:=by
 unfold Zhq
 split
 ·rename_i p hp; exact(g.w p (List.mem_of_getElem? hp)).2
 ·omega
def Zf1 (fs:List Zk) (z:Int):Int:=match fs[z.toNat]? with | some f=>f.pos | none=>0
def Zn5 (d:Zu) (u:Int):List Int:=sel (fun f:Zk=>f.user==u) (fun i _=>(i:Int)) 0 d.futures
theorem Zll (d:Zu) (u z:Int):z∈Zn5 d u↔∃(i:Nat) (f:Zk),d.futures[i]? = some f∧f.user=u∧z=(i:Int):=by
 unfold Zn5
 rw[Zob]
 simp
theorem Zpk (d:Zu) (u:Int):(Zn5 d u).Pairwise (fun x y=>x<y):=by
 have:∀(l:List Zk) (i:Nat),(sel (fun f:Zk=>f.user==u) (fun i _=>(i:Int)) i l).Pairwise (fun x y=>x<y)∧∀z∈sel (fun f:Zk=>f.user==u) (fun i _=>(i:Int)) i l,(i:Int)≤z:=by
  intro l
  induction l with
  | nil=>intro i; simp[sel]
  | cons x l ih=>
   intro i
   obtain⟨h1,h2⟩:=ih (i+1)
   unfold sel
   cases x.user==u with
   | true=>
    simp only[cond_true,List.pairwise_cons,List.mem_cons]
    refine⟨⟨fun z hz=>?_,h1⟩,?_⟩
    ·have:=h2 z hz; omega
    ·rintro z (rfl | hz)
     ·exact Int.le_refl _
     ·have:=h2 z hz; omega
   | false=>
    simp only[cond_false]
    exact⟨h1,fun z hz=>by have:=h2 z hz; omega⟩
 exact(this d.futures 0).1
structure Zht (d:Zu) (u:Int) (r:List Int):Prop where
 mem:∀z,z∈r↔∃(i:Nat) (f:Zk),d.futures[i]? = some f∧f.user=u∧z=(i:Int)
 rise:r.Pairwise (fun x y=>Zf1 d.futures x<Zf1 d.futures y)
theorem Zht.eq {d:Zu} {u:Int} {r s:List Int} (h1:Zht d u r) (h2:Zht d u s):r=s:=ZoV (Zf1 d.futures) r s h1.rise h2.rise fun z=>by rw[h1.mem,h2.mem]
theorem Zry {l:List Int} {p q:Int→Int→Prop} (h:l.Pairwise p) (hq:∀x y,x∈l→y∈l→p x y→q x y):l.Pairwise q:=by
 rw[List.pairwise_iff_getElem] at h ⊢
 exact fun i j hi hj hij=>hq _ _ (List.getElem_mem hi) (List.getElem_mem hj) (h i j hi hj hij)
theorem Zxi {d:Zu} (g:Zmr d) {u x y:Int} (hx:∃(i:Nat) (f:Zk),d.futures[i]? = some f∧f.user=u∧x=(i:Int)) (hy:∃(i:Nat) (f:Zk),d.futures[i]? = some f∧f.user=u∧y=(i:Int)) (hne:x≠y):Zf1 d.futures x≠Zf1 d.futures y:=by
 obtain⟨i,f,h1,h2,rfl⟩:=hx
 obtain⟨j,e,h3,h4,rfl⟩:=hy
 intro he
 unfold Zf1 at he
 rw[Int.toNat_natCast,Int.toNat_natCast,h1,h3] at he
 simp only at he
 rcases Nat.lt_trichotomy i j with h | h | h
 ·exact g.ne i j f e h h1 h3 ⟨h2.trans h4.symm,he⟩
 ·exact hne (by rw[h])
 ·exact g.ne j i e f h h3 h1 ⟨h4.trans h2.symm,he.symm⟩
theorem Zvd {d:Zu} (g:Zmr d):ZpT (fun z0 z1=>Zw z0 z1 d.futures) (fun x y=>Zf1 d.futures x-Zf1 d.futures y) (fun z=>0≤z∧z.toNat<d.futures.length):=by
 intro x y hx hy
 have b:∀z:Int,z.toNat<d.futures.length→∃f,d.futures[z.toNat]? = some f∧Zf1 d.futures z=f.pos∧1≤f.pos∧f.pos≤100:=fun z hz=>by
  have hm:=List.getElem_mem hz
  have:=g.f _ hm
  have hw:=ZlA g d.futures[z.toNat].user
  exact⟨d.futures[z.toNat],List.getElem?_eq_getElem hz,by unfold Zf1; rw[List.getElem?_eq_getElem hz],this.2.1,by omega⟩
 obtain⟨f,f1,f2,f3,f4⟩:=b x hx.2
 obtain⟨e,e1,e2,e3,e4⟩:=b y hy.2
 show Zw x y d.futures=some (Zf1 d.futures x-Zf1 d.futures y)
 unfold Zw
 rw[Zrn hx.1 f1,Zrn hy.1 e1]
 simp only[Option.bind_some]
 rw[f2,e2,Zen (by omega) (by omega)]
theorem Zye (k:Int→Int):SWO (ltC fun x y=>k x-k y):=by
 refine⟨fun x=>?_,fun x y z h1 h2=>?_,fun x y z h1 h2=>?_⟩
 ·show decide (k x-k x<0)=false
  exact decide_eq_false (by omega)
 ·simp only[ltC,decide_eq_true_eq] at *
  omega
 ·simp only[ltC,decide_eq_false_iff_not] at *
  omega
theorem ZuC (d:Zu) (h:Zk9 d) (hf:d.futures.length≤1000) (hc:Zh4 d=0) (u:Int):∃r,Zd7 d u=some r∧Zht d u r:=by
 have g:=Zq1 hc
 have key:=Zw0 d.futures hf (fun f:Zk=>f.user==u) (fun i _=>(i:Int)) (Zeh d u) (fun i x s hi hx=>by
   simp only[Zeh,Zgo hi,Zb0 hx,Option.bind_some,ZaM hi h.f,cond_true]) (fun s=>by simp only[Zeh,Zho]; rfl) [] (by simp)
 have hP:∀x∈Zn5 d u,0≤x∧x.toNat<d.futures.length:=fun x hx=>by
  obtain⟨i,f,h1,h2,rfl⟩:=(Zll d u x).1 hx
  have:=(List.getElem?_eq_some_iff.1 h1).1
  exact⟨by omega,by simpa using this⟩
 have hlen:(Zn5 d u).length≤1000:=by
  unfold Zn5
  rw[Zm6]
  exact Nat.le_trans List.countP_le_length hf
 obtain⟨r,h1,h2,h3⟩:=ZwX (Zvd g) (Zye _) (Zn5 d u) hlen hP
 refine⟨r,?_,?_,?_⟩
 ·unfold Zd7
  rw[Ztw d h,hc]
  simp only[Option.bind_some,bne_self_eq_false,cond_false]
  rw[key,List.nil_append,Option.bind_some]
  show(ZaO (fun z0 z1=>Zw z0 z1 d.futures) (Zn5 d u)).bind _=_
  rw[h1]
  rfl
 ·exact fun z=>by rw[h2.mem_iff,Zll]
 ·have nd:r.Pairwise (fun x y=>x≠y):=(h2.pairwise_iff (fun h=>Ne.symm h)).2 ((Zpk d u).imp fun h=>by omega)
  refine Zry (h3.and nd) fun x y hx hy hp=>?_
  have a:=(Zll d u x).1 (h2.mem_iff.1 hx)
  have b:=(Zll d u y).1 (h2.mem_iff.1 hy)
  have h4:=Zxi g a b hp.2
  have h5:=hp.1
  simp only[ltC,decide_eq_false_iff_not] at h5
  omega
theorem ZpW {d:Zu} {u:Int} {r:List Int} (h:Zht d u r):r.length=(Zn5 d u).length:=by
 have nd1:r.Nodup:=h.rise.imp fun hp he=>by rw[he] at hp; omega
 have nd2:(Zn5 d u).Nodup:=(Zpk d u).imp fun hp he=>by omega
 exact((List.perm_ext_iff_of_nodup nd1 nd2).2 fun z=>by rw[h.mem,Zll]).length_eq
theorem Zsb {d:Zu} {u:Int} {r:List Int} (h:Zht d u r):r.length≤d.futures.length:=by
 rw[ZpW h]
 unfold Zn5
 rw[Zm6]
 exact List.countP_le_length
theorem ZuP {γ:Type} (p:γ→Bool) (g:Nat→γ→Int) (l:List γ) (i:Nat):(sel p g i l).length≤l.length:=by rw[Zm6]; exact List.countP_le_length
end Go.Proofs.YtljgncbdagmeeaaDoor
namespace Go.Proofs.YtljgncbdagmeeaaDoor
open Go Go.Proofs.YtljgncbdagmeeaaDoorE
set_option linter.unusedVariables false
set_option linter.unusedSimpArgs false
structure Zfs (d:Zu):Prop where
 g:Zmr d
 ins:∀b∈d.barriers,∀q∈b.ins,0≤q∧q.toNat<d.parts.length
 outs:∀b∈d.barriers,∀q∈b.outs,0≤q∧q.toNat<d.parts.length
 disj:∀b∈d.barriers,∀q∈b.ins,q∉b.outs
 pl:d.parts.length≤16
 el:d.edges.length≤48
 fl:d.futures.length≤16
 bl:d.barriers.length≤4
 p1:1≤d.parts.length
 arg:∀p∈d.parts,0≤p.arg∧p.arg≤2147483647
theorem Zvn {n:Nat} {l:List Int} (h:ZlZ n l=true):∀q∈l,0≤q∧q.toNat<n:=by
 intro q hq
 unfold ZlZ at h
 simp only[Bool.and_eq_true,Bool.not_eq_true'] at h
 obtain⟨i,hi⟩:=List.getElem?_of_mem hq
 have:Zp9 n l i q=false:=by
  cases hb:Zp9 n l i q with
  | false=>rfl
  | true=>rw[(Zk0 _ _ 0).2 ⟨i,q,hi,by simpa using hb⟩] at h; exact absurd h.1 (by simp)
 unfold Zp9 Zd9 at this
 simp only[Bool.or_eq_false_iff,Bool.not_eq_false',Bool.and_eq_true,decide_eq_true_eq] at this
 omega
theorem ZrM {d:Zu} (h:Zh4 d=0):Zfs d:=by
 have g:=Zq1 h
 unfold Zh4 at h
 have all:Zmb d=true∧d.barriers.any (ZgE d.parts.length)=false∧d.parts.any Zhf=false:=by
  revert h
  cases Zmb d<;>cases Zpz d<;>cases d.parts.any Zhf<;>cases Zh3 (ZhJ d) 0 d.edges<;>cases Zh3 (Zfj d) 0 d.futures<;>cases d.barriers.any (ZgE d.parts.length)<;>simp
 have hb:∀b∈d.barriers,ZlZ d.parts.length b.ins=true∧ZlZ d.parts.length b.outs=true∧b.ins.any (ZpA b)=false:=fun b hb=>by
  have:=List.any_eq_false.1 all.2.1 b hb
  simp only[ZgE,Bool.or_eq_true,Bool.not_eq_true',not_or,Bool.not_eq_false,Bool.not_eq_true] at this
  exact this
 have m:=all.1
 unfold Zmb Zd9 at m
 simp only[Bool.and_eq_true,decide_eq_true_eq,Bool.not_eq_true',decide_eq_false_iff_not] at m
 refine⟨g,fun b h1=>Zvn (hb b h1).1,fun b h1=>Zvn (hb b h1).2.1,fun b h1 q h2 h3=>?_,by omega,by omega,by omega,by omega,by omega,fun p hp=>?_⟩
 case refine_2=>
  have:=List.any_eq_false.1 all.2.2 p hp
  simp only[Zhf,Zd9,Bool.not_eq_true,Bool.not_eq_false',Bool.and_eq_true,decide_eq_true_eq] at this
  exact this.2.1
 have:=List.any_eq_false.1 (hb b h1).2.2 q h2
 unfold ZpA at this
 exact this (List.any_eq_true.2 ⟨q,h3,by simp⟩)
def inR (d:Zu) (p:Int):Prop:=0≤p∧p.toNat<d.parts.length
theorem Zfs.src {d:Zu} (g:Zfs d) {e:Zr} (h:e∈d.edges):inR d e.src:=(Zpd (g.g.e e h)).1
theorem Zfs.dst {d:Zu} (g:Zfs d) {e:Zr} (h:e∈d.edges):inR d e.dst:=(Zpd (g.g.e e h)).2.1
theorem Zfs.maker {d:Zu} (g:Zfs d) {f:Zk} (h:f∈d.futures):inR d f.maker:=(Zpd (g.g.f f h).1).1
theorem Zfs.user {d:Zu} (g:Zfs d) {f:Zk} (h:f∈d.futures):inR d f.user:=(Zpd (g.g.f f h).1).2.1
theorem Zfs.short {d:Zu} (g:Zfs d) (hs:∀b∈d.barriers,ZyO b):Zk9 d:=⟨by have:=g.pl; omega,by have:=g.el; omega,by have:=g.fl; omega,by have:=g.bl; omega,hs⟩
end Go.Proofs.YtljgncbdagmeeaaDoor
namespace Go.Proofs.YtljgncbdagmeeaaDoor
open Go Go.Proofs.YtljgncbdagmeeaaDoorE
set_option linter.unusedVariables false
set_option linter.unusedSimpArgs false
def ZkX (n:Nat) (x:Int):Bool:=decide (0≤x)&&decide (x<(n:Int))
end Go.Proofs.YtljgncbdagmeeaaDoor
namespace Go.Proofs.YtljgncbdagmeeaaDoor
open Go Go.Proofs.YtljgncbdagmeeaaDoorE
set_option linter.unusedVariables false
set_option linter.unusedSimpArgs false
theorem ZvJ {γ:Type} (p:γ→Bool):∀(l:List γ) (i:Nat),(sel p (fun i _=>(i:Int)) i l).Pairwise (fun x y=>x<y)∧∀z∈sel p (fun i _=>(i:Int)) i l,(i:Int)≤z:=by
 intro l
 induction l with
 | nil=>intro i; simp[sel]
 | cons x l ih=>
  intro i
  obtain⟨h1,h2⟩:=ih (i+1)
  unfold sel
  cases p x with
  | true=>
   simp only[cond_true,List.pairwise_cons,List.mem_cons]
   refine⟨⟨fun z hz=>?_,h1⟩,?_⟩
   ·have:=h2 z hz; omega
   ·rintro z (rfl | hz)
    ·exact Int.le_refl _
    ·have:=h2 z hz; omega
  | false=>
   simp only[cond_false]
   exact⟨h1,fun z hz=>by have:=h2 z hz; omega⟩
def ZnU (d:Zu) (u:Int) (t:Int):List Int:=sel (fun f:Zk=>f.user==u&&f.pos==t) (fun i _=>(i:Int)) 0 d.futures
theorem Znm (d:Zu) (u t z:Int):z∈ZnU d u t↔∃(i:Nat) (f:Zk),d.futures[i]? = some f∧f.user=u∧f.pos=t∧z=(i:Int):=by
 unfold ZnU
 rw[Zob]
 simp[and_assoc]
theorem Zly {d:Zu} {u t z:Int} (h:z∈ZnU d u t):Zf1 d.futures z=t:=by
 obtain⟨i,f,h1,_,h3,rfl⟩:=(Znm d u t z).1 h
 unfold Zf1
 rw[Int.toNat_natCast,h1,← h3]
theorem Zo5 {d:Zu} {u t z:Int} (h:z∈ZnU d u t):∃(i:Nat) (f:Zk),d.futures[i]? = some f∧f.user=u∧z=(i:Int):=by
 obtain⟨i,f,h1,h2,_,h4⟩:=(Znm d u t z).1 h
 exact⟨i,f,h1,h2,h4⟩
def tl (d:Zu) (u:Int):Nat→Nat→List Int
 | _,0=>[]
 | i,k+1=>ZnU d u ((i+1:Nat):Int)++tl d u (i+1) k
theorem ZsR (d:Zu) (u z:Int):∀(k i:Nat),z∈tl d u i k↔∃t:Nat,i<t∧t≤i+k∧z∈ZnU d u (t:Int)
 | 0,i=>by
  unfold tl
  constructor
  ·intro h; cases h
  ·rintro ⟨t,h1,h2,_⟩; omega
 | k+1,i=>by
  unfold tl
  rw[List.mem_append,ZsR d u z k (i+1)]
  constructor
  ·rintro (h | ⟨t,h1,h2,h3⟩)
   ·exact⟨i+1,by omega,by omega,h⟩
   ·exact⟨t,by omega,by omega,h3⟩
  ·rintro ⟨t,h1,h2,h3⟩
   by_cases h:t=i+1
   ·subst h; exact .inl h3
   ·exact .inr ⟨t,by omega,by omega,h3⟩
theorem Zup {d:Zu} (g:Zmr d) (u:Int):∀(k i:Nat),(tl d u i k).Pairwise (fun x y=>Zf1 d.futures x<Zf1 d.futures y)
 | 0,i=>List.Pairwise.nil
 | k+1,i=>by
  unfold tl
  rw[List.pairwise_append]
  refine⟨?_,Zup g u k (i+1),fun x hx y hy=>?_⟩
  ·refine Zry (ZvJ _ _ _).1 fun x y hx hy hlt=>?_
   have hx':x∈ZnU d u ((i+1:Nat):Int):=hx
   have hy':y∈ZnU d u ((i+1:Nat):Int):=hy
   exact absurd ((Zly hx').trans (Zly hy').symm) (Zxi g (Zo5 hx') (Zo5 hy') (by omega))
  ·obtain⟨t,h1,h2,h3⟩:=(ZsR d u y k (i+1)).1 hy
   rw[Zly hx,Zly h3]
   omega
theorem Ztc {d:Zu} (g:Zmr d) (u:Int):Zht d u (tl d u 0 99):=by
 refine⟨fun z=>?_,Zup g u 99 0⟩
 rw[ZsR]
 constructor
 ·rintro ⟨t,_,_,h⟩; exact Zo5 h
 ·rintro ⟨i,f,h1,h2,h3⟩
  have hf:=g.f f (List.mem_of_getElem? h1)
  have hw:=ZlA g f.user
  refine⟨f.pos.toNat,by omega,by omega,?_⟩
  rw[Znm]
  exact⟨i,f,h1,h2,by omega,h3⟩
end Go.Proofs.YtljgncbdagmeeaaDoor
namespace Go.Proofs.YtljgncbdagmeeaaDoor
open Go Go.Proofs.YtljgncbdagmeeaaDoorE
set_option linter.unusedVariables false
set_option linter.unusedSimpArgs false
def ZnY {γ S:Type} (f:Nat→S→γ→S):Nat→S→List γ→S
 | _,s,[]=>s
 | i,s,x :: l=>ZnY f (i+1) (f i s x) l
theorem ZvU {γ S T R:Type} (l:List γ) (step:T→Option (T⊕R)) (st:Nat→S→T) (f:Nat→S→γ→S) (fin:S→R) (I:Nat→S→Prop)
  (h1:∀i x s,i<l.length→l[i]? = some x→I i s→step (st i s)=some (.inl (st (i+1) (f i s x)))∧I (i+1) (f i s x))
  (h2:∀s,I l.length s→step (st l.length s)=some (.inr (fin s))) (s:S) (h0:I 0 s) :
  lp step (st 0 s)=some (fin (ZnY f 0 s l))∧I l.length (ZnY f 0 s l):=by
 have key:∀(k i:Nat) (s:S),i+k=l.length→I i s→lp step (st i s)=some (fin (ZnY f i s (l.drop i)))∧I l.length (ZnY f i s (l.drop i)):=by
  intro k
  induction k with
  | zero=>
   intro i s hi hI
   have:i=l.length:=by omega
   subst this
   rw[List.drop_length,Zcn,h2 s hI]
   exact⟨rfl,hI⟩
  | succ k ih=>
   intro i s hi hI
   have hi':i<l.length:=by omega
   obtain⟨e,hI'⟩:=h1 i l[i] s hi' (List.getElem?_eq_getElem hi') hI
   rw[List.drop_eq_getElem_cons hi',Zcn,e]
   exact ih (i+1) _ (by omega) hI'
 have:=key l.length 0 s (by omega) h0
 rwa [List.drop_zero] at this
def ZiI (w:Int):Bool:=decide (w<0) || decide (1000<w)
def Zn1 (g:Zb4) (i:Nat) (e:Zr):Bool:=!(ZkX g.work.length e.src) || (!(ZkX g.work.length e.dst) || ((e.src==e.dst) || (g.edges.take i).any (ZoA e)))
def Zli (g:Zb4):Int:=bif decide (64<(g.work.length:Int)) || decide (256<(g.edges.length:Int)) then 40 else bif g.work.any ZiI then 41 else bif Zh3 (Zn1 g) 0 g.edges then 42 else 0
structure Zrg (g:Zb4):Prop where
 w:g.work.length<9223372036854775808
 e:g.edges.length<9223372036854775808
theorem Zvw (w:Int):ZdY w=some (ZiI w):=by
 unfold ZdY ZiI
 cases decide (w<0)<;>cases decide (1000<w)<;>rfl
theorem Zw9 (a:Int) (l:List Int):Zgg a l=some (ZkX l.length a):=by
 unfold Zgg ZkX
 cases decide (0≤a)<;>cases decide (a<(l.length:Int))<;>rfl
theorem ZsA (g:Zb4) (h:Zrg g):lp (Ze9 g) 0=some (bif Zh3 (Zn1 g) 0 g.edges then .inl () else .inr ()):=by
 have key:=Zf4 g.edges (Ze9 g) (Zn1 g) (fun _ _=>.inl ()) (.inr ()) (fun i x hi hx=>by
   have e0:decide ((0:Int)≤(i:Int))=true:=decide_eq_true (by omega)
   have e1:Nat.ble i g.edges.length=true:=Nat.ble_eq_true_of_le (by omega)
   simp only[Ze9,Zgo hi,Zb0 hx,Option.bind_some,ZaM hi h.e,cond_true,Zw9,Zn1,e0,Int.toNat_natCast,e1,ZqD _ x (Zmk h.e)]
   cases ZkX g.work.length x.src<;>cases ZkX g.work.length x.dst<;>cases (x.src==x.dst)<;>cases (g.edges.take i).any (ZoA x)<;>rfl) (by simp only[Ze9,Zho]; rfl)
 rw[key,ZdQ]
inductive Way (g:Zb4):Int→Int→Prop
 | one {e:Zr}:e∈g.edges→Way g e.src e.dst
 | more {a:Int} {e:Zr}:Way g a e.src→e∈g.edges→Way g a e.dst
theorem Way.trans {g:Zb4} {a b c:Int} (h1:Way g a b) (h2:Way g b c):Way g a c:=by
 induction h2 with
 | one he=>exact Way.more h1 he
 | more _ he ih=>exact Way.more (ih h1) he
def Zov (g:Zb4):Prop:=∀a,¬Way g a a
structure Ziz (g:Zb4):Prop where
 wl:g.work.length≤64
 el:g.edges.length≤256
 w:∀x∈g.work,0≤x∧x≤1000
 src:∀e∈g.edges,0≤e.src∧e.src.toNat<g.work.length
 dst:∀e∈g.edges,0≤e.dst∧e.dst.toNat<g.work.length
theorem Ziz.short {g:Zb4} (h:Ziz g):Zrg g:=⟨by have:=h.wl; omega,by have:=h.el; omega⟩
theorem Zqi {n:Nat} {a:Int} (h:ZkX n a=true):0≤a∧a.toNat<n:=by
 unfold ZkX at h
 simp only[Bool.and_eq_true,decide_eq_true_eq] at h
 omega
theorem ZrE {g:Zb4} (h:Zli g=0):Ziz g:=by
 unfold Zli at h
 cases h1:decide (64<(g.work.length:Int)) with
 | true=>rw[h1] at h; simp at h
 | false=>
 cases h2:decide (256<(g.edges.length:Int)) with
 | true=>rw[h1,h2] at h; simp at h
 | false=>
 cases h3:g.work.any ZiI with
 | true=>rw[h1,h2,h3] at h; simp at h
 | false=>
 cases h4:Zh3 (Zn1 g) 0 g.edges with
 | true=>rw[h1,h2,h3,h4] at h; simp at h
 | false=>
 have hE:∀e∈g.edges,∃i,Zn1 g i e=false:=fun e he=>by
  obtain⟨i,hi⟩:=List.getElem?_of_mem he
  refine⟨i,?_⟩
  cases hb:Zn1 g i e with
  | false=>rfl
  | true=>rw[(Zk0 _ _ 0).2 ⟨i,e,hi,by simpa using hb⟩] at h4; cases h4
 refine⟨by have:=of_decide_eq_false h1; omega,by have:=of_decide_eq_false h2; omega,fun x hx=>?_,fun e he=>?_,fun e he=>?_⟩
 ·have:=List.any_eq_false.1 h3 x hx
  unfold ZiI at this
  simp only[Bool.or_eq_true,decide_eq_true_eq,not_or] at this
  omega
 ·obtain⟨i,hi⟩:=hE e he
  unfold Zn1 at hi
  simp only[Bool.or_eq_false_iff,Bool.not_eq_false'] at hi
  exact Zqi hi.1
 ·obtain⟨i,hi⟩:=hE e he
  unfold Zn1 at hi
  simp only[Bool.or_eq_false_iff,Bool.not_eq_false'] at hi
  exact Zqi hi.2.1
theorem Way.dst_in {g:Zb4} (h:Ziz g) {a b:Int} (w:Way g a b):0≤b∧b.toNat<g.work.length:=by
 cases w with
 | one he=>exact h.dst _ he
 | more _ he=>exact h.dst _ he
theorem Way.src_in {g:Zb4} (h:Ziz g) {a b:Int} (w:Way g a b):0≤a∧a.toNat<g.work.length:=by
 induction w with
 | one he=>exact h.src _ he
 | more _ _ ih=>exact ih
theorem Zwu {g:Zb4} (hg:Zov g):∀(n:Nat) (S:List Int),S.length≤n→S≠[]→∃m∈S,∀e∈g.edges,e.dst=m→e.src∉S:=by
 intro n
 induction n with
 | zero=>intro S h1 h2; exact absurd (List.length_eq_zero_iff.1 (by omega)) h2
 | succ n ih=>
  intro S h1 h2
  obtain⟨m,hm⟩:=List.exists_mem_of_ne_nil S h2
  classical
  by_cases hS:(S.filter fun x=>decide (Way g x m))=[]
  ·refine⟨m,hm,fun e he hd hs=>?_⟩
   have:e.src∈S.filter fun x=>decide (Way g x m):=List.mem_filter.2 ⟨hs,decide_eq_true (hd ▸ Way.one he)⟩
   rw[hS] at this
   cases this
  ·have hlt:(S.filter fun x=>decide (Way g x m)).length<S.length:=by
    refine Nat.lt_of_le_of_ne (List.length_filter_le _ _) fun he=>?_
    have:=List.length_filter_eq_length_iff.1 he m hm
    exact hg m (of_decide_eq_true this)
   obtain⟨k,hk,hk2⟩:=ih _ (by omega) hS
   obtain⟨k1,k2⟩:=List.mem_filter.1 hk
   refine⟨k,k1,fun e he hd hs=>hk2 e he hd (List.mem_filter.2 ⟨hs,decide_eq_true ?_⟩)⟩
   exact(hd ▸ Way.one he:Way g e.src k).trans (of_decide_eq_true k2)
def bAt (l:List Bool) (z:Int):Bool:=match l[z.toNat]? with | some b=>b | none=>false
def ZnI (g:Zb4) (done:List Bool) (i:Nat):Bool:=!(bAt done (i:Int)) && !(g.edges.any fun e=>(e.dst==(i:Int)) && !(bAt done e.src))
def ZnN (g:Zb4) (done:List Bool):Option Nat:=ZiP (fun i _=>ZnI g done i) (fun i _=>some i) none 0 g.work
def Znh (g:Zb4):Nat→List Int→List Bool→Option (List Int)
 | 0,out,_=>some out
 | k+1,out,done=>(match ZnN g done with | some i=>Znh g k (out++[(i:Int)]) (done.set i true) | none=>none)
theorem ZrW {γ R S:Type} (p:Nat→γ→Bool) (out:Nat→γ→R) (fin:R) (F:R→S):∀(l:List γ) (i:Nat),F (ZiP p out fin i l)=ZiP p (fun i x=>F (out i x)) (F fin) i l
 | [],i=>rfl
 | x :: l,i=>by
  unfold ZiP
  cases p i x with
  | true=>rfl
  | false=>exact ZrW p out fin F l (i+1)
theorem ZqB {γ:Type} (p:Nat→γ→Bool):∀(l:List γ) (i k:Nat),ZiP p (fun i _=>some i) none i l=some k→i≤k∧k<i+l.length∧∃x,l[k-i]? = some x∧p k x=true
 | [],i,k,h=>by cases h
 | x :: l,i,k,h=>by
  unfold ZiP at h
  cases hp:p i x with
  | true=>
   rw[hp] at h
   cases h
   exact⟨Nat.le_refl _,by simp,x,by simp,hp⟩
  | false=>
   rw[hp] at h
   obtain⟨h1,h2,y,h3,h4⟩:=ZqB p l (i+1) k h
   refine⟨by omega,by simp only[List.length_cons]; omega,y,?_,h4⟩
   rw[show k-i=(k-(i+1))+1 by omega]
   exact h3
theorem Zp6 {γ:Type} (p:Nat→γ→Bool):∀(l:List γ) (i:Nat),ZiP p (fun i _=>some i) none i l=none→∀(j:Nat) x,l[j]? = some x→p (i+j) x=false
 | [],i,h,j,x,hx=>by cases hx
 | y :: l,i,h,j,x,hx=>by
  unfold ZiP at h
  cases hp:p i y with
  | true=>rw[hp] at h; cases h
  | false=>
   rw[hp] at h
   cases j with
   | zero=>cases hx; exact hp
   | succ j=>
    have:=Zp6 p l (i+1) h j x hx
    rwa [show i+1+j=i+(j+1) by omega] at this
theorem Zt2 {g:Zb4} {done:List Bool} (hd:done.length=g.work.length) {z:Int} (h:0≤z∧z.toNat<g.work.length):Zz done z=some (bAt done z):=by
 have e:=List.getElem?_eq_getElem (show z.toNat<done.length by rw[hd]; exact h.2)
 rw[Zrn h.1 e]
 unfold bAt
 rw[e]
theorem ZzR {g:Zb4} (h:Ziz g) (out:List Int) (ho:out.length<g.work.length) (done:List Bool) (hd:done.length=g.work.length) :
  lp (ZeT g (out,done)) 0=some (match ZnN g done with | some i=>.inl (out++[(i:Int)],done.set i true) | none=>.inr ()):=by
 have key:=Zf4 g.work (ZeT g (out,done)) (fun i _=>ZnI g done i) (fun i _=>.inl (out++[(i:Int)],done.set i true)) (.inr ()) (fun i x hi hx=>by
   have inner:=Zf4 g.edges (ZfV g (out,done) (i:Int)) (fun _ e=>(e.dst==(i:Int)) && !(bAt done e.src)) (fun _ _=>.inl ()) (.inr ()) (fun k e hk he=>by
     simp only[ZfV,Zgo hk,Zb0 he,Option.bind_some,ZaM hk h.short.e,cond_true,Zt2 hd (h.src e (List.mem_of_getElem? he))]
     cases (e.dst==(i:Int))<;>cases bAt done e.src<;>rfl) (by simp only[ZfV,Zho]; rfl)
   rw[ZdQ,ZhB] at inner
   have hl:=h.wl
   simp only[ZeT,Zgo hi,Zt2 hd (z:=(i:Int)) ⟨by omega,by simpa using hi⟩,Option.bind_some,ZaM hi h.short.w,cond_true,inner,Zjn (show out.length+1≤1073741824 by omega),Int.toNat_natCast,ZnI]
   cases bAt done (i:Int)<;>cases g.edges.any (fun e=>(e.dst==(i:Int)) && !(bAt done e.src))<;>rfl) (by simp only[ZeT,Zho]; rfl)
 rw[key]
 unfold ZnN
 exact congrArg some (ZrW (fun i _=>ZnI g done i) (fun i _=>some i) none (fun o:Option Nat=>(match o with | some i=>(.inl (out++[(i:Int)],done.set i true):(List Int×List Bool)⊕Unit) | none=>.inr ())) g.work 0).symm
theorem Zum {g:Zb4} (h:Ziz g):∀(k:Nat) (out:List Int) (done:List Bool),out.length+k=g.work.length→done.length=g.work.length →
  ∃r,lp (ZfX g) (out,done)=some r∧(match Znh g k out done with | some l=>r = .inr l | none=>∃l,r = .inl l)
 | 0,out,done,h1,h2=>by
  rw[Zcn]
  simp only[ZfX,show out.length=g.work.length by omega,Zho,cond_false]
  exact⟨_,rfl,rfl⟩
 | k+1,out,done,h1,h2=>by
  rw[Zcn]
  simp only[ZfX,Zgo (show out.length<g.work.length by omega),cond_true,ZzR h out (by omega) done h2,Option.bind_some]
  unfold Znh
  cases ZnN g done with
  | none=>exact⟨_,rfl,_,rfl⟩
  | some i=>exact Zum h k (out++[(i:Int)]) (done.set i true) (by rw[List.length_append]; simp only[List.length_cons,List.length_nil]; omega) (by rw[List.length_set]; exact h2)
theorem Zue {g:Zb4} (h:Ziz g):ZfZ g=some (match Znh g g.work.length [] (List.replicate g.work.length false) with | some l=>(l,true) | none=>([],false)):=by
 obtain⟨r,e,hr⟩:=Zum h g.work.length [] (List.replicate g.work.length false) (by simp) (by simp)
 have hl:=h.wl
 unfold ZfZ
 rw[decide_eq_true (show(0:Int)≤(g.work.length:Int) by omega),decide_eq_true (show(g.work.length:Int)≤lim by show(g.work.length:Int)≤1073741824; omega),beq_self_eq_true]
 simp only[decide_true,Bool.and_true,cond_true,Int.toNat_natCast,e,Option.bind_some]
 cases ho:Znh g g.work.length [] (List.replicate g.work.length false) with
 | some l=>rw[ho] at hr; simp only at hr; subst hr; rfl
 | none=>rw[ho] at hr; obtain⟨l,rfl⟩:=hr; rfl
structure ZgP (g:Zb4) (out:List Int) (done:List Bool):Prop where
 dl:done.length=g.work.length
 mem:∀i:Nat,bAt done (i:Int)=true↔(i:Int)∈out
 inn:∀z∈out,0≤z∧z.toNat<g.work.length
 nod:out.Nodup
 topo:∀(i:Nat) (n:Int),out[i]? = some n→∀e∈g.edges,e.dst=n→∃j,j<i∧out[j]? = some e.src
theorem ZyA {done:List Bool} {i:Nat} (hi:i<done.length) (z:Int) (hz:0≤z):bAt (done.set i true) z=(decide (z=(i:Int)) || bAt done z):=by
 unfold bAt
 rw[List.getElem?_set]
 by_cases h:i=z.toNat
 ·subst h
  rw[if_pos rfl,if_pos hi,decide_eq_true (show z=((z.toNat:Nat):Int) by omega)]; rfl
 ·rw[if_neg h,decide_eq_false (show ¬z=(i:Int) by omega)]; rfl
theorem ZgP.start (g:Zb4):ZgP g [] (List.replicate g.work.length false):=by
 refine⟨by simp,fun i=>?_,by simp,by simp,by simp⟩
 unfold bAt
 rw[List.getElem?_replicate]
 by_cases h:((i:Int)).toNat<g.work.length
 ·rw[if_pos h]; simp
 ·rw[if_neg h]; simp
theorem ZgP.next {g:Zb4} (h:Ziz g) {out:List Int} {done:List Bool} (o:ZgP g out done) {i:Nat} (hn:ZnN g done=some i):ZgP g (out++[(i:Int)]) (done.set i true):=by
 obtain⟨_,hi,x,_,hp⟩:=ZqB _ _ _ _ hn
 rw[Nat.zero_add] at hi
 unfold ZnI at hp
 simp only[Bool.and_eq_true,Bool.not_eq_true',List.any_eq_false,Bool.not_eq_true] at hp
 have hid:i<done.length:=by rw[o.dl]; exact hi
 have hnot:(i:Int)∉out:=fun hm=>by have:=(o.mem i).2 hm; rw[hp.1] at this; cases this
 refine⟨by rw[List.length_set]; exact o.dl,fun j=>?_,fun z hz=>?_,?_,fun k n hk e he hd=>?_⟩
 ·rw[ZyA hid (j:Int) (by omega),Bool.or_eq_true,decide_eq_true_eq,o.mem,List.mem_append,List.mem_singleton]
  exact Or.comm
 ·rcases List.mem_append.1 hz with hz | hz
  ·exact o.inn z hz
  ·rw[List.mem_singleton] at hz; subst hz; exact⟨by omega,by simpa using hi⟩
 ·rw[List.nodup_append]
  refine⟨o.nod,by simp,fun a ha b hb=>?_⟩
  rw[List.mem_singleton] at hb
  subst hb
  exact fun hab=>hnot (hab ▸ ha)
 ·rcases Nat.lt_or_ge k out.length with hk2 | hk2
  ·rw[List.getElem?_append_left hk2] at hk
   obtain⟨j,h1,h2⟩:=o.topo k n hk e he hd
   exact⟨j,h1,by rw[List.getElem?_append_left (by omega)]; exact h2⟩
  ·rw[List.getElem?_append_right hk2] at hk
   have hk0:k-out.length=0:=by
    rcases Nat.eq_zero_or_pos (k-out.length) with h0 | h0
    ·exact h0
    ·rw[List.getElem?_eq_none (by simp only[List.length_cons,List.length_nil]; omega)] at hk; cases hk
   rw[hk0] at hk
   simp only[List.getElem?_cons_zero,Option.some.injEq] at hk
   subst hk
   have hs:=hp.2 e he
   rw[hd] at hs
   have hs:bAt done e.src=true:=by simpa using hs
   have hsr:=h.src e he
   have:=(o.mem e.src.toNat).1 (by rw[show((e.src.toNat:Nat):Int)=e.src by omega]; exact hs)
   rw[show((e.src.toNat:Nat):Int)=e.src by omega] at this
   obtain⟨j,hj⟩:=List.getElem?_of_mem this
   have hjl:=(List.getElem?_eq_some_iff.1 hj).1
   exact⟨j,by omega,by rw[List.getElem?_append_left hjl]; exact hj⟩
theorem ZgP.way {g:Zb4} {out:List Int} {done:List Bool} (o:ZgP g out done) {a b:Int} (w:Way g a b):∀j:Nat,out[j]? = some b→∃i,i<j∧out[i]? = some a:=by
 induction w with
 | one he=>intro j hj; exact o.topo j _ hj _ he rfl
 | more _ he ih=>
  intro j hj
  obtain⟨i,h1,h2⟩:=o.topo j _ hj _ he rfl
  obtain⟨k,h3,h4⟩:=ih i h2
  exact⟨k,by omega,h4⟩
theorem Zvc {l:List Int} (h:l.Nodup) {i j:Nat} {a:Int} (h1:l[i]? = some a) (h2:l[j]? = some a):i=j:=by
 obtain⟨a1,a2⟩:=List.getElem?_eq_some_iff.1 h1
 obtain⟨b1,b2⟩:=List.getElem?_eq_some_iff.1 h2
 exact(List.getElem_inj h).1 (a2.trans b2.symm)
def Zxq (n:Nat) (done:List Bool):List Int:=((List.range n).filter fun i:Nat=>!bAt done (i:Int)).map fun i:Nat=>(i:Int)
theorem Zpc {n:Nat} {done:List Bool} {i:Nat} (h1:i<n) (h2:bAt done (i:Int)=false):(i:Int)∈Zxq n done:=
 List.mem_map.2 ⟨i,List.mem_filter.2 ⟨List.mem_range.2 h1,by rw[h2]; rfl⟩,rfl⟩
theorem Zvj {g:Zb4} (h:Ziz g) (hg:Zov g) {out:List Int} {done:List Bool} (o:ZgP g out done) (i0:Nat) (hi0:i0<g.work.length) (hb:bAt done (i0:Int)=false):∃i,ZnN g done=some i:=by
 cases hn:ZnN g done with
 | some i=>exact⟨i,rfl⟩
 | none=>
  exfalso
  have hall:=Zp6 _ _ _ hn
  obtain⟨m,hm,hm2⟩:=Zwu hg _ (Zxq g.work.length done) (Nat.le_refl _) (by
   intro he
   have:=Zpc hi0 hb
   rw[he] at this; cases this)
  obtain⟨k,hk,rfl⟩:=List.mem_map.1 hm
  obtain⟨hk1,hk2⟩:=List.mem_filter.1 hk
  rw[List.mem_range] at hk1
  have hr:=hall k g.work[k] (List.getElem?_eq_getElem hk1)
  rw[Nat.zero_add] at hr
  unfold ZnI at hr
  rw[hk2,Bool.true_and,Bool.not_eq_false',List.any_eq_true] at hr
  obtain⟨e,he,he2⟩:=hr
  simp only[Bool.and_eq_true,beq_iff_eq] at he2
  have hsr:=h.src e he
  refine hm2 e he he2.1 ?_
  have es:((e.src.toNat:Nat):Int)=e.src:=by omega
  rw[← es]
  exact Zpc hsr.2 (by rw[es]; simpa using he2.2)
theorem ZxC {n:Nat} {out:List Int} (h1:out.Nodup) (h2:∀z∈out,0≤z∧z.toNat<n):(out.length≤n)∧(out.length=n→∀i:Nat,i<n→(i:Int)∈out):=by
 induction n generalizing out with
 | zero=>
  refine⟨?_,fun _ i hi=>absurd hi (by omega)⟩
  cases out with
  | nil=>simp
  | cons z l=>have:=h2 z (by simp); omega
 | succ n ih=>
  by_cases hm:(n:Int)∈out
  ·have e1:(out.erase (n:Int)).length=out.length-1:=List.length_erase_of_mem hm
   have pos:0<out.length:=List.length_pos_of_mem hm
   obtain⟨a,b⟩:=ih (out:=out.erase (n:Int)) (h1.erase _) (fun z hz=>by
    have hz2:=(List.Nodup.mem_erase_iff h1).1 hz
    have:=h2 z hz2.2
    have:=hz2.1
    omega)
   refine⟨by omega,fun hl i hi=>?_⟩
   by_cases hin:i=n
   ·subst hin; exact hm
   ·exact List.mem_of_mem_erase (b (by omega) i (by omega))
  ·obtain⟨a,b⟩:=ih (out:=out) h1 (fun z hz=>by
    have:=h2 z hz
    have:z≠(n:Int):=fun he=>hm (he ▸ hz)
    omega)
   exact⟨by omega,fun hl=>by omega⟩
theorem ZxA:∀(n:Nat) (out:List Int),(∀i:Nat,i<n→(i:Int)∈out)→n≤out.length
 | 0,out,h=>by omega
 | n+1,out,h=>by
  have hm:=h n (by omega)
  have e1:(out.erase (n:Int)).length=out.length-1:=List.length_erase_of_mem hm
  have pos:0<out.length:=List.length_pos_of_mem hm
  have:=ZxA n (out.erase (n:Int)) (fun i hi=>(List.mem_erase_of_ne (by omega)).2 (h i (by omega)))
  omega
theorem Zl6 {g:Zb4} (h:Ziz g):∀(k:Nat) (out:List Int) (done:List Bool),ZgP g out done→out.length+k=g.work.length→(∀l,Znh g k out done=some l→∃done',ZgP g l done'∧l.length=g.work.length)∧(Zov g→∃l,Znh g k out done=some l)
 | 0,out,done,o,hl=>⟨fun l h=>by cases h; exact⟨done,o,by omega⟩,fun _=>⟨out,rfl⟩⟩
 | k+1,out,done,o,hl=>by
  unfold Znh
  cases hn:ZnN g done with
  | none=>
   refine⟨fun l h=>(by cases h),fun hg=>?_⟩
   exfalso
   have hex:∃i0,i0<g.work.length∧(i0:Int)∉out:=by
    apply Classical.byContradiction
    intro hc
    have hc2:∀i0,i0<g.work.length→(i0:Int)∈out:=fun i0 hi=>Classical.byContradiction fun hx=>hc ⟨i0,hi,hx⟩
    have sub:=ZxA g.work.length out hc2
    omega
   obtain⟨i0,h1,h2⟩:=hex
   obtain⟨i,hi⟩:=Zvj h hg o i0 h1 (by
    cases hb:bAt done (i0:Int) with
    | false=>rfl
    | true=>exact absurd ((o.mem i0).1 hb) h2)
   rw[hn] at hi
   cases hi
  | some i=>
   exact Zl6 h k _ _ (o.next h hn) (by rw[List.length_append]; simp only[List.length_cons,List.length_nil]; omega)
theorem ZxV {g:Zb4} (h:Ziz g) {l:List Int} {done:List Bool} (o:ZgP g l done) (hl:l.length=g.work.length):Zov g:=by
 intro a w
 have ha:=w.src_in h
 have hm:=(ZxC o.nod o.inn).2 hl a.toNat ha.2
 rw[show((a.toNat:Nat):Int)=a by omega] at hm
 obtain⟨j,hj⟩:=List.getElem?_of_mem hm
 obtain⟨i,h1,h2⟩:=o.way w j hj
 have:=Zvc o.nod h2 hj
 omega
structure ZA6 (g:Zb4) (l:List Int):Prop where
 len:l.length=g.work.length
 all:∀i:Nat,i<g.work.length→(i:Int)∈l
 inn:∀z∈l,0≤z∧z.toNat<g.work.length
 nod:l.Nodup
 topo:∀(i:Nat) (n:Int),l[i]? = some n→∀e∈g.edges,e.dst=n→∃j,j<i∧l[j]? = some e.src
theorem ZpZ {g:Zb4} (h:Ziz g) (hg:Zov g):∃l,ZfZ g=some (l,true)∧ZA6 g l:=by
 obtain⟨k1,k2⟩:=Zl6 h g.work.length [] _ (ZgP.start g) (by simp)
 obtain⟨l,hl⟩:=k2 hg
 obtain⟨done,o,hn⟩:=k1 l hl
 exact⟨l,by rw[Zue h,hl],hn,(ZxC o.nod o.inn).2 hn,o.inn,o.nod,o.topo⟩
theorem ZxN {g:Zb4} (h:Ziz g) (hg:¬Zov g):ZfZ g=some ([],false):=by
 rw[Zue h]
 cases ho:Znh g g.work.length [] (List.replicate g.work.length false) with
 | none=>rfl
 | some l=>
  obtain⟨done,o,hn⟩:=(Zl6 h g.work.length [] _ (ZgP.start g) (by simp)).1 l ho
  exact absurd (ZxV h o hn) hg
noncomputable def ZvT (g:Zb4):Bool:=@decide (Zov g) (Classical.propDecidable _)
theorem Zyf {g:Zb4} (h:Zov g):ZvT g=true:=@decide_eq_true _ (Classical.propDecidable _) h
theorem ZtC {g:Zb4} (h:¬Zov g):ZvT g=false:=@decide_eq_false _ (Classical.propDecidable _) h
noncomputable def ZjM (g:Zb4):Int:=bif Zli g==0 then (bif ZvT g then 0 else 43) else Zli g
theorem Zqh {g:Zb4} (h:ZjM g=0):Ziz g∧Zov g:=by
 unfold ZjM at h
 by_cases h0:Zli g=0
 ·rw[h0] at h
  refine⟨ZrE h0,Classical.byContradiction fun hn=>?_⟩
  rw[ZtC hn] at h
  simp at h
 ·rw[beq_false_of_ne h0] at h
  exact absurd h h0
theorem Zow (g:Zb4) (h:Zrg g):Zhu g=some (ZjM g):=by
 have hw:=Zl3 g.work (fun z0=>ZdY z0) ZiI (fun x _=>Zvw x) h.w
 unfold Zhu ZjM
 rw[hw,ZsA g h]
 by_cases h0:Zli g=0
 ·have hG:=ZrE h0
  rw[h0]
  unfold Zli at h0
  by_cases hg:Zov g
  ·obtain⟨l,e,_⟩:=ZpZ hG hg
   rw[e,Zyf hg]
   revert h0
   cases decide (64<(g.work.length:Int))<;>cases decide (256<(g.edges.length:Int))<;>cases g.work.any ZiI<;>cases Zh3 (Zn1 g) 0 g.edges<;>simp
  ·rw[ZxN hG hg,ZtC hg]
   revert h0
   cases decide (64<(g.work.length:Int))<;>cases decide (256<(g.edges.length:Int))<;>cases g.work.any ZiI<;>cases Zh3 (Zn1 g) 0 g.edges<;>simp
 ·rw[beq_false_of_ne h0]
  unfold Zli at h0 ⊢
  revert h0
  cases decide (64<(g.work.length:Int))<;>cases decide (256<(g.edges.length:Int))<;>cases g.work.any ZiI<;>cases Zh3 (Zn1 g) 0 g.edges<;>simp
end Go.Proofs.YtljgncbdagmeeaaDoor
namespace Go.Proofs.YtljgncbdagmeeaaDoor
open Go Go.Proofs.YtljgncbdagmeeaaDoorE
set_option linter.unusedVariables false
set_option linter.unusedSimpArgs false
theorem Zja {K W:Type} (eq:K→K→Bool) (k:K) (v:W):∀l:List (K×W),(∀q∈l,eq k q.1=false)→Zx eq l k v=l++[(k,v)]
 | [],_=>rfl
 | (a,u) :: r,h=>by
  unfold Zx
  rw[h (a,u) (by simp)]
  simp only[cond_false,List.cons_append]
  rw[Zja eq k v r fun q hq=>h q (by simp[hq])]
theorem ZjJ {K W:Type} (eq:K→K→Bool) (k:K) (z:W) (m:List (K×W)):∀l:List (K×W),(∀q∈l,eq k q.1=false)→ZaL eq (l++m) k z=ZaL eq m k z
 | [],_=>rfl
 | (a,u) :: r,h=>by
  rw[List.cons_append]
  conv=>lhs; unfold ZaL
  rw[h (a,u) (by simp)]
  exact ZjJ eq k z m r fun q hq=>h q (by simp[hq])
theorem Zkk {K W:Type} (eq:K→K→Bool) (k:K) (z:W) (m:List (K×W)):∀l:List (K×W),(∃q∈l,eq k q.1=true)→ZaL eq (l++m) k z=ZaL eq l k z
 | [],h=>by obtain⟨q,hq,_⟩:=h; simp at hq
 | (a,u) :: r,h=>by
  rw[List.cons_append]
  unfold ZaL
  cases hb:eq k a with
  | true=>rfl
  | false=>
   simp only[cond_false]
   refine Zkk eq k z m r ?_
   obtain⟨q,hq,hk⟩:=h
   rcases List.mem_cons.1 hq with rfl | hq
   ·rw[hb] at hk; cases hk
   ·exact⟨q,hq,hk⟩
abbrev eqI:Int→Int→Bool:=fun ka kb:Int=>(ka==kb)
theorem ZnW {K W:Type} (eq:K→K→Bool) (k:K) (v w:W) (hk:eq k k=true):∀l:List (K×W),(∀q∈l,eq k q.1=false)→Zx eq (l++[(k,v)]) k w=l++[(k,w)]
 | [],_=>by
  show(bif eq k k then _ else _)=_
  rw[hk]; rfl
 | (a,u) :: r,h=>by
  rw[List.cons_append]
  unfold Zx
  rw[h (a,u) (by simp)]
  simp only[cond_false,List.cons_append]
  rw[ZnW eq k v w hk r fun q hq=>h q (by simp[hq])]
theorem Zqj {K W:Type} (eq:K→K→Bool) (k:K) (z v:W) (hk:eq k k=true) (l m:List (K×W)) (h:∀q∈l,eq k q.1=false):ZaL eq (l++(k,v) :: m) k z=v:=by
 rw[ZjJ eq k z _ l h]
 show(bif eq k k then _ else _)=_
 rw[hk]; rfl
end Go.Proofs.YtljgncbdagmeeaaDoor
namespace Go.Proofs.YtljgncbdagmeeaaDoor
open Go Go.Proofs.YtljgncbdagmeeaaDoorE
set_option linter.unusedVariables false
set_option linter.unusedSimpArgs false
def tch (d:Zu) (n:Nat):List Int:=tl d (n:Int) 0 99
theorem Zmp {d:Zu} (g:Zmr d) (n:Nat):Zht d (n:Int) (tch d n):=Ztc g (n:Int)
theorem ZAB {d:Zu} (hs:Zk9 d) (hf:d.futures.length≤1000) (hc:Zh4 d=0) (n:Nat):Zd7 d (n:Int)=some (tch d n):=by
 obtain⟨r,h1,h2⟩:=ZuC d hs hf hc (n:Int)
 rw[h1,h2.eq (Zmp (Zq1 hc) n)]
abbrev nt (d:Zu) (n:Nat):Nat:=(tch d n).length
theorem ZwR {d:Zu} (g:Zfs d) (n:Nat):nt d n≤16:=Nat.le_trans (Zsb (Zmp g.g n)) g.fl
def cut (d:Zu) (n i:Nat):Int:=if i=0 then 0 else match (tch d n)[i-1]? with | some z=>Zf1 d.futures z | none=>Zhq d.parts (n:Int)
def Zkl (d:Zu) (n k:Nat):List Int:=(List.range k).map fun i=>cut d n (i+1)-cut d n i
def Zam (d:Zu):Nat→Nat
 | 0=>0
 | n+1=>Zam d n+(nt d n+1)
theorem ZiT {d:Zu} (g:Zfs d):∀n,Zam d n≤17*n
 | 0=>Nat.le_refl _
 | n+1=>by have:=ZiT g n; have:=ZwR g n; show Zam d n+(nt d n+1)≤_; omega
theorem Zke {d:Zu} {n i:Nat} (g:Zmr d) (hi:i<nt d n):∃f,Zz (tch d n) (i:Int)=some (tch d n)[i]∧Zz d.futures (tch d n)[i]=some f∧d.futures[((tch d n)[i]).toNat]? = some f∧f.user=(n:Int)∧f.pos=cut d n (i+1)∧f∈d.futures:=by
 obtain⟨j,f,h1,h2,h3⟩:=(Zmp g n).mem _ |>.1 (List.getElem_mem hi)
 refine⟨f,Zb0 (List.getElem?_eq_getElem hi),?_,?_,h2,?_,List.mem_of_getElem? h1⟩
 ·rw[h3]; exact Zb0 h1
 ·rw[h3,Int.toNat_natCast]; exact h1
 ·unfold cut
  rw[if_neg (by omega),Nat.add_sub_cancel,List.getElem?_eq_getElem hi]
  show _=Zf1 d.futures (tch d n)[i]
  unfold Zf1
  rw[h3,Int.toNat_natCast,h1]
theorem ZyS {d:Zu} (g:Zmr d) (n i:Nat):0≤cut d n i∧cut d n i≤100:=by
 unfold cut
 split
 ·omega
 ·have wb:0≤Zhq d.parts (n:Int)∧Zhq d.parts (n:Int)≤100:=by
   refine⟨?_,ZlA g _⟩
   unfold Zhq
   split
   ·rename_i p hp; have:=g.w p (List.mem_of_getElem? hp); omega
   ·omega
  split
  ·rename_i z hz
   obtain⟨j,f,h1,h2,h3⟩:=(Zmp g n).mem z |>.1 (List.mem_of_getElem? hz)
   have:=g.f f (List.mem_of_getElem? h1)
   have:=ZlA g f.user
   unfold Zf1
   rw[h3,Int.toNat_natCast,h1]
   show 0≤f.pos∧f.pos≤100
   omega
  ·exact wb
theorem Zyo (d:Zu) (n:Nat):cut d n (nt d n+1)=Zhq d.parts (n:Int):=by
 unfold cut
 rw[if_neg (by omega),Nat.add_sub_cancel,List.getElem?_eq_none (Nat.le_refl _)]
theorem ZrD (d:Zu) (n k:Nat):Zkl d n (k+1)=Zkl d n k++[cut d n (k+1)-cut d n k]:=by unfold Zkl; rw[List.range_succ,List.map_append]; rfl
theorem Zpt (d:Zu) (n k:Nat):(Zkl d n k).length=k:=by unfold Zkl; simp
def Zo8 (d:Zu) (n:Nat):List Int:=Zkl d n (nt d n+1)
theorem Zua {d:Zu} {n:Nat} (hn:n<d.parts.length):∃x,Zz d.parts (n:Int)=some x∧x.work=Zhq d.parts (n:Int):=by
 refine⟨d.parts[n],Zb0 (List.getElem?_eq_getElem hn),?_⟩
 unfold Zhq
 rw[Int.toNat_natCast,List.getElem?_eq_getElem hn]
def Ziv (d:Zu) (z:Int):Int:=(Zam d z.toNat:Int)
def Zji (d:Zu) (z:Int):Int:=(Zam d (z.toNat+1):Int)-1
def Zu1 (d:Zu) (f:Zk):Int:=ZiP (fun _ z=>Zf1 d.futures z==f.pos) (fun i _=>Ziv d f.user+(i:Int)+1) (-1) 0 (tch d f.user.toNat)
end Go.Proofs.YtljgncbdagmeeaaDoor
namespace Go.Proofs.YtljgncbdagmeeaaDoor
open Go Go.Proofs.YtljgncbdagmeeaaDoorE
set_option linter.unusedVariables false
set_option linter.unusedSimpArgs false
def upto {β:Type} (B:Nat→List β) (k:Nat):List β:=(List.range k).flatMap B
theorem ZdR {β:Type} (B:Nat→List β) (k:Nat):upto B (k+1)=upto B k++B k:=by unfold upto; rw[List.range_succ,List.flatMap_append]; simp
theorem ZqU {γ β:Type} (l:List γ) (hl:l.length≤1000) (step:Int×List β→Option ((Int×List β)⊕List β)) (g:γ→β)
  (h1:∀(i:Nat) x s,i<l.length→l[i]? = some x→Nat.ble (s.length+1) lim=true→step ((i:Int),s)=some (.inl (((i+1:Nat):Int),s++[g x])))
  (h2:∀s,step ((l.length:Int),s)=some (.inr s)) (s:List β) (hs:s.length≤1000000):lp step (0,s)=some (s++l.map g):=by
 have key:=(ZvU l step (fun i s=>((i:Int),s)) (fun _ s x=>s++[g x]) id (fun i s=>s.length≤1000000+i) (fun i x s hi hx hI=>⟨h1 i x s hi hx (Zjn (by omega)),by rw[List.length_append]; simp only[List.length_cons,List.length_nil]; omega⟩) (fun s _=>h2 s) s (by omega)).1
 have e:∀(l:List γ) (i:Nat) (s:List β),ZnY (fun _ s x=>s++[g x]) i s l=s++l.map g:=by
  intro l
  induction l with
  | nil=>intro i s; simp[ZnY]
  | cons x l ih=>intro i s; show ZnY _ (i+1) (s++[g x]) l=_; rw[ih]; simp
 rw[e] at key
 exact key
def Zh2 (d:Zu) (n k:Nat):List Zr:=(List.range k).map fun j=>⟨((Zam d n+j:Nat):Int),((Zam d n+j+1:Nat):Int)⟩
theorem ZnV (d:Zu) (n k:Nat):Zh2 d n (k+1)=Zh2 d n k++[⟨((Zam d n+k:Nat):Int),((Zam d n+k+1:Nat):Int)⟩]:=by unfold Zh2; rw[List.range_succ,List.map_append]; rfl
theorem Zo9 (d:Zu) (n k:Nat):(Zh2 d n k).length=k:=by unfold Zh2; simp
def Zfr (n k:Nat):List Zi:=(List.range k).map fun j:Nat=>⟨(n:Int),(j:Int)⟩
theorem ZqQ (n k:Nat):Zfr n (k+1)=Zfr n k++[⟨(n:Int),(k:Int)⟩]:=by unfold Zfr; rw[List.range_succ,List.map_append]; rfl
theorem ZnQ (n k:Nat):(Zfr n k).length=k:=by unfold Zfr; simp
def ZiD (d:Zu) (k:Nat):List Int:=upto (Zo8 d) k
def ZhW (d:Zu) (k:Nat):List Zr:=upto (fun n=>Zh2 d n (nt d n)) k
def ZdH (d:Zu) (k:Nat):List Zi:=upto (fun n=>Zfr n (nt d n+1)) k
theorem ZlD (d:Zu):∀k,(ZiD d k).length=Zam d k
 | 0=>rfl
 | k+1=>by unfold ZiD; rw[ZdR,List.length_append]; unfold Zo8; rw[Zpt]; show(ZiD d k).length+_=Zam d k+_; rw[ZlD d k]
theorem ZdG (d:Zu):∀k,(ZdH d k).length=Zam d k
 | 0=>rfl
 | k+1=>by unfold ZdH; rw[ZdR,List.length_append,ZnQ]; show(ZdH d k).length+_=Zam d k+_; rw[ZdG d k]
theorem Zmu (d:Zu):∀k,(ZhW d k).length≤Zam d k
 | 0=>Nat.le_refl _
 | k+1=>by unfold ZhW; rw[ZdR,List.length_append,Zo9]; have:=Zmu d k; unfold ZhW at this; show _≤Zam d k+(nt d k+1); omega
def ZnB (d:Zu):List Zr:=d.edges.map fun e=>⟨Zji d e.src,Ziv d e.dst⟩
def ZqZ (d:Zu):List Zr:=d.futures.map fun f=>⟨Zji d f.maker,Zu1 d f⟩
def ZuQ (d:Zu) (at_:Int) (b:Zt):List Zr:=b.ins.map (fun q=>⟨Zji d q,at_⟩)++b.outs.map (fun q=>⟨at_,Ziv d q⟩)
def Zl4 (d:Zu) (i:Nat):Int:=((Zam d d.parts.length+i:Nat):Int)
def Zg1 (d:Zu) (k:Nat):List Zr:=upto (fun i=>match d.barriers[i]? with | some b=>ZuQ d (Zl4 d i) b | none=>[]) k
def Zgp (k:Nat):List Zi:=(List.range k).map fun i:Nat=>⟨-1,(i:Int)⟩
theorem ZnO (k:Nat):(Zgp k).length=k:=by unfold Zgp; simp
theorem Zq9 (k:Nat):Zgp (k+1)=Zgp k++[⟨-1,(k:Int)⟩]:=by unfold Zgp; rw[List.range_succ,List.map_append]; rfl
def Znt (d:Zu):List Int:=ZiD d d.parts.length++List.replicate d.barriers.length 1
def Zmi (d:Zu):List Zr:=ZhW d d.parts.length++ZnB d++ZqZ d
def Zma (d:Zu):List Zr:=Zmi d++Zg1 d d.barriers.length
def Zfy (d:Zu):List Zi:=ZdH d d.parts.length++Zgp d.barriers.length
def Ze8 (d:Zu):Zid:=⟨⟨Znt d,Zma d⟩,Zfy d⟩
theorem Zoq {d:Zu} (g:Zfs d):(Zmi d).length≤1000:=by
 unfold Zmi ZnB ZqZ
 have h1:=Zmu d d.parts.length
 have h2:=ZiT g d.parts.length
 have h3:=g.pl
 have h4:=g.el
 have h5:=g.fl
 simp only[List.length_append,List.length_map]
 omega
theorem Zwo {d:Zu} (hz:ZmD d) {b:Zt} (hb:b∈d.barriers) (z:Int):(ZuQ d z b).length≤40:=by
 have:=hz.i b hb
 unfold ZuQ
 simp only[List.length_append,List.length_map]
 omega
theorem Zml {d:Zu} (hz:ZmD d):∀k,(Zg1 d k).length≤40*k
 | 0=>Nat.le_refl _
 | k+1=>by
  have ih:=Zml hz k
  unfold Zg1 at ih ⊢
  rw[ZdR,List.length_append]
  split
  ·rename_i b hb
   have:=Zwo hz (List.mem_of_getElem? hb) (Zl4 d k)
   omega
  ·simp only[List.length_nil]; omega
end Go.Proofs.YtljgncbdagmeeaaDoor
namespace Go.Proofs.YtljgncbdagmeeaaDoor
open Go Go.Proofs.YtljgncbdagmeeaaDoorE
set_option linter.unusedVariables false
set_option linter.unusedSimpArgs false
theorem ZhU (b:Zi) (c:Int) {W:List Int} {P:List Zi} (h1:W.length≤10000) (h2:P.length≤10000):Za1 b c W P=some ():=by
 unfold Za1
 rw[Zjn (by omega),Zjn (by omega)]; rfl
theorem Zkm (b c:Int) {E:List Zr} (h1:E.length≤10000):ZW b c E=some ():=by
 unfold ZW
 rw[Zjn (by omega)]; rfl
theorem Zrl {β:Type} (P:List β) (x:β) (hP:P.length≤10000):w64 ((List.length (P++[x]):Int)-1)=(P.length:Int):=by
 rw[List.length_append]
 simp only[List.length_cons,List.length_nil]
 rw[Zen (by omega) (by omega)]
 omega
theorem Zu6 {d:Zu} (g:Zfs d) {n:Nat} (hn:n<d.parts.length) (hc:Zd7 d (n:Int)=some (tch d n)) {W:List Int} {E:List Zr} {P:List Zi} (M5:List (Int×Int)) (M6:List (Zk×Int)) (hW:W.length≤1000) (hE:E.length≤1000) (hP:P.length≤1000) :
  ZeB d (n:Int) W E P M5 M6=(lp (ZG d (n:Int) (tch d n)) (0,0,M5,M6,W,E,P)).bind fun r=>some (bif decide (0<nt d n) then .inl r else .inr (.inl r.2.2.1)):=by
 obtain⟨x,x1,x2⟩:=Zua hn
 have hnt:=ZwR g n
 have hnl:(tch d n).length=nt d n:=rfl
 have e1:w64 (((tch d n).length:Int)+1)=(((tch d n).length+1:Nat):Int):=by rw[Zen (by omega) (by omega)]; omega
 have w1:w64 ((0:Int)+1)=1:=Zen (by omega) (by omega)
 have w2:w64 ((1:Int)+1)=2:=Zen (by omega) (by omega)
 have w0:w64 ((1:Int)-1)=0:=Zen (by omega) (by omega)
 have lW:∀a:Int,(W++[a]).length≤10000:=fun a=>by rw[List.length_append]; simp only[List.length_cons,List.length_nil]; omega
 have lP:∀a:Zi,(P++[a]).length≤10000:=fun a=>by rw[List.length_append]; simp only[List.length_cons,List.length_nil]; omega
 unfold ZeB
 rw[hc,Option.bind_some,Zcn (Zcl d (n:Int) W E P M5 M6 (tch d n)),Zcn (ZG d (n:Int) (tch d n))]
 by_cases h0:0<nt d n
 ·obtain⟨f,f1,f2,_⟩:=Zke g.g h0
  have c0:decide ((0:Int)<(((tch d n).length+1:Nat):Int))=true:=decide_eq_true (by omega)
  have c1:decide ((0:Int)<((tch d n).length:Int))=true:=decide_eq_true (by omega)
  have c2:decide ((1:Int)<(((tch d n).length+1:Nat):Int))=true:=decide_eq_true (by omega)
  have f1':Zz (tch d n) 0=some (tch d n)[0]:=f1
  simp only[Zcl,ZG,e1,c0,c1,cond_true,x1,Option.bind_some,f1',f2,ZhU _ _ (show W.length≤10000 by omega) (show P.length≤10000 by omega),w1,decide_eq_false (show ¬(0:Int)<0 by omega),cond_false,decide_eq_true h0]
  rw[Zcn (Zck d (n:Int) W E P M5 M6 (tch d n) f),Zcn (ZG d (n:Int) (tch d n))]
  by_cases h1:1<nt d n
  ·obtain⟨f',f1b,f2b,_⟩:=Zke g.g h1
   have f1b':Zz (tch d n) 1=some (tch d n)[1]:=f1b
   have c3:decide ((1:Int)<((tch d n).length:Int))=true:=decide_eq_true (by omega)
   simp only[Zck,ZG,e1,c2,c3,cond_true,x1,Option.bind_some,f1',f2,f1b',f2b,ZhU _ _ (lW _) (lP _),Zkm _ _ (show E.length≤10000 by omega),w2,w0,decide_eq_true (show(0:Int)<1 by omega)]
   generalize lp (ZG d (n:Int) (tch d n)) _=r
   cases r<;>rfl
  ·have c3:decide ((1:Int)<((tch d n).length:Int))=false:=decide_eq_false (by omega)
   simp only[Zck,ZG,e1,c2,c3,cond_true,cond_false,x1,Option.bind_some,f1',f2,ZhU _ _ (lW _) (lP _),Zkm _ _ (show E.length≤10000 by omega),w2,w0,decide_eq_true (show(0:Int)<1 by omega)]
   generalize lp (ZG d (n:Int) (tch d n)) _=r
   cases r<;>rfl
 ·have c0:decide ((0:Int)<(((tch d n).length+1:Nat):Int))=true:=decide_eq_true (by omega)
  have c1:decide ((0:Int)<((tch d n).length:Int))=false:=decide_eq_false (by omega)
  have c2:decide ((1:Int)<(((tch d n).length+1:Nat):Int))=false:=decide_eq_false (by omega)
  simp only[Zcl,ZG,e1,c0,c1,cond_true,x1,Option.bind_some,ZhU _ _ (show W.length≤10000 by omega) (show P.length≤10000 by omega),w1,decide_eq_false (show ¬(0:Int)<0 by omega),cond_false,decide_eq_false h0]
  rw[Zcn (Zdd d (n:Int) W E P M5 M6 (tch d n) x),Zcn (ZG d (n:Int) (tch d n))]
  simp only[Zdd,ZG,e1,c2,cond_false,Option.bind_some]
abbrev eqF:Zk→Zk→Bool:=fun ka kb:Zk=>((ka.maker==kb.maker)&&((ka.user==kb.user)&&((ka.pos==kb.pos)&&true)))
def Zjz (M:List (Int×Int)) (n F i:Nat):List (Int×Int):=if i=0 then M else M++[((n:Int),((F+i-1:Nat):Int))]
theorem Zsr {M:List (Int×Int)} {n F:Nat} (h:∀q∈M,q.1≠(n:Int)) (i:Nat):Zx (fun ka kb:Int=>(ka==kb)) (Zjz M n F i) (n:Int) ((F+i:Nat):Int)=Zjz M n F (i+1):=by
 have hq:∀q∈M,eqI (n:Int) q.1=false:=fun q hq=>by
  show((n:Int)==q.1)=false
  exact beq_false_of_ne (Ne.symm (h q hq))
 unfold Zjz
 rw[if_neg (show i+1≠0 by omega)]
 by_cases h0:i=0
 ·subst h0
  rw[if_pos rfl]
  exact Zja eqI (n:Int) _ M hq
 ·rw[if_neg h0]
  exact ZnW eqI (n:Int) _ _ (by simp) M hq
theorem Zrz {M:List (Int×Int)} {n F:Nat} (h:∀q∈M,q.1≠(n:Int)) (i:Nat):ZaL (fun ka kb:Int=>(ka==kb)) (Zjz M n F (i+1)) (n:Int) 0=((F+i:Nat):Int):=by
 unfold Zjz
 rw[if_neg (show i+1≠0 by omega)]
 exact Zqj eqI (n:Int) 0 _ (by simp) M [] (fun q hq=>by
  show((n:Int)==q.1)=false
  exact beq_false_of_ne (Ne.symm (h q hq)))
def Zhd (d:Zu) (n j:Nat):Zk:=match (tch d n)[j]? with | some z=>(match d.futures[z.toNat]? with | some f=>f | none=>⟨0,0,0⟩) | none=>⟨0,0,0⟩
theorem ZgM {d:Zu} {n i:Nat} (g:Zmr d) (hi:i<nt d n):Zz (tch d n) (i:Int)=some (tch d n)[i]∧Zz d.futures (tch d n)[i]=some (Zhd d n i)∧(Zhd d n i).user=(n:Int)∧(Zhd d n i).pos=cut d n (i+1)∧Zhd d n i∈d.futures:=by
 obtain⟨f,h1,h2,h3,h4,h5,h6⟩:=Zke g hi
 have e:Zhd d n i=f:=by
  unfold Zhd
  rw[List.getElem?_eq_getElem hi]
  show(match d.futures[((tch d n)[i]).toNat]? with | some f=>f | none=>⟨0,0,0⟩)=f
  rw[h3]
 rw[e]
 exact⟨h1,h2,h4,h5,h6⟩
theorem ZoX {d:Zu} (g:Zmr d) {n i j:Nat} (hij:i<j) (hj:j<nt d n):(Zhd d n i).pos<(Zhd d n j).pos:=by
 obtain⟨_,_,h3,_,_,h5,_⟩:=Zke g (show i<nt d n by omega)
 obtain⟨_,_,k3,_,_,k5,_⟩:=Zke g hj
 rw[(ZgM g (show i<nt d n by omega)).2.2.2.1,(ZgM g hj).2.2.2.1]
 have:=List.pairwise_iff_getElem.1 (Zmp g n).rise i j (show i<nt d n by omega) hj hij
 have e:∀k (hk:k<nt d n),cut d n (k+1)=Zf1 d.futures (tch d n)[k]:=fun k hk=>by
  unfold cut
  rw[if_neg (by omega),Nat.add_sub_cancel,List.getElem?_eq_getElem hk]
 rw[e i (by omega),e j hj]
 exact this
def Zg2 (d:Zu) (n k:Nat):List (Zk×Int):=(List.range k).map fun j:Nat=>(Zhd d n j,((Zam d n+j+1:Nat):Int))
theorem Zrt (d:Zu) (n k:Nat):Zg2 d n (k+1)=Zg2 d n k++[(Zhd d n k,((Zam d n+k+1:Nat):Int))]:=by unfold Zg2; rw[List.range_succ,List.map_append]; rfl
theorem Zra {a b:Zk} (h:a.user≠b.user∨a.pos≠b.pos):eqF a b=false:=by
 show((a.maker==b.maker)&&((a.user==b.user)&&((a.pos==b.pos)&&true)))=false
 rcases h with h | h
 ·rw[beq_false_of_ne h]; simp
 ·rw[beq_false_of_ne h]; simp
theorem ZoW {d:Zu} (g:Zmr d) {n k:Nat} (hk:k<nt d n) {M:List (Zk×Int)} (h:∀q∈M,q.1.user≠(n:Int)) :
  Zx (fun ka kb:Zk=>((ka.maker==kb.maker)&&((ka.user==kb.user)&&((ka.pos==kb.pos)&&true)))) (M++Zg2 d n k) (Zhd d n k) ((Zam d n+(k+1):Nat):Int)=M++Zg2 d n (k+1):=by
 rw[Zrt,← List.append_assoc]
 refine Zja eqF _ _ _ fun q hq=>?_
 have hu:=(ZgM g hk).2.2.1
 rcases List.mem_append.1 hq with hq | hq
 ·exact Zra (.inl (by rw[hu]; exact Ne.symm (h q hq)))
 ·unfold Zg2 at hq
  obtain⟨j,hj,rfl⟩:=List.mem_map.1 hq
  rw[List.mem_range] at hj
  have:=ZoX g hj hk
  exact Zra (.inr (by show(Zhd d n k).pos≠(Zhd d n j).pos; omega))
theorem Ztf {d:Zu} (g:Zfs d) {n:Nat} (hn:n<d.parts.length) {W:List Int} {E:List Zr} {P:List Zi} {M5:List (Int×Int)} {M6:List (Zk×Int)} (hW:W.length≤1000) (hE:E.length≤1000) (hP:P.length=Zam d n)
  (h5:∀q∈M5,q.1≠(n:Int)) (h6:∀q∈M6,q.1.user≠(n:Int)) :
  lp (ZG d (n:Int) (tch d n)) (0,0,M5,M6,W,E,P)=some (M5++[((n:Int),((Zam d n+nt d n:Nat):Int))],M6++Zg2 d n (nt d n),W++Zo8 d n,E++Zh2 d n (nt d n),P++Zfr n (nt d n+1)):=by
 obtain⟨x,x1,x2⟩:=Zua hn
 have hnt:=ZwR g n
 have hnl:(tch d n).length=nt d n:=rfl
 have hF:=ZiT g n
 have hpl:=g.pl
 have e1:w64 (((tch d n).length:Int)+1)=((nt d n+1:Nat):Int):=by show w64 ((nt d n:Int)+1)=_; rw[Zen (by omega) (by omega)]; omega
 have key:∀(k i:Nat),i+k=nt d n+1→lp (ZG d (n:Int) (tch d n)) (cut d n i,(i:Int),Zjz M5 n (Zam d n) i,M6++Zg2 d n (i-1),W++Zkl d n i,E++Zh2 d n (i-1),P++Zfr n i) =
   some (Zjz M5 n (Zam d n) (nt d n+1),M6++Zg2 d n (nt d n),W++Zo8 d n,E++Zh2 d n (nt d n),P++Zfr n (nt d n+1)):=by
  intro k
  induction k with
  | zero=>
   intro i hi
   have:i=nt d n+1:=by omega
   subst this
   rw[Zcn]
   simp only[ZG,e1,Zho,cond_false]
   rfl
  | succ k ih=>
   intro i hi
   have hi':i<nt d n+1:=by omega
   have b0:=ZyS g.g n i
   have b1:=ZyS g.g n (i+1)
   have lP:(P++Zfr n i).length=Zam d n+i:=by rw[List.length_append,ZnQ,hP]
   have l2:(W++Zkl d n i).length≤10000:=by rw[List.length_append,Zpt]; omega
   have l3:(E++Zh2 d n (i-1)).length≤10000:=by rw[List.length_append,Zo9]; omega
   have lput:=Zrl (P++Zfr n i) (Zi.mk (n:Int) (i:Int)) (by rw[lP]; omega)
   rw[lP] at lput
   have p5:=Zsr (F:=Zam d n) h5 i
   have g5:=Zrz (F:=Zam d n) h5 i
   have w5:w64 (cut d n (i+1)-cut d n i)=cut d n (i+1)-cut d n i:=Zen (by omega) (by omega)
   have ih':=ih (i+1) (by omega)
   rw[ZrD,ZqQ,← List.append_assoc,← List.append_assoc] at ih'
   rw[Zcn]
   have fin:i=nt d n→cut d n (i+1)=x.work:=fun h=>by rw[h,Zyo,x2]
   have node:=fun c=>ZhU (Zi.mk (n:Int) (i:Int)) c l2 (show(P++Zfr n i).length≤10000 by rw[lP]; omega)
   by_cases hlast:i<nt d n
   ·obtain⟨q1,q2,q3,q4,_⟩:=ZgM g.g hlast
    cases i with
    | zero=>
     simp only[ZG,e1,Zgo hi',cond_true,x1,Option.bind_some,Zgo (show 0<(tch d n).length from hlast),q1,q2,q4,node,decide_eq_false (show ¬(0:Int)<((0:Nat):Int) by omega),cond_false,lput,p5,w5,ZaM hi' (show nt d n+1<9223372036854775808 by omega)]
     exact ih'
    | succ j=>
     obtain⟨r1,r2,r3,r4,_⟩:=ZgM g.g (show j<nt d n by omega)
     have e2:w64 (((j+1:Nat):Int)-1)=(j:Int):=by rw[Zen (by omega) (by omega)]; omega
     have e3:w64 (((Zam d n+(j+1):Nat):Int)-1)=((Zam d n+j:Nat):Int):=by rw[Zen (by omega) (by omega)]; omega
     have p6:=ZoW g.g (show j<nt d n by omega) h6
     rw[Nat.add_sub_cancel] at l3 ih' ⊢
     rw[ZnV,← List.append_assoc] at ih'
     simp only[ZG,e1,Zgo hi',cond_true,x1,Option.bind_some,Zgo (show j+1<(tch d n).length from hlast),q1,q2,q4,node,decide_eq_true (show(0:Int)<((j+1:Nat):Int) by omega),lput,p5,g5,w5,e2,e3,r1,r2,Zkm _ _ l3,p6,ZaM hi' (show nt d n+1<9223372036854775808 by omega)]
     exact ih'
   ·have hin:i=nt d n:=by omega
    have hfin:=fin hin
    rw[hfin] at w5 ih'
    have c3:decide ((i:Int)<((tch d n).length:Int))=false:=decide_eq_false (by have:((tch d n).length:Int)=(nt d n:Int):=rfl; omega)
    cases i with
    | zero=>
     simp only[ZG,e1,Zgo hi',cond_true,x1,Option.bind_some,c3,node,decide_eq_false (show ¬(0:Int)<((0:Nat):Int) by omega),cond_false,lput,p5,w5,ZaM hi' (show nt d n+1<9223372036854775808 by omega)]
     exact ih'
    | succ j=>
     obtain⟨r1,r2,r3,r4,_⟩:=ZgM g.g (show j<nt d n by omega)
     have e2:w64 (((j+1:Nat):Int)-1)=(j:Int):=by rw[Zen (by omega) (by omega)]; omega
     have e3:w64 (((Zam d n+(j+1):Nat):Int)-1)=((Zam d n+j:Nat):Int):=by rw[Zen (by omega) (by omega)]; omega
     have p6:=ZoW g.g (show j<nt d n by omega) h6
     rw[Nat.add_sub_cancel] at l3 ih' ⊢
     rw[ZnV,← List.append_assoc] at ih'
     simp only[ZG,e1,Zgo hi',cond_true,cond_false,x1,Option.bind_some,c3,node,decide_eq_true (show(0:Int)<((j+1:Nat):Int) by omega),lput,p5,g5,w5,e2,e3,r1,r2,Zkm _ _ l3,p6,ZaM hi' (show nt d n+1<9223372036854775808 by omega)]
     exact ih'
 have:=key (nt d n+1) 0 (by omega)
 simpa [Zjz,Zg2,Zkl,Zh2,Zfr,cut] using this
end Go.Proofs.YtljgncbdagmeeaaDoor
namespace Go.Proofs.YtljgncbdagmeeaaDoor
open Go Go.Proofs.YtljgncbdagmeeaaDoorE
set_option linter.unusedVariables false
set_option linter.unusedSimpArgs false
def Zmw (g:Zb4) (a:Int) (T:List Bool):Prop:=∀e∈g.edges,(e.src=a∨bAt T e.src=true)→bAt T e.dst=true
end Go.Proofs.YtljgncbdagmeeaaDoor
namespace Go.Proofs.YtljgncbdagmeeaaDoor
open Go Go.Proofs.YtljgncbdagmeeaaDoorE
set_option linter.unusedVariables false
set_option linter.unusedSimpArgs false
def ZgO (d:Zu) (k:Nat):List (Int×Int):=(List.range k).map fun n:Nat=>((n:Int),(Zam d n:Int))
def Zhh (d:Zu) (k:Nat):List (Int×Int):=(List.range k).map fun n:Nat=>((n:Int),((Zam d n+nt d n:Nat):Int))
def ZeY (d:Zu) (k:Nat):List (Zk×Int):=upto (fun n=>Zg2 d n (nt d n)) k
theorem Zrd (d:Zu) (k:Nat):ZgO d (k+1)=ZgO d k++[((k:Int),(Zam d k:Int))]:=by unfold ZgO; rw[List.range_succ,List.map_append]; rfl
theorem ZrZ (d:Zu) (k:Nat):Zhh d (k+1)=Zhh d k++[((k:Int),((Zam d k+nt d k:Nat):Int))]:=by unfold Zhh; rw[List.range_succ,List.map_append]; rfl
theorem Zs0 (d:Zu) (k:Nat):∀q∈ZgO d k,q.1≠(k:Int):=fun q hq=>by
 unfold ZgO at hq
 obtain⟨j,hj,rfl⟩:=List.mem_map.1 hq
 rw[List.mem_range] at hj
 show(j:Int)≠(k:Int)
 omega
theorem Zqv (d:Zu) (k:Nat):∀q∈Zhh d k,q.1≠(k:Int):=fun q hq=>by
 unfold Zhh at hq
 obtain⟨j,hj,rfl⟩:=List.mem_map.1 hq
 rw[List.mem_range] at hj
 show(j:Int)≠(k:Int)
 omega
theorem ZmH {d:Zu} {k:Nat} {q:Zk×Int} (h:q∈ZeY d k):∃n j,n<k∧j<nt d n∧q=(Zhd d n j,((Zam d n+j+1:Nat):Int)):=by
 unfold ZeY upto at h
 obtain⟨n,hn,hq⟩:=List.mem_flatMap.1 h
 unfold Zg2 at hq
 obtain⟨j,hj,rfl⟩:=List.mem_map.1 hq
 exact⟨n,j,List.mem_range.1 hn,List.mem_range.1 hj,rfl⟩
theorem Zsj {d:Zu} (g:Zmr d) (k:Nat):∀q∈ZeY d k,q.1.user≠(k:Int):=fun q hq=>by
 obtain⟨n,j,hn,hj,rfl⟩:=ZmH hq
 show(Zhd d n j).user≠(k:Int)
 rw[(ZgM g hj).2.2.1]
 omega
theorem ZiL {K W:Type} (eq:K→K→Bool) (z:W) (f:Nat→K) (v:Nat→W) {i:Nat} (h0:eq (f i) (f i)=true) (h1:∀j,j<i→eq (f i) (f j)=false):∀k,i<k→ZaL eq ((List.range k).map fun j=>(f j,v j)) (f i) z=v i
 | 0,h=>absurd h (by omega)
 | k+1,h=>by
  rw[List.range_succ,List.map_append]
  by_cases hk:i<k
  ·rw[Zkk eq (f i) z _ _ ⟨(f i,v i),List.mem_map.2 ⟨i,List.mem_range.2 hk,rfl⟩,h0⟩]
   exact ZiL eq z f v h0 h1 k hk
  ·have:i=k:=by omega
   subst this
   refine Zqj eq (f i) z (v i) h0 _ [] fun q hq=>?_
   obtain⟨j,hj,rfl⟩:=List.mem_map.1 hq
   exact h1 j (List.mem_range.1 hj)
theorem Zqx {d:Zu} {z:Int} (h:inR d z):ZaL (fun ka kb:Int=>(ka==kb)) (ZgO d d.parts.length) z 0=Ziv d z:=by
 have:=ZiL eqI 0 (fun n:Nat=>(n:Int)) (fun n=>(Zam d n:Int)) (i:=z.toNat) (by simp) (fun j hj=>beq_false_of_ne (by omega)) d.parts.length h.2
 have e:((z.toNat:Nat):Int)=z:=Int.toNat_of_nonneg h.1
 simp only[e] at this
 exact this
theorem Zph {d:Zu} {z:Int} (h:inR d z):ZaL (fun ka kb:Int=>(ka==kb)) (Zhh d d.parts.length) z 0=Zji d z:=by
 have:=ZiL eqI 0 (fun n:Nat=>(n:Int)) (fun n=>((Zam d n+nt d n:Nat):Int)) (i:=z.toNat) (by simp) (fun j hj=>beq_false_of_ne (by omega)) d.parts.length h.2
 have e:((z.toNat:Nat):Int)=z:=Int.toNat_of_nonneg h.1
 simp only[e] at this
 refine Eq.trans this ?_
 unfold Zji
 show _=((Zam d z.toNat+(nt d z.toNat+1):Nat):Int)-1
 omega
theorem Zvm {d:Zu} (g:Zfs d) {f:Zk} (h:f∈d.futures):∃j,j<nt d f.user.toNat∧Zhd d f.user.toNat j=f:=by
 obtain⟨m,hm⟩:=List.getElem?_of_mem h
 have hu:=g.user h
 have e:((f.user.toNat:Nat):Int)=f.user:=Int.toNat_of_nonneg hu.1
 have:=(Zmp g.g f.user.toNat).mem (m:Int) |>.2 ⟨m,f,hm,e.symm,rfl⟩
 obtain⟨j,hj,hj2⟩:=List.getElem_of_mem this
 refine⟨j,hj,?_⟩
 unfold Zhd
 rw[List.getElem?_eq_getElem hj]
 show(match d.futures[((tch d f.user.toNat)[j]).toNat]? with | some f=>f | none=>⟨0,0,0⟩)=f
 rw[hj2,Int.toNat_natCast,hm]
theorem ZqY {γ R:Type} (p:Nat→γ→Bool) (out:Nat→γ→R) (fin:R):∀(l:List γ) (i j:Nat) (x:γ),l[j]? = some x→p (i+j) x=true→(∀k y,k<j→l[k]? = some y→p (i+k) y=false)→ZiP p out fin i l=out (i+j) x
 | [],i,j,x,h,_,_=>by cases h
 | y :: l,i,0,x,h,h1,_=>by
  cases h
  unfold ZiP
  rw[Nat.add_zero] at h1
  rw[h1]; rfl
 | y :: l,i,j+1,x,h,h1,h2=>by
  unfold ZiP
  have h0:=h2 0 y (by omega) rfl
  rw[Nat.add_zero] at h0
  rw[h0]
  show ZiP p out fin (i+1) l=_
  rw[show i+(j+1)=i+1+j by omega] at h1 ⊢
  exact ZqY p out fin l (i+1) j x h h1 fun k z hk hz=>by
   have:=h2 (k+1) z (by omega) hz
   rwa [show i+(k+1)=i+1+k by omega] at this
theorem ZxX {d:Zu} (g:Zfs d) {f:Zk} (h:f∈d.futures) {j:Nat} (hj:j<nt d f.user.toNat) (he:Zhd d f.user.toNat j=f):Zu1 d f=((Zam d f.user.toNat+j+1:Nat):Int):=by
 have pos:∀k (hk:k<nt d f.user.toNat),Zf1 d.futures (tch d f.user.toNat)[k]=(Zhd d f.user.toNat k).pos:=fun k hk=>by
  rw[(ZgM g.g hk).2.2.2.1]
  unfold cut
  rw[if_neg (by omega),Nat.add_sub_cancel,List.getElem?_eq_getElem hk]
 unfold Zu1
 rw[ZqY (fun _ z=>Zf1 d.futures z==f.pos) (fun i _=>Ziv d f.user+(i:Int)+1) (-1) (tch d f.user.toNat) 0 j _ (List.getElem?_eq_getElem hj) (by show(Zf1 d.futures (tch d f.user.toNat)[j]==f.pos)=true; rw[pos j hj,he]; simp) (fun k y hk hy=>by
  have hk2:k<nt d f.user.toNat:=by omega
  have hy2:(tch d f.user.toNat)[k]=y:=Option.some.inj ((List.getElem?_eq_getElem hk2).symm.trans hy)
  have:=ZoX g.g hk hj
  rw[he] at this
  show(Zf1 d.futures y==f.pos)=false
  rw[← hy2,pos k hk2]
  exact beq_false_of_ne (by omega))]
 unfold Ziv
 omega
theorem Zrr (f:Zk):eqF f f=true:=by simp[eqF]
theorem ZuR {d:Zu} (g:Zfs d) {f:Zk} (h:f∈d.futures):ZaL (fun ka kb:Zk=>((ka.maker==kb.maker)&&((ka.user==kb.user)&&((ka.pos==kb.pos)&&true)))) (ZeY d d.parts.length) f 0=Zu1 d f:=by
 obtain⟨j,hj,he⟩:=Zvm g h
 have hu:=g.user h
 have eu:((f.user.toNat:Nat):Int)=f.user:=Int.toNat_of_nonneg hu.1
 have key:∀k,f.user.toNat<k→ZaL eqF (ZeY d k) f 0=Zu1 d f:=by
  intro k
  induction k with
  | zero=>intro hk; exact absurd hk (by omega)
  | succ k ih=>
   intro hk
   rw[show ZeY d (k+1)=ZeY d k++Zg2 d k (nt d k) from ZdR _ k]
   by_cases hlt:f.user.toNat<k
   ·rw[Zkk eqF f 0 _ _ ⟨(f,((Zam d f.user.toNat+j+1:Nat):Int)),?_,Zrr f⟩]
    ·exact ih hlt
    ·unfold ZeY upto
     refine List.mem_flatMap.2 ⟨f.user.toNat,List.mem_range.2 hlt,?_⟩
     unfold Zg2
     exact List.mem_map.2 ⟨j,List.mem_range.2 hj,by rw[he]⟩
   ·have hk2:k=f.user.toNat:=by omega
    subst hk2
    rw[ZjJ eqF f 0 _ _ (fun q hq=>by
     obtain⟨n,i,hn,hi,rfl⟩:=ZmH hq
     refine Zra (.inl ?_)
     show f.user≠(Zhd d n i).user
     rw[(ZgM g.g hi).2.2.1]
     omega)]
    have:=ZiL eqF 0 (fun i=>Zhd d f.user.toNat i) (fun i=>((Zam d f.user.toNat+i+1:Nat):Int)) (i:=j) (Zrr _) (fun i hi=>by
     have:=ZoX g.g hi hj
     exact Zra (.inr (by omega))) (nt d f.user.toNat) hj
    rw[ZxX g h hj he]
    rw[he] at this
    exact this
 exact key d.parts.length hu.2
theorem Ztj {d:Zu} (g:Zfs d) (hc:∀n:Nat,Zd7 d (n:Int)=some (tch d n)):lp (Zdr d) (0,[],[],[],[],[],[])=some (ZiD d d.parts.length,ZhW d d.parts.length,ZdH d d.parts.length,ZgO d d.parts.length,Zhh d d.parts.length,ZeY d d.parts.length):=by
 have hpl:=g.pl
 have key:∀(k i:Nat),i+k=d.parts.length→lp (Zdr d) ((i:Int),ZiD d i,ZhW d i,ZdH d i,ZgO d i,Zhh d i,ZeY d i)=some (ZiD d d.parts.length,ZhW d d.parts.length,ZdH d d.parts.length,ZgO d d.parts.length,Zhh d d.parts.length,ZeY d d.parts.length):=by
  intro k
  induction k with
  | zero=>
   intro i hi
   have:i=d.parts.length:=by omega
   subst this
   rw[Zcn]
   simp only[Zdr,Zho,cond_false]
  | succ k ih=>
   intro i hi
   have hi':i<d.parts.length:=by omega
   have hF:=ZiT g i
   have h1:=Zmu d i
   have l1:(ZiD d i).length≤1000:=by rw[ZlD]; omega
   have l2:(ZhW d i).length≤1000:=by omega
   have l3:(ZdH d i).length≤1000:=by rw[ZdG]; omega
   have ih':=ih (i+1) (by omega)
   rw[show ZhW d (i+1)=ZhW d i++Zh2 d i (nt d i) from ZdR _ i,show ZiD d (i+1)=ZiD d i++Zo8 d i from ZdR _ i,show ZdH d (i+1)=ZdH d i++Zfr i (nt d i+1) from ZdR _ i,Zrd,ZrZ,show ZeY d (i+1)=ZeY d i++Zg2 d i (nt d i) from ZdR _ i] at ih'
   have pe:=Zu6 g hi' (hc i) (Zhh d i) (ZeY d i) l1 l2 l3
   rw[Ztf g hi' l1 l2 (ZdG d i) (Zqv d i) (Zsj g.g i),Option.bind_some] at pe
   have p4:Zx (fun ka kb:Int=>(ka==kb)) (ZgO d i) (i:Int) ((ZdH d i).length:Int)=ZgO d i++[((i:Int),(Zam d i:Int))]:=by
    rw[ZdG]
    exact Zja eqI (i:Int) _ _ fun q hq=>beq_false_of_ne (Ne.symm (Zs0 d i q hq))
   have p5:Zx (fun ka kb:Int=>(ka==kb)) (Zhh d i) (i:Int) (Zam d i:Int)=Zhh d i++[((i:Int),(Zam d i:Int))]:=Zja eqI (i:Int) _ _ fun q hq=>beq_false_of_ne (Ne.symm (Zqv d i q hq))
   have lput:=Zrl (ZdH d i) (Zi.mk (i:Int) 0) (by omega)
   rw[ZdG] at lput
   rw[Zcn]
   by_cases h0:0<nt d i
   ·rw[decide_eq_true h0] at pe
    simp only[Zdr,Zgo hi',cond_true,pe,Option.bind_some,p4,ZaM hi' (show d.parts.length<9223372036854775808 by omega)]
    exact ih'
   ·have hz:nt d i=0:=by omega
    rw[decide_eq_false h0] at pe
    simp only[Zdr,Zgo hi',cond_true,cond_false,pe,Option.bind_some,p4,lput,p5,ZaM hi' (show d.parts.length<9223372036854775808 by omega)]
    rw[hz] at ih'
    simpa [Zh2,Zfr,Zg2] using ih'
 exact key d.parts.length 0 (by omega)
theorem ZsZ {d:Zu} (g:Zfs d) {r3:List Int×List Zr×List Zi×List (Int×Int)×List (Int×Int)×List (Zk×Int)} (h4:r3.2.2.2.1=ZgO d d.parts.length) (h5:r3.2.2.2.2.1=Zhh d d.parts.length) (E:List Zr) (hE:E.length≤1000):lp (ZdP d r3) (0,E)=some (E++ZnB d):=
 have he:=g.el
 ZqU d.edges (by omega) (ZdP d r3) (fun e=>⟨Zji d e.src,Ziv d e.dst⟩) (fun i x s hi hx hb=>by
  have hm:=List.mem_of_getElem? hx
  have ed:∀b c,ZW b c s=some ():=fun b c=>by unfold ZW; rw[hb]; rfl
  simp only[ZdP,Zgo hi,cond_true,Zb0 hx,Option.bind_some,h4,h5,Zph (g.src hm),Zqx (g.dst hm),ed,ZaM hi (show d.edges.length<9223372036854775808 by omega)]) (fun s=>by simp only[ZdP,Zho,cond_false]) E (by omega)
theorem Zrb {d:Zu} (g:Zfs d) {r3:List Int×List Zr×List Zi×List (Int×Int)×List (Int×Int)×List (Zk×Int)} (h5:r3.2.2.2.2.1=Zhh d d.parts.length) (h6:r3.2.2.2.2.2=ZeY d d.parts.length) (E:List Zr) (hE:E.length≤1000):lp (ZdT d r3) (0,E)=some (E++ZqZ d):=
 have he:=g.fl
 ZqU d.futures (by omega) (ZdT d r3) (fun f=>⟨Zji d f.maker,Zu1 d f⟩) (fun i x s hi hx hb=>by
  have hm:=List.mem_of_getElem? hx
  have ed:∀b c,ZW b c s=some ():=fun b c=>by unfold ZW; rw[hb]; rfl
  simp only[ZdT,Zgo hi,cond_true,Zb0 hx,Option.bind_some,h5,h6,Zph (g.maker hm),ZuR g hm,ed,ZaM hi (show d.futures.length<9223372036854775808 by omega)]) (fun s=>by simp only[ZdT,Zho,cond_false]) E (by omega)
theorem ZuX {d:Zu} (g:Zfs d) (hz:ZmD d) {r3:List Int×List Zr×List Zi×List (Int×Int)×List (Int×Int)×List (Zk×Int)} (h4:r3.2.2.2.1=ZgO d d.parts.length) (h5:r3.2.2.2.2.1=Zhh d d.parts.length) (E:List Zr) (hE:E.length≤1000) :
  lp (ZdS d r3) (0,ZiD d d.parts.length,E,ZdH d d.parts.length)=some (Znt d,E++Zg1 d d.barriers.length,Zfy d):=by
 have hbl:=g.bl
 have hF:=ZiT g d.parts.length
 have hpl:=g.pl
 have key:∀(k i:Nat),i+k=d.barriers.length→lp (ZdS d r3) ((i:Int),ZiD d d.parts.length++List.replicate i 1,E++Zg1 d i,ZdH d d.parts.length++Zgp i)=some (Znt d,E++Zg1 d d.barriers.length,Zfy d):=by
  intro k
  induction k with
  | zero=>
   intro i hi
   have:i=d.barriers.length:=by omega
   subst this
   rw[Zcn]
   simp only[ZdS,Zho,cond_false]
   rfl
  | succ k ih=>
   intro i hi
   have hi':i<d.barriers.length:=by omega
   have hx:d.barriers[i]? = some d.barriers[i]:=List.getElem?_eq_getElem hi'
   have hm:=List.mem_of_getElem? hx
   have hsz:=hz.i _ hm
   have hB:=Zml hz i
   have lp_:(ZdH d d.parts.length++Zgp i).length=Zam d d.parts.length+i:=by rw[List.length_append,ZdG,ZnO]
   have lw_:(ZiD d d.parts.length++List.replicate i (1:Int)).length=Zam d d.parts.length+i:=by rw[List.length_append,ZlD,List.length_replicate]
   have lput:=Zrl (ZdH d d.parts.length++Zgp i) (Zi.mk (-1) (i:Int)) (by rw[lp_]; omega)
   rw[lp_,show((Zam d d.parts.length+i:Nat):Int)=Zl4 d i from rfl] at lput
   have k4:=fun s=>ZqU d.barriers[i].ins (by omega) (ZeN r3 ((i:Int),ZiD d d.parts.length++List.replicate i 1,E++Zg1 d i,ZdH d d.parts.length++Zgp i) d.barriers[i]) (fun q=>⟨Zji d q,Zl4 d i⟩) (fun j x s hj hx hb=>by
    have ed:∀b c,ZW b c s=some ():=fun b c=>by unfold ZW; rw[hb]; rfl
    simp only[ZeN,Zgo hj,cond_true,Zb0 hx,Option.bind_some,h5,Zph (g.ins _ hm x (List.mem_of_getElem? hx)),lput,ed,ZaM hj (show d.barriers[i].ins.length<9223372036854775808 by omega)]) (fun s=>by simp only[ZeN,Zho,cond_false]) s
   have k5:=fun s=>ZqU d.barriers[i].outs (by omega) (ZeO r3 ((i:Int),ZiD d d.parts.length++List.replicate i 1,E++Zg1 d i,ZdH d d.parts.length++Zgp i) d.barriers[i]) (fun q=>⟨Zl4 d i,Ziv d q⟩) (fun j x s hj hx hb=>by
    have ed:∀b c,ZW b c s=some ():=fun b c=>by unfold ZW; rw[hb]; rfl
    simp only[ZeO,Zgo hj,cond_true,Zb0 hx,Option.bind_some,h4,Zqx (g.outs _ hm x (List.mem_of_getElem? hx)),lput,ed,ZaM hj (show d.barriers[i].outs.length<9223372036854775808 by omega)]) (fun s=>by simp only[ZeO,Zho,cond_false]) s
   have ih':=ih (i+1) (by omega)
   have eB:Zg1 d (i+1)=Zg1 d i++ZuQ d (Zl4 d i) d.barriers[i]:=by
    unfold Zg1
    rw[ZdR,hx]
   rw[eB,Zq9,List.replicate_succ',ZuQ,← List.append_assoc,← List.append_assoc,← List.append_assoc,← List.append_assoc] at ih'
   rw[Zcn]
   simp only[ZdS,Zgo hi',cond_true,Zb0 hx,Option.bind_some,ZhU _ _ (show(ZiD d d.parts.length++List.replicate i (1:Int)).length≤10000 by rw[lw_]; omega) (show(ZdH d d.parts.length++Zgp i).length≤10000 by rw[lp_]; omega),k4 (E++Zg1 d i) (by rw[List.length_append]; omega),
    k5 (E++Zg1 d i++List.map (fun q=>⟨Zji d q,Zl4 d i⟩) d.barriers[i].ins) (by simp only[List.length_append,List.length_map]; omega),ZaM hi' (show d.barriers.length<9223372036854775808 by omega)]
   exact ih'
 have:=key d.barriers.length 0 (by omega)
 simpa [Zg1,upto,Zgp] using this
theorem Zr2 {d:Zu} (g:Zfs d) (hz:ZmD d):Zrg (Ze8 d).dag:=by
 have hE:=Zoq g
 have hB:=Zml hz d.barriers.length
 have hbl:=g.bl
 have hF:=ZiT g d.parts.length
 have hpl:=g.pl
 constructor
 ·show(Znt d).length<_
  unfold Znt
  rw[List.length_append,ZlD,List.length_replicate]
  omega
 ·show(Zma d).length<_
  unfold Zma
  rw[List.length_append]
  omega
noncomputable def ZsL (d:Zu):Zid×Int:=
 bif Zh4 d==0 then (bif ZjM (Ze8 d).dag==0 then (Ze8 d,0) else (⟨⟨[],[]⟩,[]⟩,70)) else (⟨⟨[],[]⟩,[]⟩,Zh4 d)
theorem Zyd {d:Zu} (hz:ZmD d):Zhb d=some (ZsL d):=by
 have hs:=hz.short
 unfold Zhb ZsL
 rw[Ztw d hs,Option.bind_some]
 by_cases hc:Zh4 d=0
 ·have g:=ZrM hc
  have hE:=Zoq g
  have h3:(ZhW d d.parts.length++ZnB d).length≤1000:=by unfold Zmi at hE; rw[List.length_append] at hE; omega
  have h4:(ZhW d d.parts.length).length≤1000:=by rw[List.length_append] at h3; omega
  rw[hc]
  simp only[bne_self_eq_false,cond_false,beq_self_eq_true,cond_true,Ztj g (ZAB hs (by have:=g.fl; omega) hc),Option.bind_some]
  rw[ZsZ g rfl rfl _ h4]
  simp only[Option.bind_some]
  rw[Zrb g rfl rfl _ h3]
  simp only[Option.bind_some]
  rw[show ZhW d d.parts.length++ZnB d++ZqZ d=Zmi d from rfl,ZuX g hz rfl rfl _ hE]
  simp only[Option.bind_some]
  rw[show Zb4.mk (Znt d) (Zmi d++Zg1 d d.barriers.length)=(Ze8 d).dag from rfl,Zow _ (Zr2 g hz),Option.bind_some]
  by_cases hk:ZjM (Ze8 d).dag=0
  ·rw[hk]; rfl
  ·rw[beq_false_of_ne hk,bne,beq_false_of_ne hk]; rfl
 ·rw[beq_false_of_ne hc,bne,beq_false_of_ne hc]; rfl
end Go.Proofs.YtljgncbdagmeeaaDoor
namespace Go.Proofs.YtljgncbdagmeeaaDoor
open Go Go.Proofs.YtljgncbdagmeeaaDoorE
set_option linter.unusedVariables false
set_option linter.unusedSimpArgs false
theorem ZwW (d:Zu) (g:Zmr d) (n:Nat):nt d n=d.futures.countP fun f=>f.user==(n:Int):=by
 show(tch d n).length=_
 rw[ZpW (Zmp g n)]
 unfold Zn5
 rw[Zm6]
theorem Zqd {γ:Type} (p q r:γ→Bool) (h:∀x,r x=(p x || q x)) (h2:∀x,¬(p x=true∧q x=true)):∀l:List γ,l.countP r=l.countP p+l.countP q
 | []=>rfl
 | x :: l=>by
  rw[List.countP_cons,List.countP_cons,List.countP_cons,Zqd p q r h h2 l,h x]
  have:=h2 x
  cases hp:p x<;>cases hq:q x<;>simp_all<;>omega
theorem ZmZ {d:Zu} (g:Zfs d):∀k,Zam d k=k+d.futures.countP fun f=>decide (0≤f.user)&&decide (f.user<(k:Int))
 | 0=>by
  have:(d.futures.countP fun f=>decide (0≤f.user)&&decide (f.user<((0:Nat):Int)))=0:=by
   rw[List.countP_eq_zero]
   intro f _
   simp only[Bool.and_eq_true,decide_eq_true_eq]
   omega
  rw[this]; rfl
 | k+1=>by
  rw[Zqd (fun f:Zk=>decide (0≤f.user)&&decide (f.user<(k:Int))) (fun f=>f.user==(k:Int)) (fun f=>decide (0≤f.user)&&decide (f.user<((k+1:Nat):Int))) (fun f=>by
   rw[Bool.eq_iff_iff]
   simp only[Bool.and_eq_true,Bool.or_eq_true,decide_eq_true_eq,beq_iff_eq]
   omega) (fun f=>by
   simp only[Bool.and_eq_true,decide_eq_true_eq,beq_iff_eq]
   omega)]
  show Zam d k+(nt d k+1)=_
  rw[ZmZ g k,ZwW d g.g k]
  omega
theorem Zs2 {d:Zu} (g:Zfs d):Zam d d.parts.length=d.parts.length+d.futures.length:=by
 rw[ZmZ g,List.countP_eq_length.2 fun f hf=>?_]
 have:=g.user hf
 have h1:=this.1
 have h2:=this.2
 simp only[Bool.and_eq_true,decide_eq_true_eq]
 omega
theorem ZoK {d:Zu} (g:Zfs d):(Zfy d).length=d.parts.length+d.futures.length+d.barriers.length:=by
 unfold Zfy
 rw[List.length_append,ZdG,ZnO,Zs2 g]
theorem ZsU (d:Zu):(ZsL d=(Ze8 d,0)∧Zh4 d=0∧ZjM (Ze8 d).dag=0)∨((ZsL d).1=⟨⟨[],[]⟩,[]⟩∧(ZsL d).2≠0):=by
 unfold ZsL
 by_cases hc:Zh4 d=0
 ·rw[hc]
  by_cases hk:ZjM (Ze8 d).dag=0
  ·rw[hk]; exact .inl ⟨rfl,rfl,rfl⟩
  ·rw[beq_false_of_ne hk]; exact .inr ⟨rfl,by show(70:Int)≠0; omega⟩
 ·rw[beq_false_of_ne hc]; exact .inr ⟨rfl,hc⟩
end Go.Proofs.YtljgncbdagmeeaaDoor
namespace Go.Proofs.YtljgncbdagmeeaaDoor
open Go Go.Proofs.YtljgncbdagmeeaaDoorE Go.Sort
set_option linter.unusedVariables false
set_option linter.unusedSimpArgs false
set_option maxRecDepth 20000
def Zgw:Int→Int→Option Int:=fun x y=>some (bif decide (x<y) then (-1:Int) else 0)
theorem Zc9 (x y:Int):Z7 x y=some (decide (x<y)):=by
 unfold Z7 Zga
 simp only[bne_self_eq_false,cond_false,Option.bind_some]
 cases decide (x<y)<;>rfl
theorem Zdf (x y:Int):Zgw x y=some (bif decide (x<y) then (-1:Int) else 0):=rfl
theorem Zb1 (b:Bool):decide ((bif b then (-1:Int) else 0)<0)=b:=by cases b<;>rfl
theorem ZH (b:Int):Zbo b=Z0 b Zgw:=by
 funext s
 simp only[Zbo,Z0,Zc9,Zdf,Zb1,Option.bind_some]
theorem ZJ (b:Int) (c:Int):Zbn b c=Zaj b c Zgw:=by
 funext s
 simp only[Zbn,Zaj,Zc9,Zdf,Zb1,Option.bind_some,ZH]
theorem ZX (b:Int) (c:Int) (m:List Int):Zat b c m=Z2 b c Zgw m:=by
 simp only[Zat,Z2,Zc9,Zdf,Zb1,Option.bind_some,ZH,ZJ]
theorem Zah (c:Int) (d:Int):ZbW c d=ZM c d Zgw:=by
 funext s
 simp only[ZbW,ZM,Zc9,Zdf,Zb1,Option.bind_some,ZH,ZJ,ZX]
theorem Zbc (b:Int) (c:Int) (d:Int) (m:List Int):ZbF b c d m=ZaK b c d Zgw m:=by
 simp only[ZbF,ZaK,Zc9,Zdf,Zb1,Option.bind_some,ZH,ZJ,ZX,Zah]
theorem Zao (b:Int) (c:Int):ZbT b c=ZaG b c Zgw:=by
 funext s
 simp only[ZbT,ZaG,Zc9,Zdf,Zb1,Option.bind_some,ZH,ZJ,ZX,Zah,Zbc]
theorem Zaw (b:Int):ZbV b=ZaJ b Zgw:=by
 funext s
 simp only[ZbV,ZaJ,Zc9,Zdf,Zb1,Option.bind_some,ZH,ZJ,ZX,Zah,Zbc,Zao]
theorem Zbt (b:Int) (c:Int) (m:List Int):Za3 b c m=Zaf b c Zgw m:=by
 simp only[Za3,Zaf,Zc9,Zdf,Zb1,Option.bind_some,ZH,ZJ,ZX,Zah,Zbc,Zao,Zaw]
theorem ZcE (b:Int) (c:Int) (m:List Int) (k:Int):Zbw b c m k=ZaY b c Zgw m k:=by
 simp only[Zbw,ZaY,Zc9,Zdf,Zb1,Option.bind_some,ZH,ZJ,ZX,Zah,Zbc,Zao,Zaw,Zbt]
theorem ZcV (b:Int) (c:Int) (d:Int) (m:List Int) (k:Int):Zbx b c d m k=ZaX b c d Zgw m k:=by
 simp only[Zbx,ZaX,Zc9,Zdf,Zb1,Option.bind_some,ZH,ZJ,ZX,Zah,Zbc,Zao,Zaw,Zbt,ZcE]
theorem Zai (b:Int) (m:List Int) (k:Int):ZaN b m k=Zac b Zgw m k:=by
 simp only[ZaN,Zac,Zc9,Zdf,Zb1,Option.bind_some,ZH,ZJ,ZX,Zah,Zbc,Zao,Zaw,Zbt,ZcE,ZcV]
theorem Za5 (b:Int) (c:Int) (m:List Int):ZaI b c m=ZT b c Zgw m:=by
 simp only[ZaI,ZT,Zc9,Zdf,Zb1,Option.bind_some,ZH,ZJ,ZX,Zah,Zbc,Zao,Zaw,Zbt,ZcE,ZcV,Zai]
theorem Zap  : Zbu  = Z9 :=by
 funext s
 simp only[Zbu,Z9,Zc9,Zdf,Zb1,Option.bind_some,ZH,ZJ,ZX,Zah,Zbc,Zao,Zaw,Zbt,ZcE,ZcV,Zai,Za5]
theorem Zba (b:Int) (c:Int) (m:List Int):ZaA b c m=ZO b c Zgw m:=by
 simp only[ZaA,ZO,Zc9,Zdf,Zb1,Option.bind_some,ZH,ZJ,ZX,Zah,Zbc,Zao,Zaw,Zbt,ZcE,ZcV,Zai,Za5,Zap]
theorem ZV (c:Int):ZaU c=ZK c Zgw:=by
 funext s s1
 simp only[ZaU,ZK,Zc9,Zdf,Zb1,Option.bind_some,ZH,ZJ,ZX,Zah,Zbc,Zao,Zaw,Zbt,ZcE,ZcV,Zai,Za5,Zap,Zba]
theorem Z4  : ZaR  = ZS Zgw:=by
 funext s
 simp only[ZaR,ZS,Zc9,Zdf,Zb1,Option.bind_some,ZH,ZJ,ZX,Zah,Zbc,Zao,Zaw,Zbt,ZcE,ZcV,Zai,Za5,Zap,Zba,ZV]
theorem Z8 (c:Int):Zan c=ZI c Zgw:=by
 funext s
 simp only[Zan,ZI,Zc9,Zdf,Zb1,Option.bind_some,ZH,ZJ,ZX,Zah,Zbc,Zao,Zaw,Zbt,ZcE,ZcV,Zai,Za5,Zap,Zba,ZV,Z4]
theorem Zab (b:Int) (c:Int):ZaT b c=ZR b c Zgw:=by
 funext s
 simp only[ZaT,ZR,Zc9,Zdf,Zb1,Option.bind_some,ZH,ZJ,ZX,Zah,Zbc,Zao,Zaw,Zbt,ZcE,ZcV,Zai,Za5,Zap,Zba,ZV,Z4,Z8]
theorem Zas (b:Int) (c:Int) (m:List Int):ZaF b c m=ZP b c Zgw m:=by
 simp only[ZaF,ZP,Zc9,Zdf,Zb1,Option.bind_some,ZH,ZJ,ZX,Zah,Zbc,Zao,Zaw,Zbt,ZcE,ZcV,Zai,Za5,Zap,Zba,ZV,Z4,Z8,Zab]
theorem ZcK (b:Int) (c:Int) (d:Int) (m:List Int) (x:Int) (y:Int):ZbN b c d m x y=ZaB b c d m Zgw x y:=by
 funext k
 simp only[ZbN,ZaB,Zc9,Zdf,Zb1,Option.bind_some,ZH,ZJ,ZX,Zah,Zbc,Zao,Zaw,Zbt,ZcE,ZcV,Zai,Za5,Zap,Zba,ZV,Z4,Z8,Zab,Zas]
theorem Zc6 (b:Int) (d:Int) (m:List Int) (x:Int) (y:Int) (r:Int):ZbH b d m x y r=Zaz b d m Zgw x y r:=by
 funext k
 simp only[ZbH,Zaz,Zc9,Zdf,Zb1,Option.bind_some,ZH,ZJ,ZX,Zah,Zbc,Zao,Zaw,Zbt,ZcE,ZcV,Zai,Za5,Zap,Zba,ZV,Z4,Z8,Zab,Zas,ZcK]
theorem Zdz (b:Int) (s:Int×Int×List Int):ZbI b s=ZaC b Zgw s:=by
 funext k
 simp only[ZbI,ZaC,Zc9,Zdf,Zb1,Option.bind_some,ZH,ZJ,ZX,Zah,Zbc,Zao,Zaw,Zbt,ZcE,ZcV,Zai,Za5,Zap,Zba,ZV,Z4,Z8,Zab,Zas,ZcK,Zc6]
theorem Zd8 (b:Int) (r:Int) (s:Int×Int×List Int):ZbK b s r=Zay b Zgw s r:=by
 funext k
 simp only[ZbK,Zay,Zc9,Zdf,Zb1,Option.bind_some,ZH,ZJ,ZX,Zah,Zbc,Zao,Zaw,Zbt,ZcE,ZcV,Zai,Za5,Zap,Zba,ZV,Z4,Z8,Zab,Zas,ZcK,Zc6,Zdz]
theorem ZeV (b:Int):ZbL b=Za0 b Zgw:=by
 funext s
 simp only[ZbL,Za0,Zc9,Zdf,Zb1,Option.bind_some,ZH,ZJ,ZX,Zah,Zbc,Zao,Zaw,Zbt,ZcE,ZcV,Zai,Za5,Zap,Zba,ZV,Z4,Z8,Zab,Zas,ZcK,Zc6,Zdz,Zd8]
theorem Zgy (b:Int) (c:Int) (d:Int) (m:List Int):Zv b c d m=Zq b c d Zgw m:=by
 simp only[Zv,Zq,Zc9,Zdf,Zb1,Option.bind_some,ZH,ZJ,ZX,Zah,Zbc,Zao,Zaw,Zbt,ZcE,ZcV,Zai,Za5,Zap,Zba,ZV,Z4,Z8,Zab,Zas,ZcK,Zc6,Zdz,Zd8,ZeV]
theorem Zez (b:Int) (s:Int×Int×List Int):Zbh b s=Zad b Zgw s:=by
 funext k
 simp only[Zbh,Zad,Zc9,Zdf,Zb1,Option.bind_some,ZH,ZJ,ZX,Zah,Zbc,Zao,Zaw,Zbt,ZcE,ZcV,Zai,Za5,Zap,Zba,ZV,Z4,Z8,Zab,Zas,ZcK,Zc6,Zdz,Zd8,ZeV,Zgy]
theorem ZfN (b:Int) (r:Int) (s:Int×Int×List Int):Zbi b s r=Zae b Zgw s r:=by
 funext k
 simp only[Zbi,Zae,Zc9,Zdf,Zb1,Option.bind_some,ZH,ZJ,ZX,Zah,Zbc,Zao,Zaw,Zbt,ZcE,ZcV,Zai,Za5,Zap,Zba,ZV,Z4,Z8,Zab,Zas,ZcK,Zc6,Zdz,Zd8,ZeV,Zgy,Zez]
theorem Zg0 (b:Int):Zbj b=Zar b Zgw:=by
 funext s
 simp only[Zbj,Zar,Zc9,Zdf,Zb1,Option.bind_some,ZH,ZJ,ZX,Zah,Zbc,Zao,Zaw,Zbt,ZcE,ZcV,Zai,Za5,Zap,Zba,ZV,Z4,Z8,Zab,Zas,ZcK,Zc6,Zdz,Zd8,ZeV,Zgy,Zez,ZfN]
theorem Zh0 (b:Int) (c:Int) (d:Int) (m:List Int):ZL b c d m=ZC b c d Zgw m:=by
 simp only[ZL,ZC,Zc9,Zdf,Zb1,Option.bind_some,ZH,ZJ,ZX,Zah,Zbc,Zao,Zaw,Zbt,ZcE,ZcV,Zai,Za5,Zap,Zba,ZV,Z4,Z8,Zab,Zas,ZcK,Zc6,Zdz,Zd8,ZeV,Zgy,Zez,ZfN,Zg0]
theorem Zmf (b:Int) (c:Int) (x:Int):Zbp b c x=Zax b c x:=by
 funext s
 simp only[Zbp,Zax,Zc9,Zdf,Zb1,Option.bind_some,ZH,ZJ,ZX,Zah,Zbc,Zao,Zaw,Zbt,ZcE,ZcV,Zai,Za5,Zap,Zba,ZV,Z4,Z8,Zab,Zas,ZcK,Zc6,Zdz,Zd8,ZeV,Zgy,Zez,ZfN,Zg0,Zh0]
theorem Zn2 (b:Int) (c:Int) (m:List Int):Zbe b c m=Zag b c Zgw m:=by
 simp only[Zbe,Zag,Zc9,Zdf,Zb1,Option.bind_some,ZH,ZJ,ZX,Zah,Zbc,Zao,Zaw,Zbt,ZcE,ZcV,Zai,Za5,Zap,Zba,ZV,Z4,Z8,Zab,Zas,ZcK,Zc6,Zdz,Zd8,ZeV,Zgy,Zez,ZfN,Zg0,Zh0,Zmf]
theorem Zv0 (rc:Int→Int→Int→(Int→Int→Option Int)→List Int→Option (List Int)) (rc':Int→Int→Int→List Int→Option (List Int)) (h:∀a b c l,rc' a b c l=rc a b c Zgw l):Zb5 rc'=ZU Zgw rc:=by
 funext s
 simp only[Zb5,ZU,Zc9,Zdf,Zb1,Option.bind_some,h,ZX,Zbc,Zbt,ZcE,ZcV,Zai,Za5,Zba,Zas,Zgy,Zh0,Zn2]
theorem Zuv:∀(n:Nat) (a b c:Int) (l:List Int),Zbf n a b c l=ZY n a b c Zgw l
 | 0,_,_,_,_=>rfl
 | n+1,a,b,c,l=>by
  show Zb9 (Zbf n) a b c l=ZaD (ZY n) a b c Zgw l
  unfold Zb9 ZaD
  rw[Zv0 (ZY n) (Zbf n) (Zuv n)]
theorem Zvy (l:List Int):Zcy l=ZaO Zgw l:=by
 unfold Zcy ZaO ZeF Zdu
 simp only[Zuv]
theorem ZuD (l:List Int) (hl:l.length≤1000):∃r:List Int,Zcy l=some r∧r.Perm l∧r.Pairwise (fun x y=>x≤y):=by
 have hc:ZpT Zgw (fun x y=>bif decide (x<y) then (-1:Int) else 0) (fun _=>True):=fun x y _ _=>rfl
 have e:∀x y:Int,ltC (fun x y=>bif decide (x<y) then (-1:Int) else 0) x y=decide (x<y):=fun x y=>Zb1 _
 have hs:SWO (ltC fun x y=>bif decide (x<y) then (-1:Int) else 0):=by
  refine⟨fun x=>?_,fun x y z h1 h2=>?_,fun x y z h1 h2=>?_⟩<;>simp only[e,decide_eq_true_eq,decide_eq_false_iff_not] at *<;>omega
 obtain⟨r,h1,h2,h3⟩:=ZwX hc hs l hl (fun _ _=>trivial)
 refine⟨r,(Zvy l).trans h1,h2,h3.imp fun {x y} h=>?_⟩
 rw[e,decide_eq_false_iff_not] at h
 omega
end Go.Proofs.YtljgncbdagmeeaaDoor
namespace Go.Proofs.YtljgncbdagmeeaaDoor
open Go Go.Proofs.YtljgncbdagmeeaaDoorE
set_option linter.unusedVariables false
set_option linter.unusedSimpArgs false
theorem ZyC {g:Zb4} (h:Ziz g) (n:Int):∃r,Zij g n=some r∧(∀z,z∈r↔∃e∈g.edges,e.dst=n∧e.src=z)∧r.length≤256:=by
 have hel:=h.el
 have key:=Zw0 g.edges (by omega) (fun e:Zr=>e.dst==n) (fun _ e=>e.src) (ZgR g fun z0=>ZfA z0 n) (fun i x s hi hx=>by
  simp only[ZgR,Zgo hi,cond_true,Zb0 hx,Option.bind_some,ZfA,ZaM hi h.short.e]
  cases x.dst==n<;>rfl) (fun s=>by simp only[ZgR,Zho,cond_false]) [] (by simp)
 rw[List.nil_append] at key
 have hlen:(sel (fun e:Zr=>e.dst==n) (fun _ e=>e.src) 0 g.edges).length≤256:=Nat.le_trans (ZuP _ _ _ _) hel
 obtain⟨r,h1,h2,_⟩:=ZuD _ (Nat.le_trans hlen (by omega))
 refine⟨r,?_,fun z=>?_,by rw[h2.length_eq]; exact hlen⟩
 ·unfold Zij Zlr
  simp only[key,Option.bind_some,h1]
 ·rw[h2.mem_iff,Zob]
  constructor
  ·rintro ⟨j,x,hx,h3,h4⟩
   exact⟨x,List.mem_of_getElem? hx,by simpa using h3,h4.symm⟩
  ·rintro ⟨e,he,h3,h4⟩
   obtain⟨j,hj⟩:=List.getElem?_of_mem he
   exact⟨j,e,hj,by simpa using h3,h4.symm⟩
noncomputable def ZvX (g:Zb4) (a b:Int):Bool:=@decide (Way g a b) (Classical.propDecidable _)
theorem ZsV {g:Zb4} {a b:Int} (h:Way g a b):ZvX g a b=true:=@decide_eq_true _ (Classical.propDecidable _) h
theorem Zzo {g:Zb4} {a b:Int} (h:¬Way g a b):ZvX g a b=false:=@decide_eq_false _ (Classical.propDecidable _) h
theorem Zvl {g:Zb4} (h:ZjM g=0):∃l,Zie g=some l∧ZA6 g l:=by
 obtain⟨hG,hA⟩:=Zqh h
 obtain⟨l,h1,h2⟩:=ZpZ hG hA
 refine⟨l,?_,h2⟩
 unfold Zie
 rw[Zow g hG.short,h,Option.bind_some]
 simp only[bne_self_eq_false,cond_false,h1,Option.bind_some,cond_true]
theorem ZrK {g:Zb4} (h:ZjM g=0) (a b:Int):ZgQ g a b=some (ZvX g a b):=by
 obtain⟨hG,hA⟩:=Zqh h
 obtain⟨l,h1,T⟩:=Zvl h
 have hwl:=hG.wl
 have hll:l.length≤64:=by rw[T.len]; exact hwl
 have key:∀(k i:Nat) (fr:List Int),i+k=l.length→(∀z,z∈fr↔z=a∨(Way g a z∧∃j,j<i∧l[j]? = some z))→fr.length≤i+1→¬(Way g a b∧∃j,j<i∧l[j]? = some b) →
   lp (Zeu g b l) ((i:Int),fr)=some (bif ZvX g a b then .inl () else .inr ()):=by
  intro k
  induction k with
  | zero=>
   intro i fr hi hm hl hn
   have:i=l.length:=by omega
   subst this
   rw[Zcn]
   simp only[Zeu,Zho,cond_false]
   have:¬Way g a b:=fun w=>hn ⟨w,by
    have hd:=w.dst_in hG
    have:=T.all b.toNat hd.2
    rw[show((b.toNat:Nat):Int)=b by omega] at this
    obtain⟨j,hj⟩:=List.getElem?_of_mem this
    exact⟨j,(List.getElem?_eq_some_iff.1 hj).1,hj⟩⟩
   rw[Zzo this]; rfl
  | succ k ih=>
   intro i fr hi hm hl hn
   have hi':i<l.length:=by omega
   have hx:l[i]? = some l[i]:=List.getElem?_eq_getElem hi'
   obtain⟨ps,p1,p2,p3⟩:=ZyC hG l[i]
   have inner:=Zf4 ps (Zfm b ((i:Int),fr) l[i] ps) (fun _ p=>fr.any fun x=>p==x) (fun _ _=>(bif l[i]==b then (.inl ():Unit⊕List Int) else .inr (fr++[l[i]]))) (.inr fr) (fun j p hj hp=>by
    simp only[Zfm,Zgo hj,cond_true,Zb0 hp,Option.bind_some,Zss fr p (by omega),Zjn (show fr.length+1≤1073741824 by omega),ZaM hj (show ps.length<9223372036854775808 by omega)]
    cases fr.any (fun x=>p==x)<;>cases l[i]==b<;>rfl) (by simp only[Zfm,Zho]; rfl)
   rw[ZdQ,ZhB] at inner
   have hw:(ps.any fun p=>fr.any fun x=>p==x)=true↔Way g a l[i]:=by
    rw[List.any_eq_true]
    constructor
    ·rintro ⟨p,hp,hq⟩
     obtain⟨q,hq1,hq2⟩:=List.any_eq_true.1 hq
     have:p=q:=by simpa using hq2
     subst this
     obtain⟨e,he,e1,e2⟩:=(p2 p).1 hp
     rcases(hm p).1 hq1 with hz | ⟨hz,_⟩
     ·rw[← e1,← hz,← e2]; exact Way.one he
     ·rw[← e1]; exact Way.more (by rw[e2]; exact hz) he
    ·intro w
     generalize hni:l[i]=n at w
     cases w with
     | @one e he=>
      exact⟨e.src,(p2 _).2 ⟨e,he,hni.symm,rfl⟩,List.any_eq_true.2 ⟨e.src,(hm _).2 (.inl rfl),by simp⟩⟩
     | @more _ e w he=>
      obtain⟨j,j1,j2⟩:=T.topo i l[i] hx e he hni.symm
      exact⟨e.src,(p2 _).2 ⟨e,he,hni.symm,rfl⟩,List.any_eq_true.2 ⟨e.src,(hm _).2 (.inr ⟨w,j,j1,j2⟩),by simp⟩⟩
   rw[Zcn]
   simp only[Zeu,Zgo hi',cond_true,Zb0 hx,Option.bind_some,p1,inner,ZaM hi' (show l.length<9223372036854775808 by omega)]
   by_cases hwi:Way g a l[i]
   ·rw[hw.2 hwi]
    simp only[cond_true]
    by_cases hb:l[i]=b
    ·rw[hb,ZsV (hb ▸ hwi)]
     simp only[beq_self_eq_true,cond_true]
    ·rw[beq_false_of_ne hb]
     simp only[cond_false]
     refine ih (i+1) (fr++[l[i]]) (by omega) (fun z=>?_) (by rw[List.length_append]; simp only[List.length_cons,List.length_nil]; omega) ?_
     ·rw[List.mem_append,List.mem_singleton,hm z]
      constructor
      ·rintro ((hz | ⟨hz,j,j1,j2⟩) | hz)
       ·exact .inl hz
       ·exact .inr ⟨hz,j,by omega,j2⟩
       ·exact .inr ⟨hz ▸ hwi,i,by omega,by rw[hx,hz]⟩
      ·rintro (hz | ⟨hz,j,j1,j2⟩)
       ·exact .inl (.inl hz)
       ·by_cases hj:j<i
        ·exact .inl (.inr ⟨hz,j,hj,j2⟩)
        ·have:j=i:=by omega
         subst this
         rw[hx] at j2
         exact .inr (Option.some.inj j2).symm
     ·rintro ⟨w,j,j1,j2⟩
      by_cases hj:j<i
      ·exact hn ⟨w,j,hj,j2⟩
      ·have:j=i:=by omega
       subst this
       rw[hx] at j2
       exact hb (Option.some.inj j2)
   ·have hf:(ps.any fun p=>fr.any fun x=>p==x)=false:=by
     cases hc:ps.any fun p=>fr.any fun x=>p==x with
     | false=>rfl
     | true=>exact absurd (hw.1 hc) hwi
    rw[hf]
    simp only[cond_false]
    refine ih (i+1) fr (by omega) (fun z=>?_) (by omega) ?_
    ·rw[hm z]
     constructor
     ·rintro (hz | ⟨hz,j,j1,j2⟩)
      ·exact .inl hz
      ·exact .inr ⟨hz,j,by omega,j2⟩
     ·rintro (hz | ⟨hz,j,j1,j2⟩)
      ·exact .inl hz
      ·by_cases hj:j<i
       ·exact .inr ⟨hz,j,hj,j2⟩
       ·have:j=i:=by omega
        subst this
        rw[hx] at j2
        exact absurd (Option.some.inj j2 ▸ hz) hwi
    ·rintro ⟨w,j,j1,j2⟩
     by_cases hj:j<i
     ·exact hn ⟨w,j,hj,j2⟩
     ·have:j=i:=by omega
      subst this
      rw[hx] at j2
      exact hwi (Option.some.inj j2 ▸ w)
 have k0:=key l.length 0 [a] (by omega) (fun z=>by
  rw[List.mem_singleton]
  constructor
  ·exact .inl
  ·rintro (hz | ⟨_,j,j1,_⟩)
   ·exact hz
   ·omega) (by simp) (by rintro ⟨_,j,j1,_⟩; omega)
 unfold ZgQ
 rw[h1,Option.bind_some,show lp (Zeu g b l) (0,[a])=_ from k0]
 cases ZvX g a b<;>rfl
end Go.Proofs.YtljgncbdagmeeaaDoor
namespace Go.Proofs.YtljgncbdagmeeaaDoor
open Go Go.Proofs.YtljgncbdagmeeaaDoorE
set_option linter.unusedVariables false
set_option linter.unusedSimpArgs false
theorem ZrY (d:Zu) {m n:Nat} (h:m≤n):Zam d m≤Zam d n:=by
  induction n with
  | zero => have : m = 0 := by omega
            subst this; exact Nat.le_refl _
  | succ n ih=>
    by_cases hm:m=n+1
    · subst hm; exact Nat.le_refl _
    · have:=ih (by omega)
      show Zam d m≤Zam d n+(nt d n+1)
      omega
theorem Zlh (d:Zu) (n:Nat):Zam d (n+1)=Zam d n+nt d n+1:=by show Zam d n+(nt d n+1)=_; omega
theorem ZpU (d:Zu) {m n j:Nat} (h:m<n) (hj:j≤nt d m):Zam d m+j<Zam d n:=by
  have:=ZrY d (show m+1≤n by omega)
  have:=Zlh d m
  omega
theorem Zst (d:Zu):∀(k i:Nat),i<Zam d k→∃n j,n<k∧j≤nt d n∧i=Zam d n+j
  | 0,i,h=>absurd h (by show ¬i<0; omega)
  | k+1,i,h=>by
    have hs:=Zlh d k
    by_cases hi:i<Zam d k
    · obtain⟨n,j,h1,h2,h3⟩:=Zst d k i hi
      exact⟨n,j,by omega,h2,h3⟩
    · exact⟨k,i-Zam d k,by omega,by omega,by omega⟩
theorem ZoG (d:Zu):∀(k n j:Nat),n<k→j≤nt d n→(ZdH d k)[Zam d n+j]? = some ⟨(n:Int),(j:Int)⟩
  | 0,n,j,h,_=>absurd h (by omega)
  | k+1,n,j,h,hj=>by
    rw[show ZdH d (k+1)=ZdH d k++Zfr k (nt d k+1) from ZdR _ k]
    by_cases hn:n<k
    · rw[List.getElem?_append_left (by rw[ZdG]; exact ZpU d hn hj)]
      exact ZoG d k n j hn hj
    · have:n=k:=by omega
      subst this
      rw[List.getElem?_append_right (by rw[ZdG]; omega),ZdG,Nat.add_sub_cancel_left]
      unfold Zfr
      rw[List.getElem?_map,List.getElem?_range (by omega)]
      rfl
theorem Zpa {d:Zu} {n j:Nat} (hn:n<d.parts.length) (hj:j≤nt d n):(Zfy d)[Zam d n+j]? = some ⟨(n:Int),(j:Int)⟩:=by
  unfold Zfy
  rw[List.getElem?_append_left (by rw[ZdG]; exact ZpU d hn hj)]
  exact ZoG d _ n j hn hj
theorem ZnL {d:Zu} {i:Nat} {x:Zi} (h:(Zfy d)[i]? = some x):(∃n j,n<d.parts.length∧j≤nt d n∧i=Zam d n+j∧x=⟨(n:Int),(j:Int)⟩)∨(Zam d d.parts.length≤i∧x.part = -1):=by
  by_cases hi:i<Zam d d.parts.length
  · obtain⟨n,j,h1,h2,h3⟩:=Zst d _ i hi
    subst h3
    rw[Zpa h1 h2] at h
    exact .inl ⟨n,j,h1,h2,rfl,(Option.some.inj h).symm⟩
  · refine .inr ⟨by omega,?_⟩
    unfold Zfy at h
    rw[List.getElem?_append_right (by rw[ZdG]; omega)] at h
    have:=List.mem_of_getElem? h
    unfold Zgp at this
    obtain⟨k,_,rfl⟩:=List.mem_map.1 this
    rfl
theorem Zse {d:Zu} (g:Zfs d) {z:Int} (h:inR d z):ZgN (Ze8 d) (Zi.mk z 0)=some (Ziv d z):=by
  have hlen:(Zfy d).length<9223372036854775808:=by rw[ZoK g]; have:=g.pl; have:=g.fl; have:=g.bl; omega
  have ez:((z.toNat:Nat):Int)=z:=Int.toNat_of_nonneg h.1
  have key:=Zf4 (Zfy d) (Zeo (Ze8 d) (Zi.mk z 0)) (fun _ x=>(x.part==z)&&((x.step==0)&&true)) (fun i _=>(i:Int)) (-1) (fun i x hi hx=>by
    have hi2:i<(Ze8 d).pieces.length:=hi
    have hx2:(Ze8 d).pieces[i]? = some x:=hx
    simp only[Zeo,Zgo hi2,cond_true,Zb0 hx2,Option.bind_some,ZaM hi2 hlen]
    cases (x.part==z)<;>cases (x.step==0)<;>rfl) (by
    show Zeo (Ze8 d) (Zi.mk z 0) ((Ze8 d).pieces.length:Int)=_
    simp only[Zeo,Zho]; rfl)
  have hp:=Zpa h.2 (Nat.zero_le (nt d z.toNat))
  rw[Nat.add_zero] at hp
  have hs:=ZqY (fun(_:Nat) (x:Zi)=>(x.part==z)&&((x.step==0)&&true)) (fun i _=>(i:Int)) (-1) (Zfy d) 0 (Zam d z.toNat) _ hp (by simp[ez]) (fun k y hk hy=>by
    rcases ZnL hy with⟨n,j,h1,h2,h3,rfl⟩ | ⟨h1,h2⟩
    · rw[Bool.and_true,Bool.and_eq_false_iff]
      by_cases hn:n=z.toNat
      · subst hn
        exact .inr (beq_false_of_ne (by show(j:Int)≠0; omega))
      · exact .inl (beq_false_of_ne (by show(n:Int)≠z; omega))
    · have h0:=h.1
      rw[beq_false_of_ne (show y.part≠z by omega)]
      rfl)
  unfold ZgN
  rw[key,hs]
  simp only[Option.bind_some,Nat.zero_add]
  rfl
theorem Zsm (zs:List (Int×Int)) (p:Int) (hp:0≤p) (i:Nat):∀k,i<k→(pc zs i).1=p→(∀j,i<j→j<k→(pc zs j).1≠p)→Zgb zs p k=(i:Int)
  | 0,h,_,_=>absurd h (by omega)
  | k+1,h,h1,h2=>by
    unfold Zgb
    by_cases hk:k=i
    · subst hk
      rw[h1,bne_self_eq_false,decide_eq_false (show ¬p<0 by omega)]
      rfl
    · have:=h2 k (by omega) (by omega)
      rw[bne_iff_ne.2 this]
      exact Zsm zs p hp i k (by omega) h1 fun j a b=>h2 j a (by omega)
theorem ZrI {d:Zu} (g:Zfs d) {z:Int} (h:inR d z):ZgU (Ze8 d) z=some (Zji d z):=by
  have hlen:(Zfy d).length≤1000:=by rw[ZoK g]; have:=g.pl; have:=g.fl; have:=g.bl; omega
  have ez:((z.toNat:Nat):Int)=z:=Int.toNat_of_nonneg h.1
  have hp:=Zpa h.2 (Nat.le_refl (nt d z.toNat))
  have hpc:∀(i:Nat) x,(Zfy d)[i]? = some x→(pc (List.map (fun x:Zi=>(x.part,x.step)) (Zfy d)) i).1=x.part:=fun i x hx=>by
    unfold pc
    rw[List.getElem?_map,hx]
    rfl
  have hi:Zam d z.toNat+nt d z.toNat<(Zfy d).length:=(List.getElem?_eq_some_iff.1 hp).1
  have hs:=Zsm (List.map (fun x:Zi=>(x.part,x.step)) (Zfy d)) z h.1 (Zam d z.toNat+nt d z.toNat) (Zfy d).length hi (by rw[hpc _ _ hp]; exact ez) (fun j h1 h2=>by
    have hy:=List.getElem?_eq_getElem h2
    rw[hpc _ _ hy]
    rcases ZnL hy with⟨n,m,m1,m2,m3,m4⟩ | ⟨_,m2⟩
    · rw[m4]
      show(n:Int)≠z
      intro hc
      have:n=z.toNat:=by omega
      subst this
      omega
    · rw[m2]; have:=h.1; omega)
  unfold ZgU ZrC
  rw[List.length_map,Zjn (show(Ze8 d).pieces.length≤1073741824 by show(Zfy d).length≤_; omega)]
  simp only[cond_true,Option.bind_some]
  show some (Zgb (List.map (fun x:Zi=>(x.part,x.step)) (Zfy d)) z (Zfy d).length)=_
  rw[hs]
  unfold Zji
  rw[Zlh]
  congr 1
  omega
theorem ZuG {d:Zu} {e:Zr} (h:e∈d.edges):(⟨Zji d e.src,Ziv d e.dst⟩:Zr)∈(Ze8 d).dag.edges:=by
  show _∈Zma d
  unfold Zma Zmi ZnB
  simp only[List.mem_append,List.mem_map]
  exact .inl (.inl (.inr ⟨e,h,rfl⟩))
theorem Zqp {d:Zu} {i:Nat} {b:Zt} (h:d.barriers[i]? = some b) {x:Zr} (hx:x∈ZuQ d (Zl4 d i) b):x∈(Ze8 d).dag.edges:=by
  show _∈Zma d
  unfold Zma Zg1 upto
  simp only[List.mem_append,List.mem_flatMap,List.mem_range]
  refine .inr ⟨i,(List.getElem?_eq_some_iff.1 h).1,?_⟩
  rw[h]
  exact hx
def ZBu (g:Zb4) (a b:Int):Prop:=a=b∨Way g a b
theorem ZBu.way {g:Zb4} {a b c:Int} (h:ZBu g a b) (w:Way g b c):Way g a c:=by
  rcases h with rfl | h
  · exact w
  · exact h.trans w
end Go.Proofs.YtljgncbdagmeeaaDoor
namespace Go.Proofs.YtljgncbdagmeeaaDoor
open Go Go.Proofs.YtljgncbdagmeeaaDoorE
set_option linter.unusedVariables false
set_option linter.unusedSimpArgs false
theorem Zh5:∀r,Zg4=some r→evD ctx 14 []=some (D.bool r):=fun r h=>by
  cases h
  exact ZzU 100 (by kernel_rfl)
def Zl0 (r:Bool):D:=(D.bool r)
def ZjW (t0:Bool) (t1:Bool) (t2:Bool) (t3:Bool) (a:Zu):(Unit⊕Unit)→Ex×List V×Zn
  | (.inl r)=>(.ret,[(.ptr 0 0),(.d (D.bool false))],[(.cells (dV t0 t1 t2 t3 a))])
  | (.inr r)=>(.exit 0,[(.ptr 0 0),.bad],[(.cells (dV t0 t1 t2 t3 a))])
theorem ZmJ {t0:Bool} {t1:Bool} {t2:Bool} {t3:Bool} {a:Zu}:∀(s0:Int) (r:(Unit⊕Unit)),lp (ZfO a) s0=some r→lpW ctx 0 [1,3] [1,2] ZwA [(.ptr 0 0),(.d (Ze s0))] [(.cells (dV t0 t1 t2 t3 a))]=some ((ZjW t0 t1 t2 t3 a) r):=by
 refine Za6 (ZjW t0 t1 t2 t3 a) ?_
 intro s0 rcl ih
 show Z5 _ _ (lpW _ _ _ _ _ _ _)
 unfold ZfO
 rw[Za7]
 conv=>arg 3; whnf
 refine Zo (Zak _ _) ?_
 conv=>arg 3; whnf
 refine Zg rfl ?_ ?_
 ·conv=>arg 3; whnf
  refine Zg rfl ?_ ?_
  ·conv=>arg 3; whnf
   refine Zj rfl rfl fun x1 hx1=>?_
   conv=>arg 3; whnf
   refine Zo (Zak _ _) ?_
   conv=>arg 3; whnf
   refine Zg rfl ?_ ?_
   ·conv=>arg 3; whnf
    exact Zh rfl
   ·conv=>arg 3; whnf
    refine Zf (ZaE rfl hx1) ?_
    conv=>arg 3; whnf
    refine Zo (Zak _ _) ?_
    conv=>arg 3; whnf
    refine Zg rfl ?_ ?_
    ·conv=>arg 3; whnf
     exact Zh rfl
    ·conv=>arg 3; whnf
     exact Zd (ih _)
  ·conv=>arg 3; whnf
   exact Zh rfl
 ·conv=>arg 3; whnf
  exact Zh rfl
theorem Zpn {t0:Bool} {t1:Bool} {t2:Bool} {t3:Bool} {a:Zu}:∀r,(Zif a)=some r→evD ctx 15 [(.d (D.agg (dA t0 t1 t2 t3 a)))]=some (Zl0 r):=by
 show Z5 _ (fun r rhs=>rhs=some (Zl0 r)) _
 unfold Zif
 rw[ZcN ctx 15 ZzX _ rfl rfl]
 conv=>arg 3; whnf
 refine Zc _ (ZmJ _) fun r2 hr2=>?_
 clear hr2
 rcases r2 with r2 | r2
 ·conv=>arg 3; whnf
  exact Zh rfl
 ·conv=>arg 3; whnf
  refine Zo (Zak _ _) ?_
  conv=>arg 3; whnf
  refine Zg rfl ?_ ?_
  ·conv=>arg 3; whnf
   refine Zo (Zak _ _) ?_
   conv=>arg 3; whnf
   refine Zg rfl ?_ ?_
   ·conv=>arg 3; whnf
    refine Zo (Zak _ _) ?_
    conv=>arg 3; whnf
    refine Zg rfl ?_ ?_
    ·conv=>arg 3; whnf
     refine Zo (Zak _ _) ?_
     conv=>arg 3; whnf
     refine Zg rfl ?_ ?_
     ·conv=>arg 3; whnf
      exact Zh rfl
     ·conv=>arg 3; whnf
      exact Zh rfl
    ·conv=>arg 3; whnf
     exact Zh rfl
   ·conv=>arg 3; whnf
    exact Zh rfl
  ·conv=>arg 3; whnf
   exact Zh rfl
def Zl2 (t0:Bool) (t1:Bool) (t2:Bool) (t3:Bool) (a:Zu):(List Zt)→V×Zn
  | r=>((.agg [(.d (Ze a.period)),(.d (Ze a.deadline)),(.sl 0 3),(.sl 1 2),(.sl 2 3),(.sl 3 2)]),[(.arr 3 (List.map Zau a.parts)),(.arr 2 (List.map ZF a.edges)),(.arr 3 (List.map Zs a.futures)),(.arr 2 (List.map ZA r))])
def ZjS (t0:Bool) (t1:Bool) (t2:Bool) (t3:Bool) (a:Zu):(List Zt)→Ex×List V×Zn
  | r=>(.exit 0,[(.ptr 0 0),(.ptr 1 0)],[(.cells [(.d (Ze 0)),(.d (Ze 0)),(.sl 2 3),(.sl 3 2),(.sl 4 3),(.sl 5 2)]),(.cells [(.d (Ze a.period)),(.d (Ze a.deadline)),(.sl 6 3),(.sl 7 2),(.sl 8 3),(.sl 9 2)]),(.arr 3 []),(.arr 2 []),(.arr 3 []),(.arr 2 []),(.arr 3 (List.map Zau a.parts)),(.arr 2 (List.map ZF a.edges)),(.arr 3 (List.map Zs a.futures)),(.arr 2 (List.map ZA r))])
theorem ZmA {t0:Bool} {t1:Bool} {t2:Bool} {t3:Bool} {a:Zu}:∀(s0:Int×(List Zt)) (r:(List Zt)),lp (ZeU a) s0=some r→lpW ctx 0 [1,2,3,4] [2,3] ZxF [(.ptr 0 0),(.ptr 1 0),(.ptr 2 0),(.d (Ze s0.1))] [(.cells (dV t0 t1 t2 t3 a)),(.cells [(.d (Ze 0)),(.d (Ze 0)),(.sl 3 3),(.sl 4 2),(.sl 5 3),(.sl 6 2)]),(.cells [(.d (Ze a.period)),(.d (Ze a.deadline)),(.sl 7 3),(.sl 8 2),(.sl 9 3),(.sl 10 2)]),(.arr 3 []),(.arr 2 []),(.arr 3 []),(.arr 2 []),(.arr 3 (List.map Zau a.parts)),(.arr 2 (List.map ZF a.edges)),(.arr 3 (List.map Zs a.futures)),(.arr 2 (List.map ZA s0.2))]=some ((ZjS t0 t1 t2 t3 a) r):=by
 refine Za6 (ZjS t0 t1 t2 t3 a) ?_
 intro s0 rcl ih
 show Z5 _ _ (lpW _ _ _ _ _ _ _)
 unfold ZeU
 rw[Za7]
 conv=>arg 3; whnf
 refine Zo (Zak _ _) ?_
 conv=>arg 3; whnf
 refine Zg rfl ?_ ?_
 ·conv=>arg 3; whnf
  refine Zj rfl rfl fun x1 hx1=>?_
  conv=>arg 3; whnf
  refine ZbC (Zln (f:=Ze) (fun _=>⟨rfl,rfl⟩) x1.ins 0) ?_
  conv=>arg 3; whnf
  refine Zg (Zlm Ze x1.ins) ?_ ?_
  ·conv=>arg 3; whnf
   refine Zo (rfl:_=List.map Ze x1.ins) ?_
   conv=>arg 3; whnf
   refine Zf (ZaE rfl hx1) ?_
   conv=>arg 3; whnf
   refine ZbC (Zln (f:=Ze) (fun _=>⟨rfl,rfl⟩) x1.outs 0) ?_
   conv=>arg 3; whnf
   refine Zg (Zlm Ze x1.outs) ?_ ?_
   ·conv=>arg 3; whnf
    refine Zo (rfl:_=List.map Ze x1.outs) ?_
    conv=>arg 3; whnf
    refine ZbC rfl ?_
    conv=>arg 3; whnf
    refine Zg (Zju ZA s0.2 1) ?_ ?_
    ·conv=>arg 3; whnf
     refine Zo (Zjq ZA s0.2 [x1]) ?_
     conv=>arg 3; whnf
     exact Zd (ih _)
    ·exact ZbG
   ·exact ZbG
  ·exact ZbG
 ·conv=>arg 3; whnf
  exact Zh rfl
theorem ZoQ {t0:Bool} {t1:Bool} {t2:Bool} {t3:Bool} {a:Zu}:∀r,(Zil a)=some r→evW ctx 17 [(.d (D.agg (dA t0 t1 t2 t3 a)))] []=some ((Zl2 t0 t1 t2 t3 a) r):=by
 show Z5 _ (fun r rhs=>rhs=some ((Zl2 t0 t1 t2 t3 a) r)) _
 unfold Zil
 rw[Zei ctx 17 Zz9 _ _ rfl rfl]
 conv=>arg 3; whnf
 refine ZbC (Zln (f:=Zau) (fun _=>⟨rfl,rfl⟩) a.parts 0) ?_
 conv=>arg 3; whnf
 refine Zg (Zlm Zau a.parts) ?_ ?_
 ·conv=>arg 3; whnf
  refine Zo (rfl:_=List.map Zau a.parts) ?_
  conv=>arg 3; whnf
  refine ZbC (Zln (f:=ZF) (fun _=>⟨rfl,rfl⟩) a.edges 0) ?_
  conv=>arg 3; whnf
  refine Zg (Zlm ZF a.edges) ?_ ?_
  ·conv=>arg 3; whnf
   refine Zo (rfl:_=List.map ZF a.edges) ?_
   conv=>arg 3; whnf
   refine ZbC (Zln (f:=Zs) (fun _=>⟨rfl,rfl⟩) a.futures 0) ?_
   conv=>arg 3; whnf
   refine Zg (Zlm Zs a.futures) ?_ ?_
   ·conv=>arg 3; whnf
    refine Zo (rfl:_=List.map Zs a.futures) ?_
    conv=>arg 3; whnf
    refine Zc _ (ZmA _) fun r2 hr2=>?_
    conv=>arg 3; whnf
    exact Zh rfl
   ·exact ZbG
  ·exact ZbG
 ·exact ZbG
def ZkL (r:Bool):D:=(D.bool r)
theorem ZcR {a:Int} {b:Int} {c:Int}:∀r,(Zcj a b c)=some r→evD ctx 78 [(.d (Ze a)),(.d (Ze b)),(.d (Ze c))]=some (ZkL r):=by
 show Z5 _ (fun r rhs=>rhs=some (ZkL r)) _
 unfold Zcj
 rw[ZcN ctx 78 Zz3 _ rfl rfl]
 conv=>arg 3; whnf
 refine Zg rfl ?_ ?_
 ·conv=>arg 3; whnf
  refine Zg rfl ?_ ?_
  ·conv=>arg 3; whnf
   exact Zh rfl
  ·conv=>arg 3; whnf
   exact Zh rfl
 ·conv=>arg 3; whnf
  exact Zh rfl
def ZlY (r:Int):D:=(Ze r)
theorem ZoH {a:Int}:∀r,(Zib a)=some r→evD ctx 107 [(.d (Ze a))]=some (ZlY r):=by
 show Z5 _ (fun r rhs=>rhs=some (ZlY r)) _
 unfold Zib
 rw[ZcN ctx 107 Zwf _ rfl rfl]
 conv=>arg 3; whnf
 refine Zg rfl ?_ ?_
 ·conv=>arg 3; whnf
  exact Zh rfl
 ·conv=>arg 3; whnf
  refine Zg rfl ?_ ?_
  ·conv=>arg 3; whnf
   exact Zh rfl
  ·conv=>arg 3; whnf
   exact Zh rfl
def ZgV (r:Int):D:=(Ze r)
theorem ZiV {a:Int}:∀r,(Zdq a)=some r→evD ctx 129 [(.d (D.int .u64 a))]=some (ZgV r):=by
 show Z5 _ (fun r rhs=>rhs=some (ZgV r)) _
 unfold Zdq
 rw[ZcN ctx 129 Zw5 _ rfl rfl]
 conv=>arg 3; whnf
 refine ZQ rfl ?_
 conv=>arg 3; whnf
 refine ZQ rfl ?_
 conv=>arg 3; whnf
 refine ZQ rfl ?_
 conv=>arg 3; whnf
 refine ZQ rfl ?_
 conv=>arg 3; whnf
 refine ZQ rfl ?_
 conv=>arg 3; whnf
 refine ZQ rfl ?_
 conv=>arg 3; whnf
 exact Zh rfl
def Zhw (r:Int):D:=(Ze r)
theorem ZjN {a:Int}:∀r,(ZdK a)=some r→evD ctx 108 [(.d (D.int .u64 a))]=some (Zhw r):=by
 show Z5 _ (fun r rhs=>rhs=some (Zhw r)) _
 unfold ZdK
 rw[ZcN ctx 108 Zv3 _ rfl rfl]
 conv=>arg 3; whnf
 refine Zp _ ZiV rfl fun x0 hx0=>?_
 conv=>arg 3; whnf
 exact Zh rfl
theorem ZAK (n:Int):0≤IntKind.u64.wrap n∧IntKind.u64.wrap n<18446744073709551616:=by
  have:IntKind.u64.wrap n=n % 18446744073709551616:=by
    show(if (false&&decide (n % 18446744073709551616 ≥ 9223372036854775808))=true then n % 18446744073709551616-18446744073709551616 else n % 18446744073709551616)=_
    simp
  rw[this]
  omega
theorem ZBM (n:Int):∃j:Nat,j<64∧(IntKind.u64.wrap n).fdiv (2 ^ (min (Int.toNat 58) IntKind.u64.bits))=(j:Int):=by
  obtain⟨h1,h2⟩:=ZAK n
  have e:(2:Int) ^ (min (Int.toNat 58) IntKind.u64.bits)=288230376151711744:=by decide
  rw[e,Int.fdiv_eq_ediv_of_nonneg _ (by omega)]
  refine⟨((IntKind.u64.wrap n) / 288230376151711744).toNat,?_,?_⟩<;>omega
theorem ZBW:∀j:Nat,j<64→ZeC [] 1 false (.d (.rptr (ZwB.drop (j*1))))=some (.d (.int .u8 (Zrm.getD j 0))):=by
  have key:((List.range 64).all fun j=>match ZeC [] 1 false (.d (.rptr (ZwB.drop (j*1)))) with | some (.d (.int .u8 z))=>z==Zrm.getD j 0 | _=>false)=true:=by rfl
  intro j hj
  have:=List.all_eq_true.1 key j (by simpa using hj)
  split at this
  · rename_i z hz
    rw[hz,eq_of_beq this]
  · cases this
def Zin (r:Int):D:=Ze r
theorem ZhR (a:Int):∀r,ZeG a=some r→evD ctx 131 [.d (.int .u64 a)]=some (Zin r):=by
  intro r hr
  unfold ZeG at hr
  have hr:=Option.some.inj hr
  subst hr
  rw[ZcN ctx 131 Zxp _ rfl rfl]
  by_cases h:(a==0)=true
  · conv=>lhs; whnf
    rw[h,Zym]
    rfl
  · replace h:(a==0)=false:=by simpa using h
    obtain⟨j,hj,e⟩:=ZBM (IntKind.u64.wrap ((BitVec.ofInt IntKind.u64.bits a &&& BitVec.ofInt IntKind.u64.bits (IntKind.u64.wrap (0-a))).toNat:Int)*285870213051353865)
    conv=>lhs; whnf
    rw[h,ZyI]
    conv=>lhs; whnf
    refine(ZBN (by rfl)).trans ?_
    conv=>lhs; whnf
    rw[e]
    refine(ZAu (by simp; omega)).trans ?_
    conv=>lhs; whnf
    erw [ZBW j hj]
    rfl
def Zgs (r:Int):D:=(Ze r)
theorem Ziu {a:Int}:∀r,(ZdJ a)=some r→evD ctx 109 [(.d (D.int .u64 a))]=some (Zgs r):=by
 show Z5 _ (fun r rhs=>rhs=some (Zgs r)) _
 unfold ZdJ
 rw[ZcN ctx 109 Zwn _ rfl rfl]
 conv=>arg 3; whnf
 refine Zp _ (ZhR _) rfl fun x0 hx0=>?_
 conv=>arg 3; whnf
 exact Zh rfl
def ZnP (r:(Int×Bool)):D:=(D.tup [(Ze r.1),(D.bool r.2)])
theorem Zq2 {a:Int}:∀r,(ZjX a)=some r→evD ctx 64 [(.d (Ze a))]=some (ZnP r):=by
 show Z5 _ (fun r rhs=>rhs=some (ZnP r)) _
 unfold ZjX
 rw[ZcN ctx 64 ZzC _ rfl rfl]
 conv=>arg 3; whnf
 refine Zp _ ZoH rfl fun x0 hx0=>?_
 conv=>arg 3; whnf
 refine Zg rfl ?_ ?_
 ·conv=>arg 3; whnf
  exact Zh rfl
 ·conv=>arg 3; whnf
  refine Zp _ ZjN rfl fun x1 hx1=>?_
  conv=>arg 3; whnf
  refine Zg rfl ?_ ?_
  ·conv=>arg 3; whnf
   exact Zh rfl
  ·conv=>arg 3; whnf
   refine Zp _ Ziu rfl fun x2 hx2=>?_
   conv=>arg 3; whnf
   exact Zh rfl
def ZlP (r:Bool):D:=(D.bool r)
theorem ZoJ {a:Zal}:∀r,(Zf2 a)=some r→evD ctx 80 [(.d (D.agg [(Ze a.op),(Ze a.arg),(Ze a.work)]))]=some (ZlP r):=by
 show Z5 _ (fun r rhs=>rhs=some (ZlP r)) _
 unfold Zf2
 rw[ZcN ctx 80 Zz5 _ rfl rfl]
 conv=>arg 3; whnf
 refine Zp _ ZcR rfl fun x0 hx0=>?_
 conv=>arg 3; whnf
 refine Zg rfl ?_ ?_
 ·conv=>arg 3; whnf
  refine Zp _ ZcR rfl fun x1 hx1=>?_
  conv=>arg 3; whnf
  refine Zg rfl ?_ ?_
  ·conv=>arg 3; whnf
   refine Zp _ ZcR rfl fun x2 hx2=>?_
   conv=>arg 3; whnf
   refine Zg rfl ?_ ?_
   ·conv=>arg 3; whnf
    exact Zh rfl
   ·conv=>arg 3; whnf
    exact Zh rfl
  ·conv=>arg 3; whnf
   exact Zh rfl
 ·conv=>arg 3; whnf
  exact Zh rfl
def Zdv (r:Int):D:=(Ze r)
def Zc7 (t0:Bool) (a:(List Zal)):(Int⊕Unit)→Ex×List V×Zn
  | (.inl r)=>(.ret,[(.d (Ze r))],[])
  | (.inr r)=>(.exit 0,[.bad],[])
theorem Zfw {t0:Bool} {a:(List Zal)}:∀(s0:Int) (r:(Int⊕Unit)),lp (ZbA a (fun z0=>Zf2 z0)) s0=some r→lpW ctx 0 [0,1,7,8] [4] Zun [(.d (D.list t0 (List.map Zau a))),(.d (D.fn 80 [])),(.d (Ze (a.length:Int))),(.d (Ze s0))] []=some ((Zc7 t0 a) r):=by
 refine Za6 (Zc7 t0 a) ?_
 intro s0 rcl ih
 show Z5 _ _ (lpW _ _ _ _ _ _ _)
 unfold ZbA
 rw[Za7]
 conv=>arg 3; whnf
 refine Zg rfl ?_ ?_
 ·conv=>arg 3; whnf
  refine Zj rfl rfl fun x1 hx1=>?_
  conv=>arg 3; whnf
  refine Zp _ ZoJ rfl fun x2 hx2=>?_
  conv=>arg 3; whnf
  refine Zg rfl ?_ ?_
  ·conv=>arg 3; whnf
   exact Zh rfl
  ·conv=>arg 3; whnf
   exact Zd (ih _)
 ·conv=>arg 3; whnf
  exact Zh rfl
theorem ZfQ {t0:Bool} {a:(List Zal)}:∀r,(ZcQ a (fun z0=>Zf2 z0))=some r→evD ctx 118 [(.d (D.list t0 (List.map Zau a))),(.d (D.fn 80 []))]=some (Zdv r):=by
 show Z5 _ (fun r rhs=>rhs=some (Zdv r)) _
 unfold ZcQ
 rw[ZcN ctx 118 ZwP _ rfl rfl]
 conv=>arg 3; whnf
 refine Zo (Zak _ _) ?_
 conv=>arg 3; whnf
 refine Zc _ (Zfw _) fun r3 hr3=>?_
 clear hr3
 rcases r3 with r3 | r3
 ·conv=>arg 3; whnf
  exact Zh rfl
 ·conv=>arg 3; whnf
  exact Zh rfl
def Zdc (r:Bool):D:=(D.bool r)
theorem Zfx {t0:Bool} {a:(List Zal)}:∀r,(ZbB a (fun z0=>Zf2 z0))=some r→evD ctx 79 [(.d (D.list t0 (List.map Zau a))),(.d (D.fn 80 []))]=some (Zdc r):=by
 show Z5 _ (fun r rhs=>rhs=some (Zdc r)) _
 unfold ZbB
 rw[ZcN ctx 79 Zzs _ rfl rfl]
 conv=>arg 3; whnf
 refine Zp _ ZfQ rfl fun x0 hx0=>?_
 conv=>arg 3; whnf
 refine Zg rfl ?_ ?_
 ·conv=>arg 3; whnf
  exact Zh rfl
 ·conv=>arg 3; whnf
  exact Zh rfl
def Zm8 (r:Bool):D:=(D.bool r)
theorem ZlU {t0:Bool} {t1:Bool} {t2:Bool} {t3:Bool} {a:Zu} {b:Int} {c:Int}:∀r,(ZhY a b c)=some r→evD ctx 81 [(.d (D.agg (dA t0 t1 t2 t3 a))),(.d (Ze b)),(.d (Ze c))]=some (Zm8 r):=by
 show Z5 _ (fun r rhs=>rhs=some (Zm8 r)) _
 unfold ZhY
 rw[ZcN ctx 81 Zzp _ rfl rfl]
 conv=>arg 3; whnf
 refine Zg rfl ?_ ?_
 ·conv=>arg 3; whnf
  refine Zo (Zak _ _) ?_
  conv=>arg 3; whnf
  refine Zp _ ZcR rfl fun x0 hx0=>?_
  conv=>arg 3; whnf
  refine Zg rfl ?_ ?_
  ·conv=>arg 3; whnf
   refine Zo (Zak _ _) ?_
   conv=>arg 3; whnf
   refine Zp _ ZcR rfl fun x1 hx1=>?_
   conv=>arg 3; whnf
   refine Zg rfl ?_ ?_
   ·conv=>arg 3; whnf
    exact Zh rfl
   ·conv=>arg 3; whnf
    exact Zh rfl
  ·conv=>arg 3; whnf
   exact Zh rfl
 ·conv=>arg 3; whnf
  exact Zh rfl
def Zgc (r:Int):D:=(Ze r)
def ZfJ (t0:Bool) (a:(List Zr)) (b:Zr):(Int⊕Unit)→Ex×List V×Zn
  | (.inl r)=>(.ret,[(.d (Ze r))],[])
  | (.inr r)=>(.exit 0,[.bad],[])
theorem ZhF {t0:Bool} {a:(List Zr)} {b:Zr}:∀(s0:Int) (r:(Int⊕Unit)),lp (Zb8 a b) s0=some r→lpW ctx 0 [0,3,7,8] [4] ZtY [(.d (D.list t0 (List.map ZF a))),(.ptr 0 0),(.d (Ze (a.length:Int))),(.d (Ze s0))] [(.cells [(.d (Ze b.src)),(.d (Ze b.dst))])]=some ((ZfJ t0 a b) r):=by
 refine Za6 (ZfJ t0 a b) ?_
 intro s0 rcl ih
 show Z5 _ _ (lpW _ _ _ _ _ _ _)
 unfold Zb8
 rw[Za7]
 conv=>arg 3; whnf
 refine Zg rfl ?_ ?_
 ·conv=>arg 3; whnf
  refine Zj rfl rfl fun x1 hx1=>?_
  conv=>arg 3; whnf
  refine Zg rfl ?_ ?_
  ·conv=>arg 3; whnf
   exact Zh rfl
  ·conv=>arg 3; whnf
   exact Zd (ih _)
 ·conv=>arg 3; whnf
  exact Zh rfl
theorem Zip {t0:Bool} {a:(List Zr)} {b:Zr}:∀r,(Zdy a b)=some r→evD ctx 102 [(.d (D.list t0 (List.map ZF a))),(.d (D.agg [(Ze b.src),(Ze b.dst)]))]=some (Zgc r):=by
 show Z5 _ (fun r rhs=>rhs=some (Zgc r)) _
 unfold Zdy
 rw[ZcN ctx 102 Zwe _ rfl rfl]
 conv=>arg 3; whnf
 refine Zo (Zak _ _) ?_
 conv=>arg 3; whnf
 refine Zc _ (ZhF _) fun r2 hr2=>?_
 clear hr2
 rcases r2 with r2 | r2
 ·conv=>arg 3; whnf
  exact Zh rfl
 ·conv=>arg 3; whnf
  exact Zh rfl
def ZfL (r:Bool):D:=(D.bool r)
theorem Zfu {t0:Bool} {a:(List Zr)} {b:Zr}:∀r,(Zby a b)=some r→evD ctx 56 [(.d (D.list t0 (List.map ZF a))),(.d (D.agg [(Ze b.src),(Ze b.dst)]))]=some (ZfL r):=by
 show Z5 _ (fun r rhs=>rhs=some (ZfL r)) _
 unfold Zby
 rw[ZcN ctx 56 ZzJ _ rfl rfl]
 conv=>arg 3; whnf
 refine Zp _ Zip rfl fun x0 hx0=>?_
 conv=>arg 3; whnf
 refine Zg rfl ?_ ?_
 ·conv=>arg 3; whnf
  exact Zh rfl
 ·conv=>arg 3; whnf
  exact Zh rfl
def Zkb (r:Bool):D:=(D.bool r)
theorem ZmU {a:Zk} {b0:Int} {b1:Int} {b2:Int}:∀r,(Zea a b1 b2)=some r→evD ctx 82 [(.d (D.agg [(Ze a.maker),(Ze a.user),(Ze a.pos)])),(.d (D.rptr [(Ze b0),(Ze b1),(Ze b2)]))]=some (Zkb r):=by
 show Z5 _ (fun r rhs=>rhs=some (Zkb r)) _
 unfold Zea
 rw[ZcN ctx 82 ZzY _ rfl rfl]
 conv=>arg 3; whnf
 refine Zg rfl ?_ ?_
 ·conv=>arg 3; whnf
  refine Zg rfl ?_ ?_
  ·conv=>arg 3; whnf
   exact Zh rfl
  ·conv=>arg 3; whnf
   exact Zh rfl
 ·conv=>arg 3; whnf
  exact Zh rfl
def ZcI (r:Int):D:=(Ze r)
def Zcp (t0:Bool) (a:(List Zk)) (b0:Int) (b1:Int) (b2:Int):(Int⊕Unit)→Ex×List V×Zn
  | (.inl r)=>(.ret,[(.d (Ze r))],[])
  | (.inr r)=>(.exit 0,[.bad],[])
theorem Zeq {t0:Bool} {a:(List Zk)} {b0:Int} {b1:Int} {b2:Int}:∀(s0:Int) (r:(Int⊕Unit)),lp (Zbk a (fun z0=>Zea z0 b1 b2)) s0=some r→lpW ctx 0 [0,1,7,8] [4] ZtI [(.d (D.list t0 (List.map Zs a))),(.d (D.fn 82 [(D.rptr [(Ze b0),(Ze b1),(Ze b2)])])),(.d (Ze (a.length:Int))),(.d (Ze s0))] []=some ((Zcp t0 a b0 b1 b2) r):=by
 refine Za6 (Zcp t0 a b0 b1 b2) ?_
 intro s0 rcl ih
 show Z5 _ _ (lpW _ _ _ _ _ _ _)
 unfold Zbk
 rw[Za7]
 conv=>arg 3; whnf
 refine Zg rfl ?_ ?_
 ·conv=>arg 3; whnf
  refine Zj rfl rfl fun x1 hx1=>?_
  conv=>arg 3; whnf
  refine Zp _ ZmU rfl fun x2 hx2=>?_
  conv=>arg 3; whnf
  refine Zg rfl ?_ ?_
  ·conv=>arg 3; whnf
   exact Zh rfl
  ·conv=>arg 3; whnf
   exact Zd (ih _)
 ·conv=>arg 3; whnf
  exact Zh rfl
theorem ZeL {t0:Bool} {a:(List Zk)} {b0:Int} {b1:Int} {b2:Int}:∀r,(Zcb a (fun z0=>Zea z0 b1 b2))=some r→evD ctx 119 [(.d (D.list t0 (List.map Zs a))),(.d (D.fn 82 [(D.rptr [(Ze b0),(Ze b1),(Ze b2)])]))]=some (ZcI r):=by
 show Z5 _ (fun r rhs=>rhs=some (ZcI r)) _
 unfold Zcb
 rw[ZcN ctx 119 ZwJ _ rfl rfl]
 conv=>arg 3; whnf
 refine Zo (Zak _ _) ?_
 conv=>arg 3; whnf
 refine Zc _ (Zeq _) fun r3 hr3=>?_
 clear hr3
 rcases r3 with r3 | r3
 ·conv=>arg 3; whnf
  exact Zh rfl
 ·conv=>arg 3; whnf
  exact Zh rfl
def Zcm (r:Bool):D:=(D.bool r)
theorem Zem {t0:Bool} {a:(List Zk)} {b0:Int} {b1:Int} {b2:Int}:∀r,(Zbl a (fun z0=>Zea z0 b1 b2))=some r→evD ctx 83 [(.d (D.list t0 (List.map Zs a))),(.d (D.fn 82 [(D.rptr [(Ze b0),(Ze b1),(Ze b2)])]))]=some (Zcm r):=by
 show Z5 _ (fun r rhs=>rhs=some (Zcm r)) _
 unfold Zbl
 rw[ZcN ctx 83 Zzq _ rfl rfl]
 conv=>arg 3; whnf
 refine Zp _ ZeL rfl fun x0 hx0=>?_
 conv=>arg 3; whnf
 refine Zg rfl ?_ ?_
 ·conv=>arg 3; whnf
  exact Zh rfl
 ·conv=>arg 3; whnf
  exact Zh rfl
def ZmS (r:Bool):D:=(D.bool r)
def ZkI (t0:Bool) (t1:Bool) (t2:Bool) (t3:Bool) (t4:Bool) (a:Zu) (b:(List Int)):(Unit⊕Unit)→Ex×List V×Zn
  | (.inl r)=>(.ret,[(.d (D.list t4 (List.map Ze b))),(.d (D.bool false))],[])
  | (.inr r)=>(.exit 0,[(.d (D.list t4 (List.map Ze b))),.bad],[])
theorem ZnF {t0:Bool} {t1:Bool} {t2:Bool} {t3:Bool} {t4:Bool} {a:Zu} {b:(List Int)}:∀(s0:Int) (r:(Unit⊕Unit)),lp (Zgi a b) s0=some r→lpW ctx 0 [1,2,7,8,9] [1,4] Zwk [(.d (D.list t4 (List.map Ze b))),(.ptr 0 0),(.d (D.list t4 (List.map Ze b))),(.d (Ze (b.length:Int))),(.d (Ze s0))] [(.cells (dV t0 t1 t2 t3 a))]=some ((ZkI t0 t1 t2 t3 t4 a b) r):=by
 refine Za6 (ZkI t0 t1 t2 t3 t4 a b) ?_
 intro s0 rcl ih
 show Z5 _ _ (lpW _ _ _ _ _ _ _)
 unfold Zgi
 rw[Za7]
 conv=>arg 3; whnf
 refine Zg rfl ?_ ?_
 ·conv=>arg 3; whnf
  refine Zj rfl rfl fun x1 hx1=>?_
  conv=>arg 3; whnf
  refine Zo (Zak _ _) ?_
  conv=>arg 3; whnf
  refine Zp _ ZcR rfl fun x2 hx2=>?_
  conv=>arg 3; whnf
  refine Zg rfl ?_ ?_
  ·conv=>arg 3; whnf
   refine Zg rfl ?_ ?_
   ·conv=>arg 3; whnf
    refine Zj rfl rfl fun x3 hx3=>?_
    conv=>arg 3; whnf
    refine Zg rfl ?_ ?_
    ·conv=>arg 3; whnf
     exact Zh rfl
    ·conv=>arg 3; whnf
     exact Zd (ih _)
   ·conv=>arg 3; whnf
    exact Zd (ih _)
  ·conv=>arg 3; whnf
   exact Zh rfl
 ·conv=>arg 3; whnf
  exact Zh rfl
theorem Zl1 {t0:Bool} {t1:Bool} {t2:Bool} {t3:Bool} {t4:Bool} {a:Zu} {b:(List Int)}:∀r,(ZhZ a b)=some r→evD ctx 85 [(.d (D.agg (dA t0 t1 t2 t3 a))),(.d (D.list t4 (List.map Ze b)))]=some (ZmS r):=by
 show Z5 _ (fun r rhs=>rhs=some (ZmS r)) _
 unfold ZhZ
 rw[ZcN ctx 85 Zzh _ rfl rfl]
 conv=>arg 3; whnf
 refine Zo (Zak _ _) ?_
 conv=>arg 3; whnf
 refine Zc _ (ZnF _) fun r4 hr4=>?_
 clear hr4
 rcases r4 with r4 | r4
 ·conv=>arg 3; whnf
  exact Zh rfl
 ·conv=>arg 3; whnf
  refine Zo (Zak _ _) ?_
  conv=>arg 3; whnf
  refine Zg rfl ?_ ?_
  ·conv=>arg 3; whnf
   exact Zh rfl
  ·conv=>arg 3; whnf
   exact Zh rfl
def ZgI (r:Int):D:=(Ze r)
def Zf3 (t0:Bool) (a:(List Int)) (b:Int):(Int⊕Unit)→Ex×List V×Zn
  | (.inl r)=>(.ret,[(.d (Ze r))],[])
  | (.inr r)=>(.exit 0,[.bad],[])
theorem ZhV {t0:Bool} {a:(List Int)} {b:Int}:∀(s0:Int) (r:(Int⊕Unit)),lp (Zcq a b) s0=some r→lpW ctx 0 [0,1,7,8] [4] Zt1 [(.d (D.list t0 (List.map Ze a))),(.d (Ze b)),(.d (Ze (a.length:Int))),(.d (Ze s0))] []=some ((Zf3 t0 a b) r):=by
 refine Za6 (Zf3 t0 a b) ?_
 intro s0 rcl ih
 show Z5 _ _ (lpW _ _ _ _ _ _ _)
 unfold Zcq
 rw[Za7]
 conv=>arg 3; whnf
 refine Zg rfl ?_ ?_
 ·conv=>arg 3; whnf
  refine Zj rfl rfl fun x1 hx1=>?_
  conv=>arg 3; whnf
  refine Zg rfl ?_ ?_
  ·conv=>arg 3; whnf
   exact Zh rfl
  ·conv=>arg 3; whnf
   exact Zd (ih _)
 ·conv=>arg 3; whnf
  exact Zh rfl
theorem ZiQ {t0:Bool} {a:(List Int)} {b:Int}:∀r,(ZdZ a b)=some r→evD ctx 105 [(.d (D.list t0 (List.map Ze a))),(.d (Ze b))]=some (ZgI r):=by
 show Z5 _ (fun r rhs=>rhs=some (ZgI r)) _
 unfold ZdZ
 rw[ZcN ctx 105 Zw1 _ rfl rfl]
 conv=>arg 3; whnf
 refine Zo (Zak _ _) ?_
 conv=>arg 3; whnf
 refine Zc _ (ZhV _) fun r2 hr2=>?_
 clear hr2
 rcases r2 with r2 | r2
 ·conv=>arg 3; whnf
  exact Zh rfl
 ·conv=>arg 3; whnf
  exact Zh rfl
def Zf0 (r:Bool):D:=(D.bool r)
theorem ZfS {t0:Bool} {a:(List Int)} {b:Int}:∀r,(ZbS a b)=some r→evD ctx 60 [(.d (D.list t0 (List.map Ze a))),(.d (Ze b))]=some (Zf0 r):=by
 show Z5 _ (fun r rhs=>rhs=some (Zf0 r)) _
 unfold ZbS
 rw[ZcN ctx 60 Zze _ rfl rfl]
 conv=>arg 3; whnf
 refine Zp _ ZiQ rfl fun x0 hx0=>?_
 conv=>arg 3; whnf
 refine Zg rfl ?_ ?_
 ·conv=>arg 3; whnf
  exact Zh rfl
 ·conv=>arg 3; whnf
  exact Zh rfl
def Zkj (r:Bool):D:=(D.bool r)
theorem ZmR {t0:Bool} {t1:Bool} {a:Int} {b0:(List Int)} {b1:(List Int)}:∀r,(Zec a b1)=some r→evD ctx 84 [(.d (Ze a)),(.d (D.rptr [(D.list t0 (List.map Ze b0)),(D.list t1 (List.map Ze b1))]))]=some (Zkj r):=by
 show Z5 _ (fun r rhs=>rhs=some (Zkj r)) _
 unfold Zec
 rw[ZcN ctx 84 ZzO _ rfl rfl]
 conv=>arg 3; whnf
 refine Zp _ ZfS rfl fun x0 hx0=>?_
 conv=>arg 3; whnf
 refine Zg rfl ?_ ?_
 ·conv=>arg 3; whnf
  exact Zh rfl
 ·conv=>arg 3; whnf
  exact Zh rfl
def Zdp (r:Int):D:=(Ze r)
def ZcZ (t0:Bool) (t1:Bool) (t2:Bool) (a:(List Int)) (b0:(List Int)) (b1:(List Int)):(Int⊕Unit)→Ex×List V×Zn
  | (.inl r)=>(.ret,[(.d (Ze r))],[])
  | (.inr r)=>(.exit 0,[.bad],[])
theorem Zfg {t0:Bool} {t1:Bool} {t2:Bool} {a:(List Int)} {b0:(List Int)} {b1:(List Int)}:∀(s0:Int) (r:(Int⊕Unit)),lp (Za4 a (fun z0=>Zec z0 b1)) s0=some r→lpW ctx 0 [0,1,7,8] [4] Zrp [(.d (D.list t0 (List.map Ze a))),(.d (D.fn 84 [(D.rptr [(D.list t1 (List.map Ze b0)),(D.list t2 (List.map Ze b1))])])),(.d (Ze (a.length:Int))),(.d (Ze s0))] []=some ((ZcZ t0 t1 t2 a b0 b1) r):=by
 refine Za6 (ZcZ t0 t1 t2 a b0 b1) ?_
 intro s0 rcl ih
 show Z5 _ _ (lpW _ _ _ _ _ _ _)
 unfold Za4
 rw[Za7]
 conv=>arg 3; whnf
 refine Zg rfl ?_ ?_
 ·conv=>arg 3; whnf
  refine Zj rfl rfl fun x1 hx1=>?_
  conv=>arg 3; whnf
  refine Zp _ ZmR rfl fun x2 hx2=>?_
  conv=>arg 3; whnf
  refine Zg rfl ?_ ?_
  ·conv=>arg 3; whnf
   exact Zh rfl
  ·conv=>arg 3; whnf
   exact Zd (ih _)
 ·conv=>arg 3; whnf
  exact Zh rfl
theorem ZfM {t0:Bool} {t1:Bool} {t2:Bool} {a:(List Int)} {b0:(List Int)} {b1:(List Int)}:∀r,(ZbD a (fun z0=>Zec z0 b1))=some r→evD ctx 101 [(.d (D.list t0 (List.map Ze a))),(.d (D.fn 84 [(D.rptr [(D.list t1 (List.map Ze b0)),(D.list t2 (List.map Ze b1))])]))]=some (Zdp r):=by
 show Z5 _ (fun r rhs=>rhs=some (Zdp r)) _
 unfold ZbD
 rw[ZcN ctx 101 ZtL _ rfl rfl]
 conv=>arg 3; whnf
 refine Zo (Zak _ _) ?_
 conv=>arg 3; whnf
 refine Zc _ (Zfg _) fun r3 hr3=>?_
 clear hr3
 rcases r3 with r3 | r3
 ·conv=>arg 3; whnf
  exact Zh rfl
 ·conv=>arg 3; whnf
  exact Zh rfl
def Zc0 (r:Bool):D:=(D.bool r)
theorem Zfi {t0:Bool} {t1:Bool} {t2:Bool} {a:(List Int)} {b0:(List Int)} {b1:(List Int)}:∀r,(ZaH a (fun z0=>Zec z0 b1))=some r→evD ctx 53 [(.d (D.list t0 (List.map Ze a))),(.d (D.fn 84 [(D.rptr [(D.list t1 (List.map Ze b0)),(D.list t2 (List.map Ze b1))])]))]=some (Zc0 r):=by
 show Z5 _ (fun r rhs=>rhs=some (Zc0 r)) _
 unfold ZaH
 rw[ZcN ctx 53 ZyL _ rfl rfl]
 conv=>arg 3; whnf
 refine Zp _ ZfM rfl fun x0 hx0=>?_
 conv=>arg 3; whnf
 refine Zg rfl ?_ ?_
 ·conv=>arg 3; whnf
  exact Zh rfl
 ·conv=>arg 3; whnf
  exact Zh rfl
def Zlk (r:Int):D:=(Ze r)
def Zjs (t0:Bool) (t1:Bool) (t2:Bool) (t3:Bool) (a:Zu):(Unit⊕Unit)→Ex×List V×Zn
  | (.inl r)=>(.ret,[(.ptr 0 0),(.d (Ze 53))],[(.cells (dV t0 t1 t2 t3 a))])
  | (.inr r)=>(.exit 0,[(.ptr 0 0),.bad],[(.cells (dV t0 t1 t2 t3 a))])
theorem Zl9 {t0:Bool} {t1:Bool} {t2:Bool} {t3:Bool} {a:Zu}:∀(s4:Int) (r:(Unit⊕Unit)),lp (Zep a) s4=some r→lpW ctx 0 [1,61,62,63] [1,2] Zws [(.ptr 0 0),(.d (D.list t1 (List.map ZF a.edges))),(.d (Ze (a.edges.length:Int))),(.d (Ze s4))] [(.cells (dV t0 t1 t2 t3 a))]=some ((Zjs t0 t1 t2 t3 a) r):=by
 refine Za6 (Zjs t0 t1 t2 t3 a) ?_
 intro s4 rcl ih
 show Z5 _ _ (lpW _ _ _ _ _ _ _)
 unfold Zep
 rw[Za7]
 conv=>arg 3; whnf
 refine Zg rfl ?_ ?_
 ·conv=>arg 3; whnf
  refine Zj rfl rfl fun x5 hx5=>?_
  conv=>arg 3; whnf
  refine Zp _ ZlU rfl fun x6 hx6=>?_
  conv=>arg 3; whnf
  refine Zg rfl ?_ ?_
  ·conv=>arg 3; whnf
   refine Zg rfl ?_ ?_
   ·conv=>arg 3; whnf
    refine Zg (Zwm ZF a.edges s4.toNat) ?_ ?_
    ·conv=>arg 3; whnf
     refine ZbC rfl ?_
     conv=>arg 3; whnf
     refine Zo (Zri ZF a.edges s4.toNat) ?_
     conv=>arg 3; whnf
     refine Zp _ Zfu rfl fun x7 hx7=>?_
     conv=>arg 3; whnf
     refine Zg rfl ?_ ?_
     ·conv=>arg 3; whnf
      exact Zh rfl
     ·conv=>arg 3; whnf
      exact Zd (ih _)
    ·exact ZbG
   ·exact ZbG
  ·conv=>arg 3; whnf
   exact Zh rfl
 ·conv=>arg 3; whnf
  exact Zh rfl
def Zjv (t0:Bool) (t1:Bool) (t2:Bool) (t3:Bool) (a:Zu):(Unit⊕Unit)→Ex×List V×Zn
  | (.inl r)=>(.ret,[(.ptr 0 0),(.d (Ze 54))],[(.cells (dV t0 t1 t2 t3 a))])
  | (.inr r)=>(.exit 2,[(.ptr 0 0),.bad],[(.cells (dV t0 t1 t2 t3 a))])
theorem Zmq {t0:Bool} {t1:Bool} {t2:Bool} {t3:Bool} {a:Zu}:∀(s9:Int) (r:(Unit⊕Unit)),lp (Zet a) s9=some r→lpW ctx 0 [1,85,86,87] [1,2] Zvv [(.ptr 0 0),(.d (D.list t2 (List.map Zs a.futures))),(.d (Ze (a.futures.length:Int))),(.d (Ze s9))] [(.cells (dV t0 t1 t2 t3 a))]=some ((Zjv t0 t1 t2 t3 a) r):=by
 refine Za6 (Zjv t0 t1 t2 t3 a) ?_
 intro s9 rcl ih
 show Z5 _ _ (lpW _ _ _ _ _ _ _)
 unfold Zet
 rw[Za7]
 conv=>arg 3; whnf
 refine Zg rfl ?_ ?_
 ·conv=>arg 3; whnf
  refine Zj rfl rfl fun x10 hx10=>?_
  conv=>arg 3; whnf
  refine Zp _ ZlU rfl fun x11 hx11=>?_
  conv=>arg 3; whnf
  refine Zg rfl ?_ ?_
  ·conv=>arg 3; whnf
   refine Zj rfl rfl fun x12 hx12=>?_
   conv=>arg 3; whnf
   refine Zp _ ZcR rfl fun x13 hx13=>?_
   conv=>arg 3; whnf
   refine Zg rfl ?_ ?_
   ·conv=>arg 3; whnf
    refine Zg rfl ?_ ?_
    ·conv=>arg 3; whnf
     refine Zg (Zwm Zs a.futures s9.toNat) ?_ ?_
     ·conv=>arg 3; whnf
      refine ZbC rfl ?_
      conv=>arg 3; whnf
      refine Zo (Zri Zs a.futures s9.toNat) ?_
      conv=>arg 3; whnf
      refine Zp _ Zem rfl fun x14 hx14=>?_
      conv=>arg 3; whnf
      refine Zg rfl ?_ ?_
      ·conv=>arg 3; whnf
       exact Zh rfl
      ·conv=>arg 3; whnf
       exact Zd (ih _)
     ·exact ZbG
    ·exact ZbG
   ·conv=>arg 3; whnf
    exact Zh rfl
  ·conv=>arg 3; whnf
   exact Zh rfl
 ·conv=>arg 3; whnf
  exact Zh rfl
def Zjt (t0:Bool) (t1:Bool) (t2:Bool) (t3:Bool) (a:Zu):(Unit⊕Unit)→Ex×List V×Zn
  | (.inl r)=>(.ret,[(.d (Ze 55))],[])
  | (.inr r)=>(.exit 4,[.bad],[])
theorem Zmn {t0:Bool} {t1:Bool} {t2:Bool} {t3:Bool} {a:Zu}:∀(s16:Int) (r:(Unit⊕Unit)),lp (Zer a) s16=some r→lpW ctx 0 [1,124,125,126] [2] Zw2 [(.ptr 0 0),(.d (D.list t3 (List.map ZA a.barriers))),(.d (Ze (a.barriers.length:Int))),(.d (Ze s16))] [(.cells (dV t0 t1 t2 t3 a))]=some ((Zjt t0 t1 t2 t3 a) r):=by
 refine Za6 (Zjt t0 t1 t2 t3 a) ?_
 intro s16 rcl ih
 show Z5 _ _ (lpW _ _ _ _ _ _ _)
 unfold Zer
 rw[Za7]
 conv=>arg 3; whnf
 refine Zg rfl ?_ ?_
 ·conv=>arg 3; whnf
  refine Zj rfl rfl fun x17 hx17=>?_
  conv=>arg 3; whnf
  refine Zp _ Zl1 rfl fun x18 hx18=>?_
  conv=>arg 3; whnf
  refine Zg rfl ?_ ?_
  ·conv=>arg 3; whnf
   refine Zp _ Zl1 rfl fun x19 hx19=>?_
   conv=>arg 3; whnf
   refine Zg rfl ?_ ?_
   ·conv=>arg 3; whnf
    refine Zp _ Zfi rfl fun x20 hx20=>?_
    conv=>arg 3; whnf
    refine Zg rfl ?_ ?_
    ·conv=>arg 3; whnf
     exact Zh rfl
    ·conv=>arg 3; whnf
     exact Zd (ih _)
   ·conv=>arg 3; whnf
    exact Zh rfl
  ·conv=>arg 3; whnf
   exact Zh rfl
 ·conv=>arg 3; whnf
  exact Zh rfl
theorem ZkM {t0:Bool} {t1:Bool} {t2:Bool} {t3:Bool} {a:Zu}:∀r,(ZgS a)=some r→evD ctx 41 [(.d (D.agg (dA t0 t1 t2 t3 a)))]=some (Zlk r):=by
 show Z5 _ (fun r rhs=>rhs=some (Zlk r)) _
 unfold ZgS
 rw[ZcN ctx 41 ZzI _ rfl rfl]
 conv=>arg 3; whnf
 refine Zo (Zak _ _) ?_
 conv=>arg 3; whnf
 refine Zp _ ZcR rfl fun x0 hx0=>?_
 conv=>arg 3; whnf
 refine Zg rfl ?_ ?_
 ·conv=>arg 3; whnf
  refine Zo (Zak _ _) ?_
  conv=>arg 3; whnf
  refine Zg rfl ?_ ?_
  ·conv=>arg 3; whnf
   exact Zh rfl
  ·conv=>arg 3; whnf
   refine Zo (Zak _ _) ?_
   conv=>arg 3; whnf
   refine Zg rfl ?_ ?_
   ·conv=>arg 3; whnf
    exact Zh rfl
   ·conv=>arg 3; whnf
    refine Zo (Zak _ _) ?_
    conv=>arg 3; whnf
    refine Zg rfl ?_ ?_
    ·conv=>arg 3; whnf
     exact Zh rfl
    ·conv=>arg 3; whnf
     refine Zp _ Zq2 rfl fun x1 hx1=>?_
     conv=>arg 3; whnf
     refine Zg rfl ?_ ?_
     ·conv=>arg 3; whnf
      refine Zg rfl ?_ ?_
      ·conv=>arg 3; whnf
       exact Zh rfl
      ·conv=>arg 3; whnf
       refine Zp _ ZcR rfl fun x2 hx2=>?_
       conv=>arg 3; whnf
       refine Zg rfl ?_ ?_
       ·conv=>arg 3; whnf
        refine Zp _ Zfx rfl fun x3 hx3=>?_
        conv=>arg 3; whnf
        refine Zg rfl ?_ ?_
        ·conv=>arg 3; whnf
         exact Zh rfl
        ·conv=>arg 3; whnf
         refine Zo (Zak _ _) ?_
         conv=>arg 3; whnf
         refine Zc _ (Zl9 _) fun r8 hr8=>?_
         clear hr8
         rcases r8 with r8 | r8
         ·conv=>arg 3; whnf
          exact Zh rfl
         ·conv=>arg 3; whnf
          refine Zo (Zak _ _) ?_
          conv=>arg 3; whnf
          refine Zc _ (Zmq _) fun r15 hr15=>?_
          clear hr15
          rcases r15 with r15 | r15
          ·conv=>arg 3; whnf
           exact Zh rfl
          ·conv=>arg 3; whnf
           refine Zo (Zak _ _) ?_
           conv=>arg 3; whnf
           refine Zc _ (Zmn _) fun r21 hr21=>?_
           clear hr21
           rcases r21 with r21 | r21
           ·conv=>arg 3; whnf
            exact Zh rfl
           ·conv=>arg 3; whnf
            exact Zh rfl
       ·conv=>arg 3; whnf
        exact Zh rfl
     ·conv=>arg 3; whnf
      exact Zh rfl
 ·conv=>arg 3; whnf
  exact Zh rfl
def Zi4 (r:Int):D:=(Ze r)
theorem ZN {t0:Bool} {t1:Bool} {t2:Bool} {t3:Bool} {a:Int} {b:Int} {c0:Int} {c1:Int} {c2:(List Zal)} {c3:(List Zr)} {c4:(List Zk)} {c5:(List Zt)}:∀r,(Zw a b c4)=some r→evD ctx 121 [(.d (Ze a)),(.d (Ze b)),(.d (D.rptr [(Ze c0),(Ze c1),(D.list t0 (List.map Zau c2)),(D.list t1 (List.map ZF c3)),(D.list t2 (List.map Zs c4)),(D.list t3 (List.map ZA c5))]))]=some (Zi4 r):=by
 show Z5 _ (fun r rhs=>rhs=some (Zi4 r)) _
 unfold Zw
 rw[ZcN ctx 121 ZvK _ rfl rfl]
 conv=>arg 3; whnf
 refine Zj rfl rfl fun x0 hx0=>?_
 conv=>arg 3; whnf
 refine Zj rfl rfl fun x1 hx1=>?_
 conv=>arg 3; whnf
 exact Zh rfl
def ZiC (r:Int):D:=(Ze r)
theorem ZkY {a:Int}:∀r,(ZhM a)=some r→evD ctx 151 [(.d (D.int .u64 a))]=some (ZiC r):=by
 show Z5 _ (fun r rhs=>rhs=some (ZiC r)) _
 unfold ZhM
 rw[ZcN ctx 151 ZwL _ rfl rfl]
 conv=>arg 3; whnf
 refine Zg rfl ?_ ?_
 ·conv=>arg 3; whnf
  refine ZQ rfl ?_
  conv=>arg 3; whnf
  refine Zg rfl ?_ ?_
  ·conv=>arg 3; whnf
   refine ZQ rfl ?_
   conv=>arg 3; whnf
   refine Zg rfl ?_ ?_
   ·conv=>arg 3; whnf
    refine ZQ rfl ?_
    conv=>arg 3; whnf
    refine Zg rfl ?_ ?_
    ·conv=>arg 3; whnf
     refine Zia rfl fun x0 hx0=>?_
     conv=>arg 3; whnf
     exact Zh rfl
    ·exact ZbG
   ·conv=>arg 3; whnf
    refine Zg rfl ?_ ?_
    ·conv=>arg 3; whnf
     refine Zia rfl fun x1 hx1=>?_
     conv=>arg 3; whnf
     exact Zh rfl
    ·exact ZbG
  ·conv=>arg 3; whnf
   refine Zg rfl ?_ ?_
   ·conv=>arg 3; whnf
    refine ZQ rfl ?_
    conv=>arg 3; whnf
    refine Zg rfl ?_ ?_
    ·conv=>arg 3; whnf
     refine Zia rfl fun x2 hx2=>?_
     conv=>arg 3; whnf
     exact Zh rfl
    ·exact ZbG
   ·conv=>arg 3; whnf
    refine Zg rfl ?_ ?_
    ·conv=>arg 3; whnf
     refine Zia rfl fun x3 hx3=>?_
     conv=>arg 3; whnf
     exact Zh rfl
    ·exact ZbG
 ·conv=>arg 3; whnf
  refine Zg rfl ?_ ?_
  ·conv=>arg 3; whnf
   refine ZQ rfl ?_
   conv=>arg 3; whnf
   refine Zg rfl ?_ ?_
   ·conv=>arg 3; whnf
    refine ZQ rfl ?_
    conv=>arg 3; whnf
    refine Zg rfl ?_ ?_
    ·conv=>arg 3; whnf
     refine Zia rfl fun x4 hx4=>?_
     conv=>arg 3; whnf
     exact Zh rfl
    ·exact ZbG
   ·conv=>arg 3; whnf
    refine Zg rfl ?_ ?_
    ·conv=>arg 3; whnf
     refine Zia rfl fun x5 hx5=>?_
     conv=>arg 3; whnf
     exact Zh rfl
    ·exact ZbG
  ·conv=>arg 3; whnf
   refine Zg rfl ?_ ?_
   ·conv=>arg 3; whnf
    refine ZQ rfl ?_
    conv=>arg 3; whnf
    refine Zg rfl ?_ ?_
    ·conv=>arg 3; whnf
     refine Zia rfl fun x6 hx6=>?_
     conv=>arg 3; whnf
     exact Zh rfl
    ·exact ZbG
   ·conv=>arg 3; whnf
    refine Zg rfl ?_ ?_
    ·conv=>arg 3; whnf
     refine Zia rfl fun x7 hx7=>?_
     conv=>arg 3; whnf
     exact Zh rfl
    ·exact ZbG
def Zjl (r:Int):D:=(Ze r)
theorem Zhp {a:Int}:∀r,(Zev a)=some r→evD ctx 139 [(.d (D.int .u64 a))]=some (Zjl r):=by
 show Z5 _ (fun r rhs=>rhs=some (Zjl r)) _
 unfold Zev
 rw[ZcN ctx 139 Zwr _ rfl rfl]
 conv=>arg 3; whnf
 refine Zp _ ZkY rfl fun x0 hx0=>?_
 conv=>arg 3; whnf
 exact Zh rfl
def ZcA (t0:Bool) (t1:Bool) (t2:Bool) (t3:Bool) (b:Int) (c:Int) (m0_0:(List Int)) (m1_0:Int) (m1_1:Int) (m1_2:(List Zal)) (m1_3:(List Zr)) (m1_4:(List Zk)) (m1_5:(List Zt)):(List Int)→V×Zn
  | r=>((.d (D.tup [])),[(.arr 1 (List.map Ze r)),(.cells [(.d (Ze m1_0)),(.d (Ze m1_1)),(.d (D.list t0 (List.map Zau m1_2))),(.d (D.list t1 (List.map ZF m1_3))),(.d (D.list t2 (List.map Zs m1_4))),(.d (D.list t3 (List.map ZA m1_5)))])])
def Zcf (t0:Bool) (t1:Bool) (t2:Bool) (t3:Bool) (b:Int) (c:Int) (m1_0:Int) (m1_1:Int) (m1_2:(List Zal)) (m1_3:(List Zr)) (m1_4:(List Zk)) (m1_5:(List Zt)) (s0:Int×(List Int)):(List Int)→Ex×List V×Zn
  | r=>(.exit 2,[(.sl 0 1),(.d (Ze b)),(.d (Ze c)),(.fn 121 [(.ptr 1 0)]),(.d (Ze s0.1))],[(.arr 1 (List.map Ze r)),(.cells [(.d (Ze m1_0)),(.d (Ze m1_1)),(.d (D.list t0 (List.map Zau m1_2))),(.d (D.list t1 (List.map ZF m1_3))),(.d (D.list t2 (List.map Zs m1_4))),(.d (D.list t3 (List.map ZA m1_5)))])])
theorem Zed {t0:Bool} {t1:Bool} {t2:Bool} {t3:Bool} {b:Int} {c:Int} {m1_0:Int} {m1_1:Int} {m1_2:(List Zal)} {m1_3:(List Zr)} {m1_4:(List Zk)} {m1_5:(List Zt)} {s0:Int×(List Int)}:∀(s1:Int×(List Int)) (r:(List Int)),lp (Z0 b (fun z0 z1=>Zw z0 z1 m1_4)) s1=some r→lpW ctx 2 [0,1,2,3,8,9] [0,1,2,3,8] ZtS [(.sl 0 1),(.d (Ze b)),(.d (Ze c)),(.fn 121 [(.ptr 1 0)]),(.d (Ze s0.1)),(.d (Ze s1.1))] [(.arr 1 (List.map Ze s1.2)),(.cells [(.d (Ze m1_0)),(.d (Ze m1_1)),(.d (D.list t0 (List.map Zau m1_2))),(.d (D.list t1 (List.map ZF m1_3))),(.d (D.list t2 (List.map Zs m1_4))),(.d (D.list t3 (List.map ZA m1_5)))])]=some ((Zcf t0 t1 t2 t3 b c m1_0 m1_1 m1_2 m1_3 m1_4 m1_5 s0) r):=by
 refine Za6 (Zcf t0 t1 t2 t3 b c m1_0 m1_1 m1_2 m1_3 m1_4 m1_5 s0) ?_
 intro s1 rcl ih
 show Z5 _ _ (lpW _ _ _ _ _ _ _)
 unfold Z0
 rw[Za7]
 conv=>arg 3; whnf
 refine Zg rfl ?_ ?_
 ·conv=>arg 3; whnf
  refine Zj rfl rfl fun x2 hx2=>?_
  conv=>arg 3; whnf
  refine Zf (Zl rfl hx2) ?_
  conv=>arg 3; whnf
  refine Zj rfl rfl fun x3 hx3=>?_
  conv=>arg 3; whnf
  refine Zf (Zl rfl hx3) ?_
  conv=>arg 3; whnf
  refine Zp _ ZN rfl fun x4 hx4=>?_
  conv=>arg 3; whnf
  refine Zg rfl ?_ ?_
  ·conv=>arg 3; whnf
   refine Zf (ZaE rfl hx3) ?_
   conv=>arg 3; whnf
   refine Zf (Zl rfl hx3) ?_
   conv=>arg 3; whnf
   refine Zf (ZaE rfl hx2) ?_
   conv=>arg 3; whnf
   refine Zf (Zl rfl hx2) ?_
   conv=>arg 3; whnf
   refine Zf (ZaE rfl hx2) ?_
   conv=>arg 3; whnf
   refine Zf (Zl rfl hx2) ?_
   conv=>arg 3; whnf
   refine Zo (Z3 Ze s1.2 s1.1.toNat x3) ?_
   conv=>arg 3; whnf
   refine Zj rfl rfl fun x5 hx5=>?_
   conv=>arg 3; whnf
   refine Zf (Zl rfl hx5) ?_
   conv=>arg 3; whnf
   refine Zo (Z3 Ze (List.set s1.2 s1.1.toNat x3) (w64 (s1.1-1)).toNat x2) ?_
   conv=>arg 3; whnf
   exact Zd (ih _)
  ·conv=>arg 3; whnf
   exact Zh rfl
 ·conv=>arg 3; whnf
  exact Zh rfl
def Zch (t0:Bool) (t1:Bool) (t2:Bool) (t3:Bool) (b:Int) (c:Int) (m1_0:Int) (m1_1:Int) (m1_2:(List Zal)) (m1_3:(List Zr)) (m1_4:(List Zk)) (m1_5:(List Zt)):(List Int)→Ex×List V×Zn
  | r=>(.exit 0,[],[(.arr 1 (List.map Ze r)),(.cells [(.d (Ze m1_0)),(.d (Ze m1_1)),(.d (D.list t0 (List.map Zau m1_2))),(.d (D.list t1 (List.map ZF m1_3))),(.d (D.list t2 (List.map Zs m1_4))),(.d (D.list t3 (List.map ZA m1_5)))])])
theorem Zee {t0:Bool} {t1:Bool} {t2:Bool} {t3:Bool} {b:Int} {c:Int} {m1_0:Int} {m1_1:Int} {m1_2:(List Zal)} {m1_3:(List Zr)} {m1_4:(List Zk)} {m1_5:(List Zt)}:∀(s0:Int×(List Int)) (r:(List Int)),lp (Zaj b c (fun z0 z1=>Zw z0 z1 m1_4)) s0=some r→lpW ctx 2 [0,1,2,3,8] [] Zt5 [(.sl 0 1),(.d (Ze b)),(.d (Ze c)),(.fn 121 [(.ptr 1 0)]),(.d (Ze s0.1))] [(.arr 1 (List.map Ze s0.2)),(.cells [(.d (Ze m1_0)),(.d (Ze m1_1)),(.d (D.list t0 (List.map Zau m1_2))),(.d (D.list t1 (List.map ZF m1_3))),(.d (D.list t2 (List.map Zs m1_4))),(.d (D.list t3 (List.map ZA m1_5)))])]=some ((Zch t0 t1 t2 t3 b c m1_0 m1_1 m1_2 m1_3 m1_4 m1_5) r):=by
 refine Za6 (Zch t0 t1 t2 t3 b c m1_0 m1_1 m1_2 m1_3 m1_4 m1_5) ?_
 intro s0 rcl ih
 show Z5 _ _ (lpW _ _ _ _ _ _ _)
 unfold Zaj
 rw[Za7]
 conv=>arg 3; whnf
 refine Zg rfl ?_ ?_
 ·conv=>arg 3; whnf
  refine Zc _ (Zed _) fun r6 hr6=>?_
  conv=>arg 3; whnf
  exact Zd (ih _)
 ·conv=>arg 3; whnf
  exact Zh rfl
theorem ZaP {t0:Bool} {t1:Bool} {t2:Bool} {t3:Bool} {b:Int} {c:Int} {m0_0:(List Int)} {m1_0:Int} {m1_1:Int} {m1_2:(List Zal)} {m1_3:(List Zr)} {m1_4:(List Zk)} {m1_5:(List Zt)}:∀r,(Z2 b c (fun z0 z1=>Zw z0 z1 m1_4) m0_0)=some r→evW ctx 142 [(.sl 0 1),(.d (Ze b)),(.d (Ze c)),(.fn 121 [(.ptr 1 0)])] [(.arr 1 (List.map Ze m0_0)),(.cells [(.d (Ze m1_0)),(.d (Ze m1_1)),(.d (D.list t0 (List.map Zau m1_2))),(.d (D.list t1 (List.map ZF m1_3))),(.d (D.list t2 (List.map Zs m1_4))),(.d (D.list t3 (List.map ZA m1_5)))])]=some ((ZcA t0 t1 t2 t3 b c m0_0 m1_0 m1_1 m1_2 m1_3 m1_4 m1_5) r):=by
 show Z5 _ (fun r rhs=>rhs=some ((ZcA t0 t1 t2 t3 b c m0_0 m1_0 m1_1 m1_2 m1_3 m1_4 m1_5) r)) _
 unfold Z2
 rw[Zei ctx 142 ZwN _ _ rfl rfl]
 conv=>arg 3; whnf
 refine Zc _ (Zee _) fun r7 hr7=>?_
 conv=>arg 3; whnf
 exact Zh rfl
def Zdh (t0:Bool) (t1:Bool) (t2:Bool) (t3:Bool) (b:Int) (c:Int) (d:Int) (m0_0:(List Int)) (m1_0:Int) (m1_1:Int) (m1_2:(List Zal)) (m1_3:(List Zr)) (m1_4:(List Zk)) (m1_5:(List Zt)):(List Int)→V×Zn
  | r=>((.d (D.tup [])),[(.arr 1 (List.map Ze r)),(.cells [(.d (Ze m1_0)),(.d (Ze m1_1)),(.d (D.list t0 (List.map Zau m1_2))),(.d (D.list t1 (List.map ZF m1_3))),(.d (D.list t2 (List.map Zs m1_4))),(.d (D.list t3 (List.map ZA m1_5)))])])
def ZcP (t0:Bool) (t1:Bool) (t2:Bool) (t3:Bool) (c:Int) (d:Int) (m1_0:Int) (m1_1:Int) (m1_2:(List Zal)) (m1_3:(List Zr)) (m1_4:(List Zk)) (m1_5:(List Zt)):((List Int)⊕(List Int))→Ex×List V×Zn
  | (.inl r)=>(.exit 0,[],[(.arr 1 (List.map Ze r)),(.cells [(.d (Ze m1_0)),(.d (Ze m1_1)),(.d (D.list t0 (List.map Zau m1_2))),(.d (D.list t1 (List.map ZF m1_3))),(.d (D.list t2 (List.map Zs m1_4))),(.d (D.list t3 (List.map ZA m1_5)))])])
  | (.inr r)=>(.ret,[],[(.arr 1 (List.map Ze r)),(.cells [(.d (Ze m1_0)),(.d (Ze m1_1)),(.d (D.list t0 (List.map Zau m1_2))),(.d (D.list t1 (List.map ZF m1_3))),(.d (D.list t2 (List.map Zs m1_4))),(.d (D.list t3 (List.map ZA m1_5)))])])
theorem ZeW {t0:Bool} {t1:Bool} {t2:Bool} {t3:Bool} {c:Int} {d:Int} {m1_0:Int} {m1_1:Int} {m1_2:(List Zal)} {m1_3:(List Zr)} {m1_4:(List Zk)} {m1_5:(List Zt)}:∀(s0:Int×(List Int)) (r:((List Int)⊕(List Int))),lp (ZM c d (fun z0 z1=>Zw z0 z1 m1_4)) s0=some r→lpW ctx 2 [0,2,3,4,10] [] Ztt [(.sl 0 1),(.d (Ze c)),(.d (Ze d)),(.fn 121 [(.ptr 1 0)]),(.d (Ze s0.1))] [(.arr 1 (List.map Ze s0.2)),(.cells [(.d (Ze m1_0)),(.d (Ze m1_1)),(.d (D.list t0 (List.map Zau m1_2))),(.d (D.list t1 (List.map ZF m1_3))),(.d (D.list t2 (List.map Zs m1_4))),(.d (D.list t3 (List.map ZA m1_5)))])]=some ((ZcP t0 t1 t2 t3 c d m1_0 m1_1 m1_2 m1_3 m1_4 m1_5) r):=by
 refine Za6 (ZcP t0 t1 t2 t3 c d m1_0 m1_1 m1_2 m1_3 m1_4 m1_5) ?_
 intro s0 rcl ih
 show Z5 _ _ (lpW _ _ _ _ _ _ _)
 unfold ZM
 rw[Za7]
 conv=>arg 3; whnf
 refine Zg rfl ?_ ?_
 ·conv=>arg 3; whnf
  exact Zh rfl
 ·conv=>arg 3; whnf
  refine Zg rfl ?_ ?_
  ·conv=>arg 3; whnf
   refine Zj rfl rfl fun x1 hx1=>?_
   conv=>arg 3; whnf
   refine Zf (Zl rfl hx1) ?_
   conv=>arg 3; whnf
   refine Zj rfl rfl fun x2 hx2=>?_
   conv=>arg 3; whnf
   refine Zf (Zl rfl hx2) ?_
   conv=>arg 3; whnf
   refine Zp _ ZN rfl fun x3 hx3=>?_
   conv=>arg 3; whnf
   refine Zg rfl ?_ ?_
   ·conv=>arg 3; whnf
    refine Zj rfl rfl fun x4 hx4=>?_
    conv=>arg 3; whnf
    refine Zf (Zl rfl hx4) ?_
    conv=>arg 3; whnf
    refine Zj rfl rfl fun x5 hx5=>?_
    conv=>arg 3; whnf
    refine Zf (Zl rfl hx5) ?_
    conv=>arg 3; whnf
    refine Zp _ ZN rfl fun x6 hx6=>?_
    conv=>arg 3; whnf
    refine Zg rfl ?_ ?_
    ·conv=>arg 3; whnf
     refine Zf (ZaE rfl hx5) ?_
     conv=>arg 3; whnf
     refine Zf (Zl rfl hx5) ?_
     conv=>arg 3; whnf
     refine Zf (ZaE rfl hx4) ?_
     conv=>arg 3; whnf
     refine Zf (Zl rfl hx4) ?_
     conv=>arg 3; whnf
     refine Zf (ZaE rfl hx4) ?_
     conv=>arg 3; whnf
     refine Zf (Zl rfl hx4) ?_
     conv=>arg 3; whnf
     refine Zo (Z3 Ze s0.2 (w64 (d+s0.1)).toNat x5) ?_
     conv=>arg 3; whnf
     refine Zj rfl rfl fun x7 hx7=>?_
     conv=>arg 3; whnf
     refine Zf (Zl rfl hx7) ?_
     conv=>arg 3; whnf
     refine Zo (Z3 Ze (List.set s0.2 (w64 (d+s0.1)).toNat x5) (w64 (d+(w64 ((w64 ((w64 (2*s0.1))+1))+1)))).toNat x4) ?_
     conv=>arg 3; whnf
     exact Zd (ih _)
    ·conv=>arg 3; whnf
     exact Zh rfl
   ·conv=>arg 3; whnf
    refine Zj rfl rfl fun x8 hx8=>?_
    conv=>arg 3; whnf
    refine Zf (Zl rfl hx8) ?_
    conv=>arg 3; whnf
    refine Zf (ZaE rfl hx1) ?_
    conv=>arg 3; whnf
    refine Zf (Zl rfl hx1) ?_
    conv=>arg 3; whnf
    refine Zp _ ZN rfl fun x9 hx9=>?_
    conv=>arg 3; whnf
    refine Zg rfl ?_ ?_
    ·conv=>arg 3; whnf
     refine Zf (ZaE rfl hx1) ?_
     conv=>arg 3; whnf
     refine Zf (Zl rfl hx1) ?_
     conv=>arg 3; whnf
     refine Zf (ZaE rfl hx8) ?_
     conv=>arg 3; whnf
     refine Zf (Zl rfl hx8) ?_
     conv=>arg 3; whnf
     refine Zf (ZaE rfl hx8) ?_
     conv=>arg 3; whnf
     refine Zf (Zl rfl hx8) ?_
     conv=>arg 3; whnf
     refine Zo (Z3 Ze s0.2 (w64 (d+s0.1)).toNat x1) ?_
     conv=>arg 3; whnf
     refine Zj rfl rfl fun x10 hx10=>?_
     conv=>arg 3; whnf
     refine Zf (Zl rfl hx10) ?_
     conv=>arg 3; whnf
     refine Zo (Z3 Ze (List.set s0.2 (w64 (d+s0.1)).toNat x1) (w64 (d+(w64 ((w64 (2*s0.1))+1)))).toNat x8) ?_
     conv=>arg 3; whnf
     exact Zd (ih _)
    ·conv=>arg 3; whnf
     exact Zh rfl
  ·conv=>arg 3; whnf
   refine Zj rfl rfl fun x11 hx11=>?_
   conv=>arg 3; whnf
   refine Zf (Zl rfl hx11) ?_
   conv=>arg 3; whnf
   refine Zj rfl rfl fun x12 hx12=>?_
   conv=>arg 3; whnf
   refine Zf (Zl rfl hx12) ?_
   conv=>arg 3; whnf
   refine Zp _ ZN rfl fun x13 hx13=>?_
   conv=>arg 3; whnf
   refine Zg rfl ?_ ?_
   ·conv=>arg 3; whnf
    refine Zf (ZaE rfl hx12) ?_
    conv=>arg 3; whnf
    refine Zf (Zl rfl hx12) ?_
    conv=>arg 3; whnf
    refine Zf (ZaE rfl hx11) ?_
    conv=>arg 3; whnf
    refine Zf (Zl rfl hx11) ?_
    conv=>arg 3; whnf
    refine Zf (ZaE rfl hx11) ?_
    conv=>arg 3; whnf
    refine Zf (Zl rfl hx11) ?_
    conv=>arg 3; whnf
    refine Zo (Z3 Ze s0.2 (w64 (d+s0.1)).toNat x12) ?_
    conv=>arg 3; whnf
    refine Zj rfl rfl fun x14 hx14=>?_
    conv=>arg 3; whnf
    refine Zf (Zl rfl hx14) ?_
    conv=>arg 3; whnf
    refine Zo (Z3 Ze (List.set s0.2 (w64 (d+s0.1)).toNat x12) (w64 (d+(w64 ((w64 (2*s0.1))+1)))).toNat x11) ?_
    conv=>arg 3; whnf
    exact Zd (ih _)
   ·conv=>arg 3; whnf
    exact Zh rfl
theorem ZcY {t0:Bool} {t1:Bool} {t2:Bool} {t3:Bool} {b:Int} {c:Int} {d:Int} {m0_0:(List Int)} {m1_0:Int} {m1_1:Int} {m1_2:(List Zal)} {m1_3:(List Zr)} {m1_4:(List Zk)} {m1_5:(List Zt)}:∀r,(ZaK b c d (fun z0 z1=>Zw z0 z1 m1_4) m0_0)=some r→evW ctx 161 [(.sl 0 1),(.d (Ze b)),(.d (Ze c)),(.d (Ze d)),(.fn 121 [(.ptr 1 0)])] [(.arr 1 (List.map Ze m0_0)),(.cells [(.d (Ze m1_0)),(.d (Ze m1_1)),(.d (D.list t0 (List.map Zau m1_2))),(.d (D.list t1 (List.map ZF m1_3))),(.d (D.list t2 (List.map Zs m1_4))),(.d (D.list t3 (List.map ZA m1_5)))])]=some ((Zdh t0 t1 t2 t3 b c d m0_0 m1_0 m1_1 m1_2 m1_3 m1_4 m1_5) r):=by
 show Z5 _ (fun r rhs=>rhs=some ((Zdh t0 t1 t2 t3 b c d m0_0 m1_0 m1_1 m1_2 m1_3 m1_4 m1_5) r)) _
 unfold ZaK
 rw[Zei ctx 161 ZvH _ _ rfl rfl]
 conv=>arg 3; whnf
 refine Zc _ (ZeW _) fun r15 hr15=>?_
 clear hr15
 rcases r15 with r15 | r15
 ·conv=>arg 3; whnf
  exact Zh rfl
 ·conv=>arg 3; whnf
  exact Zh rfl
def Zdg (t0:Bool) (t1:Bool) (t2:Bool) (t3:Bool) (b:Int) (c:Int) (m0_0:(List Int)) (m1_0:Int) (m1_1:Int) (m1_2:(List Zal)) (m1_3:(List Zr)) (m1_4:(List Zk)) (m1_5:(List Zt)):(List Int)→V×Zn
  | r=>((.d (D.tup [])),[(.arr 1 (List.map Ze r)),(.cells [(.d (Ze m1_0)),(.d (Ze m1_1)),(.d (D.list t0 (List.map Zau m1_2))),(.d (D.list t1 (List.map ZF m1_3))),(.d (D.list t2 (List.map Zs m1_4))),(.d (D.list t3 (List.map ZA m1_5)))])])
def ZcL (t0:Bool) (t1:Bool) (t2:Bool) (t3:Bool) (b:Int) (c:Int) (m1_0:Int) (m1_1:Int) (m1_2:(List Zal)) (m1_3:(List Zr)) (m1_4:(List Zk)) (m1_5:(List Zt)):(List Int)→Ex×List V×Zn
  | r=>(.exit 0,[(.sl 0 1),(.fn 121 [(.ptr 1 0)]),(.d (Ze b)),(.d (Ze 0)),(.d (Ze (w64 (c-b))))],[(.arr 1 (List.map Ze r)),(.cells [(.d (Ze m1_0)),(.d (Ze m1_1)),(.d (D.list t0 (List.map Zau m1_2))),(.d (D.list t1 (List.map ZF m1_3))),(.d (D.list t2 (List.map Zs m1_4))),(.d (D.list t3 (List.map ZA m1_5)))])])
theorem Ze6 {t0:Bool} {t1:Bool} {t2:Bool} {t3:Bool} {b:Int} {c:Int} {m1_0:Int} {m1_1:Int} {m1_2:(List Zal)} {m1_3:(List Zr)} {m1_4:(List Zk)} {m1_5:(List Zt)}:∀(s0:Int×(List Int)) (r:(List Int)),lp (ZaG b c (fun z0 z1=>Zw z0 z1 m1_4)) s0=some r→lpW ctx 2 [0,3,8,9,10,11] [0,3,8,9,10] Zut [(.sl 0 1),(.fn 121 [(.ptr 1 0)]),(.d (Ze b)),(.d (Ze 0)),(.d (Ze (w64 (c-b)))),(.d (Ze s0.1))] [(.arr 1 (List.map Ze s0.2)),(.cells [(.d (Ze m1_0)),(.d (Ze m1_1)),(.d (D.list t0 (List.map Zau m1_2))),(.d (D.list t1 (List.map ZF m1_3))),(.d (D.list t2 (List.map Zs m1_4))),(.d (D.list t3 (List.map ZA m1_5)))])]=some ((ZcL t0 t1 t2 t3 b c m1_0 m1_1 m1_2 m1_3 m1_4 m1_5) r):=by
 refine Za6 (ZcL t0 t1 t2 t3 b c m1_0 m1_1 m1_2 m1_3 m1_4 m1_5) ?_
 intro s0 rcl ih
 show Z5 _ _ (lpW _ _ _ _ _ _ _)
 unfold ZaG
 rw[Za7]
 conv=>arg 3; whnf
 refine Zg rfl ?_ ?_
 ·conv=>arg 3; whnf
  refine Zc _ ZcY fun x1 hx1=>?_
  conv=>arg 3; whnf
  exact Zd (ih _)
 ·conv=>arg 3; whnf
  exact Zh rfl
def ZcM (t0:Bool) (t1:Bool) (t2:Bool) (t3:Bool) (b:Int) (m1_0:Int) (m1_1:Int) (m1_2:(List Zal)) (m1_3:(List Zr)) (m1_4:(List Zk)) (m1_5:(List Zt)):(List Int)→Ex×List V×Zn
  | r=>(.exit 2,[],[(.arr 1 (List.map Ze r)),(.cells [(.d (Ze m1_0)),(.d (Ze m1_1)),(.d (D.list t0 (List.map Zau m1_2))),(.d (D.list t1 (List.map ZF m1_3))),(.d (D.list t2 (List.map Zs m1_4))),(.d (D.list t3 (List.map ZA m1_5)))])])
theorem Ze2 {t0:Bool} {t1:Bool} {t2:Bool} {t3:Bool} {b:Int} {m1_0:Int} {m1_1:Int} {m1_2:(List Zal)} {m1_3:(List Zr)} {m1_4:(List Zk)} {m1_5:(List Zt)}:∀(s3:Int×(List Int)) (r:(List Int)),lp (ZaJ b (fun z0 z1=>Zw z0 z1 m1_4)) s3=some r→lpW ctx 2 [0,3,8,9,12] [] ZtB [(.sl 0 1),(.fn 121 [(.ptr 1 0)]),(.d (Ze b)),(.d (Ze 0)),(.d (Ze s3.1))] [(.arr 1 (List.map Ze s3.2)),(.cells [(.d (Ze m1_0)),(.d (Ze m1_1)),(.d (D.list t0 (List.map Zau m1_2))),(.d (D.list t1 (List.map ZF m1_3))),(.d (D.list t2 (List.map Zs m1_4))),(.d (D.list t3 (List.map ZA m1_5)))])]=some ((ZcM t0 t1 t2 t3 b m1_0 m1_1 m1_2 m1_3 m1_4 m1_5) r):=by
 refine Za6 (ZcM t0 t1 t2 t3 b m1_0 m1_1 m1_2 m1_3 m1_4 m1_5) ?_
 intro s3 rcl ih
 show Z5 _ _ (lpW _ _ _ _ _ _ _)
 unfold ZaJ
 rw[Za7]
 conv=>arg 3; whnf
 refine Zg rfl ?_ ?_
 ·conv=>arg 3; whnf
  refine Zj rfl rfl fun x4 hx4=>?_
  conv=>arg 3; whnf
  refine Zf (Zl rfl hx4) ?_
  conv=>arg 3; whnf
  refine Zj rfl rfl fun x5 hx5=>?_
  conv=>arg 3; whnf
  refine Zf (Zl rfl hx5) ?_
  conv=>arg 3; whnf
  refine Zf (ZaE rfl hx5) ?_
  conv=>arg 3; whnf
  refine Zf (Zl rfl hx5) ?_
  conv=>arg 3; whnf
  refine Zo (Z3 Ze s3.2 b.toNat x4) ?_
  conv=>arg 3; whnf
  refine Zj rfl rfl fun x6 hx6=>?_
  conv=>arg 3; whnf
  refine Zf (Zl rfl hx6) ?_
  conv=>arg 3; whnf
  refine Zo (Z3 Ze (List.set s3.2 b.toNat x4) (w64 (b+s3.1)).toNat x5) ?_
  conv=>arg 3; whnf
  refine Zc _ ZcY fun x7 hx7=>?_
  conv=>arg 3; whnf
  exact Zd (ih _)
 ·conv=>arg 3; whnf
  exact Zh rfl
theorem Zbb {t0:Bool} {t1:Bool} {t2:Bool} {t3:Bool} {b:Int} {c:Int} {m0_0:(List Int)} {m1_0:Int} {m1_1:Int} {m1_2:(List Zal)} {m1_3:(List Zr)} {m1_4:(List Zk)} {m1_5:(List Zt)}:∀r,(Zaf b c (fun z0 z1=>Zw z0 z1 m1_4) m0_0)=some r→evW ctx 143 [(.sl 0 1),(.d (Ze b)),(.d (Ze c)),(.fn 121 [(.ptr 1 0)])] [(.arr 1 (List.map Ze m0_0)),(.cells [(.d (Ze m1_0)),(.d (Ze m1_1)),(.d (D.list t0 (List.map Zau m1_2))),(.d (D.list t1 (List.map ZF m1_3))),(.d (D.list t2 (List.map Zs m1_4))),(.d (D.list t3 (List.map ZA m1_5)))])]=some ((Zdg t0 t1 t2 t3 b c m0_0 m1_0 m1_1 m1_2 m1_3 m1_4 m1_5) r):=by
 show Z5 _ (fun r rhs=>rhs=some ((Zdg t0 t1 t2 t3 b c m0_0 m1_0 m1_1 m1_2 m1_3 m1_4 m1_5) r)) _
 unfold Zaf
 rw[Zei ctx 143 Zw4 _ _ rfl rfl]
 conv=>arg 3; whnf
 refine ZQ rfl ?_
 conv=>arg 3; whnf
 refine Zc _ (Ze6 _) fun r2 hr2=>?_
 conv=>arg 3; whnf
 refine Zc _ (Ze2 _) fun r8 hr8=>?_
 conv=>arg 3; whnf
 exact Zh rfl
def Zdt (t0:Bool) (t1:Bool) (t2:Bool) (t3:Bool) (b:Int) (c:Int) (m0_0:(List Int)) (m1_0:Int) (m2_0:Int) (m2_1:Int) (m2_2:(List Zal)) (m2_3:(List Zr)) (m2_4:(List Zk)) (m2_5:(List Zt)):(Int×Int×Int)→V×Zn
  | r=>((.d (D.tup [(Ze r.1),(Ze r.2.1)])),[(.arr 1 (List.map Ze m0_0)),(.cells [(.d (Ze r.2.2))]),(.cells [(.d (Ze m2_0)),(.d (Ze m2_1)),(.d (D.list t0 (List.map Zau m2_2))),(.d (D.list t1 (List.map ZF m2_3))),(.d (D.list t2 (List.map Zs m2_4))),(.d (D.list t3 (List.map ZA m2_5)))])])
theorem ZbX {t0:Bool} {t1:Bool} {t2:Bool} {t3:Bool} {b:Int} {c:Int} {m0_0:(List Int)} {m1_0:Int} {m2_0:Int} {m2_1:Int} {m2_2:(List Zal)} {m2_3:(List Zr)} {m2_4:(List Zk)} {m2_5:(List Zt)}:∀r,(ZaY b c (fun z0 z1=>Zw z0 z1 m2_4) m0_0 m1_0)=some r→evW ctx 170 [(.sl 0 1),(.d (Ze b)),(.d (Ze c)),(.ptr 1 0),(.fn 121 [(.ptr 2 0)])] [(.arr 1 (List.map Ze m0_0)),(.cells [(.d (Ze m1_0))]),(.cells [(.d (Ze m2_0)),(.d (Ze m2_1)),(.d (D.list t0 (List.map Zau m2_2))),(.d (D.list t1 (List.map ZF m2_3))),(.d (D.list t2 (List.map Zs m2_4))),(.d (D.list t3 (List.map ZA m2_5)))])]=some ((Zdt t0 t1 t2 t3 b c m0_0 m1_0 m2_0 m2_1 m2_2 m2_3 m2_4 m2_5) r):=by
 show Z5 _ (fun r rhs=>rhs=some ((Zdt t0 t1 t2 t3 b c m0_0 m1_0 m2_0 m2_1 m2_2 m2_3 m2_4 m2_5) r)) _
 unfold ZaY
 rw[Zei ctx 170 Zwa _ _ rfl rfl]
 conv=>arg 3; whnf
 refine Zj rfl rfl fun x0 hx0=>?_
 conv=>arg 3; whnf
 refine Zf (Zl rfl hx0) ?_
 conv=>arg 3; whnf
 refine Zj rfl rfl fun x1 hx1=>?_
 conv=>arg 3; whnf
 refine Zf (Zl rfl hx1) ?_
 conv=>arg 3; whnf
 refine Zp _ ZN rfl fun x2 hx2=>?_
 conv=>arg 3; whnf
 refine Zg rfl ?_ ?_
 ·conv=>arg 3; whnf
  exact Zh rfl
 ·conv=>arg 3; whnf
  exact Zh rfl
def Zds (t0:Bool) (t1:Bool) (t2:Bool) (t3:Bool) (b:Int) (c:Int) (d:Int) (m0_0:(List Int)) (m1_0:Int) (m2_0:Int) (m2_1:Int) (m2_2:(List Zal)) (m2_3:(List Zr)) (m2_4:(List Zk)) (m2_5:(List Zt)):(Int×Int)→V×Zn
  | r=>((.d (Ze r.1)),[(.arr 1 (List.map Ze m0_0)),(.cells [(.d (Ze r.2))]),(.cells [(.d (Ze m2_0)),(.d (Ze m2_1)),(.d (D.list t0 (List.map Zau m2_2))),(.d (D.list t1 (List.map ZF m2_3))),(.d (D.list t2 (List.map Zs m2_4))),(.d (D.list t3 (List.map ZA m2_5)))])])
theorem ZbY {t0:Bool} {t1:Bool} {t2:Bool} {t3:Bool} {b:Int} {c:Int} {d:Int} {m0_0:(List Int)} {m1_0:Int} {m2_0:Int} {m2_1:Int} {m2_2:(List Zal)} {m2_3:(List Zr)} {m2_4:(List Zk)} {m2_5:(List Zt)}:∀r,(ZaX b c d (fun z0 z1=>Zw z0 z1 m2_4) m0_0 m1_0)=some r→evW ctx 165 [(.sl 0 1),(.d (Ze b)),(.d (Ze c)),(.d (Ze d)),(.ptr 1 0),(.fn 121 [(.ptr 2 0)])] [(.arr 1 (List.map Ze m0_0)),(.cells [(.d (Ze m1_0))]),(.cells [(.d (Ze m2_0)),(.d (Ze m2_1)),(.d (D.list t0 (List.map Zau m2_2))),(.d (D.list t1 (List.map ZF m2_3))),(.d (D.list t2 (List.map Zs m2_4))),(.d (D.list t3 (List.map ZA m2_5)))])]=some ((Zds t0 t1 t2 t3 b c d m0_0 m1_0 m2_0 m2_1 m2_2 m2_3 m2_4 m2_5) r):=by
 show Z5 _ (fun r rhs=>rhs=some ((Zds t0 t1 t2 t3 b c d m0_0 m1_0 m2_0 m2_1 m2_2 m2_3 m2_4 m2_5) r)) _
 unfold ZaX
 rw[Zei ctx 165 ZvO _ _ rfl rfl]
 conv=>arg 3; whnf
 refine Zc _ ZbX fun x0 hx0=>?_
 conv=>arg 3; whnf
 refine Zc _ ZbX fun x1 hx1=>?_
 conv=>arg 3; whnf
 refine Zc _ ZbX fun x2 hx2=>?_
 conv=>arg 3; whnf
 exact Zh rfl
def Zcr (t0:Bool) (t1:Bool) (t2:Bool) (t3:Bool) (b:Int) (m0_0:(List Int)) (m1_0:Int) (m2_0:Int) (m2_1:Int) (m2_2:(List Zal)) (m2_3:(List Zr)) (m2_4:(List Zk)) (m2_5:(List Zt)):(Int×Int)→V×Zn
  | r=>((.d (Ze r.1)),[(.arr 1 (List.map Ze m0_0)),(.cells [(.d (Ze r.2))]),(.cells [(.d (Ze m2_0)),(.d (Ze m2_1)),(.d (D.list t0 (List.map Zau m2_2))),(.d (D.list t1 (List.map ZF m2_3))),(.d (D.list t2 (List.map Zs m2_4))),(.d (D.list t3 (List.map ZA m2_5)))])])
theorem Zbm {t0:Bool} {t1:Bool} {t2:Bool} {t3:Bool} {b:Int} {m0_0:(List Int)} {m1_0:Int} {m2_0:Int} {m2_1:Int} {m2_2:(List Zal)} {m2_3:(List Zr)} {m2_4:(List Zk)} {m2_5:(List Zt)}:∀r,(Zac b (fun z0 z1=>Zw z0 z1 m2_4) m0_0 m1_0)=some r→evW ctx 164 [(.sl 0 1),(.d (Ze b)),(.ptr 1 0),(.fn 121 [(.ptr 2 0)])] [(.arr 1 (List.map Ze m0_0)),(.cells [(.d (Ze m1_0))]),(.cells [(.d (Ze m2_0)),(.d (Ze m2_1)),(.d (D.list t0 (List.map Zau m2_2))),(.d (D.list t1 (List.map ZF m2_3))),(.d (D.list t2 (List.map Zs m2_4))),(.d (D.list t3 (List.map ZA m2_5)))])]=some ((Zcr t0 t1 t2 t3 b m0_0 m1_0 m2_0 m2_1 m2_2 m2_3 m2_4 m2_5) r):=by
 show Z5 _ (fun r rhs=>rhs=some ((Zcr t0 t1 t2 t3 b m0_0 m1_0 m2_0 m2_1 m2_2 m2_3 m2_4 m2_5) r)) _
 unfold Zac
 rw[Zei ctx 164 ZxI _ _ rfl rfl]
 conv=>arg 3; whnf
 refine Zc _ ZbY fun x0 hx0=>?_
 conv=>arg 3; whnf
 exact Zh rfl
def ZcO (t0:Bool) (t1:Bool) (t2:Bool) (t3:Bool) (b:Int) (c:Int) (m0_0:(List Int)) (m1_0:Int) (m1_1:Int) (m1_2:(List Zal)) (m1_3:(List Zr)) (m1_4:(List Zk)) (m1_5:(List Zt)):(Int×Int)→V×Zn
  | r=>((.d (D.tup [(Ze r.1),(Ze r.2)])),[(.arr 1 (List.map Ze m0_0)),(.cells [(.d (Ze m1_0)),(.d (Ze m1_1)),(.d (D.list t0 (List.map Zau m1_2))),(.d (D.list t1 (List.map ZF m1_3))),(.d (D.list t2 (List.map Zs m1_4))),(.d (D.list t3 (List.map ZA m1_5)))])])
theorem ZaW {t0:Bool} {t1:Bool} {t2:Bool} {t3:Bool} {b:Int} {c:Int} {m0_0:(List Int)} {m1_0:Int} {m1_1:Int} {m1_2:(List Zal)} {m1_3:(List Zr)} {m1_4:(List Zk)} {m1_5:(List Zt)}:∀r,(ZT b c (fun z0 z1=>Zw z0 z1 m1_4) m0_0)=some r→evW ctx 145 [(.sl 0 1),(.d (Ze b)),(.d (Ze c)),(.fn 121 [(.ptr 1 0)])] [(.arr 1 (List.map Ze m0_0)),(.cells [(.d (Ze m1_0)),(.d (Ze m1_1)),(.d (D.list t0 (List.map Zau m1_2))),(.d (D.list t1 (List.map ZF m1_3))),(.d (D.list t2 (List.map Zs m1_4))),(.d (D.list t3 (List.map ZA m1_5)))])]=some ((ZcO t0 t1 t2 t3 b c m0_0 m1_0 m1_1 m1_2 m1_3 m1_4 m1_5) r):=by
 show Z5 _ (fun r rhs=>rhs=some ((ZcO t0 t1 t2 t3 b c m0_0 m1_0 m1_1 m1_2 m1_3 m1_4 m1_5) r)) _
 unfold ZT
 rw[Zei ctx 145 ZvZ _ _ rfl rfl]
 conv=>arg 3; whnf
 refine ZQ rfl ?_
 conv=>arg 3; whnf
 refine ZQ rfl ?_
 conv=>arg 3; whnf
 refine ZQ rfl ?_
 conv=>arg 3; whnf
 refine Zg rfl ?_ ?_
 ·conv=>arg 3; whnf
  refine Zg rfl ?_ ?_
  ·conv=>arg 3; whnf
   refine Zc _ Zbm fun x0 hx0=>?_
   conv=>arg 3; whnf
   refine Zc _ Zbm fun x1 hx1=>?_
   conv=>arg 3; whnf
   refine Zc _ Zbm fun x2 hx2=>?_
   conv=>arg 3; whnf
   refine Zc _ ZbY fun x3 hx3=>?_
   conv=>arg 3; whnf
   refine Zg rfl ?_ ?_
   ·conv=>arg 3; whnf
    exact Zh rfl
   ·conv=>arg 3; whnf
    refine Zg rfl ?_ ?_
    ·conv=>arg 3; whnf
     exact Zh rfl
    ·conv=>arg 3; whnf
     exact Zh rfl
  ·conv=>arg 3; whnf
   refine Zc _ ZbY fun x4 hx4=>?_
   conv=>arg 3; whnf
   refine Zg rfl ?_ ?_
   ·conv=>arg 3; whnf
    exact Zh rfl
   ·conv=>arg 3; whnf
    refine Zg rfl ?_ ?_
    ·conv=>arg 3; whnf
     exact Zh rfl
    ·conv=>arg 3; whnf
     exact Zh rfl
 ·conv=>arg 3; whnf
  refine ZbC rfl ?_
  conv=>arg 3; whnf
  exact Zh rfl
def ZcC (t0:Bool) (t1:Bool) (t2:Bool) (t3:Bool) (b:Int) (c:Int) (m0_0:(List Int)) (m1_0:Int) (m1_1:Int) (m1_2:(List Zal)) (m1_3:(List Zr)) (m1_4:(List Zk)) (m1_5:(List Zt)):(List Int)→V×Zn
  | r=>((.d (D.tup [])),[(.arr 1 (List.map Ze r)),(.cells [(.d (Ze m1_0)),(.d (Ze m1_1)),(.d (D.list t0 (List.map Zau m1_2))),(.d (D.list t1 (List.map ZF m1_3))),(.d (D.list t2 (List.map Zs m1_4))),(.d (D.list t3 (List.map ZA m1_5)))])])
def Zco (t0:Bool) (t1:Bool) (t2:Bool) (t3:Bool) (m1_0:Int) (m1_1:Int) (m1_2:(List Zal)) (m1_3:(List Zr)) (m1_4:(List Zk)) (m1_5:(List Zt)):(List Int)→Ex×List V×Zn
  | r=>(.exit 0,[],[(.arr 1 (List.map Ze r)),(.cells [(.d (Ze m1_0)),(.d (Ze m1_1)),(.d (D.list t0 (List.map Zau m1_2))),(.d (D.list t1 (List.map ZF m1_3))),(.d (D.list t2 (List.map Zs m1_4))),(.d (D.list t3 (List.map ZA m1_5)))])])
theorem Zel {t0:Bool} {t1:Bool} {t2:Bool} {t3:Bool} {m1_0:Int} {m1_1:Int} {m1_2:(List Zal)} {m1_3:(List Zr)} {m1_4:(List Zk)} {m1_5:(List Zt)}:∀(s0:Int×Int×(List Int)) (r:(List Int)),lp (Z9) s0=some r→lpW ctx 2 [0,8,9] [] Ztz [(.sl 0 1),(.d (Ze s0.1)),(.d (Ze s0.2.1))] [(.arr 1 (List.map Ze s0.2.2)),(.cells [(.d (Ze m1_0)),(.d (Ze m1_1)),(.d (D.list t0 (List.map Zau m1_2))),(.d (D.list t1 (List.map ZF m1_3))),(.d (D.list t2 (List.map Zs m1_4))),(.d (D.list t3 (List.map ZA m1_5)))])]=some ((Zco t0 t1 t2 t3 m1_0 m1_1 m1_2 m1_3 m1_4 m1_5) r):=by
 refine Za6 (Zco t0 t1 t2 t3 m1_0 m1_1 m1_2 m1_3 m1_4 m1_5) ?_
 intro s0 rcl ih
 show Z5 _ _ (lpW _ _ _ _ _ _ _)
 unfold Z9
 rw[Za7]
 conv=>arg 3; whnf
 refine Zg rfl ?_ ?_
 ·conv=>arg 3; whnf
  refine Zj rfl rfl fun x1 hx1=>?_
  conv=>arg 3; whnf
  refine Zf (Zl rfl hx1) ?_
  conv=>arg 3; whnf
  refine Zj rfl rfl fun x2 hx2=>?_
  conv=>arg 3; whnf
  refine Zf (Zl rfl hx2) ?_
  conv=>arg 3; whnf
  refine Zf (ZaE rfl hx2) ?_
  conv=>arg 3; whnf
  refine Zf (Zl rfl hx2) ?_
  conv=>arg 3; whnf
  refine Zo (Z3 Ze s0.2.2 s0.1.toNat x1) ?_
  conv=>arg 3; whnf
  refine Zj rfl rfl fun x3 hx3=>?_
  conv=>arg 3; whnf
  refine Zf (Zl rfl hx3) ?_
  conv=>arg 3; whnf
  refine Zo (Z3 Ze (List.set s0.2.2 s0.1.toNat x1) s0.2.1.toNat x2) ?_
  conv=>arg 3; whnf
  exact Zd (ih _)
 ·conv=>arg 3; whnf
  exact Zh rfl
theorem ZaV {t0:Bool} {t1:Bool} {t2:Bool} {t3:Bool} {b:Int} {c:Int} {m0_0:(List Int)} {m1_0:Int} {m1_1:Int} {m1_2:(List Zal)} {m1_3:(List Zr)} {m1_4:(List Zk)} {m1_5:(List Zt)}:∀r,(ZO b c (fun z0 z1=>Zw z0 z1 m1_4) m0_0)=some r→evW ctx 146 [(.sl 0 1),(.d (Ze b)),(.d (Ze c)),(.fn 121 [(.ptr 1 0)])] [(.arr 1 (List.map Ze m0_0)),(.cells [(.d (Ze m1_0)),(.d (Ze m1_1)),(.d (D.list t0 (List.map Zau m1_2))),(.d (D.list t1 (List.map ZF m1_3))),(.d (D.list t2 (List.map Zs m1_4))),(.d (D.list t3 (List.map ZA m1_5)))])]=some ((ZcC t0 t1 t2 t3 b c m0_0 m1_0 m1_1 m1_2 m1_3 m1_4 m1_5) r):=by
 show Z5 _ (fun r rhs=>rhs=some ((ZcC t0 t1 t2 t3 b c m0_0 m1_0 m1_1 m1_2 m1_3 m1_4 m1_5) r)) _
 unfold ZO
 rw[Zei ctx 146 ZxJ _ _ rfl rfl]
 conv=>arg 3; whnf
 refine Zc _ (Zel _) fun r4 hr4=>?_
 conv=>arg 3; whnf
 exact Zh rfl
def Zb3 (t0:Bool) (t1:Bool) (t2:Bool) (t3:Bool) (b:Int) (c:Int) (m0_0:(List Int)) (m1_0:Int) (m1_1:Int) (m1_2:(List Zal)) (m1_3:(List Zr)) (m1_4:(List Zk)) (m1_5:(List Zt)):((List Int)⊕(List Int))→V×Zn
  | (.inl r)=>((.d (D.bool true)),[(.arr 1 (List.map Ze r)),(.cells [(.d (Ze m1_0)),(.d (Ze m1_1)),(.d (D.list t0 (List.map Zau m1_2))),(.d (D.list t1 (List.map ZF m1_3))),(.d (D.list t2 (List.map Zs m1_4))),(.d (D.list t3 (List.map ZA m1_5)))])])
  | (.inr r)=>((.d (D.bool false)),[(.arr 1 (List.map Ze r)),(.cells [(.d (Ze m1_0)),(.d (Ze m1_1)),(.d (D.list t0 (List.map Zau m1_2))),(.d (D.list t1 (List.map ZF m1_3))),(.d (D.list t2 (List.map Zs m1_4))),(.d (D.list t3 (List.map ZA m1_5)))])])
def ZbR (t0:Bool) (t1:Bool) (t2:Bool) (t3:Bool) (b:Int) (c:Int) (m1_0:Int) (m1_1:Int) (m1_2:(List Zal)) (m1_3:(List Zr)) (m1_4:(List Zk)) (m1_5:(List Zt)) (s0:Int×Int×(List Int)):Int→Ex×List V×Zn
  | r=>(.exit 2,[(.sl 0 1),(.d (Ze b)),(.d (Ze c)),(.fn 121 [(.ptr 1 0)]),(.d (Ze r)),(.d (Ze s0.2.1))],[(.arr 1 (List.map Ze s0.2.2)),(.cells [(.d (Ze m1_0)),(.d (Ze m1_1)),(.d (D.list t0 (List.map Zau m1_2))),(.d (D.list t1 (List.map ZF m1_3))),(.d (D.list t2 (List.map Zs m1_4))),(.d (D.list t3 (List.map ZA m1_5)))])])
theorem ZdD {t0:Bool} {t1:Bool} {t2:Bool} {t3:Bool} {b:Int} {c:Int} {m1_0:Int} {m1_1:Int} {m1_2:(List Zal)} {m1_3:(List Zr)} {m1_4:(List Zk)} {m1_5:(List Zt)} {s0:Int×Int×(List Int)}:∀(s1:Int) (r:Int),lp (ZK c (fun z0 z1=>Zw z0 z1 m1_4) s0) s1=some r→lpW ctx 2 [0,1,2,3,9,10] [0,1,2,3,9,10] Ztm [(.sl 0 1),(.d (Ze b)),(.d (Ze c)),(.fn 121 [(.ptr 1 0)]),(.d (Ze s1)),(.d (Ze s0.2.1))] [(.arr 1 (List.map Ze s0.2.2)),(.cells [(.d (Ze m1_0)),(.d (Ze m1_1)),(.d (D.list t0 (List.map Zau m1_2))),(.d (D.list t1 (List.map ZF m1_3))),(.d (D.list t2 (List.map Zs m1_4))),(.d (D.list t3 (List.map ZA m1_5)))])]=some ((ZbR t0 t1 t2 t3 b c m1_0 m1_1 m1_2 m1_3 m1_4 m1_5 s0) r):=by
 refine Za6 (ZbR t0 t1 t2 t3 b c m1_0 m1_1 m1_2 m1_3 m1_4 m1_5 s0) ?_
 intro s1 rcl ih
 show Z5 _ _ (lpW _ _ _ _ _ _ _)
 unfold ZK
 rw[Za7]
 conv=>arg 3; whnf
 refine Zg rfl ?_ ?_
 ·conv=>arg 3; whnf
  refine Zj rfl rfl fun x2 hx2=>?_
  conv=>arg 3; whnf
  refine Zf (Zl rfl hx2) ?_
  conv=>arg 3; whnf
  refine Zj rfl rfl fun x3 hx3=>?_
  conv=>arg 3; whnf
  refine Zf (Zl rfl hx3) ?_
  conv=>arg 3; whnf
  refine Zp _ ZN rfl fun x4 hx4=>?_
  conv=>arg 3; whnf
  refine Zg rfl ?_ ?_
  ·conv=>arg 3; whnf
   exact Zh rfl
  ·conv=>arg 3; whnf
   exact Zd (ih _)
 ·conv=>arg 3; whnf
  exact Zh rfl
def ZbO (t0:Bool) (t1:Bool) (t2:Bool) (t3:Bool) (b:Int) (c:Int) (m1_0:Int) (m1_1:Int) (m1_2:(List Zal)) (m1_3:(List Zr)) (m1_4:(List Zk)) (m1_5:(List Zt)) (s0:Int×Int×(List Int)) (r5:Int):(List Int)→Ex×List V×Zn
  | r=>(.exit 4,[(.sl 0 1),(.d (Ze b)),(.d (Ze c)),(.fn 121 [(.ptr 1 0)]),(.d (Ze r5)),(.d (Ze s0.2.1))],[(.arr 1 (List.map Ze r)),(.cells [(.d (Ze m1_0)),(.d (Ze m1_1)),(.d (D.list t0 (List.map Zau m1_2))),(.d (D.list t1 (List.map ZF m1_3))),(.d (D.list t2 (List.map Zs m1_4))),(.d (D.list t3 (List.map ZA m1_5)))])])
theorem ZdA {t0:Bool} {t1:Bool} {t2:Bool} {t3:Bool} {b:Int} {c:Int} {m1_0:Int} {m1_1:Int} {m1_2:(List Zal)} {m1_3:(List Zr)} {m1_4:(List Zk)} {m1_5:(List Zt)} {s0:Int×Int×(List Int)} {r5:Int}:∀(s9:Int×(List Int)) (r:(List Int)),lp (ZS (fun z0 z1=>Zw z0 z1 m1_4)) s9=some r→lpW ctx 2 [0,1,2,3,9,10,11] [0,1,2,3,9,10] Zt7 [(.sl 0 1),(.d (Ze b)),(.d (Ze c)),(.fn 121 [(.ptr 1 0)]),(.d (Ze r5)),(.d (Ze s0.2.1)),(.d (Ze s9.1))] [(.arr 1 (List.map Ze s9.2)),(.cells [(.d (Ze m1_0)),(.d (Ze m1_1)),(.d (D.list t0 (List.map Zau m1_2))),(.d (D.list t1 (List.map ZF m1_3))),(.d (D.list t2 (List.map Zs m1_4))),(.d (D.list t3 (List.map ZA m1_5)))])]=some ((ZbO t0 t1 t2 t3 b c m1_0 m1_1 m1_2 m1_3 m1_4 m1_5 s0 r5) r):=by
 refine Za6 (ZbO t0 t1 t2 t3 b c m1_0 m1_1 m1_2 m1_3 m1_4 m1_5 s0 r5) ?_
 intro s9 rcl ih
 show Z5 _ _ (lpW _ _ _ _ _ _ _)
 unfold ZS
 rw[Za7]
 conv=>arg 3; whnf
 refine Zg rfl ?_ ?_
 ·conv=>arg 3; whnf
  refine Zj rfl rfl fun x10 hx10=>?_
  conv=>arg 3; whnf
  refine Zf (Zl rfl hx10) ?_
  conv=>arg 3; whnf
  refine Zj rfl rfl fun x11 hx11=>?_
  conv=>arg 3; whnf
  refine Zf (Zl rfl hx11) ?_
  conv=>arg 3; whnf
  refine Zp _ ZN rfl fun x12 hx12=>?_
  conv=>arg 3; whnf
  refine Zg rfl ?_ ?_
  ·conv=>arg 3; whnf
   refine Zf (ZaE rfl hx11) ?_
   conv=>arg 3; whnf
   refine Zf (Zl rfl hx11) ?_
   conv=>arg 3; whnf
   refine Zf (ZaE rfl hx10) ?_
   conv=>arg 3; whnf
   refine Zf (Zl rfl hx10) ?_
   conv=>arg 3; whnf
   refine Zf (ZaE rfl hx10) ?_
   conv=>arg 3; whnf
   refine Zf (Zl rfl hx10) ?_
   conv=>arg 3; whnf
   refine Zo (Z3 Ze s9.2 s9.1.toNat x11) ?_
   conv=>arg 3; whnf
   refine Zj rfl rfl fun x13 hx13=>?_
   conv=>arg 3; whnf
   refine Zf (Zl rfl hx13) ?_
   conv=>arg 3; whnf
   refine Zo (Z3 Ze (List.set s9.2 s9.1.toNat x11) (w64 (s9.1-1)).toNat x10) ?_
   conv=>arg 3; whnf
   exact Zd (ih _)
  ·conv=>arg 3; whnf
   exact Zh rfl
 ·conv=>arg 3; whnf
  exact Zh rfl
def ZbP (t0:Bool) (t1:Bool) (t2:Bool) (t3:Bool) (b:Int) (c:Int) (m1_0:Int) (m1_1:Int) (m1_2:(List Zal)) (m1_3:(List Zr)) (m1_4:(List Zk)) (m1_5:(List Zt)) (s0:Int×Int×(List Int)) (r5:Int):(List Int)→Ex×List V×Zn
  | r=>(.exit 6,[(.sl 0 1),(.d (Ze b)),(.d (Ze c)),(.fn 121 [(.ptr 1 0)]),(.d (Ze r5)),(.d (Ze s0.2.1))],[(.arr 1 (List.map Ze r)),(.cells [(.d (Ze m1_0)),(.d (Ze m1_1)),(.d (D.list t0 (List.map Zau m1_2))),(.d (D.list t1 (List.map ZF m1_3))),(.d (D.list t2 (List.map Zs m1_4))),(.d (D.list t3 (List.map ZA m1_5)))])])
theorem ZbM {t0:Bool} {t1:Bool} {t2:Bool} {t3:Bool} {b:Int} {c:Int} {m1_0:Int} {m1_1:Int} {m1_2:(List Zal)} {m1_3:(List Zr)} {m1_4:(List Zk)} {m1_5:(List Zt)} {s0:Int×Int×(List Int)} {r5:Int}:∀(s15:Int×(List Int)) (r:(List Int)),lp (ZI c (fun z0 z1=>Zw z0 z1 m1_4)) s15=some r→lpW ctx 2 [0,1,2,3,9,10,12] [0,1,2,3,9,10] Zuf [(.sl 0 1),(.d (Ze b)),(.d (Ze c)),(.fn 121 [(.ptr 1 0)]),(.d (Ze r5)),(.d (Ze s0.2.1)),(.d (Ze s15.1))] [(.arr 1 (List.map Ze s15.2)),(.cells [(.d (Ze m1_0)),(.d (Ze m1_1)),(.d (D.list t0 (List.map Zau m1_2))),(.d (D.list t1 (List.map ZF m1_3))),(.d (D.list t2 (List.map Zs m1_4))),(.d (D.list t3 (List.map ZA m1_5)))])]=some ((ZbP t0 t1 t2 t3 b c m1_0 m1_1 m1_2 m1_3 m1_4 m1_5 s0 r5) r):=by
 refine Za6 (ZbP t0 t1 t2 t3 b c m1_0 m1_1 m1_2 m1_3 m1_4 m1_5 s0 r5) ?_
 intro s15 rcl ih
 show Z5 _ _ (lpW _ _ _ _ _ _ _)
 unfold ZI
 rw[Za7]
 conv=>arg 3; whnf
 refine Zg rfl ?_ ?_
 ·conv=>arg 3; whnf
  refine Zj rfl rfl fun x16 hx16=>?_
  conv=>arg 3; whnf
  refine Zf (Zl rfl hx16) ?_
  conv=>arg 3; whnf
  refine Zj rfl rfl fun x17 hx17=>?_
  conv=>arg 3; whnf
  refine Zf (Zl rfl hx17) ?_
  conv=>arg 3; whnf
  refine Zp _ ZN rfl fun x18 hx18=>?_
  conv=>arg 3; whnf
  refine Zg rfl ?_ ?_
  ·conv=>arg 3; whnf
   refine Zf (ZaE rfl hx17) ?_
   conv=>arg 3; whnf
   refine Zf (Zl rfl hx17) ?_
   conv=>arg 3; whnf
   refine Zf (ZaE rfl hx16) ?_
   conv=>arg 3; whnf
   refine Zf (Zl rfl hx16) ?_
   conv=>arg 3; whnf
   refine Zf (ZaE rfl hx16) ?_
   conv=>arg 3; whnf
   refine Zf (Zl rfl hx16) ?_
   conv=>arg 3; whnf
   refine Zo (Z3 Ze s15.2 s15.1.toNat x17) ?_
   conv=>arg 3; whnf
   refine Zj rfl rfl fun x19 hx19=>?_
   conv=>arg 3; whnf
   refine Zf (Zl rfl hx19) ?_
   conv=>arg 3; whnf
   refine Zo (Z3 Ze (List.set s15.2 s15.1.toNat x17) (w64 (s15.1-1)).toNat x16) ?_
   conv=>arg 3; whnf
   exact Zd (ih _)
  ·conv=>arg 3; whnf
   exact Zh rfl
 ·conv=>arg 3; whnf
  exact Zh rfl
def ZbQ (t0:Bool) (t1:Bool) (t2:Bool) (t3:Bool) (b:Int) (c:Int) (m1_0:Int) (m1_1:Int) (m1_2:(List Zal)) (m1_3:(List Zr)) (m1_4:(List Zk)) (m1_5:(List Zt)):((List Int)⊕((List Int)⊕(List Int)))→Ex×List V×Zn
  | (.inl r)=>(.ret,[(.d (D.bool true))],[(.arr 1 (List.map Ze r)),(.cells [(.d (Ze m1_0)),(.d (Ze m1_1)),(.d (D.list t0 (List.map Zau m1_2))),(.d (D.list t1 (List.map ZF m1_3))),(.d (D.list t2 (List.map Zs m1_4))),(.d (D.list t3 (List.map ZA m1_5)))])])
  | (.inr (.inl r))=>(.ret,[(.d (D.bool false))],[(.arr 1 (List.map Ze r)),(.cells [(.d (Ze m1_0)),(.d (Ze m1_1)),(.d (D.list t0 (List.map Zau m1_2))),(.d (D.list t1 (List.map ZF m1_3))),(.d (D.list t2 (List.map Zs m1_4))),(.d (D.list t3 (List.map ZA m1_5)))])])
  | (.inr (.inr r))=>(.exit 0,[.bad],[(.arr 1 (List.map Ze r)),(.cells [(.d (Ze m1_0)),(.d (Ze m1_1)),(.d (D.list t0 (List.map Zau m1_2))),(.d (D.list t1 (List.map ZF m1_3))),(.d (D.list t2 (List.map Zs m1_4))),(.d (D.list t3 (List.map ZA m1_5)))])])
theorem ZdF {t0:Bool} {t1:Bool} {t2:Bool} {t3:Bool} {b:Int} {c:Int} {m1_0:Int} {m1_1:Int} {m1_2:(List Zal)} {m1_3:(List Zr)} {m1_4:(List Zk)} {m1_5:(List Zt)}:∀(s0:Int×Int×(List Int)) (r:((List Int)⊕((List Int)⊕(List Int)))),lp (ZR b c (fun z0 z1=>Zw z0 z1 m1_4)) s0=some r→lpW ctx 2 [0,1,2,3,9,10] [8] Zt8 [(.sl 0 1),(.d (Ze b)),(.d (Ze c)),(.fn 121 [(.ptr 1 0)]),(.d (Ze s0.1)),(.d (Ze s0.2.1))] [(.arr 1 (List.map Ze s0.2.2)),(.cells [(.d (Ze m1_0)),(.d (Ze m1_1)),(.d (D.list t0 (List.map Zau m1_2))),(.d (D.list t1 (List.map ZF m1_3))),(.d (D.list t2 (List.map Zs m1_4))),(.d (D.list t3 (List.map ZA m1_5)))])]=some ((ZbQ t0 t1 t2 t3 b c m1_0 m1_1 m1_2 m1_3 m1_4 m1_5) r):=by
 refine Za6 (ZbQ t0 t1 t2 t3 b c m1_0 m1_1 m1_2 m1_3 m1_4 m1_5) ?_
 intro s0 rcl ih
 show Z5 _ _ (lpW _ _ _ _ _ _ _)
 unfold ZR
 rw[Za7]
 conv=>arg 3; whnf
 refine Zg rfl ?_ ?_
 ·conv=>arg 3; whnf
  refine Zc _ (ZdD _) fun r5 hr5=>?_
  conv=>arg 3; whnf
  refine Zg rfl ?_ ?_
  ·conv=>arg 3; whnf
   exact Zh rfl
  ·conv=>arg 3; whnf
   refine Zg rfl ?_ ?_
   ·conv=>arg 3; whnf
    exact Zh rfl
   ·conv=>arg 3; whnf
    refine Zj rfl rfl fun x6 hx6=>?_
    conv=>arg 3; whnf
    refine Zf (Zl rfl hx6) ?_
    conv=>arg 3; whnf
    refine Zj rfl rfl fun x7 hx7=>?_
    conv=>arg 3; whnf
    refine Zf (Zl rfl hx7) ?_
    conv=>arg 3; whnf
    refine Zf (ZaE rfl hx7) ?_
    conv=>arg 3; whnf
    refine Zf (Zl rfl hx7) ?_
    conv=>arg 3; whnf
    refine Zo (Z3 Ze s0.2.2 r5.toNat x6) ?_
    conv=>arg 3; whnf
    refine Zj rfl rfl fun x8 hx8=>?_
    conv=>arg 3; whnf
    refine Zf (Zl rfl hx8) ?_
    conv=>arg 3; whnf
    refine Zo (Z3 Ze (List.set s0.2.2 r5.toNat x6) (w64 (r5-1)).toNat x7) ?_
    conv=>arg 3; whnf
    refine Zg rfl ?_ ?_
    ·conv=>arg 3; whnf
     refine Zc _ (ZdA _) fun r14 hr14=>?_
     conv=>arg 3; whnf
     refine Zg rfl ?_ ?_
     ·conv=>arg 3; whnf
      refine Zc _ (ZbM _) fun r20 hr20=>?_
      conv=>arg 3; whnf
      exact Zd (ih _)
     ·conv=>arg 3; whnf
      exact Zd (ih _)
    ·conv=>arg 3; whnf
     refine Zg rfl ?_ ?_
     ·conv=>arg 3; whnf
      refine Zc _ (ZbM _) fun r26 hr26=>?_
      conv=>arg 3; whnf
      exact Zd (ih _)
     ·conv=>arg 3; whnf
      exact Zd (ih _)
 ·conv=>arg 3; whnf
  exact Zh rfl
theorem ZbZ {t0:Bool} {t1:Bool} {t2:Bool} {t3:Bool} {b:Int} {c:Int} {m0_0:(List Int)} {m1_0:Int} {m1_1:Int} {m1_2:(List Zal)} {m1_3:(List Zr)} {m1_4:(List Zk)} {m1_5:(List Zt)}:∀r,(ZP b c (fun z0 z1=>Zw z0 z1 m1_4) m0_0)=some r→evW ctx 147 [(.sl 0 1),(.d (Ze b)),(.d (Ze c)),(.fn 121 [(.ptr 1 0)])] [(.arr 1 (List.map Ze m0_0)),(.cells [(.d (Ze m1_0)),(.d (Ze m1_1)),(.d (D.list t0 (List.map Zau m1_2))),(.d (D.list t1 (List.map ZF m1_3))),(.d (D.list t2 (List.map Zs m1_4))),(.d (D.list t3 (List.map ZA m1_5)))])]=some ((Zb3 t0 t1 t2 t3 b c m0_0 m1_0 m1_1 m1_2 m1_3 m1_4 m1_5) r):=by
 show Z5 _ (fun r rhs=>rhs=some ((Zb3 t0 t1 t2 t3 b c m0_0 m1_0 m1_1 m1_2 m1_3 m1_4 m1_5) r)) _
 unfold ZP
 rw[Zei ctx 147 Zwg _ _ rfl rfl]
 conv=>arg 3; whnf
 refine Zc _ (ZdF _) fun r27 hr27=>?_
 clear hr27
 rcases r27 with r27 | (r27 | r27)
 ·conv=>arg 3; whnf
  exact Zh rfl
 ·conv=>arg 3; whnf
  exact Zh rfl
 ·conv=>arg 3; whnf
  exact Zh rfl
def Zc1 (t0:Bool) (t1:Bool) (t2:Bool) (t3:Bool) (b:Int) (c:Int) (d:Int) (m0_0:(List Int)) (m1_0:Int) (m1_1:Int) (m1_2:(List Zal)) (m1_3:(List Zr)) (m1_4:(List Zk)) (m1_5:(List Zt)):((Int×(List Int))⊕(Int×(List Int)))→V×Zn
  | (.inl r)=>((.d (D.tup [(Ze r.1),(D.bool true)])),[(.arr 1 (List.map Ze r.2)),(.cells [(.d (Ze m1_0)),(.d (Ze m1_1)),(.d (D.list t0 (List.map Zau m1_2))),(.d (D.list t1 (List.map ZF m1_3))),(.d (D.list t2 (List.map Zs m1_4))),(.d (D.list t3 (List.map ZA m1_5)))])])
  | (.inr r)=>((.d (D.tup [(Ze r.1),(D.bool false)])),[(.arr 1 (List.map Ze r.2)),(.cells [(.d (Ze m1_0)),(.d (Ze m1_1)),(.d (D.list t0 (List.map Zau m1_2))),(.d (D.list t1 (List.map ZF m1_3))),(.d (D.list t2 (List.map Zs m1_4))),(.d (D.list t3 (List.map ZA m1_5)))])])
def ZcJ (t0:Bool) (t1:Bool) (t2:Bool) (t3:Bool) (b:Int) (c:Int) (d:Int) (m0_0:(List Int)) (m1_0:Int) (m1_1:Int) (m1_2:(List Zal)) (m1_3:(List Zr)) (m1_4:(List Zk)) (m1_5:(List Zt)) (x0:Int) (x1:Int):Int→Ex×List V×Zn
  | r=>(.exit 0,[(.sl 0 1),(.d (Ze b)),(.fn 121 [(.ptr 1 0)]),(.d (Ze r)),(.d (Ze (w64 (c-1))))],[(.arr 1 (List.map Ze (List.set (List.set m0_0 b.toNat x0) d.toNat x1))),(.cells [(.d (Ze m1_0)),(.d (Ze m1_1)),(.d (D.list t0 (List.map Zau m1_2))),(.d (D.list t1 (List.map ZF m1_3))),(.d (D.list t2 (List.map Zs m1_4))),(.d (D.list t3 (List.map ZA m1_5)))])])
theorem ZeQ {t0:Bool} {t1:Bool} {t2:Bool} {t3:Bool} {b:Int} {c:Int} {d:Int} {m0_0:(List Int)} {m1_0:Int} {m1_1:Int} {m1_2:(List Zal)} {m1_3:(List Zr)} {m1_4:(List Zk)} {m1_5:(List Zt)} {x0:Int} {x1:Int}:∀(s3:Int) (r:Int),lp (ZaB b c d m0_0 (fun z0 z1=>Zw z0 z1 m1_4) x0 x1) s3=some r→lpW ctx 2 [0,1,4,12,13] [0,1,4,12,13] Zuo [(.sl 0 1),(.d (Ze b)),(.fn 121 [(.ptr 1 0)]),(.d (Ze s3)),(.d (Ze (w64 (c-1))))] [(.arr 1 (List.map Ze (List.set (List.set m0_0 b.toNat x0) d.toNat x1))),(.cells [(.d (Ze m1_0)),(.d (Ze m1_1)),(.d (D.list t0 (List.map Zau m1_2))),(.d (D.list t1 (List.map ZF m1_3))),(.d (D.list t2 (List.map Zs m1_4))),(.d (D.list t3 (List.map ZA m1_5)))])]=some ((ZcJ t0 t1 t2 t3 b c d m0_0 m1_0 m1_1 m1_2 m1_3 m1_4 m1_5 x0 x1) r):=by
 refine Za6 (ZcJ t0 t1 t2 t3 b c d m0_0 m1_0 m1_1 m1_2 m1_3 m1_4 m1_5 x0 x1) ?_
 intro s3 rcl ih
 show Z5 _ _ (lpW _ _ _ _ _ _ _)
 unfold ZaB
 rw[Za7]
 conv=>arg 3; whnf
 refine Zg rfl ?_ ?_
 ·conv=>arg 3; whnf
  refine Zj rfl rfl fun x4 hx4=>?_
  conv=>arg 3; whnf
  refine Zf (Zl rfl hx4) ?_
  conv=>arg 3; whnf
  refine Zj rfl rfl fun x5 hx5=>?_
  conv=>arg 3; whnf
  refine Zf (Zl rfl hx5) ?_
  conv=>arg 3; whnf
  refine Zp _ ZN rfl fun x6 hx6=>?_
  conv=>arg 3; whnf
  refine Zg rfl ?_ ?_
  ·conv=>arg 3; whnf
   exact Zd (ih _)
  ·conv=>arg 3; whnf
   exact Zh rfl
 ·conv=>arg 3; whnf
  exact Zh rfl
def ZcG (t0:Bool) (t1:Bool) (t2:Bool) (t3:Bool) (b:Int) (d:Int) (m0_0:(List Int)) (m1_0:Int) (m1_1:Int) (m1_2:(List Zal)) (m1_3:(List Zr)) (m1_4:(List Zk)) (m1_5:(List Zt)) (x0:Int) (x1:Int) (r7:Int):Int→Ex×List V×Zn
  | r=>(.exit 2,[(.sl 0 1),(.d (Ze b)),(.fn 121 [(.ptr 1 0)]),(.d (Ze r7)),(.d (Ze r))],[(.arr 1 (List.map Ze (List.set (List.set m0_0 b.toNat x0) d.toNat x1))),(.cells [(.d (Ze m1_0)),(.d (Ze m1_1)),(.d (D.list t0 (List.map Zau m1_2))),(.d (D.list t1 (List.map ZF m1_3))),(.d (D.list t2 (List.map Zs m1_4))),(.d (D.list t3 (List.map ZA m1_5)))])])
theorem ZeP {t0:Bool} {t1:Bool} {t2:Bool} {t3:Bool} {b:Int} {d:Int} {m0_0:(List Int)} {m1_0:Int} {m1_1:Int} {m1_2:(List Zal)} {m1_3:(List Zr)} {m1_4:(List Zk)} {m1_5:(List Zt)} {x0:Int} {x1:Int} {r7:Int}:∀(s8:Int) (r:Int),lp (Zaz b d m0_0 (fun z0 z1=>Zw z0 z1 m1_4) x0 x1 r7) s8=some r→lpW ctx 2 [0,1,4,12,13] [0,1,4,12,13] Ztp [(.sl 0 1),(.d (Ze b)),(.fn 121 [(.ptr 1 0)]),(.d (Ze r7)),(.d (Ze s8))] [(.arr 1 (List.map Ze (List.set (List.set m0_0 b.toNat x0) d.toNat x1))),(.cells [(.d (Ze m1_0)),(.d (Ze m1_1)),(.d (D.list t0 (List.map Zau m1_2))),(.d (D.list t1 (List.map ZF m1_3))),(.d (D.list t2 (List.map Zs m1_4))),(.d (D.list t3 (List.map ZA m1_5)))])]=some ((ZcG t0 t1 t2 t3 b d m0_0 m1_0 m1_1 m1_2 m1_3 m1_4 m1_5 x0 x1 r7) r):=by
 refine Za6 (ZcG t0 t1 t2 t3 b d m0_0 m1_0 m1_1 m1_2 m1_3 m1_4 m1_5 x0 x1 r7) ?_
 intro s8 rcl ih
 show Z5 _ _ (lpW _ _ _ _ _ _ _)
 unfold Zaz
 rw[Za7]
 conv=>arg 3; whnf
 refine Zg rfl ?_ ?_
 ·conv=>arg 3; whnf
  refine Zj rfl rfl fun x9 hx9=>?_
  conv=>arg 3; whnf
  refine Zf (Zl rfl hx9) ?_
  conv=>arg 3; whnf
  refine Zj rfl rfl fun x10 hx10=>?_
  conv=>arg 3; whnf
  refine Zf (Zl rfl hx10) ?_
  conv=>arg 3; whnf
  refine Zp _ ZN rfl fun x11 hx11=>?_
  conv=>arg 3; whnf
  refine Zg rfl ?_ ?_
  ·conv=>arg 3; whnf
   exact Zh rfl
  ·conv=>arg 3; whnf
   exact Zd (ih _)
 ·conv=>arg 3; whnf
  exact Zh rfl
def ZcD (t0:Bool) (t1:Bool) (t2:Bool) (t3:Bool) (b:Int) (m1_0:Int) (m1_1:Int) (m1_2:(List Zal)) (m1_3:(List Zr)) (m1_4:(List Zk)) (m1_5:(List Zt)) (s19:Int×Int×(List Int)):Int→Ex×List V×Zn
  | r=>(.exit 6,[(.sl 0 1),(.d (Ze b)),(.fn 121 [(.ptr 1 0)]),(.d (Ze r)),(.d (Ze s19.2.1))],[(.arr 1 (List.map Ze s19.2.2)),(.cells [(.d (Ze m1_0)),(.d (Ze m1_1)),(.d (D.list t0 (List.map Zau m1_2))),(.d (D.list t1 (List.map ZF m1_3))),(.d (D.list t2 (List.map Zs m1_4))),(.d (D.list t3 (List.map ZA m1_5)))])])
theorem ZeS {t0:Bool} {t1:Bool} {t2:Bool} {t3:Bool} {b:Int} {m1_0:Int} {m1_1:Int} {m1_2:(List Zal)} {m1_3:(List Zr)} {m1_4:(List Zk)} {m1_5:(List Zt)} {s19:Int×Int×(List Int)}:∀(s20:Int) (r:Int),lp (ZaC b (fun z0 z1=>Zw z0 z1 m1_4) s19) s20=some r→lpW ctx 2 [0,1,4,12,13] [0,1,4,12,13] ZtK [(.sl 0 1),(.d (Ze b)),(.fn 121 [(.ptr 1 0)]),(.d (Ze s20)),(.d (Ze s19.2.1))] [(.arr 1 (List.map Ze s19.2.2)),(.cells [(.d (Ze m1_0)),(.d (Ze m1_1)),(.d (D.list t0 (List.map Zau m1_2))),(.d (D.list t1 (List.map ZF m1_3))),(.d (D.list t2 (List.map Zs m1_4))),(.d (D.list t3 (List.map ZA m1_5)))])]=some ((ZcD t0 t1 t2 t3 b m1_0 m1_1 m1_2 m1_3 m1_4 m1_5 s19) r):=by
 refine Za6 (ZcD t0 t1 t2 t3 b m1_0 m1_1 m1_2 m1_3 m1_4 m1_5 s19) ?_
 intro s20 rcl ih
 show Z5 _ _ (lpW _ _ _ _ _ _ _)
 unfold ZaC
 rw[Za7]
 conv=>arg 3; whnf
 refine Zg rfl ?_ ?_
 ·conv=>arg 3; whnf
  refine Zj rfl rfl fun x21 hx21=>?_
  conv=>arg 3; whnf
  refine Zf (Zl rfl hx21) ?_
  conv=>arg 3; whnf
  refine Zj rfl rfl fun x22 hx22=>?_
  conv=>arg 3; whnf
  refine Zf (Zl rfl hx22) ?_
  conv=>arg 3; whnf
  refine Zp _ ZN rfl fun x23 hx23=>?_
  conv=>arg 3; whnf
  refine Zg rfl ?_ ?_
  ·conv=>arg 3; whnf
   exact Zd (ih _)
  ·conv=>arg 3; whnf
   exact Zh rfl
 ·conv=>arg 3; whnf
  exact Zh rfl
def ZcH (t0:Bool) (t1:Bool) (t2:Bool) (t3:Bool) (b:Int) (m1_0:Int) (m1_1:Int) (m1_2:(List Zal)) (m1_3:(List Zr)) (m1_4:(List Zk)) (m1_5:(List Zt)) (s19:Int×Int×(List Int)) (r24:Int):Int→Ex×List V×Zn
  | r=>(.exit 8,[(.sl 0 1),(.d (Ze b)),(.fn 121 [(.ptr 1 0)]),(.d (Ze r24)),(.d (Ze r))],[(.arr 1 (List.map Ze s19.2.2)),(.cells [(.d (Ze m1_0)),(.d (Ze m1_1)),(.d (D.list t0 (List.map Zau m1_2))),(.d (D.list t1 (List.map ZF m1_3))),(.d (D.list t2 (List.map Zs m1_4))),(.d (D.list t3 (List.map ZA m1_5)))])])
theorem ZeM {t0:Bool} {t1:Bool} {t2:Bool} {t3:Bool} {b:Int} {m1_0:Int} {m1_1:Int} {m1_2:(List Zal)} {m1_3:(List Zr)} {m1_4:(List Zk)} {m1_5:(List Zt)} {s19:Int×Int×(List Int)} {r24:Int}:∀(s25:Int) (r:Int),lp (Zay b (fun z0 z1=>Zw z0 z1 m1_4) s19 r24) s25=some r→lpW ctx 2 [0,1,4,12,13] [0,1,4,12,13] Zus [(.sl 0 1),(.d (Ze b)),(.fn 121 [(.ptr 1 0)]),(.d (Ze r24)),(.d (Ze s25))] [(.arr 1 (List.map Ze s19.2.2)),(.cells [(.d (Ze m1_0)),(.d (Ze m1_1)),(.d (D.list t0 (List.map Zau m1_2))),(.d (D.list t1 (List.map ZF m1_3))),(.d (D.list t2 (List.map Zs m1_4))),(.d (D.list t3 (List.map ZA m1_5)))])]=some ((ZcH t0 t1 t2 t3 b m1_0 m1_1 m1_2 m1_3 m1_4 m1_5 s19 r24) r):=by
 refine Za6 (ZcH t0 t1 t2 t3 b m1_0 m1_1 m1_2 m1_3 m1_4 m1_5 s19 r24) ?_
 intro s25 rcl ih
 show Z5 _ _ (lpW _ _ _ _ _ _ _)
 unfold Zay
 rw[Za7]
 conv=>arg 3; whnf
 refine Zg rfl ?_ ?_
 ·conv=>arg 3; whnf
  refine Zj rfl rfl fun x26 hx26=>?_
  conv=>arg 3; whnf
  refine Zf (Zl rfl hx26) ?_
  conv=>arg 3; whnf
  refine Zj rfl rfl fun x27 hx27=>?_
  conv=>arg 3; whnf
  refine Zf (Zl rfl hx27) ?_
  conv=>arg 3; whnf
  refine Zp _ ZN rfl fun x28 hx28=>?_
  conv=>arg 3; whnf
  refine Zg rfl ?_ ?_
  ·conv=>arg 3; whnf
   exact Zh rfl
  ·conv=>arg 3; whnf
   exact Zd (ih _)
 ·conv=>arg 3; whnf
  exact Zh rfl
def ZcF (t0:Bool) (t1:Bool) (t2:Bool) (t3:Bool) (b:Int) (m1_0:Int) (m1_1:Int) (m1_2:(List Zal)) (m1_3:(List Zr)) (m1_4:(List Zk)) (m1_5:(List Zt)):(Int×(List Int))→Ex×List V×Zn
  | r=>(.exit 4,[(.sl 0 1),(.d (Ze b)),(.d (Ze r.1))],[(.arr 1 (List.map Ze r.2)),(.cells [(.d (Ze m1_0)),(.d (Ze m1_1)),(.d (D.list t0 (List.map Zau m1_2))),(.d (D.list t1 (List.map ZF m1_3))),(.d (D.list t2 (List.map Zs m1_4))),(.d (D.list t3 (List.map ZA m1_5)))])])
theorem ZeR {t0:Bool} {t1:Bool} {t2:Bool} {t3:Bool} {b:Int} {m1_0:Int} {m1_1:Int} {m1_2:(List Zal)} {m1_3:(List Zr)} {m1_4:(List Zk)} {m1_5:(List Zt)}:∀(s19:Int×Int×(List Int)) (r:(Int×(List Int))),lp (Za0 b (fun z0 z1=>Zw z0 z1 m1_4)) s19=some r→lpW ctx 2 [0,1,4,12,13] [0,1,13] ZtQ [(.sl 0 1),(.d (Ze b)),(.fn 121 [(.ptr 1 0)]),(.d (Ze s19.1)),(.d (Ze s19.2.1))] [(.arr 1 (List.map Ze s19.2.2)),(.cells [(.d (Ze m1_0)),(.d (Ze m1_1)),(.d (D.list t0 (List.map Zau m1_2))),(.d (D.list t1 (List.map ZF m1_3))),(.d (D.list t2 (List.map Zs m1_4))),(.d (D.list t3 (List.map ZA m1_5)))])]=some ((ZcF t0 t1 t2 t3 b m1_0 m1_1 m1_2 m1_3 m1_4 m1_5) r):=by
 refine Za6 (ZcF t0 t1 t2 t3 b m1_0 m1_1 m1_2 m1_3 m1_4 m1_5) ?_
 intro s19 rcl ih
 show Z5 _ _ (lpW _ _ _ _ _ _ _)
 unfold Za0
 rw[Za7]
 conv=>arg 3; whnf
 refine Zc _ (ZeS _) fun r24 hr24=>?_
 conv=>arg 3; whnf
 refine Zc _ (ZeM _) fun r29 hr29=>?_
 conv=>arg 3; whnf
 refine Zg rfl ?_ ?_
 ·conv=>arg 3; whnf
  exact Zh rfl
 ·conv=>arg 3; whnf
  refine Zj rfl rfl fun x30 hx30=>?_
  conv=>arg 3; whnf
  refine Zf (Zl rfl hx30) ?_
  conv=>arg 3; whnf
  refine Zj rfl rfl fun x31 hx31=>?_
  conv=>arg 3; whnf
  refine Zf (Zl rfl hx31) ?_
  conv=>arg 3; whnf
  refine Zf (ZaE rfl hx31) ?_
  conv=>arg 3; whnf
  refine Zf (Zl rfl hx31) ?_
  conv=>arg 3; whnf
  refine Zo (Z3 Ze s19.2.2 r24.toNat x30) ?_
  conv=>arg 3; whnf
  refine Zj rfl rfl fun x32 hx32=>?_
  conv=>arg 3; whnf
  refine Zf (Zl rfl hx32) ?_
  conv=>arg 3; whnf
  refine Zo (Z3 Ze (List.set s19.2.2 r24.toNat x30) r29.toNat x31) ?_
  conv=>arg 3; whnf
  exact Zd (ih _)
theorem Zm {t0:Bool} {t1:Bool} {t2:Bool} {t3:Bool} {b:Int} {c:Int} {d:Int} {m0_0:(List Int)} {m1_0:Int} {m1_1:Int} {m1_2:(List Zal)} {m1_3:(List Zr)} {m1_4:(List Zk)} {m1_5:(List Zt)}:∀r,(Zq b c d (fun z0 z1=>Zw z0 z1 m1_4) m0_0)=some r→evW ctx 149 [(.sl 0 1),(.d (Ze b)),(.d (Ze c)),(.d (Ze d)),(.fn 121 [(.ptr 1 0)])] [(.arr 1 (List.map Ze m0_0)),(.cells [(.d (Ze m1_0)),(.d (Ze m1_1)),(.d (D.list t0 (List.map Zau m1_2))),(.d (D.list t1 (List.map ZF m1_3))),(.d (D.list t2 (List.map Zs m1_4))),(.d (D.list t3 (List.map ZA m1_5)))])]=some ((Zc1 t0 t1 t2 t3 b c d m0_0 m1_0 m1_1 m1_2 m1_3 m1_4 m1_5) r):=by
 show Z5 _ (fun r rhs=>rhs=some ((Zc1 t0 t1 t2 t3 b c d m0_0 m1_0 m1_1 m1_2 m1_3 m1_4 m1_5) r)) _
 unfold Zq
 rw[Zei ctx 149 Zxl _ _ rfl rfl]
 conv=>arg 3; whnf
 refine Zj rfl rfl fun x0 hx0=>?_
 conv=>arg 3; whnf
 refine Zf (Zl rfl hx0) ?_
 conv=>arg 3; whnf
 refine Zj rfl rfl fun x1 hx1=>?_
 conv=>arg 3; whnf
 refine Zf (Zl rfl hx1) ?_
 conv=>arg 3; whnf
 refine Zf (ZaE rfl hx1) ?_
 conv=>arg 3; whnf
 refine Zf (Zl rfl hx1) ?_
 conv=>arg 3; whnf
 refine Zo (Z3 Ze m0_0 b.toNat x0) ?_
 conv=>arg 3; whnf
 refine Zj rfl rfl fun x2 hx2=>?_
 conv=>arg 3; whnf
 refine Zf (Zl rfl hx2) ?_
 conv=>arg 3; whnf
 refine Zo (Z3 Ze (List.set m0_0 b.toNat x0) d.toNat x1) ?_
 conv=>arg 3; whnf
 refine Zc _ (ZeQ _) fun r7 hr7=>?_
 conv=>arg 3; whnf
 refine Zc _ (ZeP _) fun r12 hr12=>?_
 conv=>arg 3; whnf
 refine Zg rfl ?_ ?_
 ·conv=>arg 3; whnf
  refine Zj rfl rfl fun x13 hx13=>?_
  conv=>arg 3; whnf
  refine Zf (Zl rfl hx13) ?_
  conv=>arg 3; whnf
  refine Zj rfl rfl fun x14 hx14=>?_
  conv=>arg 3; whnf
  refine Zf (Zl rfl hx14) ?_
  conv=>arg 3; whnf
  refine Zf (ZaE rfl hx14) ?_
  conv=>arg 3; whnf
  refine Zf (Zl rfl hx14) ?_
  conv=>arg 3; whnf
  refine Zo (Z3 Ze (List.set (List.set m0_0 b.toNat x0) d.toNat x1) r12.toNat x13) ?_
  conv=>arg 3; whnf
  refine Zj rfl rfl fun x15 hx15=>?_
  conv=>arg 3; whnf
  refine Zf (Zl rfl hx15) ?_
  conv=>arg 3; whnf
  refine Zo (Z3 Ze (List.set (List.set (List.set m0_0 b.toNat x0) d.toNat x1) r12.toNat x13) b.toNat x14) ?_
  conv=>arg 3; whnf
  exact Zh rfl
 ·conv=>arg 3; whnf
  refine Zj rfl rfl fun x16 hx16=>?_
  conv=>arg 3; whnf
  refine Zf (Zl rfl hx16) ?_
  conv=>arg 3; whnf
  refine Zj rfl rfl fun x17 hx17=>?_
  conv=>arg 3; whnf
  refine Zf (Zl rfl hx17) ?_
  conv=>arg 3; whnf
  refine Zf (ZaE rfl hx17) ?_
  conv=>arg 3; whnf
  refine Zf (Zl rfl hx17) ?_
  conv=>arg 3; whnf
  refine Zo (Z3 Ze (List.set (List.set m0_0 b.toNat x0) d.toNat x1) r7.toNat x16) ?_
  conv=>arg 3; whnf
  refine Zj rfl rfl fun x18 hx18=>?_
  conv=>arg 3; whnf
  refine Zf (Zl rfl hx18) ?_
  conv=>arg 3; whnf
  refine Zo (Z3 Ze (List.set (List.set (List.set m0_0 b.toNat x0) d.toNat x1) r7.toNat x16) r12.toNat x17) ?_
  conv=>arg 3; whnf
  refine Zc _ (ZeR _) fun r33 hr33=>?_
  conv=>arg 3; whnf
  refine Zj rfl rfl fun x34 hx34=>?_
  conv=>arg 3; whnf
  refine Zf (Zl rfl hx34) ?_
  conv=>arg 3; whnf
  refine Zj rfl rfl fun x35 hx35=>?_
  conv=>arg 3; whnf
  refine Zf (Zl rfl hx35) ?_
  conv=>arg 3; whnf
  refine Zf (ZaE rfl hx35) ?_
  conv=>arg 3; whnf
  refine Zf (Zl rfl hx35) ?_
  conv=>arg 3; whnf
  refine Zo (Z3 Ze r33.2 r33.1.toNat x34) ?_
  conv=>arg 3; whnf
  refine Zj rfl rfl fun x36 hx36=>?_
  conv=>arg 3; whnf
  refine Zf (Zl rfl hx36) ?_
  conv=>arg 3; whnf
  refine Zo (Z3 Ze (List.set r33.2 r33.1.toNat x34) b.toNat x35) ?_
  conv=>arg 3; whnf
  exact Zh rfl
def Zcs (t0:Bool) (t1:Bool) (t2:Bool) (t3:Bool) (b:Int) (c:Int) (d:Int) (m0_0:(List Int)) (m1_0:Int) (m1_1:Int) (m1_2:(List Zal)) (m1_3:(List Zr)) (m1_4:(List Zk)) (m1_5:(List Zt)):(Int×(List Int))→V×Zn
  | r=>((.d (Ze r.1)),[(.arr 1 (List.map Ze r.2)),(.cells [(.d (Ze m1_0)),(.d (Ze m1_1)),(.d (D.list t0 (List.map Zau m1_2))),(.d (D.list t1 (List.map ZF m1_3))),(.d (D.list t2 (List.map Zs m1_4))),(.d (D.list t3 (List.map ZA m1_5)))])])
def Zcd (t0:Bool) (t1:Bool) (t2:Bool) (t3:Bool) (b:Int) (m1_0:Int) (m1_1:Int) (m1_2:(List Zal)) (m1_3:(List Zr)) (m1_4:(List Zk)) (m1_5:(List Zt)) (s3:Int×Int×(List Int)):Int→Ex×List V×Zn
  | r=>(.exit 2,[(.sl 0 1),(.d (Ze b)),(.fn 121 [(.ptr 1 0)]),(.d (Ze r)),(.d (Ze s3.2.1))],[(.arr 1 (List.map Ze s3.2.2)),(.cells [(.d (Ze m1_0)),(.d (Ze m1_1)),(.d (D.list t0 (List.map Zau m1_2))),(.d (D.list t1 (List.map ZF m1_3))),(.d (D.list t2 (List.map Zs m1_4))),(.d (D.list t3 (List.map ZA m1_5)))])])
theorem Zd0 {t0:Bool} {t1:Bool} {t2:Bool} {t3:Bool} {b:Int} {m1_0:Int} {m1_1:Int} {m1_2:(List Zal)} {m1_3:(List Zr)} {m1_4:(List Zk)} {m1_5:(List Zt)} {s3:Int×Int×(List Int)}:∀(s4:Int) (r:Int),lp (Zad b (fun z0 z1=>Zw z0 z1 m1_4) s3) s4=some r→lpW ctx 2 [0,1,4,11,12] [0,1,4,11,12] Zt6 [(.sl 0 1),(.d (Ze b)),(.fn 121 [(.ptr 1 0)]),(.d (Ze s4)),(.d (Ze s3.2.1))] [(.arr 1 (List.map Ze s3.2.2)),(.cells [(.d (Ze m1_0)),(.d (Ze m1_1)),(.d (D.list t0 (List.map Zau m1_2))),(.d (D.list t1 (List.map ZF m1_3))),(.d (D.list t2 (List.map Zs m1_4))),(.d (D.list t3 (List.map ZA m1_5)))])]=some ((Zcd t0 t1 t2 t3 b m1_0 m1_1 m1_2 m1_3 m1_4 m1_5 s3) r):=by
 refine Za6 (Zcd t0 t1 t2 t3 b m1_0 m1_1 m1_2 m1_3 m1_4 m1_5 s3) ?_
 intro s4 rcl ih
 show Z5 _ _ (lpW _ _ _ _ _ _ _)
 unfold Zad
 rw[Za7]
 conv=>arg 3; whnf
 refine Zg rfl ?_ ?_
 ·conv=>arg 3; whnf
  refine Zj rfl rfl fun x5 hx5=>?_
  conv=>arg 3; whnf
  refine Zf (Zl rfl hx5) ?_
  conv=>arg 3; whnf
  refine Zj rfl rfl fun x6 hx6=>?_
  conv=>arg 3; whnf
  refine Zf (Zl rfl hx6) ?_
  conv=>arg 3; whnf
  refine Zp _ ZN rfl fun x7 hx7=>?_
  conv=>arg 3; whnf
  refine Zg rfl ?_ ?_
  ·conv=>arg 3; whnf
   exact Zh rfl
  ·conv=>arg 3; whnf
   exact Zd (ih _)
 ·conv=>arg 3; whnf
  exact Zh rfl
def Zce (t0:Bool) (t1:Bool) (t2:Bool) (t3:Bool) (b:Int) (m1_0:Int) (m1_1:Int) (m1_2:(List Zal)) (m1_3:(List Zr)) (m1_4:(List Zk)) (m1_5:(List Zt)) (s3:Int×Int×(List Int)) (r8:Int):Int→Ex×List V×Zn
  | r=>(.exit 4,[(.sl 0 1),(.d (Ze b)),(.fn 121 [(.ptr 1 0)]),(.d (Ze r8)),(.d (Ze r))],[(.arr 1 (List.map Ze s3.2.2)),(.cells [(.d (Ze m1_0)),(.d (Ze m1_1)),(.d (D.list t0 (List.map Zau m1_2))),(.d (D.list t1 (List.map ZF m1_3))),(.d (D.list t2 (List.map Zs m1_4))),(.d (D.list t3 (List.map ZA m1_5)))])])
theorem Zeb {t0:Bool} {t1:Bool} {t2:Bool} {t3:Bool} {b:Int} {m1_0:Int} {m1_1:Int} {m1_2:(List Zal)} {m1_3:(List Zr)} {m1_4:(List Zk)} {m1_5:(List Zt)} {s3:Int×Int×(List Int)} {r8:Int}:∀(s9:Int) (r:Int),lp (Zae b (fun z0 z1=>Zw z0 z1 m1_4) s3 r8) s9=some r→lpW ctx 2 [0,1,4,11,12] [0,1,4,11,12] ZtG [(.sl 0 1),(.d (Ze b)),(.fn 121 [(.ptr 1 0)]),(.d (Ze r8)),(.d (Ze s9))] [(.arr 1 (List.map Ze s3.2.2)),(.cells [(.d (Ze m1_0)),(.d (Ze m1_1)),(.d (D.list t0 (List.map Zau m1_2))),(.d (D.list t1 (List.map ZF m1_3))),(.d (D.list t2 (List.map Zs m1_4))),(.d (D.list t3 (List.map ZA m1_5)))])]=some ((Zce t0 t1 t2 t3 b m1_0 m1_1 m1_2 m1_3 m1_4 m1_5 s3 r8) r):=by
 refine Za6 (Zce t0 t1 t2 t3 b m1_0 m1_1 m1_2 m1_3 m1_4 m1_5 s3 r8) ?_
 intro s9 rcl ih
 show Z5 _ _ (lpW _ _ _ _ _ _ _)
 unfold Zae
 rw[Za7]
 conv=>arg 3; whnf
 refine Zg rfl ?_ ?_
 ·conv=>arg 3; whnf
  refine Zj rfl rfl fun x10 hx10=>?_
  conv=>arg 3; whnf
  refine Zf (Zl rfl hx10) ?_
  conv=>arg 3; whnf
  refine Zj rfl rfl fun x11 hx11=>?_
  conv=>arg 3; whnf
  refine Zf (Zl rfl hx11) ?_
  conv=>arg 3; whnf
  refine Zp _ ZN rfl fun x12 hx12=>?_
  conv=>arg 3; whnf
  refine Zg rfl ?_ ?_
  ·conv=>arg 3; whnf
   exact Zd (ih _)
  ·conv=>arg 3; whnf
   exact Zh rfl
 ·conv=>arg 3; whnf
  exact Zh rfl
def Zcc (t0:Bool) (t1:Bool) (t2:Bool) (t3:Bool) (b:Int) (m1_0:Int) (m1_1:Int) (m1_2:(List Zal)) (m1_3:(List Zr)) (m1_4:(List Zk)) (m1_5:(List Zt)):(Int×(List Int))→Ex×List V×Zn
  | r=>(.exit 0,[(.d (Ze r.1))],[(.arr 1 (List.map Ze r.2)),(.cells [(.d (Ze m1_0)),(.d (Ze m1_1)),(.d (D.list t0 (List.map Zau m1_2))),(.d (D.list t1 (List.map ZF m1_3))),(.d (D.list t2 (List.map Zs m1_4))),(.d (D.list t3 (List.map ZA m1_5)))])])
theorem Zd4 {t0:Bool} {t1:Bool} {t2:Bool} {t3:Bool} {b:Int} {m1_0:Int} {m1_1:Int} {m1_2:(List Zal)} {m1_3:(List Zr)} {m1_4:(List Zk)} {m1_5:(List Zt)}:∀(s3:Int×Int×(List Int)) (r:(Int×(List Int))),lp (Zar b (fun z0 z1=>Zw z0 z1 m1_4)) s3=some r→lpW ctx 2 [0,1,4,11,12] [11] Ztu [(.sl 0 1),(.d (Ze b)),(.fn 121 [(.ptr 1 0)]),(.d (Ze s3.1)),(.d (Ze s3.2.1))] [(.arr 1 (List.map Ze s3.2.2)),(.cells [(.d (Ze m1_0)),(.d (Ze m1_1)),(.d (D.list t0 (List.map Zau m1_2))),(.d (D.list t1 (List.map ZF m1_3))),(.d (D.list t2 (List.map Zs m1_4))),(.d (D.list t3 (List.map ZA m1_5)))])]=some ((Zcc t0 t1 t2 t3 b m1_0 m1_1 m1_2 m1_3 m1_4 m1_5) r):=by
 refine Za6 (Zcc t0 t1 t2 t3 b m1_0 m1_1 m1_2 m1_3 m1_4 m1_5) ?_
 intro s3 rcl ih
 show Z5 _ _ (lpW _ _ _ _ _ _ _)
 unfold Zar
 rw[Za7]
 conv=>arg 3; whnf
 refine Zc _ (Zd0 _) fun r8 hr8=>?_
 conv=>arg 3; whnf
 refine Zc _ (Zeb _) fun r13 hr13=>?_
 conv=>arg 3; whnf
 refine Zg rfl ?_ ?_
 ·conv=>arg 3; whnf
  exact Zh rfl
 ·conv=>arg 3; whnf
  refine Zj rfl rfl fun x14 hx14=>?_
  conv=>arg 3; whnf
  refine Zf (Zl rfl hx14) ?_
  conv=>arg 3; whnf
  refine Zj rfl rfl fun x15 hx15=>?_
  conv=>arg 3; whnf
  refine Zf (Zl rfl hx15) ?_
  conv=>arg 3; whnf
  refine Zf (ZaE rfl hx15) ?_
  conv=>arg 3; whnf
  refine Zf (Zl rfl hx15) ?_
  conv=>arg 3; whnf
  refine Zo (Z3 Ze s3.2.2 r8.toNat x14) ?_
  conv=>arg 3; whnf
  refine Zj rfl rfl fun x16 hx16=>?_
  conv=>arg 3; whnf
  refine Zf (Zl rfl hx16) ?_
  conv=>arg 3; whnf
  refine Zo (Z3 Ze (List.set s3.2.2 r8.toNat x14) r13.toNat x15) ?_
  conv=>arg 3; whnf
  exact Zd (ih _)
theorem ZE {t0:Bool} {t1:Bool} {t2:Bool} {t3:Bool} {b:Int} {c:Int} {d:Int} {m0_0:(List Int)} {m1_0:Int} {m1_1:Int} {m1_2:(List Zal)} {m1_3:(List Zr)} {m1_4:(List Zk)} {m1_5:(List Zt)}:∀r,(ZC b c d (fun z0 z1=>Zw z0 z1 m1_4) m0_0)=some r→evW ctx 148 [(.sl 0 1),(.d (Ze b)),(.d (Ze c)),(.d (Ze d)),(.fn 121 [(.ptr 1 0)])] [(.arr 1 (List.map Ze m0_0)),(.cells [(.d (Ze m1_0)),(.d (Ze m1_1)),(.d (D.list t0 (List.map Zau m1_2))),(.d (D.list t1 (List.map ZF m1_3))),(.d (D.list t2 (List.map Zs m1_4))),(.d (D.list t3 (List.map ZA m1_5)))])]=some ((Zcs t0 t1 t2 t3 b c d m0_0 m1_0 m1_1 m1_2 m1_3 m1_4 m1_5) r):=by
 show Z5 _ (fun r rhs=>rhs=some ((Zcs t0 t1 t2 t3 b c d m0_0 m1_0 m1_1 m1_2 m1_3 m1_4 m1_5) r)) _
 unfold ZC
 rw[Zei ctx 148 Zxj _ _ rfl rfl]
 conv=>arg 3; whnf
 refine Zj rfl rfl fun x0 hx0=>?_
 conv=>arg 3; whnf
 refine Zf (Zl rfl hx0) ?_
 conv=>arg 3; whnf
 refine Zj rfl rfl fun x1 hx1=>?_
 conv=>arg 3; whnf
 refine Zf (Zl rfl hx1) ?_
 conv=>arg 3; whnf
 refine Zf (ZaE rfl hx1) ?_
 conv=>arg 3; whnf
 refine Zf (Zl rfl hx1) ?_
 conv=>arg 3; whnf
 refine Zo (Z3 Ze m0_0 b.toNat x0) ?_
 conv=>arg 3; whnf
 refine Zj rfl rfl fun x2 hx2=>?_
 conv=>arg 3; whnf
 refine Zf (Zl rfl hx2) ?_
 conv=>arg 3; whnf
 refine Zo (Z3 Ze (List.set m0_0 b.toNat x0) d.toNat x1) ?_
 conv=>arg 3; whnf
 refine Zc _ (Zd4 _) fun r17 hr17=>?_
 conv=>arg 3; whnf
 exact Zh rfl
def ZgW (r:Int):D:=(D.int .u64 r)
theorem ZgB {a:Int}:∀r,(Zcx a)=some r→evD ctx 162 [(.d (Ze a))]=some (ZgW r):=by
 show Z5 _ (fun r rhs=>rhs=some (ZgW r)) _
 unfold Zcx
 rw[ZcN ctx 162 Zxx _ rfl rfl]
 conv=>arg 3; whnf
 refine Zp _ Zhp rfl fun x0 hx0=>?_
 conv=>arg 3; whnf
 refine Zg rfl ?_ ?_
 ·exact ZbG
 ·conv=>arg 3; whnf
  exact Zh rfl
def Zg6 (m0_0:Int):Unit→V×Zn
  | r=>((.d (D.int .u64 (IntKind.u64.wrap (BitVec.ofInt IntKind.u64.bits (IntKind.u64.wrap (BitVec.ofInt IntKind.u64.bits (IntKind.u64.wrap (BitVec.ofInt IntKind.u64.bits m0_0 ^^^ BitVec.ofInt IntKind.u64.bits (IntKind.u64.wrap (m0_0*2 ^ 13))).toNat) ^^^ BitVec.ofInt IntKind.u64.bits (Int.fdiv (IntKind.u64.wrap (BitVec.ofInt IntKind.u64.bits m0_0 ^^^ BitVec.ofInt IntKind.u64.bits (IntKind.u64.wrap (m0_0*2 ^ 13))).toNat) (2 ^ 7))).toNat) ^^^ BitVec.ofInt IntKind.u64.bits (IntKind.u64.wrap ((IntKind.u64.wrap (BitVec.ofInt IntKind.u64.bits (IntKind.u64.wrap (BitVec.ofInt IntKind.u64.bits m0_0 ^^^ BitVec.ofInt IntKind.u64.bits (IntKind.u64.wrap (m0_0*2 ^ 13))).toNat) ^^^ BitVec.ofInt IntKind.u64.bits (Int.fdiv (IntKind.u64.wrap (BitVec.ofInt IntKind.u64.bits m0_0 ^^^ BitVec.ofInt IntKind.u64.bits (IntKind.u64.wrap (m0_0*2 ^ 13))).toNat) (2 ^ 7))).toNat)*2 ^ 17))).toNat))),[(.cells [(.d (D.int .u64 (IntKind.u64.wrap (BitVec.ofInt IntKind.u64.bits (IntKind.u64.wrap (BitVec.ofInt IntKind.u64.bits (IntKind.u64.wrap (BitVec.ofInt IntKind.u64.bits m0_0 ^^^ BitVec.ofInt IntKind.u64.bits (IntKind.u64.wrap (m0_0*2 ^ 13))).toNat) ^^^ BitVec.ofInt IntKind.u64.bits (Int.fdiv (IntKind.u64.wrap (BitVec.ofInt IntKind.u64.bits m0_0 ^^^ BitVec.ofInt IntKind.u64.bits (IntKind.u64.wrap (m0_0*2 ^ 13))).toNat) (2 ^ 7))).toNat) ^^^ BitVec.ofInt IntKind.u64.bits (IntKind.u64.wrap ((IntKind.u64.wrap (BitVec.ofInt IntKind.u64.bits (IntKind.u64.wrap (BitVec.ofInt IntKind.u64.bits m0_0 ^^^ BitVec.ofInt IntKind.u64.bits (IntKind.u64.wrap (m0_0*2 ^ 13))).toNat) ^^^ BitVec.ofInt IntKind.u64.bits (Int.fdiv (IntKind.u64.wrap (BitVec.ofInt IntKind.u64.bits m0_0 ^^^ BitVec.ofInt IntKind.u64.bits (IntKind.u64.wrap (m0_0*2 ^ 13))).toNat) (2 ^ 7))).toNat)*2 ^ 17))).toNat)))])])
theorem ZgZ {m0_0:Int}:∀r,ZdC=some r→evW ctx 163 [(.ptr 0 0)] [(.cells [(.d (D.int .u64 m0_0))])]=some ((Zg6 m0_0) r):=by
 show Z5 _ (fun r rhs=>rhs=some ((Zg6 m0_0) r)) _
 unfold ZdC
 rw[Zei ctx 163 Zxy _ _ rfl rfl]
 conv=>arg 3; whnf
 refine ZQ rfl ?_
 conv=>arg 3; whnf
 refine ZQ rfl ?_
 conv=>arg 3; whnf
 refine ZQ rfl ?_
 conv=>arg 3; whnf
 exact Zh rfl
def Zcw (t0:Bool) (t1:Bool) (t2:Bool) (t3:Bool) (b:Int) (c:Int) (m0_0:(List Int)) (m1_0:Int) (m1_1:Int) (m1_2:(List Zal)) (m1_3:(List Zr)) (m1_4:(List Zk)) (m1_5:(List Zt)):(List Int)→V×Zn
  | r=>((.d (D.tup [])),[(.arr 1 (List.map Ze r)),(.cells [(.d (Ze m1_0)),(.d (Ze m1_1)),(.d (D.list t0 (List.map Zau m1_2))),(.d (D.list t1 (List.map ZF m1_3))),(.d (D.list t2 (List.map Zs m1_4))),(.d (D.list t3 (List.map ZA m1_5)))])])
def Zcg (t0:Bool) (t1:Bool) (t2:Bool) (t3:Bool) (b:Int) (c:Int) (m1_0:Int) (m1_1:Int) (m1_2:(List Zal)) (m1_3:(List Zr)) (m1_4:(List Zk)) (m1_5:(List Zt)) (x0:Int):(List Int)→Ex×List V×Zn
  | r=>(.exit 0,[],[(.arr 1 (List.map Ze r)),(.cells [(.d (Ze m1_0)),(.d (Ze m1_1)),(.d (D.list t0 (List.map Zau m1_2))),(.d (D.list t1 (List.map ZF m1_3))),(.d (D.list t2 (List.map Zs m1_4))),(.d (D.list t3 (List.map ZA m1_5)))])])
theorem Zef {t0:Bool} {t1:Bool} {t2:Bool} {t3:Bool} {b:Int} {c:Int} {m1_0:Int} {m1_1:Int} {m1_2:(List Zal)} {m1_3:(List Zr)} {m1_4:(List Zk)} {m1_5:(List Zt)} {x0:Int}:∀(s1:Int×(List Int)×Int) (r:(List Int)),lp (Zax b c x0) s1=some r→lpW ctx 2 [0,1,8,9,10,11] [] ZtO [(.sl 0 1),(.d (Ze b)),(.d (Ze (w64 (c-b)))),(.ptr 2 0),(.d (D.int .u64 x0)),(.d (Ze s1.1))] [(.arr 1 (List.map Ze s1.2.1)),(.cells [(.d (Ze m1_0)),(.d (Ze m1_1)),(.d (D.list t0 (List.map Zau m1_2))),(.d (D.list t1 (List.map ZF m1_3))),(.d (D.list t2 (List.map Zs m1_4))),(.d (D.list t3 (List.map ZA m1_5)))]),(.cells [(.d (D.int .u64 s1.2.2))])]=some ((Zcg t0 t1 t2 t3 b c m1_0 m1_1 m1_2 m1_3 m1_4 m1_5 x0) r):=by
 refine Za6 (Zcg t0 t1 t2 t3 b c m1_0 m1_1 m1_2 m1_3 m1_4 m1_5 x0) ?_
 intro s1 rcl ih
 show Z5 _ _ (lpW _ _ _ _ _ _ _)
 unfold Zax
 rw[Za7]
 conv=>arg 3; whnf
 refine ZQ rfl ?_
 conv=>arg 3; whnf
 refine Zg rfl ?_ ?_
 ·conv=>arg 3; whnf
  refine Zc _ ZgZ fun x2 hx2=>?_
  conv=>arg 3; whnf
  refine Zg rfl ?_ ?_
  ·conv=>arg 3; whnf
   refine Zj rfl rfl fun x3 hx3=>?_
   conv=>arg 3; whnf
   refine Zf (Zl rfl hx3) ?_
   conv=>arg 3; whnf
   refine Zj rfl rfl fun x4 hx4=>?_
   conv=>arg 3; whnf
   refine Zf (Zl rfl hx4) ?_
   conv=>arg 3; whnf
   refine Zf (ZaE rfl hx4) ?_
   conv=>arg 3; whnf
   refine Zf (Zl rfl hx4) ?_
   conv=>arg 3; whnf
   refine Zo (Z3 Ze s1.2.1 s1.1.toNat x3) ?_
   conv=>arg 3; whnf
   refine Zj rfl rfl fun x5 hx5=>?_
   conv=>arg 3; whnf
   refine Zf (Zl rfl hx5) ?_
   conv=>arg 3; whnf
   refine Zo (Z3 Ze (List.set s1.2.1 s1.1.toNat x3) (w64 (b+(w64 ((w64 (IntKind.u64.wrap (BitVec.ofInt IntKind.u64.bits (IntKind.u64.wrap (BitVec.ofInt IntKind.u64.bits (IntKind.u64.wrap (BitVec.ofInt IntKind.u64.bits (IntKind.u64.wrap (BitVec.ofInt IntKind.u64.bits s1.2.2 ^^^ BitVec.ofInt IntKind.u64.bits (IntKind.u64.wrap (s1.2.2*2 ^ 13))).toNat) ^^^ BitVec.ofInt IntKind.u64.bits (Int.fdiv (IntKind.u64.wrap (BitVec.ofInt IntKind.u64.bits s1.2.2 ^^^ BitVec.ofInt IntKind.u64.bits (IntKind.u64.wrap (s1.2.2*2 ^ 13))).toNat) (2 ^ 7))).toNat) ^^^ BitVec.ofInt IntKind.u64.bits (IntKind.u64.wrap ((IntKind.u64.wrap (BitVec.ofInt IntKind.u64.bits (IntKind.u64.wrap (BitVec.ofInt IntKind.u64.bits s1.2.2 ^^^ BitVec.ofInt IntKind.u64.bits (IntKind.u64.wrap (s1.2.2*2 ^ 13))).toNat) ^^^ BitVec.ofInt IntKind.u64.bits (Int.fdiv (IntKind.u64.wrap (BitVec.ofInt IntKind.u64.bits s1.2.2 ^^^ BitVec.ofInt IntKind.u64.bits (IntKind.u64.wrap (s1.2.2*2 ^ 13))).toNat) (2 ^ 7))).toNat)*2 ^ 17))).toNat) &&& BitVec.ofInt IntKind.u64.bits (IntKind.u64.wrap (x0-1))).toNat))-(w64 (c-b)))))).toNat x4) ?_
   conv=>arg 3; whnf
   exact Zd (ih _)
  ·conv=>arg 3; whnf
   refine Zj rfl rfl fun x6 hx6=>?_
   conv=>arg 3; whnf
   refine Zf (Zl rfl hx6) ?_
   conv=>arg 3; whnf
   refine Zj rfl rfl fun x7 hx7=>?_
   conv=>arg 3; whnf
   refine Zf (Zl rfl hx7) ?_
   conv=>arg 3; whnf
   refine Zf (ZaE rfl hx7) ?_
   conv=>arg 3; whnf
   refine Zf (Zl rfl hx7) ?_
   conv=>arg 3; whnf
   refine Zo (Z3 Ze s1.2.1 s1.1.toNat x6) ?_
   conv=>arg 3; whnf
   refine Zj rfl rfl fun x8 hx8=>?_
   conv=>arg 3; whnf
   refine Zf (Zl rfl hx8) ?_
   conv=>arg 3; whnf
   refine Zo (Z3 Ze (List.set s1.2.1 s1.1.toNat x6) (w64 (b+(w64 (IntKind.u64.wrap (BitVec.ofInt IntKind.u64.bits (IntKind.u64.wrap (BitVec.ofInt IntKind.u64.bits (IntKind.u64.wrap (BitVec.ofInt IntKind.u64.bits (IntKind.u64.wrap (BitVec.ofInt IntKind.u64.bits s1.2.2 ^^^ BitVec.ofInt IntKind.u64.bits (IntKind.u64.wrap (s1.2.2*2 ^ 13))).toNat) ^^^ BitVec.ofInt IntKind.u64.bits (Int.fdiv (IntKind.u64.wrap (BitVec.ofInt IntKind.u64.bits s1.2.2 ^^^ BitVec.ofInt IntKind.u64.bits (IntKind.u64.wrap (s1.2.2*2 ^ 13))).toNat) (2 ^ 7))).toNat) ^^^ BitVec.ofInt IntKind.u64.bits (IntKind.u64.wrap ((IntKind.u64.wrap (BitVec.ofInt IntKind.u64.bits (IntKind.u64.wrap (BitVec.ofInt IntKind.u64.bits s1.2.2 ^^^ BitVec.ofInt IntKind.u64.bits (IntKind.u64.wrap (s1.2.2*2 ^ 13))).toNat) ^^^ BitVec.ofInt IntKind.u64.bits (Int.fdiv (IntKind.u64.wrap (BitVec.ofInt IntKind.u64.bits s1.2.2 ^^^ BitVec.ofInt IntKind.u64.bits (IntKind.u64.wrap (s1.2.2*2 ^ 13))).toNat) (2 ^ 7))).toNat)*2 ^ 17))).toNat) &&& BitVec.ofInt IntKind.u64.bits (IntKind.u64.wrap (x0-1))).toNat)))).toNat x7) ?_
   conv=>arg 3; whnf
   exact Zd (ih _)
 ·conv=>arg 3; whnf
  exact Zh rfl
theorem Zct {t0:Bool} {t1:Bool} {t2:Bool} {t3:Bool} {b:Int} {c:Int} {m0_0:(List Int)} {m1_0:Int} {m1_1:Int} {m1_2:(List Zal)} {m1_3:(List Zr)} {m1_4:(List Zk)} {m1_5:(List Zt)}:∀r,(Zag b c (fun z0 z1=>Zw z0 z1 m1_4) m0_0)=some r→evW ctx 144 [(.sl 0 1),(.d (Ze b)),(.d (Ze c)),(.fn 121 [(.ptr 1 0)])] [(.arr 1 (List.map Ze m0_0)),(.cells [(.d (Ze m1_0)),(.d (Ze m1_1)),(.d (D.list t0 (List.map Zau m1_2))),(.d (D.list t1 (List.map ZF m1_3))),(.d (D.list t2 (List.map Zs m1_4))),(.d (D.list t3 (List.map ZA m1_5)))])]=some ((Zcw t0 t1 t2 t3 b c m0_0 m1_0 m1_1 m1_2 m1_3 m1_4 m1_5) r):=by
 show Z5 _ (fun r rhs=>rhs=some ((Zcw t0 t1 t2 t3 b c m0_0 m1_0 m1_1 m1_2 m1_3 m1_4 m1_5) r)) _
 unfold Zag
 rw[Zei ctx 144 ZvQ _ _ rfl rfl]
 conv=>arg 3; whnf
 refine Zg rfl ?_ ?_
 ·conv=>arg 3; whnf
  refine Zp _ ZgB rfl fun x0 hx0=>?_
  conv=>arg 3; whnf
  refine ZQ rfl ?_
  conv=>arg 3; whnf
  refine Zc _ (Zef _) fun r9 hr9=>?_
  conv=>arg 3; whnf
  exact Zh rfl
 ·conv=>arg 3; whnf
  exact Zh rfl
def Za (t0:Bool) (t1:Bool) (t2:Bool) (t3:Bool) (b:Int) (c:Int) (d:Int) (m0_0:(List Int)) (m1_0:Int) (m1_1:Int) (m1_2:(List Zal)) (m1_3:(List Zr)) (m1_4:(List Zk)) (m1_5:(List Zt)):(List Int)→V×Zn
  | r=>((.d (D.tup [])),[(.arr 1 (List.map Ze r)),(.cells [(.d (Ze m1_0)),(.d (Ze m1_1)),(.d (D.list t0 (List.map Zau m1_2))),(.d (D.list t1 (List.map ZF m1_3))),(.d (D.list t2 (List.map Zs m1_4))),(.d (D.list t3 (List.map ZA m1_5)))])])
def ZcW (t0:Bool) (t1:Bool) (t2:Bool) (t3:Bool) (m1_0:Int) (m1_1:Int) (m1_2:(List Zal)) (m1_3:(List Zr)) (m1_4:(List Zk)) (m1_5:(List Zt)) (rc:Int→Int→Int→(Int→Int→Option Int)→(List Int)→Option (List Int)):(List Int)→Ex×List V×Zn
  | r=>(.ret,[],[(.arr 1 (List.map Ze r)),(.cells [(.d (Ze m1_0)),(.d (Ze m1_1)),(.d (D.list t0 (List.map Zau m1_2))),(.d (D.list t1 (List.map ZF m1_3))),(.d (D.list t2 (List.map Zs m1_4))),(.d (D.list t3 (List.map ZA m1_5)))])])
theorem Zfa {t0:Bool} {t1:Bool} {t2:Bool} {t3:Bool} {m1_0:Int} {m1_1:Int} {m1_2:(List Zal)} {m1_3:(List Zr)} {m1_4:(List Zk)} {m1_5:(List Zt)} {rc:Int→Int→Int→(Int→Int→Option Int)→(List Int)→Option (List Int)} (hrc:∀(t0:Bool) (t1:Bool) (t2:Bool) (t3:Bool) (b:Int) (c:Int) (d:Int) (m0_0:(List Int)) (m1_0:Int) (m1_1:Int) (m1_2:(List Zal)) (m1_3:(List Zr)) (m1_4:(List Zk)) (m1_5:(List Zt)) (r:(List Int)),rc b c d (fun z0 z1=>Zw z0 z1 m1_4) m0_0=some r→evW ctx 138 [(.sl 0 1),(.d (Ze b)),(.d (Ze c)),(.d (Ze d)),(.fn 121 [(.ptr 1 0)])] [(.arr 1 (List.map Ze m0_0)),(.cells [(.d (Ze m1_0)),(.d (Ze m1_1)),(.d (D.list t0 (List.map Zau m1_2))),(.d (D.list t1 (List.map ZF m1_3))),(.d (D.list t2 (List.map Zs m1_4))),(.d (D.list t3 (List.map ZA m1_5)))])]=some ((Za t0 t1 t2 t3 b c d m0_0 m1_0 m1_1 m1_2 m1_3 m1_4 m1_5) r)):∀(s0:Int×Int×Int×Bool×Bool×(List Int)) (r:(List Int)),lp (ZU (fun z0 z1=>Zw z0 z1 m1_4) rc) s0=some r→lpW ctx 2 [0,1,2,3,4,10,11] [] Zuu [(.sl 0 1),(.d (Ze s0.1)),(.d (Ze s0.2.1)),(.d (Ze s0.2.2.1)),(.fn 121 [(.ptr 1 0)]),(.d (D.bool s0.2.2.2.1)),(.d (D.bool s0.2.2.2.2.1))] [(.arr 1 (List.map Ze s0.2.2.2.2.2)),(.cells [(.d (Ze m1_0)),(.d (Ze m1_1)),(.d (D.list t0 (List.map Zau m1_2))),(.d (D.list t1 (List.map ZF m1_3))),(.d (D.list t2 (List.map Zs m1_4))),(.d (D.list t3 (List.map ZA m1_5)))])]=some ((ZcW t0 t1 t2 t3 m1_0 m1_1 m1_2 m1_3 m1_4 m1_5 rc) r):=by
 refine Za6 (ZcW t0 t1 t2 t3 m1_0 m1_1 m1_2 m1_3 m1_4 m1_5 rc) ?_
 intro s0 rcl ih
 show Z5 _ _ (lpW _ _ _ _ _ _ _)
 unfold ZU
 rw[Za7]
 rcases hb:s0.2.2.2.1 with _ | _
 ·refine ZnA ?_
  rcases hb:s0.2.2.2.2.1 with _ | _
  ·refine ZnA ?_
   conv=>arg 3; whnf
   refine Zg rfl ?_ ?_
   ·conv=>arg 3; whnf
    refine Zc _ ZaP fun x170 hx170=>?_
    conv=>arg 3; whnf
    exact Zh rfl
   ·conv=>arg 3; whnf
    refine Zg rfl ?_ ?_
    ·conv=>arg 3; whnf
     refine Zc _ Zbb fun x171 hx171=>?_
     conv=>arg 3; whnf
     exact Zh rfl
    ·conv=>arg 3; whnf
     refine Zc _ Zct fun x172 hx172=>?_
     conv=>arg 3; whnf
     refine Zc _ ZaW fun x173 hx173=>?_
     conv=>arg 3; whnf
     refine Zg rfl ?_ ?_
     ·conv=>arg 3; whnf
      refine Zc _ ZaV fun x174 hx174=>?_
      conv=>arg 3; whnf
      refine Zg rfl ?_ ?_
      ·conv=>arg 3; whnf
       refine Zj rfl rfl fun x175 hx175=>?_
       conv=>arg 3; whnf
       refine Zf (Zl rfl hx175) ?_
       conv=>arg 3; whnf
       refine Zj rfl rfl fun x176 hx176=>?_
       conv=>arg 3; whnf
       refine Zf (Zl rfl hx176) ?_
       conv=>arg 3; whnf
       refine Zp _ ZN rfl fun x177 hx177=>?_
       conv=>arg 3; whnf
       refine Zg rfl ?_ ?_
       ·conv=>arg 3; whnf
        refine Zc _ Zm fun x178 hx178=>?_
        clear hx178
        rcases x178 with x178 | x178
        ·conv=>arg 3; whnf
         refine ZbC rfl ?_
         conv=>arg 3; whnf
         refine ZQ rfl ?_
         conv=>arg 3; whnf
         refine Zg rfl ?_ ?_
         ·conv=>arg 3; whnf
          refine Zg rfl ?_ ?_
          ·conv=>arg 3; whnf
           refine Zc (Za t0 t1 t2 t3 s0.1 x178.1 (w64 (s0.2.2.1-1)) x178.2 m1_0 m1_1 m1_2 m1_3 m1_4 m1_5) (hrc t0 t1 t2 t3 s0.1 x178.1 (w64 (s0.2.2.1-1)) x178.2 m1_0 m1_1 m1_2 m1_3 m1_4 m1_5) fun x179 hx179=>?_
           conv=>arg 3; whnf
           exact Zd (ih _)
          ·conv=>arg 3; whnf
           refine Zc (Za t0 t1 t2 t3 s0.1 x178.1 (w64 (s0.2.2.1-1)) x178.2 m1_0 m1_1 m1_2 m1_3 m1_4 m1_5) (hrc t0 t1 t2 t3 s0.1 x178.1 (w64 (s0.2.2.1-1)) x178.2 m1_0 m1_1 m1_2 m1_3 m1_4 m1_5) fun x180 hx180=>?_
           conv=>arg 3; whnf
           exact Zd (ih _)
         ·conv=>arg 3; whnf
          refine Zg rfl ?_ ?_
          ·conv=>arg 3; whnf
           refine Zc (Za t0 t1 t2 t3 (w64 (x178.1+1)) s0.2.1 (w64 (s0.2.2.1-1)) x178.2 m1_0 m1_1 m1_2 m1_3 m1_4 m1_5) (hrc t0 t1 t2 t3 (w64 (x178.1+1)) s0.2.1 (w64 (s0.2.2.1-1)) x178.2 m1_0 m1_1 m1_2 m1_3 m1_4 m1_5) fun x181 hx181=>?_
           conv=>arg 3; whnf
           exact Zd (ih _)
          ·conv=>arg 3; whnf
           refine Zc (Za t0 t1 t2 t3 (w64 (x178.1+1)) s0.2.1 (w64 (s0.2.2.1-1)) x178.2 m1_0 m1_1 m1_2 m1_3 m1_4 m1_5) (hrc t0 t1 t2 t3 (w64 (x178.1+1)) s0.2.1 (w64 (s0.2.2.1-1)) x178.2 m1_0 m1_1 m1_2 m1_3 m1_4 m1_5) fun x182 hx182=>?_
           conv=>arg 3; whnf
           exact Zd (ih _)
        ·conv=>arg 3; whnf
         refine ZQ rfl ?_
         conv=>arg 3; whnf
         refine ZQ rfl ?_
         conv=>arg 3; whnf
         refine Zg rfl ?_ ?_
         ·conv=>arg 3; whnf
          refine Zg rfl ?_ ?_
          ·conv=>arg 3; whnf
           refine Zc (Za t0 t1 t2 t3 s0.1 x178.1 (w64 (s0.2.2.1-1)) x178.2 m1_0 m1_1 m1_2 m1_3 m1_4 m1_5) (hrc t0 t1 t2 t3 s0.1 x178.1 (w64 (s0.2.2.1-1)) x178.2 m1_0 m1_1 m1_2 m1_3 m1_4 m1_5) fun x183 hx183=>?_
           conv=>arg 3; whnf
           exact Zd (ih _)
          ·conv=>arg 3; whnf
           refine Zc (Za t0 t1 t2 t3 s0.1 x178.1 (w64 (s0.2.2.1-1)) x178.2 m1_0 m1_1 m1_2 m1_3 m1_4 m1_5) (hrc t0 t1 t2 t3 s0.1 x178.1 (w64 (s0.2.2.1-1)) x178.2 m1_0 m1_1 m1_2 m1_3 m1_4 m1_5) fun x184 hx184=>?_
           conv=>arg 3; whnf
           exact Zd (ih _)
         ·conv=>arg 3; whnf
          refine Zg rfl ?_ ?_
          ·conv=>arg 3; whnf
           refine Zc (Za t0 t1 t2 t3 (w64 (x178.1+1)) s0.2.1 (w64 (s0.2.2.1-1)) x178.2 m1_0 m1_1 m1_2 m1_3 m1_4 m1_5) (hrc t0 t1 t2 t3 (w64 (x178.1+1)) s0.2.1 (w64 (s0.2.2.1-1)) x178.2 m1_0 m1_1 m1_2 m1_3 m1_4 m1_5) fun x185 hx185=>?_
           conv=>arg 3; whnf
           exact Zd (ih _)
          ·conv=>arg 3; whnf
           refine Zc (Za t0 t1 t2 t3 (w64 (x178.1+1)) s0.2.1 (w64 (s0.2.2.1-1)) x178.2 m1_0 m1_1 m1_2 m1_3 m1_4 m1_5) (hrc t0 t1 t2 t3 (w64 (x178.1+1)) s0.2.1 (w64 (s0.2.2.1-1)) x178.2 m1_0 m1_1 m1_2 m1_3 m1_4 m1_5) fun x186 hx186=>?_
           conv=>arg 3; whnf
           exact Zd (ih _)
       ·conv=>arg 3; whnf
        refine Zc _ ZE fun x187 hx187=>?_
        conv=>arg 3; whnf
        exact Zd (ih _)
      ·conv=>arg 3; whnf
       refine Zc _ Zm fun x188 hx188=>?_
       clear hx188
       rcases x188 with x188 | x188
       ·conv=>arg 3; whnf
        refine ZbC rfl ?_
        conv=>arg 3; whnf
        refine ZQ rfl ?_
        conv=>arg 3; whnf
        refine Zg rfl ?_ ?_
        ·conv=>arg 3; whnf
         refine Zg rfl ?_ ?_
         ·conv=>arg 3; whnf
          refine Zc (Za t0 t1 t2 t3 s0.1 x188.1 (w64 (s0.2.2.1-1)) x188.2 m1_0 m1_1 m1_2 m1_3 m1_4 m1_5) (hrc t0 t1 t2 t3 s0.1 x188.1 (w64 (s0.2.2.1-1)) x188.2 m1_0 m1_1 m1_2 m1_3 m1_4 m1_5) fun x189 hx189=>?_
          conv=>arg 3; whnf
          exact Zd (ih _)
         ·conv=>arg 3; whnf
          refine Zc (Za t0 t1 t2 t3 s0.1 x188.1 (w64 (s0.2.2.1-1)) x188.2 m1_0 m1_1 m1_2 m1_3 m1_4 m1_5) (hrc t0 t1 t2 t3 s0.1 x188.1 (w64 (s0.2.2.1-1)) x188.2 m1_0 m1_1 m1_2 m1_3 m1_4 m1_5) fun x190 hx190=>?_
          conv=>arg 3; whnf
          exact Zd (ih _)
        ·conv=>arg 3; whnf
         refine Zg rfl ?_ ?_
         ·conv=>arg 3; whnf
          refine Zc (Za t0 t1 t2 t3 (w64 (x188.1+1)) s0.2.1 (w64 (s0.2.2.1-1)) x188.2 m1_0 m1_1 m1_2 m1_3 m1_4 m1_5) (hrc t0 t1 t2 t3 (w64 (x188.1+1)) s0.2.1 (w64 (s0.2.2.1-1)) x188.2 m1_0 m1_1 m1_2 m1_3 m1_4 m1_5) fun x191 hx191=>?_
          conv=>arg 3; whnf
          exact Zd (ih _)
         ·conv=>arg 3; whnf
          refine Zc (Za t0 t1 t2 t3 (w64 (x188.1+1)) s0.2.1 (w64 (s0.2.2.1-1)) x188.2 m1_0 m1_1 m1_2 m1_3 m1_4 m1_5) (hrc t0 t1 t2 t3 (w64 (x188.1+1)) s0.2.1 (w64 (s0.2.2.1-1)) x188.2 m1_0 m1_1 m1_2 m1_3 m1_4 m1_5) fun x192 hx192=>?_
          conv=>arg 3; whnf
          exact Zd (ih _)
       ·conv=>arg 3; whnf
        refine ZQ rfl ?_
        conv=>arg 3; whnf
        refine ZQ rfl ?_
        conv=>arg 3; whnf
        refine Zg rfl ?_ ?_
        ·conv=>arg 3; whnf
         refine Zg rfl ?_ ?_
         ·conv=>arg 3; whnf
          refine Zc (Za t0 t1 t2 t3 s0.1 x188.1 (w64 (s0.2.2.1-1)) x188.2 m1_0 m1_1 m1_2 m1_3 m1_4 m1_5) (hrc t0 t1 t2 t3 s0.1 x188.1 (w64 (s0.2.2.1-1)) x188.2 m1_0 m1_1 m1_2 m1_3 m1_4 m1_5) fun x193 hx193=>?_
          conv=>arg 3; whnf
          exact Zd (ih _)
         ·conv=>arg 3; whnf
          refine Zc (Za t0 t1 t2 t3 s0.1 x188.1 (w64 (s0.2.2.1-1)) x188.2 m1_0 m1_1 m1_2 m1_3 m1_4 m1_5) (hrc t0 t1 t2 t3 s0.1 x188.1 (w64 (s0.2.2.1-1)) x188.2 m1_0 m1_1 m1_2 m1_3 m1_4 m1_5) fun x194 hx194=>?_
          conv=>arg 3; whnf
          exact Zd (ih _)
        ·conv=>arg 3; whnf
         refine Zg rfl ?_ ?_
         ·conv=>arg 3; whnf
          refine Zc (Za t0 t1 t2 t3 (w64 (x188.1+1)) s0.2.1 (w64 (s0.2.2.1-1)) x188.2 m1_0 m1_1 m1_2 m1_3 m1_4 m1_5) (hrc t0 t1 t2 t3 (w64 (x188.1+1)) s0.2.1 (w64 (s0.2.2.1-1)) x188.2 m1_0 m1_1 m1_2 m1_3 m1_4 m1_5) fun x195 hx195=>?_
          conv=>arg 3; whnf
          exact Zd (ih _)
         ·conv=>arg 3; whnf
          refine Zc (Za t0 t1 t2 t3 (w64 (x188.1+1)) s0.2.1 (w64 (s0.2.2.1-1)) x188.2 m1_0 m1_1 m1_2 m1_3 m1_4 m1_5) (hrc t0 t1 t2 t3 (w64 (x188.1+1)) s0.2.1 (w64 (s0.2.2.1-1)) x188.2 m1_0 m1_1 m1_2 m1_3 m1_4 m1_5) fun x196 hx196=>?_
          conv=>arg 3; whnf
          exact Zd (ih _)
     ·conv=>arg 3; whnf
      refine Zg rfl ?_ ?_
      ·conv=>arg 3; whnf
       refine Zj rfl rfl fun x197 hx197=>?_
       conv=>arg 3; whnf
       refine Zf (Zl rfl hx197) ?_
       conv=>arg 3; whnf
       refine Zj rfl rfl fun x198 hx198=>?_
       conv=>arg 3; whnf
       refine Zf (Zl rfl hx198) ?_
       conv=>arg 3; whnf
       refine Zp _ ZN rfl fun x199 hx199=>?_
       conv=>arg 3; whnf
       refine Zg rfl ?_ ?_
       ·conv=>arg 3; whnf
        refine Zc _ Zm fun x200 hx200=>?_
        clear hx200
        rcases x200 with x200 | x200
        ·conv=>arg 3; whnf
         refine ZbC rfl ?_
         conv=>arg 3; whnf
         refine ZQ rfl ?_
         conv=>arg 3; whnf
         refine Zg rfl ?_ ?_
         ·conv=>arg 3; whnf
          refine Zg rfl ?_ ?_
          ·conv=>arg 3; whnf
           refine Zc (Za t0 t1 t2 t3 s0.1 x200.1 (w64 (s0.2.2.1-1)) x200.2 m1_0 m1_1 m1_2 m1_3 m1_4 m1_5) (hrc t0 t1 t2 t3 s0.1 x200.1 (w64 (s0.2.2.1-1)) x200.2 m1_0 m1_1 m1_2 m1_3 m1_4 m1_5) fun x201 hx201=>?_
           conv=>arg 3; whnf
           exact Zd (ih _)
          ·conv=>arg 3; whnf
           refine Zc (Za t0 t1 t2 t3 s0.1 x200.1 (w64 (s0.2.2.1-1)) x200.2 m1_0 m1_1 m1_2 m1_3 m1_4 m1_5) (hrc t0 t1 t2 t3 s0.1 x200.1 (w64 (s0.2.2.1-1)) x200.2 m1_0 m1_1 m1_2 m1_3 m1_4 m1_5) fun x202 hx202=>?_
           conv=>arg 3; whnf
           exact Zd (ih _)
         ·conv=>arg 3; whnf
          refine Zg rfl ?_ ?_
          ·conv=>arg 3; whnf
           refine Zc (Za t0 t1 t2 t3 (w64 (x200.1+1)) s0.2.1 (w64 (s0.2.2.1-1)) x200.2 m1_0 m1_1 m1_2 m1_3 m1_4 m1_5) (hrc t0 t1 t2 t3 (w64 (x200.1+1)) s0.2.1 (w64 (s0.2.2.1-1)) x200.2 m1_0 m1_1 m1_2 m1_3 m1_4 m1_5) fun x203 hx203=>?_
           conv=>arg 3; whnf
           exact Zd (ih _)
          ·conv=>arg 3; whnf
           refine Zc (Za t0 t1 t2 t3 (w64 (x200.1+1)) s0.2.1 (w64 (s0.2.2.1-1)) x200.2 m1_0 m1_1 m1_2 m1_3 m1_4 m1_5) (hrc t0 t1 t2 t3 (w64 (x200.1+1)) s0.2.1 (w64 (s0.2.2.1-1)) x200.2 m1_0 m1_1 m1_2 m1_3 m1_4 m1_5) fun x204 hx204=>?_
           conv=>arg 3; whnf
           exact Zd (ih _)
        ·conv=>arg 3; whnf
         refine ZQ rfl ?_
         conv=>arg 3; whnf
         refine ZQ rfl ?_
         conv=>arg 3; whnf
         refine Zg rfl ?_ ?_
         ·conv=>arg 3; whnf
          refine Zg rfl ?_ ?_
          ·conv=>arg 3; whnf
           refine Zc (Za t0 t1 t2 t3 s0.1 x200.1 (w64 (s0.2.2.1-1)) x200.2 m1_0 m1_1 m1_2 m1_3 m1_4 m1_5) (hrc t0 t1 t2 t3 s0.1 x200.1 (w64 (s0.2.2.1-1)) x200.2 m1_0 m1_1 m1_2 m1_3 m1_4 m1_5) fun x205 hx205=>?_
           conv=>arg 3; whnf
           exact Zd (ih _)
          ·conv=>arg 3; whnf
           refine Zc (Za t0 t1 t2 t3 s0.1 x200.1 (w64 (s0.2.2.1-1)) x200.2 m1_0 m1_1 m1_2 m1_3 m1_4 m1_5) (hrc t0 t1 t2 t3 s0.1 x200.1 (w64 (s0.2.2.1-1)) x200.2 m1_0 m1_1 m1_2 m1_3 m1_4 m1_5) fun x206 hx206=>?_
           conv=>arg 3; whnf
           exact Zd (ih _)
         ·conv=>arg 3; whnf
          refine Zg rfl ?_ ?_
          ·conv=>arg 3; whnf
           refine Zc (Za t0 t1 t2 t3 (w64 (x200.1+1)) s0.2.1 (w64 (s0.2.2.1-1)) x200.2 m1_0 m1_1 m1_2 m1_3 m1_4 m1_5) (hrc t0 t1 t2 t3 (w64 (x200.1+1)) s0.2.1 (w64 (s0.2.2.1-1)) x200.2 m1_0 m1_1 m1_2 m1_3 m1_4 m1_5) fun x207 hx207=>?_
           conv=>arg 3; whnf
           exact Zd (ih _)
          ·conv=>arg 3; whnf
           refine Zc (Za t0 t1 t2 t3 (w64 (x200.1+1)) s0.2.1 (w64 (s0.2.2.1-1)) x200.2 m1_0 m1_1 m1_2 m1_3 m1_4 m1_5) (hrc t0 t1 t2 t3 (w64 (x200.1+1)) s0.2.1 (w64 (s0.2.2.1-1)) x200.2 m1_0 m1_1 m1_2 m1_3 m1_4 m1_5) fun x208 hx208=>?_
           conv=>arg 3; whnf
           exact Zd (ih _)
       ·conv=>arg 3; whnf
        refine Zc _ ZE fun x209 hx209=>?_
        conv=>arg 3; whnf
        exact Zd (ih _)
      ·conv=>arg 3; whnf
       refine Zc _ Zm fun x210 hx210=>?_
       clear hx210
       rcases x210 with x210 | x210
       ·conv=>arg 3; whnf
        refine ZbC rfl ?_
        conv=>arg 3; whnf
        refine ZQ rfl ?_
        conv=>arg 3; whnf
        refine Zg rfl ?_ ?_
        ·conv=>arg 3; whnf
         refine Zg rfl ?_ ?_
         ·conv=>arg 3; whnf
          refine Zc (Za t0 t1 t2 t3 s0.1 x210.1 (w64 (s0.2.2.1-1)) x210.2 m1_0 m1_1 m1_2 m1_3 m1_4 m1_5) (hrc t0 t1 t2 t3 s0.1 x210.1 (w64 (s0.2.2.1-1)) x210.2 m1_0 m1_1 m1_2 m1_3 m1_4 m1_5) fun x211 hx211=>?_
          conv=>arg 3; whnf
          exact Zd (ih _)
         ·conv=>arg 3; whnf
          refine Zc (Za t0 t1 t2 t3 s0.1 x210.1 (w64 (s0.2.2.1-1)) x210.2 m1_0 m1_1 m1_2 m1_3 m1_4 m1_5) (hrc t0 t1 t2 t3 s0.1 x210.1 (w64 (s0.2.2.1-1)) x210.2 m1_0 m1_1 m1_2 m1_3 m1_4 m1_5) fun x212 hx212=>?_
          conv=>arg 3; whnf
          exact Zd (ih _)
        ·conv=>arg 3; whnf
         refine Zg rfl ?_ ?_
         ·conv=>arg 3; whnf
          refine Zc (Za t0 t1 t2 t3 (w64 (x210.1+1)) s0.2.1 (w64 (s0.2.2.1-1)) x210.2 m1_0 m1_1 m1_2 m1_3 m1_4 m1_5) (hrc t0 t1 t2 t3 (w64 (x210.1+1)) s0.2.1 (w64 (s0.2.2.1-1)) x210.2 m1_0 m1_1 m1_2 m1_3 m1_4 m1_5) fun x213 hx213=>?_
          conv=>arg 3; whnf
          exact Zd (ih _)
         ·conv=>arg 3; whnf
          refine Zc (Za t0 t1 t2 t3 (w64 (x210.1+1)) s0.2.1 (w64 (s0.2.2.1-1)) x210.2 m1_0 m1_1 m1_2 m1_3 m1_4 m1_5) (hrc t0 t1 t2 t3 (w64 (x210.1+1)) s0.2.1 (w64 (s0.2.2.1-1)) x210.2 m1_0 m1_1 m1_2 m1_3 m1_4 m1_5) fun x214 hx214=>?_
          conv=>arg 3; whnf
          exact Zd (ih _)
       ·conv=>arg 3; whnf
        refine ZQ rfl ?_
        conv=>arg 3; whnf
        refine ZQ rfl ?_
        conv=>arg 3; whnf
        refine Zg rfl ?_ ?_
        ·conv=>arg 3; whnf
         refine Zg rfl ?_ ?_
         ·conv=>arg 3; whnf
          refine Zc (Za t0 t1 t2 t3 s0.1 x210.1 (w64 (s0.2.2.1-1)) x210.2 m1_0 m1_1 m1_2 m1_3 m1_4 m1_5) (hrc t0 t1 t2 t3 s0.1 x210.1 (w64 (s0.2.2.1-1)) x210.2 m1_0 m1_1 m1_2 m1_3 m1_4 m1_5) fun x215 hx215=>?_
          conv=>arg 3; whnf
          exact Zd (ih _)
         ·conv=>arg 3; whnf
          refine Zc (Za t0 t1 t2 t3 s0.1 x210.1 (w64 (s0.2.2.1-1)) x210.2 m1_0 m1_1 m1_2 m1_3 m1_4 m1_5) (hrc t0 t1 t2 t3 s0.1 x210.1 (w64 (s0.2.2.1-1)) x210.2 m1_0 m1_1 m1_2 m1_3 m1_4 m1_5) fun x216 hx216=>?_
          conv=>arg 3; whnf
          exact Zd (ih _)
        ·conv=>arg 3; whnf
         refine Zg rfl ?_ ?_
         ·conv=>arg 3; whnf
          refine Zc (Za t0 t1 t2 t3 (w64 (x210.1+1)) s0.2.1 (w64 (s0.2.2.1-1)) x210.2 m1_0 m1_1 m1_2 m1_3 m1_4 m1_5) (hrc t0 t1 t2 t3 (w64 (x210.1+1)) s0.2.1 (w64 (s0.2.2.1-1)) x210.2 m1_0 m1_1 m1_2 m1_3 m1_4 m1_5) fun x217 hx217=>?_
          conv=>arg 3; whnf
          exact Zd (ih _)
         ·conv=>arg 3; whnf
          refine Zc (Za t0 t1 t2 t3 (w64 (x210.1+1)) s0.2.1 (w64 (s0.2.2.1-1)) x210.2 m1_0 m1_1 m1_2 m1_3 m1_4 m1_5) (hrc t0 t1 t2 t3 (w64 (x210.1+1)) s0.2.1 (w64 (s0.2.2.1-1)) x210.2 m1_0 m1_1 m1_2 m1_3 m1_4 m1_5) fun x218 hx218=>?_
          conv=>arg 3; whnf
          exact Zd (ih _)
  ·refine Znj ?_
   conv=>arg 3; whnf
   refine Zg rfl ?_ ?_
   ·conv=>arg 3; whnf
    refine Zc _ ZaP fun x121 hx121=>?_
    conv=>arg 3; whnf
    exact Zh rfl
   ·conv=>arg 3; whnf
    refine Zg rfl ?_ ?_
    ·conv=>arg 3; whnf
     refine Zc _ Zbb fun x122 hx122=>?_
     conv=>arg 3; whnf
     exact Zh rfl
    ·conv=>arg 3; whnf
     refine Zc _ Zct fun x123 hx123=>?_
     conv=>arg 3; whnf
     refine Zc _ ZaW fun x124 hx124=>?_
     conv=>arg 3; whnf
     refine Zg rfl ?_ ?_
     ·conv=>arg 3; whnf
      refine Zc _ ZaV fun x125 hx125=>?_
      conv=>arg 3; whnf
      refine Zg rfl ?_ ?_
      ·conv=>arg 3; whnf
       refine Zj rfl rfl fun x126 hx126=>?_
       conv=>arg 3; whnf
       refine Zf (Zl rfl hx126) ?_
       conv=>arg 3; whnf
       refine Zj rfl rfl fun x127 hx127=>?_
       conv=>arg 3; whnf
       refine Zf (Zl rfl hx127) ?_
       conv=>arg 3; whnf
       refine Zp _ ZN rfl fun x128 hx128=>?_
       conv=>arg 3; whnf
       refine Zg rfl ?_ ?_
       ·conv=>arg 3; whnf
        refine Zc _ Zm fun x129 hx129=>?_
        clear hx129
        rcases x129 with x129 | x129
        ·conv=>arg 3; whnf
         refine ZbC rfl ?_
         conv=>arg 3; whnf
         refine ZQ rfl ?_
         conv=>arg 3; whnf
         refine Zg rfl ?_ ?_
         ·conv=>arg 3; whnf
          refine Zg rfl ?_ ?_
          ·conv=>arg 3; whnf
           refine Zc (Za t0 t1 t2 t3 s0.1 x129.1 (w64 (s0.2.2.1-1)) x129.2 m1_0 m1_1 m1_2 m1_3 m1_4 m1_5) (hrc t0 t1 t2 t3 s0.1 x129.1 (w64 (s0.2.2.1-1)) x129.2 m1_0 m1_1 m1_2 m1_3 m1_4 m1_5) fun x130 hx130=>?_
           conv=>arg 3; whnf
           exact Zd (ih _)
          ·conv=>arg 3; whnf
           refine Zc (Za t0 t1 t2 t3 s0.1 x129.1 (w64 (s0.2.2.1-1)) x129.2 m1_0 m1_1 m1_2 m1_3 m1_4 m1_5) (hrc t0 t1 t2 t3 s0.1 x129.1 (w64 (s0.2.2.1-1)) x129.2 m1_0 m1_1 m1_2 m1_3 m1_4 m1_5) fun x131 hx131=>?_
           conv=>arg 3; whnf
           exact Zd (ih _)
         ·conv=>arg 3; whnf
          refine Zg rfl ?_ ?_
          ·conv=>arg 3; whnf
           refine Zc (Za t0 t1 t2 t3 (w64 (x129.1+1)) s0.2.1 (w64 (s0.2.2.1-1)) x129.2 m1_0 m1_1 m1_2 m1_3 m1_4 m1_5) (hrc t0 t1 t2 t3 (w64 (x129.1+1)) s0.2.1 (w64 (s0.2.2.1-1)) x129.2 m1_0 m1_1 m1_2 m1_3 m1_4 m1_5) fun x132 hx132=>?_
           conv=>arg 3; whnf
           exact Zd (ih _)
          ·conv=>arg 3; whnf
           refine Zc (Za t0 t1 t2 t3 (w64 (x129.1+1)) s0.2.1 (w64 (s0.2.2.1-1)) x129.2 m1_0 m1_1 m1_2 m1_3 m1_4 m1_5) (hrc t0 t1 t2 t3 (w64 (x129.1+1)) s0.2.1 (w64 (s0.2.2.1-1)) x129.2 m1_0 m1_1 m1_2 m1_3 m1_4 m1_5) fun x133 hx133=>?_
           conv=>arg 3; whnf
           exact Zd (ih _)
        ·conv=>arg 3; whnf
         refine ZQ rfl ?_
         conv=>arg 3; whnf
         refine ZQ rfl ?_
         conv=>arg 3; whnf
         refine Zg rfl ?_ ?_
         ·conv=>arg 3; whnf
          refine Zg rfl ?_ ?_
          ·conv=>arg 3; whnf
           refine Zc (Za t0 t1 t2 t3 s0.1 x129.1 (w64 (s0.2.2.1-1)) x129.2 m1_0 m1_1 m1_2 m1_3 m1_4 m1_5) (hrc t0 t1 t2 t3 s0.1 x129.1 (w64 (s0.2.2.1-1)) x129.2 m1_0 m1_1 m1_2 m1_3 m1_4 m1_5) fun x134 hx134=>?_
           conv=>arg 3; whnf
           exact Zd (ih _)
          ·conv=>arg 3; whnf
           refine Zc (Za t0 t1 t2 t3 s0.1 x129.1 (w64 (s0.2.2.1-1)) x129.2 m1_0 m1_1 m1_2 m1_3 m1_4 m1_5) (hrc t0 t1 t2 t3 s0.1 x129.1 (w64 (s0.2.2.1-1)) x129.2 m1_0 m1_1 m1_2 m1_3 m1_4 m1_5) fun x135 hx135=>?_
           conv=>arg 3; whnf
           exact Zd (ih _)
         ·conv=>arg 3; whnf
          refine Zg rfl ?_ ?_
          ·conv=>arg 3; whnf
           refine Zc (Za t0 t1 t2 t3 (w64 (x129.1+1)) s0.2.1 (w64 (s0.2.2.1-1)) x129.2 m1_0 m1_1 m1_2 m1_3 m1_4 m1_5) (hrc t0 t1 t2 t3 (w64 (x129.1+1)) s0.2.1 (w64 (s0.2.2.1-1)) x129.2 m1_0 m1_1 m1_2 m1_3 m1_4 m1_5) fun x136 hx136=>?_
           conv=>arg 3; whnf
           exact Zd (ih _)
          ·conv=>arg 3; whnf
           refine Zc (Za t0 t1 t2 t3 (w64 (x129.1+1)) s0.2.1 (w64 (s0.2.2.1-1)) x129.2 m1_0 m1_1 m1_2 m1_3 m1_4 m1_5) (hrc t0 t1 t2 t3 (w64 (x129.1+1)) s0.2.1 (w64 (s0.2.2.1-1)) x129.2 m1_0 m1_1 m1_2 m1_3 m1_4 m1_5) fun x137 hx137=>?_
           conv=>arg 3; whnf
           exact Zd (ih _)
       ·conv=>arg 3; whnf
        refine Zc _ ZE fun x138 hx138=>?_
        conv=>arg 3; whnf
        exact Zd (ih _)
      ·conv=>arg 3; whnf
       refine Zc _ Zm fun x139 hx139=>?_
       clear hx139
       rcases x139 with x139 | x139
       ·conv=>arg 3; whnf
        refine ZbC rfl ?_
        conv=>arg 3; whnf
        refine ZQ rfl ?_
        conv=>arg 3; whnf
        refine Zg rfl ?_ ?_
        ·conv=>arg 3; whnf
         refine Zg rfl ?_ ?_
         ·conv=>arg 3; whnf
          refine Zc (Za t0 t1 t2 t3 s0.1 x139.1 (w64 (s0.2.2.1-1)) x139.2 m1_0 m1_1 m1_2 m1_3 m1_4 m1_5) (hrc t0 t1 t2 t3 s0.1 x139.1 (w64 (s0.2.2.1-1)) x139.2 m1_0 m1_1 m1_2 m1_3 m1_4 m1_5) fun x140 hx140=>?_
          conv=>arg 3; whnf
          exact Zd (ih _)
         ·conv=>arg 3; whnf
          refine Zc (Za t0 t1 t2 t3 s0.1 x139.1 (w64 (s0.2.2.1-1)) x139.2 m1_0 m1_1 m1_2 m1_3 m1_4 m1_5) (hrc t0 t1 t2 t3 s0.1 x139.1 (w64 (s0.2.2.1-1)) x139.2 m1_0 m1_1 m1_2 m1_3 m1_4 m1_5) fun x141 hx141=>?_
          conv=>arg 3; whnf
          exact Zd (ih _)
        ·conv=>arg 3; whnf
         refine Zg rfl ?_ ?_
         ·conv=>arg 3; whnf
          refine Zc (Za t0 t1 t2 t3 (w64 (x139.1+1)) s0.2.1 (w64 (s0.2.2.1-1)) x139.2 m1_0 m1_1 m1_2 m1_3 m1_4 m1_5) (hrc t0 t1 t2 t3 (w64 (x139.1+1)) s0.2.1 (w64 (s0.2.2.1-1)) x139.2 m1_0 m1_1 m1_2 m1_3 m1_4 m1_5) fun x142 hx142=>?_
          conv=>arg 3; whnf
          exact Zd (ih _)
         ·conv=>arg 3; whnf
          refine Zc (Za t0 t1 t2 t3 (w64 (x139.1+1)) s0.2.1 (w64 (s0.2.2.1-1)) x139.2 m1_0 m1_1 m1_2 m1_3 m1_4 m1_5) (hrc t0 t1 t2 t3 (w64 (x139.1+1)) s0.2.1 (w64 (s0.2.2.1-1)) x139.2 m1_0 m1_1 m1_2 m1_3 m1_4 m1_5) fun x143 hx143=>?_
          conv=>arg 3; whnf
          exact Zd (ih _)
       ·conv=>arg 3; whnf
        refine ZQ rfl ?_
        conv=>arg 3; whnf
        refine ZQ rfl ?_
        conv=>arg 3; whnf
        refine Zg rfl ?_ ?_
        ·conv=>arg 3; whnf
         refine Zg rfl ?_ ?_
         ·conv=>arg 3; whnf
          refine Zc (Za t0 t1 t2 t3 s0.1 x139.1 (w64 (s0.2.2.1-1)) x139.2 m1_0 m1_1 m1_2 m1_3 m1_4 m1_5) (hrc t0 t1 t2 t3 s0.1 x139.1 (w64 (s0.2.2.1-1)) x139.2 m1_0 m1_1 m1_2 m1_3 m1_4 m1_5) fun x144 hx144=>?_
          conv=>arg 3; whnf
          exact Zd (ih _)
         ·conv=>arg 3; whnf
          refine Zc (Za t0 t1 t2 t3 s0.1 x139.1 (w64 (s0.2.2.1-1)) x139.2 m1_0 m1_1 m1_2 m1_3 m1_4 m1_5) (hrc t0 t1 t2 t3 s0.1 x139.1 (w64 (s0.2.2.1-1)) x139.2 m1_0 m1_1 m1_2 m1_3 m1_4 m1_5) fun x145 hx145=>?_
          conv=>arg 3; whnf
          exact Zd (ih _)
        ·conv=>arg 3; whnf
         refine Zg rfl ?_ ?_
         ·conv=>arg 3; whnf
          refine Zc (Za t0 t1 t2 t3 (w64 (x139.1+1)) s0.2.1 (w64 (s0.2.2.1-1)) x139.2 m1_0 m1_1 m1_2 m1_3 m1_4 m1_5) (hrc t0 t1 t2 t3 (w64 (x139.1+1)) s0.2.1 (w64 (s0.2.2.1-1)) x139.2 m1_0 m1_1 m1_2 m1_3 m1_4 m1_5) fun x146 hx146=>?_
          conv=>arg 3; whnf
          exact Zd (ih _)
         ·conv=>arg 3; whnf
          refine Zc (Za t0 t1 t2 t3 (w64 (x139.1+1)) s0.2.1 (w64 (s0.2.2.1-1)) x139.2 m1_0 m1_1 m1_2 m1_3 m1_4 m1_5) (hrc t0 t1 t2 t3 (w64 (x139.1+1)) s0.2.1 (w64 (s0.2.2.1-1)) x139.2 m1_0 m1_1 m1_2 m1_3 m1_4 m1_5) fun x147 hx147=>?_
          conv=>arg 3; whnf
          exact Zd (ih _)
     ·conv=>arg 3; whnf
      refine Zg rfl ?_ ?_
      ·conv=>arg 3; whnf
       refine Zj rfl rfl fun x148 hx148=>?_
       conv=>arg 3; whnf
       refine Zf (Zl rfl hx148) ?_
       conv=>arg 3; whnf
       refine Zj rfl rfl fun x149 hx149=>?_
       conv=>arg 3; whnf
       refine Zf (Zl rfl hx149) ?_
       conv=>arg 3; whnf
       refine Zp _ ZN rfl fun x150 hx150=>?_
       conv=>arg 3; whnf
       refine Zg rfl ?_ ?_
       ·conv=>arg 3; whnf
        refine Zc _ Zm fun x151 hx151=>?_
        clear hx151
        rcases x151 with x151 | x151
        ·conv=>arg 3; whnf
         refine ZbC rfl ?_
         conv=>arg 3; whnf
         refine ZQ rfl ?_
         conv=>arg 3; whnf
         refine Zg rfl ?_ ?_
         ·conv=>arg 3; whnf
          refine Zg rfl ?_ ?_
          ·conv=>arg 3; whnf
           refine Zc (Za t0 t1 t2 t3 s0.1 x151.1 (w64 (s0.2.2.1-1)) x151.2 m1_0 m1_1 m1_2 m1_3 m1_4 m1_5) (hrc t0 t1 t2 t3 s0.1 x151.1 (w64 (s0.2.2.1-1)) x151.2 m1_0 m1_1 m1_2 m1_3 m1_4 m1_5) fun x152 hx152=>?_
           conv=>arg 3; whnf
           exact Zd (ih _)
          ·conv=>arg 3; whnf
           refine Zc (Za t0 t1 t2 t3 s0.1 x151.1 (w64 (s0.2.2.1-1)) x151.2 m1_0 m1_1 m1_2 m1_3 m1_4 m1_5) (hrc t0 t1 t2 t3 s0.1 x151.1 (w64 (s0.2.2.1-1)) x151.2 m1_0 m1_1 m1_2 m1_3 m1_4 m1_5) fun x153 hx153=>?_
           conv=>arg 3; whnf
           exact Zd (ih _)
         ·conv=>arg 3; whnf
          refine Zg rfl ?_ ?_
          ·conv=>arg 3; whnf
           refine Zc (Za t0 t1 t2 t3 (w64 (x151.1+1)) s0.2.1 (w64 (s0.2.2.1-1)) x151.2 m1_0 m1_1 m1_2 m1_3 m1_4 m1_5) (hrc t0 t1 t2 t3 (w64 (x151.1+1)) s0.2.1 (w64 (s0.2.2.1-1)) x151.2 m1_0 m1_1 m1_2 m1_3 m1_4 m1_5) fun x154 hx154=>?_
           conv=>arg 3; whnf
           exact Zd (ih _)
          ·conv=>arg 3; whnf
           refine Zc (Za t0 t1 t2 t3 (w64 (x151.1+1)) s0.2.1 (w64 (s0.2.2.1-1)) x151.2 m1_0 m1_1 m1_2 m1_3 m1_4 m1_5) (hrc t0 t1 t2 t3 (w64 (x151.1+1)) s0.2.1 (w64 (s0.2.2.1-1)) x151.2 m1_0 m1_1 m1_2 m1_3 m1_4 m1_5) fun x155 hx155=>?_
           conv=>arg 3; whnf
           exact Zd (ih _)
        ·conv=>arg 3; whnf
         refine ZQ rfl ?_
         conv=>arg 3; whnf
         refine ZQ rfl ?_
         conv=>arg 3; whnf
         refine Zg rfl ?_ ?_
         ·conv=>arg 3; whnf
          refine Zg rfl ?_ ?_
          ·conv=>arg 3; whnf
           refine Zc (Za t0 t1 t2 t3 s0.1 x151.1 (w64 (s0.2.2.1-1)) x151.2 m1_0 m1_1 m1_2 m1_3 m1_4 m1_5) (hrc t0 t1 t2 t3 s0.1 x151.1 (w64 (s0.2.2.1-1)) x151.2 m1_0 m1_1 m1_2 m1_3 m1_4 m1_5) fun x156 hx156=>?_
           conv=>arg 3; whnf
           exact Zd (ih _)
          ·conv=>arg 3; whnf
           refine Zc (Za t0 t1 t2 t3 s0.1 x151.1 (w64 (s0.2.2.1-1)) x151.2 m1_0 m1_1 m1_2 m1_3 m1_4 m1_5) (hrc t0 t1 t2 t3 s0.1 x151.1 (w64 (s0.2.2.1-1)) x151.2 m1_0 m1_1 m1_2 m1_3 m1_4 m1_5) fun x157 hx157=>?_
           conv=>arg 3; whnf
           exact Zd (ih _)
         ·conv=>arg 3; whnf
          refine Zg rfl ?_ ?_
          ·conv=>arg 3; whnf
           refine Zc (Za t0 t1 t2 t3 (w64 (x151.1+1)) s0.2.1 (w64 (s0.2.2.1-1)) x151.2 m1_0 m1_1 m1_2 m1_3 m1_4 m1_5) (hrc t0 t1 t2 t3 (w64 (x151.1+1)) s0.2.1 (w64 (s0.2.2.1-1)) x151.2 m1_0 m1_1 m1_2 m1_3 m1_4 m1_5) fun x158 hx158=>?_
           conv=>arg 3; whnf
           exact Zd (ih _)
          ·conv=>arg 3; whnf
           refine Zc (Za t0 t1 t2 t3 (w64 (x151.1+1)) s0.2.1 (w64 (s0.2.2.1-1)) x151.2 m1_0 m1_1 m1_2 m1_3 m1_4 m1_5) (hrc t0 t1 t2 t3 (w64 (x151.1+1)) s0.2.1 (w64 (s0.2.2.1-1)) x151.2 m1_0 m1_1 m1_2 m1_3 m1_4 m1_5) fun x159 hx159=>?_
           conv=>arg 3; whnf
           exact Zd (ih _)
       ·conv=>arg 3; whnf
        refine Zc _ ZE fun x160 hx160=>?_
        conv=>arg 3; whnf
        exact Zd (ih _)
      ·conv=>arg 3; whnf
       refine Zc _ Zm fun x161 hx161=>?_
       clear hx161
       rcases x161 with x161 | x161
       ·conv=>arg 3; whnf
        refine ZbC rfl ?_
        conv=>arg 3; whnf
        refine ZQ rfl ?_
        conv=>arg 3; whnf
        refine Zg rfl ?_ ?_
        ·conv=>arg 3; whnf
         refine Zg rfl ?_ ?_
         ·conv=>arg 3; whnf
          refine Zc (Za t0 t1 t2 t3 s0.1 x161.1 (w64 (s0.2.2.1-1)) x161.2 m1_0 m1_1 m1_2 m1_3 m1_4 m1_5) (hrc t0 t1 t2 t3 s0.1 x161.1 (w64 (s0.2.2.1-1)) x161.2 m1_0 m1_1 m1_2 m1_3 m1_4 m1_5) fun x162 hx162=>?_
          conv=>arg 3; whnf
          exact Zd (ih _)
         ·conv=>arg 3; whnf
          refine Zc (Za t0 t1 t2 t3 s0.1 x161.1 (w64 (s0.2.2.1-1)) x161.2 m1_0 m1_1 m1_2 m1_3 m1_4 m1_5) (hrc t0 t1 t2 t3 s0.1 x161.1 (w64 (s0.2.2.1-1)) x161.2 m1_0 m1_1 m1_2 m1_3 m1_4 m1_5) fun x163 hx163=>?_
          conv=>arg 3; whnf
          exact Zd (ih _)
        ·conv=>arg 3; whnf
         refine Zg rfl ?_ ?_
         ·conv=>arg 3; whnf
          refine Zc (Za t0 t1 t2 t3 (w64 (x161.1+1)) s0.2.1 (w64 (s0.2.2.1-1)) x161.2 m1_0 m1_1 m1_2 m1_3 m1_4 m1_5) (hrc t0 t1 t2 t3 (w64 (x161.1+1)) s0.2.1 (w64 (s0.2.2.1-1)) x161.2 m1_0 m1_1 m1_2 m1_3 m1_4 m1_5) fun x164 hx164=>?_
          conv=>arg 3; whnf
          exact Zd (ih _)
         ·conv=>arg 3; whnf
          refine Zc (Za t0 t1 t2 t3 (w64 (x161.1+1)) s0.2.1 (w64 (s0.2.2.1-1)) x161.2 m1_0 m1_1 m1_2 m1_3 m1_4 m1_5) (hrc t0 t1 t2 t3 (w64 (x161.1+1)) s0.2.1 (w64 (s0.2.2.1-1)) x161.2 m1_0 m1_1 m1_2 m1_3 m1_4 m1_5) fun x165 hx165=>?_
          conv=>arg 3; whnf
          exact Zd (ih _)
       ·conv=>arg 3; whnf
        refine ZQ rfl ?_
        conv=>arg 3; whnf
        refine ZQ rfl ?_
        conv=>arg 3; whnf
        refine Zg rfl ?_ ?_
        ·conv=>arg 3; whnf
         refine Zg rfl ?_ ?_
         ·conv=>arg 3; whnf
          refine Zc (Za t0 t1 t2 t3 s0.1 x161.1 (w64 (s0.2.2.1-1)) x161.2 m1_0 m1_1 m1_2 m1_3 m1_4 m1_5) (hrc t0 t1 t2 t3 s0.1 x161.1 (w64 (s0.2.2.1-1)) x161.2 m1_0 m1_1 m1_2 m1_3 m1_4 m1_5) fun x166 hx166=>?_
          conv=>arg 3; whnf
          exact Zd (ih _)
         ·conv=>arg 3; whnf
          refine Zc (Za t0 t1 t2 t3 s0.1 x161.1 (w64 (s0.2.2.1-1)) x161.2 m1_0 m1_1 m1_2 m1_3 m1_4 m1_5) (hrc t0 t1 t2 t3 s0.1 x161.1 (w64 (s0.2.2.1-1)) x161.2 m1_0 m1_1 m1_2 m1_3 m1_4 m1_5) fun x167 hx167=>?_
          conv=>arg 3; whnf
          exact Zd (ih _)
        ·conv=>arg 3; whnf
         refine Zg rfl ?_ ?_
         ·conv=>arg 3; whnf
          refine Zc (Za t0 t1 t2 t3 (w64 (x161.1+1)) s0.2.1 (w64 (s0.2.2.1-1)) x161.2 m1_0 m1_1 m1_2 m1_3 m1_4 m1_5) (hrc t0 t1 t2 t3 (w64 (x161.1+1)) s0.2.1 (w64 (s0.2.2.1-1)) x161.2 m1_0 m1_1 m1_2 m1_3 m1_4 m1_5) fun x168 hx168=>?_
          conv=>arg 3; whnf
          exact Zd (ih _)
         ·conv=>arg 3; whnf
          refine Zc (Za t0 t1 t2 t3 (w64 (x161.1+1)) s0.2.1 (w64 (s0.2.2.1-1)) x161.2 m1_0 m1_1 m1_2 m1_3 m1_4 m1_5) (hrc t0 t1 t2 t3 (w64 (x161.1+1)) s0.2.1 (w64 (s0.2.2.1-1)) x161.2 m1_0 m1_1 m1_2 m1_3 m1_4 m1_5) fun x169 hx169=>?_
          conv=>arg 3; whnf
          exact Zd (ih _)
 ·refine Znj ?_
  rcases hb:s0.2.2.2.2.1 with _ | _
  ·refine ZnA ?_
   conv=>arg 3; whnf
   refine Zg rfl ?_ ?_
   ·conv=>arg 3; whnf
    refine Zc _ ZaP fun x73 hx73=>?_
    conv=>arg 3; whnf
    exact Zh rfl
   ·conv=>arg 3; whnf
    refine Zg rfl ?_ ?_
    ·conv=>arg 3; whnf
     refine Zc _ Zbb fun x74 hx74=>?_
     conv=>arg 3; whnf
     exact Zh rfl
    ·conv=>arg 3; whnf
     refine Zc _ ZaW fun x75 hx75=>?_
     conv=>arg 3; whnf
     refine Zg rfl ?_ ?_
     ·conv=>arg 3; whnf
      refine Zc _ ZaV fun x76 hx76=>?_
      conv=>arg 3; whnf
      refine Zg rfl ?_ ?_
      ·conv=>arg 3; whnf
       refine Zj rfl rfl fun x77 hx77=>?_
       conv=>arg 3; whnf
       refine Zf (Zl rfl hx77) ?_
       conv=>arg 3; whnf
       refine Zj rfl rfl fun x78 hx78=>?_
       conv=>arg 3; whnf
       refine Zf (Zl rfl hx78) ?_
       conv=>arg 3; whnf
       refine Zp _ ZN rfl fun x79 hx79=>?_
       conv=>arg 3; whnf
       refine Zg rfl ?_ ?_
       ·conv=>arg 3; whnf
        refine Zc _ Zm fun x80 hx80=>?_
        clear hx80
        rcases x80 with x80 | x80
        ·conv=>arg 3; whnf
         refine ZbC rfl ?_
         conv=>arg 3; whnf
         refine ZQ rfl ?_
         conv=>arg 3; whnf
         refine Zg rfl ?_ ?_
         ·conv=>arg 3; whnf
          refine Zg rfl ?_ ?_
          ·conv=>arg 3; whnf
           refine Zc (Za t0 t1 t2 t3 s0.1 x80.1 s0.2.2.1 x80.2 m1_0 m1_1 m1_2 m1_3 m1_4 m1_5) (hrc t0 t1 t2 t3 s0.1 x80.1 s0.2.2.1 x80.2 m1_0 m1_1 m1_2 m1_3 m1_4 m1_5) fun x81 hx81=>?_
           conv=>arg 3; whnf
           exact Zd (ih _)
          ·conv=>arg 3; whnf
           refine Zc (Za t0 t1 t2 t3 s0.1 x80.1 s0.2.2.1 x80.2 m1_0 m1_1 m1_2 m1_3 m1_4 m1_5) (hrc t0 t1 t2 t3 s0.1 x80.1 s0.2.2.1 x80.2 m1_0 m1_1 m1_2 m1_3 m1_4 m1_5) fun x82 hx82=>?_
           conv=>arg 3; whnf
           exact Zd (ih _)
         ·conv=>arg 3; whnf
          refine Zg rfl ?_ ?_
          ·conv=>arg 3; whnf
           refine Zc (Za t0 t1 t2 t3 (w64 (x80.1+1)) s0.2.1 s0.2.2.1 x80.2 m1_0 m1_1 m1_2 m1_3 m1_4 m1_5) (hrc t0 t1 t2 t3 (w64 (x80.1+1)) s0.2.1 s0.2.2.1 x80.2 m1_0 m1_1 m1_2 m1_3 m1_4 m1_5) fun x83 hx83=>?_
           conv=>arg 3; whnf
           exact Zd (ih _)
          ·conv=>arg 3; whnf
           refine Zc (Za t0 t1 t2 t3 (w64 (x80.1+1)) s0.2.1 s0.2.2.1 x80.2 m1_0 m1_1 m1_2 m1_3 m1_4 m1_5) (hrc t0 t1 t2 t3 (w64 (x80.1+1)) s0.2.1 s0.2.2.1 x80.2 m1_0 m1_1 m1_2 m1_3 m1_4 m1_5) fun x84 hx84=>?_
           conv=>arg 3; whnf
           exact Zd (ih _)
        ·conv=>arg 3; whnf
         refine ZQ rfl ?_
         conv=>arg 3; whnf
         refine ZQ rfl ?_
         conv=>arg 3; whnf
         refine Zg rfl ?_ ?_
         ·conv=>arg 3; whnf
          refine Zg rfl ?_ ?_
          ·conv=>arg 3; whnf
           refine Zc (Za t0 t1 t2 t3 s0.1 x80.1 s0.2.2.1 x80.2 m1_0 m1_1 m1_2 m1_3 m1_4 m1_5) (hrc t0 t1 t2 t3 s0.1 x80.1 s0.2.2.1 x80.2 m1_0 m1_1 m1_2 m1_3 m1_4 m1_5) fun x85 hx85=>?_
           conv=>arg 3; whnf
           exact Zd (ih _)
          ·conv=>arg 3; whnf
           refine Zc (Za t0 t1 t2 t3 s0.1 x80.1 s0.2.2.1 x80.2 m1_0 m1_1 m1_2 m1_3 m1_4 m1_5) (hrc t0 t1 t2 t3 s0.1 x80.1 s0.2.2.1 x80.2 m1_0 m1_1 m1_2 m1_3 m1_4 m1_5) fun x86 hx86=>?_
           conv=>arg 3; whnf
           exact Zd (ih _)
         ·conv=>arg 3; whnf
          refine Zg rfl ?_ ?_
          ·conv=>arg 3; whnf
           refine Zc (Za t0 t1 t2 t3 (w64 (x80.1+1)) s0.2.1 s0.2.2.1 x80.2 m1_0 m1_1 m1_2 m1_3 m1_4 m1_5) (hrc t0 t1 t2 t3 (w64 (x80.1+1)) s0.2.1 s0.2.2.1 x80.2 m1_0 m1_1 m1_2 m1_3 m1_4 m1_5) fun x87 hx87=>?_
           conv=>arg 3; whnf
           exact Zd (ih _)
          ·conv=>arg 3; whnf
           refine Zc (Za t0 t1 t2 t3 (w64 (x80.1+1)) s0.2.1 s0.2.2.1 x80.2 m1_0 m1_1 m1_2 m1_3 m1_4 m1_5) (hrc t0 t1 t2 t3 (w64 (x80.1+1)) s0.2.1 s0.2.2.1 x80.2 m1_0 m1_1 m1_2 m1_3 m1_4 m1_5) fun x88 hx88=>?_
           conv=>arg 3; whnf
           exact Zd (ih _)
       ·conv=>arg 3; whnf
        refine Zc _ ZE fun x89 hx89=>?_
        conv=>arg 3; whnf
        exact Zd (ih _)
      ·conv=>arg 3; whnf
       refine Zc _ Zm fun x90 hx90=>?_
       clear hx90
       rcases x90 with x90 | x90
       ·conv=>arg 3; whnf
        refine ZbC rfl ?_
        conv=>arg 3; whnf
        refine ZQ rfl ?_
        conv=>arg 3; whnf
        refine Zg rfl ?_ ?_
        ·conv=>arg 3; whnf
         refine Zg rfl ?_ ?_
         ·conv=>arg 3; whnf
          refine Zc (Za t0 t1 t2 t3 s0.1 x90.1 s0.2.2.1 x90.2 m1_0 m1_1 m1_2 m1_3 m1_4 m1_5) (hrc t0 t1 t2 t3 s0.1 x90.1 s0.2.2.1 x90.2 m1_0 m1_1 m1_2 m1_3 m1_4 m1_5) fun x91 hx91=>?_
          conv=>arg 3; whnf
          exact Zd (ih _)
         ·conv=>arg 3; whnf
          refine Zc (Za t0 t1 t2 t3 s0.1 x90.1 s0.2.2.1 x90.2 m1_0 m1_1 m1_2 m1_3 m1_4 m1_5) (hrc t0 t1 t2 t3 s0.1 x90.1 s0.2.2.1 x90.2 m1_0 m1_1 m1_2 m1_3 m1_4 m1_5) fun x92 hx92=>?_
          conv=>arg 3; whnf
          exact Zd (ih _)
        ·conv=>arg 3; whnf
         refine Zg rfl ?_ ?_
         ·conv=>arg 3; whnf
          refine Zc (Za t0 t1 t2 t3 (w64 (x90.1+1)) s0.2.1 s0.2.2.1 x90.2 m1_0 m1_1 m1_2 m1_3 m1_4 m1_5) (hrc t0 t1 t2 t3 (w64 (x90.1+1)) s0.2.1 s0.2.2.1 x90.2 m1_0 m1_1 m1_2 m1_3 m1_4 m1_5) fun x93 hx93=>?_
          conv=>arg 3; whnf
          exact Zd (ih _)
         ·conv=>arg 3; whnf
          refine Zc (Za t0 t1 t2 t3 (w64 (x90.1+1)) s0.2.1 s0.2.2.1 x90.2 m1_0 m1_1 m1_2 m1_3 m1_4 m1_5) (hrc t0 t1 t2 t3 (w64 (x90.1+1)) s0.2.1 s0.2.2.1 x90.2 m1_0 m1_1 m1_2 m1_3 m1_4 m1_5) fun x94 hx94=>?_
          conv=>arg 3; whnf
          exact Zd (ih _)
       ·conv=>arg 3; whnf
        refine ZQ rfl ?_
        conv=>arg 3; whnf
        refine ZQ rfl ?_
        conv=>arg 3; whnf
        refine Zg rfl ?_ ?_
        ·conv=>arg 3; whnf
         refine Zg rfl ?_ ?_
         ·conv=>arg 3; whnf
          refine Zc (Za t0 t1 t2 t3 s0.1 x90.1 s0.2.2.1 x90.2 m1_0 m1_1 m1_2 m1_3 m1_4 m1_5) (hrc t0 t1 t2 t3 s0.1 x90.1 s0.2.2.1 x90.2 m1_0 m1_1 m1_2 m1_3 m1_4 m1_5) fun x95 hx95=>?_
          conv=>arg 3; whnf
          exact Zd (ih _)
         ·conv=>arg 3; whnf
          refine Zc (Za t0 t1 t2 t3 s0.1 x90.1 s0.2.2.1 x90.2 m1_0 m1_1 m1_2 m1_3 m1_4 m1_5) (hrc t0 t1 t2 t3 s0.1 x90.1 s0.2.2.1 x90.2 m1_0 m1_1 m1_2 m1_3 m1_4 m1_5) fun x96 hx96=>?_
          conv=>arg 3; whnf
          exact Zd (ih _)
        ·conv=>arg 3; whnf
         refine Zg rfl ?_ ?_
         ·conv=>arg 3; whnf
          refine Zc (Za t0 t1 t2 t3 (w64 (x90.1+1)) s0.2.1 s0.2.2.1 x90.2 m1_0 m1_1 m1_2 m1_3 m1_4 m1_5) (hrc t0 t1 t2 t3 (w64 (x90.1+1)) s0.2.1 s0.2.2.1 x90.2 m1_0 m1_1 m1_2 m1_3 m1_4 m1_5) fun x97 hx97=>?_
          conv=>arg 3; whnf
          exact Zd (ih _)
         ·conv=>arg 3; whnf
          refine Zc (Za t0 t1 t2 t3 (w64 (x90.1+1)) s0.2.1 s0.2.2.1 x90.2 m1_0 m1_1 m1_2 m1_3 m1_4 m1_5) (hrc t0 t1 t2 t3 (w64 (x90.1+1)) s0.2.1 s0.2.2.1 x90.2 m1_0 m1_1 m1_2 m1_3 m1_4 m1_5) fun x98 hx98=>?_
          conv=>arg 3; whnf
          exact Zd (ih _)
     ·conv=>arg 3; whnf
      refine Zg rfl ?_ ?_
      ·conv=>arg 3; whnf
       refine Zj rfl rfl fun x99 hx99=>?_
       conv=>arg 3; whnf
       refine Zf (Zl rfl hx99) ?_
       conv=>arg 3; whnf
       refine Zj rfl rfl fun x100 hx100=>?_
       conv=>arg 3; whnf
       refine Zf (Zl rfl hx100) ?_
       conv=>arg 3; whnf
       refine Zp _ ZN rfl fun x101 hx101=>?_
       conv=>arg 3; whnf
       refine Zg rfl ?_ ?_
       ·conv=>arg 3; whnf
        refine Zc _ Zm fun x102 hx102=>?_
        clear hx102
        rcases x102 with x102 | x102
        ·conv=>arg 3; whnf
         refine ZbC rfl ?_
         conv=>arg 3; whnf
         refine ZQ rfl ?_
         conv=>arg 3; whnf
         refine Zg rfl ?_ ?_
         ·conv=>arg 3; whnf
          refine Zg rfl ?_ ?_
          ·conv=>arg 3; whnf
           refine Zc (Za t0 t1 t2 t3 s0.1 x102.1 s0.2.2.1 x102.2 m1_0 m1_1 m1_2 m1_3 m1_4 m1_5) (hrc t0 t1 t2 t3 s0.1 x102.1 s0.2.2.1 x102.2 m1_0 m1_1 m1_2 m1_3 m1_4 m1_5) fun x103 hx103=>?_
           conv=>arg 3; whnf
           exact Zd (ih _)
          ·conv=>arg 3; whnf
           refine Zc (Za t0 t1 t2 t3 s0.1 x102.1 s0.2.2.1 x102.2 m1_0 m1_1 m1_2 m1_3 m1_4 m1_5) (hrc t0 t1 t2 t3 s0.1 x102.1 s0.2.2.1 x102.2 m1_0 m1_1 m1_2 m1_3 m1_4 m1_5) fun x104 hx104=>?_
           conv=>arg 3; whnf
           exact Zd (ih _)
         ·conv=>arg 3; whnf
          refine Zg rfl ?_ ?_
          ·conv=>arg 3; whnf
           refine Zc (Za t0 t1 t2 t3 (w64 (x102.1+1)) s0.2.1 s0.2.2.1 x102.2 m1_0 m1_1 m1_2 m1_3 m1_4 m1_5) (hrc t0 t1 t2 t3 (w64 (x102.1+1)) s0.2.1 s0.2.2.1 x102.2 m1_0 m1_1 m1_2 m1_3 m1_4 m1_5) fun x105 hx105=>?_
           conv=>arg 3; whnf
           exact Zd (ih _)
          ·conv=>arg 3; whnf
           refine Zc (Za t0 t1 t2 t3 (w64 (x102.1+1)) s0.2.1 s0.2.2.1 x102.2 m1_0 m1_1 m1_2 m1_3 m1_4 m1_5) (hrc t0 t1 t2 t3 (w64 (x102.1+1)) s0.2.1 s0.2.2.1 x102.2 m1_0 m1_1 m1_2 m1_3 m1_4 m1_5) fun x106 hx106=>?_
           conv=>arg 3; whnf
           exact Zd (ih _)
        ·conv=>arg 3; whnf
         refine ZQ rfl ?_
         conv=>arg 3; whnf
         refine ZQ rfl ?_
         conv=>arg 3; whnf
         refine Zg rfl ?_ ?_
         ·conv=>arg 3; whnf
          refine Zg rfl ?_ ?_
          ·conv=>arg 3; whnf
           refine Zc (Za t0 t1 t2 t3 s0.1 x102.1 s0.2.2.1 x102.2 m1_0 m1_1 m1_2 m1_3 m1_4 m1_5) (hrc t0 t1 t2 t3 s0.1 x102.1 s0.2.2.1 x102.2 m1_0 m1_1 m1_2 m1_3 m1_4 m1_5) fun x107 hx107=>?_
           conv=>arg 3; whnf
           exact Zd (ih _)
          ·conv=>arg 3; whnf
           refine Zc (Za t0 t1 t2 t3 s0.1 x102.1 s0.2.2.1 x102.2 m1_0 m1_1 m1_2 m1_3 m1_4 m1_5) (hrc t0 t1 t2 t3 s0.1 x102.1 s0.2.2.1 x102.2 m1_0 m1_1 m1_2 m1_3 m1_4 m1_5) fun x108 hx108=>?_
           conv=>arg 3; whnf
           exact Zd (ih _)
         ·conv=>arg 3; whnf
          refine Zg rfl ?_ ?_
          ·conv=>arg 3; whnf
           refine Zc (Za t0 t1 t2 t3 (w64 (x102.1+1)) s0.2.1 s0.2.2.1 x102.2 m1_0 m1_1 m1_2 m1_3 m1_4 m1_5) (hrc t0 t1 t2 t3 (w64 (x102.1+1)) s0.2.1 s0.2.2.1 x102.2 m1_0 m1_1 m1_2 m1_3 m1_4 m1_5) fun x109 hx109=>?_
           conv=>arg 3; whnf
           exact Zd (ih _)
          ·conv=>arg 3; whnf
           refine Zc (Za t0 t1 t2 t3 (w64 (x102.1+1)) s0.2.1 s0.2.2.1 x102.2 m1_0 m1_1 m1_2 m1_3 m1_4 m1_5) (hrc t0 t1 t2 t3 (w64 (x102.1+1)) s0.2.1 s0.2.2.1 x102.2 m1_0 m1_1 m1_2 m1_3 m1_4 m1_5) fun x110 hx110=>?_
           conv=>arg 3; whnf
           exact Zd (ih _)
       ·conv=>arg 3; whnf
        refine Zc _ ZE fun x111 hx111=>?_
        conv=>arg 3; whnf
        exact Zd (ih _)
      ·conv=>arg 3; whnf
       refine Zc _ Zm fun x112 hx112=>?_
       clear hx112
       rcases x112 with x112 | x112
       ·conv=>arg 3; whnf
        refine ZbC rfl ?_
        conv=>arg 3; whnf
        refine ZQ rfl ?_
        conv=>arg 3; whnf
        refine Zg rfl ?_ ?_
        ·conv=>arg 3; whnf
         refine Zg rfl ?_ ?_
         ·conv=>arg 3; whnf
          refine Zc (Za t0 t1 t2 t3 s0.1 x112.1 s0.2.2.1 x112.2 m1_0 m1_1 m1_2 m1_3 m1_4 m1_5) (hrc t0 t1 t2 t3 s0.1 x112.1 s0.2.2.1 x112.2 m1_0 m1_1 m1_2 m1_3 m1_4 m1_5) fun x113 hx113=>?_
          conv=>arg 3; whnf
          exact Zd (ih _)
         ·conv=>arg 3; whnf
          refine Zc (Za t0 t1 t2 t3 s0.1 x112.1 s0.2.2.1 x112.2 m1_0 m1_1 m1_2 m1_3 m1_4 m1_5) (hrc t0 t1 t2 t3 s0.1 x112.1 s0.2.2.1 x112.2 m1_0 m1_1 m1_2 m1_3 m1_4 m1_5) fun x114 hx114=>?_
          conv=>arg 3; whnf
          exact Zd (ih _)
        ·conv=>arg 3; whnf
         refine Zg rfl ?_ ?_
         ·conv=>arg 3; whnf
          refine Zc (Za t0 t1 t2 t3 (w64 (x112.1+1)) s0.2.1 s0.2.2.1 x112.2 m1_0 m1_1 m1_2 m1_3 m1_4 m1_5) (hrc t0 t1 t2 t3 (w64 (x112.1+1)) s0.2.1 s0.2.2.1 x112.2 m1_0 m1_1 m1_2 m1_3 m1_4 m1_5) fun x115 hx115=>?_
          conv=>arg 3; whnf
          exact Zd (ih _)
         ·conv=>arg 3; whnf
          refine Zc (Za t0 t1 t2 t3 (w64 (x112.1+1)) s0.2.1 s0.2.2.1 x112.2 m1_0 m1_1 m1_2 m1_3 m1_4 m1_5) (hrc t0 t1 t2 t3 (w64 (x112.1+1)) s0.2.1 s0.2.2.1 x112.2 m1_0 m1_1 m1_2 m1_3 m1_4 m1_5) fun x116 hx116=>?_
          conv=>arg 3; whnf
          exact Zd (ih _)
       ·conv=>arg 3; whnf
        refine ZQ rfl ?_
        conv=>arg 3; whnf
        refine ZQ rfl ?_
        conv=>arg 3; whnf
        refine Zg rfl ?_ ?_
        ·conv=>arg 3; whnf
         refine Zg rfl ?_ ?_
         ·conv=>arg 3; whnf
          refine Zc (Za t0 t1 t2 t3 s0.1 x112.1 s0.2.2.1 x112.2 m1_0 m1_1 m1_2 m1_3 m1_4 m1_5) (hrc t0 t1 t2 t3 s0.1 x112.1 s0.2.2.1 x112.2 m1_0 m1_1 m1_2 m1_3 m1_4 m1_5) fun x117 hx117=>?_
          conv=>arg 3; whnf
          exact Zd (ih _)
         ·conv=>arg 3; whnf
          refine Zc (Za t0 t1 t2 t3 s0.1 x112.1 s0.2.2.1 x112.2 m1_0 m1_1 m1_2 m1_3 m1_4 m1_5) (hrc t0 t1 t2 t3 s0.1 x112.1 s0.2.2.1 x112.2 m1_0 m1_1 m1_2 m1_3 m1_4 m1_5) fun x118 hx118=>?_
          conv=>arg 3; whnf
          exact Zd (ih _)
        ·conv=>arg 3; whnf
         refine Zg rfl ?_ ?_
         ·conv=>arg 3; whnf
          refine Zc (Za t0 t1 t2 t3 (w64 (x112.1+1)) s0.2.1 s0.2.2.1 x112.2 m1_0 m1_1 m1_2 m1_3 m1_4 m1_5) (hrc t0 t1 t2 t3 (w64 (x112.1+1)) s0.2.1 s0.2.2.1 x112.2 m1_0 m1_1 m1_2 m1_3 m1_4 m1_5) fun x119 hx119=>?_
          conv=>arg 3; whnf
          exact Zd (ih _)
         ·conv=>arg 3; whnf
          refine Zc (Za t0 t1 t2 t3 (w64 (x112.1+1)) s0.2.1 s0.2.2.1 x112.2 m1_0 m1_1 m1_2 m1_3 m1_4 m1_5) (hrc t0 t1 t2 t3 (w64 (x112.1+1)) s0.2.1 s0.2.2.1 x112.2 m1_0 m1_1 m1_2 m1_3 m1_4 m1_5) fun x120 hx120=>?_
          conv=>arg 3; whnf
          exact Zd (ih _)
  ·refine Znj ?_
   conv=>arg 3; whnf
   refine Zg rfl ?_ ?_
   ·conv=>arg 3; whnf
    refine Zc _ ZaP fun x1 hx1=>?_
    conv=>arg 3; whnf
    exact Zh rfl
   ·conv=>arg 3; whnf
    refine Zg rfl ?_ ?_
    ·conv=>arg 3; whnf
     refine Zc _ Zbb fun x2 hx2=>?_
     conv=>arg 3; whnf
     exact Zh rfl
    ·conv=>arg 3; whnf
     refine Zc _ ZaW fun x3 hx3=>?_
     conv=>arg 3; whnf
     refine Zg rfl ?_ ?_
     ·conv=>arg 3; whnf
      refine Zc _ ZaV fun x4 hx4=>?_
      conv=>arg 3; whnf
      refine ZbC rfl ?_
      conv=>arg 3; whnf
      refine Zc _ ZbZ fun x5 hx5=>?_
      clear hx5
      rcases x5 with x5 | x5
      ·conv=>arg 3; whnf
       exact Zh rfl
      ·conv=>arg 3; whnf
       refine Zg rfl ?_ ?_
       ·conv=>arg 3; whnf
        refine Zj rfl rfl fun x6 hx6=>?_
        conv=>arg 3; whnf
        refine Zf (Zl rfl hx6) ?_
        conv=>arg 3; whnf
        refine Zj rfl rfl fun x7 hx7=>?_
        conv=>arg 3; whnf
        refine Zf (Zl rfl hx7) ?_
        conv=>arg 3; whnf
        refine Zp _ ZN rfl fun x8 hx8=>?_
        conv=>arg 3; whnf
        refine Zg rfl ?_ ?_
        ·conv=>arg 3; whnf
         refine Zc _ Zm fun x9 hx9=>?_
         clear hx9
         rcases x9 with x9 | x9
         ·conv=>arg 3; whnf
          refine ZbC rfl ?_
          conv=>arg 3; whnf
          refine ZQ rfl ?_
          conv=>arg 3; whnf
          refine Zg rfl ?_ ?_
          ·conv=>arg 3; whnf
           refine Zg rfl ?_ ?_
           ·conv=>arg 3; whnf
            refine Zc (Za t0 t1 t2 t3 s0.1 x9.1 s0.2.2.1 x9.2 m1_0 m1_1 m1_2 m1_3 m1_4 m1_5) (hrc t0 t1 t2 t3 s0.1 x9.1 s0.2.2.1 x9.2 m1_0 m1_1 m1_2 m1_3 m1_4 m1_5) fun x10 hx10=>?_
            conv=>arg 3; whnf
            exact Zd (ih _)
           ·conv=>arg 3; whnf
            refine Zc (Za t0 t1 t2 t3 s0.1 x9.1 s0.2.2.1 x9.2 m1_0 m1_1 m1_2 m1_3 m1_4 m1_5) (hrc t0 t1 t2 t3 s0.1 x9.1 s0.2.2.1 x9.2 m1_0 m1_1 m1_2 m1_3 m1_4 m1_5) fun x11 hx11=>?_
            conv=>arg 3; whnf
            exact Zd (ih _)
          ·conv=>arg 3; whnf
           refine Zg rfl ?_ ?_
           ·conv=>arg 3; whnf
            refine Zc (Za t0 t1 t2 t3 (w64 (x9.1+1)) s0.2.1 s0.2.2.1 x9.2 m1_0 m1_1 m1_2 m1_3 m1_4 m1_5) (hrc t0 t1 t2 t3 (w64 (x9.1+1)) s0.2.1 s0.2.2.1 x9.2 m1_0 m1_1 m1_2 m1_3 m1_4 m1_5) fun x12 hx12=>?_
            conv=>arg 3; whnf
            exact Zd (ih _)
           ·conv=>arg 3; whnf
            refine Zc (Za t0 t1 t2 t3 (w64 (x9.1+1)) s0.2.1 s0.2.2.1 x9.2 m1_0 m1_1 m1_2 m1_3 m1_4 m1_5) (hrc t0 t1 t2 t3 (w64 (x9.1+1)) s0.2.1 s0.2.2.1 x9.2 m1_0 m1_1 m1_2 m1_3 m1_4 m1_5) fun x13 hx13=>?_
            conv=>arg 3; whnf
            exact Zd (ih _)
         ·conv=>arg 3; whnf
          refine ZQ rfl ?_
          conv=>arg 3; whnf
          refine ZQ rfl ?_
          conv=>arg 3; whnf
          refine Zg rfl ?_ ?_
          ·conv=>arg 3; whnf
           refine Zg rfl ?_ ?_
           ·conv=>arg 3; whnf
            refine Zc (Za t0 t1 t2 t3 s0.1 x9.1 s0.2.2.1 x9.2 m1_0 m1_1 m1_2 m1_3 m1_4 m1_5) (hrc t0 t1 t2 t3 s0.1 x9.1 s0.2.2.1 x9.2 m1_0 m1_1 m1_2 m1_3 m1_4 m1_5) fun x14 hx14=>?_
            conv=>arg 3; whnf
            exact Zd (ih _)
           ·conv=>arg 3; whnf
            refine Zc (Za t0 t1 t2 t3 s0.1 x9.1 s0.2.2.1 x9.2 m1_0 m1_1 m1_2 m1_3 m1_4 m1_5) (hrc t0 t1 t2 t3 s0.1 x9.1 s0.2.2.1 x9.2 m1_0 m1_1 m1_2 m1_3 m1_4 m1_5) fun x15 hx15=>?_
            conv=>arg 3; whnf
            exact Zd (ih _)
          ·conv=>arg 3; whnf
           refine Zg rfl ?_ ?_
           ·conv=>arg 3; whnf
            refine Zc (Za t0 t1 t2 t3 (w64 (x9.1+1)) s0.2.1 s0.2.2.1 x9.2 m1_0 m1_1 m1_2 m1_3 m1_4 m1_5) (hrc t0 t1 t2 t3 (w64 (x9.1+1)) s0.2.1 s0.2.2.1 x9.2 m1_0 m1_1 m1_2 m1_3 m1_4 m1_5) fun x16 hx16=>?_
            conv=>arg 3; whnf
            exact Zd (ih _)
           ·conv=>arg 3; whnf
            refine Zc (Za t0 t1 t2 t3 (w64 (x9.1+1)) s0.2.1 s0.2.2.1 x9.2 m1_0 m1_1 m1_2 m1_3 m1_4 m1_5) (hrc t0 t1 t2 t3 (w64 (x9.1+1)) s0.2.1 s0.2.2.1 x9.2 m1_0 m1_1 m1_2 m1_3 m1_4 m1_5) fun x17 hx17=>?_
            conv=>arg 3; whnf
            exact Zd (ih _)
        ·conv=>arg 3; whnf
         refine Zc _ ZE fun x18 hx18=>?_
         conv=>arg 3; whnf
         exact Zd (ih _)
       ·conv=>arg 3; whnf
        refine Zc _ Zm fun x19 hx19=>?_
        clear hx19
        rcases x19 with x19 | x19
        ·conv=>arg 3; whnf
         refine ZbC rfl ?_
         conv=>arg 3; whnf
         refine ZQ rfl ?_
         conv=>arg 3; whnf
         refine Zg rfl ?_ ?_
         ·conv=>arg 3; whnf
          refine Zg rfl ?_ ?_
          ·conv=>arg 3; whnf
           refine Zc (Za t0 t1 t2 t3 s0.1 x19.1 s0.2.2.1 x19.2 m1_0 m1_1 m1_2 m1_3 m1_4 m1_5) (hrc t0 t1 t2 t3 s0.1 x19.1 s0.2.2.1 x19.2 m1_0 m1_1 m1_2 m1_3 m1_4 m1_5) fun x20 hx20=>?_
           conv=>arg 3; whnf
           exact Zd (ih _)
          ·conv=>arg 3; whnf
           refine Zc (Za t0 t1 t2 t3 s0.1 x19.1 s0.2.2.1 x19.2 m1_0 m1_1 m1_2 m1_3 m1_4 m1_5) (hrc t0 t1 t2 t3 s0.1 x19.1 s0.2.2.1 x19.2 m1_0 m1_1 m1_2 m1_3 m1_4 m1_5) fun x21 hx21=>?_
           conv=>arg 3; whnf
           exact Zd (ih _)
         ·conv=>arg 3; whnf
          refine Zg rfl ?_ ?_
          ·conv=>arg 3; whnf
           refine Zc (Za t0 t1 t2 t3 (w64 (x19.1+1)) s0.2.1 s0.2.2.1 x19.2 m1_0 m1_1 m1_2 m1_3 m1_4 m1_5) (hrc t0 t1 t2 t3 (w64 (x19.1+1)) s0.2.1 s0.2.2.1 x19.2 m1_0 m1_1 m1_2 m1_3 m1_4 m1_5) fun x22 hx22=>?_
           conv=>arg 3; whnf
           exact Zd (ih _)
          ·conv=>arg 3; whnf
           refine Zc (Za t0 t1 t2 t3 (w64 (x19.1+1)) s0.2.1 s0.2.2.1 x19.2 m1_0 m1_1 m1_2 m1_3 m1_4 m1_5) (hrc t0 t1 t2 t3 (w64 (x19.1+1)) s0.2.1 s0.2.2.1 x19.2 m1_0 m1_1 m1_2 m1_3 m1_4 m1_5) fun x23 hx23=>?_
           conv=>arg 3; whnf
           exact Zd (ih _)
        ·conv=>arg 3; whnf
         refine ZQ rfl ?_
         conv=>arg 3; whnf
         refine ZQ rfl ?_
         conv=>arg 3; whnf
         refine Zg rfl ?_ ?_
         ·conv=>arg 3; whnf
          refine Zg rfl ?_ ?_
          ·conv=>arg 3; whnf
           refine Zc (Za t0 t1 t2 t3 s0.1 x19.1 s0.2.2.1 x19.2 m1_0 m1_1 m1_2 m1_3 m1_4 m1_5) (hrc t0 t1 t2 t3 s0.1 x19.1 s0.2.2.1 x19.2 m1_0 m1_1 m1_2 m1_3 m1_4 m1_5) fun x24 hx24=>?_
           conv=>arg 3; whnf
           exact Zd (ih _)
          ·conv=>arg 3; whnf
           refine Zc (Za t0 t1 t2 t3 s0.1 x19.1 s0.2.2.1 x19.2 m1_0 m1_1 m1_2 m1_3 m1_4 m1_5) (hrc t0 t1 t2 t3 s0.1 x19.1 s0.2.2.1 x19.2 m1_0 m1_1 m1_2 m1_3 m1_4 m1_5) fun x25 hx25=>?_
           conv=>arg 3; whnf
           exact Zd (ih _)
         ·conv=>arg 3; whnf
          refine Zg rfl ?_ ?_
          ·conv=>arg 3; whnf
           refine Zc (Za t0 t1 t2 t3 (w64 (x19.1+1)) s0.2.1 s0.2.2.1 x19.2 m1_0 m1_1 m1_2 m1_3 m1_4 m1_5) (hrc t0 t1 t2 t3 (w64 (x19.1+1)) s0.2.1 s0.2.2.1 x19.2 m1_0 m1_1 m1_2 m1_3 m1_4 m1_5) fun x26 hx26=>?_
           conv=>arg 3; whnf
           exact Zd (ih _)
          ·conv=>arg 3; whnf
           refine Zc (Za t0 t1 t2 t3 (w64 (x19.1+1)) s0.2.1 s0.2.2.1 x19.2 m1_0 m1_1 m1_2 m1_3 m1_4 m1_5) (hrc t0 t1 t2 t3 (w64 (x19.1+1)) s0.2.1 s0.2.2.1 x19.2 m1_0 m1_1 m1_2 m1_3 m1_4 m1_5) fun x27 hx27=>?_
           conv=>arg 3; whnf
           exact Zd (ih _)
     ·conv=>arg 3; whnf
      refine Zg rfl ?_ ?_
      ·conv=>arg 3; whnf
       refine Zc _ ZbZ fun x28 hx28=>?_
       clear hx28
       rcases x28 with x28 | x28
       ·conv=>arg 3; whnf
        exact Zh rfl
       ·conv=>arg 3; whnf
        refine Zg rfl ?_ ?_
        ·conv=>arg 3; whnf
         refine Zj rfl rfl fun x29 hx29=>?_
         conv=>arg 3; whnf
         refine Zf (Zl rfl hx29) ?_
         conv=>arg 3; whnf
         refine Zj rfl rfl fun x30 hx30=>?_
         conv=>arg 3; whnf
         refine Zf (Zl rfl hx30) ?_
         conv=>arg 3; whnf
         refine Zp _ ZN rfl fun x31 hx31=>?_
         conv=>arg 3; whnf
         refine Zg rfl ?_ ?_
         ·conv=>arg 3; whnf
          refine Zc _ Zm fun x32 hx32=>?_
          clear hx32
          rcases x32 with x32 | x32
          ·conv=>arg 3; whnf
           refine ZbC rfl ?_
           conv=>arg 3; whnf
           refine ZQ rfl ?_
           conv=>arg 3; whnf
           refine Zg rfl ?_ ?_
           ·conv=>arg 3; whnf
            refine Zg rfl ?_ ?_
            ·conv=>arg 3; whnf
             refine Zc (Za t0 t1 t2 t3 s0.1 x32.1 s0.2.2.1 x32.2 m1_0 m1_1 m1_2 m1_3 m1_4 m1_5) (hrc t0 t1 t2 t3 s0.1 x32.1 s0.2.2.1 x32.2 m1_0 m1_1 m1_2 m1_3 m1_4 m1_5) fun x33 hx33=>?_
             conv=>arg 3; whnf
             exact Zd (ih _)
            ·conv=>arg 3; whnf
             refine Zc (Za t0 t1 t2 t3 s0.1 x32.1 s0.2.2.1 x32.2 m1_0 m1_1 m1_2 m1_3 m1_4 m1_5) (hrc t0 t1 t2 t3 s0.1 x32.1 s0.2.2.1 x32.2 m1_0 m1_1 m1_2 m1_3 m1_4 m1_5) fun x34 hx34=>?_
             conv=>arg 3; whnf
             exact Zd (ih _)
           ·conv=>arg 3; whnf
            refine Zg rfl ?_ ?_
            ·conv=>arg 3; whnf
             refine Zc (Za t0 t1 t2 t3 (w64 (x32.1+1)) s0.2.1 s0.2.2.1 x32.2 m1_0 m1_1 m1_2 m1_3 m1_4 m1_5) (hrc t0 t1 t2 t3 (w64 (x32.1+1)) s0.2.1 s0.2.2.1 x32.2 m1_0 m1_1 m1_2 m1_3 m1_4 m1_5) fun x35 hx35=>?_
             conv=>arg 3; whnf
             exact Zd (ih _)
            ·conv=>arg 3; whnf
             refine Zc (Za t0 t1 t2 t3 (w64 (x32.1+1)) s0.2.1 s0.2.2.1 x32.2 m1_0 m1_1 m1_2 m1_3 m1_4 m1_5) (hrc t0 t1 t2 t3 (w64 (x32.1+1)) s0.2.1 s0.2.2.1 x32.2 m1_0 m1_1 m1_2 m1_3 m1_4 m1_5) fun x36 hx36=>?_
             conv=>arg 3; whnf
             exact Zd (ih _)
          ·conv=>arg 3; whnf
           refine ZQ rfl ?_
           conv=>arg 3; whnf
           refine ZQ rfl ?_
           conv=>arg 3; whnf
           refine Zg rfl ?_ ?_
           ·conv=>arg 3; whnf
            refine Zg rfl ?_ ?_
            ·conv=>arg 3; whnf
             refine Zc (Za t0 t1 t2 t3 s0.1 x32.1 s0.2.2.1 x32.2 m1_0 m1_1 m1_2 m1_3 m1_4 m1_5) (hrc t0 t1 t2 t3 s0.1 x32.1 s0.2.2.1 x32.2 m1_0 m1_1 m1_2 m1_3 m1_4 m1_5) fun x37 hx37=>?_
             conv=>arg 3; whnf
             exact Zd (ih _)
            ·conv=>arg 3; whnf
             refine Zc (Za t0 t1 t2 t3 s0.1 x32.1 s0.2.2.1 x32.2 m1_0 m1_1 m1_2 m1_3 m1_4 m1_5) (hrc t0 t1 t2 t3 s0.1 x32.1 s0.2.2.1 x32.2 m1_0 m1_1 m1_2 m1_3 m1_4 m1_5) fun x38 hx38=>?_
             conv=>arg 3; whnf
             exact Zd (ih _)
           ·conv=>arg 3; whnf
            refine Zg rfl ?_ ?_
            ·conv=>arg 3; whnf
             refine Zc (Za t0 t1 t2 t3 (w64 (x32.1+1)) s0.2.1 s0.2.2.1 x32.2 m1_0 m1_1 m1_2 m1_3 m1_4 m1_5) (hrc t0 t1 t2 t3 (w64 (x32.1+1)) s0.2.1 s0.2.2.1 x32.2 m1_0 m1_1 m1_2 m1_3 m1_4 m1_5) fun x39 hx39=>?_
             conv=>arg 3; whnf
             exact Zd (ih _)
            ·conv=>arg 3; whnf
             refine Zc (Za t0 t1 t2 t3 (w64 (x32.1+1)) s0.2.1 s0.2.2.1 x32.2 m1_0 m1_1 m1_2 m1_3 m1_4 m1_5) (hrc t0 t1 t2 t3 (w64 (x32.1+1)) s0.2.1 s0.2.2.1 x32.2 m1_0 m1_1 m1_2 m1_3 m1_4 m1_5) fun x40 hx40=>?_
             conv=>arg 3; whnf
             exact Zd (ih _)
         ·conv=>arg 3; whnf
          refine Zc _ ZE fun x41 hx41=>?_
          conv=>arg 3; whnf
          exact Zd (ih _)
        ·conv=>arg 3; whnf
         refine Zc _ Zm fun x42 hx42=>?_
         clear hx42
         rcases x42 with x42 | x42
         ·conv=>arg 3; whnf
          refine ZbC rfl ?_
          conv=>arg 3; whnf
          refine ZQ rfl ?_
          conv=>arg 3; whnf
          refine Zg rfl ?_ ?_
          ·conv=>arg 3; whnf
           refine Zg rfl ?_ ?_
           ·conv=>arg 3; whnf
            refine Zc (Za t0 t1 t2 t3 s0.1 x42.1 s0.2.2.1 x42.2 m1_0 m1_1 m1_2 m1_3 m1_4 m1_5) (hrc t0 t1 t2 t3 s0.1 x42.1 s0.2.2.1 x42.2 m1_0 m1_1 m1_2 m1_3 m1_4 m1_5) fun x43 hx43=>?_
            conv=>arg 3; whnf
            exact Zd (ih _)
           ·conv=>arg 3; whnf
            refine Zc (Za t0 t1 t2 t3 s0.1 x42.1 s0.2.2.1 x42.2 m1_0 m1_1 m1_2 m1_3 m1_4 m1_5) (hrc t0 t1 t2 t3 s0.1 x42.1 s0.2.2.1 x42.2 m1_0 m1_1 m1_2 m1_3 m1_4 m1_5) fun x44 hx44=>?_
            conv=>arg 3; whnf
            exact Zd (ih _)
          ·conv=>arg 3; whnf
           refine Zg rfl ?_ ?_
           ·conv=>arg 3; whnf
            refine Zc (Za t0 t1 t2 t3 (w64 (x42.1+1)) s0.2.1 s0.2.2.1 x42.2 m1_0 m1_1 m1_2 m1_3 m1_4 m1_5) (hrc t0 t1 t2 t3 (w64 (x42.1+1)) s0.2.1 s0.2.2.1 x42.2 m1_0 m1_1 m1_2 m1_3 m1_4 m1_5) fun x45 hx45=>?_
            conv=>arg 3; whnf
            exact Zd (ih _)
           ·conv=>arg 3; whnf
            refine Zc (Za t0 t1 t2 t3 (w64 (x42.1+1)) s0.2.1 s0.2.2.1 x42.2 m1_0 m1_1 m1_2 m1_3 m1_4 m1_5) (hrc t0 t1 t2 t3 (w64 (x42.1+1)) s0.2.1 s0.2.2.1 x42.2 m1_0 m1_1 m1_2 m1_3 m1_4 m1_5) fun x46 hx46=>?_
            conv=>arg 3; whnf
            exact Zd (ih _)
         ·conv=>arg 3; whnf
          refine ZQ rfl ?_
          conv=>arg 3; whnf
          refine ZQ rfl ?_
          conv=>arg 3; whnf
          refine Zg rfl ?_ ?_
          ·conv=>arg 3; whnf
           refine Zg rfl ?_ ?_
           ·conv=>arg 3; whnf
            refine Zc (Za t0 t1 t2 t3 s0.1 x42.1 s0.2.2.1 x42.2 m1_0 m1_1 m1_2 m1_3 m1_4 m1_5) (hrc t0 t1 t2 t3 s0.1 x42.1 s0.2.2.1 x42.2 m1_0 m1_1 m1_2 m1_3 m1_4 m1_5) fun x47 hx47=>?_
            conv=>arg 3; whnf
            exact Zd (ih _)
           ·conv=>arg 3; whnf
            refine Zc (Za t0 t1 t2 t3 s0.1 x42.1 s0.2.2.1 x42.2 m1_0 m1_1 m1_2 m1_3 m1_4 m1_5) (hrc t0 t1 t2 t3 s0.1 x42.1 s0.2.2.1 x42.2 m1_0 m1_1 m1_2 m1_3 m1_4 m1_5) fun x48 hx48=>?_
            conv=>arg 3; whnf
            exact Zd (ih _)
          ·conv=>arg 3; whnf
           refine Zg rfl ?_ ?_
           ·conv=>arg 3; whnf
            refine Zc (Za t0 t1 t2 t3 (w64 (x42.1+1)) s0.2.1 s0.2.2.1 x42.2 m1_0 m1_1 m1_2 m1_3 m1_4 m1_5) (hrc t0 t1 t2 t3 (w64 (x42.1+1)) s0.2.1 s0.2.2.1 x42.2 m1_0 m1_1 m1_2 m1_3 m1_4 m1_5) fun x49 hx49=>?_
            conv=>arg 3; whnf
            exact Zd (ih _)
           ·conv=>arg 3; whnf
            refine Zc (Za t0 t1 t2 t3 (w64 (x42.1+1)) s0.2.1 s0.2.2.1 x42.2 m1_0 m1_1 m1_2 m1_3 m1_4 m1_5) (hrc t0 t1 t2 t3 (w64 (x42.1+1)) s0.2.1 s0.2.2.1 x42.2 m1_0 m1_1 m1_2 m1_3 m1_4 m1_5) fun x50 hx50=>?_
            conv=>arg 3; whnf
            exact Zd (ih _)
      ·conv=>arg 3; whnf
       refine Zg rfl ?_ ?_
       ·conv=>arg 3; whnf
        refine Zj rfl rfl fun x51 hx51=>?_
        conv=>arg 3; whnf
        refine Zf (Zl rfl hx51) ?_
        conv=>arg 3; whnf
        refine Zj rfl rfl fun x52 hx52=>?_
        conv=>arg 3; whnf
        refine Zf (Zl rfl hx52) ?_
        conv=>arg 3; whnf
        refine Zp _ ZN rfl fun x53 hx53=>?_
        conv=>arg 3; whnf
        refine Zg rfl ?_ ?_
        ·conv=>arg 3; whnf
         refine Zc _ Zm fun x54 hx54=>?_
         clear hx54
         rcases x54 with x54 | x54
         ·conv=>arg 3; whnf
          refine ZbC rfl ?_
          conv=>arg 3; whnf
          refine ZQ rfl ?_
          conv=>arg 3; whnf
          refine Zg rfl ?_ ?_
          ·conv=>arg 3; whnf
           refine Zg rfl ?_ ?_
           ·conv=>arg 3; whnf
            refine Zc (Za t0 t1 t2 t3 s0.1 x54.1 s0.2.2.1 x54.2 m1_0 m1_1 m1_2 m1_3 m1_4 m1_5) (hrc t0 t1 t2 t3 s0.1 x54.1 s0.2.2.1 x54.2 m1_0 m1_1 m1_2 m1_3 m1_4 m1_5) fun x55 hx55=>?_
            conv=>arg 3; whnf
            exact Zd (ih _)
           ·conv=>arg 3; whnf
            refine Zc (Za t0 t1 t2 t3 s0.1 x54.1 s0.2.2.1 x54.2 m1_0 m1_1 m1_2 m1_3 m1_4 m1_5) (hrc t0 t1 t2 t3 s0.1 x54.1 s0.2.2.1 x54.2 m1_0 m1_1 m1_2 m1_3 m1_4 m1_5) fun x56 hx56=>?_
            conv=>arg 3; whnf
            exact Zd (ih _)
          ·conv=>arg 3; whnf
           refine Zg rfl ?_ ?_
           ·conv=>arg 3; whnf
            refine Zc (Za t0 t1 t2 t3 (w64 (x54.1+1)) s0.2.1 s0.2.2.1 x54.2 m1_0 m1_1 m1_2 m1_3 m1_4 m1_5) (hrc t0 t1 t2 t3 (w64 (x54.1+1)) s0.2.1 s0.2.2.1 x54.2 m1_0 m1_1 m1_2 m1_3 m1_4 m1_5) fun x57 hx57=>?_
            conv=>arg 3; whnf
            exact Zd (ih _)
           ·conv=>arg 3; whnf
            refine Zc (Za t0 t1 t2 t3 (w64 (x54.1+1)) s0.2.1 s0.2.2.1 x54.2 m1_0 m1_1 m1_2 m1_3 m1_4 m1_5) (hrc t0 t1 t2 t3 (w64 (x54.1+1)) s0.2.1 s0.2.2.1 x54.2 m1_0 m1_1 m1_2 m1_3 m1_4 m1_5) fun x58 hx58=>?_
            conv=>arg 3; whnf
            exact Zd (ih _)
         ·conv=>arg 3; whnf
          refine ZQ rfl ?_
          conv=>arg 3; whnf
          refine ZQ rfl ?_
          conv=>arg 3; whnf
          refine Zg rfl ?_ ?_
          ·conv=>arg 3; whnf
           refine Zg rfl ?_ ?_
           ·conv=>arg 3; whnf
            refine Zc (Za t0 t1 t2 t3 s0.1 x54.1 s0.2.2.1 x54.2 m1_0 m1_1 m1_2 m1_3 m1_4 m1_5) (hrc t0 t1 t2 t3 s0.1 x54.1 s0.2.2.1 x54.2 m1_0 m1_1 m1_2 m1_3 m1_4 m1_5) fun x59 hx59=>?_
            conv=>arg 3; whnf
            exact Zd (ih _)
           ·conv=>arg 3; whnf
            refine Zc (Za t0 t1 t2 t3 s0.1 x54.1 s0.2.2.1 x54.2 m1_0 m1_1 m1_2 m1_3 m1_4 m1_5) (hrc t0 t1 t2 t3 s0.1 x54.1 s0.2.2.1 x54.2 m1_0 m1_1 m1_2 m1_3 m1_4 m1_5) fun x60 hx60=>?_
            conv=>arg 3; whnf
            exact Zd (ih _)
          ·conv=>arg 3; whnf
           refine Zg rfl ?_ ?_
           ·conv=>arg 3; whnf
            refine Zc (Za t0 t1 t2 t3 (w64 (x54.1+1)) s0.2.1 s0.2.2.1 x54.2 m1_0 m1_1 m1_2 m1_3 m1_4 m1_5) (hrc t0 t1 t2 t3 (w64 (x54.1+1)) s0.2.1 s0.2.2.1 x54.2 m1_0 m1_1 m1_2 m1_3 m1_4 m1_5) fun x61 hx61=>?_
            conv=>arg 3; whnf
            exact Zd (ih _)
           ·conv=>arg 3; whnf
            refine Zc (Za t0 t1 t2 t3 (w64 (x54.1+1)) s0.2.1 s0.2.2.1 x54.2 m1_0 m1_1 m1_2 m1_3 m1_4 m1_5) (hrc t0 t1 t2 t3 (w64 (x54.1+1)) s0.2.1 s0.2.2.1 x54.2 m1_0 m1_1 m1_2 m1_3 m1_4 m1_5) fun x62 hx62=>?_
            conv=>arg 3; whnf
            exact Zd (ih _)
        ·conv=>arg 3; whnf
         refine Zc _ ZE fun x63 hx63=>?_
         conv=>arg 3; whnf
         exact Zd (ih _)
       ·conv=>arg 3; whnf
        refine Zc _ Zm fun x64 hx64=>?_
        clear hx64
        rcases x64 with x64 | x64
        ·conv=>arg 3; whnf
         refine ZbC rfl ?_
         conv=>arg 3; whnf
         refine ZQ rfl ?_
         conv=>arg 3; whnf
         refine Zg rfl ?_ ?_
         ·conv=>arg 3; whnf
          refine Zg rfl ?_ ?_
          ·conv=>arg 3; whnf
           refine Zc (Za t0 t1 t2 t3 s0.1 x64.1 s0.2.2.1 x64.2 m1_0 m1_1 m1_2 m1_3 m1_4 m1_5) (hrc t0 t1 t2 t3 s0.1 x64.1 s0.2.2.1 x64.2 m1_0 m1_1 m1_2 m1_3 m1_4 m1_5) fun x65 hx65=>?_
           conv=>arg 3; whnf
           exact Zd (ih _)
          ·conv=>arg 3; whnf
           refine Zc (Za t0 t1 t2 t3 s0.1 x64.1 s0.2.2.1 x64.2 m1_0 m1_1 m1_2 m1_3 m1_4 m1_5) (hrc t0 t1 t2 t3 s0.1 x64.1 s0.2.2.1 x64.2 m1_0 m1_1 m1_2 m1_3 m1_4 m1_5) fun x66 hx66=>?_
           conv=>arg 3; whnf
           exact Zd (ih _)
         ·conv=>arg 3; whnf
          refine Zg rfl ?_ ?_
          ·conv=>arg 3; whnf
           refine Zc (Za t0 t1 t2 t3 (w64 (x64.1+1)) s0.2.1 s0.2.2.1 x64.2 m1_0 m1_1 m1_2 m1_3 m1_4 m1_5) (hrc t0 t1 t2 t3 (w64 (x64.1+1)) s0.2.1 s0.2.2.1 x64.2 m1_0 m1_1 m1_2 m1_3 m1_4 m1_5) fun x67 hx67=>?_
           conv=>arg 3; whnf
           exact Zd (ih _)
          ·conv=>arg 3; whnf
           refine Zc (Za t0 t1 t2 t3 (w64 (x64.1+1)) s0.2.1 s0.2.2.1 x64.2 m1_0 m1_1 m1_2 m1_3 m1_4 m1_5) (hrc t0 t1 t2 t3 (w64 (x64.1+1)) s0.2.1 s0.2.2.1 x64.2 m1_0 m1_1 m1_2 m1_3 m1_4 m1_5) fun x68 hx68=>?_
           conv=>arg 3; whnf
           exact Zd (ih _)
        ·conv=>arg 3; whnf
         refine ZQ rfl ?_
         conv=>arg 3; whnf
         refine ZQ rfl ?_
         conv=>arg 3; whnf
         refine Zg rfl ?_ ?_
         ·conv=>arg 3; whnf
          refine Zg rfl ?_ ?_
          ·conv=>arg 3; whnf
           refine Zc (Za t0 t1 t2 t3 s0.1 x64.1 s0.2.2.1 x64.2 m1_0 m1_1 m1_2 m1_3 m1_4 m1_5) (hrc t0 t1 t2 t3 s0.1 x64.1 s0.2.2.1 x64.2 m1_0 m1_1 m1_2 m1_3 m1_4 m1_5) fun x69 hx69=>?_
           conv=>arg 3; whnf
           exact Zd (ih _)
          ·conv=>arg 3; whnf
           refine Zc (Za t0 t1 t2 t3 s0.1 x64.1 s0.2.2.1 x64.2 m1_0 m1_1 m1_2 m1_3 m1_4 m1_5) (hrc t0 t1 t2 t3 s0.1 x64.1 s0.2.2.1 x64.2 m1_0 m1_1 m1_2 m1_3 m1_4 m1_5) fun x70 hx70=>?_
           conv=>arg 3; whnf
           exact Zd (ih _)
         ·conv=>arg 3; whnf
          refine Zg rfl ?_ ?_
          ·conv=>arg 3; whnf
           refine Zc (Za t0 t1 t2 t3 (w64 (x64.1+1)) s0.2.1 s0.2.2.1 x64.2 m1_0 m1_1 m1_2 m1_3 m1_4 m1_5) (hrc t0 t1 t2 t3 (w64 (x64.1+1)) s0.2.1 s0.2.2.1 x64.2 m1_0 m1_1 m1_2 m1_3 m1_4 m1_5) fun x71 hx71=>?_
           conv=>arg 3; whnf
           exact Zd (ih _)
          ·conv=>arg 3; whnf
           refine Zc (Za t0 t1 t2 t3 (w64 (x64.1+1)) s0.2.1 s0.2.2.1 x64.2 m1_0 m1_1 m1_2 m1_3 m1_4 m1_5) (hrc t0 t1 t2 t3 (w64 (x64.1+1)) s0.2.1 s0.2.2.1 x64.2 m1_0 m1_1 m1_2 m1_3 m1_4 m1_5) fun x72 hx72=>?_
           conv=>arg 3; whnf
           exact Zd (ih _)
theorem Zfh (rc:Int→Int→Int→(Int→Int→Option Int)→(List Int)→Option (List Int)) (hrc:∀(t0:Bool) (t1:Bool) (t2:Bool) (t3:Bool) (b:Int) (c:Int) (d:Int) (m0_0:(List Int)) (m1_0:Int) (m1_1:Int) (m1_2:(List Zal)) (m1_3:(List Zr)) (m1_4:(List Zk)) (m1_5:(List Zt)) (r:(List Int)),rc b c d (fun z0 z1=>Zw z0 z1 m1_4) m0_0=some r→evW ctx 138 [(.sl 0 1),(.d (Ze b)),(.d (Ze c)),(.d (Ze d)),(.fn 121 [(.ptr 1 0)])] [(.arr 1 (List.map Ze m0_0)),(.cells [(.d (Ze m1_0)),(.d (Ze m1_1)),(.d (D.list t0 (List.map Zau m1_2))),(.d (D.list t1 (List.map ZF m1_3))),(.d (D.list t2 (List.map Zs m1_4))),(.d (D.list t3 (List.map ZA m1_5)))])]=some ((Za t0 t1 t2 t3 b c d m0_0 m1_0 m1_1 m1_2 m1_3 m1_4 m1_5) r)) (t0:Bool) (t1:Bool) (t2:Bool) (t3:Bool) (b:Int) (c:Int) (d:Int) (m0_0:(List Int)) (m1_0:Int) (m1_1:Int) (m1_2:(List Zal)) (m1_3:(List Zr)) (m1_4:(List Zk)) (m1_5:(List Zt)):∀r,(ZaD rc b c d (fun z0 z1=>Zw z0 z1 m1_4) m0_0)=some r→evW ctx 138 [(.sl 0 1),(.d (Ze b)),(.d (Ze c)),(.d (Ze d)),(.fn 121 [(.ptr 1 0)])] [(.arr 1 (List.map Ze m0_0)),(.cells [(.d (Ze m1_0)),(.d (Ze m1_1)),(.d (D.list t0 (List.map Zau m1_2))),(.d (D.list t1 (List.map ZF m1_3))),(.d (D.list t2 (List.map Zs m1_4))),(.d (D.list t3 (List.map ZA m1_5)))])]=some ((Za t0 t1 t2 t3 b c d m0_0 m1_0 m1_1 m1_2 m1_3 m1_4 m1_5) r):=by
 show Z5 _ (fun r rhs=>rhs=some ((Za t0 t1 t2 t3 b c d m0_0 m1_0 m1_1 m1_2 m1_3 m1_4 m1_5) r)) _
 unfold ZaD
 rw[Zei ctx 138 Zv8 _ _ rfl rfl]
 conv=>arg 3; whnf
 refine Zc _ (Zfa hrc _) fun r219 hr219=>?_
 conv=>arg 3; whnf
 exact Zh rfl
theorem ZcU:∀(n:Nat) (t0:Bool) (t1:Bool) (t2:Bool) (t3:Bool) (b:Int) (c:Int) (d:Int) (m0_0:(List Int)) (m1_0:Int) (m1_1:Int) (m1_2:(List Zal)) (m1_3:(List Zr)) (m1_4:(List Zk)) (m1_5:(List Zt)) (r:(List Int)),ZY n b c d (fun z0 z1=>Zw z0 z1 m1_4) m0_0=some r→evW ctx 138 [(.sl 0 1),(.d (Ze b)),(.d (Ze c)),(.d (Ze d)),(.fn 121 [(.ptr 1 0)])] [(.arr 1 (List.map Ze m0_0)),(.cells [(.d (Ze m1_0)),(.d (Ze m1_1)),(.d (D.list t0 (List.map Zau m1_2))),(.d (D.list t1 (List.map ZF m1_3))),(.d (D.list t2 (List.map Zs m1_4))),(.d (D.list t3 (List.map ZA m1_5)))])]=some ((Za t0 t1 t2 t3 b c d m0_0 m1_0 m1_1 m1_2 m1_3 m1_4 m1_5) r)
  | 0,t0,t1,t2,t3,b,c,d,m0_0,m1_0,m1_1,m1_2,m1_3,m1_4,m1_5,r,h=>by cases h
  | n+1,t0,t1,t2,t3,b,c,d,m0_0,m1_0,m1_1,m1_2,m1_3,m1_4,m1_5,r,h=>Zfh (ZY n) (ZcU n) t0 t1 t2 t3 b c d m0_0 m1_0 m1_1 m1_2 m1_3 m1_4 m1_5 r h
theorem ZfF {t0:Bool} {t1:Bool} {t2:Bool} {t3:Bool} {b:Int} {c:Int} {d:Int} {m0_0:(List Int)} {m1_0:Int} {m1_1:Int} {m1_2:(List Zal)} {m1_3:(List Zr)} {m1_4:(List Zk)} {m1_5:(List Zt)}:∀r,Zdu b c d (fun z0 z1=>Zw z0 z1 m1_4) m0_0=some r→evW ctx 138 [(.sl 0 1),(.d (Ze b)),(.d (Ze c)),(.d (Ze d)),(.fn 121 [(.ptr 1 0)])] [(.arr 1 (List.map Ze m0_0)),(.cells [(.d (Ze m1_0)),(.d (Ze m1_1)),(.d (D.list t0 (List.map Zau m1_2))),(.d (D.list t1 (List.map ZF m1_3))),(.d (D.list t2 (List.map Zs m1_4))),(.d (D.list t3 (List.map ZA m1_5)))])]=some ((Za t0 t1 t2 t3 b c d m0_0 m1_0 m1_1 m1_2 m1_3 m1_4 m1_5) r):=fun r h=>by
  obtain⟨n,hn⟩:=Zud h
  exact ZcU n t0 t1 t2 t3 b c d m0_0 m1_0 m1_1 m1_2 m1_3 m1_4 m1_5 r hn
def Zdn (t0:Bool) (t1:Bool) (t2:Bool) (t3:Bool) (m0_0:(List Int)) (m1_0:Int) (m1_1:Int) (m1_2:(List Zal)) (m1_3:(List Zr)) (m1_4:(List Zk)) (m1_5:(List Zt)):(List Int)→V×Zn
  | r=>((.d (D.tup [])),[(.arr 1 (List.map Ze r)),(.cells [(.d (Ze m1_0)),(.d (Ze m1_1)),(.d (D.list t0 (List.map Zau m1_2))),(.d (D.list t1 (List.map ZF m1_3))),(.d (D.list t2 (List.map Zs m1_4))),(.d (D.list t3 (List.map ZA m1_5)))])])
theorem ZfE {t0:Bool} {t1:Bool} {t2:Bool} {t3:Bool} {m0_0:(List Int)} {m1_0:Int} {m1_1:Int} {m1_2:(List Zal)} {m1_3:(List Zr)} {m1_4:(List Zk)} {m1_5:(List Zt)}:∀r,(ZaO (fun z0 z1=>Zw z0 z1 m1_4) m0_0)=some r→evW ctx 120 [(.sl 0 1),(.fn 121 [(.ptr 1 0)])] [(.arr 1 (List.map Ze m0_0)),(.cells [(.d (Ze m1_0)),(.d (Ze m1_1)),(.d (D.list t0 (List.map Zau m1_2))),(.d (D.list t1 (List.map ZF m1_3))),(.d (D.list t2 (List.map Zs m1_4))),(.d (D.list t3 (List.map ZA m1_5)))])]=some ((Zdn t0 t1 t2 t3 m0_0 m1_0 m1_1 m1_2 m1_3 m1_4 m1_5) r):=by
 show Z5 _ (fun r rhs=>rhs=some ((Zdn t0 t1 t2 t3 m0_0 m1_0 m1_1 m1_2 m1_3 m1_4 m1_5) r)) _
 unfold ZaO
 rw[Zei ctx 120 ZwE _ _ rfl rfl]
 conv=>arg 3; whnf
 refine Zo (Zak _ _) ?_
 conv=>arg 3; whnf
 refine Zp _ Zhp rfl fun x0 hx0=>?_
 conv=>arg 3; whnf
 refine Zc _ ZfF fun x1 hx1=>?_
 conv=>arg 3; whnf
 exact Zh rfl
def ZjV (r:(List Int)):D:=(D.list true (List.map Ze r))
def Ziy (t0:Bool) (t1:Bool) (t2:Bool) (t3:Bool) (a:Zu) (b:Int):(List Int)→Ex×List V×Zn
  | r=>(.exit 0,[(.ptr 0 0),(.sl 1 1)],[(.cells (dV t0 t1 t2 t3 a)),(.arr 1 (List.map Ze r))])
theorem Zla {t0:Bool} {t1:Bool} {t2:Bool} {t3:Bool} {a:Zu} {b:Int}:∀(s1:Int×(List Int)) (r:(List Int)),lp (Zeh a b) s1=some r→lpW ctx 0 [1,2,5,12,13,14] [2,5] ZvC [(.d (Ze b)),(.ptr 0 0),(.sl 1 1),(.d (D.list t2 (List.map Zs a.futures))),(.d (Ze (a.futures.length:Int))),(.d (Ze s1.1))] [(.cells (dV t0 t1 t2 t3 a)),(.arr 1 (List.map Ze s1.2))]=some ((Ziy t0 t1 t2 t3 a b) r):=by
 refine Za6 (Ziy t0 t1 t2 t3 a b) ?_
 intro s1 rcl ih
 show Z5 _ _ (lpW _ _ _ _ _ _ _)
 unfold Zeh
 rw[Za7]
 conv=>arg 3; whnf
 refine Zg rfl ?_ ?_
 ·conv=>arg 3; whnf
  refine Zj rfl rfl fun x2 hx2=>?_
  conv=>arg 3; whnf
  refine Zg rfl ?_ ?_
  ·conv=>arg 3; whnf
   refine ZbC rfl ?_
   conv=>arg 3; whnf
   refine Zg (Zju Ze s1.2 1) ?_ ?_
   ·conv=>arg 3; whnf
    refine Zo (Zjq Ze s1.2 [s1.1]) ?_
    conv=>arg 3; whnf
    exact Zd (ih _)
   ·exact ZbG
  ·conv=>arg 3; whnf
   exact Zd (ih _)
 ·conv=>arg 3; whnf
  exact Zh rfl
theorem Zm2 {t0:Bool} {t1:Bool} {t2:Bool} {t3:Bool} {a:Zu} {b:Int}:∀r,(Zd7 a b)=some r→evD ctx 86 [(.d (D.agg (dA t0 t1 t2 t3 a))),(.d (Ze b))]=some (ZjV r):=by
 show Z5 _ (fun r rhs=>rhs=some (ZjV r)) _
 unfold Zd7
 rw[ZcN ctx 86 ZzP _ rfl rfl]
 conv=>arg 3; whnf
 refine Zp _ ZkM rfl fun x0 hx0=>?_
 conv=>arg 3; whnf
 refine Zg rfl ?_ ?_
 ·conv=>arg 3; whnf
  exact Zh rfl
 ·conv=>arg 3; whnf
  refine Zo (Zak _ _) ?_
  conv=>arg 3; whnf
  refine Zc _ (Zla _) fun r3 hr3=>?_
  conv=>arg 3; whnf
  refine Zc _ ZfE fun x4 hx4=>?_
  conv=>arg 3; whnf
  exact Zh rfl
def ZhO (b:Zi) (c:Int) (m1_0:(List Int)) (m2_0:(List Zr)) (m3_0:(List Zi)) (m4_0:(List (Int×Int))) (m5_0:(List (Int×Int))) (m6_0:(List (Zk×Int))):Unit→V×Zn
  | r=>((.d (Ze (w64 ((List.length (m3_0++[b]):Int)-1)))),[(.cells [(.sl 7 1),(.sl 2 2),(.sl 8 2),(.mp 4),(.mp 5),(.mp 6)]),.dead,(.arr 2 (List.map ZF m2_0)),.dead,(.mp (mpD Ze Ze m4_0)),(.mp (mpD Ze Ze m5_0)),(.mp (mpD Zs Ze m6_0)),(.arr 1 (List.map Ze (m1_0++[c]))),(.arr 2 (List.map Zbr (m3_0++[b])))])
theorem Zbs {b:Zi} {c:Int} {m1_0:(List Int)} {m2_0:(List Zr)} {m3_0:(List Zi)} {m4_0:(List (Int×Int))} {m5_0:(List (Int×Int))} {m6_0:(List (Zk×Int))}:∀r,(Za1 b c m1_0 m3_0)=some r→evW ctx 44 [(.ptr 0 0),(.d (D.agg [(Ze b.part),(Ze b.step)])),(.d (Ze c))] [(.cells [(.sl 1 1),(.sl 2 2),(.sl 3 2),(.mp 4),(.mp 5),(.mp 6)]),(.arr 1 (List.map Ze m1_0)),(.arr 2 (List.map ZF m2_0)),(.arr 2 (List.map Zbr m3_0)),(.mp (mpD Ze Ze m4_0)),(.mp (mpD Ze Ze m5_0)),(.mp (mpD Zs Ze m6_0))]=some ((ZhO b c m1_0 m2_0 m3_0 m4_0 m5_0 m6_0) r):=by
 show Z5 _ (fun r rhs=>rhs=some ((ZhO b c m1_0 m2_0 m3_0 m4_0 m5_0 m6_0) r)) _
 unfold Za1
 rw[Zei ctx 44 ZzT _ _ rfl rfl]
 conv=>arg 3; whnf
 refine ZbC rfl ?_
 conv=>arg 3; whnf
 refine Zg (Zju Zbr m3_0 1) ?_ ?_
 ·conv=>arg 3; whnf
  refine Zo (Zjq Zbr m3_0 [b]) ?_
  conv=>arg 3; whnf
  refine ZbC rfl ?_
  conv=>arg 3; whnf
  refine Zg (Zju Ze m1_0 1) ?_ ?_
  ·conv=>arg 3; whnf
   refine Zo (Zjq Ze m1_0 [c]) ?_
   conv=>arg 3; whnf
   refine Zo (Zak _ _) ?_
   conv=>arg 3; whnf
   exact Zh rfl
  ·exact ZbG
 ·exact ZbG
end Go.Proofs.YtljgncbdagmeeaaDoor
