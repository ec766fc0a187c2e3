/- LowTouch: part 5 of 6 of the proof. -/
import Derived.Test.YtljgncbdagmeeaaDoorZLowTouchd
import Derived.KernelRfl
set_option maxRecDepth 100000
set_option maxHeartbeats 40000000
namespace Go.Proofs.YtljgncbdagmeeaaDoor
open Go Go.Proofs.YtljgncbdagmeeaaDoorE Go.Sort
set_option linter.unusedVariables false
set_option linter.unusedSimpArgs false
def sel {γ:Type} (p:γ→Bool) (g:Nat→γ→Int):Nat→List γ→List Int
 | _,[]=>[]
 | i,x :: l=>bif p x then g i x :: sel p g (i+1) l else sel p g (i+1) l
theorem Zm3 {γ:Type} (p:γ→Bool) (g:Nat→γ→Int):∀(l:List γ) (i:Nat),(sel p g i l).length=l.countP p
 | [],_=>rfl
 | x :: l,i=>by
  unfold sel
  have ih:=Zm3 p g l (i+1)
  cases h:p x with
  | true=>simp[ih,h]
  | false=>simp[ih,h]
theorem Zn6 {γ:Type} (p:γ→Bool) (g:Nat→γ→Int) (z:Int):∀(l:List γ) (i:Nat),z∈sel p g i l↔∃j x,l[j]? = some x∧p x=true∧z=g (i+j) x
 | [],i=>by simp[sel]
 | x :: l,i=>by
  have ih:=Zn6 p g z l (i+1)
  have key:(∃j y,(x :: l)[j]? = some y∧p y=true∧z=g (i+j) y)↔(p x=true∧z=g i x)∨∃j y,l[j]? = some y∧p y=true∧z=g (i+1+j) y:=by
   constructor
   ·rintro ⟨j,y,h1,h2,h3⟩
    cases j with
    | zero=>left; simp at h1; subst h1; exact⟨h2,h3⟩
    | succ j=>right; exact⟨j,y,by simpa using h1,h2,by rw[h3]; congr 1; omega⟩
   ·rintro (⟨h2,h3⟩ | ⟨j,y,h1,h2,h3⟩)
    ·exact⟨0,x,rfl,h2,h3⟩
    ·exact⟨j+1,y,by simpa using h1,h2,by rw[h3]; congr 1; omega⟩
  rw[key]
  unfold sel
  cases h:p x with
  | true=>simp[ih]
  | false=>simp[ih]
theorem Zw5 {γ:Type} (l:List γ) (hl:l.length≤1000) (p:γ→Bool) (g:Nat→γ→Int) (step:Int×List Int→Option ((Int×List Int)⊕List Int))
  (h1:∀i x s,i<l.length→l[i]? = some x→step ((i:Int),s)=(bif p x then (bif Nat.ble (s.length+1) lim then some (.inl (((i+1:Nat):Int),s++[g i x])) else none) else some (.inl (((i+1:Nat):Int),s))))
  (h2:∀s,step ((l.length:Int),s)=some (.inr s)) (s:List Int) (hs:s.length≤1000000):lp step (0,s)=some (s++sel p g 0 l):=by
 have key:=ZqF l step (fun i s=>((i:Int),s)) (fun i x s=>bif p x then (bif Nat.ble (s.length+1) lim then some (.inl (s++[g i x])) else none) else some (.inl s)) (fun s=>some s) (fun i x s hi hx=>by
   rw[h1 i x s hi hx]
   cases p x<;>cases Nat.ble (s.length+1) lim<;>rfl) (fun s=>h2 s) s
 refine(key:lp step (0,s)=_).trans ?_
 have:∀(l:List γ) (i:Nat) (s:List Int),s.length+l.length≤1001000→Znq (fun i x s=>bif p x then (bif Nat.ble (s.length+1) lim then some (Sum.inl (s++[g i x])) else (none:Option (List Int⊕List Int))) else some (.inl s)) (fun s=>some s) i l s=some (s++sel p g i l):=by
  intro l
  induction l with
  | nil=>intro i s _; simp[Znq,sel]
  | cons x l ih=>
   intro i s hb
   rw[List.length_cons] at hb
   unfold Znq sel
   cases p x with
   | true=>
    rw[Zji (show s.length+1≤1073741824 by omega)]
    simp only[cond_true]
    rw[ih (i+1) (s++[g i x]) (by rw[List.length_append,List.length_singleton]; omega)]
    simp
   | false=>
    simp only[cond_false]
    rw[ih (i+1) s (by omega)]
 exact this l 0 s (by omega)
theorem ZoQ (k:Int→Int):∀(l m:List Int),l.Pairwise (fun x y=>k x<k y)→m.Pairwise (fun x y=>k x<k y)→(∀z,z∈l↔z∈m)→l=m
 | [],[],_,_,_=>rfl
 | [],y :: m,_,_,h=>absurd ((h y).2 (by simp)) (by simp)
 | x :: l,[],_,_,h=>absurd ((h x).1 (by simp)) (by simp)
 | x :: l,y :: m,h1,h2,h=>by
  rw[List.pairwise_cons] at h1 h2
  have hxy:x=y:=by
   rcases List.mem_cons.1 ((h x).1 (by simp)) with e | e
   ·exact e
   ·rcases List.mem_cons.1 ((h y).2 (by simp)) with e2 | e2
    ·exact e2.symm
    ·have:=h2.1 _ e
     have:=h1.1 _ e2
     omega
  subst hxy
  congr 1
  refine ZoQ k l m h1.2 h2.2 fun z=>?_
  constructor
  ·intro hz
   rcases List.mem_cons.1 ((h z).1 (by simp[hz])) with e | e
   ·subst e
    have:=h1.1 _ hz
    omega
   ·exact e
  ·intro hz
   rcases List.mem_cons.1 ((h z).2 (by simp[hz])) with e | e
   ·subst e
    have:=h2.1 _ hz
    omega
   ·exact e
structure ZlI (d:Zt):Prop where
 w:∀p∈d.parts,1≤p.work∧p.work≤100
 e:∀x∈d.edges,two d.parts.length x.src x.dst=true
 f:∀x∈d.futures,two d.parts.length x.maker x.user=true∧1≤x.pos∧x.pos≤ZfG d.parts x.user-1
 ne:∀(i j:Nat) (x y:Zk),i<j→d.futures[i]? = some x→d.futures[j]? = some y→¬(x.user=y.user∧x.pos=y.pos)
theorem ZqV {d:Zt} (h:Zh4 d=0):ZlI d:=by
 unfold Zh4 at h
 have all:Zl8 d=true∧Zpv d=true∧d.parts.any Zhd=false∧Zh3 (ZhG d) 0 d.edges=false∧Zh3 (Zfi d) 0 d.futures=false:=by
  revert h
  cases Zl8 d<;>cases Zpv d<;>cases d.parts.any Zhd<;>cases Zh3 (ZhG d) 0 d.edges<;>cases Zh3 (Zfi d) 0 d.futures<;>simp
 obtain⟨_,_,h3,h4,h5⟩:=all
 have he:∀(i:Nat) x,d.edges[i]? = some x→ZhG d i x=false:=fun i x hx=>by
  cases hb:ZhG d i x with
  | false=>rfl
  | true=>rw[(ZkV _ _ 0).2 ⟨i,x,hx,by simpa using hb⟩] at h4; cases h4
 have hf:∀(i:Nat) x,d.futures[i]? = some x→Zfi d i x=false:=fun i x hx=>by
  cases hb:Zfi d i x with
  | false=>rfl
  | true=>rw[(ZkV _ _ 0).2 ⟨i,x,hx,by simpa using hb⟩] at h5; cases h5
 refine⟨Zpx h3,fun x hx=>?_,fun x hx=>?_,fun i j x y hij hx hy=>?_⟩
 ·obtain⟨i,hi⟩:=List.getElem?_of_mem hx
  have:=he i x hi
  unfold ZhG at this
  simp only[Bool.or_eq_false_iff,Bool.not_eq_false'] at this
  exact this.1
 ·obtain⟨i,hi⟩:=List.getElem?_of_mem hx
  have:=hf i x hi
  unfold Zfi Zd8 at this
  simp only[Bool.or_eq_false_iff,Bool.not_eq_false',Bool.and_eq_true,decide_eq_true_eq] at this
  exact⟨this.1,this.2.1.1,this.2.1.2⟩
 ·rintro ⟨h1,h2⟩
  have:=hf j y hy
  unfold Zfi at this
  simp only[Bool.or_eq_false_iff] at this
  have h6:=List.any_eq_false.1 this.2.2 x (List.mem_of_getElem? (i:=i) (by rw[List.getElem?_take_of_lt hij]; exact hx))
  unfold again at h6
  simp[h1,h2] at h6
theorem Zlw {d:Zt} (g:ZlI d) (u:Int):ZfG d.parts u≤100:=by
 unfold ZfG
 split
 ·rename_i p hp; exact(g.w p (List.mem_of_getElem? hp)).2
 ·omega
def Zf1 (fs:List Zk) (z:Int):Int:=match fs[z.toNat]? with | some f=>f.pos | none=>0
def Zn0 (d:Zt) (u:Int):List Int:=sel (fun f:Zk=>f.user==u) (fun i _=>(i:Int)) 0 d.futures
theorem Zlh (d:Zt) (u z:Int):z∈Zn0 d u↔∃(i:Nat) (f:Zk),d.futures[i]? = some f∧f.user=u∧z=(i:Int):=by
 unfold Zn0
 rw[Zn6]
 simp
theorem Zpe (d:Zt) (u:Int):(Zn0 d u).Pairwise (fun x y=>x<y):=by
 have:∀(l:List Zk) (i:Nat),(sel (fun f:Zk=>f.user==u) (fun i _=>(i:Int)) i l).Pairwise (fun x y=>x<y)∧∀z∈sel (fun f:Zk=>f.user==u) (fun i _=>(i:Int)) i l,(i:Int)≤z:=by
  intro l
  induction l with
  | nil=>intro i; simp[sel]
  | cons x l ih=>
   intro i
   obtain⟨h1,h2⟩:=ih (i+1)
   unfold sel
   cases x.user==u with
   | true=>
    simp only[cond_true,List.pairwise_cons,List.mem_cons]
    refine⟨⟨fun z hz=>?_,h1⟩,?_⟩
    ·have:=h2 z hz; omega
    ·rintro z (rfl | hz)
     ·exact Int.le_refl _
     ·have:=h2 z hz; omega
   | false=>
    simp only[cond_false]
    exact⟨h1,fun z hz=>by have:=h2 z hz; omega⟩
 exact(this d.futures 0).1
structure Zho (d:Zt) (u:Int) (r:List Int):Prop where
 mem:∀z,z∈r↔∃(i:Nat) (f:Zk),d.futures[i]? = some f∧f.user=u∧z=(i:Int)
 rise:r.Pairwise (fun x y=>Zf1 d.futures x<Zf1 d.futures y)
theorem Zho.eq {d:Zt} {u:Int} {r s:List Int} (h1:Zho d u r) (h2:Zho d u s):r=s:=ZoQ (Zf1 d.futures) r s h1.rise h2.rise fun z=>by rw[h1.mem,h2.mem]
theorem Zrw {l:List Int} {p q:Int→Int→Prop} (h:l.Pairwise p) (hq:∀x y,x∈l→y∈l→p x y→q x y):l.Pairwise q:=by
 rw[List.pairwise_iff_getElem] at h ⊢
 exact fun i j hi hj hij=>hq _ _ (List.getElem_mem hi) (List.getElem_mem hj) (h i j hi hj hij)
theorem Zxo {d:Zt} (g:ZlI d) {u x y:Int} (hx:∃(i:Nat) (f:Zk),d.futures[i]? = some f∧f.user=u∧x=(i:Int)) (hy:∃(i:Nat) (f:Zk),d.futures[i]? = some f∧f.user=u∧y=(i:Int)) (hne:x≠y):Zf1 d.futures x≠Zf1 d.futures y:=by
 obtain⟨i,f,h1,h2,rfl⟩:=hx
 obtain⟨j,e,h3,h4,rfl⟩:=hy
 intro he
 unfold Zf1 at he
 rw[Int.toNat_natCast,Int.toNat_natCast,h1,h3] at he
 simp only at he
 rcases Nat.lt_trichotomy i j with h | h | h
 ·exact g.ne i j f e h h1 h3 ⟨h2.trans h4.symm,he⟩
 ·exact hne (by rw[h])
 ·exact g.ne j i e f h h3 h1 ⟨h4.trans h2.symm,he.symm⟩
theorem Zvd {d:Zt} (g:ZlI d):ZpO (fun z0 z1=>Zw z0 z1 d.futures) (fun x y=>Zf1 d.futures x-Zf1 d.futures y) (fun z=>0≤z∧z.toNat<d.futures.length):=by
 intro x y hx hy
 have b:∀z:Int,z.toNat<d.futures.length→∃f,d.futures[z.toNat]? = some f∧Zf1 d.futures z=f.pos∧1≤f.pos∧f.pos≤100:=fun z hz=>by
  have hm:=List.getElem_mem hz
  have:=g.f _ hm
  have hw:=Zlw g d.futures[z.toNat].user
  exact⟨d.futures[z.toNat],List.getElem?_eq_getElem hz,by unfold Zf1; rw[List.getElem?_eq_getElem hz],this.2.1,by omega⟩
 obtain⟨f,f1,f2,f3,f4⟩:=b x hx.2
 obtain⟨e,e1,e2,e3,e4⟩:=b y hy.2
 show Zw x y d.futures=some (Zf1 d.futures x-Zf1 d.futures y)
 unfold Zw
 rw[Zrj hx.1 f1,Zrj hy.1 e1]
 simp only[Option.bind_some]
 rw[f2,e2,Zd4 (by omega) (by omega)]
theorem Zyi (k:Int→Int):SWO (ltC fun x y=>k x-k y):=by
 refine⟨fun x=>?_,fun x y z h1 h2=>?_,fun x y z h1 h2=>?_⟩
 ·show decide (k x-k x<0)=false
  exact decide_eq_false (by omega)
 ·simp only[ltC,decide_eq_true_eq] at *
  omega
 ·simp only[ltC,decide_eq_false_iff_not] at *
  omega
theorem ZuF (d:Zt) (h:Zk6 d) (hf:d.futures.length≤1000) (hc:Zh4 d=0) (u:Int):∃r,Zd6 d u=some r∧Zho d u r:=by
 have g:=ZqV hc
 have key:=Zw5 d.futures hf (fun f:Zk=>f.user==u) (fun i _=>(i:Int)) (Zeg d u) (fun i x s hi hx=>by
   simp only[Zeg,Zgw hi,ZbT hx,Option.bind_some,ZaN hi h.f,cond_true]) (fun s=>by simp only[Zeg,ZhN]; rfl) [] (by simp)
 have hP:∀x∈Zn0 d u,0≤x∧x.toNat<d.futures.length:=fun x hx=>by
  obtain⟨i,f,h1,h2,rfl⟩:=(Zlh d u x).1 hx
  have:=(List.getElem?_eq_some_iff.1 h1).1
  exact⟨by omega,by simpa using this⟩
 have hlen:(Zn0 d u).length≤1000:=by
  unfold Zn0
  rw[Zm3]
  exact Nat.le_trans List.countP_le_length hf
 obtain⟨r,h1,h2,h3⟩:=Zw1 (Zvd g) (Zyi _) (Zn0 d u) hlen hP
 refine⟨r,?_,?_,?_⟩
 ·unfold Zd6
  rw[Ztv d h,hc]
  simp only[Option.bind_some,bne_self_eq_false,cond_false]
  rw[key,List.nil_append,Option.bind_some]
  show(ZaO (fun z0 z1=>Zw z0 z1 d.futures) (Zn0 d u)).bind _=_
  rw[h1]
  rfl
 ·exact fun z=>by rw[h2.mem_iff,Zlh]
 ·have nd:r.Pairwise (fun x y=>x≠y):=(h2.pairwise_iff (fun h=>Ne.symm h)).2 ((Zpe d u).imp fun h=>by omega)
  refine Zrw (h3.and nd) fun x y hx hy hp=>?_
  have a:=(Zlh d u x).1 (h2.mem_iff.1 hx)
  have b:=(Zlh d u y).1 (h2.mem_iff.1 hy)
  have h4:=Zxo g a b hp.2
  have h5:=hp.1
  simp only[ltC,decide_eq_false_iff_not] at h5
  omega
theorem ZpQ {d:Zt} {u:Int} {r:List Int} (h:Zho d u r):r.length=(Zn0 d u).length:=by
 have nd1:r.Nodup:=h.rise.imp fun hp he=>by rw[he] at hp; omega
 have nd2:(Zn0 d u).Nodup:=(Zpe d u).imp fun hp he=>by omega
 exact((List.perm_ext_iff_of_nodup nd1 nd2).2 fun z=>by rw[h.mem,Zlh]).length_eq
theorem Zsb {d:Zt} {u:Int} {r:List Int} (h:Zho d u r):r.length≤d.futures.length:=by
 rw[ZpQ h]
 unfold Zn0
 rw[Zm3]
 exact List.countP_le_length
theorem ZuR {γ:Type} (p:γ→Bool) (g:Nat→γ→Int) (l:List γ) (i:Nat):(sel p g i l).length≤l.length:=by rw[Zm3]; exact List.countP_le_length
end Go.Proofs.YtljgncbdagmeeaaDoor
namespace Go.Proofs.YtljgncbdagmeeaaDoor
open Go Go.Proofs.YtljgncbdagmeeaaDoorE
set_option linter.unusedVariables false
set_option linter.unusedSimpArgs false
structure ZeI (d:Zt):Prop where
 g:ZlI d
 ins:∀b∈d.barriers,∀q∈b.ins,0≤q∧q.toNat<d.parts.length
 outs:∀b∈d.barriers,∀q∈b.outs,0≤q∧q.toNat<d.parts.length
 disj:∀b∈d.barriers,∀q∈b.ins,q∉b.outs
 pl:d.parts.length≤16
 el:d.edges.length≤48
 fl:d.futures.length≤16
 bl:d.barriers.length≤4
 p1:1≤d.parts.length
 arg:∀p∈d.parts,0≤p.arg∧p.arg≤2147483647
theorem Zvn {n:Nat} {l:List Int} (h:ZlW n l=true):∀q∈l,0≤q∧q.toNat<n:=by
 intro q hq
 unfold ZlW at h
 simp only[Bool.and_eq_true,Bool.not_eq_true'] at h
 obtain⟨i,hi⟩:=List.getElem?_of_mem hq
 have:Zp4 n l i q=false:=by
  cases hb:Zp4 n l i q with
  | false=>rfl
  | true=>rw[(ZkV _ _ 0).2 ⟨i,q,hi,by simpa using hb⟩] at h; exact absurd h.1 (by simp)
 unfold Zp4 Zd8 at this
 simp only[Bool.or_eq_false_iff,Bool.not_eq_false',Bool.and_eq_true,decide_eq_true_eq] at this
 omega
theorem ZrK {d:Zt} (h:Zh4 d=0):ZeI d:=by
 have g:=ZqV h
 unfold Zh4 at h
 have all:Zl8 d=true∧d.barriers.any (ZgE d.parts.length)=false∧d.parts.any Zhd=false:=by
  revert h
  cases Zl8 d<;>cases Zpv d<;>cases d.parts.any Zhd<;>cases Zh3 (ZhG d) 0 d.edges<;>cases Zh3 (Zfi d) 0 d.futures<;>cases d.barriers.any (ZgE d.parts.length)<;>simp
 have hb:∀b∈d.barriers,ZlW d.parts.length b.ins=true∧ZlW d.parts.length b.outs=true∧b.ins.any (Zpw b)=false:=fun b hb=>by
  have:=List.any_eq_false.1 all.2.1 b hb
  simp only[ZgE,Bool.or_eq_true,Bool.not_eq_true',not_or,Bool.not_eq_false,Bool.not_eq_true] at this
  exact this
 have m:=all.1
 unfold Zl8 Zd8 at m
 simp only[Bool.and_eq_true,decide_eq_true_eq,Bool.not_eq_true',decide_eq_false_iff_not] at m
 refine⟨g,fun b h1=>Zvn (hb b h1).1,fun b h1=>Zvn (hb b h1).2.1,fun b h1 q h2 h3=>?_,by omega,by omega,by omega,by omega,by omega,fun p hp=>?_⟩
 case refine_2=>
  have:=List.any_eq_false.1 all.2.2 p hp
  simp only[Zhd,Zd8,Bool.not_eq_true,Bool.not_eq_false',Bool.and_eq_true,decide_eq_true_eq] at this
  exact this.2.1
 have:=List.any_eq_false.1 (hb b h1).2.2 q h2
 unfold Zpw at this
 exact this (List.any_eq_true.2 ⟨q,h3,by simp⟩)
def inR (d:Zt) (p:Int):Prop:=0≤p∧p.toNat<d.parts.length
theorem ZeI.src {d:Zt} (g:ZeI d) {e:Zr} (h:e∈d.edges):inR d e.src:=(Zo7 (g.g.e e h)).1
theorem ZeI.dst {d:Zt} (g:ZeI d) {e:Zr} (h:e∈d.edges):inR d e.dst:=(Zo7 (g.g.e e h)).2.1
theorem ZeI.maker {d:Zt} (g:ZeI d) {f:Zk} (h:f∈d.futures):inR d f.maker:=(Zo7 (g.g.f f h).1).1
theorem ZeI.user {d:Zt} (g:ZeI d) {f:Zk} (h:f∈d.futures):inR d f.user:=(Zo7 (g.g.f f h).1).2.1
theorem ZeI.short {d:Zt} (g:ZeI d) (hs:∀b∈d.barriers,ZyR b):Zk6 d:=⟨by have:=g.pl; omega,by have:=g.el; omega,by have:=g.fl; omega,by have:=g.bl; omega,hs⟩
end Go.Proofs.YtljgncbdagmeeaaDoor
namespace Go.Proofs.YtljgncbdagmeeaaDoor
open Go Go.Proofs.YtljgncbdagmeeaaDoorE
set_option linter.unusedVariables false
set_option linter.unusedSimpArgs false
def ZkS (n:Nat) (x:Int):Bool:=decide (0≤x)&&decide (x<(n:Int))
end Go.Proofs.YtljgncbdagmeeaaDoor
namespace Go.Proofs.YtljgncbdagmeeaaDoor
open Go Go.Proofs.YtljgncbdagmeeaaDoorE
set_option linter.unusedVariables false
set_option linter.unusedSimpArgs false
theorem ZvJ {γ:Type} (p:γ→Bool):∀(l:List γ) (i:Nat),(sel p (fun i _=>(i:Int)) i l).Pairwise (fun x y=>x<y)∧∀z∈sel p (fun i _=>(i:Int)) i l,(i:Int)≤z:=by
 intro l
 induction l with
 | nil=>intro i; simp[sel]
 | cons x l ih=>
  intro i
  obtain⟨h1,h2⟩:=ih (i+1)
  unfold sel
  cases p x with
  | true=>
   simp only[cond_true,List.pairwise_cons,List.mem_cons]
   refine⟨⟨fun z hz=>?_,h1⟩,?_⟩
   ·have:=h2 z hz; omega
   ·rintro z (rfl | hz)
    ·exact Int.le_refl _
    ·have:=h2 z hz; omega
  | false=>
   simp only[cond_false]
   exact⟨h1,fun z hz=>by have:=h2 z hz; omega⟩
def ZnO (d:Zt) (u:Int) (t:Int):List Int:=sel (fun f:Zk=>f.user==u&&f.pos==t) (fun i _=>(i:Int)) 0 d.futures
theorem Znj (d:Zt) (u t z:Int):z∈ZnO d u t↔∃(i:Nat) (f:Zk),d.futures[i]? = some f∧f.user=u∧f.pos=t∧z=(i:Int):=by
 unfold ZnO
 rw[Zn6]
 simp[and_assoc]
theorem Zlu {d:Zt} {u t z:Int} (h:z∈ZnO d u t):Zf1 d.futures z=t:=by
 obtain⟨i,f,h1,_,h3,rfl⟩:=(Znj d u t z).1 h
 unfold Zf1
 rw[Int.toNat_natCast,h1,← h3]
theorem ZoZ {d:Zt} {u t z:Int} (h:z∈ZnO d u t):∃(i:Nat) (f:Zk),d.futures[i]? = some f∧f.user=u∧z=(i:Int):=by
 obtain⟨i,f,h1,h2,_,h4⟩:=(Znj d u t z).1 h
 exact⟨i,f,h1,h2,h4⟩
def tl (d:Zt) (u:Int):Nat→Nat→List Int
 | _,0=>[]
 | i,k+1=>ZnO d u ((i+1:Nat):Int)++tl d u (i+1) k
theorem ZsQ (d:Zt) (u z:Int):∀(k i:Nat),z∈tl d u i k↔∃t:Nat,i<t∧t≤i+k∧z∈ZnO d u (t:Int)
 | 0,i=>by
  unfold tl
  constructor
  ·intro h; cases h
  ·rintro ⟨t,h1,h2,_⟩; omega
 | k+1,i=>by
  unfold tl
  rw[List.mem_append,ZsQ d u z k (i+1)]
  constructor
  ·rintro (h | ⟨t,h1,h2,h3⟩)
   ·exact⟨i+1,by omega,by omega,h⟩
   ·exact⟨t,by omega,by omega,h3⟩
  ·rintro ⟨t,h1,h2,h3⟩
   by_cases h:t=i+1
   ·subst h; exact .inl h3
   ·exact .inr ⟨t,by omega,by omega,h3⟩
theorem Zur {d:Zt} (g:ZlI d) (u:Int):∀(k i:Nat),(tl d u i k).Pairwise (fun x y=>Zf1 d.futures x<Zf1 d.futures y)
 | 0,i=>List.Pairwise.nil
 | k+1,i=>by
  unfold tl
  rw[List.pairwise_append]
  refine⟨?_,Zur g u k (i+1),fun x hx y hy=>?_⟩
  ·refine Zrw (ZvJ _ _ _).1 fun x y hx hy hlt=>?_
   have hx':x∈ZnO d u ((i+1:Nat):Int):=hx
   have hy':y∈ZnO d u ((i+1:Nat):Int):=hy
   exact absurd ((Zlu hx').trans (Zlu hy').symm) (Zxo g (ZoZ hx') (ZoZ hy') (by omega))
  ·obtain⟨t,h1,h2,h3⟩:=(ZsQ d u y k (i+1)).1 hy
   rw[Zlu hx,Zlu h3]
   omega
theorem Zta {d:Zt} (g:ZlI d) (u:Int):Zho d u (tl d u 0 99):=by
 refine⟨fun z=>?_,Zur g u 99 0⟩
 rw[ZsQ]
 constructor
 ·rintro ⟨t,_,_,h⟩; exact ZoZ h
 ·rintro ⟨i,f,h1,h2,h3⟩
  have hf:=g.f f (List.mem_of_getElem? h1)
  have hw:=Zlw g f.user
  refine⟨f.pos.toNat,by omega,by omega,?_⟩
  rw[Znj]
  exact⟨i,f,h1,h2,by omega,h3⟩
end Go.Proofs.YtljgncbdagmeeaaDoor
namespace Go.Proofs.YtljgncbdagmeeaaDoor
open Go Go.Proofs.YtljgncbdagmeeaaDoorE
set_option linter.unusedVariables false
set_option linter.unusedSimpArgs false
def ZnS {γ S:Type} (f:Nat→S→γ→S):Nat→S→List γ→S
 | _,s,[]=>s
 | i,s,x :: l=>ZnS f (i+1) (f i s x) l
theorem ZvV {γ S T R:Type} (l:List γ) (step:T→Option (T⊕R)) (st:Nat→S→T) (f:Nat→S→γ→S) (fin:S→R) (I:Nat→S→Prop)
  (h1:∀i x s,i<l.length→l[i]? = some x→I i s→step (st i s)=some (.inl (st (i+1) (f i s x)))∧I (i+1) (f i s x))
  (h2:∀s,I l.length s→step (st l.length s)=some (.inr (fin s))) (s:S) (h0:I 0 s) :
  lp step (st 0 s)=some (fin (ZnS f 0 s l))∧I l.length (ZnS f 0 s l):=by
 have key:∀(k i:Nat) (s:S),i+k=l.length→I i s→lp step (st i s)=some (fin (ZnS f i s (l.drop i)))∧I l.length (ZnS f i s (l.drop i)):=by
  intro k
  induction k with
  | zero=>
   intro i s hi hI
   have:i=l.length:=by omega
   subst this
   rw[List.drop_length,Zcb,h2 s hI]
   exact⟨rfl,hI⟩
  | succ k ih=>
   intro i s hi hI
   have hi':i<l.length:=by omega
   obtain⟨e,hI'⟩:=h1 i l[i] s hi' (List.getElem?_eq_getElem hi') hI
   rw[List.drop_eq_getElem_cons hi',Zcb,e]
   exact ih (i+1) _ (by omega) hI'
 have:=key l.length 0 s (by omega) h0
 rwa [List.drop_zero] at this
def ZiG (w:Int):Bool:=decide (w<0) || decide (1000<w)
def ZnV (g:Zb3) (i:Nat) (e:Zr):Bool:=!(ZkS g.work.length e.src) || (!(ZkS g.work.length e.dst) || ((e.src==e.dst) || (g.edges.take i).any (Zow e)))
def Zle (g:Zb3):Int:=bif decide (64<(g.work.length:Int)) || decide (256<(g.edges.length:Int)) then 40 else bif g.work.any ZiG then 41 else bif Zh3 (ZnV g) 0 g.edges then 42 else 0
structure Zrc (g:Zb3):Prop where
 w:g.work.length<9223372036854775808
 e:g.edges.length<9223372036854775808
theorem Zvw (w:Int):ZdW w=some (ZiG w):=by
 unfold ZdW ZiG
 cases decide (w<0)<;>cases decide (1000<w)<;>rfl
theorem Zxf (a:Int) (l:List Int):Zgg a l=some (ZkS l.length a):=by
 unfold Zgg ZkS
 cases decide (0≤a)<;>cases decide (a<(l.length:Int))<;>rfl
theorem Zsz (g:Zb3) (h:Zrc g):lp (Ze8 g) 0=some (bif Zh3 (ZnV g) 0 g.edges then .inl () else .inr ()):=by
 have key:=Zhw g.edges (Ze8 g) (ZnV g) (fun _ _=>.inl ()) (.inr ()) (fun i x hi hx=>by
   have e0:decide ((0:Int)≤(i:Int))=true:=decide_eq_true (by omega)
   have e1:Nat.ble i g.edges.length=true:=Nat.ble_eq_true_of_le (by omega)
   simp only[Ze8,Zgw hi,ZbT hx,Option.bind_some,ZaN hi h.e,cond_true,Zxf,ZnV,e0,Int.toNat_natCast,e1,Zqx _ x (Zmg h.e)]
   cases ZkS g.work.length x.src<;>cases ZkS g.work.length x.dst<;>cases (x.src==x.dst)<;>cases (g.edges.take i).any (Zow x)<;>rfl) (by simp only[Ze8,ZhN]; rfl)
 rw[key,Zf6]
inductive Way (g:Zb3):Int→Int→Prop
 | one {e:Zr}:e∈g.edges→Way g e.src e.dst
 | more {a:Int} {e:Zr}:Way g a e.src→e∈g.edges→Way g a e.dst
theorem Way.trans {g:Zb3} {a b c:Int} (h1:Way g a b) (h2:Way g b c):Way g a c:=by
 induction h2 with
 | one he=>exact Way.more h1 he
 | more _ he ih=>exact Way.more (ih h1) he
def Zor (g:Zb3):Prop:=∀a,¬Way g a a
structure Ziy (g:Zb3):Prop where
 wl:g.work.length≤64
 el:g.edges.length≤256
 w:∀x∈g.work,0≤x∧x≤1000
 src:∀e∈g.edges,0≤e.src∧e.src.toNat<g.work.length
 dst:∀e∈g.edges,0≤e.dst∧e.dst.toNat<g.work.length
theorem Ziy.short {g:Zb3} (h:Ziy g):Zrc g:=⟨by have:=h.wl; omega,by have:=h.el; omega⟩
theorem Zqd {n:Nat} {a:Int} (h:ZkS n a=true):0≤a∧a.toNat<n:=by
 unfold ZkS at h
 simp only[Bool.and_eq_true,decide_eq_true_eq] at h
 omega
theorem ZrC {g:Zb3} (h:Zle g=0):Ziy g:=by
 unfold Zle at h
 cases h1:decide (64<(g.work.length:Int)) with
 | true=>rw[h1] at h; simp at h
 | false=>
 cases h2:decide (256<(g.edges.length:Int)) with
 | true=>rw[h1,h2] at h; simp at h
 | false=>
 cases h3:g.work.any ZiG with
 | true=>rw[h1,h2,h3] at h; simp at h
 | false=>
 cases h4:Zh3 (ZnV g) 0 g.edges with
 | true=>rw[h1,h2,h3,h4] at h; simp at h
 | false=>
 have hE:∀e∈g.edges,∃i,ZnV g i e=false:=fun e he=>by
  obtain⟨i,hi⟩:=List.getElem?_of_mem he
  refine⟨i,?_⟩
  cases hb:ZnV g i e with
  | false=>rfl
  | true=>rw[(ZkV _ _ 0).2 ⟨i,e,hi,by simpa using hb⟩] at h4; cases h4
 refine⟨by have:=of_decide_eq_false h1; omega,by have:=of_decide_eq_false h2; omega,fun x hx=>?_,fun e he=>?_,fun e he=>?_⟩
 ·have:=List.any_eq_false.1 h3 x hx
  unfold ZiG at this
  simp only[Bool.or_eq_true,decide_eq_true_eq,not_or] at this
  omega
 ·obtain⟨i,hi⟩:=hE e he
  unfold ZnV at hi
  simp only[Bool.or_eq_false_iff,Bool.not_eq_false'] at hi
  exact Zqd hi.1
 ·obtain⟨i,hi⟩:=hE e he
  unfold ZnV at hi
  simp only[Bool.or_eq_false_iff,Bool.not_eq_false'] at hi
  exact Zqd hi.2.1
theorem Way.dst_in {g:Zb3} (h:Ziy g) {a b:Int} (w:Way g a b):0≤b∧b.toNat<g.work.length:=by
 cases w with
 | one he=>exact h.dst _ he
 | more _ he=>exact h.dst _ he
theorem Way.src_in {g:Zb3} (h:Ziy g) {a b:Int} (w:Way g a b):0≤a∧a.toNat<g.work.length:=by
 induction w with
 | one he=>exact h.src _ he
 | more _ _ ih=>exact ih
theorem Zww {g:Zb3} (hg:Zor g):∀(n:Nat) (S:List Int),S.length≤n→S≠[]→∃m∈S,∀e∈g.edges,e.dst=m→e.src∉S:=by
 intro n
 induction n with
 | zero=>intro S h1 h2; exact absurd (List.length_eq_zero_iff.1 (by omega)) h2
 | succ n ih=>
  intro S h1 h2
  obtain⟨m,hm⟩:=List.exists_mem_of_ne_nil S h2
  classical
  by_cases hS:(S.filter fun x=>decide (Way g x m))=[]
  ·refine⟨m,hm,fun e he hd hs=>?_⟩
   have:e.src∈S.filter fun x=>decide (Way g x m):=List.mem_filter.2 ⟨hs,decide_eq_true (hd ▸ Way.one he)⟩
   rw[hS] at this
   cases this
  ·have hlt:(S.filter fun x=>decide (Way g x m)).length<S.length:=by
    refine Nat.lt_of_le_of_ne (List.length_filter_le _ _) fun he=>?_
    have:=List.length_filter_eq_length_iff.1 he m hm
    exact hg m (of_decide_eq_true this)
   obtain⟨k,hk,hk2⟩:=ih _ (by omega) hS
   obtain⟨k1,k2⟩:=List.mem_filter.1 hk
   refine⟨k,k1,fun e he hd hs=>hk2 e he hd (List.mem_filter.2 ⟨hs,decide_eq_true ?_⟩)⟩
   exact(hd ▸ Way.one he:Way g e.src k).trans (of_decide_eq_true k2)
def bAt (l:List Bool) (z:Int):Bool:=match l[z.toNat]? with | some b=>b | none=>false
def ZnD (g:Zb3) (done:List Bool) (i:Nat):Bool:=!(bAt done (i:Int)) && !(g.edges.any fun e=>(e.dst==(i:Int)) && !(bAt done e.src))
def ZnH (g:Zb3) (done:List Bool):Option Nat:=ZiN (fun i _=>ZnD g done i) (fun i _=>some i) none 0 g.work
def Zne (g:Zb3):Nat→List Int→List Bool→Option (List Int)
 | 0,out,_=>some out
 | k+1,out,done=>(match ZnH g done with | some i=>Zne g k (out++[(i:Int)]) (done.set i true) | none=>none)
theorem ZrU {γ R S:Type} (p:Nat→γ→Bool) (out:Nat→γ→R) (fin:R) (F:R→S):∀(l:List γ) (i:Nat),F (ZiN p out fin i l)=ZiN p (fun i x=>F (out i x)) (F fin) i l
 | [],i=>rfl
 | x :: l,i=>by
  unfold ZiN
  cases p i x with
  | true=>rfl
  | false=>exact ZrU p out fin F l (i+1)
theorem Zqv {γ:Type} (p:Nat→γ→Bool):∀(l:List γ) (i k:Nat),ZiN p (fun i _=>some i) none i l=some k→i≤k∧k<i+l.length∧∃x,l[k-i]? = some x∧p k x=true
 | [],i,k,h=>by cases h
 | x :: l,i,k,h=>by
  unfold ZiN at h
  cases hp:p i x with
  | true=>
   rw[hp] at h
   cases h
   exact⟨Nat.le_refl _,by simp,x,by simp,hp⟩
  | false=>
   rw[hp] at h
   obtain⟨h1,h2,y,h3,h4⟩:=Zqv p l (i+1) k h
   refine⟨by omega,by simp only[List.length_cons]; omega,y,?_,h4⟩
   rw[show k-i=(k-(i+1))+1 by omega]
   exact h3
theorem Zp1 {γ:Type} (p:Nat→γ→Bool):∀(l:List γ) (i:Nat),ZiN p (fun i _=>some i) none i l=none→∀(j:Nat) x,l[j]? = some x→p (i+j) x=false
 | [],i,h,j,x,hx=>by cases hx
 | y :: l,i,h,j,x,hx=>by
  unfold ZiN at h
  cases hp:p i y with
  | true=>rw[hp] at h; cases h
  | false=>
   rw[hp] at h
   cases j with
   | zero=>cases hx; exact hp
   | succ j=>
    have:=Zp1 p l (i+1) h j x hx
    rwa [show i+1+j=i+(j+1) by omega] at this
theorem Zt4 {g:Zb3} {done:List Bool} (hd:done.length=g.work.length) {z:Int} (h:0≤z∧z.toNat<g.work.length):Zy done z=some (bAt done z):=by
 have e:=List.getElem?_eq_getElem (show z.toNat<done.length by rw[hd]; exact h.2)
 rw[Zrj h.1 e]
 unfold bAt
 rw[e]
theorem ZzQ {g:Zb3} (h:Ziy g) (out:List Int) (ho:out.length<g.work.length) (done:List Bool) (hd:done.length=g.work.length) :
  lp (ZeT g (out,done)) 0=some (match ZnH g done with | some i=>.inl (out++[(i:Int)],done.set i true) | none=>.inr ()):=by
 have key:=Zhw g.work (ZeT g (out,done)) (fun i _=>ZnD g done i) (fun i _=>.inl (out++[(i:Int)],done.set i true)) (.inr ()) (fun i x hi hx=>by
   have inner:=Zhw g.edges (ZfU g (out,done) (i:Int)) (fun _ e=>(e.dst==(i:Int)) && !(bAt done e.src)) (fun _ _=>.inl ()) (.inr ()) (fun k e hk he=>by
     simp only[ZfU,Zgw hk,ZbT he,Option.bind_some,ZaN hk h.short.e,cond_true,Zt4 hd (h.src e (List.mem_of_getElem? he))]
     cases (e.dst==(i:Int))<;>cases bAt done e.src<;>rfl) (by simp only[ZfU,ZhN]; rfl)
   rw[Zf6,ZkQ] at inner
   have hl:=h.wl
   simp only[ZeT,Zgw hi,Zt4 hd (z:=(i:Int)) ⟨by omega,by simpa using hi⟩,Option.bind_some,ZaN hi h.short.w,cond_true,inner,Zji (show out.length+1≤1073741824 by omega),Int.toNat_natCast,ZnD]
   cases bAt done (i:Int)<;>cases g.edges.any (fun e=>(e.dst==(i:Int)) && !(bAt done e.src))<;>rfl) (by simp only[ZeT,ZhN]; rfl)
 rw[key]
 unfold ZnH
 exact congrArg some (ZrU (fun i _=>ZnD g done i) (fun i _=>some i) none (fun o:Option Nat=>(match o with | some i=>(.inl (out++[(i:Int)],done.set i true):(List Int×List Bool)⊕Unit) | none=>.inr ())) g.work 0).symm
theorem Zuo {g:Zb3} (h:Ziy g):∀(k:Nat) (out:List Int) (done:List Bool),out.length+k=g.work.length→done.length=g.work.length →
  ∃r,lp (ZfW g) (out,done)=some r∧(match Zne g k out done with | some l=>r = .inr l | none=>∃l,r = .inl l)
 | 0,out,done,h1,h2=>by
  rw[Zcb]
  simp only[ZfW,show out.length=g.work.length by omega,ZhN,cond_false]
  exact⟨_,rfl,rfl⟩
 | k+1,out,done,h1,h2=>by
  rw[Zcb]
  simp only[ZfW,Zgw (show out.length<g.work.length by omega),cond_true,ZzQ h out (by omega) done h2,Option.bind_some]
  unfold Zne
  cases ZnH g done with
  | none=>exact⟨_,rfl,_,rfl⟩
  | some i=>exact Zuo h k (out++[(i:Int)]) (done.set i true) (by rw[List.length_append]; simp only[List.length_cons,List.length_nil]; omega) (by rw[List.length_set]; exact h2)
theorem Zug {g:Zb3} (h:Ziy g):ZfZ g=some (match Zne g g.work.length [] (List.replicate g.work.length false) with | some l=>(l,true) | none=>([],false)):=by
 obtain⟨r,e,hr⟩:=Zuo h g.work.length [] (List.replicate g.work.length false) (by simp) (by simp)
 have hl:=h.wl
 unfold ZfZ
 rw[decide_eq_true (show(0:Int)≤(g.work.length:Int) by omega),decide_eq_true (show(g.work.length:Int)≤lim by show(g.work.length:Int)≤1073741824; omega),beq_self_eq_true]
 simp only[decide_true,Bool.and_true,cond_true,Int.toNat_natCast,e,Option.bind_some]
 cases ho:Zne g g.work.length [] (List.replicate g.work.length false) with
 | some l=>rw[ho] at hr; simp only at hr; subst hr; rfl
 | none=>rw[ho] at hr; obtain⟨l,rfl⟩:=hr; rfl
structure ZgN (g:Zb3) (out:List Int) (done:List Bool):Prop where
 dl:done.length=g.work.length
 mem:∀i:Nat,bAt done (i:Int)=true↔(i:Int)∈out
 inn:∀z∈out,0≤z∧z.toNat<g.work.length
 nod:out.Nodup
 topo:∀(i:Nat) (n:Int),out[i]? = some n→∀e∈g.edges,e.dst=n→∃j,j<i∧out[j]? = some e.src
theorem ZyD {done:List Bool} {i:Nat} (hi:i<done.length) (z:Int) (hz:0≤z):bAt (done.set i true) z=(decide (z=(i:Int)) || bAt done z):=by
 unfold bAt
 rw[List.getElem?_set]
 by_cases h:i=z.toNat
 ·subst h
  rw[if_pos rfl,if_pos hi,decide_eq_true (show z=((z.toNat:Nat):Int) by omega)]; rfl
 ·rw[if_neg h,decide_eq_false (show ¬z=(i:Int) by omega)]; rfl
theorem ZgN.start (g:Zb3):ZgN g [] (List.replicate g.work.length false):=by
 refine⟨by simp,fun i=>?_,by simp,by simp,by simp⟩
 unfold bAt
 rw[List.getElem?_replicate]
 by_cases h:((i:Int)).toNat<g.work.length
 ·rw[if_pos h]; simp
 ·rw[if_neg h]; simp
theorem ZgN.next {g:Zb3} (h:Ziy g) {out:List Int} {done:List Bool} (o:ZgN g out done) {i:Nat} (hn:ZnH g done=some i):ZgN g (out++[(i:Int)]) (done.set i true):=by
 obtain⟨_,hi,x,_,hp⟩:=Zqv _ _ _ _ hn
 rw[Nat.zero_add] at hi
 unfold ZnD at hp
 simp only[Bool.and_eq_true,Bool.not_eq_true',List.any_eq_false,Bool.not_eq_true] at hp
 have hid:i<done.length:=by rw[o.dl]; exact hi
 have hnot:(i:Int)∉out:=fun hm=>by have:=(o.mem i).2 hm; rw[hp.1] at this; cases this
 refine⟨by rw[List.length_set]; exact o.dl,fun j=>?_,fun z hz=>?_,?_,fun k n hk e he hd=>?_⟩
 ·rw[ZyD hid (j:Int) (by omega),Bool.or_eq_true,decide_eq_true_eq,o.mem,List.mem_append,List.mem_singleton]
  exact Or.comm
 ·rcases List.mem_append.1 hz with hz | hz
  ·exact o.inn z hz
  ·rw[List.mem_singleton] at hz; subst hz; exact⟨by omega,by simpa using hi⟩
 ·rw[List.nodup_append]
  refine⟨o.nod,by simp,fun a ha b hb=>?_⟩
  rw[List.mem_singleton] at hb
  subst hb
  exact fun hab=>hnot (hab ▸ ha)
 ·rcases Nat.lt_or_ge k out.length with hk2 | hk2
  ·rw[List.getElem?_append_left hk2] at hk
   obtain⟨j,h1,h2⟩:=o.topo k n hk e he hd
   exact⟨j,h1,by rw[List.getElem?_append_left (by omega)]; exact h2⟩
  ·rw[List.getElem?_append_right hk2] at hk
   have hk0:k-out.length=0:=by
    rcases Nat.eq_zero_or_pos (k-out.length) with h0 | h0
    ·exact h0
    ·rw[List.getElem?_eq_none (by simp only[List.length_cons,List.length_nil]; omega)] at hk; cases hk
   rw[hk0] at hk
   simp only[List.getElem?_cons_zero,Option.some.injEq] at hk
   subst hk
   have hs:=hp.2 e he
   rw[hd] at hs
   have hs:bAt done e.src=true:=by simpa using hs
   have hsr:=h.src e he
   have:=(o.mem e.src.toNat).1 (by rw[show((e.src.toNat:Nat):Int)=e.src by omega]; exact hs)
   rw[show((e.src.toNat:Nat):Int)=e.src by omega] at this
   obtain⟨j,hj⟩:=List.getElem?_of_mem this
   have hjl:=(List.getElem?_eq_some_iff.1 hj).1
   exact⟨j,by omega,by rw[List.getElem?_append_left hjl]; exact hj⟩
theorem ZgN.way {g:Zb3} {out:List Int} {done:List Bool} (o:ZgN g out done) {a b:Int} (w:Way g a b):∀j:Nat,out[j]? = some b→∃i,i<j∧out[i]? = some a:=by
 induction w with
 | one he=>intro j hj; exact o.topo j _ hj _ he rfl
 | more _ he ih=>
  intro j hj
  obtain⟨i,h1,h2⟩:=o.topo j _ hj _ he rfl
  obtain⟨k,h3,h4⟩:=ih i h2
  exact⟨k,by omega,h4⟩
theorem Zvc {l:List Int} (h:l.Nodup) {i j:Nat} {a:Int} (h1:l[i]? = some a) (h2:l[j]? = some a):i=j:=by
 obtain⟨a1,a2⟩:=List.getElem?_eq_some_iff.1 h1
 obtain⟨b1,b2⟩:=List.getElem?_eq_some_iff.1 h2
 exact(List.getElem_inj h).1 (a2.trans b2.symm)
def Zxw (n:Nat) (done:List Bool):List Int:=((List.range n).filter fun i:Nat=>!bAt done (i:Int)).map fun i:Nat=>(i:Int)
theorem Zo6 {n:Nat} {done:List Bool} {i:Nat} (h1:i<n) (h2:bAt done (i:Int)=false):(i:Int)∈Zxw n done:=
 List.mem_map.2 ⟨i,List.mem_filter.2 ⟨List.mem_range.2 h1,by rw[h2]; rfl⟩,rfl⟩
theorem Zvk {g:Zb3} (h:Ziy g) (hg:Zor g) {out:List Int} {done:List Bool} (o:ZgN g out done) (i0:Nat) (hi0:i0<g.work.length) (hb:bAt done (i0:Int)=false):∃i,ZnH g done=some i:=by
 cases hn:ZnH g done with
 | some i=>exact⟨i,rfl⟩
 | none=>
  exfalso
  have hall:=Zp1 _ _ _ hn
  obtain⟨m,hm,hm2⟩:=Zww hg _ (Zxw g.work.length done) (Nat.le_refl _) (by
   intro he
   have:=Zo6 hi0 hb
   rw[he] at this; cases this)
  obtain⟨k,hk,rfl⟩:=List.mem_map.1 hm
  obtain⟨hk1,hk2⟩:=List.mem_filter.1 hk
  rw[List.mem_range] at hk1
  have hr:=hall k g.work[k] (List.getElem?_eq_getElem hk1)
  rw[Nat.zero_add] at hr
  unfold ZnD at hr
  rw[hk2,Bool.true_and,Bool.not_eq_false',List.any_eq_true] at hr
  obtain⟨e,he,he2⟩:=hr
  simp only[Bool.and_eq_true,beq_iff_eq] at he2
  have hsr:=h.src e he
  refine hm2 e he he2.1 ?_
  have es:((e.src.toNat:Nat):Int)=e.src:=by omega
  rw[← es]
  exact Zo6 hsr.2 (by rw[es]; simpa using he2.2)
theorem ZxI {n:Nat} {out:List Int} (h1:out.Nodup) (h2:∀z∈out,0≤z∧z.toNat<n):(out.length≤n)∧(out.length=n→∀i:Nat,i<n→(i:Int)∈out):=by
 induction n generalizing out with
 | zero=>
  refine⟨?_,fun _ i hi=>absurd hi (by omega)⟩
  cases out with
  | nil=>simp
  | cons z l=>have:=h2 z (by simp); omega
 | succ n ih=>
  by_cases hm:(n:Int)∈out
  ·have e1:(out.erase (n:Int)).length=out.length-1:=List.length_erase_of_mem hm
   have pos:0<out.length:=List.length_pos_of_mem hm
   obtain⟨a,b⟩:=ih (out:=out.erase (n:Int)) (h1.erase _) (fun z hz=>by
    have hz2:=(List.Nodup.mem_erase_iff h1).1 hz
    have:=h2 z hz2.2
    have:=hz2.1
    omega)
   refine⟨by omega,fun hl i hi=>?_⟩
   by_cases hin:i=n
   ·subst hin; exact hm
   ·exact List.mem_of_mem_erase (b (by omega) i (by omega))
  ·obtain⟨a,b⟩:=ih (out:=out) h1 (fun z hz=>by
    have:=h2 z hz
    have:z≠(n:Int):=fun he=>hm (he ▸ hz)
    omega)
   exact⟨by omega,fun hl=>by omega⟩
theorem ZxG:∀(n:Nat) (out:List Int),(∀i:Nat,i<n→(i:Int)∈out)→n≤out.length
 | 0,out,h=>by omega
 | n+1,out,h=>by
  have hm:=h n (by omega)
  have e1:(out.erase (n:Int)).length=out.length-1:=List.length_erase_of_mem hm
  have pos:0<out.length:=List.length_pos_of_mem hm
  have:=ZxG n (out.erase (n:Int)) (fun i hi=>(List.mem_erase_of_ne (by omega)).2 (h i (by omega)))
  omega
theorem Zl2 {g:Zb3} (h:Ziy g):∀(k:Nat) (out:List Int) (done:List Bool),ZgN g out done→out.length+k=g.work.length→(∀l,Zne g k out done=some l→∃done',ZgN g l done'∧l.length=g.work.length)∧(Zor g→∃l,Zne g k out done=some l)
 | 0,out,done,o,hl=>⟨fun l h=>by cases h; exact⟨done,o,by omega⟩,fun _=>⟨out,rfl⟩⟩
 | k+1,out,done,o,hl=>by
  unfold Zne
  cases hn:ZnH g done with
  | none=>
   refine⟨fun l h=>(by cases h),fun hg=>?_⟩
   exfalso
   have hex:∃i0,i0<g.work.length∧(i0:Int)∉out:=by
    apply Classical.byContradiction
    intro hc
    have hc2:∀i0,i0<g.work.length→(i0:Int)∈out:=fun i0 hi=>Classical.byContradiction fun hx=>hc ⟨i0,hi,hx⟩
    have sub:=ZxG g.work.length out hc2
    omega
   obtain⟨i0,h1,h2⟩:=hex
   obtain⟨i,hi⟩:=Zvk h hg o i0 h1 (by
    cases hb:bAt done (i0:Int) with
    | false=>rfl
    | true=>exact absurd ((o.mem i0).1 hb) h2)
   rw[hn] at hi
   cases hi
  | some i=>
   exact Zl2 h k _ _ (o.next h hn) (by rw[List.length_append]; simp only[List.length_cons,List.length_nil]; omega)
theorem Zx1 {g:Zb3} (h:Ziy g) {l:List Int} {done:List Bool} (o:ZgN g l done) (hl:l.length=g.work.length):Zor g:=by
 intro a w
 have ha:=w.src_in h
 have hm:=(ZxI o.nod o.inn).2 hl a.toNat ha.2
 rw[show((a.toNat:Nat):Int)=a by omega] at hm
 obtain⟨j,hj⟩:=List.getElem?_of_mem hm
 obtain⟨i,h1,h2⟩:=o.way w j hj
 have:=Zvc o.nod h2 hj
 omega
structure ZA6 (g:Zb3) (l:List Int):Prop where
 len:l.length=g.work.length
 all:∀i:Nat,i<g.work.length→(i:Int)∈l
 inn:∀z∈l,0≤z∧z.toNat<g.work.length
 nod:l.Nodup
 topo:∀(i:Nat) (n:Int),l[i]? = some n→∀e∈g.edges,e.dst=n→∃j,j<i∧l[j]? = some e.src
theorem ZpU {g:Zb3} (h:Ziy g) (hg:Zor g):∃l,ZfZ g=some (l,true)∧ZA6 g l:=by
 obtain⟨k1,k2⟩:=Zl2 h g.work.length [] _ (ZgN.start g) (by simp)
 obtain⟨l,hl⟩:=k2 hg
 obtain⟨done,o,hn⟩:=k1 l hl
 exact⟨l,by rw[Zug h,hl],hn,(ZxI o.nod o.inn).2 hn,o.inn,o.nod,o.topo⟩
theorem ZxT {g:Zb3} (h:Ziy g) (hg:¬Zor g):ZfZ g=some ([],false):=by
 rw[Zug h]
 cases ho:Zne g g.work.length [] (List.replicate g.work.length false) with
 | none=>rfl
 | some l=>
  obtain⟨done,o,hn⟩:=(Zl2 h g.work.length [] _ (ZgN.start g) (by simp)).1 l ho
  exact absurd (Zx1 h o hn) hg
noncomputable def ZvU (g:Zb3):Bool:=@decide (Zor g) (Classical.propDecidable _)
theorem Zyj {g:Zb3} (h:Zor g):ZvU g=true:=@decide_eq_true _ (Classical.propDecidable _) h
theorem ZtB {g:Zb3} (h:¬Zor g):ZvU g=false:=@decide_eq_false _ (Classical.propDecidable _) h
noncomputable def ZjG (g:Zb3):Int:=bif Zle g==0 then (bif ZvU g then 0 else 43) else Zle g
theorem Zqc {g:Zb3} (h:ZjG g=0):Ziy g∧Zor g:=by
 unfold ZjG at h
 by_cases h0:Zle g=0
 ·rw[h0] at h
  refine⟨ZrC h0,Classical.byContradiction fun hn=>?_⟩
  rw[ZtB hn] at h
  simp at h
 ·rw[beq_false_of_ne h0] at h
  exact absurd h h0
theorem Zos (g:Zb3) (h:Zrc g):Zhp g=some (ZjG g):=by
 have hw:=Zl0 g.work (fun z0=>ZdW z0) ZiG (fun x _=>Zvw x) h.w
 unfold Zhp ZjG
 rw[hw,Zsz g h]
 by_cases h0:Zle g=0
 ·have hG:=ZrC h0
  rw[h0]
  unfold Zle at h0
  by_cases hg:Zor g
  ·obtain⟨l,e,_⟩:=ZpU hG hg
   rw[e,Zyj hg]
   revert h0
   cases decide (64<(g.work.length:Int))<;>cases decide (256<(g.edges.length:Int))<;>cases g.work.any ZiG<;>cases Zh3 (ZnV g) 0 g.edges<;>simp
  ·rw[ZxT hG hg,ZtB hg]
   revert h0
   cases decide (64<(g.work.length:Int))<;>cases decide (256<(g.edges.length:Int))<;>cases g.work.any ZiG<;>cases Zh3 (ZnV g) 0 g.edges<;>simp
 ·rw[beq_false_of_ne h0]
  unfold Zle at h0 ⊢
  revert h0
  cases decide (64<(g.work.length:Int))<;>cases decide (256<(g.edges.length:Int))<;>cases g.work.any ZiG<;>cases Zh3 (ZnV g) 0 g.edges<;>simp
end Go.Proofs.YtljgncbdagmeeaaDoor
namespace Go.Proofs.YtljgncbdagmeeaaDoor
open Go Go.Proofs.YtljgncbdagmeeaaDoorE
set_option linter.unusedVariables false
set_option linter.unusedSimpArgs false
theorem Zi7 {K W:Type} (eq:K→K→Bool) (k:K) (v:W):∀l:List (K×W),(∀q∈l,eq k q.1=false)→Zx eq l k v=l++[(k,v)]
 | [],_=>rfl
 | (a,u) :: r,h=>by
  unfold Zx
  rw[h (a,u) (by simp)]
  simp only[cond_false,List.cons_append]
  rw[Zi7 eq k v r fun q hq=>h q (by simp[hq])]
theorem ZjE {K W:Type} (eq:K→K→Bool) (k:K) (z:W) (m:List (K×W)):∀l:List (K×W),(∀q∈l,eq k q.1=false)→ZaL eq (l++m) k z=ZaL eq m k z
 | [],_=>rfl
 | (a,u) :: r,h=>by
  rw[List.cons_append]
  conv=>lhs; unfold ZaL
  rw[h (a,u) (by simp)]
  exact ZjE eq k z m r fun q hq=>h q (by simp[hq])
theorem Zkd {K W:Type} (eq:K→K→Bool) (k:K) (z:W) (m:List (K×W)):∀l:List (K×W),(∃q∈l,eq k q.1=true)→ZaL eq (l++m) k z=ZaL eq l k z
 | [],h=>by obtain⟨q,hq,_⟩:=h; simp at hq
 | (a,u) :: r,h=>by
  rw[List.cons_append]
  unfold ZaL
  cases hb:eq k a with
  | true=>rfl
  | false=>
   simp only[cond_false]
   refine Zkd eq k z m r ?_
   obtain⟨q,hq,hk⟩:=h
   rcases List.mem_cons.1 hq with rfl | hq
   ·rw[hb] at hk; cases hk
   ·exact⟨q,hq,hk⟩
abbrev eqI:Int→Int→Bool:=fun ka kb:Int=>(ka==kb)
theorem ZnQ {K W:Type} (eq:K→K→Bool) (k:K) (v w:W) (hk:eq k k=true):∀l:List (K×W),(∀q∈l,eq k q.1=false)→Zx eq (l++[(k,v)]) k w=l++[(k,w)]
 | [],_=>by
  show(bif eq k k then _ else _)=_
  rw[hk]; rfl
 | (a,u) :: r,h=>by
  rw[List.cons_append]
  unfold Zx
  rw[h (a,u) (by simp)]
  simp only[cond_false,List.cons_append]
  rw[ZnQ eq k v w hk r fun q hq=>h q (by simp[hq])]
theorem Zqe {K W:Type} (eq:K→K→Bool) (k:K) (z v:W) (hk:eq k k=true) (l m:List (K×W)) (h:∀q∈l,eq k q.1=false):ZaL eq (l++(k,v) :: m) k z=v:=by
 rw[ZjE eq k z _ l h]
 show(bif eq k k then _ else _)=_
 rw[hk]; rfl
end Go.Proofs.YtljgncbdagmeeaaDoor
namespace Go.Proofs.YtljgncbdagmeeaaDoor
open Go Go.Proofs.YtljgncbdagmeeaaDoorE
set_option linter.unusedVariables false
set_option linter.unusedSimpArgs false
def tch (d:Zt) (n:Nat):List Int:=tl d (n:Int) 0 99
theorem Zmm {d:Zt} (g:ZlI d) (n:Nat):Zho d (n:Int) (tch d n):=Zta g (n:Int)
theorem ZAB {d:Zt} (hs:Zk6 d) (hf:d.futures.length≤1000) (hc:Zh4 d=0) (n:Nat):Zd6 d (n:Int)=some (tch d n):=by
 obtain⟨r,h1,h2⟩:=ZuF d hs hf hc (n:Int)
 rw[h1,h2.eq (Zmm (ZqV hc) n)]
abbrev nt (d:Zt) (n:Nat):Nat:=(tch d n).length
theorem ZwV {d:Zt} (g:ZeI d) (n:Nat):nt d n≤16:=Nat.le_trans (Zsb (Zmm g.g n)) g.fl
def cut (d:Zt) (n i:Nat):Int:=if i=0 then 0 else match (tch d n)[i-1]? with | some z=>Zf1 d.futures z | none=>ZfG d.parts (n:Int)
def ZjD (d:Zt) (n k:Nat):List Int:=(List.range k).map fun i=>cut d n (i+1)-cut d n i
def ZU (d:Zt):Nat→Nat
 | 0=>0
 | n+1=>ZU d n+(nt d n+1)
theorem ZhY {d:Zt} (g:ZeI d):∀n,ZU d n≤17*n
 | 0=>Nat.le_refl _
 | n+1=>by have:=ZhY g n; have:=ZwV g n; show ZU d n+(nt d n+1)≤_; omega
theorem Zj7 {d:Zt} {n i:Nat} (g:ZlI d) (hi:i<nt d n):∃f,Zy (tch d n) (i:Int)=some (tch d n)[i]∧Zy d.futures (tch d n)[i]=some f∧d.futures[((tch d n)[i]).toNat]? = some f∧f.user=(n:Int)∧f.pos=cut d n (i+1)∧f∈d.futures:=by
 obtain⟨j,f,h1,h2,h3⟩:=(Zmm g n).mem _ |>.1 (List.getElem_mem hi)
 refine⟨f,ZbT (List.getElem?_eq_getElem hi),?_,?_,h2,?_,List.mem_of_getElem? h1⟩
 ·rw[h3]; exact ZbT h1
 ·rw[h3,Int.toNat_natCast]; exact h1
 ·unfold cut
  rw[if_neg (by omega),Nat.add_sub_cancel,List.getElem?_eq_getElem hi]
  show _=Zf1 d.futures (tch d n)[i]
  unfold Zf1
  rw[h3,Int.toNat_natCast,h1]
theorem Zts {d:Zt} (g:ZlI d) (n i:Nat):0≤cut d n i∧cut d n i≤100:=by
 unfold cut
 split
 ·omega
 ·have wb:0≤ZfG d.parts (n:Int)∧ZfG d.parts (n:Int)≤100:=by
   refine⟨?_,Zlw g _⟩
   unfold ZfG
   split
   ·rename_i p hp; have:=g.w p (List.mem_of_getElem? hp); omega
   ·omega
  split
  ·rename_i z hz
   obtain⟨j,f,h1,h2,h3⟩:=(Zmm g n).mem z |>.1 (List.mem_of_getElem? hz)
   have:=g.f f (List.mem_of_getElem? h1)
   have:=Zlw g f.user
   unfold Zf1
   rw[h3,Int.toNat_natCast,h1]
   show 0≤f.pos∧f.pos≤100
   omega
  ·exact wb
theorem Zoc (d:Zt) (n:Nat):cut d n (nt d n+1)=ZfG d.parts (n:Int):=by
 unfold cut
 rw[if_neg (by omega),Nat.add_sub_cancel,List.getElem?_eq_none (Nat.le_refl _)]
theorem ZrB (d:Zt) (n k:Nat):ZjD d n (k+1)=ZjD d n k++[cut d n (k+1)-cut d n k]:=by unfold ZjD; rw[List.range_succ,List.map_append]; rfl
theorem Zpp (d:Zt) (n k:Nat):(ZjD d n k).length=k:=by unfold ZjD; simp
def Zmh (d:Zt) (n:Nat):List Int:=ZjD d n (nt d n+1)
theorem Zq8 {d:Zt} {n:Nat} (hn:n<d.parts.length):∃x,Zy d.parts (n:Int)=some x∧x.work=ZfG d.parts (n:Int):=by
 refine⟨d.parts[n],ZbT (List.getElem?_eq_getElem hn),?_⟩
 unfold ZfG
 rw[Int.toNat_natCast,List.getElem?_eq_getElem hn]
def Zit (d:Zt) (z:Int):Int:=(ZU d z.toNat:Int)
def Zf9 (d:Zt) (z:Int):Int:=(ZU d (z.toNat+1):Int)-1
def Zq4 (d:Zt) (f:Zk):Int:=ZiN (fun _ z=>Zf1 d.futures z==f.pos) (fun i _=>Zit d f.user+(i:Int)+1) (-1) 0 (tch d f.user.toNat)
end Go.Proofs.YtljgncbdagmeeaaDoor
namespace Go.Proofs.YtljgncbdagmeeaaDoor
open Go Go.Proofs.YtljgncbdagmeeaaDoorE
set_option linter.unusedVariables false
set_option linter.unusedSimpArgs false
def upto {β:Type} (B:Nat→List β) (k:Nat):List β:=(List.range k).flatMap B
theorem ZdF {β:Type} (B:Nat→List β) (k:Nat):upto B (k+1)=upto B k++B k:=by unfold upto; rw[List.range_succ,List.flatMap_append]; simp
theorem ZqP {γ β:Type} (l:List γ) (hl:l.length≤1000) (step:Int×List β→Option ((Int×List β)⊕List β)) (g:γ→β)
  (h1:∀(i:Nat) x s,i<l.length→l[i]? = some x→Nat.ble (s.length+1) lim=true→step ((i:Int),s)=some (.inl (((i+1:Nat):Int),s++[g x])))
  (h2:∀s,step ((l.length:Int),s)=some (.inr s)) (s:List β) (hs:s.length≤1000000):lp step (0,s)=some (s++l.map g):=by
 have key:=(ZvV l step (fun i s=>((i:Int),s)) (fun _ s x=>s++[g x]) id (fun i s=>s.length≤1000000+i) (fun i x s hi hx hI=>⟨h1 i x s hi hx (Zji (by omega)),by rw[List.length_append]; simp only[List.length_cons,List.length_nil]; omega⟩) (fun s _=>h2 s) s (by omega)).1
 have e:∀(l:List γ) (i:Nat) (s:List β),ZnS (fun _ s x=>s++[g x]) i s l=s++l.map g:=by
  intro l
  induction l with
  | nil=>intro i s; simp[ZnS]
  | cons x l ih=>intro i s; show ZnS _ (i+1) (s++[g x]) l=_; rw[ih]; simp
 rw[e] at key
 exact key
def ZhH (d:Zt) (n k:Nat):List Zr:=(List.range k).map fun j=>⟨((ZU d n+j:Nat):Int),((ZU d n+j+1:Nat):Int)⟩
theorem ZnP (d:Zt) (n k:Nat):ZhH d n (k+1)=ZhH d n k++[⟨((ZU d n+k:Nat):Int),((ZU d n+k+1:Nat):Int)⟩]:=by unfold ZhH; rw[List.range_succ,List.map_append]; rfl
theorem Zo3 (d:Zt) (n k:Nat):(ZhH d n k).length=k:=by unfold ZhH; simp
def Zfq (n k:Nat):List Zi:=(List.range k).map fun j:Nat=>⟨(n:Int),(j:Int)⟩
theorem ZqL (n k:Nat):Zfq n (k+1)=Zfq n k++[⟨(n:Int),(k:Int)⟩]:=by unfold Zfq; rw[List.range_succ,List.map_append]; rfl
theorem ZnK (n k:Nat):(Zfq n k).length=k:=by unfold Zfq; simp
def ZhI (d:Zt) (k:Nat):List Int:=upto (Zmh d) k
def ZhB (d:Zt) (k:Nat):List Zr:=upto (fun n=>ZhH d n (nt d n)) k
def ZdH (d:Zt) (k:Nat):List Zi:=upto (fun n=>Zfq n (nt d n+1)) k
theorem Zhr (d:Zt):∀k,(ZhI d k).length=ZU d k
 | 0=>rfl
 | k+1=>by unfold ZhI; rw[ZdF,List.length_append]; unfold Zmh; rw[Zpp]; show(ZhI d k).length+_=ZU d k+_; rw[Zhr d k]
theorem ZdG (d:Zt):∀k,(ZdH d k).length=ZU d k
 | 0=>rfl
 | k+1=>by unfold ZdH; rw[ZdF,List.length_append,ZnK]; show(ZdH d k).length+_=ZU d k+_; rw[ZdG d k]
theorem Zmq (d:Zt):∀k,(ZhB d k).length≤ZU d k
 | 0=>Nat.le_refl _
 | k+1=>by unfold ZhB; rw[ZdF,List.length_append,Zo3]; have:=Zmq d k; unfold ZhB at this; show _≤ZU d k+(nt d k+1); omega
def Zpj (d:Zt):List Zr:=d.edges.map fun e=>⟨Zf9 d e.src,Zit d e.dst⟩
def ZoU (d:Zt):List Zr:=d.futures.map fun f=>⟨Zf9 d f.maker,Zq4 d f⟩
def Zwj (d:Zt) (at_:Int) (b:Zu):List Zr:=b.ins.map (fun q=>⟨Zf9 d q,at_⟩)++b.outs.map (fun q=>⟨at_,Zit d q⟩)
def Zpo (d:Zt) (i:Nat):Int:=((ZU d d.parts.length+i:Nat):Int)
def Zhg (d:Zt) (k:Nat):List Zr:=upto (fun i=>match d.barriers[i]? with | some b=>Zwj d (Zpo d i) b | none=>[]) k
def Zgo (k:Nat):List Zi:=(List.range k).map fun i:Nat=>⟨-1,(i:Int)⟩
theorem ZnI (k:Nat):(Zgo k).length=k:=by unfold Zgo; simp
theorem Zq3 (k:Nat):Zgo (k+1)=Zgo k++[⟨-1,(k:Int)⟩]:=by unfold Zgo; rw[List.range_succ,List.map_append]; rfl
def Zkq (d:Zt):List Int:=ZhI d d.parts.length++List.replicate d.barriers.length 1
def Zk2 (d:Zt):List Zr:=ZhB d d.parts.length++Zpj d++ZoU d
def Zl6 (d:Zt):List Zr:=Zk2 d++Zhg d d.barriers.length
def Zc4 (d:Zt):List Zi:=ZdH d d.parts.length++Zgo d.barriers.length
def ZcK (d:Zt):ZkR:=⟨⟨Zkq d,Zl6 d⟩,Zc4 d⟩
theorem Zom {d:Zt} (g:ZeI d):(Zk2 d).length≤1000:=by
 unfold Zk2 Zpj ZoU
 have h1:=Zmq d d.parts.length
 have h2:=ZhY g d.parts.length
 have h3:=g.pl
 have h4:=g.el
 have h5:=g.fl
 simp only[List.length_append,List.length_map]
 omega
theorem Zwq {d:Zt} (hz:Zmz d) {b:Zu} (hb:b∈d.barriers) (z:Int):(Zwj d z b).length≤40:=by
 have:=hz.i b hb
 unfold Zwj
 simp only[List.length_append,List.length_map]
 omega
theorem Zmi {d:Zt} (hz:Zmz d):∀k,(Zhg d k).length≤40*k
 | 0=>Nat.le_refl _
 | k+1=>by
  have ih:=Zmi hz k
  unfold Zhg at ih ⊢
  rw[ZdF,List.length_append]
  split
  ·rename_i b hb
   have:=Zwq hz (List.mem_of_getElem? hb) (Zpo d k)
   omega
  ·simp only[List.length_nil]; omega
end Go.Proofs.YtljgncbdagmeeaaDoor
namespace Go.Proofs.YtljgncbdagmeeaaDoor
open Go Go.Proofs.YtljgncbdagmeeaaDoorE
set_option linter.unusedVariables false
set_option linter.unusedSimpArgs false
theorem ZhV (b:Zi) (c:Int) {W:List Int} {P:List Zi} (h1:W.length≤10000) (h2:P.length≤10000):Za1 b c W P=some ():=by
 unfold Za1
 rw[Zji (by omega),Zji (by omega)]; rfl
theorem Zke (b c:Int) {E:List Zr} (h1:E.length≤10000):ZX b c E=some ():=by
 unfold ZX
 rw[Zji (by omega)]; rfl
theorem Zrh {β:Type} (P:List β) (x:β) (hP:P.length≤10000):w64 ((List.length (P++[x]):Int)-1)=(P.length:Int):=by
 rw[List.length_append]
 simp only[List.length_cons,List.length_nil]
 rw[Zd4 (by omega) (by omega)]
 omega
theorem Zu6 {d:Zt} (g:ZeI d) {n:Nat} (hn:n<d.parts.length) (hc:Zd6 d (n:Int)=some (tch d n)) {W:List Int} {E:List Zr} {P:List Zi} (M5:List (Int×Int)) (M6:List (Zk×Int)) (hW:W.length≤1000) (hE:E.length≤1000) (hP:P.length≤1000) :
  Zez d (n:Int) W E P M5 M6=(lp (ZF d (n:Int) (tch d n)) (0,0,M5,M6,W,E,P)).bind fun r=>some (bif decide (0<nt d n) then .inl r else .inr (.inl r.2.2.1)):=by
 obtain⟨x,x1,x2⟩:=Zq8 hn
 have hnt:=ZwV g n
 have hnl:(tch d n).length=nt d n:=rfl
 have e1:w64 (((tch d n).length:Int)+1)=(((tch d n).length+1:Nat):Int):=by rw[Zd4 (by omega) (by omega)]; omega
 have w1:w64 ((0:Int)+1)=1:=Zd4 (by omega) (by omega)
 have w2:w64 ((1:Int)+1)=2:=Zd4 (by omega) (by omega)
 have w0:w64 ((1:Int)-1)=0:=Zd4 (by omega) (by omega)
 have lW:∀a:Int,(W++[a]).length≤10000:=fun a=>by rw[List.length_append]; simp only[List.length_cons,List.length_nil]; omega
 have lP:∀a:Zi,(P++[a]).length≤10000:=fun a=>by rw[List.length_append]; simp only[List.length_cons,List.length_nil]; omega
 unfold Zez
 rw[hc,Option.bind_some,Zcb (Zcn d (n:Int) W E P M5 M6 (tch d n)),Zcb (ZF d (n:Int) (tch d n))]
 by_cases h0:0<nt d n
 ·obtain⟨f,f1,f2,_⟩:=Zj7 g.g h0
  have c0:decide ((0:Int)<(((tch d n).length+1:Nat):Int))=true:=decide_eq_true (by omega)
  have c1:decide ((0:Int)<((tch d n).length:Int))=true:=decide_eq_true (by omega)
  have c2:decide ((1:Int)<(((tch d n).length+1:Nat):Int))=true:=decide_eq_true (by omega)
  have f1':Zy (tch d n) 0=some (tch d n)[0]:=f1
  simp only[Zcn,ZF,e1,c0,c1,cond_true,x1,Option.bind_some,f1',f2,ZhV _ _ (show W.length≤10000 by omega) (show P.length≤10000 by omega),w1,decide_eq_false (show ¬(0:Int)<0 by omega),cond_false,decide_eq_true h0]
  rw[Zcb (Zcm d (n:Int) W E P M5 M6 (tch d n) f),Zcb (ZF d (n:Int) (tch d n))]
  by_cases h1:1<nt d n
  ·obtain⟨f',f1b,f2b,_⟩:=Zj7 g.g h1
   have f1b':Zy (tch d n) 1=some (tch d n)[1]:=f1b
   have c3:decide ((1:Int)<((tch d n).length:Int))=true:=decide_eq_true (by omega)
   simp only[Zcm,ZF,e1,c2,c3,cond_true,x1,Option.bind_some,f1',f2,f1b',f2b,ZhV _ _ (lW _) (lP _),Zke _ _ (show E.length≤10000 by omega),w2,w0,decide_eq_true (show(0:Int)<1 by omega)]
   generalize lp (ZF d (n:Int) (tch d n)) _=r
   cases r<;>rfl
  ·have c3:decide ((1:Int)<((tch d n).length:Int))=false:=decide_eq_false (by omega)
   simp only[Zcm,ZF,e1,c2,c3,cond_true,cond_false,x1,Option.bind_some,f1',f2,ZhV _ _ (lW _) (lP _),Zke _ _ (show E.length≤10000 by omega),w2,w0,decide_eq_true (show(0:Int)<1 by omega)]
   generalize lp (ZF d (n:Int) (tch d n)) _=r
   cases r<;>rfl
 ·have c0:decide ((0:Int)<(((tch d n).length+1:Nat):Int))=true:=decide_eq_true (by omega)
  have c1:decide ((0:Int)<((tch d n).length:Int))=false:=decide_eq_false (by omega)
  have c2:decide ((1:Int)<(((tch d n).length+1:Nat):Int))=false:=decide_eq_false (by omega)
  simp only[Zcn,ZF,e1,c0,c1,cond_true,x1,Option.bind_some,ZhV _ _ (show W.length≤10000 by omega) (show P.length≤10000 by omega),w1,decide_eq_false (show ¬(0:Int)<0 by omega),cond_false,decide_eq_false h0]
  rw[Zcb (Zdc d (n:Int) W E P M5 M6 (tch d n) x),Zcb (ZF d (n:Int) (tch d n))]
  simp only[Zdc,ZF,e1,c2,cond_false,Option.bind_some]
abbrev eqF:Zk→Zk→Bool:=fun ka kb:Zk=>((ka.maker==kb.maker)&&((ka.user==kb.user)&&((ka.pos==kb.pos)&&true)))
def Zju (M:List (Int×Int)) (n F i:Nat):List (Int×Int):=if i=0 then M else M++[((n:Int),((F+i-1:Nat):Int))]
theorem Zsq {M:List (Int×Int)} {n F:Nat} (h:∀q∈M,q.1≠(n:Int)) (i:Nat):Zx (fun ka kb:Int=>(ka==kb)) (Zju M n F i) (n:Int) ((F+i:Nat):Int)=Zju M n F (i+1):=by
 have hq:∀q∈M,eqI (n:Int) q.1=false:=fun q hq=>by
  show((n:Int)==q.1)=false
  exact beq_false_of_ne (Ne.symm (h q hq))
 unfold Zju
 rw[if_neg (show i+1≠0 by omega)]
 by_cases h0:i=0
 ·subst h0
  rw[if_pos rfl]
  exact Zi7 eqI (n:Int) _ M hq
 ·rw[if_neg h0]
  exact ZnQ eqI (n:Int) _ _ (by simp) M hq
theorem Zrx {M:List (Int×Int)} {n F:Nat} (h:∀q∈M,q.1≠(n:Int)) (i:Nat):ZaL (fun ka kb:Int=>(ka==kb)) (Zju M n F (i+1)) (n:Int) 0=((F+i:Nat):Int):=by
 unfold Zju
 rw[if_neg (show i+1≠0 by omega)]
 exact Zqe eqI (n:Int) 0 _ (by simp) M [] (fun q hq=>by
  show((n:Int)==q.1)=false
  exact beq_false_of_ne (Ne.symm (h q hq)))
def Zha (d:Zt) (n j:Nat):Zk:=match (tch d n)[j]? with | some z=>(match d.futures[z.toNat]? with | some f=>f | none=>⟨0,0,0⟩) | none=>⟨0,0,0⟩
theorem ZeL {d:Zt} {n i:Nat} (g:ZlI d) (hi:i<nt d n):Zy (tch d n) (i:Int)=some (tch d n)[i]∧Zy d.futures (tch d n)[i]=some (Zha d n i)∧(Zha d n i).user=(n:Int)∧(Zha d n i).pos=cut d n (i+1)∧Zha d n i∈d.futures:=by
 obtain⟨f,h1,h2,h3,h4,h5,h6⟩:=Zj7 g hi
 have e:Zha d n i=f:=by
  unfold Zha
  rw[List.getElem?_eq_getElem hi]
  show(match d.futures[((tch d n)[i]).toNat]? with | some f=>f | none=>⟨0,0,0⟩)=f
  rw[h3]
 rw[e]
 exact⟨h1,h2,h4,h5,h6⟩
theorem ZmJ {d:Zt} (g:ZlI d) {n i j:Nat} (hij:i<j) (hj:j<nt d n):(Zha d n i).pos<(Zha d n j).pos:=by
 obtain⟨_,_,h3,_,_,h5,_⟩:=Zj7 g (show i<nt d n by omega)
 obtain⟨_,_,k3,_,_,k5,_⟩:=Zj7 g hj
 rw[(ZeL g (show i<nt d n by omega)).2.2.2.1,(ZeL g hj).2.2.2.1]
 have:=List.pairwise_iff_getElem.1 (Zmm g n).rise i j (show i<nt d n by omega) hj hij
 have e:∀k (hk:k<nt d n),cut d n (k+1)=Zf1 d.futures (tch d n)[k]:=fun k hk=>by
  unfold cut
  rw[if_neg (by omega),Nat.add_sub_cancel,List.getElem?_eq_getElem hk]
 rw[e i (by omega),e j hj]
 exact this
def Zg0 (d:Zt) (n k:Nat):List (Zk×Int):=(List.range k).map fun j:Nat=>(Zha d n j,((ZU d n+j+1:Nat):Int))
theorem Zrq (d:Zt) (n k:Nat):Zg0 d n (k+1)=Zg0 d n k++[(Zha d n k,((ZU d n+k+1:Nat):Int))]:=by unfold Zg0; rw[List.range_succ,List.map_append]; rfl
theorem Zq5 {a b:Zk} (h:a.user≠b.user∨a.pos≠b.pos):eqF a b=false:=by
 show((a.maker==b.maker)&&((a.user==b.user)&&((a.pos==b.pos)&&true)))=false
 rcases h with h | h
 ·rw[beq_false_of_ne h]; simp
 ·rw[beq_false_of_ne h]; simp
theorem ZoR {d:Zt} (g:ZlI d) {n k:Nat} (hk:k<nt d n) {M:List (Zk×Int)} (h:∀q∈M,q.1.user≠(n:Int)) :
  Zx (fun ka kb:Zk=>((ka.maker==kb.maker)&&((ka.user==kb.user)&&((ka.pos==kb.pos)&&true)))) (M++Zg0 d n k) (Zha d n k) ((ZU d n+(k+1):Nat):Int)=M++Zg0 d n (k+1):=by
 rw[Zrq,← List.append_assoc]
 refine Zi7 eqF _ _ _ fun q hq=>?_
 have hu:=(ZeL g hk).2.2.1
 rcases List.mem_append.1 hq with hq | hq
 ·exact Zq5 (.inl (by rw[hu]; exact Ne.symm (h q hq)))
 ·unfold Zg0 at hq
  obtain⟨j,hj,rfl⟩:=List.mem_map.1 hq
  rw[List.mem_range] at hj
  have:=ZmJ g hj hk
  exact Zq5 (.inr (by show(Zha d n k).pos≠(Zha d n j).pos; omega))
theorem Ztd {d:Zt} (g:ZeI d) {n:Nat} (hn:n<d.parts.length) {W:List Int} {E:List Zr} {P:List Zi} {M5:List (Int×Int)} {M6:List (Zk×Int)} (hW:W.length≤1000) (hE:E.length≤1000) (hP:P.length=ZU d n)
  (h5:∀q∈M5,q.1≠(n:Int)) (h6:∀q∈M6,q.1.user≠(n:Int)) :
  lp (ZF d (n:Int) (tch d n)) (0,0,M5,M6,W,E,P)=some (M5++[((n:Int),((ZU d n+nt d n:Nat):Int))],M6++Zg0 d n (nt d n),W++Zmh d n,E++ZhH d n (nt d n),P++Zfq n (nt d n+1)):=by
 obtain⟨x,x1,x2⟩:=Zq8 hn
 have hnt:=ZwV g n
 have hnl:(tch d n).length=nt d n:=rfl
 have hF:=ZhY g n
 have hpl:=g.pl
 have e1:w64 (((tch d n).length:Int)+1)=((nt d n+1:Nat):Int):=by show w64 ((nt d n:Int)+1)=_; rw[Zd4 (by omega) (by omega)]; omega
 have key:∀(k i:Nat),i+k=nt d n+1→lp (ZF d (n:Int) (tch d n)) (cut d n i,(i:Int),Zju M5 n (ZU d n) i,M6++Zg0 d n (i-1),W++ZjD d n i,E++ZhH d n (i-1),P++Zfq n i) =
   some (Zju M5 n (ZU d n) (nt d n+1),M6++Zg0 d n (nt d n),W++Zmh d n,E++ZhH d n (nt d n),P++Zfq n (nt d n+1)):=by
  intro k
  induction k with
  | zero=>
   intro i hi
   have:i=nt d n+1:=by omega
   subst this
   rw[Zcb]
   simp only[ZF,e1,ZhN,cond_false]
   rfl
  | succ k ih=>
   intro i hi
   have hi':i<nt d n+1:=by omega
   have b0:=Zts g.g n i
   have b1:=Zts g.g n (i+1)
   have lP:(P++Zfq n i).length=ZU d n+i:=by rw[List.length_append,ZnK,hP]
   have l2:(W++ZjD d n i).length≤10000:=by rw[List.length_append,Zpp]; omega
   have l3:(E++ZhH d n (i-1)).length≤10000:=by rw[List.length_append,Zo3]; omega
   have lput:=Zrh (P++Zfq n i) (Zi.mk (n:Int) (i:Int)) (by rw[lP]; omega)
   rw[lP] at lput
   have p5:=Zsq (F:=ZU d n) h5 i
   have g5:=Zrx (F:=ZU d n) h5 i
   have w5:w64 (cut d n (i+1)-cut d n i)=cut d n (i+1)-cut d n i:=Zd4 (by omega) (by omega)
   have ih':=ih (i+1) (by omega)
   rw[ZrB,ZqL,← List.append_assoc,← List.append_assoc] at ih'
   rw[Zcb]
   have fin:i=nt d n→cut d n (i+1)=x.work:=fun h=>by rw[h,Zoc,x2]
   have node:=fun c=>ZhV (Zi.mk (n:Int) (i:Int)) c l2 (show(P++Zfq n i).length≤10000 by rw[lP]; omega)
   by_cases hlast:i<nt d n
   ·obtain⟨q1,q2,q3,q4,_⟩:=ZeL g.g hlast
    cases i with
    | zero=>
     simp only[ZF,e1,Zgw hi',cond_true,x1,Option.bind_some,Zgw (show 0<(tch d n).length from hlast),q1,q2,q4,node,decide_eq_false (show ¬(0:Int)<((0:Nat):Int) by omega),cond_false,lput,p5,w5,ZaN hi' (show nt d n+1<9223372036854775808 by omega)]
     exact ih'
    | succ j=>
     obtain⟨r1,r2,r3,r4,_⟩:=ZeL g.g (show j<nt d n by omega)
     have e2:w64 (((j+1:Nat):Int)-1)=(j:Int):=by rw[Zd4 (by omega) (by omega)]; omega
     have e3:w64 (((ZU d n+(j+1):Nat):Int)-1)=((ZU d n+j:Nat):Int):=by rw[Zd4 (by omega) (by omega)]; omega
     have p6:=ZoR g.g (show j<nt d n by omega) h6
     rw[Nat.add_sub_cancel] at l3 ih' ⊢
     rw[ZnP,← List.append_assoc] at ih'
     simp only[ZF,e1,Zgw hi',cond_true,x1,Option.bind_some,Zgw (show j+1<(tch d n).length from hlast),q1,q2,q4,node,decide_eq_true (show(0:Int)<((j+1:Nat):Int) by omega),lput,p5,g5,w5,e2,e3,r1,r2,Zke _ _ l3,p6,ZaN hi' (show nt d n+1<9223372036854775808 by omega)]
     exact ih'
   ·have hin:i=nt d n:=by omega
    have hfin:=fin hin
    rw[hfin] at w5 ih'
    have c3:decide ((i:Int)<((tch d n).length:Int))=false:=decide_eq_false (by have:((tch d n).length:Int)=(nt d n:Int):=rfl; omega)
    cases i with
    | zero=>
     simp only[ZF,e1,Zgw hi',cond_true,x1,Option.bind_some,c3,node,decide_eq_false (show ¬(0:Int)<((0:Nat):Int) by omega),cond_false,lput,p5,w5,ZaN hi' (show nt d n+1<9223372036854775808 by omega)]
     exact ih'
    | succ j=>
     obtain⟨r1,r2,r3,r4,_⟩:=ZeL g.g (show j<nt d n by omega)
     have e2:w64 (((j+1:Nat):Int)-1)=(j:Int):=by rw[Zd4 (by omega) (by omega)]; omega
     have e3:w64 (((ZU d n+(j+1):Nat):Int)-1)=((ZU d n+j:Nat):Int):=by rw[Zd4 (by omega) (by omega)]; omega
     have p6:=ZoR g.g (show j<nt d n by omega) h6
     rw[Nat.add_sub_cancel] at l3 ih' ⊢
     rw[ZnP,← List.append_assoc] at ih'
     simp only[ZF,e1,Zgw hi',cond_true,cond_false,x1,Option.bind_some,c3,node,decide_eq_true (show(0:Int)<((j+1:Nat):Int) by omega),lput,p5,g5,w5,e2,e3,r1,r2,Zke _ _ l3,p6,ZaN hi' (show nt d n+1<9223372036854775808 by omega)]
     exact ih'
 have:=key (nt d n+1) 0 (by omega)
 simpa [Zju,Zg0,ZjD,ZhH,Zfq,cut] using this
end Go.Proofs.YtljgncbdagmeeaaDoor
namespace Go.Proofs.YtljgncbdagmeeaaDoor
open Go Go.Proofs.YtljgncbdagmeeaaDoorE
set_option linter.unusedVariables false
set_option linter.unusedSimpArgs false
def Zms (g:Zb3) (a:Int) (T:List Bool):Prop:=∀e∈g.edges,(e.src=a∨bAt T e.src=true)→bAt T e.dst=true
end Go.Proofs.YtljgncbdagmeeaaDoor
namespace Go.Proofs.YtljgncbdagmeeaaDoor
open Go Go.Proofs.YtljgncbdagmeeaaDoorE
set_option linter.unusedVariables false
set_option linter.unusedSimpArgs false
def ZgM (d:Zt) (k:Nat):List (Int×Int):=(List.range k).map fun n:Nat=>((n:Int),(ZU d n:Int))
def Zhf (d:Zt) (k:Nat):List (Int×Int):=(List.range k).map fun n:Nat=>((n:Int),((ZU d n+nt d n:Nat):Int))
def ZeY (d:Zt) (k:Nat):List (Zk×Int):=upto (fun n=>Zg0 d n (nt d n)) k
theorem Zq9 (d:Zt) (k:Nat):ZgM d (k+1)=ZgM d k++[((k:Int),(ZU d k:Int))]:=by unfold ZgM; rw[List.range_succ,List.map_append]; rfl
theorem ZrW (d:Zt) (k:Nat):Zhf d (k+1)=Zhf d k++[((k:Int),((ZU d k+nt d k:Nat):Int))]:=by unfold Zhf; rw[List.range_succ,List.map_append]; rfl
theorem ZsZ (d:Zt) (k:Nat):∀q∈ZgM d k,q.1≠(k:Int):=fun q hq=>by
 unfold ZgM at hq
 obtain⟨j,hj,rfl⟩:=List.mem_map.1 hq
 rw[List.mem_range] at hj
 show(j:Int)≠(k:Int)
 omega
theorem Zqp (d:Zt) (k:Nat):∀q∈Zhf d k,q.1≠(k:Int):=fun q hq=>by
 unfold Zhf at hq
 obtain⟨j,hj,rfl⟩:=List.mem_map.1 hq
 rw[List.mem_range] at hj
 show(j:Int)≠(k:Int)
 omega
theorem ZmD {d:Zt} {k:Nat} {q:Zk×Int} (h:q∈ZeY d k):∃n j,n<k∧j<nt d n∧q=(Zha d n j,((ZU d n+j+1:Nat):Int)):=by
 unfold ZeY upto at h
 obtain⟨n,hn,hq⟩:=List.mem_flatMap.1 h
 unfold Zg0 at hq
 obtain⟨j,hj,rfl⟩:=List.mem_map.1 hq
 exact⟨n,j,List.mem_range.1 hn,List.mem_range.1 hj,rfl⟩
theorem Zsi {d:Zt} (g:ZlI d) (k:Nat):∀q∈ZeY d k,q.1.user≠(k:Int):=fun q hq=>by
 obtain⟨n,j,hn,hj,rfl⟩:=ZmD hq
 show(Zha d n j).user≠(k:Int)
 rw[(ZeL g hj).2.2.1]
 omega
theorem ZiJ {K W:Type} (eq:K→K→Bool) (z:W) (f:Nat→K) (v:Nat→W) {i:Nat} (h0:eq (f i) (f i)=true) (h1:∀j,j<i→eq (f i) (f j)=false):∀k,i<k→ZaL eq ((List.range k).map fun j=>(f j,v j)) (f i) z=v i
 | 0,h=>absurd h (by omega)
 | k+1,h=>by
  rw[List.range_succ,List.map_append]
  by_cases hk:i<k
  ·rw[Zkd eq (f i) z _ _ ⟨(f i,v i),List.mem_map.2 ⟨i,List.mem_range.2 hk,rfl⟩,h0⟩]
   exact ZiJ eq z f v h0 h1 k hk
  ·have:i=k:=by omega
   subst this
   refine Zqe eq (f i) z (v i) h0 _ [] fun q hq=>?_
   obtain⟨j,hj,rfl⟩:=List.mem_map.1 hq
   exact h1 j (List.mem_range.1 hj)
theorem Zqr {d:Zt} {z:Int} (h:inR d z):ZaL (fun ka kb:Int=>(ka==kb)) (ZgM d d.parts.length) z 0=Zit d z:=by
 have:=ZiJ eqI 0 (fun n:Nat=>(n:Int)) (fun n=>(ZU d n:Int)) (i:=z.toNat) (by simp) (fun j hj=>beq_false_of_ne (by omega)) d.parts.length h.2
 have e:((z.toNat:Nat):Int)=z:=Int.toNat_of_nonneg h.1
 simp only[e] at this
 exact this
theorem Zpb {d:Zt} {z:Int} (h:inR d z):ZaL (fun ka kb:Int=>(ka==kb)) (Zhf d d.parts.length) z 0=Zf9 d z:=by
 have:=ZiJ eqI 0 (fun n:Nat=>(n:Int)) (fun n=>((ZU d n+nt d n:Nat):Int)) (i:=z.toNat) (by simp) (fun j hj=>beq_false_of_ne (by omega)) d.parts.length h.2
 have e:((z.toNat:Nat):Int)=z:=Int.toNat_of_nonneg h.1
 simp only[e] at this
 refine Eq.trans this ?_
 unfold Zf9
 show _=((ZU d z.toNat+(nt d z.toNat+1):Nat):Int)-1
 omega
theorem Zrn {d:Zt} (g:ZeI d) {f:Zk} (h:f∈d.futures):∃j,j<nt d f.user.toNat∧Zha d f.user.toNat j=f:=by
 obtain⟨m,hm⟩:=List.getElem?_of_mem h
 have hu:=g.user h
 have e:((f.user.toNat:Nat):Int)=f.user:=Int.toNat_of_nonneg hu.1
 have:=(Zmm g.g f.user.toNat).mem (m:Int) |>.2 ⟨m,f,hm,e.symm,rfl⟩
 obtain⟨j,hj,hj2⟩:=List.getElem_of_mem this
 refine⟨j,hj,?_⟩
 unfold Zha
 rw[List.getElem?_eq_getElem hj]
 show(match d.futures[((tch d f.user.toNat)[j]).toNat]? with | some f=>f | none=>⟨0,0,0⟩)=f
 rw[hj2,Int.toNat_natCast,hm]
theorem ZqT {γ R:Type} (p:Nat→γ→Bool) (out:Nat→γ→R) (fin:R):∀(l:List γ) (i j:Nat) (x:γ),l[j]? = some x→p (i+j) x=true→(∀k y,k<j→l[k]? = some y→p (i+k) y=false)→ZiN p out fin i l=out (i+j) x
 | [],i,j,x,h,_,_=>by cases h
 | y :: l,i,0,x,h,h1,_=>by
  cases h
  unfold ZiN
  rw[Nat.add_zero] at h1
  rw[h1]; rfl
 | y :: l,i,j+1,x,h,h1,h2=>by
  unfold ZiN
  have h0:=h2 0 y (by omega) rfl
  rw[Nat.add_zero] at h0
  rw[h0]
  show ZiN p out fin (i+1) l=_
  rw[show i+(j+1)=i+1+j by omega] at h1 ⊢
  exact ZqT p out fin l (i+1) j x h h1 fun k z hk hz=>by
   have:=h2 (k+1) z (by omega) hz
   rwa [show i+(k+1)=i+1+k by omega] at this
theorem ZtH {d:Zt} (g:ZeI d) {f:Zk} (h:f∈d.futures) {j:Nat} (hj:j<nt d f.user.toNat) (he:Zha d f.user.toNat j=f):Zq4 d f=((ZU d f.user.toNat+j+1:Nat):Int):=by
 have pos:∀k (hk:k<nt d f.user.toNat),Zf1 d.futures (tch d f.user.toNat)[k]=(Zha d f.user.toNat k).pos:=fun k hk=>by
  rw[(ZeL g.g hk).2.2.2.1]
  unfold cut
  rw[if_neg (by omega),Nat.add_sub_cancel,List.getElem?_eq_getElem hk]
 unfold Zq4
 rw[ZqT (fun _ z=>Zf1 d.futures z==f.pos) (fun i _=>Zit d f.user+(i:Int)+1) (-1) (tch d f.user.toNat) 0 j _ (List.getElem?_eq_getElem hj) (by show(Zf1 d.futures (tch d f.user.toNat)[j]==f.pos)=true; rw[pos j hj,he]; simp) (fun k y hk hy=>by
  have hk2:k<nt d f.user.toNat:=by omega
  have hy2:(tch d f.user.toNat)[k]=y:=Option.some.inj ((List.getElem?_eq_getElem hk2).symm.trans hy)
  have:=ZmJ g.g hk hj
  rw[he] at this
  show(Zf1 d.futures y==f.pos)=false
  rw[← hy2,pos k hk2]
  exact beq_false_of_ne (by omega))]
 unfold Zit
 omega
theorem Zro (f:Zk):eqF f f=true:=by simp[eqF]
theorem ZuS {d:Zt} (g:ZeI d) {f:Zk} (h:f∈d.futures):ZaL (fun ka kb:Zk=>((ka.maker==kb.maker)&&((ka.user==kb.user)&&((ka.pos==kb.pos)&&true)))) (ZeY d d.parts.length) f 0=Zq4 d f:=by
 obtain⟨j,hj,he⟩:=Zrn g h
 have hu:=g.user h
 have eu:((f.user.toNat:Nat):Int)=f.user:=Int.toNat_of_nonneg hu.1
 have key:∀k,f.user.toNat<k→ZaL eqF (ZeY d k) f 0=Zq4 d f:=by
  intro k
  induction k with
  | zero=>intro hk; exact absurd hk (by omega)
  | succ k ih=>
   intro hk
   rw[show ZeY d (k+1)=ZeY d k++Zg0 d k (nt d k) from ZdF _ k]
   by_cases hlt:f.user.toNat<k
   ·rw[Zkd eqF f 0 _ _ ⟨(f,((ZU d f.user.toNat+j+1:Nat):Int)),?_,Zro f⟩]
    ·exact ih hlt
    ·unfold ZeY upto
     refine List.mem_flatMap.2 ⟨f.user.toNat,List.mem_range.2 hlt,?_⟩
     unfold Zg0
     exact List.mem_map.2 ⟨j,List.mem_range.2 hj,by rw[he]⟩
   ·have hk2:k=f.user.toNat:=by omega
    subst hk2
    rw[ZjE eqF f 0 _ _ (fun q hq=>by
     obtain⟨n,i,hn,hi,rfl⟩:=ZmD hq
     refine Zq5 (.inl ?_)
     show f.user≠(Zha d n i).user
     rw[(ZeL g.g hi).2.2.1]
     omega)]
    have:=ZiJ eqF 0 (fun i=>Zha d f.user.toNat i) (fun i=>((ZU d f.user.toNat+i+1:Nat):Int)) (i:=j) (Zro _) (fun i hi=>by
     have:=ZmJ g.g hi hj
     exact Zq5 (.inr (by omega))) (nt d f.user.toNat) hj
    rw[ZtH g h hj he]
    rw[he] at this
    exact this
 exact key d.parts.length hu.2
theorem Zth {d:Zt} (g:ZeI d) (hc:∀n:Nat,Zd6 d (n:Int)=some (tch d n)):lp (Zdq d) (0,[],[],[],[],[],[])=some (ZhI d d.parts.length,ZhB d d.parts.length,ZdH d d.parts.length,ZgM d d.parts.length,Zhf d d.parts.length,ZeY d d.parts.length):=by
 have hpl:=g.pl
 have key:∀(k i:Nat),i+k=d.parts.length→lp (Zdq d) ((i:Int),ZhI d i,ZhB d i,ZdH d i,ZgM d i,Zhf d i,ZeY d i)=some (ZhI d d.parts.length,ZhB d d.parts.length,ZdH d d.parts.length,ZgM d d.parts.length,Zhf d d.parts.length,ZeY d d.parts.length):=by
  intro k
  induction k with
  | zero=>
   intro i hi
   have:i=d.parts.length:=by omega
   subst this
   rw[Zcb]
   simp only[Zdq,ZhN,cond_false]
  | succ k ih=>
   intro i hi
   have hi':i<d.parts.length:=by omega
   have hF:=ZhY g i
   have h1:=Zmq d i
   have l1:(ZhI d i).length≤1000:=by rw[Zhr]; omega
   have l2:(ZhB d i).length≤1000:=by omega
   have l3:(ZdH d i).length≤1000:=by rw[ZdG]; omega
   have ih':=ih (i+1) (by omega)
   rw[show ZhB d (i+1)=ZhB d i++ZhH d i (nt d i) from ZdF _ i,show ZhI d (i+1)=ZhI d i++Zmh d i from ZdF _ i,show ZdH d (i+1)=ZdH d i++Zfq i (nt d i+1) from ZdF _ i,Zq9,ZrW,show ZeY d (i+1)=ZeY d i++Zg0 d i (nt d i) from ZdF _ i] at ih'
   have pe:=Zu6 g hi' (hc i) (Zhf d i) (ZeY d i) l1 l2 l3
   rw[Ztd g hi' l1 l2 (ZdG d i) (Zqp d i) (Zsi g.g i),Option.bind_some] at pe
   have p4:Zx (fun ka kb:Int=>(ka==kb)) (ZgM d i) (i:Int) ((ZdH d i).length:Int)=ZgM d i++[((i:Int),(ZU d i:Int))]:=by
    rw[ZdG]
    exact Zi7 eqI (i:Int) _ _ fun q hq=>beq_false_of_ne (Ne.symm (ZsZ d i q hq))
   have p5:Zx (fun ka kb:Int=>(ka==kb)) (Zhf d i) (i:Int) (ZU d i:Int)=Zhf d i++[((i:Int),(ZU d i:Int))]:=Zi7 eqI (i:Int) _ _ fun q hq=>beq_false_of_ne (Ne.symm (Zqp d i q hq))
   have lput:=Zrh (ZdH d i) (Zi.mk (i:Int) 0) (by omega)
   rw[ZdG] at lput
   rw[Zcb]
   by_cases h0:0<nt d i
   ·rw[decide_eq_true h0] at pe
    simp only[Zdq,Zgw hi',cond_true,pe,Option.bind_some,p4,ZaN hi' (show d.parts.length<9223372036854775808 by omega)]
    exact ih'
   ·have hz:nt d i=0:=by omega
    rw[decide_eq_false h0] at pe
    simp only[Zdq,Zgw hi',cond_true,cond_false,pe,Option.bind_some,p4,lput,p5,ZaN hi' (show d.parts.length<9223372036854775808 by omega)]
    rw[hz] at ih'
    simpa [ZhH,Zfq,Zg0] using ih'
 exact key d.parts.length 0 (by omega)
theorem ZsY {d:Zt} (g:ZeI d) {r3:List Int×List Zr×List Zi×List (Int×Int)×List (Int×Int)×List (Zk×Int)} (h4:r3.2.2.2.1=ZgM d d.parts.length) (h5:r3.2.2.2.2.1=Zhf d d.parts.length) (E:List Zr) (hE:E.length≤1000):lp (ZdP d r3) (0,E)=some (E++Zpj d):=
 have he:=g.el
 ZqP d.edges (by omega) (ZdP d r3) (fun e=>⟨Zf9 d e.src,Zit d e.dst⟩) (fun i x s hi hx hb=>by
  have hm:=List.mem_of_getElem? hx
  have ed:∀b c,ZX b c s=some ():=fun b c=>by unfold ZX; rw[hb]; rfl
  simp only[ZdP,Zgw hi,cond_true,ZbT hx,Option.bind_some,h4,h5,Zpb (g.src hm),Zqr (g.dst hm),ed,ZaN hi (show d.edges.length<9223372036854775808 by omega)]) (fun s=>by simp only[ZdP,ZhN,cond_false]) E (by omega)
theorem Zq6 {d:Zt} (g:ZeI d) {r3:List Int×List Zr×List Zi×List (Int×Int)×List (Int×Int)×List (Zk×Int)} (h5:r3.2.2.2.2.1=Zhf d d.parts.length) (h6:r3.2.2.2.2.2=ZeY d d.parts.length) (E:List Zr) (hE:E.length≤1000):lp (ZdR d r3) (0,E)=some (E++ZoU d):=
 have he:=g.fl
 ZqP d.futures (by omega) (ZdR d r3) (fun f=>⟨Zf9 d f.maker,Zq4 d f⟩) (fun i x s hi hx hb=>by
  have hm:=List.mem_of_getElem? hx
  have ed:∀b c,ZX b c s=some ():=fun b c=>by unfold ZX; rw[hb]; rfl
  simp only[ZdR,Zgw hi,cond_true,ZbT hx,Option.bind_some,h5,h6,Zpb (g.maker hm),ZuS g hm,ed,ZaN hi (show d.futures.length<9223372036854775808 by omega)]) (fun s=>by simp only[ZdR,ZhN,cond_false]) E (by omega)
theorem ZuY {d:Zt} (g:ZeI d) (hz:Zmz d) {r3:List Int×List Zr×List Zi×List (Int×Int)×List (Int×Int)×List (Zk×Int)} (h4:r3.2.2.2.1=ZgM d d.parts.length) (h5:r3.2.2.2.2.1=Zhf d d.parts.length) (E:List Zr) (hE:E.length≤1000) :
  lp (ZdQ d r3) (0,ZhI d d.parts.length,E,ZdH d d.parts.length)=some (Zkq d,E++Zhg d d.barriers.length,Zc4 d):=by
 have hbl:=g.bl
 have hF:=ZhY g d.parts.length
 have hpl:=g.pl
 have key:∀(k i:Nat),i+k=d.barriers.length→lp (ZdQ d r3) ((i:Int),ZhI d d.parts.length++List.replicate i 1,E++Zhg d i,ZdH d d.parts.length++Zgo i)=some (Zkq d,E++Zhg d d.barriers.length,Zc4 d):=by
  intro k
  induction k with
  | zero=>
   intro i hi
   have:i=d.barriers.length:=by omega
   subst this
   rw[Zcb]
   simp only[ZdQ,ZhN,cond_false]
   rfl
  | succ k ih=>
   intro i hi
   have hi':i<d.barriers.length:=by omega
   have hx:d.barriers[i]? = some d.barriers[i]:=List.getElem?_eq_getElem hi'
   have hm:=List.mem_of_getElem? hx
   have hsz:=hz.i _ hm
   have hB:=Zmi hz i
   have lp_:(ZdH d d.parts.length++Zgo i).length=ZU d d.parts.length+i:=by rw[List.length_append,ZdG,ZnI]
   have lw_:(ZhI d d.parts.length++List.replicate i (1:Int)).length=ZU d d.parts.length+i:=by rw[List.length_append,Zhr,List.length_replicate]
   have lput:=Zrh (ZdH d d.parts.length++Zgo i) (Zi.mk (-1) (i:Int)) (by rw[lp_]; omega)
   rw[lp_,show((ZU d d.parts.length+i:Nat):Int)=Zpo d i from rfl] at lput
   have k4:=fun s=>ZqP d.barriers[i].ins (by omega) (ZeN r3 ((i:Int),ZhI d d.parts.length++List.replicate i 1,E++Zhg d i,ZdH d d.parts.length++Zgo i) d.barriers[i]) (fun q=>⟨Zf9 d q,Zpo d i⟩) (fun j x s hj hx hb=>by
    have ed:∀b c,ZX b c s=some ():=fun b c=>by unfold ZX; rw[hb]; rfl
    simp only[ZeN,Zgw hj,cond_true,ZbT hx,Option.bind_some,h5,Zpb (g.ins _ hm x (List.mem_of_getElem? hx)),lput,ed,ZaN hj (show d.barriers[i].ins.length<9223372036854775808 by omega)]) (fun s=>by simp only[ZeN,ZhN,cond_false]) s
   have k5:=fun s=>ZqP d.barriers[i].outs (by omega) (ZeO r3 ((i:Int),ZhI d d.parts.length++List.replicate i 1,E++Zhg d i,ZdH d d.parts.length++Zgo i) d.barriers[i]) (fun q=>⟨Zpo d i,Zit d q⟩) (fun j x s hj hx hb=>by
    have ed:∀b c,ZX b c s=some ():=fun b c=>by unfold ZX; rw[hb]; rfl
    simp only[ZeO,Zgw hj,cond_true,ZbT hx,Option.bind_some,h4,Zqr (g.outs _ hm x (List.mem_of_getElem? hx)),lput,ed,ZaN hj (show d.barriers[i].outs.length<9223372036854775808 by omega)]) (fun s=>by simp only[ZeO,ZhN,cond_false]) s
   have ih':=ih (i+1) (by omega)
   have eB:Zhg d (i+1)=Zhg d i++Zwj d (Zpo d i) d.barriers[i]:=by
    unfold Zhg
    rw[ZdF,hx]
   rw[eB,Zq3,List.replicate_succ',Zwj,← List.append_assoc,← List.append_assoc,← List.append_assoc,← List.append_assoc] at ih'
   rw[Zcb]
   simp only[ZdQ,Zgw hi',cond_true,ZbT hx,Option.bind_some,ZhV _ _ (show(ZhI d d.parts.length++List.replicate i (1:Int)).length≤10000 by rw[lw_]; omega) (show(ZdH d d.parts.length++Zgo i).length≤10000 by rw[lp_]; omega),k4 (E++Zhg d i) (by rw[List.length_append]; omega),
    k5 (E++Zhg d i++List.map (fun q=>⟨Zf9 d q,Zpo d i⟩) d.barriers[i].ins) (by simp only[List.length_append,List.length_map]; omega),ZaN hi' (show d.barriers.length<9223372036854775808 by omega)]
   exact ih'
 have:=key d.barriers.length 0 (by omega)
 simpa [Zhg,upto,Zgo] using this
theorem Zr0 {d:Zt} (g:ZeI d) (hz:Zmz d):Zrc (ZcK d).dag:=by
 have hE:=Zom g
 have hB:=Zmi hz d.barriers.length
 have hbl:=g.bl
 have hF:=ZhY g d.parts.length
 have hpl:=g.pl
 constructor
 ·show(Zkq d).length<_
  unfold Zkq
  rw[List.length_append,Zhr,List.length_replicate]
  omega
 ·show(Zl6 d).length<_
  unfold Zl6
  rw[List.length_append]
  omega
noncomputable def ZsK (d:Zt):ZkR×Int:=
 bif Zh4 d==0 then (bif ZjG (ZcK d).dag==0 then (ZcK d,0) else (⟨⟨[],[]⟩,[]⟩,70)) else (⟨⟨[],[]⟩,[]⟩,Zh4 d)
theorem Zyh {d:Zt} (hz:Zmz d):Zg8 d=some (ZsK d):=by
 have hs:=hz.short
 unfold Zg8 ZsK
 rw[Ztv d hs,Option.bind_some]
 by_cases hc:Zh4 d=0
 ·have g:=ZrK hc
  have hE:=Zom g
  have h3:(ZhB d d.parts.length++Zpj d).length≤1000:=by unfold Zk2 at hE; rw[List.length_append] at hE; omega
  have h4:(ZhB d d.parts.length).length≤1000:=by rw[List.length_append] at h3; omega
  rw[hc]
  simp only[bne_self_eq_false,cond_false,beq_self_eq_true,cond_true,Zth g (ZAB hs (by have:=g.fl; omega) hc),Option.bind_some]
  rw[ZsY g rfl rfl _ h4]
  simp only[Option.bind_some]
  rw[Zq6 g rfl rfl _ h3]
  simp only[Option.bind_some]
  rw[show ZhB d d.parts.length++Zpj d++ZoU d=Zk2 d from rfl,ZuY g hz rfl rfl _ hE]
  simp only[Option.bind_some]
  rw[show Zb3.mk (Zkq d) (Zk2 d++Zhg d d.barriers.length)=(ZcK d).dag from rfl,Zos _ (Zr0 g hz),Option.bind_some]
  by_cases hk:ZjG (ZcK d).dag=0
  ·rw[hk]; rfl
  ·rw[beq_false_of_ne hk,bne,beq_false_of_ne hk]; rfl
 ·rw[beq_false_of_ne hc,bne,beq_false_of_ne hc]; rfl
end Go.Proofs.YtljgncbdagmeeaaDoor
namespace Go.Proofs.YtljgncbdagmeeaaDoor
open Go Go.Proofs.YtljgncbdagmeeaaDoorE
set_option linter.unusedVariables false
set_option linter.unusedSimpArgs false
theorem Zyq {d:Zt} (g:ZeI d) {n:Nat} (hn:n<d.parts.length):1≤ZfG d.parts (n:Int):=by
 unfold ZfG
 rw[Int.toNat_natCast,List.getElem?_eq_getElem hn]
 exact(g.g.w _ (List.getElem_mem hn)).1
theorem ZtX {d:Zt} (g:ZlI d) {n i:Nat} (hi:i<nt d n):1≤cut d n (i+1)∧cut d n (i+1)≤ZfG d.parts (n:Int)-1:=by
 obtain⟨_,_,h3,h4,h5⟩:=ZeL g hi
 have:=(g.f _ h5).2
 rw[h3,h4] at this
 exact this
theorem Zxd {d:Zt} (g:ZeI d) {n:Nat} (hn:n<d.parts.length) {i:Nat} (hi:i≤nt d n):1≤cut d n (i+1)-cut d n i:=by
 have hw:=Zyq g hn
 by_cases hl:i<nt d n
 ·have h1:=ZtX g.g hl
  cases i with
  | zero=>have:cut d n 0=0:=rfl; omega
  | succ j=>
   have:=ZmJ g.g (show j<j+1 by omega) hl
   rw[(ZeL g.g (show j<nt d n by omega)).2.2.2.1,(ZeL g.g hl).2.2.2.1] at this
   omega
 ·have:i=nt d n:=by omega
  subst this
  rw[Zoc]
  cases h0:nt d n with
  | zero=>have:cut d n 0=0:=rfl; omega
  | succ j=>
   have:=ZtX g.g (show j<nt d n by omega)
   omega
theorem Zw0 (d:Zt) (g:ZlI d) (n:Nat):nt d n=d.futures.countP fun f=>f.user==(n:Int):=by
 show(tch d n).length=_
 rw[ZpQ (Zmm g n)]
 unfold Zn0
 rw[Zm3]
theorem Zp8 {γ:Type} (p q r:γ→Bool) (h:∀x,r x=(p x || q x)) (h2:∀x,¬(p x=true∧q x=true)):∀l:List γ,l.countP r=l.countP p+l.countP q
 | []=>rfl
 | x :: l=>by
  rw[List.countP_cons,List.countP_cons,List.countP_cons,Zp8 p q r h h2 l,h x]
  have:=h2 x
  cases hp:p x<;>cases hq:q x<;>simp_all<;>omega
theorem ZmW {d:Zt} (g:ZeI d):∀k,ZU d k=k+d.futures.countP fun f=>decide (0≤f.user)&&decide (f.user<(k:Int))
 | 0=>by
  have:(d.futures.countP fun f=>decide (0≤f.user)&&decide (f.user<((0:Nat):Int)))=0:=by
   rw[List.countP_eq_zero]
   intro f _
   simp only[Bool.and_eq_true,decide_eq_true_eq]
   omega
  rw[this]; rfl
 | k+1=>by
  rw[Zp8 (fun f:Zk=>decide (0≤f.user)&&decide (f.user<(k:Int))) (fun f=>f.user==(k:Int)) (fun f=>decide (0≤f.user)&&decide (f.user<((k+1:Nat):Int))) (fun f=>by
   rw[Bool.eq_iff_iff]
   simp only[Bool.and_eq_true,Bool.or_eq_true,decide_eq_true_eq,beq_iff_eq]
   omega) (fun f=>by
   simp only[Bool.and_eq_true,decide_eq_true_eq,beq_iff_eq]
   omega)]
  show ZU d k+(nt d k+1)=_
  rw[ZmW g k,Zw0 d g.g k]
  omega
theorem Zo0 {d:Zt} (g:ZeI d):ZU d d.parts.length=d.parts.length+d.futures.length:=by
 rw[ZmW g,List.countP_eq_length.2 fun f hf=>?_]
 have:=g.user hf
 have h1:=this.1
 have h2:=this.2
 simp only[Bool.and_eq_true,decide_eq_true_eq]
 omega
theorem Zl7 {d:Zt} (g:ZeI d):(Zc4 d).length=d.parts.length+d.futures.length+d.barriers.length:=by
 unfold Zc4
 rw[List.length_append,ZdG,ZnI,Zo0 g]
theorem ZsT (d:Zt):(ZsK d=(ZcK d,0)∧Zh4 d=0∧ZjG (ZcK d).dag=0)∨((ZsK d).1=⟨⟨[],[]⟩,[]⟩∧(ZsK d).2≠0):=by
 unfold ZsK
 by_cases hc:Zh4 d=0
 ·rw[hc]
  by_cases hk:ZjG (ZcK d).dag=0
  ·rw[hk]; exact .inl ⟨rfl,rfl,rfl⟩
  ·rw[beq_false_of_ne hk]; exact .inr ⟨rfl,by show(70:Int)≠0; omega⟩
 ·rw[beq_false_of_ne hc]; exact .inr ⟨rfl,hc⟩
end Go.Proofs.YtljgncbdagmeeaaDoor
namespace Go.Proofs.YtljgncbdagmeeaaDoor
open Go Go.Proofs.YtljgncbdagmeeaaDoorE Go.Sort
set_option linter.unusedVariables false
set_option linter.unusedSimpArgs false
set_option maxRecDepth 20000
def Zgv:Int→Int→Option Int:=fun x y=>some (bif decide (x<y) then (-1:Int) else 0)
theorem Zc8 (x y:Int):Z8 x y=some (decide (x<y)):=by
 unfold Z8 Zga
 simp only[bne_self_eq_false,cond_false,Option.bind_some]
 cases decide (x<y)<;>rfl
theorem Zde (x y:Int):Zgv x y=some (bif decide (x<y) then (-1:Int) else 0):=rfl
theorem Zb2 (b:Bool):decide ((bif b then (-1:Int) else 0)<0)=b:=by cases b<;>rfl
theorem ZG (b:Int):Zbo b=Z1 b Zgv:=by
 funext s
 simp only[Zbo,Z1,Zc8,Zde,Zb2,Option.bind_some]
theorem ZJ (b:Int) (c:Int):Zbn b c=Zak b c Zgv:=by
 funext s
 simp only[Zbn,Zak,Zc8,Zde,Zb2,Option.bind_some,ZG]
theorem ZY (b:Int) (c:Int) (m:List Int):Zat b c m=Z3 b c Zgv m:=by
 simp only[Zat,Z3,Zc8,Zde,Zb2,Option.bind_some,ZG,ZJ]
theorem Zai (c:Int) (d:Int):ZbX c d=ZM c d Zgv:=by
 funext s
 simp only[ZbX,ZM,Zc8,Zde,Zb2,Option.bind_some,ZG,ZJ,ZY]
theorem Zba (b:Int) (c:Int) (d:Int) (m:List Int):ZbF b c d m=ZaK b c d Zgv m:=by
 simp only[ZbF,ZaK,Zc8,Zde,Zb2,Option.bind_some,ZG,ZJ,ZY,Zai]
theorem Zao (b:Int) (c:Int):ZbU b c=ZaG b c Zgv:=by
 funext s
 simp only[ZbU,ZaG,Zc8,Zde,Zb2,Option.bind_some,ZG,ZJ,ZY,Zai,Zba]
theorem Zaw (b:Int):ZbW b=ZaJ b Zgv:=by
 funext s
 simp only[ZbW,ZaJ,Zc8,Zde,Zb2,Option.bind_some,ZG,ZJ,ZY,Zai,Zba,Zao]
theorem Zbs (b:Int) (c:Int) (m:List Int):Za3 b c m=Zag b c Zgv m:=by
 simp only[Za3,Zag,Zc8,Zde,Zb2,Option.bind_some,ZG,ZJ,ZY,Zai,Zba,Zao,Zaw]
theorem ZcF (b:Int) (c:Int) (m:List Int) (k:Int):Zbv b c m k=ZaY b c Zgv m k:=by
 simp only[Zbv,ZaY,Zc8,Zde,Zb2,Option.bind_some,ZG,ZJ,ZY,Zai,Zba,Zao,Zaw,Zbs]
theorem ZcX (b:Int) (c:Int) (d:Int) (m:List Int) (k:Int):Zbw b c d m k=ZaX b c d Zgv m k:=by
 simp only[Zbw,ZaX,Zc8,Zde,Zb2,Option.bind_some,ZG,ZJ,ZY,Zai,Zba,Zao,Zaw,Zbs,ZcF]
theorem Zaj (b:Int) (m:List Int) (k:Int):ZaM b m k=Zad b Zgv m k:=by
 simp only[ZaM,Zad,Zc8,Zde,Zb2,Option.bind_some,ZG,ZJ,ZY,Zai,Zba,Zao,Zaw,Zbs,ZcF,ZcX]
theorem Za5 (b:Int) (c:Int) (m:List Int):ZaI b c m=ZT b c Zgv m:=by
 simp only[ZaI,ZT,Zc8,Zde,Zb2,Option.bind_some,ZG,ZJ,ZY,Zai,Zba,Zao,Zaw,Zbs,ZcF,ZcX,Zaj]
theorem Zap  : Zbt  = Zaa :=by
 funext s
 simp only[Zbt,Zaa,Zc8,Zde,Zb2,Option.bind_some,ZG,ZJ,ZY,Zai,Zba,Zao,Zaw,Zbs,ZcF,ZcX,Zaj,Za5]
theorem Za8 (b:Int) (c:Int) (m:List Int):ZaA b c m=ZO b c Zgv m:=by
 simp only[ZaA,ZO,Zc8,Zde,Zb2,Option.bind_some,ZG,ZJ,ZY,Zai,Zba,Zao,Zaw,Zbs,ZcF,ZcX,Zaj,Za5,Zap]
theorem ZW (c:Int):ZaU c=ZK c Zgv:=by
 funext s s1
 simp only[ZaU,ZK,Zc8,Zde,Zb2,Option.bind_some,ZG,ZJ,ZY,Zai,Zba,Zao,Zaw,Zbs,ZcF,ZcX,Zaj,Za5,Zap,Za8]
theorem Z5  : ZaR  = ZS Zgv:=by
 funext s
 simp only[ZaR,ZS,Zc8,Zde,Zb2,Option.bind_some,ZG,ZJ,ZY,Zai,Zba,Zao,Zaw,Zbs,ZcF,ZcX,Zaj,Za5,Zap,Za8,ZW]
theorem Z9 (c:Int):Zan c=ZH c Zgv:=by
 funext s
 simp only[Zan,ZH,Zc8,Zde,Zb2,Option.bind_some,ZG,ZJ,ZY,Zai,Zba,Zao,Zaw,Zbs,ZcF,ZcX,Zaj,Za5,Zap,Za8,ZW,Z5]
theorem Zac (b:Int) (c:Int):ZaT b c=ZR b c Zgv:=by
 funext s
 simp only[ZaT,ZR,Zc8,Zde,Zb2,Option.bind_some,ZG,ZJ,ZY,Zai,Zba,Zao,Zaw,Zbs,ZcF,ZcX,Zaj,Za5,Zap,Za8,ZW,Z5,Z9]
theorem Zas (b:Int) (c:Int) (m:List Int):ZaE b c m=ZP b c Zgv m:=by
 simp only[ZaE,ZP,Zc8,Zde,Zb2,Option.bind_some,ZG,ZJ,ZY,Zai,Zba,Zao,Zaw,Zbs,ZcF,ZcX,Zaj,Za5,Zap,Za8,ZW,Z5,Z9,Zac]
theorem ZcM (b:Int) (c:Int) (d:Int) (m:List Int) (x:Int) (y:Int):ZbN b c d m x y=ZaB b c d m Zgv x y:=by
 funext k
 simp only[ZbN,ZaB,Zc8,Zde,Zb2,Option.bind_some,ZG,ZJ,ZY,Zai,Zba,Zao,Zaw,Zbs,ZcF,ZcX,Zaj,Za5,Zap,Za8,ZW,Z5,Z9,Zac,Zas]
theorem Zc5 (b:Int) (d:Int) (m:List Int) (x:Int) (y:Int) (r:Int):ZbH b d m x y r=Zaz b d m Zgv x y r:=by
 funext k
 simp only[ZbH,Zaz,Zc8,Zde,Zb2,Option.bind_some,ZG,ZJ,ZY,Zai,Zba,Zao,Zaw,Zbs,ZcF,ZcX,Zaj,Za5,Zap,Za8,ZW,Z5,Z9,Zac,Zas,ZcM]
theorem Zdy (b:Int) (s:Int×Int×List Int):ZbI b s=ZaC b Zgv s:=by
 funext k
 simp only[ZbI,ZaC,Zc8,Zde,Zb2,Option.bind_some,ZG,ZJ,ZY,Zai,Zba,Zao,Zaw,Zbs,ZcF,ZcX,Zaj,Za5,Zap,Za8,ZW,Z5,Z9,Zac,Zas,ZcM,Zc5]
theorem Zd7 (b:Int) (r:Int) (s:Int×Int×List Int):ZbK b s r=Zay b Zgv s r:=by
 funext k
 simp only[ZbK,Zay,Zc8,Zde,Zb2,Option.bind_some,ZG,ZJ,ZY,Zai,Zba,Zao,Zaw,Zbs,ZcF,ZcX,Zaj,Za5,Zap,Za8,ZW,Z5,Z9,Zac,Zas,ZcM,Zc5,Zdy]
theorem ZeV (b:Int):ZbL b=Za0 b Zgv:=by
 funext s
 simp only[ZbL,Za0,Zc8,Zde,Zb2,Option.bind_some,ZG,ZJ,ZY,Zai,Zba,Zao,Zaw,Zbs,ZcF,ZcX,Zaj,Za5,Zap,Za8,ZW,Z5,Z9,Zac,Zas,ZcM,Zc5,Zdy,Zd7]
theorem Zgy (b:Int) (c:Int) (d:Int) (m:List Int):Zv b c d m=Zq b c d Zgv m:=by
 simp only[Zv,Zq,Zc8,Zde,Zb2,Option.bind_some,ZG,ZJ,ZY,Zai,Zba,Zao,Zaw,Zbs,ZcF,ZcX,Zaj,Za5,Zap,Za8,ZW,Z5,Z9,Zac,Zas,ZcM,Zc5,Zdy,Zd7,ZeV]
theorem Zex (b:Int) (s:Int×Int×List Int):Zbh b s=Zae b Zgv s:=by
 funext k
 simp only[Zbh,Zae,Zc8,Zde,Zb2,Option.bind_some,ZG,ZJ,ZY,Zai,Zba,Zao,Zaw,Zbs,ZcF,ZcX,Zaj,Za5,Zap,Za8,ZW,Z5,Z9,Zac,Zas,ZcM,Zc5,Zdy,Zd7,ZeV,Zgy]
theorem ZfM (b:Int) (r:Int) (s:Int×Int×List Int):Zbi b s r=Zaf b Zgv s r:=by
 funext k
 simp only[Zbi,Zaf,Zc8,Zde,Zb2,Option.bind_some,ZG,ZJ,ZY,Zai,Zba,Zao,Zaw,Zbs,ZcF,ZcX,Zaj,Za5,Zap,Za8,ZW,Z5,Z9,Zac,Zas,ZcM,Zc5,Zdy,Zd7,ZeV,Zgy,Zex]
theorem ZgZ (b:Int):Zbj b=Zar b Zgv:=by
 funext s
 simp only[Zbj,Zar,Zc8,Zde,Zb2,Option.bind_some,ZG,ZJ,ZY,Zai,Zba,Zao,Zaw,Zbs,ZcF,ZcX,Zaj,Za5,Zap,Za8,ZW,Z5,Z9,Zac,Zas,ZcM,Zc5,Zdy,Zd7,ZeV,Zgy,Zex,ZfM]
theorem Zh1 (b:Int) (c:Int) (d:Int) (m:List Int):ZL b c d m=ZC b c d Zgv m:=by
 simp only[ZL,ZC,Zc8,Zde,Zb2,Option.bind_some,ZG,ZJ,ZY,Zai,Zba,Zao,Zaw,Zbs,ZcF,ZcX,Zaj,Za5,Zap,Za8,ZW,Z5,Z9,Zac,Zas,ZcM,Zc5,Zdy,Zd7,ZeV,Zgy,Zex,ZfM,ZgZ]
theorem Zmc (b:Int) (c:Int) (x:Int):Zbp b c x=Zax b c x:=by
 funext s
 simp only[Zbp,Zax,Zc8,Zde,Zb2,Option.bind_some,ZG,ZJ,ZY,Zai,Zba,Zao,Zaw,Zbs,ZcF,ZcX,Zaj,Za5,Zap,Za8,ZW,Z5,Z9,Zac,Zas,ZcM,Zc5,Zdy,Zd7,ZeV,Zgy,Zex,ZfM,ZgZ,Zh1]
theorem ZnW (b:Int) (c:Int) (m:List Int):Zbe b c m=Zah b c Zgv m:=by
 simp only[Zbe,Zah,Zc8,Zde,Zb2,Option.bind_some,ZG,ZJ,ZY,Zai,Zba,Zao,Zaw,Zbs,ZcF,ZcX,Zaj,Za5,Zap,Za8,ZW,Z5,Z9,Zac,Zas,ZcM,Zc5,Zdy,Zd7,ZeV,Zgy,Zex,ZfM,ZgZ,Zh1,Zmc]
theorem Zv1 (rc:Int→Int→Int→(Int→Int→Option Int)→List Int→Option (List Int)) (rc':Int→Int→Int→List Int→Option (List Int)) (h:∀a b c l,rc' a b c l=rc a b c Zgv l):Zb6 rc'=ZV Zgv rc:=by
 funext s
 simp only[Zb6,ZV,Zc8,Zde,Zb2,Option.bind_some,h,ZY,Zba,Zbs,ZcF,ZcX,Zaj,Za5,Za8,Zas,Zgy,Zh1,ZnW]
theorem Zuy:∀(n:Nat) (a b c:Int) (l:List Int),Zbf n a b c l=ZZ n a b c Zgv l
 | 0,_,_,_,_=>rfl
 | n+1,a,b,c,l=>by
  show Zca (Zbf n) a b c l=ZaD (ZZ n) a b c Zgv l
  unfold Zca ZaD
  rw[Zv1 (ZZ n) (Zbf n) (Zuy n)]
theorem Zvy (l:List Int):Zcz l=ZaO Zgv l:=by
 unfold Zcz ZaO ZeD Zdt
 simp only[Zuy]
theorem ZuG (l:List Int) (hl:l.length≤1000):∃r:List Int,Zcz l=some r∧r.Perm l∧r.Pairwise (fun x y=>x≤y):=by
 have hc:ZpO Zgv (fun x y=>bif decide (x<y) then (-1:Int) else 0) (fun _=>True):=fun x y _ _=>rfl
 have e:∀x y:Int,ltC (fun x y=>bif decide (x<y) then (-1:Int) else 0) x y=decide (x<y):=fun x y=>Zb2 _
 have hs:SWO (ltC fun x y=>bif decide (x<y) then (-1:Int) else 0):=by
  refine⟨fun x=>?_,fun x y z h1 h2=>?_,fun x y z h1 h2=>?_⟩<;>simp only[e,decide_eq_true_eq,decide_eq_false_iff_not] at *<;>omega
 obtain⟨r,h1,h2,h3⟩:=Zw1 hc hs l hl (fun _ _=>trivial)
 refine⟨r,(Zvy l).trans h1,h2,h3.imp fun {x y} h=>?_⟩
 rw[e,decide_eq_false_iff_not] at h
 omega
end Go.Proofs.YtljgncbdagmeeaaDoor
namespace Go.Proofs.YtljgncbdagmeeaaDoor
open Go Go.Proofs.YtljgncbdagmeeaaDoorE
set_option linter.unusedVariables false
set_option linter.unusedSimpArgs false
theorem ZyF {g:Zb3} (h:Ziy g) (n:Int):∃r,Zih g n=some r∧(∀z,z∈r↔∃e∈g.edges,e.dst=n∧e.src=z)∧r.length≤256:=by
 have hel:=h.el
 have key:=Zw5 g.edges (by omega) (fun e:Zr=>e.dst==n) (fun _ e=>e.src) (ZgQ g fun z0=>Zfy z0 n) (fun i x s hi hx=>by
  simp only[ZgQ,Zgw hi,cond_true,ZbT hx,Option.bind_some,Zfy,ZaN hi h.short.e]
  cases x.dst==n<;>rfl) (fun s=>by simp only[ZgQ,ZhN,cond_false]) [] (by simp)
 rw[List.nil_append] at key
 have hlen:(sel (fun e:Zr=>e.dst==n) (fun _ e=>e.src) 0 g.edges).length≤256:=Nat.le_trans (ZuR _ _ _ _) hel
 obtain⟨r,h1,h2,_⟩:=ZuG _ (Nat.le_trans hlen (by omega))
 refine⟨r,?_,fun z=>?_,by rw[h2.length_eq]; exact hlen⟩
 ·unfold Zih Zln
  simp only[key,Option.bind_some,h1]
 ·rw[h2.mem_iff,Zn6]
  constructor
  ·rintro ⟨j,x,hx,h3,h4⟩
   exact⟨x,List.mem_of_getElem? hx,by simpa using h3,h4.symm⟩
  ·rintro ⟨e,he,h3,h4⟩
   obtain⟨j,hj⟩:=List.getElem?_of_mem he
   exact⟨j,e,hj,by simpa using h3,h4.symm⟩
noncomputable def ZvY (g:Zb3) (a b:Int):Bool:=@decide (Way g a b) (Classical.propDecidable _)
theorem ZsU {g:Zb3} {a b:Int} (h:Way g a b):ZvY g a b=true:=@decide_eq_true _ (Classical.propDecidable _) h
theorem Zzn {g:Zb3} {a b:Int} (h:¬Way g a b):ZvY g a b=false:=@decide_eq_false _ (Classical.propDecidable _) h
theorem Zvm {g:Zb3} (h:ZjG g=0):∃l,Zid g=some l∧ZA6 g l:=by
 obtain⟨hG,hA⟩:=Zqc h
 obtain⟨l,h1,h2⟩:=ZpU hG hA
 refine⟨l,?_,h2⟩
 unfold Zid
 rw[Zos g hG.short,h,Option.bind_some]
 simp only[bne_self_eq_false,cond_false,h1,Option.bind_some,cond_true]
theorem ZrI {g:Zb3} (h:ZjG g=0) (a b:Int):ZgO g a b=some (ZvY g a b):=by
 obtain⟨hG,hA⟩:=Zqc h
 obtain⟨l,h1,T⟩:=Zvm h
 have hwl:=hG.wl
 have hll:l.length≤64:=by rw[T.len]; exact hwl
 have key:∀(k i:Nat) (fr:List Int),i+k=l.length→(∀z,z∈fr↔z=a∨(Way g a z∧∃j,j<i∧l[j]? = some z))→fr.length≤i+1→¬(Way g a b∧∃j,j<i∧l[j]? = some b) →
   lp (Zes g b l) ((i:Int),fr)=some (bif ZvY g a b then .inl () else .inr ()):=by
  intro k
  induction k with
  | zero=>
   intro i fr hi hm hl hn
   have:i=l.length:=by omega
   subst this
   rw[Zcb]
   simp only[Zes,ZhN,cond_false]
   have:¬Way g a b:=fun w=>hn ⟨w,by
    have hd:=w.dst_in hG
    have:=T.all b.toNat hd.2
    rw[show((b.toNat:Nat):Int)=b by omega] at this
    obtain⟨j,hj⟩:=List.getElem?_of_mem this
    exact⟨j,(List.getElem?_eq_some_iff.1 hj).1,hj⟩⟩
   rw[Zzn this]; rfl
  | succ k ih=>
   intro i fr hi hm hl hn
   have hi':i<l.length:=by omega
   have hx:l[i]? = some l[i]:=List.getElem?_eq_getElem hi'
   obtain⟨ps,p1,p2,p3⟩:=ZyF hG l[i]
   have inner:=Zhw ps (Zfl b ((i:Int),fr) l[i] ps) (fun _ p=>fr.any fun x=>p==x) (fun _ _=>(bif l[i]==b then (.inl ():Unit⊕List Int) else .inr (fr++[l[i]]))) (.inr fr) (fun j p hj hp=>by
    simp only[Zfl,Zgw hj,cond_true,ZbT hp,Option.bind_some,Zsr fr p (by omega),Zji (show fr.length+1≤1073741824 by omega),ZaN hj (show ps.length<9223372036854775808 by omega)]
    cases fr.any (fun x=>p==x)<;>cases l[i]==b<;>rfl) (by simp only[Zfl,ZhN]; rfl)
   rw[Zf6,ZkQ] at inner
   have hw:(ps.any fun p=>fr.any fun x=>p==x)=true↔Way g a l[i]:=by
    rw[List.any_eq_true]
    constructor
    ·rintro ⟨p,hp,hq⟩
     obtain⟨q,hq1,hq2⟩:=List.any_eq_true.1 hq
     have:p=q:=by simpa using hq2
     subst this
     obtain⟨e,he,e1,e2⟩:=(p2 p).1 hp
     rcases(hm p).1 hq1 with hz | ⟨hz,_⟩
     ·rw[← e1,← hz,← e2]; exact Way.one he
     ·rw[← e1]; exact Way.more (by rw[e2]; exact hz) he
    ·intro w
     generalize hni:l[i]=n at w
     cases w with
     | @one e he=>
      exact⟨e.src,(p2 _).2 ⟨e,he,hni.symm,rfl⟩,List.any_eq_true.2 ⟨e.src,(hm _).2 (.inl rfl),by simp⟩⟩
     | @more _ e w he=>
      obtain⟨j,j1,j2⟩:=T.topo i l[i] hx e he hni.symm
      exact⟨e.src,(p2 _).2 ⟨e,he,hni.symm,rfl⟩,List.any_eq_true.2 ⟨e.src,(hm _).2 (.inr ⟨w,j,j1,j2⟩),by simp⟩⟩
   rw[Zcb]
   simp only[Zes,Zgw hi',cond_true,ZbT hx,Option.bind_some,p1,inner,ZaN hi' (show l.length<9223372036854775808 by omega)]
   by_cases hwi:Way g a l[i]
   ·rw[hw.2 hwi]
    simp only[cond_true]
    by_cases hb:l[i]=b
    ·rw[hb,ZsU (hb ▸ hwi)]
     simp only[beq_self_eq_true,cond_true]
    ·rw[beq_false_of_ne hb]
     simp only[cond_false]
     refine ih (i+1) (fr++[l[i]]) (by omega) (fun z=>?_) (by rw[List.length_append]; simp only[List.length_cons,List.length_nil]; omega) ?_
     ·rw[List.mem_append,List.mem_singleton,hm z]
      constructor
      ·rintro ((hz | ⟨hz,j,j1,j2⟩) | hz)
       ·exact .inl hz
       ·exact .inr ⟨hz,j,by omega,j2⟩
       ·exact .inr ⟨hz ▸ hwi,i,by omega,by rw[hx,hz]⟩
      ·rintro (hz | ⟨hz,j,j1,j2⟩)
       ·exact .inl (.inl hz)
       ·by_cases hj:j<i
        ·exact .inl (.inr ⟨hz,j,hj,j2⟩)
        ·have:j=i:=by omega
         subst this
         rw[hx] at j2
         exact .inr (Option.some.inj j2).symm
     ·rintro ⟨w,j,j1,j2⟩
      by_cases hj:j<i
      ·exact hn ⟨w,j,hj,j2⟩
      ·have:j=i:=by omega
       subst this
       rw[hx] at j2
       exact hb (Option.some.inj j2)
   ·have hf:(ps.any fun p=>fr.any fun x=>p==x)=false:=by
     cases hc:ps.any fun p=>fr.any fun x=>p==x with
     | false=>rfl
     | true=>exact absurd (hw.1 hc) hwi
    rw[hf]
    simp only[cond_false]
    refine ih (i+1) fr (by omega) (fun z=>?_) (by omega) ?_
    ·rw[hm z]
     constructor
     ·rintro (hz | ⟨hz,j,j1,j2⟩)
      ·exact .inl hz
      ·exact .inr ⟨hz,j,by omega,j2⟩
     ·rintro (hz | ⟨hz,j,j1,j2⟩)
      ·exact .inl hz
      ·by_cases hj:j<i
       ·exact .inr ⟨hz,j,hj,j2⟩
       ·have:j=i:=by omega
        subst this
        rw[hx] at j2
        exact absurd (Option.some.inj j2 ▸ hz) hwi
    ·rintro ⟨w,j,j1,j2⟩
     by_cases hj:j<i
     ·exact hn ⟨w,j,hj,j2⟩
     ·have:j=i:=by omega
      subst this
      rw[hx] at j2
      exact hwi (Option.some.inj j2 ▸ w)
 have k0:=key l.length 0 [a] (by omega) (fun z=>by
  rw[List.mem_singleton]
  constructor
  ·exact .inl
  ·rintro (hz | ⟨_,j,j1,_⟩)
   ·exact hz
   ·omega) (by simp) (by rintro ⟨_,j,j1,_⟩; omega)
 unfold ZgO
 rw[h1,Option.bind_some,show lp (Zes g b l) (0,[a])=_ from k0]
 cases ZvY g a b<;>rfl
end Go.Proofs.YtljgncbdagmeeaaDoor
namespace Go.Proofs.YtljgncbdagmeeaaDoor
open Go Go.Proofs.YtljgncbdagmeeaaDoorE
set_option linter.unusedVariables false
set_option linter.unusedSimpArgs false
theorem ZkZ (d:Zt) {m n:Nat} (h:m≤n):ZU d m≤ZU d n:=by
  induction n with
  | zero => have : m = 0 := by omega
            subst this; exact Nat.le_refl _
  | succ n ih=>
    by_cases hm:m=n+1
    · subst hm; exact Nat.le_refl _
    · have:=ih (by omega)
      show ZU d m≤ZU d n+(nt d n+1)
      omega
theorem Zhq (d:Zt) (n:Nat):ZU d (n+1)=ZU d n+nt d n+1:=by show ZU d n+(nt d n+1)=_; omega
theorem ZjP (d:Zt) {m n j:Nat} (h:m<n) (hj:j≤nt d m):ZU d m+j<ZU d n:=by
  have:=ZkZ d (show m+1≤n by omega)
  have:=Zhq d m
  omega
theorem Zss (d:Zt):∀(k i:Nat),i<ZU d k→∃n j,n<k∧j≤nt d n∧i=ZU d n+j
  | 0,i,h=>absurd h (by show ¬i<0; omega)
  | k+1,i,h=>by
    have hs:=Zhq d k
    by_cases hi:i<ZU d k
    · obtain⟨n,j,h1,h2,h3⟩:=Zss d k i hi
      exact⟨n,j,by omega,h2,h3⟩
    · exact⟨k,i-ZU d k,by omega,by omega,by omega⟩
theorem ZoC (d:Zt):∀(k n j:Nat),n<k→j≤nt d n→(ZdH d k)[ZU d n+j]? = some ⟨(n:Int),(j:Int)⟩
  | 0,n,j,h,_=>absurd h (by omega)
  | k+1,n,j,h,hj=>by
    rw[show ZdH d (k+1)=ZdH d k++Zfq k (nt d k+1) from ZdF _ k]
    by_cases hn:n<k
    · rw[List.getElem?_append_left (by rw[ZdG]; exact ZjP d hn hj)]
      exact ZoC d k n j hn hj
    · have:n=k:=by omega
      subst this
      rw[List.getElem?_append_right (by rw[ZdG]; omega),ZdG,Nat.add_sub_cancel_left]
      unfold Zfq
      rw[List.getElem?_map,List.getElem?_range (by omega)]
      rfl
theorem Zrt (d:Zt):∀(k n j:Nat),n<k→j≤nt d n→(ZhI d k)[ZU d n+j]? = some (cut d n (j+1)-cut d n j)
  | 0,n,j,h,_=>absurd h (by omega)
  | k+1,n,j,h,hj=>by
    rw[show ZhI d (k+1)=ZhI d k++Zmh d k from ZdF _ k]
    by_cases hn:n<k
    · rw[List.getElem?_append_left (by rw[Zhr]; exact ZjP d hn hj)]
      exact Zrt d k n j hn hj
    · have:n=k:=by omega
      subst this
      rw[List.getElem?_append_right (by rw[Zhr]; omega),Zhr,Nat.add_sub_cancel_left]
      unfold Zmh ZjD
      rw[List.getElem?_map,List.getElem?_range (by omega)]
      rfl
theorem Zo4 {d:Zt} {n j:Nat} (hn:n<d.parts.length) (hj:j≤nt d n):(Zc4 d)[ZU d n+j]? = some ⟨(n:Int),(j:Int)⟩:=by
  unfold Zc4
  rw[List.getElem?_append_left (by rw[ZdG]; exact ZjP d hn hj)]
  exact ZoC d _ n j hn hj
theorem ZyP {d:Zt} {n j:Nat} (hn:n<d.parts.length) (hj:j≤nt d n):(Zkq d)[ZU d n+j]? = some (cut d n (j+1)-cut d n j):=by
  unfold Zkq
  rw[List.getElem?_append_left (by rw[Zhr]; exact ZjP d hn hj)]
  exact Zrt d _ n j hn hj
theorem ZkP {d:Zt} {i:Nat} {x:Zi} (h:(Zc4 d)[i]? = some x):(∃n j,n<d.parts.length∧j≤nt d n∧i=ZU d n+j∧x=⟨(n:Int),(j:Int)⟩)∨(ZU d d.parts.length≤i∧x.part = -1):=by
  by_cases hi:i<ZU d d.parts.length
  · obtain⟨n,j,h1,h2,h3⟩:=Zss d _ i hi
    subst h3
    rw[Zo4 h1 h2] at h
    exact .inl ⟨n,j,h1,h2,rfl,(Option.some.inj h).symm⟩
  · refine .inr ⟨by omega,?_⟩
    unfold Zc4 at h
    rw[List.getElem?_append_right (by rw[ZdG]; omega)] at h
    have:=List.mem_of_getElem? h
    unfold Zgo at this
    obtain⟨k,_,rfl⟩:=List.mem_map.1 this
    rfl
theorem Zw3 {d:Zt} (g:ZeI d) {z:Int} (h:inR d z):Zhx (ZcK d) (Zi.mk z 0)=some (Zit d z):=by
  have hlen:(Zc4 d).length<9223372036854775808:=by rw[Zl7 g]; have:=g.pl; have:=g.fl; have:=g.bl; omega
  have ez:((z.toNat:Nat):Int)=z:=Int.toNat_of_nonneg h.1
  have key:=Zhw (Zc4 d) (Zem (ZcK d) (Zi.mk z 0)) (fun _ x=>(x.part==z)&&((x.step==0)&&true)) (fun i _=>(i:Int)) (-1) (fun i x hi hx=>by
    have hi2:i<(ZcK d).pieces.length:=hi
    have hx2:(ZcK d).pieces[i]? = some x:=hx
    simp only[Zem,Zgw hi2,cond_true,ZbT hx2,Option.bind_some,ZaN hi2 hlen]
    cases (x.part==z)<;>cases (x.step==0)<;>rfl) (by
    show Zem (ZcK d) (Zi.mk z 0) ((ZcK d).pieces.length:Int)=_
    simp only[Zem,ZhN]; rfl)
  have hp:=Zo4 h.2 (Nat.zero_le (nt d z.toNat))
  rw[Nat.add_zero] at hp
  have hs:=ZqT (fun(_:Nat) (x:Zi)=>(x.part==z)&&((x.step==0)&&true)) (fun i _=>(i:Int)) (-1) (Zc4 d) 0 (ZU d z.toNat) _ hp (by simp[ez]) (fun k y hk hy=>by
    rcases ZkP hy with⟨n,j,h1,h2,h3,rfl⟩ | ⟨h1,h2⟩
    · rw[Bool.and_true,Bool.and_eq_false_iff]
      by_cases hn:n=z.toNat
      · subst hn
        exact .inr (beq_false_of_ne (by show(j:Int)≠0; omega))
      · exact .inl (beq_false_of_ne (by show(n:Int)≠z; omega))
    · have h0:=h.1
      rw[beq_false_of_ne (show y.part≠z by omega)]
      rfl)
  unfold Zhx
  rw[key,hs]
  simp only[Option.bind_some,Nat.zero_add]
  rfl
theorem Zsl (zs:List (Int×Int)) (p:Int) (hp:0≤p) (i:Nat):∀k,i<k→(pc zs i).1=p→(∀j,i<j→j<k→(pc zs j).1≠p)→Zgb zs p k=(i:Int)
  | 0,h,_,_=>absurd h (by omega)
  | k+1,h,h1,h2=>by
    unfold Zgb
    by_cases hk:k=i
    · subst hk
      rw[h1,bne_self_eq_false,decide_eq_false (show ¬p<0 by omega)]
      rfl
    · have:=h2 k (by omega) (by omega)
      rw[bne_iff_ne.2 this]
      exact Zsl zs p hp i k (by omega) h1 fun j a b=>h2 j a (by omega)
theorem ZrG {d:Zt} (g:ZeI d) {z:Int} (h:inR d z):ZgT (ZcK d) z=some (Zf9 d z):=by
  have hlen:(Zc4 d).length≤1000:=by rw[Zl7 g]; have:=g.pl; have:=g.fl; have:=g.bl; omega
  have ez:((z.toNat:Nat):Int)=z:=Int.toNat_of_nonneg h.1
  have hp:=Zo4 h.2 (Nat.le_refl (nt d z.toNat))
  have hpc:∀(i:Nat) x,(Zc4 d)[i]? = some x→(pc (List.map (fun x:Zi=>(x.part,x.step)) (Zc4 d)) i).1=x.part:=fun i x hx=>by
    unfold pc
    rw[List.getElem?_map,hx]
    rfl
  have hi:ZU d z.toNat+nt d z.toNat<(Zc4 d).length:=(List.getElem?_eq_some_iff.1 hp).1
  have hs:=Zsl (List.map (fun x:Zi=>(x.part,x.step)) (Zc4 d)) z h.1 (ZU d z.toNat+nt d z.toNat) (Zc4 d).length hi (by rw[hpc _ _ hp]; exact ez) (fun j h1 h2=>by
    have hy:=List.getElem?_eq_getElem h2
    rw[hpc _ _ hy]
    rcases ZkP hy with⟨n,m,m1,m2,m3,m4⟩ | ⟨_,m2⟩
    · rw[m4]
      show(n:Int)≠z
      intro hc
      have:n=z.toNat:=by omega
      subst this
      omega
    · rw[m2]; have:=h.1; omega)
  unfold ZgT ZrA
  rw[List.length_map,Zji (show(ZcK d).pieces.length≤1073741824 by show(Zc4 d).length≤_; omega)]
  simp only[cond_true,Option.bind_some]
  show some (Zgb (List.map (fun x:Zi=>(x.part,x.step)) (Zc4 d)) z (Zc4 d).length)=_
  rw[hs]
  unfold Zf9
  rw[Zhq]
  congr 1
  omega
theorem Zve {d:Zt} {n j:Nat} (hn:n<d.parts.length) (hj:j<nt d n):(⟨((ZU d n+j:Nat):Int),((ZU d n+j+1:Nat):Int)⟩:Zr)∈(ZcK d).dag.edges:=by
  show _∈Zl6 d
  unfold Zl6 Zk2 ZhB upto ZhH
  simp only[List.mem_append,List.mem_flatMap,List.mem_map,List.mem_range]
  exact .inl (.inl (.inl ⟨n,hn,j,hj,rfl⟩))
theorem ZpS {d:Zt} {f:Zk} (h:f∈d.futures):(⟨Zf9 d f.maker,Zq4 d f⟩:Zr)∈(ZcK d).dag.edges:=by
  show _∈Zl6 d
  unfold Zl6 Zk2 ZoU
  simp only[List.mem_append,List.mem_map]
  exact .inl (.inr ⟨f,h,rfl⟩)
def ZwS (g:Zb3) (a b:Int):Prop:=a=b∨Way g a b
theorem ZwS.way {g:Zb3} {a b c:Int} (h:ZwS g a b) (w:Way g b c):Way g a c:=by
  rcases h with rfl | h
  · exact w
  · exact h.trans w
theorem Way.ways {g:Zb3} {a b c:Int} (w:Way g a b) (h:ZwS g b c):Way g a c:=by
  rcases h with rfl | h
  · exact w
  · exact w.trans h
theorem Zt0 {d:Zt} {n i:Nat} (hn:n<d.parts.length):∀j,i≤j→j≤nt d n→ZwS (ZcK d).dag ((ZU d n+i:Nat):Int) ((ZU d n+j:Nat):Int)
  | 0,h1,_=>.inl (by rw[show i=0 by omega])
  | j+1,h1,h2=>by
    by_cases hi:i=j+1
    · exact .inl (by rw[hi])
    · exact .inr ((Zt0 hn j (by omega) (by omega)).way (Way.one (Zve hn (show j<nt d n by omega))))
theorem Zz0 {d:Zt} {z:Int} (h:inR d z):ZwS (ZcK d).dag (Zit d z) (Zf9 d z):=by
  have:=Zt0 h.2 (nt d z.toNat) (Nat.zero_le _) (Nat.le_refl _)
  rw[Nat.add_zero] at this
  unfold Zit Zf9
  rw[Zhq]
  rwa [show(((ZU d z.toNat+nt d z.toNat+1:Nat):Int)-1)=((ZU d z.toNat+nt d z.toNat:Nat):Int) by omega]
end Go.Proofs.YtljgncbdagmeeaaDoor
namespace Go.Proofs.YtljgncbdagmeeaaDoor
open Go Go.Proofs.YtljgncbdagmeeaaDoorE
set_option linter.unusedVariables false
set_option linter.unusedSimpArgs false
theorem ZfX:∀r,Zfw=some r→evD ctx 14 []=some (D.bool r):=fun r h=>by
  cases h
  exact ZzT 100 (by kernel_rfl)
def ZlX (r:Bool):D:=(D.bool r)
def ZjO (t0:Bool) (t1:Bool) (t2:Bool) (t3:Bool) (a:Zt):(Unit⊕Unit)→Ex×List V×Zn
  | (.inl r)=>(.ret,[(.ptr 0 0),(.d (D.bool false))],[(.cells (dV t0 t1 t2 t3 a))])
  | (.inr r)=>(.exit 0,[(.ptr 0 0),.bad],[(.cells (dV t0 t1 t2 t3 a))])
theorem ZmF {t0:Bool} {t1:Bool} {t2:Bool} {t3:Bool} {a:Zt}:∀(s0:Int) (r:(Unit⊕Unit)),lp (ZfN a) s0=some r→lpW ctx 0 [1,3] [1,2] ZwD [(.ptr 0 0),(.d (Ze s0))] [(.cells (dV t0 t1 t2 t3 a))]=some ((ZjO t0 t1 t2 t3 a) r):=by
 refine Zbc (ZjO t0 t1 t2 t3 a) ?_
 intro s0 rcl ih
 show Z6 _ _ (lpW _ _ _ _ _ _ _)
 unfold ZfN
 rw[Zbd]
 conv=>arg 3; whnf
 refine Zo (Zam _ _) ?_
 conv=>arg 3; whnf
 refine Zg rfl ?_ ?_
 ·conv=>arg 3; whnf
  refine Zg rfl ?_ ?_
  ·conv=>arg 3; whnf
   refine Zj rfl rfl fun x1 hx1=>?_
   conv=>arg 3; whnf
   refine Zo (Zam _ _) ?_
   conv=>arg 3; whnf
   refine Zg rfl ?_ ?_
   ·conv=>arg 3; whnf
    exact Zh rfl
   ·conv=>arg 3; whnf
    refine Zf (ZaF rfl hx1) ?_
    conv=>arg 3; whnf
    refine Zo (Zam _ _) ?_
    conv=>arg 3; whnf
    refine Zg rfl ?_ ?_
    ·conv=>arg 3; whnf
     exact Zh rfl
    ·conv=>arg 3; whnf
     exact Zd (ih _)
  ·conv=>arg 3; whnf
   exact Zh rfl
 ·conv=>arg 3; whnf
  exact Zh rfl
theorem Zph {t0:Bool} {t1:Bool} {t2:Bool} {t3:Bool} {a:Zt}:∀r,(Zie a)=some r→evD ctx 15 [(.d (D.agg (dA t0 t1 t2 t3 a)))]=some (ZlX r):=by
 show Z6 _ (fun r rhs=>rhs=some (ZlX r)) _
 unfold Zie
 rw[ZcP ctx 15 ZzW _ rfl rfl]
 conv=>arg 3; whnf
 refine Zc _ (ZmF _) fun r2 hr2=>?_
 clear hr2
 rcases r2 with r2 | r2
 ·conv=>arg 3; whnf
  exact Zh rfl
 ·conv=>arg 3; whnf
  refine Zo (Zam _ _) ?_
  conv=>arg 3; whnf
  refine Zg rfl ?_ ?_
  ·conv=>arg 3; whnf
   refine Zo (Zam _ _) ?_
   conv=>arg 3; whnf
   refine Zg rfl ?_ ?_
   ·conv=>arg 3; whnf
    refine Zo (Zam _ _) ?_
    conv=>arg 3; whnf
    refine Zg rfl ?_ ?_
    ·conv=>arg 3; whnf
     refine Zo (Zam _ _) ?_
     conv=>arg 3; whnf
     refine Zg rfl ?_ ?_
     ·conv=>arg 3; whnf
      exact Zh rfl
     ·conv=>arg 3; whnf
      exact Zh rfl
    ·conv=>arg 3; whnf
     exact Zh rfl
   ·conv=>arg 3; whnf
    exact Zh rfl
  ·conv=>arg 3; whnf
   exact Zh rfl
def ZlZ (t0:Bool) (t1:Bool) (t2:Bool) (t3:Bool) (a:Zt):(List Zu)→V×Zn
  | r=>((.agg [(.d (Ze a.period)),(.d (Ze a.deadline)),(.sl 0 3),(.sl 1 2),(.sl 2 3),(.sl 3 2)]),[(.arr 3 (List.map Zau a.parts)),(.arr 2 (List.map ZI a.edges)),(.arr 3 (List.map Zs a.futures)),(.arr 2 (List.map ZA r))])
def ZjK (t0:Bool) (t1:Bool) (t2:Bool) (t3:Bool) (a:Zt):(List Zu)→Ex×List V×Zn
  | r=>(.exit 0,[(.ptr 0 0),(.ptr 1 0)],[(.cells [(.d (Ze 0)),(.d (Ze 0)),(.sl 2 3),(.sl 3 2),(.sl 4 3),(.sl 5 2)]),(.cells [(.d (Ze a.period)),(.d (Ze a.deadline)),(.sl 6 3),(.sl 7 2),(.sl 8 3),(.sl 9 2)]),(.arr 3 []),(.arr 2 []),(.arr 3 []),(.arr 2 []),(.arr 3 (List.map Zau a.parts)),(.arr 2 (List.map ZI a.edges)),(.arr 3 (List.map Zs a.futures)),(.arr 2 (List.map ZA r))])
theorem Zmw {t0:Bool} {t1:Bool} {t2:Bool} {t3:Bool} {a:Zt}:∀(s0:Int×(List Zu)) (r:(List Zu)),lp (ZeU a) s0=some r→lpW ctx 0 [1,2,3,4] [2,3] ZxL [(.ptr 0 0),(.ptr 1 0),(.ptr 2 0),(.d (Ze s0.1))] [(.cells (dV t0 t1 t2 t3 a)),(.cells [(.d (Ze 0)),(.d (Ze 0)),(.sl 3 3),(.sl 4 2),(.sl 5 3),(.sl 6 2)]),(.cells [(.d (Ze a.period)),(.d (Ze a.deadline)),(.sl 7 3),(.sl 8 2),(.sl 9 3),(.sl 10 2)]),(.arr 3 []),(.arr 2 []),(.arr 3 []),(.arr 2 []),(.arr 3 (List.map Zau a.parts)),(.arr 2 (List.map ZI a.edges)),(.arr 3 (List.map Zs a.futures)),(.arr 2 (List.map ZA s0.2))]=some ((ZjK t0 t1 t2 t3 a) r):=by
 refine Zbc (ZjK t0 t1 t2 t3 a) ?_
 intro s0 rcl ih
 show Z6 _ _ (lpW _ _ _ _ _ _ _)
 unfold ZeU
 rw[Zbd]
 conv=>arg 3; whnf
 refine Zo (Zam _ _) ?_
 conv=>arg 3; whnf
 refine Zg rfl ?_ ?_
 ·conv=>arg 3; whnf
  refine Zj rfl rfl fun x1 hx1=>?_
  conv=>arg 3; whnf
  refine ZbC (Zlj (f:=Ze) (fun _=>⟨rfl,rfl⟩) x1.ins 0) ?_
  conv=>arg 3; whnf
  refine Zg (Zli Ze x1.ins) ?_ ?_
  ·conv=>arg 3; whnf
   refine Zo (rfl:_=List.map Ze x1.ins) ?_
   conv=>arg 3; whnf
   refine Zf (ZaF rfl hx1) ?_
   conv=>arg 3; whnf
   refine ZbC (Zlj (f:=Ze) (fun _=>⟨rfl,rfl⟩) x1.outs 0) ?_
   conv=>arg 3; whnf
   refine Zg (Zli Ze x1.outs) ?_ ?_
   ·conv=>arg 3; whnf
    refine Zo (rfl:_=List.map Ze x1.outs) ?_
    conv=>arg 3; whnf
    refine ZbC rfl ?_
    conv=>arg 3; whnf
    refine Zg (Zjp ZA s0.2 1) ?_ ?_
    ·conv=>arg 3; whnf
     refine Zo (Zjl ZA s0.2 [x1]) ?_
     conv=>arg 3; whnf
     exact Zd (ih _)
    ·exact ZbG
   ·exact ZbG
  ·exact ZbG
 ·conv=>arg 3; whnf
  exact Zh rfl
theorem ZoL {t0:Bool} {t1:Bool} {t2:Bool} {t3:Bool} {a:Zt}:∀r,(Zij a)=some r→evW ctx 17 [(.d (D.agg (dA t0 t1 t2 t3 a)))] []=some ((ZlZ t0 t1 t2 t3 a) r):=by
 show Z6 _ (fun r rhs=>rhs=some ((ZlZ t0 t1 t2 t3 a) r)) _
 unfold Zij
 rw[Zeh ctx 17 Zz9 _ _ rfl rfl]
 conv=>arg 3; whnf
 refine ZbC (Zlj (f:=Zau) (fun _=>⟨rfl,rfl⟩) a.parts 0) ?_
 conv=>arg 3; whnf
 refine Zg (Zli Zau a.parts) ?_ ?_
 ·conv=>arg 3; whnf
  refine Zo (rfl:_=List.map Zau a.parts) ?_
  conv=>arg 3; whnf
  refine ZbC (Zlj (f:=ZI) (fun _=>⟨rfl,rfl⟩) a.edges 0) ?_
  conv=>arg 3; whnf
  refine Zg (Zli ZI a.edges) ?_ ?_
  ·conv=>arg 3; whnf
   refine Zo (rfl:_=List.map ZI a.edges) ?_
   conv=>arg 3; whnf
   refine ZbC (Zlj (f:=Zs) (fun _=>⟨rfl,rfl⟩) a.futures 0) ?_
   conv=>arg 3; whnf
   refine Zg (Zli Zs a.futures) ?_ ?_
   ·conv=>arg 3; whnf
    refine Zo (rfl:_=List.map Zs a.futures) ?_
    conv=>arg 3; whnf
    refine Zc _ (Zmw _) fun r2 hr2=>?_
    conv=>arg 3; whnf
    exact Zh rfl
   ·exact ZbG
  ·exact ZbG
 ·exact ZbG
def ZkF (r:Bool):D:=(D.bool r)
theorem ZcT {a:Int} {b:Int} {c:Int}:∀r,(Zcl a b c)=some r→evD ctx 78 [(.d (Ze a)),(.d (Ze b)),(.d (Ze c))]=some (ZkF r):=by
 show Z6 _ (fun r rhs=>rhs=some (ZkF r)) _
 unfold Zcl
 rw[ZcP ctx 78 Zz3 _ rfl rfl]
 conv=>arg 3; whnf
 refine Zg rfl ?_ ?_
 ·conv=>arg 3; whnf
  refine Zg rfl ?_ ?_
  ·conv=>arg 3; whnf
   exact Zh rfl
  ·conv=>arg 3; whnf
   exact Zh rfl
 ·conv=>arg 3; whnf
  exact Zh rfl
def ZlV (r:Int):D:=(Ze r)
theorem ZoD {a:Int}:∀r,(Zib a)=some r→evD ctx 107 [(.d (Ze a))]=some (ZlV r):=by
 show Z6 _ (fun r rhs=>rhs=some (ZlV r)) _
 unfold Zib
 rw[ZcP ctx 107 Zwg _ rfl rfl]
 conv=>arg 3; whnf
 refine Zg rfl ?_ ?_
 ·conv=>arg 3; whnf
  exact Zh rfl
 ·conv=>arg 3; whnf
  refine Zg rfl ?_ ?_
  ·conv=>arg 3; whnf
   exact Zh rfl
  ·conv=>arg 3; whnf
   exact Zh rfl
def ZgU (r:Int):D:=(Ze r)
theorem ZiS {a:Int}:∀r,(Zdp a)=some r→evD ctx 129 [(.d (D.int .u64 a))]=some (ZgU r):=by
 show Z6 _ (fun r rhs=>rhs=some (ZgU r)) _
 unfold Zdp
 rw[ZcP ctx 129 Zxa _ rfl rfl]
 conv=>arg 3; whnf
 refine ZQ rfl ?_
 conv=>arg 3; whnf
 refine ZQ rfl ?_
 conv=>arg 3; whnf
 refine ZQ rfl ?_
 conv=>arg 3; whnf
 refine ZQ rfl ?_
 conv=>arg 3; whnf
 refine ZQ rfl ?_
 conv=>arg 3; whnf
 refine ZQ rfl ?_
 conv=>arg 3; whnf
 exact Zh rfl
def Zhs (r:Int):D:=(Ze r)
theorem ZjH {a:Int}:∀r,(ZdK a)=some r→evD ctx 108 [(.d (D.int .u64 a))]=some (Zhs r):=by
 show Z6 _ (fun r rhs=>rhs=some (Zhs r)) _
 unfold ZdK
 rw[ZcP ctx 108 Zv4 _ rfl rfl]
 conv=>arg 3; whnf
 refine Zp _ ZiS rfl fun x0 hx0=>?_
 conv=>arg 3; whnf
 exact Zh rfl
theorem ZAK (n:Int):0≤IntKind.u64.wrap n∧IntKind.u64.wrap n<18446744073709551616:=by
  have:IntKind.u64.wrap n=n % 18446744073709551616:=by
    show(if (false&&decide (n % 18446744073709551616 ≥ 9223372036854775808))=true then n % 18446744073709551616-18446744073709551616 else n % 18446744073709551616)=_
    simp
  rw[this]
  omega
theorem ZBL (n:Int):∃j:Nat,j<64∧(IntKind.u64.wrap n).fdiv (2 ^ (min (Int.toNat 58) IntKind.u64.bits))=(j:Int):=by
  obtain⟨h1,h2⟩:=ZAK n
  have e:(2:Int) ^ (min (Int.toNat 58) IntKind.u64.bits)=288230376151711744:=by decide
  rw[e,Int.fdiv_eq_ediv_of_nonneg _ (by omega)]
  refine⟨((IntKind.u64.wrap n) / 288230376151711744).toNat,?_,?_⟩<;>omega
theorem ZBV:∀j:Nat,j<64→ZeA [] 1 false (.d (.rptr (ZwE.drop (j*1))))=some (.d (.int .u8 (Zri.getD j 0))):=by
  have key:((List.range 64).all fun j=>match ZeA [] 1 false (.d (.rptr (ZwE.drop (j*1)))) with | some (.d (.int .u8 z))=>z==Zri.getD j 0 | _=>false)=true:=by rfl
  intro j hj
  have:=List.all_eq_true.1 key j (by simpa using hj)
  split at this
  · rename_i z hz
    rw[hz,eq_of_beq this]
  · cases this
def Zil (r:Int):D:=Ze r
theorem ZhS (a:Int):∀r,ZeE a=some r→evD ctx 131 [.d (.int .u64 a)]=some (Zil r):=by
  intro r hr
  unfold ZeE at hr
  have hr:=Option.some.inj hr
  subst hr
  rw[ZcP ctx 131 Zxv _ rfl rfl]
  by_cases h:(a==0)=true
  · conv=>lhs; whnf
    rw[h,Zyp]
    rfl
  · replace h:(a==0)=false:=by simpa using h
    obtain⟨j,hj,e⟩:=ZBL (IntKind.u64.wrap ((BitVec.ofInt IntKind.u64.bits a &&& BitVec.ofInt IntKind.u64.bits (IntKind.u64.wrap (0-a))).toNat:Int)*285870213051353865)
    conv=>lhs; whnf
    rw[h,ZyL]
    conv=>lhs; whnf
    refine(ZBM (by rfl)).trans ?_
    conv=>lhs; whnf
    rw[e]
    refine(ZAu (by simp; omega)).trans ?_
    conv=>lhs; whnf
    erw [ZBV j hj]
    rfl
def Zgr (r:Int):D:=(Ze r)
theorem Zis {a:Int}:∀r,(ZdJ a)=some r→evD ctx 109 [(.d (D.int .u64 a))]=some (Zgr r):=by
 show Z6 _ (fun r rhs=>rhs=some (Zgr r)) _
 unfold ZdJ
 rw[ZcP ctx 109 Zwp _ rfl rfl]
 conv=>arg 3; whnf
 refine Zp _ (ZhS _) rfl fun x0 hx0=>?_
 conv=>arg 3; whnf
 exact Zh rfl
def ZnJ (r:(Int×Bool)):D:=(D.tup [(Ze r.1),(D.bool r.2)])
theorem ZqW {a:Int}:∀r,(ZjQ a)=some r→evD ctx 64 [(.d (Ze a))]=some (ZnJ r):=by
 show Z6 _ (fun r rhs=>rhs=some (ZnJ r)) _
 unfold ZjQ
 rw[ZcP ctx 64 ZzA _ rfl rfl]
 conv=>arg 3; whnf
 refine Zp _ ZoD rfl fun x0 hx0=>?_
 conv=>arg 3; whnf
 refine Zg rfl ?_ ?_
 ·conv=>arg 3; whnf
  exact Zh rfl
 ·conv=>arg 3; whnf
  refine Zp _ ZjH rfl fun x1 hx1=>?_
  conv=>arg 3; whnf
  refine Zg rfl ?_ ?_
  ·conv=>arg 3; whnf
   exact Zh rfl
  ·conv=>arg 3; whnf
   refine Zp _ Zis rfl fun x2 hx2=>?_
   conv=>arg 3; whnf
   exact Zh rfl
def ZlM (r:Bool):D:=(D.bool r)
theorem ZoF {a:Zal}:∀r,(Zf2 a)=some r→evD ctx 80 [(.d (D.agg [(Ze a.op),(Ze a.arg),(Ze a.work)]))]=some (ZlM r):=by
 show Z6 _ (fun r rhs=>rhs=some (ZlM r)) _
 unfold Zf2
 rw[ZcP ctx 80 Zz5 _ rfl rfl]
 conv=>arg 3; whnf
 refine Zp _ ZcT rfl fun x0 hx0=>?_
 conv=>arg 3; whnf
 refine Zg rfl ?_ ?_
 ·conv=>arg 3; whnf
  refine Zp _ ZcT rfl fun x1 hx1=>?_
  conv=>arg 3; whnf
  refine Zg rfl ?_ ?_
  ·conv=>arg 3; whnf
   refine Zp _ ZcT rfl fun x2 hx2=>?_
   conv=>arg 3; whnf
   refine Zg rfl ?_ ?_
   ·conv=>arg 3; whnf
    exact Zh rfl
   ·conv=>arg 3; whnf
    exact Zh rfl
  ·conv=>arg 3; whnf
   exact Zh rfl
 ·conv=>arg 3; whnf
  exact Zh rfl
def Zdu (r:Int):D:=(Ze r)
def Zc6 (t0:Bool) (a:(List Zal)):(Int⊕Unit)→Ex×List V×Zn
  | (.inl r)=>(.ret,[(.d (Ze r))],[])
  | (.inr r)=>(.exit 0,[.bad],[])
theorem Zfu {t0:Bool} {a:(List Zal)}:∀(s0:Int) (r:(Int⊕Unit)),lp (ZbA a (fun z0=>Zf2 z0)) s0=some r→lpW ctx 0 [0,1,7,8] [4] Zup [(.d (D.list t0 (List.map Zau a))),(.d (D.fn 80 [])),(.d (Ze (a.length:Int))),(.d (Ze s0))] []=some ((Zc6 t0 a) r):=by
 refine Zbc (Zc6 t0 a) ?_
 intro s0 rcl ih
 show Z6 _ _ (lpW _ _ _ _ _ _ _)
 unfold ZbA
 rw[Zbd]
 conv=>arg 3; whnf
 refine Zg rfl ?_ ?_
 ·conv=>arg 3; whnf
  refine Zj rfl rfl fun x1 hx1=>?_
  conv=>arg 3; whnf
  refine Zp _ ZoF rfl fun x2 hx2=>?_
  conv=>arg 3; whnf
  refine Zg rfl ?_ ?_
  ·conv=>arg 3; whnf
   exact Zh rfl
  ·conv=>arg 3; whnf
   exact Zd (ih _)
 ·conv=>arg 3; whnf
  exact Zh rfl
theorem ZfP {t0:Bool} {a:(List Zal)}:∀r,(ZcS a (fun z0=>Zf2 z0))=some r→evD ctx 118 [(.d (D.list t0 (List.map Zau a))),(.d (D.fn 80 []))]=some (Zdu r):=by
 show Z6 _ (fun r rhs=>rhs=some (Zdu r)) _
 unfold ZcS
 rw[ZcP ctx 118 ZwT _ rfl rfl]
 conv=>arg 3; whnf
 refine Zo (Zam _ _) ?_
 conv=>arg 3; whnf
 refine Zc _ (Zfu _) fun r3 hr3=>?_
 clear hr3
 rcases r3 with r3 | r3
 ·conv=>arg 3; whnf
  exact Zh rfl
 ·conv=>arg 3; whnf
  exact Zh rfl
def Zdb (r:Bool):D:=(D.bool r)
theorem Zfv {t0:Bool} {a:(List Zal)}:∀r,(ZbB a (fun z0=>Zf2 z0))=some r→evD ctx 79 [(.d (D.list t0 (List.map Zau a))),(.d (D.fn 80 []))]=some (Zdb r):=by
 show Z6 _ (fun r rhs=>rhs=some (Zdb r)) _
 unfold ZbB
 rw[ZcP ctx 79 Zzq _ rfl rfl]
 conv=>arg 3; whnf
 refine Zp _ ZfP rfl fun x0 hx0=>?_
 conv=>arg 3; whnf
 refine Zg rfl ?_ ?_
 ·conv=>arg 3; whnf
  exact Zh rfl
 ·conv=>arg 3; whnf
  exact Zh rfl
def Zm5 (r:Bool):D:=(D.bool r)
theorem ZlR {t0:Bool} {t1:Bool} {t2:Bool} {t3:Bool} {a:Zt} {b:Int} {c:Int}:∀r,(ZhZ a b c)=some r→evD ctx 81 [(.d (D.agg (dA t0 t1 t2 t3 a))),(.d (Ze b)),(.d (Ze c))]=some (Zm5 r):=by
 show Z6 _ (fun r rhs=>rhs=some (Zm5 r)) _
 unfold ZhZ
 rw[ZcP ctx 81 Zzo _ rfl rfl]
 conv=>arg 3; whnf
 refine Zg rfl ?_ ?_
 ·conv=>arg 3; whnf
  refine Zo (Zam _ _) ?_
  conv=>arg 3; whnf
  refine Zp _ ZcT rfl fun x0 hx0=>?_
  conv=>arg 3; whnf
  refine Zg rfl ?_ ?_
  ·conv=>arg 3; whnf
   refine Zo (Zam _ _) ?_
   conv=>arg 3; whnf
   refine Zp _ ZcT rfl fun x1 hx1=>?_
   conv=>arg 3; whnf
   refine Zg rfl ?_ ?_
   ·conv=>arg 3; whnf
    exact Zh rfl
   ·conv=>arg 3; whnf
    exact Zh rfl
  ·conv=>arg 3; whnf
   exact Zh rfl
 ·conv=>arg 3; whnf
  exact Zh rfl
def Zgc (r:Int):D:=(Ze r)
def ZfI (t0:Bool) (a:(List Zr)) (b:Zr):(Int⊕Unit)→Ex×List V×Zn
  | (.inl r)=>(.ret,[(.d (Ze r))],[])
  | (.inr r)=>(.exit 0,[.bad],[])
theorem ZhC {t0:Bool} {a:(List Zr)} {b:Zr}:∀(s0:Int) (r:(Int⊕Unit)),lp (Zb9 a b) s0=some r→lpW ctx 0 [0,3,7,8] [4] ZtZ [(.d (D.list t0 (List.map ZI a))),(.ptr 0 0),(.d (Ze (a.length:Int))),(.d (Ze s0))] [(.cells [(.d (Ze b.src)),(.d (Ze b.dst))])]=some ((ZfI t0 a b) r):=by
 refine Zbc (ZfI t0 a b) ?_
 intro s0 rcl ih
 show Z6 _ _ (lpW _ _ _ _ _ _ _)
 unfold Zb9
 rw[Zbd]
 conv=>arg 3; whnf
 refine Zg rfl ?_ ?_
 ·conv=>arg 3; whnf
  refine Zj rfl rfl fun x1 hx1=>?_
  conv=>arg 3; whnf
  refine Zg rfl ?_ ?_
  ·conv=>arg 3; whnf
   exact Zh rfl
  ·conv=>arg 3; whnf
   exact Zd (ih _)
 ·conv=>arg 3; whnf
  exact Zh rfl
theorem Zin {t0:Bool} {a:(List Zr)} {b:Zr}:∀r,(Zdx a b)=some r→evD ctx 102 [(.d (D.list t0 (List.map ZI a))),(.d (D.agg [(Ze b.src),(Ze b.dst)]))]=some (Zgc r):=by
 show Z6 _ (fun r rhs=>rhs=some (Zgc r)) _
 unfold Zdx
 rw[ZcP ctx 102 Zwf _ rfl rfl]
 conv=>arg 3; whnf
 refine Zo (Zam _ _) ?_
 conv=>arg 3; whnf
 refine Zc _ (ZhC _) fun r2 hr2=>?_
 clear hr2
 rcases r2 with r2 | r2
 ·conv=>arg 3; whnf
  exact Zh rfl
 ·conv=>arg 3; whnf
  exact Zh rfl
def ZfK (r:Bool):D:=(D.bool r)
theorem Zfs {t0:Bool} {a:(List Zr)} {b:Zr}:∀r,(Zbx a b)=some r→evD ctx 56 [(.d (D.list t0 (List.map ZI a))),(.d (D.agg [(Ze b.src),(Ze b.dst)]))]=some (ZfK r):=by
 show Z6 _ (fun r rhs=>rhs=some (ZfK r)) _
 unfold Zbx
 rw[ZcP ctx 56 ZzH _ rfl rfl]
 conv=>arg 3; whnf
 refine Zp _ Zin rfl fun x0 hx0=>?_
 conv=>arg 3; whnf
 refine Zg rfl ?_ ?_
 ·conv=>arg 3; whnf
  exact Zh rfl
 ·conv=>arg 3; whnf
  exact Zh rfl
def Zj4 (r:Bool):D:=(D.bool r)
theorem ZmR {a:Zk} {b0:Int} {b1:Int} {b2:Int}:∀r,(Zd9 a b1 b2)=some r→evD ctx 82 [(.d (D.agg [(Ze a.maker),(Ze a.user),(Ze a.pos)])),(.d (D.rptr [(Ze b0),(Ze b1),(Ze b2)]))]=some (Zj4 r):=by
 show Z6 _ (fun r rhs=>rhs=some (Zj4 r)) _
 unfold Zd9
 rw[ZcP ctx 82 ZzX _ rfl rfl]
 conv=>arg 3; whnf
 refine Zg rfl ?_ ?_
 ·conv=>arg 3; whnf
  refine Zg rfl ?_ ?_
  ·conv=>arg 3; whnf
   exact Zh rfl
  ·conv=>arg 3; whnf
   exact Zh rfl
 ·conv=>arg 3; whnf
  exact Zh rfl
def ZcJ (r:Int):D:=(Ze r)
def Zcq (t0:Bool) (a:(List Zk)) (b0:Int) (b1:Int) (b2:Int):(Int⊕Unit)→Ex×List V×Zn
  | (.inl r)=>(.ret,[(.d (Ze r))],[])
  | (.inr r)=>(.exit 0,[.bad],[])
theorem Zeo {t0:Bool} {a:(List Zk)} {b0:Int} {b1:Int} {b2:Int}:∀(s0:Int) (r:(Int⊕Unit)),lp (Zbk a (fun z0=>Zd9 z0 b1 b2)) s0=some r→lpW ctx 0 [0,1,7,8] [4] ZtI [(.d (D.list t0 (List.map Zs a))),(.d (D.fn 82 [(D.rptr [(Ze b0),(Ze b1),(Ze b2)])])),(.d (Ze (a.length:Int))),(.d (Ze s0))] []=some ((Zcq t0 a b0 b1 b2) r):=by
 refine Zbc (Zcq t0 a b0 b1 b2) ?_
 intro s0 rcl ih
 show Z6 _ _ (lpW _ _ _ _ _ _ _)
 unfold Zbk
 rw[Zbd]
 conv=>arg 3; whnf
 refine Zg rfl ?_ ?_
 ·conv=>arg 3; whnf
  refine Zj rfl rfl fun x1 hx1=>?_
  conv=>arg 3; whnf
  refine Zp _ ZmR rfl fun x2 hx2=>?_
  conv=>arg 3; whnf
  refine Zg rfl ?_ ?_
  ·conv=>arg 3; whnf
   exact Zh rfl
  ·conv=>arg 3; whnf
   exact Zd (ih _)
 ·conv=>arg 3; whnf
  exact Zh rfl
theorem ZeK {t0:Bool} {a:(List Zk)} {b0:Int} {b1:Int} {b2:Int}:∀r,(Zcd a (fun z0=>Zd9 z0 b1 b2))=some r→evD ctx 119 [(.d (D.list t0 (List.map Zs a))),(.d (D.fn 82 [(D.rptr [(Ze b0),(Ze b1),(Ze b2)])]))]=some (ZcJ r):=by
 show Z6 _ (fun r rhs=>rhs=some (ZcJ r)) _
 unfold Zcd
 rw[ZcP ctx 119 ZwM _ rfl rfl]
 conv=>arg 3; whnf
 refine Zo (Zam _ _) ?_
 conv=>arg 3; whnf
 refine Zc _ (Zeo _) fun r3 hr3=>?_
 clear hr3
 rcases r3 with r3 | r3
 ·conv=>arg 3; whnf
  exact Zh rfl
 ·conv=>arg 3; whnf
  exact Zh rfl
def Zco (r:Bool):D:=(D.bool r)
theorem Zel {t0:Bool} {a:(List Zk)} {b0:Int} {b1:Int} {b2:Int}:∀r,(Zbl a (fun z0=>Zd9 z0 b1 b2))=some r→evD ctx 83 [(.d (D.list t0 (List.map Zs a))),(.d (D.fn 82 [(D.rptr [(Ze b0),(Ze b1),(Ze b2)])]))]=some (Zco r):=by
 show Z6 _ (fun r rhs=>rhs=some (Zco r)) _
 unfold Zbl
 rw[ZcP ctx 83 Zzp _ rfl rfl]
 conv=>arg 3; whnf
 refine Zp _ ZeK rfl fun x0 hx0=>?_
 conv=>arg 3; whnf
 refine Zg rfl ?_ ?_
 ·conv=>arg 3; whnf
  exact Zh rfl
 ·conv=>arg 3; whnf
  exact Zh rfl
def ZmP (r:Bool):D:=(D.bool r)
def ZkC (t0:Bool) (t1:Bool) (t2:Bool) (t3:Bool) (t4:Bool) (a:Zt) (b:(List Int)):(Unit⊕Unit)→Ex×List V×Zn
  | (.inl r)=>(.ret,[(.d (D.list t4 (List.map Ze b))),(.d (D.bool false))],[])
  | (.inr r)=>(.exit 0,[(.d (D.list t4 (List.map Ze b))),.bad],[])
theorem ZnA {t0:Bool} {t1:Bool} {t2:Bool} {t3:Bool} {t4:Bool} {a:Zt} {b:(List Int)}:∀(s0:Int) (r:(Unit⊕Unit)),lp (Zgi a b) s0=some r→lpW ctx 0 [1,2,7,8,9] [1,4] Zwm [(.d (D.list t4 (List.map Ze b))),(.ptr 0 0),(.d (D.list t4 (List.map Ze b))),(.d (Ze (b.length:Int))),(.d (Ze s0))] [(.cells (dV t0 t1 t2 t3 a))]=some ((ZkC t0 t1 t2 t3 t4 a b) r):=by
 refine Zbc (ZkC t0 t1 t2 t3 t4 a b) ?_
 intro s0 rcl ih
 show Z6 _ _ (lpW _ _ _ _ _ _ _)
 unfold Zgi
 rw[Zbd]
 conv=>arg 3; whnf
 refine Zg rfl ?_ ?_
 ·conv=>arg 3; whnf
  refine Zj rfl rfl fun x1 hx1=>?_
  conv=>arg 3; whnf
  refine Zo (Zam _ _) ?_
  conv=>arg 3; whnf
  refine Zp _ ZcT rfl fun x2 hx2=>?_
  conv=>arg 3; whnf
  refine Zg rfl ?_ ?_
  ·conv=>arg 3; whnf
   refine Zg rfl ?_ ?_
   ·conv=>arg 3; whnf
    refine Zj rfl rfl fun x3 hx3=>?_
    conv=>arg 3; whnf
    refine Zg rfl ?_ ?_
    ·conv=>arg 3; whnf
     exact Zh rfl
    ·conv=>arg 3; whnf
     exact Zd (ih _)
   ·conv=>arg 3; whnf
    exact Zd (ih _)
  ·conv=>arg 3; whnf
   exact Zh rfl
 ·conv=>arg 3; whnf
  exact Zh rfl
theorem ZlY {t0:Bool} {t1:Bool} {t2:Bool} {t3:Bool} {t4:Bool} {a:Zt} {b:(List Int)}:∀r,(Zh0 a b)=some r→evD ctx 85 [(.d (D.agg (dA t0 t1 t2 t3 a))),(.d (D.list t4 (List.map Ze b)))]=some (ZmP r):=by
 show Z6 _ (fun r rhs=>rhs=some (ZmP r)) _
 unfold Zh0
 rw[ZcP ctx 85 Zzg _ rfl rfl]
 conv=>arg 3; whnf
 refine Zo (Zam _ _) ?_
 conv=>arg 3; whnf
 refine Zc _ (ZnA _) fun r4 hr4=>?_
 clear hr4
 rcases r4 with r4 | r4
 ·conv=>arg 3; whnf
  exact Zh rfl
 ·conv=>arg 3; whnf
  refine Zo (Zam _ _) ?_
  conv=>arg 3; whnf
  refine Zg rfl ?_ ?_
  ·conv=>arg 3; whnf
   exact Zh rfl
  ·conv=>arg 3; whnf
   exact Zh rfl
def ZgI (r:Int):D:=(Ze r)
def Zf3 (t0:Bool) (a:(List Int)) (b:Int):(Int⊕Unit)→Ex×List V×Zn
  | (.inl r)=>(.ret,[(.d (Ze r))],[])
  | (.inr r)=>(.exit 0,[.bad],[])
theorem ZhW {t0:Bool} {a:(List Int)} {b:Int}:∀(s0:Int) (r:(Int⊕Unit)),lp (Zcr a b) s0=some r→lpW ctx 0 [0,1,7,8] [4] Zt3 [(.d (D.list t0 (List.map Ze a))),(.d (Ze b)),(.d (Ze (a.length:Int))),(.d (Ze s0))] []=some ((Zf3 t0 a b) r):=by
 refine Zbc (Zf3 t0 a b) ?_
 intro s0 rcl ih
 show Z6 _ _ (lpW _ _ _ _ _ _ _)
 unfold Zcr
 rw[Zbd]
 conv=>arg 3; whnf
 refine Zg rfl ?_ ?_
 ·conv=>arg 3; whnf
  refine Zj rfl rfl fun x1 hx1=>?_
  conv=>arg 3; whnf
  refine Zg rfl ?_ ?_
  ·conv=>arg 3; whnf
   exact Zh rfl
  ·conv=>arg 3; whnf
   exact Zd (ih _)
 ·conv=>arg 3; whnf
  exact Zh rfl
theorem ZiO {t0:Bool} {a:(List Int)} {b:Int}:∀r,(ZdX a b)=some r→evD ctx 105 [(.d (D.list t0 (List.map Ze a))),(.d (Ze b))]=some (ZgI r):=by
 show Z6 _ (fun r rhs=>rhs=some (ZgI r)) _
 unfold ZdX
 rw[ZcP ctx 105 Zw6 _ rfl rfl]
 conv=>arg 3; whnf
 refine Zo (Zam _ _) ?_
 conv=>arg 3; whnf
 refine Zc _ (ZhW _) fun r2 hr2=>?_
 clear hr2
 rcases r2 with r2 | r2
 ·conv=>arg 3; whnf
  exact Zh rfl
 ·conv=>arg 3; whnf
  exact Zh rfl
def Zf0 (r:Bool):D:=(D.bool r)
theorem ZfR {t0:Bool} {a:(List Int)} {b:Int}:∀r,(ZbS a b)=some r→evD ctx 60 [(.d (D.list t0 (List.map Ze a))),(.d (Ze b))]=some (Zf0 r):=by
 show Z6 _ (fun r rhs=>rhs=some (Zf0 r)) _
 unfold ZbS
 rw[ZcP ctx 60 Zzd _ rfl rfl]
 conv=>arg 3; whnf
 refine Zp _ ZiO rfl fun x0 hx0=>?_
 conv=>arg 3; whnf
 refine Zg rfl ?_ ?_
 ·conv=>arg 3; whnf
  exact Zh rfl
 ·conv=>arg 3; whnf
  exact Zh rfl
def Zkc (r:Bool):D:=(D.bool r)
theorem ZmO {t0:Bool} {t1:Bool} {a:Int} {b0:(List Int)} {b1:(List Int)}:∀r,(Zeb a b1)=some r→evD ctx 84 [(.d (Ze a)),(.d (D.rptr [(D.list t0 (List.map Ze b0)),(D.list t1 (List.map Ze b1))]))]=some (Zkc r):=by
 show Z6 _ (fun r rhs=>rhs=some (Zkc r)) _
 unfold Zeb
 rw[ZcP ctx 84 ZzN _ rfl rfl]
 conv=>arg 3; whnf
 refine Zp _ ZfR rfl fun x0 hx0=>?_
 conv=>arg 3; whnf
 refine Zg rfl ?_ ?_
 ·conv=>arg 3; whnf
  exact Zh rfl
 ·conv=>arg 3; whnf
  exact Zh rfl
def Zdo (r:Int):D:=(Ze r)
def Zc1 (t0:Bool) (t1:Bool) (t2:Bool) (a:(List Int)) (b0:(List Int)) (b1:(List Int)):(Int⊕Unit)→Ex×List V×Zn
  | (.inl r)=>(.ret,[(.d (Ze r))],[])
  | (.inr r)=>(.exit 0,[.bad],[])
theorem Zff {t0:Bool} {t1:Bool} {t2:Bool} {a:(List Int)} {b0:(List Int)} {b1:(List Int)}:∀(s0:Int) (r:(Int⊕Unit)),lp (Za4 a (fun z0=>Zeb z0 b1)) s0=some r→lpW ctx 0 [0,1,7,8] [4] Zrl [(.d (D.list t0 (List.map Ze a))),(.d (D.fn 84 [(D.rptr [(D.list t1 (List.map Ze b0)),(D.list t2 (List.map Ze b1))])])),(.d (Ze (a.length:Int))),(.d (Ze s0))] []=some ((Zc1 t0 t1 t2 a b0 b1) r):=by
 refine Zbc (Zc1 t0 t1 t2 a b0 b1) ?_
 intro s0 rcl ih
 show Z6 _ _ (lpW _ _ _ _ _ _ _)
 unfold Za4
 rw[Zbd]
 conv=>arg 3; whnf
 refine Zg rfl ?_ ?_
 ·conv=>arg 3; whnf
  refine Zj rfl rfl fun x1 hx1=>?_
  conv=>arg 3; whnf
  refine Zp _ ZmO rfl fun x2 hx2=>?_
  conv=>arg 3; whnf
  refine Zg rfl ?_ ?_
  ·conv=>arg 3; whnf
   exact Zh rfl
  ·conv=>arg 3; whnf
   exact Zd (ih _)
 ·conv=>arg 3; whnf
  exact Zh rfl
theorem ZfL {t0:Bool} {t1:Bool} {t2:Bool} {a:(List Int)} {b0:(List Int)} {b1:(List Int)}:∀r,(ZbD a (fun z0=>Zeb z0 b1))=some r→evD ctx 101 [(.d (D.list t0 (List.map Ze a))),(.d (D.fn 84 [(D.rptr [(D.list t1 (List.map Ze b0)),(D.list t2 (List.map Ze b1))])]))]=some (Zdo r):=by
 show Z6 _ (fun r rhs=>rhs=some (Zdo r)) _
 unfold ZbD
 rw[ZcP ctx 101 ZtL _ rfl rfl]
 conv=>arg 3; whnf
 refine Zo (Zam _ _) ?_
 conv=>arg 3; whnf
 refine Zc _ (Zff _) fun r3 hr3=>?_
 clear hr3
 rcases r3 with r3 | r3
 ·conv=>arg 3; whnf
  exact Zh rfl
 ·conv=>arg 3; whnf
  exact Zh rfl
def Zc2 (r:Bool):D:=(D.bool r)
theorem Zfh {t0:Bool} {t1:Bool} {t2:Bool} {a:(List Int)} {b0:(List Int)} {b1:(List Int)}:∀r,(ZaH a (fun z0=>Zeb z0 b1))=some r→evD ctx 53 [(.d (D.list t0 (List.map Ze a))),(.d (D.fn 84 [(D.rptr [(D.list t1 (List.map Ze b0)),(D.list t2 (List.map Ze b1))])]))]=some (Zc2 r):=by
 show Z6 _ (fun r rhs=>rhs=some (Zc2 r)) _
 unfold ZaH
 rw[ZcP ctx 53 ZyN _ rfl rfl]
 conv=>arg 3; whnf
 refine Zp _ ZfL rfl fun x0 hx0=>?_
 conv=>arg 3; whnf
 refine Zg rfl ?_ ?_
 ·conv=>arg 3; whnf
  exact Zh rfl
 ·conv=>arg 3; whnf
  exact Zh rfl
def Zlg (r:Int):D:=(Ze r)
def Zjn (t0:Bool) (t1:Bool) (t2:Bool) (t3:Bool) (a:Zt):(Unit⊕Unit)→Ex×List V×Zn
  | (.inl r)=>(.ret,[(.ptr 0 0),(.d (Ze 53))],[(.cells (dV t0 t1 t2 t3 a))])
  | (.inr r)=>(.exit 0,[(.ptr 0 0),.bad],[(.cells (dV t0 t1 t2 t3 a))])
theorem Zl5 {t0:Bool} {t1:Bool} {t2:Bool} {t3:Bool} {a:Zt}:∀(s4:Int) (r:(Unit⊕Unit)),lp (Zen a) s4=some r→lpW ctx 0 [1,61,62,63] [1,2] Zwu [(.ptr 0 0),(.d (D.list t1 (List.map ZI a.edges))),(.d (Ze (a.edges.length:Int))),(.d (Ze s4))] [(.cells (dV t0 t1 t2 t3 a))]=some ((Zjn t0 t1 t2 t3 a) r):=by
 refine Zbc (Zjn t0 t1 t2 t3 a) ?_
 intro s4 rcl ih
 show Z6 _ _ (lpW _ _ _ _ _ _ _)
 unfold Zen
 rw[Zbd]
 conv=>arg 3; whnf
 refine Zg rfl ?_ ?_
 ·conv=>arg 3; whnf
  refine Zj rfl rfl fun x5 hx5=>?_
  conv=>arg 3; whnf
  refine Zp _ ZlR rfl fun x6 hx6=>?_
  conv=>arg 3; whnf
  refine Zg rfl ?_ ?_
  ·conv=>arg 3; whnf
   refine Zg rfl ?_ ?_
   ·conv=>arg 3; whnf
    refine Zg (Zwo ZI a.edges s4.toNat) ?_ ?_
    ·conv=>arg 3; whnf
     refine ZbC rfl ?_
     conv=>arg 3; whnf
     refine Zo (Zre ZI a.edges s4.toNat) ?_
     conv=>arg 3; whnf
     refine Zp _ Zfs rfl fun x7 hx7=>?_
     conv=>arg 3; whnf
     refine Zg rfl ?_ ?_
     ·conv=>arg 3; whnf
      exact Zh rfl
     ·conv=>arg 3; whnf
      exact Zd (ih _)
    ·exact ZbG
   ·exact ZbG
  ·conv=>arg 3; whnf
   exact Zh rfl
 ·conv=>arg 3; whnf
  exact Zh rfl
def Zjq (t0:Bool) (t1:Bool) (t2:Bool) (t3:Bool) (a:Zt):(Unit⊕Unit)→Ex×List V×Zn
  | (.inl r)=>(.ret,[(.ptr 0 0),(.d (Ze 54))],[(.cells (dV t0 t1 t2 t3 a))])
  | (.inr r)=>(.exit 2,[(.ptr 0 0),.bad],[(.cells (dV t0 t1 t2 t3 a))])
theorem Zmn {t0:Bool} {t1:Bool} {t2:Bool} {t3:Bool} {a:Zt}:∀(s9:Int) (r:(Unit⊕Unit)),lp (Zer a) s9=some r→lpW ctx 0 [1,85,86,87] [1,2] Zvv [(.ptr 0 0),(.d (D.list t2 (List.map Zs a.futures))),(.d (Ze (a.futures.length:Int))),(.d (Ze s9))] [(.cells (dV t0 t1 t2 t3 a))]=some ((Zjq t0 t1 t2 t3 a) r):=by
 refine Zbc (Zjq t0 t1 t2 t3 a) ?_
 intro s9 rcl ih
 show Z6 _ _ (lpW _ _ _ _ _ _ _)
 unfold Zer
 rw[Zbd]
 conv=>arg 3; whnf
 refine Zg rfl ?_ ?_
 ·conv=>arg 3; whnf
  refine Zj rfl rfl fun x10 hx10=>?_
  conv=>arg 3; whnf
  refine Zp _ ZlR rfl fun x11 hx11=>?_
  conv=>arg 3; whnf
  refine Zg rfl ?_ ?_
  ·conv=>arg 3; whnf
   refine Zj rfl rfl fun x12 hx12=>?_
   conv=>arg 3; whnf
   refine Zp _ ZcT rfl fun x13 hx13=>?_
   conv=>arg 3; whnf
   refine Zg rfl ?_ ?_
   ·conv=>arg 3; whnf
    refine Zg rfl ?_ ?_
    ·conv=>arg 3; whnf
     refine Zg (Zwo Zs a.futures s9.toNat) ?_ ?_
     ·conv=>arg 3; whnf
      refine ZbC rfl ?_
      conv=>arg 3; whnf
      refine Zo (Zre Zs a.futures s9.toNat) ?_
      conv=>arg 3; whnf
      refine Zp _ Zel rfl fun x14 hx14=>?_
      conv=>arg 3; whnf
      refine Zg rfl ?_ ?_
      ·conv=>arg 3; whnf
       exact Zh rfl
      ·conv=>arg 3; whnf
       exact Zd (ih _)
     ·exact ZbG
    ·exact ZbG
   ·conv=>arg 3; whnf
    exact Zh rfl
  ·conv=>arg 3; whnf
   exact Zh rfl
 ·conv=>arg 3; whnf
  exact Zh rfl
def Zjo (t0:Bool) (t1:Bool) (t2:Bool) (t3:Bool) (a:Zt):(Unit⊕Unit)→Ex×List V×Zn
  | (.inl r)=>(.ret,[(.d (Ze 55))],[])
  | (.inr r)=>(.exit 4,[.bad],[])
theorem Zmk {t0:Bool} {t1:Bool} {t2:Bool} {t3:Bool} {a:Zt}:∀(s16:Int) (r:(Unit⊕Unit)),lp (Zep a) s16=some r→lpW ctx 0 [1,124,125,126] [2] Zw7 [(.ptr 0 0),(.d (D.list t3 (List.map ZA a.barriers))),(.d (Ze (a.barriers.length:Int))),(.d (Ze s16))] [(.cells (dV t0 t1 t2 t3 a))]=some ((Zjo t0 t1 t2 t3 a) r):=by
 refine Zbc (Zjo t0 t1 t2 t3 a) ?_
 intro s16 rcl ih
 show Z6 _ _ (lpW _ _ _ _ _ _ _)
 unfold Zep
 rw[Zbd]
 conv=>arg 3; whnf
 refine Zg rfl ?_ ?_
 ·conv=>arg 3; whnf
  refine Zj rfl rfl fun x17 hx17=>?_
  conv=>arg 3; whnf
  refine Zp _ ZlY rfl fun x18 hx18=>?_
  conv=>arg 3; whnf
  refine Zg rfl ?_ ?_
  ·conv=>arg 3; whnf
   refine Zp _ ZlY rfl fun x19 hx19=>?_
   conv=>arg 3; whnf
   refine Zg rfl ?_ ?_
   ·conv=>arg 3; whnf
    refine Zp _ Zfh rfl fun x20 hx20=>?_
    conv=>arg 3; whnf
    refine Zg rfl ?_ ?_
    ·conv=>arg 3; whnf
     exact Zh rfl
    ·conv=>arg 3; whnf
     exact Zd (ih _)
   ·conv=>arg 3; whnf
    exact Zh rfl
  ·conv=>arg 3; whnf
   exact Zh rfl
 ·conv=>arg 3; whnf
  exact Zh rfl
theorem ZkG {t0:Bool} {t1:Bool} {t2:Bool} {t3:Bool} {a:Zt}:∀r,(ZgR a)=some r→evD ctx 41 [(.d (D.agg (dA t0 t1 t2 t3 a)))]=some (Zlg r):=by
 show Z6 _ (fun r rhs=>rhs=some (Zlg r)) _
 unfold ZgR
 rw[ZcP ctx 41 ZzG _ rfl rfl]
 conv=>arg 3; whnf
 refine Zo (Zam _ _) ?_
 conv=>arg 3; whnf
 refine Zp _ ZcT rfl fun x0 hx0=>?_
 conv=>arg 3; whnf
 refine Zg rfl ?_ ?_
 ·conv=>arg 3; whnf
  refine Zo (Zam _ _) ?_
  conv=>arg 3; whnf
  refine Zg rfl ?_ ?_
  ·conv=>arg 3; whnf
   exact Zh rfl
  ·conv=>arg 3; whnf
   refine Zo (Zam _ _) ?_
   conv=>arg 3; whnf
   refine Zg rfl ?_ ?_
   ·conv=>arg 3; whnf
    exact Zh rfl
   ·conv=>arg 3; whnf
    refine Zo (Zam _ _) ?_
    conv=>arg 3; whnf
    refine Zg rfl ?_ ?_
    ·conv=>arg 3; whnf
     exact Zh rfl
    ·conv=>arg 3; whnf
     refine Zp _ ZqW rfl fun x1 hx1=>?_
     conv=>arg 3; whnf
     refine Zg rfl ?_ ?_
     ·conv=>arg 3; whnf
      refine Zg rfl ?_ ?_
      ·conv=>arg 3; whnf
       exact Zh rfl
      ·conv=>arg 3; whnf
       refine Zp _ ZcT rfl fun x2 hx2=>?_
       conv=>arg 3; whnf
       refine Zg rfl ?_ ?_
       ·conv=>arg 3; whnf
        refine Zp _ Zfv rfl fun x3 hx3=>?_
        conv=>arg 3; whnf
        refine Zg rfl ?_ ?_
        ·conv=>arg 3; whnf
         exact Zh rfl
        ·conv=>arg 3; whnf
         refine Zo (Zam _ _) ?_
         conv=>arg 3; whnf
         refine Zc _ (Zl5 _) fun r8 hr8=>?_
         clear hr8
         rcases r8 with r8 | r8
         ·conv=>arg 3; whnf
          exact Zh rfl
         ·conv=>arg 3; whnf
          refine Zo (Zam _ _) ?_
          conv=>arg 3; whnf
          refine Zc _ (Zmn _) fun r15 hr15=>?_
          clear hr15
          rcases r15 with r15 | r15
          ·conv=>arg 3; whnf
           exact Zh rfl
          ·conv=>arg 3; whnf
           refine Zo (Zam _ _) ?_
           conv=>arg 3; whnf
           refine Zc _ (Zmk _) fun r21 hr21=>?_
           clear hr21
           rcases r21 with r21 | r21
           ·conv=>arg 3; whnf
            exact Zh rfl
           ·conv=>arg 3; whnf
            exact Zh rfl
       ·conv=>arg 3; whnf
        exact Zh rfl
     ·conv=>arg 3; whnf
      exact Zh rfl
 ·conv=>arg 3; whnf
  exact Zh rfl
def Zi1 (r:Int):D:=(Ze r)
theorem ZN {t0:Bool} {t1:Bool} {t2:Bool} {t3:Bool} {a:Int} {b:Int} {c0:Int} {c1:Int} {c2:(List Zal)} {c3:(List Zr)} {c4:(List Zk)} {c5:(List Zu)}:∀r,(Zw a b c4)=some r→evD ctx 121 [(.d (Ze a)),(.d (Ze b)),(.d (D.rptr [(Ze c0),(Ze c1),(D.list t0 (List.map Zau c2)),(D.list t1 (List.map ZI c3)),(D.list t2 (List.map Zs c4)),(D.list t3 (List.map ZA c5))]))]=some (Zi1 r):=by
 show Z6 _ (fun r rhs=>rhs=some (Zi1 r)) _
 unfold Zw
 rw[ZcP ctx 121 ZvK _ rfl rfl]
 conv=>arg 3; whnf
 refine Zj rfl rfl fun x0 hx0=>?_
 conv=>arg 3; whnf
 refine Zj rfl rfl fun x1 hx1=>?_
 conv=>arg 3; whnf
 exact Zh rfl
def ZiB (r:Int):D:=(Ze r)
theorem ZkT {a:Int}:∀r,(ZhL a)=some r→evD ctx 151 [(.d (D.int .u64 a))]=some (ZiB r):=by
 show Z6 _ (fun r rhs=>rhs=some (ZiB r)) _
 unfold ZhL
 rw[ZcP ctx 151 ZwO _ rfl rfl]
 conv=>arg 3; whnf
 refine Zg rfl ?_ ?_
 ·conv=>arg 3; whnf
  refine ZQ rfl ?_
  conv=>arg 3; whnf
  refine Zg rfl ?_ ?_
  ·conv=>arg 3; whnf
   refine ZQ rfl ?_
   conv=>arg 3; whnf
   refine Zg rfl ?_ ?_
   ·conv=>arg 3; whnf
    refine ZQ rfl ?_
    conv=>arg 3; whnf
    refine Zg rfl ?_ ?_
    ·conv=>arg 3; whnf
     refine Zia rfl fun x0 hx0=>?_
     conv=>arg 3; whnf
     exact Zh rfl
    ·exact ZbG
   ·conv=>arg 3; whnf
    refine Zg rfl ?_ ?_
    ·conv=>arg 3; whnf
     refine Zia rfl fun x1 hx1=>?_
     conv=>arg 3; whnf
     exact Zh rfl
    ·exact ZbG
  ·conv=>arg 3; whnf
   refine Zg rfl ?_ ?_
   ·conv=>arg 3; whnf
    refine ZQ rfl ?_
    conv=>arg 3; whnf
    refine Zg rfl ?_ ?_
    ·conv=>arg 3; whnf
     refine Zia rfl fun x2 hx2=>?_
     conv=>arg 3; whnf
     exact Zh rfl
    ·exact ZbG
   ·conv=>arg 3; whnf
    refine Zg rfl ?_ ?_
    ·conv=>arg 3; whnf
     refine Zia rfl fun x3 hx3=>?_
     conv=>arg 3; whnf
     exact Zh rfl
    ·exact ZbG
 ·conv=>arg 3; whnf
  refine Zg rfl ?_ ?_
  ·conv=>arg 3; whnf
   refine ZQ rfl ?_
   conv=>arg 3; whnf
   refine Zg rfl ?_ ?_
   ·conv=>arg 3; whnf
    refine ZQ rfl ?_
    conv=>arg 3; whnf
    refine Zg rfl ?_ ?_
    ·conv=>arg 3; whnf
     refine Zia rfl fun x4 hx4=>?_
     conv=>arg 3; whnf
     exact Zh rfl
    ·exact ZbG
   ·conv=>arg 3; whnf
    refine Zg rfl ?_ ?_
    ·conv=>arg 3; whnf
     refine Zia rfl fun x5 hx5=>?_
     conv=>arg 3; whnf
     exact Zh rfl
    ·exact ZbG
  ·conv=>arg 3; whnf
   refine Zg rfl ?_ ?_
   ·conv=>arg 3; whnf
    refine ZQ rfl ?_
    conv=>arg 3; whnf
    refine Zg rfl ?_ ?_
    ·conv=>arg 3; whnf
     refine Zia rfl fun x6 hx6=>?_
     conv=>arg 3; whnf
     exact Zh rfl
    ·exact ZbG
   ·conv=>arg 3; whnf
    refine Zg rfl ?_ ?_
    ·conv=>arg 3; whnf
     refine Zia rfl fun x7 hx7=>?_
     conv=>arg 3; whnf
     exact Zh rfl
    ·exact ZbG
def Zjg (r:Int):D:=(Ze r)
theorem Zhn {a:Int}:∀r,(Zet a)=some r→evD ctx 139 [(.d (D.int .u64 a))]=some (Zjg r):=by
 show Z6 _ (fun r rhs=>rhs=some (Zjg r)) _
 unfold Zet
 rw[ZcP ctx 139 Zwt _ rfl rfl]
 conv=>arg 3; whnf
 refine Zp _ ZkT rfl fun x0 hx0=>?_
 conv=>arg 3; whnf
 exact Zh rfl
def ZcB (t0:Bool) (t1:Bool) (t2:Bool) (t3:Bool) (b:Int) (c:Int) (m0_0:(List Int)) (m1_0:Int) (m1_1:Int) (m1_2:(List Zal)) (m1_3:(List Zr)) (m1_4:(List Zk)) (m1_5:(List Zu)):(List Int)→V×Zn
  | r=>((.d (D.tup [])),[(.arr 1 (List.map Ze r)),(.cells [(.d (Ze m1_0)),(.d (Ze m1_1)),(.d (D.list t0 (List.map Zau m1_2))),(.d (D.list t1 (List.map ZI m1_3))),(.d (D.list t2 (List.map Zs m1_4))),(.d (D.list t3 (List.map ZA m1_5)))])])
def Zch (t0:Bool) (t1:Bool) (t2:Bool) (t3:Bool) (b:Int) (c:Int) (m1_0:Int) (m1_1:Int) (m1_2:(List Zal)) (m1_3:(List Zr)) (m1_4:(List Zk)) (m1_5:(List Zu)) (s0:Int×(List Int)):(List Int)→Ex×List V×Zn
  | r=>(.exit 2,[(.sl 0 1),(.d (Ze b)),(.d (Ze c)),(.fn 121 [(.ptr 1 0)]),(.d (Ze s0.1))],[(.arr 1 (List.map Ze r)),(.cells [(.d (Ze m1_0)),(.d (Ze m1_1)),(.d (D.list t0 (List.map Zau m1_2))),(.d (D.list t1 (List.map ZI m1_3))),(.d (D.list t2 (List.map Zs m1_4))),(.d (D.list t3 (List.map ZA m1_5)))])])
theorem Zec {t0:Bool} {t1:Bool} {t2:Bool} {t3:Bool} {b:Int} {c:Int} {m1_0:Int} {m1_1:Int} {m1_2:(List Zal)} {m1_3:(List Zr)} {m1_4:(List Zk)} {m1_5:(List Zu)} {s0:Int×(List Int)}:∀(s1:Int×(List Int)) (r:(List Int)),lp (Z1 b (fun z0 z1=>Zw z0 z1 m1_4)) s1=some r→lpW ctx 2 [0,1,2,3,8,9] [0,1,2,3,8] ZtS [(.sl 0 1),(.d (Ze b)),(.d (Ze c)),(.fn 121 [(.ptr 1 0)]),(.d (Ze s0.1)),(.d (Ze s1.1))] [(.arr 1 (List.map Ze s1.2)),(.cells [(.d (Ze m1_0)),(.d (Ze m1_1)),(.d (D.list t0 (List.map Zau m1_2))),(.d (D.list t1 (List.map ZI m1_3))),(.d (D.list t2 (List.map Zs m1_4))),(.d (D.list t3 (List.map ZA m1_5)))])]=some ((Zch t0 t1 t2 t3 b c m1_0 m1_1 m1_2 m1_3 m1_4 m1_5 s0) r):=by
 refine Zbc (Zch t0 t1 t2 t3 b c m1_0 m1_1 m1_2 m1_3 m1_4 m1_5 s0) ?_
 intro s1 rcl ih
 show Z6 _ _ (lpW _ _ _ _ _ _ _)
 unfold Z1
 rw[Zbd]
 conv=>arg 3; whnf
 refine Zg rfl ?_ ?_
 ·conv=>arg 3; whnf
  refine Zj rfl rfl fun x2 hx2=>?_
  conv=>arg 3; whnf
  refine Zf (Zl rfl hx2) ?_
  conv=>arg 3; whnf
  refine Zj rfl rfl fun x3 hx3=>?_
  conv=>arg 3; whnf
  refine Zf (Zl rfl hx3) ?_
  conv=>arg 3; whnf
  refine Zp _ ZN rfl fun x4 hx4=>?_
  conv=>arg 3; whnf
  refine Zg rfl ?_ ?_
  ·conv=>arg 3; whnf
   refine Zf (ZaF rfl hx3) ?_
   conv=>arg 3; whnf
   refine Zf (Zl rfl hx3) ?_
   conv=>arg 3; whnf
   refine Zf (ZaF rfl hx2) ?_
   conv=>arg 3; whnf
   refine Zf (Zl rfl hx2) ?_
   conv=>arg 3; whnf
   refine Zf (ZaF rfl hx2) ?_
   conv=>arg 3; whnf
   refine Zf (Zl rfl hx2) ?_
   conv=>arg 3; whnf
   refine Zo (Z4 Ze s1.2 s1.1.toNat x3) ?_
   conv=>arg 3; whnf
   refine Zj rfl rfl fun x5 hx5=>?_
   conv=>arg 3; whnf
   refine Zf (Zl rfl hx5) ?_
   conv=>arg 3; whnf
   refine Zo (Z4 Ze (List.set s1.2 s1.1.toNat x3) (w64 (s1.1-1)).toNat x2) ?_
   conv=>arg 3; whnf
   exact Zd (ih _)
  ·conv=>arg 3; whnf
   exact Zh rfl
 ·conv=>arg 3; whnf
  exact Zh rfl
def Zcj (t0:Bool) (t1:Bool) (t2:Bool) (t3:Bool) (b:Int) (c:Int) (m1_0:Int) (m1_1:Int) (m1_2:(List Zal)) (m1_3:(List Zr)) (m1_4:(List Zk)) (m1_5:(List Zu)):(List Int)→Ex×List V×Zn
  | r=>(.exit 0,[],[(.arr 1 (List.map Ze r)),(.cells [(.d (Ze m1_0)),(.d (Ze m1_1)),(.d (D.list t0 (List.map Zau m1_2))),(.d (D.list t1 (List.map ZI m1_3))),(.d (D.list t2 (List.map Zs m1_4))),(.d (D.list t3 (List.map ZA m1_5)))])])
theorem Zed {t0:Bool} {t1:Bool} {t2:Bool} {t3:Bool} {b:Int} {c:Int} {m1_0:Int} {m1_1:Int} {m1_2:(List Zal)} {m1_3:(List Zr)} {m1_4:(List Zk)} {m1_5:(List Zu)}:∀(s0:Int×(List Int)) (r:(List Int)),lp (Zak b c (fun z0 z1=>Zw z0 z1 m1_4)) s0=some r→lpW ctx 2 [0,1,2,3,8] [] Zt8 [(.sl 0 1),(.d (Ze b)),(.d (Ze c)),(.fn 121 [(.ptr 1 0)]),(.d (Ze s0.1))] [(.arr 1 (List.map Ze s0.2)),(.cells [(.d (Ze m1_0)),(.d (Ze m1_1)),(.d (D.list t0 (List.map Zau m1_2))),(.d (D.list t1 (List.map ZI m1_3))),(.d (D.list t2 (List.map Zs m1_4))),(.d (D.list t3 (List.map ZA m1_5)))])]=some ((Zcj t0 t1 t2 t3 b c m1_0 m1_1 m1_2 m1_3 m1_4 m1_5) r):=by
 refine Zbc (Zcj t0 t1 t2 t3 b c m1_0 m1_1 m1_2 m1_3 m1_4 m1_5) ?_
 intro s0 rcl ih
 show Z6 _ _ (lpW _ _ _ _ _ _ _)
 unfold Zak
 rw[Zbd]
 conv=>arg 3; whnf
 refine Zg rfl ?_ ?_
 ·conv=>arg 3; whnf
  refine Zc _ (Zec _) fun r6 hr6=>?_
  conv=>arg 3; whnf
  exact Zd (ih _)
 ·conv=>arg 3; whnf
  exact Zh rfl
theorem ZaP {t0:Bool} {t1:Bool} {t2:Bool} {t3:Bool} {b:Int} {c:Int} {m0_0:(List Int)} {m1_0:Int} {m1_1:Int} {m1_2:(List Zal)} {m1_3:(List Zr)} {m1_4:(List Zk)} {m1_5:(List Zu)}:∀r,(Z3 b c (fun z0 z1=>Zw z0 z1 m1_4) m0_0)=some r→evW ctx 142 [(.sl 0 1),(.d (Ze b)),(.d (Ze c)),(.fn 121 [(.ptr 1 0)])] [(.arr 1 (List.map Ze m0_0)),(.cells [(.d (Ze m1_0)),(.d (Ze m1_1)),(.d (D.list t0 (List.map Zau m1_2))),(.d (D.list t1 (List.map ZI m1_3))),(.d (D.list t2 (List.map Zs m1_4))),(.d (D.list t3 (List.map ZA m1_5)))])]=some ((ZcB t0 t1 t2 t3 b c m0_0 m1_0 m1_1 m1_2 m1_3 m1_4 m1_5) r):=by
 show Z6 _ (fun r rhs=>rhs=some ((ZcB t0 t1 t2 t3 b c m0_0 m1_0 m1_1 m1_2 m1_3 m1_4 m1_5) r)) _
 unfold Z3
 rw[Zeh ctx 142 ZwQ _ _ rfl rfl]
 conv=>arg 3; whnf
 refine Zc _ (Zed _) fun r7 hr7=>?_
 conv=>arg 3; whnf
 exact Zh rfl
def Zdg (t0:Bool) (t1:Bool) (t2:Bool) (t3:Bool) (b:Int) (c:Int) (d:Int) (m0_0:(List Int)) (m1_0:Int) (m1_1:Int) (m1_2:(List Zal)) (m1_3:(List Zr)) (m1_4:(List Zk)) (m1_5:(List Zu)):(List Int)→V×Zn
  | r=>((.d (D.tup [])),[(.arr 1 (List.map Ze r)),(.cells [(.d (Ze m1_0)),(.d (Ze m1_1)),(.d (D.list t0 (List.map Zau m1_2))),(.d (D.list t1 (List.map ZI m1_3))),(.d (D.list t2 (List.map Zs m1_4))),(.d (D.list t3 (List.map ZA m1_5)))])])
def ZcR (t0:Bool) (t1:Bool) (t2:Bool) (t3:Bool) (c:Int) (d:Int) (m1_0:Int) (m1_1:Int) (m1_2:(List Zal)) (m1_3:(List Zr)) (m1_4:(List Zk)) (m1_5:(List Zu)):((List Int)⊕(List Int))→Ex×List V×Zn
  | (.inl r)=>(.exit 0,[],[(.arr 1 (List.map Ze r)),(.cells [(.d (Ze m1_0)),(.d (Ze m1_1)),(.d (D.list t0 (List.map Zau m1_2))),(.d (D.list t1 (List.map ZI m1_3))),(.d (D.list t2 (List.map Zs m1_4))),(.d (D.list t3 (List.map ZA m1_5)))])])
  | (.inr r)=>(.ret,[],[(.arr 1 (List.map Ze r)),(.cells [(.d (Ze m1_0)),(.d (Ze m1_1)),(.d (D.list t0 (List.map Zau m1_2))),(.d (D.list t1 (List.map ZI m1_3))),(.d (D.list t2 (List.map Zs m1_4))),(.d (D.list t3 (List.map ZA m1_5)))])])
theorem ZeW {t0:Bool} {t1:Bool} {t2:Bool} {t3:Bool} {c:Int} {d:Int} {m1_0:Int} {m1_1:Int} {m1_2:(List Zal)} {m1_3:(List Zr)} {m1_4:(List Zk)} {m1_5:(List Zu)}:∀(s0:Int×(List Int)) (r:((List Int)⊕(List Int))),lp (ZM c d (fun z0 z1=>Zw z0 z1 m1_4)) s0=some r→lpW ctx 2 [0,2,3,4,10] [] Ztr [(.sl 0 1),(.d (Ze c)),(.d (Ze d)),(.fn 121 [(.ptr 1 0)]),(.d (Ze s0.1))] [(.arr 1 (List.map Ze s0.2)),(.cells [(.d (Ze m1_0)),(.d (Ze m1_1)),(.d (D.list t0 (List.map Zau m1_2))),(.d (D.list t1 (List.map ZI m1_3))),(.d (D.list t2 (List.map Zs m1_4))),(.d (D.list t3 (List.map ZA m1_5)))])]=some ((ZcR t0 t1 t2 t3 c d m1_0 m1_1 m1_2 m1_3 m1_4 m1_5) r):=by
 refine Zbc (ZcR t0 t1 t2 t3 c d m1_0 m1_1 m1_2 m1_3 m1_4 m1_5) ?_
 intro s0 rcl ih
 show Z6 _ _ (lpW _ _ _ _ _ _ _)
 unfold ZM
 rw[Zbd]
 conv=>arg 3; whnf
 refine Zg rfl ?_ ?_
 ·conv=>arg 3; whnf
  exact Zh rfl
 ·conv=>arg 3; whnf
  refine Zg rfl ?_ ?_
  ·conv=>arg 3; whnf
   refine Zj rfl rfl fun x1 hx1=>?_
   conv=>arg 3; whnf
   refine Zf (Zl rfl hx1) ?_
   conv=>arg 3; whnf
   refine Zj rfl rfl fun x2 hx2=>?_
   conv=>arg 3; whnf
   refine Zf (Zl rfl hx2) ?_
   conv=>arg 3; whnf
   refine Zp _ ZN rfl fun x3 hx3=>?_
   conv=>arg 3; whnf
   refine Zg rfl ?_ ?_
   ·conv=>arg 3; whnf
    refine Zj rfl rfl fun x4 hx4=>?_
    conv=>arg 3; whnf
    refine Zf (Zl rfl hx4) ?_
    conv=>arg 3; whnf
    refine Zj rfl rfl fun x5 hx5=>?_
    conv=>arg 3; whnf
    refine Zf (Zl rfl hx5) ?_
    conv=>arg 3; whnf
    refine Zp _ ZN rfl fun x6 hx6=>?_
    conv=>arg 3; whnf
    refine Zg rfl ?_ ?_
    ·conv=>arg 3; whnf
     refine Zf (ZaF rfl hx5) ?_
     conv=>arg 3; whnf
     refine Zf (Zl rfl hx5) ?_
     conv=>arg 3; whnf
     refine Zf (ZaF rfl hx4) ?_
     conv=>arg 3; whnf
     refine Zf (Zl rfl hx4) ?_
     conv=>arg 3; whnf
     refine Zf (ZaF rfl hx4) ?_
     conv=>arg 3; whnf
     refine Zf (Zl rfl hx4) ?_
     conv=>arg 3; whnf
     refine Zo (Z4 Ze s0.2 (w64 (d+s0.1)).toNat x5) ?_
     conv=>arg 3; whnf
     refine Zj rfl rfl fun x7 hx7=>?_
     conv=>arg 3; whnf
     refine Zf (Zl rfl hx7) ?_
     conv=>arg 3; whnf
     refine Zo (Z4 Ze (List.set s0.2 (w64 (d+s0.1)).toNat x5) (w64 (d+(w64 ((w64 ((w64 (2*s0.1))+1))+1)))).toNat x4) ?_
     conv=>arg 3; whnf
     exact Zd (ih _)
    ·conv=>arg 3; whnf
     exact Zh rfl
   ·conv=>arg 3; whnf
    refine Zj rfl rfl fun x8 hx8=>?_
    conv=>arg 3; whnf
    refine Zf (Zl rfl hx8) ?_
    conv=>arg 3; whnf
    refine Zf (ZaF rfl hx1) ?_
    conv=>arg 3; whnf
    refine Zf (Zl rfl hx1) ?_
    conv=>arg 3; whnf
    refine Zp _ ZN rfl fun x9 hx9=>?_
    conv=>arg 3; whnf
    refine Zg rfl ?_ ?_
    ·conv=>arg 3; whnf
     refine Zf (ZaF rfl hx1) ?_
     conv=>arg 3; whnf
     refine Zf (Zl rfl hx1) ?_
     conv=>arg 3; whnf
     refine Zf (ZaF rfl hx8) ?_
     conv=>arg 3; whnf
     refine Zf (Zl rfl hx8) ?_
     conv=>arg 3; whnf
     refine Zf (ZaF rfl hx8) ?_
     conv=>arg 3; whnf
     refine Zf (Zl rfl hx8) ?_
     conv=>arg 3; whnf
     refine Zo (Z4 Ze s0.2 (w64 (d+s0.1)).toNat x1) ?_
     conv=>arg 3; whnf
     refine Zj rfl rfl fun x10 hx10=>?_
     conv=>arg 3; whnf
     refine Zf (Zl rfl hx10) ?_
     conv=>arg 3; whnf
     refine Zo (Z4 Ze (List.set s0.2 (w64 (d+s0.1)).toNat x1) (w64 (d+(w64 ((w64 (2*s0.1))+1)))).toNat x8) ?_
     conv=>arg 3; whnf
     exact Zd (ih _)
    ·conv=>arg 3; whnf
     exact Zh rfl
  ·conv=>arg 3; whnf
   refine Zj rfl rfl fun x11 hx11=>?_
   conv=>arg 3; whnf
   refine Zf (Zl rfl hx11) ?_
   conv=>arg 3; whnf
   refine Zj rfl rfl fun x12 hx12=>?_
   conv=>arg 3; whnf
   refine Zf (Zl rfl hx12) ?_
   conv=>arg 3; whnf
   refine Zp _ ZN rfl fun x13 hx13=>?_
   conv=>arg 3; whnf
   refine Zg rfl ?_ ?_
   ·conv=>arg 3; whnf
    refine Zf (ZaF rfl hx12) ?_
    conv=>arg 3; whnf
    refine Zf (Zl rfl hx12) ?_
    conv=>arg 3; whnf
    refine Zf (ZaF rfl hx11) ?_
    conv=>arg 3; whnf
    refine Zf (Zl rfl hx11) ?_
    conv=>arg 3; whnf
    refine Zf (ZaF rfl hx11) ?_
    conv=>arg 3; whnf
    refine Zf (Zl rfl hx11) ?_
    conv=>arg 3; whnf
    refine Zo (Z4 Ze s0.2 (w64 (d+s0.1)).toNat x12) ?_
    conv=>arg 3; whnf
    refine Zj rfl rfl fun x14 hx14=>?_
    conv=>arg 3; whnf
    refine Zf (Zl rfl hx14) ?_
    conv=>arg 3; whnf
    refine Zo (Z4 Ze (List.set s0.2 (w64 (d+s0.1)).toNat x12) (w64 (d+(w64 ((w64 (2*s0.1))+1)))).toNat x11) ?_
    conv=>arg 3; whnf
    exact Zd (ih _)
   ·conv=>arg 3; whnf
    exact Zh rfl
theorem Zc0 {t0:Bool} {t1:Bool} {t2:Bool} {t3:Bool} {b:Int} {c:Int} {d:Int} {m0_0:(List Int)} {m1_0:Int} {m1_1:Int} {m1_2:(List Zal)} {m1_3:(List Zr)} {m1_4:(List Zk)} {m1_5:(List Zu)}:∀r,(ZaK b c d (fun z0 z1=>Zw z0 z1 m1_4) m0_0)=some r→evW ctx 161 [(.sl 0 1),(.d (Ze b)),(.d (Ze c)),(.d (Ze d)),(.fn 121 [(.ptr 1 0)])] [(.arr 1 (List.map Ze m0_0)),(.cells [(.d (Ze m1_0)),(.d (Ze m1_1)),(.d (D.list t0 (List.map Zau m1_2))),(.d (D.list t1 (List.map ZI m1_3))),(.d (D.list t2 (List.map Zs m1_4))),(.d (D.list t3 (List.map ZA m1_5)))])]=some ((Zdg t0 t1 t2 t3 b c d m0_0 m1_0 m1_1 m1_2 m1_3 m1_4 m1_5) r):=by
 show Z6 _ (fun r rhs=>rhs=some ((Zdg t0 t1 t2 t3 b c d m0_0 m1_0 m1_1 m1_2 m1_3 m1_4 m1_5) r)) _
 unfold ZaK
 rw[Zeh ctx 161 ZvH _ _ rfl rfl]
 conv=>arg 3; whnf
 refine Zc _ (ZeW _) fun r15 hr15=>?_
 clear hr15
 rcases r15 with r15 | r15
 ·conv=>arg 3; whnf
  exact Zh rfl
 ·conv=>arg 3; whnf
  exact Zh rfl
def Zdf (t0:Bool) (t1:Bool) (t2:Bool) (t3:Bool) (b:Int) (c:Int) (m0_0:(List Int)) (m1_0:Int) (m1_1:Int) (m1_2:(List Zal)) (m1_3:(List Zr)) (m1_4:(List Zk)) (m1_5:(List Zu)):(List Int)→V×Zn
  | r=>((.d (D.tup [])),[(.arr 1 (List.map Ze r)),(.cells [(.d (Ze m1_0)),(.d (Ze m1_1)),(.d (D.list t0 (List.map Zau m1_2))),(.d (D.list t1 (List.map ZI m1_3))),(.d (D.list t2 (List.map Zs m1_4))),(.d (D.list t3 (List.map ZA m1_5)))])])
def ZcN (t0:Bool) (t1:Bool) (t2:Bool) (t3:Bool) (b:Int) (c:Int) (m1_0:Int) (m1_1:Int) (m1_2:(List Zal)) (m1_3:(List Zr)) (m1_4:(List Zk)) (m1_5:(List Zu)):(List Int)→Ex×List V×Zn
  | r=>(.exit 0,[(.sl 0 1),(.fn 121 [(.ptr 1 0)]),(.d (Ze b)),(.d (Ze 0)),(.d (Ze (w64 (c-b))))],[(.arr 1 (List.map Ze r)),(.cells [(.d (Ze m1_0)),(.d (Ze m1_1)),(.d (D.list t0 (List.map Zau m1_2))),(.d (D.list t1 (List.map ZI m1_3))),(.d (D.list t2 (List.map Zs m1_4))),(.d (D.list t3 (List.map ZA m1_5)))])])
theorem Ze6 {t0:Bool} {t1:Bool} {t2:Bool} {t3:Bool} {b:Int} {c:Int} {m1_0:Int} {m1_1:Int} {m1_2:(List Zal)} {m1_3:(List Zr)} {m1_4:(List Zk)} {m1_5:(List Zu)}:∀(s0:Int×(List Int)) (r:(List Int)),lp (ZaG b c (fun z0 z1=>Zw z0 z1 m1_4)) s0=some r→lpW ctx 2 [0,3,8,9,10,11] [0,3,8,9,10] Zuw [(.sl 0 1),(.fn 121 [(.ptr 1 0)]),(.d (Ze b)),(.d (Ze 0)),(.d (Ze (w64 (c-b)))),(.d (Ze s0.1))] [(.arr 1 (List.map Ze s0.2)),(.cells [(.d (Ze m1_0)),(.d (Ze m1_1)),(.d (D.list t0 (List.map Zau m1_2))),(.d (D.list t1 (List.map ZI m1_3))),(.d (D.list t2 (List.map Zs m1_4))),(.d (D.list t3 (List.map ZA m1_5)))])]=some ((ZcN t0 t1 t2 t3 b c m1_0 m1_1 m1_2 m1_3 m1_4 m1_5) r):=by
 refine Zbc (ZcN t0 t1 t2 t3 b c m1_0 m1_1 m1_2 m1_3 m1_4 m1_5) ?_
 intro s0 rcl ih
 show Z6 _ _ (lpW _ _ _ _ _ _ _)
 unfold ZaG
 rw[Zbd]
 conv=>arg 3; whnf
 refine Zg rfl ?_ ?_
 ·conv=>arg 3; whnf
  refine Zc _ Zc0 fun x1 hx1=>?_
  conv=>arg 3; whnf
  exact Zd (ih _)
 ·conv=>arg 3; whnf
  exact Zh rfl
def ZcO (t0:Bool) (t1:Bool) (t2:Bool) (t3:Bool) (b:Int) (m1_0:Int) (m1_1:Int) (m1_2:(List Zal)) (m1_3:(List Zr)) (m1_4:(List Zk)) (m1_5:(List Zu)):(List Int)→Ex×List V×Zn
  | r=>(.exit 2,[],[(.arr 1 (List.map Ze r)),(.cells [(.d (Ze m1_0)),(.d (Ze m1_1)),(.d (D.list t0 (List.map Zau m1_2))),(.d (D.list t1 (List.map ZI m1_3))),(.d (D.list t2 (List.map Zs m1_4))),(.d (D.list t3 (List.map ZA m1_5)))])])
theorem Ze2 {t0:Bool} {t1:Bool} {t2:Bool} {t3:Bool} {b:Int} {m1_0:Int} {m1_1:Int} {m1_2:(List Zal)} {m1_3:(List Zr)} {m1_4:(List Zk)} {m1_5:(List Zu)}:∀(s3:Int×(List Int)) (r:(List Int)),lp (ZaJ b (fun z0 z1=>Zw z0 z1 m1_4)) s3=some r→lpW ctx 2 [0,3,8,9,12] [] ZtA [(.sl 0 1),(.fn 121 [(.ptr 1 0)]),(.d (Ze b)),(.d (Ze 0)),(.d (Ze s3.1))] [(.arr 1 (List.map Ze s3.2)),(.cells [(.d (Ze m1_0)),(.d (Ze m1_1)),(.d (D.list t0 (List.map Zau m1_2))),(.d (D.list t1 (List.map ZI m1_3))),(.d (D.list t2 (List.map Zs m1_4))),(.d (D.list t3 (List.map ZA m1_5)))])]=some ((ZcO t0 t1 t2 t3 b m1_0 m1_1 m1_2 m1_3 m1_4 m1_5) r):=by
 refine Zbc (ZcO t0 t1 t2 t3 b m1_0 m1_1 m1_2 m1_3 m1_4 m1_5) ?_
 intro s3 rcl ih
 show Z6 _ _ (lpW _ _ _ _ _ _ _)
 unfold ZaJ
 rw[Zbd]
 conv=>arg 3; whnf
 refine Zg rfl ?_ ?_
 ·conv=>arg 3; whnf
  refine Zj rfl rfl fun x4 hx4=>?_
  conv=>arg 3; whnf
  refine Zf (Zl rfl hx4) ?_
  conv=>arg 3; whnf
  refine Zj rfl rfl fun x5 hx5=>?_
  conv=>arg 3; whnf
  refine Zf (Zl rfl hx5) ?_
  conv=>arg 3; whnf
  refine Zf (ZaF rfl hx5) ?_
  conv=>arg 3; whnf
  refine Zf (Zl rfl hx5) ?_
  conv=>arg 3; whnf
  refine Zo (Z4 Ze s3.2 b.toNat x4) ?_
  conv=>arg 3; whnf
  refine Zj rfl rfl fun x6 hx6=>?_
  conv=>arg 3; whnf
  refine Zf (Zl rfl hx6) ?_
  conv=>arg 3; whnf
  refine Zo (Z4 Ze (List.set s3.2 b.toNat x4) (w64 (b+s3.1)).toNat x5) ?_
  conv=>arg 3; whnf
  refine Zc _ Zc0 fun x7 hx7=>?_
  conv=>arg 3; whnf
  exact Zd (ih _)
 ·conv=>arg 3; whnf
  exact Zh rfl
theorem Za9 {t0:Bool} {t1:Bool} {t2:Bool} {t3:Bool} {b:Int} {c:Int} {m0_0:(List Int)} {m1_0:Int} {m1_1:Int} {m1_2:(List Zal)} {m1_3:(List Zr)} {m1_4:(List Zk)} {m1_5:(List Zu)}:∀r,(Zag b c (fun z0 z1=>Zw z0 z1 m1_4) m0_0)=some r→evW ctx 143 [(.sl 0 1),(.d (Ze b)),(.d (Ze c)),(.fn 121 [(.ptr 1 0)])] [(.arr 1 (List.map Ze m0_0)),(.cells [(.d (Ze m1_0)),(.d (Ze m1_1)),(.d (D.list t0 (List.map Zau m1_2))),(.d (D.list t1 (List.map ZI m1_3))),(.d (D.list t2 (List.map Zs m1_4))),(.d (D.list t3 (List.map ZA m1_5)))])]=some ((Zdf t0 t1 t2 t3 b c m0_0 m1_0 m1_1 m1_2 m1_3 m1_4 m1_5) r):=by
 show Z6 _ (fun r rhs=>rhs=some ((Zdf t0 t1 t2 t3 b c m0_0 m1_0 m1_1 m1_2 m1_3 m1_4 m1_5) r)) _
 unfold Zag
 rw[Zeh ctx 143 Zw9 _ _ rfl rfl]
 conv=>arg 3; whnf
 refine ZQ rfl ?_
 conv=>arg 3; whnf
 refine Zc _ (Ze6 _) fun r2 hr2=>?_
 conv=>arg 3; whnf
 refine Zc _ (Ze2 _) fun r8 hr8=>?_
 conv=>arg 3; whnf
 exact Zh rfl
def Zds (t0:Bool) (t1:Bool) (t2:Bool) (t3:Bool) (b:Int) (c:Int) (m0_0:(List Int)) (m1_0:Int) (m2_0:Int) (m2_1:Int) (m2_2:(List Zal)) (m2_3:(List Zr)) (m2_4:(List Zk)) (m2_5:(List Zu)):(Int×Int×Int)→V×Zn
  | r=>((.d (D.tup [(Ze r.1),(Ze r.2.1)])),[(.arr 1 (List.map Ze m0_0)),(.cells [(.d (Ze r.2.2))]),(.cells [(.d (Ze m2_0)),(.d (Ze m2_1)),(.d (D.list t0 (List.map Zau m2_2))),(.d (D.list t1 (List.map ZI m2_3))),(.d (D.list t2 (List.map Zs m2_4))),(.d (D.list t3 (List.map ZA m2_5)))])])
theorem ZbY {t0:Bool} {t1:Bool} {t2:Bool} {t3:Bool} {b:Int} {c:Int} {m0_0:(List Int)} {m1_0:Int} {m2_0:Int} {m2_1:Int} {m2_2:(List Zal)} {m2_3:(List Zr)} {m2_4:(List Zk)} {m2_5:(List Zu)}:∀r,(ZaY b c (fun z0 z1=>Zw z0 z1 m2_4) m0_0 m1_0)=some r→evW ctx 170 [(.sl 0 1),(.d (Ze b)),(.d (Ze c)),(.ptr 1 0),(.fn 121 [(.ptr 2 0)])] [(.arr 1 (List.map Ze m0_0)),(.cells [(.d (Ze m1_0))]),(.cells [(.d (Ze m2_0)),(.d (Ze m2_1)),(.d (D.list t0 (List.map Zau m2_2))),(.d (D.list t1 (List.map ZI m2_3))),(.d (D.list t2 (List.map Zs m2_4))),(.d (D.list t3 (List.map ZA m2_5)))])]=some ((Zds t0 t1 t2 t3 b c m0_0 m1_0 m2_0 m2_1 m2_2 m2_3 m2_4 m2_5) r):=by
 show Z6 _ (fun r rhs=>rhs=some ((Zds t0 t1 t2 t3 b c m0_0 m1_0 m2_0 m2_1 m2_2 m2_3 m2_4 m2_5) r)) _
 unfold ZaY
 rw[Zeh ctx 170 Zwb _ _ rfl rfl]
 conv=>arg 3; whnf
 refine Zj rfl rfl fun x0 hx0=>?_
 conv=>arg 3; whnf
 refine Zf (Zl rfl hx0) ?_
 conv=>arg 3; whnf
 refine Zj rfl rfl fun x1 hx1=>?_
 conv=>arg 3; whnf
 refine Zf (Zl rfl hx1) ?_
 conv=>arg 3; whnf
 refine Zp _ ZN rfl fun x2 hx2=>?_
 conv=>arg 3; whnf
 refine Zg rfl ?_ ?_
 ·conv=>arg 3; whnf
  exact Zh rfl
 ·conv=>arg 3; whnf
  exact Zh rfl
def Zdr (t0:Bool) (t1:Bool) (t2:Bool) (t3:Bool) (b:Int) (c:Int) (d:Int) (m0_0:(List Int)) (m1_0:Int) (m2_0:Int) (m2_1:Int) (m2_2:(List Zal)) (m2_3:(List Zr)) (m2_4:(List Zk)) (m2_5:(List Zu)):(Int×Int)→V×Zn
  | r=>((.d (Ze r.1)),[(.arr 1 (List.map Ze m0_0)),(.cells [(.d (Ze r.2))]),(.cells [(.d (Ze m2_0)),(.d (Ze m2_1)),(.d (D.list t0 (List.map Zau m2_2))),(.d (D.list t1 (List.map ZI m2_3))),(.d (D.list t2 (List.map Zs m2_4))),(.d (D.list t3 (List.map ZA m2_5)))])])
theorem ZbZ {t0:Bool} {t1:Bool} {t2:Bool} {t3:Bool} {b:Int} {c:Int} {d:Int} {m0_0:(List Int)} {m1_0:Int} {m2_0:Int} {m2_1:Int} {m2_2:(List Zal)} {m2_3:(List Zr)} {m2_4:(List Zk)} {m2_5:(List Zu)}:∀r,(ZaX b c d (fun z0 z1=>Zw z0 z1 m2_4) m0_0 m1_0)=some r→evW ctx 165 [(.sl 0 1),(.d (Ze b)),(.d (Ze c)),(.d (Ze d)),(.ptr 1 0),(.fn 121 [(.ptr 2 0)])] [(.arr 1 (List.map Ze m0_0)),(.cells [(.d (Ze m1_0))]),(.cells [(.d (Ze m2_0)),(.d (Ze m2_1)),(.d (D.list t0 (List.map Zau m2_2))),(.d (D.list t1 (List.map ZI m2_3))),(.d (D.list t2 (List.map Zs m2_4))),(.d (D.list t3 (List.map ZA m2_5)))])]=some ((Zdr t0 t1 t2 t3 b c d m0_0 m1_0 m2_0 m2_1 m2_2 m2_3 m2_4 m2_5) r):=by
 show Z6 _ (fun r rhs=>rhs=some ((Zdr t0 t1 t2 t3 b c d m0_0 m1_0 m2_0 m2_1 m2_2 m2_3 m2_4 m2_5) r)) _
 unfold ZaX
 rw[Zeh ctx 165 ZvO _ _ rfl rfl]
 conv=>arg 3; whnf
 refine Zc _ ZbY fun x0 hx0=>?_
 conv=>arg 3; whnf
 refine Zc _ ZbY fun x1 hx1=>?_
 conv=>arg 3; whnf
 refine Zc _ ZbY fun x2 hx2=>?_
 conv=>arg 3; whnf
 exact Zh rfl
def Zcs (t0:Bool) (t1:Bool) (t2:Bool) (t3:Bool) (b:Int) (m0_0:(List Int)) (m1_0:Int) (m2_0:Int) (m2_1:Int) (m2_2:(List Zal)) (m2_3:(List Zr)) (m2_4:(List Zk)) (m2_5:(List Zu)):(Int×Int)→V×Zn
  | r=>((.d (Ze r.1)),[(.arr 1 (List.map Ze m0_0)),(.cells [(.d (Ze r.2))]),(.cells [(.d (Ze m2_0)),(.d (Ze m2_1)),(.d (D.list t0 (List.map Zau m2_2))),(.d (D.list t1 (List.map ZI m2_3))),(.d (D.list t2 (List.map Zs m2_4))),(.d (D.list t3 (List.map ZA m2_5)))])])
theorem Zbm {t0:Bool} {t1:Bool} {t2:Bool} {t3:Bool} {b:Int} {m0_0:(List Int)} {m1_0:Int} {m2_0:Int} {m2_1:Int} {m2_2:(List Zal)} {m2_3:(List Zr)} {m2_4:(List Zk)} {m2_5:(List Zu)}:∀r,(Zad b (fun z0 z1=>Zw z0 z1 m2_4) m0_0 m1_0)=some r→evW ctx 164 [(.sl 0 1),(.d (Ze b)),(.ptr 1 0),(.fn 121 [(.ptr 2 0)])] [(.arr 1 (List.map Ze m0_0)),(.cells [(.d (Ze m1_0))]),(.cells [(.d (Ze m2_0)),(.d (Ze m2_1)),(.d (D.list t0 (List.map Zau m2_2))),(.d (D.list t1 (List.map ZI m2_3))),(.d (D.list t2 (List.map Zs m2_4))),(.d (D.list t3 (List.map ZA m2_5)))])]=some ((Zcs t0 t1 t2 t3 b m0_0 m1_0 m2_0 m2_1 m2_2 m2_3 m2_4 m2_5) r):=by
 show Z6 _ (fun r rhs=>rhs=some ((Zcs t0 t1 t2 t3 b m0_0 m1_0 m2_0 m2_1 m2_2 m2_3 m2_4 m2_5) r)) _
 unfold Zad
 rw[Zeh ctx 164 ZxO _ _ rfl rfl]
 conv=>arg 3; whnf
 refine Zc _ ZbZ fun x0 hx0=>?_
 conv=>arg 3; whnf
 exact Zh rfl
def ZcQ (t0:Bool) (t1:Bool) (t2:Bool) (t3:Bool) (b:Int) (c:Int) (m0_0:(List Int)) (m1_0:Int) (m1_1:Int) (m1_2:(List Zal)) (m1_3:(List Zr)) (m1_4:(List Zk)) (m1_5:(List Zu)):(Int×Int)→V×Zn
  | r=>((.d (D.tup [(Ze r.1),(Ze r.2)])),[(.arr 1 (List.map Ze m0_0)),(.cells [(.d (Ze m1_0)),(.d (Ze m1_1)),(.d (D.list t0 (List.map Zau m1_2))),(.d (D.list t1 (List.map ZI m1_3))),(.d (D.list t2 (List.map Zs m1_4))),(.d (D.list t3 (List.map ZA m1_5)))])])
theorem ZaW {t0:Bool} {t1:Bool} {t2:Bool} {t3:Bool} {b:Int} {c:Int} {m0_0:(List Int)} {m1_0:Int} {m1_1:Int} {m1_2:(List Zal)} {m1_3:(List Zr)} {m1_4:(List Zk)} {m1_5:(List Zu)}:∀r,(ZT b c (fun z0 z1=>Zw z0 z1 m1_4) m0_0)=some r→evW ctx 145 [(.sl 0 1),(.d (Ze b)),(.d (Ze c)),(.fn 121 [(.ptr 1 0)])] [(.arr 1 (List.map Ze m0_0)),(.cells [(.d (Ze m1_0)),(.d (Ze m1_1)),(.d (D.list t0 (List.map Zau m1_2))),(.d (D.list t1 (List.map ZI m1_3))),(.d (D.list t2 (List.map Zs m1_4))),(.d (D.list t3 (List.map ZA m1_5)))])]=some ((ZcQ t0 t1 t2 t3 b c m0_0 m1_0 m1_1 m1_2 m1_3 m1_4 m1_5) r):=by
 show Z6 _ (fun r rhs=>rhs=some ((ZcQ t0 t1 t2 t3 b c m0_0 m1_0 m1_1 m1_2 m1_3 m1_4 m1_5) r)) _
 unfold ZT
 rw[Zeh ctx 145 Zv0 _ _ rfl rfl]
 conv=>arg 3; whnf
 refine ZQ rfl ?_
 conv=>arg 3; whnf
 refine ZQ rfl ?_
 conv=>arg 3; whnf
 refine ZQ rfl ?_
 conv=>arg 3; whnf
 refine Zg rfl ?_ ?_
 ·conv=>arg 3; whnf
  refine Zg rfl ?_ ?_
  ·conv=>arg 3; whnf
   refine Zc _ Zbm fun x0 hx0=>?_
   conv=>arg 3; whnf
   refine Zc _ Zbm fun x1 hx1=>?_
   conv=>arg 3; whnf
   refine Zc _ Zbm fun x2 hx2=>?_
   conv=>arg 3; whnf
   refine Zc _ ZbZ fun x3 hx3=>?_
   conv=>arg 3; whnf
   refine Zg rfl ?_ ?_
   ·conv=>arg 3; whnf
    exact Zh rfl
   ·conv=>arg 3; whnf
    refine Zg rfl ?_ ?_
    ·conv=>arg 3; whnf
     exact Zh rfl
    ·conv=>arg 3; whnf
     exact Zh rfl
  ·conv=>arg 3; whnf
   refine Zc _ ZbZ fun x4 hx4=>?_
   conv=>arg 3; whnf
   refine Zg rfl ?_ ?_
   ·conv=>arg 3; whnf
    exact Zh rfl
   ·conv=>arg 3; whnf
    refine Zg rfl ?_ ?_
    ·conv=>arg 3; whnf
     exact Zh rfl
    ·conv=>arg 3; whnf
     exact Zh rfl
 ·conv=>arg 3; whnf
  refine ZbC rfl ?_
  conv=>arg 3; whnf
  exact Zh rfl
def ZcD (t0:Bool) (t1:Bool) (t2:Bool) (t3:Bool) (b:Int) (c:Int) (m0_0:(List Int)) (m1_0:Int) (m1_1:Int) (m1_2:(List Zal)) (m1_3:(List Zr)) (m1_4:(List Zk)) (m1_5:(List Zu)):(List Int)→V×Zn
  | r=>((.d (D.tup [])),[(.arr 1 (List.map Ze r)),(.cells [(.d (Ze m1_0)),(.d (Ze m1_1)),(.d (D.list t0 (List.map Zau m1_2))),(.d (D.list t1 (List.map ZI m1_3))),(.d (D.list t2 (List.map Zs m1_4))),(.d (D.list t3 (List.map ZA m1_5)))])])
def Zcp (t0:Bool) (t1:Bool) (t2:Bool) (t3:Bool) (m1_0:Int) (m1_1:Int) (m1_2:(List Zal)) (m1_3:(List Zr)) (m1_4:(List Zk)) (m1_5:(List Zu)):(List Int)→Ex×List V×Zn
  | r=>(.exit 0,[],[(.arr 1 (List.map Ze r)),(.cells [(.d (Ze m1_0)),(.d (Ze m1_1)),(.d (D.list t0 (List.map Zau m1_2))),(.d (D.list t1 (List.map ZI m1_3))),(.d (D.list t2 (List.map Zs m1_4))),(.d (D.list t3 (List.map ZA m1_5)))])])
theorem Zek {t0:Bool} {t1:Bool} {t2:Bool} {t3:Bool} {m1_0:Int} {m1_1:Int} {m1_2:(List Zal)} {m1_3:(List Zr)} {m1_4:(List Zk)} {m1_5:(List Zu)}:∀(s0:Int×Int×(List Int)) (r:(List Int)),lp (Zaa) s0=some r→lpW ctx 2 [0,8,9] [] Zty [(.sl 0 1),(.d (Ze s0.1)),(.d (Ze s0.2.1))] [(.arr 1 (List.map Ze s0.2.2)),(.cells [(.d (Ze m1_0)),(.d (Ze m1_1)),(.d (D.list t0 (List.map Zau m1_2))),(.d (D.list t1 (List.map ZI m1_3))),(.d (D.list t2 (List.map Zs m1_4))),(.d (D.list t3 (List.map ZA m1_5)))])]=some ((Zcp t0 t1 t2 t3 m1_0 m1_1 m1_2 m1_3 m1_4 m1_5) r):=by
 refine Zbc (Zcp t0 t1 t2 t3 m1_0 m1_1 m1_2 m1_3 m1_4 m1_5) ?_
 intro s0 rcl ih
 show Z6 _ _ (lpW _ _ _ _ _ _ _)
 unfold Zaa
 rw[Zbd]
 conv=>arg 3; whnf
 refine Zg rfl ?_ ?_
 ·conv=>arg 3; whnf
  refine Zj rfl rfl fun x1 hx1=>?_
  conv=>arg 3; whnf
  refine Zf (Zl rfl hx1) ?_
  conv=>arg 3; whnf
  refine Zj rfl rfl fun x2 hx2=>?_
  conv=>arg 3; whnf
  refine Zf (Zl rfl hx2) ?_
  conv=>arg 3; whnf
  refine Zf (ZaF rfl hx2) ?_
  conv=>arg 3; whnf
  refine Zf (Zl rfl hx2) ?_
  conv=>arg 3; whnf
  refine Zo (Z4 Ze s0.2.2 s0.1.toNat x1) ?_
  conv=>arg 3; whnf
  refine Zj rfl rfl fun x3 hx3=>?_
  conv=>arg 3; whnf
  refine Zf (Zl rfl hx3) ?_
  conv=>arg 3; whnf
  refine Zo (Z4 Ze (List.set s0.2.2 s0.1.toNat x1) s0.2.1.toNat x2) ?_
  conv=>arg 3; whnf
  exact Zd (ih _)
 ·conv=>arg 3; whnf
  exact Zh rfl
theorem ZaV {t0:Bool} {t1:Bool} {t2:Bool} {t3:Bool} {b:Int} {c:Int} {m0_0:(List Int)} {m1_0:Int} {m1_1:Int} {m1_2:(List Zal)} {m1_3:(List Zr)} {m1_4:(List Zk)} {m1_5:(List Zu)}:∀r,(ZO b c (fun z0 z1=>Zw z0 z1 m1_4) m0_0)=some r→evW ctx 146 [(.sl 0 1),(.d (Ze b)),(.d (Ze c)),(.fn 121 [(.ptr 1 0)])] [(.arr 1 (List.map Ze m0_0)),(.cells [(.d (Ze m1_0)),(.d (Ze m1_1)),(.d (D.list t0 (List.map Zau m1_2))),(.d (D.list t1 (List.map ZI m1_3))),(.d (D.list t2 (List.map Zs m1_4))),(.d (D.list t3 (List.map ZA m1_5)))])]=some ((ZcD t0 t1 t2 t3 b c m0_0 m1_0 m1_1 m1_2 m1_3 m1_4 m1_5) r):=by
 show Z6 _ (fun r rhs=>rhs=some ((ZcD t0 t1 t2 t3 b c m0_0 m1_0 m1_1 m1_2 m1_3 m1_4 m1_5) r)) _
 unfold ZO
 rw[Zeh ctx 146 ZxP _ _ rfl rfl]
 conv=>arg 3; whnf
 refine Zc _ (Zek _) fun r4 hr4=>?_
 conv=>arg 3; whnf
 exact Zh rfl
def Zb5 (t0:Bool) (t1:Bool) (t2:Bool) (t3:Bool) (b:Int) (c:Int) (m0_0:(List Int)) (m1_0:Int) (m1_1:Int) (m1_2:(List Zal)) (m1_3:(List Zr)) (m1_4:(List Zk)) (m1_5:(List Zu)):((List Int)⊕(List Int))→V×Zn
  | (.inl r)=>((.d (D.bool true)),[(.arr 1 (List.map Ze r)),(.cells [(.d (Ze m1_0)),(.d (Ze m1_1)),(.d (D.list t0 (List.map Zau m1_2))),(.d (D.list t1 (List.map ZI m1_3))),(.d (D.list t2 (List.map Zs m1_4))),(.d (D.list t3 (List.map ZA m1_5)))])])
  | (.inr r)=>((.d (D.bool false)),[(.arr 1 (List.map Ze r)),(.cells [(.d (Ze m1_0)),(.d (Ze m1_1)),(.d (D.list t0 (List.map Zau m1_2))),(.d (D.list t1 (List.map ZI m1_3))),(.d (D.list t2 (List.map Zs m1_4))),(.d (D.list t3 (List.map ZA m1_5)))])])
def ZbR (t0:Bool) (t1:Bool) (t2:Bool) (t3:Bool) (b:Int) (c:Int) (m1_0:Int) (m1_1:Int) (m1_2:(List Zal)) (m1_3:(List Zr)) (m1_4:(List Zk)) (m1_5:(List Zu)) (s0:Int×Int×(List Int)):Int→Ex×List V×Zn
  | r=>(.exit 2,[(.sl 0 1),(.d (Ze b)),(.d (Ze c)),(.fn 121 [(.ptr 1 0)]),(.d (Ze r)),(.d (Ze s0.2.1))],[(.arr 1 (List.map Ze s0.2.2)),(.cells [(.d (Ze m1_0)),(.d (Ze m1_1)),(.d (D.list t0 (List.map Zau m1_2))),(.d (D.list t1 (List.map ZI m1_3))),(.d (D.list t2 (List.map Zs m1_4))),(.d (D.list t3 (List.map ZA m1_5)))])])
theorem ZdC {t0:Bool} {t1:Bool} {t2:Bool} {t3:Bool} {b:Int} {c:Int} {m1_0:Int} {m1_1:Int} {m1_2:(List Zal)} {m1_3:(List Zr)} {m1_4:(List Zk)} {m1_5:(List Zu)} {s0:Int×Int×(List Int)}:∀(s1:Int) (r:Int),lp (ZK c (fun z0 z1=>Zw z0 z1 m1_4) s0) s1=some r→lpW ctx 2 [0,1,2,3,9,10] [0,1,2,3,9,10] Ztk [(.sl 0 1),(.d (Ze b)),(.d (Ze c)),(.fn 121 [(.ptr 1 0)]),(.d (Ze s1)),(.d (Ze s0.2.1))] [(.arr 1 (List.map Ze s0.2.2)),(.cells [(.d (Ze m1_0)),(.d (Ze m1_1)),(.d (D.list t0 (List.map Zau m1_2))),(.d (D.list t1 (List.map ZI m1_3))),(.d (D.list t2 (List.map Zs m1_4))),(.d (D.list t3 (List.map ZA m1_5)))])]=some ((ZbR t0 t1 t2 t3 b c m1_0 m1_1 m1_2 m1_3 m1_4 m1_5 s0) r):=by
 refine Zbc (ZbR t0 t1 t2 t3 b c m1_0 m1_1 m1_2 m1_3 m1_4 m1_5 s0) ?_
 intro s1 rcl ih
 show Z6 _ _ (lpW _ _ _ _ _ _ _)
 unfold ZK
 rw[Zbd]
 conv=>arg 3; whnf
 refine Zg rfl ?_ ?_
 ·conv=>arg 3; whnf
  refine Zj rfl rfl fun x2 hx2=>?_
  conv=>arg 3; whnf
  refine Zf (Zl rfl hx2) ?_
  conv=>arg 3; whnf
  refine Zj rfl rfl fun x3 hx3=>?_
  conv=>arg 3; whnf
  refine Zf (Zl rfl hx3) ?_
  conv=>arg 3; whnf
  refine Zp _ ZN rfl fun x4 hx4=>?_
  conv=>arg 3; whnf
  refine Zg rfl ?_ ?_
  ·conv=>arg 3; whnf
   exact Zh rfl
  ·conv=>arg 3; whnf
   exact Zd (ih _)
 ·conv=>arg 3; whnf
  exact Zh rfl
def ZbO (t0:Bool) (t1:Bool) (t2:Bool) (t3:Bool) (b:Int) (c:Int) (m1_0:Int) (m1_1:Int) (m1_2:(List Zal)) (m1_3:(List Zr)) (m1_4:(List Zk)) (m1_5:(List Zu)) (s0:Int×Int×(List Int)) (r5:Int):(List Int)→Ex×List V×Zn
  | r=>(.exit 4,[(.sl 0 1),(.d (Ze b)),(.d (Ze c)),(.fn 121 [(.ptr 1 0)]),(.d (Ze r5)),(.d (Ze s0.2.1))],[(.arr 1 (List.map Ze r)),(.cells [(.d (Ze m1_0)),(.d (Ze m1_1)),(.d (D.list t0 (List.map Zau m1_2))),(.d (D.list t1 (List.map ZI m1_3))),(.d (D.list t2 (List.map Zs m1_4))),(.d (D.list t3 (List.map ZA m1_5)))])])
theorem Zdz {t0:Bool} {t1:Bool} {t2:Bool} {t3:Bool} {b:Int} {c:Int} {m1_0:Int} {m1_1:Int} {m1_2:(List Zal)} {m1_3:(List Zr)} {m1_4:(List Zk)} {m1_5:(List Zu)} {s0:Int×Int×(List Int)} {r5:Int}:∀(s9:Int×(List Int)) (r:(List Int)),lp (ZS (fun z0 z1=>Zw z0 z1 m1_4)) s9=some r→lpW ctx 2 [0,1,2,3,9,10,11] [0,1,2,3,9,10] Zua [(.sl 0 1),(.d (Ze b)),(.d (Ze c)),(.fn 121 [(.ptr 1 0)]),(.d (Ze r5)),(.d (Ze s0.2.1)),(.d (Ze s9.1))] [(.arr 1 (List.map Ze s9.2)),(.cells [(.d (Ze m1_0)),(.d (Ze m1_1)),(.d (D.list t0 (List.map Zau m1_2))),(.d (D.list t1 (List.map ZI m1_3))),(.d (D.list t2 (List.map Zs m1_4))),(.d (D.list t3 (List.map ZA m1_5)))])]=some ((ZbO t0 t1 t2 t3 b c m1_0 m1_1 m1_2 m1_3 m1_4 m1_5 s0 r5) r):=by
 refine Zbc (ZbO t0 t1 t2 t3 b c m1_0 m1_1 m1_2 m1_3 m1_4 m1_5 s0 r5) ?_
 intro s9 rcl ih
 show Z6 _ _ (lpW _ _ _ _ _ _ _)
 unfold ZS
 rw[Zbd]
 conv=>arg 3; whnf
 refine Zg rfl ?_ ?_
 ·conv=>arg 3; whnf
  refine Zj rfl rfl fun x10 hx10=>?_
  conv=>arg 3; whnf
  refine Zf (Zl rfl hx10) ?_
  conv=>arg 3; whnf
  refine Zj rfl rfl fun x11 hx11=>?_
  conv=>arg 3; whnf
  refine Zf (Zl rfl hx11) ?_
  conv=>arg 3; whnf
  refine Zp _ ZN rfl fun x12 hx12=>?_
  conv=>arg 3; whnf
  refine Zg rfl ?_ ?_
  ·conv=>arg 3; whnf
   refine Zf (ZaF rfl hx11) ?_
   conv=>arg 3; whnf
   refine Zf (Zl rfl hx11) ?_
   conv=>arg 3; whnf
   refine Zf (ZaF rfl hx10) ?_
   conv=>arg 3; whnf
   refine Zf (Zl rfl hx10) ?_
   conv=>arg 3; whnf
   refine Zf (ZaF rfl hx10) ?_
   conv=>arg 3; whnf
   refine Zf (Zl rfl hx10) ?_
   conv=>arg 3; whnf
   refine Zo (Z4 Ze s9.2 s9.1.toNat x11) ?_
   conv=>arg 3; whnf
   refine Zj rfl rfl fun x13 hx13=>?_
   conv=>arg 3; whnf
   refine Zf (Zl rfl hx13) ?_
   conv=>arg 3; whnf
   refine Zo (Z4 Ze (List.set s9.2 s9.1.toNat x11) (w64 (s9.1-1)).toNat x10) ?_
   conv=>arg 3; whnf
   exact Zd (ih _)
  ·conv=>arg 3; whnf
   exact Zh rfl
 ·conv=>arg 3; whnf
  exact Zh rfl
def ZbP (t0:Bool) (t1:Bool) (t2:Bool) (t3:Bool) (b:Int) (c:Int) (m1_0:Int) (m1_1:Int) (m1_2:(List Zal)) (m1_3:(List Zr)) (m1_4:(List Zk)) (m1_5:(List Zu)) (s0:Int×Int×(List Int)) (r5:Int):(List Int)→Ex×List V×Zn
  | r=>(.exit 6,[(.sl 0 1),(.d (Ze b)),(.d (Ze c)),(.fn 121 [(.ptr 1 0)]),(.d (Ze r5)),(.d (Ze s0.2.1))],[(.arr 1 (List.map Ze r)),(.cells [(.d (Ze m1_0)),(.d (Ze m1_1)),(.d (D.list t0 (List.map Zau m1_2))),(.d (D.list t1 (List.map ZI m1_3))),(.d (D.list t2 (List.map Zs m1_4))),(.d (D.list t3 (List.map ZA m1_5)))])])
theorem ZbM {t0:Bool} {t1:Bool} {t2:Bool} {t3:Bool} {b:Int} {c:Int} {m1_0:Int} {m1_1:Int} {m1_2:(List Zal)} {m1_3:(List Zr)} {m1_4:(List Zk)} {m1_5:(List Zu)} {s0:Int×Int×(List Int)} {r5:Int}:∀(s15:Int×(List Int)) (r:(List Int)),lp (ZH c (fun z0 z1=>Zw z0 z1 m1_4)) s15=some r→lpW ctx 2 [0,1,2,3,9,10,12] [0,1,2,3,9,10] Zuh [(.sl 0 1),(.d (Ze b)),(.d (Ze c)),(.fn 121 [(.ptr 1 0)]),(.d (Ze r5)),(.d (Ze s0.2.1)),(.d (Ze s15.1))] [(.arr 1 (List.map Ze s15.2)),(.cells [(.d (Ze m1_0)),(.d (Ze m1_1)),(.d (D.list t0 (List.map Zau m1_2))),(.d (D.list t1 (List.map ZI m1_3))),(.d (D.list t2 (List.map Zs m1_4))),(.d (D.list t3 (List.map ZA m1_5)))])]=some ((ZbP t0 t1 t2 t3 b c m1_0 m1_1 m1_2 m1_3 m1_4 m1_5 s0 r5) r):=by
 refine Zbc (ZbP t0 t1 t2 t3 b c m1_0 m1_1 m1_2 m1_3 m1_4 m1_5 s0 r5) ?_
 intro s15 rcl ih
 show Z6 _ _ (lpW _ _ _ _ _ _ _)
 unfold ZH
 rw[Zbd]
 conv=>arg 3; whnf
 refine Zg rfl ?_ ?_
 ·conv=>arg 3; whnf
  refine Zj rfl rfl fun x16 hx16=>?_
  conv=>arg 3; whnf
  refine Zf (Zl rfl hx16) ?_
  conv=>arg 3; whnf
  refine Zj rfl rfl fun x17 hx17=>?_
  conv=>arg 3; whnf
  refine Zf (Zl rfl hx17) ?_
  conv=>arg 3; whnf
  refine Zp _ ZN rfl fun x18 hx18=>?_
  conv=>arg 3; whnf
  refine Zg rfl ?_ ?_
  ·conv=>arg 3; whnf
   refine Zf (ZaF rfl hx17) ?_
   conv=>arg 3; whnf
   refine Zf (Zl rfl hx17) ?_
   conv=>arg 3; whnf
   refine Zf (ZaF rfl hx16) ?_
   conv=>arg 3; whnf
   refine Zf (Zl rfl hx16) ?_
   conv=>arg 3; whnf
   refine Zf (ZaF rfl hx16) ?_
   conv=>arg 3; whnf
   refine Zf (Zl rfl hx16) ?_
   conv=>arg 3; whnf
   refine Zo (Z4 Ze s15.2 s15.1.toNat x17) ?_
   conv=>arg 3; whnf
   refine Zj rfl rfl fun x19 hx19=>?_
   conv=>arg 3; whnf
   refine Zf (Zl rfl hx19) ?_
   conv=>arg 3; whnf
   refine Zo (Z4 Ze (List.set s15.2 s15.1.toNat x17) (w64 (s15.1-1)).toNat x16) ?_
   conv=>arg 3; whnf
   exact Zd (ih _)
  ·conv=>arg 3; whnf
   exact Zh rfl
 ·conv=>arg 3; whnf
  exact Zh rfl
def ZbQ (t0:Bool) (t1:Bool) (t2:Bool) (t3:Bool) (b:Int) (c:Int) (m1_0:Int) (m1_1:Int) (m1_2:(List Zal)) (m1_3:(List Zr)) (m1_4:(List Zk)) (m1_5:(List Zu)):((List Int)⊕((List Int)⊕(List Int)))→Ex×List V×Zn
  | (.inl r)=>(.ret,[(.d (D.bool true))],[(.arr 1 (List.map Ze r)),(.cells [(.d (Ze m1_0)),(.d (Ze m1_1)),(.d (D.list t0 (List.map Zau m1_2))),(.d (D.list t1 (List.map ZI m1_3))),(.d (D.list t2 (List.map Zs m1_4))),(.d (D.list t3 (List.map ZA m1_5)))])])
  | (.inr (.inl r))=>(.ret,[(.d (D.bool false))],[(.arr 1 (List.map Ze r)),(.cells [(.d (Ze m1_0)),(.d (Ze m1_1)),(.d (D.list t0 (List.map Zau m1_2))),(.d (D.list t1 (List.map ZI m1_3))),(.d (D.list t2 (List.map Zs m1_4))),(.d (D.list t3 (List.map ZA m1_5)))])])
  | (.inr (.inr r))=>(.exit 0,[.bad],[(.arr 1 (List.map Ze r)),(.cells [(.d (Ze m1_0)),(.d (Ze m1_1)),(.d (D.list t0 (List.map Zau m1_2))),(.d (D.list t1 (List.map ZI m1_3))),(.d (D.list t2 (List.map Zs m1_4))),(.d (D.list t3 (List.map ZA m1_5)))])])
theorem ZdE {t0:Bool} {t1:Bool} {t2:Bool} {t3:Bool} {b:Int} {c:Int} {m1_0:Int} {m1_1:Int} {m1_2:(List Zal)} {m1_3:(List Zr)} {m1_4:(List Zk)} {m1_5:(List Zu)}:∀(s0:Int×Int×(List Int)) (r:((List Int)⊕((List Int)⊕(List Int)))),lp (ZR b c (fun z0 z1=>Zw z0 z1 m1_4)) s0=some r→lpW ctx 2 [0,1,2,3,9,10] [8] Zub [(.sl 0 1),(.d (Ze b)),(.d (Ze c)),(.fn 121 [(.ptr 1 0)]),(.d (Ze s0.1)),(.d (Ze s0.2.1))] [(.arr 1 (List.map Ze s0.2.2)),(.cells [(.d (Ze m1_0)),(.d (Ze m1_1)),(.d (D.list t0 (List.map Zau m1_2))),(.d (D.list t1 (List.map ZI m1_3))),(.d (D.list t2 (List.map Zs m1_4))),(.d (D.list t3 (List.map ZA m1_5)))])]=some ((ZbQ t0 t1 t2 t3 b c m1_0 m1_1 m1_2 m1_3 m1_4 m1_5) r):=by
 refine Zbc (ZbQ t0 t1 t2 t3 b c m1_0 m1_1 m1_2 m1_3 m1_4 m1_5) ?_
 intro s0 rcl ih
 show Z6 _ _ (lpW _ _ _ _ _ _ _)
 unfold ZR
 rw[Zbd]
 conv=>arg 3; whnf
 refine Zg rfl ?_ ?_
 ·conv=>arg 3; whnf
  refine Zc _ (ZdC _) fun r5 hr5=>?_
  conv=>arg 3; whnf
  refine Zg rfl ?_ ?_
  ·conv=>arg 3; whnf
   exact Zh rfl
  ·conv=>arg 3; whnf
   refine Zg rfl ?_ ?_
   ·conv=>arg 3; whnf
    exact Zh rfl
   ·conv=>arg 3; whnf
    refine Zj rfl rfl fun x6 hx6=>?_
    conv=>arg 3; whnf
    refine Zf (Zl rfl hx6) ?_
    conv=>arg 3; whnf
    refine Zj rfl rfl fun x7 hx7=>?_
    conv=>arg 3; whnf
    refine Zf (Zl rfl hx7) ?_
    conv=>arg 3; whnf
    refine Zf (ZaF rfl hx7) ?_
    conv=>arg 3; whnf
    refine Zf (Zl rfl hx7) ?_
    conv=>arg 3; whnf
    refine Zo (Z4 Ze s0.2.2 r5.toNat x6) ?_
    conv=>arg 3; whnf
    refine Zj rfl rfl fun x8 hx8=>?_
    conv=>arg 3; whnf
    refine Zf (Zl rfl hx8) ?_
    conv=>arg 3; whnf
    refine Zo (Z4 Ze (List.set s0.2.2 r5.toNat x6) (w64 (r5-1)).toNat x7) ?_
    conv=>arg 3; whnf
    refine Zg rfl ?_ ?_
    ·conv=>arg 3; whnf
     refine Zc _ (Zdz _) fun r14 hr14=>?_
     conv=>arg 3; whnf
     refine Zg rfl ?_ ?_
     ·conv=>arg 3; whnf
      refine Zc _ (ZbM _) fun r20 hr20=>?_
      conv=>arg 3; whnf
      exact Zd (ih _)
     ·conv=>arg 3; whnf
      exact Zd (ih _)
    ·conv=>arg 3; whnf
     refine Zg rfl ?_ ?_
     ·conv=>arg 3; whnf
      refine Zc _ (ZbM _) fun r26 hr26=>?_
      conv=>arg 3; whnf
      exact Zd (ih _)
     ·conv=>arg 3; whnf
      exact Zd (ih _)
 ·conv=>arg 3; whnf
  exact Zh rfl
theorem Zb1 {t0:Bool} {t1:Bool} {t2:Bool} {t3:Bool} {b:Int} {c:Int} {m0_0:(List Int)} {m1_0:Int} {m1_1:Int} {m1_2:(List Zal)} {m1_3:(List Zr)} {m1_4:(List Zk)} {m1_5:(List Zu)}:∀r,(ZP b c (fun z0 z1=>Zw z0 z1 m1_4) m0_0)=some r→evW ctx 147 [(.sl 0 1),(.d (Ze b)),(.d (Ze c)),(.fn 121 [(.ptr 1 0)])] [(.arr 1 (List.map Ze m0_0)),(.cells [(.d (Ze m1_0)),(.d (Ze m1_1)),(.d (D.list t0 (List.map Zau m1_2))),(.d (D.list t1 (List.map ZI m1_3))),(.d (D.list t2 (List.map Zs m1_4))),(.d (D.list t3 (List.map ZA m1_5)))])]=some ((Zb5 t0 t1 t2 t3 b c m0_0 m1_0 m1_1 m1_2 m1_3 m1_4 m1_5) r):=by
 show Z6 _ (fun r rhs=>rhs=some ((Zb5 t0 t1 t2 t3 b c m0_0 m1_0 m1_1 m1_2 m1_3 m1_4 m1_5) r)) _
 unfold ZP
 rw[Zeh ctx 147 Zwh _ _ rfl rfl]
 conv=>arg 3; whnf
 refine Zc _ (ZdE _) fun r27 hr27=>?_
 clear hr27
 rcases r27 with r27 | (r27 | r27)
 ·conv=>arg 3; whnf
  exact Zh rfl
 ·conv=>arg 3; whnf
  exact Zh rfl
 ·conv=>arg 3; whnf
  exact Zh rfl
def Zc3 (t0:Bool) (t1:Bool) (t2:Bool) (t3:Bool) (b:Int) (c:Int) (d:Int) (m0_0:(List Int)) (m1_0:Int) (m1_1:Int) (m1_2:(List Zal)) (m1_3:(List Zr)) (m1_4:(List Zk)) (m1_5:(List Zu)):((Int×(List Int))⊕(Int×(List Int)))→V×Zn
  | (.inl r)=>((.d (D.tup [(Ze r.1),(D.bool true)])),[(.arr 1 (List.map Ze r.2)),(.cells [(.d (Ze m1_0)),(.d (Ze m1_1)),(.d (D.list t0 (List.map Zau m1_2))),(.d (D.list t1 (List.map ZI m1_3))),(.d (D.list t2 (List.map Zs m1_4))),(.d (D.list t3 (List.map ZA m1_5)))])])
  | (.inr r)=>((.d (D.tup [(Ze r.1),(D.bool false)])),[(.arr 1 (List.map Ze r.2)),(.cells [(.d (Ze m1_0)),(.d (Ze m1_1)),(.d (D.list t0 (List.map Zau m1_2))),(.d (D.list t1 (List.map ZI m1_3))),(.d (D.list t2 (List.map Zs m1_4))),(.d (D.list t3 (List.map ZA m1_5)))])])
def ZcL (t0:Bool) (t1:Bool) (t2:Bool) (t3:Bool) (b:Int) (c:Int) (d:Int) (m0_0:(List Int)) (m1_0:Int) (m1_1:Int) (m1_2:(List Zal)) (m1_3:(List Zr)) (m1_4:(List Zk)) (m1_5:(List Zu)) (x0:Int) (x1:Int):Int→Ex×List V×Zn
  | r=>(.exit 0,[(.sl 0 1),(.d (Ze b)),(.fn 121 [(.ptr 1 0)]),(.d (Ze r)),(.d (Ze (w64 (c-1))))],[(.arr 1 (List.map Ze (List.set (List.set m0_0 b.toNat x0) d.toNat x1))),(.cells [(.d (Ze m1_0)),(.d (Ze m1_1)),(.d (D.list t0 (List.map Zau m1_2))),(.d (D.list t1 (List.map ZI m1_3))),(.d (D.list t2 (List.map Zs m1_4))),(.d (D.list t3 (List.map ZA m1_5)))])])
theorem ZeQ {t0:Bool} {t1:Bool} {t2:Bool} {t3:Bool} {b:Int} {c:Int} {d:Int} {m0_0:(List Int)} {m1_0:Int} {m1_1:Int} {m1_2:(List Zal)} {m1_3:(List Zr)} {m1_4:(List Zk)} {m1_5:(List Zu)} {x0:Int} {x1:Int}:∀(s3:Int) (r:Int),lp (ZaB b c d m0_0 (fun z0 z1=>Zw z0 z1 m1_4) x0 x1) s3=some r→lpW ctx 2 [0,1,4,12,13] [0,1,4,12,13] Zuq [(.sl 0 1),(.d (Ze b)),(.fn 121 [(.ptr 1 0)]),(.d (Ze s3)),(.d (Ze (w64 (c-1))))] [(.arr 1 (List.map Ze (List.set (List.set m0_0 b.toNat x0) d.toNat x1))),(.cells [(.d (Ze m1_0)),(.d (Ze m1_1)),(.d (D.list t0 (List.map Zau m1_2))),(.d (D.list t1 (List.map ZI m1_3))),(.d (D.list t2 (List.map Zs m1_4))),(.d (D.list t3 (List.map ZA m1_5)))])]=some ((ZcL t0 t1 t2 t3 b c d m0_0 m1_0 m1_1 m1_2 m1_3 m1_4 m1_5 x0 x1) r):=by
 refine Zbc (ZcL t0 t1 t2 t3 b c d m0_0 m1_0 m1_1 m1_2 m1_3 m1_4 m1_5 x0 x1) ?_
 intro s3 rcl ih
 show Z6 _ _ (lpW _ _ _ _ _ _ _)
 unfold ZaB
 rw[Zbd]
 conv=>arg 3; whnf
 refine Zg rfl ?_ ?_
 ·conv=>arg 3; whnf
  refine Zj rfl rfl fun x4 hx4=>?_
  conv=>arg 3; whnf
  refine Zf (Zl rfl hx4) ?_
  conv=>arg 3; whnf
  refine Zj rfl rfl fun x5 hx5=>?_
  conv=>arg 3; whnf
  refine Zf (Zl rfl hx5) ?_
  conv=>arg 3; whnf
  refine Zp _ ZN rfl fun x6 hx6=>?_
  conv=>arg 3; whnf
  refine Zg rfl ?_ ?_
  ·conv=>arg 3; whnf
   exact Zd (ih _)
  ·conv=>arg 3; whnf
   exact Zh rfl
 ·conv=>arg 3; whnf
  exact Zh rfl
def ZcH (t0:Bool) (t1:Bool) (t2:Bool) (t3:Bool) (b:Int) (d:Int) (m0_0:(List Int)) (m1_0:Int) (m1_1:Int) (m1_2:(List Zal)) (m1_3:(List Zr)) (m1_4:(List Zk)) (m1_5:(List Zu)) (x0:Int) (x1:Int) (r7:Int):Int→Ex×List V×Zn
  | r=>(.exit 2,[(.sl 0 1),(.d (Ze b)),(.fn 121 [(.ptr 1 0)]),(.d (Ze r7)),(.d (Ze r))],[(.arr 1 (List.map Ze (List.set (List.set m0_0 b.toNat x0) d.toNat x1))),(.cells [(.d (Ze m1_0)),(.d (Ze m1_1)),(.d (D.list t0 (List.map Zau m1_2))),(.d (D.list t1 (List.map ZI m1_3))),(.d (D.list t2 (List.map Zs m1_4))),(.d (D.list t3 (List.map ZA m1_5)))])])
theorem ZeP {t0:Bool} {t1:Bool} {t2:Bool} {t3:Bool} {b:Int} {d:Int} {m0_0:(List Int)} {m1_0:Int} {m1_1:Int} {m1_2:(List Zal)} {m1_3:(List Zr)} {m1_4:(List Zk)} {m1_5:(List Zu)} {x0:Int} {x1:Int} {r7:Int}:∀(s8:Int) (r:Int),lp (Zaz b d m0_0 (fun z0 z1=>Zw z0 z1 m1_4) x0 x1 r7) s8=some r→lpW ctx 2 [0,1,4,12,13] [0,1,4,12,13] Ztn [(.sl 0 1),(.d (Ze b)),(.fn 121 [(.ptr 1 0)]),(.d (Ze r7)),(.d (Ze s8))] [(.arr 1 (List.map Ze (List.set (List.set m0_0 b.toNat x0) d.toNat x1))),(.cells [(.d (Ze m1_0)),(.d (Ze m1_1)),(.d (D.list t0 (List.map Zau m1_2))),(.d (D.list t1 (List.map ZI m1_3))),(.d (D.list t2 (List.map Zs m1_4))),(.d (D.list t3 (List.map ZA m1_5)))])]=some ((ZcH t0 t1 t2 t3 b d m0_0 m1_0 m1_1 m1_2 m1_3 m1_4 m1_5 x0 x1 r7) r):=by
 refine Zbc (ZcH t0 t1 t2 t3 b d m0_0 m1_0 m1_1 m1_2 m1_3 m1_4 m1_5 x0 x1 r7) ?_
 intro s8 rcl ih
 show Z6 _ _ (lpW _ _ _ _ _ _ _)
 unfold Zaz
 rw[Zbd]
 conv=>arg 3; whnf
 refine Zg rfl ?_ ?_
 ·conv=>arg 3; whnf
  refine Zj rfl rfl fun x9 hx9=>?_
  conv=>arg 3; whnf
  refine Zf (Zl rfl hx9) ?_
  conv=>arg 3; whnf
  refine Zj rfl rfl fun x10 hx10=>?_
  conv=>arg 3; whnf
  refine Zf (Zl rfl hx10) ?_
  conv=>arg 3; whnf
  refine Zp _ ZN rfl fun x11 hx11=>?_
  conv=>arg 3; whnf
  refine Zg rfl ?_ ?_
  ·conv=>arg 3; whnf
   exact Zh rfl
  ·conv=>arg 3; whnf
   exact Zd (ih _)
 ·conv=>arg 3; whnf
  exact Zh rfl
def ZcE (t0:Bool) (t1:Bool) (t2:Bool) (t3:Bool) (b:Int) (m1_0:Int) (m1_1:Int) (m1_2:(List Zal)) (m1_3:(List Zr)) (m1_4:(List Zk)) (m1_5:(List Zu)) (s19:Int×Int×(List Int)):Int→Ex×List V×Zn
  | r=>(.exit 6,[(.sl 0 1),(.d (Ze b)),(.fn 121 [(.ptr 1 0)]),(.d (Ze r)),(.d (Ze s19.2.1))],[(.arr 1 (List.map Ze s19.2.2)),(.cells [(.d (Ze m1_0)),(.d (Ze m1_1)),(.d (D.list t0 (List.map Zau m1_2))),(.d (D.list t1 (List.map ZI m1_3))),(.d (D.list t2 (List.map Zs m1_4))),(.d (D.list t3 (List.map ZA m1_5)))])])
theorem ZeS {t0:Bool} {t1:Bool} {t2:Bool} {t3:Bool} {b:Int} {m1_0:Int} {m1_1:Int} {m1_2:(List Zal)} {m1_3:(List Zr)} {m1_4:(List Zk)} {m1_5:(List Zu)} {s19:Int×Int×(List Int)}:∀(s20:Int) (r:Int),lp (ZaC b (fun z0 z1=>Zw z0 z1 m1_4) s19) s20=some r→lpW ctx 2 [0,1,4,12,13] [0,1,4,12,13] ZtK [(.sl 0 1),(.d (Ze b)),(.fn 121 [(.ptr 1 0)]),(.d (Ze s20)),(.d (Ze s19.2.1))] [(.arr 1 (List.map Ze s19.2.2)),(.cells [(.d (Ze m1_0)),(.d (Ze m1_1)),(.d (D.list t0 (List.map Zau m1_2))),(.d (D.list t1 (List.map ZI m1_3))),(.d (D.list t2 (List.map Zs m1_4))),(.d (D.list t3 (List.map ZA m1_5)))])]=some ((ZcE t0 t1 t2 t3 b m1_0 m1_1 m1_2 m1_3 m1_4 m1_5 s19) r):=by
 refine Zbc (ZcE t0 t1 t2 t3 b m1_0 m1_1 m1_2 m1_3 m1_4 m1_5 s19) ?_
 intro s20 rcl ih
 show Z6 _ _ (lpW _ _ _ _ _ _ _)
 unfold ZaC
 rw[Zbd]
 conv=>arg 3; whnf
 refine Zg rfl ?_ ?_
 ·conv=>arg 3; whnf
  refine Zj rfl rfl fun x21 hx21=>?_
  conv=>arg 3; whnf
  refine Zf (Zl rfl hx21) ?_
  conv=>arg 3; whnf
  refine Zj rfl rfl fun x22 hx22=>?_
  conv=>arg 3; whnf
  refine Zf (Zl rfl hx22) ?_
  conv=>arg 3; whnf
  refine Zp _ ZN rfl fun x23 hx23=>?_
  conv=>arg 3; whnf
  refine Zg rfl ?_ ?_
  ·conv=>arg 3; whnf
   exact Zd (ih _)
  ·conv=>arg 3; whnf
   exact Zh rfl
 ·conv=>arg 3; whnf
  exact Zh rfl
def ZcI (t0:Bool) (t1:Bool) (t2:Bool) (t3:Bool) (b:Int) (m1_0:Int) (m1_1:Int) (m1_2:(List Zal)) (m1_3:(List Zr)) (m1_4:(List Zk)) (m1_5:(List Zu)) (s19:Int×Int×(List Int)) (r24:Int):Int→Ex×List V×Zn
  | r=>(.exit 8,[(.sl 0 1),(.d (Ze b)),(.fn 121 [(.ptr 1 0)]),(.d (Ze r24)),(.d (Ze r))],[(.arr 1 (List.map Ze s19.2.2)),(.cells [(.d (Ze m1_0)),(.d (Ze m1_1)),(.d (D.list t0 (List.map Zau m1_2))),(.d (D.list t1 (List.map ZI m1_3))),(.d (D.list t2 (List.map Zs m1_4))),(.d (D.list t3 (List.map ZA m1_5)))])])
theorem ZeM {t0:Bool} {t1:Bool} {t2:Bool} {t3:Bool} {b:Int} {m1_0:Int} {m1_1:Int} {m1_2:(List Zal)} {m1_3:(List Zr)} {m1_4:(List Zk)} {m1_5:(List Zu)} {s19:Int×Int×(List Int)} {r24:Int}:∀(s25:Int) (r:Int),lp (Zay b (fun z0 z1=>Zw z0 z1 m1_4) s19 r24) s25=some r→lpW ctx 2 [0,1,4,12,13] [0,1,4,12,13] Zuv [(.sl 0 1),(.d (Ze b)),(.fn 121 [(.ptr 1 0)]),(.d (Ze r24)),(.d (Ze s25))] [(.arr 1 (List.map Ze s19.2.2)),(.cells [(.d (Ze m1_0)),(.d (Ze m1_1)),(.d (D.list t0 (List.map Zau m1_2))),(.d (D.list t1 (List.map ZI m1_3))),(.d (D.list t2 (List.map Zs m1_4))),(.d (D.list t3 (List.map ZA m1_5)))])]=some ((ZcI t0 t1 t2 t3 b m1_0 m1_1 m1_2 m1_3 m1_4 m1_5 s19 r24) r):=by
 refine Zbc (ZcI t0 t1 t2 t3 b m1_0 m1_1 m1_2 m1_3 m1_4 m1_5 s19 r24) ?_
 intro s25 rcl ih
 show Z6 _ _ (lpW _ _ _ _ _ _ _)
 unfold Zay
 rw[Zbd]
 conv=>arg 3; whnf
 refine Zg rfl ?_ ?_
 ·conv=>arg 3; whnf
  refine Zj rfl rfl fun x26 hx26=>?_
  conv=>arg 3; whnf
  refine Zf (Zl rfl hx26) ?_
  conv=>arg 3; whnf
  refine Zj rfl rfl fun x27 hx27=>?_
  conv=>arg 3; whnf
  refine Zf (Zl rfl hx27) ?_
  conv=>arg 3; whnf
  refine Zp _ ZN rfl fun x28 hx28=>?_
  conv=>arg 3; whnf
  refine Zg rfl ?_ ?_
  ·conv=>arg 3; whnf
   exact Zh rfl
  ·conv=>arg 3; whnf
   exact Zd (ih _)
 ·conv=>arg 3; whnf
  exact Zh rfl
def ZcG (t0:Bool) (t1:Bool) (t2:Bool) (t3:Bool) (b:Int) (m1_0:Int) (m1_1:Int) (m1_2:(List Zal)) (m1_3:(List Zr)) (m1_4:(List Zk)) (m1_5:(List Zu)):(Int×(List Int))→Ex×List V×Zn
  | r=>(.exit 4,[(.sl 0 1),(.d (Ze b)),(.d (Ze r.1))],[(.arr 1 (List.map Ze r.2)),(.cells [(.d (Ze m1_0)),(.d (Ze m1_1)),(.d (D.list t0 (List.map Zau m1_2))),(.d (D.list t1 (List.map ZI m1_3))),(.d (D.list t2 (List.map Zs m1_4))),(.d (D.list t3 (List.map ZA m1_5)))])])
theorem ZeR {t0:Bool} {t1:Bool} {t2:Bool} {t3:Bool} {b:Int} {m1_0:Int} {m1_1:Int} {m1_2:(List Zal)} {m1_3:(List Zr)} {m1_4:(List Zk)} {m1_5:(List Zu)}:∀(s19:Int×Int×(List Int)) (r:(Int×(List Int))),lp (Za0 b (fun z0 z1=>Zw z0 z1 m1_4)) s19=some r→lpW ctx 2 [0,1,4,12,13] [0,1,13] ZtQ [(.sl 0 1),(.d (Ze b)),(.fn 121 [(.ptr 1 0)]),(.d (Ze s19.1)),(.d (Ze s19.2.1))] [(.arr 1 (List.map Ze s19.2.2)),(.cells [(.d (Ze m1_0)),(.d (Ze m1_1)),(.d (D.list t0 (List.map Zau m1_2))),(.d (D.list t1 (List.map ZI m1_3))),(.d (D.list t2 (List.map Zs m1_4))),(.d (D.list t3 (List.map ZA m1_5)))])]=some ((ZcG t0 t1 t2 t3 b m1_0 m1_1 m1_2 m1_3 m1_4 m1_5) r):=by
 refine Zbc (ZcG t0 t1 t2 t3 b m1_0 m1_1 m1_2 m1_3 m1_4 m1_5) ?_
 intro s19 rcl ih
 show Z6 _ _ (lpW _ _ _ _ _ _ _)
 unfold Za0
 rw[Zbd]
 conv=>arg 3; whnf
 refine Zc _ (ZeS _) fun r24 hr24=>?_
 conv=>arg 3; whnf
 refine Zc _ (ZeM _) fun r29 hr29=>?_
 conv=>arg 3; whnf
 refine Zg rfl ?_ ?_
 ·conv=>arg 3; whnf
  exact Zh rfl
 ·conv=>arg 3; whnf
  refine Zj rfl rfl fun x30 hx30=>?_
  conv=>arg 3; whnf
  refine Zf (Zl rfl hx30) ?_
  conv=>arg 3; whnf
  refine Zj rfl rfl fun x31 hx31=>?_
  conv=>arg 3; whnf
  refine Zf (Zl rfl hx31) ?_
  conv=>arg 3; whnf
  refine Zf (ZaF rfl hx31) ?_
  conv=>arg 3; whnf
  refine Zf (Zl rfl hx31) ?_
  conv=>arg 3; whnf
  refine Zo (Z4 Ze s19.2.2 r24.toNat x30) ?_
  conv=>arg 3; whnf
  refine Zj rfl rfl fun x32 hx32=>?_
  conv=>arg 3; whnf
  refine Zf (Zl rfl hx32) ?_
  conv=>arg 3; whnf
  refine Zo (Z4 Ze (List.set s19.2.2 r24.toNat x30) r29.toNat x31) ?_
  conv=>arg 3; whnf
  exact Zd (ih _)
theorem Zm {t0:Bool} {t1:Bool} {t2:Bool} {t3:Bool} {b:Int} {c:Int} {d:Int} {m0_0:(List Int)} {m1_0:Int} {m1_1:Int} {m1_2:(List Zal)} {m1_3:(List Zr)} {m1_4:(List Zk)} {m1_5:(List Zu)}:∀r,(Zq b c d (fun z0 z1=>Zw z0 z1 m1_4) m0_0)=some r→evW ctx 149 [(.sl 0 1),(.d (Ze b)),(.d (Ze c)),(.d (Ze d)),(.fn 121 [(.ptr 1 0)])] [(.arr 1 (List.map Ze m0_0)),(.cells [(.d (Ze m1_0)),(.d (Ze m1_1)),(.d (D.list t0 (List.map Zau m1_2))),(.d (D.list t1 (List.map ZI m1_3))),(.d (D.list t2 (List.map Zs m1_4))),(.d (D.list t3 (List.map ZA m1_5)))])]=some ((Zc3 t0 t1 t2 t3 b c d m0_0 m1_0 m1_1 m1_2 m1_3 m1_4 m1_5) r):=by
 show Z6 _ (fun r rhs=>rhs=some ((Zc3 t0 t1 t2 t3 b c d m0_0 m1_0 m1_1 m1_2 m1_3 m1_4 m1_5) r)) _
 unfold Zq
 rw[Zeh ctx 149 Zxr _ _ rfl rfl]
 conv=>arg 3; whnf
 refine Zj rfl rfl fun x0 hx0=>?_
 conv=>arg 3; whnf
 refine Zf (Zl rfl hx0) ?_
 conv=>arg 3; whnf
 refine Zj rfl rfl fun x1 hx1=>?_
 conv=>arg 3; whnf
 refine Zf (Zl rfl hx1) ?_
 conv=>arg 3; whnf
 refine Zf (ZaF rfl hx1) ?_
 conv=>arg 3; whnf
 refine Zf (Zl rfl hx1) ?_
 conv=>arg 3; whnf
 refine Zo (Z4 Ze m0_0 b.toNat x0) ?_
 conv=>arg 3; whnf
 refine Zj rfl rfl fun x2 hx2=>?_
 conv=>arg 3; whnf
 refine Zf (Zl rfl hx2) ?_
 conv=>arg 3; whnf
 refine Zo (Z4 Ze (List.set m0_0 b.toNat x0) d.toNat x1) ?_
 conv=>arg 3; whnf
 refine Zc _ (ZeQ _) fun r7 hr7=>?_
 conv=>arg 3; whnf
 refine Zc _ (ZeP _) fun r12 hr12=>?_
 conv=>arg 3; whnf
 refine Zg rfl ?_ ?_
 ·conv=>arg 3; whnf
  refine Zj rfl rfl fun x13 hx13=>?_
  conv=>arg 3; whnf
  refine Zf (Zl rfl hx13) ?_
  conv=>arg 3; whnf
  refine Zj rfl rfl fun x14 hx14=>?_
  conv=>arg 3; whnf
  refine Zf (Zl rfl hx14) ?_
  conv=>arg 3; whnf
  refine Zf (ZaF rfl hx14) ?_
  conv=>arg 3; whnf
  refine Zf (Zl rfl hx14) ?_
  conv=>arg 3; whnf
  refine Zo (Z4 Ze (List.set (List.set m0_0 b.toNat x0) d.toNat x1) r12.toNat x13) ?_
  conv=>arg 3; whnf
  refine Zj rfl rfl fun x15 hx15=>?_
  conv=>arg 3; whnf
  refine Zf (Zl rfl hx15) ?_
  conv=>arg 3; whnf
  refine Zo (Z4 Ze (List.set (List.set (List.set m0_0 b.toNat x0) d.toNat x1) r12.toNat x13) b.toNat x14) ?_
  conv=>arg 3; whnf
  exact Zh rfl
 ·conv=>arg 3; whnf
  refine Zj rfl rfl fun x16 hx16=>?_
  conv=>arg 3; whnf
  refine Zf (Zl rfl hx16) ?_
  conv=>arg 3; whnf
  refine Zj rfl rfl fun x17 hx17=>?_
  conv=>arg 3; whnf
  refine Zf (Zl rfl hx17) ?_
  conv=>arg 3; whnf
  refine Zf (ZaF rfl hx17) ?_
  conv=>arg 3; whnf
  refine Zf (Zl rfl hx17) ?_
  conv=>arg 3; whnf
  refine Zo (Z4 Ze (List.set (List.set m0_0 b.toNat x0) d.toNat x1) r7.toNat x16) ?_
  conv=>arg 3; whnf
  refine Zj rfl rfl fun x18 hx18=>?_
  conv=>arg 3; whnf
  refine Zf (Zl rfl hx18) ?_
  conv=>arg 3; whnf
  refine Zo (Z4 Ze (List.set (List.set (List.set m0_0 b.toNat x0) d.toNat x1) r7.toNat x16) r12.toNat x17) ?_
  conv=>arg 3; whnf
  refine Zc _ (ZeR _) fun r33 hr33=>?_
  conv=>arg 3; whnf
  refine Zj rfl rfl fun x34 hx34=>?_
  conv=>arg 3; whnf
  refine Zf (Zl rfl hx34) ?_
  conv=>arg 3; whnf
  refine Zj rfl rfl fun x35 hx35=>?_
  conv=>arg 3; whnf
  refine Zf (Zl rfl hx35) ?_
  conv=>arg 3; whnf
  refine Zf (ZaF rfl hx35) ?_
  conv=>arg 3; whnf
  refine Zf (Zl rfl hx35) ?_
  conv=>arg 3; whnf
  refine Zo (Z4 Ze r33.2 r33.1.toNat x34) ?_
  conv=>arg 3; whnf
  refine Zj rfl rfl fun x36 hx36=>?_
  conv=>arg 3; whnf
  refine Zf (Zl rfl hx36) ?_
  conv=>arg 3; whnf
  refine Zo (Z4 Ze (List.set r33.2 r33.1.toNat x34) b.toNat x35) ?_
  conv=>arg 3; whnf
  exact Zh rfl
def Zct (t0:Bool) (t1:Bool) (t2:Bool) (t3:Bool) (b:Int) (c:Int) (d:Int) (m0_0:(List Int)) (m1_0:Int) (m1_1:Int) (m1_2:(List Zal)) (m1_3:(List Zr)) (m1_4:(List Zk)) (m1_5:(List Zu)):(Int×(List Int))→V×Zn
  | r=>((.d (Ze r.1)),[(.arr 1 (List.map Ze r.2)),(.cells [(.d (Ze m1_0)),(.d (Ze m1_1)),(.d (D.list t0 (List.map Zau m1_2))),(.d (D.list t1 (List.map ZI m1_3))),(.d (D.list t2 (List.map Zs m1_4))),(.d (D.list t3 (List.map ZA m1_5)))])])
def Zcf (t0:Bool) (t1:Bool) (t2:Bool) (t3:Bool) (b:Int) (m1_0:Int) (m1_1:Int) (m1_2:(List Zal)) (m1_3:(List Zr)) (m1_4:(List Zk)) (m1_5:(List Zu)) (s3:Int×Int×(List Int)):Int→Ex×List V×Zn
  | r=>(.exit 2,[(.sl 0 1),(.d (Ze b)),(.fn 121 [(.ptr 1 0)]),(.d (Ze r)),(.d (Ze s3.2.1))],[(.arr 1 (List.map Ze s3.2.2)),(.cells [(.d (Ze m1_0)),(.d (Ze m1_1)),(.d (D.list t0 (List.map Zau m1_2))),(.d (D.list t1 (List.map ZI m1_3))),(.d (D.list t2 (List.map Zs m1_4))),(.d (D.list t3 (List.map ZA m1_5)))])])
theorem ZdY {t0:Bool} {t1:Bool} {t2:Bool} {t3:Bool} {b:Int} {m1_0:Int} {m1_1:Int} {m1_2:(List Zal)} {m1_3:(List Zr)} {m1_4:(List Zk)} {m1_5:(List Zu)} {s3:Int×Int×(List Int)}:∀(s4:Int) (r:Int),lp (Zae b (fun z0 z1=>Zw z0 z1 m1_4) s3) s4=some r→lpW ctx 2 [0,1,4,11,12] [0,1,4,11,12] Zt9 [(.sl 0 1),(.d (Ze b)),(.fn 121 [(.ptr 1 0)]),(.d (Ze s4)),(.d (Ze s3.2.1))] [(.arr 1 (List.map Ze s3.2.2)),(.cells [(.d (Ze m1_0)),(.d (Ze m1_1)),(.d (D.list t0 (List.map Zau m1_2))),(.d (D.list t1 (List.map ZI m1_3))),(.d (D.list t2 (List.map Zs m1_4))),(.d (D.list t3 (List.map ZA m1_5)))])]=some ((Zcf t0 t1 t2 t3 b m1_0 m1_1 m1_2 m1_3 m1_4 m1_5 s3) r):=by
 refine Zbc (Zcf t0 t1 t2 t3 b m1_0 m1_1 m1_2 m1_3 m1_4 m1_5 s3) ?_
 intro s4 rcl ih
 show Z6 _ _ (lpW _ _ _ _ _ _ _)
 unfold Zae
 rw[Zbd]
 conv=>arg 3; whnf
 refine Zg rfl ?_ ?_
 ·conv=>arg 3; whnf
  refine Zj rfl rfl fun x5 hx5=>?_
  conv=>arg 3; whnf
  refine Zf (Zl rfl hx5) ?_
  conv=>arg 3; whnf
  refine Zj rfl rfl fun x6 hx6=>?_
  conv=>arg 3; whnf
  refine Zf (Zl rfl hx6) ?_
  conv=>arg 3; whnf
  refine Zp _ ZN rfl fun x7 hx7=>?_
  conv=>arg 3; whnf
  refine Zg rfl ?_ ?_
  ·conv=>arg 3; whnf
   exact Zh rfl
  ·conv=>arg 3; whnf
   exact Zd (ih _)
 ·conv=>arg 3; whnf
  exact Zh rfl
def Zcg (t0:Bool) (t1:Bool) (t2:Bool) (t3:Bool) (b:Int) (m1_0:Int) (m1_1:Int) (m1_2:(List Zal)) (m1_3:(List Zr)) (m1_4:(List Zk)) (m1_5:(List Zu)) (s3:Int×Int×(List Int)) (r8:Int):Int→Ex×List V×Zn
  | r=>(.exit 4,[(.sl 0 1),(.d (Ze b)),(.fn 121 [(.ptr 1 0)]),(.d (Ze r8)),(.d (Ze r))],[(.arr 1 (List.map Ze s3.2.2)),(.cells [(.d (Ze m1_0)),(.d (Ze m1_1)),(.d (D.list t0 (List.map Zau m1_2))),(.d (D.list t1 (List.map ZI m1_3))),(.d (D.list t2 (List.map Zs m1_4))),(.d (D.list t3 (List.map ZA m1_5)))])])
theorem Zea {t0:Bool} {t1:Bool} {t2:Bool} {t3:Bool} {b:Int} {m1_0:Int} {m1_1:Int} {m1_2:(List Zal)} {m1_3:(List Zr)} {m1_4:(List Zk)} {m1_5:(List Zu)} {s3:Int×Int×(List Int)} {r8:Int}:∀(s9:Int) (r:Int),lp (Zaf b (fun z0 z1=>Zw z0 z1 m1_4) s3 r8) s9=some r→lpW ctx 2 [0,1,4,11,12] [0,1,4,11,12] ZtF [(.sl 0 1),(.d (Ze b)),(.fn 121 [(.ptr 1 0)]),(.d (Ze r8)),(.d (Ze s9))] [(.arr 1 (List.map Ze s3.2.2)),(.cells [(.d (Ze m1_0)),(.d (Ze m1_1)),(.d (D.list t0 (List.map Zau m1_2))),(.d (D.list t1 (List.map ZI m1_3))),(.d (D.list t2 (List.map Zs m1_4))),(.d (D.list t3 (List.map ZA m1_5)))])]=some ((Zcg t0 t1 t2 t3 b m1_0 m1_1 m1_2 m1_3 m1_4 m1_5 s3 r8) r):=by
 refine Zbc (Zcg t0 t1 t2 t3 b m1_0 m1_1 m1_2 m1_3 m1_4 m1_5 s3 r8) ?_
 intro s9 rcl ih
 show Z6 _ _ (lpW _ _ _ _ _ _ _)
 unfold Zaf
 rw[Zbd]
 conv=>arg 3; whnf
 refine Zg rfl ?_ ?_
 ·conv=>arg 3; whnf
  refine Zj rfl rfl fun x10 hx10=>?_
  conv=>arg 3; whnf
  refine Zf (Zl rfl hx10) ?_
  conv=>arg 3; whnf
  refine Zj rfl rfl fun x11 hx11=>?_
  conv=>arg 3; whnf
  refine Zf (Zl rfl hx11) ?_
  conv=>arg 3; whnf
  refine Zp _ ZN rfl fun x12 hx12=>?_
  conv=>arg 3; whnf
  refine Zg rfl ?_ ?_
  ·conv=>arg 3; whnf
   exact Zd (ih _)
  ·conv=>arg 3; whnf
   exact Zh rfl
 ·conv=>arg 3; whnf
  exact Zh rfl
def Zce (t0:Bool) (t1:Bool) (t2:Bool) (t3:Bool) (b:Int) (m1_0:Int) (m1_1:Int) (m1_2:(List Zal)) (m1_3:(List Zr)) (m1_4:(List Zk)) (m1_5:(List Zu)):(Int×(List Int))→Ex×List V×Zn
  | r=>(.exit 0,[(.d (Ze r.1))],[(.arr 1 (List.map Ze r.2)),(.cells [(.d (Ze m1_0)),(.d (Ze m1_1)),(.d (D.list t0 (List.map Zau m1_2))),(.d (D.list t1 (List.map ZI m1_3))),(.d (D.list t2 (List.map Zs m1_4))),(.d (D.list t3 (List.map ZA m1_5)))])])
theorem Zd2 {t0:Bool} {t1:Bool} {t2:Bool} {t3:Bool} {b:Int} {m1_0:Int} {m1_1:Int} {m1_2:(List Zal)} {m1_3:(List Zr)} {m1_4:(List Zk)} {m1_5:(List Zu)}:∀(s3:Int×Int×(List Int)) (r:(Int×(List Int))),lp (Zar b (fun z0 z1=>Zw z0 z1 m1_4)) s3=some r→lpW ctx 2 [0,1,4,11,12] [11] Ztt [(.sl 0 1),(.d (Ze b)),(.fn 121 [(.ptr 1 0)]),(.d (Ze s3.1)),(.d (Ze s3.2.1))] [(.arr 1 (List.map Ze s3.2.2)),(.cells [(.d (Ze m1_0)),(.d (Ze m1_1)),(.d (D.list t0 (List.map Zau m1_2))),(.d (D.list t1 (List.map ZI m1_3))),(.d (D.list t2 (List.map Zs m1_4))),(.d (D.list t3 (List.map ZA m1_5)))])]=some ((Zce t0 t1 t2 t3 b m1_0 m1_1 m1_2 m1_3 m1_4 m1_5) r):=by
 refine Zbc (Zce t0 t1 t2 t3 b m1_0 m1_1 m1_2 m1_3 m1_4 m1_5) ?_
 intro s3 rcl ih
 show Z6 _ _ (lpW _ _ _ _ _ _ _)
 unfold Zar
 rw[Zbd]
 conv=>arg 3; whnf
 refine Zc _ (ZdY _) fun r8 hr8=>?_
 conv=>arg 3; whnf
 refine Zc _ (Zea _) fun r13 hr13=>?_
 conv=>arg 3; whnf
 refine Zg rfl ?_ ?_
 ·conv=>arg 3; whnf
  exact Zh rfl
 ·conv=>arg 3; whnf
  refine Zj rfl rfl fun x14 hx14=>?_
  conv=>arg 3; whnf
  refine Zf (Zl rfl hx14) ?_
  conv=>arg 3; whnf
  refine Zj rfl rfl fun x15 hx15=>?_
  conv=>arg 3; whnf
  refine Zf (Zl rfl hx15) ?_
  conv=>arg 3; whnf
  refine Zf (ZaF rfl hx15) ?_
  conv=>arg 3; whnf
  refine Zf (Zl rfl hx15) ?_
  conv=>arg 3; whnf
  refine Zo (Z4 Ze s3.2.2 r8.toNat x14) ?_
  conv=>arg 3; whnf
  refine Zj rfl rfl fun x16 hx16=>?_
  conv=>arg 3; whnf
  refine Zf (Zl rfl hx16) ?_
  conv=>arg 3; whnf
  refine Zo (Z4 Ze (List.set s3.2.2 r8.toNat x14) r13.toNat x15) ?_
  conv=>arg 3; whnf
  exact Zd (ih _)
theorem ZE {t0:Bool} {t1:Bool} {t2:Bool} {t3:Bool} {b:Int} {c:Int} {d:Int} {m0_0:(List Int)} {m1_0:Int} {m1_1:Int} {m1_2:(List Zal)} {m1_3:(List Zr)} {m1_4:(List Zk)} {m1_5:(List Zu)}:∀r,(ZC b c d (fun z0 z1=>Zw z0 z1 m1_4) m0_0)=some r→evW ctx 148 [(.sl 0 1),(.d (Ze b)),(.d (Ze c)),(.d (Ze d)),(.fn 121 [(.ptr 1 0)])] [(.arr 1 (List.map Ze m0_0)),(.cells [(.d (Ze m1_0)),(.d (Ze m1_1)),(.d (D.list t0 (List.map Zau m1_2))),(.d (D.list t1 (List.map ZI m1_3))),(.d (D.list t2 (List.map Zs m1_4))),(.d (D.list t3 (List.map ZA m1_5)))])]=some ((Zct t0 t1 t2 t3 b c d m0_0 m1_0 m1_1 m1_2 m1_3 m1_4 m1_5) r):=by
 show Z6 _ (fun r rhs=>rhs=some ((Zct t0 t1 t2 t3 b c d m0_0 m1_0 m1_1 m1_2 m1_3 m1_4 m1_5) r)) _
 unfold ZC
 rw[Zeh ctx 148 Zxp _ _ rfl rfl]
 conv=>arg 3; whnf
 refine Zj rfl rfl fun x0 hx0=>?_
 conv=>arg 3; whnf
 refine Zf (Zl rfl hx0) ?_
 conv=>arg 3; whnf
 refine Zj rfl rfl fun x1 hx1=>?_
 conv=>arg 3; whnf
 refine Zf (Zl rfl hx1) ?_
 conv=>arg 3; whnf
 refine Zf (ZaF rfl hx1) ?_
 conv=>arg 3; whnf
 refine Zf (Zl rfl hx1) ?_
 conv=>arg 3; whnf
 refine Zo (Z4 Ze m0_0 b.toNat x0) ?_
 conv=>arg 3; whnf
 refine Zj rfl rfl fun x2 hx2=>?_
 conv=>arg 3; whnf
 refine Zf (Zl rfl hx2) ?_
 conv=>arg 3; whnf
 refine Zo (Z4 Ze (List.set m0_0 b.toNat x0) d.toNat x1) ?_
 conv=>arg 3; whnf
 refine Zc _ (Zd2 _) fun r17 hr17=>?_
 conv=>arg 3; whnf
 exact Zh rfl
def ZgV (r:Int):D:=(D.int .u64 r)
theorem ZgB {a:Int}:∀r,(Zcy a)=some r→evD ctx 162 [(.d (Ze a))]=some (ZgV r):=by
 show Z6 _ (fun r rhs=>rhs=some (ZgV r)) _
 unfold Zcy
 rw[ZcP ctx 162 ZxD _ rfl rfl]
 conv=>arg 3; whnf
 refine Zp _ Zhn rfl fun x0 hx0=>?_
 conv=>arg 3; whnf
 refine Zg rfl ?_ ?_
 ·exact ZbG
 ·conv=>arg 3; whnf
  exact Zh rfl
def Zg3 (m0_0:Int):Unit→V×Zn
  | r=>((.d (D.int .u64 (IntKind.u64.wrap (BitVec.ofInt IntKind.u64.bits (IntKind.u64.wrap (BitVec.ofInt IntKind.u64.bits (IntKind.u64.wrap (BitVec.ofInt IntKind.u64.bits m0_0 ^^^ BitVec.ofInt IntKind.u64.bits (IntKind.u64.wrap (m0_0*2 ^ 13))).toNat) ^^^ BitVec.ofInt IntKind.u64.bits (Int.fdiv (IntKind.u64.wrap (BitVec.ofInt IntKind.u64.bits m0_0 ^^^ BitVec.ofInt IntKind.u64.bits (IntKind.u64.wrap (m0_0*2 ^ 13))).toNat) (2 ^ 7))).toNat) ^^^ BitVec.ofInt IntKind.u64.bits (IntKind.u64.wrap ((IntKind.u64.wrap (BitVec.ofInt IntKind.u64.bits (IntKind.u64.wrap (BitVec.ofInt IntKind.u64.bits m0_0 ^^^ BitVec.ofInt IntKind.u64.bits (IntKind.u64.wrap (m0_0*2 ^ 13))).toNat) ^^^ BitVec.ofInt IntKind.u64.bits (Int.fdiv (IntKind.u64.wrap (BitVec.ofInt IntKind.u64.bits m0_0 ^^^ BitVec.ofInt IntKind.u64.bits (IntKind.u64.wrap (m0_0*2 ^ 13))).toNat) (2 ^ 7))).toNat)*2 ^ 17))).toNat))),[(.cells [(.d (D.int .u64 (IntKind.u64.wrap (BitVec.ofInt IntKind.u64.bits (IntKind.u64.wrap (BitVec.ofInt IntKind.u64.bits (IntKind.u64.wrap (BitVec.ofInt IntKind.u64.bits m0_0 ^^^ BitVec.ofInt IntKind.u64.bits (IntKind.u64.wrap (m0_0*2 ^ 13))).toNat) ^^^ BitVec.ofInt IntKind.u64.bits (Int.fdiv (IntKind.u64.wrap (BitVec.ofInt IntKind.u64.bits m0_0 ^^^ BitVec.ofInt IntKind.u64.bits (IntKind.u64.wrap (m0_0*2 ^ 13))).toNat) (2 ^ 7))).toNat) ^^^ BitVec.ofInt IntKind.u64.bits (IntKind.u64.wrap ((IntKind.u64.wrap (BitVec.ofInt IntKind.u64.bits (IntKind.u64.wrap (BitVec.ofInt IntKind.u64.bits m0_0 ^^^ BitVec.ofInt IntKind.u64.bits (IntKind.u64.wrap (m0_0*2 ^ 13))).toNat) ^^^ BitVec.ofInt IntKind.u64.bits (Int.fdiv (IntKind.u64.wrap (BitVec.ofInt IntKind.u64.bits m0_0 ^^^ BitVec.ofInt IntKind.u64.bits (IntKind.u64.wrap (m0_0*2 ^ 13))).toNat) (2 ^ 7))).toNat)*2 ^ 17))).toNat)))])])
theorem ZgY {m0_0:Int}:∀r,ZdB=some r→evW ctx 163 [(.ptr 0 0)] [(.cells [(.d (D.int .u64 m0_0))])]=some ((Zg3 m0_0) r):=by
 show Z6 _ (fun r rhs=>rhs=some ((Zg3 m0_0) r)) _
 unfold ZdB
 rw[Zeh ctx 163 ZxE _ _ rfl rfl]
 conv=>arg 3; whnf
 refine ZQ rfl ?_
 conv=>arg 3; whnf
 refine ZQ rfl ?_
 conv=>arg 3; whnf
 refine ZQ rfl ?_
 conv=>arg 3; whnf
 exact Zh rfl
def Zcx (t0:Bool) (t1:Bool) (t2:Bool) (t3:Bool) (b:Int) (c:Int) (m0_0:(List Int)) (m1_0:Int) (m1_1:Int) (m1_2:(List Zal)) (m1_3:(List Zr)) (m1_4:(List Zk)) (m1_5:(List Zu)):(List Int)→V×Zn
  | r=>((.d (D.tup [])),[(.arr 1 (List.map Ze r)),(.cells [(.d (Ze m1_0)),(.d (Ze m1_1)),(.d (D.list t0 (List.map Zau m1_2))),(.d (D.list t1 (List.map ZI m1_3))),(.d (D.list t2 (List.map Zs m1_4))),(.d (D.list t3 (List.map ZA m1_5)))])])
def Zci (t0:Bool) (t1:Bool) (t2:Bool) (t3:Bool) (b:Int) (c:Int) (m1_0:Int) (m1_1:Int) (m1_2:(List Zal)) (m1_3:(List Zr)) (m1_4:(List Zk)) (m1_5:(List Zu)) (x0:Int):(List Int)→Ex×List V×Zn
  | r=>(.exit 0,[],[(.arr 1 (List.map Ze r)),(.cells [(.d (Ze m1_0)),(.d (Ze m1_1)),(.d (D.list t0 (List.map Zau m1_2))),(.d (D.list t1 (List.map ZI m1_3))),(.d (D.list t2 (List.map Zs m1_4))),(.d (D.list t3 (List.map ZA m1_5)))])])
theorem Zee {t0:Bool} {t1:Bool} {t2:Bool} {t3:Bool} {b:Int} {c:Int} {m1_0:Int} {m1_1:Int} {m1_2:(List Zal)} {m1_3:(List Zr)} {m1_4:(List Zk)} {m1_5:(List Zu)} {x0:Int}:∀(s1:Int×(List Int)×Int) (r:(List Int)),lp (Zax b c x0) s1=some r→lpW ctx 2 [0,1,8,9,10,11] [] ZtO [(.sl 0 1),(.d (Ze b)),(.d (Ze (w64 (c-b)))),(.ptr 2 0),(.d (D.int .u64 x0)),(.d (Ze s1.1))] [(.arr 1 (List.map Ze s1.2.1)),(.cells [(.d (Ze m1_0)),(.d (Ze m1_1)),(.d (D.list t0 (List.map Zau m1_2))),(.d (D.list t1 (List.map ZI m1_3))),(.d (D.list t2 (List.map Zs m1_4))),(.d (D.list t3 (List.map ZA m1_5)))]),(.cells [(.d (D.int .u64 s1.2.2))])]=some ((Zci t0 t1 t2 t3 b c m1_0 m1_1 m1_2 m1_3 m1_4 m1_5 x0) r):=by
 refine Zbc (Zci t0 t1 t2 t3 b c m1_0 m1_1 m1_2 m1_3 m1_4 m1_5 x0) ?_
 intro s1 rcl ih
 show Z6 _ _ (lpW _ _ _ _ _ _ _)
 unfold Zax
 rw[Zbd]
 conv=>arg 3; whnf
 refine ZQ rfl ?_
 conv=>arg 3; whnf
 refine Zg rfl ?_ ?_
 ·conv=>arg 3; whnf
  refine Zc _ ZgY fun x2 hx2=>?_
  conv=>arg 3; whnf
  refine Zg rfl ?_ ?_
  ·conv=>arg 3; whnf
   refine Zj rfl rfl fun x3 hx3=>?_
   conv=>arg 3; whnf
   refine Zf (Zl rfl hx3) ?_
   conv=>arg 3; whnf
   refine Zj rfl rfl fun x4 hx4=>?_
   conv=>arg 3; whnf
   refine Zf (Zl rfl hx4) ?_
   conv=>arg 3; whnf
   refine Zf (ZaF rfl hx4) ?_
   conv=>arg 3; whnf
   refine Zf (Zl rfl hx4) ?_
   conv=>arg 3; whnf
   refine Zo (Z4 Ze s1.2.1 s1.1.toNat x3) ?_
   conv=>arg 3; whnf
   refine Zj rfl rfl fun x5 hx5=>?_
   conv=>arg 3; whnf
   refine Zf (Zl rfl hx5) ?_
   conv=>arg 3; whnf
   refine Zo (Z4 Ze (List.set s1.2.1 s1.1.toNat x3) (w64 (b+(w64 ((w64 (IntKind.u64.wrap (BitVec.ofInt IntKind.u64.bits (IntKind.u64.wrap (BitVec.ofInt IntKind.u64.bits (IntKind.u64.wrap (BitVec.ofInt IntKind.u64.bits (IntKind.u64.wrap (BitVec.ofInt IntKind.u64.bits s1.2.2 ^^^ BitVec.ofInt IntKind.u64.bits (IntKind.u64.wrap (s1.2.2*2 ^ 13))).toNat) ^^^ BitVec.ofInt IntKind.u64.bits (Int.fdiv (IntKind.u64.wrap (BitVec.ofInt IntKind.u64.bits s1.2.2 ^^^ BitVec.ofInt IntKind.u64.bits (IntKind.u64.wrap (s1.2.2*2 ^ 13))).toNat) (2 ^ 7))).toNat) ^^^ BitVec.ofInt IntKind.u64.bits (IntKind.u64.wrap ((IntKind.u64.wrap (BitVec.ofInt IntKind.u64.bits (IntKind.u64.wrap (BitVec.ofInt IntKind.u64.bits s1.2.2 ^^^ BitVec.ofInt IntKind.u64.bits (IntKind.u64.wrap (s1.2.2*2 ^ 13))).toNat) ^^^ BitVec.ofInt IntKind.u64.bits (Int.fdiv (IntKind.u64.wrap (BitVec.ofInt IntKind.u64.bits s1.2.2 ^^^ BitVec.ofInt IntKind.u64.bits (IntKind.u64.wrap (s1.2.2*2 ^ 13))).toNat) (2 ^ 7))).toNat)*2 ^ 17))).toNat) &&& BitVec.ofInt IntKind.u64.bits (IntKind.u64.wrap (x0-1))).toNat))-(w64 (c-b)))))).toNat x4) ?_
   conv=>arg 3; whnf
   exact Zd (ih _)
  ·conv=>arg 3; whnf
   refine Zj rfl rfl fun x6 hx6=>?_
   conv=>arg 3; whnf
   refine Zf (Zl rfl hx6) ?_
   conv=>arg 3; whnf
   refine Zj rfl rfl fun x7 hx7=>?_
   conv=>arg 3; whnf
   refine Zf (Zl rfl hx7) ?_
   conv=>arg 3; whnf
   refine Zf (ZaF rfl hx7) ?_
   conv=>arg 3; whnf
   refine Zf (Zl rfl hx7) ?_
   conv=>arg 3; whnf
   refine Zo (Z4 Ze s1.2.1 s1.1.toNat x6) ?_
   conv=>arg 3; whnf
   refine Zj rfl rfl fun x8 hx8=>?_
   conv=>arg 3; whnf
   refine Zf (Zl rfl hx8) ?_
   conv=>arg 3; whnf
   refine Zo (Z4 Ze (List.set s1.2.1 s1.1.toNat x6) (w64 (b+(w64 (IntKind.u64.wrap (BitVec.ofInt IntKind.u64.bits (IntKind.u64.wrap (BitVec.ofInt IntKind.u64.bits (IntKind.u64.wrap (BitVec.ofInt IntKind.u64.bits (IntKind.u64.wrap (BitVec.ofInt IntKind.u64.bits s1.2.2 ^^^ BitVec.ofInt IntKind.u64.bits (IntKind.u64.wrap (s1.2.2*2 ^ 13))).toNat) ^^^ BitVec.ofInt IntKind.u64.bits (Int.fdiv (IntKind.u64.wrap (BitVec.ofInt IntKind.u64.bits s1.2.2 ^^^ BitVec.ofInt IntKind.u64.bits (IntKind.u64.wrap (s1.2.2*2 ^ 13))).toNat) (2 ^ 7))).toNat) ^^^ BitVec.ofInt IntKind.u64.bits (IntKind.u64.wrap ((IntKind.u64.wrap (BitVec.ofInt IntKind.u64.bits (IntKind.u64.wrap (BitVec.ofInt IntKind.u64.bits s1.2.2 ^^^ BitVec.ofInt IntKind.u64.bits (IntKind.u64.wrap (s1.2.2*2 ^ 13))).toNat) ^^^ BitVec.ofInt IntKind.u64.bits (Int.fdiv (IntKind.u64.wrap (BitVec.ofInt IntKind.u64.bits s1.2.2 ^^^ BitVec.ofInt IntKind.u64.bits (IntKind.u64.wrap (s1.2.2*2 ^ 13))).toNat) (2 ^ 7))).toNat)*2 ^ 17))).toNat) &&& BitVec.ofInt IntKind.u64.bits (IntKind.u64.wrap (x0-1))).toNat)))).toNat x7) ?_
   conv=>arg 3; whnf
   exact Zd (ih _)
 ·conv=>arg 3; whnf
  exact Zh rfl
theorem Zcu {t0:Bool} {t1:Bool} {t2:Bool} {t3:Bool} {b:Int} {c:Int} {m0_0:(List Int)} {m1_0:Int} {m1_1:Int} {m1_2:(List Zal)} {m1_3:(List Zr)} {m1_4:(List Zk)} {m1_5:(List Zu)}:∀r,(Zah b c (fun z0 z1=>Zw z0 z1 m1_4) m0_0)=some r→evW ctx 144 [(.sl 0 1),(.d (Ze b)),(.d (Ze c)),(.fn 121 [(.ptr 1 0)])] [(.arr 1 (List.map Ze m0_0)),(.cells [(.d (Ze m1_0)),(.d (Ze m1_1)),(.d (D.list t0 (List.map Zau m1_2))),(.d (D.list t1 (List.map ZI m1_3))),(.d (D.list t2 (List.map Zs m1_4))),(.d (D.list t3 (List.map ZA m1_5)))])]=some ((Zcx t0 t1 t2 t3 b c m0_0 m1_0 m1_1 m1_2 m1_3 m1_4 m1_5) r):=by
 show Z6 _ (fun r rhs=>rhs=some ((Zcx t0 t1 t2 t3 b c m0_0 m1_0 m1_1 m1_2 m1_3 m1_4 m1_5) r)) _
 unfold Zah
 rw[Zeh ctx 144 ZvQ _ _ rfl rfl]
 conv=>arg 3; whnf
 refine Zg rfl ?_ ?_
 ·conv=>arg 3; whnf
  refine Zp _ ZgB rfl fun x0 hx0=>?_
  conv=>arg 3; whnf
  refine ZQ rfl ?_
  conv=>arg 3; whnf
  refine Zc _ (Zee _) fun r9 hr9=>?_
  conv=>arg 3; whnf
  exact Zh rfl
 ·conv=>arg 3; whnf
  exact Zh rfl
def Za (t0:Bool) (t1:Bool) (t2:Bool) (t3:Bool) (b:Int) (c:Int) (d:Int) (m0_0:(List Int)) (m1_0:Int) (m1_1:Int) (m1_2:(List Zal)) (m1_3:(List Zr)) (m1_4:(List Zk)) (m1_5:(List Zu)):(List Int)→V×Zn
  | r=>((.d (D.tup [])),[(.arr 1 (List.map Ze r)),(.cells [(.d (Ze m1_0)),(.d (Ze m1_1)),(.d (D.list t0 (List.map Zau m1_2))),(.d (D.list t1 (List.map ZI m1_3))),(.d (D.list t2 (List.map Zs m1_4))),(.d (D.list t3 (List.map ZA m1_5)))])])
def ZcY (t0:Bool) (t1:Bool) (t2:Bool) (t3:Bool) (m1_0:Int) (m1_1:Int) (m1_2:(List Zal)) (m1_3:(List Zr)) (m1_4:(List Zk)) (m1_5:(List Zu)) (rc:Int→Int→Int→(Int→Int→Option Int)→(List Int)→Option (List Int)):(List Int)→Ex×List V×Zn
  | r=>(.ret,[],[(.arr 1 (List.map Ze r)),(.cells [(.d (Ze m1_0)),(.d (Ze m1_1)),(.d (D.list t0 (List.map Zau m1_2))),(.d (D.list t1 (List.map ZI m1_3))),(.d (D.list t2 (List.map Zs m1_4))),(.d (D.list t3 (List.map ZA m1_5)))])])
theorem Ze9 {t0:Bool} {t1:Bool} {t2:Bool} {t3:Bool} {m1_0:Int} {m1_1:Int} {m1_2:(List Zal)} {m1_3:(List Zr)} {m1_4:(List Zk)} {m1_5:(List Zu)} {rc:Int→Int→Int→(Int→Int→Option Int)→(List Int)→Option (List Int)} (hrc:∀(t0:Bool) (t1:Bool) (t2:Bool) (t3:Bool) (b:Int) (c:Int) (d:Int) (m0_0:(List Int)) (m1_0:Int) (m1_1:Int) (m1_2:(List Zal)) (m1_3:(List Zr)) (m1_4:(List Zk)) (m1_5:(List Zu)) (r:(List Int)),rc b c d (fun z0 z1=>Zw z0 z1 m1_4) m0_0=some r→evW ctx 138 [(.sl 0 1),(.d (Ze b)),(.d (Ze c)),(.d (Ze d)),(.fn 121 [(.ptr 1 0)])] [(.arr 1 (List.map Ze m0_0)),(.cells [(.d (Ze m1_0)),(.d (Ze m1_1)),(.d (D.list t0 (List.map Zau m1_2))),(.d (D.list t1 (List.map ZI m1_3))),(.d (D.list t2 (List.map Zs m1_4))),(.d (D.list t3 (List.map ZA m1_5)))])]=some ((Za t0 t1 t2 t3 b c d m0_0 m1_0 m1_1 m1_2 m1_3 m1_4 m1_5) r)):∀(s0:Int×Int×Int×Bool×Bool×(List Int)) (r:(List Int)),lp (ZV (fun z0 z1=>Zw z0 z1 m1_4) rc) s0=some r→lpW ctx 2 [0,1,2,3,4,10,11] [] Zux [(.sl 0 1),(.d (Ze s0.1)),(.d (Ze s0.2.1)),(.d (Ze s0.2.2.1)),(.fn 121 [(.ptr 1 0)]),(.d (D.bool s0.2.2.2.1)),(.d (D.bool s0.2.2.2.2.1))] [(.arr 1 (List.map Ze s0.2.2.2.2.2)),(.cells [(.d (Ze m1_0)),(.d (Ze m1_1)),(.d (D.list t0 (List.map Zau m1_2))),(.d (D.list t1 (List.map ZI m1_3))),(.d (D.list t2 (List.map Zs m1_4))),(.d (D.list t3 (List.map ZA m1_5)))])]=some ((ZcY t0 t1 t2 t3 m1_0 m1_1 m1_2 m1_3 m1_4 m1_5 rc) r):=by
 refine Zbc (ZcY t0 t1 t2 t3 m1_0 m1_1 m1_2 m1_3 m1_4 m1_5 rc) ?_
 intro s0 rcl ih
 show Z6 _ _ (lpW _ _ _ _ _ _ _)
 unfold ZV
 rw[Zbd]
 rcases hb:s0.2.2.2.1 with _ | _
 ·refine Znw ?_
  rcases hb:s0.2.2.2.2.1 with _ | _
  ·refine Znw ?_
   conv=>arg 3; whnf
   refine Zg rfl ?_ ?_
   ·conv=>arg 3; whnf
    refine Zc _ ZaP fun x170 hx170=>?_
    conv=>arg 3; whnf
    exact Zh rfl
   ·conv=>arg 3; whnf
    refine Zg rfl ?_ ?_
    ·conv=>arg 3; whnf
     refine Zc _ Za9 fun x171 hx171=>?_
     conv=>arg 3; whnf
     exact Zh rfl
    ·conv=>arg 3; whnf
     refine Zc _ Zcu fun x172 hx172=>?_
     conv=>arg 3; whnf
     refine Zc _ ZaW fun x173 hx173=>?_
     conv=>arg 3; whnf
     refine Zg rfl ?_ ?_
     ·conv=>arg 3; whnf
      refine Zc _ ZaV fun x174 hx174=>?_
      conv=>arg 3; whnf
      refine Zg rfl ?_ ?_
      ·conv=>arg 3; whnf
       refine Zj rfl rfl fun x175 hx175=>?_
       conv=>arg 3; whnf
       refine Zf (Zl rfl hx175) ?_
       conv=>arg 3; whnf
       refine Zj rfl rfl fun x176 hx176=>?_
       conv=>arg 3; whnf
       refine Zf (Zl rfl hx176) ?_
       conv=>arg 3; whnf
       refine Zp _ ZN rfl fun x177 hx177=>?_
       conv=>arg 3; whnf
       refine Zg rfl ?_ ?_
       ·conv=>arg 3; whnf
        refine Zc _ Zm fun x178 hx178=>?_
        clear hx178
        rcases x178 with x178 | x178
        ·conv=>arg 3; whnf
         refine ZbC rfl ?_
         conv=>arg 3; whnf
         refine ZQ rfl ?_
         conv=>arg 3; whnf
         refine Zg rfl ?_ ?_
         ·conv=>arg 3; whnf
          refine Zg rfl ?_ ?_
          ·conv=>arg 3; whnf
           refine Zc (Za t0 t1 t2 t3 s0.1 x178.1 (w64 (s0.2.2.1-1)) x178.2 m1_0 m1_1 m1_2 m1_3 m1_4 m1_5) (hrc t0 t1 t2 t3 s0.1 x178.1 (w64 (s0.2.2.1-1)) x178.2 m1_0 m1_1 m1_2 m1_3 m1_4 m1_5) fun x179 hx179=>?_
           conv=>arg 3; whnf
           exact Zd (ih _)
          ·conv=>arg 3; whnf
           refine Zc (Za t0 t1 t2 t3 s0.1 x178.1 (w64 (s0.2.2.1-1)) x178.2 m1_0 m1_1 m1_2 m1_3 m1_4 m1_5) (hrc t0 t1 t2 t3 s0.1 x178.1 (w64 (s0.2.2.1-1)) x178.2 m1_0 m1_1 m1_2 m1_3 m1_4 m1_5) fun x180 hx180=>?_
           conv=>arg 3; whnf
           exact Zd (ih _)
         ·conv=>arg 3; whnf
          refine Zg rfl ?_ ?_
          ·conv=>arg 3; whnf
           refine Zc (Za t0 t1 t2 t3 (w64 (x178.1+1)) s0.2.1 (w64 (s0.2.2.1-1)) x178.2 m1_0 m1_1 m1_2 m1_3 m1_4 m1_5) (hrc t0 t1 t2 t3 (w64 (x178.1+1)) s0.2.1 (w64 (s0.2.2.1-1)) x178.2 m1_0 m1_1 m1_2 m1_3 m1_4 m1_5) fun x181 hx181=>?_
           conv=>arg 3; whnf
           exact Zd (ih _)
          ·conv=>arg 3; whnf
           refine Zc (Za t0 t1 t2 t3 (w64 (x178.1+1)) s0.2.1 (w64 (s0.2.2.1-1)) x178.2 m1_0 m1_1 m1_2 m1_3 m1_4 m1_5) (hrc t0 t1 t2 t3 (w64 (x178.1+1)) s0.2.1 (w64 (s0.2.2.1-1)) x178.2 m1_0 m1_1 m1_2 m1_3 m1_4 m1_5) fun x182 hx182=>?_
           conv=>arg 3; whnf
           exact Zd (ih _)
        ·conv=>arg 3; whnf
         refine ZQ rfl ?_
         conv=>arg 3; whnf
         refine ZQ rfl ?_
         conv=>arg 3; whnf
         refine Zg rfl ?_ ?_
         ·conv=>arg 3; whnf
          refine Zg rfl ?_ ?_
          ·conv=>arg 3; whnf
           refine Zc (Za t0 t1 t2 t3 s0.1 x178.1 (w64 (s0.2.2.1-1)) x178.2 m1_0 m1_1 m1_2 m1_3 m1_4 m1_5) (hrc t0 t1 t2 t3 s0.1 x178.1 (w64 (s0.2.2.1-1)) x178.2 m1_0 m1_1 m1_2 m1_3 m1_4 m1_5) fun x183 hx183=>?_
           conv=>arg 3; whnf
           exact Zd (ih _)
          ·conv=>arg 3; whnf
           refine Zc (Za t0 t1 t2 t3 s0.1 x178.1 (w64 (s0.2.2.1-1)) x178.2 m1_0 m1_1 m1_2 m1_3 m1_4 m1_5) (hrc t0 t1 t2 t3 s0.1 x178.1 (w64 (s0.2.2.1-1)) x178.2 m1_0 m1_1 m1_2 m1_3 m1_4 m1_5) fun x184 hx184=>?_
           conv=>arg 3; whnf
           exact Zd (ih _)
         ·conv=>arg 3; whnf
          refine Zg rfl ?_ ?_
          ·conv=>arg 3; whnf
           refine Zc (Za t0 t1 t2 t3 (w64 (x178.1+1)) s0.2.1 (w64 (s0.2.2.1-1)) x178.2 m1_0 m1_1 m1_2 m1_3 m1_4 m1_5) (hrc t0 t1 t2 t3 (w64 (x178.1+1)) s0.2.1 (w64 (s0.2.2.1-1)) x178.2 m1_0 m1_1 m1_2 m1_3 m1_4 m1_5) fun x185 hx185=>?_
           conv=>arg 3; whnf
           exact Zd (ih _)
          ·conv=>arg 3; whnf
           refine Zc (Za t0 t1 t2 t3 (w64 (x178.1+1)) s0.2.1 (w64 (s0.2.2.1-1)) x178.2 m1_0 m1_1 m1_2 m1_3 m1_4 m1_5) (hrc t0 t1 t2 t3 (w64 (x178.1+1)) s0.2.1 (w64 (s0.2.2.1-1)) x178.2 m1_0 m1_1 m1_2 m1_3 m1_4 m1_5) fun x186 hx186=>?_
           conv=>arg 3; whnf
           exact Zd (ih _)
       ·conv=>arg 3; whnf
        refine Zc _ ZE fun x187 hx187=>?_
        conv=>arg 3; whnf
        exact Zd (ih _)
      ·conv=>arg 3; whnf
       refine Zc _ Zm fun x188 hx188=>?_
       clear hx188
       rcases x188 with x188 | x188
       ·conv=>arg 3; whnf
        refine ZbC rfl ?_
        conv=>arg 3; whnf
        refine ZQ rfl ?_
        conv=>arg 3; whnf
        refine Zg rfl ?_ ?_
        ·conv=>arg 3; whnf
         refine Zg rfl ?_ ?_
         ·conv=>arg 3; whnf
          refine Zc (Za t0 t1 t2 t3 s0.1 x188.1 (w64 (s0.2.2.1-1)) x188.2 m1_0 m1_1 m1_2 m1_3 m1_4 m1_5) (hrc t0 t1 t2 t3 s0.1 x188.1 (w64 (s0.2.2.1-1)) x188.2 m1_0 m1_1 m1_2 m1_3 m1_4 m1_5) fun x189 hx189=>?_
          conv=>arg 3; whnf
          exact Zd (ih _)
         ·conv=>arg 3; whnf
          refine Zc (Za t0 t1 t2 t3 s0.1 x188.1 (w64 (s0.2.2.1-1)) x188.2 m1_0 m1_1 m1_2 m1_3 m1_4 m1_5) (hrc t0 t1 t2 t3 s0.1 x188.1 (w64 (s0.2.2.1-1)) x188.2 m1_0 m1_1 m1_2 m1_3 m1_4 m1_5) fun x190 hx190=>?_
          conv=>arg 3; whnf
          exact Zd (ih _)
        ·conv=>arg 3; whnf
         refine Zg rfl ?_ ?_
         ·conv=>arg 3; whnf
          refine Zc (Za t0 t1 t2 t3 (w64 (x188.1+1)) s0.2.1 (w64 (s0.2.2.1-1)) x188.2 m1_0 m1_1 m1_2 m1_3 m1_4 m1_5) (hrc t0 t1 t2 t3 (w64 (x188.1+1)) s0.2.1 (w64 (s0.2.2.1-1)) x188.2 m1_0 m1_1 m1_2 m1_3 m1_4 m1_5) fun x191 hx191=>?_
          conv=>arg 3; whnf
          exact Zd (ih _)
         ·conv=>arg 3; whnf
          refine Zc (Za t0 t1 t2 t3 (w64 (x188.1+1)) s0.2.1 (w64 (s0.2.2.1-1)) x188.2 m1_0 m1_1 m1_2 m1_3 m1_4 m1_5) (hrc t0 t1 t2 t3 (w64 (x188.1+1)) s0.2.1 (w64 (s0.2.2.1-1)) x188.2 m1_0 m1_1 m1_2 m1_3 m1_4 m1_5) fun x192 hx192=>?_
          conv=>arg 3; whnf
          exact Zd (ih _)
       ·conv=>arg 3; whnf
        refine ZQ rfl ?_
        conv=>arg 3; whnf
        refine ZQ rfl ?_
        conv=>arg 3; whnf
        refine Zg rfl ?_ ?_
        ·conv=>arg 3; whnf
         refine Zg rfl ?_ ?_
         ·conv=>arg 3; whnf
          refine Zc (Za t0 t1 t2 t3 s0.1 x188.1 (w64 (s0.2.2.1-1)) x188.2 m1_0 m1_1 m1_2 m1_3 m1_4 m1_5) (hrc t0 t1 t2 t3 s0.1 x188.1 (w64 (s0.2.2.1-1)) x188.2 m1_0 m1_1 m1_2 m1_3 m1_4 m1_5) fun x193 hx193=>?_
          conv=>arg 3; whnf
          exact Zd (ih _)
         ·conv=>arg 3; whnf
          refine Zc (Za t0 t1 t2 t3 s0.1 x188.1 (w64 (s0.2.2.1-1)) x188.2 m1_0 m1_1 m1_2 m1_3 m1_4 m1_5) (hrc t0 t1 t2 t3 s0.1 x188.1 (w64 (s0.2.2.1-1)) x188.2 m1_0 m1_1 m1_2 m1_3 m1_4 m1_5) fun x194 hx194=>?_
          conv=>arg 3; whnf
          exact Zd (ih _)
        ·conv=>arg 3; whnf
         refine Zg rfl ?_ ?_
         ·conv=>arg 3; whnf
          refine Zc (Za t0 t1 t2 t3 (w64 (x188.1+1)) s0.2.1 (w64 (s0.2.2.1-1)) x188.2 m1_0 m1_1 m1_2 m1_3 m1_4 m1_5) (hrc t0 t1 t2 t3 (w64 (x188.1+1)) s0.2.1 (w64 (s0.2.2.1-1)) x188.2 m1_0 m1_1 m1_2 m1_3 m1_4 m1_5) fun x195 hx195=>?_
          conv=>arg 3; whnf
          exact Zd (ih _)
         ·conv=>arg 3; whnf
          refine Zc (Za t0 t1 t2 t3 (w64 (x188.1+1)) s0.2.1 (w64 (s0.2.2.1-1)) x188.2 m1_0 m1_1 m1_2 m1_3 m1_4 m1_5) (hrc t0 t1 t2 t3 (w64 (x188.1+1)) s0.2.1 (w64 (s0.2.2.1-1)) x188.2 m1_0 m1_1 m1_2 m1_3 m1_4 m1_5) fun x196 hx196=>?_
          conv=>arg 3; whnf
          exact Zd (ih _)
     ·conv=>arg 3; whnf
      refine Zg rfl ?_ ?_
      ·conv=>arg 3; whnf
       refine Zj rfl rfl fun x197 hx197=>?_
       conv=>arg 3; whnf
       refine Zf (Zl rfl hx197) ?_
       conv=>arg 3; whnf
       refine Zj rfl rfl fun x198 hx198=>?_
       conv=>arg 3; whnf
       refine Zf (Zl rfl hx198) ?_
       conv=>arg 3; whnf
       refine Zp _ ZN rfl fun x199 hx199=>?_
       conv=>arg 3; whnf
       refine Zg rfl ?_ ?_
       ·conv=>arg 3; whnf
        refine Zc _ Zm fun x200 hx200=>?_
        clear hx200
        rcases x200 with x200 | x200
        ·conv=>arg 3; whnf
         refine ZbC rfl ?_
         conv=>arg 3; whnf
         refine ZQ rfl ?_
         conv=>arg 3; whnf
         refine Zg rfl ?_ ?_
         ·conv=>arg 3; whnf
          refine Zg rfl ?_ ?_
          ·conv=>arg 3; whnf
           refine Zc (Za t0 t1 t2 t3 s0.1 x200.1 (w64 (s0.2.2.1-1)) x200.2 m1_0 m1_1 m1_2 m1_3 m1_4 m1_5) (hrc t0 t1 t2 t3 s0.1 x200.1 (w64 (s0.2.2.1-1)) x200.2 m1_0 m1_1 m1_2 m1_3 m1_4 m1_5) fun x201 hx201=>?_
           conv=>arg 3; whnf
           exact Zd (ih _)
          ·conv=>arg 3; whnf
           refine Zc (Za t0 t1 t2 t3 s0.1 x200.1 (w64 (s0.2.2.1-1)) x200.2 m1_0 m1_1 m1_2 m1_3 m1_4 m1_5) (hrc t0 t1 t2 t3 s0.1 x200.1 (w64 (s0.2.2.1-1)) x200.2 m1_0 m1_1 m1_2 m1_3 m1_4 m1_5) fun x202 hx202=>?_
           conv=>arg 3; whnf
           exact Zd (ih _)
         ·conv=>arg 3; whnf
          refine Zg rfl ?_ ?_
          ·conv=>arg 3; whnf
           refine Zc (Za t0 t1 t2 t3 (w64 (x200.1+1)) s0.2.1 (w64 (s0.2.2.1-1)) x200.2 m1_0 m1_1 m1_2 m1_3 m1_4 m1_5) (hrc t0 t1 t2 t3 (w64 (x200.1+1)) s0.2.1 (w64 (s0.2.2.1-1)) x200.2 m1_0 m1_1 m1_2 m1_3 m1_4 m1_5) fun x203 hx203=>?_
           conv=>arg 3; whnf
           exact Zd (ih _)
          ·conv=>arg 3; whnf
           refine Zc (Za t0 t1 t2 t3 (w64 (x200.1+1)) s0.2.1 (w64 (s0.2.2.1-1)) x200.2 m1_0 m1_1 m1_2 m1_3 m1_4 m1_5) (hrc t0 t1 t2 t3 (w64 (x200.1+1)) s0.2.1 (w64 (s0.2.2.1-1)) x200.2 m1_0 m1_1 m1_2 m1_3 m1_4 m1_5) fun x204 hx204=>?_
           conv=>arg 3; whnf
           exact Zd (ih _)
        ·conv=>arg 3; whnf
         refine ZQ rfl ?_
         conv=>arg 3; whnf
         refine ZQ rfl ?_
         conv=>arg 3; whnf
         refine Zg rfl ?_ ?_
         ·conv=>arg 3; whnf
          refine Zg rfl ?_ ?_
          ·conv=>arg 3; whnf
           refine Zc (Za t0 t1 t2 t3 s0.1 x200.1 (w64 (s0.2.2.1-1)) x200.2 m1_0 m1_1 m1_2 m1_3 m1_4 m1_5) (hrc t0 t1 t2 t3 s0.1 x200.1 (w64 (s0.2.2.1-1)) x200.2 m1_0 m1_1 m1_2 m1_3 m1_4 m1_5) fun x205 hx205=>?_
           conv=>arg 3; whnf
           exact Zd (ih _)
          ·conv=>arg 3; whnf
           refine Zc (Za t0 t1 t2 t3 s0.1 x200.1 (w64 (s0.2.2.1-1)) x200.2 m1_0 m1_1 m1_2 m1_3 m1_4 m1_5) (hrc t0 t1 t2 t3 s0.1 x200.1 (w64 (s0.2.2.1-1)) x200.2 m1_0 m1_1 m1_2 m1_3 m1_4 m1_5) fun x206 hx206=>?_
           conv=>arg 3; whnf
           exact Zd (ih _)
         ·conv=>arg 3; whnf
          refine Zg rfl ?_ ?_
          ·conv=>arg 3; whnf
           refine Zc (Za t0 t1 t2 t3 (w64 (x200.1+1)) s0.2.1 (w64 (s0.2.2.1-1)) x200.2 m1_0 m1_1 m1_2 m1_3 m1_4 m1_5) (hrc t0 t1 t2 t3 (w64 (x200.1+1)) s0.2.1 (w64 (s0.2.2.1-1)) x200.2 m1_0 m1_1 m1_2 m1_3 m1_4 m1_5) fun x207 hx207=>?_
           conv=>arg 3; whnf
           exact Zd (ih _)
          ·conv=>arg 3; whnf
           refine Zc (Za t0 t1 t2 t3 (w64 (x200.1+1)) s0.2.1 (w64 (s0.2.2.1-1)) x200.2 m1_0 m1_1 m1_2 m1_3 m1_4 m1_5) (hrc t0 t1 t2 t3 (w64 (x200.1+1)) s0.2.1 (w64 (s0.2.2.1-1)) x200.2 m1_0 m1_1 m1_2 m1_3 m1_4 m1_5) fun x208 hx208=>?_
           conv=>arg 3; whnf
           exact Zd (ih _)
       ·conv=>arg 3; whnf
        refine Zc _ ZE fun x209 hx209=>?_
        conv=>arg 3; whnf
        exact Zd (ih _)
      ·conv=>arg 3; whnf
       refine Zc _ Zm fun x210 hx210=>?_
       clear hx210
       rcases x210 with x210 | x210
       ·conv=>arg 3; whnf
        refine ZbC rfl ?_
        conv=>arg 3; whnf
        refine ZQ rfl ?_
        conv=>arg 3; whnf
        refine Zg rfl ?_ ?_
        ·conv=>arg 3; whnf
         refine Zg rfl ?_ ?_
         ·conv=>arg 3; whnf
          refine Zc (Za t0 t1 t2 t3 s0.1 x210.1 (w64 (s0.2.2.1-1)) x210.2 m1_0 m1_1 m1_2 m1_3 m1_4 m1_5) (hrc t0 t1 t2 t3 s0.1 x210.1 (w64 (s0.2.2.1-1)) x210.2 m1_0 m1_1 m1_2 m1_3 m1_4 m1_5) fun x211 hx211=>?_
          conv=>arg 3; whnf
          exact Zd (ih _)
         ·conv=>arg 3; whnf
          refine Zc (Za t0 t1 t2 t3 s0.1 x210.1 (w64 (s0.2.2.1-1)) x210.2 m1_0 m1_1 m1_2 m1_3 m1_4 m1_5) (hrc t0 t1 t2 t3 s0.1 x210.1 (w64 (s0.2.2.1-1)) x210.2 m1_0 m1_1 m1_2 m1_3 m1_4 m1_5) fun x212 hx212=>?_
          conv=>arg 3; whnf
          exact Zd (ih _)
        ·conv=>arg 3; whnf
         refine Zg rfl ?_ ?_
         ·conv=>arg 3; whnf
          refine Zc (Za t0 t1 t2 t3 (w64 (x210.1+1)) s0.2.1 (w64 (s0.2.2.1-1)) x210.2 m1_0 m1_1 m1_2 m1_3 m1_4 m1_5) (hrc t0 t1 t2 t3 (w64 (x210.1+1)) s0.2.1 (w64 (s0.2.2.1-1)) x210.2 m1_0 m1_1 m1_2 m1_3 m1_4 m1_5) fun x213 hx213=>?_
          conv=>arg 3; whnf
          exact Zd (ih _)
         ·conv=>arg 3; whnf
          refine Zc (Za t0 t1 t2 t3 (w64 (x210.1+1)) s0.2.1 (w64 (s0.2.2.1-1)) x210.2 m1_0 m1_1 m1_2 m1_3 m1_4 m1_5) (hrc t0 t1 t2 t3 (w64 (x210.1+1)) s0.2.1 (w64 (s0.2.2.1-1)) x210.2 m1_0 m1_1 m1_2 m1_3 m1_4 m1_5) fun x214 hx214=>?_
          conv=>arg 3; whnf
          exact Zd (ih _)
       ·conv=>arg 3; whnf
        refine ZQ rfl ?_
        conv=>arg 3; whnf
        refine ZQ rfl ?_
        conv=>arg 3; whnf
        refine Zg rfl ?_ ?_
        ·conv=>arg 3; whnf
         refine Zg rfl ?_ ?_
         ·conv=>arg 3; whnf
          refine Zc (Za t0 t1 t2 t3 s0.1 x210.1 (w64 (s0.2.2.1-1)) x210.2 m1_0 m1_1 m1_2 m1_3 m1_4 m1_5) (hrc t0 t1 t2 t3 s0.1 x210.1 (w64 (s0.2.2.1-1)) x210.2 m1_0 m1_1 m1_2 m1_3 m1_4 m1_5) fun x215 hx215=>?_
          conv=>arg 3; whnf
          exact Zd (ih _)
         ·conv=>arg 3; whnf
          refine Zc (Za t0 t1 t2 t3 s0.1 x210.1 (w64 (s0.2.2.1-1)) x210.2 m1_0 m1_1 m1_2 m1_3 m1_4 m1_5) (hrc t0 t1 t2 t3 s0.1 x210.1 (w64 (s0.2.2.1-1)) x210.2 m1_0 m1_1 m1_2 m1_3 m1_4 m1_5) fun x216 hx216=>?_
          conv=>arg 3; whnf
          exact Zd (ih _)
        ·conv=>arg 3; whnf
         refine Zg rfl ?_ ?_
         ·conv=>arg 3; whnf
          refine Zc (Za t0 t1 t2 t3 (w64 (x210.1+1)) s0.2.1 (w64 (s0.2.2.1-1)) x210.2 m1_0 m1_1 m1_2 m1_3 m1_4 m1_5) (hrc t0 t1 t2 t3 (w64 (x210.1+1)) s0.2.1 (w64 (s0.2.2.1-1)) x210.2 m1_0 m1_1 m1_2 m1_3 m1_4 m1_5) fun x217 hx217=>?_
          conv=>arg 3; whnf
          exact Zd (ih _)
         ·conv=>arg 3; whnf
          refine Zc (Za t0 t1 t2 t3 (w64 (x210.1+1)) s0.2.1 (w64 (s0.2.2.1-1)) x210.2 m1_0 m1_1 m1_2 m1_3 m1_4 m1_5) (hrc t0 t1 t2 t3 (w64 (x210.1+1)) s0.2.1 (w64 (s0.2.2.1-1)) x210.2 m1_0 m1_1 m1_2 m1_3 m1_4 m1_5) fun x218 hx218=>?_
          conv=>arg 3; whnf
          exact Zd (ih _)
  ·refine Zng ?_
   conv=>arg 3; whnf
   refine Zg rfl ?_ ?_
   ·conv=>arg 3; whnf
    refine Zc _ ZaP fun x121 hx121=>?_
    conv=>arg 3; whnf
    exact Zh rfl
   ·conv=>arg 3; whnf
    refine Zg rfl ?_ ?_
    ·conv=>arg 3; whnf
     refine Zc _ Za9 fun x122 hx122=>?_
     conv=>arg 3; whnf
     exact Zh rfl
    ·conv=>arg 3; whnf
     refine Zc _ Zcu fun x123 hx123=>?_
     conv=>arg 3; whnf
     refine Zc _ ZaW fun x124 hx124=>?_
     conv=>arg 3; whnf
     refine Zg rfl ?_ ?_
     ·conv=>arg 3; whnf
      refine Zc _ ZaV fun x125 hx125=>?_
      conv=>arg 3; whnf
      refine Zg rfl ?_ ?_
      ·conv=>arg 3; whnf
       refine Zj rfl rfl fun x126 hx126=>?_
       conv=>arg 3; whnf
       refine Zf (Zl rfl hx126) ?_
       conv=>arg 3; whnf
       refine Zj rfl rfl fun x127 hx127=>?_
       conv=>arg 3; whnf
       refine Zf (Zl rfl hx127) ?_
       conv=>arg 3; whnf
       refine Zp _ ZN rfl fun x128 hx128=>?_
       conv=>arg 3; whnf
       refine Zg rfl ?_ ?_
       ·conv=>arg 3; whnf
        refine Zc _ Zm fun x129 hx129=>?_
        clear hx129
        rcases x129 with x129 | x129
        ·conv=>arg 3; whnf
         refine ZbC rfl ?_
         conv=>arg 3; whnf
         refine ZQ rfl ?_
         conv=>arg 3; whnf
         refine Zg rfl ?_ ?_
         ·conv=>arg 3; whnf
          refine Zg rfl ?_ ?_
          ·conv=>arg 3; whnf
           refine Zc (Za t0 t1 t2 t3 s0.1 x129.1 (w64 (s0.2.2.1-1)) x129.2 m1_0 m1_1 m1_2 m1_3 m1_4 m1_5) (hrc t0 t1 t2 t3 s0.1 x129.1 (w64 (s0.2.2.1-1)) x129.2 m1_0 m1_1 m1_2 m1_3 m1_4 m1_5) fun x130 hx130=>?_
           conv=>arg 3; whnf
           exact Zd (ih _)
          ·conv=>arg 3; whnf
           refine Zc (Za t0 t1 t2 t3 s0.1 x129.1 (w64 (s0.2.2.1-1)) x129.2 m1_0 m1_1 m1_2 m1_3 m1_4 m1_5) (hrc t0 t1 t2 t3 s0.1 x129.1 (w64 (s0.2.2.1-1)) x129.2 m1_0 m1_1 m1_2 m1_3 m1_4 m1_5) fun x131 hx131=>?_
           conv=>arg 3; whnf
           exact Zd (ih _)
         ·conv=>arg 3; whnf
          refine Zg rfl ?_ ?_
          ·conv=>arg 3; whnf
           refine Zc (Za t0 t1 t2 t3 (w64 (x129.1+1)) s0.2.1 (w64 (s0.2.2.1-1)) x129.2 m1_0 m1_1 m1_2 m1_3 m1_4 m1_5) (hrc t0 t1 t2 t3 (w64 (x129.1+1)) s0.2.1 (w64 (s0.2.2.1-1)) x129.2 m1_0 m1_1 m1_2 m1_3 m1_4 m1_5) fun x132 hx132=>?_
           conv=>arg 3; whnf
           exact Zd (ih _)
          ·conv=>arg 3; whnf
           refine Zc (Za t0 t1 t2 t3 (w64 (x129.1+1)) s0.2.1 (w64 (s0.2.2.1-1)) x129.2 m1_0 m1_1 m1_2 m1_3 m1_4 m1_5) (hrc t0 t1 t2 t3 (w64 (x129.1+1)) s0.2.1 (w64 (s0.2.2.1-1)) x129.2 m1_0 m1_1 m1_2 m1_3 m1_4 m1_5) fun x133 hx133=>?_
           conv=>arg 3; whnf
           exact Zd (ih _)
        ·conv=>arg 3; whnf
         refine ZQ rfl ?_
         conv=>arg 3; whnf
         refine ZQ rfl ?_
         conv=>arg 3; whnf
         refine Zg rfl ?_ ?_
         ·conv=>arg 3; whnf
          refine Zg rfl ?_ ?_
          ·conv=>arg 3; whnf
           refine Zc (Za t0 t1 t2 t3 s0.1 x129.1 (w64 (s0.2.2.1-1)) x129.2 m1_0 m1_1 m1_2 m1_3 m1_4 m1_5) (hrc t0 t1 t2 t3 s0.1 x129.1 (w64 (s0.2.2.1-1)) x129.2 m1_0 m1_1 m1_2 m1_3 m1_4 m1_5) fun x134 hx134=>?_
           conv=>arg 3; whnf
           exact Zd (ih _)
          ·conv=>arg 3; whnf
           refine Zc (Za t0 t1 t2 t3 s0.1 x129.1 (w64 (s0.2.2.1-1)) x129.2 m1_0 m1_1 m1_2 m1_3 m1_4 m1_5) (hrc t0 t1 t2 t3 s0.1 x129.1 (w64 (s0.2.2.1-1)) x129.2 m1_0 m1_1 m1_2 m1_3 m1_4 m1_5) fun x135 hx135=>?_
           conv=>arg 3; whnf
           exact Zd (ih _)
         ·conv=>arg 3; whnf
          refine Zg rfl ?_ ?_
          ·conv=>arg 3; whnf
           refine Zc (Za t0 t1 t2 t3 (w64 (x129.1+1)) s0.2.1 (w64 (s0.2.2.1-1)) x129.2 m1_0 m1_1 m1_2 m1_3 m1_4 m1_5) (hrc t0 t1 t2 t3 (w64 (x129.1+1)) s0.2.1 (w64 (s0.2.2.1-1)) x129.2 m1_0 m1_1 m1_2 m1_3 m1_4 m1_5) fun x136 hx136=>?_
           conv=>arg 3; whnf
           exact Zd (ih _)
          ·conv=>arg 3; whnf
           refine Zc (Za t0 t1 t2 t3 (w64 (x129.1+1)) s0.2.1 (w64 (s0.2.2.1-1)) x129.2 m1_0 m1_1 m1_2 m1_3 m1_4 m1_5) (hrc t0 t1 t2 t3 (w64 (x129.1+1)) s0.2.1 (w64 (s0.2.2.1-1)) x129.2 m1_0 m1_1 m1_2 m1_3 m1_4 m1_5) fun x137 hx137=>?_
           conv=>arg 3; whnf
           exact Zd (ih _)
       ·conv=>arg 3; whnf
        refine Zc _ ZE fun x138 hx138=>?_
        conv=>arg 3; whnf
        exact Zd (ih _)
      ·conv=>arg 3; whnf
       refine Zc _ Zm fun x139 hx139=>?_
       clear hx139
       rcases x139 with x139 | x139
       ·conv=>arg 3; whnf
        refine ZbC rfl ?_
        conv=>arg 3; whnf
        refine ZQ rfl ?_
        conv=>arg 3; whnf
        refine Zg rfl ?_ ?_
        ·conv=>arg 3; whnf
         refine Zg rfl ?_ ?_
         ·conv=>arg 3; whnf
          refine Zc (Za t0 t1 t2 t3 s0.1 x139.1 (w64 (s0.2.2.1-1)) x139.2 m1_0 m1_1 m1_2 m1_3 m1_4 m1_5) (hrc t0 t1 t2 t3 s0.1 x139.1 (w64 (s0.2.2.1-1)) x139.2 m1_0 m1_1 m1_2 m1_3 m1_4 m1_5) fun x140 hx140=>?_
          conv=>arg 3; whnf
          exact Zd (ih _)
         ·conv=>arg 3; whnf
          refine Zc (Za t0 t1 t2 t3 s0.1 x139.1 (w64 (s0.2.2.1-1)) x139.2 m1_0 m1_1 m1_2 m1_3 m1_4 m1_5) (hrc t0 t1 t2 t3 s0.1 x139.1 (w64 (s0.2.2.1-1)) x139.2 m1_0 m1_1 m1_2 m1_3 m1_4 m1_5) fun x141 hx141=>?_
          conv=>arg 3; whnf
          exact Zd (ih _)
        ·conv=>arg 3; whnf
         refine Zg rfl ?_ ?_
         ·conv=>arg 3; whnf
          refine Zc (Za t0 t1 t2 t3 (w64 (x139.1+1)) s0.2.1 (w64 (s0.2.2.1-1)) x139.2 m1_0 m1_1 m1_2 m1_3 m1_4 m1_5) (hrc t0 t1 t2 t3 (w64 (x139.1+1)) s0.2.1 (w64 (s0.2.2.1-1)) x139.2 m1_0 m1_1 m1_2 m1_3 m1_4 m1_5) fun x142 hx142=>?_
          conv=>arg 3; whnf
          exact Zd (ih _)
         ·conv=>arg 3; whnf
          refine Zc (Za t0 t1 t2 t3 (w64 (x139.1+1)) s0.2.1 (w64 (s0.2.2.1-1)) x139.2 m1_0 m1_1 m1_2 m1_3 m1_4 m1_5) (hrc t0 t1 t2 t3 (w64 (x139.1+1)) s0.2.1 (w64 (s0.2.2.1-1)) x139.2 m1_0 m1_1 m1_2 m1_3 m1_4 m1_5) fun x143 hx143=>?_
          conv=>arg 3; whnf
          exact Zd (ih _)
       ·conv=>arg 3; whnf
        refine ZQ rfl ?_
        conv=>arg 3; whnf
        refine ZQ rfl ?_
        conv=>arg 3; whnf
        refine Zg rfl ?_ ?_
        ·conv=>arg 3; whnf
         refine Zg rfl ?_ ?_
         ·conv=>arg 3; whnf
          refine Zc (Za t0 t1 t2 t3 s0.1 x139.1 (w64 (s0.2.2.1-1)) x139.2 m1_0 m1_1 m1_2 m1_3 m1_4 m1_5) (hrc t0 t1 t2 t3 s0.1 x139.1 (w64 (s0.2.2.1-1)) x139.2 m1_0 m1_1 m1_2 m1_3 m1_4 m1_5) fun x144 hx144=>?_
          conv=>arg 3; whnf
          exact Zd (ih _)
         ·conv=>arg 3; whnf
          refine Zc (Za t0 t1 t2 t3 s0.1 x139.1 (w64 (s0.2.2.1-1)) x139.2 m1_0 m1_1 m1_2 m1_3 m1_4 m1_5) (hrc t0 t1 t2 t3 s0.1 x139.1 (w64 (s0.2.2.1-1)) x139.2 m1_0 m1_1 m1_2 m1_3 m1_4 m1_5) fun x145 hx145=>?_
          conv=>arg 3; whnf
          exact Zd (ih _)
        ·conv=>arg 3; whnf
         refine Zg rfl ?_ ?_
         ·conv=>arg 3; whnf
          refine Zc (Za t0 t1 t2 t3 (w64 (x139.1+1)) s0.2.1 (w64 (s0.2.2.1-1)) x139.2 m1_0 m1_1 m1_2 m1_3 m1_4 m1_5) (hrc t0 t1 t2 t3 (w64 (x139.1+1)) s0.2.1 (w64 (s0.2.2.1-1)) x139.2 m1_0 m1_1 m1_2 m1_3 m1_4 m1_5) fun x146 hx146=>?_
          conv=>arg 3; whnf
          exact Zd (ih _)
         ·conv=>arg 3; whnf
          refine Zc (Za t0 t1 t2 t3 (w64 (x139.1+1)) s0.2.1 (w64 (s0.2.2.1-1)) x139.2 m1_0 m1_1 m1_2 m1_3 m1_4 m1_5) (hrc t0 t1 t2 t3 (w64 (x139.1+1)) s0.2.1 (w64 (s0.2.2.1-1)) x139.2 m1_0 m1_1 m1_2 m1_3 m1_4 m1_5) fun x147 hx147=>?_
          conv=>arg 3; whnf
          exact Zd (ih _)
     ·conv=>arg 3; whnf
      refine Zg rfl ?_ ?_
      ·conv=>arg 3; whnf
       refine Zj rfl rfl fun x148 hx148=>?_
       conv=>arg 3; whnf
       refine Zf (Zl rfl hx148) ?_
       conv=>arg 3; whnf
       refine Zj rfl rfl fun x149 hx149=>?_
       conv=>arg 3; whnf
       refine Zf (Zl rfl hx149) ?_
       conv=>arg 3; whnf
       refine Zp _ ZN rfl fun x150 hx150=>?_
       conv=>arg 3; whnf
       refine Zg rfl ?_ ?_
       ·conv=>arg 3; whnf
        refine Zc _ Zm fun x151 hx151=>?_
        clear hx151
        rcases x151 with x151 | x151
        ·conv=>arg 3; whnf
         refine ZbC rfl ?_
         conv=>arg 3; whnf
         refine ZQ rfl ?_
         conv=>arg 3; whnf
         refine Zg rfl ?_ ?_
         ·conv=>arg 3; whnf
          refine Zg rfl ?_ ?_
          ·conv=>arg 3; whnf
           refine Zc (Za t0 t1 t2 t3 s0.1 x151.1 (w64 (s0.2.2.1-1)) x151.2 m1_0 m1_1 m1_2 m1_3 m1_4 m1_5) (hrc t0 t1 t2 t3 s0.1 x151.1 (w64 (s0.2.2.1-1)) x151.2 m1_0 m1_1 m1_2 m1_3 m1_4 m1_5) fun x152 hx152=>?_
           conv=>arg 3; whnf
           exact Zd (ih _)
          ·conv=>arg 3; whnf
           refine Zc (Za t0 t1 t2 t3 s0.1 x151.1 (w64 (s0.2.2.1-1)) x151.2 m1_0 m1_1 m1_2 m1_3 m1_4 m1_5) (hrc t0 t1 t2 t3 s0.1 x151.1 (w64 (s0.2.2.1-1)) x151.2 m1_0 m1_1 m1_2 m1_3 m1_4 m1_5) fun x153 hx153=>?_
           conv=>arg 3; whnf
           exact Zd (ih _)
         ·conv=>arg 3; whnf
          refine Zg rfl ?_ ?_
          ·conv=>arg 3; whnf
           refine Zc (Za t0 t1 t2 t3 (w64 (x151.1+1)) s0.2.1 (w64 (s0.2.2.1-1)) x151.2 m1_0 m1_1 m1_2 m1_3 m1_4 m1_5) (hrc t0 t1 t2 t3 (w64 (x151.1+1)) s0.2.1 (w64 (s0.2.2.1-1)) x151.2 m1_0 m1_1 m1_2 m1_3 m1_4 m1_5) fun x154 hx154=>?_
           conv=>arg 3; whnf
           exact Zd (ih _)
          ·conv=>arg 3; whnf
           refine Zc (Za t0 t1 t2 t3 (w64 (x151.1+1)) s0.2.1 (w64 (s0.2.2.1-1)) x151.2 m1_0 m1_1 m1_2 m1_3 m1_4 m1_5) (hrc t0 t1 t2 t3 (w64 (x151.1+1)) s0.2.1 (w64 (s0.2.2.1-1)) x151.2 m1_0 m1_1 m1_2 m1_3 m1_4 m1_5) fun x155 hx155=>?_
           conv=>arg 3; whnf
           exact Zd (ih _)
        ·conv=>arg 3; whnf
         refine ZQ rfl ?_
         conv=>arg 3; whnf
         refine ZQ rfl ?_
         conv=>arg 3; whnf
         refine Zg rfl ?_ ?_
         ·conv=>arg 3; whnf
          refine Zg rfl ?_ ?_
          ·conv=>arg 3; whnf
           refine Zc (Za t0 t1 t2 t3 s0.1 x151.1 (w64 (s0.2.2.1-1)) x151.2 m1_0 m1_1 m1_2 m1_3 m1_4 m1_5) (hrc t0 t1 t2 t3 s0.1 x151.1 (w64 (s0.2.2.1-1)) x151.2 m1_0 m1_1 m1_2 m1_3 m1_4 m1_5) fun x156 hx156=>?_
           conv=>arg 3; whnf
           exact Zd (ih _)
          ·conv=>arg 3; whnf
           refine Zc (Za t0 t1 t2 t3 s0.1 x151.1 (w64 (s0.2.2.1-1)) x151.2 m1_0 m1_1 m1_2 m1_3 m1_4 m1_5) (hrc t0 t1 t2 t3 s0.1 x151.1 (w64 (s0.2.2.1-1)) x151.2 m1_0 m1_1 m1_2 m1_3 m1_4 m1_5) fun x157 hx157=>?_
           conv=>arg 3; whnf
           exact Zd (ih _)
         ·conv=>arg 3; whnf
          refine Zg rfl ?_ ?_
          ·conv=>arg 3; whnf
           refine Zc (Za t0 t1 t2 t3 (w64 (x151.1+1)) s0.2.1 (w64 (s0.2.2.1-1)) x151.2 m1_0 m1_1 m1_2 m1_3 m1_4 m1_5) (hrc t0 t1 t2 t3 (w64 (x151.1+1)) s0.2.1 (w64 (s0.2.2.1-1)) x151.2 m1_0 m1_1 m1_2 m1_3 m1_4 m1_5) fun x158 hx158=>?_
           conv=>arg 3; whnf
           exact Zd (ih _)
          ·conv=>arg 3; whnf
           refine Zc (Za t0 t1 t2 t3 (w64 (x151.1+1)) s0.2.1 (w64 (s0.2.2.1-1)) x151.2 m1_0 m1_1 m1_2 m1_3 m1_4 m1_5) (hrc t0 t1 t2 t3 (w64 (x151.1+1)) s0.2.1 (w64 (s0.2.2.1-1)) x151.2 m1_0 m1_1 m1_2 m1_3 m1_4 m1_5) fun x159 hx159=>?_
           conv=>arg 3; whnf
           exact Zd (ih _)
       ·conv=>arg 3; whnf
        refine Zc _ ZE fun x160 hx160=>?_
        conv=>arg 3; whnf
        exact Zd (ih _)
      ·conv=>arg 3; whnf
       refine Zc _ Zm fun x161 hx161=>?_
       clear hx161
       rcases x161 with x161 | x161
       ·conv=>arg 3; whnf
        refine ZbC rfl ?_
        conv=>arg 3; whnf
        refine ZQ rfl ?_
        conv=>arg 3; whnf
        refine Zg rfl ?_ ?_
        ·conv=>arg 3; whnf
         refine Zg rfl ?_ ?_
         ·conv=>arg 3; whnf
          refine Zc (Za t0 t1 t2 t3 s0.1 x161.1 (w64 (s0.2.2.1-1)) x161.2 m1_0 m1_1 m1_2 m1_3 m1_4 m1_5) (hrc t0 t1 t2 t3 s0.1 x161.1 (w64 (s0.2.2.1-1)) x161.2 m1_0 m1_1 m1_2 m1_3 m1_4 m1_5) fun x162 hx162=>?_
          conv=>arg 3; whnf
          exact Zd (ih _)
         ·conv=>arg 3; whnf
          refine Zc (Za t0 t1 t2 t3 s0.1 x161.1 (w64 (s0.2.2.1-1)) x161.2 m1_0 m1_1 m1_2 m1_3 m1_4 m1_5) (hrc t0 t1 t2 t3 s0.1 x161.1 (w64 (s0.2.2.1-1)) x161.2 m1_0 m1_1 m1_2 m1_3 m1_4 m1_5) fun x163 hx163=>?_
          conv=>arg 3; whnf
          exact Zd (ih _)
        ·conv=>arg 3; whnf
         refine Zg rfl ?_ ?_
         ·conv=>arg 3; whnf
          refine Zc (Za t0 t1 t2 t3 (w64 (x161.1+1)) s0.2.1 (w64 (s0.2.2.1-1)) x161.2 m1_0 m1_1 m1_2 m1_3 m1_4 m1_5) (hrc t0 t1 t2 t3 (w64 (x161.1+1)) s0.2.1 (w64 (s0.2.2.1-1)) x161.2 m1_0 m1_1 m1_2 m1_3 m1_4 m1_5) fun x164 hx164=>?_
          conv=>arg 3; whnf
          exact Zd (ih _)
         ·conv=>arg 3; whnf
          refine Zc (Za t0 t1 t2 t3 (w64 (x161.1+1)) s0.2.1 (w64 (s0.2.2.1-1)) x161.2 m1_0 m1_1 m1_2 m1_3 m1_4 m1_5) (hrc t0 t1 t2 t3 (w64 (x161.1+1)) s0.2.1 (w64 (s0.2.2.1-1)) x161.2 m1_0 m1_1 m1_2 m1_3 m1_4 m1_5) fun x165 hx165=>?_
          conv=>arg 3; whnf
          exact Zd (ih _)
       ·conv=>arg 3; whnf
        refine ZQ rfl ?_
        conv=>arg 3; whnf
        refine ZQ rfl ?_
        conv=>arg 3; whnf
        refine Zg rfl ?_ ?_
        ·conv=>arg 3; whnf
         refine Zg rfl ?_ ?_
         ·conv=>arg 3; whnf
          refine Zc (Za t0 t1 t2 t3 s0.1 x161.1 (w64 (s0.2.2.1-1)) x161.2 m1_0 m1_1 m1_2 m1_3 m1_4 m1_5) (hrc t0 t1 t2 t3 s0.1 x161.1 (w64 (s0.2.2.1-1)) x161.2 m1_0 m1_1 m1_2 m1_3 m1_4 m1_5) fun x166 hx166=>?_
          conv=>arg 3; whnf
          exact Zd (ih _)
         ·conv=>arg 3; whnf
          refine Zc (Za t0 t1 t2 t3 s0.1 x161.1 (w64 (s0.2.2.1-1)) x161.2 m1_0 m1_1 m1_2 m1_3 m1_4 m1_5) (hrc t0 t1 t2 t3 s0.1 x161.1 (w64 (s0.2.2.1-1)) x161.2 m1_0 m1_1 m1_2 m1_3 m1_4 m1_5) fun x167 hx167=>?_
          conv=>arg 3; whnf
          exact Zd (ih _)
        ·conv=>arg 3; whnf
         refine Zg rfl ?_ ?_
         ·conv=>arg 3; whnf
          refine Zc (Za t0 t1 t2 t3 (w64 (x161.1+1)) s0.2.1 (w64 (s0.2.2.1-1)) x161.2 m1_0 m1_1 m1_2 m1_3 m1_4 m1_5) (hrc t0 t1 t2 t3 (w64 (x161.1+1)) s0.2.1 (w64 (s0.2.2.1-1)) x161.2 m1_0 m1_1 m1_2 m1_3 m1_4 m1_5) fun x168 hx168=>?_
          conv=>arg 3; whnf
          exact Zd (ih _)
         ·conv=>arg 3; whnf
          refine Zc (Za t0 t1 t2 t3 (w64 (x161.1+1)) s0.2.1 (w64 (s0.2.2.1-1)) x161.2 m1_0 m1_1 m1_2 m1_3 m1_4 m1_5) (hrc t0 t1 t2 t3 (w64 (x161.1+1)) s0.2.1 (w64 (s0.2.2.1-1)) x161.2 m1_0 m1_1 m1_2 m1_3 m1_4 m1_5) fun x169 hx169=>?_
          conv=>arg 3; whnf
          exact Zd (ih _)
 ·refine Zng ?_
  rcases hb:s0.2.2.2.2.1 with _ | _
  ·refine Znw ?_
   conv=>arg 3; whnf
   refine Zg rfl ?_ ?_
   ·conv=>arg 3; whnf
    refine Zc _ ZaP fun x73 hx73=>?_
    conv=>arg 3; whnf
    exact Zh rfl
   ·conv=>arg 3; whnf
    refine Zg rfl ?_ ?_
    ·conv=>arg 3; whnf
     refine Zc _ Za9 fun x74 hx74=>?_
     conv=>arg 3; whnf
     exact Zh rfl
    ·conv=>arg 3; whnf
     refine Zc _ ZaW fun x75 hx75=>?_
     conv=>arg 3; whnf
     refine Zg rfl ?_ ?_
     ·conv=>arg 3; whnf
      refine Zc _ ZaV fun x76 hx76=>?_
      conv=>arg 3; whnf
      refine Zg rfl ?_ ?_
      ·conv=>arg 3; whnf
       refine Zj rfl rfl fun x77 hx77=>?_
       conv=>arg 3; whnf
       refine Zf (Zl rfl hx77) ?_
       conv=>arg 3; whnf
       refine Zj rfl rfl fun x78 hx78=>?_
       conv=>arg 3; whnf
       refine Zf (Zl rfl hx78) ?_
       conv=>arg 3; whnf
       refine Zp _ ZN rfl fun x79 hx79=>?_
       conv=>arg 3; whnf
       refine Zg rfl ?_ ?_
       ·conv=>arg 3; whnf
        refine Zc _ Zm fun x80 hx80=>?_
        clear hx80
        rcases x80 with x80 | x80
        ·conv=>arg 3; whnf
         refine ZbC rfl ?_
         conv=>arg 3; whnf
         refine ZQ rfl ?_
         conv=>arg 3; whnf
         refine Zg rfl ?_ ?_
         ·conv=>arg 3; whnf
          refine Zg rfl ?_ ?_
          ·conv=>arg 3; whnf
           refine Zc (Za t0 t1 t2 t3 s0.1 x80.1 s0.2.2.1 x80.2 m1_0 m1_1 m1_2 m1_3 m1_4 m1_5) (hrc t0 t1 t2 t3 s0.1 x80.1 s0.2.2.1 x80.2 m1_0 m1_1 m1_2 m1_3 m1_4 m1_5) fun x81 hx81=>?_
           conv=>arg 3; whnf
           exact Zd (ih _)
          ·conv=>arg 3; whnf
           refine Zc (Za t0 t1 t2 t3 s0.1 x80.1 s0.2.2.1 x80.2 m1_0 m1_1 m1_2 m1_3 m1_4 m1_5) (hrc t0 t1 t2 t3 s0.1 x80.1 s0.2.2.1 x80.2 m1_0 m1_1 m1_2 m1_3 m1_4 m1_5) fun x82 hx82=>?_
           conv=>arg 3; whnf
           exact Zd (ih _)
         ·conv=>arg 3; whnf
          refine Zg rfl ?_ ?_
          ·conv=>arg 3; whnf
           refine Zc (Za t0 t1 t2 t3 (w64 (x80.1+1)) s0.2.1 s0.2.2.1 x80.2 m1_0 m1_1 m1_2 m1_3 m1_4 m1_5) (hrc t0 t1 t2 t3 (w64 (x80.1+1)) s0.2.1 s0.2.2.1 x80.2 m1_0 m1_1 m1_2 m1_3 m1_4 m1_5) fun x83 hx83=>?_
           conv=>arg 3; whnf
           exact Zd (ih _)
          ·conv=>arg 3; whnf
           refine Zc (Za t0 t1 t2 t3 (w64 (x80.1+1)) s0.2.1 s0.2.2.1 x80.2 m1_0 m1_1 m1_2 m1_3 m1_4 m1_5) (hrc t0 t1 t2 t3 (w64 (x80.1+1)) s0.2.1 s0.2.2.1 x80.2 m1_0 m1_1 m1_2 m1_3 m1_4 m1_5) fun x84 hx84=>?_
           conv=>arg 3; whnf
           exact Zd (ih _)
        ·conv=>arg 3; whnf
         refine ZQ rfl ?_
         conv=>arg 3; whnf
         refine ZQ rfl ?_
         conv=>arg 3; whnf
         refine Zg rfl ?_ ?_
         ·conv=>arg 3; whnf
          refine Zg rfl ?_ ?_
          ·conv=>arg 3; whnf
           refine Zc (Za t0 t1 t2 t3 s0.1 x80.1 s0.2.2.1 x80.2 m1_0 m1_1 m1_2 m1_3 m1_4 m1_5) (hrc t0 t1 t2 t3 s0.1 x80.1 s0.2.2.1 x80.2 m1_0 m1_1 m1_2 m1_3 m1_4 m1_5) fun x85 hx85=>?_
           conv=>arg 3; whnf
           exact Zd (ih _)
          ·conv=>arg 3; whnf
           refine Zc (Za t0 t1 t2 t3 s0.1 x80.1 s0.2.2.1 x80.2 m1_0 m1_1 m1_2 m1_3 m1_4 m1_5) (hrc t0 t1 t2 t3 s0.1 x80.1 s0.2.2.1 x80.2 m1_0 m1_1 m1_2 m1_3 m1_4 m1_5) fun x86 hx86=>?_
           conv=>arg 3; whnf
           exact Zd (ih _)
         ·conv=>arg 3; whnf
          refine Zg rfl ?_ ?_
          ·conv=>arg 3; whnf
           refine Zc (Za t0 t1 t2 t3 (w64 (x80.1+1)) s0.2.1 s0.2.2.1 x80.2 m1_0 m1_1 m1_2 m1_3 m1_4 m1_5) (hrc t0 t1 t2 t3 (w64 (x80.1+1)) s0.2.1 s0.2.2.1 x80.2 m1_0 m1_1 m1_2 m1_3 m1_4 m1_5) fun x87 hx87=>?_
           conv=>arg 3; whnf
           exact Zd (ih _)
          ·conv=>arg 3; whnf
           refine Zc (Za t0 t1 t2 t3 (w64 (x80.1+1)) s0.2.1 s0.2.2.1 x80.2 m1_0 m1_1 m1_2 m1_3 m1_4 m1_5) (hrc t0 t1 t2 t3 (w64 (x80.1+1)) s0.2.1 s0.2.2.1 x80.2 m1_0 m1_1 m1_2 m1_3 m1_4 m1_5) fun x88 hx88=>?_
           conv=>arg 3; whnf
           exact Zd (ih _)
       ·conv=>arg 3; whnf
        refine Zc _ ZE fun x89 hx89=>?_
        conv=>arg 3; whnf
        exact Zd (ih _)
      ·conv=>arg 3; whnf
       refine Zc _ Zm fun x90 hx90=>?_
       clear hx90
       rcases x90 with x90 | x90
       ·conv=>arg 3; whnf
        refine ZbC rfl ?_
        conv=>arg 3; whnf
        refine ZQ rfl ?_
        conv=>arg 3; whnf
        refine Zg rfl ?_ ?_
        ·conv=>arg 3; whnf
         refine Zg rfl ?_ ?_
         ·conv=>arg 3; whnf
          refine Zc (Za t0 t1 t2 t3 s0.1 x90.1 s0.2.2.1 x90.2 m1_0 m1_1 m1_2 m1_3 m1_4 m1_5) (hrc t0 t1 t2 t3 s0.1 x90.1 s0.2.2.1 x90.2 m1_0 m1_1 m1_2 m1_3 m1_4 m1_5) fun x91 hx91=>?_
          conv=>arg 3; whnf
          exact Zd (ih _)
         ·conv=>arg 3; whnf
          refine Zc (Za t0 t1 t2 t3 s0.1 x90.1 s0.2.2.1 x90.2 m1_0 m1_1 m1_2 m1_3 m1_4 m1_5) (hrc t0 t1 t2 t3 s0.1 x90.1 s0.2.2.1 x90.2 m1_0 m1_1 m1_2 m1_3 m1_4 m1_5) fun x92 hx92=>?_
          conv=>arg 3; whnf
          exact Zd (ih _)
        ·conv=>arg 3; whnf
         refine Zg rfl ?_ ?_
         ·conv=>arg 3; whnf
          refine Zc (Za t0 t1 t2 t3 (w64 (x90.1+1)) s0.2.1 s0.2.2.1 x90.2 m1_0 m1_1 m1_2 m1_3 m1_4 m1_5) (hrc t0 t1 t2 t3 (w64 (x90.1+1)) s0.2.1 s0.2.2.1 x90.2 m1_0 m1_1 m1_2 m1_3 m1_4 m1_5) fun x93 hx93=>?_
          conv=>arg 3; whnf
          exact Zd (ih _)
         ·conv=>arg 3; whnf
          refine Zc (Za t0 t1 t2 t3 (w64 (x90.1+1)) s0.2.1 s0.2.2.1 x90.2 m1_0 m1_1 m1_2 m1_3 m1_4 m1_5) (hrc t0 t1 t2 t3 (w64 (x90.1+1)) s0.2.1 s0.2.2.1 x90.2 m1_0 m1_1 m1_2 m1_3 m1_4 m1_5) fun x94 hx94=>?_
          conv=>arg 3; whnf
          exact Zd (ih _)
       ·conv=>arg 3; whnf
        refine ZQ rfl ?_
        conv=>arg 3; whnf
        refine ZQ rfl ?_
        conv=>arg 3; whnf
        refine Zg rfl ?_ ?_
        ·conv=>arg 3; whnf
         refine Zg rfl ?_ ?_
         ·conv=>arg 3; whnf
          refine Zc (Za t0 t1 t2 t3 s0.1 x90.1 s0.2.2.1 x90.2 m1_0 m1_1 m1_2 m1_3 m1_4 m1_5) (hrc t0 t1 t2 t3 s0.1 x90.1 s0.2.2.1 x90.2 m1_0 m1_1 m1_2 m1_3 m1_4 m1_5) fun x95 hx95=>?_
          conv=>arg 3; whnf
          exact Zd (ih _)
         ·conv=>arg 3; whnf
          refine Zc (Za t0 t1 t2 t3 s0.1 x90.1 s0.2.2.1 x90.2 m1_0 m1_1 m1_2 m1_3 m1_4 m1_5) (hrc t0 t1 t2 t3 s0.1 x90.1 s0.2.2.1 x90.2 m1_0 m1_1 m1_2 m1_3 m1_4 m1_5) fun x96 hx96=>?_
          conv=>arg 3; whnf
          exact Zd (ih _)
        ·conv=>arg 3; whnf
         refine Zg rfl ?_ ?_
         ·conv=>arg 3; whnf
          refine Zc (Za t0 t1 t2 t3 (w64 (x90.1+1)) s0.2.1 s0.2.2.1 x90.2 m1_0 m1_1 m1_2 m1_3 m1_4 m1_5) (hrc t0 t1 t2 t3 (w64 (x90.1+1)) s0.2.1 s0.2.2.1 x90.2 m1_0 m1_1 m1_2 m1_3 m1_4 m1_5) fun x97 hx97=>?_
          conv=>arg 3; whnf
          exact Zd (ih _)
         ·conv=>arg 3; whnf
          refine Zc (Za t0 t1 t2 t3 (w64 (x90.1+1)) s0.2.1 s0.2.2.1 x90.2 m1_0 m1_1 m1_2 m1_3 m1_4 m1_5) (hrc t0 t1 t2 t3 (w64 (x90.1+1)) s0.2.1 s0.2.2.1 x90.2 m1_0 m1_1 m1_2 m1_3 m1_4 m1_5) fun x98 hx98=>?_
          conv=>arg 3; whnf
          exact Zd (ih _)
     ·conv=>arg 3; whnf
      refine Zg rfl ?_ ?_
      ·conv=>arg 3; whnf
       refine Zj rfl rfl fun x99 hx99=>?_
       conv=>arg 3; whnf
       refine Zf (Zl rfl hx99) ?_
       conv=>arg 3; whnf
       refine Zj rfl rfl fun x100 hx100=>?_
       conv=>arg 3; whnf
       refine Zf (Zl rfl hx100) ?_
       conv=>arg 3; whnf
       refine Zp _ ZN rfl fun x101 hx101=>?_
       conv=>arg 3; whnf
       refine Zg rfl ?_ ?_
       ·conv=>arg 3; whnf
        refine Zc _ Zm fun x102 hx102=>?_
        clear hx102
        rcases x102 with x102 | x102
        ·conv=>arg 3; whnf
         refine ZbC rfl ?_
         conv=>arg 3; whnf
         refine ZQ rfl ?_
         conv=>arg 3; whnf
         refine Zg rfl ?_ ?_
         ·conv=>arg 3; whnf
          refine Zg rfl ?_ ?_
          ·conv=>arg 3; whnf
           refine Zc (Za t0 t1 t2 t3 s0.1 x102.1 s0.2.2.1 x102.2 m1_0 m1_1 m1_2 m1_3 m1_4 m1_5) (hrc t0 t1 t2 t3 s0.1 x102.1 s0.2.2.1 x102.2 m1_0 m1_1 m1_2 m1_3 m1_4 m1_5) fun x103 hx103=>?_
           conv=>arg 3; whnf
           exact Zd (ih _)
          ·conv=>arg 3; whnf
           refine Zc (Za t0 t1 t2 t3 s0.1 x102.1 s0.2.2.1 x102.2 m1_0 m1_1 m1_2 m1_3 m1_4 m1_5) (hrc t0 t1 t2 t3 s0.1 x102.1 s0.2.2.1 x102.2 m1_0 m1_1 m1_2 m1_3 m1_4 m1_5) fun x104 hx104=>?_
           conv=>arg 3; whnf
           exact Zd (ih _)
         ·conv=>arg 3; whnf
          refine Zg rfl ?_ ?_
          ·conv=>arg 3; whnf
           refine Zc (Za t0 t1 t2 t3 (w64 (x102.1+1)) s0.2.1 s0.2.2.1 x102.2 m1_0 m1_1 m1_2 m1_3 m1_4 m1_5) (hrc t0 t1 t2 t3 (w64 (x102.1+1)) s0.2.1 s0.2.2.1 x102.2 m1_0 m1_1 m1_2 m1_3 m1_4 m1_5) fun x105 hx105=>?_
           conv=>arg 3; whnf
           exact Zd (ih _)
          ·conv=>arg 3; whnf
           refine Zc (Za t0 t1 t2 t3 (w64 (x102.1+1)) s0.2.1 s0.2.2.1 x102.2 m1_0 m1_1 m1_2 m1_3 m1_4 m1_5) (hrc t0 t1 t2 t3 (w64 (x102.1+1)) s0.2.1 s0.2.2.1 x102.2 m1_0 m1_1 m1_2 m1_3 m1_4 m1_5) fun x106 hx106=>?_
           conv=>arg 3; whnf
           exact Zd (ih _)
        ·conv=>arg 3; whnf
         refine ZQ rfl ?_
         conv=>arg 3; whnf
         refine ZQ rfl ?_
         conv=>arg 3; whnf
         refine Zg rfl ?_ ?_
         ·conv=>arg 3; whnf
          refine Zg rfl ?_ ?_
          ·conv=>arg 3; whnf
           refine Zc (Za t0 t1 t2 t3 s0.1 x102.1 s0.2.2.1 x102.2 m1_0 m1_1 m1_2 m1_3 m1_4 m1_5) (hrc t0 t1 t2 t3 s0.1 x102.1 s0.2.2.1 x102.2 m1_0 m1_1 m1_2 m1_3 m1_4 m1_5) fun x107 hx107=>?_
           conv=>arg 3; whnf
           exact Zd (ih _)
          ·conv=>arg 3; whnf
           refine Zc (Za t0 t1 t2 t3 s0.1 x102.1 s0.2.2.1 x102.2 m1_0 m1_1 m1_2 m1_3 m1_4 m1_5) (hrc t0 t1 t2 t3 s0.1 x102.1 s0.2.2.1 x102.2 m1_0 m1_1 m1_2 m1_3 m1_4 m1_5) fun x108 hx108=>?_
           conv=>arg 3; whnf
           exact Zd (ih _)
         ·conv=>arg 3; whnf
          refine Zg rfl ?_ ?_
          ·conv=>arg 3; whnf
           refine Zc (Za t0 t1 t2 t3 (w64 (x102.1+1)) s0.2.1 s0.2.2.1 x102.2 m1_0 m1_1 m1_2 m1_3 m1_4 m1_5) (hrc t0 t1 t2 t3 (w64 (x102.1+1)) s0.2.1 s0.2.2.1 x102.2 m1_0 m1_1 m1_2 m1_3 m1_4 m1_5) fun x109 hx109=>?_
           conv=>arg 3; whnf
           exact Zd (ih _)
          ·conv=>arg 3; whnf
           refine Zc (Za t0 t1 t2 t3 (w64 (x102.1+1)) s0.2.1 s0.2.2.1 x102.2 m1_0 m1_1 m1_2 m1_3 m1_4 m1_5) (hrc t0 t1 t2 t3 (w64 (x102.1+1)) s0.2.1 s0.2.2.1 x102.2 m1_0 m1_1 m1_2 m1_3 m1_4 m1_5) fun x110 hx110=>?_
           conv=>arg 3; whnf
           exact Zd (ih _)
       ·conv=>arg 3; whnf
        refine Zc _ ZE fun x111 hx111=>?_
        conv=>arg 3; whnf
        exact Zd (ih _)
      ·conv=>arg 3; whnf
       refine Zc _ Zm fun x112 hx112=>?_
       clear hx112
       rcases x112 with x112 | x112
       ·conv=>arg 3; whnf
        refine ZbC rfl ?_
        conv=>arg 3; whnf
        refine ZQ rfl ?_
        conv=>arg 3; whnf
        refine Zg rfl ?_ ?_
        ·conv=>arg 3; whnf
         refine Zg rfl ?_ ?_
         ·conv=>arg 3; whnf
          refine Zc (Za t0 t1 t2 t3 s0.1 x112.1 s0.2.2.1 x112.2 m1_0 m1_1 m1_2 m1_3 m1_4 m1_5) (hrc t0 t1 t2 t3 s0.1 x112.1 s0.2.2.1 x112.2 m1_0 m1_1 m1_2 m1_3 m1_4 m1_5) fun x113 hx113=>?_
          conv=>arg 3; whnf
          exact Zd (ih _)
         ·conv=>arg 3; whnf
          refine Zc (Za t0 t1 t2 t3 s0.1 x112.1 s0.2.2.1 x112.2 m1_0 m1_1 m1_2 m1_3 m1_4 m1_5) (hrc t0 t1 t2 t3 s0.1 x112.1 s0.2.2.1 x112.2 m1_0 m1_1 m1_2 m1_3 m1_4 m1_5) fun x114 hx114=>?_
          conv=>arg 3; whnf
          exact Zd (ih _)
        ·conv=>arg 3; whnf
         refine Zg rfl ?_ ?_
         ·conv=>arg 3; whnf
          refine Zc (Za t0 t1 t2 t3 (w64 (x112.1+1)) s0.2.1 s0.2.2.1 x112.2 m1_0 m1_1 m1_2 m1_3 m1_4 m1_5) (hrc t0 t1 t2 t3 (w64 (x112.1+1)) s0.2.1 s0.2.2.1 x112.2 m1_0 m1_1 m1_2 m1_3 m1_4 m1_5) fun x115 hx115=>?_
          conv=>arg 3; whnf
          exact Zd (ih _)
         ·conv=>arg 3; whnf
          refine Zc (Za t0 t1 t2 t3 (w64 (x112.1+1)) s0.2.1 s0.2.2.1 x112.2 m1_0 m1_1 m1_2 m1_3 m1_4 m1_5) (hrc t0 t1 t2 t3 (w64 (x112.1+1)) s0.2.1 s0.2.2.1 x112.2 m1_0 m1_1 m1_2 m1_3 m1_4 m1_5) fun x116 hx116=>?_
          conv=>arg 3; whnf
          exact Zd (ih _)
       ·conv=>arg 3; whnf
        refine ZQ rfl ?_
        conv=>arg 3; whnf
        refine ZQ rfl ?_
        conv=>arg 3; whnf
        refine Zg rfl ?_ ?_
        ·conv=>arg 3; whnf
         refine Zg rfl ?_ ?_
         ·conv=>arg 3; whnf
          refine Zc (Za t0 t1 t2 t3 s0.1 x112.1 s0.2.2.1 x112.2 m1_0 m1_1 m1_2 m1_3 m1_4 m1_5) (hrc t0 t1 t2 t3 s0.1 x112.1 s0.2.2.1 x112.2 m1_0 m1_1 m1_2 m1_3 m1_4 m1_5) fun x117 hx117=>?_
          conv=>arg 3; whnf
          exact Zd (ih _)
         ·conv=>arg 3; whnf
          refine Zc (Za t0 t1 t2 t3 s0.1 x112.1 s0.2.2.1 x112.2 m1_0 m1_1 m1_2 m1_3 m1_4 m1_5) (hrc t0 t1 t2 t3 s0.1 x112.1 s0.2.2.1 x112.2 m1_0 m1_1 m1_2 m1_3 m1_4 m1_5) fun x118 hx118=>?_
          conv=>arg 3; whnf
          exact Zd (ih _)
        ·conv=>arg 3; whnf
         refine Zg rfl ?_ ?_
         ·conv=>arg 3; whnf
          refine Zc (Za t0 t1 t2 t3 (w64 (x112.1+1)) s0.2.1 s0.2.2.1 x112.2 m1_0 m1_1 m1_2 m1_3 m1_4 m1_5) (hrc t0 t1 t2 t3 (w64 (x112.1+1)) s0.2.1 s0.2.2.1 x112.2 m1_0 m1_1 m1_2 m1_3 m1_4 m1_5) fun x119 hx119=>?_
          conv=>arg 3; whnf
          exact Zd (ih _)
         ·conv=>arg 3; whnf
          refine Zc (Za t0 t1 t2 t3 (w64 (x112.1+1)) s0.2.1 s0.2.2.1 x112.2 m1_0 m1_1 m1_2 m1_3 m1_4 m1_5) (hrc t0 t1 t2 t3 (w64 (x112.1+1)) s0.2.1 s0.2.2.1 x112.2 m1_0 m1_1 m1_2 m1_3 m1_4 m1_5) fun x120 hx120=>?_
          conv=>arg 3; whnf
          exact Zd (ih _)
  ·refine Zng ?_
   conv=>arg 3; whnf
   refine Zg rfl ?_ ?_
   ·conv=>arg 3; whnf
    refine Zc _ ZaP fun x1 hx1=>?_
    conv=>arg 3; whnf
    exact Zh rfl
   ·conv=>arg 3; whnf
    refine Zg rfl ?_ ?_
    ·conv=>arg 3; whnf
     refine Zc _ Za9 fun x2 hx2=>?_
     conv=>arg 3; whnf
     exact Zh rfl
    ·conv=>arg 3; whnf
     refine Zc _ ZaW fun x3 hx3=>?_
     conv=>arg 3; whnf
     refine Zg rfl ?_ ?_
     ·conv=>arg 3; whnf
      refine Zc _ ZaV fun x4 hx4=>?_
      conv=>arg 3; whnf
      refine ZbC rfl ?_
      conv=>arg 3; whnf
      refine Zc _ Zb1 fun x5 hx5=>?_
      clear hx5
      rcases x5 with x5 | x5
      ·conv=>arg 3; whnf
       exact Zh rfl
      ·conv=>arg 3; whnf
       refine Zg rfl ?_ ?_
       ·conv=>arg 3; whnf
        refine Zj rfl rfl fun x6 hx6=>?_
        conv=>arg 3; whnf
        refine Zf (Zl rfl hx6) ?_
        conv=>arg 3; whnf
        refine Zj rfl rfl fun x7 hx7=>?_
        conv=>arg 3; whnf
        refine Zf (Zl rfl hx7) ?_
        conv=>arg 3; whnf
        refine Zp _ ZN rfl fun x8 hx8=>?_
        conv=>arg 3; whnf
        refine Zg rfl ?_ ?_
        ·conv=>arg 3; whnf
         refine Zc _ Zm fun x9 hx9=>?_
         clear hx9
         rcases x9 with x9 | x9
         ·conv=>arg 3; whnf
          refine ZbC rfl ?_
          conv=>arg 3; whnf
          refine ZQ rfl ?_
          conv=>arg 3; whnf
          refine Zg rfl ?_ ?_
          ·conv=>arg 3; whnf
           refine Zg rfl ?_ ?_
           ·conv=>arg 3; whnf
            refine Zc (Za t0 t1 t2 t3 s0.1 x9.1 s0.2.2.1 x9.2 m1_0 m1_1 m1_2 m1_3 m1_4 m1_5) (hrc t0 t1 t2 t3 s0.1 x9.1 s0.2.2.1 x9.2 m1_0 m1_1 m1_2 m1_3 m1_4 m1_5) fun x10 hx10=>?_
            conv=>arg 3; whnf
            exact Zd (ih _)
           ·conv=>arg 3; whnf
            refine Zc (Za t0 t1 t2 t3 s0.1 x9.1 s0.2.2.1 x9.2 m1_0 m1_1 m1_2 m1_3 m1_4 m1_5) (hrc t0 t1 t2 t3 s0.1 x9.1 s0.2.2.1 x9.2 m1_0 m1_1 m1_2 m1_3 m1_4 m1_5) fun x11 hx11=>?_
            conv=>arg 3; whnf
            exact Zd (ih _)
          ·conv=>arg 3; whnf
           refine Zg rfl ?_ ?_
           ·conv=>arg 3; whnf
            refine Zc (Za t0 t1 t2 t3 (w64 (x9.1+1)) s0.2.1 s0.2.2.1 x9.2 m1_0 m1_1 m1_2 m1_3 m1_4 m1_5) (hrc t0 t1 t2 t3 (w64 (x9.1+1)) s0.2.1 s0.2.2.1 x9.2 m1_0 m1_1 m1_2 m1_3 m1_4 m1_5) fun x12 hx12=>?_
            conv=>arg 3; whnf
            exact Zd (ih _)
           ·conv=>arg 3; whnf
            refine Zc (Za t0 t1 t2 t3 (w64 (x9.1+1)) s0.2.1 s0.2.2.1 x9.2 m1_0 m1_1 m1_2 m1_3 m1_4 m1_5) (hrc t0 t1 t2 t3 (w64 (x9.1+1)) s0.2.1 s0.2.2.1 x9.2 m1_0 m1_1 m1_2 m1_3 m1_4 m1_5) fun x13 hx13=>?_
            conv=>arg 3; whnf
            exact Zd (ih _)
         ·conv=>arg 3; whnf
          refine ZQ rfl ?_
          conv=>arg 3; whnf
          refine ZQ rfl ?_
          conv=>arg 3; whnf
          refine Zg rfl ?_ ?_
          ·conv=>arg 3; whnf
           refine Zg rfl ?_ ?_
           ·conv=>arg 3; whnf
            refine Zc (Za t0 t1 t2 t3 s0.1 x9.1 s0.2.2.1 x9.2 m1_0 m1_1 m1_2 m1_3 m1_4 m1_5) (hrc t0 t1 t2 t3 s0.1 x9.1 s0.2.2.1 x9.2 m1_0 m1_1 m1_2 m1_3 m1_4 m1_5) fun x14 hx14=>?_
            conv=>arg 3; whnf
            exact Zd (ih _)
           ·conv=>arg 3; whnf
            refine Zc (Za t0 t1 t2 t3 s0.1 x9.1 s0.2.2.1 x9.2 m1_0 m1_1 m1_2 m1_3 m1_4 m1_5) (hrc t0 t1 t2 t3 s0.1 x9.1 s0.2.2.1 x9.2 m1_0 m1_1 m1_2 m1_3 m1_4 m1_5) fun x15 hx15=>?_
            conv=>arg 3; whnf
            exact Zd (ih _)
          ·conv=>arg 3; whnf
           refine Zg rfl ?_ ?_
           ·conv=>arg 3; whnf
            refine Zc (Za t0 t1 t2 t3 (w64 (x9.1+1)) s0.2.1 s0.2.2.1 x9.2 m1_0 m1_1 m1_2 m1_3 m1_4 m1_5) (hrc t0 t1 t2 t3 (w64 (x9.1+1)) s0.2.1 s0.2.2.1 x9.2 m1_0 m1_1 m1_2 m1_3 m1_4 m1_5) fun x16 hx16=>?_
            conv=>arg 3; whnf
            exact Zd (ih _)
           ·conv=>arg 3; whnf
            refine Zc (Za t0 t1 t2 t3 (w64 (x9.1+1)) s0.2.1 s0.2.2.1 x9.2 m1_0 m1_1 m1_2 m1_3 m1_4 m1_5) (hrc t0 t1 t2 t3 (w64 (x9.1+1)) s0.2.1 s0.2.2.1 x9.2 m1_0 m1_1 m1_2 m1_3 m1_4 m1_5) fun x17 hx17=>?_
            conv=>arg 3; whnf
            exact Zd (ih _)
        ·conv=>arg 3; whnf
         refine Zc _ ZE fun x18 hx18=>?_
         conv=>arg 3; whnf
         exact Zd (ih _)
       ·conv=>arg 3; whnf
        refine Zc _ Zm fun x19 hx19=>?_
        clear hx19
        rcases x19 with x19 | x19
        ·conv=>arg 3; whnf
         refine ZbC rfl ?_
         conv=>arg 3; whnf
         refine ZQ rfl ?_
         conv=>arg 3; whnf
         refine Zg rfl ?_ ?_
         ·conv=>arg 3; whnf
          refine Zg rfl ?_ ?_
          ·conv=>arg 3; whnf
           refine Zc (Za t0 t1 t2 t3 s0.1 x19.1 s0.2.2.1 x19.2 m1_0 m1_1 m1_2 m1_3 m1_4 m1_5) (hrc t0 t1 t2 t3 s0.1 x19.1 s0.2.2.1 x19.2 m1_0 m1_1 m1_2 m1_3 m1_4 m1_5) fun x20 hx20=>?_
           conv=>arg 3; whnf
           exact Zd (ih _)
          ·conv=>arg 3; whnf
           refine Zc (Za t0 t1 t2 t3 s0.1 x19.1 s0.2.2.1 x19.2 m1_0 m1_1 m1_2 m1_3 m1_4 m1_5) (hrc t0 t1 t2 t3 s0.1 x19.1 s0.2.2.1 x19.2 m1_0 m1_1 m1_2 m1_3 m1_4 m1_5) fun x21 hx21=>?_
           conv=>arg 3; whnf
           exact Zd (ih _)
         ·conv=>arg 3; whnf
          refine Zg rfl ?_ ?_
          ·conv=>arg 3; whnf
           refine Zc (Za t0 t1 t2 t3 (w64 (x19.1+1)) s0.2.1 s0.2.2.1 x19.2 m1_0 m1_1 m1_2 m1_3 m1_4 m1_5) (hrc t0 t1 t2 t3 (w64 (x19.1+1)) s0.2.1 s0.2.2.1 x19.2 m1_0 m1_1 m1_2 m1_3 m1_4 m1_5) fun x22 hx22=>?_
           conv=>arg 3; whnf
           exact Zd (ih _)
          ·conv=>arg 3; whnf
           refine Zc (Za t0 t1 t2 t3 (w64 (x19.1+1)) s0.2.1 s0.2.2.1 x19.2 m1_0 m1_1 m1_2 m1_3 m1_4 m1_5) (hrc t0 t1 t2 t3 (w64 (x19.1+1)) s0.2.1 s0.2.2.1 x19.2 m1_0 m1_1 m1_2 m1_3 m1_4 m1_5) fun x23 hx23=>?_
           conv=>arg 3; whnf
           exact Zd (ih _)
        ·conv=>arg 3; whnf
         refine ZQ rfl ?_
         conv=>arg 3; whnf
         refine ZQ rfl ?_
         conv=>arg 3; whnf
         refine Zg rfl ?_ ?_
         ·conv=>arg 3; whnf
          refine Zg rfl ?_ ?_
          ·conv=>arg 3; whnf
           refine Zc (Za t0 t1 t2 t3 s0.1 x19.1 s0.2.2.1 x19.2 m1_0 m1_1 m1_2 m1_3 m1_4 m1_5) (hrc t0 t1 t2 t3 s0.1 x19.1 s0.2.2.1 x19.2 m1_0 m1_1 m1_2 m1_3 m1_4 m1_5) fun x24 hx24=>?_
           conv=>arg 3; whnf
           exact Zd (ih _)
          ·conv=>arg 3; whnf
           refine Zc (Za t0 t1 t2 t3 s0.1 x19.1 s0.2.2.1 x19.2 m1_0 m1_1 m1_2 m1_3 m1_4 m1_5) (hrc t0 t1 t2 t3 s0.1 x19.1 s0.2.2.1 x19.2 m1_0 m1_1 m1_2 m1_3 m1_4 m1_5) fun x25 hx25=>?_
           conv=>arg 3; whnf
           exact Zd (ih _)
         ·conv=>arg 3; whnf
          refine Zg rfl ?_ ?_
          ·conv=>arg 3; whnf
           refine Zc (Za t0 t1 t2 t3 (w64 (x19.1+1)) s0.2.1 s0.2.2.1 x19.2 m1_0 m1_1 m1_2 m1_3 m1_4 m1_5) (hrc t0 t1 t2 t3 (w64 (x19.1+1)) s0.2.1 s0.2.2.1 x19.2 m1_0 m1_1 m1_2 m1_3 m1_4 m1_5) fun x26 hx26=>?_
           conv=>arg 3; whnf
           exact Zd (ih _)
          ·conv=>arg 3; whnf
           refine Zc (Za t0 t1 t2 t3 (w64 (x19.1+1)) s0.2.1 s0.2.2.1 x19.2 m1_0 m1_1 m1_2 m1_3 m1_4 m1_5) (hrc t0 t1 t2 t3 (w64 (x19.1+1)) s0.2.1 s0.2.2.1 x19.2 m1_0 m1_1 m1_2 m1_3 m1_4 m1_5) fun x27 hx27=>?_
           conv=>arg 3; whnf
           exact Zd (ih _)
     ·conv=>arg 3; whnf
      refine Zg rfl ?_ ?_
      ·conv=>arg 3; whnf
       refine Zc _ Zb1 fun x28 hx28=>?_
       clear hx28
       rcases x28 with x28 | x28
       ·conv=>arg 3; whnf
        exact Zh rfl
       ·conv=>arg 3; whnf
        refine Zg rfl ?_ ?_
        ·conv=>arg 3; whnf
         refine Zj rfl rfl fun x29 hx29=>?_
         conv=>arg 3; whnf
         refine Zf (Zl rfl hx29) ?_
         conv=>arg 3; whnf
         refine Zj rfl rfl fun x30 hx30=>?_
         conv=>arg 3; whnf
         refine Zf (Zl rfl hx30) ?_
         conv=>arg 3; whnf
         refine Zp _ ZN rfl fun x31 hx31=>?_
         conv=>arg 3; whnf
         refine Zg rfl ?_ ?_
         ·conv=>arg 3; whnf
          refine Zc _ Zm fun x32 hx32=>?_
          clear hx32
          rcases x32 with x32 | x32
          ·conv=>arg 3; whnf
           refine ZbC rfl ?_
           conv=>arg 3; whnf
           refine ZQ rfl ?_
           conv=>arg 3; whnf
           refine Zg rfl ?_ ?_
           ·conv=>arg 3; whnf
            refine Zg rfl ?_ ?_
            ·conv=>arg 3; whnf
             refine Zc (Za t0 t1 t2 t3 s0.1 x32.1 s0.2.2.1 x32.2 m1_0 m1_1 m1_2 m1_3 m1_4 m1_5) (hrc t0 t1 t2 t3 s0.1 x32.1 s0.2.2.1 x32.2 m1_0 m1_1 m1_2 m1_3 m1_4 m1_5) fun x33 hx33=>?_
             conv=>arg 3; whnf
             exact Zd (ih _)
            ·conv=>arg 3; whnf
             refine Zc (Za t0 t1 t2 t3 s0.1 x32.1 s0.2.2.1 x32.2 m1_0 m1_1 m1_2 m1_3 m1_4 m1_5) (hrc t0 t1 t2 t3 s0.1 x32.1 s0.2.2.1 x32.2 m1_0 m1_1 m1_2 m1_3 m1_4 m1_5) fun x34 hx34=>?_
             conv=>arg 3; whnf
             exact Zd (ih _)
           ·conv=>arg 3; whnf
            refine Zg rfl ?_ ?_
            ·conv=>arg 3; whnf
             refine Zc (Za t0 t1 t2 t3 (w64 (x32.1+1)) s0.2.1 s0.2.2.1 x32.2 m1_0 m1_1 m1_2 m1_3 m1_4 m1_5) (hrc t0 t1 t2 t3 (w64 (x32.1+1)) s0.2.1 s0.2.2.1 x32.2 m1_0 m1_1 m1_2 m1_3 m1_4 m1_5) fun x35 hx35=>?_
             conv=>arg 3; whnf
             exact Zd (ih _)
            ·conv=>arg 3; whnf
             refine Zc (Za t0 t1 t2 t3 (w64 (x32.1+1)) s0.2.1 s0.2.2.1 x32.2 m1_0 m1_1 m1_2 m1_3 m1_4 m1_5) (hrc t0 t1 t2 t3 (w64 (x32.1+1)) s0.2.1 s0.2.2.1 x32.2 m1_0 m1_1 m1_2 m1_3 m1_4 m1_5) fun x36 hx36=>?_
             conv=>arg 3; whnf
             exact Zd (ih _)
          ·conv=>arg 3; whnf
           refine ZQ rfl ?_
           conv=>arg 3; whnf
           refine ZQ rfl ?_
           conv=>arg 3; whnf
           refine Zg rfl ?_ ?_
           ·conv=>arg 3; whnf
            refine Zg rfl ?_ ?_
            ·conv=>arg 3; whnf
             refine Zc (Za t0 t1 t2 t3 s0.1 x32.1 s0.2.2.1 x32.2 m1_0 m1_1 m1_2 m1_3 m1_4 m1_5) (hrc t0 t1 t2 t3 s0.1 x32.1 s0.2.2.1 x32.2 m1_0 m1_1 m1_2 m1_3 m1_4 m1_5) fun x37 hx37=>?_
             conv=>arg 3; whnf
             exact Zd (ih _)
            ·conv=>arg 3; whnf
             refine Zc (Za t0 t1 t2 t3 s0.1 x32.1 s0.2.2.1 x32.2 m1_0 m1_1 m1_2 m1_3 m1_4 m1_5) (hrc t0 t1 t2 t3 s0.1 x32.1 s0.2.2.1 x32.2 m1_0 m1_1 m1_2 m1_3 m1_4 m1_5) fun x38 hx38=>?_
             conv=>arg 3; whnf
             exact Zd (ih _)
           ·conv=>arg 3; whnf
            refine Zg rfl ?_ ?_
            ·conv=>arg 3; whnf
             refine Zc (Za t0 t1 t2 t3 (w64 (x32.1+1)) s0.2.1 s0.2.2.1 x32.2 m1_0 m1_1 m1_2 m1_3 m1_4 m1_5) (hrc t0 t1 t2 t3 (w64 (x32.1+1)) s0.2.1 s0.2.2.1 x32.2 m1_0 m1_1 m1_2 m1_3 m1_4 m1_5) fun x39 hx39=>?_
             conv=>arg 3; whnf
             exact Zd (ih _)
            ·conv=>arg 3; whnf
             refine Zc (Za t0 t1 t2 t3 (w64 (x32.1+1)) s0.2.1 s0.2.2.1 x32.2 m1_0 m1_1 m1_2 m1_3 m1_4 m1_5) (hrc t0 t1 t2 t3 (w64 (x32.1+1)) s0.2.1 s0.2.2.1 x32.2 m1_0 m1_1 m1_2 m1_3 m1_4 m1_5) fun x40 hx40=>?_
             conv=>arg 3; whnf
             exact Zd (ih _)
         ·conv=>arg 3; whnf
          refine Zc _ ZE fun x41 hx41=>?_
          conv=>arg 3; whnf
          exact Zd (ih _)
        ·conv=>arg 3; whnf
         refine Zc _ Zm fun x42 hx42=>?_
         clear hx42
         rcases x42 with x42 | x42
         ·conv=>arg 3; whnf
          refine ZbC rfl ?_
          conv=>arg 3; whnf
          refine ZQ rfl ?_
          conv=>arg 3; whnf
          refine Zg rfl ?_ ?_
          ·conv=>arg 3; whnf
           refine Zg rfl ?_ ?_
           ·conv=>arg 3; whnf
            refine Zc (Za t0 t1 t2 t3 s0.1 x42.1 s0.2.2.1 x42.2 m1_0 m1_1 m1_2 m1_3 m1_4 m1_5) (hrc t0 t1 t2 t3 s0.1 x42.1 s0.2.2.1 x42.2 m1_0 m1_1 m1_2 m1_3 m1_4 m1_5) fun x43 hx43=>?_
            conv=>arg 3; whnf
            exact Zd (ih _)
           ·conv=>arg 3; whnf
            refine Zc (Za t0 t1 t2 t3 s0.1 x42.1 s0.2.2.1 x42.2 m1_0 m1_1 m1_2 m1_3 m1_4 m1_5) (hrc t0 t1 t2 t3 s0.1 x42.1 s0.2.2.1 x42.2 m1_0 m1_1 m1_2 m1_3 m1_4 m1_5) fun x44 hx44=>?_
            conv=>arg 3; whnf
            exact Zd (ih _)
          ·conv=>arg 3; whnf
           refine Zg rfl ?_ ?_
           ·conv=>arg 3; whnf
            refine Zc (Za t0 t1 t2 t3 (w64 (x42.1+1)) s0.2.1 s0.2.2.1 x42.2 m1_0 m1_1 m1_2 m1_3 m1_4 m1_5) (hrc t0 t1 t2 t3 (w64 (x42.1+1)) s0.2.1 s0.2.2.1 x42.2 m1_0 m1_1 m1_2 m1_3 m1_4 m1_5) fun x45 hx45=>?_
            conv=>arg 3; whnf
            exact Zd (ih _)
           ·conv=>arg 3; whnf
            refine Zc (Za t0 t1 t2 t3 (w64 (x42.1+1)) s0.2.1 s0.2.2.1 x42.2 m1_0 m1_1 m1_2 m1_3 m1_4 m1_5) (hrc t0 t1 t2 t3 (w64 (x42.1+1)) s0.2.1 s0.2.2.1 x42.2 m1_0 m1_1 m1_2 m1_3 m1_4 m1_5) fun x46 hx46=>?_
            conv=>arg 3; whnf
            exact Zd (ih _)
         ·conv=>arg 3; whnf
          refine ZQ rfl ?_
          conv=>arg 3; whnf
          refine ZQ rfl ?_
          conv=>arg 3; whnf
          refine Zg rfl ?_ ?_
          ·conv=>arg 3; whnf
           refine Zg rfl ?_ ?_
           ·conv=>arg 3; whnf
            refine Zc (Za t0 t1 t2 t3 s0.1 x42.1 s0.2.2.1 x42.2 m1_0 m1_1 m1_2 m1_3 m1_4 m1_5) (hrc t0 t1 t2 t3 s0.1 x42.1 s0.2.2.1 x42.2 m1_0 m1_1 m1_2 m1_3 m1_4 m1_5) fun x47 hx47=>?_
            conv=>arg 3; whnf
            exact Zd (ih _)
           ·conv=>arg 3; whnf
            refine Zc (Za t0 t1 t2 t3 s0.1 x42.1 s0.2.2.1 x42.2 m1_0 m1_1 m1_2 m1_3 m1_4 m1_5) (hrc t0 t1 t2 t3 s0.1 x42.1 s0.2.2.1 x42.2 m1_0 m1_1 m1_2 m1_3 m1_4 m1_5) fun x48 hx48=>?_
            conv=>arg 3; whnf
            exact Zd (ih _)
          ·conv=>arg 3; whnf
           refine Zg rfl ?_ ?_
           ·conv=>arg 3; whnf
            refine Zc (Za t0 t1 t2 t3 (w64 (x42.1+1)) s0.2.1 s0.2.2.1 x42.2 m1_0 m1_1 m1_2 m1_3 m1_4 m1_5) (hrc t0 t1 t2 t3 (w64 (x42.1+1)) s0.2.1 s0.2.2.1 x42.2 m1_0 m1_1 m1_2 m1_3 m1_4 m1_5) fun x49 hx49=>?_
            conv=>arg 3; whnf
            exact Zd (ih _)
           ·conv=>arg 3; whnf
            refine Zc (Za t0 t1 t2 t3 (w64 (x42.1+1)) s0.2.1 s0.2.2.1 x42.2 m1_0 m1_1 m1_2 m1_3 m1_4 m1_5) (hrc t0 t1 t2 t3 (w64 (x42.1+1)) s0.2.1 s0.2.2.1 x42.2 m1_0 m1_1 m1_2 m1_3 m1_4 m1_5) fun x50 hx50=>?_
            conv=>arg 3; whnf
            exact Zd (ih _)
      ·conv=>arg 3; whnf
       refine Zg rfl ?_ ?_
       ·conv=>arg 3; whnf
        refine Zj rfl rfl fun x51 hx51=>?_
        conv=>arg 3; whnf
        refine Zf (Zl rfl hx51) ?_
        conv=>arg 3; whnf
        refine Zj rfl rfl fun x52 hx52=>?_
        conv=>arg 3; whnf
        refine Zf (Zl rfl hx52) ?_
        conv=>arg 3; whnf
        refine Zp _ ZN rfl fun x53 hx53=>?_
        conv=>arg 3; whnf
        refine Zg rfl ?_ ?_
        ·conv=>arg 3; whnf
         refine Zc _ Zm fun x54 hx54=>?_
         clear hx54
         rcases x54 with x54 | x54
         ·conv=>arg 3; whnf
          refine ZbC rfl ?_
          conv=>arg 3; whnf
          refine ZQ rfl ?_
          conv=>arg 3; whnf
          refine Zg rfl ?_ ?_
          ·conv=>arg 3; whnf
           refine Zg rfl ?_ ?_
           ·conv=>arg 3; whnf
            refine Zc (Za t0 t1 t2 t3 s0.1 x54.1 s0.2.2.1 x54.2 m1_0 m1_1 m1_2 m1_3 m1_4 m1_5) (hrc t0 t1 t2 t3 s0.1 x54.1 s0.2.2.1 x54.2 m1_0 m1_1 m1_2 m1_3 m1_4 m1_5) fun x55 hx55=>?_
            conv=>arg 3; whnf
            exact Zd (ih _)
           ·conv=>arg 3; whnf
            refine Zc (Za t0 t1 t2 t3 s0.1 x54.1 s0.2.2.1 x54.2 m1_0 m1_1 m1_2 m1_3 m1_4 m1_5) (hrc t0 t1 t2 t3 s0.1 x54.1 s0.2.2.1 x54.2 m1_0 m1_1 m1_2 m1_3 m1_4 m1_5) fun x56 hx56=>?_
            conv=>arg 3; whnf
            exact Zd (ih _)
          ·conv=>arg 3; whnf
           refine Zg rfl ?_ ?_
           ·conv=>arg 3; whnf
            refine Zc (Za t0 t1 t2 t3 (w64 (x54.1+1)) s0.2.1 s0.2.2.1 x54.2 m1_0 m1_1 m1_2 m1_3 m1_4 m1_5) (hrc t0 t1 t2 t3 (w64 (x54.1+1)) s0.2.1 s0.2.2.1 x54.2 m1_0 m1_1 m1_2 m1_3 m1_4 m1_5) fun x57 hx57=>?_
            conv=>arg 3; whnf
            exact Zd (ih _)
           ·conv=>arg 3; whnf
            refine Zc (Za t0 t1 t2 t3 (w64 (x54.1+1)) s0.2.1 s0.2.2.1 x54.2 m1_0 m1_1 m1_2 m1_3 m1_4 m1_5) (hrc t0 t1 t2 t3 (w64 (x54.1+1)) s0.2.1 s0.2.2.1 x54.2 m1_0 m1_1 m1_2 m1_3 m1_4 m1_5) fun x58 hx58=>?_
            conv=>arg 3; whnf
            exact Zd (ih _)
         ·conv=>arg 3; whnf
          refine ZQ rfl ?_
          conv=>arg 3; whnf
          refine ZQ rfl ?_
          conv=>arg 3; whnf
          refine Zg rfl ?_ ?_
          ·conv=>arg 3; whnf
           refine Zg rfl ?_ ?_
           ·conv=>arg 3; whnf
            refine Zc (Za t0 t1 t2 t3 s0.1 x54.1 s0.2.2.1 x54.2 m1_0 m1_1 m1_2 m1_3 m1_4 m1_5) (hrc t0 t1 t2 t3 s0.1 x54.1 s0.2.2.1 x54.2 m1_0 m1_1 m1_2 m1_3 m1_4 m1_5) fun x59 hx59=>?_
            conv=>arg 3; whnf
            exact Zd (ih _)
           ·conv=>arg 3; whnf
            refine Zc (Za t0 t1 t2 t3 s0.1 x54.1 s0.2.2.1 x54.2 m1_0 m1_1 m1_2 m1_3 m1_4 m1_5) (hrc t0 t1 t2 t3 s0.1 x54.1 s0.2.2.1 x54.2 m1_0 m1_1 m1_2 m1_3 m1_4 m1_5) fun x60 hx60=>?_
            conv=>arg 3; whnf
            exact Zd (ih _)
          ·conv=>arg 3; whnf
           refine Zg rfl ?_ ?_
           ·conv=>arg 3; whnf
            refine Zc (Za t0 t1 t2 t3 (w64 (x54.1+1)) s0.2.1 s0.2.2.1 x54.2 m1_0 m1_1 m1_2 m1_3 m1_4 m1_5) (hrc t0 t1 t2 t3 (w64 (x54.1+1)) s0.2.1 s0.2.2.1 x54.2 m1_0 m1_1 m1_2 m1_3 m1_4 m1_5) fun x61 hx61=>?_
            conv=>arg 3; whnf
            exact Zd (ih _)
           ·conv=>arg 3; whnf
            refine Zc (Za t0 t1 t2 t3 (w64 (x54.1+1)) s0.2.1 s0.2.2.1 x54.2 m1_0 m1_1 m1_2 m1_3 m1_4 m1_5) (hrc t0 t1 t2 t3 (w64 (x54.1+1)) s0.2.1 s0.2.2.1 x54.2 m1_0 m1_1 m1_2 m1_3 m1_4 m1_5) fun x62 hx62=>?_
            conv=>arg 3; whnf
            exact Zd (ih _)
        ·conv=>arg 3; whnf
         refine Zc _ ZE fun x63 hx63=>?_
         conv=>arg 3; whnf
         exact Zd (ih _)
       ·conv=>arg 3; whnf
        refine Zc _ Zm fun x64 hx64=>?_
        clear hx64
        rcases x64 with x64 | x64
        ·conv=>arg 3; whnf
         refine ZbC rfl ?_
         conv=>arg 3; whnf
         refine ZQ rfl ?_
         conv=>arg 3; whnf
         refine Zg rfl ?_ ?_
         ·conv=>arg 3; whnf
          refine Zg rfl ?_ ?_
          ·conv=>arg 3; whnf
           refine Zc (Za t0 t1 t2 t3 s0.1 x64.1 s0.2.2.1 x64.2 m1_0 m1_1 m1_2 m1_3 m1_4 m1_5) (hrc t0 t1 t2 t3 s0.1 x64.1 s0.2.2.1 x64.2 m1_0 m1_1 m1_2 m1_3 m1_4 m1_5) fun x65 hx65=>?_
           conv=>arg 3; whnf
           exact Zd (ih _)
          ·conv=>arg 3; whnf
           refine Zc (Za t0 t1 t2 t3 s0.1 x64.1 s0.2.2.1 x64.2 m1_0 m1_1 m1_2 m1_3 m1_4 m1_5) (hrc t0 t1 t2 t3 s0.1 x64.1 s0.2.2.1 x64.2 m1_0 m1_1 m1_2 m1_3 m1_4 m1_5) fun x66 hx66=>?_
           conv=>arg 3; whnf
           exact Zd (ih _)
         ·conv=>arg 3; whnf
          refine Zg rfl ?_ ?_
          ·conv=>arg 3; whnf
           refine Zc (Za t0 t1 t2 t3 (w64 (x64.1+1)) s0.2.1 s0.2.2.1 x64.2 m1_0 m1_1 m1_2 m1_3 m1_4 m1_5) (hrc t0 t1 t2 t3 (w64 (x64.1+1)) s0.2.1 s0.2.2.1 x64.2 m1_0 m1_1 m1_2 m1_3 m1_4 m1_5) fun x67 hx67=>?_
           conv=>arg 3; whnf
           exact Zd (ih _)
          ·conv=>arg 3; whnf
           refine Zc (Za t0 t1 t2 t3 (w64 (x64.1+1)) s0.2.1 s0.2.2.1 x64.2 m1_0 m1_1 m1_2 m1_3 m1_4 m1_5) (hrc t0 t1 t2 t3 (w64 (x64.1+1)) s0.2.1 s0.2.2.1 x64.2 m1_0 m1_1 m1_2 m1_3 m1_4 m1_5) fun x68 hx68=>?_
           conv=>arg 3; whnf
           exact Zd (ih _)
        ·conv=>arg 3; whnf
         refine ZQ rfl ?_
         conv=>arg 3; whnf
         refine ZQ rfl ?_
         conv=>arg 3; whnf
         refine Zg rfl ?_ ?_
         ·conv=>arg 3; whnf
          refine Zg rfl ?_ ?_
          ·conv=>arg 3; whnf
           refine Zc (Za t0 t1 t2 t3 s0.1 x64.1 s0.2.2.1 x64.2 m1_0 m1_1 m1_2 m1_3 m1_4 m1_5) (hrc t0 t1 t2 t3 s0.1 x64.1 s0.2.2.1 x64.2 m1_0 m1_1 m1_2 m1_3 m1_4 m1_5) fun x69 hx69=>?_
           conv=>arg 3; whnf
           exact Zd (ih _)
          ·conv=>arg 3; whnf
           refine Zc (Za t0 t1 t2 t3 s0.1 x64.1 s0.2.2.1 x64.2 m1_0 m1_1 m1_2 m1_3 m1_4 m1_5) (hrc t0 t1 t2 t3 s0.1 x64.1 s0.2.2.1 x64.2 m1_0 m1_1 m1_2 m1_3 m1_4 m1_5) fun x70 hx70=>?_
           conv=>arg 3; whnf
           exact Zd (ih _)
         ·conv=>arg 3; whnf
          refine Zg rfl ?_ ?_
          ·conv=>arg 3; whnf
           refine Zc (Za t0 t1 t2 t3 (w64 (x64.1+1)) s0.2.1 s0.2.2.1 x64.2 m1_0 m1_1 m1_2 m1_3 m1_4 m1_5) (hrc t0 t1 t2 t3 (w64 (x64.1+1)) s0.2.1 s0.2.2.1 x64.2 m1_0 m1_1 m1_2 m1_3 m1_4 m1_5) fun x71 hx71=>?_
           conv=>arg 3; whnf
           exact Zd (ih _)
          ·conv=>arg 3; whnf
           refine Zc (Za t0 t1 t2 t3 (w64 (x64.1+1)) s0.2.1 s0.2.2.1 x64.2 m1_0 m1_1 m1_2 m1_3 m1_4 m1_5) (hrc t0 t1 t2 t3 (w64 (x64.1+1)) s0.2.1 s0.2.2.1 x64.2 m1_0 m1_1 m1_2 m1_3 m1_4 m1_5) fun x72 hx72=>?_
           conv=>arg 3; whnf
           exact Zd (ih _)
theorem Zfg (rc:Int→Int→Int→(Int→Int→Option Int)→(List Int)→Option (List Int)) (hrc:∀(t0:Bool) (t1:Bool) (t2:Bool) (t3:Bool) (b:Int) (c:Int) (d:Int) (m0_0:(List Int)) (m1_0:Int) (m1_1:Int) (m1_2:(List Zal)) (m1_3:(List Zr)) (m1_4:(List Zk)) (m1_5:(List Zu)) (r:(List Int)),rc b c d (fun z0 z1=>Zw z0 z1 m1_4) m0_0=some r→evW ctx 138 [(.sl 0 1),(.d (Ze b)),(.d (Ze c)),(.d (Ze d)),(.fn 121 [(.ptr 1 0)])] [(.arr 1 (List.map Ze m0_0)),(.cells [(.d (Ze m1_0)),(.d (Ze m1_1)),(.d (D.list t0 (List.map Zau m1_2))),(.d (D.list t1 (List.map ZI m1_3))),(.d (D.list t2 (List.map Zs m1_4))),(.d (D.list t3 (List.map ZA m1_5)))])]=some ((Za t0 t1 t2 t3 b c d m0_0 m1_0 m1_1 m1_2 m1_3 m1_4 m1_5) r)) (t0:Bool) (t1:Bool) (t2:Bool) (t3:Bool) (b:Int) (c:Int) (d:Int) (m0_0:(List Int)) (m1_0:Int) (m1_1:Int) (m1_2:(List Zal)) (m1_3:(List Zr)) (m1_4:(List Zk)) (m1_5:(List Zu)):∀r,(ZaD rc b c d (fun z0 z1=>Zw z0 z1 m1_4) m0_0)=some r→evW ctx 138 [(.sl 0 1),(.d (Ze b)),(.d (Ze c)),(.d (Ze d)),(.fn 121 [(.ptr 1 0)])] [(.arr 1 (List.map Ze m0_0)),(.cells [(.d (Ze m1_0)),(.d (Ze m1_1)),(.d (D.list t0 (List.map Zau m1_2))),(.d (D.list t1 (List.map ZI m1_3))),(.d (D.list t2 (List.map Zs m1_4))),(.d (D.list t3 (List.map ZA m1_5)))])]=some ((Za t0 t1 t2 t3 b c d m0_0 m1_0 m1_1 m1_2 m1_3 m1_4 m1_5) r):=by
 show Z6 _ (fun r rhs=>rhs=some ((Za t0 t1 t2 t3 b c d m0_0 m1_0 m1_1 m1_2 m1_3 m1_4 m1_5) r)) _
 unfold ZaD
 rw[Zeh ctx 138 Zv9 _ _ rfl rfl]
 conv=>arg 3; whnf
 refine Zc _ (Ze9 hrc _) fun r219 hr219=>?_
 conv=>arg 3; whnf
 exact Zh rfl
theorem ZcW:∀(n:Nat) (t0:Bool) (t1:Bool) (t2:Bool) (t3:Bool) (b:Int) (c:Int) (d:Int) (m0_0:(List Int)) (m1_0:Int) (m1_1:Int) (m1_2:(List Zal)) (m1_3:(List Zr)) (m1_4:(List Zk)) (m1_5:(List Zu)) (r:(List Int)),ZZ n b c d (fun z0 z1=>Zw z0 z1 m1_4) m0_0=some r→evW ctx 138 [(.sl 0 1),(.d (Ze b)),(.d (Ze c)),(.d (Ze d)),(.fn 121 [(.ptr 1 0)])] [(.arr 1 (List.map Ze m0_0)),(.cells [(.d (Ze m1_0)),(.d (Ze m1_1)),(.d (D.list t0 (List.map Zau m1_2))),(.d (D.list t1 (List.map ZI m1_3))),(.d (D.list t2 (List.map Zs m1_4))),(.d (D.list t3 (List.map ZA m1_5)))])]=some ((Za t0 t1 t2 t3 b c d m0_0 m1_0 m1_1 m1_2 m1_3 m1_4 m1_5) r)
  | 0,t0,t1,t2,t3,b,c,d,m0_0,m1_0,m1_1,m1_2,m1_3,m1_4,m1_5,r,h=>by cases h
  | n+1,t0,t1,t2,t3,b,c,d,m0_0,m1_0,m1_1,m1_2,m1_3,m1_4,m1_5,r,h=>Zfg (ZZ n) (ZcW n) t0 t1 t2 t3 b c d m0_0 m1_0 m1_1 m1_2 m1_3 m1_4 m1_5 r h
theorem ZfD {t0:Bool} {t1:Bool} {t2:Bool} {t3:Bool} {b:Int} {c:Int} {d:Int} {m0_0:(List Int)} {m1_0:Int} {m1_1:Int} {m1_2:(List Zal)} {m1_3:(List Zr)} {m1_4:(List Zk)} {m1_5:(List Zu)}:∀r,Zdt b c d (fun z0 z1=>Zw z0 z1 m1_4) m0_0=some r→evW ctx 138 [(.sl 0 1),(.d (Ze b)),(.d (Ze c)),(.d (Ze d)),(.fn 121 [(.ptr 1 0)])] [(.arr 1 (List.map Ze m0_0)),(.cells [(.d (Ze m1_0)),(.d (Ze m1_1)),(.d (D.list t0 (List.map Zau m1_2))),(.d (D.list t1 (List.map ZI m1_3))),(.d (D.list t2 (List.map Zs m1_4))),(.d (D.list t3 (List.map ZA m1_5)))])]=some ((Za t0 t1 t2 t3 b c d m0_0 m1_0 m1_1 m1_2 m1_3 m1_4 m1_5) r):=fun r h=>by
  obtain⟨n,hn⟩:=Zuf h
  exact ZcW n t0 t1 t2 t3 b c d m0_0 m1_0 m1_1 m1_2 m1_3 m1_4 m1_5 r hn
def Zdm (t0:Bool) (t1:Bool) (t2:Bool) (t3:Bool) (m0_0:(List Int)) (m1_0:Int) (m1_1:Int) (m1_2:(List Zal)) (m1_3:(List Zr)) (m1_4:(List Zk)) (m1_5:(List Zu)):(List Int)→V×Zn
  | r=>((.d (D.tup [])),[(.arr 1 (List.map Ze r)),(.cells [(.d (Ze m1_0)),(.d (Ze m1_1)),(.d (D.list t0 (List.map Zau m1_2))),(.d (D.list t1 (List.map ZI m1_3))),(.d (D.list t2 (List.map Zs m1_4))),(.d (D.list t3 (List.map ZA m1_5)))])])
theorem ZfC {t0:Bool} {t1:Bool} {t2:Bool} {t3:Bool} {m0_0:(List Int)} {m1_0:Int} {m1_1:Int} {m1_2:(List Zal)} {m1_3:(List Zr)} {m1_4:(List Zk)} {m1_5:(List Zu)}:∀r,(ZaO (fun z0 z1=>Zw z0 z1 m1_4) m0_0)=some r→evW ctx 120 [(.sl 0 1),(.fn 121 [(.ptr 1 0)])] [(.arr 1 (List.map Ze m0_0)),(.cells [(.d (Ze m1_0)),(.d (Ze m1_1)),(.d (D.list t0 (List.map Zau m1_2))),(.d (D.list t1 (List.map ZI m1_3))),(.d (D.list t2 (List.map Zs m1_4))),(.d (D.list t3 (List.map ZA m1_5)))])]=some ((Zdm t0 t1 t2 t3 m0_0 m1_0 m1_1 m1_2 m1_3 m1_4 m1_5) r):=by
 show Z6 _ (fun r rhs=>rhs=some ((Zdm t0 t1 t2 t3 m0_0 m1_0 m1_1 m1_2 m1_3 m1_4 m1_5) r)) _
 unfold ZaO
 rw[Zeh ctx 120 ZwH _ _ rfl rfl]
 conv=>arg 3; whnf
 refine Zo (Zam _ _) ?_
 conv=>arg 3; whnf
 refine Zp _ Zhn rfl fun x0 hx0=>?_
 conv=>arg 3; whnf
 refine Zc _ ZfD fun x1 hx1=>?_
 conv=>arg 3; whnf
 exact Zh rfl
def ZjN (r:(List Int)):D:=(D.list true (List.map Ze r))
def Zix (t0:Bool) (t1:Bool) (t2:Bool) (t3:Bool) (a:Zt) (b:Int):(List Int)→Ex×List V×Zn
  | r=>(.exit 0,[(.ptr 0 0),(.sl 1 1)],[(.cells (dV t0 t1 t2 t3 a)),(.arr 1 (List.map Ze r))])
theorem Zk7 {t0:Bool} {t1:Bool} {t2:Bool} {t3:Bool} {a:Zt} {b:Int}:∀(s1:Int×(List Int)) (r:(List Int)),lp (Zeg a b) s1=some r→lpW ctx 0 [1,2,5,12,13,14] [2,5] ZvC [(.d (Ze b)),(.ptr 0 0),(.sl 1 1),(.d (D.list t2 (List.map Zs a.futures))),(.d (Ze (a.futures.length:Int))),(.d (Ze s1.1))] [(.cells (dV t0 t1 t2 t3 a)),(.arr 1 (List.map Ze s1.2))]=some ((Zix t0 t1 t2 t3 a b) r):=by
 refine Zbc (Zix t0 t1 t2 t3 a b) ?_
 intro s1 rcl ih
 show Z6 _ _ (lpW _ _ _ _ _ _ _)
 unfold Zeg
 rw[Zbd]
 conv=>arg 3; whnf
 refine Zg rfl ?_ ?_
 ·conv=>arg 3; whnf
  refine Zj rfl rfl fun x2 hx2=>?_
  conv=>arg 3; whnf
  refine Zg rfl ?_ ?_
  ·conv=>arg 3; whnf
   refine ZbC rfl ?_
   conv=>arg 3; whnf
   refine Zg (Zjp Ze s1.2 1) ?_ ?_
   ·conv=>arg 3; whnf
    refine Zo (Zjl Ze s1.2 [s1.1]) ?_
    conv=>arg 3; whnf
    exact Zd (ih _)
   ·exact ZbG
  ·conv=>arg 3; whnf
   exact Zd (ih _)
 ·conv=>arg 3; whnf
  exact Zh rfl
theorem ZmZ {t0:Bool} {t1:Bool} {t2:Bool} {t3:Bool} {a:Zt} {b:Int}:∀r,(Zd6 a b)=some r→evD ctx 86 [(.d (D.agg (dA t0 t1 t2 t3 a))),(.d (Ze b))]=some (ZjN r):=by
 show Z6 _ (fun r rhs=>rhs=some (ZjN r)) _
 unfold Zd6
 rw[ZcP ctx 86 ZzO _ rfl rfl]
 conv=>arg 3; whnf
 refine Zp _ ZkG rfl fun x0 hx0=>?_
 conv=>arg 3; whnf
 refine Zg rfl ?_ ?_
 ·conv=>arg 3; whnf
  exact Zh rfl
 ·conv=>arg 3; whnf
  refine Zo (Zam _ _) ?_
  conv=>arg 3; whnf
  refine Zc _ (Zk7 _) fun r3 hr3=>?_
  conv=>arg 3; whnf
  refine Zc _ ZfC fun x4 hx4=>?_
  conv=>arg 3; whnf
  exact Zh rfl
def ZhO (b:Zi) (c:Int) (m1_0:(List Int)) (m2_0:(List Zr)) (m3_0:(List Zi)) (m4_0:(List (Int×Int))) (m5_0:(List (Int×Int))) (m6_0:(List (Zk×Int))):Unit→V×Zn
  | r=>((.d (Ze (w64 ((List.length (m3_0++[b]):Int)-1)))),[(.cells [(.sl 7 1),(.sl 2 2),(.sl 8 2),(.mp 4),(.mp 5),(.mp 6)]),.dead,(.arr 2 (List.map ZI m2_0)),.dead,(.mp (mpD Ze Ze m4_0)),(.mp (mpD Ze Ze m5_0)),(.mp (mpD Zs Ze m6_0)),(.arr 1 (List.map Ze (m1_0++[c]))),(.arr 2 (List.map Zb0 (m3_0++[b])))])
theorem Zbr {b:Zi} {c:Int} {m1_0:(List Int)} {m2_0:(List Zr)} {m3_0:(List Zi)} {m4_0:(List (Int×Int))} {m5_0:(List (Int×Int))} {m6_0:(List (Zk×Int))}:∀r,(Za1 b c m1_0 m3_0)=some r→evW ctx 44 [(.ptr 0 0),(.d (D.agg [(Ze b.part),(Ze b.step)])),(.d (Ze c))] [(.cells [(.sl 1 1),(.sl 2 2),(.sl 3 2),(.mp 4),(.mp 5),(.mp 6)]),(.arr 1 (List.map Ze m1_0)),(.arr 2 (List.map ZI m2_0)),(.arr 2 (List.map Zb0 m3_0)),(.mp (mpD Ze Ze m4_0)),(.mp (mpD Ze Ze m5_0)),(.mp (mpD Zs Ze m6_0))]=some ((ZhO b c m1_0 m2_0 m3_0 m4_0 m5_0 m6_0) r):=by
 show Z6 _ (fun r rhs=>rhs=some ((ZhO b c m1_0 m2_0 m3_0 m4_0 m5_0 m6_0) r)) _
 unfold Za1
 rw[Zeh ctx 44 ZzS _ _ rfl rfl]
 conv=>arg 3; whnf
 refine ZbC rfl ?_
 conv=>arg 3; whnf
 refine Zg (Zjp Zb0 m3_0 1) ?_ ?_
 ·conv=>arg 3; whnf
  refine Zo (Zjl Zb0 m3_0 [b]) ?_
  conv=>arg 3; whnf
  refine ZbC rfl ?_
  conv=>arg 3; whnf
  refine Zg (Zjp Ze m1_0 1) ?_ ?_
  ·conv=>arg 3; whnf
   refine Zo (Zjl Ze m1_0 [c]) ?_
   conv=>arg 3; whnf
   refine Zo (Zam _ _) ?_
   conv=>arg 3; whnf
   exact Zh rfl
  ·exact ZbG
 ·exact ZbG
end Go.Proofs.YtljgncbdagmeeaaDoor
