/- ClassShapes: part 5 of 7 of the proof. -/
import Derived.Test.YtnpidpcmpleiaaaGreatDoorZClassShapesd
set_option maxRecDepth 100000
set_option maxHeartbeats 40000000
set_option linter.unusedVariables false
set_option linter.unusedSimpArgs false
namespace Go.Proofs.YtnpidpcmpleiaaaGreatDoor
open Go Go.Proofs.YtnpidpcmpleiaaaGreatDoorE Go.Sort
open Go.IntKind (u64 i64 u32 i32 u8)
def sel {γ:Type} (p:γ→Bool) (g:Nat→γ→Int):Nat→List γ→List Int
 | _,[]=>[]
 | i,x :: l=>bif p x then g i x :: sel p g (i+1) l else sel p g (i+1) l
theorem Zqj {γ:Type} (p:γ→Bool) (g:Nat→γ→Int):∀(l:List γ) (i:Nat),(sel p g i l).length=l.countP p
 | [],_=>rfl
 | x :: l,i=>by
  unfold sel
  have ih:=Zqj p g l (i+1)
  cases h:p x with
  | true=>simp[ih,h]
  | false=>simp[ih,h]
theorem ZrJ {γ:Type} (p:γ→Bool) (g:Nat→γ→Int) (z:Int):∀(l:List γ) (i:Nat),z∈sel p g i l↔∃j x,l[j]? = some x∧p x=true∧z=g (i+j) x
 | [],i=>by simp[sel]
 | x :: l,i=>by
  have ih:=ZrJ p g z l (i+1)
  have key:(∃j y,(x :: l)[j]? = some y∧p y=true∧z=g (i+j) y)↔(p x=true∧z=g i x)∨∃j y,l[j]? = some y∧p y=true∧z=g (i+1+j) y:=by
   constructor
   ·rintro ⟨j,y,h1,h2,h3⟩
    cases j with
    | zero=>left;simp at h1;subst h1;exact⟨h2,h3⟩
    | succ j=>right;exact⟨j,y,by simpa using h1,h2,by rw[h3];congr 1;omega⟩
   ·rintro (⟨h2,h3⟩ | ⟨j,y,h1,h2,h3⟩)
    ·exact⟨0,x,rfl,h2,h3⟩
    ·exact⟨j+1,y,by simpa using h1,h2,by rw[h3];congr 1;omega⟩
  rw[key]
  unfold sel
  cases h:p x with
  | true=>simp[ih]
  | false=>simp[ih]
theorem Zw4 {γ:Type} (l:List γ) (hl:l.length≤1000) (p:γ→Bool) (g:Nat→γ→Int) (step:Int×List Int→Option ((Int×List Int)⊕List Int))
  (h1:∀i x s,i<l.length→l[i]? = some x→step ((i:Int),s)=(bif p x then (bif Nat.ble (s.length+1) lim then some (.inl (((i+1:Nat):Int),s++[g i x])) else none) else some (.inl (((i+1:Nat):Int),s))))
  (h2:∀s,step ((l.length:Int),s)=some (.inr s)) (s:List Int) (hs:s.length≤1000000):lp step (0,s)=some (s++sel p g 0 l):=by
 have key:=Zuu l step (fun i s=>((i:Int),s)) (fun i x s=>bif p x then (bif Nat.ble (s.length+1) lim then some (.inl (s++[g i x])) else none) else some (.inl s)) (fun s=>some s) (fun i x s hi hx=>by
   rw[h1 i x s hi hx]
   cases p x<;>cases Nat.ble (s.length+1) lim<;>rfl) (fun s=>h2 s) s
 refine(key:lp step (0,s)=_).trans ?_
 have:∀(l:List γ) (i:Nat) (s:List Int),s.length+l.length≤1001000→ZqI (fun i x s=>bif p x then (bif Nat.ble (s.length+1) lim then some (Sum.inl (s++[g i x])) else (none:Option (List Int⊕List Int))) else some (.inl s)) (fun s=>some s) i l s=some (s++sel p g i l):=by
  intro l
  induction l with
  | nil=>intro i s _;simp[ZqI,sel]
  | cons x l ih=>
   intro i s hb
   rw[List.length_cons] at hb
   unfold ZqI sel
   cases p x with
   | true=>
    rw[ZiO (show s.length+1≤1073741824 by omega)]
    simp only[cond_true]
    rw[ih (i+1) (s++[g i x]) (by rw[List.length_append,List.length_singleton];omega)]
    simp
   | false=>
    simp only[cond_false]
    rw[ih (i+1) s (by omega)]
 exact this l 0 s (by omega)
theorem Zsx (k:Int→Int):∀(l m:List Int),l.Pairwise (fun x y=>k x<k y)→m.Pairwise (fun x y=>k x<k y)→(∀z,z∈l↔z∈m)→l=m
 | [],[],_,_,_=>rfl
 | [],y :: m,_,_,h=>absurd ((h y).2 (by simp)) (by simp)
 | x :: l,[],_,_,h=>absurd ((h x).1 (by simp)) (by simp)
 | x :: l,y :: m,h1,h2,h=>by
  rw[List.pairwise_cons] at h1 h2
  have hxy:x=y:=by
   rcases List.mem_cons.1 ((h x).1 (by simp)) with e | e
   ·exact e
   ·rcases List.mem_cons.1 ((h y).2 (by simp)) with e2 | e2
    ·exact e2.symm
    ·have:=h2.1 _ e
     have:=h1.1 _ e2
     omega
  subst hxy
  congr 1
  refine Zsx k l m h1.2 h2.2 fun z=>?_
  constructor
  ·intro hz
   rcases List.mem_cons.1 ((h z).1 (by simp[hz])) with e | e
   ·subst e
    have:=h1.1 _ hz
    omega
   ·exact e
  ·intro hz
   rcases List.mem_cons.1 ((h z).2 (by simp[hz])) with e | e
   ·subst e
    have:=h2.1 _ hz
    omega
   ·exact e
structure ZoB (d:Zp):Prop where
 w:∀p∈d.parts,1≤p.work∧p.work≤100
 e:∀x∈d.edges,two d.parts.length x.src x.dst=true
 f:∀x∈d.futures,two d.parts.length x.maker x.user=true∧1≤x.pos∧x.pos≤ZeZ d.parts x.user-1
 ne:∀(i j:Nat) (x y:Zl),i<j→d.futures[i]? = some x→d.futures[j]? = some y→¬(x.user=y.user∧x.pos=y.pos)
theorem ZuJ {d:Zp} (h:Zhq d=0):ZoB d:=by
 unfold Zhq at h
 have all:Zmp d=true∧Zk5 d=true∧d.parts.any Zgg=false∧Zhz (ZgF d) 0 d.edges=false∧Zhz (Zdv d) 0 d.futures=false:=by
  revert h
  cases Zmp d<;>cases Zk5 d<;>cases d.parts.any Zgg<;>cases Zhz (ZgF d) 0 d.edges<;>cases Zhz (Zdv d) 0 d.futures<;>simp
 obtain⟨_,_,h3,h4,h5⟩:=all
 have he:∀(i:Nat) x,d.edges[i]? = some x→ZgF d i x=false:=fun i x hx=>by
  cases hb:ZgF d i x with
  | false=>rfl
  | true=>rw[(ZkH _ _ 0).2 ⟨i,x,hx,by simpa using hb⟩] at h4;cases h4
 have hf:∀(i:Nat) x,d.futures[i]? = some x→Zdv d i x=false:=fun i x hx=>by
  cases hb:Zdv d i x with
  | false=>rfl
  | true=>rw[(ZkH _ _ 0).2 ⟨i,x,hx,by simpa using hb⟩] at h5;cases h5
 refine⟨Zte h3,fun x hx=>?_,fun x hx=>?_,fun i j x y hij hx hy=>?_⟩
 ·obtain⟨i,hi⟩:=List.getElem?_of_mem hx
  have:=he i x hi
  unfold ZgF at this
  simp only[Bool.or_eq_false_iff,Bool.not_eq_false'] at this
  exact this.1
 ·obtain⟨i,hi⟩:=List.getElem?_of_mem hx
  have:=hf i x hi
  unfold Zdv Zc4 at this
  simp only[Bool.or_eq_false_iff,Bool.not_eq_false',Bool.and_eq_true,decide_eq_true_eq] at this
  exact⟨this.1,this.2.1.1,this.2.1.2⟩
 ·rintro ⟨h1,h2⟩
  have:=hf j y hy
  unfold Zdv at this
  simp only[Bool.or_eq_false_iff] at this
  have h6:=List.any_eq_false.1 this.2.2 x (List.mem_of_getElem? (i:=i) (by rw[List.getElem?_take_of_lt hij];exact hx))
  unfold again at h6
  simp[h1,h2] at h6
theorem Zl2 {d:Zp} (g:ZoB d) (u:Int):ZeZ d.parts u≤100:=by
 unfold ZeZ
 split
 ·rename_i p hp;exact(g.w p (List.mem_of_getElem? hp)).2
 ·omega
def ZfJ (fs:List Zl) (z:Int):Int:=match fs[z.toNat]? with | some f=>f.pos | none=>0
def ZrC (d:Zp) (u:Int):List Int:=sel (fun f:Zl=>f.user==u) (fun i _=>(i:Int)) 0 d.futures
theorem ZnV (d:Zp) (u z:Int):z∈ZrC d u↔∃(i:Nat) (f:Zl),d.futures[i]? = some f∧f.user=u∧z=(i:Int):=by
 unfold ZrC
 rw[ZrJ]
 simp
theorem Zs0 (d:Zp) (u:Int):(ZrC d u).Pairwise (fun x y=>x<y):=by
 have:∀(l:List Zl) (i:Nat),(sel (fun f:Zl=>f.user==u) (fun i _=>(i:Int)) i l).Pairwise (fun x y=>x<y)∧∀z∈sel (fun f:Zl=>f.user==u) (fun i _=>(i:Int)) i l,(i:Int)≤z:=by
  intro l
  induction l with
  | nil=>intro i;simp[sel]
  | cons x l ih=>
   intro i
   obtain⟨h1,h2⟩:=ih (i+1)
   unfold sel
   cases x.user==u with
   | true=>
    simp only[cond_true,List.pairwise_cons,List.mem_cons]
    refine⟨⟨fun z hz=>?_,h1⟩,?_⟩
    ·have:=h2 z hz;omega
    ·rintro z (rfl | hz)
     ·exact Int.le_refl _
     ·have:=h2 z hz;omega
   | false=>
    simp only[cond_false]
    exact⟨h1,fun z hz=>by have:=h2 z hz;omega⟩
 exact(this d.futures 0).1
structure ZiD (d:Zp) (u:Int) (r:List Int):Prop where
 mem:∀z,z∈r↔∃(i:Nat) (f:Zl),d.futures[i]? = some f∧f.user=u∧z=(i:Int)
 rise:r.Pairwise (fun x y=>ZfJ d.futures x<ZfJ d.futures y)
theorem ZiD.eq {d:Zp}{u:Int}{r s:List Int} (h1:ZiD d u r) (h2:ZiD d u s):r=s:=Zsx (ZfJ d.futures) r s h1.rise h2.rise fun z=>by rw[h1.mem,h2.mem]
theorem Zvl {l:List Int}{p q:Int→Int→Prop} (h:l.Pairwise p) (hq:∀x y,x∈l→y∈l→p x y→q x y):l.Pairwise q:=by
 rw[List.pairwise_iff_getElem] at h ⊢
 exact fun i j hi hj hij=>hq _ _ (List.getElem_mem hi) (List.getElem_mem hj) (h i j hi hj hij)
theorem ZBt {d:Zp} (g:ZoB d) {u x y:Int} (hx:∃(i:Nat) (f:Zl),d.futures[i]? = some f∧f.user=u∧x=(i:Int)) (hy:∃(i:Nat) (f:Zl),d.futures[i]? = some f∧f.user=u∧y=(i:Int)) (hne:x≠y):ZfJ d.futures x≠ZfJ d.futures y:=by
 obtain⟨i,f,h1,h2,rfl⟩:=hx
 obtain⟨j,e,h3,h4,rfl⟩:=hy
 intro he
 unfold ZfJ at he
 rw[Int.toNat_natCast,Int.toNat_natCast,h1,h3] at he
 simp only at he
 rcases Nat.lt_trichotomy i j with h | h | h
 ·exact g.ne i j f e h h1 h3 ⟨h2.trans h4.symm,he⟩
 ·exact hne (by rw[h])
 ·exact g.ne j i e f h h3 h1 ⟨h4.trans h2.symm,he.symm⟩
theorem ZyU {d:Zp} (g:ZoB d):Zty (fun z0 z1=>Zz z0 z1 d.futures) (fun x y=>ZfJ d.futures x-ZfJ d.futures y) (fun z=>0≤z∧z.toNat<d.futures.length):=by
 intro x y hx hy
 have b:∀z:Int,z.toNat<d.futures.length→∃f,d.futures[z.toNat]? = some f∧ZfJ d.futures z=f.pos∧1≤f.pos∧f.pos≤100:=fun z hz=>by
  have hm:=List.getElem_mem hz
  have:=g.f _ hm
  have hw:=Zl2 g d.futures[z.toNat].user
  exact⟨d.futures[z.toNat],List.getElem?_eq_getElem hz,by unfold ZfJ;rw[List.getElem?_eq_getElem hz],this.2.1,by omega⟩
 obtain⟨f,f1,f2,f3,f4⟩:=b x hx.2
 obtain⟨e,e1,e2,e3,e4⟩:=b y hy.2
 show Zz x y d.futures=some (ZfJ d.futures x-ZfJ d.futures y)
 unfold Zz
 rw[Ztf hx.1 f1,Ztf hy.1 e1]
 simp only[Option.bind_some]
 rw[f2,e2,Zch (by omega) (by omega)]
theorem ZCt (k:Int→Int):SWO (ltC fun x y=>k x-k y):=by
 refine⟨fun x=>?_,fun x y z h1 h2=>?_,fun x y z h1 h2=>?_⟩
 ·show decide (k x-k x<0)=false
  exact decide_eq_false (by omega)
 ·simp only[ltC,decide_eq_true_eq] at *
  omega
 ·simp only[ltC,decide_eq_false_iff_not] at *
  omega
theorem Zyj (d:Zp) (h:Zjj d) (hf:d.futures.length≤1000) (hc:Zhq d=0) (u:Int):∃r,Zez d u=some r∧ZiD d u r:=by
 have g:=ZuJ hc
 have key:=Zw4 d.futures hf (fun f:Zl=>f.user==u) (fun i _=>(i:Int)) (ZeJ d u) (fun i x s hi hx=>by
   simp only[ZeJ,Zdk hi,Zay hx,Option.bind_some,ZQ hi h.f,cond_true]) (fun s=>by simp only[ZeJ,ZdR];rfl) [] (by simp)
 have hP:∀x∈ZrC d u,0≤x∧x.toNat<d.futures.length:=fun x hx=>by
  obtain⟨i,f,h1,h2,rfl⟩:=(ZnV d u x).1 hx
  have:=(List.getElem?_eq_some_iff.1 h1).1
  exact⟨by omega,by simpa using this⟩
 have hlen:(ZrC d u).length≤1000:=by
  unfold ZrC
  rw[Zqj]
  exact Nat.le_trans List.countP_le_length hf
 obtain⟨r,h1,h2,h3⟩:=ZAZ (ZyU g) (ZCt _) (ZrC d u) hlen hP
 refine⟨r,?_,?_,?_⟩
 ·unfold Zez
  rw[Zxr d h,hc]
  simp only[Option.bind_some,bne_self_eq_false,cond_false]
  rw[key,List.nil_append,Option.bind_some]
  show(ZaW (fun z0 z1=>Zz z0 z1 d.futures) (ZrC d u)).bind _=_
  rw[h1]
  rfl
 ·exact fun z=>by rw[h2.mem_iff,ZnV]
 ·have nd:r.Pairwise (fun x y=>x≠y):=(h2.pairwise_iff (fun h=>Ne.symm h)).2 ((Zs0 d u).imp fun h=>by omega)
  refine Zvl (h3.and nd) fun x y hx hy hp=>?_
  have a:=(ZnV d u x).1 (h2.mem_iff.1 hx)
  have b:=(ZnV d u y).1 (h2.mem_iff.1 hy)
  have h4:=ZBt g a b hp.2
  have h5:=hp.1
  simp only[ltC,decide_eq_false_iff_not] at h5
  omega
theorem ZtB {d:Zp}{u:Int}{r:List Int} (h:ZiD d u r):r.length=(ZrC d u).length:=by
 have nd1:r.Nodup:=h.rise.imp fun hp he=>by rw[he] at hp;omega
 have nd2:(ZrC d u).Nodup:=(Zs0 d u).imp fun hp he=>by omega
 exact((List.perm_ext_iff_of_nodup nd1 nd2).2 fun z=>by rw[h.mem,ZnV]).length_eq
theorem ZvY {d:Zp}{u:Int}{r:List Int} (h:ZiD d u r):r.length≤d.futures.length:=by
 rw[ZtB h]
 unfold ZrC
 rw[Zqj]
 exact List.countP_le_length
theorem ZtL {γ:Type} (p:γ→Bool) (g:Nat→γ→Int) (l:List γ) (i:Nat):(sel p g i l).length≤l.length:=by rw[Zqj];exact List.countP_le_length
open Go Go.Proofs.YtnpidpcmpleiaaaGreatDoorE
structure Zde (d:Zp):Prop where
 g:ZoB d
 ins:∀b∈d.barriers,∀q∈b.ins,0≤q∧q.toNat<d.parts.length
 outs:∀b∈d.barriers,∀q∈b.outs,0≤q∧q.toNat<d.parts.length
 disj:∀b∈d.barriers,∀q∈b.ins,q∉b.outs
 pl:d.parts.length≤16
 el:d.edges.length≤48
 fl:d.futures.length≤16
 bl:d.barriers.length≤4
 p1:1≤d.parts.length
 arg:∀p∈d.parts,0≤p.arg∧p.arg≤2147483647
theorem Zy6 {n:Nat}{l:List Int} (h:Zlo n l=true):∀q∈l,0≤q∧q.toNat<n:=by
 intro q hq
 unfold Zlo at h
 simp only[Bool.and_eq_true,Bool.not_eq_true'] at h
 obtain⟨i,hi⟩:=List.getElem?_of_mem hq
 have:Zrn n l i q=false:=by
  cases hb:Zrn n l i q with
  | false=>rfl
  | true=>rw[(ZkH _ _ 0).2 ⟨i,q,hi,by simpa using hb⟩] at h;exact absurd h.1 (by simp)
 unfold Zrn Zc4 at this
 simp only[Bool.or_eq_false_iff,Bool.not_eq_false',Bool.and_eq_true,decide_eq_true_eq] at this
 omega
theorem Zss {d:Zp} (h:Zhq d=0):Zde d:=by
 have g:=ZuJ h
 unfold Zhq at h
 have all:Zmp d=true∧d.barriers.any (Zd9 d.parts.length)=false∧d.parts.any Zgg=false:=by
  revert h
  cases Zmp d<;>cases Zk5 d<;>cases d.parts.any Zgg<;>cases Zhz (ZgF d) 0 d.edges<;>cases Zhz (Zdv d) 0 d.futures<;>cases d.barriers.any (Zd9 d.parts.length)<;>simp
 have hb:∀b∈d.barriers,Zlo d.parts.length b.ins=true∧Zlo d.parts.length b.outs=true∧b.ins.any (Zo3 b)=false:=fun b hb=>by
  have:=List.any_eq_false.1 all.2.1 b hb
  simp only[Zd9,Bool.or_eq_true,Bool.not_eq_true',not_or,Bool.not_eq_false,Bool.not_eq_true] at this
  exact this
 have m:=all.1
 unfold Zmp Zc4 at m
 simp only[Bool.and_eq_true,decide_eq_true_eq,Bool.not_eq_true',decide_eq_false_iff_not] at m
 refine⟨g,fun b h1=>Zy6 (hb b h1).1,fun b h1=>Zy6 (hb b h1).2.1,fun b h1 q h2 h3=>?_,by omega,by omega,by omega,by omega,by omega,fun p hp=>?_⟩
 case refine_2=>
  have:=List.any_eq_false.1 all.2.2 p hp
  simp only[Zgg,Zc4,Bool.not_eq_true,Bool.not_eq_false',Bool.and_eq_true,decide_eq_true_eq] at this
  exact this.2.1
 have:=List.any_eq_false.1 (hb b h1).2.2 q h2
 unfold Zo3 at this
 exact this (List.any_eq_true.2 ⟨q,h3,by simp⟩)
def inR (d:Zp) (p:Int):Prop:=0≤p∧p.toNat<d.parts.length
theorem Zde.src {d:Zp} (g:Zde d) {e:Zo} (h:e∈d.edges):inR d e.src:=(ZsS (g.g.e e h)).1
theorem Zde.dst {d:Zp} (g:Zde d) {e:Zo} (h:e∈d.edges):inR d e.dst:=(ZsS (g.g.e e h)).2.1
theorem Zde.maker {d:Zp} (g:Zde d) {f:Zl} (h:f∈d.futures):inR d f.maker:=(ZsS (g.g.f f h).1).1
theorem Zde.user {d:Zp} (g:Zde d) {f:Zl} (h:f∈d.futures):inR d f.user:=(ZsS (g.g.f f h).1).2.1
theorem Zde.short {d:Zp} (g:Zde d) (hs:∀b∈d.barriers,ZCX b):Zjj d:=⟨by have:=g.pl;omega,by have:=g.el;omega,by have:=g.fl;omega,by have:=g.bl;omega,hs⟩
def Zu1 (n:Int):Bool:=(List.range 40).any fun k=>((2:Int) ^ k==n)
theorem ZCo (n:Int):∃k,ZjJ n=some (k,Zu1 n):=by
 have step:∀k:Nat,k<40→ZdO n ((2:Int) ^ k,(k:Int))=some (bif ((2:Int) ^ k==n) then .inr (.inl (k:Int)) else .inl ((2:Int) ^ (k+1),((k+1:Nat):Int))):=by
  intro k hk
  have hp:(2:Int) ^ k≤2 ^ 39:=by
   have:(2:Nat) ^ k≤2 ^ 39:=Nat.pow_le_pow_right (by omega) (by omega)
   exact_mod_cast this
  have hq:(0:Int)<2 ^ k:=by
   have:(0:Nat)<2 ^ k:=Nat.pow_pos (by omega)
   exact_mod_cast this
  have e39:(2:Int) ^ 39=549755813888:=by decide
  rw[e39] at hp
  have e1:w64 (2*(2:Int) ^ k)=(2:Int) ^ (k+1):=by rw[Zch (by omega) (by omega),Int.pow_succ];omega
  have e2:w64 ((k:Int)+1)=((k+1:Nat):Int):=ZQ hk (by omega)
  unfold ZdO
  simp only[decide_eq_true (show(k:Int)<40 by omega),cond_true,e1,e2]
  cases ((2:Int) ^ k==n)<;>rfl
 have key:∀m k:Nat,k+m=40→lp (ZdO n) ((2:Int) ^ k,(k:Int))=some (match (List.range' k m).find? (fun j=>(2:Int) ^ j==n) with | some j=>.inl (j:Int) | none=>.inr ()):=by
  intro m
  induction m with
  | zero=>
   intro k hk
   have:k=40:=by omega
   subst this
   rw[Zbz]
   unfold ZdO
   rfl
  | succ m ih=>
   intro k hk
   rw[Zbz,step k (by omega),List.range'_succ,List.find?_cons]
   cases h:((2:Int) ^ k==n) with
   | true=>rfl
   | false=>exact ih (k+1) (by omega)
 have k0:=key 40 0 rfl
 rw[show((2:Int) ^ 0)=1 from rfl] at k0
 have e:(List.range 40).any (fun j=>(2:Int) ^ j==n)=((List.range' 0 40).find? (fun j=>(2:Int) ^ j==n)).isSome:=by
  rw[List.range_eq_range',Bool.eq_iff_iff,List.any_eq_true,List.find?_isSome]
 unfold ZjJ Zu1
 rw[e]
 cases hf:(List.range' 0 40).find? (fun j=>(2:Int) ^ j==n) with
 | none=>
  rw[hf] at k0
  refine⟨0,?_⟩
  show(lp (ZdO n) (1,((0:Nat):Int))).bind _=_
  rw[k0];rfl
 | some j=>
  rw[hf] at k0
  refine⟨j,?_⟩
  show(lp (ZdO n) (1,((0:Nat):Int))).bind _=_
  rw[k0];rfl
theorem ZwI (n:Nat) (h:n≤4096):Zu1 (n:Int)=ZBR n:=by
 rw[Bool.eq_iff_iff]
 unfold Zu1 ZBR
 rw[List.any_eq_true]
 constructor
 ·rintro ⟨k,hk,he⟩
  have hk:=List.mem_range.1 hk
  have he:(2:Nat) ^ k=n:=by have:=eq_of_beq he;exact_mod_cast this
  have h13:k<13:=by
   rcases Nat.lt_or_ge k 13 with h1 | h1
   ·exact h1
   ·have:2 ^ 13≤2 ^ k:=Nat.pow_le_pow_right (by omega) h1
    omega
  subst he
  have:((List.range 13).all fun k=>[1,2,4,8,16,32,64,128,256,512,1024,2048,4096].contains (2 ^ k))=true:=by decide
  exact List.all_eq_true.1 this k (by simpa using h13)
 ·intro h
  have:n=2 ^ 0∨n=2 ^ 1∨n=2 ^ 2∨n=2 ^ 3∨n=2 ^ 4∨n=2 ^ 5∨n=2 ^ 6∨n=2 ^ 7∨n=2 ^ 8∨n=2 ^ 9∨n=2 ^ 10∨n=2 ^ 11∨n=2 ^ 12:=by
   simpa using h
  rcases this with h | h | h | h | h | h | h | h | h | h | h | h | h<;>subst h
  ·exact⟨0,by decide,by decide⟩
  ·exact⟨1,by decide,by decide⟩
  ·exact⟨2,by decide,by decide⟩
  ·exact⟨3,by decide,by decide⟩
  ·exact⟨4,by decide,by decide⟩
  ·exact⟨5,by decide,by decide⟩
  ·exact⟨6,by decide,by decide⟩
  ·exact⟨7,by decide,by decide⟩
  ·exact⟨8,by decide,by decide⟩
  ·exact⟨9,by decide,by decide⟩
  ·exact⟨10,by decide,by decide⟩
  ·exact⟨11,by decide,by decide⟩
  ·exact⟨12,by decide,by decide⟩
theorem ZAM (d:Zp):ZiY d=some (Zk5 d):=by
 obtain⟨k,hk⟩:=ZCo d.period
 unfold ZiY Zk5 Zc4
 simp only[hk,Option.bind_some]
 by_cases h1:d.period<0
 ·have:Zu1 d.period=false:=by
   unfold Zu1
   rw[List.any_eq_false]
   intro k _ he
   have he:=eq_of_beq he
   have:(0:Nat)<2 ^ k:=Nat.pow_pos (by omega)
   have:(0:Int)<2 ^ k:=by exact_mod_cast this
   omega
  rw[this,ZBG h1];rfl
 ·by_cases h2:d.period≤4096
  ·have e:d.period=((d.period.toNat:Nat):Int):=by omega
   have:ZqU d.period=Zu1 d.period:=by rw[e,ZwY _ (by omega),ZwI _ (by omega)]
   rw[this,decide_eq_true h2,decide_eq_false (show ¬4096<d.period by omega)]
   cases Zu1 d.period<;>cases decide (1≤d.deadline)<;>cases decide (d.deadline≤d.period)<;>rfl
  ·rw[decide_eq_false h2,decide_eq_true (show 4096<d.period by omega)]
   cases Zu1 d.period<;>cases ZqU d.period<;>rfl
theorem ZyE (d:Zp) (h:Zjj d):Zin d=some (!(d.parts.any Zgg)):=by
 have key:=Zen d.parts (Zfr d) (fun _=>Zgg) (fun _ _=>.inl ()) (.inr ()) (fun i x hi hx=>by
   simp only[Zfr,Zdk hi,Zay hx,Option.bind_some,ZQ hi h.p,cond_true]
   have e1:decide (x.op<0) = !decide (0≤x.op):=by rw[← decide_not];exact decide_eq_decide.2 (by omega)
   have e2:decide (5<x.op) = !decide (x.op≤5):=by rw[← decide_not];exact decide_eq_decide.2 (by omega)
   have e3:decide (x.arg<0) = !decide (0≤x.arg):=by rw[← decide_not];exact decide_eq_decide.2 (by omega)
   have e4:decide (2147483647<x.arg) = !decide (x.arg≤2147483647):=by rw[← decide_not];exact decide_eq_decide.2 (by omega)
   have e5:decide (x.work<1) = !decide (1≤x.work):=by rw[← decide_not];exact decide_eq_decide.2 (by omega)
   have e6:decide (100<x.work) = !decide (x.work≤100):=by rw[← decide_not];exact decide_eq_decide.2 (by omega)
   simp only[e1,e2,e3,e4,e5,e6,Zgg,Zc4]
   cases decide (0≤x.op)<;>cases decide (x.op≤5)<;>cases decide (0≤x.arg)<;>cases decide (x.arg≤2147483647)<;>cases decide (1≤x.work)<;>cases decide (x.work≤100)<;>rfl) (by simp only[Zfr,ZdR];rfl)
 unfold Zin
 rw[key,Zcf,Zh6]
 cases d.parts.any Zgg<;>rfl
def ZeP (n:Nat) (x:Int):Bool:=decide (0≤x)&&decide (x<(n:Int))
theorem Zsb (d:Zp) (x:Int):Zff d x=some (ZeP d.parts.length x):=by
 unfold Zff ZeP
 cases decide (0≤x)<;>cases decide (x<(d.parts.length:Int))<;>rfl
theorem ZvL (n:Nat) (a b:Int):two n a b=((a != b)&&(ZeP n a&&ZeP n b)):=by
 unfold two ZeP
 rw[ZnJ,ZnJ]
theorem Zsg {γ R:Type} (l:List γ) (i:Nat) (hi:i<l.length) (step:Int→Option (Int⊕R)) (p:γ→Bool) (c fin:R)
  (h1:∀(k:Nat) x,k<i→l[k]? = some x→step (k:Int)=some (bif p x then .inr c else .inl ((k+1:Nat):Int)))
  (h2:step (i:Int)=some (.inr fin)):lp step 0=some (bif (l.take i).any p then c else fin):=by
 have hl:(l.take i).length=i:=by rw[List.length_take];omega
 have key:=Zen (l.take i) step (fun _=>p) (fun _ _=>c) fin (fun k x hk hx=>by
   rw[hl] at hk
   refine h1 k x hk ?_
   rw[List.getElem?_take_of_lt hk] at hx
   exact hx) (by rw[hl];exact h2)
 rw[key,Zcf,Zh6]
theorem Zyr (d:Zp) (h:Zjj d):Zie d=some (!(Zhz (ZgF d) 0 d.edges)):=by
 have key:=Zen d.edges (Zfv d) (ZgF d) (fun _ _=>.inl ()) (.inr ()) (fun i x hi hx=>by
   have inner:=Zsg d.edges i hi (Zfs d (i:Int) x) (ZlM x) (.inl ()) (.inr ()) (fun k y hk hy=>by
     simp only[Zfs,Zdk hk,Zay hy,Option.bind_some,ZQ hk (Nat.lt_trans hi h.e),cond_true,ZlM]
     have e1:(y.src==x.src)=(x.src==y.src):=Bool.beq_comm
     have e2:(y.dst==x.dst)=(x.dst==y.dst):=Bool.beq_comm
     rw[e1,e2]
     cases (x.src==y.src)<;>cases (x.dst==y.dst)<;>rfl) (by simp only[Zfs,ZdR];rfl)
   simp only[Zfv,Zdk hi,Zay hx,Option.bind_some,ZQ hi h.e,cond_true,Zsb,ZgF,ZvL,inner,bne]
   cases ZeP d.parts.length x.src<;>cases ZeP d.parts.length x.dst<;>cases (x.src==x.dst)<;>cases (d.edges.take i).any (ZlM x)<;>rfl) (by simp only[Zfv,ZdR];rfl)
 unfold Zie
 rw[key,Zcf]
 cases Zhz (ZgF d) 0 d.edges<;>rfl
theorem Zvp (d:Zp) (h:Zjj d):Zhd d=some (!(Zhz (Zdv d) 0 d.futures)):=by
 have key:=Zen d.futures (Zec d) (Zdv d) (fun _ _=>.inl ()) (.inr ()) (fun i x hi hx=>by
   have inner:=Zsg d.futures i hi (Zeb d (i:Int) x) (again x) (.inl ()) (.inr ()) (fun k y hk hy=>by
     simp only[Zeb,Zdk hk,Zay hy,Option.bind_some,ZQ hk (Nat.lt_trans hi h.f),cond_true,again]
     cases (y.user==x.user)<;>cases (y.pos==x.pos)<;>rfl) (by simp only[Zeb,ZdR];rfl)
   simp only[Zec,Zdk hi,Zay hx,Option.bind_some,ZQ hi h.f,cond_true,Zsb,Zdv,ZvL,inner,bne]
   cases h1:ZeP d.parts.length x.maker with
   | false=>cases (x.maker==x.user)<;>rfl
   | true=>
    cases h2:ZeP d.parts.length x.user with
    | false=>cases (x.maker==x.user)<;>rfl
    | true=>
     simp only[ZeP,Bool.and_eq_true,decide_eq_true_eq] at h2
     have u2:x.user.toNat<d.parts.length:=by omega
     have wa:ZeZ d.parts x.user=d.parts[x.user.toNat].work:=by simp only[ZeZ,List.getElem?_eq_getElem u2]
     rw[Zx6 h2.1 u2,wa]
     have e1:decide (x.pos<1) = !decide (1≤x.pos):=by rw[← decide_not];exact decide_eq_decide.2 (by omega)
     have e2:decide (d.parts[x.user.toNat].work≤x.pos) = !decide (x.pos≤d.parts[x.user.toNat].work-1):=by rw[← decide_not];exact decide_eq_decide.2 (by omega)
     simp only[Option.bind_some,Zc4,e1,e2]
     cases (x.maker==x.user)<;>cases decide (1≤x.pos)<;>cases decide (x.pos≤d.parts[x.user.toNat].work-1)<;>cases (d.futures.take i).any (again x)<;>rfl) (by simp only[Zec,ZdR];rfl)
 unfold Zhd
 rw[key,Zcf]
 cases Zhz (Zdv d) 0 d.futures<;>rfl
theorem ZxQ (d:Zp) (hd:d.parts.length<9223372036854775808) (l:List Int) (hl:l.length<9223372036854775808):ZiF d l=some (Zlo d.parts.length l):=by
 have key:=Zen l (ZgT d l) (Zrn d.parts.length l) (fun _ _=>.inl ()) (.inr ()) (fun i x hi hx=>by
   simp only[ZgT,Zdk hi,Zay hx,Option.bind_some,ZQ hi hl,cond_true,Zsb,Zrn,ZnJ]
   show(bif ZeP d.parts.length x then _ else _)=some (bif !(ZeP d.parts.length x) || _ then _ else _)
   cases ZeP d.parts.length x with
   | false=>rfl
   | true=>
    cases i with
    | zero=>rfl
    | succ i=>
     rw[decide_eq_true (show(0:Int)<((i+1:Nat):Int) by omega),Zch (by omega) (by omega),show(((i+1:Nat):Int)-1)=(i:Int) by omega]
     have hi2:l[i]? = some l[i]:=List.getElem?_eq_getElem (by omega)
     rw[Zay hi2]
     simp only[cond_true,Option.bind_some,Bool.not_true,Bool.false_or,hi2]
     cases decide (x≤l[i])<;>rfl) (by simp only[ZgT,ZdR];rfl)
 unfold ZiF Zlo
 rw[key,Zcf]
 exact ZxI _ _
theorem ZCg (l:List Int) (n:Int) (hl:l.length<9223372036854775808):ZjE l n=some (l.any fun x=>n==x):=by
 have key:=Zen l (ZgQ l n) (fun _ x=>n==x) (fun _ _=>.inl ()) (.inr ()) (fun i x hi hx=>by
   have e:(x==n)=(n==x):=Bool.beq_comm
   simp only[ZgQ,Zdk hi,Zay hx,Option.bind_some,ZQ hi hl,cond_true,e]
   cases (n==x)<;>rfl) (by simp only[ZgQ,ZdR];rfl)
 unfold ZjE
 rw[key,Zcf,Zh6]
 cases (l.any fun x=>n==x)<;>rfl
theorem Zu9 (d:Zp) (h:Zjj d):ZgL d=some (!(d.barriers.any (Zd9 d.parts.length))):=by
 have key:=Zen d.barriers (ZdT d) (fun _=>Zd9 d.parts.length) (fun _ _=>.inl ()) (.inr ()) (fun i x hi hx=>by
   have hb:=h.i x (List.mem_of_getElem? hx)
   have inner:=Zen x.ins (ZdS x) (fun _=>Zo3 x) (fun _ _=>.inl ()) (.inr ()) (fun k y hk hy=>by
     simp only[ZdS,Zdk hk,Zay hy,Option.bind_some,ZQ hk hb.1,cond_true,ZCg _ _ hb.2,Zo3]
     cases (x.outs.any fun z=>y==z)<;>rfl) (by simp only[ZdS,ZdR];rfl)
   rw[Zcf,Zh6] at inner
   simp only[ZdT,Zdk hi,Zay hx,Option.bind_some,ZQ hi h.b,cond_true,ZxQ d h.p _ hb.1,ZxQ d h.p _ hb.2,Zd9,inner]
   cases Zlo d.parts.length x.ins<;>cases Zlo d.parts.length x.outs<;>cases x.ins.any (Zo3 x)<;>rfl) (by simp only[ZdT,ZdR];rfl)
 unfold ZgL
 rw[key,Zcf,Zh6]
 cases d.barriers.any (Zd9 d.parts.length)<;>rfl
theorem Zyt (d:Zp) (h:Zjj d):Zib d=some (Zhq d):=by
 unfold Zib Zhq Zmp Zc4
 simp only[ZAM,ZyE d h,Zyr d h,Zvp d h,Zu9 d h,Option.bind_some]
 have e1:decide ((d.parts.length:Int)<1) = !decide (1≤(d.parts.length:Int)):=by rw[← decide_not];exact decide_eq_decide.2 (by omega)
 have e2:decide (16<(d.parts.length:Int)) = !decide ((d.parts.length:Int)≤16):=by rw[← decide_not];exact decide_eq_decide.2 (by omega)
 rw[e1,e2]
 cases decide (1≤(d.parts.length:Int)) with
 | false=>rfl
 | true=>
  cases decide ((d.parts.length:Int)≤16) with
  | false=>rfl
  | true=>
   cases decide ((48:Int)<d.edges.length) with
   | true=>rfl
   | false=>
    cases decide ((16:Int)<d.futures.length) with
    | true=>rfl
    | false=>
     cases decide ((4:Int)<d.barriers.length) with
     | true=>rfl
     | false=>cases Zk5 d<;>cases d.parts.any Zgg<;>cases Zhz (ZgF d) 0 d.edges<;>cases Zhz (Zdv d) 0 d.futures<;>cases d.barriers.any (Zd9 d.parts.length)<;>rfl
theorem Zzy {γ:Type} (p:γ→Bool):∀(l:List γ) (i:Nat),(sel p (fun i _=>(i:Int)) i l).Pairwise (fun x y=>x<y)∧∀z∈sel p (fun i _=>(i:Int)) i l,(i:Int)≤z:=by
 intro l
 induction l with
 | nil=>intro i;simp[sel]
 | cons x l ih=>
  intro i
  obtain⟨h1,h2⟩:=ih (i+1)
  unfold sel
  cases p x with
  | true=>
   simp only[cond_true,List.pairwise_cons,List.mem_cons]
   refine⟨⟨fun z hz=>?_,h1⟩,?_⟩
   ·have:=h2 z hz;omega
   ·rintro z (rfl | hz)
    ·exact Int.le_refl _
    ·have:=h2 z hz;omega
  | false=>
   simp only[cond_false]
   exact⟨h1,fun z hz=>by have:=h2 z hz;omega⟩
def ZnD (d:Zp) (u:Int) (t:Int):List Int:=sel (fun f:Zl=>f.user==u&&f.pos==t) (fun i _=>(i:Int)) 0 d.futures
theorem ZqA (d:Zp) (u t z:Int):z∈ZnD d u t↔∃(i:Nat) (f:Zl),d.futures[i]? = some f∧f.user=u∧f.pos=t∧z=(i:Int):=by
 unfold ZnD
 rw[ZrJ]
 simp[and_assoc]
theorem Zn6 {d:Zp}{u t z:Int} (h:z∈ZnD d u t):ZfJ d.futures z=t:=by
 obtain⟨i,f,h1,_,h3,rfl⟩:=(ZqA d u t z).1 h
 unfold ZfJ
 rw[Int.toNat_natCast,h1,← h3]
theorem ZsJ {d:Zp}{u t z:Int} (h:z∈ZnD d u t):∃(i:Nat) (f:Zl),d.futures[i]? = some f∧f.user=u∧z=(i:Int):=by
 obtain⟨i,f,h1,h2,_,h4⟩:=(ZqA d u t z).1 h
 exact⟨i,f,h1,h2,h4⟩
def tl (d:Zp) (u:Int):Nat→Nat→List Int
 | _,0=>[]
 | i,k+1=>ZnD d u ((i+1:Nat):Int)++tl d u (i+1) k
theorem ZwB (d:Zp) (u z:Int):∀(k i:Nat),z∈tl d u i k↔∃t:Nat,i<t∧t≤i+k∧z∈ZnD d u (t:Int)
 | 0,i=>by
  unfold tl
  constructor
  ·intro h;cases h
  ·rintro ⟨t,h1,h2,_⟩;omega
 | k+1,i=>by
  unfold tl
  rw[List.mem_append,ZwB d u z k (i+1)]
  constructor
  ·rintro (h | ⟨t,h1,h2,h3⟩)
   ·exact⟨i+1,by omega,by omega,h⟩
   ·exact⟨t,by omega,by omega,h3⟩
  ·rintro ⟨t,h1,h2,h3⟩
   by_cases h:t=i+1
   ·subst h;exact .inl h3
   ·exact .inr ⟨t,by omega,by omega,h3⟩
theorem Zx3 {d:Zp} (g:ZoB d) (u:Int):∀(k i:Nat),(tl d u i k).Pairwise (fun x y=>ZfJ d.futures x<ZfJ d.futures y)
 | 0,i=>List.Pairwise.nil
 | k+1,i=>by
  unfold tl
  rw[List.pairwise_append]
  refine⟨?_,Zx3 g u k (i+1),fun x hx y hy=>?_⟩
  ·refine Zvl (Zzy _ _ _).1 fun x y hx hy hlt=>?_
   have hx':x∈ZnD d u ((i+1:Nat):Int):=hx
   have hy':y∈ZnD d u ((i+1:Nat):Int):=hy
   exact absurd ((Zn6 hx').trans (Zn6 hy').symm) (ZBt g (ZsJ hx') (ZsJ hy') (by omega))
  ·obtain⟨t,h1,h2,h3⟩:=(ZwB d u y k (i+1)).1 hy
   rw[Zn6 hx,Zn6 h3]
   omega
theorem Zw6 {d:Zp} (g:ZoB d) (u:Int):ZiD d u (tl d u 0 99):=by
 refine⟨fun z=>?_,Zx3 g u 99 0⟩
 rw[ZwB]
 constructor
 ·rintro ⟨t,_,_,h⟩;exact ZsJ h
 ·rintro ⟨i,f,h1,h2,h3⟩
  have hf:=g.f f (List.mem_of_getElem? h1)
  have hw:=Zl2 g f.user
  refine⟨f.pos.toNat,by omega,by omega,?_⟩
  rw[ZqA]
  exact⟨i,f,h1,h2,by omega,h3⟩
theorem ZvH (d:Zp) (hf:d.futures.length≤1000) (u:Int):Ze0 d u=some (tl d u 0 99):=by
 have inner:∀(t:Int) (s0 s:List Int),s.length≤1000000→lp (Zdu d u (t,s0)) (0,s)=some (s++ZnD d u t):=fun t s0 s hs=>
  Zw4 d.futures hf (fun f:Zl=>f.user==u&&f.pos==t) (fun i _=>(i:Int)) (Zdu d u (t,s0)) (fun i x s hi hx=>by
   simp only[Zdu,Zdk hi,Zay hx,Option.bind_some,ZQ hi (show d.futures.length<9223372036854775808 by omega),cond_true]
   cases x.user==u<;>cases x.pos==t<;>rfl) (fun s=>by simp only[Zdu,ZdR];rfl) s hs
 have key:∀(k i:Nat) (s:List Int),i+k=99→s.length≤1000*i→lp (ZfW d u) (((i+1:Nat):Int),s)=some (s++tl d u i k):=by
  intro k
  induction k with
  | zero=>
   intro i s hi hs
   have:i=99:=by omega
   subst this
   rw[Zbz]
   unfold tl
   rw[List.append_nil]
   rfl
  | succ k ih=>
   intro i s hi hs
   rw[Zbz]
   unfold tl
   simp only[ZfW,decide_eq_true (show((i+1:Nat):Int)<100 by omega),cond_true,inner ((i+1:Nat):Int) s s (by omega),Option.bind_some,ZQ (show i+1<100 by omega) (by omega)]
   have hl:(ZnD d u ((i+1:Nat):Int)).length≤1000:=Nat.le_trans (ZtL _ _ _ _) hf
   rw[ih (i+1) (s++ZnD d u ((i+1:Nat):Int)) (by omega) (by rw[List.length_append];omega),List.append_assoc]
 have k0:=key 99 0 [] rfl (by simp)
 unfold Ze0
 rw[show((1:Int),([]:List Int))=(((0+1:Nat):Int),[]) from rfl,k0]
 rfl
def ZdE {γ S:Type} (f:Nat→S→γ→S):Nat→S→List γ→S
 | _,s,[]=>s
 | i,s,x :: l=>ZdE f (i+1) (f i s x) l
theorem ZiL {γ S T R:Type} (l:List γ) (step:T→Option (T⊕R)) (st:Nat→S→T) (f:Nat→S→γ→S) (fin:S→R) (I:Nat→S→Prop)
  (h1:∀i x s,i<l.length→l[i]? = some x→I i s→step (st i s)=some (.inl (st (i+1) (f i s x)))∧I (i+1) (f i s x))
  (h2:∀s,I l.length s→step (st l.length s)=some (.inr (fin s))) (s:S) (h0:I 0 s) :
  lp step (st 0 s)=some (fin (ZdE f 0 s l))∧I l.length (ZdE f 0 s l):=by
 have key:∀(k i:Nat) (s:S),i+k=l.length→I i s→lp step (st i s)=some (fin (ZdE f i s (l.drop i)))∧I l.length (ZdE f i s (l.drop i)):=by
  intro k
  induction k with
  | zero=>
   intro i s hi hI
   have:i=l.length:=by omega
   subst this
   rw[List.drop_length,Zbz,h2 s hI]
   exact⟨rfl,hI⟩
  | succ k ih=>
   intro i s hi hI
   have hi':i<l.length:=by omega
   obtain⟨e,hI'⟩:=h1 i l[i] s hi' (List.getElem?_eq_getElem hi') hI
   rw[List.drop_eq_getElem_cons hi',Zbz,e]
   exact ih (i+1) _ (by omega) hI'
 have:=key l.length 0 s (by omega) h0
 rwa [List.drop_zero] at this
def Zir (w:Int):Bool:=decide (w<0) || decide (1000<w)
def Zpd (g:Zar) (i:Nat) (e:Zo):Bool:=!(ZeP g.work.length e.src) || (!(ZeP g.work.length e.dst) || ((e.src==e.dst) || (g.edges.take i).any (ZlM e)))
def ZjV (g:Zar):Int:=bif decide (64<(g.work.length:Int)) || decide (256<(g.edges.length:Int)) then 40 else bif g.work.any Zir then 41 else bif Zhz (Zpd g) 0 g.edges then 42 else 0
structure Zq1 (g:Zar):Prop where
 w:g.work.length<9223372036854775808
 e:g.edges.length<9223372036854775808
theorem Zzi (w:Int):Zep w=some (Zir w):=by
 unfold Zep Zir
 cases decide (w<0)<;>cases decide (1000<w)<;>rfl
theorem ZBe (a:Int) (l:List Int):Zhh a l=some (ZeP l.length a):=by
 unfold Zhh ZeP
 cases decide (0≤a)<;>cases decide (a<(l.length:Int))<;>rfl
theorem ZDr (g:Zar) (a:Int):ZhR g a=some (ZeP g.work.length a):=by
 unfold ZhR ZeP
 cases decide (0≤a)<;>cases decide (a<(g.work.length:Int))<;>rfl
theorem Zwj (g:Zar) (h:Zq1 g):lp (ZfV g) 0=some (bif Zhz (Zpd g) 0 g.edges then .inl () else .inr ()):=by
 have key:=Zen g.edges (ZfV g) (Zpd g) (fun _ _=>.inl ()) (.inr ()) (fun i x hi hx=>by
   have e0:decide ((0:Int)≤(i:Int))=true:=decide_eq_true (by omega)
   have e1:Nat.ble i g.edges.length=true:=Nat.ble_eq_true_of_le (by omega)
   simp only[ZfV,Zdk hi,Zay hx,Option.bind_some,ZQ hi h.e,cond_true,ZBe,Zpd,e0,Int.toNat_natCast,e1,Zul _ x (Zpk h.e)]
   cases ZeP g.work.length x.src<;>cases ZeP g.work.length x.dst<;>cases (x.src==x.dst)<;>cases (g.edges.take i).any (ZlM x)<;>rfl) (by simp only[ZfV,ZdR];rfl)
 rw[key,Zcf]
theorem Zxd (g:Zar) (h:Zq1 g):Zij g=some (ZjV g):=by
 have k0:=Zen g.work (Zfl g) (fun _=>Zir) (fun _ _=>.inl ()) (.inr ()) (fun i x hi hx=>by
   simp only[Zfl,Zdk hi,Zay hx,Option.bind_some,ZQ hi h.w,cond_true,Zir]
   cases decide (x<0)<;>cases decide (1000<x)<;>rfl) (by simp only[Zfl,ZdR];rfl)
 have k2:=Zen g.edges (Zfo g) (Zpd g) (fun _ _=>.inl ()) (.inr ()) (fun i x hi hx=>by
   have inner:=Zsg g.edges i hi (Zfz g (i:Int) x) (ZlM x) (.inl ()) (.inr ()) (fun k y hk hy=>by
     simp only[Zfz,Zdk hk,Zay hy,Option.bind_some,ZQ hk (Nat.lt_trans hi h.e),cond_true,ZlM]
     have e1:(y.src==x.src)=(x.src==y.src):=Bool.beq_comm
     have e2:(y.dst==x.dst)=(x.dst==y.dst):=Bool.beq_comm
     rw[e1,e2]
     cases (x.src==y.src)<;>cases (x.dst==y.dst)<;>rfl) (by simp only[Zfz,ZdR];rfl)
   simp only[Zfo,Zdk hi,Zay hx,Option.bind_some,ZQ hi h.e,cond_true,ZDr,Zpd,inner]
   cases ZeP g.work.length x.src<;>cases ZeP g.work.length x.dst<;>cases (x.src==x.dst)<;>cases (g.edges.take i).any (ZlM x)<;>rfl) (by simp only[Zfo,ZdR];rfl)
 unfold Zij ZjV
 rw[k0,k2,Zcf,Zcf,Zh6]
 cases decide (64<(g.work.length:Int))<;>cases decide (256<(g.edges.length:Int))<;>cases g.work.any Zir<;>cases Zhz (Zpd g) 0 g.edges<;>rfl
inductive Way (g:Zar):Int→Int→Prop
 | one {e:Zo}:e∈g.edges→Way g e.src e.dst
 | more {a:Int} {e:Zo}:Way g a e.src→e∈g.edges→Way g a e.dst
theorem Way.trans {g:Zar}{a b c:Int} (h1:Way g a b) (h2:Way g b c):Way g a c:=by
 induction h2 with
 | one he=>exact Way.more h1 he
 | more _ he ih=>exact Way.more (ih h1) he
def Zrw (g:Zar):Prop:=∀a,¬Way g a a
structure Zhb (g:Zar):Prop where
 wl:g.work.length≤64
 el:g.edges.length≤256
 w:∀x∈g.work,0≤x∧x≤1000
 src:∀e∈g.edges,0≤e.src∧e.src.toNat<g.work.length
 dst:∀e∈g.edges,0≤e.dst∧e.dst.toNat<g.work.length
theorem Zhb.short {g:Zar} (h:Zhb g):Zq1 g:=⟨by have:=h.wl;omega,by have:=h.el;omega⟩
theorem ZtZ {n:Nat}{a:Int} (h:ZeP n a=true):0≤a∧a.toNat<n:=by
 unfold ZeP at h
 simp only[Bool.and_eq_true,decide_eq_true_eq] at h
 omega
theorem Zsh {g:Zar} (h:ZjV g=0):Zhb g:=by
 unfold ZjV at h
 cases h1:decide (64<(g.work.length:Int)) with
 | true=>rw[h1] at h;simp at h
 | false=>
 cases h2:decide (256<(g.edges.length:Int)) with
 | true=>rw[h1,h2] at h;simp at h
 | false=>
 cases h3:g.work.any Zir with
 | true=>rw[h1,h2,h3] at h;simp at h
 | false=>
 cases h4:Zhz (Zpd g) 0 g.edges with
 | true=>rw[h1,h2,h3,h4] at h;simp at h
 | false=>
 have hE:∀e∈g.edges,∃i,Zpd g i e=false:=fun e he=>by
  obtain⟨i,hi⟩:=List.getElem?_of_mem he
  refine⟨i,?_⟩
  cases hb:Zpd g i e with
  | false=>rfl
  | true=>rw[(ZkH _ _ 0).2 ⟨i,e,hi,by simpa using hb⟩] at h4;cases h4
 refine⟨by have:=of_decide_eq_false h1;omega,by have:=of_decide_eq_false h2;omega,fun x hx=>?_,fun e he=>?_,fun e he=>?_⟩
 ·have:=List.any_eq_false.1 h3 x hx
  unfold Zir at this
  simp only[Bool.or_eq_true,decide_eq_true_eq,not_or] at this
  omega
 ·obtain⟨i,hi⟩:=hE e he
  unfold Zpd at hi
  simp only[Bool.or_eq_false_iff,Bool.not_eq_false'] at hi
  exact ZtZ hi.1
 ·obtain⟨i,hi⟩:=hE e he
  unfold Zpd at hi
  simp only[Bool.or_eq_false_iff,Bool.not_eq_false'] at hi
  exact ZtZ hi.2.1
theorem Way.src_in {g:Zar} (h:Zhb g) {a b:Int} (w:Way g a b):0≤a∧a.toNat<g.work.length:=by
 induction w with
 | one he=>exact h.src _ he
 | more _ _ ih=>exact ih
theorem ZAt {g:Zar} (hg:Zrw g):∀(n:Nat) (S:List Int),S.length≤n→S≠[]→∃m∈S,∀e∈g.edges,e.dst=m→e.src∉S:=by
 intro n
 induction n with
 | zero=>intro S h1 h2;exact absurd (List.length_eq_zero_iff.1 (by omega)) h2
 | succ n ih=>
  intro S h1 h2
  obtain⟨m,hm⟩:=List.exists_mem_of_ne_nil S h2
  classical
  by_cases hS:(S.filter fun x=>decide (Way g x m))=[]
  ·refine⟨m,hm,fun e he hd hs=>?_⟩
   have:e.src∈S.filter fun x=>decide (Way g x m):=List.mem_filter.2 ⟨hs,decide_eq_true (hd ▸ Way.one he)⟩
   rw[hS] at this
   cases this
  ·have hlt:(S.filter fun x=>decide (Way g x m)).length<S.length:=by
    refine Nat.lt_of_le_of_ne (List.length_filter_le _ _) fun he=>?_
    have:=List.length_filter_eq_length_iff.1 he m hm
    exact hg m (of_decide_eq_true this)
   obtain⟨k,hk,hk2⟩:=ih _ (by omega) hS
   obtain⟨k1,k2⟩:=List.mem_filter.1 hk
   refine⟨k,k1,fun e he hd hs=>hk2 e he hd (List.mem_filter.2 ⟨hs,decide_eq_true ?_⟩)⟩
   exact(hd ▸ Way.one he:Way g e.src k).trans (of_decide_eq_true k2)
def bAt (l:List Bool) (z:Int):Bool:=match l[z.toNat]? with | some b=>b | none=>false
def Zrc (g:Zar) (done:List Bool) (i:Nat):Bool:=!(bAt done (i:Int)) && !(g.edges.any fun e=>(e.dst==(i:Int)) && !(bAt done e.src))
def Zrh (g:Zar) (done:List Bool):Option Nat:=Zla (fun i _=>Zrc g done i) (fun i _=>some i) none 0 g.work
def Zqu (g:Zar):Nat→List Int→List Bool→Option (List Int)
 | 0,out,_=>some out
 | k+1,out,done=>(match Zrh g done with | some i=>Zqu g k (out++[(i:Int)]) (done.set i true) | none=>none)
theorem ZpY {γ R S:Type} (p:Nat→γ→Bool) (out:Nat→γ→R) (fin:R) (F:R→S):∀(l:List γ) (i:Nat),F (Zla p out fin i l)=Zla p (fun i x=>F (out i x)) (F fin) i l
 | [],i=>rfl
 | x :: l,i=>by
  unfold Zla
  cases p i x with
  | true=>rfl
  | false=>exact ZpY p out fin F l (i+1)
theorem Zuj {γ:Type} (p:Nat→γ→Bool):∀(l:List γ) (i k:Nat),Zla p (fun i _=>some i) none i l=some k→i≤k∧k<i+l.length∧∃x,l[k-i]? = some x∧p k x=true
 | [],i,k,h=>by cases h
 | x :: l,i,k,h=>by
  unfold Zla at h
  cases hp:p i x with
  | true=>
   rw[hp] at h
   cases h
   exact⟨Nat.le_refl _,by simp,x,by simp,hp⟩
  | false=>
   rw[hp] at h
   obtain⟨h1,h2,y,h3,h4⟩:=Zuj p l (i+1) k h
   refine⟨by omega,by simp only[List.length_cons];omega,y,?_,h4⟩
   rw[show k-i=(k-(i+1))+1 by omega]
   exact h3
theorem ZtO {γ:Type} (p:Nat→γ→Bool):∀(l:List γ) (i:Nat),Zla p (fun i _=>some i) none i l=none→∀(j:Nat) x,l[j]? = some x→p (i+j) x=false
 | [],i,h,j,x,hx=>by cases hx
 | y :: l,i,h,j,x,hx=>by
  unfold Zla at h
  cases hp:p i y with
  | true=>rw[hp] at h;cases h
  | false=>
   rw[hp] at h
   cases j with
   | zero=>cases hx;exact hp
   | succ j=>
    have:=ZtO p l (i+1) h j x hx
    rwa [show i+1+j=i+(j+1) by omega] at this
theorem Zp8 {g:Zar}{done:List Bool} (hd:done.length=g.work.length) {z:Int} (h:0≤z∧z.toNat<g.work.length):Zx done z=some (bAt done z):=by
 have e:=List.getElem?_eq_getElem (show z.toNat<done.length by rw[hd];exact h.2)
 rw[Ztf h.1 e]
 unfold bAt
 rw[e]
theorem ZEE {g:Zar} (h:Zhb g) (out:List Int) (ho:out.length<g.work.length) (done:List Bool) (hd:done.length=g.work.length) :
  lp (ZfD g (out,done)) 0=some (match Zrh g done with | some i=>.inl (out++[(i:Int)],done.set i true) | none=>.inr ()):=by
 have key:=Zen g.work (ZfD g (out,done)) (fun i _=>Zrc g done i) (fun i _=>.inl (out++[(i:Int)],done.set i true)) (.inr ()) (fun i x hi hx=>by
   have inner:=Zen g.edges (ZgR g (out,done) (i:Int)) (fun _ e=>(e.dst==(i:Int)) && !(bAt done e.src)) (fun _ _=>.inl ()) (.inr ()) (fun k e hk he=>by
     simp only[ZgR,Zdk hk,Zay he,Option.bind_some,ZQ hk h.short.e,cond_true,Zp8 hd (h.src e (List.mem_of_getElem? he))]
     cases (e.dst==(i:Int))<;>cases bAt done e.src<;>rfl) (by simp only[ZgR,ZdR];rfl)
   rw[Zcf,Zh6] at inner
   have hl:=h.wl
   simp only[ZfD,Zdk hi,Zp8 hd (z:=(i:Int)) ⟨by omega,by simpa using hi⟩,Option.bind_some,ZQ hi h.short.w,cond_true,inner,ZiO (show out.length+1≤1073741824 by omega),Int.toNat_natCast,Zrc]
   cases bAt done (i:Int)<;>cases g.edges.any (fun e=>(e.dst==(i:Int)) && !(bAt done e.src))<;>rfl) (by simp only[ZfD,ZdR];rfl)
 rw[key]
 unfold Zrh
 exact congrArg some (ZpY (fun i _=>Zrc g done i) (fun i _=>some i) none (fun o:Option Nat=>(match o with | some i=>(.inl (out++[(i:Int)],done.set i true):(List Int×List Bool)⊕Unit) | none=>.inr ())) g.work 0).symm
theorem Zx2 {g:Zar} (h:Zhb g):∀(k:Nat) (out:List Int) (done:List Bool),out.length+k=g.work.length→done.length=g.work.length →
  ∃r,lp (ZgU g) (out,done)=some r∧(match Zqu g k out done with | some l=>r = .inr l | none=>∃l,r = .inl l)
 | 0,out,done,h1,h2=>by
  rw[Zbz]
  simp only[ZgU,show out.length=g.work.length by omega,ZdR,cond_false]
  exact⟨_,rfl,rfl⟩
 | k+1,out,done,h1,h2=>by
  rw[Zbz]
  simp only[ZgU,Zdk (show out.length<g.work.length by omega),cond_true,ZEE h out (by omega) done h2,Option.bind_some]
  unfold Zqu
  cases Zrh g done with
  | none=>exact⟨_,rfl,_,rfl⟩
  | some i=>exact Zx2 h k (out++[(i:Int)]) (done.set i true) (by rw[List.length_append];simp only[List.length_cons,List.length_nil];omega) (by rw[List.length_set];exact h2)
theorem ZxW {g:Zar} (h:Zhb g):ZgW g=some (match Zqu g g.work.length [] (List.replicate g.work.length false) with | some l=>(l,true) | none=>([],false)):=by
 obtain⟨r,e,hr⟩:=Zx2 h g.work.length [] (List.replicate g.work.length false) (by simp) (by simp)
 have hl:=h.wl
 unfold ZgW
 rw[decide_eq_true (show(0:Int)≤(g.work.length:Int) by omega),decide_eq_true (show(g.work.length:Int)≤lim by show(g.work.length:Int)≤1073741824;omega),beq_self_eq_true]
 simp only[decide_true,Bool.and_true,cond_true,Int.toNat_natCast,e,Option.bind_some]
 cases ho:Zqu g g.work.length [] (List.replicate g.work.length false) with
 | some l=>rw[ho] at hr;simp only at hr;subst hr;rfl
 | none=>rw[ho] at hr;obtain⟨l,rfl⟩:=hr;rfl
structure ZhQ (g:Zar) (out:List Int) (done:List Bool):Prop where
 dl:done.length=g.work.length
 mem:∀i:Nat,bAt done (i:Int)=true↔(i:Int)∈out
 inn:∀z∈out,0≤z∧z.toNat<g.work.length
 nod:out.Nodup
 topo:∀(i:Nat) (n:Int),out[i]? = some n→∀e∈g.edges,e.dst=n→∃j,j<i∧out[j]? = some e.src
theorem Zx0 {done:List Bool}{i:Nat} (hi:i<done.length) (z:Int) (hz:0≤z):bAt (done.set i true) z=(decide (z=(i:Int)) || bAt done z):=by
 unfold bAt
 rw[List.getElem?_set]
 by_cases h:i=z.toNat
 ·subst h
  rw[if_pos rfl,if_pos hi,decide_eq_true (show z=((z.toNat:Nat):Int) by omega)];rfl
 ·rw[if_neg h,decide_eq_false (show ¬z=(i:Int) by omega)];rfl
theorem ZhQ.start (g:Zar):ZhQ g [] (List.replicate g.work.length false):=by
 refine⟨by simp,fun i=>?_,by simp,by simp,by simp⟩
 unfold bAt
 rw[List.getElem?_replicate]
 by_cases h:((i:Int)).toNat<g.work.length
 ·rw[if_pos h];simp
 ·rw[if_neg h];simp
theorem ZhQ.next {g:Zar} (h:Zhb g) {out:List Int}{done:List Bool} (o:ZhQ g out done) {i:Nat} (hn:Zrh g done=some i):ZhQ g (out++[(i:Int)]) (done.set i true):=by
 obtain⟨_,hi,x,_,hp⟩:=Zuj _ _ _ _ hn
 rw[Nat.zero_add] at hi
 unfold Zrc at hp
 simp only[Bool.and_eq_true,Bool.not_eq_true',List.any_eq_false,Bool.not_eq_true] at hp
 have hid:i<done.length:=by rw[o.dl];exact hi
 have hnot:(i:Int)∉out:=fun hm=>by have:=(o.mem i).2 hm;rw[hp.1] at this;cases this
 refine⟨by rw[List.length_set];exact o.dl,fun j=>?_,fun z hz=>?_,?_,fun k n hk e he hd=>?_⟩
 ·rw[Zx0 hid (j:Int) (by omega),Bool.or_eq_true,decide_eq_true_eq,o.mem,List.mem_append,List.mem_singleton]
  exact Or.comm
 ·rcases List.mem_append.1 hz with hz | hz
  ·exact o.inn z hz
  ·rw[List.mem_singleton] at hz;subst hz;exact⟨by omega,by simpa using hi⟩
 ·rw[List.nodup_append]
  refine⟨o.nod,by simp,fun a ha b hb=>?_⟩
  rw[List.mem_singleton] at hb
  subst hb
  exact fun hab=>hnot (hab ▸ ha)
 ·rcases Nat.lt_or_ge k out.length with hk2 | hk2
  ·rw[List.getElem?_append_left hk2] at hk
   obtain⟨j,h1,h2⟩:=o.topo k n hk e he hd
   exact⟨j,h1,by rw[List.getElem?_append_left (by omega)];exact h2⟩
  ·rw[List.getElem?_append_right hk2] at hk
   have hk0:k-out.length=0:=by
    rcases Nat.eq_zero_or_pos (k-out.length) with h0 | h0
    ·exact h0
    ·rw[List.getElem?_eq_none (by simp only[List.length_cons,List.length_nil];omega)] at hk;cases hk
   rw[hk0] at hk
   simp only[List.getElem?_cons_zero,Option.some.injEq] at hk
   subst hk
   have hs:=hp.2 e he
   rw[hd] at hs
   have hs:bAt done e.src=true:=by simpa using hs
   have hsr:=h.src e he
   have:=(o.mem e.src.toNat).1 (by rw[show((e.src.toNat:Nat):Int)=e.src by omega];exact hs)
   rw[show((e.src.toNat:Nat):Int)=e.src by omega] at this
   obtain⟨j,hj⟩:=List.getElem?_of_mem this
   have hjl:=(List.getElem?_eq_some_iff.1 hj).1
   exact⟨j,by omega,by rw[List.getElem?_append_left hjl];exact hj⟩
theorem ZhQ.way {g:Zar}{out:List Int}{done:List Bool} (o:ZhQ g out done) {a b:Int} (w:Way g a b):∀j:Nat,out[j]? = some b→∃i,i<j∧out[i]? = some a:=by
 induction w with
 | one he=>intro j hj;exact o.topo j _ hj _ he rfl
 | more _ he ih=>
  intro j hj
  obtain⟨i,h1,h2⟩:=o.topo j _ hj _ he rfl
  obtain⟨k,h3,h4⟩:=ih i h2
  exact⟨k,by omega,h4⟩
theorem Zuf {l:List Int} (h:l.Nodup) {i j:Nat}{a:Int} (h1:l[i]? = some a) (h2:l[j]? = some a):i=j:=by
 obtain⟨a1,a2⟩:=List.getElem?_eq_some_iff.1 h1
 obtain⟨b1,b2⟩:=List.getElem?_eq_some_iff.1 h2
 exact(List.getElem_inj h).1 (a2.trans b2.symm)
def ZBy (n:Nat) (done:List Bool):List Int:=((List.range n).filter fun i:Nat=>!bAt done (i:Int)).map fun i:Nat=>(i:Int)
theorem ZsQ {n:Nat}{done:List Bool}{i:Nat} (h1:i<n) (h2:bAt done (i:Int)=false):(i:Int)∈ZBy n done:=
 List.mem_map.2 ⟨i,List.mem_filter.2 ⟨List.mem_range.2 h1,by rw[h2];rfl⟩,rfl⟩
theorem Zy0 {g:Zar} (h:Zhb g) (hg:Zrw g) {out:List Int}{done:List Bool} (o:ZhQ g out done) (i0:Nat) (hi0:i0<g.work.length) (hb:bAt done (i0:Int)=false):∃i,Zrh g done=some i:=by
 cases hn:Zrh g done with
 | some i=>exact⟨i,rfl⟩
 | none=>
  exfalso
  have hall:=ZtO _ _ _ hn
  obtain⟨m,hm,hm2⟩:=ZAt hg _ (ZBy g.work.length done) (Nat.le_refl _) (by
   intro he
   have:=ZsQ hi0 hb
   rw[he] at this;cases this)
  obtain⟨k,hk,rfl⟩:=List.mem_map.1 hm
  obtain⟨hk1,hk2⟩:=List.mem_filter.1 hk
  rw[List.mem_range] at hk1
  have hr:=hall k g.work[k] (List.getElem?_eq_getElem hk1)
  rw[Nat.zero_add] at hr
  unfold Zrc at hr
  rw[hk2,Bool.true_and,Bool.not_eq_false',List.any_eq_true] at hr
  obtain⟨e,he,he2⟩:=hr
  simp only[Bool.and_eq_true,beq_iff_eq] at he2
  have hsr:=h.src e he
  refine hm2 e he he2.1 ?_
  have es:((e.src.toNat:Nat):Int)=e.src:=by omega
  rw[← es]
  exact ZsQ hsr.2 (by rw[es];simpa using he2.2)
theorem ZBH {n:Nat}{out:List Int} (h1:out.Nodup) (h2:∀z∈out,0≤z∧z.toNat<n):(out.length≤n)∧(out.length=n→∀i:Nat,i<n→(i:Int)∈out):=by
 induction n generalizing out with
 | zero=>
  refine⟨?_,fun _ i hi=>absurd hi (by omega)⟩
  cases out with
  | nil=>simp
  | cons z l=>have:=h2 z (by simp);omega
 | succ n ih=>
  by_cases hm:(n:Int)∈out
  ·have e1:(out.erase (n:Int)).length=out.length-1:=List.length_erase_of_mem hm
   have pos:0<out.length:=List.length_pos_of_mem hm
   obtain⟨a,b⟩:=ih (out:=out.erase (n:Int)) (h1.erase _) (fun z hz=>by
    have hz2:=(List.Nodup.mem_erase_iff h1).1 hz
    have:=h2 z hz2.2
    have:=hz2.1
    omega)
   refine⟨by omega,fun hl i hi=>?_⟩
   by_cases hin:i=n
   ·subst hin;exact hm
   ·exact List.mem_of_mem_erase (b (by omega) i (by omega))
  ·obtain⟨a,b⟩:=ih (out:=out) h1 (fun z hz=>by
    have:=h2 z hz
    have:z≠(n:Int):=fun he=>hm (he ▸ hz)
    omega)
   exact⟨by omega,fun hl=>by omega⟩
theorem ZBE:∀(n:Nat) (out:List Int),(∀i:Nat,i<n→(i:Int)∈out)→n≤out.length
 | 0,out,h=>by omega
 | n+1,out,h=>by
  have hm:=h n (by omega)
  have e1:(out.erase (n:Int)).length=out.length-1:=List.length_erase_of_mem hm
  have pos:0<out.length:=List.length_pos_of_mem hm
  have:=ZBE n (out.erase (n:Int)) (fun i hi=>(List.mem_erase_of_ne (by omega)).2 (h i (by omega)))
  omega
theorem Zo5 {g:Zar} (h:Zhb g):∀(k:Nat) (out:List Int) (done:List Bool),ZhQ g out done→out.length+k=g.work.length→(∀l,Zqu g k out done=some l→∃done',ZhQ g l done'∧l.length=g.work.length)∧(Zrw g→∃l,Zqu g k out done=some l)
 | 0,out,done,o,hl=>⟨fun l h=>by cases h;exact⟨done,o,by omega⟩,fun _=>⟨out,rfl⟩⟩
 | k+1,out,done,o,hl=>by
  unfold Zqu
  cases hn:Zrh g done with
  | none=>
   refine⟨fun l h=>(by cases h),fun hg=>?_⟩
   exfalso
   have hex:∃i0,i0<g.work.length∧(i0:Int)∉out:=by
    apply Classical.byContradiction
    intro hc
    have hc2:∀i0,i0<g.work.length→(i0:Int)∈out:=fun i0 hi=>Classical.byContradiction fun hx=>hc ⟨i0,hi,hx⟩
    have sub:=ZBE g.work.length out hc2
    omega
   obtain⟨i0,h1,h2⟩:=hex
   obtain⟨i,hi⟩:=Zy0 h hg o i0 h1 (by
    cases hb:bAt done (i0:Int) with
    | false=>rfl
    | true=>exact absurd ((o.mem i0).1 hb) h2)
   rw[hn] at hi
   cases hi
  | some i=>
   exact Zo5 h k _ _ (o.next h hn) (by rw[List.length_append];simp only[List.length_cons,List.length_nil];omega)
theorem ZB9 {g:Zar} (h:Zhb g) {l:List Int}{done:List Bool} (o:ZhQ g l done) (hl:l.length=g.work.length):Zrw g:=by
 intro a w
 have ha:=w.src_in h
 have hm:=(ZBH o.nod o.inn).2 hl a.toNat ha.2
 rw[show((a.toNat:Nat):Int)=a by omega] at hm
 obtain⟨j,hj⟩:=List.getElem?_of_mem hm
 obtain⟨i,h1,h2⟩:=o.way w j hj
 have:=Zuf o.nod h2 hj
 omega
structure ZFR (g:Zar) (l:List Int):Prop where
 len:l.length=g.work.length
 all:∀i:Nat,i<g.work.length→(i:Int)∈l
 inn:∀z∈l,0≤z∧z.toNat<g.work.length
 nod:l.Nodup
 topo:∀(i:Nat) (n:Int),l[i]? = some n→∀e∈g.edges,e.dst=n→∃j,j<i∧l[j]? = some e.src
theorem ZtF {g:Zar} (h:Zhb g) (hg:Zrw g):∃l,ZgW g=some (l,true)∧ZFR g l:=by
 obtain⟨k1,k2⟩:=Zo5 h g.work.length [] _ (ZhQ.start g) (by simp)
 obtain⟨l,hl⟩:=k2 hg
 obtain⟨done,o,hn⟩:=k1 l hl
 exact⟨l,by rw[ZxW h,hl],hn,(ZBH o.nod o.inn).2 hn,o.inn,o.nod,o.topo⟩
theorem ZBW {g:Zar} (h:Zhb g) (hg:¬Zrw g):ZgW g=some ([],false):=by
 rw[ZxW h]
 cases ho:Zqu g g.work.length [] (List.replicate g.work.length false) with
 | none=>rfl
 | some l=>
  obtain⟨done,o,hn⟩:=(Zo5 h g.work.length [] _ (ZhQ.start g) (by simp)).1 l ho
  exact absurd (ZB9 h o hn) hg
noncomputable def ZzM (g:Zar):Bool:=@decide (Zrw g) (Classical.propDecidable _)
theorem ZxP {g:Zar} (h:Zrw g):ZzM g=true:=@decide_eq_true _ (Classical.propDecidable _) h
theorem ZuB {g:Zar} (h:¬Zrw g):ZzM g=false:=@decide_eq_false _ (Classical.propDecidable _) h
noncomputable def Zg4 (g:Zar):Int:=bif ZjV g==0 then (bif ZzM g then 0 else 43) else ZjV g
theorem ZiE {g:Zar} (h:Zg4 g=0):Zhb g∧Zrw g:=by
 unfold Zg4 at h
 by_cases h0:ZjV g=0
 ·rw[h0] at h
  refine⟨Zsh h0,Classical.byContradiction fun hn=>?_⟩
  rw[ZuB hn] at h
  simp at h
 ·rw[beq_false_of_ne h0] at h
  exact absurd h h0
theorem Zpb (g:Zar) (h:Zq1 g):ZhI g=some (Zg4 g):=by
 have hw:=Zo1 g.work (fun z0=>Zep z0) Zir (fun x _=>Zzi x) h.w
 unfold ZhI Zg4
 rw[hw,Zwj g h]
 by_cases h0:ZjV g=0
 ·have hG:=Zsh h0
  rw[h0]
  unfold ZjV at h0
  by_cases hg:Zrw g
  ·obtain⟨l,e,_⟩:=ZtF hG hg
   rw[e,ZxP hg]
   revert h0
   cases decide (64<(g.work.length:Int))<;>cases decide (256<(g.edges.length:Int))<;>cases g.work.any Zir<;>cases Zhz (Zpd g) 0 g.edges<;>simp
  ·rw[ZBW hG hg,ZuB hg]
   revert h0
   cases decide (64<(g.work.length:Int))<;>cases decide (256<(g.edges.length:Int))<;>cases g.work.any Zir<;>cases Zhz (Zpd g) 0 g.edges<;>simp
 ·rw[beq_false_of_ne h0]
  unfold ZjV at h0 ⊢
  revert h0
  cases decide (64<(g.work.length:Int))<;>cases decide (256<(g.edges.length:Int))<;>cases g.work.any Zir<;>cases Zhz (Zpd g) 0 g.edges<;>simp
theorem ZkU {K W:Type} (eq:K→K→Bool) (k:K) (v:W):∀l:List (K×W),(∀q∈l,eq k q.1=false)→ZB eq l k v=l++[(k,v)]
 | [],_=>rfl
 | (a,u) :: r,h=>by
  unfold ZB
  rw[h (a,u) (by simp)]
  simp only[cond_false,List.cons_append]
  rw[ZkU eq k v r fun q hq=>h q (by simp[hq])]
theorem ZlB {K W:Type} (eq:K→K→Bool) (k:K) (z:W) (m:List (K×W)):∀l:List (K×W),(∀q∈l,eq k q.1=false)→ZaT eq (l++m) k z=ZaT eq m k z
 | [],_=>rfl
 | (a,u) :: r,h=>by
  rw[List.cons_append]
  conv=>lhs;unfold ZaT
  rw[h (a,u) (by simp)]
  exact ZlB eq k z m r fun q hq=>h q (by simp[hq])
theorem Zmg {K W:Type} (eq:K→K→Bool) (k:K) (z:W) (m:List (K×W)):∀l:List (K×W),(∃q∈l,eq k q.1=true)→ZaT eq (l++m) k z=ZaT eq l k z
 | [],h=>by obtain⟨q,hq,_⟩:=h;simp at hq
 | (a,u) :: r,h=>by
  rw[List.cons_append]
  unfold ZaT
  cases hb:eq k a with
  | true=>rfl
  | false=>
   simp only[cond_false]
   refine Zmg eq k z m r ?_
   obtain⟨q,hq,hk⟩:=h
   rcases List.mem_cons.1 hq with rfl | hq
   ·rw[hb] at hk;cases hk
   ·exact⟨q,hq,hk⟩
abbrev eqI:Int→Int→Bool:=fun ka kb:Int=>(ka==kb)
theorem Zrr {K W:Type} (eq:K→K→Bool) (k:K) (v w:W) (hk:eq k k=true):∀l:List (K×W),(∀q∈l,eq k q.1=false)→ZB eq (l++[(k,v)]) k w=l++[(k,w)]
 | [],_=>by
  show(bif eq k k then _ else _)=_
  rw[hk];rfl
 | (a,u) :: r,h=>by
  rw[List.cons_append]
  unfold ZB
  rw[h (a,u) (by simp)]
  simp only[cond_false,List.cons_append]
  rw[Zrr eq k v w hk r fun q hq=>h q (by simp[hq])]
theorem Zt0 {K W:Type} (eq:K→K→Bool) (k:K) (z v:W) (hk:eq k k=true) (l m:List (K×W)) (h:∀q∈l,eq k q.1=false):ZaT eq (l++(k,v) :: m) k z=v:=by
 rw[ZlB eq k z _ l h]
 show(bif eq k k then _ else _)=_
 rw[hk];rfl
def tch (d:Zp) (n:Nat):List Int:=tl d (n:Int) 0 99
theorem Zpq {d:Zp} (g:ZoB d) (n:Nat):ZiD d (n:Int) (tch d n):=Zw6 g (n:Int)
theorem ZFx {d:Zp} (hs:Zjj d) (hf:d.futures.length≤1000) (hc:Zhq d=0) (n:Nat):Zez d (n:Int)=some (tch d n):=by
 obtain⟨r,h1,h2⟩:=Zyj d hs hf hc (n:Int)
 rw[h1,h2.eq (Zpq (ZuJ hc) n)]
theorem ZzN {d:Zp} (hf:d.futures.length≤1000) (n:Nat):Ze0 d (n:Int)=some (tch d n):=ZvH d hf (n:Int)
abbrev nt (d:Zp) (n:Nat):Nat:=(tch d n).length
theorem ZtV {d:Zp} (g:Zde d) (n:Nat):nt d n≤16:=Nat.le_trans (ZvY (Zpq g.g n)) g.fl
def cut (d:Zp) (n i:Nat):Int:=if i=0 then 0 else match (tch d n)[i-1]? with | some z=>ZfJ d.futures z | none=>ZeZ d.parts (n:Int)
def Zg1 (d:Zp) (n k:Nat):List Int:=(List.range k).map fun i=>cut d n (i+1)-cut d n i
def ZaE (d:Zp):Nat→Nat
 | 0=>0
 | n+1=>ZaE d n+(nt d n+1)
theorem Zf9 {d:Zp} (g:Zde d):∀n,ZaE d n≤17*n
 | 0=>Nat.le_refl _
 | n+1=>by have:=Zf9 g n;have:=ZtV g n;show ZaE d n+(nt d n+1)≤_;omega
theorem Zjm {d:Zp}{n i:Nat} (g:ZoB d) (hi:i<nt d n):∃f,Zx (tch d n) (i:Int)=some (tch d n)[i]∧Zx d.futures (tch d n)[i]=some f∧d.futures[((tch d n)[i]).toNat]? = some f∧f.user=(n:Int)∧f.pos=cut d n (i+1)∧f∈d.futures:=by
 obtain⟨j,f,h1,h2,h3⟩:=(Zpq g n).mem _ |>.1 (List.getElem_mem hi)
 refine⟨f,Zay (List.getElem?_eq_getElem hi),?_,?_,h2,?_,List.mem_of_getElem? h1⟩
 ·rw[h3];exact Zay h1
 ·rw[h3,Int.toNat_natCast];exact h1
 ·unfold cut
  rw[if_neg (by omega),Nat.add_sub_cancel,List.getElem?_eq_getElem hi]
  show _=ZfJ d.futures (tch d n)[i]
  unfold ZfJ
  rw[h3,Int.toNat_natCast,h1]
theorem ZtA {d:Zp} (g:ZoB d) (n i:Nat):0≤cut d n i∧cut d n i≤100:=by
 unfold cut
 split
 ·omega
 ·have wb:0≤ZeZ d.parts (n:Int)∧ZeZ d.parts (n:Int)≤100:=by
   refine⟨?_,Zl2 g _⟩
   unfold ZeZ
   split
   ·rename_i p hp;have:=g.w p (List.mem_of_getElem? hp);omega
   ·omega
  split
  ·rename_i z hz
   obtain⟨j,f,h1,h2,h3⟩:=(Zpq g n).mem z |>.1 (List.mem_of_getElem? hz)
   have:=g.f f (List.mem_of_getElem? h1)
   have:=Zl2 g f.user
   unfold ZfJ
   rw[h3,Int.toNat_natCast,h1]
   show 0≤f.pos∧f.pos≤100
   omega
  ·exact wb
theorem Zqh (d:Zp) (n:Nat):cut d n (nt d n+1)=ZeZ d.parts (n:Int):=by
 unfold cut
 rw[if_neg (by omega),Nat.add_sub_cancel,List.getElem?_eq_none (Nat.le_refl _)]
theorem Zjx (d:Zp) (n k:Nat):Zg1 d n (k+1)=Zg1 d n k++[cut d n (k+1)-cut d n k]:=by unfold Zg1;rw[List.range_succ,List.map_append];rfl
theorem ZiC (d:Zp) (n k:Nat):(Zg1 d n k).length=k:=by unfold Zg1;simp
def ZfQ (d:Zp) (n:Nat):List Int:=Zg1 d n (nt d n+1)
theorem ZuX {d:Zp}{n:Nat} (hn:n<d.parts.length):∃x,Zx d.parts (n:Int)=some x∧x.work=ZeZ d.parts (n:Int):=by
 refine⟨d.parts[n],Zay (List.getElem?_eq_getElem hn),?_⟩
 unfold ZeZ
 rw[Int.toNat_natCast,List.getElem?_eq_getElem hn]
theorem Ztg {d:Zp} (g:Zde d) {n:Nat} (hn:n<d.parts.length):Zhk d (n:Int)=some (ZfQ d n):=by
 have hnt:=ZtV g n
 have key:∀(k i:Nat),i+k=nt d n→lp (Zeg d (tch d n)) (cut d n i,(i:Int),Zg1 d n i)=some (cut d n (nt d n),Zg1 d n (nt d n)):=by
  intro k
  induction k with
  | zero=>
   intro i hi
   have:i=nt d n:=by omega
   subst this
   rw[Zbz]
   simp only[Zeg,show((nt d n:Nat):Int)=((tch d n).length:Int) from rfl,ZdR,cond_false]
  | succ k ih=>
   intro i hi
   have hi':i<nt d n:=by omega
   obtain⟨f,h1,h2,_,_,h5,_⟩:=Zjm g.g hi'
   have b0:=ZtA g.g n i
   have b1:=ZtA g.g n (i+1)
   rw[Zbz]
   simp only[Zeg,Zdk (show i<(tch d n).length from hi'),cond_true,h1,h2,Option.bind_some,h5,ZQ hi' (show nt d n<9223372036854775808 by omega),ZiO (show(Zg1 d n i).length+1≤1073741824 by rw[ZiC];omega),Zch (show -9223372036854775808≤cut d n (i+1)-cut d n i by omega) (by omega)]
   rw[← Zjx]
   exact ih (i+1) (by omega)
 have k0:=key (nt d n) 0 (by omega)
 obtain⟨x,x1,x2⟩:=ZuX hn
 have b0:=ZtA g.g n (nt d n)
 have b1:=ZtA g.g n (nt d n+1)
 rw[Zqh] at b1
 unfold Zhk ZfQ
 rw[ZzN (by have:=g.fl;omega)]
 simp only[Option.bind_some,show lp (Zeg d (tch d n)) (0,0,[])=_ from k0,x1,x2,ZiO (show(Zg1 d n (nt d n)).length+1≤1073741824 by rw[ZiC];omega),cond_true,Zch (show -9223372036854775808≤ZeZ d.parts (n:Int)-cut d n (nt d n) by omega) (by omega)]
 rw[Zjx,Zqh]
theorem Zpw {d:Zp} (g:Zde d) {n:Nat} (hn:n≤d.parts.length):Zdi d (n:Int)=some (ZaE d n:Int):=by
 have hpl:=g.pl
 have key:∀(k i:Nat),i+k=n→lp (Zd6 d (n:Int)) ((ZaE d i:Int),(i:Int))=some (ZaE d n:Int):=by
  intro k
  induction k with
  | zero=>
   intro i hi
   have:i=n:=by omega
   subst this
   rw[Zbz]
   simp only[Zd6,ZdR,cond_false]
  | succ k ih=>
   intro i hi
   have hi':i<n:=by omega
   have hb:=Zf9 g (i+1)
   have e:(ZaE d i:Int)+((ZfQ d i).length:Int)=(ZaE d (i+1):Int):=by
    unfold ZfQ
    rw[ZiC]
    show _=((ZaE d i+(nt d i+1):Nat):Int)
    omega
   rw[Zbz]
   simp only[Zd6,Zdk hi',cond_true,Ztg g (show i<d.parts.length by omega),Option.bind_some,e,Zch (show -9223372036854775808≤(ZaE d (i+1):Int) by omega) (by omega),ZQ hi' (show n<9223372036854775808 by omega)]
   exact ih (i+1) (by omega)
 unfold Zdi
 have k0:=key n 0 (by omega)
 rw[show lp (Zd6 d (n:Int)) (0,0)=_ from k0]
 rfl
def ZhO (d:Zp) (z:Int):Int:=(ZaE d z.toNat:Int)
def Zkq (d:Zp) (z:Int):Int:=(ZaE d (z.toNat+1):Int)-1
theorem Znv {d:Zp} (g:Zde d) {z:Int} (h:inR d z):Zdi d z=some (ZhO d z):=by
 have:=Zpw g (n:=z.toNat) (Nat.le_of_lt h.2)
 rwa [show((z.toNat:Nat):Int)=z from Int.toNat_of_nonneg h.1] at this
theorem Zpt {d:Zp} (g:Zde d) {z:Int} (h:inR d z):Zgu d z=some (Zkq d z):=by
 have hpl:=g.pl
 have h2:=h.2
 have h1:=h.1
 have:=Zpw g (n:=z.toNat+1) (by omega)
 have hb:=Zf9 g (z.toNat+1)
 unfold Zgu Zkq
 rw[Zch (show -9223372036854775808≤z+1 by omega) (by omega),show z+1=((z.toNat+1:Nat):Int) by omega,this]
 rw[Option.bind_some,Zch (show -9223372036854775808≤(ZaE d (z.toNat+1):Int)-1 by omega) (by omega)]
def ZuT (d:Zp) (f:Zl):Int:=Zla (fun _ z=>ZfJ d.futures z==f.pos) (fun i _=>ZhO d f.user+(i:Int)+1) (-1) 0 (tch d f.user.toNat)
theorem ZwD {d:Zp} (g:Zde d) {f:Zl} (hf:f∈d.futures):Ziq d f=some (ZuT d f):=by
 have hu:=g.user hf
 have hz:((f.user.toNat:Nat):Int)=f.user:=Int.toNat_of_nonneg hu.1
 have hb:=Zf9 g f.user.toNat
 have hpl:=g.pl
 have hu2:=hu.2
 have hnt:=ZtV g f.user.toNat
 have key:=Zen (tch d f.user.toNat) (Zfx d f (tch d f.user.toNat)) (fun _ z=>ZfJ d.futures z==f.pos) (fun i _=>.inl (ZhO d f.user+(i:Int)+1)) (.inr ()) (fun i z hi hx=>by
   obtain⟨e,h1,h2,h3,_⟩:=Zjm g.g (show i<nt d f.user.toNat from hi)
   have hz2:(tch d f.user.toNat)[i]=z:=Option.some.inj ((List.getElem?_eq_getElem hi).symm.trans hx)
   rw[hz2] at h1 h2 h3
   have hp:ZfJ d.futures z=e.pos:=by unfold ZfJ;rw[h3]
   have hi2:i<nt d f.user.toNat:=hi
   have hfz:ZhO d f.user=(ZaE d f.user.toNat:Int):=rfl
   simp only[Zfx,Zdk hi,cond_true,h1,h2,Option.bind_some,hp,Znv g hu,ZQ hi (show(tch d f.user.toNat).length<9223372036854775808 by show nt d f.user.toNat<_;omega),Zch (show -9223372036854775808≤ZhO d f.user+(i:Int) by rw[hfz];omega) (by rw[hfz];omega),Zch (show -9223372036854775808≤ZhO d f.user+(i:Int)+1 by rw[hfz];omega) (by rw[hfz];omega)]
   cases e.pos==f.pos<;>rfl) (by simp only[Zfx,ZdR];rfl)
 have ht:=ZzN (d:=d) (by have:=g.fl;omega) f.user.toNat
 rw[hz] at ht
 unfold Ziq ZuT
 rw[ht,Option.bind_some,key]
 exact(ZpY (fun _ z=>ZfJ d.futures z==f.pos) (fun i _=>(Sum.inl (ZhO d f.user+(i:Int)+1):Int⊕Unit)) (.inr ()) (fun r=>match r with | .inl r=>some r | .inr _=>some (-1:Int)) _ 0).trans (ZpY (fun _ z=>ZfJ d.futures z==f.pos) (fun i _=>ZhO d f.user+(i:Int)+1) (-1) some _ 0).symm
def upto {β:Type} (B:Nat→List β) (k:Nat):List β:=(List.range k).flatMap B
theorem Zd8 {β:Type} (B:Nat→List β) (k:Nat):upto B (k+1)=upto B k++B k:=by unfold upto;rw[List.range_succ,List.flatMap_append];simp
theorem Zns {γ β:Type} (l:List γ) (hl:l.length≤1000) (step:Int×List β→Option ((Int×List β)⊕List β)) (g:γ→β)
  (h1:∀(i:Nat) x s,i<l.length→l[i]? = some x→Nat.ble (s.length+1) lim=true→step ((i:Int),s)=some (.inl (((i+1:Nat):Int),s++[g x])))
  (h2:∀s,step ((l.length:Int),s)=some (.inr s)) (s:List β) (hs:s.length≤1000000):lp step (0,s)=some (s++l.map g):=by
 have key:=(ZiL l step (fun i s=>((i:Int),s)) (fun _ s x=>s++[g x]) id (fun i s=>s.length≤1000000+i) (fun i x s hi hx hI=>⟨h1 i x s hi hx (ZiO (by omega)),by rw[List.length_append];simp only[List.length_cons,List.length_nil];omega⟩) (fun s _=>h2 s) s (by omega)).1
 have e:∀(l:List γ) (i:Nat) (s:List β),ZdE (fun _ s x=>s++[g x]) i s l=s++l.map g:=by
  intro l
  induction l with
  | nil=>intro i s;simp[ZdE]
  | cons x l ih=>intro i s;show ZdE _ (i+1) (s++[g x]) l=_;rw[ih];simp
 rw[e] at key
 exact key
def Zg6 (d:Zp) (n k:Nat):List Zo:=(List.range k).map fun j=>⟨((ZaE d n+j:Nat):Int),((ZaE d n+j+1:Nat):Int)⟩
theorem ZnG (d:Zp) (n k:Nat):Zg6 d n (k+1)=Zg6 d n k++[⟨((ZaE d n+k:Nat):Int),((ZaE d n+k+1:Nat):Int)⟩]:=by unfold Zg6;rw[List.range_succ,List.map_append];rfl
theorem Zpl (d:Zp) (n k:Nat):(Zg6 d n k).length=k:=by unfold Zg6;simp
def Zeo (n k:Nat):List Zj:=(List.range k).map fun j:Nat=>⟨(n:Int),(j:Int)⟩
theorem ZpG (n k:Nat):Zeo n (k+1)=Zeo n k++[⟨(n:Int),(k:Int)⟩]:=by unfold Zeo;rw[List.range_succ,List.map_append];rfl
theorem Znw (n k:Nat):(Zeo n k).length=k:=by unfold Zeo;simp
def Ze4 (d:Zp) (k:Nat):List Int:=upto (ZfQ d) k
def ZfK (d:Zp) (k:Nat):List Zo:=upto (fun n=>Zg6 d n (nt d n)) k
def Zb6 (d:Zp) (k:Nat):List Zj:=upto (fun n=>Zeo n (nt d n+1)) k
theorem Zjn (d:Zp):∀k,(Ze4 d k).length=ZaE d k
 | 0=>rfl
 | k+1=>by unfold Ze4;rw[Zd8,List.length_append];unfold ZfQ;rw[ZiC];show(Ze4 d k).length+_=ZaE d k+_;rw[Zjn d k]
theorem ZgZ (d:Zp):∀k,(Zb6 d k).length=ZaE d k
 | 0=>rfl
 | k+1=>by unfold Zb6;rw[Zd8,List.length_append,Znw];show(Zb6 d k).length+_=ZaE d k+_;rw[ZgZ d k]
theorem ZmD (d:Zp):∀k,(ZfK d k).length≤ZaE d k
 | 0=>Nat.le_refl _
 | k+1=>by unfold ZfK;rw[Zd8,List.length_append,Zpl];have:=ZmD d k;unfold ZfK at this;show _≤ZaE d k+(nt d k+1);omega
def ZnU (d:Zp):List Zo:=d.edges.map fun e=>⟨Zkq d e.src,ZhO d e.dst⟩
def ZqH (d:Zp):List Zo:=d.futures.map fun f=>⟨Zkq d f.maker,ZuT d f⟩
def ZwF (d:Zp) (at_:Int) (b:Zw):List Zo:=b.ins.map (fun q=>⟨Zkq d q,at_⟩)++b.outs.map (fun q=>⟨at_,ZhO d q⟩)
def Znb (d:Zp) (i:Nat):Int:=((ZaE d d.parts.length+i:Nat):Int)
def Zer (d:Zp) (k:Nat):List Zo:=upto (fun i=>match d.barriers[i]? with | some b=>ZwF d (Znb d i) b | none=>[]) k
def ZeI (k:Nat):List Zj:=(List.range k).map fun i:Nat=>⟨-1,(i:Int)⟩
theorem Zri (k:Nat):(ZeI k).length=k:=by unfold ZeI;simp
theorem Zp7 (k:Nat):ZeI (k+1)=ZeI k++[⟨-1,(k:Int)⟩]:=by unfold ZeI;rw[List.range_succ,List.map_append];rfl
def ZiP (d:Zp):List Int:=Ze4 d d.parts.length++List.replicate d.barriers.length 1
def Zmt (d:Zp):List Zo:=ZfK d d.parts.length++ZnU d++ZqH d
def Zwv (d:Zp):List Zo:=Zmt d++Zer d d.barriers.length
def Zr1 (d:Zp):List Zj:=Zb6 d d.parts.length++ZeI d.barriers.length
def Zgt (d:Zp):Znj:=⟨⟨ZiP d,Zwv d⟩,Zr1 d⟩
theorem Zo8 {d:Zp} (g:Zde d):(Zmt d).length≤1000:=by
 unfold Zmt ZnU ZqH
 have h1:=ZmD d d.parts.length
 have h2:=Zf9 g d.parts.length
 have h3:=g.pl
 have h4:=g.el
 have h5:=g.fl
 simp only[List.length_append,List.length_map]
 omega
theorem ZAp {d:Zp} (hz:ZmT d) {b:Zw} (hb:b∈d.barriers) (z:Int):(ZwF d z b).length≤40:=by
 have:=hz.i b hb
 unfold ZwF
 simp only[List.length_append,List.length_map]
 omega
theorem Zmu {d:Zp} (hz:ZmT d):∀k,(Zer d k).length≤40*k
 | 0=>Nat.le_refl _
 | k+1=>by
  have ih:=Zmu hz k
  unfold Zer at ih ⊢
  rw[Zd8,List.length_append]
  split
  ·rename_i b hb
   have:=ZAp hz (List.mem_of_getElem? hb) (Znb d k)
   omega
  ·simp only[List.length_nil];omega
theorem Zw0 {d:Zp} (g:Zde d) {n:Nat} (hn:n<d.parts.length) (s0:Int×List Zo×List Int×List Zj) (h0:s0.1=(n:Int)) (E:List Zo) (W:List Int) (P:List Zj) (hE:E.length≤1000) (hW:W.length≤1000) (hP:P.length≤1000) :
  lp (Zd7 d s0 (ZfQ d n)) (0,E,W,P)=some (E++Zg6 d n (nt d n),W++ZfQ d n,P++Zeo n (nt d n+1)):=by
 have hnt:=ZtV g n
 have hpl:=g.pl
 have hF:=Zf9 g n
 have hlen:(ZfQ d n).length=nt d n+1:=ZiC d n _
 have key:∀(k i:Nat),i+k=nt d n+1→lp (Zd7 d s0 (ZfQ d n)) ((i:Int),E++Zg6 d n (i-1),W++Zg1 d n i,P++Zeo n i)=some (E++Zg6 d n (nt d n),W++ZfQ d n,P++Zeo n (nt d n+1)):=by
  intro k
  induction k with
  | zero=>
   intro i hi
   have:i=nt d n+1:=by omega
   subst this
   rw[Zbz]
   simp only[Zd7,show((nt d n+1:Nat):Int)=((ZfQ d n).length:Int) by rw[hlen],ZdR,cond_false]
   rfl
  | succ k ih=>
   intro i hi
   have hi':i<nt d n+1:=by omega
   have hx:(ZfQ d n)[i]? = some (cut d n (i+1)-cut d n i):=by
    unfold ZfQ Zg1
    rw[List.getElem?_map,List.getElem?_range hi']
    rfl
   have l1:(P++Zeo n i).length+1≤1073741824:=by rw[List.length_append,Znw];omega
   have l2:(W++Zg1 d n i).length+1≤1073741824:=by rw[List.length_append,ZiC];omega
   have l3:(E++Zg6 d n (i-1)).length+1≤1073741824:=by rw[List.length_append,Zpl];omega
   have ih':=ih (i+1) (by omega)
   rw[Zjx,ZpG,← List.append_assoc,← List.append_assoc] at ih'
   rw[Zbz]
   simp only[Zd7,hlen,Zdk hi',cond_true,ZiO l1,Zay hx,Option.bind_some,ZiO l2,ZiO l3,h0,Zpw g (Nat.le_of_lt hn),ZQ hi' (show nt d n+1<9223372036854775808 by omega)]
   cases i with
   | zero=>
    simp only[decide_eq_false (show ¬(0:Int)<((0:Nat):Int) by omega),cond_false]
    exact ih'
   | succ j=>
    have e1:(ZaE d n:Int)+((j+1:Nat):Int)=((ZaE d n+j+1:Nat):Int):=by omega
    have e2:((ZaE d n+j+1:Nat):Int)-1=((ZaE d n+j:Nat):Int):=by omega
    simp only[decide_eq_true (show(0:Int)<((j+1:Nat):Int) by omega),cond_true,e1,Zch (show -9223372036854775808≤((ZaE d n+j+1:Nat):Int) by omega) (by omega),e2,Zch (show -9223372036854775808≤((ZaE d n+j:Nat):Int) by omega) (by omega),Nat.add_sub_cancel]
    rw[Nat.add_sub_cancel,ZnG,← List.append_assoc] at ih'
    exact ih'
 have:=key (nt d n+1) 0 (by omega)
 simpa [Zg6,Zg1,Zeo] using this
theorem Zw3 {d:Zp} (g:Zde d):lp (Zeh d) (0,[],[],[])=some (ZfK d d.parts.length,Ze4 d d.parts.length,Zb6 d d.parts.length):=by
 have hpl:=g.pl
 have key:∀(k i:Nat),i+k=d.parts.length→lp (Zeh d) ((i:Int),ZfK d i,Ze4 d i,Zb6 d i)=some (ZfK d d.parts.length,Ze4 d d.parts.length,Zb6 d d.parts.length):=by
  intro k
  induction k with
  | zero=>
   intro i hi
   have:i=d.parts.length:=by omega
   subst this
   rw[Zbz]
   simp only[Zeh,ZdR,cond_false]
  | succ k ih=>
   intro i hi
   have hi':i<d.parts.length:=by omega
   have hF:=Zf9 g i
   have h1:=ZmD d i
   have ih':=ih (i+1) (by omega)
   rw[show ZfK d (i+1)=ZfK d i++Zg6 d i (nt d i) from Zd8 _ i,show Ze4 d (i+1)=Ze4 d i++ZfQ d i from Zd8 _ i,show Zb6 d (i+1)=Zb6 d i++Zeo i (nt d i+1) from Zd8 _ i] at ih'
   rw[Zbz]
   simp only[Zeh,Zdk hi',cond_true,Ztg g hi',Option.bind_some,Zw0 g hi' ((i:Int),ZfK d i,Ze4 d i,Zb6 d i) rfl (ZfK d i) (Ze4 d i) (Zb6 d i) (by omega) (by rw[Zjn];omega) (by rw[ZgZ];omega),ZQ hi' (show d.parts.length<9223372036854775808 by omega)]
   exact ih'
 exact key d.parts.length 0 (by omega)
theorem ZwJ {d:Zp} (g:Zde d) (E:List Zo) (hE:E.length≤10000):lp (Zee d) (0,E)=some (E++ZnU d):=
 have he:=g.el
 Zns d.edges (by omega) (Zee d) (fun e=>⟨Zkq d e.src,ZhO d e.dst⟩) (fun i x s hi hx hb=>by
  have hm:=List.mem_of_getElem? hx
  simp only[Zee,Zdk hi,cond_true,Zay hx,Option.bind_some,Zpt g (g.src hm),Znv g (g.dst hm),hb,ZQ hi (show d.edges.length<9223372036854775808 by omega)]) (fun s=>by simp only[Zee,ZdR,cond_false]) E (by omega)
theorem ZuR {d:Zp} (g:Zde d) (E:List Zo) (hE:E.length≤10000):lp (Zd4 d) (0,E)=some (E++ZqH d):=
 have he:=g.fl
 Zns d.futures (by omega) (Zd4 d) (fun f=>⟨Zkq d f.maker,ZuT d f⟩) (fun i x s hi hx hb=>by
  have hm:=List.mem_of_getElem? hx
  simp only[Zd4,Zdk hi,cond_true,Zay hx,Option.bind_some,Zpt g (g.maker hm),ZwD g hm,hb,ZQ hi (show d.futures.length<9223372036854775808 by omega)]) (fun s=>by simp only[Zd4,ZdR,cond_false]) E (by omega)
theorem Zyb {d:Zp} (g:Zde d) (hz:ZmT d) (E:List Zo) (hE:E.length≤10000):lp (Zd2 d) (0,E,Ze4 d d.parts.length,Zb6 d d.parts.length)=some (E++Zer d d.barriers.length,ZiP d,Zr1 d):=by
 have hbl:=g.bl
 have hF:=Zf9 g d.parts.length
 have hpl:=g.pl
 have key:∀(k i:Nat),i+k=d.barriers.length→lp (Zd2 d) ((i:Int),E++Zer d i,Ze4 d d.parts.length++List.replicate i 1,Zb6 d d.parts.length++ZeI i)=some (E++Zer d d.barriers.length,ZiP d,Zr1 d):=by
  intro k
  induction k with
  | zero=>
   intro i hi
   have:i=d.barriers.length:=by omega
   subst this
   rw[Zbz]
   simp only[Zd2,ZdR,cond_false]
   rfl
  | succ k ih=>
   intro i hi
   have hi':i<d.barriers.length:=by omega
   have hx:d.barriers[i]? = some d.barriers[i]:=List.getElem?_eq_getElem hi'
   have hm:=List.mem_of_getElem? hx
   have hsz:=hz.i _ hm
   have hB:=Zmu hz i
   have lp_:(Zb6 d d.parts.length++ZeI i).length=ZaE d d.parts.length+i:=by rw[List.length_append,ZgZ,Zri]
   have lw_:(Ze4 d d.parts.length++List.replicate i (1:Int)).length=ZaE d d.parts.length+i:=by rw[List.length_append,Zjn,List.length_replicate]
   have hat:((Zb6 d d.parts.length++ZeI i).length:Int)=Znb d i:=by rw[lp_];rfl
   have k4:=fun s=>Zns d.barriers[i].ins (by omega) (ZfC d ((i:Int),E++Zer d i,Ze4 d d.parts.length++List.replicate i 1,Zb6 d d.parts.length++ZeI i) d.barriers[i]) (fun q=>⟨Zkq d q,Znb d i⟩) (fun j x s hj hx hb=>by
    simp only[ZfC,Zdk hj,cond_true,Zay hx,Option.bind_some,Zpt g (g.ins _ hm x (List.mem_of_getElem? hx)),hb,hat,ZQ hj (show d.barriers[i].ins.length<9223372036854775808 by omega)]) (fun s=>by simp only[ZfC,ZdR,cond_false]) s
   have k5:=fun s=>Zns d.barriers[i].outs (by omega) (Zfj d ((i:Int),E++Zer d i,Ze4 d d.parts.length++List.replicate i 1,Zb6 d d.parts.length++ZeI i) d.barriers[i]) (fun q=>⟨Znb d i,ZhO d q⟩) (fun j x s hj hx hb=>by
    simp only[Zfj,Zdk hj,cond_true,Zay hx,Option.bind_some,Znv g (g.outs _ hm x (List.mem_of_getElem? hx)),hb,hat,ZQ hj (show d.barriers[i].outs.length<9223372036854775808 by omega)]) (fun s=>by simp only[Zfj,ZdR,cond_false]) s
   have ih':=ih (i+1) (by omega)
   have eB:Zer d (i+1)=Zer d i++ZwF d (Znb d i) d.barriers[i]:=by
    unfold Zer
    rw[Zd8,hx]
   rw[eB,Zp7,List.replicate_succ',ZwF,← List.append_assoc,← List.append_assoc,← List.append_assoc,← List.append_assoc] at ih'
   rw[Zbz]
   simp only[Zd2,Zdk hi',cond_true,ZiO (show(Zb6 d d.parts.length++ZeI i).length+1≤1073741824 by rw[lp_];omega),ZiO (show(Ze4 d d.parts.length++List.replicate i (1:Int)).length+1≤1073741824 by rw[lw_];omega),Zay hx,Option.bind_some,k4 (E++Zer d i) (by rw[List.length_append];omega),
    k5 (E++Zer d i++List.map (fun q=>⟨Zkq d q,Znb d i⟩) d.barriers[i].ins) (by simp only[List.length_append,List.length_map];omega),ZQ hi' (show d.barriers.length<9223372036854775808 by omega)]
   exact ih'
 have:=key d.barriers.length 0 (by omega)
 simpa [Zer,upto,ZeI] using this
theorem Zxa {d:Zp} (g:Zde d) (hz:ZmT d):Zh8 d=some (Zgt d):=by
 have hE:=Zo8 g
 have h3:(ZfK d d.parts.length++ZnU d).length≤10000:=by unfold Zmt at hE;rw[List.length_append] at hE;omega
 have h4:(ZfK d d.parts.length).length≤10000:=by rw[List.length_append] at h3;omega
 unfold Zh8
 rw[Zw3 g]
 simp only[Option.bind_some,ZwJ g _ h4,ZuR g _ h3]
 rw[show ZfK d d.parts.length++ZnU d++ZqH d=Zmt d from rfl,Zyb g hz (Zmt d) (by omega)]
 rfl
theorem Zjb (b:Zj) (c:Int) {W:List Int}{P:List Zj} (h1:W.length≤10000) (h2:P.length≤10000):Za9 b c W P=some ():=by
 unfold Za9
 rw[ZiO (by omega),ZiO (by omega)];rfl
theorem Zmh (b c:Int) {E:List Zo} (h1:E.length≤10000):Z2 b c E=some ():=by
 unfold Z2
 rw[ZiO (by omega)];rfl
theorem Zu6 {β:Type} (P:List β) (x:β) (hP:P.length≤10000):w64 ((List.length (P++[x]):Int)-1)=(P.length:Int):=by
 rw[List.length_append]
 simp only[List.length_cons,List.length_nil]
 rw[Zch (by omega) (by omega)]
 omega
theorem ZyO {d:Zp} (g:Zde d) {n:Nat} (hn:n<d.parts.length) (hc:Zez d (n:Int)=some (tch d n)) {W:List Int}{E:List Zo}{P:List Zj} (M5:List (Int×Int)) (M6:List (Zl×Int)) (hW:W.length≤1000) (hE:E.length≤1000) (hP:P.length≤1000) :
  Ze6 d (n:Int) W E P M5 M6=(lp (ZH d (n:Int) (tch d n)) (0,0,M5,M6,W,E,P)).bind fun r=>some (bif decide (0<nt d n) then .inl r else .inr (.inl r.2.2.1)):=by
 obtain⟨x,x1,x2⟩:=ZuX hn
 have hnt:=ZtV g n
 have hnl:(tch d n).length=nt d n:=rfl
 have e1:w64 (((tch d n).length:Int)+1)=(((tch d n).length+1:Nat):Int):=by rw[Zch (by omega) (by omega)];omega
 have w1:w64 ((0:Int)+1)=1:=Zch (by omega) (by omega)
 have w2:w64 ((1:Int)+1)=2:=Zch (by omega) (by omega)
 have w0:w64 ((1:Int)-1)=0:=Zch (by omega) (by omega)
 have lW:∀a:Int,(W++[a]).length≤10000:=fun a=>by rw[List.length_append];simp only[List.length_cons,List.length_nil];omega
 have lP:∀a:Zj,(P++[a]).length≤10000:=fun a=>by rw[List.length_append];simp only[List.length_cons,List.length_nil];omega
 unfold Ze6
 rw[hc,Option.bind_some,Zbz (Zcr d (n:Int) W E P M5 M6 (tch d n)),Zbz (ZH d (n:Int) (tch d n))]
 by_cases h0:0<nt d n
 ·obtain⟨f,f1,f2,_⟩:=Zjm g.g h0
  have c0:decide ((0:Int)<(((tch d n).length+1:Nat):Int))=true:=decide_eq_true (by omega)
  have c1:decide ((0:Int)<((tch d n).length:Int))=true:=decide_eq_true (by omega)
  have c2:decide ((1:Int)<(((tch d n).length+1:Nat):Int))=true:=decide_eq_true (by omega)
  have f1':Zx (tch d n) 0=some (tch d n)[0]:=f1
  simp only[Zcr,ZH,e1,c0,c1,cond_true,x1,Option.bind_some,f1',f2,Zjb _ _ (show W.length≤10000 by omega) (show P.length≤10000 by omega),w1,decide_eq_false (show ¬(0:Int)<0 by omega),cond_false,decide_eq_true h0]
  rw[Zbz (Zcq d (n:Int) W E P M5 M6 (tch d n) f),Zbz (ZH d (n:Int) (tch d n))]
  by_cases h1:1<nt d n
  ·obtain⟨f',f1b,f2b,_⟩:=Zjm g.g h1
   have f1b':Zx (tch d n) 1=some (tch d n)[1]:=f1b
   have c3:decide ((1:Int)<((tch d n).length:Int))=true:=decide_eq_true (by omega)
   simp only[Zcq,ZH,e1,c2,c3,cond_true,x1,Option.bind_some,f1',f2,f1b',f2b,Zjb _ _ (lW _) (lP _),Zmh _ _ (show E.length≤10000 by omega),w2,w0,decide_eq_true (show(0:Int)<1 by omega)]
   generalize lp (ZH d (n:Int) (tch d n)) _=r
   cases r<;>rfl
  ·have c3:decide ((1:Int)<((tch d n).length:Int))=false:=decide_eq_false (by omega)
   simp only[Zcq,ZH,e1,c2,c3,cond_true,cond_false,x1,Option.bind_some,f1',f2,Zjb _ _ (lW _) (lP _),Zmh _ _ (show E.length≤10000 by omega),w2,w0,decide_eq_true (show(0:Int)<1 by omega)]
   generalize lp (ZH d (n:Int) (tch d n)) _=r
   cases r<;>rfl
 ·have c0:decide ((0:Int)<(((tch d n).length+1:Nat):Int))=true:=decide_eq_true (by omega)
  have c1:decide ((0:Int)<((tch d n).length:Int))=false:=decide_eq_false (by omega)
  have c2:decide ((1:Int)<(((tch d n).length+1:Nat):Int))=false:=decide_eq_false (by omega)
  simp only[Zcr,ZH,e1,c0,c1,cond_true,x1,Option.bind_some,Zjb _ _ (show W.length≤10000 by omega) (show P.length≤10000 by omega),w1,decide_eq_false (show ¬(0:Int)<0 by omega),cond_false,decide_eq_false h0]
  rw[Zbz (Zdh d (n:Int) W E P M5 M6 (tch d n) x),Zbz (ZH d (n:Int) (tch d n))]
  simp only[Zdh,ZH,e1,c2,cond_false,Option.bind_some]
abbrev eqF:Zl→Zl→Bool:=fun ka kb:Zl=>((ka.maker==kb.maker)&&((ka.user==kb.user)&&((ka.pos==kb.pos)&&true)))
def Zlu (M:List (Int×Int)) (n F i:Nat):List (Int×Int):=if i=0 then M else M++[((n:Int),((F+i-1:Nat):Int))]
theorem Zwc {M:List (Int×Int)}{n F:Nat} (h:∀q∈M,q.1≠(n:Int)) (i:Nat):ZB (fun ka kb:Int=>(ka==kb)) (Zlu M n F i) (n:Int) ((F+i:Nat):Int)=Zlu M n F (i+1):=by
 have hq:∀q∈M,eqI (n:Int) q.1=false:=fun q hq=>by
  show((n:Int)==q.1)=false
  exact beq_false_of_ne (Ne.symm (h q hq))
 unfold Zlu
 rw[if_neg (show i+1≠0 by omega)]
 by_cases h0:i=0
 ·subst h0
  rw[if_pos rfl]
  exact ZkU eqI (n:Int) _ M hq
 ·rw[if_neg h0]
  exact Zrr eqI (n:Int) _ _ (by simp) M hq
theorem Zvn {M:List (Int×Int)}{n F:Nat} (h:∀q∈M,q.1≠(n:Int)) (i:Nat):ZaT (fun ka kb:Int=>(ka==kb)) (Zlu M n F (i+1)) (n:Int) 0=((F+i:Nat):Int):=by
 unfold Zlu
 rw[if_neg (show i+1≠0 by omega)]
 exact Zt0 eqI (n:Int) 0 _ (by simp) M [] (fun q hq=>by
  show((n:Int)==q.1)=false
  exact beq_false_of_ne (Ne.symm (h q hq)))
def Zim (d:Zp) (n j:Nat):Zl:=match (tch d n)[j]? with | some z=>(match d.futures[z.toNat]? with | some f=>f | none=>⟨0,0,0⟩) | none=>⟨0,0,0⟩
theorem Zf7 {d:Zp}{n i:Nat} (g:ZoB d) (hi:i<nt d n):Zx (tch d n) (i:Int)=some (tch d n)[i]∧Zx d.futures (tch d n)[i]=some (Zim d n i)∧(Zim d n i).user=(n:Int)∧(Zim d n i).pos=cut d n (i+1)∧Zim d n i∈d.futures:=by
 obtain⟨f,h1,h2,h3,h4,h5,h6⟩:=Zjm g hi
 have e:Zim d n i=f:=by
  unfold Zim
  rw[List.getElem?_eq_getElem hi]
  show(match d.futures[((tch d n)[i]).toNat]? with | some f=>f | none=>⟨0,0,0⟩)=f
  rw[h3]
 rw[e]
 exact⟨h1,h2,h4,h5,h6⟩
theorem ZpS {d:Zp} (g:ZoB d) {n i j:Nat} (hij:i<j) (hj:j<nt d n):(Zim d n i).pos<(Zim d n j).pos:=by
 obtain⟨_,_,h3,_,_,h5,_⟩:=Zjm g (show i<nt d n by omega)
 obtain⟨_,_,k3,_,_,k5,_⟩:=Zjm g hj
 rw[(Zf7 g (show i<nt d n by omega)).2.2.2.1,(Zf7 g hj).2.2.2.1]
 have:=List.pairwise_iff_getElem.1 (Zpq g n).rise i j (show i<nt d n by omega) hj hij
 have e:∀k (hk:k<nt d n),cut d n (k+1)=ZfJ d.futures (tch d n)[k]:=fun k hk=>by
  unfold cut
  rw[if_neg (by omega),Nat.add_sub_cancel,List.getElem?_eq_getElem hk]
 rw[e i (by omega),e j hj]
 exact this
def Zh1 (d:Zp) (n k:Nat):List (Zl×Int):=(List.range k).map fun j:Nat=>(Zim d n j,((ZaE d n+j+1:Nat):Int))
theorem Zvg (d:Zp) (n k:Nat):Zh1 d n (k+1)=Zh1 d n k++[(Zim d n k,((ZaE d n+k+1:Nat):Int))]:=by unfold Zh1;rw[List.range_succ,List.map_append];rfl
theorem ZuU {a b:Zl} (h:a.user≠b.user∨a.pos≠b.pos):eqF a b=false:=by
 show((a.maker==b.maker)&&((a.user==b.user)&&((a.pos==b.pos)&&true)))=false
 rcases h with h | h
 ·rw[beq_false_of_ne h];simp
 ·rw[beq_false_of_ne h];simp
theorem Zsy {d:Zp} (g:ZoB d) {n k:Nat} (hk:k<nt d n) {M:List (Zl×Int)} (h:∀q∈M,q.1.user≠(n:Int)) :
  ZB (fun ka kb:Zl=>((ka.maker==kb.maker)&&((ka.user==kb.user)&&((ka.pos==kb.pos)&&true)))) (M++Zh1 d n k) (Zim d n k) ((ZaE d n+(k+1):Nat):Int)=M++Zh1 d n (k+1):=by
 rw[Zvg,← List.append_assoc]
 refine ZkU eqF _ _ _ fun q hq=>?_
 have hu:=(Zf7 g hk).2.2.1
 rcases List.mem_append.1 hq with hq | hq
 ·exact ZuU (.inl (by rw[hu];exact Ne.symm (h q hq)))
 ·unfold Zh1 at hq
  obtain⟨j,hj,rfl⟩:=List.mem_map.1 hq
  rw[List.mem_range] at hj
  have:=ZpS g hj hk
  exact ZuU (.inr (by show(Zim d n k).pos≠(Zim d n j).pos;omega))
theorem Zxb {d:Zp} (g:Zde d) {n:Nat} (hn:n<d.parts.length) {W:List Int}{E:List Zo}{P:List Zj}{M5:List (Int×Int)}{M6:List (Zl×Int)} (hW:W.length≤1000) (hE:E.length≤1000) (hP:P.length=ZaE d n)
  (h5:∀q∈M5,q.1≠(n:Int)) (h6:∀q∈M6,q.1.user≠(n:Int)) :
  lp (ZH d (n:Int) (tch d n)) (0,0,M5,M6,W,E,P)=some (M5++[((n:Int),((ZaE d n+nt d n:Nat):Int))],M6++Zh1 d n (nt d n),W++ZfQ d n,E++Zg6 d n (nt d n),P++Zeo n (nt d n+1)):=by
 obtain⟨x,x1,x2⟩:=ZuX hn
 have hnt:=ZtV g n
 have hnl:(tch d n).length=nt d n:=rfl
 have hF:=Zf9 g n
 have hpl:=g.pl
 have e1:w64 (((tch d n).length:Int)+1)=((nt d n+1:Nat):Int):=by show w64 ((nt d n:Int)+1)=_;rw[Zch (by omega) (by omega)];omega
 have key:∀(k i:Nat),i+k=nt d n+1→lp (ZH d (n:Int) (tch d n)) (cut d n i,(i:Int),Zlu M5 n (ZaE d n) i,M6++Zh1 d n (i-1),W++Zg1 d n i,E++Zg6 d n (i-1),P++Zeo n i) =
   some (Zlu M5 n (ZaE d n) (nt d n+1),M6++Zh1 d n (nt d n),W++ZfQ d n,E++Zg6 d n (nt d n),P++Zeo n (nt d n+1)):=by
  intro k
  induction k with
  | zero=>
   intro i hi
   have:i=nt d n+1:=by omega
   subst this
   rw[Zbz]
   simp only[ZH,e1,ZdR,cond_false]
   rfl
  | succ k ih=>
   intro i hi
   have hi':i<nt d n+1:=by omega
   have b0:=ZtA g.g n i
   have b1:=ZtA g.g n (i+1)
   have lP:(P++Zeo n i).length=ZaE d n+i:=by rw[List.length_append,Znw,hP]
   have l2:(W++Zg1 d n i).length≤10000:=by rw[List.length_append,ZiC];omega
   have l3:(E++Zg6 d n (i-1)).length≤10000:=by rw[List.length_append,Zpl];omega
   have lput:=Zu6 (P++Zeo n i) (Zj.mk (n:Int) (i:Int)) (by rw[lP];omega)
   rw[lP] at lput
   have p5:=Zwc (F:=ZaE d n) h5 i
   have g5:=Zvn (F:=ZaE d n) h5 i
   have w5:w64 (cut d n (i+1)-cut d n i)=cut d n (i+1)-cut d n i:=Zch (by omega) (by omega)
   have ih':=ih (i+1) (by omega)
   rw[Zjx,ZpG,← List.append_assoc,← List.append_assoc] at ih'
   rw[Zbz]
   have fin:i=nt d n→cut d n (i+1)=x.work:=fun h=>by rw[h,Zqh,x2]
   have node:=fun c=>Zjb (Zj.mk (n:Int) (i:Int)) c l2 (show(P++Zeo n i).length≤10000 by rw[lP];omega)
   by_cases hlast:i<nt d n
   ·obtain⟨q1,q2,q3,q4,_⟩:=Zf7 g.g hlast
    cases i with
    | zero=>
     simp only[ZH,e1,Zdk hi',cond_true,x1,Option.bind_some,Zdk (show 0<(tch d n).length from hlast),q1,q2,q4,node,decide_eq_false (show ¬(0:Int)<((0:Nat):Int) by omega),cond_false,lput,p5,w5,ZQ hi' (show nt d n+1<9223372036854775808 by omega)]
     exact ih'
    | succ j=>
     obtain⟨r1,r2,r3,r4,_⟩:=Zf7 g.g (show j<nt d n by omega)
     have e2:w64 (((j+1:Nat):Int)-1)=(j:Int):=by rw[Zch (by omega) (by omega)];omega
     have e3:w64 (((ZaE d n+(j+1):Nat):Int)-1)=((ZaE d n+j:Nat):Int):=by rw[Zch (by omega) (by omega)];omega
     have p6:=Zsy g.g (show j<nt d n by omega) h6
     rw[Nat.add_sub_cancel] at l3 ih' ⊢
     rw[ZnG,← List.append_assoc] at ih'
     simp only[ZH,e1,Zdk hi',cond_true,x1,Option.bind_some,Zdk (show j+1<(tch d n).length from hlast),q1,q2,q4,node,decide_eq_true (show(0:Int)<((j+1:Nat):Int) by omega),lput,p5,g5,w5,e2,e3,r1,r2,Zmh _ _ l3,p6,ZQ hi' (show nt d n+1<9223372036854775808 by omega)]
     exact ih'
   ·have hin:i=nt d n:=by omega
    have hfin:=fin hin
    rw[hfin] at w5 ih'
    have c3:decide ((i:Int)<((tch d n).length:Int))=false:=decide_eq_false (by have:((tch d n).length:Int)=(nt d n:Int):=rfl;omega)
    cases i with
    | zero=>
     simp only[ZH,e1,Zdk hi',cond_true,x1,Option.bind_some,c3,node,decide_eq_false (show ¬(0:Int)<((0:Nat):Int) by omega),cond_false,lput,p5,w5,ZQ hi' (show nt d n+1<9223372036854775808 by omega)]
     exact ih'
    | succ j=>
     obtain⟨r1,r2,r3,r4,_⟩:=Zf7 g.g (show j<nt d n by omega)
     have e2:w64 (((j+1:Nat):Int)-1)=(j:Int):=by rw[Zch (by omega) (by omega)];omega
     have e3:w64 (((ZaE d n+(j+1):Nat):Int)-1)=((ZaE d n+j:Nat):Int):=by rw[Zch (by omega) (by omega)];omega
     have p6:=Zsy g.g (show j<nt d n by omega) h6
     rw[Nat.add_sub_cancel] at l3 ih' ⊢
     rw[ZnG,← List.append_assoc] at ih'
     simp only[ZH,e1,Zdk hi',cond_true,cond_false,x1,Option.bind_some,c3,node,decide_eq_true (show(0:Int)<((j+1:Nat):Int) by omega),lput,p5,g5,w5,e2,e3,r1,r2,Zmh _ _ l3,p6,ZQ hi' (show nt d n+1<9223372036854775808 by omega)]
     exact ih'
 have:=key (nt d n+1) 0 (by omega)
 simpa [Zlu,Zh1,Zg1,Zg6,Zeo,cut] using this
def ZgK (a:Int) (T:List Bool) (e:Zo):List Bool:=bif (e.src==a) || bAt T e.src then T.set e.dst.toNat true else T
def ZuA (g:Zar) (a:Int) (T:List Bool):List Bool:=ZdE (fun _ T e=>ZgK a T e) 0 T g.edges
def ZnN (g:Zar) (a:Int):Nat→List Bool→List Bool
 | 0,T=>T
 | k+1,T=>ZnN g a k (ZuA g a T)
theorem Zmr (a:Int) (T:List Bool) (e:Zo):(ZgK a T e).length=T.length:=by
 unfold ZgK
 cases (e.src==a) || bAt T e.src<;>simp
theorem ZEG {g:Zar} (h:Zhb g) (a:Int) (j:Int) (T:List Bool) (hT:T.length=g.work.length):lp (Zej g a) (0,T)=some (ZuA g a T)∧(ZuA g a T).length=g.work.length:=by
 have:=ZiL g.edges (Zej g a) (fun i T=>((i:Int),T)) (fun _ T e=>ZgK a T e) id (fun _ T=>T.length=g.work.length) (fun i e T hi he hT=>by
   have hm:=List.mem_of_getElem? he
   refine⟨?_,by rw[Zmr];exact hT⟩
   have e1:=Zp8 (g:=g) hT (h.src e hm)
   have e2:=Zp8 (g:=g) hT (h.dst e hm)
   simp only[Zej,Zdk hi,Zay he,Option.bind_some,ZQ hi h.short.e,cond_true,e1,e2,ZgK]
   cases (e.src==a)<;>cases bAt T e.src<;>rfl) (fun T hT=>by simp only[Zej,ZdR];rfl) T hT
 exact this
theorem Zva {g:Zar} (h:Zhb g) (a:Int):∀(k i:Nat) (T:List Bool),i+k=g.work.length→T.length=g.work.length→lp (Zd5 g a) ((i:Int),T)=some (ZnN g a k T)
 | 0,i,T,hi,hT=>by
  have:i=g.work.length:=by omega
  subst this
  rw[Zbz]
  simp only[Zd5,ZdR,cond_false]
  rfl
 | k+1,i,T,hi,hT=>by
  obtain⟨e,hl⟩:=ZEG h a 0 T hT
  rw[Zbz]
  simp only[Zd5,Zdk (show i<g.work.length by omega),cond_true,e,Option.bind_some,ZQ (show i<g.work.length by omega) h.short.w]
  exact Zva h a k (i+1) _ (by omega) hl
def Zmv (g:Zar) (a:Int):List Bool:=ZnN g a g.work.length (List.replicate g.work.length false)
theorem ZCB {g:Zar} (h:Zhb g) (a:Int):Zip g a=some (Zmv g a):=by
 have hl:=h.wl
 have:=Zva h a g.work.length 0 (List.replicate g.work.length false) (by simp) (by simp)
 have e0:lp (Zd5 g a) (0,List.replicate g.work.length false)=some (Zmv g a):=this
 unfold Zip
 rw[decide_eq_true (show(0:Int)≤(g.work.length:Int) by omega),decide_eq_true (show(g.work.length:Int)≤lim by show(g.work.length:Int)≤1073741824;omega),beq_self_eq_true]
 simp only[decide_true,Bool.and_true,cond_true,Int.toNat_natCast,e0,Option.bind_some]
theorem Zvs {g:Zar} (h:Zhb g) (a:Int):∀(l:List Zo) (i:Nat) (T:List Bool),(∀e∈l,e∈g.edges)→T.length=g.work.length→(∀z,0≤z→bAt T z=true→Way g a z)→(∀z,0≤z→bAt (ZdE (fun _ T e=>ZgK a T e) i T l) z=true→Way g a z)
 | [],_,_,_,_,hT=>hT
 | e :: l,i,T,hl,hn,hT=>by
  refine Zvs h a l (i+1) _ (fun x hx=>hl x (by simp[hx])) (by rw[Zmr];exact hn) fun z hz hb=>?_
  have he:=hl e (by simp)
  have hd:=h.dst e he
  have hb:bAt (ZgK a T e) z=true:=hb
  unfold ZgK at hb
  cases hc:(e.src==a) || bAt T e.src with
  | false=>rw[hc] at hb;exact hT z hz hb
  | true=>
   rw[hc] at hb
   simp only[cond_true] at hb
   rw[Zx0 (by rw[hn];exact hd.2) z hz,Bool.or_eq_true,decide_eq_true_eq] at hb
   rcases hb with hb | hb
   ·have:z=e.dst:=by omega
    subst this
    rw[Bool.or_eq_true,beq_iff_eq] at hc
    rcases hc with hc | hc
    ·exact hc ▸ Way.one he
    ·exact Way.more (hT _ (h.src e he).1 hc) he
   ·exact hT z hz hb
theorem ZsD (g:Zar) (a:Int) (T:List Bool):(ZuA g a T).length=T.length:=by
 have:∀(l:List Zo) (i:Nat) (T:List Bool),(ZdE (fun _ T e=>ZgK a T e) i T l).length=T.length:=by
  intro l
  induction l with
  | nil=>intro i T;rfl
  | cons e l ih=>intro i T;exact(ih (i+1) _).trans (Zmr a T e)
 exact this g.edges 0 T
theorem ZsT {g:Zar} (h:Zhb g) (a:Int):∀(k:Nat) (T:List Bool),T.length=g.work.length→(∀z,0≤z→bAt T z=true→Way g a z)→(∀z,0≤z→bAt (ZnN g a k T) z=true→Way g a z)
 | 0,_,_,hT=>hT
 | k+1,T,hn,hT=>ZsT h a k _ (by rw[ZsD];exact hn) (Zvs h a g.edges 0 T (fun _ hx=>hx) hn hT)
def ZmM (g:Zar) (a:Int) (T:List Bool):Prop:=∀e∈g.edges,(e.src=a∨bAt T e.src=true)→bAt T e.dst=true
theorem Zxg {g:Zar}{a:Int}{T:List Bool} (hc:ZmM g a T) {b:Int} (w:Way g a b):bAt T b=true:=by
 generalize ha:a=a' at w
 induction w with
 | one he=>exact hc _ he (.inl ha.symm)
 | more w he ih=>exact hc _ he (.inr (ih ha))
def cnt (T:List Bool):Nat:=T.countP id
theorem ZCC {T:List Bool}{i:Nat} (hi:i<T.length):cnt T≤cnt (T.set i true)∧(bAt T (i:Int)=false→cnt (T.set i true)=cnt T+1):=by
 have e:=List.countP_set (p:=id) (a:=true) hi
 have hb:bAt T (i:Int)=T[i]:=by unfold bAt;rw[Int.toNat_natCast,List.getElem?_eq_getElem hi]
 unfold cnt
 rw[e,hb]
 have pos:T[i]=true→0<T.countP id:=fun ht=>List.countP_pos_iff.2 ⟨T[i],List.getElem_mem hi,ht⟩
 cases ht:T[i] with
 | true=>have:=pos ht;simp;omega
 | false=>simp
theorem Zvc {g:Zar} (h:Zhb g) (a:Int):∀(l:List Zo) (i:Nat) (T:List Bool),(∀e∈l,e∈g.edges)→T.length=g.work.length →
  cnt T≤cnt (ZdE (fun _ T e=>ZgK a T e) i T l)∧(cnt (ZdE (fun _ T e=>ZgK a T e) i T l)=cnt T→ZdE (fun _ T e=>ZgK a T e) i T l=T∧∀e∈l,(e.src=a∨bAt T e.src=true)→bAt T e.dst=true)
 | [],_,T,_,_=>⟨Nat.le_refl _,fun _=>⟨rfl,fun e he=>by cases he⟩⟩
 | e :: l,i,T,hl,hn=>by
  have he:=hl e (by simp)
  have hd:=h.dst e he
  have hi:e.dst.toNat<T.length:=by rw[hn];exact hd.2
  have hd2:((e.dst.toNat:Nat):Int)=e.dst:=by omega
  obtain⟨k1,k2⟩:=Zvc h a l (i+1) (ZgK a T e) (fun x hx=>hl x (by simp[hx])) (by rw[Zmr];exact hn)
  show cnt T≤cnt (ZdE _ (i+1) (ZgK a T e) l)∧(cnt (ZdE _ (i+1) (ZgK a T e) l)=cnt T→ZdE _ (i+1) (ZgK a T e) l=T∧_)
  obtain⟨c1,c2⟩:=ZCC hi
  have hstep:cnt T≤cnt (ZgK a T e)∧(cnt (ZgK a T e)=cnt T→ZgK a T e=T∧((e.src=a∨bAt T e.src=true)→bAt T e.dst=true)):=by
   unfold ZgK
   cases hc:(e.src==a) || bAt T e.src with
   | false=>
    simp only[cond_false]
    refine⟨Nat.le_refl _,fun _=>⟨trivial,fun hx=>?_⟩⟩
    exfalso
    rw[Bool.or_eq_false_iff,beq_eq_false_iff_ne] at hc
    rcases hx with hx | hx
    ·exact hc.1 hx
    ·rw[hc.2] at hx;cases hx
   | true=>
    simp only[cond_true]
    refine⟨c1,fun hx=>?_⟩
    cases hb:bAt T e.dst with
    | false=>
     rw[hd2] at c2
     have:=c2 hb
     omega
    | true=>
     refine⟨?_,fun _=>rfl⟩
     have hg:T[e.dst.toNat]=true:=by
      unfold bAt at hb
      rw[List.getElem?_eq_getElem hi] at hb
      exact hb
     rw[← hg,List.set_getElem_self]
  refine⟨by omega,fun hx=>?_⟩
  obtain⟨s1,s2⟩:=hstep.2 (by omega)
  obtain⟨t1,t2⟩:=k2 (by omega)
  rw[s1] at t1 t2 ⊢
  refine⟨t1,fun x hx=>?_⟩
  rcases List.mem_cons.1 hx with rfl | hx
  ·exact s2
  ·exact t2 x hx
theorem Zo4 {g:Zar} (h:Zhb g) (a:Int):∀(k:Nat) (T:List Bool),T.length=g.work.length→g.work.length≤cnt T+k→ZmM g a (ZnN g a k T)
 | 0,T,hn,hk=>by
  have hall:cnt T=T.length:=Nat.le_antisymm (List.countP_le_length) (by omega)
  have:=List.countP_eq_length.1 hall
  intro e he _
  have hd:=h.dst e he
  show bAt T e.dst=true
  unfold bAt
  rw[List.getElem?_eq_getElem (show e.dst.toNat<T.length by rw[hn];exact hd.2)]
  exact this _ (List.getElem_mem _)
 | k+1,T,hn,hk=>by
  obtain⟨c1,c2⟩:=Zvc h a g.edges 0 T (fun _ hx=>hx) hn
  by_cases hc:cnt (ZuA g a T)=cnt T
  ·obtain⟨t1,t2⟩:=c2 hc
   have t1':ZuA g a T=T:=t1
   have stay:∀k,ZnN g a k T=T:=by
    intro k
    induction k with
    | zero=>rfl
    | succ k ih=>show ZnN g a k (ZuA g a T)=T;rw[t1'];exact ih
   rw[stay]
   exact t2
  ·have c1':cnt T≤cnt (ZuA g a T):=c1
   exact Zo4 h a k (ZuA g a T) (by rw[ZsD];exact hn) (by omega)
theorem ZtD {g:Zar} (h:Zhb g) {a b:Int} (hb:0≤b):bAt (Zmv g a) b=true↔Way g a b:=by
 constructor
 ·exact ZsT h a _ _ (by simp) (fun z hz hx=>by
   exfalso
   unfold bAt at hx
   rw[List.getElem?_replicate] at hx
   split at hx
   ·rename_i heq
    split at heq
    ·cases heq;cases hx
    ·cases heq
   ·cases hx) b hb
 ·exact Zxg (Zo4 h a g.work.length (List.replicate g.work.length false) (by simp) (by omega))
theorem Zw7 (g:Zar) (a:Int):(Zmv g a).length=g.work.length:=by
 have:∀(k:Nat) (T:List Bool),(ZnN g a k T).length=T.length:=by
  intro k
  induction k with
  | zero=>intro T;rfl
  | succ k ih=>intro T;exact(ih _).trans (ZsD g a T)
 exact(this _ _).trans (by simp)
theorem Zwu (g:Zar) (h:Zq1 g):Zh7 g=some (Zg4 g):=by
 unfold Zh7
 rw[Zxd g h,Option.bind_some]
 by_cases h0:ZjV g=0
 ·have hG:=Zsh h0
  have key:=Zen g.work (Zft g) (fun i _=>bAt (Zmv g (i:Int)) (i:Int)) (fun _ _=>.inl ()) (.inr ()) (fun i x hi hx=>by
    simp only[Zft,Zdk hi,ZCB hG,Option.bind_some,ZQ hi h.w,cond_true,Zp8 (Zw7 g (i:Int)) (z:=(i:Int)) ⟨by omega,by simpa using hi⟩]
    cases bAt (Zmv g (i:Int)) (i:Int)<;>rfl) (by simp only[Zft,ZdR];rfl)
  rw[key,Zcf,h0]
  unfold Zg4
  rw[h0]
  by_cases hg:Zrw g
  ·rw[ZxP hg]
   cases hb:Zhz (fun i _=>bAt (Zmv g (i:Int)) (i:Int)) 0 g.work with
   | false=>rfl
   | true=>
    obtain⟨j,x,_,h2⟩:=(ZkH _ _ 0).1 hb
    exact absurd ((ZtD hG (by omega)).1 h2) (hg _)
  ·rw[ZuB hg]
   cases hb:Zhz (fun i _=>bAt (Zmv g (i:Int)) (i:Int)) 0 g.work with
   | true=>rfl
   | false=>
    exfalso
    refine hg fun a w=>?_
    have ha:=w.src_in hG
    have es:((a.toNat:Nat):Int)=a:=by omega
    have:=(ZkH (fun i (_:Int)=>bAt (Zmv g (i:Int)) (i:Int)) g.work 0).2 ⟨a.toNat,_,List.getElem?_eq_getElem ha.2,by rw[Nat.zero_add,es];exact(ZtD hG ha.1).2 w⟩
    rw[hb] at this
    cases this
 ·unfold Zg4
  have hne:(ZjV g != 0)=true:=by rw[bne,beq_false_of_ne h0];rfl
  rw[beq_false_of_ne h0,hne]
  rfl
def ZhP (d:Zp) (k:Nat):List (Int×Int):=(List.range k).map fun n:Nat=>((n:Int),(ZaE d n:Int))
def Zit (d:Zp) (k:Nat):List (Int×Int):=(List.range k).map fun n:Nat=>((n:Int),((ZaE d n+nt d n:Nat):Int))
def ZfI (d:Zp) (k:Nat):List (Zl×Int):=upto (fun n=>Zh1 d n (nt d n)) k
theorem ZuY (d:Zp) (k:Nat):ZhP d (k+1)=ZhP d k++[((k:Int),(ZaE d k:Int))]:=by unfold ZhP;rw[List.range_succ,List.map_append];rfl
theorem ZvN (d:Zp) (k:Nat):Zit d (k+1)=Zit d k++[((k:Int),((ZaE d k+nt d k:Nat):Int))]:=by unfold Zit;rw[List.range_succ,List.map_append];rfl
theorem ZwO (d:Zp) (k:Nat):∀q∈ZhP d k,q.1≠(k:Int):=fun q hq=>by
 unfold ZhP at hq
 obtain⟨j,hj,rfl⟩:=List.mem_map.1 hq
 rw[List.mem_range] at hj
 show(j:Int)≠(k:Int)
 omega
theorem Zub (d:Zp) (k:Nat):∀q∈Zit d k,q.1≠(k:Int):=fun q hq=>by
 unfold Zit at hq
 obtain⟨j,hj,rfl⟩:=List.mem_map.1 hq
 rw[List.mem_range] at hj
 show(j:Int)≠(k:Int)
 omega
theorem ZpJ {d:Zp}{k:Nat}{q:Zl×Int} (h:q∈ZfI d k):∃n j,n<k∧j<nt d n∧q=(Zim d n j,((ZaE d n+j+1:Nat):Int)):=by
 unfold ZfI upto at h
 obtain⟨n,hn,hq⟩:=List.mem_flatMap.1 h
 unfold Zh1 at hq
 obtain⟨j,hj,rfl⟩:=List.mem_map.1 hq
 exact⟨n,j,List.mem_range.1 hn,List.mem_range.1 hj,rfl⟩
theorem Zv4 {d:Zp} (g:ZoB d) (k:Nat):∀q∈ZfI d k,q.1.user≠(k:Int):=fun q hq=>by
 obtain⟨n,j,hn,hj,rfl⟩:=ZpJ hq
 show(Zim d n j).user≠(k:Int)
 rw[(Zf7 g hj).2.2.1]
 omega
theorem Zkc {K W:Type} (eq:K→K→Bool) (z:W) (f:Nat→K) (v:Nat→W) {i:Nat} (h0:eq (f i) (f i)=true) (h1:∀j,j<i→eq (f i) (f j)=false):∀k,i<k→ZaT eq ((List.range k).map fun j=>(f j,v j)) (f i) z=v i
 | 0,h=>absurd h (by omega)
 | k+1,h=>by
  rw[List.range_succ,List.map_append]
  by_cases hk:i<k
  ·rw[Zmg eq (f i) z _ _ ⟨(f i,v i),List.mem_map.2 ⟨i,List.mem_range.2 hk,rfl⟩,h0⟩]
   exact Zkc eq z f v h0 h1 k hk
  ·have:i=k:=by omega
   subst this
   refine Zt0 eq (f i) z (v i) h0 _ [] fun q hq=>?_
   obtain⟨j,hj,rfl⟩:=List.mem_map.1 hq
   exact h1 j (List.mem_range.1 hj)
theorem Zue {d:Zp}{z:Int} (h:inR d z):ZaT (fun ka kb:Int=>(ka==kb)) (ZhP d d.parts.length) z 0=ZhO d z:=by
 have:=Zkc eqI 0 (fun n:Nat=>(n:Int)) (fun n=>(ZaE d n:Int)) (i:=z.toNat) (by simp) (fun j hj=>beq_false_of_ne (by omega)) d.parts.length h.2
 have e:((z.toNat:Nat):Int)=z:=Int.toNat_of_nonneg h.1
 simp only[e] at this
 exact this
theorem ZsX {d:Zp}{z:Int} (h:inR d z):ZaT (fun ka kb:Int=>(ka==kb)) (Zit d d.parts.length) z 0=Zkq d z:=by
 have:=Zkc eqI 0 (fun n:Nat=>(n:Int)) (fun n=>((ZaE d n+nt d n:Nat):Int)) (i:=z.toNat) (by simp) (fun j hj=>beq_false_of_ne (by omega)) d.parts.length h.2
 have e:((z.toNat:Nat):Int)=z:=Int.toNat_of_nonneg h.1
 simp only[e] at this
 refine Eq.trans this ?_
 unfold Zkq
 show _=((ZaE d z.toNat+(nt d z.toNat+1):Nat):Int)-1
 omega
theorem Zy3 {d:Zp} (g:Zde d) {f:Zl} (h:f∈d.futures):∃j,j<nt d f.user.toNat∧Zim d f.user.toNat j=f:=by
 obtain⟨m,hm⟩:=List.getElem?_of_mem h
 have hu:=g.user h
 have e:((f.user.toNat:Nat):Int)=f.user:=Int.toNat_of_nonneg hu.1
 have:=(Zpq g.g f.user.toNat).mem (m:Int) |>.2 ⟨m,f,hm,e.symm,rfl⟩
 obtain⟨j,hj,hj2⟩:=List.getElem_of_mem this
 refine⟨j,hj,?_⟩
 unfold Zim
 rw[List.getElem?_eq_getElem hj]
 show(match d.futures[((tch d f.user.toNat)[j]).toNat]? with | some f=>f | none=>⟨0,0,0⟩)=f
 rw[hj2,Int.toNat_natCast,hm]
theorem ZxH {γ R:Type} (p:Nat→γ→Bool) (out:Nat→γ→R) (fin:R):∀(l:List γ) (i j:Nat) (x:γ),l[j]? = some x→p (i+j) x=true→(∀k y,k<j→l[k]? = some y→p (i+k) y=false)→Zla p out fin i l=out (i+j) x
 | [],i,j,x,h,_,_=>by cases h
 | y :: l,i,0,x,h,h1,_=>by
  cases h
  unfold Zla
  rw[Nat.add_zero] at h1
  rw[h1];rfl
 | y :: l,i,j+1,x,h,h1,h2=>by
  unfold Zla
  have h0:=h2 0 y (by omega) rfl
  rw[Nat.add_zero] at h0
  rw[h0]
  show Zla p out fin (i+1) l=_
  rw[show i+(j+1)=i+1+j by omega] at h1 ⊢
  exact ZxH p out fin l (i+1) j x h h1 fun k z hk hz=>by
   have:=h2 (k+1) z (by omega) hz
   rwa [show i+(k+1)=i+1+k by omega] at this
theorem ZCb {d:Zp} (g:Zde d) {f:Zl} (h:f∈d.futures) {j:Nat} (hj:j<nt d f.user.toNat) (he:Zim d f.user.toNat j=f):ZuT d f=((ZaE d f.user.toNat+j+1:Nat):Int):=by
 have pos:∀k (hk:k<nt d f.user.toNat),ZfJ d.futures (tch d f.user.toNat)[k]=(Zim d f.user.toNat k).pos:=fun k hk=>by
  rw[(Zf7 g.g hk).2.2.2.1]
  unfold cut
  rw[if_neg (by omega),Nat.add_sub_cancel,List.getElem?_eq_getElem hk]
 unfold ZuT
 rw[ZxH (fun _ z=>ZfJ d.futures z==f.pos) (fun i _=>ZhO d f.user+(i:Int)+1) (-1) (tch d f.user.toNat) 0 j _ (List.getElem?_eq_getElem hj) (by show(ZfJ d.futures (tch d f.user.toNat)[j]==f.pos)=true;rw[pos j hj,he];simp) (fun k y hk hy=>by
  have hk2:k<nt d f.user.toNat:=by omega
  have hy2:(tch d f.user.toNat)[k]=y:=Option.some.inj ((List.getElem?_eq_getElem hk2).symm.trans hy)
  have:=ZpS g.g hk hj
  rw[he] at this
  show(ZfJ d.futures y==f.pos)=false
  rw[← hy2,pos k hk2]
  exact beq_false_of_ne (by omega))]
 unfold ZhO
 omega
theorem Zve (f:Zl):eqF f f=true:=by simp[eqF]
theorem Zyx {d:Zp} (g:Zde d) {f:Zl} (h:f∈d.futures):ZaT (fun ka kb:Zl=>((ka.maker==kb.maker)&&((ka.user==kb.user)&&((ka.pos==kb.pos)&&true)))) (ZfI d d.parts.length) f 0=ZuT d f:=by
 obtain⟨j,hj,he⟩:=Zy3 g h
 have hu:=g.user h
 have eu:((f.user.toNat:Nat):Int)=f.user:=Int.toNat_of_nonneg hu.1
 have key:∀k,f.user.toNat<k→ZaT eqF (ZfI d k) f 0=ZuT d f:=by
  intro k
  induction k with
  | zero=>intro hk;exact absurd hk (by omega)
  | succ k ih=>
   intro hk
   rw[show ZfI d (k+1)=ZfI d k++Zh1 d k (nt d k) from Zd8 _ k]
   by_cases hlt:f.user.toNat<k
   ·rw[Zmg eqF f 0 _ _ ⟨(f,((ZaE d f.user.toNat+j+1:Nat):Int)),?_,Zve f⟩]
    ·exact ih hlt
    ·unfold ZfI upto
     refine List.mem_flatMap.2 ⟨f.user.toNat,List.mem_range.2 hlt,?_⟩
     unfold Zh1
     exact List.mem_map.2 ⟨j,List.mem_range.2 hj,by rw[he]⟩
   ·have hk2:k=f.user.toNat:=by omega
    subst hk2
    rw[ZlB eqF f 0 _ _ (fun q hq=>by
     obtain⟨n,i,hn,hi,rfl⟩:=ZpJ hq
     refine ZuU (.inl ?_)
     show f.user≠(Zim d n i).user
     rw[(Zf7 g.g hi).2.2.1]
     omega)]
    have:=Zkc eqF 0 (fun i=>Zim d f.user.toNat i) (fun i=>((ZaE d f.user.toNat+i+1:Nat):Int)) (i:=j) (Zve _) (fun i hi=>by
     have:=ZpS g.g hi hj
     exact ZuU (.inr (by omega))) (nt d f.user.toNat) hj
    rw[ZCb g h hj he]
    rw[he] at this
    exact this
 exact key d.parts.length hu.2
theorem Zxk {d:Zp} (g:Zde d) (hc:∀n:Nat,Zez d (n:Int)=some (tch d n)):lp (Zdz d) (0,[],[],[],[],[],[])=some (Ze4 d d.parts.length,ZfK d d.parts.length,Zb6 d d.parts.length,ZhP d d.parts.length,Zit d d.parts.length,ZfI d d.parts.length):=by
 have hpl:=g.pl
 have key:∀(k i:Nat),i+k=d.parts.length→lp (Zdz d) ((i:Int),Ze4 d i,ZfK d i,Zb6 d i,ZhP d i,Zit d i,ZfI d i)=some (Ze4 d d.parts.length,ZfK d d.parts.length,Zb6 d d.parts.length,ZhP d d.parts.length,Zit d d.parts.length,ZfI d d.parts.length):=by
  intro k
  induction k with
  | zero=>
   intro i hi
   have:i=d.parts.length:=by omega
   subst this
   rw[Zbz]
   simp only[Zdz,ZdR,cond_false]
  | succ k ih=>
   intro i hi
   have hi':i<d.parts.length:=by omega
   have hF:=Zf9 g i
   have h1:=ZmD d i
   have l1:(Ze4 d i).length≤1000:=by rw[Zjn];omega
   have l2:(ZfK d i).length≤1000:=by omega
   have l3:(Zb6 d i).length≤1000:=by rw[ZgZ];omega
   have ih':=ih (i+1) (by omega)
   rw[show ZfK d (i+1)=ZfK d i++Zg6 d i (nt d i) from Zd8 _ i,show Ze4 d (i+1)=Ze4 d i++ZfQ d i from Zd8 _ i,show Zb6 d (i+1)=Zb6 d i++Zeo i (nt d i+1) from Zd8 _ i,ZuY,ZvN,show ZfI d (i+1)=ZfI d i++Zh1 d i (nt d i) from Zd8 _ i] at ih'
   have pe:=ZyO g hi' (hc i) (Zit d i) (ZfI d i) l1 l2 l3
   rw[Zxb g hi' l1 l2 (ZgZ d i) (Zub d i) (Zv4 g.g i),Option.bind_some] at pe
   have p4:ZB (fun ka kb:Int=>(ka==kb)) (ZhP d i) (i:Int) ((Zb6 d i).length:Int)=ZhP d i++[((i:Int),(ZaE d i:Int))]:=by
    rw[ZgZ]
    exact ZkU eqI (i:Int) _ _ fun q hq=>beq_false_of_ne (Ne.symm (ZwO d i q hq))
   have p5:ZB (fun ka kb:Int=>(ka==kb)) (Zit d i) (i:Int) (ZaE d i:Int)=Zit d i++[((i:Int),(ZaE d i:Int))]:=ZkU eqI (i:Int) _ _ fun q hq=>beq_false_of_ne (Ne.symm (Zub d i q hq))
   have lput:=Zu6 (Zb6 d i) (Zj.mk (i:Int) 0) (by omega)
   rw[ZgZ] at lput
   rw[Zbz]
   by_cases h0:0<nt d i
   ·rw[decide_eq_true h0] at pe
    simp only[Zdz,Zdk hi',cond_true,pe,Option.bind_some,p4,ZQ hi' (show d.parts.length<9223372036854775808 by omega)]
    exact ih'
   ·have hz:nt d i=0:=by omega
    rw[decide_eq_false h0] at pe
    simp only[Zdz,Zdk hi',cond_true,cond_false,pe,Option.bind_some,p4,lput,p5,ZQ hi' (show d.parts.length<9223372036854775808 by omega)]
    rw[hz] at ih'
    simpa [Zg6,Zeo,Zh1] using ih'
 exact key d.parts.length 0 (by omega)
theorem ZwN {d:Zp} (g:Zde d) {r3:List Int×List Zo×List Zj×List (Int×Int)×List (Int×Int)×List (Zl×Int)} (h4:r3.2.2.2.1=ZhP d d.parts.length) (h5:r3.2.2.2.2.1=Zit d d.parts.length) (E:List Zo) (hE:E.length≤1000):lp (Zd3 d r3) (0,E)=some (E++ZnU d):=
 have he:=g.el
 Zns d.edges (by omega) (Zd3 d r3) (fun e=>⟨Zkq d e.src,ZhO d e.dst⟩) (fun i x s hi hx hb=>by
  have hm:=List.mem_of_getElem? hx
  have ed:∀b c,Z2 b c s=some ():=fun b c=>by unfold Z2;rw[hb];rfl
  simp only[Zd3,Zdk hi,cond_true,Zay hx,Option.bind_some,h4,h5,ZsX (g.src hm),Zue (g.dst hm),ed,ZQ hi (show d.edges.length<9223372036854775808 by omega)]) (fun s=>by simp only[Zd3,ZdR,cond_false]) E (by omega)
theorem ZuV {d:Zp} (g:Zde d) {r3:List Int×List Zo×List Zj×List (Int×Int)×List (Int×Int)×List (Zl×Int)} (h5:r3.2.2.2.2.1=Zit d d.parts.length) (h6:r3.2.2.2.2.2=ZfI d d.parts.length) (E:List Zo) (hE:E.length≤1000):lp (Zef d r3) (0,E)=some (E++ZqH d):=
 have he:=g.fl
 Zns d.futures (by omega) (Zef d r3) (fun f=>⟨Zkq d f.maker,ZuT d f⟩) (fun i x s hi hx hb=>by
  have hm:=List.mem_of_getElem? hx
  have ed:∀b c,Z2 b c s=some ():=fun b c=>by unfold Z2;rw[hb];rfl
  simp only[Zef,Zdk hi,cond_true,Zay hx,Option.bind_some,h5,h6,ZsX (g.maker hm),Zyx g hm,ed,ZQ hi (show d.futures.length<9223372036854775808 by omega)]) (fun s=>by simp only[Zef,ZdR,cond_false]) E (by omega)
theorem ZyD {d:Zp} (g:Zde d) (hz:ZmT d) {r3:List Int×List Zo×List Zj×List (Int×Int)×List (Int×Int)×List (Zl×Int)} (h4:r3.2.2.2.1=ZhP d d.parts.length) (h5:r3.2.2.2.2.1=Zit d d.parts.length) (E:List Zo) (hE:E.length≤1000) :
  lp (Zea d r3) (0,Ze4 d d.parts.length,E,Zb6 d d.parts.length)=some (ZiP d,E++Zer d d.barriers.length,Zr1 d):=by
 have hbl:=g.bl
 have hF:=Zf9 g d.parts.length
 have hpl:=g.pl
 have key:∀(k i:Nat),i+k=d.barriers.length→lp (Zea d r3) ((i:Int),Ze4 d d.parts.length++List.replicate i 1,E++Zer d i,Zb6 d d.parts.length++ZeI i)=some (ZiP d,E++Zer d d.barriers.length,Zr1 d):=by
  intro k
  induction k with
  | zero=>
   intro i hi
   have:i=d.barriers.length:=by omega
   subst this
   rw[Zbz]
   simp only[Zea,ZdR,cond_false]
   rfl
  | succ k ih=>
   intro i hi
   have hi':i<d.barriers.length:=by omega
   have hx:d.barriers[i]? = some d.barriers[i]:=List.getElem?_eq_getElem hi'
   have hm:=List.mem_of_getElem? hx
   have hsz:=hz.i _ hm
   have hB:=Zmu hz i
   have lp_:(Zb6 d d.parts.length++ZeI i).length=ZaE d d.parts.length+i:=by rw[List.length_append,ZgZ,Zri]
   have lw_:(Ze4 d d.parts.length++List.replicate i (1:Int)).length=ZaE d d.parts.length+i:=by rw[List.length_append,Zjn,List.length_replicate]
   have lput:=Zu6 (Zb6 d d.parts.length++ZeI i) (Zj.mk (-1) (i:Int)) (by rw[lp_];omega)
   rw[lp_,show((ZaE d d.parts.length+i:Nat):Int)=Znb d i from rfl] at lput
   have k4:=fun s=>Zns d.barriers[i].ins (by omega) (Zfn r3 ((i:Int),Ze4 d d.parts.length++List.replicate i 1,E++Zer d i,Zb6 d d.parts.length++ZeI i) d.barriers[i]) (fun q=>⟨Zkq d q,Znb d i⟩) (fun j x s hj hx hb=>by
    have ed:∀b c,Z2 b c s=some ():=fun b c=>by unfold Z2;rw[hb];rfl
    simp only[Zfn,Zdk hj,cond_true,Zay hx,Option.bind_some,h5,ZsX (g.ins _ hm x (List.mem_of_getElem? hx)),lput,ed,ZQ hj (show d.barriers[i].ins.length<9223372036854775808 by omega)]) (fun s=>by simp only[Zfn,ZdR,cond_false]) s
   have k5:=fun s=>Zns d.barriers[i].outs (by omega) (Zfp r3 ((i:Int),Ze4 d d.parts.length++List.replicate i 1,E++Zer d i,Zb6 d d.parts.length++ZeI i) d.barriers[i]) (fun q=>⟨Znb d i,ZhO d q⟩) (fun j x s hj hx hb=>by
    have ed:∀b c,Z2 b c s=some ():=fun b c=>by unfold Z2;rw[hb];rfl
    simp only[Zfp,Zdk hj,cond_true,Zay hx,Option.bind_some,h4,Zue (g.outs _ hm x (List.mem_of_getElem? hx)),lput,ed,ZQ hj (show d.barriers[i].outs.length<9223372036854775808 by omega)]) (fun s=>by simp only[Zfp,ZdR,cond_false]) s
   have ih':=ih (i+1) (by omega)
   have eB:Zer d (i+1)=Zer d i++ZwF d (Znb d i) d.barriers[i]:=by
    unfold Zer
    rw[Zd8,hx]
   rw[eB,Zp7,List.replicate_succ',ZwF,← List.append_assoc,← List.append_assoc,← List.append_assoc,← List.append_assoc] at ih'
   rw[Zbz]
   simp only[Zea,Zdk hi',cond_true,Zay hx,Option.bind_some,Zjb _ _ (show(Ze4 d d.parts.length++List.replicate i (1:Int)).length≤10000 by rw[lw_];omega) (show(Zb6 d d.parts.length++ZeI i).length≤10000 by rw[lp_];omega),k4 (E++Zer d i) (by rw[List.length_append];omega),
    k5 (E++Zer d i++List.map (fun q=>⟨Zkq d q,Znb d i⟩) d.barriers[i].ins) (by simp only[List.length_append,List.length_map];omega),ZQ hi' (show d.barriers.length<9223372036854775808 by omega)]
   exact ih'
 have:=key d.barriers.length 0 (by omega)
 simpa [Zer,upto,ZeI] using this
theorem Zrp {d:Zp} (g:Zde d) (hz:ZmT d):Zq1 (Zgt d).dag:=by
 have hE:=Zo8 g
 have hB:=Zmu hz d.barriers.length
 have hbl:=g.bl
 have hF:=Zf9 g d.parts.length
 have hpl:=g.pl
 constructor
 ·show(ZiP d).length<_
  unfold ZiP
  rw[List.length_append,Zjn,List.length_replicate]
  omega
 ·show(Zwv d).length<_
  unfold Zwv
  rw[List.length_append]
  omega
noncomputable def Zux (d:Zp):Znj×Int:=
 bif Zhq d==0 then (bif Zg4 (Zgt d).dag==0 then (Zgt d,0) else (⟨⟨[],[]⟩,[]⟩,70)) else (⟨⟨[],[]⟩,[]⟩,Zhq d)
theorem ZCs {d:Zp} (hz:ZmT d):Zik d=some (Zux d):=by
 have hs:=hz.short
 unfold Zik Zux
 rw[Zxr d hs,Option.bind_some]
 by_cases hc:Zhq d=0
 ·have g:=Zss hc
  have hE:=Zo8 g
  have h3:(ZfK d d.parts.length++ZnU d).length≤1000:=by unfold Zmt at hE;rw[List.length_append] at hE;omega
  have h4:(ZfK d d.parts.length).length≤1000:=by rw[List.length_append] at h3;omega
  rw[hc]
  simp only[bne_self_eq_false,cond_false,beq_self_eq_true,cond_true,Zxk g (ZFx hs (by have:=g.fl;omega) hc),Option.bind_some]
  rw[ZwN g rfl rfl _ h4]
  simp only[Option.bind_some]
  rw[ZuV g rfl rfl _ h3]
  simp only[Option.bind_some]
  rw[show ZfK d d.parts.length++ZnU d++ZqH d=Zmt d from rfl,ZyD g hz rfl rfl _ hE]
  simp only[Option.bind_some]
  rw[show Zar.mk (ZiP d) (Zmt d++Zer d d.barriers.length)=(Zgt d).dag from rfl,Zpb _ (Zrp g hz),Option.bind_some]
  by_cases hk:Zg4 (Zgt d).dag=0
  ·rw[hk];rfl
  ·rw[beq_false_of_ne hk,bne,beq_false_of_ne hk];rfl
 ·rw[beq_false_of_ne hc,bne,beq_false_of_ne hc];rfl
theorem ZwG {d:Zp} (hz:ZmT d):Zh5 d=some (Zux d):=by
 have hs:=hz.short
 unfold Zh5 Zux
 rw[Zyt d hs,Option.bind_some]
 by_cases hc:Zhq d=0
 ·have g:=Zss hc
  rw[hc]
  simp only[bne_self_eq_false,cond_false,beq_self_eq_true,cond_true,Zxa g hz,Option.bind_some,Zwu _ (Zrp g hz)]
  by_cases hk:Zg4 (Zgt d).dag=0
  ·rw[hk];rfl
  ·rw[beq_false_of_ne hk,bne,beq_false_of_ne hk];rfl
 ·rw[beq_false_of_ne hc,bne,beq_false_of_ne hc];rfl
theorem ZxR {d:Zp} (g:Zde d) {n:Nat} (hn:n<d.parts.length):1≤ZeZ d.parts (n:Int):=by
 unfold ZeZ
 rw[Int.toNat_natCast,List.getElem?_eq_getElem hn]
 exact(g.g.w _ (List.getElem_mem hn)).1
theorem ZxJ {d:Zp} (g:ZoB d) {n i:Nat} (hi:i<nt d n):1≤cut d n (i+1)∧cut d n (i+1)≤ZeZ d.parts (n:Int)-1:=by
 obtain⟨_,_,h3,h4,h5⟩:=Zf7 g hi
 have:=(g.f _ h5).2
 rw[h3,h4] at this
 exact this
theorem ZBd {d:Zp} (g:Zde d) {n:Nat} (hn:n<d.parts.length) {i:Nat} (hi:i≤nt d n):1≤cut d n (i+1)-cut d n i:=by
 have hw:=ZxR g hn
 by_cases hl:i<nt d n
 ·have h1:=ZxJ g.g hl
  cases i with
  | zero=>have:cut d n 0=0:=rfl;omega
  | succ j=>
   have:=ZpS g.g (show j<j+1 by omega) hl
   rw[(Zf7 g.g (show j<nt d n by omega)).2.2.2.1,(Zf7 g.g hl).2.2.2.1] at this
   omega
 ·have:i=nt d n:=by omega
  subst this
  rw[Zqh]
  cases h0:nt d n with
  | zero=>have:cut d n 0=0:=rfl;omega
  | succ j=>
   have:=ZxJ g.g (show j<nt d n by omega)
   omega
theorem ZzW {d:Zp} (g:Zde d) {n:Nat} (hn:n<d.parts.length):∀x∈ZfQ d n,1≤x:=fun x hx=>by
 unfold ZfQ Zg1 at hx
 obtain⟨i,hi,rfl⟩:=List.mem_map.1 hx
 rw[List.mem_range] at hi
 exact ZBd g hn (by omega)
theorem ZsK (d:Zp) (n:Nat):∀k,(Zg1 d n k).sum=cut d n k
 | 0=>rfl
 | k+1=>by
  rw[Zjx,List.sum_append,ZsK d n k]
  simp only[List.sum_cons,List.sum_nil]
  omega
theorem ZyN (d:Zp) (n:Nat):(ZfQ d n).sum=ZeZ d.parts (n:Int):=by unfold ZfQ;rw[ZsK,Zqh]
def ZnM (d:Zp):Nat→Int
 | 0=>0
 | k+1=>ZnM d k+ZeZ d.parts (k:Int)
theorem Zuc (d:Zp):∀k,(Ze4 d k).sum=ZnM d k
 | 0=>rfl
 | k+1=>by
  rw[show Ze4 d (k+1)=Ze4 d k++ZfQ d k from Zd8 _ k,List.sum_append,Zuc d k,ZyN]
  rfl
theorem Zwz (d:Zp):(ZiP d).sum=ZnM d d.parts.length+(d.barriers.length:Int):=by
 have:∀n:Nat,(List.replicate n (1:Int)).sum=(n:Int):=by
  intro n
  induction n with
  | zero=>rfl
  | succ n ih=>rw[List.replicate_succ,List.sum_cons,ih];omega
 unfold ZiP
 rw[List.sum_append,Zuc,this]
theorem Zwd {d:Zp} (g:Zde d):∀k,k≤d.parts.length→0≤ZnM d k∧ZnM d k≤100*k
 | 0,_=>⟨Int.le_refl _,Int.le_refl _⟩
 | k+1,h=>by
  have:=Zwd g k (by omega)
  have h1:=ZxR g (show k<d.parts.length by omega)
  have h2:=Zl2 g.g (k:Int)
  show 0≤ZnM d k+ZeZ d.parts (k:Int)∧ZnM d k+ZeZ d.parts (k:Int)≤_
  omega
theorem ZyI {d:Zp} (g:Zde d):∀x∈ZiP d,1≤x:=fun x hx=>by
 unfold ZiP at hx
 rcases List.mem_append.1 hx with hx | hx
 ·unfold Ze4 upto at hx
  obtain⟨n,hn,hx⟩:=List.mem_flatMap.1 hx
  exact ZzW g (List.mem_range.1 hn) x hx
 ·rw[(List.mem_replicate.1 hx).2];exact Int.le_refl _
theorem ZAY (d:Zp) (g:ZoB d) (n:Nat):nt d n=d.futures.countP fun f=>f.user==(n:Int):=by
 show(tch d n).length=_
 rw[ZtB (Zpq g n)]
 unfold ZrC
 rw[Zqj]
theorem ZtU {γ:Type} (p q r:γ→Bool) (h:∀x,r x=(p x || q x)) (h2:∀x,¬(p x=true∧q x=true)):∀l:List γ,l.countP r=l.countP p+l.countP q
 | []=>rfl
 | x :: l=>by
  rw[List.countP_cons,List.countP_cons,List.countP_cons,ZtU p q r h h2 l,h x]
  have:=h2 x
  cases hp:p x<;>cases hq:q x<;>simp_all<;>omega
theorem Zqb {d:Zp} (g:Zde d):∀k,ZaE d k=k+d.futures.countP fun f=>decide (0≤f.user)&&decide (f.user<(k:Int))
 | 0=>by
  have:(d.futures.countP fun f=>decide (0≤f.user)&&decide (f.user<((0:Nat):Int)))=0:=by
   rw[List.countP_eq_zero]
   intro f _
   simp only[Bool.and_eq_true,decide_eq_true_eq]
   omega
  rw[this];rfl
 | k+1=>by
  rw[ZtU (fun f:Zl=>decide (0≤f.user)&&decide (f.user<(k:Int))) (fun f=>f.user==(k:Int)) (fun f=>decide (0≤f.user)&&decide (f.user<((k+1:Nat):Int))) (fun f=>by
   rw[Bool.eq_iff_iff]
   simp only[Bool.and_eq_true,Bool.or_eq_true,decide_eq_true_eq,beq_iff_eq]
   omega) (fun f=>by
   simp only[Bool.and_eq_true,decide_eq_true_eq,beq_iff_eq]
   omega)]
  show ZaE d k+(nt d k+1)=_
  rw[Zqb g k,ZAY d g.g k]
  omega
theorem ZwQ {d:Zp} (g:Zde d):ZaE d d.parts.length=d.parts.length+d.futures.length:=by
 rw[Zqb g,List.countP_eq_length.2 fun f hf=>?_]
 have:=g.user hf
 have h1:=this.1
 have h2:=this.2
 simp only[Bool.and_eq_true,decide_eq_true_eq]
 omega
theorem Zxj {d:Zp} (g:Zde d):(ZiP d).length=d.parts.length+d.futures.length+d.barriers.length:=by
 unfold ZiP
 rw[List.length_append,Zjn,List.length_replicate,ZwQ g]
theorem ZBX (l:List Int) (hl:l.length≤1000) (hb:∀x∈l,0≤x∧x≤1000000) (step:Int×Int→Option ((Int×Int)⊕Int))
  (h1:∀(i:Nat) x s,i<l.length→l[i]? = some x→step (s,(i:Int))=some (.inl (w64 (s+x),((i+1:Nat):Int)))) (h2:∀s,step (s,(l.length:Int))=some (.inr s)) (s:Int) (hs:0≤s∧s≤1000000):lp step (s,0)=some (s+l.sum):=by
 have key:=(ZiL l step (fun i s=>(s,(i:Int))) (fun _ s x=>s+x) id (fun i s=>0≤s∧s≤1000000+1000000*i) (fun i x s hi hx hI=>by
  have:=hb x (List.mem_of_getElem? hx)
  refine⟨?_,by omega⟩
  rw[h1 i x s hi hx,Zch (by omega) (by omega)]) (fun s _=>h2 s) s (by omega)).1
 have e:∀(l:List Int) (i:Nat) (s:Int),ZdE (fun _ s x=>s+x) i s l=s+l.sum:=by
  intro l
  induction l with
  | nil=>intro i s;simp[ZdE]
  | cons x l ih=>intro i s;show ZdE _ (i+1) (s+x) l=_;rw[ih,List.sum_cons];omega
 rw[e] at key
 exact key
theorem Zxe {g:Zar} (h:Zg4 g=0):Zjw g=some g.work.sum:=by
 have hG:=(ZiE h).1
 unfold Zjw
 rw[Zpb g hG.short,h]
 have:=ZBX g.work (by have:=hG.wl;omega) (fun x hx=>by have:=hG.w x hx;omega) (ZgI g) (fun i x s hi hx=>by
  simp only[ZgI,Zdk hi,cond_true,Zay hx,Option.bind_some,ZQ hi hG.short.w]) (fun s=>by simp only[ZgI,ZdR,cond_false]) 0 (by omega)
 simp only[Option.bind_some,beq_self_eq_true,cond_true,this,Int.zero_add]
theorem ZwH (d:Zp):(Zux d=(Zgt d,0)∧Zhq d=0∧Zg4 (Zgt d).dag=0)∨((Zux d).1=⟨⟨[],[]⟩,[]⟩∧(Zux d).2≠0):=by
 unfold Zux
 by_cases hc:Zhq d=0
 ·rw[hc]
  by_cases hk:Zg4 (Zgt d).dag=0
  ·rw[hk];exact .inl ⟨rfl,rfl,rfl⟩
  ·rw[beq_false_of_ne hk];exact .inr ⟨rfl,by show(70:Int)≠0;omega⟩
 ·rw[beq_false_of_ne hc];exact .inr ⟨rfl,hc⟩
def Zhy:Int→Int→Option Int:=fun x y=>some (bif decide (x<y) then (-1:Int) else 0)
theorem Zdc (x y:Int):Zaa x y=some (decide (x<y)):=by
 unfold Zaa Zha
 simp only[bne_self_eq_false,cond_false,Option.bind_some]
 cases decide (x<y)<;>rfl
theorem Zdl (x y:Int):Zhy x y=some (bif decide (x<y) then (-1:Int) else 0):=rfl
theorem Zb5 (b:Bool):decide ((bif b then (-1:Int) else 0)<0)=b:=by cases b<;>rfl
theorem ZJ (b:Int):Zbw b=Z6 b Zhy:=by
 funext s
 simp only[Zbw,Z6,Zdc,Zdl,Zb5,Option.bind_some]
theorem ZM (b:Int) (c:Int):Zbv b c=Zaq b c Zhy:=by
 funext s
 simp only[Zbv,Zaq,Zdc,Zdl,Zb5,Option.bind_some,ZJ]
theorem Z3 (b:Int) (c:Int) (m:List Int):ZaB b c m=Z7 b c Zhy m:=by
 simp only[ZaB,Z7,Zdc,Zdl,Zb5,Option.bind_some,ZJ,ZM]
theorem Zao (c:Int) (d:Int):Zb1 c d=ZR c d Zhy:=by
 funext s
 simp only[Zb1,ZR,Zdc,Zdl,Zb5,Option.bind_some,ZJ,ZM,Z3]
theorem Zbi (b:Int) (c:Int) (d:Int) (m:List Int):ZbM b c d m=ZaS b c d Zhy m:=by
 simp only[ZbM,ZaS,Zdc,Zdl,Zb5,Option.bind_some,ZJ,ZM,Z3,Zao]
theorem Zau (b:Int) (c:Int):ZbY b c=ZaO b c Zhy:=by
 funext s
 simp only[ZbY,ZaO,Zdc,Zdl,Zb5,Option.bind_some,ZJ,ZM,Z3,Zao,Zbi]
theorem ZaD (b:Int):Zb0 b=ZaR b Zhy:=by
 funext s
 simp only[Zb0,ZaR,Zdc,Zdl,Zb5,Option.bind_some,ZJ,ZM,Z3,Zao,Zbi,Zau]
theorem ZbB (b:Int) (c:Int) (m:List Int):Zbb b c m=Zal b c Zhy m:=by
 simp only[Zbb,Zal,Zdc,Zdl,Zb5,Option.bind_some,ZJ,ZM,Z3,Zao,Zbi,Zau,ZaD]
theorem ZcL (b:Int) (c:Int) (m:List Int) (k:Int):ZbE b c m k=Za7 b c Zhy m k:=by
 simp only[ZbE,Za7,Zdc,Zdl,Zb5,Option.bind_some,ZJ,ZM,Z3,Zao,Zbi,Zau,ZaD,ZbB]
theorem Zc2 (b:Int) (c:Int) (d:Int) (m:List Int) (k:Int):ZbF b c d m k=Za6 b c d Zhy m k:=by
 simp only[ZbF,Za6,Zdc,Zdl,Zb5,Option.bind_some,ZJ,ZM,Z3,Zao,Zbi,Zau,ZaD,ZbB,ZcL]
theorem Zap (b:Int) (m:List Int) (k:Int):ZaU b m k=Zag b Zhy m k:=by
 simp only[ZaU,Zag,Zdc,Zdl,Zb5,Option.bind_some,ZJ,ZM,Z3,Zao,Zbi,Zau,ZaD,ZbB,ZcL,Zc2]
theorem Zbd (b:Int) (c:Int) (m:List Int):ZaQ b c m=ZY b c Zhy m:=by
 simp only[ZaQ,ZY,Zdc,Zdl,Zb5,Option.bind_some,ZJ,ZM,Z3,Zao,Zbi,Zau,ZaD,ZbB,ZcL,Zc2,Zap]
theorem Zav  : ZbC  = Zad :=by
 funext s
 simp only[ZbC,Zad,Zdc,Zdl,Zb5,Option.bind_some,ZJ,ZM,Z3,Zao,Zbi,Zau,ZaD,ZbB,ZcL,Zc2,Zap,Zbd]
theorem Zbg (b:Int) (c:Int) (m:List Int):ZaJ b c m=ZT b c Zhy m:=by
 simp only[ZaJ,ZT,Zdc,Zdl,Zb5,Option.bind_some,ZJ,ZM,Z3,Zao,Zbi,Zau,ZaD,ZbB,ZcL,Zc2,Zap,Zbd,Zav]
theorem Z1 (c:Int):Za2 c=ZO c Zhy:=by
 funext s s1
 simp only[Za2,ZO,Zdc,Zdl,Zb5,Option.bind_some,ZJ,ZM,Z3,Zao,Zbi,Zau,ZaD,ZbB,ZcL,Zc2,Zap,Zbd,Zav,Zbg]
theorem Z8  : ZaZ  = ZX Zhy:=by
 funext s
 simp only[ZaZ,ZX,Zdc,Zdl,Zb5,Option.bind_some,ZJ,ZM,Z3,Zao,Zbi,Zau,ZaD,ZbB,ZcL,Zc2,Zap,Zbd,Zav,Zbg,Z1]
theorem Zab (c:Int):Zat c=ZL c Zhy:=by
 funext s
 simp only[Zat,ZL,Zdc,Zdl,Zb5,Option.bind_some,ZJ,ZM,Z3,Zao,Zbi,Zau,ZaD,ZbB,ZcL,Zc2,Zap,Zbd,Zav,Zbg,Z1,Z8]
theorem Zaf (b:Int) (c:Int):Za1 b c=ZW b c Zhy:=by
 funext s
 simp only[Za1,ZW,Zdc,Zdl,Zb5,Option.bind_some,ZJ,ZM,Z3,Zao,Zbi,Zau,ZaD,ZbB,ZcL,Zc2,Zap,Zbd,Zav,Zbg,Z1,Z8,Zab]
theorem Zaz (b:Int) (c:Int) (m:List Int):ZaN b c m=ZU b c Zhy m:=by
 simp only[ZaN,ZU,Zdc,Zdl,Zb5,Option.bind_some,ZJ,ZM,Z3,Zao,Zbi,Zau,ZaD,ZbB,ZcL,Zc2,Zap,Zbd,Zav,Zbg,Z1,Z8,Zab,Zaf]
theorem ZcR (b:Int) (c:Int) (d:Int) (m:List Int) (x:Int) (y:Int):ZbT b c d m x y=ZaK b c d m Zhy x y:=by
 funext k
 simp only[ZbT,ZaK,Zdc,Zdl,Zb5,Option.bind_some,ZJ,ZM,Z3,Zao,Zbi,Zau,ZaD,ZbB,ZcL,Zc2,Zap,Zbd,Zav,Zbg,Z1,Z8,Zab,Zaf,Zaz]
theorem Zc9 (b:Int) (d:Int) (m:List Int) (x:Int) (y:Int) (r:Int):ZbN b d m x y r=ZaI b d m Zhy x y r:=by
 funext k
 simp only[ZbN,ZaI,Zdc,Zdl,Zb5,Option.bind_some,ZJ,ZM,Z3,Zao,Zbi,Zau,ZaD,ZbB,ZcL,Zc2,Zap,Zbd,Zav,Zbg,Z1,Z8,Zab,Zaf,Zaz,ZcR]
theorem ZdJ (b:Int) (s:Int×Int×List Int):ZbO b s=ZaL b Zhy s:=by
 funext k
 simp only[ZbO,ZaL,Zdc,Zdl,Zb5,Option.bind_some,ZJ,ZM,Z3,Zao,Zbi,Zau,ZaD,ZbB,ZcL,Zc2,Zap,Zbd,Zav,Zbg,Z1,Z8,Zab,Zaf,Zaz,ZcR,Zc9]
theorem ZeA (b:Int) (r:Int) (s:Int×Int×List Int):ZbQ b s r=ZaG b Zhy s r:=by
 funext k
 simp only[ZbQ,ZaG,Zdc,Zdl,Zb5,Option.bind_some,ZJ,ZM,Z3,Zao,Zbi,Zau,ZaD,ZbB,ZcL,Zc2,Zap,Zbd,Zav,Zbg,Z1,Z8,Zab,Zaf,Zaz,ZcR,Zc9,ZdJ]
theorem ZfF (b:Int):ZbR b=Za8 b Zhy:=by
 funext s
 simp only[ZbR,Za8,Zdc,Zdl,Zb5,Option.bind_some,ZJ,ZM,Z3,Zao,Zbi,Zau,ZaD,ZbB,ZcL,Zc2,Zap,Zbd,Zav,Zbg,Z1,Z8,Zab,Zaf,Zaz,ZcR,Zc9,ZdJ,ZeA]
theorem ZhB (b:Int) (c:Int) (d:Int) (m:List Int):Zy b c d m=Zu b c d Zhy m:=by
 simp only[Zy,Zu,Zdc,Zdl,Zb5,Option.bind_some,ZJ,ZM,Z3,Zao,Zbi,Zau,ZaD,ZbB,ZcL,Zc2,Zap,Zbd,Zav,Zbg,Z1,Z8,Zab,Zaf,Zaz,ZcR,Zc9,ZdJ,ZeA,ZfF]
theorem Ze3 (b:Int) (s:Int×Int×List Int):Zbp b s=Zaj b Zhy s:=by
 funext k
 simp only[Zbp,Zaj,Zdc,Zdl,Zb5,Option.bind_some,ZJ,ZM,Z3,Zao,Zbi,Zau,ZaD,ZbB,ZcL,Zc2,Zap,Zbd,Zav,Zbg,Z1,Z8,Zab,Zaf,Zaz,ZcR,Zc9,ZdJ,ZeA,ZfF,ZhB]
theorem ZgC (b:Int) (r:Int) (s:Int×Int×List Int):Zbq b s r=Zak b Zhy s r:=by
 funext k
 simp only[Zbq,Zak,Zdc,Zdl,Zb5,Option.bind_some,ZJ,ZM,Z3,Zao,Zbi,Zau,ZaD,ZbB,ZcL,Zc2,Zap,Zbd,Zav,Zbg,Z1,Z8,Zab,Zaf,Zaz,ZcR,Zc9,ZdJ,ZeA,ZfF,ZhB,Ze3]
theorem ZhZ (b:Int):Zbr b=Zax b Zhy:=by
 funext s
 simp only[Zbr,Zax,Zdc,Zdl,Zb5,Option.bind_some,ZJ,ZM,Z3,Zao,Zbi,Zau,ZaD,ZbB,ZcL,Zc2,Zap,Zbd,Zav,Zbg,Z1,Z8,Zab,Zaf,Zaz,ZcR,Zc9,ZdJ,ZeA,ZfF,ZhB,Ze3,ZgC]
theorem Zjk (b:Int) (c:Int) (d:Int) (m:List Int):ZP b c d m=ZF b c d Zhy m:=by
 simp only[ZP,ZF,Zdc,Zdl,Zb5,Option.bind_some,ZJ,ZM,Z3,Zao,Zbi,Zau,ZaD,ZbB,ZcL,Zc2,Zap,Zbd,Zav,Zbg,Z1,Z8,Zab,Zaf,Zaz,ZcR,Zc9,ZdJ,ZeA,ZfF,ZhB,Ze3,ZgC,ZhZ]
theorem Zpg (b:Int) (c:Int) (x:Int):Zbx b c x=ZaF b c x:=by
 funext s
 simp only[Zbx,ZaF,Zdc,Zdl,Zb5,Option.bind_some,ZJ,ZM,Z3,Zao,Zbi,Zau,ZaD,ZbB,ZcL,Zc2,Zap,Zbd,Zav,Zbg,Z1,Z8,Zab,Zaf,Zaz,ZcR,Zc9,ZdJ,ZeA,ZfF,ZhB,Ze3,ZgC,ZhZ,Zjk]
theorem Zrx (b:Int) (c:Int) (m:List Int):Zbm b c m=Zan b c Zhy m:=by
 simp only[Zbm,Zan,Zdc,Zdl,Zb5,Option.bind_some,ZJ,ZM,Z3,Zao,Zbi,Zau,ZaD,ZbB,ZcL,Zc2,Zap,Zbd,Zav,Zbg,Z1,Z8,Zab,Zaf,Zaz,ZcR,Zc9,ZdJ,ZeA,ZfF,ZhB,Ze3,ZgC,ZhZ,Zjk,Zpg]
theorem ZzU (rc:Int→Int→Int→(Int→Int→Option Int)→List Int→Option (List Int)) (rc':Int→Int→Int→List Int→Option (List Int)) (h:∀a b c l,rc' a b c l=rc a b c Zhy l):Zb9 rc'=Z0 Zhy rc:=by
 funext s
 simp only[Zb9,Z0,Zdc,Zdl,Zb5,Option.bind_some,h,Z3,Zbi,ZbB,ZcL,Zc2,Zap,Zbd,Zbg,Zaz,ZhB,Zjk,Zrx]
theorem Zx7:∀(n:Nat) (a b c:Int) (l:List Int),Zbn n a b c l=Z4 n a b c Zhy l
 | 0,_,_,_,_=>rfl
 | n+1,a,b,c,l=>by
  show Zcd (Zbn n) a b c l=ZaM (Z4 n) a b c Zhy l
  unfold Zcd ZaM
  rw[ZzU (Z4 n) (Zbn n) (Zx7 n)]
theorem Zzj (l:List Int):ZcF l=ZaW Zhy l:=by
 unfold ZcF ZaW Zfa ZdC
 simp only[Zx7]
theorem Zyk (l:List Int) (hl:l.length≤1000):∃r:List Int,ZcF l=some r∧r.Perm l∧r.Pairwise (fun x y=>x≤y):=by
 have hc:Zty Zhy (fun x y=>bif decide (x<y) then (-1:Int) else 0) (fun _=>True):=fun x y _ _=>rfl
 have e:∀x y:Int,ltC (fun x y=>bif decide (x<y) then (-1:Int) else 0) x y=decide (x<y):=fun x y=>Zb5 _
 have hs:SWO (ltC fun x y=>bif decide (x<y) then (-1:Int) else 0):=by
  refine⟨fun x=>?_,fun x y z h1 h2=>?_,fun x y z h1 h2=>?_⟩<;>simp only[e,decide_eq_true_eq,decide_eq_false_iff_not] at *<;>omega
 obtain⟨r,h1,h2,h3⟩:=ZAZ hc hs l hl (fun _ _=>trivial)
 refine⟨r,(Zzj l).trans h1,h2,h3.imp fun {x y} h=>?_⟩
 rw[e,decide_eq_false_iff_not] at h
 omega
theorem ZCN {g:Zar} (h:Zhb g) (n:Int):∃r,ZjD g n=some r∧(∀z,z∈r↔∃e∈g.edges,e.dst=n∧e.src=z)∧r.length≤256:=by
 have hel:=h.el
 have key:=Zw4 g.edges (by omega) (fun e:Zo=>e.dst==n) (fun _ e=>e.src) (ZhS g fun z0=>Zgm z0 n) (fun i x s hi hx=>by
  simp only[ZhS,Zdk hi,cond_true,Zay hx,Option.bind_some,Zgm,ZQ hi h.short.e]
  cases x.dst==n<;>rfl) (fun s=>by simp only[ZhS,ZdR,cond_false]) [] (by simp)
 rw[List.nil_append] at key
 have hlen:(sel (fun e:Zo=>e.dst==n) (fun _ e=>e.src) 0 g.edges).length≤256:=Nat.le_trans (ZtL _ _ _ _) hel
 obtain⟨r,h1,h2,_⟩:=Zyk _ (Nat.le_trans hlen (by omega))
 refine⟨r,?_,fun z=>?_,by rw[h2.length_eq];exact hlen⟩
 ·unfold ZjD ZnZ
  simp only[key,Option.bind_some,h1]
 ·rw[h2.mem_iff,ZrJ]
  constructor
  ·rintro ⟨j,x,hx,h3,h4⟩
   exact⟨x,List.mem_of_getElem? hx,by simpa using h3,h4.symm⟩
  ·rintro ⟨e,he,h3,h4⟩
   obtain⟨j,hj⟩:=List.getElem?_of_mem he
   exact⟨j,e,hj,by simpa using h3,h4.symm⟩
theorem ZrX {g:Zar} (h:Zg4 g=0):∃l,Zjz g=some l∧ZFR g l:=by
 obtain⟨hG,hA⟩:=ZiE h
 obtain⟨l,h1,h2⟩:=ZtF hG hA
 refine⟨l,?_,h2⟩
 unfold Zjz
 rw[Zpb g hG.short,h,Option.bind_some]
 simp only[bne_self_eq_false,cond_false,h1,Option.bind_some,cond_true]
def fat (l:List Int) (z:Int):Int:=match l[z.toNat]? with | some x=>x | none=>0
theorem Zls {l:List Int}{n:Nat} (hl:l.length=n) {z:Int} (h:0≤z∧z.toNat<n):Zx l z=some (fat l z):=by
 have e:=List.getElem?_eq_getElem (show z.toNat<l.length by rw[hl];exact h.2)
 rw[Ztf h.1 e]
 unfold fat
 rw[e]
theorem Zoa {l:List Int}{n:Nat} (hl:l.length=n) {z w v:Int} (hz:0≤z∧z.toNat<n) (hw:0≤w):fat (l.set z.toNat v) w=if w=z then v else fat l w:=by
 unfold fat
 rw[List.getElem?_set]
 by_cases h:z.toNat=w.toNat
 ·rw[if_pos h,if_pos (by rw[hl];exact hz.2),if_pos (by omega)]
 ·rw[if_neg h,if_neg (by intro hc;exact h (by rw[hc]))]
theorem ZsR (v:Int→Int):∀(ps:List Int) (i:Nat) (m:Int),m≤ZdE (fun _ m p=>bif decide (m<v p) then v p else m) i m ps∧(∀p∈ps,v p≤ZdE (fun _ m p=>bif decide (m<v p) then v p else m) i m ps) ∧
  (ZdE (fun _ m p=>bif decide (m<v p) then v p else m) i m ps=m∨∃p∈ps,ZdE (fun _ m p=>bif decide (m<v p) then v p else m) i m ps=v p)
 | [],i,m=>⟨Int.le_refl _,(fun p hp=>by cases hp),.inl rfl⟩
 | p :: ps,i,m=>by
  obtain⟨h1,h2,h3⟩:=ZsR v ps (i+1) (bif decide (m<v p) then v p else m)
  generalize hr:ZdE (fun _ m p=>bif decide (m<v p) then v p else m) (i+1) (bif decide (m<v p) then v p else m) ps=r at *
  have e:ZdE (fun _ m p=>bif decide (m<v p) then v p else m) i m (p :: ps)=r:=hr
  rw[e]
  by_cases hc:m<v p
  ·rw[decide_eq_true hc] at h1 h3
   simp only[cond_true] at h1 h3
   refine⟨by omega,fun q hq=>?_,?_⟩
   ·rcases List.mem_cons.1 hq with rfl | hq
    ·exact h1
    ·exact h2 q hq
   ·rcases h3 with h3 | ⟨q,hq,h3⟩
    ·exact .inr ⟨p,by simp,h3⟩
    ·exact .inr ⟨q,by simp[hq],h3⟩
  ·rw[decide_eq_false hc] at h1 h3
   simp only[cond_false] at h1 h3
   refine⟨h1,fun q hq=>?_,?_⟩
   ·rcases List.mem_cons.1 hq with rfl | hq
    ·omega
    ·exact h2 q hq
   ·rcases h3 with h3 | ⟨q,hq,h3⟩
    ·exact .inl h3
    ·exact .inr ⟨q,by simp[hq],h3⟩
structure Far (g:Zar) (F:Int→Int) (M:Int):Prop where
 edge:∀e∈g.edges,F e.src+fat g.work e.dst≤F e.dst
 least:∀i:Nat,i<g.work.length→fat g.work (i:Int)≤F (i:Int)
 some_:∀i:Nat,i<g.work.length→F (i:Int)=fat g.work (i:Int)∨∃e∈g.edges,e.dst=(i:Int)∧F (i:Int)=F e.src+fat g.work (i:Int)
 most:∀i:Nat,i<g.work.length→F (i:Int)≤M
 hit:M=0∨∃i:Nat,i<g.work.length∧M=F (i:Int)
theorem ZEh {g:Zar} (h:Zg4 g=0):∃F M,ZkC g=some M∧Far g F M:=by
 obtain⟨hG,hA⟩:=ZiE h
 obtain⟨l,h1,T⟩:=ZrX h
 have hwl:=hG.wl
 have hll:l.length≤64:=by rw[T.len];exact hwl
 have key:∀(k i:Nat) (far:List Int) (mo:Int),i+k=l.length→far.length=g.work.length →
   (∀z,0≤z∧z.toNat<g.work.length→(¬∃j,j<i∧l[j]? = some z)→fat far z=0) →
   (∀e∈g.edges,(∃j,j<i∧l[j]? = some e.dst)→fat far e.src+fat g.work e.dst≤fat far e.dst) →
   (∀z,(∃j,j<i∧l[j]? = some z)→fat g.work z≤fat far z∧(fat far z=fat g.work z∨∃e∈g.edges,e.dst=z∧fat far z=fat far e.src+fat g.work z)∧fat far z≤mo) →
   (mo=0∨∃z,(∃j,j<i∧l[j]? = some z)∧mo=fat far z) →
   (∀z,0≤z∧z.toNat<g.work.length→0≤fat far z∧fat far z≤1000*i) →
   ∃F M,lp (Zgw g l) (mo,(i:Int),far)=some M∧Far g F M:=by
  intro k
  induction k with
  | zero=>
   intro i far mo hi hl hz he hn hm hb
   have:i=l.length:=by omega
   subst this
   have all:∀j:Nat,j<g.work.length→∃q,q<l.length∧l[q]? = some (j:Int):=fun j hj=>by
    obtain⟨q,hq⟩:=List.getElem?_of_mem (T.all j hj)
    exact⟨q,(List.getElem?_eq_some_iff.1 hq).1,hq⟩
   have allz:∀z:Int,0≤z∧z.toNat<g.work.length→∃q,q<l.length∧l[q]? = some z:=fun z hz=>by
    have:=all z.toNat hz.2
    rwa [show((z.toNat:Nat):Int)=z by omega] at this
   refine⟨fat far,mo,?_,fun e hm=>he e hm (allz _ (hG.dst e hm)),fun i hi=>(hn _ (all i hi)).1,fun i hi=>(hn _ (all i hi)).2.1,fun i hi=>(hn _ (all i hi)).2.2,?_⟩
   ·rw[Zbz]
    simp only[Zgw,ZdR,cond_false]
   ·rcases hm with hm | ⟨z,⟨j,_,hj⟩,hm⟩
    ·exact .inl hm
    ·have:=T.inn z (List.mem_of_getElem? hj)
     exact .inr ⟨z.toNat,this.2,by rw[show((z.toNat:Nat):Int)=z by omega];exact hm⟩
  | succ k ih=>
   intro i far mo hi hl hz he hn hm hb
   have hi':i<l.length:=by omega
   have hx:l[i]? = some l[i]:=List.getElem?_eq_getElem hi'
   generalize hnn:l[i]=n at hx
   have nin:=T.inn n (List.mem_of_getElem? hx)
   obtain⟨ps,p1,p2,p3⟩:=ZCN hG n
   have fresh:¬∃j,j<i∧l[j]? = some n:=fun⟨j,j1,j2⟩=>by have:=Zuf T.nod j2 hx;omega
   have h0:=hz n nin fresh
   have psin:∀p∈ps,(0≤p∧p.toNat<g.work.length)∧p≠n∧∃j,j<i∧l[j]? = some p:=fun p hp=>by
    obtain⟨e,e1,e2,e3⟩:=(p2 p).1 hp
    have hs:=hG.src e e1
    obtain⟨j,j1,j2⟩:=T.topo i n hx e e1 e2
    rw[e3] at hs j2
    exact⟨hs,fun hc=>fresh ⟨j,j1,hc ▸ j2⟩,j,j1,j2⟩
   have inner:=(ZiL ps (Zgr n ps) (fun j m=>((j:Int),far.set n.toNat m)) (fun _ m p=>bif decide (m<fat far p) then fat far p else m) (fun m=>far.set n.toNat m) (fun _ _=>True) (fun j p m hj hp _=>by
    obtain⟨q1,q2,_⟩:=psin p (List.mem_of_getElem? hp)
    have hls:(far.set n.toNat m).length=g.work.length:=by rw[List.length_set];exact hl
    have g1:=Zls hls nin
    have g2:=Zls hls q1
    rw[Zoa hl nin nin.1,if_pos rfl] at g1
    rw[Zoa hl nin q1.1,if_neg q2] at g2
    refine⟨?_,trivial⟩
    simp only[Zgr,Zdk hj,cond_true,Zay hp,Option.bind_some,g1,g2,List.set_set,ZQ hj (show ps.length<9223372036854775808 by omega)]) (fun m _=>by simp only[Zgr,ZdR,cond_false]) (fat far n) trivial).1
   have self:far.set n.toNat (fat far n)=far:=by
    have e:=List.getElem?_eq_getElem (show n.toNat<far.length by rw[hl];exact nin.2)
    unfold fat
    rw[e]
    exact List.set_getElem_self _
   simp only[self] at inner
   obtain⟨m1,m2,m3⟩:=ZsR (fat far) ps 0 (fat far n)
   generalize ZdE (fun _ m p=>bif decide (m<fat far p) then fat far p else m) 0 (fat far n) ps=m at inner m1 m2 m3
   have inner2:lp (Zgr n ps) (0,far)=some (far.set n.toNat m):=inner
   rw[h0] at m1 m3
   have hwn:0≤fat g.work n∧fat g.work n≤1000:=by
    have e:=List.getElem?_eq_getElem (show n.toNat<g.work.length from nin.2)
    unfold fat
    rw[e]
    exact hG.w _ (List.getElem_mem _)
   have mb:m≤1000*i:=by
    rcases m3 with m3 | ⟨p,hp,m3⟩
    ·omega
    ·have:=hb p (psin p hp).1;omega
   have hls:(far.set n.toNat m).length=g.work.length:=by rw[List.length_set];exact hl
   have g9:=Zls hls nin
   rw[Zoa hl nin nin.1,if_pos rfl] at g9
   have g10:=Zls (l:=g.work) rfl nin
   have hw:w64 (m+fat g.work n)=m+fat g.work n:=Zch (by omega) (by omega)
   have hls2:(far.set n.toNat (m+fat g.work n)).length=g.work.length:=by rw[List.length_set];exact hl
   have g11:=Zls hls2 nin
   rw[Zoa hl nin nin.1,if_pos rfl] at g11
   have val:∀z,0≤z→fat (far.set n.toNat (m+fat g.work n)) z=if z=n then m+fat g.work n else fat far z:=fun z hz=>Zoa hl nin hz
   have old:∀z,(∃j,j<i∧l[j]? = some z)→0≤z∧z≠n:=fun z ⟨j,j1,j2⟩=>⟨(T.inn z (List.mem_of_getElem? j2)).1,fun hc=>fresh ⟨j,j1,hc ▸ j2⟩⟩
   have split:∀z,(∃j,j<i+1∧l[j]? = some z)→z=n∨∃j,j<i∧l[j]? = some z:=fun z ⟨j,j1,j2⟩=>by
    by_cases hj:j=i
    ·subst hj;rw[hx] at j2;exact .inl (Option.some.inj j2).symm
    ·exact .inr ⟨j,by omega,j2⟩
   have srcOld:∀e∈g.edges,(∃j,j<i+1∧l[j]? = some e.dst)→∃j,j<i∧l[j]? = some e.src:=fun e he1 ⟨j,j1,j2⟩=>by
    obtain⟨q,q1,q2⟩:=T.topo j e.dst j2 e he1 rfl
    exact⟨q,by omega,q2⟩
   rw[Zbz]
   simp only[Zgw,Zdk hi',cond_true,Zay hx,Option.bind_some,p1,inner2,g9,g10,List.set_set,hw,g11,ZQ hi' (show l.length<9223372036854775808 by omega)]
   refine ih (i+1) (far.set n.toNat (m+fat g.work n)) _ (by omega) hls2 (fun z z1 z2=>?_) (fun e e1 e2=>?_) (fun z z1=>?_) ?_ (fun z z1=>?_)
   ·have hzn:z≠n:=fun hc=>z2 ⟨i,by omega,by rw[hc];exact hx⟩
    rw[val z z1.1,if_neg hzn]
    exact hz z z1 fun⟨j,j1,j2⟩=>z2 ⟨j,by omega,j2⟩
   ·have so:=srcOld e e1 e2
    obtain⟨s0,s1⟩:=old e.src so
    have d0:=(hG.dst e e1).1
    rw[val e.src s0,if_neg s1,val e.dst d0]
    rcases split e.dst e2 with hd | hd
    ·rw[if_pos hd,hd]
     have:=m2 e.src ((p2 e.src).2 ⟨e,e1,hd,rfl⟩)
     omega
    ·rw[if_neg (old e.dst hd).2]
     exact he e e1 hd
   ·rcases split z z1 with hd | hd
    ·subst hd
     rw[val z nin.1,if_pos rfl]
     refine⟨by omega,?_,?_⟩
     ·rcases m3 with m3 | ⟨p,hp,m3⟩
      ·exact .inl (by omega)
      ·obtain⟨e,e1,e2,e3⟩:=(p2 p).1 hp
       obtain⟨q1,q2,_⟩:=psin p hp
       refine .inr ⟨e,e1,e2,?_⟩
       rw[e3,val p q1.1,if_neg q2,m3]
     ·by_cases hc:mo<m+fat g.work z
      ·rw[decide_eq_true hc];exact Int.le_refl _
      ·rw[decide_eq_false hc];simp only[cond_false];omega
    ·obtain⟨o1,o2⟩:=old z hd
     obtain⟨n1,n2,n3⟩:=hn z hd
     rw[val z o1,if_neg o2]
     refine⟨n1,?_,?_⟩
     ·rcases n2 with n2 | ⟨e,e1,e2,e3⟩
      ·exact .inl n2
      ·have so:=srcOld e e1 (by obtain⟨j,j1,j2⟩:=hd;exact⟨j,by omega,by rw[e2];exact j2⟩)
       obtain⟨s0,s1⟩:=old e.src so
       exact .inr ⟨e,e1,e2,by rw[val e.src s0,if_neg s1];exact e3⟩
     ·by_cases hc:mo<m+fat g.work n
      ·rw[decide_eq_true hc];simp only[cond_true];omega
      ·rw[decide_eq_false hc];simp only[cond_false];omega
   ·by_cases hc:mo<m+fat g.work n
    ·rw[decide_eq_true hc]
     exact .inr ⟨n,⟨i,by omega,hx⟩,by rw[val n nin.1,if_pos rfl];rfl⟩
    ·rw[decide_eq_false hc]
     rcases hm with hm | ⟨z,⟨j,j1,j2⟩,hm⟩
     ·exact .inl hm
     ·obtain⟨o1,o2⟩:=old z ⟨j,j1,j2⟩
      exact .inr ⟨z,⟨j,by omega,j2⟩,by rw[val z o1,if_neg o2];exact hm⟩
   ·rw[val z z1.1]
    split
    ·omega
    ·have:=hb z z1;omega
 have rep:∀z,fat (List.replicate g.work.length (0:Int)) z=0:=fun z=>by
  unfold fat
  rw[List.getElem?_replicate]
  by_cases hc:z.toNat<g.work.length
  ·rw[if_pos hc]
  ·rw[if_neg hc]
 obtain⟨F,M,k1,k2⟩:=key l.length 0 (List.replicate g.work.length 0) 0 (by omega) (by simp) (fun z _ _=>rep z) (fun e _ ⟨j,j1,_⟩=>by omega) (fun z ⟨j,j1,_⟩=>by omega) (.inl rfl) (fun z _=>by rw[rep];omega)
 refine⟨F,M,?_,k2⟩
 unfold ZkC
 rw[decide_eq_true (show(0:Int)≤(g.work.length:Int) by omega),decide_eq_true (show(g.work.length:Int)≤lim by show(g.work.length:Int)≤1073741824;omega),beq_self_eq_true]
 simp only[decide_true,Bool.and_true,cond_true,Int.toNat_natCast,h1,Option.bind_some]
 have k1:lp (Zgw g l) (0,0,List.replicate g.work.length 0)=some M:=k1
 rw[k1]
 rfl
def ZiU (w far:List Int) (e:Zo):List Int:=bif decide (fat far e.dst<fat far e.src+fat w e.dst) then far.set e.dst.toNat (fat far e.src+fat w e.dst) else far
def ZgD (w:List Int) (E:List Zo) (far:List Int):List Int:=E.foldl (ZiU w) far
def rounds (w:List Int) (E:List Zo):Nat→List Int→List Int
  | 0,far=>far
  | k+1,far=>rounds w E k (ZgD w E far)
theorem Zje (w far:List Int) (e:Zo):(ZiU w far e).length=far.length:=by
  unfold ZiU
  cases decide (fat far e.dst<fat far e.src+fat w e.dst)<;>simp
theorem Znt (w:List Int):∀(E:List Zo) (far:List Int),(ZgD w E far).length=far.length
  | [],_=>rfl
  | e :: E,far=>by
    show(ZgD w E (ZiU w far e)).length=_
    rw[Znt w E,Zje]
theorem ZsB (w:List Int) (E:List Zo):∀(k:Nat) (far:List Int),(rounds w E k far).length=far.length
  | 0,_=>rfl
  | k+1,far=>by
    show(rounds w E k (ZgD w E far)).length=_
    rw[ZsB w E k,Znt]
def EIn (E:List Zo) (n:Nat):Prop:=∀e∈E,(0≤e.src∧e.src.toNat<n)∧(0≤e.dst∧e.dst.toNat<n)
theorem Zq2 {w far:List Int}{e:Zo} (h:0≤e.dst∧e.dst.toNat<far.length) {z:Int} (hz:0≤z):fat (ZiU w far e) z=if z=e.dst∧fat far e.dst<fat far e.src+fat w e.dst then fat far e.src+fat w e.dst else fat far z:=by
  unfold ZiU
  by_cases hc:fat far e.dst<fat far e.src+fat w e.dst
  · rw[decide_eq_true hc]
    simp only[cond_true]
    rw[Zoa rfl h hz]
    by_cases hzd:z=e.dst
    · rw[if_pos hzd,if_pos ⟨hzd,hc⟩]
    · rw[if_neg hzd,if_neg fun h=>hzd h.1]
  · rw[decide_eq_false hc,if_neg fun h=>hc h.2]
    rfl
theorem Zsz {w far:List Int}{e:Zo} (h:0≤e.dst∧e.dst.toNat<far.length) {z:Int} (hz:0≤z):fat far z≤fat (ZiU w far e) z:=by
  rw[Zq2 h hz]
  split
  · rename_i hc;rw[hc.1];omega
  · exact Int.le_refl _
theorem ZmH {w:List Int}:∀{E:List Zo}{far:List Int},EIn E far.length→∀{z:Int},0≤z→fat far z≤fat (ZgD w E far) z
  | [],_,_,_,_=>Int.le_refl _
  | e :: E,far,h,z,hz=>by
    show _≤fat (ZgD w E (ZiU w far e)) z
    refine Int.le_trans (Zsz (w:=w) (h e (by simp)).2 hz) ?_
    exact ZmH (w:=w) (E:=E) (far:=ZiU w far e) (fun x hx=>by rw[Zje];exact h x (by simp[hx])) hz
theorem ZpO {w:List Int}:∀{E:List Zo}{far:List Int},EIn E far.length→∀{e:Zo},e∈E→fat far e.src+fat w e.dst≤fat (ZgD w E far) e.dst
  | [],_,_,e,he=>by cases he
  | x :: E,far,h,e,he=>by
    have h1:=h e he
    have hx:=h x (by simp)
    have h':EIn E (ZiU w far x).length:=fun y hy=>by rw[Zje];exact h y (by simp[hy])
    rcases List.mem_cons.1 he with rfl | hm
    · have:fat far e.src+fat w e.dst≤fat (ZiU w far e) e.dst:=by
        rw[Zq2 hx.2 h1.2.1]
        split
        · exact Int.le_refl _
        · rename_i hc
          have:¬fat far e.dst<fat far e.src+fat w e.dst:=fun hlt=>hc ⟨rfl,hlt⟩
          omega
      exact Int.le_trans this (ZmH h' h1.2.1)
    · have:=ZpO (w:=w) (E:=E) (far:=ZiU w far x) h' hm
      have up:=Zsz (w:=w) hx.2 h1.1.1
      show _≤fat (ZgD w E (ZiU w far x)) e.dst
      omega
theorem Zpa {g:Zar}{F:Int→Int}{M:Int} (hF:Far g F M):∀(E:List Zo) (far:List Int),(∀e∈E,e∈g.edges)→EIn E far.length→(∀z,0≤z∧z.toNat<far.length→fat far z≤F z)→∀z,0≤z∧z.toNat<far.length→fat (ZgD g.work E far) z≤F z
  | [],_,_,_,h,z,hz=>h z hz
  | e :: E,far,hE,hi,h,z,hz=>by
    have he:=hi e (by simp)
    refine Zpa hF E (ZiU g.work far e) (fun x hx=>hE x (by simp[hx])) (fun x hx=>by rw[Zje];exact hi x (by simp[hx])) (fun y hy=>?_) z (by rw[Zje];exact hz)
    rw[Zje] at hy
    rw[Zq2 he.2 hy.1]
    split
    · rename_i hc
      have h1:=hF.edge e (hE e (by simp))
      have h2:=h e.src he.1
      rw[hc.1]
      omega
    · exact h y hy
theorem ZwT {g:Zar} (hc:Zg4 g=0) {F:Int→Int}{M:Int} (hF:Far g F M):∀z,0≤z∧z.toNat<g.work.length→fat (rounds g.work g.edges g.work.length g.work) z=F z:=by
  obtain⟨hG,hA⟩:=ZiE hc
  obtain⟨l,_,T⟩:=ZrX hc
  have ein:EIn g.edges g.work.length:=fun e he=>⟨hG.src e he,hG.dst e he⟩
  have key:∀(k i:Nat) (far:List Int),i+k=l.length→far.length=g.work.length→(∀z,0≤z∧z.toNat<g.work.length→fat g.work z≤fat far z∧fat far z≤F z)→(∀j z,j<i→l[j]? = some z→fat far z=F z)→∀z,0≤z∧z.toNat<g.work.length→fat (rounds g.work g.edges k far) z=F z:=by
    intro k
    induction k with
    | zero=>
      intro i far hi hl hb hd z hz
      obtain⟨j,hj⟩:=List.getElem?_of_mem (T.all z.toNat hz.2)
      rw[Int.toNat_of_nonneg hz.1] at hj
      exact hd j z (by have:=(List.getElem?_eq_some_iff.1 hj).1;omega) hj
    | succ k ih=>
      intro i far hi hl hb hd z hz
      have ein':EIn g.edges far.length:=by rw[hl];exact ein
      have le:=Zpa hF g.edges far (fun e he=>he) ein' (fun z hz=>(hb z (by rw[← hl];exact hz)).2)
      refine ih (i+1) (ZgD g.work g.edges far) (by omega) (by rw[Znt];exact hl) (fun y hy=>⟨Int.le_trans (hb y hy).1 (ZmH ein' hy.1),le y (by rw[hl];exact hy)⟩) (fun j y hj hy=>?_) z hz
      have yin:=T.inn y (List.mem_of_getElem? hy)
      have y':((y.toNat:Nat):Int)=y:=Int.toNat_of_nonneg yin.1
      have h1:=le y (by rw[hl];exact yin)
      have h2:=ZmH (w:=g.work) ein' yin.1
      rcases hF.some_ y.toNat yin.2 with h | ⟨e,e1,e2,e3⟩
      · rw[y'] at h
        have:=(hb y yin).1
        omega
      · rw[y'] at e2 e3
        obtain⟨q,q1,q2⟩:=T.topo j y hy e e1 e2
        have h3:=hd q e.src (by omega) q2
        have h4:=ZpO (w:=g.work) ein' e1
        rw[e2] at h4
        omega
  exact key g.work.length 0 g.work (by rw[T.len];omega) rfl (fun z hz=>by
    have:=hF.least z.toNat hz.2
    rw[Int.toNat_of_nonneg hz.1] at this
    exact⟨Int.le_refl _,this⟩) (fun j z hj=>by omega)
theorem ZzE {l m:List Int} (h:l.Perm m):l.sum=m.sum:=by
  induction h with
  | nil=>rfl
  | cons x _ ih=>rw[List.sum_cons,List.sum_cons,ih]
  | swap x y l=>simp only[List.sum_cons];omega
  | trans _ _ a b=>exact a.trans b
theorem Zyf {g:Zar} (hc:Zg4 g=0) {F:Int→Int}{M:Int} (hF:Far g F M):M≤g.work.sum:=by
  obtain⟨hG,hA⟩:=ZiE hc
  obtain⟨l,_,T⟩:=ZrX hc
  have w0:∀z:Int,0≤fat g.work z:=fun z=>by
    unfold fat
    cases h:g.work[z.toNat]? with
    | none=>simp
    | some x=>exact(hG.w x (List.mem_of_getElem? h)).1
  let s:Nat→Int:=fun k=>((l.take k).map (fat g.work)).sum
  have s1:∀k z,l[k]? = some z→s (k+1)=s k+fat g.work z:=fun k z hk=>by
    show((l.take (k+1)).map _).sum=((l.take k).map _).sum+_
    rw[List.take_add_one,hk,Option.toList_some,List.map_append,List.sum_append]
    simp
  have smono:∀b a,a≤b→s a≤s b:=by
    intro b
    induction b with
    | zero => intro a h; have : a = 0 := by omega
              subst this;exact Int.le_refl _
    | succ b ih=>
      intro a h
      by_cases e:a=b+1
      · subst e;exact Int.le_refl _
      · have:=ih a (by omega)
        cases hx:l[b]? with
        | none=>
          have:s (b+1)=s b:=by
            show((l.take (b+1)).map _).sum=((l.take b).map _).sum
            rw[List.take_add_one,hx]
            simp
          omega
        | some z=>have:=s1 b z hx;have:=w0 z;omega
  have key:∀n k,k<n→∀z,l[k]? = some z→F z≤s (k+1):=by
    intro n
    induction n with
    | zero=>intro k hk;omega
    | succ n ih=>
      intro k hk z hz
      have zin:=T.inn z (List.mem_of_getElem? hz)
      have z':((z.toNat:Nat):Int)=z:=Int.toNat_of_nonneg zin.1
      have e1:=s1 k z hz
      have s0:0≤s k:=by
        have:=smono k 0 (Nat.zero_le _)
        have e0:s 0=0:=rfl
        omega
      rcases hF.some_ z.toNat zin.2 with h | ⟨e,h1,h2,h3⟩
      · rw[z'] at h;omega
      · rw[z'] at h2 h3
        obtain⟨q,q1,q2⟩:=T.topo k z hz e h1 h2
        have:=ih q (by omega) e.src q2
        have:=smono k (q+1) (by omega)
        omega
  have perm:l.Perm ((List.range g.work.length).map fun i:Nat=>(i:Int)):=by
    refine(List.perm_ext_iff_of_nodup T.nod ?_).2 fun z=>⟨fun h=>?_,fun h=>?_⟩
    · rw[List.nodup_iff_pairwise_ne,List.pairwise_map]
      exact List.pairwise_lt_range.imp fun h=>by omega
    · have:=T.inn z h
      exact List.mem_map.2 ⟨z.toNat,List.mem_range.2 this.2,Int.toNat_of_nonneg this.1⟩
    · obtain⟨i,hi,rfl⟩:=List.mem_map.1 h
      exact T.all i (List.mem_range.1 hi)
  have all:s l.length=g.work.sum:=by
    show((l.take l.length).map _).sum=_
    rw[List.take_length,ZzE (perm.map (fat g.work)),List.map_map]
    congr 1
    refine List.ext_getElem (by simp) fun i h1 h2=>?_
    simp only[List.getElem_map,List.getElem_range,Function.comp_apply]
    unfold fat
    rw[Int.toNat_natCast,List.getElem?_eq_getElem h2]
  rcases hF.hit with h | ⟨i,hi,h⟩
  · have:=smono l.length 0 (Nat.zero_le _)
    have e0:s 0=0:=rfl
    omega
  · obtain⟨k,hk⟩:=List.getElem?_of_mem (T.all i hi)
    have h1:=key (k+1) k (by omega) _ hk
    have h2:=smono l.length (k+1) (by have:=(List.getElem?_eq_some_iff.1 hk).1;omega)
    omega
end Go.Proofs.YtnpidpcmpleiaaaGreatDoor
