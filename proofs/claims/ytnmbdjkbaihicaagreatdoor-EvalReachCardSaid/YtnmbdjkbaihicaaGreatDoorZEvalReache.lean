/- EvalReach: part 5 of 7 of the proof. -/
import Derived.Test.YtnmbdjkbaihicaaGreatDoorZEvalReachd
set_option maxRecDepth 100000
set_option maxHeartbeats 40000000
namespace Go.Proofs.YtnmbdjkbaihicaaGreatDoor
open Go Go.Proofs.YtnmbdjkbaihicaaGreatDoorE Go.Sort
set_option linter.unusedVariables false
set_option linter.unusedSimpArgs false
def sel {γ:Type} (p:γ→Bool) (g:Nat→γ→Int):Nat→List γ→List Int
 | _,[]=>[]
 | i,x :: l=>bif p x then g i x :: sel p g (i+1) l else sel p g (i+1) l
theorem Zoh {γ:Type} (p:γ→Bool) (g:Nat→γ→Int):∀(l:List γ) (i:Nat),(sel p g i l).length=l.countP p
 | [],_=>rfl
 | x :: l,i=>by
  unfold sel
  have ih:=Zoh p g l (i+1)
  cases h:p x with
  | true=>simp[ih,h]
  | false=>simp[ih,h]
theorem ZnM {γ:Type} (p:γ→Bool) (g:Nat→γ→Int) (z:Int):∀(l:List γ) (i:Nat),z∈sel p g i l↔∃j x,l[j]? = some x∧p x=true∧z=g (i+j) x
 | [],i=>by simp[sel]
 | x :: l,i=>by
  have ih:=ZnM p g z l (i+1)
  have key:(∃j y,(x :: l)[j]? = some y∧p y=true∧z=g (i+j) y)↔(p x=true∧z=g i x)∨∃j y,l[j]? = some y∧p y=true∧z=g (i+1+j) y:=by
   constructor
   ·rintro ⟨j,y,h1,h2,h3⟩
    cases j with
    | zero=>left;simp at h1;subst h1;exact⟨h2,h3⟩
    | succ j=>right;exact⟨j,y,by simpa using h1,h2,by rw[h3];congr 1;omega⟩
   ·rintro (⟨h2,h3⟩ | ⟨j,y,h1,h2,h3⟩)
    ·exact⟨0,x,rfl,h2,h3⟩
    ·exact⟨j+1,y,by simpa using h1,h2,by rw[h3];congr 1;omega⟩
  rw[key]
  unfold sel
  cases h:p x with
  | true=>simp[ih]
  | false=>simp[ih]
theorem Zs4 {γ:Type} (l:List γ) (hl:l.length≤1000) (p:γ→Bool) (g:Nat→γ→Int) (step:Int×List Int→Option ((Int×List Int)⊕List Int))
  (h1:∀i x s,i<l.length→l[i]? = some x→step ((i:Int),s)=(bif p x then (bif Nat.ble (s.length+1) lim then some (.inl (((i+1:Nat):Int),s++[g i x])) else none) else some (.inl (((i+1:Nat):Int),s))))
  (h2:∀s,step ((l.length:Int),s)=some (.inr s)) (s:List Int) (hs:s.length≤1000000):lp step (0,s)=some (s++sel p g 0 l):=by
 have key:=Zsy l step (fun i s=>((i:Int),s)) (fun i x s=>bif p x then (bif Nat.ble (s.length+1) lim then some (.inl (s++[g i x])) else none) else some (.inl s)) (fun s=>some s) (fun i x s hi hx=>by
   rw[h1 i x s hi hx]
   cases p x<;>cases Nat.ble (s.length+1) lim<;>rfl) (fun s=>h2 s) s
 refine(key:lp step (0,s)=_).trans ?_
 have:∀(l:List γ) (i:Nat) (s:List Int),s.length+l.length≤1001000→ZoO (fun i x s=>bif p x then (bif Nat.ble (s.length+1) lim then some (Sum.inl (s++[g i x])) else (none:Option (List Int⊕List Int))) else some (.inl s)) (fun s=>some s) i l s=some (s++sel p g i l):=by
  intro l
  induction l with
  | nil=>intro i s _;simp[ZoO,sel]
  | cons x l ih=>
   intro i s hb
   rw[List.length_cons] at hb
   unfold ZoO sel
   cases p x with
   | true=>
    rw[ZiN (show s.length+1≤1073741824 by omega)]
    simp only[cond_true]
    rw[ih (i+1) (s++[g i x]) (by rw[List.length_append,List.length_singleton];omega)]
    simp
   | false=>
    simp only[cond_false]
    rw[ih (i+1) s (by omega)]
 exact this l 0 s (by omega)
theorem Zqx (k:Int→Int):∀(l m:List Int),l.Pairwise (fun x y=>k x<k y)→m.Pairwise (fun x y=>k x<k y)→(∀z,z∈l↔z∈m)→l=m
 | [],[],_,_,_=>rfl
 | [],y :: m,_,_,h=>absurd ((h y).2 (by simp)) (by simp)
 | x :: l,[],_,_,h=>absurd ((h x).1 (by simp)) (by simp)
 | x :: l,y :: m,h1,h2,h=>by
  rw[List.pairwise_cons] at h1 h2
  have hxy:x=y:=by
   rcases List.mem_cons.1 ((h x).1 (by simp)) with e | e
   ·exact e
   ·rcases List.mem_cons.1 ((h y).2 (by simp)) with e2 | e2
    ·exact e2.symm
    ·have:=h2.1 _ e
     have:=h1.1 _ e2
     omega
  subst hxy
  congr 1
  refine Zqx k l m h1.2 h2.2 fun z=>?_
  constructor
  ·intro hz
   rcases List.mem_cons.1 ((h z).1 (by simp[hz])) with e | e
   ·subst e
    have:=h1.1 _ hz
    omega
   ·exact e
  ·intro hz
   rcases List.mem_cons.1 ((h z).2 (by simp[hz])) with e | e
   ·subst e
    have:=h2.1 _ hz
    omega
   ·exact e
structure Znv (d:Zm):Prop where
 w:∀p∈d.parts,1≤p.work∧p.work≤100
 e:∀x∈d.edges,two d.parts.length x.src x.dst=true
 f:∀x∈d.futures,two d.parts.length x.maker x.user=true∧1≤x.pos∧x.pos≤ZgK d.parts x.user-1
 ne:∀(i j:Nat) (x y:Zk),i<j→d.futures[i]? = some x→d.futures[j]? = some y→¬(x.user=y.user∧x.pos=y.pos)
theorem ZsQ {d:Zm} (h:Zge d=0):Znv d:=by
 unfold Zge at h
 have all:Zlf d=true∧ZnA d=true∧d.parts.any Zea=false∧Zil (ZgO d) 0 d.edges=false∧Zil (ZdS d) 0 d.futures=false:=by
  revert h
  cases Zlf d<;>cases ZnA d<;>cases d.parts.any Zea<;>cases Zil (ZgO d) 0 d.edges<;>cases Zil (ZdS d) 0 d.futures<;>simp
 obtain⟨_,_,h3,h4,h5⟩:=all
 have he:∀(i:Nat) x,d.edges[i]? = some x→ZgO d i x=false:=fun i x hx=>by
  cases hb:ZgO d i x with
  | false=>rfl
  | true=>rw[(ZlW _ _ 0).2 ⟨i,x,hx,by simpa using hb⟩] at h4;cases h4
 have hf:∀(i:Nat) x,d.futures[i]? = some x→ZdS d i x=false:=fun i x hx=>by
  cases hb:ZdS d i x with
  | false=>rfl
  | true=>rw[(ZlW _ _ 0).2 ⟨i,x,hx,by simpa using hb⟩] at h5;cases h5
 refine⟨Zrf h3,fun x hx=>?_,fun x hx=>?_,fun i j x y hij hx hy=>?_⟩
 ·obtain⟨i,hi⟩:=List.getElem?_of_mem hx
  have:=he i x hi
  unfold ZgO at this
  simp only[Bool.or_eq_false_iff,Bool.not_eq_false'] at this
  exact this.1
 ·obtain⟨i,hi⟩:=List.getElem?_of_mem hx
  have:=hf i x hi
  unfold ZdS ZdL at this
  simp only[Bool.or_eq_false_iff,Bool.not_eq_false',Bool.and_eq_true,decide_eq_true_eq] at this
  exact⟨this.1,this.2.1.1,this.2.1.2⟩
 ·rintro ⟨h1,h2⟩
  have:=hf j y hy
  unfold ZdS at this
  simp only[Bool.or_eq_false_iff] at this
  have h6:=List.any_eq_false.1 this.2.2 x (List.mem_of_getElem? (i:=i) (by rw[List.getElem?_take_of_lt hij];exact hx))
  unfold again at h6
  simp[h1,h2] at h6
theorem Zmz {d:Zm} (g:Znv d) (u:Int):ZgK d.parts u≤100:=by
 unfold ZgK
 split
 ·rename_i p hp;exact(g.w p (List.mem_of_getElem? hp)).2
 ·omega
def Zgj (fs:List Zk) (z:Int):Int:=match fs[z.toNat]? with | some f=>f.pos | none=>0
def ZpA (d:Zm) (u:Int):List Int:=sel (fun f:Zk=>f.user==u) (fun i _=>(i:Int)) 0 d.futures
theorem Zml (d:Zm) (u z:Int):z∈ZpA d u↔∃(i:Nat) (f:Zk),d.futures[i]? = some f∧f.user=u∧z=(i:Int):=by
 unfold ZpA
 rw[ZnM]
 simp
theorem ZqY (d:Zm) (u:Int):(ZpA d u).Pairwise (fun x y=>x<y):=by
 have:∀(l:List Zk) (i:Nat),(sel (fun f:Zk=>f.user==u) (fun i _=>(i:Int)) i l).Pairwise (fun x y=>x<y)∧∀z∈sel (fun f:Zk=>f.user==u) (fun i _=>(i:Int)) i l,(i:Int)≤z:=by
  intro l
  induction l with
  | nil=>intro i;simp[sel]
  | cons x l ih=>
   intro i
   obtain⟨h1,h2⟩:=ih (i+1)
   unfold sel
   cases x.user==u with
   | true=>
    simp only[cond_true,List.pairwise_cons,List.mem_cons]
    refine⟨⟨fun z hz=>?_,h1⟩,?_⟩
    ·have:=h2 z hz;omega
    ·rintro z (rfl | hz)
     ·exact Int.le_refl _
     ·have:=h2 z hz;omega
   | false=>
    simp only[cond_false]
    exact⟨h1,fun z hz=>by have:=h2 z hz;omega⟩
 exact(this d.futures 0).1
structure Zce (d:Zm) (u:Int) (r:List Int):Prop where
 mem:∀z,z∈r↔∃(i:Nat) (f:Zk),d.futures[i]? = some f∧f.user=u∧z=(i:Int)
 rise:r.Pairwise (fun x y=>Zgj d.futures x<Zgj d.futures y)
theorem Zce.eq {d:Zm}{u:Int}{r s:List Int} (h1:Zce d u r) (h2:Zce d u s):r=s:=Zqx (Zgj d.futures) r s h1.rise h2.rise fun z=>by rw[h1.mem,h2.mem]
theorem Ztx {l:List Int}{p q:Int→Int→Prop} (h:l.Pairwise p) (hq:∀x y,x∈l→y∈l→p x y→q x y):l.Pairwise q:=by
 rw[List.pairwise_iff_getElem] at h ⊢
 exact fun i j hi hj hij=>hq _ _ (List.getElem_mem hi) (List.getElem_mem hj) (h i j hi hj hij)
theorem Zzs {d:Zm} (g:Znv d) {u x y:Int} (hx:∃(i:Nat) (f:Zk),d.futures[i]? = some f∧f.user=u∧x=(i:Int)) (hy:∃(i:Nat) (f:Zk),d.futures[i]? = some f∧f.user=u∧y=(i:Int)) (hne:x≠y):Zgj d.futures x≠Zgj d.futures y:=by
 obtain⟨i,f,h1,h2,rfl⟩:=hx
 obtain⟨j,e,h3,h4,rfl⟩:=hy
 intro he
 unfold Zgj at he
 rw[Int.toNat_natCast,Int.toNat_natCast,h1,h3] at he
 simp only at he
 rcases Nat.lt_trichotomy i j with h | h | h
 ·exact g.ne i j f e h h1 h3 ⟨h2.trans h4.symm,he⟩
 ·exact hne (by rw[h])
 ·exact g.ne j i e f h h3 h1 ⟨h4.trans h2.symm,he.symm⟩
theorem Zxi {d:Zm} (g:Znv d):ZrA (fun z0 z1=>Zx z0 z1 d.futures) (fun x y=>Zgj d.futures x-Zgj d.futures y) (fun z=>0≤z∧z.toNat<d.futures.length):=by
 intro x y hx hy
 have b:∀z:Int,z.toNat<d.futures.length→∃f,d.futures[z.toNat]? = some f∧Zgj d.futures z=f.pos∧1≤f.pos∧f.pos≤100:=fun z hz=>by
  have hm:=List.getElem_mem hz
  have:=g.f _ hm
  have hw:=Zmz g d.futures[z.toNat].user
  exact⟨d.futures[z.toNat],List.getElem?_eq_getElem hz,by unfold Zgj;rw[List.getElem?_eq_getElem hz],this.2.1,by omega⟩
 obtain⟨f,f1,f2,f3,f4⟩:=b x hx.2
 obtain⟨e,e1,e2,e3,e4⟩:=b y hy.2
 show Zx x y d.futures=some (Zgj d.futures x-Zgj d.futures y)
 unfold Zx
 rw[ZnE hx.1 f1,ZnE hy.1 e1]
 simp only[Option.bind_some]
 rw[f2,e2,ZdX (by omega) (by omega)]
theorem ZAw (k:Int→Int):SWO (ltC fun x y=>k x-k y):=by
 refine⟨fun x=>?_,fun x y z h1 h2=>?_,fun x y z h1 h2=>?_⟩
 ·show decide (k x-k x<0)=false
  exact decide_eq_false (by omega)
 ·simp only[ltC,decide_eq_true_eq] at *
  omega
 ·simp only[ltC,decide_eq_false_iff_not] at *
  omega
theorem ZoE (d:Zm) (h:Ziy d) (hf:d.futures.length≤1000) (hc:Zge d=0) (u:Int):∃r,ZdI d u=some r∧Zce d u r:=by
 have g:=ZsQ hc
 have key:=Zs4 d.futures hf (fun f:Zk=>f.user==u) (fun i _=>(i:Int)) (Zer d u) (fun i x s hi hx=>by
   simp only[Zer,Zf2 hi,Zbx hx,Option.bind_some,Zan hi h.f,cond_true]) (fun s=>by simp only[Zer,ZgU];rfl) [] (by simp)
 have hP:∀x∈ZpA d u,0≤x∧x.toNat<d.futures.length:=fun x hx=>by
  obtain⟨i,f,h1,h2,rfl⟩:=(Zml d u x).1 hx
  have:=(List.getElem?_eq_some_iff.1 h1).1
  exact⟨by omega,by simpa using this⟩
 have hlen:(ZpA d u).length≤1000:=by
  unfold ZpA
  rw[Zoh]
  exact Nat.le_trans List.countP_le_length hf
 obtain⟨r,h1,h2,h3⟩:=Zy8 (Zxi g) (ZAw _) (ZpA d u) hlen hP
 refine⟨r,?_,?_,?_⟩
 ·unfold ZdI
  rw[ZsB d h,hc]
  simp only[Option.bind_some,bne_self_eq_false,cond_false]
  rw[key,List.nil_append,Option.bind_some]
  show(ZaP (fun z0 z1=>Zx z0 z1 d.futures) (ZpA d u)).bind _=_
  rw[h1]
  rfl
 ·exact fun z=>by rw[h2.mem_iff,Zml]
 ·have nd:r.Pairwise (fun x y=>x≠y):=(h2.pairwise_iff (fun h=>Ne.symm h)).2 ((ZqY d u).imp fun h=>by omega)
  refine Ztx (h3.and nd) fun x y hx hy hp=>?_
  have a:=(Zml d u x).1 (h2.mem_iff.1 hx)
  have b:=(Zml d u y).1 (h2.mem_iff.1 hy)
  have h4:=Zzs g a b hp.2
  have h5:=hp.1
  simp only[ltC,decide_eq_false_iff_not] at h5
  omega
def Zld (fs:List Zk) (z:Int):Int:=match fs[z.toNat]? with | some f=>f.maker | none=>0
def ZrX (d:Zm) (u:Int) (r:List Int):List Int:=sel (fun e:Zr=>e.dst==u) (fun _ e=>e.src) 0 d.edges++r.map (Zld d.futures)
theorem Zwc {γ:Type} (k:γ→Int):∀(l:List γ) (i:Nat),sel (fun _=>true) (fun _ x=>k x) i l=l.map k
 | [],_=>rfl
 | x :: l,i=>by unfold sel;rw[Zwc k l];rfl
theorem Zuy (d:Zm) (r s:List Int) (hr:r.length≤1000) (hs:s.length≤1000000) (hP:∀x∈r,0≤x∧x.toNat<d.futures.length) (step:Int×List Int→Option ((Int×List Int)⊕List Int))
  (hstep:∀t,step t=(bif (decide (t.1<(r.length:Int))) then (Zy r t.1).bind fun x6=>(Zy d.futures x6).bind fun x7=>bif (Nat.ble (List.length t.2+1) lim) then some (.inl ((w64 (t.1+1)),(t.2++[x7.maker]))) else none else some (.inr t.2))) :
  lp step (0,s)=some (s++r.map (Zld d.futures)):=by
 rw[← Zwc (Zld d.futures) r 0]
 refine Zs4 r hr (fun _=>true) (fun _ x=>Zld d.futures x) step (fun i x s hi hx=>?_) (fun s=>?_) s hs
 ·obtain⟨p1,p2⟩:=hP x (List.mem_of_getElem? hx)
  rw[hstep]
  have hm:Zld d.futures x=d.futures[x.toNat].maker:=by unfold Zld;rw[List.getElem?_eq_getElem p2]
  simp only[Zf2 hi,Zbx hx,Option.bind_some,Zan hi (show r.length<9223372036854775808 by omega),cond_true,Zww p1 p2,hm]
 ·rw[hstep]
  simp only[ZgU,cond_false]
theorem Zy6 {d:Zm}{u:Int}{r:List Int} (h:Zce d u r):∀x∈r,0≤x∧x.toNat<d.futures.length:=fun x hx=>by
 obtain⟨i,f,h1,h2,rfl⟩:=(h.mem x).1 hx
 have:=(List.getElem?_eq_some_iff.1 h1).1
 exact⟨by omega,by simpa using this⟩
theorem ZrC {d:Zm}{u:Int}{r:List Int} (h:Zce d u r):r.length=(ZpA d u).length:=by
 have nd1:r.Nodup:=h.rise.imp fun hp he=>by rw[he] at hp;omega
 have nd2:(ZpA d u).Nodup:=(ZqY d u).imp fun hp he=>by omega
 exact((List.perm_ext_iff_of_nodup nd1 nd2).2 fun z=>by rw[h.mem,Zml]).length_eq
theorem Zma {d:Zm}{u:Int}{r:List Int} (h:Zce d u r):r.length≤d.futures.length:=by
 rw[ZrC h]
 unfold ZpA
 rw[Zoh]
 exact List.countP_le_length
theorem Zxb (d:Zm) (he:d.edges.length≤1000) (u:Int) (step:Int×List Int→Option ((Int×List Int)⊕List Int))
  (hstep:∀t,step t=(bif (decide (t.1<(d.edges.length:Int))) then (Zy d.edges t.1).bind fun x2=>bif (x2.dst==u) then bif (Nat.ble (List.length t.2+1) lim) then some (.inl ((w64 (t.1+1)),(t.2++[x2.src]))) else none else some (.inl ((w64 (t.1+1)),t.2)) else some (.inr t.2))) :
  lp step (0,[])=some (sel (fun e:Zr=>e.dst==u) (fun _ e=>e.src) 0 d.edges):=by
 have key:=Zs4 d.edges he (fun e:Zr=>e.dst==u) (fun _ e=>e.src) step (fun i x s hi hx=>by
   rw[hstep]
   simp only[Zf2 hi,Zbx hx,Option.bind_some,Zan hi (show d.edges.length<9223372036854775808 by omega),cond_true]) (fun s=>by rw[hstep];simp only[ZgU,cond_false]) [] (by simp)
 rwa [List.nil_append] at key
theorem ZoM {γ:Type} (p:γ→Bool) (g:Nat→γ→Int) (l:List γ) (i:Nat):(sel p g i l).length≤l.length:=by rw[Zoh];exact List.countP_le_length
end Go.Proofs.YtnmbdjkbaihicaaGreatDoor
namespace Go.Proofs.YtnmbdjkbaihicaaGreatDoor
open Go Go.Proofs.YtnmbdjkbaihicaaGreatDoorE Go.Sort
set_option linter.unusedVariables false
set_option linter.unusedSimpArgs false
theorem ZAq (d:Zm) (h:Ziy d) (he:d.edges.length≤1000) (hf:d.futures.length≤1000) (hc:Zge d=0) (u:Int) {r:List Int} (hr:Zce d u r):Zhh d u=some (ZrX d u r):=by
 obtain⟨r',h1,h2⟩:=ZoE d h hf hc u
 have:=h2.eq hr
 subst this
 have k1:=Zxb d he u (ZhH d u) (fun t=>rfl)
 have k2:=Zuy d r' (sel (fun e:Zr=>e.dst==u) (fun _ e=>e.src) 0 d.edges) (Nat.le_trans (Zma h2) hf) (Nat.le_trans (ZoM _ _ _ _) (by omega)) (Zy6 h2) (ZhI d r') (fun t=>rfl)
 unfold Zhh ZrX
 rw[ZsB d h,hc]
 simp only[Option.bind_some,bne_self_eq_false,cond_false,k1,h1,k2]
end Go.Proofs.YtnmbdjkbaihicaaGreatDoor
namespace Go.Proofs.YtnmbdjkbaihicaaGreatDoor
open Go Go.Proofs.YtnmbdjkbaihicaaGreatDoorE
set_option linter.unusedVariables false
set_option linter.unusedSimpArgs false
structure Zd5 (d:Zm):Prop where
 g:Znv d
 ins:∀b∈d.barriers,∀q∈b.ins,0≤q∧q.toNat<d.parts.length
 outs:∀b∈d.barriers,∀q∈b.outs,0≤q∧q.toNat<d.parts.length
 disj:∀b∈d.barriers,∀q∈b.ins,q∉b.outs
 pl:d.parts.length≤16
 el:d.edges.length≤48
 fl:d.futures.length≤16
 bl:d.barriers.length≤4
 p1:1≤d.parts.length
 arg:∀p∈d.parts,0≤p.arg∧p.arg≤2147483647
theorem Zxs {n:Nat}{l:List Int} (h:Zm1 n l=true):∀q∈l,0≤q∧q.toNat<n:=by
 intro q hq
 unfold Zm1 at h
 simp only[Bool.and_eq_true,Bool.not_eq_true'] at h
 obtain⟨i,hi⟩:=List.getElem?_of_mem hq
 have:ZrR n l i q=false:=by
  cases hb:ZrR n l i q with
  | false=>rfl
  | true=>rw[(ZlW _ _ 0).2 ⟨i,q,hi,by simpa using hb⟩] at h;exact absurd h.1 (by simp)
 unfold ZrR ZdL at this
 simp only[Bool.or_eq_false_iff,Bool.not_eq_false',Bool.and_eq_true,decide_eq_true_eq] at this
 omega
theorem ZiM {d:Zm} (h:Zge d=0):Zd5 d:=by
 have g:=ZsQ h
 unfold Zge at h
 have all:Zlf d=true∧d.barriers.any (Zg4 d.parts.length)=false∧d.parts.any Zea=false:=by
  revert h
  cases Zlf d<;>cases ZnA d<;>cases d.parts.any Zea<;>cases Zil (ZgO d) 0 d.edges<;>cases Zil (ZdS d) 0 d.futures<;>cases d.barriers.any (Zg4 d.parts.length)<;>simp
 have hb:∀b∈d.barriers,Zm1 d.parts.length b.ins=true∧Zm1 d.parts.length b.outs=true∧b.ins.any (Zrd b)=false:=fun b hb=>by
  have:=List.any_eq_false.1 all.2.1 b hb
  simp only[Zg4,Bool.or_eq_true,Bool.not_eq_true',not_or,Bool.not_eq_false,Bool.not_eq_true] at this
  exact this
 have m:=all.1
 unfold Zlf ZdL at m
 simp only[Bool.and_eq_true,decide_eq_true_eq,Bool.not_eq_true',decide_eq_false_iff_not] at m
 refine⟨g,fun b h1=>Zxs (hb b h1).1,fun b h1=>Zxs (hb b h1).2.1,fun b h1 q h2 h3=>?_,by omega,by omega,by omega,by omega,by omega,fun p hp=>?_⟩
 case refine_2=>
  have:=List.any_eq_false.1 all.2.2 p hp
  simp only[Zea,ZdL,Bool.not_eq_true,Bool.not_eq_false',Bool.and_eq_true,decide_eq_true_eq] at this
  exact this.2.1
 have:=List.any_eq_false.1 (hb b h1).2.2 q h2
 unfold Zrd at this
 exact this (List.any_eq_true.2 ⟨q,h3,by simp⟩)
def inR (d:Zm) (p:Int):Prop:=0≤p∧p.toNat<d.parts.length
theorem Zd5.src {d:Zm} (g:Zd5 d) {e:Zr} (h:e∈d.edges):inR d e.src:=(Znq (g.g.e e h)).1
theorem Zd5.dst {d:Zm} (g:Zd5 d) {e:Zr} (h:e∈d.edges):inR d e.dst:=(Znq (g.g.e e h)).2.1
theorem Zd5.maker {d:Zm} (g:Zd5 d) {f:Zk} (h:f∈d.futures):inR d f.maker:=(Znq (g.g.f f h).1).1
theorem Zd5.user {d:Zm} (g:Zd5 d) {f:Zk} (h:f∈d.futures):inR d f.user:=(Znq (g.g.f f h).1).2.1
theorem Zd5.short {d:Zm} (g:Zd5 d) (hs:∀b∈d.barriers,ZBa b):Ziy d:=⟨by have:=g.pl;omega,by have:=g.el;omega,by have:=g.fl;omega,by have:=g.bl;omega,hs⟩
end Go.Proofs.YtnmbdjkbaihicaaGreatDoor
namespace Go.Proofs.YtnmbdjkbaihicaaGreatDoor
open Go Go.Proofs.YtnmbdjkbaihicaaGreatDoorE
set_option linter.unusedVariables false
set_option linter.unusedSimpArgs false
def pick (p:Nat→Bool) (n:Nat):List Int:=((List.range n).filter p).map fun i:Nat=>(i:Int)
theorem ZlS (p:Nat→Bool) (n:Nat):(pick p n).length≤n:=by
 unfold pick
 rw[List.length_map]
 exact Nat.le_trans (List.length_filter_le _ _) (by simp)
noncomputable def Zf6 (d:Zm) (u:Int):List Int:=@dite _ (∃r,Zce d u r) (Classical.propDecidable _) (fun h=>Classical.choose h) fun _=>[]
theorem Zln {d:Zm}{u:Int}{r:List Int} (h:Zce d u r):Zf6 d u=r:=by
 unfold Zf6
 rw[dif_pos ⟨r,h⟩]
 exact(Classical.choose_spec (⟨r,h⟩:∃r,Zce d u r)).eq h
noncomputable def ZfJ (d:Zm) (u:Int):List Int:=ZrX d u (Zf6 d u)
theorem Zo5 (d:Zm) (h:Ziy d) (hc:Zge d=0) (u:Int):Zhh d u=some (ZfJ d u)∧Zce d u (Zf6 d u):=by
 have g:=ZiM hc
 obtain⟨r,h1,h2⟩:=ZoE d h (by have:=g.fl;omega) hc u
 have:=ZAq d h (by have:=g.el;omega) (by have:=g.fl;omega) hc u h2
 unfold ZfJ
 rw[Zln h2]
 exact⟨this,h2⟩
theorem Zph {d:Zm} (g:Zd5 d) {u:Int} (ht:Zce d u (Zf6 d u)) {q:Int} (hq:q∈ZfJ d u):(∃e∈d.edges,e.dst=u∧q=e.src)∨(∃f∈d.futures,f.user=u∧q=f.maker):=by
 unfold ZfJ ZrX at hq
 rcases List.mem_append.1 hq with h | h
 ·obtain⟨j,x,h1,h2,h3⟩:=(ZnM _ _ _ _ _).1 h
  exact .inl ⟨x,List.mem_of_getElem? h1,by simpa using h2,h3⟩
 ·obtain⟨z,h1,rfl⟩:=List.mem_map.1 h
  obtain⟨i,f,h2,h3,rfl⟩:=(ht.mem z).1 h1
  refine .inr ⟨f,List.mem_of_getElem? h2,h3,?_⟩
  unfold Zld
  rw[Int.toNat_natCast,h2]
theorem Zlp {d:Zm} (g:Zd5 d) {u:Int} (ht:Zce d u (Zf6 d u)) {q:Int} (hq:q∈ZfJ d u):inR d q:=by
 rcases Zph g ht hq with⟨e,h1,_,rfl⟩ | ⟨f,h1,_,rfl⟩
 ·exact g.src h1
 ·exact g.maker h1
theorem Zuq {d:Zm} (g:Zd5 d) {u:Int} (ht:Zce d u (Zf6 d u)):(ZfJ d u).length≤1000:=by
 unfold ZfJ ZrX
 rw[List.length_append,List.length_map]
 have h1:=ZoM (fun e:Zr=>e.dst==u) (fun _ e=>e.src) d.edges 0
 have h2:=Zma ht
 have:=g.el;have:=g.fl
 omega
def Zks (d:Zm) (p:Int):Zaa:=match d.parts[p.toNat]? with | some x=>x | none=>⟨0,0,0⟩
theorem ZAJ {l:List Int} (h1:0<l.length) (h2:l.length≤1000):Zda l=some ():=by
 unfold Zda
 rw[show Nat.blt 0 l.length=true by simp[Nat.blt];omega,ZiN (show l.length≤1073741824 by omega)]
 rfl
theorem ZAu {xs:List D} (h:ZhU [.sl false [.int .i64]] xs):∃l,Znj false xs=ZvR true l∧ZA7 l:=by
 obtain⟨_,_,rfl,h1,rfl⟩:=h
 obtain⟨l,rfl,h2⟩:=ZsC h1
 exact⟨l,rfl,h2⟩
end Go.Proofs.YtnmbdjkbaihicaaGreatDoor
namespace Go.Proofs.YtnmbdjkbaihicaaGreatDoor
open Go Go.Proofs.YtnmbdjkbaihicaaGreatDoorE
set_option linter.unusedVariables false
set_option linter.unusedSimpArgs false
def ZlT (n:Nat) (x:Int):Bool:=decide (0≤x)&&decide (x<(n:Int))
end Go.Proofs.YtnmbdjkbaihicaaGreatDoor
namespace Go.Proofs.YtnmbdjkbaihicaaGreatDoor
open Go Go.Proofs.YtnmbdjkbaihicaaGreatDoorE
set_option linter.unusedVariables false
set_option linter.unusedSimpArgs false
theorem ZxO {γ:Type} (p:γ→Bool):∀(l:List γ) (i:Nat),(sel p (fun i _=>(i:Int)) i l).Pairwise (fun x y=>x<y)∧∀z∈sel p (fun i _=>(i:Int)) i l,(i:Int)≤z:=by
 intro l
 induction l with
 | nil=>intro i;simp[sel]
 | cons x l ih=>
  intro i
  obtain⟨h1,h2⟩:=ih (i+1)
  unfold sel
  cases p x with
  | true=>
   simp only[cond_true,List.pairwise_cons,List.mem_cons]
   refine⟨⟨fun z hz=>?_,h1⟩,?_⟩
   ·have:=h2 z hz;omega
   ·rintro z (rfl | hz)
    ·exact Int.le_refl _
    ·have:=h2 z hz;omega
  | false=>
   simp only[cond_false]
   exact⟨h1,fun z hz=>by have:=h2 z hz;omega⟩
def Zn2 (d:Zm) (u:Int) (t:Int):List Int:=sel (fun f:Zk=>f.user==u&&f.pos==t) (fun i _=>(i:Int)) 0 d.futures
theorem ZoA (d:Zm) (u t z:Int):z∈Zn2 d u t↔∃(i:Nat) (f:Zk),d.futures[i]? = some f∧f.user=u∧f.pos=t∧z=(i:Int):=by
 unfold Zn2
 rw[ZnM]
 simp[and_assoc]
theorem Zmx {d:Zm}{u t z:Int} (h:z∈Zn2 d u t):Zgj d.futures z=t:=by
 obtain⟨i,f,h1,_,h3,rfl⟩:=(ZoA d u t z).1 h
 unfold Zgj
 rw[Int.toNat_natCast,h1,← h3]
theorem ZqI {d:Zm}{u t z:Int} (h:z∈Zn2 d u t):∃(i:Nat) (f:Zk),d.futures[i]? = some f∧f.user=u∧z=(i:Int):=by
 obtain⟨i,f,h1,h2,_,h4⟩:=(ZoA d u t z).1 h
 exact⟨i,f,h1,h2,h4⟩
def tl (d:Zm) (u:Int):Nat→Nat→List Int
 | _,0=>[]
 | i,k+1=>Zn2 d u ((i+1:Nat):Int)++tl d u (i+1) k
theorem ZuQ (d:Zm) (u z:Int):∀(k i:Nat),z∈tl d u i k↔∃t:Nat,i<t∧t≤i+k∧z∈Zn2 d u (t:Int)
 | 0,i=>by
  unfold tl
  constructor
  ·intro h;cases h
  ·rintro ⟨t,h1,h2,_⟩;omega
 | k+1,i=>by
  unfold tl
  rw[List.mem_append,ZuQ d u z k (i+1)]
  constructor
  ·rintro (h | ⟨t,h1,h2,h3⟩)
   ·exact⟨i+1,by omega,by omega,h⟩
   ·exact⟨t,by omega,by omega,h3⟩
  ·rintro ⟨t,h1,h2,h3⟩
   by_cases h:t=i+1
   ·subst h;exact .inl h3
   ·exact .inr ⟨t,by omega,by omega,h3⟩
theorem Zwt {d:Zm} (g:Znv d) (u:Int):∀(k i:Nat),(tl d u i k).Pairwise (fun x y=>Zgj d.futures x<Zgj d.futures y)
 | 0,i=>List.Pairwise.nil
 | k+1,i=>by
  unfold tl
  rw[List.pairwise_append]
  refine⟨?_,Zwt g u k (i+1),fun x hx y hy=>?_⟩
  ·refine Ztx (ZxO _ _ _).1 fun x y hx hy hlt=>?_
   have hx':x∈Zn2 d u ((i+1:Nat):Int):=hx
   have hy':y∈Zn2 d u ((i+1:Nat):Int):=hy
   exact absurd ((Zmx hx').trans (Zmx hy').symm) (Zzs g (ZqI hx') (ZqI hy') (by omega))
  ·obtain⟨t,h1,h2,h3⟩:=(ZuQ d u y k (i+1)).1 hy
   rw[Zmx hx,Zmx h3]
   omega
theorem Zvc {d:Zm} (g:Znv d) (u:Int):Zce d u (tl d u 0 99):=by
 refine⟨fun z=>?_,Zwt g u 99 0⟩
 rw[ZuQ]
 constructor
 ·rintro ⟨t,_,_,h⟩;exact ZqI h
 ·rintro ⟨i,f,h1,h2,h3⟩
  have hf:=g.f f (List.mem_of_getElem? h1)
  have hw:=Zmz g f.user
  refine⟨f.pos.toNat,by omega,by omega,?_⟩
  rw[ZoA]
  exact⟨i,f,h1,h2,by omega,h3⟩
end Go.Proofs.YtnmbdjkbaihicaaGreatDoor
namespace Go.Proofs.YtnmbdjkbaihicaaGreatDoor
open Go Go.Proofs.YtnmbdjkbaihicaaGreatDoorE
set_option linter.unusedVariables false
set_option linter.unusedSimpArgs false
def Zpm {γ S:Type} (f:Nat→S→γ→S):Nat→S→List γ→S
 | _,s,[]=>s
 | i,s,x :: l=>Zpm f (i+1) (f i s x) l
theorem ZxZ {γ S T R:Type} (l:List γ) (step:T→Option (T⊕R)) (st:Nat→S→T) (f:Nat→S→γ→S) (fin:S→R) (I:Nat→S→Prop)
  (h1:∀i x s,i<l.length→l[i]? = some x→I i s→step (st i s)=some (.inl (st (i+1) (f i s x)))∧I (i+1) (f i s x))
  (h2:∀s,I l.length s→step (st l.length s)=some (.inr (fin s))) (s:S) (h0:I 0 s) :
  lp step (st 0 s)=some (fin (Zpm f 0 s l))∧I l.length (Zpm f 0 s l):=by
 have key:∀(k i:Nat) (s:S),i+k=l.length→I i s→lp step (st i s)=some (fin (Zpm f i s (l.drop i)))∧I l.length (Zpm f i s (l.drop i)):=by
  intro k
  induction k with
  | zero=>
   intro i s hi hI
   have:i=l.length:=by omega
   subst this
   rw[List.drop_length,Zb2,h2 s hI]
   exact⟨rfl,hI⟩
  | succ k ih=>
   intro i s hi hI
   have hi':i<l.length:=by omega
   obtain⟨e,hI'⟩:=h1 i l[i] s hi' (List.getElem?_eq_getElem hi') hI
   rw[List.drop_eq_getElem_cons hi',Zb2,e]
   exact ih (i+1) _ (by omega) hI'
 have:=key l.length 0 s (by omega) h0
 rwa [List.drop_zero] at this
def Zjk (w:Int):Bool:=decide (w<0) || decide (1000<w)
def Zpu (g:Zb5) (i:Nat) (e:Zr):Bool:=!(ZlT g.work.length e.src) || (!(ZlT g.work.length e.dst) || ((e.src==e.dst) || (g.edges.take i).any (Zp8 e)))
def Zmi (g:Zb5):Int:=bif decide (64<(g.work.length:Int)) || decide (256<(g.edges.length:Int)) then 40 else bif g.work.any Zjk then 41 else bif Zil (Zpu g) 0 g.edges then 42 else 0
structure Zta (g:Zb5):Prop where
 w:g.work.length<9223372036854775808
 e:g.edges.length<9223372036854775808
theorem ZxC (w:Int):Zd9 w=some (Zjk w):=by
 unfold Zd9 Zjk
 cases decide (w<0)<;>cases decide (1000<w)<;>rfl
theorem Zzj (a:Int) (l:List Int):ZgB a l=some (ZlT l.length a):=by
 unfold ZgB ZlT
 cases decide (0≤a)<;>cases decide (a<(l.length:Int))<;>rfl
theorem Zuz (g:Zb5) (h:Zta g):lp (Zfl g) 0=some (bif Zil (Zpu g) 0 g.edges then .inl () else .inr ()):=by
 have key:=Zh2 g.edges (Zfl g) (Zpu g) (fun _ _=>.inl ()) (.inr ()) (fun i x hi hx=>by
   have e0:decide ((0:Int)≤(i:Int))=true:=decide_eq_true (by omega)
   have e1:Nat.ble i g.edges.length=true:=Nat.ble_eq_true_of_le (by omega)
   simp only[Zfl,Zf2 hi,Zbx hx,Option.bind_some,Zan hi h.e,cond_true,Zzj,Zpu,e0,Int.toNat_natCast,e1,Zso _ x (Znl h.e)]
   cases ZlT g.work.length x.src<;>cases ZlT g.work.length x.dst<;>cases (x.src==x.dst)<;>cases (g.edges.take i).any (Zp8 x)<;>rfl) (by simp only[Zfl,ZgU];rfl)
 rw[key,ZfN]
inductive Way (g:Zb5):Int→Int→Prop
 | one {e:Zr}:e∈g.edges→Way g e.src e.dst
 | more {a:Int} {e:Zr}:Way g a e.src→e∈g.edges→Way g a e.dst
theorem Way.trans {g:Zb5}{a b c:Int} (h1:Way g a b) (h2:Way g b c):Way g a c:=by
 induction h2 with
 | one he=>exact Way.more h1 he
 | more _ he ih=>exact Way.more (ih h1) he
def Zp3 (g:Zb5):Prop:=∀a,¬Way g a a
structure Zjb (g:Zb5):Prop where
 wl:g.work.length≤64
 el:g.edges.length≤256
 w:∀x∈g.work,0≤x∧x≤1000
 src:∀e∈g.edges,0≤e.src∧e.src.toNat<g.work.length
 dst:∀e∈g.edges,0≤e.dst∧e.dst.toNat<g.work.length
theorem Zjb.short {g:Zb5} (h:Zjb g):Zta g:=⟨by have:=h.wl;omega,by have:=h.el;omega⟩
theorem Zr1 {n:Nat}{a:Int} (h:ZlT n a=true):0≤a∧a.toNat<n:=by
 unfold ZlT at h
 simp only[Bool.and_eq_true,decide_eq_true_eq] at h
 omega
theorem ZtE {g:Zb5} (h:Zmi g=0):Zjb g:=by
 unfold Zmi at h
 cases h1:decide (64<(g.work.length:Int)) with
 | true=>rw[h1] at h;simp at h
 | false=>
 cases h2:decide (256<(g.edges.length:Int)) with
 | true=>rw[h1,h2] at h;simp at h
 | false=>
 cases h3:g.work.any Zjk with
 | true=>rw[h1,h2,h3] at h;simp at h
 | false=>
 cases h4:Zil (Zpu g) 0 g.edges with
 | true=>rw[h1,h2,h3,h4] at h;simp at h
 | false=>
 have hE:∀e∈g.edges,∃i,Zpu g i e=false:=fun e he=>by
  obtain⟨i,hi⟩:=List.getElem?_of_mem he
  refine⟨i,?_⟩
  cases hb:Zpu g i e with
  | false=>rfl
  | true=>rw[(ZlW _ _ 0).2 ⟨i,e,hi,by simpa using hb⟩] at h4;cases h4
 refine⟨by have:=of_decide_eq_false h1;omega,by have:=of_decide_eq_false h2;omega,fun x hx=>?_,fun e he=>?_,fun e he=>?_⟩
 ·have:=List.any_eq_false.1 h3 x hx
  unfold Zjk at this
  simp only[Bool.or_eq_true,decide_eq_true_eq,not_or] at this
  omega
 ·obtain⟨i,hi⟩:=hE e he
  unfold Zpu at hi
  simp only[Bool.or_eq_false_iff,Bool.not_eq_false'] at hi
  exact Zr1 hi.1
 ·obtain⟨i,hi⟩:=hE e he
  unfold Zpu at hi
  simp only[Bool.or_eq_false_iff,Bool.not_eq_false'] at hi
  exact Zr1 hi.2.1
theorem Way.dst_in {g:Zb5} (h:Zjb g) {a b:Int} (w:Way g a b):0≤b∧b.toNat<g.work.length:=by
 cases w with
 | one he=>exact h.dst _ he
 | more _ he=>exact h.dst _ he
theorem Way.src_in {g:Zb5} (h:Zjb g) {a b:Int} (w:Way g a b):0≤a∧a.toNat<g.work.length:=by
 induction w with
 | one he=>exact h.src _ he
 | more _ _ ih=>exact ih
theorem Zyy {g:Zb5} (hg:Zp3 g):∀(n:Nat) (S:List Int),S.length≤n→S≠[]→∃m∈S,∀e∈g.edges,e.dst=m→e.src∉S:=by
 intro n
 induction n with
 | zero=>intro S h1 h2;exact absurd (List.length_eq_zero_iff.1 (by omega)) h2
 | succ n ih=>
  intro S h1 h2
  obtain⟨m,hm⟩:=List.exists_mem_of_ne_nil S h2
  classical
  by_cases hS:(S.filter fun x=>decide (Way g x m))=[]
  ·refine⟨m,hm,fun e he hd hs=>?_⟩
   have:e.src∈S.filter fun x=>decide (Way g x m):=List.mem_filter.2 ⟨hs,decide_eq_true (hd ▸ Way.one he)⟩
   rw[hS] at this
   cases this
  ·have hlt:(S.filter fun x=>decide (Way g x m)).length<S.length:=by
    refine Nat.lt_of_le_of_ne (List.length_filter_le _ _) fun he=>?_
    have:=List.length_filter_eq_length_iff.1 he m hm
    exact hg m (of_decide_eq_true this)
   obtain⟨k,hk,hk2⟩:=ih _ (by omega) hS
   obtain⟨k1,k2⟩:=List.mem_filter.1 hk
   refine⟨k,k1,fun e he hd hs=>hk2 e he hd (List.mem_filter.2 ⟨hs,decide_eq_true ?_⟩)⟩
   exact(hd ▸ Way.one he:Way g e.src k).trans (of_decide_eq_true k2)
def bAt (l:List Bool) (z:Int):Bool:=match l[z.toNat]? with | some b=>b | none=>false
def Zkt (g:Zb5) (done:List Bool) (i:Nat):Bool:=!(bAt done (i:Int)) && !(g.edges.any fun e=>(e.dst==(i:Int)) && !(bAt done e.src))
def Zpb (g:Zb5) (done:List Bool):Option Nat:=Zjs (fun i _=>Zkt g done i) (fun i _=>some i) none 0 g.work
def Zov (g:Zb5):Nat→List Int→List Bool→Option (List Int)
 | 0,out,_=>some out
 | k+1,out,done=>(match Zpb g done with | some i=>Zov g k (out++[(i:Int)]) (done.set i true) | none=>none)
theorem ZtU {γ R S:Type} (p:Nat→γ→Bool) (out:Nat→γ→R) (fin:R) (F:R→S):∀(l:List γ) (i:Nat),F (Zjs p out fin i l)=Zjs p (fun i x=>F (out i x)) (F fin) i l
 | [],i=>rfl
 | x :: l,i=>by
  unfold Zjs
  cases p i x with
  | true=>rfl
  | false=>exact ZtU p out fin F l (i+1)
theorem Zsm {γ:Type} (p:Nat→γ→Bool):∀(l:List γ) (i k:Nat),Zjs p (fun i _=>some i) none i l=some k→i≤k∧k<i+l.length∧∃x,l[k-i]? = some x∧p k x=true
 | [],i,k,h=>by cases h
 | x :: l,i,k,h=>by
  unfold Zjs at h
  cases hp:p i x with
  | true=>
   rw[hp] at h
   cases h
   exact⟨Nat.le_refl _,by simp,x,by simp,hp⟩
  | false=>
   rw[hp] at h
   obtain⟨h1,h2,y,h3,h4⟩:=Zsm p l (i+1) k h
   refine⟨by omega,by simp only[List.length_cons];omega,y,?_,h4⟩
   rw[show k-i=(k-(i+1))+1 by omega]
   exact h3
theorem ZrO {γ:Type} (p:Nat→γ→Bool):∀(l:List γ) (i:Nat),Zjs p (fun i _=>some i) none i l=none→∀(j:Nat) x,l[j]? = some x→p (i+j) x=false
 | [],i,h,j,x,hx=>by cases hx
 | y :: l,i,h,j,x,hx=>by
  unfold Zjs at h
  cases hp:p i y with
  | true=>rw[hp] at h;cases h
  | false=>
   rw[hp] at h
   cases j with
   | zero=>cases hx;exact hp
   | succ j=>
    have:=ZrO p l (i+1) h j x hx
    rwa [show i+1+j=i+(j+1) by omega] at this
theorem Zs0 {g:Zb5}{done:List Bool} (hd:done.length=g.work.length) {z:Int} (h:0≤z∧z.toNat<g.work.length):Zy done z=some (bAt done z):=by
 have e:=List.getElem?_eq_getElem (show z.toNat<done.length by rw[hd];exact h.2)
 rw[ZnE h.1 e]
 unfold bAt
 rw[e]
theorem ZCt {g:Zb5} (h:Zjb g) (out:List Int) (ho:out.length<g.work.length) (done:List Bool) (hd:done.length=g.work.length) :
  lp (Ze3 g (out,done)) 0=some (match Zpb g done with | some i=>.inl (out++[(i:Int)],done.set i true) | none=>.inr ()):=by
 have key:=Zh2 g.work (Ze3 g (out,done)) (fun i _=>Zkt g done i) (fun i _=>.inl (out++[(i:Int)],done.set i true)) (.inr ()) (fun i x hi hx=>by
   have inner:=Zh2 g.edges (Zgc g (out,done) (i:Int)) (fun _ e=>(e.dst==(i:Int)) && !(bAt done e.src)) (fun _ _=>.inl ()) (.inr ()) (fun k e hk he=>by
     simp only[Zgc,Zf2 hk,Zbx he,Option.bind_some,Zan hk h.short.e,cond_true,Zs0 hd (h.src e (List.mem_of_getElem? he))]
     cases (e.dst==(i:Int))<;>cases bAt done e.src<;>rfl) (by simp only[Zgc,ZgU];rfl)
   rw[ZfN,ZkB] at inner
   have hl:=h.wl
   simp only[Ze3,Zf2 hi,Zs0 hd (z:=(i:Int)) ⟨by omega,by simpa using hi⟩,Option.bind_some,Zan hi h.short.w,cond_true,inner,ZiN (show out.length+1≤1073741824 by omega),Int.toNat_natCast,Zkt]
   cases bAt done (i:Int)<;>cases g.edges.any (fun e=>(e.dst==(i:Int)) && !(bAt done e.src))<;>rfl) (by simp only[Ze3,ZgU];rfl)
 rw[key]
 unfold Zpb
 exact congrArg some (ZtU (fun i _=>Zkt g done i) (fun i _=>some i) none (fun o:Option Nat=>(match o with | some i=>(.inl (out++[(i:Int)],done.set i true):(List Int×List Bool)⊕Unit) | none=>.inr ())) g.work 0).symm
theorem Zws {g:Zb5} (h:Zjb g):∀(k:Nat) (out:List Int) (done:List Bool),out.length+k=g.work.length→done.length=g.work.length →
  ∃r,lp (Zgf g) (out,done)=some r∧(match Zov g k out done with | some l=>r = .inr l | none=>∃l,r = .inl l)
 | 0,out,done,h1,h2=>by
  rw[Zb2]
  simp only[Zgf,show out.length=g.work.length by omega,ZgU,cond_false]
  exact⟨_,rfl,rfl⟩
 | k+1,out,done,h1,h2=>by
  rw[Zb2]
  simp only[Zgf,Zf2 (show out.length<g.work.length by omega),cond_true,ZCt h out (by omega) done h2,Option.bind_some]
  unfold Zov
  cases Zpb g done with
  | none=>exact⟨_,rfl,_,rfl⟩
  | some i=>exact Zws h k (out++[(i:Int)]) (done.set i true) (by rw[List.length_append];simp only[List.length_cons,List.length_nil];omega) (by rw[List.length_set];exact h2)
theorem Zwl {g:Zb5} (h:Zjb g):Zgh g=some (match Zov g g.work.length [] (List.replicate g.work.length false) with | some l=>(l,true) | none=>([],false)):=by
 obtain⟨r,e,hr⟩:=Zws h g.work.length [] (List.replicate g.work.length false) (by simp) (by simp)
 have hl:=h.wl
 unfold Zgh
 rw[decide_eq_true (show(0:Int)≤(g.work.length:Int) by omega),decide_eq_true (show(g.work.length:Int)≤lim by show(g.work.length:Int)≤1073741824;omega),beq_self_eq_true]
 simp only[decide_true,Bool.and_true,cond_true,Int.toNat_natCast,e,Option.bind_some]
 cases ho:Zov g g.work.length [] (List.replicate g.work.length false) with
 | some l=>rw[ho] at hr;simp only at hr;subst hr;rfl
 | none=>rw[ho] at hr;obtain⟨l,rfl⟩:=hr;rfl
structure Zhg (g:Zb5) (out:List Int) (done:List Bool):Prop where
 dl:done.length=g.work.length
 mem:∀i:Nat,bAt done (i:Int)=true↔(i:Int)∈out
 inn:∀z∈out,0≤z∧z.toNat<g.work.length
 nod:out.Nodup
 topo:∀(i:Nat) (n:Int),out[i]? = some n→∀e∈g.edges,e.dst=n→∃j,j<i∧out[j]? = some e.src
theorem Ztb {done:List Bool}{i:Nat} (hi:i<done.length) (z:Int) (hz:0≤z):bAt (done.set i true) z=(decide (z=(i:Int)) || bAt done z):=by
 unfold bAt
 rw[List.getElem?_set]
 by_cases h:i=z.toNat
 ·subst h
  rw[if_pos rfl,if_pos hi,decide_eq_true (show z=((z.toNat:Nat):Int) by omega)];rfl
 ·rw[if_neg h,decide_eq_false (show ¬z=(i:Int) by omega)];rfl
theorem Zhg.start (g:Zb5):Zhg g [] (List.replicate g.work.length false):=by
 refine⟨by simp,fun i=>?_,by simp,by simp,by simp⟩
 unfold bAt
 rw[List.getElem?_replicate]
 by_cases h:((i:Int)).toNat<g.work.length
 ·rw[if_pos h];simp
 ·rw[if_neg h];simp
theorem Zhg.next {g:Zb5} (h:Zjb g) {out:List Int}{done:List Bool} (o:Zhg g out done) {i:Nat} (hn:Zpb g done=some i):Zhg g (out++[(i:Int)]) (done.set i true):=by
 obtain⟨_,hi,x,_,hp⟩:=Zsm _ _ _ _ hn
 rw[Nat.zero_add] at hi
 unfold Zkt at hp
 simp only[Bool.and_eq_true,Bool.not_eq_true',List.any_eq_false,Bool.not_eq_true] at hp
 have hid:i<done.length:=by rw[o.dl];exact hi
 have hnot:(i:Int)∉out:=fun hm=>by have:=(o.mem i).2 hm;rw[hp.1] at this;cases this
 refine⟨by rw[List.length_set];exact o.dl,fun j=>?_,fun z hz=>?_,?_,fun k n hk e he hd=>?_⟩
 ·rw[Ztb hid (j:Int) (by omega),Bool.or_eq_true,decide_eq_true_eq,o.mem,List.mem_append,List.mem_singleton]
  exact Or.comm
 ·rcases List.mem_append.1 hz with hz | hz
  ·exact o.inn z hz
  ·rw[List.mem_singleton] at hz;subst hz;exact⟨by omega,by simpa using hi⟩
 ·rw[List.nodup_append]
  refine⟨o.nod,by simp,fun a ha b hb=>?_⟩
  rw[List.mem_singleton] at hb
  subst hb
  exact fun hab=>hnot (hab ▸ ha)
 ·rcases Nat.lt_or_ge k out.length with hk2 | hk2
  ·rw[List.getElem?_append_left hk2] at hk
   obtain⟨j,h1,h2⟩:=o.topo k n hk e he hd
   exact⟨j,h1,by rw[List.getElem?_append_left (by omega)];exact h2⟩
  ·rw[List.getElem?_append_right hk2] at hk
   have hk0:k-out.length=0:=by
    rcases Nat.eq_zero_or_pos (k-out.length) with h0 | h0
    ·exact h0
    ·rw[List.getElem?_eq_none (by simp only[List.length_cons,List.length_nil];omega)] at hk;cases hk
   rw[hk0] at hk
   simp only[List.getElem?_cons_zero,Option.some.injEq] at hk
   subst hk
   have hs:=hp.2 e he
   rw[hd] at hs
   have hs:bAt done e.src=true:=by simpa using hs
   have hsr:=h.src e he
   have:=(o.mem e.src.toNat).1 (by rw[show((e.src.toNat:Nat):Int)=e.src by omega];exact hs)
   rw[show((e.src.toNat:Nat):Int)=e.src by omega] at this
   obtain⟨j,hj⟩:=List.getElem?_of_mem this
   have hjl:=(List.getElem?_eq_some_iff.1 hj).1
   exact⟨j,by omega,by rw[List.getElem?_append_left hjl];exact hj⟩
theorem Zhg.way {g:Zb5}{out:List Int}{done:List Bool} (o:Zhg g out done) {a b:Int} (w:Way g a b):∀j:Nat,out[j]? = some b→∃i,i<j∧out[i]? = some a:=by
 induction w with
 | one he=>intro j hj;exact o.topo j _ hj _ he rfl
 | more _ he ih=>
  intro j hj
  obtain⟨i,h1,h2⟩:=o.topo j _ hj _ he rfl
  obtain⟨k,h3,h4⟩:=ih i h2
  exact⟨k,by omega,h4⟩
theorem Zsi {l:List Int} (h:l.Nodup) {i j:Nat}{a:Int} (h1:l[i]? = some a) (h2:l[j]? = some a):i=j:=by
 obtain⟨a1,a2⟩:=List.getElem?_eq_some_iff.1 h1
 obtain⟨b1,b2⟩:=List.getElem?_eq_some_iff.1 h2
 exact(List.getElem_inj h).1 (a2.trans b2.symm)
def ZzC (n:Nat) (done:List Bool):List Int:=((List.range n).filter fun i:Nat=>!bAt done (i:Int)).map fun i:Nat=>(i:Int)
theorem ZqO {n:Nat}{done:List Bool}{i:Nat} (h1:i<n) (h2:bAt done (i:Int)=false):(i:Int)∈ZzC n done:=
 List.mem_map.2 ⟨i,List.mem_filter.2 ⟨List.mem_range.2 h1,by rw[h2];rfl⟩,rfl⟩
theorem Zxp {g:Zb5} (h:Zjb g) (hg:Zp3 g) {out:List Int}{done:List Bool} (o:Zhg g out done) (i0:Nat) (hi0:i0<g.work.length) (hb:bAt done (i0:Int)=false):∃i,Zpb g done=some i:=by
 cases hn:Zpb g done with
 | some i=>exact⟨i,rfl⟩
 | none=>
  exfalso
  have hall:=ZrO _ _ _ hn
  obtain⟨m,hm,hm2⟩:=Zyy hg _ (ZzC g.work.length done) (Nat.le_refl _) (by
   intro he
   have:=ZqO hi0 hb
   rw[he] at this;cases this)
  obtain⟨k,hk,rfl⟩:=List.mem_map.1 hm
  obtain⟨hk1,hk2⟩:=List.mem_filter.1 hk
  rw[List.mem_range] at hk1
  have hr:=hall k g.work[k] (List.getElem?_eq_getElem hk1)
  rw[Nat.zero_add] at hr
  unfold Zkt at hr
  rw[hk2,Bool.true_and,Bool.not_eq_false',List.any_eq_true] at hr
  obtain⟨e,he,he2⟩:=hr
  simp only[Bool.and_eq_true,beq_iff_eq] at he2
  have hsr:=h.src e he
  refine hm2 e he he2.1 ?_
  have es:((e.src.toNat:Nat):Int)=e.src:=by omega
  rw[← es]
  exact ZqO hsr.2 (by rw[es];simpa using he2.2)
theorem ZzO {n:Nat}{out:List Int} (h1:out.Nodup) (h2:∀z∈out,0≤z∧z.toNat<n):(out.length≤n)∧(out.length=n→∀i:Nat,i<n→(i:Int)∈out):=by
 induction n generalizing out with
 | zero=>
  refine⟨?_,fun _ i hi=>absurd hi (by omega)⟩
  cases out with
  | nil=>simp
  | cons z l=>have:=h2 z (by simp);omega
 | succ n ih=>
  by_cases hm:(n:Int)∈out
  ·have e1:(out.erase (n:Int)).length=out.length-1:=List.length_erase_of_mem hm
   have pos:0<out.length:=List.length_pos_of_mem hm
   obtain⟨a,b⟩:=ih (out:=out.erase (n:Int)) (h1.erase _) (fun z hz=>by
    have hz2:=(List.Nodup.mem_erase_iff h1).1 hz
    have:=h2 z hz2.2
    have:=hz2.1
    omega)
   refine⟨by omega,fun hl i hi=>?_⟩
   by_cases hin:i=n
   ·subst hin;exact hm
   ·exact List.mem_of_mem_erase (b (by omega) i (by omega))
  ·obtain⟨a,b⟩:=ih (out:=out) h1 (fun z hz=>by
    have:=h2 z hz
    have:z≠(n:Int):=fun he=>hm (he ▸ hz)
    omega)
   exact⟨by omega,fun hl=>by omega⟩
theorem ZzM:∀(n:Nat) (out:List Int),(∀i:Nat,i<n→(i:Int)∈out)→n≤out.length
 | 0,out,h=>by omega
 | n+1,out,h=>by
  have hm:=h n (by omega)
  have e1:(out.erase (n:Int)).length=out.length-1:=List.length_erase_of_mem hm
  have pos:0<out.length:=List.length_pos_of_mem hm
  have:=ZzM n (out.erase (n:Int)) (fun i hi=>(List.mem_erase_of_ne (by omega)).2 (h i (by omega)))
  omega
theorem Zm8 {g:Zb5} (h:Zjb g):∀(k:Nat) (out:List Int) (done:List Bool),Zhg g out done→out.length+k=g.work.length→(∀l,Zov g k out done=some l→∃done',Zhg g l done'∧l.length=g.work.length)∧(Zp3 g→∃l,Zov g k out done=some l)
 | 0,out,done,o,hl=>⟨fun l h=>by cases h;exact⟨done,o,by omega⟩,fun _=>⟨out,rfl⟩⟩
 | k+1,out,done,o,hl=>by
  unfold Zov
  cases hn:Zpb g done with
  | none=>
   refine⟨fun l h=>(by cases h),fun hg=>?_⟩
   exfalso
   have hex:∃i0,i0<g.work.length∧(i0:Int)∉out:=by
    apply Classical.byContradiction
    intro hc
    have hc2:∀i0,i0<g.work.length→(i0:Int)∈out:=fun i0 hi=>Classical.byContradiction fun hx=>hc ⟨i0,hi,hx⟩
    have sub:=ZzM g.work.length out hc2
    omega
   obtain⟨i0,h1,h2⟩:=hex
   obtain⟨i,hi⟩:=Zxp h hg o i0 h1 (by
    cases hb:bAt done (i0:Int) with
    | false=>rfl
    | true=>exact absurd ((o.mem i0).1 hb) h2)
   rw[hn] at hi
   cases hi
  | some i=>
   exact Zm8 h k _ _ (o.next h hn) (by rw[List.length_append];simp only[List.length_cons,List.length_nil];omega)
theorem ZAc {g:Zb5} (h:Zjb g) {l:List Int}{done:List Bool} (o:Zhg g l done) (hl:l.length=g.work.length):Zp3 g:=by
 intro a w
 have ha:=w.src_in h
 have hm:=(ZzO o.nod o.inn).2 hl a.toNat ha.2
 rw[show((a.toNat:Nat):Int)=a by omega] at hm
 obtain⟨j,hj⟩:=List.getElem?_of_mem hm
 obtain⟨i,h1,h2⟩:=o.way w j hj
 have:=Zsi o.nod h2 hj
 omega
structure ZAr (g:Zb5) (l:List Int):Prop where
 len:l.length=g.work.length
 all:∀i:Nat,i<g.work.length→(i:Int)∈l
 inn:∀z∈l,0≤z∧z.toNat<g.work.length
 nod:l.Nodup
 topo:∀(i:Nat) (n:Int),l[i]? = some n→∀e∈g.edges,e.dst=n→∃j,j<i∧l[j]? = some e.src
theorem ZrG {g:Zb5} (h:Zjb g) (hg:Zp3 g):∃l,Zgh g=some (l,true)∧ZAr g l:=by
 obtain⟨k1,k2⟩:=Zm8 h g.work.length [] _ (Zhg.start g) (by simp)
 obtain⟨l,hl⟩:=k2 hg
 obtain⟨done,o,hn⟩:=k1 l hl
 exact⟨l,by rw[Zwl h,hl],hn,(ZzO o.nod o.inn).2 hn,o.inn,o.nod,o.topo⟩
theorem Zz0 {g:Zb5} (h:Zjb g) (hg:¬Zp3 g):Zgh g=some ([],false):=by
 rw[Zwl h]
 cases ho:Zov g g.work.length [] (List.replicate g.work.length false) with
 | none=>rfl
 | some l=>
  obtain⟨done,o,hn⟩:=(Zm8 h g.work.length [] _ (Zhg.start g) (by simp)).1 l ho
  exact absurd (ZAc h o hn) hg
noncomputable def ZxY (g:Zb5):Bool:=@decide (Zp3 g) (Classical.propDecidable _)
theorem ZAx {g:Zb5} (h:Zp3 g):ZxY g=true:=@decide_eq_true _ (Classical.propDecidable _) h
theorem Zvz {g:Zb5} (h:¬Zp3 g):ZxY g=false:=@decide_eq_false _ (Classical.propDecidable _) h
noncomputable def ZjN (g:Zb5):Int:=bif Zmi g==0 then (bif ZxY g then 0 else 43) else Zmi g
theorem ZiB {g:Zb5} (h:ZjN g=0):Zjb g∧Zp3 g:=by
 unfold ZjN at h
 by_cases h0:Zmi g=0
 ·rw[h0] at h
  refine⟨ZtE h0,Classical.byContradiction fun hn=>?_⟩
  rw[Zvz hn] at h
  simp at h
 ·rw[beq_false_of_ne h0] at h
  exact absurd h h0
theorem Zp4 (g:Zb5) (h:Zta g):ZhW g=some (ZjN g):=by
 have hw:=Zm5 g.work (fun z0=>Zd9 z0) Zjk (fun x _=>ZxC x) h.w
 unfold ZhW ZjN
 rw[hw,Zuz g h]
 by_cases h0:Zmi g=0
 ·have hG:=ZtE h0
  rw[h0]
  unfold Zmi at h0
  by_cases hg:Zp3 g
  ·obtain⟨l,e,_⟩:=ZrG hG hg
   rw[e,ZAx hg]
   revert h0
   cases decide (64<(g.work.length:Int))<;>cases decide (256<(g.edges.length:Int))<;>cases g.work.any Zjk<;>cases Zil (Zpu g) 0 g.edges<;>simp
  ·rw[Zz0 hG hg,Zvz hg]
   revert h0
   cases decide (64<(g.work.length:Int))<;>cases decide (256<(g.edges.length:Int))<;>cases g.work.any Zjk<;>cases Zil (Zpu g) 0 g.edges<;>simp
 ·rw[beq_false_of_ne h0]
  unfold Zmi at h0 ⊢
  revert h0
  cases decide (64<(g.work.length:Int))<;>cases decide (256<(g.edges.length:Int))<;>cases g.work.any Zjk<;>cases Zil (Zpu g) 0 g.edges<;>simp
end Go.Proofs.YtnmbdjkbaihicaaGreatDoor
namespace Go.Proofs.YtnmbdjkbaihicaaGreatDoor
open Go Go.Proofs.YtnmbdjkbaihicaaGreatDoorE
set_option linter.unusedVariables false
set_option linter.unusedSimpArgs false
theorem ZiC {K W:Type} (eq:K→K→Bool) (k:K) (v:W):∀l:List (K×W),(∀q∈l,eq k q.1=false)→Zz eq l k v=l++[(k,v)]
 | [],_=>rfl
 | (a,u) :: r,h=>by
  unfold Zz
  rw[h (a,u) (by simp)]
  simp only[cond_false,List.cons_append]
  rw[ZiC eq k v r fun q hq=>h q (by simp[hq])]
theorem Zpn {K W:Type} (eq:K→K→Bool) (k:K) (z:W):∀l:List (K×W),(∀q∈l,eq k q.1=false)→Zaw eq l k z=z
 | [],_=>rfl
 | (a,u) :: r,h=>by
  unfold Zaw
  rw[h (a,u) (by simp)]
  exact Zpn eq k z r fun q hq=>h q (by simp[hq])
theorem ZiE {K W:Type} (eq:K→K→Bool) (k:K) (z:W) (m:List (K×W)):∀l:List (K×W),(∀q∈l,eq k q.1=false)→Zaw eq (l++m) k z=Zaw eq m k z
 | [],_=>rfl
 | (a,u) :: r,h=>by
  rw[List.cons_append]
  conv=>lhs;unfold Zaw
  rw[h (a,u) (by simp)]
  exact ZiE eq k z m r fun q hq=>h q (by simp[hq])
theorem Zjg {K W:Type} (eq:K→K→Bool) (k:K) (z:W) (m:List (K×W)):∀l:List (K×W),(∃q∈l,eq k q.1=true)→Zaw eq (l++m) k z=Zaw eq l k z
 | [],h=>by obtain⟨q,hq,_⟩:=h;simp at hq
 | (a,u) :: r,h=>by
  rw[List.cons_append]
  unfold Zaw
  cases hb:eq k a with
  | true=>rfl
  | false=>
   simp only[cond_false]
   refine Zjg eq k z m r ?_
   obtain⟨q,hq,hk⟩:=h
   rcases List.mem_cons.1 hq with rfl | hq
   ·rw[hb] at hk;cases hk
   ·exact⟨q,hq,hk⟩
abbrev eqI:Int→Int→Bool:=fun ka kb:Int=>(ka==kb)
theorem Zpk {K W:Type} (eq:K→K→Bool) (k:K) (v w:W) (hk:eq k k=true):∀l:List (K×W),(∀q∈l,eq k q.1=false)→Zz eq (l++[(k,v)]) k w=l++[(k,w)]
 | [],_=>by
  show(bif eq k k then _ else _)=_
  rw[hk];rfl
 | (a,u) :: r,h=>by
  rw[List.cons_append]
  unfold Zz
  rw[h (a,u) (by simp)]
  simp only[cond_false,List.cons_append]
  rw[Zpk eq k v w hk r fun q hq=>h q (by simp[hq])]
theorem Zr2 {K W:Type} (eq:K→K→Bool) (k:K) (z v:W) (hk:eq k k=true) (l m:List (K×W)) (h:∀q∈l,eq k q.1=false):Zaw eq (l++(k,v) :: m) k z=v:=by
 rw[ZiE eq k z _ l h]
 show(bif eq k k then _ else _)=_
 rw[hk];rfl
end Go.Proofs.YtnmbdjkbaihicaaGreatDoor
namespace Go.Proofs.YtnmbdjkbaihicaaGreatDoor
open Go Go.Proofs.YtnmbdjkbaihicaaGreatDoorE
set_option linter.unusedVariables false
set_option linter.unusedSimpArgs false
def tch (d:Zm) (n:Nat):List Int:=tl d (n:Int) 0 99
theorem Znt {d:Zm} (g:Znv d) (n:Nat):Zce d (n:Int) (tch d n):=Zvc g (n:Int)
theorem ZDk {d:Zm} (hs:Ziy d) (hf:d.futures.length≤1000) (hc:Zge d=0) (n:Nat):ZdI d (n:Int)=some (tch d n):=by
 obtain⟨r,h1,h2⟩:=ZoE d hs hf hc (n:Int)
 rw[h1,h2.eq (Znt (ZsQ hc) n)]
abbrev nt (d:Zm) (n:Nat):Nat:=(tch d n).length
theorem Zy0 {d:Zm} (g:Zd5 d) (n:Nat):nt d n≤16:=Nat.le_trans (Zma (Znt g.g n)) g.fl
def cut (d:Zm) (n i:Nat):Int:=if i=0 then 0 else match (tch d n)[i-1]? with | some z=>Zgj d.futures z | none=>ZgK d.parts (n:Int)
def Zkm (d:Zm) (n k:Nat):List Int:=(List.range k).map fun i=>cut d n (i+1)-cut d n i
def ZW (d:Zm):Nat→Nat
 | 0=>0
 | n+1=>ZW d n+(nt d n+1)
theorem Zjw {d:Zm} (g:Zd5 d):∀n,ZW d n≤17*n
 | 0=>Nat.le_refl _
 | n+1=>by have:=Zjw g n;have:=Zy0 g n;show ZW d n+(nt d n+1)≤_;omega
theorem ZkY {d:Zm}{n i:Nat} (g:Znv d) (hi:i<nt d n):∃f,Zy (tch d n) (i:Int)=some (tch d n)[i]∧Zy d.futures (tch d n)[i]=some f∧d.futures[((tch d n)[i]).toNat]? = some f∧f.user=(n:Int)∧f.pos=cut d n (i+1)∧f∈d.futures:=by
 obtain⟨j,f,h1,h2,h3⟩:=(Znt g n).mem _ |>.1 (List.getElem_mem hi)
 refine⟨f,Zbx (List.getElem?_eq_getElem hi),?_,?_,h2,?_,List.mem_of_getElem? h1⟩
 ·rw[h3];exact Zbx h1
 ·rw[h3,Int.toNat_natCast];exact h1
 ·unfold cut
  rw[if_neg (by omega),Nat.add_sub_cancel,List.getElem?_eq_getElem hi]
  show _=Zgj d.futures (tch d n)[i]
  unfold Zgj
  rw[h3,Int.toNat_natCast,h1]
theorem ZBe {d:Zm} (g:Znv d) (n i:Nat):0≤cut d n i∧cut d n i≤100:=by
 unfold cut
 split
 ·omega
 ·have wb:0≤ZgK d.parts (n:Int)∧ZgK d.parts (n:Int)≤100:=by
   refine⟨?_,Zmz g _⟩
   unfold ZgK
   split
   ·rename_i p hp;have:=g.w p (List.mem_of_getElem? hp);omega
   ·omega
  split
  ·rename_i z hz
   obtain⟨j,f,h1,h2,h3⟩:=(Znt g n).mem z |>.1 (List.mem_of_getElem? hz)
   have:=g.f f (List.mem_of_getElem? h1)
   have:=Zmz g f.user
   unfold Zgj
   rw[h3,Int.toNat_natCast,h1]
   show 0≤f.pos∧f.pos≤100
   omega
  ·exact wb
theorem ZAG (d:Zm) (n:Nat):cut d n (nt d n+1)=ZgK d.parts (n:Int):=by
 unfold cut
 rw[if_neg (by omega),Nat.add_sub_cancel,List.getElem?_eq_none (Nat.le_refl _)]
theorem ZtD (d:Zm) (n k:Nat):Zkm d n (k+1)=Zkm d n k++[cut d n (k+1)-cut d n k]:=by unfold Zkm;rw[List.range_succ,List.map_append];rfl
theorem Zq7 (d:Zm) (n k:Nat):(Zkm d n k).length=k:=by unfold Zkm;simp
def ZoP (d:Zm) (n:Nat):List Int:=Zkm d n (nt d n+1)
theorem Zwf {d:Zm}{n:Nat} (hn:n<d.parts.length):∃x,Zy d.parts (n:Int)=some x∧x.work=ZgK d.parts (n:Int):=by
 refine⟨d.parts[n],Zbx (List.getElem?_eq_getElem hn),?_⟩
 unfold ZgK
 rw[Int.toNat_natCast,List.getElem?_eq_getElem hn]
def ZhT (d:Zm) (z:Int):Int:=(ZW d z.toNat:Int)
def ZcX (d:Zm) (z:Int):Int:=(ZW d (z.toNat+1):Int)-1
def ZqP (d:Zm) (f:Zk):Int:=Zjs (fun _ z=>Zgj d.futures z==f.pos) (fun i _=>ZhT d f.user+(i:Int)+1) (-1) 0 (tch d f.user.toNat)
end Go.Proofs.YtnmbdjkbaihicaaGreatDoor
namespace Go.Proofs.YtnmbdjkbaihicaaGreatDoor
open Go Go.Proofs.YtnmbdjkbaihicaaGreatDoorE
set_option linter.unusedVariables false
set_option linter.unusedSimpArgs false
def upto {β:Type} (B:Nat→List β) (k:Nat):List β:=(List.range k).flatMap B
theorem ZdW {β:Type} (B:Nat→List β) (k:Nat):upto B (k+1)=upto B k++B k:=by unfold upto;rw[List.range_succ,List.flatMap_append];simp
theorem Zqo {γ β:Type} (l:List γ) (hl:l.length≤1000) (step:Int×List β→Option ((Int×List β)⊕List β)) (g:γ→β)
  (h1:∀(i:Nat) x s,i<l.length→l[i]? = some x→Nat.ble (s.length+1) lim=true→step ((i:Int),s)=some (.inl (((i+1:Nat):Int),s++[g x])))
  (h2:∀s,step ((l.length:Int),s)=some (.inr s)) (s:List β) (hs:s.length≤1000000):lp step (0,s)=some (s++l.map g):=by
 have key:=(ZxZ l step (fun i s=>((i:Int),s)) (fun _ s x=>s++[g x]) id (fun i s=>s.length≤1000000+i) (fun i x s hi hx hI=>⟨h1 i x s hi hx (ZiN (by omega)),by rw[List.length_append];simp only[List.length_cons,List.length_nil];omega⟩) (fun s _=>h2 s) s (by omega)).1
 have e:∀(l:List γ) (i:Nat) (s:List β),Zpm (fun _ s x=>s++[g x]) i s l=s++l.map g:=by
  intro l
  induction l with
  | nil=>intro i s;simp[Zpm]
  | cons x l ih=>intro i s;show Zpm _ (i+1) (s++[g x]) l=_;rw[ih];simp
 rw[e] at key
 exact key
def Zha (d:Zm) (n k:Nat):List Zr:=(List.range k).map fun j=>⟨((ZW d n+j:Nat):Int),((ZW d n+j+1:Nat):Int)⟩
theorem Zpj (d:Zm) (n k:Nat):Zha d n (k+1)=Zha d n k++[⟨((ZW d n+k:Nat):Int),((ZW d n+k+1:Nat):Int)⟩]:=by unfold Zha;rw[List.range_succ,List.map_append];rfl
theorem ZqM (d:Zm) (n k:Nat):(Zha d n k).length=k:=by unfold Zha;simp
def ZfE (n k:Nat):List Zj:=(List.range k).map fun j:Nat=>⟨(n:Int),(j:Int)⟩
theorem ZsF (n k:Nat):ZfE n (k+1)=ZfE n k++[⟨(n:Int),(k:Int)⟩]:=by unfold ZfE;rw[List.range_succ,List.map_append];rfl
theorem Zpe (n k:Nat):(ZfE n k).length=k:=by unfold ZfE;simp
def Zid (d:Zm) (k:Nat):List Int:=upto (ZoP d) k
def Zg3 (d:Zm) (k:Nat):List Zr:=upto (fun n=>Zha d n (nt d n)) k
def Zdl (d:Zm) (k:Nat):List Zj:=upto (fun n=>ZfE n (nt d n+1)) k
theorem Zk1 (d:Zm):∀k,(Zid d k).length=ZW d k
 | 0=>rfl
 | k+1=>by unfold Zid;rw[ZdW,List.length_append];unfold ZoP;rw[Zq7];show(Zid d k).length+_=ZW d k+_;rw[Zk1 d k]
theorem ZdM (d:Zm):∀k,(Zdl d k).length=ZW d k
 | 0=>rfl
 | k+1=>by unfold Zdl;rw[ZdW,List.length_append,Zpe];show(Zdl d k).length+_=ZW d k+_;rw[ZdM d k]
theorem Zny (d:Zm):∀k,(Zg3 d k).length≤ZW d k
 | 0=>Nat.le_refl _
 | k+1=>by unfold Zg3;rw[ZdW,List.length_append,ZqM];have:=Zny d k;unfold Zg3 at this;show _≤ZW d k+(nt d k+1);omega
def Zlr (d:Zm):List Zr:=d.edges.map fun e=>⟨ZcX d e.src,ZhT d e.dst⟩
def Zl0 (d:Zm):List Zr:=d.futures.map fun f=>⟨ZcX d f.maker,ZqP d f⟩
def ZwU (d:Zm) (at_:Int) (b:Zv):List Zr:=b.ins.map (fun q=>⟨ZcX d q,at_⟩)++b.outs.map (fun q=>⟨at_,ZhT d q⟩)
def Zpq (d:Zm) (i:Nat):Int:=((ZW d d.parts.length+i:Nat):Int)
def ZgF (d:Zm) (k:Nat):List Zr:=upto (fun i=>match d.barriers[i]? with | some b=>ZwU d (Zpq d i) b | none=>[]) k
def ZgL (k:Nat):List Zj:=(List.range k).map fun i:Nat=>⟨-1,(i:Int)⟩
theorem Zpc (k:Nat):(ZgL k).length=k:=by unfold ZgL;simp
theorem ZsY (k:Nat):ZgL (k+1)=ZgL k++[⟨-1,(k:Int)⟩]:=by unfold ZgL;rw[List.range_succ,List.map_append];rfl
def Zli (d:Zm):List Int:=Zid d d.parts.length++List.replicate d.barriers.length 1
def Zko (d:Zm):List Zr:=Zg3 d d.parts.length++Zlr d++Zl0 d
def Zi2 (d:Zm):List Zr:=Zko d++ZgF d d.barriers.length
def Ze5 (d:Zm):List Zj:=Zdl d d.parts.length++ZgL d.barriers.length
def ZbM (d:Zm):ZlR:=⟨⟨Zli d,Zi2 d⟩,Ze5 d⟩
theorem ZpY {d:Zm} (g:Zd5 d):(Zko d).length≤1000:=by
 unfold Zko Zlr Zl0
 have h1:=Zny d d.parts.length
 have h2:=Zjw g d.parts.length
 have h3:=g.pl
 have h4:=g.el
 have h5:=g.fl
 simp only[List.length_append,List.length_map]
 omega
theorem Zyr {d:Zm} (hz:ZkA d) {b:Zv} (hb:b∈d.barriers) (z:Int):(ZwU d z b).length≤40:=by
 have:=hz.i b hb
 unfold ZwU
 simp only[List.length_append,List.length_map]
 omega
theorem Zno {d:Zm} (hz:ZkA d):∀k,(ZgF d k).length≤40*k
 | 0=>Nat.le_refl _
 | k+1=>by
  have ih:=Zno hz k
  unfold ZgF at ih ⊢
  rw[ZdW,List.length_append]
  split
  ·rename_i b hb
   have:=Zyr hz (List.mem_of_getElem? hb) (Zpq d k)
   omega
  ·simp only[List.length_nil];omega
end Go.Proofs.YtnmbdjkbaihicaaGreatDoor
namespace Go.Proofs.YtnmbdjkbaihicaaGreatDoor
open Go Go.Proofs.YtnmbdjkbaihicaaGreatDoorE
set_option linter.unusedVariables false
set_option linter.unusedSimpArgs false
theorem Zis (b:Zj) (c:Int) {W:List Int}{P:List Zj} (h1:W.length≤10000) (h2:P.length≤10000):Za4 b c W P=some ():=by
 unfold Za4
 rw[ZiN (by omega),ZiN (by omega)];rfl
theorem Zk5 (b c:Int) {E:List Zr} (h1:E.length≤10000):ZZ b c E=some ():=by
 unfold ZZ
 rw[ZiN (by omega)];rfl
theorem Ztj {β:Type} (P:List β) (x:β) (hP:P.length≤10000):w64 ((List.length (P++[x]):Int)-1)=(P.length:Int):=by
 rw[List.length_append]
 simp only[List.length_cons,List.length_nil]
 rw[ZdX (by omega) (by omega)]
 omega
theorem Zxc {d:Zm} (g:Zd5 d) {n:Nat} (hn:n<d.parts.length) (hc:ZdI d (n:Int)=some (tch d n)) {W:List Int}{E:List Zr}{P:List Zj} (M5:List (Int×Int)) (M6:List (Zk×Int)) (hW:W.length≤1000) (hE:E.length≤1000) (hP:P.length≤1000) :
  ZeK d (n:Int) W E P M5 M6=(lp (ZF d (n:Int) (tch d n)) (0,0,M5,M6,W,E,P)).bind fun r=>some (bif decide (0<nt d n) then .inl r else .inr (.inl r.2.2.1)):=by
 obtain⟨x,x1,x2⟩:=Zwf hn
 have hnt:=Zy0 g n
 have hnl:(tch d n).length=nt d n:=rfl
 have e1:w64 (((tch d n).length:Int)+1)=(((tch d n).length+1:Nat):Int):=by rw[ZdX (by omega) (by omega)];omega
 have w1:w64 ((0:Int)+1)=1:=ZdX (by omega) (by omega)
 have w2:w64 ((1:Int)+1)=2:=ZdX (by omega) (by omega)
 have w0:w64 ((1:Int)-1)=0:=ZdX (by omega) (by omega)
 have lW:∀a:Int,(W++[a]).length≤10000:=fun a=>by rw[List.length_append];simp only[List.length_cons,List.length_nil];omega
 have lP:∀a:Zj,(P++[a]).length≤10000:=fun a=>by rw[List.length_append];simp only[List.length_cons,List.length_nil];omega
 unfold ZeK
 rw[hc,Option.bind_some,Zb2 (Zcr d (n:Int) W E P M5 M6 (tch d n)),Zb2 (ZF d (n:Int) (tch d n))]
 by_cases h0:0<nt d n
 ·obtain⟨f,f1,f2,_⟩:=ZkY g.g h0
  have c0:decide ((0:Int)<(((tch d n).length+1:Nat):Int))=true:=decide_eq_true (by omega)
  have c1:decide ((0:Int)<((tch d n).length:Int))=true:=decide_eq_true (by omega)
  have c2:decide ((1:Int)<(((tch d n).length+1:Nat):Int))=true:=decide_eq_true (by omega)
  have f1':Zy (tch d n) 0=some (tch d n)[0]:=f1
  simp only[Zcr,ZF,e1,c0,c1,cond_true,x1,Option.bind_some,f1',f2,Zis _ _ (show W.length≤10000 by omega) (show P.length≤10000 by omega),w1,decide_eq_false (show ¬(0:Int)<0 by omega),cond_false,decide_eq_true h0]
  rw[Zb2 (Zcq d (n:Int) W E P M5 M6 (tch d n) f),Zb2 (ZF d (n:Int) (tch d n))]
  by_cases h1:1<nt d n
  ·obtain⟨f',f1b,f2b,_⟩:=ZkY g.g h1
   have f1b':Zy (tch d n) 1=some (tch d n)[1]:=f1b
   have c3:decide ((1:Int)<((tch d n).length:Int))=true:=decide_eq_true (by omega)
   simp only[Zcq,ZF,e1,c2,c3,cond_true,x1,Option.bind_some,f1',f2,f1b',f2b,Zis _ _ (lW _) (lP _),Zk5 _ _ (show E.length≤10000 by omega),w2,w0,decide_eq_true (show(0:Int)<1 by omega)]
   generalize lp (ZF d (n:Int) (tch d n)) _=r
   cases r<;>rfl
  ·have c3:decide ((1:Int)<((tch d n).length:Int))=false:=decide_eq_false (by omega)
   simp only[Zcq,ZF,e1,c2,c3,cond_true,cond_false,x1,Option.bind_some,f1',f2,Zis _ _ (lW _) (lP _),Zk5 _ _ (show E.length≤10000 by omega),w2,w0,decide_eq_true (show(0:Int)<1 by omega)]
   generalize lp (ZF d (n:Int) (tch d n)) _=r
   cases r<;>rfl
 ·have c0:decide ((0:Int)<(((tch d n).length+1:Nat):Int))=true:=decide_eq_true (by omega)
  have c1:decide ((0:Int)<((tch d n).length:Int))=false:=decide_eq_false (by omega)
  have c2:decide ((1:Int)<(((tch d n).length+1:Nat):Int))=false:=decide_eq_false (by omega)
  simp only[Zcr,ZF,e1,c0,c1,cond_true,x1,Option.bind_some,Zis _ _ (show W.length≤10000 by omega) (show P.length≤10000 by omega),w1,decide_eq_false (show ¬(0:Int)<0 by omega),cond_false,decide_eq_false h0]
  rw[Zb2 (Zdf d (n:Int) W E P M5 M6 (tch d n) x),Zb2 (ZF d (n:Int) (tch d n))]
  simp only[Zdf,ZF,e1,c2,cond_false,Option.bind_some]
abbrev eqF:Zk→Zk→Bool:=fun ka kb:Zk=>((ka.maker==kb.maker)&&((ka.user==kb.user)&&((ka.pos==kb.pos)&&true)))
def Zkd (M:List (Int×Int)) (n F i:Nat):List (Int×Int):=if i=0 then M else M++[((n:Int),((F+i-1:Nat):Int))]
theorem Zuo {M:List (Int×Int)}{n F:Nat} (h:∀q∈M,q.1≠(n:Int)) (i:Nat):Zz (fun ka kb:Int=>(ka==kb)) (Zkd M n F i) (n:Int) ((F+i:Nat):Int)=Zkd M n F (i+1):=by
 have hq:∀q∈M,eqI (n:Int) q.1=false:=fun q hq=>by
  show((n:Int)==q.1)=false
  exact beq_false_of_ne (Ne.symm (h q hq))
 unfold Zkd
 rw[if_neg (show i+1≠0 by omega)]
 by_cases h0:i=0
 ·subst h0
  rw[if_pos rfl]
  exact ZiC eqI (n:Int) _ M hq
 ·rw[if_neg h0]
  exact Zpk eqI (n:Int) _ _ (by simp) M hq
theorem Ztz {M:List (Int×Int)}{n F:Nat} (h:∀q∈M,q.1≠(n:Int)) (i:Nat):Zaw (fun ka kb:Int=>(ka==kb)) (Zkd M n F (i+1)) (n:Int) 0=((F+i:Nat):Int):=by
 unfold Zkd
 rw[if_neg (show i+1≠0 by omega)]
 exact Zr2 eqI (n:Int) 0 _ (by simp) M [] (fun q hq=>by
  show((n:Int)==q.1)=false
  exact beq_false_of_ne (Ne.symm (h q hq)))
def ZhE (d:Zm) (n j:Nat):Zk:=match (tch d n)[j]? with | some z=>(match d.futures[z.toNat]? with | some f=>f | none=>⟨0,0,0⟩) | none=>⟨0,0,0⟩
theorem Zhe {d:Zm}{n i:Nat} (g:Znv d) (hi:i<nt d n):Zy (tch d n) (i:Int)=some (tch d n)[i]∧Zy d.futures (tch d n)[i]=some (ZhE d n i)∧(ZhE d n i).user=(n:Int)∧(ZhE d n i).pos=cut d n (i+1)∧ZhE d n i∈d.futures:=by
 obtain⟨f,h1,h2,h3,h4,h5,h6⟩:=ZkY g hi
 have e:ZhE d n i=f:=by
  unfold ZhE
  rw[List.getElem?_eq_getElem hi]
  show(match d.futures[((tch d n)[i]).toNat]? with | some f=>f | none=>⟨0,0,0⟩)=f
  rw[h3]
 rw[e]
 exact⟨h1,h2,h4,h5,h6⟩
theorem Zqz {d:Zm} (g:Znv d) {n i j:Nat} (hij:i<j) (hj:j<nt d n):(ZhE d n i).pos<(ZhE d n j).pos:=by
 obtain⟨_,_,h3,_,_,h5,_⟩:=ZkY g (show i<nt d n by omega)
 obtain⟨_,_,k3,_,_,k5,_⟩:=ZkY g hj
 rw[(Zhe g (show i<nt d n by omega)).2.2.2.1,(Zhe g hj).2.2.2.1]
 have:=List.pairwise_iff_getElem.1 (Znt g n).rise i j (show i<nt d n by omega) hj hij
 have e:∀k (hk:k<nt d n),cut d n (k+1)=Zgj d.futures (tch d n)[k]:=fun k hk=>by
  unfold cut
  rw[if_neg (by omega),Nat.add_sub_cancel,List.getElem?_eq_getElem hk]
 rw[e i (by omega),e j hj]
 exact this
def Zhq (d:Zm) (n k:Nat):List (Zk×Int):=(List.range k).map fun j:Nat=>(ZhE d n j,((ZW d n+j+1:Nat):Int))
theorem Ztr (d:Zm) (n k:Nat):Zhq d n (k+1)=Zhq d n k++[(ZhE d n k,((ZW d n+k+1:Nat):Int))]:=by unfold Zhq;rw[List.range_succ,List.map_append];rfl
theorem Zs3 {a b:Zk} (h:a.user≠b.user∨a.pos≠b.pos):eqF a b=false:=by
 show((a.maker==b.maker)&&((a.user==b.user)&&((a.pos==b.pos)&&true)))=false
 rcases h with h | h
 ·rw[beq_false_of_ne h];simp
 ·rw[beq_false_of_ne h];simp
theorem Zqy {d:Zm} (g:Znv d) {n k:Nat} (hk:k<nt d n) {M:List (Zk×Int)} (h:∀q∈M,q.1.user≠(n:Int)) :
  Zz (fun ka kb:Zk=>((ka.maker==kb.maker)&&((ka.user==kb.user)&&((ka.pos==kb.pos)&&true)))) (M++Zhq d n k) (ZhE d n k) ((ZW d n+(k+1):Nat):Int)=M++Zhq d n (k+1):=by
 rw[Ztr,← List.append_assoc]
 refine ZiC eqF _ _ _ fun q hq=>?_
 have hu:=(Zhe g hk).2.2.1
 rcases List.mem_append.1 hq with hq | hq
 ·exact Zs3 (.inl (by rw[hu];exact Ne.symm (h q hq)))
 ·unfold Zhq at hq
  obtain⟨j,hj,rfl⟩:=List.mem_map.1 hq
  rw[List.mem_range] at hj
  have:=Zqz g hj hk
  exact Zs3 (.inr (by show(ZhE d n k).pos≠(ZhE d n j).pos;omega))
theorem Zvf {d:Zm} (g:Zd5 d) {n:Nat} (hn:n<d.parts.length) {W:List Int}{E:List Zr}{P:List Zj}{M5:List (Int×Int)}{M6:List (Zk×Int)} (hW:W.length≤1000) (hE:E.length≤1000) (hP:P.length=ZW d n)
  (h5:∀q∈M5,q.1≠(n:Int)) (h6:∀q∈M6,q.1.user≠(n:Int)) :
  lp (ZF d (n:Int) (tch d n)) (0,0,M5,M6,W,E,P)=some (M5++[((n:Int),((ZW d n+nt d n:Nat):Int))],M6++Zhq d n (nt d n),W++ZoP d n,E++Zha d n (nt d n),P++ZfE n (nt d n+1)):=by
 obtain⟨x,x1,x2⟩:=Zwf hn
 have hnt:=Zy0 g n
 have hnl:(tch d n).length=nt d n:=rfl
 have hF:=Zjw g n
 have hpl:=g.pl
 have e1:w64 (((tch d n).length:Int)+1)=((nt d n+1:Nat):Int):=by show w64 ((nt d n:Int)+1)=_;rw[ZdX (by omega) (by omega)];omega
 have key:∀(k i:Nat),i+k=nt d n+1→lp (ZF d (n:Int) (tch d n)) (cut d n i,(i:Int),Zkd M5 n (ZW d n) i,M6++Zhq d n (i-1),W++Zkm d n i,E++Zha d n (i-1),P++ZfE n i) =
   some (Zkd M5 n (ZW d n) (nt d n+1),M6++Zhq d n (nt d n),W++ZoP d n,E++Zha d n (nt d n),P++ZfE n (nt d n+1)):=by
  intro k
  induction k with
  | zero=>
   intro i hi
   have:i=nt d n+1:=by omega
   subst this
   rw[Zb2]
   simp only[ZF,e1,ZgU,cond_false]
   rfl
  | succ k ih=>
   intro i hi
   have hi':i<nt d n+1:=by omega
   have b0:=ZBe g.g n i
   have b1:=ZBe g.g n (i+1)
   have lP:(P++ZfE n i).length=ZW d n+i:=by rw[List.length_append,Zpe,hP]
   have l2:(W++Zkm d n i).length≤10000:=by rw[List.length_append,Zq7];omega
   have l3:(E++Zha d n (i-1)).length≤10000:=by rw[List.length_append,ZqM];omega
   have lput:=Ztj (P++ZfE n i) (Zj.mk (n:Int) (i:Int)) (by rw[lP];omega)
   rw[lP] at lput
   have p5:=Zuo (F:=ZW d n) h5 i
   have g5:=Ztz (F:=ZW d n) h5 i
   have w5:w64 (cut d n (i+1)-cut d n i)=cut d n (i+1)-cut d n i:=ZdX (by omega) (by omega)
   have ih':=ih (i+1) (by omega)
   rw[ZtD,ZsF,← List.append_assoc,← List.append_assoc] at ih'
   rw[Zb2]
   have fin:i=nt d n→cut d n (i+1)=x.work:=fun h=>by rw[h,ZAG,x2]
   have node:=fun c=>Zis (Zj.mk (n:Int) (i:Int)) c l2 (show(P++ZfE n i).length≤10000 by rw[lP];omega)
   by_cases hlast:i<nt d n
   ·obtain⟨q1,q2,q3,q4,_⟩:=Zhe g.g hlast
    cases i with
    | zero=>
     simp only[ZF,e1,Zf2 hi',cond_true,x1,Option.bind_some,Zf2 (show 0<(tch d n).length from hlast),q1,q2,q4,node,decide_eq_false (show ¬(0:Int)<((0:Nat):Int) by omega),cond_false,lput,p5,w5,Zan hi' (show nt d n+1<9223372036854775808 by omega)]
     exact ih'
    | succ j=>
     obtain⟨r1,r2,r3,r4,_⟩:=Zhe g.g (show j<nt d n by omega)
     have e2:w64 (((j+1:Nat):Int)-1)=(j:Int):=by rw[ZdX (by omega) (by omega)];omega
     have e3:w64 (((ZW d n+(j+1):Nat):Int)-1)=((ZW d n+j:Nat):Int):=by rw[ZdX (by omega) (by omega)];omega
     have p6:=Zqy g.g (show j<nt d n by omega) h6
     rw[Nat.add_sub_cancel] at l3 ih' ⊢
     rw[Zpj,← List.append_assoc] at ih'
     simp only[ZF,e1,Zf2 hi',cond_true,x1,Option.bind_some,Zf2 (show j+1<(tch d n).length from hlast),q1,q2,q4,node,decide_eq_true (show(0:Int)<((j+1:Nat):Int) by omega),lput,p5,g5,w5,e2,e3,r1,r2,Zk5 _ _ l3,p6,Zan hi' (show nt d n+1<9223372036854775808 by omega)]
     exact ih'
   ·have hin:i=nt d n:=by omega
    have hfin:=fin hin
    rw[hfin] at w5 ih'
    have c3:decide ((i:Int)<((tch d n).length:Int))=false:=decide_eq_false (by have:((tch d n).length:Int)=(nt d n:Int):=rfl;omega)
    cases i with
    | zero=>
     simp only[ZF,e1,Zf2 hi',cond_true,x1,Option.bind_some,c3,node,decide_eq_false (show ¬(0:Int)<((0:Nat):Int) by omega),cond_false,lput,p5,w5,Zan hi' (show nt d n+1<9223372036854775808 by omega)]
     exact ih'
    | succ j=>
     obtain⟨r1,r2,r3,r4,_⟩:=Zhe g.g (show j<nt d n by omega)
     have e2:w64 (((j+1:Nat):Int)-1)=(j:Int):=by rw[ZdX (by omega) (by omega)];omega
     have e3:w64 (((ZW d n+(j+1):Nat):Int)-1)=((ZW d n+j:Nat):Int):=by rw[ZdX (by omega) (by omega)];omega
     have p6:=Zqy g.g (show j<nt d n by omega) h6
     rw[Nat.add_sub_cancel] at l3 ih' ⊢
     rw[Zpj,← List.append_assoc] at ih'
     simp only[ZF,e1,Zf2 hi',cond_true,cond_false,x1,Option.bind_some,c3,node,decide_eq_true (show(0:Int)<((j+1:Nat):Int) by omega),lput,p5,g5,w5,e2,e3,r1,r2,Zk5 _ _ l3,p6,Zan hi' (show nt d n+1<9223372036854775808 by omega)]
     exact ih'
 have:=key (nt d n+1) 0 (by omega)
 simpa [Zkd,Zhq,Zkm,Zha,ZfE,cut] using this
end Go.Proofs.YtnmbdjkbaihicaaGreatDoor
namespace Go.Proofs.YtnmbdjkbaihicaaGreatDoor
open Go Go.Proofs.YtnmbdjkbaihicaaGreatDoorE
set_option linter.unusedVariables false
set_option linter.unusedSimpArgs false
def ZnB (g:Zb5) (a:Int) (T:List Bool):Prop:=∀e∈g.edges,(e.src=a∨bAt T e.src=true)→bAt T e.dst=true
end Go.Proofs.YtnmbdjkbaihicaaGreatDoor
namespace Go.Proofs.YtnmbdjkbaihicaaGreatDoor
open Go Go.Proofs.YtnmbdjkbaihicaaGreatDoorE
set_option linter.unusedVariables false
set_option linter.unusedSimpArgs false
def Zhf (d:Zm) (k:Nat):List (Int×Int):=(List.range k).map fun n:Nat=>((n:Int),(ZW d n:Int))
def ZhL (d:Zm) (k:Nat):List (Int×Int):=(List.range k).map fun n:Nat=>((n:Int),((ZW d n+nt d n:Nat):Int))
def Zfa (d:Zm) (k:Nat):List (Zk×Int):=upto (fun n=>Zhq d n (nt d n)) k
theorem Zs7 (d:Zm) (k:Nat):Zhf d (k+1)=Zhf d k++[((k:Int),(ZW d k:Int))]:=by unfold Zhf;rw[List.range_succ,List.map_append];rfl
theorem ZtX (d:Zm) (k:Nat):ZhL d (k+1)=ZhL d k++[((k:Int),((ZW d k+nt d k:Nat):Int))]:=by unfold ZhL;rw[List.range_succ,List.map_append];rfl
theorem Zu1 (d:Zm) (k:Nat):∀q∈Zhf d k,q.1≠(k:Int):=fun q hq=>by
 unfold Zhf at hq
 obtain⟨j,hj,rfl⟩:=List.mem_map.1 hq
 rw[List.mem_range] at hj
 show(j:Int)≠(k:Int)
 omega
theorem Zsf (d:Zm) (k:Nat):∀q∈ZhL d k,q.1≠(k:Int):=fun q hq=>by
 unfold ZhL at hq
 obtain⟨j,hj,rfl⟩:=List.mem_map.1 hq
 rw[List.mem_range] at hj
 show(j:Int)≠(k:Int)
 omega
theorem ZnN {d:Zm}{k:Nat}{q:Zk×Int} (h:q∈Zfa d k):∃n j,n<k∧j<nt d n∧q=(ZhE d n j,((ZW d n+j+1:Nat):Int)):=by
 unfold Zfa upto at h
 obtain⟨n,hn,hq⟩:=List.mem_flatMap.1 h
 unfold Zhq at hq
 obtain⟨j,hj,rfl⟩:=List.mem_map.1 hq
 exact⟨n,j,List.mem_range.1 hn,List.mem_range.1 hj,rfl⟩
theorem Zug {d:Zm} (g:Znv d) (k:Nat):∀q∈Zfa d k,q.1.user≠(k:Int):=fun q hq=>by
 obtain⟨n,j,hn,hj,rfl⟩:=ZnN hq
 show(ZhE d n j).user≠(k:Int)
 rw[(Zhe g hj).2.2.1]
 omega
theorem Zjo {K W:Type} (eq:K→K→Bool) (z:W) (f:Nat→K) (v:Nat→W) {i:Nat} (h0:eq (f i) (f i)=true) (h1:∀j,j<i→eq (f i) (f j)=false):∀k,i<k→Zaw eq ((List.range k).map fun j=>(f j,v j)) (f i) z=v i
 | 0,h=>absurd h (by omega)
 | k+1,h=>by
  rw[List.range_succ,List.map_append]
  by_cases hk:i<k
  ·rw[Zjg eq (f i) z _ _ ⟨(f i,v i),List.mem_map.2 ⟨i,List.mem_range.2 hk,rfl⟩,h0⟩]
   exact Zjo eq z f v h0 h1 k hk
  ·have:i=k:=by omega
   subst this
   refine Zr2 eq (f i) z (v i) h0 _ [] fun q hq=>?_
   obtain⟨j,hj,rfl⟩:=List.mem_map.1 hq
   exact h1 j (List.mem_range.1 hj)
theorem Zsh {d:Zm}{z:Int} (h:inR d z):Zaw (fun ka kb:Int=>(ka==kb)) (Zhf d d.parts.length) z 0=ZhT d z:=by
 have:=Zjo eqI 0 (fun n:Nat=>(n:Int)) (fun n=>(ZW d n:Int)) (i:=z.toNat) (by simp) (fun j hj=>beq_false_of_ne (by omega)) d.parts.length h.2
 have e:((z.toNat:Nat):Int)=z:=Int.toNat_of_nonneg h.1
 simp only[e] at this
 exact this
theorem ZqV {d:Zm}{z:Int} (h:inR d z):Zaw (fun ka kb:Int=>(ka==kb)) (ZhL d d.parts.length) z 0=ZcX d z:=by
 have:=Zjo eqI 0 (fun n:Nat=>(n:Int)) (fun n=>((ZW d n+nt d n:Nat):Int)) (i:=z.toNat) (by simp) (fun j hj=>beq_false_of_ne (by omega)) d.parts.length h.2
 have e:((z.toNat:Nat):Int)=z:=Int.toNat_of_nonneg h.1
 simp only[e] at this
 refine Eq.trans this ?_
 unfold ZcX
 show _=((ZW d z.toNat+(nt d z.toNat+1):Nat):Int)-1
 omega
theorem Zto {d:Zm} (g:Zd5 d) {f:Zk} (h:f∈d.futures):∃j,j<nt d f.user.toNat∧ZhE d f.user.toNat j=f:=by
 obtain⟨m,hm⟩:=List.getElem?_of_mem h
 have hu:=g.user h
 have e:((f.user.toNat:Nat):Int)=f.user:=Int.toNat_of_nonneg hu.1
 have:=(Znt g.g f.user.toNat).mem (m:Int) |>.2 ⟨m,f,hm,e.symm,rfl⟩
 obtain⟨j,hj,hj2⟩:=List.getElem_of_mem this
 refine⟨j,hj,?_⟩
 unfold ZhE
 rw[List.getElem?_eq_getElem hj]
 show(match d.futures[((tch d f.user.toNat)[j]).toNat]? with | some f=>f | none=>⟨0,0,0⟩)=f
 rw[hj2,Int.toNat_natCast,hm]
theorem ZvY {γ R:Type} (p:Nat→γ→Bool) (out:Nat→γ→R) (fin:R):∀(l:List γ) (i j:Nat) (x:γ),l[j]? = some x→p (i+j) x=true→(∀k y,k<j→l[k]? = some y→p (i+k) y=false)→Zjs p out fin i l=out (i+j) x
 | [],i,j,x,h,_,_=>by cases h
 | y :: l,i,0,x,h,h1,_=>by
  cases h
  unfold Zjs
  rw[Nat.add_zero] at h1
  rw[h1];rfl
 | y :: l,i,j+1,x,h,h1,h2=>by
  unfold Zjs
  have h0:=h2 0 y (by omega) rfl
  rw[Nat.add_zero] at h0
  rw[h0]
  show Zjs p out fin (i+1) l=_
  rw[show i+(j+1)=i+1+j by omega] at h1 ⊢
  exact ZvY p out fin l (i+1) j x h h1 fun k z hk hz=>by
   have:=h2 (k+1) z (by omega) hz
   rwa [show i+(k+1)=i+1+k by omega] at this
theorem ZvF {d:Zm} (g:Zd5 d) {f:Zk} (h:f∈d.futures) {j:Nat} (hj:j<nt d f.user.toNat) (he:ZhE d f.user.toNat j=f):ZqP d f=((ZW d f.user.toNat+j+1:Nat):Int):=by
 have pos:∀k (hk:k<nt d f.user.toNat),Zgj d.futures (tch d f.user.toNat)[k]=(ZhE d f.user.toNat k).pos:=fun k hk=>by
  rw[(Zhe g.g hk).2.2.2.1]
  unfold cut
  rw[if_neg (by omega),Nat.add_sub_cancel,List.getElem?_eq_getElem hk]
 unfold ZqP
 rw[ZvY (fun _ z=>Zgj d.futures z==f.pos) (fun i _=>ZhT d f.user+(i:Int)+1) (-1) (tch d f.user.toNat) 0 j _ (List.getElem?_eq_getElem hj) (by show(Zgj d.futures (tch d f.user.toNat)[j]==f.pos)=true;rw[pos j hj,he];simp) (fun k y hk hy=>by
  have hk2:k<nt d f.user.toNat:=by omega
  have hy2:(tch d f.user.toNat)[k]=y:=Option.some.inj ((List.getElem?_eq_getElem hk2).symm.trans hy)
  have:=Zqz g.g hk hj
  rw[he] at this
  show(Zgj d.futures y==f.pos)=false
  rw[← hy2,pos k hk2]
  exact beq_false_of_ne (by omega))]
 unfold ZhT
 omega
theorem Ztp (f:Zk):eqF f f=true:=by simp[eqF]
theorem ZwW {d:Zm} (g:Zd5 d) {f:Zk} (h:f∈d.futures):Zaw (fun ka kb:Zk=>((ka.maker==kb.maker)&&((ka.user==kb.user)&&((ka.pos==kb.pos)&&true)))) (Zfa d d.parts.length) f 0=ZqP d f:=by
 obtain⟨j,hj,he⟩:=Zto g h
 have hu:=g.user h
 have eu:((f.user.toNat:Nat):Int)=f.user:=Int.toNat_of_nonneg hu.1
 have key:∀k,f.user.toNat<k→Zaw eqF (Zfa d k) f 0=ZqP d f:=by
  intro k
  induction k with
  | zero=>intro hk;exact absurd hk (by omega)
  | succ k ih=>
   intro hk
   rw[show Zfa d (k+1)=Zfa d k++Zhq d k (nt d k) from ZdW _ k]
   by_cases hlt:f.user.toNat<k
   ·rw[Zjg eqF f 0 _ _ ⟨(f,((ZW d f.user.toNat+j+1:Nat):Int)),?_,Ztp f⟩]
    ·exact ih hlt
    ·unfold Zfa upto
     refine List.mem_flatMap.2 ⟨f.user.toNat,List.mem_range.2 hlt,?_⟩
     unfold Zhq
     exact List.mem_map.2 ⟨j,List.mem_range.2 hj,by rw[he]⟩
   ·have hk2:k=f.user.toNat:=by omega
    subst hk2
    rw[ZiE eqF f 0 _ _ (fun q hq=>by
     obtain⟨n,i,hn,hi,rfl⟩:=ZnN hq
     refine Zs3 (.inl ?_)
     show f.user≠(ZhE d n i).user
     rw[(Zhe g.g hi).2.2.1]
     omega)]
    have:=Zjo eqF 0 (fun i=>ZhE d f.user.toNat i) (fun i=>((ZW d f.user.toNat+i+1:Nat):Int)) (i:=j) (Ztp _) (fun i hi=>by
     have:=Zqz g.g hi hj
     exact Zs3 (.inr (by omega))) (nt d f.user.toNat) hj
    rw[ZvF g h hj he]
    rw[he] at this
    exact this
 exact key d.parts.length hu.2
theorem Zvj {d:Zm} (g:Zd5 d) (hc:∀n:Nat,ZdI d (n:Int)=some (tch d n)):lp (Zdv d) (0,[],[],[],[],[],[])=some (Zid d d.parts.length,Zg3 d d.parts.length,Zdl d d.parts.length,Zhf d d.parts.length,ZhL d d.parts.length,Zfa d d.parts.length):=by
 have hpl:=g.pl
 have key:∀(k i:Nat),i+k=d.parts.length→lp (Zdv d) ((i:Int),Zid d i,Zg3 d i,Zdl d i,Zhf d i,ZhL d i,Zfa d i)=some (Zid d d.parts.length,Zg3 d d.parts.length,Zdl d d.parts.length,Zhf d d.parts.length,ZhL d d.parts.length,Zfa d d.parts.length):=by
  intro k
  induction k with
  | zero=>
   intro i hi
   have:i=d.parts.length:=by omega
   subst this
   rw[Zb2]
   simp only[Zdv,ZgU,cond_false]
  | succ k ih=>
   intro i hi
   have hi':i<d.parts.length:=by omega
   have hF:=Zjw g i
   have h1:=Zny d i
   have l1:(Zid d i).length≤1000:=by rw[Zk1];omega
   have l2:(Zg3 d i).length≤1000:=by omega
   have l3:(Zdl d i).length≤1000:=by rw[ZdM];omega
   have ih':=ih (i+1) (by omega)
   rw[show Zg3 d (i+1)=Zg3 d i++Zha d i (nt d i) from ZdW _ i,show Zid d (i+1)=Zid d i++ZoP d i from ZdW _ i,show Zdl d (i+1)=Zdl d i++ZfE i (nt d i+1) from ZdW _ i,Zs7,ZtX,show Zfa d (i+1)=Zfa d i++Zhq d i (nt d i) from ZdW _ i] at ih'
   have pe:=Zxc g hi' (hc i) (ZhL d i) (Zfa d i) l1 l2 l3
   rw[Zvf g hi' l1 l2 (ZdM d i) (Zsf d i) (Zug g.g i),Option.bind_some] at pe
   have p4:Zz (fun ka kb:Int=>(ka==kb)) (Zhf d i) (i:Int) ((Zdl d i).length:Int)=Zhf d i++[((i:Int),(ZW d i:Int))]:=by
    rw[ZdM]
    exact ZiC eqI (i:Int) _ _ fun q hq=>beq_false_of_ne (Ne.symm (Zu1 d i q hq))
   have p5:Zz (fun ka kb:Int=>(ka==kb)) (ZhL d i) (i:Int) (ZW d i:Int)=ZhL d i++[((i:Int),(ZW d i:Int))]:=ZiC eqI (i:Int) _ _ fun q hq=>beq_false_of_ne (Ne.symm (Zsf d i q hq))
   have lput:=Ztj (Zdl d i) (Zj.mk (i:Int) 0) (by omega)
   rw[ZdM] at lput
   rw[Zb2]
   by_cases h0:0<nt d i
   ·rw[decide_eq_true h0] at pe
    simp only[Zdv,Zf2 hi',cond_true,pe,Option.bind_some,p4,Zan hi' (show d.parts.length<9223372036854775808 by omega)]
    exact ih'
   ·have hz:nt d i=0:=by omega
    rw[decide_eq_false h0] at pe
    simp only[Zdv,Zf2 hi',cond_true,cond_false,pe,Option.bind_some,p4,lput,p5,Zan hi' (show d.parts.length<9223372036854775808 by omega)]
    rw[hz] at ih'
    simpa [Zha,ZfE,Zhq] using ih'
 exact key d.parts.length 0 (by omega)
theorem Zu0 {d:Zm} (g:Zd5 d) {r3:List Int×List Zr×List Zj×List (Int×Int)×List (Int×Int)×List (Zk×Int)} (h4:r3.2.2.2.1=Zhf d d.parts.length) (h5:r3.2.2.2.2.1=ZhL d d.parts.length) (E:List Zr) (hE:E.length≤1000):lp (ZdV d r3) (0,E)=some (E++Zlr d):=
 have he:=g.el
 Zqo d.edges (by omega) (ZdV d r3) (fun e=>⟨ZcX d e.src,ZhT d e.dst⟩) (fun i x s hi hx hb=>by
  have hm:=List.mem_of_getElem? hx
  have ed:∀b c,ZZ b c s=some ():=fun b c=>by unfold ZZ;rw[hb];rfl
  simp only[ZdV,Zf2 hi,cond_true,Zbx hx,Option.bind_some,h4,h5,ZqV (g.src hm),Zsh (g.dst hm),ed,Zan hi (show d.edges.length<9223372036854775808 by omega)]) (fun s=>by simp only[ZdV,ZgU,cond_false]) E (by omega)
theorem Zs5 {d:Zm} (g:Zd5 d) {r3:List Int×List Zr×List Zj×List (Int×Int)×List (Int×Int)×List (Zk×Int)} (h5:r3.2.2.2.2.1=ZhL d d.parts.length) (h6:r3.2.2.2.2.2=Zfa d d.parts.length) (E:List Zr) (hE:E.length≤1000):lp (Zd0 d r3) (0,E)=some (E++Zl0 d):=
 have he:=g.fl
 Zqo d.futures (by omega) (Zd0 d r3) (fun f=>⟨ZcX d f.maker,ZqP d f⟩) (fun i x s hi hx hb=>by
  have hm:=List.mem_of_getElem? hx
  have ed:∀b c,ZZ b c s=some ():=fun b c=>by unfold ZZ;rw[hb];rfl
  simp only[Zd0,Zf2 hi,cond_true,Zbx hx,Option.bind_some,h5,h6,ZqV (g.maker hm),ZwW g hm,ed,Zan hi (show d.futures.length<9223372036854775808 by omega)]) (fun s=>by simp only[Zd0,ZgU,cond_false]) E (by omega)
theorem Zw3 {d:Zm} (g:Zd5 d) (hz:ZkA d) {r3:List Int×List Zr×List Zj×List (Int×Int)×List (Int×Int)×List (Zk×Int)} (h4:r3.2.2.2.1=Zhf d d.parts.length) (h5:r3.2.2.2.2.1=ZhL d d.parts.length) (E:List Zr) (hE:E.length≤1000) :
  lp (ZdZ d r3) (0,Zid d d.parts.length,E,Zdl d d.parts.length)=some (Zli d,E++ZgF d d.barriers.length,Ze5 d):=by
 have hbl:=g.bl
 have hF:=Zjw g d.parts.length
 have hpl:=g.pl
 have key:∀(k i:Nat),i+k=d.barriers.length→lp (ZdZ d r3) ((i:Int),Zid d d.parts.length++List.replicate i 1,E++ZgF d i,Zdl d d.parts.length++ZgL i)=some (Zli d,E++ZgF d d.barriers.length,Ze5 d):=by
  intro k
  induction k with
  | zero=>
   intro i hi
   have:i=d.barriers.length:=by omega
   subst this
   rw[Zb2]
   simp only[ZdZ,ZgU,cond_false]
   rfl
  | succ k ih=>
   intro i hi
   have hi':i<d.barriers.length:=by omega
   have hx:d.barriers[i]? = some d.barriers[i]:=List.getElem?_eq_getElem hi'
   have hm:=List.mem_of_getElem? hx
   have hsz:=hz.i _ hm
   have hB:=Zno hz i
   have lp_:(Zdl d d.parts.length++ZgL i).length=ZW d d.parts.length+i:=by rw[List.length_append,ZdM,Zpc]
   have lw_:(Zid d d.parts.length++List.replicate i (1:Int)).length=ZW d d.parts.length+i:=by rw[List.length_append,Zk1,List.length_replicate]
   have lput:=Ztj (Zdl d d.parts.length++ZgL i) (Zj.mk (-1) (i:Int)) (by rw[lp_];omega)
   rw[lp_,show((ZW d d.parts.length+i:Nat):Int)=Zpq d i from rfl] at lput
   have k4:=fun s=>Zqo d.barriers[i].ins (by omega) (ZeW r3 ((i:Int),Zid d d.parts.length++List.replicate i 1,E++ZgF d i,Zdl d d.parts.length++ZgL i) d.barriers[i]) (fun q=>⟨ZcX d q,Zpq d i⟩) (fun j x s hj hx hb=>by
    have ed:∀b c,ZZ b c s=some ():=fun b c=>by unfold ZZ;rw[hb];rfl
    simp only[ZeW,Zf2 hj,cond_true,Zbx hx,Option.bind_some,h5,ZqV (g.ins _ hm x (List.mem_of_getElem? hx)),lput,ed,Zan hj (show d.barriers[i].ins.length<9223372036854775808 by omega)]) (fun s=>by simp only[ZeW,ZgU,cond_false]) s
   have k5:=fun s=>Zqo d.barriers[i].outs (by omega) (ZeX r3 ((i:Int),Zid d d.parts.length++List.replicate i 1,E++ZgF d i,Zdl d d.parts.length++ZgL i) d.barriers[i]) (fun q=>⟨Zpq d i,ZhT d q⟩) (fun j x s hj hx hb=>by
    have ed:∀b c,ZZ b c s=some ():=fun b c=>by unfold ZZ;rw[hb];rfl
    simp only[ZeX,Zf2 hj,cond_true,Zbx hx,Option.bind_some,h4,Zsh (g.outs _ hm x (List.mem_of_getElem? hx)),lput,ed,Zan hj (show d.barriers[i].outs.length<9223372036854775808 by omega)]) (fun s=>by simp only[ZeX,ZgU,cond_false]) s
   have ih':=ih (i+1) (by omega)
   have eB:ZgF d (i+1)=ZgF d i++ZwU d (Zpq d i) d.barriers[i]:=by
    unfold ZgF
    rw[ZdW,hx]
   rw[eB,ZsY,List.replicate_succ',ZwU,← List.append_assoc,← List.append_assoc,← List.append_assoc,← List.append_assoc] at ih'
   rw[Zb2]
   simp only[ZdZ,Zf2 hi',cond_true,Zbx hx,Option.bind_some,Zis _ _ (show(Zid d d.parts.length++List.replicate i (1:Int)).length≤10000 by rw[lw_];omega) (show(Zdl d d.parts.length++ZgL i).length≤10000 by rw[lp_];omega),k4 (E++ZgF d i) (by rw[List.length_append];omega),
    k5 (E++ZgF d i++List.map (fun q=>⟨ZcX d q,Zpq d i⟩) d.barriers[i].ins) (by simp only[List.length_append,List.length_map];omega),Zan hi' (show d.barriers.length<9223372036854775808 by omega)]
   exact ih'
 have:=key d.barriers.length 0 (by omega)
 simpa [ZgF,upto,ZgL] using this
theorem Zt0 {d:Zm} (g:Zd5 d) (hz:ZkA d):Zta (ZbM d).dag:=by
 have hE:=ZpY g
 have hB:=Zno hz d.barriers.length
 have hbl:=g.bl
 have hF:=Zjw g d.parts.length
 have hpl:=g.pl
 constructor
 ·show(Zli d).length<_
  unfold Zli
  rw[List.length_append,Zk1,List.length_replicate]
  omega
 ·show(Zi2 d).length<_
  unfold Zi2
  rw[List.length_append]
  omega
noncomputable def ZoC (d:Zm):ZlR×Int:=
 bif Zge d==0 then (bif ZjN (ZbM d).dag==0 then (ZbM d,0) else (⟨⟨[],[]⟩,[]⟩,70)) else (⟨⟨[],[]⟩,[]⟩,Zge d)
theorem Zs2 {d:Zm} (hz:ZkA d):ZfV d=some (ZoC d):=by
 have hs:=hz.short
 unfold ZfV ZoC
 rw[ZsB d hs,Option.bind_some]
 by_cases hc:Zge d=0
 ·have g:=ZiM hc
  have hE:=ZpY g
  have h3:(Zg3 d d.parts.length++Zlr d).length≤1000:=by unfold Zko at hE;rw[List.length_append] at hE;omega
  have h4:(Zg3 d d.parts.length).length≤1000:=by rw[List.length_append] at h3;omega
  rw[hc]
  simp only[bne_self_eq_false,cond_false,beq_self_eq_true,cond_true,Zvj g (ZDk hs (by have:=g.fl;omega) hc),Option.bind_some]
  rw[Zu0 g rfl rfl _ h4]
  simp only[Option.bind_some]
  rw[Zs5 g rfl rfl _ h3]
  simp only[Option.bind_some]
  rw[show Zg3 d d.parts.length++Zlr d++Zl0 d=Zko d from rfl,Zw3 g hz rfl rfl _ hE]
  simp only[Option.bind_some]
  rw[show Zb5.mk (Zli d) (Zko d++ZgF d d.barriers.length)=(ZbM d).dag from rfl,Zp4 _ (Zt0 g hz),Option.bind_some]
  by_cases hk:ZjN (ZbM d).dag=0
  ·rw[hk];rfl
  ·rw[beq_false_of_ne hk,bne,beq_false_of_ne hk];rfl
 ·rw[beq_false_of_ne hc,bne,beq_false_of_ne hc];rfl
end Go.Proofs.YtnmbdjkbaihicaaGreatDoor
namespace Go.Proofs.YtnmbdjkbaihicaaGreatDoor
open Go Go.Proofs.YtnmbdjkbaihicaaGreatDoorE
set_option linter.unusedVariables false
set_option linter.unusedSimpArgs false
theorem Zy7 (d:Zm) (g:Znv d) (n:Nat):nt d n=d.futures.countP fun f=>f.user==(n:Int):=by
 show(tch d n).length=_
 rw[ZrC (Znt g n)]
 unfold ZpA
 rw[Zoh]
theorem ZrW {γ:Type} (p q r:γ→Bool) (h:∀x,r x=(p x || q x)) (h2:∀x,¬(p x=true∧q x=true)):∀l:List γ,l.countP r=l.countP p+l.countP q
 | []=>rfl
 | x :: l=>by
  rw[List.countP_cons,List.countP_cons,List.countP_cons,ZrW p q r h h2 l,h x]
  have:=h2 x
  cases hp:p x<;>cases hq:q x<;>simp_all<;>omega
theorem Zoa {d:Zm} (g:Zd5 d):∀k,ZW d k=k+d.futures.countP fun f=>decide (0≤f.user)&&decide (f.user<(k:Int))
 | 0=>by
  have:(d.futures.countP fun f=>decide (0≤f.user)&&decide (f.user<((0:Nat):Int)))=0:=by
   rw[List.countP_eq_zero]
   intro f _
   simp only[Bool.and_eq_true,decide_eq_true_eq]
   omega
  rw[this];rfl
 | k+1=>by
  rw[ZrW (fun f:Zk=>decide (0≤f.user)&&decide (f.user<(k:Int))) (fun f=>f.user==(k:Int)) (fun f=>decide (0≤f.user)&&decide (f.user<((k+1:Nat):Int))) (fun f=>by
   rw[Bool.eq_iff_iff]
   simp only[Bool.and_eq_true,Bool.or_eq_true,decide_eq_true_eq,beq_iff_eq]
   omega) (fun f=>by
   simp only[Bool.and_eq_true,decide_eq_true_eq,beq_iff_eq]
   omega)]
  show ZW d k+(nt d k+1)=_
  rw[Zoa g k,Zy7 d g.g k]
  omega
theorem Znm {d:Zm} (g:Zd5 d):ZW d d.parts.length=d.parts.length+d.futures.length:=by
 rw[Zoa g,List.countP_eq_length.2 fun f hf=>?_]
 have:=g.user hf
 have h1:=this.1
 have h2:=this.2
 simp only[Bool.and_eq_true,decide_eq_true_eq]
 omega
theorem Zre {d:Zm} (g:Zd5 d):(Zli d).length=d.parts.length+d.futures.length+d.barriers.length:=by
 unfold Zli
 rw[List.length_append,Zk1,List.length_replicate,Znm g]
theorem Zqk {d:Zm} (g:Zd5 d):(Ze5 d).length=d.parts.length+d.futures.length+d.barriers.length:=by
 unfold Ze5
 rw[List.length_append,ZdM,Zpc,Znm g]
theorem ZuW (d:Zm):(ZoC d=(ZbM d,0)∧Zge d=0∧ZjN (ZbM d).dag=0)∨((ZoC d).1=⟨⟨[],[]⟩,[]⟩∧(ZoC d).2≠0):=by
 unfold ZoC
 by_cases hc:Zge d=0
 ·rw[hc]
  by_cases hk:ZjN (ZbM d).dag=0
  ·rw[hk];exact .inl ⟨rfl,rfl,rfl⟩
  ·rw[beq_false_of_ne hk];exact .inr ⟨rfl,by show(70:Int)≠0;omega⟩
 ·rw[beq_false_of_ne hc];exact .inr ⟨rfl,hc⟩
end Go.Proofs.YtnmbdjkbaihicaaGreatDoor
namespace Go.Proofs.YtnmbdjkbaihicaaGreatDoor
open Go Go.Proofs.YtnmbdjkbaihicaaGreatDoorE Go.Sort
set_option linter.unusedVariables false
set_option linter.unusedSimpArgs false
set_option maxRecDepth 20000
def ZgT:Int→Int→Option Int:=fun x y=>some (bif decide (x<y) then (-1:Int) else 0)
theorem Zdb (x y:Int):Z9 x y=some (decide (x<y)):=by
 unfold Z9 Zgu
 simp only[bne_self_eq_false,cond_false,Option.bind_some]
 cases decide (x<y)<;>rfl
theorem Zdh (x y:Int):ZgT x y=some (bif decide (x<y) then (-1:Int) else 0):=rfl
theorem Zb4 (b:Bool):decide ((bif b then (-1:Int) else 0)<0)=b:=by cases b<;>rfl
theorem ZG (b:Int):Zbq b=Z5 b ZgT:=by
 funext s
 simp only[Zbq,Z5,Zdb,Zdh,Zb4,Option.bind_some]
theorem ZJ (b:Int) (c:Int):Zbp b c=Zam b c ZgT:=by
 funext s
 simp only[Zbp,Zam,Zdb,Zdh,Zb4,Option.bind_some,ZG]
theorem Z0 (b:Int) (c:Int) (m:List Int):Zav b c m=Z6 b c ZgT m:=by
 simp only[Zav,Z6,Zdb,Zdh,Zb4,Option.bind_some,ZG,ZJ]
theorem Zak (c:Int) (d:Int):ZbZ c d=ZN c d ZgT:=by
 funext s
 simp only[ZbZ,ZN,Zdb,Zdh,Zb4,Option.bind_some,ZG,ZJ,Z0]
theorem Zbe (b:Int) (c:Int) (d:Int) (m:List Int):ZbH b c d m=ZaM b c d ZgT m:=by
 simp only[ZbH,ZaM,Zdb,Zdh,Zb4,Option.bind_some,ZG,ZJ,Z0,Zak]
theorem Zaq (b:Int) (c:Int):ZbW b c=ZaI b c ZgT:=by
 funext s
 simp only[ZbW,ZaI,Zdb,Zdh,Zb4,Option.bind_some,ZG,ZJ,Z0,Zak,Zbe]
theorem Zay (b:Int):ZbY b=ZaL b ZgT:=by
 funext s
 simp only[ZbY,ZaL,Zdb,Zdh,Zb4,Option.bind_some,ZG,ZJ,Z0,Zak,Zbe,Zaq]
theorem Zbv (b:Int) (c:Int) (m:List Int):Za6 b c m=Zai b c ZgT m:=by
 simp only[Za6,Zai,Zdb,Zdh,Zb4,Option.bind_some,ZG,ZJ,Z0,Zak,Zbe,Zaq,Zay]
theorem ZcI (b:Int) (c:Int) (m:List Int) (k:Int):Zbz b c m k=Za1 b c ZgT m k:=by
 simp only[Zbz,Za1,Zdb,Zdh,Zb4,Option.bind_some,ZG,ZJ,Z0,Zak,Zbe,Zaq,Zay,Zbv]
theorem Zc0 (b:Int) (c:Int) (d:Int) (m:List Int) (k:Int):ZbA b c d m k=Za0 b c d ZgT m k:=by
 simp only[ZbA,Za0,Zdb,Zdh,Zb4,Option.bind_some,ZG,ZJ,Z0,Zak,Zbe,Zaq,Zay,Zbv,ZcI]
theorem Zal (b:Int) (m:List Int) (k:Int):ZaO b m k=Zaf b ZgT m k:=by
 simp only[ZaO,Zaf,Zdb,Zdh,Zb4,Option.bind_some,ZG,ZJ,Z0,Zak,Zbe,Zaq,Zay,Zbv,ZcI,Zc0]
theorem Za8 (b:Int) (c:Int) (m:List Int):ZaK b c m=ZV b c ZgT m:=by
 simp only[ZaK,ZV,Zdb,Zdh,Zb4,Option.bind_some,ZG,ZJ,Z0,Zak,Zbe,Zaq,Zay,Zbv,ZcI,Zc0,Zal]
theorem Zar  : Zbw  = Zac :=by
 funext s
 simp only[Zbw,Zac,Zdb,Zdh,Zb4,Option.bind_some,ZG,ZJ,Z0,Zak,Zbe,Zaq,Zay,Zbv,ZcI,Zc0,Zal,Za8]
theorem Zbc (b:Int) (c:Int) (m:List Int):ZaC b c m=ZP b c ZgT m:=by
 simp only[ZaC,ZP,Zdb,Zdh,Zb4,Option.bind_some,ZG,ZJ,Z0,Zak,Zbe,Zaq,Zay,Zbv,ZcI,Zc0,Zal,Za8,Zar]
theorem ZY (c:Int):ZaV c=ZL c ZgT:=by
 funext s s1
 simp only[ZaV,ZL,Zdb,Zdh,Zb4,Option.bind_some,ZG,ZJ,Z0,Zak,Zbe,Zaq,Zay,Zbv,ZcI,Zc0,Zal,Za8,Zar,Zbc]
theorem Z7  : ZaS  = ZU ZgT:=by
 funext s
 simp only[ZaS,ZU,Zdb,Zdh,Zb4,Option.bind_some,ZG,ZJ,Z0,Zak,Zbe,Zaq,Zay,Zbv,ZcI,Zc0,Zal,Za8,Zar,Zbc,ZY]
theorem Zab (c:Int):Zap c=ZH c ZgT:=by
 funext s
 simp only[Zap,ZH,Zdb,Zdh,Zb4,Option.bind_some,ZG,ZJ,Z0,Zak,Zbe,Zaq,Zay,Zbv,ZcI,Zc0,Zal,Za8,Zar,Zbc,ZY,Z7]
theorem Zae (b:Int) (c:Int):ZaU b c=ZT b c ZgT:=by
 funext s
 simp only[ZaU,ZT,Zdb,Zdh,Zb4,Option.bind_some,ZG,ZJ,Z0,Zak,Zbe,Zaq,Zay,Zbv,ZcI,Zc0,Zal,Za8,Zar,Zbc,ZY,Z7,Zab]
theorem Zat (b:Int) (c:Int) (m:List Int):ZaH b c m=ZQ b c ZgT m:=by
 simp only[ZaH,ZQ,Zdb,Zdh,Zb4,Option.bind_some,ZG,ZJ,Z0,Zak,Zbe,Zaq,Zay,Zbv,ZcI,Zc0,Zal,Za8,Zar,Zbc,ZY,Z7,Zab,Zae]
theorem ZcP (b:Int) (c:Int) (d:Int) (m:List Int) (x:Int) (y:Int):ZbP b c d m x y=ZaD b c d m ZgT x y:=by
 funext k
 simp only[ZbP,ZaD,Zdb,Zdh,Zb4,Option.bind_some,ZG,ZJ,Z0,Zak,Zbe,Zaq,Zay,Zbv,ZcI,Zc0,Zal,Za8,Zar,Zbc,ZY,Z7,Zab,Zae,Zat]
theorem Zc7 (b:Int) (d:Int) (m:List Int) (x:Int) (y:Int) (r:Int):ZbI b d m x y r=ZaB b d m ZgT x y r:=by
 funext k
 simp only[ZbI,ZaB,Zdb,Zdh,Zb4,Option.bind_some,ZG,ZJ,Z0,Zak,Zbe,Zaq,Zay,Zbv,ZcI,Zc0,Zal,Za8,Zar,Zbc,ZY,Z7,Zab,Zae,Zat,ZcP]
theorem ZdD (b:Int) (s:Int×Int×List Int):ZbJ b s=ZaE b ZgT s:=by
 funext k
 simp only[ZbJ,ZaE,Zdb,Zdh,Zb4,Option.bind_some,ZG,ZJ,Z0,Zak,Zbe,Zaq,Zay,Zbv,ZcI,Zc0,Zal,Za8,Zar,Zbc,ZY,Z7,Zab,Zae,Zat,ZcP,Zc7]
theorem Zej (b:Int) (r:Int) (s:Int×Int×List Int):ZbL b s r=ZaA b ZgT s r:=by
 funext k
 simp only[ZbL,ZaA,Zdb,Zdh,Zb4,Option.bind_some,ZG,ZJ,Z0,Zak,Zbe,Zaq,Zay,Zbv,ZcI,Zc0,Zal,Za8,Zar,Zbc,ZY,Z7,Zab,Zae,Zat,ZcP,Zc7,ZdD]
theorem Ze7 (b:Int):ZbN b=Za3 b ZgT:=by
 funext s
 simp only[ZbN,Za3,Zdb,Zdh,Zb4,Option.bind_some,ZG,ZJ,Z0,Zak,Zbe,Zaq,Zay,Zbv,ZcI,Zc0,Zal,Za8,Zar,Zbc,ZY,Z7,Zab,Zae,Zat,ZcP,Zc7,ZdD,Zej]
theorem ZgW (b:Int) (c:Int) (d:Int) (m:List Int):Zw b c d m=Zs b c d ZgT m:=by
 simp only[Zw,Zs,Zdb,Zdh,Zb4,Option.bind_some,ZG,ZJ,Z0,Zak,Zbe,Zaq,Zay,Zbv,ZcI,Zc0,Zal,Za8,Zar,Zbc,ZY,Z7,Zab,Zae,Zat,ZcP,Zc7,ZdD,Zej,Ze7]
theorem ZeI (b:Int) (s:Int×Int×List Int):Zbj b s=Zag b ZgT s:=by
 funext k
 simp only[Zbj,Zag,Zdb,Zdh,Zb4,Option.bind_some,ZG,ZJ,Z0,Zak,Zbe,Zaq,Zay,Zbv,ZcI,Zc0,Zal,Za8,Zar,Zbc,ZY,Z7,Zab,Zae,Zat,ZcP,Zc7,ZdD,Zej,Ze7,ZgW]
theorem Zf3 (b:Int) (r:Int) (s:Int×Int×List Int):Zbk b s r=Zah b ZgT s r:=by
 funext k
 simp only[Zbk,Zah,Zdb,Zdh,Zb4,Option.bind_some,ZG,ZJ,Z0,Zak,Zbe,Zaq,Zay,Zbv,ZcI,Zc0,Zal,Za8,Zar,Zbc,ZY,Z7,Zab,Zae,Zat,ZcP,Zc7,ZdD,Zej,Ze7,ZgW,ZeI]
theorem Zhp (b:Int):Zbl b=Zas b ZgT:=by
 funext s
 simp only[Zbl,Zas,Zdb,Zdh,Zb4,Option.bind_some,ZG,ZJ,Z0,Zak,Zbe,Zaq,Zay,Zbv,ZcI,Zc0,Zal,Za8,Zar,Zbc,ZY,Z7,Zab,Zae,Zat,ZcP,Zc7,ZdD,Zej,Ze7,ZgW,ZeI,Zf3]
theorem Ziz (b:Int) (c:Int) (d:Int) (m:List Int):ZM b c d m=ZD b c d ZgT m:=by
 simp only[ZM,ZD,Zdb,Zdh,Zb4,Option.bind_some,ZG,ZJ,Z0,Zak,Zbe,Zaq,Zay,Zbv,ZcI,Zc0,Zal,Za8,Zar,Zbc,ZY,Z7,Zab,Zae,Zat,ZcP,Zc7,ZdD,Zej,Ze7,ZgW,ZeI,Zf3,Zhp]
theorem Zng (b:Int) (c:Int) (x:Int):Zbs b c x=Zaz b c x:=by
 funext s
 simp only[Zbs,Zaz,Zdb,Zdh,Zb4,Option.bind_some,ZG,ZJ,Z0,Zak,Zbe,Zaq,Zay,Zbv,ZcI,Zc0,Zal,Za8,Zar,Zbc,ZY,Z7,Zab,Zae,Zat,ZcP,Zc7,ZdD,Zej,Ze7,ZgW,ZeI,Zf3,Zhp,Ziz]
theorem Zpw (b:Int) (c:Int) (m:List Int):Zbg b c m=Zaj b c ZgT m:=by
 simp only[Zbg,Zaj,Zdb,Zdh,Zb4,Option.bind_some,ZG,ZJ,Z0,Zak,Zbe,Zaq,Zay,Zbv,ZcI,Zc0,Zal,Za8,Zar,Zbc,ZY,Z7,Zab,Zae,Zat,ZcP,Zc7,ZdD,Zej,Ze7,ZgW,ZeI,Zf3,Zhp,Ziz,Zng]
theorem Zx7 (rc:Int→Int→Int→(Int→Int→Option Int)→List Int→Option (List Int)) (rc':Int→Int→Int→List Int→Option (List Int)) (h:∀a b c l,rc' a b c l=rc a b c ZgT l):Zb8 rc'=ZX ZgT rc:=by
 funext s
 simp only[Zb8,ZX,Zdb,Zdh,Zb4,Option.bind_some,h,Z0,Zbe,Zbv,ZcI,Zc0,Zal,Za8,Zbc,Zat,ZgW,Ziz,Zpw]
theorem Zwy:∀(n:Nat) (a b c:Int) (l:List Int),Zbh n a b c l=Z2 n a b c ZgT l
 | 0,_,_,_,_=>rfl
 | n+1,a,b,c,l=>by
  show Zcd (Zbh n) a b c l=ZaF (Z2 n) a b c ZgT l
  unfold Zcd ZaF
  rw[Zx7 (Z2 n) (Zbh n) (Zwy n)]
theorem ZxD (l:List Int):ZcC l=ZaP ZgT l:=by
 unfold ZcC ZaP ZeO Zdy
 simp only[Zwy]
theorem ZwI (l:List Int) (hl:l.length≤1000):∃r:List Int,ZcC l=some r∧r.Perm l∧r.Pairwise (fun x y=>x≤y):=by
 have hc:ZrA ZgT (fun x y=>bif decide (x<y) then (-1:Int) else 0) (fun _=>True):=fun x y _ _=>rfl
 have e:∀x y:Int,ltC (fun x y=>bif decide (x<y) then (-1:Int) else 0) x y=decide (x<y):=fun x y=>Zb4 _
 have hs:SWO (ltC fun x y=>bif decide (x<y) then (-1:Int) else 0):=by
  refine⟨fun x=>?_,fun x y z h1 h2=>?_,fun x y z h1 h2=>?_⟩<;>simp only[e,decide_eq_true_eq,decide_eq_false_iff_not] at *<;>omega
 obtain⟨r,h1,h2,h3⟩:=Zy8 hc hs l hl (fun _ _=>trivial)
 refine⟨r,(ZxD l).trans h1,h2,h3.imp fun {x y} h=>?_⟩
 rw[e,decide_eq_false_iff_not] at h
 omega
end Go.Proofs.YtnmbdjkbaihicaaGreatDoor
namespace Go.Proofs.YtnmbdjkbaihicaaGreatDoor
open Go Go.Proofs.YtnmbdjkbaihicaaGreatDoorE
set_option linter.unusedVariables false
set_option linter.unusedSimpArgs false
theorem ZAW {g:Zb5} (h:Zjb g) (n:Int):∃r,ZiR g n=some r∧(∀z,z∈r↔∃e∈g.edges,e.dst=n∧e.src=z)∧r.length≤256:=by
 have hel:=h.el
 have key:=Zs4 g.edges (by omega) (fun e:Zr=>e.dst==n) (fun _ e=>e.src) (Zhi g fun z0=>ZfM z0 n) (fun i x s hi hx=>by
  simp only[Zhi,Zf2 hi,cond_true,Zbx hx,Option.bind_some,ZfM,Zan hi h.short.e]
  cases x.dst==n<;>rfl) (fun s=>by simp only[Zhi,ZgU,cond_false]) [] (by simp)
 rw[List.nil_append] at key
 have hlen:(sel (fun e:Zr=>e.dst==n) (fun _ e=>e.src) 0 g.edges).length≤256:=Nat.le_trans (ZoM _ _ _ _) hel
 obtain⟨r,h1,h2,_⟩:=ZwI _ (Nat.le_trans hlen (by omega))
 refine⟨r,?_,fun z=>?_,by rw[h2.length_eq];exact hlen⟩
 ·unfold ZiR Zmq
  simp only[key,Option.bind_some,h1]
 ·rw[h2.mem_iff,ZnM]
  constructor
  ·rintro ⟨j,x,hx,h3,h4⟩
   exact⟨x,List.mem_of_getElem? hx,by simpa using h3,h4.symm⟩
  ·rintro ⟨e,he,h3,h4⟩
   obtain⟨j,hj⟩:=List.getElem?_of_mem he
   exact⟨j,e,hj,by simpa using h3,h4.symm⟩
noncomputable def Zx4 (g:Zb5) (a b:Int):Bool:=@decide (Way g a b) (Classical.propDecidable _)
theorem Zys {g:Zb5}{a b:Int} (h:Way g a b):Zx4 g a b=true:=@decide_eq_true _ (Classical.propDecidable _) h
theorem ZxT {g:Zb5}{a b:Int} (h:¬Way g a b):Zx4 g a b=false:=@decide_eq_false _ (Classical.propDecidable _) h
theorem ZpU {g:Zb5} (h:ZjN g=0):∃l,ZhV g=some l∧ZAr g l:=by
 obtain⟨hG,hA⟩:=ZiB h
 obtain⟨l,h1,h2⟩:=ZrG hG hA
 refine⟨l,?_,h2⟩
 unfold ZhV
 rw[Zp4 g hG.short,h,Option.bind_some]
 simp only[bne_self_eq_false,cond_false,h1,Option.bind_some,cond_true]
theorem Zx8 {g:Zb5} (h:ZjN g=0) (a b:Int):Zh6 g a b=some (Zx4 g a b):=by
 obtain⟨hG,hA⟩:=ZiB h
 obtain⟨l,h1,T⟩:=ZpU h
 have hwl:=hG.wl
 have hll:l.length≤64:=by rw[T.len];exact hwl
 have key:∀(k i:Nat) (fr:List Int),i+k=l.length→(∀z,z∈fr↔z=a∨(Way g a z∧∃j,j<i∧l[j]? = some z))→fr.length≤i+1→¬(Way g a b∧∃j,j<i∧l[j]? = some b) →
   lp (ZeC g b l) ((i:Int),fr)=some (bif Zx4 g a b then .inl () else .inr ()):=by
  intro k
  induction k with
  | zero=>
   intro i fr hi hm hl hn
   have:i=l.length:=by omega
   subst this
   rw[Zb2]
   simp only[ZeC,ZgU,cond_false]
   have:¬Way g a b:=fun w=>hn ⟨w,by
    have hd:=w.dst_in hG
    have:=T.all b.toNat hd.2
    rw[show((b.toNat:Nat):Int)=b by omega] at this
    obtain⟨j,hj⟩:=List.getElem?_of_mem this
    exact⟨j,(List.getElem?_eq_some_iff.1 hj).1,hj⟩⟩
   rw[ZxT this];rfl
  | succ k ih=>
   intro i fr hi hm hl hn
   have hi':i<l.length:=by omega
   have hx:l[i]? = some l[i]:=List.getElem?_eq_getElem hi'
   obtain⟨ps,p1,p2,p3⟩:=ZAW hG l[i]
   have inner:=Zh2 ps (Zfz b ((i:Int),fr) l[i] ps) (fun _ p=>fr.any fun x=>p==x) (fun _ _=>(bif l[i]==b then (.inl ():Unit⊕List Int) else .inr (fr++[l[i]]))) (.inr fr) (fun j p hj hp=>by
    simp only[Zfz,Zf2 hj,cond_true,Zbx hp,Option.bind_some,Zup fr p (by omega),ZiN (show fr.length+1≤1073741824 by omega),Zan hj (show ps.length<9223372036854775808 by omega)]
    cases fr.any (fun x=>p==x)<;>cases l[i]==b<;>rfl) (by simp only[Zfz,ZgU];rfl)
   rw[ZfN,ZkB] at inner
   have hw:(ps.any fun p=>fr.any fun x=>p==x)=true↔Way g a l[i]:=by
    rw[List.any_eq_true]
    constructor
    ·rintro ⟨p,hp,hq⟩
     obtain⟨q,hq1,hq2⟩:=List.any_eq_true.1 hq
     have:p=q:=by simpa using hq2
     subst this
     obtain⟨e,he,e1,e2⟩:=(p2 p).1 hp
     rcases(hm p).1 hq1 with hz | ⟨hz,_⟩
     ·rw[← e1,← hz,← e2];exact Way.one he
     ·rw[← e1];exact Way.more (by rw[e2];exact hz) he
    ·intro w
     generalize hni:l[i]=n at w
     cases w with
     | @one e he=>
      exact⟨e.src,(p2 _).2 ⟨e,he,hni.symm,rfl⟩,List.any_eq_true.2 ⟨e.src,(hm _).2 (.inl rfl),by simp⟩⟩
     | @more _ e w he=>
      obtain⟨j,j1,j2⟩:=T.topo i l[i] hx e he hni.symm
      exact⟨e.src,(p2 _).2 ⟨e,he,hni.symm,rfl⟩,List.any_eq_true.2 ⟨e.src,(hm _).2 (.inr ⟨w,j,j1,j2⟩),by simp⟩⟩
   rw[Zb2]
   simp only[ZeC,Zf2 hi',cond_true,Zbx hx,Option.bind_some,p1,inner,Zan hi' (show l.length<9223372036854775808 by omega)]
   by_cases hwi:Way g a l[i]
   ·rw[hw.2 hwi]
    simp only[cond_true]
    by_cases hb:l[i]=b
    ·rw[hb,Zys (hb ▸ hwi)]
     simp only[beq_self_eq_true,cond_true]
    ·rw[beq_false_of_ne hb]
     simp only[cond_false]
     refine ih (i+1) (fr++[l[i]]) (by omega) (fun z=>?_) (by rw[List.length_append];simp only[List.length_cons,List.length_nil];omega) ?_
     ·rw[List.mem_append,List.mem_singleton,hm z]
      constructor
      ·rintro ((hz | ⟨hz,j,j1,j2⟩) | hz)
       ·exact .inl hz
       ·exact .inr ⟨hz,j,by omega,j2⟩
       ·exact .inr ⟨hz ▸ hwi,i,by omega,by rw[hx,hz]⟩
      ·rintro (hz | ⟨hz,j,j1,j2⟩)
       ·exact .inl (.inl hz)
       ·by_cases hj:j<i
        ·exact .inl (.inr ⟨hz,j,hj,j2⟩)
        ·have:j=i:=by omega
         subst this
         rw[hx] at j2
         exact .inr (Option.some.inj j2).symm
     ·rintro ⟨w,j,j1,j2⟩
      by_cases hj:j<i
      ·exact hn ⟨w,j,hj,j2⟩
      ·have:j=i:=by omega
       subst this
       rw[hx] at j2
       exact hb (Option.some.inj j2)
   ·have hf:(ps.any fun p=>fr.any fun x=>p==x)=false:=by
     cases hc:ps.any fun p=>fr.any fun x=>p==x with
     | false=>rfl
     | true=>exact absurd (hw.1 hc) hwi
    rw[hf]
    simp only[cond_false]
    refine ih (i+1) fr (by omega) (fun z=>?_) (by omega) ?_
    ·rw[hm z]
     constructor
     ·rintro (hz | ⟨hz,j,j1,j2⟩)
      ·exact .inl hz
      ·exact .inr ⟨hz,j,by omega,j2⟩
     ·rintro (hz | ⟨hz,j,j1,j2⟩)
      ·exact .inl hz
      ·by_cases hj:j<i
       ·exact .inr ⟨hz,j,hj,j2⟩
       ·have:j=i:=by omega
        subst this
        rw[hx] at j2
        exact absurd (Option.some.inj j2 ▸ hz) hwi
    ·rintro ⟨w,j,j1,j2⟩
     by_cases hj:j<i
     ·exact hn ⟨w,j,hj,j2⟩
     ·have:j=i:=by omega
      subst this
      rw[hx] at j2
      exact hwi (Option.some.inj j2 ▸ w)
 have k0:=key l.length 0 [a] (by omega) (fun z=>by
  rw[List.mem_singleton]
  constructor
  ·exact .inl
  ·rintro (hz | ⟨_,j,j1,_⟩)
   ·exact hz
   ·omega) (by simp) (by rintro ⟨_,j,j1,_⟩;omega)
 unfold Zh6
 rw[h1,Option.bind_some,show lp (ZeC g b l) (0,[a])=_ from k0]
 cases Zx4 g a b<;>rfl
end Go.Proofs.YtnmbdjkbaihicaaGreatDoor
namespace Go.Proofs.YtnmbdjkbaihicaaGreatDoor
open Go Go.Proofs.YtnmbdjkbaihicaaGreatDoorE
set_option linter.unusedVariables false
set_option linter.unusedSimpArgs false
theorem ZtW (d:Zm) {m n:Nat} (h:m≤n):ZW d m≤ZW d n:=by
  induction n with
  | zero => have : m = 0 := by omega
            subst this;exact Nat.le_refl _
  | succ n ih=>
    by_cases hm:m=n+1
    · subst hm;exact Nat.le_refl _
    · have:=ih (by omega)
      show ZW d m≤ZW d n+(nt d n+1)
      omega
theorem ZhX (d:Zm) (n:Nat):ZW d (n+1)=ZW d n+nt d n+1:=by show ZW d n+(nt d n+1)=_;omega
theorem Zfv (d:Zm) {m n j:Nat} (h:m<n) (hj:j≤nt d m):ZW d m+j<ZW d n:=by
  have:=ZtW d (show m+1≤n by omega)
  have:=ZhX d m
  omega
theorem Zur (d:Zm):∀(k i:Nat),i<ZW d k→∃n j,n<k∧j≤nt d n∧i=ZW d n+j
  | 0,i,h=>absurd h (by show ¬i<0;omega)
  | k+1,i,h=>by
    have hs:=ZhX d k
    by_cases hi:i<ZW d k
    · obtain⟨n,j,h1,h2,h3⟩:=Zur d k i hi
      exact⟨n,j,by omega,h2,h3⟩
    · exact⟨k,i-ZW d k,by omega,by omega,by omega⟩
theorem ZrF (d:Zm) {m n i j:Nat} (hi:i≤nt d m) (hj:j≤nt d n) (h:ZW d m+i=ZW d n+j):m=n∧i=j:=by
  rcases Nat.lt_trichotomy m n with hlt | heq | hlt
  · have:=Zfv d hlt hi;omega
  · subst heq;exact⟨rfl,by omega⟩
  · have:=Zfv d hlt hj;omega
theorem Zqg (d:Zm):∀(k n j:Nat),n<k→j≤nt d n→(Zdl d k)[ZW d n+j]? = some ⟨(n:Int),(j:Int)⟩
  | 0,n,j,h,_=>absurd h (by omega)
  | k+1,n,j,h,hj=>by
    rw[show Zdl d (k+1)=Zdl d k++ZfE k (nt d k+1) from ZdW _ k]
    by_cases hn:n<k
    · rw[List.getElem?_append_left (by rw[ZdM];exact Zfv d hn hj)]
      exact Zqg d k n j hn hj
    · have:n=k:=by omega
      subst this
      rw[List.getElem?_append_right (by rw[ZdM];omega),ZdM,Nat.add_sub_cancel_left]
      unfold ZfE
      rw[List.getElem?_map,List.getElem?_range (by omega)]
      rfl
theorem Zt9 {d:Zm}{n j:Nat} (hn:n<d.parts.length) (hj:j≤nt d n):(Ze5 d)[ZW d n+j]? = some ⟨(n:Int),(j:Int)⟩:=by
  unfold Ze5
  rw[List.getElem?_append_left (by rw[ZdM];exact Zfv d hn hj)]
  exact Zqg d _ n j hn hj
theorem Zo9 {d:Zm}{i:Nat}{x:Zj} (h:(Ze5 d)[i]? = some x):(∃n j,n<d.parts.length∧j≤nt d n∧i=ZW d n+j∧x=⟨(n:Int),(j:Int)⟩)∨(ZW d d.parts.length≤i∧x.part = -1):=by
  by_cases hi:i<ZW d d.parts.length
  · obtain⟨n,j,h1,h2,h3⟩:=Zur d _ i hi
    subst h3
    rw[Zt9 h1 h2] at h
    exact .inl ⟨n,j,h1,h2,rfl,(Option.some.inj h).symm⟩
  · refine .inr ⟨by omega,?_⟩
    unfold Ze5 at h
    rw[List.getElem?_append_right (by rw[ZdM];omega)] at h
    have:=List.mem_of_getElem? h
    unfold ZgL at this
    obtain⟨k,_,rfl⟩:=List.mem_map.1 this
    rfl
theorem Zuj (zs:List (Int×Int)) (p:Int) (hp:0≤p) (i:Nat):∀k,i<k→(pc zs i).1=p→(∀j,i<j→j<k→(pc zs j).1≠p)→Zgv zs p k=(i:Int)
  | 0,h,_,_=>absurd h (by omega)
  | k+1,h,h1,h2=>by
    unfold Zgv
    by_cases hk:k=i
    · subst hk
      rw[h1,bne_self_eq_false,decide_eq_false (show ¬p<0 by omega)]
      rfl
    · have:=h2 k (by omega) (by omega)
      rw[bne_iff_ne.2 this]
      exact Zuj zs p hp i k (by omega) h1 fun j a b=>h2 j a (by omega)
theorem Zqm {d:Zm} (g:Zd5 d) {z:Int} (h:inR d z):Zgq (ZbM d) z=some (ZcX d z):=by
  have hlen:(Ze5 d).length≤1000:=by rw[Zqk g];have:=g.pl;have:=g.fl;have:=g.bl;omega
  have ez:((z.toNat:Nat):Int)=z:=Int.toNat_of_nonneg h.1
  have hp:=Zt9 h.2 (Nat.le_refl (nt d z.toNat))
  have hpc:∀(i:Nat) x,(Ze5 d)[i]? = some x→(pc (List.map (fun x:Zj=>(x.part,x.step)) (Ze5 d)) i).1=x.part:=fun i x hx=>by
    unfold pc
    rw[List.getElem?_map,hx]
    rfl
  have hi:ZW d z.toNat+nt d z.toNat<(Ze5 d).length:=(List.getElem?_eq_some_iff.1 hp).1
  have hs:=Zuj (List.map (fun x:Zj=>(x.part,x.step)) (Ze5 d)) z h.1 (ZW d z.toNat+nt d z.toNat) (Ze5 d).length hi (by rw[hpc _ _ hp];exact ez) (fun j h1 h2=>by
    have hy:=List.getElem?_eq_getElem h2
    rw[hpc _ _ hy]
    rcases Zo9 hy with⟨n,m,m1,m2,m3,m4⟩ | ⟨_,m2⟩
    · rw[m4]
      show(n:Int)≠z
      intro hc
      have:n=z.toNat:=by omega
      subst this
      omega
    · rw[m2];have:=h.1;omega)
  unfold Zgq ZtC
  rw[List.length_map,ZiN (show(ZbM d).pieces.length≤1073741824 by show(Ze5 d).length≤_;omega)]
  simp only[cond_true,Option.bind_some]
  show some (Zgv (List.map (fun x:Zj=>(x.part,x.step)) (Ze5 d)) z (Ze5 d).length)=_
  rw[hs]
  unfold ZcX
  rw[ZhX]
  congr 1
  omega
theorem Zxj {d:Zm}{n j:Nat} (hn:n<d.parts.length) (hj:j<nt d n):(⟨((ZW d n+j:Nat):Int),((ZW d n+j+1:Nat):Int)⟩:Zr)∈(ZbM d).dag.edges:=by
  show _∈Zi2 d
  unfold Zi2 Zko Zg3 upto Zha
  simp only[List.mem_append,List.mem_flatMap,List.mem_map,List.mem_range]
  exact .inl (.inl (.inl ⟨n,hn,j,hj,rfl⟩))
theorem ZwL {d:Zm}{e:Zr} (h:e∈d.edges):(⟨ZcX d e.src,ZhT d e.dst⟩:Zr)∈(ZbM d).dag.edges:=by
  show _∈Zi2 d
  unfold Zi2 Zko Zlr
  simp only[List.mem_append,List.mem_map]
  exact .inl (.inl (.inr ⟨e,h,rfl⟩))
theorem ZwH {d:Zm}{f:Zk} (h:f∈d.futures):(⟨ZcX d f.maker,ZqP d f⟩:Zr)∈(ZbM d).dag.edges:=by
  show _∈Zi2 d
  unfold Zi2 Zko Zl0
  simp only[List.mem_append,List.mem_map]
  exact .inl (.inr ⟨f,h,rfl⟩)
def ZyX (g:Zb5) (a b:Int):Prop:=a=b∨Way g a b
theorem ZyX.way {g:Zb5}{a b c:Int} (h:ZyX g a b) (w:Way g b c):Way g a c:=by
  rcases h with rfl | h
  · exact w
  · exact h.trans w
theorem Way.ways {g:Zb5}{a b c:Int} (w:Way g a b) (h:ZyX g b c):Way g a c:=by
  rcases h with rfl | h
  · exact w
  · exact w.trans h
theorem ZyC {d:Zm}{n i:Nat} (hn:n<d.parts.length):∀j,i≤j→j≤nt d n→ZyX (ZbM d).dag ((ZW d n+i:Nat):Int) ((ZW d n+j:Nat):Int)
  | 0,h1,_=>.inl (by rw[show i=0 by omega])
  | j+1,h1,h2=>by
    by_cases hi:i=j+1
    · exact .inl (by rw[hi])
    · exact .inr ((ZyC hn j (by omega) (by omega)).way (Way.one (Zxj hn (show j<nt d n by omega))))
theorem ZCE {d:Zm}{z:Int} (h:inR d z):ZyX (ZbM d).dag (ZhT d z) (ZcX d z):=by
  have:=ZyC h.2 (nt d z.toNat) (Nat.zero_le _) (Nat.le_refl _)
  rw[Nat.add_zero] at this
  unfold ZhT ZcX
  rw[ZhX]
  rwa [show(((ZW d z.toNat+nt d z.toNat+1:Nat):Int)-1)=((ZW d z.toNat+nt d z.toNat:Nat):Int) by omega]
end Go.Proofs.YtnmbdjkbaihicaaGreatDoor
namespace Go.Proofs.YtnmbdjkbaihicaaGreatDoor
open Go Go.Proofs.YtnmbdjkbaihicaaGreatDoorE
set_option linter.unusedVariables false
set_option linter.unusedSimpArgs false
def u32 (n:Int):Int:=n % 4294967296
theorem Zqc (n:Int):0≤u32 n∧u32 n<4294967296:=by unfold u32;omega
theorem ZqC (n:Int):IntKind.u32.wrap n=u32 n:=by
 unfold IntKind.wrap u32
 rfl
theorem Zmp (n:Int):Zd7 n=some (u32 n):=by
 unfold Zd7
 rw[ZqC]
def Zlm (op:Int) (out v:Int):Int:=if op=2 then u32 (out+v) else if op=3 then u32 (out*v) else if op=4 then (bif decide (out<v) then v else out) else u32 (u32 (out*31)+v)
theorem Zty {op out v:Int} (h:0≤out∧out<4294967296) (hv:0≤v∧v<4294967296):0≤Zlm op out v∧Zlm op out v<4294967296:=by
 unfold Zlm
 split
 ·exact Zqc _
 split
 ·exact Zqc _
 split
 ·cases decide (out<v)<;>simp[h,hv]
 ·exact Zqc _
def ZoK (op:Int):Int→List Int→Int
 | out,[]=>out
 | out,v :: l=>ZoK op (Zlm op out (u32 v)) l
theorem Zl9 (op:Int):∀(l:List Int) (out:Int),0≤out∧out<4294967296→0≤ZoK op out l∧ZoK op out l<4294967296
 | [],out,h=>h
 | v :: l,out,h=>Zl9 op l _ (Zty h (Zqc v))
theorem ZpI (op:Int) (l:List Int) (step:Int×Int→Option ((Int×Int)⊕Int))
  (h1:∀(i:Nat) (x out:Int),i<l.length→l[i]? = some x→0≤out∧out<4294967296→step (out,(i:Int))=some (.inl (Zlm op out (u32 x),((i+1:Nat):Int))))
  (h2:∀out,step (out,(l.length:Int))=some (.inr out)) (out:Int) (ho:0≤out∧out<4294967296):lp step (out,0)=some (ZoK op out l):=by
 have key:∀k i:Nat,i+k=l.length→∀out,0≤out∧out<4294967296→lp step (out,(i:Int))=some (ZoK op out (l.drop i)):=by
  intro k
  induction k with
  | zero=>
   intro i hi out ho
   have:i=l.length:=by omega
   subst this
   rw[Zb2,h2,List.drop_length]
   rfl
  | succ k ih=>
   intro i hi out ho
   have hi':i<l.length:=by omega
   rw[Zb2,h1 i l[i] out hi' (List.getElem?_eq_getElem hi') ho,List.drop_eq_getElem_cons hi']
   exact ih (i+1) (by omega) _ (Zty ho (Zqc _))
 have:=key l.length 0 (by omega) out ho
 rwa [List.drop_zero] at this
theorem ZAt (a b:Int):Zhv a b=some (Zlm 2 a b):=by unfold Zhv;rw[ZqC];rfl
theorem ZAH (a b:Int):ZhC a b=some (Zlm 3 a b):=by unfold ZhC;rw[ZqC];rfl
theorem ZAa (a b:Int):ZhB a b=some (Zlm 4 a b):=by unfold ZhB;rfl
theorem ZA8 (a b:Int):ZhG a b=some (Zlm 5 a b):=by unfold ZhG;rw[ZqC,ZqC];rfl
def places (l:List Int) (k:Nat):List (Int×Int):=(List.range k).map fun i:Nat=>((i:Int),(l[i]?).getD 0)
theorem Zpp (l:List Int) (k:Nat):places l (k+1)=places l k++[((k:Int),(l[k]?).getD 0)]:=by simp[places,List.range_succ]
theorem ZoF (l:List Int) (k:Nat) (j:Int) (hj:j<0∨(k:Int)≤j):∀q∈places l k,eqI j q.1=false:=by
 intro q hq
 simp only[places,List.mem_map,List.mem_range] at hq
 obtain⟨i,hi,rfl⟩:=hq
 show(j==(i:Int))=false
 simp;omega
theorem Zqs (l:List Int):∀(k:Nat) (j:Nat),j<k→Zaw eqI (places l k) (j:Int) 0=(l[j]?).getD 0
 | k+1,j,h=>by
  rw[Zpp]
  by_cases hk:j=k
  ·subst hk
   rw[ZiE eqI _ _ _ _ (ZoF l j j (.inr (by omega)))]
   show(bif ((j:Int)==(j:Int)) then _ else _)=_
   rw[beq_self_eq_true];rfl
  ·rw[Zjg eqI _ _ _ _ ⟨((j:Int),(l[j]?).getD 0),by simp only[places,List.mem_map,List.mem_range];exact⟨j,by omega,rfl⟩,by simp[eqI]⟩]
   exact Zqs l k j (by omega)
theorem Zz7 (l:List Int) (hl:l.length≤1000):lp (Zgm l) (0,([]:List (Int×Int)))=some (places l l.length):=by
 have key:∀k i:Nat,i+k=l.length→lp (Zgm l) ((i:Int),places l i)=some (places l l.length):=by
  intro k
  induction k with
  | zero=>
   intro i hi
   have:i=l.length:=by omega
   subst this
   rw[Zb2]
   simp only[Zgm,ZgU,cond_false]
  | succ k ih=>
   intro i hi
   have hi':i<l.length:=by omega
   have hx:l[i]? = some l[i]:=List.getElem?_eq_getElem hi'
   have e:=ZiC eqI (i:Int) l[i] (places l i) (ZoF l i i (.inr (by omega)))
   have ih':=ih (i+1) (by omega)
   rw[Zpp,hx] at ih'
   rw[Zb2]
   simp only[Zgm,Zf2 hi',Zbx hx,Option.bind_some,cond_true,Zan hi' (show l.length<9223372036854775808 by omega),e]
   exact ih'
 exact key l.length 0 (by omega)
def opV (p:Zaa) (input vals:List Int):Int:=
 if p.op=0 then (if p.arg<0∨(input.length:Int)≤p.arg then 0 else u32 ((input[p.arg.toNat]?).getD 0)) else
 if p.op=1 then u32 p.arg else if p.op<0∨5<p.op then 0 else ZoK p.op (if p.op=3 then 1 else if p.op=5 then 7 else 0) vals
theorem ZzP (p:Zaa) (input vals:List Int) (h1:input.length≤1000) (h2:vals.length≤1000):ZkR p input vals=some (opV p input vals):=by
 have hl:vals.length<9223372036854775808:=by omega
 have fin:∀x:Int,0≤x∧x<4294967296→(some x).bind (fun r=>some (w64 r))=some x:=fun x h=>by
  show some (w64 x)=some x
  rw[ZdX (by omega) (by omega)]
 unfold ZkR opV
 by_cases c0:p.op=0
 ·rw[c0,beq_self_eq_true,if_pos rfl]
  simp only[cond_true]
  rw[Zz7 input h1]
  simp only[Option.bind_some,Zmp]
  by_cases c:p.arg<0∨(input.length:Int)≤p.arg
  ·rw[if_pos c,Zpn eqI _ _ _ (ZoF input input.length p.arg c)]
   rfl
  ·rw[if_neg c]
   obtain⟨j,hj⟩:∃j:Nat,p.arg=(j:Int):=⟨p.arg.toNat,by omega⟩
   rw[hj,Zqs input input.length j (by omega),Int.toNat_natCast]
   exact fin _ (Zqc _)
 rw[show(p.op==0)=false by simpa using c0,if_neg c0]
 by_cases c1:p.op=1
 ·rw[c1,if_pos rfl]
  simp only[cond_false,beq_self_eq_true,cond_true,Zmp]
  exact fin _ (Zqc _)
 rw[show(p.op==1)=false by simpa using c1,if_neg c1]
 simp only[cond_false]
 by_cases c2:p.op<0
 ·rw[decide_eq_true c2,if_pos (.inl c2)];rfl
 by_cases c3:5<p.op
 ·rw[decide_eq_false c2,decide_eq_true c3,if_pos (.inr c3)];rfl
 rw[decide_eq_false c2,decide_eq_false c3,if_neg (by omega),ZdX (by omega) (by omega),decide_eq_true (show 0≤p.op-2 by omega),decide_eq_true (show p.op-2<4 by omega)]
 have hw:ZjX=some ():=rfl
 simp only[cond_false,hw,Option.bind_some,Bool.and_self,cond_true]
 have h4:p.op=2∨p.op=3∨p.op=4∨p.op=5:=by omega
 rcases h4 with h | h | h | h<;>rw[h]
 ·have:=ZpI 2 vals (Zgo vals) (fun i x out hi hx ho=>by
   simp only[Zgo,Zf2 hi,Zbx hx,Option.bind_some,cond_true,Zan hi hl,Zmp,ZAt]) (fun out=>by simp only[Zgo,ZgU];rfl) 0 (by omega)
  show(lp (Zgo vals) (0,0)).bind _=_
  rw[this]
  exact fin _ (Zl9 _ _ _ (by omega))
 ·have:=ZpI 3 vals (Zfh vals) (fun i x out hi hx ho=>by
   simp only[Zfh,Zf2 hi,Zbx hx,Option.bind_some,cond_true,Zan hi hl,Zmp,ZAH]) (fun out=>by simp only[Zfh,ZgU];rfl) 1 (by omega)
  show(lp (Zfh vals) (1,0)).bind _=_
  rw[this]
  exact fin _ (Zl9 _ _ _ (by omega))
 ·have:=ZpI 4 vals (Zfj vals) (fun i x out hi hx ho=>by
   simp only[Zfj,Zf2 hi,Zbx hx,Option.bind_some,cond_true,Zan hi hl,Zmp,ZAa]) (fun out=>by simp only[Zfj,ZgU];rfl) 0 (by omega)
  show(lp (Zfj vals) (0,0)).bind _=_
  rw[this]
  exact fin _ (Zl9 _ _ _ (by omega))
 ·have:=ZpI 5 vals (Ze4 vals) (fun i x out hi hx ho=>by
   simp only[Ze4,Zf2 hi,Zbx hx,Option.bind_some,cond_true,Zan hi hl,Zmp,ZA8]) (fun out=>by simp only[Ze4,ZgU];rfl) 7 (by omega)
  show(lp (Ze4 vals) (7,0)).bind _=_
  rw[this]
  exact fin _ (Zl9 _ _ _ (by omega))
end Go.Proofs.YtnmbdjkbaihicaaGreatDoor
namespace Go.Proofs.YtnmbdjkbaihicaaGreatDoor
open Go Go.Proofs.YtnmbdjkbaihicaaGreatDoorE
set_option linter.unusedVariables false
set_option linter.unusedSimpArgs false
def Zkx (d:Zm):Prop:=Zge d=0∧ZjN (ZbM d).dag=0
theorem ZsK {d:Zm} (h:Zkx d):ZoC d=(ZbM d,0):=by unfold ZoC;rw[h.1,h.2];rfl
theorem Zth {d:Zm} (h:¬Zkx d):(ZoC d).1=⟨⟨[],[]⟩,[]⟩∧(ZoC d).2≠0:=by
 rcases ZuW d with⟨_,h2,h3⟩ | h4
 ·exact absurd ⟨h2,h3⟩ h
 ·exact h4
abbrev Zhx (d:Zm):Nat:=(ZbM d).dag.work.length
theorem ZtI {d:Zm} (g:Zd5 d):Zhx d=d.parts.length+d.futures.length+d.barriers.length:=Zre g
theorem ZrS {d:Zm} (g:Zd5 d):(ZbM d).pieces.length=Zhx d:=(Zqk g).trans (Zre g).symm
structure OKM (d:Zm) (m:ZbB):Prop where
 n:m.done.length=Zhx d
 v:m.vals.length=d.parts.length
def va (l:List Int) (p:Int):Int:=match l[p.toNat]? with | some x=>x | none=>0
theorem ZuV {d:Zm}{l:List Int} (o:l.length=d.parts.length) {p:Int} (h:inR d p):Zy l p=some (va l p):=by
 have h2:=h.2
 have e:=List.getElem?_eq_getElem (show p.toNat<l.length by rw[o];exact h2)
 rw[ZnE h.1 e]
 unfold va
 rw[e]
theorem Zvm {d:Zm} (hz:ZkA d):ZjV d=some (@ite _ (Zkx d) (Classical.propDecidable _) (⟨List.replicate (Zhx d) false,List.replicate d.parts.length 0⟩,0) (⟨[],[]⟩,(ZoC d).2)):=by
 unfold ZjV
 rw[Zs2 hz,Option.bind_some]
 by_cases hl:Zkx d
 ·have g:=ZiM hl.1
  have hG:=(ZiB hl.2).1
  have hwl:=hG.wl
  have hpl:=g.pl
  have hp:(ZbM d).pieces.length=Zhx d:=ZrS g
  have hp64:Zhx d≤64:=hwl
  rw[if_pos hl,ZsK hl]
  simp only[bne_self_eq_false,cond_false,hp,decide_eq_true (show(0:Int)≤((Zhx d:Nat):Int) by omega),decide_eq_true (show((Zhx d:Nat):Int)≤lim by show((Zhx d:Nat):Int)≤1073741824;omega),beq_self_eq_true,decide_true,Bool.and_self,cond_true,
   decide_eq_true (show(0:Int)≤(d.parts.length:Int) by omega),decide_eq_true (show(d.parts.length:Int)≤lim by show(d.parts.length:Int)≤1073741824;omega),Int.toNat_natCast]
 ·have hne:=(Zth hl).2
  rw[if_neg hl,bne,beq_false_of_ne hne]
  rfl
def ZhK (d:Zm) (n:Int):Option Nat:=(List.range d.parts.length).find? fun p=>ZcX d (p:Int)==n
theorem Zol {d:Zm}{p:Nat} (h:p<d.parts.length):inR d (p:Int):=⟨by omega,by simpa using h⟩
theorem ZlO {d:Zm}{n:Int}{p:Nat} (h:ZhK d n=some p):p<d.parts.length∧ZcX d (p:Int)=n:=by
 unfold ZhK at h
 have h1:=List.mem_of_find?_eq_some h
 have h2:=List.find?_some h
 exact⟨List.mem_range.1 h1,by simpa using h2⟩
theorem Zjx (d:Zm) (p:Nat):ZcX d (p:Int)=((ZW d p+nt d p:Nat):Int):=by
 unfold ZcX
 rw[Int.toNat_natCast,ZhX]
 omega
theorem Zr8 {d:Zm}{p:Nat} (hp:p<d.parts.length):ZhK d (ZcX d (p:Int))=some p:=by
 cases h:ZhK d (ZcX d (p:Int)) with
 | none=>
  unfold ZhK at h
  have:=List.find?_eq_none.1 h p (List.mem_range.2 hp)
  simp at this
 | some q=>
  obtain⟨h1,h2⟩:=ZlO h
  rw[Zjx,Zjx] at h2
  have:=(ZrF d (Nat.le_refl _) (Nat.le_refl _) (Int.ofNat.inj h2)).1
  rw[this]
noncomputable def ZmJ (d:Zm) (input:List Int) (m:ZbB) (n:Int):ZbB:=
 match ZhK d n with
 | some p=>⟨m.done.set n.toNat true,m.vals.set p (opV (Zks d (p:Int)) input ((ZfJ d (p:Int)).map (va m.vals)))⟩
 | none=>⟨m.done.set n.toNat true,m.vals⟩
end Go.Proofs.YtnmbdjkbaihicaaGreatDoor
namespace Go.Proofs.YtnmbdjkbaihicaaGreatDoor
open Go Go.Proofs.YtnmbdjkbaihicaaGreatDoorE
set_option linter.unusedVariables false
set_option linter.unusedSimpArgs false
theorem ZzQ {l:List Bool} (h1:0<l.length) (h2:l.length≤1000):ZcO l=some ():=by
 unfold ZcO
 rw[show Nat.blt 0 l.length=true by simp[Nat.blt];omega,ZiN (show l.length≤1073741824 by omega)]
 rfl
theorem Zps {d:Zm}{n:Int} (h:∀p,p<d.parts.length→ZcX d (p:Int)≠n):ZhK d n=none:=by
 cases hl:ZhK d n with
 | none=>rfl
 | some p=>
  obtain⟨h1,h2⟩:=ZlO hl
  exact absurd h2 (h p h1)
theorem ZAA {d:Zm} (hz:ZkA d) (hl:Zkx d) (input:List Int) (hi:input.length≤1000) {m:ZbB} (o:OKM d m) {n:Int} (hn:0≤n∧n.toNat<Zhx d):ZhA d (ZbM d) input m n=some (ZmJ d input m n):=by
 have g:=ZiM hl.1
 have hG:=(ZiB hl.2).1
 have hn64:Zhx d≤64:=hG.wl
 have hN:=ZtI g
 have hpl:=g.pl
 have hp1:=g.p1
 have on:=o.n
 have ov:=o.v
 have en:((n.toNat:Nat):Int)=n:=Int.toNat_of_nonneg hn.1
 have hlenP:(Ze5 d).length=Zhx d:=ZrS g
 have hx:(Ze5 d)[n.toNat]? = some (Ze5 d)[n.toNat]:=List.getElem?_eq_getElem (by rw[hlenP];exact hn.2)
 generalize hxx:(Ze5 d)[n.toNat]'(by rw[hlenP];exact hn.2)=x at hx
 have gp:Zy (ZbM d).pieces n=some x:=ZnE hn.1 hx
 unfold ZhA
 simp only[ZzQ (show 0<m.done.length by omega) (by omega),ZAJ (show 0<m.vals.length by omega) (by omega),Zs0 (g:=(ZbM d).dag) on hn,gp,Option.bind_some]
 rcases Zo9 hx with⟨p,j,h1,h2,h3,rfl⟩ | ⟨h1,h2⟩
 ·have hr:=Zol h1
  simp only[decide_eq_false (show ¬((p:Int)<0) by omega),cond_false,Zqm g hr,Option.bind_some]
  by_cases hc:ZcX d (p:Int)=n
  ·obtain⟨hf,ht⟩:=Zo5 d hz.short hl.1 (p:Int)
   have hfl:=Zuq g ht
   have loop:=Zqo (ZfJ d (p:Int)) hfl (ZeZ m (ZfJ d (p:Int))) (va m.vals) (fun i x s hi' hx' hb=>by
    simp only[ZeZ,Zf2 hi',cond_true,Zbx hx',Option.bind_some,ZuV ov (Zlp g ht (List.mem_of_getElem? hx')),hb,Zan hi' (show(ZfJ d (p:Int)).length<9223372036854775808 by omega)]) (fun s=>by simp only[ZeZ,ZgU,cond_false]) [] (by simp)
   rw[List.nil_append] at loop
   have hpp:Zy d.parts (p:Int)=some (Zks d (p:Int)):=by
    unfold Zks
    rw[Int.toNat_natCast,List.getElem?_eq_getElem h1]
    exact Zbx (List.getElem?_eq_getElem h1)
   have hop:=ZzP (Zks d (p:Int)) input ((ZfJ d (p:Int)).map (va m.vals)) hi (by rw[List.length_map];exact hfl)
   have hla:ZhK d n=some p:=by rw[← hc];exact Zr8 h1
   rw[bne,show(ZcX d (p:Int)==n)=true by simpa using hc]
   simp only[Bool.not_true,cond_false,hf,loop,Option.bind_some,hpp,hop,ZuV ov hr,Int.toNat_natCast]
   unfold ZmJ
   rw[hla]
  ·have hla:ZhK d n=none:=Zps fun q hq he=>hc (by
    rw[Zjx] at he ⊢
    have:=(ZrF d (Nat.le_refl _) h2 (show ZW d q+nt d q=ZW d p+j by omega)).1
    subst this
    exact he)
   rw[bne,beq_false_of_ne hc]
   unfold ZmJ
   rw[hla]
   rfl
 ·have hla:ZhK d n=none:=Zps fun q hq he=>by
   rw[Zjx] at he
   have:=Zfv d hq (Nat.le_refl (nt d q))
   omega
  rw[h2]
  unfold ZmJ
  rw[hla]
  rfl
theorem Zv0 {d:Zm} (input:List Int) {m:ZbB} (o:OKM d m) (n:Int):OKM d (ZmJ d input m n):=by
 unfold ZmJ
 cases ZhK d n with
 | none=>exact⟨by rw[List.length_set];exact o.n,o.v⟩
 | some p=>exact⟨by rw[List.length_set];exact o.n,by rw[List.length_set];exact o.v⟩
theorem ZrH {d:Zm} (input:List Int) (m:ZbB) (n:Int):(ZmJ d input m n).done=m.done.set n.toNat true:=by
 unfold ZmJ
 cases ZhK d n<;>rfl
noncomputable def Zsr (d:Zm) (input:List Int) (m:ZbB) (l:List Int):ZbB:=l.foldl (ZmJ d input) m
def Znn (d:Zm):ZbB:=⟨List.replicate (Zhx d) false,List.replicate d.parts.length 0⟩
theorem Zv8 (d:Zm):OKM d (Znn d):=⟨by simp[Znn],by simp[Znn]⟩
theorem Zoq {d:Zm} (hz:ZkA d) (input:List Int) (hi:input.length≤1000):(¬Zkx d→Zgr d input=some ([],(ZoC d).2)) ∧
  (Zkx d→∃l,ZAr (ZbM d).dag l∧Zgr d input=some ((Zsr d input (Znn d) l).vals,0)):=by
 constructor
 ·intro hl
  have hne:=(Zth hl).2
  unfold Zgr
  rw[Zvm hz,if_neg hl,Option.bind_some]
  simp only
  rw[bne,beq_false_of_ne hne]
  rfl
 ·intro hl
  obtain⟨l,h1,T⟩:=ZpU hl.2
  have hG:=(ZiB hl.2).1
  refine⟨l,T,?_⟩
  have hll:l.length≤64:=by rw[T.len];exact hG.wl
  have loop:∀(k i:Nat) (m:ZbB),i+k=l.length→OKM d m→lp (ZfP d input (ZbM d,0) l) ((i:Int),m.done,m.vals)=some ((Zsr d input m (l.drop i)).done,(Zsr d input m (l.drop i)).vals):=by
   intro k
   induction k with
   | zero=>
    intro i m hi' o
    have:i=l.length:=by omega
    subst this
    rw[List.drop_length,Zb2]
    simp only[ZfP,ZgU,cond_false]
    rfl
   | succ k ih=>
    intro i m hi' o
    have hil:i<l.length:=by omega
    have hx:l[i]? = some l[i]:=List.getElem?_eq_getElem hil
    have hin:=T.inn l[i] (List.mem_of_getElem? hx)
    rw[List.drop_eq_getElem_cons hil,Zb2]
    simp only[ZfP,Zf2 hil,cond_true,Zbx hx,Option.bind_some,show ZbB.mk m.done m.vals=m from rfl,ZAA hz hl input hi o hin,Zan hil (show l.length<9223372036854775808 by omega)]
    exact ih (i+1) (ZmJ d input m l[i]) (by omega) (Zv0 input o _)
  have k0:=loop l.length 0 (Znn d) (by omega) (Zv8 d)
  rw[List.drop_zero] at k0
  unfold Zgr
  rw[Zvm hz,if_pos hl,Option.bind_some]
  simp only[bne_self_eq_false,cond_false,Zs2 hz,Option.bind_some,ZsK hl,h1]
  have k1:lp (ZfP d input (ZbM d,0) l) (0,List.replicate (Zhx d) false,List.replicate d.parts.length 0)=_:=k0
  rw[k1]
  rfl
end Go.Proofs.YtnmbdjkbaihicaaGreatDoor
namespace Go.Proofs.YtnmbdjkbaihicaaGreatDoor
open Go Go.Proofs.YtnmbdjkbaihicaaGreatDoorE
set_option linter.unusedVariables false
set_option linter.unusedSimpArgs false
theorem Zqa {d:Zm} (g:Zd5 d) {p q:Int} (ht:Zce d p (Zf6 d p)) (hp:inR d p) (hq:q∈ZfJ d p):Way (ZbM d).dag (ZcX d q) (ZcX d p)∧q≠p:=by
 rcases Zph g ht hq with⟨e,h1,h2,rfl⟩ | ⟨f,h1,h2,rfl⟩
 ·refine⟨?_,by have:=(Znq (g.g.e e h1)).2.2;rw[h2] at this;exact this⟩
  have w:Way (ZbM d).dag (ZcX d e.src) (ZhT d e.dst):=Way.one (ZwL h1)
  rw[h2] at w
  exact w.ways (ZCE hp)
 ·refine⟨?_,by have:=(Znq (g.g.f f h1).1).2.2;rw[h2] at this;exact this⟩
  have w:Way (ZbM d).dag (ZcX d f.maker) (ZqP d f):=Way.one (ZwH h1)
  obtain⟨j,hj,hje⟩:=Zto g h1
  rw[ZvF g h1 hj hje] at w
  have c:=ZyC (i:=j+1) (g.user h1).2 (nt d f.user.toNat) (by omega) (Nat.le_refl _)
  have e:ZW d f.user.toNat+(j+1)=ZW d f.user.toNat+j+1:=by omega
  rw[e] at c
  have w2:=w.ways c
  have e2:ZcX d p=((ZW d f.user.toNat+nt d f.user.toNat:Nat):Int):=by
   rw[← h2]
   unfold ZcX
   rw[ZhX]
   omega
  rw[e2]
  exact w2
structure Zrq (d:Zm) (input:List Int) (m:ZbB):Prop where
 o:OKM d m
 right:∀e∈(ZbM d).dag.edges,bAt m.done e.dst=true→bAt m.done e.src=true
 val:∀p:Nat,p<d.parts.length→bAt m.done (ZcX d (p:Int))=true→va m.vals (p:Int)=opV (Zks d (p:Int)) input ((ZfJ d (p:Int)).map (va m.vals))
theorem Zrq.way {d:Zm}{input:List Int}{m:ZbB} (v:Zrq d input m) {a b:Int} (w:Way (ZbM d).dag a b) (h:bAt m.done b=true):bAt m.done a=true:=by
 induction w with
 | one he=>exact v.right _ he h
 | more _ he ih=>exact ih (v.right _ he h)
theorem ZA9 (d:Zm) (input:List Int):Zrq d input (Znn d):=by
 have no:∀z,bAt (Znn d).done z=false:=fun z=>by
  unfold bAt Znn
  rw[List.getElem?_replicate]
  by_cases h:z.toNat<Zhx d
  ·rw[if_pos h]
  ·rw[if_neg h]
 exact⟨Zv8 d,fun e _ h=>(by rw[no] at h;cases h),fun p _ h=>(by rw[no] at h;cases h)⟩
theorem Ztm {l:List Int}{n:Nat} (hl:l.length=n) {p:Nat} (hp:p<n) (v:Int) {q:Int} (hq:0≤q):va (l.set p v) q=if q=(p:Int) then v else va l q:=by
 unfold va
 rw[List.getElem?_set]
 by_cases h:p=q.toNat
 ·rw[if_pos h,if_pos (by rw[hl];exact hp),if_pos (by omega)]
 ·rw[if_neg h,if_neg (by omega)]
theorem Zsd {d:Zm}{done:List Bool}{i:Nat}:Zkt (ZbM d).dag done i=true↔bAt done (i:Int)=false∧∀e∈(ZbM d).dag.edges,e.dst=(i:Int)→bAt done e.src=true:=by
 unfold Zkt
 rw[Bool.and_eq_true,Bool.not_eq_true',Bool.not_eq_true',List.any_eq_false]
 constructor
 ·rintro ⟨h1,h2⟩
  refine⟨h1,fun e he hd=>?_⟩
  have:=h2 e he
  rw[hd] at this
  simpa using this
 ·rintro ⟨h1,h2⟩
  refine⟨h1,fun e he hc=>?_⟩
  simp only[Bool.and_eq_true,beq_iff_eq,Bool.not_eq_true'] at hc
  rw[h2 e he hc.1] at hc
  cases hc.2
theorem Zzx {d:Zm} (hs:Ziy d) (hl:Zkx d) {input:List Int}{m:ZbB} (v:Zrq d input m) {i:Nat} (hi:i<Zhx d) (hr:Zkt (ZbM d).dag m.done i=true):Zrq d input (ZmJ d input m (i:Int)):=by
 have g:=ZiM hl.1
 have hG:=(ZiB hl.2).1
 obtain⟨r1,r2⟩:=Zsd.1 hr
 have on:=v.o.n
 have ov:=v.o.v
 have hd:∀z,0≤z→bAt (ZmJ d input m (i:Int)).done z=(decide (z=(i:Int)) || bAt m.done z):=fun z hz=>by
  rw[ZrH,Int.toNat_natCast]
  exact Ztb (by rw[on];exact hi) z hz
 refine⟨Zv0 input v.o _,fun e he h=>?_,fun p hp h=>?_⟩
 ·have s0:=(hG.src e he).1
  have d0:=(hG.dst e he).1
  rw[hd e.dst d0,Bool.or_eq_true,decide_eq_true_eq] at h
  rw[hd e.src s0,Bool.or_eq_true]
  rcases h with h | h
  ·exact .inr (r2 e he h)
  ·exact .inr (v.right e he h)
 ·obtain⟨hf,ht⟩:=Zo5 d hs hl.1 (p:Int)
  have hpr:=Zol hp
  have lz:(0:Int)≤ZcX d (p:Int):=by rw[Zjx];omega
  rw[hd _ lz,Bool.or_eq_true,decide_eq_true_eq] at h
  by_cases hc:ZcX d (p:Int)=(i:Int)
  ·have hla:ZhK d (i:Int)=some p:=by rw[← hc];exact Zr8 hp
   unfold ZmJ
   rw[hla]
   simp only
   rw[Ztm ov hp _ (by omega),if_pos rfl]
   congr 1
   refine List.map_congr_left fun q hq=>?_
   have hq0:=(Zlp g ht hq).1
   rw[Ztm ov hp _ hq0,if_neg (Zqa g ht hpr hq).2]
  ·have hdone:bAt m.done (ZcX d (p:Int))=true:=by
    rcases h with h | h
    ·exact absurd h hc
    ·exact h
   have old:=v.val p hp hdone
   cases hla:ZhK d (i:Int) with
   | none=>
    unfold ZmJ
    rw[hla]
    exact old
   | some p'=>
    obtain⟨hp',hlz⟩:=ZlO hla
    unfold ZmJ
    rw[hla]
    simp only
    rw[Ztm ov hp' _ (by omega),if_neg (fun he=>hc (by rw[he];exact hlz)),old]
    congr 1
    refine List.map_congr_left fun q hq=>?_
    have hqr:=Zlp g ht hq
    rw[Ztm ov hp' _ hqr.1,if_neg]
    intro he
    have:=v.way (Zqa g ht hpr hq).1 hdone
    rw[he,hlz,r1] at this
    cases this
def ZA3 (d:Zm) (m:ZbB):Prop:=∀i:Nat,i<Zhx d→bAt m.done (i:Int)=true
theorem Zog {d:Zm} (g:Zd5 d) {p:Nat} (hp:p<d.parts.length):∃i:Nat,i<Zhx d∧ZcX d (p:Int)=(i:Int):=by
 refine⟨ZW d p+nt d p,?_,Zjx d p⟩
 have:=Zfv d hp (Nat.le_refl (nt d p))
 rw[ZtI g,← Znm g]
 omega
theorem ZvO {d:Zm} (hs:Ziy d) (hl:Zkx d) (input:List Int) {l:List Int} (T:ZAr (ZbM d).dag l):Zrq d input (Zsr d input (Znn d) l)∧ZA3 d (Zsr d input (Znn d) l):=by
 have key:∀(k i:Nat) (m:ZbB),i+k=l.length→Zrq d input m→(∀z:Int,0≤z→(bAt m.done z=true↔∃j,j<i∧l[j]? = some z))→Zrq d input (Zsr d input m (l.drop i))∧ZA3 d (Zsr d input m (l.drop i)):=by
  intro k
  induction k with
  | zero=>
   intro i m hi v hd
   have:i=l.length:=by omega
   subst this
   rw[List.drop_length]
   refine⟨v,fun i hi2=>(hd (i:Int) (by omega)).2 ?_⟩
   obtain⟨j,hj⟩:=List.getElem?_of_mem (T.all i hi2)
   exact⟨j,(List.getElem?_eq_some_iff.1 hj).1,hj⟩
  | succ k ih=>
   intro i m hi v hd
   have hil:i<l.length:=by omega
   have hx:l[i]? = some l[i]:=List.getElem?_eq_getElem hil
   generalize hn:l[i]=n at hx
   have nin:=T.inn n (List.mem_of_getElem? hx)
   have en:((n.toNat:Nat):Int)=n:=Int.toNat_of_nonneg nin.1
   have hr:Zkt (ZbM d).dag m.done n.toNat=true:=by
    refine Zsd.2 ⟨?_,fun e he hdst=>?_⟩
    ·rw[en]
     cases hb:bAt m.done n with
     | false=>rfl
     | true=>
      obtain⟨j,j1,j2⟩:=(hd n nin.1).1 hb
      have:=Zsi T.nod j2 hx
      omega
    ·rw[en] at hdst
     exact(hd e.src ((ZiB hl.2).1.src e he).1).2 (T.topo i n hx e he hdst)
   have hs2:=Zzx hs hl v nin.2 hr
   rw[en] at hs2
   rw[List.drop_eq_getElem_cons hil,hn]
   refine ih (i+1) (ZmJ d input m n) (by omega) hs2 fun z hz=>?_
   rw[ZrH,Ztb (by rw[v.o.n];exact nin.2) z hz,Bool.or_eq_true,decide_eq_true_eq,en,hd z hz]
   constructor
   ·rintro (h | ⟨j,j1,j2⟩)
    ·exact⟨i,by omega,by rw[h];exact hx⟩
    ·exact⟨j,by omega,j2⟩
   ·rintro ⟨j,j1,j2⟩
    by_cases hj:j=i
    ·subst hj;rw[hx] at j2;exact .inl (Option.some.inj j2).symm
    ·exact .inr ⟨j,by omega,j2⟩
 have:=key l.length 0 (Znn d) (by omega) (ZA9 d input) (fun z hz=>by
  constructor
  ·intro h
   exfalso
   have:bAt (Znn d).done z=false:=by
    unfold bAt Znn
    rw[List.getElem?_replicate]
    by_cases h:z.toNat<Zhx d
    ·rw[if_pos h]
    ·rw[if_neg h]
   rw[this] at h
   cases h
  ·rintro ⟨j,j1,_⟩;omega)
 rwa [List.drop_zero] at this
end Go.Proofs.YtnmbdjkbaihicaaGreatDoor
namespace Go.Proofs.YtnmbdjkbaihicaaGreatDoor
open Go Go.Proofs.YtnmbdjkbaihicaaGreatDoorE
set_option linter.unusedVariables false
set_option linter.unusedSimpArgs false
def ZBx (d:Zm) (e:Zr):Prop:=∃n j,n<d.parts.length∧j<nt d n∧e=⟨((ZW d n+j:Nat):Int),((ZW d n+(j+1):Nat):Int)⟩
def ZBi (d:Zm) (e:Zr):Prop:=∃s t,s<d.parts.length∧t<d.parts.length∧s≠t∧e=⟨((ZW d s+nt d s:Nat):Int),((ZW d t+0:Nat):Int)⟩
def ZBn (d:Zm) (e:Zr):Prop:=∃m u j,m<d.parts.length∧u<d.parts.length∧m≠u∧j<nt d u∧e=⟨((ZW d m+nt d m:Nat):Int),((ZW d u+(j+1):Nat):Int)⟩
def Zxy (d:Zm) (e:Zr):Prop:=(∃i:Nat,i<ZW d d.parts.length∧e.src=(i:Int))∧∃j:Nat,j<ZW d d.parts.length∧e.dst=(j:Int)
theorem ZBx.inner {d:Zm}{e:Zr} (h:ZBx d e):Zxy d e:=by
 obtain⟨n,j,hn,hj,rfl⟩:=h
 exact⟨⟨_,Zfv d hn (by omega),rfl⟩,⟨_,Zfv d hn (by omega),rfl⟩⟩
theorem ZBi.inner {d:Zm}{e:Zr} (h:ZBi d e):Zxy d e:=by
 obtain⟨n,j,hn,hj,_,rfl⟩:=h
 exact⟨⟨_,Zfv d hn (by omega),rfl⟩,⟨_,Zfv d hj (by omega),rfl⟩⟩
theorem ZBn.inner {d:Zm}{e:Zr} (h:ZBn d e):Zxy d e:=by
 obtain⟨n,j,k,hn,hj,_,hk,rfl⟩:=h
 exact⟨⟨_,Zfv d hn (by omega),rfl⟩,⟨_,Zfv d hj (by omega),rfl⟩⟩
end Go.Proofs.YtnmbdjkbaihicaaGreatDoor
namespace Go.Proofs.YtnmbdjkbaihicaaGreatDoor
open Go Go.Proofs.YtnmbdjkbaihicaaGreatDoorE
set_option linter.unusedVariables false
set_option linter.unusedSimpArgs false
structure ZqS (d x:Zm):Prop where
 p:x.period=d.period
 q:x.deadline=d.deadline
 e:x.edges=d.edges
 f:x.futures=d.futures
 b:x.barriers=d.barriers
 n:x.parts.length=d.parts.length
 w:∀z,ZgK x.parts z=ZgK d.parts z
theorem tlA {d x:Zm} (hf:x.futures=d.futures) (u:Int):∀k i,tl x u i k=tl d u i k
 | 0,i=>rfl
 | k+1,i=>by
  unfold tl Zn2
  rw[hf,tlA hf u k (i+1)]
theorem Zw1 {d x:Zm} (hf:x.futures=d.futures):tch x=tch d:=funext fun n=>tlA hf _ _ _
theorem ZpR {d x:Zm} (hf:x.futures=d.futures):ZW x=ZW d:=funext fun n=>by
 induction n with
 | zero=>rfl
 | succ n ih=>
  show ZW x n+(nt x n+1)=ZW d n+(nt d n+1)
  rw[ih]
  unfold nt
  rw[Zw1 hf]
theorem Zsx {d x:Zm} (hf:x.futures=d.futures):ZhT x=ZhT d:=funext fun z=>by unfold ZhT;rw[ZpR hf]
theorem Zs1 {d x:Zm} (hf:x.futures=d.futures):ZcX x=ZcX d:=funext fun z=>by unfold ZcX;rw[ZpR hf]
theorem ZEz {d x:Zm} (hf:x.futures=d.futures):ZqP x=ZqP d:=funext fun f=>by unfold ZqP;rw[Zsx hf,Zw1 hf,hf]
theorem ZAe {d x:Zm} (hf:x.futures=d.futures):Zha x=Zha d:=funext fun n=>funext fun k=>by unfold Zha;rw[ZpR hf]
theorem ZAg {d x:Zm} (hf:x.futures=d.futures) (k:Nat):Zg3 x k=Zg3 d k:=by unfold Zg3 nt;rw[ZAe hf,Zw1 hf]
theorem ZAP {d x:Zm} (hf:x.futures=d.futures):Zl0 x=Zl0 d:=by unfold Zl0;rw[Zs1 hf,ZEz hf,hf]
theorem ZGk {d x:Zm} (a:ZqS d x):cut x=cut d:=funext fun n=>funext fun i=>by unfold cut;rw[Zw1 a.f,a.f,a.w]
theorem ZuS {d x:Zm} (a:ZqS d x):ZbM x=ZbM d:=by
 have hE:Zlr x=Zlr d:=by unfold Zlr;rw[Zs1 a.f,Zsx a.f,a.e]
 have hB:∀k,ZgF x k=ZgF d k:=fun k=>by unfold ZgF ZwU Zpq;rw[Zs1 a.f,Zsx a.f,ZpR a.f,a.n,a.b]
 have h3:Zi2 x=Zi2 d:=by unfold Zi2 Zko;rw[ZAg a.f,hE,ZAP a.f,hB,a.n,a.b]
 have hW:Zid x=Zid d:=funext fun k=>by
  unfold Zid
  congr 1
  funext n
  unfold ZoP Zkm nt
  rw[ZGk a,Zw1 a.f]
 have hP:Zdl x=Zdl d:=funext fun k=>by unfold Zdl nt;rw[Zw1 a.f]
 unfold ZbM Zli Ze5
 rw[h3,hW,hP,a.n,a.b]
theorem Zzv {d x:Zm} (hf:x.futures=d.futures):Zf6 x=Zf6 d:=funext fun u=>by
 have e:∀r,Zce x u r↔Zce d u r:=fun r=>by
  constructor
  ·rintro ⟨h1,h2⟩;rw[hf] at h1 h2;exact⟨h1,h2⟩
  ·rintro ⟨h1,h2⟩;rw[← hf] at h1 h2;exact⟨h1,h2⟩
 by_cases h:∃r,Zce d u r
 ·obtain⟨r,hr⟩:=h
  rw[Zln hr,Zln ((e r).2 hr)]
 ·have h2:¬∃r,Zce x u r:=fun⟨r,hr⟩=>h ⟨r,(e r).1 hr⟩
  unfold Zf6
  rw[dif_neg h,dif_neg h2]
theorem ZCw {d x:Zm} (a:ZqS d x):ZfJ x=ZfJ d:=funext fun u=>by unfold ZfJ ZrX;rw[Zzv a.f,a.e,a.f]
theorem ZBK {d x:Zm} (a:ZqS d x) (hp:x.parts.any Zea=d.parts.any Zea):Zge x=Zge d:=by
 have hF:ZdS x=ZdS d:=funext fun i=>funext fun f=>by unfold ZdS;rw[a.n,a.w,a.f]
 have hE:ZgO x=ZgO d:=funext fun i=>funext fun e=>by unfold ZgO;rw[a.n,a.e]
 unfold Zge Zlf ZnA
 rw[hp,hF,hE,a.p,a.q,a.n,a.e,a.f,a.b]
theorem ZuK {d x:Zm} (hs:Ziy d) (hl:Zkx d) (a:ZqS d x) {k:Nat} (hk:k<d.parts.length) (hx:∀p:Nat,p<d.parts.length→p≠k→Zks x (p:Int)=Zks d (p:Int)) {input:List Int}{m o:ZbB}
  (v:Zrq d input m) (w:Zrq x input o) (hm:ZA3 d m) (ho:ZA3 x o):∀p:Nat,p<d.parts.length→p≠k→¬Way (ZbM d).dag (ZcX d (k:Int)) (ZcX d (p:Int))→va m.vals (p:Int)=va o.vals (p:Int):=by
 have g:=ZiM hl.1
 obtain⟨l,_,T⟩:=ZpU hl.2
 have gx:=ZuS a
 have ho':∀i:Nat,i<Zhx d→bAt o.done (i:Int)=true:=fun i hi=>ho i (by unfold Zhx;rw[gx];exact hi)
 have key:∀n j:Nat,j<n→∀p:Nat,p<d.parts.length→p≠k→¬Way (ZbM d).dag (ZcX d (k:Int)) (ZcX d (p:Int))→l[j]? = some (ZcX d (p:Int))→va m.vals (p:Int)=va o.vals (p:Int):=by
  intro n
  induction n with
  | zero=>intro j hj;omega
  | succ n ih=>
   intro j hj p hp hpk hnw hxj
   obtain⟨i,hi,hie⟩:=Zog g hp
   obtain⟨hf,ht⟩:=Zo5 d hs hl.1 (p:Int)
   have wv:=w.val p (by rw[a.n];exact hp) (by rw[Zs1 a.f,hie];exact ho' i hi)
   rw[v.val p hp (by rw[hie];exact hm i hi),wv,hx p hp hpk,ZCw a]
   congr 1
   refine List.map_congr_left fun q hq=>?_
   have hqr:=Zlp g ht hq
   have eq:((q.toNat:Nat):Int)=q:=Int.toNat_of_nonneg hqr.1
   have wy:=(Zqa g ht (Zol hp) hq).1
   have pos:∀{a b:Int},Way (ZbM d).dag a b→∀j:Nat,l[j]? = some b→∃k,k<j∧l[k]? = some a:=by
    intro a b w
    induction w with
    | one he=>intro j hj;exact T.topo j _ hj _ he rfl
    | more _ he ih2=>
     intro j hj
     obtain⟨k,k1,k2⟩:=T.topo j _ hj _ he rfl
     obtain⟨k',k3,k4⟩:=ih2 k k2
     exact⟨k',by omega,k4⟩
   obtain⟨c,c1,c2⟩:=pos wy j hxj
   have:=ih c (by omega) q.toNat hqr.2 (fun he=>hnw (by rw[← he,eq];exact wy)) (fun hw=>hnw (by rw[eq] at hw;exact hw.trans wy)) (by rw[eq];exact c2)
   rwa [eq] at this
 intro p hp hpk hnw
 obtain⟨i,hi,hie⟩:=Zog g hp
 obtain⟨j,hj⟩:=List.getElem?_of_mem (T.all i hi)
 exact key (j+1) j (by omega) p hp hpk hnw (by rw[hie];exact hj)
end Go.Proofs.YtnmbdjkbaihicaaGreatDoor
namespace Go.Proofs.YtnmbdjkbaihicaaGreatDoor
open Go Go.Proofs.YtnmbdjkbaihicaaGreatDoorE
set_option linter.unusedVariables false
set_option linter.unusedSimpArgs false
end Go.Proofs.YtnmbdjkbaihicaaGreatDoor
