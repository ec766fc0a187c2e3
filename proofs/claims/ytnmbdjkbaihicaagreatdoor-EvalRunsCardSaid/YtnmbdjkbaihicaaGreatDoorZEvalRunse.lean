/- EvalRuns: part 5 of 7 of the proof. -/
import Derived.Test.YtnmbdjkbaihicaaGreatDoorZEvalRunsd
set_option maxRecDepth 100000
set_option maxHeartbeats 40000000
namespace Go.Proofs.YtnmbdjkbaihicaaGreatDoor
open Go Go.Proofs.YtnmbdjkbaihicaaGreatDoorE
set_option linter.unusedVariables false
set_option linter.unusedSimpArgs false
def Zh4 {γ S:Type} (f:Nat→S→γ→S):Nat→S→List γ→S
 | _,s,[]=>s
 | i,s,x :: l=>Zh4 f (i+1) (f i s x) l
theorem Zvm {γ S T R:Type} (l:List γ) (step:T→Option (T⊕R)) (st:Nat→S→T) (f:Nat→S→γ→S) (fin:S→R) (I:Nat→S→Prop)
  (h1:∀i x s,i<l.length→l[i]? = some x→I i s→step (st i s)=some (.inl (st (i+1) (f i s x)))∧I (i+1) (f i s x))
  (h2:∀s,I l.length s→step (st l.length s)=some (.inr (fin s))) (s:S) (h0:I 0 s) :
  lp step (st 0 s)=some (fin (Zh4 f 0 s l))∧I l.length (Zh4 f 0 s l):=by
 have key:∀(k i:Nat) (s:S),i+k=l.length→I i s→lp step (st i s)=some (fin (Zh4 f i s (l.drop i)))∧I l.length (Zh4 f i s (l.drop i)):=by
  intro k
  induction k with
  | zero=>
   intro i s hi hI
   have:i=l.length:=by omega
   subst this
   rw[List.drop_length,Zaq,h2 s hI]
   exact⟨rfl,hI⟩
  | succ k ih=>
   intro i s hi hI
   have hi':i<l.length:=by omega
   obtain⟨e,hI'⟩:=h1 i l[i] s hi' (List.getElem?_eq_getElem hi') hI
   rw[List.drop_eq_getElem_cons hi',Zaq,e]
   exact ih (i+1) _ (by omega) hI'
 have:=key l.length 0 s (by omega) h0
 rwa [List.drop_zero] at this
def ZgS (w:Int):Bool:=decide (w<0) || decide (1000<w)
def Zov (g:Zal) (i:Nat) (e:Zn):Bool:=!(ZdA g.work.length e.src) || (!(ZdA g.work.length e.dst) || ((e.src==e.dst) || (g.edges.take i).any (Zko e)))
def Zil (g:Zal):Int:=bif decide (64<(g.work.length:Int)) || decide (256<(g.edges.length:Int)) then 40 else bif g.work.any ZgS then 41 else bif ZfV (Zov g) 0 g.edges then 42 else 0
structure Zqr (g:Zal):Prop where
 w:g.work.length<9223372036854775808
 e:g.edges.length<9223372036854775808
theorem Zzx (w:Int):Zdi w=some (ZgS w):=by
 unfold Zdi ZgS
 cases decide (w<0)<;>cases decide (1000<w)<;>rfl
theorem ZBo (a:Int) (l:List Int):ZfI a l=some (ZdA l.length a):=by
 unfold ZfI ZdA
 cases decide (0≤a)<;>cases decide (a<(l.length:Int))<;>rfl
theorem ZDG (g:Zal) (a:Int):Zgg g a=some (ZdA g.work.length a):=by
 unfold Zgg ZdA
 cases decide (0≤a)<;>cases decide (a<(g.work.length:Int))<;>rfl
theorem Zwh (g:Zal) (h:Zqr g):lp (Zev g) 0=some (bif ZfV (Zov g) 0 g.edges then .inl () else .inr ()):=by
 have key:=ZcB g.edges (Zev g) (Zov g) (fun _ _=>.inl ()) (.inr ()) (fun i x hi hx=>by
   have e0:decide ((0:Int)≤(i:Int))=true:=decide_eq_true (by omega)
   have e1:Nat.ble i g.edges.length=true:=Nat.ble_eq_true_of_le (by omega)
   simp only[Zev,Zbo hi,ZR hx,Option.bind_some,ZC hi h.e,cond_true,ZBo,Zov,e0,Int.toNat_natCast,e1,ZtU _ x (ZoD h.e)]
   cases ZdA g.work.length x.src<;>cases ZdA g.work.length x.dst<;>cases (x.src==x.dst)<;>cases (g.edges.take i).any (Zko x)<;>rfl) (by simp only[Zev,ZbO];rfl)
 rw[key,Za2]
theorem Zw9 (g:Zal) (h:Zqr g):ZgH g=some (Zil g):=by
 have k0:=ZcB g.work (ZdY g) (fun _=>ZgS) (fun _ _=>.inl ()) (.inr ()) (fun i x hi hx=>by
   simp only[ZdY,Zbo hi,ZR hx,Option.bind_some,ZC hi h.w,cond_true,ZgS]
   cases decide (x<0)<;>cases decide (1000<x)<;>rfl) (by simp only[ZdY,ZbO];rfl)
 have k2:=ZcB g.edges (Zd2 g) (Zov g) (fun _ _=>.inl ()) (.inr ()) (fun i x hi hx=>by
   have inner:=ZrM g.edges i hi (Zee g (i:Int) x) (Zko x) (.inl ()) (.inr ()) (fun k y hk hy=>by
     simp only[Zee,Zbo hk,ZR hy,Option.bind_some,ZC hk (Nat.lt_trans hi h.e),cond_true,Zko]
     have e1:(y.src==x.src)=(x.src==y.src):=Bool.beq_comm
     have e2:(y.dst==x.dst)=(x.dst==y.dst):=Bool.beq_comm
     rw[e1,e2]
     cases (x.src==y.src)<;>cases (x.dst==y.dst)<;>rfl) (by simp only[Zee,ZbO];rfl)
   simp only[Zd2,Zbo hi,ZR hx,Option.bind_some,ZC hi h.e,cond_true,ZDG,Zov,inner]
   cases ZdA g.work.length x.src<;>cases ZdA g.work.length x.dst<;>cases (x.src==x.dst)<;>cases (g.edges.take i).any (Zko x)<;>rfl) (by simp only[Zd2,ZbO];rfl)
 unfold ZgH Zil
 rw[k0,k2,Za2,Za2,Ze6]
 cases decide (64<(g.work.length:Int))<;>cases decide (256<(g.edges.length:Int))<;>cases g.work.any ZgS<;>cases ZfV (Zov g) 0 g.edges<;>rfl
inductive Way (g:Zal):Int→Int→Prop
 | one {e:Zn}:e∈g.edges→Way g e.src e.dst
 | more {a:Int} {e:Zn}:Way g a e.src→e∈g.edges→Way g a e.dst
theorem Way.trans {g:Zal}{a b c:Int} (h1:Way g a b) (h2:Way g b c):Way g a c:=by
 induction h2 with
 | one he=>exact Way.more h1 he
 | more _ he ih=>exact Way.more (ih h1) he
def ZqZ (g:Zal):Prop:=∀a,¬Way g a a
structure ZfS (g:Zal):Prop where
 wl:g.work.length≤64
 el:g.edges.length≤256
 w:∀x∈g.work,0≤x∧x≤1000
 src:∀e∈g.edges,0≤e.src∧e.src.toNat<g.work.length
 dst:∀e∈g.edges,0≤e.dst∧e.dst.toNat<g.work.length
theorem ZfS.short {g:Zal} (h:ZfS g):Zqr g:=⟨by have:=h.wl;omega,by have:=h.el;omega⟩
theorem Zty {n:Nat}{a:Int} (h:ZdA n a=true):0≤a∧a.toNat<n:=by
 unfold ZdA at h
 simp only[Bool.and_eq_true,decide_eq_true_eq] at h
 omega
theorem ZrO {g:Zal} (h:Zil g=0):ZfS g:=by
 unfold Zil at h
 cases h1:decide (64<(g.work.length:Int)) with
 | true=>rw[h1] at h;simp at h
 | false=>
 cases h2:decide (256<(g.edges.length:Int)) with
 | true=>rw[h1,h2] at h;simp at h
 | false=>
 cases h3:g.work.any ZgS with
 | true=>rw[h1,h2,h3] at h;simp at h
 | false=>
 cases h4:ZfV (Zov g) 0 g.edges with
 | true=>rw[h1,h2,h3,h4] at h;simp at h
 | false=>
 have hE:∀e∈g.edges,∃i,Zov g i e=false:=fun e he=>by
  obtain⟨i,hi⟩:=List.getElem?_of_mem he
  refine⟨i,?_⟩
  cases hb:Zov g i e with
  | false=>rfl
  | true=>rw[(Zi9 _ _ 0).2 ⟨i,e,hi,by simpa using hb⟩] at h4;cases h4
 refine⟨by have:=of_decide_eq_false h1;omega,by have:=of_decide_eq_false h2;omega,fun x hx=>?_,fun e he=>?_,fun e he=>?_⟩
 ·have:=List.any_eq_false.1 h3 x hx
  unfold ZgS at this
  simp only[Bool.or_eq_true,decide_eq_true_eq,not_or] at this
  omega
 ·obtain⟨i,hi⟩:=hE e he
  unfold Zov at hi
  simp only[Bool.or_eq_false_iff,Bool.not_eq_false'] at hi
  exact Zty hi.1
 ·obtain⟨i,hi⟩:=hE e he
  unfold Zov at hi
  simp only[Bool.or_eq_false_iff,Bool.not_eq_false'] at hi
  exact Zty hi.2.1
theorem Way.src_in {g:Zal} (h:ZfS g) {a b:Int} (w:Way g a b):0≤a∧a.toNat<g.work.length:=by
 induction w with
 | one he=>exact h.src _ he
 | more _ _ ih=>exact ih
theorem ZvC {g:Zal} (hg:ZqZ g):∀(n:Nat) (S:List Int),S.length≤n→S≠[]→∃m∈S,∀e∈g.edges,e.dst=m→e.src∉S:=by
 intro n
 induction n with
 | zero=>intro S h1 h2;exact absurd (List.length_eq_zero_iff.1 (by omega)) h2
 | succ n ih=>
  intro S h1 h2
  obtain⟨m,hm⟩:=List.exists_mem_of_ne_nil S h2
  classical
  by_cases hS:(S.filter fun x=>decide (Way g x m))=[]
  ·refine⟨m,hm,fun e he hd hs=>?_⟩
   have:e.src∈S.filter fun x=>decide (Way g x m):=List.mem_filter.2 ⟨hs,decide_eq_true (hd ▸ Way.one he)⟩
   rw[hS] at this
   cases this
  ·have hlt:(S.filter fun x=>decide (Way g x m)).length<S.length:=by
    refine Nat.lt_of_le_of_ne (List.length_filter_le _ _) fun he=>?_
    have:=List.length_filter_eq_length_iff.1 he m hm
    exact hg m (of_decide_eq_true this)
   obtain⟨k,hk,hk2⟩:=ih _ (by omega) hS
   obtain⟨k1,k2⟩:=List.mem_filter.1 hk
   refine⟨k,k1,fun e he hd hs=>hk2 e he hd (List.mem_filter.2 ⟨hs,decide_eq_true ?_⟩)⟩
   exact(hd ▸ Way.one he:Way g e.src k).trans (of_decide_eq_true k2)
def bAt (l:List Bool) (z:Int):Bool:=match l[z.toNat]? with | some b=>b | none=>false
def Zgt (g:Zal) (done:List Bool) (i:Nat):Bool:=!(bAt done (i:Int)) && !(g.edges.any fun e=>(e.dst==(i:Int)) && !(bAt done e.src))
def ZqH (g:Zal) (done:List Bool):Option Nat:=ZiI (fun i _=>Zgt g done i) (fun i _=>some i) none 0 g.work
def ZpS (g:Zal):Nat→List Int→List Bool→Option (List Int)
 | 0,out,_=>some out
 | k+1,out,done=>(match ZqH g done with | some i=>ZpS g k (out++[(i:Int)]) (done.set i true) | none=>none)
theorem Zpl {γ R S:Type} (p:Nat→γ→Bool) (out:Nat→γ→R) (fin:R) (F:R→S):∀(l:List γ) (i:Nat),F (ZiI p out fin i l)=ZiI p (fun i x=>F (out i x)) (F fin) i l
 | [],i=>rfl
 | x :: l,i=>by
  unfold ZiI
  cases p i x with
  | true=>rfl
  | false=>exact Zpl p out fin F l (i+1)
theorem ZtS {γ:Type} (p:Nat→γ→Bool):∀(l:List γ) (i k:Nat),ZiI p (fun i _=>some i) none i l=some k→i≤k∧k<i+l.length∧∃x,l[k-i]? = some x∧p k x=true
 | [],i,k,h=>by cases h
 | x :: l,i,k,h=>by
  unfold ZiI at h
  cases hp:p i x with
  | true=>
   rw[hp] at h
   cases h
   exact⟨Nat.le_refl _,by simp,x,by simp,hp⟩
  | false=>
   rw[hp] at h
   obtain⟨h1,h2,y,h3,h4⟩:=ZtS p l (i+1) k h
   refine⟨by omega,by simp only[List.length_cons];omega,y,?_,h4⟩
   rw[show k-i=(k-(i+1))+1 by omega]
   exact h3
theorem Ztn {γ:Type} (p:Nat→γ→Bool):∀(l:List γ) (i:Nat),ZiI p (fun i _=>some i) none i l=none→∀(j:Nat) x,l[j]? = some x→p (i+j) x=false
 | [],i,h,j,x,hx=>by cases hx
 | y :: l,i,h,j,x,hx=>by
  unfold ZiI at h
  cases hp:p i y with
  | true=>rw[hp] at h;cases h
  | false=>
   rw[hp] at h
   cases j with
   | zero=>cases hx;exact hp
   | succ j=>
    have:=Ztn p l (i+1) h j x hx
    rwa [show i+1+j=i+(j+1) by omega] at this
theorem Zhi {g:Zal}{done:List Bool} (hd:done.length=g.work.length) {z:Int} (h:0≤z∧z.toNat<g.work.length):ZA done z=some (bAt done z):=by
 have e:=List.getElem?_eq_getElem (show z.toNat<done.length by rw[hd];exact h.2)
 rw[ZoW h.1 e]
 unfold bAt
 rw[e]
theorem ZEP {g:Zal} (h:ZfS g) (out:List Int) (ho:out.length<g.work.length) (done:List Bool) (hd:done.length=g.work.length) :
  lp (Zek g (out,done)) 0=some (match ZqH g done with | some i=>.inl (out++[(i:Int)],done.set i true) | none=>.inr ()):=by
 have key:=ZcB g.work (Zek g (out,done)) (fun i _=>Zgt g done i) (fun i _=>.inl (out++[(i:Int)],done.set i true)) (.inr ()) (fun i x hi hx=>by
   have inner:=ZcB g.edges (Zfh g (out,done) (i:Int)) (fun _ e=>(e.dst==(i:Int)) && !(bAt done e.src)) (fun _ _=>.inl ()) (.inr ()) (fun k e hk he=>by
     simp only[Zfh,Zbo hk,ZR he,Option.bind_some,ZC hk h.short.e,cond_true,Zhi hd (h.src e (List.mem_of_getElem? he))]
     cases (e.dst==(i:Int))<;>cases bAt done e.src<;>rfl) (by simp only[Zfh,ZbO];rfl)
   rw[Za2,Ze6] at inner
   have hl:=h.wl
   simp only[Zek,Zbo hi,Zhi hd (z:=(i:Int)) ⟨by omega,by simpa using hi⟩,Option.bind_some,ZC hi h.short.w,cond_true,inner,Zfn (show out.length+1≤1073741824 by omega),Int.toNat_natCast,Zgt]
   cases bAt done (i:Int)<;>cases g.edges.any (fun e=>(e.dst==(i:Int)) && !(bAt done e.src))<;>rfl) (by simp only[Zek,ZbO];rfl)
 rw[key]
 unfold ZqH
 exact congrArg some (Zpl (fun i _=>Zgt g done i) (fun i _=>some i) none (fun o:Option Nat=>(match o with | some i=>(.inl (out++[(i:Int)],done.set i true):(List Int×List Bool)⊕Unit) | none=>.inr ())) g.work 0).symm
theorem Zyc {g:Zal} (h:ZfS g):∀(k:Nat) (out:List Int) (done:List Bool),out.length+k=g.work.length→done.length=g.work.length →
  ∃r,lp (Zfk g) (out,done)=some r∧(match ZpS g k out done with | some l=>r = .inr l | none=>∃l,r = .inl l)
 | 0,out,done,h1,h2=>by
  rw[Zaq]
  simp only[Zfk,show out.length=g.work.length by omega,ZbO,cond_false]
  exact⟨_,rfl,rfl⟩
 | k+1,out,done,h1,h2=>by
  rw[Zaq]
  simp only[Zfk,Zbo (show out.length<g.work.length by omega),cond_true,ZEP h out (by omega) done h2,Option.bind_some]
  unfold ZpS
  cases ZqH g done with
  | none=>exact⟨_,rfl,_,rfl⟩
  | some i=>exact Zyc h k (out++[(i:Int)]) (done.set i true) (by rw[List.length_append];simp only[List.length_cons,List.length_nil];omega) (by rw[List.length_set];exact h2)
theorem Zx8 {g:Zal} (h:ZfS g):Zfl g=some (match ZpS g g.work.length [] (List.replicate g.work.length false) with | some l=>(l,true) | none=>([],false)):=by
 obtain⟨r,e,hr⟩:=Zyc h g.work.length [] (List.replicate g.work.length false) (by simp) (by simp)
 have hl:=h.wl
 unfold Zfl
 rw[decide_eq_true (show(0:Int)≤(g.work.length:Int) by omega),decide_eq_true (show(g.work.length:Int)≤lim by show(g.work.length:Int)≤1073741824;omega),beq_self_eq_true]
 simp only[decide_true,Bool.and_true,cond_true,Int.toNat_natCast,e,Option.bind_some]
 cases ho:ZpS g g.work.length [] (List.replicate g.work.length false) with
 | some l=>rw[ho] at hr;simp only at hr;subst hr;rfl
 | none=>rw[ho] at hr;obtain⟨l,rfl⟩:=hr;rfl
structure Zgf (g:Zal) (out:List Int) (done:List Bool):Prop where
 dl:done.length=g.work.length
 mem:∀i:Nat,bAt done (i:Int)=true↔(i:Int)∈out
 inn:∀z∈out,0≤z∧z.toNat<g.work.length
 nod:out.Nodup
 topo:∀(i:Nat) (n:Int),out[i]? = some n→∀e∈g.edges,e.dst=n→∃j,j<i∧out[j]? = some e.src
theorem Zrn {done:List Bool}{i:Nat} (hi:i<done.length) (z:Int) (hz:0≤z):bAt (done.set i true) z=(decide (z=(i:Int)) || bAt done z):=by
 unfold bAt
 rw[List.getElem?_set]
 by_cases h:i=z.toNat
 ·subst h
  rw[if_pos rfl,if_pos hi,decide_eq_true (show z=((z.toNat:Nat):Int) by omega)];rfl
 ·rw[if_neg h,decide_eq_false (show ¬z=(i:Int) by omega)];rfl
theorem Zgf.start (g:Zal):Zgf g [] (List.replicate g.work.length false):=by
 refine⟨by simp,fun i=>?_,by simp,by simp,by simp⟩
 unfold bAt
 rw[List.getElem?_replicate]
 by_cases h:((i:Int)).toNat<g.work.length
 ·rw[if_pos h];simp
 ·rw[if_neg h];simp
theorem Zgf.next {g:Zal} (h:ZfS g) {out:List Int}{done:List Bool} (o:Zgf g out done) {i:Nat} (hn:ZqH g done=some i):Zgf g (out++[(i:Int)]) (done.set i true):=by
 obtain⟨_,hi,x,_,hp⟩:=ZtS _ _ _ _ hn
 rw[Nat.zero_add] at hi
 unfold Zgt at hp
 simp only[Bool.and_eq_true,Bool.not_eq_true',List.any_eq_false,Bool.not_eq_true] at hp
 have hid:i<done.length:=by rw[o.dl];exact hi
 have hnot:(i:Int)∉out:=fun hm=>by have:=(o.mem i).2 hm;rw[hp.1] at this;cases this
 refine⟨by rw[List.length_set];exact o.dl,fun j=>?_,fun z hz=>?_,?_,fun k n hk e he hd=>?_⟩
 ·rw[Zrn hid (j:Int) (by omega),Bool.or_eq_true,decide_eq_true_eq,o.mem,List.mem_append,List.mem_singleton]
  exact Or.comm
 ·rcases List.mem_append.1 hz with hz | hz
  ·exact o.inn z hz
  ·rw[List.mem_singleton] at hz;subst hz;exact⟨by omega,by simpa using hi⟩
 ·rw[List.nodup_append]
  refine⟨o.nod,by simp,fun a ha b hb=>?_⟩
  rw[List.mem_singleton] at hb
  subst hb
  exact fun hab=>hnot (hab ▸ ha)
 ·rcases Nat.lt_or_ge k out.length with hk2 | hk2
  ·rw[List.getElem?_append_left hk2] at hk
   obtain⟨j,h1,h2⟩:=o.topo k n hk e he hd
   exact⟨j,h1,by rw[List.getElem?_append_left (by omega)];exact h2⟩
  ·rw[List.getElem?_append_right hk2] at hk
   have hk0:k-out.length=0:=by
    rcases Nat.eq_zero_or_pos (k-out.length) with h0 | h0
    ·exact h0
    ·rw[List.getElem?_eq_none (by simp only[List.length_cons,List.length_nil];omega)] at hk;cases hk
   rw[hk0] at hk
   simp only[List.getElem?_cons_zero,Option.some.injEq] at hk
   subst hk
   have hs:=hp.2 e he
   rw[hd] at hs
   have hs:bAt done e.src=true:=by simpa using hs
   have hsr:=h.src e he
   have:=(o.mem e.src.toNat).1 (by rw[show((e.src.toNat:Nat):Int)=e.src by omega];exact hs)
   rw[show((e.src.toNat:Nat):Int)=e.src by omega] at this
   obtain⟨j,hj⟩:=List.getElem?_of_mem this
   have hjl:=(List.getElem?_eq_some_iff.1 hj).1
   exact⟨j,by omega,by rw[List.getElem?_append_left hjl];exact hj⟩
theorem Zgf.way {g:Zal}{out:List Int}{done:List Bool} (o:Zgf g out done) {a b:Int} (w:Way g a b):∀j:Nat,out[j]? = some b→∃i,i<j∧out[i]? = some a:=by
 induction w with
 | one he=>intro j hj;exact o.topo j _ hj _ he rfl
 | more _ he ih=>
  intro j hj
  obtain⟨i,h1,h2⟩:=o.topo j _ hj _ he rfl
  obtain⟨k,h3,h4⟩:=ih i h2
  exact⟨k,by omega,h4⟩
theorem ZtO {l:List Int} (h:l.Nodup) {i j:Nat}{a:Int} (h1:l[i]? = some a) (h2:l[j]? = some a):i=j:=by
 obtain⟨a1,a2⟩:=List.getElem?_eq_some_iff.1 h1
 obtain⟨b1,b2⟩:=List.getElem?_eq_some_iff.1 h2
 exact(List.getElem_inj h).1 (a2.trans b2.symm)
def ZuI (n:Nat) (done:List Bool):List Int:=((List.range n).filter fun i:Nat=>!bAt done (i:Int)).map fun i:Nat=>(i:Int)
theorem Zlg {n:Nat}{done:List Bool}{i:Nat} (h1:i<n) (h2:bAt done (i:Int)=false):(i:Int)∈ZuI n done:=
 List.mem_map.2 ⟨i,List.mem_filter.2 ⟨List.mem_range.2 h1,by rw[h2];rfl⟩,rfl⟩
theorem Zzg {g:Zal} (h:ZfS g) (hg:ZqZ g) {out:List Int}{done:List Bool} (o:Zgf g out done) (i0:Nat) (hi0:i0<g.work.length) (hb:bAt done (i0:Int)=false):∃i,ZqH g done=some i:=by
 cases hn:ZqH g done with
 | some i=>exact⟨i,rfl⟩
 | none=>
  exfalso
  have hall:=Ztn _ _ _ hn
  obtain⟨m,hm,hm2⟩:=ZvC hg _ (ZuI g.work.length done) (Nat.le_refl _) (by
   intro he
   have:=Zlg hi0 hb
   rw[he] at this;cases this)
  obtain⟨k,hk,rfl⟩:=List.mem_map.1 hm
  obtain⟨hk1,hk2⟩:=List.mem_filter.1 hk
  rw[List.mem_range] at hk1
  have hr:=hall k g.work[k] (List.getElem?_eq_getElem hk1)
  rw[Nat.zero_add] at hr
  unfold Zgt at hr
  rw[hk2,Bool.true_and,Bool.not_eq_false',List.any_eq_true] at hr
  obtain⟨e,he,he2⟩:=hr
  simp only[Bool.and_eq_true,beq_iff_eq] at he2
  have hsr:=h.src e he
  refine hm2 e he he2.1 ?_
  have es:((e.src.toNat:Nat):Int)=e.src:=by omega
  rw[← es]
  exact Zlg hsr.2 (by rw[es];simpa using he2.2)
theorem ZBY {n:Nat}{out:List Int} (h1:out.Nodup) (h2:∀z∈out,0≤z∧z.toNat<n):(out.length≤n)∧(out.length=n→∀i:Nat,i<n→(i:Int)∈out):=by
 induction n generalizing out with
 | zero=>
  refine⟨?_,fun _ i hi=>absurd hi (by omega)⟩
  cases out with
  | nil=>simp
  | cons z l=>have:=h2 z (by simp);omega
 | succ n ih=>
  by_cases hm:(n:Int)∈out
  ·have e1:(out.erase (n:Int)).length=out.length-1:=List.length_erase_of_mem hm
   have pos:0<out.length:=List.length_pos_of_mem hm
   obtain⟨a,b⟩:=ih (out:=out.erase (n:Int)) (h1.erase _) (fun z hz=>by
    have hz2:=(List.Nodup.mem_erase_iff h1).1 hz
    have:=h2 z hz2.2
    have:=hz2.1
    omega)
   refine⟨by omega,fun hl i hi=>?_⟩
   by_cases hin:i=n
   ·subst hin;exact hm
   ·exact List.mem_of_mem_erase (b (by omega) i (by omega))
  ·obtain⟨a,b⟩:=ih (out:=out) h1 (fun z hz=>by
    have:=h2 z hz
    have:z≠(n:Int):=fun he=>hm (he ▸ hz)
    omega)
   exact⟨by omega,fun hl=>by omega⟩
theorem ZBV:∀(n:Nat) (out:List Int),(∀i:Nat,i<n→(i:Int)∈out)→n≤out.length
 | 0,out,h=>by omega
 | n+1,out,h=>by
  have hm:=h n (by omega)
  have e1:(out.erase (n:Int)).length=out.length-1:=List.length_erase_of_mem hm
  have pos:0<out.length:=List.length_pos_of_mem hm
  have:=ZBV n (out.erase (n:Int)) (fun i hi=>(List.mem_erase_of_ne (by omega)).2 (h i (by omega)))
  omega
theorem Zop {g:Zal} (h:ZfS g):∀(k:Nat) (out:List Int) (done:List Bool),Zgf g out done→out.length+k=g.work.length→(∀l,ZpS g k out done=some l→∃done',Zgf g l done'∧l.length=g.work.length)∧(ZqZ g→∃l,ZpS g k out done=some l)
 | 0,out,done,o,hl=>⟨fun l h=>by cases h;exact⟨done,o,by omega⟩,fun _=>⟨out,rfl⟩⟩
 | k+1,out,done,o,hl=>by
  unfold ZpS
  cases hn:ZqH g done with
  | none=>
   refine⟨fun l h=>(by cases h),fun hg=>?_⟩
   exfalso
   have hex:∃i0,i0<g.work.length∧(i0:Int)∉out:=by
    apply Classical.byContradiction
    intro hc
    have hc2:∀i0,i0<g.work.length→(i0:Int)∈out:=fun i0 hi=>Classical.byContradiction fun hx=>hc ⟨i0,hi,hx⟩
    have sub:=ZBV g.work.length out hc2
    omega
   obtain⟨i0,h1,h2⟩:=hex
   obtain⟨i,hi⟩:=Zzg h hg o i0 h1 (by
    cases hb:bAt done (i0:Int) with
    | false=>rfl
    | true=>exact absurd ((o.mem i0).1 hb) h2)
   rw[hn] at hi
   cases hi
  | some i=>
   exact Zop h k _ _ (o.next h hn) (by rw[List.length_append];simp only[List.length_cons,List.length_nil];omega)
theorem ZCm {g:Zal} (h:ZfS g) {l:List Int}{done:List Bool} (o:Zgf g l done) (hl:l.length=g.work.length):ZqZ g:=by
 intro a w
 have ha:=w.src_in h
 have hm:=(ZBY o.nod o.inn).2 hl a.toNat ha.2
 rw[show((a.toNat:Nat):Int)=a by omega] at hm
 obtain⟨j,hj⟩:=List.getElem?_of_mem hm
 obtain⟨i,h1,h2⟩:=o.way w j hj
 have:=ZtO o.nod h2 hj
 omega
structure ZCB (g:Zal) (l:List Int):Prop where
 len:l.length=g.work.length
 all:∀i:Nat,i<g.work.length→(i:Int)∈l
 inn:∀z∈l,0≤z∧z.toNat<g.work.length
 nod:l.Nodup
 topo:∀(i:Nat) (n:Int),l[i]? = some n→∀e∈g.edges,e.dst=n→∃j,j<i∧l[j]? = some e.src
theorem Ztg {g:Zal} (h:ZfS g) (hg:ZqZ g):∃l,Zfl g=some (l,true)∧ZCB g l:=by
 obtain⟨k1,k2⟩:=Zop h g.work.length [] _ (Zgf.start g) (by simp)
 obtain⟨l,hl⟩:=k2 hg
 obtain⟨done,o,hn⟩:=k1 l hl
 exact⟨l,by rw[Zx8 h,hl],hn,(ZBY o.nod o.inn).2 hn,o.inn,o.nod,o.topo⟩
theorem ZCb {g:Zal} (h:ZfS g) (hg:¬ZqZ g):Zfl g=some ([],false):=by
 rw[Zx8 h]
 cases ho:ZpS g g.work.length [] (List.replicate g.work.length false) with
 | none=>rfl
 | some l=>
  obtain⟨done,o,hn⟩:=(Zop h g.work.length [] _ (Zgf.start g) (by simp)).1 l ho
  exact absurd (ZCm h o hn) hg
noncomputable def ZzR (g:Zal):Bool:=@decide (ZqZ g) (Classical.propDecidable _)
theorem ZxX {g:Zal} (h:ZqZ g):ZzR g=true:=@decide_eq_true _ (Classical.propDecidable _) h
theorem Zuc {g:Zal} (h:¬ZqZ g):ZzR g=false:=@decide_eq_false _ (Classical.propDecidable _) h
noncomputable def Zhg (g:Zal):Int:=bif Zil g==0 then (bif ZzR g then 0 else 43) else Zil g
theorem Zdx {g:Zal} (h:Zhg g=0):ZfS g∧ZqZ g:=by
 unfold Zhg at h
 by_cases h0:Zil g=0
 ·rw[h0] at h
  refine⟨ZrO h0,Classical.byContradiction fun hn=>?_⟩
  rw[Zuc hn] at h
  simp at h
 ·rw[beq_false_of_ne h0] at h
  exact absurd h h0
theorem ZrA (g:Zal) (h:Zqr g):Zg3 g=some (Zhg g):=by
 have hw:=Zoj g.work (fun z0=>Zdi z0) ZgS (fun x _=>Zzx x) h.w
 unfold Zg3 Zhg
 rw[hw,Zwh g h]
 by_cases h0:Zil g=0
 ·have hG:=ZrO h0
  rw[h0]
  unfold Zil at h0
  by_cases hg:ZqZ g
  ·obtain⟨l,e,_⟩:=Ztg hG hg
   rw[e,ZxX hg]
   revert h0
   cases decide (64<(g.work.length:Int))<;>cases decide (256<(g.edges.length:Int))<;>cases g.work.any ZgS<;>cases ZfV (Zov g) 0 g.edges<;>simp
  ·rw[ZCb hG hg,Zuc hg]
   revert h0
   cases decide (64<(g.work.length:Int))<;>cases decide (256<(g.edges.length:Int))<;>cases g.work.any ZgS<;>cases ZfV (Zov g) 0 g.edges<;>simp
 ·rw[beq_false_of_ne h0]
  unfold Zil at h0 ⊢
  revert h0
  cases decide (64<(g.work.length:Int))<;>cases decide (256<(g.edges.length:Int))<;>cases g.work.any ZgS<;>cases ZfV (Zov g) 0 g.edges<;>simp
end Go.Proofs.YtnmbdjkbaihicaaGreatDoor
namespace Go.Proofs.YtnmbdjkbaihicaaGreatDoor
open Go Go.Proofs.YtnmbdjkbaihicaaGreatDoorE
set_option linter.unusedVariables false
set_option linter.unusedSimpArgs false
theorem ZhK {K W:Type} (eq:K→K→Bool) (k:K) (v:W):∀l:List (K×W),(∀q∈l,eq k q.1=false)→Zw eq l k v=l++[(k,v)]
 | [],_=>rfl
 | (a,u) :: r,h=>by
  unfold Zw
  rw[h (a,u) (by simp)]
  simp only[cond_false,List.cons_append]
  rw[ZhK eq k v r fun q hq=>h q (by simp[hq])]
theorem ZqS {K W:Type} (eq:K→K→Bool) (k:K) (z:W):∀l:List (K×W),(∀q∈l,eq k q.1=false)→Z6 eq l k z=z
 | [],_=>rfl
 | (a,u) :: r,h=>by
  unfold Z6
  rw[h (a,u) (by simp)]
  exact ZqS eq k z r fun q hq=>h q (by simp[hq])
theorem ZhO {K W:Type} (eq:K→K→Bool) (k:K) (z:W) (m:List (K×W)):∀l:List (K×W),(∀q∈l,eq k q.1=false)→Z6 eq (l++m) k z=Z6 eq m k z
 | [],_=>rfl
 | (a,u) :: r,h=>by
  rw[List.cons_append]
  conv=>lhs;unfold Z6
  rw[h (a,u) (by simp)]
  exact ZhO eq k z m r fun q hq=>h q (by simp[hq])
theorem Ziw {K W:Type} (eq:K→K→Bool) (k:K) (z:W) (m:List (K×W)):∀l:List (K×W),(∃q∈l,eq k q.1=true)→Z6 eq (l++m) k z=Z6 eq l k z
 | [],h=>by obtain⟨q,hq,_⟩:=h;simp at hq
 | (a,u) :: r,h=>by
  rw[List.cons_append]
  unfold Z6
  cases hb:eq k a with
  | true=>rfl
  | false=>
   simp only[cond_false]
   refine Ziw eq k z m r ?_
   obtain⟨q,hq,hk⟩:=h
   rcases List.mem_cons.1 hq with rfl | hq
   ·rw[hb] at hk;cases hk
   ·exact⟨q,hq,hk⟩
abbrev eqI:Int→Int→Bool:=fun ka kb:Int=>(ka==kb)
theorem ZqQ {K W:Type} (eq:K→K→Bool) (k:K) (v w:W) (hk:eq k k=true):∀l:List (K×W),(∀q∈l,eq k q.1=false)→Zw eq (l++[(k,v)]) k w=l++[(k,w)]
 | [],_=>by
  show(bif eq k k then _ else _)=_
  rw[hk];rfl
 | (a,u) :: r,h=>by
  rw[List.cons_append]
  unfold Zw
  rw[h (a,u) (by simp)]
  simp only[cond_false,List.cons_append]
  rw[ZqQ eq k v w hk r fun q hq=>h q (by simp[hq])]
theorem Ztz {K W:Type} (eq:K→K→Bool) (k:K) (z v:W) (hk:eq k k=true) (l m:List (K×W)) (h:∀q∈l,eq k q.1=false):Z6 eq (l++(k,v) :: m) k z=v:=by
 rw[ZhO eq k z _ l h]
 show(bif eq k k then _ else _)=_
 rw[hk];rfl
end Go.Proofs.YtnmbdjkbaihicaaGreatDoor
namespace Go.Proofs.YtnmbdjkbaihicaaGreatDoor
open Go Go.Proofs.YtnmbdjkbaihicaaGreatDoorE
set_option linter.unusedVariables false
set_option linter.unusedSimpArgs false
def tch (d:Zi) (n:Nat):List Int:=tl d (n:Int) 0 99
theorem ZoL {d:Zi} (g:ZnR d) (n:Nat):Zb1 d (n:Int) (tch d n):=Zsv g (n:Int)
theorem ZFN {d:Zi} (hs:Zfs d) (hf:d.futures.length≤1000) (hc:Zfv d=0) (n:Nat):ZcK d (n:Int)=some (tch d n):=by
 obtain⟨r,h1,h2⟩:=Zp0 d hs hf hc (n:Int)
 rw[h1,h2.eq (ZoL (Zul hc) n)]
theorem ZzS {d:Zi} (hf:d.futures.length≤1000) (n:Nat):ZcP d (n:Int)=some (tch d n):=ZqK d hf (n:Int)
abbrev nt (d:Zi) (n:Nat):Nat:=(tch d n).length
theorem Ztu {d:Zi} (g:ZbL d) (n:Nat):nt d n≤16:=Nat.le_trans (ZjT (ZoL g.g n)) g.fl
def cut (d:Zi) (n i:Nat):Int:=if i=0 then 0 else match (tch d n)[i-1]? with | some z=>Zep d.futures z | none=>ZfQ d.parts (n:Int)
def ZfX (d:Zi) (n k:Nat):List Int:=(List.range k).map fun i=>cut d n (i+1)-cut d n i
def ZK (d:Zi):Nat→Nat
 | 0=>0
 | n+1=>ZK d n+(nt d n+1)
theorem ZeF {d:Zi} (g:ZbL d):∀n,ZK d n≤17*n
 | 0=>Nat.le_refl _
 | n+1=>by have:=ZeF g n;have:=Ztu g n;show ZK d n+(nt d n+1)≤_;omega
theorem ZhJ {d:Zi}{n i:Nat} (g:ZnR d) (hi:i<nt d n):∃f,ZA (tch d n) (i:Int)=some (tch d n)[i]∧ZA d.futures (tch d n)[i]=some f∧d.futures[((tch d n)[i]).toNat]? = some f∧f.user=(n:Int)∧f.pos=cut d n (i+1)∧f∈d.futures:=by
 obtain⟨j,f,h1,h2,h3⟩:=(ZoL g n).mem _ |>.1 (List.getElem_mem hi)
 refine⟨f,ZR (List.getElem?_eq_getElem hi),?_,?_,h2,?_,List.mem_of_getElem? h1⟩
 ·rw[h3];exact ZR h1
 ·rw[h3,Int.toNat_natCast];exact h1
 ·unfold cut
  rw[if_neg (by omega),Nat.add_sub_cancel,List.getElem?_eq_getElem hi]
  show _=Zep d.futures (tch d n)[i]
  unfold Zep
  rw[h3,Int.toNat_natCast,h1]
theorem Zta {d:Zi} (g:ZnR d) (n i:Nat):0≤cut d n i∧cut d n i≤100:=by
 unfold cut
 split
 ·omega
 ·have wb:0≤ZfQ d.parts (n:Int)∧ZfQ d.parts (n:Int)≤100:=by
   refine⟨?_,Znf g _⟩
   unfold ZfQ
   split
   ·rename_i p hp;have:=g.w p (List.mem_of_getElem? hp);omega
   ·omega
  split
  ·rename_i z hz
   obtain⟨j,f,h1,h2,h3⟩:=(ZoL g n).mem z |>.1 (List.mem_of_getElem? hz)
   have:=g.f f (List.mem_of_getElem? h1)
   have:=Znf g f.user
   unfold Zep
   rw[h3,Int.toNat_natCast,h1]
   show 0≤f.pos∧f.pos≤100
   omega
  ·exact wb
theorem Zuw (d:Zi) (n:Nat):cut d n (nt d n+1)=ZfQ d.parts (n:Int):=by
 unfold cut
 rw[if_neg (by omega),Nat.add_sub_cancel,List.getElem?_eq_none (Nat.le_refl _)]
theorem ZjK (d:Zi) (n k:Nat):ZfX d n (k+1)=ZfX d n k++[cut d n (k+1)-cut d n k]:=by unfold ZfX;rw[List.range_succ,List.map_append];rfl
theorem Zg0 (d:Zi) (n k:Nat):(ZfX d n k).length=k:=by unfold ZfX;simp
def ZfO (d:Zi) (n:Nat):List Int:=ZfX d n (nt d n+1)
theorem ZuA {d:Zi}{n:Nat} (hn:n<d.parts.length):∃x,ZA d.parts (n:Int)=some x∧x.work=ZfQ d.parts (n:Int):=by
 refine⟨d.parts[n],ZR (List.getElem?_eq_getElem hn),?_⟩
 unfold ZfQ
 rw[Int.toNat_natCast,List.getElem?_eq_getElem hn]
theorem ZsO {d:Zi} (g:ZbL d) {n:Nat} (hn:n<d.parts.length):ZfM d (n:Int)=some (ZfO d n):=by
 have hnt:=Ztu g n
 have key:∀(k i:Nat),i+k=nt d n→lp (Zdc d (tch d n)) (cut d n i,(i:Int),ZfX d n i)=some (cut d n (nt d n),ZfX d n (nt d n)):=by
  intro k
  induction k with
  | zero=>
   intro i hi
   have:i=nt d n:=by omega
   subst this
   rw[Zaq]
   simp only[Zdc,show((nt d n:Nat):Int)=((tch d n).length:Int) from rfl,ZbO,cond_false]
  | succ k ih=>
   intro i hi
   have hi':i<nt d n:=by omega
   obtain⟨f,h1,h2,_,_,h5,_⟩:=ZhJ g.g hi'
   have b0:=Zta g.g n i
   have b1:=Zta g.g n (i+1)
   rw[Zaq]
   simp only[Zdc,Zbo (show i<(tch d n).length from hi'),cond_true,h1,h2,Option.bind_some,h5,ZC hi' (show nt d n<9223372036854775808 by omega),Zfn (show(ZfX d n i).length+1≤1073741824 by rw[Zg0];omega),ZaS (show -9223372036854775808≤cut d n (i+1)-cut d n i by omega) (by omega)]
   rw[← ZjK]
   exact ih (i+1) (by omega)
 have k0:=key (nt d n) 0 (by omega)
 obtain⟨x,x1,x2⟩:=ZuA hn
 have b0:=Zta g.g n (nt d n)
 have b1:=Zta g.g n (nt d n+1)
 rw[Zuw] at b1
 unfold ZfM ZfO
 rw[ZzS (by have:=g.fl;omega)]
 simp only[Option.bind_some,show lp (Zdc d (tch d n)) (0,0,[])=_ from k0,x1,x2,Zfn (show(ZfX d n (nt d n)).length+1≤1073741824 by rw[Zg0];omega),cond_true,ZaS (show -9223372036854775808≤ZfQ d.parts (n:Int)-cut d n (nt d n) by omega) (by omega)]
 rw[ZjK,Zuw]
theorem ZoT {d:Zi} (g:ZbL d) {n:Nat} (hn:n≤d.parts.length):Zcm d (n:Int)=some (ZK d n:Int):=by
 have hpl:=g.pl
 have key:∀(k i:Nat),i+k=n→lp (Zc4 d (n:Int)) ((ZK d i:Int),(i:Int))=some (ZK d n:Int):=by
  intro k
  induction k with
  | zero=>
   intro i hi
   have:i=n:=by omega
   subst this
   rw[Zaq]
   simp only[Zc4,ZbO,cond_false]
  | succ k ih=>
   intro i hi
   have hi':i<n:=by omega
   have hb:=ZeF g (i+1)
   have e:(ZK d i:Int)+((ZfO d i).length:Int)=(ZK d (i+1):Int):=by
    unfold ZfO
    rw[Zg0]
    show _=((ZK d i+(nt d i+1):Nat):Int)
    omega
   rw[Zaq]
   simp only[Zc4,Zbo hi',cond_true,ZsO g (show i<d.parts.length by omega),Option.bind_some,e,ZaS (show -9223372036854775808≤(ZK d (i+1):Int) by omega) (by omega),ZC hi' (show n<9223372036854775808 by omega)]
   exact ih (i+1) (by omega)
 unfold Zcm
 have k0:=key n 0 (by omega)
 rw[show lp (Zc4 d (n:Int)) (0,0)=_ from k0]
 rfl
def Ze0 (d:Zi) (z:Int):Int:=(ZK d z.toNat:Int)
def Zb6 (d:Zi) (z:Int):Int:=(ZK d (z.toNat+1):Int)-1
theorem Zms {d:Zi} (g:ZbL d) {z:Int} (h:inR d z):Zcm d z=some (Ze0 d z):=by
 have:=ZoT g (n:=z.toNat) (Nat.le_of_lt h.2)
 rwa [show((z.toNat:Nat):Int)=z from Int.toNat_of_nonneg h.1] at this
theorem Zjq {d:Zi} (g:ZbL d) {z:Int} (h:inR d z):ZdV d z=some (Zb6 d z):=by
 have hpl:=g.pl
 have h2:=h.2
 have h1:=h.1
 have:=ZoT g (n:=z.toNat+1) (by omega)
 have hb:=ZeF g (z.toNat+1)
 unfold ZdV Zb6
 rw[ZaS (show -9223372036854775808≤z+1 by omega) (by omega),show z+1=((z.toNat+1:Nat):Int) by omega,this]
 rw[Option.bind_some,ZaS (show -9223372036854775808≤(ZK d (z.toNat+1):Int)-1 by omega) (by omega)]
def Zso (d:Zi) (f:Zj):Int:=ZiI (fun _ z=>Zep d.futures z==f.pos) (fun i _=>Ze0 d f.user+(i:Int)+1) (-1) 0 (tch d f.user.toNat)
theorem ZwD {d:Zi} (g:ZbL d) {f:Zj} (hf:f∈d.futures):ZgQ d f=some (Zso d f):=by
 have hu:=g.user hf
 have hz:((f.user.toNat:Nat):Int)=f.user:=Int.toNat_of_nonneg hu.1
 have hb:=ZeF g f.user.toNat
 have hpl:=g.pl
 have hu2:=hu.2
 have hnt:=Ztu g f.user.toNat
 have key:=ZcB (tch d f.user.toNat) (Zec d f (tch d f.user.toNat)) (fun _ z=>Zep d.futures z==f.pos) (fun i _=>.inl (Ze0 d f.user+(i:Int)+1)) (.inr ()) (fun i z hi hx=>by
   obtain⟨e,h1,h2,h3,_⟩:=ZhJ g.g (show i<nt d f.user.toNat from hi)
   have hz2:(tch d f.user.toNat)[i]=z:=Option.some.inj ((List.getElem?_eq_getElem hi).symm.trans hx)
   rw[hz2] at h1 h2 h3
   have hp:Zep d.futures z=e.pos:=by unfold Zep;rw[h3]
   have hi2:i<nt d f.user.toNat:=hi
   have hfz:Ze0 d f.user=(ZK d f.user.toNat:Int):=rfl
   simp only[Zec,Zbo hi,cond_true,h1,h2,Option.bind_some,hp,Zms g hu,ZC hi (show(tch d f.user.toNat).length<9223372036854775808 by show nt d f.user.toNat<_;omega),ZaS (show -9223372036854775808≤Ze0 d f.user+(i:Int) by rw[hfz];omega) (by rw[hfz];omega),ZaS (show -9223372036854775808≤Ze0 d f.user+(i:Int)+1 by rw[hfz];omega) (by rw[hfz];omega)]
   cases e.pos==f.pos<;>rfl) (by simp only[Zec,ZbO];rfl)
 have ht:=ZzS (d:=d) (by have:=g.fl;omega) f.user.toNat
 rw[hz] at ht
 unfold ZgQ Zso
 rw[ht,Option.bind_some,key]
 exact(Zpl (fun _ z=>Zep d.futures z==f.pos) (fun i _=>(Sum.inl (Ze0 d f.user+(i:Int)+1):Int⊕Unit)) (.inr ()) (fun r=>match r with | .inl r=>some r | .inr _=>some (-1:Int)) _ 0).trans (Zpl (fun _ z=>Zep d.futures z==f.pos) (fun i _=>Ze0 d f.user+(i:Int)+1) (-1) some _ 0).symm
end Go.Proofs.YtnmbdjkbaihicaaGreatDoor
namespace Go.Proofs.YtnmbdjkbaihicaaGreatDoor
open Go Go.Proofs.YtnmbdjkbaihicaaGreatDoorE
set_option linter.unusedVariables false
set_option linter.unusedSimpArgs false
def upto {β:Type} (B:Nat→List β) (k:Nat):List β:=(List.range k).flatMap B
theorem Zb0 {β:Type} (B:Nat→List β) (k:Nat):upto B (k+1)=upto B k++B k:=by unfold upto;rw[List.range_succ,List.flatMap_append];simp
theorem Zkb {γ β:Type} (l:List γ) (hl:l.length≤1000) (step:Int×List β→Option ((Int×List β)⊕List β)) (g:γ→β)
  (h1:∀(i:Nat) x s,i<l.length→l[i]? = some x→Nat.ble (s.length+1) lim=true→step ((i:Int),s)=some (.inl (((i+1:Nat):Int),s++[g x])))
  (h2:∀s,step ((l.length:Int),s)=some (.inr s)) (s:List β) (hs:s.length≤1000000):lp step (0,s)=some (s++l.map g):=by
 have key:=(Zvm l step (fun i s=>((i:Int),s)) (fun _ s x=>s++[g x]) id (fun i s=>s.length≤1000000+i) (fun i x s hi hx hI=>⟨h1 i x s hi hx (Zfn (by omega)),by rw[List.length_append];simp only[List.length_cons,List.length_nil];omega⟩) (fun s _=>h2 s) s (by omega)).1
 have e:∀(l:List γ) (i:Nat) (s:List β),Zh4 (fun _ s x=>s++[g x]) i s l=s++l.map g:=by
  intro l
  induction l with
  | nil=>intro i s;simp[Zh4]
  | cons x l ih=>intro i s;show Zh4 _ (i+1) (s++[g x]) l=_;rw[ih];simp
 rw[e] at key
 exact key
def Zfd (d:Zi) (n k:Nat):List Zn:=(List.range k).map fun j=>⟨((ZK d n+j:Nat):Int),((ZK d n+j+1:Nat):Int)⟩
theorem ZmE (d:Zi) (n k:Nat):Zfd d n (k+1)=Zfd d n k++[⟨((ZK d n+k:Nat):Int),((ZK d n+k+1:Nat):Int)⟩]:=by unfold Zfd;rw[List.range_succ,List.map_append];rfl
theorem ZoF (d:Zi) (n k:Nat):(Zfd d n k).length=k:=by unfold Zfd;simp
def ZcI (n k:Nat):List Zh:=(List.range k).map fun j:Nat=>⟨(n:Int),(j:Int)⟩
theorem Zo5 (n k:Nat):ZcI n (k+1)=ZcI n k++[⟨(n:Int),(k:Int)⟩]:=by unfold ZcI;rw[List.range_succ,List.map_append];rfl
theorem Zmt (n k:Nat):(ZcI n k).length=k:=by unfold ZcI;simp
def ZeR (d:Zi) (k:Nat):List Int:=upto (ZfO d) k
def ZdQ (d:Zi) (k:Nat):List Zn:=upto (fun n=>Zfd d n (nt d n)) k
def Za1 (d:Zi) (k:Nat):List Zh:=upto (fun n=>ZcI n (nt d n+1)) k
theorem ZhL (d:Zi):∀k,(ZeR d k).length=ZK d k
 | 0=>rfl
 | k+1=>by unfold ZeR;rw[Zb0,List.length_append];unfold ZfO;rw[Zg0];show(ZeR d k).length+_=ZK d k+_;rw[ZhL d k]
theorem Zcc (d:Zi):∀k,(Za1 d k).length=ZK d k
 | 0=>rfl
 | k+1=>by unfold Za1;rw[Zb0,List.length_append,Zmt];show(Za1 d k).length+_=ZK d k+_;rw[Zcc d k]
theorem Zlm (d:Zi):∀k,(ZdQ d k).length≤ZK d k
 | 0=>Nat.le_refl _
 | k+1=>by unfold ZdQ;rw[Zb0,List.length_append,ZoF];have:=Zlm d k;unfold ZdQ at this;show _≤ZK d k+(nt d k+1);omega
def Zlp (d:Zi):List Zn:=d.edges.map fun e=>⟨Zb6 d e.src,Ze0 d e.dst⟩
def ZoA (d:Zi):List Zn:=d.futures.map fun f=>⟨Zb6 d f.maker,Zso d f⟩
def ZwG (d:Zi) (at_:Int) (b:Zs):List Zn:=b.ins.map (fun q=>⟨Zb6 d q,at_⟩)++b.outs.map (fun q=>⟨at_,Ze0 d q⟩)
def Zl1 (d:Zi) (i:Nat):Int:=((ZK d d.parts.length+i:Nat):Int)
def Zdk (d:Zi) (k:Nat):List Zn:=upto (fun i=>match d.barriers[i]? with | some b=>ZwG d (Zl1 d i) b | none=>[]) k
def Zdg (k:Nat):List Zh:=(List.range k).map fun i:Nat=>⟨-1,(i:Int)⟩
theorem Zml (k:Nat):(Zdg k).length=k:=by unfold Zdg;simp
theorem Zpu (k:Nat):Zdg (k+1)=Zdg k++[⟨-1,(k:Int)⟩]:=by unfold Zdg;rw[List.range_succ,List.map_append];rfl
def Zkd (d:Zi):List Int:=ZeR d d.parts.length++List.replicate d.barriers.length 1
def Zik (d:Zi):List Zn:=ZdQ d d.parts.length++Zlp d++ZoA d
def Zk3 (d:Zi):List Zn:=Zik d++Zdk d d.barriers.length
def ZdL (d:Zi):List Zh:=Za1 d d.parts.length++Zdg d.barriers.length
def Zae (d:Zi):ZiA:=⟨⟨Zkd d,Zk3 d⟩,ZdL d⟩
theorem Zos {d:Zi} (g:ZbL d):(Zik d).length≤1000:=by
 unfold Zik Zlp ZoA
 have h1:=Zlm d d.parts.length
 have h2:=ZeF g d.parts.length
 have h3:=g.pl
 have h4:=g.el
 have h5:=g.fl
 simp only[List.length_append,List.length_map]
 omega
theorem ZAn {d:Zi} (hz:ZfR d) {b:Zs} (hb:b∈d.barriers) (z:Int):(ZwG d z b).length≤40:=by
 have:=hz.i b hb
 unfold ZwG
 simp only[List.length_append,List.length_map]
 omega
theorem Zlc {d:Zi} (hz:ZfR d):∀k,(Zdk d k).length≤40*k
 | 0=>Nat.le_refl _
 | k+1=>by
  have ih:=Zlc hz k
  unfold Zdk at ih ⊢
  rw[Zb0,List.length_append]
  split
  ·rename_i b hb
   have:=ZAn hz (List.mem_of_getElem? hb) (Zl1 d k)
   omega
  ·simp only[List.length_nil];omega
theorem ZwZ {d:Zi} (g:ZbL d) {n:Nat} (hn:n<d.parts.length) (s0:Int×List Zn×List Int×List Zh) (h0:s0.1=(n:Int)) (E:List Zn) (W:List Int) (P:List Zh) (hE:E.length≤1000) (hW:W.length≤1000) (hP:P.length≤1000) :
  lp (Zc5 d s0 (ZfO d n)) (0,E,W,P)=some (E++Zfd d n (nt d n),W++ZfO d n,P++ZcI n (nt d n+1)):=by
 have hnt:=Ztu g n
 have hpl:=g.pl
 have hF:=ZeF g n
 have hlen:(ZfO d n).length=nt d n+1:=Zg0 d n _
 have key:∀(k i:Nat),i+k=nt d n+1→lp (Zc5 d s0 (ZfO d n)) ((i:Int),E++Zfd d n (i-1),W++ZfX d n i,P++ZcI n i)=some (E++Zfd d n (nt d n),W++ZfO d n,P++ZcI n (nt d n+1)):=by
  intro k
  induction k with
  | zero=>
   intro i hi
   have:i=nt d n+1:=by omega
   subst this
   rw[Zaq]
   simp only[Zc5,show((nt d n+1:Nat):Int)=((ZfO d n).length:Int) by rw[hlen],ZbO,cond_false]
   rfl
  | succ k ih=>
   intro i hi
   have hi':i<nt d n+1:=by omega
   have hx:(ZfO d n)[i]? = some (cut d n (i+1)-cut d n i):=by
    unfold ZfO ZfX
    rw[List.getElem?_map,List.getElem?_range hi']
    rfl
   have l1:(P++ZcI n i).length+1≤1073741824:=by rw[List.length_append,Zmt];omega
   have l2:(W++ZfX d n i).length+1≤1073741824:=by rw[List.length_append,Zg0];omega
   have l3:(E++Zfd d n (i-1)).length+1≤1073741824:=by rw[List.length_append,ZoF];omega
   have ih':=ih (i+1) (by omega)
   rw[ZjK,Zo5,← List.append_assoc,← List.append_assoc] at ih'
   rw[Zaq]
   simp only[Zc5,hlen,Zbo hi',cond_true,Zfn l1,ZR hx,Option.bind_some,Zfn l2,Zfn l3,h0,ZoT g (Nat.le_of_lt hn),ZC hi' (show nt d n+1<9223372036854775808 by omega)]
   cases i with
   | zero=>
    simp only[decide_eq_false (show ¬(0:Int)<((0:Nat):Int) by omega),cond_false]
    exact ih'
   | succ j=>
    have e1:(ZK d n:Int)+((j+1:Nat):Int)=((ZK d n+j+1:Nat):Int):=by omega
    have e2:((ZK d n+j+1:Nat):Int)-1=((ZK d n+j:Nat):Int):=by omega
    simp only[decide_eq_true (show(0:Int)<((j+1:Nat):Int) by omega),cond_true,e1,ZaS (show -9223372036854775808≤((ZK d n+j+1:Nat):Int) by omega) (by omega),e2,ZaS (show -9223372036854775808≤((ZK d n+j:Nat):Int) by omega) (by omega),Nat.add_sub_cancel]
    rw[Nat.add_sub_cancel,ZmE,← List.append_assoc] at ih'
    exact ih'
 have:=key (nt d n+1) 0 (by omega)
 simpa [Zfd,ZfX,ZcI] using this
theorem Zw2 {d:Zi} (g:ZbL d):lp (Zdd d) (0,[],[],[])=some (ZdQ d d.parts.length,ZeR d d.parts.length,Za1 d d.parts.length):=by
 have hpl:=g.pl
 have key:∀(k i:Nat),i+k=d.parts.length→lp (Zdd d) ((i:Int),ZdQ d i,ZeR d i,Za1 d i)=some (ZdQ d d.parts.length,ZeR d d.parts.length,Za1 d d.parts.length):=by
  intro k
  induction k with
  | zero=>
   intro i hi
   have:i=d.parts.length:=by omega
   subst this
   rw[Zaq]
   simp only[Zdd,ZbO,cond_false]
  | succ k ih=>
   intro i hi
   have hi':i<d.parts.length:=by omega
   have hF:=ZeF g i
   have h1:=Zlm d i
   have ih':=ih (i+1) (by omega)
   rw[show ZdQ d (i+1)=ZdQ d i++Zfd d i (nt d i) from Zb0 _ i,show ZeR d (i+1)=ZeR d i++ZfO d i from Zb0 _ i,show Za1 d (i+1)=Za1 d i++ZcI i (nt d i+1) from Zb0 _ i] at ih'
   rw[Zaq]
   simp only[Zdd,Zbo hi',cond_true,ZsO g hi',Option.bind_some,ZwZ g hi' ((i:Int),ZdQ d i,ZeR d i,Za1 d i) rfl (ZdQ d i) (ZeR d i) (Za1 d i) (by omega) (by rw[ZhL];omega) (by rw[Zcc];omega),ZC hi' (show d.parts.length<9223372036854775808 by omega)]
   exact ih'
 exact key d.parts.length 0 (by omega)
theorem ZwJ {d:Zi} (g:ZbL d) (E:List Zn) (hE:E.length≤10000):lp (Zda d) (0,E)=some (E++Zlp d):=
 have he:=g.el
 Zkb d.edges (by omega) (Zda d) (fun e=>⟨Zb6 d e.src,Ze0 d e.dst⟩) (fun i x s hi hx hb=>by
  have hm:=List.mem_of_getElem? hx
  simp only[Zda,Zbo hi,cond_true,ZR hx,Option.bind_some,Zjq g (g.src hm),Zms g (g.dst hm),hb,ZC hi (show d.edges.length<9223372036854775808 by omega)]) (fun s=>by simp only[Zda,ZbO,cond_false]) E (by omega)
theorem Zut {d:Zi} (g:ZbL d) (E:List Zn) (hE:E.length≤10000):lp (Zc2 d) (0,E)=some (E++ZoA d):=
 have he:=g.fl
 Zkb d.futures (by omega) (Zc2 d) (fun f=>⟨Zb6 d f.maker,Zso d f⟩) (fun i x s hi hx hb=>by
  have hm:=List.mem_of_getElem? hx
  simp only[Zc2,Zbo hi,cond_true,ZR hx,Option.bind_some,Zjq g (g.maker hm),ZwD g hm,hb,ZC hi (show d.futures.length<9223372036854775808 by omega)]) (fun s=>by simp only[Zc2,ZbO,cond_false]) E (by omega)
theorem Zyo {d:Zi} (g:ZbL d) (hz:ZfR d) (E:List Zn) (hE:E.length≤10000):lp (Zc0 d) (0,E,ZeR d d.parts.length,Za1 d d.parts.length)=some (E++Zdk d d.barriers.length,Zkd d,ZdL d):=by
 have hbl:=g.bl
 have hF:=ZeF g d.parts.length
 have hpl:=g.pl
 have key:∀(k i:Nat),i+k=d.barriers.length→lp (Zc0 d) ((i:Int),E++Zdk d i,ZeR d d.parts.length++List.replicate i 1,Za1 d d.parts.length++Zdg i)=some (E++Zdk d d.barriers.length,Zkd d,ZdL d):=by
  intro k
  induction k with
  | zero=>
   intro i hi
   have:i=d.barriers.length:=by omega
   subst this
   rw[Zaq]
   simp only[Zc0,ZbO,cond_false]
   rfl
  | succ k ih=>
   intro i hi
   have hi':i<d.barriers.length:=by omega
   have hx:d.barriers[i]? = some d.barriers[i]:=List.getElem?_eq_getElem hi'
   have hm:=List.mem_of_getElem? hx
   have hsz:=hz.i _ hm
   have hB:=Zlc hz i
   have lp_:(Za1 d d.parts.length++Zdg i).length=ZK d d.parts.length+i:=by rw[List.length_append,Zcc,Zml]
   have lw_:(ZeR d d.parts.length++List.replicate i (1:Int)).length=ZK d d.parts.length+i:=by rw[List.length_append,ZhL,List.length_replicate]
   have hat:((Za1 d d.parts.length++Zdg i).length:Int)=Zl1 d i:=by rw[lp_];rfl
   have k4:=fun s=>Zkb d.barriers[i].ins (by omega) (Zej d ((i:Int),E++Zdk d i,ZeR d d.parts.length++List.replicate i 1,Za1 d d.parts.length++Zdg i) d.barriers[i]) (fun q=>⟨Zb6 d q,Zl1 d i⟩) (fun j x s hj hx hb=>by
    simp only[Zej,Zbo hj,cond_true,ZR hx,Option.bind_some,Zjq g (g.ins _ hm x (List.mem_of_getElem? hx)),hb,hat,ZC hj (show d.barriers[i].ins.length<9223372036854775808 by omega)]) (fun s=>by simp only[Zej,ZbO,cond_false]) s
   have k5:=fun s=>Zkb d.barriers[i].outs (by omega) (ZdW d ((i:Int),E++Zdk d i,ZeR d d.parts.length++List.replicate i 1,Za1 d d.parts.length++Zdg i) d.barriers[i]) (fun q=>⟨Zl1 d i,Ze0 d q⟩) (fun j x s hj hx hb=>by
    simp only[ZdW,Zbo hj,cond_true,ZR hx,Option.bind_some,Zms g (g.outs _ hm x (List.mem_of_getElem? hx)),hb,hat,ZC hj (show d.barriers[i].outs.length<9223372036854775808 by omega)]) (fun s=>by simp only[ZdW,ZbO,cond_false]) s
   have ih':=ih (i+1) (by omega)
   have eB:Zdk d (i+1)=Zdk d i++ZwG d (Zl1 d i) d.barriers[i]:=by
    unfold Zdk
    rw[Zb0,hx]
   rw[eB,Zpu,List.replicate_succ',ZwG,← List.append_assoc,← List.append_assoc,← List.append_assoc,← List.append_assoc] at ih'
   rw[Zaq]
   simp only[Zc0,Zbo hi',cond_true,Zfn (show(Za1 d d.parts.length++Zdg i).length+1≤1073741824 by rw[lp_];omega),Zfn (show(ZeR d d.parts.length++List.replicate i (1:Int)).length+1≤1073741824 by rw[lw_];omega),ZR hx,Option.bind_some,k4 (E++Zdk d i) (by rw[List.length_append];omega),
    k5 (E++Zdk d i++List.map (fun q=>⟨Zb6 d q,Zl1 d i⟩) d.barriers[i].ins) (by simp only[List.length_append,List.length_map];omega),ZC hi' (show d.barriers.length<9223372036854775808 by omega)]
   exact ih'
 have:=key d.barriers.length 0 (by omega)
 simpa [Zdk,upto,Zdg] using this
theorem ZoQ {d:Zi} (g:ZbL d) (hz:ZfR d):ZeT d=some (Zae d):=by
 have hE:=Zos g
 have h3:(ZdQ d d.parts.length++Zlp d).length≤10000:=by unfold Zik at hE;rw[List.length_append] at hE;omega
 have h4:(ZdQ d d.parts.length).length≤10000:=by rw[List.length_append] at h3;omega
 unfold ZeT
 rw[Zw2 g]
 simp only[Option.bind_some,ZwJ g _ h4,Zut g _ h3]
 rw[show ZdQ d d.parts.length++Zlp d++ZoA d=Zik d from rfl,Zyo g hz (Zik d) (by omega)]
 rfl
end Go.Proofs.YtnmbdjkbaihicaaGreatDoor
namespace Go.Proofs.YtnmbdjkbaihicaaGreatDoor
open Go Go.Proofs.YtnmbdjkbaihicaaGreatDoorE
set_option linter.unusedVariables false
set_option linter.unusedSimpArgs false
theorem ZhA (b:Zh) (c:Int) {W:List Int}{P:List Zh} (h1:W.length≤10000) (h2:P.length≤10000):Zat b c W P=some ():=by
 unfold Zat
 rw[Zfn (by omega),Zfn (by omega)];rfl
theorem ZkY (b c:Int) {E:List Zn} (h1:E.length≤10000):ZM b c E=some ():=by
 unfold ZM
 rw[Zfn (by omega)];rfl
theorem ZuO {β:Type} (P:List β) (x:β) (hP:P.length≤10000):w64 ((List.length (P++[x]):Int)-1)=(P.length:Int):=by
 rw[List.length_append]
 simp only[List.length_cons,List.length_nil]
 rw[ZaS (by omega) (by omega)]
 omega
theorem Zy3 {d:Zi} (g:ZbL d) {n:Nat} (hn:n<d.parts.length) (hc:ZcK d (n:Int)=some (tch d n)) {W:List Int}{E:List Zn}{P:List Zh} (M5:List (Int×Int)) (M6:List (Zj×Int)) (hW:W.length≤1000) (hE:E.length≤1000) (hP:P.length≤1000) :
  ZdJ d (n:Int) W E P M5 M6=(lp (ZG d (n:Int) (tch d n)) (0,0,M5,M6,W,E,P)).bind fun r=>some (bif decide (0<nt d n) then .inl r else .inr (.inl r.2.2.1)):=by
 obtain⟨x,x1,x2⟩:=ZuA hn
 have hnt:=Ztu g n
 have hnl:(tch d n).length=nt d n:=rfl
 have e1:w64 (((tch d n).length:Int)+1)=(((tch d n).length+1:Nat):Int):=by rw[ZaS (by omega) (by omega)];omega
 have w1:w64 ((0:Int)+1)=1:=ZaS (by omega) (by omega)
 have w2:w64 ((1:Int)+1)=2:=ZaS (by omega) (by omega)
 have w0:w64 ((1:Int)-1)=0:=ZaS (by omega) (by omega)
 have lW:∀a:Int,(W++[a]).length≤10000:=fun a=>by rw[List.length_append];simp only[List.length_cons,List.length_nil];omega
 have lP:∀a:Zh,(P++[a]).length≤10000:=fun a=>by rw[List.length_append];simp only[List.length_cons,List.length_nil];omega
 unfold ZdJ
 rw[hc,Option.bind_some,Zaq (Zbw d (n:Int) W E P M5 M6 (tch d n)),Zaq (ZG d (n:Int) (tch d n))]
 by_cases h0:0<nt d n
 ·obtain⟨f,f1,f2,_⟩:=ZhJ g.g h0
  have c0:decide ((0:Int)<(((tch d n).length+1:Nat):Int))=true:=decide_eq_true (by omega)
  have c1:decide ((0:Int)<((tch d n).length:Int))=true:=decide_eq_true (by omega)
  have c2:decide ((1:Int)<(((tch d n).length+1:Nat):Int))=true:=decide_eq_true (by omega)
  have f1':ZA (tch d n) 0=some (tch d n)[0]:=f1
  simp only[Zbw,ZG,e1,c0,c1,cond_true,x1,Option.bind_some,f1',f2,ZhA _ _ (show W.length≤10000 by omega) (show P.length≤10000 by omega),w1,decide_eq_false (show ¬(0:Int)<0 by omega),cond_false,decide_eq_true h0]
  rw[Zaq (Zbv d (n:Int) W E P M5 M6 (tch d n) f),Zaq (ZG d (n:Int) (tch d n))]
  by_cases h1:1<nt d n
  ·obtain⟨f',f1b,f2b,_⟩:=ZhJ g.g h1
   have f1b':ZA (tch d n) 1=some (tch d n)[1]:=f1b
   have c3:decide ((1:Int)<((tch d n).length:Int))=true:=decide_eq_true (by omega)
   simp only[Zbv,ZG,e1,c2,c3,cond_true,x1,Option.bind_some,f1',f2,f1b',f2b,ZhA _ _ (lW _) (lP _),ZkY _ _ (show E.length≤10000 by omega),w2,w0,decide_eq_true (show(0:Int)<1 by omega)]
   generalize lp (ZG d (n:Int) (tch d n)) _=r
   cases r<;>rfl
  ·have c3:decide ((1:Int)<((tch d n).length:Int))=false:=decide_eq_false (by omega)
   simp only[Zbv,ZG,e1,c2,c3,cond_true,cond_false,x1,Option.bind_some,f1',f2,ZhA _ _ (lW _) (lP _),ZkY _ _ (show E.length≤10000 by omega),w2,w0,decide_eq_true (show(0:Int)<1 by omega)]
   generalize lp (ZG d (n:Int) (tch d n)) _=r
   cases r<;>rfl
 ·have c0:decide ((0:Int)<(((tch d n).length+1:Nat):Int))=true:=decide_eq_true (by omega)
  have c1:decide ((0:Int)<((tch d n).length:Int))=false:=decide_eq_false (by omega)
  have c2:decide ((1:Int)<(((tch d n).length+1:Nat):Int))=false:=decide_eq_false (by omega)
  simp only[Zbw,ZG,e1,c0,c1,cond_true,x1,Option.bind_some,ZhA _ _ (show W.length≤10000 by omega) (show P.length≤10000 by omega),w1,decide_eq_false (show ¬(0:Int)<0 by omega),cond_false,decide_eq_false h0]
  rw[Zaq (Zck d (n:Int) W E P M5 M6 (tch d n) x),Zaq (ZG d (n:Int) (tch d n))]
  simp only[Zck,ZG,e1,c2,cond_false,Option.bind_some]
abbrev eqF:Zj→Zj→Bool:=fun ka kb:Zj=>((ka.maker==kb.maker)&&((ka.user==kb.user)&&((ka.pos==kb.pos)&&true)))
def Zj1 (M:List (Int×Int)) (n F i:Nat):List (Int×Int):=if i=0 then M else M++[((n:Int),((F+i-1:Nat):Int))]
theorem Zv8 {M:List (Int×Int)}{n F:Nat} (h:∀q∈M,q.1≠(n:Int)) (i:Nat):Zw (fun ka kb:Int=>(ka==kb)) (Zj1 M n F i) (n:Int) ((F+i:Nat):Int)=Zj1 M n F (i+1):=by
 have hq:∀q∈M,eqI (n:Int) q.1=false:=fun q hq=>by
  show((n:Int)==q.1)=false
  exact beq_false_of_ne (Ne.symm (h q hq))
 unfold Zj1
 rw[if_neg (show i+1≠0 by omega)]
 by_cases h0:i=0
 ·subst h0
  rw[if_pos rfl]
  exact ZhK eqI (n:Int) _ M hq
 ·rw[if_neg h0]
  exact ZqQ eqI (n:Int) _ _ (by simp) M hq
theorem Zvc {M:List (Int×Int)}{n F:Nat} (h:∀q∈M,q.1≠(n:Int)) (i:Nat):Z6 (fun ka kb:Int=>(ka==kb)) (Zj1 M n F (i+1)) (n:Int) 0=((F+i:Nat):Int):=by
 unfold Zj1
 rw[if_neg (show i+1≠0 by omega)]
 exact Ztz eqI (n:Int) 0 _ (by simp) M [] (fun q hq=>by
  show((n:Int)==q.1)=false
  exact beq_false_of_ne (Ne.symm (h q hq)))
def ZgM (d:Zi) (n j:Nat):Zj:=match (tch d n)[j]? with | some z=>(match d.futures[z.toNat]? with | some f=>f | none=>⟨0,0,0⟩) | none=>⟨0,0,0⟩
theorem Zgc {d:Zi}{n i:Nat} (g:ZnR d) (hi:i<nt d n):ZA (tch d n) (i:Int)=some (tch d n)[i]∧ZA d.futures (tch d n)[i]=some (ZgM d n i)∧(ZgM d n i).user=(n:Int)∧(ZgM d n i).pos=cut d n (i+1)∧ZgM d n i∈d.futures:=by
 obtain⟨f,h1,h2,h3,h4,h5,h6⟩:=ZhJ g hi
 have e:ZgM d n i=f:=by
  unfold ZgM
  rw[List.getElem?_eq_getElem hi]
  show(match d.futures[((tch d n)[i]).toNat]? with | some f=>f | none=>⟨0,0,0⟩)=f
  rw[h3]
 rw[e]
 exact⟨h1,h2,h4,h5,h6⟩
theorem Zr5 {d:Zi} (g:ZnR d) {n i j:Nat} (hij:i<j) (hj:j<nt d n):(ZgM d n i).pos<(ZgM d n j).pos:=by
 obtain⟨_,_,h3,_,_,h5,_⟩:=ZhJ g (show i<nt d n by omega)
 obtain⟨_,_,k3,_,_,k5,_⟩:=ZhJ g hj
 rw[(Zgc g (show i<nt d n by omega)).2.2.2.1,(Zgc g hj).2.2.2.1]
 have:=List.pairwise_iff_getElem.1 (ZoL g n).rise i j (show i<nt d n by omega) hj hij
 have e:∀k (hk:k<nt d n),cut d n (k+1)=Zep d.futures (tch d n)[k]:=fun k hk=>by
  unfold cut
  rw[if_neg (by omega),Nat.add_sub_cancel,List.getElem?_eq_getElem hk]
 rw[e i (by omega),e j hj]
 exact this
def Zgs (d:Zi) (n k:Nat):List (Zj×Int):=(List.range k).map fun j:Nat=>(ZgM d n j,((ZK d n+j+1:Nat):Int))
theorem Zu0 (d:Zi) (n k:Nat):Zgs d n (k+1)=Zgs d n k++[(ZgM d n k,((ZK d n+k+1:Nat):Int))]:=by unfold Zgs;rw[List.range_succ,List.map_append];rfl
theorem Zuu {a b:Zj} (h:a.user≠b.user∨a.pos≠b.pos):eqF a b=false:=by
 show((a.maker==b.maker)&&((a.user==b.user)&&((a.pos==b.pos)&&true)))=false
 rcases h with h | h
 ·rw[beq_false_of_ne h];simp
 ·rw[beq_false_of_ne h];simp
theorem Zr4 {d:Zi} (g:ZnR d) {n k:Nat} (hk:k<nt d n) {M:List (Zj×Int)} (h:∀q∈M,q.1.user≠(n:Int)) :
  Zw (fun ka kb:Zj=>((ka.maker==kb.maker)&&((ka.user==kb.user)&&((ka.pos==kb.pos)&&true)))) (M++Zgs d n k) (ZgM d n k) ((ZK d n+(k+1):Nat):Int)=M++Zgs d n (k+1):=by
 rw[Zu0,← List.append_assoc]
 refine ZhK eqF _ _ _ fun q hq=>?_
 have hu:=(Zgc g hk).2.2.1
 rcases List.mem_append.1 hq with hq | hq
 ·exact Zuu (.inl (by rw[hu];exact Ne.symm (h q hq)))
 ·unfold Zgs at hq
  obtain⟨j,hj,rfl⟩:=List.mem_map.1 hq
  rw[List.mem_range] at hj
  have:=Zr5 g hj hk
  exact Zuu (.inr (by show(ZgM d n k).pos≠(ZgM d n j).pos;omega))
theorem Zw8 {d:Zi} (g:ZbL d) {n:Nat} (hn:n<d.parts.length) {W:List Int}{E:List Zn}{P:List Zh}{M5:List (Int×Int)}{M6:List (Zj×Int)} (hW:W.length≤1000) (hE:E.length≤1000) (hP:P.length=ZK d n)
  (h5:∀q∈M5,q.1≠(n:Int)) (h6:∀q∈M6,q.1.user≠(n:Int)) :
  lp (ZG d (n:Int) (tch d n)) (0,0,M5,M6,W,E,P)=some (M5++[((n:Int),((ZK d n+nt d n:Nat):Int))],M6++Zgs d n (nt d n),W++ZfO d n,E++Zfd d n (nt d n),P++ZcI n (nt d n+1)):=by
 obtain⟨x,x1,x2⟩:=ZuA hn
 have hnt:=Ztu g n
 have hnl:(tch d n).length=nt d n:=rfl
 have hF:=ZeF g n
 have hpl:=g.pl
 have e1:w64 (((tch d n).length:Int)+1)=((nt d n+1:Nat):Int):=by show w64 ((nt d n:Int)+1)=_;rw[ZaS (by omega) (by omega)];omega
 have key:∀(k i:Nat),i+k=nt d n+1→lp (ZG d (n:Int) (tch d n)) (cut d n i,(i:Int),Zj1 M5 n (ZK d n) i,M6++Zgs d n (i-1),W++ZfX d n i,E++Zfd d n (i-1),P++ZcI n i) =
   some (Zj1 M5 n (ZK d n) (nt d n+1),M6++Zgs d n (nt d n),W++ZfO d n,E++Zfd d n (nt d n),P++ZcI n (nt d n+1)):=by
  intro k
  induction k with
  | zero=>
   intro i hi
   have:i=nt d n+1:=by omega
   subst this
   rw[Zaq]
   simp only[ZG,e1,ZbO,cond_false]
   rfl
  | succ k ih=>
   intro i hi
   have hi':i<nt d n+1:=by omega
   have b0:=Zta g.g n i
   have b1:=Zta g.g n (i+1)
   have lP:(P++ZcI n i).length=ZK d n+i:=by rw[List.length_append,Zmt,hP]
   have l2:(W++ZfX d n i).length≤10000:=by rw[List.length_append,Zg0];omega
   have l3:(E++Zfd d n (i-1)).length≤10000:=by rw[List.length_append,ZoF];omega
   have lput:=ZuO (P++ZcI n i) (Zh.mk (n:Int) (i:Int)) (by rw[lP];omega)
   rw[lP] at lput
   have p5:=Zv8 (F:=ZK d n) h5 i
   have g5:=Zvc (F:=ZK d n) h5 i
   have w5:w64 (cut d n (i+1)-cut d n i)=cut d n (i+1)-cut d n i:=ZaS (by omega) (by omega)
   have ih':=ih (i+1) (by omega)
   rw[ZjK,Zo5,← List.append_assoc,← List.append_assoc] at ih'
   rw[Zaq]
   have fin:i=nt d n→cut d n (i+1)=x.work:=fun h=>by rw[h,Zuw,x2]
   have node:=fun c=>ZhA (Zh.mk (n:Int) (i:Int)) c l2 (show(P++ZcI n i).length≤10000 by rw[lP];omega)
   by_cases hlast:i<nt d n
   ·obtain⟨q1,q2,q3,q4,_⟩:=Zgc g.g hlast
    cases i with
    | zero=>
     simp only[ZG,e1,Zbo hi',cond_true,x1,Option.bind_some,Zbo (show 0<(tch d n).length from hlast),q1,q2,q4,node,decide_eq_false (show ¬(0:Int)<((0:Nat):Int) by omega),cond_false,lput,p5,w5,ZC hi' (show nt d n+1<9223372036854775808 by omega)]
     exact ih'
    | succ j=>
     obtain⟨r1,r2,r3,r4,_⟩:=Zgc g.g (show j<nt d n by omega)
     have e2:w64 (((j+1:Nat):Int)-1)=(j:Int):=by rw[ZaS (by omega) (by omega)];omega
     have e3:w64 (((ZK d n+(j+1):Nat):Int)-1)=((ZK d n+j:Nat):Int):=by rw[ZaS (by omega) (by omega)];omega
     have p6:=Zr4 g.g (show j<nt d n by omega) h6
     rw[Nat.add_sub_cancel] at l3 ih' ⊢
     rw[ZmE,← List.append_assoc] at ih'
     simp only[ZG,e1,Zbo hi',cond_true,x1,Option.bind_some,Zbo (show j+1<(tch d n).length from hlast),q1,q2,q4,node,decide_eq_true (show(0:Int)<((j+1:Nat):Int) by omega),lput,p5,g5,w5,e2,e3,r1,r2,ZkY _ _ l3,p6,ZC hi' (show nt d n+1<9223372036854775808 by omega)]
     exact ih'
   ·have hin:i=nt d n:=by omega
    have hfin:=fin hin
    rw[hfin] at w5 ih'
    have c3:decide ((i:Int)<((tch d n).length:Int))=false:=decide_eq_false (by have:((tch d n).length:Int)=(nt d n:Int):=rfl;omega)
    cases i with
    | zero=>
     simp only[ZG,e1,Zbo hi',cond_true,x1,Option.bind_some,c3,node,decide_eq_false (show ¬(0:Int)<((0:Nat):Int) by omega),cond_false,lput,p5,w5,ZC hi' (show nt d n+1<9223372036854775808 by omega)]
     exact ih'
    | succ j=>
     obtain⟨r1,r2,r3,r4,_⟩:=Zgc g.g (show j<nt d n by omega)
     have e2:w64 (((j+1:Nat):Int)-1)=(j:Int):=by rw[ZaS (by omega) (by omega)];omega
     have e3:w64 (((ZK d n+(j+1):Nat):Int)-1)=((ZK d n+j:Nat):Int):=by rw[ZaS (by omega) (by omega)];omega
     have p6:=Zr4 g.g (show j<nt d n by omega) h6
     rw[Nat.add_sub_cancel] at l3 ih' ⊢
     rw[ZmE,← List.append_assoc] at ih'
     simp only[ZG,e1,Zbo hi',cond_true,cond_false,x1,Option.bind_some,c3,node,decide_eq_true (show(0:Int)<((j+1:Nat):Int) by omega),lput,p5,g5,w5,e2,e3,r1,r2,ZkY _ _ l3,p6,ZC hi' (show nt d n+1<9223372036854775808 by omega)]
     exact ih'
 have:=key (nt d n+1) 0 (by omega)
 simpa [Zj1,Zgs,ZfX,Zfd,ZcI,cut] using this
end Go.Proofs.YtnmbdjkbaihicaaGreatDoor
namespace Go.Proofs.YtnmbdjkbaihicaaGreatDoor
open Go Go.Proofs.YtnmbdjkbaihicaaGreatDoorE
set_option linter.unusedVariables false
set_option linter.unusedSimpArgs false
def Ze8 (a:Int) (T:List Bool) (e:Zn):List Bool:=bif (e.src==a) || bAt T e.src then T.set e.dst.toNat true else T
def Zub (g:Zal) (a:Int) (T:List Bool):List Bool:=Zh4 (fun _ T e=>Ze8 a T e) 0 T g.edges
def ZmL (g:Zal) (a:Int):Nat→List Bool→List Bool
 | 0,T=>T
 | k+1,T=>ZmL g a k (Zub g a T)
theorem Zla (a:Int) (T:List Bool) (e:Zn):(Ze8 a T e).length=T.length:=by
 unfold Ze8
 cases (e.src==a) || bAt T e.src<;>simp
theorem ZER {g:Zal} (h:ZfS g) (a:Int) (j:Int) (T:List Bool) (hT:T.length=g.work.length):lp (Zdf g a) (0,T)=some (Zub g a T)∧(Zub g a T).length=g.work.length:=by
 have:=Zvm g.edges (Zdf g a) (fun i T=>((i:Int),T)) (fun _ T e=>Ze8 a T e) id (fun _ T=>T.length=g.work.length) (fun i e T hi he hT=>by
   have hm:=List.mem_of_getElem? he
   refine⟨?_,by rw[Zla];exact hT⟩
   have e1:=Zhi (g:=g) hT (h.src e hm)
   have e2:=Zhi (g:=g) hT (h.dst e hm)
   simp only[Zdf,Zbo hi,ZR he,Option.bind_some,ZC hi h.short.e,cond_true,e1,e2,Ze8]
   cases (e.src==a)<;>cases bAt T e.src<;>rfl) (fun T hT=>by simp only[Zdf,ZbO];rfl) T hT
 exact this
theorem ZuT {g:Zal} (h:ZfS g) (a:Int):∀(k i:Nat) (T:List Bool),i+k=g.work.length→T.length=g.work.length→lp (Zc3 g a) ((i:Int),T)=some (ZmL g a k T)
 | 0,i,T,hi,hT=>by
  have:i=g.work.length:=by omega
  subst this
  rw[Zaq]
  simp only[Zc3,ZbO,cond_false]
  rfl
 | k+1,i,T,hi,hT=>by
  obtain⟨e,hl⟩:=ZER h a 0 T hT
  rw[Zaq]
  simp only[Zc3,Zbo (show i<g.work.length by omega),cond_true,e,Option.bind_some,ZC (show i<g.work.length by omega) h.short.w]
  exact ZuT h a k (i+1) _ (by omega) hl
def Zld (g:Zal) (a:Int):List Bool:=ZmL g a g.work.length (List.replicate g.work.length false)
theorem ZCQ {g:Zal} (h:ZfS g) (a:Int):ZgP g a=some (Zld g a):=by
 have hl:=h.wl
 have:=ZuT h a g.work.length 0 (List.replicate g.work.length false) (by simp) (by simp)
 have e0:lp (Zc3 g a) (0,List.replicate g.work.length false)=some (Zld g a):=this
 unfold ZgP
 rw[decide_eq_true (show(0:Int)≤(g.work.length:Int) by omega),decide_eq_true (show(g.work.length:Int)≤lim by show(g.work.length:Int)≤1073741824;omega),beq_self_eq_true]
 simp only[decide_true,Bool.and_true,cond_true,Int.toNat_natCast,e0,Option.bind_some]
theorem Zvh {g:Zal} (h:ZfS g) (a:Int):∀(l:List Zn) (i:Nat) (T:List Bool),(∀e∈l,e∈g.edges)→T.length=g.work.length→(∀z,0≤z→bAt T z=true→Way g a z)→(∀z,0≤z→bAt (Zh4 (fun _ T e=>Ze8 a T e) i T l) z=true→Way g a z)
 | [],_,_,_,_,hT=>hT
 | e :: l,i,T,hl,hn,hT=>by
  refine Zvh h a l (i+1) _ (fun x hx=>hl x (by simp[hx])) (by rw[Zla];exact hn) fun z hz hb=>?_
  have he:=hl e (by simp)
  have hd:=h.dst e he
  have hb:bAt (Ze8 a T e) z=true:=hb
  unfold Ze8 at hb
  cases hc:(e.src==a) || bAt T e.src with
  | false=>rw[hc] at hb;exact hT z hz hb
  | true=>
   rw[hc] at hb
   simp only[cond_true] at hb
   rw[Zrn (by rw[hn];exact hd.2) z hz,Bool.or_eq_true,decide_eq_true_eq] at hb
   rcases hb with hb | hb
   ·have:z=e.dst:=by omega
    subst this
    rw[Bool.or_eq_true,beq_iff_eq] at hc
    rcases hc with hc | hc
    ·exact hc ▸ Way.one he
    ·exact Way.more (hT _ (h.src e he).1 hc) he
   ·exact hT z hz hb
theorem Zr9 (g:Zal) (a:Int) (T:List Bool):(Zub g a T).length=T.length:=by
 have:∀(l:List Zn) (i:Nat) (T:List Bool),(Zh4 (fun _ T e=>Ze8 a T e) i T l).length=T.length:=by
  intro l
  induction l with
  | nil=>intro i T;rfl
  | cons e l ih=>intro i T;exact(ih (i+1) _).trans (Zla a T e)
 exact this g.edges 0 T
theorem Zsp {g:Zal} (h:ZfS g) (a:Int):∀(k:Nat) (T:List Bool),T.length=g.work.length→(∀z,0≤z→bAt T z=true→Way g a z)→(∀z,0≤z→bAt (ZmL g a k T) z=true→Way g a z)
 | 0,_,_,hT=>hT
 | k+1,T,hn,hT=>Zsp h a k _ (by rw[Zr9];exact hn) (Zvh h a g.edges 0 T (fun _ hx=>hx) hn hT)
def Zlw (g:Zal) (a:Int) (T:List Bool):Prop:=∀e∈g.edges,(e.src=a∨bAt T e.src=true)→bAt T e.dst=true
theorem Zxe {g:Zal}{a:Int}{T:List Bool} (hc:Zlw g a T) {b:Int} (w:Way g a b):bAt T b=true:=by
 generalize ha:a=a' at w
 induction w with
 | one he=>exact hc _ he (.inl ha.symm)
 | more w he ih=>exact hc _ he (.inr (ih ha))
def cnt (T:List Bool):Nat:=T.countP id
theorem Zx3 {T:List Bool}{i:Nat} (hi:i<T.length):cnt T≤cnt (T.set i true)∧(bAt T (i:Int)=false→cnt (T.set i true)=cnt T+1):=by
 have e:=List.countP_set (p:=id) (a:=true) hi
 have hb:bAt T (i:Int)=T[i]:=by unfold bAt;rw[Int.toNat_natCast,List.getElem?_eq_getElem hi]
 unfold cnt
 rw[e,hb]
 have pos:T[i]=true→0<T.countP id:=fun ht=>List.countP_pos_iff.2 ⟨T[i],List.getElem_mem hi,ht⟩
 cases ht:T[i] with
 | true=>have:=pos ht;simp;omega
 | false=>simp
theorem ZuW {g:Zal} (h:ZfS g) (a:Int):∀(l:List Zn) (i:Nat) (T:List Bool),(∀e∈l,e∈g.edges)→T.length=g.work.length →
  cnt T≤cnt (Zh4 (fun _ T e=>Ze8 a T e) i T l)∧(cnt (Zh4 (fun _ T e=>Ze8 a T e) i T l)=cnt T→Zh4 (fun _ T e=>Ze8 a T e) i T l=T∧∀e∈l,(e.src=a∨bAt T e.src=true)→bAt T e.dst=true)
 | [],_,T,_,_=>⟨Nat.le_refl _,fun _=>⟨rfl,fun e he=>by cases he⟩⟩
 | e :: l,i,T,hl,hn=>by
  have he:=hl e (by simp)
  have hd:=h.dst e he
  have hi:e.dst.toNat<T.length:=by rw[hn];exact hd.2
  have hd2:((e.dst.toNat:Nat):Int)=e.dst:=by omega
  obtain⟨k1,k2⟩:=ZuW h a l (i+1) (Ze8 a T e) (fun x hx=>hl x (by simp[hx])) (by rw[Zla];exact hn)
  show cnt T≤cnt (Zh4 _ (i+1) (Ze8 a T e) l)∧(cnt (Zh4 _ (i+1) (Ze8 a T e) l)=cnt T→Zh4 _ (i+1) (Ze8 a T e) l=T∧_)
  obtain⟨c1,c2⟩:=Zx3 hi
  have hstep:cnt T≤cnt (Ze8 a T e)∧(cnt (Ze8 a T e)=cnt T→Ze8 a T e=T∧((e.src=a∨bAt T e.src=true)→bAt T e.dst=true)):=by
   unfold Ze8
   cases hc:(e.src==a) || bAt T e.src with
   | false=>
    simp only[cond_false]
    refine⟨Nat.le_refl _,fun _=>⟨trivial,fun hx=>?_⟩⟩
    exfalso
    rw[Bool.or_eq_false_iff,beq_eq_false_iff_ne] at hc
    rcases hx with hx | hx
    ·exact hc.1 hx
    ·rw[hc.2] at hx;cases hx
   | true=>
    simp only[cond_true]
    refine⟨c1,fun hx=>?_⟩
    cases hb:bAt T e.dst with
    | false=>
     rw[hd2] at c2
     have:=c2 hb
     omega
    | true=>
     refine⟨?_,fun _=>rfl⟩
     have hg:T[e.dst.toNat]=true:=by
      unfold bAt at hb
      rw[List.getElem?_eq_getElem hi] at hb
      exact hb
     rw[← hg,List.set_getElem_self]
  refine⟨by omega,fun hx=>?_⟩
  obtain⟨s1,s2⟩:=hstep.2 (by omega)
  obtain⟨t1,t2⟩:=k2 (by omega)
  rw[s1] at t1 t2 ⊢
  refine⟨t1,fun x hx=>?_⟩
  rcases List.mem_cons.1 hx with rfl | hx
  ·exact s2
  ·exact t2 x hx
theorem Zoo {g:Zal} (h:ZfS g) (a:Int):∀(k:Nat) (T:List Bool),T.length=g.work.length→g.work.length≤cnt T+k→Zlw g a (ZmL g a k T)
 | 0,T,hn,hk=>by
  have hall:cnt T=T.length:=Nat.le_antisymm (List.countP_le_length) (by omega)
  have:=List.countP_eq_length.1 hall
  intro e he _
  have hd:=h.dst e he
  show bAt T e.dst=true
  unfold bAt
  rw[List.getElem?_eq_getElem (show e.dst.toNat<T.length by rw[hn];exact hd.2)]
  exact this _ (List.getElem_mem _)
 | k+1,T,hn,hk=>by
  obtain⟨c1,c2⟩:=ZuW h a g.edges 0 T (fun _ hx=>hx) hn
  by_cases hc:cnt (Zub g a T)=cnt T
  ·obtain⟨t1,t2⟩:=c2 hc
   have t1':Zub g a T=T:=t1
   have stay:∀k,ZmL g a k T=T:=by
    intro k
    induction k with
    | zero=>rfl
    | succ k ih=>show ZmL g a k (Zub g a T)=T;rw[t1'];exact ih
   rw[stay]
   exact t2
  ·have c1':cnt T≤cnt (Zub g a T):=c1
   exact Zoo h a k (Zub g a T) (by rw[Zr9];exact hn) (by omega)
theorem Ztd {g:Zal} (h:ZfS g) {a b:Int} (hb:0≤b):bAt (Zld g a) b=true↔Way g a b:=by
 constructor
 ·exact Zsp h a _ _ (by simp) (fun z hz hx=>by
   exfalso
   unfold bAt at hx
   rw[List.getElem?_replicate] at hx
   split at hx
   ·rename_i heq
    split at heq
    ·cases heq;cases hx
    ·cases heq
   ·cases hx) b hb
 ·exact Zxe (Zoo h a g.work.length (List.replicate g.work.length false) (by simp) (by omega))
theorem Zw4 (g:Zal) (a:Int):(Zld g a).length=g.work.length:=by
 have:∀(k:Nat) (T:List Bool),(ZmL g a k T).length=T.length:=by
  intro k
  induction k with
  | zero=>intro T;rfl
  | succ k ih=>intro T;exact(ih _).trans (Zr9 g a T)
 exact(this _ _).trans (by simp)
theorem Zwu (g:Zal) (h:Zqr g):Zgw g=some (Zhg g):=by
 unfold Zgw
 rw[Zw9 g h,Option.bind_some]
 by_cases h0:Zil g=0
 ·have hG:=ZrO h0
  have key:=ZcB g.work (Zd6 g) (fun i _=>bAt (Zld g (i:Int)) (i:Int)) (fun _ _=>.inl ()) (.inr ()) (fun i x hi hx=>by
    simp only[Zd6,Zbo hi,ZCQ hG,Option.bind_some,ZC hi h.w,cond_true,Zhi (Zw4 g (i:Int)) (z:=(i:Int)) ⟨by omega,by simpa using hi⟩]
    cases bAt (Zld g (i:Int)) (i:Int)<;>rfl) (by simp only[Zd6,ZbO];rfl)
  rw[key,Za2,h0]
  unfold Zhg
  rw[h0]
  by_cases hg:ZqZ g
  ·rw[ZxX hg]
   cases hb:ZfV (fun i _=>bAt (Zld g (i:Int)) (i:Int)) 0 g.work with
   | false=>rfl
   | true=>
    obtain⟨j,x,_,h2⟩:=(Zi9 _ _ 0).1 hb
    exact absurd ((Ztd hG (by omega)).1 h2) (hg _)
  ·rw[Zuc hg]
   cases hb:ZfV (fun i _=>bAt (Zld g (i:Int)) (i:Int)) 0 g.work with
   | true=>rfl
   | false=>
    exfalso
    refine hg fun a w=>?_
    have ha:=w.src_in hG
    have es:((a.toNat:Nat):Int)=a:=by omega
    have:=(Zi9 (fun i (_:Int)=>bAt (Zld g (i:Int)) (i:Int)) g.work 0).2 ⟨a.toNat,_,List.getElem?_eq_getElem ha.2,by rw[Nat.zero_add,es];exact(Ztd hG ha.1).2 w⟩
    rw[hb] at this
    cases this
 ·unfold Zhg
  have hne:(Zil g != 0)=true:=by rw[bne,beq_false_of_ne h0];rfl
  rw[beq_false_of_ne h0,hne]
  rfl
end Go.Proofs.YtnmbdjkbaihicaaGreatDoor
namespace Go.Proofs.YtnmbdjkbaihicaaGreatDoor
open Go Go.Proofs.YtnmbdjkbaihicaaGreatDoorE
set_option linter.unusedVariables false
set_option linter.unusedSimpArgs false
def Zge (d:Zi) (k:Nat):List (Int×Int):=(List.range k).map fun n:Nat=>((n:Int),(ZK d n:Int))
def ZgW (d:Zi) (k:Nat):List (Int×Int):=(List.range k).map fun n:Nat=>((n:Int),((ZK d n+nt d n:Nat):Int))
def Zeo (d:Zi) (k:Nat):List (Zj×Int):=upto (fun n=>Zgs d n (nt d n)) k
theorem ZuB (d:Zi) (k:Nat):Zge d (k+1)=Zge d k++[((k:Int),(ZK d k:Int))]:=by unfold Zge;rw[List.range_succ,List.map_append];rfl
theorem ZvD (d:Zi) (k:Nat):ZgW d (k+1)=ZgW d k++[((k:Int),((ZK d k+nt d k:Nat):Int))]:=by unfold ZgW;rw[List.range_succ,List.map_append];rfl
theorem ZwO (d:Zi) (k:Nat):∀q∈Zge d k,q.1≠(k:Int):=fun q hq=>by
 unfold Zge at hq
 obtain⟨j,hj,rfl⟩:=List.mem_map.1 hq
 rw[List.mem_range] at hj
 show(j:Int)≠(k:Int)
 omega
theorem ZtL (d:Zi) (k:Nat):∀q∈ZgW d k,q.1≠(k:Int):=fun q hq=>by
 unfold ZgW at hq
 obtain⟨j,hj,rfl⟩:=List.mem_map.1 hq
 rw[List.mem_range] at hj
 show(j:Int)≠(k:Int)
 omega
theorem Zo7 {d:Zi}{k:Nat}{q:Zj×Int} (h:q∈Zeo d k):∃n j,n<k∧j<nt d n∧q=(ZgM d n j,((ZK d n+j+1:Nat):Int)):=by
 unfold Zeo upto at h
 obtain⟨n,hn,hq⟩:=List.mem_flatMap.1 h
 unfold Zgs at hq
 obtain⟨j,hj,rfl⟩:=List.mem_map.1 hq
 exact⟨n,j,List.mem_range.1 hn,List.mem_range.1 hj,rfl⟩
theorem ZvY {d:Zi} (g:ZnR d) (k:Nat):∀q∈Zeo d k,q.1.user≠(k:Int):=fun q hq=>by
 obtain⟨n,j,hn,hj,rfl⟩:=Zo7 hq
 show(ZgM d n j).user≠(k:Int)
 rw[(Zgc g hj).2.2.1]
 omega
theorem ZiE {K W:Type} (eq:K→K→Bool) (z:W) (f:Nat→K) (v:Nat→W) {i:Nat} (h0:eq (f i) (f i)=true) (h1:∀j,j<i→eq (f i) (f j)=false):∀k,i<k→Z6 eq ((List.range k).map fun j=>(f j,v j)) (f i) z=v i
 | 0,h=>absurd h (by omega)
 | k+1,h=>by
  rw[List.range_succ,List.map_append]
  by_cases hk:i<k
  ·rw[Ziw eq (f i) z _ _ ⟨(f i,v i),List.mem_map.2 ⟨i,List.mem_range.2 hk,rfl⟩,h0⟩]
   exact ZiE eq z f v h0 h1 k hk
  ·have:i=k:=by omega
   subst this
   refine Ztz eq (f i) z (v i) h0 _ [] fun q hq=>?_
   obtain⟨j,hj,rfl⟩:=List.mem_map.1 hq
   exact h1 j (List.mem_range.1 hj)
theorem ZtN {d:Zi}{z:Int} (h:inR d z):Z6 (fun ka kb:Int=>(ka==kb)) (Zge d d.parts.length) z 0=Ze0 d z:=by
 have:=ZiE eqI 0 (fun n:Nat=>(n:Int)) (fun n=>(ZK d n:Int)) (i:=z.toNat) (by simp) (fun j hj=>beq_false_of_ne (by omega)) d.parts.length h.2
 have e:((z.toNat:Nat):Int)=z:=Int.toNat_of_nonneg h.1
 simp only[e] at this
 exact this
theorem Zsu {d:Zi}{z:Int} (h:inR d z):Z6 (fun ka kb:Int=>(ka==kb)) (ZgW d d.parts.length) z 0=Zb6 d z:=by
 have:=ZiE eqI 0 (fun n:Nat=>(n:Int)) (fun n=>((ZK d n+nt d n:Nat):Int)) (i:=z.toNat) (by simp) (fun j hj=>beq_false_of_ne (by omega)) d.parts.length h.2
 have e:((z.toNat:Nat):Int)=z:=Int.toNat_of_nonneg h.1
 simp only[e] at this
 refine Eq.trans this ?_
 unfold Zb6
 show _=((ZK d z.toNat+(nt d z.toNat+1):Nat):Int)-1
 omega
theorem ZuX {d:Zi} (g:ZbL d) {f:Zj} (h:f∈d.futures):∃j,j<nt d f.user.toNat∧ZgM d f.user.toNat j=f:=by
 obtain⟨m,hm⟩:=List.getElem?_of_mem h
 have hu:=g.user h
 have e:((f.user.toNat:Nat):Int)=f.user:=Int.toNat_of_nonneg hu.1
 have:=(ZoL g.g f.user.toNat).mem (m:Int) |>.2 ⟨m,f,hm,e.symm,rfl⟩
 obtain⟨j,hj,hj2⟩:=List.getElem_of_mem this
 refine⟨j,hj,?_⟩
 unfold ZgM
 rw[List.getElem?_eq_getElem hj]
 show(match d.futures[((tch d f.user.toNat)[j]).toNat]? with | some f=>f | none=>⟨0,0,0⟩)=f
 rw[hj2,Int.toNat_natCast,hm]
theorem ZxK {γ R:Type} (p:Nat→γ→Bool) (out:Nat→γ→R) (fin:R):∀(l:List γ) (i j:Nat) (x:γ),l[j]? = some x→p (i+j) x=true→(∀k y,k<j→l[k]? = some y→p (i+k) y=false)→ZiI p out fin i l=out (i+j) x
 | [],i,j,x,h,_,_=>by cases h
 | y :: l,i,0,x,h,h1,_=>by
  cases h
  unfold ZiI
  rw[Nat.add_zero] at h1
  rw[h1];rfl
 | y :: l,i,j+1,x,h,h1,h2=>by
  unfold ZiI
  have h0:=h2 0 y (by omega) rfl
  rw[Nat.add_zero] at h0
  rw[h0]
  show ZiI p out fin (i+1) l=_
  rw[show i+(j+1)=i+1+j by omega] at h1 ⊢
  exact ZxK p out fin l (i+1) j x h h1 fun k z hk hz=>by
   have:=h2 (k+1) z (by omega) hz
   rwa [show i+(k+1)=i+1+k by omega] at this
theorem Zxy {d:Zi} (g:ZbL d) {f:Zj} (h:f∈d.futures) {j:Nat} (hj:j<nt d f.user.toNat) (he:ZgM d f.user.toNat j=f):Zso d f=((ZK d f.user.toNat+j+1:Nat):Int):=by
 have pos:∀k (hk:k<nt d f.user.toNat),Zep d.futures (tch d f.user.toNat)[k]=(ZgM d f.user.toNat k).pos:=fun k hk=>by
  rw[(Zgc g.g hk).2.2.2.1]
  unfold cut
  rw[if_neg (by omega),Nat.add_sub_cancel,List.getElem?_eq_getElem hk]
 unfold Zso
 rw[ZxK (fun _ z=>Zep d.futures z==f.pos) (fun i _=>Ze0 d f.user+(i:Int)+1) (-1) (tch d f.user.toNat) 0 j _ (List.getElem?_eq_getElem hj) (by show(Zep d.futures (tch d f.user.toNat)[j]==f.pos)=true;rw[pos j hj,he];simp) (fun k y hk hy=>by
  have hk2:k<nt d f.user.toNat:=by omega
  have hy2:(tch d f.user.toNat)[k]=y:=Option.some.inj ((List.getElem?_eq_getElem hk2).symm.trans hy)
  have:=Zr5 g.g hk hj
  rw[he] at this
  show(Zep d.futures y==f.pos)=false
  rw[← hy2,pos k hk2]
  exact beq_false_of_ne (by omega))]
 unfold Ze0
 omega
theorem ZuY (f:Zj):eqF f f=true:=by simp[eqF]
theorem ZyK {d:Zi} (g:ZbL d) {f:Zj} (h:f∈d.futures):Z6 (fun ka kb:Zj=>((ka.maker==kb.maker)&&((ka.user==kb.user)&&((ka.pos==kb.pos)&&true)))) (Zeo d d.parts.length) f 0=Zso d f:=by
 obtain⟨j,hj,he⟩:=ZuX g h
 have hu:=g.user h
 have eu:((f.user.toNat:Nat):Int)=f.user:=Int.toNat_of_nonneg hu.1
 have key:∀k,f.user.toNat<k→Z6 eqF (Zeo d k) f 0=Zso d f:=by
  intro k
  induction k with
  | zero=>intro hk;exact absurd hk (by omega)
  | succ k ih=>
   intro hk
   rw[show Zeo d (k+1)=Zeo d k++Zgs d k (nt d k) from Zb0 _ k]
   by_cases hlt:f.user.toNat<k
   ·rw[Ziw eqF f 0 _ _ ⟨(f,((ZK d f.user.toNat+j+1:Nat):Int)),?_,ZuY f⟩]
    ·exact ih hlt
    ·unfold Zeo upto
     refine List.mem_flatMap.2 ⟨f.user.toNat,List.mem_range.2 hlt,?_⟩
     unfold Zgs
     exact List.mem_map.2 ⟨j,List.mem_range.2 hj,by rw[he]⟩
   ·have hk2:k=f.user.toNat:=by omega
    subst hk2
    rw[ZhO eqF f 0 _ _ (fun q hq=>by
     obtain⟨n,i,hn,hi,rfl⟩:=Zo7 hq
     refine Zuu (.inl ?_)
     show f.user≠(ZgM d n i).user
     rw[(Zgc g.g hi).2.2.1]
     omega)]
    have:=ZiE eqF 0 (fun i=>ZgM d f.user.toNat i) (fun i=>((ZK d f.user.toNat+i+1:Nat):Int)) (i:=j) (ZuY _) (fun i hi=>by
     have:=Zr5 g.g hi hj
     exact Zuu (.inr (by omega))) (nt d f.user.toNat) hj
    rw[Zxy g h hj he]
    rw[he] at this
    exact this
 exact key d.parts.length hu.2
theorem Zxg {d:Zi} (g:ZbL d) (hc:∀n:Nat,ZcK d (n:Int)=some (tch d n)):lp (Zcy d) (0,[],[],[],[],[],[])=some (ZeR d d.parts.length,ZdQ d d.parts.length,Za1 d d.parts.length,Zge d d.parts.length,ZgW d d.parts.length,Zeo d d.parts.length):=by
 have hpl:=g.pl
 have key:∀(k i:Nat),i+k=d.parts.length→lp (Zcy d) ((i:Int),ZeR d i,ZdQ d i,Za1 d i,Zge d i,ZgW d i,Zeo d i)=some (ZeR d d.parts.length,ZdQ d d.parts.length,Za1 d d.parts.length,Zge d d.parts.length,ZgW d d.parts.length,Zeo d d.parts.length):=by
  intro k
  induction k with
  | zero=>
   intro i hi
   have:i=d.parts.length:=by omega
   subst this
   rw[Zaq]
   simp only[Zcy,ZbO,cond_false]
  | succ k ih=>
   intro i hi
   have hi':i<d.parts.length:=by omega
   have hF:=ZeF g i
   have h1:=Zlm d i
   have l1:(ZeR d i).length≤1000:=by rw[ZhL];omega
   have l2:(ZdQ d i).length≤1000:=by omega
   have l3:(Za1 d i).length≤1000:=by rw[Zcc];omega
   have ih':=ih (i+1) (by omega)
   rw[show ZdQ d (i+1)=ZdQ d i++Zfd d i (nt d i) from Zb0 _ i,show ZeR d (i+1)=ZeR d i++ZfO d i from Zb0 _ i,show Za1 d (i+1)=Za1 d i++ZcI i (nt d i+1) from Zb0 _ i,ZuB,ZvD,show Zeo d (i+1)=Zeo d i++Zgs d i (nt d i) from Zb0 _ i] at ih'
   have pe:=Zy3 g hi' (hc i) (ZgW d i) (Zeo d i) l1 l2 l3
   rw[Zw8 g hi' l1 l2 (Zcc d i) (ZtL d i) (ZvY g.g i),Option.bind_some] at pe
   have p4:Zw (fun ka kb:Int=>(ka==kb)) (Zge d i) (i:Int) ((Za1 d i).length:Int)=Zge d i++[((i:Int),(ZK d i:Int))]:=by
    rw[Zcc]
    exact ZhK eqI (i:Int) _ _ fun q hq=>beq_false_of_ne (Ne.symm (ZwO d i q hq))
   have p5:Zw (fun ka kb:Int=>(ka==kb)) (ZgW d i) (i:Int) (ZK d i:Int)=ZgW d i++[((i:Int),(ZK d i:Int))]:=ZhK eqI (i:Int) _ _ fun q hq=>beq_false_of_ne (Ne.symm (ZtL d i q hq))
   have lput:=ZuO (Za1 d i) (Zh.mk (i:Int) 0) (by omega)
   rw[Zcc] at lput
   rw[Zaq]
   by_cases h0:0<nt d i
   ·rw[decide_eq_true h0] at pe
    simp only[Zcy,Zbo hi',cond_true,pe,Option.bind_some,p4,ZC hi' (show d.parts.length<9223372036854775808 by omega)]
    exact ih'
   ·have hz:nt d i=0:=by omega
    rw[decide_eq_false h0] at pe
    simp only[Zcy,Zbo hi',cond_true,cond_false,pe,Option.bind_some,p4,lput,p5,ZC hi' (show d.parts.length<9223372036854775808 by omega)]
    rw[hz] at ih'
    simpa [Zfd,ZcI,Zgs] using ih'
 exact key d.parts.length 0 (by omega)
theorem ZwN {d:Zi} (g:ZbL d) {r3:List Int×List Zn×List Zh×List (Int×Int)×List (Int×Int)×List (Zj×Int)} (h4:r3.2.2.2.1=Zge d d.parts.length) (h5:r3.2.2.2.2.1=ZgW d d.parts.length) (E:List Zn) (hE:E.length≤1000):lp (Zc1 d r3) (0,E)=some (E++Zlp d):=
 have he:=g.el
 Zkb d.edges (by omega) (Zc1 d r3) (fun e=>⟨Zb6 d e.src,Ze0 d e.dst⟩) (fun i x s hi hx hb=>by
  have hm:=List.mem_of_getElem? hx
  have ed:∀b c,ZM b c s=some ():=fun b c=>by unfold ZM;rw[hb];rfl
  simp only[Zc1,Zbo hi,cond_true,ZR hx,Option.bind_some,h4,h5,Zsu (g.src hm),ZtN (g.dst hm),ed,ZC hi (show d.edges.length<9223372036854775808 by omega)]) (fun s=>by simp only[Zc1,ZbO,cond_false]) E (by omega)
theorem Zuy {d:Zi} (g:ZbL d) {r3:List Int×List Zn×List Zh×List (Int×Int)×List (Int×Int)×List (Zj×Int)} (h5:r3.2.2.2.2.1=ZgW d d.parts.length) (h6:r3.2.2.2.2.2=Zeo d d.parts.length) (E:List Zn) (hE:E.length≤1000):lp (Zdb d r3) (0,E)=some (E++ZoA d):=
 have he:=g.fl
 Zkb d.futures (by omega) (Zdb d r3) (fun f=>⟨Zb6 d f.maker,Zso d f⟩) (fun i x s hi hx hb=>by
  have hm:=List.mem_of_getElem? hx
  have ed:∀b c,ZM b c s=some ():=fun b c=>by unfold ZM;rw[hb];rfl
  simp only[Zdb,Zbo hi,cond_true,ZR hx,Option.bind_some,h5,h6,Zsu (g.maker hm),ZyK g hm,ed,ZC hi (show d.futures.length<9223372036854775808 by omega)]) (fun s=>by simp only[Zdb,ZbO,cond_false]) E (by omega)
theorem ZyS {d:Zi} (g:ZbL d) (hz:ZfR d) {r3:List Int×List Zn×List Zh×List (Int×Int)×List (Int×Int)×List (Zj×Int)} (h4:r3.2.2.2.1=Zge d d.parts.length) (h5:r3.2.2.2.2.1=ZgW d d.parts.length) (E:List Zn) (hE:E.length≤1000) :
  lp (Zc7 d r3) (0,ZeR d d.parts.length,E,Za1 d d.parts.length)=some (Zkd d,E++Zdk d d.barriers.length,ZdL d):=by
 have hbl:=g.bl
 have hF:=ZeF g d.parts.length
 have hpl:=g.pl
 have key:∀(k i:Nat),i+k=d.barriers.length→lp (Zc7 d r3) ((i:Int),ZeR d d.parts.length++List.replicate i 1,E++Zdk d i,Za1 d d.parts.length++Zdg i)=some (Zkd d,E++Zdk d d.barriers.length,ZdL d):=by
  intro k
  induction k with
  | zero=>
   intro i hi
   have:i=d.barriers.length:=by omega
   subst this
   rw[Zaq]
   simp only[Zc7,ZbO,cond_false]
   rfl
  | succ k ih=>
   intro i hi
   have hi':i<d.barriers.length:=by omega
   have hx:d.barriers[i]? = some d.barriers[i]:=List.getElem?_eq_getElem hi'
   have hm:=List.mem_of_getElem? hx
   have hsz:=hz.i _ hm
   have hB:=Zlc hz i
   have lp_:(Za1 d d.parts.length++Zdg i).length=ZK d d.parts.length+i:=by rw[List.length_append,Zcc,Zml]
   have lw_:(ZeR d d.parts.length++List.replicate i (1:Int)).length=ZK d d.parts.length+i:=by rw[List.length_append,ZhL,List.length_replicate]
   have lput:=ZuO (Za1 d d.parts.length++Zdg i) (Zh.mk (-1) (i:Int)) (by rw[lp_];omega)
   rw[lp_,show((ZK d d.parts.length+i:Nat):Int)=Zl1 d i from rfl] at lput
   have k4:=fun s=>Zkb d.barriers[i].ins (by omega) (Zd0 r3 ((i:Int),ZeR d d.parts.length++List.replicate i 1,E++Zdk d i,Za1 d d.parts.length++Zdg i) d.barriers[i]) (fun q=>⟨Zb6 d q,Zl1 d i⟩) (fun j x s hj hx hb=>by
    have ed:∀b c,ZM b c s=some ():=fun b c=>by unfold ZM;rw[hb];rfl
    simp only[Zd0,Zbo hj,cond_true,ZR hx,Option.bind_some,h5,Zsu (g.ins _ hm x (List.mem_of_getElem? hx)),lput,ed,ZC hj (show d.barriers[i].ins.length<9223372036854775808 by omega)]) (fun s=>by simp only[Zd0,ZbO,cond_false]) s
   have k5:=fun s=>Zkb d.barriers[i].outs (by omega) (Zd3 r3 ((i:Int),ZeR d d.parts.length++List.replicate i 1,E++Zdk d i,Za1 d d.parts.length++Zdg i) d.barriers[i]) (fun q=>⟨Zl1 d i,Ze0 d q⟩) (fun j x s hj hx hb=>by
    have ed:∀b c,ZM b c s=some ():=fun b c=>by unfold ZM;rw[hb];rfl
    simp only[Zd3,Zbo hj,cond_true,ZR hx,Option.bind_some,h4,ZtN (g.outs _ hm x (List.mem_of_getElem? hx)),lput,ed,ZC hj (show d.barriers[i].outs.length<9223372036854775808 by omega)]) (fun s=>by simp only[Zd3,ZbO,cond_false]) s
   have ih':=ih (i+1) (by omega)
   have eB:Zdk d (i+1)=Zdk d i++ZwG d (Zl1 d i) d.barriers[i]:=by
    unfold Zdk
    rw[Zb0,hx]
   rw[eB,Zpu,List.replicate_succ',ZwG,← List.append_assoc,← List.append_assoc,← List.append_assoc,← List.append_assoc] at ih'
   rw[Zaq]
   simp only[Zc7,Zbo hi',cond_true,ZR hx,Option.bind_some,ZhA _ _ (show(ZeR d d.parts.length++List.replicate i (1:Int)).length≤10000 by rw[lw_];omega) (show(Za1 d d.parts.length++Zdg i).length≤10000 by rw[lp_];omega),k4 (E++Zdk d i) (by rw[List.length_append];omega),
    k5 (E++Zdk d i++List.map (fun q=>⟨Zb6 d q,Zl1 d i⟩) d.barriers[i].ins) (by simp only[List.length_append,List.length_map];omega),ZC hi' (show d.barriers.length<9223372036854775808 by omega)]
   exact ih'
 have:=key d.barriers.length 0 (by omega)
 simpa [Zdk,upto,Zdg] using this
theorem ZqP {d:Zi} (g:ZbL d) (hz:ZfR d):Zqr (Zae d).dag:=by
 have hE:=Zos g
 have hB:=Zlc hz d.barriers.length
 have hbl:=g.bl
 have hF:=ZeF g d.parts.length
 have hpl:=g.pl
 constructor
 ·show(Zkd d).length<_
  unfold Zkd
  rw[List.length_append,ZhL,List.length_replicate]
  omega
 ·show(Zk3 d).length<_
  unfold Zk3
  rw[List.length_append]
  omega
noncomputable def Zmb (d:Zi):ZiA×Int:=
 bif Zfv d==0 then (bif Zhg (Zae d).dag==0 then (Zae d,0) else (⟨⟨[],[]⟩,[]⟩,70)) else (⟨⟨[],[]⟩,[]⟩,Zfv d)
theorem ZxT {d:Zi} (hz:ZfR d):ZfL d=some (Zmb d):=by
 have hs:=hz.short
 unfold ZfL Zmb
 rw[Zt8 d hs,Option.bind_some]
 by_cases hc:Zfv d=0
 ·have g:=Ze9 hc
  have hE:=Zos g
  have h3:(ZdQ d d.parts.length++Zlp d).length≤1000:=by unfold Zik at hE;rw[List.length_append] at hE;omega
  have h4:(ZdQ d d.parts.length).length≤1000:=by rw[List.length_append] at h3;omega
  rw[hc]
  simp only[bne_self_eq_false,cond_false,beq_self_eq_true,cond_true,Zxg g (ZFN hs (by have:=g.fl;omega) hc),Option.bind_some]
  rw[ZwN g rfl rfl _ h4]
  simp only[Option.bind_some]
  rw[Zuy g rfl rfl _ h3]
  simp only[Option.bind_some]
  rw[show ZdQ d d.parts.length++Zlp d++ZoA d=Zik d from rfl,ZyS g hz rfl rfl _ hE]
  simp only[Option.bind_some]
  rw[show Zal.mk (Zkd d) (Zik d++Zdk d d.barriers.length)=(Zae d).dag from rfl,ZrA _ (ZqP g hz),Option.bind_some]
  by_cases hk:Zhg (Zae d).dag=0
  ·rw[hk];rfl
  ·rw[beq_false_of_ne hk,bne,beq_false_of_ne hk];rfl
 ·rw[beq_false_of_ne hc,bne,beq_false_of_ne hc];rfl
theorem Zoz {d:Zi} (hz:ZfR d):ZfE d=some (Zmb d):=by
 have hs:=hz.short
 unfold ZfE Zmb
 rw[ZyF d hs,Option.bind_some]
 by_cases hc:Zfv d=0
 ·have g:=Ze9 hc
  rw[hc]
  simp only[bne_self_eq_false,cond_false,beq_self_eq_true,cond_true,ZoQ g hz,Option.bind_some,Zwu _ (ZqP g hz)]
  by_cases hk:Zhg (Zae d).dag=0
  ·rw[hk];rfl
  ·rw[beq_false_of_ne hk,bne,beq_false_of_ne hk];rfl
 ·rw[beq_false_of_ne hc,bne,beq_false_of_ne hc];rfl
end Go.Proofs.YtnmbdjkbaihicaaGreatDoor
namespace Go.Proofs.YtnmbdjkbaihicaaGreatDoor
open Go Go.Proofs.YtnmbdjkbaihicaaGreatDoorE
set_option linter.unusedVariables false
set_option linter.unusedSimpArgs false
theorem ZBb (d:Zi) (g:ZnR d) (n:Nat):nt d n=d.futures.countP fun f=>f.user==(n:Int):=by
 show(tch d n).length=_
 rw[Ztb (ZoL g n)]
 unfold Zq6
 rw[ZpF]
theorem Ztt {γ:Type} (p q r:γ→Bool) (h:∀x,r x=(p x || q x)) (h2:∀x,¬(p x=true∧q x=true)):∀l:List γ,l.countP r=l.countP p+l.countP q
 | []=>rfl
 | x :: l=>by
  rw[List.countP_cons,List.countP_cons,List.countP_cons,Ztt p q r h h2 l,h x]
  have:=h2 x
  cases hp:p x<;>cases hq:q x<;>simp_all<;>omega
theorem Zpy {d:Zi} (g:ZbL d):∀k,ZK d k=k+d.futures.countP fun f=>decide (0≤f.user)&&decide (f.user<(k:Int))
 | 0=>by
  have:(d.futures.countP fun f=>decide (0≤f.user)&&decide (f.user<((0:Nat):Int)))=0:=by
   rw[List.countP_eq_zero]
   intro f _
   simp only[Bool.and_eq_true,decide_eq_true_eq]
   omega
  rw[this];rfl
 | k+1=>by
  rw[Ztt (fun f:Zj=>decide (0≤f.user)&&decide (f.user<(k:Int))) (fun f=>f.user==(k:Int)) (fun f=>decide (0≤f.user)&&decide (f.user<((k+1:Nat):Int))) (fun f=>by
   rw[Bool.eq_iff_iff]
   simp only[Bool.and_eq_true,Bool.or_eq_true,decide_eq_true_eq,beq_iff_eq]
   omega) (fun f=>by
   simp only[Bool.and_eq_true,decide_eq_true_eq,beq_iff_eq]
   omega)]
  show ZK d k+(nt d k+1)=_
  rw[Zpy g k,ZBb d g.g k]
  omega
theorem ZoE {d:Zi} (g:ZbL d):ZK d d.parts.length=d.parts.length+d.futures.length:=by
 rw[Zpy g,List.countP_eq_length.2 fun f hf=>?_]
 have:=g.user hf
 have h1:=this.1
 have h2:=this.2
 simp only[Bool.and_eq_true,decide_eq_true_eq]
 omega
theorem ZsM {d:Zi} (g:ZbL d):(Zkd d).length=d.parts.length+d.futures.length+d.barriers.length:=by
 unfold Zkd
 rw[List.length_append,ZhL,List.length_replicate,ZoE g]
theorem ZrS {d:Zi} (g:ZbL d):(ZdL d).length=d.parts.length+d.futures.length+d.barriers.length:=by
 unfold ZdL
 rw[List.length_append,Zcc,Zml,ZoE g]
theorem ZwH (d:Zi):(Zmb d=(Zae d,0)∧Zfv d=0∧Zhg (Zae d).dag=0)∨((Zmb d).1=⟨⟨[],[]⟩,[]⟩∧(Zmb d).2≠0):=by
 unfold Zmb
 by_cases hc:Zfv d=0
 ·rw[hc]
  by_cases hk:Zhg (Zae d).dag=0
  ·rw[hk];exact .inl ⟨rfl,rfl,rfl⟩
  ·rw[beq_false_of_ne hk];exact .inr ⟨rfl,by show(70:Int)≠0;omega⟩
 ·rw[beq_false_of_ne hc];exact .inr ⟨rfl,hc⟩
end Go.Proofs.YtnmbdjkbaihicaaGreatDoor
namespace Go.Proofs.YtnmbdjkbaihicaaGreatDoor
open Go Go.Proofs.YtnmbdjkbaihicaaGreatDoorE Go.Sort
set_option linter.unusedVariables false
set_option linter.unusedSimpArgs false
set_option maxRecDepth 20000
end Go.Proofs.YtnmbdjkbaihicaaGreatDoor
namespace Go.Proofs.YtnmbdjkbaihicaaGreatDoor
open Go Go.Proofs.YtnmbdjkbaihicaaGreatDoorE
set_option linter.unusedVariables false
set_option linter.unusedSimpArgs false
theorem ZuU {g:Zal} (h:Zhg g=0):∃l,ZhZ g=some l∧ZCB g l:=by
 obtain⟨hG,hA⟩:=Zdx h
 obtain⟨l,h1,h2⟩:=Ztg hG hA
 refine⟨l,?_,h2⟩
 unfold ZhZ
 rw[ZrA g hG.short,h,Option.bind_some]
 simp only[bne_self_eq_false,cond_false,h1,Option.bind_some,cond_true]
end Go.Proofs.YtnmbdjkbaihicaaGreatDoor
namespace Go.Proofs.YtnmbdjkbaihicaaGreatDoor
open Go Go.Proofs.YtnmbdjkbaihicaaGreatDoorE
set_option linter.unusedVariables false
set_option linter.unusedSimpArgs false
theorem ZvB (d:Zi) {m n:Nat} (h:m≤n):ZK d m≤ZK d n:=by
  induction n with
  | zero => have : m = 0 := by omega
            subst this;exact Nat.le_refl _
  | succ n ih=>
    by_cases hm:m=n+1
    · subst hm;exact Nat.le_refl _
    · have:=ih (by omega)
      show ZK d m≤ZK d n+(nt d n+1)
      omega
theorem Zg7 (d:Zi) (n:Nat):ZK d (n+1)=ZK d n+nt d n+1:=by show ZK d n+(nt d n+1)=_;omega
theorem ZiL (d:Zi) {m n j:Nat} (h:m<n) (hj:j≤nt d m):ZK d m+j<ZK d n:=by
  have:=ZvB d (show m+1≤n by omega)
  have:=Zg7 d m
  omega
theorem Zwa (d:Zi):∀(k i:Nat),i<ZK d k→∃n j,n<k∧j≤nt d n∧i=ZK d n+j
  | 0,i,h=>absurd h (by show ¬i<0;omega)
  | k+1,i,h=>by
    have hs:=Zg7 d k
    by_cases hi:i<ZK d k
    · obtain⟨n,j,h1,h2,h3⟩:=Zwa d k i hi
      exact⟨n,j,by omega,h2,h3⟩
    · exact⟨k,i-ZK d k,by omega,by omega,by omega⟩
theorem Ztf (d:Zi) {m n i j:Nat} (hi:i≤nt d m) (hj:j≤nt d n) (h:ZK d m+i=ZK d n+j):m=n∧i=j:=by
  rcases Nat.lt_trichotomy m n with hlt | heq | hlt
  · have:=ZiL d hlt hi;omega
  · subst heq;exact⟨rfl,by omega⟩
  · have:=ZiL d hlt hj;omega
theorem ZrN (d:Zi):∀(k n j:Nat),n<k→j≤nt d n→(Za1 d k)[ZK d n+j]? = some ⟨(n:Int),(j:Int)⟩
  | 0,n,j,h,_=>absurd h (by omega)
  | k+1,n,j,h,hj=>by
    rw[show Za1 d (k+1)=Za1 d k++ZcI k (nt d k+1) from Zb0 _ k]
    by_cases hn:n<k
    · rw[List.getElem?_append_left (by rw[Zcc];exact ZiL d hn hj)]
      exact ZrN d k n j hn hj
    · have:n=k:=by omega
      subst this
      rw[List.getElem?_append_right (by rw[Zcc];omega),Zcc,Nat.add_sub_cancel_left]
      unfold ZcI
      rw[List.getElem?_map,List.getElem?_range (by omega)]
      rfl
theorem ZvQ {d:Zi}{n j:Nat} (hn:n<d.parts.length) (hj:j≤nt d n):(ZdL d)[ZK d n+j]? = some ⟨(n:Int),(j:Int)⟩:=by
  unfold ZdL
  rw[List.getElem?_append_left (by rw[Zcc];exact ZiL d hn hj)]
  exact ZrN d _ n j hn hj
theorem ZqF {d:Zi}{i:Nat}{x:Zh} (h:(ZdL d)[i]? = some x):(∃n j,n<d.parts.length∧j≤nt d n∧i=ZK d n+j∧x=⟨(n:Int),(j:Int)⟩)∨(ZK d d.parts.length≤i∧x.part = -1):=by
  by_cases hi:i<ZK d d.parts.length
  · obtain⟨n,j,h1,h2,h3⟩:=Zwa d _ i hi
    subst h3
    rw[ZvQ h1 h2] at h
    exact .inl ⟨n,j,h1,h2,rfl,(Option.some.inj h).symm⟩
  · refine .inr ⟨by omega,?_⟩
    unfold ZdL at h
    rw[List.getElem?_append_right (by rw[Zcc];omega)] at h
    have:=List.mem_of_getElem? h
    unfold Zdg at this
    obtain⟨k,_,rfl⟩:=List.mem_map.1 this
    rfl
theorem Zv2 (zs:List (Int×Int)) (p:Int) (hp:0≤p) (i:Nat):∀k,i<k→(pc zs i).1=p→(∀j,i<j→j<k→(pc zs j).1≠p)→Zfx zs p k=(i:Int)
  | 0,h,_,_=>absurd h (by omega)
  | k+1,h,h1,h2=>by
    unfold Zfx
    by_cases hk:k=i
    · subst hk
      rw[h1,bne_self_eq_false,decide_eq_false (show ¬p<0 by omega)]
      rfl
    · have:=h2 k (by omega) (by omega)
      rw[bne_iff_ne.2 this]
      exact Zv2 zs p hp i k (by omega) h1 fun j a b=>h2 j a (by omega)
theorem ZzU {d:Zi} (g:ZbL d) {z:Int} (h:inR d z):Zhl (Zae d) z=some (Zb6 d z):=by
  have hlen:(ZdL d).length≤1000:=by rw[ZrS g];have:=g.pl;have:=g.fl;have:=g.bl;omega
  have ez:((z.toNat:Nat):Int)=z:=Int.toNat_of_nonneg h.1
  have hp:=ZvQ h.2 (Nat.le_refl (nt d z.toNat))
  have hpc:∀(i:Nat) x,(ZdL d)[i]? = some x→(pc (List.map (fun x:Zh=>(x.part,x.step)) (ZdL d)) i).1=x.part:=fun i x hx=>by
    unfold pc
    rw[List.getElem?_map,hx]
    rfl
  have hi:ZK d z.toNat+nt d z.toNat<(ZdL d).length:=(List.getElem?_eq_some_iff.1 hp).1
  have hs:=Zv2 (List.map (fun x:Zh=>(x.part,x.step)) (ZdL d)) z h.1 (ZK d z.toNat+nt d z.toNat) (ZdL d).length hi (by rw[hpc _ _ hp];exact ez) (fun j h1 h2=>by
    have hy:=List.getElem?_eq_getElem h2
    rw[hpc _ _ hy]
    rcases ZqF hy with⟨n,m,m1,m2,m3,m4⟩ | ⟨_,m2⟩
    · rw[m4]
      show(n:Int)≠z
      intro hc
      have:n=z.toNat:=by omega
      subst this
      omega
    · rw[m2];have:=h.1;omega)
  unfold Zhl Zvg
  rw[List.length_map,Zfn (show(Zae d).pieces.length≤1073741824 by show(ZdL d).length≤_;omega)]
  simp only[cond_true,Option.bind_some]
  show some (Zfx (List.map (fun x:Zh=>(x.part,x.step)) (ZdL d)) z (ZdL d).length)=_
  rw[hs]
  unfold Zb6
  rw[Zg7]
  congr 1
  omega
theorem Zza {d:Zi}{n j:Nat} (hn:n<d.parts.length) (hj:j<nt d n):(⟨((ZK d n+j:Nat):Int),((ZK d n+j+1:Nat):Int)⟩:Zn)∈(Zae d).dag.edges:=by
  show _∈Zk3 d
  unfold Zk3 Zik ZdQ upto Zfd
  simp only[List.mem_append,List.mem_flatMap,List.mem_map,List.mem_range]
  exact .inl (.inl (.inl ⟨n,hn,j,hj,rfl⟩))
theorem Zyz {d:Zi}{e:Zn} (h:e∈d.edges):(⟨Zb6 d e.src,Ze0 d e.dst⟩:Zn)∈(Zae d).dag.edges:=by
  show _∈Zk3 d
  unfold Zk3 Zik Zlp
  simp only[List.mem_append,List.mem_map]
  exact .inl (.inl (.inr ⟨e,h,rfl⟩))
theorem Zyw {d:Zi}{f:Zj} (h:f∈d.futures):(⟨Zb6 d f.maker,Zso d f⟩:Zn)∈(Zae d).dag.edges:=by
  show _∈Zk3 d
  unfold Zk3 Zik ZoA
  simp only[List.mem_append,List.mem_map]
  exact .inl (.inr ⟨f,h,rfl⟩)
def ZAY (g:Zal) (a b:Int):Prop:=a=b∨Way g a b
theorem ZAY.way {g:Zal}{a b c:Int} (h:ZAY g a b) (w:Way g b c):Way g a c:=by
  rcases h with rfl | h
  · exact w
  · exact h.trans w
theorem Way.ways {g:Zal}{a b c:Int} (w:Way g a b) (h:ZAY g b c):Way g a c:=by
  rcases h with rfl | h
  · exact w
  · exact w.trans h
theorem ZAA {d:Zi}{n i:Nat} (hn:n<d.parts.length):∀j,i≤j→j≤nt d n→ZAY (Zae d).dag ((ZK d n+i:Nat):Int) ((ZK d n+j:Nat):Int)
  | 0,h1,_=>.inl (by rw[show i=0 by omega])
  | j+1,h1,h2=>by
    by_cases hi:i=j+1
    · exact .inl (by rw[hi])
    · exact .inr ((ZAA hn j (by omega) (by omega)).way (Way.one (Zza hn (show j<nt d n by omega))))
theorem ZE6 {d:Zi}{z:Int} (h:inR d z):ZAY (Zae d).dag (Ze0 d z) (Zb6 d z):=by
  have:=ZAA h.2 (nt d z.toNat) (Nat.zero_le _) (Nat.le_refl _)
  rw[Nat.add_zero] at this
  unfold Ze0 Zb6
  rw[Zg7]
  rwa [show(((ZK d z.toNat+nt d z.toNat+1:Nat):Int)-1)=((ZK d z.toNat+nt d z.toNat:Nat):Int) by omega]
end Go.Proofs.YtnmbdjkbaihicaaGreatDoor
namespace Go.Proofs.YtnmbdjkbaihicaaGreatDoor
open Go Go.Proofs.YtnmbdjkbaihicaaGreatDoorE
set_option linter.unusedVariables false
set_option linter.unusedSimpArgs false
def u32 (n:Int):Int:=n % 4294967296
theorem Zkq (n:Int):0≤u32 n∧u32 n<4294967296:=by unfold u32;omega
theorem Zr8 (n:Int):IntKind.u32.wrap n=u32 n:=by
 unfold IntKind.wrap u32
 rfl
theorem Zm2 (n:Int):Zdh n=some (u32 n):=by
 unfold Zdh
 rw[Zr8]
theorem Zll {n:Int} (h1 : -9223372036854775808≤n) (h2:n<9223372036854775808):ZbT n=some (u32 n):=by
 unfold ZbT u32
 have hm:Int.tmod n 4294967296=if 0≤n∨(4294967296:Int) ∣ n then n % 4294967296 else n % 4294967296-4294967296:=by
  rw[Int.tmod_eq_emod]
  split
  ·exact Int.sub_zero _
  ·rfl
 by_cases h0:Int.tmod n 4294967296<0
 ·rw[decide_eq_true h0]
  have hb : -4294967296<Int.tmod n 4294967296:=Int.lt_tmod_of_pos n (by omega)
  simp only[cond_true]
  rw[ZaS (by omega) (by omega)]
  rw[hm] at h0 ⊢
  split at h0
  ·omega
  ·rename_i hc
   rw[if_neg hc]
   congr 1
   omega
 ·rw[decide_eq_false h0]
  simp only[cond_false]
  rw[hm] at h0 ⊢
  split at h0
  ·rename_i hc;rw[if_pos hc]
  ·have:=Int.emod_lt_of_pos n (show(0:Int)<4294967296 by omega)
   omega
theorem ZDq {a b m n:Int} (h1:0≤a) (h2:a≤m) (h3:0≤b) (h4:b≤n):0≤a*b∧a*b≤m*n:=
 ⟨Int.mul_nonneg h1 h3,Int.mul_le_mul h2 h4 h3 (by omega)⟩
theorem ZCE {a b:Int} (ha:0≤a∧a<4294967296) (hb:0≤b∧b<4294967296):Zgy a b=some (u32 (a*b)):=by
 unfold Zgy
 have e1:Int.tdiv a 65536=a / 65536:=Int.tdiv_eq_ediv_of_nonneg ha.1
 have e2:Int.tmod a 65536=a % 65536:=Int.tmod_eq_emod_of_nonneg ha.1
 have hq:0≤a / 65536∧a / 65536≤65535:=by omega
 have hr:0≤a % 65536∧a % 65536≤65535:=by omega
 have m1:=ZDq hq.1 hq.2 hb.1 (show b≤4294967295 by omega)
 have m2:=ZDq hr.1 hr.2 hb.1 (show b≤4294967295 by omega)
 rw[e1,e2,ZaS (n:=a / 65536) (by omega) (by omega),ZaS (n:=a / 65536*b) (by omega) (by omega),Zll (by omega) (by omega)]
 simp only[Option.bind_some]
 have hu:=Zkq (a / 65536*b)
 rw[Int.tmod_eq_emod_of_nonneg hu.1]
 have hs:0≤u32 (a / 65536*b) % 65536∧u32 (a / 65536*b) % 65536≤65535:=by omega
 rw[ZaS (n:=u32 (a / 65536*b) % 65536*65536) (by omega) (by omega),ZaS (n:=a % 65536*b) (by omega) (by omega),ZaS (by omega) (by omega),Zll (by omega) (by omega)]
 simp only[Option.bind_some]
 congr 1
 have hab:a*b=65536*(a / 65536*b)+a % 65536*b:=by
  conv=>lhs;rw[← Int.mul_ediv_add_emod a 65536]
  rw[Int.add_mul,Int.mul_assoc]
 unfold u32
 rw[hab]
 generalize a / 65536*b=x
 generalize a % 65536*b=y
 omega
def Zli (op:Int) (out v:Int):Int:=if op=2 then u32 (out+v) else if op=3 then u32 (out*v) else if op=4 then (bif decide (out<v) then v else out) else u32 (u32 (out*31)+v)
theorem Zvb {op out v:Int} (h:0≤out∧out<4294967296) (hv:0≤v∧v<4294967296):0≤Zli op out v∧Zli op out v<4294967296:=by
 unfold Zli
 split
 ·exact Zkq _
 split
 ·exact Zkq _
 split
 ·cases decide (out<v)<;>simp[h,hv]
 ·exact Zkq _
def Zp6 (op:Int):Int→List Int→Int
 | out,[]=>out
 | out,v :: l=>Zp6 op (Zli op out (u32 v)) l
theorem ZkK (op:Int):∀(l:List Int) (out:Int),0≤out∧out<4294967296→0≤Zp6 op out l∧Zp6 op out l<4294967296
 | [],out,h=>h
 | v :: l,out,h=>ZkK op l _ (Zvb h (Zkq v))
theorem ZjO (op:Int) (l:List Int) (step:Int×Int→Option ((Int×Int)⊕Int))
  (h1:∀(i:Nat) (x out:Int),i<l.length→l[i]? = some x→0≤out∧out<4294967296→step (out,(i:Int))=some (.inl (Zli op out (u32 x),((i+1:Nat):Int))))
  (h2:∀out,step (out,(l.length:Int))=some (.inr out)) (out:Int) (ho:0≤out∧out<4294967296):lp step (out,0)=some (Zp6 op out l):=by
 have key:∀k i:Nat,i+k=l.length→∀out,0≤out∧out<4294967296→lp step (out,(i:Int))=some (Zp6 op out (l.drop i)):=by
  intro k
  induction k with
  | zero=>
   intro i hi out ho
   have:i=l.length:=by omega
   subst this
   rw[Zaq,h2,List.drop_length]
   rfl
  | succ k ih=>
   intro i hi out ho
   have hi':i<l.length:=by omega
   rw[Zaq,h1 i l[i] out hi' (List.getElem?_eq_getElem hi') ho,List.drop_eq_getElem_cons hi']
   exact ih (i+1) (by omega) _ (Zvb ho (Zkq _))
 have:=key l.length 0 (by omega) out ho
 rwa [List.drop_zero] at this
theorem ZCF (a b:Int):ZgC a b=some (Zli 2 a b):=by unfold ZgC;rw[Zr8];rfl
theorem ZCR (a b:Int):ZgJ a b=some (Zli 3 a b):=by unfold ZgJ;rw[Zr8];rfl
theorem ZCk (a b:Int):ZgG a b=some (Zli 4 a b):=by unfold ZgG;rfl
theorem ZDh (a b:Int):ZgO a b=some (Zli 5 a b):=by unfold ZgO;rw[Zr8,Zr8];rfl
def places (l:List Int) (k:Nat):List (Int×Int):=(List.range k).map fun i:Nat=>((i:Int),(l[i]?).getD 0)
theorem ZqU (l:List Int) (k:Nat):places l (k+1)=places l k++[((k:Int),(l[k]?).getD 0)]:=by simp[places,List.range_succ]
theorem Zp1 (l:List Int) (k:Nat) (j:Int) (hj:j<0∨(k:Int)≤j):∀q∈places l k,eqI j q.1=false:=by
 intro q hq
 simp only[places,List.mem_map,List.mem_range] at hq
 obtain⟨i,hi,rfl⟩:=hq
 show(j==(i:Int))=false
 simp;omega
theorem ZrY (l:List Int):∀(k:Nat) (j:Nat),j<k→Z6 eqI (places l k) (j:Int) 0=(l[j]?).getD 0
 | k+1,j,h=>by
  rw[ZqU]
  by_cases hk:j=k
  ·subst hk
   rw[ZhO eqI _ _ _ _ (Zp1 l j j (.inr (by omega)))]
   show(bif ((j:Int)==(j:Int)) then _ else _)=_
   rw[beq_self_eq_true];rfl
  ·rw[Ziw eqI _ _ _ _ ⟨((j:Int),(l[j]?).getD 0),by simp only[places,List.mem_map,List.mem_range];exact⟨j,by omega,rfl⟩,by simp[eqI]⟩]
   exact ZrY l k j (by omega)
theorem ZCg (l:List Int) (hl:l.length≤1000):lp (Zfq l) (0,([]:List (Int×Int)))=some (places l l.length):=by
 have key:∀k i:Nat,i+k=l.length→lp (Zfq l) ((i:Int),places l i)=some (places l l.length):=by
  intro k
  induction k with
  | zero=>
   intro i hi
   have:i=l.length:=by omega
   subst this
   rw[Zaq]
   simp only[Zfq,ZbO,cond_false]
  | succ k ih=>
   intro i hi
   have hi':i<l.length:=by omega
   have hx:l[i]? = some l[i]:=List.getElem?_eq_getElem hi'
   have e:=ZhK eqI (i:Int) l[i] (places l i) (Zp1 l i i (.inr (by omega)))
   have ih':=ih (i+1) (by omega)
   rw[ZqU,hx] at ih'
   rw[Zaq]
   simp only[Zfq,Zbo hi',ZR hx,Option.bind_some,cond_true,ZC hi' (show l.length<9223372036854775808 by omega),e]
   exact ih'
 exact key l.length 0 (by omega)
def opV (p:ZU) (input vals:List Int):Int:=
 if p.op=0 then (if p.arg<0∨(input.length:Int)≤p.arg then 0 else u32 ((input[p.arg.toNat]?).getD 0)) else
 if p.op=1 then u32 p.arg else if p.op<0∨5<p.op then 0 else Zp6 p.op (if p.op=3 then 1 else if p.op=5 then 7 else 0) vals
theorem ZFM (p:ZU) (input vals:List Int):0≤opV p input vals∧opV p input vals<4294967296:=by
 unfold opV
 split
 ·split
  ·omega
  ·exact Zkq _
 split
 ·exact Zkq _
 split
 ·omega
 ·refine ZkK _ _ _ ?_
  split
  ·omega
  ·split<;>omega
theorem ZBZ (p:ZU) (input vals:List Int) (h1:input.length≤1000) (h2:vals.length≤1000):ZkF p input vals=some (opV p input vals):=by
 have hl:vals.length<9223372036854775808:=by omega
 have fin:∀x:Int,0≤x∧x<4294967296→(some x).bind (fun r=>some (w64 r))=some x:=fun x h=>by
  show some (w64 x)=some x
  rw[ZaS (by omega) (by omega)]
 unfold ZkF opV
 by_cases c0:p.op=0
 ·rw[c0,beq_self_eq_true,if_pos rfl]
  simp only[cond_true]
  rw[ZCg input h1]
  simp only[Option.bind_some,Zm2]
  by_cases c:p.arg<0∨(input.length:Int)≤p.arg
  ·rw[if_pos c,ZqS eqI _ _ _ (Zp1 input input.length p.arg c)]
   rfl
  ·rw[if_neg c]
   obtain⟨j,hj⟩:∃j:Nat,p.arg=(j:Int):=⟨p.arg.toNat,by omega⟩
   rw[hj,ZrY input input.length j (by omega),Int.toNat_natCast]
   exact fin _ (Zkq _)
 rw[show(p.op==0)=false by simpa using c0,if_neg c0]
 by_cases c1:p.op=1
 ·rw[c1,if_pos rfl]
  simp only[cond_false,beq_self_eq_true,cond_true,Zm2]
  exact fin _ (Zkq _)
 rw[show(p.op==1)=false by simpa using c1,if_neg c1]
 simp only[cond_false]
 by_cases c2:p.op<0
 ·rw[decide_eq_true c2,if_pos (.inl c2)];rfl
 by_cases c3:5<p.op
 ·rw[decide_eq_false c2,decide_eq_true c3,if_pos (.inr c3)];rfl
 rw[decide_eq_false c2,decide_eq_false c3,if_neg (by omega),ZaS (by omega) (by omega),decide_eq_true (show 0≤p.op-2 by omega),decide_eq_true (show p.op-2<4 by omega)]
 have hw:ZjH=some ():=rfl
 simp only[cond_false,hw,Option.bind_some,Bool.and_self,cond_true]
 have h4:p.op=2∨p.op=3∨p.op=4∨p.op=5:=by omega
 rcases h4 with h | h | h | h<;>rw[h]
 ·have:=ZjO 2 vals (Zft vals) (fun i x out hi hx ho=>by
   simp only[Zft,Zbo hi,ZR hx,Option.bind_some,cond_true,ZC hi hl,Zm2,ZCF]) (fun out=>by simp only[Zft,ZbO];rfl) 0 (by omega)
  show(lp (Zft vals) (0,0)).bind _=_
  rw[this]
  exact fin _ (ZkK _ _ _ (by omega))
 ·have:=ZjO 3 vals (Zer vals) (fun i x out hi hx ho=>by
   simp only[Zer,Zbo hi,ZR hx,Option.bind_some,cond_true,ZC hi hl,Zm2,ZCR]) (fun out=>by simp only[Zer,ZbO];rfl) 1 (by omega)
  show(lp (Zer vals) (1,0)).bind _=_
  rw[this]
  exact fin _ (ZkK _ _ _ (by omega))
 ·have:=ZjO 4 vals (Zet vals) (fun i x out hi hx ho=>by
   simp only[Zet,Zbo hi,ZR hx,Option.bind_some,cond_true,ZC hi hl,Zm2,ZCk]) (fun out=>by simp only[Zet,ZbO];rfl) 0 (by omega)
  show(lp (Zet vals) (0,0)).bind _=_
  rw[this]
  exact fin _ (ZkK _ _ _ (by omega))
 ·have:=ZjO 5 vals (Zel vals) (fun i x out hi hx ho=>by
   simp only[Zel,Zbo hi,ZR hx,Option.bind_some,cond_true,ZC hi hl,Zm2,ZDh]) (fun out=>by simp only[Zel,ZbO];rfl) 7 (by omega)
  show(lp (Zel vals) (7,0)).bind _=_
  rw[this]
  exact fin _ (ZkK _ _ _ (by omega))
theorem Zxb (p:ZU) (input vals:List Int) (h1:input.length≤1000) (h2:vals.length≤1000) (hp : -9223372036854775808≤p.arg∧p.arg<9223372036854775808) (hi:∀x∈input, -9223372036854775808≤x∧x<9223372036854775808) (hv:∀x∈vals, -9223372036854775808≤x∧x<9223372036854775808) :
  ZiV p input vals=some (opV p input vals):=by
 have hl:vals.length<9223372036854775808:=by omega
 have rd:∀(i:Nat) (x:Int),vals[i]? = some x→ZbT x=some (u32 x):=fun i x hx=>Zll (hv x (List.mem_of_getElem? hx)).1 (hv x (List.mem_of_getElem? hx)).2
 unfold ZiV opV
 by_cases c0:p.op=0
 ·rw[c0,beq_self_eq_true,if_pos rfl]
  simp only[cond_true]
  by_cases c:p.arg<0
  ·rw[decide_eq_true c,if_pos (.inl c)];rfl
  by_cases d:(input.length:Int)≤p.arg
  ·rw[decide_eq_false c,decide_eq_true d,if_pos (.inr d)];rfl
  rw[decide_eq_false c,decide_eq_false d,if_neg (by omega)]
  have hj:p.arg.toNat<input.length:=by omega
  have hx:input[p.arg.toNat]? = some input[p.arg.toNat]:=List.getElem?_eq_getElem hj
  have hb:=hi _ (List.getElem_mem hj)
  rw[ZoW (by omega) hx,hx]
  simp only[cond_false,Option.bind_some,Zll hb.1 hb.2]
  rfl
 rw[show(p.op==0)=false by simpa using c0,if_neg c0]
 by_cases c1:p.op=1
 ·rw[c1,if_pos rfl]
  simp only[cond_false,beq_self_eq_true,cond_true,Zll hp.1 hp.2]
  rfl
 rw[show(p.op==1)=false by simpa using c1,if_neg c1]
 simp only[cond_false]
 by_cases c2:p.op<0
 ·rw[decide_eq_true c2,if_pos (.inl c2)];rfl
 by_cases c3:5<p.op
 ·rw[decide_eq_false c2,decide_eq_true c3,if_pos (.inr c3)];rfl
 rw[decide_eq_false c2,decide_eq_false c3,if_neg (by omega)]
 simp only[cond_false]
 have h4:p.op=2∨p.op=3∨p.op=4∨p.op=5:=by omega
 rcases h4 with h | h | h | h<;>rw[h]
 ·have:=ZjO 2 vals (Zag p vals) (fun i x out hi hx ho=>by
   have hb:=Zkq x
   simp only[Zag,Zbo hi,ZR hx,Option.bind_some,cond_true,ZC hi hl,rd i x hx,h,beq_self_eq_true,ZaS (show -9223372036854775808≤out+u32 x by omega) (by omega),Zll (show -9223372036854775808≤out+u32 x by omega) (by omega)]
   rfl) (fun out=>by simp only[Zag,ZbO];rfl) 0 (by omega)
  show(lp (Zag p vals) (0,0)).bind _=_
  rw[this];rfl
 ·have:=ZjO 3 vals (Zag p vals) (fun i x out hi hx ho=>by
   have hb:=Zkq x
   simp only[Zag,Zbo hi,ZR hx,Option.bind_some,cond_true,ZC hi hl,rd i x hx,h,beq_self_eq_true,show((3:Int)==2)=false from rfl,cond_false,ZCE ho hb]
   rfl) (fun out=>by simp only[Zag,ZbO];rfl) 1 (by omega)
  show(lp (Zag p vals) (1,0)).bind _=_
  rw[this];rfl
 ·have:=ZjO 4 vals (Zag p vals) (fun i x out hi hx ho=>by
   simp only[Zag,Zbo hi,ZR hx,Option.bind_some,cond_true,ZC hi hl,rd i x hx,h,beq_self_eq_true,show((4:Int)==2)=false from rfl,show((4:Int)==3)=false from rfl,cond_false]
   rfl) (fun out=>by simp only[Zag,ZbO];rfl) 0 (by omega)
  show(lp (Zag p vals) (0,0)).bind _=_
  rw[this];rfl
 ·have:=ZjO 5 vals (Zag p vals) (fun i x out hi hx ho=>by
   have hb:=Zkq x
   have e:u32 (out*31+u32 x)=u32 (u32 (out*31)+u32 x):=by unfold u32;omega
   simp only[Zag,Zbo hi,ZR hx,Option.bind_some,cond_true,ZC hi hl,rd i x hx,h,beq_self_eq_true,show((5:Int)==2)=false from rfl,show((5:Int)==3)=false from rfl,show((5:Int)==4)=false from rfl,cond_false,
    ZaS (show -9223372036854775808≤out*31 by omega) (by omega),ZaS (show -9223372036854775808≤out*31+u32 x by omega) (by omega),Zll (show -9223372036854775808≤out*31+u32 x by omega) (by omega),e]
   rfl) (fun out=>by simp only[Zag,ZbO];rfl) 7 (by omega)
  show(lp (Zag p vals) (7,0)).bind _=_
  rw[this];rfl
end Go.Proofs.YtnmbdjkbaihicaaGreatDoor
namespace Go.Proofs.YtnmbdjkbaihicaaGreatDoor
open Go Go.Proofs.YtnmbdjkbaihicaaGreatDoorE
set_option linter.unusedVariables false
set_option linter.unusedSimpArgs false
def ZfW (d:Zi):Prop:=Zfv d=0∧Zhg (Zae d).dag=0
theorem Zrf {d:Zi} (h:ZfW d):Zmb d=(Zae d,0):=by unfold Zmb;rw[h.1,h.2];rfl
theorem Znk {d:Zi} (h:¬ZfW d):(Zmb d).1=⟨⟨[],[]⟩,[]⟩∧(Zmb d).2≠0:=by
 rcases ZwH d with⟨_,h2,h3⟩ | h4
 ·exact absurd ⟨h2,h3⟩ h
 ·exact h4
abbrev ZcD (d:Zi):Nat:=(Zae d).dag.work.length
theorem Zvn {d:Zi} (g:ZbL d):ZcD d=d.parts.length+d.futures.length+d.barriers.length:=ZsM g
theorem Znb {d:Zi} (g:ZbL d):(Zae d).pieces.length=ZcD d:=(ZrS g).trans (ZsM g).symm
structure OKM (d:Zi) (m:ZF):Prop where
 n:m.done.length=ZcD d
 v:m.vals.length=d.parts.length
def va (l:List Int) (p:Int):Int:=match l[p.toNat]? with | some x=>x | none=>0
theorem Zuj {d:Zi}{l:List Int} (o:l.length=d.parts.length) {p:Int} (h:inR d p):ZA l p=some (va l p):=by
 have h2:=h.2
 have e:=List.getElem?_eq_getElem (show p.toNat<l.length by rw[o];exact h2)
 rw[ZoW h.1 e]
 unfold va
 rw[e]
def Zlt (done:List Bool) (e:Zn):Bool:=bAt done e.dst && !(bAt done e.src)
def Zmi (d:Zi) (m:ZF):Bool:=decide (m.done.length=ZcD d)&&(decide (m.vals.length=d.parts.length) && !((Zae d).dag.edges.any (Zlt m.done)))
def ZuN (done:List Bool) (n:Int) (e:Zn):Bool:=(e.dst==n) && !(bAt done e.src)
theorem ZyY {d:Zi}{m:ZF} (h:Zmi d m=true):OKM d m∧∀e∈(Zae d).dag.edges,bAt m.done e.dst=true→bAt m.done e.src=true:=by
 unfold Zmi at h
 simp only[Bool.and_eq_true,decide_eq_true_eq,Bool.not_eq_true',List.any_eq_false] at h
 refine⟨⟨h.1,h.2.1⟩,fun e he hd=>?_⟩
 have:=h.2.2 e he
 unfold Zlt at this
 rw[hd] at this
 simpa using this
theorem ZyX {d:Zi}{m:ZF} (o:OKM d m) (h:∀e∈(Zae d).dag.edges,bAt m.done e.dst=true→bAt m.done e.src=true):Zmi d m=true:=by
 unfold Zmi
 rw[decide_eq_true o.n,decide_eq_true o.v]
 have:(Zae d).dag.edges.any (Zlt m.done)=false:=List.any_eq_false.2 fun e he=>by
  unfold Zlt
  cases hd:bAt m.done e.dst with
  | false=>simp
  | true=>rw[h e he hd];simp
 rw[this]
 rfl
def Zgr (d:Zi) (m:ZF):List Int:=pick (fun i=>Zgt (Zae d).dag m.done i) (ZcD d)
theorem ZtZ {d:Zi} (hz:ZfR d):ZhN d=some (@ite _ (ZfW d) (Classical.propDecidable _) (⟨List.replicate (ZcD d) false,List.replicate d.parts.length 0⟩,0) (⟨[],[]⟩,(Zmb d).2)):=by
 unfold ZhN
 rw[ZxT hz,Option.bind_some]
 by_cases hl:ZfW d
 ·have g:=Ze9 hl.1
  have hG:=(Zdx hl.2).1
  have hwl:=hG.wl
  have hpl:=g.pl
  have hp:(Zae d).pieces.length=ZcD d:=Znb g
  have hp64:ZcD d≤64:=hwl
  rw[if_pos hl,Zrf hl]
  simp only[bne_self_eq_false,cond_false,hp,decide_eq_true (show(0:Int)≤((ZcD d:Nat):Int) by omega),decide_eq_true (show((ZcD d:Nat):Int)≤lim by show((ZcD d:Nat):Int)≤1073741824;omega),beq_self_eq_true,decide_true,Bool.and_self,cond_true,
   decide_eq_true (show(0:Int)≤(d.parts.length:Int) by omega),decide_eq_true (show(d.parts.length:Int)≤lim by show(d.parts.length:Int)≤1073741824;omega),Int.toNat_natCast]
 ·have hne:=(Znk hl).2
  rw[if_neg hl,bne,beq_false_of_ne hne]
  rfl
def ZcY (d:Zi) (n:Int):Option Nat:=(List.range d.parts.length).find? fun p=>Zb6 d (p:Int)==n
theorem Zni {d:Zi}{p:Nat} (h:p<d.parts.length):inR d (p:Int):=⟨by omega,by simpa using h⟩
theorem ZhT {d:Zi}{n:Int}{p:Nat} (h:ZcY d n=some p):p<d.parts.length∧Zb6 d (p:Int)=n:=by
 unfold ZcY at h
 have h1:=List.mem_of_find?_eq_some h
 have h2:=List.find?_some h
 exact⟨List.mem_range.1 h1,by simpa using h2⟩
theorem ZiN (d:Zi) (p:Nat):Zb6 d (p:Int)=((ZK d p+nt d p:Nat):Int):=by
 unfold Zb6
 rw[Int.toNat_natCast,Zg7]
 omega
theorem Zqo {d:Zi}{p:Nat} (hp:p<d.parts.length):ZcY d (Zb6 d (p:Int))=some p:=by
 cases h:ZcY d (Zb6 d (p:Int)) with
 | none=>
  unfold ZcY at h
  have:=List.find?_eq_none.1 h p (List.mem_range.2 hp)
  simp at this
 | some q=>
  obtain⟨h1,h2⟩:=ZhT h
  rw[ZiN,ZiN] at h2
  have:=(Ztf d (Nat.le_refl _) (Nat.le_refl _) (Int.ofNat.inj h2)).1
  rw[this]
noncomputable def Zhf (d:Zi) (input:List Int) (m:ZF) (n:Int):ZF:=
 match ZcY d n with
 | some p=>⟨m.done.set n.toNat true,m.vals.set p (opV (ZhM d (p:Int)) input ((ZcR d (p:Int)).map (va m.vals)))⟩
 | none=>⟨m.done.set n.toNat true,m.vals⟩
end Go.Proofs.YtnmbdjkbaihicaaGreatDoor
namespace Go.Proofs.YtnmbdjkbaihicaaGreatDoor
open Go Go.Proofs.YtnmbdjkbaihicaaGreatDoorE
set_option linter.unusedVariables false
set_option linter.unusedSimpArgs false
theorem ZB0 {l:List Bool} (h1:0<l.length) (h2:l.length≤1000):ZbS l=some ():=by
 unfold ZbS
 rw[show Nat.blt 0 l.length=true by simp[Nat.blt];omega,Zfn (show l.length≤1073741824 by omega)]
 rfl
theorem ZqX {d:Zi}{n:Int} (h:∀p,p<d.parts.length→Zb6 d (p:Int)≠n):ZcY d n=none:=by
 cases hl:ZcY d n with
 | none=>rfl
 | some p=>
  obtain⟨h1,h2⟩:=ZhT hl
  exact absurd h2 (h p h1)
theorem ZCL {d:Zi} (hz:ZfR d) (hl:ZfW d) (input:List Int) (hi:input.length≤1000) {m:ZF} (o:OKM d m) {n:Int} (hn:0≤n∧n.toNat<ZcD d):ZgE d (Zae d) input m n=some (Zhf d input m n):=by
 have g:=Ze9 hl.1
 have hG:=(Zdx hl.2).1
 have hn64:ZcD d≤64:=hG.wl
 have hN:=Zvn g
 have hpl:=g.pl
 have hp1:=g.p1
 have on:=o.n
 have ov:=o.v
 have en:((n.toNat:Nat):Int)=n:=Int.toNat_of_nonneg hn.1
 have hlenP:(ZdL d).length=ZcD d:=Znb g
 have hx:(ZdL d)[n.toNat]? = some (ZdL d)[n.toNat]:=List.getElem?_eq_getElem (by rw[hlenP];exact hn.2)
 generalize hxx:(ZdL d)[n.toNat]'(by rw[hlenP];exact hn.2)=x at hx
 have gp:ZA (Zae d).pieces n=some x:=ZoW hn.1 hx
 unfold ZgE
 simp only[ZB0 (show 0<m.done.length by omega) (by omega),ZCT (show 0<m.vals.length by omega) (by omega),Zhi (g:=(Zae d).dag) on hn,gp,Option.bind_some]
 rcases ZqF hx with⟨p,j,h1,h2,h3,rfl⟩ | ⟨h1,h2⟩
 ·have hr:=Zni h1
  simp only[decide_eq_false (show ¬((p:Int)<0) by omega),cond_false,ZzU g hr,Option.bind_some]
  by_cases hc:Zb6 d (p:Int)=n
  ·obtain⟨hf,ht⟩:=Znn d hz.short hl.1 (p:Int)
   have hfl:=ZqV g ht
   have loop:=Zkb (ZcR d (p:Int)) hfl (Zd8 m (ZcR d (p:Int))) (va m.vals) (fun i x s hi' hx' hb=>by
    simp only[Zd8,Zbo hi',cond_true,ZR hx',Option.bind_some,Zuj ov (Zjr g ht (List.mem_of_getElem? hx')),hb,ZC hi' (show(ZcR d (p:Int)).length<9223372036854775808 by omega)]) (fun s=>by simp only[Zd8,ZbO,cond_false]) [] (by simp)
   rw[List.nil_append] at loop
   have hpp:ZA d.parts (p:Int)=some (ZhM d (p:Int)):=by
    unfold ZhM
    rw[Int.toNat_natCast,List.getElem?_eq_getElem h1]
    exact ZR (List.getElem?_eq_getElem h1)
   have hop:=ZBZ (ZhM d (p:Int)) input ((ZcR d (p:Int)).map (va m.vals)) hi (by rw[List.length_map];exact hfl)
   have hla:ZcY d n=some p:=by rw[← hc];exact Zqo h1
   rw[bne,show(Zb6 d (p:Int)==n)=true by simpa using hc]
   simp only[Bool.not_true,cond_false,hf,loop,Option.bind_some,hpp,hop,Zuj ov hr,Int.toNat_natCast]
   unfold Zhf
   rw[hla]
  ·have hla:ZcY d n=none:=ZqX fun q hq he=>hc (by
    rw[ZiN] at he ⊢
    have:=(Ztf d (Nat.le_refl _) h2 (show ZK d q+nt d q=ZK d p+j by omega)).1
    subst this
    exact he)
   rw[bne,beq_false_of_ne hc]
   unfold Zhf
   rw[hla]
   rfl
 ·have hla:ZcY d n=none:=ZqX fun q hq he=>by
   rw[ZiN] at he
   have:=ZiL d hq (Nat.le_refl (nt d q))
   omega
  rw[h2]
  unfold Zhf
  rw[hla]
  rfl
theorem ZxM {d:Zi} (input:List Int) {m:ZF} (o:OKM d m) (n:Int):OKM d (Zhf d input m n):=by
 unfold Zhf
 cases ZcY d n with
 | none=>exact⟨by rw[List.length_set];exact o.n,o.v⟩
 | some p=>exact⟨by rw[List.length_set];exact o.n,by rw[List.length_set];exact o.v⟩
theorem Zm6 {d:Zi} (input:List Int) (m:ZF) (n:Int):(Zhf d input m n).done=m.done.set n.toNat true:=by
 unfold Zhf
 cases ZcY d n<;>rfl
noncomputable def goM (d:Zi) (input:List Int) (m:ZF) (n:Int):ZF×Int:=
 bif @decide (ZfW d) (Classical.propDecidable _) then
  (bif Zmi d m then
   (bif decide (n<0) || decide ((m.done.length:Int)≤n) then (⟨[],[]⟩,81) else
    bif bAt m.done n then (⟨[],[]⟩,82) else
    bif (Zae d).dag.edges.any (ZuN m.done n) then (⟨[],[]⟩,83) else (Zhf d input m n,0))
  else (⟨[],[]⟩,80))
 else (⟨[],[]⟩,(Zmb d).2)
noncomputable def ZtX (d:Zi) (input:List Int) (m:ZF) (l:List Int):ZF:=l.foldl (Zhf d input) m
def Zji (d:Zi):ZF:=⟨List.replicate (ZcD d) false,List.replicate d.parts.length 0⟩
theorem ZxW (d:Zi):OKM d (Zji d):=⟨by simp[Zji],by simp[Zji]⟩
theorem Zyd {d:Zi} (hz:ZfR d) (input:List Int) (hi:input.length≤1000):(¬ZfW d→Zg1 d input=some ([],(Zmb d).2)) ∧
  (ZfW d→∃l,ZCB (Zae d).dag l∧Zg1 d input=some ((ZtX d input (Zji d) l).vals,0)):=by
 constructor
 ·intro hl
  have hne:=(Znk hl).2
  unfold Zg1
  rw[ZtZ hz,if_neg hl,Option.bind_some]
  simp only
  rw[bne,beq_false_of_ne hne]
  rfl
 ·intro hl
  obtain⟨l,h1,T⟩:=ZuU hl.2
  have hG:=(Zdx hl.2).1
  refine⟨l,T,?_⟩
  have hll:l.length≤64:=by rw[T.len];exact hG.wl
  have loop:∀(k i:Nat) (m:ZF),i+k=l.length→OKM d m→lp (ZeV d input (Zae d,0) l) ((i:Int),m.done,m.vals)=some ((ZtX d input m (l.drop i)).done,(ZtX d input m (l.drop i)).vals):=by
   intro k
   induction k with
   | zero=>
    intro i m hi' o
    have:i=l.length:=by omega
    subst this
    rw[List.drop_length,Zaq]
    simp only[ZeV,ZbO,cond_false]
    rfl
   | succ k ih=>
    intro i m hi' o
    have hil:i<l.length:=by omega
    have hx:l[i]? = some l[i]:=List.getElem?_eq_getElem hil
    have hin:=T.inn l[i] (List.mem_of_getElem? hx)
    rw[List.drop_eq_getElem_cons hil,Zaq]
    simp only[ZeV,Zbo hil,cond_true,ZR hx,Option.bind_some,show ZF.mk m.done m.vals=m from rfl,ZCL hz hl input hi o hin,ZC hil (show l.length<9223372036854775808 by omega)]
    exact ih (i+1) (Zhf d input m l[i]) (by omega) (ZxM input o _)
  have k0:=loop l.length 0 (Zji d) (by omega) (ZxW d)
  rw[List.drop_zero] at k0
  unfold Zg1
  rw[ZtZ hz,if_pos hl,Option.bind_some]
  simp only[bne_self_eq_false,cond_false,ZxT hz,Option.bind_some,Zrf hl,h1]
  have k1:lp (ZeV d input (Zae d,0) l) (0,List.replicate (ZcD d) false,List.replicate d.parts.length 0)=_:=k0
  rw[k1]
  rfl
end Go.Proofs.YtnmbdjkbaihicaaGreatDoor
namespace Go.Proofs.YtnmbdjkbaihicaaGreatDoor
open Go Go.Proofs.YtnmbdjkbaihicaaGreatDoorE
set_option linter.unusedVariables false
set_option linter.unusedSimpArgs false
theorem ZrF {d:Zi} (g:ZbL d) {p q:Int} (ht:Zb1 d p (Zg2 d p)) (hp:inR d p) (hq:q∈ZcR d p):Way (Zae d).dag (Zb6 d q) (Zb6 d p)∧q≠p:=by
 rcases ZqN g ht hq with⟨e,h1,h2,rfl⟩ | ⟨f,h1,h2,rfl⟩
 ·refine⟨?_,by have:=(ZoI (g.g.e e h1)).2.2;rw[h2] at this;exact this⟩
  have w:Way (Zae d).dag (Zb6 d e.src) (Ze0 d e.dst):=Way.one (Zyz h1)
  rw[h2] at w
  exact w.ways (ZE6 hp)
 ·refine⟨?_,by have:=(ZoI (g.g.f f h1).1).2.2;rw[h2] at this;exact this⟩
  have w:Way (Zae d).dag (Zb6 d f.maker) (Zso d f):=Way.one (Zyw h1)
  obtain⟨j,hj,hje⟩:=ZuX g h1
  rw[Zxy g h1 hj hje] at w
  have c:=ZAA (i:=j+1) (g.user h1).2 (nt d f.user.toNat) (by omega) (Nat.le_refl _)
  have e:ZK d f.user.toNat+(j+1)=ZK d f.user.toNat+j+1:=by omega
  rw[e] at c
  have w2:=w.ways c
  have e2:Zb6 d p=((ZK d f.user.toNat+nt d f.user.toNat:Nat):Int):=by
   rw[← h2]
   unfold Zb6
   rw[Zg7]
   omega
  rw[e2]
  exact w2
structure ZoG (d:Zi) (input:List Int) (m:ZF):Prop where
 o:OKM d m
 right:∀e∈(Zae d).dag.edges,bAt m.done e.dst=true→bAt m.done e.src=true
 val:∀p:Nat,p<d.parts.length→bAt m.done (Zb6 d (p:Int))=true→va m.vals (p:Int)=opV (ZhM d (p:Int)) input ((ZcR d (p:Int)).map (va m.vals))
theorem ZoG.way {d:Zi}{input:List Int}{m:ZF} (v:ZoG d input m) {a b:Int} (w:Way (Zae d).dag a b) (h:bAt m.done b=true):bAt m.done a=true:=by
 induction w with
 | one he=>exact v.right _ he h
 | more _ he ih=>exact ih (v.right _ he h)
theorem Zym (d:Zi) (input:List Int):ZoG d input (Zji d):=by
 have no:∀z,bAt (Zji d).done z=false:=fun z=>by
  unfold bAt Zji
  rw[List.getElem?_replicate]
  by_cases h:z.toNat<ZcD d
  ·rw[if_pos h]
  ·rw[if_neg h]
 exact⟨ZxW d,fun e _ h=>(by rw[no] at h;cases h),fun p _ h=>(by rw[no] at h;cases h)⟩
theorem ZuS {l:List Int}{n:Nat} (hl:l.length=n) {p:Nat} (hp:p<n) (v:Int) {q:Int} (hq:0≤q):va (l.set p v) q=if q=(p:Int) then v else va l q:=by
 unfold va
 rw[List.getElem?_set]
 by_cases h:p=q.toNat
 ·rw[if_pos h,if_pos (by rw[hl];exact hp),if_pos (by omega)]
 ·rw[if_neg h,if_neg (by omega)]
theorem Znj {d:Zi}{done:List Bool}{i:Nat}:Zgt (Zae d).dag done i=true↔bAt done (i:Int)=false∧∀e∈(Zae d).dag.edges,e.dst=(i:Int)→bAt done e.src=true:=by
 unfold Zgt
 rw[Bool.and_eq_true,Bool.not_eq_true',Bool.not_eq_true',List.any_eq_false]
 constructor
 ·rintro ⟨h1,h2⟩
  refine⟨h1,fun e he hd=>?_⟩
  have:=h2 e he
  rw[hd] at this
  simpa using this
 ·rintro ⟨h1,h2⟩
  refine⟨h1,fun e he hc=>?_⟩
  simp only[Bool.and_eq_true,beq_iff_eq,Bool.not_eq_true'] at hc
  rw[h2 e he hc.1] at hc
  cases hc.2
theorem Zv7 {d:Zi} (hs:Zfs d) (hl:ZfW d) {input:List Int}{m:ZF} (v:ZoG d input m) {i:Nat} (hi:i<ZcD d) (hr:Zgt (Zae d).dag m.done i=true):ZoG d input (Zhf d input m (i:Int)):=by
 have g:=Ze9 hl.1
 have hG:=(Zdx hl.2).1
 obtain⟨r1,r2⟩:=Znj.1 hr
 have on:=v.o.n
 have ov:=v.o.v
 have hd:∀z,0≤z→bAt (Zhf d input m (i:Int)).done z=(decide (z=(i:Int)) || bAt m.done z):=fun z hz=>by
  rw[Zm6,Int.toNat_natCast]
  exact Zrn (by rw[on];exact hi) z hz
 refine⟨ZxM input v.o _,fun e he h=>?_,fun p hp h=>?_⟩
 ·have s0:=(hG.src e he).1
  have d0:=(hG.dst e he).1
  rw[hd e.dst d0,Bool.or_eq_true,decide_eq_true_eq] at h
  rw[hd e.src s0,Bool.or_eq_true]
  rcases h with h | h
  ·exact .inr (r2 e he h)
  ·exact .inr (v.right e he h)
 ·obtain⟨hf,ht⟩:=Znn d hs hl.1 (p:Int)
  have hpr:=Zni hp
  have lz:(0:Int)≤Zb6 d (p:Int):=by rw[ZiN];omega
  rw[hd _ lz,Bool.or_eq_true,decide_eq_true_eq] at h
  by_cases hc:Zb6 d (p:Int)=(i:Int)
  ·have hla:ZcY d (i:Int)=some p:=by rw[← hc];exact Zqo hp
   unfold Zhf
   rw[hla]
   simp only
   rw[ZuS ov hp _ (by omega),if_pos rfl]
   congr 1
   refine List.map_congr_left fun q hq=>?_
   have hq0:=(Zjr g ht hq).1
   rw[ZuS ov hp _ hq0,if_neg (ZrF g ht hpr hq).2]
  ·have hdone:bAt m.done (Zb6 d (p:Int))=true:=by
    rcases h with h | h
    ·exact absurd h hc
    ·exact h
   have old:=v.val p hp hdone
   cases hla:ZcY d (i:Int) with
   | none=>
    unfold Zhf
    rw[hla]
    exact old
   | some p'=>
    obtain⟨hp',hlz⟩:=ZhT hla
    unfold Zhf
    rw[hla]
    simp only
    rw[ZuS ov hp' _ (by omega),if_neg (fun he=>hc (by rw[he];exact hlz)),old]
    congr 1
    refine List.map_congr_left fun q hq=>?_
    have hqr:=Zjr g ht hq
    rw[ZuS ov hp' _ hqr.1,if_neg]
    intro he
    have:=v.way (ZrF g ht hpr hq).1 hdone
    rw[he,hlz,r1] at this
    cases this
def Zv9 (d:Zi) (m:ZF):Prop:=∀i:Nat,i<ZcD d→bAt m.done (i:Int)=true
theorem Zrk {d:Zi} (g:ZbL d) {p:Nat} (hp:p<d.parts.length):∃i:Nat,i<ZcD d∧Zb6 d (p:Int)=(i:Int):=by
 refine⟨ZK d p+nt d p,?_,ZiN d p⟩
 have:=ZiL d hp (Nat.le_refl (nt d p))
 rw[Zvn g,← ZoE g]
 omega
theorem Zyv {d:Zi} (hs:Zfs d) (hl:ZfW d) {input:List Int}{m o:ZF} (v:ZoG d input m) (w:ZoG d input o) (hm:Zv9 d m) (ho:Zv9 d o):m.vals=o.vals:=by
 have g:=Ze9 hl.1
 obtain⟨l,_,T⟩:=ZuU hl.2
 have key:∀n j:Nat,j<n→∀p:Nat,p<d.parts.length→l[j]? = some (Zb6 d (p:Int))→va m.vals (p:Int)=va o.vals (p:Int):=by
  intro n
  induction n with
  | zero=>intro j hj;omega
  | succ n ih=>
   intro j hj p hp hx
   obtain⟨i,hi,hie⟩:=Zrk g hp
   obtain⟨hf,ht⟩:=Znn d hs hl.1 (p:Int)
   rw[v.val p hp (by rw[hie];exact hm i hi),w.val p hp (by rw[hie];exact ho i hi)]
   congr 1
   refine List.map_congr_left fun q hq=>?_
   have hqr:=Zjr g ht hq
   have eq:((q.toNat:Nat):Int)=q:=Int.toNat_of_nonneg hqr.1
   have wy:=(ZrF g ht (Zni hp) hq).1
   have pos:∀{a b:Int},Way (Zae d).dag a b→∀j:Nat,l[j]? = some b→∃k,k<j∧l[k]? = some a:=by
    intro a b w
    induction w with
    | one he=>intro j hj;exact T.topo j _ hj _ he rfl
    | more _ he ih2=>
     intro j hj
     obtain⟨k,k1,k2⟩:=T.topo j _ hj _ he rfl
     obtain⟨k',k3,k4⟩:=ih2 k k2
     exact⟨k',by omega,k4⟩
   obtain⟨k,k1,k2⟩:=pos wy j hx
   have:=ih k (by omega) q.toNat hqr.2 (by rw[eq];exact k2)
   rwa [eq] at this
 refine List.ext_getElem (by rw[v.o.v,w.o.v]) fun p h1 h2=>?_
 have hp:p<d.parts.length:=by rw[← v.o.v];exact h1
 obtain⟨i,hi,hie⟩:=Zrk g hp
 obtain⟨j,hj⟩:=List.getElem?_of_mem (T.all i hi)
 have:=key (j+1) j (by omega) p hp (by rw[hie];exact hj)
 unfold va at this
 rw[Int.toNat_natCast,List.getElem?_eq_getElem h1,List.getElem?_eq_getElem h2] at this
 exact this
theorem ZCq {d:Zi} (hs:Zfs d) (hl:ZfW d) (input:List Int) {l:List Int} (T:ZCB (Zae d).dag l):ZoG d input (ZtX d input (Zji d) l)∧Zv9 d (ZtX d input (Zji d) l):=by
 have key:∀(k i:Nat) (m:ZF),i+k=l.length→ZoG d input m→(∀z:Int,0≤z→(bAt m.done z=true↔∃j,j<i∧l[j]? = some z))→ZoG d input (ZtX d input m (l.drop i))∧Zv9 d (ZtX d input m (l.drop i)):=by
  intro k
  induction k with
  | zero=>
   intro i m hi v hd
   have:i=l.length:=by omega
   subst this
   rw[List.drop_length]
   refine⟨v,fun i hi2=>(hd (i:Int) (by omega)).2 ?_⟩
   obtain⟨j,hj⟩:=List.getElem?_of_mem (T.all i hi2)
   exact⟨j,(List.getElem?_eq_some_iff.1 hj).1,hj⟩
  | succ k ih=>
   intro i m hi v hd
   have hil:i<l.length:=by omega
   have hx:l[i]? = some l[i]:=List.getElem?_eq_getElem hil
   generalize hn:l[i]=n at hx
   have nin:=T.inn n (List.mem_of_getElem? hx)
   have en:((n.toNat:Nat):Int)=n:=Int.toNat_of_nonneg nin.1
   have hr:Zgt (Zae d).dag m.done n.toNat=true:=by
    refine Znj.2 ⟨?_,fun e he hdst=>?_⟩
    ·rw[en]
     cases hb:bAt m.done n with
     | false=>rfl
     | true=>
      obtain⟨j,j1,j2⟩:=(hd n nin.1).1 hb
      have:=ZtO T.nod j2 hx
      omega
    ·rw[en] at hdst
     exact(hd e.src ((Zdx hl.2).1.src e he).1).2 (T.topo i n hx e he hdst)
   have hs2:=Zv7 hs hl v nin.2 hr
   rw[en] at hs2
   rw[List.drop_eq_getElem_cons hil,hn]
   refine ih (i+1) (Zhf d input m n) (by omega) hs2 fun z hz=>?_
   rw[Zm6,Zrn (by rw[v.o.n];exact nin.2) z hz,Bool.or_eq_true,decide_eq_true_eq,en,hd z hz]
   constructor
   ·rintro (h | ⟨j,j1,j2⟩)
    ·exact⟨i,by omega,by rw[h];exact hx⟩
    ·exact⟨j,by omega,j2⟩
   ·rintro ⟨j,j1,j2⟩
    by_cases hj:j=i
    ·subst hj;rw[hx] at j2;exact .inl (Option.some.inj j2).symm
    ·exact .inr ⟨j,by omega,j2⟩
 have:=key l.length 0 (Zji d) (by omega) (Zym d input) (fun z hz=>by
  constructor
  ·intro h
   exfalso
   have:bAt (Zji d).done z=false:=by
    unfold bAt Zji
    rw[List.getElem?_replicate]
    by_cases h:z.toNat<ZcD d
    ·rw[if_pos h]
    ·rw[if_neg h]
   rw[this] at h
   cases h
  ·rintro ⟨j,j1,_⟩;omega)
 rwa [List.drop_zero] at this
theorem Zsm {d:Zi} (hl:ZfW d) {m:ZF} (o:OKM d m) (h:¬Zv9 d m):∃i:Nat,i<ZcD d∧Zgt (Zae d).dag m.done i=true:=by
 obtain⟨hG,hA⟩:=Zdx hl.2
 have hex:∃i:Nat,i<ZcD d∧bAt m.done (i:Int)=false:=by
  apply Classical.byContradiction
  intro hc
  refine h fun i hi=>?_
  cases hb:bAt m.done (i:Int) with
  | true=>rfl
  | false=>exact absurd ⟨i,hi,hb⟩ hc
 obtain⟨i0,h1,h2⟩:=hex
 obtain⟨n,hn,hn2⟩:=ZvC hA _ (ZuI (ZcD d) m.done) (Nat.le_refl _) (by
  intro he
  have:=Zlg h1 h2
  rw[he] at this;cases this)
 unfold ZuI at hn
 obtain⟨k,hk,rfl⟩:=List.mem_map.1 hn
 obtain⟨k1,k2⟩:=List.mem_filter.1 hk
 rw[List.mem_range] at k1
 refine⟨k,k1,Znj.2 ⟨by simpa using k2,fun e he hd=>?_⟩⟩
 have hs:=hG.src e he
 have es:((e.src.toNat:Nat):Int)=e.src:=Int.toNat_of_nonneg hs.1
 cases hb:bAt m.done e.src with
 | true=>rfl
 | false=>
  refine absurd ?_ (hn2 e he hd)
  rw[← es]
  exact Zlg hs.2 (by rw[es];exact hb)
end Go.Proofs.YtnmbdjkbaihicaaGreatDoor
namespace Go.Proofs.YtnmbdjkbaihicaaGreatDoor
open Go Go.Proofs.YtnmbdjkbaihicaaGreatDoorE
set_option linter.unusedVariables false
set_option linter.unusedSimpArgs false
theorem Zs8 (a b:List Int) (ha:a.length<9223372036854775808):Zgj a b=some (decide (a=b)):=by
 have ne:(((a.length:Int)) != (b.length:Int)) = !decide (a.length=b.length):=by
  by_cases h:a.length=b.length
  ·rw[decide_eq_true h,h];simp
  ·rw[decide_eq_false h,bne,beq_false_of_ne (show((a.length:Int))≠(b.length:Int) by omega)]
 unfold Zgj
 rw[ne]
 by_cases hl:a.length=b.length
 ·rw[decide_eq_true hl,ZCi a b hl (ZeE a b) (fun i x y hi hx hy=>by
   have e:(x != y) = !decide (x=y):=by
    by_cases h:x=y
    ·subst h;simp
    ·rw[decide_eq_false h];simpa using h
   simp only[ZeE,Zbo hi,ZR hx,ZR hy,Option.bind_some,ZC hi ha,cond_true,e]
   cases decide (x=y)<;>rfl) (by simp only[ZeE,ZbO];rfl)]
  cases decide (a=b)<;>rfl
 ·rw[decide_eq_false hl,decide_eq_false (fun e=>hl (by rw[e]))]
  rfl
end Go.Proofs.YtnmbdjkbaihicaaGreatDoor
namespace Go.Proofs.YtnmbdjkbaihicaaGreatDoor
open Go Go.Proofs.YtnmbdjkbaihicaaGreatDoorE
set_option linter.unusedVariables false
set_option linter.unusedSimpArgs false
theorem Zyr (d:Zi) (he:d.edges.length≤1000) (hf:d.futures.length≤1000) (g:ZnR d) (u:Int) {r:List Int} (hr:Zb1 d u r):ZfF d u=some (Zsl d u r):=by
 have h2:=Zsv g u
 have e:=h2.eq hr
 have k1:=ZtF d he u (Zgb d u) (fun t=>rfl)
 have k2:=Zru d (tl d u 0 99) (sel (fun e:Zn=>e.dst==u) (fun _ e=>e.src) 0 d.edges) (Nat.le_trans (ZjT h2) hf) (Nat.le_trans (Zm9 _ _ _ _) (by omega)) (ZvR h2) (Zga d (tl d u 0 99)) (fun t=>rfl)
 unfold ZfF Zsl
 simp only[k1,Option.bind_some,ZqK d hf u,k2,← e]
end Go.Proofs.YtnmbdjkbaihicaaGreatDoor
namespace Go.Proofs.YtnmbdjkbaihicaaGreatDoor
open Go Go.Proofs.YtnmbdjkbaihicaaGreatDoorE
set_option linter.unusedVariables false
set_option linter.unusedSimpArgs false
noncomputable def Zwt (d:Zi) (m:ZF):Int:=bif @decide (ZfW d) (Classical.propDecidable _) then (bif Zmi d m then 0 else 80) else (Zmb d).2
theorem ZBl (a b:Nat):(((a:Int)) != (b:Int)) = !decide (a=b):=by
 by_cases h:a=b
 ·subst h;simp
 ·rw[decide_eq_false h,bne,beq_false_of_ne (show(a:Int)≠(b:Int) by omega)]
theorem Zu8 {d:Zi} (hz:ZfR d) (m:ZF):Zgu d m=some (Zwt d m):=by
 unfold Zgu Zwt
 rw[Zoz hz,Option.bind_some]
 by_cases hl:ZfW d
 ·have g:=Ze9 hl.1
  have hG:=(Zdx hl.2).1
  rw[@decide_eq_true _ (Classical.propDecidable _) hl,Zrf hl]
  simp only[bne_self_eq_false,cond_false,cond_true]
  rw[ZBl,ZBl,Znb g]
  unfold Zmi
  by_cases h1:m.done.length=ZcD d
  ·rw[decide_eq_true h1]
   by_cases h2:m.vals.length=d.parts.length
   ·have h1':m.done.length=(Zae d).dag.work.length:=h1
    have k:=ZcB (Zae d).dag.edges (Zeh m (Zae d,0)) (fun _ e=>Zlt m.done e) (fun _ _=>.inl ()) (.inr ()) (fun i x hi hx=>by
     have hm:=List.mem_of_getElem? hx
     simp only[Zeh,Zbo hi,cond_true,ZR hx,Option.bind_some,Zhi h1' (hG.dst x hm),Zhi h1' (hG.src x hm),ZC hi hG.short.e,Zlt]
     cases bAt m.done x.dst<;>cases bAt m.done x.src<;>rfl) (by simp only[Zeh,ZbO];rfl)
    rw[Za2,Ze6] at k
    rw[decide_eq_true h2]
    simp only[Bool.not_true,cond_false,Bool.true_and,k,Option.bind_some]
    cases (Zae d).dag.edges.any (Zlt m.done)<;>rfl
   ·rw[decide_eq_false h2];rfl
  ·rw[decide_eq_false h1];rfl
 ·have hne:=(Znk hl).2
  rw[@decide_eq_false _ (Classical.propDecidable _) hl,bne,beq_false_of_ne hne]
  rfl
def ZpO (a n:Int) (e:Zn):Bool:=(e.src==a)&&(e.dst==n)
theorem ZDQ {g:Zal} (hG:ZfS g) (a n:Int):Zhc g a n=some (g.edges.any (ZpO a n)):=by
 have k:=ZcB g.edges (ZeH g a n) (fun _ e=>ZpO a n e) (fun _ _=>.inl ()) (.inr ()) (fun i x hi hx=>by
  simp only[ZeH,Zbo hi,cond_true,ZR hx,Option.bind_some,ZC hi hG.short.e,ZpO]
  cases x.src==a<;>cases x.dst==n<;>rfl) (by simp only[ZeH,ZbO];rfl)
 rw[Za2,Ze6] at k
 unfold Zhc
 rw[k]
 cases g.edges.any (ZpO a n)<;>rfl
theorem ZwU {g:Zal} (hG:ZfS g) (n:Int):ZgF g n=some (pick (fun a=>g.edges.any (ZpO (a:Int) n)) g.work.length):=by
 have hwl:=hG.wl
 have k:=Zyh g.work (by omega) (fun a=>g.edges.any (ZpO (a:Int) n)) (Zea g n) (fun i s hi=>by
  simp only[Zea,Zbo hi,cond_true,ZDQ hG,Option.bind_some,ZC hi (show g.work.length<9223372036854775808 by omega)]) (fun s=>by simp only[Zea,ZbO,cond_false])
 unfold ZgF
 rw[k];rfl
theorem ZxR {d:Zi} (hz:ZfR d) (hl:ZfW d) {m:ZF} (on:m.done.length=ZcD d) {i:Nat} (hi:i<ZcD d):ZhC d m (i:Int)=some (Zgt (Zae d).dag m.done i):=by
 have g:=Ze9 hl.1
 have hG:=(Zdx hl.2).1
 have hwl:=hG.wl
 unfold ZhC
 rw[ZoQ g hz,Option.bind_some,ZwU hG,Option.bind_some]
 generalize hp:pick (fun a=>(Zae d).dag.edges.any (ZpO (a:Int) (i:Int))) (Zae d).dag.work.length=ps
 have hpl:ps.length≤64:=by rw[← hp];exact Nat.le_trans (ZhX _ _) hwl
 have inn:∀z∈ps,0≤z∧z.toNat<(Zae d).dag.work.length:=fun z hz2=>by
  rw[← hp] at hz2
  obtain⟨k,h1,_,rfl⟩:=ZkV.1 hz2
  exact⟨by omega,by simpa using h1⟩
 have k:=ZcB ps (ZfG m ps) (fun _ z=>!(bAt m.done z)) (fun _ _=>.inl ()) (.inr ()) (fun j x hj hx=>by
  simp only[ZfG,Zbo hj,cond_true,ZR hx,Option.bind_some,Zhi on (inn x (List.mem_of_getElem? hx)),ZC hj (show ps.length<9223372036854775808 by omega)]
  cases bAt m.done x<;>rfl) (by simp only[ZfG,ZbO];rfl)
 rw[Za2,Ze6] at k
 have same:ps.any (fun z=>!(bAt m.done z))=(Zae d).dag.edges.any fun e=>(e.dst==(i:Int)) && !(bAt m.done e.src):=by
  rw[Bool.eq_iff_iff,List.any_eq_true,List.any_eq_true]
  constructor
  ·rintro ⟨z,h1,h2⟩
   rw[← hp] at h1
   obtain⟨a,h3,h4,rfl⟩:=ZkV.1 h1
   obtain⟨e,h5,h6⟩:=List.any_eq_true.1 h4
   unfold ZpO at h6
   simp only[Bool.and_eq_true,beq_iff_eq] at h6
   exact⟨e,h5,by rw[h6.2,h6.1,h2];simp⟩
  ·rintro ⟨e,h1,h2⟩
   simp only[Bool.and_eq_true,beq_iff_eq] at h2
   have hs:=hG.src e h1
   have es:((e.src.toNat:Nat):Int)=e.src:=Int.toNat_of_nonneg hs.1
   refine⟨e.src,?_,h2.2⟩
   rw[← hp]
   refine ZkV.2 ⟨e.src.toNat,hs.2,?_,es.symm⟩
   refine List.any_eq_true.2 ⟨e,h1,?_⟩
   unfold ZpO
   rw[es,h2.1]
   simp
 have hb:ZA m.done (i:Int)=some (bAt m.done (i:Int)):=Zhi (g:=(Zae d).dag) on ⟨by omega,by simpa using hi⟩
 rw[k]
 unfold Zgt
 rw[same]
 cases (Zae d).dag.edges.any fun e=>(e.dst==(i:Int)) && !(bAt m.done e.src) with
 | true=>simp only[cond_true,Option.bind_some,Bool.not_true,Bool.and_false]
 | false=>
  simp only[cond_false,Option.bind_some,hb]
  cases bAt m.done (i:Int)<;>rfl
theorem Zxj {d:Zi} (hz:ZfR d) (hl:ZfW d) {m:ZF} (on:m.done.length=ZcD d):ZfH d m=some (Zgr d m):=by
 have hn64:ZcD d≤64:=(Zdx hl.2).1.wl
 have k:=Zyh m.done (by omega) (fun i=>Zgt (Zae d).dag m.done i) (Zef d m) (fun i s hi=>by
  simp only[Zef,Zbo hi,cond_true,ZxR hz hl on (show i<ZcD d by omega),Option.bind_some,ZC hi (show m.done.length<9223372036854775808 by omega)]) (fun s=>by simp only[Zef,ZbO,cond_false])
 unfold ZfH Zgr
 rw[k,on];rfl
def Zkh (l:List Int):Prop:=∀x∈l, -9223372036854775808≤x∧x<9223372036854775808
theorem ZCo {l:List Int} (h:Zkh l) (p:Int) : -9223372036854775808≤va l p∧va l p<9223372036854775808:=by
 unfold va
 cases hx:l[p.toNat]? with
 | none=>simp
 | some x=>exact h x (List.mem_of_getElem? hx)
theorem ZyI {d:Zi}{p:Nat} (h:p<d.parts.length):ZA d.parts (p:Int)=some (ZhM d (p:Int)):=by
 unfold ZhM
 rw[Int.toNat_natCast,List.getElem?_eq_getElem h]
 exact ZR (List.getElem?_eq_getElem h)
theorem Zu2 {d:Zi} (hz:ZfR d) (hl:ZfW d) (input:List Int) (hi:input.length≤1000) (wi:Zkh input) {m:ZF} (o:OKM d m) (wv:Zkh m.vals) (n:Int):lp (Zb8 d input m n) (0,m.vals)=some (Zhf d input m n).vals:=by
 have g:=Ze9 hl.1
 have hpl:=g.pl
 let st:Nat→List Int:=fun i=>match ZcY d n with
  | some p=>if p<i then m.vals.set p (opV (ZhM d (p:Int)) input ((ZcR d (p:Int)).map (va m.vals))) else m.vals
  | none=>m.vals
 have key:∀(k i:Nat),i+k=d.parts.length→lp (Zb8 d input m n) ((i:Int),st i)=some (st d.parts.length):=by
  intro k
  induction k with
  | zero=>
   intro i hi'
   have:i=d.parts.length:=by omega
   subst this
   rw[Zaq]
   simp only[Zb8,ZbO,cond_false]
  | succ k ih=>
   intro i hi'
   have hil:i<d.parts.length:=by omega
   rw[Zaq]
   by_cases hc:Zb6 d (i:Int)=n
   ·have hla:ZcY d n=some i:=by rw[← hc];exact Zqo hil
    have s0:st i=m.vals:=by
     show(match ZcY d n with | some p=>if p<i then _ else m.vals | none=>m.vals)=_
     rw[hla]
     exact if_neg (by omega)
    have s1:st (i+1)=m.vals.set i (opV (ZhM d (i:Int)) input ((ZcR d (i:Int)).map (va m.vals))):=by
     show(match ZcY d n with | some p=>if p<i+1 then _ else m.vals | none=>m.vals)=_
     rw[hla]
     exact if_pos (by omega)
    obtain⟨hf,ht⟩:=Znn d hz.short hl.1 (i:Int)
    have hfl:=ZqV g ht
    have ef:ZfF d (i:Int)=some (ZcR d (i:Int)):=Zyr d (by have:=hz.e;omega) (by have:=hz.f;omega) g.g _ ht
    have loop:=Zkb (ZcR d (i:Int)) hfl (Zdy m (ZcR d (i:Int))) (va m.vals) (fun j x s hj hx hb=>by
     simp only[Zdy,Zbo hj,cond_true,ZR hx,Option.bind_some,Zuj o.v (Zjr g ht (List.mem_of_getElem? hx)),hb,ZC hj (show(ZcR d (i:Int)).length<9223372036854775808 by omega)]) (fun s=>by simp only[Zdy,ZbO,cond_false]) [] (by simp)
    rw[List.nil_append] at loop
    have harg:=g.arg (ZhM d (i:Int)) (by
     unfold ZhM
     rw[Int.toNat_natCast,List.getElem?_eq_getElem hil]
     exact List.getElem_mem hil)
    have hop:=Zxb (ZhM d (i:Int)) input ((ZcR d (i:Int)).map (va m.vals)) hi (by rw[List.length_map];exact hfl) (by omega) wi (fun y hy=>by
     obtain⟨z,_,rfl⟩:=List.mem_map.1 hy
     exact ZCo wv z)
    have ih':=ih (i+1) (by omega)
    rw[s1] at ih'
    rw[s0]
    have hset:ZA m.vals (i:Int)=some (va m.vals (i:Int)):=Zuj o.v (Zni hil)
    simp only[Zb8,Zbo hil,cond_true,Zjq g (Zni hil),Option.bind_some,bne,show(Zb6 d (i:Int)==n)=true by simpa using hc,Bool.not_true,cond_false,ef,loop,ZyI hil,hop,hset,Int.toNat_natCast,ZC hil (show d.parts.length<9223372036854775808 by omega)]
    exact ih'
   ·have same:st (i+1)=st i:=by
     show(match ZcY d n with | some p=>if p<i+1 then _ else m.vals | none=>m.vals)=(match ZcY d n with | some p=>if p<i then _ else m.vals | none=>m.vals)
     cases hla:ZcY d n with
     | none=>rfl
     | some p=>
      obtain⟨h1,h2⟩:=ZhT hla
      have hne:p≠i:=fun e=>hc (by rw[← e];exact h2)
      by_cases hlt:p<i
      ·simp only[if_pos hlt,if_pos (show p<i+1 by omega)]
      ·simp only[if_neg hlt,if_neg (show ¬p<i+1 by omega)]
    have ih':=ih (i+1) (by omega)
    rw[same] at ih'
    simp only[Zb8,Zbo hil,cond_true,Zjq g (Zni hil),Option.bind_some,bne,beq_false_of_ne hc,Bool.not_false,ZC hil (show d.parts.length<9223372036854775808 by omega)]
    exact ih'
 have s0:st 0=m.vals:=by
  show(match ZcY d n with | some p=>if p<0 then _ else m.vals | none=>m.vals)=_
  cases ZcY d n with
  | none=>rfl
  | some p=>exact if_neg (by omega)
 have sN:st d.parts.length=(Zhf d input m n).vals:=by
  show(match ZcY d n with | some p=>if p<d.parts.length then _ else m.vals | none=>m.vals)=_
  unfold Zhf
  cases hla:ZcY d n with
  | none=>rfl
  | some p=>exact if_pos (ZhT hla).1
 have:=key d.parts.length 0 (by omega)
 rw[s0,sN] at this
 exact this
theorem Zvk {d:Zi} (hz:ZfR d) (input:List Int) (hi:input.length≤1000) (wi:Zkh input) (m:ZF) (wv:Zkh m.vals) (n:Int):Zfc d input m n=some (goM d input m n):=by
 unfold Zfc goM
 rw[Zu8 hz,Option.bind_some]
 unfold Zwt
 by_cases hl:ZfW d
 ·have hG:=(Zdx hl.2).1
  have hn64:ZcD d≤64:=hG.wl
  rw[@decide_eq_true _ (Classical.propDecidable _) hl]
  simp only[cond_true]
  cases hr:Zmi d m with
  | false=>rfl
  | true=>
   have o:=(ZyY hr).1
   have on:=o.n
   have ov:=o.v
   have hpl:=(Ze9 hl.1).pl
   by_cases h1:n<0
   ·rw[decide_eq_true h1];rfl
   by_cases h2:(m.done.length:Int)≤n
   ·rw[decide_eq_false h1,decide_eq_true h2];rfl
   have hn:0≤n∧n.toNat<ZcD d:=⟨by omega,by omega⟩
   have en:((n.toNat:Nat):Int)=n:=Int.toNat_of_nonneg hn.1
   have is:=ZxR hz hl on hn.2
   rw[en] at is
   have w:(Zae d).dag.edges.any (ZuN m.done n)=(Zae d).dag.edges.any fun e=>(e.dst==n) && !(bAt m.done e.src):=rfl
   have hx:m.done[n.toNat]? = some (bAt m.done n):=by
    have:=List.getElem?_eq_getElem (show n.toNat<m.done.length by rw[on];exact hn.2)
    unfold bAt
    rw[this]
   have fd:=Zm6 (d:=d) input m n
   rw[decide_eq_false h1,decide_eq_false h2]
   simp only[cond_true,bne_self_eq_false,cond_false,Bool.or_self,Zhi (g:=(Zae d).dag) on hn,Option.bind_some,is,w]
   unfold Zgt
   rw[en]
   cases bAt m.done n with
   | true=>rfl
   | false=>
    cases (Zae d).dag.edges.any fun e=>(e.dst==n) && !(bAt m.done e.src) with
    | true=>rfl
    | false=>
     simp only[Bool.not_false,Bool.and_self,cond_true,cond_false,Zfn (show m.done.length≤1073741824 by omega),Zfn (show m.vals.length≤1073741824 by omega),hx,Option.bind_some,Zu2 hz hl input hi wi o wv n]
     rw[← fd]
 ·have hne:=(Znk hl).2
  rw[@decide_eq_false _ (Classical.propDecidable _) hl]
  simp only[cond_false]
  rw[bne,beq_false_of_ne hne]
  rfl
theorem ZyL {d:Zi}{m:ZF} (h:Zkh m.vals) (input:List Int) (n:Int):Zkh (Zhf d input m n).vals:=by
 intro x hx
 unfold Zhf at hx
 cases hla:ZcY d n with
 | none=>rw[hla] at hx;exact h x hx
 | some p=>
  rw[hla] at hx
  rcases List.mem_or_eq_of_mem_set hx with hx | rfl
  ·exact h x hx
  ·have:=ZFM (ZhM d (p:Int)) input ((ZcR d (p:Int)).map (va m.vals))
   omega
theorem ZvH {d:Zi} (hs:Zfs d) (hl:ZfW d) {input:List Int}{m:ZF} (v:ZoG d input m) {z:Int} (hz:z∈Zgr d m):goM d input m z=(Zhf d input m z,0)∧ZoG d input (Zhf d input m z)∧cnt (Zhf d input m z).done=cnt m.done+1:=by
 unfold Zgr at hz
 obtain⟨i,hi,hr,rfl⟩:=ZkV.1 hz
 obtain⟨r1,r2⟩:=Znj.1 hr
 have on:=v.o.n
 refine⟨?_,Zv7 hs hl v hi hr,?_⟩
 ·unfold goM
  have hw:(Zae d).dag.edges.any (ZuN m.done (i:Int))=false:=List.any_eq_false.2 fun e he hc=>by
   unfold ZuN at hc
   simp only[Bool.and_eq_true,beq_iff_eq,Bool.not_eq_true'] at hc
   rw[r2 e he hc.1] at hc
   cases hc.2
  rw[@decide_eq_true _ (Classical.propDecidable _) hl,ZyX v.o v.right,decide_eq_false (show ¬(i:Int)<0 by omega),decide_eq_false (show ¬(m.done.length:Int)≤(i:Int) by rw[on];omega),r1,hw]
  rfl
 ·rw[Zm6,Int.toNat_natCast]
  exact(Zx3 (by rw[on];exact hi)).2 r1
theorem Zu6 {d:Zi} (hz:ZfR d) (hl:ZfW d):Zg4 d=some (Zji d):=by
 have g:=Ze9 hl.1
 have hn64:ZcD d≤64:=(Zdx hl.2).1.wl
 have hpl:=g.pl
 unfold Zg4 Zji
 rw[ZoQ g hz,Option.bind_some,Znb g]
 simp only[decide_eq_true (show(0:Int)≤((ZcD d:Nat):Int) by omega),decide_eq_true (show((ZcD d:Nat):Int)≤lim by show((ZcD d:Nat):Int)≤1073741824;omega),beq_self_eq_true,decide_true,Bool.and_self,cond_true,
  decide_eq_true (show(0:Int)≤(d.parts.length:Int) by omega),decide_eq_true (show(d.parts.length:Int)≤lim by show(d.parts.length:Int)≤1073741824;omega),Int.toNat_natCast]
theorem ZAR {d:Zi} (hz:ZfR d) (hl:ZfW d) (input:List Int) (hi:input.length≤1000) (wi:Zkh input):∃m,ZoG d input m∧Zv9 d m∧Zf0 d input=some (m.vals,0):=by
 have hs:=hz.short
 have hn64:ZcD d≤64:=(Zdx hl.2).1.wl
 have loop:∀(k i:Nat) (m:ZF),i+k=ZcD d→ZoG d input m→Zkh m.vals→cnt m.done=i→∃m',ZoG d input m'∧Zv9 d m'∧lp (Zex d input) ((i:Int),m.done,m.vals)=some (m'.done,m'.vals):=by
  intro k
  induction k with
  | zero=>
   intro i m hk v wv hc
   have on:=v.o.n
   refine⟨m,v,Classical.byContradiction fun hn=>?_,?_⟩
   ·obtain⟨j,hj,hr⟩:=Zsm hl v.o hn
    have:=(ZvH hs hl v (show(j:Int)∈Zgr d m from ZkV.2 ⟨j,hj,hr,rfl⟩)).2
    have h2:cnt (Zhf d input m (j:Int)).done≤(Zhf d input m (j:Int)).done.length:=List.countP_le_length
    rw[this.1.o.n,this.2] at h2
    omega
   ·rw[Zaq]
    simp only[Zex]
    rw[decide_eq_false (by rw[on];omega)]
    rfl
  | succ k ih=>
   intro i m hk v wv hc
   have on:=v.o.n
   have hready:ZfH d (ZF.mk m.done m.vals)=some (Zgr d m):=Zxj hz hl on
   have hna:¬Zv9 d m:=fun ha=>by
    have:cnt m.done=m.done.length:=by
     unfold cnt
     rw[List.countP_eq_length]
     intro a ha2
     obtain⟨j,hj⟩:=List.getElem?_of_mem ha2
     have:=ha j (by rw[← on];exact(List.getElem?_eq_some_iff.1 hj).1)
     unfold bAt at this
     rw[Int.toNat_natCast,hj] at this
     exact this
    rw[this,on] at hc
    omega
   obtain⟨j,hj,hr⟩:=Zsm hl v.o hna
   have hm:(j:Int)∈Zgr d m:=ZkV.2 ⟨j,hj,hr,rfl⟩
   have hpos:0<(Zgr d m).length:=List.length_pos_iff.2 fun he=>by rw[he] at hm;cases hm
   have rl:(Zgr d m).length≤64:=Nat.le_trans (ZhX _ _) hn64
   have ew:w64 (((Zgr d m).length:Int)-1)=(((Zgr d m).length-1:Nat):Int):=by rw[ZaS (by omega) (by omega)];omega
   have hlt:(Zgr d m).length-1<(Zgr d m).length:=by omega
   have hx:=List.getElem?_eq_getElem hlt
   have hin:=List.getElem_mem hlt
   generalize (Zgr d m)[(Zgr d m).length-1]=z at hx hin
   obtain⟨s1,s2,s3⟩:=ZvH hs hl v hin
   have hfin:Zfc d input (ZF.mk m.done m.vals) z=some (Zhf d input m z,0):=by
    have:=Zvk hz input hi wi m wv z
    rw[s1] at this
    exact this
   obtain⟨m',q1,q2,q3⟩:=ih (i+1) (Zhf d input m z) (by omega) s2 (ZyL wv input z) (by rw[s3,hc])
   refine⟨m',q1,q2,?_⟩
   rw[Zaq]
   simp only[Zex,decide_eq_true (show(i:Int)<(m.done.length:Int) by rw[on];omega),cond_true,hready,Option.bind_some,decide_eq_true (show(0:Int)<((Zgr d m).length:Int) by omega),ew,ZR hx,hfin,ZaS (show -9223372036854775808≤(i:Int)+1 by omega) (by omega)]
   exact q3
 obtain⟨m',q1,q2,q3⟩:=loop (ZcD d) 0 (Zji d) (by omega) (Zym d input) (fun x hx=>by
  unfold Zji at hx
  rw[(List.mem_replicate.1 hx).2]
  omega) (by
  unfold cnt Zji
  rw[List.countP_eq_zero]
  intro x hx
  rw[(List.mem_replicate.1 hx).2]
  simp)
 refine⟨m',q1,q2,?_⟩
 unfold Zf0
 rw[Zoz hz,Zrf hl,Option.bind_some]
 simp only[bne_self_eq_false,cond_false,Zu6 hz hl,Option.bind_some]
 have q3':lp (Zex d input) (0,(Zji d).done,(Zji d).vals)=_:=q3
 rw[q3']
 rfl
theorem Zxc {d:Zi} (hz:ZfR d) (hl:¬ZfW d) (input:List Int):Zf0 d input=some ([],(Zmb d).2):=by
 have hne:=(Znk hl).2
 unfold Zf0
 rw[Zoz hz,Option.bind_some,bne,beq_false_of_ne hne]
 rfl
theorem ZBa (a b:List Bool) (he:a.length=b.length) (hl:a.length<9223372036854775808) (step:Int→Option (Int⊕(Unit⊕Unit)))
  (h1:∀(i:Nat) x y,i<a.length→a[i]? = some x→b[i]? = some y→step (i:Int)=some (bif x==y then .inl ((i+1:Nat):Int) else .inr (.inl ()))) (h2:step (a.length:Int)=some (.inr (.inr ()))):lp step 0=some (bif decide (a=b) then .inr () else .inl ()):=by
 have key:∀k i:Nat,i+k=a.length→lp step (i:Int)=some (bif decide (a.drop i=b.drop i) then .inr () else .inl ()):=by
  intro k
  induction k with
  | zero=>
   intro i hi
   have:i=a.length:=by omega
   subst this
   rw[Zaq,h2,List.drop_length,he,List.drop_length]
   rfl
  | succ k ih=>
   intro i hi
   have hi1:i<a.length:=by omega
   have hi2:i<b.length:=by omega
   rw[Zaq,h1 i a[i] b[i] hi1 (List.getElem?_eq_getElem hi1) (List.getElem?_eq_getElem hi2),List.drop_eq_getElem_cons hi1,List.drop_eq_getElem_cons hi2]
   by_cases hc:a[i]=b[i]
   ·rw[show(a[i]==b[i])=true by simpa using hc]
    simp only[cond_true]
    rw[ih (i+1) (by omega)]
    have:decide (a[i] :: a.drop (i+1)=b[i] :: b.drop (i+1))=decide (a.drop (i+1)=b.drop (i+1)):=decide_eq_decide.2 ⟨fun h=>(List.cons.inj h).2,fun h=>by rw[h,hc]⟩
    rw[this]
   ·rw[show(a[i]==b[i])=false by simpa using hc,decide_eq_false (fun h=>hc (List.cons.inj h).1)]
    rfl
 exact key a.length 0 (by omega)
theorem ZwC (a b:List Bool) (hl:a.length<9223372036854775808):ZgB a b=some (decide (a=b)):=by
 unfold ZgB
 rw[ZBl]
 by_cases he:a.length=b.length
 ·rw[decide_eq_true he,ZBa a b he hl (Zd1 a b) (fun i x y hi hx hy=>by
   simp only[Zd1,Zbo hi,ZR hx,ZR hy,Option.bind_some,ZC hi hl,cond_true]
   cases x<;>cases y<;>rfl) (by simp only[Zd1,ZbO];rfl)]
  cases decide (a=b)<;>rfl
 ·rw[decide_eq_false he,decide_eq_false (fun e=>he (by rw[e]))]
  rfl
theorem Zsh (a b:ZF) (h1:a.done.length<9223372036854775808) (h2:a.vals.length<9223372036854775808):Zgl a b=some (decide (a.done=b.done)&&decide (a.vals=b.vals)):=by
 unfold Zgl
 rw[ZwC _ _ h1,Zs8 _ _ h2,Option.bind_some]
 cases decide (a.done=b.done)<;>cases decide (a.vals=b.vals)<;>rfl
theorem ZE8 (d:Zi) (b:List Int) (m:ZF):Zia d b m=some (few d&&(decide ((b.length:Int)≤60)&&(decide ((m.done.length:Int)≤70)&&decide ((m.vals.length:Int)≤70)))):=by
 unfold Zia
 rw[ZFw,Option.bind_some]
 cases few d<;>cases decide ((b.length:Int)≤60)<;>cases decide ((m.done.length:Int)≤70)<;>cases decide ((m.vals.length:Int)≤70)<;>rfl
theorem ZC0 {d:Zi}{b:List Int}{m:ZF} (h:(few d&&(decide ((b.length:Int)≤60)&&(decide ((m.done.length:Int)≤70)&&decide ((m.vals.length:Int)≤70))))=true):ZfR d∧b.length≤60∧m.done.length≤70∧m.vals.length≤70:=by
 simp only[Bool.and_eq_true,decide_eq_true_eq] at h
 exact⟨Zyu h.1,by omega,by omega,by omega⟩
end Go.Proofs.YtnmbdjkbaihicaaGreatDoor
