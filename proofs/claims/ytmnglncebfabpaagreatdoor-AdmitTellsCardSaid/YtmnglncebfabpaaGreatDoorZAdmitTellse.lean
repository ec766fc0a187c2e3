/- AdmitTells: part 5 of 6 of the proof. -/
import Derived.Test.YtmnglncebfabpaaGreatDoorZAdmitTellsd
set_option maxRecDepth 100000
set_option maxHeartbeats 40000000
set_option linter.unusedVariables false
set_option linter.unusedSimpArgs false
namespace Go.Proofs.YtmnglncebfabpaaGreatDoor
open Go Go.Proofs.YtmnglncebfabpaaGreatDoorE
open Go.IntKind (u64 i64 u32 i32 u8)
open Int (toNat_of_nonneg le_refl toNat_natCast)
theorem ZnQ (l:List Zf) (hl:l.length<=1000):Zg9 l=some (Zc1 l):=by
 have key:=ZcG l (Zgq l) (fun _ s=>!(okS s)) (fun _ _=>.inl ()) (.inr ()) (fun i x hi hx=>by
   simp only[Zgq,ZaW hi,ZI hx,bS,Zqo,Zw hi (by omega),cT]
   unfold okS
   cases Ze7 x with
   | false=>rfl
   | true=>
    by_cases h:x.deadline<x.total
    ·rw[dT h,dF (show ¬x.total<=x.deadline by omega)];rfl
    ·rw[dF h,dT (show x.total<=x.deadline by omega)];rfl) (by simp only[Zgq,Zbh];rfl)
 unfold Zg9 Zc1
 rw[key,Zbg,ZgV]
 cases (l.any fun s=>!(okS s)) with
 | true=>simp
 | false=>
  by_cases h:(8:Int)<(l.length:Int)
  ·rw[dT h];simp only[bS,dF (show ¬(l.length:Int)<=8 by omega),cF];rfl
  ·rw[dF h];simp only[bS,dT (show(l.length:Int)<=8 by omega),cF];rfl
theorem Zma {γ S:Type} (f:S->γ->S):∀(l:List γ) (i:Nat) (s:S),Zck (fun _ s x=>f s x) i s l=l.foldl f s
 | [],_,_=>rfl
 | x :: l,i,s=>Zma f l (i+1) (f s x)
theorem ZnN (l:List Zf) (h:Zc1 l=true):Zif l=some (hor l):=by
 have hl:=(ZdY h).1
 have:=(ZeS l (Zdk l) (fun i n=>(n,(i:Int))) (fun _ n s=>max n s.period) id (fun _ _=>True) (fun i x n hi hx _=>by
   refine⟨?_,trivial⟩
   simp only[Zdk,ZaW hi,cT,ZnQ l (by omega),h,ZI hx,bS,Zw hi (by omega)]
   by_cases q:n<x.period
   ·rw[dT q,cT,show max n x.period=x.period by omega]
   ·rw[dF q,cF,show max n x.period=n by omega]) (fun n _=>by simp only[Zdk,Zbh,cF];rfl) 0 trivial).1
 have h0:0<=hor l:=by
  clear this h hl
  induction l with
  | nil=>exact le_refl _
  | cons s l ih=>unfold hor;omega
 unfold Zif
 rw[show lp (Zdk l) (0,0)=_ from this,Zma,ZmT (fun s=>s.period) hor rfl (fun _ _=>rfl) l 0 (le_refl _),show max (0:Int) (hor l)=hor l by omega]
 rfl
theorem ZqV (l:List Zf) (h:Zc1 l=true) (t:Int) (h1:1<=t) (h2:t<=4096):ZiL l t=some (dem t l):=by
 obtain⟨hl,ho⟩:=ZdY h
 have:=(ZeS l (ZdM l t) (fun i n=>(n,(i:Int))) (fun _ n s=>n+Zg1 t s) id (fun i n=>0<=n/\n<=33554432*(i:Int)) (fun i x n hi hx hI=>by
   have o:=(ho x (mG hx)).1
   obtain⟨b1,b2⟩:=ZnH o h1 h2
   have:=o.t1;have:=o.t2;have:=o.d1;have:=o.d2;have:=o.p
   obtain⟨i1,i2⟩:=hI
   refine⟨?_,by omega,by omega⟩
   simp only[ZdM,ZaW hi,cT,ZI hx,bS,Zw hi (by omega)]
   unfold Zg1 at b1 b2 ⊢
   by_cases hd:t<x.deadline
   ·rw[dF (show ¬x.deadline<=t by omega),if_pos hd,Int.add_zero];rfl
   ·rw[dT (show x.deadline<=t by omega),if_neg hd]
    rw[if_neg hd] at b1 b2
    have q1:0<=(t-x.deadline) / x.period:=Int.ediv_nonneg (by omega) (by omega)
    have q2:(t-x.deadline) / x.period<=t-x.deadline:=Int.ediv_le_self _ (by omega)
    have e1:w64 (t-x.deadline)=t-x.deadline:=Za0 (by omega)
    have e2:w64 (Int.tdiv (t-x.deadline) x.period)=(t-x.deadline) / x.period:=by
     rw[Int.tdiv_eq_ediv_of_nonneg (by omega)]
     exact Za0 (by omega)
    have e3:w64 ((t-x.deadline) / x.period+1)=(t-x.deadline) / x.period+1:=Za0 (by omega)
    have e4:w64 (x.total*((t-x.deadline) / x.period+1))=x.total*((t-x.deadline) / x.period+1):=Za0 (by omega)
    have e5:w64 (n+x.total*((t-x.deadline) / x.period+1))=n+x.total*((t-x.deadline) / x.period+1):=Za0 (by omega)
    simp only[cT,cF,show(x.period==0)=false by simp;omega,e1,e2,e3,e4,e5]) (fun n _=>by simp only[ZdM,Zbh,cF];rfl) 0 (by simp)).1
 unfold ZiL
 rw[show lp (ZdM l t) (0,0)=_ from this,Zma,ZsN (Zg1 t) (dem t) rfl (fun _ _=>rfl),Int.zero_add]
 rfl
theorem Zv2 (l:List Zf) (h:Zc1 l=true) (t:Int):Zjm l t=some (blk t l):=by
 obtain⟨hl,ho⟩:=ZdY h
 have:=(ZeS l (ZeB l t) (fun i n=>(n,(i:Int))) (fun _ n s=>max n (Zkl t s)) id (fun _ n=>0<=n) (fun i x n hi hx hI=>by
   have o:=(ho x (mG hx)).1
   refine⟨?_,by show 0<=max n (Zkl t x);omega⟩
   simp only[ZeB,ZaW hi,cT,ZI hx,bS,Zw hi (by omega)]
   unfold Zkl
   by_cases hd:t<x.deadline
   ·rw[dT hd,if_pos hd,cT]
    by_cases hm:n<x.most
    ·rw[dT hm,cT,show max n x.most=x.most by omega]
    ·rw[dF hm,cF,show max n x.most=n by omega]
   ·rw[dF hd,if_neg hd,cF,show max n (0:Int)=n by omega]) (fun n _=>by simp only[ZeB,Zbh,cF];rfl) 0 (le_refl _)).1
 have hb:=(ZrP (le_refl t) (l:=l) fun s hs=>(ho s hs).1).2
 unfold Zjm
 rw[show lp (ZeB l t) (0,0)=_ from this,Zma,ZmT (Zkl t) (blk t) rfl (fun _ _=>rfl) l 0 (le_refl _),show max (0:Int) (blk t l)=blk t l by omega]
 rfl
def ZxC (l:List Zf) (t:Int):Prop:=0<dem t l->dem t l+blk t l<=t
theorem ZwK (l:List Zf) (hc:Zc1 l=true):ZwS l↔∀t,1<=t->t<=hor l->ZxC l t:=by
 have ho:=fun s hs=>((ZdY hc).2 s hs).1
 constructor
 ·intro h t h1 h2 hd
  exact ZEk h h1 hd
 ·intro h
  refine⟨hc,fun s hs k hk=>?_⟩
  have o:=ho s hs
  have:=o.d1;have:=o.d2;have:=o.t1
  have hp:0<=(k:Int)*s.period:=Int.mul_nonneg (by omega) (by omega)
  refine h (s.deadline+k*s.period) (by omega) hk ?_
  have key:∀{m:List Zf},(∀x∈m,Zhh x)->s∈m->Zg1 (s.deadline+k*s.period) s<=dem (s.deadline+k*s.period) m:=fun {m}=>by
   induction m with
   | nil=>intro _ hs;cases hs
   | cons y m ih=>
    intro hm hs
    have n1:=Zrt (hm y (by simp)) (s.deadline+k*s.period)
    have n2:=Zu0 (s.deadline+k*s.period) (l:=m) fun x hx=>hm x (by simp[hx])
    unfold dem
    rcases List.mem_cons.1 hs with rfl | hs
    ·omega
    ·have:=ih (fun x hx=>hm x (by simp[hx])) hs
     omega
  have k1:=key ho hs
  have k2:1<=Zg1 (s.deadline+k*s.period) s:=by
   unfold Zg1
   rw[if_neg (by omega),show s.deadline+(k:Int)*s.period-s.deadline=(k:Int)*s.period by omega,Int.mul_ediv_cancel _ (by omega)]
   have:s.total*1<=s.total*((k:Int)+1):=Int.mul_le_mul_of_nonneg_left (by omega) (by omega)
   omega
  omega
theorem Zx8 (l:List Zf) (hc:Zc1 l=true):∀(k:Nat) (t:Int),1<=t->t+k=hor l+1->(lp (Zbv l) t=some (.inr ())/\∀u,t<=u->u<=hor l->ZxC l u)∨(lp (Zbv l) t=some (.inl ())/\∃u,t<=u/\u<=hor l/\¬ZxC l u):=by
 have hh:=ZFe (ZdY hc).2
 intro k
 induction k with
 | zero=>
  intro t h1 ht
  refine .inl ⟨?_,fun u a b=>by omega⟩
  rw[ZY]
  simp only[Zbv,ZnN l hc,bS,dF (show ¬t<=hor l by omega),cF]
 | succ k ih=>
  intro t h1 ht
  have hle:t<=hor l:=by omega
  have b:=Zu3 hc h1 (show t<=4096 by omega)
  have hl:=(ZdY hc).1
  have hw:w64 (t+1)=t+1:=Za0 (by omega)
  have hw2:w64 (dem t l+blk t l)=dem t l+blk t l:=Za0 (by omega)
  have recr:ZxC l t->lp (Zbv l) t=lp (Zbv l) (t+1)->(lp (Zbv l) t=some (.inr ())/\∀u,t<=u->u<=hor l->ZxC l u)∨(lp (Zbv l) t=some (.inl ())/\∃u,t<=u/\u<=hor l/\¬ZxC l u):=fun hg he=>by
   rcases ih (t+1) (by omega) (by omega) with⟨q1,q2⟩ | ⟨q1,u,q2,q3,q4⟩
   ·refine .inl ⟨by rw[he];exact q1,fun u a b=>?_⟩
    by_cases e:u=t
    ·rw[e];exact hg
    ·exact q2 u (by omega) b
   ·exact .inr ⟨by rw[he];exact q1,u,by omega,q3,q4⟩
  by_cases hd:0<dem t l
  ·by_cases hq:t<dem t l+blk t l
   ·refine .inr ⟨?_,t,le_refl _,hle,fun hg=>by have:=hg hd;omega⟩
    rw[ZY]
    simp only[Zbv,ZnN l hc,bS,dT hle,cT,ZqV l hc t h1 (by omega),dT hd,Zv2 l hc t,hw2,dT hq]
   ·refine recr (fun _=>by omega) ?_
    rw[ZY]
    simp only[Zbv,ZnN l hc,bS,dT hle,cT,ZqV l hc t h1 (by omega),dT hd,Zv2 l hc t,hw2,dF hq,cF,hw]
  ·refine recr (fun e=>absurd e hd) ?_
   rw[ZY]
   simp only[Zbv,ZnN l hc,bS,dT hle,cT,ZqV l hc t h1 (by omega),dF hd,cF,hw]
theorem Zz2 (l:List Zf) (hl:l.length<=1000):ZiC l=some (ZqG l):=by
 unfold ZiC
 rw[ZnQ l hl,bS]
 cases hc:Zc1 l with
 | false=>
  have:ZqG l=false:=Bool.eq_false_iff.2 fun e=>by have:=((Zm8 l).1 e).1;rw[hc] at this;cases this
  rw[this];rfl
 | true=>
  have h0:0<=hor l:=by
   clear hl hc
   induction l with
   | nil=>exact le_refl _
   | cons s l ih=>unfold hor;omega
  rw[cT]
  rcases Zx8 l hc (hor l).toNat 1 (by omega) (by omega) with⟨q1,q2⟩ | ⟨q1,u,q2,q3,q4⟩
  ·rw[q1,(Zm8 l).2 ((ZwK l hc).2 q2)];rfl
  ·rw[q1,show ZqG l=false from Bool.eq_false_iff.2 fun e=>q4 ((ZwK l hc).1 ((Zm8 l).1 e) u q2 q3)];rfl
open Nat (le_trans zero_le add_zero zero_add sub_self)
open List (length_nil length_take length_map length_set length_cons map_cons length_replicate length_singleton getElem_mem mem_cons map_append drop_zero append_assoc take_length append_nil range_succ take_add_one cons_append sum_cons)
noncomputable section
def on (l:List Zf) (at_:LI) (core:Int):List Zf:=((l.zip at_).filter fun p=>p.2==core).map Prod.fst
theorem ZHn (l:List Zf) (at_:LI) (core:Int):(on l at_ core).length<=l.length:=by
 unfold on
 rw[length_map]
 refine le_trans (List.length_filter_le _ _) ?_
 rw[List.length_zip]
 omega
theorem ZN0 (l:List Zf) (hl:l.length<=1000) (at_:LI) (core:Int):Zpu l at_ core=some (on l at_ core):=by
 have key:∀(k i:Nat) (s:List Zf),i+k=l.length->s.length<=i->lp (ZgI l at_ core) ((i:Int),s)=some (s++on (l.drop i) (at_.drop i) core):=by
  intro k
  induction k with
  | zero=>
   intro i s hi hs
   have:i=l.length:=by omega
   subst this
   rw[ZY,List.drop_length]
   simp only[ZgI,Zbh,cF]
   simp[on]
  | succ k ih=>
   intro i s hi hs
   have hi':i<l.length:=by omega
   rw[ZY,List.drop_eq_getElem_cons hi']
   have w:=Zw hi' (show l.length<9223372036854775808 by omega)
   by_cases ha:i<at_.length
   ·rw[List.drop_eq_getElem_cons ha]
    simp only[ZgI,ZaW hi',ZI (gE hi'),bS,cT,ZaW ha,ZI (gE ha),Zeg (show s.length+1<=1073741824 by omega),w]
    unfold on
    rw[List.zip_cons_cons,List.filter_cons]
    cases at_[i]==core with
    | true=>
     simp only[cT,if_true,map_cons]
     rw[ih (i+1) (s++[l[i]]) (by omega) (by rw[lA,length_singleton];omega)]
     unfold on
     simp
    | false=>
     simp only[cF,Bool.false_eq_true,if_false]
     rw[ih (i+1) s (by omega) (by omega)]
     rfl
   ·simp only[ZgI,ZaW hi',ZI (gE hi'),bS,cT,dF (show ¬(i:Int)<(at_.length:Int) by omega),cF,w]
    rw[ih (i+1) s (by omega) (by omega),show at_.drop i=[] by simp;omega,show at_.drop (i+1)=[] by simp;omega]
    simp[on]
 have k0:=key l.length 0 [] (by omega) (by simp)
 rw[drop_zero,drop_zero,List.nil_append] at k0
 have k1:lp (ZgI l at_ core) (0,[])=_:=k0
 unfold Zpu
 rw[k1]
 rfl
theorem ZKR (l:List Zf) (at_:LI) (core:Int) (h:∀x∈at_,x≠core):on l at_ core=[]:=by
 unfold on
 rw[List.filter_eq_nil_iff.2 (fun p hp=>by
  have:=h p.2 (List.of_mem_zip hp).2
  simpa using this)]
 rfl
theorem ZFR (core c:Int) (hc:c≠core):∀(l:List Zf) (at_:LI) (i:Nat),(∀x,at_[i]? = some x->x≠core)->on l (at_.set i c) core=on l at_ core
 | [],_,_,_=>by simp[on]
 | s :: l,[],i,h=>by simp[on]
 | s :: l,x :: at_,0,h=>by
  have hx:=h x rfl
  simp[on,hx,hc]
 | s :: l,x :: at_,i+1,h=>by
  have ih:=ZFR core c hc l at_ i (fun y hy=>h y (by simpa using hy))
  unfold on at *
  rw[List.set_cons_succ,List.zip_cons_cons,List.zip_cons_cons,List.filter_cons,List.filter_cons]
  cases hx:(x==core) with
  | true=>simp only[if_true,map_cons,ih]
  | false=>simp only[Bool.false_eq_true,if_false,ih]
def Zim (n:Int):Bool:=decide (0<=n)&&decide (n<=8)
theorem ZEl (n:Int):Zjz n=some (Zim n):=by
 unfold Zjz Zim
 cases decide (0<=n)<;>cases decide (n<=8)<;>rfl
structure ZEF (l:List Zf) (at_:LI) (c:Int):Prop where
 cc:0<=c/\c<=8
 len:at_.length=l.length
 ok:∀x∈at_,0<=x/\x<c
 fit:∀core:Nat,(core:Int)<c->ZqG (on l at_ core)=true
def ZoA (l:List Zf) (at_:LI) (i:Nat) (core:Nat):Bool:=ZqG (on l (at_.set i (core:Int)) (core:Int))
def least (l:List Zf) (at_:LI) (i:Nat):Nat->Nat->Option Nat
 | _,0=>none
 | core,k+1=>bif ZoA l at_ i core then some core else least l at_ i (core+1) k
theorem ZDs (l:List Zf) (at_:LI) (i:Nat) (x:Int) (core:Nat):ZoA l (at_.set i x) i core=ZoA l at_ i core:=by
 unfold ZoA
 rw[List.set_set]
theorem ZxG (l:List Zf) (at_:LI) (i:Nat) (x:Int):∀(k core:Nat),least l (at_.set i x) i core k=least l at_ i core k
 | 0,_=>rfl
 | k+1,core=>by unfold least;rw[ZDs,ZxG l at_ i x k]
theorem Zn0 {l:List Zf}{at_:LI}{i c:Nat}:∀{k core:Nat},least l at_ i core k=some c->core<=c/\c<core+k/\ZoA l at_ i c=true/\∀b,core<=b->b<c->ZoA l at_ i b=false
 | 0,_,h=>by cases h
 | k+1,core,h=>by
  unfold least at h
  cases hf:ZoA l at_ i core with
  | true=>
   rw[hf] at h
   cases h
   exact⟨Nat.le_refl _,by omega,hf,fun b h1 h2=>by omega⟩
  | false=>
   rw[hf] at h
   obtain⟨h1,h2,h3,h4⟩:=Zn0 h
   refine⟨by omega,by omega,h3,fun b hb1 hb2=>?_⟩
   by_cases he:b=core
   ·rw[he];exact hf
   ·exact h4 b (by omega) hb2
def Zhg (l:List Zf) (n:Nat):LI->LI->Option LI
 | [],at_=>some at_
 | i :: o,at_=>match least l at_ i.toNat 0 n with | some c=>Zhg l n o (at_.set i.toNat (c:Int)) | none=>none
theorem ZLm (l:List Zf) (hl:l.length<=1000) (n:Nat) (hn:n<=8) (i:Int) (hi:0<=i):∀(k core:Nat) (at_:LI),core+k=n->i.toNat<at_.length->∃r,lp (Zfv l (n:Int) i) ((core:Int),at_)=some r/\(match least l at_ i.toNat core k with | some c=>r = .inl (at_.set i.toNat (c:Int)) | none=>∃m,r = .inr m):=by
 intro k
 induction k with
 | zero=>
  intro core at_ hc ha
  rw[ZY]
  simp only[Zfv,dF (show ¬(core:Int)<(n:Int) by omega),cF]
  exact⟨_,rfl,_,rfl⟩
 | succ k ih=>
  intro core at_ hc ha
  rw[ZY]
  have w:w64 ((core:Int)+1)=((core+1:Nat):Int):=Zw (show core<100 by omega) (by omega)
  have g:ZA at_ i=some at_[i.toNat]:=by
   have:=ZI (gE ha)
   rwa [toNat_of_nonneg hi] at this
  have f:=ZK2 (on l (at_.set i.toNat (core:Int)) (core:Int)) (le_trans (ZHn _ _ _) hl)
  simp only[Zfv,dT (show(core:Int)<(n:Int) by omega),cT,Zk0,g,bS,ZN0 l hl,f,w]
  unfold least
  rw[show ZqG (on l (at_.set i.toNat (core:Int)) (core:Int))=ZoA l at_ i.toNat core from rfl]
  cases ZoA l at_ i.toNat core with
  | true=>exact⟨_,rfl,rfl⟩
  | false=>
   obtain⟨r,r1,r2⟩:=ih (core+1) (at_.set i.toNat (core:Int)) (by omega) (by rw[length_set];exact ha)
   refine⟨r,r1,?_⟩
   rw[ZxG] at r2
   simp only[cF]
   cases hl2:least l at_ i.toNat (core+1) k with
   | some c=>rw[hl2] at r2;simpa [List.set_set] using r2
   | none=>rw[hl2] at r2;exact r2
theorem ZEL (l:List Zf) (hl:l.length<=1000) (n:Nat) (hn:n<=8) (o:LI) (hol:o.length<=1000):∀(k j:Nat) (at_:LI),j+k=o.length->at_.length=l.length->(∀x∈o,InL l x)->∃r,lp (Zfz l (n:Int) o) ((j:Int),at_)=some r/\(match Zhg l n (o.drop j) at_ with | some a=>r = .inr a | none=>∃m,r = .inl m):=by
 intro k
 induction k with
 | zero=>
  intro j at_ hj ha ho
  have:j=o.length:=by omega
  subst this
  rw[ZY,List.drop_length]
  simp only[Zfz,Zbh,cF]
  exact⟨_,rfl,rfl⟩
 | succ k ih=>
  intro j at_ hj ha ho
  have hj':j<o.length:=by omega
  have hx:=ho _ (getElem_mem hj')
  obtain⟨r,r1,r2⟩:=ZLm l hl n hn o[j] hx.1 n 0 at_ (by omega) (by rw[ha];exact hx.2)
  have r1':lp (Zfv l (n:Int) o[j]) (0,at_)=some r:=r1
  rw[ZY,List.drop_eq_getElem_cons hj']
  simp only[Zfz,ZaW hj',ZI (gE hj'),bS,cT,r1',Zw hj' (show o.length<9223372036854775808 by omega)]
  conv=>arg 1;ext;rhs;unfold Zhg
  cases hl2:least l at_ o[j].toNat 0 n with
  | some c=>
   rw[hl2] at r2
   subst r2
   obtain⟨q,q1,q2⟩:=ih (j+1) (at_.set o[j].toNat (c:Int)) (by omega) (by rw[length_set];exact ha) ho
   exact⟨q,q1,q2⟩
  | none=>
   rw[hl2] at r2
   obtain⟨m,rfl⟩:=r2
   exact⟨_,rfl,_,rfl⟩
theorem ZKb (l:List Zf) (hl:l.length<=1000):lp (Zfu l) (0,List.replicate (l.length:Int).toNat 0)=some (List.replicate l.length (-1)):=by
 have key:∀(k i:Nat),i+k=l.length->lp (Zfu l) ((i:Int),List.replicate i (-1)++List.replicate k 0)=some (List.replicate l.length (-1)):=by
  intro k
  induction k with
  | zero=>
   intro i hi
   have:i=l.length:=by omega
   subst this
   rw[ZY]
   simp only[Zfu,length_replicate,toNat_natCast,Zbh,cF]
   simp
  | succ k ih=>
   intro i hi
   have hi':i<l.length:=by omega
   rw[ZY]
   have g:ZA (List.replicate i (-1:Int)++List.replicate (k+1) 0) (i:Int)=some 0:=ZI (by
    rw[List.getElem?_append_right (by simp)]
    simp)
   have e:List.set (List.replicate i (-1:Int)++List.replicate (k+1) 0) i (-1)=List.replicate (i+1) (-1)++List.replicate k 0:=by
    rw[List.set_append_right _ _ (by simp),length_replicate,sub_self,List.replicate_succ,List.set_cons_zero,List.replicate_succ',append_assoc]
    rfl
   simp only[Zfu,length_replicate,toNat_natCast,ZaW hi',cT,g,bS,Zw hi' (show l.length<9223372036854775808 by omega),e]
   exact ih (i+1) (by omega)
 have:=key l.length 0 (by omega)
 simpa using this
theorem ZJs (l:List Zf) (hl:l.length<=1000) {o:LI} (ho:ZgP l=some o) (h2:Zhm l o) (c:Int) :
  ZiP l c=some (bif Zc1 l&&Zim c then (match Zhg l c.toNat o (List.replicate l.length (-1)) with | some a=>(a,(0:Int)) | none=>([],161)) else ([],160)):=by
 unfold ZiP
 rw[ZG7 l hl,bS,ZEl]
 cases hc:Zc1 l with
 | false=>rfl
 | true=>
  cases h8:Zim c with
  | false=>rfl
  | true=>
   have c8:0<=c/\c<=8:=by
    unfold Zim at h8
    simpa using h8
   have hcond:(decide (0<=(l.length:Int))&&decide ((l.length:Int)<=lim)&&decide ((l.length:Int)==(l.length:Int)))=true:=by
    have:(l.length:Int)<=lim:=by unfold lim;omega
    simp[this]
   obtain⟨r,r1,r2⟩:=ZEL l hl c.toNat (by omega) o (by rw[h2.len];exact hl) o.length 0 (List.replicate l.length (-1)) (by omega) (by simp) (fun x hx=>(h2.mem x).1 hx)
   rw[toNat_of_nonneg c8.1] at r1
   have r1':lp (Zfz l c o) (0,List.replicate l.length (-1))=some r:=r1
   rw[hcond]
   simp only[cT,bne_self_eq_false,cF,bS,ZKb l hl,ho,r1',Bool.and_self]
   rw[drop_zero] at r2
   cases hp:Zhg l c.toNat o (List.replicate l.length (-1)) with
   | some a=>rw[hp] at r2;subst r2;rfl
   | none=>rw[hp] at r2;obtain⟨m,rfl⟩:=r2;rfl
end
theorem ZvX {l:List Zf}{n:Nat}:∀{o at_ a:LI},Zhg l n o at_=some a->a.length=at_.length
  | [],at_,a,h=>by cases h;rfl
  | i :: o,at_,a,h=>by
    unfold Zhg at h
    cases hl:least l at_ i.toNat 0 n with
    | none=>rw[hl] at h;cases h
    | some c=>
      rw[hl] at h
      have:=ZvX (at_:=at_.set i.toNat (c:Int)) h
      rwa [length_set] at this
structure ZGJ (l:List Zf) (n:Nat) (at_:LI) (o:LI):Prop where
  len:at_.length=l.length
  fit:∀core:Nat,core<n->ZqG (on l at_ core)=true
  left:∀i∈o,InL l i/\at_[i.toNat]? = some (-1)
  nodup:o.Nodup
  rest:∀(j:Nat) (x:Int),at_[j]? = some x->(0<=x/\x<n)∨(x = -1/\(j:Int)∈o)
theorem ZHG {l:List Zf}{n c:Nat}{at_ o:LI}{i:Int} (h:ZGJ l n at_ (i :: o)) (hc:least l at_ i.toNat 0 n=some c):ZGJ l n (at_.set i.toNat (c:Int)) o:=by
  obtain⟨_,h2,h3,_⟩:=Zn0 hc
  obtain⟨hi,hm⟩:=h.left i (by simp)
  have hnd:=List.nodup_cons.1 h.nodup
  refine⟨by rw[length_set];exact h.len,fun core hcore=>?_,fun k hk=>?_,hnd.2,fun j x hx=>?_⟩
  · by_cases he:core=c
    · subst he;exact h3
    · rw[ZFR (core:Int) (c:Int) (by omega) l at_ i.toNat (fun x hx=>by rw[hm] at hx;cases hx;omega)]
      exact h.fit core hcore
  · obtain⟨g1,g2⟩:=h.left k (by simp[hk])
    refine⟨g1,?_⟩
    have hne:k≠i:=fun e=>hnd.1 (e ▸ hk)
    rw[List.getElem?_set_ne (by have:=g1.1;have:=hi.1;omega)]
    exact g2
  · by_cases he:j=i.toNat
    · subst he
      have hlt:i.toNat<at_.length:=by rw[h.len];exact hi.2
      rw[List.getElem?_set_self hlt] at hx
      cases hx
      left;omega
    · rw[List.getElem?_set_ne (Ne.symm he)] at hx
      rcases h.rest j x hx with g | ⟨g1,g2⟩
      · exact .inl g
      · rcases List.mem_cons.1 g2 with e | e
        · exact absurd (by omega) he
        · exact .inr ⟨g1,e⟩
theorem ZCq {l:List Zf}{n:Nat}:∀{o at_ a:LI},ZGJ l n at_ o->Zhg l n o at_=some a->ZGJ l n a []
  | [],at_,a,h,hp=>by cases hp;exact h
  | i :: o,at_,a,h,hp=>by
    unfold Zhg at hp
    cases hl:least l at_ i.toNat 0 n with
    | none=>rw[hl] at hp;cases hp
    | some c=>
      rw[hl] at hp
      exact ZCq (ZHG h hl) hp
theorem ZGq {l:List Zf}{o:LI} (n:Nat) (ho:Zhm l o):ZGJ l n (List.replicate l.length (-1)) o:=by
  refine⟨by simp,fun core hc=>?_,fun i hi=>?_,ho.nodup,fun j x hx=>?_⟩
  · rw[ZKR l _ core (fun x hx=>by have:=(List.mem_replicate.1 hx).2;omega)]
    exact ZFs
  · have:=(ho.mem i).1 hi
    exact⟨this,by rw[List.getElem?_replicate,if_pos this.2]⟩
  · rw[List.getElem?_replicate] at hx
    split at hx
    · rename_i hj
      cases hx
      refine .inr ⟨rfl,(ho.mem _).2 ⟨by omega,by simpa using hj⟩⟩
    · cases hx
theorem Zy1 {l:List Zf}{o a:LI}{c:Int} (hc:Zim c=true) (ho:Zhm l o) (h:Zhg l c.toNat o (List.replicate l.length (-1))=some a):ZEF l a c:=by
  have c8:0<=c/\c<=8:=by unfold Zim at hc;simpa using hc
  have inv:=ZCq (ZGq c.toNat ho) h
  refine⟨c8,inv.len,fun x hx=>?_,fun core hcore=>inv.fit core (by omega)⟩
  obtain⟨j,hj⟩:=List.getElem?_of_mem hx
  rcases inv.rest j x hj with g | ⟨_,g⟩
  · omega
  · cases g
theorem ZHq (a b:LI) (hl:a.length<9223372036854775808):Zky a b=some (decide (a=b)):=by
  unfold Zky
  by_cases he:a.length=b.length
  · have key := Zx1 a b he (Zg0 a b) (fun i x y hi hx hy => by
        simp only[Zg0,ZaW hi,ZI hx,ZI hy,bS,Zw hi hl,cT]
        have e:(x != y) = !decide (x=y):=by rw[Bool.eq_iff_iff];simp
        rw[e]
        cases decide (x=y)<;>rfl) (by simp only[Zg0,Zbh];rfl)
    rw[key,show((a.length:Int) != (b.length:Int))=false by rw[he];simp]
    cases decide (a=b)<;>rfl
  · rw[show((a.length:Int) != (b.length:Int))=true by simp;omega,dF (fun h=>he (by rw[h]))]
    rfl
theorem ZDo (l:List Zf) (hl:l.length<=1000) (at_:LI) (ha:at_.length=l.length) (c:Int):Zll l at_ c=some (on l at_ c):=by
 have hz:(l.zip at_).length=l.length:=by rw[List.length_zip];omega
 have ff:∀(m:List (Zf×Int)) (i:Nat) (s:List Zf),Zck (fun _ s z=>bif z.2==c then s++[z.1] else s) i s m=s++(m.filter fun p=>p.2==c).map Prod.fst:=by
  intro m
  induction m with
  | nil=>intro i s;simp[Zck]
  | cons z m ih=>
   intro i s
   unfold Zck
   rw[ih,List.filter_cons]
   cases z.2==c<;>simp
 have:=(ZeS (l.zip at_) (Zhe l at_ c) (fun i s=>((i:Int),s)) (fun _ s z=>bif z.2==c then s++[z.1] else s) id (fun i s=>s.length<=i) (fun i z s hi hx hI=>by
   obtain⟨g1,g2⟩:=List.getElem?_zip_eq_some.1 hx
   have hi1:i<l.length:=by omega
   simp only[Zhe,ZaW hi1,ZaW (show i<at_.length by omega),cT,ZI g1,ZI g2,bS,Zw hi1 (by omega),Zeg (show s.length+1<=1073741824 by omega)]
   cases z.2==c with
   | true=>exact⟨rfl,by show(s++[z.1]).length<=i+1;rw[lA,length_singleton];omega⟩
   | false=>exact⟨rfl,by show s.length<=i+1;omega⟩) (fun s _=>by rw[hz];simp only[Zhe,Zbh,cF];rfl) [] (by simp)).1
 unfold Zll
 rw[show lp (Zhe l at_ c) (0,([]:List Zf))=_ from this,ff]
 rfl
theorem Zox (a:LI) (h:a.length<=1000) {i:Int} (h0:0<=i) (hi:i.toNat<a.length) (c:Int):ZgK a i c=some (a.set i.toNat c):=by
 have g:ZA a i=some a[i.toNat]:=by
  have:=ZI (gE hi)
  rwa [toNat_of_nonneg h0] at this
 unfold ZgK
 rw[Zeg (show a.length<=1073741824 by omega),g]
 rfl
theorem ZAq {l:List Zf}{x y:Int} (h:ahead l x y) (h2:ahead l y x):False:=by
 unfold ahead at *
 omega
structure ZA8 (l:List Zf) (m:LI) (i:Nat) (b:Int):Prop where
 neg:b<0->b = -1/\∀j:Int,0<=j->j<i->j∈m
 pos:0<=b->b<i/\b∉m/\∀j:Int,0<=j->j<i->j∉m->j≠b->ahead l b j
theorem ZIO (l:List Zf) (hl:l.length<=1000) (st:Int×LI) (hm:st.2.length<=1000):∃b,lp (Zel l st) (-1,0)=some b/\ZA8 l st.2 l.length b:=by
 have:=ZeS l (Zel l st) (fun i b=>(b,(i:Int))) (fun i b s=>bif (st.2.any fun x=>(i:Int)==x) then b else bif decide (b<0) then (i:Int) else bif decide (Zkj l b<s.total) then (i:Int) else b) id (fun i b=>ZA8 l st.2 i b) (fun i s b hi hx hB=>by
   have hT:Zkj l (i:Int)=s.total:=by unfold Zkj;rw[toNat_natCast,hx]
   have hmem:(st.2.any fun x=>(i:Int)==x)=true↔(i:Int)∈st.2:=by
    rw[List.any_eq_true]
    constructor
    ·rintro ⟨x,h1,h2⟩;rw[beq_iff_eq.1 h2];exact h1
    ·intro h;exact⟨_,h,beq_self_eq_true _⟩
   simp only[Zel,ZaW hi,cT,ZCr st.2 (i:Int) (by omega),bS,Zw hi (by omega),ZI hx]
   cases hh:st.2.any fun x=>(i:Int)==x with
   | true=>
    have hin:=hmem.1 hh
    refine⟨rfl,⟨fun h=>?_,fun h=>?_⟩⟩
    ·obtain⟨q1,q2⟩:=hB.neg h
     refine⟨q1,fun j j0 j1=>?_⟩
     by_cases e:j=(i:Int)
     ·rw[e];exact hin
     ·exact q2 j j0 (by omega)
    ·obtain⟨q1,q2,q3⟩:=hB.pos h
     refine⟨by rw[cT];omega,q2,fun j j0 j1 j2 j3=>?_⟩
     exact q3 j j0 (by have:j≠(i:Int):=fun e=>j2 (e ▸ hin);omega) j2 j3
   | false=>
    have hnot:(i:Int)∉st.2:=fun e=>by rw[hmem.2 e] at hh;cases hh
    by_cases hb:b<0
    ·obtain⟨q1,q2⟩:=hB.neg hb
     rw[dT hb]
     refine⟨rfl,⟨fun h=>?_,fun h=>⟨?_,hnot,fun j j0 j1 j2 j3=>?_⟩⟩⟩
     ·simp only[cF,cT] at h;omega
     ·simp only[cF,cT];omega
     ·simp only[cF,cT] at j3
      exact absurd (q2 j j0 (by omega)) j2
    ·obtain⟨q1,q2,q3⟩:=hB.pos (by omega)
     have hbl:b.toNat<l.length:=by omega
     have hbx:=gE hbl
     have hbT:Zkj l b=(l[b.toNat]).total:=by unfold Zkj;rw[hbx]
     have hg:ZA l b=some l[b.toNat]:=by
      have:=ZI hbx
      rwa [toNat_of_nonneg (by omega)] at this
     rw[dF hb]
     simp only[cF,hg,bS,<- hbT]
     by_cases ht:Zkj l b<s.total
     ·rw[dT ht]
      refine⟨rfl,⟨fun h=>?_,fun h=>⟨?_,hnot,fun j j0 j1 j2 j3=>?_⟩⟩⟩
      ·simp only[cT] at h;omega
      ·simp only[cT];omega
      ·simp only[cT] at j3 ⊢
       left
       rw[hT]
       by_cases e:j=b
       ·rw[e];exact ht
       ·have:=q3 j j0 (by omega) j2 e
        unfold ahead at this
        omega
     ·rw[dF ht]
      refine⟨rfl,⟨fun h=>?_,fun h=>⟨?_,q2,fun j j0 j1 j2 j3=>?_⟩⟩⟩
      ·simp only[cF] at h;omega
      ·simp only[cF];omega
      ·simp only[cF] at j3 ⊢
       by_cases e:j=(i:Int)
       ·rw[e]
        unfold ahead
        rw[hT]
        omega
       ·exact q3 j j0 (by omega) j2 j3) (fun b _=>by simp only[Zel,Zbh,cF];rfl) (-1) ⟨fun _=>⟨rfl,fun j a b=>by omega⟩,fun h=>by omega⟩
 exact⟨_,this.1,this.2⟩
theorem ZA1 {l:List Zf}{o:LI} (ho:Zhm l o) {k:Nat} (hk:k<o.length) {b:Int} (hb:ZA8 l (o.take k) l.length b):o[k]? = some b:=by
 have hx:=gE hk
 have hxm:=getElem_mem hk
 have hdec:o=o.take k++o[k] :: o.drop (k+1):=by
  rw[<- List.drop_eq_getElem_cons hk,List.take_append_drop]
 have hpw:=ho.rise
 have hnd:=ho.nodup
 have hxl:InL l o[k]:=(ho.mem _).1 hxm
 generalize o[k]=x at hx hxm hdec hxl
 have hrest:∀y∈o.drop (k+1),ahead l x y:=by
  rw[hdec] at hpw
  exact(List.pairwise_cons.1 (List.pairwise_append.1 hpw).2.1).1
 have hxn:x∉o.take k:=by
  rw[hdec] at hnd
  intro h
  exact(List.nodup_append.1 hnd).2.2 x h x (by simp) rfl
 have hb0:0<=b:=Int.not_lt.1 fun hn=>hxn ((hb.neg hn).2 x hxl.1 (by have:=hxl.2;have:=hxl.1;omega))
 obtain⟨b1,b2,b3⟩:=hb.pos hb0
 have hbo:b∈o:=(ho.mem b).2 ⟨hb0,by omega⟩
 rw[hx]
 by_cases e:x=b
 ·rw[e]
 ·have h1:=b3 x hxl.1 (by have:=hxl.2;have:=hxl.1;omega) hxn e
  rw[hdec] at hbo
  rcases List.mem_append.1 hbo with h | h
  ·exact absurd h b2
  ·rcases List.mem_cons.1 h with h | h
   ·exact absurd h.symm e
   ·exact absurd (ZAq h1 (hrest b h)) id
theorem Zx9 (l:List Zf) (hl:l.length<=1000) {o:LI} (ho:Zhm l o):ZjD l=some o:=by
 have hol:=ho.len
 have key:∀(k i:Nat),i+k=l.length->lp (Zew l) ((i:Int),o.take i)=some o:=by
  intro k
  induction k with
  | zero=>
   intro i hi
   have hi:i=l.length:=by omega
   subst hi
   rw[ZY]
   simp only[Zew,Zbh,cF]
   rw[<- hol,take_length]
  | succ k ih=>
   intro i hi
   have hil:i<l.length:=by omega
   have htl:(o.take i).length<=1000:=by rw[length_take];omega
   obtain⟨b,b1,b2⟩:=ZIO l hl ((i:Int),o.take i) htl
   have hx:=ZA1 ho (k:=i) (by omega) b2
   have ht:o.take (i+1)=o.take i++[b]:=by rw[take_add_one,hx];rfl
   rw[ZY]
   simp only[Zew,ZaW hil,cT,b1,bS,Zeg (show(o.take i).length+1<=1073741824 by omega),Zw hil (by omega)]
   have:=ih (i+1) (by omega)
   rw[ht] at this
   exact this
 unfold ZjD
 rw[show lp (Zew l) (0,([]:LI))=_ from key l.length 0 (by omega)]
 rfl
theorem Zwd (l:List Zf) (hl:l.length<=1000) (n:Nat) (hn:n<=8) (st:LI×Int) (ha:st.1.length=l.length) (i:Int) (hi:0<=i) (hi2:i.toNat<l.length):∀(k core:Nat),core+k=n ->
  lp (Zdf l (n:Int) st i) (core:Int)=some (match least l st.1 i.toNat core k with | some c=>(c:Int) | none=>(n:Int)):=by
 intro k
 induction k with
 | zero=>
  intro core hc
  rw[ZY]
  simp only[Zdf,dF (show ¬(core:Int)<(n:Int) by omega),cF]
  rw[show core=n by omega]
  rfl
 | succ k ih=>
  intro core hc
  have hset:(st.1.set i.toNat (core:Int)).length=l.length:=by rw[length_set];exact ha
  rw[ZY]
  simp only[Zdf,dT (show(core:Int)<(n:Int) by omega),cT,Zox st.1 (by omega) hi (by omega),bS,ZDo l hl _ hset,Zz2 _ (le_trans (ZHn _ _ _) hl),Za0 (n:=(core:Int)+1) (by omega)]
  unfold least
  rw[show ZqG (on l (st.1.set i.toNat (core:Int)) (core:Int))=ZoA l st.1 i.toNat core from rfl]
  cases ZoA l st.1 i.toNat core with
  | true=>rfl
  | false=>exact ih (core+1) (by omega)
theorem Zwj (l:List Zf) (hl:l.length<=1000) (n:Nat) (hn:n<=8) (o:LI) (hol:o.length<=1000) (ho:∀x∈o,InL l x):∀(k j:Nat) (at_:LI),j+k=o.length->at_.length=l.length ->
  ∃r,lp (Zes l (n:Int) o) (at_,(j:Int))=some r/\(match Zhg l n (o.drop j) at_ with | some a=>r = .inr a | none=>∃m,r = .inl m):=by
 intro k
 induction k with
 | zero=>
  intro j at_ hj ha
  have:j=o.length:=by omega
  subst this
  rw[ZY,List.drop_length]
  simp only[Zes,Zbh,cF]
  exact⟨_,rfl,rfl⟩
 | succ k ih=>
  intro j at_ hj ha
  have hj':j<o.length:=by omega
  have hx:=ho _ (getElem_mem hj')
  have r1:=Zwd l hl n hn (at_,(j:Int)) ha o[j] hx.1 hx.2 n 0 (by omega)
  rw[ZY,List.drop_eq_getElem_cons hj']
  have r1':lp (Zdf l (n:Int) (at_,(j:Int)) o[j]) 0=_:=r1
  simp only[Zes,ZaW hj',ZI (gE hj'),bS,cT,r1',Zw hj' (show o.length<9223372036854775808 by omega)]
  conv=>arg 1;ext;rhs;unfold Zhg
  cases hl2:least l at_ o[j].toNat 0 n with
  | some c=>
   obtain⟨_,c2,_⟩:=Zn0 hl2
   obtain⟨q,q1,q2⟩:=ih (j+1) (at_.set o[j].toNat (c:Int)) (by omega) (by rw[length_set];exact ha)
   simp only[dF (show ¬(n:Int)<=(c:Int) by omega),cF,Zox at_ (by omega) hx.1 (show o[j].toNat<at_.length by rw[ha];exact hx.2),bS]
   exact⟨q,q1,q2⟩
  | none=>
   simp only[dT (le_refl (n:Int)),cT]
   exact⟨_,rfl,_,rfl⟩
theorem Zzd (l:List Zf) (hl:l.length<=1000):lp (Zdh l) (0,([]:LI))=some (List.replicate l.length (-1)):=by
 have:=ZeS l (Zdh l) (fun i m=>((i:Int),m)) (fun _ m _=>m++[-1]) id (fun i m=>m=List.replicate i (-1)) (fun i x m hi hx hI=>by
   have hml:m.length=i:=by rw[hI,length_replicate]
   refine⟨?_,by rw[hI,List.replicate_succ']⟩
   simp only[Zdh,ZaW hi,cT,Zeg (show m.length+1<=1073741824 by omega),Zw hi (by omega)]) (fun m _=>by simp only[Zdh,Zbh,cF];rfl) [] rfl
 rw[show lp (Zdh l) (0,([]:LI))=_ from this.1,this.2]
 rfl
theorem ZyT (l:List Zf) (hl:l.length<=1000) {o:LI} (h2:Zhm l o) (c:Int) :
  Zjr l c=some (bif Zc1 l&&Zim c then (match Zhg l c.toNat o (List.replicate l.length (-1)) with | some a=>(a,(0:Int)) | none=>([],161)) else ([],160)):=by
 unfold Zjr
 rw[ZnQ l hl,bS]
 cases hc:Zc1 l with
 | false=>rfl
 | true=>
  unfold Zim
  by_cases c0:c<0
  ·rw[dT c0,dF (show ¬0<=c by omega)];rfl
  by_cases c8:8<c
  ·rw[dF c0,dT c8,dF (show ¬c<=8 by omega),Bool.and_false];rfl
  rw[dF c0,dF c8,dT (show 0<=c by omega),dT (show c<=8 by omega)]
  simp only[cT,cF,Bool.and_self,Zzd l hl,Zx9 l hl h2,bS]
  have hol:=h2.len
  have hoi:∀x∈o,InL l x:=fun x hx=>(h2.mem x).1 hx
  have hcn:((c.toNat:Nat):Int)=c:=toNat_of_nonneg (by omega)
  rw[ZY]
  cases ho:o with
  | nil=>rfl
  | cons x t=>
   have hx:=hoi x (by rw[ho];simp)
   have r1:=Zwd l hl c.toNat (by omega) (List.replicate l.length (-1),0) (by simp) x hx.1 hx.2 c.toNat 0 (by omega)
   rw[hcn] at r1
   have r1':lp (Zjf l c (List.replicate l.length (-1)) x) 0=_:=r1
   have g0:ZA (x :: t) 0=some x:=rfl
   have hlen:decide (0<(((x :: t).length:Nat):Int))=true:=dT (by simp)
   simp only[Zir,hlen,cT,g0,bS,r1']
   unfold Zhg
   cases hl2:least l (List.replicate l.length (-1)) x.toNat 0 c.toNat with
   | none=>
    simp only[dT (le_refl c),cT]
    rfl
   | some d=>
    obtain⟨_,d2,_⟩:=Zn0 hl2
    obtain⟨q,q1,q2⟩:=Zwj l hl c.toNat (by omega) o (by rw[hol];exact hl) hoi t.length 1 ((List.replicate l.length (-1)).set x.toNat (d:Int)) (by rw[ho,length_cons];omega) (by simp)
    rw[hcn,ho] at q1
    rw[ho] at q2
    have q1':lp (Zes l c (x :: t)) ((List.replicate l.length (-1)).set x.toNat (d:Int),1)=some q:=q1
    simp only[dF (show ¬c<=(d:Int) by omega),cF,Zox (List.replicate l.length (-1)) (by simp;omega) hx.1 (show x.toNat<(List.replicate l.length (-1:Int)).length by simp;exact hx.2),bS,q1']
    change match Zhg l c.toNat t _ with | some a=>_ | none=>_ at q2
    cases hp:Zhg l c.toNat t ((List.replicate l.length (-1)).set x.toNat (d:Int)) with
    | some a=>rw[hp] at q2;subst q2;rfl
    | none=>rw[hp] at q2;obtain⟨m,rfl⟩:=q2;rfl
def Zu8 (b:Zv):Bool:=decide (20<(b.ins.length:Int)) || decide (20<(b.outs.length:Int))
def few (d:Zj):Bool:=!((d.barriers.take 9).any Zu8)&&(decide ((d.parts.length:Int)<=20)&&(decide ((d.edges.length:Int)<=60)&&(decide ((d.futures.length:Int)<=20)&&decide ((d.barriers.length:Int)<=8))))
theorem ZLR (d:Zj):Zl4 d=some (few d):=by
 have hl:(d.barriers.take 9).length=min 9 d.barriers.length:=length_take
 have key:=ZcG (d.barriers.take 9) (Zho d) (fun _=>Zu8) (fun _ _=>.inl ()) (.inr ()) (fun i x hi hx=>by
   have h9:i<9:=by omega
   rw[List.getElem?_take_of_lt h9] at hx
   simp only[Zho,ZaW (show i<d.barriers.length by omega),ZI hx,bS,Zw h9 (by omega),cT,Zu8,dT (show(i:Int)<9 by omega)]
   cases decide (20<(x.ins.length:Int))<;>cases decide (20<(x.outs.length:Int))<;>rfl) (by
   rw[hl]
   unfold Zho
   by_cases h:d.barriers.length<=9
   ·rw[Nat.min_eq_right h,Zbh];rfl
   ·rw[Nat.min_eq_left (by omega),dT (show((9:Nat):Int)<d.barriers.length by omega)];rfl)
 unfold Zl4 few
 rw[key,Zbg,ZgV]
 cases (d.barriers.take 9).any Zu8<;>cases decide ((d.parts.length:Int)<=20)<;>cases decide ((d.edges.length:Int)<=60)<;>cases decide ((d.futures.length:Int)<=20)<;>cases decide ((d.barriers.length:Int)<=8)<;>rfl
structure ZhV (d:Zj):Prop where
 p:d.parts.length<=20
 e:d.edges.length<=60
 f:d.futures.length<=20
 b:d.barriers.length<=8
 i:∀b∈d.barriers,b.ins.length<=20/\b.outs.length<=20
theorem ZDz {d:Zj} (h:few d=true):ZhV d:=by
 unfold few at h
 simp only[aT,decide_eq_true_eq,Bool.not_eq_true'] at h
 obtain⟨h1,h2,h3,h4,h5⟩:=h
 refine⟨by omega,by omega,by omega,by omega,fun b hb=>?_⟩
 have:=List.any_eq_false.1 h1 b (by rw[List.take_of_length_le (by omega)];exact hb)
 simp only[Zu8,Bool.or_eq_true,decide_eq_true_eq,not_or] at this
 omega
theorem ZhV.short {d:Zj} (h:ZhV d):Zji d:=
 ⟨by have:=h.p;omega,by have:=h.e;omega,by have:=h.f;omega,by have:=h.b;omega,fun b hb=>⟨by have:=(h.i b hb).1;omega,by have:=(h.i b hb).2;omega⟩⟩
theorem ZNC (d:Zj) (h:ZhV d):Zmg d=some d.barriers:=by
 have key:=Zum d.barriers (Zgd d) (fun i (s:List Zv)=>((i:Int),s)) (fun i x s=>bif Nat.ble (s.length+1) lim then some (.inl (s++[x])) else none) (fun s=>some s) (fun i x s hi hx=>by
   have hb:=h.i x (mG hx)
   simp only[Zgd,ZaW hi,ZI hx,bS,Zw hi h.short.b,cT,Zeg (show x.ins.length<=1073741824 by omega),Zeg (show x.outs.length<=1073741824 by omega)]
   cases Nat.ble (s.length+1) lim<;>rfl) (fun s=>by simp only[Zgd,Zbh];rfl) []
 have sc:∀(l:List Zv) (i:Nat) (s:List Zv),s.length+l.length<=1073741824->ZqT (fun i x s=>bif Nat.ble (s.length+1) lim then some (Sum.inl (s++[x])) else (none:Option (List Zv⊕List Zv))) (fun s=>some s) i l s=some (s++l):=by
  intro l
  induction l with
  | nil=>intro i s _;simp[ZqT]
  | cons x l ih=>
   intro i s hs
   rw[length_cons] at hs
   unfold ZqT
   rw[Zeg (by omega)]
   simp only[cT]
   rw[ih (i+1) (s++[x]) (by rw[lA];simp;omega)]
   simp
 rw[sc _ _ _ (by have:=h.b;simp;omega)] at key
 unfold Zmg
 rw[Zeg (show List.length d.parts<=1073741824 by have:=h.p;omega),Zeg (show List.length d.edges<=1073741824 by have:=h.e;omega),Zeg (show List.length d.futures<=1073741824 by have:=h.f;omega)]
 show(lp (Zgd d) (((0:Nat):Int),[])).bind _=_
 rw[key]
 rfl
open Go Go.Proofs.YtmnglncebfabpaaGreatDoorE Go.Sort
def sel {γ:Type} (p:γ->Bool) (g:Nat->γ->Int):Nat->List γ->LI
 | _,[]=>[]
 | i,x :: l=>bif p x then g i x :: sel p g (i+1) l else sel p g (i+1) l
theorem Zsj {γ:Type} (p:γ->Bool) (g:Nat->γ->Int):∀(l:List γ) (i:Nat),(sel p g i l).length=l.countP p
 | [],_=>rfl
 | x :: l,i=>by
  unfold sel
  have ih:=Zsj p g l (i+1)
  cases h:p x with
  | true=>simp[ih,h]
  | false=>simp[ih,h]
theorem Zuo {γ:Type} (p:γ->Bool) (g:Nat->γ->Int) (z:Int):∀(l:List γ) (i:Nat),z∈sel p g i l↔∃j x,l[j]? = some x/\p x=true/\z=g (i+j) x
 | [],i=>by simp[sel]
 | x :: l,i=>by
  have ih:=Zuo p g z l (i+1)
  have key:(∃j y,(x :: l)[j]? = some y/\p y=true/\z=g (i+j) y)↔(p x=true/\z=g i x)∨∃j y,l[j]? = some y/\p y=true/\z=g (i+1+j) y:=by
   constructor
   ·rintro ⟨j,y,h1,h2,h3⟩
    cases j with
    | zero=>left;simp at h1;subst h1;exact⟨h2,h3⟩
    | succ j=>right;exact⟨j,y,by simpa using h1,h2,by rw[h3];congr 1;omega⟩
   ·rintro (⟨h2,h3⟩ | ⟨j,y,h1,h2,h3⟩)
    ·exact⟨0,x,rfl,h2,h3⟩
    ·exact⟨j+1,y,by simpa using h1,h2,by rw[h3];congr 1;omega⟩
  rw[key]
  unfold sel
  cases h:p x with
  | true=>simp[ih]
  | false=>simp[ih]
theorem ZBz {γ:Type} (l:List γ) (hl:l.length<=1000) (p:γ->Bool) (g:Nat->γ->Int) (step:Int×LI->Option ((Int×LI)⊕LI))
  (h1:∀i x s,i<l.length->l[i]? = some x->step ((i:Int),s)=(bif p x then (bif Nat.ble (s.length+1) lim then some (.inl (((i+1:Nat):Int),s++[g i x])) else none) else some (.inl (((i+1:Nat):Int),s))))
  (h2:∀s,step ((l.length:Int),s)=some (.inr s)) (s:LI) (hs:s.length<=1000000):lp step (0,s)=some (s++sel p g 0 l):=by
 have key:=Zum l step (fun i s=>((i:Int),s)) (fun i x s=>bif p x then (bif Nat.ble (s.length+1) lim then some (.inl (s++[g i x])) else none) else some (.inl s)) (fun s=>some s) (fun i x s hi hx=>by
   rw[h1 i x s hi hx]
   cases p x<;>cases Nat.ble (s.length+1) lim<;>rfl) (fun s=>h2 s) s
 refine(key:lp step (0,s)=_).trans ?_
 have:∀(l:List γ) (i:Nat) (s:LI),s.length+l.length<=1001000->ZqT (fun i x s=>bif p x then (bif Nat.ble (s.length+1) lim then some (Sum.inl (s++[g i x])) else (none:Option (LI⊕LI))) else some (.inl s)) (fun s=>some s) i l s=some (s++sel p g i l):=by
  intro l
  induction l with
  | nil=>intro i s _;simp[ZqT,sel]
  | cons x l ih=>
   intro i s hb
   rw[length_cons] at hb
   unfold ZqT sel
   cases p x with
   | true=>
    rw[Zeg (show s.length+1<=1073741824 by omega)]
    simp only[cT]
    rw[ih (i+1) (s++[g i x]) (by rw[lA,length_singleton];omega)]
    simp
   | false=>
    simp only[cF]
    rw[ih (i+1) s (by omega)]
 exact this l 0 s (by omega)
theorem Zvh (k:Int->Int):∀(l m:LI),l.Pairwise (fun x y=>k x<k y)->m.Pairwise (fun x y=>k x<k y)->(∀z,z∈l↔z∈m)->l=m
 | [],[],_,_,_=>rfl
 | [],y :: m,_,_,h=>absurd ((h y).2 (by simp)) (by simp)
 | x :: l,[],_,_,h=>absurd ((h x).1 (by simp)) (by simp)
 | x :: l,y :: m,h1,h2,h=>by
  rw[List.pairwise_cons] at h1 h2
  have hxy:x=y:=by
   rcases List.mem_cons.1 ((h x).1 (by simp)) with e | e
   ·exact e
   ·rcases List.mem_cons.1 ((h y).2 (by simp)) with e2 | e2
    ·exact e2.symm
    ·have:=h2.1 _ e
     have:=h1.1 _ e2
     omega
  subst hxy
  congr 1
  refine Zvh k l m h1.2 h2.2 fun z=>?_
  constructor
  ·intro hz
   rcases List.mem_cons.1 ((h z).1 (by simp[hz])) with e | e
   ·subst e
    have:=h1.1 _ hz
    omega
   ·exact e
  ·intro hz
   rcases List.mem_cons.1 ((h z).2 (by simp[hz])) with e | e
   ·subst e
    have:=h2.1 _ hz
    omega
   ·exact e
structure Zp3 (d:Zj):Prop where
 w:∀p∈d.parts,1<=p.work/\p.work<=100
 e:∀x∈d.edges,two d.parts.length x.src x.dst=true
 f:∀x∈d.futures,two d.parts.length x.maker x.user=true/\1<=x.pos/\x.pos<=ZdX d.parts x.user-1
 ne:∀(i j:Nat) (x y:Zl),i<j->d.futures[i]? = some x->d.futures[j]? = some y->¬(x.user=y.user/\x.pos=y.pos)
theorem Zye {d:Zj} (h:ZhI d=0):Zp3 d:=by
 unfold ZhI at h
 have all:ZoI d=true/\Zpe d=true/\d.parts.any ZfL=false/\Zhn (Zf8 d) 0 d.edges=false/\Zhn (ZcK d) 0 d.futures=false:=by
  revert h
  cases ZoI d<;>cases Zpe d<;>cases d.parts.any ZfL<;>cases Zhn (Zf8 d) 0 d.edges<;>cases Zhn (ZcK d) 0 d.futures<;>simp
 obtain⟨_,_,h3,h4,h5⟩:=all
 have he:∀(i:Nat) x,d.edges[i]? = some x->Zf8 d i x=false:=fun i x hx=>by
  cases hb:Zf8 d i x with
  | false=>rfl
  | true=>rw[(Zlg _ _ 0).2 ⟨i,x,hx,by simpa using hb⟩] at h4;cases h4
 have hf:∀(i:Nat) x,d.futures[i]? = some x->ZcK d i x=false:=fun i x hx=>by
  cases hb:ZcK d i x with
  | false=>rfl
  | true=>rw[(Zlg _ _ 0).2 ⟨i,x,hx,by simpa using hb⟩] at h5;cases h5
 refine⟨Zv8 h3,fun x hx=>?_,fun x hx=>?_,fun i j x y hij hx hy=>?_⟩
 ·obtain⟨i,hi⟩:=List.getElem?_of_mem hx
  have:=he i x hi
  unfold Zf8 at this
  simp only[Bool.or_eq_false_iff,Bool.not_eq_false'] at this
  exact this.1
 ·obtain⟨i,hi⟩:=List.getElem?_of_mem hx
  have:=hf i x hi
  unfold ZcK ZcF at this
  simp only[Bool.or_eq_false_iff,Bool.not_eq_false',aT,decide_eq_true_eq] at this
  exact⟨this.1,this.2.1.1,this.2.1.2⟩
 ·rintro ⟨h1,h2⟩
  have:=hf j y hy
  unfold ZcK at this
  simp only[Bool.or_eq_false_iff] at this
  have h6:=List.any_eq_false.1 this.2.2 x (mG (i:=i) (by rw[List.getElem?_take_of_lt hij];exact hx))
  unfold again at h6
  simp[h1,h2] at h6
theorem Zm9 {d:Zj} (g:Zp3 d) (u:Int):ZdX d.parts u<=100:=by
 unfold ZdX
 split
 ·rename_i p hp;exact(g.w p (mG hp)).2
 ·omega
def ZeT (fs:List Zl) (z:Int):Int:=match fs[z.toNat]? with | some f=>f.pos | none=>0
def Zuc (d:Zj) (u:Int):LI:=sel (fun f:Zl=>f.user==u) (fun i _=>(i:Int)) 0 d.futures
theorem Zpc (d:Zj) (u z:Int):z∈Zuc d u↔∃(i:Nat) (f:Zl),d.futures[i]? = some f/\f.user=u/\z=(i:Int):=by
 unfold Zuc
 rw[Zuo]
 simp
theorem ZvP (d:Zj) (u:Int):(Zuc d u).Pairwise (fun x y=>x<y):=by
 have:∀(l:List Zl) (i:Nat),(sel (fun f:Zl=>f.user==u) (fun i _=>(i:Int)) i l).Pairwise (fun x y=>x<y)/\∀z∈sel (fun f:Zl=>f.user==u) (fun i _=>(i:Int)) i l,(i:Int)<=z:=by
  intro l
  induction l with
  | nil=>intro i;simp[sel]
  | cons x l ih=>
   intro i
   obtain⟨h1,h2⟩:=ih (i+1)
   unfold sel
   cases x.user==u with
   | true=>
    simp only[cT,List.pairwise_cons,mem_cons]
    refine⟨⟨fun z hz=>?_,h1⟩,?_⟩
    ·have:=h2 z hz;omega
    ·rintro z (rfl | hz)
     ·exact le_refl _
     ·have:=h2 z hz;omega
   | false=>
    simp only[cF]
    exact⟨h1,fun z hz=>by have:=h2 z hz;omega⟩
 exact(this d.futures 0).1
structure Ziv (d:Zj) (u:Int) (r:LI):Prop where
 mem:∀z,z∈r↔∃(i:Nat) (f:Zl),d.futures[i]? = some f/\f.user=u/\z=(i:Int)
 rise:r.Pairwise (fun x y=>ZeT d.futures x<ZeT d.futures y)
theorem Ziv.eq {d:Zj}{u:Int}{r s:LI} (h1:Ziv d u r) (h2:Ziv d u s):r=s:=Zvh (ZeT d.futures) r s h1.rise h2.rise fun z=>by rw[h1.mem,h2.mem]
theorem Zzg {l:LI}{p q:Int->Int->Prop} (h:l.Pairwise p) (hq:∀x y,x∈l->y∈l->p x y->q x y):l.Pairwise q:=by
 rw[List.pairwise_iff_getElem] at h ⊢
 exact fun i j hi hj hij=>hq _ _ (getElem_mem hi) (getElem_mem hj) (h i j hi hj hij)
theorem ZHF {d:Zj} (g:Zp3 d) {u x y:Int} (hx:∃(i:Nat) (f:Zl),d.futures[i]? = some f/\f.user=u/\x=(i:Int)) (hy:∃(i:Nat) (f:Zl),d.futures[i]? = some f/\f.user=u/\y=(i:Int)) (hne:x≠y):ZeT d.futures x≠ZeT d.futures y:=by
 obtain⟨i,f,h1,h2,rfl⟩:=hx
 obtain⟨j,e,h3,h4,rfl⟩:=hy
 intro he
 unfold ZeT at he
 rw[toNat_natCast,toNat_natCast,h1,h3] at he
 simp only at he
 rcases Nat.lt_trichotomy i j with h | h | h
 ·exact g.ne i j f e h h1 h3 ⟨h2.trans h4.symm,he⟩
 ·exact hne (by rw[h])
 ·exact g.ne j i e f h h3 h1 ⟨h4.trans h2.symm,he.symm⟩
theorem ZEh {d:Zj} (g:Zp3 d):ZwD (fun z0 z1=>Zz z0 z1 d.futures) (fun x y=>ZeT d.futures x-ZeT d.futures y) (fun z=>0<=z/\z.toNat<d.futures.length):=by
 intro x y hx hy
 have b:∀z:Int,z.toNat<d.futures.length->∃f,d.futures[z.toNat]? = some f/\ZeT d.futures z=f.pos/\1<=f.pos/\f.pos<=100:=fun z hz=>by
  have hm:=getElem_mem hz
  have:=g.f _ hm
  have hw:=Zm9 g d.futures[z.toNat].user
  exact⟨d.futures[z.toNat],gE hz,by unfold ZeT;rw[gE hz],this.2.1,by omega⟩
 obtain⟨f,f1,f2,f3,f4⟩:=b x hx.2
 obtain⟨e,e1,e2,e3,e4⟩:=b y hy.2
 show Zz x y d.futures=some (ZeT d.futures x-ZeT d.futures y)
 unfold Zz
 rw[Zv9 hx.1 f1,Zv9 hy.1 e1]
 simp only[bS]
 rw[f2,e2,Za0 (by omega)]
theorem ZIS (k:Int->Int):SWO (ltC fun x y=>k x-k y):=by
 refine⟨fun x=>?_,fun x y z h1 h2=>?_,fun x y z h1 h2=>?_⟩
 ·show decide (k x-k x<0)=false
  exact dF (by omega)
 ·simp only[ltC,decide_eq_true_eq] at *
  omega
 ·simp only[ltC,decide_eq_false_iff_not] at *
  omega
theorem ZDA (d:Zj) (h:Zji d) (hf:d.futures.length<=1000) (hc:ZhI d=0) (u:Int):∃r,Ze0 d u=some r/\Ziv d u r:=by
 have g:=Zye hc
 have key:=ZBz d.futures hf (fun f:Zl=>f.user==u) (fun i _=>(i:Int)) (ZfH d u) (fun i x s hi hx=>by
   simp only[ZfH,ZaW hi,ZI hx,bS,Zw hi h.f,cT]) (fun s=>by simp only[ZfH,Zbh];rfl) [] (by simp)
 have hP:∀x∈Zuc d u,0<=x/\x.toNat<d.futures.length:=fun x hx=>by
  obtain⟨i,f,h1,h2,rfl⟩:=(Zpc d u x).1 hx
  have:=(gQ h1).1
  exact⟨by omega,by simpa using this⟩
 have hlen:(Zuc d u).length<=1000:=by
  unfold Zuc
  rw[Zsj]
  exact le_trans List.countP_le_length hf
 obtain⟨r,h1,h2,h3⟩:=ZG8 (ZEh g) (ZIS _) (Zuc d u) hlen hP
 refine⟨r,?_,?_,?_⟩
 ·unfold Ze0
  rw[ZB3 d h,hc]
  simp only[bS,bne_self_eq_false,cF]
  rw[key,List.nil_append,bS]
  show(Zay (fun z0 z1=>Zz z0 z1 d.futures) (Zuc d u)).bind _=_
  rw[h1]
  rfl
 ·exact fun z=>by rw[h2.mem_iff,Zpc]
 ·have nd:r.Pairwise (fun x y=>x≠y):=(h2.pairwise_iff (fun h=>Ne.symm h)).2 ((ZvP d u).imp fun h=>by omega)
  refine Zzg (h3.and nd) fun x y hx hy hp=>?_
  have a:=(Zpc d u x).1 (h2.mem_iff.1 hx)
  have b:=(Zpc d u y).1 (h2.mem_iff.1 hy)
  have h4:=ZHF g a b hp.2
  have h5:=hp.1
  simp only[ltC,decide_eq_false_iff_not] at h5
  omega
theorem ZwJ {d:Zj}{u:Int}{r:LI} (h:Ziv d u r):r.length=(Zuc d u).length:=by
 have nd1:r.Nodup:=h.rise.imp fun hp he=>by rw[he] at hp;omega
 have nd2:(Zuc d u).Nodup:=(ZvP d u).imp fun hp he=>by omega
 exact((List.perm_ext_iff_of_nodup nd1 nd2).2 fun z=>by rw[h.mem,Zpc]).length_eq
theorem Zz3 {d:Zj}{u:Int}{r:LI} (h:Ziv d u r):r.length<=d.futures.length:=by
 rw[ZwJ h]
 unfold Zuc
 rw[Zsj]
 exact List.countP_le_length
theorem ZwV {γ:Type} (p:γ->Bool) (g:Nat->γ->Int) (l:List γ) (i:Nat):(sel p g i l).length<=l.length:=by rw[Zsj];exact List.countP_le_length
structure ZcC (d:Zj):Prop where
 g:Zp3 d
 ins:∀b∈d.barriers,∀q∈b.ins,0<=q/\q.toNat<d.parts.length
 outs:∀b∈d.barriers,∀q∈b.outs,0<=q/\q.toNat<d.parts.length
 disj:∀b∈d.barriers,∀q∈b.ins,q∉b.outs
 pl:d.parts.length<=16
 el:d.edges.length<=48
 fl:d.futures.length<=16
 bl:d.barriers.length<=4
 p1:1<=d.parts.length
 arg:∀p∈d.parts,0<=p.arg/\p.arg<=2147483647
theorem ZEB {n:Nat}{l:LI} (h:Zmh n l=true):∀q∈l,0<=q/\q.toNat<n:=by
 intro q hq
 unfold Zmh at h
 simp only[aT,Bool.not_eq_true'] at h
 obtain⟨i,hi⟩:=List.getElem?_of_mem hq
 have:ZtM n l i q=false:=by
  cases hb:ZtM n l i q with
  | false=>rfl
  | true=>rw[(Zlg _ _ 0).2 ⟨i,q,hi,by simpa using hb⟩] at h;exact absurd h.1 (by simp)
 unfold ZtM ZcF at this
 simp only[Bool.or_eq_false_iff,Bool.not_eq_false',aT,decide_eq_true_eq] at this
 omega
theorem ZrK {d:Zj} (h:ZhI d=0):ZcC d:=by
 have g:=Zye h
 unfold ZhI at h
 have all:ZoI d=true/\d.barriers.any (Zdj d.parts.length)=false/\d.parts.any ZfL=false:=by
  revert h
  cases ZoI d<;>cases Zpe d<;>cases d.parts.any ZfL<;>cases Zhn (Zf8 d) 0 d.edges<;>cases Zhn (ZcK d) 0 d.futures<;>cases d.barriers.any (Zdj d.parts.length)<;>simp
 have hb:∀b∈d.barriers,Zmh d.parts.length b.ins=true/\Zmh d.parts.length b.outs=true/\b.ins.any (Zqt b)=false:=fun b hb=>by
  have:=List.any_eq_false.1 all.2.1 b hb
  simp only[Zdj,Bool.or_eq_true,Bool.not_eq_true',not_or,Bool.not_eq_false,Bool.not_eq_true] at this
  exact this
 have m:=all.1
 unfold ZoI ZcF at m
 simp only[aT,decide_eq_true_eq,Bool.not_eq_true',decide_eq_false_iff_not] at m
 refine⟨g,fun b h1=>ZEB (hb b h1).1,fun b h1=>ZEB (hb b h1).2.1,fun b h1 q h2 h3=>?_,by omega,by omega,by omega,by omega,by omega,fun p hp=>?_⟩
 case refine_2=>
  have:=List.any_eq_false.1 all.2.2 p hp
  simp only[ZfL,ZcF,Bool.not_eq_true,Bool.not_eq_false',aT,decide_eq_true_eq] at this
  exact this.2.1
 have:=List.any_eq_false.1 (hb b h1).2.2 q h2
 unfold Zqt at this
 exact this (List.any_eq_true.2 ⟨q,h3,by simp⟩)
def inR (d:Zj) (p:Int):Prop:=0<=p/\p.toNat<d.parts.length
theorem ZcC.src {d:Zj} (g:ZcC d) {e:Zo} (h:e∈d.edges):inR d e.src:=(ZvH (g.g.e e h)).1
theorem ZcC.dst {d:Zj} (g:ZcC d) {e:Zo} (h:e∈d.edges):inR d e.dst:=(ZvH (g.g.e e h)).2.1
theorem ZcC.maker {d:Zj} (g:ZcC d) {f:Zl} (h:f∈d.futures):inR d f.maker:=(ZvH (g.g.f f h).1).1
theorem ZcC.user {d:Zj} (g:ZcC d) {f:Zl} (h:f∈d.futures):inR d f.user:=(ZvH (g.g.f f h).1).2.1
theorem ZcC.short {d:Zj} (g:ZcC d) (hs:∀b∈d.barriers,ZJt b):Zji d:=⟨by have:=g.pl;omega,by have:=g.el;omega,by have:=g.fl;omega,by have:=g.bl;omega,hs⟩
theorem ZE7 {γ:Type} (p:γ->Bool):∀(l:List γ) (i:Nat),(sel p (fun i _=>(i:Int)) i l).Pairwise (fun x y=>x<y)/\∀z∈sel p (fun i _=>(i:Int)) i l,(i:Int)<=z:=by
 intro l
 induction l with
 | nil=>intro i;simp[sel]
 | cons x l ih=>
  intro i
  obtain⟨h1,h2⟩:=ih (i+1)
  unfold sel
  cases p x with
  | true=>
   simp only[cT,List.pairwise_cons,mem_cons]
   refine⟨⟨fun z hz=>?_,h1⟩,?_⟩
   ·have:=h2 z hz;omega
   ·rintro z (rfl | hz)
    ·exact le_refl _
    ·have:=h2 z hz;omega
  | false=>
   simp only[cF]
   exact⟨h1,fun z hz=>by have:=h2 z hz;omega⟩
def ZoT (d:Zj) (u:Int) (t:Int):LI:=sel (fun f:Zl=>f.user==u&&f.pos==t) (fun i _=>(i:Int)) 0 d.futures
theorem ZsL (d:Zj) (u t z:Int):z∈ZoT d u t↔∃(i:Nat) (f:Zl),d.futures[i]? = some f/\f.user=u/\f.pos=t/\z=(i:Int):=by
 unfold ZoT
 rw[Zuo]
 simp[and_assoc]
theorem Zpp {d:Zj}{u t z:Int} (h:z∈ZoT d u t):ZeT d.futures z=t:=by
 obtain⟨i,f,h1,_,h3,rfl⟩:=(ZsL d u t z).1 h
 unfold ZeT
 rw[toNat_natCast,h1,<- h3]
theorem Zvv {d:Zj}{u t z:Int} (h:z∈ZoT d u t):∃(i:Nat) (f:Zl),d.futures[i]? = some f/\f.user=u/\z=(i:Int):=by
 obtain⟨i,f,h1,h2,_,h4⟩:=(ZsL d u t z).1 h
 exact⟨i,f,h1,h2,h4⟩
def tl (d:Zj) (u:Int):Nat->Nat->LI
 | _,0=>[]
 | i,k+1=>ZoT d u ((i+1:Nat):Int)++tl d u (i+1) k
theorem ZAZ (d:Zj) (u z:Int):∀(k i:Nat),z∈tl d u i k↔∃t:Nat,i<t/\t<=i+k/\z∈ZoT d u (t:Int)
 | 0,i=>by
  unfold tl
  constructor
  ·intro h;cases h
  ·rintro ⟨t,h1,h2,_⟩;omega
 | k+1,i=>by
  unfold tl
  rw[List.mem_append,ZAZ d u z k (i+1)]
  constructor
  ·rintro (h | ⟨t,h1,h2,h3⟩)
   ·exact⟨i+1,by omega,by omega,h⟩
   ·exact⟨t,by omega,by omega,h3⟩
  ·rintro ⟨t,h1,h2,h3⟩
   by_cases h:t=i+1
   ·subst h;exact .inl h3
   ·exact .inr ⟨t,by omega,by omega,h3⟩
theorem ZDb {d:Zj} (g:Zp3 d) (u:Int):∀(k i:Nat),(tl d u i k).Pairwise (fun x y=>ZeT d.futures x<ZeT d.futures y)
 | 0,i=>List.Pairwise.nil
 | k+1,i=>by
  unfold tl
  rw[List.pairwise_append]
  refine⟨?_,ZDb g u k (i+1),fun x hx y hy=>?_⟩
  ·refine Zzg (ZE7 _ _ _).1 fun x y hx hy hlt=>?_
   have hx':x∈ZoT d u ((i+1:Nat):Int):=hx
   have hy':y∈ZoT d u ((i+1:Nat):Int):=hy
   exact absurd ((Zpp hx').trans (Zpp hy').symm) (ZHF g (Zvv hx') (Zvv hy') (by omega))
  ·obtain⟨t,h1,h2,h3⟩:=(ZAZ d u y k (i+1)).1 hy
   rw[Zpp hx,Zpp h3]
   omega
theorem ZBC {d:Zj} (g:Zp3 d) (u:Int):Ziv d u (tl d u 0 99):=by
 refine⟨fun z=>?_,ZDb g u 99 0⟩
 rw[ZAZ]
 constructor
 ·rintro ⟨t,_,_,h⟩;exact Zvv h
 ·rintro ⟨i,f,h1,h2,h3⟩
  have hf:=g.f f (mG h1)
  have hw:=Zm9 g f.user
  refine⟨f.pos.toNat,by omega,by omega,?_⟩
  rw[ZsL]
  exact⟨i,f,h1,h2,by omega,h3⟩
theorem ZzI (d:Zj) (hf:d.futures.length<=1000) (u:Int):ZfG d u=some (tl d u 0 99):=by
 have inner:∀(t:Int) (s0 s:LI),s.length<=1000000->lp (Zdg d u (t,s0)) (0,s)=some (s++ZoT d u t):=fun t s0 s hs=>
  ZBz d.futures hf (fun f:Zl=>f.user==u&&f.pos==t) (fun i _=>(i:Int)) (Zdg d u (t,s0)) (fun i x s hi hx=>by
   simp only[Zdg,ZaW hi,ZI hx,bS,Zw hi (by omega),cT]
   cases x.user==u<;>cases x.pos==t<;>rfl) (fun s=>by simp only[Zdg,Zbh];rfl) s hs
 have key:∀(k i:Nat) (s:LI),i+k=99->s.length<=1000*i->lp (ZgR d u) (((i+1:Nat):Int),s)=some (s++tl d u i k):=by
  intro k
  induction k with
  | zero=>
   intro i s hi hs
   have:i=99:=by omega
   subst this
   rw[ZY]
   unfold tl
   rw[append_nil]
   rfl
  | succ k ih=>
   intro i s hi hs
   rw[ZY]
   unfold tl
   simp only[ZgR,dT (show((i+1:Nat):Int)<100 by omega),cT,inner ((i+1:Nat):Int) s s (by omega),bS,Zw (show i+1<100 by omega) (by omega)]
   have hl:(ZoT d u ((i+1:Nat):Int)).length<=1000:=le_trans (ZwV _ _ _ _) hf
   rw[ih (i+1) (s++ZoT d u ((i+1:Nat):Int)) (by omega) (by rw[lA];omega),append_assoc]
 have k0:=key 99 0 [] rfl (by simp)
 unfold ZfG
 rw[show((1:Int),([]:LI))=(((0+1:Nat):Int),[]) from rfl,k0]
 rfl
theorem ZlB {K W:Type} (eq:K->K->Bool) (k:K) (v:W):∀l:List (K×W),(∀q∈l,eq k q.1=false)->Zy eq l k v=l++[(k,v)]
 | [],_=>rfl
 | (a,u) :: r,h=>by
  unfold Zy
  rw[h (a,u) (by simp)]
  simp only[cF,cons_append]
  rw[ZlB eq k v r fun q hq=>h q (by simp[hq])]
theorem Zmy {K W:Type} (eq:K->K->Bool) (k:K) (z:W) (m:List (K×W)):∀l:List (K×W),(∀q∈l,eq k q.1=false)->Zae eq (l++m) k z=Zae eq m k z
 | [],_=>rfl
 | (a,u) :: r,h=>by
  rw[cons_append]
  conv=>lhs;unfold Zae
  rw[h (a,u) (by simp)]
  exact Zmy eq k z m r fun q hq=>h q (by simp[hq])
theorem Znp {K W:Type} (eq:K->K->Bool) (k:K) (z:W) (m:List (K×W)):∀l:List (K×W),(∃q∈l,eq k q.1=true)->Zae eq (l++m) k z=Zae eq l k z
 | [],h=>by obtain⟨q,hq,_⟩:=h;simp at hq
 | (a,u) :: r,h=>by
  rw[cons_append]
  unfold Zae
  cases hb:eq k a with
  | true=>rfl
  | false=>
   simp only[cF]
   refine Znp eq k z m r ?_
   obtain⟨q,hq,hk⟩:=h
   rcases List.mem_cons.1 hq with rfl | hq
   ·rw[hb] at hk;cases hk
   ·exact⟨q,hq,hk⟩
abbrev eqI:Int->Int->Bool:=fun ka kb:Int=>(ka==kb)
theorem ZtQ {K W:Type} (eq:K->K->Bool) (k:K) (v w:W) (hk:eq k k=true):∀l:List (K×W),(∀q∈l,eq k q.1=false)->Zy eq (l++[(k,v)]) k w=l++[(k,w)]
 | [],_=>by
  show(bif eq k k then _ else _)=_
  rw[hk];rfl
 | (a,u) :: r,h=>by
  rw[cons_append]
  unfold Zy
  rw[h (a,u) (by simp)]
  simp only[cF,cons_append]
  rw[ZtQ eq k v w hk r fun q hq=>h q (by simp[hq])]
theorem Zxf {K W:Type} (eq:K->K->Bool) (k:K) (z v:W) (hk:eq k k=true) (l m:List (K×W)) (h:∀q∈l,eq k q.1=false):Zae eq (l++(k,v) :: m) k z=v:=by
 rw[Zmy eq k z _ l h]
 show(bif eq k k then _ else _)=_
 rw[hk];rfl
def tch (d:Zj) (n:Nat):LI:=tl d (n:Int) 0 99
theorem Zq8 {d:Zj} (g:Zp3 d) (n:Nat):Ziv d (n:Int) (tch d n):=ZBC g (n:Int)
theorem ZL7 {d:Zj} (hs:Zji d) (hf:d.futures.length<=1000) (hc:ZhI d=0) (n:Nat):Ze0 d (n:Int)=some (tch d n):=by
 obtain⟨r,h1,h2⟩:=ZDA d hs hf hc (n:Int)
 rw[h1,h2.eq (Zq8 (Zye hc) n)]
theorem ZFx {d:Zj} (hf:d.futures.length<=1000) (n:Nat):ZfG d (n:Int)=some (tch d n):=ZzI d hf (n:Int)
abbrev nt (d:Zj) (n:Nat):Nat:=(tch d n).length
theorem Zw9 {d:Zj} (g:ZcC d) (n:Nat):nt d n<=16:=le_trans (Zz3 (Zq8 g.g n)) g.fl
def cut (d:Zj) (n i:Nat):Int:=if i=0 then 0 else match (tch d n)[i-1]? with | some z=>ZeT d.futures z | none=>ZdX d.parts (n:Int)
def ZgJ (d:Zj) (n k:Nat):LI:=(List.range k).map fun i=>cut d n (i+1)-cut d n i
def Zaa (d:Zj):Nat->Nat
 | 0=>0
 | n+1=>Zaa d n+(nt d n+1)
theorem Zfy {d:Zj} (g:ZcC d):∀n,Zaa d n<=17*n
 | 0=>Nat.le_refl _
 | n+1=>by have:=Zfy g n;have:=Zw9 g n;show Zaa d n+(nt d n+1)<=_;omega
theorem Zjj {d:Zj}{n i:Nat} (g:Zp3 d) (hi:i<nt d n):∃f,ZA (tch d n) (i:Int)=some (tch d n)[i]/\ZA d.futures (tch d n)[i]=some f/\d.futures[((tch d n)[i]).toNat]? = some f/\f.user=(n:Int)/\f.pos=cut d n (i+1)/\f∈d.futures:=by
 obtain⟨j,f,h1,h2,h3⟩:=(Zq8 g n).mem _ |>.1 (getElem_mem hi)
 refine⟨f,ZI (gE hi),?_,?_,h2,?_,mG h1⟩
 ·rw[h3];exact ZI h1
 ·rw[h3,toNat_natCast];exact h1
 ·unfold cut
  rw[if_neg (by omega),Nat.add_sub_cancel,gE hi]
  show _=ZeT d.futures (tch d n)[i]
  unfold ZeT
  rw[h3,toNat_natCast,h1]
theorem ZwH {d:Zj} (g:Zp3 d) (n i:Nat):0<=cut d n i/\cut d n i<=100:=by
 unfold cut
 split
 ·omega
 ·have wb:0<=ZdX d.parts (n:Int)/\ZdX d.parts (n:Int)<=100:=by
   refine⟨?_,Zm9 g _⟩
   unfold ZdX
   split
   ·rename_i p hp;have:=g.w p (mG hp);omega
   ·omega
  split
  ·rename_i z hz
   obtain⟨j,f,h1,h2,h3⟩:=(Zq8 g n).mem z |>.1 (mG hz)
   have:=g.f f (mG h1)
   have:=Zm9 g f.user
   unfold ZeT
   rw[h3,toNat_natCast,h1]
   show 0<=f.pos/\f.pos<=100
   omega
  ·exact wb
theorem Zsh (d:Zj) (n:Nat):cut d n (nt d n+1)=ZdX d.parts (n:Int):=by
 unfold cut
 rw[if_neg (by omega),Nat.add_sub_cancel,List.getElem?_eq_none (Nat.le_refl _)]
theorem ZjM (d:Zj) (n k:Nat):ZgJ d n (k+1)=ZgJ d n k++[cut d n (k+1)-cut d n k]:=by unfold ZgJ;rw[range_succ,map_append];rfl
theorem Ziq (d:Zj) (n k:Nat):(ZgJ d n k).length=k:=by unfold ZgJ;simp
def ZeZ (d:Zj) (n:Nat):LI:=ZgJ d n (nt d n+1)
theorem ZyB {d:Zj}{n:Nat} (hn:n<d.parts.length):∃x,ZA d.parts (n:Int)=some x/\x.work=ZdX d.parts (n:Int):=by
 refine⟨d.parts[n],ZI (gE hn),?_⟩
 unfold ZdX
 rw[toNat_natCast,gE hn]
theorem Zwa {d:Zj} (g:ZcC d) {n:Nat} (hn:n<d.parts.length):Zia d (n:Int)=some (ZeZ d n):=by
 have hnt:=Zw9 g n
 have key:∀(k i:Nat),i+k=nt d n->lp (ZeG d (tch d n)) (cut d n i,(i:Int),ZgJ d n i)=some (cut d n (nt d n),ZgJ d n (nt d n)):=by
  intro k
  induction k with
  | zero=>
   intro i hi
   have:i=nt d n:=by omega
   subst this
   rw[ZY]
   simp only[ZeG,show((nt d n:Nat):Int)=((tch d n).length:Int) from rfl,Zbh,cF]
  | succ k ih=>
   intro i hi
   have hi':i<nt d n:=by omega
   obtain⟨f,h1,h2,_,_,h5,_⟩:=Zjj g.g hi'
   have b0:=ZwH g.g n i
   have b1:=ZwH g.g n (i+1)
   rw[ZY]
   simp only[ZeG,ZaW (show i<(tch d n).length from hi'),cT,h1,h2,bS,h5,Zw hi' (show nt d n<9223372036854775808 by omega),Zeg (show(ZgJ d n i).length+1<=1073741824 by rw[Ziq];omega),ZiI (show -9223372036854775808<=cut d n (i+1)-cut d n i by omega) (by omega)]
   rw[<- ZjM]
   exact ih (i+1) (by omega)
 have k0:=key (nt d n) 0 (by omega)
 obtain⟨x,x1,x2⟩:=ZyB hn
 have b0:=ZwH g.g n (nt d n)
 have b1:=ZwH g.g n (nt d n+1)
 rw[Zsh] at b1
 unfold Zia ZeZ
 rw[ZFx (by have:=g.fl;omega)]
 simp only[bS,show lp (ZeG d (tch d n)) (0,0,[])=_ from k0,x1,x2,Zeg (show(ZgJ d n (nt d n)).length+1<=1073741824 by rw[Ziq];omega),cT,ZiI (show -9223372036854775808<=ZdX d.parts (n:Int)-cut d n (nt d n) by omega) (by omega)]
 rw[ZjM,Zsh]
theorem Zrg {d:Zj} (g:ZcC d) {n:Nat} (hn:n<=d.parts.length):ZcT d (n:Int)=some (Zaa d n:Int):=by
 have hpl:=g.pl
 have key:∀(k i:Nat),i+k=n->lp (Zeu d (n:Int)) ((Zaa d i:Int),(i:Int))=some (Zaa d n:Int):=by
  intro k
  induction k with
  | zero=>
   intro i hi
   have:i=n:=by omega
   subst this
   rw[ZY]
   simp only[Zeu,Zbh,cF]
  | succ k ih=>
   intro i hi
   have hi':i<n:=by omega
   have hb:=Zfy g (i+1)
   have e:(Zaa d i:Int)+((ZeZ d i).length:Int)=(Zaa d (i+1):Int):=by
    unfold ZeZ
    rw[Ziq]
    show _=((Zaa d i+(nt d i+1):Nat):Int)
    omega
   rw[ZY]
   simp only[Zeu,ZaW hi',cT,Zwa g (show i<d.parts.length by omega),bS,e,ZiI (show -9223372036854775808<=(Zaa d (i+1):Int) by omega) (by omega),Zw hi' (show n<9223372036854775808 by omega)]
   exact ih (i+1) (by omega)
 unfold ZcT
 have k0:=key n 0 (by omega)
 rw[show lp (Zeu d (n:Int)) (0,0)=_ from k0]
 rfl
def ZhF (d:Zj) (z:Int):Int:=(Zaa d z.toNat:Int)
def ZkS (d:Zj) (z:Int):Int:=(Zaa d (z.toNat+1):Int)-1
theorem ZoL {d:Zj} (g:ZcC d) {z:Int} (h:inR d z):ZcT d z=some (ZhF d z):=by
 have:=Zrg g (n:=z.toNat) (Nat.le_of_lt h.2)
 rwa [show((z.toNat:Nat):Int)=z from toNat_of_nonneg h.1] at this
theorem Zrb {d:Zj} (g:ZcC d) {z:Int} (h:inR d z):Zhd d z=some (ZkS d z):=by
 have hpl:=g.pl
 have h2:=h.2
 have h1:=h.1
 have:=Zrg g (n:=z.toNat+1) (by omega)
 have hb:=Zfy g (z.toNat+1)
 unfold Zhd ZkS
 rw[ZiI (show -9223372036854775808<=z+1 by omega) (by omega),show z+1=((z.toNat+1:Nat):Int) by omega,this]
 rw[bS,ZiI (show -9223372036854775808<=(Zaa d (z.toNat+1):Int)-1 by omega) (by omega)]
def Zyv (d:Zj) (f:Zl):Int:=ZlV (fun _ z=>ZeT d.futures z==f.pos) (fun i _=>ZhF d f.user+(i:Int)+1) (-1) 0 (tch d f.user.toNat)
theorem ZA2 {d:Zj} (g:ZcC d) {f:Zl} (hf:f∈d.futures):ZjH d f=some (Zyv d f):=by
 have hu:=g.user hf
 have hz:((f.user.toNat:Nat):Int)=f.user:=toNat_of_nonneg hu.1
 have hb:=Zfy g f.user.toNat
 have hpl:=g.pl
 have hu2:=hu.2
 have hnt:=Zw9 g f.user.toNat
 have key:=ZcG (tch d f.user.toNat) (Zgy d f (tch d f.user.toNat)) (fun _ z=>ZeT d.futures z==f.pos) (fun i _=>.inl (ZhF d f.user+(i:Int)+1)) (.inr ()) (fun i z hi hx=>by
   obtain⟨e,h1,h2,h3,_⟩:=Zjj g.g (show i<nt d f.user.toNat from hi)
   have hz2:(tch d f.user.toNat)[i]=z:=Option.some.inj ((gE hi).symm.trans hx)
   rw[hz2] at h1 h2 h3
   have hp:ZeT d.futures z=e.pos:=by unfold ZeT;rw[h3]
   have hi2:i<nt d f.user.toNat:=hi
   have hfz:ZhF d f.user=(Zaa d f.user.toNat:Int):=rfl
   simp only[Zgy,ZaW hi,cT,h1,h2,bS,hp,ZoL g hu,Zw hi (show(tch d f.user.toNat).length<9223372036854775808 by show nt d f.user.toNat<_;omega),ZiI (show -9223372036854775808<=ZhF d f.user+(i:Int) by rw[hfz];omega) (by rw[hfz];omega),ZiI (show -9223372036854775808<=ZhF d f.user+(i:Int)+1 by rw[hfz];omega) (by rw[hfz];omega)]
   cases e.pos==f.pos<;>rfl) (by simp only[Zgy,Zbh];rfl)
 have ht:=ZFx (d:=d) (by have:=g.fl;omega) f.user.toNat
 rw[hz] at ht
 unfold ZjH Zyv
 rw[ht,bS,key]
 exact(ZrV (fun _ z=>ZeT d.futures z==f.pos) (fun i _=>(Sum.inl (ZhF d f.user+(i:Int)+1):Int⊕Unit)) (.inr ()) (fun r=>match r with | .inl r=>some r | .inr _=>some (-1:Int)) _ 0).trans (ZrV (fun _ z=>ZeT d.futures z==f.pos) (fun i _=>ZhF d f.user+(i:Int)+1) (-1) some _ 0).symm
def upto {β:Type} (B:Nat->List β) (k:Nat):List β:=(List.range k).flatMap B
theorem Zdi {β:Type} (B:Nat->List β) (k:Nat):upto B (k+1)=upto B k++B k:=by unfold upto;rw[range_succ,List.flatMap_append];simp
theorem ZoH {γ β:Type} (l:List γ) (hl:l.length<=1000) (step:Int×List β->Option ((Int×List β)⊕List β)) (g:γ->β)
  (h1:∀(i:Nat) x s,i<l.length->l[i]? = some x->Nat.ble (s.length+1) lim=true->step ((i:Int),s)=some (.inl (((i+1:Nat):Int),s++[g x])))
  (h2:∀s,step ((l.length:Int),s)=some (.inr s)) (s:List β) (hs:s.length<=1000000):lp step (0,s)=some (s++l.map g):=by
 have key:=(ZeS l step (fun i s=>((i:Int),s)) (fun _ s x=>s++[g x]) id (fun i s=>s.length<=1000000+i) (fun i x s hi hx hI=>⟨h1 i x s hi hx (Zeg (by omega)),by rw[lA];simp only[length_cons,length_nil];omega⟩) (fun s _=>h2 s) s (by omega)).1
 have e:∀(l:List γ) (i:Nat) (s:List β),Zck (fun _ s x=>s++[g x]) i s l=s++l.map g:=by
  intro l
  induction l with
  | nil=>intro i s;simp[Zck]
  | cons x l ih=>intro i s;show Zck _ (i+1) (s++[g x]) l=_;rw[ih];simp
 rw[e] at key
 exact key
def ZgN (d:Zj) (n k:Nat):List Zo:=(List.range k).map fun j=>⟨((Zaa d n+j:Nat):Int),((Zaa d n+j+1:Nat):Int)⟩
theorem ZoY (d:Zj) (n k:Nat):ZgN d n (k+1)=ZgN d n k++[⟨((Zaa d n+k:Nat):Int),((Zaa d n+k+1:Nat):Int)⟩]:=by unfold ZgN;rw[range_succ,map_append];rfl
theorem ZqY (d:Zj) (n k:Nat):(ZgN d n k).length=k:=by unfold ZgN;simp
def Zdr (n k:Nat):List Zi:=(List.range k).map fun j:Nat=>⟨(n:Int),(j:Int)⟩
theorem Zrw (n k:Nat):Zdr n (k+1)=Zdr n k++[⟨(n:Int),(k:Int)⟩]:=by unfold Zdr;rw[range_succ,map_append];rfl
theorem ZoM (n k:Nat):(Zdr n k).length=k:=by unfold Zdr;simp
def Zd5 (d:Zj) (k:Nat):LI:=upto (ZeZ d) k
def ZeU (d:Zj) (k:Nat):List Zo:=upto (fun n=>ZgN d n (nt d n)) k
def Zbt (d:Zj) (k:Nat):List Zi:=upto (fun n=>Zdr n (nt d n+1)) k
theorem Zjk (d:Zj):∀k,(Zd5 d k).length=Zaa d k
 | 0=>rfl
 | k+1=>by unfold Zd5;rw[Zdi,lA];unfold ZeZ;rw[Ziq];show(Zd5 d k).length+_=Zaa d k+_;rw[Zjk d k]
theorem ZgG (d:Zj):∀k,(Zbt d k).length=Zaa d k
 | 0=>rfl
 | k+1=>by unfold Zbt;rw[Zdi,lA,ZoM];show(Zbt d k).length+_=Zaa d k+_;rw[ZgG d k]
theorem ZnV (d:Zj):∀k,(ZeU d k).length<=Zaa d k
 | 0=>Nat.le_refl _
 | k+1=>by unfold ZeU;rw[Zdi,lA,ZqY];have:=ZnV d k;unfold ZeU at this;show _<=Zaa d k+(nt d k+1);omega
def Zpb (d:Zj):List Zo:=d.edges.map fun e=>⟨ZkS d e.src,ZhF d e.dst⟩
def ZsV (d:Zj):List Zo:=d.futures.map fun f=>⟨ZkS d f.maker,Zyv d f⟩
def ZA6 (d:Zj) (at_:Int) (b:Zv):List Zo:=b.ins.map (fun q=>⟨ZkS d q,at_⟩)++b.outs.map (fun q=>⟨at_,ZhF d q⟩)
def Zoi (d:Zj) (i:Nat):Int:=((Zaa d d.parts.length+i:Nat):Int)
def Zdv (d:Zj) (k:Nat):List Zo:=upto (fun i=>match d.barriers[i]? with | some b=>ZA6 d (Zoi d i) b | none=>[]) k
def ZdI (k:Nat):List Zi:=(List.range k).map fun i:Nat=>⟨-1,(i:Int)⟩
theorem ZtG (k:Nat):(ZdI k).length=k:=by unfold ZdI;simp
theorem Zr3 (k:Nat):ZdI (k+1)=ZdI k++[⟨-1,(k:Int)⟩]:=by unfold ZdI;rw[range_succ,map_append];rfl
def ZiH (d:Zj):LI:=Zd5 d d.parts.length++List.replicate d.barriers.length 1
def ZnG (d:Zj):List Zo:=ZeU d d.parts.length++Zpb d++ZsV d
def ZAO (d:Zj):List Zo:=ZnG d++Zdv d d.barriers.length
def ZuH (d:Zj):List Zi:=Zbt d d.parts.length++ZdI d.barriers.length
def Zdl (d:Zj):ZoC:=⟨⟨ZiH d,ZAO d⟩,ZuH d⟩
theorem ZqB {d:Zj} (g:ZcC d):(ZnG d).length<=1000:=by
 unfold ZnG Zpb ZsV
 have h1:=ZnV d d.parts.length
 have h2:=Zfy g d.parts.length
 have h3:=g.pl
 have h4:=g.el
 have h5:=g.fl
 simp only[lA,length_map]
 omega
theorem ZGd {d:Zj} (hz:ZhV d) {b:Zv} (hb:b∈d.barriers) (z:Int):(ZA6 d z b).length<=40:=by
 have:=hz.i b hb
 unfold ZA6
 simp only[lA,length_map]
 omega
theorem ZnJ {d:Zj} (hz:ZhV d):∀k,(Zdv d k).length<=40*k
 | 0=>Nat.le_refl _
 | k+1=>by
  have ih:=ZnJ hz k
  unfold Zdv at ih ⊢
  rw[Zdi,lA]
  split
  ·rename_i b hb
   have:=ZGd hz (mG hb) (Zoi d k)
   omega
  ·simp only[length_nil];omega
theorem ZBv {d:Zj} (g:ZcC d) {n:Nat} (hn:n<d.parts.length) (s0:Int×List Zo×LI×List Zi) (h0:s0.1=(n:Int)) (E:List Zo) (W:LI) (P:List Zi) (hE:E.length<=1000) (hW:W.length<=1000) (hP:P.length<=1000) :
  lp (Zev d s0 (ZeZ d n)) (0,E,W,P)=some (E++ZgN d n (nt d n),W++ZeZ d n,P++Zdr n (nt d n+1)):=by
 have hnt:=Zw9 g n
 have hpl:=g.pl
 have hF:=Zfy g n
 have hlen:(ZeZ d n).length=nt d n+1:=Ziq d n _
 have key:∀(k i:Nat),i+k=nt d n+1->lp (Zev d s0 (ZeZ d n)) ((i:Int),E++ZgN d n (i-1),W++ZgJ d n i,P++Zdr n i)=some (E++ZgN d n (nt d n),W++ZeZ d n,P++Zdr n (nt d n+1)):=by
  intro k
  induction k with
  | zero=>
   intro i hi
   have:i=nt d n+1:=by omega
   subst this
   rw[ZY]
   simp only[Zev,show((nt d n+1:Nat):Int)=((ZeZ d n).length:Int) by rw[hlen],Zbh,cF]
   rfl
  | succ k ih=>
   intro i hi
   have hi':i<nt d n+1:=by omega
   have hx:(ZeZ d n)[i]? = some (cut d n (i+1)-cut d n i):=by
    unfold ZeZ ZgJ
    rw[List.getElem?_map,List.getElem?_range hi']
    rfl
   have l1:(P++Zdr n i).length+1<=1073741824:=by rw[lA,ZoM];omega
   have l2:(W++ZgJ d n i).length+1<=1073741824:=by rw[lA,Ziq];omega
   have l3:(E++ZgN d n (i-1)).length+1<=1073741824:=by rw[lA,ZqY];omega
   have ih':=ih (i+1) (by omega)
   rw[ZjM,Zrw,<- append_assoc,<- append_assoc] at ih'
   rw[ZY]
   simp only[Zev,hlen,ZaW hi',cT,Zeg l1,ZI hx,bS,Zeg l2,Zeg l3,h0,Zrg g (Nat.le_of_lt hn),Zw hi' (show nt d n+1<9223372036854775808 by omega)]
   cases i with
   | zero=>
    simp only[dF (show ¬(0:Int)<((0:Nat):Int) by omega),cF]
    exact ih'
   | succ j=>
    have e1:(Zaa d n:Int)+((j+1:Nat):Int)=((Zaa d n+j+1:Nat):Int):=by omega
    have e2:((Zaa d n+j+1:Nat):Int)-1=((Zaa d n+j:Nat):Int):=by omega
    simp only[dT (show(0:Int)<((j+1:Nat):Int) by omega),cT,e1,ZiI (show -9223372036854775808<=((Zaa d n+j+1:Nat):Int) by omega) (by omega),e2,ZiI (show -9223372036854775808<=((Zaa d n+j:Nat):Int) by omega) (by omega),Nat.add_sub_cancel]
    rw[Nat.add_sub_cancel,ZoY,<- append_assoc] at ih'
    exact ih'
 have:=key (nt d n+1) 0 (by omega)
 simpa [ZgN,ZgJ,Zdr] using this
theorem ZBy {d:Zj} (g:ZcC d):lp (ZeH d) (0,[],[],[])=some (ZeU d d.parts.length,Zd5 d d.parts.length,Zbt d d.parts.length):=by
 have hpl:=g.pl
 have key:∀(k i:Nat),i+k=d.parts.length->lp (ZeH d) ((i:Int),ZeU d i,Zd5 d i,Zbt d i)=some (ZeU d d.parts.length,Zd5 d d.parts.length,Zbt d d.parts.length):=by
  intro k
  induction k with
  | zero=>
   intro i hi
   have:i=d.parts.length:=by omega
   subst this
   rw[ZY]
   simp only[ZeH,Zbh,cF]
  | succ k ih=>
   intro i hi
   have hi':i<d.parts.length:=by omega
   have hF:=Zfy g i
   have h1:=ZnV d i
   have ih':=ih (i+1) (by omega)
   rw[show ZeU d (i+1)=ZeU d i++ZgN d i (nt d i) from Zdi _ i,show Zd5 d (i+1)=Zd5 d i++ZeZ d i from Zdi _ i,show Zbt d (i+1)=Zbt d i++Zdr i (nt d i+1) from Zdi _ i] at ih'
   rw[ZY]
   simp only[ZeH,ZaW hi',cT,Zwa g hi',bS,ZBv g hi' ((i:Int),ZeU d i,Zd5 d i,Zbt d i) rfl (ZeU d i) (Zd5 d i) (Zbt d i) (by omega) (by rw[Zjk];omega) (by rw[ZgG];omega),Zw hi' (show d.parts.length<9223372036854775808 by omega)]
   exact ih'
 exact key d.parts.length 0 (by omega)
theorem ZBc {d:Zj} (g:ZcC d) (E:List Zo) (hE:E.length<=10000):lp (ZeD d) (0,E)=some (E++Zpb d):=
 have he:=g.el
 ZoH d.edges (by omega) (ZeD d) (fun e=>⟨ZkS d e.src,ZhF d e.dst⟩) (fun i x s hi hx hb=>by
  have hm:=mG hx
  simp only[ZeD,ZaW hi,cT,ZI hx,bS,Zrb g (g.src hm),ZoL g (g.dst hm),hb,Zw hi (by omega)]) (fun s=>by simp only[ZeD,Zbh,cF]) E (by omega)
theorem Zyt {d:Zj} (g:ZcC d) (E:List Zo) (hE:E.length<=10000):lp (Zep d) (0,E)=some (E++ZsV d):=
 have he:=g.fl
 ZoH d.futures (by omega) (Zep d) (fun f=>⟨ZkS d f.maker,Zyv d f⟩) (fun i x s hi hx hb=>by
  have hm:=mG hx
  simp only[Zep,ZaW hi,cT,ZI hx,bS,Zrb g (g.maker hm),ZA2 g hm,hb,Zw hi (by omega)]) (fun s=>by simp only[Zep,Zbh,cF]) E (by omega)
theorem ZDp {d:Zj} (g:ZcC d) (hz:ZhV d) (E:List Zo) (hE:E.length<=10000):lp (Zen d) (0,E,Zd5 d d.parts.length,Zbt d d.parts.length)=some (E++Zdv d d.barriers.length,ZiH d,ZuH d):=by
 have hbl:=g.bl
 have hF:=Zfy g d.parts.length
 have hpl:=g.pl
 have key:∀(k i:Nat),i+k=d.barriers.length->lp (Zen d) ((i:Int),E++Zdv d i,Zd5 d d.parts.length++List.replicate i 1,Zbt d d.parts.length++ZdI i)=some (E++Zdv d d.barriers.length,ZiH d,ZuH d):=by
  intro k
  induction k with
  | zero=>
   intro i hi
   have:i=d.barriers.length:=by omega
   subst this
   rw[ZY]
   simp only[Zen,Zbh,cF]
   rfl
  | succ k ih=>
   intro i hi
   have hi':i<d.barriers.length:=by omega
   have hx:d.barriers[i]? = some d.barriers[i]:=gE hi'
   have hm:=mG hx
   have hsz:=hz.i _ hm
   have hB:=ZnJ hz i
   have lp_:(Zbt d d.parts.length++ZdI i).length=Zaa d d.parts.length+i:=by rw[lA,ZgG,ZtG]
   have lw_:(Zd5 d d.parts.length++List.replicate i (1:Int)).length=Zaa d d.parts.length+i:=by rw[lA,Zjk,length_replicate]
   have hat:((Zbt d d.parts.length++ZdI i).length:Int)=Zoi d i:=by rw[lp_];rfl
   have k4:=fun s=>ZoH d.barriers[i].ins (by omega) (ZgE d ((i:Int),E++Zdv d i,Zd5 d d.parts.length++List.replicate i 1,Zbt d d.parts.length++ZdI i) d.barriers[i]) (fun q=>⟨ZkS d q,Zoi d i⟩) (fun j x s hj hx hb=>by
    simp only[ZgE,ZaW hj,cT,ZI hx,bS,Zrb g (g.ins _ hm x (mG hx)),hb,hat,Zw hj (by omega)]) (fun s=>by simp only[ZgE,Zbh,cF]) s
   have k5:=fun s=>ZoH d.barriers[i].outs (by omega) (Zgb d ((i:Int),E++Zdv d i,Zd5 d d.parts.length++List.replicate i 1,Zbt d d.parts.length++ZdI i) d.barriers[i]) (fun q=>⟨Zoi d i,ZhF d q⟩) (fun j x s hj hx hb=>by
    simp only[Zgb,ZaW hj,cT,ZI hx,bS,ZoL g (g.outs _ hm x (mG hx)),hb,hat,Zw hj (by omega)]) (fun s=>by simp only[Zgb,Zbh,cF]) s
   have ih':=ih (i+1) (by omega)
   have eB:Zdv d (i+1)=Zdv d i++ZA6 d (Zoi d i) d.barriers[i]:=by
    unfold Zdv
    rw[Zdi,hx]
   rw[eB,Zr3,List.replicate_succ',ZA6,<- append_assoc,<- append_assoc,<- append_assoc,<- append_assoc] at ih'
   rw[ZY]
   simp only[Zen,ZaW hi',cT,Zeg (show(Zbt d d.parts.length++ZdI i).length+1<=1073741824 by rw[lp_];omega),Zeg (show(Zd5 d d.parts.length++List.replicate i (1:Int)).length+1<=1073741824 by rw[lw_];omega),ZI hx,bS,k4 (E++Zdv d i) (by rw[lA];omega),
    k5 (E++Zdv d i++List.map (fun q=>⟨ZkS d q,Zoi d i⟩) d.barriers[i].ins) (by simp only[lA,length_map];omega),Zw hi' (show d.barriers.length<9223372036854775808 by omega)]
   exact ih'
 have:=key d.barriers.length 0 (by omega)
 simpa [Zdv,upto,ZdI] using this
theorem ZBG {d:Zj} (g:ZcC d) (hz:ZhV d):Zjt d=some (Zdl d):=by
 have hE:=ZqB g
 have h3:(ZeU d d.parts.length++Zpb d).length<=10000:=by unfold ZnG at hE;rw[lA] at hE;omega
 have h4:(ZeU d d.parts.length).length<=10000:=by rw[lA] at h3;omega
 unfold Zjt
 rw[ZBy g]
 simp only[bS,ZBc g _ h4,Zyt g _ h3]
 rw[show ZeU d d.parts.length++Zpb d++ZsV d=ZnG d from rfl,ZDp g hz (ZnG d) (by omega)]
 rfl
theorem Zjb (b:Zi) (c:Int) {W:LI}{P:List Zi} (h1:W.length<=10000) (h2:P.length<=10000):ZaB b c W P=some ():=by
 unfold ZaB
 rw[Zeg (by omega),Zeg (by omega)];rfl
theorem Znq (b c:Int) {E:List Zo} (h1:E.length<=10000):ZP b c E=some ():=by
 unfold ZP
 rw[Zeg (by omega)];rfl
theorem ZyR {β:Type} (P:List β) (x:β) (hP:P.length<=10000):w64 ((List.length (P++[x]):Int)-1)=(P.length:Int):=by
 rw[lA]
 simp only[length_cons,length_nil]
 rw[Za0 (by omega)]
 omega
theorem ZEa {d:Zj} (g:ZcC d) {n:Nat} (hn:n<d.parts.length) (hc:Ze0 d (n:Int)=some (tch d n)) {W:LI}{E:List Zo}{P:List Zi} (M5:List (Int×Int)) (M6:List (Zl×Int)) (hW:W.length<=1000) (hE:E.length<=1000) (hP:P.length<=1000) :
  Zf9 d (n:Int) W E P M5 M6=(lp (ZH d (n:Int) (tch d n)) (0,0,M5,M6,W,E,P)).bind fun r=>some (bif decide (0<nt d n) then .inl r else .inr (.inl r.2.2.1)):=by
 obtain⟨x,x1,x2⟩:=ZyB hn
 have hnt:=Zw9 g n
 have hnl:(tch d n).length=nt d n:=rfl
 have e1:w64 (((tch d n).length:Int)+1)=(((tch d n).length+1:Nat):Int):=by rw[Za0 (by omega)];omega
 have w1:w64 ((0:Int)+1)=1:=Za0 (by omega)
 have w2:w64 ((1:Int)+1)=2:=Za0 (by omega)
 have w0:w64 ((1:Int)-1)=0:=Za0 (by omega)
 have lW:∀a:Int,(W++[a]).length<=10000:=fun a=>by rw[lA];simp only[length_cons,length_nil];omega
 have lP:∀a:Zi,(P++[a]).length<=10000:=fun a=>by rw[lA];simp only[length_cons,length_nil];omega
 unfold Zf9
 rw[hc,bS,ZY (ZcE d (n:Int) W E P M5 M6 (tch d n)),ZY (ZH d (n:Int) (tch d n))]
 by_cases h0:0<nt d n
 ·obtain⟨f,f1,f2,_⟩:=Zjj g.g h0
  have c0:decide ((0:Int)<(((tch d n).length+1:Nat):Int))=true:=dT (by omega)
  have c1:decide ((0:Int)<((tch d n).length:Int))=true:=dT (by omega)
  have c2:decide ((1:Int)<(((tch d n).length+1:Nat):Int))=true:=dT (by omega)
  have f1':ZA (tch d n) 0=some (tch d n)[0]:=f1
  simp only[ZcE,ZH,e1,c0,c1,cT,x1,bS,f1',f2,Zjb _ _ (show W.length<=10000 by omega) (show P.length<=10000 by omega),w1,dF (show ¬(0:Int)<0 by omega),cF,dT h0]
  rw[ZY (ZcB d (n:Int) W E P M5 M6 (tch d n) f),ZY (ZH d (n:Int) (tch d n))]
  by_cases h1:1<nt d n
  ·obtain⟨f',f1b,f2b,_⟩:=Zjj g.g h1
   have f1b':ZA (tch d n) 1=some (tch d n)[1]:=f1b
   have c3:decide ((1:Int)<((tch d n).length:Int))=true:=dT (by omega)
   simp only[ZcB,ZH,e1,c2,c3,cT,x1,bS,f1',f2,f1b',f2b,Zjb _ _ (lW _) (lP _),Znq _ _ (show E.length<=10000 by omega),w2,w0,dT (show(0:Int)<1 by omega)]
   generalize lp (ZH d (n:Int) (tch d n)) _=r
   cases r<;>rfl
  ·have c3:decide ((1:Int)<((tch d n).length:Int))=false:=dF (by omega)
   simp only[ZcB,ZH,e1,c2,c3,cT,cF,x1,bS,f1',f2,Zjb _ _ (lW _) (lP _),Znq _ _ (show E.length<=10000 by omega),w2,w0,dT (show(0:Int)<1 by omega)]
   generalize lp (ZH d (n:Int) (tch d n)) _=r
   cases r<;>rfl
 ·have c0:decide ((0:Int)<(((tch d n).length+1:Nat):Int))=true:=dT (by omega)
  have c1:decide ((0:Int)<((tch d n).length:Int))=false:=dF (by omega)
  have c2:decide ((1:Int)<(((tch d n).length+1:Nat):Int))=false:=dF (by omega)
  simp only[ZcE,ZH,e1,c0,c1,cT,x1,bS,Zjb _ _ (show W.length<=10000 by omega) (show P.length<=10000 by omega),w1,dF (show ¬(0:Int)<0 by omega),cF,dF h0]
  rw[ZY (Zdu d (n:Int) W E P M5 M6 (tch d n) x),ZY (ZH d (n:Int) (tch d n))]
  simp only[Zdu,ZH,e1,c2,cF,bS]
abbrev eqF:Zl->Zl->Bool:=fun ka kb:Zl=>((ka.maker==kb.maker)&&((ka.user==kb.user)&&((ka.pos==kb.pos)&&true)))
def Zmp (M:List (Int×Int)) (n F i:Nat):List (Int×Int):=if i=0 then M else M++[((n:Int),((F+i-1:Nat):Int))]
theorem ZAk {M:List (Int×Int)}{n F:Nat} (h:∀q∈M,q.1≠(n:Int)) (i:Nat):Zy zE (Zmp M n F i) (n:Int) ((F+i:Nat):Int)=Zmp M n F (i+1):=by
 have hq:∀q∈M,eqI (n:Int) q.1=false:=fun q hq=>by
  show((n:Int)==q.1)=false
  exact beq_false_of_ne (Ne.symm (h q hq))
 unfold Zmp
 rw[if_neg (show i+1≠0 by omega)]
 by_cases h0:i=0
 ·subst h0
  rw[if_pos rfl]
  exact ZlB eqI (n:Int) _ M hq
 ·rw[if_neg h0]
  exact ZtQ eqI (n:Int) _ _ (by simp) M hq
theorem Zzj {M:List (Int×Int)}{n F:Nat} (h:∀q∈M,q.1≠(n:Int)) (i:Nat):Zae zE (Zmp M n F (i+1)) (n:Int) 0=((F+i:Nat):Int):=by
 unfold Zmp
 rw[if_neg (show i+1≠0 by omega)]
 exact Zxf eqI (n:Int) 0 _ (by simp) M [] (fun q hq=>by
  show((n:Int)==q.1)=false
  exact beq_false_of_ne (Ne.symm (h q hq)))
def Zib (d:Zj) (n j:Nat):Zl:=match (tch d n)[j]? with | some z=>(match d.futures[z.toNat]? with | some f=>f | none=>⟨0,0,0⟩) | none=>⟨0,0,0⟩
theorem Zfs {d:Zj}{n i:Nat} (g:Zp3 d) (hi:i<nt d n):ZA (tch d n) (i:Int)=some (tch d n)[i]/\ZA d.futures (tch d n)[i]=some (Zib d n i)/\(Zib d n i).user=(n:Int)/\(Zib d n i).pos=cut d n (i+1)/\Zib d n i∈d.futures:=by
 obtain⟨f,h1,h2,h3,h4,h5,h6⟩:=Zjj g hi
 have e:Zib d n i=f:=by
  unfold Zib
  rw[gE hi]
  show(match d.futures[((tch d n)[i]).toNat]? with | some f=>f | none=>⟨0,0,0⟩)=f
  rw[h3]
 rw[e]
 exact⟨h1,h2,h4,h5,h6⟩
theorem ZrO {d:Zj} (g:Zp3 d) {n i j:Nat} (hij:i<j) (hj:j<nt d n):(Zib d n i).pos<(Zib d n j).pos:=by
 obtain⟨_,_,h3,_,_,h5,_⟩:=Zjj g (show i<nt d n by omega)
 obtain⟨_,_,k3,_,_,k5,_⟩:=Zjj g hj
 rw[(Zfs g (show i<nt d n by omega)).2.2.2.1,(Zfs g hj).2.2.2.1]
 have:=List.pairwise_iff_getElem.1 (Zq8 g n).rise i j (show i<nt d n by omega) hj hij
 have e:∀k (hk:k<nt d n),cut d n (k+1)=ZeT d.futures (tch d n)[k]:=fun k hk=>by
  unfold cut
  rw[if_neg (by omega),Nat.add_sub_cancel,gE hk]
 rw[e i (by omega),e j hj]
 exact this
def ZhZ (d:Zj) (n k:Nat):List (Zl×Int):=(List.range k).map fun j:Nat=>(Zib d n j,((Zaa d n+j+1:Nat):Int))
theorem Zy9 (d:Zj) (n k:Nat):ZhZ d n (k+1)=ZhZ d n k++[(Zib d n k,((Zaa d n+k+1:Nat):Int))]:=by unfold ZhZ;rw[range_succ,map_append];rfl
theorem Zyw {a b:Zl} (h:a.user≠b.user∨a.pos≠b.pos):eqF a b=false:=by
 show((a.maker==b.maker)&&((a.user==b.user)&&((a.pos==b.pos)&&true)))=false
 rcases h with h | h
 ·rw[beq_false_of_ne h];simp
 ·rw[beq_false_of_ne h];simp
theorem Zvi {d:Zj} (g:Zp3 d) {n k:Nat} (hk:k<nt d n) {M:List (Zl×Int)} (h:∀q∈M,q.1.user≠(n:Int)) :
  Zy (fun ka kb:Zl=>((ka.maker==kb.maker)&&((ka.user==kb.user)&&((ka.pos==kb.pos)&&true)))) (M++ZhZ d n k) (Zib d n k) ((Zaa d n+(k+1):Nat):Int)=M++ZhZ d n (k+1):=by
 rw[Zy9,<- append_assoc]
 refine ZlB eqF _ _ _ fun q hq=>?_
 have hu:=(Zfs g hk).2.2.1
 rcases List.mem_append.1 hq with hq | hq
 ·exact Zyw (.inl (by rw[hu];exact Ne.symm (h q hq)))
 ·unfold ZhZ at hq
  obtain⟨j,hj,rfl⟩:=List.mem_map.1 hq
  rw[List.mem_range] at hj
  have:=ZrO g hj hk
  exact Zyw (.inr (by show(Zib d n k).pos≠(Zib d n j).pos;omega))
theorem ZBH {d:Zj} (g:ZcC d) {n:Nat} (hn:n<d.parts.length) {W:LI}{E:List Zo}{P:List Zi}{M5:List (Int×Int)}{M6:List (Zl×Int)} (hW:W.length<=1000) (hE:E.length<=1000) (hP:P.length=Zaa d n)
  (h5:∀q∈M5,q.1≠(n:Int)) (h6:∀q∈M6,q.1.user≠(n:Int)) :
  lp (ZH d (n:Int) (tch d n)) (0,0,M5,M6,W,E,P)=some (M5++[((n:Int),((Zaa d n+nt d n:Nat):Int))],M6++ZhZ d n (nt d n),W++ZeZ d n,E++ZgN d n (nt d n),P++Zdr n (nt d n+1)):=by
 obtain⟨x,x1,x2⟩:=ZyB hn
 have hnt:=Zw9 g n
 have hnl:(tch d n).length=nt d n:=rfl
 have hF:=Zfy g n
 have hpl:=g.pl
 have e1:w64 (((tch d n).length:Int)+1)=((nt d n+1:Nat):Int):=by show w64 ((nt d n:Int)+1)=_;rw[Za0 (by omega)];omega
 have key:∀(k i:Nat),i+k=nt d n+1->lp (ZH d (n:Int) (tch d n)) (cut d n i,(i:Int),Zmp M5 n (Zaa d n) i,M6++ZhZ d n (i-1),W++ZgJ d n i,E++ZgN d n (i-1),P++Zdr n i) =
   some (Zmp M5 n (Zaa d n) (nt d n+1),M6++ZhZ d n (nt d n),W++ZeZ d n,E++ZgN d n (nt d n),P++Zdr n (nt d n+1)):=by
  intro k
  induction k with
  | zero=>
   intro i hi
   have:i=nt d n+1:=by omega
   subst this
   rw[ZY]
   simp only[ZH,e1,Zbh,cF]
   rfl
  | succ k ih=>
   intro i hi
   have hi':i<nt d n+1:=by omega
   have b0:=ZwH g.g n i
   have b1:=ZwH g.g n (i+1)
   have lP:(P++Zdr n i).length=Zaa d n+i:=by rw[lA,ZoM,hP]
   have l2:(W++ZgJ d n i).length<=10000:=by rw[lA,Ziq];omega
   have l3:(E++ZgN d n (i-1)).length<=10000:=by rw[lA,ZqY];omega
   have lput:=ZyR (P++Zdr n i) (Zi.mk (n:Int) (i:Int)) (by rw[lP];omega)
   rw[lP] at lput
   have p5:=ZAk (F:=Zaa d n) h5 i
   have g5:=Zzj (F:=Zaa d n) h5 i
   have w5:w64 (cut d n (i+1)-cut d n i)=cut d n (i+1)-cut d n i:=Za0 (by omega)
   have ih':=ih (i+1) (by omega)
   rw[ZjM,Zrw,<- append_assoc,<- append_assoc] at ih'
   rw[ZY]
   have fin:i=nt d n->cut d n (i+1)=x.work:=fun h=>by rw[h,Zsh,x2]
   have node:=fun c=>Zjb (Zi.mk (n:Int) (i:Int)) c l2 (show(P++Zdr n i).length<=10000 by rw[lP];omega)
   by_cases hlast:i<nt d n
   ·obtain⟨q1,q2,q3,q4,_⟩:=Zfs g.g hlast
    cases i with
    | zero=>
     simp only[ZH,e1,ZaW hi',cT,x1,bS,ZaW (show 0<(tch d n).length from hlast),q1,q2,q4,node,dF (show ¬(0:Int)<((0:Nat):Int) by omega),cF,lput,p5,w5,Zw hi' (show nt d n+1<9223372036854775808 by omega)]
     exact ih'
    | succ j=>
     obtain⟨r1,r2,r3,r4,_⟩:=Zfs g.g (show j<nt d n by omega)
     have e2:w64 (((j+1:Nat):Int)-1)=(j:Int):=by rw[Za0 (by omega)];omega
     have e3:w64 (((Zaa d n+(j+1):Nat):Int)-1)=((Zaa d n+j:Nat):Int):=by rw[Za0 (by omega)];omega
     have p6:=Zvi g.g (show j<nt d n by omega) h6
     rw[Nat.add_sub_cancel] at l3 ih' ⊢
     rw[ZoY,<- append_assoc] at ih'
     simp only[ZH,e1,ZaW hi',cT,x1,bS,ZaW (show j+1<(tch d n).length from hlast),q1,q2,q4,node,dT (show(0:Int)<((j+1:Nat):Int) by omega),lput,p5,g5,w5,e2,e3,r1,r2,Znq _ _ l3,p6,Zw hi' (show nt d n+1<9223372036854775808 by omega)]
     exact ih'
   ·have hin:i=nt d n:=by omega
    have hfin:=fin hin
    rw[hfin] at w5 ih'
    have c3:decide ((i:Int)<((tch d n).length:Int))=false:=dF (by have:((tch d n).length:Int)=(nt d n:Int):=rfl;omega)
    cases i with
    | zero=>
     simp only[ZH,e1,ZaW hi',cT,x1,bS,c3,node,dF (show ¬(0:Int)<((0:Nat):Int) by omega),cF,lput,p5,w5,Zw hi' (show nt d n+1<9223372036854775808 by omega)]
     exact ih'
    | succ j=>
     obtain⟨r1,r2,r3,r4,_⟩:=Zfs g.g (show j<nt d n by omega)
     have e2:w64 (((j+1:Nat):Int)-1)=(j:Int):=by rw[Za0 (by omega)];omega
     have e3:w64 (((Zaa d n+(j+1):Nat):Int)-1)=((Zaa d n+j:Nat):Int):=by rw[Za0 (by omega)];omega
     have p6:=Zvi g.g (show j<nt d n by omega) h6
     rw[Nat.add_sub_cancel] at l3 ih' ⊢
     rw[ZoY,<- append_assoc] at ih'
     simp only[ZH,e1,ZaW hi',cT,cF,x1,bS,c3,node,dT (show(0:Int)<((j+1:Nat):Int) by omega),lput,p5,g5,w5,e2,e3,r1,r2,Znq _ _ l3,p6,Zw hi' (show nt d n+1<9223372036854775808 by omega)]
     exact ih'
 have:=key (nt d n+1) 0 (by omega)
 simpa [Zmp,ZhZ,ZgJ,ZgN,Zdr,cut] using this
def Zgi (a:Int) (T:List Bool) (e:Zo):List Bool:=bif (e.src==a) || bAt T e.src then T.set e.dst.toNat true else T
def ZxY (g:Z5) (a:Int) (T:List Bool):List Bool:=Zck (fun _ T e=>Zgi a T e) 0 T g.edges
def Zo5 (g:Z5) (a:Int):Nat->List Bool->List Bool
 | 0,T=>T
 | k+1,T=>Zo5 g a k (ZxY g a T)
theorem ZnB (a:Int) (T:List Bool) (e:Zo):(Zgi a T e).length=T.length:=by
 unfold Zgi
 cases (e.src==a) || bAt T e.src<;>simp
theorem ZLf {g:Z5} (h:ZgX g) (a:Int) (j:Int) (T:List Bool) (hT:T.length=g.work.length):lp (ZeL g a) (0,T)=some (ZxY g a T)/\(ZxY g a T).length=g.work.length:=by
 have:=ZeS g.edges (ZeL g a) (fun i T=>((i:Int),T)) (fun _ T e=>Zgi a T e) id (fun _ T=>T.length=g.work.length) (fun i e T hi he hT=>by
   have hm:=mG he
   refine⟨?_,by rw[ZnB];exact hT⟩
   have e1:=Zr6 (g:=g) hT (h.src e hm)
   have e2:=Zr6 (g:=g) hT (h.dst e hm)
   simp only[ZeL,ZaW hi,ZI he,bS,Zw hi h.short.e,cT,e1,e2,Zgi]
   cases (e.src==a)<;>cases bAt T e.src<;>rfl) (fun T hT=>by simp only[ZeL,Zbh];rfl) T hT
 exact this
theorem Zy2 {g:Z5} (h:ZgX g) (a:Int):∀(k i:Nat) (T:List Bool),i+k=g.work.length->T.length=g.work.length->lp (Zet g a) ((i:Int),T)=some (Zo5 g a k T)
 | 0,i,T,hi,hT=>by
  have:i=g.work.length:=by omega
  subst this
  rw[ZY]
  simp only[Zet,Zbh,cF]
  rfl
 | k+1,i,T,hi,hT=>by
  obtain⟨e,hl⟩:=ZLf h a 0 T hT
  rw[ZY]
  simp only[Zet,ZaW (show i<g.work.length by omega),cT,e,bS,Zw (show i<g.work.length by omega) h.short.w]
  exact Zy2 h a k (i+1) _ (by omega) hl
def ZnK (g:Z5) (a:Int):List Bool:=Zo5 g a g.work.length (List.replicate g.work.length false)
theorem ZIY {g:Z5} (h:ZgX g) (a:Int):ZjG g a=some (ZnK g a):=by
 have hl:=h.wl
 have:=Zy2 h a g.work.length 0 (List.replicate g.work.length false) (by simp) (by simp)
 have e0:lp (Zet g a) (0,List.replicate g.work.length false)=some (ZnK g a):=this
 unfold ZjG
 rw[dT (show(0:Int)<=(g.work.length:Int) by omega),dT (show(g.work.length:Int)<=lim by show(g.work.length:Int)<=1073741824;omega),beq_self_eq_true]
 simp only[decide_true,Bool.and_true,cT,toNat_natCast,e0,bS]
theorem Zzo {g:Z5} (h:ZgX g) (a:Int):∀(l:List Zo) (i:Nat) (T:List Bool),(∀e∈l,e∈g.edges)->T.length=g.work.length->(∀z,0<=z->bAt T z=true->Way g a z)->(∀z,0<=z->bAt (Zck (fun _ T e=>Zgi a T e) i T l) z=true->Way g a z)
 | [],_,_,_,_,hT=>hT
 | e :: l,i,T,hl,hn,hT=>by
  refine Zzo h a l (i+1) _ (fun x hx=>hl x (by simp[hx])) (by rw[ZnB];exact hn) fun z hz hb=>?_
  have he:=hl e (by simp)
  have hd:=h.dst e he
  have hb:bAt (Zgi a T e) z=true:=hb
  unfold Zgi at hb
  cases hc:(e.src==a) || bAt T e.src with
  | false=>rw[hc] at hb;exact hT z hz hb
  | true=>
   rw[hc] at hb
   simp only[cT] at hb
   rw[ZC4 (by rw[hn];exact hd.2) z hz,Bool.or_eq_true,decide_eq_true_eq] at hb
   rcases hb with hb | hb
   ·have:z=e.dst:=by omega
    subst this
    rw[Bool.or_eq_true,beq_iff_eq] at hc
    rcases hc with hc | hc
    ·exact hc ▸ Way.one he
    ·exact Way.more (hT _ (h.src e he).1 hc) he
   ·exact hT z hz hb
theorem Zvp (g:Z5) (a:Int) (T:List Bool):(ZxY g a T).length=T.length:=by
 have:∀(l:List Zo) (i:Nat) (T:List Bool),(Zck (fun _ T e=>Zgi a T e) i T l).length=T.length:=by
  intro l
  induction l with
  | nil=>intro i T;rfl
  | cons e l ih=>intro i T;exact(ih (i+1) _).trans (ZnB a T e)
 exact this g.edges 0 T
theorem ZvI {g:Z5} (h:ZgX g) (a:Int):∀(k:Nat) (T:List Bool),T.length=g.work.length->(∀z,0<=z->bAt T z=true->Way g a z)->(∀z,0<=z->bAt (Zo5 g a k T) z=true->Way g a z)
 | 0,_,_,hT=>hT
 | k+1,T,hn,hT=>ZvI h a k _ (by rw[Zvp];exact hn) (Zzo h a g.edges 0 T (fun _ hx=>hx) hn hT)
def Zn5 (g:Z5) (a:Int) (T:List Bool):Prop:=∀e∈g.edges,(e.src=a∨bAt T e.src=true)->bAt T e.dst=true
theorem ZBL {g:Z5}{a:Int}{T:List Bool} (hc:Zn5 g a T) {b:Int} (w:Way g a b):bAt T b=true:=by
 generalize ha:a=a' at w
 induction w with
 | one he=>exact hc _ he (.inl ha.symm)
 | more w he ih=>exact hc _ he (.inr (ih ha))
def cnt (T:List Bool):Nat:=T.countP id
theorem ZIZ {T:List Bool}{i:Nat} (hi:i<T.length):cnt T<=cnt (T.set i true)/\(bAt T (i:Int)=false->cnt (T.set i true)=cnt T+1):=by
 have e:=List.countP_set (p:=id) (a:=true) hi
 have hb:bAt T (i:Int)=T[i]:=by unfold bAt;rw[toNat_natCast,gE hi]
 unfold cnt
 rw[e,hb]
 have pos:T[i]=true->0<T.countP id:=fun ht=>List.countP_pos_iff.2 ⟨T[i],getElem_mem hi,ht⟩
 cases ht:T[i] with
 | true=>have:=pos ht;simp;omega
 | false=>simp
theorem Zy4 {g:Z5} (h:ZgX g) (a:Int):∀(l:List Zo) (i:Nat) (T:List Bool),(∀e∈l,e∈g.edges)->T.length=g.work.length ->
  cnt T<=cnt (Zck (fun _ T e=>Zgi a T e) i T l)/\(cnt (Zck (fun _ T e=>Zgi a T e) i T l)=cnt T->Zck (fun _ T e=>Zgi a T e) i T l=T/\∀e∈l,(e.src=a∨bAt T e.src=true)->bAt T e.dst=true)
 | [],_,T,_,_=>⟨Nat.le_refl _,fun _=>⟨rfl,fun e he=>by cases he⟩⟩
 | e :: l,i,T,hl,hn=>by
  have he:=hl e (by simp)
  have hd:=h.dst e he
  have hi:e.dst.toNat<T.length:=by rw[hn];exact hd.2
  have hd2:((e.dst.toNat:Nat):Int)=e.dst:=by omega
  obtain⟨k1,k2⟩:=Zy4 h a l (i+1) (Zgi a T e) (fun x hx=>hl x (by simp[hx])) (by rw[ZnB];exact hn)
  show cnt T<=cnt (Zck _ (i+1) (Zgi a T e) l)/\(cnt (Zck _ (i+1) (Zgi a T e) l)=cnt T->Zck _ (i+1) (Zgi a T e) l=T/\_)
  obtain⟨c1,c2⟩:=ZIZ hi
  have hstep:cnt T<=cnt (Zgi a T e)/\(cnt (Zgi a T e)=cnt T->Zgi a T e=T/\((e.src=a∨bAt T e.src=true)->bAt T e.dst=true)):=by
   unfold Zgi
   cases hc:(e.src==a) || bAt T e.src with
   | false=>
    simp only[cF]
    refine⟨Nat.le_refl _,fun _=>⟨trivial,fun hx=>?_⟩⟩
    exfalso
    rw[Bool.or_eq_false_iff,beq_eq_false_iff_ne] at hc
    rcases hx with hx | hx
    ·exact hc.1 hx
    ·rw[hc.2] at hx;cases hx
   | true=>
    simp only[cT]
    refine⟨c1,fun hx=>?_⟩
    cases hb:bAt T e.dst with
    | false=>
     rw[hd2] at c2
     have:=c2 hb
     omega
    | true=>
     refine⟨?_,fun _=>rfl⟩
     have hg:T[e.dst.toNat]=true:=by
      unfold bAt at hb
      rw[gE hi] at hb
      exact hb
     rw[<- hg,List.set_getElem_self]
  refine⟨by omega,fun hx=>?_⟩
  obtain⟨s1,s2⟩:=hstep.2 (by omega)
  obtain⟨t1,t2⟩:=k2 (by omega)
  rw[s1] at t1 t2 ⊢
  refine⟨t1,fun x hx=>?_⟩
  rcases List.mem_cons.1 hx with rfl | hx
  ·exact s2
  ·exact t2 x hx
theorem Zqu {g:Z5} (h:ZgX g) (a:Int):∀(k:Nat) (T:List Bool),T.length=g.work.length->g.work.length<=cnt T+k->Zn5 g a (Zo5 g a k T)
 | 0,T,hn,hk=>by
  have hall:cnt T=T.length:=Nat.le_antisymm (List.countP_le_length) (by omega)
  have:=List.countP_eq_length.1 hall
  intro e he _
  have hd:=h.dst e he
  show bAt T e.dst=true
  unfold bAt
  rw[gE (show e.dst.toNat<T.length by rw[hn];exact hd.2)]
  exact this _ (getElem_mem _)
 | k+1,T,hn,hk=>by
  obtain⟨c1,c2⟩:=Zy4 h a g.edges 0 T (fun _ hx=>hx) hn
  by_cases hc:cnt (ZxY g a T)=cnt T
  ·obtain⟨t1,t2⟩:=c2 hc
   have t1':ZxY g a T=T:=t1
   have stay:∀k,Zo5 g a k T=T:=by
    intro k
    induction k with
    | zero=>rfl
    | succ k ih=>show Zo5 g a k (ZxY g a T)=T;rw[t1'];exact ih
   rw[stay]
   exact t2
  ·have c1':cnt T<=cnt (ZxY g a T):=c1
   exact Zqu h a k (ZxY g a T) (by rw[Zvp];exact hn) (by omega)
theorem ZwM {g:Z5} (h:ZgX g) {a b:Int} (hb:0<=b):bAt (ZnK g a) b=true↔Way g a b:=by
 constructor
 ·exact ZvI h a _ _ (by simp) (fun z hz hx=>by
   exfalso
   unfold bAt at hx
   rw[List.getElem?_replicate] at hx
   split at hx
   ·rename_i heq
    split at heq
    ·cases heq;cases hx
    ·cases heq
   ·cases hx) b hb
 ·exact ZBL (Zqu h a g.work.length (List.replicate g.work.length false) (by simp) (by omega))
theorem ZBD (g:Z5) (a:Int):(ZnK g a).length=g.work.length:=by
 have:∀(k:Nat) (T:List Bool),(Zo5 g a k T).length=T.length:=by
  intro k
  induction k with
  | zero=>intro T;rfl
  | succ k ih=>intro T;exact(ih _).trans (Zvp g a T)
 exact(this _ _).trans (by simp)
theorem ZAN (g:Z5) (h:Ztm g):Zjs g=some (Zgt g):=by
 unfold Zjs
 rw[ZBI g h,bS]
 by_cases h0:Zkb g=0
 ·have hG:=Zu4 h0
  have key:=ZcG g.work (Zgs g) (fun i _=>bAt (ZnK g (i:Int)) (i:Int)) (fun _ _=>.inl ()) (.inr ()) (fun i x hi hx=>by
    simp only[Zgs,ZaW hi,ZIY hG,bS,Zw hi h.w,cT,Zr6 (ZBD g (i:Int)) (z:=(i:Int)) ⟨by omega,by simpa using hi⟩]
    cases bAt (ZnK g (i:Int)) (i:Int)<;>rfl) (by simp only[Zgs,Zbh];rfl)
  rw[key,Zbg,h0]
  unfold Zgt
  rw[h0]
  by_cases hg:Zt2 g
  ·rw[ZCK hg]
   cases hb:Zhn (fun i _=>bAt (ZnK g (i:Int)) (i:Int)) 0 g.work with
   | false=>rfl
   | true=>
    obtain⟨j,x,_,h2⟩:=(Zlg _ _ 0).1 hb
    exact absurd ((ZwM hG (by omega)).1 h2) (hg _)
  ·rw[Zx2 hg]
   cases hb:Zhn (fun i _=>bAt (ZnK g (i:Int)) (i:Int)) 0 g.work with
   | true=>rfl
   | false=>
    exfalso
    refine hg fun a w=>?_
    have ha:=w.src_in hG
    have es:((a.toNat:Nat):Int)=a:=by omega
    have:=(Zlg (fun i (_:Int)=>bAt (ZnK g (i:Int)) (i:Int)) g.work 0).2 ⟨a.toNat,_,gE ha.2,by rw[zero_add,es];exact(ZwM hG ha.1).2 w⟩
    rw[hb] at this
    cases this
 ·unfold Zgt
  have hne:(Zkb g != 0)=true:=by rw[bne,beq_false_of_ne h0];rfl
  rw[beq_false_of_ne h0,hne]
  rfl
def ZhL (d:Zj) (k:Nat):List (Int×Int):=(List.range k).map fun n:Nat=>((n:Int),(Zaa d n:Int))
def Zik (d:Zj) (k:Nat):List (Int×Int):=(List.range k).map fun n:Nat=>((n:Int),((Zaa d n+nt d n:Nat):Int))
def ZeR (d:Zj) (k:Nat):List (Zl×Int):=upto (fun n=>ZhZ d n (nt d n)) k
theorem ZyE (d:Zj) (k:Nat):ZhL d (k+1)=ZhL d k++[((k:Int),(Zaa d k:Int))]:=by unfold ZhL;rw[range_succ,map_append];rfl
theorem ZzO (d:Zj) (k:Nat):Zik d (k+1)=Zik d k++[((k:Int),((Zaa d k+nt d k:Nat):Int))]:=by unfold Zik;rw[range_succ,map_append];rfl
theorem ZBi (d:Zj) (k:Nat):∀q∈ZhL d k,q.1≠(k:Int):=fun q hq=>by
 unfold ZhL at hq
 obtain⟨j,hj,rfl⟩:=List.mem_map.1 hq
 rw[List.mem_range] at hj
 show(j:Int)≠(k:Int)
 omega
theorem Zxs (d:Zj) (k:Nat):∀q∈Zik d k,q.1≠(k:Int):=fun q hq=>by
 unfold Zik at hq
 obtain⟨j,hj,rfl⟩:=List.mem_map.1 hq
 rw[List.mem_range] at hj
 show(j:Int)≠(k:Int)
 omega
theorem ZrB {d:Zj}{k:Nat}{q:Zl×Int} (h:q∈ZeR d k):∃n j,n<k/\j<nt d n/\q=(Zib d n j,((Zaa d n+j+1:Nat):Int)):=by
 unfold ZeR upto at h
 obtain⟨n,hn,hq⟩:=List.mem_flatMap.1 h
 unfold ZhZ at hq
 obtain⟨j,hj,rfl⟩:=List.mem_map.1 hq
 exact⟨n,j,List.mem_range.1 hn,List.mem_range.1 hj,rfl⟩
theorem ZAb {d:Zj} (g:Zp3 d) (k:Nat):∀q∈ZeR d k,q.1.user≠(k:Int):=fun q hq=>by
 obtain⟨n,j,hn,hj,rfl⟩:=ZrB hq
 show(Zib d n j).user≠(k:Int)
 rw[(Zfs g hj).2.2.1]
 omega
theorem Zkx {K W:Type} (eq:K->K->Bool) (z:W) (f:Nat->K) (v:Nat->W) {i:Nat} (h0:eq (f i) (f i)=true) (h1:∀j,j<i->eq (f i) (f j)=false):∀k,i<k->Zae eq ((List.range k).map fun j=>(f j,v j)) (f i) z=v i
 | 0,h=>absurd h (by omega)
 | k+1,h=>by
  rw[range_succ,map_append]
  by_cases hk:i<k
  ·rw[Znp eq (f i) z _ _ ⟨(f i,v i),List.mem_map.2 ⟨i,List.mem_range.2 hk,rfl⟩,h0⟩]
   exact Zkx eq z f v h0 h1 k hk
  ·have:i=k:=by omega
   subst this
   refine Zxf eq (f i) z (v i) h0 _ [] fun q hq=>?_
   obtain⟨j,hj,rfl⟩:=List.mem_map.1 hq
   exact h1 j (List.mem_range.1 hj)
theorem Zxv {d:Zj}{z:Int} (h:inR d z):Zae zE (ZhL d d.parts.length) z 0=ZhF d z:=by
 have:=Zkx eqI 0 (fun n:Nat=>(n:Int)) (fun n=>(Zaa d n:Int)) (i:=z.toNat) (by simp) (fun j hj=>beq_false_of_ne (by omega)) d.parts.length h.2
 have e:((z.toNat:Nat):Int)=z:=toNat_of_nonneg h.1
 simp only[e] at this
 exact this
theorem ZvM {d:Zj}{z:Int} (h:inR d z):Zae zE (Zik d d.parts.length) z 0=ZkS d z:=by
 have:=Zkx eqI 0 (fun n:Nat=>(n:Int)) (fun n=>((Zaa d n+nt d n:Nat):Int)) (i:=z.toNat) (by simp) (fun j hj=>beq_false_of_ne (by omega)) d.parts.length h.2
 have e:((z.toNat:Nat):Int)=z:=toNat_of_nonneg h.1
 simp only[e] at this
 refine Eq.trans this ?_
 unfold ZkS
 show _=((Zaa d z.toNat+(nt d z.toNat+1):Nat):Int)-1
 omega
theorem ZEu {d:Zj} (g:ZcC d) {f:Zl} (h:f∈d.futures):∃j,j<nt d f.user.toNat/\Zib d f.user.toNat j=f:=by
 obtain⟨m,hm⟩:=List.getElem?_of_mem h
 have hu:=g.user h
 have e:((f.user.toNat:Nat):Int)=f.user:=toNat_of_nonneg hu.1
 have:=(Zq8 g.g f.user.toNat).mem (m:Int) |>.2 ⟨m,f,hm,e.symm,rfl⟩
 obtain⟨j,hj,hj2⟩:=List.getElem_of_mem this
 refine⟨j,hj,?_⟩
 unfold Zib
 rw[gE hj]
 show(match d.futures[((tch d f.user.toNat)[j]).toNat]? with | some f=>f | none=>⟨0,0,0⟩)=f
 rw[hj2,toNat_natCast,hm]
theorem ZCy {γ R:Type} (p:Nat->γ->Bool) (out:Nat->γ->R) (fin:R):∀(l:List γ) (i j:Nat) (x:γ),l[j]? = some x->p (i+j) x=true->(∀k y,k<j->l[k]? = some y->p (i+k) y=false)->ZlV p out fin i l=out (i+j) x
 | [],i,j,x,h,_,_=>by cases h
 | y :: l,i,0,x,h,h1,_=>by
  cases h
  unfold ZlV
  rw[add_zero] at h1
  rw[h1];rfl
 | y :: l,i,j+1,x,h,h1,h2=>by
  unfold ZlV
  have h0:=h2 0 y (by omega) rfl
  rw[add_zero] at h0
  rw[h0]
  show ZlV p out fin (i+1) l=_
  rw[show i+(j+1)=i+1+j by omega] at h1 ⊢
  exact ZCy p out fin l (i+1) j x h h1 fun k z hk hz=>by
   have:=h2 (k+1) z (by omega) hz
   rwa [show i+(k+1)=i+1+k by omega] at this
theorem ZIw {d:Zj} (g:ZcC d) {f:Zl} (h:f∈d.futures) {j:Nat} (hj:j<nt d f.user.toNat) (he:Zib d f.user.toNat j=f):Zyv d f=((Zaa d f.user.toNat+j+1:Nat):Int):=by
 have pos:∀k (hk:k<nt d f.user.toNat),ZeT d.futures (tch d f.user.toNat)[k]=(Zib d f.user.toNat k).pos:=fun k hk=>by
  rw[(Zfs g.g hk).2.2.2.1]
  unfold cut
  rw[if_neg (by omega),Nat.add_sub_cancel,gE hk]
 unfold Zyv
 rw[ZCy (fun _ z=>ZeT d.futures z==f.pos) (fun i _=>ZhF d f.user+(i:Int)+1) (-1) (tch d f.user.toNat) 0 j _ (gE hj) (by show(ZeT d.futures (tch d f.user.toNat)[j]==f.pos)=true;rw[pos j hj,he];simp) (fun k y hk hy=>by
  have hk2:k<nt d f.user.toNat:=by omega
  have hy2:(tch d f.user.toNat)[k]=y:=Option.some.inj ((gE hk2).symm.trans hy)
  have:=ZrO g.g hk hj
  rw[he] at this
  show(ZeT d.futures y==f.pos)=false
  rw[<- hy2,pos k hk2]
  exact beq_false_of_ne (by omega))]
 unfold ZhF
 omega
theorem Zy6 (f:Zl):eqF f f=true:=by simp[eqF]
theorem ZDO {d:Zj} (g:ZcC d) {f:Zl} (h:f∈d.futures):Zae (fun ka kb:Zl=>((ka.maker==kb.maker)&&((ka.user==kb.user)&&((ka.pos==kb.pos)&&true)))) (ZeR d d.parts.length) f 0=Zyv d f:=by
 obtain⟨j,hj,he⟩:=ZEu g h
 have hu:=g.user h
 have eu:((f.user.toNat:Nat):Int)=f.user:=toNat_of_nonneg hu.1
 have key:∀k,f.user.toNat<k->Zae eqF (ZeR d k) f 0=Zyv d f:=by
  intro k
  induction k with
  | zero=>intro hk;exact absurd hk (by omega)
  | succ k ih=>
   intro hk
   rw[show ZeR d (k+1)=ZeR d k++ZhZ d k (nt d k) from Zdi _ k]
   by_cases hlt:f.user.toNat<k
   ·rw[Znp eqF f 0 _ _ ⟨(f,((Zaa d f.user.toNat+j+1:Nat):Int)),?_,Zy6 f⟩]
    ·exact ih hlt
    ·unfold ZeR upto
     refine List.mem_flatMap.2 ⟨f.user.toNat,List.mem_range.2 hlt,?_⟩
     unfold ZhZ
     exact List.mem_map.2 ⟨j,List.mem_range.2 hj,by rw[he]⟩
   ·have hk2:k=f.user.toNat:=by omega
    subst hk2
    rw[Zmy eqF f 0 _ _ (fun q hq=>by
     obtain⟨n,i,hn,hi,rfl⟩:=ZrB hq
     refine Zyw (.inl ?_)
     show f.user≠(Zib d n i).user
     rw[(Zfs g.g hi).2.2.1]
     omega)]
    have:=Zkx eqF 0 (fun i=>Zib d f.user.toNat i) (fun i=>((Zaa d f.user.toNat+i+1:Nat):Int)) (i:=j) (Zy6 _) (fun i hi=>by
     have:=ZrO g.g hi hj
     exact Zyw (.inr (by omega))) (nt d f.user.toNat) hj
    rw[ZIw g h hj he]
    rw[he] at this
    exact this
 exact key d.parts.length hu.2
theorem ZBQ {d:Zj} (g:ZcC d) (hc:∀n:Nat,Ze0 d (n:Int)=some (tch d n)):lp (Zdm d) (0,[],[],[],[],[],[])=some (Zd5 d d.parts.length,ZeU d d.parts.length,Zbt d d.parts.length,ZhL d d.parts.length,Zik d d.parts.length,ZeR d d.parts.length):=by
 have hpl:=g.pl
 have key:∀(k i:Nat),i+k=d.parts.length->lp (Zdm d) ((i:Int),Zd5 d i,ZeU d i,Zbt d i,ZhL d i,Zik d i,ZeR d i)=some (Zd5 d d.parts.length,ZeU d d.parts.length,Zbt d d.parts.length,ZhL d d.parts.length,Zik d d.parts.length,ZeR d d.parts.length):=by
  intro k
  induction k with
  | zero=>
   intro i hi
   have:i=d.parts.length:=by omega
   subst this
   rw[ZY]
   simp only[Zdm,Zbh,cF]
  | succ k ih=>
   intro i hi
   have hi':i<d.parts.length:=by omega
   have hF:=Zfy g i
   have h1:=ZnV d i
   have l1:(Zd5 d i).length<=1000:=by rw[Zjk];omega
   have l2:(ZeU d i).length<=1000:=by omega
   have l3:(Zbt d i).length<=1000:=by rw[ZgG];omega
   have ih':=ih (i+1) (by omega)
   rw[show ZeU d (i+1)=ZeU d i++ZgN d i (nt d i) from Zdi _ i,show Zd5 d (i+1)=Zd5 d i++ZeZ d i from Zdi _ i,show Zbt d (i+1)=Zbt d i++Zdr i (nt d i+1) from Zdi _ i,ZyE,ZzO,show ZeR d (i+1)=ZeR d i++ZhZ d i (nt d i) from Zdi _ i] at ih'
   have pe:=ZEa g hi' (hc i) (Zik d i) (ZeR d i) l1 l2 l3
   rw[ZBH g hi' l1 l2 (ZgG d i) (Zxs d i) (ZAb g.g i),bS] at pe
   have p4:Zy zE (ZhL d i) (i:Int) ((Zbt d i).length:Int)=ZhL d i++[((i:Int),(Zaa d i:Int))]:=by
    rw[ZgG]
    exact ZlB eqI (i:Int) _ _ fun q hq=>beq_false_of_ne (Ne.symm (ZBi d i q hq))
   have p5:Zy zE (Zik d i) (i:Int) (Zaa d i:Int)=Zik d i++[((i:Int),(Zaa d i:Int))]:=ZlB eqI (i:Int) _ _ fun q hq=>beq_false_of_ne (Ne.symm (Zxs d i q hq))
   have lput:=ZyR (Zbt d i) (Zi.mk (i:Int) 0) (by omega)
   rw[ZgG] at lput
   rw[ZY]
   by_cases h0:0<nt d i
   ·rw[dT h0] at pe
    simp only[Zdm,ZaW hi',cT,pe,bS,p4,Zw hi' (show d.parts.length<9223372036854775808 by omega)]
    exact ih'
   ·have hz:nt d i=0:=by omega
    rw[dF h0] at pe
    simp only[Zdm,ZaW hi',cT,cF,pe,bS,p4,lput,p5,Zw hi' (show d.parts.length<9223372036854775808 by omega)]
    rw[hz] at ih'
    simpa [ZgN,Zdr,ZhZ] using ih'
 exact key d.parts.length 0 (by omega)
theorem ZBh {d:Zj} (g:ZcC d) {r3:LI×List Zo×List Zi×List (Int×Int)×List (Int×Int)×List (Zl×Int)} (h4:r3.2.2.2.1=ZhL d d.parts.length) (h5:r3.2.2.2.2.1=Zik d d.parts.length) (E:List Zo) (hE:E.length<=1000):lp (Zeo d r3) (0,E)=some (E++Zpb d):=
 have he:=g.el
 ZoH d.edges (by omega) (Zeo d r3) (fun e=>⟨ZkS d e.src,ZhF d e.dst⟩) (fun i x s hi hx hb=>by
  have hm:=mG hx
  have ed:∀b c,ZP b c s=some ():=fun b c=>by unfold ZP;rw[hb];rfl
  simp only[Zeo,ZaW hi,cT,ZI hx,bS,h4,h5,ZvM (g.src hm),Zxv (g.dst hm),ed,Zw hi (by omega)]) (fun s=>by simp only[Zeo,Zbh,cF]) E (by omega)
theorem Zyz {d:Zj} (g:ZcC d) {r3:LI×List Zo×List Zi×List (Int×Int)×List (Int×Int)×List (Zl×Int)} (h5:r3.2.2.2.2.1=Zik d d.parts.length) (h6:r3.2.2.2.2.2=ZeR d d.parts.length) (E:List Zo) (hE:E.length<=1000):lp (ZeF d r3) (0,E)=some (E++ZsV d):=
 have he:=g.fl
 ZoH d.futures (by omega) (ZeF d r3) (fun f=>⟨ZkS d f.maker,Zyv d f⟩) (fun i x s hi hx hb=>by
  have hm:=mG hx
  have ed:∀b c,ZP b c s=some ():=fun b c=>by unfold ZP;rw[hb];rfl
  simp only[ZeF,ZaW hi,cT,ZI hx,bS,h5,h6,ZvM (g.maker hm),ZDO g hm,ed,Zw hi (by omega)]) (fun s=>by simp only[ZeF,Zbh,cF]) E (by omega)
theorem ZDW {d:Zj} (g:ZcC d) (hz:ZhV d) {r3:LI×List Zo×List Zi×List (Int×Int)×List (Int×Int)×List (Zl×Int)} (h4:r3.2.2.2.1=ZhL d d.parts.length) (h5:r3.2.2.2.2.1=Zik d d.parts.length) (E:List Zo) (hE:E.length<=1000) :
  lp (Zey d r3) (0,Zd5 d d.parts.length,E,Zbt d d.parts.length)=some (ZiH d,E++Zdv d d.barriers.length,ZuH d):=by
 have hbl:=g.bl
 have hF:=Zfy g d.parts.length
 have hpl:=g.pl
 have key:∀(k i:Nat),i+k=d.barriers.length->lp (Zey d r3) ((i:Int),Zd5 d d.parts.length++List.replicate i 1,E++Zdv d i,Zbt d d.parts.length++ZdI i)=some (ZiH d,E++Zdv d d.barriers.length,ZuH d):=by
  intro k
  induction k with
  | zero=>
   intro i hi
   have:i=d.barriers.length:=by omega
   subst this
   rw[ZY]
   simp only[Zey,Zbh,cF]
   rfl
  | succ k ih=>
   intro i hi
   have hi':i<d.barriers.length:=by omega
   have hx:d.barriers[i]? = some d.barriers[i]:=gE hi'
   have hm:=mG hx
   have hsz:=hz.i _ hm
   have hB:=ZnJ hz i
   have lp_:(Zbt d d.parts.length++ZdI i).length=Zaa d d.parts.length+i:=by rw[lA,ZgG,ZtG]
   have lw_:(Zd5 d d.parts.length++List.replicate i (1:Int)).length=Zaa d d.parts.length+i:=by rw[lA,Zjk,length_replicate]
   have lput:=ZyR (Zbt d d.parts.length++ZdI i) (Zi.mk (-1) (i:Int)) (by rw[lp_];omega)
   rw[lp_,show((Zaa d d.parts.length+i:Nat):Int)=Zoi d i from rfl] at lput
   have k4:=fun s=>ZoH d.barriers[i].ins (by omega) (Zgh r3 ((i:Int),Zd5 d d.parts.length++List.replicate i 1,E++Zdv d i,Zbt d d.parts.length++ZdI i) d.barriers[i]) (fun q=>⟨ZkS d q,Zoi d i⟩) (fun j x s hj hx hb=>by
    have ed:∀b c,ZP b c s=some ():=fun b c=>by unfold ZP;rw[hb];rfl
    simp only[Zgh,ZaW hj,cT,ZI hx,bS,h5,ZvM (g.ins _ hm x (mG hx)),lput,ed,Zw hj (by omega)]) (fun s=>by simp only[Zgh,Zbh,cF]) s
   have k5:=fun s=>ZoH d.barriers[i].outs (by omega) (Zgk r3 ((i:Int),Zd5 d d.parts.length++List.replicate i 1,E++Zdv d i,Zbt d d.parts.length++ZdI i) d.barriers[i]) (fun q=>⟨Zoi d i,ZhF d q⟩) (fun j x s hj hx hb=>by
    have ed:∀b c,ZP b c s=some ():=fun b c=>by unfold ZP;rw[hb];rfl
    simp only[Zgk,ZaW hj,cT,ZI hx,bS,h4,Zxv (g.outs _ hm x (mG hx)),lput,ed,Zw hj (by omega)]) (fun s=>by simp only[Zgk,Zbh,cF]) s
   have ih':=ih (i+1) (by omega)
   have eB:Zdv d (i+1)=Zdv d i++ZA6 d (Zoi d i) d.barriers[i]:=by
    unfold Zdv
    rw[Zdi,hx]
   rw[eB,Zr3,List.replicate_succ',ZA6,<- append_assoc,<- append_assoc,<- append_assoc,<- append_assoc] at ih'
   rw[ZY]
   simp only[Zey,ZaW hi',cT,ZI hx,bS,Zjb _ _ (show(Zd5 d d.parts.length++List.replicate i (1:Int)).length<=10000 by rw[lw_];omega) (show(Zbt d d.parts.length++ZdI i).length<=10000 by rw[lp_];omega),k4 (E++Zdv d i) (by rw[lA];omega),
    k5 (E++Zdv d i++List.map (fun q=>⟨ZkS d q,Zoi d i⟩) d.barriers[i].ins) (by simp only[lA,length_map];omega),Zw hi' (show d.barriers.length<9223372036854775808 by omega)]
   exact ih'
 have:=key d.barriers.length 0 (by omega)
 simpa [Zdv,upto,ZdI] using this
theorem ZtO {d:Zj} (g:ZcC d) (hz:ZhV d):Ztm (Zdl d).dag:=by
 have hE:=ZqB g
 have hB:=ZnJ hz d.barriers.length
 have hbl:=g.bl
 have hF:=Zfy g d.parts.length
 have hpl:=g.pl
 constructor
 ·show(ZiH d).length<_
  unfold ZiH
  rw[lA,Zjk,length_replicate]
  omega
 ·show(ZAO d).length<_
  unfold ZAO
  rw[lA]
  omega
noncomputable def ZsM (d:Zj):ZoC×Int:=
 bif ZhI d==0 then (bif Zgt (Zdl d).dag==0 then (Zdl d,0) else (⟨⟨[],[]⟩,[]⟩,70)) else (⟨⟨[],[]⟩,[]⟩,ZhI d)
theorem ZCJ {d:Zj} (hz:ZhV d):ZjC d=some (ZsM d):=by
 have hs:=hz.short
 unfold ZjC ZsM
 rw[ZB3 d hs,bS]
 by_cases hc:ZhI d=0
 ·have g:=ZrK hc
  have hE:=ZqB g
  have h3:(ZeU d d.parts.length++Zpb d).length<=1000:=by unfold ZnG at hE;rw[lA] at hE;omega
  have h4:(ZeU d d.parts.length).length<=1000:=by rw[lA] at h3;omega
  rw[hc]
  simp only[bne_self_eq_false,cF,beq_self_eq_true,cT,ZBQ g (ZL7 hs (by have:=g.fl;omega) hc),bS]
  rw[ZBh g rfl rfl _ h4]
  simp only[bS]
  rw[Zyz g rfl rfl _ h3]
  simp only[bS]
  rw[show ZeU d d.parts.length++Zpb d++ZsV d=ZnG d from rfl,ZDW g hz rfl rfl _ hE]
  simp only[bS]
  rw[show Z5.mk (ZiH d) (ZnG d++Zdv d d.barriers.length)=(Zdl d).dag from rfl,ZqE _ (ZtO g hz),bS]
  by_cases hk:Zgt (Zdl d).dag=0
  ·rw[hk];rfl
  ·rw[beq_false_of_ne hk,bne,beq_false_of_ne hk];rfl
 ·rw[beq_false_of_ne hc,bne,beq_false_of_ne hc];rfl
theorem ZA7 {d:Zj} (hz:ZhV d):Zjo d=some (ZsM d):=by
 have hs:=hz.short
 unfold Zjo ZsM
 rw[ZDJ d hs,bS]
 by_cases hc:ZhI d=0
 ·have g:=ZrK hc
  rw[hc]
  simp only[bne_self_eq_false,cF,beq_self_eq_true,cT,ZBG g hz,bS,ZAN _ (ZtO g hz)]
  by_cases hk:Zgt (Zdl d).dag=0
  ·rw[hk];rfl
  ·rw[beq_false_of_ne hk,bne,beq_false_of_ne hk];rfl
 ·rw[beq_false_of_ne hc,bne,beq_false_of_ne hc];rfl
theorem ZCQ {d:Zj} (g:ZcC d) {n:Nat} (hn:n<d.parts.length):1<=ZdX d.parts (n:Int):=by
 unfold ZdX
 rw[toNat_natCast,gE hn]
 exact(g.g.w _ (getElem_mem hn)).1
theorem ZCB {d:Zj} (g:Zp3 d) {n i:Nat} (hi:i<nt d n):1<=cut d n (i+1)/\cut d n (i+1)<=ZdX d.parts (n:Int)-1:=by
 obtain⟨_,_,h3,h4,h5⟩:=Zfs g hi
 have:=(g.f _ h5).2
 rw[h3,h4] at this
 exact this
theorem ZHm {d:Zj} (g:ZcC d) {n:Nat} (hn:n<d.parts.length) {i:Nat} (hi:i<=nt d n):1<=cut d n (i+1)-cut d n i:=by
 have hw:=ZCQ g hn
 by_cases hl:i<nt d n
 ·have h1:=ZCB g.g hl
  cases i with
  | zero=>have:cut d n 0=0:=rfl;omega
  | succ j=>
   have:=ZrO g.g (show j<j+1 by omega) hl
   rw[(Zfs g.g (show j<nt d n by omega)).2.2.2.1,(Zfs g.g hl).2.2.2.1] at this
   omega
 ·have:i=nt d n:=by omega
  subst this
  rw[Zsh]
  cases h0:nt d n with
  | zero=>have:cut d n 0=0:=rfl;omega
  | succ j=>
   have:=ZCB g.g (show j<nt d n by omega)
   omega
theorem ZFH {d:Zj} (g:ZcC d) {n:Nat} (hn:n<d.parts.length):∀x∈ZeZ d n,1<=x:=fun x hx=>by
 unfold ZeZ ZgJ at hx
 obtain⟨i,hi,rfl⟩:=List.mem_map.1 hx
 rw[List.mem_range] at hi
 exact ZHm g hn (by omega)
theorem Zvx (d:Zj) (n:Nat):∀k,(ZgJ d n k).sum=cut d n k
 | 0=>rfl
 | k+1=>by
  rw[ZjM,List.sum_append,Zvx d n k]
  simp only[sum_cons,List.sum_nil]
  omega
theorem ZD9 (d:Zj) (n:Nat):(ZeZ d n).sum=ZdX d.parts (n:Int):=by unfold ZeZ;rw[Zvx,Zsh]
def Zo3 (d:Zj):Nat->Int
 | 0=>0
 | k+1=>Zo3 d k+ZdX d.parts (k:Int)
theorem Zxt (d:Zj):∀k,(Zd5 d k).sum=Zo3 d k
 | 0=>rfl
 | k+1=>by
  rw[show Zd5 d (k+1)=Zd5 d k++ZeZ d k from Zdi _ k,List.sum_append,Zxt d k,ZD9]
  rfl
theorem ZAW (d:Zj):(ZiH d).sum=Zo3 d d.parts.length+(d.barriers.length:Int):=by
 have:∀n:Nat,(List.replicate n (1:Int)).sum=(n:Int):=by
  intro n
  induction n with
  | zero=>rfl
  | succ n ih=>rw[List.replicate_succ,sum_cons,ih];omega
 unfold ZiH
 rw[List.sum_append,Zxt,this]
theorem ZAl {d:Zj} (g:ZcC d):∀k,k<=d.parts.length->0<=Zo3 d k/\Zo3 d k<=100*k
 | 0,_=>⟨le_refl _,le_refl _⟩
 | k+1,h=>by
  have:=ZAl g k (by omega)
  have h1:=ZCQ g (show k<d.parts.length by omega)
  have h2:=Zm9 g.g (k:Int)
  show 0<=Zo3 d k+ZdX d.parts (k:Int)/\Zo3 d k+ZdX d.parts (k:Int)<=_
  omega
theorem Zxb {d:Zj} (g:ZcC d):∀x∈ZiH d,1<=x:=fun x hx=>by
 unfold ZiH at hx
 rcases List.mem_append.1 hx with hx | hx
 ·unfold Zd5 upto at hx
  obtain⟨n,hn,hx⟩:=List.mem_flatMap.1 hx
  exact ZFH g (List.mem_range.1 hn) x hx
 ·rw[(List.mem_replicate.1 hx).2];exact le_refl _
theorem ZG6 (d:Zj) (g:Zp3 d) (n:Nat):nt d n=d.futures.countP fun f=>f.user==(n:Int):=by
 show(tch d n).length=_
 rw[ZwJ (Zq8 g n)]
 unfold Zuc
 rw[Zsj]
theorem Zw8 {γ:Type} (p q r:γ->Bool) (h:∀x,r x=(p x || q x)) (h2:∀x,¬(p x=true/\q x=true)):∀l:List γ,l.countP r=l.countP p+l.countP q
 | []=>rfl
 | x :: l=>by
  rw[List.countP_cons,List.countP_cons,List.countP_cons,Zw8 p q r h h2 l,h x]
  have:=h2 x
  cases hp:p x<;>cases hq:q x<;>simp_all<;>omega
theorem Zsa {d:Zj} (g:ZcC d):∀k,Zaa d k=k+d.futures.countP fun f=>decide (0<=f.user)&&decide (f.user<(k:Int))
 | 0=>by
  have:(d.futures.countP fun f=>decide (0<=f.user)&&decide (f.user<((0:Nat):Int)))=0:=by
   rw[List.countP_eq_zero]
   intro f _
   simp only[aT,decide_eq_true_eq]
   omega
  rw[this];rfl
 | k+1=>by
  rw[Zw8 (fun f:Zl=>decide (0<=f.user)&&decide (f.user<(k:Int))) (fun f=>f.user==(k:Int)) (fun f=>decide (0<=f.user)&&decide (f.user<((k+1:Nat):Int))) (fun f=>by
   rw[Bool.eq_iff_iff]
   simp only[aT,Bool.or_eq_true,decide_eq_true_eq,beq_iff_eq]
   omega) (fun f=>by
   simp only[aT,decide_eq_true_eq,beq_iff_eq]
   omega)]
  show Zaa d k+(nt d k+1)=_
  rw[Zsa g k,ZG6 d g.g k]
  omega
theorem ZBk {d:Zj} (g:ZcC d):Zaa d d.parts.length=d.parts.length+d.futures.length:=by
 rw[Zsa g,List.countP_eq_length.2 fun f hf=>?_]
 have:=g.user hf
 have h1:=this.1
 have h2:=this.2
 simp only[aT,decide_eq_true_eq]
 omega
theorem Zv7 {d:Zj} (g:ZcC d):(ZiH d).length=d.parts.length+d.futures.length+d.barriers.length:=by
 unfold ZiH
 rw[lA,Zjk,length_replicate,ZBk g]
theorem ZIg (l:LI) (hl:l.length<=1000) (hb:∀x∈l,0<=x/\x<=1000000) (step:Int×Int->Option ((Int×Int)⊕Int))
  (h1:∀(i:Nat) x s,i<l.length->l[i]? = some x->step (s,(i:Int))=some (.inl (w64 (s+x),((i+1:Nat):Int)))) (h2:∀s,step (s,(l.length:Int))=some (.inr s)) (s:Int) (hs:0<=s/\s<=1000000):lp step (s,0)=some (s+l.sum):=by
 have key:=(ZeS l step (fun i s=>(s,(i:Int))) (fun _ s x=>s+x) id (fun i s=>0<=s/\s<=1000000+1000000*i) (fun i x s hi hx hI=>by
  have:=hb x (mG hx)
  refine⟨?_,by omega⟩
  rw[h1 i x s hi hx,Za0 (by omega)]) (fun s _=>h2 s) s (by omega)).1
 have e:∀(l:LI) (i:Nat) (s:Int),Zck (fun _ s x=>s+x) i s l=s+l.sum:=by
  intro l
  induction l with
  | nil=>intro i s;simp[Zck]
  | cons x l ih=>intro i s;show Zck _ (i+1) (s+x) l=_;rw[ih,sum_cons];omega
 rw[e] at key
 exact key
theorem Zv0 {g:Z5} (h:Zgt g=0):ZlY g=some g.work.sum:=by
 have hG:=(ZhS h).1
 unfold ZlY
 rw[ZqE g hG.short,h]
 have:=ZIg g.work (by have:=hG.wl;omega) (fun x hx=>by have:=hG.w x hx;omega) (Zhq g) (fun i x s hi hx=>by
  simp only[Zhq,ZaW hi,cT,ZI hx,bS,Zw hi hG.short.w]) (fun s=>by simp only[Zhq,Zbh,cF]) 0 (by omega)
 simp only[bS,beq_self_eq_true,cT,this,Int.zero_add]
theorem Zvq (d:Zj):(ZsM d=(Zdl d,0)/\ZhI d=0/\Zgt (Zdl d).dag=0)∨((ZsM d).1=⟨⟨[],[]⟩,[]⟩/\(ZsM d).2≠0):=by
 unfold ZsM
 by_cases hc:ZhI d=0
 ·rw[hc]
  by_cases hk:Zgt (Zdl d).dag=0
  ·rw[hk];exact .inl ⟨rfl,rfl,rfl⟩
  ·rw[beq_false_of_ne hk];exact .inr ⟨rfl,by show(70:Int)≠0;omega⟩
 ·rw[beq_false_of_ne hc];exact .inr ⟨rfl,hc⟩
theorem ZDB (l:LI) (hl:l.length<=1000):∃r:LI,ZdK l=some r/\r.Perm l/\r.Pairwise (fun x y=>x<=y):=by
 refine⟨sortI l,?_,Zq0 l,ZnM l⟩
 unfold ZdK
 rw[Nat.ble_eq_true_of_le (le_trans hl (by decide))]
 rfl
theorem ZJf {g:Z5} (h:ZgX g) (n:Int):∃r,Zl9 g n=some r/\(∀z,z∈r↔∃e∈g.edges,e.dst=n/\e.src=z)/\r.length<=256:=by
 have hel:=h.el
 have key:=ZBz g.edges (by omega) (fun e:Zo=>e.dst==n) (fun _ e=>e.src) (ZiO g fun z0=>Zg7 z0 n) (fun i x s hi hx=>by
  simp only[ZiO,ZaW hi,cT,ZI hx,bS,Zg7,Zw hi h.short.e]
  cases x.dst==n<;>rfl) (fun s=>by simp only[ZiO,Zbh,cF]) [] (by simp)
 rw[List.nil_append] at key
 have hlen:(sel (fun e:Zo=>e.dst==n) (fun _ e=>e.src) 0 g.edges).length<=256:=le_trans (ZwV _ _ _ _) hel
 obtain⟨r,h1,h2,_⟩:=ZDB _ (le_trans hlen (by omega))
 refine⟨r,?_,fun z=>?_,by rw[h2.length_eq];exact hlen⟩
 ·unfold Zl9 ZsF
  simp only[key,bS,h1]
 ·rw[h2.mem_iff,Zuo]
  constructor
  ·rintro ⟨j,x,hx,h3,h4⟩
   exact⟨x,mG hx,by simpa using h3,h4.symm⟩
  ·rintro ⟨e,he,h3,h4⟩
   obtain⟨j,hj⟩:=List.getElem?_of_mem he
   exact⟨j,e,hj,by simpa using h3,h4.symm⟩
theorem ZuC {g:Z5} (h:Zgt g=0):∃l,Zl3 g=some l/\ZMF g l:=by
 obtain⟨hG,hA⟩:=ZhS h
 obtain⟨l,h1,h2⟩:=ZwO hG hA
 refine⟨l,?_,h2⟩
 unfold Zl3
 rw[ZqE g hG.short,h,bS]
 simp only[bne_self_eq_false,cF,h1,bS,cT]
def fat (l:LI) (z:Int):Int:=match l[z.toNat]? with | some x=>x | none=>0
theorem Zmm {l:LI}{n:Nat} (hl:l.length=n) {z:Int} (h:0<=z/\z.toNat<n):ZA l z=some (fat l z):=by
 have e:=gE (show z.toNat<l.length by rw[hl];exact h.2)
 rw[Zv9 h.1 e]
 unfold fat
 rw[e]
theorem Zpv {l:LI}{n:Nat} (hl:l.length=n) {z w v:Int} (hz:0<=z/\z.toNat<n) (hw:0<=w):fat (l.set z.toNat v) w=if w=z then v else fat l w:=by
 unfold fat
 rw[List.getElem?_set]
 by_cases h:z.toNat=w.toNat
 ·rw[if_pos h,if_pos (by rw[hl];exact hz.2),if_pos (by omega)]
 ·rw[if_neg h,if_neg (by intro hc;exact h (by rw[hc]))]
theorem ZvG (v:Int->Int):∀(ps:LI) (i:Nat) (m:Int),m<=Zck (fun _ m p=>bif decide (m<v p) then v p else m) i m ps/\(∀p∈ps,v p<=Zck (fun _ m p=>bif decide (m<v p) then v p else m) i m ps) /\
  (Zck (fun _ m p=>bif decide (m<v p) then v p else m) i m ps=m∨∃p∈ps,Zck (fun _ m p=>bif decide (m<v p) then v p else m) i m ps=v p)
 | [],i,m=>⟨le_refl _,(fun p hp=>by cases hp),.inl rfl⟩
 | p :: ps,i,m=>by
  obtain⟨h1,h2,h3⟩:=ZvG v ps (i+1) (bif decide (m<v p) then v p else m)
  generalize hr:Zck (fun _ m p=>bif decide (m<v p) then v p else m) (i+1) (bif decide (m<v p) then v p else m) ps=r at *
  have e:Zck (fun _ m p=>bif decide (m<v p) then v p else m) i m (p :: ps)=r:=hr
  rw[e]
  by_cases hc:m<v p
  ·rw[dT hc] at h1 h3
   simp only[cT] at h1 h3
   refine⟨by omega,fun q hq=>?_,?_⟩
   ·rcases List.mem_cons.1 hq with rfl | hq
    ·exact h1
    ·exact h2 q hq
   ·rcases h3 with h3 | ⟨q,hq,h3⟩
    ·exact .inr ⟨p,by simp,h3⟩
    ·exact .inr ⟨q,by simp[hq],h3⟩
  ·rw[dF hc] at h1 h3
   simp only[cF] at h1 h3
   refine⟨h1,fun q hq=>?_,?_⟩
   ·rcases List.mem_cons.1 hq with rfl | hq
    ·omega
    ·exact h2 q hq
   ·rcases h3 with h3 | ⟨q,hq,h3⟩
    ·exact .inl h3
    ·exact .inr ⟨q,by simp[hq],h3⟩
structure Far (g:Z5) (F:Int->Int) (M:Int):Prop where
 edge:∀e∈g.edges,F e.src+fat g.work e.dst<=F e.dst
 least:∀i:Nat,i<g.work.length->fat g.work (i:Int)<=F (i:Int)
 some_:∀i:Nat,i<g.work.length->F (i:Int)=fat g.work (i:Int)∨∃e∈g.edges,e.dst=(i:Int)/\F (i:Int)=F e.src+fat g.work (i:Int)
 most:∀i:Nat,i<g.work.length->F (i:Int)<=M
 hit:M=0∨∃i:Nat,i<g.work.length/\M=F (i:Int)
theorem ZGG {g:Z5} (h:Zgt g=0):∃F M,Zny g=some M/\Far g F M:=by
 obtain⟨hG,hA⟩:=ZhS h
 obtain⟨l,h1,T⟩:=ZuC h
 have hwl:=hG.wl
 have hll:l.length<=64:=by rw[T.len];exact hwl
 have key:∀(k i:Nat) (far:LI) (mo:Int),i+k=l.length->far.length=g.work.length ->
   (∀z,0<=z/\z.toNat<g.work.length->(¬∃j,j<i/\l[j]? = some z)->fat far z=0) ->
   (∀e∈g.edges,(∃j,j<i/\l[j]? = some e.dst)->fat far e.src+fat g.work e.dst<=fat far e.dst) ->
   (∀z,(∃j,j<i/\l[j]? = some z)->fat g.work z<=fat far z/\(fat far z=fat g.work z∨∃e∈g.edges,e.dst=z/\fat far z=fat far e.src+fat g.work z)/\fat far z<=mo) ->
   (mo=0∨∃z,(∃j,j<i/\l[j]? = some z)/\mo=fat far z) ->
   (∀z,0<=z/\z.toNat<g.work.length->0<=fat far z/\fat far z<=1000*i) ->
   ∃F M,lp (Zhf g l) (mo,(i:Int),far)=some M/\Far g F M:=by
  intro k
  induction k with
  | zero=>
   intro i far mo hi hl hz he hn hm hb
   have:i=l.length:=by omega
   subst this
   have all:∀j:Nat,j<g.work.length->∃q,q<l.length/\l[q]? = some (j:Int):=fun j hj=>by
    obtain⟨q,hq⟩:=List.getElem?_of_mem (T.all j hj)
    exact⟨q,(gQ hq).1,hq⟩
   have allz:∀z:Int,0<=z/\z.toNat<g.work.length->∃q,q<l.length/\l[q]? = some z:=fun z hz=>by
    have:=all z.toNat hz.2
    rwa [show((z.toNat:Nat):Int)=z by omega] at this
   refine⟨fat far,mo,?_,fun e hm=>he e hm (allz _ (hG.dst e hm)),fun i hi=>(hn _ (all i hi)).1,fun i hi=>(hn _ (all i hi)).2.1,fun i hi=>(hn _ (all i hi)).2.2,?_⟩
   ·rw[ZY]
    simp only[Zhf,Zbh,cF]
   ·rcases hm with hm | ⟨z,⟨j,_,hj⟩,hm⟩
    ·exact .inl hm
    ·have:=T.inn z (mG hj)
     exact .inr ⟨z.toNat,this.2,by rw[show((z.toNat:Nat):Int)=z by omega];exact hm⟩
  | succ k ih=>
   intro i far mo hi hl hz he hn hm hb
   have hi':i<l.length:=by omega
   have hx:l[i]? = some l[i]:=gE hi'
   generalize hnn:l[i]=n at hx
   have nin:=T.inn n (mG hx)
   obtain⟨ps,p1,p2,p3⟩:=ZJf hG n
   have fresh:¬∃j,j<i/\l[j]? = some n:=fun⟨j,j1,j2⟩=>by have:=Zxw T.nod j2 hx;omega
   have h0:=hz n nin fresh
   have psin:∀p∈ps,(0<=p/\p.toNat<g.work.length)/\p≠n/\∃j,j<i/\l[j]? = some p:=fun p hp=>by
    obtain⟨e,e1,e2,e3⟩:=(p2 p).1 hp
    have hs:=hG.src e e1
    obtain⟨j,j1,j2⟩:=T.topo i n hx e e1 e2
    rw[e3] at hs j2
    exact⟨hs,fun hc=>fresh ⟨j,j1,hc ▸ j2⟩,j,j1,j2⟩
   have inner:=(ZeS ps (Zha n ps) (fun j m=>((j:Int),far.set n.toNat m)) (fun _ m p=>bif decide (m<fat far p) then fat far p else m) (fun m=>far.set n.toNat m) (fun _ _=>True) (fun j p m hj hp _=>by
    obtain⟨q1,q2,_⟩:=psin p (mG hp)
    have hls:(far.set n.toNat m).length=g.work.length:=by rw[length_set];exact hl
    have g1:=Zmm hls nin
    have g2:=Zmm hls q1
    rw[Zpv hl nin nin.1,if_pos rfl] at g1
    rw[Zpv hl nin q1.1,if_neg q2] at g2
    refine⟨?_,trivial⟩
    simp only[Zha,ZaW hj,cT,ZI hp,bS,g1,g2,List.set_set,Zw hj (by omega)]) (fun m _=>by simp only[Zha,Zbh,cF]) (fat far n) trivial).1
   have self:far.set n.toNat (fat far n)=far:=by
    have e:=gE (show n.toNat<far.length by rw[hl];exact nin.2)
    unfold fat
    rw[e]
    exact List.set_getElem_self _
   simp only[self] at inner
   obtain⟨m1,m2,m3⟩:=ZvG (fat far) ps 0 (fat far n)
   generalize Zck (fun _ m p=>bif decide (m<fat far p) then fat far p else m) 0 (fat far n) ps=m at inner m1 m2 m3
   have inner2:lp (Zha n ps) (0,far)=some (far.set n.toNat m):=inner
   rw[h0] at m1 m3
   have hwn:0<=fat g.work n/\fat g.work n<=1000:=by
    have e:=gE (show n.toNat<g.work.length from nin.2)
    unfold fat
    rw[e]
    exact hG.w _ (getElem_mem _)
   have mb:m<=1000*i:=by
    rcases m3 with m3 | ⟨p,hp,m3⟩
    ·omega
    ·have:=hb p (psin p hp).1;omega
   have hls:(far.set n.toNat m).length=g.work.length:=by rw[length_set];exact hl
   have g9:=Zmm hls nin
   rw[Zpv hl nin nin.1,if_pos rfl] at g9
   have g10:=Zmm (l:=g.work) rfl nin
   have hw:w64 (m+fat g.work n)=m+fat g.work n:=Za0 (by omega)
   have hls2:(far.set n.toNat (m+fat g.work n)).length=g.work.length:=by rw[length_set];exact hl
   have g11:=Zmm hls2 nin
   rw[Zpv hl nin nin.1,if_pos rfl] at g11
   have val:∀z,0<=z->fat (far.set n.toNat (m+fat g.work n)) z=if z=n then m+fat g.work n else fat far z:=fun z hz=>Zpv hl nin hz
   have old:∀z,(∃j,j<i/\l[j]? = some z)->0<=z/\z≠n:=fun z ⟨j,j1,j2⟩=>⟨(T.inn z (mG j2)).1,fun hc=>fresh ⟨j,j1,hc ▸ j2⟩⟩
   have split:∀z,(∃j,j<i+1/\l[j]? = some z)->z=n∨∃j,j<i/\l[j]? = some z:=fun z ⟨j,j1,j2⟩=>by
    by_cases hj:j=i
    ·subst hj;rw[hx] at j2;exact .inl (Option.some.inj j2).symm
    ·exact .inr ⟨j,by omega,j2⟩
   have srcOld:∀e∈g.edges,(∃j,j<i+1/\l[j]? = some e.dst)->∃j,j<i/\l[j]? = some e.src:=fun e he1 ⟨j,j1,j2⟩=>by
    obtain⟨q,q1,q2⟩:=T.topo j e.dst j2 e he1 rfl
    exact⟨q,by omega,q2⟩
   rw[ZY]
   simp only[Zhf,ZaW hi',cT,ZI hx,bS,p1,inner2,g9,g10,List.set_set,hw,g11,Zw hi' (show l.length<9223372036854775808 by omega)]
   refine ih (i+1) (far.set n.toNat (m+fat g.work n)) _ (by omega) hls2 (fun z z1 z2=>?_) (fun e e1 e2=>?_) (fun z z1=>?_) ?_ (fun z z1=>?_)
   ·have hzn:z≠n:=fun hc=>z2 ⟨i,by omega,by rw[hc];exact hx⟩
    rw[val z z1.1,if_neg hzn]
    exact hz z z1 fun⟨j,j1,j2⟩=>z2 ⟨j,by omega,j2⟩
   ·have so:=srcOld e e1 e2
    obtain⟨s0,s1⟩:=old e.src so
    have d0:=(hG.dst e e1).1
    rw[val e.src s0,if_neg s1,val e.dst d0]
    rcases split e.dst e2 with hd | hd
    ·rw[if_pos hd,hd]
     have:=m2 e.src ((p2 e.src).2 ⟨e,e1,hd,rfl⟩)
     omega
    ·rw[if_neg (old e.dst hd).2]
     exact he e e1 hd
   ·rcases split z z1 with hd | hd
    ·subst hd
     rw[val z nin.1,if_pos rfl]
     refine⟨by omega,?_,?_⟩
     ·rcases m3 with m3 | ⟨p,hp,m3⟩
      ·exact .inl (by omega)
      ·obtain⟨e,e1,e2,e3⟩:=(p2 p).1 hp
       obtain⟨q1,q2,_⟩:=psin p hp
       refine .inr ⟨e,e1,e2,?_⟩
       rw[e3,val p q1.1,if_neg q2,m3]
     ·by_cases hc:mo<m+fat g.work z
      ·rw[dT hc];exact le_refl _
      ·rw[dF hc];simp only[cF];omega
    ·obtain⟨o1,o2⟩:=old z hd
     obtain⟨n1,n2,n3⟩:=hn z hd
     rw[val z o1,if_neg o2]
     refine⟨n1,?_,?_⟩
     ·rcases n2 with n2 | ⟨e,e1,e2,e3⟩
      ·exact .inl n2
      ·have so:=srcOld e e1 (by obtain⟨j,j1,j2⟩:=hd;exact⟨j,by omega,by rw[e2];exact j2⟩)
       obtain⟨s0,s1⟩:=old e.src so
       exact .inr ⟨e,e1,e2,by rw[val e.src s0,if_neg s1];exact e3⟩
     ·by_cases hc:mo<m+fat g.work n
      ·rw[dT hc];simp only[cT];omega
      ·rw[dF hc];simp only[cF];omega
   ·by_cases hc:mo<m+fat g.work n
    ·rw[dT hc]
     exact .inr ⟨n,⟨i,by omega,hx⟩,by rw[val n nin.1,if_pos rfl];rfl⟩
    ·rw[dF hc]
     rcases hm with hm | ⟨z,⟨j,j1,j2⟩,hm⟩
     ·exact .inl hm
     ·obtain⟨o1,o2⟩:=old z ⟨j,j1,j2⟩
      exact .inr ⟨z,⟨j,by omega,j2⟩,by rw[val z o1,if_neg o2];exact hm⟩
   ·rw[val z z1.1]
    split
    ·omega
    ·have:=hb z z1;omega
 have rep:∀z,fat (List.replicate g.work.length (0:Int)) z=0:=fun z=>by
  unfold fat
  rw[List.getElem?_replicate]
  by_cases hc:z.toNat<g.work.length
  ·rw[if_pos hc]
  ·rw[if_neg hc]
 obtain⟨F,M,k1,k2⟩:=key l.length 0 (List.replicate g.work.length 0) 0 (by omega) (by simp) (fun z _ _=>rep z) (fun e _ ⟨j,j1,_⟩=>by omega) (fun z ⟨j,j1,_⟩=>by omega) (.inl rfl) (fun z _=>by rw[rep];omega)
 refine⟨F,M,?_,k2⟩
 unfold Zny
 rw[dT (show(0:Int)<=(g.work.length:Int) by omega),dT (show(g.work.length:Int)<=lim by show(g.work.length:Int)<=1073741824;omega),beq_self_eq_true]
 simp only[decide_true,Bool.and_true,cT,toNat_natCast,h1,bS]
 have k1:lp (Zhf g l) (0,0,List.replicate g.work.length 0)=some M:=k1
 rw[k1]
 rfl
def mxF (_:Nat) (m p:Int):Int:=bif decide (m<p) then p else m
theorem ZBs (l:LI) (i:Nat) (m:Int):m<=Zck mxF i m l/\(∀p∈l,p<=Zck mxF i m l)/\(Zck mxF i m l=m∨∃p∈l,Zck mxF i m l=p):=ZvG (fun z=>z) l i m
theorem ZFh (x:Int) (t:LI) (hl:t.length<=1000) (h1:1<=x):Zcf (x :: t)=some (Zck mxF 0 0 (x :: t)):=by
 have l1:=(ZeS t (ZbE (x :: t)) (fun i m=>(m,((i+1:Nat):Int))) mxF id (fun _ _=>True) (fun i y m hi hy _=>by
  refine⟨?_,trivial⟩
  have hi2:i+1<(x :: t).length:=by simp;omega
  have hy2:(x :: t)[i+1]? = some y:=by simpa using hy
  simp only[ZbE,ZaW hi2,cT,ZI hy2,bS,Zw hi2 (show(x :: t).length<9223372036854775808 by simp;omega)]
  rfl) (fun m _=>by
  have e:((t.length+1:Nat):Int)=((x :: t).length:Int):=by simp
  simp only[ZbE,e,Zbh,cF];rfl) x trivial).1
 obtain⟨m1,m2,m3⟩:=ZBs t 0 x
 obtain⟨n1,n2,n3⟩:=ZBs (x :: t) 0 0
 generalize Zck mxF 0 x t=r at l1 m1 m2 m3
 generalize Zck mxF 0 0 (x :: t)=q at n1 n2 n3
 have rq:r=q:=by
  have a:r<=q:=by
   rcases m3 with m3 | ⟨p,hp,m3⟩
   ·have:=n2 x (by simp);omega
   ·have:=n2 p (by simp[hp]);omega
  have b:q<=r:=by
   rcases n3 with n3 | ⟨p,hp,n3⟩
   ·omega
   ·rcases List.mem_cons.1 hp with hp | hp
    ·omega
    ·have:=m2 p hp;omega
  omega
 have l1':lp (ZbE (x :: t)) (x,1)=some r:=l1
 have c0:decide (((x :: t).length:Int)<1)=false:=dF (by simp;omega)
 have g0:ZA (x :: t) 0=some x:=rfl
 unfold Zcf
 rw[c0,g0]
 simp only[cF,bS,l1',rq]
theorem ZJq {d:Zj} (hz:ZhV d):(∃s:Zf,Zdq d=some (s,(ZsM d).2)/\(ZsM d).2≠0) ∨
  (ZsM d=(Zdl d,0)/\ZhI d=0/\Zgt (Zdl d).dag=0/\∃(F:Int->Int) (M r:Int),Far (Zdl d).dag F M/\Zdq d=some (⟨(Zdl d).dag.work.sum,M,r,d.deadline,d.period⟩,0)):=by
 unfold Zdq
 simp only[ZCJ hz,bS]
 rcases Zvq d with⟨h1,h2,h3⟩ | ⟨h1,h2⟩
 ·right
  have g:=ZrK h2
  have hG:=(ZhS h3).1
  obtain⟨F,M,l1,hF⟩:=ZGG h3
  have hpl:=g.pl
  have hp1:=g.p1
  have hbl:=g.bl
  have ge:∀x∈(Zdl d).dag.work,1<=x:=Zxb g
  have len:(Zdl d).dag.work.length=d.parts.length+d.futures.length+d.barriers.length:=Zv7 g
  have hwl:=hG.wl
  have mo:Zcf (Zdl d).dag.work=some (Zck mxF 0 0 (Zdl d).dag.work):=by
   cases hw:(Zdl d).dag.work with
   | nil=>rw[hw,length_nil] at len;omega
   | cons x t=>
    rw[hw,length_cons] at hwl
    exact ZFh x t (by omega) (ge x (by rw[hw];simp))
  refine⟨h1,h2,h3,F,M,Zck mxF 0 0 (Zdl d).dag.work,hF,?_⟩
  rw[h1]
  simp only[bne_self_eq_false,cF,Zv0 h3,l1,mo,bS]
 ·left
  have hne:((ZsM d).2 != 0)=true:=by rw[bne,beq_false_of_ne h2];rfl
  rw[hne]
  simp only[cT]
  exact⟨_,rfl,h2⟩
def ZiR (w far:LI) (e:Zo):LI:=bif decide (fat far e.dst<fat far e.src+fat w e.dst) then far.set e.dst.toNat (fat far e.src+fat w e.dst) else far
def Zf7 (w:LI) (E:List Zo) (far:LI):LI:=E.foldl (ZiR w) far
def rounds (w:LI) (E:List Zo):Nat->LI->LI
  | 0,far=>far
  | k+1,far=>rounds w E k (Zf7 w E far)
theorem Zje (w far:LI) (e:Zo):(ZiR w far e).length=far.length:=by
  unfold ZiR
  cases decide (fat far e.dst<fat far e.src+fat w e.dst)<;>simp
theorem ZoJ (w:LI):∀(E:List Zo) (far:LI),(Zf7 w E far).length=far.length
  | [],_=>rfl
  | e :: E,far=>by
    show(Zf7 w E (ZiR w far e)).length=_
    rw[ZoJ w E,Zje]
theorem Zvm (w:LI) (E:List Zo):∀(k:Nat) (far:LI),(rounds w E k far).length=far.length
  | 0,_=>rfl
  | k+1,far=>by
    show(rounds w E k (Zf7 w E far)).length=_
    rw[Zvm w E k,ZoJ]
def EIn (E:List Zo) (n:Nat):Prop:=∀e∈E,(0<=e.src/\e.src.toNat<n)/\(0<=e.dst/\e.dst.toNat<n)
theorem Ztn {w far:LI}{e:Zo} (h:0<=e.dst/\e.dst.toNat<far.length) {z:Int} (hz:0<=z):fat (ZiR w far e) z=if z=e.dst/\fat far e.dst<fat far e.src+fat w e.dst then fat far e.src+fat w e.dst else fat far z:=by
  unfold ZiR
  by_cases hc:fat far e.dst<fat far e.src+fat w e.dst
  · rw[dT hc]
    simp only[cT]
    rw[Zpv rfl h hz]
    by_cases hzd:z=e.dst
    · rw[if_pos hzd,if_pos ⟨hzd,hc⟩]
    · rw[if_neg hzd,if_neg fun h=>hzd h.1]
  · rw[dF hc,if_neg fun h=>hc h.2]
    rfl
theorem Zvj {w far:LI}{e:Zo} (h:0<=e.dst/\e.dst.toNat<far.length) {z:Int} (hz:0<=z):fat far z<=fat (ZiR w far e) z:=by
  rw[Ztn h hz]
  split
  · rename_i hc;rw[hc.1];omega
  · exact le_refl _
theorem ZnZ {w:LI}:∀{E:List Zo}{far:LI},EIn E far.length->∀{z:Int},0<=z->fat far z<=fat (Zf7 w E far) z
  | [],_,_,_,_=>le_refl _
  | e :: E,far,h,z,hz=>by
    show _<=fat (Zf7 w E (ZiR w far e)) z
    refine Int.le_trans (Zvj (w:=w) (h e (by simp)).2 hz) ?_
    exact ZnZ (w:=w) (E:=E) (far:=ZiR w far e) (fun x hx=>by rw[Zje];exact h x (by simp[hx])) hz
theorem ZrI {w:LI}:∀{E:List Zo}{far:LI},EIn E far.length->∀{e:Zo},e∈E->fat far e.src+fat w e.dst<=fat (Zf7 w E far) e.dst
  | [],_,_,e,he=>by cases he
  | x :: E,far,h,e,he=>by
    have h1:=h e he
    have hx:=h x (by simp)
    have h':EIn E (ZiR w far x).length:=fun y hy=>by rw[Zje];exact h y (by simp[hy])
    rcases List.mem_cons.1 he with rfl | hm
    · have:fat far e.src+fat w e.dst<=fat (ZiR w far e) e.dst:=by
        rw[Ztn hx.2 h1.2.1]
        split
        · exact le_refl _
        · rename_i hc
          have:¬fat far e.dst<fat far e.src+fat w e.dst:=fun hlt=>hc ⟨rfl,hlt⟩
          omega
      exact Int.le_trans this (ZnZ h' h1.2.1)
    · have:=ZrI (w:=w) (E:=E) (far:=ZiR w far x) h' hm
      have up:=Zvj (w:=w) hx.2 h1.1.1
      show _<=fat (Zf7 w E (ZiR w far x)) e.dst
      omega
theorem ZqD {g:Z5}{F:Int->Int}{M:Int} (hF:Far g F M):∀(E:List Zo) (far:LI),(∀e∈E,e∈g.edges)->EIn E far.length->(∀z,0<=z/\z.toNat<far.length->fat far z<=F z)->∀z,0<=z/\z.toNat<far.length->fat (Zf7 g.work E far) z<=F z
  | [],_,_,_,h,z,hz=>h z hz
  | e :: E,far,hE,hi,h,z,hz=>by
    have he:=hi e (by simp)
    refine ZqD hF E (ZiR g.work far e) (fun x hx=>hE x (by simp[hx])) (fun x hx=>by rw[Zje];exact hi x (by simp[hx])) (fun y hy=>?_) z (by rw[Zje];exact hz)
    rw[Zje] at hy
    rw[Ztn he.2 hy.1]
    split
    · rename_i hc
      have h1:=hF.edge e (hE e (by simp))
      have h2:=h e.src he.1
      rw[hc.1]
      omega
    · exact h y hy
theorem ZBo {g:Z5} (hc:Zgt g=0) {F:Int->Int}{M:Int} (hF:Far g F M):∀z,0<=z/\z.toNat<g.work.length->fat (rounds g.work g.edges g.work.length g.work) z=F z:=by
  obtain⟨hG,hA⟩:=ZhS hc
  obtain⟨l,_,T⟩:=ZuC hc
  have ein:EIn g.edges g.work.length:=fun e he=>⟨hG.src e he,hG.dst e he⟩
  have key:∀(k i:Nat) (far:LI),i+k=l.length->far.length=g.work.length->(∀z,0<=z/\z.toNat<g.work.length->fat g.work z<=fat far z/\fat far z<=F z)->(∀j z,j<i->l[j]? = some z->fat far z=F z)->∀z,0<=z/\z.toNat<g.work.length->fat (rounds g.work g.edges k far) z=F z:=by
    intro k
    induction k with
    | zero=>
      intro i far hi hl hb hd z hz
      obtain⟨j,hj⟩:=List.getElem?_of_mem (T.all z.toNat hz.2)
      rw[toNat_of_nonneg hz.1] at hj
      exact hd j z (by have:=(gQ hj).1;omega) hj
    | succ k ih=>
      intro i far hi hl hb hd z hz
      have ein':EIn g.edges far.length:=by rw[hl];exact ein
      have le:=ZqD hF g.edges far (fun e he=>he) ein' (fun z hz=>(hb z (by rw[<- hl];exact hz)).2)
      refine ih (i+1) (Zf7 g.work g.edges far) (by omega) (by rw[ZoJ];exact hl) (fun y hy=>⟨Int.le_trans (hb y hy).1 (ZnZ ein' hy.1),le y (by rw[hl];exact hy)⟩) (fun j y hj hy=>?_) z hz
      have yin:=T.inn y (mG hy)
      have y':((y.toNat:Nat):Int)=y:=toNat_of_nonneg yin.1
      have h1:=le y (by rw[hl];exact yin)
      have h2:=ZnZ (w:=g.work) ein' yin.1
      rcases hF.some_ y.toNat yin.2 with h | ⟨e,e1,e2,e3⟩
      · rw[y'] at h
        have:=(hb y yin).1
        omega
      · rw[y'] at e2 e3
        obtain⟨q,q1,q2⟩:=T.topo j y hy e e1 e2
        have h3:=hd q e.src (by omega) q2
        have h4:=ZrI (w:=g.work) ein' e1
        rw[e2] at h4
        omega
  exact key g.work.length 0 g.work (by rw[T.len];omega) rfl (fun z hz=>by
    have:=hF.least z.toNat hz.2
    rw[toNat_of_nonneg hz.1] at this
    exact⟨le_refl _,this⟩) (fun j z hj=>by omega)
theorem ZFi {l m:LI} (h:l.Perm m):l.sum=m.sum:=by
  induction h with
  | nil=>rfl
  | cons x _ ih=>rw[sum_cons,sum_cons,ih]
  | swap x y l=>simp only[sum_cons];omega
  | trans _ _ a b=>exact a.trans b
theorem ZDw {g:Z5} (hc:Zgt g=0) {F:Int->Int}{M:Int} (hF:Far g F M):M<=g.work.sum:=by
  obtain⟨hG,hA⟩:=ZhS hc
  obtain⟨l,_,T⟩:=ZuC hc
  have w0:∀z:Int,0<=fat g.work z:=fun z=>by
    unfold fat
    cases h:g.work[z.toNat]? with
    | none=>simp
    | some x=>exact(hG.w x (mG h)).1
  let s:Nat->Int:=fun k=>((l.take k).map (fat g.work)).sum
  have s1:∀k z,l[k]? = some z->s (k+1)=s k+fat g.work z:=fun k z hk=>by
    show((l.take (k+1)).map _).sum=((l.take k).map _).sum+_
    rw[take_add_one,hk,Option.toList_some,map_append,List.sum_append]
    simp
  have smono:∀b a,a<=b->s a<=s b:=by
    intro b
    induction b with
    | zero => intro a h; have : a = 0 := by omega
              subst this;exact le_refl _
    | succ b ih=>
      intro a h
      by_cases e:a=b+1
      · subst e;exact le_refl _
      · have:=ih a (by omega)
        cases hx:l[b]? with
        | none=>
          have:s (b+1)=s b:=by
            show((l.take (b+1)).map _).sum=((l.take b).map _).sum
            rw[take_add_one,hx]
            simp
          omega
        | some z=>have:=s1 b z hx;have:=w0 z;omega
  have key:∀n k,k<n->∀z,l[k]? = some z->F z<=s (k+1):=by
    intro n
    induction n with
    | zero=>intro k hk;omega
    | succ n ih=>
      intro k hk z hz
      have zin:=T.inn z (mG hz)
      have z':((z.toNat:Nat):Int)=z:=toNat_of_nonneg zin.1
      have e1:=s1 k z hz
      have s0:0<=s k:=by
        have:=smono k 0 (zero_le _)
        have e0:s 0=0:=rfl
        omega
      rcases hF.some_ z.toNat zin.2 with h | ⟨e,h1,h2,h3⟩
      · rw[z'] at h;omega
      · rw[z'] at h2 h3
        obtain⟨q,q1,q2⟩:=T.topo k z hz e h1 h2
        have:=ih q (by omega) e.src q2
        have:=smono k (q+1) (by omega)
        omega
  have perm:l.Perm ((List.range g.work.length).map fun i:Nat=>(i:Int)):=by
    refine(List.perm_ext_iff_of_nodup T.nod ?_).2 fun z=>⟨fun h=>?_,fun h=>?_⟩
    · rw[List.nodup_iff_pairwise_ne,List.pairwise_map]
      exact List.pairwise_lt_range.imp fun h=>by omega
    · have:=T.inn z h
      exact List.mem_map.2 ⟨z.toNat,List.mem_range.2 this.2,toNat_of_nonneg this.1⟩
    · obtain⟨i,hi,rfl⟩:=List.mem_map.1 h
      exact T.all i (List.mem_range.1 hi)
  have all:s l.length=g.work.sum:=by
    show((l.take l.length).map _).sum=_
    rw[take_length,ZFi (perm.map (fat g.work)),List.map_map]
    congr 1
    refine List.ext_getElem (by simp) fun i h1 h2=>?_
    simp only[List.getElem_map,List.getElem_range,Function.comp_apply]
    unfold fat
    rw[toNat_natCast,gE h2]
  rcases hF.hit with h | ⟨i,hi,h⟩
  · have:=smono l.length 0 (zero_le _)
    have e0:s 0=0:=rfl
    omega
  · obtain⟨k,hk⟩:=List.getElem?_of_mem (T.all i hi)
    have h1:=key (k+1) k (by omega) _ hk
    have h2:=smono l.length (k+1) (by have:=(gQ hk).1;omega)
    omega
theorem ZxX {g:Z5} (h:Zgt g=0):Zjn g=some g.work.sum:=by
 have hG:=(ZhS h).1
 have hwl:=hG.wl
 unfold Zjn
 have:=ZIg g.work (by omega) (fun x hx=>by have:=hG.w x hx;omega) (Zgl g) (fun i x s hi hx=>by
  simp only[Zgl,ZaW hi,cT,ZI hx,bS,Zw hi (by omega)]) (fun s=>by simp only[Zgl,Zbh,cF]) 0 (by omega)
 rw[this,Int.zero_add]
 rfl
theorem ZrU (w:LI) (E:List Zo):∀(l:LI) (i:Nat) (far:LI),Zck (fun _ far _=>Zf7 w E far) i far l=rounds w E l.length far
 | [],_,_=>rfl
 | x :: l,i,far=>ZrU w E l (i+1) (Zf7 w E far)
theorem Zqp (w:LI):∀(E:List Zo) (i:Nat) (far:LI),Zck (fun _ far e=>ZiR w far e) i far E=Zf7 w E far
 | [],_,_=>rfl
 | e :: E,i,far=>Zqp w E (i+1) (ZiR w far e)
structure Zuz (g:Z5) (F:Int->Int) (far:LI):Prop where
 l:far.length=g.work.length
 b:∀z,0<=z/\z.toNat<g.work.length->0<=fat far z/\fat far z<=F z
theorem Zuz.next {g:Z5}{F:Int->Int}{M:Int} (hF:Far g F M) (hG:ZgX g) {far:LI} (h:Zuz g F far) {e:Zo} (he:e∈g.edges):Zuz g F (ZiR g.work far e):=by
 refine⟨by rw[Zje,h.l],fun z hz=>⟨?_,?_⟩⟩
 ·exact Int.le_trans (h.b z hz).1 (Zvj (w:=g.work) (e:=e) (by rw[h.l];exact hG.dst e he) hz.1)
 ·exact ZqD hF [e] far (fun x hx=>by rw[List.mem_singleton.1 hx];exact he) (fun x hx=>by rw[List.mem_singleton.1 hx,h.l];exact⟨hG.src e he,hG.dst e he⟩) (fun z hz=>(h.b z (by rw[<- h.l];exact hz)).2) z (by rw[h.l];exact hz)
theorem Zy5 {g:Z5} (h:Zgt g=0) {F:Int->Int}{M:Int} (hF:Far g F M) (hM:M<=100000):Zks g=some M:=by
 obtain⟨hG,_⟩:=ZhS h
 have hwl:=hG.wl
 have hel:=hG.el
 have Fb:∀z,0<=z/\z.toNat<g.work.length->F z<=M:=fun z hz=>by have:=hF.most z.toNat hz.2;rwa [toNat_of_nonneg hz.1] at this
 have wb:∀z,0<=fat g.work z/\fat g.work z<=1000:=fun z=>by
  unfold fat
  cases h:g.work[z.toNat]? with
  | none=>simp
  | some x=>exact hG.w x (mG h)
 have in0:∀far,Zuz g F far->lp (ZfE g) (0,far)=some (Zf7 g.work g.edges far)/\Zuz g F (Zf7 g.work g.edges far):=fun far hf=>by
  have:=ZeS g.edges (ZfE g) (fun i far=>((i:Int),far)) (fun _ far e=>ZiR g.work far e) id (fun _ far=>Zuz g F far) (fun i e far hi he hf=>by
   have hm:=mG he
   refine⟨?_,hf.next hF hG hm⟩
   have h1:=Zmm hf.l (hG.src e hm)
   have h2:=Zmm hf.l (hG.dst e hm)
   have h3:=Zmm (l:=g.work) rfl (hG.dst e hm)
   have b1:=hf.b _ (hG.src e hm)
   have b3:=wb e.dst
   have b2:=Fb _ (hG.src e hm)
   have hw:w64 (fat far e.src+fat g.work e.dst)=fat far e.src+fat g.work e.dst:=Za0 (by omega)
   simp only[ZfE,ZaW hi,cT,ZI he,bS,h1,h2,h3,hw,Zw hi (by omega)]
   unfold ZiR
   cases decide (fat far e.dst<fat far e.src+fat g.work e.dst)<;>rfl) (fun far _=>by simp only[ZfE,Zbh,cF];rfl) far hf
  rw[Zqp] at this
  exact this
 have l1:=(ZeS g.work (ZfF g) (fun i far=>((i:Int),far)) (fun _ far _=>Zf7 g.work g.edges far) id (fun _ far=>Zuz g F far) (fun i x far hi hx hf=>by
  obtain⟨q1,q2⟩:=in0 far hf
  refine⟨?_,q2⟩
  simp only[ZfF,ZaW hi,cT,q1,bS,Zw hi (by omega)]) (fun far _=>by simp only[ZfF,Zbh,cF];rfl) g.work ⟨rfl,fun z hz=>⟨(wb z).1,by have:=hF.least z.toNat hz.2;rwa [toNat_of_nonneg hz.1] at this⟩⟩).1
 rw[ZrU] at l1
 have val:=ZBo h hF
 have hrl:=Zvm g.work g.edges g.work.length g.work
 generalize hr:rounds g.work g.edges g.work.length g.work=far at l1 val hrl
 have l2:=(ZeS far (Zft far) (fun i m=>(m,(i:Int))) mxF id (fun _ _=>True) (fun i x m hi hx _=>by
  refine⟨?_,trivial⟩
  simp only[Zft,ZaW hi,cT,ZI hx,bS,Zw hi (by omega)]
  rfl) (fun m _=>by simp only[Zft,Zbh,cF];rfl) 0 trivial).1
 obtain⟨m1,m2,m3⟩:=ZBs far 0 0
 generalize Zck mxF 0 0 far=r at l2 m1 m2 m3
 have get:∀i:Nat,i<g.work.length->far[i]? = some (F (i:Int)):=fun i hi=>by
  have:=val (i:Int) ⟨by omega,by simpa using hi⟩
  have e:=gE (show i<far.length by omega)
  unfold fat at this
  rw[toNat_natCast,e] at this
  rw[e]
  exact congrArg some this
 have M0:0<=M:=by
  rcases hF.hit with h | ⟨i,hi,h⟩
  ·omega
  ·have:=hF.least i hi
   have:=wb (i:Int)
   omega
 have rM:r=M:=by
  have a:r<=M:=by
   rcases m3 with m3 | ⟨p,hp,m3⟩
   ·omega
   ·obtain⟨i,hi⟩:=List.getElem?_of_mem hp
    have hil:=(gQ hi).1
    rw[get i (by omega)] at hi
    have:=hF.most i (by omega)
    have:=Option.some.inj hi
    omega
  have b:M<=r:=by
   rcases hF.hit with h | ⟨i,hi,h⟩
   ·omega
   ·have:=m2 _ (mG (get i hi))
    omega
  omega
 unfold Zks
 rw[show Nat.ble (List.length g.work) lim=true from Nat.ble_eq_true_of_le (le_trans hwl (by decide))]
 have l1':lp (ZfF g) (0,g.work)=some far:=l1
 have l2':lp (Zft far) (0,0)=some r:=l2
 simp only[cT,l1',l2',bS,rM]
theorem ZDu {g:Z5} (hG:ZgX g) (x0:ZoC×Int) (hx:x0.1.dag=g):lp (ZeC x0) (0,0)=some (Zck mxF 0 0 g.work):=by
 have hwl:=hG.wl
 exact(ZeS g.work (ZeC x0) (fun i m=>((i:Int),m)) mxF id (fun _ _=>True) (fun i y m hi hy _=>by
  refine⟨?_,trivial⟩
  simp only[ZeC,hx,ZaW hi,cT,ZI hy,bS,Zw hi (by omega)]
  rfl) (fun m _=>by simp only[ZeC,hx,Zbh,cF];rfl) 0 trivial).1
theorem ZAy {d:Zj} (hz:ZhV d):Zjq d=Zdq d:=by
 unfold Zdq Zjq
 simp only[ZCJ hz,ZA7 hz,bS]
 rcases Zvq d with⟨h1,h2,h3⟩ | ⟨h1,h2⟩
 ·have g:=ZrK h2
  have hG:=(ZhS h3).1
  obtain⟨F,M,l1,hF⟩:=ZGG h3
  have tot:=ZDw h3 hF
  have hb:=ZAl g d.parts.length (Nat.le_refl _)
  have hpl:=g.pl
  have hp1:=g.p1
  have hbl:=g.bl
  have sum:(Zdl d).dag.work.sum=Zo3 d d.parts.length+(d.barriers.length:Int):=ZAW d
  have ge:∀x∈(Zdl d).dag.work,1<=x:=Zxb g
  have len:(Zdl d).dag.work.length=d.parts.length+d.futures.length+d.barriers.length:=Zv7 g
  have l2:=Zy5 h3 hF (by omega)
  have hwl:=hG.wl
  have mo:Zcf (Zdl d).dag.work=some (Zck mxF 0 0 (Zdl d).dag.work):=by
   cases hw:(Zdl d).dag.work with
   | nil=>rw[hw,length_nil] at len;omega
   | cons x t=>
    rw[hw,length_cons] at hwl
    exact ZFh x t (by omega) (ge x (by rw[hw];simp))
  rw[h1]
  simp only[bne_self_eq_false,cF,Zv0 h3,ZxX h3,l1,l2,mo,ZDu hG (Zdl d,0) rfl,bS]
 ·have hne:((ZsM d).2 != 0)=true:=by rw[bne,beq_false_of_ne h2];rfl
  rw[hne]
  rfl
noncomputable section
theorem Zw6:((0:Int) != 0)=false:=rfl
theorem ZIA {n:Int} (h:n≠0):(n != 0)=true:=bne_iff_ne.2 h
def Za1 {α:Type} (f:α->Int):List α->Int
 | []=>0
 | x :: l=>bif f x==0 then Za1 f l else f x
theorem ZtT {α:Type}{f:α->Int}:∀{l:List α},Za1 f l=0↔∀x∈l,f x=0
 | []=>by simp[Za1]
 | x :: l=>by
  unfold Za1
  by_cases h:f x=0
  ·rw[show(f x==0)=true from beq_iff_eq.2 h,cT,ZtT]
   simp[h]
  ·rw[show(f x==0)=false from beq_eq_false_iff_ne.2 h,cF]
   simp[h]
def Znc (d:Zj):Zf×Int:=match Zdq d with | some x=>x | none=>(⟨0,0,0,0,0⟩,1)
theorem ZKB {d:Zj} (hz:ZhV d):Zdq d=some (Znc d):=by
 unfold Znc
 rcases ZJq hz with⟨s,h,_⟩ | ⟨_,_,_,F,M,r,_,h⟩<;>rw[h]
def shL (l:List Zj):List Zf:=l.map fun d=>(Znc d).1
def shE (l:List Zj):Int:=bif Za1 (fun d=>(Znc d).2) l==0 then Za1 (fun s=>(Zbf s).2) (shL l) else Za1 (fun d=>(Znc d).2) l
theorem Zmj {α:Type}{f:α->Int}:∀{l:List α}{x:α},Za1 f l=0->Za1 f (l++[x])=f x
 | [],x,_=>by
  show(bif f x==0 then 0 else f x)=f x
  by_cases h:f x=0
  ·rw[h];rfl
  ·rw[show(f x==0)=false from beq_eq_false_iff_ne.2 h];rfl
 | y :: l,x,h=>by
  unfold Za1 at h
  show(bif f y==0 then Za1 f (l++[x]) else f y)=f x
  by_cases hy:f y=0
  ·rw[show(f y==0)=true from beq_iff_eq.2 hy,cT] at h ⊢
   exact Zmj h
  ·rw[show(f y==0)=false from beq_eq_false_iff_ne.2 hy] at h
   exact absurd h hy
theorem ZnS {α:Type}{f:α->Int}:∀{l m:List α},Za1 f l≠0->Za1 f (l++m)=Za1 f l
 | [],m,h=>absurd rfl h
 | y :: l,m,h=>by
  show(bif f y==0 then Za1 f (l++m) else f y)=(bif f y==0 then Za1 f l else f y)
  unfold Za1 at h
  by_cases hy:f y=0
  ·rw[show(f y==0)=true from beq_iff_eq.2 hy,cT] at h ⊢
   rw[cT,ZnS h]
  ·rw[show(f y==0)=false from beq_eq_false_iff_ne.2 hy];rfl
theorem Zxh {l:List Zj} (hl:l.length<=1000) (hz:∀d∈l,ZhV d) :
  (Za1 (fun d=>(Znc d).2) l=0/\lp (ZaZ l) (0,([]:List Zf))=some (.inr (shL l)))∨(Za1 (fun d=>(Znc d).2) l≠0/\∃x,lp (ZaZ l) (0,([]:List Zf))=some (.inl (Za1 (fun d=>(Znc d).2) l,x))):=by
 have l0:∀(k i:Nat) ,i+k=l.length->Za1 (fun d=>(Znc d).2) (l.take i)=0 ->
   (Za1 (fun d=>(Znc d).2) l=0/\lp (ZaZ l) ((i:Int),shL (l.take i))=some (.inr (shL l)))∨(Za1 (fun d=>(Znc d).2) l≠0/\∃x,lp (ZaZ l) ((i:Int),shL (l.take i))=some (.inl (Za1 (fun d=>(Znc d).2) l,x))):=by
  intro k
  induction k with
  | zero=>
   intro i hi h
   have hi:i=l.length:=by omega
   subst hi
   rw[take_length] at h ⊢
   refine .inl ⟨h,?_⟩
   rw[ZY]
   simp only[ZaZ,Zbh,cF]
  | succ k ih=>
   intro i hi h
   have hil:i<l.length:=by omega
   have hx:=gE hil
   have hm:=getElem_mem hil
   have hdec:l=l.take (i+1)++l.drop (i+1):=(List.take_append_drop _ _).symm
   have ht:l.take (i+1)=l.take i++[l[i]]:=by rw[take_add_one,hx];rfl
   generalize l[i]=d at hx hm ht
   have hf:=Zmj (f:=fun d=>(Znc d).2) (x:=d) h
   rw[<- ht] at hf
   have hlen:(shL (l.take i)).length<=i:=by unfold shL;rw[length_map,length_take];omega
   rw[ZY]
   simp only[ZaZ,ZaW hil,cT,ZI hx,bS,ZKB (hz d hm),Zw hil (by omega),Zeg (show(shL (l.take i)).length+1<=1073741824 by omega)]
   by_cases he:(Znc d).2=0
   ·rw[he,Zw6,cF]
    have:=ih (i+1) (by omega) (by rw[hf];exact he)
    rw[ht] at this
    unfold shL at this ⊢
    rw[map_append] at this
    exact this
   ·rw[ZIA he,cT]
    have hall:Za1 (fun d=>(Znc d).2) l=(Znc d).2:=by
     rw[hdec,ZnS (by rw[hf];exact he),hf]
    exact .inr ⟨by rw[hall];exact he,_,by rw[hall]⟩
 exact l0 l.length 0 (by omega) rfl
theorem ZGe {l:List Zj} (hl:l.length<=1000) (hz:∀d∈l,ZhV d):ZiJ l=some (bif shE l==0 then shL l else [],shE l):=by
 have l1:∀(m:List Zf),m.length<=1000->(Za1 (fun s=>(Zbf s).2) m=0/\lp (Zcs m) 0=some (.inr ()))∨(Za1 (fun s=>(Zbf s).2) m≠0/\lp (Zcs m) 0=some (.inl (Za1 (fun s=>(Zbf s).2) m))):=by
  intro m hm
  have key:∀(k i:Nat),i+k=m.length->Za1 (fun s=>(Zbf s).2) (m.take i)=0->(Za1 (fun s=>(Zbf s).2) m=0/\lp (Zcs m) (i:Int)=some (.inr ()))∨(Za1 (fun s=>(Zbf s).2) m≠0/\lp (Zcs m) (i:Int)=some (.inl (Za1 (fun s=>(Zbf s).2) m))):=by
   intro k
   induction k with
   | zero=>
    intro i hi h
    have hi:i=m.length:=by omega
    subst hi
    rw[take_length] at h
    refine .inl ⟨h,?_⟩
    rw[ZY]
    simp only[Zcs,Zbh,cF]
   | succ k ih=>
    intro i hi h
    have hil:i<m.length:=by omega
    have hx:=gE hil
    have hdec:m=m.take (i+1)++m.drop (i+1):=(List.take_append_drop _ _).symm
    have ht:m.take (i+1)=m.take i++[m[i]]:=by rw[take_add_one,hx];rfl
    generalize m[i]=s at hx ht
    have hf:=Zmj (f:=fun s=>(Zbf s).2) (x:=s) h
    rw[<- ht] at hf
    rw[ZY]
    simp only[Zcs,ZaW hil,cT,ZI hx,bS,ZCC,Zw hil (by omega)]
    by_cases he:(Zbf s).2=0
    ·rw[he,Zw6,cF]
     exact ih (i+1) (by omega) (by rw[hf];exact he)
    ·rw[ZIA he,cT]
     have hall:Za1 (fun s=>(Zbf s).2) m=(Zbf s).2:=by
      rw[hdec,ZnS (by rw[hf];exact he),hf]
     exact .inr ⟨by rw[hall];exact he,by rw[hall]⟩
  exact key m.length 0 (by omega) rfl
 unfold ZiJ shE
 rcases Zxh hl hz with⟨h1,h2⟩ | ⟨h1,x,h2⟩
 ·rw[show(lp (ZaZ l) (0,([]:List Zf)))=_ from h2,bS]
  dsimp only
  rw[h1,show((0:Int)==0)=true from rfl,cT]
  rcases l1 (shL l) (by unfold shL;rw[length_map];exact hl) with⟨h3,h4⟩ | ⟨h3,h4⟩
  ·rw[h4,h3];rfl
  ·rw[h4,show(Za1 (fun s=>(Zbf s).2) (shL l)==0)=false from beq_eq_false_iff_ne.2 h3];rfl
 ·rw[show(lp (ZaZ l) (0,([]:List Zf)))=_ from h2,bS]
  dsimp only
  rw[show(Za1 (fun d=>(Znc d).2) l==0)=false from beq_eq_false_iff_ne.2 h1,cF,show(Za1 (fun d=>(Znc d).2) l==0)=false from beq_eq_false_iff_ne.2 h1]
  rfl
def hv (s:Zf):Bool:=decide (s.deadline<s.total)
def cN (s:Zf):Nat:=(Zbf s).1.toNat
theorem Znd {s:Zf} (h:(Zbf s).2=0):Ze7 s=true/\1<=(Zbf s).1/\(Zbf s).1<=8/\(hv s=false->(Zbf s).1=1):=by
 unfold Zbf at h ⊢
 unfold hv
 cases ho:Ze7 s with
 | false=>rw[ho] at h;exact absurd (show(140:Int)=0 from h) (by decide)
 | true=>
  rw[ho] at h
  simp only[cT] at h ⊢
  have o:=Zni ho
  have o2:=o.d1;have o4:=o.t1;have o6:=o.l1;have o7:=o.l2
  by_cases q1:s.deadline<s.total
  ·rw[dT q1] at h ⊢
   simp only[cT] at h ⊢
   by_cases q2:s.deadline<=s.long
   ·rw[dT q2] at h;exact absurd (show(141:Int)=0 from h) (by decide)
   ·rw[dF q2] at h ⊢
    simp only[cF] at h ⊢
    by_cases q3:8<upN s
    ·rw[dT q3] at h;exact absurd (show(142:Int)=0 from h) (by decide)
    ·rw[dF q3]
     simp only[cF]
     have h1:1<=upN s:=by
      apply Classical.byContradiction
      intro hn
      have h0:upN s<=0:=by omega
      have:=(ZEW (show s.long<s.deadline by omega) 0).1 h0
      omega
     exact⟨trivial,h1,by omega,fun e=>by cases e⟩
  ·rw[dF q1]
   simp only[cF]
   exact⟨trivial,by omega,by omega,fun _=>trivial⟩
def Zql (l:List Zf):Prop:=∀s∈l,(Zbf s).2=0
theorem Zql.heavy {l:List Zf} (h:Zql l) {s:Zf} (hs:s∈l):ZfW s=some (hv s):=ZCV s (Znd (h s hs)).1
def Zag (l:List Zf):Nat:=((l.filter hv).map cN).sum
def Zap (l:List Zf):List Zf:=l.filter fun s=>!hv s
def Zd1:Nat->Nat->LI
 | _,0=>[]
 | k,n+1=>(k:Int) :: Zd1 (k+1) n
theorem Zja:∀(n k:Nat),(Zd1 k n).length=n
 | 0,_=>rfl
 | n+1,k=>by unfold Zd1;rw[length_cons,Zja n]
theorem Zpm:∀(n k m:Nat),Zd1 k (n+m)=Zd1 k n++Zd1 (k+n) m
 | 0,k,m=>by simp[Zd1]
 | n+1,k,m=>by
  rw[show n+1+m=(n+m)+1 by omega]
  show(k:Int) :: Zd1 (k+1) (n+m)=(k:Int) :: Zd1 (k+1) n++Zd1 (k+(n+1)) m
  rw[Zpm n (k+1) m,show k+1+n=k+(n+1) by omega,cons_append]
theorem ZD8 {k n b:Nat} (h:n<=b):(Zd1 k b).take n=Zd1 k n/\(Zd1 k b).drop n=Zd1 (k+n) (b-n):=by
 have e:=Zpm n k (b-n)
 rw[show n+(b-n)=b by omega] at e
 have hl:=Zja n k
 rw[e]
 constructor
 ·rw[List.take_append_of_le_length (by omega),List.take_of_length_le (by omega)]
 ·rw[List.drop_append_of_le_length (by omega),List.drop_of_length_le (by omega)]
  rfl
theorem Zz0 (n:Int):ZdO n=Zd1 0 n.toNat:=by
 unfold ZdO
 generalize n.toNat=m
 induction m with
 | zero=>rfl
 | succ m ih=>
  rw[range_succ,map_append,ih,Zpm m 0 1]
  simp[Zd1]
def Zc3:Nat->List Zf->List LI
 | _,[]=>[]
 | k,s :: l=>bif hv s then Zd1 k (cN s) :: Zc3 (k+cN s) l else [] :: Zc3 k l
theorem Znj:∀(l:List Zf) (k:Nat),(Zc3 k l).length=l.length
 | [],_=>rfl
 | s :: l,k=>by unfold Zc3;cases hv s<;>simp[Znj l]
theorem ZnE (s:Zf) (l:List Zf):Zag (s :: l)=(bif hv s then cN s else 0)+Zag l:=by
 unfold Zag
 rw[List.filter_cons]
 cases hv s<;>simp
theorem ZsS (p q:List Zf):Zag (p++q)=Zag p+Zag q:=by
 unfold Zag
 rw[List.filter_append,map_append,List.sum_append]
theorem Znt (k:Nat) (s:Zf) (l:List Zf):Zc3 k (s :: l)=bif hv s then Zd1 k (cN s) :: Zc3 (k+cN s) l else [] :: Zc3 k l:=rfl
theorem Zts:∀(p:List Zf) (k:Nat) (q:List Zf),Zc3 k (p++q)=Zc3 k p++Zc3 (k+Zag p) q
 | [],k,q=>by simp[Zc3,Zag]
 | s :: p,k,q=>by
  rw[cons_append]
  rw[Znt,Znt,ZnE]
  cases hv s with
  | true=>
   simp only[cT,cons_append]
   rw[Zts p,Nat.add_assoc]
  | false=>
   simp only[cF,cons_append,zero_add]
   rw[Zts p]
def ZlT (first:Int):List Zf->List LI->LI->List LI
 | s :: l,r :: rs,at_=>bif hv s then r :: ZlT first l rs at_ else (match at_ with | a :: ar=>[first+a] :: ZlT first l rs ar | []=>r :: ZlT first l rs [])
 | _,rs,_=>rs
theorem Zv3 {f:Int}{z:Zf}{l:List Zf}{r:LI}{rs:List LI}{a:Int}{ar:LI} (h:hv z=false):ZlT f (z :: l) (r :: rs) (a :: ar)=[f+a] :: ZlT f l rs ar:=by
 show(bif hv z then _ else _)=_
 rw[h];rfl
theorem ZIm {s:List Zf} (hs:s.length<=8) (ok:Zql s) {x:List Zf×Int} (hx:x.1=s) {b:Nat} (hb:b<=8) :
  (Zag s<=b/\lp (ZcL x) (0,Zd1 0 b,([]:List Zf),List.replicate s.length ([]:LI))=some (.inr (Zd1 (Zag s) (b-Zag s),Zap s,Zc3 0 s))) ∨
  (b<Zag s/\∃y,lp (ZcL x) (0,Zd1 0 b,([]:List Zf),List.replicate s.length ([]:LI))=some (.inl y)):=by
 have key:∀(k i:Nat),i+k=s.length->Zag (s.take i)<=b ->
   (Zag s<=b/\lp (ZcL x) ((i:Int),Zd1 (Zag (s.take i)) (b-Zag (s.take i)),Zap (s.take i),Zc3 0 (s.take i)++List.replicate (s.length-i) ([]:LI))=some (.inr (Zd1 (Zag s) (b-Zag s),Zap s,Zc3 0 s))) ∨
   (b<Zag s/\∃y,lp (ZcL x) ((i:Int),Zd1 (Zag (s.take i)) (b-Zag (s.take i)),Zap (s.take i),Zc3 0 (s.take i)++List.replicate (s.length-i) ([]:LI))=some (.inl y)):=by
  intro k
  induction k with
  | zero=>
   intro i hi hu
   have hi:i=s.length:=by omega
   subst hi
   rw[take_length] at hu ⊢
   refine .inl ⟨hu,?_⟩
   rw[ZY]
   simp only[ZcL,hx,Zbh,cF,sub_self,List.replicate_zero,append_nil]
  | succ k ih=>
   intro i hi hu
   have hil:i<s.length:=by omega
   have hx':=gE hil
   have hm:=getElem_mem hil
   have ht:s.take (i+1)=s.take i++[s[i]]:=by rw[take_add_one,hx'];rfl
   have hdec:s=s.take (i+1)++s.drop (i+1):=(List.take_append_drop _ _).symm
   generalize s[i]=z at hx' hm ht
   obtain⟨c0,c1,c8,c2⟩:=Znd (ok z hm)
   have hlen:(s.take i).length=i:=by rw[length_take];omega
   have hrl:(Zc3 0 (s.take i)).length=i:=by rw[Znj,hlen]
   have hrep:List.replicate (s.length-i) ([]:LI)=[] :: List.replicate (s.length-(i+1)) []:=by
    rw[show s.length-i=(s.length-(i+1))+1 by omega];rfl
   have hget:(Zc3 0 (s.take i)++List.replicate (s.length-i) ([]:LI))[i]? = some []:=by
    rw[List.getElem?_append_right (by omega),hrl,sub_self,hrep];rfl
   have hset:∀r:LI,(Zc3 0 (s.take i)++List.replicate (s.length-i) ([]:LI)).set i r=(Zc3 0 (s.take i)++[r])++List.replicate (s.length-(i+1)) []:=fun r=>by
    rw[List.set_append_right _ _ (by omega),hrl,sub_self,hrep,List.set_cons_zero,append_assoc]
    rfl
   have hrow:=Zts (s.take i) 0 [z]
   have husd:=ZsS (s.take i) [z]
   have hlg:Zap (s.take (i+1))=Zap (s.take i)++(bif hv z then [] else [z]):=by
    unfold Zap
    rw[ht,List.filter_append]
    cases hz:hv z<;>simp[hz]
   have hll:(Zap (s.take i)).length<=8:=le_trans (List.length_filter_le _ _) (by omega)
   rw[<- ht] at hrow husd
   rw[zero_add] at hrow
   have hus:Zag s=Zag (s.take (i+1))+Zag (s.drop (i+1)):=by rw[<- ZsS,<- hdec]
   have hnx:=ih (i+1) (by omega)
   rw[ZY]
   simp only[ZcL,hx,ZaW hil,cT,ZI hx',bS,ok.heavy hm,Zw hil (by omega)]
   cases hz:hv z with
   | true=>
    have e1:Zag [z]=cN z:=by rw[ZnE,hz];simp[Zag]
    have e2:Zc3 (Zag (s.take i)) [z]=[Zd1 (Zag (s.take i)) (cN z)]:=by unfold Zc3;rw[hz];rfl
    have hcn:((Zbf z).1:Int).toNat=cN z:=rfl
    rw[e1] at husd
    rw[e2] at hrow
    simp only[cT,ZCC,bS,Zn8,dT (show(0:Int)<=(Zbf z).1 by omega),dT (show(Zbf z).1<=1000 by omega),Bool.and_self,hcn,Zja]
    by_cases hle:cN z<=b-Zag (s.take i)
    ·obtain⟨q1,q2⟩:=ZD8 (k:=Zag (s.take i)) hle
     rw[Nat.ble_eq_true_of_le hle]
     simp only[cT,bS,ZI hget,q1,q2,toNat_natCast,hset]
     rw[hlg,hz,hrow,husd,show b-(Zag (s.take i)+cN z)=b-Zag (s.take i)-cN z by omega] at hnx
     simp only[cT,append_nil] at hnx
     exact hnx (by omega)
    ·have hb:Nat.ble (cN z) (b-Zag (s.take i))=false:=by
      cases hq:Nat.ble (cN z) (b-Zag (s.take i)) with
      | false=>rfl
      | true=>exact absurd (Nat.le_of_ble_eq_true hq) hle
     rw[hb]
     exact .inr ⟨by omega,_,rfl⟩
   | false=>
    have e1:Zag [z]=0:=by rw[ZnE,hz];simp[Zag]
    have e2:Zc3 (Zag (s.take i)) [z]=[[]]:=by unfold Zc3;rw[hz];rfl
    rw[e1,add_zero] at husd
    rw[e2] at hrow
    simp only[cF,Zeg (show(Zap (s.take i)).length+1<=1073741824 by omega),cT]
    rw[hlg,hz,hrow,husd] at hnx
    simp only[cF] at hnx
    rw[hrep,show Zc3 0 (s.take i)++[] :: List.replicate (s.length-(i+1)) ([]:LI)=(Zc3 0 (s.take i)++[[]])++List.replicate (s.length-(i+1)) [] by rw[append_assoc];rfl]
    exact hnx hu
 have:=key s.length 0 (by omega) (by simp[Zag])
 simpa [Zag,Zap,Zc3] using this
theorem ZDT {s:List Zf} (hs:s.length<=8) (ok:Zql s) {x:List Zf×Int} (hx:x.1=s) {b used:Nat} (hub:used<=b) (hb:b<=8) {r8:LI×List Zf×List LI} (hr:r8.1.length=b-used) :
  ∀(t:List Zf) (rest done:List LI) (at_:LI),s.drop done.length=t->done.length+t.length=s.length->rest.length=t.length->at_.length=(Zap t).length->(∀a∈at_, -1<=a/\a<=8) ->
   lp (Zer (b:Int) x r8) (at_,(done.length:Int),done++rest)=some (done++ZlT (used:Int) t rest at_):=by
 intro t
 induction t with
 | nil=>
  intro rest done at_ hd hl hrl hal ha
  have hr0:rest=[]:=List.eq_nil_of_length_eq_zero hrl
  subst hr0
  have hdl:done.length=s.length:=by simpa using hl
  rw[ZY]
  simp only[Zer,hx,hdl,Zbh,cF,ZlT]
 | cons z t ih=>
  intro rest done at_ hd hl hrl hal ha
  rw[length_cons] at hl
  have hil:done.length<s.length:=by omega
  have hz':s[done.length]? = some z:=by
   have:=List.getElem?_drop (xs:=s) (i:=done.length) (j:=0)
   rw[hd] at this
   simpa using this.symm
  have hm:=mG hz'
  have hd':s.drop (done.length+1)=t:=by
   rw[<- List.drop_drop,hd];rfl
  cases rest with
  | nil=>cases hrl
  | cons r rest=>
  have hget:(done++r :: rest)[done.length]? = some r:=by rw[List.getElem?_append_right (Nat.le_refl _),sub_self];rfl
  rw[ZY]
  simp only[Zer,hx,ZaW hil,cT,ZI hz',bS,ok.heavy hm,Zw hil (by omega)]
  have hll:Zap (z :: t)=bif hv z then Zap t else z :: Zap t:=by
   unfold Zap
   rw[List.filter_cons]
   cases hv z<;>rfl
  cases hz:hv z with
  | true=>
   rw[hz,cT] at hll
   rw[cT]
   have:=ih rest (done++[r]) at_ (by rw[lA,length_singleton];exact hd') (by rw[lA,length_singleton];omega) (by simpa using hrl) (by rw[hal,hll]) ha
   rw[lA,length_singleton,append_assoc,append_assoc] at this
   unfold ZlT
   rw[hz]
   exact this
  | false=>
   rw[hz,cF] at hll
   rw[cF]
   cases at_ with
   | nil=>rw[hll] at hal;cases hal
   | cons a ar=>
    have ha0:=ha a (by simp)
    have hw0:w64 ((b:Int)-(r8.1.length:Int))=(used:Int):=by
     rw[hr,Za0 (by omega)];omega
    have hw:w64 (w64 ((b:Int)-(r8.1.length:Int))+a)=(used:Int)+a:=by
     rw[hw0,Za0 (by omega)]
    have g0:ZA (a :: ar) 0=some a:=rfl
    have hb1:Nat.ble 1 (a :: ar).length=true:=Nat.ble_eq_true_of_le (by simp)
    simp only[g0,bS,hb1,cT,ZI hget,hw,toNat_natCast]
    have hset:(done++r :: rest).set done.length [(used:Int)+a]=(done++[[(used:Int)+a]])++rest:=by
     rw[List.set_append_right _ _ (Nat.le_refl _),sub_self,List.set_cons_zero,append_assoc];rfl
    rw[hset]
    have:=ih rest (done++[[(used:Int)+a]]) ar (by rw[lA,length_singleton];exact hd') (by rw[lA,length_singleton];omega) (by simpa using hrl) (by rw[hll] at hal;simpa using hal) (fun y hy=>ha y (by simp[hy]))
    rw[lA,length_singleton,append_assoc] at this
    rw[Zv3 hz,append_assoc]
    rw[append_assoc] at this
    exact this
def ZHz (l:List Zf):LI:=match ZgP l with | some o=>o | none=>[]
theorem ZAB {l:List Zf} (hl:l.length<=1000):ZgP l=some (ZHz l)/\Zhm l (ZHz l):=by
 obtain⟨o,h1,h2⟩:=ZEt l hl
 unfold ZHz
 rw[h1]
 exact⟨rfl,h2⟩
def ZoE (l:List Zf) (n:Nat):Option LI:=Zhg l n (ZHz l) (List.replicate l.length (-1))
theorem Zl6 {s:List Zf} (hs:s.length<=8) (ok:Zql s):Zc1 (Zap s)=true:=by
 have h8:(Zap s).length<=8:=le_trans (List.length_filter_le _ _) hs
 unfold Zc1
 rw[dF (by omega)]
 rw[show((Zap s).any fun s=>!(okS s))=false from List.any_eq_false.2 fun z hz=>by
  obtain⟨h1,h2⟩:=List.mem_filter.1 hz
  have h3:=(Znd (ok z h1)).1
  unfold hv at h2
  unfold okS
  rw[h3,Bool.true_and]
  simpa using h2]
 rfl
theorem ZxN {s:List Zf} (hs:s.length<=8) (ok:Zql s) {n:Nat} (hn:n<=8):ZiP (Zap s) (n:Int)=some (match ZoE (Zap s) n with | some a=>(a,0) | none=>([],161)):=by
 have hl:(Zap s).length<=1000:=le_trans (List.length_filter_le _ _) (by omega)
 obtain⟨h1,h2⟩:=ZAB hl
 rw[ZJs (Zap s) hl h1 h2 (n:Int),Zl6 hs ok]
 have h8:Zim (n:Int)=true:=by unfold Zim;rw[dT (by omega),dT (by omega)];rfl
 rw[h8,toNat_natCast]
 rfl
def Zrx:ZfM:=⟨[],[]⟩
def ZnL (s:List Zf) (b:Nat):Option ZfM:=bif Nat.ble (Zag s) b then (match ZoE (Zap s) (b-Zag s) with | some a=>some ⟨s,ZlT (Zag s:Int) s (Zc3 0 s) a⟩ | none=>none) else none
def Zka (l:List Zj) (b:Int):ZfM×Int:=
 bif decide (8<(l.length:Int)) || (decide (b<1) || decide (8<b)) then (Zrx,170)
 else bif shE l==0 then (match ZnL (shL l) b.toNat with | some p=>(p,0) | none=>(Zrx,171)) else (Zrx,shE l)
theorem ZAX {l:List Zj} (h:shE l=0):Zql (shL l):=by
 unfold shE at h
 cases h1:Za1 (fun d=>(Znc d).2) l==0 with
 | true=>rw[h1,cT] at h;exact ZtT.1 h
 | false=>rw[h1,cF] at h;rw[h] at h1;cases h1
theorem ZwI {l:List Zf}{n:Nat}{a:LI} (hl:l.length<=1000) (hc:Zc1 l=true) (hn:n<=8) (h:ZoE l n=some a):ZEF l a (n:Int)/\a.length=l.length:=by
 obtain⟨h1,h2⟩:=ZAB hl
 have h8:Zim (n:Int)=true:=by unfold Zim;rw[dT (by omega),dT (by omega)];rfl
 have r:=Zy1 (c:=(n:Int)) h8 h2 (by rw[toNat_natCast];exact h)
 refine⟨r,?_⟩
 have:=ZvX h
 rw[this,length_replicate]
theorem ZIR {l:List Zj} (hl:l.length<=1000) (hz:∀d∈l,ZhV d) (b:Int):ZjA l b=some (Zka l b):=by
 unfold ZjA Zka
 by_cases h8:8<(l.length:Int)
 ·rw[dT h8];rfl
 rw[dF h8,cF,Bool.false_or]
 by_cases b1:b<1
 ·rw[dT b1];rfl
 rw[dF b1,cF,Bool.false_or]
 by_cases b8:8<b
 ·rw[dT b8];rfl
 rw[dF b8,cF,cF,ZGe hl hz,bS]
 dsimp only
 by_cases he:shE l=0
 ·have ok:=ZAX he
  have hsl:(shL l).length<=8:=by unfold shL;rw[length_map];omega
  rw[he,show((0:Int)==0)=true from rfl,cT,Zw6,cF]
  have hbn:((b.toNat:Nat):Int)=b:=toNat_of_nonneg (by omega)
  have hlim:(decide (0<=((shL l).length:Int))&&decide (((shL l).length:Int)<=lim)&&decide (((shL l).length:Int)==((shL l).length:Int)))=true:=by
   rw[dT (by omega),beq_self_eq_true]
   have:((shL l).length:Int)<=lim:=by show((shL l).length:Int)<=1073741824;omega
   rw[dT this];rfl
  rw[hlim,cT]
  have hfree:Zkv b=some ():=by unfold Zkv;rw[dT (by omega),dT (by omega)];rfl
  rw[hfree,bS,Zz0,toNat_natCast,cT]
  unfold ZnL
  rcases ZIm (x:=(shL l,0)) hsl ok rfl (b:=b.toNat) (by omega) with⟨q1,q2⟩ | ⟨q1,y,q2⟩
  ·rw[q2,bS,Nat.ble_eq_true_of_le q1,cT]
   dsimp only
   rw[Zja,ZxN hsl ok (by omega),bS]
   cases hp:ZoE (Zap (shL l)) (b.toNat-Zag (shL l)) with
   | none=>rfl
   | some a=>
    dsimp only
    rw[Zw6,cF]
    have hll:(Zap (shL l)).length<=8:=le_trans (List.length_filter_le _ _) hsl
    obtain⟨R,hal⟩:=ZwI (show(Zap (shL l)).length<=1000 by omega) (Zl6 hsl ok) (by omega) hp
    have:=ZDT (x:=(shL l,0)) hsl ok rfl q1 (show b.toNat<=8 by omega) (r8:=(Zd1 (Zag (shL l)) (b.toNat-Zag (shL l)),Zap (shL l),Zc3 0 (shL l))) (Zja _ _) (shL l) (Zc3 0 (shL l)) [] a rfl (by simp) (Znj _ _) hal (fun z hz=>by
     have:=R.ok z hz
     omega)
    rw[hbn] at this
    rw[show(lp (Zer b (shL l,0) (Zd1 (Zag (shL l)) (b.toNat-Zag (shL l)),Zap (shL l),Zc3 0 (shL l))) (a,0,Zc3 0 (shL l)))=_ from this]
    rfl
  ·rw[q2]
   have:Nat.ble (Zag (shL l)) b.toNat=false:=by
    cases hq:Nat.ble (Zag (shL l)) b.toNat with
    | false=>rfl
    | true=>have:=Nat.le_of_ble_eq_true hq;omega
   rw[this];rfl
 ·rw[show(shE l==0)=false from beq_eq_false_iff_ne.2 he,ZIA he];rfl
end
theorem ZL8 (l:List Zj):∃b,Zl2 l=some b/\(b=true->l.length<=12/\∀d∈l,ZhV d):=by
 have key:∀(k i:Nat),i+k=l.length->(∀d∈l.take i,few d=true) ->
   (∃r,lp (Zc0 l) (i:Int)=some (.inl r))∨(∃r,lp (Zc0 l) (i:Int)=some (.inr r)/\(l.length<=12->∀d∈l,few d=true)):=by
  intro k
  induction k with
  | zero=>
   intro i hi h
   have hi:i=l.length:=by omega
   subst hi
   rw[take_length] at h
   rw[ZY]
   simp only[Zc0,Zbh,cF]
   exact .inr ⟨(),trivial,fun _=>h⟩
  | succ k ih=>
   intro i hi h
   have hil:i<l.length:=by omega
   have hx:=gE hil
   have ht:l.take (i+1)=l.take i++[l[i]]:=by rw[take_add_one,hx];rfl
   generalize l[i]=d at hx ht
   rw[ZY]
   by_cases h13:(i:Int)<13
   ·have hw:w64 ((i:Int)+1)=((i+1:Nat):Int):=by rw[Za0 (by omega)];omega
    simp only[Zc0,ZaW hil,cT,dT h13,ZI hx,bS,ZLR,hw]
    cases hf:few d with
    | false=>exact .inl ⟨_,rfl⟩
    | true=>
     exact ih (i+1) (by omega) (fun e he=>by
      rw[ht] at he
      rcases List.mem_append.1 he with he | he
      ·exact h e he
      ·rw[List.mem_singleton.1 he];exact hf)
   ·simp only[Zc0,ZaW hil,cT,dF h13,cF]
    exact .inr ⟨(),trivial,fun h12=>by omega⟩
 unfold Zl2
 rcases key l.length 0 (by omega) (fun d hd=>by simp at hd) with⟨r,h⟩ | ⟨r,h,h2⟩
 ·rw[show lp (Zc0 l) 0=_ from h]
  exact⟨false,rfl,fun e=>by cases e⟩
 ·rw[show lp (Zc0 l) 0=_ from h]
  by_cases h12:(l.length:Int)<=12
  ·exact⟨true,by simp only[bS,dT h12];rfl,fun _=>⟨by omega,fun d hd=>ZDz (h2 (by omega) d hd)⟩⟩
  ·exact⟨false,by simp only[bS,dF h12];rfl,fun e=>by cases e⟩
theorem ZLQ {l:List Zj} (hl:l.length<=1000) (hz:∀d∈l,ZhV d):Zml l=some l:=by
 have key:∀(k i:Nat),i+k=l.length->lp (Zgr l) ((i:Int),l.take i)=some l:=by
  intro k
  induction k with
  | zero=>
   intro i hi
   have hi:i=l.length:=by omega
   subst hi
   rw[take_length,ZY]
   simp only[Zgr,Zbh,cF]
  | succ k ih=>
   intro i hi
   have hil:i<l.length:=by omega
   have hx:=gE hil
   have hm:=getElem_mem hil
   have ht:l.take (i+1)=l.take i++[l[i]]:=by rw[take_add_one,hx];rfl
   generalize l[i]=d at hx ht hm
   have hlen:(l.take i).length<=1000:=by rw[length_take];omega
   rw[ZY]
   simp only[Zgr,ZaW hil,cT,ZI hx,bS,ZNC d (hz d hm),Zeg (show(l.take i).length+1<=1073741824 by omega),Zw hil (by omega)]
   have:=ih (i+1) (by omega)
   rw[ht] at this
   exact this
 have:=key l.length 0 (by omega)
 unfold Zml
 rw[show lp (Zgr l) (0,([]:List Zj))=_ from this]
 rfl
theorem ZoU (f:Int):∀(s:List Zf) (rs:List LI) (a:LI),(ZlT f s rs a).length=rs.length
 | [],rs,a=>by unfold ZlT;rfl
 | z :: s,[],a=>by unfold ZlT;rfl
 | z :: s,r :: rs,a=>by
  unfold ZlT
  cases hv z with
  | true=>simp only[cT,length_cons,ZoU f s rs]
  | false=>
   cases a with
   | nil=>simp only[cF,length_cons,ZoU f s rs]
   | cons x a=>simp only[cF,length_cons,ZoU f s rs]
theorem ZwC (f:Int):∀(s:List Zf) (rs:List LI) (a:LI),∀r∈ZlT f s rs a,r∈rs∨r.length=1
 | [],rs,a=>by unfold ZlT;exact fun r h=>.inl h
 | z :: s,[],a=>by unfold ZlT;exact fun r h=>.inl h
 | z :: s,r0 :: rs,a=>by
  unfold ZlT
  have ih:=ZwC f s rs
  intro r h
  cases hz:hv z with
  | true=>
   rw[hz,cT] at h
   rcases List.mem_cons.1 h with h | h
   ·exact .inl (by rw[h];simp)
   ·rcases ih a r h with h | h
    ·exact .inl (by simp[h])
    ·exact .inr h
  | false=>
   rw[hz,cF] at h
   cases a with
   | nil=>
    rcases List.mem_cons.1 h with h | h
    ·exact .inl (by rw[h];simp)
    ·rcases ih [] r h with h | h
     ·exact .inl (by simp[h])
     ·exact .inr h
   | cons x a=>
    rcases List.mem_cons.1 h with h | h
    ·exact .inr (by rw[h];rfl)
    ·rcases ih a r h with h | h
     ·exact .inl (by simp[h])
     ·exact .inr h
theorem Zvw:∀(s:List Zf) (k:Nat),Zql s->∀r∈Zc3 k s,r.length<=8
 | [],k,_=>fun r h=>by cases h
 | z :: s,k,ok=>by
  obtain⟨_,c1,c8,_⟩:=Znd (ok z (by simp))
  intro r h
  have ih:=fun k=>Zvw s k fun y hy=>ok y (by simp[hy])
  unfold Zc3 at h
  cases hz:hv z with
  | true=>
   rw[hz,cT] at h
   rcases List.mem_cons.1 h with h | h
   ·rw[h,Zja];unfold cN;omega
   ·exact ih _ r h
  | false=>
   rw[hz,cF] at h
   rcases List.mem_cons.1 h with h | h
   ·rw[h];simp
   ·exact ih _ r h
theorem ZzD {s:List Zf}{b:Nat}{p:ZfM} (h:ZnL s b=some p):Zag s<=b/\∃a,ZoE (Zap s) (b-Zag s)=some a/\p=⟨s,ZlT (Zag s:Int) s (Zc3 0 s) a⟩:=by
 unfold ZnL at h
 cases hu:Nat.ble (Zag s) b with
 | false=>rw[hu] at h;cases h
 | true=>
  rw[hu,cT] at h
  cases hp:ZoE (Zap s) (b-Zag s) with
  | none=>rw[hp] at h;cases h
  | some a=>rw[hp] at h;cases h;exact⟨Nat.le_of_ble_eq_true hu,a,rfl,rfl⟩
theorem ZBT {s:List Zf} (ok:Zql s) (hs:s.length<=8) {b:Nat} (hb:b<=8) {p:ZfM} (h:ZnL s b=some p):p.shapes.length<=8/\p.cores.length<=8/\∀r∈p.cores,r.length<=1000:=by
 obtain⟨_,a,_,rfl⟩:=ZzD h
 refine⟨hs,?_,fun r hr=>?_⟩
 ·show(ZlT (Zag s:Int) s (Zc3 0 s) a).length<=8
  rw[ZoU,Znj];exact hs
 ·rcases ZwC _ _ _ _ r hr with h | h
  ·have:=Zvw s 0 ok r h;omega
  ·omega
theorem Zy8 {l:List Zj}{b:Int} (h:(Zka l b).2=0):l.length<=8/\1<=b/\b<=8/\shE l=0/\∃p,ZnL (shL l) b.toNat=some p/\Zka l b=(p,0):=by
 unfold Zka at h ⊢
 by_cases h8:8<(l.length:Int)
 ·rw[dT h8] at h;exact absurd (show(170:Int)=0 from h) (by decide)
 by_cases b1:b<1
 ·rw[dF h8,dT b1] at h;exact absurd (show(170:Int)=0 from h) (by decide)
 by_cases b8:8<b
 ·rw[dF h8,dF b1,dT b8] at h;exact absurd (show(170:Int)=0 from h) (by decide)
 rw[dF h8,dF b1,dF b8] at h ⊢
 simp only[Bool.or_self,cF] at h ⊢
 by_cases he:shE l=0
 ·rw[he] at h ⊢
  simp only[beq_self_eq_true,cT] at h ⊢
  cases hp:ZnL (shL l) b.toNat with
  | none=>rw[hp] at h;exact absurd (show(171:Int)=0 from h) (by decide)
  | some p=>exact⟨by omega,by omega,by omega,trivial,p,rfl,rfl⟩
 ·rw[beq_eq_false_iff_ne.2 he] at h
  exact absurd h he
theorem ZEX {x:D} (h:ZHa (.sl true [.int .i64,.int .i64,.sl true [.int .i64,.int .i64,.int .i64],.sl true [.int .i64,.int .i64],.sl true [.int .i64,.int .i64,.int .i64],.sl true [.sl false [.int .i64],.sl false [.int .i64]]]) x):∃l:List Zj,x = .list true (l.map (Zh2 true)):=by
 obtain⟨l,h1,_,_⟩:=ZrH (f:=Zh2 true) (p:=fun _=>True) h fun cs hc=>by
  obtain⟨d,hd,_⟩:=ZIj hc
  exact⟨d,hd,trivial⟩
 exact⟨l,h1⟩
abbrev ZOv:=Zf×LI
noncomputable def ZmK (u:Int):Nat->List Zf->LI->List ZOv
 | _,[],_=>[]
 | k,z :: s,a=>bif hv z then (z,Zd1 k (cN z)) :: ZmK u (k+cN z) s a else (match a with | x :: a=>(z,[u+x]) :: ZmK u k s a | []=>(z,[]) :: ZmK u k s [])
theorem ZtS {u:Int}{k:Nat}{z:Zf}{s:List Zf}{a:LI} (h:hv z=true):ZmK u k (z :: s) a=(z,Zd1 k (cN z)) :: ZmK u (k+cN z) s a:=by
 show(bif hv z then _ else _)=_
 rw[h];rfl
theorem ZtP {u:Int}{k:Nat}{z:Zf}{s:List Zf}{x:Int}{a:LI} (h:hv z=false):ZmK u k (z :: s) (x :: a)=(z,[u+x]) :: ZmK u k s a:=by
 show(bif hv z then _ else _)=_
 rw[h];rfl
theorem ZBa (z:Zf) (s:List Zf):Zap (z :: s)=bif hv z then Zap s else z :: Zap s:=by
 unfold Zap
 rw[List.filter_cons]
 cases hv z<;>rfl
theorem Zsl {P:Nat->List Zf->LI->Prop} (h0:∀k,P k [] []) (h1:∀k z s a,hv z=true->P (k+cN z) s a->P k (z :: s) a) (h2:∀k z s x a,hv z=false->P k s a->P k (z :: s) (x :: a)) :
  ∀(s:List Zf) (k:Nat) (a:LI),a.length=(Zap s).length->P k s a
 | [],k,a,h=>by
  have:a=[]:=List.eq_nil_of_length_eq_zero h
  subst this
  exact h0 k
 | z :: s,k,a,h=>by
  rw[ZBa] at h
  cases hz:hv z with
  | true=>
   rw[hz,cT] at h
   exact h1 k z s a hz (Zsl h0 h1 h2 s _ a h)
  | false=>
   rw[hz,cF] at h
   cases a with
   | nil=>cases h
   | cons x a=>exact h2 k z s x a hz (Zsl h0 h1 h2 s k a (by simpa using h))
theorem ZE6 (u:Int) (s:List Zf) (k:Nat) (a:LI) (h:a.length=(Zap s).length):s.zip (ZlT u s (Zc3 k s) a)=ZmK u k s a:=by
 refine Zsl (P:=fun k s a=>s.zip (ZlT u s (Zc3 k s) a)=ZmK u k s a) (fun k=>rfl) (fun k z s a hz ih=>?_) (fun k z s x a hz ih=>?_) s k a h
 ·rw[ZtS hz,<- ih,Znt,hz,cT]
  show(z :: s).zip (bif hv z then _ else _)=_
  rw[hz];rfl
 ·rw[ZtP hz,<- ih,Znt,hz,cF,Zv3 hz]
  rfl
theorem Zvl {l:List Zj} (hz:∀d∈l,ZhV d):ZhR l=ZaZ l:=by
 funext s
 unfold ZhR ZaZ
 cases h:ZA l s.1 with
 | none=>rfl
 | some d=>
  have:=(Zrz l s.1 d h).2.2
  rw[bS,bS,ZAy (hz d (mG this))]
theorem ZA9 (z:Zf):decide (z.total<=z.deadline) = !hv z:=by
 unfold hv
 by_cases h:z.deadline<z.total
 ·rw[dT h,dF (by omega)];rfl
 ·rw[dF h,dT (by omega)];rfl
theorem ZAd {m:List Zf} (hm:m.length<=8) :
  (Za1 (fun s=>(Zbf s).2) m=0/\lp (ZcN m) (0,0,([]:List Zf))=some (.inr ((Zag m:Int),Zap m)))∨(Za1 (fun s=>(Zbf s).2) m≠0/\∃x,lp (ZcN m) (0,0,([]:List Zf))=some (.inl (Za1 (fun s=>(Zbf s).2) m,x))):=by
 have key:∀(k i:Nat),i+k=m.length->Za1 (fun s=>(Zbf s).2) (m.take i)=0->Zag (m.take i)<=8*i ->
   (Za1 (fun s=>(Zbf s).2) m=0/\lp (ZcN m) ((Zag (m.take i):Int),(i:Int),Zap (m.take i))=some (.inr ((Zag m:Int),Zap m)))∨(Za1 (fun s=>(Zbf s).2) m≠0/\∃x,lp (ZcN m) ((Zag (m.take i):Int),(i:Int),Zap (m.take i))=some (.inl (Za1 (fun s=>(Zbf s).2) m,x))):=by
  intro k
  induction k with
  | zero=>
   intro i hi h hu
   have hi:i=m.length:=by omega
   subst hi
   rw[take_length] at h ⊢
   refine .inl ⟨h,?_⟩
   rw[ZY]
   simp only[ZcN,Zbh,cF]
  | succ k ih=>
   intro i hi h hu
   have hil:i<m.length:=by omega
   have hx:=gE hil
   have hdec:m=m.take (i+1)++m.drop (i+1):=(List.take_append_drop _ _).symm
   have ht:m.take (i+1)=m.take i++[m[i]]:=by rw[take_add_one,hx];rfl
   generalize m[i]=s at hx ht
   have hf:=Zmj (f:=fun s=>(Zbf s).2) (x:=s) h
   rw[<- ht] at hf
   have hll:(Zap (m.take i)).length<=8:=le_trans (List.length_filter_le _ _) (by rw[length_take];omega)
   have hus:Zag (m.take (i+1))=Zag (m.take i)+(bif hv s then cN s else 0):=by
    rw[ht,ZsS,ZnE];simp[Zag]
   have hlg:Zap (m.take (i+1))=Zap (m.take i)++(bif hv s then [] else [s]):=by
    unfold Zap
    rw[ht,List.filter_append]
    cases hz:hv s<;>simp[hz]
   rw[ZY]
   simp only[ZcN,ZaW hil,cT,ZI hx,bS,ZmB,ZA9,Zw hil (by omega),Zeg (show(Zap (m.take i)).length+1<=1073741824 by omega)]
   by_cases he:(Zbf s).2=0
   ·obtain⟨_,c1,c8,_⟩:=Znd he
    have hcn:((cN s:Nat):Int)=(Zbf s).1:=toNat_of_nonneg (by omega)
    rw[he,Zw6,cF]
    cases hz:hv s with
    | true=>
     have hus2:Zag (m.take (i+1))=Zag (m.take i)+cN s:=by rw[hus,hz];rfl
     have hlg2:Zap (m.take (i+1))=Zap (m.take i):=by rw[hlg,hz];simp
     have:=ih (i+1) (by omega) (by rw[hf];exact he) (by omega)
     rw[hus2,hlg2] at this
     rw[Bool.not_true,cF,<- hcn,Za0 (by omega),show(Zag (m.take i):Int)+(cN s:Int)=((Zag (m.take i)+cN s:Nat):Int) by omega]
     exact this
    | false=>
     have hus2:Zag (m.take (i+1))=Zag (m.take i):=by rw[hus,hz];simp
     have hlg2:Zap (m.take (i+1))=Zap (m.take i)++[s]:=by rw[hlg,hz];rfl
     have:=ih (i+1) (by omega) (by rw[hf];exact he) (by omega)
     rw[hus2,hlg2] at this
     rw[Bool.not_false,cT]
     exact this
   ·rw[ZIA he,cT]
    have hall:Za1 (fun s=>(Zbf s).2) m=(Zbf s).2:=by
     rw[hdec,ZnS (by rw[hf];exact he),hf]
    exact .inr ⟨by rw[hall];exact he,_,by rw[hall]⟩
 exact key m.length 0 (by omega) rfl (by simp[Zag])
theorem ZAE {x11:Int×Int}{n:Nat} (hx:x11.1=(n:Int)) (hn:n<=8):∀(k j i:Nat),j+k=n->i<=1000->lp (ZeK x11) (((i+j:Nat):Int),(j:Int),Zd1 i j)=some (((i+n:Nat):Int),Zd1 i n):=by
 intro k
 induction k with
 | zero=>
  intro j i hj hi
  rw[ZY]
  simp only[ZeK,hx,dF (show ¬(j:Int)<(n:Int) by omega),cF]
  rw[show j=n by omega]
 | succ k ih=>
  intro j i hj hi
  have hl:=Zja j i
  rw[ZY]
  simp only[ZeK,hx,dT (show(j:Int)<(n:Int) by omega),cT,Zeg (show(Zd1 i j).length+1<=1073741824 by omega),Za0 (n:=(j:Int)+1) (by omega),Za0 (n:=((i+j:Nat):Int)+1) (by omega)]
  have:=ih (j+1) i (by omega) hi
  rw[Zpm j i 1] at this
  exact this
theorem ZAQ {s:List Zf} (hs:s.length<=8) (ok:Zql s) {r7:Int×List Zf}{x8:LI×Int} (hu:0<=r7.1/\r7.1<=1000) (hr:∀x∈x8.1,0<=x/\x<=1000):∀(rest:List Zf) (k:Nat) (a:LI),a.length=(Zap rest).length ->
  ∀(i j:Nat) (rows:List LI),s.drop i=rest->i+rest.length=s.length->x8.1.drop j=a->j<=i->k<=8*i->rows.length=i ->
   lp (ZcO s r7 x8) ((k:Int),(j:Int),(i:Int),rows)=some (rows++(ZmK r7.1 k rest a).map Prod.snd):=by
 refine Zsl (P:=fun k rest a=>∀(i j:Nat) (rows:List LI),s.drop i=rest->i+rest.length=s.length->x8.1.drop j=a->j<=i->k<=8*i->rows.length=i ->
   lp (ZcO s r7 x8) ((k:Int),(j:Int),(i:Int),rows)=some (rows++(ZmK r7.1 k rest a).map Prod.snd)) ?_ ?_ ?_
 ·intro k i j rows hd hl ha hji hk hrl
  have hi:i=s.length:=by simpa using hl
  subst hi
  rw[ZY]
  simp only[ZcO,Zbh,cF,ZmK,List.map_nil,append_nil]
 ·intro k z rest a hz ih i j rows hd hl ha hji hk hrl
  rw[length_cons] at hl
  have hil:i<s.length:=by omega
  have hx:s[i]? = some z:=by
   have:=List.getElem?_drop (xs:=s) (i:=i) (j:=0)
   rw[hd] at this
   simpa using this.symm
  have hm:=mG hx
  have hd':s.drop (i+1)=rest:=by rw[<- List.drop_drop,hd];rfl
  obtain⟨_,c1,c8,_⟩:=Znd (ok z hm)
  have hcn:(Zbf z).1=((cN z:Nat):Int):=(toNat_of_nonneg (by omega)).symm
  have ht:=ZAE (x11:=Zbf z) hcn (by omega) (cN z) 0 k (by omega) (by omega)
  have ht':lp (ZeK (Zbf z)) ((k:Int),0,([]:LI))=_:=ht
  rw[ZY]
  simp only[ZcO,ZaW hil,cT,ZI hx,bS,ZmB,ZA9,hz,Bool.not_true,cF,ht',Zeg (show rows.length+1<=1073741824 by omega),Zw hil (by omega)]
  have:=ih (i+1) j (rows++[Zd1 k (cN z)]) hd' (by omega) ha (by omega) (by omega) (by rw[lA,length_singleton,hrl])
  rw[append_assoc] at this
  rw[ZtS hz]
  exact this
 ·intro k z rest x a hz ih i j rows hd hl ha hji hk hrl
  rw[length_cons] at hl
  have hil:i<s.length:=by omega
  have hx:s[i]? = some z:=by
   have:=List.getElem?_drop (xs:=s) (i:=i) (j:=0)
   rw[hd] at this
   simpa using this.symm
  have hm:=mG hx
  have hd':s.drop (i+1)=rest:=by rw[<- List.drop_drop,hd];rfl
  have hxj:x8.1[j]? = some x:=by
   have:=List.getElem?_drop (xs:=x8.1) (i:=j) (j:=0)
   rw[ha] at this
   simpa using this.symm
  have hxr:=hr x (mG hxj)
  have ha':x8.1.drop (j+1)=a:=by rw[<- List.drop_drop,ha];rfl
  rw[ZY]
  simp only[ZcO,ZaW hil,cT,ZI hx,bS,ZmB,ZA9,hz,Bool.not_false,ZI hxj,Zeg (show rows.length+1<=1073741824 by omega),Zw hil (by omega),Za0 (n:=(j:Int)+1) (by omega),Za0 (n:=r7.1+x) (by omega)]
  have:=ih (i+1) (j+1) (rows++[[r7.1+x]]) hd' (by omega) ha' (by omega) (by omega) (by rw[lA,length_singleton,hrl])
  rw[append_assoc] at this
  rw[ZtP hz]
  exact this
theorem ZAI {l:List Zj} (hl:l.length<=1000) (hz:∀d∈l,ZhV d) (b:Int):Zjp l b=some (Zka l b):=by
 unfold Zjp Zka
 by_cases h8:8<(l.length:Int)
 ·rw[dT h8];rfl
 rw[dF h8,cF,Bool.false_or]
 by_cases b1:b<1
 ·rw[dT b1];rfl
 rw[dF b1,cF,Bool.false_or]
 by_cases b8:8<b
 ·rw[dT b8];rfl
 rw[dF b8,cF,cF]
 have hsl:(shL l).length<=8:=by unfold shL;rw[length_map];omega
 rw[Zvl hz]
 rcases Zxh hl hz with⟨f1,f2⟩ | ⟨f1,y,f2⟩
 ·rw[f2,bS]
  dsimp only
  rcases ZAd hsl with⟨g1,g2⟩ | ⟨g1,y,g2⟩
  ·have he:shE l=0:=by unfold shE;rw[f1];exact g1
   have ok:=ZAX he
   rw[g2,he,bS]
   simp only[beq_self_eq_true,cT]
   unfold ZnL
   by_cases hu:b<(Zag (shL l):Int)
   ·have hb:Nat.ble (Zag (shL l)) b.toNat=false:=by
     cases hq:Nat.ble (Zag (shL l)) b.toNat with
     | false=>rfl
     | true=>have:=Nat.le_of_ble_eq_true hq;omega
    rw[dT hu,hb];rfl
   ·rw[dF hu,cF,Nat.ble_eq_true_of_le (show Zag (shL l)<=b.toNat by omega),cT]
    have hll:(Zap (shL l)).length<=8:=le_trans (List.length_filter_le _ _) hsl
    obtain⟨_,o2⟩:=ZAB (l:=Zap (shL l)) (by omega)
    have hw:w64 (b-(Zag (shL l):Int))=((b.toNat-Zag (shL l):Nat):Int):=by rw[Za0 (by omega)];omega
    have hc8:Zim ((b.toNat-Zag (shL l):Nat):Int)=true:=by unfold Zim;rw[dT (by omega),dT (by omega)];rfl
    rw[hw,ZyT _ (by omega) o2,Zl6 hsl ok,hc8,toNat_natCast]
    simp only[Bool.and_self,cT,bS]
    rw[show Zhg (Zap (shL l)) (b.toNat-Zag (shL l)) (ZHz (Zap (shL l))) (List.replicate (Zap (shL l)).length (-1))=ZoE (Zap (shL l)) (b.toNat-Zag (shL l)) from rfl]
    cases hp:ZoE (Zap (shL l)) (b.toNat-Zag (shL l)) with
    | none=>rfl
    | some a=>
     obtain⟨R,hal⟩:=ZwI (show(Zap (shL l)).length<=1000 by omega) (Zl6 hsl ok) (by omega) hp
     have hrows:=ZAQ (r7:=((Zag (shL l):Int),Zap (shL l))) (x8:=(a,0)) hsl ok (by dsimp only;omega) (fun x hx=>by have:=R.ok x hx;omega) (shL l) 0 a hal 0 0 [] rfl (by simp) rfl (Nat.le_refl _) (by omega) rfl
     have hadd:(ZmK (Zag (shL l):Int) 0 (shL l) a).map Prod.snd=ZlT (Zag (shL l):Int) (shL l) (Zc3 0 (shL l)) a:=by
      rw[<- ZE6 _ _ _ _ hal]
      exact List.map_snd_zip (by rw[ZoU,Znj];exact Nat.le_refl _)
     dsimp only at hrows ⊢
     rw[hadd,List.nil_append] at hrows
     rw[Zw6,cF,show lp (ZcO (shL l) ((Zag (shL l):Int),Zap (shL l)) (a,0)) (0,0,0,([]:List LI))=_ from hrows]
     rfl
  ·have he:shE l=Za1 (fun s=>(Zbf s).2) (shL l):=by unfold shE;rw[f1];rfl
   rw[g2,he,beq_eq_false_iff_ne.2 g1];rfl
 ·have he:shE l=Za1 (fun d=>(Znc d).2) l:=by unfold shE;rw[beq_eq_false_iff_ne.2 f1];rfl
  rw[f2,he,beq_eq_false_iff_ne.2 f1];rfl
theorem ZFf (x y:Zf):(!((x.total==y.total)&&((x.long==y.long)&&((x.most==y.most)&&((x.deadline==y.deadline)&&((x.period==y.period)&&true)))))) = !decide (x=y):=by
  rw[Bool.eq_iff_iff];cases x;cases y;simp
theorem Zz9 (a b:List Zf) (hl:a.length<9223372036854775808):Zkr a b=some (decide (a=b)):=by
  unfold Zkr
  by_cases he:a.length=b.length
  · have key := Zx1 a b he (ZgZ a b) (fun i x y hi hx hy => by
        simp only[ZgZ,ZaW hi,ZI hx,ZI hy,bS,Zw hi hl,cT,ZFf]
        cases decide (x=y)<;>rfl) (by simp only[ZgZ,Zbh];rfl)
    rw[key,show((a.length:Int) != (b.length:Int))=false by rw[he];simp]
    cases decide (a=b)<;>rfl
  · rw[show((a.length:Int) != (b.length:Int))=true by simp;omega,dF (fun h=>he (by rw[h]))]
    rfl
theorem ZtZ (p q:ZfM) (h1:p.shapes.length<=1000) (h2:p.cores.length<=1000) (h3:∀r∈p.cores,r.length<=1000):ZiG p q=some (decide (p=q)):=by
  unfold ZiG
  rw[Zz9 p.shapes q.shapes (by omega),bS]
  have hpq:p=q↔p.shapes=q.shapes/\p.cores=q.cores:=by cases p;cases q;simp
  by_cases hs:p.shapes=q.shapes
  · rw[dT hs,cT]
    by_cases he:p.cores.length=q.cores.length
    · have key := Zx1 p.cores q.cores he (Zg2 p q) (fun i x y hi hx hy => by
          have:=h3 x (mG hx)
          simp only[Zg2,ZaW hi,ZI hx,ZI hy,bS,ZHq x y (by omega),Zw hi (by omega),cT]
          cases decide (x=y)<;>rfl) (by simp only[Zg2,Zbh];rfl)
      rw[key,show((p.cores.length:Int) != (q.cores.length:Int))=false by rw[he];simp]
      by_cases hc:p.cores=q.cores
      · rw[dT hc,dT (hpq.2 ⟨hs,hc⟩)];rfl
      · rw[dF hc,dF fun e=>hc (hpq.1 e).2];rfl
    · rw[show((p.cores.length:Int) != (q.cores.length:Int))=true by simp;omega,dF fun e=>he (by rw[e])]
      rfl
  · rw[dF hs,dF fun e=>hs (by rw[e])];rfl
end Go.Proofs.YtmnglncebfabpaaGreatDoor
