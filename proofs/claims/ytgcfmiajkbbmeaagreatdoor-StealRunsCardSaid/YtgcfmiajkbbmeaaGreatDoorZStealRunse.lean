/- StealRuns: part 5 of 5 of the proof: the row and the card of the law, out of what the evaluator says of it; without conditions. -/
import Derived.Test.YtgcfmiajkbbmeaaGreatDoorZStealRunsd
import Derived.KernelRfl
import Derived.Test.YtgcfmiajkbbmeaaGreatDoorRows
import Derived.Test.YtgcfmiajkbbmeaaGreatDoorCards
import Derived.Test.YtgcfmiajkbbmeaaGreatDoorTie
import Derived.WalkKit
import Derived.ProofKit
import Derived.OpenShut
import Derived.ShutString
import Derived.ChangeOld
import Derived.Below
import Derived.SizedLaws
import Derived.Handed
import Derived.LaidMore
import Derived.Stop.Joined
import Derived.ChangeShapes
import Derived.Carry
import Derived.SevenTiedAt
set_option maxRecDepth 100000
set_option maxHeartbeats 40000000
set_option linter.unusedVariables false
set_option linter.unusedSimpArgs false
namespace Go.Proofs.YtgcfmiajkbbmeaaGreatDoor
open Go Go.Proofs.YtgcfmiajkbbmeaaGreatDoorE
open Go.IntKind (u64 i64 u32 i32 u8)
open Nat (le_trans zero_add mod_lt mod_eq_of_lt)
open Int (toNat_of_nonneg le_refl toNat_natCast)
open List (length_take length_drop length_map length_set length_cons length_replicate length_singleton getElem_mem drop_zero mem_singleton any_eq_true sum_cons set_set)
section
def Zfk (g:Zl) (need:List Int) (c:Int):Bool:=((need.length:Int)==(g.work.length:Int))&&(!(need.any fun n=>decide (n<1) || decide (1000<n))&&(decide (1<=c)&&decide (c<=8)))
noncomputable def Zen (g:Zl) (need:List Int) (c:Int):Int:=bif Zaa g==0 then (bif Zfk g need c then 0 else 100) else Zaa g
theorem Zqg (n:Int):ZbF n=some (decide (n<1) || decide (1000<n)):=by
  unfold ZbF
  cases decide (n<1)<;>cases decide (1000<n)<;>rfl
theorem ZrM {g:Zl} (hs:Zfj g) (need:List Int) (c:Int):ZfK g need c=some (bif Zaa g==0 then Zfk g need c else false,Zaa g):=by
  unfold ZfK Zfk
  rw[ZiX g hs,bS]
  by_cases h:Zaa g=0
  · rw[h]
    simp only[show((0:Int) != 0)=false from rfl,beq_self_eq_true,cF,cT]
    by_cases hl:(need.length:Int)=(g.work.length:Int)
    · have hw:=(Zap h).1.wl
      rw[show((need.length:Int)==(g.work.length:Int))=true from beq_iff_eq.2 hl,ZfO need _ (fun n=>decide (n<1) || decide (1000<n)) (fun n _=>Zqg n) (by omega),bS]
      cases (need.any fun n=>decide (n<1) || decide (1000<n))<;>cases decide (1<=c)<;>cases decide (c<=8)<;>rfl
    · rw[show((need.length:Int)==(g.work.length:Int))=false from beq_eq_false_iff_ne.2 hl]
      rfl
  · rw[show(Zaa g != 0)=true by simpa using h,show(Zaa g==0)=false from beq_eq_false_iff_ne.2 h]
    rfl
structure Zp5 (g:Zl) (need:List Int) (c:Int):Prop where
  ck:Zaa g=0
  nl:need.length=g.work.length
  rng:∀x∈need,1<=x/\x<=1000
  c1:1<=c
  c8:c<=8
theorem Zja {g:Zl}{need:List Int}{c:Int}:Zen g need c=0↔Zp5 g need c:=by
  unfold Zen
  constructor
  · intro h
    by_cases h1:Zaa g=0
    · rw[h1] at h
      cases h2:Zfk g need c with
      | false=>rw[h2] at h;exact absurd h (by decide)
      | true=>
        unfold Zfk at h2
        simp only[aT,Bool.not_eq_true',beq_iff_eq,decide_eq_true_eq,List.any_eq_false,Bool.or_eq_true,not_or] at h2
        refine⟨h1,by omega,fun x hx=>?_,h2.2.2.1,h2.2.2.2⟩
        have:=h2.2.1 x hx
        omega
    · rw[show(Zaa g==0)=false from beq_eq_false_iff_ne.2 h1] at h
      exact absurd h h1
  · intro h
    have:Zfk g need c=true:=by
      unfold Zfk
      simp only[aT,Bool.not_eq_true',beq_iff_eq,decide_eq_true_eq,List.any_eq_false,Bool.or_eq_true,not_or]
      exact⟨by rw[h.nl],fun x hx=>by have:=h.rng x hx;omega,h.c1,h.c8⟩
    rw[h.ck,this];rfl
theorem ZAA (need:List Int) (h:need.length<=64):ZfE need=some (List.replicate need.length (-1)):=by
  have key:=ZjZ (S:=List Int) need (Zbc need) (fun i s=>((i:Int),s)) (fun i s _=>s.set i (-1)) (fun s=>s) (fun i s=>s.length=need.length/\∀j,j<i->s[j]? = some (-1)) (fun i x s hi hx hI=>by
    have hy:=gE (show i<s.length by rw[hI.1];exact hi)
    refine⟨?_,by rw[length_set];exact hI.1,fun j hj=>?_⟩
    · simp only[Zbc,Zba hi,cT,Zn hy,bS,ZA hi (by omega),toNat_natCast]
    · rw[List.getElem?_set]
      by_cases e:i=j
      · subst e;rw[if_pos rfl,if_pos (by rw[hI.1];exact hi)]
      · rw[if_neg e];exact hI.2 j (by omega)) (fun s _=>by simp only[Zbc,Zbg];rfl) (List.replicate (need.length:Int).toNat 0) ⟨by simp,fun j hj=>by omega⟩
  obtain⟨k1,k2,k3⟩:=key
  have e:ZdY (fun i s (_:Int)=>s.set i (-1)) 0 (List.replicate (need.length:Int).toNat 0) need=List.replicate need.length (-1):=by
    apply List.ext_getElem?
    intro j
    by_cases hj:j<need.length
    · rw[k3 j hj,List.getElem?_replicate,if_pos hj]
    · rw[List.getElem?_eq_none (by omega),List.getElem?_eq_none (by simp;omega)]
  rw[e] at k1
  unfold ZfE
  rw[dT (show(0:Int)<=(need.length:Int) by omega),dT (show(need.length:Int)<=lim by show(need.length:Int)<=1073741824;omega),beq_self_eq_true]
  simp only[decide_true,Bool.and_true,cT]
  first
  | (rw[show(lp (Zbc need) (0,List.replicate (need.length:Int).toNat 0))=_ from k1];rfl)
  | simp only[show(lp (Zbc need) (0,List.replicate (need.length:Int).toNat 0))=_ from k1,bS]
theorem Zqj {g:Zl} (hs:Zfj g) (need:List Int) (c:Int):ZfN g need c ([]:List (List Int))=some (Zen g need c):=by
  unfold ZfN Zjr
  rw[ZrM hs,bS]
  dsimp only
  have hn:=@Zja g need c
  unfold Zen at hn ⊢
  by_cases h:Zaa g=0
  · rw[h] at hn ⊢
    simp only[beq_self_eq_true,cT] at hn ⊢
    cases h2:Zfk g need c with
    | false=>rfl
    | true=>
      rw[h2] at hn
      have hin:=hn.1 rfl
      have hw:=(Zap h).1.wl
      have hnl:=hin.nl
      rw[cT,show((0:Int) != 0)=false from rfl,cF]
      rw[show decide ((4096:Int)<(([]:List (List Int)).length:Int))=false from rfl,cF]
      have h0:Zao ([]:List (List Int)) (fun z0=>Zc5 z0 c)=some false:=by
        unfold Zao Zbf
        rw[ZaD]
        rfl
      rw[h0,bS,cF,ZAA need (by omega),bS,ZaD]
      rfl
  · rw[show(Zaa g==0)=false from beq_eq_false_iff_ne.2 h]
    simp only[cF,show(Zaa g != 0)=true by simpa using h,cT]
    rfl
theorem ZjW {S R:Type}{c:Nat} (step:Int×S->Option ((Int×S)⊕R)) (f:Nat->S) (fin:S->R) (h1:∀i,i<c->step ((i:Int),f i)=some (.inl (((i+1:Nat):Int),f (i+1)))) (h2:step ((c:Int),f c)=some (.inr (fin (f c)))):lp step (0,f 0)=some (fin (f c)):=by
  have key:∀(k i:Nat),i+k=c->lp step ((i:Int),f i)=some (fin (f c)):=by
    intro k
    induction k with
    | zero => intro i hi; have : i = c := by omega
              subst this;rw[ZaD,h2]
    | succ k ih=>intro i hi;rw[ZaD,h1 i (by omega)];exact ih (i+1) (by omega)
  exact key c 0 (by omega)
theorem Zhq {α:Type} (i:Nat) (x:α):List.replicate i x++[x]=List.replicate (i+1) x:=by rw[List.replicate_succ']
theorem Znt {g:Zl} (hs:Zfj g) (need:List Int) (c:Int):Zjs g need c=some (bif Zen g need c==0 then .inr (List.replicate c.toNat (-1)) else .inl (Zen g need c)):=by
  unfold Zjs
  rw[Zqj hs,bS]
  by_cases h:Zen g need c=0
  · have hin:=Zja.1 h
    have hw:=(Zap hin.ck).1.wl
    have hnl:=hin.nl
    have c1:=hin.c1
    have c8:=hin.c8
    have hc:c=((c.toNat:Nat):Int):=by omega
    rw[h,show((0:Int) != 0)=false from rfl,cF,Zjh (show need.length<=1073741824 by omega),bS]
    have key:=ZjW (c:=c.toNat) (ZdO c) (fun i=>List.replicate i (-1)) (fun s=>s) (fun i hi=>by
      simp only[ZdO,dT (show(i:Int)<c by omega),cT,length_replicate,ZaR (show i+1<=1073741824 by omega),Zhq]
      rw[ZbN (by omega)];rfl) (by
      simp only[ZdO,dF (show ¬((c.toNat:Nat):Int)<c by omega)];rfl)
    rw[show(lp (ZdO c) (0,([]:List Int)))=_ from key]
    rfl
  · rw[show(Zen g need c != 0)=true by simpa using h,show(Zen g need c==0)=false from beq_eq_false_iff_ne.2 h]
    rfl
def dq0:Za:=⟨List.replicate 64 0,0,0⟩
theorem ZpY:ZhT 64=some (dq0,0):=by
  obtain⟨k,hk⟩:=Zyw
  unfold ZhT
  rw[hk,bS]
  rfl
def tk0:Zb:=⟨false,0,0,0,0,0⟩
theorem Zr6 {α:Type}{n i:Nat}{x y:α} (h:(List.replicate n x)[i]? = some y):y=x:=by
  rw[List.getElem?_replicate] at h
  split at h
  · exact(Option.some.inj h).symm
  · cases h
theorem ZqY {g:Zl}{need:List Int}{c:Int} (hin:Zp5 g need c):∃ds,ZcG g need c=some (.inr (List.replicate c.toNat (-1),ds))/\Zst g c.toNat need (List.replicate c.toNat (-1)) ds (List.replicate c.toNat tk0) (List.replicate c.toNat 0):=by
  have hc0:=hin.ck
  obtain⟨hG,hA⟩:=Zap hc0
  have hw:=hG.wl
  have hnl:=hin.nl
  have c1:=hin.c1
  have c8:=hin.c8
  generalize hm:c.toNat=m
  have hc:c=(m:Int):=by omega
  subst hc
  have cr:ZcY g need (List.replicate m (-1)):=⟨hnl,by rw[length_replicate];omega,by rw[length_replicate];omega,ZoW m hin.rng⟩
  have k0:=ZjW (c:=m) (ZaN (m:Int)) (fun i=>List.replicate i dq0) (fun s=>s) (fun i hi=>by
    simp only[ZaN,Zba hi,cT,ZpY,bS,length_replicate,ZaR (show i+1<=1073741824 by omega),Zhq]
    rw[ZbN (by omega)];rfl) (by simp only[ZaN,Zbg];rfl)
  have k0:lp (ZaN (m:Int)) (0,([]:List Za))=some (List.replicate m dq0):=k0
  have vO:∀(ds:List Za) i,i<m->(vw (List.replicate m (-1)) ds (List.replicate m tk0) (List.replicate m 0)).O i = -1:=fun ds i hi=>Zlr _ ds _ _ (by rw[List.getElem?_replicate,if_pos hi])
  have va:∀(ds:List Za) i,(vw (List.replicate m (-1)) ds (List.replicate m tk0) (List.replicate m 0)).a i=0:=fun ds i=>by
    show gt _ _ _ _=_
    unfold gt
    rw[List.getElem?_replicate]
    split
    · rename_i h;split at h
      · cases h;rfl
      · cases h
    · rfl
  have P0:PG m (fun _=>False) (List.replicate m (-1)) (List.replicate m dq0) (List.replicate m tk0) (List.replicate m 0):=by
    have hx:∀i,i<m->(List.replicate m dq0)[i]? = some dq0:=fun i hi=>by rw[List.getElem?_replicate,if_pos hi]
    have ht:∀i,i<m->(List.replicate m tk0)[i]? = some tk0:=fun i hi=>by rw[List.getElem?_replicate,if_pos hi]
    have hf:∀i,i<m->(List.replicate m (0:Int))[i]? = some 0:=fun i hi=>by rw[List.getElem?_replicate,if_pos hi]
    refine⟨by simp,fun d hd=>by rw[(List.mem_replicate.1 hd).2];rfl,⟨fun i hi=>?_,⟨fun i k hk=>?_,fun i k i' k' h1=>?_,fun n hn=>hn.elim⟩⟩,fun i _=>va _ i⟩
    · have e1:(vw (List.replicate m (-1)) (List.replicate m dq0) (List.replicate m tk0) (List.replicate m 0)).T i=0:=ZI (hx i hi)
      have e2:(vw (List.replicate m (-1)) (List.replicate m dq0) (List.replicate m tk0) (List.replicate m 0)).B i=0:=ZI (hx i hi)
      have e3:(vw (List.replicate m (-1)) (List.replicate m dq0) (List.replicate m tk0) (List.replicate m 0)).x i=0:=ZI (ht i hi)
      have e4:(vw (List.replicate m (-1)) (List.replicate m dq0) (List.replicate m tk0) (List.replicate m 0)).y i=0:=ZI (ht i hi)
      have e5:(vw (List.replicate m (-1)) (List.replicate m dq0) (List.replicate m tk0) (List.replicate m 0)).F i=0:=ZI (hf i hi)
      exact Pos.still (va _ i) (by omega) (fun _=>e5) (by omega) (by omega) (by omega) (by omega) (by omega)
    · obtain⟨hi,h1,h2⟩:=hk
      have e1:(vw (List.replicate m (-1)) (List.replicate m dq0) (List.replicate m tk0) (List.replicate m 0)).T i=0:=ZI (hx i hi)
      have e2:(vw (List.replicate m (-1)) (List.replicate m dq0) (List.replicate m tk0) (List.replicate m 0)).B i=0:=ZI (hx i hi)
      have a0:=va (List.replicate m dq0) i
      unfold Zf.lo at h1
      unfold Zf.be at h2
      rw[if_neg (by omega)] at h1 h2
      omega
    · obtain⟨hi,h1,h2⟩:=h1
      have e1:(vw (List.replicate m (-1)) (List.replicate m dq0) (List.replicate m tk0) (List.replicate m 0)).T i=0:=ZI (hx i hi)
      have e2:(vw (List.replicate m (-1)) (List.replicate m dq0) (List.replicate m tk0) (List.replicate m 0)).B i=0:=ZI (hx i hi)
      have a0:=va (List.replicate m dq0) i
      unfold Zf.lo at h1
      unfold Zf.be at h2
      rw[if_neg (by omega)] at h1 h2
      omega
  have hB0:∀i,i<m->(vw (List.replicate m (-1)) (List.replicate m dq0) (List.replicate m tk0) (List.replicate m 0)).B i=0:=fun i hi=>ZI (show(List.replicate m dq0)[i]? = some dq0 by rw[List.getElem?_replicate,if_pos hi])
  generalize hR:ZaS g.edges need (List.replicate m (-1))=R
  have hRn:R.Nodup:=by rw[<- hR];exact ZrR _ _ _
  have hRm:∀z,z∈R↔Rdy g.edges need (List.replicate m (-1)) z:=fun z=>by rw[<- hR];exact ZoC cr
  have hRl:R.length<=64:=by rw[<- hR];exact le_trans (ZeF _ _ _) (by omega)
  have hRf:R.length<=Zks g.edges need:=by
    unfold Zks
    refine Zh6 _ _ hRn fun x hx=>?_
    have:=(hRm x).1 hx
    exact Zfe.2 ⟨this.1.1,this.1.2,by rw[toNat_of_nonneg this.1.1];exact Zb7.2 this.2.2.2⟩
  have loop:∀(k i:Nat) (ds:List Za),i+k=R.length->PG m (fun x=>x∈R.take i) (List.replicate m (-1)) ds (List.replicate m tk0) (List.replicate m 0)->(∀j,j<m->(vw (List.replicate m (-1)) ds (List.replicate m tk0) (List.replicate m 0)).B j<=(i:Int)) ->
      ∃ds',lp (Za1 (m:Int) R) ((i:Int),ds)=some ds'/\PG m (fun x=>x∈R) (List.replicate m (-1)) ds' (List.replicate m tk0) (List.replicate m 0)/\∀j,j<m->(vw (List.replicate m (-1)) ds' (List.replicate m tk0) (List.replicate m 0)).B j<=(R.length:Int):=by
    intro k
    induction k with
    | zero=>
      intro i ds hi P hB
      have hi:i=R.length:=by omega
      subst hi
      rw[List.take_length] at P
      refine⟨ds,?_,P,hB⟩
      rw[ZaD]
      simp only[Za1,Zbg,cF]
    | succ k ih=>
      intro i ds hi P hB
      have hi':i<R.length:=by omega
      have hx:=gE hi'
      generalize hn:R[i]=n at hx
      have hnR:n∈R:=by rw[<- hn];exact getElem_mem _
      have hr:=(hRm n).1 hnR
      have h0:=hr.1.1
      have hcm:Int.tmod n (m:Int)=((n.toNat % m:Nat):Int):=by
        rw[Int.tmod_eq_emod_of_nonneg h0,Int.natCast_emod,toNat_of_nonneg h0]
      have hlt:n.toNat % m<m:=mod_lt _ (by omega)
      obtain⟨ds1,e1,e2,e3⟩:=ZyJ (n:=n) P hlt (by omega) (by have:=hB _ hlt;omega) (fun hm'=>by
        obtain⟨j,hj⟩:=List.getElem?_of_mem hm'
        have hjl:=(gQ hj).1
        rw[length_take] at hjl
        rw[List.getElem?_take,if_pos (by omega)] at hj
        have:=Zrf hRn hj hx
        omega) (fun j hj=>by rw[vO _ j hj];omega)
      have htk:R.take (i+1)=R.take i++[n]:=by rw[List.take_add_one,hx];rfl
      obtain⟨ds',q1,q2,q3⟩:=ih (i+1) ds1 (by omega) ⟨e2.dl,e2.ring,e2.inv.congr fun x=>by rw[htk,List.mem_append,mem_singleton],e2.a0⟩ (fun j hj=>by
        rw[e3 j]
        have:=hB j hj
        split
        · rename_i e;subst e;omega
        · omega)
      refine⟨ds',?_,q2,q3⟩
      rw[ZaD]
      simp only[Za1,Zba hi',cT,Zn hx,bS,show((m:Int)==0)=false from beq_eq_false_iff_ne.2 (by omega),cF,hcm,e1,ZA hi' (show R.length<9223372036854775808 by omega)]
      exact q1
  obtain⟨ds',q1,q2,q3⟩:=loop R.length 0 (List.replicate m dq0) (by omega) ⟨P0.dl,P0.ring,P0.inv.congr fun x=>by rw[List.take_zero];simp,P0.a0⟩ (fun j hj=>by rw[hB0 j hj];exact le_refl _)
  have hbase:∀n,n∈R↔base g.edges need n:=fun n=>by
    rw[hRm]
    constructor
    · intro h;exact⟨h.1,h.2.1,h.2.2.2⟩
    · intro h
      refine⟨h.1,h.2.1,fun hm'=>?_,h.2.2⟩
      have:=(List.mem_replicate.1 hm').2
      have:=h.1.1
      omega
  refine⟨ds',?_,⟨⟨cr,by simp,q2.dl,by simp,by simp,q2.ring,fun t ht=>by rw[(List.mem_replicate.1 ht).2];rfl,fun f hf=>by rw[(List.mem_replicate.1 hf).2];exact le_refl _,fun i t f ht hf=>?_,fun i n t hi hn ht=>?_,q2.inv.congr hbase⟩,fun i hi=>?_⟩⟩
  · unfold ZcG
    rw[Znt hG.short,Zja.2 hin]
    simp only[beq_self_eq_true,cT,bS]
    rw[dT (show(0:Int)<=(m:Int) by omega),dT (show(m:Int)<=lim by show(m:Int)<=1073741824;omega)]
    simp only[decide_true,Bool.and_true,cT,k0,bS,toNat_natCast,Zky hc0 cr,hR]
    rw[show(lp (Za1 (m:Int) R) (0,List.replicate m dq0))=_ from q1]
    rfl
  · rw[Zr6 ht,Zr6 hf];rfl
  · exact Zr6 ht
  · rw[(q2.be hi).1]
    have:=q3 i hi
    omega
section
variable {g:Zl} {m:Nat} {left on fs:List Int} {ds:List Za} {ts:List Zb}
theorem ZsE (G:GangIn g m left on ds ts fs) {i:Nat}{d:Za} (hd:ds[i]? = some d):Zjm d:=by
  have hi:i<m:=by rw[<- G.dl];exact(gQ hd).1
  have p:=G.inv.pos i hi
  have qT:(vw on ds ts fs).T i=d.top:=ZI hd
  have qB:(vw on ds ts fs).B i=d.bottom:=ZI hd
  have hbe:(vw on ds ts fs).be i=d.bottom∨(vw on ds ts fs).be i=d.bottom+1:=by
    unfold Zf.be
    split
    · right;rw[qB]
    · left;rw[qB]
  have h0:=p.T0
  have h1:=p.TB
  have h2:=p.B64
  rw[qT] at h0 h1
  exact⟨G.ring d (mG hd),h0,by omega,by rcases hbe with e | e<;>omega,by rcases hbe with e | e<;>omega⟩
end
end
section
section
variable {g:Zl} {m:Nat} {left on fs:List Int} {ds:List Za} {ts:List Zb}
theorem ZuA {on' fs':List Int}{ds':List Za}{ts':List Zb} (G:GangIn g m left on ds ts fs) (G':GangIn g m left on' ds' ts' fs') (hw:∀c,¬Zc9 m (vw on' ds' ts' fs') c) (K:Zp0 m on on' ds ds' ts ts' fs fs'):Zgq g.edges left on on':=by
  refine⟨by rw[G'.ol,G.ol],fun c n h hn=>K.row c n h hn,fun c n h1 h2=>?_,G'.crew.ok.one,(Zs6 G' hw).2⟩
  rcases G'.crew.ok.run n (mG h2) with h | ⟨h3,h4,h5⟩
  · exact .inl h
  · refine .inr ⟨h3,h4,fun hm=>?_,h5⟩
    have hne:n ≠ -1:=by have:=h3.1;omega
    obtain⟨j,hj⟩:=List.getElem?_of_mem hm
    have:=G'.crew.ok.one j c n (K.row j n hj hne) h2 hne
    subst this
    rw[h1] at hj
    exact hne (Option.some.inj hj).symm
end
theorem ZrF:∀(l:List Int),(∀x∈l,0<=x/\x<=1000)->0<=l.sum/\l.sum<=1000*(l.length:Int)
  | [],_=>by simp
  | x :: l,h=>by
    have:=ZrF l fun y hy=>h y (by simp[hy])
    have:=h x (by simp)
    rw[sum_cons,length_cons]
    omega
theorem Zqu {l:List Int}{i:Nat}{x:Int} (h:l[i]? = some x):(l.take (i+1)).sum=(l.take i).sum+x:=by
  rw[List.take_add_one,h,List.sum_append]
  simp
theorem Znd {need:List Int} (hr:∀x∈need,0<=x/\x<=1000) (hl:need.length<=64) (step:Int×Int->Option ((Int×Int)⊕Int)) (h1:∀(i:Nat) (s x:Int),i<need.length->need[i]? = some x->step (s,(i:Int))=some (.inl (w64 (s+x),w64 ((i:Int)+1)))) (h2:∀s,step (s,(need.length:Int))=some (.inr s)) :
    lp step (0,0)=some need.sum:=by
  have key:∀(k i:Nat),i+k=need.length->lp step ((need.take i).sum,(i:Int))=some need.sum:=by
    intro k
    induction k with
    | zero => intro i hi; have : i = need.length := by omega
              subst this;rw[ZaD,h2,List.take_length]
    | succ k ih=>
      intro i hi
      have hi':i<need.length:=by omega
      have hx:=gE hi'
      have hsx:=hr _ (getElem_mem hi')
      have hs:=ZrF (need.take i) fun x hx=>hr x (List.mem_of_mem_take hx)
      rw[length_take] at hs
      rw[ZaD,h1 i _ _ hi' hx]
      dsimp only
      rw[ZbN (by omega),ZA hi' (by omega),<- Zqu hx]
      exact ih (i+1) (by omega)
  exact key need.length 0 (by omega)
theorem ZAi (left:List Int):(left.any fun x=>decide (0<x))=true↔∃n,isN left n/\0<lf left n:=by
  rw[any_eq_true]
  constructor
  · rintro ⟨x,hx,h⟩
    obtain⟨i,hi⟩:=List.getElem?_of_mem hx
    have hil:=(gQ hi).1
    exact⟨(i:Int),⟨by omega,by simpa using hil⟩,by rw[Zp2 hi];simpa using h⟩
  · rintro ⟨n,h1,h2⟩
    exact⟨lf left n,mG (Zkh h1.1 h1.2),by simpa using h2⟩
structure ZBc (g:Zl) (need:List Int) (m:Nat) (t:List (List Int)):Prop where
  done:∃left on,Sched g.edges need m t left on/\∀n,isN left n->lf left n=0
theorem ZsD {g:Zl} (hs:Zfj g) {need:List Int}{c:Int} (h:Zen g need c≠0):ZcG g need c=some (.inl (Zen g need c)):=by
  have h1:(Zen g need c==0)=false:=beq_eq_false_iff_ne.2 h
  have h2:(Zen g need c != 0)=true:=by simpa using h
  unfold ZcG
  rw[Znt hs,h1,bS,cF]
  simp only[h2,cT]
theorem Zyd {g:Zl} (hs:Zfj g) {need picks:List Int}{c:Int} (h:Zen g need c≠0):ZeW g need c picks=some ([],0,Zen g need c):=by
  have h2:(Zen g need c != 0)=true:=by simpa using h
  unfold ZeW
  rw[ZsD hs h,bS]
  simp only[h2,cT]
end
def ZwS (a:Zl):Bool:=decide ((a.work.length:Int)<=70)&&decide ((a.edges.length:Int)<=300)
theorem ZCi (a:Zl):Zhv a=some (ZwS a):=by
 unfold Zhv ZwS
 cases decide ((a.work.length:Int)<=70)<;>cases decide ((a.edges.length:Int)<=300)<;>rfl
theorem ZvN {a:Zl} (h:ZwS a=true):a.work.length<=70/\a.edges.length<=300/\Zfj a:=by
 unfold ZwS at h
 simp only[aT,decide_eq_true_eq] at h
 refine⟨by omega,by omega,⟨by omega,by omega⟩⟩
theorem ZBj {a:Zl} (h:ZwS a=true):ZfY a=some ():=by
 obtain⟨h1,h2,_⟩:=ZvN h
 unfold ZfY
 rw[ZaR (by omega),ZaR (by omega)]
 rfl
theorem ZqI {l:List Int} (h:l.length<=1000):Zej l=some ():=by
 unfold Zej
 rw[ZaR (by omega)]
 rfl
theorem Zyc (need:List Int) (hl:need.length<=70):∃b,Zfg need=some b/\(b=true->(∀x∈need,0<=x)->need.sum<=300):=by
 have key:∀(k i:Nat) (s:Int),i+k=need.length->0<=s->s<=300->∃r,lp (ZbA need) (s,(i:Int))=some r/\(match r with | .inl _=>∃x∈need,x<0 | .inr (.inl _)=>True | .inr (.inr _)=>(need.drop i).sum<=s):=by
  intro k
  induction k with
  | zero=>
   intro i s hi h0 h1
   have:i=need.length:=by omega
   subst this
   refine⟨.inr (.inr ()),?_,by rw[List.drop_length];simpa using h0⟩
   rw[ZaD]
   simp only[ZbA,Zbg];rfl
  | succ k ih=>
   intro i s hi h0 h1
   have hi':i<need.length:=by omega
   have hx:=gE hi'
   generalize hn:need[i]=x at hx
   have hmem:x∈need:=by rw[<- hn];exact getElem_mem _
   have hdrop:need.drop i=x :: need.drop (i+1):=by rw[<- hn];exact List.drop_eq_getElem_cons hi'
   rw[ZaD]
   simp only[ZbA,Zba hi',cT,Zn hx,bS]
   by_cases hx0:x<0
   ·rw[dT hx0]
    exact⟨_,rfl,x,hmem,hx0⟩
   ·rw[dF hx0]
    by_cases hs:s<x
    ·rw[dT hs]
     exact⟨_,rfl,trivial⟩
    ·rw[dF hs,cF,cF,ZbN (by omega),ZA hi' (by omega)]
     obtain⟨r,h2,h3⟩:=ih (i+1) (s-x) (by omega) (by omega) (by omega)
     refine⟨r,h2,?_⟩
     rw[hdrop,sum_cons]
     match r,h3 with
     | .inl _,h3=>exact h3
     | .inr (.inl _),_=>exact trivial
     | .inr (.inr _),h3=>show x+(need.drop (i+1)).sum<=s;omega
 obtain⟨r,h1,h2⟩:=key need.length 0 300 (by omega) (by omega) (by omega)
 unfold Zfg
 rw[show(lp (ZbA need) (300,0))=_ from h1,bS]
 match r,h2 with
 | .inl _,⟨x,hx,hx0⟩=>exact⟨true,rfl,fun _ h=>by have:=h x hx;omega⟩
 | .inr (.inl _),_=>exact⟨false,rfl,fun h=>by cases h⟩
 | .inr (.inr _),h2=>exact⟨true,rfl,fun _ _=>by rw[drop_zero] at h2;exact h2⟩
theorem ZwM {xs:List D} (h:ZeM [.sl false [.int .i64],.sl true [.int .i64,.int .i64]] xs):∃d:Zl,D.agg xs=ZEM d/\ZCI d.work:=by
 obtain⟨_,_,rfl,h1,_,_,rfl,h2,rfl⟩:=h
 obtain⟨w,rfl,w1⟩:=ZuX h1
 obtain⟨l,rfl,b,p⟩:=Zz9 (f:=Za2) (p:=ZBR) h2 fun cs hc=>by
  obtain⟨_,_,rfl,⟨a,rfl,wa⟩,_,_,rfl,⟨b,rfl,wb⟩,rfl⟩:=hc
  exact⟨⟨a,b⟩,rfl,Zsa wa,Zsa wb⟩
 exact⟨⟨w,l⟩,rfl,w1⟩
theorem Zpa {xs:List D} (h:ZeM [.sl false [.int .i64]] xs):∃l,ZlC false xs=ZbL true l/\ZCI l:=by
 obtain⟨_,_,rfl,h1,rfl⟩:=h
 exact ZuX h1
structure ZBt (g:Zl) (need:List Int) (m:Nat) (t:List (List Int)):Prop where
 busy:(ZdU t:Int)=need.sum
 rows:∀row∈t,row.length=m
 short:t.length<=ZdU t
 one:m=1->ZdU t=t.length
theorem ZBc.all {g:Zl}{need:List Int}{c:Int}{t:List (List Int)} (hin:Zp5 g need c) (R:ZBc g need c.toNat t):ZBt g need c.toNat t:=by
 obtain⟨left,on,S,hz⟩:=R.done
 obtain⟨hG,hA⟩:=Zap hin.ck
 have hE:ZfI g.edges need.length:=by rw[hin.nl];exact Zie hG
 have hr:∀x∈need,1<=x/\x<=1000:=hin.rng
 have hs:=S.sum hr hE
 have h0:left.sum=0:=ZzQ fun x hx=>by
  obtain⟨i,hi⟩:=List.getElem?_of_mem hx
  have hil:=(gQ hi).1
  have:=hz (i:Int) ⟨by omega,by simpa using hil⟩
  rwa [Zp2 hi] at this
 have c1:=hin.c1
 refine⟨by omega,S.len.2.2,S.short hG hA hin.nl hr (by omega),fun hm=>?_⟩
 rw[hm] at S
 exact Zyn hG hA hin.nl hr S
theorem Zw5 {g:Zl} (hG:Zbj g) (b c:Int):Ze4 g b c=some (g.edges.any fun e=>e.src==b&&e.dst==c):=by
 have k:=ZdS g.edges (ZdG g b c) (fun _ e=>e.src==b&&e.dst==c) (fun _ _=>.inl ()) (.inr ()) (fun i x hi hx=>by
  simp only[ZdG,Zba hi,cT,Zn hx,bS,ZA hi hG.short.e]
  cases x.src==b<;>cases x.dst==c<;>rfl) (by simp only[ZdG,Zbg];rfl)
 unfold Ze4
 rw[k,ZbE,ZfX]
 cases g.edges.any fun e=>e.src==b&&e.dst==c<;>rfl
def Zkb (g:Zl) (n:Int):List Int:=((List.range g.work.length).filter fun i:Nat=>g.edges.any fun e=>e.src==(i:Int)&&e.dst==n).map fun i:Nat=>(i:Int)
theorem Zuc {g:Zl} (hG:Zbj g) (n:Int):ZfM g n=some (Zkb g n):=by
 have hw:=hG.wl
 unfold ZfM
 rw[Zjf (n:=g.work.length) (Zdb g n) (fun i:Nat=>g.edges.any fun e=>e.src==(i:Int)&&e.dst==n) (fun i out hi ho=>by
  simp only[Zdb,Zba hi,cT,Zw5 hG,bS,ZA hi (by omega),ZaR (show out.length+1<=1073741824 by omega)]
  cases g.edges.any fun e=>e.src==(i:Int)&&e.dst==n<;>rfl) (fun out=>by simp only[Zdb,Zbg];rfl)]
 rfl
theorem Zlo {g:Zl} (hG:Zbj g) {n z:Int}:z∈Zkb g n↔∃e∈g.edges,e.src=z/\e.dst=n:=by
 unfold Zkb
 rw[Zfe,any_eq_true]
 constructor
 ·rintro ⟨h0,h1,e,he,h2⟩
  simp only[aT,beq_iff_eq] at h2
  exact⟨e,he,by omega,h2.2⟩
 ·rintro ⟨e,he,h1,h2⟩
  have:=hG.src e he
  rw[h1] at this
  exact⟨this.1,this.2,e,he,by simp only[aT,beq_iff_eq];omega⟩
theorem ZuF (g:Zl) (n:Int):(Zkb g n).length<=g.work.length:=by
 unfold Zkb
 rw[length_map]
 exact le_trans (List.length_filter_le _ _) (by rw[List.length_range];exact Nat.le_refl _)
theorem Znl {g:Zl} (hG:Zbj g) {left on:List Int} (c:ZcY g left on) (n:Int):Zee g ⟨on,left⟩ n=some (ZhP g.edges left n):=by
 have hw:=hG.wl
 have hpl:=ZuF g n
 unfold Zee
 rw[Zuc hG,bS]
 have k:=ZdS (Zkb g n) (ZdI ⟨on,left⟩ (Zkb g n)) (fun _ x=>decide (0<lf left x)) (fun _ _=>.inl ()) (.inr ()) (fun i x hi hx=>by
  obtain⟨e,he,h1,h2⟩:=(Zlo hG).1 (mG hx)
  have hs:=hG.src e he
  rw[h1] at hs
  have hin:isN left x:=⟨hs.1,by rw[c.ll];exact hs.2⟩
  simp only[ZdI,Zba hi,cT,Zn hx,bS,Ztm hin,ZA hi (by omega)]
  cases decide (0<lf left x)<;>rfl) (by simp only[ZdI,Zbg];rfl)
 rw[k,ZbE,ZfX,bS]
 cases ha:(Zkb g n).any fun x=>decide (0<lf left x) with
 | true=>
  obtain⟨x,hx,h0⟩:=List.any_eq_true.1 ha
  obtain⟨e,he,h1,h2⟩:=(Zlo hG).1 hx
  have:ZhP g.edges left n=false:=by
   cases hf:ZhP g.edges left n with
   | false=>rfl
   | true=>
    have:=Zb7.1 hf e he h2
    rw[h1] at this
    rw[this] at h0
    exact absurd h0 (by decide)
  rw[this];rfl
 | false=>
  have:ZhP g.edges left n=true:=Zb7.2 fun e he hd=>by
   have h0:=List.any_eq_false.1 ha e.src ((Zlo hG).2 ⟨e,he,rfl,hd⟩)
   have:=(ZrH c.ok e.src).1
   have h0:¬0<lf left e.src:=by simpa using h0
   omega
  rw[this];rfl
theorem ZlZ {g:Zl} (hG:Zbj g) {left on:List Int} (c:ZcY g left on):ZcN g ⟨on,left⟩=some (ZaS g.edges left on):=by
 have hw:=hG.wl
 have ll:=c.ll
 have o8:=c.o8
 unfold ZcN
 rw[Zjf (n:=left.length) (Zdc g ⟨on,left⟩) (fun i:Nat=>!(lf left (i:Int)==0)&&(!(decide ((i:Int)∈on))&&ZhP g.edges left (i:Int))) (fun i out hi ho=>by
  have hin:isN left (i:Int):=⟨by omega,by simpa using hi⟩
  have h0:=(ZrH c.ok (i:Int)).1
  have e:decide (0<lf left (i:Int)) = !(lf left (i:Int)==0):=by
   by_cases h:lf left (i:Int)=0
   ·rw[h];rfl
   ·rw[dT (by omega),show(lf left (i:Int)==0)=false from beq_eq_false_iff_ne.2 h];rfl
  simp only[Zdc,Zba hi,cT,Ztm hin,bS,Zi3 on (i:Int) (by omega),ZgE,Znl hG c,ZA hi (by omega),ZaR (show out.length+1<=1073741824 by omega),e]
  cases lf left (i:Int)==0<;>cases decide ((i:Int)∈on)<;>cases ZhP g.edges left (i:Int)<;>rfl) (fun out=>by simp only[Zdc,Zbg];rfl)]
 rfl
theorem Zpm {n:Int} (h:n≠0):(n != 0)=true:=bne_iff_ne.2 h
theorem Zxx:∃k,Zf4 64=some (k,true):=by
 obtain⟨k,hk⟩:=ZAo 64
 have:=ZtX 64 (by omega)
 rw[show((64:Nat):Int)=64 from rfl] at this
 rw[this] at hk
 exact⟨k,hk⟩
theorem ZgG {d:Za} (h:Zjm d):Zv d=some true:=by
 obtain⟨k,hk⟩:=Zxx
 have:=h.t0;have:=h.t1;have:=h.b0;have:=h.b1
 unfold Zv ZgC
 rw[h.len,show((64:Nat):Int)=64 from rfl,hk,bS,ZbN (by omega),ZbN (by omega)]
 rw[dT (show(64:Int)<=64 by omega),dT (show 0<=d.top by omega),dT (show d.top<=1099511627775 by omega),dT (show d.top-1<=d.bottom by omega),dT (show d.bottom<=d.top+64 by omega)]
 rfl
theorem Zom {d:Za} (h:d.ring.length=64) (k:Int):ZeE d k=some (ZeG d.ring k):=by
 have hp:=(Zpe k).1
 unfold ZeE
 rw[h,show((64:Nat):Int)=64 from rfl,show((64:Int)==0)=false from rfl,cF,cF]
 by_cases hk:k<0
 ·rw[dT hk,cT] at hp
  rw[dT hk,cT,hp,Zhg h];rfl
 ·rw[dF hk,cF] at hp
  rw[dF hk,cF,hp,Zhg h];rfl
theorem Zws {d d':Za}{t t':Zb} (hd:Zjm d) (ht:Zut t) (h:Zad d t=some (d',t',0)) :
  (t.steal=true->Z8 d t=some (d',t'))/\(t.steal=false->Z7 d t=some (d',t')):=by
 have a0:=ht.a0;have a4:=ht.a4
 unfold Zad at h
 rw[ZgR hd,ZtT ht,ZkA hd.len] at h
 simp only[bS,show((0:Int) != 0)=false from rfl,cF,cT] at h
 constructor
 ·intro hs
  have a3:=ht.a3 hs
  rw[hs,cT] at h
  cases hx:ZaJ d.top d.bottom t.at_ t.top t.bottom t.got t.end_ d.ring with
  | none=>rw[hx] at h;cases h
  | some x=>
   rw[hx,bS] at h
   cases hc:ZaM ⟨d.ring,x.1,d.bottom⟩ with
   | none=>rw[hc] at h;cases h
   | some e=>
    rw[hc,bS] at h
    by_cases he:e=0
    ·subst he
     rw[show((0:Int) != 0)=false from rfl,cF] at h
     have h2:=Option.some.inj h
     have e1:(⟨d.ring,x.1,d.bottom⟩:Za)=d':=congrArg (·.1) h2
     have e2:(⟨true,x.2.1,x.2.2.1,x.2.2.2.1,x.2.2.2.2.1,x.2.2.2.2.2⟩:Zb)=t':=congrArg (·.2.1) h2
     subst e1;subst e2
     unfold ZaJ at hx
     unfold Z8
     rw[hs]
     by_cases q0:t.at_=0
     ·rw[q0] at hx ⊢
      cases Option.some.inj hx
      rfl
     by_cases q1:t.at_=1
     ·rw[q1] at hx ⊢
      simp only[show((1:Int)==0)=false from rfl,show((1:Int)==1)=true from rfl,cF,cT] at hx ⊢
      by_cases q:d.bottom<=t.top
      ·rw[dT q] at hx ⊢
       cases Option.some.inj hx;rfl
      ·rw[dF q] at hx ⊢
       cases Option.some.inj hx;rfl
     by_cases q2:t.at_=2
     ·rw[q2] at hx ⊢
      simp only[show((2:Int)==0)=false from rfl,show((2:Int)==1)=false from rfl,show((2:Int)==2)=true from rfl,cF,cT,ZgL (d:=⟨d.ring,d.top,d.bottom⟩) hd.len,bS,Zhg hd.len,Zom hd.len] at hx ⊢
      cases Option.some.inj hx;rfl
     ·rw[beq_eq_false_iff_ne.2 q0,beq_eq_false_iff_ne.2 q1,beq_eq_false_iff_ne.2 q2] at hx ⊢
      simp only[cF] at hx ⊢
      unfold ZbQ at hx
      by_cases q:d.top=t.top
      ·rw[show(d.top != t.top)=false by rw[q];exact bne_self_eq_false _] at hx
       rw[show(d.top==t.top)=true from beq_iff_eq.2 q]
       cases Option.some.inj hx;rfl
      ·rw[show(d.top != t.top)=true from bne_iff_ne.2 q] at hx
       rw[show(d.top==t.top)=false from beq_eq_false_iff_ne.2 q]
       cases Option.some.inj hx;rfl
    ·rw[Zpm he,cT] at h
     have h2:=Option.some.inj h
     exact absurd (congrArg (·.2.2) h2) he
 ·intro hs
  rw[hs,cF] at h
  cases hx:ZaT d.top d.bottom t.at_ t.top t.bottom t.got t.end_ d.ring with
  | none=>rw[hx] at h;cases h
  | some x=>
   rw[hx,bS] at h
   cases hc:ZaM ⟨d.ring,x.1,x.2.1⟩ with
   | none=>rw[hc] at h;cases h
   | some e=>
    rw[hc,bS] at h
    by_cases he:e=0
    ·subst he
     rw[show((0:Int) != 0)=false from rfl,cF] at h
     have h2:=Option.some.inj h
     have e1:(⟨d.ring,x.1,x.2.1⟩:Za)=d':=congrArg (·.1) h2
     have e2:(⟨false,x.2.2.1,x.2.2.2.1,x.2.2.2.2.1,x.2.2.2.2.2.1,x.2.2.2.2.2.2⟩:Zb)=t':=congrArg (·.2.1) h2
     subst e1;subst e2
     unfold ZaT at hx
     unfold Z7
     rw[hs]
     by_cases q0:t.at_=0
     ·rw[q0] at hx ⊢
      cases Option.some.inj hx
      rfl
     by_cases q1:t.at_=1
     ·rw[q1] at hx ⊢
      simp only[show((1:Int)==0)=false from rfl,show((1:Int)==1)=true from rfl,cF,cT] at hx ⊢
      by_cases q:d.top<t.bottom
      ·rw[dT q] at hx ⊢
       simp only[cT,ZgL (d:=⟨d.ring,d.top,d.bottom⟩) hd.len,bS,Zhg hd.len,Zom hd.len] at hx ⊢
       cases Option.some.inj hx;rfl
      ·rw[dF q] at hx ⊢
       simp only[cF] at hx ⊢
       cases hb:d.top==t.bottom with
       | true=>rw[hb] at hx;cases Option.some.inj hx;rfl
       | false=>rw[hb] at hx;cases Option.some.inj hx;rfl
     by_cases q2:t.at_=2
     ·rw[q2] at hx ⊢
      simp only[show((2:Int)==0)=false from rfl,show((2:Int)==1)=false from rfl,show((2:Int)==2)=true from rfl,cF,cT] at hx ⊢
      unfold ZbQ at hx
      by_cases q:d.top=t.top
      ·rw[show(d.top != t.top)=false by rw[q];exact bne_self_eq_false _] at hx
       rw[show(d.top==t.top)=true from beq_iff_eq.2 q]
       simp only[cF,cT,bS,ZgL (d:=⟨d.ring,w64 (d.top+1),d.bottom⟩) hd.len,Zhg hd.len,Zom (d:=⟨d.ring,w64 (d.top+1),d.bottom⟩) hd.len] at hx ⊢
       cases Option.some.inj hx;rfl
      ·rw[show(d.top != t.top)=true from bne_iff_ne.2 q] at hx
       rw[show(d.top==t.top)=false from beq_eq_false_iff_ne.2 q]
       cases Option.some.inj hx;rfl
     ·rw[beq_eq_false_iff_ne.2 q0,beq_eq_false_iff_ne.2 q1,beq_eq_false_iff_ne.2 q2] at hx ⊢
      simp only[cF] at hx ⊢
      by_cases q4:t.at_=4
      ·rw[q4] at hx ⊢
       cases Option.some.inj hx;rfl
      ·have q3:t.at_=3:=by omega
       rw[q3] at hx ⊢
       cases Option.some.inj hx;rfl
    ·rw[Zpm he,cT] at h
     have h2:=Option.some.inj h
     exact absurd (congrArg (·.2.2) h2) he
theorem ZsB {d d':Za}{t t':Zb} (hd:Zjm d) (ht:Zut t) (hd':Zjm d') (h:Zad d t=some (d',t',0)):Zdt d t=some (d',t',0):=by
 obtain⟨k1,k2⟩:=Zws hd ht h
 have a0:=ht.a0;have a4:=ht.a4;have rx:=ht.rx;have ry:=ht.ry
 unfold Zdt
 simp only[ZgG hd,bS,cT,dF (show ¬t.top < -1 by omega),dF (show ¬(1099511627775:Int)<t.top by omega),dF (show ¬t.bottom < -1 by omega),dF (show ¬(1099511627775:Int)<t.bottom by omega),cF,ht.en,show((0:Int) != 0)=false from rfl,dF (show ¬t.at_<0 by omega),dF (show ¬4<t.at_ by omega)]
 cases hs:t.steal with
 | true=>
  have a3:=ht.a3 hs
  simp only[cT,dF (show ¬3<t.at_ by omega),cF,k1 hs,bS,ZgG hd']
  cases decide (0<t.at_)<;>rfl
 | false=>
  simp only[cF,k2 hs,bS,ZgG hd',cT]
  cases decide (0<t.at_)<;>rfl
theorem ZDi {g:Zl}{m:Nat}{left on fs:List Int}{ds:List Za}{ts:List Zb} (G:GangIn g m left on ds ts fs) {c:Nat}{t:Zb} (hts:ts[c]? = some t):Zut t:=by
 have hc:c<m:=by rw[<- G.tl];exact(gQ hts).1
 have p:=G.inv.pos c hc
 obtain⟨f,hfs⟩:∃f,fs[c]? = some f:=⟨_,gE (by rw[G.fl];exact hc)⟩
 have qF:(vw on ds ts fs).F c=f.toNat:=ZI hfs
 have qa:(vw on ds ts fs).a c=t.at_:=ZI hts
 have qx:(vw on ds ts fs).x c=t.top:=ZI hts
 have qy:(vw on ds ts fs).y c=t.bottom:=ZI hts
 have h0:=G.f0 f (mG hfs)
 have hst:=G.st c t f hts hfs
 have pa0:=p.a0;have pa4:=p.a4;have pa3:=p.a3;have prx:=p.rx;have pry:=p.ry
 rw[qa] at pa0 pa4 pa3
 rw[qF] at pa3
 rw[qx] at prx
 rw[qy] at pry
 exact⟨G.en t (mG hts),pa0,pa4,fun hs=>pa3 (by
  rw[hst] at hs
  have:f≠0:=by simpa using hs
  omega),prx,pry⟩
theorem Zuv {α:Type}{l:List α}{i:Nat}{x:α} (h:l[i]? = some x):l.set i x=l:=by
 apply List.ext_getElem?
 intro j
 rw[List.getElem?_set]
 split
 ·rename_i e
  subst e
  rw[if_pos (gQ h).1,h]
 ·rfl
theorem ZAg {on left fs:List Int}{ds:List Za}{ts:List Zb}{v:Nat}{d d2:Za} (hl:ds.length<=1000) (h:ds[v]? = some d):Zav ⟨⟨on,left⟩,ds,ts,fs⟩ (v:Int) d2=some ⟨⟨on,left⟩,ds.set v d2,ts,fs⟩:=by
 unfold Zav
 rw[ZaR (show ds.length<=1073741824 by omega),cT,Zn h,bS,toNat_natCast]
theorem Zvv {on left fs:List Int}{ds:List Za}{ts:List Zb}{c:Nat}{t t2:Zb}{f f2:Int} (hl:ts.length<=1000) (hl2:fs.length<=1000) (h:ts[c]? = some t) (h2:fs[c]? = some f):Z5 ⟨⟨on,left⟩,ds,ts,fs⟩ (c:Int) t2 f2=some ⟨⟨on,left⟩,ds,ts.set c t2,fs.set c f2⟩:=by
 unfold Z5
 rw[ZaR (show ts.length<=1073741824 by omega),ZaR (show fs.length<=1073741824 by omega),cT,cT,Zn h,bS,Zn h2,bS,toNat_natCast]
theorem Zsz {g:Zl}{m c:Nat}{left on fs on' fs':List Int}{ds ds':List Za}{ts ts':List Zb} (h:Zaa g=0) (G:GangIn g m left on ds ts fs) (hc:c<m) (G':GangIn g m left on' ds' ts' fs')
  (hst:Z3 (c:Int) g.work g.edges on left ds ts fs=some (0,on',ds',ts',fs')):Zdq g ⟨⟨on,left⟩,ds,ts,fs⟩ (c:Int)=some (⟨⟨on',left⟩,ds',ts',fs'⟩,0):=by
 have hm:0<m:=by omega
 have h8:m<=8:=by rw[<- G.ol];exact G.crew.o8
 obtain⟨f,hfs⟩:∃f,fs[c]? = some f:=⟨_,gE (by rw[G.fl];exact hc)⟩
 obtain⟨t,hts⟩:∃t,ts[c]? = some t:=⟨_,gE (by rw[G.tl];exact hc)⟩
 have h0:=G.f0 f (mG hfs)
 have hf:f<(m:Int):=by
  have pF:=(G.inv.pos c hc).F
  have qF:(vw on ds ts fs).F c=f.toNat:=ZI hfs
  rw[qF] at pF
  omega
 have hvm:=Zm7 hm c f.toNat
 have hvd:vic m c f.toNat<ds.length:=by rw[G.dl];exact hvm
 obtain⟨d,hds⟩:∃d,ds[vic m c f.toNat]? = some d:=⟨_,gE hvd⟩
 have hd:=ZsE G hds
 have ht:=ZDi G hts
 have hvic:(vic m c f.toNat:Int)=if (m:Int)<=(c:Int)+f then (c:Int)+f-m else (c:Int)+f:=by
  unfold vic
  by_cases q:(m:Int)<=(c:Int)+f
  ·rw[if_pos q,Nat.mod_eq_sub_mod (by omega),mod_eq_of_lt (by omega)];omega
  ·rw[if_neg q,mod_eq_of_lt (by omega)];omega
 have hvt:=Zvb (m:=m) (c:=c) (f:=f) hm h8 hc h0 hf
 have hW:w64 ((c:Int)+f)=(c:Int)+f:=ZbN (by omega)
 have hol:=G.ol;have htl:=G.tl;have hfl:=G.fl;have hdl:=G.dl
 have hfs2:(fs.set c f)[c]? = some f:=by rw[Zuv hfs];exact hfs
 have one:∀(d2:Za) (t2:Zb),Zdt d t=some (d2,t2,0) ->
   (t2.end_=0->Zdq g ⟨⟨on,left⟩,ds,ts,fs⟩ (c:Int)=some (⟨⟨on,left⟩,ds.set (vic m c f.toNat) d2,ts.set c t2,fs⟩,0)) /\
   (t2.end_=2∨t2.end_=3->Zdq g ⟨⟨on,left⟩,ds,ts,fs⟩ (c:Int)=some (⟨⟨on,left⟩,ds.set (vic m c f.toNat) d2,ts.set c ⟨(((f.toNat+1) % m:Nat):Int) != 0,0,0,0,0,0⟩,fs.set c (((f.toNat+1) % m:Nat):Int)⟩,0)) /\
   (t2.end_=1->t2.got∈ZaS g.edges left on->Zdq g ⟨⟨on,left⟩,ds,ts,fs⟩ (c:Int)=some (⟨⟨on.set c t2.got,left⟩,ds.set (vic m c f.toNat) d2,ts.set c ⟨false,0,0,0,0,0⟩,fs.set c 0⟩,0)):=by
  intro d2 t2 hs
  have hw1:w64 (f+1)=f+1:=ZbN (by omega)
  have wD:=ZAg (on:=on) (left:=left) (fs:=fs) (ts:=ts) (d2:=d2) (show ds.length<=1000 by omega) hds
  have wT:=fun(t3:Zb) (f3:Int)=>Zvv (on:=on) (left:=left) (ds:=ds.set (vic m c f.toNat) d2) (t2:=t3) (f2:=f3) (show ts.length<=1000 by omega) (show fs.length<=1000 by omega) hts hfs
  have hts2:(ts.set c t2)[c]? = some t2:=by rw[List.getElem?_set,if_pos rfl,if_pos (by omega)]
  have wT2:=fun(t3:Zb) (f3:Int)=>Zvv (on:=on) (left:=left) (ds:=ds.set (vic m c f.toNat) d2) (ts:=ts.set c t2) (fs:=fs.set c f) (t2:=t3) (f2:=f3) (by rw[length_set];omega) (by rw[length_set];omega) hts2 hfs2
  simp only[set_set] at wT2
  have hon:=gE (show c<on.length by omega)
  have hrdy:=ZlZ (Zap h).1 G.crew
  have hmod:(((f.toNat+1) % m:Nat):Int)=if f+1=(m:Int) then 0 else f+1:=by
   by_cases q:f+1=(m:Int)
   ·rw[if_pos q,show f.toNat+1=m by omega,Nat.mod_self];rfl
   ·rw[if_neg q,mod_eq_of_lt (by omega)];omega
  unfold Zdq
  rw[Zn hfs,bS]
  dsimp only
  rw[hol,hW]
  by_cases q:(m:Int)<=(c:Int)+f
  ·rw[if_pos q] at hvic
   have hV:w64 ((c:Int)+f-(m:Int))=(vic m c f.toNat:Int):=by rw[ZbN (by omega),hvic]
   rw[dT q,cT,hV,Zn hds,bS,Zn hts,bS,hs,bS]
   simp only[show((0:Int) != 0)=false from rfl,cF,wD,wT,bS]
   refine⟨fun he=>?_,fun he=>?_,fun he hg=>?_⟩
   ·rw[he,show((0:Int)==0)=true from rfl,cT,Zuv hfs]
   ·have e0:(t2.end_==0)=false:=beq_eq_false_iff_ne.2 (by omega)
    have e1:(t2.end_ != 1)=true:=bne_iff_ne.2 (by omega)
    simp only[e0,e1,cF,cT,Zn hfs2,bS,hw1,wT2]
    by_cases qm:f+1=(m:Int)
    ·rw[if_pos qm] at hmod
     rw[beq_iff_eq.2 qm,cT,hmod];rfl
    ·rw[if_neg qm] at hmod
     rw[beq_eq_false_iff_ne.2 qm,cF,dT (show 0<f+1 by omega),cT,hmod,Zpm (show f+1≠0 by omega)]
   ·have e0:(t2.end_==0)=false:=beq_eq_false_iff_ne.2 (by omega)
    have e1:(t2.end_ != 1)=false:=by rw[he];rfl
    simp only[e0,e1,cF,hrdy,bS,Zi3 _ _ (show(ZaS g.edges left on).length<9223372036854775808 by have:=ZeF g.edges left on;have:=G.crew.ll;have:=(Zap h).1.wl;omega),ZgE,dT hg,cT,ZaR (show on.length<=1073741824 by omega),Zn hon]
    unfold Zbn
    rw[ZaR (show(ts.set c t2).length<=1073741824 by rw[length_set];omega),ZaR (show(fs.set c f).length<=1073741824 by rw[length_set];omega),cT,cT,Zn hts2,bS,Zn hfs2,bS,bS,toNat_natCast,set_set,set_set]
  ·rw[if_neg q] at hvic
   rw[dF q,cF,<- hvic,Zn hds,bS,Zn hts,bS,hs,bS]
   simp only[show((0:Int) != 0)=false from rfl,cF,wD,wT,bS]
   refine⟨fun he=>?_,fun he=>?_,fun he hg=>?_⟩
   ·rw[he,show((0:Int)==0)=true from rfl,cT,Zuv hfs]
   ·have e0:(t2.end_==0)=false:=beq_eq_false_iff_ne.2 (by omega)
    have e1:(t2.end_ != 1)=true:=bne_iff_ne.2 (by omega)
    simp only[e0,e1,cF,cT,Zn hfs2,bS,hw1,wT2]
    by_cases qm:f+1=(m:Int)
    ·rw[if_pos qm] at hmod
     rw[beq_iff_eq.2 qm,cT,hmod];rfl
    ·rw[if_neg qm] at hmod
     rw[beq_eq_false_iff_ne.2 qm,cF,dT (show 0<f+1 by omega),cT,hmod,Zpm (show f+1≠0 by omega)]
   ·have e0:(t2.end_==0)=false:=beq_eq_false_iff_ne.2 (by omega)
    have e1:(t2.end_ != 1)=false:=by rw[he];rfl
    simp only[e0,e1,cF,hrdy,bS,Zi3 _ _ (show(ZaS g.edges left on).length<9223372036854775808 by have:=ZeF g.edges left on;have:=G.crew.ll;have:=(Zap h).1.wl;omega),ZgE,dT hg,cT,ZaR (show on.length<=1073741824 by omega),Zn hon]
    unfold Zbn
    rw[ZaR (show(ts.set c t2).length<=1073741824 by rw[length_set];omega),ZaR (show(fs.set c f).length<=1073741824 by rw[length_set];omega),cT,cT,Zn hts2,bS,Zn hfs2,bS,bS,toNat_natCast,set_set,set_set]
 have hst0:=hst
 unfold Z3 at hst
 rw[Zn hfs,bS,hol,show((m:Int)==0)=false from beq_eq_false_iff_ne.2 (by omega),cF,hvt,Zn hds,bS,Zn hts,bS] at hst
 cases hD:Zad d t with
 | none=>rw[hD] at hst;cases hst
 | some x=>
  obtain⟨d2,t2,e⟩:=x
  rw[hD,bS] at hst
  by_cases he:e=0
  ·subst he
   have fin:ds'=ds.set (vic m c f.toNat) d2->Zdt d t=some (d2,t2,0):=fun e1=>by
    refine ZsB hd ht (ZsE G' (i:=vic m c f.toNat) ?_) hD
    rw[e1,List.getElem?_set,if_pos rfl,if_pos hvd]
   by_cases e1:t2.end_=1
   ·have hR:=Zky h G.crew
    have hRl:(ZaS g.edges left on).length<9223372036854775808:=by have:=ZeF g.edges left on;have:=G.crew.ll;have:=(Zap h).1.wl;omega
    by_cases hg:t2.got∈ZaS g.edges left on
    ·have:=ZqN (left:=left) hm h8 hc hol htl hfl h0 hf hfs hds hts hD e1 hR hRl hg
     rw[this] at hst0
     cases Option.some.inj hst0
     exact(one d2 t2 (fin rfl)).2.2 e1 hg
    ·simp only[e1,show((0:Int) != 0)=false from rfl,show((1:Int)==1)=true from rfl,cF,cT,hR,bS,Zf7 _ _ hRl,ZgE,dF hg] at hst
     have h2:=Option.some.inj hst
     exact absurd (show(130:Int)=0 from congrArg (·.1) h2) (by decide)
   ·by_cases e2:t2.end_=2∨t2.end_=3
    ·have:=ZoE (left:=left) (E:=g.edges) (work:=g.work) hm h8 hc hol htl hfl h0 hf hfs hds hts hD e2
     rw[this] at hst0
     cases Option.some.inj hst0
     exact(one d2 t2 (fin rfl)).2.1 e2
    ·have e0:t2.end_=0:=by
      simp only[show((0:Int) != 0)=false from rfl,show(t2.end_==1)=false from beq_eq_false_iff_ne.2 e1,show(t2.end_==2)=false from beq_eq_false_iff_ne.2 fun e=>e2 (.inl e),show(t2.end_==3)=false from beq_eq_false_iff_ne.2 fun e=>e2 (.inr e),cF,toNat_natCast] at hst
      have h2:=Option.some.inj hst
      have h3:ts.set c t2=ts':=congrArg (·.2.2.2.1) h2
      refine G'.en t2 ?_
      rw[<- h3]
      exact mG (i:=c) (by rw[List.getElem?_set,if_pos rfl,if_pos (by omega)])
     have:=Zq1 (left:=left) (E:=g.edges) (work:=g.work) hm h8 hc hol h0 hf hfs hds hts hD e0
     rw[this] at hst0
     cases Option.some.inj hst0
     exact(one d2 t2 (fin rfl)).1 e0
  ·dsimp only at hst
   rw[Zpm he,cT] at hst
   have h2:=Option.some.inj hst
   exact absurd (show(130:Int)=0 from congrArg (·.1) h2) (by decide)
section
theorem Zr5 {S R S' R':Type}{f:S->Option (S⊕R)}{g:S'->Option (S'⊕R')} (φ:S->S'->Prop) (ψ:R->R'->Prop)
  (h:∀s s',φ s s'->∀t,f s=some t->∃t',g s'=some t'/\(match t,t' with | .inl a,.inl b=>φ a b | .inr a,.inr b=>ψ a b | _,_=>False)) {s:S} {s':S'} {r:R} (h0:φ s s') (hr:lp f s=some r):∃r',lp g s'=some r'/\ψ r r':=by
 obtain⟨n,hn⟩:=Zvp hr
 clear hr
 induction n generalizing s s' r with
 | zero=>cases hn
 | succ n ih=>
  unfold lpN at hn
  cases hf:f s with
  | none=>rw[hf] at hn;cases hn
  | some t=>
   rw[hf] at hn
   obtain⟨t',g1,g2⟩:=h s s' h0 t hf
   cases t with
   | inl a=>
    cases t' with
    | inr b=>exact absurd g2 id
    | inl b=>
     obtain⟨r',q1,q2⟩:=ih g2 hn
     exact⟨r',by rw[ZxM g1];exact q1,q2⟩
   | inr a=>
    cases t' with
    | inl b=>exact absurd g2 id
    | inr b=>
     have e:some a=some r:=hn
     cases e
     exact⟨b,ZAK g1,g2⟩
theorem Zt3 {d:Za} (h:Zjm d):∃l,ZfS d=some l/\l.length=(d.bottom-d.top).toNat:=by
 have:=h.t0;have:=h.t1;have:=h.b0;have:=h.b1
 have hw:w64 (d.bottom-d.top)=d.bottom-d.top:=ZbN (by omega)
 have key:∀(k i:Nat) (out:List Int),i+k=(d.bottom-d.top).toNat->out.length=i->∃r,lp (Zb2 d) ((i:Int),out)=some r/\r.length=(d.bottom-d.top).toNat:=by
  intro k
  induction k with
  | zero=>
   intro i out hi ho
   rw[ZaD]
   simp only[Zb2,hw,dF (show ¬(i:Int)<d.bottom-d.top by omega),cF]
   exact⟨out,rfl,by omega⟩
  | succ k ih=>
   intro i out hi ho
   rw[ZaD]
   simp only[Zb2,hw,dT (show(i:Int)<d.bottom-d.top by omega),cT,Zom h.len,bS,ZaR (show out.length+1<=1073741824 by omega),ZbN (n:=(i:Int)+1) (by omega)]
   exact ih (i+1) _ (by omega) (by rw[lA,length_singleton,ho])
 obtain⟨r,q1,q2⟩:=key (d.bottom-d.top).toNat 0 [] (by omega) rfl
 exact⟨r,by unfold ZfS;rw[show lp (Zb2 d) (0,([]:List Int))=_ from q1];rfl,q2⟩
theorem Zu0:∀(l:List Za) (i:Nat) (s:Int),0<=s->0<=ZdY (fun _ (s:Int) (d:Za)=>s+((d.bottom-d.top).toNat:Int)) i s l/\decide (0<ZdY (fun _ (s:Int) (d:Za)=>s+((d.bottom-d.top).toNat:Int)) i s l)=(decide (0<s) || l.any fun d=>decide (d.top<d.bottom))
 | [],_,s,h=>⟨h,by rw[List.any_nil,Bool.or_false];rfl⟩
 | d :: l,i,s,h=>by
  unfold ZdY
  obtain⟨h1,h2⟩:=Zu0 l (i+1) (s+((d.bottom-d.top).toNat:Int)) (by omega)
  refine⟨h1,?_⟩
  rw[h2,List.any_cons,<- Bool.or_assoc]
  congr 1
  by_cases q:d.top<d.bottom
  ·rw[dT q,Bool.or_true,dT (by omega)]
  ·rw[dF q,Bool.or_false]
   exact decide_eq_decide.2 (by omega)
section
variable {g:Zl} {m:Nat} {on left fs:List Int} {ds:List Za} {ts:List Zb}
theorem ZzU (G:GangIn g m left on ds ts fs) {n:Int} (h:n∈on):n = -1∨isN left n:=(G.crew.ok.run n h).imp id fun h=>h.1
theorem Zul (G:GangIn g m left on ds ts fs):ZfL ⟨⟨on,left⟩,ds,ts,fs⟩=some (wlV m (vw on ds ts fs)):=by
 have h8:m<=8:=by rw[<- G.ol];exact G.crew.o8
 have hol:=G.ol;have htl:=G.tl;have hdl:=G.dl
 have l0:=(ZjZ ds (Zb3 ⟨⟨on,left⟩,ds,ts,fs⟩) (fun i s=>(s,(i:Int))) (fun _ (s:Int) (d:Za)=>s+((d.bottom-d.top).toNat:Int)) id (fun i s=>0<=s/\s<=65*(i:Int)) (fun i d s hi hd hI=>by
   have hq:=ZsE G hd
   have:=hq.t0;have:=hq.b1
   obtain⟨l,q1,q2⟩:=Zt3 hq
   obtain⟨i1,i2⟩:=hI
   refine⟨?_,by omega,by omega⟩
   simp only[Zb3,Zba hi,cT,Zn hd,bS,q1,q2,ZA hi (by omega),ZbN (n:=s+((d.bottom-d.top).toNat:Int)) (by omega)]) (fun s _=>by simp only[Zb3,Zbg,cF];rfl) 0 (by simp)).1
 have hany:=(Zu0 ds 0 0 (le_refl _)).2
 rw[Zsq hdl on ts fs] at hany
 unfold ZfL
 rw[show lp (Zb3 ⟨⟨on,left⟩,ds,ts,fs⟩) (0,0)=_ from l0,bS]
 dsimp only[id]
 generalize ZdY (fun _ (s:Int) (d:Za)=>s+((d.bottom-d.top).toNat:Int)) 0 0 ds=r3 at hany
 have hany:decide (0<r3)=ZnU m (vw on ds ts fs):=hany
 have l1:=Zjf (n:=m) (Zc6 ⟨⟨on,left⟩,ds,ts,fs⟩ r3) (fun i=>decide ((vw on ds ts fs).O i = -1)&&(ZnU m (vw on ds ts fs) || !decide ((vw on ds ts fs).a i=0))) (fun i out hi ho=>by
   have hx:=gE (show i<on.length by omega)
   have ht:=gE (show i<ts.length by omega)
   have hr:=ZzU G (getElem_mem (show i<on.length by omega))
   have qO:(vw on ds ts fs).O i=on[i]:=ZI hx
   have qa:(vw on ds ts fs).a i=ts[i].at_:=ZI ht
   have hneg:decide (on[i]<0)=decide ((vw on ds ts fs).O i = -1):=by
    rw[qO]
    refine decide_eq_decide.2 ⟨fun h=>?_,fun h=>by omega⟩
    rcases hr with hr | hr
    ·exact hr
    ·have:=hr.1;omega
   have hat:(ts[i].at_ != 0) = !decide ((vw on ds ts fs).a i=0):=by
    rw[qa]
    by_cases q:ts[i].at_=0
    ·rw[q];rfl
    ·rw[dF q];exact bne_iff_ne.2 q
   simp only[Zc6,hol,Zba hi,cT,Zn hx,Zn ht,bS,hneg,hany,hat,ZaR (show out.length+1<=1073741824 by omega),ZA hi (by omega)]
   cases decide ((vw on ds ts fs).O i = -1)<;>cases ZnU m (vw on ds ts fs)<;>cases decide ((vw on ds ts fs).a i=0)<;>rfl) (fun out=>by simp only[Zc6,hol,Zbg,cF])
 rw[l1]
 rfl
theorem ZqG (last x:Int):∀(l:List Int) (i:Nat),Zh2 last i (l++[x])=(match Zh2 last i l with | some j=>some j | none=>if last<x then some (i+l.length) else none)
 | [],i=>by simp[Zh2]
 | y :: l,i=>by
  show(if last<y then some i else Zh2 last (i+1) (l++[x]))=(match (if last<y then some i else Zh2 last (i+1) l) with | some j=>some j | none=>if last<x then some (i+(l.length+1)) else none)
  by_cases h:last<y
  ·rw[if_pos h,if_pos h]
  ·rw[if_neg h,if_neg h,ZqG last x l (i+1),show i+1+l.length=i+(l.length+1) by omega]
theorem ZrY {l:List Int}{s0:Int×Int×(List Int)×(List Int)×(List Za)×(List Zb)×(List Int)} (hl:l.length<=1000):∀(k:Nat) (core:Int),k<=l.length->lp (ZdA s0 l) (core,(k:Int)-1)=some (match Zh2 s0.1 0 (l.take k) with | some j=>gt id 0 l j | none=>core)
 | 0,core,_=>by
  rw[ZaD]
  rfl
 | k+1,core,hk=>by
  have hx:=gE (show k<l.length by omega)
  have ht:l.take (k+1)=l.take k++[l[k]]:=by rw[List.take_add_one,hx];rfl
  have hg:gt id 0 l k=l[k]:=ZI hx
  rw[ht,ZqG,length_take,Nat.min_eq_left (by omega),zero_add,ZaD]
  simp only[ZdA,show((k+1:Nat):Int)-1=(k:Int) by omega,dT (show(0:Int)<=(k:Int) by omega),cT,Zn hx,bS,ZbN (n:=(k:Int)-1) (by omega)]
  by_cases q:s0.1<l[k]
  ·rw[dT q,cT,if_pos q]
   dsimp only
   rw[ZrY hl k _ (by omega)]
   cases Zh2 s0.1 0 (l.take k) with
   | some j=>rfl
   | none=>dsimp only;rw[hg]
  ·rw[dF q,cF,if_neg q]
   dsimp only
   rw[ZrY hl k _ (by omega)]
   cases Zh2 s0.1 0 (l.take k)<;>rfl
theorem ZyY {l:List Int}{s0:Int×Int×(List Int)×(List Int)×(List Za)×(List Zb)×(List Int)} (hl:l.length<=1000) {x:Int} (h:l[0]? = some x):lp (ZdA s0 l) (x,w64 ((l.length:Int)-1))=some (gt id 0 l (nxI l s0.1)):=by
 have h0:=(gQ h).1
 have:=ZrY (s0:=s0) hl l.length x (Nat.le_refl _)
 rw[List.take_length] at this
 rw[ZbN (by omega),this]
 unfold nxI
 cases Zh2 s0.1 0 l with
 | some j=>rfl
 | none=>dsimp only;rw[ZI h];rfl
theorem ZwT {l picks:List Int}{last n x:Int} (hl:l.length<=1000) (h0:0<l.length) (h:ZaH last l picks n=some x) :
  x∈l/\(bif decide (n<(picks.length:Int)) then (Zs picks n).bind fun k=>bif ((l.length:Int)==0) then none else Zs l (Int.tmod (bif decide (k<0) then 0 else k) (l.length:Int)) else some (gt id 0 l (nxI l last)))=some x:=by
 unfold ZaH at h
 by_cases q:n<(picks.length:Int)
 ·rw[dT q,cT] at h ⊢
  cases hk:Zs picks n with
  | none=>rw[hk] at h;cases h
  | some k=>
   rw[hk,bS,show((l.length:Int)==0)=false from beq_eq_false_iff_ne.2 (by omega),cF] at h
   rw[bS,show((l.length:Int)==0)=false from beq_eq_false_iff_ne.2 (by omega),cF]
   cases hx:Zs l (Int.tmod (bif decide (k<0) then 0 else k) (l.length:Int)) with
   | none=>rw[hx] at h;cases h
   | some y=>
    rw[hx] at h
    cases Option.some.inj h
    exact⟨mG (Zhy _ _ _ hx).2.2,rfl⟩
 ·rw[dF q,cF] at h ⊢
  rw[Zsj l last (by omega),bS] at h
  have hsp:=ZkF last l 0
  have fin:∀j:Nat,Zs l (j:Int)=some x->j<l.length->x∈l/\gt id 0 l j=x:=fun j hj hjl=>by
   have:=(Zhy _ _ _ hj).2.2
   rw[toNat_natCast] at this
   exact⟨mG this,ZI this⟩
  unfold nxI
  cases hf:Zh2 last 0 l with
  | none=>
   rw[hf] at h
   dsimp only at h
   rw[dT (show(-1:Int)<0 by omega),cT] at h
   cases hx:Zs l 0 with
   | none=>rw[hx] at h;cases h
   | some y=>
    rw[hx] at h
    cases Option.some.inj h
    obtain⟨a1,a2⟩:=fin 0 hx h0
    exact⟨a1,congrArg some a2⟩
  | some j=>
   rw[hf] at h hsp
   dsimp only at h
   rw[dF (show ¬(j:Int)<0 by omega),cF] at h
   obtain⟨_,y,hy,_⟩:=hsp
   have hjl:j<l.length:=by have:=(gQ hy).1;omega
   cases hx:Zs l (j:Int) with
   | none=>rw[hx] at h;cases h
   | some y=>
    rw[hx] at h
    cases Option.some.inj h
    obtain⟨a1,a2⟩:=fin j hx hjl
    exact⟨a1,congrArg some a2⟩
def ZEB (g:Zl) (m:Nat) (left:List Int) (s:Int×(List Int)×Int×(List Int)×(List Za)×(List Zb)×(List Int)) (s':Int×Int×(List Int)×(List Int)×(List Za)×(List Zb)×(List Int)):Prop:=
 ∃n last on ds ts fs,s=(n,wlV m (vw on ds ts fs),last,on,ds,ts,fs)/\s'=(last,n,on,left,ds,ts,fs)/\GangIn g m left on ds ts fs
def ZCM (left:List Int) (r:(Int×Int×Int×(List Int)×(List Za)×(List Zb)×(List Int))⊕(Int×Int×(List Int)×(List Za)×(List Zb)×(List Int))) (r':(Int×(List Int)×(List Int)×(List Za)×(List Zb)×(List Int))⊕Int):Prop:=
 ∃n last on ds ts fs,r = .inr (n,last,on,ds,ts,fs)/\r' = .inl (n,on,left,ds,ts,fs)
theorem Zwx (h:Zaa g=0) {picks:List Int} (G:GangIn g m left on ds ts fs) {n l:Int}{on' fs':List Int}{ds':List Za}{ts':List Zb} (hc:Zby picks g.work g.edges on left ds ts fs=some (n,0,l,on',ds',ts',fs')) :
  Ze8 g ⟨⟨on,left⟩,ds,ts,fs⟩ picks=some (⟨⟨on',left⟩,ds',ts',fs'⟩,n,0):=by
 have h8:m<=8:=by rw[<- G.ol];exact G.crew.o8
 unfold Zby at hc
 rw[Zov (fs:=fs) G.ol G.dl G.tl h8,bS] at hc
 cases hr:lp (Zat picks g.work g.edges left) (0,wlV m (vw on ds ts fs), -1,on,ds,ts,fs) with
 | none=>rw[hr] at hc;cases hc
 | some r=>
  rw[hr,bS] at hc
  obtain⟨r',q1,q2⟩:=Zr5 (g:=ZdJ g picks) (ZEB g m left) (ZCM left) (fun s s' hs t ht=>by
   obtain⟨n,last,on,ds,ts,fs,rfl,rfl,G⟩:=hs
   have hwl:=ZvD m (vw on ds ts fs)
   have hW:=Zul G
   unfold ZdJ
   dsimp only
   rw[hW,bS]
   unfold Zat at ht
   dsimp only at ht
   by_cases h0:0<(wlV m (vw on ds ts fs)).length
   ·rw[dT (show(0:Int)<((wlV m (vw on ds ts fs)).length:Int) by omega),cT] at ht
    rw[show(((wlV m (vw on ds ts fs)).length:Int)==0)=false from beq_eq_false_iff_ne.2 (by omega),cF]
    cases hx:ZaH last (wlV m (vw on ds ts fs)) picks n with
    | none=>rw[hx] at ht;cases ht
    | some x=>
     rw[hx,bS] at ht
     obtain⟨xm,xe⟩:=ZwT (by omega) h0 hx
     obtain⟨x0,xw⟩:=ZhO.1 xm
     obtain⟨on1,ds1,ts1,fs1,p1,p2,p3⟩:=ZzB h G xw.1 xw.2.1
     have hone:=Zsz h G xw.1 p2 p1
     rw[toNat_of_nonneg x0] at p1 hone
     rw[p1,bS] at ht
     dsimp only at ht
     rw[show((0:Int) != 0)=false from rfl,cF,Zov (fs:=fs1) p2.ol p2.dl p2.tl h8,bS] at ht
     cases Option.some.inj ht
     refine⟨.inl (x,w64 (n+1),on1,left,ds1,ts1,fs1),?_,w64 (n+1),x,on1,ds1,ts1,fs1,rfl,rfl,p2⟩
     obtain⟨y,hy⟩:∃y,(wlV m (vw on ds ts fs))[0]? = some y:=⟨_,gE h0⟩
     have hy':Zs (wlV m (vw on ds ts fs)) 0=some y:=Zn (i:=0) hy
     rw[hy',bS,ZyY (by omega) hy,bS]
     by_cases q:n<(picks.length:Int)
     ·rw[dT q,cT] at xe ⊢
      cases hk:Zs picks n with
      | none=>rw[hk] at xe;cases xe
      | some k=>
       rw[hk,bS,show(((wlV m (vw on ds ts fs)).length:Int)==0)=false from beq_eq_false_iff_ne.2 (by omega),cF] at xe
       rw[bS,cF,xe,bS,hone]
       rfl
     ·rw[dF q,cF] at xe ⊢
      rw[Option.some.inj xe,hone]
      rfl
   ·rw[dF (show ¬(0:Int)<((wlV m (vw on ds ts fs)).length:Int) by omega),cF] at ht
    rw[show(((wlV m (vw on ds ts fs)).length:Int)==0)=true from beq_iff_eq.2 (by omega),cT]
    cases Option.some.inj ht
    exact⟨_,rfl,n,last,on,ds,ts,fs,rfl,rfl⟩) ⟨0, -1,on,ds,ts,fs,rfl,rfl,G⟩ hr
  obtain⟨n2,last2,on2,ds2,ts2,fs2,rfl,rfl⟩:=q2
  cases Option.some.inj hc
  unfold Ze8
  rw[show lp (ZdJ g picks) (-1,0,on,left,ds,ts,fs)=_ from q1]
  rfl
end
end
section
theorem Zly {γ S:Type}{f:Nat->S->γ->S}:∀{l:List γ}{i:Nat}{s:S},(∀(j:Nat) y s,l[j]? = some y->f (i+j) s y=s)->ZdY f i s l=s
 | [],_,_,_=>rfl
 | x :: l,i,s,h=>by
  unfold ZdY
  rw[show f i s x=s from h 0 x s rfl]
  exact Zly fun j y s hy=>by rw[show i+1+j=i+(j+1) by omega];exact h (j+1) y s hy
theorem ZpF {γ S:Type}{f:Nat->S->γ->S}:∀{l:List γ}{i j0:Nat}{s:S}{x:γ},l[j0]? = some x->(∀(j:Nat) y s,l[j]? = some y->j≠j0->f (i+j) s y=s)->ZdY f i s l=f (i+j0) s x
 | [],_,_,_,_,h,_=>by simp at h
 | y :: l,i,0,s,x,h,hn=>by
  cases Option.some.inj (show some y=some x from h)
  unfold ZdY
  exact Zly fun j z s hz=>by rw[show i+1+j=i+(j+1) by omega];exact hn (j+1) z s hz (by omega)
 | y :: l,i,j0+1,s,x,h,hn=>by
  unfold ZdY
  rw[show f i s y=s from hn 0 y s rfl (by omega)]
  have:=ZpF (i:=i+1) (s:=s) (show l[j0]? = some x from h) fun j z s hz hj=>by rw[show i+1+j=i+(j+1) by omega];exact hn (j+1) z s hz (by omega)
  rw[this,show i+1+j0=i+(j0+1) by omega]
section
variable {g:Zl} {left row:List Int}
structure ZsI (left row:List Int) (i:Nat) (done on' left':List Int):Prop where
 ll:left'.length=left.length
 lv:∀k:Nat,k<left.length->left'[k]? = some (if k<i then lf (ZG left row) (k:Int) else lf left (k:Int))
 ol:on'.length=row.length
 ov:∀(j:Nat) n,row[j]? = some n->on'[j]? = some (if 0<=n/\n<(i:Int) then ZdV left row n else n)
 dn:∀z,z∈done↔z∈row/\0<=z/\z<(i:Int)/\lf (ZG left row) z=0
 dl:done.length<=i
def ZpD (left:List Int) (i:Nat) (j:Nat) (s:List Int×List Int×List Int) (n:Int):List Int×List Int×List Int:=
 if n=(i:Int) then (if lf left (i:Int)-1=0 then (s.1++[(i:Int)],s.2.1.set j (-1),s.2.2.set i (lf left (i:Int)-1)) else (s.1,s.2.1,s.2.2.set i (lf left (i:Int)-1))) else s
theorem ZzA (c:ZcY g left row) {i:Nat} (hi:i<left.length) (hl:left.length<=64) {done on' left':List Int} (T:ZsI left row i done on' left') :
  ∃done2 on2 left2,lp (Zcw ⟨row,left⟩ ((i:Int),done,on',left')) (0,done,on',left')=some (done2,on2,left2)/\ZsI left row (i+1) done2 on2 left2:=by
 have o8:=c.o8
 have hli:left[i]? = some (lf left (i:Int)):=by rw[gE hi];exact congrArg some (Zp2 (gE hi)).symm
 have hlr:=(c.ok.rng _ (mG hli))
 have hw:w64 (lf left (i:Int)-1)=lf left (i:Int)-1:=ZbN (by omega)
 have hfold:=(ZjZ row (Zcw ⟨row,left⟩ ((i:Int),done,on',left')) (fun j s=>((j:Int),s.1,s.2.1,s.2.2)) (ZpD left i) id (fun j s=>s.1.length<=i+j/\s.2.1.length=row.length/\s.2.2.length=left.length) (fun j n s hj hn hI=>by
   obtain⟨i1,i2,i3⟩:=hI
   have hx3:=gE (show i<s.2.2.length by omega)
   have hx6:=gE (show j<s.2.1.length by omega)
   have hx5:(s.2.2.set i (lf left (i:Int)-1))[i]? = some (lf left (i:Int)-1):=by rw[List.getElem?_set,if_pos rfl,if_pos (by omega)]
   simp only[Zcw,Zba hj,cT,Zn hn,bS,Zn hli,Zn hx3,hw,toNat_natCast,Zn hx5,Zn hx6,ZaR (show s.1.length+1<=1073741824 by omega),ZA hj (by omega)]
   unfold ZpD
   by_cases q:n=(i:Int)
   ·rw[if_pos q,show(n != (i:Int))=false by rw[q];exact bne_self_eq_false _]
    by_cases q2:lf left (i:Int)-1=0
    ·rw[if_pos q2,show(lf left (i:Int)-1==0)=true from beq_iff_eq.2 q2]
     exact⟨rfl,by show(s.1++[(i:Int)]).length<=i+(j+1);rw[lA,length_singleton];omega,by show(s.2.1.set j (-1)).length=row.length;rw[length_set];exact i2,by show(s.2.2.set i _).length=left.length;rw[length_set];exact i3⟩
    ·rw[if_neg q2,show(lf left (i:Int)-1==0)=false from beq_eq_false_iff_ne.2 q2]
     exact⟨rfl,by show s.1.length<=i+(j+1);omega,i2,by show(s.2.2.set i _).length=left.length;rw[length_set];exact i3⟩
   ·rw[if_neg q,show(n != (i:Int))=true from bne_iff_ne.2 q]
    exact⟨rfl,by omega,i2,i3⟩) (fun s _=>by simp only[Zcw,Zbg,cF];rfl) (done,on',left') ⟨by have:=T.dl;dsimp only;omega,T.ol,T.ll⟩).1
 have hrun:∀n∈row,n = -1∨isN left n:=fun n hn=>(c.ok.run n hn).imp id fun h=>h.1
 have hlt:=Zkk row left c.ok.one hrun
 have hne:∀(j:Nat) n,row[j]? = some n->n≠(i:Int)->((0<=n/\n<((i+1:Nat):Int))↔(0<=n/\n<(i:Int))):=fun j n _ h=>by omega
 refine⟨_,_,_,hfold,?_⟩
 by_cases hin:(i:Int)∈row
 ·obtain⟨j0,hj0⟩:=List.getElem?_of_mem hin
  have hk:=hlt (i:Int) (by omega)
  rw[if_pos hin] at hk
  have hj0l:=(gQ hj0).1
  rw[ZpF (f:=ZpD left i) hj0 fun j y s hy hj=>by
   unfold ZpD
   rw[if_neg fun e=>hj (c.ok.one j j0 (i:Int) (by rw[hy,e]) hj0 (by omega))]]
  unfold ZpD
  rw[if_pos rfl,zero_add]
  have lvn:∀k:Nat,k<left.length->(left'.set i (lf left (i:Int)-1))[k]? = some (if k<i+1 then lf (ZG left row) (k:Int) else lf left (k:Int)):=fun k hkl=>by
   rw[List.getElem?_set]
   by_cases e:i=k
   ·rw[if_pos e,if_pos (by rw[T.ll];omega),if_pos (by omega),<- e,hk]
   ·rw[if_neg e,T.lv k hkl]
    by_cases q:k<i
    ·rw[if_pos q,if_pos (by omega)]
    ·rw[if_neg q,if_neg (by omega)]
  by_cases q2:lf left (i:Int)-1=0
  ·rw[if_pos q2]
   refine⟨by rw[length_set];exact T.ll,lvn,by rw[length_set];exact T.ol,fun j n hn=>?_,fun z=>?_,by show(done++[(i:Int)]).length<=i+1;rw[lA,length_singleton];have:=T.dl;omega⟩
   ·rw[List.getElem?_set]
    by_cases e:j0=j
    ·subst e
     rw[hj0] at hn
     cases Option.some.inj hn
     rw[if_pos rfl,if_pos (by rw[T.ol];exact hj0l),if_pos (by omega)]
     unfold ZdV
     rw[if_neg (by omega),hk,if_pos q2]
    ·have hni:n≠(i:Int):=fun e2=>e (c.ok.one j0 j (i:Int) hj0 (by rw[hn,e2]) (by omega))
     rw[if_neg e,T.ov j n hn]
     simp only[hne j n hn hni]
   ·rw[List.mem_append,mem_singleton,T.dn]
    constructor
    ·rintro (⟨z1,z2,z3,z4⟩ | rfl)
     ·exact⟨z1,z2,by omega,z4⟩
     ·exact⟨hin,by omega,by omega,by rw[hk];exact q2⟩
    ·rintro ⟨z1,z2,z3,z4⟩
     by_cases e:z=(i:Int)
     ·exact .inr e
     ·exact .inl ⟨z1,z2,by omega,z4⟩
  ·rw[if_neg q2]
   refine⟨by rw[length_set];exact T.ll,lvn,T.ol,fun j n hn=>?_,fun z=>?_,by have:=T.dl;dsimp only;omega⟩
   ·dsimp only
    rw[T.ov j n hn]
    by_cases e:n=(i:Int)
    ·rw[if_neg (by omega),if_pos (by omega)]
     unfold ZdV
     rw[if_neg (by omega),e,hk,if_neg q2]
    ·simp only[hne j n hn e]
   ·dsimp only
    rw[T.dn]
    constructor
    ·rintro ⟨z1,z2,z3,z4⟩
     exact⟨z1,z2,by omega,z4⟩
    ·rintro ⟨z1,z2,z3,z4⟩
     refine⟨z1,z2,?_,z4⟩
     have:z≠(i:Int):=fun e=>by rw[e,hk] at z4;exact q2 z4
     omega
 ·have hk:=hlt (i:Int) (by omega)
  rw[if_neg hin] at hk
  rw[Zly (f:=ZpD left i) fun j y s hy=>by
   unfold ZpD
   rw[if_neg fun e=>hin (by rw[<- e];exact mG hy)]]
  refine⟨T.ll,fun k hkl=>?_,T.ol,fun j n hn=>?_,fun z=>?_,by have:=T.dl;dsimp only;omega⟩
  ·dsimp only
   rw[T.lv k hkl]
   by_cases e:k=i
   ·rw[if_neg (by omega),if_pos (by omega),e,hk]
   ·by_cases q:k<i
    ·rw[if_pos q,if_pos (by omega)]
    ·rw[if_neg q,if_neg (by omega)]
  ·dsimp only
   rw[T.ov j n hn]
   simp only[hne j n hn fun e=>hin (by rw[<- e];exact mG hn)]
  ·dsimp only
   rw[T.dn]
   constructor
   ·rintro ⟨z1,z2,z3,z4⟩
    exact⟨z1,z2,by omega,z4⟩
   ·rintro ⟨z1,z2,z3,z4⟩
    have:z≠(i:Int):=fun e=>hin (by rw[<- e];exact z1)
    exact⟨z1,z2,by omega,z4⟩
theorem ZwG (c:ZcY g left row) (hl:left.length<=64):∃done,ZgF ⟨row,left⟩=some (⟨ZD left row,ZG left row⟩,done)/\(∀z,z∈done↔z∈row/\z ≠ -1/\lf (ZG left row) z=0)/\done.length<=64:=by
 have o8:=c.o8
 have key:∀(k i:Nat) (done on' left':List Int),i+k=left.length->ZsI left row i done on' left'->∃done2 on2 left2,lp (Zcy ⟨row,left⟩) ((i:Int),done,on',left')=some (done2,on2,left2)/\ZsI left row left.length done2 on2 left2:=by
  intro k
  induction k with
  | zero=>
   intro i done on' left' hi T
   have hi:i=left.length:=by omega
   subst hi
   refine⟨done,on',left',?_,T⟩
   rw[ZaD]
   simp only[Zcy,Zbg,cF]
  | succ k ih=>
   intro i done on' left' hi T
   have hil:i<left.length:=by omega
   obtain⟨d2,o2,l2,q1,q2⟩:=ZzA c hil hl T
   obtain⟨d3,o3,l3,q3,q4⟩:=ih (i+1) d2 o2 l2 (by omega) q2
   refine⟨d3,o3,l3,?_,q4⟩
   rw[ZaD]
   simp only[Zcy,Zba hil,cT,q1,bS,ZA hil (by omega)]
   exact q3
 have T0:ZsI left row 0 [] row left:=⟨rfl,fun k hk=>by rw[if_neg (by omega)];exact Zkh (n:=(k:Int)) (by omega) (by simpa using hk),rfl,fun j n hn=>by rw[if_neg (by omega)];exact hn,fun z=>by
  constructor
  ·intro h;cases h
  ·rintro ⟨_,z1,z2,_⟩;omega,Nat.le_refl _⟩
 obtain⟨d2,o2,l2,q1,T⟩:=key left.length 0 [] row left (by omega) T0
 have el:l2=ZG left row:=by
  apply List.ext_getElem?
  intro k
  by_cases hk:k<left.length
  ·rw[T.lv k hk,if_pos hk]
   exact(Zkh (n:=(k:Int)) (by omega) (by rw[ZbC];simpa using hk)).symm
  ·rw[List.getElem?_eq_none (by rw[T.ll];omega),List.getElem?_eq_none (by rw[ZbC];omega)]
 have eo:o2=ZD left row:=by
  apply List.ext_getElem?
  intro j
  rw[Zb6,List.getElem?_map]
  by_cases hj:j<row.length
  ·have hx:=gE hj
   rw[T.ov j _ hx,hx]
   rcases(c.ok.run _ (getElem_mem hj)) with h | h
   ·rw[if_neg (by omega),h];rfl
   ·have:=h.1.1;have:=h.1.2
    rw[if_pos (by omega)];rfl
  ·rw[List.getElem?_eq_none (by rw[T.ol];omega),List.getElem?_eq_none (by omega)];rfl
 subst el;subst eo
 refine⟨d2,?_,fun z=>?_,by have:=T.dl;omega⟩
 ·unfold ZgF
  dsimp only
  rw[ZaR (show row.length<=1073741824 by omega),ZaR (show left.length<=1073741824 by omega),cT,cT,show lp (Zcy ⟨row,left⟩) (0,([]:List Int),row,left)=_ from q1]
  rfl
 ·rw[T.dn]
  constructor
  ·rintro ⟨z1,z2,_,z4⟩
   exact⟨z1,by omega,z4⟩
  ·rintro ⟨z1,z2,z4⟩
   rcases(c.ok.run z z1) with h | h
   ·exact absurd h z2
   ·have:=h.1.1;have:=h.1.2
    exact⟨z1,by omega,by omega,z4⟩
end
end
theorem Zvk {γ:Type}{p:Nat->γ->Bool}:∀{l:List γ}{i:Nat},Zhu p i l=false->∀(j:Nat) x,l[j]? = some x->p (i+j) x=false
 | [],_,_,j,x,h=>by simp at h
 | y :: l,i,h,j,x,hx=>by
  unfold Zhu at h
  rw[Bool.or_eq_false_iff] at h
  cases j with
  | zero=>cases Option.some.inj (show some y=some x from hx);exact h.1
  | succ j=>have:=Zvk h.2 j x hx;rw[show i+1+j=i+(j+1) by omega] at this;exact this
theorem Ztj {g:Zl} (h:Zaa g=0):g.edges.Pairwise fun e e'=>¬(e.src=e'.src/\e.dst=e'.dst):=by
 have hp:ZeJ g=0:=by
  unfold Zaa at h
  by_cases h0:ZeJ g=0
  ·exact h0
  ·rw[beq_eq_false_iff_ne.2 h0] at h;exact h
 have hb:Zhu (ZjK g) 0 g.edges=false:=by
  unfold ZeJ at hp
  cases h1:(decide (64<(g.work.length:Int)) || decide (256<(g.edges.length:Int))) with
  | true=>rw[h1] at hp;exact absurd (show(40:Int)=0 from hp) (by decide)
  | false=>
   cases h2:g.work.any Zef with
   | true=>rw[h1,h2] at hp;exact absurd (show(41:Int)=0 from hp) (by decide)
   | false=>
    cases h3:Zhu (ZjK g) 0 g.edges with
    | true=>rw[h1,h2,h3] at hp;exact absurd (show(42:Int)=0 from hp) (by decide)
    | false=>rfl
 rw[List.pairwise_iff_getElem]
 intro i j hi hj hij ⟨e1,e2⟩
 have:=Zvk hb j g.edges[j] (gE hj)
 unfold ZjK at this
 simp only[Bool.or_eq_false_iff] at this
 have h3:=List.any_eq_false.1 this.2.2.2 g.edges[i] (mG (i:=i) (by rw[zero_add,List.getElem?_take,if_pos hij];exact gE hi))
 refine h3 ?_
 unfold Zl9
 rw[e1,e2]
 simp
theorem ZvE:∀{l m:List Int},l.Pairwise (fun x y=>x<y)->m.Pairwise (fun x y=>x<y)->(∀x,x∈l↔x∈m)->l=m
 | [],[],_,_,_=>rfl
 | [],y :: m,_,_,h=>absurd ((h y).2 (by simp)) (by simp)
 | x :: l,[],_,_,h=>absurd ((h x).1 (by simp)) (by simp)
 | x :: l,y :: m,h1,h2,h=>by
  have a1:=List.pairwise_cons.1 h1
  have a2:=List.pairwise_cons.1 h2
  have hxy:x=y:=by
   rcases List.mem_cons.1 ((h x).1 (by simp)) with e | e
   ·exact e
   ·rcases List.mem_cons.1 ((h y).2 (by simp)) with e2 | e2
    ·exact e2.symm
    ·have:=a2.1 x e;have:=a1.1 y e2;omega
  subst hxy
  congr 1
  refine ZvE a1.2 a2.2 fun z=>⟨fun hz=>?_,fun hz=>?_⟩
  ·rcases List.mem_cons.1 ((h z).1 (by simp[hz])) with e | e
   ·have:=a1.1 z hz;omega
   ·exact e
  ·rcases List.mem_cons.1 ((h z).2 (by simp[hz])) with e | e
   ·have:=a2.1 z hz;omega
   ·exact e
theorem ZpZ {γ:Type} (p:γ->Bool) (f:γ->Int):∀(l:List γ) (i:Nat),sel p (fun _ x=>f x) i l=(l.filter p).map f
 | [],_=>rfl
 | x :: l,i=>by
  unfold sel
  rw[ZpZ p f l,List.filter_cons]
  cases p x<;>rfl
def Znh (g:Zl) (n:Int):List Int:=((List.range g.work.length).filter fun i:Nat=>g.edges.any fun e=>e.src==n&&e.dst==(i:Int)).map fun i:Nat=>(i:Int)
theorem Zum {g:Zl} (hG:Zbj g) (n:Int):ZfQ g n=some (Znh g n):=by
 have hw:=hG.wl
 unfold ZfQ
 rw[Zjf (n:=g.work.length) (Zdi g n) (fun i=>g.edges.any fun e=>e.src==n&&e.dst==(i:Int)) (fun i out hi ho=>by
   simp only[Zdi,Zba hi,cT,Zw5 hG,bS,ZaR (show out.length+1<=1073741824 by omega),ZA hi (by omega)]
   cases (g.edges.any fun e=>e.src==n&&e.dst==(i:Int))<;>rfl) (fun out=>by simp only[Zdi,Zbg,cF])]
 rfl
theorem ZyO {g:Zl} (hc:Zaa g=0) (n:Int):ZeQ g n=some (Znh g n):=by
 obtain⟨h,_⟩:=Zap hc
 have hel:=h.el
 have key:=ZyS g.edges (by omega) (fun e:Zt=>e.src==n) (fun _ e=>e.dst) (ZcF g fun z0=>ZbX z0 n) (fun i x s hi hx=>by
  simp only[ZcF,Zba hi,cT,Zn hx,bS,ZbX,ZA hi h.short.e]
  cases x.src==n<;>rfl) (fun s=>by simp only[ZcF,Zbg,cF]) [] (by simp)
 rw[List.nil_append] at key
 have hlen:(sel (fun e:Zt=>e.src==n) (fun _ e=>e.dst) 0 g.edges).length<=256:=le_trans (ZqP _ _ _ _) hel
 obtain⟨r,h1,h2,h3⟩:=Zm4 _ (le_trans hlen (by omega))
 have hnd:(sel (fun e:Zt=>e.src==n) (fun _ e=>e.dst) 0 g.edges).Nodup:=by
  rw[ZpZ (fun e:Zt=>e.src==n) (fun e=>e.dst)]
  unfold List.Nodup
  rw[List.pairwise_map]
  refine((Ztj hc).sublist List.filter_sublist).imp_of_mem fun {a b} ha hb hab e=>hab ⟨?_,e⟩
  have q1:=(List.mem_filter.1 ha).2
  have q2:=(List.mem_filter.1 hb).2
  rw[beq_iff_eq.1 q1,beq_iff_eq.1 q2]
 have hrn:r.Nodup:=h2.nodup_iff.2 hnd
 have hr:r=Znh g n:=by
  refine ZvE ((h3.and hrn).imp fun {x y} h=>by omega) ?_ fun z=>?_
  ·unfold Znh
   rw[List.pairwise_map]
   exact(List.pairwise_lt_range.sublist List.filter_sublist).imp fun h=>by omega
  ·rw[h2.mem_iff,ZrA]
   unfold Znh
   rw[Zfe,any_eq_true]
   constructor
   ·rintro ⟨j,x,hx,h3,h4⟩
    have hm:=mG hx
    have:=h.dst x hm
    subst h4
    exact⟨this.1,this.2,x,hm,by rw[toNat_of_nonneg this.1,h3,beq_self_eq_true];rfl⟩
   ·rintro ⟨z0,_,e,he,h5⟩
    rw[toNat_of_nonneg z0,aT] at h5
    obtain⟨j,hj⟩:=List.getElem?_of_mem he
    exact⟨j,e,hj,h5.1,(beq_iff_eq.1 h5.2).symm⟩
 unfold ZeQ
 rw[ZiX g h.short,hc,bS,show((0:Int) != 0)=false from rfl,cF]
 unfold Zku
 simp only[key,bS,h1,hr]
structure DqW (d:Za):Prop where
 len:d.ring.length=64
 t0:0<=d.top
 t1:d.top<=1000
 b0:d.top-1<=d.bottom
 b1:d.bottom<=d.top+64
theorem Zjm.w {d:Za} (h:Zjm d):DqW d:=⟨h.len,h.t0,by have:=h.t1;omega,h.b0,by have:=h.b1;have:=h.t0;omega⟩
theorem Zpd {d:Za} (h:DqW d):ZaM d=some 0:=by
 obtain⟨k,hk⟩:=Zyw
 have:=h.t0;have:=h.t1;have:=h.b0;have:=h.b1
 unfold ZaM
 rw[h.len,show((64:Nat):Int)=64 from rfl,hk,bS]
 have e:Zh1 d.top=0:=by
  unfold Zh1
  rw[dF (by omega),dF (by omega)];rfl
 simp only[cT,Zli,bS,e,Zgi (show -9223372036854775808<=d.top-1 by omega) (by omega),Zgi (show -9223372036854775808<=d.top+64 by omega) (by omega)]
 rw[dF (show ¬(64:Int)<64 by omega),dF (show ¬d.bottom<d.top-1 by omega),dF (show ¬d.top+64<d.bottom by omega)]
 rfl
theorem Zqt {d:Za} (h:DqW d):Zv d=some true:=by
 obtain⟨k,hk⟩:=Zxx
 have:=h.t0;have:=h.t1;have:=h.b0;have:=h.b1
 unfold Zv ZgC
 rw[h.len,show((64:Nat):Int)=64 from rfl,hk,bS,ZbN (by omega),ZbN (by omega)]
 rw[dT (show(64:Int)<=64 by omega),dT (show 0<=d.top by omega),dT (show d.top<=1099511627775 by omega),dT (show d.top-1<=d.bottom by omega),dT (show d.bottom<=d.top+64 by omega)]
 rfl
theorem ZvX {d:Za} (h:d.ring.length=64) (h0:0<=d.bottom) (x:Int):lp (ZbH d x) (0,([]:List Int))=some (d.ring.set (plc d.bottom) x):=by
 have hp:Int.tmod d.bottom 64=(plc d.bottom:Int):=by
  have:=(Zpe d.bottom).1
  rwa [dF (by omega),cF] at this
 have hpl:=(Zpe d.bottom).2
 have hl:(d.ring.set (plc d.bottom) x).length=d.ring.length:=length_set
 have:=ZjZ d.ring (ZbH d x) (fun i out=>((i:Int),out)) (fun i _ _=>(d.ring.set (plc d.bottom) x).take (i+1)) id (fun i out=>out=(d.ring.set (plc d.bottom) x).take i) (fun i y out hi hy hI=>by
   have hol:out.length<=64:=by rw[hI,length_take];omega
   have hg:=gE (show i<(d.ring.set (plc d.bottom) x).length by omega)
   have ht:(d.ring.set (plc d.bottom) x).take (i+1)=out++[if plc d.bottom=i then x else y]:=by
    rw[List.take_add_one,hI]
    congr 1
    rw[List.getElem?_set]
    by_cases e:plc d.bottom=i
    ·rw[if_pos e,if_pos e,if_pos (by omega)];rfl
    ·rw[if_neg e,if_neg e,hy];rfl
   refine⟨?_,rfl⟩
   rw[ht]
   have hii:=ZA hi (by omega)
   simp only[ZbH,Zba hi,cT,hii,ZaR (show out.length+1<=1073741824 by omega),Zn hy,bS]
   rw[h,show((64:Nat):Int)=64 from rfl,show((64:Int)==0)=false from rfl,cF,hp]
   by_cases e:plc d.bottom=i
   ·rw[if_pos e,show(((i:Nat):Int)==((plc d.bottom:Nat):Int))=true from beq_iff_eq.2 (by omega)];rfl
   ·rw[if_neg e,show(((i:Nat):Int)==((plc d.bottom:Nat):Int))=false from beq_eq_false_iff_ne.2 (by omega)];rfl) (fun out _=>by simp only[ZbH,Zbg,cF];rfl) [] (by simp)
 rw[show lp (ZbH d x) (0,([]:List Int))=_ from this.1,this.2,<- hl,List.take_length]
 rfl
theorem Zjg {d:Za} (h:DqW d) (x:Int):Zeo d x=Zbk d x/\∀d',Zbk d x=some (d',0)->DqW d':=by
 have:=h.t0;have:=h.t1;have:=h.b0;have:=h.b1
 have hw:w64 (d.bottom-d.top)=d.bottom-d.top:=ZbN (by omega)
 have hw2:w64 (d.bottom+1)=d.bottom+1:=ZbN (by omega)
 unfold Zeo Zbk
 rw[Zqt h,Zpd h]
 simp only[bS,cT,show((0:Int) != 0)=false from rfl,cF,hw,hw2,h.len]
 by_cases q:d.bottom<d.top
 ·rw[dT q,dT (show d.bottom-d.top<0 by omega)]
  refine⟨rfl,fun d' e=>?_⟩
  have:=Option.some.inj e
  exact absurd (show(121:Int)=0 from congrArg (·.2) this) (by decide)
 ·rw[dF q,dF (show ¬d.bottom-d.top<0 by omega),cF,cF]
  by_cases q2:d.bottom-d.top=64
  ·rw[show(d.bottom-d.top==((64:Nat):Int))=true from beq_iff_eq.2 (by omega),dT (show((64:Nat):Int)<=d.bottom-d.top by omega)]
   refine⟨rfl,fun d' e=>?_⟩
   have:=Option.some.inj e
   exact absurd (show(121:Int)=0 from congrArg (·.2) this) (by decide)
  ·rw[show(d.bottom-d.top==((64:Nat):Int))=false from beq_eq_false_iff_ne.2 (by omega),dF (show ¬((64:Nat):Int)<=d.bottom-d.top by omega)]
   simp only[cF,ZvX h.len (show 0<=d.bottom by omega) x,bS,ZkA h.len,ZgL h.len,Zhg h.len,toNat_natCast]
   refine⟨trivial,fun d' e=>?_⟩
   have e2:=congrArg (·.1) (Option.some.inj e)
   dsimp only at e2
   rw[<- e2]
   exact⟨by rw[length_set];exact h.len,h.t0,h.t1,by show d.top-1<=d.bottom+1;omega,by show d.bottom+1<=d.top+64;omega⟩
def Zc1 (a:Int) (T:List Bool) (e:Zt):List Bool:=bif (e.src==a) || bAt T e.src then T.set e.dst.toNat true else T
def Zrv (g:Zl) (a:Int) (T:List Bool):List Bool:=ZdY (fun _ T e=>Zc1 a T e) 0 T g.edges
def Zkc (g:Zl) (a:Int):Nat->List Bool->List Bool
 | 0,T=>T
 | k+1,T=>Zkc g a k (Zrv g a T)
theorem Zi5 (a:Int) (T:List Bool) (e:Zt):(Zc1 a T e).length=T.length:=by
 unfold Zc1
 cases (e.src==a) || bAt T e.src<;>simp
theorem ZCf {g:Zl} (h:Zbj g) (a:Int) (j:Int) (T:List Bool) (hT:T.length=g.work.length):lp (Zb8 g a) (0,T)=some (Zrv g a T)/\(Zrv g a T).length=g.work.length:=by
 have:=ZjZ g.edges (Zb8 g a) (fun i T=>((i:Int),T)) (fun _ T e=>Zc1 a T e) id (fun _ T=>T.length=g.work.length) (fun i e T hi he hT=>by
   have hm:=mG he
   refine⟨?_,by rw[Zi5];exact hT⟩
   have e1:=Zmy (g:=g) hT (h.src e hm)
   have e2:=Zmy (g:=g) hT (h.dst e hm)
   simp only[Zb8,Zba hi,Zn he,bS,ZA hi h.short.e,cT,e1,e2,Zc1]
   cases (e.src==a)<;>cases bAt T e.src<;>rfl) (fun T hT=>by simp only[Zb8,Zbg];rfl) T hT
 exact this
theorem Zse {g:Zl} (h:Zbj g) (a:Int):∀(k i:Nat) (T:List Bool),i+k=g.work.length->T.length=g.work.length->lp (Zb5 g a) ((i:Int),T)=some (Zkc g a k T)
 | 0,i,T,hi,hT=>by
  have:i=g.work.length:=by omega
  subst this
  rw[ZaD]
  simp only[Zb5,Zbg,cF]
  rfl
 | k+1,i,T,hi,hT=>by
  obtain⟨e,hl⟩:=ZCf h a 0 T hT
  rw[ZaD]
  simp only[Zb5,Zba (show i<g.work.length by omega),cT,e,bS,ZA (show i<g.work.length by omega) h.short.w]
  exact Zse h a k (i+1) _ (by omega) hl
def Zjb (g:Zl) (a:Int):List Bool:=Zkc g a g.work.length (List.replicate g.work.length false)
theorem ZAx {g:Zl} (h:Zbj g) (a:Int):ZfT g a=some (Zjb g a):=by
 have hl:=h.wl
 have:=Zse h a g.work.length 0 (List.replicate g.work.length false) (by simp) (by simp)
 have e0:lp (Zb5 g a) (0,List.replicate g.work.length false)=some (Zjb g a):=this
 unfold ZfT
 rw[dT (show(0:Int)<=(g.work.length:Int) by omega),dT (show(g.work.length:Int)<=lim by show(g.work.length:Int)<=1073741824;omega),beq_self_eq_true]
 simp only[decide_true,Bool.and_true,cT,toNat_natCast,e0,bS]
theorem Zss {g:Zl} (h:Zbj g) (a:Int):∀(l:List Zt) (i:Nat) (T:List Bool),(∀e∈l,e∈g.edges)->T.length=g.work.length->(∀z,0<=z->bAt T z=true->Way g a z)->(∀z,0<=z->bAt (ZdY (fun _ T e=>Zc1 a T e) i T l) z=true->Way g a z)
 | [],_,_,_,_,hT=>hT
 | e :: l,i,T,hl,hn,hT=>by
  refine Zss h a l (i+1) _ (fun x hx=>hl x (by simp[hx])) (by rw[Zi5];exact hn) fun z hz hb=>?_
  have he:=hl e (by simp)
  have hd:=h.dst e he
  have hb:bAt (Zc1 a T e) z=true:=hb
  unfold Zc1 at hb
  cases hc:(e.src==a) || bAt T e.src with
  | false=>rw[hc] at hb;exact hT z hz hb
  | true=>
   rw[hc] at hb
   simp only[cT] at hb
   rw[ZvC (by rw[hn];exact hd.2) z hz,Bool.or_eq_true,decide_eq_true_eq] at hb
   rcases hb with hb | hb
   ·have:z=e.dst:=by omega
    subst this
    rw[Bool.or_eq_true,beq_iff_eq] at hc
    rcases hc with hc | hc
    ·exact hc ▸ Way.one he
    ·exact Way.more (hT _ (h.src e he).1 hc) he
   ·exact hT z hz hb
theorem Zpg (g:Zl) (a:Int) (T:List Bool):(Zrv g a T).length=T.length:=by
 have:∀(l:List Zt) (i:Nat) (T:List Bool),(ZdY (fun _ T e=>Zc1 a T e) i T l).length=T.length:=by
  intro l
  induction l with
  | nil=>intro i T;rfl
  | cons e l ih=>intro i T;exact(ih (i+1) _).trans (Zi5 a T e)
 exact this g.edges 0 T
theorem ZpH {g:Zl} (h:Zbj g) (a:Int):∀(k:Nat) (T:List Bool),T.length=g.work.length->(∀z,0<=z->bAt T z=true->Way g a z)->(∀z,0<=z->bAt (Zkc g a k T) z=true->Way g a z)
 | 0,_,_,hT=>hT
 | k+1,T,hn,hT=>ZpH h a k _ (by rw[Zpg];exact hn) (Zss h a g.edges 0 T (fun _ hx=>hx) hn hT)
def Zju (g:Zl) (a:Int) (T:List Bool):Prop:=∀e∈g.edges,(e.src=a∨bAt T e.src=true)->bAt T e.dst=true
theorem Zux {g:Zl}{a:Int}{T:List Bool} (hc:Zju g a T) {b:Int} (w:Way g a b):bAt T b=true:=by
 generalize ha:a=a' at w
 induction w with
 | one he=>exact hc _ he (.inl ha.symm)
 | more w he ih=>exact hc _ he (.inr (ih ha))
def cnt (T:List Bool):Nat:=T.countP id
theorem ZAy {T:List Bool}{i:Nat} (hi:i<T.length):cnt T<=cnt (T.set i true)/\(bAt T (i:Int)=false->cnt (T.set i true)=cnt T+1):=by
 have e:=List.countP_set (p:=id) (a:=true) hi
 have hb:bAt T (i:Int)=T[i]:=by unfold bAt;rw[toNat_natCast,gE hi]
 unfold cnt
 rw[e,hb]
 have pos:T[i]=true->0<T.countP id:=fun ht=>List.countP_pos_iff.2 ⟨T[i],getElem_mem hi,ht⟩
 cases ht:T[i] with
 | true=>have:=pos ht;simp;omega
 | false=>simp
theorem Zsg {g:Zl} (h:Zbj g) (a:Int):∀(l:List Zt) (i:Nat) (T:List Bool),(∀e∈l,e∈g.edges)->T.length=g.work.length ->
  cnt T<=cnt (ZdY (fun _ T e=>Zc1 a T e) i T l)/\(cnt (ZdY (fun _ T e=>Zc1 a T e) i T l)=cnt T->ZdY (fun _ T e=>Zc1 a T e) i T l=T/\∀e∈l,(e.src=a∨bAt T e.src=true)->bAt T e.dst=true)
 | [],_,T,_,_=>⟨Nat.le_refl _,fun _=>⟨rfl,fun e he=>by cases he⟩⟩
 | e :: l,i,T,hl,hn=>by
  have he:=hl e (by simp)
  have hd:=h.dst e he
  have hi:e.dst.toNat<T.length:=by rw[hn];exact hd.2
  have hd2:((e.dst.toNat:Nat):Int)=e.dst:=by omega
  obtain⟨k1,k2⟩:=Zsg h a l (i+1) (Zc1 a T e) (fun x hx=>hl x (by simp[hx])) (by rw[Zi5];exact hn)
  show cnt T<=cnt (ZdY _ (i+1) (Zc1 a T e) l)/\(cnt (ZdY _ (i+1) (Zc1 a T e) l)=cnt T->ZdY _ (i+1) (Zc1 a T e) l=T/\_)
  obtain⟨c1,c2⟩:=ZAy hi
  have hstep:cnt T<=cnt (Zc1 a T e)/\(cnt (Zc1 a T e)=cnt T->Zc1 a T e=T/\((e.src=a∨bAt T e.src=true)->bAt T e.dst=true)):=by
   unfold Zc1
   cases hc:(e.src==a) || bAt T e.src with
   | false=>
    simp only[cF]
    refine⟨Nat.le_refl _,fun _=>⟨trivial,fun hx=>?_⟩⟩
    exfalso
    rw[Bool.or_eq_false_iff,beq_eq_false_iff_ne] at hc
    rcases hx with hx | hx
    ·exact hc.1 hx
    ·rw[hc.2] at hx;cases hx
   | true=>
    simp only[cT]
    refine⟨c1,fun hx=>?_⟩
    cases hb:bAt T e.dst with
    | false=>
     rw[hd2] at c2
     have:=c2 hb
     omega
    | true=>
     refine⟨?_,fun _=>rfl⟩
     have hg:T[e.dst.toNat]=true:=by
      unfold bAt at hb
      rw[gE hi] at hb
      exact hb
     rw[<- hg,List.set_getElem_self]
  refine⟨by omega,fun hx=>?_⟩
  obtain⟨s1,s2⟩:=hstep.2 (by omega)
  obtain⟨t1,t2⟩:=k2 (by omega)
  rw[s1] at t1 t2 ⊢
  refine⟨t1,fun x hx=>?_⟩
  rcases List.mem_cons.1 hx with rfl | hx
  ·exact s2
  ·exact t2 x hx
theorem Zlg {g:Zl} (h:Zbj g) (a:Int):∀(k:Nat) (T:List Bool),T.length=g.work.length->g.work.length<=cnt T+k->Zju g a (Zkc g a k T)
 | 0,T,hn,hk=>by
  have hall:cnt T=T.length:=Nat.le_antisymm (List.countP_le_length) (by omega)
  have:=List.countP_eq_length.1 hall
  intro e he _
  have hd:=h.dst e he
  show bAt T e.dst=true
  unfold bAt
  rw[gE (show e.dst.toNat<T.length by rw[hn];exact hd.2)]
  exact this _ (getElem_mem _)
 | k+1,T,hn,hk=>by
  obtain⟨c1,c2⟩:=Zsg h a g.edges 0 T (fun _ hx=>hx) hn
  by_cases hc:cnt (Zrv g a T)=cnt T
  ·obtain⟨t1,t2⟩:=c2 hc
   have t1':Zrv g a T=T:=t1
   have stay:∀k,Zkc g a k T=T:=by
    intro k
    induction k with
    | zero=>rfl
    | succ k ih=>show Zkc g a k (Zrv g a T)=T;rw[t1'];exact ih
   rw[stay]
   exact t2
  ·have c1':cnt T<=cnt (Zrv g a T):=c1
   exact Zlg h a k (Zrv g a T) (by rw[Zpg];exact hn) (by omega)
theorem ZqF {g:Zl} (h:Zbj g) {a b:Int} (hb:0<=b):bAt (Zjb g a) b=true↔Way g a b:=by
 constructor
 ·exact ZpH h a _ _ (by simp) (fun z hz hx=>by
   exfalso
   unfold bAt at hx
   rw[List.getElem?_replicate] at hx
   split at hx
   ·rename_i heq
    split at heq
    ·cases heq;cases hx
    ·cases heq
   ·cases hx) b hb
 ·exact Zux (Zlg h a g.work.length (List.replicate g.work.length false) (by simp) (by omega))
theorem Zun (g:Zl) (a:Int):(Zjb g a).length=g.work.length:=by
 have:∀(k:Nat) (T:List Bool),(Zkc g a k T).length=T.length:=by
  intro k
  induction k with
  | zero=>intro T;rfl
  | succ k ih=>intro T;exact(ih _).trans (Zpg g a T)
 exact(this _ _).trans (by simp)
theorem ZoQ (g:Zl) (h:Zfj g):Zew g=some (Zaa g):=by
 unfold Zew
 rw[Zuu g h,bS]
 by_cases h0:ZeJ g=0
 ·have hG:=ZoX h0
  have key:=ZdS g.work (Zc7 g) (fun i _=>bAt (Zjb g (i:Int)) (i:Int)) (fun _ _=>.inl ()) (.inr ()) (fun i x hi hx=>by
    simp only[Zc7,Zba hi,ZAx hG,bS,ZA hi h.w,cT,Zmy (Zun g (i:Int)) (z:=(i:Int)) ⟨by omega,by simpa using hi⟩]
    cases bAt (Zjb g (i:Int)) (i:Int)<;>rfl) (by simp only[Zc7,Zbg];rfl)
  rw[key,ZbE,h0]
  unfold Zaa
  rw[h0]
  by_cases hg:ZkI g
  ·rw[Zvn hg]
   cases hb:Zhu (fun i _=>bAt (Zjb g (i:Int)) (i:Int)) 0 g.work with
   | false=>rfl
   | true=>
    obtain⟨j,x,_,h2⟩:=(Zmm _ _ 0).1 hb
    exact absurd ((ZqF hG (by omega)).1 h2) (hg _)
  ·rw[Zry hg]
   cases hb:Zhu (fun i _=>bAt (Zjb g (i:Int)) (i:Int)) 0 g.work with
   | true=>rfl
   | false=>
    exfalso
    refine hg fun a w=>?_
    have ha:=w.src_in hG
    have es:((a.toNat:Nat):Int)=a:=by omega
    have:=(Zmm (fun i (_:Int)=>bAt (Zjb g (i:Int)) (i:Int)) g.work 0).2 ⟨a.toNat,_,gE ha.2,by rw[zero_add,es];exact(ZqF hG ha.1).2 w⟩
    rw[hb] at this
    cases this
 ·unfold Zaa
  have hne:(ZeJ g != 0)=true:=by rw[bne,beq_false_of_ne h0];rfl
  rw[beq_false_of_ne h0,hne]
  rfl
section
section
variable {g:Zl} {m:Nat} {left on row fs:List Int} {ds:List Za} {ts:List Zb}
theorem Zpq (h:Zaa g=0) (c:ZcY g left on):ZfU g ⟨on,left⟩=some 0:=by
 obtain⟨hG,_⟩:=Zap h
 have o1:=c.o1;have o8:=c.o8;have ll:=c.ll;have hw:=hG.wl
 unfold ZfU
 rw[ZoQ g hG.short,h,bS,show((0:Int) != 0)=false from rfl,cF]
 dsimp only
 rw[dF (show ¬(on.length:Int)<1 by omega),cF,dF (show ¬8<(on.length:Int) by omega),cF,show((left.length:Int) != (g.work.length:Int))=false by rw[ll];simp,cF]
 rw[Zh0 left (Zda ⟨on,left⟩) (.inr ()) (fun i x hi hx=>by
   have:=c.ok.rng x (mG hx)
   simp only[Zda,Zba hi,cT,Zn hx,bS,dF (show ¬x<0 by omega),dF (show ¬1000<x by omega),cF,ZA hi (by omega)]) (by simp only[Zda,Zbg];rfl),bS]
 dsimp only
 rw[Zh0 left (Zc3 g ⟨on,left⟩) (.inr ()) (fun i x hi hx=>by
   have hin:isN left (i:Int):=⟨by omega,by simpa using hi⟩
   have hlx:lf left (i:Int)=x:=Zp2 hx
   simp only[Zc3,Zba hi,cT,Zn hx,bS,Znl hG c,ZA hi (by omega)]
   by_cases q:x=0
   ·rw[q,Zb7.2 (c.ok.over _ hin (by rw[hlx,q]))];rfl
   ·rw[beq_eq_false_iff_ne.2 q];rfl) (by simp only[Zc3,Zbg];rfl),bS]
 dsimp only
 rw[Zh0 on (Zc0 g ⟨on,left⟩) (.inr ()) (fun i n hi hn=>by
   simp only[Zc0,Zba hi,cT,Zn hn,bS,ZA hi (by omega)]
   rcases c.ok.run n (mG hn) with e | ⟨h1,h2,h3⟩
   ·subst e
    rw[dF (show ¬(-1:Int) < -1 by omega),dF (show ¬(left.length:Int) <= -1 by omega),dF (show ¬(0:Int) <= -1 by omega)]
    rfl
   ·have a1:=h1.1
    have a2:=h1.2
    have hm:(List.take i on).any (fun x=>n==x)=false:=List.any_eq_false.2 fun x hx hq=>by
     have:n=x:=by simpa using hq
     subst this
     obtain⟨j,hj⟩:=List.getElem?_of_mem hx
     have hjl:=(gQ hj).1
     rw[length_take] at hjl
     rw[List.getElem?_take,if_pos (by omega)] at hj
     have:=c.ok.one j i n hj hn (by omega)
     omega
    simp only[dF (show ¬n < -1 by omega),dF (show ¬(left.length:Int)<=n by omega),dT (show(0:Int)<=n by omega),cF,cT,Ztm h1,bS,show(lf left n==0)=false from beq_eq_false_iff_ne.2 (by omega),Znl hG c,Zb7.2 h3,dT (show(0:Int)<=(i:Int) by omega),toNat_natCast,Nat.ble_eq_true_of_le (show i<=on.length by omega),Zi3 (List.take i on) n (by rw[length_take];omega),hm]) (by simp only[Zc0,Zbg];rfl)]
 rfl
theorem ZpU (h:Zaa g=0) (G:GangIn g m left on ds ts fs):ZfJ g ⟨⟨on,left⟩,ds,ts,fs⟩=some 0:=by
 have hol:=G.ol;have htl:=G.tl;have hdl:=G.dl;have hfl:=G.fl
 have o8:=G.crew.o8
 unfold ZfJ
 dsimp only
 rw[Zpq h G.crew,bS,show((0:Int) != 0)=false from rfl,cF,hdl,htl,hfl,hol,bne_self_eq_false,cF,cF,cF]
 rw[Zh0 on (Zc4 ⟨⟨on,left⟩,ds,ts,fs⟩) (.inr ()) (fun i n hi hn=>by
   have hts:=gE (show i<ts.length by omega)
   have hds:=gE (show i<ds.length by omega)
   have hfs:=gE (show i<fs.length by omega)
   generalize ts[i]=t at hts
   generalize ds[i]=d at hds
   generalize fs[i]=f at hfs
   have hd:=ZsE G hds
   have hrl:=G.ring d (mG hds)
   have hen:=G.en t (mG hts)
   have hf0:=G.f0 f (mG hfs)
   have hst:=G.st i t f hts hfs
   have p:=G.inv.pos i (by omega)
   have qF:(vw on ds ts fs).F i=f.toNat:=ZI hfs
   have hfm:f<(m:Int):=by have:=p.F;rw[qF] at this;omega
   have hr:=ZzU G (mG hn)
   simp only[Zc4,hol,Zba (show i<m by omega),cT,Zn hts,Zn hds,Zn hfs,Zn hn,bS,ZgG hd,hrl,show(((64:Nat):Int) != 64)=false from rfl,cF,hen,show((0:Int) != 0)=false from rfl,dF (show ¬f<0 by omega),dF (show ¬(m:Int)<=f by omega),ZA hi (by omega)]
   by_cases hneg:n = -1
   ·rw[dF (show ¬0<=n by omega)]
    simp only[cF]
    rw[hst]
    by_cases q:f=0
    ·rw[q,dF (show ¬(0:Int)<0 by omega)]
     cases t.at_==0<;>cases t.top==0<;>cases t.bottom==0<;>cases t.got==0<;>rfl
    ·rw[show(f != 0)=true from bne_iff_ne.2 q,beq_eq_false_iff_ne.2 q]
     cases t.at_==0<;>cases t.top==0<;>cases t.bottom==0<;>cases t.got==0<;>rfl
   ·have hbz:=G.bz i n t hn hneg hts
    have hF0:f=0:=by
     have qO:(vw on ds ts fs).O i=n:=ZI hn
     have:=(p.busy (by rw[qO];exact hneg)).2
     rw[qF] at this
     omega
    subst hbz
    subst hF0
    have:0<=n:=by rcases hr with e | e;exact absurd e hneg;exact e.1
    rw[dT this]
    rfl) (by simp only[Zc4,Zbg];rfl)]
 rfl
def DW (ds:List Za):Prop:=(∀d∈ds,DqW d)/\ds.length<=1000
theorem ZqD {ds:List Za} (hD:DW ds) {c x:Int}{t:List Za⊕List Za} (h:Zaq c x ds=some t) :
  ∃d q,Zs ds c=some d/\Zeo d x=some q/\((q.2=0/\t = .inl (ds.set c.toNat q.1)/\DW (ds.set c.toNat q.1))∨(q.2≠0/\∃y,t = .inr y)):=by
 unfold Zaq at h
 cases hd:Zs ds c with
 | none=>rw[hd] at h;cases h
 | some d=>
  rw[hd,bS] at h
  have hm:=mG (Zhy _ _ _ hd).2.2
  obtain⟨e1,e2⟩:=Zjg (hD.1 d hm) x
  cases hq:Zbk d x with
  | none=>rw[hq] at h;cases h
  | some q=>
   rw[hq,bS] at h
   refine⟨d,q,rfl,by rw[e1,hq],?_⟩
   by_cases q0:q.2=0
   ·rw[show(q.2==0)=true from beq_iff_eq.2 q0] at h
    refine .inl ⟨q0,(Option.some.inj h).symm,⟨fun y hy=>?_,by rw[length_set];exact hD.2⟩⟩
    rcases ZbD hy with hy | hy
    ·exact hD.1 y hy
    ·rw[hy]
     refine e2 q.1 ?_
     rw[hq,<- q0]
   ·rw[show(q.2==0)=false from beq_eq_false_iff_ne.2 q0] at h
    exact .inr ⟨q0,_,(Option.some.inj h).symm⟩
def ZBN (onN leftN:List Int) (ts:List Zb) (fs:List Int) (s:Int×(List Za)×(List Int)) (s':Int×(List Int)×(List Int)×(List Za)×(List Zb)×(List Int)×(List Int)):Prop:=
 ∃i ds pushed,s=(i,ds,pushed)/\s'=(i,onN,leftN,ds,ts,fs,pushed)/\DW ds/\pushed.length<=1073741824
def Zyf (onN leftN:List Int) (ts:List Zb) (fs:List Int) (r:((List Za)×(List Int))⊕((List Za)×(List Int))) (r':((List Int)×(List Int)×(List Za)×(List Zb)×(List Int)×(List Int))⊕((List Int)×(List Int)×(List Za)×(List Zb)×(List Int)×(List Int))):Prop:=
 (∃ds pushed,r = .inr (ds,pushed)/\r' = .inr (onN,leftN,ds,ts,fs,pushed)/\DW ds/\pushed.length<=1073741824)∨(∃x y,r = .inl x/\r' = .inl y)
theorem Zwk {R S onN leftN:List Int} (hR:R.length<9223372036854775808) {c:Int}{s3:Int×(List Za)×(List Int)}{s3':Int×(List Int)×(List Int)×(List Za)×(List Zb)×(List Int)×(List Int)} (h3:s3.1=c) (h3':s3'.1=c) {ds:List Za}{pushed:List Int} (hD:DW ds) (hp:pushed.length<=1073741824) {r} (hr:lp (Z4 R s3 S) (0,ds,pushed)=some r) :
  ∃r',lp (ZeB R s3' S) (0,onN,leftN,ds,ts,fs,pushed)=some r'/\Zyf onN leftN ts fs r r':=by
 refine Zr5 (ZBN onN leftN ts fs) (Zyf onN leftN ts fs) (fun s s' hs t ht=>?_) ⟨0,ds,pushed,rfl,rfl,hD,hp⟩ hr
 obtain⟨i,ds,pushed,rfl,rfl,hD,hp⟩:=hs
 unfold Z4 at ht
 unfold ZeB
 dsimp only at ht ⊢
 by_cases q:i<(S.length:Int)
 ·rw[dT q,cT] at ht ⊢
  cases hx:Zs S i with
  | none=>rw[hx] at ht;cases ht
  | some x=>
   rw[hx,bS,Zf7 R x hR,bS] at ht
   rw[bS,Zi3 R x hR,bS]
   cases hc:R.any fun y=>x==y with
   | false=>
    rw[hc,cF] at ht
    cases Option.some.inj ht
    exact⟨_,rfl,w64 (i+1),ds,pushed,rfl,rfl,hD,hp⟩
   | true=>
    rw[hc,cT,Zf7 pushed x (by omega),bS] at ht
    rw[cT,Zi3 pushed x (by omega),bS]
    cases hc2:pushed.any fun y=>x==y with
    | true=>
     rw[hc2,cT] at ht
     cases Option.some.inj ht
     exact⟨_,rfl,w64 (i+1),ds,pushed,rfl,rfl,hD,hp⟩
    | false=>
     rw[hc2,cF,h3] at ht
     rw[cF,h3']
     cases hpu:Zaq c x ds with
     | none=>rw[hpu] at ht;cases ht
     | some u=>
      rw[hpu,bS] at ht
      obtain⟨d,e,hd,he,hcase⟩:=ZqD hD hpu
      rw[hd,bS,he,bS]
      rcases hcase with⟨e0,rfl,hD2⟩ | ⟨e0,y,rfl⟩
      ·dsimp only at ht
       cases hb:Nat.ble (List.length pushed+1) lim with
       | false=>rw[hb] at ht;cases ht
       | true=>
        rw[hb,cT] at ht
        cases Option.some.inj ht
        have hble:pushed.length+1<=1073741824:=Nat.le_of_ble_eq_true hb
        rw[show(e.2 != 0)=false by rw[e0];rfl,cF]
        unfold Zav
        dsimp only
        rw[ZaR (show ds.length<=1073741824 by have:=hD.2;omega),cT,hd,bS,bS,cT]
        exact⟨_,rfl,w64 (i+1),ds.set c.toNat e.1,pushed++[x],rfl,rfl,hD2,by rw[lA,length_singleton];exact hble⟩
      ·dsimp only at ht
       cases Option.some.inj ht
       rw[show(e.2 != 0)=true from bne_iff_ne.2 e0,cT]
       exact⟨_,rfl,.inr ⟨_,_,rfl,rfl⟩⟩
 ·rw[dF q,cF] at ht ⊢
  cases Option.some.inj ht
  exact⟨_,rfl,.inl ⟨ds,pushed,rfl,rfl,hD,hp⟩⟩
def ZCb (k:Nat) (onN leftN:List Int) (ts:List Zb) (fs:List Int) (s:Int×(List Za)×(List Int)) (s':Int×(List Int)×(List Int)×(List Za)×(List Zb)×(List Int)×(List Int)):Prop:=
 ∃(i:Nat) (ds:List Za) (pushed:List Int),i<=k/\s=((i:Int),ds,pushed)/\s'=((i:Int),onN,leftN,ds,ts,fs,pushed)/\DW ds/\pushed.length<=1073741824
def ZCr (onN leftN:List Int) (ts:List Zb) (fs:List Int) (r:(List Za)⊕(List Za)) (r':((List Int)×(List Int)×(List Za)×(List Zb)×(List Int))⊕((List Int)×(List Int)×(List Za)×(List Zb)×(List Int))):Prop:=
 (∃ds,r = .inr ds/\r' = .inr (onN,leftN,ds,ts,fs))∨(∃x y,r = .inl x/\r' = .inl y)
theorem Zqn (h:Zaa g=0) (G:GangIn g m left row ds ts fs) (cN:ZcY g (ZG left row) (ZD left row)) {ds':List Za}{done:List Int} (ht:Zbz g.work g.edges row left ds=some (.inr (.inr (ds',done,ZD left row,ZG left row)))) :
  ∃dn,Ze5 g ⟨⟨row,left⟩,ds,ts,fs⟩=some (⟨⟨ZD left row,ZG left row⟩,ds',ts,fs⟩,dn,0):=by
 obtain⟨hG,_⟩:=Zap h
 have cr:=G.crew
 have hw:=hG.wl
 have hll:=cr.ll
 have o8:=cr.o8
 obtain⟨dn,t1,t2,t3⟩:=ZwG cr (by omega)
 obtain⟨done0,l1,l2⟩:=Zpz h cr
 have hDW:DW ds:=⟨fun d hd=>by obtain⟨i,hi⟩:=List.getElem?_of_mem hd;exact(ZsE G hi).w,by rw[G.dl,<- G.ol];omega⟩
 have hRl:(ZaS g.edges (ZG left row) (ZD left row)).length<9223372036854775808:=by have:=ZeF g.edges (ZG left row) (ZD left row);rw[ZbC] at this;omega
 unfold Zbz at ht
 rw[Zjh (show row.length<=1073741824 by omega),bS,l1,bS] at ht
 dsimp only at ht
 rw[Zky h cN,bS] at ht
 cases hr:lp (Zak g.work g.edges row (ZD left row,ZG left row,done0) (ZaS g.edges (ZG left row) (ZD left row))) (0,ds,[]) with
 | none=>rw[hr] at ht;cases ht
 | some r=>
  rw[hr,bS] at ht
  obtain⟨r',q1,q2⟩:=Zr5 (g:=ZdH g ⟨⟨row,left⟩,ds,ts,fs⟩ (⟨ZD left row,ZG left row⟩,dn) (ZaS g.edges (ZG left row) (ZD left row))) (ZCb row.length (ZD left row) (ZG left row) ts fs) (ZCr (ZD left row) (ZG left row) ts fs) (fun s s' hs t ht=>by
   obtain⟨i,ds1,pushed,hi,rfl,rfl,hD,hp⟩:=hs
   unfold Zak at ht
   unfold ZdH
   dsimp only at ht ⊢
   by_cases q:i<row.length
   ·have hn:=gE q
    have hnm:=getElem_mem q
    generalize row[i]=n at hn hnm
    have hw1:w64 ((i:Int)+1)=((i+1:Nat):Int):=ZA q (by omega)
    have hto:(ZD left row)[i]? = some (ZdV left row n):=by rw[Zb6,List.getElem?_map,hn];rfl
    rw[Zba q,cT,Zn hn,bS,hw1] at ht ⊢
    by_cases hneg:n = -1
    ·rw[show(n == -1)=true from beq_iff_eq.2 hneg,cT] at ht
     rw[dT (show n<0 by omega),cT]
     cases Option.some.inj ht
     exact⟨_,rfl,i+1,ds1,pushed,by omega,rfl,rfl,hD,hp⟩
    ·have h0:0<=n:=by rcases cr.ok.run n hnm with e | e;exact absurd e hneg;exact e.1.1
     rw[show(n == -1)=false from beq_eq_false_iff_ne.2 hneg,cF,Zn hto,bS] at ht
     rw[dF (show ¬n<0 by omega),cF,Zi3 dn n (by omega),bS,ZgE]
     by_cases hf:lf (ZG left row) n=0
     ·have hin:n∈dn:=(t2 n).2 ⟨hnm,hneg,hf⟩
      have hN:ZdV left row n = -1:=by unfold ZdV;rw[if_neg hneg,if_pos hf]
      rw[hN,show((-1:Int) != -1)=false from rfl,cF,ZyO h n,bS] at ht
      rw[dT hin,cT,Zum hG n,bS]
      cases h0r:lp (Z4 (ZaS g.edges (ZG left row) (ZD left row)) ((i:Int),ds1,pushed) (Znh g n)) (0,ds1,pushed) with
      | none=>rw[h0r] at ht;cases ht
      | some r0=>
       rw[h0r,bS] at ht
       obtain⟨r0',z1,z2⟩:=Zwk (ts:=ts) (fs:=fs) (onN:=ZD left row) (leftN:=ZG left row) hRl (c:=(i:Int)) (s3:=((i:Int),ds1,pushed)) (s3':=((i:Int),ZD left row,ZG left row,ds1,ts,fs,pushed)) rfl rfl hD hp h0r
       rw[z1,bS]
       rcases z2 with⟨ds2,p2,rfl,rfl,hD2,hp2⟩ | ⟨x,y,rfl,rfl⟩
       ·cases Option.some.inj ht
        exact⟨_,rfl,i+1,ds2,p2,by omega,rfl,rfl,hD2,hp2⟩
       ·cases Option.some.inj ht
        exact⟨_,rfl,.inr ⟨_,_,rfl,rfl⟩⟩
     ·have hin:n∉dn:=fun e=>hf ((t2 n).1 e).2.2
      have hN:ZdV left row n=n:=by unfold ZdV;rw[if_neg hneg,if_neg hf]
      rw[hN,show(n != -1)=true from bne_iff_ne.2 hneg,cT] at ht
      rw[dF hin,cF]
      cases Option.some.inj ht
      exact⟨_,rfl,i+1,ds1,pushed,by omega,rfl,rfl,hD,hp⟩
   ·have hi2:i=row.length:=by omega
    subst hi2
    rw[Zbg,cF] at ht ⊢
    cases Option.some.inj ht
    exact⟨_,rfl,.inl ⟨ds1,rfl,rfl⟩⟩) ⟨0,ds,[],by omega,rfl,rfl,hDW,by simp⟩ hr
  refine⟨dn,?_⟩
  unfold Ze5
  rw[ZpU h G,bS,show((0:Int) != 0)=false from rfl,cF]
  dsimp only
  rw[t1,bS,ZlZ hG cN,bS]
  dsimp only
  rw[show lp (ZdH g ⟨⟨row,left⟩,ds,ts,fs⟩ (⟨ZD left row,ZG left row⟩,dn) (ZaS g.edges (ZG left row) (ZD left row))) (0,ZD left row,ZG left row,ds,ts,fs,[])=_ from q1,bS]
  rcases q2 with⟨ds2,rfl,rfl⟩ | ⟨x,y,rfl,rfl⟩
  ·have e:=congrArg (fun z=>match z with | .inr (.inr (a,_))=>a | _=>[]) (Option.some.inj ht)
   have e:ds2=ds':=e
   rw[e]
  ·cases ht
end
end
theorem Ziy (l:List Int) (h:l.length<=100000):ZcE l l=some true:=by
 unfold ZcE
 rw[bne_self_eq_false,cF,Zh0 l (ZdE l l) (.inr ()) (fun i x hi hx=>by simp only[ZdE,Zba hi,cT,Zn hx,bS,bne_self_eq_false,cF,ZA hi (by omega)]) (by simp only[ZdE,Zbg,cF])]
 rfl
theorem Zxj {d:Za} (h:d.ring.length<=100000):ZgA d d=some true:=by
 unfold ZgA
 rw[Ziy d.ring h,bS,beq_self_eq_true,beq_self_eq_true]
 rfl
theorem ZpT {on left fs:List Int}{ds:List Za}{ts:List Zb} (ho:on.length<=100000) (hl:left.length<=100000) (hf:fs.length<=100000) (hd:ds.length<=100000) (ht:ts.length<=100000) (hr:∀d∈ds,d.ring.length<=100000):Zem ⟨⟨on,left⟩,ds,ts,fs⟩ ⟨⟨on,left⟩,ds,ts,fs⟩=some true:=by
 unfold Zem Zji
 simp only[Ziy on ho,Ziy left hl,Ziy fs hf,bS,cT,cF,bne_self_eq_false]
 rw[Zh0 ds _ (.inr ()) (fun i d hi hx=>by simp only[Zez,Zba hi,cT,Zn hx,bS,Zxj (hr d (mG hx)),ZA hi (by omega)]) (by simp only[Zez,Zbg,cF]),bS]
 dsimp only
 rw[Zh0 ts _ (.inr ()) (fun i x hi hx=>by simp only[ZeC,Zba hi,cT,Zn hx,bS,beq_self_eq_true,bne_self_eq_false,cF,Bool.and_self,Bool.not_true,ZA hi (by omega)]) (by simp only[ZeC,Zbg,cF])]
 rfl
theorem ZnJ {t:List (List Int)} (h:t.length<=100000) (hr:∀r∈t,r.length<=100000):ZcC t t=some true:=by
 unfold ZcC
 rw[bne_self_eq_false,cF,Zh0 t (Zbm t t) (.inr ()) (fun i x hi hx=>by simp only[Zbm,Zba hi,cT,Zn hx,bS,Ziy x (hr x (mG hx)),ZA hi (by omega)]) (by simp only[Zbm,Zbg,cF])]
 rfl
theorem Zq4 (g:Zl) (need:List Int) (c:Int) (hl:need.length<=100000):Zgx g need c=some (Zfk g need c):=by
 unfold Zgx
 rw[ZdS need (ZdD need) (fun _ x=>decide (x<1) || decide (1000<x)) (fun _ _=>.inl ()) (.inr ()) (fun i x hi hx=>by
  simp only[ZdD,Zba hi,cT,Zn hx,bS,ZA hi (by omega)]
  cases decide (x<1)<;>cases decide (1000<x)<;>rfl) (by simp only[ZdD,Zbg];rfl),ZbE,ZfX,bS]
 unfold Zfk
 cases need.any fun n=>decide (n<1) || decide (1000<n)<;>cases ((need.length:Int)==(g.work.length:Int))<;>cases decide (1<=c)<;>cases decide (c<=8)<;>rfl
theorem ZmL {g:Zl} (hs:Zfj g) (need:List Int) (c:Int) (hn:need.length<=100000):ZhD g need c=some (bif Zen g need c==0 then (⟨List.replicate c.toNat (-1),need⟩,0) else (⟨[],[]⟩,Zen g need c)):=by
 unfold ZhD
 rw[ZoQ g hs,bS]
 by_cases h:Zen g need c=0
 ·have hin:=Zja.1 h
  have c1:=hin.c1
  have c8:=hin.c8
  have hok:Zfk g need c=true:=by
   unfold Zen at h
   rw[hin.ck,show((0:Int)==0)=true from rfl,cT] at h
   cases hq:Zfk g need c with
   | true=>rfl
   | false=>rw[hq] at h;exact absurd h (by decide)
  have hc:c=((c.toNat:Nat):Int):=by omega
  rw[h,hin.ck,show((0:Int) != 0)=false from rfl,cF,Zq4 g need c hn,hok,bS,cT]
  have key:=ZjW (c:=c.toNat) (Zde c) (fun i=>List.replicate i (-1)) (fun s=>s) (fun i hi=>by
   simp only[Zde,dT (show(i:Int)<c by omega),cT,length_replicate,ZaR (show i+1<=1073741824 by omega),Zhq]
   rw[ZbN (by omega)];rfl) (by
   simp only[Zde,dF (show ¬((c.toNat:Nat):Int)<c by omega)];rfl)
  rw[ZaR (show need.length<=1073741824 by omega),cT,show(lp (Zde c) (0,([]:List Int)))=_ from key]
  rfl
 ·rw[show(Zen g need c==0)=false from beq_eq_false_iff_ne.2 h,cF]
  by_cases hc:Zaa g=0
  ·have hok:Zfk g need c=false:=by
    unfold Zen at h
    rw[hc,show((0:Int)==0)=true from rfl,cT] at h
    cases hq:Zfk g need c with
    | false=>rfl
    | true=>rw[hq] at h;exact absurd rfl h
   rw[show Zen g need c=100 by unfold Zen;rw[hc,hok];rfl,hc,show((0:Int) != 0)=false from rfl,cF,Zq4 g need c hn,hok]
   rfl
  ·rw[show Zen g need c=Zaa g by unfold Zen;rw[beq_eq_false_iff_ne.2 hc];rfl,show(Zaa g != 0)=true from bne_iff_ne.2 hc]
   rfl
structure DqN (k:Nat) (d:Za):Prop where
 w:DqW d
 t:d.top=0
 b0:0<=d.bottom
 bk:d.bottom<=(k:Int)
theorem Zzh {d:Za}{k:Nat} (h:DqN k d) (hk:k<64) (x:Int):∃d',Zbk d x=some (d',0)/\DqN (k+1) d':=by
 have w:=h.w
 have:=h.t;have:=h.b0;have:=h.bk
 have hw:w64 (d.bottom-d.top)=d.bottom-d.top:=ZbN (by omega)
 have hw2:w64 (d.bottom+1)=d.bottom+1:=ZbN (by omega)
 have e:Zbk d x=some (⟨d.ring.set (plc d.bottom) x,d.top,d.bottom+1⟩,0):=by
  unfold Zbk
  rw[Zpd w]
  simp only[bS,show((0:Int) != 0)=false from rfl,cF,hw,hw2,w.len,dF (show ¬d.bottom<d.top by omega),show(d.bottom-d.top==((64:Nat):Int))=false from beq_eq_false_iff_ne.2 (by omega),ZkA w.len,ZgL w.len,Zhg w.len,toNat_natCast]
 refine⟨_,e,(Zjg w x).2 _ e,h.t,?_,?_⟩
 ·show 0<=d.bottom+1;omega
 ·show d.bottom+1<=((k+1:Nat):Int);omega
theorem ZFA:DqN 0 dq0:=⟨⟨by unfold dq0;simp,by unfold dq0;simp,by unfold dq0;simp,by unfold dq0;simp,by unfold dq0;simp⟩,rfl,by unfold dq0;simp,by unfold dq0;simp⟩
theorem DqN.le {k l:Nat}{d:Za} (h:DqN k d) (hl:k<=l):DqN l d:=⟨h.w,h.t,h.b0,by have:=h.bk;omega⟩
theorem Zs0 {c:Int}{R:List Int} (hR:R.length<=64) {ds r:List Za} (hd:∀d∈ds,DqN 0 d) (hl:ds.length<=1000) (hr:lp (Za1 c R) (0,ds)=some r):lp (Zd9 c R) (0,ds)=some r:=by
 obtain⟨r',q1,q2⟩:=Zr5 (g:=Zd9 c R) (fun s s'=>s=s'/\∃i:Nat,i<=R.length/\s.1=(i:Int)/\s.2.length<=1000/\∀d∈s.2,DqN i d) (fun r r'=>r=r') (fun s s' hs t ht=>by
  obtain⟨rfl,i,hi,h1,h2,h3⟩:=hs
  unfold Za1 at ht
  unfold Zd9
  by_cases q:s.1<(R.length:Int)
  ·rw[dT q,cT] at ht ⊢
   cases hx:Zs R s.1 with
   | none=>rw[hx] at ht;cases ht
   | some x=>
    rw[hx,bS] at ht
    rw[bS]
    cases hc:c==0 with
    | true=>rw[hc] at ht;cases ht
    | false=>
     rw[hc,cF] at ht
     rw[cF]
     cases hp:Zaq (Int.tmod x c) x s.2 with
     | none=>rw[hp] at ht;cases ht
     | some u=>
      rw[hp,bS] at ht
      obtain⟨d,e,hd,he,hcase⟩:=ZqD ⟨fun d hd=>(h3 d hd).w,h2⟩ hp
      have hm:=mG (Zhy _ _ _ hd).2.2
      obtain⟨d',p1,p2⟩:=Zzh (h3 d hm) (show i<64 by omega) x
      rw[(Zjg (h3 d hm).w x).1,p1] at he
      have he:=(Option.some.inj he).symm
      rcases hcase with⟨e0,rfl,_⟩ | ⟨e0,_⟩
      ·cases Option.some.inj ht
       have hw:w64 (s.1+1)=((i+1:Nat):Int):=by rw[h1];rw[ZbN (by omega)];omega
       refine⟨.inl (w64 (s.1+1),List.set s.2 (Int.tmod x c).toNat e.1),?_,rfl,i+1,by omega,hw,by rw[length_set];exact h2,fun y hy=>?_⟩
       ·rw[hd,bS,(Zjg (h3 d hm).w x).1,p1,bS,cF]
        unfold Ze1
        rw[ZaR (show s.2.length<=1073741824 by omega),cT,hd,bS,bS,he]
       ·rcases ZbD hy with hy | hy
        ·exact(h3 y hy).le (by omega)
        ·rw[hy,he];exact p2
      ·rw[he] at e0;exact absurd rfl e0
  ·rw[dF q,cF] at ht ⊢
   cases Option.some.inj ht
   exact⟨_,rfl,rfl⟩) (s':=(0,ds)) ⟨rfl,0,by omega,rfl,hl,hd⟩ hr
 rw[q1,q2]
theorem Zl3 {g:Zl}{need:List Int}{c:Int} (hin:Zp5 g need c) {ds:List Za} (h:ZcG g need c=some (.inr (List.replicate c.toNat (-1),ds))) :
  Zdm g need c=some (⟨⟨List.replicate c.toNat (-1),need⟩,ds,List.replicate c.toNat tk0,List.replicate c.toNat 0⟩,0):=by
 obtain⟨hG,hA⟩:=Zap hin.ck
 have hw:=hG.wl
 have hnl:=hin.nl
 have c1:=hin.c1
 have c8:=hin.c8
 have cr:ZcY g need (List.replicate c.toNat (-1)):=⟨hnl,by rw[length_replicate];omega,by rw[length_replicate];omega,ZoW c.toNat hin.rng⟩
 have hRl:(ZaS g.edges need (List.replicate c.toNat (-1))).length<=64:=le_trans (ZeF _ _ _) (by omega)
 have k0:=ZjW (c:=c.toNat) (ZaN c) (fun i=>List.replicate i dq0) (fun s=>s) (fun i hi=>by
  simp only[ZaN,dT (show(i:Int)<c by omega),cT,ZpY,bS,length_replicate,ZaR (show i+1<=1073741824 by omega),Zhq]
  rw[ZbN (by omega)];rfl) (by simp only[ZaN,dF (show ¬((c.toNat:Nat):Int)<c by omega)];rfl)
 have k0:lp (ZaN c) (0,([]:List Za))=some (List.replicate c.toNat dq0):=k0
 have k1:=ZjW (c:=c.toNat) (ZcX c) (fun i=>(List.replicate i dq0,List.replicate i tk0,List.replicate i (0:Int))) (fun s=>s) (fun i hi=>by
  simp only[ZcX,dT (show(i:Int)<c by omega),cT,length_replicate,ZaR (show i+1<=1073741824 by omega)]
  rw[ZbN (by omega),show(Za.mk (List.replicate (64:Int).toNat (0:Int)) 0 0)=dq0 from rfl,show(Zb.mk false 0 0 0 0 0)=tk0 from rfl,Zhq,Zhq,Zhq];rfl) (by simp only[ZcX,dF (show ¬((c.toNat:Nat):Int)<c by omega)];rfl)
 have k1:lp (ZcX c) (0,([]:List Za),([]:List Zb),([]:List Int))=some (List.replicate c.toNat dq0,List.replicate c.toNat tk0,List.replicate c.toNat (0:Int)):=k1
 unfold ZcG at h
 rw[Znt hG.short,Zja.2 hin] at h
 simp only[beq_self_eq_true,cT,bS] at h
 rw[dT (show(0:Int)<=c by omega),dT (show c<=lim by show c<=1073741824;omega)] at h
 simp only[decide_true,Bool.and_true,cT,k0,bS,Zky hin.ck cr] at h
 cases hr:lp (Za1 c (ZaS g.edges need (List.replicate c.toNat (-1)))) (0,List.replicate c.toNat dq0) with
 | none=>rw[hr] at h;cases h
 | some r=>
  rw[hr,bS] at h
  have e:r=ds:=congrArg (fun z=>match z with | .inr (_,a)=>a | _=>[]) (Option.some.inj h)
  subst e
  have hr2:=Zs0 hRl (fun d hd=>by rw[(List.mem_replicate.1 hd).2];exact ZFA) (by rw[length_replicate];omega) hr
  unfold Zdm
  rw[ZmL hG.short need c (by omega),Zja.2 hin,show((0:Int)==0)=true from rfl,cT,bS]
  dsimp only
  rw[show((0:Int) != 0)=false from rfl,cF,k1,bS,ZlZ hG cr,bS]
  dsimp only
  rw[hr2]
  rfl
theorem ZnR {g:Zl} (hs:Zfj g) {need:List Int}{c:Int} (hn:need.length<=100000) (h:Zen g need c≠0):Zdm g need c=some (⟨⟨[],[]⟩,[],[],[]⟩,Zen g need c):=by
 unfold Zdm
 rw[ZmL hs need c hn,show(Zen g need c==0)=false from beq_eq_false_iff_ne.2 h,cF,bS]
 dsimp only
 rw[show(Zen g need c != 0)=true from bne_iff_ne.2 h,cT]
theorem Zsl {g:Zl} (hs:Zfj g) {need picks:List Int}{c:Int} (hn:need.length<=100000) (h:Zen g need c≠0):ZeT g need c picks=some ([],0,Zen g need c):=by
 unfold ZeT
 rw[ZnR hs hn h,bS]
 dsimp only
 rw[show(Zen g need c != 0)=true from bne_iff_ne.2 h,cT]
theorem ZvW {g:Zl}{need picks:List Int}{c:Int} (hin:Zp5 g need c) (hs:need.sum<=4096) (hp:picks.length<=100000) :
  ∃(t:List (List Int)) (steps:Nat),ZeW g need c picks=some (t,(steps:Int),0)/\ZeT g need c picks=some (t,(steps:Int),0)/\t.length<=100000/\∀r∈t,r.length<=100000:=by
 have hc:=hin.ck
 obtain⟨hG,hA⟩:=Zap hc
 have hw:=hG.wl
 have hnl:=hin.nl
 have hrng:∀x∈need,0<=x/\x<=1000:=fun x hx=>by have:=hin.rng x hx;omega
 obtain⟨ds0,n1,G0⟩:=ZqY hin
 have hsum:=Znd hrng (by omega) (Zd3 need) (fun i s x hi hx=>by simp only[Zd3,Zba hi,cT,Zn hx,bS]) (fun s=>by simp only[Zd3,Zbg];rfl)
 have hsum2:=Znd hrng (by omega) (Zea need) (fun i s x hi hx=>by simp only[Zea,Zba hi,cT,Zn hx,bS]) (fun s=>by simp only[Zea,Zbg];rfl)
 have c1:=hin.c1
 have c8:=hin.c8
 have hE:ZfI g.edges need.length:=by rw[hnl];exact Zie hG
 have hAny:∀left:List Int,left.length<=1000->Zy left (fun z0=>ZcP z0)=some (left.any fun x=>decide (0<x)):=fun left hl=>
  ZfO left _ (fun x=>decide (0<x)) (fun x _=>by unfold ZcP;cases decide (0<x)<;>rfl) (by omega)
 have hpos0:∀left:List Int,(∀x∈left,0<=x/\x<=1000)->(left.any fun x=>decide (0<x))=decide (0<left.sum):=by
  intro left
  induction left with
  | nil=>intro _;rfl
  | cons y l ih=>
   intro h
   have h1:=h y (by simp)
   have h2:=ZrF l fun z hz=>h z (by simp[hz])
   rw[List.any_cons,ih fun z hz=>h z (by simp[hz]),sum_cons]
   by_cases hy:0<y
   ·rw[dT hy,Bool.true_or,dT (by omega)]
   ·rw[dF hy,Bool.false_or]
    exact decide_eq_decide.2 (by omega)
 have loop:∀(k:Nat) (steps:Nat) (last:Int) (t:List (List Int)) (on left:List Int) (ds:List Za) (ts:List Zb) (fs:List Int),left.sum<=(k:Int)->t.length+k<=4096->steps<=t.length*105000->Zst g c.toNat left on ds ts fs->Sched g.edges need c.toNat t left on->(∀r∈t,r.length<=100000) ->
   ∃(t':List (List Int)) (steps':Nat),lp (Zcd g picks) ((steps:Int),last,t,on,left,ds,ts,fs)=some (.inr ((steps':Int),t'))/\lp (Zcf g picks) (left.sum,(steps:Int),on,left,ds,ts,fs,t)=some ((steps':Int),t')/\t'.length<=100000/\∀r∈t',r.length<=100000:=by
  intro k
  induction k with
  | zero=>
   intro steps last t on left ds ts fs hk ht hst G S hrow
   have hr:=S.crew (fun x hx=>hin.rng x hx) hE
   have hll:=G.crew.ll
   have hs0:¬0<left.sum:=by omega
   refine⟨t,steps,?_,?_,by omega,hrow⟩
   ·rw[ZaD]
    simp only[Zcd]
    rw[hAny left (by omega),bS,hpos0 left hr.rng,dF hs0]
    rfl
   ·rw[ZaD]
    simp only[Zcf,dF hs0,cF]
  | succ k ih=>
   intro steps last t on left ds ts fs hk ht hst G S hrow
   have hll:=G.crew.ll
   have hr:=S.crew (fun x hx=>hin.rng x hx) hE
   by_cases hs0:0<left.sum
   ·have hany:(left.any fun x=>decide (0<x))=true:=by rw[hpos0 left hr.rng,dT hs0]
    have hpos:=(ZAi left).1 hany
    have hdl:(picks.drop (bif decide ((picks.length:Int)<(steps:Int)) then (picks.length:Int) else (steps:Int)).toNat).length<=100000:=by rw[length_drop];omega
    obtain⟨n,l',on1,ds1,ts1,fs1,q1,q2,q3,q4,q5⟩:=ZCF hc hdl G.toGangIn
    have z1:=Zwx hc G.toGangIn q1
    have G1:Zst g c.toNat left on1 ds1 ts1 fs1:=⟨q2,fun i hi=>Int.le_trans (q4.be i) (G.bnd i hi)⟩
    have F:=ZuA G.toGangIn q2 q3 q4
    obtain⟨ds2,done,r1,r2,r3⟩:=Zuo hc G1 q3
    obtain⟨dn,z2⟩:=Zqn hc q2 r2.crew r1
    have hb:=ZnF hG hA hll hpos hr F (by rw[G.ol];omega)
    have hsub:=Znx on1 left (F.nodes hr)
    have hm8:c.toNat<=8:=by omega
    have hsz:8*c.toNat*c.toNat*(c.toNat+1)<=8*8*8*9:=Nat.mul_le_mul (Nat.mul_le_mul (Nat.mul_le_mul_left 8 hm8) hm8) (by omega)
    have hn:n<=105000:=by rw[length_drop] at q5;omega
    have ho1:on1.length<=8:=by have:=q2.ol;omega
    have hr2:=(Sched.snoc S hpos F).crew (fun x hx=>hin.rng x hx) hE
    obtain⟨t',s',e1,e2,e3,e4⟩:=ih (steps+n) l' (t++[on1]) (ZD left on1) (ZG left on1) ds2 ts1 fs1 (by omega) (by rw[lA,length_singleton];omega) (by rw[lA,length_singleton];omega) r2 (.snoc S hpos F) (fun r hr=>by
     rcases List.mem_append.1 hr with hr | hr
     ·exact hrow r hr
     ·rw[List.mem_singleton.1 hr];omega)
    have hmin:(0:Int)<=(bif decide ((picks.length:Int)<(steps:Int)) then (picks.length:Int) else (steps:Int))/\(bif decide ((picks.length:Int)<(steps:Int)) then (picks.length:Int) else (steps:Int)).toNat<=picks.length:=by
     by_cases hlt:(picks.length:Int)<(steps:Int)
     ·rw[dT hlt,cT];omega
     ·rw[dF hlt,cF];omega
    refine⟨t',s',?_,?_,e3,e4⟩
    ·rw[ZaD]
     simp only[Zcd]
     rw[hAny left (by omega),bS,hany,cT,dT hmin.1,cT,Nat.ble_eq_true_of_le hmin.2,cT,q1,bS]
     dsimp only
     rw[show((0:Int) != 0)=false from rfl,cF,Zjh (show on1.length<=1073741824 by omega),bS,ZaR (show t.length+1<=1073741824 by omega),cT,r1,bS]
     dsimp only
     rw[Zgi (show -9223372036854775808<=(steps:Int)+(n:Int) by omega) (by omega),show(steps:Int)+(n:Int)=((steps+n:Nat):Int) by omega]
     exact e1
    ·have hsumT:=fun(step:Int×Int->Option ((Int×Int)⊕Int))=>Znd hr2.rng (show(ZG left on1).length<=64 by rw[ZbC];omega) step
     rw[ZaD]
     simp only[Zcf]
     rw[dT hs0,cT]
     by_cases hlt:(steps:Int)<(picks.length:Int)
     ·have hd:picks.drop (bif decide ((picks.length:Int)<(steps:Int)) then (picks.length:Int) else (steps:Int)).toNat=picks.drop steps:=by
       rw[dF (by omega),cF,toNat_natCast]
      rw[hd] at z1
      rw[dT hlt,cT,dT (show(0:Int)<=(steps:Int) by omega),cT,toNat_natCast,Nat.ble_eq_true_of_le (show steps<=picks.length by omega),cT,z1,bS]
      dsimp only
      rw[ZaR (show on1.length<=1073741824 by omega),cT,ZaR (show t.length+1<=1073741824 by omega),cT,z2,bS,hsumT _ (fun i s x hi hx=>by simp only[Ze6,Zba hi,cT,Zn hx,bS]) (fun s=>by simp only[Ze6,Zbg];rfl),bS]
      dsimp only
      rw[Zgi (show -9223372036854775808<=(steps:Int)+(n:Int) by omega) (by omega),show(steps:Int)+(n:Int)=((steps+n:Nat):Int) by omega]
      exact e2
     ·have hd:picks.drop (bif decide ((picks.length:Int)<(steps:Int)) then (picks.length:Int) else (steps:Int)).toNat=[]:=by
       refine List.drop_eq_nil_of_le ?_
       by_cases h2:(picks.length:Int)<(steps:Int)
       ·rw[dT h2,cT];omega
       ·rw[dF h2,cF];omega
      rw[hd] at z1
      rw[dF hlt,cF,z1,bS]
      dsimp only
      rw[ZaR (show on1.length<=1073741824 by omega),cT,ZaR (show t.length+1<=1073741824 by omega),cT,z2,bS,hsumT _ (fun i s x hi hx=>by simp only[Zep,Zba hi,cT,Zn hx,bS]) (fun s=>by simp only[Zep,Zbg];rfl),bS]
      dsimp only
      rw[Zgi (show -9223372036854775808<=(steps:Int)+(n:Int) by omega) (by omega),show(steps:Int)+(n:Int)=((steps+n:Nat):Int) by omega]
      exact e2
   ·refine⟨t,steps,?_,?_,by omega,hrow⟩
    ·rw[ZaD]
     simp only[Zcd]
     rw[hAny left (by omega),bS,hpos0 left hr.rng,dF hs0]
     rfl
    ·rw[ZaD]
     simp only[Zcf,dF hs0,cF]
 have hs0:=ZrF need hrng
 obtain⟨t',s',e1,e2,e3,e4⟩:=loop need.sum.toNat 0 0 [] (List.replicate c.toNat (-1)) need ds0 (List.replicate c.toNat tk0) (List.replicate c.toNat 0) (by omega) (by simp;omega) (by simp) G0 .nil (fun r hr=>by cases hr)
 refine⟨t',s',?_,?_,e3,e4⟩
 ·unfold ZeW
  rw[n1,bS]
  dsimp only
  rw[hsum,bS,dF (show ¬4096<need.sum by omega),cF,show(Zb.mk false 0 0 0 0 0)=tk0 from rfl,show(lp (Zcd g picks) (0,0,([]:List (List Int)),List.replicate c.toNat (-1),need,ds0,List.replicate c.toNat tk0,List.replicate c.toNat 0))=_ from e1,bS]
 ·unfold ZeT
  rw[Zl3 hin n1,bS]
  dsimp only
  rw[show((0:Int) != 0)=false from rfl,cF,hsum2,bS,dF (show ¬4096<need.sum by omega),cF,show(lp (Zcf g picks) (need.sum,0,List.replicate c.toNat (-1),need,ds0,List.replicate c.toNat tk0,List.replicate c.toNat 0,([]:List (List Int))))=_ from e2,bS]
section
section
variable {α β:Type} {A B:Option α} {Q:α->Option β->Prop}
theorem yB {c:Bool}{X Y:Option β} (h1:ZcI A Q X) (h2:ZcI B Q Y):ZcI (bif c then A else B) Q (br c X Y):=ZR rfl h1 h2
theorem yBn {c:Bool}{X Y:Option β} (h2:ZcI B Q Y):ZcI (bif c then none else B) Q (br c X Y):=ZR rfl ZB h2
theorem yBm {c:Bool}{X Y:Option β} (h1:ZcI A Q X):ZcI (bif c then A else none) Q (br c X Y):=ZR rfl h1 ZB
theorem yT {X Y:Option β} (h1:ZcI A Q X):ZcI A Q (br true X Y):=ZeS rfl h1
theorem yF {X Y:Option β} (h1:ZcI A Q Y):ZcI A Q (br false X Y):=ZDm rfl h1
theorem yG {γ:Type}{f:γ->D}{l:List γ}{i:Int}{A:γ->Option α}{K:D->Option β} (k:∀r,Zs l i=some r->ZcI (A r) Q (K (f r))):ZcI ((Zs l i).bind A) Q (bnd (Zs (l.map f) i) K):=ZzZ rfl rfl k
theorem yC {γ:Type}{Γ:Ctx}{f:Nat}{args:List V}{E:Option γ}{A:γ->Option α}{K:V->Option β}{enc:γ->D} (w:∀r,E=some r->evD Γ f args=some (enc r)) (k:∀r,E=some r->ZcI (A r) Q (ZvM (enc r) K)):ZcI (E.bind A) Q (bnd (evW Γ f args []) (ZnG K)):=Ztc enc w rfl k
theorem Zzb {γ:Type}{x:γ}{A:γ->Option α}{X:Option β} (k:ZcI (A x) Q X):ZcI ((some x).bind A) Q X:=k
theorem yR {a:α}{f:α->Option β}:ZcI (some a) (fun r rhs=>rhs=f r) (f a):=Zg rfl
theorem yBr {a:α}{c:Bool}{f:α->Option β}{Y:Option β} (h2:ZcI B (fun r rhs=>rhs=f r) Y):ZcI (bif c then some a else B) (fun r rhs=>rhs=f r) (br c (f a) Y):=yB yR h2
theorem evT {Γ : Ctx} {f : Nat} (fn : FnI) {args : List V} {E : Option α} {enc : α -> D} (hc : Γ.code f = some fn) (hn : Nat.beq args.length fn.nargs = true) (h : ZcI E (fun r rhs => rhs = some (enc r)) (Zga Γ 0 fn.body (Zas 0 args) [] fun x e H1 => (match x with
      | .exit _=>none
      | _=>(match Zhr e H1 fn.res with
        | some l=>ZdB 0 [ZeK l] H1 fun _ vs H2=>(match vs with | [v]=>(match fr H2 6 v with | some (x,_)=>some x | none=>none) | _=>none)
        | none=>none)))):∀r,E=some r->evD Γ f args=some (enc r):=by rw[ZA3 Γ f fn args hc hn];exact h
theorem evS {Γ : Ctx} {f : Nat} (fn : FnI) {args : List V} {H : Zh} {E : Option α} {enc : α -> V × Zh} (hc : Γ.code f = some fn) (hn : Nat.beq args.length fn.nargs = true) (h : ZcI E (fun r rhs => rhs = some (enc r)) (Zga Γ H.length fn.body (Zas 0 args) H fun x e H1 => (match x with
      | .exit _=>none
      | _=>(match Zhr e H1 fn.res with
        | some l=>ZdB H.length [ZeK l] H1 fun _ vs H2=>(match vs with | [v]=>some (v,H2) | _=>none)
        | none=>none)))):∀r,E=some r->evW Γ f args H=some (enc r):=by rw[ZA6 Γ f fn args H hc hn];exact h
theorem lpT {S R:Type}{step:S->Option (S⊕R)}{Γ:Ctx}{k:Nat}{live outs:List Nat}{b:C}{vs:S->List V}{H:S->Zh} (x:R->Ex×List V×Zh)
    (h:∀(s:S) (rec:S->Option R),(∀s r,rec s=some r->lpW Γ k live outs b (vs s) (H s)=some (x r))->ZcI (step s) (fun t rhs=>(match t with | .inl s'=>∀r,rec s'=some r->rhs=some (x r) | .inr r=>rhs=some (x r))) (Zga Γ k b (Zcp live (vs s)) (H s) fun x e H=>(match x with
      | .normal=>ZnM k (live.map e) H fun vs H=>bnd (lpW Γ k live outs b vs H) some
      | x=>ZdB k (outs.map e) H fun _ vs H=>some (x,vs,H)))):∀s r,lp step s=some r->lpW Γ k live outs b (vs s) (H s)=some (x r):=
  ZC4 (G:=fun s=>lpW Γ k live outs b (vs s) (H s)) x fun s rec ih=>by rw[ZDo];exact h s rec ih
end
theorem Zb4:∀r,ZbZ=some r->evD ctx 9 []=some (D.bool r):=fun r h=>by
  cases h
  exact ZCh 100 (by kernel_rfl)
def Zo (r:Bool):D:=(D.bool r)
theorem ZoU {t0 t1:Bool}{a:Zl}:∀r,(Zhv a)=some r->evD ctx 10 [(.d (zK1 t0 a.work t1 a.edges))]=some (Zo r):=
 evT ZBn rfl rfl <| Zd (Zj _ _) (yB (Zd (Zj _ _) (yBr yR))
  yR)
def Zgr (t0:Bool) (a:List Int):(Unit⊕(Unit⊕Unit))->Ex×List V×Zh
  | (.inl r)=>(.ret,[(.d (D.bool true))],[])
  | (.inr (.inl r))=>(.ret,[(.d (D.bool false))],[])
  | (.inr (.inr r))=>(.exit 0,[.bad],[])
theorem ZjX {t0:Bool}{a:List Int}:∀s0 r,lp (ZbA a) s0=some r->lpW ctx 0 [0,3,4] [2] Zzm [(zV t0 a),(zN s0.1),(zN s0.2)] []=some ((Zgr t0 a) r):=
 lpT (Zgr t0 a) fun s0 _ ih=>Zd (Zj _ _) (yB (yG fun x1 hx1=>
  yB (Zk (Zai rfl hx1) (yB (Zg rfl)
  (Zg rfl)))
  (Zk (Zai rfl hx1) (yB (Zk (Zai rfl hx1) (yB (Zg rfl)
  (Zg rfl)))
  (Zk (Zai rfl hx1) (Ze (ih _))))))
  (Zg rfl))
theorem ZmI {t0:Bool}{a:List Int}:∀r,(Zfg a)=some r->evD ctx 11 [(zV t0 a)]=some (Zo r):=
 evT ZCp rfl rfl <| (by
 conv=>rhs;whnf
 refine Zi _ (ZjX _) fun r2 _=>?_
 rcases r2 with r2 | (r2 | r2)
 exact yR
 exact yR
 exact yR)
def Zqq (t0 t1:Bool) (a:Zl):Unit->V×Zh
  | r=>((.agg [(.sl 0 1),(.sl 1 2)]),[(zA a.work),(.arr 2 (List.map Za2 a.edges))])
theorem Zkf {t0 t1:Bool}{a:Zl}:∀r,(ZfY a)=some r->evW ctx 13 [(.d (zK1 t0 a.work t1 a.edges))] []=some ((Zqq t0 t1 a) r):=
 evS ZCg rfl rfl <| ZeS (Za9 (f:=Zp) (fun _=>⟨rfl,rfl⟩) a.work 0) (ZR (Zbq Zp a.work) (Zd (rfl:_=List.map Zp a.work) (ZeS (Za9 (f:=Za2) (fun _=>⟨rfl,rfl⟩) a.edges 0) (ZR (Zbq Za2 a.edges) (Zd (rfl:_=List.map Za2 a.edges) yR)
  ZB)))
  ZB)
def ZjT (t0:Bool) (a:List Int):Unit->V×Zh
  | r=>((.sl 0 1),[(zA a)])
theorem Zge {t0:Bool}{a:List Int}:∀r,(Zej a)=some r->evW ctx 14 [(zV t0 a)] []=some ((ZjT t0 a) r):=
 evS ZCz rfl rfl <| ZeS (Za9 (f:=Zp) (fun _=>⟨rfl,rfl⟩) a 0) (ZR (Zbq Zp a) (Zd (rfl:_=List.map Zp a) yR)
  ZB)
theorem Znb {a:Int}:∀r,(ZbY a)=some r->evD ctx 142 [(zN a)]=some (Zo r):=
 evT ZyG rfl rfl <| yBr (yBr yR)
def Zc (r:Int):D:=(Zp r)
def Zq (t0:Bool) (a:List Int):(Int⊕Unit)->Ex×List V×Zh
  | (.inl r)=>(.ret,[(zN r)],[])
  | (.inr r)=>(.exit 0,[.bad],[])
theorem ZcB {t0:Bool}{a:List Int}:∀s0 r,lp (Zx a (fun z0=>ZbY z0)) s0=some r->lpW ctx 0 [0,1,7,8] [4] Zm9 [(zV t0 a),(.d (D.fn 142 [])),(zN (a.length:Int)),(zN s0)] []=some ((Zq t0 a) r):=
 lpT (Zq t0 a) fun s0 _ ih=>yB (yG fun x1 _=>
  yC Znb fun x2 _=>
  yB (Zg rfl)
  (Ze (ih _)))
  (Zg rfl)
theorem Zdh {t0:Bool}{a:List Int}:∀r,(ZE a (fun z0=>ZbY z0))=some r->evD ctx 94 [(zV t0 a),(.d (D.fn 142 []))]=some (Zc r):=
 evT Zui rfl rfl <| Zd (Zj _ _) (by
 conv=>rhs;whnf
 refine Zi _ (ZcB _) fun r3 _=>?_
 rcases r3 with r3 | r3
 exact yR
 exact yR)
theorem ZcD {t0:Bool}{a:List Int}:∀r,(Zy a (fun z0=>ZbY z0))=some r->evD ctx 44 [(zV t0 a),(.d (D.fn 142 []))]=some (Zo r):=
 evT Zwz rfl rfl <| yC Zdh fun x0 _=>
  yBr yR
theorem Zim {t0 t1:Bool}{a:Int}{b0:List Int}{b1:List Zt}:∀r,(Zex a b0)=some r->evD ctx 143 [(zN a),(.d (D.rptr [(zL t0 b0),(zM t1 Za2 b1)]))]=some (Zo r):=
 evT ZyX rfl rfl <| yB (Zd (Zj _ _) (yBr yR))
  yR
def ZcS (t0:Bool) (a:List Zt) (b:Zt):(Int⊕Unit)->Ex×List V×Zh
  | (.inl r)=>(.ret,[(zN r)],[])
  | (.inr r)=>(.exit 0,[.bad],[])
theorem Zfc {t0:Bool}{a:List Zt}{b:Zt}:∀s0 r,lp (ZaC a b) s0=some r->lpW ctx 0 [0,3,7,8] [4] ZuN [(zW t0 Za2 a),(.ptr 0 0),(zN (a.length:Int)),(zN s0)] [(.cells [(zN b.src),(zN b.dst)])]=some ((ZcS t0 a b) r):=
 lpT (ZcS t0 a b) fun s0 _ ih=>yB (yG fun x1 _=>
  yB (Zg rfl)
  (Ze (ih _)))
  (Zg rfl)
theorem Zf8 {t0:Bool}{a:List Zt}{b:Zt}:∀r,(Zb9 a b)=some r->evD ctx 174 [(zW t0 Za2 a),(.d (ZzJ b.src b.dst))]=some (Zc r):=
 evT Zy2 rfl rfl <| Zd (Zj _ _) (by
 conv=>rhs;whnf
 refine Zi _ (Zfc _) fun r2 _=>?_
 rcases r2 with r2 | r2
 exact yR
 exact yR)
theorem Zfd {t0:Bool}{a:List Zt}{b:Zt}:∀r,(ZaI a b)=some r->evD ctx 136 [(zW t0 Za2 a),(.d (ZzJ b.src b.dst))]=some (Zo r):=
 evT ZyE rfl rfl <| yC Zf8 fun x0 _=>
  yBr yR
def Zqh (r:((List Int)×Bool)):D:=(D.tup [(zL true r.1),(D.bool r.2)])
def ZiO (t0 t1:Bool) (a:Zl) (s0:(List Int)×(List Bool)) (s1:Int):(Unit⊕Unit)->Ex×List V×Zh
  | (.inl r)=>(.exit 3,[(.ptr 0 0),(.sl 1 1),(.sl 2 1),(zN s1),(zN (a.work.length:Int)),(zN s1)],[(zK0 t0 a.work t1 a.edges),(zA s0.1),(.arr 1 (List.map D.bool s0.2))])
  | (.inr r)=>(.exit 4,[(.ptr 0 0),(.sl 1 1),(.sl 2 1),(zN s1),(zN (a.work.length:Int)),(zN s1)],[(zK0 t0 a.work t1 a.edges),(zA s0.1),(.arr 1 (List.map D.bool s0.2))])
theorem Zmv {t0 t1:Bool}{a:Zl}{s0:(List Int)×(List Bool)}{s1:Int}:∀s3 r,lp (Zec a s0 s1) s3=some r->lpW ctx 0 [1,4,5,6,21,22,30,31,32] [1,4,5,6,21,22] Zu9 [(.ptr 0 0),(.sl 1 1),(.sl 2 1),(zN s1),(zN (a.work.length:Int)),(zN s1),(zW t1 Za2 a.edges),(zN (a.edges.length:Int)),(zN s3)] [(zK0 t0 a.work t1 a.edges),(zA s0.1),(.arr 1 (List.map D.bool s0.2))]=some ((ZiO t0 t1 a s0 s1) r):=
 lpT (ZiO t0 t1 a s0 s1) fun s3 _ ih=>yB (yG fun x4 _=>
  yB (yG fun x5 hx5=>
  Zk (ZV rfl hx5) (yB (Ze (ih _))
  (Zg rfl)))
  (Ze (ih _)))
  (Zg rfl)
def ZiG (t0 t1:Bool) (a:Zl) (s0:(List Int)×(List Bool)):(((List Int)×(List Bool))⊕Unit)->Ex×List V×Zh
  | (.inl r)=>(.exit 1,[(.ptr 0 0),(.sl 1 1),(.sl 2 1)],[(zK0 t0 a.work t1 a.edges),(zA r.1),(.arr 1 (List.map D.bool r.2))])
  | (.inr r)=>(.exit 2,[(.ptr 0 0),(.sl 1 1),(.sl 2 1)],[(zK0 t0 a.work t1 a.edges),(zA s0.1),(.arr 1 (List.map D.bool s0.2))])
theorem ZmE {t0 t1:Bool}{a:Zl}{s0:(List Int)×(List Bool)}:∀s1 r,lp (ZcV a s0) s1=some r->lpW ctx 0 [1,4,5,21,22] [1,4,5] ZvJ [(.ptr 0 0),(.sl 1 1),(.sl 2 1),(zN (a.work.length:Int)),(zN s1)] [(zK0 t0 a.work t1 a.edges),(zA s0.1),(.arr 1 (List.map D.bool s0.2))]=some ((ZiG t0 t1 a s0) r):=
 lpT (ZiG t0 t1 a s0) fun s1 _ ih=>yB (yG fun x2 hx2=>
  Zk (ZV rfl hx2) (yB (Ze (ih _))
  (Zd (Zj _ _) (by
 conv=>rhs;whnf
 refine Zi _ (Zmv _) fun r6 _=>?_
 rcases r6 with r6 | r6
 exact Ze (ih _)
 exact Zk (Zai rfl hx2) (Zk (ZV rfl hx2) (Zd (Zax D.bool s0.2 s1.toNat true) (yT (ZR (ZaG Zp s0.1 1) (Zd (ZaE Zp s0.1 [s1]) (Zg rfl))
  ZB))))))))
  (Zg rfl)
def Zii (t0 t1:Bool) (a:Zl):((List Int)⊕(List Int))->Ex×List V×Zh
  | (.inl r)=>(.ret,[(.nilsl 1),(.d (D.bool false)),(.sl 0 1)],[(zA r)])
  | (.inr r)=>(.exit 0,[.bad,.bad,(.sl 0 1)],[(zA r)])
theorem ZmQ {t0 t1:Bool}{a:Zl}:∀s0 r,lp (Zed a) s0=some r->lpW ctx 0 [1,4,5] [2,3,4] Zvg [(.ptr 0 0),(.sl 1 1),(.sl 2 1)] [(zK0 t0 a.work t1 a.edges),(zA s0.1),(.arr 1 (List.map D.bool s0.2))]=some ((Zii t0 t1 a) r):=
 lpT (Zii t0 t1 a) fun s0 _ ih=>Zd (Zj _ _) (Zd (Zj _ _) (yB (Zd (Zj _ _) (by
 conv=>rhs;whnf
 refine Zi _ (ZmE _) fun r7 _=>?_
 rcases r7 with r7 | r7
 exact Ze (ih _)
 exact Zg rfl))
  (Zg rfl)))
theorem Zph {t0 t1:Bool}{a:Zl}:∀r,(ZeN a)=some r->evD ctx 144 [(.d (zK1 t0 a.work t1 a.edges))]=some (Zqh r):=
 evT ZxB rfl rfl <| Zd (Zj _ _) (yBm (Zd (ZgD D.bool (false:Bool) (a.work.length:Int)) (by
 conv=>rhs;whnf
 refine Zi _ (ZmQ _) fun r8 _=>?_
 rcases r8 with r8 | r8
 exact yR
 exact yR)))
def Zio (t0 t1:Bool) (a:Zl):(Unit⊕Unit)->Ex×List V×Zh
  | (.inl r)=>(.ret,[(.ptr 0 0),(zN 42)],[(zK0 t0 a.work t1 a.edges)])
  | (.inr r)=>(.exit 0,[(.ptr 0 0),.bad],[(zK0 t0 a.work t1 a.edges)])
theorem ZmR {t0 t1:Bool}{a:Zl}:∀s1 r,lp (Zdj a) s1=some r->lpW ctx 0 [1,3,23,24,25] [1,2] Zyg [(.ptr 0 0),(.fn 143 [(.ptr 0 0)]),(zW t1 Za2 a.edges),(zN (a.edges.length:Int)),(zN s1)] [(zK0 t0 a.work t1 a.edges)]=some ((Zio t0 t1 a) r):=
 lpT (Zio t0 t1 a) fun s1 _ ih=>yB (yG fun x2 _=>
  yC Zim fun x3 _=>
  yB (yC Zim fun x4 _=>
  yB (yB (Zg rfl)
  (yBm (ZR (Zvi Za2 a.edges s1.toNat) (yT (Zd (Zou Za2 a.edges s1.toNat) (yC Zfd fun x5 _=>
  yB (Zg rfl)
  (Ze (ih _)))))
  ZB)))
  (Zg rfl))
  (Zg rfl))
  (Zg rfl)
theorem Zhh {t0 t1:Bool}{a:Zl}:∀r,(ZeR a)=some r->evD ctx 85 [(.d (zK1 t0 a.work t1 a.edges))]=some (Zc r):=
 evT ZBo rfl rfl <| Zd (Zj _ _) (yBr (Zd (Zj _ _) (yBr (yC ZcD fun x0 _=>
  yBr (Zd (Zj _ _) (by
 conv=>rhs;whnf
 refine Zi _ (ZmR _) fun r6 _=>?_
 rcases r6 with r6 | r6
 exact yR
 exact yC Zph fun x7 _=>
  yBr yR))))))
theorem ZlW {a:Int}:∀r,(ZbF a)=some r->evD ctx 127 [(zN a)]=some (Zo r):=
 evT ZyL rfl rfl <| yBr (yBr yR)
theorem Zcn {t0:Bool}{a:List Int}:∀s0 r,lp (Zx a (fun z0=>ZbF z0)) s0=some r->lpW ctx 0 [0,1,7,8] [4] Zm9 [(zV t0 a),(.d (D.fn 127 [])),(zN (a.length:Int)),(zN s0)] []=some ((Zq t0 a) r):=
 lpT (Zq t0 a) fun s0 _ ih=>yB (yG fun x1 _=>
  yC ZlW fun x2 _=>
  yB (Zg rfl)
  (Ze (ih _)))
  (Zg rfl)
theorem ZcR {t0:Bool}{a:List Int}:∀r,(ZE a (fun z0=>ZbF z0))=some r->evD ctx 94 [(zV t0 a),(.d (D.fn 127 []))]=some (Zc r):=
 evT Zui rfl rfl <| Zd (Zj _ _) (by
 conv=>rhs;whnf
 refine Zi _ (Zcn _) fun r3 _=>?_
 rcases r3 with r3 | r3
 exact yR
 exact yR)
theorem Zco {t0:Bool}{a:List Int}:∀r,(Zy a (fun z0=>ZbF z0))=some r->evD ctx 44 [(zV t0 a),(.d (D.fn 127 []))]=some (Zo r):=
 evT Zwz rfl rfl <| yC ZcR fun x0 _=>
  yBr yR
def Zn8 (r:(Bool×Int)):D:=(D.tup [(D.bool r.1),(Zp r.2)])
theorem Znm {t0 t1 t2:Bool}{a:Zl}{b:List Int}{c:Int}:∀r,(ZfK a b c)=some r->evD ctx 73 [(.d (zK1 t0 a.work t1 a.edges)),(zV t2 b),(zN c)]=some (Zn8 r):=
 evT ZBw rfl rfl <| yC Zhh fun x0 _=>
  yBr (Zd (Zj _ _) (Zd (Zj _ _) (yB (yC Zco fun x1 _=>
  yBr (yB (yBr yR)
  yR))
  yR)))
theorem ZmK {t0:Bool}{a:List Int}{b0:Int}:∀r,(Zc5 a b0)=some r->evD ctx 118 [(zV t0 a),(.d (D.rptr [(Zp b0)]))]=some (Zo r):=
 evT ZyK rfl rfl <| Zd (Zj _ _) (yBr yR)
def Zaw (t0:Bool) (a:(List (List Int))) (b0:Int):(Int⊕Unit)->Ex×List V×Zh
  | (.inl r)=>(.ret,[(zN r)],[])
  | (.inr r)=>(.exit 0,[.bad],[])
theorem Zcj {t0:Bool}{a:(List (List Int))}{b0:Int}:∀s0 r,lp (Zcr a (fun z0=>Zc5 z0 b0)) s0=some r->lpW ctx 0 [0,1,7,8] [4] Zvm [(.d (D.list t0 (List.map (ZbL true) a))),(.d (D.fn 118 [(D.rptr [(Zp b0)])])),(zN (a.length:Int)),(zN s0)] []=some ((Zaw t0 a b0) r):=
 lpT (Zaw t0 a b0) fun s0 _ ih=>yB (yG fun x1 _=>
  yC ZmK fun x2 _=>
  yB (Zg rfl)
  (Ze (ih _)))
  (Zg rfl)
theorem ZcJ {t0:Bool}{a:(List (List Int))}{b0:Int}:∀r,(Zbf a (fun z0=>Zc5 z0 b0))=some r->evD ctx 170 [(.d (D.list t0 (List.map (ZbL true) a))),(.d (D.fn 118 [(D.rptr [(Zp b0)])]))]=some (Zc r):=
 evT Zx0 rfl rfl <| Zd (Zj _ _) (by
 conv=>rhs;whnf
 refine Zi _ (Zcj _) fun r3 _=>?_
 rcases r3 with r3 | r3
 exact yR
 exact yR)
theorem Zcc {t0:Bool}{a:(List (List Int))}{b0:Int}:∀r,(Zao a (fun z0=>Zc5 z0 b0))=some r->evD ctx 119 [(.d (D.list t0 (List.map (ZbL true) a))),(.d (D.fn 118 [(D.rptr [(Zp b0)])]))]=some (Zo r):=
 evT ZyD rfl rfl <| yC ZcJ fun x0 _=>
  yBr yR
def Zn6 (t0:Bool) (a:List Int):(List Int)->V×Zh
  | r=>((.ptr 0 0),[(zK8 t0 a),(zA (List.replicate (a.length:Int).toNat (0:Int))),(.arr 2 (List.map Zfs (List.replicate (a.length:Int).toNat ((ZaA.mk 0 0):ZaA)))),(zA r)])
def Zho (t0:Bool) (a:List Int):(List Int)->Ex×List V×Zh
  | r=>(.exit 0,[(.ptr 0 0)],[(zK8 t0 a),(zA (List.replicate (a.length:Int).toNat (0:Int))),(.arr 2 (List.map Zfs (List.replicate (a.length:Int).toNat ((ZaA.mk 0 0):ZaA)))),(zA r)])
theorem ZkW {t0:Bool}{a:List Int}:∀s0 r,lp (Zbc a) s0=some r->lpW ctx 0 [3,18,19] [3] Zvo [(.ptr 0 0),(zN (a.length:Int)),(zN s0.1)] [(zK8 t0 a),(zA (List.replicate (a.length:Int).toNat (0:Int))),(.arr 2 (List.map Zfs (List.replicate (a.length:Int).toNat ((ZaA.mk 0 0):ZaA)))),(zA s0.2)]=some ((Zho t0 a) r):=
 lpT (Zho t0 a) fun s0 _ ih=>yB (yG fun x1 hx1=>
  Zk (ZV rfl hx1) (Zd (Zax Zp s0.2 s0.1.toNat (-1)) (Ze (ih _))))
  (Zg rfl)
theorem Zns {t0:Bool}{a:List Int}:∀r,(ZfE a)=some r->evW ctx 120 [(zV t0 a)] []=some ((Zn6 t0 a) r):=
 evS Zyz rfl rfl <| Zd (Zj _ _) (yBm (Zd (ZgD Zp (0:Int) (a.length:Int)) (Zd (Zj _ _) (yBm (Zd (ZgD Zfs ((ZaA.mk 0 0):ZaA) (a.length:Int)) (Zd (Zj _ _) (yBm (Zd (ZgD Zp (0:Int) (a.length:Int)) (Zd (Zj _ _) (Zi _ (ZkW _) fun r2 _=>
  yR))))))))))
def Zds (t0:Bool) (a:List Int) (b:Int):(Int⊕Unit)->Ex×List V×Zh
  | (.inl r)=>(.ret,[(zN r)],[])
  | (.inr r)=>(.exit 0,[.bad],[])
theorem ZfA {t0:Bool}{a:List Int}{b:Int}:∀s0 r,lp (ZaX a b) s0=some r->lpW ctx 0 [0,1,7,8] [4] ZuH [(zV t0 a),(zN b),(zN (a.length:Int)),(zN s0)] []=some ((Zds t0 a b) r):=
 lpT (Zds t0 a b) fun s0 _ ih=>yB (yG fun x1 _=>
  yB (Zg rfl)
  (Ze (ih _)))
  (Zg rfl)
theorem ZgJ {t0:Bool}{a:List Int}{b:Int}:∀r,(ZcQ a b)=some r->evD ctx 123 [(zV t0 a),(zN b)]=some (Zc r):=
 evT ZyM rfl rfl <| Zd (Zj _ _) (by
 conv=>rhs;whnf
 refine Zi _ (ZfA _) fun r2 _=>?_
 rcases r2 with r2 | r2
 exact yR
 exact yR)
theorem ZT {t0:Bool}{a:List Int}{b:Int}:∀r,(ZK a b)=some r->evD ctx 71 [(zV t0 a),(zN b)]=some (Zo r):=
 evT ZB4 rfl rfl <| yC ZgJ fun x0 _=>
  yBr yR
theorem Zkq {t0 t1:Bool}{t2 t3:Bool}{a0:List Int}{a1:List Int}{a2:List ZaA}{a3:List Int}{b c:Int}:∀r,(ZhA a3 b c)=some r->evD ctx 126 [(.d (ZtB t0 a0 t1 a1 t2 a2 t3 a3)),(zN b),(zN c)]=some (Zo r):=
 evT ZyI rfl rfl <| yG fun x0 hx0=>
  yB (Zk (Zai rfl hx0) (yBr yR))
  yR
theorem Zjl {t0 t1:Bool}{t2 t3:Bool}{a:Zt}{b0:Int}{c0:List Int}{c1:List Int}{c2:List ZaA}{c3:List Int}{d0:Int}:∀r,(ZbK a b0 c3 d0)=some r->evD ctx 125 [(.d (ZzJ a.src a.dst)),(.d (D.rptr [(Zp b0)])),(.d (D.rptr [(ZtB t0 c0 t1 c1 t2 c2 t3 c3)])),(.d (D.rptr [(Zp d0)]))]=some (Zo r):=
 evT Zyo rfl rfl <| yB (yC Zkq fun x0 _=>
  yBr yR)
  yR
def Zam (t0 t1 t2 t3 t4:Bool) (a:List Zt) (b0:Int) (b1:List Int) (b2:List Int) (b3:List ZaA) (b4:List Int) (b5:Int):(Int⊕Unit)->Ex×List V×Zh
  | (.inl r)=>(.ret,[(zN r)],[])
  | (.inr r)=>(.exit 0,[.bad],[])
theorem Zbv {t0 t1:Bool}{t2 t3 t4:Bool}{a:List Zt}{b0:Int}{b1:List Int}{b2:List Int}{b3:List ZaA}{b4:List Int}{b5:Int}:∀s0 r,lp (ZY a (fun z0=>ZbK z0 b0 b4 b5)) s0=some r->lpW ctx 0 [0,1,7,8] [4] ZrQ [(zW t0 Za2 a),(.d (D.fn 125 [(D.rptr [(Zp b0)]),(D.rptr [(ZtB t1 b1 t2 b2 t3 b3 t4 b4)]),(D.rptr [(Zp b5)])])),(zN (a.length:Int)),(zN s0)] []=some ((Zam t0 t1 t2 t3 t4 a b0 b1 b2 b3 b4 b5) r):=
 lpT (Zam t0 t1 t2 t3 t4 a b0 b1 b2 b3 b4 b5) fun s0 _ ih=>yB (yG fun x1 _=>
  yC Zjl fun x2 _=>
  yB (Zg rfl)
  (Ze (ih _)))
  (Zg rfl)
theorem ZbS {t0 t1:Bool}{t2 t3 t4:Bool}{a:List Zt}{b0:Int}{b1:List Int}{b2:List Int}{b3:List ZaA}{b4:List Int}{b5:Int}:∀r,(Zay a (fun z0=>ZbK z0 b0 b4 b5))=some r->evD ctx 171 [(zW t0 Za2 a),(.d (D.fn 125 [(D.rptr [(Zp b0)]),(D.rptr [(ZtB t1 b1 t2 b2 t3 b3 t4 b4)]),(D.rptr [(Zp b5)])]))]=some (Zc r):=
 evT Zu7 rfl rfl <| Zd (Zj _ _) (by
 conv=>rhs;whnf
 refine Zi _ (Zbv _) fun r3 _=>?_
 rcases r3 with r3 | r3
 exact yR
 exact yR)
theorem Zbw {t0 t1:Bool}{t2 t3 t4:Bool}{a:List Zt}{b0:Int}{b1:List Int}{b2:List Int}{b3:List ZaA}{b4:List Int}{b5:Int}:∀r,(ZQ a (fun z0=>ZbK z0 b0 b4 b5))=some r->evD ctx 124 [(zW t0 Za2 a),(.d (D.fn 125 [(D.rptr [(Zp b0)]),(D.rptr [(ZtB t1 b1 t2 b2 t3 b3 t4 b4)]),(D.rptr [(Zp b5)])]))]=some (Zo r):=
 evT ZvO rfl rfl <| yC ZbS fun x0 _=>
  yBr yR
theorem Zf9 {t0 t1:Bool}{t2 t3:Bool}{t4 t5:Bool}{a0:List Int}{a1:List Int}{a2:List ZaA}{a3:List Int}{b:Zl}{c d:Int}:∀r,(Zfb a3 b c d)=some r->evD ctx 72 [(.d (ZtB t0 a0 t1 a1 t2 a2 t3 a3)),(.d (zK1 t4 b.work t5 b.edges)),(zN c),(zN d)]=some (Zo r):=
 evT ZBg rfl rfl <| yC Zbw fun x0 _=>
  yBr yR
theorem Zk1 {t0 t1:Bool}{t2 t3:Bool}{t4 t5 t6:Bool}{a0:List Int}{a1:List Int}{a2:List ZaA}{a3:List Int}{b:Zl}{c:List Int}{d e:Int}:∀r,(ZiJ a0 a1 a2 a3 b c d e)=some r->evD ctx 121 [(.d (ZtB t0 a0 t1 a1 t2 a2 t3 a3)),(.d (zK1 t4 b.work t5 b.edges)),(zV t6 c),(zN d),(zN e)]=some (Zc r):=
 evT Zxp rfl rfl <| yG fun x0 _=>
  yBr (Zd (Zj _ _) (yBr (yBm (ZR (Zvi Zp c e.toNat) (yT (Zd (Zou Zp c e.toNat) (yC ZT fun x1 _=>
  yBr (yG fun x2 hx2=>
  yG fun x3 _=>
  yBr (Zk (Zai rfl hx2) (yB (yG fun x4 _=>
  yBr (Zk (Zai rfl hx2) (yB (yC Zf9 fun x5 _=>
  yBr yR)
  yR)))
  (Zk (Zai rfl hx2) (yB (yC Zf9 fun x6 _=>
  yBr yR)
  yR))))))))
  ZB))))
def Zpw (t0 t1:Bool) (b:Int) (c:List Int) (mA:List Int) (mB:List Int) (mC:List ZaA) (mE:List Int):Unit->V×Zh
  | r=>((.d (D.tup [])),[(zK8 t1 mA),(zA mB),(.arr 2 (List.map Zfs mC)),(zA mE)])
theorem Zn9 {t0 t1:Bool}{b:Int}{c:List Int}{mA:List Int}{mB:List Int}{mC:List ZaA}{mE:List Int}:∀r,(ZmC b c)=some r->evW ctx 69 [(.ptr 0 0),(zN b),(zV t0 c)] [(zK8 t1 mA),(zA mB),(.arr 2 (List.map Zfs mC)),(zA mE)]=some ((Zpw t0 t1 b c mA mB mC mE) r):=
 evS ZCo rfl rfl <| yR
def Zlt (t0:Bool) (b c d:Int) (mA:List Int) (mB:List Int) (mC:List ZaA) (mE:List Int):((List Int)×(List Int))->V×Zh
  | r=>((.d (D.tup [])),[(zK8 t0 mA),(zA r.1),(.arr 2 (List.map Zfs (List.set mC b.toNat (ZaA.mk c d)))),(zA r.2)])
theorem ZkM {t0:Bool}{b c d:Int}{mA:List Int}{mB:List Int}{mC:List ZaA}{mE:List Int}:∀r,(Zif b c d mA mB mC mE)=some r->evW ctx 122 [(.ptr 0 0),(zN b),(zN c),(zN d)] [(zK8 t0 mA),(zA mB),(.arr 2 (List.map Zfs mC)),(zA mE)]=some ((Zlt t0 b c d mA mB mC mE) r):=
 evS Zw6 rfl rfl <| yG fun x0 hx0=>
  Zk (ZV rfl hx0) (Zk (Zai rfl hx0) (Zk (ZV rfl hx0) (Zd (Zax Zp mB b.toNat (w64 (x0+1))) (yG fun x1 hx1=>
  Zk (ZV rfl hx1) (Zd (Zax Zfs mC b.toNat (ZaA.mk c d)) (yG fun x2 hx2=>
  Zk (ZV rfl hx2) (yG fun x3 _=>
  yB (yG fun x4 hx4=>
  Zk (ZV rfl hx4) (Zd (Zax Zp mE b.toNat (w64 (c+1))) yR))
  yR)))))))
def ZgY (t0 t1 t2 t3:Bool) (a:Zl) (b:List Int) (c:Int) (d:(List (List Int))):(Int⊕(Int×(List Int)×(List ZaA)×(List Int)))->V×Zh
  | (.inl r)=>((.d (D.tup [(D.nilp),(Zp r)])),[])
  | (.inr r)=>((.tup [(.ptr 0 0),(zN r.1)]),[(zK8 t2 b),(zA r.2.1),(.arr 2 (List.map Zfs r.2.2.1)),(zA r.2.2.2)])
def Zdn (t0 t1 t2 t3:Bool) (a:Zl) (b:List Int) (d:(List (List Int))) (s3:Int×Int×(List Int)×(List ZaA)×(List Int)) (x4:List Int):(Int⊕Int)->Ex×List V×Zh
  | (.inl r)=>(.exit 0,[(.d (D.fn 69 [])),(.ptr 0 0),(zN r),(.ptr 1 0),(zN s3.2.1),(zV true x4),(.d (D.list t3 (List.map (ZbL true) d))),(zN (d.length:Int)),(zN s3.2.1)],[(zK0 t0 a.work t1 a.edges),(Zwd t2 b),(zA s3.2.2.1),(.arr 2 (List.map Zfs s3.2.2.2.1)),(zA s3.2.2.2.2)])
  | (.inr r)=>(.exit 2,[(.d (D.fn 69 [])),(.ptr 0 0),(zN r),(.ptr 1 0),(zN s3.2.1),(zV true x4),(.d (D.list t3 (List.map (ZbL true) d))),(zN (d.length:Int)),(zN s3.2.1)],[(zK0 t0 a.work t1 a.edges),(Zwd t2 b),(zA s3.2.2.1),(.arr 2 (List.map Zfs s3.2.2.2.1)),(zA s3.2.2.2.2)])
theorem Zfw {t0 t1:Bool}{t2 t3:Bool}{a:Zl}{b:List Int}{d:(List (List Int))}{s3:Int×Int×(List Int)×(List ZaA)×(List Int)}{x4:List Int}:∀s5 r,lp (ZjE a b s3 x4) s5=some r->lpW ctx 0 [4,5,13,15,16,17,47,48,49,54,55,56] [4,5,13,15,16,17,47,48,49] Zxo [(.d (D.fn 69 [])),(.ptr 0 0),(zN s5.1),(.ptr 1 0),(zN s3.2.1),(zV true x4),(.d (D.list t3 (List.map (ZbL true) d))),(zN (d.length:Int)),(zN s3.2.1),(zV true x4),(zN (x4.length:Int)),(zN s5.2)] [(zK0 t0 a.work t1 a.edges),(Zwd t2 b),(zA s3.2.2.1),(.arr 2 (List.map Zfs s3.2.2.2.1)),(zA s3.2.2.2.2)]=some ((Zdn t0 t1 t2 t3 a b d s3 x4) r):=
 lpT (Zdn t0 t1 t2 t3 a b d s3 x4) fun s5 _ ih=>yB (yG fun x6 _=>
  yB (Ze (ih _))
  (yC Zk1 fun x7 _=>
  yB (Zg rfl)
  (Ze (ih _))))
  (Zg rfl)
def Zdr (t0 t1 t2 t3:Bool) (a:Zl) (b:List Int) (d:(List (List Int))) (s3:Int×Int×(List Int)×(List ZaA)×(List Int)) (x4:List Int) (r8:Int):((List Int)×(List ZaA)×(List Int))->Ex×List V×Zh
  | r=>(.exit 4,[(.d (D.fn 69 [])),(.ptr 0 0),(zN r8),(.ptr 1 0),(.d (D.list t3 (List.map (ZbL true) d))),(zN (d.length:Int)),(zN s3.2.1)],[(zK0 t0 a.work t1 a.edges),(Zwd t2 b),(zA r.1),(.arr 2 (List.map Zfs r.2.1)),(zA r.2.2)])
theorem Zfv {t0 t1:Bool}{t2 t3:Bool}{a:Zl}{b:List Int}{d:(List (List Int))}{s3:Int×Int×(List Int)×(List ZaA)×(List Int)}{x4:List Int}{r8:Int}:∀s10 r,lp (ZjB b s3 x4) s10=some r->lpW ctx 0 [4,5,13,15,16,47,48,49,77,78,79] [4,5,13,15,47,48,49] ZxO [(.d (D.fn 69 [])),(.ptr 0 0),(zN r8),(.ptr 1 0),(zN s3.2.1),(.d (D.list t3 (List.map (ZbL true) d))),(zN (d.length:Int)),(zN s3.2.1),(zV true x4),(zN (x4.length:Int)),(zN s10.1)] [(zK0 t0 a.work t1 a.edges),(Zwd t2 b),(zA s10.2.1),(.arr 2 (List.map Zfs s10.2.2.1)),(zA s10.2.2.2)]=some ((Zdr t0 t1 t2 t3 a b d s3 x4 r8) r):=
 lpT (Zdr t0 t1 t2 t3 a b d s3 x4 r8) fun s10 _ ih=>yB (yG fun x11 _=>
  yB (Zi _ ZkM fun x12 _=>
  Ze (ih _))
  (Ze (ih _)))
  (Zg rfl)
def Zdo (t0 t1 t2 t3:Bool) (a:Zl) (b:List Int) (d:(List (List Int))):(Int×(List Int)×(List ZaA)×(List Int))->Ex×List V×Zh
  | r=>(.exit 0,[(zN r.1),(.ptr 0 0)],[(zK8 t2 b),(zA r.2.1),(.arr 2 (List.map Zfs r.2.2.1)),(zA r.2.2.2)])
theorem ZfC {t0 t1:Bool}{t2 t3:Bool}{a:Zl}{b:List Int}{d:(List (List Int))}:∀s3 r,lp (Zjx a b d) s3=some r->lpW ctx 0 [4,5,13,15,47,48,49] [13,15] ZxY [(.d (D.fn 69 [])),(.ptr 0 0),(zN s3.1),(.ptr 1 0),(.d (D.list t3 (List.map (ZbL true) d))),(zN (d.length:Int)),(zN s3.2.1)] [(zK0 t0 a.work t1 a.edges),(Zwd t2 b),(zA s3.2.2.1),(.arr 2 (List.map Zfs s3.2.2.2.1)),(zA s3.2.2.2.2)]=some ((Zdo t0 t1 t2 t3 a b d) r):=
 lpT (Zdo t0 t1 t2 t3 a b d) fun s3 _ ih=>yB (yG fun x4 _=>
  Zd (Zj _ _) (by
 conv=>rhs;whnf
 refine Zi _ (Zfw _) fun r8 _=>?_
 rcases r8 with r8 | r8
 exact Zg rfl
 exact Zi _ Zn9 fun x9 _=>
  Zd (Zj _ _) (Zi _ (Zfv _) fun r13 _=>
  Ze (ih _))))
  (Zg rfl)
theorem ZgI {t0 t1:Bool}{t2 t3:Bool}{a:Zl}{b:List Int}{c:Int}{d:(List (List Int))}:∀r,(Zjr a b c d)=some r->evW ctx 68 [(.d (zK1 t0 a.work t1 a.edges)),(zV t2 b),(zN c),(.d (D.list t3 (List.map (ZbL true) d))),(.d (D.fn 69 []))] []=some ((ZgY t0 t1 t2 t3 a b c d) r):=
 evS ZBk rfl rfl <| yC Znm fun x0 _=>
  yB (yBr (Zd (Zj _ _) (yBr (yC Zcc fun x1 _=>
  yBr (Zi _ Zns fun x2 _=>
  Zd (Zj _ _) (Zi _ (ZfC _) fun r14 _=>
  yR))))))
  (yBr yR)
theorem Zm1 {t0 t1:Bool}{t2 t3:Bool}{a:Zl}{b:List Int}{c:Int}{d:(List (List Int))}:∀r,(ZfN a b c d)=some r->evD ctx 31 [(.d (zK1 t0 a.work t1 a.edges)),(zV t2 b),(zN c),(.d (D.list t3 (List.map (ZbL true) d)))]=some (Zc r):=
 evT ZBI rfl rfl <| (by
 conv=>rhs;whnf
 refine Zi _ ZgI fun x0 _=>?_
 rcases x0 with x0 | x0
 exact yR
 exact yR)
theorem Z9 {t0:Bool}{a:List Int}:∀r,(ZP a)=some r->evW ctx 47 [(zV t0 a)] []=some ((ZjT t0 a) r):=
 evS ZBm rfl rfl <| ZeS (Za9 (f:=Zp) (fun _=>⟨rfl,rfl⟩) a 0) (ZR (Zbq Zp a) (Zd (rfl:_=List.map Zp a) yR)
  ZB)
def ZrV (t0 t1 t2:Bool) (a:Zl) (b:List Int) (c:Int):(Int⊕(List Int))->V×Zh
  | (.inl r)=>((.tup [(.agg [(.nilsl 1),(.nilsl 1)]),(zN r)]),[])
  | (.inr r)=>((.tup [(.agg [(.sl 0 1),(.sl 1 1)]),(zN 0)]),[(zA r),(zA b)])
def ZeA (b:List Int) (c:Int):(List Int)->Ex×List V×Zh
  | r=>(.exit 0,[(.ptr 0 0),(.ptr 1 0)],[(.cells [(.sl 2 1),(.sl 3 1)]),(ZwD ),(.arr 1 []),(.arr 1 []),(zA r),(zA b)])
theorem Zna {b:List Int}{c:Int}:∀s2 r,lp (ZdO c) s2=some r->lpW ctx 0 [6,9,21,22] [6,9] ZzD [(.ptr 0 0),(.ptr 1 0),(zN c),(zN s2.1)] [(.cells [(.sl 2 1),(.sl 3 1)]),(ZwD ),(.arr 1 []),(.arr 1 []),(zA s2.2),(zA b)]=some ((ZeA b c) r):=
 lpT (ZeA b c) fun s2 _ ih=>yB (yT (ZR (ZaG Zp s2.2 1) (Zd (ZaE Zp s2.2 [(-1)]) (Ze (ih _)))
  ZB))
  (Zg rfl)
theorem Zqf {t0 t1 t2:Bool}{a:Zl}{b:List Int}{c:Int}:∀r,(Zjs a b c)=some r->evW ctx 51 [(.d (zK1 t0 a.work t1 a.edges)),(zV t2 b),(zN c)] []=some ((ZrV t0 t1 t2 a b c) r):=
 evS ZBT rfl rfl <| yC Zm1 fun x0 _=>
  yBr (Zi _ Z9 fun x1 _=>
  Zi _ (Zna _) fun r3 _=>
  yR)
theorem ZjV {a:Int}:∀r,(ZfW a)=some r->evD ctx 156 [(zN a)]=some (Zc r):=
 evT Zy6 rfl rfl <| yBr (yBr yR)
theorem ZgU {a:Int}:∀r,(ZbB a)=some r->evD ctx 184 [(.d (D.int .u64 a))]=some (Zc r):=
 evT ZwZ rfl rfl <| yF (yF (yF (yF (yF (yF yR)))))
theorem Zh7 {a:Int}:∀r,(Zck a)=some r->evD ctx 157 [(.d (D.int .u64 a))]=some (Zc r):=
 evT Zzu rfl rfl <| yC ZgU fun x0 _=>
  yR
theorem ZC9 (n:Int):0<=u64.wrap n/\u64.wrap n<18446744073709551616:=by
  have:u64.wrap n=n % 18446744073709551616:=by
    show(if (false&&decide (n % 18446744073709551616 ≥ 9223372036854775808))=true then n % 18446744073709551616-18446744073709551616 else n % 18446744073709551616)=_
    simp
  rw[this]
  omega
theorem ZD8 (n:Int):∃j:Nat,j<64/\(u64.wrap n).fdiv (2 ^ (min (Int.toNat 58) u64.bits))=(j:Int):=by
  obtain⟨h1,h2⟩:=ZC9 n
  have e:(2:Int) ^ (min (Int.toNat 58) u64.bits)=288230376151711744:=by decide
  rw[e,Int.fdiv_eq_ediv_of_nonneg _ (by omega)]
  refine⟨((u64.wrap n) / 288230376151711744).toNat,?_,?_⟩<;>omega
theorem ZEk:∀j:Nat,j<64->Zbs [] 1 false (.d (.rptr (Zyx.drop (j*1))))=some (.d (.int .u8 (Zr9.getD j 0))):=by
  have key:((List.range 64).all fun j=>match Zbs [] 1 false (.d (.rptr (Zyx.drop (j*1)))) with | some (.d (.int .u8 z))=>z==Zr9.getD j 0 | _=>false)=true:=by rfl
  intro j hj
  have:=List.all_eq_true.1 key j (by simpa using hj)
  split at this
  · rename_i z hz
    rw[hz,eq_of_beq this]
  · cases this
def Zf6 (r:Int):D:=Zp r
theorem Zfu (a:Int):∀r,ZbR a=some r->evD ctx 186 [.d (.int .u64 a)]=some (Zf6 r):=by
  intro r hr
  unfold ZbR at hr
  have hr:=Option.some.inj hr
  subst hr
  rw[ZA3 ctx 186 ZxJ _ rfl rfl]
  by_cases h:(a==0)=true
  · conv=>lhs;whnf
    rw[h,ZAv]
    rfl
  · replace h:(a==0)=false:=by simpa using h
    obtain⟨j,hj,e⟩:=ZD8 (u64.wrap ((Zgt a &&& Zgt (u64.wrap (0-a))).toNat:Int)*285870213051353865)
    conv=>lhs;whnf
    rw[h,ZAS]
    conv=>lhs;whnf
    refine(ZEa (by rfl)).trans ?_
    conv=>lhs;whnf
    rw[e]
    refine(ZCX (by simp;omega)).trans ?_
    conv=>lhs;whnf
    erw [ZEk j hj]
    rfl
theorem Zgm {a:Int}:∀r,(Zcv a)=some r->evD ctx 158 [(.d (D.int .u64 a))]=some (Zc r):=
 evT Zx1 rfl rfl <| yC (Zfu _) fun x0 _=>
  yR
def ZjY (r:(Int×Bool)):D:=(D.tup [(Zp r.1),(D.bool r.2)])
theorem Zmu {a:Int}:∀r,(ZgN a)=some r->evD ctx 103 [(zN a)]=some (ZjY r):=
 evT Zyi rfl rfl <| yC ZjV fun x0 _=>
  yBr (yC Zh7 fun x1 _=>
  yBr (yC Zgm fun x2 _=>
  yR))
def Zh5 (r:(Za×Int)):D:=(D.tup [(zK3 true r.1.ring r.1.top r.1.bottom),(Zp r.2)])
theorem Zp6 {a:Int}:∀r,(ZhT a)=some r->evD ctx 52 [(zN a)]=some (Zh5 r):=
 evT ZCv rfl rfl <| yC Zmu fun x0 _=>
  yB (yBr (yBm (Zd (ZgD Zp (0:Int) a) yR)))
  yR
theorem Zl6 {a:Int}:∀r,(Zca a)=some r->evD ctx 166 [(zN a)]=some (Zo r):=
 evT ZxG rfl rfl <| yBr (yBr yR)
theorem Zcu {t0:Bool}{a:List Int}:∀s0 r,lp (Zx a (fun z0=>Zca z0)) s0=some r->lpW ctx 0 [0,1,7,8] [4] Zm9 [(zV t0 a),(.d (D.fn 166 [])),(zN (a.length:Int)),(zN s0)] []=some ((Zq t0 a) r):=
 lpT (Zq t0 a) fun s0 _ ih=>yB (yG fun x1 _=>
  yC Zl6 fun x2 _=>
  yB (Zg rfl)
  (Ze (ih _)))
  (Zg rfl)
theorem ZcT {t0:Bool}{a:List Int}:∀r,(ZE a (fun z0=>Zca z0))=some r->evD ctx 94 [(zV t0 a),(.d (D.fn 166 []))]=some (Zc r):=
 evT Zui rfl rfl <| Zd (Zj _ _) (by
 conv=>rhs;whnf
 refine Zi _ (Zcu _) fun r3 _=>?_
 rcases r3 with r3 | r3
 exact yR
 exact yR)
theorem Zct {t0:Bool}{a:List Int}:∀r,(Zy a (fun z0=>Zca z0))=some r->evD ctx 44 [(zV t0 a),(.d (D.fn 166 []))]=some (Zo r):=
 evT Zwz rfl rfl <| yC ZcT fun x0 _=>
  yBr yR
theorem Zd6 {t0 t1:Bool}{a:Zw}{b:Int}:∀r,(Zdl a b)=some r->evD ctx 145 [(.d (zK5 t0 a.on t1 a.left)),(zN b)]=some (Zo r):=
 evT ZxL rfl rfl <| yG fun x0 _=>
  yBr yR
theorem Zm5 {t0 t1:Bool}{a:Zt}{b0:Int}{c0:List Int}{c1:List Int}:∀r,(ZdP a b0 c0 c1)=some r->evD ctx 187 [(.d (ZzJ a.src a.dst)),(.d (D.rptr [(Zp b0)])),(.d (D.rptr [(zL t0 c0),(zL t1 c1)]))]=some (Zo r):=
 evT Zw0 rfl rfl <| yB (yC Zd6 fun x0 _=>
  yBr yR)
  yR
def Zaz (t0 t1 t2:Bool) (a:List Zt) (b0:Int) (b1:List Int) (b2:List Int):(Int⊕Unit)->Ex×List V×Zh
  | (.inl r)=>(.ret,[(zN r)],[])
  | (.inr r)=>(.exit 0,[.bad],[])
theorem Zcl {t0 t1 t2:Bool}{a:List Zt}{b0:Int}{b1:List Int}{b2:List Int}:∀s0 r,lp (ZY a (fun z0=>ZdP z0 b0 b1 b2)) s0=some r->lpW ctx 0 [0,1,7,8] [4] ZrQ [(zW t0 Za2 a),(.d (D.fn 187 [(D.rptr [(Zp b0)]),(D.rptr [(zL t1 b1),(zL t2 b2)])])),(zN (a.length:Int)),(zN s0)] []=some ((Zaz t0 t1 t2 a b0 b1 b2) r):=
 lpT (Zaz t0 t1 t2 a b0 b1 b2) fun s0 _ ih=>yB (yG fun x1 _=>
  yC Zm5 fun x2 _=>
  yB (Zg rfl)
  (Ze (ih _)))
  (Zg rfl)
theorem ZcM {t0 t1 t2:Bool}{a:List Zt}{b0:Int}{b1:List Int}{b2:List Int}:∀r,(Zay a (fun z0=>ZdP z0 b0 b1 b2))=some r->evD ctx 171 [(zW t0 Za2 a),(.d (D.fn 187 [(D.rptr [(Zp b0)]),(D.rptr [(zL t1 b1),(zL t2 b2)])]))]=some (Zc r):=
 evT Zu7 rfl rfl <| Zd (Zj _ _) (by
 conv=>rhs;whnf
 refine Zi _ (Zcl _) fun r3 _=>?_
 rcases r3 with r3 | r3
 exact yR
 exact yR)
theorem Zcm {t0 t1 t2:Bool}{a:List Zt}{b0:Int}{b1:List Int}{b2:List Int}:∀r,(ZQ a (fun z0=>ZdP z0 b0 b1 b2))=some r->evD ctx 124 [(zW t0 Za2 a),(.d (D.fn 187 [(D.rptr [(Zp b0)]),(D.rptr [(zL t1 b1),(zL t2 b2)])]))]=some (Zo r):=
 evT ZvO rfl rfl <| yC ZcM fun x0 _=>
  yBr yR
theorem ZgT {t0 t1:Bool}{t2 t3:Bool}{a:Zl}{b:Zw}{c:Int}:∀r,(ZeP a b c)=some r->evD ctx 159 [(.d (zK1 t0 a.work t1 a.edges)),(.d (zK5 t2 b.on t3 b.left)),(zN c)]=some (Zo r):=
 evT ZzI rfl rfl <| yC Zcm fun x0 _=>
  yBr yR
def ZhQ (t0 t1 t2 t3:Bool) (a:Zl) (b:Zw):(Unit⊕Unit)->Ex×List V×Zh
  | (.inl r)=>(.ret,[(.ptr 0 0),(.ptr 1 0),(.d (D.bool false))],[(zK0 t0 a.work t1 a.edges),(zK4 t2 b.on t3 b.left)])
  | (.inr r)=>(.exit 0,[(.ptr 0 0),(.ptr 1 0),.bad],[(zK0 t0 a.work t1 a.edges),(zK4 t2 b.on t3 b.left)])
theorem ZlI {t0 t1:Bool}{t2 t3:Bool}{a:Zl}{b:Zw}:∀s1 r,lp (ZdF a b) s1=some r->lpW ctx 0 [2,3,35,36,37] [2,3,4] Zve [(.ptr 0 0),(.ptr 1 0),(zV t2 b.on),(zN (b.on.length:Int)),(zN s1)] [(zK0 t0 a.work t1 a.edges),(zK4 t2 b.on t3 b.left)]=some ((ZhQ t0 t1 t2 t3 a b) r):=
 lpT (ZhQ t0 t1 t2 t3 a b) fun s1 _ ih=>yB (yG fun x2 _=>
  yB (Ze (ih _))
  (yB (Zg rfl)
  (Zd (Zj _ _) (yB (Zg rfl)
  (yC Zd6 fun x3 _=>
  yB (Zg rfl)
  (yBm (ZR (Zvi Zp b.on s1.toNat) (yT (Zd (Zou Zp b.on s1.toNat) (yC ZT fun x4 _=>
  yB (Zg rfl)
  (yC ZgT fun x5 _=>
  yB (Ze (ih _))
  (Zg rfl)))))
  ZB)))))))
  (Zg rfl)
def ZhV (t0 t1 t2 t3:Bool) (a:Zl) (b:Zw):(Unit⊕Unit)->Ex×List V×Zh
  | (.inl r)=>(.ret,[(.d (D.bool false))],[])
  | (.inr r)=>(.exit 2,[.bad],[])
theorem Zlu {t0 t1:Bool}{t2 t3:Bool}{a:Zl}{b:Zw}:∀s7 r,lp (ZdM a b) s7=some r->lpW ctx 0 [2,3,76,77] [4] ZuM [(.ptr 0 0),(.ptr 1 0),(zN (b.left.length:Int)),(zN s7)] [(zK0 t0 a.work t1 a.edges),(zK4 t2 b.on t3 b.left)]=some ((ZhV t0 t1 t2 t3 a b) r):=
 lpT (ZhV t0 t1 t2 t3 a b) fun s7 _ ih=>yB (yC Zd6 fun x8 _=>
  yB (yC ZgT fun x9 _=>
  yB (Ze (ih _))
  (Zg rfl))
  (Ze (ih _)))
  (Zg rfl)
theorem Zn4 {t0 t1:Bool}{t2 t3:Bool}{a:Zl}{b:Zw}:∀r,(ZgB a b)=some r->evD ctx 114 [(.d (zK1 t0 a.work t1 a.edges)),(.d (zK5 t2 b.on t3 b.left))]=some (Zo r):=
 evT Zx4 rfl rfl <| Zd (Zj _ _) (yBr (Zd (Zj _ _) (yBr (Zd (Zj _ _) (Zd (Zj _ _) (yBr (yC Zct fun x0 _=>
  yBr (Zd (Zj _ _) (by
 conv=>rhs;whnf
 refine Zi _ (ZlI _) fun r6 _=>?_
 rcases r6 with r6 | r6
 exact yR
 exact Zd (Zj _ _) (by
 conv=>rhs;whnf
 refine Zi _ (Zlu _) fun r10 _=>?_
 rcases r10 with r10 | r10
 exact yR
 exact yR))))))))))
theorem Zjz {t0 t1:Bool}{t2 t3:Bool}{a:Zl}{b:Zw}:∀r,(Zfm a b)=some r->evD ctx 65 [(.d (zK1 t0 a.work t1 a.edges)),(.d (zK5 t2 b.on t3 b.left))]=some (Zc r):=
 evT ZCH rfl rfl <| yC Zhh fun x0 _=>
  yB (yC Zn4 fun x1 _=>
  yBr yR)
  yR
def ZaK (r:List Int):D:=(zL true r)
def ZdZ (t0 t1 t2 t3:Bool) (a:Zl) (b:Zw):(List Int)->Ex×List V×Zh
  | r=>(.exit 0,[(.sl 0 1)],[(zA r)])
theorem ZlE {t0 t1:Bool}{t2 t3:Bool}{a:Zl}{b:Zw}:∀s0 r,lp (Zdy a b) s0=some r->lpW ctx 0 [2,3,5,9,10] [5] ZvK [(.ptr 0 0),(.ptr 1 0),(.sl 2 1),(zN (b.left.length:Int)),(zN s0.1)] [(zK0 t0 a.work t1 a.edges),(zK4 t2 b.on t3 b.left),(zA s0.2)]=some ((ZdZ t0 t1 t2 t3 a b) r):=
 lpT (ZdZ t0 t1 t2 t3 a b) fun s0 _ ih=>yB (yC Zd6 fun x1 _=>
  yB (Ze (ih _))
  (yC ZT fun x2 _=>
  yB (Ze (ih _))
  (yC ZgT fun x3 _=>
  yB (yT (ZR (ZaG Zp s0.2 1) (Zd (ZaE Zp s0.2 [s0.1]) (Ze (ih _)))
  ZB))
  (Ze (ih _)))))
  (Zg rfl)
theorem Zn7 {t0 t1:Bool}{t2 t3:Bool}{a:Zl}{b:Zw}:∀r,(Zi8 a b)=some r->evD ctx 104 [(.d (zK1 t0 a.work t1 a.edges)),(.d (zK5 t2 b.on t3 b.left))]=some (ZaK r):=
 evT ZxP rfl rfl <| Zd (Zj _ _) (Zi _ (ZlE _) fun r4 _=>
  yR)
theorem Zgk {t0 t1:Bool}{t2 t3:Bool}{a:Zl}{b:Zw}:∀r,(Zdw a b)=some r->evD ctx 53 [(.d (zK1 t0 a.work t1 a.edges)),(.d (zK5 t2 b.on t3 b.left))]=some (ZaK r):=
 evT ZCC rfl rfl <| yC Zjz fun x0 _=>
  yBr (yC Zn7 fun x1 _=>
  yR)
theorem Zes {t0:Bool}{a:Za}:∀r,(ZaM a)=some r->evD ctx 115 [(.d (zK3 t0 a.ring a.top a.bottom))]=some (Zc r):=
 evT Zze rfl rfl <| Zd (Zj _ _) (yC Zmu fun x0 _=>
  yB (Zd (Zj _ _) (yBr (yC ZjV fun x1 _=>
  yBr (yBr (Zd (Zj _ _) (yBr yR))))))
  yR)
def Zqc (t0:Bool) (a:Za):Unit->V×Zh
  | r=>((.agg [(.sl 0 1),(zN a.top),(zN a.bottom)]),[(zA a.ring)])
theorem Zj3 {t0:Bool}{a:Za}:∀r,(Zf0 a)=some r->evW ctx 160 [(.d (zK3 t0 a.ring a.top a.bottom))] []=some ((Zqc t0 a) r):=
 evS Zy3 rfl rfl <| Zi _ Z9 fun x0 _=>
  yR
theorem Zer {t0:Bool}{a:Za}{b:Int}:∀r,(ZcK a b)=some r->evD ctx 161 [(.d (zK3 t0 a.ring a.top a.bottom)),(zN b)]=some (Zc r):=
 evT Zxl rfl rfl <| Zd (Zj _ _) (yBn yR)
theorem Zoa {t0:Bool}{a:Za}{b:Int}:∀r,(Zbk a b)=some r->evD ctx 105 [(.d (zK3 t0 a.ring a.top a.bottom)),(zN b)]=some (Zh5 r):=
 evT ZyU rfl rfl <| yC Zes fun x0 _=>
  yBr (yBr (Zd (Zj _ _) (yBr (Zi _ Zj3 fun x1 _=>
  yC Zer fun x2 _=>
  yG fun x3 hx3=>
  Zk (ZV rfl hx3) (Zd (Zax Zp a.ring x2.toNat b) yR)))))
def ZkO (t0 t1:Bool) (b c:Int) (mA:List Int) (mD:List Zt) (mI:Int) (mB:List Int) (mC:List Int) (mE:List Za) (mF:List Zb) (mH:List Int):((List Za)⊕(List Za))->V×Zh
  | (.inl r)=>((.d (D.bool true)),[(zK7 t0 mA t1 mD mI),(zA mB),(zA mC),(.arr 3 (List.map ZM r)),(.arr 6 (List.map ZO mF)),(zA mH)])
  | (.inr r)=>((.d (D.bool false)),[(zK7 t0 mA t1 mD mI),(zA mB),(zA mC),(.arr 3 (List.map ZM r)),(.arr 6 (List.map ZO mF)),(zA mH)])
theorem Zf5 {t0 t1:Bool}{b c:Int}{mA:List Int}{mD:List Zt}{mI:Int}{mB:List Int}{mC:List Int}{mE:List Za}{mF:List Zb}{mH:List Int}:∀r,(Zaq b c mE)=some r->evW ctx 54 [(.ptr 0 0),(zN b),(zN c)] [(zK7 t0 mA t1 mD mI),(zA mB),(zA mC),(.arr 3 (List.map ZM mE)),(.arr 6 (List.map ZO mF)),(zA mH)]=some ((ZkO t0 t1 b c mA mD mI mB mC mE mF mH) r):=
 evS ZBL rfl rfl <| yG fun x0 hx0=>
  Zk (ZV rfl hx0) (yC Zoa fun x1 _=>
  yB (Zk (Zai rfl hx0) (Zk (ZV rfl hx0) (Zd (Zax ZM mE b.toNat x1.1) (yBr yR))))
  (yBr yR))
def Zqv (t0 t1 t2:Bool) (a:Zl) (b:List Int) (c:Int):(Int⊕((List Int)×(List Za)))->V×Zh
  | (.inl r)=>((.tup [(.agg [(.nilsl 1),(.nilsl 1),(.nilsl 3),(.nilsl 6),(.nilsl 1)]),(zN r)]),[])
  | (.inr r)=>((.tup [(.agg [(.sl 0 1),(.sl 1 1),(.sl 2 3),(.sl 3 6),(.sl 4 1)]),(zN 0)]),[(zA r.1),(zA b),(.arr 3 (List.map ZM r.2)),(.arr 6 (List.map ZO (List.replicate c.toNat ((Zb.mk false 0 0 0 0 0):Zb)))),(zA (List.replicate c.toNat (0:Int)))])
def ZiD (t0 t1:Bool) (a:Zl) (b:List Int) (c:Int) (x0:List Int):(List Za)->Ex×List V×Zh
  | r=>(.exit 0,[(zN c),(.ptr 0 0),(.ptr 1 0),(.ptr 2 0),(.ptr 3 0)],[(zK0 t0 a.work t1 a.edges),(Zuf ),(.cells [(.sl 9 1),(.sl 10 1)]),(.cells [(.sl 9 1),(.sl 10 1),(.sl 11 3),(.sl 12 6),(.sl 13 1),(zV t0 a.work),(zW t1 Za2 a.edges),(zN 0)]),(.arr 1 []),(.arr 1 []),(.arr 3 []),(.arr 6 []),(.arr 1 []),(zA x0),(zA b),(.arr 3 (List.map ZM r)),(.arr 6 (List.map ZO (List.replicate c.toNat ((Zb.mk false 0 0 0 0 0):Zb)))),(zA (List.replicate c.toNat (0:Int)))])
theorem Zmd {t0 t1:Bool}{a:Zl}{b:List Int}{c:Int}{x0:List Int}:∀s1 r,lp (ZaN c) s1=some r->lpW ctx 0 [2,3,6,8,10,35,36] [2,3,6,8,10] Zw8 [(zN c),(.ptr 0 0),(.ptr 1 0),(.ptr 2 0),(.ptr 3 0),(zN c),(zN s1.1)] [(zK0 t0 a.work t1 a.edges),(Zuf ),(.cells [(.sl 9 1),(.sl 10 1)]),(.cells [(.sl 9 1),(.sl 10 1),(.sl 11 3),(.sl 12 6),(.sl 13 1),(zV t0 a.work),(zW t1 Za2 a.edges),(zN 0)]),(.arr 1 []),(.arr 1 []),(.arr 3 []),(.arr 6 []),(.arr 1 []),(zA x0),(zA b),(.arr 3 (List.map ZM s1.2)),(.arr 6 (List.map ZO (List.replicate c.toNat ((Zb.mk false 0 0 0 0 0):Zb)))),(zA (List.replicate c.toNat (0:Int)))]=some ((ZiD t0 t1 a b c x0) r):=
 lpT (ZiD t0 t1 a b c x0) fun s1 _ ih=>yB (yC Zp6 fun x2 _=>
  yT (ZR (ZaG ZM s1.2 1) (Zd (ZaE ZM s1.2 [x2.1]) (Ze (ih _)))
  ZB))
  (Zg rfl)
def ZiA (t0 t1:Bool) (a:Zl) (b:List Int) (c:Int) (x0:List Int) (x4:List Int):(List Za)->Ex×List V×Zh
  | r=>(.exit 2,[(.ptr 0 0),(.ptr 1 0)],[(ZtP ),(.cells [(.sl 7 1),(.sl 8 1),(.sl 9 3),(.sl 10 6),(.sl 11 1),(zV t0 a.work),(zW t1 Za2 a.edges),(zN 0)]),(.arr 1 []),(.arr 1 []),(.arr 3 []),(.arr 6 []),(.arr 1 []),(zA x0),(zA b),(.arr 3 (List.map ZM r)),(.arr 6 (List.map ZO (List.replicate c.toNat ((Zb.mk false 0 0 0 0 0):Zb)))),(zA (List.replicate c.toNat (0:Int)))])
theorem Zl8 {t0 t1:Bool}{a:Zl}{b:List Int}{c:Int}{x0:List Int}{x4:List Int}:∀s5 r,lp (Za1 c x4) s5=some r->lpW ctx 0 [2,6,10,57,58,59] [6,10] ZxZ [(zN c),(.ptr 0 0),(.ptr 1 0),(zV true x4),(zN (x4.length:Int)),(zN s5.1)] [(ZtP ),(.cells [(.sl 7 1),(.sl 8 1),(.sl 9 3),(.sl 10 6),(.sl 11 1),(zV t0 a.work),(zW t1 Za2 a.edges),(zN 0)]),(.arr 1 []),(.arr 1 []),(.arr 3 []),(.arr 6 []),(.arr 1 []),(zA x0),(zA b),(.arr 3 (List.map ZM s5.2)),(.arr 6 (List.map ZO (List.replicate c.toNat ((Zb.mk false 0 0 0 0 0):Zb)))),(zA (List.replicate c.toNat (0:Int)))]=some ((ZiA t0 t1 a b c x0 x4) r):=
 lpT (ZiA t0 t1 a b c x0 x4) fun s5 _ ih=>yB (yG fun x6 _=>
  yBn (by
 conv=>rhs;whnf
 refine Zi _ Zf5 fun x7 _=>?_
 rcases x7 with x7 | x7
 exact Ze (ih _)
 exact Ze (ih _)))
  (Zg rfl)
theorem ZjR {t0 t1 t2:Bool}{a:Zl}{b:List Int}{c:Int}:∀r,(ZcG a b c)=some r->evW ctx 16 [(.d (zK1 t0 a.work t1 a.edges)),(zV t2 b),(zN c)] []=some ((Zqv t0 t1 t2 a b c) r):=
 evS ZCw rfl rfl <| (by
 conv=>rhs;whnf
 refine Zi _ Zqf fun x0 _=>?_
 rcases x0 with x0 | x0
 exact yBm yR
 exact yF (yBm (Zd (ZgD ZO ((Zb.mk false 0 0 0 0 0):Zb) c) (yBm (Zd (ZgD Zp (0:Int) c) (Zi _ (Zmd _) fun r3 _=>
  yC Zgk fun x4 _=>
  Zd (Zj _ _) (Zi _ (Zl8 _) fun r8 _=>
  yR)))))))
theorem Znf {a:Int}:∀r,(ZcP a)=some r->evD ctx 45 [(zN a)]=some (Zo r):=
 evT ZBW rfl rfl <| yBr yR
theorem ZcA {t0:Bool}{a:List Int}:∀s0 r,lp (Zx a (fun z0=>ZcP z0)) s0=some r->lpW ctx 0 [0,1,7,8] [4] Zm9 [(zV t0 a),(.d (D.fn 45 [])),(zN (a.length:Int)),(zN s0)] []=some ((Zq t0 a) r):=
 lpT (Zq t0 a) fun s0 _ ih=>yB (yG fun x1 _=>
  yC Znf fun x2 _=>
  yB (Zg rfl)
  (Ze (ih _)))
  (Zg rfl)
theorem Zdf {t0:Bool}{a:List Int}:∀r,(ZE a (fun z0=>ZcP z0))=some r->evD ctx 94 [(zV t0 a),(.d (D.fn 45 []))]=some (Zc r):=
 evT Zui rfl rfl <| Zd (Zj _ _) (by
 conv=>rhs;whnf
 refine Zi _ (ZcA _) fun r3 _=>?_
 rcases r3 with r3 | r3
 exact yR
 exact yR)
theorem ZcH {t0:Bool}{a:List Int}:∀r,(Zy a (fun z0=>ZcP z0))=some r->evD ctx 44 [(zV t0 a),(.d (D.fn 45 []))]=some (Zo r):=
 evT Zwz rfl rfl <| yC Zdf fun x0 _=>
  yBr yR
theorem Zis {t0:Bool}{a:Za}:∀r,(Zau a)=some r->evD ctx 112 [(.d (zK3 t0 a.ring a.top a.bottom))]=some (Zo r):=
 evT Zzp rfl rfl <| yBr yR
def Zag (t0:Bool) (a:List Za):(Int⊕Unit)->Ex×List V×Zh
  | (.inl r)=>(.ret,[(zN r)],[])
  | (.inr r)=>(.exit 0,[.bad],[])
theorem Zbd {t0:Bool}{a:List Za}:∀s0 r,lp (Zah a (fun z0=>Zau z0)) s0=some r->lpW ctx 0 [0,1,7,8] [4] ZvG [(zW t0 ZM a),(.d (D.fn 112 [])),(zN (a.length:Int)),(zN s0)] []=some ((Zag t0 a) r):=
 lpT (Zag t0 a) fun s0 _ ih=>yB (yG fun x1 _=>
  yC Zis fun x2 _=>
  yB (Zg rfl)
  (Ze (ih _)))
  (Zg rfl)
theorem Zbu {t0:Bool}{a:List Za}:∀r,(Za0 a (fun z0=>Zau z0))=some r->evD ctx 165 [(zW t0 ZM a),(.d (D.fn 112 []))]=some (Zc r):=
 evT Zxy rfl rfl <| Zd (Zj _ _) (by
 conv=>rhs;whnf
 refine Zi _ (Zbd _) fun r3 _=>?_
 rcases r3 with r3 | r3
 exact yR
 exact yR)
theorem Zbe {t0:Bool}{a:List Za}:∀r,(Zaf a (fun z0=>Zau z0))=some r->evD ctx 111 [(zW t0 ZM a),(.d (D.fn 112 []))]=some (Zo r):=
 evT Zw1 rfl rfl <| yC Zbu fun x0 _=>
  yBr yR
def Zbx (t0 t1 t2 t3 t4 t5 t6:Bool) (a0:List Int) (a1:List Int) (a2:List Za) (a3:List Zb) (a4:List Int) (a5:List Int) (a6:List Zt) (a7:Int):(List Int)->Ex×List V×Zh
  | r=>(.exit 0,[(.sl 0 1)],[(zA r)])
theorem ZhZ {t0 t1:Bool}{t2 t3:Bool}{t4 t5 t6:Bool}{a0:List Int}{a1:List Int}{a2:List Za}{a3:List Zb}{a4:List Int}{a5:List Int}{a6:List Zt}{a7:Int}:∀s1 r,lp (Za8 a0) s1=some r->lpW ctx 0 [0,3,4,18,19,20] [4] ZtU [(.d (Zus t0 a0 t1 a1 t2 a2 t3 a3 t4 a4 t5 a5 t6 a6 a7)),(.d (D.bool true)),(.sl 0 1),(zV t0 a0),(zN (a0.length:Int)),(zN s1.1)] [(zA s1.2)]=some ((Zbx t0 t1 t2 t3 t4 t5 t6 a0 a1 a2 a3 a4 a5 a6 a7) r):=
 lpT (Zbx t0 t1 t2 t3 t4 t5 t6 a0 a1 a2 a3 a4 a5 a6 a7) fun s1 _ ih=>yB (yG fun x2 _=>
  yB (yT (ZR (ZaG Zp s1.2 1) (Zd (ZaE Zp s1.2 [s1.1]) (Ze (ih _)))
  ZB))
  (Ze (ih _)))
  (Zg rfl)
theorem Zhp {t0 t1:Bool}{t2 t3:Bool}{t4 t5 t6:Bool}{a0:List Int}{a1:List Int}{a2:List Za}{a3:List Zb}{a4:List Int}{a5:List Int}{a6:List Zt}{a7:Int}:∀s4 r,lp (ZaW a0 a3) s4=some r->lpW ctx 0 [0,3,4,18,19,20] [4] ZtU [(.d (Zus t0 a0 t1 a1 t2 a2 t3 a3 t4 a4 t5 a5 t6 a6 a7)),(.d (D.bool false)),(.sl 0 1),(zV t0 a0),(zN (a0.length:Int)),(zN s4.1)] [(zA s4.2)]=some ((Zbx t0 t1 t2 t3 t4 t5 t6 a0 a1 a2 a3 a4 a5 a6 a7) r):=
 lpT (Zbx t0 t1 t2 t3 t4 t5 t6 a0 a1 a2 a3 a4 a5 a6 a7) fun s4 _ ih=>yB (yG fun x5 _=>
  yB (yG fun x6 _=>
  yB (yT (ZR (ZaG Zp s4.2 1) (Zd (ZaE Zp s4.2 [s4.1]) (Ze (ih _)))
  ZB))
  (Ze (ih _)))
  (Ze (ih _)))
  (Zg rfl)
theorem Zfq {t0 t1:Bool}{t2 t3:Bool}{t4 t5 t6:Bool}{a0:List Int}{a1:List Int}{a2:List Za}{a3:List Zb}{a4:List Int}{a5:List Int}{a6:List Zt}{a7:Int}:∀r,(Zcb a0 a2 a3)=some r->evD ctx 63 [(.d (Zus t0 a0 t1 a1 t2 a2 t3 a3 t4 a4 t5 a5 t6 a6 a7))]=some (ZaK r):=
 evT ZB3 rfl rfl <| yC Zbe fun x0 _=>
  yB (Zd (Zj _ _) (Zi _ (ZhZ _) fun r3 _=>
  yR))
  (Zd (Zj _ _) (Zi _ (Zhp _) fun r7 _=>
  yR))
theorem ZiV {t0 t1:Bool}{t2 t3:Bool}{t4 t5 t6:Bool}{a:Int}{b0:List Int}{b1:List Int}{b2:List Za}{b3:List Zb}{b4:List Int}{b5:List Int}{b6:List Zt}{b7:Int}:∀r,(ZaB a b7)=some r->evD ctx 147 [(zN a),(.d (D.rptr [(Zus t0 b0 t1 b1 t2 b2 t3 b3 t4 b4 t5 b5 t6 b6 b7)]))]=some (Zo r):=
 evT Zx7 rfl rfl <| yBr yR
def Zar (t0 t1 t2 t3 t4 t5 t6:Bool) (t7:Bool) (a:List Int) (b0:List Int) (b1:List Int) (b2:List Za) (b3:List Zb) (b4:List Int) (b5:List Int) (b6:List Zt) (b7:Int):(Int⊕Unit)->Ex×List V×Zh
  | (.inl r)=>(.ret,[(zN r)],[])
  | (.inr r)=>(.exit 0,[.bad],[])
theorem ZbJ {t0 t1:Bool}{t2 t3:Bool}{t4 t5:Bool}{t6 t7:Bool}{a:List Int}{b0:List Int}{b1:List Int}{b2:List Za}{b3:List Zb}{b4:List Int}{b5:List Int}{b6:List Zt}{b7:Int}:∀s0 r,lp (Zx a (fun z0=>ZaB z0 b7)) s0=some r->lpW ctx 0 [0,1,7,8] [4] Zm9 [(zV t0 a),(.d (D.fn 147 [(D.rptr [(Zus t1 b0 t2 b1 t3 b2 t4 b3 t5 b4 t6 b5 t7 b6 b7)])])),(zN (a.length:Int)),(zN s0)] []=some ((Zar t0 t1 t2 t3 t4 t5 t6 t7 a b0 b1 b2 b3 b4 b5 b6 b7) r):=
 lpT (Zar t0 t1 t2 t3 t4 t5 t6 t7 a b0 b1 b2 b3 b4 b5 b6 b7) fun s0 _ ih=>yB (yG fun x1 _=>
  yC ZiV fun x2 _=>
  yB (Zg rfl)
  (Ze (ih _)))
  (Zg rfl)
theorem Zce {t0 t1:Bool}{t2 t3:Bool}{t4 t5:Bool}{t6 t7:Bool}{a:List Int}{b0:List Int}{b1:List Int}{b2:List Za}{b3:List Zb}{b4:List Int}{b5:List Int}{b6:List Zt}{b7:Int}:∀r,(ZE a (fun z0=>ZaB z0 b7))=some r->evD ctx 94 [(zV t0 a),(.d (D.fn 147 [(D.rptr [(Zus t1 b0 t2 b1 t3 b2 t4 b3 t5 b4 t6 b5 t7 b6 b7)])]))]=some (Zc r):=
 evT Zui rfl rfl <| Zd (Zj _ _) (by
 conv=>rhs;whnf
 refine Zi _ (ZbJ _) fun r3 _=>?_
 rcases r3 with r3 | r3
 exact yR
 exact yR)
theorem ZjO {t0 t1:Bool}{t2 t3:Bool}{t4 t5:Bool}{t6 t7 t8:Bool}{a0:List Int}{a1:List Int}{a2:List Za}{a3:List Zb}{a4:List Int}{a5:List Int}{a6:List Zt}{a7:Int}{b:List Int}{c:List Int}{d:Int}:∀r,(ZaH a7 b c d)=some r->evD ctx 95 [(.d (Zus t0 a0 t1 a1 t2 a2 t3 a3 t4 a4 t5 a5 t6 a6 a7)),(zV t7 b),(zV t8 c),(zN d)]=some (Zc r):=
 evT ZBZ rfl rfl <| Zd (Zj _ _) (yB (yG fun x0 _=>
  Zd (Zj _ _) (yBn (yG fun x1 _=>
  yR)))
  (yC Zce fun x2 _=>
  yG fun x3 _=>
  yR))
theorem ZdW {a:Int}:∀r,(Zcg a)=some r->evD ctx 190 [(zN a)]=some (Zo r):=
 evT ZyC rfl rfl <| yBr (yBr yR)
theorem Zog {a:Zb}:∀r,(Zgw a)=some r->evD ctx 167 [(.d (D.agg [(D.bool a.steal),(Zp a.at_),(Zp a.top),(Zp a.bottom),(Zp a.got),(Zp a.end_)]))]=some (Zo r):=
 evT Zw9 rfl rfl <| yB (yB (yB (yB (yBr (yC ZdW fun x0 _=>
  yBr (yC ZdW fun x1 _=>
  yBr yR)))
  yR)
  yR)
  yR)
  (yB (yB (yB (yBr (yC ZdW fun x2 _=>
  yBr (yC ZdW fun x3 _=>
  yBr yR)))
  yR)
  yR)
  yR)
def ZpS (mA mD:Int) (mB:Bool) (mL mJ mK mM mN:Int) (mC:List Int):(Unit⊕Unit)->V×Zh
  | (.inl r)=>((.d (D.bool false)),[(zK9 mA mD),(.cells [(.d (D.bool mB)),(zN mL),(zN mJ),(zN mK),(zN mM),(zN mN)]),(zA mC)])
  | (.inr r)=>((.d (D.bool true)),[(zK9 (w64 (mA+1)) mD),(.cells [(.d (D.bool mB)),(zN mL),(zN mJ),(zN mK),(zN mM),(zN mN)]),(zA mC)])
theorem ZjA {mA mD:Int}{mB:Bool}{mL mJ:Int}{mK mM mN:Int}{mC:List Int}:∀r,(ZbQ mA mJ)=some r->evW ctx 191 [(.ptr 0 0),(.ptr 1 0)] [(zK9 mA mD),(.cells [(.d (D.bool mB)),(zN mL),(zN mJ),(zN mK),(zN mM),(zN mN)]),(zA mC)]=some ((ZpS mA mD mB mL mJ mK mM mN mC) r):=
 evS Zzr rfl rfl <| yBr yR
def Zof (mA mD:Int) (mB:Bool) (mL mJ mK mM mN:Int) (mC:List Int):(Int×Int×Int×Int×Int×Int)->V×Zh
  | r=>((.d (D.tup [])),[(zK9 r.1 mD),(.cells [(.d (D.bool mB)),(zN r.2.1),(zN r.2.2.1),(zN r.2.2.2.1),(zN r.2.2.2.2.1),(zN r.2.2.2.2.2)]),(zA mC)])
theorem Zni {mA mD:Int}{mB:Bool}{mL mJ:Int}{mK mM mN:Int}{mC:List Int}:∀r,(ZaJ mA mD mL mJ mK mM mN mC)=some r->evW ctx 168 [(.ptr 0 0),(.ptr 1 0)] [(zK9 mA mD),(.cells [(.d (D.bool mB)),(zN mL),(zN mJ),(zN mK),(zN mM),(zN mN)]),(zA mC)]=some ((Zof mA mD mB mL mJ mK mM mN mC) r):=
 evS Zzn rfl rfl <| yBr (yB (yBr yR)
  (yB (yC Zer fun x0 _=>
  yG fun x1 hx1=>
  Zk (ZV rfl hx1) yR)
  (by
 conv=>rhs;whnf
 refine Zi _ ZjA fun x2 _=>?_
 rcases x2 with x2 | x2
 exact yR
 exact yR)))
def Zqm (mA mD:Int) (mB:Bool) (mL mJ mK mM mN:Int) (mC:List Int):(Int×Int×Int×Int×Int×Int×Int)->V×Zh
  | r=>((.d (D.tup [])),[(zK9 r.1 r.2.1),(.cells [(.d (D.bool mB)),(zN r.2.2.1),(zN r.2.2.2.1),(zN r.2.2.2.2.1),(zN r.2.2.2.2.2.1),(zN r.2.2.2.2.2.2)]),(zA mC)])
theorem Zo8 {mA mD:Int}{mB:Bool}{mL mJ:Int}{mK mM mN:Int}{mC:List Int}:∀r,(ZaT mA mD mL mJ mK mM mN mC)=some r->evW ctx 169 [(.ptr 0 0),(.ptr 1 0)] [(zK9 mA mD),(.cells [(.d (D.bool mB)),(zN mL),(zN mJ),(zN mK),(zN mM),(zN mN)]),(zA mC)]=some ((Zqm mA mD mB mL mJ mK mM mN mC) r):=
 evS Zyp rfl rfl <| yBr (yB (yB (yC Zer fun x0 _=>
  yG fun x1 hx1=>
  Zk (ZV rfl hx1) yR)
  (yBr yR))
  (yB ((by
 conv=>rhs;whnf
 refine Zi _ ZjA fun x2 _=>?_
 rcases x2 with x2 | x2
 exact yR
 exact yC Zer fun x3 _=>
  yG fun x4 hx4=>
  Zk (ZV rfl hx4) yR))
  (yBr yR)))
def Zki (r:(Za×Zb×Int)):D:=(D.tup [(zK3 true r.1.ring r.1.top r.1.bottom),(D.agg [(D.bool r.2.1.steal),(Zp r.2.1.at_),(Zp r.2.1.top),(Zp r.2.1.bottom),(Zp r.2.1.got),(Zp r.2.1.end_)]),(Zp r.2.2)])
theorem Zn2 {t0:Bool}{a:Za}{b:Zb}:∀r,(Zad a b)=some r->evD ctx 116 [(.d (zK3 t0 a.ring a.top a.bottom)),(.d (D.agg [(D.bool b.steal),(Zp b.at_),(Zp b.top),(Zp b.bottom),(Zp b.got),(Zp b.end_)]))]=some (Zki r):=
 evT Zzt rfl rfl <| yC Zes fun x0 _=>
  yBr (yC Zog fun x1 _=>
  yB (Zi _ Zj3 fun x2 _=>
  yB (Zi _ Zni fun x3 _=>
  yC Zes fun x4 _=>
  yBr yR)
  (Zi _ Zo8 fun x5 _=>
  yC Zes fun x6 _=>
  yBr yR))
  yR)
def Zkn (t0 t1:Bool) (b c:Int) (mA:List Int) (mD:List Zt) (mI:Int) (mB:List Int) (mC:List Int) (mE:List Za) (mF:List Zb) (mH:List Int):(List Zb)->V×Zh
  | r=>((.d (D.tup [])),[(zK7 t0 mA t1 mD mI),(zA mB),(zA mC),(.arr 3 (List.map ZM mE)),(.arr 6 (List.map ZO r)),(zA (List.set mH b.toNat c))])
theorem ZdR {t0 t1:Bool}{b c:Int}{mA:List Int}{mD:List Zt}{mI:Int}{mB:List Int}{mC:List Int}{mE:List Za}{mF:List Zb}{mH:List Int}:∀r,(Zbh b c mF mH)=some r->evW ctx 117 [(.ptr 0 0),(zN b),(zN c)] [(zK7 t0 mA t1 mD mI),(zA mB),(zA mC),(.arr 3 (List.map ZM mE)),(.arr 6 (List.map ZO mF)),(zA mH)]=some ((Zkn t0 t1 b c mA mD mI mB mC mE mF mH) r):=
 evS ZwU rfl rfl <| yG fun x0 hx0=>
  Zk (ZV rfl hx0) (Zd (Zax Zp mH b.toNat c) (yB (yG fun x1 hx1=>
  Zk (ZV rfl hx1) (Zd (Zax ZO mF b.toNat (Zb.mk true 0 0 0 0 0)) yR))
  (yG fun x2 hx2=>
  Zk (ZV rfl hx2) (Zd (Zax ZO mF b.toNat (Zb.mk false 0 0 0 0 0)) yR))))
def Zk2 (t0 t1:Bool) (b:Int) (mA:List Int) (mD:List Zt) (mI:Int) (mB:List Int) (mC:List Int) (mE:List Za) (mF:List Zb) (mH:List Int):(Int×(List Int)×(List Za)×(List Zb)×(List Int))->V×Zh
  | r=>((zN r.1),[(zK7 t0 mA t1 mD mI),(zA r.2.1),(zA mC),(.arr 3 (List.map ZM r.2.2.1)),(.arr 6 (List.map ZO r.2.2.2.1)),(zA r.2.2.2.2)])
theorem Zkl {t0 t1:Bool}{b:Int}{mA:List Int}{mD:List Zt}{mI:Int}{mB:List Int}{mC:List Int}{mE:List Za}{mF:List Zb}{mH:List Int}:∀r,(Z3 b mA mD mB mC mE mF mH)=some r->evW ctx 67 [(.ptr 0 0),(zN b)] [(zK7 t0 mA t1 mD mI),(zA mB),(zA mC),(.arr 3 (List.map ZM mE)),(.arr 6 (List.map ZO mF)),(zA mH)]=some ((Zk2 t0 t1 b mA mD mI mB mC mE mF mH) r):=
 evS ZBF rfl rfl <| Zd (Zj _ _) (yG fun x0 hx0=>
  Zk (ZV rfl hx0) (yBn (yG fun x1 hx1=>
  Zk (ZV rfl hx1) (yG fun x2 hx2=>
  Zk (ZV rfl hx2) (yC Zn2 fun x3 _=>
  yBr (Zk (Zai rfl hx1) (Zk (ZV rfl hx1) (Zd (Zax ZM mE (Int.tmod (w64 (b+x0)) (mB.length:Int)).toNat x3.1) (Zk (Zai rfl hx2) (Zk (ZV rfl hx2) (Zd (Zax ZO mF b.toNat x3.2.1) (yB (yC Zgk fun x4 _=>
  yC ZT fun x5 _=>
  yB (yG fun x6 hx6=>
  Zk (ZV rfl hx6) (Zd (Zax Zp mB b.toNat x3.2.1.got) (Zi _ ZdR fun x7 _=>
  yR)))
  yR)
  (yB (Zk (Zai rfl hx0) (Zk (ZV rfl hx0) (yBn (Zi _ ZdR fun x8 _=>
  yR))))
  (yB (Zk (Zai rfl hx0) (Zk (ZV rfl hx0) (yBn (Zi _ ZdR fun x9 _=>
  yR))))
  yR))))))))))))))
def ZkV (t0 t1 t2:Bool) (b:List Int) (mA:List Int) (mD:List Zt) (mI:Int) (mB:List Int) (mC:List Int) (mE:List Za) (mF:List Zb) (mH:List Int):(Int×Int×Int×(List Int)×(List Za)×(List Zb)×(List Int))->V×Zh
  | r=>((.d (D.tup [(Zp r.1),(Zp r.2.1)])),[(zK7 t1 mA t2 mD r.2.2.1),(zA r.2.2.2.1),(zA mC),(.arr 3 (List.map ZM r.2.2.2.2.1)),(.arr 6 (List.map ZO r.2.2.2.2.2.1)),(zA r.2.2.2.2.2.2)])
def Zfh (t0 t1 t2:Bool) (b:List Int) (mA:List Int) (mD:List Zt) (mC:List Int):((Int×Int×Int×(List Int)×(List Za)×(List Zb)×(List Int))⊕(Int×Int×(List Int)×(List Za)×(List Zb)×(List Int)))->Ex×List V×Zh
  | (.inl r)=>(.ret,[(zN 0),(zN r.1),(zN r.2.1)],[(zK7 t1 mA t2 mD r.2.2.1),(zA r.2.2.2.1),(zA mC),(.arr 3 (List.map ZM r.2.2.2.2.1)),(.arr 6 (List.map ZO r.2.2.2.2.2.1)),(zA r.2.2.2.2.2.2)])
  | (.inr r)=>(.exit 0,[.bad,.bad,(zN r.1)],[(zK7 t1 mA t2 mD r.2.1),(zA r.2.2.1),(zA mC),(.arr 3 (List.map ZM r.2.2.2.1)),(.arr 6 (List.map ZO r.2.2.2.2.1)),(zA r.2.2.2.2.2)])
theorem ZiF {t0 t1 t2:Bool}{b:List Int}{mA:List Int}{mD:List Zt}{mC:List Int}:∀s1 r,lp (Zat b mA mD mC) s1=some r->lpW ctx 6 [0,1,6,7] [4,5,6] ZxN [(.ptr 0 0),(zV t0 b),(zN s1.1),(zV true s1.2.1)] [(zK7 t1 mA t2 mD s1.2.2.1),(zA s1.2.2.2.1),(zA mC),(.arr 3 (List.map ZM s1.2.2.2.2.1)),(.arr 6 (List.map ZO s1.2.2.2.2.2.1)),(zA s1.2.2.2.2.2.2)]=some ((Zfh t0 t1 t2 b mA mD mC) r):=
 lpT (Zfh t0 t1 t2 b mA mD mC) fun s1 _ ih=>Zd (Zj _ _) (yB (yC ZjO fun x2 _=>
  Zi _ Zkl fun x3 _=>
  yB (Zg rfl)
  (yC Zfq fun x4 _=>
  Ze (ih _)))
  (Zg rfl))
theorem ZjN {t0 t1 t2:Bool}{b:List Int}{mA:List Int}{mD:List Zt}{mI:Int}{mB:List Int}{mC:List Int}{mE:List Za}{mF:List Zb}{mH:List Int}:∀r,(Zby b mA mD mB mC mE mF mH)=some r->evW ctx 46 [(.ptr 0 0),(zV t0 b)] [(zK7 t1 mA t2 mD mI),(zA mB),(zA mC),(.arr 3 (List.map ZM mE)),(.arr 6 (List.map ZO mF)),(zA mH)]=some ((ZkV t0 t1 t2 b mA mD mI mB mC mE mF mH) r):=
 evS ZBX rfl rfl <| yC Zfq fun x0 _=>
  (by
 conv=>rhs;whnf
 refine Zi _ (ZiF _) fun r5 _=>?_
 rcases r5 with r5 | r5
 exact yR
 exact yR)
def ZrS (t0 t1:Bool) (a:Zw):Unit->V×Zh
  | r=>((.agg [(.sl 0 1),(.sl 1 1)]),[(zA a.on),(zA a.left)])
theorem Zqk {t0 t1:Bool}{a:Zw}:∀r,(Zlp a)=some r->evW ctx 148 [(.d (zK5 t0 a.on t1 a.left))] []=some ((ZrS t0 t1 a) r):=
 evS Zzi rfl rfl <| Zi _ Z9 fun x0 _=>
  Zi _ Z9 fun x1 _=>
  yR
def Zhs (mA:List Int):(List Int)->V×Zh
  | r=>((.d (D.tup [])),[(zA r)])
theorem Zd1 {mA:List Int}:∀r,(ZaV mA)=some r->evW ctx 146 [(.sl 0 1)] [(zA mA)]=some ((Zhs mA) r):=
 evS ZBf rfl rfl <| Zk (Zts rfl) (yBm (Zzb yR))
def Zqb (mA:List Int) (mB:List Int):((List Int)×(List Int)×(List Int))->V×Zh
  | r=>((.sl 2 1),[(zA r.1),(zA r.2.1),(zA r.2.2)])
def Zig (mA:List Int):((List Int)×(List Int)×(List Int))->Ex×List V×Zh
  | r=>(.exit 0,[(.sl 2 1)],[(zA r.1),(zA r.2.1),(zA r.2.2)])
theorem Zmj {mA:List Int}:∀s0 r,lp (Zdk mA) s0=some r->lpW ctx 2 [1,3,7,8,9] [3] Zw7 [(.ptr 2 0),(.sl 3 1),(.sl 0 1),(zN (mA.length:Int)),(zN s0.1)] [(zA s0.2.1),(zA s0.2.2.1),(.cells [(.sl 0 1),(.sl 1 1)]),(zA s0.2.2.2)]=some ((Zig mA) r):=
 lpT (Zig mA) fun s0 _ ih=>yB (yG fun x1 hx1=>
  Zk (ZV rfl hx1) (yB (Ze (ih _))
  (yG fun x2 hx2=>
  Zk (ZV rfl hx2) (Zk (Zai rfl hx2) (Zk (ZV rfl hx2) (Zd (Zax Zp s0.2.2.1 x1.toNat (w64 (x2-1))) (yC Zd6 fun x3 _=>
  yB (Zk (Zai rfl hx1) (Zk (ZV rfl hx1) (Zd (Zax Zp s0.2.1 s0.1.toNat (-1)) (yT (ZR (ZaG Zp s0.2.2.2 1) (Zd (ZaE Zp s0.2.2.2 [x1]) (Ze (ih _)))
  ZB)))))
  (Ze (ih _)))))))))
  (Zg rfl)
theorem ZoY {mA:List Int}{mB:List Int}:∀r,(Zkp mA mB)=some r->evW ctx 88 [(.agg [(.sl 0 1),(.sl 1 1)])] [(zA mA),(zA mB)]=some ((Zqb mA mB) r):=
 evS ZB5 rfl rfl <| Zd (Zj _ _) (Zi _ (Zmj _) fun r4 _=>
  Zi _ Zd1 fun x5 _=>
  yR)
def Zqr (t0 t1 t2 t3:Bool) (a:Zl) (b:Zw):(Int⊕((List Int)×(List Int)×(List Int)))->V×Zh
  | (.inl r)=>((.tup [(.agg [(.nilsl 1),(.nilsl 1)]),(.nilsl 1),(zN r)]),[])
  | (.inr r)=>((.tup [(.agg [(.sl 0 1),(.sl 1 1)]),(.sl 2 1),(zN 0)]),[(zA r.1),(zA r.2.1),(zA r.2.2)])
theorem ZoI {t0 t1:Bool}{t2 t3:Bool}{a:Zl}{b:Zw}:∀r,(ZhB a b)=some r->evW ctx 96 [(.d (zK1 t0 a.work t1 a.edges)),(.d (zK5 t2 b.on t3 b.left))] []=some ((Zqr t0 t1 t2 t3 a b) r):=
 evS ZBB rfl rfl <| yC Zjz fun x0 _=>
  yBr (Zi _ Zqk fun x1 _=>
  Zi _ ZoY fun x2 _=>
  yR)
theorem Zne {a:Zt}{b0:Int}:∀r,(ZbX a b0)=some r->evD ctx 150 [(.d (ZzJ a.src a.dst)),(.d (D.rptr [(Zp b0)]))]=some (ZjY r):=
 evT Zxw rfl rfl <| yBr yR
def ZdT (t1:Bool) (a:Zl) (b0:Int):(List Int)->Ex×List V×Zh
  | r=>(.exit 0,[(.sl 0 1)],[(zA r)])
theorem Zgf {t1:Bool}{a:Zl}{b0:Int}:∀s0 r,lp (ZcF a (fun z0=>ZbX z0 b0)) s0=some r->lpW ctx 0 [1,5,11,12,13] [5] ZvH [(.d (D.fn 150 [(D.rptr [(Zp b0)])])),(.sl 0 1),(zW t1 Za2 a.edges),(zN (a.edges.length:Int)),(zN s0.1)] [(zA s0.2)]=some ((ZdT t1 a b0) r):=
 lpT (ZdT t1 a b0) fun s0 _ ih=>yB (yG fun x1 _=>
  yC Zne fun x2 _=>
  yB (yT (ZR (ZaG Zp s0.2 1) (Zd (ZaE Zp s0.2 [x2.1]) (Ze (ih _)))
  ZB))
  (Ze (ih _)))
  (Zg rfl)
theorem Zht {t0 t1:Bool}{a:Zl}{b0:Int}:∀r,(Zku a (fun z0=>ZbX z0 b0))=some r->evD ctx 149 [(.d (zK1 t0 a.work t1 a.edges)),(.d (D.fn 150 [(D.rptr [(Zp b0)])]))]=some (ZaK r):=
 evT Zzj rfl rfl <| Zd (Zj _ _) (Zi _ (Zgf _) fun r3 _=>
  Zi _ Zd1 fun x4 _=>
  yR)
theorem Zpr {t0 t1:Bool}{a:Zl}{b:Int}:∀r,(ZeQ a b)=some r->evD ctx 97 [(.d (zK1 t0 a.work t1 a.edges)),(zN b)]=some (ZaK r):=
 evT ZBS rfl rfl <| yC Zhh fun x0 _=>
  yBr (yC Zht fun x1 _=>
  yR)
def Zk6 (t0 t1:Bool) (mA:List Int) (mD:List Zt) (mI:Int) (mB:List Int) (mC:List Int) (mE:List Za) (mF:List Zb) (mH:List Int):(Int⊕(((List Za)×(List Int)×(List Int))⊕((List Za)×(List Int)×(List Int)×(List Int))))->V×Zh
  | (.inl r)=>((.tup [(.nilsl 1),(zN r)]),[(zK7 t0 mA t1 mD mI),(zA mB),(zA mC),(.arr 3 (List.map ZM mE)),(.arr 6 (List.map ZO mF)),(zA mH)])
  | (.inr (.inl r))=>((.tup [(.nilsl 1),(zN 130)]),[(.cells [(.sl 6 1),(.sl 7 1),(.sl 3 3),(.sl 4 6),(.sl 5 1),(zV t0 mA),(zW t1 Za2 mD),(zN mI)]),(zA mB),(zA mC),(.arr 3 (List.map ZM r.1)),(.arr 6 (List.map ZO mF)),(zA mH),(zA r.2.1),(zA r.2.2)])
  | (.inr (.inr r))=>((.tup [(.sl 6 1),(zN 0)]),[(.cells [(.sl 7 1),(.sl 8 1),(.sl 3 3),(.sl 4 6),(.sl 5 1),(zV t0 mA),(zW t1 Za2 mD),(zN mI)]),(zA mB),(zA mC),(.arr 3 (List.map ZM r.1)),(.arr 6 (List.map ZO mF)),(zA mH),(zA r.2.1),(zA r.2.2.1),(zA r.2.2.2)])
def ZeZ (t0 t1:Bool) (mA:List Int) (mD:List Zt) (mI:Int) (mB:List Int) (mC:List Int) (mF:List Zb) (mH:List Int) (x1:((List Int)×(List Int)×(List Int))) (x2:List Int) (s3:Int×(List Za)×(List Int)) (x6:List Int):(((List Za)×(List Int))⊕((List Za)×(List Int)))->Ex×List V×Zh
  | (.inl r)=>(.ret,[(.ptr 0 0),(.nilsl 1),(zN 130),(.sl 6 1),(zV true x2),(.fn 1000054 [(.ptr 0 0)]),(.sl 7 1),(.sl 8 1),(zN (mB.length:Int)),(zN s3.1)],[(.cells [(.sl 9 1),(.sl 10 1),(.sl 3 3),(.sl 4 6),(.sl 5 1),(zV t0 mA),(zW t1 Za2 mD),(zN mI)]),(zA mB),(zA mC),(.arr 3 (List.map ZM r.1)),(.arr 6 (List.map ZO mF)),(zA mH),(zA x1.2.2),(zA r.2),(zA mB),(zA x1.1),(zA x1.2.1)])
  | (.inr r)=>(.exit 2,[(.ptr 0 0),.bad,.bad,(.sl 6 1),(zV true x2),(.fn 1000054 [(.ptr 0 0)]),(.sl 7 1),(.sl 8 1),(zN (mB.length:Int)),(zN s3.1)],[(.cells [(.sl 9 1),(.sl 10 1),(.sl 3 3),(.sl 4 6),(.sl 5 1),(zV t0 mA),(zW t1 Za2 mD),(zN mI)]),(zA mB),(zA mC),(.arr 3 (List.map ZM r.1)),(.arr 6 (List.map ZO mF)),(zA mH),(zA x1.2.2),(zA r.2),(zA mB),(zA x1.1),(zA x1.2.1)])
theorem ZiL {t0 t1:Bool}{mA:List Int}{mD:List Zt}{mI:Int}{mB:List Int}{mC:List Int}{mF:List Zb}{mH:List Int}{x1:((List Int)×(List Int)×(List Int))}{x2:List Int}{s3:Int×(List Za)×(List Int)}{x6:List Int}:∀s7 r,lp (Z4 x2 s3 x6) s7=some r->lpW ctx 6 [0,6,8,9,10,11,52,53,54,78,79,80] [0,2,3,6,8,9,10,52,53,54] ZzS [(.ptr 0 0),(.sl 6 1),(zV true x2),(.fn 1000054 [(.ptr 0 0)]),(.sl 7 1),(zN s3.1),(.sl 8 1),(zN (mB.length:Int)),(zN s3.1),(zV true x6),(zN (x6.length:Int)),(zN s7.1)] [(.cells [(.sl 9 1),(.sl 10 1),(.sl 3 3),(.sl 4 6),(.sl 5 1),(zV t0 mA),(zW t1 Za2 mD),(zN mI)]),(zA mB),(zA mC),(.arr 3 (List.map ZM s7.2.1)),(.arr 6 (List.map ZO mF)),(zA mH),(zA x1.2.2),(zA s7.2.2),(zA mB),(zA x1.1),(zA x1.2.1)]=some ((ZeZ t0 t1 mA mD mI mB mC mF mH x1 x2 s3 x6) r):=
 lpT (ZeZ t0 t1 mA mD mI mB mC mF mH x1 x2 s3 x6) fun s7 _ ih=>yB (yG fun x8 _=>
  yC ZT fun x9 _=>
  yB (yC ZT fun x10 _=>
  yB (Ze (ih _))
  (by
 conv=>rhs;whnf
 refine Zi _ Zf5 fun x11 _=>?_
 rcases x11 with x11 | x11
 exact yT (ZR (ZaG Zp s7.2.2 1) (Zd (ZaE Zp s7.2.2 [x8]) (Ze (ih _)))
  ZB)
 exact Zg rfl))
  (Ze (ih _)))
  (Zg rfl)
def ZeY (t0 t1:Bool) (mA:List Int) (mD:List Zt) (mI:Int) (mB:List Int) (mC:List Int) (mF:List Zb) (mH:List Int) (x1:((List Int)×(List Int)×(List Int))) (x2:List Int):((List Za)⊕(List Za))->Ex×List V×Zh
  | (.inl r)=>(.ret,[(.nilsl 1),(zN 130),(.sl 6 1)],[(.cells [(.sl 7 1),(.sl 8 1),(.sl 3 3),(.sl 4 6),(.sl 5 1),(zV t0 mA),(zW t1 Za2 mD),(zN mI)]),(zA mB),(zA mC),(.arr 3 (List.map ZM r)),(.arr 6 (List.map ZO mF)),(zA mH),(zA x1.2.2),(zA x1.1),(zA x1.2.1)])
  | (.inr r)=>(.exit 0,[.bad,.bad,(.sl 6 1)],[(.cells [(.sl 7 1),(.sl 8 1),(.sl 3 3),(.sl 4 6),(.sl 5 1),(zV t0 mA),(zW t1 Za2 mD),(zN mI)]),(zA mB),(zA mC),(.arr 3 (List.map ZM r)),(.arr 6 (List.map ZO mF)),(zA mH),(zA x1.2.2),(zA x1.1),(zA x1.2.1)])
theorem Ziu {t0 t1:Bool}{mA:List Int}{mD:List Zt}{mI:Int}{mB:List Int}{mC:List Int}{mF:List Zb}{mH:List Int}{x1:((List Int)×(List Int)×(List Int))}{x2:List Int}:∀s3 r,lp (Zak mA mD mB x1 x2) s3=some r->lpW ctx 6 [0,6,8,9,10,52,53,54] [2,3,6] Zx2 [(.ptr 0 0),(.sl 6 1),(zV true x2),(.fn 1000054 [(.ptr 0 0)]),(.sl 7 1),(.sl 8 1),(zN (mB.length:Int)),(zN s3.1)] [(.cells [(.sl 9 1),(.sl 10 1),(.sl 3 3),(.sl 4 6),(.sl 5 1),(zV t0 mA),(zW t1 Za2 mD),(zN mI)]),(zA mB),(zA mC),(.arr 3 (List.map ZM s3.2.1)),(.arr 6 (List.map ZO mF)),(zA mH),(zA x1.2.2),(zA s3.2.2),(zA mB),(zA x1.1),(zA x1.2.1)]=some ((ZeY t0 t1 mA mD mI mB mC mF mH x1 x2) r):=
 lpT (ZeY t0 t1 mA mD mI mB mC mF mH x1 x2) fun s3 _ ih=>yB (yG fun x4 hx4=>
  Zk (ZV rfl hx4) (yB (Ze (ih _))
  (yG fun x5 hx5=>
  Zk (ZV rfl hx5) (yB (Ze (ih _))
  (yC Zpr fun x6 _=>
  Zd (Zj _ _) (by
 conv=>rhs;whnf
 refine Zi _ (ZiL _) fun r12 _=>?_
 rcases r12 with r12 | r12
 exact Zg rfl
 exact Ze (ih _)))))))
  (Zg rfl)
theorem Zko {t0 t1:Bool}{mA:List Int}{mD:List Zt}{mI:Int}{mB:List Int}{mC:List Int}{mE:List Za}{mF:List Zb}{mH:List Int}:∀r,(Zbz mA mD mB mC mE)=some r->evW ctx 48 [(.ptr 0 0)] [(zK7 t0 mA t1 mD mI),(zA mB),(zA mC),(.arr 3 (List.map ZM mE)),(.arr 6 (List.map ZO mF)),(zA mH)]=some ((Zk6 t0 t1 mA mD mI mB mC mE mF mH) r):=
 evS ZB6 rfl rfl <| Zi _ Z9 fun x0 _=>
  (by
 conv=>rhs;whnf
 refine Zi _ ZoI fun x1 _=>?_
 rcases x1 with x1 | x1
 exact yBm yR
 exact yF (yC Zgk fun x2 _=>
  Zd (Zj _ _) (by
 conv=>rhs;whnf
 refine Zi _ (Ziu _) fun r13 _=>?_
 rcases r13 with r13 | r13
 exact yR
 exact yR)))
def Zlc (r:((List (List Int))×Int×Int)):D:=(D.tup [(D.list true (List.map (ZbL true) r.1)),(Zp r.2.1),(Zp r.2.2)])
def Zid (t0 t1 t2 t3:Bool) (a:Zl) (b:List Int) (c:Int) (d:List Int) (x0:((List Int)×(List Za))):Int->Ex×List V×Zh
  | r=>(.exit 0,[(zV t3 d),(.ptr 0 0),(.ptr 1 0),(zN r)],[(zK0 t0 a.work t1 a.edges),(ZtP ),(zA x0.1),(zA b),(.arr 3 (List.map ZM x0.2)),(.arr 6 (List.map ZO (List.replicate c.toNat ((Zb.mk false 0 0 0 0 0):Zb)))),(zA (List.replicate c.toNat (0:Int)))])
theorem Zmp {t0 t1:Bool}{t2 t3:Bool}{a:Zl}{b:List Int}{c:Int}{d:List Int}{x0:((List Int)×(List Za))}:∀s1 r,lp (Zd3 b) s1=some r->lpW ctx 0 [3,4,11,13,33,34,35] [3,4,11,13] ZwX [(zV t3 d),(.ptr 0 0),(.ptr 1 0),(zN s1.1),(zV t2 b),(zN (b.length:Int)),(zN s1.2)] [(zK0 t0 a.work t1 a.edges),(ZtP ),(zA x0.1),(zA b),(.arr 3 (List.map ZM x0.2)),(.arr 6 (List.map ZO (List.replicate c.toNat ((Zb.mk false 0 0 0 0 0):Zb)))),(zA (List.replicate c.toNat (0:Int)))]=some ((Zid t0 t1 t2 t3 a b c d x0) r):=
 lpT (Zid t0 t1 t2 t3 a b c d x0) fun s1 _ ih=>yB (yG fun x2 _=>
  Ze (ih _))
  (Zg rfl)
def Zih (t0 t1 t3:Bool) (a:Zl) (d:List Int):((Int×Int×(List (List Int)))⊕(Int×(List (List Int))))->Ex×List V×Zh
  | (.inl r)=>(.ret,[(.nilsl 1),(zN 0),(zN r.1),(.sl 0 1),(zN r.2.1)],[(.arr 1 (List.map (ZbL true) r.2.2))])
  | (.inr r)=>(.exit 2,[.bad,.bad,.bad,(.sl 0 1),(zN r.1)],[(.arr 1 (List.map (ZbL true) r.2))])
theorem ZmD {t0 t1 t3:Bool}{a:Zl}{d:List Int}:∀s4 r,lp (Zcd a d) s4=some r->lpW ctx 0 [3,16,17,18] [8,9,10,17,18] Zy1 [(zV t3 d),(.ptr 0 0),(.sl 1 1),(zN s4.1)] [(.cells [(.sl 2 1),(.sl 3 1),(.sl 4 3),(.sl 5 6),(.sl 6 1),(zV t0 a.work),(zW t1 Za2 a.edges),(zN s4.2.1)]),(.arr 1 (List.map (ZbL true) s4.2.2.1)),(zA s4.2.2.2.1),(zA s4.2.2.2.2.1),(.arr 3 (List.map ZM s4.2.2.2.2.2.1)),(.arr 6 (List.map ZO s4.2.2.2.2.2.2.1)),(zA s4.2.2.2.2.2.2.2)]=some ((Zih t0 t1 t3 a d) r):=
 lpT (Zih t0 t1 t3 a d) fun s4 _ ih=>yC ZcH fun x5 _=>
  yB (Zd (Zj _ _) (yBm (ZR (Zsi Zp d (bif decide ((d.length:Int)<s4.1) then (d.length:Int) else s4.1).toNat) (ZeS (Zxu Zp (fun _=>⟨rfl,rfl⟩) d _) (Zd (ZpE Zp d (bif decide ((d.length:Int)<s4.1) then (d.length:Int) else s4.1).toNat) (Zi _ ZjN fun x6 _=>
  yB (Zg rfl)
  (Zi _ Z9 fun x7 _=>
  yT (ZR (ZaG (ZbL true) s4.2.2.1 1) (Zd (ZaE (ZbL true) s4.2.2.1 [x6.2.2.2.1]) (by
 conv=>rhs;whnf
 refine Zi _ Zko fun x8 _=>?_
 rcases x8 with x8 | (x8 | x8)
 exact yBm (Zg rfl)
 exact yT (Zg rfl)
 exact yF (Ze (ih _))))
  ZB)))))
  ZB)))
  (Zg rfl)
theorem Zo3 {t0 t1:Bool}{t2 t3:Bool}{a:Zl}{b:List Int}{c:Int}{d:List Int}:∀r,(ZeW a b c d)=some r->evD ctx 12 [(.d (zK1 t0 a.work t1 a.edges)),(zV t2 b),(zN c),(zV t3 d)]=some (Zlc r):=
 evT ZBH rfl rfl <| (by
 conv=>rhs;whnf
 refine Zi _ ZjR fun x0 _=>?_
 rcases x0 with x0 | x0
 exact yBm yR
 exact yF (Zd (Zj _ _) (Zi _ (Zmp _) fun r3 _=>
  yBr (by
 conv=>rhs;whnf
 refine Zi _ (ZmD _) fun r9 _=>?_
 rcases r9 with r9 | r9
 exact yR
 exact yR))))
theorem Zjw {t0 t1:Bool}{a:Zl}{b:Int}:∀r,(Ze7 a b)=some r->evD ctx 188 [(.d (zK1 t0 a.work t1 a.edges)),(zN b)]=some (Zo r):=
 evT Zy8 rfl rfl <| yB (Zd (Zj _ _) (yBr yR))
  yR
def Zhc (t0 t1:Bool) (a:Zl):(Unit⊕Unit)->Ex×List V×Zh
  | (.inl r)=>(.ret,[(.ptr 0 0),(zN 41)],[(zK0 t0 a.work t1 a.edges)])
  | (.inr r)=>(.exit 0,[(.ptr 0 0),.bad],[(zK0 t0 a.work t1 a.edges)])
theorem Zk5 {t0 t1:Bool}{a:Zl}:∀s0 r,lp (ZcW a) s0=some r->lpW ctx 0 [1,3] [1,2] Zvj [(.ptr 0 0),(zN s0)] [(zK0 t0 a.work t1 a.edges)]=some ((Zhc t0 t1 a) r):=
 lpT (Zhc t0 t1 a) fun s0 _ ih=>Zd (Zj _ _) (yB (yG fun x1 hx1=>
  yB (Zg rfl)
  (Zk (Zai rfl hx1) (yB (Zg rfl)
  (Ze (ih _)))))
  (Zg rfl))
def Zg4 (t0 t1:Bool) (a:Zl) (s3:Int) (x4:Zt):(Unit⊕Unit)->Ex×List V×Zh
  | (.inl r)=>(.ret,[(.ptr 0 0),(zN 42),(zN s3)],[(zK0 t0 a.work t1 a.edges)])
  | (.inr r)=>(.exit 4,[(.ptr 0 0),.bad,(zN s3)],[(zK0 t0 a.work t1 a.edges)])
theorem ZkQ {t0 t1:Bool}{a:Zl}{s3:Int}{x4:Zt}:∀s7 r,lp (Zdg a s3 x4) s7=some r->lpW ctx 0 [1,4,5,6] [1,2,4] ZuU [(.ptr 0 0),(zN s3),(.ptr 1 0),(zN s7)] [(zK0 t0 a.work t1 a.edges),(.cells [(zN x4.src),(zN x4.dst)])]=some ((Zg4 t0 t1 a s3 x4) r):=
 lpT (Zg4 t0 t1 a s3 x4) fun s7 _ ih=>yB (yG fun x8 _=>
  yB (Zg rfl)
  (Ze (ih _)))
  (Zg rfl)
def Zhb (t0 t1:Bool) (a:Zl):(Unit⊕Unit)->Ex×List V×Zh
  | (.inl r)=>(.ret,[(zN 42)],[])
  | (.inr r)=>(.exit 2,[.bad],[])
theorem ZkX {t0 t1:Bool}{a:Zl}:∀s3 r,lp (Zc2 a) s3=some r->lpW ctx 0 [1,4] [2] ZuR [(.ptr 0 0),(zN s3)] [(zK0 t0 a.work t1 a.edges)]=some ((Zhb t0 t1 a) r):=
 lpT (Zhb t0 t1 a) fun s3 _ ih=>Zd (Zj _ _) (yB (yG fun x4 _=>
  yC Zjw fun x5 _=>
  yB (yC Zjw fun x6 _=>
  yB (yB (Zg rfl)
  (by
 conv=>rhs;whnf
 refine Zi _ (ZkQ _) fun r9 _=>?_
 rcases r9 with r9 | r9
 exact Zg rfl
 exact Ze (ih _)))
  (Zg rfl))
  (Zg rfl))
  (Zg rfl))
theorem Znu {t0 t1:Bool}{a:Zl}:∀r,(ZfP a)=some r->evD ctx 162 [(.d (zK1 t0 a.work t1 a.edges))]=some (Zc r):=
 evT Zzv rfl rfl <| Zd (Zj _ _) (yBr (Zd (Zj _ _) (yBr (by
 conv=>rhs;whnf
 refine Zi _ (Zk5 _) fun r2 _=>?_
 rcases r2 with r2 | r2
 exact yR
 exact(by
 conv=>rhs;whnf
 refine Zi _ (ZkX _) fun r10 _=>?_
 rcases r10 with r10 | r10
 exact yR
 exact yR)))))
def Zod (r:List Bool):D:=(D.list true (List.map D.bool r))
def Zhm (t0 t1:Bool) (a:Zl) (b:Int) (s0:Int×(List Bool)):(List Bool)->Ex×List V×Zh
  | r=>(.exit 2,[(zN b),(.ptr 0 0),(.sl 1 1),(zN s0.1)],[(zK0 t0 a.work t1 a.edges),(.arr 1 (List.map D.bool r))])
theorem ZkN {t0 t1:Bool}{a:Zl}{b:Int}{s0:Int×(List Bool)}:∀s1 r,lp (Zb8 a b) s1=some r->lpW ctx 0 [1,2,5,6,7] [1,2,5,6] Zvz [(zN b),(.ptr 0 0),(.sl 1 1),(zN s0.1),(zN s1.1)] [(zK0 t0 a.work t1 a.edges),(.arr 1 (List.map D.bool s1.2))]=some ((Zhm t0 t1 a b s0) r):=
 lpT (Zhm t0 t1 a b s0) fun s1 _ ih=>Zd (Zj _ _) (yB (yG fun x2 _=>
  yB (yG fun x3 hx3=>
  Zk (ZV rfl hx3) (Zd (Zax D.bool s1.2 x2.dst.toNat true) (Ze (ih _))))
  (yG fun x4 hx4=>
  Zk (ZV rfl hx4) (yB (yG fun x5 hx5=>
  Zk (ZV rfl hx5) (Zd (Zax D.bool s1.2 x2.dst.toNat true) (Ze (ih _))))
  (Ze (ih _)))))
  (Zg rfl))
def Zg8 (t0 t1:Bool) (a:Zl) (b:Int):(List Bool)->Ex×List V×Zh
  | r=>(.exit 0,[(.sl 0 1)],[(.arr 1 (List.map D.bool r))])
theorem ZkP {t0 t1:Bool}{a:Zl}{b:Int}:∀s0 r,lp (Zb5 a b) s0=some r->lpW ctx 0 [1,2,5,6] [5] Zvh [(zN b),(.ptr 0 0),(.sl 1 1),(zN s0.1)] [(zK0 t0 a.work t1 a.edges),(.arr 1 (List.map D.bool s0.2))]=some ((Zg8 t0 t1 a b) r):=
 lpT (Zg8 t0 t1 a b) fun s0 _ ih=>Zd (Zj _ _) (yB (Zi _ (ZkN _) fun r6 _=>
  Ze (ih _))
  (Zg rfl))
theorem Zno {t0 t1:Bool}{a:Zl}{b:Int}:∀r,(ZfT a b)=some r->evD ctx 163 [(.d (zK1 t0 a.work t1 a.edges)),(zN b)]=some (Zod r):=
 evT Zzw rfl rfl <| Zd (Zj _ _) (yBm (Zd (ZgD D.bool (false:Bool) (a.work.length:Int)) (Zi _ (ZkP _) fun r7 _=>
  yR)))
def Zg2 (t0 t1:Bool) (a:Zl):(Unit⊕Unit)->Ex×List V×Zh
  | (.inl r)=>(.ret,[(zN 43)],[])
  | (.inr r)=>(.exit 0,[.bad],[])
theorem ZkU {t0 t1:Bool}{a:Zl}:∀s1 r,lp (Zc7 a) s1=some r->lpW ctx 0 [1,4] [2] Zvu [(.ptr 0 0),(zN s1)] [(zK0 t0 a.work t1 a.edges)]=some ((Zg2 t0 t1 a) r):=
 lpT (Zg2 t0 t1 a) fun s1 _ ih=>Zd (Zj _ _) (yB (yC Zno fun x2 _=>
  yG fun x3 _=>
  yB (Zg rfl)
  (Ze (ih _)))
  (Zg rfl))
theorem Ziw {t0 t1:Bool}{a:Zl}:∀r,(Zew a)=some r->evD ctx 106 [(.d (zK1 t0 a.work t1 a.edges))]=some (Zc r):=
 evT ZxI rfl rfl <| yC Znu fun x0 _=>
  yBr (by
 conv=>rhs;whnf
 refine Zi _ (ZkU _) fun r4 _=>?_
 rcases r4 with r4 | r4
 exact yR
 exact yR)
def ZhI (t0 t1 t2:Bool) (a:Zl) (b:List Int) (c:Int):(Unit⊕Unit)->Ex×List V×Zh
  | (.inl r)=>(.ret,[(zV t2 b),(zN c),(.ptr 0 0),(.d (D.bool false))],[(zK0 t0 a.work t1 a.edges)])
  | (.inr r)=>(.exit 0,[(zV t2 b),(zN c),(.ptr 0 0),.bad],[(zK0 t0 a.work t1 a.edges)])
theorem ZlA {t0 t1 t2:Bool}{a:Zl}{b:List Int}{c:Int}:∀s0 r,lp (ZdD b) s0=some r->lpW ctx 0 [1,2,3,7] [1,2,3,6] ZuZ [(zV t2 b),(zN c),(.ptr 0 0),(zN s0)] [(zK0 t0 a.work t1 a.edges)]=some ((ZhI t0 t1 t2 a b c) r):=
 lpT (ZhI t0 t1 t2 a b c) fun s0 _ ih=>Zd (Zj _ _) (yB (yG fun x1 hx1=>
  yB (Zg rfl)
  (Zk (Zai rfl hx1) (yB (Zg rfl)
  (Ze (ih _)))))
  (Zg rfl))
theorem Zn3 {t0 t1 t2:Bool}{a:Zl}{b:List Int}{c:Int}:∀r,(Zgx a b c)=some r->evD ctx 107 [(.d (zK1 t0 a.work t1 a.edges)),(zV t2 b),(zN c)]=some (Zo r):=
 evT Zx6 rfl rfl <| (by
 conv=>rhs;whnf
 refine Zi _ (ZlA _) fun r2 _=>?_
 rcases r2 with r2 | r2
 exact yR
 exact Zd (Zj _ _) (Zd (Zj _ _) (yB (yB (yBr yR)
  yR)
  yR)))
def Zqo (r:(Zw×Int)):D:=(D.tup [(zK5 true r.1.on true r.1.left),(Zp r.2)])
theorem Zmc {b:List Int}{c:Int}:∀s2 r,lp (Zde c) s2=some r->lpW ctx 0 [2,6,9,10] [6,9] ZwV [(zN c),(.ptr 0 0),(.ptr 1 0),(zN s2.1)] [(.cells [(.sl 2 1),(.sl 3 1)]),(ZwD ),(.arr 1 []),(.arr 1 []),(zA s2.2),(zA b)]=some ((ZeA b c) r):=
 lpT (ZeA b c) fun s2 _ ih=>yB (yT (ZR (ZaG Zp s2.2 1) (Zd (ZaE Zp s2.2 [(-1)]) (Ze (ih _)))
  ZB))
  (Zg rfl)
theorem ZoN {t0 t1 t2:Bool}{a:Zl}{b:List Int}{c:Int}:∀r,(ZhD a b c)=some r->evD ctx 55 [(.d (zK1 t0 a.work t1 a.edges)),(zV t2 b),(zN c)]=some (Zqo r):=
 evT ZBD rfl rfl <| yC Ziw fun x0 _=>
  yBr (yC Zn3 fun x1 _=>
  yB (ZeS (Za9 (f:=Zp) (fun _=>⟨rfl,rfl⟩) b 0) (ZR (Zbq Zp b) (Zd (rfl:_=List.map Zp b) (Zi _ (Zmc _) fun r3 _=>
  yR))
  ZB))
  yR)
def Ziz (t0:Bool) (a:List Int) (b:Int):(Unit⊕Unit)->Ex×List V×Zh
  | (.inl r)=>(.ret,[(.d (D.bool true))],[])
  | (.inr r)=>(.exit 0,[.bad],[])
theorem Zmw {t0:Bool}{a:List Int}{b:Int}:∀s0 r,lp (Zeb a b) s0=some r->lpW ctx 0 [0,1,5] [4] ZyB [(zV t0 a),(zN b),(zN s0)] []=some ((Ziz t0 a b) r):=
 lpT (Ziz t0 a b) fun s0 _ ih=>Zd (Zj _ _) (yB (yG fun x1 _=>
  yB (Zg rfl)
  (Ze (ih _)))
  (Zg rfl))
theorem Zch {t0:Bool}{a:List Int}{b:Int}:∀r,(Zb0 a b)=some r->evD ctx 25 [(zV t0 a),(zN b)]=some (Zo r):=
 evT ZCj rfl rfl <| (by
 conv=>rhs;whnf
 refine Zi _ (Zmw _) fun r2 _=>?_
 rcases r2 with r2 | r2
 exact yR
 exact yR)
def ZhX (t0 t1:Bool) (a:Zl) (b c:Int):(Unit⊕Unit)->Ex×List V×Zh
  | (.inl r)=>(.ret,[(.d (D.bool true))],[])
  | (.inr r)=>(.exit 0,[.bad],[])
theorem ZlR {t0 t1:Bool}{a:Zl}{b c:Int}:∀s0 r,lp (ZdG a b c) s0=some r->lpW ctx 0 [1,2,3,7] [6] ZuV [(zN b),(zN c),(.ptr 0 0),(zN s0)] [(zK0 t0 a.work t1 a.edges)]=some ((ZhX t0 t1 a b c) r):=
 lpT (ZhX t0 t1 a b c) fun s0 _ ih=>Zd (Zj _ _) (yB (yG fun x1 hx1=>
  yB (Zk (Zai rfl hx1) (yB (Zg rfl)
  (Ze (ih _))))
  (Ze (ih _)))
  (Zg rfl))
theorem ZjD {t0 t1:Bool}{a:Zl}{b c:Int}:∀r,(Ze4 a b c)=some r->evD ctx 155 [(.d (zK1 t0 a.work t1 a.edges)),(zN b),(zN c)]=some (Zo r):=
 evT ZxD rfl rfl <| (by
 conv=>rhs;whnf
 refine Zi _ (ZlR _) fun r2 _=>?_
 rcases r2 with r2 | r2
 exact yR
 exact yR)
def Zdu (t0 t1:Bool) (a:Zl) (b:Int):(List Int)->Ex×List V×Zh
  | r=>(.exit 0,[(.sl 0 1)],[(zA r)])
theorem ZkL {t0 t1:Bool}{a:Zl}{b:Int}:∀s0 r,lp (Zdb a b) s0=some r->lpW ctx 0 [1,2,5,6] [5] Zvf [(zN b),(.ptr 0 0),(.sl 1 1),(zN s0.1)] [(zK0 t0 a.work t1 a.edges),(zA s0.2)]=some ((Zdu t0 t1 a b) r):=
 lpT (Zdu t0 t1 a b) fun s0 _ ih=>Zd (Zj _ _) (yB (yC ZjD fun x1 _=>
  yB (yT (ZR (ZaG Zp s0.2 1) (Zd (ZaE Zp s0.2 [s0.1]) (Ze (ih _)))
  ZB))
  (Ze (ih _)))
  (Zg rfl))
theorem Zm6 {t0 t1:Bool}{a:Zl}{b:Int}:∀r,(ZfM a b)=some r->evD ctx 113 [(.d (zK1 t0 a.work t1 a.edges)),(zN b)]=some (ZaK r):=
 evT ZzK rfl rfl <| Zi _ (ZkL _) fun r2 _=>
  yR
def Zhz (t2 t3:Bool) (b:Zw) (x0:List Int):(Unit⊕Unit)->Ex×List V×Zh
  | (.inl r)=>(.ret,[(.d (D.bool false))],[])
  | (.inr r)=>(.exit 0,[.bad],[])
theorem ZlG {t2 t3:Bool}{b:Zw}{x0:List Int}:∀s1 r,lp (ZdI b x0) s1=some r->lpW ctx 0 [4,7,8] [6] ZxA [(.ptr 0 0),(zV true x0),(zN s1)] [(zK4 t2 b.on t3 b.left)]=some ((Zhz t2 t3 b x0) r):=
 lpT (Zhz t2 t3 b x0) fun s1 _ ih=>Zd (Zj _ _) (yB (yG fun x2 _=>
  yG fun x3 _=>
  yB (Zg rfl)
  (Ze (ih _)))
  (Zg rfl))
theorem Zgj {t0 t1:Bool}{t2 t3:Bool}{a:Zl}{b:Zw}{c:Int}:∀r,(Zee a b c)=some r->evD ctx 64 [(.d (zK1 t0 a.work t1 a.edges)),(.d (zK5 t2 b.on t3 b.left)),(zN c)]=some (Zo r):=
 evT ZBG rfl rfl <| yC Zm6 fun x0 _=>
  (by
 conv=>rhs;whnf
 refine Zi _ (ZlG _) fun r4 _=>?_
 rcases r4 with r4 | r4
 exact yR
 exact yR)
theorem Zk3 {t0 t1:Bool}{t2 t3:Bool}{a:Zl}{b:Zw}:∀s0 r,lp (Zdc a b) s0=some r->lpW ctx 0 [2,3,5,6] [5] ZxX [(.ptr 0 0),(.ptr 1 0),(.sl 2 1),(zN s0.1)] [(zK0 t0 a.work t1 a.edges),(zK4 t2 b.on t3 b.left),(zA s0.2)]=some ((ZdZ t0 t1 t2 t3 a b) r):=
 lpT (ZdZ t0 t1 t2 t3 a b) fun s0 _ ih=>Zd (Zj _ _) (yB (yG fun x1 _=>
  yB (yC Zch fun x2 _=>
  yB (Ze (ih _))
  (yC Zgj fun x3 _=>
  yB (yT (ZR (ZaG Zp s0.2 1) (Zd (ZaE Zp s0.2 [s0.1]) (Ze (ih _)))
  ZB))
  (Ze (ih _))))
  (Ze (ih _)))
  (Zg rfl))
theorem Zeg {t0 t1:Bool}{t2 t3:Bool}{a:Zl}{b:Zw}:∀r,(ZcN a b)=some r->evD ctx 24 [(.d (zK1 t0 a.work t1 a.edges)),(.d (zK5 t2 b.on t3 b.left))]=some (ZaK r):=
 evT ZBq rfl rfl <| Zi _ (Zk3 _) fun r4 _=>
  yR
def ZiR (a:Int):(Int⊕Unit)->Ex×List V×Zh
  | (.inl r)=>(.ret,[(zN r),(.d (D.bool true))],[])
  | (.inr r)=>(.exit 0,[.bad,.bad],[])
theorem Zms {a:Int}:∀s0 r,lp (Zbp a) s0=some r->lpW ctx 0 [0,4,5] [2,3] ZuJ [(zN a),(zN s0.1),(zN s0.2)] []=some ((ZiR a) r):=
 lpT (ZiR a) fun s0 _ ih=>yB (yB (Zg rfl)
  (Ze (ih _)))
  (Zg rfl)
theorem ZoS {a:Int}:∀r,(Zf4 a)=some r->evD ctx 189 [(zN a)]=some (ZjY r):=
 evT Zys rfl rfl <| (by
 conv=>rhs;whnf
 refine Zi _ (Zms _) fun r1 _=>?_
 rcases r1 with r1 | r1
 exact yR
 exact yR)
theorem Zn1 {a:Int}:∀r,(ZgC a)=some r->evD ctx 164 [(zN a)]=some (Zo r):=
 evT ZzM rfl rfl <| yC ZoS fun x0 _=>
  yB (yBr yR)
  yR
theorem Zr {t0:Bool}{a:Za}:∀r,(Zv a)=some r->evD ctx 108 [(.d (zK3 t0 a.ring a.top a.bottom))]=some (Zo r):=
 evT ZxR rfl rfl <| Zd (Zj _ _) (yC Zn1 fun x0 _=>
  yB (yB (yB (yB (Zd (Zj _ _) (yBr yR))
  yR)
  yR)
  yR)
  yR)
def ZhG (t0:Bool) (a:Za) (b:Int):(List Int)->Ex×List V×Zh
  | r=>(.exit 0,[(.ptr 0 0),(.ptr 1 0)],[(zK9 0 0),(.cells [(.sl 3 1),(zN a.top),(zN (w64 (a.bottom+1)))]),(.arr 1 []),(zA r)])
theorem Zlw {t0:Bool}{a:Za}{b:Int}:∀s1 r,lp (ZbH a b) s1=some r->lpW ctx 0 [1,2,4,7,8] [4,7] ZxQ [(zN b),(.ptr 0 0),(.ptr 1 0),(.ptr 2 0),(zN s1.1)] [(.cells [(zV t0 a.ring),(zN a.top),(zN a.bottom)]),(.cells [(.sl 3 1),(zN 0),(zN 0)]),(.cells [(.sl 4 1),(zN a.top),(zN (w64 (a.bottom+1)))]),(.arr 1 []),(zA s1.2)]=some ((ZhG t0 a b) r):=
 lpT (ZhG t0 a b) fun s1 _ ih=>Zd (Zj _ _) (yB (Zd (Zj _ _) (yBn (yB (yT (ZR (ZaG Zp s1.2 1) (Zd (ZaE Zp s1.2 [b]) (Ze (ih _)))
  ZB))
  (yG fun x2 _=>
  yT (ZR (ZaG Zp s1.2 1) (Zd (ZaE Zp s1.2 [x2]) (Ze (ih _)))
  ZB)))))
  (Zg rfl))
theorem ZjC {t0:Bool}{a:Za}{b:Int}:∀r,(Zeo a b)=some r->evD ctx 56 [(.d (zK3 t0 a.ring a.top a.bottom)),(zN b)]=some (Zh5 r):=
 evT ZBU rfl rfl <| yC Zr fun x0 _=>
  yB (yBr (Zd (Zj _ _) (yBr (Zi _ (Zlw _) fun r3 _=>
  yR))))
  yR
def ZkZ (t0 t1:Bool) (a0:List Int) (a1:List Int) (b:Int) (c:Za) (mA:List Za) (mB:List Zb) (mC:List Int):Unit->V×Zh
  | r=>((.agg [(zV t0 a0),(zV t1 a1),(.sl 3 3),(.sl 1 6),(.sl 2 1)]),[(.arr 3 (List.map ZM mA)),(.arr 6 (List.map ZO mB)),(zA mC),(.arr 3 (List.map ZM (List.set mA b.toNat c)))])
theorem Zj9 {t0 t1:Bool}{a0:List Int}{a1:List Int}{b:Int}{c:Za}{mA:List Za}{mB:List Zb}{mC:List Int}:∀r,(Ze1 b c mA)=some r->evW ctx 57 [(.agg [(zV t0 a0),(zV t1 a1),(.sl 0 3),(.sl 1 6),(.sl 2 1)]),(zN b),(.d (zK3 true c.ring c.top c.bottom))] [(.arr 3 (List.map ZM mA)),(.arr 6 (List.map ZO mB)),(zA mC)]=some ((ZkZ t0 t1 a0 a1 b c mA mB mC) r):=
 evS ZAN rfl rfl <| ZeS (Za9 (f:=ZM) (fun _=>⟨rfl,rfl⟩) mA 0) (ZR (Zbq ZM mA) (Zd (rfl:_=List.map ZM mA) (yG fun x0 hx0=>
  Zk (ZV rfl hx0) (Zd (Zax ZM mA b.toNat c) yR)))
  ZB)
def Zld (r:(ZJ×Int)):D:=(D.tup [(zK6 true r.1.crew.on true r.1.crew.left true r.1.deques true r.1.takers true r.1.from_),(Zp r.2)])
def ZiS (t0 t1:Bool) (a:Zl) (c:Int) (x0:(Zw×Int)):((List Za)×(List Zb)×(List Int))->Ex×List V×Zh
  | r=>(.exit 0,[(zN c),(.ptr 0 0),(.ptr 1 0),(.ptr 2 0),(.ptr 3 0)],[(zK0 t0 a.work t1 a.edges),(Zuf ),(zK4 true x0.1.on true x0.1.left),(.cells [(zV true x0.1.on),(zV true x0.1.left),(.sl 9 3),(.sl 10 6),(.sl 11 1)]),(.arr 1 []),(.arr 1 []),(.arr 3 []),(.arr 6 []),(.arr 1 []),(.arr 3 (List.map ZM r.1)),(.arr 6 (List.map ZO r.2.1)),(zA r.2.2)])
theorem Zl4 {t0 t1:Bool}{a:Zl}{c:Int}{x0:(Zw×Int)}:∀s1 r,lp (ZcX c) s1=some r->lpW ctx 0 [2,3,6,8,10,11] [2,3,6,8,10] ZzH [(zN c),(.ptr 0 0),(.ptr 1 0),(.ptr 2 0),(.ptr 3 0),(zN s1.1)] [(zK0 t0 a.work t1 a.edges),(Zuf ),(zK4 true x0.1.on true x0.1.left),(.cells [(zV true x0.1.on),(zV true x0.1.left),(.sl 9 3),(.sl 10 6),(.sl 11 1)]),(.arr 1 []),(.arr 1 []),(.arr 3 []),(.arr 6 []),(.arr 1 []),(.arr 3 (List.map ZM s1.2.1)),(.arr 6 (List.map ZO s1.2.2.1)),(zA s1.2.2.2)]=some ((ZiS t0 t1 a c x0) r):=
 lpT (ZiS t0 t1 a c x0) fun s1 _ ih=>yB (yT (Zd (ZgD Zp (0:Int) 64) (yT (ZR (ZaG ZM s1.2.1 1) (Zd (ZaE ZM s1.2.1 [(Za.mk (List.replicate (64:Int).toNat (0:Int)) 0 0)]) (yT (ZR (ZaG ZO s1.2.2.1 1) (Zd (ZaE ZO s1.2.2.1 [(Zb.mk false 0 0 0 0 0)]) (yT (ZR (ZaG Zp s1.2.2.2 1) (Zd (ZaE Zp s1.2.2.2 [0]) (Ze (ih _)))
  ZB)))
  ZB)))
  ZB))))
  (Zg rfl)
def ZiM (c:Int) (x0:(Zw×Int)) (r2:((List Za)×(List Zb)×(List Int))) (x3:List Int):(List Za)->Ex×List V×Zh
  | r=>(.exit 2,[(.ptr 0 0),(.ptr 1 0)],[(ZtP ),(.cells [(zV true x0.1.on),(zV true x0.1.left),(.sl 7 3),(.sl 8 6),(.sl 9 1)]),(.arr 1 []),(.arr 1 []),(.arr 3 []),(.arr 6 []),(.arr 1 []),(.arr 3 (List.map ZM r)),(.arr 6 (List.map ZO r2.2.1)),(zA r2.2.2)])
theorem Zmx {c:Int}{x0:(Zw×Int)}{r2:((List Za)×(List Zb)×(List Int))}{x3:List Int}:∀s4 r,lp (Zd9 c x3) s4=some r->lpW ctx 0 [2,6,10,12,13] [6,10] Zzf [(zN c),(.ptr 0 0),(.ptr 1 0),(zV true x3),(zN s4.1)] [(ZtP ),(.cells [(zV true x0.1.on),(zV true x0.1.left),(.sl 7 3),(.sl 8 6),(.sl 9 1)]),(.arr 1 []),(.arr 1 []),(.arr 3 []),(.arr 6 []),(.arr 1 []),(.arr 3 (List.map ZM s4.2)),(.arr 6 (List.map ZO r2.2.1)),(zA r2.2.2)]=some ((ZiM c x0 r2 x3) r):=
 lpT (ZiM c x0 r2 x3) fun s4 _ ih=>Zd (Zj _ _) (yB (yG fun x5 hx5=>
  yBn (yG fun x6 hx6=>
  Zk (ZV rfl hx6) (Zk (Zai rfl hx5) (yC ZjC fun x7 _=>
  Zk (Zai rfl hx5) (yBn (Zi _ Zj9 fun x8 _=>
  Ze (ih _)))))))
  (Zg rfl))
theorem Zg7 {t0 t1 t2:Bool}{a:Zl}{b:List Int}{c:Int}:∀r,(Zdm a b c)=some r->evD ctx 17 [(.d (zK1 t0 a.work t1 a.edges)),(zV t2 b),(zN c)]=some (Zld r):=
 evT ZCE rfl rfl <| yC ZoN fun x0 _=>
  yBr (Zi _ (Zl4 _) fun r2 _=>
  yC Zeg fun x3 _=>
  Zi _ (Zmx _) fun r9 _=>
  yR)
theorem ZfD {t0:Bool}{a:Za}{b:Int}:∀r,(ZeE a b)=some r->evD ctx 180 [(.d (zK3 t0 a.ring a.top a.bottom)),(zN b)]=some (Zc r):=
 evT Zxn rfl rfl <| yB (Zd (Zj _ _) (yBn (yG fun x0 _=>
  yR)))
  (Zd (Zj _ _) (yBn (yG fun x1 _=>
  yR)))
def Zg5 (t0:Bool) (a:Za):(List Int)->Ex×List V×Zh
  | r=>(.exit 0,[(.sl 0 1)],[(zA r)])
theorem ZkS {t0:Bool}{a:Za}:∀s0 r,lp (Zb2 a) s0=some r->lpW ctx 0 [1,3,4] [3] ZvP [(.ptr 0 0),(.sl 1 1),(zN s0.1)] [(.cells [(zV t0 a.ring),(zN a.top),(zN a.bottom)]),(zA s0.2)]=some ((Zg5 t0 a) r):=
 lpT (Zg5 t0 a) fun s0 _ ih=>yB (yC ZfD fun x1 _=>
  yT (ZR (ZaG Zp s0.2 1) (Zd (ZaE Zp s0.2 [x1]) (Ze (ih _)))
  ZB))
  (Zg rfl)
theorem ZmW {t0:Bool}{a:Za}:∀r,(ZfS a)=some r->evD ctx 151 [(.d (zK3 t0 a.ring a.top a.bottom))]=some (ZaK r):=
 evT ZyF rfl rfl <| Zi _ (ZkS _) fun r2 _=>
  yR
def Zhk (t0 t1 t2 t3 t4:Bool) (a:ZJ):Int->Ex×List V×Zh
  | r=>(.exit 0,[(.ptr 0 0),(zN r)],[(zK2 t0 a.crew.on t1 a.crew.left t2 a.deques t3 a.takers t4 a.from_)])
theorem Zk0 {t0 t1:Bool}{t2 t3 t4:Bool}{a:ZJ}:∀s0 r,lp (Zb3 a) s0=some r->lpW ctx 0 [1,3,4] [1,3] Zxh [(.ptr 0 0),(zN s0.1),(zN s0.2)] [(zK2 t0 a.crew.on t1 a.crew.left t2 a.deques t3 a.takers t4 a.from_)]=some ((Zhk t0 t1 t2 t3 t4 a) r):=
 lpT (Zhk t0 t1 t2 t3 t4 a) fun s0 _ ih=>Zd (Zj _ _) (yB (yG fun x1 _=>
  yC ZmW fun x2 _=>
  Zd (Zj _ _) (Ze (ih _)))
  (Zg rfl))
def Zg3 (t0 t1 t2 t3 t4:Bool) (a:ZJ) (r3:Int):(List Int)->Ex×List V×Zh
  | r=>(.exit 2,[(.sl 0 1)],[(zA r)])
theorem ZkR {t0 t1:Bool}{t2 t3 t4:Bool}{a:ZJ}{r3:Int}:∀s4 r,lp (Zc6 a r3) s4=some r->lpW ctx 0 [1,3,5,6] [5] ZyQ [(.ptr 0 0),(zN r3),(.sl 1 1),(zN s4.1)] [(zK2 t0 a.crew.on t1 a.crew.left t2 a.deques t3 a.takers t4 a.from_),(zA s4.2)]=some ((Zg3 t0 t1 t2 t3 t4 a r3) r):=
 lpT (Zg3 t0 t1 t2 t3 t4 a r3) fun s4 _ ih=>Zd (Zj _ _) (yB (yG fun x5 _=>
  yB (yB (yT (ZR (ZaG Zp s4.2 1) (Zd (ZaE Zp s4.2 [s4.1]) (Ze (ih _)))
  ZB))
  (yG fun x6 _=>
  yB (yT (ZR (ZaG Zp s4.2 1) (Zd (ZaE Zp s4.2 [s4.1]) (Ze (ih _)))
  ZB))
  (Ze (ih _))))
  (Ze (ih _)))
  (Zg rfl))
theorem Znk {t0 t1:Bool}{t2 t3 t4:Bool}{a:ZJ}:∀r,(ZfL a)=some r->evD ctx 98 [(.d (zK6 t0 a.crew.on t1 a.crew.left t2 a.deques t3 a.takers t4 a.from_))]=some (ZaK r):=
 evT ZCn rfl rfl <| Zi _ (Zk0 _) fun r3 _=>
  Zi _ (ZkR _) fun r7 _=>
  yR
def ZjG (r:(Za×Zb)):D:=(D.tup [(zK3 true r.1.ring r.1.top r.1.bottom),(D.agg [(D.bool r.2.steal),(Zp r.2.at_),(Zp r.2.top),(Zp r.2.bottom),(Zp r.2.got),(Zp r.2.end_)])])
theorem Z2 {a:Za}{b:Zb}:∀r,(Z8 a b)=some r->evD ctx 181 [(.d (zK3 true a.ring a.top a.bottom)),(.d (D.agg [(D.bool b.steal),(Zp b.at_),(Zp b.top),(Zp b.bottom),(Zp b.got),(Zp b.end_)]))]=some (ZjG r):=
 evT ZzR rfl rfl <| yBr (yB (yBr yR)
  (yB (yC ZfD fun x0 _=>
  yR)
  (yBr yR)))
theorem Z1 {a:Za}{b:Zb}:∀r,(Z7 a b)=some r->evD ctx 182 [(.d (zK3 true a.ring a.top a.bottom)),(.d (D.agg [(D.bool b.steal),(Zp b.at_),(Zp b.top),(Zp b.bottom),(Zp b.got),(Zp b.end_)]))]=some (ZjG r):=
 evT ZyW rfl rfl <| yBr (yB (yB (yC ZfD fun x0 _=>
  yR)
  (yBr yR))
  (yB (yB (yC ZfD fun x1 _=>
  yR)
  yR)
  (yBr yR)))
theorem Zjy {a:Za}{b:Zb}:∀r,(Zdt a b)=some r->evD ctx 152 [(.d (zK3 true a.ring a.top a.bottom)),(.d (D.agg [(D.bool b.steal),(Zp b.at_),(Zp b.top),(Zp b.bottom),(Zp b.got),(Zp b.end_)]))]=some (Zki r):=
 evT Zyr rfl rfl <| yC Zr fun x0 _=>
  yB (yB (yBr (yBr (yBr (yB (yBr (yBr (yB (yC Z2 fun x1 _=>
  yC Zr fun x2 _=>
  yBr yR)
  (yC Z1 fun x3 _=>
  yC Zr fun x4 _=>
  yBr yR))))
  (yBr (yB (yC Z2 fun x5 _=>
  yC Zr fun x6 _=>
  yBr yR)
  (yC Z1 fun x7 _=>
  yC Zr fun x8 _=>
  yBr yR)))))))
  (yB (yBr (yBr (yBr (yB (yBr (yBr (yB (yC Z2 fun x9 _=>
  yC Zr fun x10 _=>
  yBr yR)
  (yC Z1 fun x11 _=>
  yC Zr fun x12 _=>
  yBr yR))))
  (yBr (yB (yC Z2 fun x13 _=>
  yC Zr fun x14 _=>
  yBr yR)
  (yC Z1 fun x15 _=>
  yC Zr fun x16 _=>
  yBr yR)))))))
  (yB (yBr (yBr (yBr (yB (yBr (yBr (yB (yC Z2 fun x17 _=>
  yC Zr fun x18 _=>
  yBr yR)
  (yC Z1 fun x19 _=>
  yC Zr fun x20 _=>
  yBr yR))))
  (yBr (yB (yC Z2 fun x21 _=>
  yC Zr fun x22 _=>
  yBr yR)
  (yC Z1 fun x23 _=>
  yC Zr fun x24 _=>
  yBr yR)))))))
  (yB (yBr (yBr (yBr (yB (yBr (yBr (yB (yC Z2 fun x25 _=>
  yC Zr fun x26 _=>
  yBr yR)
  (yC Z1 fun x27 _=>
  yC Zr fun x28 _=>
  yBr yR))))
  (yBr (yB (yC Z2 fun x29 _=>
  yC Zr fun x30 _=>
  yBr yR)
  (yC Z1 fun x31 _=>
  yC Zr fun x32 _=>
  yBr yR)))))))
  (yBr (yBr (yBr (yB (yBr (yB (yB (yC Z2 fun x33 _=>
  yC Zr fun x34 _=>
  yBr yR)
  (yC Z1 fun x35 _=>
  yC Zr fun x36 _=>
  yBr yR))
  (yB (yC Z2 fun x37 _=>
  yC Zr fun x38 _=>
  yBr yR)
  (yC Z1 fun x39 _=>
  yC Zr fun x40 _=>
  yBr yR))))
  (yB (yB (yC Z2 fun x41 _=>
  yC Zr fun x42 _=>
  yBr yR)
  (yC Z1 fun x43 _=>
  yC Zr fun x44 _=>
  yBr yR))
  (yB (yC Z2 fun x45 _=>
  yC Zr fun x46 _=>
  yBr yR)
  (yC Z1 fun x47 _=>
  yC Zr fun x48 _=>
  yBr yR)))))))))))
  yR
def Zfa (r:ZJ):D:=(zK6 true r.crew.on true r.crew.left true r.deques true r.takers true r.from_)
theorem Zc8 {t2:Bool}{a:ZJ}{b:Int}{c:Za}:∀r,(Zav a b c)=some r->evD ctx 57 [(.d (zK6 true a.crew.on true a.crew.left t2 a.deques true a.takers true a.from_)),(zN b),(.d (zK3 true c.ring c.top c.bottom))]=some (Zfa r):=
 evT ZAN rfl rfl <| ZeS (Za9 (f:=ZM) (fun _=>⟨rfl,rfl⟩) a.deques 0) (ZR (Zbq ZM a.deques) (Zd (rfl:_=List.map ZM a.deques) (yG fun x0 hx0=>
  Zk (ZV rfl hx0) (Zd (Zax ZM a.deques b.toNat c) yR)))
  ZB)
theorem Zaj {t3 t4:Bool}{a:ZJ}{b:Int}{c:Zb}{d:Int}:∀r,(Z5 a b c d)=some r->evD ctx 153 [(.d (zK6 true a.crew.on true a.crew.left true a.deques t3 a.takers t4 a.from_)),(zN b),(.d (D.agg [(D.bool c.steal),(Zp c.at_),(Zp c.top),(Zp c.bottom),(Zp c.got),(Zp c.end_)])),(zN d)]=some (Zfa r):=
 evT Zva rfl rfl <| ZeS (Za9 (f:=ZO) (fun _=>⟨rfl,rfl⟩) a.takers 0) (ZR (Zbq ZO a.takers) (Zd (rfl:_=List.map ZO a.takers) (ZeS (Za9 (f:=Zp) (fun _=>⟨rfl,rfl⟩) a.from_ 0) (ZR (Zbq Zp a.from_) (Zd (rfl:_=List.map Zp a.from_) (yG fun x0 hx0=>
  Zk (ZV rfl hx0) (Zd (Zax ZO a.takers b.toNat c) (yG fun x1 hx1=>
  Zk (ZV rfl hx1) (Zd (Zax Zp a.from_ b.toNat d) yR)))))
  ZB)))
  ZB)
def ZiW (t0 t1 t2 t3:Bool) (a0:List Int) (a1:List Za) (a2:List Zb) (a3:List Int) (b:Int) (c:Zb) (d:Int) (mA:List Int):Unit->V×Zh
  | r=>((.agg [(.sl 0 1),(zV t0 a0),(zW t1 ZM a1),(.sl 1 6),(.sl 2 1)]),[(zA mA),(.arr 6 (List.map ZO (List.set a2 b.toNat c))),(zA (List.set a3 b.toNat d))])
theorem ZeU {t0 t1:Bool}{t2 t3:Bool}{a0:List Int}{a1:List Za}{a2:List Zb}{a3:List Int}{b:Int}{c:Zb}{d:Int}{mA:List Int}:∀r,(Zbn a2 a3 b c d)=some r->evW ctx 153 [(.agg [(.sl 0 1),(zV t0 a0),(zW t1 ZM a1),(zW t2 ZO a2),(zV t3 a3)]),(zN b),(.d (D.agg [(D.bool c.steal),(Zp c.at_),(Zp c.top),(Zp c.bottom),(Zp c.got),(Zp c.end_)])),(zN d)] [(zA mA)]=some ((ZiW t0 t1 t2 t3 a0 a1 a2 a3 b c d mA) r):=
 evS Zva rfl rfl <| ZeS (Za9 (f:=ZO) (fun _=>⟨rfl,rfl⟩) a2 0) (ZR (Zbq ZO a2) (Zd (rfl:_=List.map ZO a2) (ZeS (Za9 (f:=Zp) (fun _=>⟨rfl,rfl⟩) a3 0) (ZR (Zbq Zp a3) (Zd (rfl:_=List.map Zp a3) (yG fun x0 hx0=>
  Zk (ZV rfl hx0) (Zd (Zax ZO a2 b.toNat c) (yG fun x1 hx1=>
  Zk (ZV rfl hx1) (Zd (Zax Zp a3 b.toNat d) yR)))))
  ZB)))
  ZB)
theorem ZjU {t0 t1 t4:Bool}{a:Zl}{b:ZJ}{c:Int}:∀r,(Zdq a b c)=some r->evD ctx 99 [(.d (zK1 t0 a.work t1 a.edges)),(.d (zK6 true b.crew.on true b.crew.left t4 b.deques true b.takers true b.from_)),(zN c)]=some (Zld r):=
 evT ZBl rfl rfl <| Zd (Zj _ _) (yG fun x0 hx0=>
  yB (yG fun x1 _=>
  yG fun x2 _=>
  yC Zjy fun x3 _=>
  yBr (yC Zc8 fun x4 _=>
  Zk (Zai rfl hx0) (yC Zaj fun x5 _=>
  yBr (yB (yG fun x6 _=>
  yB (yF (yC Zaj fun x7 _=>
  yR))
  (yB (yC Zaj fun x8 _=>
  yR)
  (yC Zaj fun x9 _=>
  yR)))
  (yC Zeg fun x10 _=>
  yC Zch fun x11 _=>
  yB (ZeS (Za9 (f:=Zp) (fun _=>⟨rfl,rfl⟩) x5.crew.on 0) (ZR (Zbq Zp x5.crew.on) (Zd (rfl:_=List.map Zp x5.crew.on) (yG fun x12 hx12=>
  Zk (ZV rfl hx12) (Zd (Zax Zp x5.crew.on c.toNat x3.2.1.got) (Zi _ ZeU fun x13 _=>
  yR))))
  ZB))
  yR)))))
  (yG fun x14 _=>
  yG fun x15 _=>
  yC Zjy fun x16 _=>
  yBr (yC Zc8 fun x17 _=>
  Zk (Zai rfl hx0) (yC Zaj fun x18 _=>
  yBr (yB (yG fun x19 _=>
  yB (yF (yC Zaj fun x20 _=>
  yR))
  (yB (yC Zaj fun x21 _=>
  yR)
  (yC Zaj fun x22 _=>
  yR)))
  (yC Zeg fun x23 _=>
  yC Zch fun x24 _=>
  yB (ZeS (Za9 (f:=Zp) (fun _=>⟨rfl,rfl⟩) x18.crew.on 0) (ZR (Zbq Zp x18.crew.on) (Zd (rfl:_=List.map Zp x18.crew.on) (yG fun x25 hx25=>
  Zk (ZV rfl hx25) (Zd (Zax Zp x18.crew.on c.toNat x16.2.1.got) (Zi _ ZeU fun x26 _=>
  yR))))
  ZB))
  yR))))))
def ZpG (r:(ZJ×Int×Int)):D:=(D.tup [(zK6 true r.1.crew.on true r.1.crew.left true r.1.deques true r.1.takers true r.1.from_),(Zp r.2.1),(Zp r.2.2)])
def ZhM (t0 t1 t7:Bool) (a:Zl) (c:List Int) (s0:Int×Int×(List Int)×(List Int)×(List Za)×(List Zb)×(List Int)) (x1:List Int):Int->Ex×List V×Zh
  | r=>(.exit 2,[(zV t7 c),(.ptr 0 0),(.ptr 1 0),(.ptr 2 0),(zN s0.2.1),(zV true x1),(zN r)],[(zK0 t0 a.work t1 a.edges),(zK2 true s0.2.2.1 true s0.2.2.2.1 true s0.2.2.2.2.1 true s0.2.2.2.2.2.1 true s0.2.2.2.2.2.2),(.cells [(.sl 3 1),(.sl 4 1),(.sl 5 3),(.sl 6 6),(.sl 7 1)]),(.arr 1 []),(.arr 1 []),(.arr 3 []),(.arr 6 []),(.arr 1 [])])
theorem Zlq {t0 t1 t7:Bool}{a:Zl}{c:List Int}{s0:Int×Int×(List Int)×(List Int)×(List Za)×(List Zb)×(List Int)}{x1:List Int}:∀s3 r,lp (ZdA s0 x1) s3=some r->lpW ctx 0 [2,3,4,6,9,10,11,12,13] [2,3,4,6,10,11,12] Zzq [(zV t7 c),(.ptr 0 0),(.ptr 1 0),(.ptr 2 0),(zN s0.1),(zN s0.2.1),(zV true x1),(zN s3.1),(zN s3.2)] [(zK0 t0 a.work t1 a.edges),(zK2 true s0.2.2.1 true s0.2.2.2.1 true s0.2.2.2.2.1 true s0.2.2.2.2.2.1 true s0.2.2.2.2.2.2),(.cells [(.sl 3 1),(.sl 4 1),(.sl 5 3),(.sl 6 6),(.sl 7 1)]),(.arr 1 []),(.arr 1 []),(.arr 3 []),(.arr 6 []),(.arr 1 [])]=some ((ZhM t0 t1 t7 a c s0 x1) r):=
 lpT (ZhM t0 t1 t7 a c s0 x1) fun s3 _ ih=>yB (yG fun x4 hx4=>
  yB (Zk (Zai rfl hx4) (Ze (ih _)))
  (Ze (ih _)))
  (Zg rfl)
def ZhN (t0 t1 t7:Bool) (a:Zl) (c:List Int):((Int×(List Int)×(List Int)×(List Za)×(List Zb)×(List Int))⊕Int)->Ex×List V×Zh
  | (.inl r)=>(.ret,[(.ptr 0 0),(zN r.1),(zN 0)],[(zK2 true r.2.1 true r.2.2.1 true r.2.2.2.1 true r.2.2.2.2.1 true r.2.2.2.2.2)])
  | (.inr r)=>(.ret,[(.ptr 0 0),(zN 0),(zN r)],[(.cells [(.nilsl 1),(.nilsl 1),(.nilsl 3),(.nilsl 6),(.nilsl 1)])])
theorem Zln {t0 t1 t7:Bool}{a:Zl}{c:List Int}:∀s0 r,lp (ZdJ a c) s0=some r->lpW ctx 0 [2,3,4,6,9,10] [6,7,8] ZzC [(zV t7 c),(.ptr 0 0),(.ptr 1 0),(.ptr 2 0),(zN s0.1),(zN s0.2.1)] [(zK0 t0 a.work t1 a.edges),(zK2 true s0.2.2.1 true s0.2.2.2.1 true s0.2.2.2.2.1 true s0.2.2.2.2.2.1 true s0.2.2.2.2.2.2),(.cells [(.sl 3 1),(.sl 4 1),(.sl 5 3),(.sl 6 6),(.sl 7 1)]),(.arr 1 []),(.arr 1 []),(.arr 3 []),(.arr 6 []),(.arr 1 [])]=some ((ZhN t0 t1 t7 a c) r):=
 lpT (ZhN t0 t1 t7 a c) fun s0 _ ih=>yC Znk fun x1 _=>
  Zd (Zj _ _) (yB (Zg rfl)
  (yG fun x2 _=>
  Zd (Zj _ _) (Zi _ (Zlq _) fun r5 _=>
  Zd (Zj _ _) (yB (yG fun x6 _=>
  Zd (Zj _ _) (yBn (yG fun x7 _=>
  yC ZjU fun x8 _=>
  yB (Zg rfl)
  (Ze (ih _)))))
  (yC ZjU fun x9 _=>
  yB (Zg rfl)
  (Ze (ih _)))))))
theorem ZjF {t0 t1 t7:Bool}{a:Zl}{b:ZJ}{c:List Int}:∀r,(Ze8 a b c)=some r->evD ctx 49 [(.d (zK1 t0 a.work t1 a.edges)),(.d (zK6 true b.crew.on true b.crew.left true b.deques true b.takers true b.from_)),(zV t7 c)]=some (ZpG r):=
 evT ZCB rfl rfl <| (by
 conv=>rhs;whnf
 refine Zi _ (Zln _) fun r10 _=>?_
 rcases r10 with r10 | r10
 exact yR
 exact yR)
def Zhe (t0 t1 t2 t3:Bool) (a:Zl) (b:Zw):(Unit⊕Unit)->Ex×List V×Zh
  | (.inl r)=>(.ret,[(.ptr 0 0),(.ptr 1 0),(zN 110)],[(zK0 t0 a.work t1 a.edges),(zK4 t2 b.on t3 b.left)])
  | (.inr r)=>(.exit 0,[(.ptr 0 0),(.ptr 1 0),.bad],[(zK0 t0 a.work t1 a.edges),(zK4 t2 b.on t3 b.left)])
theorem ZkY {t0 t1:Bool}{t2 t3:Bool}{a:Zl}{b:Zw}:∀s1 r,lp (Zda b) s1=some r->lpW ctx 0 [2,3,6] [2,3,4] ZvA [(.ptr 0 0),(.ptr 1 0),(zN s1)] [(zK0 t0 a.work t1 a.edges),(zK4 t2 b.on t3 b.left)]=some ((Zhe t0 t1 t2 t3 a b) r):=
 lpT (Zhe t0 t1 t2 t3 a b) fun s1 _ ih=>Zd (Zj _ _) (yB (yG fun x2 hx2=>
  yB (Zg rfl)
  (Zk (Zai rfl hx2) (yB (Zg rfl)
  (Ze (ih _)))))
  (Zg rfl))
def Zg1 (t0 t1 t2 t3:Bool) (a:Zl) (b:Zw):(Unit⊕Unit)->Ex×List V×Zh
  | (.inl r)=>(.ret,[(.ptr 0 0),(.ptr 1 0),(zN 110)],[(zK0 t0 a.work t1 a.edges),(zK4 t2 b.on t3 b.left)])
  | (.inr r)=>(.exit 2,[(.ptr 0 0),(.ptr 1 0),.bad],[(zK0 t0 a.work t1 a.edges),(zK4 t2 b.on t3 b.left)])
theorem ZkJ {t0 t1:Bool}{t2 t3:Bool}{a:Zl}{b:Zw}:∀s4 r,lp (Zc3 a b) s4=some r->lpW ctx 0 [2,3,7] [2,3,4] ZuQ [(.ptr 0 0),(.ptr 1 0),(zN s4)] [(zK0 t0 a.work t1 a.edges),(zK4 t2 b.on t3 b.left)]=some ((Zg1 t0 t1 t2 t3 a b) r):=
 lpT (Zg1 t0 t1 t2 t3 a b) fun s4 _ ih=>Zd (Zj _ _) (yB (yG fun x5 _=>
  yB (yC Zgj fun x6 _=>
  yB (Ze (ih _))
  (Zg rfl))
  (Ze (ih _)))
  (Zg rfl))
def Zhd (t0 t1 t2 t3:Bool) (a:Zl) (b:Zw):(Unit⊕Unit)->Ex×List V×Zh
  | (.inl r)=>(.ret,[(zN 110)],[])
  | (.inr r)=>(.exit 4,[.bad],[])
theorem ZkT {t0 t1:Bool}{t2 t3:Bool}{a:Zl}{b:Zw}:∀s8 r,lp (Zc0 a b) s8=some r->lpW ctx 0 [2,3,8] [4] Zvd [(.ptr 0 0),(.ptr 1 0),(zN s8)] [(zK0 t0 a.work t1 a.edges),(zK4 t2 b.on t3 b.left)]=some ((Zhd t0 t1 t2 t3 a b) r):=
 lpT (Zhd t0 t1 t2 t3 a b) fun s8 _ ih=>Zd (Zj _ _) (yB (yG fun x9 _=>
  yB (Zg rfl)
  (Zd (Zj _ _) (yB (Zg rfl)
  (yB (yG fun x10 _=>
  yB (Zg rfl)
  (yC Zgj fun x11 _=>
  yB (yBm (ZR (Zvi Zp b.on s8.toNat) (yT (Zd (Zou Zp b.on s8.toNat) (yC Zch fun x12 _=>
  yB (Zg rfl)
  (Ze (ih _)))))
  ZB))
  (Zg rfl)))
  (Ze (ih _))))))
  (Zg rfl))
theorem Zng {t0 t1:Bool}{t2 t3:Bool}{a:Zl}{b:Zw}:∀r,(ZfU a b)=some r->evD ctx 154 [(.d (zK1 t0 a.work t1 a.edges)),(.d (zK5 t2 b.on t3 b.left))]=some (Zc r):=
 evT Zxb rfl rfl <| yC Ziw fun x0 _=>
  yBr (Zd (Zj _ _) (yBr (Zd (Zj _ _) (yBr (Zd (Zj _ _) (Zd (Zj _ _) (yBr (by
 conv=>rhs;whnf
 refine Zi _ (ZkY _) fun r3 _=>?_
 rcases r3 with r3 | r3
 exact yR
 exact(by
 conv=>rhs;whnf
 refine Zi _ (ZkJ _) fun r7 _=>?_
 rcases r7 with r7 | r7
 exact yR
 exact(by
 conv=>rhs;whnf
 refine Zi _ (ZkT _) fun r13 _=>?_
 rcases r13 with r13 | r13
 exact yR
 exact yR))))))))))
def Zg9 (t2 t3 t4 t5 t6:Bool) (b:ZJ):(Unit⊕Unit)->Ex×List V×Zh
  | (.inl r)=>(.ret,[(zN 130)],[])
  | (.inr r)=>(.exit 0,[.bad],[])
theorem ZkK {t2 t3:Bool}{t4 t5 t6:Bool}{b:ZJ}:∀s1 r,lp (Zc4 b) s1=some r->lpW ctx 0 [3,6,7] [4] Zu5 [(.ptr 0 0),(zN (b.crew.on.length:Int)),(zN s1)] [(zK2 t2 b.crew.on t3 b.crew.left t4 b.deques t5 b.takers t6 b.from_)]=some ((Zg9 t2 t3 t4 t5 t6 b) r):=
 lpT (Zg9 t2 t3 t4 t5 t6 b) fun s1 _ ih=>yB (yG fun x2 _=>
  yG fun x3 hx3=>
  yC Zr fun x4 _=>
  yB (Zk (Zai rfl hx3) (Zd (Zj _ _) (yB (Zg rfl)
  (yB (Zg rfl)
  (yG fun x5 hx5=>
  yB (Zg rfl)
  (Zk (Zai rfl hx5) (yB (Zg rfl)
  (yB (Zk (Zai rfl hx5) (yB (Zg rfl)
  (yB (yB (yB (yB (yB (yG fun x6 _=>
  yB (Zk (Zai rfl hx5) (yB (Zg rfl)
  (Ze (ih _))))
  (Ze (ih _)))
  (yG fun x7 _=>
  yB (Zg rfl)
  (Ze (ih _))))
  (yG fun x8 _=>
  yB (Zg rfl)
  (Ze (ih _))))
  (yG fun x9 _=>
  yB (Zg rfl)
  (Ze (ih _))))
  (yG fun x10 _=>
  yB (Zg rfl)
  (Ze (ih _))))
  (Zk (Zai rfl hx5) (yB (Zg rfl)
  (yB (yB (yB (yB (yG fun x11 _=>
  yB (Zk (Zai rfl hx5) (yB (Zg rfl)
  (Ze (ih _))))
  (Ze (ih _)))
  (yG fun x12 _=>
  yB (Zg rfl)
  (Ze (ih _))))
  (yG fun x13 _=>
  yB (Zg rfl)
  (Ze (ih _))))
  (yG fun x14 _=>
  yB (Zg rfl)
  (Ze (ih _))))
  (yG fun x15 _=>
  yB (Zg rfl)
  (Ze (ih _)))))))))
  (yB (yB (yB (yB (yB (yG fun x16 _=>
  yB (Zk (Zai rfl hx5) (yB (Zg rfl)
  (Ze (ih _))))
  (Ze (ih _)))
  (yG fun x17 _=>
  yB (Zg rfl)
  (Ze (ih _))))
  (yG fun x18 _=>
  yB (Zg rfl)
  (Ze (ih _))))
  (yG fun x19 _=>
  yB (Zg rfl)
  (Ze (ih _))))
  (yG fun x20 _=>
  yB (Zg rfl)
  (Ze (ih _))))
  (Zk (Zai rfl hx5) (yB (Zg rfl)
  (yB (yB (yB (yB (yG fun x21 _=>
  yB (Zk (Zai rfl hx5) (yB (Zg rfl)
  (Ze (ih _))))
  (Ze (ih _)))
  (yG fun x22 _=>
  yB (Zg rfl)
  (Ze (ih _))))
  (yG fun x23 _=>
  yB (Zg rfl)
  (Ze (ih _))))
  (yG fun x24 _=>
  yB (Zg rfl)
  (Ze (ih _))))
  (yG fun x25 _=>
  yB (Zg rfl)
  (Ze (ih _)))))))))))))))
  (Zg rfl))
  (Zg rfl)
theorem ZnE {t0 t1:Bool}{t2 t3:Bool}{t4 t5 t6:Bool}{a:Zl}{b:ZJ}:∀r,(ZfJ a b)=some r->evD ctx 100 [(.d (zK1 t0 a.work t1 a.edges)),(.d (zK6 t2 b.crew.on t3 b.crew.left t4 b.deques t5 b.takers t6 b.from_))]=some (Zc r):=
 evT Zzd rfl rfl <| yC Zng fun x0 _=>
  yBr (Zd (Zj _ _) (Zd (Zj _ _) (yBr (Zd (Zj _ _) (yBr (Zd (Zj _ _) (yBr (by
 conv=>rhs;whnf
 refine Zi _ (ZkK _) fun r26 _=>?_
 rcases r26 with r26 | r26
 exact yR
 exact yR))))))))
def Zoy (r:(Zw×(List Int))):D:=(D.tup [(zK5 true r.1.on true r.1.left),(zL true r.2)])
def ZhF (t0 t1:Bool) (a:Zw) (s0:Int×(List Int)×(List Int)×(List Int)):((List Int)×(List Int)×(List Int))->Ex×List V×Zh
  | r=>(.exit 2,[(.ptr 0 0),(.ptr 1 0),(.ptr 2 0),(.sl 3 1),(zN s0.1)],[(zK4 t0 a.on t1 a.left),(ZwD ),(.cells [(.sl 6 1),(.sl 7 1)]),(zA r.1),(.arr 1 []),(.arr 1 []),(zA r.2.1),(zA r.2.2)])
theorem Zlj {t0 t1:Bool}{a:Zw}{s0:Int×(List Int)×(List Int)×(List Int)}:∀s1 r,lp (Zcw a s0) s1=some r->lpW ctx 0 [1,2,4,5,6,7] [1,2,4,5,6] ZvR [(.ptr 0 0),(.ptr 1 0),(.ptr 2 0),(.sl 3 1),(zN s0.1),(zN s1.1)] [(zK4 t0 a.on t1 a.left),(ZwD ),(.cells [(.sl 6 1),(.sl 7 1)]),(zA s1.2.1),(.arr 1 []),(.arr 1 []),(zA s1.2.2.1),(zA s1.2.2.2)]=some ((ZhF t0 t1 a s0) r):=
 lpT (ZhF t0 t1 a s0) fun s1 _ ih=>Zd (Zj _ _) (yB (yG fun x2 _=>
  yB (Ze (ih _))
  (yG fun x3 _=>
  yG fun x4 hx4=>
  Zk (ZV rfl hx4) (Zd (Zax Zp s1.2.2.2 s0.1.toNat (w64 (x3-1))) (yG fun x5 hx5=>
  Zk (ZV rfl hx5) (yB (yG fun x6 hx6=>
  Zk (ZV rfl hx6) (Zd (Zax Zp s1.2.2.1 s1.1.toNat (-1)) (yT (ZR (ZaG Zp s1.2.1 1) (Zd (ZaE Zp s1.2.1 [s0.1]) (Ze (ih _)))
  ZB))))
  (Ze (ih _)))))))
  (Zg rfl))
def ZhC (t0 t1:Bool) (a:Zw):((List Int)×(List Int)×(List Int))->Ex×List V×Zh
  | r=>(.exit 0,[(.ptr 0 0),(.ptr 1 0),(.sl 2 1)],[(.cells [(.sl 3 1),(.sl 4 1)]),(.cells [(.sl 5 1),(.sl 6 1)]),(zA r.1),(.arr 1 []),(.arr 1 []),(zA r.2.1),(zA r.2.2)])
theorem ZlH {t0 t1:Bool}{a:Zw}:∀s0 r,lp (Zcy a) s0=some r->lpW ctx 0 [1,2,4,5,6] [2,4,5] ZuO [(.ptr 0 0),(.ptr 1 0),(.ptr 2 0),(.sl 3 1),(zN s0.1)] [(zK4 t0 a.on t1 a.left),(ZwD ),(.cells [(.sl 6 1),(.sl 7 1)]),(zA s0.2.1),(.arr 1 []),(.arr 1 []),(zA s0.2.2.1),(zA s0.2.2.2)]=some ((ZhC t0 t1 a) r):=
 lpT (ZhC t0 t1 a) fun s0 _ ih=>Zd (Zj _ _) (yB (Zi _ (Zlj _) fun r7 _=>
  Ze (ih _))
  (Zg rfl))
theorem Zn0 {t0 t1:Bool}{a:Zw}:∀r,(ZgF a)=some r->evD ctx 101 [(.d (zK5 t0 a.on t1 a.left))]=some (Zoy r):=
 evT ZxF rfl rfl <| ZeS (Za9 (f:=Zp) (fun _=>⟨rfl,rfl⟩) a.on 0) (ZR (Zbq Zp a.on) (Zd (rfl:_=List.map Zp a.on) (ZeS (Za9 (f:=Zp) (fun _=>⟨rfl,rfl⟩) a.left 0) (ZR (Zbq Zp a.left) (Zd (rfl:_=List.map Zp a.left) (Zi _ (ZlH _) fun r8 _=>
  yR))
  ZB)))
  ZB)
theorem Zk4 {t0 t1:Bool}{a:Zl}{b:Int}:∀s0 r,lp (Zdi a b) s0=some r->lpW ctx 0 [1,2,5,6] [5] Zvl [(zN b),(.ptr 0 0),(.sl 1 1),(zN s0.1)] [(zK0 t0 a.work t1 a.edges),(zA s0.2)]=some ((Zdu t0 t1 a b) r):=
 lpT (Zdu t0 t1 a b) fun s0 _ ih=>Zd (Zj _ _) (yB (yC ZjD fun x1 _=>
  yB (yT (ZR (ZaG Zp s0.2 1) (Zd (ZaE Zp s0.2 [s0.1]) (Ze (ih _)))
  ZB))
  (Ze (ih _)))
  (Zg rfl))
theorem Zm0 {t0 t1:Bool}{a:Zl}{b:Int}:∀r,(ZfQ a b)=some r->evD ctx 102 [(.d (zK1 t0 a.work t1 a.edges)),(zN b)]=some (ZaK r):=
 evT Zx3 rfl rfl <| Zi _ (Zk4 _) fun r2 _=>
  yR
def Zpx (r:(ZJ×(List Int)×Int)):D:=(D.tup [(zK6 true r.1.crew.on true r.1.crew.left true r.1.deques true r.1.takers true r.1.from_),(zL true r.2.1),(Zp r.2.2)])
def ZhE (t0 t1 t2:Bool) (a:Zl) (b:ZJ) (x1:(Zw×(List Int))) (x2:List Int) (s3:Int×(List Int)×(List Int)×(List Za)×(List Zb)×(List Int)×(List Int)) (x6:List Int):(((List Int)×(List Int)×(List Za)×(List Zb)×(List Int)×(List Int))⊕((List Int)×(List Int)×(List Za)×(List Zb)×(List Int)×(List Int)))->Ex×List V×Zh
  | (.inl r)=>(.ret,[(.ptr 0 0),(.ptr 1 0),(.ptr 2 0),(.nilsl 1),(zN 130),(zV t2 b.crew.on),(zV true x1.2),(zV true x2),(.sl 3 1),(zN s3.1)],[(zK0 t0 a.work t1 a.edges),(zK2 true r.1 true r.2.1 true r.2.2.1 true r.2.2.2.1 true r.2.2.2.2.1),(.cells [(.nilsl 1),(.nilsl 1),(.nilsl 3),(.nilsl 6),(.nilsl 1)]),(zA r.2.2.2.2.2)])
  | (.inr r)=>(.exit 2,[(.ptr 0 0),(.ptr 1 0),(.ptr 2 0),.bad,.bad,(zV t2 b.crew.on),(zV true x1.2),(zV true x2),(.sl 3 1),(zN s3.1)],[(zK0 t0 a.work t1 a.edges),(zK2 true r.1 true r.2.1 true r.2.2.1 true r.2.2.2.1 true r.2.2.2.2.1),(Zuf ),(zA r.2.2.2.2.2),(.arr 1 []),(.arr 1 []),(.arr 3 []),(.arr 6 []),(.arr 1 [])])
theorem ZlO {t0 t1 t2:Bool}{a:Zl}{b:ZJ}{x1:(Zw×(List Int))}{x2:List Int}{s3:Int×(List Int)×(List Int)×(List Za)×(List Zb)×(List Int)×(List Int)}{x6:List Int}:∀s7 r,lp (ZeB x2 s3 x6) s7=some r->lpW ctx 0 [2,3,4,8,10,11,12,13,14,15] [2,3,4,5,6,8,10,11,12,13] Zw3 [(.ptr 0 0),(.ptr 1 0),(.ptr 2 0),(zV t2 b.crew.on),(zV true x1.2),(zV true x2),(.sl 3 1),(zN s3.1),(zV true x6),(zN s7.1)] [(zK0 t0 a.work t1 a.edges),(zK2 true s7.2.1 true s7.2.2.1 true s7.2.2.2.1 true s7.2.2.2.2.1 true s7.2.2.2.2.2.1),(Zuf ),(zA s7.2.2.2.2.2.2),(.arr 1 []),(.arr 1 []),(.arr 3 []),(.arr 6 []),(.arr 1 [])]=some ((ZhE t0 t1 t2 a b x1 x2 s3 x6) r):=
 lpT (ZhE t0 t1 t2 a b x1 x2 s3 x6) fun s7 _ ih=>Zd (Zj _ _) (yB (yG fun x8 hx8=>
  yC Zch fun x9 _=>
  yB (Zk (Zai rfl hx8) (yC Zch fun x10 _=>
  yB (Ze (ih _))
  (yG fun x11 _=>
  Zk (Zai rfl hx8) (yC ZjC fun x12 _=>
  yB (Zg rfl)
  (yC Zc8 fun x13 _=>
  Zk (Zai rfl hx8) (yT (ZR (ZaG Zp s7.2.2.2.2.2.2 1) (Zd (ZaE Zp s7.2.2.2.2.2.2 [x8]) (Ze (ih _)))
  ZB)))))))
  (Ze (ih _)))
  (Zg rfl))
def ZhJ (t0 t1 t2:Bool) (a:Zl) (b:ZJ) (x1:(Zw×(List Int))) (x2:List Int):(((List Int)×(List Int)×(List Za)×(List Zb)×(List Int))⊕((List Int)×(List Int)×(List Za)×(List Zb)×(List Int)))->Ex×List V×Zh
  | (.inl r)=>(.ret,[(.ptr 0 0),(.ptr 1 0),(.nilsl 1),(zN 130),(zV true x1.2)],[(zK2 true r.1 true r.2.1 true r.2.2.1 true r.2.2.2.1 true r.2.2.2.2),(.cells [(.nilsl 1),(.nilsl 1),(.nilsl 3),(.nilsl 6),(.nilsl 1)])])
  | (.inr r)=>(.exit 0,[(.ptr 0 0),(.ptr 1 0),.bad,.bad,(zV true x1.2)],[(zK2 true r.1 true r.2.1 true r.2.2.1 true r.2.2.2.1 true r.2.2.2.2),(ZtP ),(.arr 1 []),(.arr 1 []),(.arr 3 []),(.arr 6 []),(.arr 1 [])])
theorem ZlP {t0 t1 t2:Bool}{a:Zl}{b:ZJ}{x1:(Zw×(List Int))}{x2:List Int}:∀s3 r,lp (ZdH a b x1 x2) s3=some r->lpW ctx 0 [2,3,4,8,10,11,12,13] [3,4,5,6,10] ZxS [(.ptr 0 0),(.ptr 1 0),(.ptr 2 0),(zV t2 b.crew.on),(zV true x1.2),(zV true x2),(.sl 3 1),(zN s3.1)] [(zK0 t0 a.work t1 a.edges),(zK2 true s3.2.1 true s3.2.2.1 true s3.2.2.2.1 true s3.2.2.2.2.1 true s3.2.2.2.2.2.1),(Zuf ),(zA s3.2.2.2.2.2.2),(.arr 1 []),(.arr 1 []),(.arr 3 []),(.arr 6 []),(.arr 1 [])]=some ((ZhJ t0 t1 t2 a b x1 x2) r):=
 lpT (ZhJ t0 t1 t2 a b x1 x2) fun s3 _ ih=>Zd (Zj _ _) (yB (yG fun x4 hx4=>
  yB (Ze (ih _))
  (Zk (Zai rfl hx4) (yC Zch fun x5 _=>
  yB (Zk (Zai rfl hx4) (yC Zm0 fun x6 _=>
  (by
 conv=>rhs;whnf
 refine Zi _ (ZlO _) fun r14 _=>?_
 rcases r14 with r14 | r14
 exact Zg rfl
 exact Ze (ih _))))
  (Ze (ih _)))))
  (Zg rfl))
theorem ZjI {t0 t1:Bool}{t2 t3:Bool}{a:Zl}{b:ZJ}:∀r,(Ze5 a b)=some r->evD ctx 50 [(.d (zK1 t0 a.work t1 a.edges)),(.d (zK6 t2 b.crew.on t3 b.crew.left true b.deques true b.takers true b.from_))]=some (Zpx r):=
 evT ZCD rfl rfl <| yC ZnE fun x0 _=>
  yBr (yC Zn0 fun x1 _=>
  yC Zeg fun x2 _=>
  (by
 conv=>rhs;whnf
 refine Zi _ (ZlP _) fun r15 _=>?_
 rcases r15 with r15 | r15
 exact yR
 exact yR))
def Zip (t0 t1 t2 t3:Bool) (a:Zl) (b:List Int) (d:List Int) (x0:(ZJ×Int)):Int->Ex×List V×Zh
  | r=>(.exit 0,[(zV t3 d),(.ptr 0 0),(.ptr 1 0),(zN r)],[(zK0 t0 a.work t1 a.edges),(zK2 true x0.1.crew.on true x0.1.crew.left true x0.1.deques true x0.1.takers true x0.1.from_)])
theorem ZmS {t0 t1:Bool}{t2 t3:Bool}{a:Zl}{b:List Int}{d:List Int}{x0:(ZJ×Int)}:∀s1 r,lp (Zea b) s1=some r->lpW ctx 0 [1,3,4,11,13,14] [3,4,11,13] Zyv [(zV t2 b),(zV t3 d),(.ptr 0 0),(.ptr 1 0),(zN s1.1),(zN s1.2)] [(zK0 t0 a.work t1 a.edges),(zK2 true x0.1.crew.on true x0.1.crew.left true x0.1.deques true x0.1.takers true x0.1.from_)]=some ((Zip t0 t1 t2 t3 a b d x0) r):=
 lpT (Zip t0 t1 t2 t3 a b d x0) fun s1 _ ih=>Zd (Zj _ _) (yB (yG fun x2 _=>
  Ze (ih _))
  (Zg rfl))
def ZiI (t0 t1 t3:Bool) (a:Zl) (d:List Int) (s4:Int×Int×(List Int)×(List Int)×(List Za)×(List Zb)×(List Int)×(List (List Int))) (x5:(ZJ×Int×Int)) (x6:(ZJ×(List Int)×Int)):Int->Ex×List V×Zh
  | r=>(.exit 4,[(zV t3 d),(.ptr 0 0),(.ptr 1 0),(zN r),(.sl 2 1),(zN (w64 (s4.2.1+x5.2.1)))],[(zK0 t0 a.work t1 a.edges),(zK2 true x6.1.crew.on true x6.1.crew.left true x6.1.deques true x6.1.takers true x6.1.from_),(.arr 1 (List.map (ZbL true) (s4.2.2.2.2.2.2.2++[x5.1.crew.on])))])
theorem Zmn {t0 t1 t3:Bool}{a:Zl}{d:List Int}{s4:Int×Int×(List Int)×(List Int)×(List Za)×(List Zb)×(List Int)×(List (List Int))}{x5:(ZJ×Int×Int)}{x6:(ZJ×(List Int)×Int)}:∀s7 r,lp (Ze6 x6) s7=some r->lpW ctx 0 [3,4,11,13,15,16,21] [3,4,11,13,15,16] Zup [(zV t3 d),(.ptr 0 0),(.ptr 1 0),(zN s7.1),(.sl 2 1),(zN (w64 (s4.2.1+x5.2.1))),(zN s7.2)] [(zK0 t0 a.work t1 a.edges),(zK2 true x6.1.crew.on true x6.1.crew.left true x6.1.deques true x6.1.takers true x6.1.from_),(.arr 1 (List.map (ZbL true) (s4.2.2.2.2.2.2.2++[x5.1.crew.on])))]=some ((ZiI t0 t1 t3 a d s4 x5 x6) r):=
 lpT (ZiI t0 t1 t3 a d s4 x5 x6) fun s7 _ ih=>Zd (Zj _ _) (yB (yG fun x8 _=>
  Ze (ih _))
  (Zg rfl))
def Zhf (t0 t1 t3:Bool) (a:Zl) (d:List Int) (s4:Int×Int×(List Int)×(List Int)×(List Za)×(List Zb)×(List Int)×(List (List Int))) (x10:(ZJ×Int×Int)) (x11:(ZJ×(List Int)×Int)):Int->Ex×List V×Zh
  | r=>(.exit 4,[(zV t3 d),(.ptr 0 0),(.ptr 1 0),(zN r),(.sl 2 1),(zN (w64 (s4.2.1+x10.2.1)))],[(zK0 t0 a.work t1 a.edges),(zK2 true x11.1.crew.on true x11.1.crew.left true x11.1.deques true x11.1.takers true x11.1.from_),(.arr 1 (List.map (ZbL true) (s4.2.2.2.2.2.2.2++[x10.1.crew.on])))])
theorem ZkH {t0 t1 t3:Bool}{a:Zl}{d:List Int}{s4:Int×Int×(List Int)×(List Int)×(List Za)×(List Zb)×(List Int)×(List (List Int))}{x10:(ZJ×Int×Int)}{x11:(ZJ×(List Int)×Int)}:∀s12 r,lp (Zep x11) s12=some r->lpW ctx 0 [3,4,11,13,15,16,21] [3,4,11,13,15,16] Zup [(zV t3 d),(.ptr 0 0),(.ptr 1 0),(zN s12.1),(.sl 2 1),(zN (w64 (s4.2.1+x10.2.1))),(zN s12.2)] [(zK0 t0 a.work t1 a.edges),(zK2 true x11.1.crew.on true x11.1.crew.left true x11.1.deques true x11.1.takers true x11.1.from_),(.arr 1 (List.map (ZbL true) (s4.2.2.2.2.2.2.2++[x10.1.crew.on])))]=some ((Zhf t0 t1 t3 a d s4 x10 x11) r):=
 lpT (Zhf t0 t1 t3 a d s4 x10 x11) fun s12 _ ih=>Zd (Zj _ _) (yB (yG fun x13 _=>
  Ze (ih _))
  (Zg rfl))
def ZiN (t0 t1 t3:Bool) (a:Zl) (d:List Int):(Int×(List (List Int)))->Ex×List V×Zh
  | r=>(.exit 2,[(.sl 0 1),(zN r.1)],[(.arr 1 (List.map (ZbL true) r.2))])
theorem ZmB {t0 t1 t3:Bool}{a:Zl}{d:List Int}:∀s4 r,lp (Zcf a d) s4=some r->lpW ctx 0 [3,4,11,13,15,16] [15,16] ZyV [(zV t3 d),(.ptr 0 0),(.ptr 1 0),(zN s4.1),(.sl 2 1),(zN s4.2.1)] [(zK0 t0 a.work t1 a.edges),(zK2 true s4.2.2.1 true s4.2.2.2.1 true s4.2.2.2.2.1 true s4.2.2.2.2.2.1 true s4.2.2.2.2.2.2.1),(.arr 1 (List.map (ZbL true) s4.2.2.2.2.2.2.2))]=some ((ZiN t0 t1 t3 a d) r):=
 lpT (ZiN t0 t1 t3 a d) fun s4 _ ih=>yB (Zd (Zj _ _) (yB (yBm (ZR (Zsi Zp d s4.2.1.toNat) (ZeS (Zxu Zp (fun _=>⟨rfl,rfl⟩) d _) (Zd (ZpE Zp d s4.2.1.toNat) (Ztc _ ZjF (by first | rfl | (simp only[Zr1];done) | (simp only[Zr1];rfl)) fun x5 _=>
  ZeS (Za9 (f:=Zp) (fun _=>⟨rfl,rfl⟩) x5.1.crew.on 0) (ZR (Zbq Zp x5.1.crew.on) (Zd (rfl:_=List.map Zp x5.1.crew.on) (yT (ZR (ZaG (ZbL true) s4.2.2.2.2.2.2.2 1) (Zd (ZaE (ZbL true) s4.2.2.2.2.2.2.2 [x5.1.crew.on]) (yC ZjI fun x6 _=>
  Zi _ (Zmn _) fun r9 _=>
  Ze (ih _)))
  ZB)))
  ZB))))
  ZB))
  (yC ZjF fun x10 _=>
  ZeS (Za9 (f:=Zp) (fun _=>⟨rfl,rfl⟩) x10.1.crew.on 0) (ZR (Zbq Zp x10.1.crew.on) (Zd (rfl:_=List.map Zp x10.1.crew.on) (yT (ZR (ZaG (ZbL true) s4.2.2.2.2.2.2.2 1) (Zd (ZaE (ZbL true) s4.2.2.2.2.2.2.2 [x10.1.crew.on]) (yC ZjI fun x11 _=>
  Zi _ (ZkH _) fun r14 _=>
  Ze (ih _)))
  ZB)))
  ZB))))
  (Zg rfl)
theorem ZpP {t0 t1:Bool}{t2 t3:Bool}{a:Zl}{b:List Int}{c:Int}{d:List Int}:∀r,(ZeT a b c d)=some r->evD ctx 15 [(.d (zK1 t0 a.work t1 a.edges)),(zV t2 b),(zN c),(zV t3 d)]=some (Zlc r):=
 evT ZCl rfl rfl <| yC Zg7 fun x0 _=>
  yBr (Zi _ (ZmS _) fun r3 _=>
  yBr (Zi _ (ZmB _) fun r15 _=>
  yR))
def ZhH (t0 t1:Bool) (a:List Int) (b:List Int):(Unit⊕Unit)->Ex×List V×Zh
  | (.inl r)=>(.ret,[(.d (D.bool false))],[])
  | (.inr r)=>(.exit 0,[.bad],[])
theorem ZlN {t0 t1:Bool}{a:List Int}{b:List Int}:∀s0 r,lp (ZdE a b) s0=some r->lpW ctx 0 [0,1,5] [4] Zzc [(zV t0 a),(zV t1 b),(zN s0)] []=some ((ZhH t0 t1 a b) r):=
 lpT (ZhH t0 t1 a b) fun s0 _ ih=>Zd (Zj _ _) (yB (yG fun x1 _=>
  yG fun x2 _=>
  yB (Zg rfl)
  (Ze (ih _)))
  (Zg rfl))
theorem Zdx {t0 t1:Bool}{a:List Int}{b:List Int}:∀r,(ZcE a b)=some r->evD ctx 42 [(zV t0 a),(zV t1 b)]=some (Zo r):=
 evT ZCG rfl rfl <| Zd (Zj _ _) (Zd (Zj _ _) (yBr (by
 conv=>rhs;whnf
 refine Zi _ (ZlN _) fun r3 _=>?_
 rcases r3 with r3 | r3
 exact yR
 exact yR)))
def Zfi (t0 t1:Bool) (a:(List (List Int))) (b:(List (List Int))):(Unit⊕Unit)->Ex×List V×Zh
  | (.inl r)=>(.ret,[(.d (D.bool false))],[])
  | (.inr r)=>(.exit 0,[.bad],[])
theorem Ziq {t0 t1:Bool}{a:(List (List Int))}{b:(List (List Int))}:∀s0 r,lp (Zbm a b) s0=some r->lpW ctx 0 [0,1,5] [4] Zx5 [(.d (D.list t0 (List.map (ZbL true) a))),(.d (D.list t1 (List.map (ZbL true) b))),(zN s0)] []=some ((Zfi t0 t1 a b) r):=
 lpT (Zfi t0 t1 a b) fun s0 _ ih=>Zd (Zj _ _) (yB (yG fun x1 _=>
  yG fun x2 _=>
  yC Zdx fun x3 _=>
  yB (Ze (ih _))
  (Zg rfl))
  (Zg rfl))
theorem ZfZ {t0 t1:Bool}{a:(List (List Int))}{b:(List (List Int))}:∀r,(ZcC a b)=some r->evD ctx 18 [(.d (D.list t0 (List.map (ZbL true) a))),(.d (D.list t1 (List.map (ZbL true) b)))]=some (Zo r):=
 evT ZCx rfl rfl <| Zd (Zj _ _) (Zd (Zj _ _) (yBr (by
 conv=>rhs;whnf
 refine Zi _ (Ziq _) fun r4 _=>?_
 rcases r4 with r4 | r4
 exact yR
 exact yR)))
theorem Zob {t0 t1:Bool}{t2 t3:Bool}{a b:Zw}:∀r,(Zji a b)=some r->evD ctx 58 [(.d (zK5 t0 a.on t1 a.left)),(.d (zK5 t2 b.on t3 b.left))]=some (Zo r):=
 evT ZBC rfl rfl <| yC Zdx fun x0 _=>
  yB (yC Zdx fun x1 _=>
  yBr yR)
  yR
theorem Zn5 {t0 t1:Bool}{a b:Za}:∀r,(ZgA a b)=some r->evD ctx 59 [(.d (zK3 t0 a.ring a.top a.bottom)),(.d (zK3 t1 b.ring b.top b.bottom))]=some (Zo r):=
 evT ZBs rfl rfl <| yC Zdx fun x0 _=>
  yB (yB (yBr yR)
  yR)
  yR
def ZhR (t0 t1 t2 t3 t4 t5 t6:Bool) (t7:Bool) (t8:Bool) (t9:Bool) (a:ZJ) (b:ZJ):(Unit⊕Unit)->Ex×List V×Zh
  | (.inl r)=>(.ret,[(.ptr 0 0),(.ptr 1 0),(.d (D.bool false))],[(zK2 t0 a.crew.on t1 a.crew.left t2 a.deques t3 a.takers t4 a.from_),(zK2 t5 b.crew.on t6 b.crew.left t7 b.deques t8 b.takers t9 b.from_)])
  | (.inr r)=>(.exit 0,[(.ptr 0 0),(.ptr 1 0),.bad],[(zK2 t0 a.crew.on t1 a.crew.left t2 a.deques t3 a.takers t4 a.from_),(zK2 t5 b.crew.on t6 b.crew.left t7 b.deques t8 b.takers t9 b.from_)])
theorem ZlU {t0 t1:Bool}{t2 t3:Bool}{t4 t5:Bool}{t6 t7:Bool}{t8 t9:Bool}{a b:ZJ}:∀s2 r,lp (Zez a b) s2=some r->lpW ctx 0 [2,3,5] [2,3,4] Zza [(.ptr 0 0),(.ptr 1 0),(zN s2)] [(zK2 t0 a.crew.on t1 a.crew.left t2 a.deques t3 a.takers t4 a.from_),(zK2 t5 b.crew.on t6 b.crew.left t7 b.deques t8 b.takers t9 b.from_)]=some ((ZhR t0 t1 t2 t3 t4 t5 t6 t7 t8 t9 a b) r):=
 lpT (ZhR t0 t1 t2 t3 t4 t5 t6 t7 t8 t9 a b) fun s2 _ ih=>Zd (Zj _ _) (yB (yG fun x3 _=>
  yG fun x4 _=>
  yC Zn5 fun x5 _=>
  yB (Ze (ih _))
  (Zg rfl))
  (Zg rfl))
def ZhL (t0 t1 t2 t3 t4 t5 t6:Bool) (t7:Bool) (t8:Bool) (t9:Bool) (a:ZJ) (b:ZJ):(Unit⊕Unit)->Ex×List V×Zh
  | (.inl r)=>(.ret,[(.d (D.bool false))],[])
  | (.inr r)=>(.exit 2,[.bad],[])
theorem ZlF {t0 t1:Bool}{t2 t3:Bool}{t4 t5:Bool}{t6 t7:Bool}{t8 t9:Bool}{a b:ZJ}:∀s7 r,lp (ZeC a b) s7=some r->lpW ctx 0 [2,3,6] [4] Zxd [(.ptr 0 0),(.ptr 1 0),(zN s7)] [(zK2 t0 a.crew.on t1 a.crew.left t2 a.deques t3 a.takers t4 a.from_),(zK2 t5 b.crew.on t6 b.crew.left t7 b.deques t8 b.takers t9 b.from_)]=some ((ZhL t0 t1 t2 t3 t4 t5 t6 t7 t8 t9 a b) r):=
 lpT (ZhL t0 t1 t2 t3 t4 t5 t6 t7 t8 t9 a b) fun s7 _ ih=>Zd (Zj _ _) (yB (yG fun x8 _=>
  yG fun x9 _=>
  yB (Zg rfl)
  (Ze (ih _)))
  (Zg rfl))
theorem ZjJ {t0 t1:Bool}{t2 t3:Bool}{t4 t5:Bool}{t6 t7:Bool}{t8 t9:Bool}{a b:ZJ}:∀r,(Zem a b)=some r->evD ctx 19 [(.d (zK6 t0 a.crew.on t1 a.crew.left t2 a.deques t3 a.takers t4 a.from_)),(.d (zK6 t5 b.crew.on t6 b.crew.left t7 b.deques t8 b.takers t9 b.from_))]=some (Zo r):=
 evT ZBi rfl rfl <| yC Zob fun x0 _=>
  yB (Zd (Zj _ _) (Zd (Zj _ _) (yBr (Zd (Zj _ _) (Zd (Zj _ _) (yBr (yC Zdx fun x1 _=>
  yB ((by
 conv=>rhs;whnf
 refine Zi _ (ZlU _) fun r6 _=>?_
 rcases r6 with r6 | r6
 exact yR
 exact(by
 conv=>rhs;whnf
 refine Zi _ (ZlF _) fun r10 _=>?_
 rcases r10 with r10 | r10
 exact yR
 exact yR)))
  yR)))))))
  yR
theorem Zj4 {t0 t1:Bool}{t2 t3:Bool}{a:Zl}{b:List Int}{c:Int}{d:List Int}:∀r,(Ze9 a b c d)=some r->evD ctx 3 [(.d (zK1 t0 a.work t1 a.edges)),(zV t2 b),(zN c),(zV t3 d)]=some (Zo r):=
 evT fn3 rfl rfl <| yC Zb4 fun x0 _=>
  yB (yC ZoU fun x1 _=>
  yB (Zd (Zj _ _) (yB (yC Zb4 fun x2 _=>
  yBr yR)
  (yC ZmI fun x3 _=>
  yB (Zd (Zj _ _) (yB (yC Zb4 fun x4 _=>
  yBr yR)
  (Zi _ Zkf fun x5 _=>
  Zi _ Zge fun x6 _=>
  Zi _ Zge fun x7 _=>
  yC Zo3 fun x8 _=>
  yC ZpP fun x9 _=>
  Zi _ Zkf fun x10 _=>
  Zi _ Zge fun x11 _=>
  (by
 conv=>rhs;whnf
 refine Zi _ ZjR fun x12 _=>?_
 rcases x12 with x12 | x12
 exact yC Zg7 fun x13 _=>
  yC ZfZ fun x14 _=>
  yB (yB (yB (yC ZjJ fun x15 _=>
  yB (yBr yR)
  yR)
  yR)
  yR)
  yR
 exact yC Zg7 fun x16 _=>
  yC ZfZ fun x17 _=>
  yB (yB (yB (yC ZjJ fun x18 _=>
  yB (yBr yR)
  yR)
  yR)
  yR)
  yR))))
  (yC Zb4 fun x19 _=>
  yBr yR))))
  (yC Zb4 fun x20 _=>
  yBr yR))
  (yC Zb4 fun x21 _=>
  yBr yR)
end
abbrev Zyq:List Lf×Bool:=([.int .i64],false)
abbrev Zle:List Lf×Bool:=([.sl false [.int .i64]],false)
abbrev Ztd:List Lf×Bool:=([.sl false [.int .i64],.sl true [.int .i64,.int .i64]],true)
theorem Zql (g:Zl) (need:List Int) (c:Int) (picks:List Int):Ze9 g need c picks=some true:=by
 unfold Ze9
 simp only[ZbZ,ZCi,bS,cT]
 cases hf:ZwS g with
 | false=>rfl
 | true=>
 obtain⟨hw,he,hsh⟩:=ZvN hf
 rw[cT]
 by_cases hl:70<(need.length:Int)
 ·rw[dT hl];rfl
 rw[dF hl,cF]
 obtain⟨b,hb,hb2⟩:=Zyc need (by omega)
 rw[hb,bS]
 cases b with
 | false=>rfl
 | true=>
 rw[cT]
 by_cases hp:600<(picks.length:Int)
 ·rw[dT hp];rfl
 rw[dF hp,cF]
 simp only[ZBj hf,ZqI (show need.length<=1000 by omega),ZqI (show picks.length<=1000 by omega),bS]
 by_cases h1:Zen g need c=0
 ·have hin:=Zja.1 h1
  have hr:∀x∈need,0<=x/\x<=1000:=fun x hx=>by have:=hin.rng x hx;omega
  have hs:=hb2 rfl fun x hx=>(hr x hx).1
  have hc8:=hin.c8
  obtain⟨t,s1,e1,e2,e3,e4⟩:=ZvW (picks:=picks) hin (by omega) (by omega)
  obtain⟨ds0,n1,G0⟩:=ZqY hin
  have hdl:=G0.toGangIn.dl
  have hself:Zem ⟨⟨List.replicate c.toNat (-1),need⟩,ds0,List.replicate c.toNat tk0,List.replicate c.toNat 0⟩ ⟨⟨List.replicate c.toNat (-1),need⟩,ds0,List.replicate c.toNat tk0,List.replicate c.toNat 0⟩=some true:=
   ZpT (by rw[length_replicate];omega) (by omega) (by rw[length_replicate];omega) (by omega) (by rw[length_replicate];omega) (fun d hd=>by have:=G0.toGangIn.ring d hd;omega)
  rw[e1,bS,e2,bS,n1,bS]
  dsimp only
  rw[Zl3 hin n1,bS,ZnJ e3 e4,bS,cT,beq_self_eq_true,cT,beq_self_eq_true,cT]
  dsimp only
  rw[show(Zb.mk false 0 0 0 0 0)=tk0 from rfl,hself]
  rfl
 ·rw[Zyd hsh h1,bS,Zsl hsh (by omega) h1,bS,ZsD hsh h1,bS]
  dsimp only
  rw[ZnR hsh (by omega) h1,bS,ZnJ (by simp) (by simp),bS,cT,beq_self_eq_true,cT,beq_self_eq_true,cT]
  dsimp only
  rw[ZpT (by simp) (by simp) (by simp) (by simp) (by simp) (by simp),bS,cT]
  rfl
theorem ZrO (xs:List D) (h:ZeM Ztd.1 xs) (ys:List D) (k:ZeM Zle.1 ys) (zs:List D) (m:ZeM Zyq.1 zs) (vs:List D) (n:ZeM Zle.1 vs) :
  ∃H',evW ctx 3 (Zbt [ZlC Ztd.2 xs,ZlC Zle.2 ys,ZlC Zyq.2 zs,ZlC Zle.2 vs]) []=some (.d (.bool true),H'):=by
 obtain⟨d,hd,_⟩:=ZwM h
 obtain⟨a,ha,_⟩:=Zpa k
 obtain⟨c,hc,_⟩:=ZB2 m
 obtain⟨p,hp,_⟩:=Zpa n
 show ∃H',evW ctx 3 [.d (D.agg xs),.d (ZlC false ys),.d (ZlC false zs),.d (ZlC false vs)] []=_
 rw[hd,ha,hc,hp]
 exact ZzF (Zj4 true (Zql d a c p))
end Go.Proofs.YtgcfmiajkbbmeaaGreatDoor
namespace Go.Proofs.YtgcfmiajkbbmeaaGreatDoor.LawStealRuns
open Go.ChangeShapes Go.WideShapes Go.ChangeAt Go.RowKit Go.Proofs.YtgcfmiajkbbmeaaGreatDoorE
theorem own:ownKnob Tryz.prog.godebug=none:=by kernel_rfl
theorem Zot:laidOutB Tryz.prog=true:=by kernel_rfl
def Zp8 : List (String × DataW Unit) := [("math/bits.deBruijn32tab", Rows.laid_math_bits_deBruijn32tab), ("math/bits.deBruijn64tab", Rows.laid_math_bits_deBruijn64tab)]
theorem Zzg (os:Os) (args:Array Value):laidMetH Tryz.prog Zp8 ((World.doorLaid Tryz.prog 19 os).forCall (fun _ _=>0) ⟨#[],args,[]⟩).memory:=
 laidMetH_of_parts3 (fuel:=8) (laidMet_of_run' 8 (by kernel_rfl) (by kernel_rfl)) (by kernel_rfl) (by kernel_rfl)
theorem ZxH {W:World} (h:laidMetH Tryz.prog Zp8 W):GOK Zin R0 W:=by
 intro g l hg
 unfold Zin at hg
 split at hg
 ·cases hg
  exact ZpK (t := 246) (N := 32) (e := 5) (k := .u8) h (by kernel_rfl) (n := "math/bits.deBruijn32tab") (by rw [show DataW.agg (ZlK ZA9) = Rows.laid_math_bits_deBruijn32tab by kernel_rfl]; simp [Zp8]) (by kernel_rfl) (by kernel_rfl) (by kernel_rfl) (by kernel_rfl) (by kernel_rfl) (by kernel_rfl) (by decide)
 ·cases hg
  exact ZpK (t := 247) (N := 64) (e := 5) (k := .u8) h (by kernel_rfl) (n := "math/bits.deBruijn64tab") (by rw [show DataW.agg (ZlK ZAZ) = Rows.laid_math_bits_deBruijn64tab by kernel_rfl]; simp [Zp8]) (by kernel_rfl) (by kernel_rfl) (by kernel_rfl) (by kernel_rfl) (by kernel_rfl) (by kernel_rfl) (by decide)
 ·cases hg
theorem ZB9 (os:Os) (started:os.Started) (H:Type) (enc:TypeId×Value->H) :
  ReturnsInHanded {} Tryz.checked os 3 .any (fun w args=>(Rows.stealRunsSpec.pre enc Tryz.prog Tryz.f3 [] false w args/\laidMetH Tryz.prog Zp8 w)/\sizedMet enc Tryz.prog Tryz.f3 (OpenSpec.ofChange Rows.stealRunsSpec) false w args) (Rows.stealRunsSpec.post enc Tryz.prog Tryz.f3 false true false false):=by
 refine returnsInHanded_of_change_and (C:=Tryz.checked) (X:=fun w _=>laidMetH Tryz.prog Zp8 w) (fun _ _ _ hh h=>h.of_heap hh) own started (by kernel_rfl) Tryz.func3
  (ChangeSpec.witness_shaped (enc:=enc) (C:=Tryz.checked) (os:=os) (X:=fun w _=>laidMetH Tryz.prog Zp8 w) false (World.doorLaid Tryz.prog 19 os) #[.agg #[.slice none 0 0,.slice none 0 0],.slice none 0 0,.int .i64 0,.slice none 0 0] 8 rfl (World.shaped_of_RefB (by kernel_rfl) (by kernel_rfl)) (by kernel_rfl) (by kernel_rfl) (by kernel_rfl) (Zzg os _)) ?_
 intro W base args ds gs before hval0 hW _ _ hL _
 have hval:∀(j:Nat) t v,Tryz.f3.params[j]? = some t->args[j]? = some v->Value.okWide Tryz.prog W .any base t v:=hval0
 have hW':=hW
 obtain⟨p,q,hA0,hV,rfl,hfz,hnd⟩:=hW
 have hA:DataW.TrodAll enc Tryz.prog W 0 (fun _=>true) true Tryz.f3.params.toList args.toList ds p:=hA0
 rw[Tryz.params3] at hA hval
 obtain⟨v0,vs0,d0,ds0,p0,q0,hargs,rfl,rfl,h0,r0⟩:=trodAll_cons hA
 obtain⟨v1,vs1,d1,ds1,p1,q1,rfl,rfl,rfl,h1,r1⟩:=trodAll_cons r0
 obtain⟨v2,vs2,d2,ds2,p2,q2,rfl,rfl,rfl,h2,r2⟩:=trodAll_cons r1
 obtain⟨v3,vs3,d3,ds3,p3,q3,rfl,rfl,rfl,h3,r3⟩:=trodAll_cons r2
 obtain⟨rfl,rfl,rfl⟩:=trodAll_nil r3
 obtain rfl:args = #[v0,v1,v2,v3]:=by cases args;simp_all
 obtain⟨rfl,rfl⟩:=trodVars_none hV
 have lt0:∀x∈p0,x.block<W.heap.size:=by obtain⟨m,hm⟩:=h0;exact DataW.trod_lt m _ _ _ hm
 obtain⟨x0,ok0,den0⟩:=ZrB (P:=Tryz.prog) (n:=8) (t:=25) (l:=Ztd.1) (ag:=Ztd.2) (by kernel_rfl) (hval 0 25 v0 rfl rfl) h0
 have lt1:∀x∈p1,x.block<W.heap.size:=by obtain⟨m,hm⟩:=h1;exact DataW.trod_lt m _ _ _ hm
 obtain⟨x1,ok1,den1⟩:=ZrB (P:=Tryz.prog) (n:=8) (t:=22) (l:=Zle.1) (ag:=Zle.2) (by kernel_rfl) (hval 1 22 v1 rfl rfl) h1
 have lt2:∀x∈p2,x.block<W.heap.size:=by obtain⟨m,hm⟩:=h2;exact DataW.trod_lt m _ _ _ hm
 obtain⟨x2,ok2,den2⟩:=ZrB (P:=Tryz.prog) (n:=8) (t:=3) (l:=Zyq.1) (ag:=Zyq.2) (by kernel_rfl) (hval 2 3 v2 rfl rfl) h2
 have lt3:∀x∈p3,x.block<W.heap.size:=by obtain⟨m,hm⟩:=h3;exact DataW.trod_lt m _ _ _ hm
 obtain⟨x3,ok3,den3⟩:=ZrB (P:=Tryz.prog) (n:=8) (t:=22) (l:=Zle.1) (ag:=Zle.2) (by kernel_rfl) (hval 3 22 v3 rfl rfl) h3
 obtain⟨H1,ev⟩:=ZrO x0 ok0 x1 ok1 x2 ok2 x3 ok3
 have den:Z0 All All All W [ZlC Ztd.2 x0,ZlC Zle.2 x1,ZlC Zyq.2 x2,ZlC Zle.2 x3] [v0,v1,v2,v3]:=⟨_,_,rfl,den0,⟨_,_,rfl,den1,⟨_,_,rfl,den2,⟨_,_,rfl,den3,rfl⟩⟩⟩⟩
 refine(ZwE ZDG (ZxH hL) den ev).mono fun e W' ⟨he,bel⟩=>?_
 subst he
 exact⟨_,rfl,_,_,_,[],_,[],hW',trodAll_mk1 (shut_bool Tryz.underlying4 _),(trodAll_cons_mk (Below.trod Zot (by kernel_rfl) (of_decide_eq_true (by kernel_rfl)) h0 bel lt0) (trodAll_cons_mk (Below.trod Zot (by kernel_rfl) (of_decide_eq_true (by kernel_rfl)) h1 bel lt1) (trodAll_cons_mk (Below.trod Zot (by kernel_rfl) (of_decide_eq_true (by kernel_rfl)) h2 bel lt2) (trodAll_cons_mk (Below.trod Zot (by kernel_rfl) (of_decide_eq_true (by kernel_rfl)) h3 bel lt3) trodAll_mk0)))),rfl,bel.frame _,fun h=>by cases h⟩
theorem over:Rows.stealRunsRow.holds Tryz.pinned (OpenSpec.ofChange Rows.stealRunsSpec):=
 OpenClaim.holds_of_wide 3 Tryz.f3 rfl rfl rfl rfl rfl rfl rfl ⟨rfl,rfl,rfl,rfl,rfl⟩ rfl rfl rfl rfl rfl (by kernel_rfl) Tryz.func3 (by kernel_rfl)
  (of_decide_eq_true (by kernel_rfl)) (by unfold Func.isWrapper;first | (rw[if_pos (by decide +kernel)];kernel_rfl) | (rw[if_neg (by decide +kernel)];exact⟨rfl,rfl⟩))
  (fun os started H enc _=>ZB9 os started H enc)
theorem proved:Rows.StealRunsSaid:=over
theorem carded:Rows.StealRunsCardSaid:=
 Claim7.holds_tied_plain_at .later [] [.data, .data] true (true, "d6d7d9d5c807326625a91c6e0083beb2768bae7db06b561411ca8dd5dfe6ff89") false
  proved (fun _ h=>by cases h) (by kernel_rfl) (fun _ h=>by cases h) stealRuns_row_tie rfl ⟨rfl,rfl⟩ (by kernel_rfl) rfl
  (fun f fn hf hfn=>by
   obtain rfl : f = 3 := Option.some.inj ((show Tryz.prog.funcNamed "trefoil/trefoillaw13.StealRuns" = some 3 by kernel_rfl).symm.trans hf) |>.symm
   obtain rfl:fn=Tryz.f3:=(Option.some.inj (Tryz.func3.symm.trans hfn)).symm
   exact⟨by kernel_rfl,fun j t ht=>by
    rw[Tryz.params3] at ht
    have hm:t∈[25,22,3,22]:=by simpa using Array.mem_of_getElem? ht
    have hall:([25,22,3,22].all fun u=>!Tryz.prog.wantsStandIn u)=true:=by kernel_rfl
    exact(show Tryz.prog.wantsStandIn t=false by simpa using List.all_eq_true.1 hall t hm)⟩)
  (by kernel_rfl)
end Go.Proofs.YtgcfmiajkbbmeaaGreatDoor.LawStealRuns
namespace Go.Proofs.YtgcfmiajkbbmeaaGreatDoor
theorem stealRuns_holds:Rows.StealRunsCardSaid:=LawStealRuns.carded
#print axioms stealRuns_holds
end Go.Proofs.YtgcfmiajkbbmeaaGreatDoor
