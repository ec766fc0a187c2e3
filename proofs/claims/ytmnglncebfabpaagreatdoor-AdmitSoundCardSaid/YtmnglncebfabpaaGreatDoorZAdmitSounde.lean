/- AdmitSound: part 5 of 6 of the proof. -/
import Derived.Test.YtmnglncebfabpaaGreatDoorZAdmitSoundd
import Derived.KernelRfl
set_option maxRecDepth 100000
set_option maxHeartbeats 40000000
set_option linter.unusedVariables false
set_option linter.unusedSimpArgs false
namespace Go.Proofs.YtmnglncebfabpaaGreatDoor
open Go Go.Proofs.YtmnglncebfabpaaGreatDoorE
open Go.IntKind (u64 i64 u32 i32 u8)
def Zg8 (d:Zq) (k:Nat):List (Int×Int):=(List.range k).map fun n:Nat=>((n:Int),(ZaG d n:Int))
def Zhz (d:Zq) (k:Nat):List (Int×Int):=(List.range k).map fun n:Nat=>((n:Int),((ZaG d n+nt d n:Nat):Int))
def Zeg (d:Zq) (k:Nat):List (Zj×Int):=upto (fun n=>Zhj d n (nt d n)) k
theorem ZwI (d:Zq) (k:Nat):Zg8 d (k+1)=Zg8 d k++[((k:Int),(ZaG d k:Int))]:=by unfold Zg8;rw[List.range_succ,List.map_append];rfl
theorem ZxT (d:Zq) (k:Nat):Zhz d (k+1)=Zhz d k++[((k:Int),((ZaG d k+nt d k:Nat):Int))]:=by unfold Zhz;rw[List.range_succ,List.map_append];rfl
theorem Zzb (d:Zq) (k:Nat):∀q∈Zg8 d k,q.1≠(k:Int):=fun q hq=>by
 unfold Zg8 at hq
 obtain⟨j,hj,rfl⟩:=List.mem_map.1 hq
 rw[List.mem_range] at hj
 show(j:Int)≠(k:Int)
 omega
theorem Zvt (d:Zq) (k:Nat):∀q∈Zhz d k,q.1≠(k:Int):=fun q hq=>by
 unfold Zhz at hq
 obtain⟨j,hj,rfl⟩:=List.mem_map.1 hq
 rw[List.mem_range] at hj
 show(j:Int)≠(k:Int)
 omega
theorem Zpm {d:Zq}{k:Nat}{q:Zj×Int} (h:q∈Zeg d k):∃n j,n<k/\j<nt d n/\q=(Zhu d n j,((ZaG d n+j+1:Nat):Int)):=by
 unfold Zeg upto at h
 obtain⟨n,hn,hq⟩:=List.mem_flatMap.1 h
 unfold Zhj at hq
 obtain⟨j,hj,rfl⟩:=List.mem_map.1 hq
 exact⟨n,j,List.mem_range.1 hn,List.mem_range.1 hj,rfl⟩
theorem Zyd {d:Zq} (g:Zn3 d) (k:Nat):∀q∈Zeg d k,q.1.user≠(k:Int):=fun q hq=>by
 obtain⟨n,j,hn,hj,rfl⟩:=Zpm hq
 show(Zhu d n j).user≠(k:Int)
 rw[(ZeS g hj).2.2.1]
 omega
theorem Zjz {K W:Type} (eq:K->K->Bool) (z:W) (f:Nat->K) (v:Nat->W) {i:Nat} (h0:eq (f i) (f i)=true) (h1:∀j,j<i->eq (f i) (f j)=false):∀k,i<k->Z8 eq ((List.range k).map fun j=>(f j,v j)) (f i) z=v i
 | 0,h=>absurd h (by omega)
 | k+1,h=>by
  rw[List.range_succ,List.map_append]
  by_cases hk:i<k
  ·rw[Zl3 eq (f i) z _ _ ⟨(f i,v i),List.mem_map.2 ⟨i,List.mem_range.2 hk,rfl⟩,h0⟩]
   exact Zjz eq z f v h0 h1 k hk
  ·have:i=k:=by omega
   subst this
   refine Zvg eq (f i) z (v i) h0 _ [] fun q hq=>?_
   obtain⟨j,hj,rfl⟩:=List.mem_map.1 hq
   exact h1 j (List.mem_range.1 hj)
theorem Zvv {d:Zq}{z:Int} (h:inR d z):Z8 (fun ka kb:Int=>(ka==kb)) (Zg8 d d.parts.length) z 0=Znx d z:=by
 have:=Zjz eqI 0 (fun n:Nat=>(n:Int)) (fun n=>(ZaG d n:Int)) (i:=z.toNat) (by simp) (fun j hj=>beq_false_of_ne (by omega)) d.parts.length h.2
 have e:((z.toNat:Nat):Int)=z:=Int.toNat_of_nonneg h.1
 simp only[e] at this
 exact this
theorem ZtB {d:Zq}{z:Int} (h:inR d z):Z8 (fun ka kb:Int=>(ka==kb)) (Zhz d d.parts.length) z 0=Zpa d z:=by
 have:=Zjz eqI 0 (fun n:Nat=>(n:Int)) (fun n=>((ZaG d n+nt d n:Nat):Int)) (i:=z.toNat) (by simp) (fun j hj=>beq_false_of_ne (by omega)) d.parts.length h.2
 have e:((z.toNat:Nat):Int)=z:=Int.toNat_of_nonneg h.1
 simp only[e] at this
 refine Eq.trans this ?_
 unfold Zpa
 show _=((ZaG d z.toNat+(nt d z.toNat+1):Nat):Int)-1
 omega
theorem ZBV {d:Zq} (g:Zel d) {f:Zj} (h:f∈d.futures):∃j,j<nt d f.user.toNat/\Zhu d f.user.toNat j=f:=by
 obtain⟨m,hm⟩:=List.getElem?_of_mem h
 have hu:=g.user h
 have e:((f.user.toNat:Nat):Int)=f.user:=Int.toNat_of_nonneg hu.1
 have:=(ZoS g.g f.user.toNat).mem (m:Int) |>.2 ⟨m,f,hm,e.symm,rfl⟩
 obtain⟨j,hj,hj2⟩:=List.getElem_of_mem this
 refine⟨j,hj,?_⟩
 unfold Zhu
 rw[List.getElem?_eq_getElem hj]
 show(match d.futures[((tch d f.user.toNat)[j]).toNat]? with | some f=>f | none=>⟨0,0,0⟩)=f
 rw[hj2,Int.toNat_natCast,hm]
theorem ZAg {γ R:Type} (p:Nat->γ->Bool) (out:Nat->γ->R) (fin:R):∀(l:List γ) (i j:Nat) (x:γ),l[j]? = some x->p (i+j) x=true->(∀k y,k<j->l[k]? = some y->p (i+k) y=false)->ZkA p out fin i l=out (i+j) x
 | [],i,j,x,h,_,_=>by cases h
 | y :: l,i,0,x,h,h1,_=>by
  cases h
  unfold ZkA
  rw[Nat.add_zero] at h1
  rw[h1];rfl
 | y :: l,i,j+1,x,h,h1,h2=>by
  unfold ZkA
  have h0:=h2 0 y (by omega) rfl
  rw[Nat.add_zero] at h0
  rw[h0]
  show ZkA p out fin (i+1) l=_
  rw[show i+(j+1)=i+1+j by omega] at h1 ⊢
  exact ZAg p out fin l (i+1) j x h h1 fun k z hk hz=>by
   have:=h2 (k+1) z (by omega) hz
   rwa [show i+(k+1)=i+1+k by omega] at this
theorem ZFh {d:Zq} (g:Zel d) {f:Zj} (h:f∈d.futures) {j:Nat} (hj:j<nt d f.user.toNat) (he:Zhu d f.user.toNat j=f):ZBt d f=((ZaG d f.user.toNat+j+1:Nat):Int):=by
 have pos:∀k (hk:k<nt d f.user.toNat),Zf8 d.futures (tch d f.user.toNat)[k]=(Zhu d f.user.toNat k).pos:=fun k hk=>by
  rw[(ZeS g.g hk).2.2.2.1]
  unfold cut
  rw[if_neg (by omega),Nat.add_sub_cancel,List.getElem?_eq_getElem hk]
 unfold ZBt
 rw[ZAg (fun _ z=>Zf8 d.futures z==f.pos) (fun i _=>Znx d f.user+(i:Int)+1) (-1) (tch d f.user.toNat) 0 j _ (List.getElem?_eq_getElem hj) (by show(Zf8 d.futures (tch d f.user.toNat)[j]==f.pos)=true;rw[pos j hj,he];simp) (fun k y hk hy=>by
  have hk2:k<nt d f.user.toNat:=by omega
  have hy2:(tch d f.user.toNat)[k]=y:=Option.some.inj ((List.getElem?_eq_getElem hk2).symm.trans hy)
  have:=Zpw g.g hk hj
  rw[he] at this
  show(Zf8 d.futures y==f.pos)=false
  rw[<- hy2,pos k hk2]
  exact beq_false_of_ne (by omega))]
 unfold Znx
 omega
theorem Zw7 (f:Zj):eqF f f=true:=by simp[eqF]
theorem ZBf {d:Zq} (g:Zel d) {f:Zj} (h:f∈d.futures):Z8 (fun ka kb:Zj=>((ka.maker==kb.maker)&&((ka.user==kb.user)&&((ka.pos==kb.pos)&&true)))) (Zeg d d.parts.length) f 0=ZBt d f:=by
 obtain⟨j,hj,he⟩:=ZBV g h
 have hu:=g.user h
 have eu:((f.user.toNat:Nat):Int)=f.user:=Int.toNat_of_nonneg hu.1
 have key:∀k,f.user.toNat<k->Z8 eqF (Zeg d k) f 0=ZBt d f:=by
  intro k
  induction k with
  | zero=>intro hk;exact absurd hk (by omega)
  | succ k ih=>
   intro hk
   rw[show Zeg d (k+1)=Zeg d k++Zhj d k (nt d k) from Zgr _ k]
   by_cases hlt:f.user.toNat<k
   ·rw[Zl3 eqF f 0 _ _ ⟨(f,((ZaG d f.user.toNat+j+1:Nat):Int)),?_,Zw7 f⟩]
    ·exact ih hlt
    ·unfold Zeg upto
     refine List.mem_flatMap.2 ⟨f.user.toNat,List.mem_range.2 hlt,?_⟩
     unfold Zhj
     exact List.mem_map.2 ⟨j,List.mem_range.2 hj,by rw[he]⟩
   ·have hk2:k=f.user.toNat:=by omega
    subst hk2
    rw[Zk8 eqF f 0 _ _ (fun q hq=>by
     obtain⟨n,i,hn,hi,rfl⟩:=Zpm hq
     refine Zwx (.inl ?_)
     show f.user≠(Zhu d n i).user
     rw[(ZeS g.g hi).2.2.1]
     omega)]
    have:=Zjz eqF 0 (fun i=>Zhu d f.user.toNat i) (fun i=>((ZaG d f.user.toNat+i+1:Nat):Int)) (i:=j) (Zw7 _) (fun i hi=>by
     have:=Zpw g.g hi hj
     exact Zwx (.inr (by omega))) (nt d f.user.toNat) hj
    rw[ZFh g h hj he]
    rw[he] at this
    exact this
 exact key d.parts.length hu.2
theorem ZzD {d:Zq} (g:Zel d) (hc:∀n:Nat,Zem d (n:Int)=some (tch d n)):lp (Zc5 d) (0,[],[],[],[],[],[])=some (ZiW d d.parts.length,Ziv d d.parts.length,ZdL d d.parts.length,Zg8 d d.parts.length,Zhz d d.parts.length,Zeg d d.parts.length):=by
 have hpl:=g.pl
 have key:∀(k i:Nat),i+k=d.parts.length->lp (Zc5 d) ((i:Int),ZiW d i,Ziv d i,ZdL d i,Zg8 d i,Zhz d i,Zeg d i)=some (ZiW d d.parts.length,Ziv d d.parts.length,ZdL d d.parts.length,Zg8 d d.parts.length,Zhz d d.parts.length,Zeg d d.parts.length):=by
  intro k
  induction k with
  | zero=>
   intro i hi
   have:i=d.parts.length:=by omega
   subst this
   rw[Zaj]
   simp only[Zc5,Zdn,cond_false]
  | succ k ih=>
   intro i hi
   have hi':i<d.parts.length:=by omega
   have hF:=ZjL g i
   have h1:=ZoW d i
   have l1:(ZiW d i).length<=1000:=by rw[ZlU];omega
   have l2:(Ziv d i).length<=1000:=by omega
   have l3:(ZdL d i).length<=1000:=by rw[ZhS];omega
   have ih':=ih (i+1) (by omega)
   rw[show Ziv d (i+1)=Ziv d i++ZiA d i (nt d i) from Zgr _ i,show ZiW d (i+1)=ZiW d i++ZoJ d i from Zgr _ i,show ZdL d (i+1)=ZdL d i++Zge i (nt d i+1) from Zgr _ i,ZwI,ZxT,show Zeg d (i+1)=Zeg d i++Zhj d i (nt d i) from Zgr _ i] at ih'
   have pe:=ZBz g hi' (hc i) (Zhz d i) (Zeg d i) l1 l2 l3
   rw[Zzv g hi' l1 l2 (ZhS d i) (Zvt d i) (Zyd g.g i),Option.bind_some] at pe
   have p4:Zx (fun ka kb:Int=>(ka==kb)) (Zg8 d i) (i:Int) ((ZdL d i).length:Int)=Zg8 d i++[((i:Int),(ZaG d i:Int))]:=by
    rw[ZhS]
    exact Zkk eqI (i:Int) _ _ fun q hq=>beq_false_of_ne (Ne.symm (Zzb d i q hq))
   have p5:Zx (fun ka kb:Int=>(ka==kb)) (Zhz d i) (i:Int) (ZaG d i:Int)=Zhz d i++[((i:Int),(ZaG d i:Int))]:=Zkk eqI (i:Int) _ _ fun q hq=>beq_false_of_ne (Ne.symm (Zvt d i q hq))
   have lput:=ZwX (ZdL d i) (Zg.mk (i:Int) 0) (by omega)
   rw[ZhS] at lput
   rw[Zaj]
   by_cases h0:0<nt d i
   ·rw[decide_eq_true h0] at pe
    simp only[Zc5,ZcG hi',cond_true,pe,Option.bind_some,p4,ZJ hi' (show d.parts.length<9223372036854775808 by omega)]
    exact ih'
   ·have hz:nt d i=0:=by omega
    rw[decide_eq_false h0] at pe
    simp only[Zc5,ZcG hi',cond_true,cond_false,pe,Option.bind_some,p4,lput,p5,ZJ hi' (show d.parts.length<9223372036854775808 by omega)]
    rw[hz] at ih'
    simpa [ZiA,Zge,Zhj] using ih'
 exact key d.parts.length 0 (by omega)
theorem Zza {d:Zq} (g:Zel d) {r3:List Int×List Zs×List Zg×List (Int×Int)×List (Int×Int)×List (Zj×Int)} (h4:r3.2.2.2.1=Zg8 d d.parts.length) (h5:r3.2.2.2.2.1=Zhz d d.parts.length) (E:List Zs) (hE:E.length<=1000):lp (ZdY d r3) (0,E)=some (E++ZtJ d):=
 have he:=g.el
 Zv4 d.edges (by omega) (ZdY d r3) (fun e=>⟨Zpa d e.src,Znx d e.dst⟩) (fun i x s hi hx hb=>by
  have hm:=List.mem_of_getElem? hx
  have ed:∀b c,ZM b c s=some ():=fun b c=>by unfold ZM;rw[hb];rfl
  simp only[ZdY,ZcG hi,cond_true,ZU hx,Option.bind_some,h4,h5,ZtB (g.src hm),Zvv (g.dst hm),ed,ZJ hi (show d.edges.length<9223372036854775808 by omega)]) (fun s=>by simp only[ZdY,Zdn,cond_false]) E (by omega)
theorem ZwB {d:Zq} (g:Zel d) {r3:List Int×List Zs×List Zg×List (Int×Int)×List (Int×Int)×List (Zj×Int)} (h5:r3.2.2.2.2.1=Zhz d d.parts.length) (h6:r3.2.2.2.2.2=Zeg d d.parts.length) (E:List Zs) (hE:E.length<=1000):lp (Zd7 d r3) (0,E)=some (E++Zwa d):=
 have he:=g.fl
 Zv4 d.futures (by omega) (Zd7 d r3) (fun f=>⟨Zpa d f.maker,ZBt d f⟩) (fun i x s hi hx hb=>by
  have hm:=List.mem_of_getElem? hx
  have ed:∀b c,ZM b c s=some ():=fun b c=>by unfold ZM;rw[hb];rfl
  simp only[Zd7,ZcG hi,cond_true,ZU hx,Option.bind_some,h5,h6,ZtB (g.maker hm),ZBf g hm,ed,ZJ hi (show d.futures.length<9223372036854775808 by omega)]) (fun s=>by simp only[Zd7,Zdn,cond_false]) E (by omega)
theorem ZBn {d:Zq} (g:Zel d) (hz:ZjT d) {r3:List Int×List Zs×List Zg×List (Int×Int)×List (Int×Int)×List (Zj×Int)} (h4:r3.2.2.2.1=Zg8 d d.parts.length) (h5:r3.2.2.2.2.1=Zhz d d.parts.length) (E:List Zs) (hE:E.length<=1000) :
  lp (Zd4 d r3) (0,ZiW d d.parts.length,E,ZdL d d.parts.length)=some (Zld d,E++ZhA d d.barriers.length,Zyy d):=by
 have hbl:=g.bl
 have hF:=ZjL g d.parts.length
 have hpl:=g.pl
 have key:∀(k i:Nat),i+k=d.barriers.length->lp (Zd4 d r3) ((i:Int),ZiW d d.parts.length++List.replicate i 1,E++ZhA d i,ZdL d d.parts.length++Zg6 i)=some (Zld d,E++ZhA d d.barriers.length,Zyy d):=by
  intro k
  induction k with
  | zero=>
   intro i hi
   have:i=d.barriers.length:=by omega
   subst this
   rw[Zaj]
   simp only[Zd4,Zdn,cond_false]
   rfl
  | succ k ih=>
   intro i hi
   have hi':i<d.barriers.length:=by omega
   have hx:d.barriers[i]? = some d.barriers[i]:=List.getElem?_eq_getElem hi'
   have hm:=List.mem_of_getElem? hx
   have hsz:=hz.i _ hm
   have hB:=ZoK hz i
   have lp_:(ZdL d d.parts.length++Zg6 i).length=ZaG d d.parts.length+i:=by rw[List.length_append,ZhS,Zxp]
   have lw_:(ZiW d d.parts.length++List.replicate i (1:Int)).length=ZaG d d.parts.length+i:=by rw[List.length_append,ZlU,List.length_replicate]
   have lput:=ZwX (ZdL d d.parts.length++Zg6 i) (Zg.mk (-1) (i:Int)) (by rw[lp_];omega)
   rw[lp_,show((ZaG d d.parts.length+i:Nat):Int)=ZtP d i from rfl] at lput
   have k4:=fun s=>Zv4 d.barriers[i].ins (by omega) (ZfM r3 ((i:Int),ZiW d d.parts.length++List.replicate i 1,E++ZhA d i,ZdL d d.parts.length++Zg6 i) d.barriers[i]) (fun q=>⟨Zpa d q,ZtP d i⟩) (fun j x s hj hx hb=>by
    have ed:∀b c,ZM b c s=some ():=fun b c=>by unfold ZM;rw[hb];rfl
    simp only[ZfM,ZcG hj,cond_true,ZU hx,Option.bind_some,h5,ZtB (g.ins _ hm x (List.mem_of_getElem? hx)),lput,ed,ZJ hj (show d.barriers[i].ins.length<9223372036854775808 by omega)]) (fun s=>by simp only[ZfM,Zdn,cond_false]) s
   have k5:=fun s=>Zv4 d.barriers[i].outs (by omega) (ZfN r3 ((i:Int),ZiW d d.parts.length++List.replicate i 1,E++ZhA d i,ZdL d d.parts.length++Zg6 i) d.barriers[i]) (fun q=>⟨ZtP d i,Znx d q⟩) (fun j x s hj hx hb=>by
    have ed:∀b c,ZM b c s=some ():=fun b c=>by unfold ZM;rw[hb];rfl
    simp only[ZfN,ZcG hj,cond_true,ZU hx,Option.bind_some,h4,Zvv (g.outs _ hm x (List.mem_of_getElem? hx)),lput,ed,ZJ hj (show d.barriers[i].outs.length<9223372036854775808 by omega)]) (fun s=>by simp only[ZfN,Zdn,cond_false]) s
   have ih':=ih (i+1) (by omega)
   have eB:ZhA d (i+1)=ZhA d i++ZDc d (ZtP d i) d.barriers[i]:=by
    unfold ZhA
    rw[Zgr,hx]
   rw[eB,Zwq,List.replicate_succ',ZDc,<- List.append_assoc,<- List.append_assoc,<- List.append_assoc,<- List.append_assoc] at ih'
   rw[Zaj]
   simp only[Zd4,ZcG hi',cond_true,ZU hx,Option.bind_some,Zit _ _ (show(ZiW d d.parts.length++List.replicate i (1:Int)).length<=10000 by rw[lw_];omega) (show(ZdL d d.parts.length++Zg6 i).length<=10000 by rw[lp_];omega),k4 (E++ZhA d i) (by rw[List.length_append];omega),
    k5 (E++ZhA d i++List.map (fun q=>⟨Zpa d q,ZtP d i⟩) d.barriers[i].ins) (by simp only[List.length_append,List.length_map];omega),ZJ hi' (show d.barriers.length<9223372036854775808 by omega)]
   exact ih'
 have:=key d.barriers.length 0 (by omega)
 simpa [ZhA,upto,Zg6] using this
theorem ZxV {d:Zq} (g:Zel d) (hz:ZjT d):ZwM (Zgx d).dag:=by
 have hE:=Zsr g
 have hB:=ZoK hz d.barriers.length
 have hbl:=g.bl
 have hF:=ZjL g d.parts.length
 have hpl:=g.pl
 constructor
 ·show(Zld d).length<_
  unfold Zld
  rw[List.length_append,ZlU,List.length_replicate]
  omega
 ·show(ZyL d).length<_
  unfold ZyL
  rw[List.length_append]
  omega
noncomputable def Zuc (d:Zq):ZyO×Int:=
 bif Zid d==0 then (bif Zjc (Zgx d).dag==0 then (Zgx d,0) else (⟨⟨[],[]⟩,[]⟩,70)) else (⟨⟨[],[]⟩,[]⟩,Zid d)
theorem ZFD {d:Zq} (hz:ZjT d):ZiK d=some (Zuc d):=by
 have hs:=hz.short
 unfold ZiK Zuc
 rw[ZzQ d hs,Option.bind_some]
 by_cases hc:Zid d=0
 ·have g:=ZxF hc
  have hE:=Zsr g
  have h3:(Ziv d d.parts.length++ZtJ d).length<=1000:=by unfold ZqF at hE;rw[List.length_append] at hE;omega
  have h4:(Ziv d d.parts.length).length<=1000:=by rw[List.length_append] at h3;omega
  rw[hc]
  simp only[bne_self_eq_false,cond_false,beq_self_eq_true,cond_true,ZzD g (ZIM hs (by have:=g.fl;omega) hc),Option.bind_some]
  rw[Zza g rfl rfl _ h4]
  simp only[Option.bind_some]
  rw[ZwB g rfl rfl _ h3]
  simp only[Option.bind_some]
  rw[show Ziv d d.parts.length++ZtJ d++Zwa d=ZqF d from rfl,ZBn g hz rfl rfl _ hE]
  simp only[Option.bind_some]
  rw[show Zbh.mk (Zld d) (ZqF d++ZhA d d.barriers.length)=(Zgx d).dag from rfl,Zop _ (ZxV g hz),Option.bind_some]
  by_cases hk:Zjc (Zgx d).dag=0
  ·rw[hk];rfl
  ·rw[beq_false_of_ne hk,bne,beq_false_of_ne hk];rfl
 ·rw[beq_false_of_ne hc,bne,beq_false_of_ne hc];rfl
theorem ZFL {d:Zq} (g:Zel d) {n:Nat} (hn:n<d.parts.length):1<=Zgy d.parts (n:Int):=by
 unfold Zgy
 rw[Int.toNat_natCast,List.getElem?_eq_getElem hn]
 exact(g.g.w _ (List.getElem_mem hn)).1
theorem ZAj {d:Zq} (g:Zn3 d) {n i:Nat} (hi:i<nt d n):1<=cut d n (i+1)/\cut d n (i+1)<=Zgy d.parts (n:Int)-1:=by
 obtain⟨_,_,h3,h4,h5⟩:=ZeS g hi
 have:=(g.f _ h5).2
 rw[h3,h4] at this
 exact this
theorem ZEj {d:Zq} (g:Zel d) {n:Nat} (hn:n<d.parts.length) {i:Nat} (hi:i<=nt d n):1<=cut d n (i+1)-cut d n i:=by
 have hw:=ZFL g hn
 by_cases hl:i<nt d n
 ·have h1:=ZAj g.g hl
  cases i with
  | zero=>have:cut d n 0=0:=rfl;omega
  | succ j=>
   have:=Zpw g.g (show j<j+1 by omega) hl
   rw[(ZeS g.g (show j<nt d n by omega)).2.2.2.1,(ZeS g.g hl).2.2.2.1] at this
   omega
 ·have:i=nt d n:=by omega
  subst this
  rw[ZAq]
  cases h0:nt d n with
  | zero=>have:cut d n 0=0:=rfl;omega
  | succ j=>
   have:=ZAj g.g (show j<nt d n by omega)
   omega
theorem ZCQ {d:Zq} (g:Zel d) {n:Nat} (hn:n<d.parts.length):∀x∈ZoJ d n,1<=x:=fun x hx=>by
 unfold ZoJ Zk7 at hx
 obtain⟨i,hi,rfl⟩:=List.mem_map.1 hx
 rw[List.mem_range] at hi
 exact ZEj g hn (by omega)
theorem ZBs {d:Zq} (g:Zel d):∀x∈Zld d,1<=x:=fun x hx=>by
 unfold Zld at hx
 rcases List.mem_append.1 hx with hx | hx
 ·unfold ZiW upto at hx
  obtain⟨n,hn,hx⟩:=List.mem_flatMap.1 hx
  exact ZCQ g (List.mem_range.1 hn) x hx
 ·rw[(List.mem_replicate.1 hx).2];exact Int.le_refl _
theorem ZD5 (d:Zq) (g:Zn3 d) (n:Nat):nt d n=d.futures.countP fun f=>f.user==(n:Int):=by
 show(tch d n).length=_
 rw[ZuP (ZoS g n)]
 unfold ZrV
 rw[ZpZ]
theorem Zu9 {γ:Type} (p q r:γ->Bool) (h:∀x,r x=(p x || q x)) (h2:∀x,¬(p x=true/\q x=true)):∀l:List γ,l.countP r=l.countP p+l.countP q
 | []=>rfl
 | x :: l=>by
  rw[List.countP_cons,List.countP_cons,List.countP_cons,Zu9 p q r h h2 l,h x]
  have:=h2 x
  cases hp:p x<;>cases hq:q x<;>simp_all<;>omega
theorem ZpR {d:Zq} (g:Zel d):∀k,ZaG d k=k+d.futures.countP fun f=>decide (0<=f.user)&&decide (f.user<(k:Int))
 | 0=>by
  have:(d.futures.countP fun f=>decide (0<=f.user)&&decide (f.user<((0:Nat):Int)))=0:=by
   rw[List.countP_eq_zero]
   intro f _
   simp only[Bool.and_eq_true,decide_eq_true_eq]
   omega
  rw[this];rfl
 | k+1=>by
  rw[Zu9 (fun f:Zj=>decide (0<=f.user)&&decide (f.user<(k:Int))) (fun f=>f.user==(k:Int)) (fun f=>decide (0<=f.user)&&decide (f.user<((k+1:Nat):Int))) (fun f=>by
   rw[Bool.eq_iff_iff]
   simp only[Bool.and_eq_true,Bool.or_eq_true,decide_eq_true_eq,beq_iff_eq]
   omega) (fun f=>by
   simp only[Bool.and_eq_true,decide_eq_true_eq,beq_iff_eq]
   omega)]
  show ZaG d k+(nt d k+1)=_
  rw[ZpR g k,ZD5 d g.g k]
  omega
theorem Zzd {d:Zq} (g:Zel d):ZaG d d.parts.length=d.parts.length+d.futures.length:=by
 rw[ZpR g,List.countP_eq_length.2 fun f hf=>?_]
 have:=g.user hf
 have h1:=this.1
 have h2:=this.2
 simp only[Bool.and_eq_true,decide_eq_true_eq]
 omega
theorem ZzC {d:Zq} (g:Zel d):(Zld d).length=d.parts.length+d.futures.length+d.barriers.length:=by
 unfold Zld
 rw[List.length_append,ZlU,List.length_replicate,Zzd g]
theorem ZIq (l:List Int) (hl:l.length<=1000) (hb:∀x∈l,0<=x/\x<=1000000) (step:Int×Int->Option ((Int×Int)⊕Int))
  (h1:∀(i:Nat) x s,i<l.length->l[i]? = some x->step (s,(i:Int))=some (.inl (w64 (s+x),((i+1:Nat):Int)))) (h2:∀s,step (s,(l.length:Int))=some (.inr s)) (s:Int) (hs:0<=s/\s<=1000000):lp step (s,0)=some (s+l.sum):=by
 have key:=(ZgO l step (fun i s=>(s,(i:Int))) (fun _ s x=>s+x) id (fun i s=>0<=s/\s<=1000000+1000000*i) (fun i x s hi hx hI=>by
  have:=hb x (List.mem_of_getElem? hx)
  refine⟨?_,by omega⟩
  rw[h1 i x s hi hx,Zac (by omega) (by omega)]) (fun s _=>h2 s) s (by omega)).1
 have e:∀(l:List Int) (i:Nat) (s:Int),Zc8 (fun _ s x=>s+x) i s l=s+l.sum:=by
  intro l
  induction l with
  | nil=>intro i s;simp[Zc8]
  | cons x l ih=>intro i s;show Zc8 _ (i+1) (s+x) l=_;rw[ih,List.sum_cons];omega
 rw[e] at key
 exact key
theorem Zzx {g:Zbh} (h:Zjc g=0):ZkF g=some g.work.sum:=by
 have hG:=(ZnT h).1
 unfold ZkF
 rw[Zop g hG.short,h]
 have:=ZIq g.work (by have:=hG.wl;omega) (fun x hx=>by have:=hG.w x hx;omega) (ZgJ g) (fun i x s hi hx=>by
  simp only[ZgJ,ZcG hi,cond_true,ZU hx,Option.bind_some,ZJ hi hG.short.w]) (fun s=>by simp only[ZgJ,Zdn,cond_false]) 0 (by omega)
 simp only[Option.bind_some,beq_self_eq_true,cond_true,this,Int.zero_add]
theorem Zy3 (d:Zq):(Zuc d=(Zgx d,0)/\Zid d=0/\Zjc (Zgx d).dag=0)∨((Zuc d).1=⟨⟨[],[]⟩,[]⟩/\(Zuc d).2≠0):=by
 unfold Zuc
 by_cases hc:Zid d=0
 ·rw[hc]
  by_cases hk:Zjc (Zgx d).dag=0
  ·rw[hk];exact .inl ⟨rfl,rfl,rfl⟩
  ·rw[beq_false_of_ne hk];exact .inr ⟨rfl,by show(70:Int)≠0;omega⟩
 ·rw[beq_false_of_ne hc];exact .inr ⟨rfl,hc⟩
def rng (n m:Int):Bool:=decide (1<=n)&&decide (n<=m)
theorem ZIt (n m:Int):Zdy n m=some (rng n m):=by
 unfold Zdy rng
 cases decide (1<=n)<;>cases decide (n<=m)<;>rfl
noncomputable def ZdM (s:Zf):Bool:=Zww s.period&&(!decide (4096<s.period)&&(rng s.deadline s.period&&(rng s.total 4096&&(rng s.long s.total&&rng s.most s.long))))
theorem ZpF (s:Zf):Zfq s=some (bif ZdM s then 0 else 140):=by
 obtain⟨k,hk⟩:=Zxj s.period
 unfold Zfq ZdM
 simp only[hk,ZIt,Option.bind_some]
 cases Zww s.period<;>cases decide (4096<s.period)<;>cases rng s.deadline s.period<;>cases rng s.total 4096<;>cases rng s.long s.total<;>cases rng s.most s.long<;>rfl
structure Zg7 (s:Zf):Prop where
 p:s.period<=4096
 d1:1<=s.deadline
 d2:s.deadline<=s.period
 t1:1<=s.total
 t2:s.total<=4096
 l1:1<=s.long
 l2:s.long<=s.total
 m1:1<=s.most
 m2:s.most<=s.long
theorem ZlV {s:Zf} (h:ZdM s=true):Zg7 s:=by
 unfold ZdM rng at h
 simp only[Bool.and_eq_true,Bool.not_eq_true',decide_eq_false_iff_not,decide_eq_true_eq] at h
 obtain⟨_,h1,h2,h3,h4,h5⟩:=h
 exact⟨by omega,h2.1,h2.2,h3.1,h3.2,h4.1,h4.2,h5.1,h5.2⟩
theorem ZAC (a b:Int) (ha:0<=a) (ha2:a<=1099511627775) (hb:0<=b) (hb2:b<=1099511627775):Zk3 [a,b]=some 0:=by
 have ne:∀x:Int,0<=x->x<=1099511627775->Zc9 x=some false:=fun x h1 h2=>by
  unfold Zc9
  rw[Zsk]
  unfold Zot
  rw[decide_eq_false (show ¬x<0 by omega),decide_eq_false (show ¬1099511627775<x by omega)]
  rfl
 have key:lp (ZX [a,b] (fun z0=>Zc9 z0)) 0=some (.inr ()):=by
  have:=Zgz [a,b] (ZX [a,b] (fun z0=>Zc9 z0)) (fun _ _=>false) (fun i _=>.inl (i:Int)) (.inr ()) (fun i x hi hx=>by
   have hx':x=a∨x=b:=by
    have:=List.mem_of_getElem? hx
    simpa using this
   have e:Zc9 x=some false:=by
    rcases hx' with rfl | rfl
    ·exact ne _ ha ha2
    ·exact ne _ hb hb2
   simp only[ZX,ZcG hi,ZU hx,Option.bind_some,ZJ hi (show [a,b].length<9223372036854775808 by simp),cond_true,e,cond_false]) (by simp only[ZX,Zdn];rfl)
  rw[this]
  rfl
 unfold Zk3 ZaF
 rw[key]
 rfl
theorem ZwF (s:Zf) (h:ZdM s=true):ZbZ s=some (decide (s.deadline<s.total)):=by
 have o:=ZlV h
 have o1:=o.p;have o2:=o.d1;have o3:=o.d2;have o4:=o.t1;have o5:=o.t2;have o6:=o.l1;have o7:=o.l2
 unfold ZbZ
 rw[ZpF,h]
 simp only[cond_true,Option.bind_some,beq_self_eq_true]
 unfold Zj7
 by_cases h1:s.deadline<s.total
 ·rw[decide_eq_true h1]
  simp only[cond_true,Option.bind_some]
  unfold Zej Zc6
  by_cases h2:s.deadline<=s.long
  ·rw[decide_eq_true h2]
   rfl
  ·rw[decide_eq_false h2]
   have e1:w64 (s.total-s.long)=s.total-s.long:=Zac (by omega) (by omega)
   have e2:w64 (s.deadline-s.long)=s.deadline-s.long:=Zac (by omega) (by omega)
   have up:∃n,2<=n/\Zlr (s.total-s.long) (s.deadline-s.long)=some (n,0):=by
    unfold Zlr Zic Zka
    rw[ZAC _ _ (by omega) (by omega) (by omega) (by omega)]
    have e3:w64 (s.deadline-s.long-1)=s.deadline-s.long-1:=Zac (by omega) (by omega)
    have e4:w64 (s.total-s.long+(s.deadline-s.long-1))=s.total-s.long+(s.deadline-s.long-1):=Zac (by omega) (by omega)
    have hq:2<=(s.total-s.long+(s.deadline-s.long-1)) / (s.deadline-s.long):=Int.le_ediv_of_mul_le (by omega) (by omega)
    have hq2:(s.total-s.long+(s.deadline-s.long-1)) / (s.deadline-s.long)<=s.total-s.long+(s.deadline-s.long-1):=Int.ediv_le_self _ (by omega)
    refine⟨(s.total-s.long+(s.deadline-s.long-1)) / (s.deadline-s.long),hq,?_⟩
    simp only[Option.bind_some,bne_self_eq_false,cond_false,show((s.deadline-s.long)==0)=false by simp;omega,e3,e4]
    rw[Int.tdiv_eq_ediv_of_nonneg (by omega),Zac (by omega) (by omega)]
   obtain⟨n,n1,n2⟩:=up
   simp only[cond_false,e1,e2,n2,Option.bind_some,beq_self_eq_true,cond_true]
   by_cases h3:8<n
   ·rw[decide_eq_true h3];rfl
   ·rw[decide_eq_false h3]
    simp only[cond_false,Option.bind_some,show(n==1)=false by simp;omega,Bool.false_and,Bool.not_false,cond_true]
 ·rw[decide_eq_false h1]
  rfl
theorem ZLi (a b:Int) (ha:0<=a) (ha2:a<=4096) (hb:1<=b) (hb2:b<=4096):Zlr a b=some ((a+(b-1)) / b,0):=by
 unfold Zlr Zic Zka
 rw[ZAC _ _ (by omega) (by omega) (by omega) (by omega)]
 have e3:w64 (b-1)=b-1:=Zac (by omega) (by omega)
 have e4:w64 (a+(b-1))=a+(b-1):=Zac (by omega) (by omega)
 have h0:0<=(a+(b-1)) / b:=Int.ediv_nonneg (by omega) (by omega)
 have hq2:(a+(b-1)) / b<=a+(b-1):=Int.ediv_le_self _ (by omega)
 simp only[Option.bind_some,bne_self_eq_false,cond_false,show(b==0)=false by simp;omega,e3,e4]
 rw[Int.tdiv_eq_ediv_of_nonneg (by omega),Zac (by omega) (by omega)]
def upN (s:Zf):Int:=(s.total-s.long+(s.deadline-s.long-1)) / (s.deadline-s.long)
noncomputable def ZbP (s:Zf):Int×Int:=bif ZdM s then (bif decide (s.deadline<s.total) then (bif decide (s.deadline<=s.long) then (0,141) else bif decide (8<upN s) then (0,142) else (upN s,0)) else (1,0)) else (0,140)
theorem ZyG {s:Zf} (h:s.long<s.deadline) (n:Int):upN s<=n↔s.total-s.long<=n*(s.deadline-s.long):=by
 have hb:0<s.deadline-s.long:=by omega
 have:=Int.ediv_lt_iff_lt_mul (a:=s.total-s.long+(s.deadline-s.long-1)) (b:=n+1) hb
 rw[Int.add_mul,Int.one_mul] at this
 unfold upN
 omega
theorem Zwh (s:Zf):Zgs s=some (ZbP s):=by
 unfold Zgs ZbP
 rw[ZpF]
 cases h:ZdM s with
 | false=>rfl
 | true=>
  have o:=ZlV h
  have o1:=o.p;have o2:=o.d1;have o3:=o.d2;have o4:=o.t1;have o5:=o.t2;have o6:=o.l1;have o7:=o.l2
  simp only[cond_true,Option.bind_some,bne_self_eq_false,cond_false]
  unfold Zj7
  cases h1:decide (s.deadline<s.total) with
  | false=>rfl
  | true=>
   have h1:=of_decide_eq_true h1
   simp only[cond_true,Option.bind_some]
   unfold Zej
   by_cases h2:s.deadline<=s.long
   ·rw[decide_eq_true h2];rfl
   ·rw[decide_eq_false h2]
    have e1:w64 (s.total-s.long)=s.total-s.long:=Zac (by omega) (by omega)
    have e2:w64 (s.deadline-s.long)=s.deadline-s.long:=Zac (by omega) (by omega)
    simp only[cond_false,e1,e2,ZLi _ _ (show 0<=s.total-s.long by omega) (by omega) (show 1<=s.deadline-s.long by omega) (by omega),Option.bind_some,beq_self_eq_true,cond_true]
    show(bif decide (8<upN s) then _ else _:Option Zhm).bind _=_
    cases decide (8<upN s)<;>rfl
theorem ZA2 (l:List Int) (hl:l.length<=1000):∃r:List Int,Zdp l=some r/\r.Perm l/\r.Pairwise (fun x y=>x<=y):=by
 refine⟨sortI l,?_,ZoM l,Zml l⟩
 unfold Zdp
 rw[Nat.ble_eq_true_of_le (Nat.le_trans hl (by decide))]
 rfl
theorem ZF3 {g:Zbh} (h:Zj3 g) (n:Int):∃r,ZkM g n=some r/\(∀z,z∈r↔∃e∈g.edges,e.dst=n/\e.src=z)/\r.length<=256:=by
 have hel:=h.el
 have key:=ZEb g.edges (by omega) (fun e:Zs=>e.dst==n) (fun _ e=>e.src) (Zh7 g fun z0=>Zgq z0 n) (fun i x s hi hx=>by
  simp only[Zh7,ZcG hi,cond_true,ZU hx,Option.bind_some,Zgq,ZJ hi h.short.e]
  cases x.dst==n<;>rfl) (fun s=>by simp only[Zh7,Zdn,cond_false]) [] (by simp)
 rw[List.nil_append] at key
 have hlen:(sel (fun e:Zs=>e.dst==n) (fun _ e=>e.src) 0 g.edges).length<=256:=Nat.le_trans (ZBd _ _ _ _) hel
 obtain⟨r,h1,h2,_⟩:=ZA2 _ (Nat.le_trans hlen (by omega))
 refine⟨r,?_,fun z=>?_,by rw[h2.length_eq];exact hlen⟩
 ·unfold ZkM Zqk
  simp only[key,Option.bind_some,h1]
 ·rw[h2.mem_iff,Zr6]
  constructor
  ·rintro ⟨j,x,hx,h3,h4⟩
   exact⟨x,List.mem_of_getElem? hx,by simpa using h3,h4.symm⟩
  ·rintro ⟨e,he,h3,h4⟩
   obtain⟨j,hj⟩:=List.getElem?_of_mem he
   exact⟨j,e,hj,by simpa using h3,h4.symm⟩
theorem ZBT {g:Zbh} (h:Zjc g=0):∃l,ZkJ g=some l/\ZJg g l:=by
 obtain⟨hG,hA⟩:=ZnT h
 obtain⟨l,h1,h2⟩:=ZuS hG hA
 refine⟨l,?_,h2⟩
 unfold ZkJ
 rw[Zop g hG.short,h,Option.bind_some]
 simp only[bne_self_eq_false,cond_false,h1,Option.bind_some,cond_true]
def fat (l:List Int) (z:Int):Int:=match l[z.toNat]? with | some x=>x | none=>0
theorem Zp4 {l:List Int}{n:Nat} (hl:l.length=n) {z:Int} (h:0<=z/\z.toNat<n):Zz l z=some (fat l z):=by
 have e:=List.getElem?_eq_getElem (show z.toNat<l.length by rw[hl];exact h.2)
 rw[Zt3 h.1 e]
 unfold fat
 rw[e]
theorem Zp9 {l:List Int}{n:Nat} (hl:l.length=n) {z w v:Int} (hz:0<=z/\z.toNat<n) (hw:0<=w):fat (l.set z.toNat v) w=if w=z then v else fat l w:=by
 unfold fat
 rw[List.getElem?_set]
 by_cases h:z.toNat=w.toNat
 ·rw[if_pos h,if_pos (by rw[hl];exact hz.2),if_pos (by omega)]
 ·rw[if_neg h,if_neg (by intro hc;exact h (by rw[hc]))]
theorem Ztw (v:Int->Int):∀(ps:List Int) (i:Nat) (m:Int),m<=Zc8 (fun _ m p=>bif decide (m<v p) then v p else m) i m ps/\(∀p∈ps,v p<=Zc8 (fun _ m p=>bif decide (m<v p) then v p else m) i m ps) /\
  (Zc8 (fun _ m p=>bif decide (m<v p) then v p else m) i m ps=m∨∃p∈ps,Zc8 (fun _ m p=>bif decide (m<v p) then v p else m) i m ps=v p)
 | [],i,m=>⟨Int.le_refl _,(fun p hp=>by cases hp),.inl rfl⟩
 | p :: ps,i,m=>by
  obtain⟨h1,h2,h3⟩:=Ztw v ps (i+1) (bif decide (m<v p) then v p else m)
  generalize hr:Zc8 (fun _ m p=>bif decide (m<v p) then v p else m) (i+1) (bif decide (m<v p) then v p else m) ps=r at *
  have e:Zc8 (fun _ m p=>bif decide (m<v p) then v p else m) i m (p :: ps)=r:=hr
  rw[e]
  by_cases hc:m<v p
  ·rw[decide_eq_true hc] at h1 h3
   simp only[cond_true] at h1 h3
   refine⟨by omega,fun q hq=>?_,?_⟩
   ·rcases List.mem_cons.1 hq with rfl | hq
    ·exact h1
    ·exact h2 q hq
   ·rcases h3 with h3 | ⟨q,hq,h3⟩
    ·exact .inr ⟨p,by simp,h3⟩
    ·exact .inr ⟨q,by simp[hq],h3⟩
  ·rw[decide_eq_false hc] at h1 h3
   simp only[cond_false] at h1 h3
   refine⟨h1,fun q hq=>?_,?_⟩
   ·rcases List.mem_cons.1 hq with rfl | hq
    ·omega
    ·exact h2 q hq
   ·rcases h3 with h3 | ⟨q,hq,h3⟩
    ·exact .inl h3
    ·exact .inr ⟨q,by simp[hq],h3⟩
structure Far (g:Zbh) (F:Int->Int) (M:Int):Prop where
 edge:∀e∈g.edges,F e.src+fat g.work e.dst<=F e.dst
 least:∀i:Nat,i<g.work.length->fat g.work (i:Int)<=F (i:Int)
 some_:∀i:Nat,i<g.work.length->F (i:Int)=fat g.work (i:Int)∨∃e∈g.edges,e.dst=(i:Int)/\F (i:Int)=F e.src+fat g.work (i:Int)
 most:∀i:Nat,i<g.work.length->F (i:Int)<=M
 hit:M=0∨∃i:Nat,i<g.work.length/\M=F (i:Int)
theorem ZHF {g:Zbh} (h:Zjc g=0):∃F M,Zmd g=some M/\Far g F M:=by
 obtain⟨hG,hA⟩:=ZnT h
 obtain⟨l,h1,T⟩:=ZBT h
 have hwl:=hG.wl
 have hll:l.length<=64:=by rw[T.len];exact hwl
 have key:∀(k i:Nat) (far:List Int) (mo:Int),i+k=l.length->far.length=g.work.length ->
   (∀z,0<=z/\z.toNat<g.work.length->(¬∃j,j<i/\l[j]? = some z)->fat far z=0) ->
   (∀e∈g.edges,(∃j,j<i/\l[j]? = some e.dst)->fat far e.src+fat g.work e.dst<=fat far e.dst) ->
   (∀z,(∃j,j<i/\l[j]? = some z)->fat g.work z<=fat far z/\(fat far z=fat g.work z∨∃e∈g.edges,e.dst=z/\fat far z=fat far e.src+fat g.work z)/\fat far z<=mo) ->
   (mo=0∨∃z,(∃j,j<i/\l[j]? = some z)/\mo=fat far z) ->
   (∀z,0<=z/\z.toNat<g.work.length->0<=fat far z/\fat far z<=1000*i) ->
   ∃F M,lp (Zgw g l) (mo,(i:Int),far)=some M/\Far g F M:=by
  intro k
  induction k with
  | zero=>
   intro i far mo hi hl hz he hn hm hb
   have:i=l.length:=by omega
   subst this
   have all:∀j:Nat,j<g.work.length->∃q,q<l.length/\l[q]? = some (j:Int):=fun j hj=>by
    obtain⟨q,hq⟩:=List.getElem?_of_mem (T.all j hj)
    exact⟨q,(List.getElem?_eq_some_iff.1 hq).1,hq⟩
   have allz:∀z:Int,0<=z/\z.toNat<g.work.length->∃q,q<l.length/\l[q]? = some z:=fun z hz=>by
    have:=all z.toNat hz.2
    rwa [show((z.toNat:Nat):Int)=z by omega] at this
   refine⟨fat far,mo,?_,fun e hm=>he e hm (allz _ (hG.dst e hm)),fun i hi=>(hn _ (all i hi)).1,fun i hi=>(hn _ (all i hi)).2.1,fun i hi=>(hn _ (all i hi)).2.2,?_⟩
   ·rw[Zaj]
    simp only[Zgw,Zdn,cond_false]
   ·rcases hm with hm | ⟨z,⟨j,_,hj⟩,hm⟩
    ·exact .inl hm
    ·have:=T.inn z (List.mem_of_getElem? hj)
     exact .inr ⟨z.toNat,this.2,by rw[show((z.toNat:Nat):Int)=z by omega];exact hm⟩
  | succ k ih=>
   intro i far mo hi hl hz he hn hm hb
   have hi':i<l.length:=by omega
   have hx:l[i]? = some l[i]:=List.getElem?_eq_getElem hi'
   generalize hnn:l[i]=n at hx
   have nin:=T.inn n (List.mem_of_getElem? hx)
   obtain⟨ps,p1,p2,p3⟩:=ZF3 hG n
   have fresh:¬∃j,j<i/\l[j]? = some n:=fun⟨j,j1,j2⟩=>by have:=Zvw T.nod j2 hx;omega
   have h0:=hz n nin fresh
   have psin:∀p∈ps,(0<=p/\p.toNat<g.work.length)/\p≠n/\∃j,j<i/\l[j]? = some p:=fun p hp=>by
    obtain⟨e,e1,e2,e3⟩:=(p2 p).1 hp
    have hs:=hG.src e e1
    obtain⟨j,j1,j2⟩:=T.topo i n hx e e1 e2
    rw[e3] at hs j2
    exact⟨hs,fun hc=>fresh ⟨j,j1,hc ▸ j2⟩,j,j1,j2⟩
   have inner:=(ZgO ps (Zgt n ps) (fun j m=>((j:Int),far.set n.toNat m)) (fun _ m p=>bif decide (m<fat far p) then fat far p else m) (fun m=>far.set n.toNat m) (fun _ _=>True) (fun j p m hj hp _=>by
    obtain⟨q1,q2,_⟩:=psin p (List.mem_of_getElem? hp)
    have hls:(far.set n.toNat m).length=g.work.length:=by rw[List.length_set];exact hl
    have g1:=Zp4 hls nin
    have g2:=Zp4 hls q1
    rw[Zp9 hl nin nin.1,if_pos rfl] at g1
    rw[Zp9 hl nin q1.1,if_neg q2] at g2
    refine⟨?_,trivial⟩
    simp only[Zgt,ZcG hj,cond_true,ZU hp,Option.bind_some,g1,g2,List.set_set,ZJ hj (show ps.length<9223372036854775808 by omega)]) (fun m _=>by simp only[Zgt,Zdn,cond_false]) (fat far n) trivial).1
   have self:far.set n.toNat (fat far n)=far:=by
    have e:=List.getElem?_eq_getElem (show n.toNat<far.length by rw[hl];exact nin.2)
    unfold fat
    rw[e]
    exact List.set_getElem_self _
   simp only[self] at inner
   obtain⟨m1,m2,m3⟩:=Ztw (fat far) ps 0 (fat far n)
   generalize Zc8 (fun _ m p=>bif decide (m<fat far p) then fat far p else m) 0 (fat far n) ps=m at inner m1 m2 m3
   have inner2:lp (Zgt n ps) (0,far)=some (far.set n.toNat m):=inner
   rw[h0] at m1 m3
   have hwn:0<=fat g.work n/\fat g.work n<=1000:=by
    have e:=List.getElem?_eq_getElem (show n.toNat<g.work.length from nin.2)
    unfold fat
    rw[e]
    exact hG.w _ (List.getElem_mem _)
   have mb:m<=1000*i:=by
    rcases m3 with m3 | ⟨p,hp,m3⟩
    ·omega
    ·have:=hb p (psin p hp).1;omega
   have hls:(far.set n.toNat m).length=g.work.length:=by rw[List.length_set];exact hl
   have g9:=Zp4 hls nin
   rw[Zp9 hl nin nin.1,if_pos rfl] at g9
   have g10:=Zp4 (l:=g.work) rfl nin
   have hw:w64 (m+fat g.work n)=m+fat g.work n:=Zac (by omega) (by omega)
   have hls2:(far.set n.toNat (m+fat g.work n)).length=g.work.length:=by rw[List.length_set];exact hl
   have g11:=Zp4 hls2 nin
   rw[Zp9 hl nin nin.1,if_pos rfl] at g11
   have val:∀z,0<=z->fat (far.set n.toNat (m+fat g.work n)) z=if z=n then m+fat g.work n else fat far z:=fun z hz=>Zp9 hl nin hz
   have old:∀z,(∃j,j<i/\l[j]? = some z)->0<=z/\z≠n:=fun z ⟨j,j1,j2⟩=>⟨(T.inn z (List.mem_of_getElem? j2)).1,fun hc=>fresh ⟨j,j1,hc ▸ j2⟩⟩
   have split:∀z,(∃j,j<i+1/\l[j]? = some z)->z=n∨∃j,j<i/\l[j]? = some z:=fun z ⟨j,j1,j2⟩=>by
    by_cases hj:j=i
    ·subst hj;rw[hx] at j2;exact .inl (Option.some.inj j2).symm
    ·exact .inr ⟨j,by omega,j2⟩
   have srcOld:∀e∈g.edges,(∃j,j<i+1/\l[j]? = some e.dst)->∃j,j<i/\l[j]? = some e.src:=fun e he1 ⟨j,j1,j2⟩=>by
    obtain⟨q,q1,q2⟩:=T.topo j e.dst j2 e he1 rfl
    exact⟨q,by omega,q2⟩
   rw[Zaj]
   simp only[Zgw,ZcG hi',cond_true,ZU hx,Option.bind_some,p1,inner2,g9,g10,List.set_set,hw,g11,ZJ hi' (show l.length<9223372036854775808 by omega)]
   refine ih (i+1) (far.set n.toNat (m+fat g.work n)) _ (by omega) hls2 (fun z z1 z2=>?_) (fun e e1 e2=>?_) (fun z z1=>?_) ?_ (fun z z1=>?_)
   ·have hzn:z≠n:=fun hc=>z2 ⟨i,by omega,by rw[hc];exact hx⟩
    rw[val z z1.1,if_neg hzn]
    exact hz z z1 fun⟨j,j1,j2⟩=>z2 ⟨j,by omega,j2⟩
   ·have so:=srcOld e e1 e2
    obtain⟨s0,s1⟩:=old e.src so
    have d0:=(hG.dst e e1).1
    rw[val e.src s0,if_neg s1,val e.dst d0]
    rcases split e.dst e2 with hd | hd
    ·rw[if_pos hd,hd]
     have:=m2 e.src ((p2 e.src).2 ⟨e,e1,hd,rfl⟩)
     omega
    ·rw[if_neg (old e.dst hd).2]
     exact he e e1 hd
   ·rcases split z z1 with hd | hd
    ·subst hd
     rw[val z nin.1,if_pos rfl]
     refine⟨by omega,?_,?_⟩
     ·rcases m3 with m3 | ⟨p,hp,m3⟩
      ·exact .inl (by omega)
      ·obtain⟨e,e1,e2,e3⟩:=(p2 p).1 hp
       obtain⟨q1,q2,_⟩:=psin p hp
       refine .inr ⟨e,e1,e2,?_⟩
       rw[e3,val p q1.1,if_neg q2,m3]
     ·by_cases hc:mo<m+fat g.work z
      ·rw[decide_eq_true hc];exact Int.le_refl _
      ·rw[decide_eq_false hc];simp only[cond_false];omega
    ·obtain⟨o1,o2⟩:=old z hd
     obtain⟨n1,n2,n3⟩:=hn z hd
     rw[val z o1,if_neg o2]
     refine⟨n1,?_,?_⟩
     ·rcases n2 with n2 | ⟨e,e1,e2,e3⟩
      ·exact .inl n2
      ·have so:=srcOld e e1 (by obtain⟨j,j1,j2⟩:=hd;exact⟨j,by omega,by rw[e2];exact j2⟩)
       obtain⟨s0,s1⟩:=old e.src so
       exact .inr ⟨e,e1,e2,by rw[val e.src s0,if_neg s1];exact e3⟩
     ·by_cases hc:mo<m+fat g.work n
      ·rw[decide_eq_true hc];simp only[cond_true];omega
      ·rw[decide_eq_false hc];simp only[cond_false];omega
   ·by_cases hc:mo<m+fat g.work n
    ·rw[decide_eq_true hc]
     exact .inr ⟨n,⟨i,by omega,hx⟩,by rw[val n nin.1,if_pos rfl];rfl⟩
    ·rw[decide_eq_false hc]
     rcases hm with hm | ⟨z,⟨j,j1,j2⟩,hm⟩
     ·exact .inl hm
     ·obtain⟨o1,o2⟩:=old z ⟨j,j1,j2⟩
      exact .inr ⟨z,⟨j,by omega,j2⟩,by rw[val z o1,if_neg o2];exact hm⟩
   ·rw[val z z1.1]
    split
    ·omega
    ·have:=hb z z1;omega
 have rep:∀z,fat (List.replicate g.work.length (0:Int)) z=0:=fun z=>by
  unfold fat
  rw[List.getElem?_replicate]
  by_cases hc:z.toNat<g.work.length
  ·rw[if_pos hc]
  ·rw[if_neg hc]
 obtain⟨F,M,k1,k2⟩:=key l.length 0 (List.replicate g.work.length 0) 0 (by omega) (by simp) (fun z _ _=>rep z) (fun e _ ⟨j,j1,_⟩=>by omega) (fun z ⟨j,j1,_⟩=>by omega) (.inl rfl) (fun z _=>by rw[rep];omega)
 refine⟨F,M,?_,k2⟩
 unfold Zmd
 rw[decide_eq_true (show(0:Int)<=(g.work.length:Int) by omega),decide_eq_true (show(g.work.length:Int)<=lim by show(g.work.length:Int)<=1073741824;omega),beq_self_eq_true]
 simp only[decide_true,Bool.and_true,cond_true,Int.toNat_natCast,h1,Option.bind_some]
 have k1:lp (Zgw g l) (0,0,List.replicate g.work.length 0)=some M:=k1
 rw[k1]
 rfl
def mxF (_:Nat) (m p:Int):Int:=bif decide (m<p) then p else m
theorem ZD0 (l:List Int) (i:Nat) (m:Int):m<=Zc8 mxF i m l/\(∀p∈l,p<=Zc8 mxF i m l)/\(Zc8 mxF i m l=m∨∃p∈l,Zc8 mxF i m l=p):=Ztw (fun z=>z) l i m
theorem ZG7 (x:Int) (t:List Int) (hl:t.length<=1000) (h1:1<=x):ZcM (x :: t)=some (Zc8 mxF 0 0 (x :: t)):=by
 have l1:=(ZgO t (Zbq (x :: t)) (fun i m=>(m,((i+1:Nat):Int))) mxF id (fun _ _=>True) (fun i y m hi hy _=>by
  refine⟨?_,trivial⟩
  have hi2:i+1<(x :: t).length:=by simp;omega
  have hy2:(x :: t)[i+1]? = some y:=by simpa using hy
  simp only[Zbq,ZcG hi2,cond_true,ZU hy2,Option.bind_some,ZJ hi2 (show(x :: t).length<9223372036854775808 by simp;omega)]
  rfl) (fun m _=>by
  have e:((t.length+1:Nat):Int)=((x :: t).length:Int):=by simp
  simp only[Zbq,e,Zdn,cond_false];rfl) x trivial).1
 obtain⟨m1,m2,m3⟩:=ZD0 t 0 x
 obtain⟨n1,n2,n3⟩:=ZD0 (x :: t) 0 0
 generalize Zc8 mxF 0 x t=r at l1 m1 m2 m3
 generalize Zc8 mxF 0 0 (x :: t)=q at n1 n2 n3
 have rq:r=q:=by
  have a:r<=q:=by
   rcases m3 with m3 | ⟨p,hp,m3⟩
   ·have:=n2 x (by simp);omega
   ·have:=n2 p (by simp[hp]);omega
  have b:q<=r:=by
   rcases n3 with n3 | ⟨p,hp,n3⟩
   ·omega
   ·rcases List.mem_cons.1 hp with hp | hp
    ·omega
    ·have:=m2 p hp;omega
  omega
 have l1':lp (Zbq (x :: t)) (x,1)=some r:=l1
 have c0:decide (((x :: t).length:Int)<1)=false:=decide_eq_false (by simp;omega)
 have g0:Zz (x :: t) 0=some x:=rfl
 unfold ZcM
 rw[c0,g0]
 simp only[cond_false,Option.bind_some,l1',rq]
theorem ZGg {d:Zq} (hz:ZjT d):(∃s:Zf,Zfp d=some (s,(Zuc d).2)/\(Zuc d).2≠0) ∨
  (Zuc d=(Zgx d,0)/\Zid d=0/\Zjc (Zgx d).dag=0/\∃(F:Int->Int) (M r:Int),Far (Zgx d).dag F M/\Zfp d=some (⟨(Zgx d).dag.work.sum,M,r,d.deadline,d.period⟩,0)):=by
 unfold Zfp
 simp only[ZFD hz,Option.bind_some]
 rcases Zy3 d with⟨h1,h2,h3⟩ | ⟨h1,h2⟩
 ·right
  have g:=ZxF h2
  have hG:=(ZnT h3).1
  obtain⟨F,M,l1,hF⟩:=ZHF h3
  have hpl:=g.pl
  have hp1:=g.p1
  have hbl:=g.bl
  have ge:∀x∈(Zgx d).dag.work,1<=x:=ZBs g
  have len:(Zgx d).dag.work.length=d.parts.length+d.futures.length+d.barriers.length:=ZzC g
  have hwl:=hG.wl
  have mo:ZcM (Zgx d).dag.work=some (Zc8 mxF 0 0 (Zgx d).dag.work):=by
   cases hw:(Zgx d).dag.work with
   | nil=>rw[hw,List.length_nil] at len;omega
   | cons x t=>
    rw[hw,List.length_cons] at hwl
    exact ZG7 x t (by omega) (ge x (by rw[hw];simp))
  refine⟨h1,h2,h3,F,M,Zc8 mxF 0 0 (Zgx d).dag.work,hF,?_⟩
  rw[h1]
  simp only[bne_self_eq_false,cond_false,Zzx h3,l1,mo,Option.bind_some]
 ·left
  have hne:((Zuc d).2 != 0)=true:=by rw[bne,beq_false_of_ne h2];rfl
  rw[hne]
  simp only[cond_true]
  exact⟨_,rfl,h2⟩
open Go Go.Proofs.YtmnglncebfabpaaGreatDoorE Go.Sort
def Zoh (l:List Zf) (z:Int):Int:=match l[z.toNat]? with | some s=>s.total | none=>0
def ahead (l:List Zf) (x y:Int):Prop:=Zoh l y<Zoh l x∨(Zoh l x=Zoh l y/\x<y)
def ZzA (l:List Zf) (x y:Int):Int:=if Zoh l y<Zoh l x then -1 else if Zoh l x<Zoh l y then 1 else x-y
theorem ZDa (l:List Zf) (x y:Int):ltC (ZzA l) x y=true↔ahead l x y:=by
 unfold ltC ZzA ahead
 rw[decide_eq_true_eq]
 split
 ·omega
 ·split<;>omega
theorem Zwv (l:List Zf) (x y:Int):ltC (ZzA l) x y=false↔¬ahead l x y:=by rw[<- ZDa];simp
theorem ZFA (l:List Zf):SWO (ltC (ZzA l)):=by
 refine⟨fun x=>?_,fun x y z h1 h2=>?_,fun x y z h1 h2=>?_⟩
 ·rw[Zwv];unfold ahead;omega
 ·rw[ZDa] at *;unfold ahead at *;omega
 ·rw[Zwv] at *;unfold ahead at *;omega
def InL (l:List Zf) (z:Int):Prop:=0<=z/\z.toNat<l.length
theorem ZIu {l:List Zf}{z:Int} (h:InL l z):∃s,Zz l z=some s/\l[z.toNat]? = some s/\Zoh l z=s.total:=by
 refine⟨l[z.toNat]'h.2,?_,List.getElem?_eq_getElem h.2,?_⟩
 ·have:=ZU (List.getElem?_eq_getElem h.2)
  rwa [Int.toNat_of_nonneg h.1] at this
 ·unfold Zoh;rw[List.getElem?_eq_getElem h.2]
theorem ZFZ (l:List Zf) (hl:l.length<=1000):ZuK (fun z0 z1=>ZC z0 z1 l) (ZzA l) (InL l):=by
 intro x y hx hy
 obtain⟨s,s1,_,s2⟩:=ZIu hx
 obtain⟨t,t1,_,t2⟩:=ZIu hy
 have hx2:=hx.2
 have hy2:=hy.2
 have hx1:=hx.1
 have hy1:=hy.1
 show ZC x y l=some (ZzA l x y)
 unfold ZC ZzA
 rw[s1,t1,s2,t2]
 simp only[Option.bind_some]
 by_cases h1:t.total<s.total
 ·rw[decide_eq_true h1,if_pos h1];rfl
 ·rw[decide_eq_false h1,if_neg h1]
  by_cases h2:s.total<t.total
  ·rw[decide_eq_true h2,if_pos h2];rfl
  ·rw[decide_eq_false h2,if_neg h2,Zac (by omega) (by omega)];rfl
def ZpE:Nat->Nat->List Int
 | _,0=>[]
 | i,k+1=>(i:Int) :: ZpE (i+1) k
theorem Zqd (z:Int):∀(k i:Nat),z∈ZpE i k↔(i:Int)<=z/\z<(i:Int)+k
 | 0,i=>by simp only[ZpE,List.not_mem_nil,false_iff];omega
 | k+1,i=>by
  simp only[ZpE,List.mem_cons,Zqd z k (i+1)]
  omega
theorem ZuY:∀(k i:Nat),(ZpE i k).Pairwise (fun x y=>x<y)
 | 0,i=>List.Pairwise.nil
 | k+1,i=>by
  unfold ZpE
  rw[List.pairwise_cons]
  refine⟨fun z hz=>?_,ZuY k (i+1)⟩
  have:=(Zqd z k (i+1)).1 hz
  omega
theorem Zt7:∀(k i:Nat),(ZpE i k).length=k
 | 0,_=>rfl
 | k+1,i=>by unfold ZpE;rw[List.length_cons,Zt7 k]
structure Zie (l:List Zf) (r:List Int):Prop where
 perm:r.Perm (ZpE 0 l.length)
 rise:r.Pairwise (ahead l)
theorem Zie.mem {l:List Zf}{r:List Int} (h:Zie l r) (z:Int):z∈r↔InL l z:=by
 rw[h.perm.mem_iff,Zqd]
 unfold InL
 omega
theorem Zie.len {l:List Zf}{r:List Int} (h:Zie l r):r.length=l.length:=by rw[h.perm.length_eq,Zt7]
theorem Zie.nodup {l:List Zf}{r:List Int} (h:Zie l r):r.Nodup:=h.rise.imp fun {x y} hp he=>by
 subst he
 unfold ahead at hp
 omega
theorem ZBU (l:List Zf) (hl:l.length<=1000):∃r,Zgg l=some r/\Zie l r:=by
 have loop:∀(k i:Nat) (s:List Int),i+k=l.length->s.length<=i->lp (ZeX l) ((i:Int),s)=some (s++ZpE i k):=by
  intro k
  induction k with
  | zero=>
   intro i s hi hs
   have:i=l.length:=by omega
   subst this
   rw[Zaj]
   simp only[ZeX,Zdn,cond_false,ZpE,List.append_nil]
  | succ k ih=>
   intro i s hi hs
   have hi':i<l.length:=by omega
   rw[Zaj]
   simp only[ZeX,ZcG hi',cond_true,ZgB (show s.length+1<=1073741824 by omega),ZJ hi' (show l.length<9223372036854775808 by omega)]
   rw[ih (i+1) (s++[(i:Int)]) (by omega) (by rw[List.length_append,List.length_singleton];omega)]
   simp[ZpE]
 have k0:lp (ZeX l) (0,[])=some (ZpE 0 l.length):=loop l.length 0 [] (by omega) (by simp)
 obtain⟨r,h1,h2,h3⟩:=ZD6 (ZFZ l hl) (ZFA l) (ZpE 0 l.length) (by rw[Zt7];exact hl) (fun x hx=>by
  have:=(Zqd x l.length 0).1 hx
  unfold InL
  omega)
 refine⟨r,?_,h2,?_⟩
 ·unfold Zgg
  rw[k0,Option.bind_some,h1]
  rfl
 ·have nd:r.Pairwise (fun x y=>x≠y):=(h2.pairwise_iff (fun h=>Ne.symm h)).2 ((ZuY l.length 0).imp fun h=>by omega)
  refine(h3.and nd).imp fun {x y} hp=>?_
  have h4:=(Zwv l y x).1 hp.1
  have h5:=hp.2
  unfold ahead at *
  omega
noncomputable def okS (s:Zf):Bool:=ZdM s&&decide (s.total<=s.deadline)
theorem ZHx (s:Zf):Zda s=some (!(okS s)):=by
 unfold Zda okS
 rw[ZpF]
 cases h:ZdM s with
 | false=>rfl
 | true=>
  rw[ZwF s h]
  have e:decide (s.deadline<s.total) = !decide (s.total<=s.deadline):=by rw[<- decide_not];exact decide_eq_decide.2 (by omega)
  simp only[cond_true,Option.bind_some,bne_self_eq_false,cond_false,e]
  cases decide (s.total<=s.deadline)<;>rfl
noncomputable def ZfZ (l:List Zf):Bool:=!decide ((8:Int)<(l.length:Int)) && !(l.any fun s=>!(okS s))
theorem ZAp (l:List Zf) (hl:l.length<=1000):ZgU l=some (bif ZfZ l then 0 else 150):=by
 have key:Zbl l (fun z0=>Zda z0)=some (l.any fun s=>!(okS s)):=by
  unfold Zbl ZcK
  rw[Zgz l (ZaO l (fun z0=>Zda z0)) (fun _ s=>!(okS s)) (fun i _=>.inl (i:Int)) (.inr ()) (fun i x hi hx=>by
   simp only[ZaO,ZcG hi,ZU hx,Option.bind_some,ZHx,ZJ hi (show l.length<9223372036854775808 by omega),cond_true]
   cases okS x<;>rfl) (by simp only[ZaO,Zdn];rfl)]
  rcases ZoD (fun s=>!(okS s)) () l 0 with⟨j,e1,e2⟩ | ⟨e1,e2⟩
  ·rw[e1,e2]
   show(bif decide ((0:Int)<=(j:Int)) then some true else some false)=some true
   rw[decide_eq_true (by omega)]
   rfl
  ·rw[e1,e2]
   rfl
 unfold ZgU ZfZ
 rw[key]
 cases decide ((8:Int)<(l.length:Int)) with
 | true=>rfl
 | false=>cases (l.any fun s=>!(okS s))<;>rfl
theorem Ze5 {l:List Zf} (h:ZfZ l=true):l.length<=8/\∀s∈l,Zg7 s/\s.total<=s.deadline:=by
 unfold ZfZ at h
 simp only[Bool.and_eq_true,Bool.not_eq_true',decide_eq_false_iff_not] at h
 refine⟨by omega,fun s hs=>?_⟩
 have:=List.any_eq_false.1 h.2 s hs
 simp only[Bool.not_eq_true',Bool.not_eq_false] at this
 unfold okS at this
 simp only[Bool.and_eq_true,decide_eq_true_eq] at this
 exact⟨ZlV this.1,this.2⟩
def ZgC (t:Int) (s:Zf):Int:=if t<s.deadline then 0 else s.total*((t-s.deadline) / s.period+1)
def ZmL (t:Int) (s:Zf):Int:=if t<s.deadline then s.most else 0
def dem (t:Int):List Zf->Int
 | []=>0
 | s :: l=>ZgC t s+dem t l
def blk (t:Int):List Zf->Int
 | []=>0
 | s :: l=>max (ZmL t s) (blk t l)
def hor:List Zf->Int
 | []=>0
 | s :: l=>max s.period (hor l)
theorem ZwY (l:List Zf) (hl:l.length<=8) (b:Int->Zf->Option Int) (F:Int->Zf->Int) (h:∀n s,s∈l->0<=n->n<=1152921504606846976->b n s=some (F n s)/\0<=F n s/\F n s<=n+18014398509481984):ZgY l b=some (l.foldl F 0):=by
 have key:=Zr3 l (ZdU l b) (fun i (n:Int)=>(n,(i:Int))) (fun i x n=>(b n x).map Sum.inl) (fun n=>some n) (fun i x n hi hx=>by
   simp only[ZdU,ZcG hi,ZU hx,Option.bind_some,ZJ hi (show l.length<9223372036854775808 by omega),cond_true]
   cases b n x<;>rfl) (fun n=>by simp only[ZdU,Zdn];rfl) 0
 have sc:∀(m:List Zf) (i:Nat) (n:Int),(∀s∈m,s∈l)->0<=n->n+18014398509481984*m.length<=1152921504606846976->ZoE (fun(_:Nat) x n=>(b n x).map (Sum.inl:Int->Int⊕Int)) (fun n=>some n) i m n=some (m.foldl F n):=by
  intro m
  induction m with
  | nil=>intro i n _ _ _;rfl
  | cons x m ih=>
   intro i n hm h0 hn
   rw[List.length_cons] at hn
   obtain⟨h1,h2,h3⟩:=h n x (hm x (by simp)) h0 (by omega)
   unfold ZoE
   rw[h1]
   exact ih (i+1) (F n x) (fun s hs=>hm s (by simp[hs])) h2 (by omega)
 have key2:lp (ZdU l b) (0,0)=_:=key
 unfold ZgY
 rw[key2,sc l 0 0 (fun s h=>h) (by omega) (by omega)]
 rfl
theorem Zqr (g:Zf->Int) (f:List Zf->Int) (h0:f []=0) (h1:∀s l,f (s :: l)=g s+f l):∀(l:List Zf) (n:Int),l.foldl (fun n s=>n+g s) n=n+f l
 | [],n=>by rw[h0];simp
 | s :: l,n=>by
  rw[List.foldl_cons,Zqr g f h0 h1 l,h1]
  omega
theorem Zqx (g:Zf->Int) (f:List Zf->Int) (h0:f []=0) (h1:∀s l,f (s :: l)=max (g s) (f l)):∀(l:List Zf) (n:Int),0<=n->l.foldl (fun n s=>max n (g s)) n=max n (f l)
 | [],n,hn=>by rw[h0];simp;omega
 | s :: l,n,hn=>by
  rw[List.foldl_cons,Zqx g f h0 h1 l _ (by omega),h1]
  omega
theorem ZpL {s:Zf} (o:Zg7 s) {t:Int} (h1:1<=t) (h2:t<=4096):0<=ZgC t s/\ZgC t s<=33554432:=by
 have:=o.t1;have:=o.t2;have:=o.d1;have:=o.d2
 unfold ZgC
 split
 ·omega
 ·have q1:0<=(t-s.deadline) / s.period:=Int.ediv_nonneg (by omega) (by omega)
  have q2:(t-s.deadline) / s.period<=t-s.deadline:=Int.ediv_le_self _ (by omega)
  constructor
  ·exact Int.mul_nonneg (by omega) (by omega)
  ·have:s.total*((t-s.deadline) / s.period+1)<=4096*8192:=Int.mul_le_mul (by omega) (by omega) (by omega) (by omega)
   omega
theorem ZC3 (l:List Zf) (h:ZfZ l=true) (t:Int) (h1:1<=t) (h2:t<=4096):Ze8 l t=some (dem t l):=by
 obtain⟨hl,ho⟩:=Ze5 h
 have key:=ZwY l hl (fun z0 z1=>Zcn z0 z1 t) (fun n s=>n+ZgC t s) (fun n s hs hn hn2=>by
  have o:=(ho s hs).1
  obtain⟨b1,b2⟩:=ZpL o h1 h2
  have:=o.t1;have:=o.t2;have:=o.d1;have:=o.d2;have:=o.p
  refine⟨?_,by omega,by omega⟩
  show Zcn n s t=some (n+ZgC t s)
  unfold Zcn
  unfold ZgC at b1 b2 ⊢
  by_cases hd:t<s.deadline
  ·rw[decide_eq_true hd,if_pos hd,Int.add_zero];rfl
  ·rw[decide_eq_false hd,if_neg hd]
   rw[if_neg hd] at b1 b2
   have q1:0<=(t-s.deadline) / s.period:=Int.ediv_nonneg (by omega) (by omega)
   have q2:(t-s.deadline) / s.period<=t-s.deadline:=Int.ediv_le_self _ (by omega)
   have e1:w64 (t-s.deadline)=t-s.deadline:=Zac (by omega) (by omega)
   have e2:w64 (Int.tdiv (t-s.deadline) s.period)=(t-s.deadline) / s.period:=by
    rw[Int.tdiv_eq_ediv_of_nonneg (by omega)]
    exact Zac (by omega) (by omega)
   have e3:w64 ((t-s.deadline) / s.period+1)=(t-s.deadline) / s.period+1:=Zac (by omega) (by omega)
   have e4:w64 (s.total*((t-s.deadline) / s.period+1))=s.total*((t-s.deadline) / s.period+1):=Zac (by omega) (by omega)
   have e5:w64 (n+s.total*((t-s.deadline) / s.period+1))=n+s.total*((t-s.deadline) / s.period+1):=Zac (by omega) (by omega)
   simp only[cond_false,show(s.period==0)=false by simp;omega,e1,e2,e3,e4,e5])
 unfold Ze8
 rw[key,Zqr (ZgC t) (dem t) rfl (fun _ _=>rfl),Int.zero_add]
 rfl
theorem ZzV (l:List Zf) (h:ZfZ l=true) (t:Int):ZhT l t=some (blk t l):=by
 obtain⟨hl,ho⟩:=Ze5 h
 have key:=ZwY l hl (fun z0 z1=>Zfo z0 z1 t) (fun n s=>max n (ZmL t s)) (fun n s hs hn hn2=>by
  have o:=(ho s hs).1
  have:=o.m1;have:=o.m2;have:=o.l2;have:=o.t2
  show Zfo n s t=some (max n (ZmL t s))/\_
  unfold Zfo ZmL
  by_cases hd:t<s.deadline
  ·rw[decide_eq_true hd,if_pos hd]
   refine⟨?_,by omega,by omega⟩
   by_cases hm:n<s.most
   ·rw[decide_eq_true hm,show max n s.most=s.most by omega];rfl
   ·rw[decide_eq_false hm,show max n s.most=n by omega];rfl
  ·rw[decide_eq_false hd,if_neg hd]
   refine⟨?_,by omega,by omega⟩
   rw[show max n (0:Int)=n by omega]
   rfl)
 have hb:∀m:List Zf,0<=blk t m:=fun m=>by
  induction m with
  | nil=>exact Int.le_refl _
  | cons s m ih=>unfold blk;omega
 unfold ZhT
 rw[key,Zqx (ZmL t) (blk t) rfl (fun _ _=>rfl) l 0 (Int.le_refl _),show max (0:Int) (blk t l)=blk t l by have:=hb l;omega]
 rfl
theorem Zqj (l:List Zf) (h:ZfZ l=true):ZiM l=some (hor l):=by
 obtain⟨hl,ho⟩:=Ze5 h
 have key:=ZwY l hl (fun z0 z1=>Zdr z0 z1) (fun n s=>max n s.period) (fun n s hs hn hn2=>by
  have o:=(ho s hs).1
  have:=o.p;have:=o.d1;have:=o.d2
  show Zdr n s=some (max n s.period)/\_
  unfold Zdr
  refine⟨?_,by omega,by omega⟩
  by_cases hm:n<s.period
  ·rw[decide_eq_true hm,show max n s.period=s.period by omega];rfl
  ·rw[decide_eq_false hm,show max n s.period=n by omega];rfl)
 have hb:∀m:List Zf,0<=hor m:=fun m=>by
  induction m with
  | nil=>exact Int.le_refl _
  | cons s m ih=>unfold hor;omega
 unfold ZiM
 rw[ZAp l (by omega),h]
 simp only[cond_true,Option.bind_some,bne_self_eq_false,cond_false]
 rw[key,Zqx (fun s=>s.period) hor rfl (fun _ _=>rfl) l 0 (Int.le_refl _),show max (0:Int) (hor l)=hor l by have:=hb l;omega]
 rfl
theorem ZG5 {l:List Zf} (h:∀s∈l,Zg7 s/\s.total<=s.deadline):hor l<=4096:=by
 induction l with
 | nil=>unfold hor;omega
 | cons s l ih=>
  have:=ih fun x hx=>h x (by simp[hx])
  have:=(h s (by simp)).1.p
  unfold hor
  omega
def ZBg (l:List Zf) (s:Zf) (t:Int):Prop:=∀k:Nat,t+k*s.period<=hor l->dem (t+k*s.period) l+blk (t+k*s.period) l<=t+k*s.period
def ZsZ (l:List Zf):Prop:=ZfZ l=true/\∀s∈l,ZBg l s s.deadline
noncomputable def ZsF (l:List Zf):Bool:=@decide (ZsZ l) (Classical.propDecidable _)
theorem ZlN (l:List Zf):ZsF l=true↔ZsZ l:=by unfold ZsF;exact @decide_eq_true_iff _ (Classical.propDecidable _)
noncomputable def ZpA (l:List Zf) (s:Zf):Bool:=@decide (¬ZBg l s s.deadline) (Classical.propDecidable _)
theorem ZyN {l:List Zf} (h:ZfZ l=true) {t:Int} (h1:1<=t) (h2:t<=4096):0<=dem t l/\dem t l<=33554432*l.length/\0<=blk t l/\blk t l<=4096:=by
 have ho:=(Ze5 h).2
 clear h
 induction l with
 | nil=>unfold dem blk;simp
 | cons s l ih=>
  obtain⟨a1,a2,a3,a4⟩:=ih fun x hx=>ho x (by simp[hx])
  have o:=(ho s (by simp)).1
  obtain⟨b1,b2⟩:=ZpL o h1 h2
  have:=o.m1;have:=o.m2;have:=o.l2;have:=o.t2
  have c:0<=ZmL t s/\ZmL t s<=4096:=by unfold ZmL;split<;>omega
  unfold dem blk
  rw[List.length_cons]
  omega
theorem ZGf (l:List Zf) (h:ZfZ l=true) (s:Zf) (hs:s∈l):∀(m:Nat) (t:Int),1<=t->t<=8192->4096-t<(m:Int)->∃r,lp (Zgv l s) t=some r/\(r = .inr ()/\ZBg l s t∨r = .inl ()/\¬ZBg l s t):=by
 obtain⟨hl,ho⟩:=Ze5 h
 have o:=(ho s hs).1
 have hh:=ZG5 ho
 have:=o.p;have:=o.d1;have:=o.d2
 intro m
 induction m with
 | zero=>
  intro t h1 h2 hm
  rw[Zaj]
  simp only[Zgv,Zqj l h,Option.bind_some,decide_eq_false (show ¬t<=hor l by omega),cond_false]
  refine⟨_,rfl,.inl ⟨rfl,fun k hk=>?_⟩⟩
  have:0<=(k:Int)*s.period:=Int.mul_nonneg (by omega) (by omega)
  omega
 | succ m ih=>
  intro t h1 h2 hm
  rw[Zaj]
  by_cases ht:t<=hor l
  ·have t4:t<=4096:=by omega
   obtain⟨a1,a2,a3,a4⟩:=ZyN h h1 t4
   have e1:w64 (dem t l+blk t l)=dem t l+blk t l:=Zac (by omega) (by omega)
   have e2:w64 (t+s.period)=t+s.period:=Zac (by omega) (by omega)
   simp only[Zgv,Zqj l h,Option.bind_some,decide_eq_true ht,cond_true,ZC3 l h t h1 t4,ZzV l h t,e1,e2]
   by_cases hv:t<dem t l+blk t l
   ·rw[decide_eq_true hv]
    refine⟨_,rfl,.inr ⟨rfl,fun hk=>?_⟩⟩
    have:=hk 0 (by simpa using ht)
    simp only[Int.natCast_zero,Int.zero_mul,Int.add_zero] at this
    omega
   ·rw[decide_eq_false hv]
    simp only[cond_false]
    obtain⟨r,r1,r2⟩:=ih (t+s.period) (by omega) (by omega) (by omega)
    have key:ZBg l s t↔ZBg l s (t+s.period):=by
     constructor
     ·intro hk k hk2
      have e:t+s.period+(k:Int)*s.period=t+((k+1:Nat):Int)*s.period:=by
       rw[Int.natCast_add,Int.add_mul];omega
      rw[e] at hk2 ⊢
      exact hk (k+1) hk2
     ·intro hk k hk2
      cases k with
      | zero=>
       simp only[Int.natCast_zero,Int.zero_mul,Int.add_zero]
       omega
      | succ k=>
       have e:t+s.period+(k:Int)*s.period=t+((k+1:Nat):Int)*s.period:=by
        rw[Int.natCast_add,Int.add_mul];omega
       have:=hk k
       rw[e] at this
       exact this hk2
    exact⟨r,r1,by rw[key];exact r2⟩
  ·simp only[Zgv,Zqj l h,Option.bind_some,decide_eq_false ht,cond_false]
   refine⟨_,rfl,.inl ⟨rfl,fun k hk=>?_⟩⟩
   have:0<=(k:Int)*s.period:=Int.mul_nonneg (by omega) (by omega)
   omega
theorem ZDZ (l:List Zf) (hl:l.length<=1000):Ziy l=some (ZsF l):=by
 unfold Ziy
 rw[ZAp l hl]
 cases h:ZfZ l with
 | false=>
  have:ZsF l=false:=by
   cases hf:ZsF l with
   | false=>rfl
   | true=>have:=((ZlN l).1 hf).1;rw[h] at this;cases this
  rw[this]
  rfl
 | true=>
  obtain⟨hl8,ho⟩:=Ze5 h
  have key:=Zgz l (Zhv l) (fun _ s=>ZpA l s) (fun _ _=>.inl ()) (.inr ()) (fun i x hi hx=>by
   have hm:=List.mem_of_getElem? hx
   have o:=(ho x hm).1
   have:=o.p;have:=o.d1;have:=o.d2
   obtain⟨r,r1,r2⟩:=ZGf l h x hm 4097 x.deadline o.d1 (by omega) (by omega)
   simp only[Zhv,ZcG hi,ZU hx,Option.bind_some,ZJ hi (show l.length<9223372036854775808 by omega),cond_true,r1]
   rcases r2 with⟨rfl,hk⟩ | ⟨rfl,hk⟩
   ·rw[show ZpA l x=false by unfold ZpA;exact @decide_eq_false _ (Classical.propDecidable _) (fun h=>h hk)];rfl
   ·rw[show ZpA l x=true by unfold ZpA;exact @decide_eq_true _ (Classical.propDecidable _) hk];rfl) (by simp only[Zhv,Zdn];rfl)
  rw[Zeh,Zlt] at key
  simp only[cond_true,Option.bind_some,bne_self_eq_false,cond_false,key]
  have e:ZsF l = !(l.any (ZpA l)):=by
   rw[Bool.eq_iff_iff,ZlN,Bool.not_eq_true',List.any_eq_false]
   constructor
   ·rintro ⟨_,hk⟩ s hs hlate
    unfold ZpA at hlate
    exact(@of_decide_eq_true _ (Classical.propDecidable _) hlate) (hk s hs)
   ·intro hk
    refine⟨h,fun s hs=>?_⟩
    have:=hk s hs
    unfold ZpA at this
    exact Classical.not_not.1 fun hn=>this (@decide_eq_true _ (Classical.propDecidable _) hn)
  rw[e]
  cases l.any (ZpA l)<;>rfl
theorem Zxv:ZsF []=true:=by
 rw[ZlN]
 refine⟨by unfold ZfZ;rfl,fun s hs=>by cases hs⟩
def on (l:List Zf) (at_:List Int) (core:Int):List Zf:=((l.zip at_).filter fun p=>p.2==core).map Prod.fst
theorem ZH7 (l:List Zf) (at_:List Int) (core:Int):(on l at_ core).length<=l.length:=by
 unfold on
 rw[List.length_map]
 refine Nat.le_trans (List.length_filter_le _ _) ?_
 rw[List.length_zip]
 omega
theorem ZKk (l:List Zf) (hl:l.length<=1000) (at_:List Int) (core:Int):ZnU l at_ core=some (on l at_ core):=by
 have key:∀(k i:Nat) (s:List Zf),i+k=l.length->s.length<=i->lp (Zga l at_ core) ((i:Int),s)=some (s++on (l.drop i) (at_.drop i) core):=by
  intro k
  induction k with
  | zero=>
   intro i s hi hs
   have:i=l.length:=by omega
   subst this
   rw[Zaj,List.drop_length]
   simp only[Zga,Zdn,cond_false]
   simp[on]
  | succ k ih=>
   intro i s hi hs
   have hi':i<l.length:=by omega
   rw[Zaj,List.drop_eq_getElem_cons hi']
   have w:=ZJ hi' (show l.length<9223372036854775808 by omega)
   by_cases ha:i<at_.length
   ·rw[List.drop_eq_getElem_cons ha]
    simp only[Zga,ZcG hi',ZU (List.getElem?_eq_getElem hi'),Option.bind_some,cond_true,ZcG ha,ZU (List.getElem?_eq_getElem ha),ZgB (show s.length+1<=1073741824 by omega),w]
    unfold on
    rw[List.zip_cons_cons,List.filter_cons]
    cases at_[i]==core with
    | true=>
     simp only[cond_true,if_true,List.map_cons]
     rw[ih (i+1) (s++[l[i]]) (by omega) (by rw[List.length_append,List.length_singleton];omega)]
     unfold on
     simp
    | false=>
     simp only[cond_false,Bool.false_eq_true,if_false]
     rw[ih (i+1) s (by omega) (by omega)]
     rfl
   ·simp only[Zga,ZcG hi',ZU (List.getElem?_eq_getElem hi'),Option.bind_some,cond_true,decide_eq_false (show ¬(i:Int)<(at_.length:Int) by omega),cond_false,w]
    rw[ih (i+1) s (by omega) (by omega),show at_.drop i=[] by simp;omega,show at_.drop (i+1)=[] by simp;omega]
    simp[on]
 have k0:=key l.length 0 [] (by omega) (by simp)
 rw[List.drop_zero,List.drop_zero,List.nil_append] at k0
 have k1:lp (Zga l at_ core) (0,[])=_:=k0
 unfold ZnU
 rw[k1]
 rfl
theorem Zwp (l:List Zf) (at_:List Int) (core:Int) (h:∀x∈at_,x≠core):on l at_ core=[]:=by
 unfold on
 rw[List.filter_eq_nil_iff.2 (fun p hp=>by
  have:=h p.2 (List.of_mem_zip hp).2
  simpa using this)]
 rfl
theorem ZC0 (core c:Int) (hc:c≠core):∀(l:List Zf) (at_:List Int) (i:Nat),(∀x,at_[i]? = some x->x≠core)->on l (at_.set i c) core=on l at_ core
 | [],_,_,_=>by simp[on]
 | s :: l,[],i,h=>by simp[on]
 | s :: l,x :: at_,0,h=>by
  have hx:=h x rfl
  simp[on,hx,hc]
 | s :: l,x :: at_,i+1,h=>by
  have ih:=ZC0 core c hc l at_ i (fun y hy=>h y (by simpa using hy))
  unfold on at *
  rw[List.set_cons_succ,List.zip_cons_cons,List.zip_cons_cons,List.filter_cons,List.filter_cons]
  cases hx:(x==core) with
  | true=>simp only[if_true,List.map_cons,ih]
  | false=>simp only[Bool.false_eq_true,if_false,ih]
def Zke (n:Int):Bool:=decide (0<=n)&&decide (n<=8)
theorem ZBK (n:Int):ZiI n=some (Zke n):=by
 unfold ZiI Zke
 cases decide (0<=n)<;>cases decide (n<=8)<;>rfl
structure ZB5 (l:List Zf) (at_:List Int) (c:Int):Prop where
 cc:0<=c/\c<=8
 len:at_.length=l.length
 ok:∀x∈at_,0<=x/\x<c
 fit:∀core:Nat,(core:Int)<c->ZsF (on l at_ core)=true
noncomputable def Zph (l:List Zf) (at_:List Int) (i:Nat) (core:Nat):Bool:=ZsF (on l (at_.set i (core:Int)) (core:Int))
noncomputable def least (l:List Zf) (at_:List Int) (i:Nat):Nat->Nat->Option Nat
 | _,0=>none
 | core,k+1=>bif Zph l at_ i core then some core else least l at_ i (core+1) k
theorem ZAU (l:List Zf) (at_:List Int) (i:Nat) (x:Int) (core:Nat):Zph l (at_.set i x) i core=Zph l at_ i core:=by
 unfold Zph
 rw[List.set_set]
theorem ZvF (l:List Zf) (at_:List Int) (i:Nat) (x:Int):∀(k core:Nat),least l (at_.set i x) i core k=least l at_ i core k
 | 0,_=>rfl
 | k+1,core=>by unfold least;rw[ZAU,ZvF l at_ i x k]
theorem ZtM {l:List Zf}{at_:List Int}{i c:Nat}:∀{k core:Nat},least l at_ i core k=some c->core<=c/\c<core+k/\Zph l at_ i c=true/\∀b,core<=b->b<c->Zph l at_ i b=false
 | 0,_,h=>by cases h
 | k+1,core,h=>by
  unfold least at h
  cases hf:Zph l at_ i core with
  | true=>
   rw[hf] at h
   cases h
   exact⟨Nat.le_refl _,by omega,hf,fun b h1 h2=>by omega⟩
  | false=>
   rw[hf] at h
   obtain⟨h1,h2,h3,h4⟩:=ZtM h
   refine⟨by omega,by omega,h3,fun b hb1 hb2=>?_⟩
   by_cases he:b=core
   ·rw[he];exact hf
   ·exact h4 b (by omega) hb2
noncomputable def ZjQ (l:List Zf) (n:Nat):List Int->List Int->Option (List Int)
 | [],at_=>some at_
 | i :: o,at_=>match least l at_ i.toNat 0 n with | some c=>ZjQ l n o (at_.set i.toNat (c:Int)) | none=>none
theorem ZH5 (l:List Zf) (hl:l.length<=1000) (n:Nat) (hn:n<=8) (i:Int) (hi:0<=i):∀(k core:Nat) (at_:List Int),core+k=n->i.toNat<at_.length->∃r,lp (ZeW l (n:Int) i) ((core:Int),at_)=some r/\(match least l at_ i.toNat core k with | some c=>r = .inl (at_.set i.toNat (c:Int)) | none=>∃m,r = .inr m):=by
 intro k
 induction k with
 | zero=>
  intro core at_ hc ha
  rw[Zaj]
  simp only[ZeW,decide_eq_false (show ¬(core:Int)<(n:Int) by omega),cond_false]
  exact⟨_,rfl,_,rfl⟩
 | succ k ih=>
  intro core at_ hc ha
  rw[Zaj]
  have w:w64 ((core:Int)+1)=((core+1:Nat):Int):=ZJ (show core<100 by omega) (by omega)
  have g:Zz at_ i=some at_[i.toNat]:=by
   have:=ZU (List.getElem?_eq_getElem ha)
   rwa [Int.toNat_of_nonneg hi] at this
  have f:=ZDZ (on l (at_.set i.toNat (core:Int)) (core:Int)) (Nat.le_trans (ZH7 _ _ _) hl)
  simp only[ZeW,decide_eq_true (show(core:Int)<(n:Int) by omega),cond_true,ZjW,g,Option.bind_some,ZKk l hl,f,w]
  unfold least
  rw[show ZsF (on l (at_.set i.toNat (core:Int)) (core:Int))=Zph l at_ i.toNat core from rfl]
  cases Zph l at_ i.toNat core with
  | true=>exact⟨_,rfl,rfl⟩
  | false=>
   obtain⟨r,r1,r2⟩:=ih (core+1) (at_.set i.toNat (core:Int)) (by omega) (by rw[List.length_set];exact ha)
   refine⟨r,r1,?_⟩
   rw[ZvF] at r2
   simp only[cond_false]
   cases hl2:least l at_ i.toNat (core+1) k with
   | some c=>rw[hl2] at r2;simpa [List.set_set] using r2
   | none=>rw[hl2] at r2;exact r2
theorem ZB9 (l:List Zf) (hl:l.length<=1000) (n:Nat) (hn:n<=8) (o:List Int) (hol:o.length<=1000):∀(k j:Nat) (at_:List Int),j+k=o.length->at_.length=l.length->(∀x∈o,InL l x)->∃r,lp (ZeZ l (n:Int) o) ((j:Int),at_)=some r/\(match ZjQ l n (o.drop j) at_ with | some a=>r = .inr a | none=>∃m,r = .inl m):=by
 intro k
 induction k with
 | zero=>
  intro j at_ hj ha ho
  have:j=o.length:=by omega
  subst this
  rw[Zaj,List.drop_length]
  simp only[ZeZ,Zdn,cond_false]
  exact⟨_,rfl,rfl⟩
 | succ k ih=>
  intro j at_ hj ha ho
  have hj':j<o.length:=by omega
  have hx:=ho _ (List.getElem_mem hj')
  obtain⟨r,r1,r2⟩:=ZH5 l hl n hn o[j] hx.1 n 0 at_ (by omega) (by rw[ha];exact hx.2)
  have r1':lp (ZeW l (n:Int) o[j]) (0,at_)=some r:=r1
  rw[Zaj,List.drop_eq_getElem_cons hj']
  simp only[ZeZ,ZcG hj',ZU (List.getElem?_eq_getElem hj'),Option.bind_some,cond_true,r1',ZJ hj' (show o.length<9223372036854775808 by omega)]
  conv=>arg 1;ext;rhs;unfold ZjQ
  cases hl2:least l at_ o[j].toNat 0 n with
  | some c=>
   rw[hl2] at r2
   subst r2
   obtain⟨q,q1,q2⟩:=ih (j+1) (at_.set o[j].toNat (c:Int)) (by omega) (by rw[List.length_set];exact ha) ho
   exact⟨q,q1,q2⟩
  | none=>
   rw[hl2] at r2
   obtain⟨m,rfl⟩:=r2
   exact⟨_,rfl,_,rfl⟩
theorem ZGZ (l:List Zf) (hl:l.length<=1000):lp (ZeT l) (0,List.replicate (l.length:Int).toNat 0)=some (List.replicate l.length (-1)):=by
 have key:∀(k i:Nat),i+k=l.length->lp (ZeT l) ((i:Int),List.replicate i (-1)++List.replicate k 0)=some (List.replicate l.length (-1)):=by
  intro k
  induction k with
  | zero=>
   intro i hi
   have:i=l.length:=by omega
   subst this
   rw[Zaj]
   simp only[ZeT,List.length_replicate,Int.toNat_natCast,Zdn,cond_false]
   simp
  | succ k ih=>
   intro i hi
   have hi':i<l.length:=by omega
   rw[Zaj]
   have g:Zz (List.replicate i (-1:Int)++List.replicate (k+1) 0) (i:Int)=some 0:=ZU (by
    rw[List.getElem?_append_right (by simp)]
    simp)
   have e:List.set (List.replicate i (-1:Int)++List.replicate (k+1) 0) i (-1)=List.replicate (i+1) (-1)++List.replicate k 0:=by
    rw[List.set_append_right _ _ (by simp),List.length_replicate,Nat.sub_self,List.replicate_succ,List.set_cons_zero,List.replicate_succ',List.append_assoc]
    rfl
   simp only[ZeT,List.length_replicate,Int.toNat_natCast,ZcG hi',cond_true,g,Option.bind_some,ZJ hi' (show l.length<9223372036854775808 by omega),e]
   exact ih (i+1) (by omega)
 have:=key l.length 0 (by omega)
 simpa using this
theorem ZGi (l:List Zf) (hl:l.length<=1000) {o:List Int} (ho:Zgg l=some o) (h2:Zie l o) (c:Int) :
  Zh8 l c=some (bif ZfZ l&&Zke c then (match ZjQ l c.toNat o (List.replicate l.length (-1)) with | some a=>(a,(0:Int)) | none=>([],161)) else ([],160)):=by
 unfold Zh8
 rw[ZAp l hl,Option.bind_some,ZBK]
 cases hc:ZfZ l with
 | false=>rfl
 | true=>
  cases h8:Zke c with
  | false=>rfl
  | true=>
   have c8:0<=c/\c<=8:=by
    unfold Zke at h8
    simpa using h8
   have hcond:(decide (0<=(l.length:Int))&&decide ((l.length:Int)<=lim)&&decide ((l.length:Int)==(l.length:Int)))=true:=by
    have:(l.length:Int)<=lim:=by unfold lim;omega
    simp[this]
   obtain⟨r,r1,r2⟩:=ZB9 l hl c.toNat (by omega) o (by rw[h2.len];exact hl) o.length 0 (List.replicate l.length (-1)) (by omega) (by simp) (fun x hx=>(h2.mem x).1 hx)
   rw[Int.toNat_of_nonneg c8.1] at r1
   have r1':lp (ZeZ l c o) (0,List.replicate l.length (-1))=some r:=r1
   rw[hcond]
   simp only[cond_true,bne_self_eq_false,cond_false,Option.bind_some,ZGZ l hl,ho,r1',Bool.and_self]
   rw[List.drop_zero] at r2
   cases hp:ZjQ l c.toNat o (List.replicate l.length (-1)) with
   | some a=>rw[hp] at r2;subst r2;rfl
   | none=>rw[hp] at r2;obtain⟨m,rfl⟩:=r2;rfl
theorem ZtR {l:List Zf}{n:Nat}:∀{o at_ a:List Int},ZjQ l n o at_=some a->a.length=at_.length
 | [],at_,a,h=>by cases h;rfl
 | i :: o,at_,a,h=>by
  unfold ZjQ at h
  cases hl:least l at_ i.toNat 0 n with
  | none=>rw[hl] at h;cases h
  | some c=>
   rw[hl] at h
   have:=ZtR (at_:=at_.set i.toNat (c:Int)) h
   rwa [List.length_set] at this
structure ZDJ (l:List Zf) (n:Nat) (at_:List Int) (o:List Int):Prop where
 len:at_.length=l.length
 fit:∀core:Nat,core<n->ZsF (on l at_ core)=true
 left:∀i∈o,InL l i/\at_[i.toNat]? = some (-1)
 nodup:o.Nodup
 rest:∀(j:Nat) (x:Int),at_[j]? = some x->(0<=x/\x<n)∨(x = -1/\(j:Int)∈o)
theorem ZEx {l:List Zf}{n c:Nat}{at_ o:List Int}{i:Int} (h:ZDJ l n at_ (i :: o)) (hc:least l at_ i.toNat 0 n=some c):ZDJ l n (at_.set i.toNat (c:Int)) o:=by
 obtain⟨_,h2,h3,_⟩:=ZtM hc
 obtain⟨hi,hm⟩:=h.left i (by simp)
 have hnd:=List.nodup_cons.1 h.nodup
 refine⟨by rw[List.length_set];exact h.len,fun core hcore=>?_,fun k hk=>?_,hnd.2,fun j x hx=>?_⟩
 ·by_cases he:core=c
  ·subst he;exact h3
  ·rw[ZC0 (core:Int) (c:Int) (by omega) l at_ i.toNat (fun x hx=>by rw[hm] at hx;cases hx;omega)]
   exact h.fit core hcore
 ·obtain⟨g1,g2⟩:=h.left k (by simp[hk])
  refine⟨g1,?_⟩
  have hne:k≠i:=fun e=>hnd.1 (e ▸ hk)
  rw[List.getElem?_set_ne (by have:=g1.1;have:=hi.1;omega)]
  exact g2
 ·by_cases he:j=i.toNat
  ·subst he
   have hlt:i.toNat<at_.length:=by rw[h.len];exact hi.2
   rw[List.getElem?_set_self hlt] at hx
   cases hx
   left;omega
  ·rw[List.getElem?_set_ne (Ne.symm he)] at hx
   rcases h.rest j x hx with g | ⟨g1,g2⟩
   ·exact .inl g
   ·rcases List.mem_cons.1 g2 with e | e
    ·exact absurd (by omega) he
    ·exact .inr ⟨g1,e⟩
theorem Zz9 {l:List Zf}{n:Nat}:∀{o at_ a:List Int},ZDJ l n at_ o->ZjQ l n o at_=some a->ZDJ l n a []
 | [],at_,a,h,hp=>by cases hp;exact h
 | i :: o,at_,a,h,hp=>by
  unfold ZjQ at hp
  cases hl:least l at_ i.toNat 0 n with
  | none=>rw[hl] at hp;cases hp
  | some c=>
   rw[hl] at hp
   exact Zz9 (ZEx h hl) hp
theorem ZDu {l:List Zf}{o:List Int} (n:Nat) (ho:Zie l o):ZDJ l n (List.replicate l.length (-1)) o:=by
 refine⟨by simp,fun core hc=>?_,fun i hi=>?_,ho.nodup,fun j x hx=>?_⟩
 ·rw[Zwp l _ core (fun x hx=>by have:=(List.mem_replicate.1 hx).2;omega)]
  exact Zxv
 ·have:=(ho.mem i).1 hi
  exact⟨this,by rw[List.getElem?_replicate,if_pos this.2]⟩
 ·rw[List.getElem?_replicate] at hx
  split at hx
  ·rename_i hj
   cases hx
   refine .inr ⟨rfl,(ho.mem _).2 ⟨by omega,by simpa using hj⟩⟩
  ·cases hx
theorem Zw5 {l:List Zf}{o a:List Int}{c:Int} (hc:Zke c=true) (ho:Zie l o) (h:ZjQ l c.toNat o (List.replicate l.length (-1))=some a):ZB5 l a c:=by
 have c8:0<=c/\c<=8:=by unfold Zke at hc;simpa using hc
 have inv:=Zz9 (ZDu c.toNat ho) h
 refine⟨c8,inv.len,fun x hx=>?_,fun core hcore=>inv.fit core (by omega)⟩
 obtain⟨j,hj⟩:=List.getElem?_of_mem hx
 rcases inv.rest j x hj with g | ⟨_,g⟩
 ·omega
 ·cases g
theorem Zrn:((0:Int) != 0)=false:=rfl
theorem ZFl {n:Int} (h:n≠0):(n != 0)=true:=bne_iff_ne.2 h
def Zb3 {α:Type} (f:α->Int):List α->Int
 | []=>0
 | x :: l=>bif f x==0 then Zb3 f l else f x
theorem Zrr {α:Type}{f:α->Int}:∀{l:List α},Zb3 f l=0↔∀x∈l,f x=0
 | []=>by simp[Zb3]
 | x :: l=>by
  unfold Zb3
  by_cases h:f x=0
  ·rw[show(f x==0)=true from beq_iff_eq.2 h,cond_true,Zrr]
   simp[h]
  ·rw[show(f x==0)=false from beq_eq_false_iff_ne.2 h,cond_false]
   simp[h]
noncomputable def Zn2 (d:Zq):Zf×Int:=match Zfp d with | some x=>x | none=>(⟨0,0,0,0,0⟩,1)
theorem ZHq {d:Zq} (hz:ZjT d):Zfp d=some (Zn2 d):=by
 unfold Zn2
 rcases ZGg hz with⟨s,h,_⟩ | ⟨_,_,_,F,M,r,_,h⟩<;>rw[h]
noncomputable def shL (l:List Zq):List Zf:=l.map fun d=>(Zn2 d).1
noncomputable def shE (l:List Zq):Int:=bif Zb3 (fun d=>(Zn2 d).2) l==0 then Zb3 (fun s=>(ZbP s).2) (shL l) else Zb3 (fun d=>(Zn2 d).2) l
theorem Znq {α:Type}{f:α->Int}:∀{l:List α}{x:α},Zb3 f l=0->Zb3 f (l++[x])=f x
 | [],x,_=>by
  show(bif f x==0 then 0 else f x)=f x
  by_cases h:f x=0
  ·rw[h];rfl
  ·rw[show(f x==0)=false from beq_eq_false_iff_ne.2 h];rfl
 | y :: l,x,h=>by
  unfold Zb3 at h
  show(bif f y==0 then Zb3 f (l++[x]) else f y)=f x
  by_cases hy:f y=0
  ·rw[show(f y==0)=true from beq_iff_eq.2 hy,cond_true] at h ⊢
   exact Znq h
  ·rw[show(f y==0)=false from beq_eq_false_iff_ne.2 hy] at h
   exact absurd h hy
theorem ZoT {α:Type}{f:α->Int}:∀{l m:List α},Zb3 f l≠0->Zb3 f (l++m)=Zb3 f l
 | [],m,h=>absurd rfl h
 | y :: l,m,h=>by
  show(bif f y==0 then Zb3 f (l++m) else f y)=(bif f y==0 then Zb3 f l else f y)
  unfold Zb3 at h
  by_cases hy:f y=0
  ·rw[show(f y==0)=true from beq_iff_eq.2 hy,cond_true] at h ⊢
   rw[cond_true,ZoT h]
  ·rw[show(f y==0)=false from beq_eq_false_iff_ne.2 hy];rfl
theorem ZDk {l:List Zq} (hl:l.length<=1000) (hz:∀d∈l,ZjT d):Zh2 l=some (bif shE l==0 then shL l else [],shE l):=by
 have l0:∀(k i:Nat) ,i+k=l.length->Zb3 (fun d=>(Zn2 d).2) (l.take i)=0 ->
   (Zb3 (fun d=>(Zn2 d).2) l=0/\lp (Zce l) ((i:Int),shL (l.take i))=some (.inr (shL l)))∨(Zb3 (fun d=>(Zn2 d).2) l≠0/\∃x,lp (Zce l) ((i:Int),shL (l.take i))=some (.inl (Zb3 (fun d=>(Zn2 d).2) l,x))):=by
  intro k
  induction k with
  | zero=>
   intro i hi h
   have hi:i=l.length:=by omega
   subst hi
   rw[List.take_length] at h ⊢
   refine .inl ⟨h,?_⟩
   rw[Zaj]
   simp only[Zce,Zdn,cond_false]
  | succ k ih=>
   intro i hi h
   have hil:i<l.length:=by omega
   have hx:=List.getElem?_eq_getElem hil
   have hm:=List.getElem_mem hil
   have hdec:l=l.take (i+1)++l.drop (i+1):=(List.take_append_drop _ _).symm
   have ht:l.take (i+1)=l.take i++[l[i]]:=by rw[List.take_add_one,hx];rfl
   generalize l[i]=d at hx hm ht
   have hf:=Znq (f:=fun d=>(Zn2 d).2) (x:=d) h
   rw[<- ht] at hf
   have hlen:(shL (l.take i)).length<=i:=by unfold shL;rw[List.length_map,List.length_take];omega
   rw[Zaj]
   simp only[Zce,ZcG hil,cond_true,ZU hx,Option.bind_some,ZHq (hz d hm),ZJ hil (show l.length<9223372036854775808 by omega),ZgB (show(shL (l.take i)).length+1<=1073741824 by omega)]
   by_cases he:(Zn2 d).2=0
   ·rw[he,Zrn,cond_false]
    have:=ih (i+1) (by omega) (by rw[hf];exact he)
    rw[ht] at this
    unfold shL at this ⊢
    rw[List.map_append] at this
    exact this
   ·rw[ZFl he,cond_true]
    have hall:Zb3 (fun d=>(Zn2 d).2) l=(Zn2 d).2:=by
     rw[hdec,ZoT (by rw[hf];exact he),hf]
    exact .inr ⟨by rw[hall];exact he,_,by rw[hall]⟩
 have l1:∀(m:List Zf),m.length<=1000->(Zb3 (fun s=>(ZbP s).2) m=0/\lp (Zcf m) 0=some (.inr ()))∨(Zb3 (fun s=>(ZbP s).2) m≠0/\lp (Zcf m) 0=some (.inl (Zb3 (fun s=>(ZbP s).2) m))):=by
  intro m hm
  have key:∀(k i:Nat),i+k=m.length->Zb3 (fun s=>(ZbP s).2) (m.take i)=0->(Zb3 (fun s=>(ZbP s).2) m=0/\lp (Zcf m) (i:Int)=some (.inr ()))∨(Zb3 (fun s=>(ZbP s).2) m≠0/\lp (Zcf m) (i:Int)=some (.inl (Zb3 (fun s=>(ZbP s).2) m))):=by
   intro k
   induction k with
   | zero=>
    intro i hi h
    have hi:i=m.length:=by omega
    subst hi
    rw[List.take_length] at h
    refine .inl ⟨h,?_⟩
    rw[Zaj]
    simp only[Zcf,Zdn,cond_false]
   | succ k ih=>
    intro i hi h
    have hil:i<m.length:=by omega
    have hx:=List.getElem?_eq_getElem hil
    have hdec:m=m.take (i+1)++m.drop (i+1):=(List.take_append_drop _ _).symm
    have ht:m.take (i+1)=m.take i++[m[i]]:=by rw[List.take_add_one,hx];rfl
    generalize m[i]=s at hx ht
    have hf:=Znq (f:=fun s=>(ZbP s).2) (x:=s) h
    rw[<- ht] at hf
    rw[Zaj]
    simp only[Zcf,ZcG hil,cond_true,ZU hx,Option.bind_some,Zwh,ZJ hil (show m.length<9223372036854775808 by omega)]
    by_cases he:(ZbP s).2=0
    ·rw[he,Zrn,cond_false]
     exact ih (i+1) (by omega) (by rw[hf];exact he)
    ·rw[ZFl he,cond_true]
     have hall:Zb3 (fun s=>(ZbP s).2) m=(ZbP s).2:=by
      rw[hdec,ZoT (by rw[hf];exact he),hf]
     exact .inr ⟨by rw[hall];exact he,by rw[hall]⟩
  exact key m.length 0 (by omega) rfl
 unfold Zh2 shE
 rcases l0 l.length 0 (by omega) rfl with⟨h1,h2⟩ | ⟨h1,x,h2⟩
 ·rw[show(lp (Zce l) (0,([]:List Zf)))=_ from h2,Option.bind_some]
  dsimp only
  rw[h1,show((0:Int)==0)=true from rfl,cond_true]
  rcases l1 (shL l) (by unfold shL;rw[List.length_map];exact hl) with⟨h3,h4⟩ | ⟨h3,h4⟩
  ·rw[h4,h3];rfl
  ·rw[h4,show(Zb3 (fun s=>(ZbP s).2) (shL l)==0)=false from beq_eq_false_iff_ne.2 h3];rfl
 ·rw[show(lp (Zce l) (0,([]:List Zf)))=_ from h2,Option.bind_some]
  dsimp only
  rw[show(Zb3 (fun d=>(Zn2 d).2) l==0)=false from beq_eq_false_iff_ne.2 h1,cond_false,show(Zb3 (fun d=>(Zn2 d).2) l==0)=false from beq_eq_false_iff_ne.2 h1]
  rfl
def hv (s:Zf):Bool:=decide (s.deadline<s.total)
noncomputable def cN (s:Zf):Nat:=(ZbP s).1.toNat
theorem Zhp {s:Zf} (h:(ZbP s).2=0):ZdM s=true/\1<=(ZbP s).1/\(ZbP s).1<=8/\(hv s=false->(ZbP s).1=1):=by
 unfold ZbP at h ⊢
 unfold hv
 cases ho:ZdM s with
 | false=>rw[ho] at h;exact absurd (show(140:Int)=0 from h) (by decide)
 | true=>
  rw[ho] at h
  simp only[cond_true] at h ⊢
  have o:=ZlV ho
  have o2:=o.d1;have o4:=o.t1;have o6:=o.l1;have o7:=o.l2
  by_cases q1:s.deadline<s.total
  ·rw[decide_eq_true q1] at h ⊢
   simp only[cond_true] at h ⊢
   by_cases q2:s.deadline<=s.long
   ·rw[decide_eq_true q2] at h;exact absurd (show(141:Int)=0 from h) (by decide)
   ·rw[decide_eq_false q2] at h ⊢
    simp only[cond_false] at h ⊢
    by_cases q3:8<upN s
    ·rw[decide_eq_true q3] at h;exact absurd (show(142:Int)=0 from h) (by decide)
    ·rw[decide_eq_false q3]
     simp only[cond_false]
     have h1:1<=upN s:=by
      apply Classical.byContradiction
      intro hn
      have h0:upN s<=0:=by omega
      have:=(ZyG (show s.long<s.deadline by omega) 0).1 h0
      omega
     exact⟨trivial,h1,by omega,fun e=>by cases e⟩
  ·rw[decide_eq_false q1]
   simp only[cond_false]
   exact⟨trivial,by omega,by omega,fun _=>trivial⟩
def Zho (l:List Zf):Prop:=∀s∈l,(ZbP s).2=0
theorem Zho.heavy {l:List Zf} (h:Zho l) {s:Zf} (hs:s∈l):ZbZ s=some (hv s):=ZwF s (Zhp (h s hs)).1
noncomputable def Z1 (l:List Zf):Nat:=((l.filter hv).map cN).sum
def ZaQ (l:List Zf):List Zf:=l.filter fun s=>!hv s
def Zbk:Nat->Nat->List Int
 | _,0=>[]
 | k,n+1=>(k:Int) :: Zbk (k+1) n
theorem ZeU:∀(n k:Nat),(Zbk k n).length=n
 | 0,_=>rfl
 | n+1,k=>by unfold Zbk;rw[List.length_cons,ZeU n]
theorem ZnI:∀(n k m:Nat),Zbk k (n+m)=Zbk k n++Zbk (k+n) m
 | 0,k,m=>by simp[Zbk]
 | n+1,k,m=>by
  rw[show n+1+m=(n+m)+1 by omega]
  show(k:Int) :: Zbk (k+1) (n+m)=(k:Int) :: Zbk (k+1) n++Zbk (k+(n+1)) m
  rw[ZnI n (k+1) m,show k+1+n=k+(n+1) by omega,List.cons_append]
theorem ZBy {k n b:Nat} (h:n<=b):(Zbk k b).take n=Zbk k n/\(Zbk k b).drop n=Zbk (k+n) (b-n):=by
 have e:=ZnI n k (b-n)
 rw[show n+(b-n)=b by omega] at e
 have hl:=ZeU n k
 rw[e]
 constructor
 ·rw[List.take_append_of_le_length (by omega),List.take_of_length_le (by omega)]
 ·rw[List.drop_append_of_le_length (by omega),List.drop_of_length_le (by omega)]
  rfl
theorem Zx3 (n:Int):Zds n=Zbk 0 n.toNat:=by
 unfold Zds
 generalize n.toNat=m
 induction m with
 | zero=>rfl
 | succ m ih=>
  rw[List.range_succ,List.map_append,ih,ZnI m 0 1]
  simp[Zbk]
noncomputable def ZcP:Nat->List Zf->List (List Int)
 | _,[]=>[]
 | k,s :: l=>bif hv s then Zbk k (cN s) :: ZcP (k+cN s) l else [] :: ZcP k l
theorem ZlY:∀(l:List Zf) (k:Nat),(ZcP k l).length=l.length
 | [],_=>rfl
 | s :: l,k=>by unfold ZcP;cases hv s<;>simp[ZlY l]
theorem Zft (s:Zf) (l:List Zf):Z1 (s :: l)=(bif hv s then cN s else 0)+Z1 l:=by
 unfold Z1
 rw[List.filter_cons]
 cases hv s<;>simp
theorem ZnM (p q:List Zf):Z1 (p++q)=Z1 p+Z1 q:=by
 unfold Z1
 rw[List.filter_append,List.map_append,List.sum_append]
theorem Zl9 (k:Nat) (s:Zf) (l:List Zf):ZcP k (s :: l)=bif hv s then Zbk k (cN s) :: ZcP (k+cN s) l else [] :: ZcP k l:=rfl
theorem ZqY:∀(p:List Zf) (k:Nat) (q:List Zf),ZcP k (p++q)=ZcP k p++ZcP (k+Z1 p) q
 | [],k,q=>by simp[ZcP,Z1]
 | s :: p,k,q=>by
  rw[List.cons_append]
  rw[Zl9,Zl9,Zft]
  cases hv s with
  | true=>
   simp only[cond_true,List.cons_append]
   rw[ZqY p,Nat.add_assoc]
  | false=>
   simp only[cond_false,List.cons_append,Nat.zero_add]
   rw[ZqY p]
def Zkx (first:Int):List Zf->List (List Int)->List Int->List (List Int)
 | s :: l,r :: rs,at_=>bif hv s then r :: Zkx first l rs at_ else (match at_ with | a :: ar=>[first+a] :: Zkx first l rs ar | []=>r :: Zkx first l rs [])
 | _,rs,_=>rs
theorem ZtW {f:Int}{z:Zf}{l:List Zf}{r:List Int}{rs:List (List Int)}{a:Int}{ar:List Int} (h:hv z=false):Zkx f (z :: l) (r :: rs) (a :: ar)=[f+a] :: Zkx f l rs ar:=by
 show(bif hv z then _ else _)=_
 rw[h];rfl
theorem ZE6 {s:List Zf} (hs:s.length<=8) (ok:Zho s) {x:List Zf×Int} (hx:x.1=s) {b:Nat} (hb:b<=8) :
  (Z1 s<=b/\lp (ZcB x) (0,Zbk 0 b,([]:List Zf),List.replicate s.length ([]:List Int))=some (.inr (Zbk (Z1 s) (b-Z1 s),ZaQ s,ZcP 0 s))) ∨
  (b<Z1 s/\∃y,lp (ZcB x) (0,Zbk 0 b,([]:List Zf),List.replicate s.length ([]:List Int))=some (.inl y)):=by
 have key:∀(k i:Nat),i+k=s.length->Z1 (s.take i)<=b ->
   (Z1 s<=b/\lp (ZcB x) ((i:Int),Zbk (Z1 (s.take i)) (b-Z1 (s.take i)),ZaQ (s.take i),ZcP 0 (s.take i)++List.replicate (s.length-i) ([]:List Int))=some (.inr (Zbk (Z1 s) (b-Z1 s),ZaQ s,ZcP 0 s))) ∨
   (b<Z1 s/\∃y,lp (ZcB x) ((i:Int),Zbk (Z1 (s.take i)) (b-Z1 (s.take i)),ZaQ (s.take i),ZcP 0 (s.take i)++List.replicate (s.length-i) ([]:List Int))=some (.inl y)):=by
  intro k
  induction k with
  | zero=>
   intro i hi hu
   have hi:i=s.length:=by omega
   subst hi
   rw[List.take_length] at hu ⊢
   refine .inl ⟨hu,?_⟩
   rw[Zaj]
   simp only[ZcB,hx,Zdn,cond_false,Nat.sub_self,List.replicate_zero,List.append_nil]
  | succ k ih=>
   intro i hi hu
   have hil:i<s.length:=by omega
   have hx':=List.getElem?_eq_getElem hil
   have hm:=List.getElem_mem hil
   have ht:s.take (i+1)=s.take i++[s[i]]:=by rw[List.take_add_one,hx'];rfl
   have hdec:s=s.take (i+1)++s.drop (i+1):=(List.take_append_drop _ _).symm
   generalize s[i]=z at hx' hm ht
   obtain⟨c0,c1,c8,c2⟩:=Zhp (ok z hm)
   have hlen:(s.take i).length=i:=by rw[List.length_take];omega
   have hrl:(ZcP 0 (s.take i)).length=i:=by rw[ZlY,hlen]
   have hrep:List.replicate (s.length-i) ([]:List Int)=[] :: List.replicate (s.length-(i+1)) []:=by
    rw[show s.length-i=(s.length-(i+1))+1 by omega];rfl
   have hget:(ZcP 0 (s.take i)++List.replicate (s.length-i) ([]:List Int))[i]? = some []:=by
    rw[List.getElem?_append_right (by omega),hrl,Nat.sub_self,hrep];rfl
   have hset:∀r:List Int,(ZcP 0 (s.take i)++List.replicate (s.length-i) ([]:List Int)).set i r=(ZcP 0 (s.take i)++[r])++List.replicate (s.length-(i+1)) []:=fun r=>by
    rw[List.set_append_right _ _ (by omega),hrl,Nat.sub_self,hrep,List.set_cons_zero,List.append_assoc]
    rfl
   have hrow:=ZqY (s.take i) 0 [z]
   have husd:=ZnM (s.take i) [z]
   have hlg:ZaQ (s.take (i+1))=ZaQ (s.take i)++(bif hv z then [] else [z]):=by
    unfold ZaQ
    rw[ht,List.filter_append]
    cases hz:hv z<;>simp[hz]
   have hll:(ZaQ (s.take i)).length<=8:=Nat.le_trans (List.length_filter_le _ _) (by omega)
   rw[<- ht] at hrow husd
   rw[Nat.zero_add] at hrow
   have hus:Z1 s=Z1 (s.take (i+1))+Z1 (s.drop (i+1)):=by rw[<- ZnM,<- hdec]
   have hnx:=ih (i+1) (by omega)
   rw[Zaj]
   simp only[ZcB,hx,ZcG hil,cond_true,ZU hx',Option.bind_some,ok.heavy hm,ZJ hil (show s.length<9223372036854775808 by omega)]
   cases hz:hv z with
   | true=>
    have e1:Z1 [z]=cN z:=by rw[Zft,hz];simp[Z1]
    have e2:ZcP (Z1 (s.take i)) [z]=[Zbk (Z1 (s.take i)) (cN z)]:=by unfold ZcP;rw[hz];rfl
    have hcn:((ZbP z).1:Int).toNat=cN z:=rfl
    rw[e1] at husd
    rw[e2] at hrow
    simp only[cond_true,Zwh,Option.bind_some,Zmy,decide_eq_true (show(0:Int)<=(ZbP z).1 by omega),decide_eq_true (show(ZbP z).1<=1000 by omega),Bool.and_self,hcn,ZeU]
    by_cases hle:cN z<=b-Z1 (s.take i)
    ·obtain⟨q1,q2⟩:=ZBy (k:=Z1 (s.take i)) hle
     rw[Nat.ble_eq_true_of_le hle]
     simp only[cond_true,Option.bind_some,ZU hget,q1,q2,Int.toNat_natCast,hset]
     rw[hlg,hz,hrow,husd,show b-(Z1 (s.take i)+cN z)=b-Z1 (s.take i)-cN z by omega] at hnx
     simp only[cond_true,List.append_nil] at hnx
     exact hnx (by omega)
    ·have hb:Nat.ble (cN z) (b-Z1 (s.take i))=false:=by
      cases hq:Nat.ble (cN z) (b-Z1 (s.take i)) with
      | false=>rfl
      | true=>exact absurd (Nat.le_of_ble_eq_true hq) hle
     rw[hb]
     exact .inr ⟨by omega,_,rfl⟩
   | false=>
    have e1:Z1 [z]=0:=by rw[Zft,hz];simp[Z1]
    have e2:ZcP (Z1 (s.take i)) [z]=[[]]:=by unfold ZcP;rw[hz];rfl
    rw[e1,Nat.add_zero] at husd
    rw[e2] at hrow
    simp only[cond_false,ZgB (show(ZaQ (s.take i)).length+1<=1073741824 by omega),cond_true]
    rw[hlg,hz,hrow,husd] at hnx
    simp only[cond_false] at hnx
    rw[hrep,show ZcP 0 (s.take i)++[] :: List.replicate (s.length-(i+1)) ([]:List Int)=(ZcP 0 (s.take i)++[[]])++List.replicate (s.length-(i+1)) [] by rw[List.append_assoc];rfl]
    exact hnx hu
 have:=key s.length 0 (by omega) (by simp[Z1])
 simpa [Z1,ZaQ,ZcP] using this
theorem ZBk {s:List Zf} (hs:s.length<=8) (ok:Zho s) {x:List Zf×Int} (hx:x.1=s) {b used:Nat} (hub:used<=b) (hb:b<=8) {r8:List Int×List Zf×List (List Int)} (hr:r8.1.length=b-used) :
  ∀(t:List Zf) (rest done:List (List Int)) (at_:List Int),s.drop done.length=t->done.length+t.length=s.length->rest.length=t.length->at_.length=(ZaQ t).length->(∀a∈at_, -1<=a/\a<=8) ->
   lp (Zd0 (b:Int) x r8) (at_,(done.length:Int),done++rest)=some (done++Zkx (used:Int) t rest at_):=by
 intro t
 induction t with
 | nil=>
  intro rest done at_ hd hl hrl hal ha
  have hr0:rest=[]:=List.eq_nil_of_length_eq_zero hrl
  subst hr0
  have hdl:done.length=s.length:=by simpa using hl
  rw[Zaj]
  simp only[Zd0,hx,hdl,Zdn,cond_false,Zkx]
 | cons z t ih=>
  intro rest done at_ hd hl hrl hal ha
  rw[List.length_cons] at hl
  have hil:done.length<s.length:=by omega
  have hz':s[done.length]? = some z:=by
   have:=List.getElem?_drop (xs:=s) (i:=done.length) (j:=0)
   rw[hd] at this
   simpa using this.symm
  have hm:=List.mem_of_getElem? hz'
  have hd':s.drop (done.length+1)=t:=by
   rw[<- List.drop_drop,hd];rfl
  cases rest with
  | nil=>cases hrl
  | cons r rest=>
  have hget:(done++r :: rest)[done.length]? = some r:=by rw[List.getElem?_append_right (Nat.le_refl _),Nat.sub_self];rfl
  rw[Zaj]
  simp only[Zd0,hx,ZcG hil,cond_true,ZU hz',Option.bind_some,ok.heavy hm,ZJ hil (show s.length<9223372036854775808 by omega)]
  have hll:ZaQ (z :: t)=bif hv z then ZaQ t else z :: ZaQ t:=by
   unfold ZaQ
   rw[List.filter_cons]
   cases hv z<;>rfl
  cases hz:hv z with
  | true=>
   rw[hz,cond_true] at hll
   rw[cond_true]
   have:=ih rest (done++[r]) at_ (by rw[List.length_append,List.length_singleton];exact hd') (by rw[List.length_append,List.length_singleton];omega) (by simpa using hrl) (by rw[hal,hll]) ha
   rw[List.length_append,List.length_singleton,List.append_assoc,List.append_assoc] at this
   unfold Zkx
   rw[hz]
   exact this
  | false=>
   rw[hz,cond_false] at hll
   rw[cond_false]
   cases at_ with
   | nil=>rw[hll] at hal;cases hal
   | cons a ar=>
    have ha0:=ha a (by simp)
    have hw0:w64 ((b:Int)-(r8.1.length:Int))=(used:Int):=by
     rw[hr,Zac (by omega) (by omega)];omega
    have hw:w64 (w64 ((b:Int)-(r8.1.length:Int))+a)=(used:Int)+a:=by
     rw[hw0,Zac (by omega) (by omega)]
    have g0:Zz (a :: ar) 0=some a:=rfl
    have hb1:Nat.ble 1 (a :: ar).length=true:=Nat.ble_eq_true_of_le (by simp)
    simp only[g0,Option.bind_some,hb1,cond_true,ZU hget,hw,Int.toNat_natCast]
    have hset:(done++r :: rest).set done.length [(used:Int)+a]=(done++[[(used:Int)+a]])++rest:=by
     rw[List.set_append_right _ _ (Nat.le_refl _),Nat.sub_self,List.set_cons_zero,List.append_assoc];rfl
    rw[hset]
    have:=ih rest (done++[[(used:Int)+a]]) ar (by rw[List.length_append,List.length_singleton];exact hd') (by rw[List.length_append,List.length_singleton];omega) (by simpa using hrl) (by rw[hll] at hal;simpa using hal) (fun y hy=>ha y (by simp[hy]))
    rw[List.length_append,List.length_singleton,List.append_assoc] at this
    rw[ZtW hz,List.append_assoc]
    rw[List.append_assoc] at this
    exact this
noncomputable def ZF1 (l:List Zf):List Int:=match Zgg l with | some o=>o | none=>[]
theorem ZB6 {l:List Zf} (hl:l.length<=1000):Zgg l=some (ZF1 l)/\Zie l (ZF1 l):=by
 obtain⟨o,h1,h2⟩:=ZBU l hl
 unfold ZF1
 rw[h1]
 exact⟨rfl,h2⟩
noncomputable def Zqv (l:List Zf) (n:Nat):Option (List Int):=ZjQ l n (ZF1 l) (List.replicate l.length (-1))
theorem Zm9 {s:List Zf} (hs:s.length<=8) (ok:Zho s):ZfZ (ZaQ s)=true:=by
 have h8:(ZaQ s).length<=8:=Nat.le_trans (List.length_filter_le _ _) hs
 unfold ZfZ
 rw[decide_eq_false (by omega)]
 rw[show((ZaQ s).any fun s=>!(okS s))=false from List.any_eq_false.2 fun z hz=>by
  obtain⟨h1,h2⟩:=List.mem_filter.1 hz
  have h3:=(Zhp (ok z h1)).1
  unfold hv at h2
  unfold okS
  rw[h3,Bool.true_and]
  simpa using h2]
 rfl
theorem ZvM {s:List Zf} (hs:s.length<=8) (ok:Zho s) {n:Nat} (hn:n<=8):Zh8 (ZaQ s) (n:Int)=some (match Zqv (ZaQ s) n with | some a=>(a,0) | none=>([],161)):=by
 have hl:(ZaQ s).length<=1000:=Nat.le_trans (List.length_filter_le _ _) (by omega)
 obtain⟨h1,h2⟩:=ZB6 hl
 rw[ZGi (ZaQ s) hl h1 h2 (n:Int),Zm9 hs ok]
 have h8:Zke (n:Int)=true:=by unfold Zke;rw[decide_eq_true (by omega),decide_eq_true (by omega)];rfl
 rw[h8,Int.toNat_natCast]
 rfl
def Zrd:Zan:=⟨[],[]⟩
noncomputable def Zmk (s:List Zf) (b:Nat):Option Zan:=bif Nat.ble (Z1 s) b then (match Zqv (ZaQ s) (b-Z1 s) with | some a=>some ⟨s,Zkx (Z1 s:Int) s (ZcP 0 s) a⟩ | none=>none) else none
noncomputable def Zns (l:List Zq) (b:Int):Zan×Int:=
 bif decide (8<(l.length:Int)) || (decide (b<1) || decide (8<b)) then (Zrd,170)
 else bif shE l==0 then (match Zmk (shL l) b.toNat with | some p=>(p,0) | none=>(Zrd,171)) else (Zrd,shE l)
theorem ZCN {l:List Zq} (h:shE l=0):Zho (shL l):=by
 unfold shE at h
 cases h1:Zb3 (fun d=>(Zn2 d).2) l==0 with
 | true=>rw[h1,cond_true] at h;exact Zrr.1 h
 | false=>rw[h1,cond_false] at h;rw[h] at h1;cases h1
theorem ZuO {l:List Zf}{n:Nat}{a:List Int} (hl:l.length<=1000) (hc:ZfZ l=true) (hn:n<=8) (h:Zqv l n=some a):ZB5 l a (n:Int)/\a.length=l.length:=by
 obtain⟨h1,h2⟩:=ZB6 hl
 have h8:Zke (n:Int)=true:=by unfold Zke;rw[decide_eq_true (by omega),decide_eq_true (by omega)];rfl
 have r:=Zw5 (c:=(n:Int)) h8 h2 (by rw[Int.toNat_natCast];exact h)
 refine⟨r,?_⟩
 have:=ZtR h
 rw[this,List.length_replicate]
theorem ZFC {l:List Zq} (hl:l.length<=1000) (hz:∀d∈l,ZjT d) (b:Int):ZiJ l b=some (Zns l b):=by
 unfold ZiJ Zns
 by_cases h8:8<(l.length:Int)
 ·rw[decide_eq_true h8];rfl
 rw[decide_eq_false h8,cond_false,Bool.false_or]
 by_cases b1:b<1
 ·rw[decide_eq_true b1];rfl
 rw[decide_eq_false b1,cond_false,Bool.false_or]
 by_cases b8:8<b
 ·rw[decide_eq_true b8];rfl
 rw[decide_eq_false b8,cond_false,cond_false,ZDk hl hz,Option.bind_some]
 dsimp only
 by_cases he:shE l=0
 ·have ok:=ZCN he
  have hsl:(shL l).length<=8:=by unfold shL;rw[List.length_map];omega
  rw[he,show((0:Int)==0)=true from rfl,cond_true,Zrn,cond_false]
  have hbn:((b.toNat:Nat):Int)=b:=Int.toNat_of_nonneg (by omega)
  have hlim:(decide (0<=((shL l).length:Int))&&decide (((shL l).length:Int)<=lim)&&decide (((shL l).length:Int)==((shL l).length:Int)))=true:=by
   rw[decide_eq_true (by omega),beq_self_eq_true]
   have:((shL l).length:Int)<=lim:=by show((shL l).length:Int)<=1073741824;omega
   rw[decide_eq_true this];rfl
  rw[hlim,cond_true]
  have hfree:Zjw b=some ():=by unfold Zjw;rw[decide_eq_true (by omega),decide_eq_true (by omega)];rfl
  rw[hfree,Option.bind_some,Zx3,Int.toNat_natCast,cond_true]
  unfold Zmk
  rcases ZE6 (x:=(shL l,0)) hsl ok rfl (b:=b.toNat) (by omega) with⟨q1,q2⟩ | ⟨q1,y,q2⟩
  ·rw[q2,Option.bind_some,Nat.ble_eq_true_of_le q1,cond_true]
   dsimp only
   rw[ZeU,ZvM hsl ok (by omega),Option.bind_some]
   cases hp:Zqv (ZaQ (shL l)) (b.toNat-Z1 (shL l)) with
   | none=>rfl
   | some a=>
    dsimp only
    rw[Zrn,cond_false]
    have hll:(ZaQ (shL l)).length<=8:=Nat.le_trans (List.length_filter_le _ _) hsl
    obtain⟨R,hal⟩:=ZuO (show(ZaQ (shL l)).length<=1000 by omega) (Zm9 hsl ok) (by omega) hp
    have:=ZBk (x:=(shL l,0)) hsl ok rfl q1 (show b.toNat<=8 by omega) (r8:=(Zbk (Z1 (shL l)) (b.toNat-Z1 (shL l)),ZaQ (shL l),ZcP 0 (shL l))) (ZeU _ _) (shL l) (ZcP 0 (shL l)) [] a rfl (by simp) (ZlY _ _) hal (fun z hz=>by
     have:=R.ok z hz
     omega)
    rw[hbn] at this
    rw[show(lp (Zd0 b (shL l,0) (Zbk (Z1 (shL l)) (b.toNat-Z1 (shL l)),ZaQ (shL l),ZcP 0 (shL l))) (a,0,ZcP 0 (shL l)))=_ from this]
    rfl
  ·rw[q2]
   have:Nat.ble (Z1 (shL l)) b.toNat=false:=by
    cases hq:Nat.ble (Z1 (shL l)) b.toNat with
    | false=>rfl
    | true=>have:=Nat.le_of_ble_eq_true hq;omega
   rw[this];rfl
 ·rw[show(shE l==0)=false from beq_eq_false_iff_ne.2 he,ZFl he];rfl
theorem ZIN (l:List Zq):∃b,ZkI l=some b/\(b=true->l.length<=12/\∀d∈l,ZjT d):=by
 have key:∀(k i:Nat),i+k=l.length->(∀d∈l.take i,few d=true) ->
   (∃r,lp (ZcO l) (i:Int)=some (.inl r))∨(∃r,lp (ZcO l) (i:Int)=some (.inr r)/\(l.length<=12->∀d∈l,few d=true)):=by
  intro k
  induction k with
  | zero=>
   intro i hi h
   have hi:i=l.length:=by omega
   subst hi
   rw[List.take_length] at h
   rw[Zaj]
   simp only[ZcO,Zdn,cond_false]
   exact .inr ⟨(),trivial,fun _=>h⟩
  | succ k ih=>
   intro i hi h
   have hil:i<l.length:=by omega
   have hx:=List.getElem?_eq_getElem hil
   have ht:l.take (i+1)=l.take i++[l[i]]:=by rw[List.take_add_one,hx];rfl
   generalize l[i]=d at hx ht
   rw[Zaj]
   by_cases h13:(i:Int)<13
   ·have hw:w64 ((i:Int)+1)=((i+1:Nat):Int):=by rw[Zac (by omega) (by omega)];omega
    simp only[ZcO,ZcG hil,cond_true,decide_eq_true h13,ZU hx,Option.bind_some,ZIy,hw]
    cases hf:few d with
    | false=>exact .inl ⟨_,rfl⟩
    | true=>
     exact ih (i+1) (by omega) (fun e he=>by
      rw[ht] at he
      rcases List.mem_append.1 he with he | he
      ·exact h e he
      ·rw[List.mem_singleton.1 he];exact hf)
   ·simp only[ZcO,ZcG hil,cond_true,decide_eq_false h13,cond_false]
    exact .inr ⟨(),trivial,fun h12=>by omega⟩
 unfold ZkI
 rcases key l.length 0 (by omega) (fun d hd=>by simp at hd) with⟨r,h⟩ | ⟨r,h,h2⟩
 ·rw[show lp (ZcO l) 0=_ from h]
  exact⟨false,rfl,fun e=>by cases e⟩
 ·rw[show lp (ZcO l) 0=_ from h]
  by_cases h12:(l.length:Int)<=12
  ·exact⟨true,by simp only[Option.bind_some,decide_eq_true h12];rfl,fun _=>⟨by omega,fun d hd=>ZA0 (h2 (by omega) d hd)⟩⟩
  ·exact⟨false,by simp only[Option.bind_some,decide_eq_false h12];rfl,fun e=>by cases e⟩
theorem ZIx {l:List Zq} (hl:l.length<=1000) (hz:∀d∈l,ZjT d):ZkV l=some l:=by
 have key:∀(k i:Nat),i+k=l.length->lp (ZfS l) ((i:Int),l.take i)=some l:=by
  intro k
  induction k with
  | zero=>
   intro i hi
   have hi:i=l.length:=by omega
   subst hi
   rw[List.take_length,Zaj]
   simp only[ZfS,Zdn,cond_false]
  | succ k ih=>
   intro i hi
   have hil:i<l.length:=by omega
   have hx:=List.getElem?_eq_getElem hil
   have hm:=List.getElem_mem hil
   have ht:l.take (i+1)=l.take i++[l[i]]:=by rw[List.take_add_one,hx];rfl
   generalize l[i]=d at hx ht hm
   have hlen:(l.take i).length<=1000:=by rw[List.length_take];omega
   rw[Zaj]
   simp only[ZfS,ZcG hil,cond_true,ZU hx,Option.bind_some,ZJ1 d (hz d hm),ZgB (show(l.take i).length+1<=1073741824 by omega),ZJ hil (show l.length<9223372036854775808 by omega)]
   have:=ih (i+1) (by omega)
   rw[ht] at this
   exact this
 have:=key l.length 0 (by omega)
 unfold ZkV
 rw[show lp (ZfS l) (0,([]:List Zq))=_ from this]
 rfl
theorem Zne (f:Int):∀(s:List Zf) (rs:List (List Int)) (a:List Int),(Zkx f s rs a).length=rs.length
 | [],rs,a=>by unfold Zkx;rfl
 | z :: s,[],a=>by unfold Zkx;rfl
 | z :: s,r :: rs,a=>by
  unfold Zkx
  cases hv z with
  | true=>simp only[cond_true,List.length_cons,Zne f s rs]
  | false=>
   cases a with
   | nil=>simp only[cond_false,List.length_cons,Zne f s rs]
   | cons x a=>simp only[cond_false,List.length_cons,Zne f s rs]
theorem ZuJ (f:Int):∀(s:List Zf) (rs:List (List Int)) (a:List Int),∀r∈Zkx f s rs a,r∈rs∨r.length=1
 | [],rs,a=>by unfold Zkx;exact fun r h=>.inl h
 | z :: s,[],a=>by unfold Zkx;exact fun r h=>.inl h
 | z :: s,r0 :: rs,a=>by
  unfold Zkx
  have ih:=ZuJ f s rs
  intro r h
  cases hz:hv z with
  | true=>
   rw[hz,cond_true] at h
   rcases List.mem_cons.1 h with h | h
   ·exact .inl (by rw[h];simp)
   ·rcases ih a r h with h | h
    ·exact .inl (by simp[h])
    ·exact .inr h
  | false=>
   rw[hz,cond_false] at h
   cases a with
   | nil=>
    rcases List.mem_cons.1 h with h | h
    ·exact .inl (by rw[h];simp)
    ·rcases ih [] r h with h | h
     ·exact .inl (by simp[h])
     ·exact .inr h
   | cons x a=>
    rcases List.mem_cons.1 h with h | h
    ·exact .inr (by rw[h];rfl)
    ·rcases ih a r h with h | h
     ·exact .inl (by simp[h])
     ·exact .inr h
theorem Ztf:∀(s:List Zf) (k:Nat),Zho s->∀r∈ZcP k s,r.length<=8
 | [],k,_=>fun r h=>by cases h
 | z :: s,k,ok=>by
  obtain⟨_,c1,c8,_⟩:=Zhp (ok z (by simp))
  intro r h
  have ih:=fun k=>Ztf s k fun y hy=>ok y (by simp[hy])
  unfold ZcP at h
  cases hz:hv z with
  | true=>
   rw[hz,cond_true] at h
   rcases List.mem_cons.1 h with h | h
   ·rw[h,ZeU];unfold cN;omega
   ·exact ih _ r h
  | false=>
   rw[hz,cond_false] at h
   rcases List.mem_cons.1 h with h | h
   ·rw[h];simp
   ·exact ih _ r h
theorem Zrg {s:List Zf}{b:Nat}{p:Zan} (h:Zmk s b=some p):Z1 s<=b/\∃a,Zqv (ZaQ s) (b-Z1 s)=some a/\p=⟨s,Zkx (Z1 s:Int) s (ZcP 0 s) a⟩:=by
 unfold Zmk at h
 cases hu:Nat.ble (Z1 s) b with
 | false=>rw[hu] at h;cases h
 | true=>
  rw[hu,cond_true] at h
  cases hp:Zqv (ZaQ s) (b-Z1 s) with
  | none=>rw[hp] at h;cases h
  | some a=>rw[hp] at h;cases h;exact⟨Nat.le_of_ble_eq_true hu,a,rfl,rfl⟩
theorem ZzH {s:List Zf} (ok:Zho s) (hs:s.length<=8) {b:Nat} (hb:b<=8) {p:Zan} (h:Zmk s b=some p):p.shapes.length<=8/\p.cores.length<=8/\∀r∈p.cores,r.length<=1000:=by
 obtain⟨_,a,_,rfl⟩:=Zrg h
 refine⟨hs,?_,fun r hr=>?_⟩
 ·show(Zkx (Z1 s:Int) s (ZcP 0 s) a).length<=8
  rw[Zne,ZlY];exact hs
 ·rcases ZuJ _ _ _ _ r hr with h | h
  ·have:=Ztf s 0 ok r h;omega
  ·omega
theorem Zxa {l:List Zq}{b:Int} (h:(Zns l b).2=0):l.length<=8/\1<=b/\b<=8/\shE l=0/\∃p,Zmk (shL l) b.toNat=some p/\Zns l b=(p,0):=by
 unfold Zns at h ⊢
 by_cases h8:8<(l.length:Int)
 ·rw[decide_eq_true h8] at h;exact absurd (show(170:Int)=0 from h) (by decide)
 by_cases b1:b<1
 ·rw[decide_eq_false h8,decide_eq_true b1] at h;exact absurd (show(170:Int)=0 from h) (by decide)
 by_cases b8:8<b
 ·rw[decide_eq_false h8,decide_eq_false b1,decide_eq_true b8] at h;exact absurd (show(170:Int)=0 from h) (by decide)
 rw[decide_eq_false h8,decide_eq_false b1,decide_eq_false b8] at h ⊢
 simp only[Bool.or_self,cond_false] at h ⊢
 by_cases he:shE l=0
 ·rw[he] at h ⊢
  simp only[beq_self_eq_true,cond_true] at h ⊢
  cases hp:Zmk (shL l) b.toNat with
  | none=>rw[hp] at h;exact absurd (show(171:Int)=0 from h) (by decide)
  | some p=>exact⟨by omega,by omega,by omega,trivial,p,rfl,rfl⟩
 ·rw[beq_eq_false_iff_ne.2 he] at h
  exact absurd h he
theorem ZCk {x:D} (h:ZD8 (.sl true [.int .i64,.int .i64,.sl true [.int .i64,.int .i64,.int .i64],.sl true [.int .i64,.int .i64],.sl true [.int .i64,.int .i64,.int .i64],.sl true [.sl false [.int .i64],.sl false [.int .i64]]]) x):∃l:List Zq,x = .list true (l.map (ZeE true)):=by
 obtain⟨l,h1,_,_⟩:=Zps (f:=ZeE true) (p:=fun _=>True) h fun cs hc=>by
  obtain⟨d,hd,_⟩:=ZE3 hc
  exact⟨d,hd,trivial⟩
 exact⟨l,h1⟩
abbrev ZlI:=Zf×List Int
theorem Zth {s:List Zf}{r:List (List Int)}{i:Nat}{z:ZlI} (h:(s.zip r)[i]? = some z):s[i]? = some z.1/\r[i]? = some z.2:=List.getElem?_zip_eq_some.1 h
theorem Zvr (s:List Zf) (r:List (List Int)):(bif decide ((r.length:Int)<(s.length:Int)) then (r.length:Int) else (s.length:Int))=((s.zip r).length:Int):=by
 rw[List.length_zip]
 by_cases h:(r.length:Int)<(s.length:Int)
 ·rw[decide_eq_true h,cond_true];omega
 ·rw[decide_eq_false h,cond_false];omega
noncomputable def hvB (s:Zf):Bool:=ZdM s&&hv s
theorem Zxe (s:Zf):ZbZ s=some (hvB s):=by
 unfold hvB
 cases h:ZdM s with
 | true=>rw[ZwF s h];rfl
 | false=>unfold ZbZ;rw[ZpF,h];rfl
def hsB (z:ZlI) (c:Int):Bool:=z.2.any fun x=>c==x
theorem ZAh {γ:Type}{p:Nat->γ->Bool}:∀{l:List γ}{i:Nat},(∀(j:Nat) x,l[j]? = some x->p (i+j) x=false)->ZhY p i l=false
 | [],_,_=>rfl
 | x :: l,i,h=>by
  unfold ZhY
  rw[show p i x=false from h 0 x rfl,ZAh (l:=l) (i:=i+1) fun j y hy=>by rw[show i+1+j=i+(j+1) by omega];exact h (j+1) y hy]
  rfl
def Zyl (r:List Int) (i:Nat) (x:Int):Bool:=match r[i-1]? with | some y=>decide (x<=y) | none=>false
def Ztv (r:List Int) (c:Int):Bool:=ZhY (fun i x=>decide (x<0) || (decide (c<=x) || (decide (0<i)&&Zyl r i x))) 0 r
theorem ZAX (r:List Int) (c:Int) (hr:r.length<=1000):lp (ZfT r c) 0=some (bif Ztv r c then .inl () else .inr ()):=by
 have key:=Zgz r (ZfT r c) (fun i x=>decide (x<0) || (decide (c<=x) || (decide (0<i)&&Zyl r i x))) (fun _ _=>.inl ()) (.inr ()) (fun i x hi hx=>by
   have hw:=ZJ hi (show r.length<9223372036854775808 by omega)
   simp only[ZfT,ZcG hi,cond_true,ZU hx,Option.bind_some]
   cases decide (x<0) with
   | true=>rfl
   | false=>
    cases decide (c<=x) with
    | true=>rfl
    | false=>
     simp only[cond_false,Bool.false_or]
     by_cases h0:0<i
     ·have hp:r[i-1]? = some r[i-1]:=List.getElem?_eq_getElem (by omega)
      have hq:Zyl r i x=decide (x<=r[i-1]):=by unfold Zyl;rw[hp]
      generalize r[i-1]=y at hp hq
      rw[decide_eq_true h0,decide_eq_true (show(0:Int)<(i:Int) by omega),cond_true,Zac (by omega) (by omega),show(i:Int)-1=((i-1:Nat):Int) by omega,ZU hp,Option.bind_some,Bool.true_and,hq,hw]
      cases decide (x<=y)<;>rfl
     ·rw[decide_eq_false h0,decide_eq_false (show ¬(0:Int)<(i:Int) by omega),cond_false,hw];rfl) (by simp only[ZfT,Zdn];rfl)
 rw[key,Zeh]
 rfl
noncomputable def Zpf (z:ZlI) (c:Int):Bool:=(ZbP z.1).2==0&&((z.2.length:Int)==(ZbP z.1).1 && !Ztv z.2 c)
theorem ZHo (z:ZlI) (c:Int) (hr:z.2.length<=1000):ZkD z.1 z.2 c=some (Zpf z c):=by
 unfold ZkD Zpf
 rw[Zwh,Option.bind_some,ZAX z.2 c hr,Option.bind_some]
 cases Ztv z.2 c with
 | true=>cases (ZbP z.1).2==0<;>cases ((z.2.length:Int)==(ZbP z.1).1)<;>rfl
 | false=>
  simp only[cond_false]
  cases (ZbP z.1).2==0<;>cases ((z.2.length:Int)==(ZbP z.1).1)<;>rfl
theorem Zve (p:ZlI->Bool):∀(l:List ZlI) (i:Nat) (b:Bool),Zc8 (fun _ b z=>b&&p z) i b l=(b&&l.all p)
 | [],_,b=>by simp[Zc8]
 | z :: l,i,b=>by
  unfold Zc8
  rw[Zve p l,List.all_cons,Bool.and_assoc]
theorem ZIf (s:List Zf) (r:List (List Int)) (c:Int) (hs:s.length<=1000) (hr:∀x∈r,x.length<=1000):Zju ⟨s,r⟩ c=some ((s.zip r).all fun z=>Zpf z c):=by
 have hl:(s.zip r).length<=1000:=by rw[List.length_zip];omega
 have:=(ZgO (s.zip r) (ZeV ⟨s,r⟩ c) (fun i b=>((i:Int),b)) (fun _ b z=>b&&Zpf z c) id (fun _ _=>True) (fun i z b hi hz _=>by
   obtain⟨h1,h2⟩:=Zth hz
   have hrow:=ZHo z c (hr _ (List.mem_of_getElem? h2))
   refine⟨?_,trivial⟩
   simp only[ZeV,Zvr,ZcG hi,cond_true,ZU h1,ZU h2,Option.bind_some,ZhC,hrow,ZJ hi (show(s.zip r).length<9223372036854775808 by omega)]
   cases b<;>cases Zpf z c<;>rfl) (fun b _=>by simp only[ZeV,Zvr,Zdn,cond_false];rfl) true trivial).1
 unfold Zju
 rw[show lp (ZeV ⟨s,r⟩ c) (0,true)=_ from this,Zve]
 rfl
noncomputable def Zv2 (c:Int):List ZlI->Nat
 | []=>0
 | z :: l=>(bif hsB z c&&hvB z.1 then 1 else 0)+Zv2 c l
noncomputable def ZqD (c:Int) (l:List ZlI):List Zf:=(l.filter fun z=>hsB z c && !hvB z.1).map Prod.fst
theorem ZsR (c:Int):∀(l:List ZlI) (i:Nat) (n:Int) (m:List Zf),Zc8 (fun _ (s:Int×List Zf) z=>bif hsB z c then (bif hvB z.1 then (s.1+1,s.2) else (s.1,s.2++[z.1])) else s) i (n,m) l=(n+(Zv2 c l:Int),m++ZqD c l)
 | [],_,n,m=>by simp[Zc8,Zv2,ZqD]
 | z :: l,i,n,m=>by
  have ih:=ZsR c l (i+1)
  unfold Zc8 Zv2
  have ho:ZqD c (z :: l)=(bif hsB z c && !hvB z.1 then [z.1] else [])++ZqD c l:=by
   unfold ZqD
   rw[List.filter_cons]
   cases hsB z c && !hvB z.1<;>rfl
  rw[ho]
  cases hsB z c with
  | false=>
   rw[cond_false,ih]
   simp
  | true=>
   cases hvB z.1 with
   | true=>
    rw[cond_true,cond_true,ih]
    simp
    omega
   | false=>
    rw[cond_true,cond_false,ih]
    simp
theorem ZFH (s:List Zf) (r:List (List Int)) (c:Int) (hs:s.length<=1000) (hr:∀x∈r,x.length<=1000):Zhw ⟨s,r⟩ c 0=some ((Zv2 c (s.zip r):Int),ZqD c (s.zip r)):=by
 have hl:(s.zip r).length<=1000:=by rw[List.length_zip];omega
 have:=(ZgO (s.zip r) (Zc2 ⟨s,r⟩ c) (fun i s=>((i:Int),s.1,s.2)) (fun _ (s:Int×List Zf) z=>bif hsB z c then (bif hvB z.1 then (s.1+1,s.2) else (s.1,s.2++[z.1])) else s) id (fun i s=>0<=s.1/\s.1<=(i:Int)/\s.2.length<=i) (fun i z st hi hz hI=>by
   obtain⟨h1,h2⟩:=Zth hz
   have hrow:=hr _ (List.mem_of_getElem? h2)
   have hhas:=ZtO z.2 c (by omega)
   change Zas z.2 c=some (hsB z c) at hhas
   obtain⟨i1,i2,i3⟩:=hI
   simp only[Zc2,Zvr,ZcG hi,cond_true,ZU h1,ZU h2,Option.bind_some,ZhF,hhas,Zxe,ZJ hi (show(s.zip r).length<9223372036854775808 by omega)]
   cases hsB z c with
   | false=>exact⟨rfl,i1,by show st.1<=((i+1:Nat):Int);omega,by show st.2.length<=i+1;omega⟩
   | true=>
    cases hvB z.1 with
    | true=>
     refine⟨?_,by show 0<=st.1+1;omega,by show st.1+1<=((i+1:Nat):Int);omega,by show st.2.length<=i+1;omega⟩
     simp only[cond_true,Zac (show -9223372036854775808<=st.1+1 by omega) (show st.1+1<9223372036854775808 by omega)]
     rfl
    | false=>
     refine⟨?_,i1,by show st.1<=((i+1:Nat):Int);omega,by show(st.2++[z.1]).length<=i+1;rw[List.length_append,List.length_singleton];omega⟩
     simp only[cond_true,cond_false,ZgB (show st.2.length+1<=1073741824 by omega)]
     rfl) (fun st _=>by simp only[Zc2,Zvr,Zdn,cond_false];rfl) (0,[]) (by simp)).1
 unfold Zhw
 rw[show lp (Zc2 ⟨s,r⟩ c) (0,0,([]:List Zf))=_ from this,ZsR]
 simp
noncomputable def ZgD (z:ZlI) (c:Int):Bool:=ZdM z.1&&(!hvB z.1&&hsB z c)
noncomputable def liL (c:Int):Nat->List ZlI->List Int
 | _,[]=>[]
 | i,z :: l=>bif ZgD z c then (i:Int) :: liL c (i+1) l else liL c (i+1) l
theorem Zs6 (c:Int):∀(l:List ZlI) (i:Nat) (m:List Int),Zc8 (fun i m z=>bif ZgD z c then m++[(i:Int)] else m) i m l=m++liL c i l
 | [],_,m=>by simp[Zc8,liL]
 | z :: l,i,m=>by
  unfold Zc8 liL
  rw[Zs6 c l]
  cases ZgD z c<;>simp
theorem ZFa (s:List Zf) (r:List (List Int)) (c:Int) (hs:s.length<=1000) (hr:∀x∈r,x.length<=1000):ZiE ⟨s,r⟩ c=some (liL c 0 (s.zip r)):=by
 have hl:(s.zip r).length<=1000:=by rw[List.length_zip];omega
 have:=(ZgO (s.zip r) (Zc3 ⟨s,r⟩ c) (fun i m=>((i:Int),m)) (fun i m z=>bif ZgD z c then m++[(i:Int)] else m) id (fun i m=>m.length<=i) (fun i z m hi hz hI=>by
   obtain⟨h1,h2⟩:=Zth hz
   have hrow:=hr _ (List.mem_of_getElem? h2)
   have hhas:=ZtO z.2 c (by omega)
   change Zas z.2 c=some (hsB z c) at hhas
   simp only[Zc3,Zvr,ZcG hi,cond_true,ZU h1,ZU h2,Option.bind_some,ZhH,ZpF,hhas,Zxe,ZJ hi (show(s.zip r).length<9223372036854775808 by omega)]
   unfold ZgD
   cases ZdM z.1 with
   | false=>exact⟨rfl,by show m.length<=i+1;omega⟩
   | true=>
    cases hvB z.1 with
    | true=>exact⟨rfl,by show m.length<=i+1;omega⟩
    | false=>
     cases hsB z c with
     | false=>exact⟨rfl,by show m.length<=i+1;omega⟩
     | true=>
      refine⟨?_,by show(m++[(i:Int)]).length<=i+1;rw[List.length_append,List.length_singleton];omega⟩
      simp only[cond_true,cond_false,ZgB (show m.length+1<=1073741824 by omega),Zrn,beq_self_eq_true]
      rfl) (fun m _=>by simp only[Zc3,Zvr,Zdn,cond_false];rfl) [] (by simp)).1
 unfold ZiE Zje
 rw[show lp (Zc3 ⟨s,r⟩ c) (0,([]:List Int))=_ from this,Zs6]
 rfl
theorem Zz3 (c:Int):∀(l:List ZlI) (i:Nat),(liL c i l).length<=l.length
 | [],_=>by simp[liL]
 | z :: l,i=>by
  have:=Zz3 c l (i+1)
  unfold liL
  cases ZgD z c
  ·simp only[cond_false,List.length_cons];omega
  ·simp only[cond_true,List.length_cons];omega
noncomputable def Zoo (c:Int) (l:List ZlI):List Zf:=(l.filter fun z=>ZgD z c).map Prod.fst
theorem Zt2 (c:Int) (s:List Zf):∀(l:List ZlI) (i:Nat),(∀(j:Nat) z,l[j]? = some z->s[i+j]? = some z.1)->(liL c i l).map (fun x=>(Zz s x))=(Zoo c l).map some
 | [],_,_=>by simp[liL,Zoo]
 | z :: l,i,h=>by
  have ih:=Zt2 c s l (i+1) fun j y hy=>by rw[show i+1+j=i+(j+1) by omega];exact h (j+1) y hy
  have ho:Zoo c (z :: l)=(bif ZgD z c then [z.1] else [])++Zoo c l:=by
   unfold Zoo
   rw[List.filter_cons]
   cases ZgD z c<;>rfl
  rw[ho]
  unfold liL
  cases ZgD z c with
  | false=>rw[cond_false,cond_false,ih];rfl
  | true=>
   rw[cond_true,cond_true,List.map_cons,ih,ZU (show s[i]? = some z.1 from h 0 z rfl)]
   rfl
def ptS (t:Int) (s:Zf):Int:=s.deadline+((t-s.deadline) / s.period)*s.period
theorem ZGK {s:Zf} (o:Zg7 s) {t:Int} (h:s.deadline<=t):s.deadline<=ptS t s/\ptS t s<=t:=by
 have:=o.d1;have:=o.d2
 unfold ptS
 have h0:0<=(t-s.deadline) / s.period:=Int.ediv_nonneg (by omega) (by omega)
 have h1:(t-s.deadline) / s.period*s.period<=t-s.deadline:=Int.ediv_mul_le _ (by omega)
 have h2:0<=(t-s.deadline) / s.period*s.period:=Int.mul_nonneg h0 (by omega)
 omega
theorem ZED {s:Zf} (o:Zg7 s) {t u:Int} (hu:u<=t) (h:s.deadline<=t->ptS t s<=u):ZgC u s=ZgC t s:=by
 have:=o.d1;have:=o.d2
 unfold ZgC
 by_cases hd:t<s.deadline
 ·rw[if_pos hd,if_pos (by omega)]
 ·have h1:=(ZGK o (t:=t) (by omega)).1
  have h2:=h (by omega)
  rw[if_neg hd,if_neg (by omega)]
  have a1:(t-s.deadline) / s.period<=(u-s.deadline) / s.period:=by
   refine Int.le_ediv_of_mul_le (by omega) ?_
   unfold ptS at h2
   omega
  have a2:(u-s.deadline) / s.period<=(t-s.deadline) / s.period:=Int.ediv_le_ediv (by omega) (by omega)
  rw[Int.le_antisymm a2 a1]
theorem ZCE {t u:Int} (hu:u<=t):∀{l:List Zf},(∀s∈l,Zg7 s)->(∀s∈l,s.deadline<=t->ptS t s<=u)->dem u l=dem t l
 | [],_,_=>rfl
 | s :: l,ho,h=>by
  unfold dem
  rw[ZED (ho s (by simp)) hu (h s (by simp)),ZCE hu (fun x hx=>ho x (by simp[hx])) (fun x hx=>h x (by simp[hx]))]
theorem Zpy {t u:Int} (hu:u<=t):∀{l:List Zf},(∀s∈l,Zg7 s)->blk t l<=blk u l/\0<=blk t l
 | [],_=>by unfold blk;omega
 | s :: l,ho=>by
  have ih:=Zpy hu (l:=l) fun x hx=>ho x (by simp[hx])
  have:=(ho s (by simp)).m1
  have hb:ZmL t s<=ZmL u s:=by
   unfold ZmL
   split<;>split<;>omega
  have:=ih.1;have:=ih.2
  unfold blk
  omega
theorem Zrt (t:Int):∀{l:List Zf},(∃s∈l,s.deadline<=t)->∃s∈l,s.deadline<=t/\∀x∈l,x.deadline<=t->ptS t x<=ptS t s
 | [],h=>by obtain⟨s,hs,_⟩:=h;cases hs
 | y :: l,h=>by
  by_cases hl:∃s∈l,s.deadline<=t
  ·obtain⟨s,h1,h2,h3⟩:=Zrt t hl
   by_cases hy:y.deadline<=t/\ptS t s<ptS t y
   ·refine⟨y,by simp,hy.1,fun x hx hd=>?_⟩
    rcases List.mem_cons.1 hx with rfl | hx
    ·exact Int.le_refl _
    ·have:=h3 x hx hd;omega
   ·refine⟨s,by simp[h1],h2,fun x hx hd=>?_⟩
    rcases List.mem_cons.1 hx with rfl | hx
    ·have:¬ptS t s<ptS t x:=fun e=>hy ⟨hd,e⟩
     omega
    ·exact h3 x hx hd
  ·obtain⟨s,h1,h2⟩:=h
   rcases List.mem_cons.1 h1 with rfl | h1
   ·refine⟨s,by simp,h2,fun x hx hd=>?_⟩
    rcases List.mem_cons.1 hx with rfl | hx
    ·exact Int.le_refl _
    ·exact absurd ⟨x,hx,hd⟩ hl
   ·exact absurd ⟨s,h1,h2⟩ hl
theorem ZxD {l:List Zf} (h:ZsZ l) {t:Int} (ht:t<=hor l) (he:∃s∈l,s.deadline<=t):dem t l+blk t l<=t:=by
 obtain⟨hc,hp⟩:=h
 have ho:=fun s hs=>((Ze5 hc).2 s hs).1
 obtain⟨s,hs,hd,hm⟩:=Zrt t he
 have o:=ho s hs
 obtain⟨p1,p2⟩:=ZGK o hd
 have:=o.d1;have:=o.d2
 have h0:0<=(t-s.deadline) / s.period:=Int.ediv_nonneg (by omega) (by omega)
 have hk:((((t-s.deadline) / s.period).toNat:Nat):Int)=(t-s.deadline) / s.period:=Int.toNat_of_nonneg h0
 have key:=hp s hs ((t-s.deadline) / s.period).toNat
 rw[hk] at key
 change ptS t s<=hor l->dem (ptS t s) l+blk (ptS t s) l<=ptS t s at key
 have k2:=key (by omega)
 rw[ZCE p2 ho hm] at k2
 have:=(Zpy p2 ho).1
 omega
theorem ZtX {t:Int}:∀{l:List Zf},(¬∃s∈l,s.deadline<=t)->dem t l=0
 | [],_=>rfl
 | s :: l,h=>by
  have h1:t<s.deadline:=Int.not_le.1 fun e=>h ⟨s,by simp,e⟩
  have h2:=ZtX (t:=t) (l:=l) fun⟨x,hx,e⟩=>h ⟨x,by simp[hx],e⟩
  unfold dem ZgC
  rw[if_pos h1,h2];rfl
theorem Zz4 {l:List Zf} (h:ZsZ l) {t:Int} (h0:0<=t) (ht:t<=hor l):dem t l<=t:=by
 have ho:=fun s hs=>((Ze5 h.1).2 s hs).1
 by_cases he:∃s∈l,s.deadline<=t
 ·have:=ZxD h ht he
  have:=(Zpy (Int.le_refl t) ho).2
  omega
 ·rw[ZtX he];exact h0
theorem ZCM {p q:Nat} (hp:ZzG p=true) (hq:ZzG q=true) (h:p<=q):p ∣ q:=by
 have key:∀p∈[1,2,4,8,16,32,64,128,256,512,1024,2048,4096],∀q∈[1,2,4,8,16,32,64,128,256,512,1024,2048,4096],p<=q->q % p=0:=by decide
 unfold ZzG at hp hq
 exact Nat.dvd_of_mod_eq_zero (key p (by simpa using hp) q (by simpa using hq) h)
theorem ZwZ:∀{l:List Zf},(∀s∈l,1<=s.period)->l≠[]->(∃s∈l,hor l=s.period)/\∀s∈l,s.period<=hor l
 | [],_,h=>absurd rfl h
 | s :: l,hp,_=>by
  have h1:=hp s (by simp)
  cases l with
  | nil=>
   unfold hor hor
   refine⟨⟨s,by simp,by omega⟩,fun x hx=>by rw[List.mem_singleton.1 hx];omega⟩
  | cons y l=>
   obtain⟨⟨z,hz,e⟩,hm⟩:=ZwZ (l:=y :: l) (fun x hx=>hp x (by simp[hx])) (by simp)
   unfold hor
   refine⟨?_,fun x hx=>?_⟩
   ·by_cases hs:s.period<=hor (y :: l)
    ·exact⟨z,by simp[hz],by omega⟩
    ·exact⟨s,by simp,by omega⟩
   ·rcases List.mem_cons.1 hx with rfl | hx
    ·omega
    ·have:=hm x hx;omega
theorem ZzU {s:Zf} (h:ZdM s=true):ZzG s.period.toNat=true:=by
 have o:=ZlV h
 have:=o.p;have:=o.d1;have:=o.d2
 unfold ZdM at h
 have ht:Zww s.period=true:=by
  simp only[Bool.and_eq_true] at h
  exact h.1
 rw[<- Zzl s.period.toNat (by omega),Int.toNat_of_nonneg (by omega)]
 exact ht
theorem ZF0 {l:List Zf} (hc:ZfZ l=true) {s:Zf} (hs:s∈l):∃m:Int,hor l=m*s.period:=by
 have ho:=Ze5 hc
 have hk:∀s∈l,ZdM s=true:=fun s hs=>by
  unfold ZfZ at hc
  simp only[Bool.and_eq_true,Bool.not_eq_true'] at hc
  have:=List.any_eq_false.1 hc.2 s hs
  unfold okS at this
  simp only[Bool.not_eq_true',Bool.not_eq_false,Bool.and_eq_true] at this
  exact this.1
 have hp:∀s∈l,1<=s.period:=fun s hs=>by have:=(ho.2 s hs).1.d1;have:=(ho.2 s hs).1.d2;omega
 obtain⟨⟨z,hz,e⟩,hm⟩:=ZwZ hp (List.ne_nil_of_mem hs)
 have h1:=hp s hs;have h2:=hp z hz;have h3:=hm s hs
 obtain⟨m,hm2⟩:=ZCM (ZzU (hk s hs)) (ZzU (hk z hz)) (show s.period.toNat<=z.period.toNat by omega)
 refine⟨(m:Int),?_⟩
 rw[e]
 have e2:((z.period.toNat:Nat):Int)=((s.period.toNat*m:Nat):Int):=by rw[hm2]
 rw[Int.toNat_of_nonneg (by omega)] at e2
 rw[e2]
 push_cast
 rw[Int.toNat_of_nonneg (by omega),Int.mul_comm]
theorem ZoB {s:Zf} (o:Zg7 s) {t:Int} (h:0<=t):ZgC t s=s.total*((t-s.deadline) / s.period+1):=by
 have:=o.d1;have:=o.d2
 unfold ZgC
 split
 ·have e:(t-s.deadline) / s.period = -1:=by
   have h1:(t-s.deadline+s.period) / s.period=0:=Int.ediv_eq_zero_of_lt (by omega) (by omega)
   have h2:(t-s.deadline+1*s.period) / s.period=(t-s.deadline) / s.period+1:=Int.add_mul_ediv_right _ _ (by omega)
   rw[Int.one_mul] at h2
   omega
  rw[e];simp
 ·rfl
theorem Zxx {s:Zf} (o:Zg7 s) {H m:Int} (hH:H=m*s.period) (h0:0<=H) {r q:Int} (hr:0<=r) (hq:0<=q):ZgC (r+q*H) s=ZgC r s+q*ZgC H s:=by
 have:=o.d1;have:=o.d2
 have hqH:0<=q*H:=Int.mul_nonneg hq h0
 rw[ZoB o (by omega),ZoB o hr,ZoB o h0]
 have e1:(r+q*H-s.deadline) / s.period=(r-s.deadline) / s.period+q*m:=by
  rw[hH,show r+q*(m*s.period)-s.deadline=(r-s.deadline)+(q*m)*s.period by rw[Int.mul_assoc];omega]
  exact Int.add_mul_ediv_right _ _ (by omega)
 have e2:(H-s.deadline) / s.period=m-1:=by
  rw[hH,show m*s.period-s.deadline=(s.period-s.deadline)+(m-1)*s.period by rw[Int.sub_mul];omega,Int.add_mul_ediv_right _ _ (by omega),Int.ediv_eq_zero_of_lt (by omega) (by omega)]
  omega
 rw[e1,e2,show(r-s.deadline) / s.period+q*m+1=((r-s.deadline) / s.period+1)+q*m by omega,show m-1+1=m by omega,Int.mul_add,Int.mul_left_comm]
theorem ZvC {H:Int} (h0:0<=H) {r q:Int} (hr:0<=r) (hq:0<=q):∀{l:List Zf},(∀s∈l,Zg7 s/\∃m:Int,H=m*s.period)->dem (r+q*H) l=dem r l+q*dem H l
 | [],_=>by unfold dem;simp
 | s :: l,h=>by
  obtain⟨o,m,hm⟩:=h s (by simp)
  have ih:=ZvC h0 hr hq (l:=l) fun x hx=>h x (by simp[hx])
  unfold dem
  rw[ih,Zxx o hm h0 hr hq,Int.mul_add]
  omega
theorem Zyh {t:Int}:∀{l:List Zf},(∀s∈l,s.deadline<=t)->blk t l=0
 | [],_=>rfl
 | s :: l,h=>by
  have h1:=h s (by simp)
  have h2:=Zyh (t:=t) (l:=l) fun x hx=>h x (by simp[hx])
  unfold blk ZmL
  rw[if_neg (by omega),h2];rfl
theorem ZBI {l:List Zf} (h:ZsZ l) {t:Int} (ht:1<=t) (hd:0<dem t l):dem t l+blk t l<=t:=by
 have he:∃s∈l,s.deadline<=t:=Classical.byContradiction fun hn=>by rw[ZtX hn] at hd;omega
 by_cases hh:t<=hor l
 ·exact ZxD h hh he
 ·have ho:=fun s hs=>((Ze5 h.1).2 s hs).1
  obtain⟨z,hz,_⟩:=he
  have hp:∀s∈l,1<=s.period:=fun s hs=>by have:=(ho s hs).d1;have:=(ho s hs).d2;omega
  obtain⟨_,hm⟩:=ZwZ hp (List.ne_nil_of_mem hz)
  have hH:1<=hor l:=by have:=hm z hz;have:=hp z hz;omega
  rw[Zyh fun s hs=>by have:=hm s hs;have:=(ho s hs).d2;omega]
  have hq:0<=(t-1) / hor l:=Int.ediv_nonneg (by omega) (by omega)
  have hr0:0<=(t-1) % hor l:=Int.emod_nonneg _ (by omega)
  have hr1:(t-1) % hor l<hor l:=Int.emod_lt_of_pos _ (by omega)
  have hdm:hor l*((t-1) / hor l)+(t-1) % hor l=t-1:=Int.mul_ediv_add_emod _ _
  generalize (t-1) / hor l=q at hq hdm
  generalize (t-1) % hor l=r at hr0 hr1 hdm
  have e:t=(r+1)+q*hor l:=by rw[Int.mul_comm q];omega
  have k1:=ZvC (H:=hor l) (by omega) (r:=r+1) (q:=q) (by omega) hq (l:=l) fun s hs=>⟨ho s hs,ZF0 h.1 hs⟩
  rw[<- e] at k1
  have k2:=Zz4 h (t:=r+1) (by omega) (by omega)
  have k3:=Zz4 h (t:=hor l) (by omega) (Int.le_refl _)
  have k4:q*dem (hor l) l<=q*hor l:=Int.mul_le_mul_of_nonneg_left k3 hq
  omega
theorem ZBJ {s:Zf} (o:Zg7 s) {t:Int} (h1:1<=t) (h2:t<=1099511627775):0<=ZgC t s/\ZgC t s<=9007199254740992:=by
 have:=o.t1;have:=o.t2;have:=o.d1;have:=o.d2
 unfold ZgC
 split
 ·omega
 ·have q1:0<=(t-s.deadline) / s.period:=Int.ediv_nonneg (by omega) (by omega)
  have q2:(t-s.deadline) / s.period<=t-s.deadline:=Int.ediv_le_self _ (by omega)
  constructor
  ·exact Int.mul_nonneg (by omega) (by omega)
  ·have:s.total*((t-s.deadline) / s.period+1)<=4096*2199023255552:=Int.mul_le_mul (by omega) (by omega) (by omega) (by omega)
   omega
theorem Zzj (l:List Zf) (h:ZfZ l=true) (t:Int) (h1:1<=t) (h2:t<=1099511627775):Ze8 l t=some (dem t l):=by
 obtain⟨hl,ho⟩:=Ze5 h
 have key:=ZwY l hl (fun z0 z1=>Zcn z0 z1 t) (fun n s=>n+ZgC t s) (fun n s hs hn hn2=>by
  have o:=(ho s hs).1
  obtain⟨b1,b2⟩:=ZBJ o h1 h2
  have:=o.t1;have:=o.t2;have:=o.d1;have:=o.d2;have:=o.p
  refine⟨?_,by omega,by omega⟩
  show Zcn n s t=some (n+ZgC t s)
  unfold Zcn
  unfold ZgC at b1 b2 ⊢
  by_cases hd:t<s.deadline
  ·rw[decide_eq_true hd,if_pos hd,Int.add_zero];rfl
  ·rw[decide_eq_false hd,if_neg hd]
   rw[if_neg hd] at b1 b2
   have q1:0<=(t-s.deadline) / s.period:=Int.ediv_nonneg (by omega) (by omega)
   have q2:(t-s.deadline) / s.period<=t-s.deadline:=Int.ediv_le_self _ (by omega)
   have e1:w64 (t-s.deadline)=t-s.deadline:=Zac (by omega) (by omega)
   have e2:w64 (Int.tdiv (t-s.deadline) s.period)=(t-s.deadline) / s.period:=by
    rw[Int.tdiv_eq_ediv_of_nonneg (by omega)]
    exact Zac (by omega) (by omega)
   have e3:w64 ((t-s.deadline) / s.period+1)=(t-s.deadline) / s.period+1:=Zac (by omega) (by omega)
   have e4:w64 (s.total*((t-s.deadline) / s.period+1))=s.total*((t-s.deadline) / s.period+1):=Zac (by omega) (by omega)
   have e5:w64 (n+s.total*((t-s.deadline) / s.period+1))=n+s.total*((t-s.deadline) / s.period+1):=Zac (by omega) (by omega)
   simp only[cond_false,show(s.period==0)=false by simp;omega,e1,e2,e3,e4,e5])
 unfold Ze8
 rw[key,Zqr (ZgC t) (dem t) rfl (fun _ _=>rfl),Int.zero_add]
 rfl
noncomputable def Zhl (u:Int):Nat->List Zf->List Int->List ZlI
 | _,[],_=>[]
 | k,z :: s,a=>bif hv z then (z,Zbk k (cN z)) :: Zhl u (k+cN z) s a else (match a with | x :: a=>(z,[u+x]) :: Zhl u k s a | []=>(z,[]) :: Zhl u k s [])
theorem ZiU {u:Int}{k:Nat}{z:Zf}{s:List Zf}{a:List Int} (h:hv z=true):Zhl u k (z :: s) a=(z,Zbk k (cN z)) :: Zhl u (k+cN z) s a:=by
 show(bif hv z then _ else _)=_
 rw[h];rfl
theorem ZiT {u:Int}{k:Nat}{z:Zf}{s:List Zf}{x:Int}{a:List Int} (h:hv z=false):Zhl u k (z :: s) (x :: a)=(z,[u+x]) :: Zhl u k s a:=by
 show(bif hv z then _ else _)=_
 rw[h];rfl
theorem ZoF (z:Zf) (s:List Zf):ZaQ (z :: s)=bif hv z then ZaQ s else z :: ZaQ s:=by
 unfold ZaQ
 rw[List.filter_cons]
 cases hv z<;>rfl
theorem Zki {P:Nat->List Zf->List Int->Prop} (h0:∀k,P k [] []) (h1:∀k z s a,hv z=true->P (k+cN z) s a->P k (z :: s) a) (h2:∀k z s x a,hv z=false->P k s a->P k (z :: s) (x :: a)) :
  ∀(s:List Zf) (k:Nat) (a:List Int),a.length=(ZaQ s).length->P k s a
 | [],k,a,h=>by
  have:a=[]:=List.eq_nil_of_length_eq_zero h
  subst this
  exact h0 k
 | z :: s,k,a,h=>by
  rw[ZoF] at h
  cases hz:hv z with
  | true=>
   rw[hz,cond_true] at h
   exact h1 k z s a hz (Zki h0 h1 h2 s _ a h)
  | false=>
   rw[hz,cond_false] at h
   cases a with
   | nil=>cases h
   | cons x a=>exact h2 k z s x a hz (Zki h0 h1 h2 s k a (by simpa using h))
theorem ZCs (u:Int) (s:List Zf) (k:Nat) (a:List Int) (h:a.length=(ZaQ s).length):s.zip (Zkx u s (ZcP k s) a)=Zhl u k s a:=by
 refine Zki (P:=fun k s a=>s.zip (Zkx u s (ZcP k s) a)=Zhl u k s a) (fun k=>rfl) (fun k z s a hz ih=>?_) (fun k z s x a hz ih=>?_) s k a h
 ·rw[ZiU hz,<- ih,Zl9,hz,cond_true]
  show(z :: s).zip (bif hv z then _ else _)=_
  rw[hz];rfl
 ·rw[ZiT hz,<- ih,Zl9,hz,cond_false,ZtW hz]
  rfl
theorem ZnL:∀(n k j:Nat) (x:Int),(Zbk k n)[j]? = some x->x=((k+j:Nat):Int)/\j<n
 | 0,_,_,_,h=>by simp[Zbk] at h
 | n+1,k,0,x,h=>by
  have e:(some (k:Int))=some x:=h
  cases e
  exact⟨rfl,by omega⟩
 | n+1,k,j+1,x,h=>by
  obtain⟨h1,h2⟩:=ZnL n (k+1) j x h
  exact⟨by rw[h1];omega,by omega⟩
theorem ZCz {n k j:Nat} (h:j<n):(Zbk k n)[j]? = some ((k+j:Nat):Int):=by
 have e:=List.getElem?_eq_getElem (l:=Zbk k n) (i:=j) (by rw[ZeU];exact h)
 obtain⟨h1,_⟩:=ZnL n k j _ e
 rw[e,h1]
theorem ZnJ (c:Int):∀(n k:Nat),((Zbk k n).any fun x=>c==x)=decide ((k:Int)<=c/\c<((k+n:Nat):Int))
 | 0,k=>by
  rw[decide_eq_false (by omega)];rfl
 | n+1,k=>by
  show((c==(k:Int)) || ((Zbk (k+1) n).any fun x=>c==x))=_
  rw[ZnJ c n (k+1)]
  by_cases h:c=(k:Int)
  ·rw[show(c==(k:Int))=true from beq_iff_eq.2 h,decide_eq_true (show(k:Int)<=c/\c<((k+(n+1):Nat):Int) by omega)];rfl
  ·rw[show(c==(k:Int))=false from beq_eq_false_iff_ne.2 h,Bool.false_or]
   exact decide_eq_decide.2 (by omega)
theorem ZyP {k n:Nat}{c:Int} (h:((k+n:Nat):Int)<=c):Ztv (Zbk k n) c=false:=by
 refine ZAh fun j x hx=>?_
 obtain⟨e,hj⟩:=ZnL n k j x hx
 rw[Nat.zero_add,decide_eq_false (by omega),decide_eq_false (by omega),Bool.false_or,Bool.false_or]
 by_cases h0:0<j
 ·unfold Zyl
  rw[ZCz (show j-1<n by omega)]
  dsimp only
  rw[decide_eq_false (show ¬x<=((k+(j-1):Nat):Int) by omega),Bool.and_false]
 ·rw[decide_eq_false h0];rfl
theorem ZET {x c:Int} (h0:0<=x) (h1:x<c):Ztv [x] c=false:=by
 show((decide (x<0) || (decide (c<=x) || (decide (0<0)&&_))) || false)=false
 rw[decide_eq_false (by omega),decide_eq_false (by omega),decide_eq_false (by omega)]
 rfl
theorem ZvR {s:List Zf} (ok:Zho s) {z:Zf} (hz:z∈s):ZdM z=true/\hvB z=hv z:=by
 have:=(Zhp (ok z hz)).1
 exact⟨this,by unfold hvB;rw[this];rfl⟩
theorem Zho.tail {z:Zf}{s:List Zf} (h:Zho (z :: s)):Zho s:=fun y hy=>h y (by simp[hy])
theorem ZE7 (u b:Int) (s:List Zf) (k:Nat) (a:List Int) (h:a.length=(ZaQ s).length):Zho s->((k+Z1 s:Nat):Int)<=b->(∀x∈a,0<=u+x/\u+x<b)->(Zhl u k s a).all (fun z=>Zpf z b)=true:=by
 refine Zki (P:=fun k s a=>Zho s->((k+Z1 s:Nat):Int)<=b->(∀x∈a,0<=u+x/\u+x<b)->(Zhl u k s a).all (fun z=>Zpf z b)=true) (fun k _ _ _=>rfl) (fun k z s a hz ih ok hb ha=>?_) (fun k z s x a hz ih ok hb ha=>?_) s k a h
 ·have e:=ok z (by simp)
  obtain⟨_,c1,_,_⟩:=Zhp e
  rw[Zft,hz,cond_true] at hb
  rw[ZiU hz,List.all_cons,ih ok.tail (by omega) ha,Bool.and_true]
  unfold Zpf
  rw[e,ZyP (by omega),ZeU,show((cN z:Nat):Int)=(ZbP z).1 from Int.toNat_of_nonneg (by omega)]
  simp
 ·have e:=ok z (by simp)
  obtain⟨_,_,_,c1⟩:=Zhp e
  rw[Zft,hz,cond_false,Nat.zero_add] at hb
  have hx:=ha x (by simp)
  rw[ZiT hz,List.all_cons,ih ok.tail hb fun y hy=>ha y (by simp[hy]),Bool.and_true]
  unfold Zpf
  rw[e,c1 hz,ZET hx.1 hx.2]
  rfl
theorem ZFp (z:Zf) (s:List Zf) (x:Int) (a:List Int) (c:Int):on (z :: s) (x :: a) c=(bif x==c then [z] else [])++on s a c:=by
 unfold on
 rw[List.zip_cons_cons,List.filter_cons]
 cases h:x==c<;>simp[h]
theorem Zyp (u c:Int) (s:List Zf) (k:Nat) (a:List Int) (h:a.length=(ZaQ s).length):Zho s->ZqD c (Zhl u k s a)=on (ZaQ s) a (c-u)/\Zoo c (Zhl u k s a)=on (ZaQ s) a (c-u):=by
 have cH:∀(z:ZlI) l,ZqD c (z :: l)=(bif hsB z c && !hvB z.1 then [z.1] else [])++ZqD c l:=fun z l=>by
  unfold ZqD
  rw[List.filter_cons]
  cases hsB z c && !hvB z.1<;>rfl
 have cL:∀(z:ZlI) l,Zoo c (z :: l)=(bif ZgD z c then [z.1] else [])++Zoo c l:=fun z l=>by
  unfold Zoo
  rw[List.filter_cons]
  cases ZgD z c<;>rfl
 refine Zki (P:=fun k s a=>Zho s->ZqD c (Zhl u k s a)=on (ZaQ s) a (c-u)/\Zoo c (Zhl u k s a)=on (ZaQ s) a (c-u)) (fun k _=>⟨rfl,rfl⟩) (fun k z s a hz ih ok=>?_) (fun k z s x a hz ih ok=>?_) s k a h
 ·obtain⟨o1,o2⟩:=ZvR ok (z:=z) (by simp)
  obtain⟨i1,i2⟩:=ih ok.tail
  rw[ZiU hz,cH,cL,i1,i2,ZoF,hz,cond_true]
  unfold ZgD
  dsimp only
  rw[o2,hz,Bool.not_true,Bool.and_false,Bool.false_and,Bool.and_false]
  exact⟨rfl,rfl⟩
 ·obtain⟨o1,o2⟩:=ZvR ok (z:=z) (by simp)
  obtain⟨i1,i2⟩:=ih ok.tail
  rw[ZiT hz,cH,cL,i1,i2,ZoF,hz,cond_false,ZFp]
  have hs:hsB (z,[u+x]) c=(x==c-u):=by
   show((c==u+x) || false)=_
   rw[Bool.or_false]
   by_cases e:c=u+x
   ·rw[show(c==u+x)=true from beq_iff_eq.2 e,show(x==c-u)=true from beq_iff_eq.2 (by omega)]
   ·rw[show(c==u+x)=false from beq_eq_false_iff_ne.2 e,show(x==c-u)=false from beq_eq_false_iff_ne.2 (by omega)]
  unfold ZgD
  dsimp only
  rw[o1,o2,hz,hs,Bool.not_false,Bool.and_true,Bool.true_and,Bool.true_and]
  exact⟨rfl,rfl⟩
theorem ZEt (u c:Int) (s:List Zf) (k:Nat) (a:List Int) (h:a.length=(ZaQ s).length):Zho s->Zv2 c (Zhl u k s a)=if (k:Int)<=c/\c<((k+Z1 s:Nat):Int) then 1 else 0:=by
 refine Zki (P:=fun k s a=>Zho s->Zv2 c (Zhl u k s a)=if (k:Int)<=c/\c<((k+Z1 s:Nat):Int) then 1 else 0) (fun k _=>?_) (fun k z s a hz ih ok=>?_) (fun k z s x a hz ih ok=>?_) s k a h
 ·rw[show Z1 []=0 from by simp[Z1],if_neg (by omega)];rfl
 ·obtain⟨o1,o2⟩:=ZvR ok (z:=z) (by simp)
  rw[ZiU hz,Zft,hz,cond_true]
  unfold Zv2
  rw[ih ok.tail]
  dsimp only
  rw[show hsB (z,Zbk k (cN z)) c=_ from ZnJ c (cN z) k,o2,hz,Bool.and_true]
  by_cases q:(k:Int)<=c/\c<((k+cN z:Nat):Int)
  ·rw[decide_eq_true q,cond_true,if_neg (by omega),if_pos (by omega)]
  ·rw[decide_eq_false q,cond_false,Nat.zero_add]
   by_cases q2:((k+cN z:Nat):Int)<=c/\c<((k+cN z+Z1 s:Nat):Int)
   ·rw[if_pos q2,if_pos (by omega)]
   ·rw[if_neg q2,if_neg (by omega)]
 ·obtain⟨o1,o2⟩:=ZvR ok (z:=z) (by simp)
  rw[ZiT hz,Zft,hz,cond_false,Nat.zero_add]
  unfold Zv2
  rw[ih ok.tail]
  dsimp only
  rw[o2,hz,Bool.and_false,cond_false,Nat.zero_add]
theorem ZyS (u:Int) (s:List Zf) (k:Nat) (a:List Int) (h:a.length=(ZaQ s).length):∀(i:Nat) (z:ZlI),(Zhl u k s a)[i]? = some z->hv z.1=true->z.2=Zbk (k+Z1 (s.take i)) (cN z.1):=by
 refine Zki (P:=fun k s a=>∀(i:Nat) (z:ZlI),(Zhl u k s a)[i]? = some z->hv z.1=true->z.2=Zbk (k+Z1 (s.take i)) (cN z.1)) (fun k i z hi=>by simp[Zhl] at hi) (fun k z s a hz ih i y hi hy=>?_) (fun k z s x a hz ih i y hi hy=>?_) s k a h
 ·rw[ZiU hz] at hi
  cases i with
  | zero=>
   have e:some (z,Zbk k (cN z))=some y:=hi
   cases e
   rw[List.take_zero,show Z1 []=0 from by simp[Z1]]
   rfl
  | succ i=>
   have:=ih i y hi hy
   rw[List.take_succ_cons,Zft,hz,cond_true,<- Nat.add_assoc]
   exact this
 ·rw[ZiT hz] at hi
  cases i with
  | zero=>
   have e:some (z,[u+x])=some y:=hi
   cases e
   rw[hz] at hy;cases hy
  | succ i=>
   have:=ih i y hi hy
   rw[List.take_succ_cons,Zft,hz,cond_false,Nat.zero_add]
   exact this
structure ZEH (s:List Zf) (b:Nat) (p:Zan) (a:List Int):Prop where
 sh:p.shapes=s
 len:p.cores.length=s.length
 row:∀r∈p.cores,r.length<=1000
 zip:s.zip p.cores=Zhl (Z1 s:Int) 0 s a
 al:a.length=(ZaQ s).length
 used:Z1 s<=b
 rng:∀x∈a,0<=x/\x<((b-Z1 s:Nat):Int)
 fit:∀c:Int,0<=c->c<(b:Int)->ZsZ (on (ZaQ s) a (c-(Z1 s:Int)))
theorem ZGb {s:List Zf} (ok:Zho s) (hs:s.length<=8) {b:Nat} (hb:b<=8) {p:Zan} (h:Zmk s b=some p):∃a,ZEH s b p a:=by
 obtain⟨_,_,h3⟩:=ZzH ok hs hb h
 obtain⟨h1,a,h2,rfl⟩:=Zrg h
 have hll:(ZaQ s).length<=8:=Nat.le_trans (List.length_filter_le _ _) hs
 obtain⟨R,hal⟩:=ZuO (show(ZaQ s).length<=1000 by omega) (Zm9 hs ok) (by omega) h2
 refine⟨a,rfl,?_,h3,ZCs _ _ _ _ hal,hal,h1,R.ok,fun c c0 cb=>?_⟩
 ·show(Zkx (Z1 s:Int) s (ZcP 0 s) a).length=s.length
  rw[Zne,ZlY]
 ·by_cases hu:c<(Z1 s:Int)
  ·rw[Zwp _ _ _ fun x hx=>by have:=R.ok x hx;omega]
   exact(ZlN _).1 Zxv
  ·have:=R.fit (c-(Z1 s:Int)).toNat (by omega)
   rw[Int.toNat_of_nonneg (by omega)] at this
   exact(ZlN _).1 this
theorem Zw8 {s:List Zf} (ok:Zho s) (hs:s.length<=8) {b:Nat} (b1:1<=b) (hb:b<=8) {p:Zan}{a:List Int} (P:ZEH s b p a):ZiL ⟨s,p.cores⟩ (b:Int)=some true:=by
 have hu:=P.used
 have hU:=ZE7 (Z1 s:Int) (b:Int) s 0 a P.al ok (by omega) (fun x hx=>by have:=P.rng x hx;omega)
 rw[<- P.zip] at hU
 have loop:∀(k i:Nat),i+k=b->lp (Zd2 ⟨s,p.cores⟩ (b:Int)) (i:Int)=some (.inr ()):=by
  intro k
  induction k with
  | zero=>
   intro i hi
   have hi:i=b:=by omega
   subst hi
   rw[Zaj]
   simp only[Zd2,Zdn,cond_false]
  | succ k ih=>
   intro i hi
   obtain⟨o1,_⟩:=Zyp (Z1 s:Int) (i:Int) s 0 a P.al ok
   have c1:=ZEt (Z1 s:Int) (i:Int) s 0 a P.al ok
   rw[<- P.zip] at o1 c1
   have F:=P.fit (i:Int) (by omega) (by omega)
   rw[<- o1] at F
   have hfl:(ZqD (i:Int) (s.zip p.cores)).length<=1000:=by
    have:=(Ze5 F.1).1;omega
   have ff:=ZDZ _ hfl
   rw[(ZlN _).2 F] at ff
   rw[Zaj]
   simp only[Zd2,decide_eq_true (show(i:Int)<(b:Int) by omega),cond_true,ZFH s p.cores (i:Int) (by omega) P.row,Option.bind_some,ff,Zac (show -9223372036854775808<=(i:Int)+1 by omega) (show(i:Int)+1<9223372036854775808 by omega)]
   have hn:=ih (i+1) (by omega)
   by_cases q:(i:Int)<(Z1 s:Int)
   ·rw[if_pos (by omega)] at c1
    have e0:ZqD (i:Int) (s.zip p.cores)=[]:=by
     rw[o1]
     exact Zwp _ _ _ fun x hx=>by have:=P.rng x hx;omega
    rw[c1,e0]
    exact hn
   ·rw[if_neg (by omega)] at c1
    rw[c1]
    exact hn
 unfold ZiL
 dsimp only
 rw[decide_eq_false (show ¬(b:Int)<1 by omega),decide_eq_false (show ¬8<(b:Int) by omega),decide_eq_false (show ¬8<(s.length:Int) by omega),P.len]
 simp only[bne_self_eq_false,cond_false,ZIf s p.cores (b:Int) (by omega) P.row,Option.bind_some,hU,cond_true]
 rw[show lp (Zd2 ⟨s,p.cores⟩ (b:Int)) 0=_ from loop b 0 (by omega)]
 rfl
theorem Zva (p:Zan) (h1:p.shapes.length<=1000) (h2:p.cores.length<=1000) (h3:∀r∈p.cores,r.length<=1000):Zh4 p=some p.cores:=by
 have:=ZgO p.cores (Ze4 p) (fun i m=>((i:Int),m)) (fun _ m x=>m++[x]) id (fun i m=>m=p.cores.take i) (fun i x m hi hx hI=>by
   have hr:=h3 x (List.mem_of_getElem? hx)
   have hm:m.length<=1000:=by rw[hI,List.length_take];omega
   refine⟨?_,?_⟩
   ·simp only[Ze4,ZcG hi,cond_true,ZU hx,Option.bind_some,ZgB (show x.length<=1073741824 by omega),ZgB (show m.length+1<=1073741824 by omega),ZJ hi (show p.cores.length<9223372036854775808 by omega)]
   ·rw[hI,List.take_add_one,hx];rfl) (fun m _=>by simp only[Ze4,Zdn,cond_false];rfl) [] (by simp)
 unfold Zh4
 rw[ZgB (show p.shapes.length<=1073741824 by omega),cond_true,show lp (Ze4 p) (0,([]:List (List Int)))=_ from this.1,this.2,List.take_length]
 rfl
section
variable {α β:Type} {A B:Option α} {Q:α->Option β->Prop}
theorem yB {c:Bool}{X Y:Option β} (h1:ZdG A Q X) (h2:ZdG B Q Y):ZdG (bif c then A else B) Q (br c X Y):=ZcA rfl h1 h2
theorem yBn {c:Bool}{X Y:Option β} (h2:ZdG B Q Y):ZdG (bif c then none else B) Q (br c X Y):=ZcA rfl ZaW h2
theorem yBm {c:Bool}{X Y:Option β} (h1:ZdG A Q X):ZdG (bif c then A else none) Q (br c X Y):=ZcA rfl h1 ZaW
theorem yT {X Y:Option β} (h1:ZdG A Q X):ZdG A Q (br true X Y):=ZpO rfl h1
theorem yF {X Y:Option β} (h1:ZdG A Q Y):ZdG A Q (br false X Y):=ZI2 rfl h1
theorem yG {γ:Type}{f:γ->D}{l:List γ}{i:Int}{A:γ->Option α}{K:D->Option β} (k:∀r,Zz l i=some r->ZdG (A r) Q (K (f r))):ZdG ((Zz l i).bind A) Q (bnd (Zz (l.map f) i) K):=ZE8 rfl rfl k
theorem yC {γ:Type}{Γ:Ctx}{f:Nat}{args:List V}{E:Option γ}{A:γ->Option α}{K:V->Option β}{enc:γ->D} (w:∀r,E=some r->evD Γ f args=some (enc r)) (k:∀r,E=some r->ZdG (A r) Q (ZAK (enc r) K)):ZdG (E.bind A) Q (bnd (evW Γ f args []) (Zq8 K)):=ZDX enc w rfl k
theorem ZEq {γ:Type}{x:γ}{A:γ->Option α}{X:Option β} (k:ZdG (A x) Q X):ZdG ((some x).bind A) Q X:=k
theorem yR {a:α}{f:α->Option β}:ZdG (some a) (fun r rhs=>rhs=f r) (f a):=Zi rfl
theorem yBr {a:α}{c:Bool}{f:α->Option β}{Y:Option β} (h2:ZdG B (fun r rhs=>rhs=f r) Y):ZdG (bif c then some a else B) (fun r rhs=>rhs=f r) (br c (f a) Y):=yB yR h2
theorem evT {Γ : Ctx} {f : Nat} (fn : FnI) {args : List V} {E : Option α} {enc : α -> D} (hc : Γ.code f = some fn) (hn : Nat.beq args.length fn.nargs = true) (h : ZdG E (fun r rhs => rhs = some (enc r)) (Zi4 Γ 0 fn.body (ZbM 0 args) [] fun x e H1 => (match x with
      | .exit _=>none
      | _=>(match Zkv e H1 fn.res with
        | some l=>Zgl 0 [ZhI l] H1 fun _ vs H2=>(match vs with | [v]=>(match fr H2 6 v with | some (x,_)=>some x | none=>none) | _=>none)
        | none=>none)))):∀r,E=some r->evD Γ f args=some (enc r):=by rw[ZGw Γ f fn args hc hn];exact h
theorem evS {Γ : Ctx} {f : Nat} (fn : FnI) {args : List V} {H : Zl} {E : Option α} {enc : α -> V × Zl} (hc : Γ.code f = some fn) (hn : Nat.beq args.length fn.nargs = true) (h : ZdG E (fun r rhs => rhs = some (enc r)) (Zi4 Γ H.length fn.body (ZbM 0 args) H fun x e H1 => (match x with
      | .exit _=>none
      | _=>(match Zkv e H1 fn.res with
        | some l=>Zgl H.length [ZhI l] H1 fun _ vs H2=>(match vs with | [v]=>some (v,H2) | _=>none)
        | none=>none)))):∀r,E=some r->evW Γ f args H=some (enc r):=by rw[ZGC Γ f fn args H hc hn];exact h
theorem lpT {S R:Type}{step:S->Option (S⊕R)}{Γ:Ctx}{k:Nat}{live outs:List Nat}{b:C}{vs:S->List V}{H:S->Zl} (x:R->Ex×List V×Zl)
    (h:∀(s:S) (rec:S->Option R),(∀s r,rec s=some r->lpW Γ k live outs b (vs s) (H s)=some (x r))->ZdG (step s) (fun t rhs=>(match t with | .inl s'=>∀r,rec s'=some r->rhs=some (x r) | .inr r=>rhs=some (x r))) (Zi4 Γ k b (ZeD live (vs s)) (H s) fun x e H=>(match x with
      | .normal=>Zre k (live.map e) H fun vs H=>bnd (lpW Γ k live outs b vs H) some
      | x=>Zgl k (outs.map e) H fun _ vs H=>some (x,vs,H)))):∀s r,lp step s=some r->lpW Γ k live outs b (vs s) (H s)=some (x r):=
  ZIP (G:=fun s=>lpW Γ k live outs b (vs s) (H s)) x fun s rec ih=>by rw[ZI7];exact h s rec ih
end
theorem Zio:∀r,Zht=some r->evD ctx 9 []=some (D.bool r):=fun r h=>by
  cases h
  exact ZH2 100 (by kernel_rfl)
def Zuu (r:Bool):D:=(D.bool r)
def Zls (t0:Bool) (t1:Bool) (t2:Bool) (t3:Bool) (a:Zq):(Unit⊕Unit)->Ex×List V×Zl
  | (.inl r)=>(.ret,[(.ptr 0 0),(.d (D.bool false))],[(.cells (dV t0 t1 t2 t3 a))])
  | (.inr r)=>(.exit 0,[(.ptr 0 0),.bad],[(.cells (dV t0 t1 t2 t3 a))])
theorem Zpp {t0 t1:Bool}{t2 t3:Bool}{a:Zq}:∀(s0:Int) (r:(Unit⊕Unit)),lp (ZgG a) s0=some r->lpW ctx 0 [1,3] [1,2] ZCI [(.ptr 0 0),(zN s0)] [(.cells (dV t0 t1 t2 t3 a))]=some ((Zls t0 t1 t2 t3 a) r):=
 lpT (Zls t0 t1 t2 t3 a) fun s0 _ ih=>Zh (Zy _ _) (yB (yB (yG fun x1 hx1=>
  Zh (Zy _ _) (yB (Zi rfl)
  (Ze (Z4 rfl hx1) (Zh (Zy _ _) (yB (Zi rfl)
  (Zd (ih _)))))))
  (Zi rfl))
  (Zi rfl))
theorem ZtH {t0 t1:Bool}{t2 t3:Bool}{a:Zq}:∀r,(ZkK a)=some r->evD ctx 32 [(.d (D.agg (dA t0 t1 t2 t3 a)))]=some (Zuu r):=
 evT ZHn rfl rfl <| (by
 conv=>rhs;whnf
 refine Zc _ (Zpp _) fun r2 _=>?_
 rcases r2 with r2 | r2
 exact yR
 exact Zh (Zy _ _) (yB (Zh (Zy _ _) (yB (Zh (Zy _ _) (yB (Zh (Zy _ _) (yBr yR))
  yR))
  yR))
  yR))
def Zug (r:Bool):D:=(D.bool r)
def Zl1 (t0:Bool) (a:List Zq):(Unit⊕Unit)->Ex×List V×Zl
  | (.inl r)=>(.ret,[(.d (D.list t0 (List.map (ZeE true) a))),(.d (D.bool false))],[])
  | (.inr r)=>(.exit 0,[(.d (D.list t0 (List.map (ZeE true) a))),.bad],[])
theorem Zpv {t0:Bool}{a:List Zq}:∀(s0:Int) (r:(Unit⊕Unit)),lp (ZcO a) s0=some r->lpW ctx 0 [0,3] [0,2] ZEn [(.d (D.list t0 (List.map (ZeE true) a))),(zN s0)] []=some ((Zl1 t0 a) r):=
 lpT (Zl1 t0 a) fun s0 _ ih=>Zh (Zy _ _) (yB (yB (yG fun x1 _=>
  yC ZtH fun x2 _=>
  yB (Zd (ih _))
  (Zi rfl))
  (Zi rfl))
  (Zi rfl))
theorem Zt8 {t0:Bool}{a:List Zq}:∀r,(ZkI a)=some r->evD ctx 10 [(.d (D.list t0 (List.map (ZeE true) a)))]=some (Zug r):=
 evT ZGX rfl rfl <| (by
 conv=>rhs;whnf
 refine Zc _ (Zpv _) fun r3 _=>?_
 rcases r3 with r3 | r3
 exact yR
 exact Zh (Zy _ _) (yBr yR))
def Zux (t0:Bool) (t1:Bool) (t2:Bool) (t3:Bool) (a:Zq):(List Zu)->V×Zl
  | r=>((.agg [(zN a.period),(zN a.deadline),(.sl 0 3),(.sl 1 2),(.sl 2 3),(.sl 3 2)]),[(.arr 3 (List.map ZjY a.parts)),(.arr 2 (List.map ZaV a.edges)),(.arr 3 (List.map Z2 a.futures)),(.arr 2 (List.map Zde r))])
def Zlo (t0:Bool) (t1:Bool) (t2:Bool) (t3:Bool) (a:Zq):(List Zu)->Ex×List V×Zl
  | r=>(.exit 0,[(.ptr 0 0),(.ptr 1 0)],[(.cells [(zN 0),(zN 0),(.sl 2 3),(.sl 3 2),(.sl 4 3),(.sl 5 2)]),(.cells [(zN a.period),(zN a.deadline),(.sl 6 3),(.sl 7 2),(.sl 8 3),(.sl 9 2)]),(.arr 3 []),(.arr 2 []),(.arr 3 []),(.arr 2 []),(.arr 3 (List.map ZjY a.parts)),(.arr 2 (List.map ZaV a.edges)),(.arr 3 (List.map Z2 a.futures)),(.arr 2 (List.map Zde r))])
theorem Zo9 {t0 t1:Bool}{t2 t3:Bool}{a:Zq}:∀(s0:Int×(List Zu)) (r:List Zu),lp (ZfJ a) s0=some r->lpW ctx 0 [1,2,3,4] [2,3] ZC2 [(.ptr 0 0),(.ptr 1 0),(.ptr 2 0),(zN s0.1)] [(.cells (dV t0 t1 t2 t3 a)),(.cells [(zN 0),(zN 0),(.sl 3 3),(.sl 4 2),(.sl 5 3),(.sl 6 2)]),(.cells [(zN a.period),(zN a.deadline),(.sl 7 3),(.sl 8 2),(.sl 9 3),(.sl 10 2)]),(.arr 3 []),(.arr 2 []),(.arr 3 []),(.arr 2 []),(.arr 3 (List.map ZjY a.parts)),(.arr 2 (List.map ZaV a.edges)),(.arr 3 (List.map Z2 a.futures)),(.arr 2 (List.map Zde s0.2))]=some ((Zlo t0 t1 t2 t3 a) r):=
 lpT (Zlo t0 t1 t2 t3 a) fun s0 _ ih=>Zh (Zy _ _) (yB (yG fun x1 hx1=>
  ZpO (ZiZ (f:=Zm) (fun _=>⟨rfl,rfl⟩) x1.ins 0) (ZcA (Zko Zm x1.ins) (Zh (rfl:_=List.map Zm x1.ins) (Ze (Z4 rfl hx1) (ZpO (ZiZ (f:=Zm) (fun _=>⟨rfl,rfl⟩) x1.outs 0) (ZcA (Zko Zm x1.outs) (Zh (rfl:_=List.map Zm x1.outs) (yT (ZcA (Zfi Zde s0.2 1) (Zh (Zfg Zde s0.2 [x1]) (Zd (ih _)))
  ZaW)))
  ZaW))))
  ZaW))
  (Zi rfl))
theorem ZsY {t0 t1:Bool}{t2 t3:Bool}{a:Zq}:∀r,(ZkS a)=some r->evW ctx 26 [(.d (D.agg (dA t0 t1 t2 t3 a)))] []=some ((Zux t0 t1 t2 t3 a) r):=
 evS ZGY rfl rfl <| ZpO (ZiZ (f:=ZjY) (fun _=>⟨rfl,rfl⟩) a.parts 0) (ZcA (Zko ZjY a.parts) (Zh (rfl:_=List.map ZjY a.parts) (ZpO (ZiZ (f:=ZaV) (fun _=>⟨rfl,rfl⟩) a.edges 0) (ZcA (Zko ZaV a.edges) (Zh (rfl:_=List.map ZaV a.edges) (ZpO (ZiZ (f:=Z2) (fun _=>⟨rfl,rfl⟩) a.futures 0) (ZcA (Zko Z2 a.futures) (Zh (rfl:_=List.map Z2 a.futures) (Zc _ (Zo9 _) fun r2 _=>
  yR))
  ZaW)))
  ZaW)))
  ZaW)
def Zuw (t0:Bool) (a:List Zq):(List Zq)->V×Zl
  | r=>((.sl 0 6),[(.arr 6 (List.map (ZeE true) r))])
def ZlB (t0:Bool) (a:List Zq):(List Zq)->Ex×List V×Zl
  | r=>(.exit 0,[(.sl 0 6)],[(.arr 6 (List.map (ZeE true) r))])
theorem Zpn {t0:Bool}{a:List Zq}:∀(s0:Int×(List Zq)) (r:List Zq),lp (ZfS a) s0=some r->lpW ctx 0 [0,3,4] [3] ZBZ [(.d (D.list t0 (List.map (ZeE true) a))),(.sl 0 6),(zN s0.1)] [(.arr 6 (List.map (ZeE true) s0.2))]=some ((ZlB t0 a) r):=
 lpT (ZlB t0 a) fun s0 _ ih=>Zh (Zy _ _) (yB (yG fun x1 _=>
  Zc _ ZsY fun x2 _=>
  yT (ZcA (Zfi (ZeE true) s0.2 1) (Zh (Zfg (ZeE true) s0.2 [(Zq.mk x1.period x1.deadline x1.parts x1.edges x1.futures x2)]) (Zd (ih _)))
  ZaW))
  (Zi rfl))
theorem ZsA {t0:Bool}{a:List Zq}:∀r,(ZkV a)=some r->evW ctx 12 [(.d (D.list t0 (List.map (ZeE true) a)))] []=some ((Zuw t0 a) r):=
 evS ZHv rfl rfl <| Zc _ (Zpn _) fun r3 _=>
  yR
def ZrE (r:Bool):D:=(D.bool r)
theorem Zb4 {a b c:Int}:∀r,(ZbY a b c)=some r->evD ctx 105 [(zN a),(zN b),(zN c)]=some (ZrE r):=
 evT ZEd rfl rfl <| yB (yBr yR)
  yR
def Zuq (r:Int):D:=(Zm r)
theorem ZjZ {a:Int}:∀r,(ZhL a)=some r->evD ctx 102 [(zN a)]=some (Zuq r):=
 evT ZC7 rfl rfl <| yBr (yBr yR)
def Zku (r:Int):D:=(Zm r)
theorem ZjP {a:Int}:∀r,(Zdq a)=some r->evD ctx 136 [(.d (D.int .u64 a))]=some (Zku r):=
 evT ZDO rfl rfl <| yF (yF (yF (yF (yF (yF yR)))))
def ZlW (r:Int):D:=(Zm r)
theorem Zlj {a:Int}:∀r,(Zes a)=some r->evD ctx 103 [(.d (D.int .u64 a))]=some (ZlW r):=
 evT ZDl rfl rfl <| yC ZjP fun x0 _=>
  yR
theorem ZIT (n:Int):0<=u64.wrap n/\u64.wrap n<18446744073709551616:=by
  have:u64.wrap n=n % 18446744073709551616:=by
    show(if (false&&decide (n % 18446744073709551616 ≥ 9223372036854775808))=true then n % 18446744073709551616-18446744073709551616 else n % 18446744073709551616)=_
    simp
  rw[this]
  omega
theorem ZJJ (n:Int):∃j:Nat,j<64/\(u64.wrap n).fdiv (2 ^ (min (Int.toNat 58) u64.bits))=(j:Int):=by
  obtain⟨h1,h2⟩:=ZIT n
  have e:(2:Int) ^ (min (Int.toNat 58) u64.bits)=288230376151711744:=by decide
  rw[e,Int.fdiv_eq_ediv_of_nonneg _ (by omega)]
  refine⟨((u64.wrap n) / 288230376151711744).toNat,?_,?_⟩<;>omega
theorem ZJQ:∀j:Nat,j<64->ZdH [] 1 false (.d (.rptr (ZDy.drop (j*1))))=some (.d (.int .u8 (Zw0.getD j 0))):=by
  have key:((List.range 64).all fun j=>match ZdH [] 1 false (.d (.rptr (ZDy.drop (j*1)))) with | some (.d (.int .u8 z))=>z==Zw0.getD j 0 | _=>false)=true:=by rfl
  intro j hj
  have:=List.all_eq_true.1 key j (by simpa using hj)
  split at this
  · rename_i z hz
    rw[hz,eq_of_beq this]
  · cases this
def ZiY (r:Int):D:=Zm r
theorem Zip (a:Int):∀r,ZdN a=some r->evD ctx 138 [.d (.int .u64 a)]=some (ZiY r):=by
  intro r hr
  unfold ZdN at hr
  have hr:=Option.some.inj hr
  subst hr
  rw[ZGw ctx 138 ZCZ _ rfl rfl]
  by_cases h:(a==0)=true
  · conv=>lhs;whnf
    rw[h,ZFK]
    rfl
  · replace h:(a==0)=false:=by simpa using h
    obtain⟨j,hj,e⟩:=ZJJ (u64.wrap ((Zr a &&& Zr (u64.wrap (0-a))).toNat:Int)*285870213051353865)
    conv=>lhs;whnf
    rw[h,ZF9]
    conv=>lhs;whnf
    refine(ZJL (by rfl)).trans ?_
    conv=>lhs;whnf
    rw[e]
    refine(ZIF (by simp;omega)).trans ?_
    conv=>lhs;whnf
    erw [ZJQ j hj]
    rfl
def ZjE (r:Int):D:=(Zm r)
theorem Zjg {a:Int}:∀r,(ZeP a)=some r->evD ctx 104 [(.d (D.int .u64 a))]=some (ZjE r):=
 evT ZCR rfl rfl <| yC (Zip _) fun x0 _=>
  yR
def Zxy (r:(Int×Bool)):D:=(D.tup [(Zm r.1),(D.bool r.2)])
theorem ZpG {a:Int}:∀r,(Zlu a)=some r->evD ctx 82 [(zN a)]=some (Zxy r):=
 evT ZH8 rfl rfl <| yC ZjZ fun x0 _=>
  yBr (yC Zlj fun x1 _=>
  yBr (yC Zjg fun x2 _=>
  yR))
def Zuh (r:Bool):D:=(D.bool r)
theorem ZsO {a:Z3}:∀r,(ZgQ a)=some r->evD ctx 107 [(.d (D.agg [(Zm a.op),(Zm a.arg),(Zm a.work)]))]=some (Zuh r):=
 evT ZC8 rfl rfl <| yC Zb4 fun x0 _=>
  yB (yC Zb4 fun x1 _=>
  yB (yC Zb4 fun x2 _=>
  yBr yR)
  yR)
  yR
def Zf3 (r:Int):D:=(Zm r)
def Zcp (t0:Bool) (a:List Z3):(Int⊕Unit)->Ex×List V×Zl
  | (.inl r)=>(.ret,[(zN r)],[])
  | (.inr r)=>(.exit 0,[.bad],[])
theorem Zfk {t0:Bool}{a:List Z3}:∀(s0:Int) (r:(Int⊕Unit)),lp (Zby a (fun z0=>ZgQ z0)) s0=some r->lpW ctx 0 [0,1,7,8] [4] ZAf [(zW t0 ZjY a),(.d (D.fn 107 [])),(zN (a.length:Int)),(zN s0)] []=some ((Zcp t0 a) r):=
 lpT (Zcp t0 a) fun s0 _ ih=>yB (yG fun x1 _=>
  yC ZsO fun x2 _=>
  yB (Zi rfl)
  (Zd (ih _)))
  (Zi rfl)
theorem ZfP {t0:Bool}{a:List Z3}:∀r,(Zc0 a (fun z0=>ZgQ z0))=some r->evD ctx 139 [(zW t0 ZjY a),(.d (D.fn 107 []))]=some (Zf3 r):=
 evT ZDn rfl rfl <| Zh (Zy _ _) (by
 conv=>rhs;whnf
 refine Zc _ (Zfk _) fun r3 _=>?_
 rcases r3 with r3 | r3
 exact yR
 exact yR)
def Zfx (r:Bool):D:=(D.bool r)
theorem Zfn {t0:Bool}{a:List Z3}:∀r,(Zbz a (fun z0=>ZgQ z0))=some r->evD ctx 106 [(zW t0 ZjY a),(.d (D.fn 107 []))]=some (Zfx r):=
 evT ZCK rfl rfl <| yC ZfP fun x0 _=>
  yBr yR
def ZwH (r:Bool):D:=(D.bool r)
theorem Zod {t0 t1:Bool}{t2 t3:Bool}{a:Zq}{b c:Int}:∀r,(Zj8 a b c)=some r->evD ctx 108 [(.d (D.agg (dA t0 t1 t2 t3 a))),(zN b),(zN c)]=some (ZwH r):=
 evT ZCU rfl rfl <| yB (Zh (Zy _ _) (yC Zb4 fun x0 _=>
  yB (Zh (Zy _ _) (yC Zb4 fun x1 _=>
  yBr yR))
  yR))
  yR
def Zjb (r:Int):D:=(Zm r)
def ZfC (t0:Bool) (a:List Zs) (b:Zs):(Int⊕Unit)->Ex×List V×Zl
  | (.inl r)=>(.ret,[(zN r)],[])
  | (.inr r)=>(.exit 0,[.bad],[])
theorem Zh3 {t0:Bool}{a:List Zs}{b:Zs}:∀(s0:Int) (r:(Int⊕Unit)),lp (Zcc a b) s0=some r->lpW ctx 0 [0,3,7,8] [4] Zz8 [(zW t0 ZaV a),(.ptr 0 0),(zN (a.length:Int)),(zN s0)] [(.cells [(zN b.src),(zN b.dst)])]=some ((ZfC t0 a b) r):=
 lpT (ZfC t0 a b) fun s0 _ ih=>yB (yG fun x1 _=>
  yB (Zi rfl)
  (Zd (ih _)))
  (Zi rfl)
theorem Zi2 {t0:Bool}{a:List Zs}{b:Zs}:∀r,(Zed a b)=some r->evD ctx 140 [(zW t0 ZaV a),(.d (zK5 b.src b.dst))]=some (Zjb r):=
 evT ZDY rfl rfl <| Zh (Zy _ _) (by
 conv=>rhs;whnf
 refine Zc _ (Zh3 _) fun r2 _=>?_
 rcases r2 with r2 | r2
 exact yR
 exact yR)
def Zij (r:Bool):D:=(D.bool r)
theorem Zff {t0:Bool}{a:List Zs}{b:Zs}:∀r,(Zbp a b)=some r->evD ctx 109 [(zW t0 ZaV a),(.d (zK5 b.src b.dst))]=some (Zij r):=
 evT ZDi rfl rfl <| yC Zi2 fun x0 _=>
  yBr yR
def ZqJ (r:Bool):D:=(D.bool r)
theorem ZpJ {a:Zj}{b0 b1 b2:Int}:∀r,(Zeo a b1 b2)=some r->evD ctx 110 [(.d (D.agg [(Zm a.maker),(Zm a.user),(Zm a.pos)])),(.d (D.rptr [(Zm b0),(Zm b1),(Zm b2)]))]=some (ZqJ r):=
 evT ZCT rfl rfl <| yB (yBr yR)
  yR
def Zep (r:Int):D:=(Zm r)
def ZbE (t0:Bool) (a:List Zj) (b0:Int) (b1:Int) (b2:Int):(Int⊕Unit)->Ex×List V×Zl
  | (.inl r)=>(.ret,[(zN r)],[])
  | (.inr r)=>(.exit 0,[.bad],[])
theorem Zdw {t0:Bool}{a:List Zj}{b0 b1 b2:Int}:∀(s0:Int) (r:(Int⊕Unit)),lp (Za6 a (fun z0=>Zeo z0 b1 b2)) s0=some r->lpW ctx 0 [0,1,7,8] [4] ZAM [(zW t0 Z2 a),(.d (D.fn 110 [(D.rptr [(Zm b0),(Zm b1),(Zm b2)])])),(zN (a.length:Int)),(zN s0)] []=some ((ZbE t0 a b0 b1 b2) r):=
 lpT (ZbE t0 a b0 b1 b2) fun s0 _ ih=>yB (yG fun x1 _=>
  yC ZpJ fun x2 _=>
  yB (Zi rfl)
  (Zd (ih _)))
  (Zi rfl)
theorem ZdV {t0:Bool}{a:List Zj}{b0 b1 b2:Int}:∀r,(Zcz a (fun z0=>Zeo z0 b1 b2))=some r->evD ctx 141 [(zW t0 Z2 a),(.d (D.fn 110 [(D.rptr [(Zm b0),(Zm b1),(Zm b2)])]))]=some (Zep r):=
 evT ZDG rfl rfl <| Zh (Zy _ _) (by
 conv=>rhs;whnf
 refine Zc _ (Zdw _) fun r3 _=>?_
 rcases r3 with r3 | r3
 exact yR
 exact yR)
def ZdE (r:Bool):D:=(D.bool r)
theorem Zdv {t0:Bool}{a:List Zj}{b0 b1 b2:Int}:∀r,(Za7 a (fun z0=>Zeo z0 b1 b2))=some r->evD ctx 111 [(zW t0 Z2 a),(.d (D.fn 110 [(D.rptr [(Zm b0),(Zm b1),(Zm b2)])]))]=some (ZdE r):=
 evT ZB3 rfl rfl <| yC ZdV fun x0 _=>
  yBr yR
def Zwf (r:Bool):D:=(D.bool r)
def Zmz (t0:Bool) (t1:Bool) (t2:Bool) (t3:Bool) (t4:Bool) (a:Zq) (b:List Int):(Unit⊕Unit)->Ex×List V×Zl
  | (.inl r)=>(.ret,[(zV t4 b),(.d (D.bool false))],[])
  | (.inr r)=>(.exit 0,[(zV t4 b),.bad],[])
theorem Zq1 {t0 t1:Bool}{t2 t3 t4:Bool}{a:Zq}{b:List Int}:∀(s0:Int) (r:(Unit⊕Unit)),lp (Zhq a b) s0=some r->lpW ctx 0 [1,2,7,8,9] [1,4] ZAc [(zV t4 b),(.ptr 0 0),(zV t4 b),(zN (b.length:Int)),(zN s0)] [(.cells (dV t0 t1 t2 t3 a))]=some ((Zmz t0 t1 t2 t3 t4 a b) r):=
 lpT (Zmz t0 t1 t2 t3 t4 a b) fun s0 _ ih=>yB (yG fun x1 _=>
  Zh (Zy _ _) (yC Zb4 fun x2 _=>
  yB (yB (yG fun x3 _=>
  yB (Zi rfl)
  (Zd (ih _)))
  (Zd (ih _)))
  (Zi rfl)))
  (Zi rfl)
theorem Zof {t0 t1:Bool}{t2 t3 t4:Bool}{a:Zq}{b:List Int}:∀r,(Zj9 a b)=some r->evD ctx 113 [(.d (D.agg (dA t0 t1 t2 t3 a))),(zV t4 b)]=some (Zwf r):=
 evT ZEW rfl rfl <| Zh (Zy _ _) (by
 conv=>rhs;whnf
 refine Zc _ (Zq1 _) fun r4 _=>?_
 rcases r4 with r4 | r4
 exact yR
 exact Zh (Zy _ _) (yBr yR))
def Zkg (r:Int):D:=(Zm r)
def Zf9 (t0:Bool) (a:List Int) (b:Int):(Int⊕Unit)->Ex×List V×Zl
  | (.inl r)=>(.ret,[(zN r)],[])
  | (.inr r)=>(.exit 0,[.bad],[])
theorem Ziu {t0:Bool}{a:List Int}{b:Int}:∀(s0:Int) (r:(Int⊕Unit)),lp (ZcF a b) s0=some r->lpW ctx 0 [0,1,7,8] [4] ZDA [(zV t0 a),(zN b),(zN (a.length:Int)),(zN s0)] []=some ((Zf9 t0 a b) r):=
 lpT (Zf9 t0 a b) fun s0 _ ih=>yB (yG fun x1 _=>
  yB (Zi rfl)
  (Zd (ih _)))
  (Zi rfl)
theorem ZjF {t0:Bool}{a:List Int}{b:Int}:∀r,(Zfw a b)=some r->evD ctx 76 [(zV t0 a),(zN b)]=some (Zkg r):=
 evT ZHu rfl rfl <| Zh (Zy _ _) (by
 conv=>rhs;whnf
 refine Zc _ (Ziu _) fun r2 _=>?_
 rcases r2 with r2 | r2
 exact yR
 exact yR)
def ZiQ (r:Bool):D:=(D.bool r)
theorem Zc4 {t0:Bool}{a:List Int}{b:Int}:∀r,(Zas a b)=some r->evD ctx 45 [(zV t0 a),(zN b)]=some (ZiQ r):=
 evT ZHJ rfl rfl <| yC ZjF fun x0 _=>
  yBr yR
def Zq2 (r:Bool):D:=(D.bool r)
theorem ZpD {t0 t1:Bool}{a:Int}{b0:List Int}{b1:List Int}:∀r,(Zeq a b1)=some r->evD ctx 112 [(zN a),(.d (D.rptr [(zL t0 b0),(zL t1 b1)]))]=some (Zq2 r):=
 evT ZEG rfl rfl <| yC Zc4 fun x0 _=>
  yBr yR
def ZfQ (r:Int):D:=(Zm r)
def Zch (t0:Bool) (t1:Bool) (t2:Bool) (a:List Int) (b0:List Int) (b1:List Int):(Int⊕Unit)->Ex×List V×Zl
  | (.inl r)=>(.ret,[(zN r)],[])
  | (.inr r)=>(.exit 0,[.bad],[])
theorem ZeI {t0 t1 t2:Bool}{a:List Int}{b0:List Int}{b1:List Int}:∀(s0:Int) (r:(Int⊕Unit)),lp (ZX a (fun z0=>Zeq z0 b1)) s0=some r->lpW ctx 0 [0,1,7,8] [4] Zr7 [(zV t0 a),(.d (D.fn 112 [(D.rptr [(zL t1 b0),(zL t2 b1)])])),(zN (a.length:Int)),(zN s0)] []=some ((Zch t0 t1 t2 a b0 b1) r):=
 lpT (Zch t0 t1 t2 a b0 b1) fun s0 _ ih=>yB (yG fun x1 _=>
  yC ZpD fun x2 _=>
  yB (Zi rfl)
  (Zd (ih _)))
  (Zi rfl)
theorem ZfD {t0 t1 t2:Bool}{a:List Int}{b0:List Int}{b1:List Int}:∀r,(ZaF a (fun z0=>Zeq z0 b1))=some r->evD ctx 142 [(zV t0 a),(.d (D.fn 112 [(D.rptr [(zL t1 b0),(zL t2 b1)])]))]=some (ZfQ r):=
 evT ZxY rfl rfl <| Zh (Zy _ _) (by
 conv=>rhs;whnf
 refine Zc _ (ZeI _) fun r3 _=>?_
 rcases r3 with r3 | r3
 exact yR
 exact yR)
def Zfh (r:Bool):D:=(D.bool r)
theorem ZeQ {t0 t1 t2:Bool}{a:List Int}{b0:List Int}{b1:List Int}:∀r,(ZaK a (fun z0=>Zeq z0 b1))=some r->evD ctx 114 [(zV t0 a),(.d (D.fn 112 [(D.rptr [(zL t1 b0),(zL t2 b1)])]))]=some (Zfh r):=
 evT ZAd rfl rfl <| yC ZfD fun x0 _=>
  yBr yR
def ZtI (r:Int):D:=(Zm r)
def ZkO (t0:Bool) (t1:Bool) (t2:Bool) (t3:Bool) (a:Zq):(Unit⊕Unit)->Ex×List V×Zl
  | (.inl r)=>(.ret,[(.ptr 0 0),(zN 53)],[(.cells (dV t0 t1 t2 t3 a))])
  | (.inr r)=>(.exit 0,[(.ptr 0 0),.bad],[(.cells (dV t0 t1 t2 t3 a))])
theorem Zoq {t0 t1:Bool}{t2 t3:Bool}{a:Zq}:∀(s4:Int) (r:(Unit⊕Unit)),lp (Ze0 a) s4=some r->lpW ctx 0 [1,61,62,63] [1,2] ZEU [(.ptr 0 0),(zW t1 ZaV a.edges),(zN (a.edges.length:Int)),(zN s4)] [(.cells (dV t0 t1 t2 t3 a))]=some ((ZkO t0 t1 t2 t3 a) r):=
 lpT (ZkO t0 t1 t2 t3 a) fun s4 _ ih=>yB (yG fun x5 _=>
  yC Zod fun x6 _=>
  yB (yBm (ZcA (ZDg ZaV a.edges s4.toNat) (yT (Zh (ZwR ZaV a.edges s4.toNat) (yC Zff fun x7 _=>
  yB (Zi rfl)
  (Zd (ih _)))))
  ZaW))
  (Zi rfl))
  (Zi rfl)
def ZkT (t0:Bool) (t1:Bool) (t2:Bool) (t3:Bool) (a:Zq):(Unit⊕Unit)->Ex×List V×Zl
  | (.inl r)=>(.ret,[(.ptr 0 0),(zN 54)],[(.cells (dV t0 t1 t2 t3 a))])
  | (.inr r)=>(.exit 2,[(.ptr 0 0),.bad],[(.cells (dV t0 t1 t2 t3 a))])
theorem ZoU {t0 t1:Bool}{t2 t3:Bool}{a:Zq}:∀(s9:Int) (r:(Unit⊕Unit)),lp (Ze2 a) s9=some r->lpW ctx 0 [1,85,86,87] [1,2] ZCp [(.ptr 0 0),(zW t2 Z2 a.futures),(zN (a.futures.length:Int)),(zN s9)] [(.cells (dV t0 t1 t2 t3 a))]=some ((ZkT t0 t1 t2 t3 a) r):=
 lpT (ZkT t0 t1 t2 t3 a) fun s9 _ ih=>yB (yG fun x10 _=>
  yC Zod fun x11 _=>
  yB (yG fun x12 _=>
  yC Zb4 fun x13 _=>
  yB (yBm (ZcA (ZDg Z2 a.futures s9.toNat) (yT (Zh (ZwR Z2 a.futures s9.toNat) (yC Zdv fun x14 _=>
  yB (Zi rfl)
  (Zd (ih _)))))
  ZaW))
  (Zi rfl))
  (Zi rfl))
  (Zi rfl)
def ZkQ (t0:Bool) (t1:Bool) (t2:Bool) (t3:Bool) (a:Zq):(Unit⊕Unit)->Ex×List V×Zl
  | (.inl r)=>(.ret,[(zN 55)],[])
  | (.inr r)=>(.exit 4,[.bad],[])
theorem ZoQ {t0 t1:Bool}{t2 t3:Bool}{a:Zq}:∀(s16:Int) (r:(Unit⊕Unit)),lp (Ze1 a) s16=some r->lpW ctx 0 [1,124,125,126] [2] ZEl [(.ptr 0 0),(zW t3 Zde a.barriers),(zN (a.barriers.length:Int)),(zN s16)] [(.cells (dV t0 t1 t2 t3 a))]=some ((ZkQ t0 t1 t2 t3 a) r):=
 lpT (ZkQ t0 t1 t2 t3 a) fun s16 _ ih=>yB (yG fun x17 _=>
  yC Zof fun x18 _=>
  yB (yC Zof fun x19 _=>
  yB (yC ZeQ fun x20 _=>
  yB (Zi rfl)
  (Zd (ih _)))
  (Zi rfl))
  (Zi rfl))
  (Zi rfl)
theorem ZmD {t0 t1:Bool}{t2 t3:Bool}{a:Zq}:∀r,(Zh9 a)=some r->evD ctx 84 [(.d (D.agg (dA t0 t1 t2 t3 a)))]=some (ZtI r):=
 evT ZHV rfl rfl <| Zh (Zy _ _) (yC Zb4 fun x0 _=>
  yB (Zh (Zy _ _) (yBr (Zh (Zy _ _) (yBr (Zh (Zy _ _) (yBr (yC ZpG fun x1 _=>
  yB (yBr (yC Zb4 fun x2 _=>
  yB (yC Zfn fun x3 _=>
  yBr (Zh (Zy _ _) (by
 conv=>rhs;whnf
 refine Zc _ (Zoq _) fun r8 _=>?_
 rcases r8 with r8 | r8
 exact yR
 exact Zh (Zy _ _) (by
 conv=>rhs;whnf
 refine Zc _ (ZoU _) fun r15 _=>?_
 rcases r15 with r15 | r15
 exact yR
 exact Zh (Zy _ _) (by
 conv=>rhs;whnf
 refine Zc _ (ZoQ _) fun r21 _=>?_
 rcases r21 with r21 | r21
 exact yR
 exact yR)))))
  yR))
  yR)))))))
  yR)
def Zox (r:Int):D:=(Zm r)
theorem ZG {t0 t1:Bool}{t2 t3:Bool}{a b:Int}{c0 c1:Int}{c2:List Z3}{c3:List Zs}{c4:List Zj}{c5:List Zu}:∀r,(Zv a b c4)=some r->evD ctx 143 [(zN a),(zN b),(.d (D.rptr [(Zm c0),(Zm c1),(zM t0 ZjY c2),(zM t1 ZaV c3),(zM t2 Z2 c4),(zM t3 Zde c5)]))]=some (Zox r):=
 evT ZEg rfl rfl <| yG fun x0 _=>
  yG fun x1 _=>
  yR
def Zn4 (r:Int):D:=(Zm r)
theorem Zm2 {a:Int}:∀r,(Zk1 a)=some r->evD ctx 154 [(.d (D.int .u64 a))]=some (Zn4 r):=
 evT ZCh rfl rfl <| yB (yF (yB (yF (yB (yF (yBm (ZiP rfl fun x0 _=>
  yR)))
  (yBm (ZiP rfl fun x1 _=>
  yR))))
  (yB (yF (yBm (ZiP rfl fun x2 _=>
  yR)))
  (yBm (ZiP rfl fun x3 _=>
  yR)))))
  (yB (yF (yB (yF (yBm (ZiP rfl fun x4 _=>
  yR)))
  (yBm (ZiP rfl fun x5 _=>
  yR))))
  (yB (yF (yBm (ZiP rfl fun x6 _=>
  yR)))
  (yBm (ZiP rfl fun x7 _=>
  yR))))
def Zpl (r:Int):D:=(Zm r)
theorem ZhG {a:Int}:∀r,(Zgo a)=some r->evD ctx 123 [(.d (D.int .u64 a))]=some (Zpl r):=
 evT ZD2 rfl rfl <| yC Zm2 fun x0 _=>
  yR
def Zd9 (t0:Bool) (t1:Bool) (t2:Bool) (t3:Bool) (b:Int) (c:Int) (mG:List Int) (mA:Int) (mE:Int) (mD:List Z3) (mF:List Zs) (mB:List Zj) (mC:List Zu):(List Int)->V×Zl
  | r=>((.d (D.tup [])),[(zA r),(zK0 mA mE t0 mD t1 mF t2 mB t3 mC)])
def Zbu (t0:Bool) (t1:Bool) (t2:Bool) (t3:Bool) (b:Int) (c:Int) (mA:Int) (mE:Int) (mD:List Z3) (mF:List Zs) (mB:List Zj) (mC:List Zu) (s0:Int×(List Int)):(List Int)->Ex×List V×Zl
  | r=>(.exit 2,[(.sl 0 1),(zN b),(zN c),(.fn 143 [(.ptr 1 0)]),(zN s0.1)],[(zA r),(zK0 mA mE t0 mD t1 mF t2 mB t3 mC)])
theorem Zdk {t0 t1:Bool}{t2 t3:Bool}{b c:Int}{mA mE:Int}{mD:List Z3}{mF:List Zs}{mB:List Zj}{mC:List Zu}{s0:Int×(List Int)}:∀(s1:Int×(List Int)) (r:List Int),lp (Z0 b (fun z0 z1=>Zv z0 z1 mB)) s1=some r->lpW ctx 2 [0,1,2,3,8,9] [0,1,2,3,8] Zwr [(.sl 0 1),(zN b),(zN c),(.fn 143 [(.ptr 1 0)]),(zN s0.1),(zN s1.1)] [(zA s1.2),(zK0 mA mE t0 mD t1 mF t2 mB t3 mC)]=some ((Zbu t0 t1 t2 t3 b c mA mE mD mF mB mC s0) r):=
 lpT (Zbu t0 t1 t2 t3 b c mA mE mD mF mB mC s0) fun s1 _ ih=>yB (yG fun x2 hx2=>
  Ze (Zk rfl hx2) (yG fun x3 hx3=>
  Ze (Zk rfl hx3) (yC ZG fun x4 _=>
  yB (Ze (Z4 rfl hx3) (Ze (Zk rfl hx3) (Ze (Z4 rfl hx2) (Ze (Zk rfl hx2) (Ze (Z4 rfl hx2) (Ze (Zk rfl hx2) (Zh (ZI Zm s1.2 s1.1.toNat x3) (yG fun x5 hx5=>
  Ze (Zk rfl hx5) (Zh (ZI Zm (List.set s1.2 s1.1.toNat x3) (w64 (s1.1-1)).toNat x2) (Zd (ih _)))))))))))
  (Zi rfl))))
  (Zi rfl)
def Zbw (t0:Bool) (t1:Bool) (t2:Bool) (t3:Bool) (b:Int) (c:Int) (mA:Int) (mE:Int) (mD:List Z3) (mF:List Zs) (mB:List Zj) (mC:List Zu):(List Int)->Ex×List V×Zl
  | r=>(.exit 0,[],[(zA r),(zK0 mA mE t0 mD t1 mF t2 mB t3 mC)])
theorem Zdl {t0 t1:Bool}{t2 t3:Bool}{b c:Int}{mA mE:Int}{mD:List Z3}{mF:List Zs}{mB:List Zj}{mC:List Zu}:∀(s0:Int×(List Int)) (r:List Int),lp (Zam b c (fun z0 z1=>Zv z0 z1 mB)) s0=some r->lpW ctx 2 [0,1,2,3,8] [] ZwD [(.sl 0 1),(zN b),(zN c),(.fn 143 [(.ptr 1 0)]),(zN s0.1)] [(zA s0.2),(zK0 mA mE t0 mD t1 mF t2 mB t3 mC)]=some ((Zbw t0 t1 t2 t3 b c mA mE mD mF mB mC) r):=
 lpT (Zbw t0 t1 t2 t3 b c mA mE mD mF mB mC) fun s0 _ ih=>yB (Zc _ (Zdk _) fun r6 _=>
  Zd (ih _))
  (Zi rfl)
theorem Zad {t0 t1:Bool}{t2 t3:Bool}{b c:Int}{mG:List Int}{mA mE:Int}{mD:List Z3}{mF:List Zs}{mB:List Zj}{mC:List Zu}:∀r,(ZZ b c (fun z0 z1=>Zv z0 z1 mB) mG)=some r->evW ctx 145 [(.sl 0 1),(zN b),(zN c),(.fn 143 [(.ptr 1 0)])] [(zA mG),(zK0 mA mE t0 mD t1 mF t2 mB t3 mC)]=some ((Zd9 t0 t1 t2 t3 b c mG mA mE mD mF mB mC) r):=
 evS Zz6 rfl rfl <| Zc _ (Zdl _) fun r7 _=>
  yR
def ZfA (t0:Bool) (t1:Bool) (t2:Bool) (t3:Bool) (b:Int) (c:Int) (d:Int) (mG:List Int) (mA:Int) (mE:Int) (mD:List Z3) (mF:List Zs) (mB:List Zj) (mC:List Zu):(List Int)->V×Zl
  | r=>((.d (D.tup [])),[(zA r),(zK0 mA mE t0 mD t1 mF t2 mB t3 mC)])
def Zb2 (t0:Bool) (t1:Bool) (t2:Bool) (t3:Bool) (c:Int) (d:Int) (mA:Int) (mE:Int) (mD:List Z3) (mF:List Zs) (mB:List Zj) (mC:List Zu):((List Int)⊕(List Int))->Ex×List V×Zl
  | (.inl r)=>(.exit 0,[],[(zA r),(zK0 mA mE t0 mD t1 mF t2 mB t3 mC)])
  | (.inr r)=>(.ret,[],[(zA r),(zK0 mA mE t0 mD t1 mF t2 mB t3 mC)])
theorem Zee {t0 t1:Bool}{t2 t3:Bool}{c d:Int}{mA mE:Int}{mD:List Z3}{mF:List Zs}{mB:List Zj}{mC:List Zu}:∀(s0:Int×(List Int)) (r:((List Int)⊕(List Int))),lp (ZK c d (fun z0 z1=>Zv z0 z1 mB)) s0=some r->lpW ctx 2 [0,2,3,4,10] [] Zwe [(.sl 0 1),(zN c),(zN d),(.fn 143 [(.ptr 1 0)]),(zN s0.1)] [(zA s0.2),(zK0 mA mE t0 mD t1 mF t2 mB t3 mC)]=some ((Zb2 t0 t1 t2 t3 c d mA mE mD mF mB mC) r):=
 lpT (Zb2 t0 t1 t2 t3 c d mA mE mD mF mB mC) fun s0 _ ih=>yB (Zi rfl)
  (yB (yG fun x1 hx1=>
  Ze (Zk rfl hx1) (yG fun x2 hx2=>
  Ze (Zk rfl hx2) (yC ZG fun x3 _=>
  yB (yG fun x4 hx4=>
  Ze (Zk rfl hx4) (yG fun x5 hx5=>
  Ze (Zk rfl hx5) (yC ZG fun x6 _=>
  yB (Ze (Z4 rfl hx5) (Ze (Zk rfl hx5) (Ze (Z4 rfl hx4) (Ze (Zk rfl hx4) (Ze (Z4 rfl hx4) (Ze (Zk rfl hx4) (Zh (ZI Zm s0.2 (w64 (d+s0.1)).toNat x5) (yG fun x7 hx7=>
  Ze (Zk rfl hx7) (Zh (ZI Zm (List.set s0.2 (w64 (d+s0.1)).toNat x5) (w64 (d+(w64 ((w64 ((w64 (2*s0.1))+1))+1)))).toNat x4) (Zd (ih _)))))))))))
  (Zi rfl))))
  (yG fun x8 hx8=>
  Ze (Zk rfl hx8) (Ze (Z4 rfl hx1) (Ze (Zk rfl hx1) (yC ZG fun x9 _=>
  yB (Ze (Z4 rfl hx1) (Ze (Zk rfl hx1) (Ze (Z4 rfl hx8) (Ze (Zk rfl hx8) (Ze (Z4 rfl hx8) (Ze (Zk rfl hx8) (Zh (ZI Zm s0.2 (w64 (d+s0.1)).toNat x1) (yG fun x10 hx10=>
  Ze (Zk rfl hx10) (Zh (ZI Zm (List.set s0.2 (w64 (d+s0.1)).toNat x1) (w64 (d+(w64 ((w64 (2*s0.1))+1)))).toNat x8) (Zd (ih _)))))))))))
  (Zi rfl))))))))
  (yG fun x11 hx11=>
  Ze (Zk rfl hx11) (yG fun x12 hx12=>
  Ze (Zk rfl hx12) (yC ZG fun x13 _=>
  yB (Ze (Z4 rfl hx12) (Ze (Zk rfl hx12) (Ze (Z4 rfl hx11) (Ze (Zk rfl hx11) (Ze (Z4 rfl hx11) (Ze (Zk rfl hx11) (Zh (ZI Zm s0.2 (w64 (d+s0.1)).toNat x12) (yG fun x14 hx14=>
  Ze (Zk rfl hx14) (Zh (ZI Zm (List.set s0.2 (w64 (d+s0.1)).toNat x12) (w64 (d+(w64 ((w64 (2*s0.1))+1)))).toNat x11) (Zd (ih _)))))))))))
  (Zi rfl)))))
theorem Zcg {t0 t1:Bool}{t2 t3:Bool}{b c d:Int}{mG:List Int}{mA mE:Int}{mD:List Z3}{mF:List Zs}{mB:List Zj}{mC:List Zu}:∀r,(ZaE b c d (fun z0 z1=>Zv z0 z1 mB) mG)=some r->evW ctx 160 [(.sl 0 1),(zN b),(zN c),(zN d),(.fn 143 [(.ptr 1 0)])] [(zA mG),(zK0 mA mE t0 mD t1 mF t2 mB t3 mC)]=some ((ZfA t0 t1 t2 t3 b c d mG mA mE mD mF mB mC) r):=
 evS ZAw rfl rfl <| (by
 conv=>rhs;whnf
 refine Zc _ (Zee _) fun r15 _=>?_
 rcases r15 with r15 | r15
 exact yR
 exact yR)
def Zfz (t0:Bool) (t1:Bool) (t2:Bool) (t3:Bool) (b:Int) (c:Int) (mG:List Int) (mA:Int) (mE:Int) (mD:List Z3) (mF:List Zs) (mB:List Zj) (mC:List Zu):(List Int)->V×Zl
  | r=>((.d (D.tup [])),[(zA r),(zK0 mA mE t0 mD t1 mF t2 mB t3 mC)])
def Zb0 (t0:Bool) (t1:Bool) (t2:Bool) (t3:Bool) (b:Int) (c:Int) (mA:Int) (mE:Int) (mD:List Z3) (mF:List Zs) (mB:List Zj) (mC:List Zu):(List Int)->Ex×List V×Zl
  | r=>(.exit 0,[(.sl 0 1),(.fn 143 [(.ptr 1 0)]),(zN b),(zN 0),(zN (w64 (c-b)))],[(zA r),(zK0 mA mE t0 mD t1 mF t2 mB t3 mC)])
theorem Zen {t0 t1:Bool}{t2 t3:Bool}{b c:Int}{mA mE:Int}{mD:List Z3}{mF:List Zs}{mB:List Zj}{mC:List Zu}:∀(s0:Int×(List Int)) (r:List Int),lp (ZaJ b c (fun z0 z1=>Zv z0 z1 mB)) s0=some r->lpW ctx 2 [0,3,8,9,10,11] [0,3,8,9,10] ZvV [(.sl 0 1),(.fn 143 [(.ptr 1 0)]),(zN b),(zN 0),(zN (w64 (c-b))),(zN s0.1)] [(zA s0.2),(zK0 mA mE t0 mD t1 mF t2 mB t3 mC)]=some ((Zb0 t0 t1 t2 t3 b c mA mE mD mF mB mC) r):=
 lpT (Zb0 t0 t1 t2 t3 b c mA mE mD mF mB mC) fun s0 _ ih=>yB (Zc _ Zcg fun x1 _=>
  Zd (ih _))
  (Zi rfl)
def Zb1 (t0:Bool) (t1:Bool) (t2:Bool) (t3:Bool) (b:Int) (mA:Int) (mE:Int) (mD:List Z3) (mF:List Zs) (mB:List Zj) (mC:List Zu):(List Int)->Ex×List V×Zl
  | r=>(.exit 2,[],[(zA r),(zK0 mA mE t0 mD t1 mF t2 mB t3 mC)])
theorem Zek {t0 t1:Bool}{t2 t3:Bool}{b mA mE:Int}{mD:List Z3}{mF:List Zs}{mB:List Zj}{mC:List Zu}:∀(s3:Int×(List Int)) (r:List Int),lp (ZaL b (fun z0 z1=>Zv z0 z1 mB)) s3=some r->lpW ctx 2 [0,3,8,9,12] [] ZvX [(.sl 0 1),(.fn 143 [(.ptr 1 0)]),(zN b),(zN 0),(zN s3.1)] [(zA s3.2),(zK0 mA mE t0 mD t1 mF t2 mB t3 mC)]=some ((Zb1 t0 t1 t2 t3 b mA mE mD mF mB mC) r):=
 lpT (Zb1 t0 t1 t2 t3 b mA mE mD mF mB mC) fun s3 _ ih=>yB (yG fun x4 hx4=>
  Ze (Zk rfl hx4) (yG fun x5 hx5=>
  Ze (Zk rfl hx5) (Ze (Z4 rfl hx5) (Ze (Zk rfl hx5) (Zh (ZI Zm s3.2 b.toNat x4) (yG fun x6 hx6=>
  Ze (Zk rfl hx6) (Zh (ZI Zm (List.set s3.2 b.toNat x4) (w64 (b+s3.1)).toNat x5) (Zc _ Zcg fun x7 _=>
  Zd (ih _)))))))))
  (Zi rfl)
theorem Zat {t0 t1:Bool}{t2 t3:Bool}{b c:Int}{mG:List Int}{mA mE:Int}{mD:List Z3}{mF:List Zs}{mB:List Zj}{mC:List Zu}:∀r,(Z9 b c (fun z0 z1=>Zv z0 z1 mB) mG)=some r->evW ctx 146 [(.sl 0 1),(zN b),(zN c),(.fn 143 [(.ptr 1 0)])] [(zA mG),(zK0 mA mE t0 mD t1 mF t2 mB t3 mC)]=some ((Zfz t0 t1 t2 t3 b c mG mA mE mD mF mB mC) r):=
 evS ZAO rfl rfl <| yF (Zc _ (Zen _) fun r2 _=>
  Zc _ (Zek _) fun r8 _=>
  yR)
def Zf2 (t0:Bool) (t1:Bool) (t2:Bool) (t3:Bool) (b:Int) (c:Int) (mG:List Int) (mA:Int) (mI:Int) (mP:Int) (mO:List Z3) (mN:List Zs) (mM:List Zj) (mQ:List Zu):(Int×Int×Int)->V×Zl
  | r=>((.d (D.tup [(Zm r.1),(Zm r.2.1)])),[(zA mG),(.cells [(zN r.2.2)]),(zK0 mI mP t0 mO t1 mN t2 mM t3 mQ)])
theorem Za9 {t0 t1:Bool}{t2 t3:Bool}{b c:Int}{mG:List Int}{mA mI mP:Int}{mO:List Z3}{mN:List Zs}{mM:List Zj}{mQ:List Zu}:∀r,(ZaU b c (fun z0 z1=>Zv z0 z1 mM) mG mA)=some r->evW ctx 174 [(.sl 0 1),(zN b),(zN c),(.ptr 1 0),(.fn 143 [(.ptr 2 0)])] [(zA mG),(.cells [(zN mA)]),(zK0 mI mP t0 mO t1 mN t2 mM t3 mQ)]=some ((Zf2 t0 t1 t2 t3 b c mG mA mI mP mO mN mM mQ) r):=
 evS ZAv rfl rfl <| yG fun x0 hx0=>
  Ze (Zk rfl hx0) (yG fun x1 hx1=>
  Ze (Zk rfl hx1) (yC ZG fun x2 _=>
  yBr yR))
def Zf1 (t0:Bool) (t1:Bool) (t2:Bool) (t3:Bool) (b:Int) (c:Int) (d:Int) (mG:List Int) (mA:Int) (mI:Int) (mP:Int) (mO:List Z3) (mN:List Zs) (mM:List Zj) (mQ:List Zu):(Int×Int)->V×Zl
  | r=>((zN r.1),[(zA mG),(.cells [(zN r.2)]),(zK0 mI mP t0 mO t1 mN t2 mM t3 mQ)])
theorem Zba {t0 t1:Bool}{t2 t3:Bool}{b c d:Int}{mG:List Int}{mA mI mP:Int}{mO:List Z3}{mN:List Zs}{mM:List Zj}{mQ:List Zu}:∀r,(ZaT b c d (fun z0 z1=>Zv z0 z1 mM) mG mA)=some r->evW ctx 164 [(.sl 0 1),(zN b),(zN c),(zN d),(.ptr 1 0),(.fn 143 [(.ptr 2 0)])] [(zA mG),(.cells [(zN mA)]),(zK0 mI mP t0 mO t1 mN t2 mM t3 mQ)]=some ((Zf1 t0 t1 t2 t3 b c d mG mA mI mP mO mN mM mQ) r):=
 evS ZAN rfl rfl <| Zc _ Za9 fun x0 _=>
  Zc _ Za9 fun x1 _=>
  Zc _ Za9 fun x2 _=>
  yR
def ZdO (t0:Bool) (t1:Bool) (t2:Bool) (t3:Bool) (b:Int) (mG:List Int) (mA:Int) (mI:Int) (mP:Int) (mO:List Z3) (mN:List Zs) (mM:List Zj) (mQ:List Zu):(Int×Int)->V×Zl
  | r=>((zN r.1),[(zA mG),(.cells [(zN r.2)]),(zK0 mI mP t0 mO t1 mN t2 mM t3 mQ)])
theorem ZaH {t0 t1:Bool}{t2 t3:Bool}{b:Int}{mG:List Int}{mA mI mP:Int}{mO:List Z3}{mN:List Zs}{mM:List Zj}{mQ:List Zu}:∀r,(Zab b (fun z0 z1=>Zv z0 z1 mM) mG mA)=some r->evW ctx 163 [(.sl 0 1),(zN b),(.ptr 1 0),(.fn 143 [(.ptr 2 0)])] [(zA mG),(.cells [(zN mA)]),(zK0 mI mP t0 mO t1 mN t2 mM t3 mQ)]=some ((ZdO t0 t1 t2 t3 b mG mA mI mP mO mN mM mQ) r):=
 evS ZAJ rfl rfl <| Zc _ Zba fun x0 _=>
  yR
def Zey (t0:Bool) (t1:Bool) (t2:Bool) (t3:Bool) (b:Int) (c:Int) (mG:List Int) (mA:Int) (mE:Int) (mD:List Z3) (mF:List Zs) (mB:List Zj) (mC:List Zu):(Int×Int)->V×Zl
  | r=>((.d (D.tup [(Zm r.1),(Zm r.2)])),[(zA mG),(zK0 mA mE t0 mD t1 mF t2 mB t3 mC)])
theorem Zak {t0 t1:Bool}{t2 t3:Bool}{b c:Int}{mG:List Int}{mA mE:Int}{mD:List Z3}{mF:List Zs}{mB:List Zj}{mC:List Zu}:∀r,(ZR b c (fun z0 z1=>Zv z0 z1 mB) mG)=some r->evW ctx 148 [(.sl 0 1),(zN b),(zN c),(.fn 143 [(.ptr 1 0)])] [(zA mG),(zK0 mA mE t0 mD t1 mF t2 mB t3 mC)]=some ((Zey t0 t1 t2 t3 b c mG mA mE mD mF mB mC) r):=
 evS ZAE rfl rfl <| yF (yF (yF (yB (yB (Zc _ ZaH fun x0 _=>
  Zc _ ZaH fun x1 _=>
  Zc _ ZaH fun x2 _=>
  Zc _ Zba fun x3 _=>
  yBr (yBr yR))
  (Zc _ Zba fun x4 _=>
  yBr (yBr yR)))
  (yT yR))))
def Zec (t0:Bool) (t1:Bool) (t2:Bool) (t3:Bool) (b:Int) (c:Int) (mG:List Int) (mA:Int) (mE:Int) (mD:List Z3) (mF:List Zs) (mB:List Zj) (mC:List Zu):(List Int)->V×Zl
  | r=>((.d (D.tup [])),[(zA r),(zK0 mA mE t0 mD t1 mF t2 mB t3 mC)])
def ZbB (t0:Bool) (t1:Bool) (t2:Bool) (t3:Bool) (mA:Int) (mE:Int) (mD:List Z3) (mF:List Zs) (mB:List Zj) (mC:List Zu):(List Int)->Ex×List V×Zl
  | r=>(.exit 0,[],[(zA r),(zK0 mA mE t0 mD t1 mF t2 mB t3 mC)])
theorem Zdt {t0 t1:Bool}{t2 t3:Bool}{mA mE:Int}{mD:List Z3}{mF:List Zs}{mB:List Zj}{mC:List Zu}:∀(s0:Int×Int×(List Int)) (r:List Int),lp (Z6) s0=some r->lpW ctx 2 [0,8,9] [] ZwQ [(.sl 0 1),(zN s0.1),(zN s0.2.1)] [(zA s0.2.2),(zK0 mA mE t0 mD t1 mF t2 mB t3 mC)]=some ((ZbB t0 t1 t2 t3 mA mE mD mF mB mC) r):=
 lpT (ZbB t0 t1 t2 t3 mA mE mD mF mB mC) fun s0 _ ih=>yB (yG fun x1 hx1=>
  Ze (Zk rfl hx1) (yG fun x2 hx2=>
  Ze (Zk rfl hx2) (Ze (Z4 rfl hx2) (Ze (Zk rfl hx2) (Zh (ZI Zm s0.2.2 s0.1.toNat x1) (yG fun x3 hx3=>
  Ze (Zk rfl hx3) (Zh (ZI Zm (List.set s0.2.2 s0.1.toNat x1) s0.2.1.toNat x2) (Zd (ih _)))))))))
  (Zi rfl)
theorem Zai {t0 t1:Bool}{t2 t3:Bool}{b c:Int}{mG:List Int}{mA mE:Int}{mD:List Z3}{mF:List Zs}{mB:List Zj}{mC:List Zu}:∀r,(ZP b c (fun z0 z1=>Zv z0 z1 mB) mG)=some r->evW ctx 149 [(.sl 0 1),(zN b),(zN c),(.fn 143 [(.ptr 1 0)])] [(zA mG),(zK0 mA mE t0 mD t1 mF t2 mB t3 mC)]=some ((Zec t0 t1 t2 t3 b c mG mA mE mD mF mB mC) r):=
 evS ZAI rfl rfl <| Zc _ (Zdt _) fun r4 _=>
  yR
def Zc1 (t0:Bool) (t1:Bool) (t2:Bool) (t3:Bool) (b:Int) (c:Int) (mG:List Int) (mA:Int) (mE:Int) (mD:List Z3) (mF:List Zs) (mB:List Zj) (mC:List Zu):((List Int)⊕(List Int))->V×Zl
  | (.inl r)=>((.d (D.bool true)),[(zA r),(zK0 mA mE t0 mD t1 mF t2 mB t3 mC)])
  | (.inr r)=>((.d (D.bool false)),[(zA r),(zK0 mA mE t0 mD t1 mF t2 mB t3 mC)])
def Za5 (t0:Bool) (t1:Bool) (t2:Bool) (t3:Bool) (b:Int) (c:Int) (mA:Int) (mE:Int) (mD:List Z3) (mF:List Zs) (mB:List Zj) (mC:List Zu) (s0:Int×Int×(List Int)):Int->Ex×List V×Zl
  | r=>(.exit 2,[(.sl 0 1),(zN b),(zN c),(.fn 143 [(.ptr 1 0)]),(zN r),(zN s0.2.1)],[(zA s0.2.2),(zK0 mA mE t0 mD t1 mF t2 mB t3 mC)])
theorem ZcJ {t0 t1:Bool}{t2 t3:Bool}{b c:Int}{mA mE:Int}{mD:List Z3}{mF:List Zs}{mB:List Zj}{mC:List Zu}{s0:Int×Int×(List Int)}:∀(s1:Int) (r:Int),lp (ZN c (fun z0 z1=>Zv z0 z1 mB) s0) s1=some r->lpW ctx 2 [0,1,2,3,9,10] [0,1,2,3,9,10] ZwS [(.sl 0 1),(zN b),(zN c),(.fn 143 [(.ptr 1 0)]),(zN s1),(zN s0.2.1)] [(zA s0.2.2),(zK0 mA mE t0 mD t1 mF t2 mB t3 mC)]=some ((Za5 t0 t1 t2 t3 b c mA mE mD mF mB mC s0) r):=
 lpT (Za5 t0 t1 t2 t3 b c mA mE mD mF mB mC s0) fun s1 _ ih=>yB (yG fun x2 hx2=>
  Ze (Zk rfl hx2) (yG fun x3 hx3=>
  Ze (Zk rfl hx3) (yC ZG fun x4 _=>
  yB (Zi rfl)
  (Zd (ih _)))))
  (Zi rfl)
def Za1 (t0:Bool) (t1:Bool) (t2:Bool) (t3:Bool) (b:Int) (c:Int) (mA:Int) (mE:Int) (mD:List Z3) (mF:List Zs) (mB:List Zj) (mC:List Zu) (s0:Int×Int×(List Int)) (r5:Int):(List Int)->Ex×List V×Zl
  | r=>(.exit 4,[(.sl 0 1),(zN b),(zN c),(.fn 143 [(.ptr 1 0)]),(zN r5),(zN s0.2.1)],[(zA r),(zK0 mA mE t0 mD t1 mF t2 mB t3 mC)])
theorem ZcI {t0 t1:Bool}{t2 t3:Bool}{b c:Int}{mA mE:Int}{mD:List Z3}{mF:List Zs}{mB:List Zj}{mC:List Zu}{s0:Int×Int×(List Int)}{r5:Int}:∀(s9:Int×(List Int)) (r:List Int),lp (ZW (fun z0 z1=>Zv z0 z1 mB)) s9=some r->lpW ctx 2 [0,1,2,3,9,10,11] [0,1,2,3,9,10] Zv6 [(.sl 0 1),(zN b),(zN c),(.fn 143 [(.ptr 1 0)]),(zN r5),(zN s0.2.1),(zN s9.1)] [(zA s9.2),(zK0 mA mE t0 mD t1 mF t2 mB t3 mC)]=some ((Za1 t0 t1 t2 t3 b c mA mE mD mF mB mC s0 r5) r):=
 lpT (Za1 t0 t1 t2 t3 b c mA mE mD mF mB mC s0 r5) fun s9 _ ih=>yB (yG fun x10 hx10=>
  Ze (Zk rfl hx10) (yG fun x11 hx11=>
  Ze (Zk rfl hx11) (yC ZG fun x12 _=>
  yB (Ze (Z4 rfl hx11) (Ze (Zk rfl hx11) (Ze (Z4 rfl hx10) (Ze (Zk rfl hx10) (Ze (Z4 rfl hx10) (Ze (Zk rfl hx10) (Zh (ZI Zm s9.2 s9.1.toNat x11) (yG fun x13 hx13=>
  Ze (Zk rfl hx13) (Zh (ZI Zm (List.set s9.2 s9.1.toNat x11) (w64 (s9.1-1)).toNat x10) (Zd (ih _)))))))))))
  (Zi rfl))))
  (Zi rfl)
def Za2 (t0:Bool) (t1:Bool) (t2:Bool) (t3:Bool) (b:Int) (c:Int) (mA:Int) (mE:Int) (mD:List Z3) (mF:List Zs) (mB:List Zj) (mC:List Zu) (s0:Int×Int×(List Int)) (r5:Int):(List Int)->Ex×List V×Zl
  | r=>(.exit 6,[(.sl 0 1),(zN b),(zN c),(.fn 143 [(.ptr 1 0)]),(zN r5),(zN s0.2.1)],[(zA r),(zK0 mA mE t0 mD t1 mF t2 mB t3 mC)])
theorem ZaZ {t0 t1:Bool}{t2 t3:Bool}{b c:Int}{mA mE:Int}{mD:List Z3}{mF:List Zs}{mB:List Zj}{mC:List Zu}{s0:Int×Int×(List Int)}{r5:Int}:∀(s15:Int×(List Int)) (r:List Int),lp (ZH c (fun z0 z1=>Zv z0 z1 mB)) s15=some r->lpW ctx 2 [0,1,2,3,9,10,12] [0,1,2,3,9,10] ZvN [(.sl 0 1),(zN b),(zN c),(.fn 143 [(.ptr 1 0)]),(zN r5),(zN s0.2.1),(zN s15.1)] [(zA s15.2),(zK0 mA mE t0 mD t1 mF t2 mB t3 mC)]=some ((Za2 t0 t1 t2 t3 b c mA mE mD mF mB mC s0 r5) r):=
 lpT (Za2 t0 t1 t2 t3 b c mA mE mD mF mB mC s0 r5) fun s15 _ ih=>yB (yG fun x16 hx16=>
  Ze (Zk rfl hx16) (yG fun x17 hx17=>
  Ze (Zk rfl hx17) (yC ZG fun x18 _=>
  yB (Ze (Z4 rfl hx17) (Ze (Zk rfl hx17) (Ze (Z4 rfl hx16) (Ze (Zk rfl hx16) (Ze (Z4 rfl hx16) (Ze (Zk rfl hx16) (Zh (ZI Zm s15.2 s15.1.toNat x17) (yG fun x19 hx19=>
  Ze (Zk rfl hx19) (Zh (ZI Zm (List.set s15.2 s15.1.toNat x17) (w64 (s15.1-1)).toNat x16) (Zd (ih _)))))))))))
  (Zi rfl))))
  (Zi rfl)
def Za3 (t0:Bool) (t1:Bool) (t2:Bool) (t3:Bool) (b:Int) (c:Int) (mA:Int) (mE:Int) (mD:List Z3) (mF:List Zs) (mB:List Zj) (mC:List Zu):((List Int)⊕((List Int)⊕(List Int)))->Ex×List V×Zl
  | (.inl r)=>(.ret,[(.d (D.bool true))],[(zA r),(zK0 mA mE t0 mD t1 mF t2 mB t3 mC)])
  | (.inr (.inl r))=>(.ret,[(.d (D.bool false))],[(zA r),(zK0 mA mE t0 mD t1 mF t2 mB t3 mC)])
  | (.inr (.inr r))=>(.exit 0,[.bad],[(zA r),(zK0 mA mE t0 mD t1 mF t2 mB t3 mC)])
theorem ZcN {t0 t1:Bool}{t2 t3:Bool}{b c:Int}{mA mE:Int}{mD:List Z3}{mF:List Zs}{mB:List Zj}{mC:List Zu}:∀(s0:Int×Int×(List Int)) (r:((List Int)⊕((List Int)⊕(List Int)))),lp (ZV b c (fun z0 z1=>Zv z0 z1 mB)) s0=some r->lpW ctx 2 [0,1,2,3,9,10] [8] Zwy [(.sl 0 1),(zN b),(zN c),(.fn 143 [(.ptr 1 0)]),(zN s0.1),(zN s0.2.1)] [(zA s0.2.2),(zK0 mA mE t0 mD t1 mF t2 mB t3 mC)]=some ((Za3 t0 t1 t2 t3 b c mA mE mD mF mB mC) r):=
 lpT (Za3 t0 t1 t2 t3 b c mA mE mD mF mB mC) fun s0 _ ih=>yB (Zc _ (ZcJ _) fun r5 _=>
  yB (Zi rfl)
  (yB (Zi rfl)
  (yG fun x6 hx6=>
  Ze (Zk rfl hx6) (yG fun x7 hx7=>
  Ze (Zk rfl hx7) (Ze (Z4 rfl hx7) (Ze (Zk rfl hx7) (Zh (ZI Zm s0.2.2 r5.toNat x6) (yG fun x8 hx8=>
  Ze (Zk rfl hx8) (Zh (ZI Zm (List.set s0.2.2 r5.toNat x6) (w64 (r5-1)).toNat x7) (yB (Zc _ (ZcI _) fun r14 _=>
  yB (Zc _ (ZaZ _) fun r20 _=>
  Zd (ih _))
  (Zd (ih _)))
  (yB (Zc _ (ZaZ _) fun r26 _=>
  Zd (ih _))
  (Zd (ih _)))))))))))))
  (Zi rfl)
theorem Zbd {t0 t1:Bool}{t2 t3:Bool}{b c:Int}{mG:List Int}{mA mE:Int}{mD:List Z3}{mF:List Zs}{mB:List Zj}{mC:List Zu}:∀r,(ZT b c (fun z0 z1=>Zv z0 z1 mB) mG)=some r->evW ctx 150 [(.sl 0 1),(zN b),(zN c),(.fn 143 [(.ptr 1 0)])] [(zA mG),(zK0 mA mE t0 mD t1 mF t2 mB t3 mC)]=some ((Zc1 t0 t1 t2 t3 b c mG mA mE mD mF mB mC) r):=
 evS ZzX rfl rfl <| (by
 conv=>rhs;whnf
 refine Zc _ (ZcN _) fun r27 _=>?_
 rcases r27 with r27 | (r27 | r27)
 exact yR
 exact yR
 exact yR)
def Zfm (t0:Bool) (t1:Bool) (t2:Bool) (t3:Bool) (b:Int) (c:Int) (d:Int) (mG:List Int) (mA:Int) (mE:Int) (mD:List Z3) (mF:List Zs) (mB:List Zj) (mC:List Zu):((Int×(List Int))⊕(Int×(List Int)))->V×Zl
  | (.inl r)=>((.d (D.tup [(Zm r.1),(D.bool true)])),[(zA r.2),(zK0 mA mE t0 mD t1 mF t2 mB t3 mC)])
  | (.inr r)=>((.d (D.tup [(Zm r.1),(D.bool false)])),[(zA r.2),(zK0 mA mE t0 mD t1 mF t2 mB t3 mC)])
def ZbX (t0:Bool) (t1:Bool) (t2:Bool) (t3:Bool) (b:Int) (c:Int) (d:Int) (mG:List Int) (mA:Int) (mE:Int) (mD:List Z3) (mF:List Zs) (mB:List Zj) (mC:List Zu) (x0:Int) (x1:Int):Int->Ex×List V×Zl
  | r=>(.exit 0,[(.sl 0 1),(zN b),(.fn 143 [(.ptr 1 0)]),(zN r),(zN (w64 (c-1)))],[(zA (List.set (List.set mG b.toNat x0) d.toNat x1)),(zK0 mA mE t0 mD t1 mF t2 mB t3 mC)])
theorem Zd6 {t0 t1:Bool}{t2 t3:Bool}{b c d:Int}{mG:List Int}{mA mE:Int}{mD:List Z3}{mF:List Zs}{mB:List Zj}{mC:List Zu}{x0 x1:Int}:∀(s3:Int) (r:Int),lp (ZaC b c d mG (fun z0 z1=>Zv z0 z1 mB) x0 x1) s3=some r->lpW ctx 2 [0,1,4,12,13] [0,1,4,12,13] ZwN [(.sl 0 1),(zN b),(.fn 143 [(.ptr 1 0)]),(zN s3),(zN (w64 (c-1)))] [(zA (List.set (List.set mG b.toNat x0) d.toNat x1)),(zK0 mA mE t0 mD t1 mF t2 mB t3 mC)]=some ((ZbX t0 t1 t2 t3 b c d mG mA mE mD mF mB mC x0 x1) r):=
 lpT (ZbX t0 t1 t2 t3 b c d mG mA mE mD mF mB mC x0 x1) fun s3 _ ih=>yB (yG fun x4 hx4=>
  Ze (Zk rfl hx4) (yG fun x5 hx5=>
  Ze (Zk rfl hx5) (yC ZG fun x6 _=>
  yB (Zd (ih _))
  (Zi rfl))))
  (Zi rfl)
def ZbU (t0:Bool) (t1:Bool) (t2:Bool) (t3:Bool) (b:Int) (d:Int) (mG:List Int) (mA:Int) (mE:Int) (mD:List Z3) (mF:List Zs) (mB:List Zj) (mC:List Zu) (x0:Int) (x1:Int) (r7:Int):Int->Ex×List V×Zl
  | r=>(.exit 2,[(.sl 0 1),(zN b),(.fn 143 [(.ptr 1 0)]),(zN r7),(zN r)],[(zA (List.set (List.set mG b.toNat x0) d.toNat x1)),(zK0 mA mE t0 mD t1 mF t2 mB t3 mC)])
theorem Zd3 {t0 t1:Bool}{t2 t3:Bool}{b d:Int}{mG:List Int}{mA mE:Int}{mD:List Z3}{mF:List Zs}{mB:List Zj}{mC:List Zu}{x0 x1 r7:Int}:∀(s8:Int) (r:Int),lp (ZaB b d mG (fun z0 z1=>Zv z0 z1 mB) x0 x1 r7) s8=some r->lpW ctx 2 [0,1,4,12,13] [0,1,4,12,13] Zv0 [(.sl 0 1),(zN b),(.fn 143 [(.ptr 1 0)]),(zN r7),(zN s8)] [(zA (List.set (List.set mG b.toNat x0) d.toNat x1)),(zK0 mA mE t0 mD t1 mF t2 mB t3 mC)]=some ((ZbU t0 t1 t2 t3 b d mG mA mE mD mF mB mC x0 x1 r7) r):=
 lpT (ZbU t0 t1 t2 t3 b d mG mA mE mD mF mB mC x0 x1 r7) fun s8 _ ih=>yB (yG fun x9 hx9=>
  Ze (Zk rfl hx9) (yG fun x10 hx10=>
  Ze (Zk rfl hx10) (yC ZG fun x11 _=>
  yB (Zi rfl)
  (Zd (ih _)))))
  (Zi rfl)
def ZbQ (t0:Bool) (t1:Bool) (t2:Bool) (t3:Bool) (b:Int) (mA:Int) (mE:Int) (mD:List Z3) (mF:List Zs) (mB:List Zj) (mC:List Zu) (s19:Int×Int×(List Int)):Int->Ex×List V×Zl
  | r=>(.exit 6,[(.sl 0 1),(zN b),(.fn 143 [(.ptr 1 0)]),(zN r),(zN s19.2.1)],[(zA s19.2.2),(zK0 mA mE t0 mD t1 mF t2 mB t3 mC)])
theorem Zea {t0 t1:Bool}{t2 t3:Bool}{b mA mE:Int}{mD:List Z3}{mF:List Zs}{mB:List Zj}{mC:List Zu}{s19:Int×Int×(List Int)}:∀(s20:Int) (r:Int),lp (ZaD b (fun z0 z1=>Zv z0 z1 mB) s19) s20=some r->lpW ctx 2 [0,1,4,12,13] [0,1,4,12,13] ZvS [(.sl 0 1),(zN b),(.fn 143 [(.ptr 1 0)]),(zN s20),(zN s19.2.1)] [(zA s19.2.2),(zK0 mA mE t0 mD t1 mF t2 mB t3 mC)]=some ((ZbQ t0 t1 t2 t3 b mA mE mD mF mB mC s19) r):=
 lpT (ZbQ t0 t1 t2 t3 b mA mE mD mF mB mC s19) fun s20 _ ih=>yB (yG fun x21 hx21=>
  Ze (Zk rfl hx21) (yG fun x22 hx22=>
  Ze (Zk rfl hx22) (yC ZG fun x23 _=>
  yB (Zd (ih _))
  (Zi rfl))))
  (Zi rfl)
def ZbW (t0:Bool) (t1:Bool) (t2:Bool) (t3:Bool) (b:Int) (mA:Int) (mE:Int) (mD:List Z3) (mF:List Zs) (mB:List Zj) (mC:List Zu) (s19:Int×Int×(List Int)) (r24:Int):Int->Ex×List V×Zl
  | r=>(.exit 8,[(.sl 0 1),(zN b),(.fn 143 [(.ptr 1 0)]),(zN r24),(zN r)],[(zA s19.2.2),(zK0 mA mE t0 mD t1 mF t2 mB t3 mC)])
theorem ZdX {t0 t1:Bool}{t2 t3:Bool}{b mA mE:Int}{mD:List Z3}{mF:List Zs}{mB:List Zj}{mC:List Zu}{s19:Int×Int×(List Int)}{r24:Int}:∀(s25:Int) (r:Int),lp (Zaz b (fun z0 z1=>Zv z0 z1 mB) s19 r24) s25=some r->lpW ctx 2 [0,1,4,12,13] [0,1,4,12,13] ZwV [(.sl 0 1),(zN b),(.fn 143 [(.ptr 1 0)]),(zN r24),(zN s25)] [(zA s19.2.2),(zK0 mA mE t0 mD t1 mF t2 mB t3 mC)]=some ((ZbW t0 t1 t2 t3 b mA mE mD mF mB mC s19 r24) r):=
 lpT (ZbW t0 t1 t2 t3 b mA mE mD mF mB mC s19 r24) fun s25 _ ih=>yB (yG fun x26 hx26=>
  Ze (Zk rfl hx26) (yG fun x27 hx27=>
  Ze (Zk rfl hx27) (yC ZG fun x28 _=>
  yB (Zi rfl)
  (Zd (ih _)))))
  (Zi rfl)
def ZbT (t0:Bool) (t1:Bool) (t2:Bool) (t3:Bool) (b:Int) (mA:Int) (mE:Int) (mD:List Z3) (mF:List Zs) (mB:List Zj) (mC:List Zu):(Int×(List Int))->Ex×List V×Zl
  | r=>(.exit 4,[(.sl 0 1),(zN b),(zN r.1)],[(zA r.2),(zK0 mA mE t0 mD t1 mF t2 mB t3 mC)])
theorem Zd8 {t0 t1:Bool}{t2 t3:Bool}{b mA mE:Int}{mD:List Z3}{mF:List Zs}{mB:List Zj}{mC:List Zu}:∀(s19:Int×Int×(List Int)) (r:(Int×(List Int))),lp (Za0 b (fun z0 z1=>Zv z0 z1 mB)) s19=some r->lpW ctx 2 [0,1,4,12,13] [0,1,13] Zws [(.sl 0 1),(zN b),(.fn 143 [(.ptr 1 0)]),(zN s19.1),(zN s19.2.1)] [(zA s19.2.2),(zK0 mA mE t0 mD t1 mF t2 mB t3 mC)]=some ((ZbT t0 t1 t2 t3 b mA mE mD mF mB mC) r):=
 lpT (ZbT t0 t1 t2 t3 b mA mE mD mF mB mC) fun s19 _ ih=>Zc _ (Zea _) fun r24 _=>
  Zc _ (ZdX _) fun r29 _=>
  yB (Zi rfl)
  (yG fun x30 hx30=>
  Ze (Zk rfl hx30) (yG fun x31 hx31=>
  Ze (Zk rfl hx31) (Ze (Z4 rfl hx31) (Ze (Zk rfl hx31) (Zh (ZI Zm s19.2.2 r24.toNat x30) (yG fun x32 hx32=>
  Ze (Zk rfl hx32) (Zh (ZI Zm (List.set s19.2.2 r24.toNat x30) r29.toNat x31) (Zd (ih _)))))))))
theorem Zn {t0 t1:Bool}{t2 t3:Bool}{b c d:Int}{mG:List Int}{mA mE:Int}{mD:List Z3}{mF:List Zs}{mB:List Zj}{mC:List Zu}:∀r,(Zt b c d (fun z0 z1=>Zv z0 z1 mB) mG)=some r->evW ctx 152 [(.sl 0 1),(zN b),(zN c),(zN d),(.fn 143 [(.ptr 1 0)])] [(zA mG),(zK0 mA mE t0 mD t1 mF t2 mB t3 mC)]=some ((Zfm t0 t1 t2 t3 b c d mG mA mE mD mF mB mC) r):=
 evS ZAk rfl rfl <| yG fun x0 hx0=>
  Ze (Zk rfl hx0) (yG fun x1 hx1=>
  Ze (Zk rfl hx1) (Ze (Z4 rfl hx1) (Ze (Zk rfl hx1) (Zh (ZI Zm mG b.toNat x0) (yG fun x2 hx2=>
  Ze (Zk rfl hx2) (Zh (ZI Zm (List.set mG b.toNat x0) d.toNat x1) (Zc _ (Zd6 _) fun r7 _=>
  Zc _ (Zd3 _) fun r12 _=>
  yB (yG fun x13 hx13=>
  Ze (Zk rfl hx13) (yG fun x14 hx14=>
  Ze (Zk rfl hx14) (Ze (Z4 rfl hx14) (Ze (Zk rfl hx14) (Zh (ZI Zm (List.set (List.set mG b.toNat x0) d.toNat x1) r12.toNat x13) (yG fun x15 hx15=>
  Ze (Zk rfl hx15) (Zh (ZI Zm (List.set (List.set (List.set mG b.toNat x0) d.toNat x1) r12.toNat x13) b.toNat x14) yR)))))))
  (yG fun x16 hx16=>
  Ze (Zk rfl hx16) (yG fun x17 hx17=>
  Ze (Zk rfl hx17) (Ze (Z4 rfl hx17) (Ze (Zk rfl hx17) (Zh (ZI Zm (List.set (List.set mG b.toNat x0) d.toNat x1) r7.toNat x16) (yG fun x18 hx18=>
  Ze (Zk rfl hx18) (Zh (ZI Zm (List.set (List.set (List.set mG b.toNat x0) d.toNat x1) r7.toNat x16) r12.toNat x17) (Zc _ (Zd8 _) fun r33 _=>
  yG fun x34 hx34=>
  Ze (Zk rfl hx34) (yG fun x35 hx35=>
  Ze (Zk rfl hx35) (Ze (Z4 rfl hx35) (Ze (Zk rfl hx35) (Zh (ZI Zm r33.2 r33.1.toNat x34) (yG fun x36 hx36=>
  Ze (Zk rfl hx36) (Zh (ZI Zm (List.set r33.2 r33.1.toNat x34) b.toNat x35) yR)))))))))))))))))))))
def ZdR (t0:Bool) (t1:Bool) (t2:Bool) (t3:Bool) (b:Int) (c:Int) (d:Int) (mG:List Int) (mA:Int) (mE:Int) (mD:List Z3) (mF:List Zs) (mB:List Zj) (mC:List Zu):(Int×(List Int))->V×Zl
  | r=>((zN r.1),[(zA r.2),(zK0 mA mE t0 mD t1 mF t2 mB t3 mC)])
def Zbs (t0:Bool) (t1:Bool) (t2:Bool) (t3:Bool) (b:Int) (mA:Int) (mE:Int) (mD:List Z3) (mF:List Zs) (mB:List Zj) (mC:List Zu) (s3:Int×Int×(List Int)):Int->Ex×List V×Zl
  | r=>(.exit 2,[(.sl 0 1),(zN b),(.fn 143 [(.ptr 1 0)]),(zN r),(zN s3.2.1)],[(zA s3.2.2),(zK0 mA mE t0 mD t1 mF t2 mB t3 mC)])
theorem Zdd {t0 t1:Bool}{t2 t3:Bool}{b mA mE:Int}{mD:List Z3}{mF:List Zs}{mB:List Zj}{mC:List Zu}{s3:Int×Int×(List Int)}:∀(s4:Int) (r:Int),lp (Zag b (fun z0 z1=>Zv z0 z1 mB) s3) s4=some r->lpW ctx 2 [0,1,4,11,12] [0,1,4,11,12] Zw2 [(.sl 0 1),(zN b),(.fn 143 [(.ptr 1 0)]),(zN s4),(zN s3.2.1)] [(zA s3.2.2),(zK0 mA mE t0 mD t1 mF t2 mB t3 mC)]=some ((Zbs t0 t1 t2 t3 b mA mE mD mF mB mC s3) r):=
 lpT (Zbs t0 t1 t2 t3 b mA mE mD mF mB mC s3) fun s4 _ ih=>yB (yG fun x5 hx5=>
  Ze (Zk rfl hx5) (yG fun x6 hx6=>
  Ze (Zk rfl hx6) (yC ZG fun x7 _=>
  yB (Zi rfl)
  (Zd (ih _)))))
  (Zi rfl)
def Zbt (t0:Bool) (t1:Bool) (t2:Bool) (t3:Bool) (b:Int) (mA:Int) (mE:Int) (mD:List Z3) (mF:List Zs) (mB:List Zj) (mC:List Zu) (s3:Int×Int×(List Int)) (r8:Int):Int->Ex×List V×Zl
  | r=>(.exit 4,[(.sl 0 1),(zN b),(.fn 143 [(.ptr 1 0)]),(zN r8),(zN r)],[(zA s3.2.2),(zK0 mA mE t0 mD t1 mF t2 mB t3 mC)])
theorem Zdi {t0 t1:Bool}{t2 t3:Bool}{b mA mE:Int}{mD:List Z3}{mF:List Zs}{mB:List Zj}{mC:List Zu}{s3:Int×Int×(List Int)}{r8:Int}:∀(s9:Int) (r:Int),lp (Zah b (fun z0 z1=>Zv z0 z1 mB) s3 r8) s9=some r->lpW ctx 2 [0,1,4,11,12] [0,1,4,11,12] Zwn [(.sl 0 1),(zN b),(.fn 143 [(.ptr 1 0)]),(zN r8),(zN s9)] [(zA s3.2.2),(zK0 mA mE t0 mD t1 mF t2 mB t3 mC)]=some ((Zbt t0 t1 t2 t3 b mA mE mD mF mB mC s3 r8) r):=
 lpT (Zbt t0 t1 t2 t3 b mA mE mD mF mB mC s3 r8) fun s9 _ ih=>yB (yG fun x10 hx10=>
  Ze (Zk rfl hx10) (yG fun x11 hx11=>
  Ze (Zk rfl hx11) (yC ZG fun x12 _=>
  yB (Zd (ih _))
  (Zi rfl))))
  (Zi rfl)
def Zbr (t0:Bool) (t1:Bool) (t2:Bool) (t3:Bool) (b:Int) (mA:Int) (mE:Int) (mD:List Z3) (mF:List Zs) (mB:List Zj) (mC:List Zu):(Int×(List Int))->Ex×List V×Zl
  | r=>(.exit 0,[(zN r.1)],[(zA r.2),(zK0 mA mE t0 mD t1 mF t2 mB t3 mC)])
theorem Zdf {t0 t1:Bool}{t2 t3:Bool}{b mA mE:Int}{mD:List Z3}{mF:List Zs}{mB:List Zj}{mC:List Zu}:∀(s3:Int×Int×(List Int)) (r:(Int×(List Int))),lp (ZaA b (fun z0 z1=>Zv z0 z1 mB)) s3=some r->lpW ctx 2 [0,1,4,11,12] [11] Zwz [(.sl 0 1),(zN b),(.fn 143 [(.ptr 1 0)]),(zN s3.1),(zN s3.2.1)] [(zA s3.2.2),(zK0 mA mE t0 mD t1 mF t2 mB t3 mC)]=some ((Zbr t0 t1 t2 t3 b mA mE mD mF mB mC) r):=
 lpT (Zbr t0 t1 t2 t3 b mA mE mD mF mB mC) fun s3 _ ih=>Zc _ (Zdd _) fun r8 _=>
  Zc _ (Zdi _) fun r13 _=>
  yB (Zi rfl)
  (yG fun x14 hx14=>
  Ze (Zk rfl hx14) (yG fun x15 hx15=>
  Ze (Zk rfl hx15) (Ze (Z4 rfl hx15) (Ze (Zk rfl hx15) (Zh (ZI Zm s3.2.2 r8.toNat x14) (yG fun x16 hx16=>
  Ze (Zk rfl hx16) (Zh (ZI Zm (List.set s3.2.2 r8.toNat x14) r13.toNat x15) (Zd (ih _)))))))))
theorem ZA {t0 t1:Bool}{t2 t3:Bool}{b c d:Int}{mG:List Int}{mA mE:Int}{mD:List Z3}{mF:List Zs}{mB:List Zj}{mC:List Zu}:∀r,(ZE b c d (fun z0 z1=>Zv z0 z1 mB) mG)=some r->evW ctx 151 [(.sl 0 1),(zN b),(zN c),(zN d),(.fn 143 [(.ptr 1 0)])] [(zA mG),(zK0 mA mE t0 mD t1 mF t2 mB t3 mC)]=some ((ZdR t0 t1 t2 t3 b c d mG mA mE mD mF mB mC) r):=
 evS ZAo rfl rfl <| yG fun x0 hx0=>
  Ze (Zk rfl hx0) (yG fun x1 hx1=>
  Ze (Zk rfl hx1) (Ze (Z4 rfl hx1) (Ze (Zk rfl hx1) (Zh (ZI Zm mG b.toNat x0) (yG fun x2 hx2=>
  Ze (Zk rfl hx2) (Zh (ZI Zm (List.set mG b.toNat x0) d.toNat x1) (Zc _ (Zdf _) fun r17 _=>
  yR)))))))
def Zkw (r:Int):D:=(D.int .u64 r)
theorem ZgM {a:Int}:∀r,(Zdo a)=some r->evD ctx 161 [(zN a)]=some (Zkw r):=
 evT ZCq rfl rfl <| yC ZhG fun x0 _=>
  yBn yR
def Zlb (mG:Int):Unit->V×Zl
  | r=>((.d (D.int .u64 (u64.wrap (Zr (u64.wrap (Zr (u64.wrap (Zr mG ^^^ Zr (u64.wrap (mG*2 ^ 13))).toNat) ^^^ Zr (Int.fdiv (u64.wrap (Zr mG ^^^ Zr (u64.wrap (mG*2 ^ 13))).toNat) (2 ^ 7))).toNat) ^^^ Zr (u64.wrap ((u64.wrap (Zr (u64.wrap (Zr mG ^^^ Zr (u64.wrap (mG*2 ^ 13))).toNat) ^^^ Zr (Int.fdiv (u64.wrap (Zr mG ^^^ Zr (u64.wrap (mG*2 ^ 13))).toNat) (2 ^ 7))).toNat)*2 ^ 17))).toNat))),[(.cells [(.d (D.int .u64 (u64.wrap (Zr (u64.wrap (Zr (u64.wrap (Zr mG ^^^ Zr (u64.wrap (mG*2 ^ 13))).toNat) ^^^ Zr (Int.fdiv (u64.wrap (Zr mG ^^^ Zr (u64.wrap (mG*2 ^ 13))).toNat) (2 ^ 7))).toNat) ^^^ Zr (u64.wrap ((u64.wrap (Zr (u64.wrap (Zr mG ^^^ Zr (u64.wrap (mG*2 ^ 13))).toNat) ^^^ Zr (Int.fdiv (u64.wrap (Zr mG ^^^ Zr (u64.wrap (mG*2 ^ 13))).toNat) (2 ^ 7))).toNat)*2 ^ 17))).toNat)))])])
theorem Zhg {mG:Int}:∀r,Zgc=some r->evW ctx 162 [(.ptr 0 0)] [(.cells [(.d (D.int .u64 mG))])]=some ((Zlb mG) r):=
 evS ZEK rfl rfl <| yF (yF (yF yR))
def Zd1 (t0:Bool) (t1:Bool) (t2:Bool) (t3:Bool) (b:Int) (c:Int) (mG:List Int) (mA:Int) (mE:Int) (mD:List Z3) (mF:List Zs) (mB:List Zj) (mC:List Zu):(List Int)->V×Zl
  | r=>((.d (D.tup [])),[(zA r),(zK0 mA mE t0 mD t1 mF t2 mB t3 mC)])
def Zbv (t0:Bool) (t1:Bool) (t2:Bool) (t3:Bool) (b:Int) (c:Int) (mA:Int) (mE:Int) (mD:List Z3) (mF:List Zs) (mB:List Zj) (mC:List Zu) (x0:Int):(List Int)->Ex×List V×Zl
  | r=>(.exit 0,[],[(zA r),(zK0 mA mE t0 mD t1 mF t2 mB t3 mC)])
theorem Zdm {t0 t1:Bool}{t2 t3:Bool}{b c:Int}{mA mE:Int}{mD:List Z3}{mF:List Zs}{mB:List Zj}{mC:List Zu}{x0:Int}:∀(s1:Int×(List Int)×Int) (r:List Int),lp (ZaI b c x0) s1=some r->lpW ctx 2 [0,1,8,9,10,11] [] ZvJ [(.sl 0 1),(zN b),(zN (w64 (c-b))),(.ptr 2 0),(.d (D.int .u64 x0)),(zN s1.1)] [(zA s1.2.1),(zK0 mA mE t0 mD t1 mF t2 mB t3 mC),(.cells [(.d (D.int .u64 s1.2.2))])]=some ((Zbv t0 t1 t2 t3 b c mA mE mD mF mB mC x0) r):=
 lpT (Zbv t0 t1 t2 t3 b c mA mE mD mF mB mC x0) fun s1 _ ih=>yF (yB (Zc _ Zhg fun x2 _=>
  yB (yG fun x3 hx3=>
  Ze (Zk rfl hx3) (yG fun x4 hx4=>
  Ze (Zk rfl hx4) (Ze (Z4 rfl hx4) (Ze (Zk rfl hx4) (Zh (ZI Zm s1.2.1 s1.1.toNat x3) (yG fun x5 hx5=>
  Ze (Zk rfl hx5) (Zh (ZI Zm (List.set s1.2.1 s1.1.toNat x3) (w64 (b+(w64 ((w64 (u64.wrap (Zr (u64.wrap (Zr (u64.wrap (Zr (u64.wrap (Zr s1.2.2 ^^^ Zr (u64.wrap (s1.2.2*2 ^ 13))).toNat) ^^^ Zr (Int.fdiv (u64.wrap (Zr s1.2.2 ^^^ Zr (u64.wrap (s1.2.2*2 ^ 13))).toNat) (2 ^ 7))).toNat) ^^^ Zr (u64.wrap ((u64.wrap (Zr (u64.wrap (Zr s1.2.2 ^^^ Zr (u64.wrap (s1.2.2*2 ^ 13))).toNat) ^^^ Zr (Int.fdiv (u64.wrap (Zr s1.2.2 ^^^ Zr (u64.wrap (s1.2.2*2 ^ 13))).toNat) (2 ^ 7))).toNat)*2 ^ 17))).toNat) &&& Zr (u64.wrap (x0-1))).toNat))-(w64 (c-b)))))).toNat x4) (Zd (ih _)))))))))
  (yG fun x6 hx6=>
  Ze (Zk rfl hx6) (yG fun x7 hx7=>
  Ze (Zk rfl hx7) (Ze (Z4 rfl hx7) (Ze (Zk rfl hx7) (Zh (ZI Zm s1.2.1 s1.1.toNat x6) (yG fun x8 hx8=>
  Ze (Zk rfl hx8) (Zh (ZI Zm (List.set s1.2.1 s1.1.toNat x6) (w64 (b+(w64 (u64.wrap (Zr (u64.wrap (Zr (u64.wrap (Zr (u64.wrap (Zr s1.2.2 ^^^ Zr (u64.wrap (s1.2.2*2 ^ 13))).toNat) ^^^ Zr (Int.fdiv (u64.wrap (Zr s1.2.2 ^^^ Zr (u64.wrap (s1.2.2*2 ^ 13))).toNat) (2 ^ 7))).toNat) ^^^ Zr (u64.wrap ((u64.wrap (Zr (u64.wrap (Zr s1.2.2 ^^^ Zr (u64.wrap (s1.2.2*2 ^ 13))).toNat) ^^^ Zr (Int.fdiv (u64.wrap (Zr s1.2.2 ^^^ Zr (u64.wrap (s1.2.2*2 ^ 13))).toNat) (2 ^ 7))).toNat)*2 ^ 17))).toNat) &&& Zr (u64.wrap (x0-1))).toNat)))).toNat x7) (Zd (ih _))))))))))
  (Zi rfl))
theorem ZbK {t0 t1:Bool}{t2 t3:Bool}{b c:Int}{mG:List Int}{mA mE:Int}{mD:List Z3}{mF:List Zs}{mB:List Zj}{mC:List Zu}:∀r,(Zae b c (fun z0 z1=>Zv z0 z1 mB) mG)=some r->evW ctx 147 [(.sl 0 1),(zN b),(zN c),(.fn 143 [(.ptr 1 0)])] [(zA mG),(zK0 mA mE t0 mD t1 mF t2 mB t3 mC)]=some ((Zd1 t0 t1 t2 t3 b c mG mA mE mD mF mB mC) r):=
 evS ZAe rfl rfl <| yB (yC ZgM fun x0 _=>
  yF (Zc _ (Zdm _) fun r9 _=>
  yR))
  yR
def Za (t0:Bool) (t1:Bool) (t2:Bool) (t3:Bool) (b:Int) (c:Int) (d:Int) (mG:List Int) (mA:Int) (mE:Int) (mD:List Z3) (mF:List Zs) (mB:List Zj) (mC:List Zu):(List Int)->V×Zl
  | r=>((.d (D.tup [])),[(zA r),(zK0 mA mE t0 mD t1 mF t2 mB t3 mC)])
def Zb7 (t0:Bool) (t1:Bool) (t2:Bool) (t3:Bool) (mA:Int) (mE:Int) (mD:List Z3) (mF:List Zs) (mB:List Zj) (mC:List Zu) (rc:Int->Int->Int->(Int->Int->Option Int)->(List Int)->Option (List Int)):(List Int)->Ex×List V×Zl
  | r=>(.ret,[],[(zA r),(zK0 mA mE t0 mD t1 mF t2 mB t3 mC)])
theorem ZeB {t0 t1:Bool}{t2 t3:Bool}{mA mE:Int}{mD:List Z3}{mF:List Zs}{mB:List Zj}{mC:List Zu}{rc:Int->Int->Int->(Int->Int->Option Int)->(List Int)->Option (List Int)} (hrc:∀(t0:Bool) (t1:Bool) (t2:Bool) (t3:Bool) (b:Int) (c:Int) (d:Int) (mG:List Int) (mA:Int) (mE:Int) (mD:List Z3) (mF:List Zs) (mB:List Zj) (mC:List Zu) (r:List Int),rc b c d (fun z0 z1=>Zv z0 z1 mB) mG=some r->evW ctx 122 [(.sl 0 1),(zN b),(zN c),(zN d),(.fn 143 [(.ptr 1 0)])] [(zA mG),(zK0 mA mE t0 mD t1 mF t2 mB t3 mC)]=some ((Za t0 t1 t2 t3 b c d mG mA mE mD mF mB mC) r)):∀(s0:Int×Int×Int×Bool×Bool×(List Int)) (r:List Int),lp (ZB (fun z0 z1=>Zv z0 z1 mB) rc) s0=some r->lpW ctx 2 [0,1,2,3,4,10,11] [] ZwL [(.sl 0 1),(zN s0.1),(zN s0.2.1),(zN s0.2.2.1),(.fn 143 [(.ptr 1 0)]),(.d (D.bool s0.2.2.2.1)),(.d (D.bool s0.2.2.2.2.1))] [(zA s0.2.2.2.2.2),(zK0 mA mE t0 mD t1 mF t2 mB t3 mC)]=some ((Zb7 t0 t1 t2 t3 mA mE mD mF mB mC rc) r):=
 lpT (Zb7 t0 t1 t2 t3 mA mE mD mF mB mC rc) fun s0 _ ih=>(by
 try unfold ZB
 rcases hb:s0.2.2.2.1 with _ | _
 exact ZqV (by
 try unfold ZB
 rcases hb:s0.2.2.2.2.1 with _ | _
 exact ZqV (yB (Zc _ Zad fun x170 _=>
  Zi rfl)
  (yB (Zc _ Zat fun x171 _=>
  Zi rfl)
  (Zc _ ZbK fun x172 _=>
  Zc _ Zak fun x173 _=>
  yB (Zc _ Zai fun x174 _=>
  yB (yG fun x175 hx175=>
  Ze (Zk rfl hx175) (yG fun x176 hx176=>
  Ze (Zk rfl hx176) (yC ZG fun x177 _=>
  yB ((by
 conv=>rhs;whnf
 refine Zc _ Zn fun x178 _=>?_
 rcases x178 with x178 | x178
 exact yT (yF (yB (yB (Zc (Za t0 t1 t2 t3 s0.1 x178.1 (w64 (s0.2.2.1-1)) x178.2 mA mE mD mF mB mC) (hrc t0 t1 t2 t3 s0.1 x178.1 (w64 (s0.2.2.1-1)) x178.2 mA mE mD mF mB mC) fun x179 _=>
  Zd (ih _))
  (Zc (Za t0 t1 t2 t3 s0.1 x178.1 (w64 (s0.2.2.1-1)) x178.2 mA mE mD mF mB mC) (hrc t0 t1 t2 t3 s0.1 x178.1 (w64 (s0.2.2.1-1)) x178.2 mA mE mD mF mB mC) fun x180 _=>
  Zd (ih _)))
  (yB (Zc (Za t0 t1 t2 t3 (w64 (x178.1+1)) s0.2.1 (w64 (s0.2.2.1-1)) x178.2 mA mE mD mF mB mC) (hrc t0 t1 t2 t3 (w64 (x178.1+1)) s0.2.1 (w64 (s0.2.2.1-1)) x178.2 mA mE mD mF mB mC) fun x181 _=>
  Zd (ih _))
  (Zc (Za t0 t1 t2 t3 (w64 (x178.1+1)) s0.2.1 (w64 (s0.2.2.1-1)) x178.2 mA mE mD mF mB mC) (hrc t0 t1 t2 t3 (w64 (x178.1+1)) s0.2.1 (w64 (s0.2.2.1-1)) x178.2 mA mE mD mF mB mC) fun x182 _=>
  Zd (ih _)))))
 exact yF (yF (yB (yB (Zc (Za t0 t1 t2 t3 s0.1 x178.1 (w64 (s0.2.2.1-1)) x178.2 mA mE mD mF mB mC) (hrc t0 t1 t2 t3 s0.1 x178.1 (w64 (s0.2.2.1-1)) x178.2 mA mE mD mF mB mC) fun x183 _=>
  Zd (ih _))
  (Zc (Za t0 t1 t2 t3 s0.1 x178.1 (w64 (s0.2.2.1-1)) x178.2 mA mE mD mF mB mC) (hrc t0 t1 t2 t3 s0.1 x178.1 (w64 (s0.2.2.1-1)) x178.2 mA mE mD mF mB mC) fun x184 _=>
  Zd (ih _)))
  (yB (Zc (Za t0 t1 t2 t3 (w64 (x178.1+1)) s0.2.1 (w64 (s0.2.2.1-1)) x178.2 mA mE mD mF mB mC) (hrc t0 t1 t2 t3 (w64 (x178.1+1)) s0.2.1 (w64 (s0.2.2.1-1)) x178.2 mA mE mD mF mB mC) fun x185 _=>
  Zd (ih _))
  (Zc (Za t0 t1 t2 t3 (w64 (x178.1+1)) s0.2.1 (w64 (s0.2.2.1-1)) x178.2 mA mE mD mF mB mC) (hrc t0 t1 t2 t3 (w64 (x178.1+1)) s0.2.1 (w64 (s0.2.2.1-1)) x178.2 mA mE mD mF mB mC) fun x186 _=>
  Zd (ih _)))))))
  (Zc _ ZA fun x187 _=>
  Zd (ih _)))))
  (by
 conv=>rhs;whnf
 refine Zc _ Zn fun x188 _=>?_
 rcases x188 with x188 | x188
 exact yT (yF (yB (yB (Zc (Za t0 t1 t2 t3 s0.1 x188.1 (w64 (s0.2.2.1-1)) x188.2 mA mE mD mF mB mC) (hrc t0 t1 t2 t3 s0.1 x188.1 (w64 (s0.2.2.1-1)) x188.2 mA mE mD mF mB mC) fun x189 _=>
  Zd (ih _))
  (Zc (Za t0 t1 t2 t3 s0.1 x188.1 (w64 (s0.2.2.1-1)) x188.2 mA mE mD mF mB mC) (hrc t0 t1 t2 t3 s0.1 x188.1 (w64 (s0.2.2.1-1)) x188.2 mA mE mD mF mB mC) fun x190 _=>
  Zd (ih _)))
  (yB (Zc (Za t0 t1 t2 t3 (w64 (x188.1+1)) s0.2.1 (w64 (s0.2.2.1-1)) x188.2 mA mE mD mF mB mC) (hrc t0 t1 t2 t3 (w64 (x188.1+1)) s0.2.1 (w64 (s0.2.2.1-1)) x188.2 mA mE mD mF mB mC) fun x191 _=>
  Zd (ih _))
  (Zc (Za t0 t1 t2 t3 (w64 (x188.1+1)) s0.2.1 (w64 (s0.2.2.1-1)) x188.2 mA mE mD mF mB mC) (hrc t0 t1 t2 t3 (w64 (x188.1+1)) s0.2.1 (w64 (s0.2.2.1-1)) x188.2 mA mE mD mF mB mC) fun x192 _=>
  Zd (ih _)))))
 exact yF (yF (yB (yB (Zc (Za t0 t1 t2 t3 s0.1 x188.1 (w64 (s0.2.2.1-1)) x188.2 mA mE mD mF mB mC) (hrc t0 t1 t2 t3 s0.1 x188.1 (w64 (s0.2.2.1-1)) x188.2 mA mE mD mF mB mC) fun x193 _=>
  Zd (ih _))
  (Zc (Za t0 t1 t2 t3 s0.1 x188.1 (w64 (s0.2.2.1-1)) x188.2 mA mE mD mF mB mC) (hrc t0 t1 t2 t3 s0.1 x188.1 (w64 (s0.2.2.1-1)) x188.2 mA mE mD mF mB mC) fun x194 _=>
  Zd (ih _)))
  (yB (Zc (Za t0 t1 t2 t3 (w64 (x188.1+1)) s0.2.1 (w64 (s0.2.2.1-1)) x188.2 mA mE mD mF mB mC) (hrc t0 t1 t2 t3 (w64 (x188.1+1)) s0.2.1 (w64 (s0.2.2.1-1)) x188.2 mA mE mD mF mB mC) fun x195 _=>
  Zd (ih _))
  (Zc (Za t0 t1 t2 t3 (w64 (x188.1+1)) s0.2.1 (w64 (s0.2.2.1-1)) x188.2 mA mE mD mF mB mC) (hrc t0 t1 t2 t3 (w64 (x188.1+1)) s0.2.1 (w64 (s0.2.2.1-1)) x188.2 mA mE mD mF mB mC) fun x196 _=>
  Zd (ih _)))))))
  (yB (yG fun x197 hx197=>
  Ze (Zk rfl hx197) (yG fun x198 hx198=>
  Ze (Zk rfl hx198) (yC ZG fun x199 _=>
  yB ((by
 conv=>rhs;whnf
 refine Zc _ Zn fun x200 _=>?_
 rcases x200 with x200 | x200
 exact yT (yF (yB (yB (Zc (Za t0 t1 t2 t3 s0.1 x200.1 (w64 (s0.2.2.1-1)) x200.2 mA mE mD mF mB mC) (hrc t0 t1 t2 t3 s0.1 x200.1 (w64 (s0.2.2.1-1)) x200.2 mA mE mD mF mB mC) fun x201 _=>
  Zd (ih _))
  (Zc (Za t0 t1 t2 t3 s0.1 x200.1 (w64 (s0.2.2.1-1)) x200.2 mA mE mD mF mB mC) (hrc t0 t1 t2 t3 s0.1 x200.1 (w64 (s0.2.2.1-1)) x200.2 mA mE mD mF mB mC) fun x202 _=>
  Zd (ih _)))
  (yB (Zc (Za t0 t1 t2 t3 (w64 (x200.1+1)) s0.2.1 (w64 (s0.2.2.1-1)) x200.2 mA mE mD mF mB mC) (hrc t0 t1 t2 t3 (w64 (x200.1+1)) s0.2.1 (w64 (s0.2.2.1-1)) x200.2 mA mE mD mF mB mC) fun x203 _=>
  Zd (ih _))
  (Zc (Za t0 t1 t2 t3 (w64 (x200.1+1)) s0.2.1 (w64 (s0.2.2.1-1)) x200.2 mA mE mD mF mB mC) (hrc t0 t1 t2 t3 (w64 (x200.1+1)) s0.2.1 (w64 (s0.2.2.1-1)) x200.2 mA mE mD mF mB mC) fun x204 _=>
  Zd (ih _)))))
 exact yF (yF (yB (yB (Zc (Za t0 t1 t2 t3 s0.1 x200.1 (w64 (s0.2.2.1-1)) x200.2 mA mE mD mF mB mC) (hrc t0 t1 t2 t3 s0.1 x200.1 (w64 (s0.2.2.1-1)) x200.2 mA mE mD mF mB mC) fun x205 _=>
  Zd (ih _))
  (Zc (Za t0 t1 t2 t3 s0.1 x200.1 (w64 (s0.2.2.1-1)) x200.2 mA mE mD mF mB mC) (hrc t0 t1 t2 t3 s0.1 x200.1 (w64 (s0.2.2.1-1)) x200.2 mA mE mD mF mB mC) fun x206 _=>
  Zd (ih _)))
  (yB (Zc (Za t0 t1 t2 t3 (w64 (x200.1+1)) s0.2.1 (w64 (s0.2.2.1-1)) x200.2 mA mE mD mF mB mC) (hrc t0 t1 t2 t3 (w64 (x200.1+1)) s0.2.1 (w64 (s0.2.2.1-1)) x200.2 mA mE mD mF mB mC) fun x207 _=>
  Zd (ih _))
  (Zc (Za t0 t1 t2 t3 (w64 (x200.1+1)) s0.2.1 (w64 (s0.2.2.1-1)) x200.2 mA mE mD mF mB mC) (hrc t0 t1 t2 t3 (w64 (x200.1+1)) s0.2.1 (w64 (s0.2.2.1-1)) x200.2 mA mE mD mF mB mC) fun x208 _=>
  Zd (ih _)))))))
  (Zc _ ZA fun x209 _=>
  Zd (ih _)))))
  (by
 conv=>rhs;whnf
 refine Zc _ Zn fun x210 _=>?_
 rcases x210 with x210 | x210
 exact yT (yF (yB (yB (Zc (Za t0 t1 t2 t3 s0.1 x210.1 (w64 (s0.2.2.1-1)) x210.2 mA mE mD mF mB mC) (hrc t0 t1 t2 t3 s0.1 x210.1 (w64 (s0.2.2.1-1)) x210.2 mA mE mD mF mB mC) fun x211 _=>
  Zd (ih _))
  (Zc (Za t0 t1 t2 t3 s0.1 x210.1 (w64 (s0.2.2.1-1)) x210.2 mA mE mD mF mB mC) (hrc t0 t1 t2 t3 s0.1 x210.1 (w64 (s0.2.2.1-1)) x210.2 mA mE mD mF mB mC) fun x212 _=>
  Zd (ih _)))
  (yB (Zc (Za t0 t1 t2 t3 (w64 (x210.1+1)) s0.2.1 (w64 (s0.2.2.1-1)) x210.2 mA mE mD mF mB mC) (hrc t0 t1 t2 t3 (w64 (x210.1+1)) s0.2.1 (w64 (s0.2.2.1-1)) x210.2 mA mE mD mF mB mC) fun x213 _=>
  Zd (ih _))
  (Zc (Za t0 t1 t2 t3 (w64 (x210.1+1)) s0.2.1 (w64 (s0.2.2.1-1)) x210.2 mA mE mD mF mB mC) (hrc t0 t1 t2 t3 (w64 (x210.1+1)) s0.2.1 (w64 (s0.2.2.1-1)) x210.2 mA mE mD mF mB mC) fun x214 _=>
  Zd (ih _)))))
 exact yF (yF (yB (yB (Zc (Za t0 t1 t2 t3 s0.1 x210.1 (w64 (s0.2.2.1-1)) x210.2 mA mE mD mF mB mC) (hrc t0 t1 t2 t3 s0.1 x210.1 (w64 (s0.2.2.1-1)) x210.2 mA mE mD mF mB mC) fun x215 _=>
  Zd (ih _))
  (Zc (Za t0 t1 t2 t3 s0.1 x210.1 (w64 (s0.2.2.1-1)) x210.2 mA mE mD mF mB mC) (hrc t0 t1 t2 t3 s0.1 x210.1 (w64 (s0.2.2.1-1)) x210.2 mA mE mD mF mB mC) fun x216 _=>
  Zd (ih _)))
  (yB (Zc (Za t0 t1 t2 t3 (w64 (x210.1+1)) s0.2.1 (w64 (s0.2.2.1-1)) x210.2 mA mE mD mF mB mC) (hrc t0 t1 t2 t3 (w64 (x210.1+1)) s0.2.1 (w64 (s0.2.2.1-1)) x210.2 mA mE mD mF mB mC) fun x217 _=>
  Zd (ih _))
  (Zc (Za t0 t1 t2 t3 (w64 (x210.1+1)) s0.2.1 (w64 (s0.2.2.1-1)) x210.2 mA mE mD mF mB mC) (hrc t0 t1 t2 t3 (w64 (x210.1+1)) s0.2.1 (w64 (s0.2.2.1-1)) x210.2 mA mE mD mF mB mC) fun x218 _=>
  Zd (ih _))))))))))
 exact Zqg (yB (Zc _ Zad fun x121 _=>
  Zi rfl)
  (yB (Zc _ Zat fun x122 _=>
  Zi rfl)
  (Zc _ ZbK fun x123 _=>
  Zc _ Zak fun x124 _=>
  yB (Zc _ Zai fun x125 _=>
  yB (yG fun x126 hx126=>
  Ze (Zk rfl hx126) (yG fun x127 hx127=>
  Ze (Zk rfl hx127) (yC ZG fun x128 _=>
  yB ((by
 conv=>rhs;whnf
 refine Zc _ Zn fun x129 _=>?_
 rcases x129 with x129 | x129
 exact yT (yF (yB (yB (Zc (Za t0 t1 t2 t3 s0.1 x129.1 (w64 (s0.2.2.1-1)) x129.2 mA mE mD mF mB mC) (hrc t0 t1 t2 t3 s0.1 x129.1 (w64 (s0.2.2.1-1)) x129.2 mA mE mD mF mB mC) fun x130 _=>
  Zd (ih _))
  (Zc (Za t0 t1 t2 t3 s0.1 x129.1 (w64 (s0.2.2.1-1)) x129.2 mA mE mD mF mB mC) (hrc t0 t1 t2 t3 s0.1 x129.1 (w64 (s0.2.2.1-1)) x129.2 mA mE mD mF mB mC) fun x131 _=>
  Zd (ih _)))
  (yB (Zc (Za t0 t1 t2 t3 (w64 (x129.1+1)) s0.2.1 (w64 (s0.2.2.1-1)) x129.2 mA mE mD mF mB mC) (hrc t0 t1 t2 t3 (w64 (x129.1+1)) s0.2.1 (w64 (s0.2.2.1-1)) x129.2 mA mE mD mF mB mC) fun x132 _=>
  Zd (ih _))
  (Zc (Za t0 t1 t2 t3 (w64 (x129.1+1)) s0.2.1 (w64 (s0.2.2.1-1)) x129.2 mA mE mD mF mB mC) (hrc t0 t1 t2 t3 (w64 (x129.1+1)) s0.2.1 (w64 (s0.2.2.1-1)) x129.2 mA mE mD mF mB mC) fun x133 _=>
  Zd (ih _)))))
 exact yF (yF (yB (yB (Zc (Za t0 t1 t2 t3 s0.1 x129.1 (w64 (s0.2.2.1-1)) x129.2 mA mE mD mF mB mC) (hrc t0 t1 t2 t3 s0.1 x129.1 (w64 (s0.2.2.1-1)) x129.2 mA mE mD mF mB mC) fun x134 _=>
  Zd (ih _))
  (Zc (Za t0 t1 t2 t3 s0.1 x129.1 (w64 (s0.2.2.1-1)) x129.2 mA mE mD mF mB mC) (hrc t0 t1 t2 t3 s0.1 x129.1 (w64 (s0.2.2.1-1)) x129.2 mA mE mD mF mB mC) fun x135 _=>
  Zd (ih _)))
  (yB (Zc (Za t0 t1 t2 t3 (w64 (x129.1+1)) s0.2.1 (w64 (s0.2.2.1-1)) x129.2 mA mE mD mF mB mC) (hrc t0 t1 t2 t3 (w64 (x129.1+1)) s0.2.1 (w64 (s0.2.2.1-1)) x129.2 mA mE mD mF mB mC) fun x136 _=>
  Zd (ih _))
  (Zc (Za t0 t1 t2 t3 (w64 (x129.1+1)) s0.2.1 (w64 (s0.2.2.1-1)) x129.2 mA mE mD mF mB mC) (hrc t0 t1 t2 t3 (w64 (x129.1+1)) s0.2.1 (w64 (s0.2.2.1-1)) x129.2 mA mE mD mF mB mC) fun x137 _=>
  Zd (ih _)))))))
  (Zc _ ZA fun x138 _=>
  Zd (ih _)))))
  (by
 conv=>rhs;whnf
 refine Zc _ Zn fun x139 _=>?_
 rcases x139 with x139 | x139
 exact yT (yF (yB (yB (Zc (Za t0 t1 t2 t3 s0.1 x139.1 (w64 (s0.2.2.1-1)) x139.2 mA mE mD mF mB mC) (hrc t0 t1 t2 t3 s0.1 x139.1 (w64 (s0.2.2.1-1)) x139.2 mA mE mD mF mB mC) fun x140 _=>
  Zd (ih _))
  (Zc (Za t0 t1 t2 t3 s0.1 x139.1 (w64 (s0.2.2.1-1)) x139.2 mA mE mD mF mB mC) (hrc t0 t1 t2 t3 s0.1 x139.1 (w64 (s0.2.2.1-1)) x139.2 mA mE mD mF mB mC) fun x141 _=>
  Zd (ih _)))
  (yB (Zc (Za t0 t1 t2 t3 (w64 (x139.1+1)) s0.2.1 (w64 (s0.2.2.1-1)) x139.2 mA mE mD mF mB mC) (hrc t0 t1 t2 t3 (w64 (x139.1+1)) s0.2.1 (w64 (s0.2.2.1-1)) x139.2 mA mE mD mF mB mC) fun x142 _=>
  Zd (ih _))
  (Zc (Za t0 t1 t2 t3 (w64 (x139.1+1)) s0.2.1 (w64 (s0.2.2.1-1)) x139.2 mA mE mD mF mB mC) (hrc t0 t1 t2 t3 (w64 (x139.1+1)) s0.2.1 (w64 (s0.2.2.1-1)) x139.2 mA mE mD mF mB mC) fun x143 _=>
  Zd (ih _)))))
 exact yF (yF (yB (yB (Zc (Za t0 t1 t2 t3 s0.1 x139.1 (w64 (s0.2.2.1-1)) x139.2 mA mE mD mF mB mC) (hrc t0 t1 t2 t3 s0.1 x139.1 (w64 (s0.2.2.1-1)) x139.2 mA mE mD mF mB mC) fun x144 _=>
  Zd (ih _))
  (Zc (Za t0 t1 t2 t3 s0.1 x139.1 (w64 (s0.2.2.1-1)) x139.2 mA mE mD mF mB mC) (hrc t0 t1 t2 t3 s0.1 x139.1 (w64 (s0.2.2.1-1)) x139.2 mA mE mD mF mB mC) fun x145 _=>
  Zd (ih _)))
  (yB (Zc (Za t0 t1 t2 t3 (w64 (x139.1+1)) s0.2.1 (w64 (s0.2.2.1-1)) x139.2 mA mE mD mF mB mC) (hrc t0 t1 t2 t3 (w64 (x139.1+1)) s0.2.1 (w64 (s0.2.2.1-1)) x139.2 mA mE mD mF mB mC) fun x146 _=>
  Zd (ih _))
  (Zc (Za t0 t1 t2 t3 (w64 (x139.1+1)) s0.2.1 (w64 (s0.2.2.1-1)) x139.2 mA mE mD mF mB mC) (hrc t0 t1 t2 t3 (w64 (x139.1+1)) s0.2.1 (w64 (s0.2.2.1-1)) x139.2 mA mE mD mF mB mC) fun x147 _=>
  Zd (ih _)))))))
  (yB (yG fun x148 hx148=>
  Ze (Zk rfl hx148) (yG fun x149 hx149=>
  Ze (Zk rfl hx149) (yC ZG fun x150 _=>
  yB ((by
 conv=>rhs;whnf
 refine Zc _ Zn fun x151 _=>?_
 rcases x151 with x151 | x151
 exact yT (yF (yB (yB (Zc (Za t0 t1 t2 t3 s0.1 x151.1 (w64 (s0.2.2.1-1)) x151.2 mA mE mD mF mB mC) (hrc t0 t1 t2 t3 s0.1 x151.1 (w64 (s0.2.2.1-1)) x151.2 mA mE mD mF mB mC) fun x152 _=>
  Zd (ih _))
  (Zc (Za t0 t1 t2 t3 s0.1 x151.1 (w64 (s0.2.2.1-1)) x151.2 mA mE mD mF mB mC) (hrc t0 t1 t2 t3 s0.1 x151.1 (w64 (s0.2.2.1-1)) x151.2 mA mE mD mF mB mC) fun x153 _=>
  Zd (ih _)))
  (yB (Zc (Za t0 t1 t2 t3 (w64 (x151.1+1)) s0.2.1 (w64 (s0.2.2.1-1)) x151.2 mA mE mD mF mB mC) (hrc t0 t1 t2 t3 (w64 (x151.1+1)) s0.2.1 (w64 (s0.2.2.1-1)) x151.2 mA mE mD mF mB mC) fun x154 _=>
  Zd (ih _))
  (Zc (Za t0 t1 t2 t3 (w64 (x151.1+1)) s0.2.1 (w64 (s0.2.2.1-1)) x151.2 mA mE mD mF mB mC) (hrc t0 t1 t2 t3 (w64 (x151.1+1)) s0.2.1 (w64 (s0.2.2.1-1)) x151.2 mA mE mD mF mB mC) fun x155 _=>
  Zd (ih _)))))
 exact yF (yF (yB (yB (Zc (Za t0 t1 t2 t3 s0.1 x151.1 (w64 (s0.2.2.1-1)) x151.2 mA mE mD mF mB mC) (hrc t0 t1 t2 t3 s0.1 x151.1 (w64 (s0.2.2.1-1)) x151.2 mA mE mD mF mB mC) fun x156 _=>
  Zd (ih _))
  (Zc (Za t0 t1 t2 t3 s0.1 x151.1 (w64 (s0.2.2.1-1)) x151.2 mA mE mD mF mB mC) (hrc t0 t1 t2 t3 s0.1 x151.1 (w64 (s0.2.2.1-1)) x151.2 mA mE mD mF mB mC) fun x157 _=>
  Zd (ih _)))
  (yB (Zc (Za t0 t1 t2 t3 (w64 (x151.1+1)) s0.2.1 (w64 (s0.2.2.1-1)) x151.2 mA mE mD mF mB mC) (hrc t0 t1 t2 t3 (w64 (x151.1+1)) s0.2.1 (w64 (s0.2.2.1-1)) x151.2 mA mE mD mF mB mC) fun x158 _=>
  Zd (ih _))
  (Zc (Za t0 t1 t2 t3 (w64 (x151.1+1)) s0.2.1 (w64 (s0.2.2.1-1)) x151.2 mA mE mD mF mB mC) (hrc t0 t1 t2 t3 (w64 (x151.1+1)) s0.2.1 (w64 (s0.2.2.1-1)) x151.2 mA mE mD mF mB mC) fun x159 _=>
  Zd (ih _)))))))
  (Zc _ ZA fun x160 _=>
  Zd (ih _)))))
  (by
 conv=>rhs;whnf
 refine Zc _ Zn fun x161 _=>?_
 rcases x161 with x161 | x161
 exact yT (yF (yB (yB (Zc (Za t0 t1 t2 t3 s0.1 x161.1 (w64 (s0.2.2.1-1)) x161.2 mA mE mD mF mB mC) (hrc t0 t1 t2 t3 s0.1 x161.1 (w64 (s0.2.2.1-1)) x161.2 mA mE mD mF mB mC) fun x162 _=>
  Zd (ih _))
  (Zc (Za t0 t1 t2 t3 s0.1 x161.1 (w64 (s0.2.2.1-1)) x161.2 mA mE mD mF mB mC) (hrc t0 t1 t2 t3 s0.1 x161.1 (w64 (s0.2.2.1-1)) x161.2 mA mE mD mF mB mC) fun x163 _=>
  Zd (ih _)))
  (yB (Zc (Za t0 t1 t2 t3 (w64 (x161.1+1)) s0.2.1 (w64 (s0.2.2.1-1)) x161.2 mA mE mD mF mB mC) (hrc t0 t1 t2 t3 (w64 (x161.1+1)) s0.2.1 (w64 (s0.2.2.1-1)) x161.2 mA mE mD mF mB mC) fun x164 _=>
  Zd (ih _))
  (Zc (Za t0 t1 t2 t3 (w64 (x161.1+1)) s0.2.1 (w64 (s0.2.2.1-1)) x161.2 mA mE mD mF mB mC) (hrc t0 t1 t2 t3 (w64 (x161.1+1)) s0.2.1 (w64 (s0.2.2.1-1)) x161.2 mA mE mD mF mB mC) fun x165 _=>
  Zd (ih _)))))
 exact yF (yF (yB (yB (Zc (Za t0 t1 t2 t3 s0.1 x161.1 (w64 (s0.2.2.1-1)) x161.2 mA mE mD mF mB mC) (hrc t0 t1 t2 t3 s0.1 x161.1 (w64 (s0.2.2.1-1)) x161.2 mA mE mD mF mB mC) fun x166 _=>
  Zd (ih _))
  (Zc (Za t0 t1 t2 t3 s0.1 x161.1 (w64 (s0.2.2.1-1)) x161.2 mA mE mD mF mB mC) (hrc t0 t1 t2 t3 s0.1 x161.1 (w64 (s0.2.2.1-1)) x161.2 mA mE mD mF mB mC) fun x167 _=>
  Zd (ih _)))
  (yB (Zc (Za t0 t1 t2 t3 (w64 (x161.1+1)) s0.2.1 (w64 (s0.2.2.1-1)) x161.2 mA mE mD mF mB mC) (hrc t0 t1 t2 t3 (w64 (x161.1+1)) s0.2.1 (w64 (s0.2.2.1-1)) x161.2 mA mE mD mF mB mC) fun x168 _=>
  Zd (ih _))
  (Zc (Za t0 t1 t2 t3 (w64 (x161.1+1)) s0.2.1 (w64 (s0.2.2.1-1)) x161.2 mA mE mD mF mB mC) (hrc t0 t1 t2 t3 (w64 (x161.1+1)) s0.2.1 (w64 (s0.2.2.1-1)) x161.2 mA mE mD mF mB mC) fun x169 _=>
  Zd (ih _)))))))))))
 exact Zqg (by
 try unfold ZB
 rcases hb:s0.2.2.2.2.1 with _ | _
 exact ZqV (yB (Zc _ Zad fun x73 _=>
  Zi rfl)
  (yB (Zc _ Zat fun x74 _=>
  Zi rfl)
  (Zc _ Zak fun x75 _=>
  yB (Zc _ Zai fun x76 _=>
  yB (yG fun x77 hx77=>
  Ze (Zk rfl hx77) (yG fun x78 hx78=>
  Ze (Zk rfl hx78) (yC ZG fun x79 _=>
  yB ((by
 conv=>rhs;whnf
 refine Zc _ Zn fun x80 _=>?_
 rcases x80 with x80 | x80
 exact yT (yF (yB (yB (Zc (Za t0 t1 t2 t3 s0.1 x80.1 s0.2.2.1 x80.2 mA mE mD mF mB mC) (hrc t0 t1 t2 t3 s0.1 x80.1 s0.2.2.1 x80.2 mA mE mD mF mB mC) fun x81 _=>
  Zd (ih _))
  (Zc (Za t0 t1 t2 t3 s0.1 x80.1 s0.2.2.1 x80.2 mA mE mD mF mB mC) (hrc t0 t1 t2 t3 s0.1 x80.1 s0.2.2.1 x80.2 mA mE mD mF mB mC) fun x82 _=>
  Zd (ih _)))
  (yB (Zc (Za t0 t1 t2 t3 (w64 (x80.1+1)) s0.2.1 s0.2.2.1 x80.2 mA mE mD mF mB mC) (hrc t0 t1 t2 t3 (w64 (x80.1+1)) s0.2.1 s0.2.2.1 x80.2 mA mE mD mF mB mC) fun x83 _=>
  Zd (ih _))
  (Zc (Za t0 t1 t2 t3 (w64 (x80.1+1)) s0.2.1 s0.2.2.1 x80.2 mA mE mD mF mB mC) (hrc t0 t1 t2 t3 (w64 (x80.1+1)) s0.2.1 s0.2.2.1 x80.2 mA mE mD mF mB mC) fun x84 _=>
  Zd (ih _)))))
 exact yF (yF (yB (yB (Zc (Za t0 t1 t2 t3 s0.1 x80.1 s0.2.2.1 x80.2 mA mE mD mF mB mC) (hrc t0 t1 t2 t3 s0.1 x80.1 s0.2.2.1 x80.2 mA mE mD mF mB mC) fun x85 _=>
  Zd (ih _))
  (Zc (Za t0 t1 t2 t3 s0.1 x80.1 s0.2.2.1 x80.2 mA mE mD mF mB mC) (hrc t0 t1 t2 t3 s0.1 x80.1 s0.2.2.1 x80.2 mA mE mD mF mB mC) fun x86 _=>
  Zd (ih _)))
  (yB (Zc (Za t0 t1 t2 t3 (w64 (x80.1+1)) s0.2.1 s0.2.2.1 x80.2 mA mE mD mF mB mC) (hrc t0 t1 t2 t3 (w64 (x80.1+1)) s0.2.1 s0.2.2.1 x80.2 mA mE mD mF mB mC) fun x87 _=>
  Zd (ih _))
  (Zc (Za t0 t1 t2 t3 (w64 (x80.1+1)) s0.2.1 s0.2.2.1 x80.2 mA mE mD mF mB mC) (hrc t0 t1 t2 t3 (w64 (x80.1+1)) s0.2.1 s0.2.2.1 x80.2 mA mE mD mF mB mC) fun x88 _=>
  Zd (ih _)))))))
  (Zc _ ZA fun x89 _=>
  Zd (ih _)))))
  (by
 conv=>rhs;whnf
 refine Zc _ Zn fun x90 _=>?_
 rcases x90 with x90 | x90
 exact yT (yF (yB (yB (Zc (Za t0 t1 t2 t3 s0.1 x90.1 s0.2.2.1 x90.2 mA mE mD mF mB mC) (hrc t0 t1 t2 t3 s0.1 x90.1 s0.2.2.1 x90.2 mA mE mD mF mB mC) fun x91 _=>
  Zd (ih _))
  (Zc (Za t0 t1 t2 t3 s0.1 x90.1 s0.2.2.1 x90.2 mA mE mD mF mB mC) (hrc t0 t1 t2 t3 s0.1 x90.1 s0.2.2.1 x90.2 mA mE mD mF mB mC) fun x92 _=>
  Zd (ih _)))
  (yB (Zc (Za t0 t1 t2 t3 (w64 (x90.1+1)) s0.2.1 s0.2.2.1 x90.2 mA mE mD mF mB mC) (hrc t0 t1 t2 t3 (w64 (x90.1+1)) s0.2.1 s0.2.2.1 x90.2 mA mE mD mF mB mC) fun x93 _=>
  Zd (ih _))
  (Zc (Za t0 t1 t2 t3 (w64 (x90.1+1)) s0.2.1 s0.2.2.1 x90.2 mA mE mD mF mB mC) (hrc t0 t1 t2 t3 (w64 (x90.1+1)) s0.2.1 s0.2.2.1 x90.2 mA mE mD mF mB mC) fun x94 _=>
  Zd (ih _)))))
 exact yF (yF (yB (yB (Zc (Za t0 t1 t2 t3 s0.1 x90.1 s0.2.2.1 x90.2 mA mE mD mF mB mC) (hrc t0 t1 t2 t3 s0.1 x90.1 s0.2.2.1 x90.2 mA mE mD mF mB mC) fun x95 _=>
  Zd (ih _))
  (Zc (Za t0 t1 t2 t3 s0.1 x90.1 s0.2.2.1 x90.2 mA mE mD mF mB mC) (hrc t0 t1 t2 t3 s0.1 x90.1 s0.2.2.1 x90.2 mA mE mD mF mB mC) fun x96 _=>
  Zd (ih _)))
  (yB (Zc (Za t0 t1 t2 t3 (w64 (x90.1+1)) s0.2.1 s0.2.2.1 x90.2 mA mE mD mF mB mC) (hrc t0 t1 t2 t3 (w64 (x90.1+1)) s0.2.1 s0.2.2.1 x90.2 mA mE mD mF mB mC) fun x97 _=>
  Zd (ih _))
  (Zc (Za t0 t1 t2 t3 (w64 (x90.1+1)) s0.2.1 s0.2.2.1 x90.2 mA mE mD mF mB mC) (hrc t0 t1 t2 t3 (w64 (x90.1+1)) s0.2.1 s0.2.2.1 x90.2 mA mE mD mF mB mC) fun x98 _=>
  Zd (ih _)))))))
  (yB (yG fun x99 hx99=>
  Ze (Zk rfl hx99) (yG fun x100 hx100=>
  Ze (Zk rfl hx100) (yC ZG fun x101 _=>
  yB ((by
 conv=>rhs;whnf
 refine Zc _ Zn fun x102 _=>?_
 rcases x102 with x102 | x102
 exact yT (yF (yB (yB (Zc (Za t0 t1 t2 t3 s0.1 x102.1 s0.2.2.1 x102.2 mA mE mD mF mB mC) (hrc t0 t1 t2 t3 s0.1 x102.1 s0.2.2.1 x102.2 mA mE mD mF mB mC) fun x103 _=>
  Zd (ih _))
  (Zc (Za t0 t1 t2 t3 s0.1 x102.1 s0.2.2.1 x102.2 mA mE mD mF mB mC) (hrc t0 t1 t2 t3 s0.1 x102.1 s0.2.2.1 x102.2 mA mE mD mF mB mC) fun x104 _=>
  Zd (ih _)))
  (yB (Zc (Za t0 t1 t2 t3 (w64 (x102.1+1)) s0.2.1 s0.2.2.1 x102.2 mA mE mD mF mB mC) (hrc t0 t1 t2 t3 (w64 (x102.1+1)) s0.2.1 s0.2.2.1 x102.2 mA mE mD mF mB mC) fun x105 _=>
  Zd (ih _))
  (Zc (Za t0 t1 t2 t3 (w64 (x102.1+1)) s0.2.1 s0.2.2.1 x102.2 mA mE mD mF mB mC) (hrc t0 t1 t2 t3 (w64 (x102.1+1)) s0.2.1 s0.2.2.1 x102.2 mA mE mD mF mB mC) fun x106 _=>
  Zd (ih _)))))
 exact yF (yF (yB (yB (Zc (Za t0 t1 t2 t3 s0.1 x102.1 s0.2.2.1 x102.2 mA mE mD mF mB mC) (hrc t0 t1 t2 t3 s0.1 x102.1 s0.2.2.1 x102.2 mA mE mD mF mB mC) fun x107 _=>
  Zd (ih _))
  (Zc (Za t0 t1 t2 t3 s0.1 x102.1 s0.2.2.1 x102.2 mA mE mD mF mB mC) (hrc t0 t1 t2 t3 s0.1 x102.1 s0.2.2.1 x102.2 mA mE mD mF mB mC) fun x108 _=>
  Zd (ih _)))
  (yB (Zc (Za t0 t1 t2 t3 (w64 (x102.1+1)) s0.2.1 s0.2.2.1 x102.2 mA mE mD mF mB mC) (hrc t0 t1 t2 t3 (w64 (x102.1+1)) s0.2.1 s0.2.2.1 x102.2 mA mE mD mF mB mC) fun x109 _=>
  Zd (ih _))
  (Zc (Za t0 t1 t2 t3 (w64 (x102.1+1)) s0.2.1 s0.2.2.1 x102.2 mA mE mD mF mB mC) (hrc t0 t1 t2 t3 (w64 (x102.1+1)) s0.2.1 s0.2.2.1 x102.2 mA mE mD mF mB mC) fun x110 _=>
  Zd (ih _)))))))
  (Zc _ ZA fun x111 _=>
  Zd (ih _)))))
  (by
 conv=>rhs;whnf
 refine Zc _ Zn fun x112 _=>?_
 rcases x112 with x112 | x112
 exact yT (yF (yB (yB (Zc (Za t0 t1 t2 t3 s0.1 x112.1 s0.2.2.1 x112.2 mA mE mD mF mB mC) (hrc t0 t1 t2 t3 s0.1 x112.1 s0.2.2.1 x112.2 mA mE mD mF mB mC) fun x113 _=>
  Zd (ih _))
  (Zc (Za t0 t1 t2 t3 s0.1 x112.1 s0.2.2.1 x112.2 mA mE mD mF mB mC) (hrc t0 t1 t2 t3 s0.1 x112.1 s0.2.2.1 x112.2 mA mE mD mF mB mC) fun x114 _=>
  Zd (ih _)))
  (yB (Zc (Za t0 t1 t2 t3 (w64 (x112.1+1)) s0.2.1 s0.2.2.1 x112.2 mA mE mD mF mB mC) (hrc t0 t1 t2 t3 (w64 (x112.1+1)) s0.2.1 s0.2.2.1 x112.2 mA mE mD mF mB mC) fun x115 _=>
  Zd (ih _))
  (Zc (Za t0 t1 t2 t3 (w64 (x112.1+1)) s0.2.1 s0.2.2.1 x112.2 mA mE mD mF mB mC) (hrc t0 t1 t2 t3 (w64 (x112.1+1)) s0.2.1 s0.2.2.1 x112.2 mA mE mD mF mB mC) fun x116 _=>
  Zd (ih _)))))
 exact yF (yF (yB (yB (Zc (Za t0 t1 t2 t3 s0.1 x112.1 s0.2.2.1 x112.2 mA mE mD mF mB mC) (hrc t0 t1 t2 t3 s0.1 x112.1 s0.2.2.1 x112.2 mA mE mD mF mB mC) fun x117 _=>
  Zd (ih _))
  (Zc (Za t0 t1 t2 t3 s0.1 x112.1 s0.2.2.1 x112.2 mA mE mD mF mB mC) (hrc t0 t1 t2 t3 s0.1 x112.1 s0.2.2.1 x112.2 mA mE mD mF mB mC) fun x118 _=>
  Zd (ih _)))
  (yB (Zc (Za t0 t1 t2 t3 (w64 (x112.1+1)) s0.2.1 s0.2.2.1 x112.2 mA mE mD mF mB mC) (hrc t0 t1 t2 t3 (w64 (x112.1+1)) s0.2.1 s0.2.2.1 x112.2 mA mE mD mF mB mC) fun x119 _=>
  Zd (ih _))
  (Zc (Za t0 t1 t2 t3 (w64 (x112.1+1)) s0.2.1 s0.2.2.1 x112.2 mA mE mD mF mB mC) (hrc t0 t1 t2 t3 (w64 (x112.1+1)) s0.2.1 s0.2.2.1 x112.2 mA mE mD mF mB mC) fun x120 _=>
  Zd (ih _))))))))))
 exact Zqg (yB (Zc _ Zad fun x1 _=>
  Zi rfl)
  (yB (Zc _ Zat fun x2 _=>
  Zi rfl)
  (Zc _ Zak fun x3 _=>
  yB (Zc _ Zai fun x4 _=>
  yT (by
 conv=>rhs;whnf
 refine Zc _ Zbd fun x5 _=>?_
 rcases x5 with x5 | x5
 exact Zi rfl
 exact yB (yG fun x6 hx6=>
  Ze (Zk rfl hx6) (yG fun x7 hx7=>
  Ze (Zk rfl hx7) (yC ZG fun x8 _=>
  yB ((by
 conv=>rhs;whnf
 refine Zc _ Zn fun x9 _=>?_
 rcases x9 with x9 | x9
 exact yT (yF (yB (yB (Zc (Za t0 t1 t2 t3 s0.1 x9.1 s0.2.2.1 x9.2 mA mE mD mF mB mC) (hrc t0 t1 t2 t3 s0.1 x9.1 s0.2.2.1 x9.2 mA mE mD mF mB mC) fun x10 _=>
  Zd (ih _))
  (Zc (Za t0 t1 t2 t3 s0.1 x9.1 s0.2.2.1 x9.2 mA mE mD mF mB mC) (hrc t0 t1 t2 t3 s0.1 x9.1 s0.2.2.1 x9.2 mA mE mD mF mB mC) fun x11 _=>
  Zd (ih _)))
  (yB (Zc (Za t0 t1 t2 t3 (w64 (x9.1+1)) s0.2.1 s0.2.2.1 x9.2 mA mE mD mF mB mC) (hrc t0 t1 t2 t3 (w64 (x9.1+1)) s0.2.1 s0.2.2.1 x9.2 mA mE mD mF mB mC) fun x12 _=>
  Zd (ih _))
  (Zc (Za t0 t1 t2 t3 (w64 (x9.1+1)) s0.2.1 s0.2.2.1 x9.2 mA mE mD mF mB mC) (hrc t0 t1 t2 t3 (w64 (x9.1+1)) s0.2.1 s0.2.2.1 x9.2 mA mE mD mF mB mC) fun x13 _=>
  Zd (ih _)))))
 exact yF (yF (yB (yB (Zc (Za t0 t1 t2 t3 s0.1 x9.1 s0.2.2.1 x9.2 mA mE mD mF mB mC) (hrc t0 t1 t2 t3 s0.1 x9.1 s0.2.2.1 x9.2 mA mE mD mF mB mC) fun x14 _=>
  Zd (ih _))
  (Zc (Za t0 t1 t2 t3 s0.1 x9.1 s0.2.2.1 x9.2 mA mE mD mF mB mC) (hrc t0 t1 t2 t3 s0.1 x9.1 s0.2.2.1 x9.2 mA mE mD mF mB mC) fun x15 _=>
  Zd (ih _)))
  (yB (Zc (Za t0 t1 t2 t3 (w64 (x9.1+1)) s0.2.1 s0.2.2.1 x9.2 mA mE mD mF mB mC) (hrc t0 t1 t2 t3 (w64 (x9.1+1)) s0.2.1 s0.2.2.1 x9.2 mA mE mD mF mB mC) fun x16 _=>
  Zd (ih _))
  (Zc (Za t0 t1 t2 t3 (w64 (x9.1+1)) s0.2.1 s0.2.2.1 x9.2 mA mE mD mF mB mC) (hrc t0 t1 t2 t3 (w64 (x9.1+1)) s0.2.1 s0.2.2.1 x9.2 mA mE mD mF mB mC) fun x17 _=>
  Zd (ih _)))))))
  (Zc _ ZA fun x18 _=>
  Zd (ih _)))))
  (by
 conv=>rhs;whnf
 refine Zc _ Zn fun x19 _=>?_
 rcases x19 with x19 | x19
 exact yT (yF (yB (yB (Zc (Za t0 t1 t2 t3 s0.1 x19.1 s0.2.2.1 x19.2 mA mE mD mF mB mC) (hrc t0 t1 t2 t3 s0.1 x19.1 s0.2.2.1 x19.2 mA mE mD mF mB mC) fun x20 _=>
  Zd (ih _))
  (Zc (Za t0 t1 t2 t3 s0.1 x19.1 s0.2.2.1 x19.2 mA mE mD mF mB mC) (hrc t0 t1 t2 t3 s0.1 x19.1 s0.2.2.1 x19.2 mA mE mD mF mB mC) fun x21 _=>
  Zd (ih _)))
  (yB (Zc (Za t0 t1 t2 t3 (w64 (x19.1+1)) s0.2.1 s0.2.2.1 x19.2 mA mE mD mF mB mC) (hrc t0 t1 t2 t3 (w64 (x19.1+1)) s0.2.1 s0.2.2.1 x19.2 mA mE mD mF mB mC) fun x22 _=>
  Zd (ih _))
  (Zc (Za t0 t1 t2 t3 (w64 (x19.1+1)) s0.2.1 s0.2.2.1 x19.2 mA mE mD mF mB mC) (hrc t0 t1 t2 t3 (w64 (x19.1+1)) s0.2.1 s0.2.2.1 x19.2 mA mE mD mF mB mC) fun x23 _=>
  Zd (ih _)))))
 exact yF (yF (yB (yB (Zc (Za t0 t1 t2 t3 s0.1 x19.1 s0.2.2.1 x19.2 mA mE mD mF mB mC) (hrc t0 t1 t2 t3 s0.1 x19.1 s0.2.2.1 x19.2 mA mE mD mF mB mC) fun x24 _=>
  Zd (ih _))
  (Zc (Za t0 t1 t2 t3 s0.1 x19.1 s0.2.2.1 x19.2 mA mE mD mF mB mC) (hrc t0 t1 t2 t3 s0.1 x19.1 s0.2.2.1 x19.2 mA mE mD mF mB mC) fun x25 _=>
  Zd (ih _)))
  (yB (Zc (Za t0 t1 t2 t3 (w64 (x19.1+1)) s0.2.1 s0.2.2.1 x19.2 mA mE mD mF mB mC) (hrc t0 t1 t2 t3 (w64 (x19.1+1)) s0.2.1 s0.2.2.1 x19.2 mA mE mD mF mB mC) fun x26 _=>
  Zd (ih _))
  (Zc (Za t0 t1 t2 t3 (w64 (x19.1+1)) s0.2.1 s0.2.2.1 x19.2 mA mE mD mF mB mC) (hrc t0 t1 t2 t3 (w64 (x19.1+1)) s0.2.1 s0.2.2.1 x19.2 mA mE mD mF mB mC) fun x27 _=>
  Zd (ih _))))))))
  (yB ((by
 conv=>rhs;whnf
 refine Zc _ Zbd fun x28 _=>?_
 rcases x28 with x28 | x28
 exact Zi rfl
 exact yB (yG fun x29 hx29=>
  Ze (Zk rfl hx29) (yG fun x30 hx30=>
  Ze (Zk rfl hx30) (yC ZG fun x31 _=>
  yB ((by
 conv=>rhs;whnf
 refine Zc _ Zn fun x32 _=>?_
 rcases x32 with x32 | x32
 exact yT (yF (yB (yB (Zc (Za t0 t1 t2 t3 s0.1 x32.1 s0.2.2.1 x32.2 mA mE mD mF mB mC) (hrc t0 t1 t2 t3 s0.1 x32.1 s0.2.2.1 x32.2 mA mE mD mF mB mC) fun x33 _=>
  Zd (ih _))
  (Zc (Za t0 t1 t2 t3 s0.1 x32.1 s0.2.2.1 x32.2 mA mE mD mF mB mC) (hrc t0 t1 t2 t3 s0.1 x32.1 s0.2.2.1 x32.2 mA mE mD mF mB mC) fun x34 _=>
  Zd (ih _)))
  (yB (Zc (Za t0 t1 t2 t3 (w64 (x32.1+1)) s0.2.1 s0.2.2.1 x32.2 mA mE mD mF mB mC) (hrc t0 t1 t2 t3 (w64 (x32.1+1)) s0.2.1 s0.2.2.1 x32.2 mA mE mD mF mB mC) fun x35 _=>
  Zd (ih _))
  (Zc (Za t0 t1 t2 t3 (w64 (x32.1+1)) s0.2.1 s0.2.2.1 x32.2 mA mE mD mF mB mC) (hrc t0 t1 t2 t3 (w64 (x32.1+1)) s0.2.1 s0.2.2.1 x32.2 mA mE mD mF mB mC) fun x36 _=>
  Zd (ih _)))))
 exact yF (yF (yB (yB (Zc (Za t0 t1 t2 t3 s0.1 x32.1 s0.2.2.1 x32.2 mA mE mD mF mB mC) (hrc t0 t1 t2 t3 s0.1 x32.1 s0.2.2.1 x32.2 mA mE mD mF mB mC) fun x37 _=>
  Zd (ih _))
  (Zc (Za t0 t1 t2 t3 s0.1 x32.1 s0.2.2.1 x32.2 mA mE mD mF mB mC) (hrc t0 t1 t2 t3 s0.1 x32.1 s0.2.2.1 x32.2 mA mE mD mF mB mC) fun x38 _=>
  Zd (ih _)))
  (yB (Zc (Za t0 t1 t2 t3 (w64 (x32.1+1)) s0.2.1 s0.2.2.1 x32.2 mA mE mD mF mB mC) (hrc t0 t1 t2 t3 (w64 (x32.1+1)) s0.2.1 s0.2.2.1 x32.2 mA mE mD mF mB mC) fun x39 _=>
  Zd (ih _))
  (Zc (Za t0 t1 t2 t3 (w64 (x32.1+1)) s0.2.1 s0.2.2.1 x32.2 mA mE mD mF mB mC) (hrc t0 t1 t2 t3 (w64 (x32.1+1)) s0.2.1 s0.2.2.1 x32.2 mA mE mD mF mB mC) fun x40 _=>
  Zd (ih _)))))))
  (Zc _ ZA fun x41 _=>
  Zd (ih _)))))
  (by
 conv=>rhs;whnf
 refine Zc _ Zn fun x42 _=>?_
 rcases x42 with x42 | x42
 exact yT (yF (yB (yB (Zc (Za t0 t1 t2 t3 s0.1 x42.1 s0.2.2.1 x42.2 mA mE mD mF mB mC) (hrc t0 t1 t2 t3 s0.1 x42.1 s0.2.2.1 x42.2 mA mE mD mF mB mC) fun x43 _=>
  Zd (ih _))
  (Zc (Za t0 t1 t2 t3 s0.1 x42.1 s0.2.2.1 x42.2 mA mE mD mF mB mC) (hrc t0 t1 t2 t3 s0.1 x42.1 s0.2.2.1 x42.2 mA mE mD mF mB mC) fun x44 _=>
  Zd (ih _)))
  (yB (Zc (Za t0 t1 t2 t3 (w64 (x42.1+1)) s0.2.1 s0.2.2.1 x42.2 mA mE mD mF mB mC) (hrc t0 t1 t2 t3 (w64 (x42.1+1)) s0.2.1 s0.2.2.1 x42.2 mA mE mD mF mB mC) fun x45 _=>
  Zd (ih _))
  (Zc (Za t0 t1 t2 t3 (w64 (x42.1+1)) s0.2.1 s0.2.2.1 x42.2 mA mE mD mF mB mC) (hrc t0 t1 t2 t3 (w64 (x42.1+1)) s0.2.1 s0.2.2.1 x42.2 mA mE mD mF mB mC) fun x46 _=>
  Zd (ih _)))))
 exact yF (yF (yB (yB (Zc (Za t0 t1 t2 t3 s0.1 x42.1 s0.2.2.1 x42.2 mA mE mD mF mB mC) (hrc t0 t1 t2 t3 s0.1 x42.1 s0.2.2.1 x42.2 mA mE mD mF mB mC) fun x47 _=>
  Zd (ih _))
  (Zc (Za t0 t1 t2 t3 s0.1 x42.1 s0.2.2.1 x42.2 mA mE mD mF mB mC) (hrc t0 t1 t2 t3 s0.1 x42.1 s0.2.2.1 x42.2 mA mE mD mF mB mC) fun x48 _=>
  Zd (ih _)))
  (yB (Zc (Za t0 t1 t2 t3 (w64 (x42.1+1)) s0.2.1 s0.2.2.1 x42.2 mA mE mD mF mB mC) (hrc t0 t1 t2 t3 (w64 (x42.1+1)) s0.2.1 s0.2.2.1 x42.2 mA mE mD mF mB mC) fun x49 _=>
  Zd (ih _))
  (Zc (Za t0 t1 t2 t3 (w64 (x42.1+1)) s0.2.1 s0.2.2.1 x42.2 mA mE mD mF mB mC) (hrc t0 t1 t2 t3 (w64 (x42.1+1)) s0.2.1 s0.2.2.1 x42.2 mA mE mD mF mB mC) fun x50 _=>
  Zd (ih _))))))))
  (yB (yG fun x51 hx51=>
  Ze (Zk rfl hx51) (yG fun x52 hx52=>
  Ze (Zk rfl hx52) (yC ZG fun x53 _=>
  yB ((by
 conv=>rhs;whnf
 refine Zc _ Zn fun x54 _=>?_
 rcases x54 with x54 | x54
 exact yT (yF (yB (yB (Zc (Za t0 t1 t2 t3 s0.1 x54.1 s0.2.2.1 x54.2 mA mE mD mF mB mC) (hrc t0 t1 t2 t3 s0.1 x54.1 s0.2.2.1 x54.2 mA mE mD mF mB mC) fun x55 _=>
  Zd (ih _))
  (Zc (Za t0 t1 t2 t3 s0.1 x54.1 s0.2.2.1 x54.2 mA mE mD mF mB mC) (hrc t0 t1 t2 t3 s0.1 x54.1 s0.2.2.1 x54.2 mA mE mD mF mB mC) fun x56 _=>
  Zd (ih _)))
  (yB (Zc (Za t0 t1 t2 t3 (w64 (x54.1+1)) s0.2.1 s0.2.2.1 x54.2 mA mE mD mF mB mC) (hrc t0 t1 t2 t3 (w64 (x54.1+1)) s0.2.1 s0.2.2.1 x54.2 mA mE mD mF mB mC) fun x57 _=>
  Zd (ih _))
  (Zc (Za t0 t1 t2 t3 (w64 (x54.1+1)) s0.2.1 s0.2.2.1 x54.2 mA mE mD mF mB mC) (hrc t0 t1 t2 t3 (w64 (x54.1+1)) s0.2.1 s0.2.2.1 x54.2 mA mE mD mF mB mC) fun x58 _=>
  Zd (ih _)))))
 exact yF (yF (yB (yB (Zc (Za t0 t1 t2 t3 s0.1 x54.1 s0.2.2.1 x54.2 mA mE mD mF mB mC) (hrc t0 t1 t2 t3 s0.1 x54.1 s0.2.2.1 x54.2 mA mE mD mF mB mC) fun x59 _=>
  Zd (ih _))
  (Zc (Za t0 t1 t2 t3 s0.1 x54.1 s0.2.2.1 x54.2 mA mE mD mF mB mC) (hrc t0 t1 t2 t3 s0.1 x54.1 s0.2.2.1 x54.2 mA mE mD mF mB mC) fun x60 _=>
  Zd (ih _)))
  (yB (Zc (Za t0 t1 t2 t3 (w64 (x54.1+1)) s0.2.1 s0.2.2.1 x54.2 mA mE mD mF mB mC) (hrc t0 t1 t2 t3 (w64 (x54.1+1)) s0.2.1 s0.2.2.1 x54.2 mA mE mD mF mB mC) fun x61 _=>
  Zd (ih _))
  (Zc (Za t0 t1 t2 t3 (w64 (x54.1+1)) s0.2.1 s0.2.2.1 x54.2 mA mE mD mF mB mC) (hrc t0 t1 t2 t3 (w64 (x54.1+1)) s0.2.1 s0.2.2.1 x54.2 mA mE mD mF mB mC) fun x62 _=>
  Zd (ih _)))))))
  (Zc _ ZA fun x63 _=>
  Zd (ih _)))))
  (by
 conv=>rhs;whnf
 refine Zc _ Zn fun x64 _=>?_
 rcases x64 with x64 | x64
 exact yT (yF (yB (yB (Zc (Za t0 t1 t2 t3 s0.1 x64.1 s0.2.2.1 x64.2 mA mE mD mF mB mC) (hrc t0 t1 t2 t3 s0.1 x64.1 s0.2.2.1 x64.2 mA mE mD mF mB mC) fun x65 _=>
  Zd (ih _))
  (Zc (Za t0 t1 t2 t3 s0.1 x64.1 s0.2.2.1 x64.2 mA mE mD mF mB mC) (hrc t0 t1 t2 t3 s0.1 x64.1 s0.2.2.1 x64.2 mA mE mD mF mB mC) fun x66 _=>
  Zd (ih _)))
  (yB (Zc (Za t0 t1 t2 t3 (w64 (x64.1+1)) s0.2.1 s0.2.2.1 x64.2 mA mE mD mF mB mC) (hrc t0 t1 t2 t3 (w64 (x64.1+1)) s0.2.1 s0.2.2.1 x64.2 mA mE mD mF mB mC) fun x67 _=>
  Zd (ih _))
  (Zc (Za t0 t1 t2 t3 (w64 (x64.1+1)) s0.2.1 s0.2.2.1 x64.2 mA mE mD mF mB mC) (hrc t0 t1 t2 t3 (w64 (x64.1+1)) s0.2.1 s0.2.2.1 x64.2 mA mE mD mF mB mC) fun x68 _=>
  Zd (ih _)))))
 exact yF (yF (yB (yB (Zc (Za t0 t1 t2 t3 s0.1 x64.1 s0.2.2.1 x64.2 mA mE mD mF mB mC) (hrc t0 t1 t2 t3 s0.1 x64.1 s0.2.2.1 x64.2 mA mE mD mF mB mC) fun x69 _=>
  Zd (ih _))
  (Zc (Za t0 t1 t2 t3 s0.1 x64.1 s0.2.2.1 x64.2 mA mE mD mF mB mC) (hrc t0 t1 t2 t3 s0.1 x64.1 s0.2.2.1 x64.2 mA mE mD mF mB mC) fun x70 _=>
  Zd (ih _)))
  (yB (Zc (Za t0 t1 t2 t3 (w64 (x64.1+1)) s0.2.1 s0.2.2.1 x64.2 mA mE mD mF mB mC) (hrc t0 t1 t2 t3 (w64 (x64.1+1)) s0.2.1 s0.2.2.1 x64.2 mA mE mD mF mB mC) fun x71 _=>
  Zd (ih _))
  (Zc (Za t0 t1 t2 t3 (w64 (x64.1+1)) s0.2.1 s0.2.2.1 x64.2 mA mE mD mF mB mC) (hrc t0 t1 t2 t3 (w64 (x64.1+1)) s0.2.1 s0.2.2.1 x64.2 mA mE mD mF mB mC) fun x72 _=>
  Zd (ih _)))))))))))))
theorem ZeL (rc:Int->Int->Int->(Int->Int->Option Int)->(List Int)->Option (List Int)) (hrc:∀(t0:Bool) (t1:Bool) (t2:Bool) (t3:Bool) (b:Int) (c:Int) (d:Int) (mG:List Int) (mA:Int) (mE:Int) (mD:List Z3) (mF:List Zs) (mB:List Zj) (mC:List Zu) (r:List Int),rc b c d (fun z0 z1=>Zv z0 z1 mB) mG=some r->evW ctx 122 [(.sl 0 1),(zN b),(zN c),(zN d),(.fn 143 [(.ptr 1 0)])] [(zA mG),(zK0 mA mE t0 mD t1 mF t2 mB t3 mC)]=some ((Za t0 t1 t2 t3 b c d mG mA mE mD mF mB mC) r)) (t0:Bool) (t1:Bool) (t2:Bool) (t3:Bool) (b:Int) (c:Int) (d:Int) (mG:List Int) (mA:Int) (mE:Int) (mD:List Z3) (mF:List Zs) (mB:List Zj) (mC:List Zu):∀r,(Zaw rc b c d (fun z0 z1=>Zv z0 z1 mB) mG)=some r->evW ctx 122 [(.sl 0 1),(zN b),(zN c),(zN d),(.fn 143 [(.ptr 1 0)])] [(zA mG),(zK0 mA mE t0 mD t1 mF t2 mB t3 mC)]=some ((Za t0 t1 t2 t3 b c d mG mA mE mD mF mB mC) r):=
 evS ZzN rfl rfl <| Zc _ (ZeB hrc _) fun r219 _=>
  yR
theorem Zb5:∀(n:Nat) (t0:Bool) (t1:Bool) (t2:Bool) (t3:Bool) (b:Int) (c:Int) (d:Int) (mG:List Int) (mA:Int) (mE:Int) (mD:List Z3) (mF:List Zs) (mB:List Zj) (mC:List Zu) (r:List Int),ZQ n b c d (fun z0 z1=>Zv z0 z1 mB) mG=some r->evW ctx 122 [(.sl 0 1),(zN b),(zN c),(zN d),(.fn 143 [(.ptr 1 0)])] [(zA mG),(zK0 mA mE t0 mD t1 mF t2 mB t3 mC)]=some ((Za t0 t1 t2 t3 b c d mG mA mE mD mF mB mC) r)
  | 0,t0,t1,t2,t3,b,c,d,mG,mA,mE,mD,mF,mB,mC,r,h=>by cases h
  | n+1,t0,t1,t2,t3,b,c,d,mG,mA,mE,mD,mF,mB,mC,r,h=>ZeL (ZQ n) (Zb5 n) t0 t1 t2 t3 b c d mG mA mE mD mF mB mC r h
theorem Zfv {t0 t1:Bool}{t2 t3:Bool}{b c d:Int}{mG:List Int}{mA mE:Int}{mD:List Z3}{mF:List Zs}{mB:List Zj}{mC:List Zu}:∀r,ZcE b c d (fun z0 z1=>Zv z0 z1 mB) mG=some r->evW ctx 122 [(.sl 0 1),(zN b),(zN c),(zN d),(.fn 143 [(.ptr 1 0)])] [(zA mG),(zK0 mA mE t0 mD t1 mF t2 mB t3 mC)]=some ((Za t0 t1 t2 t3 b c d mG mA mE mD mF mB mC) r):=fun r h=>by
  obtain⟨n,hn⟩:=ZAx h
  exact Zb5 n t0 t1 t2 t3 b c d mG mA mE mD mF mB mC r hn
def ZfG (t0:Bool) (t1:Bool) (t2:Bool) (t3:Bool) (mG:List Int) (mA:Int) (mE:Int) (mD:List Z3) (mF:List Zs) (mB:List Zj) (mC:List Zu):(List Int)->V×Zl
  | r=>((.d (D.tup [])),[(zA r),(zK0 mA mE t0 mD t1 mF t2 mB t3 mC)])
theorem Zfu {t0 t1:Bool}{t2 t3:Bool}{mG:List Int}{mA mE:Int}{mD:List Z3}{mF:List Zs}{mB:List Zj}{mC:List Zu}:∀r,(Zar (fun z0 z1=>Zv z0 z1 mB) mG)=some r->evW ctx 96 [(.sl 0 1),(.fn 143 [(.ptr 1 0)])] [(zA mG),(zK0 mA mE t0 mD t1 mF t2 mB t3 mC)]=some ((ZfG t0 t1 t2 t3 mG mA mE mD mF mB mC) r):=
 evS ZFk rfl rfl <| Zh (Zy _ _) (yC ZhG fun x0 _=>
  Zc _ Zfv fun x1 _=>
  yR)
def Zqh (r:List Int):D:=(zL true r)
def Zjk (t0:Bool) (t1:Bool) (t2:Bool) (t3:Bool) (a:Zq) (b:Int):(List Int)->Ex×List V×Zl
  | r=>(.exit 0,[(.ptr 0 0),(.sl 1 1)],[(.cells (dV t0 t1 t2 t3 a)),(zA r)])
theorem Znm {t0 t1:Bool}{t2 t3:Bool}{a:Zq}{b:Int}:∀(s1:Int×(List Int)) (r:List Int),lp (Ze6 a b) s1=some r->lpW ctx 0 [1,2,5,12,13,14] [2,5] ZzM [(zN b),(.ptr 0 0),(.sl 1 1),(zW t2 Z2 a.futures),(zN (a.futures.length:Int)),(zN s1.1)] [(.cells (dV t0 t1 t2 t3 a)),(zA s1.2)]=some ((Zjk t0 t1 t2 t3 a b) r):=
 lpT (Zjk t0 t1 t2 t3 a b) fun s1 _ ih=>yB (yG fun x2 _=>
  yB (yT (ZcA (Zfi Zm s1.2 1) (Zh (Zfg Zm s1.2 [s1.1]) (Zd (ih _)))
  ZaW))
  (Zd (ih _)))
  (Zi rfl)
theorem ZpV {t0 t1:Bool}{t2 t3:Bool}{a:Zq}{b:Int}:∀r,(Zem a b)=some r->evD ctx 115 [(.d (D.agg (dA t0 t1 t2 t3 a))),(zN b)]=some (Zqh r):=
 evT ZEs rfl rfl <| yC ZmD fun x0 _=>
  yBr (Zh (Zy _ _) (Zc _ (Znm _) fun r3 _=>
  Zc _ Zfu fun x4 _=>
  yR))
def ZmO (b:Zg) (c:Int) (mA:List Int) (mI:List Zs) (mH:List Zg) (mL:(List (Int×Int))) (mJ:(List (Int×Int))) (mK:(List (Zj×Int))):Unit->V×Zl
  | r=>((zN (w64 ((List.length (mH++[b]):Int)-1))),[(.cells [(.sl 7 1),(.sl 2 2),(.sl 8 2),(.mp 4),(.mp 5),(.mp 6)]),.dead,(.arr 2 (List.map ZaV mI)),.dead,(.mp (mpD Zm Zm mL)),(.mp (mpD Zm Zm mJ)),(.mp (mpD Z2 Zm mK)),(zA (mA++[c])),(.arr 2 (List.map ZbS (mH++[b])))])
theorem ZaN {b:Zg}{c:Int}{mA:List Int}{mI:List Zs}{mH:List Zg}{mL:(List (Int×Int))}{mJ:(List (Int×Int))}{mK:(List (Zj×Int))}:∀r,(Zau b c mA mH)=some r->evW ctx 87 [(.ptr 0 0),(.d (zK5 b.part b.step)),(zN c)] [(.cells [(.sl 1 1),(.sl 2 2),(.sl 3 2),(.mp 4),(.mp 5),(.mp 6)]),(zA mA),(.arr 2 (List.map ZaV mI)),(.arr 2 (List.map ZbS mH)),(.mp (mpD Zm Zm mL)),(.mp (mpD Zm Zm mJ)),(.mp (mpD Z2 Zm mK))]=some ((ZmO b c mA mI mH mL mJ mK) r):=
 evS ZHR rfl rfl <| yT (ZcA (Zfi ZbS mH 1) (Zh (Zfg ZbS mH [b]) (yT (ZcA (Zfi Zm mA 1) (Zh (Zfg Zm mA [c]) (Zh (Zy _ _) yR))
  ZaW)))
  ZaW)
def ZmU (b:Int) (c:Int) (mA:List Int) (mI:List Zs) (mH:List Zg) (mL:(List (Int×Int))) (mJ:(List (Int×Int))) (mK:(List (Zj×Int))):Unit->V×Zl
  | r=>((.d (D.tup [])),[(.cells [(.sl 1 1),(.sl 7 2),(.sl 3 2),(.mp 4),(.mp 5),(.mp 6)]),(zA mA),.dead,(.arr 2 (List.map ZbS mH)),(.mp (mpD Zm Zm mL)),(.mp (mpD Zm Zm mJ)),(.mp (mpD Z2 Zm mK)),(.arr 2 (List.map ZaV (mI++[(Zs.mk b c)])))])
theorem Zav {b c:Int}{mA:List Int}{mI:List Zs}{mH:List Zg}{mL:(List (Int×Int))}{mJ:(List (Int×Int))}{mK:(List (Zj×Int))}:∀r,(ZM b c mI)=some r->evW ctx 86 [(.ptr 0 0),(zN b),(zN c)] [(.cells [(.sl 1 1),(.sl 2 2),(.sl 3 2),(.mp 4),(.mp 5),(.mp 6)]),(zA mA),(.arr 2 (List.map ZaV mI)),(.arr 2 (List.map ZbS mH)),(.mp (mpD Zm Zm mL)),(.mp (mpD Zm Zm mJ)),(.mp (mpD Z2 Zm mK))]=some ((ZmU b c mA mI mH mL mJ mK) r):=
 evS ZHW rfl rfl <| yT (ZcA (Zfi ZaV mI 1) (Zh (Zfg ZaV mI [(Zs.mk b c)]) yR)
  ZaW)
def ZmQ (t0:Bool) (t1:Bool) (t2:Bool) (t3:Bool) (b:Zq) (c:Int) (mA:List Int) (mI:List Zs) (mH:List Zg) (mL:(List (Int×Int))) (mJ:(List (Int×Int))) (mK:(List (Zj×Int))):(((List (Int×Int))×(List (Zj×Int))×(List Int)×(List Zs)×(List Zg))⊕((List Int)⊕Unit))->V×Zl
  | (.inl r)=>((.d (D.tup [])),[(.cells [(.sl 7 1),(.sl 8 2),(.sl 9 2),(.mp 4),(.mp 5),(.mp 6)]),.dead,.dead,.dead,(.mp (mpD Zm Zm (Zx zE mL c (mH.length:Int)))),(.mp (mpD Zm Zm r.1)),(.mp (mpD Z2 Zm r.2.1)),(zA r.2.2.1),(.arr 2 (List.map ZaV r.2.2.2.1)),(.arr 2 (List.map ZbS r.2.2.2.2))])
  | (.inr (.inl r))=>((.d (D.tup [])),[(.cells [(.sl 7 1),(.sl 2 2),(.sl 8 2),(.mp 4),(.mp 5),(.mp 6)]),.dead,(.arr 2 (List.map ZaV mI)),.dead,(.mp (mpD Zm Zm (Zx zE mL c (mH.length:Int)))),(.mp (mpD Zm Zm (Zx zE mJ c (w64 ((List.length (mH++[(Zg.mk c 0)]):Int)-1))))),(.mp (mpD Z2 Zm mK)),(zA r),(.arr 2 (List.map ZbS (mH++[(Zg.mk c 0)])))])
  | (.inr (.inr r))=>((.d (D.tup [])),[(.cells [(.sl 1 1),(.sl 2 2),(.sl 3 2),(.mp 4),(.mp 5),(.mp 6)]),(zA mA),(.arr 2 (List.map ZaV mI)),(.arr 2 (List.map ZbS mH)),(.mp (mpD Zm Zm (Zx zE mL c (mH.length:Int)))),(.mp (mpD Zm Zm mJ)),(.mp (mpD Z2 Zm mK))])
def Zhs (t0:Bool) (t1:Bool) (t2:Bool) (t3:Bool) (b:Zq) (c:Int) (mH:List Zg) (mL:(List (Int×Int))) (x0:List Int):((List (Int×Int))×(List (Zj×Int))×(List Int)×(List Zs)×(List Zg))->Ex×List V×Zl
  | r=>(.exit 0,[],[(.cells [(.sl 7 1),(.sl 8 2),(.sl 9 2),(.mp 4),(.mp 5),(.mp 6)]),.dead,.dead,.dead,(.mp (mpD Zm Zm (Zx zE mL c (mH.length:Int)))),(.mp (mpD Zm Zm r.1)),(.mp (mpD Z2 Zm r.2.1)),(zA r.2.2.1),(.arr 2 (List.map ZaV r.2.2.2.1)),(.arr 2 (List.map ZbS r.2.2.2.2))])
theorem ZcV {t0 t1:Bool}{t2 t3:Bool}{b:Zq}{c:Int}{mH:List Zg}{mL:(List (Int×Int))}{x0:List Int}:∀(s14:Int×Int×(List (Int×Int))×(List (Zj×Int))×(List Int)×(List Zs)×(List Zg)) (r:((List (Int×Int))×(List (Zj×Int))×(List Int)×(List Zs)×(List Zg))),lp (ZF b c x0) s14=some r->lpW ctx 7 [0,2,4,6,7,26,27] [] Zs9 [(.ptr 0 0),(zN c),(.ptr 7 0),(zN s14.1),(zV true x0),(zN (w64 ((x0.length:Int)+1))),(zN s14.2.1)] [(.cells [(.sl 8 1),(.sl 9 2),(.sl 10 2),(.mp 4),(.mp 5),(.mp 6)]),.dead,.dead,.dead,(.mp (mpD Zm Zm (Zx zE mL c (mH.length:Int)))),(.mp (mpD Zm Zm s14.2.2.1)),(.mp (mpD Z2 Zm s14.2.2.2.1)),(.cells (dV t0 t1 t2 t3 b)),(zA s14.2.2.2.2.1),(.arr 2 (List.map ZaV s14.2.2.2.2.2.1)),(.arr 2 (List.map ZbS s14.2.2.2.2.2.2))]=some ((Zhs t0 t1 t2 t3 b c mH mL x0) r):=
 lpT (Zhs t0 t1 t2 t3 b c mH mL x0) fun s14 _ ih=>yB (yG fun x15 _=>
  Zh (Zy _ _) (yB (yG fun x16 _=>
  yG fun x17 _=>
  Zc _ ZaN fun x18 _=>
  Ze (Zei (f:=Zm) (g:=Zm) zE (fun _ _=>rfl) s14.2.2.1 c (w64 ((List.length (s14.2.2.2.2.2.2++[(Zg.mk c s14.2.1)]):Int)-1))) (yB (Ze (ZbL (f:=Zm) (g:=Zm) zE (fun _ _=>rfl) (Zx zE s14.2.2.1 c (w64 ((List.length (s14.2.2.2.2.2.2++[(Zg.mk c s14.2.1)]):Int)-1))) c 0) (Ze (ZbL (f:=Zm) (g:=Zm) zE (fun _ _=>rfl) (Zx zE s14.2.2.1 c (w64 ((List.length (s14.2.2.2.2.2.2++[(Zg.mk c s14.2.1)]):Int)-1))) c 0) (Zc _ Zav fun x19 _=>
  yG fun x20 _=>
  yG fun x21 _=>
  Ze (ZbL (f:=Zm) (g:=Zm) zE (fun _ _=>rfl) (Zx zE s14.2.2.1 c (w64 ((List.length (s14.2.2.2.2.2.2++[(Zg.mk c s14.2.1)]):Int)-1))) c 0) (Ze (Zei (f:=Z2) (g:=Zm) (fun ka kb:Zj=>((ka.maker==kb.maker)&&((ka.user==kb.user)&&((ka.pos==kb.pos)&&true)))) (fun _ _=>rfl) s14.2.2.2.1 x21 (Z8 zE (Zx zE s14.2.2.1 c (w64 ((List.length (s14.2.2.2.2.2.2++[(Zg.mk c s14.2.1)]):Int)-1))) c 0)) (Zd (ih _))))))
  (Zd (ih _))))
  (Zc _ ZaN fun x22 _=>
  Ze (Zei (f:=Zm) (g:=Zm) zE (fun _ _=>rfl) s14.2.2.1 c (w64 ((List.length (s14.2.2.2.2.2.2++[(Zg.mk c s14.2.1)]):Int)-1))) (yB (Ze (ZbL (f:=Zm) (g:=Zm) zE (fun _ _=>rfl) (Zx zE s14.2.2.1 c (w64 ((List.length (s14.2.2.2.2.2.2++[(Zg.mk c s14.2.1)]):Int)-1))) c 0) (Ze (ZbL (f:=Zm) (g:=Zm) zE (fun _ _=>rfl) (Zx zE s14.2.2.1 c (w64 ((List.length (s14.2.2.2.2.2.2++[(Zg.mk c s14.2.1)]):Int)-1))) c 0) (Zc _ Zav fun x23 _=>
  yG fun x24 _=>
  yG fun x25 _=>
  Ze (ZbL (f:=Zm) (g:=Zm) zE (fun _ _=>rfl) (Zx zE s14.2.2.1 c (w64 ((List.length (s14.2.2.2.2.2.2++[(Zg.mk c s14.2.1)]):Int)-1))) c 0) (Ze (Zei (f:=Z2) (g:=Zm) (fun ka kb:Zj=>((ka.maker==kb.maker)&&((ka.user==kb.user)&&((ka.pos==kb.pos)&&true)))) (fun _ _=>rfl) s14.2.2.2.1 x25 (Z8 zE (Zx zE s14.2.2.1 c (w64 ((List.length (s14.2.2.2.2.2.2++[(Zg.mk c s14.2.1)]):Int)-1))) c 0)) (Zd (ih _))))))
  (Zd (ih _))))))
  (Zi rfl)
def ZgT (t0:Bool) (t1:Bool) (t2:Bool) (t3:Bool) (b:Zq) (c:Int) (mA:List Int) (mI:List Zs) (mH:List Zg) (mL:(List (Int×Int))) (mJ:(List (Int×Int))) (mK:(List (Zj×Int))) (x0:List Int) (x4:Zj):(((List (Int×Int))×(List (Zj×Int))×(List Int)×(List Zs)×(List Zg))⊕Unit)->Ex×List V×Zl
  | (.inl r)=>(.exit 0,[],[(.cells [(.sl 7 1),(.sl 8 2),(.sl 9 2),(.mp 4),(.mp 5),(.mp 6)]),.dead,.dead,.dead,(.mp (mpD Zm Zm (Zx zE mL c (mH.length:Int)))),(.mp (mpD Zm Zm r.1)),(.mp (mpD Z2 Zm r.2.1)),(zA r.2.2.1),(.arr 2 (List.map ZaV r.2.2.2.1)),(.arr 2 (List.map ZbS r.2.2.2.2))])
  | (.inr r)=>(.exit 0,[],[(.cells [(.sl 7 1),(.sl 2 2),(.sl 8 2),(.mp 4),(.mp 5),(.mp 6)]),.dead,(.arr 2 (List.map ZaV mI)),.dead,(.mp (mpD Zm Zm (Zx zE mL c (mH.length:Int)))),(.mp (mpD Zm Zm (Zx zE mJ c (w64 ((List.length (mH++[(Zg.mk c 0)]):Int)-1))))),(.mp (mpD Z2 Zm mK)),(zA (mA++[(w64 (x4.pos-0))])),(.arr 2 (List.map ZbS (mH++[(Zg.mk c 0)])))])
theorem Zjq {t0 t1:Bool}{t2 t3:Bool}{b:Zq}{c:Int}{mA:List Int}{mI:List Zs}{mH:List Zg}{mL:(List (Int×Int))}{mJ:(List (Int×Int))}{mK:(List (Zj×Int))}{x0:List Int}{x4:Zj}:∀(s6:Unit) (r:(((List (Int×Int))×(List (Zj×Int))×(List Int)×(List Zs)×(List Zg))⊕Unit)),lp (Zcr b c mA mI mH mJ mK x0 x4) s6=some r->lpW ctx 7 [0,2,4,6,7,26,27] [] Zs9 [(.ptr 0 0),(zN c),(.ptr 7 0),(zN x4.pos),(zV true x0),(zN (w64 ((x0.length:Int)+1))),(zN 1)] [(.cells [(.sl 8 1),(.sl 2 2),(.sl 9 2),(.mp 4),(.mp 5),(.mp 6)]),.dead,(.arr 2 (List.map ZaV mI)),.dead,(.mp (mpD Zm Zm (Zx zE mL c (mH.length:Int)))),(.mp (mpD Zm Zm (Zx zE mJ c (w64 ((List.length (mH++[(Zg.mk c 0)]):Int)-1))))),(.mp (mpD Z2 Zm mK)),(.cells (dV t0 t1 t2 t3 b)),(zA (mA++[(w64 (x4.pos-0))])),(.arr 2 (List.map ZbS (mH++[(Zg.mk c 0)])))]=some ((ZgT t0 t1 t2 t3 b c mA mI mH mL mJ mK x0 x4) r):=
 lpT (ZgT t0 t1 t2 t3 b c mA mI mH mL mJ mK x0 x4) fun s6 _ ih=>yB (yG fun x7 _=>
  Zh (Zy _ _) (yB (yG fun x8 _=>
  yG fun x9 _=>
  Zc _ ZaN fun x10 _=>
  Ze (Zei (f:=Zm) (g:=Zm) zE (fun _ _=>rfl) (Zx zE mJ c (w64 ((List.length (mH++[(Zg.mk c 0)]):Int)-1))) c (w64 ((List.length ((mH++[(Zg.mk c 0)])++[(Zg.mk c 1)]):Int)-1))) (yT (Ze (ZbL (f:=Zm) (g:=Zm) zE (fun _ _=>rfl) (Zx zE (Zx zE mJ c (w64 ((List.length (mH++[(Zg.mk c 0)]):Int)-1))) c (w64 ((List.length ((mH++[(Zg.mk c 0)])++[(Zg.mk c 1)]):Int)-1))) c 0) (Ze (ZbL (f:=Zm) (g:=Zm) zE (fun _ _=>rfl) (Zx zE (Zx zE mJ c (w64 ((List.length (mH++[(Zg.mk c 0)]):Int)-1))) c (w64 ((List.length ((mH++[(Zg.mk c 0)])++[(Zg.mk c 1)]):Int)-1))) c 0) (Zc _ Zav fun x11 _=>
  yG fun x12 _=>
  yG fun x13 _=>
  Ze (ZbL (f:=Zm) (g:=Zm) zE (fun _ _=>rfl) (Zx zE (Zx zE mJ c (w64 ((List.length (mH++[(Zg.mk c 0)]):Int)-1))) c (w64 ((List.length ((mH++[(Zg.mk c 0)])++[(Zg.mk c 1)]):Int)-1))) c 0) (Ze (Zei (f:=Z2) (g:=Zm) (fun ka kb:Zj=>((ka.maker==kb.maker)&&((ka.user==kb.user)&&((ka.pos==kb.pos)&&true)))) (fun _ _=>rfl) mK x13 (Z8 zE (Zx zE (Zx zE mJ c (w64 ((List.length (mH++[(Zg.mk c 0)]):Int)-1))) c (w64 ((List.length ((mH++[(Zg.mk c 0)])++[(Zg.mk c 1)]):Int)-1))) c 0)) (Zc _ (ZcV _) fun r26 _=>
  Zi rfl)))))))
  (Zc _ ZaN fun x27 _=>
  Ze (Zei (f:=Zm) (g:=Zm) zE (fun _ _=>rfl) (Zx zE mJ c (w64 ((List.length (mH++[(Zg.mk c 0)]):Int)-1))) c (w64 ((List.length ((mH++[(Zg.mk c 0)])++[(Zg.mk c 1)]):Int)-1))) (yT (Ze (ZbL (f:=Zm) (g:=Zm) zE (fun _ _=>rfl) (Zx zE (Zx zE mJ c (w64 ((List.length (mH++[(Zg.mk c 0)]):Int)-1))) c (w64 ((List.length ((mH++[(Zg.mk c 0)])++[(Zg.mk c 1)]):Int)-1))) c 0) (Ze (ZbL (f:=Zm) (g:=Zm) zE (fun _ _=>rfl) (Zx zE (Zx zE mJ c (w64 ((List.length (mH++[(Zg.mk c 0)]):Int)-1))) c (w64 ((List.length ((mH++[(Zg.mk c 0)])++[(Zg.mk c 1)]):Int)-1))) c 0) (Zc _ Zav fun x28 _=>
  yG fun x29 _=>
  yG fun x30 _=>
  Ze (ZbL (f:=Zm) (g:=Zm) zE (fun _ _=>rfl) (Zx zE (Zx zE mJ c (w64 ((List.length (mH++[(Zg.mk c 0)]):Int)-1))) c (w64 ((List.length ((mH++[(Zg.mk c 0)])++[(Zg.mk c 1)]):Int)-1))) c 0) (Ze (Zei (f:=Z2) (g:=Zm) (fun ka kb:Zj=>((ka.maker==kb.maker)&&((ka.user==kb.user)&&((ka.pos==kb.pos)&&true)))) (fun _ _=>rfl) mK x30 (Z8 zE (Zx zE (Zx zE mJ c (w64 ((List.length (mH++[(Zg.mk c 0)]):Int)-1))) c (w64 ((List.length ((mH++[(Zg.mk c 0)])++[(Zg.mk c 1)]):Int)-1))) c 0)) (Zc _ (ZcV _) fun r43 _=>
  Zi rfl)))))))))
  (Zi rfl)
def ZgZ (t0:Bool) (t1:Bool) (t2:Bool) (t3:Bool) (b:Zq) (c:Int) (mA:List Int) (mI:List Zs) (mH:List Zg) (mL:(List (Int×Int))) (mJ:(List (Int×Int))) (mK:(List (Zj×Int))) (x0:List Int) (x2:Z3):(((List (Int×Int))×(List (Zj×Int))×(List Int)×(List Zs)×(List Zg))⊕Unit)->Ex×List V×Zl
  | (.inl r)=>(.exit 0,[],[(.cells [(.sl 7 1),(.sl 8 2),(.sl 9 2),(.mp 4),(.mp 5),(.mp 6)]),.dead,.dead,.dead,(.mp (mpD Zm Zm (Zx zE mL c (mH.length:Int)))),(.mp (mpD Zm Zm r.1)),(.mp (mpD Z2 Zm r.2.1)),(zA r.2.2.1),(.arr 2 (List.map ZaV r.2.2.2.1)),(.arr 2 (List.map ZbS r.2.2.2.2))])
  | (.inr r)=>(.exit 0,[],[(.cells [(.sl 7 1),(.sl 2 2),(.sl 8 2),(.mp 4),(.mp 5),(.mp 6)]),.dead,(.arr 2 (List.map ZaV mI)),.dead,(.mp (mpD Zm Zm (Zx zE mL c (mH.length:Int)))),(.mp (mpD Zm Zm (Zx zE mJ c (w64 ((List.length (mH++[(Zg.mk c 0)]):Int)-1))))),(.mp (mpD Z2 Zm mK)),(zA (mA++[(w64 (x2.work-0))])),(.arr 2 (List.map ZbS (mH++[(Zg.mk c 0)])))])
theorem ZjB {t0 t1:Bool}{t2 t3:Bool}{b:Zq}{c:Int}{mA:List Int}{mI:List Zs}{mH:List Zg}{mL:(List (Int×Int))}{mJ:(List (Int×Int))}{mK:(List (Zj×Int))}{x0:List Int}{x2:Z3}:∀(s46:Unit) (r:(((List (Int×Int))×(List (Zj×Int))×(List Int)×(List Zs)×(List Zg))⊕Unit)),lp (Zdc b c mA mI mH mJ mK x0 x2) s46=some r->lpW ctx 7 [0,2,4,6,7,26,27] [] Zs9 [(.ptr 0 0),(zN c),(.ptr 7 0),(zN x2.work),(zV true x0),(zN (w64 ((x0.length:Int)+1))),(zN 1)] [(.cells [(.sl 8 1),(.sl 2 2),(.sl 9 2),(.mp 4),(.mp 5),(.mp 6)]),.dead,(.arr 2 (List.map ZaV mI)),.dead,(.mp (mpD Zm Zm (Zx zE mL c (mH.length:Int)))),(.mp (mpD Zm Zm (Zx zE mJ c (w64 ((List.length (mH++[(Zg.mk c 0)]):Int)-1))))),(.mp (mpD Z2 Zm mK)),(.cells (dV t0 t1 t2 t3 b)),(zA (mA++[(w64 (x2.work-0))])),(.arr 2 (List.map ZbS (mH++[(Zg.mk c 0)])))]=some ((ZgZ t0 t1 t2 t3 b c mA mI mH mL mJ mK x0 x2) r):=
 lpT (ZgZ t0 t1 t2 t3 b c mA mI mH mL mJ mK x0 x2) fun s46 _ ih=>yB (yG fun x47 _=>
  Zh (Zy _ _) (yB (yG fun x48 _=>
  yG fun x49 _=>
  Zc _ ZaN fun x50 _=>
  Ze (Zei (f:=Zm) (g:=Zm) zE (fun _ _=>rfl) (Zx zE mJ c (w64 ((List.length (mH++[(Zg.mk c 0)]):Int)-1))) c (w64 ((List.length ((mH++[(Zg.mk c 0)])++[(Zg.mk c 1)]):Int)-1))) (yT (Ze (ZbL (f:=Zm) (g:=Zm) zE (fun _ _=>rfl) (Zx zE (Zx zE mJ c (w64 ((List.length (mH++[(Zg.mk c 0)]):Int)-1))) c (w64 ((List.length ((mH++[(Zg.mk c 0)])++[(Zg.mk c 1)]):Int)-1))) c 0) (Ze (ZbL (f:=Zm) (g:=Zm) zE (fun _ _=>rfl) (Zx zE (Zx zE mJ c (w64 ((List.length (mH++[(Zg.mk c 0)]):Int)-1))) c (w64 ((List.length ((mH++[(Zg.mk c 0)])++[(Zg.mk c 1)]):Int)-1))) c 0) (Zc _ Zav fun x51 _=>
  yG fun x52 _=>
  yG fun x53 _=>
  Ze (ZbL (f:=Zm) (g:=Zm) zE (fun _ _=>rfl) (Zx zE (Zx zE mJ c (w64 ((List.length (mH++[(Zg.mk c 0)]):Int)-1))) c (w64 ((List.length ((mH++[(Zg.mk c 0)])++[(Zg.mk c 1)]):Int)-1))) c 0) (Ze (Zei (f:=Z2) (g:=Zm) (fun ka kb:Zj=>((ka.maker==kb.maker)&&((ka.user==kb.user)&&((ka.pos==kb.pos)&&true)))) (fun _ _=>rfl) mK x53 (Z8 zE (Zx zE (Zx zE mJ c (w64 ((List.length (mH++[(Zg.mk c 0)]):Int)-1))) c (w64 ((List.length ((mH++[(Zg.mk c 0)])++[(Zg.mk c 1)]):Int)-1))) c 0)) (Zc _ (ZcV _) fun r66 _=>
  Zi rfl)))))))
  (Zc _ ZaN fun x67 _=>
  Ze (Zei (f:=Zm) (g:=Zm) zE (fun _ _=>rfl) (Zx zE mJ c (w64 ((List.length (mH++[(Zg.mk c 0)]):Int)-1))) c (w64 ((List.length ((mH++[(Zg.mk c 0)])++[(Zg.mk c 1)]):Int)-1))) (yT (Ze (ZbL (f:=Zm) (g:=Zm) zE (fun _ _=>rfl) (Zx zE (Zx zE mJ c (w64 ((List.length (mH++[(Zg.mk c 0)]):Int)-1))) c (w64 ((List.length ((mH++[(Zg.mk c 0)])++[(Zg.mk c 1)]):Int)-1))) c 0) (Ze (ZbL (f:=Zm) (g:=Zm) zE (fun _ _=>rfl) (Zx zE (Zx zE mJ c (w64 ((List.length (mH++[(Zg.mk c 0)]):Int)-1))) c (w64 ((List.length ((mH++[(Zg.mk c 0)])++[(Zg.mk c 1)]):Int)-1))) c 0) (Zc _ Zav fun x68 _=>
  yG fun x69 _=>
  yG fun x70 _=>
  Ze (ZbL (f:=Zm) (g:=Zm) zE (fun _ _=>rfl) (Zx zE (Zx zE mJ c (w64 ((List.length (mH++[(Zg.mk c 0)]):Int)-1))) c (w64 ((List.length ((mH++[(Zg.mk c 0)])++[(Zg.mk c 1)]):Int)-1))) c 0) (Ze (Zei (f:=Z2) (g:=Zm) (fun ka kb:Zj=>((ka.maker==kb.maker)&&((ka.user==kb.user)&&((ka.pos==kb.pos)&&true)))) (fun _ _=>rfl) mK x70 (Z8 zE (Zx zE (Zx zE mJ c (w64 ((List.length (mH++[(Zg.mk c 0)]):Int)-1))) c (w64 ((List.length ((mH++[(Zg.mk c 0)])++[(Zg.mk c 1)]):Int)-1))) c 0)) (Zc _ (ZcV _) fun r83 _=>
  Zi rfl)))))))))
  (Zi rfl)
def ZgK (t0:Bool) (t1:Bool) (t2:Bool) (t3:Bool) (b:Zq) (c:Int) (mA:List Int) (mI:List Zs) (mH:List Zg) (mL:(List (Int×Int))) (mJ:(List (Int×Int))) (mK:(List (Zj×Int))) (x0:List Int):(((List (Int×Int))×(List (Zj×Int))×(List Int)×(List Zs)×(List Zg))⊕((List Int)⊕Unit))->Ex×List V×Zl
  | (.inl r)=>(.exit 0,[],[(.cells [(.sl 7 1),(.sl 8 2),(.sl 9 2),(.mp 4),(.mp 5),(.mp 6)]),.dead,.dead,.dead,(.mp (mpD Zm Zm (Zx zE mL c (mH.length:Int)))),(.mp (mpD Zm Zm r.1)),(.mp (mpD Z2 Zm r.2.1)),(zA r.2.2.1),(.arr 2 (List.map ZaV r.2.2.2.1)),(.arr 2 (List.map ZbS r.2.2.2.2))])
  | (.inr (.inl r))=>(.exit 0,[],[(.cells [(.sl 7 1),(.sl 2 2),(.sl 8 2),(.mp 4),(.mp 5),(.mp 6)]),.dead,(.arr 2 (List.map ZaV mI)),.dead,(.mp (mpD Zm Zm (Zx zE mL c (mH.length:Int)))),(.mp (mpD Zm Zm (Zx zE mJ c (w64 ((List.length (mH++[(Zg.mk c 0)]):Int)-1))))),(.mp (mpD Z2 Zm mK)),(zA r),(.arr 2 (List.map ZbS (mH++[(Zg.mk c 0)])))])
  | (.inr (.inr r))=>(.exit 0,[],[(.cells [(.sl 1 1),(.sl 2 2),(.sl 3 2),(.mp 4),(.mp 5),(.mp 6)]),(zA mA),(.arr 2 (List.map ZaV mI)),(.arr 2 (List.map ZbS mH)),(.mp (mpD Zm Zm (Zx zE mL c (mH.length:Int)))),(.mp (mpD Zm Zm mJ)),(.mp (mpD Z2 Zm mK))])
theorem ZjC {t0 t1:Bool}{t2 t3:Bool}{b:Zq}{c:Int}{mA:List Int}{mI:List Zs}{mH:List Zg}{mL:(List (Int×Int))}{mJ:(List (Int×Int))}{mK:(List (Zj×Int))}{x0:List Int}:∀(s1:Unit) (r:(((List (Int×Int))×(List (Zj×Int))×(List Int)×(List Zs)×(List Zg))⊕((List Int)⊕Unit))),lp (Zcu b c mA mI mH mJ mK x0) s1=some r->lpW ctx 7 [0,2,4,6,7,26,27] [] Zs9 [(.ptr 0 0),(zN c),(.ptr 7 0),(zN 0),(zV true x0),(zN (w64 ((x0.length:Int)+1))),(zN 0)] [(.cells [(.sl 1 1),(.sl 2 2),(.sl 3 2),(.mp 4),(.mp 5),(.mp 6)]),(zA mA),(.arr 2 (List.map ZaV mI)),(.arr 2 (List.map ZbS mH)),(.mp (mpD Zm Zm (Zx zE mL c (mH.length:Int)))),(.mp (mpD Zm Zm mJ)),(.mp (mpD Z2 Zm mK)),(.cells (dV t0 t1 t2 t3 b))]=some ((ZgK t0 t1 t2 t3 b c mA mI mH mL mJ mK x0) r):=
 lpT (ZgK t0 t1 t2 t3 b c mA mI mH mL mJ mK x0) fun s1 _ ih=>yB (yG fun x2 _=>
  Zh (Zy _ _) (yB (yG fun x3 _=>
  yG fun x4 _=>
  Zc _ ZaN fun x5 _=>
  Ze (Zei (f:=Zm) (g:=Zm) zE (fun _ _=>rfl) mJ c (w64 ((List.length (mH++[(Zg.mk c 0)]):Int)-1))) (yF (by
 conv=>rhs;whnf
 refine Zc _ (Zjq _) fun r44 _=>?_
 rcases r44 with r44 | r44
 exact Zi rfl
 exact Zi rfl)))
  (Zc _ ZaN fun x45 _=>
  Ze (Zei (f:=Zm) (g:=Zm) zE (fun _ _=>rfl) mJ c (w64 ((List.length (mH++[(Zg.mk c 0)]):Int)-1))) (yF (by
 conv=>rhs;whnf
 refine Zc _ (ZjB _) fun r84 _=>?_
 rcases r84 with r84 | r84
 exact Zi rfl
 exact Zi rfl)))))
  (Zi rfl)
theorem Zmt {t0 t1:Bool}{t2 t3:Bool}{b:Zq}{c:Int}{mA:List Int}{mI:List Zs}{mH:List Zg}{mL:(List (Int×Int))}{mJ:(List (Int×Int))}{mK:(List (Zj×Int))}:∀r,(ZfH b c mA mI mH mJ mK)=some r->evW ctx 85 [(.ptr 0 0),(.d (D.agg (dA t0 t1 t2 t3 b))),(zN c)] [(.cells [(.sl 1 1),(.sl 2 2),(.sl 3 2),(.mp 4),(.mp 5),(.mp 6)]),(zA mA),(.arr 2 (List.map ZaV mI)),(.arr 2 (List.map ZbS mH)),(.mp (mpD Zm Zm mL)),(.mp (mpD Zm Zm mJ)),(.mp (mpD Z2 Zm mK))]=some ((ZmQ t0 t1 t2 t3 b c mA mI mH mL mJ mK) r):=
 evS ZG0 rfl rfl <| Zh (Zy _ _) (Ze (Zei (f:=Zm) (g:=Zm) zE (fun _ _=>rfl) mL c (mH.length:Int)) (yC ZpV fun x0 _=>
  Zh (Zy _ _) (by
 conv=>rhs;whnf
 refine Zc _ (ZjC _) fun r85 _=>?_
 rcases r85 with r85 | (r85 | r85)
 exact yR
 exact yR
 exact yR)))
def ZrR (r:Bool):D:=(D.bool r)
theorem ZqB {a:Int}:∀r,(ZdT a)=some r->evD ctx 116 [(zN a)]=some (ZrR r):=
 evT ZEJ rfl rfl <| yBr (yBr yR)
def Zf6 (r:Int):D:=(Zm r)
def Zcv (t0:Bool) (a:List Int):(Int⊕Unit)->Ex×List V×Zl
  | (.inl r)=>(.ret,[(zN r)],[])
  | (.inr r)=>(.exit 0,[.bad],[])
theorem Zfc {t0:Bool}{a:List Int}:∀(s0:Int) (r:(Int⊕Unit)),lp (ZX a (fun z0=>ZdT z0)) s0=some r->lpW ctx 0 [0,1,7,8] [4] Zr7 [(zV t0 a),(.d (D.fn 116 [])),(zN (a.length:Int)),(zN s0)] []=some ((Zcv t0 a) r):=
 lpT (Zcv t0 a) fun s0 _ ih=>yB (yG fun x1 _=>
  yC ZqB fun x2 _=>
  yB (Zi rfl)
  (Zd (ih _)))
  (Zi rfl)
theorem ZfW {t0:Bool}{a:List Int}:∀r,(ZaF a (fun z0=>ZdT z0))=some r->evD ctx 142 [(zV t0 a),(.d (D.fn 116 []))]=some (Zf6 r):=
 evT ZxY rfl rfl <| Zh (Zy _ _) (by
 conv=>rhs;whnf
 refine Zc _ (Zfc _) fun r3 _=>?_
 rcases r3 with r3 | r3
 exact yR
 exact yR)
def Zfy (r:Bool):D:=(D.bool r)
theorem Zfe {t0:Bool}{a:List Int}:∀r,(ZaK a (fun z0=>ZdT z0))=some r->evD ctx 114 [(zV t0 a),(.d (D.fn 116 []))]=some (Zfy r):=
 evT ZAd rfl rfl <| yC ZfW fun x0 _=>
  yBr yR
def ZrX (r:Bool):D:=(D.bool r)
theorem ZlA {t0 t1:Bool}{a:Int}{b0:List Int}{b1:List Zs}:∀r,(Zhn a b0)=some r->evD ctx 117 [(zN a),(.d (D.rptr [(zL t0 b0),(zM t1 ZaV b1)]))]=some (ZrX r):=
 evT ZBS rfl rfl <| yB (Zh (Zy _ _) (yBr yR))
  yR
def Zuj (r:((List Int)×Bool)):D:=(D.tup [(zL true r.1),(D.bool r.2)])
def ZlZ (t0:Bool) (t1:Bool) (a:Zbh) (s0:(List Int)×(List Bool)) (s1:Int):(Unit⊕Unit)->Ex×List V×Zl
  | (.inl r)=>(.exit 3,[(.ptr 0 0),(.sl 1 1),(.sl 2 1),(zN s1),(zN (a.work.length:Int)),(zN s1)],[(zK2 t0 a.work t1 a.edges),(zA s0.1),(.arr 1 (List.map D.bool s0.2))])
  | (.inr r)=>(.exit 4,[(.ptr 0 0),(.sl 1 1),(.sl 2 1),(zN s1),(zN (a.work.length:Int)),(zN s1)],[(zK2 t0 a.work t1 a.edges),(zA s0.1),(.arr 1 (List.map D.bool s0.2))])
theorem ZpH {t0 t1:Bool}{a:Zbh}{s0:(List Int)×(List Bool)}{s1:Int}:∀(s3:Int) (r:(Unit⊕Unit)),lp (Zg3 a s0 s1) s3=some r->lpW ctx 0 [1,4,5,6,21,22,30,31,32] [1,4,5,6,21,22] ZAF [(.ptr 0 0),(.sl 1 1),(.sl 2 1),(zN s1),(zN (a.work.length:Int)),(zN s1),(zW t1 ZaV a.edges),(zN (a.edges.length:Int)),(zN s3)] [(zK2 t0 a.work t1 a.edges),(zA s0.1),(.arr 1 (List.map D.bool s0.2))]=some ((ZlZ t0 t1 a s0 s1) r):=
 lpT (ZlZ t0 t1 a s0 s1) fun s3 _ ih=>yB (yG fun x4 _=>
  yB (yG fun x5 hx5=>
  Ze (Zk rfl hx5) (yB (Zd (ih _))
  (Zi rfl)))
  (Zd (ih _)))
  (Zi rfl)
def ZlP (t0:Bool) (t1:Bool) (a:Zbh) (s0:(List Int)×(List Bool)):(((List Int)×(List Bool))⊕Unit)->Ex×List V×Zl
  | (.inl r)=>(.exit 1,[(.ptr 0 0),(.sl 1 1),(.sl 2 1)],[(zK2 t0 a.work t1 a.edges),(zA r.1),(.arr 1 (List.map D.bool r.2))])
  | (.inr r)=>(.exit 2,[(.ptr 0 0),(.sl 1 1),(.sl 2 1)],[(zK2 t0 a.work t1 a.edges),(zA s0.1),(.arr 1 (List.map D.bool s0.2))])
theorem ZpT {t0 t1:Bool}{a:Zbh}{s0:(List Int)×(List Bool)}:∀(s1:Int) (r:(((List Int)×(List Bool))⊕Unit)),lp (ZfI a s0) s1=some r->lpW ctx 0 [1,4,5,21,22] [1,4,5] Zz5 [(.ptr 0 0),(.sl 1 1),(.sl 2 1),(zN (a.work.length:Int)),(zN s1)] [(zK2 t0 a.work t1 a.edges),(zA s0.1),(.arr 1 (List.map D.bool s0.2))]=some ((ZlP t0 t1 a s0) r):=
 lpT (ZlP t0 t1 a s0) fun s1 _ ih=>yB (yG fun x2 hx2=>
  Ze (Zk rfl hx2) (yB (Zd (ih _))
  (Zh (Zy _ _) (by
 conv=>rhs;whnf
 refine Zc _ (ZpH _) fun r6 _=>?_
 rcases r6 with r6 | r6
 exact Zd (ih _)
 exact Ze (Z4 rfl hx2) (Ze (Zk rfl hx2) (Zh (ZI D.bool s0.2 s1.toNat true) (yT (ZcA (Zfi Zm s0.1 1) (Zh (Zfg Zm s0.1 [s1]) (Zi rfl))
  ZaW))))))))
  (Zi rfl)
def Zlw (t0:Bool) (t1:Bool) (a:Zbh):((List Int)⊕(List Int))->Ex×List V×Zl
  | (.inl r)=>(.ret,[(.nilsl 1),(.d (D.bool false)),(.sl 0 1)],[(zA r)])
  | (.inr r)=>(.exit 0,[.bad,.bad,(.sl 0 1)],[(zA r)])
theorem Zp7 {t0 t1:Bool}{a:Zbh}:∀(s0:(List Int)×(List Bool)) (r:((List Int)⊕(List Int))),lp (Zg5 a) s0=some r->lpW ctx 0 [1,4,5] [2,3,4] ZzL [(.ptr 0 0),(.sl 1 1),(.sl 2 1)] [(zK2 t0 a.work t1 a.edges),(zA s0.1),(.arr 1 (List.map D.bool s0.2))]=some ((Zlw t0 t1 a) r):=
 lpT (Zlw t0 t1 a) fun s0 _ ih=>Zh (Zy _ _) (Zh (Zy _ _) (yB (Zh (Zy _ _) (by
 conv=>rhs;whnf
 refine Zc _ (ZpT _) fun r7 _=>?_
 rcases r7 with r7 | r7
 exact Zd (ih _)
 exact Zi rfl))
  (Zi rfl)))
theorem Znc {t0 t1:Bool}{a:Zbh}:∀r,(ZgI a)=some r->evD ctx 118 [(.d (zK4 t0 a.work t1 a.edges))]=some (Zuj r):=
 evT ZDS rfl rfl <| Zh (Zy _ _) (yBm (Zh (Zsd D.bool (false:Bool) (a.work.length:Int)) (by
 conv=>rhs;whnf
 refine Zc _ (Zp7 _) fun r8 _=>?_
 rcases r8 with r8 | r8
 exact yR
 exact yR)))
def Zuo (r:Int):D:=(Zm r)
def ZlD (t0:Bool) (t1:Bool) (a:Zbh):(Unit⊕Unit)->Ex×List V×Zl
  | (.inl r)=>(.ret,[(.ptr 0 0),(zN 42)],[(zK2 t0 a.work t1 a.edges)])
  | (.inr r)=>(.exit 0,[(.ptr 0 0),.bad],[(zK2 t0 a.work t1 a.edges)])
theorem Zp8 {t0 t1:Bool}{a:Zbh}:∀(s1:Int) (r:(Unit⊕Unit)),lp (ZfX a) s1=some r->lpW ctx 0 [1,3,23,24,25] [1,2] ZCb [(.ptr 0 0),(.fn 117 [(.ptr 0 0)]),(zW t1 ZaV a.edges),(zN (a.edges.length:Int)),(zN s1)] [(zK2 t0 a.work t1 a.edges)]=some ((ZlD t0 t1 a) r):=
 lpT (ZlD t0 t1 a) fun s1 _ ih=>yB (yG fun x2 _=>
  yC ZlA fun x3 _=>
  yB (yC ZlA fun x4 _=>
  yB (yB (Zi rfl)
  (yBm (ZcA (ZDg ZaV a.edges s1.toNat) (yT (Zh (ZwR ZaV a.edges s1.toNat) (yC Zff fun x5 _=>
  yB (Zi rfl)
  (Zd (ih _)))))
  ZaW)))
  (Zi rfl))
  (Zi rfl))
  (Zi rfl)
theorem Zkh {t0 t1:Bool}{a:Zbh}:∀r,(ZhQ a)=some r->evD ctx 88 [(.d (zK4 t0 a.work t1 a.edges))]=some (Zuo r):=
 evT ZHQ rfl rfl <| Zh (Zy _ _) (yBr (Zh (Zy _ _) (yBr (yC Zfe fun x0 _=>
  yBr (Zh (Zy _ _) (by
 conv=>rhs;whnf
 refine Zc _ (Zp8 _) fun r6 _=>?_
 rcases r6 with r6 | r6
 exact yR
 exact yC Znc fun x7 _=>
  yBr yR))))))
def ZrD (r:(ZyO×Int)):D:=(D.tup [(D.agg [(zL true r.1.dag.work),(zM true ZaV r.1.dag.edges),(zM true ZbS r.1.pieces)]),(Zm r.2)])
def Zj2 (t0:Bool) (t1:Bool) (t2:Bool) (t3:Bool) (a:Zq):((List Int)×(List Zs)×(List Zg)×(List (Int×Int))×(List (Int×Int))×(List (Zj×Int)))->Ex×List V×Zl
  | r=>(.exit 0,[(.ptr 0 0),(.ptr 1 0),(.ptr 2 0)],[(.cells (dV t0 t1 t2 t3 a)),(zK3 ),(.cells [(.sl 6 1),(.sl 7 2),(.sl 8 2),(.mp 9),(.mp 10),(.mp 11)]),(.arr 1 []),(.arr 2 []),(.arr 2 []),(zA r.1),(.arr 2 (List.map ZaV r.2.1)),(.arr 2 (List.map ZbS r.2.2.1)),(.mp (mpD Zm Zm r.2.2.2.1)),(.mp (mpD Zm Zm r.2.2.2.2.1)),(.mp (mpD Z2 Zm r.2.2.2.2.2))])
theorem Zn0 {t0 t1:Bool}{t2 t3:Bool}{a:Zq}:∀(s1:Int×(List Int)×(List Zs)×(List Zg)×(List (Int×Int))×(List (Int×Int))×(List (Zj×Int))) (r:((List Int)×(List Zs)×(List Zg)×(List (Int×Int))×(List (Int×Int))×(List (Zj×Int)))),lp (Zc5 a) s1=some r->lpW ctx 0 [1,2,5,31,32] [1,2,5] ZBX [(.ptr 0 0),(.ptr 1 0),(.ptr 2 0),(zN (a.parts.length:Int)),(zN s1.1)] [(.cells (dV t0 t1 t2 t3 a)),(zK3 ),(.cells [(.sl 6 1),(.sl 7 2),(.sl 8 2),(.mp 9),(.mp 10),(.mp 11)]),(.arr 1 []),(.arr 2 []),(.arr 2 []),(zA s1.2.1),(.arr 2 (List.map ZaV s1.2.2.1)),(.arr 2 (List.map ZbS s1.2.2.2.1)),(.mp (mpD Zm Zm s1.2.2.2.2.1)),(.mp (mpD Zm Zm s1.2.2.2.2.2.1)),(.mp (mpD Z2 Zm s1.2.2.2.2.2.2))]=some ((Zj2 t0 t1 t2 t3 a) r):=
 lpT (Zj2 t0 t1 t2 t3 a) fun s1 _ ih=>yB ((by
 conv=>rhs;whnf
 refine Zc _ Zmt fun x2 _=>?_
 rcases x2 with x2 | (x2 | x2)
 exact Zd (ih _)
 exact Zd (ih _)
 exact Zd (ih _)))
  (Zi rfl)
def Zj1 (t0:Bool) (t1:Bool) (t2:Bool) (t3:Bool) (a:Zq) (r3:((List Int)×(List Zs)×(List Zg)×(List (Int×Int))×(List (Int×Int))×(List (Zj×Int)))):(List Zs)->Ex×List V×Zl
  | r=>(.exit 2,[(.ptr 0 0),(.ptr 1 0),(.ptr 2 0)],[(.cells (dV t0 t1 t2 t3 a)),(zK3 ),(.cells [(.sl 6 1),(.sl 7 2),(.sl 8 2),(.mp 9),(.mp 10),(.mp 11)]),(.arr 1 []),(.arr 2 []),(.arr 2 []),(zA r3.1),(.arr 2 (List.map ZaV r)),(.arr 2 (List.map ZbS r3.2.2.1)),(.mp (mpD Zm Zm r3.2.2.2.1)),(.mp (mpD Zm Zm r3.2.2.2.2.1)),(.mp (mpD Z2 Zm r3.2.2.2.2.2))])
theorem ZnZ {t0 t1:Bool}{t2 t3:Bool}{a:Zq}{r3:((List Int)×(List Zs)×(List Zg)×(List (Int×Int))×(List (Int×Int))×(List (Zj×Int)))}:∀(s4:Int×(List Zs)) (r:List Zs),lp (ZdY a r3) s4=some r->lpW ctx 0 [1,2,5,41,42,43] [1,2,5] ZC6 [(.ptr 0 0),(.ptr 1 0),(.ptr 2 0),(zW t1 ZaV a.edges),(zN (a.edges.length:Int)),(zN s4.1)] [(.cells (dV t0 t1 t2 t3 a)),(zK3 ),(.cells [(.sl 6 1),(.sl 7 2),(.sl 8 2),(.mp 9),(.mp 10),(.mp 11)]),(.arr 1 []),(.arr 2 []),(.arr 2 []),(zA r3.1),(.arr 2 (List.map ZaV s4.2)),(.arr 2 (List.map ZbS r3.2.2.1)),(.mp (mpD Zm Zm r3.2.2.2.1)),(.mp (mpD Zm Zm r3.2.2.2.2.1)),(.mp (mpD Z2 Zm r3.2.2.2.2.2))]=some ((Zj1 t0 t1 t2 t3 a r3) r):=
 lpT (Zj1 t0 t1 t2 t3 a r3) fun s4 _ ih=>yB (yG fun x5 _=>
  Ze (ZbL (f:=Zm) (g:=Zm) zE (fun _ _=>rfl) r3.2.2.2.2.1 x5.src 0) (Ze (ZbL (f:=Zm) (g:=Zm) zE (fun _ _=>rfl) r3.2.2.2.1 x5.dst 0) (Zc _ Zav fun x6 _=>
  Zd (ih _))))
  (Zi rfl)
def Zkm (t0:Bool) (t1:Bool) (t2:Bool) (t3:Bool) (a:Zq) (r3:((List Int)×(List Zs)×(List Zg)×(List (Int×Int))×(List (Int×Int))×(List (Zj×Int)))):(List Zs)->Ex×List V×Zl
  | r=>(.exit 4,[(.ptr 0 0),(.ptr 1 0),(.ptr 2 0)],[(.cells (dV t0 t1 t2 t3 a)),(zK3 ),(.cells [(.sl 6 1),(.sl 7 2),(.sl 8 2),(.mp 9),(.mp 10),(.mp 11)]),(.arr 1 []),(.arr 2 []),(.arr 2 []),(zA r3.1),(.arr 2 (List.map ZaV r)),(.arr 2 (List.map ZbS r3.2.2.1)),(.mp (mpD Zm Zm r3.2.2.2.1)),(.mp (mpD Zm Zm r3.2.2.2.2.1)),(.mp (mpD Z2 Zm r3.2.2.2.2.2))])
theorem ZnX {t0 t1:Bool}{t2 t3:Bool}{a:Zq}{r3:((List Int)×(List Zs)×(List Zg)×(List (Int×Int))×(List (Int×Int))×(List (Zj×Int)))}:∀(s8:Int×(List Zs)) (r:List Zs),lp (Zd7 a r3) s8=some r->lpW ctx 0 [1,2,5,65,66,67] [1,2,5] ZEf [(.ptr 0 0),(.ptr 1 0),(.ptr 2 0),(zW t2 Z2 a.futures),(zN (a.futures.length:Int)),(zN s8.1)] [(.cells (dV t0 t1 t2 t3 a)),(zK3 ),(.cells [(.sl 6 1),(.sl 7 2),(.sl 8 2),(.mp 9),(.mp 10),(.mp 11)]),(.arr 1 []),(.arr 2 []),(.arr 2 []),(zA r3.1),(.arr 2 (List.map ZaV s8.2)),(.arr 2 (List.map ZbS r3.2.2.1)),(.mp (mpD Zm Zm r3.2.2.2.1)),(.mp (mpD Zm Zm r3.2.2.2.2.1)),(.mp (mpD Z2 Zm r3.2.2.2.2.2))]=some ((Zkm t0 t1 t2 t3 a r3) r):=
 lpT (Zkm t0 t1 t2 t3 a r3) fun s8 _ ih=>yB (yG fun x9 _=>
  Ze (ZbL (f:=Zm) (g:=Zm) zE (fun _ _=>rfl) r3.2.2.2.2.1 x9.maker 0) (Ze (ZbL (f:=Z2) (g:=Zm) (fun ka kb:Zj=>((ka.maker==kb.maker)&&((ka.user==kb.user)&&((ka.pos==kb.pos)&&true)))) (fun _ _=>rfl) r3.2.2.2.2.2 x9 0) (Zc _ Zav fun x10 _=>
  Zd (ih _))))
  (Zi rfl)
def Zkn (t3:Bool) (a:Zq) (r3:((List Int)×(List Zs)×(List Zg)×(List (Int×Int))×(List (Int×Int))×(List (Zj×Int)))) (s12:Int×(List Int)×(List Zs)×(List Zg)) (x13:Zu):(List Zs)->Ex×List V×Zl
  | r=>(.exit 8,[(.ptr 0 0),(.ptr 1 0),(.ptr 2 0),(zN (w64 ((List.length (s12.2.2.2++[(Zg.mk (-1) s12.1)]):Int)-1))),(zW t3 Zde a.barriers),(zN (a.barriers.length:Int)),(zN s12.1)],[(zK3 ),(.cells [(.sl 6 1),(.sl 7 2),(.sl 8 2),(.mp 9),(.mp 10),(.mp 11)]),(.cells [(zV true x13.ins),(zV true x13.outs)]),(.arr 1 []),(.arr 2 []),(.arr 2 []),(zA (s12.2.1++[1])),(.arr 2 (List.map ZaV r)),(.arr 2 (List.map ZbS (s12.2.2.2++[(Zg.mk (-1) s12.1)]))),(.mp (mpD Zm Zm r3.2.2.2.1)),(.mp (mpD Zm Zm r3.2.2.2.2.1)),(.mp (mpD Z2 Zm r3.2.2.2.2.2))])
theorem ZnY {t3:Bool}{a:Zq}{r3:((List Int)×(List Zs)×(List Zg)×(List (Int×Int))×(List (Int×Int))×(List (Zj×Int)))}{s12:Int×(List Int)×(List Zs)×(List Zg)}{x13:Zu}:∀(s15:Int×(List Zs)) (r:List Zs),lp (ZfM r3 s12 x13) s15=some r->lpW ctx 0 [2,5,12,13,88,89,90,100,101,102] [2,5,12,13,88,89,90] ZDM [(.ptr 0 0),(.ptr 1 0),(.ptr 2 0),(zN (w64 ((List.length (s12.2.2.2++[(Zg.mk (-1) s12.1)]):Int)-1))),(zW t3 Zde a.barriers),(zN (a.barriers.length:Int)),(zN s12.1),(zV true x13.ins),(zN (x13.ins.length:Int)),(zN s15.1)] [(zK3 ),(.cells [(.sl 6 1),(.sl 7 2),(.sl 8 2),(.mp 9),(.mp 10),(.mp 11)]),(.cells [(zV true x13.ins),(zV true x13.outs)]),(.arr 1 []),(.arr 2 []),(.arr 2 []),(zA (s12.2.1++[1])),(.arr 2 (List.map ZaV s15.2)),(.arr 2 (List.map ZbS (s12.2.2.2++[(Zg.mk (-1) s12.1)]))),(.mp (mpD Zm Zm r3.2.2.2.1)),(.mp (mpD Zm Zm r3.2.2.2.2.1)),(.mp (mpD Z2 Zm r3.2.2.2.2.2))]=some ((Zkn t3 a r3 s12 x13) r):=
 lpT (Zkn t3 a r3 s12 x13) fun s15 _ ih=>yB (yG fun x16 _=>
  Ze (ZbL (f:=Zm) (g:=Zm) zE (fun _ _=>rfl) r3.2.2.2.2.1 x16 0) (Zc _ Zav fun x17 _=>
  Zd (ih _)))
  (Zi rfl)
def Zkd (t3:Bool) (a:Zq) (r3:((List Int)×(List Zs)×(List Zg)×(List (Int×Int))×(List (Int×Int))×(List (Zj×Int)))) (s12:Int×(List Int)×(List Zs)×(List Zg)) (x13:Zu):(List Zs)->Ex×List V×Zl
  | r=>(.exit 10,[(.ptr 0 0),(.ptr 1 0),(zW t3 Zde a.barriers),(zN (a.barriers.length:Int)),(zN s12.1)],[(.cells [(.sl 2 1),(.sl 3 2),(.sl 4 2)]),(.cells [(.sl 5 1),(.sl 6 2),(.sl 7 2),(.mp 8),(.mp 9),(.mp 10)]),(.arr 1 []),(.arr 2 []),(.arr 2 []),(zA (s12.2.1++[1])),(.arr 2 (List.map ZaV r)),(.arr 2 (List.map ZbS (s12.2.2.2++[(Zg.mk (-1) s12.1)]))),(.mp (mpD Zm Zm r3.2.2.2.1)),(.mp (mpD Zm Zm r3.2.2.2.2.1)),(.mp (mpD Z2 Zm r3.2.2.2.2.2))])
theorem Zn1 {t3:Bool}{a:Zq}{r3:((List Int)×(List Zs)×(List Zg)×(List (Int×Int))×(List (Int×Int))×(List (Zj×Int)))}{s12:Int×(List Int)×(List Zs)×(List Zg)}{x13:Zu}:∀(s19:Int×(List Zs)) (r:List Zs),lp (ZfN r3 s12 x13) s19=some r->lpW ctx 0 [2,5,13,88,89,90,117,118,119] [2,5,88,89,90] ZEa [(.ptr 0 0),(.ptr 1 0),(zN (w64 ((List.length (s12.2.2.2++[(Zg.mk (-1) s12.1)]):Int)-1))),(zW t3 Zde a.barriers),(zN (a.barriers.length:Int)),(zN s12.1),(zV true x13.outs),(zN (x13.outs.length:Int)),(zN s19.1)] [(.cells [(.sl 2 1),(.sl 3 2),(.sl 4 2)]),(.cells [(.sl 5 1),(.sl 6 2),(.sl 7 2),(.mp 8),(.mp 9),(.mp 10)]),(.arr 1 []),(.arr 2 []),(.arr 2 []),(zA (s12.2.1++[1])),(.arr 2 (List.map ZaV s19.2)),(.arr 2 (List.map ZbS (s12.2.2.2++[(Zg.mk (-1) s12.1)]))),(.mp (mpD Zm Zm r3.2.2.2.1)),(.mp (mpD Zm Zm r3.2.2.2.2.1)),(.mp (mpD Z2 Zm r3.2.2.2.2.2))]=some ((Zkd t3 a r3 s12 x13) r):=
 lpT (Zkd t3 a r3 s12 x13) fun s19 _ ih=>yB (yG fun x20 _=>
  Ze (ZbL (f:=Zm) (g:=Zm) zE (fun _ _=>rfl) r3.2.2.2.1 x20 0) (Zc _ Zav fun x21 _=>
  Zd (ih _)))
  (Zi rfl)
def Zj6 (t3:Bool) (a:Zq) (r3:((List Int)×(List Zs)×(List Zg)×(List (Int×Int))×(List (Int×Int))×(List (Zj×Int)))):((List Int)×(List Zs)×(List Zg))->Ex×List V×Zl
  | r=>(.exit 6,[(.ptr 0 0),(.ptr 1 0)],[(.cells [(.sl 2 1),(.sl 3 2),(.sl 4 2)]),(.cells [(.sl 5 1),(.sl 6 2),(.sl 7 2),(.mp 8),(.mp 9),(.mp 10)]),(.arr 1 []),(.arr 2 []),(.arr 2 []),(zA r.1),(.arr 2 (List.map ZaV r.2.1)),(.arr 2 (List.map ZbS r.2.2)),(.mp (mpD Zm Zm r3.2.2.2.1)),(.mp (mpD Zm Zm r3.2.2.2.2.1)),(.mp (mpD Z2 Zm r3.2.2.2.2.2))])
theorem Zn5 {t3:Bool}{a:Zq}{r3:((List Int)×(List Zs)×(List Zg)×(List (Int×Int))×(List (Int×Int))×(List (Zj×Int)))}:∀(s12:Int×(List Int)×(List Zs)×(List Zg)) (r:((List Int)×(List Zs)×(List Zg))),lp (Zd4 a r3) s12=some r->lpW ctx 0 [2,5,88,89,90] [2,5] ZEm [(.ptr 0 0),(.ptr 1 0),(zW t3 Zde a.barriers),(zN (a.barriers.length:Int)),(zN s12.1)] [(.cells [(.sl 2 1),(.sl 3 2),(.sl 4 2)]),(.cells [(.sl 5 1),(.sl 6 2),(.sl 7 2),(.mp 8),(.mp 9),(.mp 10)]),(.arr 1 []),(.arr 2 []),(.arr 2 []),(zA s12.2.1),(.arr 2 (List.map ZaV s12.2.2.1)),(.arr 2 (List.map ZbS s12.2.2.2)),(.mp (mpD Zm Zm r3.2.2.2.1)),(.mp (mpD Zm Zm r3.2.2.2.2.1)),(.mp (mpD Z2 Zm r3.2.2.2.2.2))]=some ((Zj6 t3 a r3) r):=
 lpT (Zj6 t3 a r3) fun s12 _ ih=>yB (yG fun x13 _=>
  Zc _ ZaN fun x14 _=>
  Zh (Zy _ _) (Zc _ (ZnY _) fun r18 _=>
  Zh (Zy _ _) (Zc _ (Zn1 _) fun r22 _=>
  Zd (ih _))))
  (Zi rfl)
theorem ZqE {t0 t1:Bool}{t2 t3:Bool}{a:Zq}:∀r,(ZiK a)=some r->evD ctx 55 [(.d (D.agg (dA t0 t1 t2 t3 a)))]=some (ZrD r):=
 evT ZHj rfl rfl <| yC ZmD fun x0 _=>
  yBr (Zh (Zy _ _) (Zc _ (Zn0 _) fun r3 _=>
  Zh (Zy _ _) (Zc _ (ZnZ _) fun r7 _=>
  Zh (Zy _ _) (Zc _ (ZnX _) fun r11 _=>
  Zh (Zy _ _) (Zc _ (Zn5 _) fun r23 _=>
  yC Zkh fun x24 _=>
  yBr yR)))))
def Zui (r:Int):D:=(Zm r)
def ZlH (t0:Bool) (a:Zbh):Int->Ex×List V×Zl
  | r=>(.exit 0,[(zN r)],[])
theorem Zpu {t0:Bool}{a:Zbh}:∀(s1:Int×Int) (r:Int),lp (ZgJ a) s1=some r->lpW ctx 0 [3,10,11,12] [3] ZCS [(zN s1.1),(zV t0 a.work),(zN (a.work.length:Int)),(zN s1.2)] []=some ((ZlH t0 a) r):=
 lpT (ZlH t0 a) fun s1 _ ih=>yB (yG fun x2 _=>
  Zd (ih _))
  (Zi rfl)
theorem ZtQ {t0 t1:Bool}{a:Zbh}:∀r,(ZkF a)=some r->evD ctx 56 [(.d (zK4 t0 a.work t1 a.edges))]=some (Zui r):=
 evT ZHI rfl rfl <| yC Zkh fun x0 _=>
  yB (Zh (Zy _ _) (Zc _ (Zpu _) fun r3 _=>
  yR))
  yR
def Zup (r:List Int):D:=(zL true r)
theorem Zsl {t0 t1:Bool}{a:Zbh}:∀r,(ZkJ a)=some r->evD ctx 89 [(.d (zK4 t0 a.work t1 a.edges))]=some (Zup r):=
 evT ZHC rfl rfl <| yC Zkh fun x0 _=>
  yBr (yC Znc fun x1 _=>
  yBr yR)
def ZrQ (r:(Int×Bool)):D:=(D.tup [(Zm r.1),(D.bool r.2)])
theorem Zqu {a:Zs}{b0:Int}:∀r,(Zgq a b0)=some r->evD ctx 120 [(.d (zK5 a.src a.dst)),(.d (D.rptr [(Zm b0)]))]=some (ZrQ r):=
 evT ZDC rfl rfl <| yBr yR
def Zky (mG:List Int):(List Int)->V×Zl
  | r=>((.d (D.tup [])),[(zA r)])
theorem ZjU {mG:List Int}:∀r,(Zdp mG)=some r->evW ctx 144 [(.sl 0 1)] [(zA mG)]=some ((Zky mG) r):=
 evS ZGs rfl rfl <| Ze (Zyq rfl) (yBm (ZEq yR))
def Zln (r:List Int):D:=(zL true r)
def ZgA (t1:Bool) (a:Zbh) (b0:Int):(List Int)->Ex×List V×Zl
  | r=>(.exit 0,[(.sl 0 1)],[(zA r)])
theorem Zi8 {t1:Bool}{a:Zbh}{b0:Int}:∀(s0:Int×(List Int)) (r:List Int),lp (Zh7 a (fun z0=>Zgq z0 b0)) s0=some r->lpW ctx 0 [1,5,11,12,13] [5] Zz2 [(.d (D.fn 120 [(D.rptr [(Zm b0)])])),(.sl 0 1),(zW t1 ZaV a.edges),(zN (a.edges.length:Int)),(zN s0.1)] [(zA s0.2)]=some ((ZgA t1 a b0) r):=
 lpT (ZgA t1 a b0) fun s0 _ ih=>yB (yG fun x1 _=>
  yC Zqu fun x2 _=>
  yB (yT (ZcA (Zfi Zm s0.2 1) (Zh (Zfg Zm s0.2 [x2.1]) (Zd (ih _)))
  ZaW))
  (Zd (ih _)))
  (Zi rfl)
theorem Zkr {t0 t1:Bool}{a:Zbh}{b0:Int}:∀r,(Zqk a (fun z0=>Zgq z0 b0))=some r->evD ctx 119 [(.d (zK4 t0 a.work t1 a.edges)),(.d (D.fn 120 [(D.rptr [(Zm b0)])]))]=some (Zln r):=
 evT ZDN rfl rfl <| Zh (Zy _ _) (Zc _ (Zi8 _) fun r3 _=>
  Zc _ ZjU fun x4 _=>
  yR)
def Zum (r:List Int):D:=(zL true r)
theorem Zsq {t0 t1:Bool}{a:Zbh}{b:Int}:∀r,(ZkM a b)=some r->evD ctx 90 [(.d (zK4 t0 a.work t1 a.edges)),(zN b)]=some (Zum r):=
 evT ZH3 rfl rfl <| yC Zkr fun x0 _=>
  yR
def ZwG (r:Int):D:=(Zm r)
def ZmE (t0:Bool) (t1:Bool) (a:Zbh) (x0:List Int) (s1:Int×Int×(List Int)) (x2:Int) (x3:List Int):(List Int)->Ex×List V×Zl
  | r=>(.exit 2,[(.ptr 0 0),(.sl 1 1),(zN s1.1),(zN x2),(zV true x0),(zN (x0.length:Int)),(zN s1.2.1)],[(zK2 t0 a.work t1 a.edges),(zA r)])
theorem ZqT {t0 t1:Bool}{a:Zbh}{x0:List Int}{s1:Int×Int×(List Int)}{x2:Int}{x3:List Int}:∀(s4:Int×(List Int)) (r:List Int),lp (Zgt x2 x3) s4=some r->lpW ctx 0 [1,3,4,6,14,15,16,22,23,24] [1,3,4,6,14,15,16] ZC4 [(.ptr 0 0),(.sl 1 1),(zN s1.1),(zN x2),(zV true x0),(zN (x0.length:Int)),(zN s1.2.1),(zV true x3),(zN (x3.length:Int)),(zN s4.1)] [(zK2 t0 a.work t1 a.edges),(zA s4.2)]=some ((ZmE t0 t1 a x0 s1 x2 x3) r):=
 lpT (ZmE t0 t1 a x0 s1 x2 x3) fun s4 _ ih=>yB (yG fun x5 _=>
  yG fun x6 hx6=>
  Ze (Zk rfl hx6) (yG fun x7 hx7=>
  Ze (Zk rfl hx7) (Ze (Z4 rfl hx6) (Ze (Zk rfl hx6) (Zh (ZI Zm s4.2 x2.toNat (bif decide (x6<x7) then x7 else x6)) (Zd (ih _)))))))
  (Zi rfl)
def ZmF (t0:Bool) (t1:Bool) (a:Zbh) (x0:List Int):Int->Ex×List V×Zl
  | r=>(.exit 0,[(zN r)],[])
theorem ZqZ {t0 t1:Bool}{a:Zbh}{x0:List Int}:∀(s1:Int×Int×(List Int)) (r:Int),lp (Zgw a x0) s1=some r->lpW ctx 0 [1,3,4,14,15,16] [4] ZDE [(.ptr 0 0),(.sl 1 1),(zN s1.1),(zV true x0),(zN (x0.length:Int)),(zN s1.2.1)] [(zK2 t0 a.work t1 a.edges),(zA s1.2.2)]=some ((ZmF t0 t1 a x0) r):=
 lpT (ZmF t0 t1 a x0) fun s1 _ ih=>yB (yG fun x2 _=>
  yC Zsq fun x3 _=>
  Zh (Zy _ _) (Zc _ (ZqT _) fun r8 _=>
  yG fun x9 hx9=>
  Ze (Zk rfl hx9) (yG fun x10 _=>
  Ze (Z4 rfl hx9) (Ze (Zk rfl hx9) (Zh (ZI Zm r8 x2.toNat (w64 (x9+x10))) (yG fun x11 hx11=>
  Ze (Zk rfl hx11) (Zd (ih _))))))))
  (Zi rfl)
theorem Zus {t0 t1:Bool}{a:Zbh}:∀r,(Zmd a)=some r->evD ctx 57 [(.d (zK4 t0 a.work t1 a.edges))]=some (ZwG r):=
 evT ZIa rfl rfl <| Zh (Zy _ _) (yBm (Zh (Zsd Zm (0:Int) (a.work.length:Int)) (yC Zsl fun x0 _=>
  Zh (Zy _ _) (Zc _ (ZqZ _) fun r12 _=>
  yR))))
def Zle (r:Int):D:=(Zm r)
def ZgF (t0:Bool) (a:List Int):Int->Ex×List V×Zl
  | r=>(.exit 0,[(zN r)],[])
theorem Zja {t0:Bool}{a:List Int}:∀(s1:Int×Int) (r:Int),lp (Zbq a) s1=some r->lpW ctx 0 [0,3,4] [3] ZDR [(zV t0 a),(zN s1.1),(zN s1.2)] []=some ((ZgF t0 a) r):=
 lpT (ZgF t0 a) fun s1 _ ih=>Zh (Zy _ _) (yB (yG fun x2 _=>
  Zd (ih _))
  (Zi rfl))
theorem Zks {t0:Bool}{a:List Int}:∀r,(ZcM a)=some r->evD ctx 58 [(zV t0 a)]=some (Zle r):=
 evT ZHi rfl rfl <| Zh (Zy _ _) (yBn (yG fun x0 _=>
  Zc _ (Zja _) fun r3 _=>
  yR))
def Zry (r:(Zf×Int)):D:=(D.tup [(zK1 r.1.total r.1.long r.1.most r.1.deadline r.1.period),(Zm r.2)])
theorem ZqL {t0 t1:Bool}{t2 t3:Bool}{a:Zq}:∀r,(Zfp a)=some r->evD ctx 25 [(.d (D.agg (dA t0 t1 t2 t3 a)))]=some (Zry r):=
 evT ZH4 rfl rfl <| yC ZqE fun x0 _=>
  yBr (yC ZtQ fun x1 _=>
  yC Zus fun x2 _=>
  yC Zks fun x3 _=>
  yR)
def Zo8 (r:Bool):D:=(D.bool r)
theorem Zgi {a b:Int}:∀r,(Zdy a b)=some r->evD ctx 83 [(zN a),(zN b)]=some (Zo8 r):=
 evT ZHa rfl rfl <| yB (yBr yR)
  yR
def ZrH (r:Int):D:=(Zm r)
theorem Zhf {a:Zf}:∀r,(Zfq a)=some r->evD ctx 51 [(.d (zK1 a.total a.long a.most a.deadline a.period))]=some (ZrH r):=
 evT ZHH rfl rfl <| yC ZpG fun x0 _=>
  yB (yBr (yC Zgi fun x1 _=>
  yB (yC Zgi fun x2 _=>
  yB (yC Zgi fun x3 _=>
  yB (yC Zgi fun x4 _=>
  yBr yR)
  yR)
  yR)
  yR))
  yR
def Zv7 (a:Zf):(Unit⊕Unit)->D
  | (.inl r)=>(D.iface 128 (zK1 a.total a.long a.most a.deadline a.period))
  | (.inr r)=>(D.iface 97 (zK1 a.total a.long a.most a.deadline a.period))
theorem Zn9 {a:Zf}:∀r,(Zj7 a)=some r->evD ctx 59 [(.d (zK1 a.total a.long a.most a.deadline a.period))]=some ((Zv7 a) r):=
 evT ZG3 rfl rfl <| yBr yR
def ZwA (r:Int):D:=(Zm r)
theorem Zuk {a0:Int}:∀r,(Zka a0)=some r->evD ctx 199 [(.d (D.rptr [(Zm a0)]))]=some (ZwA r):=
 evT ZDh rfl rfl <| yR
def ZrG (r:Bool):D:=(D.bool r)
theorem Zqn {a:Int}:∀r,(Zc9 a)=some r->evD ctx 201 [(zN a)]=some (ZrG r):=
 evT ZDU rfl rfl <| yC ZjZ fun x0 _=>
  yBr yR
def Zf5 (r:Int):D:=(Zm r)
def Zcw (t0:Bool) (a:List Int):(Int⊕Unit)->Ex×List V×Zl
  | (.inl r)=>(.ret,[(zN r)],[])
  | (.inr r)=>(.exit 0,[.bad],[])
theorem Ze7 {t0:Bool}{a:List Int}:∀(s0:Int) (r:(Int⊕Unit)),lp (ZX a (fun z0=>Zc9 z0)) s0=some r->lpW ctx 0 [0,1,7,8] [4] Zr7 [(zV t0 a),(.d (D.fn 201 [])),(zN (a.length:Int)),(zN s0)] []=some ((Zcw t0 a) r):=
 lpT (Zcw t0 a) fun s0 _ ih=>yB (yG fun x1 _=>
  yC Zqn fun x2 _=>
  yB (Zi rfl)
  (Zd (ih _)))
  (Zi rfl)
theorem ZfU {t0:Bool}{a:List Int}:∀r,(ZaF a (fun z0=>Zc9 z0))=some r->evD ctx 142 [(zV t0 a),(.d (D.fn 201 []))]=some (Zf5 r):=
 evT ZxY rfl rfl <| Zh (Zy _ _) (by
 conv=>rhs;whnf
 refine Zc _ (Ze7 _) fun r3 _=>?_
 rcases r3 with r3 | r3
 exact yR
 exact yR)
def Zud (r:Int):D:=(Zm r)
theorem ZsM {t0:Bool}{a:List Int}:∀r,(Zk3 a)=some r->evD ctx 200 [(zV t0 a)]=some (Zud r):=
 evT ZEo rfl rfl <| yC ZfU fun x0 _=>
  yBr (yG fun x1 _=>
  yC ZjZ fun x2 _=>
  yR)
def Zkf (r:(Int×Int)):D:=(D.tup [(Zm r.1),(Zm r.2)])
theorem ZjG {a b c0:Int}:∀r,(Zic a b (Zka c0))=some r->evD ctx 198 [(zN a),(zN b),(.d (D.fn 199 [(D.rptr [(Zm c0)])]))]=some (Zkf r):=
 evT ZEO rfl rfl <| yC ZsM fun x0 _=>
  yBr (yBr (yC Zuk fun x1 _=>
  yBn yR))
def Zy9 (r:(Int×Int)):D:=(D.tup [(Zm r.1),(Zm r.2)])
theorem Zyt {a b:Int}:∀r,(Zlr a b)=some r->evD ctx 197 [(zN a),(zN b)]=some (Zy9 r):=
 evT ZC5 rfl rfl <| yC ZjG fun x0 _=>
  yR
def ZnA (r:Zhm):D:=(zK5 r.cores r.e)
theorem Zil {a:ZvU}:∀r,(Zej a)=some r->evD ctx 196 [(.d (zK1 a.shape.total a.shape.long a.shape.most a.shape.deadline a.shape.period))]=some (ZnA r):=
 evT ZC1 rfl rfl <| yBr (yC Zyt fun x0 _=>
  yB (yBr yR)
  yR)
def Zm3 (r:Zhm):D:=(zK5 r.cores r.e)
theorem Zet {a:ZqQ}:∀r,(Zc6 a)=some r->evD ctx 60 [(.d (zK1 a.shape.total a.shape.long a.shape.most a.shape.deadline a.shape.period))]=some (Zm3 r):=
 evT ZGQ rfl rfl <| yR
def Zr1 (r:(Int×Int)):D:=(D.tup [(Zm r.1),(Zm r.2)])
theorem ZiC {a:Zf}:∀r,(Zgs a)=some r->evD ctx 27 [(.d (zK1 a.total a.long a.most a.deadline a.period))]=some (Zr1 r):=
 evT ZGU rfl rfl <| yC Zhf fun x0 _=>
  yBr (by
 conv=>rhs;whnf
 refine yC Zn9 fun x1 _=>?_
 rcases x1 with x1 | x1
 exact yC Zil fun x2 _=>
  yR
 exact yC Zet fun x3 _=>
  yR)
def ZqR (r:((List Zf)×Int)):D:=(D.tup [(zM true Zp r.1),(Zm r.2)])
def Zji (t0:Bool) (a:List Zq):((Int×(List Zf))⊕(List Zf))->Ex×List V×Zl
  | (.inl r)=>(.ret,[(.nilsl 5),(zN r.1),(.sl 0 5)],[(.arr 5 (List.map Zp r.2))])
  | (.inr r)=>(.exit 0,[.bad,.bad,(.sl 0 5)],[(.arr 5 (List.map Zp r))])
theorem Zm6 {t0:Bool}{a:List Zq}:∀(s0:Int×(List Zf)) (r:((Int×(List Zf))⊕(List Zf))),lp (Zce a) s0=some r->lpW ctx 0 [4,13,14,15] [2,3,4] ZDw [(.sl 0 5),(.d (D.list t0 (List.map (ZeE true) a))),(zN (a.length:Int)),(zN s0.1)] [(.arr 5 (List.map Zp s0.2))]=some ((Zji t0 a) r):=
 lpT (Zji t0 a) fun s0 _ ih=>yB (yG fun x1 _=>
  yC ZqL fun x2 _=>
  yB (Zi rfl)
  (yT (ZcA (Zfi Zp s0.2 1) (Zh (Zfg Zp s0.2 [x2.1]) (Zd (ih _)))
  ZaW)))
  (Zi rfl)
def Zjn (r3:List Zf):(Int⊕Unit)->Ex×List V×Zl
  | (.inl r)=>(.ret,[(.nilsl 5),(zN r),(.sl 0 5)],[(.arr 5 (List.map Zp r3))])
  | (.inr r)=>(.exit 2,[.bad,.bad,(.sl 0 5)],[(.arr 5 (List.map Zp r3))])
theorem Zng {r3:List Zf}:∀(s4:Int) (r:(Int⊕Unit)),lp (Zcf r3) s4=some r->lpW ctx 0 [4,32,33,34] [2,3,4] ZCc [(.sl 0 5),(.sl 0 5),(zN (r3.length:Int)),(zN s4)] [(.arr 5 (List.map Zp r3))]=some ((Zjn r3) r):=
 lpT (Zjn r3) fun s4 _ ih=>yB (yG fun x5 hx5=>
  Ze (Zk rfl hx5) (yC ZiC fun x6 _=>
  yB (Zi rfl)
  (Zd (ih _))))
  (Zi rfl)
theorem ZpS {t0:Bool}{a:List Zq}:∀r,(Zh2 a)=some r->evD ctx 33 [(.d (D.list t0 (List.map (ZeE true) a)))]=some (ZqR r):=
 evT ZH9 rfl rfl <| Zh (Zy _ _) (by
 conv=>rhs;whnf
 refine Zc _ (Zm6 _) fun r3 _=>?_
 rcases r3 with r3 | r3
 exact yR
 exact Zh (Zy _ _) (by
 conv=>rhs;whnf
 refine Zc _ (Zng _) fun r7 _=>?_
 rcases r7 with r7 | r7
 exact yR
 exact yR))
def Zti (a:Int):Unit->V×Zl
  | r=>((.ch 0),[(.ch (Zds a))])
theorem ZrZ {a:Int}:∀r,(Zjw a)=some r->evW ctx 34 [(zN a)] []=some ((Zti a) r):=
 evS ZIV rfl rfl <| yBm yR
end Go.Proofs.YtmnglncebfabpaaGreatDoor
