/- AdmitLess: part 5 of 6 of the proof. -/
import Derived.Test.YtmnglncebfabpaaGreatDoorZAdmitLessd
import Derived.KernelRfl
set_option maxRecDepth 100000
set_option maxHeartbeats 40000000
set_option linter.unusedVariables false
set_option linter.unusedSimpArgs false
namespace Go.Proofs.YtmnglncebfabpaaGreatDoor
open Go Go.Proofs.YtmnglncebfabpaaGreatDoorE
open Go.IntKind (u64 i64 u32 i32 u8)
theorem ZDd {d:Zp} (g:Zd6 d) {n:Nat} (hn:n<d.parts.length):1<=Zgd d.parts (n:Int):=by
 unfold Zgd
 rw[Int.toNat_natCast,List.getElem?_eq_getElem hn]
 exact(g.g.w _ (List.getElem_mem hn)).1
theorem Zx2 {d:Zp} (g:ZmG d) {n i:Nat} (hi:i<nt d n):1<=cut d n (i+1)/\cut d n (i+1)<=Zgd d.parts (n:Int)-1:=by
 obtain⟨_,_,h3,h4,h5⟩:=ZeD g hi
 have:=(g.f _ h5).2
 rw[h3,h4] at this
 exact this
theorem ZBU {d:Zp} (g:Zd6 d) {n:Nat} (hn:n<d.parts.length) {i:Nat} (hi:i<=nt d n):1<=cut d n (i+1)-cut d n i:=by
 have hw:=ZDd g hn
 by_cases hl:i<nt d n
 ·have h1:=Zx2 g.g hl
  cases i with
  | zero=>have:cut d n 0=0:=rfl;omega
  | succ j=>
   have:=Zn1 g.g (show j<j+1 by omega) hl
   rw[(ZeD g.g (show j<nt d n by omega)).2.2.2.1,(ZeD g.g hl).2.2.2.1] at this
   omega
 ·have:i=nt d n:=by omega
  subst this
  rw[Zya]
  cases h0:nt d n with
  | zero=>have:cut d n 0=0:=rfl;omega
  | succ j=>
   have:=Zx2 g.g (show j<nt d n by omega)
   omega
theorem ZAv {d:Zp} (g:Zd6 d) {n:Nat} (hn:n<d.parts.length):∀x∈Zng d n,1<=x:=fun x hx=>by
 unfold Zng Zkc at hx
 obtain⟨i,hi,rfl⟩:=List.mem_map.1 hx
 rw[List.mem_range] at hi
 exact ZBU g hn (by omega)
theorem Zze {d:Zp} (g:Zd6 d):∀x∈Zkg d,1<=x:=fun x hx=>by
 unfold Zkg at hx
 rcases List.mem_append.1 hx with hx | hx
 ·unfold Zic upto at hx
  obtain⟨n,hn,hx⟩:=List.mem_flatMap.1 hx
  exact ZAv g (List.mem_range.1 hn) x hx
 ·rw[(List.mem_replicate.1 hx).2];exact Int.le_refl _
theorem ZBF (d:Zp) (g:ZmG d) (n:Nat):nt d n=d.futures.countP fun f=>f.user==(n:Int):=by
 show(tch d n).length=_
 rw[ZsU (Znp g n)]
 unfold Zqe
 rw[Zor]
theorem Ztg {γ:Type} (p q r:γ->Bool) (h:∀x,r x=(p x || q x)) (h2:∀x,¬(p x=true/\q x=true)):∀l:List γ,l.countP r=l.countP p+l.countP q
 | []=>rfl
 | x :: l=>by
  rw[List.countP_cons,List.countP_cons,List.countP_cons,Ztg p q r h h2 l,h x]
  have:=h2 x
  cases hp:p x<;>cases hq:q x<;>simp_all<;>omega
theorem Zoj {d:Zp} (g:Zd6 d):∀k,ZaD d k=k+d.futures.countP fun f=>decide (0<=f.user)&&decide (f.user<(k:Int))
 | 0=>by
  have:(d.futures.countP fun f=>decide (0<=f.user)&&decide (f.user<((0:Nat):Int)))=0:=by
   rw[List.countP_eq_zero]
   intro f _
   simp only[Bool.and_eq_true,decide_eq_true_eq]
   omega
  rw[this];rfl
 | k+1=>by
  rw[Ztg (fun f:Zh=>decide (0<=f.user)&&decide (f.user<(k:Int))) (fun f=>f.user==(k:Int)) (fun f=>decide (0<=f.user)&&decide (f.user<((k+1:Nat):Int))) (fun f=>by
   rw[Bool.eq_iff_iff]
   simp only[Bool.and_eq_true,Bool.or_eq_true,decide_eq_true_eq,beq_iff_eq]
   omega) (fun f=>by
   simp only[Bool.and_eq_true,decide_eq_true_eq,beq_iff_eq]
   omega)]
  show ZaD d k+(nt d k+1)=_
  rw[Zoj g k,ZBF d g.g k]
  omega
theorem Zw3 {d:Zp} (g:Zd6 d):ZaD d d.parts.length=d.parts.length+d.futures.length:=by
 rw[Zoj g,List.countP_eq_length.2 fun f hf=>?_]
 have:=g.user hf
 have h1:=this.1
 have h2:=this.2
 simp only[Bool.and_eq_true,decide_eq_true_eq]
 omega
theorem Zxt {d:Zp} (g:Zd6 d):(Zkg d).length=d.parts.length+d.futures.length+d.barriers.length:=by
 unfold Zkg
 rw[List.length_append,ZkU,List.length_replicate,Zw3 g]
theorem ZFF (l:List Int) (hl:l.length<=1000) (hb:∀x∈l,0<=x/\x<=1000000) (step:Int×Int->Option ((Int×Int)⊕Int))
  (h1:∀(i:Nat) x s,i<l.length->l[i]? = some x->step (s,(i:Int))=some (.inl (w64 (s+x),((i+1:Nat):Int)))) (h2:∀s,step (s,(l.length:Int))=some (.inr s)) (s:Int) (hs:0<=s/\s<=1000000):lp step (s,0)=some (s+l.sum):=by
 have key:=(ZnU l step (fun i s=>(s,(i:Int))) (fun _ s x=>s+x) id (fun i s=>0<=s/\s<=1000000+1000000*i) (fun i x s hi hx hI=>by
  have:=hb x (List.mem_of_getElem? hx)
  refine⟨?_,by omega⟩
  rw[h1 i x s hi hx,ZaK (by omega) (by omega)]) (fun s _=>h2 s) s (by omega)).1
 have e:∀(l:List Int) (i:Nat) (s:Int),Zfv (fun _ s x=>s+x) i s l=s+l.sum:=by
  intro l
  induction l with
  | nil=>intro i s;simp[Zfv]
  | cons x l ih=>intro i s;show Zfv _ (i+1) (s+x) l=_;rw[ih,List.sum_cons];omega
 rw[e] at key
 exact key
theorem Zxm {g:Zbd} (h:Zip g=0):ZjN g=some g.work.sum:=by
 have hG:=(Zmw h).1
 unfold ZjN
 rw[Zm0 g hG.short,h]
 have:=ZFF g.work (by have:=hG.wl;omega) (fun x hx=>by have:=hG.w x hx;omega) (Zgj g) (fun i x s hi hx=>by
  simp only[Zgj,Zc9 hi,cond_true,Zaa hx,Option.bind_some,ZT hi hG.short.w]) (fun s=>by simp only[Zgj,Ze7,cond_false]) 0 (by omega)
 simp only[Option.bind_some,beq_self_eq_true,cond_true,this,Int.zero_add]
theorem ZwT (d:Zp):(Zsl d=(Zgc d,0)/\Zhx d=0/\Zip (Zgc d).dag=0)∨((Zsl d).1=⟨⟨[],[]⟩,[]⟩/\(Zsl d).2≠0):=by
 unfold Zsl
 by_cases hc:Zhx d=0
 ·rw[hc]
  by_cases hk:Zip (Zgc d).dag=0
  ·rw[hk];exact .inl ⟨rfl,rfl,rfl⟩
  ·rw[beq_false_of_ne hk];exact .inr ⟨rfl,by show(70:Int)≠0;omega⟩
 ·rw[beq_false_of_ne hc];exact .inr ⟨rfl,hc⟩
def rng (n m:Int):Bool:=decide (1<=n)&&decide (n<=m)
theorem ZFI (n m:Int):Zdk n m=some (rng n m):=by
 unfold Zdk rng
 cases decide (1<=n)<;>cases decide (n<=m)<;>rfl
noncomputable def Zhk (s:Zf):Bool:=Zzf s.period&&(!decide (4096<s.period)&&(rng s.deadline s.period&&(rng s.total 4096&&(rng s.long s.total&&rng s.most s.long))))
theorem Zug (s:Zf):Zf3 s=some (bif Zhk s then 0 else 140):=by
 obtain⟨k,hk⟩:=Zvf s.period
 unfold Zf3 Zhk
 simp only[hk,ZFI,Option.bind_some]
 cases Zzf s.period<;>cases decide (4096<s.period)<;>cases rng s.deadline s.period<;>cases rng s.total 4096<;>cases rng s.long s.total<;>cases rng s.most s.long<;>rfl
structure ZnL (s:Zf):Prop where
 p:s.period<=4096
 d1:1<=s.deadline
 d2:s.deadline<=s.period
 t1:1<=s.total
 t2:s.total<=4096
 l1:1<=s.long
 l2:s.long<=s.total
 m1:1<=s.most
 m2:s.most<=s.long
theorem Zox {s:Zf} (h:Zhk s=true):ZnL s:=by
 unfold Zhk rng at h
 simp only[Bool.and_eq_true,Bool.not_eq_true',decide_eq_false_iff_not,decide_eq_true_eq] at h
 obtain⟨_,h1,h2,h3,h4,h5⟩:=h
 exact⟨by omega,h2.1,h2.2,h3.1,h3.2,h4.1,h4.2,h5.1,h5.2⟩
theorem Zyn (a b:Int) (ha:0<=a) (ha2:a<=1099511627775) (hb:0<=b) (hb2:b<=1099511627775):Zj8 [a,b]=some 0:=by
 have ne:∀x:Int,0<=x->x<=1099511627775->ZcU x=some false:=fun x h1 h2=>by
  unfold ZcU
  rw[ZqF]
  unfold Zq4
  rw[decide_eq_false (show ¬x<0 by omega),decide_eq_false (show ¬1099511627775<x by omega)]
  rfl
 have key:lp (ZW [a,b] (fun z0=>ZcU z0)) 0=some (.inr ()):=by
  have:=ZgY [a,b] (ZW [a,b] (fun z0=>ZcU z0)) (fun _ _=>false) (fun i _=>.inl (i:Int)) (.inr ()) (fun i x hi hx=>by
   have hx':x=a∨x=b:=by
    have:=List.mem_of_getElem? hx
    simpa using this
   have e:ZcU x=some false:=by
    rcases hx' with rfl | rfl
    ·exact ne _ ha ha2
    ·exact ne _ hb hb2
   simp only[ZW,Zc9 hi,Zaa hx,Option.bind_some,ZT hi (show [a,b].length<9223372036854775808 by simp),cond_true,e,cond_false]) (by simp only[ZW,Ze7];rfl)
  rw[this]
  rfl
 unfold Zj8 ZaC
 rw[key]
 rfl
theorem Zyf (s:Zf) (h:Zhk s=true):ZdF s=some (decide (s.deadline<s.total)):=by
 have o:=Zox h
 have o1:=o.p;have o2:=o.d1;have o3:=o.d2;have o4:=o.t1;have o5:=o.t2;have o6:=o.l1;have o7:=o.l2
 unfold ZdF
 rw[Zug,h]
 simp only[cond_true,Option.bind_some,beq_self_eq_true]
 unfold Zjk
 by_cases h1:s.deadline<s.total
 ·rw[decide_eq_true h1]
  simp only[cond_true,Option.bind_some]
  unfold Zd4 ZcS
  by_cases h2:s.deadline<=s.long
  ·rw[decide_eq_true h2]
   rfl
  ·rw[decide_eq_false h2]
   have e1:w64 (s.total-s.long)=s.total-s.long:=ZaK (by omega) (by omega)
   have e2:w64 (s.deadline-s.long)=s.deadline-s.long:=ZaK (by omega) (by omega)
   have up:∃n,2<=n/\Zkr (s.total-s.long) (s.deadline-s.long)=some (n,0):=by
    unfold Zkr Zhw Zjn
    rw[Zyn _ _ (by omega) (by omega) (by omega) (by omega)]
    have e3:w64 (s.deadline-s.long-1)=s.deadline-s.long-1:=ZaK (by omega) (by omega)
    have e4:w64 (s.total-s.long+(s.deadline-s.long-1))=s.total-s.long+(s.deadline-s.long-1):=ZaK (by omega) (by omega)
    have hq:2<=(s.total-s.long+(s.deadline-s.long-1)) / (s.deadline-s.long):=Int.le_ediv_of_mul_le (by omega) (by omega)
    have hq2:(s.total-s.long+(s.deadline-s.long-1)) / (s.deadline-s.long)<=s.total-s.long+(s.deadline-s.long-1):=Int.ediv_le_self _ (by omega)
    refine⟨(s.total-s.long+(s.deadline-s.long-1)) / (s.deadline-s.long),hq,?_⟩
    simp only[Option.bind_some,bne_self_eq_false,cond_false,show((s.deadline-s.long)==0)=false by simp;omega,e3,e4]
    rw[Int.tdiv_eq_ediv_of_nonneg (by omega),ZaK (by omega) (by omega)]
   obtain⟨n,n1,n2⟩:=up
   simp only[cond_false,e1,e2,n2,Option.bind_some,beq_self_eq_true,cond_true]
   by_cases h3:8<n
   ·rw[decide_eq_true h3];rfl
   ·rw[decide_eq_false h3]
    simp only[cond_false,Option.bind_some,show(n==1)=false by simp;omega,Bool.false_and,Bool.not_false,cond_true]
 ·rw[decide_eq_false h1]
  rfl
theorem ZIy (a b:Int) (ha:0<=a) (ha2:a<=4096) (hb:1<=b) (hb2:b<=4096):Zkr a b=some ((a+(b-1)) / b,0):=by
 unfold Zkr Zhw Zjn
 rw[Zyn _ _ (by omega) (by omega) (by omega) (by omega)]
 have e3:w64 (b-1)=b-1:=ZaK (by omega) (by omega)
 have e4:w64 (a+(b-1))=a+(b-1):=ZaK (by omega) (by omega)
 have h0:0<=(a+(b-1)) / b:=Int.ediv_nonneg (by omega) (by omega)
 have hq2:(a+(b-1)) / b<=a+(b-1):=Int.ediv_le_self _ (by omega)
 simp only[Option.bind_some,bne_self_eq_false,cond_false,show(b==0)=false by simp;omega,e3,e4]
 rw[Int.tdiv_eq_ediv_of_nonneg (by omega),ZaK (by omega) (by omega)]
def upN (s:Zf):Int:=(s.total-s.long+(s.deadline-s.long-1)) / (s.deadline-s.long)
noncomputable def ZcM (s:Zf):Int×Int:=bif Zhk s then (bif decide (s.deadline<s.total) then (bif decide (s.deadline<=s.long) then (0,141) else bif decide (8<upN s) then (0,142) else (upN s,0)) else (1,0)) else (0,140)
theorem ZEn {s:Zf} (h:s.long<s.deadline) (n:Int):upN s<=n↔s.total-s.long<=n*(s.deadline-s.long):=by
 have hb:0<s.deadline-s.long:=by omega
 have:=Int.ediv_lt_iff_lt_mul (a:=s.total-s.long+(s.deadline-s.long-1)) (b:=n+1) hb
 rw[Int.add_mul,Int.one_mul] at this
 unfold upN
 omega
theorem Zx3 (s:Zf):ZgS s=some (ZcM s):=by
 unfold ZgS ZcM
 rw[Zug]
 cases h:Zhk s with
 | false=>rfl
 | true=>
  have o:=Zox h
  have o1:=o.p;have o2:=o.d1;have o3:=o.d2;have o4:=o.t1;have o5:=o.t2;have o6:=o.l1;have o7:=o.l2
  simp only[cond_true,Option.bind_some,bne_self_eq_false,cond_false]
  unfold Zjk
  cases h1:decide (s.deadline<s.total) with
  | false=>rfl
  | true=>
   have h1:=of_decide_eq_true h1
   simp only[cond_true,Option.bind_some]
   unfold Zd4
   by_cases h2:s.deadline<=s.long
   ·rw[decide_eq_true h2];rfl
   ·rw[decide_eq_false h2]
    have e1:w64 (s.total-s.long)=s.total-s.long:=ZaK (by omega) (by omega)
    have e2:w64 (s.deadline-s.long)=s.deadline-s.long:=ZaK (by omega) (by omega)
    simp only[cond_false,e1,e2,ZIy _ _ (show 0<=s.total-s.long by omega) (by omega) (show 1<=s.deadline-s.long by omega) (by omega),Option.bind_some,beq_self_eq_true,cond_true]
    show(bif decide (8<upN s) then _ else _:Option ZgQ).bind _=_
    cases decide (8<upN s)<;>rfl
theorem ZyM (l:List Int) (hl:l.length<=1000):∃r:List Int,Zdb l=some r/\r.Perm l/\r.Pairwise (fun x y=>x<=y):=by
 refine⟨sortI l,?_,Znj l,Zlg l⟩
 unfold Zdb
 rw[Nat.ble_eq_true_of_le (Nat.le_trans hl (by decide))]
 rfl
theorem ZDu {g:Zbd} (h:Zjf g) (n:Int):∃r,ZjT g n=some r/\(∀z,z∈r↔∃e∈g.edges,e.dst=n/\e.src=z)/\r.length<=256:=by
 have hel:=h.el
 have key:=ZBM g.edges (by omega) (fun e:Zr=>e.dst==n) (fun _ e=>e.src) (Zhq g fun z0=>Zf2 z0 n) (fun i x s hi hx=>by
  simp only[Zhq,Zc9 hi,cond_true,Zaa hx,Option.bind_some,Zf2,ZT hi h.short.e]
  cases x.dst==n<;>rfl) (fun s=>by simp only[Zhq,Ze7,cond_false]) [] (by simp)
 rw[List.nil_append] at key
 have hlen:(sel (fun e:Zr=>e.dst==n) (fun _ e=>e.src) 0 g.edges).length<=256:=Nat.le_trans (ZyY _ _ _ _) hel
 obtain⟨r,h1,h2,_⟩:=ZyM _ (Nat.le_trans hlen (by omega))
 refine⟨r,?_,fun z=>?_,by rw[h2.length_eq];exact hlen⟩
 ·unfold ZjT ZoN
  simp only[key,Option.bind_some,h1]
 ·rw[h2.mem_iff,Zqq]
  constructor
  ·rintro ⟨j,x,hx,h3,h4⟩
   exact⟨x,List.mem_of_getElem? hx,by simpa using h3,h4.symm⟩
  ·rintro ⟨e,he,h3,h4⟩
   obtain⟨j,hj⟩:=List.getElem?_of_mem he
   exact⟨j,e,hj,by simpa using h3,h4.symm⟩
theorem ZzD {g:Zbd} (h:Zip g=0):∃l,ZjR g=some l/\ZGu g l:=by
 obtain⟨hG,hA⟩:=Zmw h
 obtain⟨l,h1,h2⟩:=ZsY hG hA
 refine⟨l,?_,h2⟩
 unfold ZjR
 rw[Zm0 g hG.short,h,Option.bind_some]
 simp only[bne_self_eq_false,cond_false,h1,Option.bind_some,cond_true]
def fat (l:List Int) (z:Int):Int:=match l[z.toNat]? with | some x=>x | none=>0
theorem Zov {l:List Int}{n:Nat} (hl:l.length=n) {z:Int} (h:0<=z/\z.toNat<n):ZE l z=some (fat l z):=by
 have e:=List.getElem?_eq_getElem (show z.toNat<l.length by rw[hl];exact h.2)
 rw[Zse h.1 e]
 unfold fat
 rw[e]
theorem ZoB {l:List Int}{n:Nat} (hl:l.length=n) {z w v:Int} (hz:0<=z/\z.toNat<n) (hw:0<=w):fat (l.set z.toNat v) w=if w=z then v else fat l w:=by
 unfold fat
 rw[List.getElem?_set]
 by_cases h:z.toNat=w.toNat
 ·rw[if_pos h,if_pos (by rw[hl];exact hz.2),if_pos (by omega)]
 ·rw[if_neg h,if_neg (by intro hc;exact h (by rw[hc]))]
theorem ZrI (v:Int->Int):∀(ps:List Int) (i:Nat) (m:Int),m<=Zfv (fun _ m p=>bif decide (m<v p) then v p else m) i m ps/\(∀p∈ps,v p<=Zfv (fun _ m p=>bif decide (m<v p) then v p else m) i m ps) /\
  (Zfv (fun _ m p=>bif decide (m<v p) then v p else m) i m ps=m∨∃p∈ps,Zfv (fun _ m p=>bif decide (m<v p) then v p else m) i m ps=v p)
 | [],i,m=>⟨Int.le_refl _,(fun p hp=>by cases hp),.inl rfl⟩
 | p :: ps,i,m=>by
  obtain⟨h1,h2,h3⟩:=ZrI v ps (i+1) (bif decide (m<v p) then v p else m)
  generalize hr:Zfv (fun _ m p=>bif decide (m<v p) then v p else m) (i+1) (bif decide (m<v p) then v p else m) ps=r at *
  have e:Zfv (fun _ m p=>bif decide (m<v p) then v p else m) i m (p :: ps)=r:=hr
  rw[e]
  by_cases hc:m<v p
  ·rw[decide_eq_true hc] at h1 h3
   simp only[cond_true] at h1 h3
   refine⟨by omega,fun q hq=>?_,?_⟩
   ·rcases List.mem_cons.1 hq with rfl | hq
    ·exact h1
    ·exact h2 q hq
   ·rcases h3 with h3 | ⟨q,hq,h3⟩
    ·exact .inr ⟨p,by simp,h3⟩
    ·exact .inr ⟨q,by simp[hq],h3⟩
  ·rw[decide_eq_false hc] at h1 h3
   simp only[cond_false] at h1 h3
   refine⟨h1,fun q hq=>?_,?_⟩
   ·rcases List.mem_cons.1 hq with rfl | hq
    ·omega
    ·exact h2 q hq
   ·rcases h3 with h3 | ⟨q,hq,h3⟩
    ·exact .inl h3
    ·exact .inr ⟨q,by simp[hq],h3⟩
structure Far (g:Zbd) (F:Int->Int) (M:Int):Prop where
 edge:∀e∈g.edges,F e.src+fat g.work e.dst<=F e.dst
 least:∀i:Nat,i<g.work.length->fat g.work (i:Int)<=F (i:Int)
 some_:∀i:Nat,i<g.work.length->F (i:Int)=fat g.work (i:Int)∨∃e∈g.edges,e.dst=(i:Int)/\F (i:Int)=F e.src+fat g.work (i:Int)
 most:∀i:Nat,i<g.work.length->F (i:Int)<=M
 hit:M=0∨∃i:Nat,i<g.work.length/\M=F (i:Int)
theorem ZE0 {g:Zbd} (h:Zip g=0):∃F M,Zk8 g=some M/\Far g F M:=by
 obtain⟨hG,hA⟩:=Zmw h
 obtain⟨l,h1,T⟩:=ZzD h
 have hwl:=hG.wl
 have hll:l.length<=64:=by rw[T.len];exact hwl
 have key:∀(k i:Nat) (far:List Int) (mo:Int),i+k=l.length->far.length=g.work.length ->
   (∀z,0<=z/\z.toNat<g.work.length->(¬∃j,j<i/\l[j]? = some z)->fat far z=0) ->
   (∀e∈g.edges,(∃j,j<i/\l[j]? = some e.dst)->fat far e.src+fat g.work e.dst<=fat far e.dst) ->
   (∀z,(∃j,j<i/\l[j]? = some z)->fat g.work z<=fat far z/\(fat far z=fat g.work z∨∃e∈g.edges,e.dst=z/\fat far z=fat far e.src+fat g.work z)/\fat far z<=mo) ->
   (mo=0∨∃z,(∃j,j<i/\l[j]? = some z)/\mo=fat far z) ->
   (∀z,0<=z/\z.toNat<g.work.length->0<=fat far z/\fat far z<=1000*i) ->
   ∃F M,lp (Zga g l) (mo,(i:Int),far)=some M/\Far g F M:=by
  intro k
  induction k with
  | zero=>
   intro i far mo hi hl hz he hn hm hb
   have:i=l.length:=by omega
   subst this
   have all:∀j:Nat,j<g.work.length->∃q,q<l.length/\l[q]? = some (j:Int):=fun j hj=>by
    obtain⟨q,hq⟩:=List.getElem?_of_mem (T.all j hj)
    exact⟨q,(List.getElem?_eq_some_iff.1 hq).1,hq⟩
   have allz:∀z:Int,0<=z/\z.toNat<g.work.length->∃q,q<l.length/\l[q]? = some z:=fun z hz=>by
    have:=all z.toNat hz.2
    rwa [show((z.toNat:Nat):Int)=z by omega] at this
   refine⟨fat far,mo,?_,fun e hm=>he e hm (allz _ (hG.dst e hm)),fun i hi=>(hn _ (all i hi)).1,fun i hi=>(hn _ (all i hi)).2.1,fun i hi=>(hn _ (all i hi)).2.2,?_⟩
   ·rw[Zal]
    simp only[Zga,Ze7,cond_false]
   ·rcases hm with hm | ⟨z,⟨j,_,hj⟩,hm⟩
    ·exact .inl hm
    ·have:=T.inn z (List.mem_of_getElem? hj)
     exact .inr ⟨z.toNat,this.2,by rw[show((z.toNat:Nat):Int)=z by omega];exact hm⟩
  | succ k ih=>
   intro i far mo hi hl hz he hn hm hb
   have hi':i<l.length:=by omega
   have hx:l[i]? = some l[i]:=List.getElem?_eq_getElem hi'
   generalize hnn:l[i]=n at hx
   have nin:=T.inn n (List.mem_of_getElem? hx)
   obtain⟨ps,p1,p2,p3⟩:=ZDu hG n
   have fresh:¬∃j,j<i/\l[j]? = some n:=fun⟨j,j1,j2⟩=>by have:=ZtA T.nod j2 hx;omega
   have h0:=hz n nin fresh
   have psin:∀p∈ps,(0<=p/\p.toNat<g.work.length)/\p≠n/\∃j,j<i/\l[j]? = some p:=fun p hp=>by
    obtain⟨e,e1,e2,e3⟩:=(p2 p).1 hp
    have hs:=hG.src e e1
    obtain⟨j,j1,j2⟩:=T.topo i n hx e e1 e2
    rw[e3] at hs j2
    exact⟨hs,fun hc=>fresh ⟨j,j1,hc ▸ j2⟩,j,j1,j2⟩
   have inner:=(ZnU ps (Zf5 n ps) (fun j m=>((j:Int),far.set n.toNat m)) (fun _ m p=>bif decide (m<fat far p) then fat far p else m) (fun m=>far.set n.toNat m) (fun _ _=>True) (fun j p m hj hp _=>by
    obtain⟨q1,q2,_⟩:=psin p (List.mem_of_getElem? hp)
    have hls:(far.set n.toNat m).length=g.work.length:=by rw[List.length_set];exact hl
    have g1:=Zov hls nin
    have g2:=Zov hls q1
    rw[ZoB hl nin nin.1,if_pos rfl] at g1
    rw[ZoB hl nin q1.1,if_neg q2] at g2
    refine⟨?_,trivial⟩
    simp only[Zf5,Zc9 hj,cond_true,Zaa hp,Option.bind_some,g1,g2,List.set_set,ZT hj (show ps.length<9223372036854775808 by omega)]) (fun m _=>by simp only[Zf5,Ze7,cond_false]) (fat far n) trivial).1
   have self:far.set n.toNat (fat far n)=far:=by
    have e:=List.getElem?_eq_getElem (show n.toNat<far.length by rw[hl];exact nin.2)
    unfold fat
    rw[e]
    exact List.set_getElem_self _
   simp only[self] at inner
   obtain⟨m1,m2,m3⟩:=ZrI (fat far) ps 0 (fat far n)
   generalize Zfv (fun _ m p=>bif decide (m<fat far p) then fat far p else m) 0 (fat far n) ps=m at inner m1 m2 m3
   have inner2:lp (Zf5 n ps) (0,far)=some (far.set n.toNat m):=inner
   rw[h0] at m1 m3
   have hwn:0<=fat g.work n/\fat g.work n<=1000:=by
    have e:=List.getElem?_eq_getElem (show n.toNat<g.work.length from nin.2)
    unfold fat
    rw[e]
    exact hG.w _ (List.getElem_mem _)
   have mb:m<=1000*i:=by
    rcases m3 with m3 | ⟨p,hp,m3⟩
    ·omega
    ·have:=hb p (psin p hp).1;omega
   have hls:(far.set n.toNat m).length=g.work.length:=by rw[List.length_set];exact hl
   have g9:=Zov hls nin
   rw[ZoB hl nin nin.1,if_pos rfl] at g9
   have g10:=Zov (l:=g.work) rfl nin
   have hw:w64 (m+fat g.work n)=m+fat g.work n:=ZaK (by omega) (by omega)
   have hls2:(far.set n.toNat (m+fat g.work n)).length=g.work.length:=by rw[List.length_set];exact hl
   have g11:=Zov hls2 nin
   rw[ZoB hl nin nin.1,if_pos rfl] at g11
   have val:∀z,0<=z->fat (far.set n.toNat (m+fat g.work n)) z=if z=n then m+fat g.work n else fat far z:=fun z hz=>ZoB hl nin hz
   have old:∀z,(∃j,j<i/\l[j]? = some z)->0<=z/\z≠n:=fun z ⟨j,j1,j2⟩=>⟨(T.inn z (List.mem_of_getElem? j2)).1,fun hc=>fresh ⟨j,j1,hc ▸ j2⟩⟩
   have split:∀z,(∃j,j<i+1/\l[j]? = some z)->z=n∨∃j,j<i/\l[j]? = some z:=fun z ⟨j,j1,j2⟩=>by
    by_cases hj:j=i
    ·subst hj;rw[hx] at j2;exact .inl (Option.some.inj j2).symm
    ·exact .inr ⟨j,by omega,j2⟩
   have srcOld:∀e∈g.edges,(∃j,j<i+1/\l[j]? = some e.dst)->∃j,j<i/\l[j]? = some e.src:=fun e he1 ⟨j,j1,j2⟩=>by
    obtain⟨q,q1,q2⟩:=T.topo j e.dst j2 e he1 rfl
    exact⟨q,by omega,q2⟩
   rw[Zal]
   simp only[Zga,Zc9 hi',cond_true,Zaa hx,Option.bind_some,p1,inner2,g9,g10,List.set_set,hw,g11,ZT hi' (show l.length<9223372036854775808 by omega)]
   refine ih (i+1) (far.set n.toNat (m+fat g.work n)) _ (by omega) hls2 (fun z z1 z2=>?_) (fun e e1 e2=>?_) (fun z z1=>?_) ?_ (fun z z1=>?_)
   ·have hzn:z≠n:=fun hc=>z2 ⟨i,by omega,by rw[hc];exact hx⟩
    rw[val z z1.1,if_neg hzn]
    exact hz z z1 fun⟨j,j1,j2⟩=>z2 ⟨j,by omega,j2⟩
   ·have so:=srcOld e e1 e2
    obtain⟨s0,s1⟩:=old e.src so
    have d0:=(hG.dst e e1).1
    rw[val e.src s0,if_neg s1,val e.dst d0]
    rcases split e.dst e2 with hd | hd
    ·rw[if_pos hd,hd]
     have:=m2 e.src ((p2 e.src).2 ⟨e,e1,hd,rfl⟩)
     omega
    ·rw[if_neg (old e.dst hd).2]
     exact he e e1 hd
   ·rcases split z z1 with hd | hd
    ·subst hd
     rw[val z nin.1,if_pos rfl]
     refine⟨by omega,?_,?_⟩
     ·rcases m3 with m3 | ⟨p,hp,m3⟩
      ·exact .inl (by omega)
      ·obtain⟨e,e1,e2,e3⟩:=(p2 p).1 hp
       obtain⟨q1,q2,_⟩:=psin p hp
       refine .inr ⟨e,e1,e2,?_⟩
       rw[e3,val p q1.1,if_neg q2,m3]
     ·by_cases hc:mo<m+fat g.work z
      ·rw[decide_eq_true hc];exact Int.le_refl _
      ·rw[decide_eq_false hc];simp only[cond_false];omega
    ·obtain⟨o1,o2⟩:=old z hd
     obtain⟨n1,n2,n3⟩:=hn z hd
     rw[val z o1,if_neg o2]
     refine⟨n1,?_,?_⟩
     ·rcases n2 with n2 | ⟨e,e1,e2,e3⟩
      ·exact .inl n2
      ·have so:=srcOld e e1 (by obtain⟨j,j1,j2⟩:=hd;exact⟨j,by omega,by rw[e2];exact j2⟩)
       obtain⟨s0,s1⟩:=old e.src so
       exact .inr ⟨e,e1,e2,by rw[val e.src s0,if_neg s1];exact e3⟩
     ·by_cases hc:mo<m+fat g.work n
      ·rw[decide_eq_true hc];simp only[cond_true];omega
      ·rw[decide_eq_false hc];simp only[cond_false];omega
   ·by_cases hc:mo<m+fat g.work n
    ·rw[decide_eq_true hc]
     exact .inr ⟨n,⟨i,by omega,hx⟩,by rw[val n nin.1,if_pos rfl];rfl⟩
    ·rw[decide_eq_false hc]
     rcases hm with hm | ⟨z,⟨j,j1,j2⟩,hm⟩
     ·exact .inl hm
     ·obtain⟨o1,o2⟩:=old z ⟨j,j1,j2⟩
      exact .inr ⟨z,⟨j,by omega,j2⟩,by rw[val z o1,if_neg o2];exact hm⟩
   ·rw[val z z1.1]
    split
    ·omega
    ·have:=hb z z1;omega
 have rep:∀z,fat (List.replicate g.work.length (0:Int)) z=0:=fun z=>by
  unfold fat
  rw[List.getElem?_replicate]
  by_cases hc:z.toNat<g.work.length
  ·rw[if_pos hc]
  ·rw[if_neg hc]
 obtain⟨F,M,k1,k2⟩:=key l.length 0 (List.replicate g.work.length 0) 0 (by omega) (by simp) (fun z _ _=>rep z) (fun e _ ⟨j,j1,_⟩=>by omega) (fun z ⟨j,j1,_⟩=>by omega) (.inl rfl) (fun z _=>by rw[rep];omega)
 refine⟨F,M,?_,k2⟩
 unfold Zk8
 rw[decide_eq_true (show(0:Int)<=(g.work.length:Int) by omega),decide_eq_true (show(g.work.length:Int)<=lim by show(g.work.length:Int)<=1073741824;omega),beq_self_eq_true]
 simp only[decide_true,Bool.and_true,cond_true,Int.toNat_natCast,h1,Option.bind_some]
 have k1:lp (Zga g l) (0,0,List.replicate g.work.length 0)=some M:=k1
 rw[k1]
 rfl
def mxF (_:Nat) (m p:Int):Int:=bif decide (m<p) then p else m
theorem ZBA (l:List Int) (i:Nat) (m:Int):m<=Zfv mxF i m l/\(∀p∈l,p<=Zfv mxF i m l)/\(Zfv mxF i m l=m∨∃p∈l,Zfv mxF i m l=p):=ZrI (fun z=>z) l i m
theorem ZEv (x:Int) (t:List Int) (hl:t.length<=1000) (h1:1<=x):ZcB (x :: t)=some (Zfv mxF 0 0 (x :: t)):=by
 have l1:=(ZnU t (Zbm (x :: t)) (fun i m=>(m,((i+1:Nat):Int))) mxF id (fun _ _=>True) (fun i y m hi hy _=>by
  refine⟨?_,trivial⟩
  have hi2:i+1<(x :: t).length:=by simp;omega
  have hy2:(x :: t)[i+1]? = some y:=by simpa using hy
  simp only[Zbm,Zc9 hi2,cond_true,Zaa hy2,Option.bind_some,ZT hi2 (show(x :: t).length<9223372036854775808 by simp;omega)]
  rfl) (fun m _=>by
  have e:((t.length+1:Nat):Int)=((x :: t).length:Int):=by simp
  simp only[Zbm,e,Ze7,cond_false];rfl) x trivial).1
 obtain⟨m1,m2,m3⟩:=ZBA t 0 x
 obtain⟨n1,n2,n3⟩:=ZBA (x :: t) 0 0
 generalize Zfv mxF 0 x t=r at l1 m1 m2 m3
 generalize Zfv mxF 0 0 (x :: t)=q at n1 n2 n3
 have rq:r=q:=by
  have a:r<=q:=by
   rcases m3 with m3 | ⟨p,hp,m3⟩
   ·have:=n2 x (by simp);omega
   ·have:=n2 p (by simp[hp]);omega
  have b:q<=r:=by
   rcases n3 with n3 | ⟨p,hp,n3⟩
   ·omega
   ·rcases List.mem_cons.1 hp with hp | hp
    ·omega
    ·have:=m2 p hp;omega
  omega
 have l1':lp (Zbm (x :: t)) (x,1)=some r:=l1
 have c0:decide (((x :: t).length:Int)<1)=false:=decide_eq_false (by simp;omega)
 have g0:ZE (x :: t) 0=some x:=rfl
 unfold ZcB
 rw[c0,g0]
 simp only[cond_false,Option.bind_some,l1',rq]
theorem ZDG {d:Zp} (hz:Ziw d):(∃s:Zf,Ze0 d=some (s,(Zsl d).2)/\(Zsl d).2≠0) ∨
  (Zsl d=(Zgc d,0)/\Zhx d=0/\Zip (Zgc d).dag=0/\∃(F:Int->Int) (M r:Int),Far (Zgc d).dag F M/\Ze0 d=some (⟨(Zgc d).dag.work.sum,M,r,d.deadline,d.period⟩,0)):=by
 unfold Ze0
 simp only[ZC6 hz,Option.bind_some]
 rcases ZwT d with⟨h1,h2,h3⟩ | ⟨h1,h2⟩
 ·right
  have g:=Zvy h2
  have hG:=(Zmw h3).1
  obtain⟨F,M,l1,hF⟩:=ZE0 h3
  have hpl:=g.pl
  have hp1:=g.p1
  have hbl:=g.bl
  have ge:∀x∈(Zgc d).dag.work,1<=x:=Zze g
  have len:(Zgc d).dag.work.length=d.parts.length+d.futures.length+d.barriers.length:=Zxt g
  have hwl:=hG.wl
  have mo:ZcB (Zgc d).dag.work=some (Zfv mxF 0 0 (Zgc d).dag.work):=by
   cases hw:(Zgc d).dag.work with
   | nil=>rw[hw,List.length_nil] at len;omega
   | cons x t=>
    rw[hw,List.length_cons] at hwl
    exact ZEv x t (by omega) (ge x (by rw[hw];simp))
  refine⟨h1,h2,h3,F,M,Zfv mxF 0 0 (Zgc d).dag.work,hF,?_⟩
  rw[h1]
  simp only[bne_self_eq_false,cond_false,Zxm h3,l1,mo,Option.bind_some]
 ·left
  have hne:((Zsl d).2 != 0)=true:=by rw[bne,beq_false_of_ne h2];rfl
  rw[hne]
  simp only[cond_true]
  exact⟨_,rfl,h2⟩
open Go Go.Proofs.YtmnglncebfabpaaGreatDoorE Go.Sort
def ZmT (l:List Zf) (z:Int):Int:=match l[z.toNat]? with | some s=>s.total | none=>0
def ahead (l:List Zf) (x y:Int):Prop:=ZmT l y<ZmT l x∨(ZmT l x=ZmT l y/\x<y)
def Zxq (l:List Zf) (x y:Int):Int:=if ZmT l y<ZmT l x then -1 else if ZmT l x<ZmT l y then 1 else x-y
theorem ZAP (l:List Zf) (x y:Int):ltC (Zxq l) x y=true↔ahead l x y:=by
 unfold ltC Zxq ahead
 rw[decide_eq_true_eq]
 split
 ·omega
 ·split<;>omega
theorem Zuw (l:List Zf) (x y:Int):ltC (Zxq l) x y=false↔¬ahead l x y:=by rw[<- ZAP];simp
theorem ZC4 (l:List Zf):SWO (ltC (Zxq l)):=by
 refine⟨fun x=>?_,fun x y z h1 h2=>?_,fun x y z h1 h2=>?_⟩
 ·rw[Zuw];unfold ahead;omega
 ·rw[ZAP] at *;unfold ahead at *;omega
 ·rw[Zuw] at *;unfold ahead at *;omega
def InL (l:List Zf) (z:Int):Prop:=0<=z/\z.toNat<l.length
theorem ZFJ {l:List Zf}{z:Int} (h:InL l z):∃s,ZE l z=some s/\l[z.toNat]? = some s/\ZmT l z=s.total:=by
 refine⟨l[z.toNat]'h.2,?_,List.getElem?_eq_getElem h.2,?_⟩
 ·have:=Zaa (List.getElem?_eq_getElem h.2)
  rwa [Int.toNat_of_nonneg h.1] at this
 ·unfold ZmT;rw[List.getElem?_eq_getElem h.2]
theorem ZDr (l:List Zf) (hl:l.length<=1000):ZsP (fun z0 z1=>ZA z0 z1 l) (Zxq l) (InL l):=by
 intro x y hx hy
 obtain⟨s,s1,_,s2⟩:=ZFJ hx
 obtain⟨t,t1,_,t2⟩:=ZFJ hy
 have hx2:=hx.2
 have hy2:=hy.2
 have hx1:=hx.1
 have hy1:=hy.1
 show ZA x y l=some (Zxq l x y)
 unfold ZA Zxq
 rw[s1,t1,s2,t2]
 simp only[Option.bind_some]
 by_cases h1:t.total<s.total
 ·rw[decide_eq_true h1,if_pos h1];rfl
 ·rw[decide_eq_false h1,if_neg h1]
  by_cases h2:s.total<t.total
  ·rw[decide_eq_true h2,if_pos h2];rfl
  ·rw[decide_eq_false h2,if_neg h2,ZaK (by omega) (by omega)];rfl
def Zna:Nat->Nat->List Int
 | _,0=>[]
 | i,k+1=>(i:Int) :: Zna (i+1) k
theorem ZkZ (z:Int):∀(k i:Nat),z∈Zna i k↔(i:Int)<=z/\z<(i:Int)+k
 | 0,i=>by simp only[Zna,List.not_mem_nil,false_iff];omega
 | k+1,i=>by
  simp only[Zna,List.mem_cons,ZkZ z k (i+1)]
  omega
theorem Zo2:∀(k i:Nat),(Zna i k).Pairwise (fun x y=>x<y)
 | 0,i=>List.Pairwise.nil
 | k+1,i=>by
  unfold Zna
  rw[List.pairwise_cons]
  refine⟨fun z hz=>?_,Zo2 k (i+1)⟩
  have:=(ZkZ z k (i+1)).1 hz
  omega
theorem ZoG:∀(k i:Nat),(Zna i k).length=k
 | 0,_=>rfl
 | k+1,i=>by unfold Zna;rw[List.length_cons,ZoG k]
structure Zhy (l:List Zf) (r:List Int):Prop where
 perm:r.Perm (Zna 0 l.length)
 rise:r.Pairwise (ahead l)
theorem Zhy.mem {l:List Zf}{r:List Int} (h:Zhy l r) (z:Int):z∈r↔InL l z:=by
 rw[h.perm.mem_iff,ZkZ]
 unfold InL
 omega
theorem Zhy.len {l:List Zf}{r:List Int} (h:Zhy l r):r.length=l.length:=by rw[h.perm.length_eq,ZoG]
theorem Zhy.nodup {l:List Zf}{r:List Int} (h:Zhy l r):r.Nodup:=h.rise.imp fun {x y} hp he=>by
 subst he
 unfold ahead at hp
 omega
theorem ZzE (l:List Zf) (hl:l.length<=1000):∃r,ZfS l=some r/\Zhy l r:=by
 have loop:∀(k i:Nat) (s:List Int),i+k=l.length->s.length<=i->lp (ZeG l) ((i:Int),s)=some (s++Zna i k):=by
  intro k
  induction k with
  | zero=>
   intro i s hi hs
   have:i=l.length:=by omega
   subst this
   rw[Zal]
   simp only[ZeG,Ze7,cond_false,Zna,List.append_nil]
  | succ k ih=>
   intro i s hi hs
   have hi':i<l.length:=by omega
   rw[Zal]
   simp only[ZeG,Zc9 hi',cond_true,Zh7 (show s.length+1<=1073741824 by omega),ZT hi' (show l.length<9223372036854775808 by omega)]
   rw[ih (i+1) (s++[(i:Int)]) (by omega) (by rw[List.length_append,List.length_singleton];omega)]
   simp[Zna]
 have k0:lp (ZeG l) (0,[])=some (Zna 0 l.length):=loop l.length 0 [] (by omega) (by simp)
 obtain⟨r,h1,h2,h3⟩:=ZBH (ZDr l hl) (ZC4 l) (Zna 0 l.length) (by rw[ZoG];exact hl) (fun x hx=>by
  have:=(ZkZ x l.length 0).1 hx
  unfold InL
  omega)
 refine⟨r,?_,h2,?_⟩
 ·unfold ZfS
  rw[k0,Option.bind_some,h1]
  rfl
 ·have nd:r.Pairwise (fun x y=>x≠y):=(h2.pairwise_iff (fun h=>Ne.symm h)).2 ((Zo2 l.length 0).imp fun h=>by omega)
  refine(h3.and nd).imp fun {x y} hp=>?_
  have h4:=(Zuw l y x).1 hp.1
  have h5:=hp.2
  unfold ahead at *
  omega
noncomputable def okS (s:Zf):Bool:=Zhk s&&decide (s.total<=s.deadline)
theorem ZEQ (s:Zf):ZcV s=some (!(okS s)):=by
 unfold ZcV okS
 rw[Zug]
 cases h:Zhk s with
 | false=>rfl
 | true=>
  rw[Zyf s h]
  have e:decide (s.deadline<s.total) = !decide (s.total<=s.deadline):=by rw[<- decide_not];exact decide_eq_decide.2 (by omega)
  simp only[cond_true,Option.bind_some,bne_self_eq_false,cond_false,e]
  cases decide (s.total<=s.deadline)<;>rfl
noncomputable def Zey (l:List Zf):Bool:=!decide ((8:Int)<(l.length:Int)) && !(l.any fun s=>!(okS s))
theorem ZBG (l:List Zf) (hl:l.length<=1000):Zhd l=some (bif Zey l then 0 else 150):=by
 have key:Zbg l (fun z0=>ZcV z0)=some (l.any fun s=>!(okS s)):=by
  unfold Zbg Zcz
  rw[ZgY l (ZaM l (fun z0=>ZcV z0)) (fun _ s=>!(okS s)) (fun i _=>.inl (i:Int)) (.inr ()) (fun i x hi hx=>by
   simp only[ZaM,Zc9 hi,Zaa hx,Option.bind_some,ZEQ,ZT hi (show l.length<9223372036854775808 by omega),cond_true]
   cases okS x<;>rfl) (by simp only[ZaM,Ze7];rfl)]
  rcases Znb (fun s=>!(okS s)) () l 0 with⟨j,e1,e2⟩ | ⟨e1,e2⟩
  ·rw[e1,e2]
   show(bif decide ((0:Int)<=(j:Int)) then some true else some false)=some true
   rw[decide_eq_true (by omega)]
   rfl
  ·rw[e1,e2]
   rfl
 unfold Zhd Zey
 rw[key]
 cases decide ((8:Int)<(l.length:Int)) with
 | true=>rfl
 | false=>cases (l.any fun s=>!(okS s))<;>rfl
theorem Zi2 {l:List Zf} (h:Zey l=true):l.length<=8/\∀s∈l,ZnL s/\s.total<=s.deadline:=by
 unfold Zey at h
 simp only[Bool.and_eq_true,Bool.not_eq_true',decide_eq_false_iff_not] at h
 refine⟨by omega,fun s hs=>?_⟩
 have:=List.any_eq_false.1 h.2 s hs
 simp only[Bool.not_eq_true',Bool.not_eq_false] at this
 unfold okS at this
 simp only[Bool.and_eq_true,decide_eq_true_eq] at this
 exact⟨Zox this.1,this.2⟩
theorem ZyS {l m:List Zf} (h:Zey l=true) (hs:m.Sublist l):Zey m=true:=by
 unfold Zey at *
 simp only[Bool.and_eq_true,Bool.not_eq_true',decide_eq_false_iff_not] at *
 have:=hs.length_le
 refine⟨by omega,?_⟩
 rw[List.any_eq_false] at *
 exact fun s hm=>h.2 s (hs.subset hm)
def Zn3 (t:Int) (s:Zf):Int:=if t<s.deadline then 0 else s.total*((t-s.deadline) / s.period+1)
def ZoD (t:Int) (s:Zf):Int:=if t<s.deadline then s.most else 0
def dem (t:Int):List Zf->Int
 | []=>0
 | s :: l=>Zn3 t s+dem t l
def blk (t:Int):List Zf->Int
 | []=>0
 | s :: l=>max (ZoD t s) (blk t l)
def hor:List Zf->Int
 | []=>0
 | s :: l=>max s.period (hor l)
theorem Zxs (l:List Zf) (hl:l.length<=8) (b:Int->Zf->Option Int) (F:Int->Zf->Int) (h:∀n s,s∈l->0<=n->n<=1152921504606846976->b n s=some (F n s)/\0<=F n s/\F n s<=n+18014398509481984):Zgv l b=some (l.foldl F 0):=by
 have key:=Zqn l (ZdH l b) (fun i (n:Int)=>(n,(i:Int))) (fun i x n=>(b n x).map Sum.inl) (fun n=>some n) (fun i x n hi hx=>by
   simp only[ZdH,Zc9 hi,Zaa hx,Option.bind_some,ZT hi (show l.length<9223372036854775808 by omega),cond_true]
   cases b n x<;>rfl) (fun n=>by simp only[ZdH,Ze7];rfl) 0
 have sc:∀(m:List Zf) (i:Nat) (n:Int),(∀s∈m,s∈l)->0<=n->n+18014398509481984*m.length<=1152921504606846976->Znc (fun(_:Nat) x n=>(b n x).map (Sum.inl:Int->Int⊕Int)) (fun n=>some n) i m n=some (m.foldl F n):=by
  intro m
  induction m with
  | nil=>intro i n _ _ _;rfl
  | cons x m ih=>
   intro i n hm h0 hn
   rw[List.length_cons] at hn
   obtain⟨h1,h2,h3⟩:=h n x (hm x (by simp)) h0 (by omega)
   unfold Znc
   rw[h1]
   exact ih (i+1) (F n x) (fun s hs=>hm s (by simp[hs])) h2 (by omega)
 have key2:lp (ZdH l b) (0,0)=_:=key
 unfold Zgv
 rw[key2,sc l 0 0 (fun s h=>h) (by omega) (by omega)]
 rfl
theorem ZsX (g:Zf->Int) (f:List Zf->Int) (h0:f []=0) (h1:∀s l,f (s :: l)=g s+f l):∀(l:List Zf) (n:Int),l.foldl (fun n s=>n+g s) n=n+f l
 | [],n=>by rw[h0];simp
 | s :: l,n=>by
  rw[List.foldl_cons,ZsX g f h0 h1 l,h1]
  omega
theorem ZoZ (g:Zf->Int) (f:List Zf->Int) (h0:f []=0) (h1:∀s l,f (s :: l)=max (g s) (f l)):∀(l:List Zf) (n:Int),0<=n->l.foldl (fun n s=>max n (g s)) n=max n (f l)
 | [],n,hn=>by rw[h0];simp;omega
 | s :: l,n,hn=>by
  rw[List.foldl_cons,ZoZ g f h0 h1 l _ (by omega),h1]
  omega
theorem Zod {s:Zf} (o:ZnL s) {t:Int} (h1:1<=t) (h2:t<=4096):0<=Zn3 t s/\Zn3 t s<=33554432:=by
 have:=o.t1;have:=o.t2;have:=o.d1;have:=o.d2
 unfold Zn3
 split
 ·omega
 ·have q1:0<=(t-s.deadline) / s.period:=Int.ediv_nonneg (by omega) (by omega)
  have q2:(t-s.deadline) / s.period<=t-s.deadline:=Int.ediv_le_self _ (by omega)
  constructor
  ·exact Int.mul_nonneg (by omega) (by omega)
  ·have:s.total*((t-s.deadline) / s.period+1)<=4096*8192:=Int.mul_le_mul (by omega) (by omega) (by omega) (by omega)
   omega
theorem ZAI (l:List Zf) (h:Zey l=true) (t:Int) (h1:1<=t) (h2:t<=4096):ZiG l t=some (dem t l):=by
 obtain⟨hl,ho⟩:=Zi2 h
 have key:=Zxs l hl (fun z0 z1=>ZdZ z0 z1 t) (fun n s=>n+Zn3 t s) (fun n s hs hn hn2=>by
  have o:=(ho s hs).1
  obtain⟨b1,b2⟩:=Zod o h1 h2
  have:=o.t1;have:=o.t2;have:=o.d1;have:=o.d2;have:=o.p
  refine⟨?_,by omega,by omega⟩
  show ZdZ n s t=some (n+Zn3 t s)
  unfold ZdZ
  unfold Zn3 at b1 b2 ⊢
  by_cases hd:t<s.deadline
  ·rw[decide_eq_true hd,if_pos hd,Int.add_zero];rfl
  ·rw[decide_eq_false hd,if_neg hd]
   rw[if_neg hd] at b1 b2
   have q1:0<=(t-s.deadline) / s.period:=Int.ediv_nonneg (by omega) (by omega)
   have q2:(t-s.deadline) / s.period<=t-s.deadline:=Int.ediv_le_self _ (by omega)
   have e1:w64 (t-s.deadline)=t-s.deadline:=ZaK (by omega) (by omega)
   have e2:w64 (Int.tdiv (t-s.deadline) s.period)=(t-s.deadline) / s.period:=by
    rw[Int.tdiv_eq_ediv_of_nonneg (by omega)]
    exact ZaK (by omega) (by omega)
   have e3:w64 ((t-s.deadline) / s.period+1)=(t-s.deadline) / s.period+1:=ZaK (by omega) (by omega)
   have e4:w64 (s.total*((t-s.deadline) / s.period+1))=s.total*((t-s.deadline) / s.period+1):=ZaK (by omega) (by omega)
   have e5:w64 (n+s.total*((t-s.deadline) / s.period+1))=n+s.total*((t-s.deadline) / s.period+1):=ZaK (by omega) (by omega)
   simp only[cond_false,show(s.period==0)=false by simp;omega,e1,e2,e3,e4,e5])
 unfold ZiG
 rw[key,ZsX (Zn3 t) (dem t) rfl (fun _ _=>rfl),Int.zero_add]
 rfl
theorem ZCG (l:List Zf) (h:Zey l=true) (t:Int):Zj4 l t=some (blk t l):=by
 obtain⟨hl,ho⟩:=Zi2 h
 have key:=Zxs l hl (fun z0 z1=>ZeZ z0 z1 t) (fun n s=>max n (ZoD t s)) (fun n s hs hn hn2=>by
  have o:=(ho s hs).1
  have:=o.m1;have:=o.m2;have:=o.l2;have:=o.t2
  show ZeZ n s t=some (max n (ZoD t s))/\_
  unfold ZeZ ZoD
  by_cases hd:t<s.deadline
  ·rw[decide_eq_true hd,if_pos hd]
   refine⟨?_,by omega,by omega⟩
   by_cases hm:n<s.most
   ·rw[decide_eq_true hm,show max n s.most=s.most by omega];rfl
   ·rw[decide_eq_false hm,show max n s.most=n by omega];rfl
  ·rw[decide_eq_false hd,if_neg hd]
   refine⟨?_,by omega,by omega⟩
   rw[show max n (0:Int)=n by omega]
   rfl)
 have hb:∀m:List Zf,0<=blk t m:=fun m=>by
  induction m with
  | nil=>exact Int.le_refl _
  | cons s m ih=>unfold blk;omega
 unfold Zj4
 rw[key,ZoZ (ZoD t) (blk t) rfl (fun _ _=>rfl) l 0 (Int.le_refl _),show max (0:Int) (blk t l)=blk t l by have:=hb l;omega]
 rfl
theorem ZoM (l:List Zf) (h:Zey l=true):Zh2 l=some (hor l):=by
 obtain⟨hl,ho⟩:=Zi2 h
 have key:=Zxs l hl (fun z0 z1=>Zdd z0 z1) (fun n s=>max n s.period) (fun n s hs hn hn2=>by
  have o:=(ho s hs).1
  have:=o.p;have:=o.d1;have:=o.d2
  show Zdd n s=some (max n s.period)/\_
  unfold Zdd
  refine⟨?_,by omega,by omega⟩
  by_cases hm:n<s.period
  ·rw[decide_eq_true hm,show max n s.period=s.period by omega];rfl
  ·rw[decide_eq_false hm,show max n s.period=n by omega];rfl)
 have hb:∀m:List Zf,0<=hor m:=fun m=>by
  induction m with
  | nil=>exact Int.le_refl _
  | cons s m ih=>unfold hor;omega
 unfold Zh2
 rw[ZBG l (by omega),h]
 simp only[cond_true,Option.bind_some,bne_self_eq_false,cond_false]
 rw[key,ZoZ (fun s=>s.period) hor rfl (fun _ _=>rfl) l 0 (Int.le_refl _),show max (0:Int) (hor l)=hor l by have:=hb l;omega]
 rfl
theorem ZEt {l:List Zf} (h:∀s∈l,ZnL s/\s.total<=s.deadline):hor l<=4096:=by
 induction l with
 | nil=>unfold hor;omega
 | cons s l ih=>
  have:=ih fun x hx=>h x (by simp[hx])
  have:=(h s (by simp)).1.p
  unfold hor
  omega
def Zy0 (l:List Zf) (s:Zf) (t:Int):Prop:=∀k:Nat,t+k*s.period<=hor l->dem (t+k*s.period) l+blk (t+k*s.period) l<=t+k*s.period
def ZDW (l:List Zf):Prop:=Zey l=true/\∀s∈l,Zy0 l s s.deadline
noncomputable def ZpX (l:List Zf):Bool:=@decide (ZDW l) (Classical.propDecidable _)
theorem Zoi (l:List Zf):ZpX l=true↔ZDW l:=by unfold ZpX;exact @decide_eq_true_iff _ (Classical.propDecidable _)
noncomputable def Zn5 (l:List Zf) (s:Zf):Bool:=@decide (¬Zy0 l s s.deadline) (Classical.propDecidable _)
theorem ZwG {l:List Zf} (h:Zey l=true) {t:Int} (h1:1<=t) (h2:t<=4096):0<=dem t l/\dem t l<=33554432*l.length/\0<=blk t l/\blk t l<=4096:=by
 have ho:=(Zi2 h).2
 clear h
 induction l with
 | nil=>unfold dem blk;simp
 | cons s l ih=>
  obtain⟨a1,a2,a3,a4⟩:=ih fun x hx=>ho x (by simp[hx])
  have o:=(ho s (by simp)).1
  obtain⟨b1,b2⟩:=Zod o h1 h2
  have:=o.m1;have:=o.m2;have:=o.l2;have:=o.t2
  have c:0<=ZoD t s/\ZoD t s<=4096:=by unfold ZoD;split<;>omega
  unfold dem blk
  rw[List.length_cons]
  omega
theorem ZDF (l:List Zf) (h:Zey l=true) (s:Zf) (hs:s∈l):∀(m:Nat) (t:Int),1<=t->t<=8192->4096-t<(m:Int)->∃r,lp (Zf7 l s) t=some r/\(r = .inr ()/\Zy0 l s t∨r = .inl ()/\¬Zy0 l s t):=by
 obtain⟨hl,ho⟩:=Zi2 h
 have o:=(ho s hs).1
 have hh:=ZEt ho
 have:=o.p;have:=o.d1;have:=o.d2
 intro m
 induction m with
 | zero=>
  intro t h1 h2 hm
  rw[Zal]
  simp only[Zf7,ZoM l h,Option.bind_some,decide_eq_false (show ¬t<=hor l by omega),cond_false]
  refine⟨_,rfl,.inl ⟨rfl,fun k hk=>?_⟩⟩
  have:0<=(k:Int)*s.period:=Int.mul_nonneg (by omega) (by omega)
  omega
 | succ m ih=>
  intro t h1 h2 hm
  rw[Zal]
  by_cases ht:t<=hor l
  ·have t4:t<=4096:=by omega
   obtain⟨a1,a2,a3,a4⟩:=ZwG h h1 t4
   have e1:w64 (dem t l+blk t l)=dem t l+blk t l:=ZaK (by omega) (by omega)
   have e2:w64 (t+s.period)=t+s.period:=ZaK (by omega) (by omega)
   simp only[Zf7,ZoM l h,Option.bind_some,decide_eq_true ht,cond_true,ZAI l h t h1 t4,ZCG l h t,e1,e2]
   by_cases hv:t<dem t l+blk t l
   ·rw[decide_eq_true hv]
    refine⟨_,rfl,.inr ⟨rfl,fun hk=>?_⟩⟩
    have:=hk 0 (by simpa using ht)
    simp only[Int.natCast_zero,Int.zero_mul,Int.add_zero] at this
    omega
   ·rw[decide_eq_false hv]
    simp only[cond_false]
    obtain⟨r,r1,r2⟩:=ih (t+s.period) (by omega) (by omega) (by omega)
    have key:Zy0 l s t↔Zy0 l s (t+s.period):=by
     constructor
     ·intro hk k hk2
      have e:t+s.period+(k:Int)*s.period=t+((k+1:Nat):Int)*s.period:=by
       rw[Int.natCast_add,Int.add_mul];omega
      rw[e] at hk2 ⊢
      exact hk (k+1) hk2
     ·intro hk k hk2
      cases k with
      | zero=>
       simp only[Int.natCast_zero,Int.zero_mul,Int.add_zero]
       omega
      | succ k=>
       have e:t+s.period+(k:Int)*s.period=t+((k+1:Nat):Int)*s.period:=by
        rw[Int.natCast_add,Int.add_mul];omega
       have:=hk k
       rw[e] at this
       exact this hk2
    exact⟨r,r1,by rw[key];exact r2⟩
  ·simp only[Zf7,ZoM l h,Option.bind_some,decide_eq_false ht,cond_false]
   refine⟨_,rfl,.inl ⟨rfl,fun k hk=>?_⟩⟩
   have:0<=(k:Int)*s.period:=Int.mul_nonneg (by omega) (by omega)
   omega
theorem ZE9 (l:List Zf) (hl:l.length<=1000):Zlc l=some (ZpX l):=by
 unfold Zlc
 rw[ZBG l hl]
 cases h:Zey l with
 | false=>
  have:ZpX l=false:=by
   cases hf:ZpX l with
   | false=>rfl
   | true=>have:=((Zoi l).1 hf).1;rw[h] at this;cases this
  rw[this]
  rfl
 | true=>
  obtain⟨hl8,ho⟩:=Zi2 h
  have key:=ZgY l (ZgX l) (fun _ s=>Zn5 l s) (fun _ _=>.inl ()) (.inr ()) (fun i x hi hx=>by
   have hm:=List.mem_of_getElem? hx
   have o:=(ho x hm).1
   have:=o.p;have:=o.d1;have:=o.d2
   obtain⟨r,r1,r2⟩:=ZDF l h x hm 4097 x.deadline o.d1 (by omega) (by omega)
   simp only[ZgX,Zc9 hi,Zaa hx,Option.bind_some,ZT hi (show l.length<9223372036854775808 by omega),cond_true,r1]
   rcases r2 with⟨rfl,hk⟩ | ⟨rfl,hk⟩
   ·rw[show Zn5 l x=false by unfold Zn5;exact @decide_eq_false _ (Classical.propDecidable _) (fun h=>h hk)];rfl
   ·rw[show Zn5 l x=true by unfold Zn5;exact @decide_eq_true _ (Classical.propDecidable _) hk];rfl) (by simp only[ZgX,Ze7];rfl)
  rw[ZfP,ZlK] at key
  simp only[cond_true,Option.bind_some,bne_self_eq_false,cond_false,key]
  have e:ZpX l = !(l.any (Zn5 l)):=by
   rw[Bool.eq_iff_iff,Zoi,Bool.not_eq_true',List.any_eq_false]
   constructor
   ·rintro ⟨_,hk⟩ s hs hlate
    unfold Zn5 at hlate
    exact(@of_decide_eq_true _ (Classical.propDecidable _) hlate) (hk s hs)
   ·intro hk
    refine⟨h,fun s hs=>?_⟩
    have:=hk s hs
    unfold Zn5 at this
    exact Classical.not_not.1 fun hn=>this (@decide_eq_true _ (Classical.propDecidable _) hn)
  rw[e]
  cases l.any (Zn5 l)<;>rfl
theorem ZAm:ZpX []=true:=by
 rw[Zoi]
 refine⟨by unfold Zey;rfl,fun s hs=>by cases hs⟩
def on (l:List Zf) (at_:List Int) (core:Int):List Zf:=((l.zip at_).filter fun p=>p.2==core).map Prod.fst
theorem ZFr (l:List Zf) (at_:List Int) (core:Int):(on l at_ core).length<=l.length:=by
 unfold on
 rw[List.length_map]
 refine Nat.le_trans (List.length_filter_le _ _) ?_
 rw[List.length_zip]
 omega
theorem ZHG (l:List Zf) (hl:l.length<=1000) (at_:List Int) (core:Int):Zmx l at_ core=some (on l at_ core):=by
 have key:∀(k i:Nat) (s:List Zf),i+k=l.length->s.length<=i->lp (ZfL l at_ core) ((i:Int),s)=some (s++on (l.drop i) (at_.drop i) core):=by
  intro k
  induction k with
  | zero=>
   intro i s hi hs
   have:i=l.length:=by omega
   subst this
   rw[Zal,List.drop_length]
   simp only[ZfL,Ze7,cond_false]
   simp[on]
  | succ k ih=>
   intro i s hi hs
   have hi':i<l.length:=by omega
   rw[Zal,List.drop_eq_getElem_cons hi']
   have w:=ZT hi' (show l.length<9223372036854775808 by omega)
   by_cases ha:i<at_.length
   ·rw[List.drop_eq_getElem_cons ha]
    simp only[ZfL,Zc9 hi',Zaa (List.getElem?_eq_getElem hi'),Option.bind_some,cond_true,Zc9 ha,Zaa (List.getElem?_eq_getElem ha),Zh7 (show s.length+1<=1073741824 by omega),w]
    unfold on
    rw[List.zip_cons_cons,List.filter_cons]
    cases at_[i]==core with
    | true=>
     simp only[cond_true,if_true,List.map_cons]
     rw[ih (i+1) (s++[l[i]]) (by omega) (by rw[List.length_append,List.length_singleton];omega)]
     unfold on
     simp
    | false=>
     simp only[cond_false,Bool.false_eq_true,if_false]
     rw[ih (i+1) s (by omega) (by omega)]
     rfl
   ·simp only[ZfL,Zc9 hi',Zaa (List.getElem?_eq_getElem hi'),Option.bind_some,cond_true,decide_eq_false (show ¬(i:Int)<(at_.length:Int) by omega),cond_false,w]
    rw[ih (i+1) s (by omega) (by omega),show at_.drop i=[] by simp;omega,show at_.drop (i+1)=[] by simp;omega]
    simp[on]
 have k0:=key l.length 0 [] (by omega) (by simp)
 rw[List.drop_zero,List.drop_zero,List.nil_append] at k0
 have k1:lp (ZfL l at_ core) (0,[])=_:=k0
 unfold Zmx
 rw[k1]
 rfl
theorem ZBf (l:List Zf) (at_:List Int) (core:Int) (h:∀x∈at_,x≠core):on l at_ core=[]:=by
 unfold on
 rw[List.filter_eq_nil_iff.2 (fun p hp=>by
  have:=h p.2 (List.of_mem_zip hp).2
  simpa using this)]
 rfl
theorem ZAF (core c:Int) (hc:c≠core):∀(l:List Zf) (at_:List Int) (i:Nat),(∀x,at_[i]? = some x->x≠core)->on l (at_.set i c) core=on l at_ core
 | [],_,_,_=>by simp[on]
 | s :: l,[],i,h=>by simp[on]
 | s :: l,x :: at_,0,h=>by
  have hx:=h x rfl
  simp[on,hx,hc]
 | s :: l,x :: at_,i+1,h=>by
  have ih:=ZAF core c hc l at_ i (fun y hy=>h y (by simpa using hy))
  unfold on at *
  rw[List.set_cons_succ,List.zip_cons_cons,List.zip_cons_cons,List.filter_cons,List.filter_cons]
  cases hx:(x==core) with
  | true=>simp only[if_true,List.map_cons,ih]
  | false=>simp only[Bool.false_eq_true,if_false,ih]
def Zjr (n:Int):Bool:=decide (0<=n)&&decide (n<=8)
theorem Zzv (n:Int):Zh0 n=some (Zjr n):=by
 unfold Zh0 Zjr
 cases decide (0<=n)<;>cases decide (n<=8)<;>rfl
structure ZzO (l:List Zf) (at_:List Int) (c:Int):Prop where
 cc:0<=c/\c<=8
 len:at_.length=l.length
 ok:∀x∈at_,0<=x/\x<c
 fit:∀core:Nat,(core:Int)<c->ZpX (on l at_ core)=true
noncomputable def Zi6 (l:List Zf) (at_:List Int) (i:Nat) (core:Nat):Bool:=ZpX (on l (at_.set i (core:Int)) (core:Int))
noncomputable def least (l:List Zf) (at_:List Int) (i:Nat):Nat->Nat->Option Nat
 | _,0=>none
 | core,k+1=>bif Zi6 l at_ i core then some core else least l at_ i (core+1) k
theorem ZyE (l:List Zf) (at_:List Int) (i:Nat) (x:Int) (core:Nat):Zi6 l (at_.set i x) i core=Zi6 l at_ i core:=by
 unfold Zi6
 rw[List.set_set]
theorem ZtJ (l:List Zf) (at_:List Int) (i:Nat) (x:Int):∀(k core:Nat),least l (at_.set i x) i core k=least l at_ i core k
 | 0,_=>rfl
 | k+1,core=>by unfold least;rw[ZyE,ZtJ l at_ i x k]
theorem Zr0 {l:List Zf}{at_:List Int}{i c:Nat}:∀{k core:Nat},least l at_ i core k=some c->core<=c/\c<core+k/\Zi6 l at_ i c=true/\∀b,core<=b->b<c->Zi6 l at_ i b=false
 | 0,_,h=>by cases h
 | k+1,core,h=>by
  unfold least at h
  cases hf:Zi6 l at_ i core with
  | true=>
   rw[hf] at h
   cases h
   exact⟨Nat.le_refl _,by omega,hf,fun b h1 h2=>by omega⟩
  | false=>
   rw[hf] at h
   obtain⟨h1,h2,h3,h4⟩:=Zr0 h
   refine⟨by omega,by omega,h3,fun b hb1 hb2=>?_⟩
   by_cases he:b=core
   ·rw[he];exact hf
   ·exact h4 b (by omega) hb2
theorem ZqT {l:List Zf}{at_:List Int}{i c:Nat}:∀{k core:Nat},least l at_ i core k=some c->least l at_ i core (k+1)=some c
 | 0,_,h=>by cases h
 | k+1,core,h=>by
  unfold least at h ⊢
  cases hf:Zi6 l at_ i core with
  | true=>rw[hf] at h;exact h
  | false=>rw[hf] at h;exact ZqT h
theorem ZrV {l:List Zf}{at_:List Int}{i:Nat}:∀{k core:Nat},least l at_ i core k=none->∀b,core<=b->b<core+k->Zi6 l at_ i b=false
 | 0,_,_,b,h1,h2=>by omega
 | k+1,core,h,b,h1,h2=>by
  unfold least at h
  cases hf:Zi6 l at_ i core with
  | true=>rw[hf] at h;cases h
  | false=>
   rw[hf] at h
   by_cases he:b=core
   ·rw[he];exact hf
   ·exact ZrV h b (by omega) (by omega)
noncomputable def Zgb (l:List Zf) (n:Nat):List Int->List Int->Option (List Int)
 | [],at_=>some at_
 | i :: o,at_=>match least l at_ i.toNat 0 n with | some c=>Zgb l n o (at_.set i.toNat (c:Int)) | none=>none
theorem ZFq (l:List Zf) (hl:l.length<=1000) (n:Nat) (hn:n<=8) (i:Int) (hi:0<=i):∀(k core:Nat) (at_:List Int),core+k=n->i.toNat<at_.length->∃r,lp (ZeF l (n:Int) i) ((core:Int),at_)=some r/\(match least l at_ i.toNat core k with | some c=>r = .inl (at_.set i.toNat (c:Int)) | none=>∃m,r = .inr m):=by
 intro k
 induction k with
 | zero=>
  intro core at_ hc ha
  rw[Zal]
  simp only[ZeF,decide_eq_false (show ¬(core:Int)<(n:Int) by omega),cond_false]
  exact⟨_,rfl,_,rfl⟩
 | succ k ih=>
  intro core at_ hc ha
  rw[Zal]
  have w:w64 ((core:Int)+1)=((core+1:Nat):Int):=ZT (show core<100 by omega) (by omega)
  have g:ZE at_ i=some at_[i.toNat]:=by
   have:=Zaa (List.getElem?_eq_getElem ha)
   rwa [Int.toNat_of_nonneg hi] at this
  have f:=ZE9 (on l (at_.set i.toNat (core:Int)) (core:Int)) (Nat.le_trans (ZFr _ _ _) hl)
  simp only[ZeF,decide_eq_true (show(core:Int)<(n:Int) by omega),cond_true,Zi8,g,Option.bind_some,ZHG l hl,f,w]
  unfold least
  rw[show ZpX (on l (at_.set i.toNat (core:Int)) (core:Int))=Zi6 l at_ i.toNat core from rfl]
  cases Zi6 l at_ i.toNat core with
  | true=>exact⟨_,rfl,rfl⟩
  | false=>
   obtain⟨r,r1,r2⟩:=ih (core+1) (at_.set i.toNat (core:Int)) (by omega) (by rw[List.length_set];exact ha)
   refine⟨r,r1,?_⟩
   rw[ZtJ] at r2
   simp only[cond_false]
   cases hl2:least l at_ i.toNat (core+1) k with
   | some c=>rw[hl2] at r2;simpa [List.set_set] using r2
   | none=>rw[hl2] at r2;exact r2
theorem ZzR (l:List Zf) (hl:l.length<=1000) (n:Nat) (hn:n<=8) (o:List Int) (hol:o.length<=1000):∀(k j:Nat) (at_:List Int),j+k=o.length->at_.length=l.length->(∀x∈o,InL l x)->∃r,lp (ZeI l (n:Int) o) ((j:Int),at_)=some r/\(match Zgb l n (o.drop j) at_ with | some a=>r = .inr a | none=>∃m,r = .inl m):=by
 intro k
 induction k with
 | zero=>
  intro j at_ hj ha ho
  have:j=o.length:=by omega
  subst this
  rw[Zal,List.drop_length]
  simp only[ZeI,Ze7,cond_false]
  exact⟨_,rfl,rfl⟩
 | succ k ih=>
  intro j at_ hj ha ho
  have hj':j<o.length:=by omega
  have hx:=ho _ (List.getElem_mem hj')
  obtain⟨r,r1,r2⟩:=ZFq l hl n hn o[j] hx.1 n 0 at_ (by omega) (by rw[ha];exact hx.2)
  have r1':lp (ZeF l (n:Int) o[j]) (0,at_)=some r:=r1
  rw[Zal,List.drop_eq_getElem_cons hj']
  simp only[ZeI,Zc9 hj',Zaa (List.getElem?_eq_getElem hj'),Option.bind_some,cond_true,r1',ZT hj' (show o.length<9223372036854775808 by omega)]
  conv=>arg 1;ext;rhs;unfold Zgb
  cases hl2:least l at_ o[j].toNat 0 n with
  | some c=>
   rw[hl2] at r2
   subst r2
   obtain⟨q,q1,q2⟩:=ih (j+1) (at_.set o[j].toNat (c:Int)) (by omega) (by rw[List.length_set];exact ha) ho
   exact⟨q,q1,q2⟩
  | none=>
   rw[hl2] at r2
   obtain⟨m,rfl⟩:=r2
   exact⟨_,rfl,_,rfl⟩
theorem ZEm (l:List Zf) (hl:l.length<=1000):lp (ZeE l) (0,List.replicate (l.length:Int).toNat 0)=some (List.replicate l.length (-1)):=by
 have key:∀(k i:Nat),i+k=l.length->lp (ZeE l) ((i:Int),List.replicate i (-1)++List.replicate k 0)=some (List.replicate l.length (-1)):=by
  intro k
  induction k with
  | zero=>
   intro i hi
   have:i=l.length:=by omega
   subst this
   rw[Zal]
   simp only[ZeE,List.length_replicate,Int.toNat_natCast,Ze7,cond_false]
   simp
  | succ k ih=>
   intro i hi
   have hi':i<l.length:=by omega
   rw[Zal]
   have g:ZE (List.replicate i (-1:Int)++List.replicate (k+1) 0) (i:Int)=some 0:=Zaa (by
    rw[List.getElem?_append_right (by simp)]
    simp)
   have e:List.set (List.replicate i (-1:Int)++List.replicate (k+1) 0) i (-1)=List.replicate (i+1) (-1)++List.replicate k 0:=by
    rw[List.set_append_right _ _ (by simp),List.length_replicate,Nat.sub_self,List.replicate_succ,List.set_cons_zero,List.replicate_succ',List.append_assoc]
    rfl
   simp only[ZeE,List.length_replicate,Int.toNat_natCast,Zc9 hi',cond_true,g,Option.bind_some,ZT hi' (show l.length<9223372036854775808 by omega),e]
   exact ih (i+1) (by omega)
 have:=key l.length 0 (by omega)
 simpa using this
theorem ZDI (l:List Zf) (hl:l.length<=1000) {o:List Int} (ho:ZfS l=some o) (h2:Zhy l o) (c:Int) :
  Zhr l c=some (bif Zey l&&Zjr c then (match Zgb l c.toNat o (List.replicate l.length (-1)) with | some a=>(a,(0:Int)) | none=>([],161)) else ([],160)):=by
 unfold Zhr
 rw[ZBG l hl,Option.bind_some,Zzv]
 cases hc:Zey l with
 | false=>rfl
 | true=>
  cases h8:Zjr c with
  | false=>rfl
  | true=>
   have c8:0<=c/\c<=8:=by
    unfold Zjr at h8
    simpa using h8
   have hcond:(decide (0<=(l.length:Int))&&decide ((l.length:Int)<=lim)&&decide ((l.length:Int)==(l.length:Int)))=true:=by
    have:(l.length:Int)<=lim:=by unfold lim;omega
    simp[this]
   obtain⟨r,r1,r2⟩:=ZzR l hl c.toNat (by omega) o (by rw[h2.len];exact hl) o.length 0 (List.replicate l.length (-1)) (by omega) (by simp) (fun x hx=>(h2.mem x).1 hx)
   rw[Int.toNat_of_nonneg c8.1] at r1
   have r1':lp (ZeI l c o) (0,List.replicate l.length (-1))=some r:=r1
   rw[hcond]
   simp only[cond_true,bne_self_eq_false,cond_false,Option.bind_some,ZEm l hl,ho,r1',Bool.and_self]
   rw[List.drop_zero] at r2
   cases hp:Zgb l c.toNat o (List.replicate l.length (-1)) with
   | some a=>rw[hp] at r2;subst r2;rfl
   | none=>rw[hp] at r2;obtain⟨m,rfl⟩:=r2;rfl
theorem Zr4 {l:List Zf}{n:Nat}:∀{o at_ a:List Int},Zgb l n o at_=some a->a.length=at_.length
 | [],at_,a,h=>by cases h;rfl
 | i :: o,at_,a,h=>by
  unfold Zgb at h
  cases hl:least l at_ i.toNat 0 n with
  | none=>rw[hl] at h;cases h
  | some c=>
   rw[hl] at h
   have:=Zr4 (at_:=at_.set i.toNat (c:Int)) h
   rwa [List.length_set] at this
structure Zy6 (l:List Zf) (n:Nat) (at_:List Int) (o:List Int):Prop where
 len:at_.length=l.length
 fit:∀core:Nat,core<n->ZpX (on l at_ core)=true
 left:∀i∈o,InL l i/\at_[i.toNat]? = some (-1)
 nodup:o.Nodup
 rest:∀(j:Nat) (x:Int),at_[j]? = some x->(0<=x/\x<n)∨(x = -1/\(j:Int)∈o)
theorem Zwe {l:List Zf}{n c:Nat}{at_ o:List Int}{i:Int} (h:Zy6 l n at_ (i :: o)) (hc:least l at_ i.toNat 0 n=some c):Zy6 l n (at_.set i.toNat (c:Int)) o:=by
 obtain⟨_,h2,h3,_⟩:=Zr0 hc
 obtain⟨hi,hm⟩:=h.left i (by simp)
 have hnd:=List.nodup_cons.1 h.nodup
 refine⟨by rw[List.length_set];exact h.len,fun core hcore=>?_,fun k hk=>?_,hnd.2,fun j x hx=>?_⟩
 ·by_cases he:core=c
  ·subst he;exact h3
  ·rw[ZAF (core:Int) (c:Int) (by omega) l at_ i.toNat (fun x hx=>by rw[hm] at hx;cases hx;omega)]
   exact h.fit core hcore
 ·obtain⟨g1,g2⟩:=h.left k (by simp[hk])
  refine⟨g1,?_⟩
  have hne:k≠i:=fun e=>hnd.1 (e ▸ hk)
  rw[List.getElem?_set_ne (by have:=g1.1;have:=hi.1;omega)]
  exact g2
 ·by_cases he:j=i.toNat
  ·subst he
   have hlt:i.toNat<at_.length:=by rw[h.len];exact hi.2
   rw[List.getElem?_set_self hlt] at hx
   cases hx
   left;omega
  ·rw[List.getElem?_set_ne (Ne.symm he)] at hx
   rcases h.rest j x hx with g | ⟨g1,g2⟩
   ·exact .inl g
   ·rcases List.mem_cons.1 g2 with e | e
    ·exact absurd (by omega) he
    ·exact .inr ⟨g1,e⟩
theorem ZxT {l:List Zf}{n:Nat}:∀{o at_ a:List Int},Zy6 l n at_ o->Zgb l n o at_=some a->Zy6 l n a []
 | [],at_,a,h,hp=>by cases hp;exact h
 | i :: o,at_,a,h,hp=>by
  unfold Zgb at hp
  cases hl:least l at_ i.toNat 0 n with
  | none=>rw[hl] at hp;cases hp
  | some c=>
   rw[hl] at hp
   exact ZxT (Zwe h hl) hp
theorem Zrv {l:List Zf}{o:List Int} (n:Nat) (ho:Zhy l o):Zy6 l n (List.replicate l.length (-1)) o:=by
 refine⟨by simp,fun core hc=>?_,fun i hi=>?_,ho.nodup,fun j x hx=>?_⟩
 ·rw[ZBf l _ core (fun x hx=>by have:=(List.mem_replicate.1 hx).2;omega)]
  exact ZAm
 ·have:=(ho.mem i).1 hi
  exact⟨this,by rw[List.getElem?_replicate,if_pos this.2]⟩
 ·rw[List.getElem?_replicate] at hx
  split at hx
  ·rename_i hj
   cases hx
   refine .inr ⟨rfl,(ho.mem _).2 ⟨by omega,by simpa using hj⟩⟩
  ·cases hx
theorem Zu3 {l:List Zf}{o a:List Int}{c:Int} (hc:Zjr c=true) (ho:Zhy l o) (h:Zgb l c.toNat o (List.replicate l.length (-1))=some a):ZzO l a c:=by
 have c8:0<=c/\c<=8:=by unfold Zjr at hc;simpa using hc
 have inv:=ZxT (Zrv c.toNat ho) h
 refine⟨c8,inv.len,fun x hx=>?_,fun core hcore=>inv.fit core (by omega)⟩
 obtain⟨j,hj⟩:=List.getElem?_of_mem hx
 rcases inv.rest j x hj with g | ⟨_,g⟩
 ·omega
 ·cases g
theorem ZsQ {l:List Zf}{n:Nat}:∀{o at_ a:List Int},Zgb l n o at_=some a->Zgb l (n+1) o at_=some a
 | [],at_,a,h=>h
 | i :: o,at_,a,h=>by
  unfold Zgb at h ⊢
  cases hl:least l at_ i.toNat 0 n with
  | none=>rw[hl] at h;cases h
  | some c=>
   rw[hl] at h
   rw[ZqT hl]
   exact ZsQ h
theorem Zvl (c:Int):∀(l:List Zf) (at_:List Int) (i:Nat),(∀x∈at_,x≠c)->at_.length=l.length->on l (at_.set i c) c=(match l[i]? with | some s=>[s] | none=>[])
 | [],at_,i,_,h=>by simp[on]
 | s :: l,[],i,_,h=>by simp at h
 | s :: l,x :: at_,0,h,hl=>by
  have hr:on l at_ c=[]:=ZBf l at_ c (fun y hy=>h y (by simp[hy]))
  unfold on at *
  rw[List.set_cons_zero,List.zip_cons_cons,List.filter_cons]
  simp only[beq_self_eq_true,if_true,List.map_cons,hr]
  rfl
 | s :: l,x :: at_,i+1,h,hl=>by
  have hx:=h x (by simp)
  have ih:=Zvl c l at_ i (fun y hy=>h y (by simp[hy])) (by simpa using hl)
  unfold on at *
  rw[List.set_cons_succ,List.zip_cons_cons,List.filter_cons]
  simp only[show(x==c)=false by simpa using hx,Bool.false_eq_true,if_false,ih]
  simp
theorem ZCs {s:Zf} (h:ZnL s/\s.total<=s.deadline) (hc:Zey [s]=true):ZpX [s]=true:=by
 rw[Zoi]
 refine⟨hc,fun x hx k hk=>?_⟩
 have hxs:x=s:=by simpa using hx
 subst hxs
 obtain⟨o,ht⟩:=h
 have:=o.d1;have:=o.d2;have:=o.t1;have:=o.p
 have hp:0<=(k:Int)*x.period:=Int.mul_nonneg (by omega) (by omega)
 have hq:(x.deadline+(k:Int)*x.period-x.deadline) / x.period=k:=by
  rw[show x.deadline+(k:Int)*x.period-x.deadline=(k:Int)*x.period by omega]
  exact Int.mul_ediv_cancel _ (by omega)
 have hm:x.total*(k:Int)<=(k:Int)*x.period:=by
  rw[Int.mul_comm]
  exact Int.mul_le_mul_of_nonneg_left (by omega) (by omega)
 simp only[dem,blk]
 unfold Zn3 ZoD
 rw[if_neg (by omega),if_neg (by omega),hq,Int.mul_add,Int.mul_one]
 omega
theorem Ztc:∀{l m:List Int},l.Nodup->(∀x∈l,x∈m)->l.length<=m.length
 | [],_,_,_=>Nat.zero_le _
 | x :: l,m,hn,hs=>by
  have hx:=hs x (by simp)
  have hn2:=List.nodup_cons.1 hn
  have ih:=Ztc (m:=m.erase x) hn2.2 (fun y hy=>(List.mem_erase_of_ne (fun e:y=x=>hn2.1 (by rw[<- e];exact hy))).2 (hs y (by simp[hy])))
  rw[List.length_erase_of_mem hx] at ih
  have:=List.length_pos_of_mem hx
  rw[List.length_cons]
  omega
theorem Zy4 {n:Nat}{at_:List Int} (h:at_.length<=n) (hm:(-1:Int)∈at_):∃c:Nat,c<n/\∀x∈at_,x≠(c:Int):=by
 refine Classical.byContradiction fun hno=>?_
 have all:∀c:Nat,c<n->(c:Int)∈at_:=fun c hc=>Classical.byContradiction fun hn=>hno ⟨c,hc,fun x hx e=>hn (e ▸ hx)⟩
 have nd:((-1:Int) :: Zna 0 n).Nodup:=by
  rw[List.nodup_cons]
  refine⟨fun hx=>?_,(Zo2 n 0).imp fun h=>by omega⟩
  have:=(ZkZ _ _ _).1 hx
  omega
 have:=Ztc (m:=at_) nd (fun x hx=>by
  rcases List.mem_cons.1 hx with rfl | hx
  ·exact hm
  ·have:=(ZkZ _ _ _).1 hx
   have:=all x.toNat (by omega)
   rwa [Int.toNat_of_nonneg (by omega)] at this)
 rw[List.length_cons,ZoG] at this
 omega
theorem ZuH {l:List Zf}{at_:List Int}{i n c:Nat} (hc:c<n) (hf:Zi6 l at_ i c=true):∃b,least l at_ i 0 n=some b:=by
 cases h:least l at_ i 0 n with
 | some b=>exact⟨b,rfl⟩
 | none=>have:=ZrV h c (Nat.zero_le _) (by omega);rw[hf] at this;cases this
theorem Zxi {l:List Zf} (hc:Zey l=true) {n:Nat} (hn:l.length<=n):∀{o at_:List Int},Zy6 l n at_ o->∃a,Zgb l n o at_=some a
 | [],at_,_=>⟨at_,rfl⟩
 | i :: o,at_,h=>by
  obtain⟨hi,hm⟩:=h.left i (by simp)
  obtain⟨c,c1,c2⟩:=Zy4 (n:=n) (by rw[h.len];exact hn) (List.mem_of_getElem? hm)
  have hs:=List.getElem?_eq_getElem hi.2
  have hf:Zi6 l at_ i.toNat c=true:=by
   unfold Zi6
   rw[Zvl (c:Int) l at_ i.toNat c2 h.len,hs]
   have hmem:=List.getElem_mem hi.2
   exact ZCs ((Zi2 hc).2 _ hmem) (ZyS hc (List.singleton_sublist.2 hmem))
  obtain⟨b,hb⟩:=ZuH c1 hf
  unfold Zgb
  rw[hb]
  exact Zxi hc hn (Zwe h hb)
theorem Zte:((0:Int) != 0)=false:=rfl
theorem ZCR {n:Int} (h:n≠0):(n != 0)=true:=bne_iff_ne.2 h
def ZbL {α:Type} (f:α->Int):List α->Int
 | []=>0
 | x :: l=>bif f x==0 then ZbL f l else f x
theorem Zib {α:Type}{f:α->Int}:∀{l:List α},ZbL f l=0↔∀x∈l,f x=0
 | []=>by simp[ZbL]
 | x :: l=>by
  unfold ZbL
  by_cases h:f x=0
  ·rw[show(f x==0)=true from beq_iff_eq.2 h,cond_true,Zib]
   simp[h]
  ·rw[show(f x==0)=false from beq_eq_false_iff_ne.2 h,cond_false]
   simp[h]
noncomputable def ZhT (d:Zp):Zf×Int:=match Ze0 d with | some x=>x | none=>(⟨0,0,0,0,0⟩,1)
theorem ZEL {d:Zp} (hz:Ziw d):Ze0 d=some (ZhT d):=by
 unfold ZhT
 rcases ZDG hz with⟨s,h,_⟩ | ⟨_,_,_,F,M,r,_,h⟩<;>rw[h]
noncomputable def shL (l:List Zp):List Zf:=l.map fun d=>(ZhT d).1
noncomputable def shE (l:List Zp):Int:=bif ZbL (fun d=>(ZhT d).2) l==0 then ZbL (fun s=>(ZcM s).2) (shL l) else ZbL (fun d=>(ZhT d).2) l
theorem Zma {α:Type}{f:α->Int}:∀{l:List α}{x:α},ZbL f l=0->ZbL f (l++[x])=f x
 | [],x,_=>by
  show(bif f x==0 then 0 else f x)=f x
  by_cases h:f x=0
  ·rw[h];rfl
  ·rw[show(f x==0)=false from beq_eq_false_iff_ne.2 h];rfl
 | y :: l,x,h=>by
  unfold ZbL at h
  show(bif f y==0 then ZbL f (l++[x]) else f y)=f x
  by_cases hy:f y=0
  ·rw[show(f y==0)=true from beq_iff_eq.2 hy,cond_true] at h ⊢
   exact Zma h
  ·rw[show(f y==0)=false from beq_eq_false_iff_ne.2 hy] at h
   exact absurd h hy
theorem Znq {α:Type}{f:α->Int}:∀{l m:List α},ZbL f l≠0->ZbL f (l++m)=ZbL f l
 | [],m,h=>absurd rfl h
 | y :: l,m,h=>by
  show(bif f y==0 then ZbL f (l++m) else f y)=(bif f y==0 then ZbL f l else f y)
  unfold ZbL at h
  by_cases hy:f y=0
  ·rw[show(f y==0)=true from beq_iff_eq.2 hy,cond_true] at h ⊢
   rw[cond_true,Znq h]
  ·rw[show(f y==0)=false from beq_eq_false_iff_ne.2 hy];rfl
theorem ZAZ {l:List Zp} (hl:l.length<=1000) (hz:∀d∈l,Ziw d):Zhl l=some (bif shE l==0 then shL l else [],shE l):=by
 have l0:∀(k i:Nat) ,i+k=l.length->ZbL (fun d=>(ZhT d).2) (l.take i)=0 ->
   (ZbL (fun d=>(ZhT d).2) l=0/\lp (Zb7 l) ((i:Int),shL (l.take i))=some (.inr (shL l)))∨(ZbL (fun d=>(ZhT d).2) l≠0/\∃x,lp (Zb7 l) ((i:Int),shL (l.take i))=some (.inl (ZbL (fun d=>(ZhT d).2) l,x))):=by
  intro k
  induction k with
  | zero=>
   intro i hi h
   have hi:i=l.length:=by omega
   subst hi
   rw[List.take_length] at h ⊢
   refine .inl ⟨h,?_⟩
   rw[Zal]
   simp only[Zb7,Ze7,cond_false]
  | succ k ih=>
   intro i hi h
   have hil:i<l.length:=by omega
   have hx:=List.getElem?_eq_getElem hil
   have hm:=List.getElem_mem hil
   have hdec:l=l.take (i+1)++l.drop (i+1):=(List.take_append_drop _ _).symm
   have ht:l.take (i+1)=l.take i++[l[i]]:=by rw[List.take_add_one,hx];rfl
   generalize l[i]=d at hx hm ht
   have hf:=Zma (f:=fun d=>(ZhT d).2) (x:=d) h
   rw[<- ht] at hf
   have hlen:(shL (l.take i)).length<=i:=by unfold shL;rw[List.length_map,List.length_take];omega
   rw[Zal]
   simp only[Zb7,Zc9 hil,cond_true,Zaa hx,Option.bind_some,ZEL (hz d hm),ZT hil (show l.length<9223372036854775808 by omega),Zh7 (show(shL (l.take i)).length+1<=1073741824 by omega)]
   by_cases he:(ZhT d).2=0
   ·rw[he,Zte,cond_false]
    have:=ih (i+1) (by omega) (by rw[hf];exact he)
    rw[ht] at this
    unfold shL at this ⊢
    rw[List.map_append] at this
    exact this
   ·rw[ZCR he,cond_true]
    have hall:ZbL (fun d=>(ZhT d).2) l=(ZhT d).2:=by
     rw[hdec,Znq (by rw[hf];exact he),hf]
    exact .inr ⟨by rw[hall];exact he,_,by rw[hall]⟩
 have l1:∀(m:List Zf),m.length<=1000->(ZbL (fun s=>(ZcM s).2) m=0/\lp (Zb8 m) 0=some (.inr ()))∨(ZbL (fun s=>(ZcM s).2) m≠0/\lp (Zb8 m) 0=some (.inl (ZbL (fun s=>(ZcM s).2) m))):=by
  intro m hm
  have key:∀(k i:Nat),i+k=m.length->ZbL (fun s=>(ZcM s).2) (m.take i)=0->(ZbL (fun s=>(ZcM s).2) m=0/\lp (Zb8 m) (i:Int)=some (.inr ()))∨(ZbL (fun s=>(ZcM s).2) m≠0/\lp (Zb8 m) (i:Int)=some (.inl (ZbL (fun s=>(ZcM s).2) m))):=by
   intro k
   induction k with
   | zero=>
    intro i hi h
    have hi:i=m.length:=by omega
    subst hi
    rw[List.take_length] at h
    refine .inl ⟨h,?_⟩
    rw[Zal]
    simp only[Zb8,Ze7,cond_false]
   | succ k ih=>
    intro i hi h
    have hil:i<m.length:=by omega
    have hx:=List.getElem?_eq_getElem hil
    have hdec:m=m.take (i+1)++m.drop (i+1):=(List.take_append_drop _ _).symm
    have ht:m.take (i+1)=m.take i++[m[i]]:=by rw[List.take_add_one,hx];rfl
    generalize m[i]=s at hx ht
    have hf:=Zma (f:=fun s=>(ZcM s).2) (x:=s) h
    rw[<- ht] at hf
    rw[Zal]
    simp only[Zb8,Zc9 hil,cond_true,Zaa hx,Option.bind_some,Zx3,ZT hil (show m.length<9223372036854775808 by omega)]
    by_cases he:(ZcM s).2=0
    ·rw[he,Zte,cond_false]
     exact ih (i+1) (by omega) (by rw[hf];exact he)
    ·rw[ZCR he,cond_true]
     have hall:ZbL (fun s=>(ZcM s).2) m=(ZcM s).2:=by
      rw[hdec,Znq (by rw[hf];exact he),hf]
     exact .inr ⟨by rw[hall];exact he,by rw[hall]⟩
  exact key m.length 0 (by omega) rfl
 unfold Zhl shE
 rcases l0 l.length 0 (by omega) rfl with⟨h1,h2⟩ | ⟨h1,x,h2⟩
 ·rw[show(lp (Zb7 l) (0,([]:List Zf)))=_ from h2,Option.bind_some]
  dsimp only
  rw[h1,show((0:Int)==0)=true from rfl,cond_true]
  rcases l1 (shL l) (by unfold shL;rw[List.length_map];exact hl) with⟨h3,h4⟩ | ⟨h3,h4⟩
  ·rw[h4,h3];rfl
  ·rw[h4,show(ZbL (fun s=>(ZcM s).2) (shL l)==0)=false from beq_eq_false_iff_ne.2 h3];rfl
 ·rw[show(lp (Zb7 l) (0,([]:List Zf)))=_ from h2,Option.bind_some]
  dsimp only
  rw[show(ZbL (fun d=>(ZhT d).2) l==0)=false from beq_eq_false_iff_ne.2 h1,cond_false,show(ZbL (fun d=>(ZhT d).2) l==0)=false from beq_eq_false_iff_ne.2 h1]
  rfl
def hv (s:Zf):Bool:=decide (s.deadline<s.total)
noncomputable def cN (s:Zf):Nat:=(ZcM s).1.toNat
theorem ZrK {s:Zf} (h:(ZcM s).2=0):Zhk s=true/\1<=(ZcM s).1/\(ZcM s).1<=8/\(hv s=false->(ZcM s).1=1):=by
 unfold ZcM at h ⊢
 unfold hv
 cases ho:Zhk s with
 | false=>rw[ho] at h;exact absurd (show(140:Int)=0 from h) (by decide)
 | true=>
  rw[ho] at h
  simp only[cond_true] at h ⊢
  have o:=Zox ho
  have o2:=o.d1;have o4:=o.t1;have o6:=o.l1;have o7:=o.l2
  by_cases q1:s.deadline<s.total
  ·rw[decide_eq_true q1] at h ⊢
   simp only[cond_true] at h ⊢
   by_cases q2:s.deadline<=s.long
   ·rw[decide_eq_true q2] at h;exact absurd (show(141:Int)=0 from h) (by decide)
   ·rw[decide_eq_false q2] at h ⊢
    simp only[cond_false] at h ⊢
    by_cases q3:8<upN s
    ·rw[decide_eq_true q3] at h;exact absurd (show(142:Int)=0 from h) (by decide)
    ·rw[decide_eq_false q3]
     simp only[cond_false]
     have h1:1<=upN s:=by
      apply Classical.byContradiction
      intro hn
      have h0:upN s<=0:=by omega
      have:=(ZEn (show s.long<s.deadline by omega) 0).1 h0
      omega
     exact⟨trivial,h1,by omega,fun e=>by cases e⟩
  ·rw[decide_eq_false q1]
   simp only[cond_false]
   exact⟨trivial,by omega,by omega,fun _=>trivial⟩
def Zof (l:List Zf):Prop:=∀s∈l,(ZcM s).2=0
theorem Zof.heavy {l:List Zf} (h:Zof l) {s:Zf} (hs:s∈l):ZdF s=some (hv s):=Zyf s (ZrK (h s hs)).1
noncomputable def ZaA (l:List Zf):Nat:=((l.filter hv).map cN).sum
def Zbj (l:List Zf):List Zf:=l.filter fun s=>!hv s
def Zfl:Nat->Nat->List Int
 | _,0=>[]
 | k,n+1=>(k:Int) :: Zfl (k+1) n
theorem Zkx:∀(n k:Nat),(Zfl k n).length=n
 | 0,_=>rfl
 | n+1,k=>by unfold Zfl;rw[List.length_cons,Zkx n]
theorem ZoY:∀(n k m:Nat),Zfl k (n+m)=Zfl k n++Zfl (k+n) m
 | 0,k,m=>by simp[Zfl]
 | n+1,k,m=>by
  rw[show n+1+m=(n+m)+1 by omega]
  show(k:Int) :: Zfl (k+1) (n+m)=(k:Int) :: Zfl (k+1) n++Zfl (k+(n+1)) m
  rw[ZoY n (k+1) m,show k+1+n=k+(n+1) by omega,List.cons_append]
theorem Zzl {k n b:Nat} (h:n<=b):(Zfl k b).take n=Zfl k n/\(Zfl k b).drop n=Zfl (k+n) (b-n):=by
 have e:=ZoY n k (b-n)
 rw[show n+(b-n)=b by omega] at e
 have hl:=Zkx n k
 rw[e]
 constructor
 ·rw[List.take_append_of_le_length (by omega),List.take_of_length_le (by omega)]
 ·rw[List.drop_append_of_le_length (by omega),List.drop_of_length_le (by omega)]
  rfl
theorem ZvX (n:Int):Zde n=Zfl 0 n.toNat:=by
 unfold Zde
 generalize n.toNat=m
 induction m with
 | zero=>rfl
 | succ m ih=>
  rw[List.range_succ,List.map_append,ih,ZoY m 0 1]
  simp[Zfl]
noncomputable def Zdp:Nat->List Zf->List (List Int)
 | _,[]=>[]
 | k,s :: l=>bif hv s then Zfl k (cN s) :: Zdp (k+cN s) l else [] :: Zdp k l
theorem Zpo:∀(l:List Zf) (k:Nat),(Zdp k l).length=l.length
 | [],_=>rfl
 | s :: l,k=>by unfold Zdp;cases hv s<;>simp[Zpo l]
theorem Zld (s:Zf) (l:List Zf):ZaA (s :: l)=(bif hv s then cN s else 0)+ZaA l:=by
 unfold ZaA
 rw[List.filter_cons]
 cases hv s<;>simp
theorem ZkF (p q:List Zf):ZaA (p++q)=ZaA p+ZaA q:=by
 unfold ZaA
 rw[List.filter_append,List.map_append,List.sum_append]
theorem Zq0 (k:Nat) (s:Zf) (l:List Zf):Zdp k (s :: l)=bif hv s then Zfl k (cN s) :: Zdp (k+cN s) l else [] :: Zdp k l:=rfl
theorem Zpp:∀(p:List Zf) (k:Nat) (q:List Zf),Zdp k (p++q)=Zdp k p++Zdp (k+ZaA p) q
 | [],k,q=>by simp[Zdp,ZaA]
 | s :: p,k,q=>by
  rw[List.cons_append]
  rw[Zq0,Zq0,Zld]
  cases hv s with
  | true=>
   simp only[cond_true,List.cons_append]
   rw[Zpp p,Nat.add_assoc]
  | false=>
   simp only[cond_false,List.cons_append,Nat.zero_add]
   rw[Zpp p]
def Zro (first:Int):List Zf->List (List Int)->List Int->List (List Int)
 | s :: l,r :: rs,at_=>bif hv s then r :: Zro first l rs at_ else (match at_ with | a :: ar=>[first+a] :: Zro first l rs ar | []=>r :: Zro first l rs [])
 | _,rs,_=>rs
theorem Zxp {f:Int}{z:Zf}{l:List Zf}{r:List Int}{rs:List (List Int)}{a:Int}{ar:List Int} (h:hv z=false):Zro f (z :: l) (r :: rs) (a :: ar)=[f+a] :: Zro f l rs ar:=by
 show(bif hv z then _ else _)=_
 rw[h];rfl
theorem ZCC {s:List Zf} (hs:s.length<=8) (ok:Zof s) {x:List Zf×Int} (hx:x.1=s) {b:Nat} (hb:b<=8) :
  (ZaA s<=b/\lp (Zcp x) (0,Zfl 0 b,([]:List Zf),List.replicate s.length ([]:List Int))=some (.inr (Zfl (ZaA s) (b-ZaA s),Zbj s,Zdp 0 s))) ∨
  (b<ZaA s/\∃y,lp (Zcp x) (0,Zfl 0 b,([]:List Zf),List.replicate s.length ([]:List Int))=some (.inl y)):=by
 have key:∀(k i:Nat),i+k=s.length->ZaA (s.take i)<=b ->
   (ZaA s<=b/\lp (Zcp x) ((i:Int),Zfl (ZaA (s.take i)) (b-ZaA (s.take i)),Zbj (s.take i),Zdp 0 (s.take i)++List.replicate (s.length-i) ([]:List Int))=some (.inr (Zfl (ZaA s) (b-ZaA s),Zbj s,Zdp 0 s))) ∨
   (b<ZaA s/\∃y,lp (Zcp x) ((i:Int),Zfl (ZaA (s.take i)) (b-ZaA (s.take i)),Zbj (s.take i),Zdp 0 (s.take i)++List.replicate (s.length-i) ([]:List Int))=some (.inl y)):=by
  intro k
  induction k with
  | zero=>
   intro i hi hu
   have hi:i=s.length:=by omega
   subst hi
   rw[List.take_length] at hu ⊢
   refine .inl ⟨hu,?_⟩
   rw[Zal]
   simp only[Zcp,hx,Ze7,cond_false,Nat.sub_self,List.replicate_zero,List.append_nil]
  | succ k ih=>
   intro i hi hu
   have hil:i<s.length:=by omega
   have hx':=List.getElem?_eq_getElem hil
   have hm:=List.getElem_mem hil
   have ht:s.take (i+1)=s.take i++[s[i]]:=by rw[List.take_add_one,hx'];rfl
   have hdec:s=s.take (i+1)++s.drop (i+1):=(List.take_append_drop _ _).symm
   generalize s[i]=z at hx' hm ht
   obtain⟨c0,c1,c8,c2⟩:=ZrK (ok z hm)
   have hlen:(s.take i).length=i:=by rw[List.length_take];omega
   have hrl:(Zdp 0 (s.take i)).length=i:=by rw[Zpo,hlen]
   have hrep:List.replicate (s.length-i) ([]:List Int)=[] :: List.replicate (s.length-(i+1)) []:=by
    rw[show s.length-i=(s.length-(i+1))+1 by omega];rfl
   have hget:(Zdp 0 (s.take i)++List.replicate (s.length-i) ([]:List Int))[i]? = some []:=by
    rw[List.getElem?_append_right (by omega),hrl,Nat.sub_self,hrep];rfl
   have hset:∀r:List Int,(Zdp 0 (s.take i)++List.replicate (s.length-i) ([]:List Int)).set i r=(Zdp 0 (s.take i)++[r])++List.replicate (s.length-(i+1)) []:=fun r=>by
    rw[List.set_append_right _ _ (by omega),hrl,Nat.sub_self,hrep,List.set_cons_zero,List.append_assoc]
    rfl
   have hrow:=Zpp (s.take i) 0 [z]
   have husd:=ZkF (s.take i) [z]
   have hlg:Zbj (s.take (i+1))=Zbj (s.take i)++(bif hv z then [] else [z]):=by
    unfold Zbj
    rw[ht,List.filter_append]
    cases hz:hv z<;>simp[hz]
   have hll:(Zbj (s.take i)).length<=8:=Nat.le_trans (List.length_filter_le _ _) (by omega)
   rw[<- ht] at hrow husd
   rw[Nat.zero_add] at hrow
   have hus:ZaA s=ZaA (s.take (i+1))+ZaA (s.drop (i+1)):=by rw[<- ZkF,<- hdec]
   have hnx:=ih (i+1) (by omega)
   rw[Zal]
   simp only[Zcp,hx,Zc9 hil,cond_true,Zaa hx',Option.bind_some,ok.heavy hm,ZT hil (show s.length<9223372036854775808 by omega)]
   cases hz:hv z with
   | true=>
    have e1:ZaA [z]=cN z:=by rw[Zld,hz];simp[ZaA]
    have e2:Zdp (ZaA (s.take i)) [z]=[Zfl (ZaA (s.take i)) (cN z)]:=by unfold Zdp;rw[hz];rfl
    have hcn:((ZcM z).1:Int).toNat=cN z:=rfl
    rw[e1] at husd
    rw[e2] at hrow
    simp only[cond_true,Zx3,Option.bind_some,Zlt,decide_eq_true (show(0:Int)<=(ZcM z).1 by omega),decide_eq_true (show(ZcM z).1<=1000 by omega),Bool.and_self,hcn,Zkx]
    by_cases hle:cN z<=b-ZaA (s.take i)
    ·obtain⟨q1,q2⟩:=Zzl (k:=ZaA (s.take i)) hle
     rw[Nat.ble_eq_true_of_le hle]
     simp only[cond_true,Option.bind_some,Zaa hget,q1,q2,Int.toNat_natCast,hset]
     rw[hlg,hz,hrow,husd,show b-(ZaA (s.take i)+cN z)=b-ZaA (s.take i)-cN z by omega] at hnx
     simp only[cond_true,List.append_nil] at hnx
     exact hnx (by omega)
    ·have hb:Nat.ble (cN z) (b-ZaA (s.take i))=false:=by
      cases hq:Nat.ble (cN z) (b-ZaA (s.take i)) with
      | false=>rfl
      | true=>exact absurd (Nat.le_of_ble_eq_true hq) hle
     rw[hb]
     exact .inr ⟨by omega,_,rfl⟩
   | false=>
    have e1:ZaA [z]=0:=by rw[Zld,hz];simp[ZaA]
    have e2:Zdp (ZaA (s.take i)) [z]=[[]]:=by unfold Zdp;rw[hz];rfl
    rw[e1,Nat.add_zero] at husd
    rw[e2] at hrow
    simp only[cond_false,Zh7 (show(Zbj (s.take i)).length+1<=1073741824 by omega),cond_true]
    rw[hlg,hz,hrow,husd] at hnx
    simp only[cond_false] at hnx
    rw[hrep,show Zdp 0 (s.take i)++[] :: List.replicate (s.length-(i+1)) ([]:List Int)=(Zdp 0 (s.take i)++[[]])++List.replicate (s.length-(i+1)) [] by rw[List.append_assoc];rfl]
    exact hnx hu
 have:=key s.length 0 (by omega) (by simp[ZaA])
 simpa [ZaA,Zbj,Zdp] using this
theorem Zy5 {s:List Zf} (hs:s.length<=8) (ok:Zof s) {x:List Zf×Int} (hx:x.1=s) {b used:Nat} (hub:used<=b) (hb:b<=8) {r8:List Int×List Zf×List (List Int)} (hr:r8.1.length=b-used) :
  ∀(t:List Zf) (rest done:List (List Int)) (at_:List Int),s.drop done.length=t->done.length+t.length=s.length->rest.length=t.length->at_.length=(Zbj t).length->(∀a∈at_, -1<=a/\a<=8) ->
   lp (ZdM (b:Int) x r8) (at_,(done.length:Int),done++rest)=some (done++Zro (used:Int) t rest at_):=by
 intro t
 induction t with
 | nil=>
  intro rest done at_ hd hl hrl hal ha
  have hr0:rest=[]:=List.eq_nil_of_length_eq_zero hrl
  subst hr0
  have hdl:done.length=s.length:=by simpa using hl
  rw[Zal]
  simp only[ZdM,hx,hdl,Ze7,cond_false,Zro]
 | cons z t ih=>
  intro rest done at_ hd hl hrl hal ha
  rw[List.length_cons] at hl
  have hil:done.length<s.length:=by omega
  have hz':s[done.length]? = some z:=by
   have:=List.getElem?_drop (xs:=s) (i:=done.length) (j:=0)
   rw[hd] at this
   simpa using this.symm
  have hm:=List.mem_of_getElem? hz'
  have hd':s.drop (done.length+1)=t:=by
   rw[<- List.drop_drop,hd];rfl
  cases rest with
  | nil=>cases hrl
  | cons r rest=>
  have hget:(done++r :: rest)[done.length]? = some r:=by rw[List.getElem?_append_right (Nat.le_refl _),Nat.sub_self];rfl
  rw[Zal]
  simp only[ZdM,hx,Zc9 hil,cond_true,Zaa hz',Option.bind_some,ok.heavy hm,ZT hil (show s.length<9223372036854775808 by omega)]
  have hll:Zbj (z :: t)=bif hv z then Zbj t else z :: Zbj t:=by
   unfold Zbj
   rw[List.filter_cons]
   cases hv z<;>rfl
  cases hz:hv z with
  | true=>
   rw[hz,cond_true] at hll
   rw[cond_true]
   have:=ih rest (done++[r]) at_ (by rw[List.length_append,List.length_singleton];exact hd') (by rw[List.length_append,List.length_singleton];omega) (by simpa using hrl) (by rw[hal,hll]) ha
   rw[List.length_append,List.length_singleton,List.append_assoc,List.append_assoc] at this
   unfold Zro
   rw[hz]
   exact this
  | false=>
   rw[hz,cond_false] at hll
   rw[cond_false]
   cases at_ with
   | nil=>rw[hll] at hal;cases hal
   | cons a ar=>
    have ha0:=ha a (by simp)
    have hw0:w64 ((b:Int)-(r8.1.length:Int))=(used:Int):=by
     rw[hr,ZaK (by omega) (by omega)];omega
    have hw:w64 (w64 ((b:Int)-(r8.1.length:Int))+a)=(used:Int)+a:=by
     rw[hw0,ZaK (by omega) (by omega)]
    have g0:ZE (a :: ar) 0=some a:=rfl
    have hb1:Nat.ble 1 (a :: ar).length=true:=Nat.ble_eq_true_of_le (by simp)
    simp only[g0,Option.bind_some,hb1,cond_true,Zaa hget,hw,Int.toNat_natCast]
    have hset:(done++r :: rest).set done.length [(used:Int)+a]=(done++[[(used:Int)+a]])++rest:=by
     rw[List.set_append_right _ _ (Nat.le_refl _),Nat.sub_self,List.set_cons_zero,List.append_assoc];rfl
    rw[hset]
    have:=ih rest (done++[[(used:Int)+a]]) ar (by rw[List.length_append,List.length_singleton];exact hd') (by rw[List.length_append,List.length_singleton];omega) (by simpa using hrl) (by rw[hll] at hal;simpa using hal) (fun y hy=>ha y (by simp[hy]))
    rw[List.length_append,List.length_singleton,List.append_assoc] at this
    rw[Zxp hz,List.append_assoc]
    rw[List.append_assoc] at this
    exact this
noncomputable def ZDs (l:List Zf):List Int:=match ZfS l with | some o=>o | none=>[]
theorem Zwu {l:List Zf} (hl:l.length<=1000):ZfS l=some (ZDs l)/\Zhy l (ZDs l):=by
 obtain⟨o,h1,h2⟩:=ZzE l hl
 unfold ZDs
 rw[h1]
 exact⟨rfl,h2⟩
noncomputable def ZlM (l:List Zf) (n:Nat):Option (List Int):=Zgb l n (ZDs l) (List.replicate l.length (-1))
theorem ZlU {s:List Zf} (hs:s.length<=8) (ok:Zof s):Zey (Zbj s)=true:=by
 have h8:(Zbj s).length<=8:=Nat.le_trans (List.length_filter_le _ _) hs
 unfold Zey
 rw[decide_eq_false (by omega)]
 rw[show((Zbj s).any fun s=>!(okS s))=false from List.any_eq_false.2 fun z hz=>by
  obtain⟨h1,h2⟩:=List.mem_filter.1 hz
  have h3:=(ZrK (ok z h1)).1
  unfold hv at h2
  unfold okS
  rw[h3,Bool.true_and]
  simpa using h2]
 rfl
theorem ZtQ {s:List Zf} (hs:s.length<=8) (ok:Zof s) {n:Nat} (hn:n<=8):Zhr (Zbj s) (n:Int)=some (match ZlM (Zbj s) n with | some a=>(a,0) | none=>([],161)):=by
 have hl:(Zbj s).length<=1000:=Nat.le_trans (List.length_filter_le _ _) (by omega)
 obtain⟨h1,h2⟩:=Zwu hl
 rw[ZDI (Zbj s) hl h1 h2 (n:Int),ZlU hs ok]
 have h8:Zjr (n:Int)=true:=by unfold Zjr;rw[decide_eq_true (by omega),decide_eq_true (by omega)];rfl
 rw[h8,Int.toNat_natCast]
 rfl
def ZAg:ZhE:=⟨[],[]⟩
noncomputable def Zhn (s:List Zf) (b:Nat):Option ZhE:=bif Nat.ble (ZaA s) b then (match ZlM (Zbj s) (b-ZaA s) with | some a=>some ⟨s,Zro (ZaA s:Int) s (Zdp 0 s) a⟩ | none=>none) else none
noncomputable def Zmc (l:List Zp) (b:Int):ZhE×Int:=
 bif decide (8<(l.length:Int)) || (decide (b<1) || decide (8<b)) then (ZAg,170)
 else bif shE l==0 then (match Zhn (shL l) b.toNat with | some p=>(p,0) | none=>(ZAg,171)) else (ZAg,shE l)
theorem ZwO {l:List Zp} (h:shE l=0):Zof (shL l):=by
 unfold shE at h
 cases h1:ZbL (fun d=>(ZhT d).2) l==0 with
 | true=>rw[h1,cond_true] at h;exact Zib.1 h
 | false=>rw[h1,cond_false] at h;rw[h] at h1;cases h1
theorem ZyH {l:List Zf}{n:Nat}{a:List Int} (hl:l.length<=1000) (hc:Zey l=true) (hn:n<=8) (h:ZlM l n=some a):ZzO l a (n:Int)/\a.length=l.length:=by
 obtain⟨h1,h2⟩:=Zwu hl
 have h8:Zjr (n:Int)=true:=by unfold Zjr;rw[decide_eq_true (by omega),decide_eq_true (by omega)];rfl
 have r:=Zu3 (c:=(n:Int)) h8 h2 (by rw[Int.toNat_natCast];exact h)
 refine⟨r,?_⟩
 have:=Zr4 h
 rw[this,List.length_replicate]
theorem Zuu {l:List Zp} (hl:l.length<=1000) (hz:∀d∈l,Ziw d) (b:Int):Zf8 l b=some (Zmc l b):=by
 unfold Zf8 Zmc
 by_cases h8:8<(l.length:Int)
 ·rw[decide_eq_true h8];rfl
 rw[decide_eq_false h8,cond_false,Bool.false_or]
 by_cases b1:b<1
 ·rw[decide_eq_true b1];rfl
 rw[decide_eq_false b1,cond_false,Bool.false_or]
 by_cases b8:8<b
 ·rw[decide_eq_true b8];rfl
 rw[decide_eq_false b8,cond_false,cond_false,ZAZ hl hz,Option.bind_some]
 dsimp only
 by_cases he:shE l=0
 ·have ok:=ZwO he
  have hsl:(shL l).length<=8:=by unfold shL;rw[List.length_map];omega
  rw[he,show((0:Int)==0)=true from rfl,cond_true,Zte,cond_false]
  have hbn:((b.toNat:Nat):Int)=b:=Int.toNat_of_nonneg (by omega)
  have hlim:(decide (0<=((shL l).length:Int))&&decide (((shL l).length:Int)<=lim)&&decide (((shL l).length:Int)==((shL l).length:Int)))=true:=by
   rw[decide_eq_true (by omega),beq_self_eq_true]
   have:((shL l).length:Int)<=lim:=by show((shL l).length:Int)<=1073741824;omega
   rw[decide_eq_true this];rfl
  rw[hlim,cond_true]
  have hfree:ZiI b=some ():=by unfold ZiI;rw[decide_eq_true (by omega),decide_eq_true (by omega)];rfl
  rw[hfree,Option.bind_some,ZvX,Int.toNat_natCast,cond_true]
  unfold Zhn
  rcases ZCC (x:=(shL l,0)) hsl ok rfl (b:=b.toNat) (by omega) with⟨q1,q2⟩ | ⟨q1,y,q2⟩
  ·rw[q2,Option.bind_some,Nat.ble_eq_true_of_le q1,cond_true]
   dsimp only
   rw[Zkx,ZtQ hsl ok (by omega),Option.bind_some]
   cases hp:ZlM (Zbj (shL l)) (b.toNat-ZaA (shL l)) with
   | none=>rfl
   | some a=>
    dsimp only
    rw[Zte,cond_false]
    have hll:(Zbj (shL l)).length<=8:=Nat.le_trans (List.length_filter_le _ _) hsl
    obtain⟨R,hal⟩:=ZyH (show(Zbj (shL l)).length<=1000 by omega) (ZlU hsl ok) (by omega) hp
    have:=Zy5 (x:=(shL l,0)) hsl ok rfl q1 (show b.toNat<=8 by omega) (r8:=(Zfl (ZaA (shL l)) (b.toNat-ZaA (shL l)),Zbj (shL l),Zdp 0 (shL l))) (Zkx _ _) (shL l) (Zdp 0 (shL l)) [] a rfl (by simp) (Zpo _ _) hal (fun z hz=>by
     have:=R.ok z hz
     omega)
    rw[hbn] at this
    rw[show(lp (ZdM b (shL l,0) (Zfl (ZaA (shL l)) (b.toNat-ZaA (shL l)),Zbj (shL l),Zdp 0 (shL l))) (a,0,Zdp 0 (shL l)))=_ from this]
    rfl
  ·rw[q2]
   have:Nat.ble (ZaA (shL l)) b.toNat=false:=by
    cases hq:Nat.ble (ZaA (shL l)) b.toNat with
    | false=>rfl
    | true=>have:=Nat.le_of_ble_eq_true hq;omega
   rw[this];rfl
 ·rw[show(shE l==0)=false from beq_eq_false_iff_ne.2 he,ZCR he];rfl
theorem ZF1 (l:List Zp):∃b,ZjQ l=some b/\(b=true->l.length<=12/\∀d∈l,Ziw d):=by
 have key:∀(k i:Nat),i+k=l.length->(∀d∈l.take i,few d=true) ->
   (∃r,lp (ZcD l) (i:Int)=some (.inl r))∨(∃r,lp (ZcD l) (i:Int)=some (.inr r)/\(l.length<=12->∀d∈l,few d=true)):=by
  intro k
  induction k with
  | zero=>
   intro i hi h
   have hi:i=l.length:=by omega
   subst hi
   rw[List.take_length] at h
   rw[Zal]
   simp only[ZcD,Ze7,cond_false]
   exact .inr ⟨(),trivial,fun _=>h⟩
  | succ k ih=>
   intro i hi h
   have hil:i<l.length:=by omega
   have hx:=List.getElem?_eq_getElem hil
   have ht:l.take (i+1)=l.take i++[l[i]]:=by rw[List.take_add_one,hx];rfl
   generalize l[i]=d at hx ht
   rw[Zal]
   by_cases h13:(i:Int)<13
   ·have hw:w64 ((i:Int)+1)=((i+1:Nat):Int):=by rw[ZaK (by omega) (by omega)];omega
    simp only[ZcD,Zc9 hil,cond_true,decide_eq_true h13,Zaa hx,Option.bind_some,ZFM,hw]
    cases hf:few d with
    | false=>exact .inl ⟨_,rfl⟩
    | true=>
     exact ih (i+1) (by omega) (fun e he=>by
      rw[ht] at he
      rcases List.mem_append.1 he with he | he
      ·exact h e he
      ·rw[List.mem_singleton.1 he];exact hf)
   ·simp only[ZcD,Zc9 hil,cond_true,decide_eq_false h13,cond_false]
    exact .inr ⟨(),trivial,fun h12=>by omega⟩
 unfold ZjQ
 rcases key l.length 0 (by omega) (fun d hd=>by simp at hd) with⟨r,h⟩ | ⟨r,h,h2⟩
 ·rw[show lp (ZcD l) 0=_ from h]
  exact⟨false,rfl,fun e=>by cases e⟩
 ·rw[show lp (ZcD l) 0=_ from h]
  by_cases h12:(l.length:Int)<=12
  ·exact⟨true,by simp only[Option.bind_some,decide_eq_true h12];rfl,fun _=>⟨by omega,fun d hd=>ZyK (h2 (by omega) d hd)⟩⟩
  ·exact⟨false,by simp only[Option.bind_some,decide_eq_false h12];rfl,fun e=>by cases e⟩
theorem ZzS {l:List Zp} (hl:l.length<=1000) (hz:∀d∈l,Ziw d):Zhf l=some l:=by
 have key:∀(k i:Nat),i+k=l.length->lp (Zft l) ((i:Int),l.take i)=some l:=by
  intro k
  induction k with
  | zero=>
   intro i hi
   have hi:i=l.length:=by omega
   subst hi
   rw[List.take_length,Zal]
   simp only[Zft,Ze7,cond_false]
  | succ k ih=>
   intro i hi
   have hil:i<l.length:=by omega
   have hx:=List.getElem?_eq_getElem hil
   have hm:=List.getElem_mem hil
   have ht:l.take (i+1)=l.take i++[l[i]]:=by rw[List.take_add_one,hx];rfl
   generalize l[i]=d at hx ht hm
   have hlen:(l.take i).length<=1000:=by rw[List.length_take];omega
   rw[Zal]
   simp only[Zft,Zc9 hil,cond_true,Zaa hx,Option.bind_some,ZHl d (hz d hm),Zh7 (show(l.take i).length+1<=1073741824 by omega),ZT hil (show l.length<9223372036854775808 by omega)]
   have:=ih (i+1) (by omega)
   rw[ht] at this
   exact this
 have:=key l.length 0 (by omega)
 unfold Zhf
 rw[show lp (Zft l) (0,([]:List Zp))=_ from this]
 rfl
theorem ZlV {s:List Zf}{b:Nat}{p:ZhE} (h:Zhn s b=some p):ZaA s<=b/\∃a,ZlM (Zbj s) (b-ZaA s)=some a/\p=⟨s,Zro (ZaA s:Int) s (Zdp 0 s) a⟩:=by
 unfold Zhn at h
 cases hu:Nat.ble (ZaA s) b with
 | false=>rw[hu] at h;cases h
 | true=>
  rw[hu,cond_true] at h
  cases hp:ZlM (Zbj s) (b-ZaA s) with
  | none=>rw[hp] at h;cases h
  | some a=>rw[hp] at h;cases h;exact⟨Nat.le_of_ble_eq_true hu,a,rfl,rfl⟩
theorem Zo4 {s:List Zf}{b:Nat} (h1:ZaA s<=b) {a:List Int} (h2:ZlM (Zbj s) (b-ZaA s)=some a):Zhn s b=some ⟨s,Zro (ZaA s:Int) s (Zdp 0 s) a⟩:=by
 unfold Zhn
 rw[Nat.ble_eq_true_of_le h1,cond_true,h2]
theorem ZAX {l:List Zp}{d:Zp} (hd:d∈l) (h:(ZhT d).2≠0):shE l≠0:=by
 have hf:ZbL (fun d=>(ZhT d).2) l≠0:=fun e=>h (Zib.1 e d hd)
 unfold shE
 rw[beq_eq_false_iff_ne.2 hf]
 exact hf
theorem Zwi {l:List Zp} (h:∀d∈l,(ZhT d).2=0/\(ZcM (ZhT d).1).2=0):shE l=0:=by
 unfold shE
 rw[Zib.2 fun d hd=>(h d hd).1]
 exact Zib.2 fun s hs=>by
  obtain⟨d,hd,rfl⟩:=List.mem_map.1 hs
  exact(h d hd).2
theorem ZCF {l:List Zp} (h:shE l=0):∀d∈l,(ZhT d).2=0/\(ZcM (ZhT d).1).2=0:=fun d hd=>by
 refine⟨Classical.byContradiction fun h1=>ZAX hd h1 h,ZwO h _ (List.mem_map.2 ⟨d,hd,rfl⟩)⟩
theorem Zu7 {l:List Zp}{b:Int} (h:(Zmc l b).2=0):l.length<=8/\1<=b/\b<=8/\shE l=0/\∃p,Zhn (shL l) b.toNat=some p/\Zmc l b=(p,0):=by
 unfold Zmc at h ⊢
 by_cases h8:8<(l.length:Int)
 ·rw[decide_eq_true h8] at h;exact absurd (show(170:Int)=0 from h) (by decide)
 by_cases b1:b<1
 ·rw[decide_eq_false h8,decide_eq_true b1] at h;exact absurd (show(170:Int)=0 from h) (by decide)
 by_cases b8:8<b
 ·rw[decide_eq_false h8,decide_eq_false b1,decide_eq_true b8] at h;exact absurd (show(170:Int)=0 from h) (by decide)
 rw[decide_eq_false h8,decide_eq_false b1,decide_eq_false b8] at h ⊢
 simp only[Bool.or_self,cond_false] at h ⊢
 by_cases he:shE l=0
 ·rw[he] at h ⊢
  simp only[beq_self_eq_true,cond_true] at h ⊢
  cases hp:Zhn (shL l) b.toNat with
  | none=>rw[hp] at h;exact absurd (show(171:Int)=0 from h) (by decide)
  | some p=>exact⟨by omega,by omega,by omega,trivial,p,rfl,rfl⟩
 ·rw[beq_eq_false_iff_ne.2 he] at h
  exact absurd h he
theorem ZtD {l:List Zp}{b:Int} (h8:l.length<=8) (b1:1<=b) (b8:b<=8) (he:shE l=0) {p:ZhE} (hp:Zhn (shL l) b.toNat=some p):Zmc l b=(p,0):=by
 unfold Zmc
 rw[decide_eq_false (show ¬8<(l.length:Int) by omega),decide_eq_false (show ¬b<1 by omega),decide_eq_false (show ¬8<b by omega),he,hp]
 rfl
theorem Zz1 {x:D} (h:ZBJ (.sl true [.int .i64,.int .i64,.sl true [.int .i64,.int .i64,.int .i64],.sl true [.int .i64,.int .i64],.sl true [.int .i64,.int .i64,.int .i64],.sl true [.sl false [.int .i64],.sl false [.int .i64]]]) x):∃l:List Zp,x = .list true (l.map (Zfu true)):=by
 obtain⟨l,h1,_,_⟩:=ZnX (f:=Zfu true) (p:=fun _=>True) h fun cs hc=>by
  obtain⟨d,hd,_⟩:=ZCy hc
  exact⟨d,hd,trivial⟩
 exact⟨l,h1⟩
section
variable {α β:Type} {A B:Option α} {Q:α->Option β->Prop}
theorem yB {c:Bool}{X Y:Option β} (h1:Zdt A Q X) (h2:Zdt B Q Y):Zdt (bif c then A else B) Q (br c X Y):=Zc2 rfl h1 h2
theorem yBn {c:Bool}{X Y:Option β} (h2:Zdt B Q Y):Zdt (bif c then none else B) Q (br c X Y):=Zc2 rfl Zbr h2
theorem yBm {c:Bool}{X Y:Option β} (h1:Zdt A Q X):Zdt (bif c then A else none) Q (br c X Y):=Zc2 rfl h1 Zbr
theorem yT {X Y:Option β} (h1:Zdt A Q X):Zdt A Q (br true X Y):=ZpO rfl h1
theorem yF {X Y:Option β} (h1:Zdt A Q Y):Zdt A Q (br false X Y):=ZGg rfl h1
theorem yG {γ:Type}{f:γ->D}{l:List γ}{i:Int}{A:γ->Option α}{K:D->Option β} (k:∀r,ZE l i=some r->Zdt (A r) Q (K (f r))):Zdt ((ZE l i).bind A) Q (bnd (ZE (l.map f) i) K):=ZCD rfl rfl k
theorem yC {γ:Type}{Γ:Ctx}{f:Nat}{args:List V}{E:Option γ}{A:γ->Option α}{K:V->Option β}{enc:γ->D} (w:∀r,E=some r->evD Γ f args=some (enc r)) (k:∀r,E=some r->Zdt (A r) Q (Zyv (enc r) K)):Zdt (E.bind A) Q (bnd (evW Γ f args []) (Zpz K)):=ZBy enc w rfl k
theorem ZB1 {γ:Type}{x:γ}{A:γ->Option α}{X:Option β} (k:Zdt (A x) Q X):Zdt ((some x).bind A) Q X:=k
theorem yR {a:α}{f:α->Option β}:Zdt (some a) (fun r rhs=>rhs=f r) (f a):=Zk rfl
theorem yBr {a:α}{c:Bool}{f:α->Option β}{Y:Option β} (h2:Zdt B (fun r rhs=>rhs=f r) Y):Zdt (bif c then some a else B) (fun r rhs=>rhs=f r) (br c (f a) Y):=yB yR h2
theorem evT {Γ : Ctx} {f : Nat} (fn : FnI) {args : List V} {E : Option α} {enc : α -> D} (hc : Γ.code f = some fn) (hn : Nat.beq args.length fn.nargs = true) (h : Zdt E (fun r rhs => rhs = some (enc r)) (Zih Γ 0 fn.body (ZbH 0 args) [] fun x e H1 => (match x with
      | .exit _=>none
      | _=>(match ZjG e H1 fn.res with
        | some l=>ZfX 0 [Zg8 l] H1 fun _ vs H2=>(match vs with | [v]=>(match fr H2 6 v with | some (x,_)=>some x | none=>none) | _=>none)
        | none=>none)))):∀r,E=some r->evD Γ f args=some (enc r):=by rw[ZDV Γ f fn args hc hn];exact h
theorem evS {Γ : Ctx} {f : Nat} (fn : FnI) {args : List V} {H : Zl} {E : Option α} {enc : α -> V × Zl} (hc : Γ.code f = some fn) (hn : Nat.beq args.length fn.nargs = true) (h : Zdt E (fun r rhs => rhs = some (enc r)) (Zih Γ H.length fn.body (ZbH 0 args) H fun x e H1 => (match x with
      | .exit _=>none
      | _=>(match ZjG e H1 fn.res with
        | some l=>ZfX H.length [Zg8 l] H1 fun _ vs H2=>(match vs with | [v]=>some (v,H2) | _=>none)
        | none=>none)))):∀r,E=some r->evW Γ f args H=some (enc r):=by rw[ZD2 Γ f fn args H hc hn];exact h
theorem lpT {S R:Type}{step:S->Option (S⊕R)}{Γ:Ctx}{k:Nat}{live outs:List Nat}{b:C}{vs:S->List V}{H:S->Zl} (x:R->Ex×List V×Zl)
    (h:∀(s:S) (rec:S->Option R),(∀s r,rec s=some r->lpW Γ k live outs b (vs s) (H s)=some (x r))->Zdt (step s) (fun t rhs=>(match t with | .inl s'=>∀r,rec s'=some r->rhs=some (x r) | .inr r=>rhs=some (x r))) (Zih Γ k b (Zeo live (vs s)) (H s) fun x e H=>(match x with
      | .normal=>ZpE k (live.map e) H fun vs H=>bnd (lpW Γ k live outs b vs H) some
      | x=>ZfX k (outs.map e) H fun _ vs H=>some (x,vs,H)))):∀s r,lp step s=some r->lpW Γ k live outs b (vs s) (H s)=some (x r):=
  ZF3 (G:=fun s=>lpW Γ k live outs b (vs s) (H s)) x fun s rec ih=>by rw[ZGl];exact h s rec ih
end
theorem ZgD:∀r,Zf9=some r->evD ctx 9 []=some (D.bool r):=fun r h=>by
  cases h
  exact ZFn 100 (by kernel_rfl)
def ZsC (r:Bool):D:=(D.bool r)
def Zks (t0:Bool) (t1:Bool) (t2:Bool) (t3:Bool) (a:Zp):(Unit⊕Unit)->Ex×List V×Zl
  | (.inl r)=>(.ret,[(.ptr 0 0),(.d (D.bool false))],[(.cells (dV t0 t1 t2 t3 a))])
  | (.inr r)=>(.exit 0,[(.ptr 0 0),.bad],[(.cells (dV t0 t1 t2 t3 a))])
theorem ZnT {t0 t1:Bool}{t2 t3:Bool}{a:Zp}:∀(s0:Int) (r:(Unit⊕Unit)),lp (Zgh a) s0=some r->lpW ctx 0 [1,3] [1,2] ZAp [(.ptr 0 0),(zN s0)] [(.cells (dV t0 t1 t2 t3 a))]=some ((Zks t0 t1 t2 t3 a) r):=
 lpT (Zks t0 t1 t2 t3 a) fun s0 _ ih=>Zj (ZG _ _) (yB (yB (yG fun x1 hx1=>
  Zj (ZG _ _) (yB (Zk rfl)
  (Ze (Z3 rfl hx1) (Zj (ZG _ _) (yB (Zk rfl)
  (Zd (ih _)))))))
  (Zk rfl))
  (Zk rfl))
theorem ZrU {t0 t1:Bool}{t2 t3:Bool}{a:Zp}:∀r,(ZjS a)=some r->evD ctx 32 [(.d (D.agg (dA t0 t1 t2 t3 a)))]=some (ZsC r):=
 evT ZEJ rfl rfl <| (by
 conv=>rhs;whnf
 refine Zc _ (ZnT _) fun r2 _=>?_
 rcases r2 with r2 | r2
 exact yR
 exact Zj (ZG _ _) (yB (Zj (ZG _ _) (yB (Zj (ZG _ _) (yB (Zj (ZG _ _) (yBr yR))
  yR))
  yR))
  yR))
def Zso (r:Bool):D:=(D.bool r)
def ZkY (t0:Bool) (a:List Zp):(Unit⊕Unit)->Ex×List V×Zl
  | (.inl r)=>(.ret,[(.d (D.list t0 (List.map (Zfu true) a))),(.d (D.bool false))],[])
  | (.inr r)=>(.exit 0,[(.d (D.list t0 (List.map (Zfu true) a))),.bad],[])
theorem Zn0 {t0:Bool}{a:List Zp}:∀(s0:Int) (r:(Unit⊕Unit)),lp (ZcD a) s0=some r->lpW ctx 0 [0,3] [0,2] ZBY [(.d (D.list t0 (List.map (Zfu true) a))),(zN s0)] []=some ((ZkY t0 a) r):=
 lpT (ZkY t0 a) fun s0 _ ih=>Zj (ZG _ _) (yB (yB (yG fun x1 _=>
  yC ZrU fun x2 _=>
  yB (Zd (ih _))
  (Zk rfl))
  (Zk rfl))
  (Zk rfl))
theorem Zsh {t0:Bool}{a:List Zp}:∀r,(ZjQ a)=some r->evD ctx 10 [(.d (D.list t0 (List.map (Zfu true) a)))]=some (Zso r):=
 evT ZEj rfl rfl <| (by
 conv=>rhs;whnf
 refine Zc _ (Zn0 _) fun r3 _=>?_
 rcases r3 with r3 | r3
 exact yR
 exact Zj (ZG _ _) (yBr yR))
def ZsF (t0:Bool) (t1:Bool) (t2:Bool) (t3:Bool) (a:Zp):(List Zt)->V×Zl
  | r=>((.agg [(zN a.period),(zN a.deadline),(.sl 0 3),(.sl 1 2),(.sl 2 3),(.sl 3 2)]),[(.arr 3 (List.map Zja a.parts)),(.arr 2 (List.map ZaS a.edges)),(.arr 3 (List.map Z0 a.futures)),(.arr 2 (List.map ZcZ r))])
def Zko (t0:Bool) (t1:Bool) (t2:Bool) (t3:Bool) (a:Zp):(List Zt)->Ex×List V×Zl
  | r=>(.exit 0,[(.ptr 0 0),(.ptr 1 0)],[(.cells [(zN 0),(zN 0),(.sl 2 3),(.sl 3 2),(.sl 4 3),(.sl 5 2)]),(.cells [(zN a.period),(zN a.deadline),(.sl 6 3),(.sl 7 2),(.sl 8 3),(.sl 9 2)]),(.arr 3 []),(.arr 2 []),(.arr 3 []),(.arr 2 []),(.arr 3 (List.map Zja a.parts)),(.arr 2 (List.map ZaS a.edges)),(.arr 3 (List.map Z0 a.futures)),(.arr 2 (List.map ZcZ r))])
theorem ZnE {t0 t1:Bool}{t2 t3:Bool}{a:Zp}:∀(s0:Int×(List Zt)) (r:List Zt),lp (Zfj a) s0=some r->lpW ctx 0 [1,2,3,4] [2,3] ZAH [(.ptr 0 0),(.ptr 1 0),(.ptr 2 0),(zN s0.1)] [(.cells (dV t0 t1 t2 t3 a)),(.cells [(zN 0),(zN 0),(.sl 3 3),(.sl 4 2),(.sl 5 3),(.sl 6 2)]),(.cells [(zN a.period),(zN a.deadline),(.sl 7 3),(.sl 8 2),(.sl 9 3),(.sl 10 2)]),(.arr 3 []),(.arr 2 []),(.arr 3 []),(.arr 2 []),(.arr 3 (List.map Zja a.parts)),(.arr 2 (List.map ZaS a.edges)),(.arr 3 (List.map Z0 a.futures)),(.arr 2 (List.map ZcZ s0.2))]=some ((Zko t0 t1 t2 t3 a) r):=
 lpT (Zko t0 t1 t2 t3 a) fun s0 _ ih=>Zj (ZG _ _) (yB (yG fun x1 hx1=>
  ZpO (ZkW (f:=Zm) (fun _=>⟨rfl,rfl⟩) x1.ins 0) (Zc2 (Zmi Zm x1.ins) (Zj (rfl:_=List.map Zm x1.ins) (Ze (Z3 rfl hx1) (ZpO (ZkW (f:=Zm) (fun _=>⟨rfl,rfl⟩) x1.outs 0) (Zc2 (Zmi Zm x1.outs) (Zj (rfl:_=List.map Zm x1.outs) (yT (Zc2 (Zg1 ZcZ s0.2 1) (Zj (Zg0 ZcZ s0.2 [x1]) (Zd (ih _)))
  Zbr)))
  Zbr))))
  Zbr))
  (Zk rfl))
theorem Zrg {t0 t1:Bool}{t2 t3:Bool}{a:Zp}:∀r,(ZjY a)=some r->evW ctx 26 [(.d (D.agg (dA t0 t1 t2 t3 a)))] []=some ((ZsF t0 t1 t2 t3 a) r):=
 evS ZEl rfl rfl <| ZpO (ZkW (f:=Zja) (fun _=>⟨rfl,rfl⟩) a.parts 0) (Zc2 (Zmi Zja a.parts) (Zj (rfl:_=List.map Zja a.parts) (ZpO (ZkW (f:=ZaS) (fun _=>⟨rfl,rfl⟩) a.edges 0) (Zc2 (Zmi ZaS a.edges) (Zj (rfl:_=List.map ZaS a.edges) (ZpO (ZkW (f:=Z0) (fun _=>⟨rfl,rfl⟩) a.futures 0) (Zc2 (Zmi Z0 a.futures) (Zj (rfl:_=List.map Z0 a.futures) (Zc _ (ZnE _) fun r2 _=>
  yR))
  Zbr)))
  Zbr)))
  Zbr)
def ZsE (t0:Bool) (a:List Zp):(List Zp)->V×Zl
  | r=>((.sl 0 6),[(.arr 6 (List.map (Zfu true) r))])
def ZkC (t0:Bool) (a:List Zp):(List Zp)->Ex×List V×Zl
  | r=>(.exit 0,[(.sl 0 6)],[(.arr 6 (List.map (Zfu true) r))])
theorem ZnR {t0:Bool}{a:List Zp}:∀(s0:Int×(List Zp)) (r:List Zp),lp (Zft a) s0=some r->lpW ctx 0 [0,3,4] [3] ZzI [(.d (D.list t0 (List.map (Zfu true) a))),(.sl 0 6),(zN s0.1)] [(.arr 6 (List.map (Zfu true) s0.2))]=some ((ZkC t0 a) r):=
 lpT (ZkC t0 a) fun s0 _ ih=>Zj (ZG _ _) (yB (yG fun x1 _=>
  Zc _ Zrg fun x2 _=>
  yT (Zc2 (Zg1 (Zfu true) s0.2 1) (Zj (Zg0 (Zfu true) s0.2 [(Zp.mk x1.period x1.deadline x1.parts x1.edges x1.futures x2)]) (Zd (ih _)))
  Zbr))
  (Zk rfl))
theorem Zi5 {t0:Bool}{a:List Zp}:∀r,(Zhf a)=some r->evW ctx 12 [(.d (D.list t0 (List.map (Zfu true) a)))] []=some ((ZsE t0 a) r):=
 evS ZEP rfl rfl <| Zc _ (ZnR _) fun r3 _=>
  yR
def Zp0 (r:Bool):D:=(D.bool r)
theorem ZbX {a b c:Int}:∀r,(ZbT a b c)=some r->evD ctx 105 [(zN a),(zN b),(zN c)]=some (Zp0 r):=
 evT ZBO rfl rfl <| yB (yBr yR)
  yR
def Zsy (r:Int):D:=(Zm r)
theorem Zjb {a:Int}:∀r,(Zha a)=some r->evD ctx 102 [(zN a)]=some (Zsy r):=
 evT ZAM rfl rfl <| yBr (yBr yR)
def ZjF (r:Int):D:=(Zm r)
theorem Zi0 {a:Int}:∀r,(Zdc a)=some r->evD ctx 136 [(.d (D.int .u64 a))]=some (ZjF r):=
 evT ZBq rfl rfl <| yF (yF (yF (yF (yF (yF yR)))))
def ZkV (r:Int):D:=(Zm r)
theorem Zkk {a:Int}:∀r,(Zed a)=some r->evD ctx 103 [(.d (D.int .u64 a))]=some (ZkV r):=
 evT ZA0 rfl rfl <| yC Zi0 fun x0 _=>
  yR
theorem ZF7 (n:Int):0<=u64.wrap n/\u64.wrap n<18446744073709551616:=by
  have:u64.wrap n=n % 18446744073709551616:=by
    show(if (false&&decide (n % 18446744073709551616 ≥ 9223372036854775808))=true then n % 18446744073709551616-18446744073709551616 else n % 18446744073709551616)=_
    simp
  rw[this]
  omega
theorem ZG2 (n:Int):∃j:Nat,j<64/\(u64.wrap n).fdiv (2 ^ (min (Int.toNat 58) u64.bits))=(j:Int):=by
  obtain⟨h1,h2⟩:=ZF7 n
  have e:(2:Int) ^ (min (Int.toNat 58) u64.bits)=288230376151711744:=by decide
  rw[e,Int.fdiv_eq_ediv_of_nonneg _ (by omega)]
  refine⟨((u64.wrap n) / 288230376151711744).toNat,?_,?_⟩<;>omega
theorem ZG9:∀j:Nat,j<64->Zdu [] 1 false (.d (.rptr (ZBd.drop (j*1))))=some (.d (.int .u8 (ZuY.getD j 0))):=by
  have key:((List.range 64).all fun j=>match Zdu [] 1 false (.d (.rptr (ZBd.drop (j*1)))) with | some (.d (.int .u8 z))=>z==ZuY.getD j 0 | _=>false)=true:=by rfl
  intro j hj
  have:=List.all_eq_true.1 key j (by simpa using hj)
  split at this
  · rename_i z hz
    rw[hz,eq_of_beq this]
  · cases this
def Zid (r:Int):D:=Zm r
theorem ZhI (a:Int):∀r,Zdz a=some r->evD ctx 138 [.d (.int .u64 a)]=some (Zid r):=by
  intro r hr
  unfold Zdz at hr
  have hr:=Option.some.inj hr
  subst hr
  rw[ZDV ctx 138 ZAE _ rfl rfl]
  by_cases h:(a==0)=true
  · conv=>lhs;whnf
    rw[h,ZDc]
    rfl
  · replace h:(a==0)=false:=by simpa using h
    obtain⟨j,hj,e⟩:=ZG2 (u64.wrap ((Zq a &&& Zq (u64.wrap (0-a))).toNat:Int)*285870213051353865)
    conv=>lhs;whnf
    rw[h,ZDA]
    conv=>lhs;whnf
    refine(ZG4 (by rfl)).trans ?_
    conv=>lhs;whnf
    rw[e]
    refine(ZFT (by simp;omega)).trans ?_
    conv=>lhs;whnf
    erw [ZG9 j hj]
    rfl
def ZiP (r:Int):D:=(Zm r)
theorem Zir {a:Int}:∀r,(ZeA a)=some r->evD ctx 104 [(.d (D.int .u64 a))]=some (ZiP r):=
 evT ZAw rfl rfl <| yC (ZhI _) fun x0 _=>
  yR
def Zvt (r:(Int×Bool)):D:=(D.tup [(Zm r.1),(D.bool r.2)])
theorem Zn9 {a:Int}:∀r,(Zkt a)=some r->evD ctx 82 [(zN a)]=some (Zvt r):=
 evT ZFs rfl rfl <| yC Zjb fun x0 _=>
  yBr (yC Zkk fun x1 _=>
  yBr (yC Zir fun x2 _=>
  yR))
def Zsp (r:Bool):D:=(D.bool r)
theorem Zq8 {a:Z1}:∀r,(Zgp a)=some r->evD ctx 107 [(.d (D.agg [(Zm a.op),(Zm a.arg),(Zm a.work)]))]=some (Zsp r):=
 evT ZAN rfl rfl <| yC ZbX fun x0 _=>
  yB (yC ZbX fun x1 _=>
  yB (yC ZbX fun x2 _=>
  yBr yR)
  yR)
  yR
def ZfE (r:Int):D:=(Zm r)
def Zcf (t0:Bool) (a:List Z1):(Int⊕Unit)->Ex×List V×Zl
  | (.inl r)=>(.ret,[(zN r)],[])
  | (.inr r)=>(.exit 0,[.bad],[])
theorem ZeV {t0:Bool}{a:List Z1}:∀(s0:Int) (r:(Int⊕Unit)),lp (Zbv a (fun z0=>Zgp z0)) s0=some r->lpW ctx 0 [0,1,7,8] [4] ZxY [(zW t0 Zja a),(.d (D.fn 107 [])),(zN (a.length:Int)),(zN s0)] []=some ((Zcf t0 a) r):=
 lpT (Zcf t0 a) fun s0 _ ih=>yB (yG fun x1 _=>
  yC Zq8 fun x2 _=>
  yB (Zk rfl)
  (Zd (ih _)))
  (Zk rfl)
theorem Zfq {t0:Bool}{a:List Z1}:∀r,(ZcP a (fun z0=>Zgp z0))=some r->evD ctx 139 [(zW t0 Zja a),(.d (D.fn 107 []))]=some (ZfE r):=
 evT ZA2 rfl rfl <| Zj (ZG _ _) (by
 conv=>rhs;whnf
 refine Zc _ (ZeV _) fun r3 _=>?_
 rcases r3 with r3 | r3
 exact yR
 exact yR)
def Ze6 (r:Bool):D:=(D.bool r)
theorem ZeY {t0:Bool}{a:List Z1}:∀r,(Zbw a (fun z0=>Zgp z0))=some r->evD ctx 106 [(zW t0 Zja a),(.d (D.fn 107 []))]=some (Ze6 r):=
 evT ZAr rfl rfl <| yC Zfq fun x0 _=>
  yBr yR
def ZuI (r:Bool):D:=(D.bool r)
theorem ZmP {t0 t1:Bool}{t2 t3:Bool}{a:Zp}{b c:Int}:∀r,(Zjl a b c)=some r->evD ctx 108 [(.d (D.agg (dA t0 t1 t2 t3 a))),(zN b),(zN c)]=some (ZuI r):=
 evT ZAz rfl rfl <| yB (Zj (ZG _ _) (yC ZbX fun x0 _=>
  yB (Zj (ZG _ _) (yC ZbX fun x1 _=>
  yBr yR))
  yR))
  yR
def Zio (r:Int):D:=(Zm r)
def Zfc (t0:Bool) (a:List Zr) (b:Zr):(Int⊕Unit)->Ex×List V×Zl
  | (.inl r)=>(.ret,[(zN r)],[])
  | (.inr r)=>(.exit 0,[.bad],[])
theorem Zhm {t0:Bool}{a:List Zr}{b:Zr}:∀(s0:Int) (r:(Int⊕Unit)),lp (Zb5 a b) s0=some r->lpW ctx 0 [0,3,7,8] [4] ZxS [(zW t0 ZaS a),(.ptr 0 0),(zN (a.length:Int)),(zN s0)] [(.cells [(zN b.src),(zN b.dst)])]=some ((Zfc t0 a b) r):=
 lpT (Zfc t0 a b) fun s0 _ ih=>yB (yG fun x1 _=>
  yB (Zk rfl)
  (Zd (ih _)))
  (Zk rfl)
theorem Zig {t0:Bool}{a:List Zr}{b:Zr}:∀r,(ZdY a b)=some r->evD ctx 140 [(zW t0 ZaS a),(.d (zK5 b.src b.dst))]=some (Zio r):=
 evT ZBz rfl rfl <| Zj (ZG _ _) (by
 conv=>rhs;whnf
 refine Zc _ (Zhm _) fun r2 _=>?_
 rcases r2 with r2 | r2
 exact yR
 exact yR)
def ZhD (r:Bool):D:=(D.bool r)
theorem ZeS {t0:Bool}{a:List Zr}{b:Zr}:∀r,(Zbl a b)=some r->evD ctx 109 [(zW t0 ZaS a),(.d (zK5 b.src b.dst))]=some (ZhD r):=
 evT ZAW rfl rfl <| yC Zig fun x0 _=>
  yBr yR
def Zo9 (r:Bool):D:=(D.bool r)
theorem Zob {a:Zh}{b0 b1 b2:Int}:∀r,(Zd9 a b1 b2)=some r->evD ctx 110 [(.d (D.agg [(Zm a.maker),(Zm a.user),(Zm a.pos)])),(.d (D.rptr [(Zm b0),(Zm b1),(Zm b2)]))]=some (Zo9 r):=
 evT ZAy rfl rfl <| yB (yBr yR)
  yR
def Zea (r:Int):D:=(Zm r)
def ZbB (t0:Bool) (a:List Zh) (b0:Int) (b1:Int) (b2:Int):(Int⊕Unit)->Ex×List V×Zl
  | (.inl r)=>(.ret,[(zN r)],[])
  | (.inr r)=>(.exit 0,[.bad],[])
theorem Zdi {t0:Bool}{a:List Zh}{b0 b1 b2:Int}:∀(s0:Int) (r:(Int⊕Unit)),lp (Za2 a (fun z0=>Zd9 z0 b1 b2)) s0=some r->lpW ctx 0 [0,1,7,8] [4] Zyx [(zW t0 Z0 a),(.d (D.fn 110 [(D.rptr [(Zm b0),(Zm b1),(Zm b2)])])),(zN (a.length:Int)),(zN s0)] []=some ((ZbB t0 a b0 b1 b2) r):=
 lpT (ZbB t0 a b0 b1 b2) fun s0 _ ih=>yB (yG fun x1 _=>
  yC Zob fun x2 _=>
  yB (Zk rfl)
  (Zd (ih _)))
  (Zk rfl)
theorem ZdI {t0:Bool}{a:List Zh}{b0 b1 b2:Int}:∀r,(Zco a (fun z0=>Zd9 z0 b1 b2))=some r->evD ctx 141 [(zW t0 Z0 a),(.d (D.fn 110 [(D.rptr [(Zm b0),(Zm b1),(Zm b2)])]))]=some (Zea r):=
 evT ZBl rfl rfl <| Zj (ZG _ _) (by
 conv=>rhs;whnf
 refine Zc _ (Zdi _) fun r3 _=>?_
 rcases r3 with r3 | r3
 exact yR
 exact yR)
def Zdr (r:Bool):D:=(D.bool r)
theorem Zdh {t0:Bool}{a:List Zh}{b0 b1 b2:Int}:∀r,(Za3 a (fun z0=>Zd9 z0 b1 b2))=some r->evD ctx 111 [(zW t0 Z0 a),(.d (D.fn 110 [(D.rptr [(Zm b0),(Zm b1),(Zm b2)])]))]=some (Zdr r):=
 evT ZzM rfl rfl <| yC ZdI fun x0 _=>
  yBr yR
def Zui (r:Bool):D:=(D.bool r)
def Zlu (t0:Bool) (t1:Bool) (t2:Bool) (t3:Bool) (t4:Bool) (a:Zp) (b:List Int):(Unit⊕Unit)->Ex×List V×Zl
  | (.inl r)=>(.ret,[(zV t4 b),(.d (D.bool false))],[])
  | (.inr r)=>(.exit 0,[(zV t4 b),.bad],[])
theorem Zps {t0 t1:Bool}{t2 t3 t4:Bool}{a:Zp}{b:List Int}:∀(s0:Int) (r:(Unit⊕Unit)),lp (ZgT a b) s0=some r->lpW ctx 0 [1,2,7,8,9] [1,4] ZxV [(zV t4 b),(.ptr 0 0),(zV t4 b),(zN (b.length:Int)),(zN s0)] [(.cells (dV t0 t1 t2 t3 a))]=some ((Zlu t0 t1 t2 t3 t4 a b) r):=
 lpT (Zlu t0 t1 t2 t3 t4 a b) fun s0 _ ih=>yB (yG fun x1 _=>
  Zj (ZG _ _) (yC ZbX fun x2 _=>
  yB (yB (yG fun x3 _=>
  yB (Zk rfl)
  (Zd (ih _)))
  (Zd (ih _)))
  (Zk rfl)))
  (Zk rfl)
theorem ZmR {t0 t1:Bool}{t2 t3 t4:Bool}{a:Zp}{b:List Int}:∀r,(Zjm a b)=some r->evD ctx 113 [(.d (D.agg (dA t0 t1 t2 t3 a))),(zV t4 b)]=some (Zui r):=
 evT ZCq rfl rfl <| Zj (ZG _ _) (by
 conv=>rhs;whnf
 refine Zc _ (Zps _) fun r4 _=>?_
 rcases r4 with r4 | r4
 exact yR
 exact Zj (ZG _ _) (yBr yR))
def Zjt (r:Int):D:=(Zm r)
def ZfK (t0:Bool) (a:List Int) (b:Int):(Int⊕Unit)->Ex×List V×Zl
  | (.inl r)=>(.ret,[(zN r)],[])
  | (.inr r)=>(.exit 0,[.bad],[])
theorem ZhN {t0:Bool}{a:List Int}{b:Int}:∀(s0:Int) (r:(Int⊕Unit)),lp (Zcv a b) s0=some r->lpW ctx 0 [0,1,7,8] [4] ZBg [(zV t0 a),(zN b),(zN (a.length:Int)),(zN s0)] []=some ((ZfK t0 a b) r):=
 lpT (ZfK t0 a b) fun s0 _ ih=>yB (yG fun x1 _=>
  yB (Zk rfl)
  (Zd (ih _)))
  (Zk rfl)
theorem ZiQ {t0:Bool}{a:List Int}{b:Int}:∀r,(Ze5 a b)=some r->evD ctx 76 [(zV t0 a),(zN b)]=some (Zjt r):=
 evT ZEO rfl rfl <| Zj (ZG _ _) (by
 conv=>rhs;whnf
 refine Zc _ (ZhN _) fun r2 _=>?_
 rcases r2 with r2 | r2
 exact yR
 exact yR)
def Zh6 (r:Bool):D:=(D.bool r)
theorem ZhR {t0:Bool}{a:List Int}{b:Int}:∀r,(Zcu a b)=some r->evD ctx 45 [(zV t0 a),(zN b)]=some (Zh6 r):=
 evT ZE4 rfl rfl <| yC ZiQ fun x0 _=>
  yBr yR
def Zpt (r:Bool):D:=(D.bool r)
theorem Zn8 {t0 t1:Bool}{a:Int}{b0:List Int}{b1:List Int}:∀r,(Zeb a b1)=some r->evD ctx 112 [(zN a),(.d (D.rptr [(zL t0 b0),(zL t1 b1)]))]=some (Zpt r):=
 evT ZCd rfl rfl <| yC ZhR fun x0 _=>
  yBr yR
def Zfr (r:Int):D:=(Zm r)
def Zca (t0:Bool) (t1:Bool) (t2:Bool) (a:List Int) (b0:List Int) (b1:List Int):(Int⊕Unit)->Ex×List V×Zl
  | (.inl r)=>(.ret,[(zN r)],[])
  | (.inr r)=>(.exit 0,[.bad],[])
theorem Zes {t0 t1 t2:Bool}{a:List Int}{b0:List Int}{b1:List Int}:∀(s0:Int) (r:(Int⊕Unit)),lp (ZW a (fun z0=>Zeb z0 b1)) s0=some r->lpW ctx 0 [0,1,7,8] [4] Zqr [(zV t0 a),(.d (D.fn 112 [(D.rptr [(zL t1 b0),(zL t2 b1)])])),(zN (a.length:Int)),(zN s0)] []=some ((Zca t0 t1 t2 a b0 b1) r):=
 lpT (Zca t0 t1 t2 a b0 b1) fun s0 _ ih=>yB (yG fun x1 _=>
  yC Zn8 fun x2 _=>
  yB (Zk rfl)
  (Zd (ih _)))
  (Zk rfl)
theorem Zfd {t0 t1 t2:Bool}{a:List Int}{b0:List Int}{b1:List Int}:∀r,(ZaC a (fun z0=>Zeb z0 b1))=some r->evD ctx 142 [(zV t0 a),(.d (D.fn 112 [(D.rptr [(zL t1 b0),(zL t2 b1)])]))]=some (Zfr r):=
 evT ZvS rfl rfl <| Zj (ZG _ _) (by
 conv=>rhs;whnf
 refine Zc _ (Zes _) fun r3 _=>?_
 rcases r3 with r3 | r3
 exact yR
 exact yR)
def ZeT (r:Bool):D:=(D.bool r)
theorem ZeB {t0 t1 t2:Bool}{a:List Int}{b0:List Int}{b1:List Int}:∀r,(ZaH a (fun z0=>Zeb z0 b1))=some r->evD ctx 114 [(zV t0 a),(.d (D.fn 112 [(D.rptr [(zL t1 b0),(zL t2 b1)])]))]=some (ZeT r):=
 evT ZxW rfl rfl <| yC Zfd fun x0 _=>
  yBr yR
def ZrW (r:Int):D:=(Zm r)
def ZjV (t0:Bool) (t1:Bool) (t2:Bool) (t3:Bool) (a:Zp):(Unit⊕Unit)->Ex×List V×Zl
  | (.inl r)=>(.ret,[(.ptr 0 0),(zN 53)],[(.cells (dV t0 t1 t2 t3 a))])
  | (.inr r)=>(.exit 0,[(.ptr 0 0),.bad],[(.cells (dV t0 t1 t2 t3 a))])
theorem Zm1 {t0 t1:Bool}{t2 t3:Bool}{a:Zp}:∀(s4:Int) (r:(Unit⊕Unit)),lp (ZeJ a) s4=some r->lpW ctx 0 [1,61,62,63] [1,2] ZCp [(.ptr 0 0),(zW t1 ZaS a.edges),(zN (a.edges.length:Int)),(zN s4)] [(.cells (dV t0 t1 t2 t3 a))]=some ((ZjV t0 t1 t2 t3 a) r):=
 lpT (ZjV t0 t1 t2 t3 a) fun s4 _ ih=>yB (yG fun x5 _=>
  yC ZmP fun x6 _=>
  yB (yBm (Zc2 (Zx1 ZaS a.edges s4.toNat) (yT (Zj (ZqC ZaS a.edges s4.toNat) (yC ZeS fun x7 _=>
  yB (Zk rfl)
  (Zd (ih _)))))
  Zbr))
  (Zk rfl))
  (Zk rfl)
def ZjZ (t0:Bool) (t1:Bool) (t2:Bool) (t3:Bool) (a:Zp):(Unit⊕Unit)->Ex×List V×Zl
  | (.inl r)=>(.ret,[(.ptr 0 0),(zN 54)],[(.cells (dV t0 t1 t2 t3 a))])
  | (.inr r)=>(.exit 2,[(.ptr 0 0),.bad],[(.cells (dV t0 t1 t2 t3 a))])
theorem Znr {t0 t1:Bool}{t2 t3:Bool}{a:Zp}:∀(s9:Int) (r:(Unit⊕Unit)),lp (ZeL a) s9=some r->lpW ctx 0 [1,85,86,87] [1,2] Zz6 [(.ptr 0 0),(zW t2 Z0 a.futures),(zN (a.futures.length:Int)),(zN s9)] [(.cells (dV t0 t1 t2 t3 a))]=some ((ZjZ t0 t1 t2 t3 a) r):=
 lpT (ZjZ t0 t1 t2 t3 a) fun s9 _ ih=>yB (yG fun x10 _=>
  yC ZmP fun x11 _=>
  yB (yG fun x12 _=>
  yC ZbX fun x13 _=>
  yB (yBm (Zc2 (Zx1 Z0 a.futures s9.toNat) (yT (Zj (ZqC Z0 a.futures s9.toNat) (yC Zdh fun x14 _=>
  yB (Zk rfl)
  (Zd (ih _)))))
  Zbr))
  (Zk rfl))
  (Zk rfl))
  (Zk rfl)
def ZjX (t0:Bool) (t1:Bool) (t2:Bool) (t3:Bool) (a:Zp):(Unit⊕Unit)->Ex×List V×Zl
  | (.inl r)=>(.ret,[(zN 55)],[])
  | (.inr r)=>(.exit 4,[.bad],[])
theorem Znn {t0 t1:Bool}{t2 t3:Bool}{a:Zp}:∀(s16:Int) (r:(Unit⊕Unit)),lp (ZeK a) s16=some r->lpW ctx 0 [1,124,125,126] [2] ZBW [(.ptr 0 0),(zW t3 ZcZ a.barriers),(zN (a.barriers.length:Int)),(zN s16)] [(.cells (dV t0 t1 t2 t3 a))]=some ((ZjX t0 t1 t2 t3 a) r):=
 lpT (ZjX t0 t1 t2 t3 a) fun s16 _ ih=>yB (yG fun x17 _=>
  yC ZmR fun x18 _=>
  yB (yC ZmR fun x19 _=>
  yB (yC ZeB fun x20 _=>
  yB (Zk rfl)
  (Zd (ih _)))
  (Zk rfl))
  (Zk rfl))
  (Zk rfl)
theorem Zlv {t0 t1:Bool}{t2 t3:Bool}{a:Zp}:∀r,(Zhs a)=some r->evD ctx 84 [(.d (D.agg (dA t0 t1 t2 t3 a)))]=some (ZrW r):=
 evT ZFg rfl rfl <| Zj (ZG _ _) (yC ZbX fun x0 _=>
  yB (Zj (ZG _ _) (yBr (Zj (ZG _ _) (yBr (Zj (ZG _ _) (yBr (yC Zn9 fun x1 _=>
  yB (yBr (yC ZbX fun x2 _=>
  yB (yC ZeY fun x3 _=>
  yBr (Zj (ZG _ _) (by
 conv=>rhs;whnf
 refine Zc _ (Zm1 _) fun r8 _=>?_
 rcases r8 with r8 | r8
 exact yR
 exact Zj (ZG _ _) (by
 conv=>rhs;whnf
 refine Zc _ (Znr _) fun r15 _=>?_
 rcases r15 with r15 | r15
 exact yR
 exact Zj (ZG _ _) (by
 conv=>rhs;whnf
 refine Zc _ (Znn _) fun r21 _=>?_
 rcases r21 with r21 | r21
 exact yR
 exact yR)))))
  yR))
  yR)))))))
  yR)
def Zm6 (r:Int):D:=(Zm r)
theorem ZF {t0 t1:Bool}{t2 t3:Bool}{a b:Int}{c0 c1:Int}{c2:List Z1}{c3:List Zr}{c4:List Zh}{c5:List Zt}:∀r,(Zu a b c4)=some r->evD ctx 143 [(zN a),(zN b),(.d (D.rptr [(Zm c0),(Zm c1),(zM t0 Zja c2),(zM t1 ZaS c3),(zM t2 Z0 c4),(zM t3 ZcZ c5)]))]=some (Zm6 r):=
 evT ZBR rfl rfl <| yG fun x0 _=>
  yG fun x1 _=>
  yR
def ZmH (r:Int):D:=(Zm r)
theorem ZlN {a:Int}:∀r,(Zj6 a)=some r->evD ctx 154 [(.d (D.int .u64 a))]=some (ZmH r):=
 evT ZzY rfl rfl <| yB (yF (yB (yF (yB (yF (yBm (Zh5 rfl fun x0 _=>
  yR)))
  (yBm (Zh5 rfl fun x1 _=>
  yR))))
  (yB (yF (yBm (Zh5 rfl fun x2 _=>
  yR)))
  (yBm (Zh5 rfl fun x3 _=>
  yR)))))
  (yB (yF (yB (yF (yBm (Zh5 rfl fun x4 _=>
  yR)))
  (yBm (Zh5 rfl fun x5 _=>
  yR))))
  (yB (yF (yBm (Zh5 rfl fun x6 _=>
  yR)))
  (yBm (Zh5 rfl fun x7 _=>
  yR))))
def ZnP (r:Int):D:=(Zm r)
theorem Zg7 {a:Int}:∀r,(Zf0 a)=some r->evD ctx 123 [(.d (D.int .u64 a))]=some (ZnP r):=
 evT ZBC rfl rfl <| yC ZlN fun x0 _=>
  yR
def ZdU (t0:Bool) (t1:Bool) (t2:Bool) (t3:Bool) (b:Int) (c:Int) (mG:List Int) (mA:Int) (mE:Int) (mD:List Z1) (mF:List Zr) (mB:List Zh) (mC:List Zt):(List Int)->V×Zl
  | r=>((.d (D.tup [])),[(zA r),(zK0 mA mE t0 mD t1 mF t2 mB t3 mC)])
def Zbq (t0:Bool) (t1:Bool) (t2:Bool) (t3:Bool) (b:Int) (c:Int) (mA:Int) (mE:Int) (mD:List Z1) (mF:List Zr) (mB:List Zh) (mC:List Zt) (s0:Int×(List Int)):(List Int)->Ex×List V×Zl
  | r=>(.exit 2,[(.sl 0 1),(zN b),(zN c),(.fn 143 [(.ptr 1 0)]),(zN s0.1)],[(zA r),(zK0 mA mE t0 mD t1 mF t2 mB t3 mC)])
theorem Zc6 {t0 t1:Bool}{t2 t3:Bool}{b c:Int}{mA mE:Int}{mD:List Z1}{mF:List Zr}{mB:List Zh}{mC:List Zt}{s0:Int×(List Int)}:∀(s1:Int×(List Int)) (r:List Int),lp (ZZ b (fun z0 z1=>Zu z0 z1 mB)) s1=some r->lpW ctx 2 [0,1,2,3,8,9] [0,1,2,3,8] Zus [(.sl 0 1),(zN b),(zN c),(.fn 143 [(.ptr 1 0)]),(zN s0.1),(zN s1.1)] [(zA s1.2),(zK0 mA mE t0 mD t1 mF t2 mB t3 mC)]=some ((Zbq t0 t1 t2 t3 b c mA mE mD mF mB mC s0) r):=
 lpT (Zbq t0 t1 t2 t3 b c mA mE mD mF mB mC s0) fun s1 _ ih=>yB (yG fun x2 hx2=>
  Ze (Zi rfl hx2) (yG fun x3 hx3=>
  Ze (Zi rfl hx3) (yC ZF fun x4 _=>
  yB (Ze (Z3 rfl hx3) (Ze (Zi rfl hx3) (Ze (Z3 rfl hx2) (Ze (Zi rfl hx2) (Ze (Z3 rfl hx2) (Ze (Zi rfl hx2) (Zj (ZI Zm s1.2 s1.1.toNat x3) (yG fun x5 hx5=>
  Ze (Zi rfl hx5) (Zj (ZI Zm (List.set s1.2 s1.1.toNat x3) (w64 (s1.1-1)).toNat x2) (Zd (ih _)))))))))))
  (Zk rfl))))
  (Zk rfl)
def Zbt (t0:Bool) (t1:Bool) (t2:Bool) (t3:Bool) (b:Int) (c:Int) (mA:Int) (mE:Int) (mD:List Z1) (mF:List Zr) (mB:List Zh) (mC:List Zt):(List Int)->Ex×List V×Zl
  | r=>(.exit 0,[],[(zA r),(zK0 mA mE t0 mD t1 mF t2 mB t3 mC)])
theorem Zc7 {t0 t1:Bool}{t2 t3:Bool}{b c:Int}{mA mE:Int}{mD:List Z1}{mF:List Zr}{mB:List Zh}{mC:List Zt}:∀(s0:Int×(List Int)) (r:List Int),lp (Zaj b c (fun z0 z1=>Zu z0 z1 mB)) s0=some r->lpW ctx 2 [0,1,2,3,8] [] ZuE [(.sl 0 1),(zN b),(zN c),(.fn 143 [(.ptr 1 0)]),(zN s0.1)] [(zA s0.2),(zK0 mA mE t0 mD t1 mF t2 mB t3 mC)]=some ((Zbt t0 t1 t2 t3 b c mA mE mD mF mB mC) r):=
 lpT (Zbt t0 t1 t2 t3 b c mA mE mD mF mB mC) fun s0 _ ih=>yB (Zc _ (Zc6 _) fun r6 _=>
  Zd (ih _))
  (Zk rfl)
theorem Zab {t0 t1:Bool}{t2 t3:Bool}{b c:Int}{mG:List Int}{mA mE:Int}{mD:List Z1}{mF:List Zr}{mB:List Zh}{mC:List Zt}:∀r,(ZY b c (fun z0 z1=>Zu z0 z1 mB) mG)=some r->evW ctx 145 [(.sl 0 1),(zN b),(zN c),(.fn 143 [(.ptr 1 0)])] [(zA mG),(zK0 mA mE t0 mD t1 mF t2 mB t3 mC)]=some ((ZdU t0 t1 t2 t3 b c mG mA mE mD mF mB mC) r):=
 evS ZxQ rfl rfl <| Zc _ (Zc7 _) fun r7 _=>
  yR
def Zfa (t0:Bool) (t1:Bool) (t2:Bool) (t3:Bool) (b:Int) (c:Int) (d:Int) (mG:List Int) (mA:Int) (mE:Int) (mD:List Z1) (mF:List Zr) (mB:List Zh) (mC:List Zt):(List Int)->V×Zl
  | r=>((.d (D.tup [])),[(zA r),(zK0 mA mE t0 mD t1 mF t2 mB t3 mC)])
def ZbW (t0:Bool) (t1:Bool) (t2:Bool) (t3:Bool) (c:Int) (d:Int) (mA:Int) (mE:Int) (mD:List Z1) (mF:List Zr) (mB:List Zh) (mC:List Zt):((List Int)⊕(List Int))->Ex×List V×Zl
  | (.inl r)=>(.exit 0,[],[(zA r),(zK0 mA mE t0 mD t1 mF t2 mB t3 mC)])
  | (.inr r)=>(.ret,[],[(zA r),(zK0 mA mE t0 mD t1 mF t2 mB t3 mC)])
theorem Zd0 {t0 t1:Bool}{t2 t3:Bool}{c d:Int}{mA mE:Int}{mD:List Z1}{mF:List Zr}{mB:List Zh}{mC:List Zt}:∀(s0:Int×(List Int)) (r:((List Int)⊕(List Int))),lp (ZJ c d (fun z0 z1=>Zu z0 z1 mB)) s0=some r->lpW ctx 2 [0,2,3,4,10] [] Zuh [(.sl 0 1),(zN c),(zN d),(.fn 143 [(.ptr 1 0)]),(zN s0.1)] [(zA s0.2),(zK0 mA mE t0 mD t1 mF t2 mB t3 mC)]=some ((ZbW t0 t1 t2 t3 c d mA mE mD mF mB mC) r):=
 lpT (ZbW t0 t1 t2 t3 c d mA mE mD mF mB mC) fun s0 _ ih=>yB (Zk rfl)
  (yB (yG fun x1 hx1=>
  Ze (Zi rfl hx1) (yG fun x2 hx2=>
  Ze (Zi rfl hx2) (yC ZF fun x3 _=>
  yB (yG fun x4 hx4=>
  Ze (Zi rfl hx4) (yG fun x5 hx5=>
  Ze (Zi rfl hx5) (yC ZF fun x6 _=>
  yB (Ze (Z3 rfl hx5) (Ze (Zi rfl hx5) (Ze (Z3 rfl hx4) (Ze (Zi rfl hx4) (Ze (Z3 rfl hx4) (Ze (Zi rfl hx4) (Zj (ZI Zm s0.2 (w64 (d+s0.1)).toNat x5) (yG fun x7 hx7=>
  Ze (Zi rfl hx7) (Zj (ZI Zm (List.set s0.2 (w64 (d+s0.1)).toNat x5) (w64 (d+(w64 ((w64 ((w64 (2*s0.1))+1))+1)))).toNat x4) (Zd (ih _)))))))))))
  (Zk rfl))))
  (yG fun x8 hx8=>
  Ze (Zi rfl hx8) (Ze (Z3 rfl hx1) (Ze (Zi rfl hx1) (yC ZF fun x9 _=>
  yB (Ze (Z3 rfl hx1) (Ze (Zi rfl hx1) (Ze (Z3 rfl hx8) (Ze (Zi rfl hx8) (Ze (Z3 rfl hx8) (Ze (Zi rfl hx8) (Zj (ZI Zm s0.2 (w64 (d+s0.1)).toNat x1) (yG fun x10 hx10=>
  Ze (Zi rfl hx10) (Zj (ZI Zm (List.set s0.2 (w64 (d+s0.1)).toNat x1) (w64 (d+(w64 ((w64 (2*s0.1))+1)))).toNat x8) (Zd (ih _)))))))))))
  (Zk rfl))))))))
  (yG fun x11 hx11=>
  Ze (Zi rfl hx11) (yG fun x12 hx12=>
  Ze (Zi rfl hx12) (yC ZF fun x13 _=>
  yB (Ze (Z3 rfl hx12) (Ze (Zi rfl hx12) (Ze (Z3 rfl hx11) (Ze (Zi rfl hx11) (Ze (Z3 rfl hx11) (Ze (Zi rfl hx11) (Zj (ZI Zm s0.2 (w64 (d+s0.1)).toNat x12) (yG fun x14 hx14=>
  Ze (Zi rfl hx14) (Zj (ZI Zm (List.set s0.2 (w64 (d+s0.1)).toNat x12) (w64 (d+(w64 ((w64 (2*s0.1))+1)))).toNat x11) (Zd (ih _)))))))))))
  (Zk rfl)))))
theorem Zb9 {t0 t1:Bool}{t2 t3:Bool}{b c d:Int}{mG:List Int}{mA mE:Int}{mD:List Z1}{mF:List Zr}{mB:List Zh}{mC:List Zt}:∀r,(ZaB b c d (fun z0 z1=>Zu z0 z1 mB) mG)=some r->evW ctx 160 [(.sl 0 1),(zN b),(zN c),(zN d),(.fn 143 [(.ptr 1 0)])] [(zA mG),(zK0 mA mE t0 mD t1 mF t2 mB t3 mC)]=some ((Zfa t0 t1 t2 t3 b c d mG mA mE mD mF mB mC) r):=
 evS Zyh rfl rfl <| (by
 conv=>rhs;whnf
 refine Zc _ (Zd0 _) fun r15 _=>?_
 rcases r15 with r15 | r15
 exact yR
 exact yR)
def Ze9 (t0:Bool) (t1:Bool) (t2:Bool) (t3:Bool) (b:Int) (c:Int) (mG:List Int) (mA:Int) (mE:Int) (mD:List Z1) (mF:List Zr) (mB:List Zh) (mC:List Zt):(List Int)->V×Zl
  | r=>((.d (D.tup [])),[(zA r),(zK0 mA mE t0 mD t1 mF t2 mB t3 mC)])
def ZbU (t0:Bool) (t1:Bool) (t2:Bool) (t3:Bool) (b:Int) (c:Int) (mA:Int) (mE:Int) (mD:List Z1) (mF:List Zr) (mB:List Zh) (mC:List Zt):(List Int)->Ex×List V×Zl
  | r=>(.exit 0,[(.sl 0 1),(.fn 143 [(.ptr 1 0)]),(zN b),(zN 0),(zN (w64 (c-b)))],[(zA r),(zK0 mA mE t0 mD t1 mF t2 mB t3 mC)])
theorem Zd8 {t0 t1:Bool}{t2 t3:Bool}{b c:Int}{mA mE:Int}{mD:List Z1}{mF:List Zr}{mB:List Zh}{mC:List Zt}:∀(s0:Int×(List Int)) (r:List Int),lp (ZaG b c (fun z0 z1=>Zu z0 z1 mB)) s0=some r->lpW ctx 2 [0,3,8,9,10,11] [0,3,8,9,10] ZtY [(.sl 0 1),(.fn 143 [(.ptr 1 0)]),(zN b),(zN 0),(zN (w64 (c-b))),(zN s0.1)] [(zA s0.2),(zK0 mA mE t0 mD t1 mF t2 mB t3 mC)]=some ((ZbU t0 t1 t2 t3 b c mA mE mD mF mB mC) r):=
 lpT (ZbU t0 t1 t2 t3 b c mA mE mD mF mB mC) fun s0 _ ih=>yB (Zc _ Zb9 fun x1 _=>
  Zd (ih _))
  (Zk rfl)
def ZbV (t0:Bool) (t1:Bool) (t2:Bool) (t3:Bool) (b:Int) (mA:Int) (mE:Int) (mD:List Z1) (mF:List Zr) (mB:List Zh) (mC:List Zt):(List Int)->Ex×List V×Zl
  | r=>(.exit 2,[],[(zA r),(zK0 mA mE t0 mD t1 mF t2 mB t3 mC)])
theorem Zd5 {t0 t1:Bool}{t2 t3:Bool}{b mA mE:Int}{mD:List Z1}{mF:List Zr}{mB:List Zh}{mC:List Zt}:∀(s3:Int×(List Int)) (r:List Int),lp (ZaI b (fun z0 z1=>Zu z0 z1 mB)) s3=some r->lpW ctx 2 [0,3,8,9,12] [] Zt0 [(.sl 0 1),(.fn 143 [(.ptr 1 0)]),(zN b),(zN 0),(zN s3.1)] [(zA s3.2),(zK0 mA mE t0 mD t1 mF t2 mB t3 mC)]=some ((ZbV t0 t1 t2 t3 b mA mE mD mF mB mC) r):=
 lpT (ZbV t0 t1 t2 t3 b mA mE mD mF mB mC) fun s3 _ ih=>yB (yG fun x4 hx4=>
  Ze (Zi rfl hx4) (yG fun x5 hx5=>
  Ze (Zi rfl hx5) (Ze (Z3 rfl hx5) (Ze (Zi rfl hx5) (Zj (ZI Zm s3.2 b.toNat x4) (yG fun x6 hx6=>
  Ze (Zi rfl hx6) (Zj (ZI Zm (List.set s3.2 b.toNat x4) (w64 (b+s3.1)).toNat x5) (Zc _ Zb9 fun x7 _=>
  Zd (ih _)))))))))
  (Zk rfl)
theorem Zap {t0 t1:Bool}{t2 t3:Bool}{b c:Int}{mG:List Int}{mA mE:Int}{mD:List Z1}{mF:List Zr}{mB:List Zh}{mC:List Zt}:∀r,(Z7 b c (fun z0 z1=>Zu z0 z1 mB) mG)=some r->evW ctx 146 [(.sl 0 1),(zN b),(zN c),(.fn 143 [(.ptr 1 0)])] [(zA mG),(zK0 mA mE t0 mD t1 mF t2 mB t3 mC)]=some ((Ze9 t0 t1 t2 t3 b c mG mA mE mD mF mB mC) r):=
 evS Zyz rfl rfl <| yF (Zc _ (Zd8 _) fun r2 _=>
  Zc _ (Zd5 _) fun r8 _=>
  yR)
def ZfD (t0:Bool) (t1:Bool) (t2:Bool) (t3:Bool) (b:Int) (c:Int) (mG:List Int) (mA:Int) (mI:Int) (mP:Int) (mO:List Z1) (mN:List Zr) (mM:List Zh) (mQ:List Zt):(Int×Int×Int)->V×Zl
  | r=>((.d (D.tup [(Zm r.1),(Zm r.2.1)])),[(zA mG),(.cells [(zN r.2.2)]),(zK0 mI mP t0 mO t1 mN t2 mM t3 mQ)])
theorem Za5 {t0 t1:Bool}{t2 t3:Bool}{b c:Int}{mG:List Int}{mA mI mP:Int}{mO:List Z1}{mN:List Zr}{mM:List Zh}{mQ:List Zt}:∀r,(ZaR b c (fun z0 z1=>Zu z0 z1 mM) mG mA)=some r->evW ctx 174 [(.sl 0 1),(zN b),(zN c),(.ptr 1 0),(.fn 143 [(.ptr 2 0)])] [(zA mG),(.cells [(zN mA)]),(zK0 mI mP t0 mO t1 mN t2 mM t3 mQ)]=some ((ZfD t0 t1 t2 t3 b c mG mA mI mP mO mN mM mQ) r):=
 evS Zyg rfl rfl <| yG fun x0 hx0=>
  Ze (Zi rfl hx0) (yG fun x1 hx1=>
  Ze (Zi rfl hx1) (yC ZF fun x2 _=>
  yBr yR))
def ZfC (t0:Bool) (t1:Bool) (t2:Bool) (t3:Bool) (b:Int) (c:Int) (d:Int) (mG:List Int) (mA:Int) (mI:Int) (mP:Int) (mO:List Z1) (mN:List Zr) (mM:List Zh) (mQ:List Zt):(Int×Int)->V×Zl
  | r=>((zN r.1),[(zA mG),(.cells [(zN r.2)]),(zK0 mI mP t0 mO t1 mN t2 mM t3 mQ)])
theorem Za6 {t0 t1:Bool}{t2 t3:Bool}{b c d:Int}{mG:List Int}{mA mI mP:Int}{mO:List Z1}{mN:List Zr}{mM:List Zh}{mQ:List Zt}:∀r,(ZaQ b c d (fun z0 z1=>Zu z0 z1 mM) mG mA)=some r->evW ctx 164 [(.sl 0 1),(zN b),(zN c),(zN d),(.ptr 1 0),(.fn 143 [(.ptr 2 0)])] [(zA mG),(.cells [(zN mA)]),(zK0 mI mP t0 mO t1 mN t2 mM t3 mQ)]=some ((ZfC t0 t1 t2 t3 b c d mG mA mI mP mO mN mM mQ) r):=
 evS Zyy rfl rfl <| Zc _ Za5 fun x0 _=>
  Zc _ Za5 fun x1 _=>
  Zc _ Za5 fun x2 _=>
  yR
def ZdA (t0:Bool) (t1:Bool) (t2:Bool) (t3:Bool) (b:Int) (mG:List Int) (mA:Int) (mI:Int) (mP:Int) (mO:List Z1) (mN:List Zr) (mM:List Zh) (mQ:List Zt):(Int×Int)->V×Zl
  | r=>((zN r.1),[(zA mG),(.cells [(zN r.2)]),(zK0 mI mP t0 mO t1 mN t2 mM t3 mQ)])
theorem ZaE {t0 t1:Bool}{t2 t3:Bool}{b:Int}{mG:List Int}{mA mI mP:Int}{mO:List Z1}{mN:List Zr}{mM:List Zh}{mQ:List Zt}:∀r,(Z9 b (fun z0 z1=>Zu z0 z1 mM) mG mA)=some r->evW ctx 163 [(.sl 0 1),(zN b),(.ptr 1 0),(.fn 143 [(.ptr 2 0)])] [(zA mG),(.cells [(zN mA)]),(zK0 mI mP t0 mO t1 mN t2 mM t3 mQ)]=some ((ZdA t0 t1 t2 t3 b mG mA mI mP mO mN mM mQ) r):=
 evS Zyu rfl rfl <| Zc _ Za6 fun x0 _=>
  yR
def Zej (t0:Bool) (t1:Bool) (t2:Bool) (t3:Bool) (b:Int) (c:Int) (mG:List Int) (mA:Int) (mE:Int) (mD:List Z1) (mF:List Zr) (mB:List Zh) (mC:List Zt):(Int×Int)->V×Zl
  | r=>((.d (D.tup [(Zm r.1),(Zm r.2)])),[(zA mG),(zK0 mA mE t0 mD t1 mF t2 mB t3 mC)])
theorem Zah {t0 t1:Bool}{t2 t3:Bool}{b c:Int}{mG:List Int}{mA mE:Int}{mD:List Z1}{mF:List Zr}{mB:List Zh}{mC:List Zt}:∀r,(ZQ b c (fun z0 z1=>Zu z0 z1 mB) mG)=some r->evW ctx 148 [(.sl 0 1),(zN b),(zN c),(.fn 143 [(.ptr 1 0)])] [(zA mG),(zK0 mA mE t0 mD t1 mF t2 mB t3 mC)]=some ((Zej t0 t1 t2 t3 b c mG mA mE mD mF mB mC) r):=
 evS Zyp rfl rfl <| yF (yF (yF (yB (yB (Zc _ ZaE fun x0 _=>
  Zc _ ZaE fun x1 _=>
  Zc _ ZaE fun x2 _=>
  Zc _ Za6 fun x3 _=>
  yBr (yBr yR))
  (Zc _ Za6 fun x4 _=>
  yBr (yBr yR)))
  (yT yR))))
def ZdX (t0:Bool) (t1:Bool) (t2:Bool) (t3:Bool) (b:Int) (c:Int) (mG:List Int) (mA:Int) (mE:Int) (mD:List Z1) (mF:List Zr) (mB:List Zh) (mC:List Zt):(List Int)->V×Zl
  | r=>((.d (D.tup [])),[(zA r),(zK0 mA mE t0 mD t1 mF t2 mB t3 mC)])
def Zby (t0:Bool) (t1:Bool) (t2:Bool) (t3:Bool) (mA:Int) (mE:Int) (mD:List Z1) (mF:List Zr) (mB:List Zh) (mC:List Zt):(List Int)->Ex×List V×Zl
  | r=>(.exit 0,[],[(zA r),(zK0 mA mE t0 mD t1 mF t2 mB t3 mC)])
theorem Zdf {t0 t1:Bool}{t2 t3:Bool}{mA mE:Int}{mD:List Z1}{mF:List Zr}{mB:List Zh}{mC:List Zt}:∀(s0:Int×Int×(List Int)) (r:List Int),lp (Z4) s0=some r->lpW ctx 2 [0,8,9] [] ZuR [(.sl 0 1),(zN s0.1),(zN s0.2.1)] [(zA s0.2.2),(zK0 mA mE t0 mD t1 mF t2 mB t3 mC)]=some ((Zby t0 t1 t2 t3 mA mE mD mF mB mC) r):=
 lpT (Zby t0 t1 t2 t3 mA mE mD mF mB mC) fun s0 _ ih=>yB (yG fun x1 hx1=>
  Ze (Zi rfl hx1) (yG fun x2 hx2=>
  Ze (Zi rfl hx2) (Ze (Z3 rfl hx2) (Ze (Zi rfl hx2) (Zj (ZI Zm s0.2.2 s0.1.toNat x1) (yG fun x3 hx3=>
  Ze (Zi rfl hx3) (Zj (ZI Zm (List.set s0.2.2 s0.1.toNat x1) s0.2.1.toNat x2) (Zd (ih _)))))))))
  (Zk rfl)
theorem Zag {t0 t1:Bool}{t2 t3:Bool}{b c:Int}{mG:List Int}{mA mE:Int}{mD:List Z1}{mF:List Zr}{mB:List Zh}{mC:List Zt}:∀r,(ZO b c (fun z0 z1=>Zu z0 z1 mB) mG)=some r->evW ctx 149 [(.sl 0 1),(zN b),(zN c),(.fn 143 [(.ptr 1 0)])] [(zA mG),(zK0 mA mE t0 mD t1 mF t2 mB t3 mC)]=some ((ZdX t0 t1 t2 t3 b c mG mA mE mD mF mB mC) r):=
 evS Zyt rfl rfl <| Zc _ (Zdf _) fun r4 _=>
  yR
def ZcQ (t0:Bool) (t1:Bool) (t2:Bool) (t3:Bool) (b:Int) (c:Int) (mG:List Int) (mA:Int) (mE:Int) (mD:List Z1) (mF:List Zr) (mB:List Zh) (mC:List Zt):((List Int)⊕(List Int))->V×Zl
  | (.inl r)=>((.d (D.bool true)),[(zA r),(zK0 mA mE t0 mD t1 mF t2 mB t3 mC)])
  | (.inr r)=>((.d (D.bool false)),[(zA r),(zK0 mA mE t0 mD t1 mF t2 mB t3 mC)])
def Za1 (t0:Bool) (t1:Bool) (t2:Bool) (t3:Bool) (b:Int) (c:Int) (mA:Int) (mE:Int) (mD:List Z1) (mF:List Zr) (mB:List Zh) (mC:List Zt) (s0:Int×Int×(List Int)):Int->Ex×List V×Zl
  | r=>(.exit 2,[(.sl 0 1),(zN b),(zN c),(.fn 143 [(.ptr 1 0)]),(zN r),(zN s0.2.1)],[(zA s0.2.2),(zK0 mA mE t0 mD t1 mF t2 mB t3 mC)])
theorem Zcy {t0 t1:Bool}{t2 t3:Bool}{b c:Int}{mA mE:Int}{mD:List Z1}{mF:List Zr}{mB:List Zh}{mC:List Zt}{s0:Int×Int×(List Int)}:∀(s1:Int) (r:Int),lp (ZM c (fun z0 z1=>Zu z0 z1 mB) s0) s1=some r->lpW ctx 2 [0,1,2,3,9,10] [0,1,2,3,9,10] ZuS [(.sl 0 1),(zN b),(zN c),(.fn 143 [(.ptr 1 0)]),(zN s1),(zN s0.2.1)] [(zA s0.2.2),(zK0 mA mE t0 mD t1 mF t2 mB t3 mC)]=some ((Za1 t0 t1 t2 t3 b c mA mE mD mF mB mC s0) r):=
 lpT (Za1 t0 t1 t2 t3 b c mA mE mD mF mB mC s0) fun s1 _ ih=>yB (yG fun x2 hx2=>
  Ze (Zi rfl hx2) (yG fun x3 hx3=>
  Ze (Zi rfl hx3) (yC ZF fun x4 _=>
  yB (Zk rfl)
  (Zd (ih _)))))
  (Zk rfl)
def ZaX (t0:Bool) (t1:Bool) (t2:Bool) (t3:Bool) (b:Int) (c:Int) (mA:Int) (mE:Int) (mD:List Z1) (mF:List Zr) (mB:List Zh) (mC:List Zt) (s0:Int×Int×(List Int)) (r5:Int):(List Int)->Ex×List V×Zl
  | r=>(.exit 4,[(.sl 0 1),(zN b),(zN c),(.fn 143 [(.ptr 1 0)]),(zN r5),(zN s0.2.1)],[(zA r),(zK0 mA mE t0 mD t1 mF t2 mB t3 mC)])
theorem Zcx {t0 t1:Bool}{t2 t3:Bool}{b c:Int}{mA mE:Int}{mD:List Z1}{mF:List Zr}{mB:List Zh}{mC:List Zt}{s0:Int×Int×(List Int)}{r5:Int}:∀(s9:Int×(List Int)) (r:List Int),lp (ZV (fun z0 z1=>Zu z0 z1 mB)) s9=some r->lpW ctx 2 [0,1,2,3,9,10,11] [0,1,2,3,9,10] Zt8 [(.sl 0 1),(zN b),(zN c),(.fn 143 [(.ptr 1 0)]),(zN r5),(zN s0.2.1),(zN s9.1)] [(zA s9.2),(zK0 mA mE t0 mD t1 mF t2 mB t3 mC)]=some ((ZaX t0 t1 t2 t3 b c mA mE mD mF mB mC s0 r5) r):=
 lpT (ZaX t0 t1 t2 t3 b c mA mE mD mF mB mC s0 r5) fun s9 _ ih=>yB (yG fun x10 hx10=>
  Ze (Zi rfl hx10) (yG fun x11 hx11=>
  Ze (Zi rfl hx11) (yC ZF fun x12 _=>
  yB (Ze (Z3 rfl hx11) (Ze (Zi rfl hx11) (Ze (Z3 rfl hx10) (Ze (Zi rfl hx10) (Ze (Z3 rfl hx10) (Ze (Zi rfl hx10) (Zj (ZI Zm s9.2 s9.1.toNat x11) (yG fun x13 hx13=>
  Ze (Zi rfl hx13) (Zj (ZI Zm (List.set s9.2 s9.1.toNat x11) (w64 (s9.1-1)).toNat x10) (Zd (ih _)))))))))))
  (Zk rfl))))
  (Zk rfl)
def ZaY (t0:Bool) (t1:Bool) (t2:Bool) (t3:Bool) (b:Int) (c:Int) (mA:Int) (mE:Int) (mD:List Z1) (mF:List Zr) (mB:List Zh) (mC:List Zt) (s0:Int×Int×(List Int)) (r5:Int):(List Int)->Ex×List V×Zl
  | r=>(.exit 6,[(.sl 0 1),(zN b),(zN c),(.fn 143 [(.ptr 1 0)]),(zN r5),(zN s0.2.1)],[(zA r),(zK0 mA mE t0 mD t1 mF t2 mB t3 mC)])
theorem ZaV {t0 t1:Bool}{t2 t3:Bool}{b c:Int}{mA mE:Int}{mD:List Z1}{mF:List Zr}{mB:List Zh}{mC:List Zt}{s0:Int×Int×(List Int)}{r5:Int}:∀(s15:Int×(List Int)) (r:List Int),lp (ZH c (fun z0 z1=>Zu z0 z1 mB)) s15=some r->lpW ctx 2 [0,1,2,3,9,10,12] [0,1,2,3,9,10] ZtR [(.sl 0 1),(zN b),(zN c),(.fn 143 [(.ptr 1 0)]),(zN r5),(zN s0.2.1),(zN s15.1)] [(zA s15.2),(zK0 mA mE t0 mD t1 mF t2 mB t3 mC)]=some ((ZaY t0 t1 t2 t3 b c mA mE mD mF mB mC s0 r5) r):=
 lpT (ZaY t0 t1 t2 t3 b c mA mE mD mF mB mC s0 r5) fun s15 _ ih=>yB (yG fun x16 hx16=>
  Ze (Zi rfl hx16) (yG fun x17 hx17=>
  Ze (Zi rfl hx17) (yC ZF fun x18 _=>
  yB (Ze (Z3 rfl hx17) (Ze (Zi rfl hx17) (Ze (Z3 rfl hx16) (Ze (Zi rfl hx16) (Ze (Z3 rfl hx16) (Ze (Zi rfl hx16) (Zj (ZI Zm s15.2 s15.1.toNat x17) (yG fun x19 hx19=>
  Ze (Zi rfl hx19) (Zj (ZI Zm (List.set s15.2 s15.1.toNat x17) (w64 (s15.1-1)).toNat x16) (Zd (ih _)))))))))))
  (Zk rfl))))
  (Zk rfl)
def ZaZ (t0:Bool) (t1:Bool) (t2:Bool) (t3:Bool) (b:Int) (c:Int) (mA:Int) (mE:Int) (mD:List Z1) (mF:List Zr) (mB:List Zh) (mC:List Zt):((List Int)⊕((List Int)⊕(List Int)))->Ex×List V×Zl
  | (.inl r)=>(.ret,[(.d (D.bool true))],[(zA r),(zK0 mA mE t0 mD t1 mF t2 mB t3 mC)])
  | (.inr (.inl r))=>(.ret,[(.d (D.bool false))],[(zA r),(zK0 mA mE t0 mD t1 mF t2 mB t3 mC)])
  | (.inr (.inr r))=>(.exit 0,[.bad],[(zA r),(zK0 mA mE t0 mD t1 mF t2 mB t3 mC)])
theorem ZcC {t0 t1:Bool}{t2 t3:Bool}{b c:Int}{mA mE:Int}{mD:List Z1}{mF:List Zr}{mB:List Zh}{mC:List Zt}:∀(s0:Int×Int×(List Int)) (r:((List Int)⊕((List Int)⊕(List Int)))),lp (ZU b c (fun z0 z1=>Zu z0 z1 mB)) s0=some r->lpW ctx 2 [0,1,2,3,9,10] [8] Zuy [(.sl 0 1),(zN b),(zN c),(.fn 143 [(.ptr 1 0)]),(zN s0.1),(zN s0.2.1)] [(zA s0.2.2),(zK0 mA mE t0 mD t1 mF t2 mB t3 mC)]=some ((ZaZ t0 t1 t2 t3 b c mA mE mD mF mB mC) r):=
 lpT (ZaZ t0 t1 t2 t3 b c mA mE mD mF mB mC) fun s0 _ ih=>yB (Zc _ (Zcy _) fun r5 _=>
  yB (Zk rfl)
  (yB (Zk rfl)
  (yG fun x6 hx6=>
  Ze (Zi rfl hx6) (yG fun x7 hx7=>
  Ze (Zi rfl hx7) (Ze (Z3 rfl hx7) (Ze (Zi rfl hx7) (Zj (ZI Zm s0.2.2 r5.toNat x6) (yG fun x8 hx8=>
  Ze (Zi rfl hx8) (Zj (ZI Zm (List.set s0.2.2 r5.toNat x6) (w64 (r5-1)).toNat x7) (yB (Zc _ (Zcx _) fun r14 _=>
  yB (Zc _ (ZaV _) fun r20 _=>
  Zd (ih _))
  (Zd (ih _)))
  (yB (Zc _ (ZaV _) fun r26 _=>
  Zd (ih _))
  (Zd (ih _)))))))))))))
  (Zk rfl)
theorem Za9 {t0 t1:Bool}{t2 t3:Bool}{b c:Int}{mG:List Int}{mA mE:Int}{mD:List Z1}{mF:List Zr}{mB:List Zh}{mC:List Zt}:∀r,(ZS b c (fun z0 z1=>Zu z0 z1 mB) mG)=some r->evW ctx 150 [(.sl 0 1),(zN b),(zN c),(.fn 143 [(.ptr 1 0)])] [(zA mG),(zK0 mA mE t0 mD t1 mF t2 mB t3 mC)]=some ((ZcQ t0 t1 t2 t3 b c mG mA mE mD mF mB mC) r):=
 evS ZxJ rfl rfl <| (by
 conv=>rhs;whnf
 refine Zc _ (ZcC _) fun r27 _=>?_
 rcases r27 with r27 | (r27 | r27)
 exact yR
 exact yR
 exact yR)
def ZeX (t0:Bool) (t1:Bool) (t2:Bool) (t3:Bool) (b:Int) (c:Int) (d:Int) (mG:List Int) (mA:Int) (mE:Int) (mD:List Z1) (mF:List Zr) (mB:List Zh) (mC:List Zt):((Int×(List Int))⊕(Int×(List Int)))->V×Zl
  | (.inl r)=>((.d (D.tup [(Zm r.1),(D.bool true)])),[(zA r.2),(zK0 mA mE t0 mD t1 mF t2 mB t3 mC)])
  | (.inr r)=>((.d (D.tup [(Zm r.1),(D.bool false)])),[(zA r.2),(zK0 mA mE t0 mD t1 mF t2 mB t3 mC)])
def ZbS (t0:Bool) (t1:Bool) (t2:Bool) (t3:Bool) (b:Int) (c:Int) (d:Int) (mG:List Int) (mA:Int) (mE:Int) (mD:List Z1) (mF:List Zr) (mB:List Zh) (mC:List Zt) (x0:Int) (x1:Int):Int->Ex×List V×Zl
  | r=>(.exit 0,[(.sl 0 1),(zN b),(.fn 143 [(.ptr 1 0)]),(zN r),(zN (w64 (c-1)))],[(zA (List.set (List.set mG b.toNat x0) d.toNat x1)),(zK0 mA mE t0 mD t1 mF t2 mB t3 mC)])
theorem ZdR {t0 t1:Bool}{t2 t3:Bool}{b c d:Int}{mG:List Int}{mA mE:Int}{mD:List Z1}{mF:List Zr}{mB:List Zh}{mC:List Zt}{x0 x1:Int}:∀(s3:Int) (r:Int),lp (Zay b c d mG (fun z0 z1=>Zu z0 z1 mB) x0 x1) s3=some r->lpW ctx 2 [0,1,4,12,13] [0,1,4,12,13] ZuO [(.sl 0 1),(zN b),(.fn 143 [(.ptr 1 0)]),(zN s3),(zN (w64 (c-1)))] [(zA (List.set (List.set mG b.toNat x0) d.toNat x1)),(zK0 mA mE t0 mD t1 mF t2 mB t3 mC)]=some ((ZbS t0 t1 t2 t3 b c d mG mA mE mD mF mB mC x0 x1) r):=
 lpT (ZbS t0 t1 t2 t3 b c d mG mA mE mD mF mB mC x0 x1) fun s3 _ ih=>yB (yG fun x4 hx4=>
  Ze (Zi rfl hx4) (yG fun x5 hx5=>
  Ze (Zi rfl hx5) (yC ZF fun x6 _=>
  yB (Zd (ih _))
  (Zk rfl))))
  (Zk rfl)
def ZbP (t0:Bool) (t1:Bool) (t2:Bool) (t3:Bool) (b:Int) (d:Int) (mG:List Int) (mA:Int) (mE:Int) (mD:List Z1) (mF:List Zr) (mB:List Zh) (mC:List Zt) (x0:Int) (x1:Int) (r7:Int):Int->Ex×List V×Zl
  | r=>(.exit 2,[(.sl 0 1),(zN b),(.fn 143 [(.ptr 1 0)]),(zN r7),(zN r)],[(zA (List.set (List.set mG b.toNat x0) d.toNat x1)),(zK0 mA mE t0 mD t1 mF t2 mB t3 mC)])
theorem ZdO {t0 t1:Bool}{t2 t3:Bool}{b d:Int}{mG:List Int}{mA mE:Int}{mD:List Z1}{mF:List Zr}{mB:List Zh}{mC:List Zt}{x0 x1 r7:Int}:∀(s8:Int) (r:Int),lp (Zax b d mG (fun z0 z1=>Zu z0 z1 mB) x0 x1 r7) s8=some r->lpW ctx 2 [0,1,4,12,13] [0,1,4,12,13] Zt3 [(.sl 0 1),(zN b),(.fn 143 [(.ptr 1 0)]),(zN r7),(zN s8)] [(zA (List.set (List.set mG b.toNat x0) d.toNat x1)),(zK0 mA mE t0 mD t1 mF t2 mB t3 mC)]=some ((ZbP t0 t1 t2 t3 b d mG mA mE mD mF mB mC x0 x1 r7) r):=
 lpT (ZbP t0 t1 t2 t3 b d mG mA mE mD mF mB mC x0 x1 r7) fun s8 _ ih=>yB (yG fun x9 hx9=>
  Ze (Zi rfl hx9) (yG fun x10 hx10=>
  Ze (Zi rfl hx10) (yC ZF fun x11 _=>
  yB (Zk rfl)
  (Zd (ih _)))))
  (Zk rfl)
def ZbK (t0:Bool) (t1:Bool) (t2:Bool) (t3:Bool) (b:Int) (mA:Int) (mE:Int) (mD:List Z1) (mF:List Zr) (mB:List Zh) (mC:List Zt) (s19:Int×Int×(List Int)):Int->Ex×List V×Zl
  | r=>(.exit 6,[(.sl 0 1),(zN b),(.fn 143 [(.ptr 1 0)]),(zN r),(zN s19.2.1)],[(zA s19.2.2),(zK0 mA mE t0 mD t1 mF t2 mB t3 mC)])
theorem ZdV {t0 t1:Bool}{t2 t3:Bool}{b mA mE:Int}{mD:List Z1}{mF:List Zr}{mB:List Zh}{mC:List Zt}{s19:Int×Int×(List Int)}:∀(s20:Int) (r:Int),lp (Zaz b (fun z0 z1=>Zu z0 z1 mB) s19) s20=some r->lpW ctx 2 [0,1,4,12,13] [0,1,4,12,13] ZtV [(.sl 0 1),(zN b),(.fn 143 [(.ptr 1 0)]),(zN s20),(zN s19.2.1)] [(zA s19.2.2),(zK0 mA mE t0 mD t1 mF t2 mB t3 mC)]=some ((ZbK t0 t1 t2 t3 b mA mE mD mF mB mC s19) r):=
 lpT (ZbK t0 t1 t2 t3 b mA mE mD mF mB mC s19) fun s20 _ ih=>yB (yG fun x21 hx21=>
  Ze (Zi rfl hx21) (yG fun x22 hx22=>
  Ze (Zi rfl hx22) (yC ZF fun x23 _=>
  yB (Zd (ih _))
  (Zk rfl))))
  (Zk rfl)
def ZbR (t0:Bool) (t1:Bool) (t2:Bool) (t3:Bool) (b:Int) (mA:Int) (mE:Int) (mD:List Z1) (mF:List Zr) (mB:List Zh) (mC:List Zt) (s19:Int×Int×(List Int)) (r24:Int):Int->Ex×List V×Zl
  | r=>(.exit 8,[(.sl 0 1),(zN b),(.fn 143 [(.ptr 1 0)]),(zN r24),(zN r)],[(zA s19.2.2),(zK0 mA mE t0 mD t1 mF t2 mB t3 mC)])
theorem ZdJ {t0 t1:Bool}{t2 t3:Bool}{b mA mE:Int}{mD:List Z1}{mF:List Zr}{mB:List Zh}{mC:List Zt}{s19:Int×Int×(List Int)}{r24:Int}:∀(s25:Int) (r:Int),lp (Zav b (fun z0 z1=>Zu z0 z1 mB) s19 r24) s25=some r->lpW ctx 2 [0,1,4,12,13] [0,1,4,12,13] ZuV [(.sl 0 1),(zN b),(.fn 143 [(.ptr 1 0)]),(zN r24),(zN s25)] [(zA s19.2.2),(zK0 mA mE t0 mD t1 mF t2 mB t3 mC)]=some ((ZbR t0 t1 t2 t3 b mA mE mD mF mB mC s19 r24) r):=
 lpT (ZbR t0 t1 t2 t3 b mA mE mD mF mB mC s19 r24) fun s25 _ ih=>yB (yG fun x26 hx26=>
  Ze (Zi rfl hx26) (yG fun x27 hx27=>
  Ze (Zi rfl hx27) (yC ZF fun x28 _=>
  yB (Zk rfl)
  (Zd (ih _)))))
  (Zk rfl)
def ZbO (t0:Bool) (t1:Bool) (t2:Bool) (t3:Bool) (b:Int) (mA:Int) (mE:Int) (mD:List Z1) (mF:List Zr) (mB:List Zh) (mC:List Zt):(Int×(List Int))->Ex×List V×Zl
  | r=>(.exit 4,[(.sl 0 1),(zN b),(zN r.1)],[(zA r.2),(zK0 mA mE t0 mD t1 mF t2 mB t3 mC)])
theorem ZdT {t0 t1:Bool}{t2 t3:Bool}{b mA mE:Int}{mD:List Z1}{mF:List Zr}{mB:List Zh}{mC:List Zt}:∀(s19:Int×Int×(List Int)) (r:(Int×(List Int))),lp (ZaW b (fun z0 z1=>Zu z0 z1 mB)) s19=some r->lpW ctx 2 [0,1,4,12,13] [0,1,13] Zut [(.sl 0 1),(zN b),(.fn 143 [(.ptr 1 0)]),(zN s19.1),(zN s19.2.1)] [(zA s19.2.2),(zK0 mA mE t0 mD t1 mF t2 mB t3 mC)]=some ((ZbO t0 t1 t2 t3 b mA mE mD mF mB mC) r):=
 lpT (ZbO t0 t1 t2 t3 b mA mE mD mF mB mC) fun s19 _ ih=>Zc _ (ZdV _) fun r24 _=>
  Zc _ (ZdJ _) fun r29 _=>
  yB (Zk rfl)
  (yG fun x30 hx30=>
  Ze (Zi rfl hx30) (yG fun x31 hx31=>
  Ze (Zi rfl hx31) (Ze (Z3 rfl hx31) (Ze (Zi rfl hx31) (Zj (ZI Zm s19.2.2 r24.toNat x30) (yG fun x32 hx32=>
  Ze (Zi rfl hx32) (Zj (ZI Zm (List.set s19.2.2 r24.toNat x30) r29.toNat x31) (Zd (ih _)))))))))
theorem Zn {t0 t1:Bool}{t2 t3:Bool}{b c d:Int}{mG:List Int}{mA mE:Int}{mD:List Z1}{mF:List Zr}{mB:List Zh}{mC:List Zt}:∀r,(Zs b c d (fun z0 z1=>Zu z0 z1 mB) mG)=some r->evW ctx 152 [(.sl 0 1),(zN b),(zN c),(zN d),(.fn 143 [(.ptr 1 0)])] [(zA mG),(zK0 mA mE t0 mD t1 mF t2 mB t3 mC)]=some ((ZeX t0 t1 t2 t3 b c d mG mA mE mD mF mB mC) r):=
 evS Zx4 rfl rfl <| yG fun x0 hx0=>
  Ze (Zi rfl hx0) (yG fun x1 hx1=>
  Ze (Zi rfl hx1) (Ze (Z3 rfl hx1) (Ze (Zi rfl hx1) (Zj (ZI Zm mG b.toNat x0) (yG fun x2 hx2=>
  Ze (Zi rfl hx2) (Zj (ZI Zm (List.set mG b.toNat x0) d.toNat x1) (Zc _ (ZdR _) fun r7 _=>
  Zc _ (ZdO _) fun r12 _=>
  yB (yG fun x13 hx13=>
  Ze (Zi rfl hx13) (yG fun x14 hx14=>
  Ze (Zi rfl hx14) (Ze (Z3 rfl hx14) (Ze (Zi rfl hx14) (Zj (ZI Zm (List.set (List.set mG b.toNat x0) d.toNat x1) r12.toNat x13) (yG fun x15 hx15=>
  Ze (Zi rfl hx15) (Zj (ZI Zm (List.set (List.set (List.set mG b.toNat x0) d.toNat x1) r12.toNat x13) b.toNat x14) yR)))))))
  (yG fun x16 hx16=>
  Ze (Zi rfl hx16) (yG fun x17 hx17=>
  Ze (Zi rfl hx17) (Ze (Z3 rfl hx17) (Ze (Zi rfl hx17) (Zj (ZI Zm (List.set (List.set mG b.toNat x0) d.toNat x1) r7.toNat x16) (yG fun x18 hx18=>
  Ze (Zi rfl hx18) (Zj (ZI Zm (List.set (List.set (List.set mG b.toNat x0) d.toNat x1) r7.toNat x16) r12.toNat x17) (Zc _ (ZdT _) fun r33 _=>
  yG fun x34 hx34=>
  Ze (Zi rfl hx34) (yG fun x35 hx35=>
  Ze (Zi rfl hx35) (Ze (Z3 rfl hx35) (Ze (Zi rfl hx35) (Zj (ZI Zm r33.2 r33.1.toNat x34) (yG fun x36 hx36=>
  Ze (Zi rfl hx36) (Zj (ZI Zm (List.set r33.2 r33.1.toNat x34) b.toNat x35) yR)))))))))))))))))))))
def ZdD (t0:Bool) (t1:Bool) (t2:Bool) (t3:Bool) (b:Int) (c:Int) (d:Int) (mG:List Int) (mA:Int) (mE:Int) (mD:List Z1) (mF:List Zr) (mB:List Zh) (mC:List Zt):(Int×(List Int))->V×Zl
  | r=>((zN r.1),[(zA r.2),(zK0 mA mE t0 mD t1 mF t2 mB t3 mC)])
def Zbo (t0:Bool) (t1:Bool) (t2:Bool) (t3:Bool) (b:Int) (mA:Int) (mE:Int) (mD:List Z1) (mF:List Zr) (mB:List Zh) (mC:List Zt) (s3:Int×Int×(List Int)):Int->Ex×List V×Zl
  | r=>(.exit 2,[(.sl 0 1),(zN b),(.fn 143 [(.ptr 1 0)]),(zN r),(zN s3.2.1)],[(zA s3.2.2),(zK0 mA mE t0 mD t1 mF t2 mB t3 mC)])
theorem ZcY {t0 t1:Bool}{t2 t3:Bool}{b mA mE:Int}{mD:List Z1}{mF:List Zr}{mB:List Zh}{mC:List Zt}{s3:Int×Int×(List Int)}:∀(s4:Int) (r:Int),lp (Zae b (fun z0 z1=>Zu z0 z1 mB) s3) s4=some r->lpW ctx 2 [0,1,4,11,12] [0,1,4,11,12] Zu0 [(.sl 0 1),(zN b),(.fn 143 [(.ptr 1 0)]),(zN s4),(zN s3.2.1)] [(zA s3.2.2),(zK0 mA mE t0 mD t1 mF t2 mB t3 mC)]=some ((Zbo t0 t1 t2 t3 b mA mE mD mF mB mC s3) r):=
 lpT (Zbo t0 t1 t2 t3 b mA mE mD mF mB mC s3) fun s4 _ ih=>yB (yG fun x5 hx5=>
  Ze (Zi rfl hx5) (yG fun x6 hx6=>
  Ze (Zi rfl hx6) (yC ZF fun x7 _=>
  yB (Zk rfl)
  (Zd (ih _)))))
  (Zk rfl)
def Zbp (t0:Bool) (t1:Bool) (t2:Bool) (t3:Bool) (b:Int) (mA:Int) (mE:Int) (mD:List Z1) (mF:List Zr) (mB:List Zh) (mC:List Zt) (s3:Int×Int×(List Int)) (r8:Int):Int->Ex×List V×Zl
  | r=>(.exit 4,[(.sl 0 1),(zN b),(.fn 143 [(.ptr 1 0)]),(zN r8),(zN r)],[(zA s3.2.2),(zK0 mA mE t0 mD t1 mF t2 mB t3 mC)])
theorem Zc4 {t0 t1:Bool}{t2 t3:Bool}{b mA mE:Int}{mD:List Z1}{mF:List Zr}{mB:List Zh}{mC:List Zt}{s3:Int×Int×(List Int)}{r8:Int}:∀(s9:Int) (r:Int),lp (Zaf b (fun z0 z1=>Zu z0 z1 mB) s3 r8) s9=some r->lpW ctx 2 [0,1,4,11,12] [0,1,4,11,12] Zup [(.sl 0 1),(zN b),(.fn 143 [(.ptr 1 0)]),(zN r8),(zN s9)] [(zA s3.2.2),(zK0 mA mE t0 mD t1 mF t2 mB t3 mC)]=some ((Zbp t0 t1 t2 t3 b mA mE mD mF mB mC s3 r8) r):=
 lpT (Zbp t0 t1 t2 t3 b mA mE mD mF mB mC s3 r8) fun s9 _ ih=>yB (yG fun x10 hx10=>
  Ze (Zi rfl hx10) (yG fun x11 hx11=>
  Ze (Zi rfl hx11) (yC ZF fun x12 _=>
  yB (Zd (ih _))
  (Zk rfl))))
  (Zk rfl)
def Zbn (t0:Bool) (t1:Bool) (t2:Bool) (t3:Bool) (b:Int) (mA:Int) (mE:Int) (mD:List Z1) (mF:List Zr) (mB:List Zh) (mC:List Zt):(Int×(List Int))->Ex×List V×Zl
  | r=>(.exit 0,[(zN r.1)],[(zA r.2),(zK0 mA mE t0 mD t1 mF t2 mB t3 mC)])
theorem Zc0 {t0 t1:Bool}{t2 t3:Bool}{b mA mE:Int}{mD:List Z1}{mF:List Zr}{mB:List Zh}{mC:List Zt}:∀(s3:Int×Int×(List Int)) (r:(Int×(List Int))),lp (Zaw b (fun z0 z1=>Zu z0 z1 mB)) s3=some r->lpW ctx 2 [0,1,4,11,12] [11] Zuz [(.sl 0 1),(zN b),(.fn 143 [(.ptr 1 0)]),(zN s3.1),(zN s3.2.1)] [(zA s3.2.2),(zK0 mA mE t0 mD t1 mF t2 mB t3 mC)]=some ((Zbn t0 t1 t2 t3 b mA mE mD mF mB mC) r):=
 lpT (Zbn t0 t1 t2 t3 b mA mE mD mF mB mC) fun s3 _ ih=>Zc _ (ZcY _) fun r8 _=>
  Zc _ (Zc4 _) fun r13 _=>
  yB (Zk rfl)
  (yG fun x14 hx14=>
  Ze (Zi rfl hx14) (yG fun x15 hx15=>
  Ze (Zi rfl hx15) (Ze (Z3 rfl hx15) (Ze (Zi rfl hx15) (Zj (ZI Zm s3.2.2 r8.toNat x14) (yG fun x16 hx16=>
  Ze (Zi rfl hx16) (Zj (ZI Zm (List.set s3.2.2 r8.toNat x14) r13.toNat x15) (Zd (ih _)))))))))
theorem Zy {t0 t1:Bool}{t2 t3:Bool}{b c d:Int}{mG:List Int}{mA mE:Int}{mD:List Z1}{mF:List Zr}{mB:List Zh}{mC:List Zt}:∀r,(ZC b c d (fun z0 z1=>Zu z0 z1 mB) mG)=some r->evW ctx 151 [(.sl 0 1),(zN b),(zN c),(zN d),(.fn 143 [(.ptr 1 0)])] [(zA mG),(zK0 mA mE t0 mD t1 mF t2 mB t3 mC)]=some ((ZdD t0 t1 t2 t3 b c d mG mA mE mD mF mB mC) r):=
 evS Zx8 rfl rfl <| yG fun x0 hx0=>
  Ze (Zi rfl hx0) (yG fun x1 hx1=>
  Ze (Zi rfl hx1) (Ze (Z3 rfl hx1) (Ze (Zi rfl hx1) (Zj (ZI Zm mG b.toNat x0) (yG fun x2 hx2=>
  Ze (Zi rfl hx2) (Zj (ZI Zm (List.set mG b.toNat x0) d.toNat x1) (Zc _ (Zc0 _) fun r17 _=>
  yR)))))))
def ZjH (r:Int):D:=(D.int .u64 r)
theorem Zgm {a:Int}:∀r,(Zda a)=some r->evD ctx 161 [(zN a)]=some (ZjH r):=
 evT Zz7 rfl rfl <| yC Zg7 fun x0 _=>
  yBn yR
def Zke (mG:Int):Unit->V×Zl
  | r=>((.d (D.int .u64 (u64.wrap (Zq (u64.wrap (Zq (u64.wrap (Zq mG ^^^ Zq (u64.wrap (mG*2 ^ 13))).toNat) ^^^ Zq (Int.fdiv (u64.wrap (Zq mG ^^^ Zq (u64.wrap (mG*2 ^ 13))).toNat) (2 ^ 7))).toNat) ^^^ Zq (u64.wrap ((u64.wrap (Zq (u64.wrap (Zq mG ^^^ Zq (u64.wrap (mG*2 ^ 13))).toNat) ^^^ Zq (Int.fdiv (u64.wrap (Zq mG ^^^ Zq (u64.wrap (mG*2 ^ 13))).toNat) (2 ^ 7))).toNat)*2 ^ 17))).toNat))),[(.cells [(.d (D.int .u64 (u64.wrap (Zq (u64.wrap (Zq (u64.wrap (Zq mG ^^^ Zq (u64.wrap (mG*2 ^ 13))).toNat) ^^^ Zq (Int.fdiv (u64.wrap (Zq mG ^^^ Zq (u64.wrap (mG*2 ^ 13))).toNat) (2 ^ 7))).toNat) ^^^ Zq (u64.wrap ((u64.wrap (Zq (u64.wrap (Zq mG ^^^ Zq (u64.wrap (mG*2 ^ 13))).toNat) ^^^ Zq (Int.fdiv (u64.wrap (Zq mG ^^^ Zq (u64.wrap (mG*2 ^ 13))).toNat) (2 ^ 7))).toNat)*2 ^ 17))).toNat)))])])
theorem ZgL {mG:Int}:∀r,ZfN=some r->evW ctx 162 [(.ptr 0 0)] [(.cells [(.d (D.int .u64 mG))])]=some ((Zke mG) r):=
 evS ZCg rfl rfl <| yF (yF (yF yR))
def ZdN (t0:Bool) (t1:Bool) (t2:Bool) (t3:Bool) (b:Int) (c:Int) (mG:List Int) (mA:Int) (mE:Int) (mD:List Z1) (mF:List Zr) (mB:List Zh) (mC:List Zt):(List Int)->V×Zl
  | r=>((.d (D.tup [])),[(zA r),(zK0 mA mE t0 mD t1 mF t2 mB t3 mC)])
def Zbs (t0:Bool) (t1:Bool) (t2:Bool) (t3:Bool) (b:Int) (c:Int) (mA:Int) (mE:Int) (mD:List Z1) (mF:List Zr) (mB:List Zh) (mC:List Zt) (x0:Int):(List Int)->Ex×List V×Zl
  | r=>(.exit 0,[],[(zA r),(zK0 mA mE t0 mD t1 mF t2 mB t3 mC)])
theorem Zc8 {t0 t1:Bool}{t2 t3:Bool}{b c:Int}{mA mE:Int}{mD:List Z1}{mF:List Zr}{mB:List Zh}{mC:List Zt}{x0:Int}:∀(s1:Int×(List Int)×Int) (r:List Int),lp (ZaF b c x0) s1=some r->lpW ctx 2 [0,1,8,9,10,11] [] ZtN [(.sl 0 1),(zN b),(zN (w64 (c-b))),(.ptr 2 0),(.d (D.int .u64 x0)),(zN s1.1)] [(zA s1.2.1),(zK0 mA mE t0 mD t1 mF t2 mB t3 mC),(.cells [(.d (D.int .u64 s1.2.2))])]=some ((Zbs t0 t1 t2 t3 b c mA mE mD mF mB mC x0) r):=
 lpT (Zbs t0 t1 t2 t3 b c mA mE mD mF mB mC x0) fun s1 _ ih=>yF (yB (Zc _ ZgL fun x2 _=>
  yB (yG fun x3 hx3=>
  Ze (Zi rfl hx3) (yG fun x4 hx4=>
  Ze (Zi rfl hx4) (Ze (Z3 rfl hx4) (Ze (Zi rfl hx4) (Zj (ZI Zm s1.2.1 s1.1.toNat x3) (yG fun x5 hx5=>
  Ze (Zi rfl hx5) (Zj (ZI Zm (List.set s1.2.1 s1.1.toNat x3) (w64 (b+(w64 ((w64 (u64.wrap (Zq (u64.wrap (Zq (u64.wrap (Zq (u64.wrap (Zq s1.2.2 ^^^ Zq (u64.wrap (s1.2.2*2 ^ 13))).toNat) ^^^ Zq (Int.fdiv (u64.wrap (Zq s1.2.2 ^^^ Zq (u64.wrap (s1.2.2*2 ^ 13))).toNat) (2 ^ 7))).toNat) ^^^ Zq (u64.wrap ((u64.wrap (Zq (u64.wrap (Zq s1.2.2 ^^^ Zq (u64.wrap (s1.2.2*2 ^ 13))).toNat) ^^^ Zq (Int.fdiv (u64.wrap (Zq s1.2.2 ^^^ Zq (u64.wrap (s1.2.2*2 ^ 13))).toNat) (2 ^ 7))).toNat)*2 ^ 17))).toNat) &&& Zq (u64.wrap (x0-1))).toNat))-(w64 (c-b)))))).toNat x4) (Zd (ih _)))))))))
  (yG fun x6 hx6=>
  Ze (Zi rfl hx6) (yG fun x7 hx7=>
  Ze (Zi rfl hx7) (Ze (Z3 rfl hx7) (Ze (Zi rfl hx7) (Zj (ZI Zm s1.2.1 s1.1.toNat x6) (yG fun x8 hx8=>
  Ze (Zi rfl hx8) (Zj (ZI Zm (List.set s1.2.1 s1.1.toNat x6) (w64 (b+(w64 (u64.wrap (Zq (u64.wrap (Zq (u64.wrap (Zq (u64.wrap (Zq s1.2.2 ^^^ Zq (u64.wrap (s1.2.2*2 ^ 13))).toNat) ^^^ Zq (Int.fdiv (u64.wrap (Zq s1.2.2 ^^^ Zq (u64.wrap (s1.2.2*2 ^ 13))).toNat) (2 ^ 7))).toNat) ^^^ Zq (u64.wrap ((u64.wrap (Zq (u64.wrap (Zq s1.2.2 ^^^ Zq (u64.wrap (s1.2.2*2 ^ 13))).toNat) ^^^ Zq (Int.fdiv (u64.wrap (Zq s1.2.2 ^^^ Zq (u64.wrap (s1.2.2*2 ^ 13))).toNat) (2 ^ 7))).toNat)*2 ^ 17))).toNat) &&& Zq (u64.wrap (x0-1))).toNat)))).toNat x7) (Zd (ih _))))))))))
  (Zk rfl))
theorem ZbF {t0 t1:Bool}{t2 t3:Bool}{b c:Int}{mG:List Int}{mA mE:Int}{mD:List Z1}{mF:List Zr}{mB:List Zh}{mC:List Zt}:∀r,(Zac b c (fun z0 z1=>Zu z0 z1 mB) mG)=some r->evW ctx 147 [(.sl 0 1),(zN b),(zN c),(.fn 143 [(.ptr 1 0)])] [(zA mG),(zK0 mA mE t0 mD t1 mF t2 mB t3 mC)]=some ((ZdN t0 t1 t2 t3 b c mG mA mE mD mF mB mC) r):=
 evS ZxX rfl rfl <| yB (yC Zgm fun x0 _=>
  yF (Zc _ (Zc8 _) fun r9 _=>
  yR))
  yR
def Za (t0:Bool) (t1:Bool) (t2:Bool) (t3:Bool) (b:Int) (c:Int) (d:Int) (mG:List Int) (mA:Int) (mE:Int) (mD:List Z1) (mF:List Zr) (mB:List Zh) (mC:List Zt):(List Int)->V×Zl
  | r=>((.d (D.tup [])),[(zA r),(zK0 mA mE t0 mD t1 mF t2 mB t3 mC)])
def Zb0 (t0:Bool) (t1:Bool) (t2:Bool) (t3:Bool) (mA:Int) (mE:Int) (mD:List Z1) (mF:List Zr) (mB:List Zh) (mC:List Zt) (rc:Int->Int->Int->(Int->Int->Option Int)->(List Int)->Option (List Int)):(List Int)->Ex×List V×Zl
  | r=>(.ret,[],[(zA r),(zK0 mA mE t0 mD t1 mF t2 mB t3 mC)])
theorem Zem {t0 t1:Bool}{t2 t3:Bool}{mA mE:Int}{mD:List Z1}{mF:List Zr}{mB:List Zh}{mC:List Zt}{rc:Int->Int->Int->(Int->Int->Option Int)->(List Int)->Option (List Int)} (hrc:∀(t0:Bool) (t1:Bool) (t2:Bool) (t3:Bool) (b:Int) (c:Int) (d:Int) (mG:List Int) (mA:Int) (mE:Int) (mD:List Z1) (mF:List Zr) (mB:List Zh) (mC:List Zt) (r:List Int),rc b c d (fun z0 z1=>Zu z0 z1 mB) mG=some r->evW ctx 122 [(.sl 0 1),(zN b),(zN c),(zN d),(.fn 143 [(.ptr 1 0)])] [(zA mG),(zK0 mA mE t0 mD t1 mF t2 mB t3 mC)]=some ((Za t0 t1 t2 t3 b c d mG mA mE mD mF mB mC) r)):∀(s0:Int×Int×Int×Bool×Bool×(List Int)) (r:List Int),lp (Zz (fun z0 z1=>Zu z0 z1 mB) rc) s0=some r->lpW ctx 2 [0,1,2,3,4,10,11] [] ZuM [(.sl 0 1),(zN s0.1),(zN s0.2.1),(zN s0.2.2.1),(.fn 143 [(.ptr 1 0)]),(.d (D.bool s0.2.2.2.1)),(.d (D.bool s0.2.2.2.2.1))] [(zA s0.2.2.2.2.2),(zK0 mA mE t0 mD t1 mF t2 mB t3 mC)]=some ((Zb0 t0 t1 t2 t3 mA mE mD mF mB mC rc) r):=
 lpT (Zb0 t0 t1 t2 t3 mA mE mD mF mB mC rc) fun s0 _ ih=>(by
 try unfold Zz
 rcases hb:s0.2.2.2.1 with _ | _
 exact Zpl (by
 try unfold Zz
 rcases hb:s0.2.2.2.2.1 with _ | _
 exact Zpl (yB (Zc _ Zab fun x170 _=>
  Zk rfl)
  (yB (Zc _ Zap fun x171 _=>
  Zk rfl)
  (Zc _ ZbF fun x172 _=>
  Zc _ Zah fun x173 _=>
  yB (Zc _ Zag fun x174 _=>
  yB (yG fun x175 hx175=>
  Ze (Zi rfl hx175) (yG fun x176 hx176=>
  Ze (Zi rfl hx176) (yC ZF fun x177 _=>
  yB ((by
 conv=>rhs;whnf
 refine Zc _ Zn fun x178 _=>?_
 rcases x178 with x178 | x178
 exact yT (yF (yB (yB (Zc (Za t0 t1 t2 t3 s0.1 x178.1 (w64 (s0.2.2.1-1)) x178.2 mA mE mD mF mB mC) (hrc t0 t1 t2 t3 s0.1 x178.1 (w64 (s0.2.2.1-1)) x178.2 mA mE mD mF mB mC) fun x179 _=>
  Zd (ih _))
  (Zc (Za t0 t1 t2 t3 s0.1 x178.1 (w64 (s0.2.2.1-1)) x178.2 mA mE mD mF mB mC) (hrc t0 t1 t2 t3 s0.1 x178.1 (w64 (s0.2.2.1-1)) x178.2 mA mE mD mF mB mC) fun x180 _=>
  Zd (ih _)))
  (yB (Zc (Za t0 t1 t2 t3 (w64 (x178.1+1)) s0.2.1 (w64 (s0.2.2.1-1)) x178.2 mA mE mD mF mB mC) (hrc t0 t1 t2 t3 (w64 (x178.1+1)) s0.2.1 (w64 (s0.2.2.1-1)) x178.2 mA mE mD mF mB mC) fun x181 _=>
  Zd (ih _))
  (Zc (Za t0 t1 t2 t3 (w64 (x178.1+1)) s0.2.1 (w64 (s0.2.2.1-1)) x178.2 mA mE mD mF mB mC) (hrc t0 t1 t2 t3 (w64 (x178.1+1)) s0.2.1 (w64 (s0.2.2.1-1)) x178.2 mA mE mD mF mB mC) fun x182 _=>
  Zd (ih _)))))
 exact yF (yF (yB (yB (Zc (Za t0 t1 t2 t3 s0.1 x178.1 (w64 (s0.2.2.1-1)) x178.2 mA mE mD mF mB mC) (hrc t0 t1 t2 t3 s0.1 x178.1 (w64 (s0.2.2.1-1)) x178.2 mA mE mD mF mB mC) fun x183 _=>
  Zd (ih _))
  (Zc (Za t0 t1 t2 t3 s0.1 x178.1 (w64 (s0.2.2.1-1)) x178.2 mA mE mD mF mB mC) (hrc t0 t1 t2 t3 s0.1 x178.1 (w64 (s0.2.2.1-1)) x178.2 mA mE mD mF mB mC) fun x184 _=>
  Zd (ih _)))
  (yB (Zc (Za t0 t1 t2 t3 (w64 (x178.1+1)) s0.2.1 (w64 (s0.2.2.1-1)) x178.2 mA mE mD mF mB mC) (hrc t0 t1 t2 t3 (w64 (x178.1+1)) s0.2.1 (w64 (s0.2.2.1-1)) x178.2 mA mE mD mF mB mC) fun x185 _=>
  Zd (ih _))
  (Zc (Za t0 t1 t2 t3 (w64 (x178.1+1)) s0.2.1 (w64 (s0.2.2.1-1)) x178.2 mA mE mD mF mB mC) (hrc t0 t1 t2 t3 (w64 (x178.1+1)) s0.2.1 (w64 (s0.2.2.1-1)) x178.2 mA mE mD mF mB mC) fun x186 _=>
  Zd (ih _)))))))
  (Zc _ Zy fun x187 _=>
  Zd (ih _)))))
  (by
 conv=>rhs;whnf
 refine Zc _ Zn fun x188 _=>?_
 rcases x188 with x188 | x188
 exact yT (yF (yB (yB (Zc (Za t0 t1 t2 t3 s0.1 x188.1 (w64 (s0.2.2.1-1)) x188.2 mA mE mD mF mB mC) (hrc t0 t1 t2 t3 s0.1 x188.1 (w64 (s0.2.2.1-1)) x188.2 mA mE mD mF mB mC) fun x189 _=>
  Zd (ih _))
  (Zc (Za t0 t1 t2 t3 s0.1 x188.1 (w64 (s0.2.2.1-1)) x188.2 mA mE mD mF mB mC) (hrc t0 t1 t2 t3 s0.1 x188.1 (w64 (s0.2.2.1-1)) x188.2 mA mE mD mF mB mC) fun x190 _=>
  Zd (ih _)))
  (yB (Zc (Za t0 t1 t2 t3 (w64 (x188.1+1)) s0.2.1 (w64 (s0.2.2.1-1)) x188.2 mA mE mD mF mB mC) (hrc t0 t1 t2 t3 (w64 (x188.1+1)) s0.2.1 (w64 (s0.2.2.1-1)) x188.2 mA mE mD mF mB mC) fun x191 _=>
  Zd (ih _))
  (Zc (Za t0 t1 t2 t3 (w64 (x188.1+1)) s0.2.1 (w64 (s0.2.2.1-1)) x188.2 mA mE mD mF mB mC) (hrc t0 t1 t2 t3 (w64 (x188.1+1)) s0.2.1 (w64 (s0.2.2.1-1)) x188.2 mA mE mD mF mB mC) fun x192 _=>
  Zd (ih _)))))
 exact yF (yF (yB (yB (Zc (Za t0 t1 t2 t3 s0.1 x188.1 (w64 (s0.2.2.1-1)) x188.2 mA mE mD mF mB mC) (hrc t0 t1 t2 t3 s0.1 x188.1 (w64 (s0.2.2.1-1)) x188.2 mA mE mD mF mB mC) fun x193 _=>
  Zd (ih _))
  (Zc (Za t0 t1 t2 t3 s0.1 x188.1 (w64 (s0.2.2.1-1)) x188.2 mA mE mD mF mB mC) (hrc t0 t1 t2 t3 s0.1 x188.1 (w64 (s0.2.2.1-1)) x188.2 mA mE mD mF mB mC) fun x194 _=>
  Zd (ih _)))
  (yB (Zc (Za t0 t1 t2 t3 (w64 (x188.1+1)) s0.2.1 (w64 (s0.2.2.1-1)) x188.2 mA mE mD mF mB mC) (hrc t0 t1 t2 t3 (w64 (x188.1+1)) s0.2.1 (w64 (s0.2.2.1-1)) x188.2 mA mE mD mF mB mC) fun x195 _=>
  Zd (ih _))
  (Zc (Za t0 t1 t2 t3 (w64 (x188.1+1)) s0.2.1 (w64 (s0.2.2.1-1)) x188.2 mA mE mD mF mB mC) (hrc t0 t1 t2 t3 (w64 (x188.1+1)) s0.2.1 (w64 (s0.2.2.1-1)) x188.2 mA mE mD mF mB mC) fun x196 _=>
  Zd (ih _)))))))
  (yB (yG fun x197 hx197=>
  Ze (Zi rfl hx197) (yG fun x198 hx198=>
  Ze (Zi rfl hx198) (yC ZF fun x199 _=>
  yB ((by
 conv=>rhs;whnf
 refine Zc _ Zn fun x200 _=>?_
 rcases x200 with x200 | x200
 exact yT (yF (yB (yB (Zc (Za t0 t1 t2 t3 s0.1 x200.1 (w64 (s0.2.2.1-1)) x200.2 mA mE mD mF mB mC) (hrc t0 t1 t2 t3 s0.1 x200.1 (w64 (s0.2.2.1-1)) x200.2 mA mE mD mF mB mC) fun x201 _=>
  Zd (ih _))
  (Zc (Za t0 t1 t2 t3 s0.1 x200.1 (w64 (s0.2.2.1-1)) x200.2 mA mE mD mF mB mC) (hrc t0 t1 t2 t3 s0.1 x200.1 (w64 (s0.2.2.1-1)) x200.2 mA mE mD mF mB mC) fun x202 _=>
  Zd (ih _)))
  (yB (Zc (Za t0 t1 t2 t3 (w64 (x200.1+1)) s0.2.1 (w64 (s0.2.2.1-1)) x200.2 mA mE mD mF mB mC) (hrc t0 t1 t2 t3 (w64 (x200.1+1)) s0.2.1 (w64 (s0.2.2.1-1)) x200.2 mA mE mD mF mB mC) fun x203 _=>
  Zd (ih _))
  (Zc (Za t0 t1 t2 t3 (w64 (x200.1+1)) s0.2.1 (w64 (s0.2.2.1-1)) x200.2 mA mE mD mF mB mC) (hrc t0 t1 t2 t3 (w64 (x200.1+1)) s0.2.1 (w64 (s0.2.2.1-1)) x200.2 mA mE mD mF mB mC) fun x204 _=>
  Zd (ih _)))))
 exact yF (yF (yB (yB (Zc (Za t0 t1 t2 t3 s0.1 x200.1 (w64 (s0.2.2.1-1)) x200.2 mA mE mD mF mB mC) (hrc t0 t1 t2 t3 s0.1 x200.1 (w64 (s0.2.2.1-1)) x200.2 mA mE mD mF mB mC) fun x205 _=>
  Zd (ih _))
  (Zc (Za t0 t1 t2 t3 s0.1 x200.1 (w64 (s0.2.2.1-1)) x200.2 mA mE mD mF mB mC) (hrc t0 t1 t2 t3 s0.1 x200.1 (w64 (s0.2.2.1-1)) x200.2 mA mE mD mF mB mC) fun x206 _=>
  Zd (ih _)))
  (yB (Zc (Za t0 t1 t2 t3 (w64 (x200.1+1)) s0.2.1 (w64 (s0.2.2.1-1)) x200.2 mA mE mD mF mB mC) (hrc t0 t1 t2 t3 (w64 (x200.1+1)) s0.2.1 (w64 (s0.2.2.1-1)) x200.2 mA mE mD mF mB mC) fun x207 _=>
  Zd (ih _))
  (Zc (Za t0 t1 t2 t3 (w64 (x200.1+1)) s0.2.1 (w64 (s0.2.2.1-1)) x200.2 mA mE mD mF mB mC) (hrc t0 t1 t2 t3 (w64 (x200.1+1)) s0.2.1 (w64 (s0.2.2.1-1)) x200.2 mA mE mD mF mB mC) fun x208 _=>
  Zd (ih _)))))))
  (Zc _ Zy fun x209 _=>
  Zd (ih _)))))
  (by
 conv=>rhs;whnf
 refine Zc _ Zn fun x210 _=>?_
 rcases x210 with x210 | x210
 exact yT (yF (yB (yB (Zc (Za t0 t1 t2 t3 s0.1 x210.1 (w64 (s0.2.2.1-1)) x210.2 mA mE mD mF mB mC) (hrc t0 t1 t2 t3 s0.1 x210.1 (w64 (s0.2.2.1-1)) x210.2 mA mE mD mF mB mC) fun x211 _=>
  Zd (ih _))
  (Zc (Za t0 t1 t2 t3 s0.1 x210.1 (w64 (s0.2.2.1-1)) x210.2 mA mE mD mF mB mC) (hrc t0 t1 t2 t3 s0.1 x210.1 (w64 (s0.2.2.1-1)) x210.2 mA mE mD mF mB mC) fun x212 _=>
  Zd (ih _)))
  (yB (Zc (Za t0 t1 t2 t3 (w64 (x210.1+1)) s0.2.1 (w64 (s0.2.2.1-1)) x210.2 mA mE mD mF mB mC) (hrc t0 t1 t2 t3 (w64 (x210.1+1)) s0.2.1 (w64 (s0.2.2.1-1)) x210.2 mA mE mD mF mB mC) fun x213 _=>
  Zd (ih _))
  (Zc (Za t0 t1 t2 t3 (w64 (x210.1+1)) s0.2.1 (w64 (s0.2.2.1-1)) x210.2 mA mE mD mF mB mC) (hrc t0 t1 t2 t3 (w64 (x210.1+1)) s0.2.1 (w64 (s0.2.2.1-1)) x210.2 mA mE mD mF mB mC) fun x214 _=>
  Zd (ih _)))))
 exact yF (yF (yB (yB (Zc (Za t0 t1 t2 t3 s0.1 x210.1 (w64 (s0.2.2.1-1)) x210.2 mA mE mD mF mB mC) (hrc t0 t1 t2 t3 s0.1 x210.1 (w64 (s0.2.2.1-1)) x210.2 mA mE mD mF mB mC) fun x215 _=>
  Zd (ih _))
  (Zc (Za t0 t1 t2 t3 s0.1 x210.1 (w64 (s0.2.2.1-1)) x210.2 mA mE mD mF mB mC) (hrc t0 t1 t2 t3 s0.1 x210.1 (w64 (s0.2.2.1-1)) x210.2 mA mE mD mF mB mC) fun x216 _=>
  Zd (ih _)))
  (yB (Zc (Za t0 t1 t2 t3 (w64 (x210.1+1)) s0.2.1 (w64 (s0.2.2.1-1)) x210.2 mA mE mD mF mB mC) (hrc t0 t1 t2 t3 (w64 (x210.1+1)) s0.2.1 (w64 (s0.2.2.1-1)) x210.2 mA mE mD mF mB mC) fun x217 _=>
  Zd (ih _))
  (Zc (Za t0 t1 t2 t3 (w64 (x210.1+1)) s0.2.1 (w64 (s0.2.2.1-1)) x210.2 mA mE mD mF mB mC) (hrc t0 t1 t2 t3 (w64 (x210.1+1)) s0.2.1 (w64 (s0.2.2.1-1)) x210.2 mA mE mD mF mB mC) fun x218 _=>
  Zd (ih _))))))))))
 exact ZoJ (yB (Zc _ Zab fun x121 _=>
  Zk rfl)
  (yB (Zc _ Zap fun x122 _=>
  Zk rfl)
  (Zc _ ZbF fun x123 _=>
  Zc _ Zah fun x124 _=>
  yB (Zc _ Zag fun x125 _=>
  yB (yG fun x126 hx126=>
  Ze (Zi rfl hx126) (yG fun x127 hx127=>
  Ze (Zi rfl hx127) (yC ZF fun x128 _=>
  yB ((by
 conv=>rhs;whnf
 refine Zc _ Zn fun x129 _=>?_
 rcases x129 with x129 | x129
 exact yT (yF (yB (yB (Zc (Za t0 t1 t2 t3 s0.1 x129.1 (w64 (s0.2.2.1-1)) x129.2 mA mE mD mF mB mC) (hrc t0 t1 t2 t3 s0.1 x129.1 (w64 (s0.2.2.1-1)) x129.2 mA mE mD mF mB mC) fun x130 _=>
  Zd (ih _))
  (Zc (Za t0 t1 t2 t3 s0.1 x129.1 (w64 (s0.2.2.1-1)) x129.2 mA mE mD mF mB mC) (hrc t0 t1 t2 t3 s0.1 x129.1 (w64 (s0.2.2.1-1)) x129.2 mA mE mD mF mB mC) fun x131 _=>
  Zd (ih _)))
  (yB (Zc (Za t0 t1 t2 t3 (w64 (x129.1+1)) s0.2.1 (w64 (s0.2.2.1-1)) x129.2 mA mE mD mF mB mC) (hrc t0 t1 t2 t3 (w64 (x129.1+1)) s0.2.1 (w64 (s0.2.2.1-1)) x129.2 mA mE mD mF mB mC) fun x132 _=>
  Zd (ih _))
  (Zc (Za t0 t1 t2 t3 (w64 (x129.1+1)) s0.2.1 (w64 (s0.2.2.1-1)) x129.2 mA mE mD mF mB mC) (hrc t0 t1 t2 t3 (w64 (x129.1+1)) s0.2.1 (w64 (s0.2.2.1-1)) x129.2 mA mE mD mF mB mC) fun x133 _=>
  Zd (ih _)))))
 exact yF (yF (yB (yB (Zc (Za t0 t1 t2 t3 s0.1 x129.1 (w64 (s0.2.2.1-1)) x129.2 mA mE mD mF mB mC) (hrc t0 t1 t2 t3 s0.1 x129.1 (w64 (s0.2.2.1-1)) x129.2 mA mE mD mF mB mC) fun x134 _=>
  Zd (ih _))
  (Zc (Za t0 t1 t2 t3 s0.1 x129.1 (w64 (s0.2.2.1-1)) x129.2 mA mE mD mF mB mC) (hrc t0 t1 t2 t3 s0.1 x129.1 (w64 (s0.2.2.1-1)) x129.2 mA mE mD mF mB mC) fun x135 _=>
  Zd (ih _)))
  (yB (Zc (Za t0 t1 t2 t3 (w64 (x129.1+1)) s0.2.1 (w64 (s0.2.2.1-1)) x129.2 mA mE mD mF mB mC) (hrc t0 t1 t2 t3 (w64 (x129.1+1)) s0.2.1 (w64 (s0.2.2.1-1)) x129.2 mA mE mD mF mB mC) fun x136 _=>
  Zd (ih _))
  (Zc (Za t0 t1 t2 t3 (w64 (x129.1+1)) s0.2.1 (w64 (s0.2.2.1-1)) x129.2 mA mE mD mF mB mC) (hrc t0 t1 t2 t3 (w64 (x129.1+1)) s0.2.1 (w64 (s0.2.2.1-1)) x129.2 mA mE mD mF mB mC) fun x137 _=>
  Zd (ih _)))))))
  (Zc _ Zy fun x138 _=>
  Zd (ih _)))))
  (by
 conv=>rhs;whnf
 refine Zc _ Zn fun x139 _=>?_
 rcases x139 with x139 | x139
 exact yT (yF (yB (yB (Zc (Za t0 t1 t2 t3 s0.1 x139.1 (w64 (s0.2.2.1-1)) x139.2 mA mE mD mF mB mC) (hrc t0 t1 t2 t3 s0.1 x139.1 (w64 (s0.2.2.1-1)) x139.2 mA mE mD mF mB mC) fun x140 _=>
  Zd (ih _))
  (Zc (Za t0 t1 t2 t3 s0.1 x139.1 (w64 (s0.2.2.1-1)) x139.2 mA mE mD mF mB mC) (hrc t0 t1 t2 t3 s0.1 x139.1 (w64 (s0.2.2.1-1)) x139.2 mA mE mD mF mB mC) fun x141 _=>
  Zd (ih _)))
  (yB (Zc (Za t0 t1 t2 t3 (w64 (x139.1+1)) s0.2.1 (w64 (s0.2.2.1-1)) x139.2 mA mE mD mF mB mC) (hrc t0 t1 t2 t3 (w64 (x139.1+1)) s0.2.1 (w64 (s0.2.2.1-1)) x139.2 mA mE mD mF mB mC) fun x142 _=>
  Zd (ih _))
  (Zc (Za t0 t1 t2 t3 (w64 (x139.1+1)) s0.2.1 (w64 (s0.2.2.1-1)) x139.2 mA mE mD mF mB mC) (hrc t0 t1 t2 t3 (w64 (x139.1+1)) s0.2.1 (w64 (s0.2.2.1-1)) x139.2 mA mE mD mF mB mC) fun x143 _=>
  Zd (ih _)))))
 exact yF (yF (yB (yB (Zc (Za t0 t1 t2 t3 s0.1 x139.1 (w64 (s0.2.2.1-1)) x139.2 mA mE mD mF mB mC) (hrc t0 t1 t2 t3 s0.1 x139.1 (w64 (s0.2.2.1-1)) x139.2 mA mE mD mF mB mC) fun x144 _=>
  Zd (ih _))
  (Zc (Za t0 t1 t2 t3 s0.1 x139.1 (w64 (s0.2.2.1-1)) x139.2 mA mE mD mF mB mC) (hrc t0 t1 t2 t3 s0.1 x139.1 (w64 (s0.2.2.1-1)) x139.2 mA mE mD mF mB mC) fun x145 _=>
  Zd (ih _)))
  (yB (Zc (Za t0 t1 t2 t3 (w64 (x139.1+1)) s0.2.1 (w64 (s0.2.2.1-1)) x139.2 mA mE mD mF mB mC) (hrc t0 t1 t2 t3 (w64 (x139.1+1)) s0.2.1 (w64 (s0.2.2.1-1)) x139.2 mA mE mD mF mB mC) fun x146 _=>
  Zd (ih _))
  (Zc (Za t0 t1 t2 t3 (w64 (x139.1+1)) s0.2.1 (w64 (s0.2.2.1-1)) x139.2 mA mE mD mF mB mC) (hrc t0 t1 t2 t3 (w64 (x139.1+1)) s0.2.1 (w64 (s0.2.2.1-1)) x139.2 mA mE mD mF mB mC) fun x147 _=>
  Zd (ih _)))))))
  (yB (yG fun x148 hx148=>
  Ze (Zi rfl hx148) (yG fun x149 hx149=>
  Ze (Zi rfl hx149) (yC ZF fun x150 _=>
  yB ((by
 conv=>rhs;whnf
 refine Zc _ Zn fun x151 _=>?_
 rcases x151 with x151 | x151
 exact yT (yF (yB (yB (Zc (Za t0 t1 t2 t3 s0.1 x151.1 (w64 (s0.2.2.1-1)) x151.2 mA mE mD mF mB mC) (hrc t0 t1 t2 t3 s0.1 x151.1 (w64 (s0.2.2.1-1)) x151.2 mA mE mD mF mB mC) fun x152 _=>
  Zd (ih _))
  (Zc (Za t0 t1 t2 t3 s0.1 x151.1 (w64 (s0.2.2.1-1)) x151.2 mA mE mD mF mB mC) (hrc t0 t1 t2 t3 s0.1 x151.1 (w64 (s0.2.2.1-1)) x151.2 mA mE mD mF mB mC) fun x153 _=>
  Zd (ih _)))
  (yB (Zc (Za t0 t1 t2 t3 (w64 (x151.1+1)) s0.2.1 (w64 (s0.2.2.1-1)) x151.2 mA mE mD mF mB mC) (hrc t0 t1 t2 t3 (w64 (x151.1+1)) s0.2.1 (w64 (s0.2.2.1-1)) x151.2 mA mE mD mF mB mC) fun x154 _=>
  Zd (ih _))
  (Zc (Za t0 t1 t2 t3 (w64 (x151.1+1)) s0.2.1 (w64 (s0.2.2.1-1)) x151.2 mA mE mD mF mB mC) (hrc t0 t1 t2 t3 (w64 (x151.1+1)) s0.2.1 (w64 (s0.2.2.1-1)) x151.2 mA mE mD mF mB mC) fun x155 _=>
  Zd (ih _)))))
 exact yF (yF (yB (yB (Zc (Za t0 t1 t2 t3 s0.1 x151.1 (w64 (s0.2.2.1-1)) x151.2 mA mE mD mF mB mC) (hrc t0 t1 t2 t3 s0.1 x151.1 (w64 (s0.2.2.1-1)) x151.2 mA mE mD mF mB mC) fun x156 _=>
  Zd (ih _))
  (Zc (Za t0 t1 t2 t3 s0.1 x151.1 (w64 (s0.2.2.1-1)) x151.2 mA mE mD mF mB mC) (hrc t0 t1 t2 t3 s0.1 x151.1 (w64 (s0.2.2.1-1)) x151.2 mA mE mD mF mB mC) fun x157 _=>
  Zd (ih _)))
  (yB (Zc (Za t0 t1 t2 t3 (w64 (x151.1+1)) s0.2.1 (w64 (s0.2.2.1-1)) x151.2 mA mE mD mF mB mC) (hrc t0 t1 t2 t3 (w64 (x151.1+1)) s0.2.1 (w64 (s0.2.2.1-1)) x151.2 mA mE mD mF mB mC) fun x158 _=>
  Zd (ih _))
  (Zc (Za t0 t1 t2 t3 (w64 (x151.1+1)) s0.2.1 (w64 (s0.2.2.1-1)) x151.2 mA mE mD mF mB mC) (hrc t0 t1 t2 t3 (w64 (x151.1+1)) s0.2.1 (w64 (s0.2.2.1-1)) x151.2 mA mE mD mF mB mC) fun x159 _=>
  Zd (ih _)))))))
  (Zc _ Zy fun x160 _=>
  Zd (ih _)))))
  (by
 conv=>rhs;whnf
 refine Zc _ Zn fun x161 _=>?_
 rcases x161 with x161 | x161
 exact yT (yF (yB (yB (Zc (Za t0 t1 t2 t3 s0.1 x161.1 (w64 (s0.2.2.1-1)) x161.2 mA mE mD mF mB mC) (hrc t0 t1 t2 t3 s0.1 x161.1 (w64 (s0.2.2.1-1)) x161.2 mA mE mD mF mB mC) fun x162 _=>
  Zd (ih _))
  (Zc (Za t0 t1 t2 t3 s0.1 x161.1 (w64 (s0.2.2.1-1)) x161.2 mA mE mD mF mB mC) (hrc t0 t1 t2 t3 s0.1 x161.1 (w64 (s0.2.2.1-1)) x161.2 mA mE mD mF mB mC) fun x163 _=>
  Zd (ih _)))
  (yB (Zc (Za t0 t1 t2 t3 (w64 (x161.1+1)) s0.2.1 (w64 (s0.2.2.1-1)) x161.2 mA mE mD mF mB mC) (hrc t0 t1 t2 t3 (w64 (x161.1+1)) s0.2.1 (w64 (s0.2.2.1-1)) x161.2 mA mE mD mF mB mC) fun x164 _=>
  Zd (ih _))
  (Zc (Za t0 t1 t2 t3 (w64 (x161.1+1)) s0.2.1 (w64 (s0.2.2.1-1)) x161.2 mA mE mD mF mB mC) (hrc t0 t1 t2 t3 (w64 (x161.1+1)) s0.2.1 (w64 (s0.2.2.1-1)) x161.2 mA mE mD mF mB mC) fun x165 _=>
  Zd (ih _)))))
 exact yF (yF (yB (yB (Zc (Za t0 t1 t2 t3 s0.1 x161.1 (w64 (s0.2.2.1-1)) x161.2 mA mE mD mF mB mC) (hrc t0 t1 t2 t3 s0.1 x161.1 (w64 (s0.2.2.1-1)) x161.2 mA mE mD mF mB mC) fun x166 _=>
  Zd (ih _))
  (Zc (Za t0 t1 t2 t3 s0.1 x161.1 (w64 (s0.2.2.1-1)) x161.2 mA mE mD mF mB mC) (hrc t0 t1 t2 t3 s0.1 x161.1 (w64 (s0.2.2.1-1)) x161.2 mA mE mD mF mB mC) fun x167 _=>
  Zd (ih _)))
  (yB (Zc (Za t0 t1 t2 t3 (w64 (x161.1+1)) s0.2.1 (w64 (s0.2.2.1-1)) x161.2 mA mE mD mF mB mC) (hrc t0 t1 t2 t3 (w64 (x161.1+1)) s0.2.1 (w64 (s0.2.2.1-1)) x161.2 mA mE mD mF mB mC) fun x168 _=>
  Zd (ih _))
  (Zc (Za t0 t1 t2 t3 (w64 (x161.1+1)) s0.2.1 (w64 (s0.2.2.1-1)) x161.2 mA mE mD mF mB mC) (hrc t0 t1 t2 t3 (w64 (x161.1+1)) s0.2.1 (w64 (s0.2.2.1-1)) x161.2 mA mE mD mF mB mC) fun x169 _=>
  Zd (ih _)))))))))))
 exact ZoJ (by
 try unfold Zz
 rcases hb:s0.2.2.2.2.1 with _ | _
 exact Zpl (yB (Zc _ Zab fun x73 _=>
  Zk rfl)
  (yB (Zc _ Zap fun x74 _=>
  Zk rfl)
  (Zc _ Zah fun x75 _=>
  yB (Zc _ Zag fun x76 _=>
  yB (yG fun x77 hx77=>
  Ze (Zi rfl hx77) (yG fun x78 hx78=>
  Ze (Zi rfl hx78) (yC ZF fun x79 _=>
  yB ((by
 conv=>rhs;whnf
 refine Zc _ Zn fun x80 _=>?_
 rcases x80 with x80 | x80
 exact yT (yF (yB (yB (Zc (Za t0 t1 t2 t3 s0.1 x80.1 s0.2.2.1 x80.2 mA mE mD mF mB mC) (hrc t0 t1 t2 t3 s0.1 x80.1 s0.2.2.1 x80.2 mA mE mD mF mB mC) fun x81 _=>
  Zd (ih _))
  (Zc (Za t0 t1 t2 t3 s0.1 x80.1 s0.2.2.1 x80.2 mA mE mD mF mB mC) (hrc t0 t1 t2 t3 s0.1 x80.1 s0.2.2.1 x80.2 mA mE mD mF mB mC) fun x82 _=>
  Zd (ih _)))
  (yB (Zc (Za t0 t1 t2 t3 (w64 (x80.1+1)) s0.2.1 s0.2.2.1 x80.2 mA mE mD mF mB mC) (hrc t0 t1 t2 t3 (w64 (x80.1+1)) s0.2.1 s0.2.2.1 x80.2 mA mE mD mF mB mC) fun x83 _=>
  Zd (ih _))
  (Zc (Za t0 t1 t2 t3 (w64 (x80.1+1)) s0.2.1 s0.2.2.1 x80.2 mA mE mD mF mB mC) (hrc t0 t1 t2 t3 (w64 (x80.1+1)) s0.2.1 s0.2.2.1 x80.2 mA mE mD mF mB mC) fun x84 _=>
  Zd (ih _)))))
 exact yF (yF (yB (yB (Zc (Za t0 t1 t2 t3 s0.1 x80.1 s0.2.2.1 x80.2 mA mE mD mF mB mC) (hrc t0 t1 t2 t3 s0.1 x80.1 s0.2.2.1 x80.2 mA mE mD mF mB mC) fun x85 _=>
  Zd (ih _))
  (Zc (Za t0 t1 t2 t3 s0.1 x80.1 s0.2.2.1 x80.2 mA mE mD mF mB mC) (hrc t0 t1 t2 t3 s0.1 x80.1 s0.2.2.1 x80.2 mA mE mD mF mB mC) fun x86 _=>
  Zd (ih _)))
  (yB (Zc (Za t0 t1 t2 t3 (w64 (x80.1+1)) s0.2.1 s0.2.2.1 x80.2 mA mE mD mF mB mC) (hrc t0 t1 t2 t3 (w64 (x80.1+1)) s0.2.1 s0.2.2.1 x80.2 mA mE mD mF mB mC) fun x87 _=>
  Zd (ih _))
  (Zc (Za t0 t1 t2 t3 (w64 (x80.1+1)) s0.2.1 s0.2.2.1 x80.2 mA mE mD mF mB mC) (hrc t0 t1 t2 t3 (w64 (x80.1+1)) s0.2.1 s0.2.2.1 x80.2 mA mE mD mF mB mC) fun x88 _=>
  Zd (ih _)))))))
  (Zc _ Zy fun x89 _=>
  Zd (ih _)))))
  (by
 conv=>rhs;whnf
 refine Zc _ Zn fun x90 _=>?_
 rcases x90 with x90 | x90
 exact yT (yF (yB (yB (Zc (Za t0 t1 t2 t3 s0.1 x90.1 s0.2.2.1 x90.2 mA mE mD mF mB mC) (hrc t0 t1 t2 t3 s0.1 x90.1 s0.2.2.1 x90.2 mA mE mD mF mB mC) fun x91 _=>
  Zd (ih _))
  (Zc (Za t0 t1 t2 t3 s0.1 x90.1 s0.2.2.1 x90.2 mA mE mD mF mB mC) (hrc t0 t1 t2 t3 s0.1 x90.1 s0.2.2.1 x90.2 mA mE mD mF mB mC) fun x92 _=>
  Zd (ih _)))
  (yB (Zc (Za t0 t1 t2 t3 (w64 (x90.1+1)) s0.2.1 s0.2.2.1 x90.2 mA mE mD mF mB mC) (hrc t0 t1 t2 t3 (w64 (x90.1+1)) s0.2.1 s0.2.2.1 x90.2 mA mE mD mF mB mC) fun x93 _=>
  Zd (ih _))
  (Zc (Za t0 t1 t2 t3 (w64 (x90.1+1)) s0.2.1 s0.2.2.1 x90.2 mA mE mD mF mB mC) (hrc t0 t1 t2 t3 (w64 (x90.1+1)) s0.2.1 s0.2.2.1 x90.2 mA mE mD mF mB mC) fun x94 _=>
  Zd (ih _)))))
 exact yF (yF (yB (yB (Zc (Za t0 t1 t2 t3 s0.1 x90.1 s0.2.2.1 x90.2 mA mE mD mF mB mC) (hrc t0 t1 t2 t3 s0.1 x90.1 s0.2.2.1 x90.2 mA mE mD mF mB mC) fun x95 _=>
  Zd (ih _))
  (Zc (Za t0 t1 t2 t3 s0.1 x90.1 s0.2.2.1 x90.2 mA mE mD mF mB mC) (hrc t0 t1 t2 t3 s0.1 x90.1 s0.2.2.1 x90.2 mA mE mD mF mB mC) fun x96 _=>
  Zd (ih _)))
  (yB (Zc (Za t0 t1 t2 t3 (w64 (x90.1+1)) s0.2.1 s0.2.2.1 x90.2 mA mE mD mF mB mC) (hrc t0 t1 t2 t3 (w64 (x90.1+1)) s0.2.1 s0.2.2.1 x90.2 mA mE mD mF mB mC) fun x97 _=>
  Zd (ih _))
  (Zc (Za t0 t1 t2 t3 (w64 (x90.1+1)) s0.2.1 s0.2.2.1 x90.2 mA mE mD mF mB mC) (hrc t0 t1 t2 t3 (w64 (x90.1+1)) s0.2.1 s0.2.2.1 x90.2 mA mE mD mF mB mC) fun x98 _=>
  Zd (ih _)))))))
  (yB (yG fun x99 hx99=>
  Ze (Zi rfl hx99) (yG fun x100 hx100=>
  Ze (Zi rfl hx100) (yC ZF fun x101 _=>
  yB ((by
 conv=>rhs;whnf
 refine Zc _ Zn fun x102 _=>?_
 rcases x102 with x102 | x102
 exact yT (yF (yB (yB (Zc (Za t0 t1 t2 t3 s0.1 x102.1 s0.2.2.1 x102.2 mA mE mD mF mB mC) (hrc t0 t1 t2 t3 s0.1 x102.1 s0.2.2.1 x102.2 mA mE mD mF mB mC) fun x103 _=>
  Zd (ih _))
  (Zc (Za t0 t1 t2 t3 s0.1 x102.1 s0.2.2.1 x102.2 mA mE mD mF mB mC) (hrc t0 t1 t2 t3 s0.1 x102.1 s0.2.2.1 x102.2 mA mE mD mF mB mC) fun x104 _=>
  Zd (ih _)))
  (yB (Zc (Za t0 t1 t2 t3 (w64 (x102.1+1)) s0.2.1 s0.2.2.1 x102.2 mA mE mD mF mB mC) (hrc t0 t1 t2 t3 (w64 (x102.1+1)) s0.2.1 s0.2.2.1 x102.2 mA mE mD mF mB mC) fun x105 _=>
  Zd (ih _))
  (Zc (Za t0 t1 t2 t3 (w64 (x102.1+1)) s0.2.1 s0.2.2.1 x102.2 mA mE mD mF mB mC) (hrc t0 t1 t2 t3 (w64 (x102.1+1)) s0.2.1 s0.2.2.1 x102.2 mA mE mD mF mB mC) fun x106 _=>
  Zd (ih _)))))
 exact yF (yF (yB (yB (Zc (Za t0 t1 t2 t3 s0.1 x102.1 s0.2.2.1 x102.2 mA mE mD mF mB mC) (hrc t0 t1 t2 t3 s0.1 x102.1 s0.2.2.1 x102.2 mA mE mD mF mB mC) fun x107 _=>
  Zd (ih _))
  (Zc (Za t0 t1 t2 t3 s0.1 x102.1 s0.2.2.1 x102.2 mA mE mD mF mB mC) (hrc t0 t1 t2 t3 s0.1 x102.1 s0.2.2.1 x102.2 mA mE mD mF mB mC) fun x108 _=>
  Zd (ih _)))
  (yB (Zc (Za t0 t1 t2 t3 (w64 (x102.1+1)) s0.2.1 s0.2.2.1 x102.2 mA mE mD mF mB mC) (hrc t0 t1 t2 t3 (w64 (x102.1+1)) s0.2.1 s0.2.2.1 x102.2 mA mE mD mF mB mC) fun x109 _=>
  Zd (ih _))
  (Zc (Za t0 t1 t2 t3 (w64 (x102.1+1)) s0.2.1 s0.2.2.1 x102.2 mA mE mD mF mB mC) (hrc t0 t1 t2 t3 (w64 (x102.1+1)) s0.2.1 s0.2.2.1 x102.2 mA mE mD mF mB mC) fun x110 _=>
  Zd (ih _)))))))
  (Zc _ Zy fun x111 _=>
  Zd (ih _)))))
  (by
 conv=>rhs;whnf
 refine Zc _ Zn fun x112 _=>?_
 rcases x112 with x112 | x112
 exact yT (yF (yB (yB (Zc (Za t0 t1 t2 t3 s0.1 x112.1 s0.2.2.1 x112.2 mA mE mD mF mB mC) (hrc t0 t1 t2 t3 s0.1 x112.1 s0.2.2.1 x112.2 mA mE mD mF mB mC) fun x113 _=>
  Zd (ih _))
  (Zc (Za t0 t1 t2 t3 s0.1 x112.1 s0.2.2.1 x112.2 mA mE mD mF mB mC) (hrc t0 t1 t2 t3 s0.1 x112.1 s0.2.2.1 x112.2 mA mE mD mF mB mC) fun x114 _=>
  Zd (ih _)))
  (yB (Zc (Za t0 t1 t2 t3 (w64 (x112.1+1)) s0.2.1 s0.2.2.1 x112.2 mA mE mD mF mB mC) (hrc t0 t1 t2 t3 (w64 (x112.1+1)) s0.2.1 s0.2.2.1 x112.2 mA mE mD mF mB mC) fun x115 _=>
  Zd (ih _))
  (Zc (Za t0 t1 t2 t3 (w64 (x112.1+1)) s0.2.1 s0.2.2.1 x112.2 mA mE mD mF mB mC) (hrc t0 t1 t2 t3 (w64 (x112.1+1)) s0.2.1 s0.2.2.1 x112.2 mA mE mD mF mB mC) fun x116 _=>
  Zd (ih _)))))
 exact yF (yF (yB (yB (Zc (Za t0 t1 t2 t3 s0.1 x112.1 s0.2.2.1 x112.2 mA mE mD mF mB mC) (hrc t0 t1 t2 t3 s0.1 x112.1 s0.2.2.1 x112.2 mA mE mD mF mB mC) fun x117 _=>
  Zd (ih _))
  (Zc (Za t0 t1 t2 t3 s0.1 x112.1 s0.2.2.1 x112.2 mA mE mD mF mB mC) (hrc t0 t1 t2 t3 s0.1 x112.1 s0.2.2.1 x112.2 mA mE mD mF mB mC) fun x118 _=>
  Zd (ih _)))
  (yB (Zc (Za t0 t1 t2 t3 (w64 (x112.1+1)) s0.2.1 s0.2.2.1 x112.2 mA mE mD mF mB mC) (hrc t0 t1 t2 t3 (w64 (x112.1+1)) s0.2.1 s0.2.2.1 x112.2 mA mE mD mF mB mC) fun x119 _=>
  Zd (ih _))
  (Zc (Za t0 t1 t2 t3 (w64 (x112.1+1)) s0.2.1 s0.2.2.1 x112.2 mA mE mD mF mB mC) (hrc t0 t1 t2 t3 (w64 (x112.1+1)) s0.2.1 s0.2.2.1 x112.2 mA mE mD mF mB mC) fun x120 _=>
  Zd (ih _))))))))))
 exact ZoJ (yB (Zc _ Zab fun x1 _=>
  Zk rfl)
  (yB (Zc _ Zap fun x2 _=>
  Zk rfl)
  (Zc _ Zah fun x3 _=>
  yB (Zc _ Zag fun x4 _=>
  yT (by
 conv=>rhs;whnf
 refine Zc _ Za9 fun x5 _=>?_
 rcases x5 with x5 | x5
 exact Zk rfl
 exact yB (yG fun x6 hx6=>
  Ze (Zi rfl hx6) (yG fun x7 hx7=>
  Ze (Zi rfl hx7) (yC ZF fun x8 _=>
  yB ((by
 conv=>rhs;whnf
 refine Zc _ Zn fun x9 _=>?_
 rcases x9 with x9 | x9
 exact yT (yF (yB (yB (Zc (Za t0 t1 t2 t3 s0.1 x9.1 s0.2.2.1 x9.2 mA mE mD mF mB mC) (hrc t0 t1 t2 t3 s0.1 x9.1 s0.2.2.1 x9.2 mA mE mD mF mB mC) fun x10 _=>
  Zd (ih _))
  (Zc (Za t0 t1 t2 t3 s0.1 x9.1 s0.2.2.1 x9.2 mA mE mD mF mB mC) (hrc t0 t1 t2 t3 s0.1 x9.1 s0.2.2.1 x9.2 mA mE mD mF mB mC) fun x11 _=>
  Zd (ih _)))
  (yB (Zc (Za t0 t1 t2 t3 (w64 (x9.1+1)) s0.2.1 s0.2.2.1 x9.2 mA mE mD mF mB mC) (hrc t0 t1 t2 t3 (w64 (x9.1+1)) s0.2.1 s0.2.2.1 x9.2 mA mE mD mF mB mC) fun x12 _=>
  Zd (ih _))
  (Zc (Za t0 t1 t2 t3 (w64 (x9.1+1)) s0.2.1 s0.2.2.1 x9.2 mA mE mD mF mB mC) (hrc t0 t1 t2 t3 (w64 (x9.1+1)) s0.2.1 s0.2.2.1 x9.2 mA mE mD mF mB mC) fun x13 _=>
  Zd (ih _)))))
 exact yF (yF (yB (yB (Zc (Za t0 t1 t2 t3 s0.1 x9.1 s0.2.2.1 x9.2 mA mE mD mF mB mC) (hrc t0 t1 t2 t3 s0.1 x9.1 s0.2.2.1 x9.2 mA mE mD mF mB mC) fun x14 _=>
  Zd (ih _))
  (Zc (Za t0 t1 t2 t3 s0.1 x9.1 s0.2.2.1 x9.2 mA mE mD mF mB mC) (hrc t0 t1 t2 t3 s0.1 x9.1 s0.2.2.1 x9.2 mA mE mD mF mB mC) fun x15 _=>
  Zd (ih _)))
  (yB (Zc (Za t0 t1 t2 t3 (w64 (x9.1+1)) s0.2.1 s0.2.2.1 x9.2 mA mE mD mF mB mC) (hrc t0 t1 t2 t3 (w64 (x9.1+1)) s0.2.1 s0.2.2.1 x9.2 mA mE mD mF mB mC) fun x16 _=>
  Zd (ih _))
  (Zc (Za t0 t1 t2 t3 (w64 (x9.1+1)) s0.2.1 s0.2.2.1 x9.2 mA mE mD mF mB mC) (hrc t0 t1 t2 t3 (w64 (x9.1+1)) s0.2.1 s0.2.2.1 x9.2 mA mE mD mF mB mC) fun x17 _=>
  Zd (ih _)))))))
  (Zc _ Zy fun x18 _=>
  Zd (ih _)))))
  (by
 conv=>rhs;whnf
 refine Zc _ Zn fun x19 _=>?_
 rcases x19 with x19 | x19
 exact yT (yF (yB (yB (Zc (Za t0 t1 t2 t3 s0.1 x19.1 s0.2.2.1 x19.2 mA mE mD mF mB mC) (hrc t0 t1 t2 t3 s0.1 x19.1 s0.2.2.1 x19.2 mA mE mD mF mB mC) fun x20 _=>
  Zd (ih _))
  (Zc (Za t0 t1 t2 t3 s0.1 x19.1 s0.2.2.1 x19.2 mA mE mD mF mB mC) (hrc t0 t1 t2 t3 s0.1 x19.1 s0.2.2.1 x19.2 mA mE mD mF mB mC) fun x21 _=>
  Zd (ih _)))
  (yB (Zc (Za t0 t1 t2 t3 (w64 (x19.1+1)) s0.2.1 s0.2.2.1 x19.2 mA mE mD mF mB mC) (hrc t0 t1 t2 t3 (w64 (x19.1+1)) s0.2.1 s0.2.2.1 x19.2 mA mE mD mF mB mC) fun x22 _=>
  Zd (ih _))
  (Zc (Za t0 t1 t2 t3 (w64 (x19.1+1)) s0.2.1 s0.2.2.1 x19.2 mA mE mD mF mB mC) (hrc t0 t1 t2 t3 (w64 (x19.1+1)) s0.2.1 s0.2.2.1 x19.2 mA mE mD mF mB mC) fun x23 _=>
  Zd (ih _)))))
 exact yF (yF (yB (yB (Zc (Za t0 t1 t2 t3 s0.1 x19.1 s0.2.2.1 x19.2 mA mE mD mF mB mC) (hrc t0 t1 t2 t3 s0.1 x19.1 s0.2.2.1 x19.2 mA mE mD mF mB mC) fun x24 _=>
  Zd (ih _))
  (Zc (Za t0 t1 t2 t3 s0.1 x19.1 s0.2.2.1 x19.2 mA mE mD mF mB mC) (hrc t0 t1 t2 t3 s0.1 x19.1 s0.2.2.1 x19.2 mA mE mD mF mB mC) fun x25 _=>
  Zd (ih _)))
  (yB (Zc (Za t0 t1 t2 t3 (w64 (x19.1+1)) s0.2.1 s0.2.2.1 x19.2 mA mE mD mF mB mC) (hrc t0 t1 t2 t3 (w64 (x19.1+1)) s0.2.1 s0.2.2.1 x19.2 mA mE mD mF mB mC) fun x26 _=>
  Zd (ih _))
  (Zc (Za t0 t1 t2 t3 (w64 (x19.1+1)) s0.2.1 s0.2.2.1 x19.2 mA mE mD mF mB mC) (hrc t0 t1 t2 t3 (w64 (x19.1+1)) s0.2.1 s0.2.2.1 x19.2 mA mE mD mF mB mC) fun x27 _=>
  Zd (ih _))))))))
  (yB ((by
 conv=>rhs;whnf
 refine Zc _ Za9 fun x28 _=>?_
 rcases x28 with x28 | x28
 exact Zk rfl
 exact yB (yG fun x29 hx29=>
  Ze (Zi rfl hx29) (yG fun x30 hx30=>
  Ze (Zi rfl hx30) (yC ZF fun x31 _=>
  yB ((by
 conv=>rhs;whnf
 refine Zc _ Zn fun x32 _=>?_
 rcases x32 with x32 | x32
 exact yT (yF (yB (yB (Zc (Za t0 t1 t2 t3 s0.1 x32.1 s0.2.2.1 x32.2 mA mE mD mF mB mC) (hrc t0 t1 t2 t3 s0.1 x32.1 s0.2.2.1 x32.2 mA mE mD mF mB mC) fun x33 _=>
  Zd (ih _))
  (Zc (Za t0 t1 t2 t3 s0.1 x32.1 s0.2.2.1 x32.2 mA mE mD mF mB mC) (hrc t0 t1 t2 t3 s0.1 x32.1 s0.2.2.1 x32.2 mA mE mD mF mB mC) fun x34 _=>
  Zd (ih _)))
  (yB (Zc (Za t0 t1 t2 t3 (w64 (x32.1+1)) s0.2.1 s0.2.2.1 x32.2 mA mE mD mF mB mC) (hrc t0 t1 t2 t3 (w64 (x32.1+1)) s0.2.1 s0.2.2.1 x32.2 mA mE mD mF mB mC) fun x35 _=>
  Zd (ih _))
  (Zc (Za t0 t1 t2 t3 (w64 (x32.1+1)) s0.2.1 s0.2.2.1 x32.2 mA mE mD mF mB mC) (hrc t0 t1 t2 t3 (w64 (x32.1+1)) s0.2.1 s0.2.2.1 x32.2 mA mE mD mF mB mC) fun x36 _=>
  Zd (ih _)))))
 exact yF (yF (yB (yB (Zc (Za t0 t1 t2 t3 s0.1 x32.1 s0.2.2.1 x32.2 mA mE mD mF mB mC) (hrc t0 t1 t2 t3 s0.1 x32.1 s0.2.2.1 x32.2 mA mE mD mF mB mC) fun x37 _=>
  Zd (ih _))
  (Zc (Za t0 t1 t2 t3 s0.1 x32.1 s0.2.2.1 x32.2 mA mE mD mF mB mC) (hrc t0 t1 t2 t3 s0.1 x32.1 s0.2.2.1 x32.2 mA mE mD mF mB mC) fun x38 _=>
  Zd (ih _)))
  (yB (Zc (Za t0 t1 t2 t3 (w64 (x32.1+1)) s0.2.1 s0.2.2.1 x32.2 mA mE mD mF mB mC) (hrc t0 t1 t2 t3 (w64 (x32.1+1)) s0.2.1 s0.2.2.1 x32.2 mA mE mD mF mB mC) fun x39 _=>
  Zd (ih _))
  (Zc (Za t0 t1 t2 t3 (w64 (x32.1+1)) s0.2.1 s0.2.2.1 x32.2 mA mE mD mF mB mC) (hrc t0 t1 t2 t3 (w64 (x32.1+1)) s0.2.1 s0.2.2.1 x32.2 mA mE mD mF mB mC) fun x40 _=>
  Zd (ih _)))))))
  (Zc _ Zy fun x41 _=>
  Zd (ih _)))))
  (by
 conv=>rhs;whnf
 refine Zc _ Zn fun x42 _=>?_
 rcases x42 with x42 | x42
 exact yT (yF (yB (yB (Zc (Za t0 t1 t2 t3 s0.1 x42.1 s0.2.2.1 x42.2 mA mE mD mF mB mC) (hrc t0 t1 t2 t3 s0.1 x42.1 s0.2.2.1 x42.2 mA mE mD mF mB mC) fun x43 _=>
  Zd (ih _))
  (Zc (Za t0 t1 t2 t3 s0.1 x42.1 s0.2.2.1 x42.2 mA mE mD mF mB mC) (hrc t0 t1 t2 t3 s0.1 x42.1 s0.2.2.1 x42.2 mA mE mD mF mB mC) fun x44 _=>
  Zd (ih _)))
  (yB (Zc (Za t0 t1 t2 t3 (w64 (x42.1+1)) s0.2.1 s0.2.2.1 x42.2 mA mE mD mF mB mC) (hrc t0 t1 t2 t3 (w64 (x42.1+1)) s0.2.1 s0.2.2.1 x42.2 mA mE mD mF mB mC) fun x45 _=>
  Zd (ih _))
  (Zc (Za t0 t1 t2 t3 (w64 (x42.1+1)) s0.2.1 s0.2.2.1 x42.2 mA mE mD mF mB mC) (hrc t0 t1 t2 t3 (w64 (x42.1+1)) s0.2.1 s0.2.2.1 x42.2 mA mE mD mF mB mC) fun x46 _=>
  Zd (ih _)))))
 exact yF (yF (yB (yB (Zc (Za t0 t1 t2 t3 s0.1 x42.1 s0.2.2.1 x42.2 mA mE mD mF mB mC) (hrc t0 t1 t2 t3 s0.1 x42.1 s0.2.2.1 x42.2 mA mE mD mF mB mC) fun x47 _=>
  Zd (ih _))
  (Zc (Za t0 t1 t2 t3 s0.1 x42.1 s0.2.2.1 x42.2 mA mE mD mF mB mC) (hrc t0 t1 t2 t3 s0.1 x42.1 s0.2.2.1 x42.2 mA mE mD mF mB mC) fun x48 _=>
  Zd (ih _)))
  (yB (Zc (Za t0 t1 t2 t3 (w64 (x42.1+1)) s0.2.1 s0.2.2.1 x42.2 mA mE mD mF mB mC) (hrc t0 t1 t2 t3 (w64 (x42.1+1)) s0.2.1 s0.2.2.1 x42.2 mA mE mD mF mB mC) fun x49 _=>
  Zd (ih _))
  (Zc (Za t0 t1 t2 t3 (w64 (x42.1+1)) s0.2.1 s0.2.2.1 x42.2 mA mE mD mF mB mC) (hrc t0 t1 t2 t3 (w64 (x42.1+1)) s0.2.1 s0.2.2.1 x42.2 mA mE mD mF mB mC) fun x50 _=>
  Zd (ih _))))))))
  (yB (yG fun x51 hx51=>
  Ze (Zi rfl hx51) (yG fun x52 hx52=>
  Ze (Zi rfl hx52) (yC ZF fun x53 _=>
  yB ((by
 conv=>rhs;whnf
 refine Zc _ Zn fun x54 _=>?_
 rcases x54 with x54 | x54
 exact yT (yF (yB (yB (Zc (Za t0 t1 t2 t3 s0.1 x54.1 s0.2.2.1 x54.2 mA mE mD mF mB mC) (hrc t0 t1 t2 t3 s0.1 x54.1 s0.2.2.1 x54.2 mA mE mD mF mB mC) fun x55 _=>
  Zd (ih _))
  (Zc (Za t0 t1 t2 t3 s0.1 x54.1 s0.2.2.1 x54.2 mA mE mD mF mB mC) (hrc t0 t1 t2 t3 s0.1 x54.1 s0.2.2.1 x54.2 mA mE mD mF mB mC) fun x56 _=>
  Zd (ih _)))
  (yB (Zc (Za t0 t1 t2 t3 (w64 (x54.1+1)) s0.2.1 s0.2.2.1 x54.2 mA mE mD mF mB mC) (hrc t0 t1 t2 t3 (w64 (x54.1+1)) s0.2.1 s0.2.2.1 x54.2 mA mE mD mF mB mC) fun x57 _=>
  Zd (ih _))
  (Zc (Za t0 t1 t2 t3 (w64 (x54.1+1)) s0.2.1 s0.2.2.1 x54.2 mA mE mD mF mB mC) (hrc t0 t1 t2 t3 (w64 (x54.1+1)) s0.2.1 s0.2.2.1 x54.2 mA mE mD mF mB mC) fun x58 _=>
  Zd (ih _)))))
 exact yF (yF (yB (yB (Zc (Za t0 t1 t2 t3 s0.1 x54.1 s0.2.2.1 x54.2 mA mE mD mF mB mC) (hrc t0 t1 t2 t3 s0.1 x54.1 s0.2.2.1 x54.2 mA mE mD mF mB mC) fun x59 _=>
  Zd (ih _))
  (Zc (Za t0 t1 t2 t3 s0.1 x54.1 s0.2.2.1 x54.2 mA mE mD mF mB mC) (hrc t0 t1 t2 t3 s0.1 x54.1 s0.2.2.1 x54.2 mA mE mD mF mB mC) fun x60 _=>
  Zd (ih _)))
  (yB (Zc (Za t0 t1 t2 t3 (w64 (x54.1+1)) s0.2.1 s0.2.2.1 x54.2 mA mE mD mF mB mC) (hrc t0 t1 t2 t3 (w64 (x54.1+1)) s0.2.1 s0.2.2.1 x54.2 mA mE mD mF mB mC) fun x61 _=>
  Zd (ih _))
  (Zc (Za t0 t1 t2 t3 (w64 (x54.1+1)) s0.2.1 s0.2.2.1 x54.2 mA mE mD mF mB mC) (hrc t0 t1 t2 t3 (w64 (x54.1+1)) s0.2.1 s0.2.2.1 x54.2 mA mE mD mF mB mC) fun x62 _=>
  Zd (ih _)))))))
  (Zc _ Zy fun x63 _=>
  Zd (ih _)))))
  (by
 conv=>rhs;whnf
 refine Zc _ Zn fun x64 _=>?_
 rcases x64 with x64 | x64
 exact yT (yF (yB (yB (Zc (Za t0 t1 t2 t3 s0.1 x64.1 s0.2.2.1 x64.2 mA mE mD mF mB mC) (hrc t0 t1 t2 t3 s0.1 x64.1 s0.2.2.1 x64.2 mA mE mD mF mB mC) fun x65 _=>
  Zd (ih _))
  (Zc (Za t0 t1 t2 t3 s0.1 x64.1 s0.2.2.1 x64.2 mA mE mD mF mB mC) (hrc t0 t1 t2 t3 s0.1 x64.1 s0.2.2.1 x64.2 mA mE mD mF mB mC) fun x66 _=>
  Zd (ih _)))
  (yB (Zc (Za t0 t1 t2 t3 (w64 (x64.1+1)) s0.2.1 s0.2.2.1 x64.2 mA mE mD mF mB mC) (hrc t0 t1 t2 t3 (w64 (x64.1+1)) s0.2.1 s0.2.2.1 x64.2 mA mE mD mF mB mC) fun x67 _=>
  Zd (ih _))
  (Zc (Za t0 t1 t2 t3 (w64 (x64.1+1)) s0.2.1 s0.2.2.1 x64.2 mA mE mD mF mB mC) (hrc t0 t1 t2 t3 (w64 (x64.1+1)) s0.2.1 s0.2.2.1 x64.2 mA mE mD mF mB mC) fun x68 _=>
  Zd (ih _)))))
 exact yF (yF (yB (yB (Zc (Za t0 t1 t2 t3 s0.1 x64.1 s0.2.2.1 x64.2 mA mE mD mF mB mC) (hrc t0 t1 t2 t3 s0.1 x64.1 s0.2.2.1 x64.2 mA mE mD mF mB mC) fun x69 _=>
  Zd (ih _))
  (Zc (Za t0 t1 t2 t3 s0.1 x64.1 s0.2.2.1 x64.2 mA mE mD mF mB mC) (hrc t0 t1 t2 t3 s0.1 x64.1 s0.2.2.1 x64.2 mA mE mD mF mB mC) fun x70 _=>
  Zd (ih _)))
  (yB (Zc (Za t0 t1 t2 t3 (w64 (x64.1+1)) s0.2.1 s0.2.2.1 x64.2 mA mE mD mF mB mC) (hrc t0 t1 t2 t3 (w64 (x64.1+1)) s0.2.1 s0.2.2.1 x64.2 mA mE mD mF mB mC) fun x71 _=>
  Zd (ih _))
  (Zc (Za t0 t1 t2 t3 (w64 (x64.1+1)) s0.2.1 s0.2.2.1 x64.2 mA mE mD mF mB mC) (hrc t0 t1 t2 t3 (w64 (x64.1+1)) s0.2.1 s0.2.2.1 x64.2 mA mE mD mF mB mC) fun x72 _=>
  Zd (ih _)))))))))))))
theorem Zev (rc:Int->Int->Int->(Int->Int->Option Int)->(List Int)->Option (List Int)) (hrc:∀(t0:Bool) (t1:Bool) (t2:Bool) (t3:Bool) (b:Int) (c:Int) (d:Int) (mG:List Int) (mA:Int) (mE:Int) (mD:List Z1) (mF:List Zr) (mB:List Zh) (mC:List Zt) (r:List Int),rc b c d (fun z0 z1=>Zu z0 z1 mB) mG=some r->evW ctx 122 [(.sl 0 1),(zN b),(zN c),(zN d),(.fn 143 [(.ptr 1 0)])] [(zA mG),(zK0 mA mE t0 mD t1 mF t2 mB t3 mC)]=some ((Za t0 t1 t2 t3 b c d mG mA mE mD mF mB mC) r)) (t0:Bool) (t1:Bool) (t2:Bool) (t3:Bool) (b:Int) (c:Int) (d:Int) (mG:List Int) (mA:Int) (mE:Int) (mD:List Z1) (mF:List Zr) (mB:List Zh) (mC:List Zt):∀r,(Zas rc b c d (fun z0 z1=>Zu z0 z1 mB) mG)=some r->evW ctx 122 [(.sl 0 1),(zN b),(zN c),(zN d),(.fn 143 [(.ptr 1 0)])] [(zA mG),(zK0 mA mE t0 mD t1 mF t2 mB t3 mC)]=some ((Za t0 t1 t2 t3 b c d mG mA mE mD mF mB mC) r):=
 evS ZxB rfl rfl <| Zc _ (Zem hrc _) fun r219 _=>
  yR
theorem ZbY:∀(n:Nat) (t0:Bool) (t1:Bool) (t2:Bool) (t3:Bool) (b:Int) (c:Int) (d:Int) (mG:List Int) (mA:Int) (mE:Int) (mD:List Z1) (mF:List Zr) (mB:List Zh) (mC:List Zt) (r:List Int),ZP n b c d (fun z0 z1=>Zu z0 z1 mB) mG=some r->evW ctx 122 [(.sl 0 1),(zN b),(zN c),(zN d),(.fn 143 [(.ptr 1 0)])] [(zA mG),(zK0 mA mE t0 mD t1 mF t2 mB t3 mC)]=some ((Za t0 t1 t2 t3 b c d mG mA mE mD mF mB mC) r)
  | 0,t0,t1,t2,t3,b,c,d,mG,mA,mE,mD,mF,mB,mC,r,h=>by cases h
  | n+1,t0,t1,t2,t3,b,c,d,mG,mA,mE,mD,mF,mB,mC,r,h=>Zev (ZP n) (ZbY n) t0 t1 t2 t3 b c d mG mA mE mD mF mB mC r h
theorem Ze4 {t0 t1:Bool}{t2 t3:Bool}{b c d:Int}{mG:List Int}{mA mE:Int}{mD:List Z1}{mF:List Zr}{mB:List Zh}{mC:List Zt}:∀r,Zct b c d (fun z0 z1=>Zu z0 z1 mB) mG=some r->evW ctx 122 [(.sl 0 1),(zN b),(zN c),(zN d),(.fn 143 [(.ptr 1 0)])] [(zA mG),(zK0 mA mE t0 mD t1 mF t2 mB t3 mC)]=some ((Za t0 t1 t2 t3 b c d mG mA mE mD mF mB mC) r):=fun r h=>by
  obtain⟨n,hn⟩:=Zyi h
  exact ZbY n t0 t1 t2 t3 b c d mG mA mE mD mF mB mC r hn
def Zfg (t0:Bool) (t1:Bool) (t2:Bool) (t3:Bool) (mG:List Int) (mA:Int) (mE:Int) (mD:List Z1) (mF:List Zr) (mB:List Zh) (mC:List Zt):(List Int)->V×Zl
  | r=>((.d (D.tup [])),[(zA r),(zK0 mA mE t0 mD t1 mF t2 mB t3 mC)])
theorem Ze3 {t0 t1:Bool}{t2 t3:Bool}{mG:List Int}{mA mE:Int}{mD:List Z1}{mF:List Zr}{mB:List Zh}{mC:List Zt}:∀r,(Zao (fun z0 z1=>Zu z0 z1 mB) mG)=some r->evW ctx 96 [(.sl 0 1),(.fn 143 [(.ptr 1 0)])] [(zA mG),(zK0 mA mE t0 mD t1 mF t2 mB t3 mC)]=some ((Zfg t0 t1 t2 t3 mG mA mE mD mF mB mC) r):=
 evS ZCQ rfl rfl <| Zj (ZG _ _) (yC Zg7 fun x0 _=>
  Zc _ Ze4 fun x1 _=>
  yR)
def ZoK (r:List Int):D:=(zL true r)
def Ziv (t0:Bool) (t1:Bool) (t2:Bool) (t3:Bool) (a:Zp) (b:Int):(List Int)->Ex×List V×Zl
  | r=>(.exit 0,[(.ptr 0 0),(.sl 1 1)],[(.cells (dV t0 t1 t2 t3 a)),(zA r)])
theorem Zl6 {t0 t1:Bool}{t2 t3:Bool}{a:Zp}{b:Int}:∀(s1:Int×(List Int)) (r:List Int),lp (ZeN a b) s1=some r->lpW ctx 0 [1,2,5,12,13,14] [2,5] ZxA [(zN b),(.ptr 0 0),(.sl 1 1),(zW t2 Z0 a.futures),(zN (a.futures.length:Int)),(zN s1.1)] [(.cells (dV t0 t1 t2 t3 a)),(zA s1.2)]=some ((Ziv t0 t1 t2 t3 a b) r):=
 lpT (Ziv t0 t1 t2 t3 a b) fun s1 _ ih=>yB (yG fun x2 _=>
  yB (yT (Zc2 (Zg1 Zm s1.2 1) (Zj (Zg0 Zm s1.2 [s1.1]) (Zd (ih _)))
  Zbr))
  (Zd (ih _)))
  (Zk rfl)
theorem Zon {t0 t1:Bool}{t2 t3:Bool}{a:Zp}{b:Int}:∀r,(Zd7 a b)=some r->evD ctx 115 [(.d (D.agg (dA t0 t1 t2 t3 a))),(zN b)]=some (ZoK r):=
 evT ZB2 rfl rfl <| yC Zlv fun x0 _=>
  yBr (Zj (ZG _ _) (Zc _ (Zl6 _) fun r3 _=>
  Zc _ Ze3 fun x4 _=>
  yR))
def ZlB (b:Zg) (c:Int) (mA:List Int) (mI:List Zr) (mH:List Zg) (mL:(List (Int×Int))) (mJ:(List (Int×Int))) (mK:(List (Zh×Int))):Unit->V×Zl
  | r=>((zN (w64 ((List.length (mH++[b]):Int)-1))),[(.cells [(.sl 7 1),(.sl 2 2),(.sl 8 2),(.mp 4),(.mp 5),(.mp 6)]),.dead,(.arr 2 (List.map ZaS mI)),.dead,(.mp (mpD Zm Zm mL)),(.mp (mpD Zm Zm mJ)),(.mp (mpD Z0 Zm mK)),(zA (mA++[c])),(.arr 2 (List.map ZbN (mH++[b])))])
theorem ZaL {b:Zg}{c:Int}{mA:List Int}{mI:List Zr}{mH:List Zg}{mL:(List (Int×Int))}{mJ:(List (Int×Int))}{mK:(List (Zh×Int))}:∀r,(Zaq b c mA mH)=some r->evW ctx 87 [(.ptr 0 0),(.d (zK5 b.part b.step)),(zN c)] [(.cells [(.sl 1 1),(.sl 2 2),(.sl 3 2),(.mp 4),(.mp 5),(.mp 6)]),(zA mA),(.arr 2 (List.map ZaS mI)),(.arr 2 (List.map ZbN mH)),(.mp (mpD Zm Zm mL)),(.mp (mpD Zm Zm mJ)),(.mp (mpD Z0 Zm mK))]=some ((ZlB b c mA mI mH mL mJ mK) r):=
 evS ZFc rfl rfl <| yT (Zc2 (Zg1 ZbN mH 1) (Zj (Zg0 ZbN mH [b]) (yT (Zc2 (Zg1 Zm mA 1) (Zj (Zg0 Zm mA [c]) (Zj (ZG _ _) yR))
  Zbr)))
  Zbr)
def ZlF (b:Int) (c:Int) (mA:List Int) (mI:List Zr) (mH:List Zg) (mL:(List (Int×Int))) (mJ:(List (Int×Int))) (mK:(List (Zh×Int))):Unit->V×Zl
  | r=>((.d (D.tup [])),[(.cells [(.sl 1 1),(.sl 7 2),(.sl 3 2),(.mp 4),(.mp 5),(.mp 6)]),(zA mA),.dead,(.arr 2 (List.map ZbN mH)),(.mp (mpD Zm Zm mL)),(.mp (mpD Zm Zm mJ)),(.mp (mpD Z0 Zm mK)),(.arr 2 (List.map ZaS (mI++[(Zr.mk b c)])))])
theorem Zar {b c:Int}{mA:List Int}{mI:List Zr}{mH:List Zg}{mL:(List (Int×Int))}{mJ:(List (Int×Int))}{mK:(List (Zh×Int))}:∀r,(ZL b c mI)=some r->evW ctx 86 [(.ptr 0 0),(zN b),(zN c)] [(.cells [(.sl 1 1),(.sl 2 2),(.sl 3 2),(.mp 4),(.mp 5),(.mp 6)]),(zA mA),(.arr 2 (List.map ZaS mI)),(.arr 2 (List.map ZbN mH)),(.mp (mpD Zm Zm mL)),(.mp (mpD Zm Zm mJ)),(.mp (mpD Z0 Zm mK))]=some ((ZlF b c mA mI mH mL mJ mK) r):=
 evS ZFh rfl rfl <| yT (Zc2 (Zg1 ZaS mI 1) (Zj (Zg0 ZaS mI [(Zr.mk b c)]) yR)
  Zbr)
def ZlC (t0:Bool) (t1:Bool) (t2:Bool) (t3:Bool) (b:Zp) (c:Int) (mA:List Int) (mI:List Zr) (mH:List Zg) (mL:(List (Int×Int))) (mJ:(List (Int×Int))) (mK:(List (Zh×Int))):(((List (Int×Int))×(List (Zh×Int))×(List Int)×(List Zr)×(List Zg))⊕((List Int)⊕Unit))->V×Zl
  | (.inl r)=>((.d (D.tup [])),[(.cells [(.sl 7 1),(.sl 8 2),(.sl 9 2),(.mp 4),(.mp 5),(.mp 6)]),.dead,.dead,.dead,(.mp (mpD Zm Zm (Zw zE mL c (mH.length:Int)))),(.mp (mpD Zm Zm r.1)),(.mp (mpD Z0 Zm r.2.1)),(zA r.2.2.1),(.arr 2 (List.map ZaS r.2.2.2.1)),(.arr 2 (List.map ZbN r.2.2.2.2))])
  | (.inr (.inl r))=>((.d (D.tup [])),[(.cells [(.sl 7 1),(.sl 2 2),(.sl 8 2),(.mp 4),(.mp 5),(.mp 6)]),.dead,(.arr 2 (List.map ZaS mI)),.dead,(.mp (mpD Zm Zm (Zw zE mL c (mH.length:Int)))),(.mp (mpD Zm Zm (Zw zE mJ c (w64 ((List.length (mH++[(Zg.mk c 0)]):Int)-1))))),(.mp (mpD Z0 Zm mK)),(zA r),(.arr 2 (List.map ZbN (mH++[(Zg.mk c 0)])))])
  | (.inr (.inr r))=>((.d (D.tup [])),[(.cells [(.sl 1 1),(.sl 2 2),(.sl 3 2),(.mp 4),(.mp 5),(.mp 6)]),(zA mA),(.arr 2 (List.map ZaS mI)),(.arr 2 (List.map ZbN mH)),(.mp (mpD Zm Zm (Zw zE mL c (mH.length:Int)))),(.mp (mpD Zm Zm mJ)),(.mp (mpD Z0 Zm mK))])
def ZgV (t0:Bool) (t1:Bool) (t2:Bool) (t3:Bool) (b:Zp) (c:Int) (mH:List Zg) (mL:(List (Int×Int))) (x0:List Int):((List (Int×Int))×(List (Zh×Int))×(List Int)×(List Zr)×(List Zg))->Ex×List V×Zl
  | r=>(.exit 0,[],[(.cells [(.sl 7 1),(.sl 8 2),(.sl 9 2),(.mp 4),(.mp 5),(.mp 6)]),.dead,.dead,.dead,(.mp (mpD Zm Zm (Zw zE mL c (mH.length:Int)))),(.mp (mpD Zm Zm r.1)),(.mp (mpD Z0 Zm r.2.1)),(zA r.2.2.1),(.arr 2 (List.map ZaS r.2.2.2.1)),(.arr 2 (List.map ZbN r.2.2.2.2))])
theorem ZcJ {t0 t1:Bool}{t2 t3:Bool}{b:Zp}{c:Int}{mH:List Zg}{mL:(List (Int×Int))}{x0:List Int}:∀(s14:Int×Int×(List (Int×Int))×(List (Zh×Int))×(List Int)×(List Zr)×(List Zg)) (r:((List (Int×Int))×(List (Zh×Int))×(List Int)×(List Zr)×(List Zg))),lp (ZD b c x0) s14=some r->lpW ctx 7 [0,2,4,6,7,26,27] [] Zrp [(.ptr 0 0),(zN c),(.ptr 7 0),(zN s14.1),(zV true x0),(zN (w64 ((x0.length:Int)+1))),(zN s14.2.1)] [(.cells [(.sl 8 1),(.sl 9 2),(.sl 10 2),(.mp 4),(.mp 5),(.mp 6)]),.dead,.dead,.dead,(.mp (mpD Zm Zm (Zw zE mL c (mH.length:Int)))),(.mp (mpD Zm Zm s14.2.2.1)),(.mp (mpD Z0 Zm s14.2.2.2.1)),(.cells (dV t0 t1 t2 t3 b)),(zA s14.2.2.2.2.1),(.arr 2 (List.map ZaS s14.2.2.2.2.2.1)),(.arr 2 (List.map ZbN s14.2.2.2.2.2.2))]=some ((ZgV t0 t1 t2 t3 b c mH mL x0) r):=
 lpT (ZgV t0 t1 t2 t3 b c mH mL x0) fun s14 _ ih=>yB (yG fun x15 _=>
  Zj (ZG _ _) (yB (yG fun x16 _=>
  yG fun x17 _=>
  Zc _ ZaL fun x18 _=>
  Ze (Zd3 (f:=Zm) (g:=Zm) zE (fun _ _=>rfl) s14.2.2.1 c (w64 ((List.length (s14.2.2.2.2.2.2++[(Zg.mk c s14.2.1)]):Int)-1))) (yB (Ze (ZbG (f:=Zm) (g:=Zm) zE (fun _ _=>rfl) (Zw zE s14.2.2.1 c (w64 ((List.length (s14.2.2.2.2.2.2++[(Zg.mk c s14.2.1)]):Int)-1))) c 0) (Ze (ZbG (f:=Zm) (g:=Zm) zE (fun _ _=>rfl) (Zw zE s14.2.2.1 c (w64 ((List.length (s14.2.2.2.2.2.2++[(Zg.mk c s14.2.1)]):Int)-1))) c 0) (Zc _ Zar fun x19 _=>
  yG fun x20 _=>
  yG fun x21 _=>
  Ze (ZbG (f:=Zm) (g:=Zm) zE (fun _ _=>rfl) (Zw zE s14.2.2.1 c (w64 ((List.length (s14.2.2.2.2.2.2++[(Zg.mk c s14.2.1)]):Int)-1))) c 0) (Ze (Zd3 (f:=Z0) (g:=Zm) (fun ka kb:Zh=>((ka.maker==kb.maker)&&((ka.user==kb.user)&&((ka.pos==kb.pos)&&true)))) (fun _ _=>rfl) s14.2.2.2.1 x21 (Z6 zE (Zw zE s14.2.2.1 c (w64 ((List.length (s14.2.2.2.2.2.2++[(Zg.mk c s14.2.1)]):Int)-1))) c 0)) (Zd (ih _))))))
  (Zd (ih _))))
  (Zc _ ZaL fun x22 _=>
  Ze (Zd3 (f:=Zm) (g:=Zm) zE (fun _ _=>rfl) s14.2.2.1 c (w64 ((List.length (s14.2.2.2.2.2.2++[(Zg.mk c s14.2.1)]):Int)-1))) (yB (Ze (ZbG (f:=Zm) (g:=Zm) zE (fun _ _=>rfl) (Zw zE s14.2.2.1 c (w64 ((List.length (s14.2.2.2.2.2.2++[(Zg.mk c s14.2.1)]):Int)-1))) c 0) (Ze (ZbG (f:=Zm) (g:=Zm) zE (fun _ _=>rfl) (Zw zE s14.2.2.1 c (w64 ((List.length (s14.2.2.2.2.2.2++[(Zg.mk c s14.2.1)]):Int)-1))) c 0) (Zc _ Zar fun x23 _=>
  yG fun x24 _=>
  yG fun x25 _=>
  Ze (ZbG (f:=Zm) (g:=Zm) zE (fun _ _=>rfl) (Zw zE s14.2.2.1 c (w64 ((List.length (s14.2.2.2.2.2.2++[(Zg.mk c s14.2.1)]):Int)-1))) c 0) (Ze (Zd3 (f:=Z0) (g:=Zm) (fun ka kb:Zh=>((ka.maker==kb.maker)&&((ka.user==kb.user)&&((ka.pos==kb.pos)&&true)))) (fun _ _=>rfl) s14.2.2.2.1 x25 (Z6 zE (Zw zE s14.2.2.1 c (w64 ((List.length (s14.2.2.2.2.2.2++[(Zg.mk c s14.2.1)]):Int)-1))) c 0)) (Zd (ih _))))))
  (Zd (ih _))))))
  (Zk rfl)
def Zgs (t0:Bool) (t1:Bool) (t2:Bool) (t3:Bool) (b:Zp) (c:Int) (mA:List Int) (mI:List Zr) (mH:List Zg) (mL:(List (Int×Int))) (mJ:(List (Int×Int))) (mK:(List (Zh×Int))) (x0:List Int) (x4:Zh):(((List (Int×Int))×(List (Zh×Int))×(List Int)×(List Zr)×(List Zg))⊕Unit)->Ex×List V×Zl
  | (.inl r)=>(.exit 0,[],[(.cells [(.sl 7 1),(.sl 8 2),(.sl 9 2),(.mp 4),(.mp 5),(.mp 6)]),.dead,.dead,.dead,(.mp (mpD Zm Zm (Zw zE mL c (mH.length:Int)))),(.mp (mpD Zm Zm r.1)),(.mp (mpD Z0 Zm r.2.1)),(zA r.2.2.1),(.arr 2 (List.map ZaS r.2.2.2.1)),(.arr 2 (List.map ZbN r.2.2.2.2))])
  | (.inr r)=>(.exit 0,[],[(.cells [(.sl 7 1),(.sl 2 2),(.sl 8 2),(.mp 4),(.mp 5),(.mp 6)]),.dead,(.arr 2 (List.map ZaS mI)),.dead,(.mp (mpD Zm Zm (Zw zE mL c (mH.length:Int)))),(.mp (mpD Zm Zm (Zw zE mJ c (w64 ((List.length (mH++[(Zg.mk c 0)]):Int)-1))))),(.mp (mpD Z0 Zm mK)),(zA (mA++[(w64 (x4.pos-0))])),(.arr 2 (List.map ZbN (mH++[(Zg.mk c 0)])))])
theorem ZiC {t0 t1:Bool}{t2 t3:Bool}{b:Zp}{c:Int}{mA:List Int}{mI:List Zr}{mH:List Zg}{mL:(List (Int×Int))}{mJ:(List (Int×Int))}{mK:(List (Zh×Int))}{x0:List Int}{x4:Zh}:∀(s6:Unit) (r:(((List (Int×Int))×(List (Zh×Int))×(List Int)×(List Zr)×(List Zg))⊕Unit)),lp (Zch b c mA mI mH mJ mK x0 x4) s6=some r->lpW ctx 7 [0,2,4,6,7,26,27] [] Zrp [(.ptr 0 0),(zN c),(.ptr 7 0),(zN x4.pos),(zV true x0),(zN (w64 ((x0.length:Int)+1))),(zN 1)] [(.cells [(.sl 8 1),(.sl 2 2),(.sl 9 2),(.mp 4),(.mp 5),(.mp 6)]),.dead,(.arr 2 (List.map ZaS mI)),.dead,(.mp (mpD Zm Zm (Zw zE mL c (mH.length:Int)))),(.mp (mpD Zm Zm (Zw zE mJ c (w64 ((List.length (mH++[(Zg.mk c 0)]):Int)-1))))),(.mp (mpD Z0 Zm mK)),(.cells (dV t0 t1 t2 t3 b)),(zA (mA++[(w64 (x4.pos-0))])),(.arr 2 (List.map ZbN (mH++[(Zg.mk c 0)])))]=some ((Zgs t0 t1 t2 t3 b c mA mI mH mL mJ mK x0 x4) r):=
 lpT (Zgs t0 t1 t2 t3 b c mA mI mH mL mJ mK x0 x4) fun s6 _ ih=>yB (yG fun x7 _=>
  Zj (ZG _ _) (yB (yG fun x8 _=>
  yG fun x9 _=>
  Zc _ ZaL fun x10 _=>
  Ze (Zd3 (f:=Zm) (g:=Zm) zE (fun _ _=>rfl) (Zw zE mJ c (w64 ((List.length (mH++[(Zg.mk c 0)]):Int)-1))) c (w64 ((List.length ((mH++[(Zg.mk c 0)])++[(Zg.mk c 1)]):Int)-1))) (yT (Ze (ZbG (f:=Zm) (g:=Zm) zE (fun _ _=>rfl) (Zw zE (Zw zE mJ c (w64 ((List.length (mH++[(Zg.mk c 0)]):Int)-1))) c (w64 ((List.length ((mH++[(Zg.mk c 0)])++[(Zg.mk c 1)]):Int)-1))) c 0) (Ze (ZbG (f:=Zm) (g:=Zm) zE (fun _ _=>rfl) (Zw zE (Zw zE mJ c (w64 ((List.length (mH++[(Zg.mk c 0)]):Int)-1))) c (w64 ((List.length ((mH++[(Zg.mk c 0)])++[(Zg.mk c 1)]):Int)-1))) c 0) (Zc _ Zar fun x11 _=>
  yG fun x12 _=>
  yG fun x13 _=>
  Ze (ZbG (f:=Zm) (g:=Zm) zE (fun _ _=>rfl) (Zw zE (Zw zE mJ c (w64 ((List.length (mH++[(Zg.mk c 0)]):Int)-1))) c (w64 ((List.length ((mH++[(Zg.mk c 0)])++[(Zg.mk c 1)]):Int)-1))) c 0) (Ze (Zd3 (f:=Z0) (g:=Zm) (fun ka kb:Zh=>((ka.maker==kb.maker)&&((ka.user==kb.user)&&((ka.pos==kb.pos)&&true)))) (fun _ _=>rfl) mK x13 (Z6 zE (Zw zE (Zw zE mJ c (w64 ((List.length (mH++[(Zg.mk c 0)]):Int)-1))) c (w64 ((List.length ((mH++[(Zg.mk c 0)])++[(Zg.mk c 1)]):Int)-1))) c 0)) (Zc _ (ZcJ _) fun r26 _=>
  Zk rfl)))))))
  (Zc _ ZaL fun x27 _=>
  Ze (Zd3 (f:=Zm) (g:=Zm) zE (fun _ _=>rfl) (Zw zE mJ c (w64 ((List.length (mH++[(Zg.mk c 0)]):Int)-1))) c (w64 ((List.length ((mH++[(Zg.mk c 0)])++[(Zg.mk c 1)]):Int)-1))) (yT (Ze (ZbG (f:=Zm) (g:=Zm) zE (fun _ _=>rfl) (Zw zE (Zw zE mJ c (w64 ((List.length (mH++[(Zg.mk c 0)]):Int)-1))) c (w64 ((List.length ((mH++[(Zg.mk c 0)])++[(Zg.mk c 1)]):Int)-1))) c 0) (Ze (ZbG (f:=Zm) (g:=Zm) zE (fun _ _=>rfl) (Zw zE (Zw zE mJ c (w64 ((List.length (mH++[(Zg.mk c 0)]):Int)-1))) c (w64 ((List.length ((mH++[(Zg.mk c 0)])++[(Zg.mk c 1)]):Int)-1))) c 0) (Zc _ Zar fun x28 _=>
  yG fun x29 _=>
  yG fun x30 _=>
  Ze (ZbG (f:=Zm) (g:=Zm) zE (fun _ _=>rfl) (Zw zE (Zw zE mJ c (w64 ((List.length (mH++[(Zg.mk c 0)]):Int)-1))) c (w64 ((List.length ((mH++[(Zg.mk c 0)])++[(Zg.mk c 1)]):Int)-1))) c 0) (Ze (Zd3 (f:=Z0) (g:=Zm) (fun ka kb:Zh=>((ka.maker==kb.maker)&&((ka.user==kb.user)&&((ka.pos==kb.pos)&&true)))) (fun _ _=>rfl) mK x30 (Z6 zE (Zw zE (Zw zE mJ c (w64 ((List.length (mH++[(Zg.mk c 0)]):Int)-1))) c (w64 ((List.length ((mH++[(Zg.mk c 0)])++[(Zg.mk c 1)]):Int)-1))) c 0)) (Zc _ (ZcJ _) fun r43 _=>
  Zk rfl)))))))))
  (Zk rfl)
def Zgw (t0:Bool) (t1:Bool) (t2:Bool) (t3:Bool) (b:Zp) (c:Int) (mA:List Int) (mI:List Zr) (mH:List Zg) (mL:(List (Int×Int))) (mJ:(List (Int×Int))) (mK:(List (Zh×Int))) (x0:List Int) (x2:Z1):(((List (Int×Int))×(List (Zh×Int))×(List Int)×(List Zr)×(List Zg))⊕Unit)->Ex×List V×Zl
  | (.inl r)=>(.exit 0,[],[(.cells [(.sl 7 1),(.sl 8 2),(.sl 9 2),(.mp 4),(.mp 5),(.mp 6)]),.dead,.dead,.dead,(.mp (mpD Zm Zm (Zw zE mL c (mH.length:Int)))),(.mp (mpD Zm Zm r.1)),(.mp (mpD Z0 Zm r.2.1)),(zA r.2.2.1),(.arr 2 (List.map ZaS r.2.2.2.1)),(.arr 2 (List.map ZbN r.2.2.2.2))])
  | (.inr r)=>(.exit 0,[],[(.cells [(.sl 7 1),(.sl 2 2),(.sl 8 2),(.mp 4),(.mp 5),(.mp 6)]),.dead,(.arr 2 (List.map ZaS mI)),.dead,(.mp (mpD Zm Zm (Zw zE mL c (mH.length:Int)))),(.mp (mpD Zm Zm (Zw zE mJ c (w64 ((List.length (mH++[(Zg.mk c 0)]):Int)-1))))),(.mp (mpD Z0 Zm mK)),(zA (mA++[(w64 (x2.work-0))])),(.arr 2 (List.map ZbN (mH++[(Zg.mk c 0)])))])
theorem ZiM {t0 t1:Bool}{t2 t3:Bool}{b:Zp}{c:Int}{mA:List Int}{mI:List Zr}{mH:List Zg}{mL:(List (Int×Int))}{mJ:(List (Int×Int))}{mK:(List (Zh×Int))}{x0:List Int}{x2:Z1}:∀(s46:Unit) (r:(((List (Int×Int))×(List (Zh×Int))×(List Int)×(List Zr)×(List Zg))⊕Unit)),lp (ZcX b c mA mI mH mJ mK x0 x2) s46=some r->lpW ctx 7 [0,2,4,6,7,26,27] [] Zrp [(.ptr 0 0),(zN c),(.ptr 7 0),(zN x2.work),(zV true x0),(zN (w64 ((x0.length:Int)+1))),(zN 1)] [(.cells [(.sl 8 1),(.sl 2 2),(.sl 9 2),(.mp 4),(.mp 5),(.mp 6)]),.dead,(.arr 2 (List.map ZaS mI)),.dead,(.mp (mpD Zm Zm (Zw zE mL c (mH.length:Int)))),(.mp (mpD Zm Zm (Zw zE mJ c (w64 ((List.length (mH++[(Zg.mk c 0)]):Int)-1))))),(.mp (mpD Z0 Zm mK)),(.cells (dV t0 t1 t2 t3 b)),(zA (mA++[(w64 (x2.work-0))])),(.arr 2 (List.map ZbN (mH++[(Zg.mk c 0)])))]=some ((Zgw t0 t1 t2 t3 b c mA mI mH mL mJ mK x0 x2) r):=
 lpT (Zgw t0 t1 t2 t3 b c mA mI mH mL mJ mK x0 x2) fun s46 _ ih=>yB (yG fun x47 _=>
  Zj (ZG _ _) (yB (yG fun x48 _=>
  yG fun x49 _=>
  Zc _ ZaL fun x50 _=>
  Ze (Zd3 (f:=Zm) (g:=Zm) zE (fun _ _=>rfl) (Zw zE mJ c (w64 ((List.length (mH++[(Zg.mk c 0)]):Int)-1))) c (w64 ((List.length ((mH++[(Zg.mk c 0)])++[(Zg.mk c 1)]):Int)-1))) (yT (Ze (ZbG (f:=Zm) (g:=Zm) zE (fun _ _=>rfl) (Zw zE (Zw zE mJ c (w64 ((List.length (mH++[(Zg.mk c 0)]):Int)-1))) c (w64 ((List.length ((mH++[(Zg.mk c 0)])++[(Zg.mk c 1)]):Int)-1))) c 0) (Ze (ZbG (f:=Zm) (g:=Zm) zE (fun _ _=>rfl) (Zw zE (Zw zE mJ c (w64 ((List.length (mH++[(Zg.mk c 0)]):Int)-1))) c (w64 ((List.length ((mH++[(Zg.mk c 0)])++[(Zg.mk c 1)]):Int)-1))) c 0) (Zc _ Zar fun x51 _=>
  yG fun x52 _=>
  yG fun x53 _=>
  Ze (ZbG (f:=Zm) (g:=Zm) zE (fun _ _=>rfl) (Zw zE (Zw zE mJ c (w64 ((List.length (mH++[(Zg.mk c 0)]):Int)-1))) c (w64 ((List.length ((mH++[(Zg.mk c 0)])++[(Zg.mk c 1)]):Int)-1))) c 0) (Ze (Zd3 (f:=Z0) (g:=Zm) (fun ka kb:Zh=>((ka.maker==kb.maker)&&((ka.user==kb.user)&&((ka.pos==kb.pos)&&true)))) (fun _ _=>rfl) mK x53 (Z6 zE (Zw zE (Zw zE mJ c (w64 ((List.length (mH++[(Zg.mk c 0)]):Int)-1))) c (w64 ((List.length ((mH++[(Zg.mk c 0)])++[(Zg.mk c 1)]):Int)-1))) c 0)) (Zc _ (ZcJ _) fun r66 _=>
  Zk rfl)))))))
  (Zc _ ZaL fun x67 _=>
  Ze (Zd3 (f:=Zm) (g:=Zm) zE (fun _ _=>rfl) (Zw zE mJ c (w64 ((List.length (mH++[(Zg.mk c 0)]):Int)-1))) c (w64 ((List.length ((mH++[(Zg.mk c 0)])++[(Zg.mk c 1)]):Int)-1))) (yT (Ze (ZbG (f:=Zm) (g:=Zm) zE (fun _ _=>rfl) (Zw zE (Zw zE mJ c (w64 ((List.length (mH++[(Zg.mk c 0)]):Int)-1))) c (w64 ((List.length ((mH++[(Zg.mk c 0)])++[(Zg.mk c 1)]):Int)-1))) c 0) (Ze (ZbG (f:=Zm) (g:=Zm) zE (fun _ _=>rfl) (Zw zE (Zw zE mJ c (w64 ((List.length (mH++[(Zg.mk c 0)]):Int)-1))) c (w64 ((List.length ((mH++[(Zg.mk c 0)])++[(Zg.mk c 1)]):Int)-1))) c 0) (Zc _ Zar fun x68 _=>
  yG fun x69 _=>
  yG fun x70 _=>
  Ze (ZbG (f:=Zm) (g:=Zm) zE (fun _ _=>rfl) (Zw zE (Zw zE mJ c (w64 ((List.length (mH++[(Zg.mk c 0)]):Int)-1))) c (w64 ((List.length ((mH++[(Zg.mk c 0)])++[(Zg.mk c 1)]):Int)-1))) c 0) (Ze (Zd3 (f:=Z0) (g:=Zm) (fun ka kb:Zh=>((ka.maker==kb.maker)&&((ka.user==kb.user)&&((ka.pos==kb.pos)&&true)))) (fun _ _=>rfl) mK x70 (Z6 zE (Zw zE (Zw zE mJ c (w64 ((List.length (mH++[(Zg.mk c 0)]):Int)-1))) c (w64 ((List.length ((mH++[(Zg.mk c 0)])++[(Zg.mk c 1)]):Int)-1))) c 0)) (Zc _ (ZcJ _) fun r83 _=>
  Zk rfl)))))))))
  (Zk rfl)
def Zgk (t0:Bool) (t1:Bool) (t2:Bool) (t3:Bool) (b:Zp) (c:Int) (mA:List Int) (mI:List Zr) (mH:List Zg) (mL:(List (Int×Int))) (mJ:(List (Int×Int))) (mK:(List (Zh×Int))) (x0:List Int):(((List (Int×Int))×(List (Zh×Int))×(List Int)×(List Zr)×(List Zg))⊕((List Int)⊕Unit))->Ex×List V×Zl
  | (.inl r)=>(.exit 0,[],[(.cells [(.sl 7 1),(.sl 8 2),(.sl 9 2),(.mp 4),(.mp 5),(.mp 6)]),.dead,.dead,.dead,(.mp (mpD Zm Zm (Zw zE mL c (mH.length:Int)))),(.mp (mpD Zm Zm r.1)),(.mp (mpD Z0 Zm r.2.1)),(zA r.2.2.1),(.arr 2 (List.map ZaS r.2.2.2.1)),(.arr 2 (List.map ZbN r.2.2.2.2))])
  | (.inr (.inl r))=>(.exit 0,[],[(.cells [(.sl 7 1),(.sl 2 2),(.sl 8 2),(.mp 4),(.mp 5),(.mp 6)]),.dead,(.arr 2 (List.map ZaS mI)),.dead,(.mp (mpD Zm Zm (Zw zE mL c (mH.length:Int)))),(.mp (mpD Zm Zm (Zw zE mJ c (w64 ((List.length (mH++[(Zg.mk c 0)]):Int)-1))))),(.mp (mpD Z0 Zm mK)),(zA r),(.arr 2 (List.map ZbN (mH++[(Zg.mk c 0)])))])
  | (.inr (.inr r))=>(.exit 0,[],[(.cells [(.sl 1 1),(.sl 2 2),(.sl 3 2),(.mp 4),(.mp 5),(.mp 6)]),(zA mA),(.arr 2 (List.map ZaS mI)),(.arr 2 (List.map ZbN mH)),(.mp (mpD Zm Zm (Zw zE mL c (mH.length:Int)))),(.mp (mpD Zm Zm mJ)),(.mp (mpD Z0 Zm mK))])
theorem ZiN {t0 t1:Bool}{t2 t3:Bool}{b:Zp}{c:Int}{mA:List Int}{mI:List Zr}{mH:List Zg}{mL:(List (Int×Int))}{mJ:(List (Int×Int))}{mK:(List (Zh×Int))}{x0:List Int}:∀(s1:Unit) (r:(((List (Int×Int))×(List (Zh×Int))×(List Int)×(List Zr)×(List Zg))⊕((List Int)⊕Unit))),lp (Zcj b c mA mI mH mJ mK x0) s1=some r->lpW ctx 7 [0,2,4,6,7,26,27] [] Zrp [(.ptr 0 0),(zN c),(.ptr 7 0),(zN 0),(zV true x0),(zN (w64 ((x0.length:Int)+1))),(zN 0)] [(.cells [(.sl 1 1),(.sl 2 2),(.sl 3 2),(.mp 4),(.mp 5),(.mp 6)]),(zA mA),(.arr 2 (List.map ZaS mI)),(.arr 2 (List.map ZbN mH)),(.mp (mpD Zm Zm (Zw zE mL c (mH.length:Int)))),(.mp (mpD Zm Zm mJ)),(.mp (mpD Z0 Zm mK)),(.cells (dV t0 t1 t2 t3 b))]=some ((Zgk t0 t1 t2 t3 b c mA mI mH mL mJ mK x0) r):=
 lpT (Zgk t0 t1 t2 t3 b c mA mI mH mL mJ mK x0) fun s1 _ ih=>yB (yG fun x2 _=>
  Zj (ZG _ _) (yB (yG fun x3 _=>
  yG fun x4 _=>
  Zc _ ZaL fun x5 _=>
  Ze (Zd3 (f:=Zm) (g:=Zm) zE (fun _ _=>rfl) mJ c (w64 ((List.length (mH++[(Zg.mk c 0)]):Int)-1))) (yF (by
 conv=>rhs;whnf
 refine Zc _ (ZiC _) fun r44 _=>?_
 rcases r44 with r44 | r44
 exact Zk rfl
 exact Zk rfl)))
  (Zc _ ZaL fun x45 _=>
  Ze (Zd3 (f:=Zm) (g:=Zm) zE (fun _ _=>rfl) mJ c (w64 ((List.length (mH++[(Zg.mk c 0)]):Int)-1))) (yF (by
 conv=>rhs;whnf
 refine Zc _ (ZiM _) fun r84 _=>?_
 rcases r84 with r84 | r84
 exact Zk rfl
 exact Zk rfl)))))
  (Zk rfl)
theorem Zlo {t0 t1:Bool}{t2 t3:Bool}{b:Zp}{c:Int}{mA:List Int}{mI:List Zr}{mH:List Zg}{mL:(List (Int×Int))}{mJ:(List (Int×Int))}{mK:(List (Zh×Int))}:∀r,(Zfh b c mA mI mH mJ mK)=some r->evW ctx 85 [(.ptr 0 0),(.d (D.agg (dA t0 t1 t2 t3 b))),(zN c)] [(.cells [(.sl 1 1),(.sl 2 2),(.sl 3 2),(.mp 4),(.mp 5),(.mp 6)]),(zA mA),(.arr 2 (List.map ZaS mI)),(.arr 2 (List.map ZbN mH)),(.mp (mpD Zm Zm mL)),(.mp (mpD Zm Zm mJ)),(.mp (mpD Z0 Zm mK))]=some ((ZlC t0 t1 t2 t3 b c mA mI mH mL mJ mK) r):=
 evS ZEo rfl rfl <| Zj (ZG _ _) (Ze (Zd3 (f:=Zm) (g:=Zm) zE (fun _ _=>rfl) mL c (mH.length:Int)) (yC Zon fun x0 _=>
  Zj (ZG _ _) (by
 conv=>rhs;whnf
 refine Zc _ (ZiN _) fun r85 _=>?_
 rcases r85 with r85 | (r85 | r85)
 exact yR
 exact yR
 exact yR)))
def Zqc (r:Bool):D:=(D.bool r)
theorem Zo1 {a:Int}:∀r,(ZdG a)=some r->evD ctx 116 [(zN a)]=some (Zqc r):=
 evT ZCf rfl rfl <| yBr (yBr yR)
def ZfH (r:Int):D:=(Zm r)
def Zck (t0:Bool) (a:List Int):(Int⊕Unit)->Ex×List V×Zl
  | (.inl r)=>(.ret,[(zN r)],[])
  | (.inr r)=>(.exit 0,[.bad],[])
theorem ZeQ {t0:Bool}{a:List Int}:∀(s0:Int) (r:(Int⊕Unit)),lp (ZW a (fun z0=>ZdG z0)) s0=some r->lpW ctx 0 [0,1,7,8] [4] Zqr [(zV t0 a),(.d (D.fn 116 [])),(zN (a.length:Int)),(zN s0)] []=some ((Zck t0 a) r):=
 lpT (Zck t0 a) fun s0 _ ih=>yB (yG fun x1 _=>
  yC Zo1 fun x2 _=>
  yB (Zk rfl)
  (Zd (ih _)))
  (Zk rfl)
theorem Zfy {t0:Bool}{a:List Int}:∀r,(ZaC a (fun z0=>ZdG z0))=some r->evD ctx 142 [(zV t0 a),(.d (D.fn 116 []))]=some (ZfH r):=
 evT ZvS rfl rfl <| Zj (ZG _ _) (by
 conv=>rhs;whnf
 refine Zc _ (ZeQ _) fun r3 _=>?_
 rcases r3 with r3 | r3
 exact yR
 exact yR)
def Ze8 (r:Bool):D:=(D.bool r)
theorem ZeR {t0:Bool}{a:List Int}:∀r,(ZaH a (fun z0=>ZdG z0))=some r->evD ctx 114 [(zV t0 a),(.d (D.fn 116 []))]=some (Ze8 r):=
 evT ZxW rfl rfl <| yC Zfy fun x0 _=>
  yBr yR
def Zqh (r:Bool):D:=(D.bool r)
theorem ZkB {t0 t1:Bool}{a:Int}{b0:List Int}{b1:List Zr}:∀r,(ZgR a b0)=some r->evD ctx 117 [(zN a),(.d (D.rptr [(zL t0 b0),(zM t1 ZaS b1)]))]=some (Zqh r):=
 evT ZzC rfl rfl <| yB (Zj (ZG _ _) (yBr yR))
  yR
def Zsr (r:((List Int)×Bool)):D:=(D.tup [(zL true r.1),(D.bool r.2)])
def ZkX (t0:Bool) (t1:Bool) (a:Zbd) (s0:(List Int)×(List Bool)) (s1:Int):(Unit⊕Unit)->Ex×List V×Zl
  | (.inl r)=>(.exit 3,[(.ptr 0 0),(.sl 1 1),(.sl 2 1),(zN s1),(zN (a.work.length:Int)),(zN s1)],[(zK1 t0 a.work t1 a.edges),(zA s0.1),(.arr 1 (List.map D.bool s0.2))])
  | (.inr r)=>(.exit 4,[(.ptr 0 0),(.sl 1 1),(.sl 2 1),(zN s1),(zN (a.work.length:Int)),(zN s1)],[(zK1 t0 a.work t1 a.edges),(zA s0.1),(.arr 1 (List.map D.bool s0.2))])
theorem Zoa {t0 t1:Bool}{a:Zbd}{s0:(List Int)×(List Bool)}{s1:Int}:∀(s3:Int) (r:(Unit⊕Unit)),lp (Zgz a s0 s1) s3=some r->lpW ctx 0 [1,4,5,6,21,22,30,31,32] [1,4,5,6,21,22] Zyq [(.ptr 0 0),(.sl 1 1),(.sl 2 1),(zN s1),(zN (a.work.length:Int)),(zN s1),(zW t1 ZaS a.edges),(zN (a.edges.length:Int)),(zN s3)] [(zK1 t0 a.work t1 a.edges),(zA s0.1),(.arr 1 (List.map D.bool s0.2))]=some ((ZkX t0 t1 a s0 s1) r):=
 lpT (ZkX t0 t1 a s0 s1) fun s3 _ ih=>yB (yG fun x4 _=>
  yB (yG fun x5 hx5=>
  Ze (Zi rfl hx5) (yB (Zd (ih _))
  (Zk rfl)))
  (Zd (ih _)))
  (Zk rfl)
def ZkO (t0:Bool) (t1:Bool) (a:Zbd) (s0:(List Int)×(List Bool)):(((List Int)×(List Bool))⊕Unit)->Ex×List V×Zl
  | (.inl r)=>(.exit 1,[(.ptr 0 0),(.sl 1 1),(.sl 2 1)],[(zK1 t0 a.work t1 a.edges),(zA r.1),(.arr 1 (List.map D.bool r.2))])
  | (.inr r)=>(.exit 2,[(.ptr 0 0),(.sl 1 1),(.sl 2 1)],[(zK1 t0 a.work t1 a.edges),(zA s0.1),(.arr 1 (List.map D.bool s0.2))])
theorem Zol {t0 t1:Bool}{a:Zbd}{s0:(List Int)×(List Bool)}:∀(s1:Int) (r:(((List Int)×(List Bool))⊕Unit)),lp (Zfi a s0) s1=some r->lpW ctx 0 [1,4,5,21,22] [1,4,5] ZxP [(.ptr 0 0),(.sl 1 1),(.sl 2 1),(zN (a.work.length:Int)),(zN s1)] [(zK1 t0 a.work t1 a.edges),(zA s0.1),(.arr 1 (List.map D.bool s0.2))]=some ((ZkO t0 t1 a s0) r):=
 lpT (ZkO t0 t1 a s0) fun s1 _ ih=>yB (yG fun x2 hx2=>
  Ze (Zi rfl hx2) (yB (Zd (ih _))
  (Zj (ZG _ _) (by
 conv=>rhs;whnf
 refine Zc _ (Zoa _) fun r6 _=>?_
 rcases r6 with r6 | r6
 exact Zd (ih _)
 exact Ze (Z3 rfl hx2) (Ze (Zi rfl hx2) (Zj (ZI D.bool s0.2 s1.toNat true) (yT (Zc2 (Zg1 Zm s0.1 1) (Zj (Zg0 Zm s0.1 [s1]) (Zk rfl))
  Zbr))))))))
  (Zk rfl)
def Zkw (t0:Bool) (t1:Bool) (a:Zbd):((List Int)⊕(List Int))->Ex×List V×Zl
  | (.inl r)=>(.ret,[(.nilsl 1),(.d (D.bool false)),(.sl 0 1)],[(zA r)])
  | (.inr r)=>(.exit 0,[.bad,.bad,(.sl 0 1)],[(zA r)])
theorem Zoz {t0 t1:Bool}{a:Zbd}:∀(s0:(List Int)×(List Bool)) (r:((List Int)⊕(List Int))),lp (ZgB a) s0=some r->lpW ctx 0 [1,4,5] [2,3,4] Zxz [(.ptr 0 0),(.sl 1 1),(.sl 2 1)] [(zK1 t0 a.work t1 a.edges),(zA s0.1),(.arr 1 (List.map D.bool s0.2))]=some ((Zkw t0 t1 a) r):=
 lpT (Zkw t0 t1 a) fun s0 _ ih=>Zj (ZG _ _) (Zj (ZG _ _) (yB (Zj (ZG _ _) (by
 conv=>rhs;whnf
 refine Zc _ (Zol _) fun r7 _=>?_
 rcases r7 with r7 | r7
 exact Zd (ih _)
 exact Zk rfl))
  (Zk rfl)))
theorem ZlY {t0 t1:Bool}{a:Zbd}:∀r,(Zgi a)=some r->evD ctx 118 [(.d (zK4 t0 a.work t1 a.edges))]=some (Zsr r):=
 evT ZBu rfl rfl <| Zj (ZG _ _) (yBm (Zj (Zqx D.bool (false:Bool) (a.work.length:Int)) (by
 conv=>rhs;whnf
 refine Zc _ (Zoz _) fun r8 _=>?_
 rcases r8 with r8 | r8
 exact yR
 exact yR)))
def Zsw (r:Int):D:=(Zm r)
def ZkE (t0:Bool) (t1:Bool) (a:Zbd):(Unit⊕Unit)->Ex×List V×Zl
  | (.inl r)=>(.ret,[(.ptr 0 0),(zN 42)],[(zK1 t0 a.work t1 a.edges)])
  | (.inr r)=>(.exit 0,[(.ptr 0 0),.bad],[(zK1 t0 a.work t1 a.edges)])
theorem ZoA {t0 t1:Bool}{a:Zbd}:∀(s1:Int) (r:(Unit⊕Unit)),lp (Zfz a) s1=some r->lpW ctx 0 [1,3,23,24,25] [1,2] ZzT [(.ptr 0 0),(.fn 117 [(.ptr 0 0)]),(zW t1 ZaS a.edges),(zN (a.edges.length:Int)),(zN s1)] [(zK1 t0 a.work t1 a.edges)]=some ((ZkE t0 t1 a) r):=
 lpT (ZkE t0 t1 a) fun s1 _ ih=>yB (yG fun x2 _=>
  yC ZkB fun x3 _=>
  yB (yC ZkB fun x4 _=>
  yB (yB (Zk rfl)
  (yBm (Zc2 (Zx1 ZaS a.edges s1.toNat) (yT (Zj (ZqC ZaS a.edges s1.toNat) (yC ZeS fun x5 _=>
  yB (Zk rfl)
  (Zd (ih _)))))
  Zbr)))
  (Zk rfl))
  (Zk rfl))
  (Zk rfl)
theorem Zju {t0 t1:Bool}{a:Zbd}:∀r,(Zhc a)=some r->evD ctx 88 [(.d (zK4 t0 a.work t1 a.edges))]=some (Zsw r):=
 evT ZFb rfl rfl <| Zj (ZG _ _) (yBr (Zj (ZG _ _) (yBr (yC ZeR fun x0 _=>
  yBr (Zj (ZG _ _) (by
 conv=>rhs;whnf
 refine Zc _ (ZoA _) fun r6 _=>?_
 rcases r6 with r6 | r6
 exact yR
 exact yC ZlY fun x7 _=>
  yBr yR))))))
def ZpZ (r:(ZwH×Int)):D:=(D.tup [(D.agg [(zL true r.1.dag.work),(zM true ZaS r.1.dag.edges),(zM true ZbN r.1.pieces)]),(Zm r.2)])
def Zje (t0:Bool) (t1:Bool) (t2:Bool) (t3:Bool) (a:Zp):((List Int)×(List Zr)×(List Zg)×(List (Int×Int))×(List (Int×Int))×(List (Zh×Int)))->Ex×List V×Zl
  | r=>(.exit 0,[(.ptr 0 0),(.ptr 1 0),(.ptr 2 0)],[(.cells (dV t0 t1 t2 t3 a)),(zK3 ),(.cells [(.sl 6 1),(.sl 7 2),(.sl 8 2),(.mp 9),(.mp 10),(.mp 11)]),(.arr 1 []),(.arr 2 []),(.arr 2 []),(zA r.1),(.arr 2 (List.map ZaS r.2.1)),(.arr 2 (List.map ZbN r.2.2.1)),(.mp (mpD Zm Zm r.2.2.2.1)),(.mp (mpD Zm Zm r.2.2.2.2.1)),(.mp (mpD Z0 Zm r.2.2.2.2.2))])
theorem ZmD {t0 t1:Bool}{t2 t3:Bool}{a:Zp}:∀(s1:Int×(List Int)×(List Zr)×(List Zg)×(List (Int×Int))×(List (Int×Int))×(List (Zh×Int))) (r:((List Int)×(List Zr)×(List Zg)×(List (Int×Int))×(List (Int×Int))×(List (Zh×Int)))),lp (ZcR a) s1=some r->lpW ctx 0 [1,2,5,31,32] [1,2,5] ZzG [(.ptr 0 0),(.ptr 1 0),(.ptr 2 0),(zN (a.parts.length:Int)),(zN s1.1)] [(.cells (dV t0 t1 t2 t3 a)),(zK3 ),(.cells [(.sl 6 1),(.sl 7 2),(.sl 8 2),(.mp 9),(.mp 10),(.mp 11)]),(.arr 1 []),(.arr 2 []),(.arr 2 []),(zA s1.2.1),(.arr 2 (List.map ZaS s1.2.2.1)),(.arr 2 (List.map ZbN s1.2.2.2.1)),(.mp (mpD Zm Zm s1.2.2.2.2.1)),(.mp (mpD Zm Zm s1.2.2.2.2.2.1)),(.mp (mpD Z0 Zm s1.2.2.2.2.2.2))]=some ((Zje t0 t1 t2 t3 a) r):=
 lpT (Zje t0 t1 t2 t3 a) fun s1 _ ih=>yB ((by
 conv=>rhs;whnf
 refine Zc _ Zlo fun x2 _=>?_
 rcases x2 with x2 | (x2 | x2)
 exact Zd (ih _)
 exact Zd (ih _)
 exact Zd (ih _)))
  (Zk rfl)
def Zjd (t0:Bool) (t1:Bool) (t2:Bool) (t3:Bool) (a:Zp) (r3:((List Int)×(List Zr)×(List Zg)×(List (Int×Int))×(List (Int×Int))×(List (Zh×Int)))):(List Zr)->Ex×List V×Zl
  | r=>(.exit 2,[(.ptr 0 0),(.ptr 1 0),(.ptr 2 0)],[(.cells (dV t0 t1 t2 t3 a)),(zK3 ),(.cells [(.sl 6 1),(.sl 7 2),(.sl 8 2),(.mp 9),(.mp 10),(.mp 11)]),(.arr 1 []),(.arr 2 []),(.arr 2 []),(zA r3.1),(.arr 2 (List.map ZaS r)),(.arr 2 (List.map ZbN r3.2.2.1)),(.mp (mpD Zm Zm r3.2.2.2.1)),(.mp (mpD Zm Zm r3.2.2.2.2.1)),(.mp (mpD Z0 Zm r3.2.2.2.2.2))])
theorem ZmC {t0 t1:Bool}{t2 t3:Bool}{a:Zp}{r3:((List Int)×(List Zr)×(List Zg)×(List (Int×Int))×(List (Int×Int))×(List (Zh×Int)))}:∀(s4:Int×(List Zr)) (r:List Zr),lp (ZdK a r3) s4=some r->lpW ctx 0 [1,2,5,41,42,43] [1,2,5] ZAL [(.ptr 0 0),(.ptr 1 0),(.ptr 2 0),(zW t1 ZaS a.edges),(zN (a.edges.length:Int)),(zN s4.1)] [(.cells (dV t0 t1 t2 t3 a)),(zK3 ),(.cells [(.sl 6 1),(.sl 7 2),(.sl 8 2),(.mp 9),(.mp 10),(.mp 11)]),(.arr 1 []),(.arr 2 []),(.arr 2 []),(zA r3.1),(.arr 2 (List.map ZaS s4.2)),(.arr 2 (List.map ZbN r3.2.2.1)),(.mp (mpD Zm Zm r3.2.2.2.1)),(.mp (mpD Zm Zm r3.2.2.2.2.1)),(.mp (mpD Z0 Zm r3.2.2.2.2.2))]=some ((Zjd t0 t1 t2 t3 a r3) r):=
 lpT (Zjd t0 t1 t2 t3 a r3) fun s4 _ ih=>yB (yG fun x5 _=>
  Ze (ZbG (f:=Zm) (g:=Zm) zE (fun _ _=>rfl) r3.2.2.2.2.1 x5.src 0) (Ze (ZbG (f:=Zm) (g:=Zm) zE (fun _ _=>rfl) r3.2.2.2.1 x5.dst 0) (Zc _ Zar fun x6 _=>
  Zd (ih _))))
  (Zk rfl)
def Zjy (t0:Bool) (t1:Bool) (t2:Bool) (t3:Bool) (a:Zp) (r3:((List Int)×(List Zr)×(List Zg)×(List (Int×Int))×(List (Int×Int))×(List (Zh×Int)))):(List Zr)->Ex×List V×Zl
  | r=>(.exit 4,[(.ptr 0 0),(.ptr 1 0),(.ptr 2 0)],[(.cells (dV t0 t1 t2 t3 a)),(zK3 ),(.cells [(.sl 6 1),(.sl 7 2),(.sl 8 2),(.mp 9),(.mp 10),(.mp 11)]),(.arr 1 []),(.arr 2 []),(.arr 2 []),(zA r3.1),(.arr 2 (List.map ZaS r)),(.arr 2 (List.map ZbN r3.2.2.1)),(.mp (mpD Zm Zm r3.2.2.2.1)),(.mp (mpD Zm Zm r3.2.2.2.2.1)),(.mp (mpD Z0 Zm r3.2.2.2.2.2))])
theorem ZmA {t0 t1:Bool}{t2 t3:Bool}{a:Zp}{r3:((List Int)×(List Zr)×(List Zg)×(List (Int×Int))×(List (Int×Int))×(List (Zh×Int)))}:∀(s8:Int×(List Zr)) (r:List Zr),lp (ZdS a r3) s8=some r->lpW ctx 0 [1,2,5,65,66,67] [1,2,5] ZBQ [(.ptr 0 0),(.ptr 1 0),(.ptr 2 0),(zW t2 Z0 a.futures),(zN (a.futures.length:Int)),(zN s8.1)] [(.cells (dV t0 t1 t2 t3 a)),(zK3 ),(.cells [(.sl 6 1),(.sl 7 2),(.sl 8 2),(.mp 9),(.mp 10),(.mp 11)]),(.arr 1 []),(.arr 2 []),(.arr 2 []),(zA r3.1),(.arr 2 (List.map ZaS s8.2)),(.arr 2 (List.map ZbN r3.2.2.1)),(.mp (mpD Zm Zm r3.2.2.2.1)),(.mp (mpD Zm Zm r3.2.2.2.2.1)),(.mp (mpD Z0 Zm r3.2.2.2.2.2))]=some ((Zjy t0 t1 t2 t3 a r3) r):=
 lpT (Zjy t0 t1 t2 t3 a r3) fun s8 _ ih=>yB (yG fun x9 _=>
  Ze (ZbG (f:=Zm) (g:=Zm) zE (fun _ _=>rfl) r3.2.2.2.2.1 x9.maker 0) (Ze (ZbG (f:=Z0) (g:=Zm) (fun ka kb:Zh=>((ka.maker==kb.maker)&&((ka.user==kb.user)&&((ka.pos==kb.pos)&&true)))) (fun _ _=>rfl) r3.2.2.2.2.2 x9 0) (Zc _ Zar fun x10 _=>
  Zd (ih _))))
  (Zk rfl)
def Zjz (t3:Bool) (a:Zp) (r3:((List Int)×(List Zr)×(List Zg)×(List (Int×Int))×(List (Int×Int))×(List (Zh×Int)))) (s12:Int×(List Int)×(List Zr)×(List Zg)) (x13:Zt):(List Zr)->Ex×List V×Zl
  | r=>(.exit 8,[(.ptr 0 0),(.ptr 1 0),(.ptr 2 0),(zN (w64 ((List.length (s12.2.2.2++[(Zg.mk (-1) s12.1)]):Int)-1))),(zW t3 ZcZ a.barriers),(zN (a.barriers.length:Int)),(zN s12.1)],[(zK3 ),(.cells [(.sl 6 1),(.sl 7 2),(.sl 8 2),(.mp 9),(.mp 10),(.mp 11)]),(.cells [(zV true x13.ins),(zV true x13.outs)]),(.arr 1 []),(.arr 2 []),(.arr 2 []),(zA (s12.2.1++[1])),(.arr 2 (List.map ZaS r)),(.arr 2 (List.map ZbN (s12.2.2.2++[(Zg.mk (-1) s12.1)]))),(.mp (mpD Zm Zm r3.2.2.2.1)),(.mp (mpD Zm Zm r3.2.2.2.2.1)),(.mp (mpD Z0 Zm r3.2.2.2.2.2))])
theorem ZmB {t3:Bool}{a:Zp}{r3:((List Int)×(List Zr)×(List Zg)×(List (Int×Int))×(List (Int×Int))×(List (Zh×Int)))}{s12:Int×(List Int)×(List Zr)×(List Zg)}{x13:Zt}:∀(s15:Int×(List Zr)) (r:List Zr),lp (Zfn r3 s12 x13) s15=some r->lpW ctx 0 [2,5,12,13,88,89,90,100,101,102] [2,5,12,13,88,89,90] ZBo [(.ptr 0 0),(.ptr 1 0),(.ptr 2 0),(zN (w64 ((List.length (s12.2.2.2++[(Zg.mk (-1) s12.1)]):Int)-1))),(zW t3 ZcZ a.barriers),(zN (a.barriers.length:Int)),(zN s12.1),(zV true x13.ins),(zN (x13.ins.length:Int)),(zN s15.1)] [(zK3 ),(.cells [(.sl 6 1),(.sl 7 2),(.sl 8 2),(.mp 9),(.mp 10),(.mp 11)]),(.cells [(zV true x13.ins),(zV true x13.outs)]),(.arr 1 []),(.arr 2 []),(.arr 2 []),(zA (s12.2.1++[1])),(.arr 2 (List.map ZaS s15.2)),(.arr 2 (List.map ZbN (s12.2.2.2++[(Zg.mk (-1) s12.1)]))),(.mp (mpD Zm Zm r3.2.2.2.1)),(.mp (mpD Zm Zm r3.2.2.2.2.1)),(.mp (mpD Z0 Zm r3.2.2.2.2.2))]=some ((Zjz t3 a r3 s12 x13) r):=
 lpT (Zjz t3 a r3 s12 x13) fun s15 _ ih=>yB (yG fun x16 _=>
  Ze (ZbG (f:=Zm) (g:=Zm) zE (fun _ _=>rfl) r3.2.2.2.2.1 x16 0) (Zc _ Zar fun x17 _=>
  Zd (ih _)))
  (Zk rfl)
def Zjq (t3:Bool) (a:Zp) (r3:((List Int)×(List Zr)×(List Zg)×(List (Int×Int))×(List (Int×Int))×(List (Zh×Int)))) (s12:Int×(List Int)×(List Zr)×(List Zg)) (x13:Zt):(List Zr)->Ex×List V×Zl
  | r=>(.exit 10,[(.ptr 0 0),(.ptr 1 0),(zW t3 ZcZ a.barriers),(zN (a.barriers.length:Int)),(zN s12.1)],[(.cells [(.sl 2 1),(.sl 3 2),(.sl 4 2)]),(.cells [(.sl 5 1),(.sl 6 2),(.sl 7 2),(.mp 8),(.mp 9),(.mp 10)]),(.arr 1 []),(.arr 2 []),(.arr 2 []),(zA (s12.2.1++[1])),(.arr 2 (List.map ZaS r)),(.arr 2 (List.map ZbN (s12.2.2.2++[(Zg.mk (-1) s12.1)]))),(.mp (mpD Zm Zm r3.2.2.2.1)),(.mp (mpD Zm Zm r3.2.2.2.2.1)),(.mp (mpD Z0 Zm r3.2.2.2.2.2))])
theorem ZmE {t3:Bool}{a:Zp}{r3:((List Int)×(List Zr)×(List Zg)×(List (Int×Int))×(List (Int×Int))×(List (Zh×Int)))}{s12:Int×(List Int)×(List Zr)×(List Zg)}{x13:Zt}:∀(s19:Int×(List Zr)) (r:List Zr),lp (Zfo r3 s12 x13) s19=some r->lpW ctx 0 [2,5,13,88,89,90,117,118,119] [2,5,88,89,90] ZBL [(.ptr 0 0),(.ptr 1 0),(zN (w64 ((List.length (s12.2.2.2++[(Zg.mk (-1) s12.1)]):Int)-1))),(zW t3 ZcZ a.barriers),(zN (a.barriers.length:Int)),(zN s12.1),(zV true x13.outs),(zN (x13.outs.length:Int)),(zN s19.1)] [(.cells [(.sl 2 1),(.sl 3 2),(.sl 4 2)]),(.cells [(.sl 5 1),(.sl 6 2),(.sl 7 2),(.mp 8),(.mp 9),(.mp 10)]),(.arr 1 []),(.arr 2 []),(.arr 2 []),(zA (s12.2.1++[1])),(.arr 2 (List.map ZaS s19.2)),(.arr 2 (List.map ZbN (s12.2.2.2++[(Zg.mk (-1) s12.1)]))),(.mp (mpD Zm Zm r3.2.2.2.1)),(.mp (mpD Zm Zm r3.2.2.2.2.1)),(.mp (mpD Z0 Zm r3.2.2.2.2.2))]=some ((Zjq t3 a r3 s12 x13) r):=
 lpT (Zjq t3 a r3 s12 x13) fun s19 _ ih=>yB (yG fun x20 _=>
  Ze (ZbG (f:=Zm) (g:=Zm) zE (fun _ _=>rfl) r3.2.2.2.1 x20 0) (Zc _ Zar fun x21 _=>
  Zd (ih _)))
  (Zk rfl)
def Zjj (t3:Bool) (a:Zp) (r3:((List Int)×(List Zr)×(List Zg)×(List (Int×Int))×(List (Int×Int))×(List (Zh×Int)))):((List Int)×(List Zr)×(List Zg))->Ex×List V×Zl
  | r=>(.exit 6,[(.ptr 0 0),(.ptr 1 0)],[(.cells [(.sl 2 1),(.sl 3 2),(.sl 4 2)]),(.cells [(.sl 5 1),(.sl 6 2),(.sl 7 2),(.mp 8),(.mp 9),(.mp 10)]),(.arr 1 []),(.arr 2 []),(.arr 2 []),(zA r.1),(.arr 2 (List.map ZaS r.2.1)),(.arr 2 (List.map ZbN r.2.2)),(.mp (mpD Zm Zm r3.2.2.2.1)),(.mp (mpD Zm Zm r3.2.2.2.2.1)),(.mp (mpD Z0 Zm r3.2.2.2.2.2))])
theorem ZmI {t3:Bool}{a:Zp}{r3:((List Int)×(List Zr)×(List Zg)×(List (Int×Int))×(List (Int×Int))×(List (Zh×Int)))}:∀(s12:Int×(List Int)×(List Zr)×(List Zg)) (r:((List Int)×(List Zr)×(List Zg))),lp (ZdP a r3) s12=some r->lpW ctx 0 [2,5,88,89,90] [2,5] ZBX [(.ptr 0 0),(.ptr 1 0),(zW t3 ZcZ a.barriers),(zN (a.barriers.length:Int)),(zN s12.1)] [(.cells [(.sl 2 1),(.sl 3 2),(.sl 4 2)]),(.cells [(.sl 5 1),(.sl 6 2),(.sl 7 2),(.mp 8),(.mp 9),(.mp 10)]),(.arr 1 []),(.arr 2 []),(.arr 2 []),(zA s12.2.1),(.arr 2 (List.map ZaS s12.2.2.1)),(.arr 2 (List.map ZbN s12.2.2.2)),(.mp (mpD Zm Zm r3.2.2.2.1)),(.mp (mpD Zm Zm r3.2.2.2.2.1)),(.mp (mpD Z0 Zm r3.2.2.2.2.2))]=some ((Zjj t3 a r3) r):=
 lpT (Zjj t3 a r3) fun s12 _ ih=>yB (yG fun x13 _=>
  Zc _ ZaL fun x14 _=>
  Zj (ZG _ _) (Zc _ (ZmB _) fun r18 _=>
  Zj (ZG _ _) (Zc _ (ZmE _) fun r22 _=>
  Zd (ih _))))
  (Zk rfl)
theorem Zo5 {t0 t1:Bool}{t2 t3:Bool}{a:Zp}:∀r,(Zh1 a)=some r->evD ctx 55 [(.d (D.agg (dA t0 t1 t2 t3 a)))]=some (ZpZ r):=
 evT ZEF rfl rfl <| yC Zlv fun x0 _=>
  yBr (Zj (ZG _ _) (Zc _ (ZmD _) fun r3 _=>
  Zj (ZG _ _) (Zc _ (ZmC _) fun r7 _=>
  Zj (ZG _ _) (Zc _ (ZmA _) fun r11 _=>
  Zj (ZG _ _) (Zc _ (ZmI _) fun r23 _=>
  yC Zju fun x24 _=>
  yBr yR)))))
def Zsq (r:Int):D:=(Zm r)
def ZkJ (t0:Bool) (a:Zbd):Int->Ex×List V×Zl
  | r=>(.exit 0,[(zN r)],[])
theorem ZnZ {t0:Bool}{a:Zbd}:∀(s1:Int×Int) (r:Int),lp (Zgj a) s1=some r->lpW ctx 0 [3,10,11,12] [3] ZAx [(zN s1.1),(zV t0 a.work),(zN (a.work.length:Int)),(zN s1.2)] []=some ((ZkJ t0 a) r):=
 lpT (ZkJ t0 a) fun s1 _ ih=>yB (yG fun x2 _=>
  Zd (ih _))
  (Zk rfl)
theorem Zr3 {t0 t1:Bool}{a:Zbd}:∀r,(ZjN a)=some r->evD ctx 56 [(.d (zK4 t0 a.work t1 a.edges))]=some (Zsq r):=
 evT ZE3 rfl rfl <| yC Zju fun x0 _=>
  yB (Zj (ZG _ _) (Zc _ (ZnZ _) fun r3 _=>
  yR))
  yR
def Zsx (r:List Int):D:=(zL true r)
theorem ZqG {t0 t1:Bool}{a:Zbd}:∀r,(ZjR a)=some r->evD ctx 89 [(.d (zK4 t0 a.work t1 a.edges))]=some (Zsx r):=
 evT ZEW rfl rfl <| yC Zju fun x0 _=>
  yBr (yC ZlY fun x1 _=>
  yBr yR)
def Zqb (r:(Int×Bool)):D:=(D.tup [(Zm r.1),(D.bool r.2)])
theorem ZoW {a:Zr}{b0:Int}:∀r,(Zf2 a b0)=some r->evD ctx 120 [(.d (zK5 a.src a.dst)),(.d (D.rptr [(Zm b0)]))]=some (Zqb r):=
 evT ZBi rfl rfl <| yBr yR
def ZjI (mG:List Int):(List Int)->V×Zl
  | r=>((.d (D.tup [])),[(zA r)])
theorem Zi7 {mG:List Int}:∀r,(Zdb mG)=some r->evW ctx 144 [(.sl 0 1)] [(zA mG)]=some ((ZjI mG) r):=
 evS ZDQ rfl rfl <| Ze (Zwj rfl) (yBm (ZB1 yR))
def Zkn (r:List Int):D:=(zL true r)
def Zge (t1:Bool) (a:Zbd) (b0:Int):(List Int)->Ex×List V×Zl
  | r=>(.exit 0,[(.sl 0 1)],[(zA r)])
theorem Zil {t1:Bool}{a:Zbd}{b0:Int}:∀(s0:Int×(List Int)) (r:List Int),lp (Zhq a (fun z0=>Zf2 z0 b0)) s0=some r->lpW ctx 0 [1,5,11,12,13] [5] ZxO [(.d (D.fn 120 [(D.rptr [(Zm b0)])])),(.sl 0 1),(zW t1 ZaS a.edges),(zN (a.edges.length:Int)),(zN s0.1)] [(zA s0.2)]=some ((Zge t1 a b0) r):=
 lpT (Zge t1 a b0) fun s0 _ ih=>yB (yG fun x1 _=>
  yC ZoW fun x2 _=>
  yB (yT (Zc2 (Zg1 Zm s0.2 1) (Zj (Zg0 Zm s0.2 [x2.1]) (Zd (ih _)))
  Zbr))
  (Zd (ih _)))
  (Zk rfl)
theorem ZjC {t0 t1:Bool}{a:Zbd}{b0:Int}:∀r,(ZoN a (fun z0=>Zf2 z0 b0))=some r->evD ctx 119 [(.d (zK4 t0 a.work t1 a.edges)),(.d (D.fn 120 [(D.rptr [(Zm b0)])]))]=some (Zkn r):=
 evT ZBp rfl rfl <| Zj (ZG _ _) (Zc _ (Zil _) fun r3 _=>
  Zc _ Zi7 fun x4 _=>
  yR)
def Zst (r:List Int):D:=(zL true r)
theorem ZqL {t0 t1:Bool}{a:Zbd}{b:Int}:∀r,(ZjT a b)=some r->evD ctx 90 [(.d (zK4 t0 a.work t1 a.edges)),(zN b)]=some (Zst r):=
 evT ZFo rfl rfl <| yC ZjC fun x0 _=>
  yR
def ZuG (r:Int):D:=(Zm r)
def Zlw (t0:Bool) (t1:Bool) (a:Zbd) (x0:List Int) (s1:Int×Int×(List Int)) (x2:Int) (x3:List Int):(List Int)->Ex×List V×Zl
  | r=>(.exit 2,[(.ptr 0 0),(.sl 1 1),(zN s1.1),(zN x2),(zV true x0),(zN (x0.length:Int)),(zN s1.2.1)],[(zK1 t0 a.work t1 a.edges),(zA r)])
theorem Zpj {t0 t1:Bool}{a:Zbd}{x0:List Int}{s1:Int×Int×(List Int)}{x2:Int}{x3:List Int}:∀(s4:Int×(List Int)) (r:List Int),lp (Zf5 x2 x3) s4=some r->lpW ctx 0 [1,3,4,6,14,15,16,22,23,24] [1,3,4,6,14,15,16] ZAJ [(.ptr 0 0),(.sl 1 1),(zN s1.1),(zN x2),(zV true x0),(zN (x0.length:Int)),(zN s1.2.1),(zV true x3),(zN (x3.length:Int)),(zN s4.1)] [(zK1 t0 a.work t1 a.edges),(zA s4.2)]=some ((Zlw t0 t1 a x0 s1 x2 x3) r):=
 lpT (Zlw t0 t1 a x0 s1 x2 x3) fun s4 _ ih=>yB (yG fun x5 _=>
  yG fun x6 hx6=>
  Ze (Zi rfl hx6) (yG fun x7 hx7=>
  Ze (Zi rfl hx7) (Ze (Z3 rfl hx6) (Ze (Zi rfl hx6) (Zj (ZI Zm s4.2 x2.toNat (bif decide (x6<x7) then x7 else x6)) (Zd (ih _)))))))
  (Zk rfl)
def Zlx (t0:Bool) (t1:Bool) (a:Zbd) (x0:List Int):Int->Ex×List V×Zl
  | r=>(.exit 0,[(zN r)],[])
theorem Zpq {t0 t1:Bool}{a:Zbd}{x0:List Int}:∀(s1:Int×Int×(List Int)) (r:Int),lp (Zga a x0) s1=some r->lpW ctx 0 [1,3,4,14,15,16] [4] ZBj [(.ptr 0 0),(.sl 1 1),(zN s1.1),(zV true x0),(zN (x0.length:Int)),(zN s1.2.1)] [(zK1 t0 a.work t1 a.edges),(zA s1.2.2)]=some ((Zlx t0 t1 a x0) r):=
 lpT (Zlx t0 t1 a x0) fun s1 _ ih=>yB (yG fun x2 _=>
  yC ZqL fun x3 _=>
  Zj (ZG _ _) (Zc _ (Zpj _) fun r8 _=>
  yG fun x9 hx9=>
  Ze (Zi rfl hx9) (yG fun x10 _=>
  Ze (Z3 rfl hx9) (Ze (Zi rfl hx9) (Zj (ZI Zm r8 x2.toNat (w64 (x9+x10))) (yG fun x11 hx11=>
  Ze (Zi rfl hx11) (Zd (ih _))))))))
  (Zk rfl)
theorem ZsA {t0 t1:Bool}{a:Zbd}:∀r,(Zk8 a)=some r->evD ctx 57 [(.d (zK4 t0 a.work t1 a.edges))]=some (ZuG r):=
 evT ZFu rfl rfl <| Zj (ZG _ _) (yBm (Zj (Zqx Zm (0:Int) (a.work.length:Int)) (yC ZqG fun x0 _=>
  Zj (ZG _ _) (Zc _ (Zpq _) fun r12 _=>
  yR))))
def Zkh (r:Int):D:=(Zm r)
def Zgg (t0:Bool) (a:List Int):Int->Ex×List V×Zl
  | r=>(.exit 0,[(zN r)],[])
theorem Zin {t0:Bool}{a:List Int}:∀(s1:Int×Int) (r:Int),lp (Zbm a) s1=some r->lpW ctx 0 [0,3,4] [3] ZBt [(zV t0 a),(zN s1.1),(zN s1.2)] []=some ((Zgg t0 a) r):=
 lpT (Zgg t0 a) fun s1 _ ih=>Zj (ZG _ _) (yB (yG fun x2 _=>
  Zd (ih _))
  (Zk rfl))
theorem ZjD {t0:Bool}{a:List Int}:∀r,(ZcB a)=some r->evD ctx 58 [(zV t0 a)]=some (Zkh r):=
 evT ZEE rfl rfl <| Zj (ZG _ _) (yBn (yG fun x0 _=>
  Zc _ (Zin _) fun r3 _=>
  yR))
def ZpU (r:(Zf×Int)):D:=(D.tup [(zK2 r.1.total r.1.long r.1.most r.1.deadline r.1.period),(Zm r.2)])
theorem Zpb {t0 t1:Bool}{t2 t3:Bool}{a:Zp}:∀r,(Ze0 a)=some r->evD ctx 25 [(.d (D.agg (dA t0 t1 t2 t3 a)))]=some (ZpU r):=
 evT ZFp rfl rfl <| yC Zo5 fun x0 _=>
  yBr (yC Zr3 fun x1 _=>
  yC ZsA fun x2 _=>
  yC ZjD fun x3 _=>
  yR)
def ZnD (r:Bool):D:=(D.bool r)
theorem ZfU {a b:Int}:∀r,(Zdk a b)=some r->evD ctx 83 [(zN a),(zN b)]=some (ZnD r):=
 evT ZEw rfl rfl <| yB (yBr yR)
  yR
def Zp2 (r:Int):D:=(Zm r)
theorem ZhV {a:Zf}:∀r,(Zf3 a)=some r->evD ctx 51 [(.d (zK2 a.total a.long a.most a.deadline a.period))]=some (Zp2 r):=
 evT ZE2 rfl rfl <| yC Zn9 fun x0 _=>
  yB (yBr (yC ZfU fun x1 _=>
  yB (yC ZfU fun x2 _=>
  yB (yC ZfU fun x3 _=>
  yB (yC ZfU fun x4 _=>
  yBr yR)
  yR)
  yR)
  yR))
  yR
def Zt9 (a:Zf):(Unit⊕Unit)->D
  | (.inl r)=>(D.iface 128 (zK2 a.total a.long a.most a.deadline a.period))
  | (.inr r)=>(D.iface 97 (zK2 a.total a.long a.most a.deadline a.period))
theorem ZmL {a:Zf}:∀r,(Zjk a)=some r->evD ctx 59 [(.d (zK2 a.total a.long a.most a.deadline a.period))]=some ((Zt9 a) r):=
 evT ZEr rfl rfl <| yBr yR
def ZuA (r:Int):D:=(Zm r)
theorem Zss {a0:Int}:∀r,(Zjn a0)=some r->evD ctx 199 [(.d (D.rptr [(Zm a0)]))]=some (ZuA r):=
 evT ZAV rfl rfl <| yR
def Zp1 (r:Bool):D:=(D.bool r)
theorem ZoQ {a:Int}:∀r,(ZcU a)=some r->evD ctx 201 [(zN a)]=some (Zp1 r):=
 evT ZBw rfl rfl <| yC Zjb fun x0 _=>
  yBr yR
def ZfG (r:Int):D:=(Zm r)
def Zcl (t0:Bool) (a:List Int):(Int⊕Unit)->Ex×List V×Zl
  | (.inl r)=>(.ret,[(zN r)],[])
  | (.inr r)=>(.exit 0,[.bad],[])
theorem ZeO {t0:Bool}{a:List Int}:∀(s0:Int) (r:(Int⊕Unit)),lp (ZW a (fun z0=>ZcU z0)) s0=some r->lpW ctx 0 [0,1,7,8] [4] Zqr [(zV t0 a),(.d (D.fn 201 [])),(zN (a.length:Int)),(zN s0)] []=some ((Zcl t0 a) r):=
 lpT (Zcl t0 a) fun s0 _ ih=>yB (yG fun x1 _=>
  yC ZoQ fun x2 _=>
  yB (Zk rfl)
  (Zd (ih _)))
  (Zk rfl)
theorem Zfw {t0:Bool}{a:List Int}:∀r,(ZaC a (fun z0=>ZcU z0))=some r->evD ctx 142 [(zV t0 a),(.d (D.fn 201 []))]=some (ZfG r):=
 evT ZvS rfl rfl <| Zj (ZG _ _) (by
 conv=>rhs;whnf
 refine Zc _ (ZeO _) fun r3 _=>?_
 rcases r3 with r3 | r3
 exact yR
 exact yR)
def Zsm (r:Int):D:=(Zm r)
theorem Zq6 {t0:Bool}{a:List Int}:∀r,(Zj8 a)=some r->evD ctx 200 [(zV t0 a)]=some (Zsm r):=
 evT ZBZ rfl rfl <| yC Zfw fun x0 _=>
  yBr (yG fun x1 _=>
  yC Zjb fun x2 _=>
  yR)
def Zjs (r:(Int×Int)):D:=(D.tup [(Zm r.1),(Zm r.2)])
theorem ZiR {a b c0:Int}:∀r,(Zhw a b (Zjn c0))=some r->evD ctx 198 [(zN a),(zN b),(.d (D.fn 199 [(D.rptr [(Zm c0)])]))]=some (Zjs r):=
 evT ZCk rfl rfl <| yC Zq6 fun x0 _=>
  yBr (yBr (yC Zss fun x1 _=>
  yBn yR))
def ZwZ (r:(Int×Int)):D:=(D.tup [(Zm r.1),(Zm r.2)])
theorem Zwm {a b:Int}:∀r,(Zkr a b)=some r->evD ctx 197 [(zN a),(zN b)]=some (ZwZ r):=
 evT ZAK rfl rfl <| yC ZiR fun x0 _=>
  yR
def Zmj (r:ZgQ):D:=(zK5 r.cores r.e)
theorem ZhF {a:ZtX}:∀r,(Zd4 a)=some r->evD ctx 196 [(.d (zK2 a.shape.total a.shape.long a.shape.most a.shape.deadline a.shape.period))]=some (Zmj r):=
 evT ZAG rfl rfl <| yBr (yC Zwm fun x0 _=>
  yB (yBr yR)
  yR)
def ZlO (r:ZgQ):D:=(zK5 r.cores r.e)
theorem Zee {a:Zpg}:∀r,(ZcS a)=some r->evD ctx 60 [(.d (zK2 a.shape.total a.shape.long a.shape.most a.shape.deadline a.shape.period))]=some (ZlO r):=
 evT ZEd rfl rfl <| yR
def Zql (r:(Int×Int)):D:=(D.tup [(Zm r.1),(Zm r.2)])
theorem ZkS {a:Zf}:∀r,(ZgS a)=some r->evD ctx 27 [(.d (zK2 a.total a.long a.most a.deadline a.period))]=some (Zql r):=
 evT ZEg rfl rfl <| yC ZhV fun x0 _=>
  yBr (by
 conv=>rhs;whnf
 refine yC ZmL fun x1 _=>?_
 rcases x1 with x1 | x1
 exact yC ZhF fun x2 _=>
  yR
 exact yC Zee fun x3 _=>
  yR)
def Zph (r:((List Zf)×Int)):D:=(D.tup [(zM true Zx r.1),(Zm r.2)])
def Zit (t0:Bool) (a:List Zp):((Int×(List Zf))⊕(List Zf))->Ex×List V×Zl
  | (.inl r)=>(.ret,[(.nilsl 5),(zN r.1),(.sl 0 5)],[(.arr 5 (List.map Zx r.2))])
  | (.inr r)=>(.exit 0,[.bad,.bad,(.sl 0 5)],[(.arr 5 (List.map Zx r))])
theorem ZlR {t0:Bool}{a:List Zp}:∀(s0:Int×(List Zf)) (r:((Int×(List Zf))⊕(List Zf))),lp (Zb7 a) s0=some r->lpW ctx 0 [4,13,14,15] [2,3,4] ZBb [(.sl 0 5),(.d (D.list t0 (List.map (Zfu true) a))),(zN (a.length:Int)),(zN s0.1)] [(.arr 5 (List.map Zx s0.2))]=some ((Zit t0 a) r):=
 lpT (Zit t0 a) fun s0 _ ih=>yB (yG fun x1 _=>
  yC Zpb fun x2 _=>
  yB (Zk rfl)
  (yT (Zc2 (Zg1 Zx s0.2 1) (Zj (Zg0 Zx s0.2 [x2.1]) (Zd (ih _)))
  Zbr)))
  (Zk rfl)
def Ziz (r3:List Zf):(Int⊕Unit)->Ex×List V×Zl
  | (.inl r)=>(.ret,[(.nilsl 5),(zN r),(.sl 0 5)],[(.arr 5 (List.map Zx r3))])
  | (.inr r)=>(.exit 2,[.bad,.bad,(.sl 0 5)],[(.arr 5 (List.map Zx r3))])
theorem Zl0 {r3:List Zf}:∀(s4:Int) (r:(Int⊕Unit)),lp (Zb8 r3) s4=some r->lpW ctx 0 [4,32,33,34] [2,3,4] ZzU [(.sl 0 5),(.sl 0 5),(zN (r3.length:Int)),(zN s4)] [(.arr 5 (List.map Zx r3))]=some ((Ziz r3) r):=
 lpT (Ziz r3) fun s4 _ ih=>yB (yG fun x5 hx5=>
  Ze (Zi rfl hx5) (yC ZkS fun x6 _=>
  yB (Zk rfl)
  (Zd (ih _))))
  (Zk rfl)
theorem Zok {t0:Bool}{a:List Zp}:∀r,(Zhl a)=some r->evD ctx 33 [(.d (D.list t0 (List.map (Zfu true) a)))]=some (Zph r):=
 evT ZFt rfl rfl <| Zj (ZG _ _) (by
 conv=>rhs;whnf
 refine Zc _ (ZlR _) fun r3 _=>?_
 rcases r3 with r3 | r3
 exact yR
 exact Zj (ZG _ _) (by
 conv=>rhs;whnf
 refine Zc _ (Zl0 _) fun r7 _=>?_
 rcases r7 with r7 | r7
 exact yR
 exact yR))
def Zrw (a:Int):Unit->V×Zl
  | r=>((.ch 0),[(.ch (Zde a))])
theorem Zqj {a:Int}:∀r,(ZiI a)=some r->evW ctx 34 [(zN a)] []=some ((Zrw a) r):=
 evS ZF9 rfl rfl <| yBm yR
end Go.Proofs.YtmnglncebfabpaaGreatDoor
