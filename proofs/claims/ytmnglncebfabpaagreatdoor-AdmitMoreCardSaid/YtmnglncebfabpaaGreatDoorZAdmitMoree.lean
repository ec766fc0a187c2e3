/- AdmitMore: part 5 of 6 of the proof. -/
import Derived.Test.YtmnglncebfabpaaGreatDoorZAdmitMored
import Derived.KernelRfl
set_option maxRecDepth 100000
set_option maxHeartbeats 40000000
set_option linter.unusedVariables false
set_option linter.unusedSimpArgs false
namespace Go.Proofs.YtmnglncebfabpaaGreatDoor
open Go Go.Proofs.YtmnglncebfabpaaGreatDoorE
open Go.IntKind (u64 i64 u32 i32 u8)
theorem ZDn {d:Zq} (g:Zef d) {n:Nat} (hn:n<d.parts.length):1<=Zgm d.parts (n:Int):=by
 unfold Zgm
 rw[Int.toNat_natCast,List.getElem?_eq_getElem hn]
 exact(g.g.w _ (List.getElem_mem hn)).1
theorem Zx5 {d:Zq} (g:ZmQ d) {n i:Nat} (hi:i<nt d n):1<=cut d n (i+1)/\cut d n (i+1)<=Zgm d.parts (n:Int)-1:=by
 obtain⟨_,_,h3,h4,h5⟩:=ZeN g hi
 have:=(g.f _ h5).2
 rw[h3,h4] at this
 exact this
theorem ZB2 {d:Zq} (g:Zef d) {n:Nat} (hn:n<d.parts.length) {i:Nat} (hi:i<=nt d n):1<=cut d n (i+1)-cut d n i:=by
 have hw:=ZDn g hn
 by_cases hl:i<nt d n
 ·have h1:=Zx5 g.g hl
  cases i with
  | zero=>have:cut d n 0=0:=rfl;omega
  | succ j=>
   have:=Zob g.g (show j<j+1 by omega) hl
   rw[(ZeN g.g (show j<nt d n by omega)).2.2.2.1,(ZeN g.g hl).2.2.2.1] at this
   omega
 ·have:i=nt d n:=by omega
  subst this
  rw[Zye]
  cases h0:nt d n with
  | zero=>have:cut d n 0=0:=rfl;omega
  | succ j=>
   have:=Zx5 g.g (show j<nt d n by omega)
   omega
theorem ZAB {d:Zq} (g:Zef d) {n:Nat} (hn:n<d.parts.length):∀x∈Znr d n,1<=x:=fun x hx=>by
 unfold Znr Zko at hx
 obtain⟨i,hi,rfl⟩:=List.mem_map.1 hx
 rw[List.mem_range] at hi
 exact ZB2 g hn (by omega)
theorem Zzh {d:Zq} (g:Zef d):∀x∈Zks d,1<=x:=fun x hx=>by
 unfold Zks at hx
 rcases List.mem_append.1 hx with hx | hx
 ·unfold Zin upto at hx
  obtain⟨n,hn,hx⟩:=List.mem_flatMap.1 hx
  exact ZAB g (List.mem_range.1 hn) x hx
 ·rw[(List.mem_replicate.1 hx).2];exact Int.le_refl _
theorem ZBN (d:Zq) (g:ZmQ d) (n:Nat):nt d n=d.futures.countP fun f=>f.user==(n:Int):=by
 show(tch d n).length=_
 rw[Zs7 (ZnA g n)]
 unfold Zqp
 rw[ZoC]
theorem Ztt {γ:Type} (p q r:γ->Bool) (h:∀x,r x=(p x || q x)) (h2:∀x,¬(p x=true/\q x=true)):∀l:List γ,l.countP r=l.countP p+l.countP q
 | []=>rfl
 | x :: l=>by
  rw[List.countP_cons,List.countP_cons,List.countP_cons,Ztt p q r h h2 l,h x]
  have:=h2 x
  cases hp:p x<;>cases hq:q x<;>simp_all<;>omega
theorem Zot {d:Zq} (g:Zef d):∀k,ZaE d k=k+d.futures.countP fun f=>decide (0<=f.user)&&decide (f.user<(k:Int))
 | 0=>by
  have:(d.futures.countP fun f=>decide (0<=f.user)&&decide (f.user<((0:Nat):Int)))=0:=by
   rw[List.countP_eq_zero]
   intro f _
   simp only[Bool.and_eq_true,decide_eq_true_eq]
   omega
  rw[this];rfl
 | k+1=>by
  rw[Ztt (fun f:Zh=>decide (0<=f.user)&&decide (f.user<(k:Int))) (fun f=>f.user==(k:Int)) (fun f=>decide (0<=f.user)&&decide (f.user<((k+1:Nat):Int))) (fun f=>by
   rw[Bool.eq_iff_iff]
   simp only[Bool.and_eq_true,Bool.or_eq_true,decide_eq_true_eq,beq_iff_eq]
   omega) (fun f=>by
   simp only[Bool.and_eq_true,decide_eq_true_eq,beq_iff_eq]
   omega)]
  show ZaE d k+(nt d k+1)=_
  rw[Zot g k,ZBN d g.g k]
  omega
theorem Zw7 {d:Zq} (g:Zef d):ZaE d d.parts.length=d.parts.length+d.futures.length:=by
 rw[Zot g,List.countP_eq_length.2 fun f hf=>?_]
 have:=g.user hf
 have h1:=this.1
 have h2:=this.2
 simp only[Bool.and_eq_true,decide_eq_true_eq]
 omega
theorem Zxw {d:Zq} (g:Zef d):(Zks d).length=d.parts.length+d.futures.length+d.barriers.length:=by
 unfold Zks
 rw[List.length_append,Zk7,List.length_replicate,Zw7 g]
theorem ZFQ (l:List Int) (hl:l.length<=1000) (hb:∀x∈l,0<=x/\x<=1000000) (step:Int×Int->Option ((Int×Int)⊕Int))
  (h1:∀(i:Nat) x s,i<l.length->l[i]? = some x->step (s,(i:Int))=some (.inl (w64 (s+x),((i+1:Nat):Int)))) (h2:∀s,step (s,(l.length:Int))=some (.inr s)) (s:Int) (hs:0<=s/\s<=1000000):lp step (s,0)=some (s+l.sum):=by
 have key:=(Zn4 l step (fun i s=>(s,(i:Int))) (fun _ s x=>s+x) id (fun i s=>0<=s/\s<=1000000+1000000*i) (fun i x s hi hx hI=>by
  have:=hb x (List.mem_of_getElem? hx)
  refine⟨?_,by omega⟩
  rw[h1 i x s hi hx,ZaL (by omega) (by omega)]) (fun s _=>h2 s) s (by omega)).1
 have e:∀(l:List Int) (i:Nat) (s:Int),ZfG (fun _ s x=>s+x) i s l=s+l.sum:=by
  intro l
  induction l with
  | nil=>intro i s;simp[ZfG]
  | cons x l ih=>intro i s;show ZfG _ (i+1) (s+x) l=_;rw[ih,List.sum_cons];omega
 rw[e] at key
 exact key
theorem Zxp {g:Zbi} (h:ZiB g=0):ZjZ g=some g.work.sum:=by
 have hG:=(ZmE h).1
 unfold ZjZ
 rw[Znb g hG.short,h]
 have:=ZFQ g.work (by have:=hG.wl;omega) (fun x hx=>by have:=hG.w x hx;omega) (Zgs g) (fun i x s hi hx=>by
  simp only[Zgs,Zc7 hi,cond_true,Z5 hx,Option.bind_some,ZS hi hG.short.w]) (fun s=>by simp only[Zgs,ZeI,cond_false]) 0 (by omega)
 simp only[Option.bind_some,beq_self_eq_true,cond_true,this,Int.zero_add]
theorem ZwX (d:Zq):(Zsx d=(Zgl d,0)/\ZhG d=0/\ZiB (Zgl d).dag=0)∨((Zsx d).1=⟨⟨[],[]⟩,[]⟩/\(Zsx d).2≠0):=by
 unfold Zsx
 by_cases hc:ZhG d=0
 ·rw[hc]
  by_cases hk:ZiB (Zgl d).dag=0
  ·rw[hk];exact .inl ⟨rfl,rfl,rfl⟩
  ·rw[beq_false_of_ne hk];exact .inr ⟨rfl,by show(70:Int)≠0;omega⟩
 ·rw[beq_false_of_ne hc];exact .inr ⟨rfl,hc⟩
def rng (n m:Int):Bool:=decide (1<=n)&&decide (n<=m)
theorem ZFT (n m:Int):Zdu n m=some (rng n m):=by
 unfold Zdu rng
 cases decide (1<=n)<;>cases decide (n<=m)<;>rfl
noncomputable def Zht (s:Zf):Bool:=Zzi s.period&&(!decide (4096<s.period)&&(rng s.deadline s.period&&(rng s.total 4096&&(rng s.long s.total&&rng s.most s.long))))
theorem Zur (s:Zf):Zgf s=some (bif Zht s then 0 else 140):=by
 obtain⟨k,hk⟩:=Zvo s.period
 unfold Zgf Zht
 simp only[hk,ZFT,Option.bind_some]
 cases Zzi s.period<;>cases decide (4096<s.period)<;>cases rng s.deadline s.period<;>cases rng s.total 4096<;>cases rng s.long s.total<;>cases rng s.most s.long<;>rfl
structure Zqz (s:Zf):Prop where
 p:s.period<=4096
 d1:1<=s.deadline
 d2:s.deadline<=s.period
 t1:1<=s.total
 t2:s.total<=4096
 l1:1<=s.long
 l2:s.long<=s.total
 m1:1<=s.most
 m2:s.most<=s.long
theorem ZoI {s:Zf} (h:Zht s=true):Zqz s:=by
 unfold Zht rng at h
 simp only[Bool.and_eq_true,Bool.not_eq_true',decide_eq_false_iff_not,decide_eq_true_eq] at h
 obtain⟨_,h1,h2,h3,h4,h5⟩:=h
 exact⟨by omega,h2.1,h2.2,h3.1,h3.2,h4.1,h4.2,h5.1,h5.2⟩
theorem Zyr (a b:Int) (ha:0<=a) (ha2:a<=1099511627775) (hb:0<=b) (hb2:b<=1099511627775):Zkk [a,b]=some 0:=by
 have ne:∀x:Int,0<=x->x<=1099511627775->Zc3 x=some false:=fun x h1 h2=>by
  unfold Zc3
  rw[ZqQ]
  unfold Zrh
  rw[decide_eq_false (show ¬x<0 by omega),decide_eq_false (show ¬1099511627775<x by omega)]
  rfl
 have key:lp (ZW [a,b] (fun z0=>Zc3 z0)) 0=some (.inr ()):=by
  have:=ZfY [a,b] (ZW [a,b] (fun z0=>Zc3 z0)) (fun _ _=>false) (fun i _=>.inl (i:Int)) (.inr ()) (fun i x hi hx=>by
   have hx':x=a∨x=b:=by
    have:=List.mem_of_getElem? hx
    simpa using this
   have e:Zc3 x=some false:=by
    rcases hx' with rfl | rfl
    ·exact ne _ ha ha2
    ·exact ne _ hb hb2
   simp only[ZW,Zc7 hi,Z5 hx,Option.bind_some,ZS hi (show [a,b].length<9223372036854775808 by simp),cond_true,e,cond_false]) (by simp only[ZW,ZeI];rfl)
  rw[this]
  rfl
 unfold Zkk ZaD
 rw[key]
 rfl
theorem Zyj (s:Zf) (h:Zht s=true):Zfc s=some (decide (s.deadline<s.total)):=by
 have o:=ZoI h
 have o1:=o.p;have o2:=o.d1;have o3:=o.d2;have o4:=o.t1;have o5:=o.t2;have o6:=o.l1;have o7:=o.l2
 unfold Zfc
 rw[Zur,h]
 simp only[cond_true,Option.bind_some,beq_self_eq_true]
 unfold Zjw
 by_cases h1:s.deadline<s.total
 ·rw[decide_eq_true h1]
  simp only[cond_true,Option.bind_some]
  unfold Zed Zc0
  by_cases h2:s.deadline<=s.long
  ·rw[decide_eq_true h2]
   rfl
  ·rw[decide_eq_false h2]
   have e1:w64 (s.total-s.long)=s.total-s.long:=ZaL (by omega) (by omega)
   have e2:w64 (s.deadline-s.long)=s.deadline-s.long:=ZaL (by omega) (by omega)
   have up:∃n,2<=n/\ZkF (s.total-s.long) (s.deadline-s.long)=some (n,0):=by
    unfold ZkF ZhF Zjz
    rw[Zyr _ _ (by omega) (by omega) (by omega) (by omega)]
    have e3:w64 (s.deadline-s.long-1)=s.deadline-s.long-1:=ZaL (by omega) (by omega)
    have e4:w64 (s.total-s.long+(s.deadline-s.long-1))=s.total-s.long+(s.deadline-s.long-1):=ZaL (by omega) (by omega)
    have hq:2<=(s.total-s.long+(s.deadline-s.long-1)) / (s.deadline-s.long):=Int.le_ediv_of_mul_le (by omega) (by omega)
    have hq2:(s.total-s.long+(s.deadline-s.long-1)) / (s.deadline-s.long)<=s.total-s.long+(s.deadline-s.long-1):=Int.ediv_le_self _ (by omega)
    refine⟨(s.total-s.long+(s.deadline-s.long-1)) / (s.deadline-s.long),hq,?_⟩
    simp only[Option.bind_some,bne_self_eq_false,cond_false,show((s.deadline-s.long)==0)=false by simp;omega,e3,e4]
    rw[Int.tdiv_eq_ediv_of_nonneg (by omega),ZaL (by omega) (by omega)]
   obtain⟨n,n1,n2⟩:=up
   simp only[cond_false,e1,e2,n2,Option.bind_some,beq_self_eq_true,cond_true]
   by_cases h3:8<n
   ·rw[decide_eq_true h3];rfl
   ·rw[decide_eq_false h3]
    simp only[cond_false,Option.bind_some,show(n==1)=false by simp;omega,Bool.false_and,Bool.not_false,cond_true]
 ·rw[decide_eq_false h1]
  rfl
theorem ZIF (a b:Int) (ha:0<=a) (ha2:a<=4096) (hb:1<=b) (hb2:b<=4096):ZkF a b=some ((a+(b-1)) / b,0):=by
 unfold ZkF ZhF Zjz
 rw[Zyr _ _ (by omega) (by omega) (by omega) (by omega)]
 have e3:w64 (b-1)=b-1:=ZaL (by omega) (by omega)
 have e4:w64 (a+(b-1))=a+(b-1):=ZaL (by omega) (by omega)
 have h0:0<=(a+(b-1)) / b:=Int.ediv_nonneg (by omega) (by omega)
 have hq2:(a+(b-1)) / b<=a+(b-1):=Int.ediv_le_self _ (by omega)
 simp only[Option.bind_some,bne_self_eq_false,cond_false,show(b==0)=false by simp;omega,e3,e4]
 rw[Int.tdiv_eq_ediv_of_nonneg (by omega),ZaL (by omega) (by omega)]
def upN (s:Zf):Int:=(s.total-s.long+(s.deadline-s.long-1)) / (s.deadline-s.long)
noncomputable def Zdl (s:Zf):Int×Int:=bif Zht s then (bif decide (s.deadline<s.total) then (bif decide (s.deadline<=s.long) then (0,141) else bif decide (8<upN s) then (0,142) else (upN s,0)) else (1,0)) else (0,140)
theorem ZEv {s:Zf} (h:s.long<s.deadline) (n:Int):upN s<=n↔s.total-s.long<=n*(s.deadline-s.long):=by
 have hb:0<s.deadline-s.long:=by omega
 have:=Int.ediv_lt_iff_lt_mul (a:=s.total-s.long+(s.deadline-s.long-1)) (b:=n+1) hb
 rw[Int.add_mul,Int.one_mul] at this
 unfold upN
 omega
theorem Zx6 (s:Zf):Zg0 s=some (Zdl s):=by
 unfold Zg0 Zdl
 rw[Zur]
 cases h:Zht s with
 | false=>rfl
 | true=>
  have o:=ZoI h
  have o1:=o.p;have o2:=o.d1;have o3:=o.d2;have o4:=o.t1;have o5:=o.t2;have o6:=o.l1;have o7:=o.l2
  simp only[cond_true,Option.bind_some,bne_self_eq_false,cond_false]
  unfold Zjw
  cases h1:decide (s.deadline<s.total) with
  | false=>rfl
  | true=>
   have h1:=of_decide_eq_true h1
   simp only[cond_true,Option.bind_some]
   unfold Zed
   by_cases h2:s.deadline<=s.long
   ·rw[decide_eq_true h2];rfl
   ·rw[decide_eq_false h2]
    have e1:w64 (s.total-s.long)=s.total-s.long:=ZaL (by omega) (by omega)
    have e2:w64 (s.deadline-s.long)=s.deadline-s.long:=ZaL (by omega) (by omega)
    simp only[cond_false,e1,e2,ZIF _ _ (show 0<=s.total-s.long by omega) (by omega) (show 1<=s.deadline-s.long by omega) (by omega),Option.bind_some,beq_self_eq_true,cond_true]
    show(bif decide (8<upN s) then _ else _:Option ZgY).bind _=_
    cases decide (8<upN s)<;>rfl
theorem ZyQ (l:List Int) (hl:l.length<=1000):∃r:List Int,Zdj l=some r/\r.Perm l/\r.Pairwise (fun x y=>x<=y):=by
 refine⟨sortI l,?_,Znu l,Zlr l⟩
 unfold Zdj
 rw[Nat.ble_eq_true_of_le (Nat.le_trans hl (by decide))]
 rfl
theorem ZDE {g:Zbi} (h:Zjs g) (n:Int):∃r,Zj5 g n=some r/\(∀z,z∈r↔∃e∈g.edges,e.dst=n/\e.src=z)/\r.length<=256:=by
 have hel:=h.el
 have key:=ZBU g.edges (by omega) (fun e:Zr=>e.dst==n) (fun _ e=>e.src) (ZhA g fun z0=>Zge z0 n) (fun i x s hi hx=>by
  simp only[ZhA,Zc7 hi,cond_true,Z5 hx,Option.bind_some,Zge,ZS hi h.short.e]
  cases x.dst==n<;>rfl) (fun s=>by simp only[ZhA,ZeI,cond_false]) [] (by simp)
 rw[List.nil_append] at key
 have hlen:(sel (fun e:Zr=>e.dst==n) (fun _ e=>e.src) 0 g.edges).length<=256:=Nat.le_trans (Zy2 _ _ _ _) hel
 obtain⟨r,h1,h2,_⟩:=ZyQ _ (Nat.le_trans hlen (by omega))
 refine⟨r,?_,fun z=>?_,by rw[h2.length_eq];exact hlen⟩
 ·unfold Zj5 ZoX
  simp only[key,Option.bind_some,h1]
 ·rw[h2.mem_iff,ZqC]
  constructor
  ·rintro ⟨j,x,hx,h3,h4⟩
   exact⟨x,List.mem_of_getElem? hx,by simpa using h3,h4.symm⟩
  ·rintro ⟨e,he,h3,h4⟩
   obtain⟨j,hj⟩:=List.getElem?_of_mem he
   exact⟨j,e,hj,by simpa using h3,h4.symm⟩
theorem ZzH {g:Zbi} (h:ZiB g=0):∃l,Zj3 g=some l/\ZGE g l:=by
 obtain⟨hG,hA⟩:=ZmE h
 obtain⟨l,h1,h2⟩:=Ztb hG hA
 refine⟨l,?_,h2⟩
 unfold Zj3
 rw[Znb g hG.short,h,Option.bind_some]
 simp only[bne_self_eq_false,cond_false,h1,Option.bind_some,cond_true]
def fat (l:List Int) (z:Int):Int:=match l[z.toNat]? with | some x=>x | none=>0
theorem ZoG {l:List Int}{n:Nat} (hl:l.length=n) {z:Int} (h:0<=z/\z.toNat<n):ZE l z=some (fat l z):=by
 have e:=List.getElem?_eq_getElem (show z.toNat<l.length by rw[hl];exact h.2)
 rw[Zsp h.1 e]
 unfold fat
 rw[e]
theorem ZoM {l:List Int}{n:Nat} (hl:l.length=n) {z w v:Int} (hz:0<=z/\z.toNat<n) (hw:0<=w):fat (l.set z.toNat v) w=if w=z then v else fat l w:=by
 unfold fat
 rw[List.getElem?_set]
 by_cases h:z.toNat=w.toNat
 ·rw[if_pos h,if_pos (by rw[hl];exact hz.2),if_pos (by omega)]
 ·rw[if_neg h,if_neg (by intro hc;exact h (by rw[hc]))]
theorem ZrV (v:Int->Int):∀(ps:List Int) (i:Nat) (m:Int),m<=ZfG (fun _ m p=>bif decide (m<v p) then v p else m) i m ps/\(∀p∈ps,v p<=ZfG (fun _ m p=>bif decide (m<v p) then v p else m) i m ps) /\
  (ZfG (fun _ m p=>bif decide (m<v p) then v p else m) i m ps=m∨∃p∈ps,ZfG (fun _ m p=>bif decide (m<v p) then v p else m) i m ps=v p)
 | [],i,m=>⟨Int.le_refl _,(fun p hp=>by cases hp),.inl rfl⟩
 | p :: ps,i,m=>by
  obtain⟨h1,h2,h3⟩:=ZrV v ps (i+1) (bif decide (m<v p) then v p else m)
  generalize hr:ZfG (fun _ m p=>bif decide (m<v p) then v p else m) (i+1) (bif decide (m<v p) then v p else m) ps=r at *
  have e:ZfG (fun _ m p=>bif decide (m<v p) then v p else m) i m (p :: ps)=r:=hr
  rw[e]
  by_cases hc:m<v p
  ·rw[decide_eq_true hc] at h1 h3
   simp only[cond_true] at h1 h3
   refine⟨by omega,fun q hq=>?_,?_⟩
   ·rcases List.mem_cons.1 hq with rfl | hq
    ·exact h1
    ·exact h2 q hq
   ·rcases h3 with h3 | ⟨q,hq,h3⟩
    ·exact .inr ⟨p,by simp,h3⟩
    ·exact .inr ⟨q,by simp[hq],h3⟩
  ·rw[decide_eq_false hc] at h1 h3
   simp only[cond_false] at h1 h3
   refine⟨h1,fun q hq=>?_,?_⟩
   ·rcases List.mem_cons.1 hq with rfl | hq
    ·omega
    ·exact h2 q hq
   ·rcases h3 with h3 | ⟨q,hq,h3⟩
    ·exact .inl h3
    ·exact .inr ⟨q,by simp[hq],h3⟩
structure Far (g:Zbi) (F:Int->Int) (M:Int):Prop where
 edge:∀e∈g.edges,F e.src+fat g.work e.dst<=F e.dst
 least:∀i:Nat,i<g.work.length->fat g.work (i:Int)<=F (i:Int)
 some_:∀i:Nat,i<g.work.length->F (i:Int)=fat g.work (i:Int)∨∃e∈g.edges,e.dst=(i:Int)/\F (i:Int)=F e.src+fat g.work (i:Int)
 most:∀i:Nat,i<g.work.length->F (i:Int)<=M
 hit:M=0∨∃i:Nat,i<g.work.length/\M=F (i:Int)
theorem ZFa {g:Zbi} (h:ZiB g=0):∃F M,Zlk g=some M/\Far g F M:=by
 obtain⟨hG,hA⟩:=ZmE h
 obtain⟨l,h1,T⟩:=ZzH h
 have hwl:=hG.wl
 have hll:l.length<=64:=by rw[T.len];exact hwl
 have key:∀(k i:Nat) (far:List Int) (mo:Int),i+k=l.length->far.length=g.work.length ->
   (∀z,0<=z/\z.toNat<g.work.length->(¬∃j,j<i/\l[j]? = some z)->fat far z=0) ->
   (∀e∈g.edges,(∃j,j<i/\l[j]? = some e.dst)->fat far e.src+fat g.work e.dst<=fat far e.dst) ->
   (∀z,(∃j,j<i/\l[j]? = some z)->fat g.work z<=fat far z/\(fat far z=fat g.work z∨∃e∈g.edges,e.dst=z/\fat far z=fat far e.src+fat g.work z)/\fat far z<=mo) ->
   (mo=0∨∃z,(∃j,j<i/\l[j]? = some z)/\mo=fat far z) ->
   (∀z,0<=z/\z.toNat<g.work.length->0<=fat far z/\fat far z<=1000*i) ->
   ∃F M,lp (Zgk g l) (mo,(i:Int),far)=some M/\Far g F M:=by
  intro k
  induction k with
  | zero=>
   intro i far mo hi hl hz he hn hm hb
   have:i=l.length:=by omega
   subst this
   have all:∀j:Nat,j<g.work.length->∃q,q<l.length/\l[q]? = some (j:Int):=fun j hj=>by
    obtain⟨q,hq⟩:=List.getElem?_of_mem (T.all j hj)
    exact⟨q,(List.getElem?_eq_some_iff.1 hq).1,hq⟩
   have allz:∀z:Int,0<=z/\z.toNat<g.work.length->∃q,q<l.length/\l[q]? = some z:=fun z hz=>by
    have:=all z.toNat hz.2
    rwa [show((z.toNat:Nat):Int)=z by omega] at this
   refine⟨fat far,mo,?_,fun e hm=>he e hm (allz _ (hG.dst e hm)),fun i hi=>(hn _ (all i hi)).1,fun i hi=>(hn _ (all i hi)).2.1,fun i hi=>(hn _ (all i hi)).2.2,?_⟩
   ·rw[Zap]
    simp only[Zgk,ZeI,cond_false]
   ·rcases hm with hm | ⟨z,⟨j,_,hj⟩,hm⟩
    ·exact .inl hm
    ·have:=T.inn z (List.mem_of_getElem? hj)
     exact .inr ⟨z.toNat,this.2,by rw[show((z.toNat:Nat):Int)=z by omega];exact hm⟩
  | succ k ih=>
   intro i far mo hi hl hz he hn hm hb
   have hi':i<l.length:=by omega
   have hx:l[i]? = some l[i]:=List.getElem?_eq_getElem hi'
   generalize hnn:l[i]=n at hx
   have nin:=T.inn n (List.mem_of_getElem? hx)
   obtain⟨ps,p1,p2,p3⟩:=ZDE hG n
   have fresh:¬∃j,j<i/\l[j]? = some n:=fun⟨j,j1,j2⟩=>by have:=ZtN T.nod j2 hx;omega
   have h0:=hz n nin fresh
   have psin:∀p∈ps,(0<=p/\p.toNat<g.work.length)/\p≠n/\∃j,j<i/\l[j]? = some p:=fun p hp=>by
    obtain⟨e,e1,e2,e3⟩:=(p2 p).1 hp
    have hs:=hG.src e e1
    obtain⟨j,j1,j2⟩:=T.topo i n hx e e1 e2
    rw[e3] at hs j2
    exact⟨hs,fun hc=>fresh ⟨j,j1,hc ▸ j2⟩,j,j1,j2⟩
   have inner:=(Zn4 ps (Zgh n ps) (fun j m=>((j:Int),far.set n.toNat m)) (fun _ m p=>bif decide (m<fat far p) then fat far p else m) (fun m=>far.set n.toNat m) (fun _ _=>True) (fun j p m hj hp _=>by
    obtain⟨q1,q2,_⟩:=psin p (List.mem_of_getElem? hp)
    have hls:(far.set n.toNat m).length=g.work.length:=by rw[List.length_set];exact hl
    have g1:=ZoG hls nin
    have g2:=ZoG hls q1
    rw[ZoM hl nin nin.1,if_pos rfl] at g1
    rw[ZoM hl nin q1.1,if_neg q2] at g2
    refine⟨?_,trivial⟩
    simp only[Zgh,Zc7 hj,cond_true,Z5 hp,Option.bind_some,g1,g2,List.set_set,ZS hj (show ps.length<9223372036854775808 by omega)]) (fun m _=>by simp only[Zgh,ZeI,cond_false]) (fat far n) trivial).1
   have self:far.set n.toNat (fat far n)=far:=by
    have e:=List.getElem?_eq_getElem (show n.toNat<far.length by rw[hl];exact nin.2)
    unfold fat
    rw[e]
    exact List.set_getElem_self _
   simp only[self] at inner
   obtain⟨m1,m2,m3⟩:=ZrV (fat far) ps 0 (fat far n)
   generalize ZfG (fun _ m p=>bif decide (m<fat far p) then fat far p else m) 0 (fat far n) ps=m at inner m1 m2 m3
   have inner2:lp (Zgh n ps) (0,far)=some (far.set n.toNat m):=inner
   rw[h0] at m1 m3
   have hwn:0<=fat g.work n/\fat g.work n<=1000:=by
    have e:=List.getElem?_eq_getElem (show n.toNat<g.work.length from nin.2)
    unfold fat
    rw[e]
    exact hG.w _ (List.getElem_mem _)
   have mb:m<=1000*i:=by
    rcases m3 with m3 | ⟨p,hp,m3⟩
    ·omega
    ·have:=hb p (psin p hp).1;omega
   have hls:(far.set n.toNat m).length=g.work.length:=by rw[List.length_set];exact hl
   have g9:=ZoG hls nin
   rw[ZoM hl nin nin.1,if_pos rfl] at g9
   have g10:=ZoG (l:=g.work) rfl nin
   have hw:w64 (m+fat g.work n)=m+fat g.work n:=ZaL (by omega) (by omega)
   have hls2:(far.set n.toNat (m+fat g.work n)).length=g.work.length:=by rw[List.length_set];exact hl
   have g11:=ZoG hls2 nin
   rw[ZoM hl nin nin.1,if_pos rfl] at g11
   have val:∀z,0<=z->fat (far.set n.toNat (m+fat g.work n)) z=if z=n then m+fat g.work n else fat far z:=fun z hz=>ZoM hl nin hz
   have old:∀z,(∃j,j<i/\l[j]? = some z)->0<=z/\z≠n:=fun z ⟨j,j1,j2⟩=>⟨(T.inn z (List.mem_of_getElem? j2)).1,fun hc=>fresh ⟨j,j1,hc ▸ j2⟩⟩
   have split:∀z,(∃j,j<i+1/\l[j]? = some z)->z=n∨∃j,j<i/\l[j]? = some z:=fun z ⟨j,j1,j2⟩=>by
    by_cases hj:j=i
    ·subst hj;rw[hx] at j2;exact .inl (Option.some.inj j2).symm
    ·exact .inr ⟨j,by omega,j2⟩
   have srcOld:∀e∈g.edges,(∃j,j<i+1/\l[j]? = some e.dst)->∃j,j<i/\l[j]? = some e.src:=fun e he1 ⟨j,j1,j2⟩=>by
    obtain⟨q,q1,q2⟩:=T.topo j e.dst j2 e he1 rfl
    exact⟨q,by omega,q2⟩
   rw[Zap]
   simp only[Zgk,Zc7 hi',cond_true,Z5 hx,Option.bind_some,p1,inner2,g9,g10,List.set_set,hw,g11,ZS hi' (show l.length<9223372036854775808 by omega)]
   refine ih (i+1) (far.set n.toNat (m+fat g.work n)) _ (by omega) hls2 (fun z z1 z2=>?_) (fun e e1 e2=>?_) (fun z z1=>?_) ?_ (fun z z1=>?_)
   ·have hzn:z≠n:=fun hc=>z2 ⟨i,by omega,by rw[hc];exact hx⟩
    rw[val z z1.1,if_neg hzn]
    exact hz z z1 fun⟨j,j1,j2⟩=>z2 ⟨j,by omega,j2⟩
   ·have so:=srcOld e e1 e2
    obtain⟨s0,s1⟩:=old e.src so
    have d0:=(hG.dst e e1).1
    rw[val e.src s0,if_neg s1,val e.dst d0]
    rcases split e.dst e2 with hd | hd
    ·rw[if_pos hd,hd]
     have:=m2 e.src ((p2 e.src).2 ⟨e,e1,hd,rfl⟩)
     omega
    ·rw[if_neg (old e.dst hd).2]
     exact he e e1 hd
   ·rcases split z z1 with hd | hd
    ·subst hd
     rw[val z nin.1,if_pos rfl]
     refine⟨by omega,?_,?_⟩
     ·rcases m3 with m3 | ⟨p,hp,m3⟩
      ·exact .inl (by omega)
      ·obtain⟨e,e1,e2,e3⟩:=(p2 p).1 hp
       obtain⟨q1,q2,_⟩:=psin p hp
       refine .inr ⟨e,e1,e2,?_⟩
       rw[e3,val p q1.1,if_neg q2,m3]
     ·by_cases hc:mo<m+fat g.work z
      ·rw[decide_eq_true hc];exact Int.le_refl _
      ·rw[decide_eq_false hc];simp only[cond_false];omega
    ·obtain⟨o1,o2⟩:=old z hd
     obtain⟨n1,n2,n3⟩:=hn z hd
     rw[val z o1,if_neg o2]
     refine⟨n1,?_,?_⟩
     ·rcases n2 with n2 | ⟨e,e1,e2,e3⟩
      ·exact .inl n2
      ·have so:=srcOld e e1 (by obtain⟨j,j1,j2⟩:=hd;exact⟨j,by omega,by rw[e2];exact j2⟩)
       obtain⟨s0,s1⟩:=old e.src so
       exact .inr ⟨e,e1,e2,by rw[val e.src s0,if_neg s1];exact e3⟩
     ·by_cases hc:mo<m+fat g.work n
      ·rw[decide_eq_true hc];simp only[cond_true];omega
      ·rw[decide_eq_false hc];simp only[cond_false];omega
   ·by_cases hc:mo<m+fat g.work n
    ·rw[decide_eq_true hc]
     exact .inr ⟨n,⟨i,by omega,hx⟩,by rw[val n nin.1,if_pos rfl];rfl⟩
    ·rw[decide_eq_false hc]
     rcases hm with hm | ⟨z,⟨j,j1,j2⟩,hm⟩
     ·exact .inl hm
     ·obtain⟨o1,o2⟩:=old z ⟨j,j1,j2⟩
      exact .inr ⟨z,⟨j,by omega,j2⟩,by rw[val z o1,if_neg o2];exact hm⟩
   ·rw[val z z1.1]
    split
    ·omega
    ·have:=hb z z1;omega
 have rep:∀z,fat (List.replicate g.work.length (0:Int)) z=0:=fun z=>by
  unfold fat
  rw[List.getElem?_replicate]
  by_cases hc:z.toNat<g.work.length
  ·rw[if_pos hc]
  ·rw[if_neg hc]
 obtain⟨F,M,k1,k2⟩:=key l.length 0 (List.replicate g.work.length 0) 0 (by omega) (by simp) (fun z _ _=>rep z) (fun e _ ⟨j,j1,_⟩=>by omega) (fun z ⟨j,j1,_⟩=>by omega) (.inl rfl) (fun z _=>by rw[rep];omega)
 refine⟨F,M,?_,k2⟩
 unfold Zlk
 rw[decide_eq_true (show(0:Int)<=(g.work.length:Int) by omega),decide_eq_true (show(g.work.length:Int)<=lim by show(g.work.length:Int)<=1073741824;omega),beq_self_eq_true]
 simp only[decide_true,Bool.and_true,cond_true,Int.toNat_natCast,h1,Option.bind_some]
 have k1:lp (Zgk g l) (0,0,List.replicate g.work.length 0)=some M:=k1
 rw[k1]
 rfl
def mxF (_:Nat) (m p:Int):Int:=bif decide (m<p) then p else m
theorem ZBI (l:List Int) (i:Nat) (m:Int):m<=ZfG mxF i m l/\(∀p∈l,p<=ZfG mxF i m l)/\(ZfG mxF i m l=m∨∃p∈l,ZfG mxF i m l=p):=ZrV (fun z=>z) l i m
theorem ZEE (x:Int) (t:List Int) (hl:t.length<=1000) (h1:1<=x):ZcK (x :: t)=some (ZfG mxF 0 0 (x :: t)):=by
 have l1:=(Zn4 t (Zbq (x :: t)) (fun i m=>(m,((i+1:Nat):Int))) mxF id (fun _ _=>True) (fun i y m hi hy _=>by
  refine⟨?_,trivial⟩
  have hi2:i+1<(x :: t).length:=by simp;omega
  have hy2:(x :: t)[i+1]? = some y:=by simpa using hy
  simp only[Zbq,Zc7 hi2,cond_true,Z5 hy2,Option.bind_some,ZS hi2 (show(x :: t).length<9223372036854775808 by simp;omega)]
  rfl) (fun m _=>by
  have e:((t.length+1:Nat):Int)=((x :: t).length:Int):=by simp
  simp only[Zbq,e,ZeI,cond_false];rfl) x trivial).1
 obtain⟨m1,m2,m3⟩:=ZBI t 0 x
 obtain⟨n1,n2,n3⟩:=ZBI (x :: t) 0 0
 generalize ZfG mxF 0 x t=r at l1 m1 m2 m3
 generalize ZfG mxF 0 0 (x :: t)=q at n1 n2 n3
 have rq:r=q:=by
  have a:r<=q:=by
   rcases m3 with m3 | ⟨p,hp,m3⟩
   ·have:=n2 x (by simp);omega
   ·have:=n2 p (by simp[hp]);omega
  have b:q<=r:=by
   rcases n3 with n3 | ⟨p,hp,n3⟩
   ·omega
   ·rcases List.mem_cons.1 hp with hp | hp
    ·omega
    ·have:=m2 p hp;omega
  omega
 have l1':lp (Zbq (x :: t)) (x,1)=some r:=l1
 have c0:decide (((x :: t).length:Int)<1)=false:=decide_eq_false (by simp;omega)
 have g0:ZE (x :: t) 0=some x:=rfl
 unfold ZcK
 rw[c0,g0]
 simp only[cond_false,Option.bind_some,l1',rq]
theorem ZDQ {d:Zq} (hz:Zji d):(∃s:Zf,Zfa d=some (s,(Zsx d).2)/\(Zsx d).2≠0) ∨
  (Zsx d=(Zgl d,0)/\ZhG d=0/\ZiB (Zgl d).dag=0/\∃(F:Int->Int) (M r:Int),Far (Zgl d).dag F M/\Zfa d=some (⟨(Zgl d).dag.work.sum,M,r,d.deadline,d.period⟩,0)):=by
 unfold Zfa
 simp only[ZDg hz,Option.bind_some]
 rcases ZwX d with⟨h1,h2,h3⟩ | ⟨h1,h2⟩
 ·right
  have g:=ZvH h2
  have hG:=(ZmE h3).1
  obtain⟨F,M,l1,hF⟩:=ZFa h3
  have hpl:=g.pl
  have hp1:=g.p1
  have hbl:=g.bl
  have ge:∀x∈(Zgl d).dag.work,1<=x:=Zzh g
  have len:(Zgl d).dag.work.length=d.parts.length+d.futures.length+d.barriers.length:=Zxw g
  have hwl:=hG.wl
  have mo:ZcK (Zgl d).dag.work=some (ZfG mxF 0 0 (Zgl d).dag.work):=by
   cases hw:(Zgl d).dag.work with
   | nil=>rw[hw,List.length_nil] at len;omega
   | cons x t=>
    rw[hw,List.length_cons] at hwl
    exact ZEE x t (by omega) (ge x (by rw[hw];simp))
  refine⟨h1,h2,h3,F,M,ZfG mxF 0 0 (Zgl d).dag.work,hF,?_⟩
  rw[h1]
  simp only[bne_self_eq_false,cond_false,Zxp h3,l1,mo,Option.bind_some]
 ·left
  have hne:((Zsx d).2 != 0)=true:=by rw[bne,beq_false_of_ne h2];rfl
  rw[hne]
  simp only[cond_true]
  exact⟨_,rfl,h2⟩
open Go Go.Proofs.YtmnglncebfabpaaGreatDoorE Go.Sort
def Zm4 (l:List Zf) (z:Int):Int:=match l[z.toNat]? with | some s=>s.total | none=>0
def ahead (l:List Zf) (x y:Int):Prop:=Zm4 l y<Zm4 l x∨(Zm4 l x=Zm4 l y/\x<y)
def Zxt (l:List Zf) (x y:Int):Int:=if Zm4 l y<Zm4 l x then -1 else if Zm4 l x<Zm4 l y then 1 else x-y
theorem ZAW (l:List Zf) (x y:Int):ltC (Zxt l) x y=true↔ahead l x y:=by
 unfold ltC Zxt ahead
 rw[decide_eq_true_eq]
 split
 ·omega
 ·split<;>omega
theorem ZuH (l:List Zf) (x y:Int):ltC (Zxt l) x y=false↔¬ahead l x y:=by rw[<- ZAW];simp
theorem ZDd (l:List Zf):SWO (ltC (Zxt l)):=by
 refine⟨fun x=>?_,fun x y z h1 h2=>?_,fun x y z h1 h2=>?_⟩
 ·rw[ZuH];unfold ahead;omega
 ·rw[ZAW] at *;unfold ahead at *;omega
 ·rw[ZuH] at *;unfold ahead at *;omega
def InL (l:List Zf) (z:Int):Prop:=0<=z/\z.toNat<l.length
theorem ZFU {l:List Zf}{z:Int} (h:InL l z):∃s,ZE l z=some s/\l[z.toNat]? = some s/\Zm4 l z=s.total:=by
 refine⟨l[z.toNat]'h.2,?_,List.getElem?_eq_getElem h.2,?_⟩
 ·have:=Z5 (List.getElem?_eq_getElem h.2)
  rwa [Int.toNat_of_nonneg h.1] at this
 ·unfold Zm4;rw[List.getElem?_eq_getElem h.2]
theorem ZDB (l:List Zf) (hl:l.length<=1000):Zs2 (fun z0 z1=>ZA z0 z1 l) (Zxt l) (InL l):=by
 intro x y hx hy
 obtain⟨s,s1,_,s2⟩:=ZFU hx
 obtain⟨t,t1,_,t2⟩:=ZFU hy
 have hx2:=hx.2
 have hy2:=hy.2
 have hx1:=hx.1
 have hy1:=hy.1
 show ZA x y l=some (Zxt l x y)
 unfold ZA Zxt
 rw[s1,t1,s2,t2]
 simp only[Option.bind_some]
 by_cases h1:t.total<s.total
 ·rw[decide_eq_true h1,if_pos h1];rfl
 ·rw[decide_eq_false h1,if_neg h1]
  by_cases h2:s.total<t.total
  ·rw[decide_eq_true h2,if_pos h2];rfl
  ·rw[decide_eq_false h2,if_neg h2,ZaL (by omega) (by omega)];rfl
def Zoi:Nat->Nat->List Int
 | _,0=>[]
 | i,k+1=>(i:Int) :: Zoi (i+1) k
theorem ZoQ (z:Int):∀(k i:Nat),z∈Zoi i k↔(i:Int)<=z/\z<(i:Int)+k
 | 0,i=>by simp only[Zoi,List.not_mem_nil,false_iff];omega
 | k+1,i=>by
  simp only[Zoi,List.mem_cons,ZoQ z k (i+1)]
  omega
theorem Zti:∀(k i:Nat),(Zoi i k).Pairwise (fun x y=>x<y)
 | 0,i=>List.Pairwise.nil
 | k+1,i=>by
  unfold Zoi
  rw[List.pairwise_cons]
  refine⟨fun z hz=>?_,Zti k (i+1)⟩
  have:=(ZoQ z k (i+1)).1 hz
  omega
theorem Zss:∀(k i:Nat),(Zoi i k).length=k
 | 0,_=>rfl
 | k+1,i=>by unfold Zoi;rw[List.length_cons,Zss k]
structure ZhH (l:List Zf) (r:List Int):Prop where
 perm:r.Perm (Zoi 0 l.length)
 rise:r.Pairwise (ahead l)
theorem ZhH.mem {l:List Zf}{r:List Int} (h:ZhH l r) (z:Int):z∈r↔InL l z:=by
 rw[h.perm.mem_iff,ZoQ]
 unfold InL
 omega
theorem ZhH.len {l:List Zf}{r:List Int} (h:ZhH l r):r.length=l.length:=by rw[h.perm.length_eq,Zss]
theorem ZhH.nodup {l:List Zf}{r:List Int} (h:ZhH l r):r.Nodup:=h.rise.imp fun {x y} hp he=>by
 subst he
 unfold ahead at hp
 omega
theorem ZzI (l:List Zf) (hl:l.length<=1000):∃r,Zf4 l=some r/\ZhH l r:=by
 have loop:∀(k i:Nat) (s:List Int),i+k=l.length->s.length<=i->lp (ZeQ l) ((i:Int),s)=some (s++Zoi i k):=by
  intro k
  induction k with
  | zero=>
   intro i s hi hs
   have:i=l.length:=by omega
   subst this
   rw[Zap]
   simp only[ZeQ,ZeI,cond_false,Zoi,List.append_nil]
  | succ k ih=>
   intro i s hi hs
   have hi':i<l.length:=by omega
   rw[Zap]
   simp only[ZeQ,Zc7 hi',cond_true,Zij (show s.length+1<=1073741824 by omega),ZS hi' (show l.length<9223372036854775808 by omega)]
   rw[ih (i+1) (s++[(i:Int)]) (by omega) (by rw[List.length_append,List.length_singleton];omega)]
   simp[Zoi]
 have k0:lp (ZeQ l) (0,[])=some (Zoi 0 l.length):=loop l.length 0 [] (by omega) (by simp)
 obtain⟨r,h1,h2,h3⟩:=ZBP (ZDB l hl) (ZDd l) (Zoi 0 l.length) (by rw[Zss];exact hl) (fun x hx=>by
  have:=(ZoQ x l.length 0).1 hx
  unfold InL
  omega)
 refine⟨r,?_,h2,?_⟩
 ·unfold Zf4
  rw[k0,Option.bind_some,h1]
  rfl
 ·have nd:r.Pairwise (fun x y=>x≠y):=(h2.pairwise_iff (fun h=>Ne.symm h)).2 ((Zti l.length 0).imp fun h=>by omega)
  refine(h3.and nd).imp fun {x y} hp=>?_
  have h4:=(ZuH l y x).1 hp.1
  have h5:=hp.2
  unfold ahead at *
  omega
noncomputable def okS (s:Zf):Bool:=Zht s&&decide (s.total<=s.deadline)
theorem ZEY (s:Zf):Zc4 s=some (!(okS s)):=by
 unfold Zc4 okS
 rw[Zur]
 cases h:Zht s with
 | false=>rfl
 | true=>
  rw[Zyj s h]
  have e:decide (s.deadline<s.total) = !decide (s.total<=s.deadline):=by rw[<- decide_not];exact decide_eq_decide.2 (by omega)
  simp only[cond_true,Option.bind_some,bne_self_eq_false,cond_false,e]
  cases decide (s.total<=s.deadline)<;>rfl
noncomputable def ZgK (l:List Zf):Bool:=!decide ((8:Int)<(l.length:Int)) && !(l.any fun s=>!(okS s))
theorem ZBO (l:List Zf) (hl:l.length<=1000):Zhm l=some (bif ZgK l then 0 else 150):=by
 have key:Zbl l (fun z0=>Zc4 z0)=some (l.any fun s=>!(okS s)):=by
  unfold Zbl ZcI
  rw[ZfY l (ZaN l (fun z0=>Zc4 z0)) (fun _ s=>!(okS s)) (fun i _=>.inl (i:Int)) (.inr ()) (fun i x hi hx=>by
   simp only[ZaN,Zc7 hi,Z5 hx,Option.bind_some,ZEY,ZS hi (show l.length<9223372036854775808 by omega),cond_true]
   cases okS x<;>rfl) (by simp only[ZaN,ZeI];rfl)]
  rcases Znl (fun s=>!(okS s)) () l 0 with⟨j,e1,e2⟩ | ⟨e1,e2⟩
  ·rw[e1,e2]
   show(bif decide ((0:Int)<=(j:Int)) then some true else some false)=some true
   rw[decide_eq_true (by omega)]
   rfl
  ·rw[e1,e2]
   rfl
 unfold Zhm ZgK
 rw[key]
 cases decide ((8:Int)<(l.length:Int)) with
 | true=>rfl
 | false=>cases (l.any fun s=>!(okS s))<;>rfl
theorem ZkE {l:List Zf} (h:ZgK l=true):l.length<=8/\∀s∈l,Zqz s/\s.total<=s.deadline:=by
 unfold ZgK at h
 simp only[Bool.and_eq_true,Bool.not_eq_true',decide_eq_false_iff_not] at h
 refine⟨by omega,fun s hs=>?_⟩
 have:=List.any_eq_false.1 h.2 s hs
 simp only[Bool.not_eq_true',Bool.not_eq_false] at this
 unfold okS at this
 simp only[Bool.and_eq_true,decide_eq_true_eq] at this
 exact⟨ZoI this.1,this.2⟩
def ZpQ (t:Int) (s:Zf):Int:=if t<s.deadline then 0 else s.total*((t-s.deadline) / s.period+1)
def Zp4 (t:Int) (s:Zf):Int:=if t<s.deadline then s.most else 0
def dem (t:Int):List Zf->Int
 | []=>0
 | s :: l=>ZpQ t s+dem t l
def blk (t:Int):List Zf->Int
 | []=>0
 | s :: l=>max (Zp4 t s) (blk t l)
def hor:List Zf->Int
 | []=>0
 | s :: l=>max s.period (hor l)
theorem Zxv (l:List Zf) (hl:l.length<=8) (b:Int->Zf->Option Int) (F:Int->Zf->Int) (h:∀n s,s∈l->0<=n->n<=1152921504606846976->b n s=some (F n s)/\0<=F n s/\F n s<=n+18014398509481984):ZgE l b=some (l.foldl F 0):=by
 have key:=Zqy l (ZdQ l b) (fun i (n:Int)=>(n,(i:Int))) (fun i x n=>(b n x).map Sum.inl) (fun n=>some n) (fun i x n hi hx=>by
   simp only[ZdQ,Zc7 hi,Z5 hx,Option.bind_some,ZS hi (show l.length<9223372036854775808 by omega),cond_true]
   cases b n x<;>rfl) (fun n=>by simp only[ZdQ,ZeI];rfl) 0
 have sc:∀(m:List Zf) (i:Nat) (n:Int),(∀s∈m,s∈l)->0<=n->n+18014398509481984*m.length<=1152921504606846976->Znm (fun(_:Nat) x n=>(b n x).map (Sum.inl:Int->Int⊕Int)) (fun n=>some n) i m n=some (m.foldl F n):=by
  intro m
  induction m with
  | nil=>intro i n _ _ _;rfl
  | cons x m ih=>
   intro i n hm h0 hn
   rw[List.length_cons] at hn
   obtain⟨h1,h2,h3⟩:=h n x (hm x (by simp)) h0 (by omega)
   unfold Znm
   rw[h1]
   exact ih (i+1) (F n x) (fun s hs=>hm s (by simp[hs])) h2 (by omega)
 have key2:lp (ZdQ l b) (0,0)=_:=key
 unfold ZgE
 rw[key2,sc l 0 0 (fun s h=>h) (by omega) (by omega)]
 rfl
theorem Zta (g:Zf->Int) (f:List Zf->Int) (h0:f []=0) (h1:∀s l,f (s :: l)=g s+f l):∀(l:List Zf) (n:Int),l.foldl (fun n s=>n+g s) n=n+f l
 | [],n=>by rw[h0];simp
 | s :: l,n=>by
  rw[List.foldl_cons,Zta g f h0 h1 l,h1]
  omega
theorem Zo9 (g:Zf->Int) (f:List Zf->Int) (h0:f []=0) (h1:∀s l,f (s :: l)=max (g s) (f l)):∀(l:List Zf) (n:Int),0<=n->l.foldl (fun n s=>max n (g s)) n=max n (f l)
 | [],n,hn=>by rw[h0];simp;omega
 | s :: l,n,hn=>by
  rw[List.foldl_cons,Zo9 g f h0 h1 l _ (by omega),h1]
  omega
theorem Zoo {s:Zf} (o:Zqz s) {t:Int} (h1:1<=t) (h2:t<=4096):0<=ZpQ t s/\ZpQ t s<=33554432:=by
 have:=o.t1;have:=o.t2;have:=o.d1;have:=o.d2
 unfold ZpQ
 split
 ·omega
 ·have q1:0<=(t-s.deadline) / s.period:=Int.ediv_nonneg (by omega) (by omega)
  have q2:(t-s.deadline) / s.period<=t-s.deadline:=Int.ediv_le_self _ (by omega)
  constructor
  ·exact Int.mul_nonneg (by omega) (by omega)
  ·have:s.total*((t-s.deadline) / s.period+1)<=4096*8192:=Int.mul_le_mul (by omega) (by omega) (by omega) (by omega)
   omega
theorem ZAO (l:List Zf) (h:ZgK l=true) (t:Int) (h1:1<=t) (h2:t<=4096):ZiR l t=some (dem t l):=by
 obtain⟨hl,ho⟩:=ZkE h
 have key:=Zxv l hl (fun z0 z1=>Zd8 z0 z1 t) (fun n s=>n+ZpQ t s) (fun n s hs hn hn2=>by
  have o:=(ho s hs).1
  obtain⟨b1,b2⟩:=Zoo o h1 h2
  have:=o.t1;have:=o.t2;have:=o.d1;have:=o.d2;have:=o.p
  refine⟨?_,by omega,by omega⟩
  show Zd8 n s t=some (n+ZpQ t s)
  unfold Zd8
  unfold ZpQ at b1 b2 ⊢
  by_cases hd:t<s.deadline
  ·rw[decide_eq_true hd,if_pos hd,Int.add_zero];rfl
  ·rw[decide_eq_false hd,if_neg hd]
   rw[if_neg hd] at b1 b2
   have q1:0<=(t-s.deadline) / s.period:=Int.ediv_nonneg (by omega) (by omega)
   have q2:(t-s.deadline) / s.period<=t-s.deadline:=Int.ediv_le_self _ (by omega)
   have e1:w64 (t-s.deadline)=t-s.deadline:=ZaL (by omega) (by omega)
   have e2:w64 (Int.tdiv (t-s.deadline) s.period)=(t-s.deadline) / s.period:=by
    rw[Int.tdiv_eq_ediv_of_nonneg (by omega)]
    exact ZaL (by omega) (by omega)
   have e3:w64 ((t-s.deadline) / s.period+1)=(t-s.deadline) / s.period+1:=ZaL (by omega) (by omega)
   have e4:w64 (s.total*((t-s.deadline) / s.period+1))=s.total*((t-s.deadline) / s.period+1):=ZaL (by omega) (by omega)
   have e5:w64 (n+s.total*((t-s.deadline) / s.period+1))=n+s.total*((t-s.deadline) / s.period+1):=ZaL (by omega) (by omega)
   simp only[cond_false,show(s.period==0)=false by simp;omega,e1,e2,e3,e4,e5])
 unfold ZiR
 rw[key,Zta (ZpQ t) (dem t) rfl (fun _ _=>rfl),Int.zero_add]
 rfl
theorem ZCO (l:List Zf) (h:ZgK l=true) (t:Int):Zkg l t=some (blk t l):=by
 obtain⟨hl,ho⟩:=ZkE h
 have key:=Zxv l hl (fun z0 z1=>Ze9 z0 z1 t) (fun n s=>max n (Zp4 t s)) (fun n s hs hn hn2=>by
  have o:=(ho s hs).1
  have:=o.m1;have:=o.m2;have:=o.l2;have:=o.t2
  show Ze9 n s t=some (max n (Zp4 t s))/\_
  unfold Ze9 Zp4
  by_cases hd:t<s.deadline
  ·rw[decide_eq_true hd,if_pos hd]
   refine⟨?_,by omega,by omega⟩
   by_cases hm:n<s.most
   ·rw[decide_eq_true hm,show max n s.most=s.most by omega];rfl
   ·rw[decide_eq_false hm,show max n s.most=n by omega];rfl
  ·rw[decide_eq_false hd,if_neg hd]
   refine⟨?_,by omega,by omega⟩
   rw[show max n (0:Int)=n by omega]
   rfl)
 have hb:∀m:List Zf,0<=blk t m:=fun m=>by
  induction m with
  | nil=>exact Int.le_refl _
  | cons s m ih=>unfold blk;omega
 unfold Zkg
 rw[key,Zo9 (Zp4 t) (blk t) rfl (fun _ _=>rfl) l 0 (Int.le_refl _),show max (0:Int) (blk t l)=blk t l by have:=hb l;omega]
 rfl
theorem ZoW (l:List Zf) (h:ZgK l=true):Zid l=some (hor l):=by
 obtain⟨hl,ho⟩:=ZkE h
 have key:=Zxv l hl (fun z0 z1=>Zdm z0 z1) (fun n s=>max n s.period) (fun n s hs hn hn2=>by
  have o:=(ho s hs).1
  have:=o.p;have:=o.d1;have:=o.d2
  show Zdm n s=some (max n s.period)/\_
  unfold Zdm
  refine⟨?_,by omega,by omega⟩
  by_cases hm:n<s.period
  ·rw[decide_eq_true hm,show max n s.period=s.period by omega];rfl
  ·rw[decide_eq_false hm,show max n s.period=n by omega];rfl)
 have hb:∀m:List Zf,0<=hor m:=fun m=>by
  induction m with
  | nil=>exact Int.le_refl _
  | cons s m ih=>unfold hor;omega
 unfold Zid
 rw[ZBO l (by omega),h]
 simp only[cond_true,Option.bind_some,bne_self_eq_false,cond_false]
 rw[key,Zo9 (fun s=>s.period) hor rfl (fun _ _=>rfl) l 0 (Int.le_refl _),show max (0:Int) (hor l)=hor l by have:=hb l;omega]
 rfl
theorem ZEC {l:List Zf} (h:∀s∈l,Zqz s/\s.total<=s.deadline):hor l<=4096:=by
 induction l with
 | nil=>unfold hor;omega
 | cons s l ih=>
  have:=ih fun x hx=>h x (by simp[hx])
  have:=(h s (by simp)).1.p
  unfold hor
  omega
def Zy5 (l:List Zf) (s:Zf) (t:Int):Prop:=∀k:Nat,t+k*s.period<=hor l->dem (t+k*s.period) l+blk (t+k*s.period) l<=t+k*s.period
def ZD5 (l:List Zf):Prop:=ZgK l=true/\∀s∈l,Zy5 l s s.deadline
noncomputable def Zrb (l:List Zf):Bool:=@decide (ZD5 l) (Classical.propDecidable _)
theorem ZrN (l:List Zf):Zrb l=true↔ZD5 l:=by unfold Zrb;exact @decide_eq_true_iff _ (Classical.propDecidable _)
noncomputable def Zoe (l:List Zf) (s:Zf):Bool:=@decide (¬Zy5 l s s.deadline) (Classical.propDecidable _)
theorem ZwM {l:List Zf} (h:ZgK l=true) {t:Int} (h1:1<=t) (h2:t<=4096):0<=dem t l/\dem t l<=33554432*l.length/\0<=blk t l/\blk t l<=4096:=by
 have ho:=(ZkE h).2
 clear h
 induction l with
 | nil=>unfold dem blk;simp
 | cons s l ih=>
  obtain⟨a1,a2,a3,a4⟩:=ih fun x hx=>ho x (by simp[hx])
  have o:=(ho s (by simp)).1
  obtain⟨b1,b2⟩:=Zoo o h1 h2
  have:=o.m1;have:=o.m2;have:=o.l2;have:=o.t2
  have c:0<=Zp4 t s/\Zp4 t s<=4096:=by unfold Zp4;split<;>omega
  unfold dem blk
  rw[List.length_cons]
  omega
theorem ZDP (l:List Zf) (h:ZgK l=true) (s:Zf) (hs:s∈l):∀(m:Nat) (t:Int),1<=t->t<=8192->4096-t<(m:Int)->∃r,lp (Zgj l s) t=some r/\(r = .inr ()/\Zy5 l s t∨r = .inl ()/\¬Zy5 l s t):=by
 obtain⟨hl,ho⟩:=ZkE h
 have o:=(ho s hs).1
 have hh:=ZEC ho
 have:=o.p;have:=o.d1;have:=o.d2
 intro m
 induction m with
 | zero=>
  intro t h1 h2 hm
  rw[Zap]
  simp only[Zgj,ZoW l h,Option.bind_some,decide_eq_false (show ¬t<=hor l by omega),cond_false]
  refine⟨_,rfl,.inl ⟨rfl,fun k hk=>?_⟩⟩
  have:0<=(k:Int)*s.period:=Int.mul_nonneg (by omega) (by omega)
  omega
 | succ m ih=>
  intro t h1 h2 hm
  rw[Zap]
  by_cases ht:t<=hor l
  ·have t4:t<=4096:=by omega
   obtain⟨a1,a2,a3,a4⟩:=ZwM h h1 t4
   have e1:w64 (dem t l+blk t l)=dem t l+blk t l:=ZaL (by omega) (by omega)
   have e2:w64 (t+s.period)=t+s.period:=ZaL (by omega) (by omega)
   simp only[Zgj,ZoW l h,Option.bind_some,decide_eq_true ht,cond_true,ZAO l h t h1 t4,ZCO l h t,e1,e2]
   by_cases hv:t<dem t l+blk t l
   ·rw[decide_eq_true hv]
    refine⟨_,rfl,.inr ⟨rfl,fun hk=>?_⟩⟩
    have:=hk 0 (by simpa using ht)
    simp only[Int.natCast_zero,Int.zero_mul,Int.add_zero] at this
    omega
   ·rw[decide_eq_false hv]
    simp only[cond_false]
    obtain⟨r,r1,r2⟩:=ih (t+s.period) (by omega) (by omega) (by omega)
    have key:Zy5 l s t↔Zy5 l s (t+s.period):=by
     constructor
     ·intro hk k hk2
      have e:t+s.period+(k:Int)*s.period=t+((k+1:Nat):Int)*s.period:=by
       rw[Int.natCast_add,Int.add_mul];omega
      rw[e] at hk2 ⊢
      exact hk (k+1) hk2
     ·intro hk k hk2
      cases k with
      | zero=>
       simp only[Int.natCast_zero,Int.zero_mul,Int.add_zero]
       omega
      | succ k=>
       have e:t+s.period+(k:Int)*s.period=t+((k+1:Nat):Int)*s.period:=by
        rw[Int.natCast_add,Int.add_mul];omega
       have:=hk k
       rw[e] at this
       exact this hk2
    exact⟨r,r1,by rw[key];exact r2⟩
  ·simp only[Zgj,ZoW l h,Option.bind_some,decide_eq_false ht,cond_false]
   refine⟨_,rfl,.inl ⟨rfl,fun k hk=>?_⟩⟩
   have:0<=(k:Int)*s.period:=Int.mul_nonneg (by omega) (by omega)
   omega
theorem ZFj (l:List Zf) (hl:l.length<=1000):Zlo l=some (Zrb l):=by
 unfold Zlo
 rw[ZBO l hl]
 cases h:ZgK l with
 | false=>
  have:Zrb l=false:=by
   cases hf:Zrb l with
   | false=>rfl
   | true=>have:=((ZrN l).1 hf).1;rw[h] at this;cases this
  rw[this]
  rfl
 | true=>
  obtain⟨hl8,ho⟩:=ZkE h
  have key:=ZfY l (Zg6 l) (fun _ s=>Zoe l s) (fun _ _=>.inl ()) (.inr ()) (fun i x hi hx=>by
   have hm:=List.mem_of_getElem? hx
   have o:=(ho x hm).1
   have:=o.p;have:=o.d1;have:=o.d2
   obtain⟨r,r1,r2⟩:=ZDP l h x hm 4097 x.deadline o.d1 (by omega) (by omega)
   simp only[Zg6,Zc7 hi,Z5 hx,Option.bind_some,ZS hi (show l.length<9223372036854775808 by omega),cond_true,r1]
   rcases r2 with⟨rfl,hk⟩ | ⟨rfl,hk⟩
   ·rw[show Zoe l x=false by unfold Zoe;exact @decide_eq_false _ (Classical.propDecidable _) (fun h=>h hk)];rfl
   ·rw[show Zoe l x=true by unfold Zoe;exact @decide_eq_true _ (Classical.propDecidable _) hk];rfl) (by simp only[Zg6,ZeI];rfl)
  rw[Zdr,Zih] at key
  simp only[cond_true,Option.bind_some,bne_self_eq_false,cond_false,key]
  have e:Zrb l = !(l.any (Zoe l)):=by
   rw[Bool.eq_iff_iff,ZrN,Bool.not_eq_true',List.any_eq_false]
   constructor
   ·rintro ⟨_,hk⟩ s hs hlate
    unfold Zoe at hlate
    exact(@of_decide_eq_true _ (Classical.propDecidable _) hlate) (hk s hs)
   ·intro hk
    refine⟨h,fun s hs=>?_⟩
    have:=hk s hs
    unfold Zoe at this
    exact Classical.not_not.1 fun hn=>this (@decide_eq_true _ (Classical.propDecidable _) hn)
  rw[e]
  cases l.any (Zoe l)<;>rfl
theorem ZAq:Zrb []=true:=by
 rw[ZrN]
 refine⟨by unfold ZgK;rfl,fun s hs=>by cases hs⟩
def on (l:List Zf) (at_:List Int) (core:Int):List Zf:=((l.zip at_).filter fun p=>p.2==core).map Prod.fst
theorem ZFA (l:List Zf) (at_:List Int) (core:Int):(on l at_ core).length<=l.length:=by
 unfold on
 rw[List.length_map]
 refine Nat.le_trans (List.length_filter_le _ _) ?_
 rw[List.length_zip]
 omega
theorem ZHO (l:List Zf) (hl:l.length<=1000) (at_:List Int) (core:Int):ZmF l at_ core=some (on l at_ core):=by
 have key:∀(k i:Nat) (s:List Zf),i+k=l.length->s.length<=i->lp (ZfX l at_ core) ((i:Int),s)=some (s++on (l.drop i) (at_.drop i) core):=by
  intro k
  induction k with
  | zero=>
   intro i s hi hs
   have:i=l.length:=by omega
   subst this
   rw[Zap,List.drop_length]
   simp only[ZfX,ZeI,cond_false]
   simp[on]
  | succ k ih=>
   intro i s hi hs
   have hi':i<l.length:=by omega
   rw[Zap,List.drop_eq_getElem_cons hi']
   have w:=ZS hi' (show l.length<9223372036854775808 by omega)
   by_cases ha:i<at_.length
   ·rw[List.drop_eq_getElem_cons ha]
    simp only[ZfX,Zc7 hi',Z5 (List.getElem?_eq_getElem hi'),Option.bind_some,cond_true,Zc7 ha,Z5 (List.getElem?_eq_getElem ha),Zij (show s.length+1<=1073741824 by omega),w]
    unfold on
    rw[List.zip_cons_cons,List.filter_cons]
    cases at_[i]==core with
    | true=>
     simp only[cond_true,if_true,List.map_cons]
     rw[ih (i+1) (s++[l[i]]) (by omega) (by rw[List.length_append,List.length_singleton];omega)]
     unfold on
     simp
    | false=>
     simp only[cond_false,Bool.false_eq_true,if_false]
     rw[ih (i+1) s (by omega) (by omega)]
     rfl
   ·simp only[ZfX,Zc7 hi',Z5 (List.getElem?_eq_getElem hi'),Option.bind_some,cond_true,decide_eq_false (show ¬(i:Int)<(at_.length:Int) by omega),cond_false,w]
    rw[ih (i+1) s (by omega) (by omega),show at_.drop i=[] by simp;omega,show at_.drop (i+1)=[] by simp;omega]
    simp[on]
 have k0:=key l.length 0 [] (by omega) (by simp)
 rw[List.drop_zero,List.drop_zero,List.nil_append] at k0
 have k1:lp (ZfX l at_ core) (0,[])=_:=k0
 unfold ZmF
 rw[k1]
 rfl
theorem ZE8 (l:List Zf) (at_:List Int) (core:Int) (h:∀x∈at_,x≠core):on l at_ core=[]:=by
 unfold on
 rw[List.filter_eq_nil_iff.2 (fun p hp=>by
  have:=h p.2 (List.of_mem_zip hp).2
  simpa using this)]
 rfl
theorem ZAL (core c:Int) (hc:c≠core):∀(l:List Zf) (at_:List Int) (i:Nat),(∀x,at_[i]? = some x->x≠core)->on l (at_.set i c) core=on l at_ core
 | [],_,_,_=>by simp[on]
 | s :: l,[],i,h=>by simp[on]
 | s :: l,x :: at_,0,h=>by
  have hx:=h x rfl
  simp[on,hx,hc]
 | s :: l,x :: at_,i+1,h=>by
  have ih:=ZAL core c hc l at_ i (fun y hy=>h y (by simpa using hy))
  unfold on at *
  rw[List.set_cons_succ,List.zip_cons_cons,List.zip_cons_cons,List.filter_cons,List.filter_cons]
  cases hx:(x==core) with
  | true=>simp only[if_true,List.map_cons,ih]
  | false=>simp only[Bool.false_eq_true,if_false,ih]
def ZjD (n:Int):Bool:=decide (0<=n)&&decide (n<=8)
theorem Zzz (n:Int):Zib n=some (ZjD n):=by
 unfold Zib ZjD
 cases decide (0<=n)<;>cases decide (n<=8)<;>rfl
structure ZzS (l:List Zf) (at_:List Int) (c:Int):Prop where
 cc:0<=c/\c<=8
 len:at_.length=l.length
 ok:∀x∈at_,0<=x/\x<c
 fit:∀core:Nat,(core:Int)<c->Zrb (on l at_ core)=true
noncomputable def ZmV (l:List Zf) (at_:List Int) (i:Nat) (core:Nat):Bool:=Zrb (on l (at_.set i (core:Int)) (core:Int))
noncomputable def least (l:List Zf) (at_:List Int) (i:Nat):Nat->Nat->Option Nat
 | _,0=>none
 | core,k+1=>bif ZmV l at_ i core then some core else least l at_ i (core+1) k
theorem ZyI (l:List Zf) (at_:List Int) (i:Nat) (x:Int) (core:Nat):ZmV l (at_.set i x) i core=ZmV l at_ i core:=by
 unfold ZmV
 rw[List.set_set]
theorem ZtV (l:List Zf) (at_:List Int) (i:Nat) (x:Int):∀(k core:Nat),least l (at_.set i x) i core k=least l at_ i core k
 | 0,_=>rfl
 | k+1,core=>by unfold least;rw[ZyI,ZtV l at_ i x k]
theorem Zsb {l:List Zf}{at_:List Int}{i c:Nat}:∀{k core:Nat},least l at_ i core k=some c->core<=c/\c<core+k/\ZmV l at_ i c=true/\∀b,core<=b->b<c->ZmV l at_ i b=false
 | 0,_,h=>by cases h
 | k+1,core,h=>by
  unfold least at h
  cases hf:ZmV l at_ i core with
  | true=>
   rw[hf] at h
   cases h
   exact⟨Nat.le_refl _,by omega,hf,fun b h1 h2=>by omega⟩
  | false=>
   rw[hf] at h
   obtain⟨h1,h2,h3,h4⟩:=Zsb h
   refine⟨by omega,by omega,h3,fun b hb1 hb2=>?_⟩
   by_cases he:b=core
   ·rw[he];exact hf
   ·exact h4 b (by omega) hb2
theorem Zq5 {l:List Zf}{at_:List Int}{i c:Nat}:∀{k core:Nat},least l at_ i core k=some c->least l at_ i core (k+1)=some c
 | 0,_,h=>by cases h
 | k+1,core,h=>by
  unfold least at h ⊢
  cases hf:ZmV l at_ i core with
  | true=>rw[hf] at h;exact h
  | false=>rw[hf] at h;exact Zq5 h
noncomputable def Zhp (l:List Zf) (n:Nat):List Int->List Int->Option (List Int)
 | [],at_=>some at_
 | i :: o,at_=>match least l at_ i.toNat 0 n with | some c=>Zhp l n o (at_.set i.toNat (c:Int)) | none=>none
theorem ZFz (l:List Zf) (hl:l.length<=1000) (n:Nat) (hn:n<=8) (i:Int) (hi:0<=i):∀(k core:Nat) (at_:List Int),core+k=n->i.toNat<at_.length->∃r,lp (ZeP l (n:Int) i) ((core:Int),at_)=some r/\(match least l at_ i.toNat core k with | some c=>r = .inl (at_.set i.toNat (c:Int)) | none=>∃m,r = .inr m):=by
 intro k
 induction k with
 | zero=>
  intro core at_ hc ha
  rw[Zap]
  simp only[ZeP,decide_eq_false (show ¬(core:Int)<(n:Int) by omega),cond_false]
  exact⟨_,rfl,_,rfl⟩
 | succ k ih=>
  intro core at_ hc ha
  rw[Zap]
  have w:w64 ((core:Int)+1)=((core+1:Nat):Int):=ZS (show core<100 by omega) (by omega)
  have g:ZE at_ i=some at_[i.toNat]:=by
   have:=Z5 (List.getElem?_eq_getElem ha)
   rwa [Int.toNat_of_nonneg hi] at this
  have f:=ZFj (on l (at_.set i.toNat (core:Int)) (core:Int)) (Nat.le_trans (ZFA _ _ _) hl)
  simp only[ZeP,decide_eq_true (show(core:Int)<(n:Int) by omega),cond_true,Zjl,g,Option.bind_some,ZHO l hl,f,w]
  unfold least
  rw[show Zrb (on l (at_.set i.toNat (core:Int)) (core:Int))=ZmV l at_ i.toNat core from rfl]
  cases ZmV l at_ i.toNat core with
  | true=>exact⟨_,rfl,rfl⟩
  | false=>
   obtain⟨r,r1,r2⟩:=ih (core+1) (at_.set i.toNat (core:Int)) (by omega) (by rw[List.length_set];exact ha)
   refine⟨r,r1,?_⟩
   rw[ZtV] at r2
   simp only[cond_false]
   cases hl2:least l at_ i.toNat (core+1) k with
   | some c=>rw[hl2] at r2;simpa [List.set_set] using r2
   | none=>rw[hl2] at r2;exact r2
theorem ZzX (l:List Zf) (hl:l.length<=1000) (n:Nat) (hn:n<=8) (o:List Int) (hol:o.length<=1000):∀(k j:Nat) (at_:List Int),j+k=o.length->at_.length=l.length->(∀x∈o,InL l x)->∃r,lp (ZeS l (n:Int) o) ((j:Int),at_)=some r/\(match Zhp l n (o.drop j) at_ with | some a=>r = .inr a | none=>∃m,r = .inl m):=by
 intro k
 induction k with
 | zero=>
  intro j at_ hj ha ho
  have:j=o.length:=by omega
  subst this
  rw[Zap,List.drop_length]
  simp only[ZeS,ZeI,cond_false]
  exact⟨_,rfl,rfl⟩
 | succ k ih=>
  intro j at_ hj ha ho
  have hj':j<o.length:=by omega
  have hx:=ho _ (List.getElem_mem hj')
  obtain⟨r,r1,r2⟩:=ZFz l hl n hn o[j] hx.1 n 0 at_ (by omega) (by rw[ha];exact hx.2)
  have r1':lp (ZeP l (n:Int) o[j]) (0,at_)=some r:=r1
  rw[Zap,List.drop_eq_getElem_cons hj']
  simp only[ZeS,Zc7 hj',Z5 (List.getElem?_eq_getElem hj'),Option.bind_some,cond_true,r1',ZS hj' (show o.length<9223372036854775808 by omega)]
  conv=>arg 1;ext;rhs;unfold Zhp
  cases hl2:least l at_ o[j].toNat 0 n with
  | some c=>
   rw[hl2] at r2
   subst r2
   obtain⟨q,q1,q2⟩:=ih (j+1) (at_.set o[j].toNat (c:Int)) (by omega) (by rw[List.length_set];exact ha) ho
   exact⟨q,q1,q2⟩
  | none=>
   rw[hl2] at r2
   obtain⟨m,rfl⟩:=r2
   exact⟨_,rfl,_,rfl⟩
theorem ZEu (l:List Zf) (hl:l.length<=1000):lp (ZeO l) (0,List.replicate (l.length:Int).toNat 0)=some (List.replicate l.length (-1)):=by
 have key:∀(k i:Nat),i+k=l.length->lp (ZeO l) ((i:Int),List.replicate i (-1)++List.replicate k 0)=some (List.replicate l.length (-1)):=by
  intro k
  induction k with
  | zero=>
   intro i hi
   have:i=l.length:=by omega
   subst this
   rw[Zap]
   simp only[ZeO,List.length_replicate,Int.toNat_natCast,ZeI,cond_false]
   simp
  | succ k ih=>
   intro i hi
   have hi':i<l.length:=by omega
   rw[Zap]
   have g:ZE (List.replicate i (-1:Int)++List.replicate (k+1) 0) (i:Int)=some 0:=Z5 (by
    rw[List.getElem?_append_right (by simp)]
    simp)
   have e:List.set (List.replicate i (-1:Int)++List.replicate (k+1) 0) i (-1)=List.replicate (i+1) (-1)++List.replicate k 0:=by
    rw[List.set_append_right _ _ (by simp),List.length_replicate,Nat.sub_self,List.replicate_succ,List.set_cons_zero,List.replicate_succ',List.append_assoc]
    rfl
   simp only[ZeO,List.length_replicate,Int.toNat_natCast,Zc7 hi',cond_true,g,Option.bind_some,ZS hi' (show l.length<9223372036854775808 by omega),e]
   exact ih (i+1) (by omega)
 have:=key l.length 0 (by omega)
 simpa using this
theorem ZDS (l:List Zf) (hl:l.length<=1000) {o:List Int} (ho:Zf4 l=some o) (h2:ZhH l o) (c:Int) :
  ZhB l c=some (bif ZgK l&&ZjD c then (match Zhp l c.toNat o (List.replicate l.length (-1)) with | some a=>(a,(0:Int)) | none=>([],161)) else ([],160)):=by
 unfold ZhB
 rw[ZBO l hl,Option.bind_some,Zzz]
 cases hc:ZgK l with
 | false=>rfl
 | true=>
  cases h8:ZjD c with
  | false=>rfl
  | true=>
   have c8:0<=c/\c<=8:=by
    unfold ZjD at h8
    simpa using h8
   have hcond:(decide (0<=(l.length:Int))&&decide ((l.length:Int)<=lim)&&decide ((l.length:Int)==(l.length:Int)))=true:=by
    have:(l.length:Int)<=lim:=by unfold lim;omega
    simp[this]
   obtain⟨r,r1,r2⟩:=ZzX l hl c.toNat (by omega) o (by rw[h2.len];exact hl) o.length 0 (List.replicate l.length (-1)) (by omega) (by simp) (fun x hx=>(h2.mem x).1 hx)
   rw[Int.toNat_of_nonneg c8.1] at r1
   have r1':lp (ZeS l c o) (0,List.replicate l.length (-1))=some r:=r1
   rw[hcond]
   simp only[cond_true,bne_self_eq_false,cond_false,Option.bind_some,ZEu l hl,ho,r1',Bool.and_self]
   rw[List.drop_zero] at r2
   cases hp:Zhp l c.toNat o (List.replicate l.length (-1)) with
   | some a=>rw[hp] at r2;subst r2;rfl
   | none=>rw[hp] at r2;obtain⟨m,rfl⟩:=r2;rfl
theorem Zsf {l:List Zf}{n:Nat}:∀{o at_ a:List Int},Zhp l n o at_=some a->a.length=at_.length
 | [],at_,a,h=>by cases h;rfl
 | i :: o,at_,a,h=>by
  unfold Zhp at h
  cases hl:least l at_ i.toNat 0 n with
  | none=>rw[hl] at h;cases h
  | some c=>
   rw[hl] at h
   have:=Zsf (at_:=at_.set i.toNat (c:Int)) h
   rwa [List.length_set] at this
structure ZBu (l:List Zf) (n:Nat) (at_:List Int) (o:List Int):Prop where
 len:at_.length=l.length
 fit:∀core:Nat,core<n->Zrb (on l at_ core)=true
 left:∀i∈o,InL l i/\at_[i.toNat]? = some (-1)
 nodup:o.Nodup
 rest:∀(j:Nat) (x:Int),at_[j]? = some x->(0<=x/\x<n)∨(x = -1/\(j:Int)∈o)
theorem ZCf {l:List Zf}{n c:Nat}{at_ o:List Int}{i:Int} (h:ZBu l n at_ (i :: o)) (hc:least l at_ i.toNat 0 n=some c):ZBu l n (at_.set i.toNat (c:Int)) o:=by
 obtain⟨_,h2,h3,_⟩:=Zsb hc
 obtain⟨hi,hm⟩:=h.left i (by simp)
 have hnd:=List.nodup_cons.1 h.nodup
 refine⟨by rw[List.length_set];exact h.len,fun core hcore=>?_,fun k hk=>?_,hnd.2,fun j x hx=>?_⟩
 ·by_cases he:core=c
  ·subst he;exact h3
  ·rw[ZAL (core:Int) (c:Int) (by omega) l at_ i.toNat (fun x hx=>by rw[hm] at hx;cases hx;omega)]
   exact h.fit core hcore
 ·obtain⟨g1,g2⟩:=h.left k (by simp[hk])
  refine⟨g1,?_⟩
  have hne:k≠i:=fun e=>hnd.1 (e ▸ hk)
  rw[List.getElem?_set_ne (by have:=g1.1;have:=hi.1;omega)]
  exact g2
 ·by_cases he:j=i.toNat
  ·subst he
   have hlt:i.toNat<at_.length:=by rw[h.len];exact hi.2
   rw[List.getElem?_set_self hlt] at hx
   cases hx
   left;omega
  ·rw[List.getElem?_set_ne (Ne.symm he)] at hx
   rcases h.rest j x hx with g | ⟨g1,g2⟩
   ·exact .inl g
   ·rcases List.mem_cons.1 g2 with e | e
    ·exact absurd (by omega) he
    ·exact .inr ⟨g1,e⟩
theorem ZxX {l:List Zf}{n:Nat}:∀{o at_ a:List Int},ZBu l n at_ o->Zhp l n o at_=some a->ZBu l n a []
 | [],at_,a,h,hp=>by cases hp;exact h
 | i :: o,at_,a,h,hp=>by
  unfold Zhp at hp
  cases hl:least l at_ i.toNat 0 n with
  | none=>rw[hl] at hp;cases hp
  | some c=>
   rw[hl] at hp
   exact ZxX (ZCf h hl) hp
theorem ZBh {l:List Zf}{o:List Int} (n:Nat) (ho:ZhH l o):ZBu l n (List.replicate l.length (-1)) o:=by
 refine⟨by simp,fun core hc=>?_,fun i hi=>?_,ho.nodup,fun j x hx=>?_⟩
 ·rw[ZE8 l _ core (fun x hx=>by have:=(List.mem_replicate.1 hx).2;omega)]
  exact ZAq
 ·have:=(ho.mem i).1 hi
  exact⟨this,by rw[List.getElem?_replicate,if_pos this.2]⟩
 ·rw[List.getElem?_replicate] at hx
  split at hx
  ·rename_i hj
   cases hx
   refine .inr ⟨rfl,(ho.mem _).2 ⟨by omega,by simpa using hj⟩⟩
  ·cases hx
theorem Zvd {l:List Zf}{o a:List Int}{c:Int} (hc:ZjD c=true) (ho:ZhH l o) (h:Zhp l c.toNat o (List.replicate l.length (-1))=some a):ZzS l a c:=by
 have c8:0<=c/\c<=8:=by unfold ZjD at hc;simpa using hc
 have inv:=ZxX (ZBh c.toNat ho) h
 refine⟨c8,inv.len,fun x hx=>?_,fun core hcore=>inv.fit core (by omega)⟩
 obtain⟨j,hj⟩:=List.getElem?_of_mem hx
 rcases inv.rest j x hj with g | ⟨_,g⟩
 ·omega
 ·cases g
theorem Zs3 {l:List Zf}{n:Nat}:∀{o at_ a:List Int},Zhp l n o at_=some a->Zhp l (n+1) o at_=some a
 | [],at_,a,h=>h
 | i :: o,at_,a,h=>by
  unfold Zhp at h ⊢
  cases hl:least l at_ i.toNat 0 n with
  | none=>rw[hl] at h;cases h
  | some c=>
   rw[hl] at h
   rw[Zq5 hl]
   exact Zs3 h
theorem Zya:((0:Int) != 0)=false:=rfl
theorem ZCZ {n:Int} (h:n≠0):(n != 0)=true:=bne_iff_ne.2 h
def Zb4 {α:Type} (f:α->Int):List α->Int
 | []=>0
 | x :: l=>bif f x==0 then Zb4 f l else f x
theorem ZpZ {α:Type}{f:α->Int}:∀{l:List α},Zb4 f l=0↔∀x∈l,f x=0
 | []=>by simp[Zb4]
 | x :: l=>by
  unfold Zb4
  by_cases h:f x=0
  ·rw[show(f x==0)=true from beq_iff_eq.2 h,cond_true,ZpZ]
   simp[h]
  ·rw[show(f x==0)=false from beq_eq_false_iff_ne.2 h,cond_false]
   simp[h]
noncomputable def ZmP (d:Zq):Zf×Int:=match Zfa d with | some x=>x | none=>(⟨0,0,0,0,0⟩,1)
theorem ZET {d:Zq} (hz:Zji d):Zfa d=some (ZmP d):=by
 unfold ZmP
 rcases ZDQ hz with⟨s,h,_⟩ | ⟨_,_,_,F,M,r,_,h⟩<;>rw[h]
noncomputable def shL (l:List Zq):List Zf:=l.map fun d=>(ZmP d).1
noncomputable def shE (l:List Zq):Int:=bif Zb4 (fun d=>(ZmP d).2) l==0 then Zb4 (fun s=>(Zdl s).2) (shL l) else Zb4 (fun d=>(ZmP d).2) l
theorem Zmj {α:Type}{f:α->Int}:∀{l:List α}{x:α},Zb4 f l=0->Zb4 f (l++[x])=f x
 | [],x,_=>by
  show(bif f x==0 then 0 else f x)=f x
  by_cases h:f x=0
  ·rw[h];rfl
  ·rw[show(f x==0)=false from beq_eq_false_iff_ne.2 h];rfl
 | y :: l,x,h=>by
  unfold Zb4 at h
  show(bif f y==0 then Zb4 f (l++[x]) else f y)=f x
  by_cases hy:f y=0
  ·rw[show(f y==0)=true from beq_iff_eq.2 hy,cond_true] at h ⊢
   exact Zmj h
  ·rw[show(f y==0)=false from beq_eq_false_iff_ne.2 hy] at h
   exact absurd h hy
theorem ZnB {α:Type}{f:α->Int}:∀{l m:List α},Zb4 f l≠0->Zb4 f (l++m)=Zb4 f l
 | [],m,h=>absurd rfl h
 | y :: l,m,h=>by
  show(bif f y==0 then Zb4 f (l++m) else f y)=(bif f y==0 then Zb4 f l else f y)
  unfold Zb4 at h
  by_cases hy:f y=0
  ·rw[show(f y==0)=true from beq_iff_eq.2 hy,cond_true] at h ⊢
   rw[cond_true,ZnB h]
  ·rw[show(f y==0)=false from beq_eq_false_iff_ne.2 hy];rfl
theorem ZA6 {l:List Zq} (hl:l.length<=1000) (hz:∀d∈l,Zji d):Zhu l=some (bif shE l==0 then shL l else [],shE l):=by
 have l0:∀(k i:Nat) ,i+k=l.length->Zb4 (fun d=>(ZmP d).2) (l.take i)=0 ->
   (Zb4 (fun d=>(ZmP d).2) l=0/\lp (Zcf l) ((i:Int),shL (l.take i))=some (.inr (shL l)))∨(Zb4 (fun d=>(ZmP d).2) l≠0/\∃x,lp (Zcf l) ((i:Int),shL (l.take i))=some (.inl (Zb4 (fun d=>(ZmP d).2) l,x))):=by
  intro k
  induction k with
  | zero=>
   intro i hi h
   have hi:i=l.length:=by omega
   subst hi
   rw[List.take_length] at h ⊢
   refine .inl ⟨h,?_⟩
   rw[Zap]
   simp only[Zcf,ZeI,cond_false]
  | succ k ih=>
   intro i hi h
   have hil:i<l.length:=by omega
   have hx:=List.getElem?_eq_getElem hil
   have hm:=List.getElem_mem hil
   have hdec:l=l.take (i+1)++l.drop (i+1):=(List.take_append_drop _ _).symm
   have ht:l.take (i+1)=l.take i++[l[i]]:=by rw[List.take_add_one,hx];rfl
   generalize l[i]=d at hx hm ht
   have hf:=Zmj (f:=fun d=>(ZmP d).2) (x:=d) h
   rw[<- ht] at hf
   have hlen:(shL (l.take i)).length<=i:=by unfold shL;rw[List.length_map,List.length_take];omega
   rw[Zap]
   simp only[Zcf,Zc7 hil,cond_true,Z5 hx,Option.bind_some,ZET (hz d hm),ZS hil (show l.length<9223372036854775808 by omega),Zij (show(shL (l.take i)).length+1<=1073741824 by omega)]
   by_cases he:(ZmP d).2=0
   ·rw[he,Zya,cond_false]
    have:=ih (i+1) (by omega) (by rw[hf];exact he)
    rw[ht] at this
    unfold shL at this ⊢
    rw[List.map_append] at this
    exact this
   ·rw[ZCZ he,cond_true]
    have hall:Zb4 (fun d=>(ZmP d).2) l=(ZmP d).2:=by
     rw[hdec,ZnB (by rw[hf];exact he),hf]
    exact .inr ⟨by rw[hall];exact he,_,by rw[hall]⟩
 have l1:∀(m:List Zf),m.length<=1000->(Zb4 (fun s=>(Zdl s).2) m=0/\lp (Zcg m) 0=some (.inr ()))∨(Zb4 (fun s=>(Zdl s).2) m≠0/\lp (Zcg m) 0=some (.inl (Zb4 (fun s=>(Zdl s).2) m))):=by
  intro m hm
  have key:∀(k i:Nat),i+k=m.length->Zb4 (fun s=>(Zdl s).2) (m.take i)=0->(Zb4 (fun s=>(Zdl s).2) m=0/\lp (Zcg m) (i:Int)=some (.inr ()))∨(Zb4 (fun s=>(Zdl s).2) m≠0/\lp (Zcg m) (i:Int)=some (.inl (Zb4 (fun s=>(Zdl s).2) m))):=by
   intro k
   induction k with
   | zero=>
    intro i hi h
    have hi:i=m.length:=by omega
    subst hi
    rw[List.take_length] at h
    refine .inl ⟨h,?_⟩
    rw[Zap]
    simp only[Zcg,ZeI,cond_false]
   | succ k ih=>
    intro i hi h
    have hil:i<m.length:=by omega
    have hx:=List.getElem?_eq_getElem hil
    have hdec:m=m.take (i+1)++m.drop (i+1):=(List.take_append_drop _ _).symm
    have ht:m.take (i+1)=m.take i++[m[i]]:=by rw[List.take_add_one,hx];rfl
    generalize m[i]=s at hx ht
    have hf:=Zmj (f:=fun s=>(Zdl s).2) (x:=s) h
    rw[<- ht] at hf
    rw[Zap]
    simp only[Zcg,Zc7 hil,cond_true,Z5 hx,Option.bind_some,Zx6,ZS hil (show m.length<9223372036854775808 by omega)]
    by_cases he:(Zdl s).2=0
    ·rw[he,Zya,cond_false]
     exact ih (i+1) (by omega) (by rw[hf];exact he)
    ·rw[ZCZ he,cond_true]
     have hall:Zb4 (fun s=>(Zdl s).2) m=(Zdl s).2:=by
      rw[hdec,ZnB (by rw[hf];exact he),hf]
     exact .inr ⟨by rw[hall];exact he,by rw[hall]⟩
  exact key m.length 0 (by omega) rfl
 unfold Zhu shE
 rcases l0 l.length 0 (by omega) rfl with⟨h1,h2⟩ | ⟨h1,x,h2⟩
 ·rw[show(lp (Zcf l) (0,([]:List Zf)))=_ from h2,Option.bind_some]
  dsimp only
  rw[h1,show((0:Int)==0)=true from rfl,cond_true]
  rcases l1 (shL l) (by unfold shL;rw[List.length_map];exact hl) with⟨h3,h4⟩ | ⟨h3,h4⟩
  ·rw[h4,h3];rfl
  ·rw[h4,show(Zb4 (fun s=>(Zdl s).2) (shL l)==0)=false from beq_eq_false_iff_ne.2 h3];rfl
 ·rw[show(lp (Zcf l) (0,([]:List Zf)))=_ from h2,Option.bind_some]
  dsimp only
  rw[show(Zb4 (fun d=>(ZmP d).2) l==0)=false from beq_eq_false_iff_ne.2 h1,cond_false,show(Zb4 (fun d=>(ZmP d).2) l==0)=false from beq_eq_false_iff_ne.2 h1]
  rfl
def hv (s:Zf):Bool:=decide (s.deadline<s.total)
noncomputable def cN (s:Zf):Nat:=(Zdl s).1.toNat
theorem ZoA {s:Zf} (h:(Zdl s).2=0):Zht s=true/\1<=(Zdl s).1/\(Zdl s).1<=8/\(hv s=false->(Zdl s).1=1):=by
 unfold Zdl at h ⊢
 unfold hv
 cases ho:Zht s with
 | false=>rw[ho] at h;exact absurd (show(140:Int)=0 from h) (by decide)
 | true=>
  rw[ho] at h
  simp only[cond_true] at h ⊢
  have o:=ZoI ho
  have o2:=o.d1;have o4:=o.t1;have o6:=o.l1;have o7:=o.l2
  by_cases q1:s.deadline<s.total
  ·rw[decide_eq_true q1] at h ⊢
   simp only[cond_true] at h ⊢
   by_cases q2:s.deadline<=s.long
   ·rw[decide_eq_true q2] at h;exact absurd (show(141:Int)=0 from h) (by decide)
   ·rw[decide_eq_false q2] at h ⊢
    simp only[cond_false] at h ⊢
    by_cases q3:8<upN s
    ·rw[decide_eq_true q3] at h;exact absurd (show(142:Int)=0 from h) (by decide)
    ·rw[decide_eq_false q3]
     simp only[cond_false]
     have h1:1<=upN s:=by
      apply Classical.byContradiction
      intro hn
      have h0:upN s<=0:=by omega
      have:=(ZEv (show s.long<s.deadline by omega) 0).1 h0
      omega
     exact⟨trivial,h1,by omega,fun e=>by cases e⟩
  ·rw[decide_eq_false q1]
   simp only[cond_false]
   exact⟨trivial,by omega,by omega,fun _=>trivial⟩
def Zoq (l:List Zf):Prop:=∀s∈l,(Zdl s).2=0
theorem Zoq.heavy {l:List Zf} (h:Zoq l) {s:Zf} (hs:s∈l):Zfc s=some (hv s):=Zyj s (ZoA (h s hs)).1
noncomputable def ZaU (l:List Zf):Nat:=((l.filter hv).map cN).sum
def Zcq (l:List Zf):List Zf:=l.filter fun s=>!hv s
def Zfx:Nat->Nat->List Int
 | _,0=>[]
 | k,n+1=>(k:Int) :: Zfx (k+1) n
theorem Zi9:∀(n k:Nat),(Zfx k n).length=n
 | 0,_=>rfl
 | n+1,k=>by unfold Zfx;rw[List.length_cons,Zi9 n]
theorem Zo8:∀(n k m:Nat),Zfx k (n+m)=Zfx k n++Zfx (k+n) m
 | 0,k,m=>by simp[Zfx]
 | n+1,k,m=>by
  rw[show n+1+m=(n+m)+1 by omega]
  show(k:Int) :: Zfx (k+1) (n+m)=(k:Int) :: Zfx (k+1) n++Zfx (k+(n+1)) m
  rw[Zo8 n (k+1) m,show k+1+n=k+(n+1) by omega,List.cons_append]
theorem Zzo {k n b:Nat} (h:n<=b):(Zfx k b).take n=Zfx k n/\(Zfx k b).drop n=Zfx (k+n) (b-n):=by
 have e:=Zo8 n k (b-n)
 rw[show n+(b-n)=b by omega] at e
 have hl:=Zi9 n k
 rw[e]
 constructor
 ·rw[List.take_append_of_le_length (by omega),List.take_of_length_le (by omega)]
 ·rw[List.drop_append_of_le_length (by omega),List.drop_of_length_le (by omega)]
  rfl
theorem Zv6 (n:Int):Zdn n=Zfx 0 n.toNat:=by
 unfold Zdn
 generalize n.toNat=m
 induction m with
 | zero=>rfl
 | succ m ih=>
  rw[List.range_succ,List.map_append,ih,Zo8 m 0 1]
  simp[Zfx]
noncomputable def Zc2:Nat->List Zf->List (List Int)
 | _,[]=>[]
 | k,s :: l=>bif hv s then Zfx k (cN s) :: Zc2 (k+cN s) l else [] :: Zc2 k l
theorem ZmG:∀(l:List Zf) (k:Nat),(Zc2 k l).length=l.length
 | [],_=>rfl
 | s :: l,k=>by unfold Zc2;cases hv s<;>simp[ZmG l]
theorem Znn (s:Zf) (l:List Zf):ZaU (s :: l)=(bif hv s then cN s else 0)+ZaU l:=by
 unfold ZaU
 rw[List.filter_cons]
 cases hv s<;>simp
theorem Ztf (p q:List Zf):ZaU (p++q)=ZaU p+ZaU q:=by
 unfold ZaU
 rw[List.filter_append,List.map_append,List.sum_append]
theorem Zrd (k:Nat) (s:Zf) (l:List Zf):Zc2 k (s :: l)=bif hv s then Zfx k (cN s) :: Zc2 (k+cN s) l else [] :: Zc2 k l:=rfl
theorem Zpw:∀(p:List Zf) (k:Nat) (q:List Zf),Zc2 k (p++q)=Zc2 k p++Zc2 (k+ZaU p) q
 | [],k,q=>by simp[Zc2,ZaU]
 | s :: p,k,q=>by
  rw[List.cons_append]
  rw[Zrd,Zrd,Znn]
  cases hv s with
  | true=>
   simp only[cond_true,List.cons_append]
   rw[Zpw p,Nat.add_assoc]
  | false=>
   simp only[cond_false,List.cons_append,Nat.zero_add]
   rw[Zpw p]
def ZkS (first:Int):List Zf->List (List Int)->List Int->List (List Int)
 | s :: l,r :: rs,at_=>bif hv s then r :: ZkS first l rs at_ else (match at_ with | a :: ar=>[first+a] :: ZkS first l rs ar | []=>r :: ZkS first l rs [])
 | _,rs,_=>rs
theorem Zxs {f:Int}{z:Zf}{l:List Zf}{r:List Int}{rs:List (List Int)}{a:Int}{ar:List Int} (h:hv z=false):ZkS f (z :: l) (r :: rs) (a :: ar)=[f+a] :: ZkS f l rs ar:=by
 show(bif hv z then _ else _)=_
 rw[h];rfl
theorem ZCL {s:List Zf} (hs:s.length<=8) (ok:Zoq s) {x:List Zf×Int} (hx:x.1=s) {b:Nat} (hb:b<=8) :
  (ZaU s<=b/\lp (Zcz x) (0,Zfx 0 b,([]:List Zf),List.replicate s.length ([]:List Int))=some (.inr (Zfx (ZaU s) (b-ZaU s),Zcq s,Zc2 0 s))) ∨
  (b<ZaU s/\∃y,lp (Zcz x) (0,Zfx 0 b,([]:List Zf),List.replicate s.length ([]:List Int))=some (.inl y)):=by
 have key:∀(k i:Nat),i+k=s.length->ZaU (s.take i)<=b ->
   (ZaU s<=b/\lp (Zcz x) ((i:Int),Zfx (ZaU (s.take i)) (b-ZaU (s.take i)),Zcq (s.take i),Zc2 0 (s.take i)++List.replicate (s.length-i) ([]:List Int))=some (.inr (Zfx (ZaU s) (b-ZaU s),Zcq s,Zc2 0 s))) ∨
   (b<ZaU s/\∃y,lp (Zcz x) ((i:Int),Zfx (ZaU (s.take i)) (b-ZaU (s.take i)),Zcq (s.take i),Zc2 0 (s.take i)++List.replicate (s.length-i) ([]:List Int))=some (.inl y)):=by
  intro k
  induction k with
  | zero=>
   intro i hi hu
   have hi:i=s.length:=by omega
   subst hi
   rw[List.take_length] at hu ⊢
   refine .inl ⟨hu,?_⟩
   rw[Zap]
   simp only[Zcz,hx,ZeI,cond_false,Nat.sub_self,List.replicate_zero,List.append_nil]
  | succ k ih=>
   intro i hi hu
   have hil:i<s.length:=by omega
   have hx':=List.getElem?_eq_getElem hil
   have hm:=List.getElem_mem hil
   have ht:s.take (i+1)=s.take i++[s[i]]:=by rw[List.take_add_one,hx'];rfl
   have hdec:s=s.take (i+1)++s.drop (i+1):=(List.take_append_drop _ _).symm
   generalize s[i]=z at hx' hm ht
   obtain⟨c0,c1,c8,c2⟩:=ZoA (ok z hm)
   have hlen:(s.take i).length=i:=by rw[List.length_take];omega
   have hrl:(Zc2 0 (s.take i)).length=i:=by rw[ZmG,hlen]
   have hrep:List.replicate (s.length-i) ([]:List Int)=[] :: List.replicate (s.length-(i+1)) []:=by
    rw[show s.length-i=(s.length-(i+1))+1 by omega];rfl
   have hget:(Zc2 0 (s.take i)++List.replicate (s.length-i) ([]:List Int))[i]? = some []:=by
    rw[List.getElem?_append_right (by omega),hrl,Nat.sub_self,hrep];rfl
   have hset:∀r:List Int,(Zc2 0 (s.take i)++List.replicate (s.length-i) ([]:List Int)).set i r=(Zc2 0 (s.take i)++[r])++List.replicate (s.length-(i+1)) []:=fun r=>by
    rw[List.set_append_right _ _ (by omega),hrl,Nat.sub_self,hrep,List.set_cons_zero,List.append_assoc]
    rfl
   have hrow:=Zpw (s.take i) 0 [z]
   have husd:=Ztf (s.take i) [z]
   have hlg:Zcq (s.take (i+1))=Zcq (s.take i)++(bif hv z then [] else [z]):=by
    unfold Zcq
    rw[ht,List.filter_append]
    cases hz:hv z<;>simp[hz]
   have hll:(Zcq (s.take i)).length<=8:=Nat.le_trans (List.length_filter_le _ _) (by omega)
   rw[<- ht] at hrow husd
   rw[Nat.zero_add] at hrow
   have hus:ZaU s=ZaU (s.take (i+1))+ZaU (s.drop (i+1)):=by rw[<- Ztf,<- hdec]
   have hnx:=ih (i+1) (by omega)
   rw[Zap]
   simp only[Zcz,hx,Zc7 hil,cond_true,Z5 hx',Option.bind_some,ok.heavy hm,ZS hil (show s.length<9223372036854775808 by omega)]
   cases hz:hv z with
   | true=>
    have e1:ZaU [z]=cN z:=by rw[Znn,hz];simp[ZaU]
    have e2:Zc2 (ZaU (s.take i)) [z]=[Zfx (ZaU (s.take i)) (cN z)]:=by unfold Zc2;rw[hz];rfl
    have hcn:((Zdl z).1:Int).toNat=cN z:=rfl
    rw[e1] at husd
    rw[e2] at hrow
    simp only[cond_true,Zx6,Option.bind_some,ZlE,decide_eq_true (show(0:Int)<=(Zdl z).1 by omega),decide_eq_true (show(Zdl z).1<=1000 by omega),Bool.and_self,hcn,Zi9]
    by_cases hle:cN z<=b-ZaU (s.take i)
    ·obtain⟨q1,q2⟩:=Zzo (k:=ZaU (s.take i)) hle
     rw[Nat.ble_eq_true_of_le hle]
     simp only[cond_true,Option.bind_some,Z5 hget,q1,q2,Int.toNat_natCast,hset]
     rw[hlg,hz,hrow,husd,show b-(ZaU (s.take i)+cN z)=b-ZaU (s.take i)-cN z by omega] at hnx
     simp only[cond_true,List.append_nil] at hnx
     exact hnx (by omega)
    ·have hb:Nat.ble (cN z) (b-ZaU (s.take i))=false:=by
      cases hq:Nat.ble (cN z) (b-ZaU (s.take i)) with
      | false=>rfl
      | true=>exact absurd (Nat.le_of_ble_eq_true hq) hle
     rw[hb]
     exact .inr ⟨by omega,_,rfl⟩
   | false=>
    have e1:ZaU [z]=0:=by rw[Znn,hz];simp[ZaU]
    have e2:Zc2 (ZaU (s.take i)) [z]=[[]]:=by unfold Zc2;rw[hz];rfl
    rw[e1,Nat.add_zero] at husd
    rw[e2] at hrow
    simp only[cond_false,Zij (show(Zcq (s.take i)).length+1<=1073741824 by omega),cond_true]
    rw[hlg,hz,hrow,husd] at hnx
    simp only[cond_false] at hnx
    rw[hrep,show Zc2 0 (s.take i)++[] :: List.replicate (s.length-(i+1)) ([]:List Int)=(Zc2 0 (s.take i)++[[]])++List.replicate (s.length-(i+1)) [] by rw[List.append_assoc];rfl]
    exact hnx hu
 have:=key s.length 0 (by omega) (by simp[ZaU])
 simpa [ZaU,Zcq,Zc2] using this
theorem Zy9 {s:List Zf} (hs:s.length<=8) (ok:Zoq s) {x:List Zf×Int} (hx:x.1=s) {b used:Nat} (hub:used<=b) (hb:b<=8) {r8:List Int×List Zf×List (List Int)} (hr:r8.1.length=b-used) :
  ∀(t:List Zf) (rest done:List (List Int)) (at_:List Int),s.drop done.length=t->done.length+t.length=s.length->rest.length=t.length->at_.length=(Zcq t).length->(∀a∈at_, -1<=a/\a<=8) ->
   lp (ZdV (b:Int) x r8) (at_,(done.length:Int),done++rest)=some (done++ZkS (used:Int) t rest at_):=by
 intro t
 induction t with
 | nil=>
  intro rest done at_ hd hl hrl hal ha
  have hr0:rest=[]:=List.eq_nil_of_length_eq_zero hrl
  subst hr0
  have hdl:done.length=s.length:=by simpa using hl
  rw[Zap]
  simp only[ZdV,hx,hdl,ZeI,cond_false,ZkS]
 | cons z t ih=>
  intro rest done at_ hd hl hrl hal ha
  rw[List.length_cons] at hl
  have hil:done.length<s.length:=by omega
  have hz':s[done.length]? = some z:=by
   have:=List.getElem?_drop (xs:=s) (i:=done.length) (j:=0)
   rw[hd] at this
   simpa using this.symm
  have hm:=List.mem_of_getElem? hz'
  have hd':s.drop (done.length+1)=t:=by
   rw[<- List.drop_drop,hd];rfl
  cases rest with
  | nil=>cases hrl
  | cons r rest=>
  have hget:(done++r :: rest)[done.length]? = some r:=by rw[List.getElem?_append_right (Nat.le_refl _),Nat.sub_self];rfl
  rw[Zap]
  simp only[ZdV,hx,Zc7 hil,cond_true,Z5 hz',Option.bind_some,ok.heavy hm,ZS hil (show s.length<9223372036854775808 by omega)]
  have hll:Zcq (z :: t)=bif hv z then Zcq t else z :: Zcq t:=by
   unfold Zcq
   rw[List.filter_cons]
   cases hv z<;>rfl
  cases hz:hv z with
  | true=>
   rw[hz,cond_true] at hll
   rw[cond_true]
   have:=ih rest (done++[r]) at_ (by rw[List.length_append,List.length_singleton];exact hd') (by rw[List.length_append,List.length_singleton];omega) (by simpa using hrl) (by rw[hal,hll]) ha
   rw[List.length_append,List.length_singleton,List.append_assoc,List.append_assoc] at this
   unfold ZkS
   rw[hz]
   exact this
  | false=>
   rw[hz,cond_false] at hll
   rw[cond_false]
   cases at_ with
   | nil=>rw[hll] at hal;cases hal
   | cons a ar=>
    have ha0:=ha a (by simp)
    have hw0:w64 ((b:Int)-(r8.1.length:Int))=(used:Int):=by
     rw[hr,ZaL (by omega) (by omega)];omega
    have hw:w64 (w64 ((b:Int)-(r8.1.length:Int))+a)=(used:Int)+a:=by
     rw[hw0,ZaL (by omega) (by omega)]
    have g0:ZE (a :: ar) 0=some a:=rfl
    have hb1:Nat.ble 1 (a :: ar).length=true:=Nat.ble_eq_true_of_le (by simp)
    simp only[g0,Option.bind_some,hb1,cond_true,Z5 hget,hw,Int.toNat_natCast]
    have hset:(done++r :: rest).set done.length [(used:Int)+a]=(done++[[(used:Int)+a]])++rest:=by
     rw[List.set_append_right _ _ (Nat.le_refl _),Nat.sub_self,List.set_cons_zero,List.append_assoc];rfl
    rw[hset]
    have:=ih rest (done++[[(used:Int)+a]]) ar (by rw[List.length_append,List.length_singleton];exact hd') (by rw[List.length_append,List.length_singleton];omega) (by simpa using hrl) (by rw[hll] at hal;simpa using hal) (fun y hy=>ha y (by simp[hy]))
    rw[List.length_append,List.length_singleton,List.append_assoc] at this
    rw[Zxs hz,List.append_assoc]
    rw[List.append_assoc] at this
    exact this
noncomputable def ZDC (l:List Zf):List Int:=match Zf4 l with | some o=>o | none=>[]
theorem ZzT {l:List Zf} (hl:l.length<=1000):Zf4 l=some (ZDC l)/\ZhH l (ZDC l):=by
 obtain⟨o,h1,h2⟩:=ZzI l hl
 unfold ZDC
 rw[h1]
 exact⟨rfl,h2⟩
noncomputable def ZlW (l:List Zf) (n:Nat):Option (List Int):=Zhp l n (ZDC l) (List.replicate l.length (-1))
theorem ZpN {s:List Zf} (hs:s.length<=8) (ok:Zoq s):ZgK (Zcq s)=true:=by
 have h8:(Zcq s).length<=8:=Nat.le_trans (List.length_filter_le _ _) hs
 unfold ZgK
 rw[decide_eq_false (by omega)]
 rw[show((Zcq s).any fun s=>!(okS s))=false from List.any_eq_false.2 fun z hz=>by
  obtain⟨h1,h2⟩:=List.mem_filter.1 hz
  have h3:=(ZoA (ok z h1)).1
  unfold hv at h2
  unfold okS
  rw[h3,Bool.true_and]
  simpa using h2]
 rfl
theorem Zt2 {s:List Zf} (hs:s.length<=8) (ok:Zoq s) {n:Nat} (hn:n<=8):ZhB (Zcq s) (n:Int)=some (match ZlW (Zcq s) n with | some a=>(a,0) | none=>([],161)):=by
 have hl:(Zcq s).length<=1000:=Nat.le_trans (List.length_filter_le _ _) (by omega)
 obtain⟨h1,h2⟩:=ZzT hl
 rw[ZDS (Zcq s) hl h1 h2 (n:Int),ZpN hs ok]
 have h8:ZjD (n:Int)=true:=by unfold ZjD;rw[decide_eq_true (by omega),decide_eq_true (by omega)];rfl
 rw[h8,Int.toNat_natCast]
 rfl
def ZAk:Zhw:=⟨[],[]⟩
noncomputable def Zkv (s:List Zf) (b:Nat):Option Zhw:=bif Nat.ble (ZaU s) b then (match ZlW (Zcq s) (b-ZaU s) with | some a=>some ⟨s,ZkS (ZaU s:Int) s (Zc2 0 s) a⟩ | none=>none) else none
noncomputable def Zxk (l:List Zq) (b:Int):Zhw×Int:=
 bif decide (8<(l.length:Int)) || (decide (b<1) || decide (8<b)) then (ZAk,170)
 else bif shE l==0 then (match Zkv (shL l) b.toNat with | some p=>(p,0) | none=>(ZAk,171)) else (ZAk,shE l)
theorem ZAy {l:List Zq} (h:shE l=0):Zoq (shL l):=by
 unfold shE at h
 cases h1:Zb4 (fun d=>(ZmP d).2) l==0 with
 | true=>rw[h1,cond_true] at h;exact ZpZ.1 h
 | false=>rw[h1,cond_false] at h;rw[h] at h1;cases h1
theorem ZyL {l:List Zf}{n:Nat}{a:List Int} (hl:l.length<=1000) (hc:ZgK l=true) (hn:n<=8) (h:ZlW l n=some a):ZzS l a (n:Int)/\a.length=l.length:=by
 obtain⟨h1,h2⟩:=ZzT hl
 have h8:ZjD (n:Int)=true:=by unfold ZjD;rw[decide_eq_true (by omega),decide_eq_true (by omega)];rfl
 have r:=Zvd (c:=(n:Int)) h8 h2 (by rw[Int.toNat_natCast];exact h)
 refine⟨r,?_⟩
 have:=Zsf h
 rw[this,List.length_replicate]
theorem ZDf {l:List Zq} (hl:l.length<=1000) (hz:∀d∈l,Zji d) (b:Int):Zg2 l b=some (Zxk l b):=by
 unfold Zg2 Zxk
 by_cases h8:8<(l.length:Int)
 ·rw[decide_eq_true h8];rfl
 rw[decide_eq_false h8,cond_false,Bool.false_or]
 by_cases b1:b<1
 ·rw[decide_eq_true b1];rfl
 rw[decide_eq_false b1,cond_false,Bool.false_or]
 by_cases b8:8<b
 ·rw[decide_eq_true b8];rfl
 rw[decide_eq_false b8,cond_false,cond_false,ZA6 hl hz,Option.bind_some]
 dsimp only
 by_cases he:shE l=0
 ·have ok:=ZAy he
  have hsl:(shL l).length<=8:=by unfold shL;rw[List.length_map];omega
  rw[he,show((0:Int)==0)=true from rfl,cond_true,Zya,cond_false]
  have hbn:((b.toNat:Nat):Int)=b:=Int.toNat_of_nonneg (by omega)
  have hlim:(decide (0<=((shL l).length:Int))&&decide (((shL l).length:Int)<=lim)&&decide (((shL l).length:Int)==((shL l).length:Int)))=true:=by
   rw[decide_eq_true (by omega),beq_self_eq_true]
   have:((shL l).length:Int)<=lim:=by show((shL l).length:Int)<=1073741824;omega
   rw[decide_eq_true this];rfl
  rw[hlim,cond_true]
  have hfree:ZiT b=some ():=by unfold ZiT;rw[decide_eq_true (by omega),decide_eq_true (by omega)];rfl
  rw[hfree,Option.bind_some,Zv6,Int.toNat_natCast,cond_true]
  unfold Zkv
  rcases ZCL (x:=(shL l,0)) hsl ok rfl (b:=b.toNat) (by omega) with⟨q1,q2⟩ | ⟨q1,y,q2⟩
  ·rw[q2,Option.bind_some,Nat.ble_eq_true_of_le q1,cond_true]
   dsimp only
   rw[Zi9,Zt2 hsl ok (by omega),Option.bind_some]
   cases hp:ZlW (Zcq (shL l)) (b.toNat-ZaU (shL l)) with
   | none=>rfl
   | some a=>
    dsimp only
    rw[Zya,cond_false]
    have hll:(Zcq (shL l)).length<=8:=Nat.le_trans (List.length_filter_le _ _) hsl
    obtain⟨R,hal⟩:=ZyL (show(Zcq (shL l)).length<=1000 by omega) (ZpN hsl ok) (by omega) hp
    have:=Zy9 (x:=(shL l,0)) hsl ok rfl q1 (show b.toNat<=8 by omega) (r8:=(Zfx (ZaU (shL l)) (b.toNat-ZaU (shL l)),Zcq (shL l),Zc2 0 (shL l))) (Zi9 _ _) (shL l) (Zc2 0 (shL l)) [] a rfl (by simp) (ZmG _ _) hal (fun z hz=>by
     have:=R.ok z hz
     omega)
    rw[hbn] at this
    rw[show(lp (ZdV b (shL l,0) (Zfx (ZaU (shL l)) (b.toNat-ZaU (shL l)),Zcq (shL l),Zc2 0 (shL l))) (a,0,Zc2 0 (shL l)))=_ from this]
    rfl
  ·rw[q2]
   have:Nat.ble (ZaU (shL l)) b.toNat=false:=by
    cases hq:Nat.ble (ZaU (shL l)) b.toNat with
    | false=>rfl
    | true=>have:=Nat.le_of_ble_eq_true hq;omega
   rw[this];rfl
 ·rw[show(shE l==0)=false from beq_eq_false_iff_ne.2 he,ZCZ he];rfl
theorem ZGc (l:List Zq):∃b,Zj2 l=some b/\(b=true->l.length<=12/\∀d∈l,Zji d):=by
 have key:∀(k i:Nat),i+k=l.length->(∀d∈l.take i,few d=true) ->
   (∃r,lp (ZcM l) (i:Int)=some (.inl r))∨(∃r,lp (ZcM l) (i:Int)=some (.inr r)/\(l.length<=12->∀d∈l,few d=true)):=by
  intro k
  induction k with
  | zero=>
   intro i hi h
   have hi:i=l.length:=by omega
   subst hi
   rw[List.take_length] at h
   rw[Zap]
   simp only[ZcM,ZeI,cond_false]
   exact .inr ⟨(),trivial,fun _=>h⟩
  | succ k ih=>
   intro i hi h
   have hil:i<l.length:=by omega
   have hx:=List.getElem?_eq_getElem hil
   have ht:l.take (i+1)=l.take i++[l[i]]:=by rw[List.take_add_one,hx];rfl
   generalize l[i]=d at hx ht
   rw[Zap]
   by_cases h13:(i:Int)<13
   ·have hw:w64 ((i:Int)+1)=((i+1:Nat):Int):=by rw[ZaL (by omega) (by omega)];omega
    simp only[ZcM,Zc7 hil,cond_true,decide_eq_true h13,Z5 hx,Option.bind_some,ZFY,hw]
    cases hf:few d with
    | false=>exact .inl ⟨_,rfl⟩
    | true=>
     exact ih (i+1) (by omega) (fun e he=>by
      rw[ht] at he
      rcases List.mem_append.1 he with he | he
      ·exact h e he
      ·rw[List.mem_singleton.1 he];exact hf)
   ·simp only[ZcM,Zc7 hil,cond_true,decide_eq_false h13,cond_false]
    exact .inr ⟨(),trivial,fun h12=>by omega⟩
 unfold Zj2
 rcases key l.length 0 (by omega) (fun d hd=>by simp at hd) with⟨r,h⟩ | ⟨r,h,h2⟩
 ·rw[show lp (ZcM l) 0=_ from h]
  exact⟨false,rfl,fun e=>by cases e⟩
 ·rw[show lp (ZcM l) 0=_ from h]
  by_cases h12:(l.length:Int)<=12
  ·exact⟨true,by simp only[Option.bind_some,decide_eq_true h12];rfl,fun _=>⟨by omega,fun d hd=>ZyO (h2 (by omega) d hd)⟩⟩
  ·exact⟨false,by simp only[Option.bind_some,decide_eq_false h12];rfl,fun e=>by cases e⟩
theorem ZFX {l:List Zq} (hl:l.length<=1000) (hz:∀d∈l,Zji d):Zio l=some l:=by
 have key:∀(k i:Nat),i+k=l.length->lp (ZfF l) ((i:Int),l.take i)=some l:=by
  intro k
  induction k with
  | zero=>
   intro i hi
   have hi:i=l.length:=by omega
   subst hi
   rw[List.take_length,Zap]
   simp only[ZfF,ZeI,cond_false]
  | succ k ih=>
   intro i hi
   have hil:i<l.length:=by omega
   have hx:=List.getElem?_eq_getElem hil
   have hm:=List.getElem_mem hil
   have ht:l.take (i+1)=l.take i++[l[i]]:=by rw[List.take_add_one,hx];rfl
   generalize l[i]=d at hx ht hm
   have hlen:(l.take i).length<=1000:=by rw[List.length_take];omega
   rw[Zap]
   simp only[ZfF,Zc7 hil,cond_true,Z5 hx,Option.bind_some,ZHu d (hz d hm),Zij (show(l.take i).length+1<=1073741824 by omega),ZS hil (show l.length<9223372036854775808 by omega)]
   have:=ih (i+1) (by omega)
   rw[ht] at this
   exact this
 have:=key l.length 0 (by omega)
 unfold Zio
 rw[show lp (ZfF l) (0,([]:List Zq))=_ from this]
 rfl
theorem Zol (f:Int):∀(s:List Zf) (rs:List (List Int)) (a:List Int),(ZkS f s rs a).length=rs.length
 | [],rs,a=>by unfold ZkS;rfl
 | z :: s,[],a=>by unfold ZkS;rfl
 | z :: s,r :: rs,a=>by
  unfold ZkS
  cases hv z with
  | true=>simp only[cond_true,List.length_cons,Zol f s rs]
  | false=>
   cases a with
   | nil=>simp only[cond_false,List.length_cons,Zol f s rs]
   | cons x a=>simp only[cond_false,List.length_cons,Zol f s rs]
theorem Zs1 (f:Int):∀(s:List Zf) (rs:List (List Int)) (a:List Int),∀r∈ZkS f s rs a,r∈rs∨r.length=1
 | [],rs,a=>by unfold ZkS;exact fun r h=>.inl h
 | z :: s,[],a=>by unfold ZkS;exact fun r h=>.inl h
 | z :: s,r0 :: rs,a=>by
  unfold ZkS
  have ih:=Zs1 f s rs
  intro r h
  cases hz:hv z with
  | true=>
   rw[hz,cond_true] at h
   rcases List.mem_cons.1 h with h | h
   ·exact .inl (by rw[h];simp)
   ·rcases ih a r h with h | h
    ·exact .inl (by simp[h])
    ·exact .inr h
  | false=>
   rw[hz,cond_false] at h
   cases a with
   | nil=>
    rcases List.mem_cons.1 h with h | h
    ·exact .inl (by rw[h];simp)
    ·rcases ih [] r h with h | h
     ·exact .inl (by simp[h])
     ·exact .inr h
   | cons x a=>
    rcases List.mem_cons.1 h with h | h
    ·exact .inr (by rw[h];rfl)
    ·rcases ih a r h with h | h
     ·exact .inl (by simp[h])
     ·exact .inr h
theorem ZrG:∀(s:List Zf) (k:Nat),Zoq s->∀r∈Zc2 k s,r.length<=8
 | [],k,_=>fun r h=>by cases h
 | z :: s,k,ok=>by
  obtain⟨_,c1,c8,_⟩:=ZoA (ok z (by simp))
  intro r h
  have ih:=fun k=>ZrG s k fun y hy=>ok y (by simp[hy])
  unfold Zc2 at h
  cases hz:hv z with
  | true=>
   rw[hz,cond_true] at h
   rcases List.mem_cons.1 h with h | h
   ·rw[h,Zi9];unfold cN;omega
   ·exact ih _ r h
  | false=>
   rw[hz,cond_false] at h
   rcases List.mem_cons.1 h with h | h
   ·rw[h];simp
   ·exact ih _ r h
theorem ZpO {s:List Zf}{b:Nat}{p:Zhw} (h:Zkv s b=some p):ZaU s<=b/\∃a,ZlW (Zcq s) (b-ZaU s)=some a/\p=⟨s,ZkS (ZaU s:Int) s (Zc2 0 s) a⟩:=by
 unfold Zkv at h
 cases hu:Nat.ble (ZaU s) b with
 | false=>rw[hu] at h;cases h
 | true=>
  rw[hu,cond_true] at h
  cases hp:ZlW (Zcq s) (b-ZaU s) with
  | none=>rw[hp] at h;cases h
  | some a=>rw[hp] at h;cases h;exact⟨Nat.le_of_ble_eq_true hu,a,rfl,rfl⟩
theorem Zy3 {s:List Zf}{b:Nat} (h1:ZaU s<=b) {a:List Int} (h2:ZlW (Zcq s) (b-ZaU s)=some a):Zkv s b=some ⟨s,ZkS (ZaU s:Int) s (Zc2 0 s) a⟩:=by
 unfold Zkv
 rw[Nat.ble_eq_true_of_le h1,cond_true,h2]
theorem Zxz {s:List Zf} (ok:Zoq s) (hs:s.length<=8) {b:Nat} (hb:b<=8) {p:Zhw} (h:Zkv s b=some p):p.shapes.length<=8/\p.cores.length<=8/\∀r∈p.cores,r.length<=1000:=by
 obtain⟨_,a,_,rfl⟩:=ZpO h
 refine⟨hs,?_,fun r hr=>?_⟩
 ·show(ZkS (ZaU s:Int) s (Zc2 0 s) a).length<=8
  rw[Zol,ZmG];exact hs
 ·rcases Zs1 _ _ _ _ r hr with h | h
  ·have:=ZrG s 0 ok r h;omega
  ·omega
theorem Zz6 {x:D} (h:ZBR (.sl true [.int .i64,.int .i64,.sl true [.int .i64,.int .i64,.int .i64],.sl true [.int .i64,.int .i64],.sl true [.int .i64,.int .i64,.int .i64],.sl true [.sl false [.int .i64],.sl false [.int .i64]]]) x):∃l:List Zq,x = .list true (l.map (Zhx true)):=by
 obtain⟨l,h1,_,_⟩:=Zn7 (f:=Zhx true) (p:=fun _=>True) h fun cs hc=>by
  obtain⟨d,hd,_⟩:=ZCH hc
  exact⟨d,hd,trivial⟩
 exact⟨l,h1⟩
section
variable {α β:Type} {A B:Option α} {Q:α->Option β->Prop}
theorem yB {c:Bool}{X Y:Option β} (h1:ZdC A Q X) (h2:ZdC B Q Y):ZdC (bif c then A else B) Q (br c X Y):=ZdJ rfl h1 h2
theorem yBn {c:Bool}{X Y:Option β} (h2:ZdC B Q Y):ZdC (bif c then none else B) Q (br c X Y):=ZdJ rfl ZbQ h2
theorem yBm {c:Bool}{X Y:Option β} (h1:ZdC A Q X):ZdC (bif c then A else none) Q (br c X Y):=ZdJ rfl h1 ZbQ
theorem yT {X Y:Option β} (h1:ZdC A Q X):ZdC A Q (br true X Y):=ZrL rfl h1
theorem yF {X Y:Option β} (h1:ZdC A Q Y):ZdC A Q (br false X Y):=ZGr rfl h1
theorem yG {γ:Type}{f:γ->D}{l:List γ}{i:Int}{A:γ->Option α}{K:D->Option β} (k:∀r,ZE l i=some r->ZdC (A r) Q (K (f r))):ZdC ((ZE l i).bind A) Q (bnd (ZE (l.map f) i) K):=ZCM rfl rfl k
theorem yC {γ:Type}{Γ:Ctx}{f:Nat}{args:List V}{E:Option γ}{A:γ->Option α}{K:V->Option β}{enc:γ->D} (w:∀r,E=some r->evD Γ f args=some (enc r)) (k:∀r,E=some r->ZdC (A r) Q (Zyz (enc r) K)):ZdC (E.bind A) Q (bnd (evW Γ f args []) (ZpG K)):=ZBG enc w rfl k
theorem ZB9 {γ:Type}{x:γ}{A:γ->Option α}{X:Option β} (k:ZdC (A x) Q X):ZdC ((some x).bind A) Q X:=k
theorem yR {a:α}{f:α->Option β}:ZdC (some a) (fun r rhs=>rhs=f r) (f a):=Zk rfl
theorem yBr {a:α}{c:Bool}{f:α->Option β}{Y:Option β} (h2:ZdC B (fun r rhs=>rhs=f r) Y):ZdC (bif c then some a else B) (fun r rhs=>rhs=f r) (br c (f a) Y):=yB yR h2
theorem evT {Γ : Ctx} {f : Nat} (fn : FnI) {args : List V} {E : Option α} {enc : α -> D} (hc : Γ.code f = some fn) (hn : Nat.beq args.length fn.nargs = true) (h : ZdC E (fun r rhs => rhs = some (enc r)) (Zit Γ 0 fn.body (ZbM 0 args) [] fun x e H1 => (match x with
      | .exit _=>none
      | _=>(match ZjS e H1 fn.res with
        | some l=>Zf9 0 [Zhh l] H1 fun _ vs H2=>(match vs with | [v]=>(match fr H2 6 v with | some (x,_)=>some x | none=>none) | _=>none)
        | none=>none)))):∀r,E=some r->evD Γ f args=some (enc r):=by rw[ZD4 Γ f fn args hc hn];exact h
theorem evS {Γ : Ctx} {f : Nat} (fn : FnI) {args : List V} {H : Zl} {E : Option α} {enc : α -> V × Zl} (hc : Γ.code f = some fn) (hn : Nat.beq args.length fn.nargs = true) (h : ZdC E (fun r rhs => rhs = some (enc r)) (Zit Γ H.length fn.body (ZbM 0 args) H fun x e H1 => (match x with
      | .exit _=>none
      | _=>(match ZjS e H1 fn.res with
        | some l=>Zf9 H.length [Zhh l] H1 fun _ vs H2=>(match vs with | [v]=>some (v,H2) | _=>none)
        | none=>none)))):∀r,E=some r->evW Γ f args H=some (enc r):=by rw[ZEb Γ f fn args H hc hn];exact h
theorem lpT {S R:Type}{step:S->Option (S⊕R)}{Γ:Ctx}{k:Nat}{live outs:List Nat}{b:C}{vs:S->List V}{H:S->Zl} (x:R->Ex×List V×Zl)
    (h:∀(s:S) (rec:S->Option R),(∀s r,rec s=some r->lpW Γ k live outs b (vs s) (H s)=some (x r))->ZdC (step s) (fun t rhs=>(match t with | .inl s'=>∀r,rec s'=some r->rhs=some (x r) | .inr r=>rhs=some (x r))) (Zit Γ k b (Zex live (vs s)) (H s) fun x e H=>(match x with
      | .normal=>ZpL k (live.map e) H fun vs H=>bnd (lpW Γ k live outs b vs H) some
      | x=>Zf9 k (outs.map e) H fun _ vs H=>some (x,vs,H)))):∀s r,lp step s=some r->lpW Γ k live outs b (vs s) (H s)=some (x r):=
  ZGe (G:=fun s=>lpW Γ k live outs b (vs s) (H s)) x fun s rec ih=>by rw[ZGw];exact h s rec ih
end
theorem Zfu:∀r,Zfj=some r->evD ctx 9 []=some (D.bool r):=fun r h=>by
  cases h
  exact ZFw 100 (by kernel_rfl)
def ZsO (r:Bool):D:=(D.bool r)
def ZkG (t0:Bool) (t1:Bool) (t2:Bool) (t3:Bool) (a:Zq):(Unit⊕Unit)->Ex×List V×Zl
  | (.inl r)=>(.ret,[(.ptr 0 0),(.d (D.bool false))],[(.cells (dV t0 t1 t2 t3 a))])
  | (.inr r)=>(.exit 0,[(.ptr 0 0),.bad],[(.cells (dV t0 t1 t2 t3 a))])
theorem Zn3 {t0 t1:Bool}{t2 t3:Bool}{a:Zq}:∀(s0:Int) (r:(Unit⊕Unit)),lp (Zgq a) s0=some r->lpW ctx 0 [1,3] [1,2] ZAu [(.ptr 0 0),(zN s0)] [(.cells (dV t0 t1 t2 t3 a))]=some ((ZkG t0 t1 t2 t3 a) r):=
 lpT (ZkG t0 t1 t2 t3 a) fun s0 _ ih=>Zj (ZF _ _) (yB (yB (yG fun x1 hx1=>
  Zj (ZF _ _) (yB (Zk rfl)
  (Ze (Z4 rfl hx1) (Zj (ZF _ _) (yB (Zk rfl)
  (Zd (ih _)))))))
  (Zk rfl))
  (Zk rfl))
theorem Zr6 {t0 t1:Bool}{t2 t3:Bool}{a:Zq}:∀r,(Zj4 a)=some r->evD ctx 32 [(.d (D.agg (dA t0 t1 t2 t3 a)))]=some (ZsO r):=
 evT ZES rfl rfl <| (by
 conv=>rhs;whnf
 refine Zc _ (Zn3 _) fun r2 _=>?_
 rcases r2 with r2 | r2
 exact yR
 exact Zj (ZF _ _) (yB (Zj (ZF _ _) (yB (Zj (ZF _ _) (yB (Zj (ZF _ _) (yBr yR))
  yR))
  yR))
  yR))
def ZsA (r:Bool):D:=(D.bool r)
def Zlb (t0:Bool) (a:List Zq):(Unit⊕Unit)->Ex×List V×Zl
  | (.inl r)=>(.ret,[(.d (D.list t0 (List.map (Zhx true) a))),(.d (D.bool false))],[])
  | (.inr r)=>(.exit 0,[(.d (D.list t0 (List.map (Zhx true) a))),.bad],[])
theorem Zoa {t0:Bool}{a:List Zq}:∀(s0:Int) (r:(Unit⊕Unit)),lp (ZcM a) s0=some r->lpW ctx 0 [0,3] [0,2] ZB6 [(.d (D.list t0 (List.map (Zhx true) a))),(zN s0)] []=some ((Zlb t0 a) r):=
 lpT (Zlb t0 a) fun s0 _ ih=>Zj (ZF _ _) (yB (yB (yG fun x1 _=>
  yC Zr6 fun x2 _=>
  yB (Zd (ih _))
  (Zk rfl))
  (Zk rfl))
  (Zk rfl))
theorem Zst {t0:Bool}{a:List Zq}:∀r,(Zj2 a)=some r->evD ctx 10 [(.d (D.list t0 (List.map (Zhx true) a)))]=some (ZsA r):=
 evT ZEr rfl rfl <| (by
 conv=>rhs;whnf
 refine Zc _ (Zoa _) fun r3 _=>?_
 rcases r3 with r3 | r3
 exact yR
 exact Zj (ZF _ _) (yBr yR))
def ZsQ (t0:Bool) (t1:Bool) (t2:Bool) (t3:Bool) (a:Zq):(List Zt)->V×Zl
  | r=>((.agg [(zN a.period),(zN a.deadline),(.sl 0 3),(.sl 1 2),(.sl 2 3),(.sl 3 2)]),[(.arr 3 (List.map Zjn a.parts)),(.arr 2 (List.map ZaT a.edges)),(.arr 3 (List.map Z0 a.futures)),(.arr 2 (List.map Zc9 r))])
def ZkB (t0:Bool) (t1:Bool) (t2:Bool) (t3:Bool) (a:Zq):(List Zt)->Ex×List V×Zl
  | r=>(.exit 0,[(.ptr 0 0),(.ptr 1 0)],[(.cells [(zN 0),(zN 0),(.sl 2 3),(.sl 3 2),(.sl 4 3),(.sl 5 2)]),(.cells [(zN a.period),(zN a.deadline),(.sl 6 3),(.sl 7 2),(.sl 8 3),(.sl 9 2)]),(.arr 3 []),(.arr 2 []),(.arr 3 []),(.arr 2 []),(.arr 3 (List.map Zjn a.parts)),(.arr 2 (List.map ZaT a.edges)),(.arr 3 (List.map Z0 a.futures)),(.arr 2 (List.map Zc9 r))])
theorem ZnP {t0 t1:Bool}{t2 t3:Bool}{a:Zq}:∀(s0:Int×(List Zt)) (r:List Zt),lp (Zfv a) s0=some r->lpW ctx 0 [1,2,3,4] [2,3] ZAN [(.ptr 0 0),(.ptr 1 0),(.ptr 2 0),(zN s0.1)] [(.cells (dV t0 t1 t2 t3 a)),(.cells [(zN 0),(zN 0),(.sl 3 3),(.sl 4 2),(.sl 5 3),(.sl 6 2)]),(.cells [(zN a.period),(zN a.deadline),(.sl 7 3),(.sl 8 2),(.sl 9 3),(.sl 10 2)]),(.arr 3 []),(.arr 2 []),(.arr 3 []),(.arr 2 []),(.arr 3 (List.map Zjn a.parts)),(.arr 2 (List.map ZaT a.edges)),(.arr 3 (List.map Z0 a.futures)),(.arr 2 (List.map Zc9 s0.2))]=some ((ZkB t0 t1 t2 t3 a) r):=
 lpT (ZkB t0 t1 t2 t3 a) fun s0 _ ih=>Zj (ZF _ _) (yB (yG fun x1 hx1=>
  ZrL (Zk9 (f:=Zm) (fun _=>⟨rfl,rfl⟩) x1.ins 0) (ZdJ (Zmq Zm x1.ins) (Zj (rfl:_=List.map Zm x1.ins) (Ze (Z4 rfl hx1) (ZrL (Zk9 (f:=Zm) (fun _=>⟨rfl,rfl⟩) x1.outs 0) (ZdJ (Zmq Zm x1.outs) (Zj (rfl:_=List.map Zm x1.outs) (yT (ZdJ (Zg9 Zc9 s0.2 1) (Zj (Zg8 Zc9 s0.2 [x1]) (Zd (ih _)))
  ZbQ)))
  ZbQ))))
  ZbQ))
  (Zk rfl))
theorem Zrt {t0 t1:Bool}{t2 t3:Bool}{a:Zq}:∀r,(Zka a)=some r->evW ctx 26 [(.d (D.agg (dA t0 t1 t2 t3 a)))] []=some ((ZsQ t0 t1 t2 t3 a) r):=
 evS ZEt rfl rfl <| ZrL (Zk9 (f:=Zjn) (fun _=>⟨rfl,rfl⟩) a.parts 0) (ZdJ (Zmq Zjn a.parts) (Zj (rfl:_=List.map Zjn a.parts) (ZrL (Zk9 (f:=ZaT) (fun _=>⟨rfl,rfl⟩) a.edges 0) (ZdJ (Zmq ZaT a.edges) (Zj (rfl:_=List.map ZaT a.edges) (ZrL (Zk9 (f:=Z0) (fun _=>⟨rfl,rfl⟩) a.futures 0) (ZdJ (Zmq Z0 a.futures) (Zj (rfl:_=List.map Z0 a.futures) (Zc _ (ZnP _) fun r2 _=>
  yR))
  ZbQ)))
  ZbQ)))
  ZbQ)
def ZsP (t0:Bool) (a:List Zq):(List Zq)->V×Zl
  | r=>((.sl 0 6),[(.arr 6 (List.map (Zhx true) r))])
def ZkO (t0:Bool) (a:List Zq):(List Zq)->Ex×List V×Zl
  | r=>(.exit 0,[(.sl 0 6)],[(.arr 6 (List.map (Zhx true) r))])
theorem Zn1 {t0:Bool}{a:List Zq}:∀(s0:Int×(List Zq)) (r:List Zq),lp (ZfF a) s0=some r->lpW ctx 0 [0,3,4] [3] ZzM [(.d (D.list t0 (List.map (Zhx true) a))),(.sl 0 6),(zN s0.1)] [(.arr 6 (List.map (Zhx true) s0.2))]=some ((ZkO t0 a) r):=
 lpT (ZkO t0 a) fun s0 _ ih=>Zj (ZF _ _) (yB (yG fun x1 _=>
  Zc _ Zrt fun x2 _=>
  yT (ZdJ (Zg9 (Zhx true) s0.2 1) (Zj (Zg8 (Zhx true) s0.2 [(Zq.mk x1.period x1.deadline x1.parts x1.edges x1.futures x2)]) (Zd (ih _)))
  ZbQ))
  (Zk rfl))
theorem ZlU {t0:Bool}{a:List Zq}:∀r,(Zio a)=some r->evW ctx 12 [(.d (D.list t0 (List.map (Zhx true) a)))] []=some ((ZsP t0 a) r):=
 evS ZEX rfl rfl <| Zc _ (Zn1 _) fun r3 _=>
  yR
def Zqa (r:Bool):D:=(D.bool r)
theorem Zb5 {a b c:Int}:∀r,(ZbY a b c)=some r->evD ctx 105 [(zN a),(zN b),(zN c)]=some (Zqa r):=
 evT ZBW rfl rfl <| yB (yBr yR)
  yR
def ZsK (r:Int):D:=(Zm r)
theorem Zjo {a:Int}:∀r,(Zhj a)=some r->evD ctx 102 [(zN a)]=some (ZsK r):=
 evT ZAT rfl rfl <| yBr (yBr yR)
def ZjR (r:Int):D:=(Zm r)
theorem Zje {a:Int}:∀r,(Zdk a)=some r->evD ctx 136 [(.d (D.int .u64 a))]=some (ZjR r):=
 evT ZBy rfl rfl <| yF (yF (yF (yF (yF (yF yR)))))
def Zk8 (r:Int):D:=(Zm r)
theorem Zkx {a:Int}:∀r,(Zem a)=some r->evD ctx 103 [(.d (D.int .u64 a))]=some (Zk8 r):=
 evT ZA7 rfl rfl <| yC Zje fun x0 _=>
  yR
theorem ZGi (n:Int):0<=u64.wrap n/\u64.wrap n<18446744073709551616:=by
  have:u64.wrap n=n % 18446744073709551616:=by
    show(if (false&&decide (n % 18446744073709551616 ≥ 9223372036854775808))=true then n % 18446744073709551616-18446744073709551616 else n % 18446744073709551616)=_
    simp
  rw[this]
  omega
theorem ZHc (n:Int):∃j:Nat,j<64/\(u64.wrap n).fdiv (2 ^ (min (Int.toNat 58) u64.bits))=(j:Int):=by
  obtain⟨h1,h2⟩:=ZGi n
  have e:(2:Int) ^ (min (Int.toNat 58) u64.bits)=288230376151711744:=by decide
  rw[e,Int.fdiv_eq_ediv_of_nonneg _ (by omega)]
  refine⟨((u64.wrap n) / 288230376151711744).toNat,?_,?_⟩<;>omega
theorem ZHj:∀j:Nat,j<64->ZdD [] 1 false (.d (.rptr (ZBl.drop (j*1))))=some (.d (.int .u8 (Zu8.getD j 0))):=by
  have key:((List.range 64).all fun j=>match ZdD [] 1 false (.d (.rptr (ZBl.drop (j*1)))) with | some (.d (.int .u8 z))=>z==Zu8.getD j 0 | _=>false)=true:=by rfl
  intro j hj
  have:=List.all_eq_true.1 key j (by simpa using hj)
  split at this
  · rename_i z hz
    rw[hz,eq_of_beq this]
  · cases this
def Zip (r:Int):D:=Zm r
theorem ZhS (a:Int):∀r,ZdI a=some r->evD ctx 138 [.d (.int .u64 a)]=some (Zip r):=by
  intro r hr
  unfold ZdI at hr
  have hr:=Option.some.inj hr
  subst hr
  rw[ZD4 ctx 138 ZAK _ rfl rfl]
  by_cases h:(a==0)=true
  · conv=>lhs;whnf
    rw[h,ZDm]
    rfl
  · replace h:(a==0)=false:=by simpa using h
    obtain⟨j,hj,e⟩:=ZHc (u64.wrap ((Zp a &&& Zp (u64.wrap (0-a))).toNat:Int)*285870213051353865)
    conv=>lhs;whnf
    rw[h,ZDK]
    conv=>lhs;whnf
    refine(ZHe (by rfl)).trans ?_
    conv=>lhs;whnf
    rw[e]
    refine(ZF4 (by simp;omega)).trans ?_
    conv=>lhs;whnf
    erw [ZHj j hj]
    rfl
def Zi1 (r:Int):D:=(Zm r)
theorem ZiD {a:Int}:∀r,(ZeK a)=some r->evD ctx 104 [(.d (D.int .u64 a))]=some (Zi1 r):=
 evT ZAC rfl rfl <| yC (ZhS _) fun x0 _=>
  yR
def ZvC (r:(Int×Bool)):D:=(D.tup [(Zm r.1),(D.bool r.2)])
theorem Zoj {a:Int}:∀r,(ZkH a)=some r->evD ctx 82 [(zN a)]=some (ZvC r):=
 evT ZFB rfl rfl <| yC Zjo fun x0 _=>
  yBr (yC Zkx fun x1 _=>
  yBr (yC ZiD fun x2 _=>
  yR))
def ZsB (r:Bool):D:=(D.bool r)
theorem Zrl {a:Z1}:∀r,(Zgy a)=some r->evD ctx 107 [(.d (D.agg [(Zm a.op),(Zm a.arg),(Zm a.work)]))]=some (ZsB r):=
 evT ZAU rfl rfl <| yC Zb5 fun x0 _=>
  yB (yC Zb5 fun x1 _=>
  yB (yC Zb5 fun x2 _=>
  yBr yR)
  yR)
  yR
def ZfP (r:Int):D:=(Zm r)
def Zcn (t0:Bool) (a:List Z1):(Int⊕Unit)->Ex×List V×Zl
  | (.inl r)=>(.ret,[(zN r)],[])
  | (.inr r)=>(.exit 0,[.bad],[])
theorem Ze5 {t0:Bool}{a:List Z1}:∀(s0:Int) (r:(Int⊕Unit)),lp (Zby a (fun z0=>Zgy z0)) s0=some r->lpW ctx 0 [0,1,7,8] [4] Zx2 [(zW t0 Zjn a),(.d (D.fn 107 [])),(zN (a.length:Int)),(zN s0)] []=some ((Zcn t0 a) r):=
 lpT (Zcn t0 a) fun s0 _ ih=>yB (yG fun x1 _=>
  yC Zrl fun x2 _=>
  yB (Zk rfl)
  (Zd (ih _)))
  (Zk rfl)
theorem ZfC {t0:Bool}{a:List Z1}:∀r,(ZcX a (fun z0=>Zgy z0))=some r->evD ctx 139 [(zW t0 Zjn a),(.d (D.fn 107 []))]=some (ZfP r):=
 evT ZA9 rfl rfl <| Zj (ZF _ _) (by
 conv=>rhs;whnf
 refine Zc _ (Ze5 _) fun r3 _=>?_
 rcases r3 with r3 | r3
 exact yR
 exact yR)
def Zfh (r:Bool):D:=(D.bool r)
theorem Ze8 {t0:Bool}{a:List Z1}:∀r,(Zbz a (fun z0=>Zgy z0))=some r->evD ctx 106 [(zW t0 Zjn a),(.d (D.fn 107 []))]=some (Zfh r):=
 evT ZAw rfl rfl <| yC ZfC fun x0 _=>
  yBr yR
def ZuR (r:Bool):D:=(D.bool r)
theorem Zm0 {t0 t1:Bool}{t2 t3:Bool}{a:Zq}{b c:Int}:∀r,(Zjx a b c)=some r->evD ctx 108 [(.d (D.agg (dA t0 t1 t2 t3 a))),(zN b),(zN c)]=some (ZuR r):=
 evT ZAF rfl rfl <| yB (Zj (ZF _ _) (yC Zb5 fun x0 _=>
  yB (Zj (ZF _ _) (yC Zb5 fun x1 _=>
  yBr yR))
  yR))
  yR
def ZiA (r:Int):D:=(Zm r)
def Zfn (t0:Bool) (a:List Zr) (b:Zr):(Int⊕Unit)->Ex×List V×Zl
  | (.inl r)=>(.ret,[(zN r)],[])
  | (.inr r)=>(.exit 0,[.bad],[])
theorem Zhv {t0:Bool}{a:List Zr}{b:Zr}:∀(s0:Int) (r:(Int⊕Unit)),lp (Zcd a b) s0=some r->lpW ctx 0 [0,3,7,8] [4] ZxW [(zW t0 ZaT a),(.ptr 0 0),(zN (a.length:Int)),(zN s0)] [(.cells [(zN b.src),(zN b.dst)])]=some ((Zfn t0 a b) r):=
 lpT (Zfn t0 a b) fun s0 _ ih=>yB (yG fun x1 _=>
  yB (Zk rfl)
  (Zd (ih _)))
  (Zk rfl)
theorem Zis {t0:Bool}{a:List Zr}{b:Zr}:∀r,(Zd7 a b)=some r->evD ctx 140 [(zW t0 ZaT a),(.d (zK5 b.src b.dst))]=some (ZiA r):=
 evT ZBH rfl rfl <| Zj (ZF _ _) (by
 conv=>rhs;whnf
 refine Zc _ (Zhv _) fun r2 _=>?_
 rcases r2 with r2 | r2
 exact yR
 exact yR)
def ZhN (r:Bool):D:=(D.bool r)
theorem Ze2 {t0:Bool}{a:List Zr}{b:Zr}:∀r,(Zbp a b)=some r->evD ctx 109 [(zW t0 ZaT a),(.d (zK5 b.src b.dst))]=some (ZhN r):=
 evT ZA4 rfl rfl <| yC Zis fun x0 _=>
  yBr yR
def Zph (r:Bool):D:=(D.bool r)
theorem Zom {a:Zh}{b0 b1 b2:Int}:∀r,(Zei a b1 b2)=some r->evD ctx 110 [(.d (D.agg [(Zm a.maker),(Zm a.user),(Zm a.pos)])),(.d (D.rptr [(Zm b0),(Zm b1),(Zm b2)]))]=some (Zph r):=
 evT ZAE rfl rfl <| yB (yBr yR)
  yR
def Zej (r:Int):D:=(Zm r)
def ZbE (t0:Bool) (a:List Zh) (b0:Int) (b1:Int) (b2:Int):(Int⊕Unit)->Ex×List V×Zl
  | (.inl r)=>(.ret,[(zN r)],[])
  | (.inr r)=>(.exit 0,[.bad],[])
theorem Zds {t0:Bool}{a:List Zh}{b0 b1 b2:Int}:∀(s0:Int) (r:(Int⊕Unit)),lp (Za6 a (fun z0=>Zei z0 b1 b2)) s0=some r->lpW ctx 0 [0,1,7,8] [4] ZyB [(zW t0 Z0 a),(.d (D.fn 110 [(D.rptr [(Zm b0),(Zm b1),(Zm b2)])])),(zN (a.length:Int)),(zN s0)] []=some ((ZbE t0 a b0 b1 b2) r):=
 lpT (ZbE t0 a b0 b1 b2) fun s0 _ ih=>yB (yG fun x1 _=>
  yC Zom fun x2 _=>
  yB (Zk rfl)
  (Zd (ih _)))
  (Zk rfl)
theorem ZdR {t0:Bool}{a:List Zh}{b0 b1 b2:Int}:∀r,(Zcy a (fun z0=>Zei z0 b1 b2))=some r->evD ctx 141 [(zW t0 Z0 a),(.d (D.fn 110 [(D.rptr [(Zm b0),(Zm b1),(Zm b2)])]))]=some (Zej r):=
 evT ZBs rfl rfl <| Zj (ZF _ _) (by
 conv=>rhs;whnf
 refine Zc _ (Zds _) fun r3 _=>?_
 rcases r3 with r3 | r3
 exact yR
 exact yR)
def ZdA (r:Bool):D:=(D.bool r)
theorem Zdq {t0:Bool}{a:List Zh}{b0 b1 b2:Int}:∀r,(Za7 a (fun z0=>Zei z0 b1 b2))=some r->evD ctx 111 [(zW t0 Z0 a),(.d (D.fn 110 [(D.rptr [(Zm b0),(Zm b1),(Zm b2)])]))]=some (ZdA r):=
 evT ZzQ rfl rfl <| yC ZdR fun x0 _=>
  yBr yR
def Zut (r:Bool):D:=(D.bool r)
def ZlF (t0:Bool) (t1:Bool) (t2:Bool) (t3:Bool) (t4:Bool) (a:Zq) (b:List Int):(Unit⊕Unit)->Ex×List V×Zl
  | (.inl r)=>(.ret,[(zV t4 b),(.d (D.bool false))],[])
  | (.inr r)=>(.exit 0,[(zV t4 b),.bad],[])
theorem Zpz {t0 t1:Bool}{t2 t3 t4:Bool}{a:Zq}{b:List Int}:∀(s0:Int) (r:(Unit⊕Unit)),lp (Zg1 a b) s0=some r->lpW ctx 0 [1,2,7,8,9] [1,4] ZxZ [(zV t4 b),(.ptr 0 0),(zV t4 b),(zN (b.length:Int)),(zN s0)] [(.cells (dV t0 t1 t2 t3 a))]=some ((ZlF t0 t1 t2 t3 t4 a b) r):=
 lpT (ZlF t0 t1 t2 t3 t4 a b) fun s0 _ ih=>yB (yG fun x1 _=>
  Zj (ZF _ _) (yC Zb5 fun x2 _=>
  yB (yB (yG fun x3 _=>
  yB (Zk rfl)
  (Zd (ih _)))
  (Zd (ih _)))
  (Zk rfl)))
  (Zk rfl)
theorem Zm2 {t0 t1:Bool}{t2 t3 t4:Bool}{a:Zq}{b:List Int}:∀r,(Zjy a b)=some r->evD ctx 113 [(.d (D.agg (dA t0 t1 t2 t3 a))),(zV t4 b)]=some (Zut r):=
 evT ZCA rfl rfl <| Zj (ZF _ _) (by
 conv=>rhs;whnf
 refine Zc _ (Zpz _) fun r4 _=>?_
 rcases r4 with r4 | r4
 exact yR
 exact Zj (ZF _ _) (yBr yR))
def ZjF (r:Int):D:=(Zm r)
def ZfW (t0:Bool) (a:List Int) (b:Int):(Int⊕Unit)->Ex×List V×Zl
  | (.inl r)=>(.ret,[(zN r)],[])
  | (.inr r)=>(.exit 0,[.bad],[])
theorem ZhY {t0:Bool}{a:List Int}{b:Int}:∀(s0:Int) (r:(Int⊕Unit)),lp (ZcE a b) s0=some r->lpW ctx 0 [0,1,7,8] [4] ZBn [(zV t0 a),(zN b),(zN (a.length:Int)),(zN s0)] []=some ((ZfW t0 a b) r):=
 lpT (ZfW t0 a b) fun s0 _ ih=>yB (yG fun x1 _=>
  yB (Zk rfl)
  (Zd (ih _)))
  (Zk rfl)
theorem Zi3 {t0:Bool}{a:List Int}{b:Int}:∀r,(Zfg a b)=some r->evD ctx 76 [(zV t0 a),(zN b)]=some (ZjF r):=
 evT ZEW rfl rfl <| Zj (ZF _ _) (by
 conv=>rhs;whnf
 refine Zc _ (ZhY _) fun r2 _=>?_
 rcases r2 with r2 | r2
 exact yR
 exact yR)
def Zii (r:Bool):D:=(D.bool r)
theorem Zh2 {t0:Bool}{a:List Int}{b:Int}:∀r,(ZcD a b)=some r->evD ctx 45 [(zV t0 a),(zN b)]=some (Zii r):=
 evT ZFe rfl rfl <| yC Zi3 fun x0 _=>
  yBr yR
def ZpA (r:Bool):D:=(D.bool r)
theorem Zoh {t0 t1:Bool}{a:Int}{b0:List Int}{b1:List Int}:∀r,(Zek a b1)=some r->evD ctx 112 [(zN a),(.d (D.rptr [(zL t0 b0),(zL t1 b1)]))]=some (ZpA r):=
 evT ZCn rfl rfl <| yC Zh2 fun x0 _=>
  yBr yR
def ZfD (r:Int):D:=(Zm r)
def Zci (t0:Bool) (t1:Bool) (t2:Bool) (a:List Int) (b0:List Int) (b1:List Int):(Int⊕Unit)->Ex×List V×Zl
  | (.inl r)=>(.ret,[(zN r)],[])
  | (.inr r)=>(.exit 0,[.bad],[])
theorem ZeC {t0 t1 t2:Bool}{a:List Int}{b0:List Int}{b1:List Int}:∀(s0:Int) (r:(Int⊕Unit)),lp (ZW a (fun z0=>Zek z0 b1)) s0=some r->lpW ctx 0 [0,1,7,8] [4] ZqD [(zV t0 a),(.d (D.fn 112 [(D.rptr [(zL t1 b0),(zL t2 b1)])])),(zN (a.length:Int)),(zN s0)] []=some ((Zci t0 t1 t2 a b0 b1) r):=
 lpT (Zci t0 t1 t2 a b0 b1) fun s0 _ ih=>yB (yG fun x1 _=>
  yC Zoh fun x2 _=>
  yB (Zk rfl)
  (Zd (ih _)))
  (Zk rfl)
theorem Zfo {t0 t1 t2:Bool}{a:List Int}{b0:List Int}{b1:List Int}:∀r,(ZaD a (fun z0=>Zek z0 b1))=some r->evD ctx 142 [(zV t0 a),(.d (D.fn 112 [(D.rptr [(zL t1 b0),(zL t2 b1)])]))]=some (ZfD r):=
 evT Zv1 rfl rfl <| Zj (ZF _ _) (by
 conv=>rhs;whnf
 refine Zc _ (ZeC _) fun r3 _=>?_
 rcases r3 with r3 | r3
 exact yR
 exact yR)
def Ze3 (r:Bool):D:=(D.bool r)
theorem ZeL {t0 t1 t2:Bool}{a:List Int}{b0:List Int}{b1:List Int}:∀r,(ZaI a (fun z0=>Zek z0 b1))=some r->evD ctx 114 [(zV t0 a),(.d (D.fn 112 [(D.rptr [(zL t1 b0),(zL t2 b1)])]))]=some (Ze3 r):=
 evT Zx0 rfl rfl <| yC Zfo fun x0 _=>
  yBr yR
def Zr7 (r:Int):D:=(Zm r)
def Zj7 (t0:Bool) (t1:Bool) (t2:Bool) (t3:Bool) (a:Zq):(Unit⊕Unit)->Ex×List V×Zl
  | (.inl r)=>(.ret,[(.ptr 0 0),(zN 53)],[(.cells (dV t0 t1 t2 t3 a))])
  | (.inr r)=>(.exit 0,[(.ptr 0 0),.bad],[(.cells (dV t0 t1 t2 t3 a))])
theorem Znc {t0 t1:Bool}{t2 t3:Bool}{a:Zq}:∀(s4:Int) (r:(Unit⊕Unit)),lp (ZeT a) s4=some r->lpW ctx 0 [1,61,62,63] [1,2] ZCz [(.ptr 0 0),(zW t1 ZaT a.edges),(zN (a.edges.length:Int)),(zN s4)] [(.cells (dV t0 t1 t2 t3 a))]=some ((Zj7 t0 t1 t2 t3 a) r):=
 lpT (Zj7 t0 t1 t2 t3 a) fun s4 _ ih=>yB (yG fun x5 _=>
  yC Zm0 fun x6 _=>
  yB (yBm (ZdJ (ZA2 ZaT a.edges s4.toNat) (yT (Zj (Zu1 ZaT a.edges s4.toNat) (yC Ze2 fun x7 _=>
  yB (Zk rfl)
  (Zd (ih _)))))
  ZbQ))
  (Zk rfl))
  (Zk rfl)
def Zkb (t0:Bool) (t1:Bool) (t2:Bool) (t3:Bool) (a:Zq):(Unit⊕Unit)->Ex×List V×Zl
  | (.inl r)=>(.ret,[(.ptr 0 0),(zN 54)],[(.cells (dV t0 t1 t2 t3 a))])
  | (.inr r)=>(.exit 2,[(.ptr 0 0),.bad],[(.cells (dV t0 t1 t2 t3 a))])
theorem ZnC {t0 t1:Bool}{t2 t3:Bool}{a:Zq}:∀(s9:Int) (r:(Unit⊕Unit)),lp (ZeV a) s9=some r->lpW ctx 0 [1,85,86,87] [1,2] ZAb [(.ptr 0 0),(zW t2 Z0 a.futures),(zN (a.futures.length:Int)),(zN s9)] [(.cells (dV t0 t1 t2 t3 a))]=some ((Zkb t0 t1 t2 t3 a) r):=
 lpT (Zkb t0 t1 t2 t3 a) fun s9 _ ih=>yB (yG fun x10 _=>
  yC Zm0 fun x11 _=>
  yB (yG fun x12 _=>
  yC Zb5 fun x13 _=>
  yB (yBm (ZdJ (ZA2 Z0 a.futures s9.toNat) (yT (Zj (Zu1 Z0 a.futures s9.toNat) (yC Zdq fun x14 _=>
  yB (Zk rfl)
  (Zd (ih _)))))
  ZbQ))
  (Zk rfl))
  (Zk rfl))
  (Zk rfl)
def Zj9 (t0:Bool) (t1:Bool) (t2:Bool) (t3:Bool) (a:Zq):(Unit⊕Unit)->Ex×List V×Zl
  | (.inl r)=>(.ret,[(zN 55)],[])
  | (.inr r)=>(.exit 4,[.bad],[])
theorem Zny {t0 t1:Bool}{t2 t3:Bool}{a:Zq}:∀(s16:Int) (r:(Unit⊕Unit)),lp (ZeU a) s16=some r->lpW ctx 0 [1,124,125,126] [2] ZB4 [(.ptr 0 0),(zW t3 Zc9 a.barriers),(zN (a.barriers.length:Int)),(zN s16)] [(.cells (dV t0 t1 t2 t3 a))]=some ((Zj9 t0 t1 t2 t3 a) r):=
 lpT (Zj9 t0 t1 t2 t3 a) fun s16 _ ih=>yB (yG fun x17 _=>
  yC Zm2 fun x18 _=>
  yB (yC Zm2 fun x19 _=>
  yB (yC ZeL fun x20 _=>
  yB (Zk rfl)
  (Zd (ih _)))
  (Zk rfl))
  (Zk rfl))
  (Zk rfl)
theorem ZlG {t0 t1:Bool}{t2 t3:Bool}{a:Zq}:∀r,(ZhC a)=some r->evD ctx 84 [(.d (D.agg (dA t0 t1 t2 t3 a)))]=some (Zr7 r):=
 evT ZFq rfl rfl <| Zj (ZF _ _) (yC Zb5 fun x0 _=>
  yB (Zj (ZF _ _) (yBr (Zj (ZF _ _) (yBr (Zj (ZF _ _) (yBr (yC Zoj fun x1 _=>
  yB (yBr (yC Zb5 fun x2 _=>
  yB (yC Ze8 fun x3 _=>
  yBr (Zj (ZF _ _) (by
 conv=>rhs;whnf
 refine Zc _ (Znc _) fun r8 _=>?_
 rcases r8 with r8 | r8
 exact yR
 exact Zj (ZF _ _) (by
 conv=>rhs;whnf
 refine Zc _ (ZnC _) fun r15 _=>?_
 rcases r15 with r15 | r15
 exact yR
 exact Zj (ZF _ _) (by
 conv=>rhs;whnf
 refine Zc _ (Zny _) fun r21 _=>?_
 rcases r21 with r21 | r21
 exact yR
 exact yR)))))
  yR))
  yR)))))))
  yR)
def Znh (r:Int):D:=(Zm r)
theorem ZG {t0 t1:Bool}{t2 t3:Bool}{a b:Int}{c0 c1:Int}{c2:List Z1}{c3:List Zr}{c4:List Zh}{c5:List Zt}:∀r,(Zv a b c4)=some r->evD ctx 143 [(zN a),(zN b),(.d (D.rptr [(Zm c0),(Zm c1),(zM t0 Zjn c2),(zM t1 ZaT c3),(zM t2 Z0 c4),(zM t3 Zc9 c5)]))]=some (Znh r):=
 evT ZBZ rfl rfl <| yG fun x0 _=>
  yG fun x1 _=>
  yR
def ZmR (r:Int):D:=(Zm r)
theorem ZlX {a:Int}:∀r,(Zki a)=some r->evD ctx 154 [(.d (D.int .u64 a))]=some (ZmR r):=
 evT Zz3 rfl rfl <| yB (yF (yB (yF (yB (yF (yBm (Zig rfl fun x0 _=>
  yR)))
  (yBm (Zig rfl fun x1 _=>
  yR))))
  (yB (yF (yBm (Zig rfl fun x2 _=>
  yR)))
  (yBm (Zig rfl fun x3 _=>
  yR)))))
  (yB (yF (yB (yF (yBm (Zig rfl fun x4 _=>
  yR)))
  (yBm (Zig rfl fun x5 _=>
  yR))))
  (yB (yF (yBm (Zig rfl fun x6 _=>
  yR)))
  (yBm (Zig rfl fun x7 _=>
  yR))))
def ZnZ (r:Int):D:=(Zm r)
theorem Zhg {a:Int}:∀r,(Zgc a)=some r->evD ctx 123 [(.d (D.int .u64 a))]=some (ZnZ r):=
 evT ZBK rfl rfl <| yC ZlX fun x0 _=>
  yR
def Zd3 (t0:Bool) (t1:Bool) (t2:Bool) (t3:Bool) (b:Int) (c:Int) (mG:List Int) (mA:Int) (mE:Int) (mD:List Z1) (mF:List Zr) (mB:List Zh) (mC:List Zt):(List Int)->V×Zl
  | r=>((.d (D.tup [])),[(zA r),(zK0 mA mE t0 mD t1 mF t2 mB t3 mC)])
def Zbu (t0:Bool) (t1:Bool) (t2:Bool) (t3:Bool) (b:Int) (c:Int) (mA:Int) (mE:Int) (mD:List Z1) (mF:List Zr) (mB:List Zh) (mC:List Zt) (s0:Int×(List Int)):(List Int)->Ex×List V×Zl
  | r=>(.exit 2,[(.sl 0 1),(zN b),(zN c),(.fn 143 [(.ptr 1 0)]),(zN s0.1)],[(zA r),(zK0 mA mE t0 mD t1 mF t2 mB t3 mC)])
theorem Zdf {t0 t1:Bool}{t2 t3:Bool}{b c:Int}{mA mE:Int}{mD:List Z1}{mF:List Zr}{mB:List Zh}{mC:List Zt}{s0:Int×(List Int)}:∀(s1:Int×(List Int)) (r:List Int),lp (ZZ b (fun z0 z1=>Zv z0 z1 mB)) s1=some r->lpW ctx 2 [0,1,2,3,8,9] [0,1,2,3,8] ZuD [(.sl 0 1),(zN b),(zN c),(.fn 143 [(.ptr 1 0)]),(zN s0.1),(zN s1.1)] [(zA s1.2),(zK0 mA mE t0 mD t1 mF t2 mB t3 mC)]=some ((Zbu t0 t1 t2 t3 b c mA mE mD mF mB mC s0) r):=
 lpT (Zbu t0 t1 t2 t3 b c mA mE mD mF mB mC s0) fun s1 _ ih=>yB (yG fun x2 hx2=>
  Ze (Zi rfl hx2) (yG fun x3 hx3=>
  Ze (Zi rfl hx3) (yC ZG fun x4 _=>
  yB (Ze (Z4 rfl hx3) (Ze (Zi rfl hx3) (Ze (Z4 rfl hx2) (Ze (Zi rfl hx2) (Ze (Z4 rfl hx2) (Ze (Zi rfl hx2) (Zj (ZI Zm s1.2 s1.1.toNat x3) (yG fun x5 hx5=>
  Ze (Zi rfl hx5) (Zj (ZI Zm (List.set s1.2 s1.1.toNat x3) (w64 (s1.1-1)).toNat x2) (Zd (ih _)))))))))))
  (Zk rfl))))
  (Zk rfl)
def Zbw (t0:Bool) (t1:Bool) (t2:Bool) (t3:Bool) (b:Int) (c:Int) (mA:Int) (mE:Int) (mD:List Z1) (mF:List Zr) (mB:List Zh) (mC:List Zt):(List Int)->Ex×List V×Zl
  | r=>(.exit 0,[],[(zA r),(zK0 mA mE t0 mD t1 mF t2 mB t3 mC)])
theorem Zdg {t0 t1:Bool}{t2 t3:Bool}{b c:Int}{mA mE:Int}{mD:List Z1}{mF:List Zr}{mB:List Zh}{mC:List Zt}:∀(s0:Int×(List Int)) (r:List Int),lp (Zak b c (fun z0 z1=>Zv z0 z1 mB)) s0=some r->lpW ctx 2 [0,1,2,3,8] [] ZuO [(.sl 0 1),(zN b),(zN c),(.fn 143 [(.ptr 1 0)]),(zN s0.1)] [(zA s0.2),(zK0 mA mE t0 mD t1 mF t2 mB t3 mC)]=some ((Zbw t0 t1 t2 t3 b c mA mE mD mF mB mC) r):=
 lpT (Zbw t0 t1 t2 t3 b c mA mE mD mF mB mC) fun s0 _ ih=>yB (Zc _ (Zdf _) fun r6 _=>
  Zd (ih _))
  (Zk rfl)
theorem Zac {t0 t1:Bool}{t2 t3:Bool}{b c:Int}{mG:List Int}{mA mE:Int}{mD:List Z1}{mF:List Zr}{mB:List Zh}{mC:List Zt}:∀r,(ZY b c (fun z0 z1=>Zv z0 z1 mB) mG)=some r->evW ctx 145 [(.sl 0 1),(zN b),(zN c),(.fn 143 [(.ptr 1 0)])] [(zA mG),(zK0 mA mE t0 mD t1 mF t2 mB t3 mC)]=some ((Zd3 t0 t1 t2 t3 b c mG mA mE mD mF mB mC) r):=
 evS ZxU rfl rfl <| Zc _ (Zdg _) fun r7 _=>
  yR
def Zfl (t0:Bool) (t1:Bool) (t2:Bool) (t3:Bool) (b:Int) (c:Int) (d:Int) (mG:List Int) (mA:Int) (mE:Int) (mD:List Z1) (mF:List Zr) (mB:List Zh) (mC:List Zt):(List Int)->V×Zl
  | r=>((.d (D.tup [])),[(zA r),(zK0 mA mE t0 mD t1 mF t2 mB t3 mC)])
def Zb2 (t0:Bool) (t1:Bool) (t2:Bool) (t3:Bool) (c:Int) (d:Int) (mA:Int) (mE:Int) (mD:List Z1) (mF:List Zr) (mB:List Zh) (mC:List Zt):((List Int)⊕(List Int))->Ex×List V×Zl
  | (.inl r)=>(.exit 0,[],[(zA r),(zK0 mA mE t0 mD t1 mF t2 mB t3 mC)])
  | (.inr r)=>(.ret,[],[(zA r),(zK0 mA mE t0 mD t1 mF t2 mB t3 mC)])
theorem Zd9 {t0 t1:Bool}{t2 t3:Bool}{c d:Int}{mA mE:Int}{mD:List Z1}{mF:List Zr}{mB:List Zh}{mC:List Zt}:∀(s0:Int×(List Int)) (r:((List Int)⊕(List Int))),lp (ZJ c d (fun z0 z1=>Zv z0 z1 mB)) s0=some r->lpW ctx 2 [0,2,3,4,10] [] Zus [(.sl 0 1),(zN c),(zN d),(.fn 143 [(.ptr 1 0)]),(zN s0.1)] [(zA s0.2),(zK0 mA mE t0 mD t1 mF t2 mB t3 mC)]=some ((Zb2 t0 t1 t2 t3 c d mA mE mD mF mB mC) r):=
 lpT (Zb2 t0 t1 t2 t3 c d mA mE mD mF mB mC) fun s0 _ ih=>yB (Zk rfl)
  (yB (yG fun x1 hx1=>
  Ze (Zi rfl hx1) (yG fun x2 hx2=>
  Ze (Zi rfl hx2) (yC ZG fun x3 _=>
  yB (yG fun x4 hx4=>
  Ze (Zi rfl hx4) (yG fun x5 hx5=>
  Ze (Zi rfl hx5) (yC ZG fun x6 _=>
  yB (Ze (Z4 rfl hx5) (Ze (Zi rfl hx5) (Ze (Z4 rfl hx4) (Ze (Zi rfl hx4) (Ze (Z4 rfl hx4) (Ze (Zi rfl hx4) (Zj (ZI Zm s0.2 (w64 (d+s0.1)).toNat x5) (yG fun x7 hx7=>
  Ze (Zi rfl hx7) (Zj (ZI Zm (List.set s0.2 (w64 (d+s0.1)).toNat x5) (w64 (d+(w64 ((w64 ((w64 (2*s0.1))+1))+1)))).toNat x4) (Zd (ih _)))))))))))
  (Zk rfl))))
  (yG fun x8 hx8=>
  Ze (Zi rfl hx8) (Ze (Z4 rfl hx1) (Ze (Zi rfl hx1) (yC ZG fun x9 _=>
  yB (Ze (Z4 rfl hx1) (Ze (Zi rfl hx1) (Ze (Z4 rfl hx8) (Ze (Zi rfl hx8) (Ze (Z4 rfl hx8) (Ze (Zi rfl hx8) (Zj (ZI Zm s0.2 (w64 (d+s0.1)).toNat x1) (yG fun x10 hx10=>
  Ze (Zi rfl hx10) (Zj (ZI Zm (List.set s0.2 (w64 (d+s0.1)).toNat x1) (w64 (d+(w64 ((w64 (2*s0.1))+1)))).toNat x8) (Zd (ih _)))))))))))
  (Zk rfl))))))))
  (yG fun x11 hx11=>
  Ze (Zi rfl hx11) (yG fun x12 hx12=>
  Ze (Zi rfl hx12) (yC ZG fun x13 _=>
  yB (Ze (Z4 rfl hx12) (Ze (Zi rfl hx12) (Ze (Z4 rfl hx11) (Ze (Zi rfl hx11) (Ze (Z4 rfl hx11) (Ze (Zi rfl hx11) (Zj (ZI Zm s0.2 (w64 (d+s0.1)).toNat x12) (yG fun x14 hx14=>
  Ze (Zi rfl hx14) (Zj (ZI Zm (List.set s0.2 (w64 (d+s0.1)).toNat x12) (w64 (d+(w64 ((w64 (2*s0.1))+1)))).toNat x11) (Zd (ih _)))))))))))
  (Zk rfl)))))
theorem Zch {t0 t1:Bool}{t2 t3:Bool}{b c d:Int}{mG:List Int}{mA mE:Int}{mD:List Z1}{mF:List Zr}{mB:List Zh}{mC:List Zt}:∀r,(ZaC b c d (fun z0 z1=>Zv z0 z1 mB) mG)=some r->evW ctx 160 [(.sl 0 1),(zN b),(zN c),(zN d),(.fn 143 [(.ptr 1 0)])] [(zA mG),(zK0 mA mE t0 mD t1 mF t2 mB t3 mC)]=some ((Zfl t0 t1 t2 t3 b c d mG mA mE mD mF mB mC) r):=
 evS Zyl rfl rfl <| (by
 conv=>rhs;whnf
 refine Zc _ (Zd9 _) fun r15 _=>?_
 rcases r15 with r15 | r15
 exact yR
 exact yR)
def Zfk (t0:Bool) (t1:Bool) (t2:Bool) (t3:Bool) (b:Int) (c:Int) (mG:List Int) (mA:Int) (mE:Int) (mD:List Z1) (mF:List Zr) (mB:List Zh) (mC:List Zt):(List Int)->V×Zl
  | r=>((.d (D.tup [])),[(zA r),(zK0 mA mE t0 mD t1 mF t2 mB t3 mC)])
def Zb0 (t0:Bool) (t1:Bool) (t2:Bool) (t3:Bool) (b:Int) (c:Int) (mA:Int) (mE:Int) (mD:List Z1) (mF:List Zr) (mB:List Zh) (mC:List Zt):(List Int)->Ex×List V×Zl
  | r=>(.exit 0,[(.sl 0 1),(.fn 143 [(.ptr 1 0)]),(zN b),(zN 0),(zN (w64 (c-b)))],[(zA r),(zK0 mA mE t0 mD t1 mF t2 mB t3 mC)])
theorem Zeh {t0 t1:Bool}{t2 t3:Bool}{b c:Int}{mA mE:Int}{mD:List Z1}{mF:List Zr}{mB:List Zh}{mC:List Zt}:∀(s0:Int×(List Int)) (r:List Int),lp (ZaH b c (fun z0 z1=>Zv z0 z1 mB)) s0=some r->lpW ctx 2 [0,3,8,9,10,11] [0,3,8,9,10] Zua [(.sl 0 1),(.fn 143 [(.ptr 1 0)]),(zN b),(zN 0),(zN (w64 (c-b))),(zN s0.1)] [(zA s0.2),(zK0 mA mE t0 mD t1 mF t2 mB t3 mC)]=some ((Zb0 t0 t1 t2 t3 b c mA mE mD mF mB mC) r):=
 lpT (Zb0 t0 t1 t2 t3 b c mA mE mD mF mB mC) fun s0 _ ih=>yB (Zc _ Zch fun x1 _=>
  Zd (ih _))
  (Zk rfl)
def Zb1 (t0:Bool) (t1:Bool) (t2:Bool) (t3:Bool) (b:Int) (mA:Int) (mE:Int) (mD:List Z1) (mF:List Zr) (mB:List Zh) (mC:List Zt):(List Int)->Ex×List V×Zl
  | r=>(.exit 2,[],[(zA r),(zK0 mA mE t0 mD t1 mF t2 mB t3 mC)])
theorem Zee {t0 t1:Bool}{t2 t3:Bool}{b mA mE:Int}{mD:List Z1}{mF:List Zr}{mB:List Zh}{mC:List Zt}:∀(s3:Int×(List Int)) (r:List Int),lp (ZaJ b (fun z0 z1=>Zv z0 z1 mB)) s3=some r->lpW ctx 2 [0,3,8,9,12] [] Zuc [(.sl 0 1),(.fn 143 [(.ptr 1 0)]),(zN b),(zN 0),(zN s3.1)] [(zA s3.2),(zK0 mA mE t0 mD t1 mF t2 mB t3 mC)]=some ((Zb1 t0 t1 t2 t3 b mA mE mD mF mB mC) r):=
 lpT (Zb1 t0 t1 t2 t3 b mA mE mD mF mB mC) fun s3 _ ih=>yB (yG fun x4 hx4=>
  Ze (Zi rfl hx4) (yG fun x5 hx5=>
  Ze (Zi rfl hx5) (Ze (Z4 rfl hx5) (Ze (Zi rfl hx5) (Zj (ZI Zm s3.2 b.toNat x4) (yG fun x6 hx6=>
  Ze (Zi rfl hx6) (Zj (ZI Zm (List.set s3.2 b.toNat x4) (w64 (b+s3.1)).toNat x5) (Zc _ Zch fun x7 _=>
  Zd (ih _)))))))))
  (Zk rfl)
theorem Zaq {t0 t1:Bool}{t2 t3:Bool}{b c:Int}{mG:List Int}{mA mE:Int}{mD:List Z1}{mF:List Zr}{mB:List Zh}{mC:List Zt}:∀r,(Z9 b c (fun z0 z1=>Zv z0 z1 mB) mG)=some r->evW ctx 146 [(.sl 0 1),(zN b),(zN c),(.fn 143 [(.ptr 1 0)])] [(zA mG),(zK0 mA mE t0 mD t1 mF t2 mB t3 mC)]=some ((Zfk t0 t1 t2 t3 b c mG mA mE mD mF mB mC) r):=
 evS ZyD rfl rfl <| yF (Zc _ (Zeh _) fun r2 _=>
  Zc _ (Zee _) fun r8 _=>
  yR)
def ZfO (t0:Bool) (t1:Bool) (t2:Bool) (t3:Bool) (b:Int) (c:Int) (mG:List Int) (mA:Int) (mI:Int) (mP:Int) (mO:List Z1) (mN:List Zr) (mM:List Zh) (mQ:List Zt):(Int×Int×Int)->V×Zl
  | r=>((.d (D.tup [(Zm r.1),(Zm r.2.1)])),[(zA mG),(.cells [(zN r.2.2)]),(zK0 mI mP t0 mO t1 mN t2 mM t3 mQ)])
theorem Zba {t0 t1:Bool}{t2 t3:Bool}{b c:Int}{mG:List Int}{mA mI mP:Int}{mO:List Z1}{mN:List Zr}{mM:List Zh}{mQ:List Zt}:∀r,(ZaS b c (fun z0 z1=>Zv z0 z1 mM) mG mA)=some r->evW ctx 174 [(.sl 0 1),(zN b),(zN c),(.ptr 1 0),(.fn 143 [(.ptr 2 0)])] [(zA mG),(.cells [(zN mA)]),(zK0 mI mP t0 mO t1 mN t2 mM t3 mQ)]=some ((ZfO t0 t1 t2 t3 b c mG mA mI mP mO mN mM mQ) r):=
 evS Zyk rfl rfl <| yG fun x0 hx0=>
  Ze (Zi rfl hx0) (yG fun x1 hx1=>
  Ze (Zi rfl hx1) (yC ZG fun x2 _=>
  yBr yR))
def ZfN (t0:Bool) (t1:Bool) (t2:Bool) (t3:Bool) (b:Int) (c:Int) (d:Int) (mG:List Int) (mA:Int) (mI:Int) (mP:Int) (mO:List Z1) (mN:List Zr) (mM:List Zh) (mQ:List Zt):(Int×Int)->V×Zl
  | r=>((zN r.1),[(zA mG),(.cells [(zN r.2)]),(zK0 mI mP t0 mO t1 mN t2 mM t3 mQ)])
theorem Zbb {t0 t1:Bool}{t2 t3:Bool}{b c d:Int}{mG:List Int}{mA mI mP:Int}{mO:List Z1}{mN:List Zr}{mM:List Zh}{mQ:List Zt}:∀r,(ZaR b c d (fun z0 z1=>Zv z0 z1 mM) mG mA)=some r->evW ctx 164 [(.sl 0 1),(zN b),(zN c),(zN d),(.ptr 1 0),(.fn 143 [(.ptr 2 0)])] [(zA mG),(.cells [(zN mA)]),(zK0 mI mP t0 mO t1 mN t2 mM t3 mQ)]=some ((ZfN t0 t1 t2 t3 b c d mG mA mI mP mO mN mM mQ) r):=
 evS ZyC rfl rfl <| Zc _ Zba fun x0 _=>
  Zc _ Zba fun x1 _=>
  Zc _ Zba fun x2 _=>
  yR
def ZdK (t0:Bool) (t1:Bool) (t2:Bool) (t3:Bool) (b:Int) (mG:List Int) (mA:Int) (mI:Int) (mP:Int) (mO:List Z1) (mN:List Zr) (mM:List Zh) (mQ:List Zt):(Int×Int)->V×Zl
  | r=>((zN r.1),[(zA mG),(.cells [(zN r.2)]),(zK0 mI mP t0 mO t1 mN t2 mM t3 mQ)])
theorem ZaF {t0 t1:Bool}{t2 t3:Bool}{b:Int}{mG:List Int}{mA mI mP:Int}{mO:List Z1}{mN:List Zr}{mM:List Zh}{mQ:List Zt}:∀r,(Zab b (fun z0 z1=>Zv z0 z1 mM) mG mA)=some r->evW ctx 163 [(.sl 0 1),(zN b),(.ptr 1 0),(.fn 143 [(.ptr 2 0)])] [(zA mG),(.cells [(zN mA)]),(zK0 mI mP t0 mO t1 mN t2 mM t3 mQ)]=some ((ZdK t0 t1 t2 t3 b mG mA mI mP mO mN mM mQ) r):=
 evS Zyy rfl rfl <| Zc _ Zbb fun x0 _=>
  yR
def Zes (t0:Bool) (t1:Bool) (t2:Bool) (t3:Bool) (b:Int) (c:Int) (mG:List Int) (mA:Int) (mE:Int) (mD:List Z1) (mF:List Zr) (mB:List Zh) (mC:List Zt):(Int×Int)->V×Zl
  | r=>((.d (D.tup [(Zm r.1),(Zm r.2)])),[(zA mG),(zK0 mA mE t0 mD t1 mF t2 mB t3 mC)])
theorem Zai {t0 t1:Bool}{t2 t3:Bool}{b c:Int}{mG:List Int}{mA mE:Int}{mD:List Z1}{mF:List Zr}{mB:List Zh}{mC:List Zt}:∀r,(ZQ b c (fun z0 z1=>Zv z0 z1 mB) mG)=some r->evW ctx 148 [(.sl 0 1),(zN b),(zN c),(.fn 143 [(.ptr 1 0)])] [(zA mG),(zK0 mA mE t0 mD t1 mF t2 mB t3 mC)]=some ((Zes t0 t1 t2 t3 b c mG mA mE mD mF mB mC) r):=
 evS Zyt rfl rfl <| yF (yF (yF (yB (yB (Zc _ ZaF fun x0 _=>
  Zc _ ZaF fun x1 _=>
  Zc _ ZaF fun x2 _=>
  Zc _ Zbb fun x3 _=>
  yBr (yBr yR))
  (Zc _ Zbb fun x4 _=>
  yBr (yBr yR)))
  (yT yR))))
def Zd6 (t0:Bool) (t1:Bool) (t2:Bool) (t3:Bool) (b:Int) (c:Int) (mG:List Int) (mA:Int) (mE:Int) (mD:List Z1) (mF:List Zr) (mB:List Zh) (mC:List Zt):(List Int)->V×Zl
  | r=>((.d (D.tup [])),[(zA r),(zK0 mA mE t0 mD t1 mF t2 mB t3 mC)])
def ZbB (t0:Bool) (t1:Bool) (t2:Bool) (t3:Bool) (mA:Int) (mE:Int) (mD:List Z1) (mF:List Zr) (mB:List Zh) (mC:List Zt):(List Int)->Ex×List V×Zl
  | r=>(.exit 0,[],[(zA r),(zK0 mA mE t0 mD t1 mF t2 mB t3 mC)])
theorem Zdo {t0 t1:Bool}{t2 t3:Bool}{mA mE:Int}{mD:List Z1}{mF:List Zr}{mB:List Zh}{mC:List Zt}:∀(s0:Int×Int×(List Int)) (r:List Int),lp (Z6) s0=some r->lpW ctx 2 [0,8,9] [] Zu0 [(.sl 0 1),(zN s0.1),(zN s0.2.1)] [(zA s0.2.2),(zK0 mA mE t0 mD t1 mF t2 mB t3 mC)]=some ((ZbB t0 t1 t2 t3 mA mE mD mF mB mC) r):=
 lpT (ZbB t0 t1 t2 t3 mA mE mD mF mB mC) fun s0 _ ih=>yB (yG fun x1 hx1=>
  Ze (Zi rfl hx1) (yG fun x2 hx2=>
  Ze (Zi rfl hx2) (Ze (Z4 rfl hx2) (Ze (Zi rfl hx2) (Zj (ZI Zm s0.2.2 s0.1.toNat x1) (yG fun x3 hx3=>
  Ze (Zi rfl hx3) (Zj (ZI Zm (List.set s0.2.2 s0.1.toNat x1) s0.2.1.toNat x2) (Zd (ih _)))))))))
  (Zk rfl)
theorem Zah {t0 t1:Bool}{t2 t3:Bool}{b c:Int}{mG:List Int}{mA mE:Int}{mD:List Z1}{mF:List Zr}{mB:List Zh}{mC:List Zt}:∀r,(ZO b c (fun z0 z1=>Zv z0 z1 mB) mG)=some r->evW ctx 149 [(.sl 0 1),(zN b),(zN c),(.fn 143 [(.ptr 1 0)])] [(zA mG),(zK0 mA mE t0 mD t1 mF t2 mB t3 mC)]=some ((Zd6 t0 t1 t2 t3 b c mG mA mE mD mF mB mC) r):=
 evS Zyx rfl rfl <| Zc _ (Zdo _) fun r4 _=>
  yR
def ZcY (t0:Bool) (t1:Bool) (t2:Bool) (t3:Bool) (b:Int) (c:Int) (mG:List Int) (mA:Int) (mE:Int) (mD:List Z1) (mF:List Zr) (mB:List Zh) (mC:List Zt):((List Int)⊕(List Int))->V×Zl
  | (.inl r)=>((.d (D.bool true)),[(zA r),(zK0 mA mE t0 mD t1 mF t2 mB t3 mC)])
  | (.inr r)=>((.d (D.bool false)),[(zA r),(zK0 mA mE t0 mD t1 mF t2 mB t3 mC)])
def Za3 (t0:Bool) (t1:Bool) (t2:Bool) (t3:Bool) (b:Int) (c:Int) (mA:Int) (mE:Int) (mD:List Z1) (mF:List Zr) (mB:List Zh) (mC:List Zt) (s0:Int×Int×(List Int)):Int->Ex×List V×Zl
  | r=>(.exit 2,[(.sl 0 1),(zN b),(zN c),(.fn 143 [(.ptr 1 0)]),(zN r),(zN s0.2.1)],[(zA s0.2.2),(zK0 mA mE t0 mD t1 mF t2 mB t3 mC)])
theorem ZcH {t0 t1:Bool}{t2 t3:Bool}{b c:Int}{mA mE:Int}{mD:List Z1}{mF:List Zr}{mB:List Zh}{mC:List Zt}{s0:Int×Int×(List Int)}:∀(s1:Int) (r:Int),lp (ZM c (fun z0 z1=>Zv z0 z1 mB) s0) s1=some r->lpW ctx 2 [0,1,2,3,9,10] [0,1,2,3,9,10] Zu2 [(.sl 0 1),(zN b),(zN c),(.fn 143 [(.ptr 1 0)]),(zN s1),(zN s0.2.1)] [(zA s0.2.2),(zK0 mA mE t0 mD t1 mF t2 mB t3 mC)]=some ((Za3 t0 t1 t2 t3 b c mA mE mD mF mB mC s0) r):=
 lpT (Za3 t0 t1 t2 t3 b c mA mE mD mF mB mC s0) fun s1 _ ih=>yB (yG fun x2 hx2=>
  Ze (Zi rfl hx2) (yG fun x3 hx3=>
  Ze (Zi rfl hx3) (yC ZG fun x4 _=>
  yB (Zk rfl)
  (Zd (ih _)))))
  (Zk rfl)
def ZaZ (t0:Bool) (t1:Bool) (t2:Bool) (t3:Bool) (b:Int) (c:Int) (mA:Int) (mE:Int) (mD:List Z1) (mF:List Zr) (mB:List Zh) (mC:List Zt) (s0:Int×Int×(List Int)) (r5:Int):(List Int)->Ex×List V×Zl
  | r=>(.exit 4,[(.sl 0 1),(zN b),(zN c),(.fn 143 [(.ptr 1 0)]),(zN r5),(zN s0.2.1)],[(zA r),(zK0 mA mE t0 mD t1 mF t2 mB t3 mC)])
theorem ZcG {t0 t1:Bool}{t2 t3:Bool}{b c:Int}{mA mE:Int}{mD:List Z1}{mF:List Zr}{mB:List Zh}{mC:List Zt}{s0:Int×Int×(List Int)}{r5:Int}:∀(s9:Int×(List Int)) (r:List Int),lp (ZV (fun z0 z1=>Zv z0 z1 mB)) s9=some r->lpW ctx 2 [0,1,2,3,9,10,11] [0,1,2,3,9,10] Zuk [(.sl 0 1),(zN b),(zN c),(.fn 143 [(.ptr 1 0)]),(zN r5),(zN s0.2.1),(zN s9.1)] [(zA s9.2),(zK0 mA mE t0 mD t1 mF t2 mB t3 mC)]=some ((ZaZ t0 t1 t2 t3 b c mA mE mD mF mB mC s0 r5) r):=
 lpT (ZaZ t0 t1 t2 t3 b c mA mE mD mF mB mC s0 r5) fun s9 _ ih=>yB (yG fun x10 hx10=>
  Ze (Zi rfl hx10) (yG fun x11 hx11=>
  Ze (Zi rfl hx11) (yC ZG fun x12 _=>
  yB (Ze (Z4 rfl hx11) (Ze (Zi rfl hx11) (Ze (Z4 rfl hx10) (Ze (Zi rfl hx10) (Ze (Z4 rfl hx10) (Ze (Zi rfl hx10) (Zj (ZI Zm s9.2 s9.1.toNat x11) (yG fun x13 hx13=>
  Ze (Zi rfl hx13) (Zj (ZI Zm (List.set s9.2 s9.1.toNat x11) (w64 (s9.1-1)).toNat x10) (Zd (ih _)))))))))))
  (Zk rfl))))
  (Zk rfl)
def Za0 (t0:Bool) (t1:Bool) (t2:Bool) (t3:Bool) (b:Int) (c:Int) (mA:Int) (mE:Int) (mD:List Z1) (mF:List Zr) (mB:List Zh) (mC:List Zt) (s0:Int×Int×(List Int)) (r5:Int):(List Int)->Ex×List V×Zl
  | r=>(.exit 6,[(.sl 0 1),(zN b),(zN c),(.fn 143 [(.ptr 1 0)]),(zN r5),(zN s0.2.1)],[(zA r),(zK0 mA mE t0 mD t1 mF t2 mB t3 mC)])
theorem ZaX {t0 t1:Bool}{t2 t3:Bool}{b c:Int}{mA mE:Int}{mD:List Z1}{mF:List Zr}{mB:List Zh}{mC:List Zt}{s0:Int×Int×(List Int)}{r5:Int}:∀(s15:Int×(List Int)) (r:List Int),lp (ZH c (fun z0 z1=>Zv z0 z1 mB)) s15=some r->lpW ctx 2 [0,1,2,3,9,10,12] [0,1,2,3,9,10] Zt3 [(.sl 0 1),(zN b),(zN c),(.fn 143 [(.ptr 1 0)]),(zN r5),(zN s0.2.1),(zN s15.1)] [(zA s15.2),(zK0 mA mE t0 mD t1 mF t2 mB t3 mC)]=some ((Za0 t0 t1 t2 t3 b c mA mE mD mF mB mC s0 r5) r):=
 lpT (Za0 t0 t1 t2 t3 b c mA mE mD mF mB mC s0 r5) fun s15 _ ih=>yB (yG fun x16 hx16=>
  Ze (Zi rfl hx16) (yG fun x17 hx17=>
  Ze (Zi rfl hx17) (yC ZG fun x18 _=>
  yB (Ze (Z4 rfl hx17) (Ze (Zi rfl hx17) (Ze (Z4 rfl hx16) (Ze (Zi rfl hx16) (Ze (Z4 rfl hx16) (Ze (Zi rfl hx16) (Zj (ZI Zm s15.2 s15.1.toNat x17) (yG fun x19 hx19=>
  Ze (Zi rfl hx19) (Zj (ZI Zm (List.set s15.2 s15.1.toNat x17) (w64 (s15.1-1)).toNat x16) (Zd (ih _)))))))))))
  (Zk rfl))))
  (Zk rfl)
def Za1 (t0:Bool) (t1:Bool) (t2:Bool) (t3:Bool) (b:Int) (c:Int) (mA:Int) (mE:Int) (mD:List Z1) (mF:List Zr) (mB:List Zh) (mC:List Zt):((List Int)⊕((List Int)⊕(List Int)))->Ex×List V×Zl
  | (.inl r)=>(.ret,[(.d (D.bool true))],[(zA r),(zK0 mA mE t0 mD t1 mF t2 mB t3 mC)])
  | (.inr (.inl r))=>(.ret,[(.d (D.bool false))],[(zA r),(zK0 mA mE t0 mD t1 mF t2 mB t3 mC)])
  | (.inr (.inr r))=>(.exit 0,[.bad],[(zA r),(zK0 mA mE t0 mD t1 mF t2 mB t3 mC)])
theorem ZcL {t0 t1:Bool}{t2 t3:Bool}{b c:Int}{mA mE:Int}{mD:List Z1}{mF:List Zr}{mB:List Zh}{mC:List Zt}:∀(s0:Int×Int×(List Int)) (r:((List Int)⊕((List Int)⊕(List Int)))),lp (ZU b c (fun z0 z1=>Zv z0 z1 mB)) s0=some r->lpW ctx 2 [0,1,2,3,9,10] [8] ZuJ [(.sl 0 1),(zN b),(zN c),(.fn 143 [(.ptr 1 0)]),(zN s0.1),(zN s0.2.1)] [(zA s0.2.2),(zK0 mA mE t0 mD t1 mF t2 mB t3 mC)]=some ((Za1 t0 t1 t2 t3 b c mA mE mD mF mB mC) r):=
 lpT (Za1 t0 t1 t2 t3 b c mA mE mD mF mB mC) fun s0 _ ih=>yB (Zc _ (ZcH _) fun r5 _=>
  yB (Zk rfl)
  (yB (Zk rfl)
  (yG fun x6 hx6=>
  Ze (Zi rfl hx6) (yG fun x7 hx7=>
  Ze (Zi rfl hx7) (Ze (Z4 rfl hx7) (Ze (Zi rfl hx7) (Zj (ZI Zm s0.2.2 r5.toNat x6) (yG fun x8 hx8=>
  Ze (Zi rfl hx8) (Zj (ZI Zm (List.set s0.2.2 r5.toNat x6) (w64 (r5-1)).toNat x7) (yB (Zc _ (ZcG _) fun r14 _=>
  yB (Zc _ (ZaX _) fun r20 _=>
  Zd (ih _))
  (Zd (ih _)))
  (yB (Zc _ (ZaX _) fun r26 _=>
  Zd (ih _))
  (Zd (ih _)))))))))))))
  (Zk rfl)
theorem Zbe {t0 t1:Bool}{t2 t3:Bool}{b c:Int}{mG:List Int}{mA mE:Int}{mD:List Z1}{mF:List Zr}{mB:List Zh}{mC:List Zt}:∀r,(ZT b c (fun z0 z1=>Zv z0 z1 mB) mG)=some r->evW ctx 150 [(.sl 0 1),(zN b),(zN c),(.fn 143 [(.ptr 1 0)])] [(zA mG),(zK0 mA mE t0 mD t1 mF t2 mB t3 mC)]=some ((ZcY t0 t1 t2 t3 b c mG mA mE mD mF mB mC) r):=
 evS ZxN rfl rfl <| (by
 conv=>rhs;whnf
 refine Zc _ (ZcL _) fun r27 _=>?_
 rcases r27 with r27 | (r27 | r27)
 exact yR
 exact yR
 exact yR)
def Ze7 (t0:Bool) (t1:Bool) (t2:Bool) (t3:Bool) (b:Int) (c:Int) (d:Int) (mG:List Int) (mA:Int) (mE:Int) (mD:List Z1) (mF:List Zr) (mB:List Zh) (mC:List Zt):((Int×(List Int))⊕(Int×(List Int)))->V×Zl
  | (.inl r)=>((.d (D.tup [(Zm r.1),(D.bool true)])),[(zA r.2),(zK0 mA mE t0 mD t1 mF t2 mB t3 mC)])
  | (.inr r)=>((.d (D.tup [(Zm r.1),(D.bool false)])),[(zA r.2),(zK0 mA mE t0 mD t1 mF t2 mB t3 mC)])
def ZbX (t0:Bool) (t1:Bool) (t2:Bool) (t3:Bool) (b:Int) (c:Int) (d:Int) (mG:List Int) (mA:Int) (mE:Int) (mD:List Z1) (mF:List Zr) (mB:List Zh) (mC:List Zt) (x0:Int) (x1:Int):Int->Ex×List V×Zl
  | r=>(.exit 0,[(.sl 0 1),(zN b),(.fn 143 [(.ptr 1 0)]),(zN r),(zN (w64 (c-1)))],[(zA (List.set (List.set mG b.toNat x0) d.toNat x1)),(zK0 mA mE t0 mD t1 mF t2 mB t3 mC)])
theorem Zd0 {t0 t1:Bool}{t2 t3:Bool}{b c d:Int}{mG:List Int}{mA mE:Int}{mD:List Z1}{mF:List Zr}{mB:List Zh}{mC:List Zt}{x0 x1:Int}:∀(s3:Int) (r:Int),lp (ZaA b c d mG (fun z0 z1=>Zv z0 z1 mB) x0 x1) s3=some r->lpW ctx 2 [0,1,4,12,13] [0,1,4,12,13] ZuX [(.sl 0 1),(zN b),(.fn 143 [(.ptr 1 0)]),(zN s3),(zN (w64 (c-1)))] [(zA (List.set (List.set mG b.toNat x0) d.toNat x1)),(zK0 mA mE t0 mD t1 mF t2 mB t3 mC)]=some ((ZbX t0 t1 t2 t3 b c d mG mA mE mD mF mB mC x0 x1) r):=
 lpT (ZbX t0 t1 t2 t3 b c d mG mA mE mD mF mB mC x0 x1) fun s3 _ ih=>yB (yG fun x4 hx4=>
  Ze (Zi rfl hx4) (yG fun x5 hx5=>
  Ze (Zi rfl hx5) (yC ZG fun x6 _=>
  yB (Zd (ih _))
  (Zk rfl))))
  (Zk rfl)
def ZbU (t0:Bool) (t1:Bool) (t2:Bool) (t3:Bool) (b:Int) (d:Int) (mG:List Int) (mA:Int) (mE:Int) (mD:List Z1) (mF:List Zr) (mB:List Zh) (mC:List Zt) (x0:Int) (x1:Int) (r7:Int):Int->Ex×List V×Zl
  | r=>(.exit 2,[(.sl 0 1),(zN b),(.fn 143 [(.ptr 1 0)]),(zN r7),(zN r)],[(zA (List.set (List.set mG b.toNat x0) d.toNat x1)),(zK0 mA mE t0 mD t1 mF t2 mB t3 mC)])
theorem ZdX {t0 t1:Bool}{t2 t3:Bool}{b d:Int}{mG:List Int}{mA mE:Int}{mD:List Z1}{mF:List Zr}{mB:List Zh}{mC:List Zt}{x0 x1 r7:Int}:∀(s8:Int) (r:Int),lp (Zaz b d mG (fun z0 z1=>Zv z0 z1 mB) x0 x1 r7) s8=some r->lpW ctx 2 [0,1,4,12,13] [0,1,4,12,13] Zuf [(.sl 0 1),(zN b),(.fn 143 [(.ptr 1 0)]),(zN r7),(zN s8)] [(zA (List.set (List.set mG b.toNat x0) d.toNat x1)),(zK0 mA mE t0 mD t1 mF t2 mB t3 mC)]=some ((ZbU t0 t1 t2 t3 b d mG mA mE mD mF mB mC x0 x1 r7) r):=
 lpT (ZbU t0 t1 t2 t3 b d mG mA mE mD mF mB mC x0 x1 r7) fun s8 _ ih=>yB (yG fun x9 hx9=>
  Ze (Zi rfl hx9) (yG fun x10 hx10=>
  Ze (Zi rfl hx10) (yC ZG fun x11 _=>
  yB (Zk rfl)
  (Zd (ih _)))))
  (Zk rfl)
def ZbP (t0:Bool) (t1:Bool) (t2:Bool) (t3:Bool) (b:Int) (mA:Int) (mE:Int) (mD:List Z1) (mF:List Zr) (mB:List Zh) (mC:List Zt) (s19:Int×Int×(List Int)):Int->Ex×List V×Zl
  | r=>(.exit 6,[(.sl 0 1),(zN b),(.fn 143 [(.ptr 1 0)]),(zN r),(zN s19.2.1)],[(zA s19.2.2),(zK0 mA mE t0 mD t1 mF t2 mB t3 mC)])
theorem Zd4 {t0 t1:Bool}{t2 t3:Bool}{b mA mE:Int}{mD:List Z1}{mF:List Zr}{mB:List Zh}{mC:List Zt}{s19:Int×Int×(List Int)}:∀(s20:Int) (r:Int),lp (ZaB b (fun z0 z1=>Zv z0 z1 mB) s19) s20=some r->lpW ctx 2 [0,1,4,12,13] [0,1,4,12,13] Zt7 [(.sl 0 1),(zN b),(.fn 143 [(.ptr 1 0)]),(zN s20),(zN s19.2.1)] [(zA s19.2.2),(zK0 mA mE t0 mD t1 mF t2 mB t3 mC)]=some ((ZbP t0 t1 t2 t3 b mA mE mD mF mB mC s19) r):=
 lpT (ZbP t0 t1 t2 t3 b mA mE mD mF mB mC s19) fun s20 _ ih=>yB (yG fun x21 hx21=>
  Ze (Zi rfl hx21) (yG fun x22 hx22=>
  Ze (Zi rfl hx22) (yC ZG fun x23 _=>
  yB (Zd (ih _))
  (Zk rfl))))
  (Zk rfl)
def ZbW (t0:Bool) (t1:Bool) (t2:Bool) (t3:Bool) (b:Int) (mA:Int) (mE:Int) (mD:List Z1) (mF:List Zr) (mB:List Zh) (mC:List Zt) (s19:Int×Int×(List Int)) (r24:Int):Int->Ex×List V×Zl
  | r=>(.exit 8,[(.sl 0 1),(zN b),(.fn 143 [(.ptr 1 0)]),(zN r24),(zN r)],[(zA s19.2.2),(zK0 mA mE t0 mD t1 mF t2 mB t3 mC)])
theorem ZdS {t0 t1:Bool}{t2 t3:Bool}{b mA mE:Int}{mD:List Z1}{mF:List Zr}{mB:List Zh}{mC:List Zt}{s19:Int×Int×(List Int)}{r24:Int}:∀(s25:Int) (r:Int),lp (Zax b (fun z0 z1=>Zv z0 z1 mB) s19 r24) s25=some r->lpW ctx 2 [0,1,4,12,13] [0,1,4,12,13] Zu5 [(.sl 0 1),(zN b),(.fn 143 [(.ptr 1 0)]),(zN r24),(zN s25)] [(zA s19.2.2),(zK0 mA mE t0 mD t1 mF t2 mB t3 mC)]=some ((ZbW t0 t1 t2 t3 b mA mE mD mF mB mC s19 r24) r):=
 lpT (ZbW t0 t1 t2 t3 b mA mE mD mF mB mC s19 r24) fun s25 _ ih=>yB (yG fun x26 hx26=>
  Ze (Zi rfl hx26) (yG fun x27 hx27=>
  Ze (Zi rfl hx27) (yC ZG fun x28 _=>
  yB (Zk rfl)
  (Zd (ih _)))))
  (Zk rfl)
def ZbT (t0:Bool) (t1:Bool) (t2:Bool) (t3:Bool) (b:Int) (mA:Int) (mE:Int) (mD:List Z1) (mF:List Zr) (mB:List Zh) (mC:List Zt):(Int×(List Int))->Ex×List V×Zl
  | r=>(.exit 4,[(.sl 0 1),(zN b),(zN r.1)],[(zA r.2),(zK0 mA mE t0 mD t1 mF t2 mB t3 mC)])
theorem Zd2 {t0 t1:Bool}{t2 t3:Bool}{b mA mE:Int}{mD:List Z1}{mF:List Zr}{mB:List Zh}{mC:List Zt}:∀(s19:Int×Int×(List Int)) (r:(Int×(List Int))),lp (ZaY b (fun z0 z1=>Zv z0 z1 mB)) s19=some r->lpW ctx 2 [0,1,4,12,13] [0,1,13] ZuF [(.sl 0 1),(zN b),(.fn 143 [(.ptr 1 0)]),(zN s19.1),(zN s19.2.1)] [(zA s19.2.2),(zK0 mA mE t0 mD t1 mF t2 mB t3 mC)]=some ((ZbT t0 t1 t2 t3 b mA mE mD mF mB mC) r):=
 lpT (ZbT t0 t1 t2 t3 b mA mE mD mF mB mC) fun s19 _ ih=>Zc _ (Zd4 _) fun r24 _=>
  Zc _ (ZdS _) fun r29 _=>
  yB (Zk rfl)
  (yG fun x30 hx30=>
  Ze (Zi rfl hx30) (yG fun x31 hx31=>
  Ze (Zi rfl hx31) (Ze (Z4 rfl hx31) (Ze (Zi rfl hx31) (Zj (ZI Zm s19.2.2 r24.toNat x30) (yG fun x32 hx32=>
  Ze (Zi rfl hx32) (Zj (ZI Zm (List.set s19.2.2 r24.toNat x30) r29.toNat x31) (Zd (ih _)))))))))
theorem Zn {t0 t1:Bool}{t2 t3:Bool}{b c d:Int}{mG:List Int}{mA mE:Int}{mD:List Z1}{mF:List Zr}{mB:List Zh}{mC:List Zt}:∀r,(Zs b c d (fun z0 z1=>Zv z0 z1 mB) mG)=some r->evW ctx 152 [(.sl 0 1),(zN b),(zN c),(zN d),(.fn 143 [(.ptr 1 0)])] [(zA mG),(zK0 mA mE t0 mD t1 mF t2 mB t3 mC)]=some ((Ze7 t0 t1 t2 t3 b c d mG mA mE mD mF mB mC) r):=
 evS Zx7 rfl rfl <| yG fun x0 hx0=>
  Ze (Zi rfl hx0) (yG fun x1 hx1=>
  Ze (Zi rfl hx1) (Ze (Z4 rfl hx1) (Ze (Zi rfl hx1) (Zj (ZI Zm mG b.toNat x0) (yG fun x2 hx2=>
  Ze (Zi rfl hx2) (Zj (ZI Zm (List.set mG b.toNat x0) d.toNat x1) (Zc _ (Zd0 _) fun r7 _=>
  Zc _ (ZdX _) fun r12 _=>
  yB (yG fun x13 hx13=>
  Ze (Zi rfl hx13) (yG fun x14 hx14=>
  Ze (Zi rfl hx14) (Ze (Z4 rfl hx14) (Ze (Zi rfl hx14) (Zj (ZI Zm (List.set (List.set mG b.toNat x0) d.toNat x1) r12.toNat x13) (yG fun x15 hx15=>
  Ze (Zi rfl hx15) (Zj (ZI Zm (List.set (List.set (List.set mG b.toNat x0) d.toNat x1) r12.toNat x13) b.toNat x14) yR)))))))
  (yG fun x16 hx16=>
  Ze (Zi rfl hx16) (yG fun x17 hx17=>
  Ze (Zi rfl hx17) (Ze (Z4 rfl hx17) (Ze (Zi rfl hx17) (Zj (ZI Zm (List.set (List.set mG b.toNat x0) d.toNat x1) r7.toNat x16) (yG fun x18 hx18=>
  Ze (Zi rfl hx18) (Zj (ZI Zm (List.set (List.set (List.set mG b.toNat x0) d.toNat x1) r7.toNat x16) r12.toNat x17) (Zc _ (Zd2 _) fun r33 _=>
  yG fun x34 hx34=>
  Ze (Zi rfl hx34) (yG fun x35 hx35=>
  Ze (Zi rfl hx35) (Ze (Z4 rfl hx35) (Ze (Zi rfl hx35) (Zj (ZI Zm r33.2 r33.1.toNat x34) (yG fun x36 hx36=>
  Ze (Zi rfl hx36) (Zj (ZI Zm (List.set r33.2 r33.1.toNat x34) b.toNat x35) yR)))))))))))))))))))))
def ZdN (t0:Bool) (t1:Bool) (t2:Bool) (t3:Bool) (b:Int) (c:Int) (d:Int) (mG:List Int) (mA:Int) (mE:Int) (mD:List Z1) (mF:List Zr) (mB:List Zh) (mC:List Zt):(Int×(List Int))->V×Zl
  | r=>((zN r.1),[(zA r.2),(zK0 mA mE t0 mD t1 mF t2 mB t3 mC)])
def Zbs (t0:Bool) (t1:Bool) (t2:Bool) (t3:Bool) (b:Int) (mA:Int) (mE:Int) (mD:List Z1) (mF:List Zr) (mB:List Zh) (mC:List Zt) (s3:Int×Int×(List Int)):Int->Ex×List V×Zl
  | r=>(.exit 2,[(.sl 0 1),(zN b),(.fn 143 [(.ptr 1 0)]),(zN r),(zN s3.2.1)],[(zA s3.2.2),(zK0 mA mE t0 mD t1 mF t2 mB t3 mC)])
theorem Zc8 {t0 t1:Bool}{t2 t3:Bool}{b mA mE:Int}{mD:List Z1}{mF:List Zr}{mB:List Zh}{mC:List Zt}{s3:Int×Int×(List Int)}:∀(s4:Int) (r:Int),lp (Zaf b (fun z0 z1=>Zv z0 z1 mB) s3) s4=some r->lpW ctx 2 [0,1,4,11,12] [0,1,4,11,12] Zva [(.sl 0 1),(zN b),(.fn 143 [(.ptr 1 0)]),(zN s4),(zN s3.2.1)] [(zA s3.2.2),(zK0 mA mE t0 mD t1 mF t2 mB t3 mC)]=some ((Zbs t0 t1 t2 t3 b mA mE mD mF mB mC s3) r):=
 lpT (Zbs t0 t1 t2 t3 b mA mE mD mF mB mC s3) fun s4 _ ih=>yB (yG fun x5 hx5=>
  Ze (Zi rfl hx5) (yG fun x6 hx6=>
  Ze (Zi rfl hx6) (yC ZG fun x7 _=>
  yB (Zk rfl)
  (Zd (ih _)))))
  (Zk rfl)
def Zbt (t0:Bool) (t1:Bool) (t2:Bool) (t3:Bool) (b:Int) (mA:Int) (mE:Int) (mD:List Z1) (mF:List Zr) (mB:List Zh) (mC:List Zt) (s3:Int×Int×(List Int)) (r8:Int):Int->Ex×List V×Zl
  | r=>(.exit 4,[(.sl 0 1),(zN b),(.fn 143 [(.ptr 1 0)]),(zN r8),(zN r)],[(zA s3.2.2),(zK0 mA mE t0 mD t1 mF t2 mB t3 mC)])
theorem Zdd {t0 t1:Bool}{t2 t3:Bool}{b mA mE:Int}{mD:List Z1}{mF:List Zr}{mB:List Zh}{mC:List Zt}{s3:Int×Int×(List Int)}{r8:Int}:∀(s9:Int) (r:Int),lp (Zag b (fun z0 z1=>Zv z0 z1 mB) s3 r8) s9=some r->lpW ctx 2 [0,1,4,11,12] [0,1,4,11,12] ZuA [(.sl 0 1),(zN b),(.fn 143 [(.ptr 1 0)]),(zN r8),(zN s9)] [(zA s3.2.2),(zK0 mA mE t0 mD t1 mF t2 mB t3 mC)]=some ((Zbt t0 t1 t2 t3 b mA mE mD mF mB mC s3 r8) r):=
 lpT (Zbt t0 t1 t2 t3 b mA mE mD mF mB mC s3 r8) fun s9 _ ih=>yB (yG fun x10 hx10=>
  Ze (Zi rfl hx10) (yG fun x11 hx11=>
  Ze (Zi rfl hx11) (yC ZG fun x12 _=>
  yB (Zd (ih _))
  (Zk rfl))))
  (Zk rfl)
def Zbr (t0:Bool) (t1:Bool) (t2:Bool) (t3:Bool) (b:Int) (mA:Int) (mE:Int) (mD:List Z1) (mF:List Zr) (mB:List Zh) (mC:List Zt):(Int×(List Int))->Ex×List V×Zl
  | r=>(.exit 0,[(zN r.1)],[(zA r.2),(zK0 mA mE t0 mD t1 mF t2 mB t3 mC)])
theorem Zda {t0 t1:Bool}{t2 t3:Bool}{b mA mE:Int}{mD:List Z1}{mF:List Zr}{mB:List Zh}{mC:List Zt}:∀(s3:Int×Int×(List Int)) (r:(Int×(List Int))),lp (Zay b (fun z0 z1=>Zv z0 z1 mB)) s3=some r->lpW ctx 2 [0,1,4,11,12] [11] ZuK [(.sl 0 1),(zN b),(.fn 143 [(.ptr 1 0)]),(zN s3.1),(zN s3.2.1)] [(zA s3.2.2),(zK0 mA mE t0 mD t1 mF t2 mB t3 mC)]=some ((Zbr t0 t1 t2 t3 b mA mE mD mF mB mC) r):=
 lpT (Zbr t0 t1 t2 t3 b mA mE mD mF mB mC) fun s3 _ ih=>Zc _ (Zc8 _) fun r8 _=>
  Zc _ (Zdd _) fun r13 _=>
  yB (Zk rfl)
  (yG fun x14 hx14=>
  Ze (Zi rfl hx14) (yG fun x15 hx15=>
  Ze (Zi rfl hx15) (Ze (Z4 rfl hx15) (Ze (Zi rfl hx15) (Zj (ZI Zm s3.2.2 r8.toNat x14) (yG fun x16 hx16=>
  Ze (Zi rfl hx16) (Zj (ZI Zm (List.set s3.2.2 r8.toNat x14) r13.toNat x15) (Zd (ih _)))))))))
theorem Zy {t0 t1:Bool}{t2 t3:Bool}{b c d:Int}{mG:List Int}{mA mE:Int}{mD:List Z1}{mF:List Zr}{mB:List Zh}{mC:List Zt}:∀r,(ZC b c d (fun z0 z1=>Zv z0 z1 mB) mG)=some r->evW ctx 151 [(.sl 0 1),(zN b),(zN c),(zN d),(.fn 143 [(.ptr 1 0)])] [(zA mG),(zK0 mA mE t0 mD t1 mF t2 mB t3 mC)]=some ((ZdN t0 t1 t2 t3 b c d mG mA mE mD mF mB mC) r):=
 evS Zyc rfl rfl <| yG fun x0 hx0=>
  Ze (Zi rfl hx0) (yG fun x1 hx1=>
  Ze (Zi rfl hx1) (Ze (Z4 rfl hx1) (Ze (Zi rfl hx1) (Zj (ZI Zm mG b.toNat x0) (yG fun x2 hx2=>
  Ze (Zi rfl hx2) (Zj (ZI Zm (List.set mG b.toNat x0) d.toNat x1) (Zc _ (Zda _) fun r17 _=>
  yR)))))))
def ZjT (r:Int):D:=(D.int .u64 r)
theorem Zgv {a:Int}:∀r,(Zdi a)=some r->evD ctx 161 [(zN a)]=some (ZjT r):=
 evT ZAc rfl rfl <| yC Zhg fun x0 _=>
  yBn yR
def Zkq (mG:Int):Unit->V×Zl
  | r=>((.d (D.int .u64 (u64.wrap (Zp (u64.wrap (Zp (u64.wrap (Zp mG ^^^ Zp (u64.wrap (mG*2 ^ 13))).toNat) ^^^ Zp (Int.fdiv (u64.wrap (Zp mG ^^^ Zp (u64.wrap (mG*2 ^ 13))).toNat) (2 ^ 7))).toNat) ^^^ Zp (u64.wrap ((u64.wrap (Zp (u64.wrap (Zp mG ^^^ Zp (u64.wrap (mG*2 ^ 13))).toNat) ^^^ Zp (Int.fdiv (u64.wrap (Zp mG ^^^ Zp (u64.wrap (mG*2 ^ 13))).toNat) (2 ^ 7))).toNat)*2 ^ 17))).toNat))),[(.cells [(.d (D.int .u64 (u64.wrap (Zp (u64.wrap (Zp (u64.wrap (Zp mG ^^^ Zp (u64.wrap (mG*2 ^ 13))).toNat) ^^^ Zp (Int.fdiv (u64.wrap (Zp mG ^^^ Zp (u64.wrap (mG*2 ^ 13))).toNat) (2 ^ 7))).toNat) ^^^ Zp (u64.wrap ((u64.wrap (Zp (u64.wrap (Zp mG ^^^ Zp (u64.wrap (mG*2 ^ 13))).toNat) ^^^ Zp (Int.fdiv (u64.wrap (Zp mG ^^^ Zp (u64.wrap (mG*2 ^ 13))).toNat) (2 ^ 7))).toNat)*2 ^ 17))).toNat)))])])
theorem ZgT {mG:Int}:∀r,Zf0=some r->evW ctx 162 [(.ptr 0 0)] [(.cells [(.d (D.int .u64 mG))])]=some ((Zkq mG) r):=
 evS ZCq rfl rfl <| yF (yF (yF yR))
def ZdW (t0:Bool) (t1:Bool) (t2:Bool) (t3:Bool) (b:Int) (c:Int) (mG:List Int) (mA:Int) (mE:Int) (mD:List Z1) (mF:List Zr) (mB:List Zh) (mC:List Zt):(List Int)->V×Zl
  | r=>((.d (D.tup [])),[(zA r),(zK0 mA mE t0 mD t1 mF t2 mB t3 mC)])
def Zbv (t0:Bool) (t1:Bool) (t2:Bool) (t3:Bool) (b:Int) (c:Int) (mA:Int) (mE:Int) (mD:List Z1) (mF:List Zr) (mB:List Zh) (mC:List Zt) (x0:Int):(List Int)->Ex×List V×Zl
  | r=>(.exit 0,[],[(zA r),(zK0 mA mE t0 mD t1 mF t2 mB t3 mC)])
theorem Zdh {t0 t1:Bool}{t2 t3:Bool}{b c:Int}{mA mE:Int}{mD:List Z1}{mF:List Zr}{mB:List Zh}{mC:List Zt}{x0:Int}:∀(s1:Int×(List Int)×Int) (r:List Int),lp (ZaG b c x0) s1=some r->lpW ctx 2 [0,1,8,9,10,11] [] ZtZ [(.sl 0 1),(zN b),(zN (w64 (c-b))),(.ptr 2 0),(.d (D.int .u64 x0)),(zN s1.1)] [(zA s1.2.1),(zK0 mA mE t0 mD t1 mF t2 mB t3 mC),(.cells [(.d (D.int .u64 s1.2.2))])]=some ((Zbv t0 t1 t2 t3 b c mA mE mD mF mB mC x0) r):=
 lpT (Zbv t0 t1 t2 t3 b c mA mE mD mF mB mC x0) fun s1 _ ih=>yF (yB (Zc _ ZgT fun x2 _=>
  yB (yG fun x3 hx3=>
  Ze (Zi rfl hx3) (yG fun x4 hx4=>
  Ze (Zi rfl hx4) (Ze (Z4 rfl hx4) (Ze (Zi rfl hx4) (Zj (ZI Zm s1.2.1 s1.1.toNat x3) (yG fun x5 hx5=>
  Ze (Zi rfl hx5) (Zj (ZI Zm (List.set s1.2.1 s1.1.toNat x3) (w64 (b+(w64 ((w64 (u64.wrap (Zp (u64.wrap (Zp (u64.wrap (Zp (u64.wrap (Zp s1.2.2 ^^^ Zp (u64.wrap (s1.2.2*2 ^ 13))).toNat) ^^^ Zp (Int.fdiv (u64.wrap (Zp s1.2.2 ^^^ Zp (u64.wrap (s1.2.2*2 ^ 13))).toNat) (2 ^ 7))).toNat) ^^^ Zp (u64.wrap ((u64.wrap (Zp (u64.wrap (Zp s1.2.2 ^^^ Zp (u64.wrap (s1.2.2*2 ^ 13))).toNat) ^^^ Zp (Int.fdiv (u64.wrap (Zp s1.2.2 ^^^ Zp (u64.wrap (s1.2.2*2 ^ 13))).toNat) (2 ^ 7))).toNat)*2 ^ 17))).toNat) &&& Zp (u64.wrap (x0-1))).toNat))-(w64 (c-b)))))).toNat x4) (Zd (ih _)))))))))
  (yG fun x6 hx6=>
  Ze (Zi rfl hx6) (yG fun x7 hx7=>
  Ze (Zi rfl hx7) (Ze (Z4 rfl hx7) (Ze (Zi rfl hx7) (Zj (ZI Zm s1.2.1 s1.1.toNat x6) (yG fun x8 hx8=>
  Ze (Zi rfl hx8) (Zj (ZI Zm (List.set s1.2.1 s1.1.toNat x6) (w64 (b+(w64 (u64.wrap (Zp (u64.wrap (Zp (u64.wrap (Zp (u64.wrap (Zp s1.2.2 ^^^ Zp (u64.wrap (s1.2.2*2 ^ 13))).toNat) ^^^ Zp (Int.fdiv (u64.wrap (Zp s1.2.2 ^^^ Zp (u64.wrap (s1.2.2*2 ^ 13))).toNat) (2 ^ 7))).toNat) ^^^ Zp (u64.wrap ((u64.wrap (Zp (u64.wrap (Zp s1.2.2 ^^^ Zp (u64.wrap (s1.2.2*2 ^ 13))).toNat) ^^^ Zp (Int.fdiv (u64.wrap (Zp s1.2.2 ^^^ Zp (u64.wrap (s1.2.2*2 ^ 13))).toNat) (2 ^ 7))).toNat)*2 ^ 17))).toNat) &&& Zp (u64.wrap (x0-1))).toNat)))).toNat x7) (Zd (ih _))))))))))
  (Zk rfl))
theorem ZbJ {t0 t1:Bool}{t2 t3:Bool}{b c:Int}{mG:List Int}{mA mE:Int}{mD:List Z1}{mF:List Zr}{mB:List Zh}{mC:List Zt}:∀r,(Zad b c (fun z0 z1=>Zv z0 z1 mB) mG)=some r->evW ctx 147 [(.sl 0 1),(zN b),(zN c),(.fn 143 [(.ptr 1 0)])] [(zA mG),(zK0 mA mE t0 mD t1 mF t2 mB t3 mC)]=some ((ZdW t0 t1 t2 t3 b c mG mA mE mD mF mB mC) r):=
 evS Zx1 rfl rfl <| yB (yC Zgv fun x0 _=>
  yF (Zc _ (Zdh _) fun r9 _=>
  yR))
  yR
def Za (t0:Bool) (t1:Bool) (t2:Bool) (t3:Bool) (b:Int) (c:Int) (d:Int) (mG:List Int) (mA:Int) (mE:Int) (mD:List Z1) (mF:List Zr) (mB:List Zh) (mC:List Zt):(List Int)->V×Zl
  | r=>((.d (D.tup [])),[(zA r),(zK0 mA mE t0 mD t1 mF t2 mB t3 mC)])
def Zb8 (t0:Bool) (t1:Bool) (t2:Bool) (t3:Bool) (mA:Int) (mE:Int) (mD:List Z1) (mF:List Zr) (mB:List Zh) (mC:List Zt) (rc:Int->Int->Int->(Int->Int->Option Int)->(List Int)->Option (List Int)):(List Int)->Ex×List V×Zl
  | r=>(.ret,[],[(zA r),(zK0 mA mE t0 mD t1 mF t2 mB t3 mC)])
theorem Zev {t0 t1:Bool}{t2 t3:Bool}{mA mE:Int}{mD:List Z1}{mF:List Zr}{mB:List Zh}{mC:List Zt}{rc:Int->Int->Int->(Int->Int->Option Int)->(List Int)->Option (List Int)} (hrc:∀(t0:Bool) (t1:Bool) (t2:Bool) (t3:Bool) (b:Int) (c:Int) (d:Int) (mG:List Int) (mA:Int) (mE:Int) (mD:List Z1) (mF:List Zr) (mB:List Zh) (mC:List Zt) (r:List Int),rc b c d (fun z0 z1=>Zv z0 z1 mB) mG=some r->evW ctx 122 [(.sl 0 1),(zN b),(zN c),(zN d),(.fn 143 [(.ptr 1 0)])] [(zA mG),(zK0 mA mE t0 mD t1 mF t2 mB t3 mC)]=some ((Za t0 t1 t2 t3 b c d mG mA mE mD mF mB mC) r)):∀(s0:Int×Int×Int×Bool×Bool×(List Int)) (r:List Int),lp (Zz (fun z0 z1=>Zv z0 z1 mB) rc) s0=some r->lpW ctx 2 [0,1,2,3,4,10,11] [] ZuV [(.sl 0 1),(zN s0.1),(zN s0.2.1),(zN s0.2.2.1),(.fn 143 [(.ptr 1 0)]),(.d (D.bool s0.2.2.2.1)),(.d (D.bool s0.2.2.2.2.1))] [(zA s0.2.2.2.2.2),(zK0 mA mE t0 mD t1 mF t2 mB t3 mC)]=some ((Zb8 t0 t1 t2 t3 mA mE mD mF mB mC rc) r):=
 lpT (Zb8 t0 t1 t2 t3 mA mE mD mF mB mC rc) fun s0 _ ih=>(by
 try unfold Zz
 rcases hb:s0.2.2.2.1 with _ | _
 exact Zpt (by
 try unfold Zz
 rcases hb:s0.2.2.2.2.1 with _ | _
 exact Zpt (yB (Zc _ Zac fun x170 _=>
  Zk rfl)
  (yB (Zc _ Zaq fun x171 _=>
  Zk rfl)
  (Zc _ ZbJ fun x172 _=>
  Zc _ Zai fun x173 _=>
  yB (Zc _ Zah fun x174 _=>
  yB (yG fun x175 hx175=>
  Ze (Zi rfl hx175) (yG fun x176 hx176=>
  Ze (Zi rfl hx176) (yC ZG fun x177 _=>
  yB ((by
 conv=>rhs;whnf
 refine Zc _ Zn fun x178 _=>?_
 rcases x178 with x178 | x178
 exact yT (yF (yB (yB (Zc (Za t0 t1 t2 t3 s0.1 x178.1 (w64 (s0.2.2.1-1)) x178.2 mA mE mD mF mB mC) (hrc t0 t1 t2 t3 s0.1 x178.1 (w64 (s0.2.2.1-1)) x178.2 mA mE mD mF mB mC) fun x179 _=>
  Zd (ih _))
  (Zc (Za t0 t1 t2 t3 s0.1 x178.1 (w64 (s0.2.2.1-1)) x178.2 mA mE mD mF mB mC) (hrc t0 t1 t2 t3 s0.1 x178.1 (w64 (s0.2.2.1-1)) x178.2 mA mE mD mF mB mC) fun x180 _=>
  Zd (ih _)))
  (yB (Zc (Za t0 t1 t2 t3 (w64 (x178.1+1)) s0.2.1 (w64 (s0.2.2.1-1)) x178.2 mA mE mD mF mB mC) (hrc t0 t1 t2 t3 (w64 (x178.1+1)) s0.2.1 (w64 (s0.2.2.1-1)) x178.2 mA mE mD mF mB mC) fun x181 _=>
  Zd (ih _))
  (Zc (Za t0 t1 t2 t3 (w64 (x178.1+1)) s0.2.1 (w64 (s0.2.2.1-1)) x178.2 mA mE mD mF mB mC) (hrc t0 t1 t2 t3 (w64 (x178.1+1)) s0.2.1 (w64 (s0.2.2.1-1)) x178.2 mA mE mD mF mB mC) fun x182 _=>
  Zd (ih _)))))
 exact yF (yF (yB (yB (Zc (Za t0 t1 t2 t3 s0.1 x178.1 (w64 (s0.2.2.1-1)) x178.2 mA mE mD mF mB mC) (hrc t0 t1 t2 t3 s0.1 x178.1 (w64 (s0.2.2.1-1)) x178.2 mA mE mD mF mB mC) fun x183 _=>
  Zd (ih _))
  (Zc (Za t0 t1 t2 t3 s0.1 x178.1 (w64 (s0.2.2.1-1)) x178.2 mA mE mD mF mB mC) (hrc t0 t1 t2 t3 s0.1 x178.1 (w64 (s0.2.2.1-1)) x178.2 mA mE mD mF mB mC) fun x184 _=>
  Zd (ih _)))
  (yB (Zc (Za t0 t1 t2 t3 (w64 (x178.1+1)) s0.2.1 (w64 (s0.2.2.1-1)) x178.2 mA mE mD mF mB mC) (hrc t0 t1 t2 t3 (w64 (x178.1+1)) s0.2.1 (w64 (s0.2.2.1-1)) x178.2 mA mE mD mF mB mC) fun x185 _=>
  Zd (ih _))
  (Zc (Za t0 t1 t2 t3 (w64 (x178.1+1)) s0.2.1 (w64 (s0.2.2.1-1)) x178.2 mA mE mD mF mB mC) (hrc t0 t1 t2 t3 (w64 (x178.1+1)) s0.2.1 (w64 (s0.2.2.1-1)) x178.2 mA mE mD mF mB mC) fun x186 _=>
  Zd (ih _)))))))
  (Zc _ Zy fun x187 _=>
  Zd (ih _)))))
  (by
 conv=>rhs;whnf
 refine Zc _ Zn fun x188 _=>?_
 rcases x188 with x188 | x188
 exact yT (yF (yB (yB (Zc (Za t0 t1 t2 t3 s0.1 x188.1 (w64 (s0.2.2.1-1)) x188.2 mA mE mD mF mB mC) (hrc t0 t1 t2 t3 s0.1 x188.1 (w64 (s0.2.2.1-1)) x188.2 mA mE mD mF mB mC) fun x189 _=>
  Zd (ih _))
  (Zc (Za t0 t1 t2 t3 s0.1 x188.1 (w64 (s0.2.2.1-1)) x188.2 mA mE mD mF mB mC) (hrc t0 t1 t2 t3 s0.1 x188.1 (w64 (s0.2.2.1-1)) x188.2 mA mE mD mF mB mC) fun x190 _=>
  Zd (ih _)))
  (yB (Zc (Za t0 t1 t2 t3 (w64 (x188.1+1)) s0.2.1 (w64 (s0.2.2.1-1)) x188.2 mA mE mD mF mB mC) (hrc t0 t1 t2 t3 (w64 (x188.1+1)) s0.2.1 (w64 (s0.2.2.1-1)) x188.2 mA mE mD mF mB mC) fun x191 _=>
  Zd (ih _))
  (Zc (Za t0 t1 t2 t3 (w64 (x188.1+1)) s0.2.1 (w64 (s0.2.2.1-1)) x188.2 mA mE mD mF mB mC) (hrc t0 t1 t2 t3 (w64 (x188.1+1)) s0.2.1 (w64 (s0.2.2.1-1)) x188.2 mA mE mD mF mB mC) fun x192 _=>
  Zd (ih _)))))
 exact yF (yF (yB (yB (Zc (Za t0 t1 t2 t3 s0.1 x188.1 (w64 (s0.2.2.1-1)) x188.2 mA mE mD mF mB mC) (hrc t0 t1 t2 t3 s0.1 x188.1 (w64 (s0.2.2.1-1)) x188.2 mA mE mD mF mB mC) fun x193 _=>
  Zd (ih _))
  (Zc (Za t0 t1 t2 t3 s0.1 x188.1 (w64 (s0.2.2.1-1)) x188.2 mA mE mD mF mB mC) (hrc t0 t1 t2 t3 s0.1 x188.1 (w64 (s0.2.2.1-1)) x188.2 mA mE mD mF mB mC) fun x194 _=>
  Zd (ih _)))
  (yB (Zc (Za t0 t1 t2 t3 (w64 (x188.1+1)) s0.2.1 (w64 (s0.2.2.1-1)) x188.2 mA mE mD mF mB mC) (hrc t0 t1 t2 t3 (w64 (x188.1+1)) s0.2.1 (w64 (s0.2.2.1-1)) x188.2 mA mE mD mF mB mC) fun x195 _=>
  Zd (ih _))
  (Zc (Za t0 t1 t2 t3 (w64 (x188.1+1)) s0.2.1 (w64 (s0.2.2.1-1)) x188.2 mA mE mD mF mB mC) (hrc t0 t1 t2 t3 (w64 (x188.1+1)) s0.2.1 (w64 (s0.2.2.1-1)) x188.2 mA mE mD mF mB mC) fun x196 _=>
  Zd (ih _)))))))
  (yB (yG fun x197 hx197=>
  Ze (Zi rfl hx197) (yG fun x198 hx198=>
  Ze (Zi rfl hx198) (yC ZG fun x199 _=>
  yB ((by
 conv=>rhs;whnf
 refine Zc _ Zn fun x200 _=>?_
 rcases x200 with x200 | x200
 exact yT (yF (yB (yB (Zc (Za t0 t1 t2 t3 s0.1 x200.1 (w64 (s0.2.2.1-1)) x200.2 mA mE mD mF mB mC) (hrc t0 t1 t2 t3 s0.1 x200.1 (w64 (s0.2.2.1-1)) x200.2 mA mE mD mF mB mC) fun x201 _=>
  Zd (ih _))
  (Zc (Za t0 t1 t2 t3 s0.1 x200.1 (w64 (s0.2.2.1-1)) x200.2 mA mE mD mF mB mC) (hrc t0 t1 t2 t3 s0.1 x200.1 (w64 (s0.2.2.1-1)) x200.2 mA mE mD mF mB mC) fun x202 _=>
  Zd (ih _)))
  (yB (Zc (Za t0 t1 t2 t3 (w64 (x200.1+1)) s0.2.1 (w64 (s0.2.2.1-1)) x200.2 mA mE mD mF mB mC) (hrc t0 t1 t2 t3 (w64 (x200.1+1)) s0.2.1 (w64 (s0.2.2.1-1)) x200.2 mA mE mD mF mB mC) fun x203 _=>
  Zd (ih _))
  (Zc (Za t0 t1 t2 t3 (w64 (x200.1+1)) s0.2.1 (w64 (s0.2.2.1-1)) x200.2 mA mE mD mF mB mC) (hrc t0 t1 t2 t3 (w64 (x200.1+1)) s0.2.1 (w64 (s0.2.2.1-1)) x200.2 mA mE mD mF mB mC) fun x204 _=>
  Zd (ih _)))))
 exact yF (yF (yB (yB (Zc (Za t0 t1 t2 t3 s0.1 x200.1 (w64 (s0.2.2.1-1)) x200.2 mA mE mD mF mB mC) (hrc t0 t1 t2 t3 s0.1 x200.1 (w64 (s0.2.2.1-1)) x200.2 mA mE mD mF mB mC) fun x205 _=>
  Zd (ih _))
  (Zc (Za t0 t1 t2 t3 s0.1 x200.1 (w64 (s0.2.2.1-1)) x200.2 mA mE mD mF mB mC) (hrc t0 t1 t2 t3 s0.1 x200.1 (w64 (s0.2.2.1-1)) x200.2 mA mE mD mF mB mC) fun x206 _=>
  Zd (ih _)))
  (yB (Zc (Za t0 t1 t2 t3 (w64 (x200.1+1)) s0.2.1 (w64 (s0.2.2.1-1)) x200.2 mA mE mD mF mB mC) (hrc t0 t1 t2 t3 (w64 (x200.1+1)) s0.2.1 (w64 (s0.2.2.1-1)) x200.2 mA mE mD mF mB mC) fun x207 _=>
  Zd (ih _))
  (Zc (Za t0 t1 t2 t3 (w64 (x200.1+1)) s0.2.1 (w64 (s0.2.2.1-1)) x200.2 mA mE mD mF mB mC) (hrc t0 t1 t2 t3 (w64 (x200.1+1)) s0.2.1 (w64 (s0.2.2.1-1)) x200.2 mA mE mD mF mB mC) fun x208 _=>
  Zd (ih _)))))))
  (Zc _ Zy fun x209 _=>
  Zd (ih _)))))
  (by
 conv=>rhs;whnf
 refine Zc _ Zn fun x210 _=>?_
 rcases x210 with x210 | x210
 exact yT (yF (yB (yB (Zc (Za t0 t1 t2 t3 s0.1 x210.1 (w64 (s0.2.2.1-1)) x210.2 mA mE mD mF mB mC) (hrc t0 t1 t2 t3 s0.1 x210.1 (w64 (s0.2.2.1-1)) x210.2 mA mE mD mF mB mC) fun x211 _=>
  Zd (ih _))
  (Zc (Za t0 t1 t2 t3 s0.1 x210.1 (w64 (s0.2.2.1-1)) x210.2 mA mE mD mF mB mC) (hrc t0 t1 t2 t3 s0.1 x210.1 (w64 (s0.2.2.1-1)) x210.2 mA mE mD mF mB mC) fun x212 _=>
  Zd (ih _)))
  (yB (Zc (Za t0 t1 t2 t3 (w64 (x210.1+1)) s0.2.1 (w64 (s0.2.2.1-1)) x210.2 mA mE mD mF mB mC) (hrc t0 t1 t2 t3 (w64 (x210.1+1)) s0.2.1 (w64 (s0.2.2.1-1)) x210.2 mA mE mD mF mB mC) fun x213 _=>
  Zd (ih _))
  (Zc (Za t0 t1 t2 t3 (w64 (x210.1+1)) s0.2.1 (w64 (s0.2.2.1-1)) x210.2 mA mE mD mF mB mC) (hrc t0 t1 t2 t3 (w64 (x210.1+1)) s0.2.1 (w64 (s0.2.2.1-1)) x210.2 mA mE mD mF mB mC) fun x214 _=>
  Zd (ih _)))))
 exact yF (yF (yB (yB (Zc (Za t0 t1 t2 t3 s0.1 x210.1 (w64 (s0.2.2.1-1)) x210.2 mA mE mD mF mB mC) (hrc t0 t1 t2 t3 s0.1 x210.1 (w64 (s0.2.2.1-1)) x210.2 mA mE mD mF mB mC) fun x215 _=>
  Zd (ih _))
  (Zc (Za t0 t1 t2 t3 s0.1 x210.1 (w64 (s0.2.2.1-1)) x210.2 mA mE mD mF mB mC) (hrc t0 t1 t2 t3 s0.1 x210.1 (w64 (s0.2.2.1-1)) x210.2 mA mE mD mF mB mC) fun x216 _=>
  Zd (ih _)))
  (yB (Zc (Za t0 t1 t2 t3 (w64 (x210.1+1)) s0.2.1 (w64 (s0.2.2.1-1)) x210.2 mA mE mD mF mB mC) (hrc t0 t1 t2 t3 (w64 (x210.1+1)) s0.2.1 (w64 (s0.2.2.1-1)) x210.2 mA mE mD mF mB mC) fun x217 _=>
  Zd (ih _))
  (Zc (Za t0 t1 t2 t3 (w64 (x210.1+1)) s0.2.1 (w64 (s0.2.2.1-1)) x210.2 mA mE mD mF mB mC) (hrc t0 t1 t2 t3 (w64 (x210.1+1)) s0.2.1 (w64 (s0.2.2.1-1)) x210.2 mA mE mD mF mB mC) fun x218 _=>
  Zd (ih _))))))))))
 exact ZoT (yB (Zc _ Zac fun x121 _=>
  Zk rfl)
  (yB (Zc _ Zaq fun x122 _=>
  Zk rfl)
  (Zc _ ZbJ fun x123 _=>
  Zc _ Zai fun x124 _=>
  yB (Zc _ Zah fun x125 _=>
  yB (yG fun x126 hx126=>
  Ze (Zi rfl hx126) (yG fun x127 hx127=>
  Ze (Zi rfl hx127) (yC ZG fun x128 _=>
  yB ((by
 conv=>rhs;whnf
 refine Zc _ Zn fun x129 _=>?_
 rcases x129 with x129 | x129
 exact yT (yF (yB (yB (Zc (Za t0 t1 t2 t3 s0.1 x129.1 (w64 (s0.2.2.1-1)) x129.2 mA mE mD mF mB mC) (hrc t0 t1 t2 t3 s0.1 x129.1 (w64 (s0.2.2.1-1)) x129.2 mA mE mD mF mB mC) fun x130 _=>
  Zd (ih _))
  (Zc (Za t0 t1 t2 t3 s0.1 x129.1 (w64 (s0.2.2.1-1)) x129.2 mA mE mD mF mB mC) (hrc t0 t1 t2 t3 s0.1 x129.1 (w64 (s0.2.2.1-1)) x129.2 mA mE mD mF mB mC) fun x131 _=>
  Zd (ih _)))
  (yB (Zc (Za t0 t1 t2 t3 (w64 (x129.1+1)) s0.2.1 (w64 (s0.2.2.1-1)) x129.2 mA mE mD mF mB mC) (hrc t0 t1 t2 t3 (w64 (x129.1+1)) s0.2.1 (w64 (s0.2.2.1-1)) x129.2 mA mE mD mF mB mC) fun x132 _=>
  Zd (ih _))
  (Zc (Za t0 t1 t2 t3 (w64 (x129.1+1)) s0.2.1 (w64 (s0.2.2.1-1)) x129.2 mA mE mD mF mB mC) (hrc t0 t1 t2 t3 (w64 (x129.1+1)) s0.2.1 (w64 (s0.2.2.1-1)) x129.2 mA mE mD mF mB mC) fun x133 _=>
  Zd (ih _)))))
 exact yF (yF (yB (yB (Zc (Za t0 t1 t2 t3 s0.1 x129.1 (w64 (s0.2.2.1-1)) x129.2 mA mE mD mF mB mC) (hrc t0 t1 t2 t3 s0.1 x129.1 (w64 (s0.2.2.1-1)) x129.2 mA mE mD mF mB mC) fun x134 _=>
  Zd (ih _))
  (Zc (Za t0 t1 t2 t3 s0.1 x129.1 (w64 (s0.2.2.1-1)) x129.2 mA mE mD mF mB mC) (hrc t0 t1 t2 t3 s0.1 x129.1 (w64 (s0.2.2.1-1)) x129.2 mA mE mD mF mB mC) fun x135 _=>
  Zd (ih _)))
  (yB (Zc (Za t0 t1 t2 t3 (w64 (x129.1+1)) s0.2.1 (w64 (s0.2.2.1-1)) x129.2 mA mE mD mF mB mC) (hrc t0 t1 t2 t3 (w64 (x129.1+1)) s0.2.1 (w64 (s0.2.2.1-1)) x129.2 mA mE mD mF mB mC) fun x136 _=>
  Zd (ih _))
  (Zc (Za t0 t1 t2 t3 (w64 (x129.1+1)) s0.2.1 (w64 (s0.2.2.1-1)) x129.2 mA mE mD mF mB mC) (hrc t0 t1 t2 t3 (w64 (x129.1+1)) s0.2.1 (w64 (s0.2.2.1-1)) x129.2 mA mE mD mF mB mC) fun x137 _=>
  Zd (ih _)))))))
  (Zc _ Zy fun x138 _=>
  Zd (ih _)))))
  (by
 conv=>rhs;whnf
 refine Zc _ Zn fun x139 _=>?_
 rcases x139 with x139 | x139
 exact yT (yF (yB (yB (Zc (Za t0 t1 t2 t3 s0.1 x139.1 (w64 (s0.2.2.1-1)) x139.2 mA mE mD mF mB mC) (hrc t0 t1 t2 t3 s0.1 x139.1 (w64 (s0.2.2.1-1)) x139.2 mA mE mD mF mB mC) fun x140 _=>
  Zd (ih _))
  (Zc (Za t0 t1 t2 t3 s0.1 x139.1 (w64 (s0.2.2.1-1)) x139.2 mA mE mD mF mB mC) (hrc t0 t1 t2 t3 s0.1 x139.1 (w64 (s0.2.2.1-1)) x139.2 mA mE mD mF mB mC) fun x141 _=>
  Zd (ih _)))
  (yB (Zc (Za t0 t1 t2 t3 (w64 (x139.1+1)) s0.2.1 (w64 (s0.2.2.1-1)) x139.2 mA mE mD mF mB mC) (hrc t0 t1 t2 t3 (w64 (x139.1+1)) s0.2.1 (w64 (s0.2.2.1-1)) x139.2 mA mE mD mF mB mC) fun x142 _=>
  Zd (ih _))
  (Zc (Za t0 t1 t2 t3 (w64 (x139.1+1)) s0.2.1 (w64 (s0.2.2.1-1)) x139.2 mA mE mD mF mB mC) (hrc t0 t1 t2 t3 (w64 (x139.1+1)) s0.2.1 (w64 (s0.2.2.1-1)) x139.2 mA mE mD mF mB mC) fun x143 _=>
  Zd (ih _)))))
 exact yF (yF (yB (yB (Zc (Za t0 t1 t2 t3 s0.1 x139.1 (w64 (s0.2.2.1-1)) x139.2 mA mE mD mF mB mC) (hrc t0 t1 t2 t3 s0.1 x139.1 (w64 (s0.2.2.1-1)) x139.2 mA mE mD mF mB mC) fun x144 _=>
  Zd (ih _))
  (Zc (Za t0 t1 t2 t3 s0.1 x139.1 (w64 (s0.2.2.1-1)) x139.2 mA mE mD mF mB mC) (hrc t0 t1 t2 t3 s0.1 x139.1 (w64 (s0.2.2.1-1)) x139.2 mA mE mD mF mB mC) fun x145 _=>
  Zd (ih _)))
  (yB (Zc (Za t0 t1 t2 t3 (w64 (x139.1+1)) s0.2.1 (w64 (s0.2.2.1-1)) x139.2 mA mE mD mF mB mC) (hrc t0 t1 t2 t3 (w64 (x139.1+1)) s0.2.1 (w64 (s0.2.2.1-1)) x139.2 mA mE mD mF mB mC) fun x146 _=>
  Zd (ih _))
  (Zc (Za t0 t1 t2 t3 (w64 (x139.1+1)) s0.2.1 (w64 (s0.2.2.1-1)) x139.2 mA mE mD mF mB mC) (hrc t0 t1 t2 t3 (w64 (x139.1+1)) s0.2.1 (w64 (s0.2.2.1-1)) x139.2 mA mE mD mF mB mC) fun x147 _=>
  Zd (ih _)))))))
  (yB (yG fun x148 hx148=>
  Ze (Zi rfl hx148) (yG fun x149 hx149=>
  Ze (Zi rfl hx149) (yC ZG fun x150 _=>
  yB ((by
 conv=>rhs;whnf
 refine Zc _ Zn fun x151 _=>?_
 rcases x151 with x151 | x151
 exact yT (yF (yB (yB (Zc (Za t0 t1 t2 t3 s0.1 x151.1 (w64 (s0.2.2.1-1)) x151.2 mA mE mD mF mB mC) (hrc t0 t1 t2 t3 s0.1 x151.1 (w64 (s0.2.2.1-1)) x151.2 mA mE mD mF mB mC) fun x152 _=>
  Zd (ih _))
  (Zc (Za t0 t1 t2 t3 s0.1 x151.1 (w64 (s0.2.2.1-1)) x151.2 mA mE mD mF mB mC) (hrc t0 t1 t2 t3 s0.1 x151.1 (w64 (s0.2.2.1-1)) x151.2 mA mE mD mF mB mC) fun x153 _=>
  Zd (ih _)))
  (yB (Zc (Za t0 t1 t2 t3 (w64 (x151.1+1)) s0.2.1 (w64 (s0.2.2.1-1)) x151.2 mA mE mD mF mB mC) (hrc t0 t1 t2 t3 (w64 (x151.1+1)) s0.2.1 (w64 (s0.2.2.1-1)) x151.2 mA mE mD mF mB mC) fun x154 _=>
  Zd (ih _))
  (Zc (Za t0 t1 t2 t3 (w64 (x151.1+1)) s0.2.1 (w64 (s0.2.2.1-1)) x151.2 mA mE mD mF mB mC) (hrc t0 t1 t2 t3 (w64 (x151.1+1)) s0.2.1 (w64 (s0.2.2.1-1)) x151.2 mA mE mD mF mB mC) fun x155 _=>
  Zd (ih _)))))
 exact yF (yF (yB (yB (Zc (Za t0 t1 t2 t3 s0.1 x151.1 (w64 (s0.2.2.1-1)) x151.2 mA mE mD mF mB mC) (hrc t0 t1 t2 t3 s0.1 x151.1 (w64 (s0.2.2.1-1)) x151.2 mA mE mD mF mB mC) fun x156 _=>
  Zd (ih _))
  (Zc (Za t0 t1 t2 t3 s0.1 x151.1 (w64 (s0.2.2.1-1)) x151.2 mA mE mD mF mB mC) (hrc t0 t1 t2 t3 s0.1 x151.1 (w64 (s0.2.2.1-1)) x151.2 mA mE mD mF mB mC) fun x157 _=>
  Zd (ih _)))
  (yB (Zc (Za t0 t1 t2 t3 (w64 (x151.1+1)) s0.2.1 (w64 (s0.2.2.1-1)) x151.2 mA mE mD mF mB mC) (hrc t0 t1 t2 t3 (w64 (x151.1+1)) s0.2.1 (w64 (s0.2.2.1-1)) x151.2 mA mE mD mF mB mC) fun x158 _=>
  Zd (ih _))
  (Zc (Za t0 t1 t2 t3 (w64 (x151.1+1)) s0.2.1 (w64 (s0.2.2.1-1)) x151.2 mA mE mD mF mB mC) (hrc t0 t1 t2 t3 (w64 (x151.1+1)) s0.2.1 (w64 (s0.2.2.1-1)) x151.2 mA mE mD mF mB mC) fun x159 _=>
  Zd (ih _)))))))
  (Zc _ Zy fun x160 _=>
  Zd (ih _)))))
  (by
 conv=>rhs;whnf
 refine Zc _ Zn fun x161 _=>?_
 rcases x161 with x161 | x161
 exact yT (yF (yB (yB (Zc (Za t0 t1 t2 t3 s0.1 x161.1 (w64 (s0.2.2.1-1)) x161.2 mA mE mD mF mB mC) (hrc t0 t1 t2 t3 s0.1 x161.1 (w64 (s0.2.2.1-1)) x161.2 mA mE mD mF mB mC) fun x162 _=>
  Zd (ih _))
  (Zc (Za t0 t1 t2 t3 s0.1 x161.1 (w64 (s0.2.2.1-1)) x161.2 mA mE mD mF mB mC) (hrc t0 t1 t2 t3 s0.1 x161.1 (w64 (s0.2.2.1-1)) x161.2 mA mE mD mF mB mC) fun x163 _=>
  Zd (ih _)))
  (yB (Zc (Za t0 t1 t2 t3 (w64 (x161.1+1)) s0.2.1 (w64 (s0.2.2.1-1)) x161.2 mA mE mD mF mB mC) (hrc t0 t1 t2 t3 (w64 (x161.1+1)) s0.2.1 (w64 (s0.2.2.1-1)) x161.2 mA mE mD mF mB mC) fun x164 _=>
  Zd (ih _))
  (Zc (Za t0 t1 t2 t3 (w64 (x161.1+1)) s0.2.1 (w64 (s0.2.2.1-1)) x161.2 mA mE mD mF mB mC) (hrc t0 t1 t2 t3 (w64 (x161.1+1)) s0.2.1 (w64 (s0.2.2.1-1)) x161.2 mA mE mD mF mB mC) fun x165 _=>
  Zd (ih _)))))
 exact yF (yF (yB (yB (Zc (Za t0 t1 t2 t3 s0.1 x161.1 (w64 (s0.2.2.1-1)) x161.2 mA mE mD mF mB mC) (hrc t0 t1 t2 t3 s0.1 x161.1 (w64 (s0.2.2.1-1)) x161.2 mA mE mD mF mB mC) fun x166 _=>
  Zd (ih _))
  (Zc (Za t0 t1 t2 t3 s0.1 x161.1 (w64 (s0.2.2.1-1)) x161.2 mA mE mD mF mB mC) (hrc t0 t1 t2 t3 s0.1 x161.1 (w64 (s0.2.2.1-1)) x161.2 mA mE mD mF mB mC) fun x167 _=>
  Zd (ih _)))
  (yB (Zc (Za t0 t1 t2 t3 (w64 (x161.1+1)) s0.2.1 (w64 (s0.2.2.1-1)) x161.2 mA mE mD mF mB mC) (hrc t0 t1 t2 t3 (w64 (x161.1+1)) s0.2.1 (w64 (s0.2.2.1-1)) x161.2 mA mE mD mF mB mC) fun x168 _=>
  Zd (ih _))
  (Zc (Za t0 t1 t2 t3 (w64 (x161.1+1)) s0.2.1 (w64 (s0.2.2.1-1)) x161.2 mA mE mD mF mB mC) (hrc t0 t1 t2 t3 (w64 (x161.1+1)) s0.2.1 (w64 (s0.2.2.1-1)) x161.2 mA mE mD mF mB mC) fun x169 _=>
  Zd (ih _)))))))))))
 exact ZoT (by
 try unfold Zz
 rcases hb:s0.2.2.2.2.1 with _ | _
 exact Zpt (yB (Zc _ Zac fun x73 _=>
  Zk rfl)
  (yB (Zc _ Zaq fun x74 _=>
  Zk rfl)
  (Zc _ Zai fun x75 _=>
  yB (Zc _ Zah fun x76 _=>
  yB (yG fun x77 hx77=>
  Ze (Zi rfl hx77) (yG fun x78 hx78=>
  Ze (Zi rfl hx78) (yC ZG fun x79 _=>
  yB ((by
 conv=>rhs;whnf
 refine Zc _ Zn fun x80 _=>?_
 rcases x80 with x80 | x80
 exact yT (yF (yB (yB (Zc (Za t0 t1 t2 t3 s0.1 x80.1 s0.2.2.1 x80.2 mA mE mD mF mB mC) (hrc t0 t1 t2 t3 s0.1 x80.1 s0.2.2.1 x80.2 mA mE mD mF mB mC) fun x81 _=>
  Zd (ih _))
  (Zc (Za t0 t1 t2 t3 s0.1 x80.1 s0.2.2.1 x80.2 mA mE mD mF mB mC) (hrc t0 t1 t2 t3 s0.1 x80.1 s0.2.2.1 x80.2 mA mE mD mF mB mC) fun x82 _=>
  Zd (ih _)))
  (yB (Zc (Za t0 t1 t2 t3 (w64 (x80.1+1)) s0.2.1 s0.2.2.1 x80.2 mA mE mD mF mB mC) (hrc t0 t1 t2 t3 (w64 (x80.1+1)) s0.2.1 s0.2.2.1 x80.2 mA mE mD mF mB mC) fun x83 _=>
  Zd (ih _))
  (Zc (Za t0 t1 t2 t3 (w64 (x80.1+1)) s0.2.1 s0.2.2.1 x80.2 mA mE mD mF mB mC) (hrc t0 t1 t2 t3 (w64 (x80.1+1)) s0.2.1 s0.2.2.1 x80.2 mA mE mD mF mB mC) fun x84 _=>
  Zd (ih _)))))
 exact yF (yF (yB (yB (Zc (Za t0 t1 t2 t3 s0.1 x80.1 s0.2.2.1 x80.2 mA mE mD mF mB mC) (hrc t0 t1 t2 t3 s0.1 x80.1 s0.2.2.1 x80.2 mA mE mD mF mB mC) fun x85 _=>
  Zd (ih _))
  (Zc (Za t0 t1 t2 t3 s0.1 x80.1 s0.2.2.1 x80.2 mA mE mD mF mB mC) (hrc t0 t1 t2 t3 s0.1 x80.1 s0.2.2.1 x80.2 mA mE mD mF mB mC) fun x86 _=>
  Zd (ih _)))
  (yB (Zc (Za t0 t1 t2 t3 (w64 (x80.1+1)) s0.2.1 s0.2.2.1 x80.2 mA mE mD mF mB mC) (hrc t0 t1 t2 t3 (w64 (x80.1+1)) s0.2.1 s0.2.2.1 x80.2 mA mE mD mF mB mC) fun x87 _=>
  Zd (ih _))
  (Zc (Za t0 t1 t2 t3 (w64 (x80.1+1)) s0.2.1 s0.2.2.1 x80.2 mA mE mD mF mB mC) (hrc t0 t1 t2 t3 (w64 (x80.1+1)) s0.2.1 s0.2.2.1 x80.2 mA mE mD mF mB mC) fun x88 _=>
  Zd (ih _)))))))
  (Zc _ Zy fun x89 _=>
  Zd (ih _)))))
  (by
 conv=>rhs;whnf
 refine Zc _ Zn fun x90 _=>?_
 rcases x90 with x90 | x90
 exact yT (yF (yB (yB (Zc (Za t0 t1 t2 t3 s0.1 x90.1 s0.2.2.1 x90.2 mA mE mD mF mB mC) (hrc t0 t1 t2 t3 s0.1 x90.1 s0.2.2.1 x90.2 mA mE mD mF mB mC) fun x91 _=>
  Zd (ih _))
  (Zc (Za t0 t1 t2 t3 s0.1 x90.1 s0.2.2.1 x90.2 mA mE mD mF mB mC) (hrc t0 t1 t2 t3 s0.1 x90.1 s0.2.2.1 x90.2 mA mE mD mF mB mC) fun x92 _=>
  Zd (ih _)))
  (yB (Zc (Za t0 t1 t2 t3 (w64 (x90.1+1)) s0.2.1 s0.2.2.1 x90.2 mA mE mD mF mB mC) (hrc t0 t1 t2 t3 (w64 (x90.1+1)) s0.2.1 s0.2.2.1 x90.2 mA mE mD mF mB mC) fun x93 _=>
  Zd (ih _))
  (Zc (Za t0 t1 t2 t3 (w64 (x90.1+1)) s0.2.1 s0.2.2.1 x90.2 mA mE mD mF mB mC) (hrc t0 t1 t2 t3 (w64 (x90.1+1)) s0.2.1 s0.2.2.1 x90.2 mA mE mD mF mB mC) fun x94 _=>
  Zd (ih _)))))
 exact yF (yF (yB (yB (Zc (Za t0 t1 t2 t3 s0.1 x90.1 s0.2.2.1 x90.2 mA mE mD mF mB mC) (hrc t0 t1 t2 t3 s0.1 x90.1 s0.2.2.1 x90.2 mA mE mD mF mB mC) fun x95 _=>
  Zd (ih _))
  (Zc (Za t0 t1 t2 t3 s0.1 x90.1 s0.2.2.1 x90.2 mA mE mD mF mB mC) (hrc t0 t1 t2 t3 s0.1 x90.1 s0.2.2.1 x90.2 mA mE mD mF mB mC) fun x96 _=>
  Zd (ih _)))
  (yB (Zc (Za t0 t1 t2 t3 (w64 (x90.1+1)) s0.2.1 s0.2.2.1 x90.2 mA mE mD mF mB mC) (hrc t0 t1 t2 t3 (w64 (x90.1+1)) s0.2.1 s0.2.2.1 x90.2 mA mE mD mF mB mC) fun x97 _=>
  Zd (ih _))
  (Zc (Za t0 t1 t2 t3 (w64 (x90.1+1)) s0.2.1 s0.2.2.1 x90.2 mA mE mD mF mB mC) (hrc t0 t1 t2 t3 (w64 (x90.1+1)) s0.2.1 s0.2.2.1 x90.2 mA mE mD mF mB mC) fun x98 _=>
  Zd (ih _)))))))
  (yB (yG fun x99 hx99=>
  Ze (Zi rfl hx99) (yG fun x100 hx100=>
  Ze (Zi rfl hx100) (yC ZG fun x101 _=>
  yB ((by
 conv=>rhs;whnf
 refine Zc _ Zn fun x102 _=>?_
 rcases x102 with x102 | x102
 exact yT (yF (yB (yB (Zc (Za t0 t1 t2 t3 s0.1 x102.1 s0.2.2.1 x102.2 mA mE mD mF mB mC) (hrc t0 t1 t2 t3 s0.1 x102.1 s0.2.2.1 x102.2 mA mE mD mF mB mC) fun x103 _=>
  Zd (ih _))
  (Zc (Za t0 t1 t2 t3 s0.1 x102.1 s0.2.2.1 x102.2 mA mE mD mF mB mC) (hrc t0 t1 t2 t3 s0.1 x102.1 s0.2.2.1 x102.2 mA mE mD mF mB mC) fun x104 _=>
  Zd (ih _)))
  (yB (Zc (Za t0 t1 t2 t3 (w64 (x102.1+1)) s0.2.1 s0.2.2.1 x102.2 mA mE mD mF mB mC) (hrc t0 t1 t2 t3 (w64 (x102.1+1)) s0.2.1 s0.2.2.1 x102.2 mA mE mD mF mB mC) fun x105 _=>
  Zd (ih _))
  (Zc (Za t0 t1 t2 t3 (w64 (x102.1+1)) s0.2.1 s0.2.2.1 x102.2 mA mE mD mF mB mC) (hrc t0 t1 t2 t3 (w64 (x102.1+1)) s0.2.1 s0.2.2.1 x102.2 mA mE mD mF mB mC) fun x106 _=>
  Zd (ih _)))))
 exact yF (yF (yB (yB (Zc (Za t0 t1 t2 t3 s0.1 x102.1 s0.2.2.1 x102.2 mA mE mD mF mB mC) (hrc t0 t1 t2 t3 s0.1 x102.1 s0.2.2.1 x102.2 mA mE mD mF mB mC) fun x107 _=>
  Zd (ih _))
  (Zc (Za t0 t1 t2 t3 s0.1 x102.1 s0.2.2.1 x102.2 mA mE mD mF mB mC) (hrc t0 t1 t2 t3 s0.1 x102.1 s0.2.2.1 x102.2 mA mE mD mF mB mC) fun x108 _=>
  Zd (ih _)))
  (yB (Zc (Za t0 t1 t2 t3 (w64 (x102.1+1)) s0.2.1 s0.2.2.1 x102.2 mA mE mD mF mB mC) (hrc t0 t1 t2 t3 (w64 (x102.1+1)) s0.2.1 s0.2.2.1 x102.2 mA mE mD mF mB mC) fun x109 _=>
  Zd (ih _))
  (Zc (Za t0 t1 t2 t3 (w64 (x102.1+1)) s0.2.1 s0.2.2.1 x102.2 mA mE mD mF mB mC) (hrc t0 t1 t2 t3 (w64 (x102.1+1)) s0.2.1 s0.2.2.1 x102.2 mA mE mD mF mB mC) fun x110 _=>
  Zd (ih _)))))))
  (Zc _ Zy fun x111 _=>
  Zd (ih _)))))
  (by
 conv=>rhs;whnf
 refine Zc _ Zn fun x112 _=>?_
 rcases x112 with x112 | x112
 exact yT (yF (yB (yB (Zc (Za t0 t1 t2 t3 s0.1 x112.1 s0.2.2.1 x112.2 mA mE mD mF mB mC) (hrc t0 t1 t2 t3 s0.1 x112.1 s0.2.2.1 x112.2 mA mE mD mF mB mC) fun x113 _=>
  Zd (ih _))
  (Zc (Za t0 t1 t2 t3 s0.1 x112.1 s0.2.2.1 x112.2 mA mE mD mF mB mC) (hrc t0 t1 t2 t3 s0.1 x112.1 s0.2.2.1 x112.2 mA mE mD mF mB mC) fun x114 _=>
  Zd (ih _)))
  (yB (Zc (Za t0 t1 t2 t3 (w64 (x112.1+1)) s0.2.1 s0.2.2.1 x112.2 mA mE mD mF mB mC) (hrc t0 t1 t2 t3 (w64 (x112.1+1)) s0.2.1 s0.2.2.1 x112.2 mA mE mD mF mB mC) fun x115 _=>
  Zd (ih _))
  (Zc (Za t0 t1 t2 t3 (w64 (x112.1+1)) s0.2.1 s0.2.2.1 x112.2 mA mE mD mF mB mC) (hrc t0 t1 t2 t3 (w64 (x112.1+1)) s0.2.1 s0.2.2.1 x112.2 mA mE mD mF mB mC) fun x116 _=>
  Zd (ih _)))))
 exact yF (yF (yB (yB (Zc (Za t0 t1 t2 t3 s0.1 x112.1 s0.2.2.1 x112.2 mA mE mD mF mB mC) (hrc t0 t1 t2 t3 s0.1 x112.1 s0.2.2.1 x112.2 mA mE mD mF mB mC) fun x117 _=>
  Zd (ih _))
  (Zc (Za t0 t1 t2 t3 s0.1 x112.1 s0.2.2.1 x112.2 mA mE mD mF mB mC) (hrc t0 t1 t2 t3 s0.1 x112.1 s0.2.2.1 x112.2 mA mE mD mF mB mC) fun x118 _=>
  Zd (ih _)))
  (yB (Zc (Za t0 t1 t2 t3 (w64 (x112.1+1)) s0.2.1 s0.2.2.1 x112.2 mA mE mD mF mB mC) (hrc t0 t1 t2 t3 (w64 (x112.1+1)) s0.2.1 s0.2.2.1 x112.2 mA mE mD mF mB mC) fun x119 _=>
  Zd (ih _))
  (Zc (Za t0 t1 t2 t3 (w64 (x112.1+1)) s0.2.1 s0.2.2.1 x112.2 mA mE mD mF mB mC) (hrc t0 t1 t2 t3 (w64 (x112.1+1)) s0.2.1 s0.2.2.1 x112.2 mA mE mD mF mB mC) fun x120 _=>
  Zd (ih _))))))))))
 exact ZoT (yB (Zc _ Zac fun x1 _=>
  Zk rfl)
  (yB (Zc _ Zaq fun x2 _=>
  Zk rfl)
  (Zc _ Zai fun x3 _=>
  yB (Zc _ Zah fun x4 _=>
  yT (by
 conv=>rhs;whnf
 refine Zc _ Zbe fun x5 _=>?_
 rcases x5 with x5 | x5
 exact Zk rfl
 exact yB (yG fun x6 hx6=>
  Ze (Zi rfl hx6) (yG fun x7 hx7=>
  Ze (Zi rfl hx7) (yC ZG fun x8 _=>
  yB ((by
 conv=>rhs;whnf
 refine Zc _ Zn fun x9 _=>?_
 rcases x9 with x9 | x9
 exact yT (yF (yB (yB (Zc (Za t0 t1 t2 t3 s0.1 x9.1 s0.2.2.1 x9.2 mA mE mD mF mB mC) (hrc t0 t1 t2 t3 s0.1 x9.1 s0.2.2.1 x9.2 mA mE mD mF mB mC) fun x10 _=>
  Zd (ih _))
  (Zc (Za t0 t1 t2 t3 s0.1 x9.1 s0.2.2.1 x9.2 mA mE mD mF mB mC) (hrc t0 t1 t2 t3 s0.1 x9.1 s0.2.2.1 x9.2 mA mE mD mF mB mC) fun x11 _=>
  Zd (ih _)))
  (yB (Zc (Za t0 t1 t2 t3 (w64 (x9.1+1)) s0.2.1 s0.2.2.1 x9.2 mA mE mD mF mB mC) (hrc t0 t1 t2 t3 (w64 (x9.1+1)) s0.2.1 s0.2.2.1 x9.2 mA mE mD mF mB mC) fun x12 _=>
  Zd (ih _))
  (Zc (Za t0 t1 t2 t3 (w64 (x9.1+1)) s0.2.1 s0.2.2.1 x9.2 mA mE mD mF mB mC) (hrc t0 t1 t2 t3 (w64 (x9.1+1)) s0.2.1 s0.2.2.1 x9.2 mA mE mD mF mB mC) fun x13 _=>
  Zd (ih _)))))
 exact yF (yF (yB (yB (Zc (Za t0 t1 t2 t3 s0.1 x9.1 s0.2.2.1 x9.2 mA mE mD mF mB mC) (hrc t0 t1 t2 t3 s0.1 x9.1 s0.2.2.1 x9.2 mA mE mD mF mB mC) fun x14 _=>
  Zd (ih _))
  (Zc (Za t0 t1 t2 t3 s0.1 x9.1 s0.2.2.1 x9.2 mA mE mD mF mB mC) (hrc t0 t1 t2 t3 s0.1 x9.1 s0.2.2.1 x9.2 mA mE mD mF mB mC) fun x15 _=>
  Zd (ih _)))
  (yB (Zc (Za t0 t1 t2 t3 (w64 (x9.1+1)) s0.2.1 s0.2.2.1 x9.2 mA mE mD mF mB mC) (hrc t0 t1 t2 t3 (w64 (x9.1+1)) s0.2.1 s0.2.2.1 x9.2 mA mE mD mF mB mC) fun x16 _=>
  Zd (ih _))
  (Zc (Za t0 t1 t2 t3 (w64 (x9.1+1)) s0.2.1 s0.2.2.1 x9.2 mA mE mD mF mB mC) (hrc t0 t1 t2 t3 (w64 (x9.1+1)) s0.2.1 s0.2.2.1 x9.2 mA mE mD mF mB mC) fun x17 _=>
  Zd (ih _)))))))
  (Zc _ Zy fun x18 _=>
  Zd (ih _)))))
  (by
 conv=>rhs;whnf
 refine Zc _ Zn fun x19 _=>?_
 rcases x19 with x19 | x19
 exact yT (yF (yB (yB (Zc (Za t0 t1 t2 t3 s0.1 x19.1 s0.2.2.1 x19.2 mA mE mD mF mB mC) (hrc t0 t1 t2 t3 s0.1 x19.1 s0.2.2.1 x19.2 mA mE mD mF mB mC) fun x20 _=>
  Zd (ih _))
  (Zc (Za t0 t1 t2 t3 s0.1 x19.1 s0.2.2.1 x19.2 mA mE mD mF mB mC) (hrc t0 t1 t2 t3 s0.1 x19.1 s0.2.2.1 x19.2 mA mE mD mF mB mC) fun x21 _=>
  Zd (ih _)))
  (yB (Zc (Za t0 t1 t2 t3 (w64 (x19.1+1)) s0.2.1 s0.2.2.1 x19.2 mA mE mD mF mB mC) (hrc t0 t1 t2 t3 (w64 (x19.1+1)) s0.2.1 s0.2.2.1 x19.2 mA mE mD mF mB mC) fun x22 _=>
  Zd (ih _))
  (Zc (Za t0 t1 t2 t3 (w64 (x19.1+1)) s0.2.1 s0.2.2.1 x19.2 mA mE mD mF mB mC) (hrc t0 t1 t2 t3 (w64 (x19.1+1)) s0.2.1 s0.2.2.1 x19.2 mA mE mD mF mB mC) fun x23 _=>
  Zd (ih _)))))
 exact yF (yF (yB (yB (Zc (Za t0 t1 t2 t3 s0.1 x19.1 s0.2.2.1 x19.2 mA mE mD mF mB mC) (hrc t0 t1 t2 t3 s0.1 x19.1 s0.2.2.1 x19.2 mA mE mD mF mB mC) fun x24 _=>
  Zd (ih _))
  (Zc (Za t0 t1 t2 t3 s0.1 x19.1 s0.2.2.1 x19.2 mA mE mD mF mB mC) (hrc t0 t1 t2 t3 s0.1 x19.1 s0.2.2.1 x19.2 mA mE mD mF mB mC) fun x25 _=>
  Zd (ih _)))
  (yB (Zc (Za t0 t1 t2 t3 (w64 (x19.1+1)) s0.2.1 s0.2.2.1 x19.2 mA mE mD mF mB mC) (hrc t0 t1 t2 t3 (w64 (x19.1+1)) s0.2.1 s0.2.2.1 x19.2 mA mE mD mF mB mC) fun x26 _=>
  Zd (ih _))
  (Zc (Za t0 t1 t2 t3 (w64 (x19.1+1)) s0.2.1 s0.2.2.1 x19.2 mA mE mD mF mB mC) (hrc t0 t1 t2 t3 (w64 (x19.1+1)) s0.2.1 s0.2.2.1 x19.2 mA mE mD mF mB mC) fun x27 _=>
  Zd (ih _))))))))
  (yB ((by
 conv=>rhs;whnf
 refine Zc _ Zbe fun x28 _=>?_
 rcases x28 with x28 | x28
 exact Zk rfl
 exact yB (yG fun x29 hx29=>
  Ze (Zi rfl hx29) (yG fun x30 hx30=>
  Ze (Zi rfl hx30) (yC ZG fun x31 _=>
  yB ((by
 conv=>rhs;whnf
 refine Zc _ Zn fun x32 _=>?_
 rcases x32 with x32 | x32
 exact yT (yF (yB (yB (Zc (Za t0 t1 t2 t3 s0.1 x32.1 s0.2.2.1 x32.2 mA mE mD mF mB mC) (hrc t0 t1 t2 t3 s0.1 x32.1 s0.2.2.1 x32.2 mA mE mD mF mB mC) fun x33 _=>
  Zd (ih _))
  (Zc (Za t0 t1 t2 t3 s0.1 x32.1 s0.2.2.1 x32.2 mA mE mD mF mB mC) (hrc t0 t1 t2 t3 s0.1 x32.1 s0.2.2.1 x32.2 mA mE mD mF mB mC) fun x34 _=>
  Zd (ih _)))
  (yB (Zc (Za t0 t1 t2 t3 (w64 (x32.1+1)) s0.2.1 s0.2.2.1 x32.2 mA mE mD mF mB mC) (hrc t0 t1 t2 t3 (w64 (x32.1+1)) s0.2.1 s0.2.2.1 x32.2 mA mE mD mF mB mC) fun x35 _=>
  Zd (ih _))
  (Zc (Za t0 t1 t2 t3 (w64 (x32.1+1)) s0.2.1 s0.2.2.1 x32.2 mA mE mD mF mB mC) (hrc t0 t1 t2 t3 (w64 (x32.1+1)) s0.2.1 s0.2.2.1 x32.2 mA mE mD mF mB mC) fun x36 _=>
  Zd (ih _)))))
 exact yF (yF (yB (yB (Zc (Za t0 t1 t2 t3 s0.1 x32.1 s0.2.2.1 x32.2 mA mE mD mF mB mC) (hrc t0 t1 t2 t3 s0.1 x32.1 s0.2.2.1 x32.2 mA mE mD mF mB mC) fun x37 _=>
  Zd (ih _))
  (Zc (Za t0 t1 t2 t3 s0.1 x32.1 s0.2.2.1 x32.2 mA mE mD mF mB mC) (hrc t0 t1 t2 t3 s0.1 x32.1 s0.2.2.1 x32.2 mA mE mD mF mB mC) fun x38 _=>
  Zd (ih _)))
  (yB (Zc (Za t0 t1 t2 t3 (w64 (x32.1+1)) s0.2.1 s0.2.2.1 x32.2 mA mE mD mF mB mC) (hrc t0 t1 t2 t3 (w64 (x32.1+1)) s0.2.1 s0.2.2.1 x32.2 mA mE mD mF mB mC) fun x39 _=>
  Zd (ih _))
  (Zc (Za t0 t1 t2 t3 (w64 (x32.1+1)) s0.2.1 s0.2.2.1 x32.2 mA mE mD mF mB mC) (hrc t0 t1 t2 t3 (w64 (x32.1+1)) s0.2.1 s0.2.2.1 x32.2 mA mE mD mF mB mC) fun x40 _=>
  Zd (ih _)))))))
  (Zc _ Zy fun x41 _=>
  Zd (ih _)))))
  (by
 conv=>rhs;whnf
 refine Zc _ Zn fun x42 _=>?_
 rcases x42 with x42 | x42
 exact yT (yF (yB (yB (Zc (Za t0 t1 t2 t3 s0.1 x42.1 s0.2.2.1 x42.2 mA mE mD mF mB mC) (hrc t0 t1 t2 t3 s0.1 x42.1 s0.2.2.1 x42.2 mA mE mD mF mB mC) fun x43 _=>
  Zd (ih _))
  (Zc (Za t0 t1 t2 t3 s0.1 x42.1 s0.2.2.1 x42.2 mA mE mD mF mB mC) (hrc t0 t1 t2 t3 s0.1 x42.1 s0.2.2.1 x42.2 mA mE mD mF mB mC) fun x44 _=>
  Zd (ih _)))
  (yB (Zc (Za t0 t1 t2 t3 (w64 (x42.1+1)) s0.2.1 s0.2.2.1 x42.2 mA mE mD mF mB mC) (hrc t0 t1 t2 t3 (w64 (x42.1+1)) s0.2.1 s0.2.2.1 x42.2 mA mE mD mF mB mC) fun x45 _=>
  Zd (ih _))
  (Zc (Za t0 t1 t2 t3 (w64 (x42.1+1)) s0.2.1 s0.2.2.1 x42.2 mA mE mD mF mB mC) (hrc t0 t1 t2 t3 (w64 (x42.1+1)) s0.2.1 s0.2.2.1 x42.2 mA mE mD mF mB mC) fun x46 _=>
  Zd (ih _)))))
 exact yF (yF (yB (yB (Zc (Za t0 t1 t2 t3 s0.1 x42.1 s0.2.2.1 x42.2 mA mE mD mF mB mC) (hrc t0 t1 t2 t3 s0.1 x42.1 s0.2.2.1 x42.2 mA mE mD mF mB mC) fun x47 _=>
  Zd (ih _))
  (Zc (Za t0 t1 t2 t3 s0.1 x42.1 s0.2.2.1 x42.2 mA mE mD mF mB mC) (hrc t0 t1 t2 t3 s0.1 x42.1 s0.2.2.1 x42.2 mA mE mD mF mB mC) fun x48 _=>
  Zd (ih _)))
  (yB (Zc (Za t0 t1 t2 t3 (w64 (x42.1+1)) s0.2.1 s0.2.2.1 x42.2 mA mE mD mF mB mC) (hrc t0 t1 t2 t3 (w64 (x42.1+1)) s0.2.1 s0.2.2.1 x42.2 mA mE mD mF mB mC) fun x49 _=>
  Zd (ih _))
  (Zc (Za t0 t1 t2 t3 (w64 (x42.1+1)) s0.2.1 s0.2.2.1 x42.2 mA mE mD mF mB mC) (hrc t0 t1 t2 t3 (w64 (x42.1+1)) s0.2.1 s0.2.2.1 x42.2 mA mE mD mF mB mC) fun x50 _=>
  Zd (ih _))))))))
  (yB (yG fun x51 hx51=>
  Ze (Zi rfl hx51) (yG fun x52 hx52=>
  Ze (Zi rfl hx52) (yC ZG fun x53 _=>
  yB ((by
 conv=>rhs;whnf
 refine Zc _ Zn fun x54 _=>?_
 rcases x54 with x54 | x54
 exact yT (yF (yB (yB (Zc (Za t0 t1 t2 t3 s0.1 x54.1 s0.2.2.1 x54.2 mA mE mD mF mB mC) (hrc t0 t1 t2 t3 s0.1 x54.1 s0.2.2.1 x54.2 mA mE mD mF mB mC) fun x55 _=>
  Zd (ih _))
  (Zc (Za t0 t1 t2 t3 s0.1 x54.1 s0.2.2.1 x54.2 mA mE mD mF mB mC) (hrc t0 t1 t2 t3 s0.1 x54.1 s0.2.2.1 x54.2 mA mE mD mF mB mC) fun x56 _=>
  Zd (ih _)))
  (yB (Zc (Za t0 t1 t2 t3 (w64 (x54.1+1)) s0.2.1 s0.2.2.1 x54.2 mA mE mD mF mB mC) (hrc t0 t1 t2 t3 (w64 (x54.1+1)) s0.2.1 s0.2.2.1 x54.2 mA mE mD mF mB mC) fun x57 _=>
  Zd (ih _))
  (Zc (Za t0 t1 t2 t3 (w64 (x54.1+1)) s0.2.1 s0.2.2.1 x54.2 mA mE mD mF mB mC) (hrc t0 t1 t2 t3 (w64 (x54.1+1)) s0.2.1 s0.2.2.1 x54.2 mA mE mD mF mB mC) fun x58 _=>
  Zd (ih _)))))
 exact yF (yF (yB (yB (Zc (Za t0 t1 t2 t3 s0.1 x54.1 s0.2.2.1 x54.2 mA mE mD mF mB mC) (hrc t0 t1 t2 t3 s0.1 x54.1 s0.2.2.1 x54.2 mA mE mD mF mB mC) fun x59 _=>
  Zd (ih _))
  (Zc (Za t0 t1 t2 t3 s0.1 x54.1 s0.2.2.1 x54.2 mA mE mD mF mB mC) (hrc t0 t1 t2 t3 s0.1 x54.1 s0.2.2.1 x54.2 mA mE mD mF mB mC) fun x60 _=>
  Zd (ih _)))
  (yB (Zc (Za t0 t1 t2 t3 (w64 (x54.1+1)) s0.2.1 s0.2.2.1 x54.2 mA mE mD mF mB mC) (hrc t0 t1 t2 t3 (w64 (x54.1+1)) s0.2.1 s0.2.2.1 x54.2 mA mE mD mF mB mC) fun x61 _=>
  Zd (ih _))
  (Zc (Za t0 t1 t2 t3 (w64 (x54.1+1)) s0.2.1 s0.2.2.1 x54.2 mA mE mD mF mB mC) (hrc t0 t1 t2 t3 (w64 (x54.1+1)) s0.2.1 s0.2.2.1 x54.2 mA mE mD mF mB mC) fun x62 _=>
  Zd (ih _)))))))
  (Zc _ Zy fun x63 _=>
  Zd (ih _)))))
  (by
 conv=>rhs;whnf
 refine Zc _ Zn fun x64 _=>?_
 rcases x64 with x64 | x64
 exact yT (yF (yB (yB (Zc (Za t0 t1 t2 t3 s0.1 x64.1 s0.2.2.1 x64.2 mA mE mD mF mB mC) (hrc t0 t1 t2 t3 s0.1 x64.1 s0.2.2.1 x64.2 mA mE mD mF mB mC) fun x65 _=>
  Zd (ih _))
  (Zc (Za t0 t1 t2 t3 s0.1 x64.1 s0.2.2.1 x64.2 mA mE mD mF mB mC) (hrc t0 t1 t2 t3 s0.1 x64.1 s0.2.2.1 x64.2 mA mE mD mF mB mC) fun x66 _=>
  Zd (ih _)))
  (yB (Zc (Za t0 t1 t2 t3 (w64 (x64.1+1)) s0.2.1 s0.2.2.1 x64.2 mA mE mD mF mB mC) (hrc t0 t1 t2 t3 (w64 (x64.1+1)) s0.2.1 s0.2.2.1 x64.2 mA mE mD mF mB mC) fun x67 _=>
  Zd (ih _))
  (Zc (Za t0 t1 t2 t3 (w64 (x64.1+1)) s0.2.1 s0.2.2.1 x64.2 mA mE mD mF mB mC) (hrc t0 t1 t2 t3 (w64 (x64.1+1)) s0.2.1 s0.2.2.1 x64.2 mA mE mD mF mB mC) fun x68 _=>
  Zd (ih _)))))
 exact yF (yF (yB (yB (Zc (Za t0 t1 t2 t3 s0.1 x64.1 s0.2.2.1 x64.2 mA mE mD mF mB mC) (hrc t0 t1 t2 t3 s0.1 x64.1 s0.2.2.1 x64.2 mA mE mD mF mB mC) fun x69 _=>
  Zd (ih _))
  (Zc (Za t0 t1 t2 t3 s0.1 x64.1 s0.2.2.1 x64.2 mA mE mD mF mB mC) (hrc t0 t1 t2 t3 s0.1 x64.1 s0.2.2.1 x64.2 mA mE mD mF mB mC) fun x70 _=>
  Zd (ih _)))
  (yB (Zc (Za t0 t1 t2 t3 (w64 (x64.1+1)) s0.2.1 s0.2.2.1 x64.2 mA mE mD mF mB mC) (hrc t0 t1 t2 t3 (w64 (x64.1+1)) s0.2.1 s0.2.2.1 x64.2 mA mE mD mF mB mC) fun x71 _=>
  Zd (ih _))
  (Zc (Za t0 t1 t2 t3 (w64 (x64.1+1)) s0.2.1 s0.2.2.1 x64.2 mA mE mD mF mB mC) (hrc t0 t1 t2 t3 (w64 (x64.1+1)) s0.2.1 s0.2.2.1 x64.2 mA mE mD mF mB mC) fun x72 _=>
  Zd (ih _)))))))))))))
theorem ZeF (rc:Int->Int->Int->(Int->Int->Option Int)->(List Int)->Option (List Int)) (hrc:∀(t0:Bool) (t1:Bool) (t2:Bool) (t3:Bool) (b:Int) (c:Int) (d:Int) (mG:List Int) (mA:Int) (mE:Int) (mD:List Z1) (mF:List Zr) (mB:List Zh) (mC:List Zt) (r:List Int),rc b c d (fun z0 z1=>Zv z0 z1 mB) mG=some r->evW ctx 122 [(.sl 0 1),(zN b),(zN c),(zN d),(.fn 143 [(.ptr 1 0)])] [(zA mG),(zK0 mA mE t0 mD t1 mF t2 mB t3 mC)]=some ((Za t0 t1 t2 t3 b c d mG mA mE mD mF mB mC) r)) (t0:Bool) (t1:Bool) (t2:Bool) (t3:Bool) (b:Int) (c:Int) (d:Int) (mG:List Int) (mA:Int) (mE:Int) (mD:List Z1) (mF:List Zr) (mB:List Zh) (mC:List Zt):∀r,(Zau rc b c d (fun z0 z1=>Zv z0 z1 mB) mG)=some r->evW ctx 122 [(.sl 0 1),(zN b),(zN c),(zN d),(.fn 143 [(.ptr 1 0)])] [(zA mG),(zK0 mA mE t0 mD t1 mF t2 mB t3 mC)]=some ((Za t0 t1 t2 t3 b c d mG mA mE mD mF mB mC) r):=
 evS ZxF rfl rfl <| Zc _ (Zev hrc _) fun r219 _=>
  yR
theorem Zb6:∀(n:Nat) (t0:Bool) (t1:Bool) (t2:Bool) (t3:Bool) (b:Int) (c:Int) (d:Int) (mG:List Int) (mA:Int) (mE:Int) (mD:List Z1) (mF:List Zr) (mB:List Zh) (mC:List Zt) (r:List Int),ZP n b c d (fun z0 z1=>Zv z0 z1 mB) mG=some r->evW ctx 122 [(.sl 0 1),(zN b),(zN c),(zN d),(.fn 143 [(.ptr 1 0)])] [(zA mG),(zK0 mA mE t0 mD t1 mF t2 mB t3 mC)]=some ((Za t0 t1 t2 t3 b c d mG mA mE mD mF mB mC) r)
  | 0,t0,t1,t2,t3,b,c,d,mG,mA,mE,mD,mF,mB,mC,r,h=>by cases h
  | n+1,t0,t1,t2,t3,b,c,d,mG,mA,mE,mD,mF,mB,mC,r,h=>ZeF (ZP n) (Zb6 n) t0 t1 t2 t3 b c d mG mA mE mD mF mB mC r h
theorem Zff {t0 t1:Bool}{t2 t3:Bool}{b c d:Int}{mG:List Int}{mA mE:Int}{mD:List Z1}{mF:List Zr}{mB:List Zh}{mC:List Zt}:∀r,ZcC b c d (fun z0 z1=>Zv z0 z1 mB) mG=some r->evW ctx 122 [(.sl 0 1),(zN b),(zN c),(zN d),(.fn 143 [(.ptr 1 0)])] [(zA mG),(zK0 mA mE t0 mD t1 mF t2 mB t3 mC)]=some ((Za t0 t1 t2 t3 b c d mG mA mE mD mF mB mC) r):=fun r h=>by
  obtain⟨n,hn⟩:=Zym h
  exact Zb6 n t0 t1 t2 t3 b c d mG mA mE mD mF mB mC r hn
def Zfr (t0:Bool) (t1:Bool) (t2:Bool) (t3:Bool) (mG:List Int) (mA:Int) (mE:Int) (mD:List Z1) (mF:List Zr) (mB:List Zh) (mC:List Zt):(List Int)->V×Zl
  | r=>((.d (D.tup [])),[(zA r),(zK0 mA mE t0 mD t1 mF t2 mB t3 mC)])
theorem Zfe {t0 t1:Bool}{t2 t3:Bool}{mG:List Int}{mA mE:Int}{mD:List Z1}{mF:List Zr}{mB:List Zh}{mC:List Zt}:∀r,(Zao (fun z0 z1=>Zv z0 z1 mB) mG)=some r->evW ctx 96 [(.sl 0 1),(.fn 143 [(.ptr 1 0)])] [(zA mG),(zK0 mA mE t0 mD t1 mF t2 mB t3 mC)]=some ((Zfr t0 t1 t2 t3 mG mA mE mD mF mB mC) r):=
 evS ZCY rfl rfl <| Zj (ZF _ _) (yC Zhg fun x0 _=>
  Zc _ Zff fun x1 _=>
  yR)
def ZoU (r:List Int):D:=(zL true r)
def ZiH (t0:Bool) (t1:Bool) (t2:Bool) (t3:Bool) (a:Zq) (b:Int):(List Int)->Ex×List V×Zl
  | r=>(.exit 0,[(.ptr 0 0),(.sl 1 1)],[(.cells (dV t0 t1 t2 t3 a)),(zA r)])
theorem Zme {t0 t1:Bool}{t2 t3:Bool}{a:Zq}{b:Int}:∀(s1:Int×(List Int)) (r:List Int),lp (ZeX a b) s1=some r->lpW ctx 0 [1,2,5,12,13,14] [2,5] ZxE [(zN b),(.ptr 0 0),(.sl 1 1),(zW t2 Z0 a.futures),(zN (a.futures.length:Int)),(zN s1.1)] [(.cells (dV t0 t1 t2 t3 a)),(zA s1.2)]=some ((ZiH t0 t1 t2 t3 a b) r):=
 lpT (ZiH t0 t1 t2 t3 a b) fun s1 _ ih=>yB (yG fun x2 _=>
  yB (yT (ZdJ (Zg9 Zm s1.2 1) (Zj (Zg8 Zm s1.2 [s1.1]) (Zd (ih _)))
  ZbQ))
  (Zd (ih _)))
  (Zk rfl)
theorem Zox {t0 t1:Bool}{t2 t3:Bool}{a:Zq}{b:Int}:∀r,(Zeg a b)=some r->evD ctx 115 [(.d (D.agg (dA t0 t1 t2 t3 a))),(zN b)]=some (ZoU r):=
 evT ZCb rfl rfl <| yC ZlG fun x0 _=>
  yBr (Zj (ZF _ _) (Zc _ (Zme _) fun r3 _=>
  Zc _ Zfe fun x4 _=>
  yR))
def ZlM (b:Zg) (c:Int) (mA:List Int) (mI:List Zr) (mH:List Zg) (mL:(List (Int×Int))) (mJ:(List (Int×Int))) (mK:(List (Zh×Int))):Unit->V×Zl
  | r=>((zN (w64 ((List.length (mH++[b]):Int)-1))),[(.cells [(.sl 7 1),(.sl 2 2),(.sl 8 2),(.mp 4),(.mp 5),(.mp 6)]),.dead,(.arr 2 (List.map ZaT mI)),.dead,(.mp (mpD Zm Zm mL)),(.mp (mpD Zm Zm mJ)),(.mp (mpD Z0 Zm mK)),(zA (mA++[c])),(.arr 2 (List.map ZbS (mH++[b])))])
theorem ZaM {b:Zg}{c:Int}{mA:List Int}{mI:List Zr}{mH:List Zg}{mL:(List (Int×Int))}{mJ:(List (Int×Int))}{mK:(List (Zh×Int))}:∀r,(Zar b c mA mH)=some r->evW ctx 87 [(.ptr 0 0),(.d (zK5 b.part b.step)),(zN c)] [(.cells [(.sl 1 1),(.sl 2 2),(.sl 3 2),(.mp 4),(.mp 5),(.mp 6)]),(zA mA),(.arr 2 (List.map ZaT mI)),(.arr 2 (List.map ZbS mH)),(.mp (mpD Zm Zm mL)),(.mp (mpD Zm Zm mJ)),(.mp (mpD Z0 Zm mK))]=some ((ZlM b c mA mI mH mL mJ mK) r):=
 evS ZFm rfl rfl <| yT (ZdJ (Zg9 ZbS mH 1) (Zj (Zg8 ZbS mH [b]) (yT (ZdJ (Zg9 Zm mA 1) (Zj (Zg8 Zm mA [c]) (Zj (ZF _ _) yR))
  ZbQ)))
  ZbQ)
def ZlQ (b:Int) (c:Int) (mA:List Int) (mI:List Zr) (mH:List Zg) (mL:(List (Int×Int))) (mJ:(List (Int×Int))) (mK:(List (Zh×Int))):Unit->V×Zl
  | r=>((.d (D.tup [])),[(.cells [(.sl 1 1),(.sl 7 2),(.sl 3 2),(.mp 4),(.mp 5),(.mp 6)]),(zA mA),.dead,(.arr 2 (List.map ZbS mH)),(.mp (mpD Zm Zm mL)),(.mp (mpD Zm Zm mJ)),(.mp (mpD Z0 Zm mK)),(.arr 2 (List.map ZaT (mI++[(Zr.mk b c)])))])
theorem Zas {b c:Int}{mA:List Int}{mI:List Zr}{mH:List Zg}{mL:(List (Int×Int))}{mJ:(List (Int×Int))}{mK:(List (Zh×Int))}:∀r,(ZL b c mI)=some r->evW ctx 86 [(.ptr 0 0),(zN b),(zN c)] [(.cells [(.sl 1 1),(.sl 2 2),(.sl 3 2),(.mp 4),(.mp 5),(.mp 6)]),(zA mA),(.arr 2 (List.map ZaT mI)),(.arr 2 (List.map ZbS mH)),(.mp (mpD Zm Zm mL)),(.mp (mpD Zm Zm mJ)),(.mp (mpD Z0 Zm mK))]=some ((ZlQ b c mA mI mH mL mJ mK) r):=
 evS ZFr rfl rfl <| yT (ZdJ (Zg9 ZaT mI 1) (Zj (Zg8 ZaT mI [(Zr.mk b c)]) yR)
  ZbQ)
def ZlN (t0:Bool) (t1:Bool) (t2:Bool) (t3:Bool) (b:Zq) (c:Int) (mA:List Int) (mI:List Zr) (mH:List Zg) (mL:(List (Int×Int))) (mJ:(List (Int×Int))) (mK:(List (Zh×Int))):(((List (Int×Int))×(List (Zh×Int))×(List Int)×(List Zr)×(List Zg))⊕((List Int)⊕Unit))->V×Zl
  | (.inl r)=>((.d (D.tup [])),[(.cells [(.sl 7 1),(.sl 8 2),(.sl 9 2),(.mp 4),(.mp 5),(.mp 6)]),.dead,.dead,.dead,(.mp (mpD Zm Zm (Zx zE mL c (mH.length:Int)))),(.mp (mpD Zm Zm r.1)),(.mp (mpD Z0 Zm r.2.1)),(zA r.2.2.1),(.arr 2 (List.map ZaT r.2.2.2.1)),(.arr 2 (List.map ZbS r.2.2.2.2))])
  | (.inr (.inl r))=>((.d (D.tup [])),[(.cells [(.sl 7 1),(.sl 2 2),(.sl 8 2),(.mp 4),(.mp 5),(.mp 6)]),.dead,(.arr 2 (List.map ZaT mI)),.dead,(.mp (mpD Zm Zm (Zx zE mL c (mH.length:Int)))),(.mp (mpD Zm Zm (Zx zE mJ c (w64 ((List.length (mH++[(Zg.mk c 0)]):Int)-1))))),(.mp (mpD Z0 Zm mK)),(zA r),(.arr 2 (List.map ZbS (mH++[(Zg.mk c 0)])))])
  | (.inr (.inr r))=>((.d (D.tup [])),[(.cells [(.sl 1 1),(.sl 2 2),(.sl 3 2),(.mp 4),(.mp 5),(.mp 6)]),(zA mA),(.arr 2 (List.map ZaT mI)),(.arr 2 (List.map ZbS mH)),(.mp (mpD Zm Zm (Zx zE mL c (mH.length:Int)))),(.mp (mpD Zm Zm mJ)),(.mp (mpD Z0 Zm mK))])
def Zg4 (t0:Bool) (t1:Bool) (t2:Bool) (t3:Bool) (b:Zq) (c:Int) (mH:List Zg) (mL:(List (Int×Int))) (x0:List Int):((List (Int×Int))×(List (Zh×Int))×(List Int)×(List Zr)×(List Zg))->Ex×List V×Zl
  | r=>(.exit 0,[],[(.cells [(.sl 7 1),(.sl 8 2),(.sl 9 2),(.mp 4),(.mp 5),(.mp 6)]),.dead,.dead,.dead,(.mp (mpD Zm Zm (Zx zE mL c (mH.length:Int)))),(.mp (mpD Zm Zm r.1)),(.mp (mpD Z0 Zm r.2.1)),(zA r.2.2.1),(.arr 2 (List.map ZaT r.2.2.2.1)),(.arr 2 (List.map ZbS r.2.2.2.2))])
theorem ZcS {t0 t1:Bool}{t2 t3:Bool}{b:Zq}{c:Int}{mH:List Zg}{mL:(List (Int×Int))}{x0:List Int}:∀(s14:Int×Int×(List (Int×Int))×(List (Zh×Int))×(List Int)×(List Zr)×(List Zg)) (r:((List (Int×Int))×(List (Zh×Int))×(List Int)×(List Zr)×(List Zg))),lp (ZD b c x0) s14=some r->lpW ctx 7 [0,2,4,6,7,26,27] [] ZrB [(.ptr 0 0),(zN c),(.ptr 7 0),(zN s14.1),(zV true x0),(zN (w64 ((x0.length:Int)+1))),(zN s14.2.1)] [(.cells [(.sl 8 1),(.sl 9 2),(.sl 10 2),(.mp 4),(.mp 5),(.mp 6)]),.dead,.dead,.dead,(.mp (mpD Zm Zm (Zx zE mL c (mH.length:Int)))),(.mp (mpD Zm Zm s14.2.2.1)),(.mp (mpD Z0 Zm s14.2.2.2.1)),(.cells (dV t0 t1 t2 t3 b)),(zA s14.2.2.2.2.1),(.arr 2 (List.map ZaT s14.2.2.2.2.2.1)),(.arr 2 (List.map ZbS s14.2.2.2.2.2.2))]=some ((Zg4 t0 t1 t2 t3 b c mH mL x0) r):=
 lpT (Zg4 t0 t1 t2 t3 b c mH mL x0) fun s14 _ ih=>yB (yG fun x15 _=>
  Zj (ZF _ _) (yB (yG fun x16 _=>
  yG fun x17 _=>
  Zc _ ZaM fun x18 _=>
  Ze (Zec (f:=Zm) (g:=Zm) zE (fun _ _=>rfl) s14.2.2.1 c (w64 ((List.length (s14.2.2.2.2.2.2++[(Zg.mk c s14.2.1)]):Int)-1))) (yB (Ze (ZbK (f:=Zm) (g:=Zm) zE (fun _ _=>rfl) (Zx zE s14.2.2.1 c (w64 ((List.length (s14.2.2.2.2.2.2++[(Zg.mk c s14.2.1)]):Int)-1))) c 0) (Ze (ZbK (f:=Zm) (g:=Zm) zE (fun _ _=>rfl) (Zx zE s14.2.2.1 c (w64 ((List.length (s14.2.2.2.2.2.2++[(Zg.mk c s14.2.1)]):Int)-1))) c 0) (Zc _ Zas fun x19 _=>
  yG fun x20 _=>
  yG fun x21 _=>
  Ze (ZbK (f:=Zm) (g:=Zm) zE (fun _ _=>rfl) (Zx zE s14.2.2.1 c (w64 ((List.length (s14.2.2.2.2.2.2++[(Zg.mk c s14.2.1)]):Int)-1))) c 0) (Ze (Zec (f:=Z0) (g:=Zm) (fun ka kb:Zh=>((ka.maker==kb.maker)&&((ka.user==kb.user)&&((ka.pos==kb.pos)&&true)))) (fun _ _=>rfl) s14.2.2.2.1 x21 (Z8 zE (Zx zE s14.2.2.1 c (w64 ((List.length (s14.2.2.2.2.2.2++[(Zg.mk c s14.2.1)]):Int)-1))) c 0)) (Zd (ih _))))))
  (Zd (ih _))))
  (Zc _ ZaM fun x22 _=>
  Ze (Zec (f:=Zm) (g:=Zm) zE (fun _ _=>rfl) s14.2.2.1 c (w64 ((List.length (s14.2.2.2.2.2.2++[(Zg.mk c s14.2.1)]):Int)-1))) (yB (Ze (ZbK (f:=Zm) (g:=Zm) zE (fun _ _=>rfl) (Zx zE s14.2.2.1 c (w64 ((List.length (s14.2.2.2.2.2.2++[(Zg.mk c s14.2.1)]):Int)-1))) c 0) (Ze (ZbK (f:=Zm) (g:=Zm) zE (fun _ _=>rfl) (Zx zE s14.2.2.1 c (w64 ((List.length (s14.2.2.2.2.2.2++[(Zg.mk c s14.2.1)]):Int)-1))) c 0) (Zc _ Zas fun x23 _=>
  yG fun x24 _=>
  yG fun x25 _=>
  Ze (ZbK (f:=Zm) (g:=Zm) zE (fun _ _=>rfl) (Zx zE s14.2.2.1 c (w64 ((List.length (s14.2.2.2.2.2.2++[(Zg.mk c s14.2.1)]):Int)-1))) c 0) (Ze (Zec (f:=Z0) (g:=Zm) (fun ka kb:Zh=>((ka.maker==kb.maker)&&((ka.user==kb.user)&&((ka.pos==kb.pos)&&true)))) (fun _ _=>rfl) s14.2.2.2.1 x25 (Z8 zE (Zx zE s14.2.2.1 c (w64 ((List.length (s14.2.2.2.2.2.2++[(Zg.mk c s14.2.1)]):Int)-1))) c 0)) (Zd (ih _))))))
  (Zd (ih _))))))
  (Zk rfl)
def ZgB (t0:Bool) (t1:Bool) (t2:Bool) (t3:Bool) (b:Zq) (c:Int) (mA:List Int) (mI:List Zr) (mH:List Zg) (mL:(List (Int×Int))) (mJ:(List (Int×Int))) (mK:(List (Zh×Int))) (x0:List Int) (x4:Zh):(((List (Int×Int))×(List (Zh×Int))×(List Int)×(List Zr)×(List Zg))⊕Unit)->Ex×List V×Zl
  | (.inl r)=>(.exit 0,[],[(.cells [(.sl 7 1),(.sl 8 2),(.sl 9 2),(.mp 4),(.mp 5),(.mp 6)]),.dead,.dead,.dead,(.mp (mpD Zm Zm (Zx zE mL c (mH.length:Int)))),(.mp (mpD Zm Zm r.1)),(.mp (mpD Z0 Zm r.2.1)),(zA r.2.2.1),(.arr 2 (List.map ZaT r.2.2.2.1)),(.arr 2 (List.map ZbS r.2.2.2.2))])
  | (.inr r)=>(.exit 0,[],[(.cells [(.sl 7 1),(.sl 2 2),(.sl 8 2),(.mp 4),(.mp 5),(.mp 6)]),.dead,(.arr 2 (List.map ZaT mI)),.dead,(.mp (mpD Zm Zm (Zx zE mL c (mH.length:Int)))),(.mp (mpD Zm Zm (Zx zE mJ c (w64 ((List.length (mH++[(Zg.mk c 0)]):Int)-1))))),(.mp (mpD Z0 Zm mK)),(zA (mA++[(w64 (x4.pos-0))])),(.arr 2 (List.map ZbS (mH++[(Zg.mk c 0)])))])
theorem ZiN {t0 t1:Bool}{t2 t3:Bool}{b:Zq}{c:Int}{mA:List Int}{mI:List Zr}{mH:List Zg}{mL:(List (Int×Int))}{mJ:(List (Int×Int))}{mK:(List (Zh×Int))}{x0:List Int}{x4:Zh}:∀(s6:Unit) (r:(((List (Int×Int))×(List (Zh×Int))×(List Int)×(List Zr)×(List Zg))⊕Unit)),lp (Zcp b c mA mI mH mJ mK x0 x4) s6=some r->lpW ctx 7 [0,2,4,6,7,26,27] [] ZrB [(.ptr 0 0),(zN c),(.ptr 7 0),(zN x4.pos),(zV true x0),(zN (w64 ((x0.length:Int)+1))),(zN 1)] [(.cells [(.sl 8 1),(.sl 2 2),(.sl 9 2),(.mp 4),(.mp 5),(.mp 6)]),.dead,(.arr 2 (List.map ZaT mI)),.dead,(.mp (mpD Zm Zm (Zx zE mL c (mH.length:Int)))),(.mp (mpD Zm Zm (Zx zE mJ c (w64 ((List.length (mH++[(Zg.mk c 0)]):Int)-1))))),(.mp (mpD Z0 Zm mK)),(.cells (dV t0 t1 t2 t3 b)),(zA (mA++[(w64 (x4.pos-0))])),(.arr 2 (List.map ZbS (mH++[(Zg.mk c 0)])))]=some ((ZgB t0 t1 t2 t3 b c mA mI mH mL mJ mK x0 x4) r):=
 lpT (ZgB t0 t1 t2 t3 b c mA mI mH mL mJ mK x0 x4) fun s6 _ ih=>yB (yG fun x7 _=>
  Zj (ZF _ _) (yB (yG fun x8 _=>
  yG fun x9 _=>
  Zc _ ZaM fun x10 _=>
  Ze (Zec (f:=Zm) (g:=Zm) zE (fun _ _=>rfl) (Zx zE mJ c (w64 ((List.length (mH++[(Zg.mk c 0)]):Int)-1))) c (w64 ((List.length ((mH++[(Zg.mk c 0)])++[(Zg.mk c 1)]):Int)-1))) (yT (Ze (ZbK (f:=Zm) (g:=Zm) zE (fun _ _=>rfl) (Zx zE (Zx zE mJ c (w64 ((List.length (mH++[(Zg.mk c 0)]):Int)-1))) c (w64 ((List.length ((mH++[(Zg.mk c 0)])++[(Zg.mk c 1)]):Int)-1))) c 0) (Ze (ZbK (f:=Zm) (g:=Zm) zE (fun _ _=>rfl) (Zx zE (Zx zE mJ c (w64 ((List.length (mH++[(Zg.mk c 0)]):Int)-1))) c (w64 ((List.length ((mH++[(Zg.mk c 0)])++[(Zg.mk c 1)]):Int)-1))) c 0) (Zc _ Zas fun x11 _=>
  yG fun x12 _=>
  yG fun x13 _=>
  Ze (ZbK (f:=Zm) (g:=Zm) zE (fun _ _=>rfl) (Zx zE (Zx zE mJ c (w64 ((List.length (mH++[(Zg.mk c 0)]):Int)-1))) c (w64 ((List.length ((mH++[(Zg.mk c 0)])++[(Zg.mk c 1)]):Int)-1))) c 0) (Ze (Zec (f:=Z0) (g:=Zm) (fun ka kb:Zh=>((ka.maker==kb.maker)&&((ka.user==kb.user)&&((ka.pos==kb.pos)&&true)))) (fun _ _=>rfl) mK x13 (Z8 zE (Zx zE (Zx zE mJ c (w64 ((List.length (mH++[(Zg.mk c 0)]):Int)-1))) c (w64 ((List.length ((mH++[(Zg.mk c 0)])++[(Zg.mk c 1)]):Int)-1))) c 0)) (Zc _ (ZcS _) fun r26 _=>
  Zk rfl)))))))
  (Zc _ ZaM fun x27 _=>
  Ze (Zec (f:=Zm) (g:=Zm) zE (fun _ _=>rfl) (Zx zE mJ c (w64 ((List.length (mH++[(Zg.mk c 0)]):Int)-1))) c (w64 ((List.length ((mH++[(Zg.mk c 0)])++[(Zg.mk c 1)]):Int)-1))) (yT (Ze (ZbK (f:=Zm) (g:=Zm) zE (fun _ _=>rfl) (Zx zE (Zx zE mJ c (w64 ((List.length (mH++[(Zg.mk c 0)]):Int)-1))) c (w64 ((List.length ((mH++[(Zg.mk c 0)])++[(Zg.mk c 1)]):Int)-1))) c 0) (Ze (ZbK (f:=Zm) (g:=Zm) zE (fun _ _=>rfl) (Zx zE (Zx zE mJ c (w64 ((List.length (mH++[(Zg.mk c 0)]):Int)-1))) c (w64 ((List.length ((mH++[(Zg.mk c 0)])++[(Zg.mk c 1)]):Int)-1))) c 0) (Zc _ Zas fun x28 _=>
  yG fun x29 _=>
  yG fun x30 _=>
  Ze (ZbK (f:=Zm) (g:=Zm) zE (fun _ _=>rfl) (Zx zE (Zx zE mJ c (w64 ((List.length (mH++[(Zg.mk c 0)]):Int)-1))) c (w64 ((List.length ((mH++[(Zg.mk c 0)])++[(Zg.mk c 1)]):Int)-1))) c 0) (Ze (Zec (f:=Z0) (g:=Zm) (fun ka kb:Zh=>((ka.maker==kb.maker)&&((ka.user==kb.user)&&((ka.pos==kb.pos)&&true)))) (fun _ _=>rfl) mK x30 (Z8 zE (Zx zE (Zx zE mJ c (w64 ((List.length (mH++[(Zg.mk c 0)]):Int)-1))) c (w64 ((List.length ((mH++[(Zg.mk c 0)])++[(Zg.mk c 1)]):Int)-1))) c 0)) (Zc _ (ZcS _) fun r43 _=>
  Zk rfl)))))))))
  (Zk rfl)
def ZgF (t0:Bool) (t1:Bool) (t2:Bool) (t3:Bool) (b:Zq) (c:Int) (mA:List Int) (mI:List Zr) (mH:List Zg) (mL:(List (Int×Int))) (mJ:(List (Int×Int))) (mK:(List (Zh×Int))) (x0:List Int) (x2:Z1):(((List (Int×Int))×(List (Zh×Int))×(List Int)×(List Zr)×(List Zg))⊕Unit)->Ex×List V×Zl
  | (.inl r)=>(.exit 0,[],[(.cells [(.sl 7 1),(.sl 8 2),(.sl 9 2),(.mp 4),(.mp 5),(.mp 6)]),.dead,.dead,.dead,(.mp (mpD Zm Zm (Zx zE mL c (mH.length:Int)))),(.mp (mpD Zm Zm r.1)),(.mp (mpD Z0 Zm r.2.1)),(zA r.2.2.1),(.arr 2 (List.map ZaT r.2.2.2.1)),(.arr 2 (List.map ZbS r.2.2.2.2))])
  | (.inr r)=>(.exit 0,[],[(.cells [(.sl 7 1),(.sl 2 2),(.sl 8 2),(.mp 4),(.mp 5),(.mp 6)]),.dead,(.arr 2 (List.map ZaT mI)),.dead,(.mp (mpD Zm Zm (Zx zE mL c (mH.length:Int)))),(.mp (mpD Zm Zm (Zx zE mJ c (w64 ((List.length (mH++[(Zg.mk c 0)]):Int)-1))))),(.mp (mpD Z0 Zm mK)),(zA (mA++[(w64 (x2.work-0))])),(.arr 2 (List.map ZbS (mH++[(Zg.mk c 0)])))])
theorem ZiY {t0 t1:Bool}{t2 t3:Bool}{b:Zq}{c:Int}{mA:List Int}{mI:List Zr}{mH:List Zg}{mL:(List (Int×Int))}{mJ:(List (Int×Int))}{mK:(List (Zh×Int))}{x0:List Int}{x2:Z1}:∀(s46:Unit) (r:(((List (Int×Int))×(List (Zh×Int))×(List Int)×(List Zr)×(List Zg))⊕Unit)),lp (Zc6 b c mA mI mH mJ mK x0 x2) s46=some r->lpW ctx 7 [0,2,4,6,7,26,27] [] ZrB [(.ptr 0 0),(zN c),(.ptr 7 0),(zN x2.work),(zV true x0),(zN (w64 ((x0.length:Int)+1))),(zN 1)] [(.cells [(.sl 8 1),(.sl 2 2),(.sl 9 2),(.mp 4),(.mp 5),(.mp 6)]),.dead,(.arr 2 (List.map ZaT mI)),.dead,(.mp (mpD Zm Zm (Zx zE mL c (mH.length:Int)))),(.mp (mpD Zm Zm (Zx zE mJ c (w64 ((List.length (mH++[(Zg.mk c 0)]):Int)-1))))),(.mp (mpD Z0 Zm mK)),(.cells (dV t0 t1 t2 t3 b)),(zA (mA++[(w64 (x2.work-0))])),(.arr 2 (List.map ZbS (mH++[(Zg.mk c 0)])))]=some ((ZgF t0 t1 t2 t3 b c mA mI mH mL mJ mK x0 x2) r):=
 lpT (ZgF t0 t1 t2 t3 b c mA mI mH mL mJ mK x0 x2) fun s46 _ ih=>yB (yG fun x47 _=>
  Zj (ZF _ _) (yB (yG fun x48 _=>
  yG fun x49 _=>
  Zc _ ZaM fun x50 _=>
  Ze (Zec (f:=Zm) (g:=Zm) zE (fun _ _=>rfl) (Zx zE mJ c (w64 ((List.length (mH++[(Zg.mk c 0)]):Int)-1))) c (w64 ((List.length ((mH++[(Zg.mk c 0)])++[(Zg.mk c 1)]):Int)-1))) (yT (Ze (ZbK (f:=Zm) (g:=Zm) zE (fun _ _=>rfl) (Zx zE (Zx zE mJ c (w64 ((List.length (mH++[(Zg.mk c 0)]):Int)-1))) c (w64 ((List.length ((mH++[(Zg.mk c 0)])++[(Zg.mk c 1)]):Int)-1))) c 0) (Ze (ZbK (f:=Zm) (g:=Zm) zE (fun _ _=>rfl) (Zx zE (Zx zE mJ c (w64 ((List.length (mH++[(Zg.mk c 0)]):Int)-1))) c (w64 ((List.length ((mH++[(Zg.mk c 0)])++[(Zg.mk c 1)]):Int)-1))) c 0) (Zc _ Zas fun x51 _=>
  yG fun x52 _=>
  yG fun x53 _=>
  Ze (ZbK (f:=Zm) (g:=Zm) zE (fun _ _=>rfl) (Zx zE (Zx zE mJ c (w64 ((List.length (mH++[(Zg.mk c 0)]):Int)-1))) c (w64 ((List.length ((mH++[(Zg.mk c 0)])++[(Zg.mk c 1)]):Int)-1))) c 0) (Ze (Zec (f:=Z0) (g:=Zm) (fun ka kb:Zh=>((ka.maker==kb.maker)&&((ka.user==kb.user)&&((ka.pos==kb.pos)&&true)))) (fun _ _=>rfl) mK x53 (Z8 zE (Zx zE (Zx zE mJ c (w64 ((List.length (mH++[(Zg.mk c 0)]):Int)-1))) c (w64 ((List.length ((mH++[(Zg.mk c 0)])++[(Zg.mk c 1)]):Int)-1))) c 0)) (Zc _ (ZcS _) fun r66 _=>
  Zk rfl)))))))
  (Zc _ ZaM fun x67 _=>
  Ze (Zec (f:=Zm) (g:=Zm) zE (fun _ _=>rfl) (Zx zE mJ c (w64 ((List.length (mH++[(Zg.mk c 0)]):Int)-1))) c (w64 ((List.length ((mH++[(Zg.mk c 0)])++[(Zg.mk c 1)]):Int)-1))) (yT (Ze (ZbK (f:=Zm) (g:=Zm) zE (fun _ _=>rfl) (Zx zE (Zx zE mJ c (w64 ((List.length (mH++[(Zg.mk c 0)]):Int)-1))) c (w64 ((List.length ((mH++[(Zg.mk c 0)])++[(Zg.mk c 1)]):Int)-1))) c 0) (Ze (ZbK (f:=Zm) (g:=Zm) zE (fun _ _=>rfl) (Zx zE (Zx zE mJ c (w64 ((List.length (mH++[(Zg.mk c 0)]):Int)-1))) c (w64 ((List.length ((mH++[(Zg.mk c 0)])++[(Zg.mk c 1)]):Int)-1))) c 0) (Zc _ Zas fun x68 _=>
  yG fun x69 _=>
  yG fun x70 _=>
  Ze (ZbK (f:=Zm) (g:=Zm) zE (fun _ _=>rfl) (Zx zE (Zx zE mJ c (w64 ((List.length (mH++[(Zg.mk c 0)]):Int)-1))) c (w64 ((List.length ((mH++[(Zg.mk c 0)])++[(Zg.mk c 1)]):Int)-1))) c 0) (Ze (Zec (f:=Z0) (g:=Zm) (fun ka kb:Zh=>((ka.maker==kb.maker)&&((ka.user==kb.user)&&((ka.pos==kb.pos)&&true)))) (fun _ _=>rfl) mK x70 (Z8 zE (Zx zE (Zx zE mJ c (w64 ((List.length (mH++[(Zg.mk c 0)]):Int)-1))) c (w64 ((List.length ((mH++[(Zg.mk c 0)])++[(Zg.mk c 1)]):Int)-1))) c 0)) (Zc _ (ZcS _) fun r83 _=>
  Zk rfl)))))))))
  (Zk rfl)
def Zgt (t0:Bool) (t1:Bool) (t2:Bool) (t3:Bool) (b:Zq) (c:Int) (mA:List Int) (mI:List Zr) (mH:List Zg) (mL:(List (Int×Int))) (mJ:(List (Int×Int))) (mK:(List (Zh×Int))) (x0:List Int):(((List (Int×Int))×(List (Zh×Int))×(List Int)×(List Zr)×(List Zg))⊕((List Int)⊕Unit))->Ex×List V×Zl
  | (.inl r)=>(.exit 0,[],[(.cells [(.sl 7 1),(.sl 8 2),(.sl 9 2),(.mp 4),(.mp 5),(.mp 6)]),.dead,.dead,.dead,(.mp (mpD Zm Zm (Zx zE mL c (mH.length:Int)))),(.mp (mpD Zm Zm r.1)),(.mp (mpD Z0 Zm r.2.1)),(zA r.2.2.1),(.arr 2 (List.map ZaT r.2.2.2.1)),(.arr 2 (List.map ZbS r.2.2.2.2))])
  | (.inr (.inl r))=>(.exit 0,[],[(.cells [(.sl 7 1),(.sl 2 2),(.sl 8 2),(.mp 4),(.mp 5),(.mp 6)]),.dead,(.arr 2 (List.map ZaT mI)),.dead,(.mp (mpD Zm Zm (Zx zE mL c (mH.length:Int)))),(.mp (mpD Zm Zm (Zx zE mJ c (w64 ((List.length (mH++[(Zg.mk c 0)]):Int)-1))))),(.mp (mpD Z0 Zm mK)),(zA r),(.arr 2 (List.map ZbS (mH++[(Zg.mk c 0)])))])
  | (.inr (.inr r))=>(.exit 0,[],[(.cells [(.sl 1 1),(.sl 2 2),(.sl 3 2),(.mp 4),(.mp 5),(.mp 6)]),(zA mA),(.arr 2 (List.map ZaT mI)),(.arr 2 (List.map ZbS mH)),(.mp (mpD Zm Zm (Zx zE mL c (mH.length:Int)))),(.mp (mpD Zm Zm mJ)),(.mp (mpD Z0 Zm mK))])
theorem ZiZ {t0 t1:Bool}{t2 t3:Bool}{b:Zq}{c:Int}{mA:List Int}{mI:List Zr}{mH:List Zg}{mL:(List (Int×Int))}{mJ:(List (Int×Int))}{mK:(List (Zh×Int))}{x0:List Int}:∀(s1:Unit) (r:(((List (Int×Int))×(List (Zh×Int))×(List Int)×(List Zr)×(List Zg))⊕((List Int)⊕Unit))),lp (Zcs b c mA mI mH mJ mK x0) s1=some r->lpW ctx 7 [0,2,4,6,7,26,27] [] ZrB [(.ptr 0 0),(zN c),(.ptr 7 0),(zN 0),(zV true x0),(zN (w64 ((x0.length:Int)+1))),(zN 0)] [(.cells [(.sl 1 1),(.sl 2 2),(.sl 3 2),(.mp 4),(.mp 5),(.mp 6)]),(zA mA),(.arr 2 (List.map ZaT mI)),(.arr 2 (List.map ZbS mH)),(.mp (mpD Zm Zm (Zx zE mL c (mH.length:Int)))),(.mp (mpD Zm Zm mJ)),(.mp (mpD Z0 Zm mK)),(.cells (dV t0 t1 t2 t3 b))]=some ((Zgt t0 t1 t2 t3 b c mA mI mH mL mJ mK x0) r):=
 lpT (Zgt t0 t1 t2 t3 b c mA mI mH mL mJ mK x0) fun s1 _ ih=>yB (yG fun x2 _=>
  Zj (ZF _ _) (yB (yG fun x3 _=>
  yG fun x4 _=>
  Zc _ ZaM fun x5 _=>
  Ze (Zec (f:=Zm) (g:=Zm) zE (fun _ _=>rfl) mJ c (w64 ((List.length (mH++[(Zg.mk c 0)]):Int)-1))) (yF (by
 conv=>rhs;whnf
 refine Zc _ (ZiN _) fun r44 _=>?_
 rcases r44 with r44 | r44
 exact Zk rfl
 exact Zk rfl)))
  (Zc _ ZaM fun x45 _=>
  Ze (Zec (f:=Zm) (g:=Zm) zE (fun _ _=>rfl) mJ c (w64 ((List.length (mH++[(Zg.mk c 0)]):Int)-1))) (yF (by
 conv=>rhs;whnf
 refine Zc _ (ZiY _) fun r84 _=>?_
 rcases r84 with r84 | r84
 exact Zk rfl
 exact Zk rfl)))))
  (Zk rfl)
theorem Zlz {t0 t1:Bool}{t2 t3:Bool}{b:Zq}{c:Int}{mA:List Int}{mI:List Zr}{mH:List Zg}{mL:(List (Int×Int))}{mJ:(List (Int×Int))}{mK:(List (Zh×Int))}:∀r,(Zfs b c mA mI mH mJ mK)=some r->evW ctx 85 [(.ptr 0 0),(.d (D.agg (dA t0 t1 t2 t3 b))),(zN c)] [(.cells [(.sl 1 1),(.sl 2 2),(.sl 3 2),(.mp 4),(.mp 5),(.mp 6)]),(zA mA),(.arr 2 (List.map ZaT mI)),(.arr 2 (List.map ZbS mH)),(.mp (mpD Zm Zm mL)),(.mp (mpD Zm Zm mJ)),(.mp (mpD Z0 Zm mK))]=some ((ZlN t0 t1 t2 t3 b c mA mI mH mL mJ mK) r):=
 evS ZEw rfl rfl <| Zj (ZF _ _) (Ze (Zec (f:=Zm) (g:=Zm) zE (fun _ _=>rfl) mL c (mH.length:Int)) (yC Zox fun x0 _=>
  Zj (ZF _ _) (by
 conv=>rhs;whnf
 refine Zc _ (ZiZ _) fun r85 _=>?_
 rcases r85 with r85 | (r85 | r85)
 exact yR
 exact yR
 exact yR)))
def Zqn (r:Bool):D:=(D.bool r)
theorem Zpb {a:Int}:∀r,(ZdP a)=some r->evD ctx 116 [(zN a)]=some (Zqn r):=
 evT ZCp rfl rfl <| yBr (yBr yR)
def ZfS (r:Int):D:=(Zm r)
def Zct (t0:Bool) (a:List Int):(Int⊕Unit)->Ex×List V×Zl
  | (.inl r)=>(.ret,[(zN r)],[])
  | (.inr r)=>(.exit 0,[.bad],[])
theorem Ze0 {t0:Bool}{a:List Int}:∀(s0:Int) (r:(Int⊕Unit)),lp (ZW a (fun z0=>ZdP z0)) s0=some r->lpW ctx 0 [0,1,7,8] [4] ZqD [(zV t0 a),(.d (D.fn 116 [])),(zN (a.length:Int)),(zN s0)] []=some ((Zct t0 a) r):=
 lpT (Zct t0 a) fun s0 _ ih=>yB (yG fun x1 _=>
  yC Zpb fun x2 _=>
  yB (Zk rfl)
  (Zd (ih _)))
  (Zk rfl)
theorem ZfJ {t0:Bool}{a:List Int}:∀r,(ZaD a (fun z0=>ZdP z0))=some r->evD ctx 142 [(zV t0 a),(.d (D.fn 116 []))]=some (ZfS r):=
 evT Zv1 rfl rfl <| Zj (ZF _ _) (by
 conv=>rhs;whnf
 refine Zc _ (Ze0 _) fun r3 _=>?_
 rcases r3 with r3 | r3
 exact yR
 exact yR)
def Zfi (r:Bool):D:=(D.bool r)
theorem Ze1 {t0:Bool}{a:List Int}:∀r,(ZaI a (fun z0=>ZdP z0))=some r->evD ctx 114 [(zV t0 a),(.d (D.fn 116 []))]=some (Zfi r):=
 evT Zx0 rfl rfl <| yC ZfJ fun x0 _=>
  yBr yR
def Zqs (r:Bool):D:=(D.bool r)
theorem ZkN {t0 t1:Bool}{a:Int}{b0:List Int}{b1:List Zr}:∀r,(ZgZ a b0)=some r->evD ctx 117 [(zN a),(.d (D.rptr [(zL t0 b0),(zM t1 ZaT b1)]))]=some (Zqs r):=
 evT ZzG rfl rfl <| yB (Zj (ZF _ _) (yBr yR))
  yR
def ZsD (r:((List Int)×Bool)):D:=(D.tup [(zL true r.1),(D.bool r.2)])
def Zla (t0:Bool) (t1:Bool) (a:Zbi) (s0:(List Int)×(List Bool)) (s1:Int):(Unit⊕Unit)->Ex×List V×Zl
  | (.inl r)=>(.exit 3,[(.ptr 0 0),(.sl 1 1),(.sl 2 1),(zN s1),(zN (a.work.length:Int)),(zN s1)],[(zK1 t0 a.work t1 a.edges),(zA s0.1),(.arr 1 (List.map D.bool s0.2))])
  | (.inr r)=>(.exit 4,[(.ptr 0 0),(.sl 1 1),(.sl 2 1),(zN s1),(zN (a.work.length:Int)),(zN s1)],[(zK1 t0 a.work t1 a.edges),(zA s0.1),(.arr 1 (List.map D.bool s0.2))])
theorem Zok {t0 t1:Bool}{a:Zbi}{s0:(List Int)×(List Bool)}{s1:Int}:∀(s3:Int) (r:(Unit⊕Unit)),lp (ZgI a s0 s1) s3=some r->lpW ctx 0 [1,4,5,6,21,22,30,31,32] [1,4,5,6,21,22] Zyu [(.ptr 0 0),(.sl 1 1),(.sl 2 1),(zN s1),(zN (a.work.length:Int)),(zN s1),(zW t1 ZaT a.edges),(zN (a.edges.length:Int)),(zN s3)] [(zK1 t0 a.work t1 a.edges),(zA s0.1),(.arr 1 (List.map D.bool s0.2))]=some ((Zla t0 t1 a s0 s1) r):=
 lpT (Zla t0 t1 a s0 s1) fun s3 _ ih=>yB (yG fun x4 _=>
  yB (yG fun x5 hx5=>
  Ze (Zi rfl hx5) (yB (Zd (ih _))
  (Zk rfl)))
  (Zd (ih _)))
  (Zk rfl)
def Zk1 (t0:Bool) (t1:Bool) (a:Zbi) (s0:(List Int)×(List Bool)):(((List Int)×(List Bool))⊕Unit)->Ex×List V×Zl
  | (.inl r)=>(.exit 1,[(.ptr 0 0),(.sl 1 1),(.sl 2 1)],[(zK1 t0 a.work t1 a.edges),(zA r.1),(.arr 1 (List.map D.bool r.2))])
  | (.inr r)=>(.exit 2,[(.ptr 0 0),(.sl 1 1),(.sl 2 1)],[(zK1 t0 a.work t1 a.edges),(zA s0.1),(.arr 1 (List.map D.bool s0.2))])
theorem Zov {t0 t1:Bool}{a:Zbi}{s0:(List Int)×(List Bool)}:∀(s1:Int) (r:(((List Int)×(List Bool))⊕Unit)),lp (Zft a s0) s1=some r->lpW ctx 0 [1,4,5,21,22] [1,4,5] ZxT [(.ptr 0 0),(.sl 1 1),(.sl 2 1),(zN (a.work.length:Int)),(zN s1)] [(zK1 t0 a.work t1 a.edges),(zA s0.1),(.arr 1 (List.map D.bool s0.2))]=some ((Zk1 t0 t1 a s0) r):=
 lpT (Zk1 t0 t1 a s0) fun s1 _ ih=>yB (yG fun x2 hx2=>
  Ze (Zi rfl hx2) (yB (Zd (ih _))
  (Zj (ZF _ _) (by
 conv=>rhs;whnf
 refine Zc _ (Zok _) fun r6 _=>?_
 rcases r6 with r6 | r6
 exact Zd (ih _)
 exact Ze (Z4 rfl hx2) (Ze (Zi rfl hx2) (Zj (ZI D.bool s0.2 s1.toNat true) (yT (ZdJ (Zg9 Zm s0.1 1) (Zj (Zg8 Zm s0.1 [s1]) (Zk rfl))
  ZbQ))))))))
  (Zk rfl)
def ZkJ (t0:Bool) (t1:Bool) (a:Zbi):((List Int)⊕(List Int))->Ex×List V×Zl
  | (.inl r)=>(.ret,[(.nilsl 1),(.d (D.bool false)),(.sl 0 1)],[(zA r)])
  | (.inr r)=>(.exit 0,[.bad,.bad,(.sl 0 1)],[(zA r)])
theorem ZoK {t0 t1:Bool}{a:Zbi}:∀(s0:(List Int)×(List Bool)) (r:((List Int)⊕(List Int))),lp (ZgL a) s0=some r->lpW ctx 0 [1,4,5] [2,3,4] ZxD [(.ptr 0 0),(.sl 1 1),(.sl 2 1)] [(zK1 t0 a.work t1 a.edges),(zA s0.1),(.arr 1 (List.map D.bool s0.2))]=some ((ZkJ t0 t1 a) r):=
 lpT (ZkJ t0 t1 a) fun s0 _ ih=>Zj (ZF _ _) (Zj (ZF _ _) (yB (Zj (ZF _ _) (by
 conv=>rhs;whnf
 refine Zc _ (Zov _) fun r7 _=>?_
 rcases r7 with r7 | r7
 exact Zd (ih _)
 exact Zk rfl))
  (Zk rfl)))
theorem Zl6 {t0 t1:Bool}{a:Zbi}:∀r,(Zgr a)=some r->evD ctx 118 [(.d (zK4 t0 a.work t1 a.edges))]=some (ZsD r):=
 evT ZBC rfl rfl <| Zj (ZF _ _) (yBm (Zj (ZqJ D.bool (false:Bool) (a.work.length:Int)) (by
 conv=>rhs;whnf
 refine Zc _ (ZoK _) fun r8 _=>?_
 rcases r8 with r8 | r8
 exact yR
 exact yR)))
def ZsI (r:Int):D:=(Zm r)
def ZkQ (t0:Bool) (t1:Bool) (a:Zbi):(Unit⊕Unit)->Ex×List V×Zl
  | (.inl r)=>(.ret,[(.ptr 0 0),(zN 42)],[(zK1 t0 a.work t1 a.edges)])
  | (.inr r)=>(.exit 0,[(.ptr 0 0),.bad],[(zK1 t0 a.work t1 a.edges)])
theorem ZoL {t0 t1:Bool}{a:Zbi}:∀(s1:Int) (r:(Unit⊕Unit)),lp (ZfK a) s1=some r->lpW ctx 0 [1,3,23,24,25] [1,2] ZzY [(.ptr 0 0),(.fn 117 [(.ptr 0 0)]),(zW t1 ZaT a.edges),(zN (a.edges.length:Int)),(zN s1)] [(zK1 t0 a.work t1 a.edges)]=some ((ZkQ t0 t1 a) r):=
 lpT (ZkQ t0 t1 a) fun s1 _ ih=>yB (yG fun x2 _=>
  yC ZkN fun x3 _=>
  yB (yC ZkN fun x4 _=>
  yB (yB (Zk rfl)
  (yBm (ZdJ (ZA2 ZaT a.edges s1.toNat) (yT (Zj (Zu1 ZaT a.edges s1.toNat) (yC Ze2 fun x5 _=>
  yB (Zk rfl)
  (Zd (ih _)))))
  ZbQ)))
  (Zk rfl))
  (Zk rfl))
  (Zk rfl)
theorem ZjG {t0 t1:Bool}{a:Zbi}:∀r,(Zhl a)=some r->evD ctx 88 [(.d (zK4 t0 a.work t1 a.edges))]=some (ZsI r):=
 evT ZFl rfl rfl <| Zj (ZF _ _) (yBr (Zj (ZF _ _) (yBr (yC Ze1 fun x0 _=>
  yBr (Zj (ZF _ _) (by
 conv=>rhs;whnf
 refine Zc _ (ZoL _) fun r6 _=>?_
 rcases r6 with r6 | r6
 exact yR
 exact yC Zl6 fun x7 _=>
  yBr yR))))))
def Zp9 (r:(ZwN×Int)):D:=(D.tup [(D.agg [(zL true r.1.dag.work),(zM true ZaT r.1.dag.edges),(zM true ZbS r.1.pieces)]),(Zm r.2)])
def Zjr (t0:Bool) (t1:Bool) (t2:Bool) (t3:Bool) (a:Zq):((List Int)×(List Zr)×(List Zg)×(List (Int×Int))×(List (Int×Int))×(List (Zh×Int)))->Ex×List V×Zl
  | r=>(.exit 0,[(.ptr 0 0),(.ptr 1 0),(.ptr 2 0)],[(.cells (dV t0 t1 t2 t3 a)),(zK3 ),(.cells [(.sl 6 1),(.sl 7 2),(.sl 8 2),(.mp 9),(.mp 10),(.mp 11)]),(.arr 1 []),(.arr 2 []),(.arr 2 []),(zA r.1),(.arr 2 (List.map ZaT r.2.1)),(.arr 2 (List.map ZbS r.2.2.1)),(.mp (mpD Zm Zm r.2.2.2.1)),(.mp (mpD Zm Zm r.2.2.2.2.1)),(.mp (mpD Z0 Zm r.2.2.2.2.2))])
theorem ZmN {t0 t1:Bool}{t2 t3:Bool}{a:Zq}:∀(s1:Int×(List Int)×(List Zr)×(List Zg)×(List (Int×Int))×(List (Int×Int))×(List (Zh×Int))) (r:((List Int)×(List Zr)×(List Zg)×(List (Int×Int))×(List (Int×Int))×(List (Zh×Int)))),lp (ZcZ a) s1=some r->lpW ctx 0 [1,2,5,31,32] [1,2,5] ZzK [(.ptr 0 0),(.ptr 1 0),(.ptr 2 0),(zN (a.parts.length:Int)),(zN s1.1)] [(.cells (dV t0 t1 t2 t3 a)),(zK3 ),(.cells [(.sl 6 1),(.sl 7 2),(.sl 8 2),(.mp 9),(.mp 10),(.mp 11)]),(.arr 1 []),(.arr 2 []),(.arr 2 []),(zA s1.2.1),(.arr 2 (List.map ZaT s1.2.2.1)),(.arr 2 (List.map ZbS s1.2.2.2.1)),(.mp (mpD Zm Zm s1.2.2.2.2.1)),(.mp (mpD Zm Zm s1.2.2.2.2.2.1)),(.mp (mpD Z0 Zm s1.2.2.2.2.2.2))]=some ((Zjr t0 t1 t2 t3 a) r):=
 lpT (Zjr t0 t1 t2 t3 a) fun s1 _ ih=>yB ((by
 conv=>rhs;whnf
 refine Zc _ Zlz fun x2 _=>?_
 rcases x2 with x2 | (x2 | x2)
 exact Zd (ih _)
 exact Zd (ih _)
 exact Zd (ih _)))
  (Zk rfl)
def Zjq (t0:Bool) (t1:Bool) (t2:Bool) (t3:Bool) (a:Zq) (r3:((List Int)×(List Zr)×(List Zg)×(List (Int×Int))×(List (Int×Int))×(List (Zh×Int)))):(List Zr)->Ex×List V×Zl
  | r=>(.exit 2,[(.ptr 0 0),(.ptr 1 0),(.ptr 2 0)],[(.cells (dV t0 t1 t2 t3 a)),(zK3 ),(.cells [(.sl 6 1),(.sl 7 2),(.sl 8 2),(.mp 9),(.mp 10),(.mp 11)]),(.arr 1 []),(.arr 2 []),(.arr 2 []),(zA r3.1),(.arr 2 (List.map ZaT r)),(.arr 2 (List.map ZbS r3.2.2.1)),(.mp (mpD Zm Zm r3.2.2.2.1)),(.mp (mpD Zm Zm r3.2.2.2.2.1)),(.mp (mpD Z0 Zm r3.2.2.2.2.2))])
theorem ZmL {t0 t1:Bool}{t2 t3:Bool}{a:Zq}{r3:((List Int)×(List Zr)×(List Zg)×(List (Int×Int))×(List (Int×Int))×(List (Zh×Int)))}:∀(s4:Int×(List Zr)) (r:List Zr),lp (ZdT a r3) s4=some r->lpW ctx 0 [1,2,5,41,42,43] [1,2,5] ZAS [(.ptr 0 0),(.ptr 1 0),(.ptr 2 0),(zW t1 ZaT a.edges),(zN (a.edges.length:Int)),(zN s4.1)] [(.cells (dV t0 t1 t2 t3 a)),(zK3 ),(.cells [(.sl 6 1),(.sl 7 2),(.sl 8 2),(.mp 9),(.mp 10),(.mp 11)]),(.arr 1 []),(.arr 2 []),(.arr 2 []),(zA r3.1),(.arr 2 (List.map ZaT s4.2)),(.arr 2 (List.map ZbS r3.2.2.1)),(.mp (mpD Zm Zm r3.2.2.2.1)),(.mp (mpD Zm Zm r3.2.2.2.2.1)),(.mp (mpD Z0 Zm r3.2.2.2.2.2))]=some ((Zjq t0 t1 t2 t3 a r3) r):=
 lpT (Zjq t0 t1 t2 t3 a r3) fun s4 _ ih=>yB (yG fun x5 _=>
  Ze (ZbK (f:=Zm) (g:=Zm) zE (fun _ _=>rfl) r3.2.2.2.2.1 x5.src 0) (Ze (ZbK (f:=Zm) (g:=Zm) zE (fun _ _=>rfl) r3.2.2.2.1 x5.dst 0) (Zc _ Zas fun x6 _=>
  Zd (ih _))))
  (Zk rfl)
def ZjK (t0:Bool) (t1:Bool) (t2:Bool) (t3:Bool) (a:Zq) (r3:((List Int)×(List Zr)×(List Zg)×(List (Int×Int))×(List (Int×Int))×(List (Zh×Int)))):(List Zr)->Ex×List V×Zl
  | r=>(.exit 4,[(.ptr 0 0),(.ptr 1 0),(.ptr 2 0)],[(.cells (dV t0 t1 t2 t3 a)),(zK3 ),(.cells [(.sl 6 1),(.sl 7 2),(.sl 8 2),(.mp 9),(.mp 10),(.mp 11)]),(.arr 1 []),(.arr 2 []),(.arr 2 []),(zA r3.1),(.arr 2 (List.map ZaT r)),(.arr 2 (List.map ZbS r3.2.2.1)),(.mp (mpD Zm Zm r3.2.2.2.1)),(.mp (mpD Zm Zm r3.2.2.2.2.1)),(.mp (mpD Z0 Zm r3.2.2.2.2.2))])
theorem ZmJ {t0 t1:Bool}{t2 t3:Bool}{a:Zq}{r3:((List Int)×(List Zr)×(List Zg)×(List (Int×Int))×(List (Int×Int))×(List (Zh×Int)))}:∀(s8:Int×(List Zr)) (r:List Zr),lp (Zd1 a r3) s8=some r->lpW ctx 0 [1,2,5,65,66,67] [1,2,5] ZBY [(.ptr 0 0),(.ptr 1 0),(.ptr 2 0),(zW t2 Z0 a.futures),(zN (a.futures.length:Int)),(zN s8.1)] [(.cells (dV t0 t1 t2 t3 a)),(zK3 ),(.cells [(.sl 6 1),(.sl 7 2),(.sl 8 2),(.mp 9),(.mp 10),(.mp 11)]),(.arr 1 []),(.arr 2 []),(.arr 2 []),(zA r3.1),(.arr 2 (List.map ZaT s8.2)),(.arr 2 (List.map ZbS r3.2.2.1)),(.mp (mpD Zm Zm r3.2.2.2.1)),(.mp (mpD Zm Zm r3.2.2.2.2.1)),(.mp (mpD Z0 Zm r3.2.2.2.2.2))]=some ((ZjK t0 t1 t2 t3 a r3) r):=
 lpT (ZjK t0 t1 t2 t3 a r3) fun s8 _ ih=>yB (yG fun x9 _=>
  Ze (ZbK (f:=Zm) (g:=Zm) zE (fun _ _=>rfl) r3.2.2.2.2.1 x9.maker 0) (Ze (ZbK (f:=Z0) (g:=Zm) (fun ka kb:Zh=>((ka.maker==kb.maker)&&((ka.user==kb.user)&&((ka.pos==kb.pos)&&true)))) (fun _ _=>rfl) r3.2.2.2.2.2 x9 0) (Zc _ Zas fun x10 _=>
  Zd (ih _))))
  (Zk rfl)
def ZjL (t3:Bool) (a:Zq) (r3:((List Int)×(List Zr)×(List Zg)×(List (Int×Int))×(List (Int×Int))×(List (Zh×Int)))) (s12:Int×(List Int)×(List Zr)×(List Zg)) (x13:Zt):(List Zr)->Ex×List V×Zl
  | r=>(.exit 8,[(.ptr 0 0),(.ptr 1 0),(.ptr 2 0),(zN (w64 ((List.length (s12.2.2.2++[(Zg.mk (-1) s12.1)]):Int)-1))),(zW t3 Zc9 a.barriers),(zN (a.barriers.length:Int)),(zN s12.1)],[(zK3 ),(.cells [(.sl 6 1),(.sl 7 2),(.sl 8 2),(.mp 9),(.mp 10),(.mp 11)]),(.cells [(zV true x13.ins),(zV true x13.outs)]),(.arr 1 []),(.arr 2 []),(.arr 2 []),(zA (s12.2.1++[1])),(.arr 2 (List.map ZaT r)),(.arr 2 (List.map ZbS (s12.2.2.2++[(Zg.mk (-1) s12.1)]))),(.mp (mpD Zm Zm r3.2.2.2.1)),(.mp (mpD Zm Zm r3.2.2.2.2.1)),(.mp (mpD Z0 Zm r3.2.2.2.2.2))])
theorem ZmK {t3:Bool}{a:Zq}{r3:((List Int)×(List Zr)×(List Zg)×(List (Int×Int))×(List (Int×Int))×(List (Zh×Int)))}{s12:Int×(List Int)×(List Zr)×(List Zg)}{x13:Zt}:∀(s15:Int×(List Zr)) (r:List Zr),lp (Zfz r3 s12 x13) s15=some r->lpW ctx 0 [2,5,12,13,88,89,90,100,101,102] [2,5,12,13,88,89,90] ZBw [(.ptr 0 0),(.ptr 1 0),(.ptr 2 0),(zN (w64 ((List.length (s12.2.2.2++[(Zg.mk (-1) s12.1)]):Int)-1))),(zW t3 Zc9 a.barriers),(zN (a.barriers.length:Int)),(zN s12.1),(zV true x13.ins),(zN (x13.ins.length:Int)),(zN s15.1)] [(zK3 ),(.cells [(.sl 6 1),(.sl 7 2),(.sl 8 2),(.mp 9),(.mp 10),(.mp 11)]),(.cells [(zV true x13.ins),(zV true x13.outs)]),(.arr 1 []),(.arr 2 []),(.arr 2 []),(zA (s12.2.1++[1])),(.arr 2 (List.map ZaT s15.2)),(.arr 2 (List.map ZbS (s12.2.2.2++[(Zg.mk (-1) s12.1)]))),(.mp (mpD Zm Zm r3.2.2.2.1)),(.mp (mpD Zm Zm r3.2.2.2.2.1)),(.mp (mpD Z0 Zm r3.2.2.2.2.2))]=some ((ZjL t3 a r3 s12 x13) r):=
 lpT (ZjL t3 a r3 s12 x13) fun s15 _ ih=>yB (yG fun x16 _=>
  Ze (ZbK (f:=Zm) (g:=Zm) zE (fun _ _=>rfl) r3.2.2.2.2.1 x16 0) (Zc _ Zas fun x17 _=>
  Zd (ih _)))
  (Zk rfl)
def ZjC (t3:Bool) (a:Zq) (r3:((List Int)×(List Zr)×(List Zg)×(List (Int×Int))×(List (Int×Int))×(List (Zh×Int)))) (s12:Int×(List Int)×(List Zr)×(List Zg)) (x13:Zt):(List Zr)->Ex×List V×Zl
  | r=>(.exit 10,[(.ptr 0 0),(.ptr 1 0),(zW t3 Zc9 a.barriers),(zN (a.barriers.length:Int)),(zN s12.1)],[(.cells [(.sl 2 1),(.sl 3 2),(.sl 4 2)]),(.cells [(.sl 5 1),(.sl 6 2),(.sl 7 2),(.mp 8),(.mp 9),(.mp 10)]),(.arr 1 []),(.arr 2 []),(.arr 2 []),(zA (s12.2.1++[1])),(.arr 2 (List.map ZaT r)),(.arr 2 (List.map ZbS (s12.2.2.2++[(Zg.mk (-1) s12.1)]))),(.mp (mpD Zm Zm r3.2.2.2.1)),(.mp (mpD Zm Zm r3.2.2.2.2.1)),(.mp (mpD Z0 Zm r3.2.2.2.2.2))])
theorem ZmO {t3:Bool}{a:Zq}{r3:((List Int)×(List Zr)×(List Zg)×(List (Int×Int))×(List (Int×Int))×(List (Zh×Int)))}{s12:Int×(List Int)×(List Zr)×(List Zg)}{x13:Zt}:∀(s19:Int×(List Zr)) (r:List Zr),lp (ZfA r3 s12 x13) s19=some r->lpW ctx 0 [2,5,13,88,89,90,117,118,119] [2,5,88,89,90] ZBT [(.ptr 0 0),(.ptr 1 0),(zN (w64 ((List.length (s12.2.2.2++[(Zg.mk (-1) s12.1)]):Int)-1))),(zW t3 Zc9 a.barriers),(zN (a.barriers.length:Int)),(zN s12.1),(zV true x13.outs),(zN (x13.outs.length:Int)),(zN s19.1)] [(.cells [(.sl 2 1),(.sl 3 2),(.sl 4 2)]),(.cells [(.sl 5 1),(.sl 6 2),(.sl 7 2),(.mp 8),(.mp 9),(.mp 10)]),(.arr 1 []),(.arr 2 []),(.arr 2 []),(zA (s12.2.1++[1])),(.arr 2 (List.map ZaT s19.2)),(.arr 2 (List.map ZbS (s12.2.2.2++[(Zg.mk (-1) s12.1)]))),(.mp (mpD Zm Zm r3.2.2.2.1)),(.mp (mpD Zm Zm r3.2.2.2.2.1)),(.mp (mpD Z0 Zm r3.2.2.2.2.2))]=some ((ZjC t3 a r3 s12 x13) r):=
 lpT (ZjC t3 a r3 s12 x13) fun s19 _ ih=>yB (yG fun x20 _=>
  Ze (ZbK (f:=Zm) (g:=Zm) zE (fun _ _=>rfl) r3.2.2.2.1 x20 0) (Zc _ Zas fun x21 _=>
  Zd (ih _)))
  (Zk rfl)
def Zjv (t3:Bool) (a:Zq) (r3:((List Int)×(List Zr)×(List Zg)×(List (Int×Int))×(List (Int×Int))×(List (Zh×Int)))):((List Int)×(List Zr)×(List Zg))->Ex×List V×Zl
  | r=>(.exit 6,[(.ptr 0 0),(.ptr 1 0)],[(.cells [(.sl 2 1),(.sl 3 2),(.sl 4 2)]),(.cells [(.sl 5 1),(.sl 6 2),(.sl 7 2),(.mp 8),(.mp 9),(.mp 10)]),(.arr 1 []),(.arr 2 []),(.arr 2 []),(zA r.1),(.arr 2 (List.map ZaT r.2.1)),(.arr 2 (List.map ZbS r.2.2)),(.mp (mpD Zm Zm r3.2.2.2.1)),(.mp (mpD Zm Zm r3.2.2.2.2.1)),(.mp (mpD Z0 Zm r3.2.2.2.2.2))])
theorem ZmS {t3:Bool}{a:Zq}{r3:((List Int)×(List Zr)×(List Zg)×(List (Int×Int))×(List (Int×Int))×(List (Zh×Int)))}:∀(s12:Int×(List Int)×(List Zr)×(List Zg)) (r:((List Int)×(List Zr)×(List Zg))),lp (ZdY a r3) s12=some r->lpW ctx 0 [2,5,88,89,90] [2,5] ZB5 [(.ptr 0 0),(.ptr 1 0),(zW t3 Zc9 a.barriers),(zN (a.barriers.length:Int)),(zN s12.1)] [(.cells [(.sl 2 1),(.sl 3 2),(.sl 4 2)]),(.cells [(.sl 5 1),(.sl 6 2),(.sl 7 2),(.mp 8),(.mp 9),(.mp 10)]),(.arr 1 []),(.arr 2 []),(.arr 2 []),(zA s12.2.1),(.arr 2 (List.map ZaT s12.2.2.1)),(.arr 2 (List.map ZbS s12.2.2.2)),(.mp (mpD Zm Zm r3.2.2.2.1)),(.mp (mpD Zm Zm r3.2.2.2.2.1)),(.mp (mpD Z0 Zm r3.2.2.2.2.2))]=some ((Zjv t3 a r3) r):=
 lpT (Zjv t3 a r3) fun s12 _ ih=>yB (yG fun x13 _=>
  Zc _ ZaM fun x14 _=>
  Zj (ZF _ _) (Zc _ (ZmK _) fun r18 _=>
  Zj (ZF _ _) (Zc _ (ZmO _) fun r22 _=>
  Zd (ih _))))
  (Zk rfl)
theorem Zpd {t0 t1:Bool}{t2 t3:Bool}{a:Zq}:∀r,(Zic a)=some r->evD ctx 55 [(.d (D.agg (dA t0 t1 t2 t3 a)))]=some (Zp9 r):=
 evT ZEO rfl rfl <| yC ZlG fun x0 _=>
  yBr (Zj (ZF _ _) (Zc _ (ZmN _) fun r3 _=>
  Zj (ZF _ _) (Zc _ (ZmL _) fun r7 _=>
  Zj (ZF _ _) (Zc _ (ZmJ _) fun r11 _=>
  Zj (ZF _ _) (Zc _ (ZmS _) fun r23 _=>
  yC ZjG fun x24 _=>
  yBr yR)))))
def ZsC (r:Int):D:=(Zm r)
def ZkV (t0:Bool) (a:Zbi):Int->Ex×List V×Zl
  | r=>(.exit 0,[(zN r)],[])
theorem Zn9 {t0:Bool}{a:Zbi}:∀(s1:Int×Int) (r:Int),lp (Zgs a) s1=some r->lpW ctx 0 [3,10,11,12] [3] ZAD [(zN s1.1),(zV t0 a.work),(zN (a.work.length:Int)),(zN s1.2)] []=some ((ZkV t0 a) r):=
 lpT (ZkV t0 a) fun s1 _ ih=>yB (yG fun x2 _=>
  Zd (ih _))
  (Zk rfl)
theorem Zse {t0 t1:Bool}{a:Zbi}:∀r,(ZjZ a)=some r->evD ctx 56 [(.d (zK4 t0 a.work t1 a.edges))]=some (ZsC r):=
 evT ZFd rfl rfl <| yC ZjG fun x0 _=>
  yB (Zj (ZF _ _) (Zc _ (Zn9 _) fun r3 _=>
  yR))
  yR
def ZsJ (r:List Int):D:=(zL true r)
theorem ZqR {t0 t1:Bool}{a:Zbi}:∀r,(Zj3 a)=some r->evD ctx 89 [(.d (zK4 t0 a.work t1 a.edges))]=some (ZsJ r):=
 evT ZE5 rfl rfl <| yC ZjG fun x0 _=>
  yBr (yC Zl6 fun x1 _=>
  yBr yR)
def Zqm (r:(Int×Bool)):D:=(D.tup [(Zm r.1),(D.bool r.2)])
theorem Zo6 {a:Zr}{b0:Int}:∀r,(Zge a b0)=some r->evD ctx 120 [(.d (zK5 a.src a.dst)),(.d (D.rptr [(Zm b0)]))]=some (Zqm r):=
 evT ZBp rfl rfl <| yBr yR
def ZjU (mG:List Int):(List Int)->V×Zl
  | r=>((.d (D.tup [])),[(zA r)])
theorem Zjj {mG:List Int}:∀r,(Zdj mG)=some r->evW ctx 144 [(.sl 0 1)] [(zA mG)]=some ((ZjU mG) r):=
 evS ZD0 rfl rfl <| Ze (Zwq rfl) (yBm (ZB9 yR))
def ZkA (r:List Int):D:=(zL true r)
def Zgn (t1:Bool) (a:Zbi) (b0:Int):(List Int)->Ex×List V×Zl
  | r=>(.exit 0,[(.sl 0 1)],[(zA r)])
theorem Zix {t1:Bool}{a:Zbi}{b0:Int}:∀(s0:Int×(List Int)) (r:List Int),lp (ZhA a (fun z0=>Zge z0 b0)) s0=some r->lpW ctx 0 [1,5,11,12,13] [5] ZxS [(.d (D.fn 120 [(D.rptr [(Zm b0)])])),(.sl 0 1),(zW t1 ZaT a.edges),(zN (a.edges.length:Int)),(zN s0.1)] [(zA s0.2)]=some ((Zgn t1 a b0) r):=
 lpT (Zgn t1 a b0) fun s0 _ ih=>yB (yG fun x1 _=>
  yC Zo6 fun x2 _=>
  yB (yT (ZdJ (Zg9 Zm s0.2 1) (Zj (Zg8 Zm s0.2 [x2.1]) (Zd (ih _)))
  ZbQ))
  (Zd (ih _)))
  (Zk rfl)
theorem ZjO {t0 t1:Bool}{a:Zbi}{b0:Int}:∀r,(ZoX a (fun z0=>Zge z0 b0))=some r->evD ctx 119 [(.d (zK4 t0 a.work t1 a.edges)),(.d (D.fn 120 [(D.rptr [(Zm b0)])]))]=some (ZkA r):=
 evT ZBx rfl rfl <| Zj (ZF _ _) (Zc _ (Zix _) fun r3 _=>
  Zc _ Zjj fun x4 _=>
  yR)
def ZsF (r:List Int):D:=(zL true r)
theorem ZqW {t0 t1:Bool}{a:Zbi}{b:Int}:∀r,(Zj5 a b)=some r->evD ctx 90 [(.d (zK4 t0 a.work t1 a.edges)),(zN b)]=some (ZsF r):=
 evT ZFx rfl rfl <| yC ZjO fun x0 _=>
  yR
def ZuQ (r:Int):D:=(Zm r)
def ZlH (t0:Bool) (t1:Bool) (a:Zbi) (x0:List Int) (s1:Int×Int×(List Int)) (x2:Int) (x3:List Int):(List Int)->Ex×List V×Zl
  | r=>(.exit 2,[(.ptr 0 0),(.sl 1 1),(zN s1.1),(zN x2),(zV true x0),(zN (x0.length:Int)),(zN s1.2.1)],[(zK1 t0 a.work t1 a.edges),(zA r)])
theorem Zpr {t0 t1:Bool}{a:Zbi}{x0:List Int}{s1:Int×Int×(List Int)}{x2:Int}{x3:List Int}:∀(s4:Int×(List Int)) (r:List Int),lp (Zgh x2 x3) s4=some r->lpW ctx 0 [1,3,4,6,14,15,16,22,23,24] [1,3,4,6,14,15,16] ZAQ [(.ptr 0 0),(.sl 1 1),(zN s1.1),(zN x2),(zV true x0),(zN (x0.length:Int)),(zN s1.2.1),(zV true x3),(zN (x3.length:Int)),(zN s4.1)] [(zK1 t0 a.work t1 a.edges),(zA s4.2)]=some ((ZlH t0 t1 a x0 s1 x2 x3) r):=
 lpT (ZlH t0 t1 a x0 s1 x2 x3) fun s4 _ ih=>yB (yG fun x5 _=>
  yG fun x6 hx6=>
  Ze (Zi rfl hx6) (yG fun x7 hx7=>
  Ze (Zi rfl hx7) (Ze (Z4 rfl hx6) (Ze (Zi rfl hx6) (Zj (ZI Zm s4.2 x2.toNat (bif decide (x6<x7) then x7 else x6)) (Zd (ih _)))))))
  (Zk rfl)
def ZlI (t0:Bool) (t1:Bool) (a:Zbi) (x0:List Int):Int->Ex×List V×Zl
  | r=>(.exit 0,[(zN r)],[])
theorem Zpx {t0 t1:Bool}{a:Zbi}{x0:List Int}:∀(s1:Int×Int×(List Int)) (r:Int),lp (Zgk a x0) s1=some r->lpW ctx 0 [1,3,4,14,15,16] [4] ZBq [(.ptr 0 0),(.sl 1 1),(zN s1.1),(zV true x0),(zN (x0.length:Int)),(zN s1.2.1)] [(zK1 t0 a.work t1 a.edges),(zA s1.2.2)]=some ((ZlI t0 t1 a x0) r):=
 lpT (ZlI t0 t1 a x0) fun s1 _ ih=>yB (yG fun x2 _=>
  yC ZqW fun x3 _=>
  Zj (ZF _ _) (Zc _ (Zpr _) fun r8 _=>
  yG fun x9 hx9=>
  Ze (Zi rfl hx9) (yG fun x10 _=>
  Ze (Z4 rfl hx9) (Ze (Zi rfl hx9) (Zj (ZI Zm r8 x2.toNat (w64 (x9+x10))) (yG fun x11 hx11=>
  Ze (Zi rfl hx11) (Zd (ih _))))))))
  (Zk rfl)
theorem ZsM {t0 t1:Bool}{a:Zbi}:∀r,(Zlk a)=some r->evD ctx 57 [(.d (zK4 t0 a.work t1 a.edges))]=some (ZuQ r):=
 evT ZFD rfl rfl <| Zj (ZF _ _) (yBm (Zj (ZqJ Zm (0:Int) (a.work.length:Int)) (yC ZqR fun x0 _=>
  Zj (ZF _ _) (Zc _ (Zpx _) fun r12 _=>
  yR))))
def Zkt (r:Int):D:=(Zm r)
def Zgp (t0:Bool) (a:List Int):Int->Ex×List V×Zl
  | r=>(.exit 0,[(zN r)],[])
theorem Ziz {t0:Bool}{a:List Int}:∀(s1:Int×Int) (r:Int),lp (Zbq a) s1=some r->lpW ctx 0 [0,3,4] [3] ZBB [(zV t0 a),(zN s1.1),(zN s1.2)] []=some ((Zgp t0 a) r):=
 lpT (Zgp t0 a) fun s1 _ ih=>Zj (ZF _ _) (yB (yG fun x2 _=>
  Zd (ih _))
  (Zk rfl))
theorem ZjP {t0:Bool}{a:List Int}:∀r,(ZcK a)=some r->evD ctx 58 [(zV t0 a)]=some (Zkt r):=
 evT ZEN rfl rfl <| Zj (ZF _ _) (yBn (yG fun x0 _=>
  Zc _ (Ziz _) fun r3 _=>
  yR))
def Zp5 (r:(Zf×Int)):D:=(D.tup [(zK2 r.1.total r.1.long r.1.most r.1.deadline r.1.period),(Zm r.2)])
theorem Zpj {t0 t1:Bool}{t2 t3:Bool}{a:Zq}:∀r,(Zfa a)=some r->evD ctx 25 [(.d (D.agg (dA t0 t1 t2 t3 a)))]=some (Zp5 r):=
 evT ZFy rfl rfl <| yC Zpd fun x0 _=>
  yBr (yC Zse fun x1 _=>
  yC ZsM fun x2 _=>
  yC ZjP fun x3 _=>
  yR)
def ZnO (r:Bool):D:=(D.bool r)
theorem Zf6 {a b:Int}:∀r,(Zdu a b)=some r->evD ctx 83 [(zN a),(zN b)]=some (ZnO r):=
 evT ZEG rfl rfl <| yB (yBr yR)
  yR
def Zqc (r:Int):D:=(Zm r)
theorem Zh6 {a:Zf}:∀r,(Zgf a)=some r->evD ctx 51 [(.d (zK2 a.total a.long a.most a.deadline a.period))]=some (Zqc r):=
 evT ZFc rfl rfl <| yC Zoj fun x0 _=>
  yB (yBr (yC Zf6 fun x1 _=>
  yB (yC Zf6 fun x2 _=>
  yB (yC Zf6 fun x3 _=>
  yB (yC Zf6 fun x4 _=>
  yBr yR)
  yR)
  yR)
  yR))
  yR
def Zul (a:Zf):(Unit⊕Unit)->D
  | (.inl r)=>(D.iface 128 (zK2 a.total a.long a.most a.deadline a.period))
  | (.inr r)=>(D.iface 97 (zK2 a.total a.long a.most a.deadline a.period))
theorem ZmW {a:Zf}:∀r,(Zjw a)=some r->evD ctx 59 [(.d (zK2 a.total a.long a.most a.deadline a.period))]=some ((Zul a) r):=
 evT ZEA rfl rfl <| yBr yR
def ZuL (r:Int):D:=(Zm r)
theorem ZsE {a0:Int}:∀r,(Zjz a0)=some r->evD ctx 199 [(.d (D.rptr [(Zm a0)]))]=some (ZuL r):=
 evT ZA3 rfl rfl <| yR
def Zqb (r:Bool):D:=(D.bool r)
theorem Zo0 {a:Int}:∀r,(Zc3 a)=some r->evD ctx 201 [(zN a)]=some (Zqb r):=
 evT ZBE rfl rfl <| yC Zjo fun x0 _=>
  yBr yR
def ZfR (r:Int):D:=(Zm r)
def Zcu (t0:Bool) (a:List Int):(Int⊕Unit)->Ex×List V×Zl
  | (.inl r)=>(.ret,[(zN r)],[])
  | (.inr r)=>(.exit 0,[.bad],[])
theorem ZeY {t0:Bool}{a:List Int}:∀(s0:Int) (r:(Int⊕Unit)),lp (ZW a (fun z0=>Zc3 z0)) s0=some r->lpW ctx 0 [0,1,7,8] [4] ZqD [(zV t0 a),(.d (D.fn 201 [])),(zN (a.length:Int)),(zN s0)] []=some ((Zcu t0 a) r):=
 lpT (Zcu t0 a) fun s0 _ ih=>yB (yG fun x1 _=>
  yC Zo0 fun x2 _=>
  yB (Zk rfl)
  (Zd (ih _)))
  (Zk rfl)
theorem ZfH {t0:Bool}{a:List Int}:∀r,(ZaD a (fun z0=>Zc3 z0))=some r->evD ctx 142 [(zV t0 a),(.d (D.fn 201 []))]=some (ZfR r):=
 evT Zv1 rfl rfl <| Zj (ZF _ _) (by
 conv=>rhs;whnf
 refine Zc _ (ZeY _) fun r3 _=>?_
 rcases r3 with r3 | r3
 exact yR
 exact yR)
def Zsy (r:Int):D:=(Zm r)
theorem Zrj {t0:Bool}{a:List Int}:∀r,(Zkk a)=some r->evD ctx 200 [(zV t0 a)]=some (Zsy r):=
 evT ZB7 rfl rfl <| yC ZfH fun x0 _=>
  yBr (yG fun x1 _=>
  yC Zjo fun x2 _=>
  yR)
def ZjE (r:(Int×Int)):D:=(D.tup [(Zm r.1),(Zm r.2)])
theorem Zi4 {a b c0:Int}:∀r,(ZhF a b (Zjz c0))=some r->evD ctx 198 [(zN a),(zN b),(.d (D.fn 199 [(D.rptr [(Zm c0)])]))]=some (ZjE r):=
 evT ZCu rfl rfl <| yC Zrj fun x0 _=>
  yBr (yBr (yC ZsE fun x1 _=>
  yBn yR))
def Zw3 (r:(Int×Int)):D:=(D.tup [(Zm r.1),(Zm r.2)])
theorem Zwt {a b:Int}:∀r,(ZkF a b)=some r->evD ctx 197 [(zN a),(zN b)]=some (Zw3 r):=
 evT ZAR rfl rfl <| yC Zi4 fun x0 _=>
  yR
def Zmr (r:ZgY):D:=(zK5 r.cores r.e)
theorem ZhP {a:Zt9}:∀r,(Zed a)=some r->evD ctx 196 [(.d (zK2 a.shape.total a.shape.long a.shape.most a.shape.deadline a.shape.period))]=some (Zmr r):=
 evT ZAM rfl rfl <| yBr (yC Zwt fun x0 _=>
  yB (yBr yR)
  yR)
def ZlY (r:ZgY):D:=(zK5 r.cores r.e)
theorem Zen {a:Zpo}:∀r,(Zc0 a)=some r->evD ctx 60 [(.d (zK2 a.shape.total a.shape.long a.shape.most a.shape.deadline a.shape.period))]=some (ZlY r):=
 evT ZEm rfl rfl <| yR
def Zqw (r:(Int×Int)):D:=(D.tup [(Zm r.1),(Zm r.2)])
theorem Zk5 {a:Zf}:∀r,(Zg0 a)=some r->evD ctx 27 [(.d (zK2 a.total a.long a.most a.deadline a.period))]=some (Zqw r):=
 evT ZEp rfl rfl <| yC Zh6 fun x0 _=>
  yBr (by
 conv=>rhs;whnf
 refine yC ZmW fun x1 _=>?_
 rcases x1 with x1 | x1
 exact yC ZhP fun x2 _=>
  yR
 exact yC Zen fun x3 _=>
  yR)
def Zpp (r:((List Zf)×Int)):D:=(D.tup [(zM true Zu r.1),(Zm r.2)])
def ZiF (t0:Bool) (a:List Zq):((Int×(List Zf))⊕(List Zf))->Ex×List V×Zl
  | (.inl r)=>(.ret,[(.nilsl 5),(zN r.1),(.sl 0 5)],[(.arr 5 (List.map Zu r.2))])
  | (.inr r)=>(.exit 0,[.bad,.bad,(.sl 0 5)],[(.arr 5 (List.map Zu r))])
theorem Zl1 {t0:Bool}{a:List Zq}:∀(s0:Int×(List Zf)) (r:((Int×(List Zf))⊕(List Zf))),lp (Zcf a) s0=some r->lpW ctx 0 [4,13,14,15] [2,3,4] ZBj [(.sl 0 5),(.d (D.list t0 (List.map (Zhx true) a))),(zN (a.length:Int)),(zN s0.1)] [(.arr 5 (List.map Zu s0.2))]=some ((ZiF t0 a) r):=
 lpT (ZiF t0 a) fun s0 _ ih=>yB (yG fun x1 _=>
  yC Zpj fun x2 _=>
  yB (Zk rfl)
  (yT (ZdJ (Zg9 Zu s0.2 1) (Zj (Zg8 Zu s0.2 [x2.1]) (Zd (ih _)))
  ZbQ)))
  (Zk rfl)
def ZiK (r3:List Zf):(Int⊕Unit)->Ex×List V×Zl
  | (.inl r)=>(.ret,[(.nilsl 5),(zN r),(.sl 0 5)],[(.arr 5 (List.map Zu r3))])
  | (.inr r)=>(.exit 2,[.bad,.bad,(.sl 0 5)],[(.arr 5 (List.map Zu r3))])
theorem Zl8 {r3:List Zf}:∀(s4:Int) (r:(Int⊕Unit)),lp (Zcg r3) s4=some r->lpW ctx 0 [4,32,33,34] [2,3,4] ZzZ [(.sl 0 5),(.sl 0 5),(zN (r3.length:Int)),(zN s4)] [(.arr 5 (List.map Zu r3))]=some ((ZiK r3) r):=
 lpT (ZiK r3) fun s4 _ ih=>yB (yG fun x5 hx5=>
  Ze (Zi rfl hx5) (yC Zk5 fun x6 _=>
  yB (Zk rfl)
  (Zd (ih _))))
  (Zk rfl)
theorem Zou {t0:Bool}{a:List Zq}:∀r,(Zhu a)=some r->evD ctx 33 [(.d (D.list t0 (List.map (Zhx true) a)))]=some (Zpp r):=
 evT ZFC rfl rfl <| Zj (ZF _ _) (by
 conv=>rhs;whnf
 refine Zc _ (Zl1 _) fun r3 _=>?_
 rcases r3 with r3 | r3
 exact yR
 exact Zj (ZF _ _) (by
 conv=>rhs;whnf
 refine Zc _ (Zl8 _) fun r7 _=>?_
 rcases r7 with r7 | r7
 exact yR
 exact yR))
def ZrH (a:Int):Unit->V×Zl
  | r=>((.ch 0),[(.ch (Zdn a))])
theorem Zqu {a:Int}:∀r,(ZiT a)=some r->evW ctx 34 [(zN a)] []=some ((ZrH a) r):=
 evS ZGk rfl rfl <| yBm yR
end Go.Proofs.YtmnglncebfabpaaGreatDoor
