/- ClassMeets: part 5 of 6 of the proof. -/
import Derived.Test.YtgcfmiajkbbmeaaGreatDoorZClassMeetsd
set_option maxRecDepth 100000
set_option maxHeartbeats 40000000
set_option linter.unusedVariables false
set_option linter.unusedSimpArgs false
namespace Go.Proofs.YtgcfmiajkbbmeaaGreatDoor
open Go Go.Proofs.YtgcfmiajkbbmeaaGreatDoorE
open Go.IntKind (u64 i64 u32 i32 u8)
theorem Zip (b:Ze) (c:Int) {W:List Int}{P:List Ze} (h1:W.length<=10000) (h2:P.length<=10000):Zam b c W P=some ():=by
 unfold Zam
 rw[Zgn (by omega),Zgn (by omega)];rfl
theorem ZlV (b c:Int) {E:List Zi} (h1:E.length<=10000):ZI b c E=some ():=by
 unfold ZI
 rw[Zgn (by omega)];rfl
theorem ZwI {β:Type} (P:List β) (x:β) (hP:P.length<=10000):w64 ((List.length (P++[x]):Int)-1)=(P.length:Int):=by
 rw[List.length_append]
 simp only[List.length_cons,List.length_nil]
 rw[ZaA (by omega) (by omega)]
 omega
theorem ZBB {d:Zq} (g:Zd8 d) {n:Nat} (hn:n<d.parts.length) (hc:Zd9 d (n:Int)=some (tch d n)) {W:List Int}{E:List Zi}{P:List Ze} (M5:List (Int×Int)) (M6:List (Zg×Int)) (hW:W.length<=1000) (hE:E.length<=1000) (hP:P.length<=1000) :
  Zfw d (n:Int) W E P M5 M6=(lp (ZB d (n:Int) (tch d n)) (0,0,M5,M6,W,E,P)).bind fun r=>some (bif decide (0<nt d n) then .inl r else .inr (.inl r.2.2.1)):=by
 obtain⟨x,x1,x2⟩:=ZAn hn
 have hnt:=ZD4 g n
 have hnl:(tch d n).length=nt d n:=rfl
 have e1:w64 (((tch d n).length:Int)+1)=(((tch d n).length+1:Nat):Int):=by rw[ZaA (by omega) (by omega)];omega
 have w1:w64 ((0:Int)+1)=1:=ZaA (by omega) (by omega)
 have w2:w64 ((1:Int)+1)=2:=ZaA (by omega) (by omega)
 have w0:w64 ((1:Int)-1)=0:=ZaA (by omega) (by omega)
 have lW:∀a:Int,(W++[a]).length<=10000:=fun a=>by rw[List.length_append];simp only[List.length_cons,List.length_nil];omega
 have lP:∀a:Ze,(P++[a]).length<=10000:=fun a=>by rw[List.length_append];simp only[List.length_cons,List.length_nil];omega
 unfold Zfw
 rw[hc,Option.bind_some,Zae (Zb7 d (n:Int) W E P M5 M6 (tch d n)),Zae (ZB d (n:Int) (tch d n))]
 by_cases h0:0<nt d n
 ·obtain⟨f,f1,f2,_⟩:=ZlH g.g h0
  have c0:decide ((0:Int)<(((tch d n).length+1:Nat):Int))=true:=decide_eq_true (by omega)
  have c1:decide ((0:Int)<((tch d n).length:Int))=true:=decide_eq_true (by omega)
  have c2:decide ((1:Int)<(((tch d n).length+1:Nat):Int))=true:=decide_eq_true (by omega)
  have f1':Zy (tch d n) 0=some (tch d n)[0]:=f1
  simp only[Zb7,ZB,e1,c0,c1,cond_true,x1,Option.bind_some,f1',f2,Zip _ _ (show W.length<=10000 by omega) (show P.length<=10000 by omega),w1,decide_eq_false (show ¬(0:Int)<0 by omega),cond_false,decide_eq_true h0]
  rw[Zae (Zb6 d (n:Int) W E P M5 M6 (tch d n) f),Zae (ZB d (n:Int) (tch d n))]
  by_cases h1:1<nt d n
  ·obtain⟨f',f1b,f2b,_⟩:=ZlH g.g h1
   have f1b':Zy (tch d n) 1=some (tch d n)[1]:=f1b
   have c3:decide ((1:Int)<((tch d n).length:Int))=true:=decide_eq_true (by omega)
   simp only[Zb6,ZB,e1,c2,c3,cond_true,x1,Option.bind_some,f1',f2,f1b',f2b,Zip _ _ (lW _) (lP _),ZlV _ _ (show E.length<=10000 by omega),w2,w0,decide_eq_true (show(0:Int)<1 by omega)]
   generalize lp (ZB d (n:Int) (tch d n)) _=r
   cases r<;>rfl
  ·have c3:decide ((1:Int)<((tch d n).length:Int))=false:=decide_eq_false (by omega)
   simp only[Zb6,ZB,e1,c2,c3,cond_true,cond_false,x1,Option.bind_some,f1',f2,Zip _ _ (lW _) (lP _),ZlV _ _ (show E.length<=10000 by omega),w2,w0,decide_eq_true (show(0:Int)<1 by omega)]
   generalize lp (ZB d (n:Int) (tch d n)) _=r
   cases r<;>rfl
 ·have c0:decide ((0:Int)<(((tch d n).length+1:Nat):Int))=true:=decide_eq_true (by omega)
  have c1:decide ((0:Int)<((tch d n).length:Int))=false:=decide_eq_false (by omega)
  have c2:decide ((1:Int)<(((tch d n).length+1:Nat):Int))=false:=decide_eq_false (by omega)
  simp only[Zb7,ZB,e1,c0,c1,cond_true,x1,Option.bind_some,Zip _ _ (show W.length<=10000 by omega) (show P.length<=10000 by omega),w1,decide_eq_false (show ¬(0:Int)<0 by omega),cond_false,decide_eq_false h0]
  rw[Zae (ZcT d (n:Int) W E P M5 M6 (tch d n) x),Zae (ZB d (n:Int) (tch d n))]
  simp only[ZcT,ZB,e1,c2,cond_false,Option.bind_some]
abbrev eqF:Zg->Zg->Bool:=fun ka kb:Zg=>((ka.maker==kb.maker)&&((ka.user==kb.user)&&((ka.pos==kb.pos)&&true)))
def ZkF (M:List (Int×Int)) (n F i:Nat):List (Int×Int):=if i=0 then M else M++[((n:Int),((F+i-1:Nat):Int))]
theorem Zx4 {M:List (Int×Int)}{n F:Nat} (h:∀q∈M,q.1≠(n:Int)) (i:Nat):Zu (fun ka kb:Int=>(ka==kb)) (ZkF M n F i) (n:Int) ((F+i:Nat):Int)=ZkF M n F (i+1):=by
 have hq:∀q∈M,eqI (n:Int) q.1=false:=fun q hq=>by
  show((n:Int)==q.1)=false
  exact beq_false_of_ne (Ne.symm (h q hq))
 unfold ZkF
 rw[if_neg (show i+1≠0 by omega)]
 by_cases h0:i=0
 ·subst h0
  rw[if_pos rfl]
  exact Zj1 eqI (n:Int) _ M hq
 ·rw[if_neg h0]
  exact Zrm eqI (n:Int) _ _ (by simp) M hq
theorem ZwY {M:List (Int×Int)}{n F:Nat} (h:∀q∈M,q.1≠(n:Int)) (i:Nat):Z5 (fun ka kb:Int=>(ka==kb)) (ZkF M n F (i+1)) (n:Int) 0=((F+i:Nat):Int):=by
 unfold ZkF
 rw[if_neg (show i+1≠0 by omega)]
 exact Zvj eqI (n:Int) 0 _ (by simp) M [] (fun q hq=>by
  show((n:Int)==q.1)=false
  exact beq_false_of_ne (Ne.symm (h q hq)))
def Zhv (d:Zq) (n j:Nat):Zg:=match (tch d n)[j]? with | some z=>(match d.futures[z.toNat]? with | some f=>f | none=>⟨0,0,0⟩) | none=>⟨0,0,0⟩
theorem ZeD {d:Zq}{n i:Nat} (g:Zn6 d) (hi:i<nt d n):Zy (tch d n) (i:Int)=some (tch d n)[i]/\Zy d.futures (tch d n)[i]=some (Zhv d n i)/\(Zhv d n i).user=(n:Int)/\(Zhv d n i).pos=cut d n (i+1)/\Zhv d n i∈d.futures:=by
 obtain⟨f,h1,h2,h3,h4,h5,h6⟩:=ZlH g hi
 have e:Zhv d n i=f:=by
  unfold Zhv
  rw[List.getElem?_eq_getElem hi]
  show(match d.futures[((tch d n)[i]).toNat]? with | some f=>f | none=>⟨0,0,0⟩)=f
  rw[h3]
 rw[e]
 exact⟨h1,h2,h4,h5,h6⟩
theorem ZpD {d:Zq} (g:Zn6 d) {n i j:Nat} (hij:i<j) (hj:j<nt d n):(Zhv d n i).pos<(Zhv d n j).pos:=by
 obtain⟨_,_,h3,_,_,h5,_⟩:=ZlH g (show i<nt d n by omega)
 obtain⟨_,_,k3,_,_,k5,_⟩:=ZlH g hj
 rw[(ZeD g (show i<nt d n by omega)).2.2.2.1,(ZeD g hj).2.2.2.1]
 have:=List.pairwise_iff_getElem.1 (ZoX g n).rise i j (show i<nt d n by omega) hj hij
 have e:∀k (hk:k<nt d n),cut d n (k+1)=Zf2 d.futures (tch d n)[k]:=fun k hk=>by
  unfold cut
  rw[if_neg (by omega),Nat.add_sub_cancel,List.getElem?_eq_getElem hk]
 rw[e i (by omega),e j hj]
 exact this
def Zhi (d:Zq) (n k:Nat):List (Zg×Int):=(List.range k).map fun j:Nat=>(Zhv d n j,((Zau d n+j+1:Nat):Int))
theorem ZwP (d:Zq) (n k:Nat):Zhi d n (k+1)=Zhi d n k++[(Zhv d n k,((Zau d n+k+1:Nat):Int))]:=by unfold Zhi;rw[List.range_succ,List.map_append];rfl
theorem Zwl {a b:Zg} (h:a.user≠b.user∨a.pos≠b.pos):eqF a b=false:=by
 show((a.maker==b.maker)&&((a.user==b.user)&&((a.pos==b.pos)&&true)))=false
 rcases h with h | h
 ·rw[beq_false_of_ne h];simp
 ·rw[beq_false_of_ne h];simp
theorem Zs3 {d:Zq} (g:Zn6 d) {n k:Nat} (hk:k<nt d n) {M:List (Zg×Int)} (h:∀q∈M,q.1.user≠(n:Int)) :
  Zu (fun ka kb:Zg=>((ka.maker==kb.maker)&&((ka.user==kb.user)&&((ka.pos==kb.pos)&&true)))) (M++Zhi d n k) (Zhv d n k) ((Zau d n+(k+1):Nat):Int)=M++Zhi d n (k+1):=by
 rw[ZwP,<- List.append_assoc]
 refine Zj1 eqF _ _ _ fun q hq=>?_
 have hu:=(ZeD g hk).2.2.1
 rcases List.mem_append.1 hq with hq | hq
 ·exact Zwl (.inl (by rw[hu];exact Ne.symm (h q hq)))
 ·unfold Zhi at hq
  obtain⟨j,hj,rfl⟩:=List.mem_map.1 hq
  rw[List.mem_range] at hj
  have:=ZpD g hj hk
  exact Zwl (.inr (by show(Zhv d n k).pos≠(Zhv d n j).pos;omega))
theorem Zzj {d:Zq} (g:Zd8 d) {n:Nat} (hn:n<d.parts.length) {W:List Int}{E:List Zi}{P:List Ze}{M5:List (Int×Int)}{M6:List (Zg×Int)} (hW:W.length<=1000) (hE:E.length<=1000) (hP:P.length=Zau d n)
  (h5:∀q∈M5,q.1≠(n:Int)) (h6:∀q∈M6,q.1.user≠(n:Int)) :
  lp (ZB d (n:Int) (tch d n)) (0,0,M5,M6,W,E,P)=some (M5++[((n:Int),((Zau d n+nt d n:Nat):Int))],M6++Zhi d n (nt d n),W++ZoO d n,E++Zit d n (nt d n),P++Zgd n (nt d n+1)):=by
 obtain⟨x,x1,x2⟩:=ZAn hn
 have hnt:=ZD4 g n
 have hnl:(tch d n).length=nt d n:=rfl
 have hF:=Zjz g n
 have hpl:=g.pl
 have e1:w64 (((tch d n).length:Int)+1)=((nt d n+1:Nat):Int):=by show w64 ((nt d n:Int)+1)=_;rw[ZaA (by omega) (by omega)];omega
 have key:∀(k i:Nat),i+k=nt d n+1->lp (ZB d (n:Int) (tch d n)) (cut d n i,(i:Int),ZkF M5 n (Zau d n) i,M6++Zhi d n (i-1),W++ZkS d n i,E++Zit d n (i-1),P++Zgd n i) =
   some (ZkF M5 n (Zau d n) (nt d n+1),M6++Zhi d n (nt d n),W++ZoO d n,E++Zit d n (nt d n),P++Zgd n (nt d n+1)):=by
  intro k
  induction k with
  | zero=>
   intro i hi
   have:i=nt d n+1:=by omega
   subst this
   rw[Zae]
   simp only[ZB,e1,ZdO,cond_false]
   rfl
  | succ k ih=>
   intro i hi
   have hi':i<nt d n+1:=by omega
   have b0:=ZGK g.g n i
   have b1:=ZGK g.g n (i+1)
   have lP:(P++Zgd n i).length=Zau d n+i:=by rw[List.length_append,Zrf,hP]
   have l2:(W++ZkS d n i).length<=10000:=by rw[List.length_append,ZtW];omega
   have l3:(E++Zit d n (i-1)).length<=10000:=by rw[List.length_append,Ztp];omega
   have lput:=ZwI (P++Zgd n i) (Ze.mk (n:Int) (i:Int)) (by rw[lP];omega)
   rw[lP] at lput
   have p5:=Zx4 (F:=Zau d n) h5 i
   have g5:=ZwY (F:=Zau d n) h5 i
   have w5:w64 (cut d n (i+1)-cut d n i)=cut d n (i+1)-cut d n i:=ZaA (by omega) (by omega)
   have ih':=ih (i+1) (by omega)
   rw[Zw3,ZvR,<- List.append_assoc,<- List.append_assoc] at ih'
   rw[Zae]
   have fin:i=nt d n->cut d n (i+1)=x.work:=fun h=>by rw[h,ZAk,x2]
   have node:=fun c=>Zip (Ze.mk (n:Int) (i:Int)) c l2 (show(P++Zgd n i).length<=10000 by rw[lP];omega)
   by_cases hlast:i<nt d n
   ·obtain⟨q1,q2,q3,q4,_⟩:=ZeD g.g hlast
    cases i with
    | zero=>
     simp only[ZB,e1,Zcx hi',cond_true,x1,Option.bind_some,Zcx (show 0<(tch d n).length from hlast),q1,q2,q4,node,decide_eq_false (show ¬(0:Int)<((0:Nat):Int) by omega),cond_false,lput,p5,w5,ZL hi' (show nt d n+1<9223372036854775808 by omega)]
     exact ih'
    | succ j=>
     obtain⟨r1,r2,r3,r4,_⟩:=ZeD g.g (show j<nt d n by omega)
     have e2:w64 (((j+1:Nat):Int)-1)=(j:Int):=by rw[ZaA (by omega) (by omega)];omega
     have e3:w64 (((Zau d n+(j+1):Nat):Int)-1)=((Zau d n+j:Nat):Int):=by rw[ZaA (by omega) (by omega)];omega
     have p6:=Zs3 g.g (show j<nt d n by omega) h6
     rw[Nat.add_sub_cancel] at l3 ih' ⊢
     rw[Zrl,<- List.append_assoc] at ih'
     simp only[ZB,e1,Zcx hi',cond_true,x1,Option.bind_some,Zcx (show j+1<(tch d n).length from hlast),q1,q2,q4,node,decide_eq_true (show(0:Int)<((j+1:Nat):Int) by omega),lput,p5,g5,w5,e2,e3,r1,r2,ZlV _ _ l3,p6,ZL hi' (show nt d n+1<9223372036854775808 by omega)]
     exact ih'
   ·have hin:i=nt d n:=by omega
    have hfin:=fin hin
    rw[hfin] at w5 ih'
    have c3:decide ((i:Int)<((tch d n).length:Int))=false:=decide_eq_false (by have:((tch d n).length:Int)=(nt d n:Int):=rfl;omega)
    cases i with
    | zero=>
     simp only[ZB,e1,Zcx hi',cond_true,x1,Option.bind_some,c3,node,decide_eq_false (show ¬(0:Int)<((0:Nat):Int) by omega),cond_false,lput,p5,w5,ZL hi' (show nt d n+1<9223372036854775808 by omega)]
     exact ih'
    | succ j=>
     obtain⟨r1,r2,r3,r4,_⟩:=ZeD g.g (show j<nt d n by omega)
     have e2:w64 (((j+1:Nat):Int)-1)=(j:Int):=by rw[ZaA (by omega) (by omega)];omega
     have e3:w64 (((Zau d n+(j+1):Nat):Int)-1)=((Zau d n+j:Nat):Int):=by rw[ZaA (by omega) (by omega)];omega
     have p6:=Zs3 g.g (show j<nt d n by omega) h6
     rw[Nat.add_sub_cancel] at l3 ih' ⊢
     rw[Zrl,<- List.append_assoc] at ih'
     simp only[ZB,e1,Zcx hi',cond_true,cond_false,x1,Option.bind_some,c3,node,decide_eq_true (show(0:Int)<((j+1:Nat):Int) by omega),lput,p5,g5,w5,e2,e3,r1,r2,ZlV _ _ l3,p6,ZL hi' (show nt d n+1<9223372036854775808 by omega)]
     exact ih'
 have:=key (nt d n+1) 0 (by omega)
 simpa [ZkF,Zhi,ZkS,Zit,Zgd,cut] using this
def Zo7 (g:ZF) (a:Int) (T:List Bool):Prop:=∀e∈g.edges,(e.src=a∨bAt T e.src=true)->bAt T e.dst=true
def cnt (T:List Bool):Nat:=T.countP id
def Zg7 (d:Zq) (k:Nat):List (Int×Int):=(List.range k).map fun n:Nat=>((n:Int),(Zau d n:Int))
def Zhz (d:Zq) (k:Nat):List (Int×Int):=(List.range k).map fun n:Nat=>((n:Int),((Zau d n+nt d n:Nat):Int))
def Zd1 (d:Zq) (k:Nat):List (Zg×Int):=upto (fun n=>Zhi d n (nt d n)) k
theorem Zwx (d:Zq) (k:Nat):Zg7 d (k+1)=Zg7 d k++[((k:Int),(Zau d k:Int))]:=by unfold Zg7;rw[List.range_succ,List.map_append];rfl
theorem Zxx (d:Zq) (k:Nat):Zhz d (k+1)=Zhz d k++[((k:Int),((Zau d k+nt d k:Nat):Int))]:=by unfold Zhz;rw[List.range_succ,List.map_append];rfl
theorem ZyS (d:Zq) (k:Nat):∀q∈Zg7 d k,q.1≠(k:Int):=fun q hq=>by
 unfold Zg7 at hq
 obtain⟨j,hj,rfl⟩:=List.mem_map.1 hq
 rw[List.mem_range] at hj
 show(j:Int)≠(k:Int)
 omega
theorem Zvv (d:Zq) (k:Nat):∀q∈Zhz d k,q.1≠(k:Int):=fun q hq=>by
 unfold Zhz at hq
 obtain⟨j,hj,rfl⟩:=List.mem_map.1 hq
 rw[List.mem_range] at hj
 show(j:Int)≠(k:Int)
 omega
theorem Zpu {d:Zq}{k:Nat}{q:Zg×Int} (h:q∈Zd1 d k):∃n j,n<k/\j<nt d n/\q=(Zhv d n j,((Zau d n+j+1:Nat):Int)):=by
 unfold Zd1 upto at h
 obtain⟨n,hn,hq⟩:=List.mem_flatMap.1 h
 unfold Zhi at hq
 obtain⟨j,hj,rfl⟩:=List.mem_map.1 hq
 exact⟨n,j,List.mem_range.1 hn,List.mem_range.1 hj,rfl⟩
theorem ZxV {d:Zq} (g:Zn6 d) (k:Nat):∀q∈Zd1 d k,q.1.user≠(k:Int):=fun q hq=>by
 obtain⟨n,j,hn,hj,rfl⟩:=Zpu hq
 show(Zhv d n j).user≠(k:Int)
 rw[(ZeD g hj).2.2.1]
 omega
theorem Zjn {K W:Type} (eq:K->K->Bool) (z:W) (f:Nat->K) (v:Nat->W) {i:Nat} (h0:eq (f i) (f i)=true) (h1:∀j,j<i->eq (f i) (f j)=false):∀k,i<k->Z5 eq ((List.range k).map fun j=>(f j,v j)) (f i) z=v i
 | 0,h=>absurd h (by omega)
 | k+1,h=>by
  rw[List.range_succ,List.map_append]
  by_cases hk:i<k
  ·rw[ZlS eq (f i) z _ _ ⟨(f i,v i),List.mem_map.2 ⟨i,List.mem_range.2 hk,rfl⟩,h0⟩]
   exact Zjn eq z f v h0 h1 k hk
  ·have:i=k:=by omega
   subst this
   refine Zvj eq (f i) z (v i) h0 _ [] fun q hq=>?_
   obtain⟨j,hj,rfl⟩:=List.mem_map.1 hq
   exact h1 j (List.mem_range.1 hj)
theorem Zvx {d:Zq}{z:Int} (h:inR d z):Z5 (fun ka kb:Int=>(ka==kb)) (Zg7 d d.parts.length) z 0=Znw d z:=by
 have:=Zjn eqI 0 (fun n:Nat=>(n:Int)) (fun n=>(Zau d n:Int)) (i:=z.toNat) (by simp) (fun j hj=>beq_false_of_ne (by omega)) d.parts.length h.2
 have e:((z.toNat:Nat):Int)=z:=Int.toNat_of_nonneg h.1
 simp only[e] at this
 exact this
theorem ZtB {d:Zq}{z:Int} (h:inR d z):Z5 (fun ka kb:Int=>(ka==kb)) (Zhz d d.parts.length) z 0=Zpe d z:=by
 have:=Zjn eqI 0 (fun n:Nat=>(n:Int)) (fun n=>((Zau d n+nt d n:Nat):Int)) (i:=z.toNat) (by simp) (fun j hj=>beq_false_of_ne (by omega)) d.parts.length h.2
 have e:((z.toNat:Nat):Int)=z:=Int.toNat_of_nonneg h.1
 simp only[e] at this
 refine Eq.trans this ?_
 unfold Zpe
 show _=((Zau d z.toNat+(nt d z.toNat+1):Nat):Int)-1
 omega
theorem ZBT {d:Zq} (g:Zd8 d) {f:Zg} (h:f∈d.futures):∃j,j<nt d f.user.toNat/\Zhv d f.user.toNat j=f:=by
 obtain⟨m,hm⟩:=List.getElem?_of_mem h
 have hu:=g.user h
 have e:((f.user.toNat:Nat):Int)=f.user:=Int.toNat_of_nonneg hu.1
 have:=(ZoX g.g f.user.toNat).mem (m:Int) |>.2 ⟨m,f,hm,e.symm,rfl⟩
 obtain⟨j,hj,hj2⟩:=List.getElem_of_mem this
 refine⟨j,hj,?_⟩
 unfold Zhv
 rw[List.getElem?_eq_getElem hj]
 show(match d.futures[((tch d f.user.toNat)[j]).toNat]? with | some f=>f | none=>⟨0,0,0⟩)=f
 rw[hj2,Int.toNat_natCast,hm]
theorem Zz7 {γ R:Type} (p:Nat->γ->Bool) (out:Nat->γ->R) (fin:R):∀(l:List γ) (i j:Nat) (x:γ),l[j]? = some x->p (i+j) x=true->(∀k y,k<j->l[k]? = some y->p (i+k) y=false)->Ziu p out fin i l=out (i+j) x
 | [],i,j,x,h,_,_=>by cases h
 | y :: l,i,0,x,h,h1,_=>by
  cases h
  unfold Ziu
  rw[Nat.add_zero] at h1
  rw[h1];rfl
 | y :: l,i,j+1,x,h,h1,h2=>by
  unfold Ziu
  have h0:=h2 0 y (by omega) rfl
  rw[Nat.add_zero] at h0
  rw[h0]
  show Ziu p out fin (i+1) l=_
  rw[show i+(j+1)=i+1+j by omega] at h1 ⊢
  exact Zz7 p out fin l (i+1) j x h h1 fun k z hk hz=>by
   have:=h2 (k+1) z (by omega) hz
   rwa [show i+(k+1)=i+1+k by omega] at this
theorem ZFG {d:Zq} (g:Zd8 d) {f:Zg} (h:f∈d.futures) {j:Nat} (hj:j<nt d f.user.toNat) (he:Zhv d f.user.toNat j=f):ZBw d f=((Zau d f.user.toNat+j+1:Nat):Int):=by
 have pos:∀k (hk:k<nt d f.user.toNat),Zf2 d.futures (tch d f.user.toNat)[k]=(Zhv d f.user.toNat k).pos:=fun k hk=>by
  rw[(ZeD g.g hk).2.2.2.1]
  unfold cut
  rw[if_neg (by omega),Nat.add_sub_cancel,List.getElem?_eq_getElem hk]
 unfold ZBw
 rw[Zz7 (fun _ z=>Zf2 d.futures z==f.pos) (fun i _=>Znw d f.user+(i:Int)+1) (-1) (tch d f.user.toNat) 0 j _ (List.getElem?_eq_getElem hj) (by show(Zf2 d.futures (tch d f.user.toNat)[j]==f.pos)=true;rw[pos j hj,he];simp) (fun k y hk hy=>by
  have hk2:k<nt d f.user.toNat:=by omega
  have hy2:(tch d f.user.toNat)[k]=y:=Option.some.inj ((List.getElem?_eq_getElem hk2).symm.trans hy)
  have:=ZpD g.g hk hj
  rw[he] at this
  show(Zf2 d.futures y==f.pos)=false
  rw[<- hy2,pos k hk2]
  exact beq_false_of_ne (by omega))]
 unfold Znw
 omega
theorem ZwN (f:Zg):eqF f f=true:=by simp[eqF]
theorem ZBf {d:Zq} (g:Zd8 d) {f:Zg} (h:f∈d.futures):Z5 (fun ka kb:Zg=>((ka.maker==kb.maker)&&((ka.user==kb.user)&&((ka.pos==kb.pos)&&true)))) (Zd1 d d.parts.length) f 0=ZBw d f:=by
 obtain⟨j,hj,he⟩:=ZBT g h
 have hu:=g.user h
 have eu:((f.user.toNat:Nat):Int)=f.user:=Int.toNat_of_nonneg hu.1
 have key:∀k,f.user.toNat<k->Z5 eqF (Zd1 d k) f 0=ZBw d f:=by
  intro k
  induction k with
  | zero=>intro hk;exact absurd hk (by omega)
  | succ k ih=>
   intro hk
   rw[show Zd1 d (k+1)=Zd1 d k++Zhi d k (nt d k) from Zgw _ k]
   by_cases hlt:f.user.toNat<k
   ·rw[ZlS eqF f 0 _ _ ⟨(f,((Zau d f.user.toNat+j+1:Nat):Int)),?_,ZwN f⟩]
    ·exact ih hlt
    ·unfold Zd1 upto
     refine List.mem_flatMap.2 ⟨f.user.toNat,List.mem_range.2 hlt,?_⟩
     unfold Zhi
     exact List.mem_map.2 ⟨j,List.mem_range.2 hj,by rw[he]⟩
   ·have hk2:k=f.user.toNat:=by omega
    subst hk2
    rw[ZkU eqF f 0 _ _ (fun q hq=>by
     obtain⟨n,i,hn,hi,rfl⟩:=Zpu hq
     refine Zwl (.inl ?_)
     show f.user≠(Zhv d n i).user
     rw[(ZeD g.g hi).2.2.1]
     omega)]
    have:=Zjn eqF 0 (fun i=>Zhv d f.user.toNat i) (fun i=>((Zau d f.user.toNat+i+1:Nat):Int)) (i:=j) (ZwN _) (fun i hi=>by
     have:=ZpD g.g hi hj
     exact Zwl (.inr (by omega))) (nt d f.user.toNat) hj
    rw[ZFG g h hj he]
    rw[he] at this
    exact this
 exact key d.parts.length hu.2
theorem Zzt {d:Zq} (g:Zd8 d) (hc:∀n:Nat,Zd9 d (n:Int)=some (tch d n)):lp (ZcM d) (0,[],[],[],[],[],[])=some (ZiR d d.parts.length,Zir d d.parts.length,Zdt d d.parts.length,Zg7 d d.parts.length,Zhz d d.parts.length,Zd1 d d.parts.length):=by
 have hpl:=g.pl
 have key:∀(k i:Nat),i+k=d.parts.length->lp (ZcM d) ((i:Int),ZiR d i,Zir d i,Zdt d i,Zg7 d i,Zhz d i,Zd1 d i)=some (ZiR d d.parts.length,Zir d d.parts.length,Zdt d d.parts.length,Zg7 d d.parts.length,Zhz d d.parts.length,Zd1 d d.parts.length):=by
  intro k
  induction k with
  | zero=>
   intro i hi
   have:i=d.parts.length:=by omega
   subst this
   rw[Zae]
   simp only[ZcM,ZdO,cond_false]
  | succ k ih=>
   intro i hi
   have hi':i<d.parts.length:=by omega
   have hF:=Zjz g i
   have h1:=Zo0 d i
   have l1:(ZiR d i).length<=1000:=by rw[ZlM];omega
   have l2:(Zir d i).length<=1000:=by omega
   have l3:(Zdt d i).length<=1000:=by rw[ZhM];omega
   have ih':=ih (i+1) (by omega)
   rw[show Zir d (i+1)=Zir d i++Zit d i (nt d i) from Zgw _ i,show ZiR d (i+1)=ZiR d i++ZoO d i from Zgw _ i,show Zdt d (i+1)=Zdt d i++Zgd i (nt d i+1) from Zgw _ i,Zwx,Zxx,show Zd1 d (i+1)=Zd1 d i++Zhi d i (nt d i) from Zgw _ i] at ih'
   have pe:=ZBB g hi' (hc i) (Zhz d i) (Zd1 d i) l1 l2 l3
   rw[Zzj g hi' l1 l2 (ZhM d i) (Zvv d i) (ZxV g.g i),Option.bind_some] at pe
   have p4:Zu (fun ka kb:Int=>(ka==kb)) (Zg7 d i) (i:Int) ((Zdt d i).length:Int)=Zg7 d i++[((i:Int),(Zau d i:Int))]:=by
    rw[ZhM]
    exact Zj1 eqI (i:Int) _ _ fun q hq=>beq_false_of_ne (Ne.symm (ZyS d i q hq))
   have p5:Zu (fun ka kb:Int=>(ka==kb)) (Zhz d i) (i:Int) (Zau d i:Int)=Zhz d i++[((i:Int),(Zau d i:Int))]:=Zj1 eqI (i:Int) _ _ fun q hq=>beq_false_of_ne (Ne.symm (Zvv d i q hq))
   have lput:=ZwI (Zdt d i) (Ze.mk (i:Int) 0) (by omega)
   rw[ZhM] at lput
   rw[Zae]
   by_cases h0:0<nt d i
   ·rw[decide_eq_true h0] at pe
    simp only[ZcM,Zcx hi',cond_true,pe,Option.bind_some,p4,ZL hi' (show d.parts.length<9223372036854775808 by omega)]
    exact ih'
   ·have hz:nt d i=0:=by omega
    rw[decide_eq_false h0] at pe
    simp only[ZcM,Zcx hi',cond_true,cond_false,pe,Option.bind_some,p4,lput,p5,ZL hi' (show d.parts.length<9223372036854775808 by omega)]
    rw[hz] at ih'
    simpa [Zit,Zgd,Zhi] using ih'
 exact key d.parts.length 0 (by omega)
theorem ZyQ {d:Zq} (g:Zd8 d) {r3:List Int×List Zi×List Ze×List (Int×Int)×List (Int×Int)×List (Zg×Int)} (h4:r3.2.2.2.1=Zg7 d d.parts.length) (h5:r3.2.2.2.2.1=Zhz d d.parts.length) (E:List Zi) (hE:E.length<=1000):lp (ZdI d r3) (0,E)=some (E++ZtO d):=
 have he:=g.el
 ZvY d.edges (by omega) (ZdI d r3) (fun e=>⟨Zpe d e.src,Znw d e.dst⟩) (fun i x s hi hx hb=>by
  have hm:=List.mem_of_getElem? hx
  have ed:∀b c,ZI b c s=some ():=fun b c=>by unfold ZI;rw[hb];rfl
  simp only[ZdI,Zcx hi,cond_true,ZN hx,Option.bind_some,h4,h5,ZtB (g.src hm),Zvx (g.dst hm),ed,ZL hi (show d.edges.length<9223372036854775808 by omega)]) (fun s=>by simp only[ZdI,ZdO,cond_false]) E (by omega)
theorem Zwo {d:Zq} (g:Zd8 d) {r3:List Int×List Zi×List Ze×List (Int×Int)×List (Int×Int)×List (Zg×Int)} (h5:r3.2.2.2.2.1=Zhz d d.parts.length) (h6:r3.2.2.2.2.2=Zd1 d d.parts.length) (E:List Zi) (hE:E.length<=1000):lp (ZdP d r3) (0,E)=some (E++Zv2 d):=
 have he:=g.fl
 ZvY d.futures (by omega) (ZdP d r3) (fun f=>⟨Zpe d f.maker,ZBw d f⟩) (fun i x s hi hx hb=>by
  have hm:=List.mem_of_getElem? hx
  have ed:∀b c,ZI b c s=some ():=fun b c=>by unfold ZI;rw[hb];rfl
  simp only[ZdP,Zcx hi,cond_true,ZN hx,Option.bind_some,h5,h6,ZtB (g.maker hm),ZBf g hm,ed,ZL hi (show d.futures.length<9223372036854775808 by omega)]) (fun s=>by simp only[ZdP,ZdO,cond_false]) E (by omega)
theorem ZBo {d:Zq} (g:Zd8 d) (hz:Zod d) {r3:List Int×List Zi×List Ze×List (Int×Int)×List (Int×Int)×List (Zg×Int)} (h4:r3.2.2.2.1=Zg7 d d.parts.length) (h5:r3.2.2.2.2.1=Zhz d d.parts.length) (E:List Zi) (hE:E.length<=1000) :
  lp (ZdL d r3) (0,ZiR d d.parts.length,E,Zdt d d.parts.length)=some (ZkX d,E++ZhA d d.barriers.length,Zye d):=by
 have hbl:=g.bl
 have hF:=Zjz g d.parts.length
 have hpl:=g.pl
 have key:∀(k i:Nat),i+k=d.barriers.length->lp (ZdL d r3) ((i:Int),ZiR d d.parts.length++List.replicate i 1,E++ZhA d i,Zdt d d.parts.length++Zg6 i)=some (ZkX d,E++ZhA d d.barriers.length,Zye d):=by
  intro k
  induction k with
  | zero=>
   intro i hi
   have:i=d.barriers.length:=by omega
   subst this
   rw[Zae]
   simp only[ZdL,ZdO,cond_false]
   rfl
  | succ k ih=>
   intro i hi
   have hi':i<d.barriers.length:=by omega
   have hx:d.barriers[i]? = some d.barriers[i]:=List.getElem?_eq_getElem hi'
   have hm:=List.mem_of_getElem? hx
   have hsz:=hz.i _ hm
   have hB:=ZoP hz i
   have lp_:(Zdt d d.parts.length++Zg6 i).length=Zau d d.parts.length+i:=by rw[List.length_append,ZhM,Zw2]
   have lw_:(ZiR d d.parts.length++List.replicate i (1:Int)).length=Zau d d.parts.length+i:=by rw[List.length_append,ZlM,List.length_replicate]
   have lput:=ZwI (Zdt d d.parts.length++Zg6 i) (Ze.mk (-1) (i:Int)) (by rw[lp_];omega)
   rw[lp_,show((Zau d d.parts.length+i:Nat):Int)=ZtU d i from rfl] at lput
   have k4:=fun s=>ZvY d.barriers[i].ins (by omega) (ZfA r3 ((i:Int),ZiR d d.parts.length++List.replicate i 1,E++ZhA d i,Zdt d d.parts.length++Zg6 i) d.barriers[i]) (fun q=>⟨Zpe d q,ZtU d i⟩) (fun j x s hj hx hb=>by
    have ed:∀b c,ZI b c s=some ():=fun b c=>by unfold ZI;rw[hb];rfl
    simp only[ZfA,Zcx hj,cond_true,ZN hx,Option.bind_some,h5,ZtB (g.ins _ hm x (List.mem_of_getElem? hx)),lput,ed,ZL hj (show d.barriers[i].ins.length<9223372036854775808 by omega)]) (fun s=>by simp only[ZfA,ZdO,cond_false]) s
   have k5:=fun s=>ZvY d.barriers[i].outs (by omega) (ZfC r3 ((i:Int),ZiR d d.parts.length++List.replicate i 1,E++ZhA d i,Zdt d d.parts.length++Zg6 i) d.barriers[i]) (fun q=>⟨ZtU d i,Znw d q⟩) (fun j x s hj hx hb=>by
    have ed:∀b c,ZI b c s=some ():=fun b c=>by unfold ZI;rw[hb];rfl
    simp only[ZfC,Zcx hj,cond_true,ZN hx,Option.bind_some,h4,Zvx (g.outs _ hm x (List.mem_of_getElem? hx)),lput,ed,ZL hj (show d.barriers[i].outs.length<9223372036854775808 by omega)]) (fun s=>by simp only[ZfC,ZdO,cond_false]) s
   have ih':=ih (i+1) (by omega)
   have eB:ZhA d (i+1)=ZhA d i++ZDk d (ZtU d i) d.barriers[i]:=by
    unfold ZhA
    rw[Zgw,hx]
   rw[eB,Zwe,List.replicate_succ',ZDk,<- List.append_assoc,<- List.append_assoc,<- List.append_assoc,<- List.append_assoc] at ih'
   rw[Zae]
   simp only[ZdL,Zcx hi',cond_true,ZN hx,Option.bind_some,Zip _ _ (show(ZiR d d.parts.length++List.replicate i (1:Int)).length<=10000 by rw[lw_];omega) (show(Zdt d d.parts.length++Zg6 i).length<=10000 by rw[lp_];omega),k4 (E++ZhA d i) (by rw[List.length_append];omega),
    k5 (E++ZhA d i++List.map (fun q=>⟨Zpe d q,ZtU d i⟩) d.barriers[i].ins) (by simp only[List.length_append,List.length_map];omega),ZL hi' (show d.barriers.length<9223372036854775808 by omega)]
   exact ih'
 have:=key d.barriers.length 0 (by omega)
 simpa [ZhA,upto,Zg6] using this
theorem ZxB {d:Zq} (g:Zd8 d) (hz:Zod d):ZoZ (Zcn d).dag:=by
 have hE:=Zsl g
 have hB:=ZoP hz d.barriers.length
 have hbl:=g.bl
 have hF:=Zjz g d.parts.length
 have hpl:=g.pl
 constructor
 ·show(ZkX d).length<_
  unfold ZkX
  rw[List.length_append,ZlM,List.length_replicate]
  omega
 ·show(Zyu d).length<_
  unfold Zyu
  rw[List.length_append]
  omega
noncomputable def ZsA (d:Zq):ZvT×Int:=
 bif Zh8 d==0 then (bif Za6 (Zcn d).dag==0 then (Zcn d,0) else (⟨⟨[],[]⟩,[]⟩,70)) else (⟨⟨[],[]⟩,[]⟩,Zh8 d)
theorem ZAg {d:Zq} (hz:Zod d):Zhs d=some (ZsA d):=by
 have hs:=hz.short
 unfold Zhs ZsA
 rw[ZzK d hs,Option.bind_some]
 by_cases hc:Zh8 d=0
 ·have g:=ZsW hc
  have hE:=Zsl g
  have h3:(Zir d d.parts.length++ZtO d).length<=1000:=by unfold ZqD at hE;rw[List.length_append] at hE;omega
  have h4:(Zir d d.parts.length).length<=1000:=by rw[List.length_append] at h3;omega
  rw[hc]
  simp only[bne_self_eq_false,cond_false,beq_self_eq_true,cond_true,Zzt g (ZIT hs (by have:=g.fl;omega) hc),Option.bind_some]
  rw[ZyQ g rfl rfl _ h4]
  simp only[Option.bind_some]
  rw[Zwo g rfl rfl _ h3]
  simp only[Option.bind_some]
  rw[show Zir d d.parts.length++ZtO d++Zv2 d=ZqD d from rfl,ZBo g hz rfl rfl _ hE]
  simp only[Option.bind_some]
  rw[show ZF.mk (ZkX d) (ZqD d++ZhA d d.barriers.length)=(Zcn d).dag from rfl,Zim _ (ZxB g hz),Option.bind_some]
  by_cases hk:Za6 (Zcn d).dag=0
  ·rw[hk];rfl
  ·rw[beq_false_of_ne hk,bne,beq_false_of_ne hk];rfl
 ·rw[beq_false_of_ne hc,bne,beq_false_of_ne hc];rfl
theorem ZF7 {d:Zq} (g:Zd8 d) {n:Nat} (hn:n<d.parts.length):1<=ZgD d.parts (n:Int):=by
 unfold ZgD
 rw[Int.toNat_natCast,List.getElem?_eq_getElem hn]
 exact(g.g.w _ (List.getElem_mem hn)).1
theorem Zz8 {d:Zq} (g:Zn6 d) {n i:Nat} (hi:i<nt d n):1<=cut d n (i+1)/\cut d n (i+1)<=ZgD d.parts (n:Int)-1:=by
 obtain⟨_,_,h3,h4,h5⟩:=ZeD g hi
 have:=(g.f _ h5).2
 rw[h3,h4] at this
 exact this
theorem ZEu {d:Zq} (g:Zd8 d) {n:Nat} (hn:n<d.parts.length) {i:Nat} (hi:i<=nt d n):1<=cut d n (i+1)-cut d n i:=by
 have hw:=ZF7 g hn
 by_cases hl:i<nt d n
 ·have h1:=Zz8 g.g hl
  cases i with
  | zero=>have:cut d n 0=0:=rfl;omega
  | succ j=>
   have:=ZpD g.g (show j<j+1 by omega) hl
   rw[(ZeD g.g (show j<nt d n by omega)).2.2.2.1,(ZeD g.g hl).2.2.2.1] at this
   omega
 ·have:i=nt d n:=by omega
  subst this
  rw[ZAk]
  cases h0:nt d n with
  | zero=>have:cut d n 0=0:=rfl;omega
  | succ j=>
   have:=Zz8 g.g (show j<nt d n by omega)
   omega
theorem ZCU {d:Zq} (g:Zd8 d) {n:Nat} (hn:n<d.parts.length):∀x∈ZoO d n,1<=x:=fun x hx=>by
 unfold ZoO ZkS at hx
 obtain⟨i,hi,rfl⟩:=List.mem_map.1 hx
 rw[List.mem_range] at hi
 exact ZEu g hn (by omega)
theorem Zvf {d:Zq} (g:Zd8 d):∀x∈ZkX d,1<=x:=fun x hx=>by
 unfold ZkX at hx
 rcases List.mem_append.1 hx with hx | hx
 ·unfold ZiR upto at hx
  obtain⟨n,hn,hx⟩:=List.mem_flatMap.1 hx
  exact ZCU g (List.mem_range.1 hn) x hx
 ·rw[(List.mem_replicate.1 hx).2];exact Int.le_refl _
theorem ZEf (d:Zq) (g:Zn6 d) (n:Nat):nt d n=d.futures.countP fun f=>f.user==(n:Int):=by
 show(tch d n).length=_
 rw[ZuR (ZoX g n)]
 unfold ZrO
 rw[ZpY]
theorem Zvd {γ:Type} (p q r:γ->Bool) (h:∀x,r x=(p x || q x)) (h2:∀x,¬(p x=true/\q x=true)):∀l:List γ,l.countP r=l.countP p+l.countP q
 | []=>rfl
 | x :: l=>by
  rw[List.countP_cons,List.countP_cons,List.countP_cons,Zvd p q r h h2 l,h x]
  have:=h2 x
  cases hp:p x<;>cases hq:q x<;>simp_all<;>omega
theorem ZpQ {d:Zq} (g:Zd8 d):∀k,Zau d k=k+d.futures.countP fun f=>decide (0<=f.user)&&decide (f.user<(k:Int))
 | 0=>by
  have:(d.futures.countP fun f=>decide (0<=f.user)&&decide (f.user<((0:Nat):Int)))=0:=by
   rw[List.countP_eq_zero]
   intro f _
   simp only[Bool.and_eq_true,decide_eq_true_eq]
   omega
  rw[this];rfl
 | k+1=>by
  rw[Zvd (fun f:Zg=>decide (0<=f.user)&&decide (f.user<(k:Int))) (fun f=>f.user==(k:Int)) (fun f=>decide (0<=f.user)&&decide (f.user<((k+1:Nat):Int))) (fun f=>by
   rw[Bool.eq_iff_iff]
   simp only[Bool.and_eq_true,Bool.or_eq_true,decide_eq_true_eq,beq_iff_eq]
   omega) (fun f=>by
   simp only[Bool.and_eq_true,decide_eq_true_eq,beq_iff_eq]
   omega)]
  show Zau d k+(nt d k+1)=_
  rw[ZpQ g k,ZEf d g.g k]
  omega
theorem ZyU {d:Zq} (g:Zd8 d):Zau d d.parts.length=d.parts.length+d.futures.length:=by
 rw[ZpQ g,List.countP_eq_length.2 fun f hf=>?_]
 have:=g.user hf
 have h1:=this.1
 have h2:=this.2
 simp only[Bool.and_eq_true,decide_eq_true_eq]
 omega
theorem Zzs {d:Zq} (g:Zd8 d):(ZkX d).length=d.parts.length+d.futures.length+d.barriers.length:=by
 unfold ZkX
 rw[List.length_append,ZlM,List.length_replicate,ZyU g]
theorem ZIv (l:List Int) (hl:l.length<=1000) (hb:∀x∈l,0<=x/\x<=1000000) (step:Int×Int->Option ((Int×Int)⊕Int))
  (h1:∀(i:Nat) x s,i<l.length->l[i]? = some x->step (s,(i:Int))=some (.inl (w64 (s+x),((i+1:Nat):Int)))) (h2:∀s,step (s,(l.length:Int))=some (.inr s)) (s:Int) (hs:0<=s/\s<=1000000):lp step (s,0)=some (s+l.sum):=by
 have key:=(Zm4 l step (fun i s=>(s,(i:Int))) (fun _ s x=>s+x) id (fun i s=>0<=s/\s<=1000000+1000000*i) (fun i x s hi hx hI=>by
  have:=hb x (List.mem_of_getElem? hx)
  refine⟨?_,by omega⟩
  rw[h1 i x s hi hx,ZaA (by omega) (by omega)]) (fun s _=>h2 s) s (by omega)).1
 have e:∀(l:List Int) (i:Nat) (s:Int),Zfo (fun _ s x=>s+x) i s l=s+l.sum:=by
  intro l
  induction l with
  | nil=>intro i s;simp[Zfo]
  | cons x l ih=>intro i s;show Zfo _ (i+1) (s+x) l=_;rw[ih,List.sum_cons];omega
 rw[e] at key
 exact key
theorem Zzl {g:ZF} (h:Za6 g=0):Zkl g=some g.work.sum:=by
 have hG:=(Za9 h).1
 unfold Zkl
 rw[Zim g hG.short,h]
 have:=ZIv g.work (by have:=hG.wl;omega) (fun x hx=>by have:=hG.w x hx;omega) (ZgO g) (fun i x s hi hx=>by
  simp only[ZgO,Zcx hi,cond_true,ZN hx,Option.bind_some,ZL hi hG.short.w]) (fun s=>by simp only[ZgO,ZdO,cond_false]) 0 (by omega)
 simp only[Option.bind_some,beq_self_eq_true,cond_true,this,Int.zero_add]
theorem ZyK (d:Zq):(ZsA d=(Zcn d,0)/\Zh8 d=0/\Za6 (Zcn d).dag=0)∨((ZsA d).1=⟨⟨[],[]⟩,[]⟩/\(ZsA d).2≠0):=by
 unfold ZsA
 by_cases hc:Zh8 d=0
 ·rw[hc]
  by_cases hk:Za6 (Zcn d).dag=0
  ·rw[hk];exact .inl ⟨rfl,rfl,rfl⟩
  ·rw[beq_false_of_ne hk];exact .inr ⟨rfl,by show(70:Int)≠0;omega⟩
 ·rw[beq_false_of_ne hc];exact .inr ⟨rfl,hc⟩
def rng (n m:Int):Bool:=decide (1<=n)&&decide (n<=m)
theorem ZIx (n m:Int):Zdh n m=some (rng n m):=by
 unfold Zdh rng
 cases decide (1<=n)<;>cases decide (n<=m)<;>rfl
noncomputable def Zmc (s:Zd6):Bool:=Zwk s.period&&(!decide (4096<s.period)&&(rng s.deadline s.period&&(rng s.total 4096&&(rng s.long s.total&&rng s.most s.long))))
theorem ZFU (s:Zd6):ZiA s=some (bif Zmc s then 0 else 140):=by
 obtain⟨k,hk⟩:=Zsx s.period
 unfold ZiA Zmc
 simp only[hk,ZIx,Option.bind_some]
 cases Zwk s.period<;>cases decide (4096<s.period)<;>cases rng s.deadline s.period<;>cases rng s.total 4096<;>cases rng s.long s.total<;>cases rng s.most s.long<;>rfl
structure ZzJ (s:Zd6):Prop where
 p:s.period<=4096
 d1:1<=s.deadline
 d2:s.deadline<=s.period
 t1:1<=s.total
 t2:s.total<=4096
 l1:1<=s.long
 l2:s.long<=s.total
 m1:1<=s.most
 m2:s.most<=s.long
theorem Zx2 {s:Zd6} (h:Zmc s=true):ZzJ s:=by
 unfold Zmc rng at h
 simp only[Bool.and_eq_true,Bool.not_eq_true',decide_eq_false_iff_not,decide_eq_true_eq] at h
 obtain⟨_,h1,h2,h3,h4,h5⟩:=h
 exact⟨by omega,h2.1,h2.2,h3.1,h3.2,h4.1,h4.2,h5.1,h5.2⟩
theorem ZGs (a b:Int) (ha:0<=a) (ha2:a<=1099511627775) (hb:0<=b) (hb2:b<=1099511627775):ZkO [a,b]=some 0:=by
 have ne:∀x:Int,0<=x->x<=1099511627775->ZcO x=some false:=fun x h1 h2=>by
  unfold ZcO
  rw[Zop]
  unfold Zl2
  rw[decide_eq_false (show ¬x<0 by omega),decide_eq_false (show ¬1099511627775<x by omega)]
  rfl
 have key:lp (Zx [a,b] (fun z0=>ZcO z0)) 0=some (.inr ()):=by
  have:=Zhw [a,b] (Zx [a,b] (fun z0=>ZcO z0)) (fun _ _=>false) (fun i _=>.inl (i:Int)) (.inr ()) (fun i x hi hx=>by
   have hx':x=a∨x=b:=by
    have:=List.mem_of_getElem? hx
    simpa using this
   have e:ZcO x=some false:=by
    rcases hx' with rfl | rfl
    ·exact ne _ ha ha2
    ·exact ne _ hb hb2
   simp only[Zx,Zcx hi,ZN hx,Option.bind_some,ZL hi (show [a,b].length<9223372036854775808 by simp),cond_true,e,cond_false]) (by simp only[Zx,ZdO];rfl)
  rw[this]
  rfl
 unfold ZkO ZG
 rw[key]
 rfl
theorem ZLx (a b:Int) (ha:0<=a) (ha2:a<=4096) (hb:1<=b) (hb2:b<=4096):Zpf a b=some ((a+(b-1)) / b,0):=by
 unfold Zpf Zj7 Zmd
 rw[ZGs _ _ (by omega) (by omega) (by omega) (by omega)]
 have e3:w64 (b-1)=b-1:=ZaA (by omega) (by omega)
 have e4:w64 (a+(b-1))=a+(b-1):=ZaA (by omega) (by omega)
 have h0:0<=(a+(b-1)) / b:=Int.ediv_nonneg (by omega) (by omega)
 have hq2:(a+(b-1)) / b<=a+(b-1):=Int.ediv_le_self _ (by omega)
 simp only[Option.bind_some,bne_self_eq_false,cond_false,show(b==0)=false by simp;omega,e3,e4]
 rw[Int.tdiv_eq_ediv_of_nonneg (by omega),ZaA (by omega) (by omega)]
def upN (s:Zd6):Int:=(s.total-s.long+(s.deadline-s.long-1)) / (s.deadline-s.long)
noncomputable def ZlT (s:Zd6):Int×Int:=bif Zmc s then (bif decide (s.deadline<s.total) then (bif decide (s.deadline<=s.long) then (0,141) else bif decide (8<upN s) then (0,142) else (upN s,0)) else (1,0)) else (0,140)
theorem ZCh {s:Zd6} (h:s.long<s.deadline) (n:Int):upN s<=n↔s.total-s.long<=n*(s.deadline-s.long):=by
 have hb:0<s.deadline-s.long:=by omega
 have:=Int.ediv_lt_iff_lt_mul (a:=s.total-s.long+(s.deadline-s.long-1)) (b:=n+1) hb
 rw[Int.add_mul,Int.one_mul] at this
 unfold upN
 omega
theorem Zz9 (s:Zd6):ZiC s=some (ZlT s):=by
 unfold ZiC ZlT
 rw[ZFU]
 cases h:Zmc s with
 | false=>rfl
 | true=>
  have o:=Zx2 h
  have o1:=o.p;have o2:=o.d1;have o3:=o.d2;have o4:=o.t1;have o5:=o.t2;have o6:=o.l1;have o7:=o.l2
  simp only[cond_true,Option.bind_some,bne_self_eq_false,cond_false]
  unfold ZoH
  cases h1:decide (s.deadline<s.total) with
  | false=>rfl
  | true=>
   have h1:=of_decide_eq_true h1
   simp only[cond_true,Option.bind_some]
   unfold ZhD
   by_cases h2:s.deadline<=s.long
   ·rw[decide_eq_true h2];rfl
   ·rw[decide_eq_false h2]
    have e1:w64 (s.total-s.long)=s.total-s.long:=ZaA (by omega) (by omega)
    have e2:w64 (s.deadline-s.long)=s.deadline-s.long:=ZaA (by omega) (by omega)
    simp only[cond_false,e1,e2,ZLx _ _ (show 0<=s.total-s.long by omega) (by omega) (show 1<=s.deadline-s.long by omega) (by omega),Option.bind_some,beq_self_eq_true,cond_true]
    show(bif decide (8<upN s) then _ else _:Option Zhn).bind _=_
    cases decide (8<upN s)<;>rfl
theorem ZnH (l:List Int) (hl:l.length<=1000):∃r:List Int,Zcj l=some r/\r.Perm l/\r.Pairwise (fun x y=>x<=y):=by
 refine⟨sortI l,?_,ZoS l,Zmg l⟩
 unfold Zcj
 rw[Nat.ble_eq_true_of_le (Nat.le_trans hl (by decide))]
 rfl
theorem ZGt {g:ZF} (h:ZgT g) (n:Int):∃r,Zku g n=some r/\(∀z,z∈r↔∃e∈g.edges,e.dst=n/\e.src=z)/\r.length<=256:=by
 have hel:=h.el
 have key:=Zy8 g.edges (by omega) (fun e:Zi=>e.dst==n) (fun _ e=>e.src) (Zdw g fun z0=>Zgs z0 n) (fun i x s hi hx=>by
  simp only[Zdw,Zcx hi,cond_true,ZN hx,Option.bind_some,Zgs,ZL hi h.short.e]
  cases x.dst==n<;>rfl) (fun s=>by simp only[Zdw,ZdO,cond_false]) [] (by simp)
 rw[List.nil_append] at key
 have hlen:(sel (fun e:Zi=>e.dst==n) (fun _ e=>e.src) 0 g.edges).length<=256:=Nat.le_trans (Zu0 _ _ _ _) hel
 obtain⟨r,h1,h2,_⟩:=ZnH _ (Nat.le_trans hlen (by omega))
 refine⟨r,?_,fun z=>?_,by rw[h2.length_eq];exact hlen⟩
 ·unfold Zku Zjw
  simp only[key,Option.bind_some,h1]
 ·rw[h2.mem_iff,Zps]
  constructor
  ·rintro ⟨j,x,hx,h3,h4⟩
   exact⟨x,List.mem_of_getElem? hx,by simpa using h3,h4.symm⟩
  ·rintro ⟨e,he,h3,h4⟩
   obtain⟨j,hj⟩:=List.getElem?_of_mem he
   exact⟨j,e,hj,by simpa using h3,h4.symm⟩
theorem ZBR {g:ZF} (h:Za6 g=0):∃l,Zko g=some l/\ZJx g l:=by
 obtain⟨hG,hA⟩:=Za9 h
 obtain⟨l,h1,h2⟩:=ZuU hG hA
 refine⟨l,?_,h2⟩
 unfold Zko
 rw[Zim g hG.short,h,Option.bind_some]
 simp only[bne_self_eq_false,cond_false,h1,Option.bind_some,cond_true]
def fat (l:List Int) (z:Int):Int:=match l[z.toNat]? with | some x=>x | none=>0
theorem Zp5 {l:List Int}{n:Nat} (hl:l.length=n) {z:Int} (h:0<=z/\z.toNat<n):Zy l z=some (fat l z):=by
 have e:=List.getElem?_eq_getElem (show z.toNat<l.length by rw[hl];exact h.2)
 rw[Zpa h.1 e]
 unfold fat
 rw[e]
theorem Zqd {l:List Int}{n:Nat} (hl:l.length=n) {z w v:Int} (hz:0<=z/\z.toNat<n) (hw:0<=w):fat (l.set z.toNat v) w=if w=z then v else fat l w:=by
 unfold fat
 rw[List.getElem?_set]
 by_cases h:z.toNat=w.toNat
 ·rw[if_pos h,if_pos (by rw[hl];exact hz.2),if_pos (by omega)]
 ·rw[if_neg h,if_neg (by intro hc;exact h (by rw[hc]))]
theorem Ztv (v:Int->Int):∀(ps:List Int) (i:Nat) (m:Int),m<=Zfo (fun _ m p=>bif decide (m<v p) then v p else m) i m ps/\(∀p∈ps,v p<=Zfo (fun _ m p=>bif decide (m<v p) then v p else m) i m ps) /\
  (Zfo (fun _ m p=>bif decide (m<v p) then v p else m) i m ps=m∨∃p∈ps,Zfo (fun _ m p=>bif decide (m<v p) then v p else m) i m ps=v p)
 | [],i,m=>⟨Int.le_refl _,(fun p hp=>by cases hp),.inl rfl⟩
 | p :: ps,i,m=>by
  obtain⟨h1,h2,h3⟩:=Ztv v ps (i+1) (bif decide (m<v p) then v p else m)
  generalize hr:Zfo (fun _ m p=>bif decide (m<v p) then v p else m) (i+1) (bif decide (m<v p) then v p else m) ps=r at *
  have e:Zfo (fun _ m p=>bif decide (m<v p) then v p else m) i m (p :: ps)=r:=hr
  rw[e]
  by_cases hc:m<v p
  ·rw[decide_eq_true hc] at h1 h3
   simp only[cond_true] at h1 h3
   refine⟨by omega,fun q hq=>?_,?_⟩
   ·rcases List.mem_cons.1 hq with rfl | hq
    ·exact h1
    ·exact h2 q hq
   ·rcases h3 with h3 | ⟨q,hq,h3⟩
    ·exact .inr ⟨p,by simp,h3⟩
    ·exact .inr ⟨q,by simp[hq],h3⟩
  ·rw[decide_eq_false hc] at h1 h3
   simp only[cond_false] at h1 h3
   refine⟨h1,fun q hq=>?_,?_⟩
   ·rcases List.mem_cons.1 hq with rfl | hq
    ·omega
    ·exact h2 q hq
   ·rcases h3 with h3 | ⟨q,hq,h3⟩
    ·exact .inl h3
    ·exact .inr ⟨q,by simp[hq],h3⟩
structure Far (g:ZF) (F:Int->Int) (M:Int):Prop where
 edge:∀e∈g.edges,F e.src+fat g.work e.dst<=F e.dst
 least:∀i:Nat,i<g.work.length->fat g.work (i:Int)<=F (i:Int)
 some_:∀i:Nat,i<g.work.length->F (i:Int)=fat g.work (i:Int)∨∃e∈g.edges,e.dst=(i:Int)/\F (i:Int)=F e.src+fat g.work (i:Int)
 most:∀i:Nat,i<g.work.length->F (i:Int)<=M
 hit:M=0∨∃i:Nat,i<g.work.length/\M=F (i:Int)
theorem ZHL {g:ZF} (h:Za6 g=0):∃F M,Zl5 g=some M/\Far g F M:=by
 obtain⟨hG,hA⟩:=Za9 h
 obtain⟨l,h1,T⟩:=ZBR h
 have hwl:=hG.wl
 have hll:l.length<=64:=by rw[T.len];exact hwl
 have key:∀(k i:Nat) (far:List Int) (mo:Int),i+k=l.length->far.length=g.work.length ->
   (∀z,0<=z/\z.toNat<g.work.length->(¬∃j,j<i/\l[j]? = some z)->fat far z=0) ->
   (∀e∈g.edges,(∃j,j<i/\l[j]? = some e.dst)->fat far e.src+fat g.work e.dst<=fat far e.dst) ->
   (∀z,(∃j,j<i/\l[j]? = some z)->fat g.work z<=fat far z/\(fat far z=fat g.work z∨∃e∈g.edges,e.dst=z/\fat far z=fat far e.src+fat g.work z)/\fat far z<=mo) ->
   (mo=0∨∃z,(∃j,j<i/\l[j]? = some z)/\mo=fat far z) ->
   (∀z,0<=z/\z.toNat<g.work.length->0<=fat far z/\fat far z<=1000*i) ->
   ∃F M,lp (ZgA g l) (mo,(i:Int),far)=some M/\Far g F M:=by
  intro k
  induction k with
  | zero=>
   intro i far mo hi hl hz he hn hm hb
   have:i=l.length:=by omega
   subst this
   have all:∀j:Nat,j<g.work.length->∃q,q<l.length/\l[q]? = some (j:Int):=fun j hj=>by
    obtain⟨q,hq⟩:=List.getElem?_of_mem (T.all j hj)
    exact⟨q,(List.getElem?_eq_some_iff.1 hq).1,hq⟩
   have allz:∀z:Int,0<=z/\z.toNat<g.work.length->∃q,q<l.length/\l[q]? = some z:=fun z hz=>by
    have:=all z.toNat hz.2
    rwa [show((z.toNat:Nat):Int)=z by omega] at this
   refine⟨fat far,mo,?_,fun e hm=>he e hm (allz _ (hG.dst e hm)),fun i hi=>(hn _ (all i hi)).1,fun i hi=>(hn _ (all i hi)).2.1,fun i hi=>(hn _ (all i hi)).2.2,?_⟩
   ·rw[Zae]
    simp only[ZgA,ZdO,cond_false]
   ·rcases hm with hm | ⟨z,⟨j,_,hj⟩,hm⟩
    ·exact .inl hm
    ·have:=T.inn z (List.mem_of_getElem? hj)
     exact .inr ⟨z.toNat,this.2,by rw[show((z.toNat:Nat):Int)=z by omega];exact hm⟩
  | succ k ih=>
   intro i far mo hi hl hz he hn hm hb
   have hi':i<l.length:=by omega
   have hx:l[i]? = some l[i]:=List.getElem?_eq_getElem hi'
   generalize hnn:l[i]=n at hx
   have nin:=T.inn n (List.mem_of_getElem? hx)
   obtain⟨ps,p1,p2,p3⟩:=ZGt hG n
   have fresh:¬∃j,j<i/\l[j]? = some n:=fun⟨j,j1,j2⟩=>by have:=ZqX T.nod j2 hx;omega
   have h0:=hz n nin fresh
   have psin:∀p∈ps,(0<=p/\p.toNat<g.work.length)/\p≠n/\∃j,j<i/\l[j]? = some p:=fun p hp=>by
    obtain⟨e,e1,e2,e3⟩:=(p2 p).1 hp
    have hs:=hG.src e e1
    obtain⟨j,j1,j2⟩:=T.topo i n hx e e1 e2
    rw[e3] at hs j2
    exact⟨hs,fun hc=>fresh ⟨j,j1,hc ▸ j2⟩,j,j1,j2⟩
   have inner:=(Zm4 ps (Zgy n ps) (fun j m=>((j:Int),far.set n.toNat m)) (fun _ m p=>bif decide (m<fat far p) then fat far p else m) (fun m=>far.set n.toNat m) (fun _ _=>True) (fun j p m hj hp _=>by
    obtain⟨q1,q2,_⟩:=psin p (List.mem_of_getElem? hp)
    have hls:(far.set n.toNat m).length=g.work.length:=by rw[List.length_set];exact hl
    have g1:=Zp5 hls nin
    have g2:=Zp5 hls q1
    rw[Zqd hl nin nin.1,if_pos rfl] at g1
    rw[Zqd hl nin q1.1,if_neg q2] at g2
    refine⟨?_,trivial⟩
    simp only[Zgy,Zcx hj,cond_true,ZN hp,Option.bind_some,g1,g2,List.set_set,ZL hj (show ps.length<9223372036854775808 by omega)]) (fun m _=>by simp only[Zgy,ZdO,cond_false]) (fat far n) trivial).1
   have self:far.set n.toNat (fat far n)=far:=by
    have e:=List.getElem?_eq_getElem (show n.toNat<far.length by rw[hl];exact nin.2)
    unfold fat
    rw[e]
    exact List.set_getElem_self _
   simp only[self] at inner
   obtain⟨m1,m2,m3⟩:=Ztv (fat far) ps 0 (fat far n)
   generalize Zfo (fun _ m p=>bif decide (m<fat far p) then fat far p else m) 0 (fat far n) ps=m at inner m1 m2 m3
   have inner2:lp (Zgy n ps) (0,far)=some (far.set n.toNat m):=inner
   rw[h0] at m1 m3
   have hwn:0<=fat g.work n/\fat g.work n<=1000:=by
    have e:=List.getElem?_eq_getElem (show n.toNat<g.work.length from nin.2)
    unfold fat
    rw[e]
    exact hG.w _ (List.getElem_mem _)
   have mb:m<=1000*i:=by
    rcases m3 with m3 | ⟨p,hp,m3⟩
    ·omega
    ·have:=hb p (psin p hp).1;omega
   have hls:(far.set n.toNat m).length=g.work.length:=by rw[List.length_set];exact hl
   have g9:=Zp5 hls nin
   rw[Zqd hl nin nin.1,if_pos rfl] at g9
   have g10:=Zp5 (l:=g.work) rfl nin
   have hw:w64 (m+fat g.work n)=m+fat g.work n:=ZaA (by omega) (by omega)
   have hls2:(far.set n.toNat (m+fat g.work n)).length=g.work.length:=by rw[List.length_set];exact hl
   have g11:=Zp5 hls2 nin
   rw[Zqd hl nin nin.1,if_pos rfl] at g11
   have val:∀z,0<=z->fat (far.set n.toNat (m+fat g.work n)) z=if z=n then m+fat g.work n else fat far z:=fun z hz=>Zqd hl nin hz
   have old:∀z,(∃j,j<i/\l[j]? = some z)->0<=z/\z≠n:=fun z ⟨j,j1,j2⟩=>⟨(T.inn z (List.mem_of_getElem? j2)).1,fun hc=>fresh ⟨j,j1,hc ▸ j2⟩⟩
   have split:∀z,(∃j,j<i+1/\l[j]? = some z)->z=n∨∃j,j<i/\l[j]? = some z:=fun z ⟨j,j1,j2⟩=>by
    by_cases hj:j=i
    ·subst hj;rw[hx] at j2;exact .inl (Option.some.inj j2).symm
    ·exact .inr ⟨j,by omega,j2⟩
   have srcOld:∀e∈g.edges,(∃j,j<i+1/\l[j]? = some e.dst)->∃j,j<i/\l[j]? = some e.src:=fun e he1 ⟨j,j1,j2⟩=>by
    obtain⟨q,q1,q2⟩:=T.topo j e.dst j2 e he1 rfl
    exact⟨q,by omega,q2⟩
   rw[Zae]
   simp only[ZgA,Zcx hi',cond_true,ZN hx,Option.bind_some,p1,inner2,g9,g10,List.set_set,hw,g11,ZL hi' (show l.length<9223372036854775808 by omega)]
   refine ih (i+1) (far.set n.toNat (m+fat g.work n)) _ (by omega) hls2 (fun z z1 z2=>?_) (fun e e1 e2=>?_) (fun z z1=>?_) ?_ (fun z z1=>?_)
   ·have hzn:z≠n:=fun hc=>z2 ⟨i,by omega,by rw[hc];exact hx⟩
    rw[val z z1.1,if_neg hzn]
    exact hz z z1 fun⟨j,j1,j2⟩=>z2 ⟨j,by omega,j2⟩
   ·have so:=srcOld e e1 e2
    obtain⟨s0,s1⟩:=old e.src so
    have d0:=(hG.dst e e1).1
    rw[val e.src s0,if_neg s1,val e.dst d0]
    rcases split e.dst e2 with hd | hd
    ·rw[if_pos hd,hd]
     have:=m2 e.src ((p2 e.src).2 ⟨e,e1,hd,rfl⟩)
     omega
    ·rw[if_neg (old e.dst hd).2]
     exact he e e1 hd
   ·rcases split z z1 with hd | hd
    ·subst hd
     rw[val z nin.1,if_pos rfl]
     refine⟨by omega,?_,?_⟩
     ·rcases m3 with m3 | ⟨p,hp,m3⟩
      ·exact .inl (by omega)
      ·obtain⟨e,e1,e2,e3⟩:=(p2 p).1 hp
       obtain⟨q1,q2,_⟩:=psin p hp
       refine .inr ⟨e,e1,e2,?_⟩
       rw[e3,val p q1.1,if_neg q2,m3]
     ·by_cases hc:mo<m+fat g.work z
      ·rw[decide_eq_true hc];exact Int.le_refl _
      ·rw[decide_eq_false hc];simp only[cond_false];omega
    ·obtain⟨o1,o2⟩:=old z hd
     obtain⟨n1,n2,n3⟩:=hn z hd
     rw[val z o1,if_neg o2]
     refine⟨n1,?_,?_⟩
     ·rcases n2 with n2 | ⟨e,e1,e2,e3⟩
      ·exact .inl n2
      ·have so:=srcOld e e1 (by obtain⟨j,j1,j2⟩:=hd;exact⟨j,by omega,by rw[e2];exact j2⟩)
       obtain⟨s0,s1⟩:=old e.src so
       exact .inr ⟨e,e1,e2,by rw[val e.src s0,if_neg s1];exact e3⟩
     ·by_cases hc:mo<m+fat g.work n
      ·rw[decide_eq_true hc];simp only[cond_true];omega
      ·rw[decide_eq_false hc];simp only[cond_false];omega
   ·by_cases hc:mo<m+fat g.work n
    ·rw[decide_eq_true hc]
     exact .inr ⟨n,⟨i,by omega,hx⟩,by rw[val n nin.1,if_pos rfl];rfl⟩
    ·rw[decide_eq_false hc]
     rcases hm with hm | ⟨z,⟨j,j1,j2⟩,hm⟩
     ·exact .inl hm
     ·obtain⟨o1,o2⟩:=old z ⟨j,j1,j2⟩
      exact .inr ⟨z,⟨j,by omega,j2⟩,by rw[val z o1,if_neg o2];exact hm⟩
   ·rw[val z z1.1]
    split
    ·omega
    ·have:=hb z z1;omega
 have rep:∀z,fat (List.replicate g.work.length (0:Int)) z=0:=fun z=>by
  unfold fat
  rw[List.getElem?_replicate]
  by_cases hc:z.toNat<g.work.length
  ·rw[if_pos hc]
  ·rw[if_neg hc]
 obtain⟨F,M,k1,k2⟩:=key l.length 0 (List.replicate g.work.length 0) 0 (by omega) (by simp) (fun z _ _=>rep z) (fun e _ ⟨j,j1,_⟩=>by omega) (fun z ⟨j,j1,_⟩=>by omega) (.inl rfl) (fun z _=>by rw[rep];omega)
 refine⟨F,M,?_,k2⟩
 unfold Zl5
 rw[decide_eq_true (show(0:Int)<=(g.work.length:Int) by omega),decide_eq_true (show(g.work.length:Int)<=lim by show(g.work.length:Int)<=1073741824;omega),beq_self_eq_true]
 simp only[decide_true,Bool.and_true,cond_true,Int.toNat_natCast,h1,Option.bind_some]
 have k1:lp (ZgA g l) (0,0,List.replicate g.work.length 0)=some M:=k1
 rw[k1]
 rfl
def mxF (_:Nat) (m p:Int):Int:=bif decide (m<p) then p else m
theorem ZD9 (l:List Int) (i:Nat) (m:Int):m<=Zfo mxF i m l/\(∀p∈l,p<=Zfo mxF i m l)/\(Zfo mxF i m l=m∨∃p∈l,Zfo mxF i m l=p):=Ztv (fun z=>z) l i m
theorem ZHn (x:Int) (t:List Int) (hl:t.length<=1000) (h1:1<=x):Zcs (x :: t)=some (Zfo mxF 0 0 (x :: t)):=by
 have l1:=(Zm4 t (Zbf (x :: t)) (fun i m=>(m,((i+1:Nat):Int))) mxF id (fun _ _=>True) (fun i y m hi hy _=>by
  refine⟨?_,trivial⟩
  have hi2:i+1<(x :: t).length:=by simp;omega
  have hy2:(x :: t)[i+1]? = some y:=by simpa using hy
  simp only[Zbf,Zcx hi2,cond_true,ZN hy2,Option.bind_some,ZL hi2 (show(x :: t).length<9223372036854775808 by simp;omega)]
  rfl) (fun m _=>by
  have e:((t.length+1:Nat):Int)=((x :: t).length:Int):=by simp
  simp only[Zbf,e,ZdO,cond_false];rfl) x trivial).1
 obtain⟨m1,m2,m3⟩:=ZD9 t 0 x
 obtain⟨n1,n2,n3⟩:=ZD9 (x :: t) 0 0
 generalize Zfo mxF 0 x t=r at l1 m1 m2 m3
 generalize Zfo mxF 0 0 (x :: t)=q at n1 n2 n3
 have rq:r=q:=by
  have a:r<=q:=by
   rcases m3 with m3 | ⟨p,hp,m3⟩
   ·have:=n2 x (by simp);omega
   ·have:=n2 p (by simp[hp]);omega
  have b:q<=r:=by
   rcases n3 with n3 | ⟨p,hp,n3⟩
   ·omega
   ·rcases List.mem_cons.1 hp with hp | hp
    ·omega
    ·have:=m2 p hp;omega
  omega
 have l1':lp (Zbf (x :: t)) (x,1)=some r:=l1
 have c0:decide (((x :: t).length:Int)<1)=false:=decide_eq_false (by simp;omega)
 have g0:Zy (x :: t) 0=some x:=rfl
 unfold Zcs
 rw[c0,g0]
 simp only[cond_false,Option.bind_some,l1',rq]
theorem ZGE {d:Zq} (hz:Zod d):(∃s:Zd6,Zhl d=some (s,(ZsA d).2)/\(ZsA d).2≠0) ∨
  (ZsA d=(Zcn d,0)/\Zh8 d=0/\Za6 (Zcn d).dag=0/\∃(F:Int->Int) (M r:Int),Far (Zcn d).dag F M/\Zhl d=some (⟨(Zcn d).dag.work.sum,M,r,d.deadline,d.period⟩,0)):=by
 unfold Zhl
 simp only[ZAg hz,Option.bind_some]
 rcases ZyK d with⟨h1,h2,h3⟩ | ⟨h1,h2⟩
 ·right
  have g:=ZsW h2
  have hG:=(Za9 h3).1
  obtain⟨F,M,l1,hF⟩:=ZHL h3
  have hpl:=g.pl
  have hp1:=g.p1
  have hbl:=g.bl
  have ge:∀x∈(Zcn d).dag.work,1<=x:=Zvf g
  have len:(Zcn d).dag.work.length=d.parts.length+d.futures.length+d.barriers.length:=Zzs g
  have hwl:=hG.wl
  have mo:Zcs (Zcn d).dag.work=some (Zfo mxF 0 0 (Zcn d).dag.work):=by
   cases hw:(Zcn d).dag.work with
   | nil=>rw[hw,List.length_nil] at len;omega
   | cons x t=>
    rw[hw,List.length_cons] at hwl
    exact ZHn x t (by omega) (ge x (by rw[hw];simp))
  refine⟨h1,h2,h3,F,M,Zfo mxF 0 0 (Zcn d).dag.work,hF,?_⟩
  rw[h1]
  simp only[bne_self_eq_false,cond_false,Zzl h3,l1,mo,Option.bind_some]
 ·left
  have hne:((ZsA d).2 != 0)=true:=by rw[bne,beq_false_of_ne h2];rfl
  rw[hne]
  simp only[cond_true]
  exact⟨_,rfl,h2⟩
def lf (left:List Int) (n:Int):Int:=match left[n.toNat]? with | some x=>x | none=>0
theorem ZjZ {left:List Int}{n:Int} (h0:0<=n) (h:n.toNat<left.length):left[n.toNat]? = some (lf left n):=by
  unfold lf
  rw[List.getElem?_eq_getElem h]
theorem Zzp {left:List Int}{i:Nat}{x:Int} (h:left[i]? = some x):lf left (i:Int)=x:=by
  unfold lf
  rw[Int.toNat_natCast,h]
theorem ZEE {left:List Int}{n v k:Int} (hn:0<=n/\n.toNat<left.length) (hk:0<=k):lf (left.set n.toNat v) k=if k=n then v else lf left k:=by
  unfold lf
  rw[List.getElem?_set]
  by_cases h:n.toNat=k.toNat
  · rw[if_pos h,if_pos hn.2,if_pos (by omega)]
  · rw[if_neg h,if_neg (by omega)]
def isN (left:List Int) (n:Int):Prop:=0<=n/\n.toNat<left.length
def Zl0 (E:List Zi) (left:List Int) (n:Int):Prop:=∀e∈E,e.dst=n->lf left e.src=0
def Rdy (E:List Zi) (left on:List Int) (n:Int):Prop:=isN left n/\0<lf left n/\n∉on/\Zl0 E left n
def ZqU (row:List Int):Prop:=∀(i j:Nat) (n:Int),row[i]? = some n->row[j]? = some n->n ≠ -1->i=j
structure Zh5 (E:List Zi) (left on:List Int):Prop where
  rng:∀x∈left,0<=x/\x<=1000
  run:∀n∈on,n = -1∨(isN left n/\0<lf left n/\Zl0 E left n)
  one:ZqU on
  over:∀n,isN left n->lf left n=0->Zl0 E left n
structure Zht (E:List Zi) (left on row:List Int):Prop where
  len:row.length=on.length
  keep:∀(c:Nat) (n:Int),on[c]? = some n->n ≠ -1->row[c]? = some n
  new:∀(c:Nat) (n:Int),on[c]? = some (-1)->row[c]? = some n->n = -1∨Rdy E left on n
  one:ZqU row
  all : -1∈row->∀n,¬Rdy E left row n
def dec (left:List Int) (n:Int):List Int:=if n = -1 then left else left.set n.toNat (lf left n-1)
def Zar (left row:List Int):List Int:=row.foldl dec left
def Zad (left row:List Int):List Int:=row.map fun n=>if n = -1 then -1 else if lf (Zar left row) n=0 then -1 else n
theorem Zr4 (left:List Int) (n:Int):(dec left n).length=left.length:=by unfold dec;split<;>simp
theorem ZeH:∀(row left:List Int),(Zar left row).length=left.length
  | [],_=>rfl
  | n :: row,left=>by
    show(Zar (dec left n) row).length=_
    rw[ZeH row,Zr4]
theorem ZqU.tail {n:Int}{row:List Int} (h:ZqU (n :: row)):ZqU row/\(n ≠ -1->n∉row):=by
  refine⟨fun i j k h1 h2 h3=>?_,fun hn hm=>?_⟩
  · have:=h (i+1) (j+1) k h1 h2 h3
    omega
  · obtain⟨i,hi⟩:=List.getElem?_of_mem hm
    have:=h 0 (i+1) n rfl hi hn
    omega
theorem Zp2:∀(row left:List Int),ZqU row->(∀n∈row,n = -1∨isN left n)->∀k,0<=k->lf (Zar left row) k=if k∈row then lf left k-1 else lf left k
  | [],left,_,_,k,_=>by simp[Zar]
  | n :: row,left,ho,hr,k,hk=>by
    obtain⟨ho1,ho2⟩:=ho.tail
    have ih:=Zp2 row (dec left n) ho1 (fun m hm=>by
      rcases hr m (by simp[hm]) with h | h
      · exact .inl h
      · exact .inr ⟨h.1,by rw[Zr4];exact h.2⟩) k hk
    show lf (Zar (dec left n) row) k=_
    rw[ih]
    by_cases hn:n = -1
    · have e:dec left n=left:=by unfold dec;rw[if_pos hn]
      rw[e]
      have:(k∈n :: row)=(k∈row):=by
        rw[List.mem_cons]
        exact propext ⟨fun h => by rcases h with h | h; · omega
                                   · exact h,.inr⟩
      simp only[this]
    · have hin:isN left n:=by
        rcases hr n (by simp) with h | h
        · exact absurd h hn
        · exact h
      have e:lf (dec left n) k=if k=n then lf left n-1 else lf left k:=by
        unfold dec
        rw[if_neg hn]
        exact ZEE hin hk
      rw[e]
      by_cases hkn:k=n
      · subst hkn
        rw[if_neg (ho2 hn),if_pos rfl,if_pos (by simp)]
      · rw[if_neg hkn]
        have:(k∈n :: row)=(k∈row):=by
          rw[List.mem_cons]
          exact propext ⟨fun h => by rcases h with h | h; · exact absurd h hkn
                                     · exact h,.inr⟩
        simp only[this]
def busy (row:List Int):Nat:=row.countP fun n=>n != -1
theorem ZGA {l:List Int}{i:Nat}{x v:Int} (h:l[i]? = some x):(l.set i v).sum=l.sum-x+v:=by
  induction l generalizing i with
  | nil=>cases h
  | cons a l ih=>
    cases i with
    | zero=>
      have:a=x:=Option.some.inj h
      subst this
      simp only[List.set_cons_zero,List.sum_cons]
      omega
    | succ i=>
      have h:l[i]? = some x:=h
      simp only[List.set_cons_succ,List.sum_cons,ih h]
      omega
theorem ZlP:∀(row left:List Int),(∀n∈row,n = -1∨isN left n)->(Zar left row).sum=left.sum-(busy row:Int)
  | [],left,_=>by simp[Zar,busy]
  | n :: row,left,hr=>by
    have ih:=ZlP row (dec left n) (fun m hm=>by
      rcases hr m (by simp[hm]) with h | h
      · exact .inl h
      · exact .inr ⟨h.1,by rw[Zr4];exact h.2⟩)
    show(Zar (dec left n) row).sum=_
    rw[ih]
    unfold busy
    by_cases hn:n = -1
    · rw[List.countP_cons_of_neg (by simp[hn])]
      unfold dec
      rw[if_pos hn]
    · have hin:isN left n:=by
        rcases hr n (by simp) with h | h
        · exact absurd h hn
        · exact h
      rw[List.countP_cons_of_pos (by simp[hn])]
      unfold dec
      rw[if_neg hn,ZGA (ZjZ hin.1 hin.2)]
      omega
theorem Zht.row_in {E:List Zi}{left on row:List Int} (f:Zht E left on row) (c:Zh5 E left on):∀n∈row,n = -1∨(isN left n/\0<lf left n/\Zl0 E left n):=fun n hn=>by
  obtain⟨i,hi⟩:=List.getElem?_of_mem hn
  have hl:i<on.length:=by rw[<- f.len];exact(List.getElem?_eq_some_iff.1 hi).1
  have ho:=List.getElem?_eq_getElem hl
  by_cases h:on[i] = -1
  · rw[h] at ho
    rcases f.new i n ho hi with h1 | ⟨h1,h2,_,h4⟩
    · exact .inl h1
    · exact .inr ⟨h1,h2,h4⟩
  · have:=f.keep i _ ho h
    rw[hi] at this
    have:=Option.some.inj this
    rw[this]
    exact c.run _ (List.getElem_mem hl)
theorem Zht.nodes {E:List Zi}{left on row:List Int} (f:Zht E left on row) (c:Zh5 E left on):∀n∈row,n = -1∨isN left n:=fun n hn=>by
  rcases f.row_in c n hn with h | h
  · exact .inl h
  · exact .inr h.1
theorem Zv7 {E:List Zi}{left on:List Int} (c:Zh5 E left on) (n:Int):0<=lf left n/\lf left n<=1000:=by
  unfold lf
  cases h:left[n.toNat]? with
  | none=>simp
  | some x=>exact c.rng x (List.mem_of_getElem? h)
theorem Zht.tick_lf {E:List Zi}{left on row:List Int} (f:Zht E left on row) (c:Zh5 E left on) {k:Int} (hk:0<=k):lf (Zar left row) k=if k∈row then lf left k-1 else lf left k:=Zp2 row left f.one (f.nodes c) k hk
theorem Zht.tick_le {E:List Zi}{left on row:List Int} (f:Zht E left on row) (c:Zh5 E left on) {k:Int} (hk:0<=k):lf (Zar left row) k<=lf left k:=by
  rw[f.tick_lf c hk]
  split<;>omega
def Zgb (E:List Zi) (n:Nat):Prop:=∀e∈E,(0<=e.src/\e.src.toNat<n)/\(0<=e.dst/\e.dst.toNat<n)
theorem Zht.free {E:List Zi}{left on row:List Int} (hE:Zgb E left.length) (f:Zht E left on row) (c:Zh5 E left on) {n:Int} (h:Zl0 E left n):Zl0 E (Zar left row) n:=fun e he hd=>by
  have h1:=h e he hd
  have h0:=(hE e he).1
  rw[f.tick_lf c h0.1]
  split
  · rename_i hm
    rcases f.row_in c _ hm with h2 | ⟨_,h2,_⟩
    · omega
    · omega
  · exact h1
theorem Zht.next {E:List Zi}{left on row:List Int} (hE:Zgb E left.length) (f:Zht E left on row) (c:Zh5 E left on):Zh5 E (Zar left row) (Zad left row):=by
  have hl:=ZeH row left
  refine⟨fun x hx=>?_,fun n hn=>?_,fun i j n h1 h2 h3=>?_,fun n hn h0=>?_⟩
  · obtain⟨i,hi⟩:=List.getElem?_of_mem hx
    have e:=Zzp hi
    rw[<- e,f.tick_lf c (by omega)]
    have:=Zv7 c (i:Int)
    split
    · rename_i hm
      rcases f.row_in c _ hm with h2 | ⟨_,h2,_⟩
      · omega
      · omega
    · exact this
  · unfold Zad at hn
    obtain⟨k,hk,rfl⟩:=List.mem_map.1 hn
    by_cases h1:k = -1
    · rw[if_pos h1];exact .inl rfl
    · rw[if_neg h1]
      by_cases h2:lf (Zar left row) k=0
      · rw[if_pos h2];exact .inl rfl
      · rw[if_neg h2]
        rcases f.row_in c k hk with h3 | ⟨h3,h4,h5⟩
        · exact absurd h3 h1
        · refine .inr ⟨⟨h3.1,by rw[hl];exact h3.2⟩,?_,f.free hE c h5⟩
          rw[f.tick_lf c h3.1,if_pos hk] at h2 ⊢
          omega
  · have back:∀i:Nat,(Zad left row)[i]? = some n->row[i]? = some n:=fun i h=>by
      unfold Zad at h
      rw[List.getElem?_map] at h
      cases hr:row[i]? with
      | none=>rw[hr] at h;cases h
      | some k=>
        rw[hr] at h
        have h:(if k = -1 then (-1:Int) else if lf (Zar left row) k=0 then -1 else k)=n:=Option.some.inj h
        by_cases h1:k = -1
        · rw[if_pos h1] at h;exact absurd h.symm h3
        · rw[if_neg h1] at h
          by_cases h2:lf (Zar left row) k=0
          · rw[if_pos h2] at h;exact absurd h.symm h3
          · rw[if_neg h2] at h;rw[h]
    exact f.one i j n (back i h1) (back j h2) h3
  · have hn':isN left n:=⟨hn.1,by rw[<- hl];exact hn.2⟩
    rw[f.tick_lf c hn.1] at h0
    by_cases hm:n∈row
    · rcases f.row_in c n hm with h2 | ⟨_,_,h2⟩
      · have:=hn.1;omega
      · exact f.free hE c h2
    · rw[if_neg hm] at h0
      exact f.free hE c (c.over n hn' h0)
inductive Sched (E:List Zi) (need:List Int) (m:Nat):List (List Int)->List Int->List Int->Prop
  | nil:Sched E need m [] need (List.replicate m (-1))
  | snoc {t:List (List Int)} {left on row:List Int}:Sched E need m t left on->(∃n,isN left n/\0<lf left n)->Zht E left on row->Sched E need m (t++[row]) (Zar left row) (Zad left row)
theorem ZsF {E:List Zi}{need:List Int} (m:Nat) (h:∀x∈need,1<=x/\x<=1000):Zh5 E need (List.replicate m (-1)):=by
  refine⟨fun x hx=>by have:=h x hx;omega,fun n hn=>.inl (List.mem_replicate.1 hn).2,fun i j n h1 h2 h3=>?_,fun n hn h0=>?_⟩
  · have:=List.mem_of_getElem? h1
    exact absurd (List.mem_replicate.1 this).2 h3
  · have:=h _ (List.mem_of_getElem? (ZjZ hn.1 hn.2))
    omega
theorem Sched.len {E:List Zi}{need:List Int}{m:Nat}{t:List (List Int)}{left on:List Int} (s:Sched E need m t left on):left.length=need.length/\on.length=m/\∀row∈t,row.length=m:=by
  induction s with
  | nil=>exact⟨rfl,by simp,fun _ h=>by cases h⟩
  | snoc _ _ f ih=>
    refine⟨by rw[ZeH];exact ih.1,by unfold Zad;rw[List.length_map,f.len];exact ih.2.1,fun r hr=>?_⟩
    rcases List.mem_append.1 hr with h | h
    · exact ih.2.2 r h
    · rw[List.mem_singleton] at h
      rw[h,f.len]
      exact ih.2.1
theorem Sched.crew {E:List Zi}{need:List Int}{m:Nat} (h:∀x∈need,1<=x/\x<=1000) (hE:Zgb E need.length) {t:List (List Int)}{left on:List Int} (s:Sched E need m t left on):Zh5 E left on:=by
  induction s with
  | nil=>exact ZsF m h
  | snoc s _ f ih=>exact f.next (by rw[s.len.1];exact hE) ih
def ZgI (t:List (List Int)):Nat:=(t.map busy).sum
theorem Sched.sum {E:List Zi}{need:List Int}{m:Nat} (h:∀x∈need,1<=x/\x<=1000) (hE:Zgb E need.length) {t:List (List Int)}{left on:List Int} (s:Sched E need m t left on):left.sum=need.sum-(ZgI t:Int):=by
  induction s with
  | nil=>simp[ZgI]
  | snoc s _ f ih=>
    rw[ZlP _ _ (f.nodes (s.crew h hE)),ih]
    unfold ZgI
    rw[List.map_append,List.sum_append]
    simp
    omega
def ZnC (row:List Int):Nat:=if -1∈row then 1 else 0
def Zm0 (t:List (List Int)):Nat:=(t.map ZnC).sum
theorem ZoF (t:List (List Int)) (row:List Int):Zm0 (t++[row])=Zm0 t+ZnC row:=by
  unfold Zm0
  rw[List.map_append,List.sum_append]
  simp
structure ZEo (E:List Zi) (w:List Int) (F:Int->Int) (M:Int):Prop where
  edge:∀e∈E,F e.src+lf w e.dst<=F e.dst
  least:∀n,isN w n->lf w n<=F n
  most:∀n,isN w n->F n<=M
theorem ZB6 {m:Nat}{row:List Int} (h:row.length=m):(m:Int)<=busy row+(m:Int)*(ZnC row:Int)/\(0<busy row->(m:Int)<=busy row+((m:Int)-1)*(ZnC row:Int)):=by
  have hb:busy row<=row.length:=List.countP_le_length
  unfold ZnC
  by_cases hi : -1∈row
  · rw[if_pos hi]
    simp only[Int.natCast_one,Int.mul_one]
    constructor
    · omega
    · intro h;omega
  · rw[if_neg hi]
    have:busy row=row.length:=by
      unfold busy
      rw[List.countP_eq_length]
      intro a ha
      have:a ≠ -1:=fun e=>hi (e ▸ ha)
      simpa using this
    simp only[Int.natCast_zero,Int.mul_zero]
    omega
theorem Sched.idle {E:List Zi}{need:List Int}{m:Nat} (h:∀x∈need,1<=x/\x<=1000) (hE:Zgb E need.length) {w:List Int}{F:Int->Int}{M:Int} (W:ZEo E w F M) (hw:w.length=need.length) (hle:∀n,isN need n->lf need n<=lf w n)
    {t:List (List Int)} {left on:List Int} (s:Sched E need m t left on):∀n,isN left n->0<lf left n->Zl0 E left n->(Zm0 t:Int)<=F n-lf left n:=by
  induction s with
  | nil=>
    intro n hn h0 hf
    have h1:=hle n hn
    have h2:=W.least n ⟨hn.1,by rw[hw];exact hn.2⟩
    simp[Zm0]
    omega
  | @snoc t left on row s hs f ih=>
    intro n hn h0 hf
    have c:=s.crew h hE
    have hl:=s.len.1
    have hE':Zgb E left.length:=by rw[hl];exact hE
    have hn':isN left n:=⟨hn.1,by have:=hn.2;rw[ZeH] at this;exact this⟩
    rw[ZoF]
    have tl:=f.tick_lf c hn.1
    by_cases hfr:Zl0 E left n
    ·
      have hpos:0<lf left n:=by rw[tl] at h0;split at h0<;>omega
      have i1:=ih n hn' hpos hfr
      by_cases hm:n∈row
      · rw[tl,if_pos hm]
        unfold ZnC
        split<;>omega
      · have:¬(-1∈row):=fun hi=>f.all hi n ⟨hn',hpos,hm,hfr⟩
        rw[tl,if_neg hm]
        unfold ZnC
        rw[if_neg this]
        omega
    ·
      have:∃e∈E,e.dst=n/\lf left e.src≠0:=Classical.byContradiction fun hc=>hfr fun e he hd=>Classical.byContradiction fun hx=>hc ⟨e,he,hd,hx⟩
      obtain⟨e,he,hd,hx⟩:=this
      have h0':=hf e he hd
      have hsrc:=(hE' e he).1
      rw[f.tick_lf c hsrc.1] at h0'
      by_cases hm:e.src∈row
      · rw[if_pos hm] at h0'
        rcases f.row_in c _ hm with h2 | ⟨h2,h3,h4⟩
        · omega
        · have i1:=ih e.src h2 h3 h4
          have i2:=W.edge e he
          have i3:=hle n ⟨hn.1,by rw[<- hl];exact hn'.2⟩
          rw[hd] at i2
          have i4:lf (Zar left row) n<=lf need n:=by
            have:∀{t:List (List Int)} {left on:List Int},Sched E need m t left on->lf left n<=lf need n:=fun s=>by
              induction s with
              | nil=>exact Int.le_refl _
              | snoc s _ f ih=>exact Int.le_trans (f.tick_le (s.crew h hE) hn.1) ih
            exact this (.snoc s hs f)
          unfold ZnC
          split<;>omega
      · rw[if_neg hm] at h0'
        exact absurd h0' hx
theorem ZEj {row:List Int} (h:0<busy row):∃n∈row,n ≠ -1:=by
  unfold busy at h
  obtain⟨n,h1,h2⟩:=List.countP_pos_iff.1 h
  exact⟨n,h1,by simpa using h2⟩
theorem Sched.bound {E:List Zi}{need:List Int}{m:Nat} (h:∀x∈need,1<=x/\x<=1000) (hE:Zgb E need.length) {w:List Int}{F:Int->Int}{M:Int} (W:ZEo E w F M) (hw:w.length=need.length) (hle:∀n,isN need n->lf need n<=lf w n) (hM:0<=M) (hm:1<=m)
    (some_:∀{left on row:List Int},left.length=need.length->on.length=m->(∃n,isN left n/\0<lf left n)->Zh5 E left on->Zht E left on row->0<busy row)
    {t:List (List Int)} {left on:List Int} (s:Sched E need m t left on):(Zm0 t:Int)<=M/\(m:Int)*t.length<=(need.sum-left.sum)+((m:Int)-1)*Zm0 t:=by
  induction s with
  | nil=>simp[Zm0];omega
  | @snoc t left on row s hs f ih=>
    have c:=s.crew h hE
    have hl:=s.len.1
    have hb:=some_ hl s.len.2.1 hs c f
    have hr:=f.nodes c
    constructor
    · obtain⟨n,hn,hne⟩:=ZEj hb
      rcases f.row_in c n hn with h1 | ⟨h1,h2,h3⟩
      · exact absurd h1 hne
      · have i1:=s.idle h hE W hw hle n h1 h2 h3
        have i2:=W.most n ⟨h1.1,by rw[hw,<- hl];exact h1.2⟩
        rw[ZoF]
        unfold ZnC
        split<;>omega
    · have b:=(ZB6 (m:=m) (by rw[f.len];exact s.len.2.1)).2 hb
      rw[ZlP row left hr,ZoF,List.length_append,List.length_singleton]
      have ih2:=ih.2
      have e1:(m:Int)*((t.length+1:Nat):Int)=(m:Int)*t.length+m:=by rw[Int.natCast_add];simp[Int.mul_add]
      have e2:((m:Int)-1)*((Zm0 t+ZnC row:Nat):Int)=((m:Int)-1)*Zm0 t+((m:Int)-1)*ZnC row:=by rw[Int.natCast_add,Int.mul_add]
      rw[e1,e2]
      omega
theorem Zhk {g:ZF} (hG:ZgT g):Zgb g.edges g.work.length:=fun e he=>⟨hG.src e he,hG.dst e he⟩
theorem ZBG {g:ZF} (hG:ZgT g) (hA:Zov g) {left:List Int} (hl:left.length=g.work.length) (hr:∀x∈left,0<=x) (h:∃n,isN left n/\0<lf left n):∃n,isN left n/\0<lf left n/\Zl0 g.edges left n:=by
 have pos:∀n,0<=lf left n:=fun n=>by
  unfold lf
  cases hx:left[n.toNat]? with
  | none=>simp
  | some x=>exact hr x (List.mem_of_getElem? hx)
 let S:List Int:=((List.range left.length).map fun i:Nat=>(i:Int)).filter fun n=>decide (0<lf left n)
 have mem:∀n,n∈S↔isN left n/\0<lf left n:=fun n=>by
  simp only[S,List.mem_filter,List.mem_map,List.mem_range,decide_eq_true_eq]
  constructor
  ·rintro ⟨⟨i,hi,rfl⟩,h2⟩
   exact⟨⟨by omega,by simpa using hi⟩,h2⟩
  ·rintro ⟨h1,h2⟩
   exact⟨⟨n.toNat,h1.2,Int.toNat_of_nonneg h1.1⟩,h2⟩
 obtain⟨n0,h0⟩:=h
 obtain⟨n,hn,hn2⟩:=Zxw hA S.length S (Nat.le_refl _) (fun he=>by
  have:=(mem n0).2 h0
  rw[he] at this
  cases this)
 obtain⟨h1,h2⟩:=(mem n).1 hn
 refine⟨n,h1,h2,fun e he hd=>?_⟩
 have hs:=hG.src e he
 have:=hn2 e he hd
 rw[mem] at this
 have h3:=pos e.src
 apply Classical.byContradiction
 intro hc
 exact this ⟨⟨hs.1,by rw[hl];exact hs.2⟩,by omega⟩
theorem ZsP {row:List Int}{n:Int} (h:n∈row) (hn:n ≠ -1):0<busy row:=by
 unfold busy
 exact List.countP_pos_iff.2 ⟨n,h,by simpa using hn⟩
theorem ZlR {g:ZF} (hG:ZgT g) (hA:Zov g) {left on row:List Int} (hl:left.length=g.work.length) (h:∃n,isN left n/\0<lf left n) (c:Zh5 g.edges left on) (f:Zht g.edges left on row) (hm:1<=on.length):0<busy row:=by
 obtain⟨n,h1,h2,h3⟩:=ZBG hG hA hl (fun x hx=>(c.rng x hx).1) h
 have n0:n ≠ -1:=by have:=h1.1;omega
 by_cases ho:n∈on
 ·obtain⟨i,hi⟩:=List.getElem?_of_mem ho
  exact ZsP (List.mem_of_getElem? (f.keep i n hi n0)) n0
 ·by_cases hr:n∈row
  ·exact ZsP hr n0
  ·by_cases hi : -1∈row
   ·exact absurd ⟨h1,h2,hr,h3⟩ (f.all hi n)
   ·have hlen:0<row.length:=by rw[f.len];omega
    refine ZsP (List.getElem_mem hlen) fun he=>hi ?_
    rw[<- he]
    exact List.getElem_mem hlen
theorem ZDA {g:ZF} (hG:ZgT g) (hA:Zov g) {need:List Int} (hn:need.length=g.work.length) (h:∀x∈need,1<=x/\x<=1000) {t:List (List Int)}{left on:List Int} (s:Sched g.edges need 1 t left on):ZgI t=t.length:=by
 have hE:Zgb g.edges need.length:=by rw[hn];exact Zhk hG
 induction s with
 | nil=>rfl
 | @snoc t left on row s hs f ih=>
  have c:=s.crew h hE
  have hl:=s.len
  have b:=ZlR hG hA (by rw[hl.1,hn]) hs c f (by rw[hl.2.1];exact Nat.le_refl _)
  have hr:row.length=1:=by rw[f.len,hl.2.1]
  have:busy row<=row.length:=List.countP_le_length
  have e:ZgI (t++[row])=ZgI t+busy row:=by
   unfold ZgI
   rw[List.map_append,List.sum_append]
   simp
  rw[e,ih,List.length_append,List.length_singleton]
  omega
theorem Sched.short {g:ZF} (hG:ZgT g) (hA:Zov g) {need:List Int} (hn:need.length=g.work.length) (h:∀x∈need,1<=x/\x<=1000) {m:Nat} (hm:1<=m) {t:List (List Int)}{left on:List Int} (s:Sched g.edges need m t left on):t.length<=ZgI t:=by
 have hE:Zgb g.edges need.length:=by rw[hn];exact Zhk hG
 induction s with
 | nil=>exact Nat.zero_le _
 | @snoc t left on row s hs f ih=>
  have c:=s.crew h hE
  have hl:=s.len
  have b:=ZlR hG hA (by rw[hl.1,hn]) hs c f (by rw[hl.2.1];exact hm)
  have e:ZgI (t++[row])=ZgI t+busy row:=by
   unfold ZgI
   rw[List.map_append,List.sum_append]
   simp
  rw[e,List.length_append,List.length_singleton]
  omega
theorem ZFn {l:List Int} (h:∀x∈l,x=0):l.sum=0:=by
 induction l with
 | nil=>rfl
 | cons x l ih=>
  rw[List.sum_cons,h x (by simp),ih fun y hy=>h y (by simp[hy])]
  rfl
theorem ZxA (l:List Zi) (f:Zi->Option Bool) (p:Zi->Bool) (hf:∀x∈l,f x=some (p x)) (hl:l.length<9223372036854775808):Zao l f=some (l.any p):=by
 unfold Zao ZbU
 refine ZjV l p _ (fun i x hi hx=>?_) ?_
 ·simp only[ZaG,Zcx hi,ZN hx,Option.bind_some,hf x (List.mem_of_getElem? hx),ZL hi hl,cond_true]
  cases p x<;>rfl
 ·simp only[ZaG,ZdO];rfl
theorem Zr9 (l:List Int) (n:Int):(l.any fun x=>n==x)=decide (n∈l):=by
 rw[Bool.eq_iff_iff,List.any_eq_true,decide_eq_true_eq]
 constructor
 ·rintro ⟨x,hx,h⟩
  have:n=x:=by simpa using h
  rw[this];exact hx
 ·intro h
  exact⟨n,h,by simp⟩
theorem ZCn {γ R:Type} (l:List γ) (step:Int->Option (Int⊕R)) (fin:R) (h1:∀i x,i<l.length->l[i]? = some x->step (i:Int)=some (.inl ((i+1:Nat):Int))) (h2:step (l.length:Int)=some (.inr fin)):lp step 0=some fin:=by
 rw[Zhw l step (fun _ _=>false) (fun _ _=>fin) fin h1 h2,Zgc]
 cases Zid (fun _ _=>false) 0 l<;>rfl
theorem Zwj {n:Nat} (step:Int×List Int->Option ((Int×List Int)⊕List Int)) (p:Nat->Bool)
  (h1:∀(i:Nat) (out:List Int),i<n->out.length<=i->step ((i:Int),out)=some (.inl (((i+1:Nat):Int),bif p i then out++[(i:Int)] else out)))
  (h2:∀out,step ((n:Int),out)=some (.inr out)):lp step (0,[])=some (((List.range n).filter p).map fun i:Nat=>(i:Int)):=by
 have key:∀(k i:Nat) (out:List Int),i+k=n->out.length<=i->lp step ((i:Int),out)=some (out++((List.range' i k).filter p).map fun i:Nat=>(i:Int)):=by
  intro k
  induction k with
  | zero=>
   intro i out hi _
   have:i=n:=by omega
   subst this
   rw[Zae,h2]
   simp
  | succ k ih=>
   intro i out hi ho
   rw[Zae,h1 i out (by omega) ho]
   dsimp only
   rw[List.range'_succ]
   cases hp:p i with
   | true=>
    rw[cond_true,ih (i+1) _ (by omega) (by rw[List.length_append];simp;exact ho),List.filter_cons_of_pos hp,List.map_cons,List.append_assoc]
    rfl
   | false=>
    rw[cond_false,ih (i+1) _ (by omega) (by omega),List.filter_cons_of_neg (by rw[hp];decide)]
 have:=key n 0 [] (by omega) (by simp)
 rw[List.range_eq_range']
 simpa using this
theorem ZjW {n:Nat}{p:Nat->Bool}{z:Int}:(z∈((List.range n).filter p).map fun i:Nat=>(i:Int))↔0<=z/\z.toNat<n/\p z.toNat=true:=by
 rw[List.mem_map]
 constructor
 ·rintro ⟨i,hi,rfl⟩
  obtain⟨h1,h2⟩:=List.mem_filter.1 hi
  rw[List.mem_range] at h1
  exact⟨by omega,by simpa using h1,by simpa using h2⟩
 ·rintro ⟨h0,h1,h2⟩
  exact⟨z.toNat,List.mem_filter.2 ⟨List.mem_range.2 h1,h2⟩,Int.toNat_of_nonneg h0⟩
theorem ZG6 {left:List Int}{n:Int} (h:isN left n):Zy left n=some (lf left n):=Zpa h.1 (ZjZ h.1 h.2)
theorem Ztc {c:Zbt}{n:Int} (h:isN c.left n):Zf1 c n=some (lf c.left n==0):=by
 unfold Zf1
 rw[ZG6 h,Option.bind_some]
 cases lf c.left n==0<;>rfl
def Zrq (E:List Zi) (left:List Int) (n:Int):Bool:=!(E.any fun e=>(e.dst==n) && !(lf left e.src==0))
theorem Zha {E:List Zi}{left:List Int}{n:Int}:Zrq E left n=true↔Zl0 E left n:=by
 unfold Zrq Zl0
 rw[Bool.not_eq_true',List.any_eq_false]
 constructor
 ·intro h e he hd
  have:=h e he
  rw[hd,beq_self_eq_true,Bool.true_and,Bool.not_eq_true',Bool.not_eq_false] at this
  simpa using this
 ·intro h e he hh
  simp only[Bool.and_eq_true,beq_iff_eq,Bool.not_eq_true',beq_eq_false_iff_ne] at hh
  exact hh.2 (h e he hh.1)
theorem ZyW {g:ZF} (hG:ZgT g) {c:Zbt} (hl:c.left.length=g.work.length) (n:Int):ZhK g c n=some (Zrq g.edges c.left n):=by
 unfold ZhK
 rw[ZxA _ _ (fun e=>(e.dst==n) && !(lf c.left e.src==0)) (fun e he=>by
  have hs:=hG.src e he
  unfold Zgv
  rw[show(Zbt.mk c.on c.left)=c from rfl,Ztc (c:=c) (n:=e.src) ⟨hs.1,by rw[hl];exact hs.2⟩]
  cases e.dst==n<;>cases lf c.left e.src==0<;>rfl) hG.short.e]
 unfold Zrq
 cases (g.edges.any fun e=>(e.dst==n) && !(lf c.left e.src==0))<;>rfl
structure ZdX (g:ZF) (left on:List Int):Prop where
 ll:left.length=g.work.length
 o1:1<=on.length
 o8:on.length<=8
 ok:Zh5 g.edges left on
theorem ZEp (x:Int):ZdV x=some (decide (x<0) || decide (1000<x)):=by
 unfold ZdV
 cases decide (x<0)<;>cases decide (1000<x)<;>rfl
theorem ZFW {g:ZF} (hG:ZgT g) {left on:List Int} (c:ZdX g left on):Zjo g (Zbt.mk on left)=some true:=by
 have o1:=c.o1
 have o8:=c.o8
 have hw:=hG.wl
 have ll:=c.ll
 unfold Zjo
 dsimp only
 rw[decide_eq_false (by omega),cond_false,decide_eq_false (by omega),cond_false,show((left.length:Int) != (g.work.length:Int))=false by rw[ll];simp,cond_false,
  ZdF left _ (fun x=>decide (x<0) || decide (1000<x)) (fun x _=>ZEp x) (by omega),Option.bind_some]
 have h0:(left.any fun x=>decide (x<0) || decide (1000<x))=false:=List.any_eq_false.2 fun x hx=>by
  have:=c.ok.rng x hx
  rw[decide_eq_false (by omega),decide_eq_false (by omega)]
  decide
 rw[h0,cond_false,ZCn on (Zgo g (Zbt.mk on left)) (.inr ()) (fun i n hi hn=>?_) (by simp only[Zgo,ZdO];rfl),Option.bind_some]
 ·dsimp only
  rw[ZCn left (Zgp g (Zbt.mk on left)) (.inr ()) (fun i x hi hx=>?_) (by simp only[Zgp,ZdO];rfl)]
  ·rfl
  ·have hin:isN left (i:Int):=⟨by omega,by simpa using hi⟩
   simp only[Zgp,Zcx hi,cond_true,Ztc (c:=Zbt.mk on left) hin,Option.bind_some,ZyW hG (c:=Zbt.mk on left) c.ll,ZL hi (show left.length<9223372036854775808 by omega)]
   cases hz:lf left (i:Int)==0 with
   | false=>rfl
   | true=>
    have:=Zha.2 (c.ok.over _ hin (by simpa using hz))
    rw[this];rfl
 ·simp only[Zgo,Zcx hi,cond_true,ZN hn,Option.bind_some,ZL hi (show on.length<9223372036854775808 by omega)]
  cases hz:n == -1 with
  | true=>rfl
  | false=>
   have hne:n ≠ -1:=by simpa using hz
   rcases c.ok.run n (List.mem_of_getElem? hn) with h | ⟨h1,h2,h3⟩
   ·exact absurd h hne
   ·have:=h1.1
    have:=h1.2
    have hm:(List.take i on).any (fun x=>n==x)=false:=List.any_eq_false.2 fun x hx hq=>by
     have:n=x:=by simpa using hq
     subst this
     obtain⟨j,hj⟩:=List.getElem?_of_mem hx
     have hjl:=(List.getElem?_eq_some_iff.1 hj).1
     rw[List.length_take] at hjl
     rw[List.getElem?_take,if_pos (by omega)] at hj
     have:=c.ok.one j i n hj hn hne
     omega
    simp only[cond_false,decide_eq_false (show ¬n<0 by omega),decide_eq_false (show ¬(left.length:Int)<=n by omega),Ztc (c:=Zbt.mk on left) h1,Option.bind_some,show(lf left n==0)=false from beq_eq_false_iff_ne.2 (by omega),
     decide_eq_true (show(0:Int)<=(i:Int) by omega),Int.toNat_natCast,Nat.ble_eq_true_of_le (show i<=on.length by omega),cond_true,ZlO (List.take i on) n (by rw[List.length_take];omega),hm,ZyW hG (c:=Zbt.mk on left) c.ll,Zha.2 h3]
theorem ZnD {g:ZF} (h:Za6 g=0) {left on:List Int} (c:ZdX g left on):Zh7 g (Zbt.mk on left)=some 0:=by
 obtain⟨hG,hA⟩:=Za9 h
 unfold Zh7
 rw[Zim g hG.short,h,Option.bind_some]
 simp only[beq_self_eq_true,cond_true,ZFW hG c,Option.bind_some]
def Zcv (E:List Zi) (left on:List Int):List Int:=((List.range left.length).filter fun i:Nat=>!(lf left (i:Int)==0)&&(!(decide ((i:Int)∈on))&&Zrq E left (i:Int))).map fun i:Nat=>(i:Int)
theorem Zr0 {g:ZF} (h:Za6 g=0) {left on:List Int} (c:ZdX g left on):ZeW g (Zbt.mk on left)=some (Zcv g.edges left on):=by
 obtain⟨hG,hA⟩:=Za9 h
 have hw:=hG.wl
 have ll:=c.ll
 have o8:=c.o8
 unfold ZeW
 rw[ZnD h c,Option.bind_some]
 unfold ZhW
 rw[Zwj (n:=left.length) (Zgk g (Zbt.mk on left)) (fun i:Nat=>!(lf left (i:Int)==0)&&(!(decide ((i:Int)∈on))&&Zrq g.edges left (i:Int))) (fun i out hi ho=>?_) (fun out=>by simp only[Zgk,ZdO];rfl)]
 ·rfl
 ·have hin:isN left (i:Int):=⟨by omega,by simpa using hi⟩
  simp only[Zgk,Zcx hi,cond_true,Ztc (c:=Zbt.mk on left) hin,Option.bind_some,ZlO on (i:Int) (by omega),Zr9,ZyW hG (c:=Zbt.mk on left) c.ll,ZL hi (show left.length<9223372036854775808 by omega),Zgn (show out.length+1<=1073741824 by omega)]
  cases lf left (i:Int)==0<;>cases decide ((i:Int)∈on)<;>cases Zrq g.edges left (i:Int)<;>rfl
theorem ZoN {E:List Zi}{left on:List Int} (hr:∀x∈left,0<=x) {n:Int}:n∈Zcv E left on↔Rdy E left on n:=by
 unfold Zcv Rdy isN
 rw[ZjW]
 simp only[Bool.and_eq_true,Bool.not_eq_true',beq_eq_false_iff_ne,decide_eq_false_iff_not]
 constructor
 ·rintro ⟨h0,h1,h2,h3,h4⟩
  rw[Int.toNat_of_nonneg h0] at h2 h3 h4
  refine⟨⟨h0,h1⟩,?_,h3,Zha.1 h4⟩
  have:0<=lf left n:=by
   rw[show lf left n=lf left n from rfl]
   exact hr _ (List.mem_of_getElem? (ZjZ h0 h1))
  omega
 ·rintro ⟨⟨h0,h1⟩,h2,h3,h4⟩
  refine⟨h0,h1,?_⟩
  rw[Int.toNat_of_nonneg h0]
  exact⟨by omega,h3,Zha.2 h4⟩
theorem ZpZ (E:List Zi) (left on:List Int):(Zcv E left on).Nodup:=by
 unfold Zcv
 exact List.Pairwise.map _ (fun a b (h:a≠b)=>by omega) (List.Pairwise.filter _ List.nodup_range)
def upd {α:Type} (f:Nat->α) (c:Nat) (v:α):Nat->α:=fun k=>if k=c then v else f k
theorem ZaE {α:Type} (f:Nat->α) (c:Nat) (v:α):upd f c v c=v:=if_pos rfl
theorem ZwH {α:Type} (f:Nat->α) {c k:Nat} (v:α) (h:k≠c):upd f c v k=f k:=if_neg h
structure Zj where
 T:Nat->Int
 B:Nat->Int
 R:Nat->Int->Int
 O:Nat->Int
 a:Nat->Int
 x:Nat->Int
 y:Nat->Int
 z:Nat->Int
 F:Nat->Nat
def vic (m c f:Nat):Nat:=(c+f) % m
def Zj.fresh (V:Zj) (c f:Nat):Zj:=⟨V.T,V.B,V.R,V.O,upd V.a c 0,upd V.x c 0,upd V.y c 0,upd V.z c 0,upd V.F c f⟩
def Zj.got (V:Zj) (c:Nat) (n:Int):Zj:=⟨V.T,V.B,V.R,upd V.O c n,upd V.a c 0,upd V.x c 0,upd V.y c 0,upd V.z c 0,upd V.F c 0⟩
def Zj.setT (V:Zj) (c:Nat) (n:Int):Zj:=⟨upd V.T c n,V.B,V.R,V.O,V.a,V.x,V.y,V.z,V.F⟩
def Zj.setB (V:Zj) (c:Nat) (n:Int):Zj:=⟨V.T,upd V.B c n,V.R,V.O,V.a,V.x,V.y,V.z,V.F⟩
def Zj.tk (V:Zj) (c:Nat) (a x y z:Int):Zj:=⟨V.T,V.B,V.R,V.O,upd V.a c a,upd V.x c x,upd V.y c y,upd V.z c z,V.F⟩
def Zbp (m:Nat) (V:Zj) (c:Nat):Zj:=
 if V.F c=0 then
  if V.a c=0 then (V.setB c (V.B c-1)).tk c 1 (V.x c) (V.B c-1) (V.z c)
  else if V.a c=1 then
   if V.T c<V.y c then V.got c (V.R c (V.y c))
   else if V.T c=V.y c then V.tk c 2 (V.T c) (V.y c) (V.z c)
   else V.tk c 3 (V.T c) (V.y c) (V.z c)
  else if V.a c=2 then
   if V.T c=V.x c then (V.setT c (V.T c+1)).tk c 4 (V.x c) (V.y c) (V.R c (V.y c))
   else V.tk c 3 (V.x c) (V.y c) (V.z c)
  else if V.a c=4 then (V.setB c (V.y c+1)).got c (V.z c)
  else (V.setB c (V.y c+1)).fresh c (1 % m)
 else
  if V.a c=0 then V.tk c 1 (V.T (vic m c (V.F c))) (V.y c) (V.z c)
  else if V.a c=1 then
   if V.x c<V.B (vic m c (V.F c)) then V.tk c 2 (V.x c) (V.B (vic m c (V.F c))) (V.z c)
   else V.fresh c ((V.F c+1) % m)
  else if V.a c=2 then V.tk c 3 (V.x c) (V.y c) (V.R (vic m c (V.F c)) (V.x c))
  else if V.T (vic m c (V.F c))=V.x c then (V.setT (vic m c (V.F c)) (V.T (vic m c (V.F c))+1)).got c (V.z c)
  else V.fresh c ((V.F c+1) % m)
def Zj.be (V:Zj) (c:Nat):Int:=if V.F c=0/\0<V.a c then V.B c+1 else V.B c
def Zj.lo (V:Zj) (c:Nat):Int:=if V.F c=0/\V.a c=4 then V.T c-1 else V.T c
structure Pos (m:Nat) (V:Zj) (c:Nat):Prop where
 F:V.F c<m
 busy:V.O c ≠ -1->V.a c=0/\V.F c=0
 a0:0<=V.a c
 a4:V.a c<=4
 a3:V.F c≠0->V.a c<=3
 T0:0<=V.T c
 TB:V.T c<=V.be c
 B64:V.be c<=64
 o1:V.F c=0->0<V.a c->V.y c=V.B c
 o2:V.F c=0->V.a c=2->V.x c=V.y c/\V.x c<=V.T c
 o3:V.F c=0->V.a c=3∨V.a c=4->V.T c=V.B c+1
 o4:V.F c=0->V.a c=4->V.z c=V.R c (V.B c)
 t1:V.F c≠0->0<V.a c->0<=V.x c/\V.x c<=V.T (vic m c (V.F c))
 t2:V.F c≠0->2<=V.a c->V.x c=V.T (vic m c (V.F c))->V.T (vic m c (V.F c))<V.be (vic m c (V.F c))
 t3:V.F c≠0->V.a c=3->V.z c=V.R (vic m c (V.F c)) (V.x c)
 rx : -1<=V.x c/\V.x c<=64
 ry : -1<=V.y c/\V.y c<=64
def Item (m:Nat) (V:Zj) (c:Nat) (k:Int):Prop:=c<m/\V.lo c<=k/\k<V.be c
structure Zty (m:Nat) (base:Int->Prop) (V:Zj):Prop where
 rdy:∀c k,Item m V c k->base (V.R c k)/\∀i,i<m->V.O i≠V.R c k
 inj:∀c k c' k',Item m V c k->Item m V c' k'->V.R c k=V.R c' k'->c=c'/\k=k'
 all:∀n,base n->(∀i,i<m->V.O i≠n)->∃c k,Item m V c k/\V.R c k=n
structure Inv (m:Nat) (base:Int->Prop) (V:Zj):Prop where
 pos:∀c,c<m->Pos m V c
 items:Zty m base V
theorem ZsS {m:Nat} (hm:0<m) (c f:Nat):vic m c f<m:=Nat.mod_lt _ hm
theorem ZIa {m c f:Nat} (hc:c<m) (hf:f<m) (h0:f≠0):vic m c f≠c:=by
 unfold vic
 intro h
 by_cases hl:c+f<m
 ·rw[Nat.mod_eq_of_lt hl] at h;omega
 ·rw[Nat.mod_eq_sub_mod (by omega),Nat.mod_eq_of_lt (by omega)] at h;omega
theorem Zxz {m c:Nat} (hc:c<m):vic m c 0=c:=by unfold vic;rw[Nat.add_zero,Nat.mod_eq_of_lt hc]
theorem Pos.other {m:Nat}{V W:Zj}{c i:Nat} (hm:0<m) (all:∀j,j<m->V.T j<=V.be j) (p:Pos m V i) (hi:i<m)
  (hT:∀j,j<m->W.T j=V.T j∨(W.T j=V.T j+1/\V.T j<V.be j))
  (hb:∀j,j<m->W.be j=V.be j∨(j=c/\W.be j=V.be j-1/\V.T j<W.be j/\W.T j=V.T j))
  (hne:i≠c) (hF:W.F i=V.F i) (ha:W.a i=V.a i) (hx:W.x i=V.x i) (hy:W.y i=V.y i) (hz:W.z i=V.z i) (hO:W.O i=V.O i) (hB:W.B i=V.B i) (hR:W.R=V.R):Pos m W i:=by
 have hTi:=hT i hi
 have hbi:W.be i=V.be i:=by
  rcases hb i hi with h | ⟨h,_⟩
  ·exact h
  ·exact absurd h hne
 have hv:=ZsS hm i (V.F i)
 have hTv:=hT _ hv
 have hbv:=hb _ hv
 refine⟨by rw[hF];exact p.F,fun h=>?_,by rw[ha];exact p.a0,by rw[ha];exact p.a4,fun h=>?_,?_,?_,by rw[hbi];exact p.B64,fun h h2=>?_,fun h h2=>?_,fun h h2=>?_,fun h h2=>?_,fun h h2=>?_,fun h h2 h3=>?_,fun h h2=>?_,by rw[hx];exact p.rx,by rw[hy];exact p.ry⟩
 ·rw[hO] at h;rw[ha,hF];exact p.busy h
 ·rw[hF] at h;rw[ha];exact p.a3 h
 ·have:=p.T0;rcases hTi with h | h<;>omega
 ·have:=p.TB;rw[hbi];rcases hTi with h | h<;>omega
 ·rw[hF] at h;rw[ha] at h2;rw[hy,hB];exact p.o1 h h2
 ·rw[hF] at h;rw[ha] at h2
  have:=p.o2 h h2
  rw[hx,hy]
  refine⟨this.1,?_⟩
  rcases hTi with h | h<;>omega
 ·rw[hF] at h;rw[ha] at h2
  have h3:=p.o3 h h2
  rw[hB]
  rcases hTi with h4 | ⟨h4,h5⟩
  ·omega
  ·have:V.be i=V.B i+1:=by unfold Zj.be;rw[if_pos ⟨h,by omega⟩]
   omega
 ·rw[hF] at h;rw[ha] at h2;rw[hz,hR,hB];exact p.o4 h h2
 ·rw[hF] at h ⊢;rw[ha] at h2
  have:=p.t1 h h2
  rw[hx]
  refine⟨this.1,?_⟩
  rcases hTv with h | h<;>omega
 ·rw[hF] at h h3 ⊢;rw[ha] at h2;rw[hx] at h3
  have h5:=p.t1 h (by omega)
  rcases hTv with h4 | ⟨h4,_⟩
  ·have h6:=p.t2 h h2 (by omega)
   rcases hbv with h7 | ⟨_,h7,h8,_⟩<;>omega
  ·omega
 ·rw[hF] at h ⊢;rw[ha] at h2;rw[hz,hR,hx];exact p.t3 h h2
theorem Zty.same {m:Nat}{base:Int->Prop}{V W:Zj} (h:Zty m base V) (hlo:∀j,j<m->W.lo j=V.lo j) (hbe:∀j,j<m->W.be j=V.be j) (hO:∀j,j<m->W.O j=V.O j) (hR:W.R=V.R):Zty m base W:=by
 have it:∀c k,Item m W c k↔Item m V c k:=fun c k=>by
  unfold Item
  constructor
  ·rintro ⟨h1,h2,h3⟩;rw[hlo c h1] at h2;rw[hbe c h1] at h3;exact⟨h1,h2,h3⟩
  ·rintro ⟨h1,h2,h3⟩;rw[<- hlo c h1] at h2;rw[<- hbe c h1] at h3;exact⟨h1,h2,h3⟩
 refine⟨fun c k hi=>?_,fun c k c' k' h1 h2 h3=>?_,fun n hn ho=>?_⟩
 ·rw[hR]
  obtain⟨h1,h2⟩:=h.rdy c k ((it c k).1 hi)
  exact⟨h1,fun i hi=>by rw[hO i hi];exact h2 i hi⟩
 ·rw[hR] at h3
  exact h.inj c k c' k' ((it c k).1 h1) ((it c' k').1 h2) h3
 ·obtain⟨c,k,h1,h2⟩:=h.all n hn fun i hi=>by rw[<- hO i hi];exact ho i hi
  exact⟨c,k,(it c k).2 h1,by rw[hR];exact h2⟩
theorem Zty.take {m:Nat}{base:Int->Prop}{V W:Zj}{c v:Nat}{k0:Int} (h:Zty m base V) (hc:c<m) (hidle:V.O c = -1) (hb:∀n,base n->n ≠ -1) (hit:Item m V v k0)
  (it:∀i k,Item m W i k↔Item m V i k/\¬(i=v/\k=k0)) (hO:W.O c=V.R v k0) (hO2:∀j,j<m->j≠c->W.O j=V.O j) (hR:W.R=V.R):Zty m base W:=by
 refine⟨fun i k hi=>?_,fun i k i' k' h1 h2 h3=>?_,fun n hn ho=>?_⟩
 ·obtain⟨h1,h2⟩:=(it i k).1 hi
  obtain⟨h3,h4⟩:=h.rdy i k h1
  rw[hR]
  refine⟨h3,fun j hj=>?_⟩
  by_cases e:j=c
  ·rw[e,hO]
   intro he
   exact h2 (by have:=h.inj v k0 i k hit h1 he;exact⟨this.1.symm,this.2.symm⟩)
  ·rw[hO2 j hj e];exact h4 j hj
 ·rw[hR] at h3
  exact h.inj i k i' k' ((it i k).1 h1).1 ((it i' k').1 h2).1 h3
 ·have hne:n≠V.R v k0:=fun e=>ho c hc (by rw[hO,e])
  obtain⟨i,k,h1,h2⟩:=h.all n hn fun j hj=>by
   by_cases e:j=c
   ·rw[e,hidle];exact fun he=>hb n hn he.symm
   ·rw[<- hO2 j hj e];exact ho j hj
  refine⟨i,k,(it i k).2 ⟨h1,fun⟨e1,e2⟩=>hne ?_⟩,by rw[hR];exact h2⟩
  rw[<- h2,e1,e2]
theorem Pos.fresh0 {m:Nat}{W:Zj}{c:Nat} (hF:W.F c<m) (ha:W.a c=0) (hx:W.x c=0) (hy:W.y c=0) (hO:W.O c ≠ -1->W.F c=0) (h0:0<=W.T c) (h1:W.T c<=W.B c) (h2:W.B c<=64):Pos m W c:=by
 have hb:W.be c=W.B c:=by unfold Zj.be;rw[if_neg (by omega)]
 refine⟨hF,fun h=>⟨ha,hO h⟩,by omega,by omega,fun _=>by omega,h0,by omega,by omega,fun _ h=>by omega,fun _ h=>by omega,fun _ h=>by omega,fun _ h=>by omega,fun _ h=>by omega,fun _ h=>by omega,fun _ h=>by omega,by omega,by omega⟩
theorem Pos.owner {m:Nat}{W:Zj}{c:Nat} (hm:0<m) (hF:W.F c=0) (hO:W.O c = -1) (ha:1<=W.a c/\W.a c<=4) (hy:W.y c=W.B c) (h0:0<=W.T c) (h1:W.T c<=W.B c+1) (h2:W.B c+1<=64)
  (q2:W.a c=2->W.x c=W.y c/\W.x c<=W.T c) (q3:W.a c=3∨W.a c=4->W.T c=W.B c+1) (q4:W.a c=4->W.z c=W.R c (W.B c)) (rx : -1<=W.x c/\W.x c<=64):Pos m W c:=by
 have hb:W.be c=W.B c+1:=by unfold Zj.be;rw[if_pos ⟨hF,by omega⟩]
 refine⟨by omega,fun h=>absurd hO h,by omega,by omega,fun h=>absurd hF h,h0,by omega,by omega,fun _ _=>hy,fun _ h=>q2 h,fun _ h=>q3 h,fun _ h=>q4 h,fun h=>absurd hF h,fun h=>absurd hF h,fun h=>absurd hF h,rx,by omega⟩
theorem Pos.thief {m:Nat}{V W:Zj}{c:Nat} (p:Pos m V c) (hF:W.F c=V.F c) (h0:V.F c≠0) (hO:W.O c = -1) (hT:W.T=V.T) (hB:W.B=V.B) (hbe:∀j,W.be j=V.be j) (ha:1<=W.a c/\W.a c<=3) (q1:0<=W.x c/\W.x c<=V.T (vic m c (V.F c)))
  (q2:2<=W.a c->W.x c=V.T (vic m c (V.F c))->V.T (vic m c (V.F c))<V.be (vic m c (V.F c))) (q3:W.a c=3->W.z c=W.R (vic m c (V.F c)) (W.x c)) (rx:W.x c<=64) (ry : -1<=W.y c/\W.y c<=64):Pos m W c:=by
 have h0':W.F c≠0:=by rw[hF];exact h0
 refine⟨by rw[hF];exact p.F,fun h=>absurd hO h,by omega,by omega,fun _=>by omega,by rw[hT];exact p.T0,by rw[hT,hbe];exact p.TB,by rw[hbe];exact p.B64,fun h=>absurd h h0',fun h=>absurd h h0',fun h=>absurd h h0',fun h=>absurd h h0',?_,?_,?_,by omega,ry⟩
 ·intro _ _;rw[hF,hT];exact q1
 ·intro _ h h2;rw[hF,hT] at h2 ⊢;rw[hbe];exact q2 h h2
 ·intro _ h;rw[hF];exact q3 h
def ZzI (m:Nat) (base:Int->Prop) (V W:Zj) (c:Nat):Prop:=
 (∀j,W.O j=V.O j)∨(base (W.O c)/\(∀i,i<m->V.O i≠W.O c)/\∀j,j≠c->W.O j=V.O j)
theorem Inv.step {m:Nat}{base:Int->Prop}{V:Zj}{c:Nat} (I:Inv m base V) (hb:∀n,base n->n ≠ -1) (hc:c<m) (hidle:V.O c = -1):Inv m base (Zbp m V c)/\ZzI m base V (Zbp m V c) c/\(Zbp m V c).R=V.R:=by
 have hm:0<m:=by omega
 have p:=I.pos c hc
 have TB:∀j,j<m->V.T j<=V.be j:=fun j hj=>(I.pos j hj).TB
 obtain⟨pF,_,pa0,pa4,pa3,pT0,pTB,pB64,po1,po2,po3,po4,pt1,pt2,pt3,prx,pry⟩:=p
 have quiet:∀W:Zj,W.R=V.R->W.T=V.T->(∀j,W.O j=V.O j)->(∀j,W.be j=V.be j)->(∀j,W.lo j=V.lo j)->(∀i,i≠c->W.F i=V.F i/\W.a i=V.a i/\W.x i=V.x i/\W.y i=V.y i/\W.z i=V.z i/\W.B i=V.B i)->Pos m W c->Inv m base W/\ZzI m base V W c/\W.R=V.R:=by
  intro W hR hT hO hbe hlo hsame hp
  refine⟨⟨fun i hi=>?_,I.items.same (fun j _=>hlo j) (fun j _=>hbe j) (fun j _=>hO j) hR⟩,.inl hO,hR⟩
  by_cases e:i=c
  ·rw[e];exact hp
  ·obtain⟨s1,s2,s3,s4,s5,s6⟩:=hsame i e
   exact(I.pos i hi).other (c:=c) hm TB hi (fun j _=>.inl (by rw[hT])) (fun j _=>.inl (hbe j)) e s1 s2 s3 s4 s5 (hO i) s6 hR
 have hv:=ZsS hm c (V.F c)
 unfold Zbp
 by_cases hF:V.F c=0
 ·rw[if_pos hF]
  by_cases a0:V.a c=0
  ·rw[if_pos a0]
   have hbc:V.be c=V.B c:=by unfold Zj.be;rw[if_neg (by omega)]
   refine quiet _ rfl rfl (fun _=>rfl) (fun j=>?_) (fun j=>?_) (fun i e=>?_) ?_
   ·by_cases e:j=c
    ·subst e;simp[Zj.be,Zj.tk,Zj.setB,upd,hF,a0]
    ·simp[Zj.be,Zj.tk,Zj.setB,upd,e]
   ·by_cases e:j=c
    ·subst e;simp[Zj.lo,Zj.tk,Zj.setB,upd,hF,a0]
    ·simp[Zj.lo,Zj.tk,Zj.setB,upd,e]
   ·simp[Zj.tk,Zj.setB,upd,e]
   ·refine Pos.owner hm hF hidle ?_ ?_ pT0 ?_ ?_ ?_ ?_ ?_ ?_<;>simp only[Zj.tk,Zj.setB,ZaE]
    ·omega
    ·omega
    ·omega
    ·intro h;omega
    ·intro h;omega
    ·intro h;omega
    ·exact prx
  rw[if_neg a0]
  have hbc:V.be c=V.B c+1:=by unfold Zj.be;rw[if_pos ⟨hF,by omega⟩]
  have hy:=po1 hF (by omega)
  by_cases a1:V.a c=1
  ·rw[if_pos a1]
   by_cases h1:V.T c<V.y c
   ·
    rw[if_pos h1]
    have it0:Item m V c (V.y c):=⟨hc,by unfold Zj.lo;rw[if_neg (by omega)];omega,by omega⟩
    have beW:∀j,j≠c->(V.got c (V.R c (V.y c))).be j=V.be j:=fun j e=>by simp[Zj.be,Zj.got,upd,e]
    have beC:(V.got c (V.R c (V.y c))).be c=V.B c:=by simp[Zj.be,Zj.got,upd]
    have loW:∀j,(V.got c (V.R c (V.y c))).lo j=V.lo j:=fun j=>by
     by_cases e:j=c
     ·subst e;simp[Zj.lo,Zj.got,upd,a1]
     ·simp[Zj.lo,Zj.got,upd,e]
    refine⟨⟨fun i hi=>?_,?_⟩,.inr ⟨?_,?_,fun j e=>by simp[Zj.got,upd,e]⟩,rfl⟩
    ·by_cases e:i=c
     ·rw[e]
      refine Pos.fresh0 ?_ ?_ ?_ ?_ ?_ pT0 ?_ ?_<;>simp only[Zj.got,ZaE]
      ·exact hm
      ·exact fun _=>trivial
      ·omega
      ·omega
     ·refine(I.pos i hi).other (c:=c) hm TB hi (fun j _=>.inl rfl) (fun j _=>?_) e ?_ ?_ ?_ ?_ ?_ ?_ rfl rfl
      ·by_cases e2:j=c
       ·subst e2
        exact .inr ⟨rfl,by rw[beC];omega,by rw[beC];omega,rfl⟩
       ·exact .inl (beW j e2)
      all_goals simp[Zj.got,upd,e]
    ·refine I.items.take hc hidle hb it0 (fun i k=>?_) (by simp[Zj.got,upd]) (fun j _ e=>by simp[Zj.got,upd,e]) rfl
     unfold Item
     rw[loW]
     by_cases e:i=c
     ·subst e;rw[beC]
      constructor
      ·rintro ⟨q1,q2,q3⟩;exact⟨⟨q1,q2,by omega⟩,fun h=>by omega⟩
      ·rintro ⟨⟨q1,q2,q3⟩,q4⟩;exact⟨q1,q2,by have:k≠V.y i:=fun h=>q4 ⟨rfl,h⟩;omega⟩
     ·rw[beW i e]
      constructor
      ·rintro ⟨q1,q2,q3⟩;exact⟨⟨q1,q2,q3⟩,fun h=>e h.1⟩
      ·rintro ⟨q,_⟩;exact q
    ·have:=(I.items.rdy c _ it0).1
     simpa [Zj.got,upd] using this
    ·have:=(I.items.rdy c _ it0).2
     simpa [Zj.got,upd] using this
   rw[if_neg h1]
   by_cases h2:V.T c=V.y c
   ·rw[if_pos h2]
    refine quiet _ rfl rfl (fun _=>rfl) (fun j=>?_) (fun j=>?_) (fun i e=>?_) ?_
    ·by_cases e:j=c
     ·subst e;simp[Zj.be,Zj.tk,upd,hF,a1]
     ·simp[Zj.be,Zj.tk,upd,e]
    ·by_cases e:j=c
     ·subst e;simp[Zj.lo,Zj.tk,upd,hF,a1]
     ·simp[Zj.lo,Zj.tk,upd,e]
    ·simp[Zj.tk,upd,e]
    ·refine Pos.owner hm hF hidle ?_ ?_ pT0 ?_ ?_ ?_ ?_ ?_ ?_<;>simp only[Zj.tk,ZaE]
     ·omega
     ·exact hy
     ·omega
     ·omega
     ·intro _;exact⟨h2,Int.le_refl _⟩
     ·intro h;omega
     ·intro h;omega
     ·omega
   ·rw[if_neg h2]
    refine quiet _ rfl rfl (fun _=>rfl) (fun j=>?_) (fun j=>?_) (fun i e=>?_) ?_
    ·by_cases e:j=c
     ·subst e;simp[Zj.be,Zj.tk,upd,hF,a1]
     ·simp[Zj.be,Zj.tk,upd,e]
    ·by_cases e:j=c
     ·subst e;simp[Zj.lo,Zj.tk,upd,hF,a1]
     ·simp[Zj.lo,Zj.tk,upd,e]
    ·simp[Zj.tk,upd,e]
    ·refine Pos.owner hm hF hidle ?_ ?_ pT0 ?_ ?_ ?_ ?_ ?_ ?_<;>simp only[Zj.tk,ZaE]
     ·omega
     ·exact hy
     ·omega
     ·omega
     ·intro h;omega
     ·intro h;omega
     ·intro h;omega
     ·omega
  rw[if_neg a1]
  by_cases a2:V.a c=2
  ·rw[if_pos a2]
   obtain⟨x1,x2⟩:=po2 hF a2
   by_cases h1:V.T c=V.x c
   ·
    rw[if_pos h1]
    have beW:∀j,((V.setT c (V.T c+1)).tk c 4 (V.x c) (V.y c) (V.R c (V.y c))).be j=V.be j:=fun j=>by
     by_cases e:j=c
     ·subst e;simp[Zj.be,Zj.tk,Zj.setT,upd,hF,a2]
     ·simp[Zj.be,Zj.tk,Zj.setT,upd,e]
    have loW:∀j,((V.setT c (V.T c+1)).tk c 4 (V.x c) (V.y c) (V.R c (V.y c))).lo j=V.lo j:=fun j=>by
     by_cases e:j=c
     ·subst e;simp[Zj.lo,Zj.tk,Zj.setT,upd,hF,a2]
     ·simp[Zj.lo,Zj.tk,Zj.setT,upd,e]
    refine⟨⟨fun i hi=>?_,I.items.same (fun j _=>loW j) (fun j _=>beW j) (fun j _=>rfl) rfl⟩,.inl fun _=>rfl,rfl⟩
    by_cases e:i=c
    ·rw[e]
     refine Pos.owner hm hF hidle ?_ ?_ ?_ ?_ ?_ ?_ ?_ ?_ ?_<;>simp only[Zj.tk,Zj.setT,ZaE]
     ·omega
     ·exact hy
     ·omega
     ·omega
     ·omega
     ·intro h;omega
     ·intro h;omega
     ·intro h;rw[hy]
     ·exact prx
    ·refine(I.pos i hi).other (c:=c) hm TB hi (fun j _=>?_) (fun j _=>.inl (beW j)) e ?_ ?_ ?_ ?_ ?_ rfl ?_ rfl
     ·by_cases e2:j=c
      ·subst e2
       refine .inr ⟨by simp[Zj.tk,Zj.setT,upd],by omega⟩
      ·exact .inl (by simp[Zj.tk,Zj.setT,upd,e2])
     all_goals simp[Zj.tk,Zj.setT,upd,e]
   ·rw[if_neg h1]
    refine quiet _ rfl rfl (fun _=>rfl) (fun j=>?_) (fun j=>?_) (fun i e=>?_) ?_
    ·by_cases e:j=c
     ·subst e;simp[Zj.be,Zj.tk,upd,hF,a2]
     ·simp[Zj.be,Zj.tk,upd,e]
    ·by_cases e:j=c
     ·subst e;simp[Zj.lo,Zj.tk,upd,hF,a2]
     ·simp[Zj.lo,Zj.tk,upd,e]
    ·simp[Zj.tk,upd,e]
    ·refine Pos.owner hm hF hidle ?_ ?_ pT0 ?_ ?_ ?_ ?_ ?_ ?_<;>simp only[Zj.tk,ZaE]
     ·omega
     ·exact hy
     ·omega
     ·omega
     ·intro h;omega
     ·intro h;omega
     ·intro h;omega
     ·exact prx
  rw[if_neg a2]
  have hT:=po3 hF (by omega)
  by_cases a4:V.a c=4
  ·
   rw[if_pos a4]
   have hz:=po4 hF a4
   have it0:Item m V c (V.B c):=⟨hc,by unfold Zj.lo;rw[if_pos ⟨hF,a4⟩];omega,by omega⟩
   have beW:∀j,j≠c->((V.setB c (V.y c+1)).got c (V.z c)).be j=V.be j:=fun j e=>by simp[Zj.be,Zj.got,Zj.setB,upd,e]
   have beC:((V.setB c (V.y c+1)).got c (V.z c)).be c=V.B c+1:=by simp[Zj.be,Zj.got,Zj.setB,upd];omega
   have loC:((V.setB c (V.y c+1)).got c (V.z c)).lo c=V.T c:=by simp[Zj.lo,Zj.got,Zj.setB,upd]
   have loW:∀j,j≠c->((V.setB c (V.y c+1)).got c (V.z c)).lo j=V.lo j:=fun j e=>by simp[Zj.lo,Zj.got,Zj.setB,upd,e]
   have loV:V.lo c=V.T c-1:=by unfold Zj.lo;rw[if_pos ⟨hF,a4⟩]
   refine⟨⟨fun i hi=>?_,?_⟩,.inr ⟨?_,?_,fun j e=>by simp[Zj.got,Zj.setB,upd,e]⟩,rfl⟩
   ·by_cases e:i=c
    ·rw[e]
     refine Pos.fresh0 ?_ ?_ ?_ ?_ ?_ pT0 ?_ ?_<;>simp only[Zj.got,Zj.setB,ZaE]
     ·exact hm
     ·exact fun _=>trivial
     ·omega
     ·omega
    ·refine(I.pos i hi).other (c:=c) hm TB hi (fun j _=>.inl rfl) (fun j _=>?_) e ?_ ?_ ?_ ?_ ?_ ?_ ?_ rfl
     ·by_cases e2:j=c
      ·subst e2
       exact .inl (by rw[beC];omega)
      ·exact .inl (beW j e2)
     all_goals simp[Zj.got,Zj.setB,upd,e]
   ·refine I.items.take hc hidle hb it0 (fun i k=>?_) (by simp[Zj.got,Zj.setB,upd];exact hz) (fun j _ e=>by simp[Zj.got,Zj.setB,upd,e]) rfl
    unfold Item
    by_cases e:i=c
    ·subst e;rw[beC,loC,loV]
     constructor
     ·rintro ⟨q1,q2,q3⟩;omega
     ·rintro ⟨⟨q1,q2,q3⟩,q4⟩
      exact absurd ⟨rfl,by omega⟩ q4
    ·rw[beW i e,loW i e]
     constructor
     ·rintro ⟨q1,q2,q3⟩;exact⟨⟨q1,q2,q3⟩,fun h=>e h.1⟩
     ·rintro ⟨q,_⟩;exact q
   ·have:=(I.items.rdy c _ it0).1
    simp only[Zj.got,Zj.setB,ZaE]
    rw[hz];exact this
   ·have:=(I.items.rdy c _ it0).2
    simp only[Zj.got,Zj.setB,ZaE]
    rw[hz];exact this
  ·rw[if_neg a4]
   have a3:V.a c=3:=by omega
   refine quiet _ rfl rfl (fun _=>rfl) (fun j=>?_) (fun j=>?_) (fun i e=>?_) ?_
   ·by_cases e:j=c
    ·subst e
     rw[hbc]
     simp[Zj.be,Zj.fresh,Zj.setB,upd]
     omega
    ·simp[Zj.be,Zj.fresh,Zj.setB,upd,e]
   ·by_cases e:j=c
    ·subst e;simp[Zj.lo,Zj.fresh,Zj.setB,upd,a3]
    ·simp[Zj.lo,Zj.fresh,Zj.setB,upd,e]
   ·simp[Zj.fresh,Zj.setB,upd,e]
   ·refine Pos.fresh0 ?_ ?_ ?_ ?_ ?_ pT0 ?_ ?_<;>simp only[Zj.fresh,Zj.setB,ZaE]
    ·exact Nat.mod_lt _ hm
    ·exact fun h=>absurd hidle h
    ·omega
    ·omega
 ·rw[if_neg hF]
  have pv:=I.pos _ hv
  have hbc:V.be c=V.B c:=by unfold Zj.be;rw[if_neg (by omega)]
  have fresh:∀f,f<m->Inv m base (V.fresh c f)/\ZzI m base V (V.fresh c f) c/\(V.fresh c f).R=V.R:=fun f hf=>by
   refine quiet _ rfl rfl (fun _=>rfl) (fun j=>?_) (fun j=>?_) (fun i e=>?_) ?_
   ·by_cases e:j=c
    ·subst e;rw[hbc];simp[Zj.be,Zj.fresh,upd]
    ·simp[Zj.be,Zj.fresh,upd,e]
   ·by_cases e:j=c
    ·subst e;simp[Zj.lo,Zj.fresh,upd,hF]
    ·simp[Zj.lo,Zj.fresh,upd,e]
   ·simp[Zj.fresh,upd,e]
   ·refine Pos.fresh0 ?_ ?_ ?_ ?_ ?_ pT0 ?_ ?_<;>simp only[Zj.fresh,ZaE]
    ·exact hf
    ·exact fun h=>absurd hidle h
    ·omega
    ·omega
  have tk:∀a x y z,1<=a/\a<=3->(0<=x/\x<=V.T (vic m c (V.F c)))->(2<=a->x=V.T (vic m c (V.F c))->V.T (vic m c (V.F c))<V.be (vic m c (V.F c)))->(a=3->z=V.R (vic m c (V.F c)) x)->x<=64->(-1<=y/\y<=64)->Inv m base (V.tk c a x y z)/\ZzI m base V (V.tk c a x y z) c/\(V.tk c a x y z).R=V.R:=fun a x y z q0 q1 q2 q3 q4 q5=>by
   have hbe:∀j,(V.tk c a x y z).be j=V.be j:=fun j=>by
    by_cases e:j=c
    ·subst e;rw[hbc];simp[Zj.be,Zj.tk,upd,hF]
    ·simp[Zj.be,Zj.tk,upd,e]
   refine quiet _ rfl rfl (fun _=>rfl) hbe (fun j=>?_) (fun i e=>?_) ?_
   ·by_cases e:j=c
    ·subst e;simp[Zj.lo,Zj.tk,upd,hF]
    ·simp[Zj.lo,Zj.tk,upd,e]
   ·simp[Zj.tk,upd,e]
   ·refine Pos.thief (I.pos c hc) rfl hF hidle rfl rfl hbe ?_ ?_ ?_ ?_ ?_ ?_<;>simp only[Zj.tk,ZaE]
    ·exact q0
    ·exact q1
    ·exact q2
    ·exact q3
    ·exact q4
    ·exact q5
  have bv:V.B (vic m c (V.F c))<=V.be (vic m c (V.F c)) /\ -1<=V.B (vic m c (V.F c)):=by
   have h1:=pv.T0
   have h2:=pv.TB
   unfold Zj.be at h2 ⊢
   split at h2<;>rename_i hh<;>simp only[hh]<;>simp<;>omega
  have b64:=pv.B64
  have t64:=pv.TB
  by_cases a0:V.a c=0
  ·rw[if_pos a0]
   exact tk 1 _ _ _ (by omega) ⟨pv.T0,Int.le_refl _⟩ (fun h=>by omega) (fun h=>by omega) (by omega) pry
  rw[if_neg a0]
  have x0:=pt1 hF (by omega)
  by_cases a1:V.a c=1
  ·rw[if_pos a1]
   by_cases h1:V.x c<V.B (vic m c (V.F c))
   ·rw[if_pos h1]
    exact tk 2 _ _ _ (by omega) x0 (fun _ h=>by omega) (fun h=>by omega) prx.2 (by omega)
   ·rw[if_neg h1]
    exact fresh _ (Nat.mod_lt _ hm)
  rw[if_neg a1]
  by_cases a2:V.a c=2
  ·rw[if_pos a2]
   exact tk 3 _ _ _ (by omega) x0 (fun _ h=>pt2 hF (by omega) h) (fun _=>rfl) prx.2 pry
  rw[if_neg a2]
  have a3:V.a c=3:=by have:=pa3 hF;omega
  by_cases h1:V.T (vic m c (V.F c))=V.x c
  ·
   rw[if_pos h1]
   have hlt:=pt2 hF (by omega) h1.symm
   have hz:=pt3 hF a3
   have vne:=ZIa hc pF hF
   have hcv:c≠vic m c (V.F c):=fun e=>vne e.symm
   generalize hvv:vic m c (V.F c)=v at *
   have loV:V.lo v=V.T v:=by
    unfold Zj.lo
    by_cases hh:V.F v=0/\V.a v=4
    ·exfalso
     have:=pv.o3 hh.1 (.inr hh.2)
     have:V.be v=V.B v+1:=by unfold Zj.be;rw[if_pos ⟨hh.1,by omega⟩]
     omega
    ·rw[if_neg hh]
   have it0:Item m V v (V.T v):=⟨hv,by omega,hlt⟩
   have beW:∀j,((V.setT v (V.T v+1)).got c (V.z c)).be j=V.be j:=fun j=>by
    by_cases e:j=c
    ·subst e;rw[hbc];simp[Zj.be,Zj.got,Zj.setT,upd]
    ·simp[Zj.be,Zj.got,Zj.setT,upd,e]
   have loW:∀j,j≠v->((V.setT v (V.T v+1)).got c (V.z c)).lo j=V.lo j:=fun j e=>by
    by_cases e2:j=c
    ·subst e2;simp[Zj.lo,Zj.got,Zj.setT,upd,hF,e]
    ·simp[Zj.lo,Zj.got,Zj.setT,upd,e,e2]
   have loC:((V.setT v (V.T v+1)).got c (V.z c)).lo v=V.T v+1:=by
    have hn:¬(V.F v=0/\V.a v=4):=fun hh=>by
     have:V.lo v=V.T v-1:=by unfold Zj.lo;rw[if_pos hh]
     omega
    simp[Zj.lo,Zj.got,Zj.setT,upd,vne]
    intro h h2
    exact absurd ⟨h,h2⟩ hn
   refine⟨⟨fun i hi=>?_,?_⟩,.inr ⟨?_,?_,fun j e=>by simp[Zj.got,Zj.setT,upd,e]⟩,rfl⟩
   ·by_cases e:i=c
    ·rw[e]
     refine Pos.fresh0 ?_ ?_ ?_ ?_ ?_ ?_ ?_ ?_<;>simp only[Zj.got,Zj.setT,ZaE,ZwH _ _ hcv]
     ·exact hm
     ·exact fun _=>trivial
     ·exact pT0
     ·omega
     ·omega
    ·refine(I.pos i hi).other (c:=c) hm TB hi (fun j _=>?_) (fun j _=>.inl (beW j)) e ?_ ?_ ?_ ?_ ?_ ?_ rfl rfl
     ·by_cases e2:j=v
      ·subst e2
       exact .inr ⟨by simp[Zj.got,Zj.setT,upd],hlt⟩
      ·exact .inl (by simp[Zj.got,Zj.setT,upd,e2])
     all_goals simp[Zj.got,Zj.setT,upd,e]
   ·refine I.items.take hc hidle hb it0 (fun i k=>?_) (by simp[Zj.got,Zj.setT,upd];rw[hz,h1]) (fun j _ e=>by simp[Zj.got,Zj.setT,upd,e]) rfl
    unfold Item
    rw[beW]
    by_cases e:i=v
    ·subst e;rw[loC,loV]
     constructor
     ·rintro ⟨q1,q2,q3⟩;exact⟨⟨q1,by omega,q3⟩,fun h=>by omega⟩
     ·rintro ⟨⟨q1,q2,q3⟩,q4⟩;exact⟨q1,by have:k≠V.T i:=fun h=>q4 ⟨rfl,h⟩;omega,q3⟩
    ·rw[loW i e]
     constructor
     ·rintro ⟨q1,q2,q3⟩;exact⟨⟨q1,q2,q3⟩,fun h=>e h.1⟩
     ·rintro ⟨q,_⟩;exact q
   ·have:=(I.items.rdy v _ it0).1
    simp only[Zj.got,Zj.setT,ZaE]
    rw[hz,<- h1];exact this
   ·have:=(I.items.rdy v _ it0).2
    simp only[Zj.got,Zj.setT,ZaE]
    rw[hz,<- h1];exact this
  ·rw[if_neg h1]
   exact fresh _ (Nat.mod_lt _ hm)
def Zic (f:Nat->Nat):Nat->Nat
 | 0=>0
 | n+1=>Zic f n+f n
theorem ZvL {f h:Nat->Nat}:∀n,(∀i,i<n->f i<=h i)->Zic f n<=Zic h n
 | 0,_=>Nat.le_refl _
 | n+1,e=>by
  have:=ZvL n fun i hi=>e i (by omega)
  have:=e n (by omega)
  unfold Zic
  omega
theorem Zoq {f h:Nat->Nat} (n:Nat) (e:∀i,i<n->f i=h i):Zic f n=Zic h n:=
 Nat.le_antisymm (ZvL n fun i hi=>Nat.le_of_eq (e i hi)) (ZvL n fun i hi=>Nat.le_of_eq (e i hi).symm)
theorem Znd {f h:Nat->Nat}{c:Nat}:∀n,c<n->(∀i,i<n->i≠c->f i=h i)->f c+1<=h c->Zic f n+1<=Zic h n
 | 0,hc,_,_=>by omega
 | n+1,hc,e,hd=>by
  unfold Zic
  by_cases hn:c=n
  ·subst hn
   have:=Zoq (f:=f) (h:=h) c fun i hi=>e i (by omega) (by omega)
   omega
  ·have:=Znd n (by omega) (fun i hi hne=>e i (by omega) hne) hd
   have:=e n (by omega) (fun h=>hn h.symm)
   omega
theorem ZpA {a b:Nat}{p:Nat->Prop} (dp:∀i,Decidable (p i)) {f h:Nat->Nat}:∀n,(∀i,i<n->(p i->f i<=a/\h i=1)/\(¬p i->f i<=b/\h i=0))->Zic f n<=Zic h n*a+(n-Zic h n)*b/\Zic h n<=n
 | 0,_=>by simp[Zic]
 | n+1,e=>by
  obtain⟨h1,h2⟩:=ZpA dp n fun i hi=>e i (by omega)
  obtain⟨e1,e2⟩:=e n (by omega)
  unfold Zic
  by_cases hp:p n
  ·obtain⟨q1,q2⟩:=e1 hp
   rw[q2]
   refine⟨?_,by omega⟩
   have:n+1-(Zic h n+1)=n-Zic h n:=by omega
   rw[this,Nat.succ_mul]
   omega
  ·obtain⟨q1,q2⟩:=e2 hp
   rw[q2,Nat.add_zero]
   refine⟨?_,by omega⟩
   have:n+1-Zic h n=(n-Zic h n)+1:=by omega
   rw[this,Nat.succ_mul]
   omega
def Zce (V:Zj) (c:Nat):Prop:=V.F c=0->0<V.a c->V.y c=V.B c/\(V.a c=2->V.x c=V.y c/\V.x c<=V.T c)/\(V.a c=3∨V.a c=4->V.B c+1<=V.T c)
noncomputable def BeG (V:Zj) (c:Nat):Int:=@ite _ (V.F c=0/\0<V.a c/\Zce V c) (Classical.propDecidable _) (V.B c+1) (V.B c)
theorem ZiF {V:Zj}{c:Nat} (hF:V.F c=0) (ha:0<V.a c) (h:Zce V c):BeG V c=V.B c+1:=by unfold BeG;rw[if_pos ⟨hF,ha,h⟩]
theorem ZcS {V:Zj}{c:Nat} (h:¬(V.F c=0/\0<V.a c/\Zce V c)):BeG V c=V.B c:=by unfold BeG;rw[if_neg h]
theorem ZLm (V:Zj) (c:Nat):V.B c<=BeG V c:=by unfold BeG;split<;>omega
def NE (V:Zj) (j:Nat):Prop:=V.T j<BeG V j
def Zwq (m:Nat) (V:Zj) (p:Nat):Prop:=p<m/\V.O p = -1/\V.F p=0/\((V.a p=1/\V.T p<=V.y p)∨(V.a p=2/\V.T p=V.x p))
noncomputable def wV (m:Nat) (V:Zj):Nat:=Zic (fun c=>@ite _ (Zce V c) (Classical.propDecidable _) 0 1) m
def rP (V:Zj) (p:Nat):Nat:=if V.a p=1 then 2 else 1
def dP (m:Nat) (last:Int) (p:Nat):Nat:=if last<(p:Int) then ((p:Int)-last-1).toNat else ((p:Int)+m-last-1).toNat
def Zdy (V:Zj) (c:Nat):Nat:=if V.a c=4 then 1 else (4-V.a c).toNat
def Zlz (V:Zj) (c:Nat):Nat:=if V.a c=0 then 0 else Zdy V c
def ZGP (m:Nat) (V:Zj) (c:Nat):Prop:=NE V (vic m c (V.F c))/\(V.a c=0∨(V.F c≠0/\V.x c=V.T (vic m c (V.F c))))
def OKD (m:Nat) (V:Zj) (c d:Nat):Prop:=(V.F c=0/\V.a c=4/\1<=d)∨(ZGP m V c/\Zdy V c<=d)∨(∃j,1<=j/\NE V (vic m c (V.F c+j))/\Zdy V c+4*j<=d)
def In (m:Nat) (V:Zj) (last:Int) (k:Nat):Prop:=
 (∃p,Zwq m V p/\rP V p*m+dP m last p<=k) ∨
 ((∀p,¬Zwq m V p)/\(∃j,j<m/\NE V j)/\∃D:Nat->Nat,(∀c,c<m->V.O c = -1->OKD m V c (D c))/\3*m+Zic (fun c=>if V.O c = -1 then D c else 0) m<=k) ∨
 ((∀p,¬Zwq m V p)/\(∀j,j<m->¬NE V j)/\Zic (fun c=>if V.O c = -1 then Zlz V c else 0) m<=k)
def uV (m:Nat) (V:Zj):Nat:=Zic (fun c=>if V.O c = -1/\¬(V.F c=0/\V.a c=4) then 1 else 0) m
def Claim (m:Nat) (V:Zj) (c:Nat):Prop:=(V.F c=0/\V.a c=1/\V.T c<V.y c)∨(V.F c=0/\V.a c=2/\V.T c=V.x c)∨(V.F c≠0/\V.a c=3/\V.T (vic m c (V.F c))=V.x c)
def ZfK (m:Nat) (V:Zj) (c:Nat):Prop:=c<m/\V.O c = -1/\((∃j,j<m/\V.T j<V.B j)∨V.a c≠0)
structure Gen (m:Nat) (V:Zj) (c:Nat):Prop where
 F:V.F c<m
 busy:V.O c ≠ -1->V.a c=0/\V.F c=0
 a0:0<=V.a c
 a4:V.a c<=4
 a3:V.F c≠0->V.a c<=3
theorem Pos.gen {m:Nat}{V:Zj}{c:Nat} (p:Pos m V c):Gen m V c:=⟨p.F,p.busy,p.a0,p.a4,p.a3⟩
theorem Pos.ownOK {m:Nat}{V:Zj}{c:Nat} (p:Pos m V c):Zce V c:=fun h1 h2=>⟨p.o1 h1 h2,p.o2 h1,fun h=>by have:=p.o3 h1 h;omega⟩
def ZHX (m:Nat) (V:Zj) (c:Nat):Prop:=(V.F c=0/\V.a c=1/\V.T c<V.y c)∨(V.F c=0/\V.a c=4)∨(V.F c≠0/\V.a c=3/\V.T (vic m c (V.F c))=V.x c)
inductive StepC (m:Nat) (V:Zj) (c:Nat):Zj->Prop
 | own0:V.F c=0->V.a c=0->StepC m V c ((V.setB c (V.B c-1)).tk c 1 (V.x c) (V.B c-1) (V.z c))
 | take:V.F c=0->V.a c=1->V.T c<V.y c->StepC m V c (V.got c (V.R c (V.y c)))
 | last:V.F c=0->V.a c=1->V.T c=V.y c->StepC m V c (V.tk c 2 (V.T c) (V.y c) (V.z c))
 | none1:V.F c=0->V.a c=1->V.y c<V.T c->StepC m V c (V.tk c 3 (V.T c) (V.y c) (V.z c))
 | win:V.F c=0->V.a c=2->V.T c=V.x c->StepC m V c ((V.setT c (V.T c+1)).tk c 4 (V.x c) (V.y c) (V.R c (V.y c)))
 | lose:V.F c=0->V.a c=2->V.T c≠V.x c->StepC m V c (V.tk c 3 (V.x c) (V.y c) (V.z c))
 | work:V.F c=0->V.a c=4->StepC m V c ((V.setB c (V.y c+1)).got c (V.z c))
 | back:V.F c=0->V.a c=3->StepC m V c ((V.setB c (V.y c+1)).fresh c (1 % m))
 | top:V.F c≠0->V.a c=0->StepC m V c (V.tk c 1 (V.T (vic m c (V.F c))) (V.y c) (V.z c))
 | bottom:V.F c≠0->V.a c=1->V.x c<V.B (vic m c (V.F c))->StepC m V c (V.tk c 2 (V.x c) (V.B (vic m c (V.F c))) (V.z c))
 | none2:V.F c≠0->V.a c=1->V.B (vic m c (V.F c))<=V.x c->StepC m V c (V.fresh c ((V.F c+1) % m))
 | read:V.F c≠0->V.a c=2->StepC m V c (V.tk c 3 (V.x c) (V.y c) (V.R (vic m c (V.F c)) (V.x c)))
 | steal:V.F c≠0->V.a c=3->V.T (vic m c (V.F c))=V.x c->StepC m V c ((V.setT (vic m c (V.F c)) (V.T (vic m c (V.F c))+1)).got c (V.z c))
 | lost:V.F c≠0->V.a c=3->V.T (vic m c (V.F c))≠V.x c->StepC m V c (V.fresh c ((V.F c+1) % m))
theorem Zzn {m:Nat}{V:Zj}{c:Nat} (p:Gen m V c):StepC m V c (Zbp m V c):=by
 have h0:=p.a0
 have h4:=p.a4
 have h3:=p.a3
 unfold Zbp
 split
 ·rename_i hF
  split
  ·rename_i h;exact .own0 hF h
  split
  ·rename_i h
   split
   ·rename_i q;exact .take hF h q
   split
   ·rename_i q;exact .last hF h q
   ·rename_i q1 q2;exact .none1 hF h (by omega)
  split
  ·rename_i h
   split
   ·rename_i q;exact .win hF h q
   ·rename_i q;exact .lose hF h q
  split
  ·rename_i h;exact .work hF h
  ·exact .back hF (by omega)
 ·rename_i hF
  have:=h3 hF
  split
  ·rename_i h;exact .top hF h
  split
  ·rename_i h
   split
   ·rename_i q;exact .bottom hF h q
   ·rename_i q;exact .none2 hF h (by omega)
  split
  ·rename_i h;exact .read hF h
  split
  ·rename_i q;exact .steal hF (by omega) q
  ·rename_i q;exact .lost hF (by omega) q
theorem Zf6 {V:Zj}{c:Nat} (h:V.F c≠0):Zce V c:=fun h1=>absurd h1 h
theorem ZjG {V:Zj}{c:Nat} (h:V.a c=0):Zce V c:=fun _ h2=>by omega
theorem ZAS {V W:Zj}{j:Nat} (hT:W.T j=V.T j) (hB:W.B j=V.B j) (hF:W.F j=V.F j) (ha:W.a j=V.a j) (hx:W.x j=V.x j) (hy:W.y j=V.y j):(Zce W j↔Zce V j)/\BeG W j=BeG V j:=by
 have h:Zce W j↔Zce V j:=by unfold Zce;rw[hT,hB,hF,ha,hx,hy]
 refine⟨h,?_⟩
 have e:(W.F j=0/\0<W.a j/\Zce W j)↔(V.F j=0/\0<V.a j/\Zce V j):=by rw[hF,ha,h]
 unfold BeG
 by_cases hh:V.F j=0/\0<V.a j/\Zce V j
 ·rw[if_pos hh,if_pos (e.2 hh),hB]
 ·rw[if_neg hh,if_neg (fun h=>hh (e.1 h)),hB]
theorem ZdE {m:Nat}{V W:Zj}{c:Nat} (s:StepC m V c W) {i:Nat} (hi:i≠c):W.O i=V.O i/\W.F i=V.F i/\W.a i=V.a i/\W.x i=V.x i/\W.y i=V.y i/\W.B i=V.B i:=by
 cases s<;>simp[Zj.tk,Zj.got,Zj.fresh,Zj.setB,Zj.setT,upd,hi]
theorem Zyt {m:Nat}{V W:Zj}{c:Nat} (s:StepC m V c W) (hn:¬Claim m V c):W.T=V.T/\((¬Zce V c/\Zce W c)∨((Zce W c↔Zce V c)/\BeG W c=BeG V c)):=by
 cases s with
 | own0 hF ha=>
  have h1:Zce V c:=ZjG ha
  have h2:Zce ((V.setB c (V.B c-1)).tk c 1 (V.x c) (V.B c-1) (V.z c)) c:=fun _ _=>by simp[Zj.tk,Zj.setB,upd]
  refine⟨rfl,.inr ⟨⟨fun _=>h1,fun _=>h2⟩,?_⟩⟩
  rw[ZcS (V:=V) (by omega),ZiF (by simpa [Zj.tk,Zj.setB] using hF) (by simp[Zj.tk,Zj.setB,upd]) h2]
  simp[Zj.tk,Zj.setB,upd]
 | take hF ha h=>exact absurd (.inl ⟨hF,ha,h⟩) hn
 | last hF ha h=>
  have e:Zce (V.tk c 2 (V.T c) (V.y c) (V.z c)) c↔Zce V c:=by
   unfold Zce
   simp[Zj.tk,upd,hF,ha,h]
  refine⟨rfl,.inr ⟨e,?_⟩⟩
  by_cases h1:Zce V c
  ·rw[ZiF hF (by omega) h1,ZiF (by simpa [Zj.tk] using hF) (by simp[Zj.tk,upd]) (e.2 h1)]
   rfl
  ·rw[ZcS (fun h=>h1 h.2.2),ZcS (fun h=>h1 (e.1 h.2.2))]
   rfl
 | none1 hF ha h=>
  have e:Zce (V.tk c 3 (V.T c) (V.y c) (V.z c)) c↔Zce V c:=by
   unfold Zce
   simp[Zj.tk,upd,hF,ha]
   omega
  refine⟨rfl,.inr ⟨e,?_⟩⟩
  by_cases h1:Zce V c
  ·rw[ZiF hF (by omega) h1,ZiF (by simpa [Zj.tk] using hF) (by simp[Zj.tk,upd]) (e.2 h1)]
   rfl
  ·rw[ZcS (fun h=>h1 h.2.2),ZcS (fun h=>h1 (e.1 h.2.2))]
   rfl
 | win hF ha h=>exact absurd (.inr (.inl ⟨hF,ha,h⟩)) hn
 | lose hF ha h=>
  refine⟨rfl,?_⟩
  by_cases h1:Zce V c
  ·right
   obtain⟨q1,q2,_⟩:=h1 hF (by omega)
   obtain⟨q2,q3⟩:=q2 ha
   have h2:Zce (V.tk c 3 (V.x c) (V.y c) (V.z c)) c:=fun _ _=>by
    simp[Zj.tk,upd]
    omega
   refine⟨⟨fun _=>h1,fun _=>h2⟩,?_⟩
   rw[ZiF hF (by omega) h1,ZiF (by simpa [Zj.tk] using hF) (by simp[Zj.tk,upd]) h2]
   rfl
  ·by_cases h2:Zce (V.tk c 3 (V.x c) (V.y c) (V.z c)) c
   ·exact .inl ⟨h1,h2⟩
   ·refine .inr ⟨⟨fun h=>absurd h h2,fun h=>absurd h h1⟩,?_⟩
    rw[ZcS (fun h=>h1 h.2.2),ZcS (fun h=>h2 h.2.2)]
    rfl
 | work hF ha=>
  refine⟨rfl,?_⟩
  have h2:Zce ((V.setB c (V.y c+1)).got c (V.z c)) c:=ZjG (by simp[Zj.got,Zj.setB,upd])
  by_cases h1:Zce V c
  ·refine .inr ⟨⟨fun _=>h1,fun _=>h2⟩,?_⟩
   have q1:=(h1 hF (by omega)).1
   rw[ZiF hF (by omega) h1,ZcS (by simp[Zj.got,Zj.setB,upd])]
   simp[Zj.got,Zj.setB,upd]
   omega
  ·exact .inl ⟨h1,h2⟩
 | back hF ha=>
  refine⟨rfl,?_⟩
  have h2:Zce ((V.setB c (V.y c+1)).fresh c (1 % m)) c:=ZjG (by simp[Zj.fresh,Zj.setB,upd])
  by_cases h1:Zce V c
  ·refine .inr ⟨⟨fun _=>h1,fun _=>h2⟩,?_⟩
   have q1:=(h1 hF (by omega)).1
   rw[ZiF hF (by omega) h1,ZcS (by simp[Zj.fresh,Zj.setB,upd])]
   simp[Zj.fresh,Zj.setB,upd]
   omega
  ·exact .inl ⟨h1,h2⟩
 | top hF ha=>
  refine⟨rfl,.inr ⟨⟨fun _=>Zf6 hF,fun _=>Zf6 (by simpa [Zj.tk] using hF)⟩,?_⟩⟩
  rw[ZcS (fun h=>hF h.1),ZcS (by simp[Zj.tk,hF])]
  rfl
 | bottom hF ha h=>
  refine⟨rfl,.inr ⟨⟨fun _=>Zf6 hF,fun _=>Zf6 (by simpa [Zj.tk] using hF)⟩,?_⟩⟩
  rw[ZcS (fun h=>hF h.1),ZcS (by simp[Zj.tk,hF])]
  rfl
 | none2 hF ha h=>
  refine⟨rfl,.inr ⟨⟨fun _=>Zf6 hF,fun _=>ZjG (by simp[Zj.fresh,upd])⟩,?_⟩⟩
  rw[ZcS (fun h=>hF h.1),ZcS (by simp[Zj.fresh,upd])]
  rfl
 | read hF ha=>
  refine⟨rfl,.inr ⟨⟨fun _=>Zf6 hF,fun _=>Zf6 (by simpa [Zj.tk] using hF)⟩,?_⟩⟩
  rw[ZcS (fun h=>hF h.1),ZcS (by simp[Zj.tk,hF])]
  rfl
 | steal hF ha h=>exact absurd (.inr (.inr ⟨hF,ha,h⟩)) hn
 | lost hF ha h=>
  refine⟨rfl,.inr ⟨⟨fun _=>Zf6 hF,fun _=>ZjG (by simp[Zj.fresh,upd])⟩,?_⟩⟩
  rw[ZcS (fun h=>hF h.1),ZcS (by simp[Zj.fresh,upd])]
  rfl
theorem ZFJ {m:Nat}{V W:Zj}{c:Nat} (hc:c<m) (hidle:V.O c = -1) (s:StepC m V c W) (h:Claim m V c) (hw:(V.F c=0/\V.a c=2)∨W.O c ≠ -1):uV m W+1<=uV m V:=by
 unfold uV
 refine Znd m hc (fun i hi hne=>?_) ?_
 ·obtain⟨h1,h2,h3,_⟩:=ZdE s hne
  simp only[h1,h2,h3]
 ·have hnot:¬(V.F c=0/\V.a c=4):=by
   rintro ⟨h1,h2⟩
   rcases h with⟨_,h3,_⟩ | ⟨_,h3,_⟩ | ⟨h3,_⟩<;>omega
  have e1:(if V.O c = -1/\¬(V.F c=0/\V.a c=4) then 1 else 0)=1:=if_pos ⟨hidle,hnot⟩
  rw[e1]
  rcases hw with⟨h1,h2⟩ | h1
  ·have:W.F c=0/\W.a c=4:=by
    cases s<;>simp_all [Zj.tk,Zj.setT,upd,Claim]
   rw[if_neg fun hh=>hh.2 this]
   exact Nat.le_refl _
  ·rw[if_neg fun hh=>h1 hh.1]
   exact Nat.le_refl _
theorem ZFA {m:Nat}{V W:Zj}{c:Nat} (hc:c<m) (hidle:V.O c = -1) (s:StepC m V c W) (hn:¬Claim m V c) (hz:V.F c=0->V.a c=4->W.O c ≠ -1):uV m W=uV m V:=by
 unfold uV
 refine Zoq m fun i hi=>?_
 by_cases e:i=c
 ·subst e
  cases s with
  | take hF ha h=>exact absurd (.inl ⟨hF,ha,h⟩) hn
  | win hF ha h=>exact absurd (.inr (.inl ⟨hF,ha,h⟩)) hn
  | steal hF ha h=>exact absurd (.inr (.inr ⟨hF,ha,h⟩)) hn
  | work hF ha=>
   have:=hz hF ha
   simp only[hF,ha,if_neg (fun h:_/\_=>this h.1)]
   simp
  | _=>simp_all [Zj.tk,Zj.got,Zj.fresh,Zj.setB,Zj.setT,upd]
 ·obtain⟨h1,h2,h3,_⟩:=ZdE s e
  simp only[h1,h2,h3]
theorem ZAE (m c f j:Nat):vic m c (f % m+j)=vic m c (f+j):=by
 unfold vic
 rw[show c+(f % m+j)=f % m+(c+j) by omega,Nat.mod_add_mod,show f+(c+j)=c+(f+j) by omega]
theorem ZBu {m:Nat}{V W:Zj}{i d:Nat} (hT:W.T=V.T) (hbe:∀j,BeG W j=BeG V j) (hF:W.F i=V.F i) (ha:W.a i=V.a i) (hx:W.x i=V.x i) (h:OKD m V i d):OKD m W i d:=by
 unfold OKD ZGP NE Zdy at *
 simp only[hT,hbe,hF,ha,hx]
 exact h
theorem ZFB {m:Nat}{V:Zj}{c d:Nat} (p:Gen m V c) (h:OKD m V c d):1<=d:=by
 have h0:=p.a0
 have h4:=p.a4
 rcases h with⟨_,_,h⟩ | ⟨_,h⟩ | ⟨j,h1,_,h⟩
 ·exact h
 ·unfold Zdy at h;split at h<;>omega
 ·omega
theorem Zq3 {m:Nat}{V W:Zj}{c d:Nat} (hT:W.T=V.T) (hbe:∀j,BeG W j=BeG V j) (hF:W.F c=(V.F c+1) % m) (ha:W.a c=0) (r:1<=Zdy V c) (h:∃j,1<=j/\NE V (vic m c (V.F c+j))/\Zdy V c+4*j<=d):OKD m W c (d-1):=by
 obtain⟨j,h1,h2,h3⟩:=h
 have ne:∀i,NE W i↔NE V i:=fun i=>by unfold NE;rw[hT,hbe]
 have r4:Zdy W c=4:=by unfold Zdy;rw[if_neg (by omega),ha];rfl
 by_cases e:j=1
 ·subst e
  refine .inr (.inl ⟨?_,by omega⟩)
  refine⟨(ne _).2 ?_,.inl ha⟩
  rw[hF]
  have:=ZAE m c (V.F c+1) 0
  rw[Nat.add_zero,Nat.add_zero] at this
  rw[this]
  exact h2
 ·refine .inr (.inr ⟨j-1,by omega,(ne _).2 ?_,by omega⟩)
  rw[hF,ZAE,show V.F c+1+(j-1)=V.F c+j by omega]
  exact h2
theorem In.step {m:Nat}{V:Zj}{c k:Nat}{last:Int} (G:∀i,i<m->Gen m V i) (hgot:ZHX m V c->(Zbp m V c).O c ≠ -1) (hw:ZfK m V c) (hnext:∀p,ZfK m V p->p≠c->dP m (c:Int) p<dP m last p) (h:In m V last k) :
  uV m (Zbp m V c)+1<=uV m V∨(uV m (Zbp m V c)=uV m V/\wV m (Zbp m V c)+1<=wV m V)∨(uV m (Zbp m V c)=uV m V/\wV m (Zbp m V c)=wV m V/\1<=k/\In m (Zbp m V c) (c:Int) (k-1)):=by
 obtain⟨hc,hidle,hwant⟩:=hw
 have p:=G c hc
 have s:=Zzn p
 generalize hWW:Zbp m V c=W at s hgot
 have hm:0<m:=by omega
 have hF':=p.F
 by_cases hcl:Claim m V c
 ·left
  have hO:(V.F c=0/\V.a c=2)∨W.O c ≠ -1:=by
   rcases hcl with⟨h1,h2,h3⟩ | ⟨h1,h2,h3⟩ | ⟨h1,h2,h3⟩
   ·exact .inr (hgot (.inl ⟨h1,h2,h3⟩))
   ·exact .inl ⟨h1,h2⟩
   ·exact .inr (hgot (.inr (.inr ⟨h1,h2,h3⟩)))
  exact ZFJ hc hidle s hcl hO
 ·right
  obtain⟨hT,hq⟩:=Zyt s hcl
  have hz:V.F c=0->V.a c=4->W.O c ≠ -1:=fun h1 h2=>hgot (.inr (.inl ⟨h1,h2⟩))
  have hu:=ZFA hc hidle s hcl hz
  have oth:∀i,i≠c->(Zce W i↔Zce V i)/\BeG W i=BeG V i:=fun i hi=>by
   obtain⟨_,h2,h3,h4,h5,h6⟩:=ZdE s hi
   exact ZAS (by rw[hT]) h6 h2 h3 h4 h5
  rcases hq with⟨q1,q2⟩ | ⟨q1,q2⟩
  ·left
   refine⟨hu,?_⟩
   unfold wV
   refine Znd m hc (fun i hi hne=>?_) ?_
   ·by_cases h:Zce V i
    ·rw[if_pos h,if_pos ((oth i hne).1.2 h)]
    ·rw[if_neg h,if_neg (fun h2=>h ((oth i hne).1.1 h2))]
   ·rw[if_pos q2,if_neg q1]
    exact Nat.le_refl _
  right
  have hbe:∀j,BeG W j=BeG V j:=fun j=>by
   by_cases e:j=c
   ·rw[e];exact q2
   ·exact(oth j e).2
  have hwv:wV m W=wV m V:=by
   unfold wV
   refine Zoq m fun i hi=>?_
   by_cases e:i=c
   ·subst e
    by_cases h:Zce V i
    ·rw[if_pos h,if_pos (q1.2 h)]
    ·rw[if_neg h,if_neg (fun h2=>h (q1.1 h2))]
   ·by_cases h:Zce V i
    ·rw[if_pos h,if_pos ((oth i e).1.2 h)]
    ·rw[if_neg h,if_neg (fun h2=>h ((oth i e).1.1 h2))]
  have ne:∀i,NE W i↔NE V i:=fun i=>by unfold NE;rw[hT,hbe]
  have pend:∀q,q≠c->(Zwq m W q↔Zwq m V q):=fun q hq=>by
   obtain⟨h1,h2,h3,h4,h5,_⟩:=ZdE s hq
   unfold Zwq
   rw[h1,h2,h3,h4,h5,hT]
  refine⟨hu,hwv,?_⟩
  have dcc:dP m (c:Int) c=m-1:=by unfold dP;rw[if_neg (by omega)];omega
  rcases h with⟨q,hq,hk⟩ | ⟨np,hne,D,hD,hk⟩ | ⟨np,nn,hk⟩
  ·
   by_cases e:q=c
   ·subst e
    obtain⟨_,_,h1,h2⟩:=hq
    rcases h2 with⟨h2,h3⟩ | ⟨h2,h3⟩
    ·have hTy:V.T q=V.y q:=by
      by_cases hlt:V.T q<V.y q
      ·exact absurd (.inl ⟨h1,h2,hlt⟩) hcl
      ·omega
     have r2:rP V q=2:=by unfold rP;rw[if_pos h2]
     rw[r2] at hk
     have hW:W.O q = -1/\W.F q=0/\W.a q=2/\W.T q=W.x q:=by cases s<;>simp_all [Zj.tk,Zj.got,Zj.fresh,Zj.setB,Zj.setT,upd]<;>omega
     refine⟨by omega,.inl ⟨q,⟨hc,hW.1,hW.2.1,.inr ⟨hW.2.2.1,hW.2.2.2⟩⟩,?_⟩⟩
     have:rP W q=1:=by unfold rP;rw[if_neg (by omega)]
     rw[this,dcc]
     omega
    ·exact absurd (.inr (.inl ⟨h1,h2,h3⟩)) hcl
   ·have hd:=hnext q ⟨hq.1,hq.2.1,.inr (by rcases hq.2.2.2 with h | h<;>omega)⟩ e
    have hr:rP W q=rP V q:=by unfold rP;rw[(ZdE s e).2.2.1]
    refine⟨by omega,.inl ⟨q,(pend q e).2 hq,?_⟩⟩
    rw[hr]
    omega
  ·
   by_cases hpc:Zwq m W c
   ·refine⟨by omega,.inl ⟨c,hpc,?_⟩⟩
    have:rP W c<=2:=by unfold rP;split<;>omega
    have h2:rP W c*m<=2*m:=Nat.mul_le_mul_right m this
    rw[dcc]
    omega
   ·have okc:=hD c hc hidle
    have d1:=ZFB p okc
    have okW:W.O c = -1->OKD m W c (D c-1):=fun hO=>by
     have v0:V.F c=0->vic m c (V.F c)=c:=fun h=>by rw[h];exact Zxz hc
     cases s with
     | own0 hF ha=>
      have nc:¬NE V c:=fun hh=>hpc ⟨hc,hidle,by simpa [Zj.tk,Zj.setB] using hF,.inl (by
       unfold NE at hh
       rw[ZcS (by omega)] at hh
       simp[Zj.tk,Zj.setB,upd]
       omega)⟩
      rcases okc with⟨_,h4,_⟩ | ⟨⟨hg,_⟩,_⟩ | ⟨j,h1,h2,h3⟩
      ·omega
      ·rw[v0 hF] at hg;exact absurd hg nc
      ·refine .inr (.inr ⟨j,h1,(ne _).2 h2,?_⟩)
       have e1:Zdy V c=4:=by unfold Zdy;rw[if_neg (by omega),ha];rfl
       have e2:Zdy ((V.setB c (V.B c-1)).tk c 1 (V.x c) (V.B c-1) (V.z c)) c=3:=by unfold Zdy;simp[Zj.tk,upd]
       omega
     | take hF ha hlt=>exact absurd (.inl ⟨hF,ha,hlt⟩) hcl
     | last hF ha heq=>
      exact absurd ⟨hc,hidle,hF,.inl ⟨ha,by omega⟩⟩ (np c)
     | none1 hF ha hlt=>
      rcases okc with⟨_,h4,_⟩ | ⟨⟨_,hg⟩,_⟩ | ⟨j,h1,h2,h3⟩
      ·omega
      ·rcases hg with hg | ⟨hg,_⟩
       ·omega
       ·exact absurd hF hg
      ·refine .inr (.inr ⟨j,h1,(ne _).2 h2,?_⟩)
       have e1:Zdy V c=3:=by unfold Zdy;rw[if_neg (by omega),ha];rfl
       have e2:Zdy (V.tk c 3 (V.T c) (V.y c) (V.z c)) c=1:=by unfold Zdy;simp[Zj.tk,upd]
       omega
     | win hF ha heq=>exact absurd (.inr (.inl ⟨hF,ha,heq⟩)) hcl
     | lose hF ha hne2=>
      rcases okc with⟨_,h4,_⟩ | ⟨⟨_,hg⟩,_⟩ | ⟨j,h1,h2,h3⟩
      ·omega
      ·rcases hg with hg | ⟨hg,_⟩
       ·omega
       ·exact absurd hF hg
      ·refine .inr (.inr ⟨j,h1,(ne _).2 h2,?_⟩)
       have e1:Zdy V c=2:=by unfold Zdy;rw[if_neg (by omega),ha];rfl
       have e2:Zdy (V.tk c 3 (V.x c) (V.y c) (V.z c)) c=1:=by unfold Zdy;simp[Zj.tk,upd]
       omega
     | work hF ha=>
      exact absurd hO (hz hF ha)
     | back hF ha=>
      rcases okc with⟨_,h4,_⟩ | ⟨⟨_,hg⟩,_⟩ | hj
      ·omega
      ·rcases hg with hg | ⟨hg,_⟩
       ·omega
       ·exact absurd hF hg
      ·exact Zq3 hT hbe (by simp[Zj.fresh,Zj.setB,upd,hF]) (by simp[Zj.fresh,Zj.setB,upd]) (by unfold Zdy;split<;>omega) hj
     | top hF ha=>
      have e1:Zdy V c=4:=by unfold Zdy;rw[if_neg (by omega),ha];rfl
      have e2:Zdy (V.tk c 1 (V.T (vic m c (V.F c))) (V.y c) (V.z c)) c=3:=by unfold Zdy;simp[Zj.tk,upd]
      rcases okc with⟨h4,_,_⟩ | ⟨⟨hg,_⟩,hr⟩ | ⟨j,h1,h2,h3⟩
      ·exact absurd h4 hF
      ·exact .inr (.inl ⟨⟨(ne _).2 hg,.inr ⟨hF,by simp[Zj.tk,upd]⟩⟩,by omega⟩)
      ·exact .inr (.inr ⟨j,h1,(ne _).2 h2,by omega⟩)
     | bottom hF ha hlt=>
      have e1:Zdy V c=3:=by unfold Zdy;rw[if_neg (by omega),ha];rfl
      have e2:Zdy (V.tk c 2 (V.x c) (V.B (vic m c (V.F c))) (V.z c)) c=2:=by unfold Zdy;simp[Zj.tk,upd]
      rcases okc with⟨h4,_,_⟩ | ⟨⟨hg,hx⟩,hr⟩ | ⟨j,h1,h2,h3⟩
      ·exact absurd h4 hF
      ·refine .inr (.inl ⟨⟨(ne _).2 hg,.inr ⟨hF,?_⟩⟩,by omega⟩)
       rcases hx with hx | ⟨_,hx⟩
       ·omega
       ·simpa [Zj.tk,upd] using hx
      ·exact .inr (.inr ⟨j,h1,(ne _).2 h2,by omega⟩)
     | none2 hF ha hle=>
      rcases okc with⟨h4,_,_⟩ | ⟨⟨hg,hx⟩,hr⟩ | hj
      ·exact absurd h4 hF
      ·exfalso
       rcases hx with hx | ⟨_,hx⟩
       ·omega
       ·have hv:=ZsS hm c (V.F c)
        have pv:=G _ hv
        generalize vic m c (V.F c)=v at *
        unfold NE at hg
        by_cases ho:V.F v=0/\0<V.a v/\Zce V v
        ·rw[ZiF ho.1 ho.2.1 ho.2.2] at hg
         obtain⟨q1,q2,q3⟩:=ho.2.2 ho.1 ho.2.1
         have hi:V.O v = -1:=Classical.byContradiction fun hi=>by have:=(pv.busy hi).1;omega
         have a4:=pv.a4
         by_cases h1:V.a v=1
         ·exact np v ⟨hv,hi,ho.1,.inl ⟨h1,by omega⟩⟩
         ·by_cases h2:V.a v=2
          ·have:=q2 h2
           exact np v ⟨hv,hi,ho.1,.inr ⟨h2,by omega⟩⟩
          ·have:=q3 (by omega)
           omega
        ·rw[ZcS ho] at hg
         omega
      ·exact Zq3 hT hbe (by simp[Zj.fresh,upd]) (by simp[Zj.fresh,upd]) (by unfold Zdy;split<;>omega) hj
     | read hF ha=>
      have e1:Zdy V c=2:=by unfold Zdy;rw[if_neg (by omega),ha];rfl
      have e2:Zdy (V.tk c 3 (V.x c) (V.y c) (V.R (vic m c (V.F c)) (V.x c))) c=1:=by unfold Zdy;simp[Zj.tk,upd]
      rcases okc with⟨h4,_,_⟩ | ⟨⟨hg,hx⟩,hr⟩ | ⟨j,h1,h2,h3⟩
      ·exact absurd h4 hF
      ·refine .inr (.inl ⟨⟨(ne _).2 hg,.inr ⟨hF,?_⟩⟩,by omega⟩)
       rcases hx with hx | ⟨_,hx⟩
       ·omega
       ·simpa [Zj.tk,upd] using hx
      ·exact .inr (.inr ⟨j,h1,(ne _).2 h2,by omega⟩)
     | steal hF ha heq=>exact absurd (.inr (.inr ⟨hF,ha,heq⟩)) hcl
     | lost hF ha hne2=>
      rcases okc with⟨h4,_,_⟩ | ⟨⟨hg,hx⟩,hr⟩ | hj
      ·exact absurd h4 hF
      ·exfalso
       rcases hx with hx | ⟨_,hx⟩
       ·omega
       ·exact hne2 hx.symm
      ·exact Zq3 hT hbe (by simp[Zj.fresh,upd]) (by simp[Zj.fresh,upd]) (by unfold Zdy;split<;>omega) hj
    have dec:=Znd (f:=fun i=>if W.O i = -1 then upd D c (D c-1) i else 0) (h:=fun i=>if V.O i = -1 then D i else 0) (c:=c) m hc (fun i hi hne2=>by
     simp only[(ZdE s hne2).1,ZwH D _ hne2]) (by
     simp only[ZaE]
     rw[if_pos hidle]
     split<;>omega)
    refine⟨by omega,.inr (.inl ⟨fun q hq=>?_,?_,upd D c (D c-1),fun i hi ho=>?_,by omega⟩)⟩
    ·by_cases e:q=c
     ·rw[e] at hq;exact hpc hq
     ·exact np q ((pend q e).1 hq)
    ·obtain⟨j,h1,h2⟩:=hne
     exact⟨j,h1,(ne j).2 h2⟩
    ·by_cases e:i=c
     ·rw[e,ZaE]
      rw[e] at ho
      exact okW ho
     ·obtain⟨h1,h2,h3,h4,_⟩:=ZdE s e
      rw[ZwH D _ e]
      rw[h1] at ho
      exact ZBu hT hbe h2 h3 h4 (hD i hi ho)
  ·
   have ha0:V.a c≠0:=by
    rcases hwant with⟨j,h1,h2⟩ | h
    ·exfalso
     have:=ZLm V j
     exact nn j h1 (by unfold NE;omega)
    ·exact h
   have dec:=Znd (f:=fun i=>if W.O i = -1 then Zlz W i else 0) (h:=fun i=>if V.O i = -1 then Zlz V i else 0) (c:=c) m hc (fun i hi hne2=>by
    obtain⟨h1,h2,h3,_⟩:=ZdE s hne2
    simp only[Zlz,Zdy,h1,h3]) (by
    show(if W.O c = -1 then Zlz W c else 0)+1<=(if V.O c = -1 then Zlz V c else 0)
    have e1:(if V.O c = -1 then Zlz V c else 0)=Zlz V c:=if_pos hidle
    rw[e1]
    cases s with
    | own0 hF ha=>exact absurd ha ha0
    | take hF ha hlt=>exact absurd (.inl ⟨hF,ha,hlt⟩) hcl
    | last hF ha heq=>
     exact absurd ⟨hc,hidle,hF,.inl ⟨ha,by omega⟩⟩ (np c)
    | none1 hF ha hlt=>simp[Zlz,Zdy,Zj.tk,upd,ha,hidle]
    | win hF ha heq=>exact absurd (.inr (.inl ⟨hF,ha,heq⟩)) hcl
    | lose hF ha hne2=>simp[Zlz,Zdy,Zj.tk,upd,ha,hidle]
    | work hF ha=>
     rw[if_neg (hz hF ha)]
     simp[Zlz,Zdy,ha]
    | back hF ha=>simp[Zlz,Zdy,Zj.fresh,Zj.setB,upd,ha,hidle]
    | top hF ha=>exact absurd ha ha0
    | bottom hF ha hlt=>simp[Zlz,Zdy,Zj.tk,upd,ha,hidle]
    | none2 hF ha hle=>simp[Zlz,Zdy,Zj.fresh,upd,ha,hidle]
    | read hF ha=>simp[Zlz,Zdy,Zj.tk,upd,ha,hidle]
    | steal hF ha heq=>exact absurd (.inr (.inr ⟨hF,ha,heq⟩)) hcl
    | lost hF ha hne2=>simp[Zlz,Zdy,Zj.fresh,upd,ha,hidle])
   refine⟨by omega,.inr (.inr ⟨fun q hq=>?_,fun j hj=>by rw[ne];exact nn j hj,by omega⟩)⟩
   by_cases e:q=c
   ·subst e
    obtain⟨_,_,h1,h2⟩:=hq
    cases s with
    | own0 hF ha=>exact ha0 ha
    | take hF ha hlt=>exact hcl (.inl ⟨hF,ha,hlt⟩)
    | last hF ha heq=>exact np q ⟨hc,hidle,hF,.inl ⟨ha,by omega⟩⟩
    | win hF ha heq=>exact hcl (.inr (.inl ⟨hF,ha,heq⟩))
    | steal hF ha heq=>exact hcl (.inr (.inr ⟨hF,ha,heq⟩))
    | _=>simp_all [Zj.tk,Zj.got,Zj.fresh,Zj.setB,Zj.setT,upd]
   ·exact np q ((pend q e).1 hq)
def mi (m u:Nat):Nat:=3*m+u*(4*m+4)+(m-u)
def Gm (m:Nat):Nat->Nat
  | 0=>0
  | u+1=>Gm m u+mi m u+1
theorem Zz1 (m:Nat):∀{a b:Nat},a<=b->Gm m a<=Gm m b
  | a, 0, h => by have : a = 0 := by omega
                  subst this;exact Nat.le_refl _
  | a,b+1,h=>by
    by_cases e:a=b+1
    · subst e;exact Nat.le_refl _
    · have:=Zz1 m (show a<=b by omega)
      show _<=Gm m b+mi m b+1
      omega
theorem ZvS {m a b:Nat} (h:a<=b) (hb:b<=m):mi m a<=mi m b:=by
  unfold mi
  obtain⟨d,rfl⟩:∃d,b=a+d:=⟨b-a,by omega⟩
  rw[Nat.add_mul]
  have:d<=d*(4*m+4):=Nat.le_mul_of_pos_right d (by omega)
  omega
theorem ZHE (m:Nat) (V:Zj):uV m V<=m:=(ZpA (a:=0) (b:=0) (p:=fun c=>V.O c = -1/\¬(V.F c=0/\V.a c=4)) (fun _=>Classical.propDecidable _) (f:=fun _=>0) (h:=fun c=>if V.O c = -1/\¬(V.F c=0/\V.a c=4) then 1 else 0) m fun i _=>⟨fun h=>⟨Nat.le_refl _,if_pos h⟩,fun h=>⟨Nat.le_refl _,if_neg h⟩⟩).2
theorem Zxk (m:Nat) (last:Int) (p:Nat):(last<(p:Int)/\dP m last p=((p:Int)-last-1).toNat)∨((p:Int)<=last/\dP m last p=((p:Int)+m-last-1).toNat):=by
  unfold dP
  by_cases h:last<(p:Int)
  · rw[if_pos h];exact .inl ⟨h,rfl⟩
  · rw[if_neg h];exact .inr ⟨by omega,rfl⟩
theorem ZJM {m:Nat}{last:Int} (hl : -1<=last/\last<m) {p:Nat} (hp:p<m):dP m last p+1<=m:=by
  unfold dP
  split<;>omega
theorem ZGi {m c f j:Nat} (hc:c<m) (hf:f<m) (hj:j<m):∃i,1<=i/\i<=m/\vic m c (f+i)=j:=by
  have h0:(c+f) % m<m:=Nat.mod_lt _ (by omega)
  refine⟨if j<=(c+f) % m then j+m-(c+f) % m else j-(c+f) % m,?_,?_,?_⟩
  · split<;>omega
  · split<;>omega
  · unfold vic
    rw[<- Nat.add_assoc,Nat.add_mod]
    split
    · rename_i h
      by_cases e:j=(c+f) % m
      · rw[show j+m-(c+f) % m=m by omega,Nat.mod_self,Nat.add_zero,Nat.mod_mod]
        exact e.symm
      · rw[Nat.mod_eq_of_lt (show j+m-(c+f) % m<m by omega),show(c+f) % m+(j+m-(c+f) % m)=j+m by omega,Nat.add_mod_right,Nat.mod_eq_of_lt hj]
    · rename_i h
      rw[Nat.mod_eq_of_lt (show j-(c+f) % m<m by omega),show(c+f) % m+(j-(c+f) % m)=j by omega,Nat.mod_eq_of_lt hj]
theorem In.start {m:Nat}{V:Zj}{last:Int} (G:∀i,i<m->Gen m V i) (hl : -1<=last/\last<m):In m V last (mi m (uV m V)):=by
  have hu:=ZHE m V
  by_cases hp:∃p,Zwq m V p
  · obtain⟨p,hp⟩:=hp
    refine .inl ⟨p,hp,?_⟩
    have h1:=ZJM hl hp.1
    have h2:rP V p<=2:=by unfold rP;split<;>omega
    have h3:rP V p*m<=2*m:=Nat.mul_le_mul_right m h2
    unfold mi
    omega
  · have np:∀p,¬Zwq m V p:=fun p h=>hp ⟨p,h⟩
    by_cases hn:∃j,j<m/\NE V j
    · obtain⟨j,hj,hne⟩:=hn
      refine .inr (.inl ⟨np,⟨j,hj,hne⟩,fun c=>if V.F c=0/\V.a c=4 then 1 else 4*m+4,fun c hc ho=>?_,?_⟩)
      · have p:=G c hc
        by_cases h4:V.F c=0/\V.a c=4
        · simp only[if_pos h4]
          exact .inl ⟨h4.1,h4.2,Nat.le_refl _⟩
        · simp only[if_neg h4]
          obtain⟨i,h1,h2,h3⟩:=ZGi hc p.F hj
          refine .inr (.inr ⟨i,h1,by rw[h3];exact hne,?_⟩)
          have:Zdy V c<=4:=by
            have:=p.a0
            unfold Zdy
            split<;>omega
          omega
      · have:=(ZpA (a:=4*m+4) (b:=1) (p:=fun i=>V.O i = -1/\¬(V.F i=0/\V.a i=4)) (fun _=>Classical.propDecidable _) (f:=fun c=>if V.O c = -1 then (if V.F c=0/\V.a c=4 then 1 else 4*m+4) else 0) (h:=fun c=>if V.O c = -1/\¬(V.F c=0/\V.a c=4) then 1 else 0) m fun i _=>by
          constructor
          · rintro ⟨h1,h2⟩
            simp only[if_pos h1,if_neg h2,h1,h2,not_false_iff,and_self,if_true]
            exact⟨Nat.le_refl _,trivial⟩
          · intro h
            simp only[if_neg h]
            refine⟨?_,trivial⟩
            by_cases h1:V.O i = -1
            · have h2:V.F i=0/\V.a i=4:=Classical.byContradiction fun h2=>h ⟨h1,h2⟩
              simp only[if_pos h1,if_pos h2]
              exact Nat.le_refl _
            · simp only[if_neg h1]
              omega).1
        have this:Zic (fun c=>if V.O c = -1 then (if V.F c=0/\V.a c=4 then 1 else 4*m+4) else 0) m<=uV m V*(4*m+4)+(m-uV m V)*1:=this
        show 3*m+Zic (fun c=>if V.O c = -1 then (if V.F c=0/\V.a c=4 then 1 else 4*m+4) else 0) m<=mi m (uV m V)
        unfold mi
        omega
    · refine .inr (.inr ⟨np,fun j hj hne=>hn ⟨j,hj,hne⟩,?_⟩)
      have:=(ZpA (a:=4) (b:=1) (p:=fun i=>V.O i = -1/\¬(V.F i=0/\V.a i=4)) (fun _=>Classical.propDecidable _) (f:=fun c=>if V.O c = -1 then Zlz V c else 0) (h:=fun c=>if V.O c = -1/\¬(V.F c=0/\V.a c=4) then 1 else 0) m fun i hi=>by
        have p:=G i hi
        have h0:=p.a0
        constructor
        · rintro ⟨h1,h2⟩
          simp only[if_pos h1,h1,h2,not_false_iff,and_self,if_true]
          refine⟨?_,trivial⟩
          unfold Zlz Zdy
          split
          · omega
          · split<;>omega
        · intro h
          simp only[if_neg h]
          refine⟨?_,trivial⟩
          by_cases h1:V.O i = -1
          · have h2:V.F i=0/\V.a i=4:=Classical.byContradiction fun h2=>h ⟨h1,h2⟩
            simp only[if_pos h1]
            unfold Zlz Zdy
            rw[if_neg (by omega),if_pos h2.2]
            exact Nat.le_refl _
          · simp only[if_neg h1]
            omega).1
      have h4:uV m V*4<=uV m V*(4*m+4):=Nat.mul_le_mul (Nat.le_refl _) (by omega)
      have this:Zic (fun c=>if V.O c = -1 then Zlz V c else 0) m<=uV m V*4+(m-uV m V)*1:=this
      unfold mi
      omega
def Next (m:Nat) (V:Zj) (last:Int) (c:Nat):Prop:=ZfK m V c/\((last<(c:Int)/\∀p,ZfK m V p->last<(p:Int)->c<=p)∨((∀p,ZfK m V p->(p:Int)<=last)/\∀p,ZfK m V p->c<=p))
theorem Next.near {m:Nat}{V:Zj}{last:Int}{c:Nat} (h:Next m V last c) (hl : -1<=last/\last<m):∀p,ZfK m V p->p≠c->dP m (c:Int) p<dP m last p:=fun p hp hne=>by
  obtain⟨hw,h⟩:=h
  have hc:=hw.1
  have hpm:=hp.1
  have e1:=Zxk m (c:Int) p
  have e2:=Zxk m last p
  rcases h with⟨h1,h2⟩ | ⟨h1,h2⟩
  · by_cases h3:last<(p:Int)
    · have:=h2 p hp h3
      rcases e1 with e1 | e1<;>rcases e2 with e2 | e2<;>omega
    · rcases e1 with e1 | e1<;>rcases e2 with e2 | e2<;>omega
  · have:=h1 p hp
    have:=h2 p hp
    rcases e1 with e1 | e1<;>rcases e2 with e2 | e2<;>omega
theorem Inv.gen {m:Nat}{base:Int->Prop}{V:Zj} (I:Inv m base V):∀i,i<m->Gen m V i:=fun i hi=>(I.pos i hi).gen
theorem Zu2:∀{f:Nat->Nat} (n:Nat),(∀i,i<n->f i=0)->Zic f n=0
  | _,0,_=>rfl
  | f,n+1,h=>by
    unfold Zic
    rw[Zu2 n fun i hi=>h i (by omega),h n (by omega)]
theorem Inv.w {m:Nat}{base:Int->Prop}{V:Zj} (I:Inv m base V):wV m V=0:=by
  unfold wV
  exact Zu2 m fun i hi=>if_pos (I.pos i hi).ownOK
theorem Inv.gets {m:Nat}{base:Int->Prop}{V:Zj} (I:Inv m base V) (hb:∀n,base n->n ≠ -1) {c:Nat} (hc:c<m) (hidle:V.O c = -1) (h:ZHX m V c):(Zbp m V c).O c ≠ -1:=by
  have p:=I.pos c hc
  have hm:0<m:=by omega
  rcases h with⟨h1,h2,h3⟩ | ⟨h1,h2⟩ | ⟨h1,h2,h3⟩
  · have hy:=p.o1 h1 (by omega)
    have it:Item m V c (V.y c):=⟨hc,by unfold Zj.lo;rw[if_neg (by omega)];omega,by unfold Zj.be;rw[if_pos ⟨h1,by omega⟩];omega⟩
    have:=hb _ (I.items.rdy c _ it).1
    simpa [Zbp,h1,h2,h3,Zj.got,upd] using this
  · have hB:=p.o3 h1 (.inr h2)
    have it:Item m V c (V.B c):=⟨hc,by unfold Zj.lo;rw[if_pos ⟨h1,h2⟩];omega,by unfold Zj.be;rw[if_pos ⟨h1,by omega⟩];omega⟩
    have:=hb _ (I.items.rdy c _ it).1
    rw[<- p.o4 h1 h2] at this
    simpa [Zbp,h1,h2,Zj.got,Zj.setB,upd] using this
  · have it:Item m V (vic m c (V.F c)) (V.x c):=⟨ZsS hm _ _,by unfold Zj.lo;split<;>omega,by
      have:=p.t2 h1 (by omega) h3.symm
      omega⟩
    have:=hb _ (I.items.rdy _ _ it).1
    rw[<- p.t3 h1 h2] at this
    simpa [Zbp,h1,h2,h3,Zj.got,Zj.setT,upd] using this
theorem ZFk {m L:Nat}{base:Int->Prop} (hb:∀n,base n->n ≠ -1) (ch:Zj->Int->Nat->Nat)
    (hch:∀V last s,Inv m base V->(∃c,ZfK m V c)->ZfK m V (ch V last s)/\(L<=s->Next m V last (ch V last s)))
    (Q:Nat->Nat->Zj->Int->Prop) (mono:∀n k s V l,n<=k->Q n s V l->Q k s V l)
    (h0:∀n s V l,Inv m base V->(∀c,¬ZfK m V c)->Q n s V l)
    (h1:∀n s V l,Inv m base V->ZfK m V (ch V l s)->Q n (s+1) (Zbp m V (ch V l s)) (ch V l s:Int)->Q (n+1) s V l) :
    ∀s V l,Inv m base V->(-1<=l/\l<(m:Int))->Q ((L-s)+(Gm m m+mi m m)) s V l:=by
  have one:∀{s V l c k},L<=s->Inv m base V->(-1<=l/\l<(m:Int))->ZfK m V c->Next m V l c->In m V l k->uV m (Zbp m V c)+1<=uV m V∨(uV m (Zbp m V c)=uV m V/\1<=k/\In m (Zbp m V c) (c:Int) (k-1)):=fun {s V l c k} hs I hl hw nx hin=>by
    have I':=(I.step hb hw.1 hw.2.1).1
    rcases In.step I.gen (I.gets hb hw.1 hw.2.1) hw (nx.near hl) hin with h | ⟨_,h⟩ | ⟨h,_,h2,h3⟩
    · exact .inl h
    · rw[I.w] at h;omega
    · exact .inr ⟨h,h2,h3⟩
  have late:∀U k s V l,L<=s->Inv m base V->(-1<=l/\l<(m:Int))->uV m V<=U->In m V l k->Q (Gm m U+k) s V l:=by
    intro U
    induction U with
    | zero=>
      intro k
      induction k with
      | zero=>
        intro s V l hs I hl hu hin
        by_cases hw:∃c,ZfK m V c
        · obtain⟨w1,w2⟩:=hch V l s I hw
          rcases one hs I hl w1 (w2 hs) hin with h | ⟨_,h,_⟩<;>omega
        · exact h0 _ s V l I fun c hc=>hw ⟨c,hc⟩
      | succ k ih=>
        intro s V l hs I hl hu hin
        by_cases hw:∃c,ZfK m V c
        · obtain⟨w1,w2⟩:=hch V l s I hw
          rcases one hs I hl w1 (w2 hs) hin with h | ⟨h,_,h2⟩
          · omega
          · have:=w1.1
            exact h1 _ s V l I w1 (ih (s+1) _ _ (by omega) (I.step hb w1.1 w1.2.1).1 (by omega) (by omega) h2)
        · exact h0 _ s V l I fun c hc=>hw ⟨c,hc⟩
    | succ U ihU=>
      intro k
      have down:∀s V l c,L<=s->Inv m base V->ZfK m V c->ch V l s=c->uV m (Zbp m V c)<=U->∀k,Q (Gm m (U+1)+k) s V l:=fun s V l c hs I hw hcc hu k=>by
        subst hcc
        have I':=(I.step hb hw.1 hw.2.1).1
        have hc:=hw.1
        have hl' : -1<=((ch V l s:Nat):Int)/\((ch V l s:Nat):Int)<(m:Int):=by omega
        have q:=ihU _ (s+1) _ _ (by omega) I' hl' hu (In.start I'.gen hl')
        refine mono (Gm m U+mi m (uV m (Zbp m V (ch V l s)))+1) _ s V l ?_ (h1 _ s V l I hw q)
        have hum:=ZHE m (Zbp m V (ch V l s))
        have e:Gm m (U+1)=Gm m U+mi m U+1:=rfl
        by_cases hU:U<=m
        · have:=ZvS (m:=m) hu hU
          omega
        · have h5:=ZvS (m:=m) hum (Nat.le_refl m)
          have h6:mi m m<=mi m U:=by
            unfold mi
            have:m*(4*m+4)<=U*(4*m+4):=Nat.mul_le_mul_right _ (by omega)
            omega
          omega
      induction k with
      | zero=>
        intro s V l hs I hl hu hin
        by_cases hw:∃c,ZfK m V c
        · obtain⟨w1,w2⟩:=hch V l s I hw
          rcases one hs I hl w1 (w2 hs) hin with h | ⟨_,h,_⟩
          · exact down s V l _ hs I w1 rfl (by omega) 0
          · omega
        · exact h0 _ s V l I fun c hc=>hw ⟨c,hc⟩
      | succ k ih=>
        intro s V l hs I hl hu hin
        by_cases hw:∃c,ZfK m V c
        · obtain⟨w1,w2⟩:=hch V l s I hw
          rcases one hs I hl w1 (w2 hs) hin with h | ⟨h,_,h2⟩
          · exact down s V l _ hs I w1 rfl (by omega) (k+1)
          · have:=w1.1
            exact h1 _ s V l I w1 (ih (s+1) _ _ (by omega) (I.step hb w1.1 w1.2.1).1 (by omega) (by omega) h2)
        · exact h0 _ s V l I fun c hc=>hw ⟨c,hc⟩
  intro s
  generalize hd:L-s=d
  induction d generalizing s with
  | zero=>
    intro V l I hl
    rw[Nat.zero_add]
    have hu:=ZHE m V
    refine mono (Gm m (uV m V)+mi m (uV m V)) _ s V l ?_ (late _ _ s V l (by omega) I hl (Nat.le_refl _) (In.start I.gen hl))
    have:=Zz1 m hu
    have:=ZvS (m:=m) hu (Nat.le_refl m)
    omega
  | succ d ih=>
    intro V l I hl
    by_cases hw:∃c,ZfK m V c
    · obtain⟨w1,_⟩:=hch V l s I hw
      have:=w1.1
      have q:=ih (s+1) (by omega) (Zbp m V (ch V l s)) _ (I.step hb w1.1 w1.2.1).1 (show -1<=((ch V l s:Nat):Int)/\((ch V l s:Nat):Int)<(m:Int) by omega)
      refine mono (d+(Gm m m+mi m m)+1) _ s V l (by omega) (h1 _ s V l I w1 q)
    · exact h0 _ s V l I fun c hc=>hw ⟨c,hc⟩
theorem ZA5 {m:Nat} (h1:1<=m) (h8:m<=8):Gm m m+mi m m<=8*m*m*(m+1):=by
  have:m=1∨m=2∨m=3∨m=4∨m=5∨m=6∨m=7∨m=8:=by omega
  rcases this with rfl | rfl | rfl | rfl | rfl | rfl | rfl | rfl<;>decide
theorem ZGY:∃k,ZhJ 64=some (k,true):=by
 obtain⟨k,hk⟩:=Zsx 64
 have:Zwk 64=true:=by
  have:=Zy3 64 (by omega)
  rw[show((64:Nat):Int)=64 from rfl] at this
  rw[this];rfl
 rw[this] at hk
 exact⟨k,hk⟩
structure ZtP (d:Zn):Prop where
 len:d.ring.length=64
 t0:0<=d.top
 t1:d.top<=64
 b0:d.top-1<=d.bottom
 b1:d.bottom<=64
theorem ZlD {d:Zn} (h:ZtP d):Ze8 d=some 0:=by
 obtain⟨k,hk⟩:=ZGY
 have:=h.t0
 have:=h.t1
 have:=h.b0
 have:=h.b1
 unfold Ze8
 rw[h.len,show((64:Nat):Int)=64 from rfl,hk,Option.bind_some]
 have e:Zl2 d.top=0:=by
  unfold Zl2
  rw[decide_eq_false (by omega),decide_eq_false (by omega)];rfl
 simp only[cond_true,Zop,Option.bind_some,e,ZaA (show -9223372036854775808<=d.top-1 by omega) (by omega),ZaA (show -9223372036854775808<=d.top+64 by omega) (by omega)]
 rw[decide_eq_false (show ¬(64:Int)<64 by omega),decide_eq_false (show ¬d.bottom<d.top-1 by omega),decide_eq_false (show ¬d.top+64<d.bottom by omega)]
 rfl
def gt {α β:Type} (f:α->β) (z:β) (l:List α) (c:Nat):β:=match l[c]? with | some x=>f x | none=>z
theorem ZaH {α β:Type}{f:α->β}{z:β}{l:List α}{c:Nat}{x:α} (h:l[c]? = some x):gt f z l c=f x:=by unfold gt;rw[h]
theorem ZcX {α β:Type}{f:α->β}{z:β}{l:List α}{c:Nat}{v:α} (h:c<l.length):gt f z (l.set c v)=upd (gt f z l) c (f v):=by
 funext k
 unfold gt upd
 rw[List.getElem?_set]
 by_cases e:c=k
 ·subst e;rw[if_pos rfl,if_pos h,if_pos rfl]
 ·rw[if_neg e,if_neg (fun h=>e h.symm)]
theorem Zdi {α:Type} (f:Nat->α) (c:Nat) {v:α} (h:v=f c):upd f c v=f:=by
 funext k
 unfold upd
 split
 ·rename_i e;rw[h,e]
 ·rfl
def plc (k:Int):Nat:=(Int.tmod (bif decide (k<0) then 0 else k) 64).toNat
theorem ZDd (k:Int):Int.tmod (bif decide (k<0) then 0 else k) 64=(plc k:Int)/\plc k<64:=by
 have h0:(0:Int)<=(bif decide (k<0) then 0 else k):=by
  by_cases h:k<0
  ·rw[decide_eq_true h];exact Int.le_refl _
  ·rw[decide_eq_false h];show 0<=k;omega
 unfold plc
 have h1:=Int.tmod_nonneg 64 h0
 have h2:=Int.tmod_lt_of_pos (bif decide (k<0) then 0 else k) (show(0:Int)<64 by omega)
 omega
theorem ZB0 {k:Int} (h0:0<=k) (h:k<64):plc k=k.toNat:=by
 unfold plc
 rw[decide_eq_false (by omega),cond_false,Int.tmod_eq_emod_of_nonneg h0,Int.emod_eq_of_lt h0 h]
def ZhS (r:List Int) (k:Int):Int:=gt id 0 r (plc k)
theorem Zse {d:Zn} (h:d.ring.length=64) (k:Int):Ze5 d k=some (plc k:Int):=by
 unfold Ze5
 rw[h,show((64:Nat):Int)=64 from rfl,(ZDd k).1]
 rfl
theorem Zwm {r:List Int} (h:r.length=64) (k:Int):Zy r (plc k:Int)=some (ZhS r k):=by
 have hl:plc k<r.length:=by rw[h];exact(ZDd k).2
 have:=List.getElem?_eq_getElem hl
 rw[ZN this]
 unfold ZhS
 rw[ZaH this]
 rfl
theorem Zmj {l:List Int} (h:l.length<=1073741824):Zab l=some ():=by
 unfold Zab
 rw[Zgn h];rfl
theorem Zwf {d:Zn} (h:d.ring.length=64):ZiJ d=some ():=by
 unfold ZiJ
 rw[Zmj (by omega)];rfl
structure ZGq (t:ZA):Prop where
 en:t.end_=0
 a0:0<=t.at_
 a4:t.at_<=4
 a3:t.steal=true->t.at_<=3
 rx : -1<=t.top/\t.top<=64
 ry : -1<=t.bottom/\t.bottom<=64
theorem ZzG {n:Int} (h : -1<=n/\n<=64):Zd5 n=some false:=by
 unfold Zd5
 rw[decide_eq_false (by omega),decide_eq_false (by omega)];rfl
theorem ZCW {t:ZA} (h:ZGq t):Zji t=some true:=by
 have:=h.a0
 have:=h.a4
 unfold Zji
 rw[ZzG h.rx,ZzG h.ry,h.en,decide_eq_true (show 0<=t.at_ by omega),decide_eq_true (show t.at_<=4 by omega)]
 cases hs:t.steal with
 | true=>
  have:=h.a3 hs
  rw[decide_eq_true (show t.at_<=3 by omega)]
  cases t.at_==0<;>rfl
 | false=>cases t.at_==0<;>rfl
theorem ZhH {d:Zn}{t:ZA}{x:Int×Int×Int×Int×Int×Int×Int} (hd:ZtP d) (ht:ZGq t) (hs:t.steal=false) (hx:ZcW d.top d.bottom t.at_ t.top t.bottom t.got t.end_ d.ring=some x) (hd':ZtP ⟨d.ring,x.1,x.2.1⟩) :
  Zcc d t=some (⟨d.ring,x.1,x.2.1⟩,⟨false,x.2.2.1,x.2.2.2.1,x.2.2.2.2.1,x.2.2.2.2.2.1,x.2.2.2.2.2.2⟩,0):=by
 unfold Zcc
 rw[ZlD hd,Option.bind_some,show((0:Int) != 0)=false from rfl,cond_false,ZCW ht,Option.bind_some,cond_true,Zwf hd.len,Option.bind_some,hs,cond_false,hx,Option.bind_some,ZlD hd',Option.bind_some]
 rfl
theorem ZhP {d:Zn}{t:ZA}{x:Int×Int×Int×Int×Int×Int} (hd:ZtP d) (ht:ZGq t) (hs:t.steal=true) (hx:ZcP d.top d.bottom t.at_ t.top t.bottom t.got t.end_ d.ring=some x) (hd':ZtP ⟨d.ring,x.1,d.bottom⟩) :
  Zcc d t=some (⟨d.ring,x.1,d.bottom⟩,⟨true,x.2.1,x.2.2.1,x.2.2.2.1,x.2.2.2.2.1,x.2.2.2.2.2⟩,0):=by
 unfold Zcc
 rw[ZlD hd,Option.bind_some,show((0:Int) != 0)=false from rfl,cond_false,ZCW ht,Option.bind_some,cond_true,Zwf hd.len,Option.bind_some,hs,cond_true,hx,Option.bind_some,ZlD hd',Option.bind_some]
 rfl
theorem ZC7 {m c:Nat}{f:Int} (hm:0<m) (h8:m<=8) (hc:c<m) (h0:0<=f) (hf:f<(m:Int)):Int.tmod (w64 ((c:Int)+f)) (m:Int)=((vic m c f.toNat:Nat):Int):=by
 rw[ZaA (by omega) (by omega),show(c:Int)+f=((c+f.toNat:Nat):Int) by omega,Int.tmod_eq_emod_of_nonneg (by omega)]
 rfl
theorem ZGO {m:Nat}{f:Int} (hm:0<m) (h8:m<=8) (h0:0<=f) (hf:f<(m:Int)):Int.tmod (w64 (f+1)) (m:Int)=(((f.toNat+1) % m:Nat):Int):=by
 rw[ZaA (by omega) (by omega),show f+1=((f.toNat+1:Nat):Int) by omega,Int.tmod_eq_emod_of_nonneg (by omega)]
 rfl
section
variable {m c:Nat} {work:List Int} {E:List Zi} {on left fs:List Int} {ds:List Zn} {ts:List ZA} {f:Int} {d d':Zn} {t t':ZA}
theorem ZAM {c:Nat}{x:Int}{ts:List ZA}{fs:List Int} (ht:c<ts.length) (hf:c<fs.length):ZcL (c:Int) x ts fs=some (ts.set c ⟨x != 0,0,0,0,0,0⟩):=by
 unfold ZcL
 rw[ZN (List.getElem?_eq_getElem hf),Option.bind_some,ZN (List.getElem?_eq_getElem ht)]
 cases x != 0<;>rfl
theorem ZBv (hm:0<m) (h8:m<=8) (hc:c<m) (ho:on.length=m) (h0:0<=f) (hf:f<(m:Int)) (hfs:fs[c]? = some f) (hds:ds[vic m c f.toNat]? = some d) (hts:ts[c]? = some t) (hd:Zcc d t=some (d',t',0)) (he:t'.end_=0) :
  ZbA (c:Int) work E on left ds ts fs=some (0,on,ds.set (vic m c f.toNat) d',ts.set c t',fs):=by
 unfold ZbA
 rw[ZN hfs,Option.bind_some,ho,show((m:Int)==0)=false from beq_eq_false_iff_ne.2 (by omega),cond_false,ZC7 hm h8 hc h0 hf,ZN hds,Option.bind_some,ZN hts,Option.bind_some,hd,Option.bind_some]
 simp only[he,show((0:Int) != 0)=false from rfl,show((0:Int)==1)=false from rfl,show((0:Int)==2)=false from rfl,show((0:Int)==3)=false from rfl,cond_false,Int.toNat_natCast]
theorem ZA9 {R:List Int} (hm:0<m) (h8:m<=8) (hc:c<m) (ho:on.length=m) (hl:ts.length=m) (hlf:fs.length=m) (h0:0<=f) (hf:f<(m:Int)) (hfs:fs[c]? = some f) (hds:ds[vic m c f.toNat]? = some d) (hts:ts[c]? = some t) (hd:Zcc d t=some (d',t',0)) (he:t'.end_=1)
  (hR:ZeW ⟨work,E⟩ ⟨on,left⟩=some R) (hRl:R.length<9223372036854775808) (hg:t'.got∈R) :
  ZbA (c:Int) work E on left ds ts fs=some (0,on.set c t'.got,ds.set (vic m c f.toNat) d',ts.set c ⟨false,0,0,0,0,0⟩,fs.set c 0):=by
 unfold ZbA
 rw[ZN hfs,Option.bind_some,ho,show((m:Int)==0)=false from beq_eq_false_iff_ne.2 (by omega),cond_false,ZC7 hm h8 hc h0 hf,ZN hds,Option.bind_some,ZN hts,Option.bind_some,hd,Option.bind_some]
 simp only[he,show((0:Int) != 0)=false from rfl,show((1:Int)==1)=true from rfl,cond_false,cond_true,hR,Option.bind_some,ZlO R _ hRl,Zr9,decide_eq_true hg,ZN (List.getElem?_eq_getElem (show c<on.length by omega)),Int.toNat_natCast]
 rw[show(0:Int)=(0:Int) from rfl,ZAM (by rw[List.length_set];omega) (by omega),Option.bind_some,List.set_set]
 rfl
theorem Zyh (hm:0<m) (h8:m<=8) (hc:c<m) (ho:on.length=m) (hl:ts.length=m) (hlf:fs.length=m) (h0:0<=f) (hf:f<(m:Int)) (hfs:fs[c]? = some f) (hds:ds[vic m c f.toNat]? = some d) (hts:ts[c]? = some t) (hd:Zcc d t=some (d',t',0)) (he:t'.end_=2∨t'.end_=3) :
  ZbA (c:Int) work E on left ds ts fs=some (0,on,ds.set (vic m c f.toNat) d',ts.set c ⟨(((f.toNat+1) % m:Nat):Int) != 0,0,0,0,0,0⟩,fs.set c (((f.toNat+1) % m:Nat):Int)):=by
 unfold ZbA
 rw[ZN hfs,Option.bind_some,ho,show((m:Int)==0)=false from beq_eq_false_iff_ne.2 (by omega),cond_false,ZC7 hm h8 hc h0 hf,ZN hds,Option.bind_some,ZN hts,Option.bind_some,hd,Option.bind_some]
 have hfr:=ZAM (c:=c) (x:=(((f.toNat+1) % m:Nat):Int)) (ts:=ts.set c t') (fs:=fs) (by rw[List.length_set];omega) (by omega)
 rcases he with he | he
 ·simp only[he,show((0:Int) != 0)=false from rfl,show((2:Int)==1)=false from rfl,show((2:Int)==2)=true from rfl,cond_false,cond_true,ZGO hm h8 h0 hf,hfr,Option.bind_some,Int.toNat_natCast,List.set_set]
 ·simp only[he,show((0:Int) != 0)=false from rfl,show((3:Int)==1)=false from rfl,show((3:Int)==2)=false from rfl,show((3:Int)==3)=true from rfl,cond_false,cond_true,ZGO hm h8 h0 hf,hfr,Option.bind_some,Int.toNat_natCast,List.set_set]
end
def vw (on:List Int) (ds:List Zn) (ts:List ZA) (fs:List Int):Zj:=
 ⟨gt (·.top) 0 ds,gt (·.bottom) 0 ds,gt (fun d=>ZhS d.ring) (fun _=>0) ds,gt id 0 on,gt (·.at_) 0 ts,gt (·.top) 0 ts,gt (·.bottom) 0 ts,gt (·.got) 0 ts,gt Int.toNat 0 fs⟩
def base (E:List Zi) (left:List Int) (n:Int):Prop:=isN left n/\0<lf left n/\Zl0 E left n
theorem Zl9 {E:List Zi}{left:List Int}:∀n,base E left n->n ≠ -1:=fun n h=>by have:=h.1.1;omega
structure GangIn (g:ZF) (m:Nat) (left on:List Int) (ds:List Zn) (ts:List ZA) (fs:List Int):Prop where
 crew:ZdX g left on
 ol:on.length=m
 dl:ds.length=m
 tl:ts.length=m
 fl:fs.length=m
 ring:∀d∈ds,d.ring.length=64
 en:∀t∈ts,t.end_=0
 f0:∀f∈fs,0<=f
 st:∀(c:Nat) t f,ts[c]? = some t->fs[c]? = some f->t.steal=(f != 0)
 bz:∀(c:Nat) n t,on[c]? = some n->n ≠ -1->ts[c]? = some t->t=⟨false,0,0,0,0,0⟩
 inv:Inv m (base g.edges left) (vw on ds ts fs)
end Go.Proofs.YtgcfmiajkbbmeaaGreatDoor
namespace Go.Proofs.YtgcfmiajkbbmeaaGreatDoor
open Go Go.Proofs.YtgcfmiajkbbmeaaGreatDoorE
open Go.IntKind (u64 i64 u32 i32 u8)
theorem Zj.eq_of {V W:Zj} (hT:V.T=W.T) (hB:V.B=W.B) (hR:V.R=W.R) (hO:V.O=W.O) (ha:V.a=W.a) (hx:V.x=W.x) (hy:V.y=W.y) (hz:V.z=W.z) (hF:V.F=W.F):V=W:=by
 cases V;cases W;cases hT;cases hB;cases hR;cases hO;cases ha;cases hx;cases hy;cases hz;cases hF;rfl
theorem Ze7 {α:Type}{l:List α}{i:Nat}{v x:α} (h:x∈l.set i v):x∈l∨x=v:=by
 obtain⟨j,hj⟩:=List.getElem?_of_mem h
 rw[List.getElem?_set] at hj
 split at hj
 ·split at hj
  ·exact .inr (Option.some.inj hj).symm
  ·cases hj
 ·exact .inl (List.mem_of_getElem? hj)
def ZpK (g:ZF) (m:Nat) (left on:List Int) (ds:List Zn) (ts:List ZA) (fs:List Int) (c:Nat):Prop:=
 ∃on' ds' ts' fs',ZbA (c:Int) g.work g.edges on left ds ts fs=some (0,on',ds',ts',fs')/\GangIn g m left on' ds' ts' fs'/\vw on' ds' ts' fs'=Zbp m (vw on ds ts fs) c
theorem Zoy (on:List Int) (ds:List Zn) (ts:List ZA) (fs:List Int) {i:Nat}{n:Int} (h:on[i]? = some n):(vw on ds ts fs).O i=n:=ZaH h
theorem ZAj {on:List Int}{ds:List Zn}{ts:List ZA}{fs:List Int}{i:Nat}{n:Int} (hi:(vw on ds ts fs).O i = -1) (h:on[i]? = some n):n = -1:=by
 rw[Zoy on ds ts fs h] at hi
 exact hi
section
variable {g:ZF} {m c v:Nat} {on left fs:List Int} {ds:List Zn} {ts:List ZA} {f:Int} {d d':Zn} {t t':ZA}
theorem ZsK (hv:v<ds.length) (hd:ds[v]? = some d) (hr:d'.ring=d.ring):gt (fun d:Zn=>ZhS d.ring) (fun _=>0) (ds.set v d')=gt (fun d:Zn=>ZhS d.ring) (fun _=>0) ds:=by
 rw[ZcX hv]
 exact Zdi _ _ (by rw[ZaH hd,hr])
theorem ZiN (h:Za6 g=0) (G:GangIn g m left on ds ts fs) (hm:0<m) (h8:m<=8) (hc:c<m) (hidle:(vw on ds ts fs).O c = -1) (hf:f<(m:Int)) (hfs:fs[c]? = some f) (hv:v=vic m c f.toNat) (hvm:v<m) (hds:ds[v]? = some d) (hts:ts[c]? = some t)
  (hd:Zcc d t=some (d',t',0)) (he:t'.end_=0) (hr:d'.ring=d.ring) (hs:t'.steal=t.steal)
  (hW:Zbp m (vw on ds ts fs) c=⟨upd (vw on ds ts fs).T v d'.top,upd (vw on ds ts fs).B v d'.bottom,(vw on ds ts fs).R,(vw on ds ts fs).O,upd (vw on ds ts fs).a c t'.at_,upd (vw on ds ts fs).x c t'.top,upd (vw on ds ts fs).y c t'.bottom,upd (vw on ds ts fs).z c t'.got,(vw on ds ts fs).F⟩):ZpK g m left on ds ts fs c:=by
 have h0:=G.f0 f (List.mem_of_getElem? hfs)
 have hvd:v<ds.length:=by rw[G.dl];exact hvm
 have hct:c<ts.length:=by rw[G.tl];exact hc
 have hV:vw on (ds.set v d') (ts.set c t') fs=Zbp m (vw on ds ts fs) c:=by
  rw[hW]
  refine Zj.eq_of ?_ ?_ ?_ rfl ?_ ?_ ?_ ?_ rfl
  ·exact ZcX hvd
  ·exact ZcX hvd
  ·exact ZsK hvd hds hr
  ·exact ZcX hct
  ·exact ZcX hct
  ·exact ZcX hct
  ·exact ZcX hct
 refine⟨on,ds.set v d',ts.set c t',fs,?_,⟨G.crew,G.ol,by rw[List.length_set];exact G.dl,by rw[List.length_set];exact G.tl,G.fl,fun x hx=>?_,fun x hx=>?_,G.f0,fun i ti fi hti hfi=>?_,fun i n ti hi hn hti=>?_,?_⟩,hV⟩
 ·subst hv;exact ZBv hm h8 hc G.ol h0 hf hfs hds hts hd he
 ·rcases Ze7 hx with hx | hx
  ·exact G.ring x hx
  ·rw[hx,hr];exact G.ring d (List.mem_of_getElem? hds)
 ·rcases Ze7 hx with hx | hx
  ·exact G.en x hx
  ·rw[hx];exact he
 ·rw[List.getElem?_set] at hti
  split at hti
  ·rename_i e
   subst e
   cases hti
   rw[hs]
   rw[hfs] at hfi
   cases hfi
   exact G.st c t f hts hfs
  ·exact G.st i ti fi hti hfi
 ·rw[List.getElem?_set] at hti
  split at hti
  ·rename_i e
   subst e
   exact absurd (ZAj hidle hi) hn
  ·exact G.bz i n ti hi hn hti
 ·rw[hV]
  exact(G.inv.step Zl9 hc hidle).1
theorem ZqQ (h:Za6 g=0) (G:GangIn g m left on ds ts fs) (hm:0<m) (h8:m<=8) (hc:c<m) (hidle:(vw on ds ts fs).O c = -1) (hf:f<(m:Int)) (hfs:fs[c]? = some f) (hv:v=vic m c f.toNat) (hvm:v<m) (hds:ds[v]? = some d) (hts:ts[c]? = some t)
  (hd:Zcc d t=some (d',t',0)) (he:t'.end_=2∨t'.end_=3) (hr:d'.ring=d.ring)
  (hW:Zbp m (vw on ds ts fs) c=⟨upd (vw on ds ts fs).T v d'.top,upd (vw on ds ts fs).B v d'.bottom,(vw on ds ts fs).R,(vw on ds ts fs).O,upd (vw on ds ts fs).a c 0,upd (vw on ds ts fs).x c 0,upd (vw on ds ts fs).y c 0,upd (vw on ds ts fs).z c 0,upd (vw on ds ts fs).F c ((f.toNat+1) % m)⟩):ZpK g m left on ds ts fs c:=by
 have h0:=G.f0 f (List.mem_of_getElem? hfs)
 have hvd:v<ds.length:=by rw[G.dl];exact hvm
 have hct:c<ts.length:=by rw[G.tl];exact hc
 have hcf:c<fs.length:=by rw[G.fl];exact hc
 have hV:vw on (ds.set v d') (ts.set c ⟨(((f.toNat+1) % m:Nat):Int) != 0,0,0,0,0,0⟩) (fs.set c (((f.toNat+1) % m:Nat):Int))=Zbp m (vw on ds ts fs) c:=by
  rw[hW]
  refine Zj.eq_of ?_ ?_ ?_ rfl ?_ ?_ ?_ ?_ ?_
  ·exact ZcX hvd
  ·exact ZcX hvd
  ·exact ZsK hvd hds hr
  ·exact ZcX hct
  ·exact ZcX hct
  ·exact ZcX hct
  ·exact ZcX hct
  ·exact ZcX hcf
 refine⟨on,_,_,_,?_,⟨G.crew,G.ol,by rw[List.length_set];exact G.dl,by rw[List.length_set];exact G.tl,by rw[List.length_set];exact G.fl,fun x hx=>?_,fun x hx=>?_,fun x hx=>?_,fun i ti fi hti hfi=>?_,fun i n ti hi hn hti=>?_,?_⟩,hV⟩
 ·subst hv;exact Zyh hm h8 hc G.ol G.tl G.fl h0 hf hfs hds hts hd he
 ·rcases Ze7 hx with hx | hx
  ·exact G.ring x hx
  ·rw[hx,hr];exact G.ring d (List.mem_of_getElem? hds)
 ·rcases Ze7 hx with hx | hx
  ·exact G.en x hx
  ·rw[hx]
 ·rcases Ze7 hx with hx | hx
  ·exact G.f0 x hx
  ·rw[hx];omega
 ·rw[List.getElem?_set] at hti hfi
  split at hti
  ·rename_i e
   subst e
   rw[if_pos rfl,if_pos hcf] at hfi
   cases hti;cases hfi;rfl
  ·rename_i e
   rw[if_neg e] at hfi
   exact G.st i ti fi hti hfi
 ·rw[List.getElem?_set] at hti
  split at hti
  ·rename_i e
   subst e
   exact absurd (ZAj hidle hi) hn
  ·exact G.bz i n ti hi hn hti
 ·rw[hV]
  exact(G.inv.step Zl9 hc hidle).1
theorem Zth (h:Za6 g=0) (G:GangIn g m left on ds ts fs) (hm:0<m) (h8:m<=8) (hc:c<m) (hidle:(vw on ds ts fs).O c = -1) (hf:f<(m:Int)) (hfs:fs[c]? = some f) (hv:v=vic m c f.toNat) (hvm:v<m) (hds:ds[v]? = some d) (hts:ts[c]? = some t)
  (hd:Zcc d t=some (d',t',0)) (he:t'.end_=1) (hr:d'.ring=d.ring)
  (hget:ZHX m (vw on ds ts fs) c)
  (hW:Zbp m (vw on ds ts fs) c=⟨upd (vw on ds ts fs).T v d'.top,upd (vw on ds ts fs).B v d'.bottom,(vw on ds ts fs).R,upd (vw on ds ts fs).O c t'.got,upd (vw on ds ts fs).a c 0,upd (vw on ds ts fs).x c 0,upd (vw on ds ts fs).y c 0,upd (vw on ds ts fs).z c 0,upd (vw on ds ts fs).F c 0⟩):ZpK g m left on ds ts fs c:=by
 have h0:=G.f0 f (List.mem_of_getElem? hfs)
 have hvd:v<ds.length:=by rw[G.dl];exact hvm
 have hct:c<ts.length:=by rw[G.tl];exact hc
 have hcf:c<fs.length:=by rw[G.fl];exact hc
 have hco:c<on.length:=by rw[G.ol];exact hc
 obtain⟨hG,hA⟩:=Za9 h
 have rng:∀x∈left,0<=x:=fun x hx=>(G.crew.ok.rng x hx).1
 have hO:(Zbp m (vw on ds ts fs) c).O c=t'.got:=by rw[hW];exact ZaE _ _ _
 have hne:=G.inv.gets Zl9 hc hidle hget
 have htk:=(G.inv.step Zl9 hc hidle).2.1
 have hrdy:base g.edges left t'.got/\∀i,i<m->(vw on ds ts fs).O i≠t'.got:=by
  rcases htk with h1 | ⟨h1,h2,_⟩
  ·rw[h1 c] at hne;exact absurd hidle hne
  ·rw[hO] at h1 h2;exact⟨h1,h2⟩
 have hnot:t'.got∉on:=fun hm'=>by
  obtain⟨i,hi⟩:=List.getElem?_of_mem hm'
  have hil:=(List.getElem?_eq_some_iff.1 hi).1
  exact hrdy.2 i (by rw[<- G.ol];exact hil) (Zoy on ds ts fs hi)
 have hR:t'.got∈Zcv g.edges left on:=(ZoN rng).2 ⟨hrdy.1.1,hrdy.1.2.1,hnot,hrdy.1.2.2⟩
 have hRl:(Zcv g.edges left on).length<9223372036854775808:=by
  have:(Zcv g.edges left on).length<=left.length:=by
   unfold Zcv
   rw[List.length_map]
   exact Nat.le_trans (List.length_filter_le _ _) (by rw[List.length_range];exact Nat.le_refl _)
  have:=G.crew.ll
  have:=hG.wl
  omega
 have hV:vw (on.set c t'.got) (ds.set v d') (ts.set c ⟨false,0,0,0,0,0⟩) (fs.set c 0)=Zbp m (vw on ds ts fs) c:=by
  rw[hW]
  refine Zj.eq_of ?_ ?_ ?_ ?_ ?_ ?_ ?_ ?_ ?_
  ·exact ZcX hvd
  ·exact ZcX hvd
  ·exact ZsK hvd hds hr
  ·exact ZcX hco
  ·exact ZcX hct
  ·exact ZcX hct
  ·exact ZcX hct
  ·exact ZcX hct
  ·exact ZcX hcf
 have crew':ZdX g left (on.set c t'.got):=by
  refine⟨G.crew.ll,by rw[List.length_set];exact G.crew.o1,by rw[List.length_set];exact G.crew.o8,G.crew.ok.rng,fun n hn=>?_,fun i j n hi hj hnn=>?_,G.crew.ok.over⟩
  ·rcases Ze7 hn with hn | hn
   ·exact G.crew.ok.run n hn
   ·rw[hn];exact .inr ⟨hrdy.1.1,hrdy.1.2.1,hrdy.1.2.2⟩
  ·rw[List.getElem?_set] at hi hj
   by_cases e1:c=i
   ·by_cases e2:c=j
    ·omega
    ·rw[if_pos e1,if_pos hco] at hi
     rw[if_neg e2] at hj
     cases hi
     exact absurd (List.mem_of_getElem? hj) hnot
   ·by_cases e2:c=j
    ·rw[if_neg e1] at hi
     rw[if_pos e2,if_pos hco] at hj
     cases hj
     exact absurd (List.mem_of_getElem? hi) hnot
    ·rw[if_neg e1] at hi
     rw[if_neg e2] at hj
     exact G.crew.ok.one i j n hi hj hnn
 refine⟨_,_,_,_,?_,⟨crew',by rw[List.length_set];exact G.ol,by rw[List.length_set];exact G.dl,by rw[List.length_set];exact G.tl,by rw[List.length_set];exact G.fl,fun x hx=>?_,fun x hx=>?_,fun x hx=>?_,fun i ti fi hti hfi=>?_,fun i n ti hi hn hti=>?_,?_⟩,hV⟩
 ·subst hv;exact ZA9 hm h8 hc G.ol G.tl G.fl h0 hf hfs hds hts hd he (Zr0 h G.crew) hRl hR
 ·rcases Ze7 hx with hx | hx
  ·exact G.ring x hx
  ·rw[hx,hr];exact G.ring d (List.mem_of_getElem? hds)
 ·rcases Ze7 hx with hx | hx
  ·exact G.en x hx
  ·rw[hx]
 ·rcases Ze7 hx with hx | hx
  ·exact G.f0 x hx
  ·rw[hx];exact Int.le_refl _
 ·rw[List.getElem?_set] at hti hfi
  split at hti
  ·rename_i e
   subst e
   rw[if_pos rfl,if_pos hcf] at hfi
   cases hti;cases hfi;rfl
  ·rename_i e
   rw[if_neg e] at hfi
   exact G.st i ti fi hti hfi
 ·rw[List.getElem?_set] at hti hi
  split at hti
  ·rename_i e
   subst e
   cases hti;rfl
  ·rename_i e
   rw[if_neg e] at hi
   exact G.bz i n ti hi hn hti
 ·rw[hV]
  exact(G.inv.step Zl9 hc hidle).1
theorem ZIp (h:Za6 g=0) (G:GangIn g m left on ds ts fs) (hc:c<m) (hidle:(vw on ds ts fs).O c = -1):ZpK g m left on ds ts fs c:=by
 have hm:0<m:=by omega
 have h8:m<=8:=by rw[<- G.ol];exact G.crew.o8
 have p:=G.inv.pos c hc
 have hcf:c<fs.length:=by rw[G.fl];exact hc
 have hct:c<ts.length:=by rw[G.tl];exact hc
 obtain⟨f,hfs⟩:∃f,fs[c]? = some f:=⟨_,List.getElem?_eq_getElem hcf⟩
 obtain⟨t,hts⟩:∃t,ts[c]? = some t:=⟨_,List.getElem?_eq_getElem hct⟩
 have qF:(vw on ds ts fs).F c=f.toNat:=ZaH hfs
 have qa:(vw on ds ts fs).a c=t.at_:=ZaH hts
 have qx:(vw on ds ts fs).x c=t.top:=ZaH hts
 have qy:(vw on ds ts fs).y c=t.bottom:=ZaH hts
 have qz:(vw on ds ts fs).z c=t.got:=ZaH hts
 have h0:=G.f0 f (List.mem_of_getElem? hfs)
 have hst:=G.st c t f hts hfs
 have pF:=p.F
 rw[qF] at pF
 have hf:f<(m:Int):=by omega
 have hvm:=ZsS hm c f.toNat
 have hvd:vic m c f.toNat<ds.length:=by rw[G.dl];exact hvm
 obtain⟨d,hds⟩:∃d,ds[vic m c f.toNat]? = some d:=⟨_,List.getElem?_eq_getElem hvd⟩
 have pv:=G.inv.pos _ hvm
 have qT:(vw on ds ts fs).T (vic m c f.toNat)=d.top:=ZaH hds
 have qB:(vw on ds ts fs).B (vic m c f.toNat)=d.bottom:=ZaH hds
 have qR:(vw on ds ts fs).R (vic m c f.toNat)=ZhS d.ring:=ZaH hds
 have hring:=G.ring d (List.mem_of_getElem? hds)
 have hbe:(vw on ds ts fs).be (vic m c f.toNat)=d.bottom∨(vw on ds ts fs).be (vic m c f.toNat)=d.bottom+1:=by
  unfold Zj.be
  split
  ·right;rw[qB]
  ·left;rw[qB]
 have vT0:=pv.T0
 have vTB:=pv.TB
 have vB64:=pv.B64
 rw[qT] at vT0 vTB
 have hd:ZtP d:=⟨hring,vT0,by omega,by rcases hbe with e | e<;>omega,by rcases hbe with e | e<;>omega⟩
 have pa0:=p.a0
 have pa4:=p.a4
 have pa3:=p.a3
 have prx:=p.rx
 have pry:=p.ry
 have po1:=p.o1
 have po2:=p.o2
 have po3:=p.o3
 have pt1:=p.t1
 have pt2:=p.t2
 have pt3:=p.t3
 have po4:=p.o4
 rw[qa] at pa0 pa4 po1 po2 po3 po4 pt1 pt2 pt3 pa3
 rw[qF] at pa3 po1 po2 po3 po4 pt1 pt2 pt3
 rw[qx] at prx po2 pt1 pt2 pt3
 rw[qy] at pry po1 po2
 have ht:ZGq t:=⟨G.en t (List.mem_of_getElem? hts),pa0,pa4,fun hs=>pa3 (by
  rw[hst] at hs
  have:f≠0:=by simpa using hs
  omega),prx,pry⟩
 have hen:=ht.en
 by_cases hF:f.toNat=0
 ·
  have hv:vic m c f.toNat=c:=by rw[hF];exact Zxz hc
  rw[hv] at hds qT qB qR hbe vTB vB64 hvm
  have hs:t.steal=false:=by rw[hst];simp;omega
  have hVF:(vw on ds ts fs).F c=0:=by rw[qF,hF]
  by_cases a0:t.at_=0
  ·have hbc:(vw on ds ts fs).be c=d.bottom:=by
    unfold Zj.be
    rw[if_neg (by rw[qa];omega),qB]
   refine ZiN h G hm h8 hc hidle hf hfs hv.symm hc hds hts (ZhH hd ht hs (x:=(d.top,d.bottom-1,1,t.top,d.bottom-1,t.got,t.end_)) ?_ ⟨hring,hd.t0,hd.t1,?_,?_⟩) hen rfl hs.symm ?_
   ·unfold ZcW
    rw[a0,ZaA (by have:=hd.t0;have:=hd.b0;omega) (by have:=hd.b1;omega)]
    rfl
   ·show d.top-1<=d.bottom-1;omega
   ·show d.bottom-1<=64;omega
   ·unfold Zbp
    rw[if_pos hVF,if_pos (by rw[qa];exact a0),qB,qx,qz]
    exact Zj.eq_of (Zdi _ _ qT.symm).symm rfl rfl rfl rfl rfl rfl rfl rfl
  have hbc:(vw on ds ts fs).be c=d.bottom+1:=by
   unfold Zj.be
   rw[if_pos ⟨hVF,by rw[qa];omega⟩,qB]
  have hyb:=po1 hF (by omega)
  rw[qB] at hyb
  by_cases a1:t.at_=1
  ·by_cases c1:d.top<t.bottom
   ·refine Zth h G hm h8 hc hidle hf hfs hv.symm hc hds hts (ZhH hd ht hs (x:=(d.top,d.bottom,1,d.top,t.bottom,ZhS d.ring t.bottom,1)) ?_ hd) rfl rfl (.inl ⟨hVF,by rw[qa];exact a1,by rw[qT,qy];exact c1⟩) ?_
    ·unfold ZcW
     rw[a1,decide_eq_true c1]
     simp only[show((1:Int)==0)=false from rfl,show((1:Int)==1)=true from rfl,cond_false,cond_true,Zse (d:=⟨d.ring,d.top,d.bottom⟩) hring,Option.bind_some,Zwm hring]
    ·unfold Zbp
     rw[if_pos hVF,if_neg (by rw[qa];exact a0),if_pos (by rw[qa];exact a1),qT,qy,if_pos c1,qR]
     exact Zj.eq_of (Zdi _ _ qT.symm).symm (Zdi _ _ qB.symm).symm rfl rfl rfl rfl rfl rfl rfl
   ·by_cases c2:d.top=t.bottom
    ·refine ZiN h G hm h8 hc hidle hf hfs hv.symm hc hds hts (ZhH hd ht hs (x:=(d.top,d.bottom,2,d.top,t.bottom,t.got,t.end_)) ?_ hd) hen rfl hs.symm ?_
     ·unfold ZcW
      rw[a1,decide_eq_false c1,show(d.top==t.bottom)=true from beq_iff_eq.2 c2]
      rfl
     ·unfold Zbp
      rw[if_pos hVF,if_neg (by rw[qa];exact a0),if_pos (by rw[qa];exact a1),qT,qy,if_neg c1,if_pos c2,qz]
      exact Zj.eq_of (Zdi _ _ qT.symm).symm (Zdi _ _ qB.symm).symm rfl rfl rfl rfl rfl rfl rfl
    ·refine ZiN h G hm h8 hc hidle hf hfs hv.symm hc hds hts (ZhH hd ht hs (x:=(d.top,d.bottom,3,d.top,t.bottom,t.got,t.end_)) ?_ hd) hen rfl hs.symm ?_
     ·unfold ZcW
      rw[a1,decide_eq_false c1,show(d.top==t.bottom)=false from beq_eq_false_iff_ne.2 c2]
      rfl
     ·unfold Zbp
      rw[if_pos hVF,if_neg (by rw[qa];exact a0),if_pos (by rw[qa];exact a1),qT,qy,if_neg c1,if_neg c2,qz]
      exact Zj.eq_of (Zdi _ _ qT.symm).symm (Zdi _ _ qB.symm).symm rfl rfl rfl rfl rfl rfl rfl
  by_cases a2:t.at_=2
  ·by_cases c1:d.top=t.top
   ·have hd':ZtP ⟨d.ring,d.top+1,d.bottom⟩:=by
     have:=po2 hF a2
     exact⟨hring,by show 0<=d.top+1;omega,by show d.top+1<=64;omega,by show d.top+1-1<=d.bottom;omega,hd.b1⟩
    refine ZiN h G hm h8 hc hidle hf hfs hv.symm hc hds hts (ZhH hd ht hs (x:=(d.top+1,d.bottom,4,t.top,t.bottom,ZhS d.ring t.bottom,t.end_)) ?_ hd') hen rfl hs.symm ?_
    ·unfold ZcW Zge
     have hw:w64 (d.top+1)=d.top+1:=ZaA (by have:=hd.t0;omega) (by have:=hd.t1;omega)
     simp only[a2,show((2:Int)==0)=false from rfl,show((2:Int)==1)=false from rfl,show((2:Int)==2)=true from rfl,cond_false,cond_true,show(d.top != t.top)=false by rw[c1];simp,Option.bind_some,hw,Zse (d:=⟨d.ring,d.top+1,d.bottom⟩) hring,Zwm hring]
    ·unfold Zbp
     rw[if_pos hVF,if_neg (by rw[qa];exact a0),if_neg (by rw[qa];exact a1),if_pos (by rw[qa];exact a2),qT,qx,if_pos c1,qy,qR]
     exact Zj.eq_of rfl (Zdi _ _ qB.symm).symm rfl rfl rfl rfl rfl rfl rfl
   ·refine ZiN h G hm h8 hc hidle hf hfs hv.symm hc hds hts (ZhH hd ht hs (x:=(d.top,d.bottom,3,t.top,t.bottom,t.got,t.end_)) ?_ hd) hen rfl hs.symm ?_
    ·unfold ZcW Zge
     simp only[a2,show((2:Int)==0)=false from rfl,show((2:Int)==1)=false from rfl,show((2:Int)==2)=true from rfl,cond_false,cond_true,show(d.top != t.top)=true by simpa using c1,Option.bind_some]
    ·unfold Zbp
     rw[if_pos hVF,if_neg (by rw[qa];exact a0),if_neg (by rw[qa];exact a1),if_pos (by rw[qa];exact a2),qT,qx,if_neg c1,qy,qz]
     exact Zj.eq_of (Zdi _ _ qT.symm).symm (Zdi _ _ qB.symm).symm rfl rfl rfl rfl rfl rfl rfl
  have hw:w64 (t.bottom+1)=t.bottom+1:=ZaA (by omega) (by omega)
  by_cases a4:t.at_=4
  ·have hd':ZtP ⟨d.ring,d.top,t.bottom+1⟩:=by
    have:=po3 hF (.inr a4)
    exact⟨hring,hd.t0,hd.t1,by show d.top-1<=t.bottom+1;omega,by show t.bottom+1<=64;omega⟩
   refine Zth h G hm h8 hc hidle hf hfs hv.symm hc hds hts (ZhH hd ht hs (x:=(d.top,t.bottom+1,4,t.top,t.bottom,t.got,1)) ?_ hd') rfl rfl (.inr (.inl ⟨hVF,by rw[qa];exact a4⟩)) ?_
   ·unfold ZcW
    rw[a4,hw]
    rfl
   ·unfold Zbp
    rw[if_pos hVF,if_neg (by rw[qa];exact a0),if_neg (by rw[qa];exact a1),if_neg (by rw[qa];exact a2),if_pos (by rw[qa];exact a4),qy,qz]
    exact Zj.eq_of (Zdi _ _ qT.symm).symm rfl rfl rfl rfl rfl rfl rfl rfl
  ·have a3:t.at_=3:=by omega
   have hd':ZtP ⟨d.ring,d.top,t.bottom+1⟩:=by
    have:=po3 hF (.inl a3)
    exact⟨hring,hd.t0,hd.t1,by show d.top-1<=t.bottom+1;omega,by show t.bottom+1<=64;omega⟩
   refine ZqQ h G hm h8 hc hidle hf hfs hv.symm hc hds hts (ZhH hd ht hs (x:=(d.top,t.bottom+1,3,t.top,t.bottom,t.got,2)) ?_ hd') (.inl rfl) rfl ?_
   ·unfold ZcW
    rw[a3,hw]
    rfl
   ·unfold Zbp
    rw[if_pos hVF,if_neg (by rw[qa];exact a0),if_neg (by rw[qa];exact a1),if_neg (by rw[qa];exact a2),if_neg (by rw[qa];exact a4),qy,hF]
    exact Zj.eq_of (Zdi _ _ qT.symm).symm rfl rfl rfl rfl rfl rfl rfl rfl
 ·
  have hs:t.steal=true:=by rw[hst];simp;omega
  have hVF:(vw on ds ts fs).F c≠0:=by rw[qF];exact hF
  have hvv:vic m c ((vw on ds ts fs).F c)=vic m c f.toNat:=by rw[qF]
  by_cases a0:t.at_=0
  ·refine ZiN h G hm h8 hc hidle hf hfs rfl hvm hds hts (ZhP hd ht hs (x:=(d.top,1,d.top,t.bottom,t.got,t.end_)) ?_ hd) hen rfl hs.symm ?_
   ·unfold ZcP
    rw[a0]
    rfl
   ·unfold Zbp
    rw[if_neg hVF,if_pos (by rw[qa];exact a0),hvv,qT,qy,qz]
    exact Zj.eq_of (Zdi _ _ qT.symm).symm (Zdi _ _ qB.symm).symm rfl rfl rfl rfl rfl rfl rfl
  by_cases a1:t.at_=1
  ·by_cases c1:t.top<d.bottom
   ·refine ZiN h G hm h8 hc hidle hf hfs rfl hvm hds hts (ZhP hd ht hs (x:=(d.top,2,t.top,d.bottom,t.got,t.end_)) ?_ hd) hen rfl hs.symm ?_
    ·unfold ZcP
     rw[a1,decide_eq_false (show ¬d.bottom<=t.top by omega)]
     rfl
    ·unfold Zbp
     rw[if_neg hVF,if_neg (by rw[qa];exact a0),if_pos (by rw[qa];exact a1),hvv,qB,qx,if_pos c1,qz]
     exact Zj.eq_of (Zdi _ _ qT.symm).symm (Zdi _ _ qB.symm).symm rfl rfl rfl rfl rfl rfl rfl
   ·refine ZqQ h G hm h8 hc hidle hf hfs rfl hvm hds hts (ZhP hd ht hs (x:=(d.top,1,t.top,d.bottom,t.got,2)) ?_ hd) (.inl rfl) rfl ?_
    ·unfold ZcP
     rw[a1,decide_eq_true (show d.bottom<=t.top by omega)]
     rfl
    ·unfold Zbp
     rw[if_neg hVF,if_neg (by rw[qa];exact a0),if_pos (by rw[qa];exact a1),hvv,qB,qx,if_neg c1,qF]
     exact Zj.eq_of (Zdi _ _ qT.symm).symm (Zdi _ _ qB.symm).symm rfl rfl rfl rfl rfl rfl rfl
  by_cases a2:t.at_=2
  ·refine ZiN h G hm h8 hc hidle hf hfs rfl hvm hds hts (ZhP hd ht hs (x:=(d.top,3,t.top,t.bottom,ZhS d.ring t.top,t.end_)) ?_ hd) hen rfl hs.symm ?_
   ·unfold ZcP
    rw[a2]
    simp only[show((2:Int)==0)=false from rfl,show((2:Int)==1)=false from rfl,show((2:Int)==2)=true from rfl,cond_false,cond_true,Zse (d:=⟨d.ring,d.top,d.bottom⟩) hring,Option.bind_some,Zwm hring]
   ·unfold Zbp
    rw[if_neg hVF,if_neg (by rw[qa];exact a0),if_neg (by rw[qa];exact a1),if_pos (by rw[qa];exact a2),hvv,qx,qy,qR]
    exact Zj.eq_of (Zdi _ _ qT.symm).symm (Zdi _ _ qB.symm).symm rfl rfl rfl rfl rfl rfl rfl
  have a3:t.at_=3:=by have:=pa3 hF;omega
  by_cases c1:d.top=t.top
  ·have hlt:=pt2 hF (by omega) (by rw[qT];exact c1.symm)
   rw[qT] at hlt
   have hd':ZtP ⟨d.ring,d.top+1,d.bottom⟩:=⟨hring,by show 0<=d.top+1;omega,by show d.top+1<=64;omega,by show d.top+1-1<=d.bottom;rcases hbe with e | e<;>omega,hd.b1⟩
   refine Zth h G hm h8 hc hidle hf hfs rfl hvm hds hts (ZhP hd ht hs (x:=(d.top+1,3,t.top,t.bottom,t.got,1)) ?_ hd') rfl rfl (.inr (.inr ⟨hVF,by rw[qa];exact a3,by rw[hvv,qT,qx];exact c1⟩)) ?_
   ·unfold ZcP Zge
    have hw:w64 (d.top+1)=d.top+1:=ZaA (by have:=hd.t0;omega) (by have:=hd.t1;omega)
    simp only[a3,show((3:Int)==0)=false from rfl,show((3:Int)==1)=false from rfl,show((3:Int)==2)=false from rfl,cond_false,show(d.top != t.top)=false by rw[c1];simp,Option.bind_some,hw]
   ·unfold Zbp
    rw[if_neg hVF,if_neg (by rw[qa];exact a0),if_neg (by rw[qa];exact a1),if_neg (by rw[qa];exact a2),hvv,qT,qx,if_pos c1,qz]
    exact Zj.eq_of rfl (Zdi _ _ qB.symm).symm rfl rfl rfl rfl rfl rfl rfl
  ·refine ZqQ h G hm h8 hc hidle hf hfs rfl hvm hds hts (ZhP hd ht hs (x:=(d.top,3,t.top,t.bottom,0,3)) ?_ hd) (.inr rfl) rfl ?_
   ·unfold ZcP Zge
    simp only[a3,show((3:Int)==0)=false from rfl,show((3:Int)==1)=false from rfl,show((3:Int)==2)=false from rfl,cond_false,show(d.top != t.top)=true by simpa using c1,Option.bind_some,cond_true]
   ·unfold Zbp
    rw[if_neg hVF,if_neg (by rw[qa];exact a0),if_neg (by rw[qa];exact a1),if_neg (by rw[qa];exact a2),hvv,qT,qx,if_neg c1,qF]
    exact Zj.eq_of (Zdi _ _ qT.symm).symm (Zdi _ _ qB.symm).symm rfl rfl rfl rfl rfl rfl rfl
end
end Go.Proofs.YtgcfmiajkbbmeaaGreatDoor
namespace Go.Proofs.YtgcfmiajkbbmeaaGreatDoor
open Go Go.Proofs.YtgcfmiajkbbmeaaGreatDoorE
open Go.IntKind (u64 i64 u32 i32 u8)
theorem ZxC (l:List Zn) (f:Zn->Option Bool) (p:Zn->Bool) (hf:∀x∈l,f x=some (p x)) (hl:l.length<9223372036854775808):Zbb l f=some (l.any p):=by
 unfold Zbb Zco
 refine ZjV l p _ (fun i x hi hx=>?_) ?_
 ·simp only[Zbd,Zcx hi,ZN hx,Option.bind_some,hf x (List.mem_of_getElem? hx),ZL hi hl,cond_true]
  cases p x<;>rfl
 ·simp only[Zbd,ZdO];rfl
def ZxS (m:Nat) (V:Zj):Bool:=(List.range m).any fun j=>decide (V.T j<V.B j)
def wlV (m:Nat) (V:Zj):List Int:=((List.range m).filter fun i=>decide (V.O i = -1)&&(ZxS m V || !decide (V.a i=0))).map fun i:Nat=>(i:Int)
theorem Zmk {m:Nat}{V:Zj}{z:Int}:z∈wlV m V↔0<=z/\ZfK m V z.toNat:=by
 unfold wlV
 rw[ZjW]
 unfold ZfK ZxS
 simp only[Bool.and_eq_true,Bool.or_eq_true,Bool.not_eq_true',decide_eq_true_eq,decide_eq_false_iff_not,List.any_eq_true,List.mem_range]
theorem ZCx {m:Nat}{ds:List Zn} (hl:ds.length=m) (on:List Int) (ts:List ZA) (fs:List Int):(ds.any fun d=>decide (d.top<d.bottom))=ZxS m (vw on ds ts fs):=by
 rw[Bool.eq_iff_iff]
 unfold ZxS
 rw[List.any_eq_true,List.any_eq_true]
 constructor
 ·rintro ⟨d,hd,h⟩
  obtain⟨i,hi⟩:=List.getElem?_of_mem hd
  refine⟨i,List.mem_range.2 (by rw[<- hl];exact(List.getElem?_eq_some_iff.1 hi).1),?_⟩
  rw[show(vw on ds ts fs).T i=d.top from ZaH hi,show(vw on ds ts fs).B i=d.bottom from ZaH hi]
  exact h
 ·rintro ⟨i,hi,h⟩
  rw[List.mem_range] at hi
  have hd:ds[i]? = some ds[i]:=List.getElem?_eq_getElem (by omega)
  rw[show(vw on ds ts fs).T i=ds[i].top from ZaH hd,show(vw on ds ts fs).B i=ds[i].bottom from ZaH hd] at h
  exact⟨_,List.getElem_mem _,h⟩
theorem ZC0 (d:Zn):ZbJ d=some (decide (d.top<d.bottom)):=by
 unfold ZbJ
 cases decide (d.top<d.bottom)<;>rfl
theorem ZAF {m:Nat}{on fs:List Int}{ds:List Zn}{ts:List ZA} (ho:on.length=m) (hd:ds.length=m) (ht:ts.length=m) (h8:m<=8):ZdW on ds ts=some (wlV m (vw on ds ts fs)):=by
 unfold ZdW
 rw[ZxC ds _ (fun d=>decide (d.top<d.bottom)) (fun d _=>ZC0 d) (by omega),Option.bind_some,ZCx hd on ts fs]
 unfold wlV
 cases hs:ZxS m (vw on ds ts fs) with
 | true=>
  rw[cond_true,Zwj (n:=on.length) (ZcB on) (fun i=>decide ((vw on ds ts fs).O i = -1)&&(true || !decide ((vw on ds ts fs).a i=0))) (fun i out hi hout=>?_) (fun out=>by simp only[ZcB,ZdO];rfl),Option.bind_some,ho]
  have hx:=List.getElem?_eq_getElem hi
  simp only[ZcB,Zcx hi,cond_true,ZN hx,Option.bind_some,ZL hi (show on.length<9223372036854775808 by omega),Zgn (show out.length+1<=1073741824 by omega),Bool.true_or,Bool.and_true]
  rw[show(vw on ds ts fs).O i=on[i] from ZaH hx]
  by_cases h:on[i] = -1
  ·rw[show(on[i] == -1)=true from beq_iff_eq.2 h,decide_eq_true h];rfl
  ·rw[show(on[i] == -1)=false from beq_eq_false_iff_ne.2 h,decide_eq_false h];rfl
 | false=>
  rw[cond_false,Zwj (n:=on.length) (Zcl on ts) (fun i=>decide ((vw on ds ts fs).O i = -1)&&(false || !decide ((vw on ds ts fs).a i=0))) (fun i out hi hout=>?_) (fun out=>by simp only[Zcl,ZdO];rfl),Option.bind_some,ho]
  have hx:=List.getElem?_eq_getElem hi
  have ht:=List.getElem?_eq_getElem (show i<ts.length by omega)
  simp only[Zcl,Zcx hi,cond_true,ZN hx,ZN ht,Option.bind_some,ZL hi (show on.length<9223372036854775808 by omega),Zgn (show out.length+1<=1073741824 by omega),Bool.false_or]
  rw[show(vw on ds ts fs).O i=on[i] from ZaH hx,show(vw on ds ts fs).a i=ts[i].at_ from ZaH ht]
  by_cases h:on[i] = -1
  ·rw[show(on[i] == -1)=true from beq_iff_eq.2 h,decide_eq_true h]
   by_cases h2:ts[i].at_=0
   ·rw[show(ts[i].at_ != 0)=false by rw[h2];rfl,decide_eq_true h2];rfl
   ·rw[show(ts[i].at_ != 0)=true by simpa using h2,decide_eq_false h2];rfl
  ·rw[show(on[i] == -1)=false from beq_eq_false_iff_ne.2 h,decide_eq_false h];rfl
theorem ZGp (m:Nat) (V:Zj):(wlV m V).length<=m:=by
 unfold wlV
 rw[List.length_map]
 exact Nat.le_trans (List.length_filter_le _ _) (by rw[List.length_range];exact Nat.le_refl _)
theorem ZyR (m:Nat) (V:Zj):(wlV m V).Pairwise (· < ·):=by
 unfold wlV
 refine List.Pairwise.map _ (fun a b (h:a<b)=>by omega) (List.Pairwise.filter _ List.pairwise_lt_range)
def Zs4 (last:Int):Nat->List Int->Option Nat
 | _,[]=>none
 | i,x :: l=>if last<x then some i else Zs4 last (i+1) l
theorem ZqP (last:Int):∀(l:List Int) (i:Nat),(match Zs4 last i l with | some k=>i<=k/\(∃x,l[k-i]? = some x/\last<x/\∀j,j<k-i->∀y,l[j]? = some y->y<=last) | none=>∀y∈l,y<=last)
 | [],i=>fun y hy=>by cases hy
 | x :: l,i=>by
  unfold Zs4
  by_cases h:last<x
  ·rw[if_pos h]
   exact⟨Nat.le_refl _,x,by simp,h,fun j hj=>by omega⟩
  ·rw[if_neg h]
   have ih:=ZqP last l (i+1)
   cases hf:Zs4 last (i+1) l with
   | none=>
    rw[hf] at ih
    intro y hy
    rcases List.mem_cons.1 hy with rfl | hy
    ·omega
    ·exact ih y hy
   | some k=>
    rw[hf] at ih
    obtain⟨h1,z,h2,h3,h4⟩:=ih
    refine⟨by omega,z,?_,h3,fun j hj y hy=>?_⟩
    ·rw[show k-i=(k-(i+1))+1 by omega];exact h2
    ·cases j with
     | zero=>cases hy;omega
     | succ j=>exact h4 j (by omega) y hy
def nxI (l:List Int) (last:Int):Nat:=match Zs4 last 0 l with | some k=>k | none=>0
theorem ZB2 (l:List Int) (last:Int) (hl:l.length<9223372036854775808):ZG l (fun z0=>ZbZ z0 last)=some (match Zs4 last 0 l with | some k=>(k:Int) | none=>-1):=by
 unfold ZG
 have key:=Zhw l (Zx l (fun z0=>ZbZ z0 last)) (fun _ x=>decide (last<x)) (fun i _=>.inl (i:Int)) (.inr ()) (fun i x hi hx=>by
  simp only[Zx,Zcx hi,cond_true,ZN hx,Option.bind_some,ZbZ,ZL hi hl]
  cases decide (last<x)<;>rfl) (by simp only[Zx,ZdO];rfl)
 rw[key,Option.bind_some]
 have:∀(l:List Int) (i:Nat),Ziu (fun _ x=>decide (last<x)) (fun i (_:Int)=>(.inl (i:Int):Int⊕Unit)) (.inr ()) i l=(match Zs4 last i l with | some k=>.inl (k:Int) | none=>.inr ()):=by
  intro l
  induction l with
  | nil=>intro i;rfl
  | cons x l ih=>
   intro i
   unfold Ziu Zs4
   by_cases h:last<x
   ·rw[if_pos h,decide_eq_true h];rfl
   ·rw[if_neg h,decide_eq_false h,cond_false];exact ih (i+1)
 rw[this l 0]
 cases Zs4 last 0 l<;>rfl
def chI (l picks:List Int) (last:Int) (s:Nat):Int:=
 match picks[s]? with
 | some x=>gt id 0 l (Int.tmod (bif decide (x<0) then 0 else x) (l.length:Int)).toNat
 | none=>gt id 0 l (nxI l last)
theorem ZDE {l picks:List Int}{last:Int}{s:Nat} (hne:l≠[]) (hl:l.length<9223372036854775808) (hp:picks.length<9223372036854775808):ZeY last l picks (s:Int)=some (chI l picks last s)/\chI l picks last s∈l:=by
 have h0:0<l.length:=List.length_pos_iff.2 hne
 unfold ZeY chI
 by_cases hs:s<picks.length
 ·have hx:=List.getElem?_eq_getElem hs
  rw[Zcx hs,cond_true,ZN hx,Option.bind_some,hx,show((l.length:Int)==0)=false from beq_eq_false_iff_ne.2 (by omega),cond_false]
  have hz:(0:Int)<=(bif decide (picks[s]<0) then 0 else picks[s]):=by
   by_cases h:picks[s]<0
   ·rw[decide_eq_true h];exact Int.le_refl _
   ·rw[decide_eq_false h];show 0<=picks[s];omega
  have h1:=Int.tmod_nonneg (l.length:Int) hz
  have h2:=Int.tmod_lt_of_pos (bif decide (picks[s]<0) then 0 else picks[s]) (show(0:Int)<(l.length:Int) by omega)
  have h3:(Int.tmod (bif decide (picks[s]<0) then 0 else picks[s]) (l.length:Int)).toNat<l.length:=by omega
  have hy:=List.getElem?_eq_getElem h3
  rw[Zpa h1 hy,Option.bind_some]
  dsimp only
  rw[ZaH hy]
  exact⟨rfl,List.getElem_mem _⟩
 ·have hn:picks[s]? = none:=List.getElem?_eq_none (by omega)
  rw[decide_eq_false (show ¬(s:Int)<(picks.length:Int) by omega),cond_false,hn,ZB2 l last hl,Option.bind_some]
  dsimp only
  have sp:=ZqP last l 0
  unfold nxI
  cases hf:Zs4 last 0 l with
  | none=>
   dsimp only
   have hy:=List.getElem?_eq_getElem h0
   rw[ZaH hy]
   have:Zy l (bif decide ((-1:Int)<0) then 0 else -1)=some l[0]:=ZN (i:=0) hy
   rw[this]
   exact⟨rfl,List.getElem_mem _⟩
  | some k=>
   rw[hf] at sp
   obtain⟨_,x,h1,_⟩:=sp
   rw[Nat.sub_zero] at h1
   dsimp only
   rw[ZaH h1,decide_eq_false (show ¬(k:Int)<0 by omega),cond_false,ZN h1]
   exact⟨rfl,List.mem_of_getElem? h1⟩
def chV (m:Nat) (picks:List Int) (V:Zj) (last:Int) (s:Nat):Nat:=(chI (wlV m V) picks last s).toNat
theorem Zt2 {m:Nat}{picks:List Int}{V:Zj}{last:Int}{s:Nat} (hm:m<=8) (hp:picks.length<9223372036854775808) (h:∃c,ZfK m V c):ZfK m V (chV m picks V last s)/\(picks.length<=s->Next m V last (chV m picks V last s))/\ZeY last (wlV m V) picks (s:Int)=some (chV m picks V last s:Int):=by
 obtain⟨c,hc⟩:=h
 have hin:(c:Int)∈wlV m V:=Zmk.2 ⟨by omega,by simpa using hc⟩
 have hl:=ZGp m V
 obtain⟨h1,h2⟩:=ZDE (l:=wlV m V) (picks:=picks) (last:=last) (s:=s) (fun e=>by rw[e] at hin;cases hin) (by omega) hp
 obtain⟨h3,h4⟩:=Zmk.1 h2
 have e:((chV m picks V last s:Nat):Int)=chI (wlV m V) picks last s:=Int.toNat_of_nonneg h3
 refine⟨h4,fun hs=>⟨h4,?_⟩,by rw[e];exact h1⟩
 have hch:chI (wlV m V) picks last s=gt id 0 (wlV m V) (nxI (wlV m V) last):=by
  unfold chI
  rw[List.getElem?_eq_none hs]
 have sp:=ZqP last (wlV m V) 0
 have so:=ZyR m V
 unfold nxI at hch
 cases hf:Zs4 last 0 (wlV m V) with
 | none=>
  rw[hf] at sp hch
  right
  have hx:=List.getElem?_eq_getElem (show 0<(wlV m V).length from List.length_pos_iff.2 (fun e=>by rw[e] at hin;cases hin))
  rw[ZaH hx] at hch
  refine⟨fun p hp=>?_,fun p hp=>?_⟩
  ·exact sp (p:Int) (Zmk.2 ⟨by omega,by simpa using hp⟩)
  ·have hpm:(p:Int)∈wlV m V:=Zmk.2 ⟨by omega,by simpa using hp⟩
   obtain⟨j,hj⟩:=List.getElem?_of_mem hpm
   have hjl:=(List.getElem?_eq_some_iff.1 hj).1
   have hje:=(List.getElem?_eq_some_iff.1 hj).2
   have:(wlV m V)[0]<=(p:Int):=by
    rcases Nat.eq_zero_or_pos j with rfl | hj0
    ·rw[hje];exact Int.le_refl _
    ·have:=List.pairwise_iff_getElem.1 so 0 j (by omega) hjl hj0
     omega
   have e2:chI (wlV m V) picks last s=(wlV m V)[0]:=hch
   omega
 | some k=>
  rw[hf] at sp hch
  obtain⟨_,x,k1,k2,k3⟩:=sp
  rw[Nat.sub_zero] at k1 k3
  rw[ZaH k1] at hch
  have hkl:=(List.getElem?_eq_some_iff.1 k1).1
  have hke:=(List.getElem?_eq_some_iff.1 k1).2
  have e2:chI (wlV m V) picks last s=x:=hch
  left
  refine⟨by omega,fun p hp hlp=>?_⟩
  have hpm:(p:Int)∈wlV m V:=Zmk.2 ⟨by omega,by simpa using hp⟩
  obtain⟨j,hj⟩:=List.getElem?_of_mem hpm
  have hjl:=(List.getElem?_eq_some_iff.1 hj).1
  have hje:=(List.getElem?_eq_some_iff.1 hj).2
  have hkj:k<=j:=by
   rcases Nat.lt_or_ge j k with h | h
   ·have:=k3 j h _ hj;omega
   ·exact h
  rcases Nat.eq_or_lt_of_le hkj with rfl | hlt
  ·rw[k1] at hj;cases hj;omega
  ·have:=List.pairwise_iff_getElem.1 so k j hkl hjl hlt
   omega
theorem ZJe {m c:Nat}{b:Int->Prop}{V:Zj} (I:Inv m b V) (hc:c<m) (j:Nat):(Zbp m V c).be j<=V.be j:=by
 have p:=I.pos c hc
 have s:=Zzn p.gen
 generalize Zbp m V c=W at s
 by_cases e:j=c
 ·subst e
  have o1:=p.o1
  cases s with
  | own0 hF ha=>simp only[Zj.be,Zj.tk,Zj.setB,ZaE,hF,ha];simp
  | take hF ha h=>have:=o1 hF (by omega);simp only[Zj.be,Zj.got,ZaE,hF,ha];simp;omega
  | last hF ha h=>simp only[Zj.be,Zj.tk,ZaE,hF,ha];simp
  | none1 hF ha h=>simp only[Zj.be,Zj.tk,ZaE,hF,ha];simp
  | win hF ha h=>simp only[Zj.be,Zj.tk,Zj.setT,ZaE,hF,ha];simp
  | lose hF ha h=>simp only[Zj.be,Zj.tk,ZaE,hF,ha];simp
  | work hF ha=>have:=o1 hF (by omega);simp only[Zj.be,Zj.got,Zj.setB,ZaE,hF,ha];simp;omega
  | back hF ha=>have:=o1 hF (by omega);simp only[Zj.be,Zj.fresh,Zj.setB,ZaE,hF,ha];simp;omega
  | top hF ha=>simp only[Zj.be,Zj.tk,hF];simp
  | bottom hF ha h=>simp only[Zj.be,Zj.tk,hF];simp
  | none2 hF ha h=>simp only[Zj.be,Zj.fresh,ZaE,hF];simp
  | read hF ha=>simp only[Zj.be,Zj.tk,hF];simp
  | steal hF ha h=>simp only[Zj.be,Zj.got,Zj.setT,ZaE,hF];simp
  | lost hF ha h=>simp only[Zj.be,Zj.fresh,ZaE,hF];simp
 ·obtain⟨_,h2,h3,_,_,h6⟩:=ZdE s e
  unfold Zj.be
  rw[h2,h3,h6]
  exact Int.le_refl _
structure ZtT (m:Nat) (on on':List Int) (ds ds':List Zn) (ts ts':List ZA) (fs fs':List Int):Prop where
 row:∀(c:Nat) (n:Int),on[c]? = some n->n ≠ -1->on'[c]? = some n
 be:∀c,(vw on' ds' ts' fs').be c<=(vw on ds ts fs).be c
theorem ZtT.refl (m:Nat) (on:List Int) (ds:List Zn) (ts:List ZA) (fs:List Int):ZtT m on on ds ds ts ts fs fs:=⟨fun _ _ h _=>h,fun _=>Int.le_refl _⟩
theorem ZtT.trans {m:Nat}{on on' on2 fs fs' fs2:List Int}{ds ds' ds2:List Zn}{ts ts' ts2:List ZA} (a:ZtT m on on' ds ds' ts ts' fs fs') (b:ZtT m on' on2 ds' ds2 ts' ts2 fs' fs2):ZtT m on on2 ds ds2 ts ts2 fs fs2:=
 ⟨fun c n h hn=>b.row c n (a.row c n h hn) hn,fun c=>Int.le_trans (b.be c) (a.be c)⟩
section
variable {g:ZF} {m:Nat} {left:List Int}
theorem ZAY {on fs on' fs':List Int}{ds ds':List Zn}{ts ts':List ZA}{c:Nat} (G:GangIn g m left on ds ts fs) (hc:c<m) (hidle:(vw on ds ts fs).O c = -1) (G':GangIn g m left on' ds' ts' fs') (hV:vw on' ds' ts' fs'=Zbp m (vw on ds ts fs) c):ZtT m on on' ds ds' ts ts' fs fs':=by
 refine⟨fun i n hi hn=>?_,fun j=>by rw[hV];exact ZJe G.inv hc j⟩
 have hil:=(List.getElem?_eq_some_iff.1 hi).1
 have hic:i≠c:=fun e=>by
  subst e
  rw[Zoy on ds ts fs hi] at hidle
  exact hn hidle
 have h1:=(ZdE (Zzn (G.inv.pos c hc).gen) hic).1
 rw[<- hV,Zoy on ds ts fs hi] at h1
 have hl':i<on'.length:=by rw[G'.ol,<- G.ol];exact hil
 have:=List.getElem?_eq_getElem hl'
 rw[Zoy on' ds' ts' fs' this] at h1
 rw[this,h1]
theorem ZIt (h:Za6 g=0) {picks:List Int} (hp:picks.length<=100000) {on fs:List Int}{ds:List Zn}{ts:List ZA} (G:GangIn g m left on ds ts fs) :
  ∃(n:Nat) (l:Int) (on':List Int) (ds':List Zn) (ts':List ZA) (fs':List Int),ZgE picks g.work g.edges on left ds ts fs=some ((n:Int),0,l,on',ds',ts',fs')/\GangIn g m left on' ds' ts' fs'/\(∀c,¬ZfK m (vw on' ds' ts' fs') c)/\ZtT m on on' ds ds' ts ts' fs fs'/\n<=picks.length+8*m*m*(m+1):=by
 have h8:m<=8:=by rw[<- G.ol];exact G.crew.o8
 have h1m:1<=m:=by rw[<- G.ol];exact G.crew.o1
 have key:=ZFk (m:=m) (L:=picks.length) (base:=base g.edges left) Zl9 (chV m picks) (fun V last s I hx=>⟨(Zt2 h8 (by omega) hx).1,(Zt2 h8 (by omega) hx).2.1⟩)
  (fun n s V l=>s+n<=200000->∀(on fs:List Int) (ds:List Zn) (ts:List ZA),GangIn g m left on ds ts fs->vw on ds ts fs=V ->
   ∃(n':Nat) (l':Int) (on':List Int) (ds':List Zn) (ts':List ZA) (fs':List Int),lp (ZcV picks g.work g.edges left) ((s:Int),wlV m V,l,on,ds,ts,fs)=some (.inr ((n':Int),l',on',ds',ts',fs'))/\GangIn g m left on' ds' ts' fs'/\(∀c,¬ZfK m (vw on' ds' ts' fs') c)/\ZtT m on on' ds ds' ts ts' fs fs'/\n'<=s+n)
  (fun n k s V l hnk hq hk on fs ds ts G hV=>by
   obtain⟨n',l',on',ds',ts',fs',q1,q2,q3,q4,q5⟩:=hq (by omega) on fs ds ts G hV
   exact⟨n',l',on',ds',ts',fs',q1,q2,q3,q4,by omega⟩)
  (fun n s V l I hw hk on fs ds ts G hV=>by
   subst hV
   have hnil:wlV m (vw on ds ts fs)=[]:=by
    rw[List.eq_nil_iff_forall_not_mem]
    intro z hz
    exact hw _ (Zmk.1 hz).2
   refine⟨s,l,on,ds,ts,fs,?_,G,hw,ZtT.refl _ _ _ _ _,by omega⟩
   rw[Zae,hnil]
   rfl)
  (fun n s V l I hw hq hk on fs ds ts G hV=>by
   subst hV
   obtain⟨on1,ds1,ts1,fs1,p1,p2,p3⟩:=ZIp h G hw.1 hw.2.1
   obtain⟨n',l',on',ds',ts',fs',q1,q2,q3,q4,q5⟩:=hq (by omega) on1 fs1 ds1 ts1 p2 p3
   refine⟨n',l',on',ds',ts',fs',?_,q2,q3,(ZAY G hw.1 hw.2.1 p2 p3).trans q4,by omega⟩
   have hne:0<(wlV m (vw on ds ts fs)).length:=List.length_pos_iff.2 fun e=>by
    have:((chV m picks (vw on ds ts fs) l s:Nat):Int)∈wlV m (vw on ds ts fs):=Zmk.2 ⟨by omega,by simpa using hw⟩
    rw[e] at this;cases this
   rw[Zae]
   have hnx:=(Zt2 (picks:=picks) (last:=l) (s:=s) h8 (by omega) ⟨_,hw⟩).2.2
   simp only[ZcV,decide_eq_true (show(0:Int)<((wlV m (vw on ds ts fs)).length:Int) by omega),cond_true,hnx,Option.bind_some,p1,show((0:Int) != 0)=false from rfl,cond_false,ZAF (fs:=fs1) p2.ol p2.dl p2.tl h8]
   rw[ZaA (by omega) (by omega),show(s:Int)+1=((s+1:Nat):Int) by omega,p3]
   exact q1)
  0 (vw on ds ts fs) (-1) G.inv ⟨by omega,by omega⟩
 have hmost:=ZA5 h1m h8
 have hsz:8*m*m*(m+1)<=8*8*8*9:=Nat.mul_le_mul (Nat.mul_le_mul (Nat.mul_le_mul_left 8 h8) h8) (by omega)
 obtain⟨n',l',on',ds',ts',fs',q1,q2,q3,q4,q5⟩:=key (by omega) on fs ds ts G rfl
 refine⟨n',l',on',ds',ts',fs',?_,q2,q3,q4,by omega⟩
 unfold ZgE
 rw[ZAF (fs:=fs) G.ol G.dl G.tl h8,Option.bind_some]
 rw[show(lp (ZcV picks g.work g.edges left) (0,wlV m (vw on ds ts fs), -1,on,ds,ts,fs))=_ from q1]
 rfl
end
end Go.Proofs.YtgcfmiajkbbmeaaGreatDoor
namespace Go.Proofs.YtgcfmiajkbbmeaaGreatDoor
open Go Go.Proofs.YtgcfmiajkbbmeaaGreatDoorE
open Go.IntKind (u64 i64 u32 i32 u8)
def Zja (left row:List Int) (n:Int):Int:=if n = -1 then -1 else if lf (Zar left row) n=0 then -1 else n
theorem ZfG (left row:List Int):Zad left row=row.map (Zja left row):=rfl
theorem ZAT {row:List Int} (h:ZqU row) (k:Nat):ZqU (row.take k):=fun i j n hi hj hn=>by
 rw[List.getElem?_take] at hi hj
 split at hi
 ·split at hj
  ·exact h i j n hi hj hn
  ·cases hj
 ·cases hi
theorem ZDl {l:List Int}{n:Int} (h:n ≠ -1):dec l n=l.set n.toNat (lf l n-1):=by unfold dec;rw[if_neg h]
theorem ZBq (row left:List Int):(row.foldl dec left).length=left.length:=ZeH row left
theorem ZI0 {row:List Int} (left:List Int) (h:ZqU row) (hr:∀n∈row,n = -1∨(isN left n/\0<lf left n)) (h64:left.length<=64) (hv:∀x∈left,x<=1000) (h8:row.length<=8) :
  lp (ZfS row) (0,row,left,([]:List Int))=some (Zad left row,Zar left row,row.filter fun n=>decide (n ≠ -1)&&decide (lf (Zar left row) n=0)):=by
 have hr1:∀n∈row,n = -1∨isN left n:=fun n hn=>(hr n hn).imp id (·.1)
 have key:∀(k i:Nat),i+k=row.length->lp (ZfS row) ((i:Int),(Zad left row).take i++row.drop i,(row.take i).foldl dec left,(row.take i).filter fun n=>decide (n ≠ -1)&&decide (lf (Zar left row) n=0))=some (Zad left row,Zar left row,row.filter fun n=>decide (n ≠ -1)&&decide (lf (Zar left row) n=0)):=by
  intro k
  induction k with
  | zero=>
   intro i hi
   have hi:i=row.length:=by omega
   subst hi
   have hl:(Zad left row).length=row.length:=by rw[ZfG,List.length_map]
   rw[Zae,List.drop_length,List.append_nil,List.take_length,List.take_of_length_le (by omega)]
   simp only[ZfS,ZdO,cond_false]
   rfl
  | succ k ih=>
   intro i hi
   have hi':i<row.length:=by omega
   have hx:=List.getElem?_eq_getElem hi'
   generalize hn:row[i]=n at hx
   have htl:(Zad left row).length=row.length:=by rw[ZfG,List.length_map]
   have htake:((Zad left row).take i).length=i:=by rw[List.length_take,htl];omega
   have hget:((Zad left row).take i++row.drop i)[i]? = some n:=by
    rw[List.getElem?_append_right (by omega),htake,List.getElem?_drop,Nat.sub_self,Nat.add_zero]
    exact hx
   have hdrop:row.drop i=n :: row.drop (i+1):=by rw[<- hn];exact List.drop_eq_getElem_cons hi'
   have htk:row.take (i+1)=row.take i++[n]:=by rw[List.take_add_one,hx];rfl
   have hto:(Zad left row).take (i+1)=(Zad left row).take i++[Zja left row n]:=by
    rw[List.take_add_one,ZfG,List.getElem?_map,hx];rfl
   have hset:∀v,((Zad left row).take i++row.drop i).set i v=(Zad left row).take i++v :: row.drop (i+1):=fun v=>by
    rw[List.set_append_right _ _ (by omega),htake,Nat.sub_self,hdrop];rfl
   have ih':=ih (i+1) (by omega)
   rw[htk,hto,List.foldl_append,List.filter_append,List.append_assoc] at ih'
   rw[Zae]
   simp only[ZfS,Zcx hi',cond_true,ZN hget,Option.bind_some,ZL hi' (show row.length<9223372036854775808 by omega)]
   by_cases h1:n = -1
   ·subst h1
    rw[show((-1:Int) == -1)=true from rfl,cond_true]
    have e1:Zja left row (-1) = -1:=rfl
    have e2:∀l:List Int,[(-1:Int)].foldl dec l=l:=fun l=>rfl
    have e3:([(-1:Int)].filter fun n=>decide (n ≠ -1)&&decide (lf (Zar left row) n=0))=[]:=rfl
    rw[e1,e2,e3,List.append_nil] at ih'
    rw[hdrop]
    exact ih'
   ·rw[show(n == -1)=false from beq_eq_false_iff_ne.2 h1,cond_false]
    rcases hr n (by rw[<- hn];exact List.getElem_mem _) with h2 | ⟨h2,h3⟩
    ·exact absurd h2 h1
    ·have hnt:n∉row.take i:=fun hm=>by
      obtain⟨j,hj⟩:=List.getElem?_of_mem hm
      have hjl:=(List.getElem?_eq_some_iff.1 hj).1
      rw[List.length_take] at hjl
      rw[List.getElem?_take,if_pos (by omega)] at hj
      have:=h j i n hj hx h1
      omega
     have hl1:lf ((row.take i).foldl dec left) n=lf left n:=by
      have:=Zp2 (row.take i) left (ZAT h i) (fun m hm=>hr1 m (List.mem_of_mem_take hm)) n h2.1
      rw[if_neg hnt] at this
      exact this
     have hl2:lf (Zar left row) n=lf left n-1:=by
      have:=Zp2 row left h hr1 n h2.1
      rwa [if_pos (by rw[<- hn];exact List.getElem_mem _)] at this
     have hin:isN ((row.take i).foldl dec left) n:=⟨h2.1,by rw[ZBq];exact h2.2⟩
     have h1000:lf left n<=1000:=hv _ (List.mem_of_getElem? (ZjZ h2.1 h2.2))
     have hdec:((row.take i).foldl dec left).set n.toNat (w64 (lf ((row.take i).foldl dec left) n-1))=dec ((row.take i).foldl dec left) n:=by
      rw[ZDl h1,ZaA (by rw[hl1];omega) (by rw[hl1];omega)]
     rw[ZG6 hin,Option.bind_some,hdec]
     have hin2:isN (dec ((row.take i).foldl dec left) n) n:=⟨h2.1,by rw[Zr4];exact hin.2⟩
     have hl3:lf (dec ((row.take i).foldl dec left) n) n=lf (Zar left row) n:=by
      rw[hl2,<- hl1,ZDl h1,ZEE ⟨hin.1,hin.2⟩ h2.1,if_pos rfl]
     rw[Ztc (c:=⟨(Zad left row).take i++row.drop i,dec ((row.take i).foldl dec left) n⟩) hin2,Option.bind_some]
     dsimp only
     rw[hl3]
     have e2:∀l:List Int,[n].foldl dec l=dec l n:=fun l=>rfl
     rw[e2] at ih'
     by_cases h4:lf (Zar left row) n=0
     ·have e1:Zja left row n = -1:=by unfold Zja;rw[if_neg h1,if_pos h4]
      have e3:([n].filter fun n=>decide (n ≠ -1)&&decide (lf (Zar left row) n=0))=[n]:=by
       rw[List.filter_cons_of_pos (by rw[decide_eq_true h1,decide_eq_true h4];rfl)];rfl
      have hf8:((row.take i).filter fun n=>decide (n ≠ -1)&&decide (lf (Zar left row) n=0)).length<=i:=Nat.le_trans (List.length_filter_le _ _) (by rw[List.length_take];omega)
      rw[e1,e3] at ih'
      rw[show(lf (Zar left row) n==0)=true from beq_iff_eq.2 h4,cond_true,Zgn (show((row.take i).filter fun n=>decide (n ≠ -1)&&decide (lf (Zar left row) n=0)).length+1<=1073741824 by omega),cond_true,Int.toNat_natCast,hset]
      exact ih'
     ·have e1:Zja left row n=n:=by unfold Zja;rw[if_neg h1,if_neg h4]
      have e3:([n].filter fun n=>decide (n ≠ -1)&&decide (lf (Zar left row) n=0))=[]:=by
       rw[List.filter_cons_of_neg (by rw[decide_eq_true h1,decide_eq_false h4];decide)];rfl
      rw[e1,e3,List.append_nil] at ih'
      rw[show(lf (Zar left row) n==0)=false from beq_eq_false_iff_ne.2 h4,cond_false,hdrop]
      exact ih'
 have:=key row.length 0 (by omega)
 simpa using this
theorem Zy2 {g:ZF} (h:Za6 g=0) {left row:List Int} (c:ZdX g left row):∃done,Zkr g ⟨row,left⟩=some (.inr (Zad left row,Zar left row,done))/\(∀z,z∈done↔z∈row/\z ≠ -1/\lf (Zar left row) z=0):=by
 obtain⟨hG,hA⟩:=Za9 h
 have hw:=hG.wl
 have ll:=c.ll
 have o8:=c.o8
 have hk:=ZI0 left c.ok.one (fun n hn=>(c.ok.run n hn).imp id fun h=>⟨h.1,h.2.1⟩) (by omega) (fun x hx=>(c.ok.rng x hx).2) o8
 obtain⟨r,h1,h2,_⟩:=ZnH (row.filter fun n=>decide (n ≠ -1)&&decide (lf (Zar left row) n=0)) (Nat.le_trans (List.length_filter_le _ _) (by omega))
 refine⟨r,?_,fun z=>?_⟩
 ·unfold Zkr
  rw[ZnD h c,Option.bind_some,show((0:Int) != 0)=false from rfl,cond_false]
  unfold Zox
  rw[Zmj (show row.length<=1073741824 by omega),Option.bind_some,Zmj (show left.length<=1073741824 by omega),Option.bind_some,Option.bind_some]
  unfold ZhO
  dsimp only
  rw[hk,Option.bind_some]
  dsimp only
  rw[h1]
  rfl
 ·rw[h2.mem_iff,List.mem_filter,Bool.and_eq_true,decide_eq_true_eq,decide_eq_true_eq]
structure PG (m:Nat) (b:Int->Prop) (on:List Int) (ds:List Zn) (ts:List ZA) (fs:List Int):Prop where
 dl:ds.length=m
 ring:∀d∈ds,d.ring.length=64
 inv:Inv m b (vw on ds ts fs)
 a0:∀i,i<m->(vw on ds ts fs).a i=0
theorem Inv.congr {m:Nat}{b b':Int->Prop}{V:Zj} (h:∀n,b n↔b' n) (I:Inv m b V):Inv m b' V:=
 ⟨I.pos,⟨fun c k hi=>by obtain⟨h1,h2⟩:=I.items.rdy c k hi;exact⟨(h _).1 h1,h2⟩,I.items.inj,fun n hn ho=>I.items.all n ((h n).2 hn) ho⟩⟩
theorem PG.be {m:Nat}{b:Int->Prop}{on fs:List Int}{ds:List Zn}{ts:List ZA} (P:PG m b on ds ts fs) {i:Nat} (hi:i<m):(vw on ds ts fs).be i=(vw on ds ts fs).B i/\(vw on ds ts fs).lo i=(vw on ds ts fs).T i:=by
 have:=P.a0 i hi
 constructor
 ·unfold Zj.be;rw[if_neg (by omega)]
 ·unfold Zj.lo;rw[if_neg (by omega)]
theorem Pos.still {m:Nat}{W:Zj}{i:Nat} (ha:W.a i=0) (hF:W.F i<m) (hO:W.O i ≠ -1->W.F i=0) (h0:0<=W.T i) (h1:W.T i<=W.B i) (h2:W.B i<=64) (rx : -1<=W.x i/\W.x i<=64) (ry : -1<=W.y i/\W.y i<=64):Pos m W i:=by
 have hb:W.be i=W.B i:=by unfold Zj.be;rw[if_neg (by omega)]
 refine⟨hF,fun h=>⟨ha,hO h⟩,by omega,by omega,fun _=>by omega,h0,by omega,by omega,fun _ h=>by omega,fun _ h=>by omega,fun _ h=>by omega,fun _ h=>by omega,fun _ h=>by omega,fun _ h=>by omega,fun _ h=>by omega,rx,ry⟩
theorem ZD0 {m c:Nat}{b:Int->Prop}{on fs:List Int}{ds:List Zn}{ts:List ZA}{n:Int} (P:PG m b on ds ts fs) (hc:c<m) (h8:m<=8) (hB:(vw on ds ts fs).B c<64) (hnb:¬b n) (hno:∀i,i<m->(vw on ds ts fs).O i≠n) :
  ∃ds',ZeU (c:Int) n ds=some (.inl ds')/\PG m (fun x=>b x∨x=n) on ds' ts fs/\∀i,(vw on ds' ts fs).B i=if i=c then (vw on ds ts fs).B c+1 else (vw on ds ts fs).B i:=by
 have hcd:c<ds.length:=by rw[P.dl];exact hc
 have hds:=List.getElem?_eq_getElem hcd
 generalize hd:ds[c]=d at hds
 have hring:=P.ring d (by rw[<- hd];exact List.getElem_mem _)
 have p:=P.inv.pos c hc
 have qT:(vw on ds ts fs).T c=d.top:=ZaH hds
 have qB:(vw on ds ts fs).B c=d.bottom:=ZaH hds
 have qR:(vw on ds ts fs).R c=ZhS d.ring:=ZaH hds
 have hbe:=(P.be hc).1
 have p0:=p.T0
 have pTB:=p.TB
 rw[qT] at p0 pTB
 rw[hbe,qB] at pTB
 rw[qB] at hB
 have dok:ZtP d:=⟨hring,p0,by omega,by omega,by omega⟩
 have hpl:=ZB0 (k:=d.bottom) (by omega) hB
 have hlt:d.bottom.toNat<d.ring.length:=by rw[hring];omega
 refine⟨ds.set c ⟨d.ring.set d.bottom.toNat n,d.top,d.bottom+1⟩,?_,?_,fun i=>?_⟩
 ·unfold ZeU
  rw[ZN hds,Option.bind_some]
  unfold Zmb
  rw[ZlD dok,Option.bind_some,show((0:Int) != 0)=false from rfl,cond_false,decide_eq_false (show ¬d.bottom<d.top by omega),cond_false,ZaA (by omega) (by omega),hring,show(d.bottom-d.top==((64:Nat):Int))=false from beq_eq_false_iff_ne.2 (by omega),cond_false,Zwf hring,Option.bind_some,Zse hring,Option.bind_some,Zwm hring,Option.bind_some,hpl,ZaA (by omega) (by omega)]
  rfl
 ·
  have eT:(vw on (ds.set c ⟨d.ring.set d.bottom.toNat n,d.top,d.bottom+1⟩) ts fs).T=(vw on ds ts fs).T:=by
   show gt _ _ _=_
   rw[ZcX hcd]
   exact Zdi _ _ qT.symm
  have eB:(vw on (ds.set c ⟨d.ring.set d.bottom.toNat n,d.top,d.bottom+1⟩) ts fs).B=upd (vw on ds ts fs).B c (d.bottom+1):=ZcX hcd
  have eR:(vw on (ds.set c ⟨d.ring.set d.bottom.toNat n,d.top,d.bottom+1⟩) ts fs).R=upd (vw on ds ts fs).R c (ZhS (d.ring.set d.bottom.toNat n)):=ZcX hcd
  have rA:∀k,0<=k->k<64->ZhS (d.ring.set d.bottom.toNat n) k=if k=d.bottom then n else ZhS d.ring k:=fun k hk0 hk1=>by
   unfold ZhS gt
   rw[ZB0 hk0 hk1,List.getElem?_set]
   by_cases e:k=d.bottom
   ·subst e;rw[if_pos rfl,if_pos hlt,if_pos rfl];rfl
   ·rw[if_neg (by omega),if_neg e]
  generalize hW:vw on (ds.set c ⟨d.ring.set d.bottom.toNat n,d.top,d.bottom+1⟩) ts fs=W at eT eB eR
  have oO:W.O=(vw on ds ts fs).O:=by rw[<- hW];rfl
  have oa:W.a=(vw on ds ts fs).a:=by rw[<- hW];rfl
  have ox:W.x=(vw on ds ts fs).x:=by rw[<- hW];rfl
  have oy:W.y=(vw on ds ts fs).y:=by rw[<- hW];rfl
  have oF:W.F=(vw on ds ts fs).F:=by rw[<- hW];rfl
  have wa:∀i,i<m->W.a i=0:=fun i hi=>by rw[oa];exact P.a0 i hi
  have wB:∀i,W.B i=if i=c then d.bottom+1 else (vw on ds ts fs).B i:=fun i=>by rw[eB];rfl
  have wit:∀i k,Item m W i k↔Item m (vw on ds ts fs) i k∨(i=c/\k=d.bottom):=fun i k=>by
   unfold Item
   constructor
   ·rintro ⟨h1,h2,h3⟩
    have e1:W.lo i=W.T i:=by unfold Zj.lo;rw[if_neg (by have:=wa i h1;omega)]
    have e2:W.be i=W.B i:=by unfold Zj.be;rw[if_neg (by have:=wa i h1;omega)]
    rw[e1,eT] at h2
    rw[e2,wB] at h3
    obtain⟨q1,q2⟩:=P.be h1
    by_cases e:i=c
    ·subst e
     rw[if_pos rfl] at h3
     by_cases ek:k=d.bottom
     ·exact .inr ⟨rfl,ek⟩
     ·exact .inl ⟨h1,by rw[q2];exact h2,by rw[q1,qB];omega⟩
    ·rw[if_neg e] at h3
     exact .inl ⟨h1,by rw[q2];exact h2,by rw[q1];exact h3⟩
   ·have back:∀i,i<m->W.lo i=(vw on ds ts fs).T i/\W.be i=W.B i:=fun i h1=>by
     have:=wa i h1
     constructor
     ·unfold Zj.lo;rw[if_neg (by omega),eT]
     ·unfold Zj.be;rw[if_neg (by omega)]
    rintro (⟨h1,h2,h3⟩ | ⟨rfl,rfl⟩)
    ·obtain⟨q1,q2⟩:=P.be h1
     obtain⟨b1,b2⟩:=back i h1
     rw[q2] at h2
     rw[q1] at h3
     refine⟨h1,by rw[b1];exact h2,?_⟩
     rw[b2,wB]
     by_cases e:i=c
     ·subst e;rw[if_pos rfl];rw[qB] at h3;omega
     ·rw[if_neg e];exact h3
    ·obtain⟨b1,b2⟩:=back i hc
     refine⟨hc,by rw[b1,qT];omega,?_⟩
     rw[b2,wB,if_pos rfl];omega
  have wR:∀i k,Item m (vw on ds ts fs) i k->W.R i k=(vw on ds ts fs).R i k:=fun i k hi=>by
   rw[eR]
   by_cases e:i=c
   ·subst e
    rw[ZaE,qR]
    obtain⟨q1,q2⟩:=P.be hc
    obtain⟨_,h2,h3⟩:=hi
    rw[q2,qT] at h2
    rw[q1,qB] at h3
    rw[rA k (by omega) (by omega),if_neg (by omega)]
   ·rw[ZwH _ _ e]
  have wn:W.R c d.bottom=n:=by
   rw[eR,ZaE,rA d.bottom (by omega) hB,if_pos rfl]
  refine⟨by rw[List.length_set];exact P.dl,fun x hx=>?_,?_,fun i hi=>by rw[hW];exact wa i hi⟩
  ·rcases Ze7 hx with hx | hx
   ·exact P.ring x hx
   ·rw[hx];show(d.ring.set _ _).length=64;rw[List.length_set];exact hring
  ·rw[hW]
   refine⟨fun i hi=>?_,⟨fun i k hk=>?_,fun i k i' k' h1 h2 h3=>?_,fun x hx ho=>?_⟩⟩
   ·have pi:=P.inv.pos i hi
    have q1:=(P.be hi).1
    have t1:=pi.TB
    have t2:=pi.B64
    rw[q1] at t1 t2
    refine Pos.still (wa i hi) (by rw[oF];exact pi.F) (fun h=>by rw[oF];rw[oO] at h;exact(pi.busy h).2) (by rw[eT];exact pi.T0) ?_ ?_ (by rw[ox];exact pi.rx) (by rw[oy];exact pi.ry)
    ·rw[eT,wB]
     by_cases e:i=c
     ·subst e;rw[if_pos rfl,qT];omega
     ·rw[if_neg e];exact t1
    ·rw[wB]
     by_cases e:i=c
     ·rw[if_pos e];omega
     ·rw[if_neg e];exact t2
   ·rw[oO]
    rcases(wit i k).1 hk with h1 | ⟨rfl,rfl⟩
    ·obtain⟨r1,r2⟩:=P.inv.items.rdy i k h1
     rw[wR i k h1]
     exact⟨.inl r1,r2⟩
    ·rw[wn]
     exact⟨.inr rfl,hno⟩
   ·rcases(wit i k).1 h1 with h1 | ⟨rfl,rfl⟩
    ·rcases(wit i' k').1 h2 with h2 | ⟨rfl,rfl⟩
     ·rw[wR i k h1,wR i' k' h2] at h3
      exact P.inv.items.inj i k i' k' h1 h2 h3
     ·rw[wn,wR i k h1] at h3
      exact absurd (h3 ▸ (P.inv.items.rdy i k h1).1) hnb
    ·rcases(wit i' k').1 h2 with h2 | ⟨rfl,rfl⟩
     ·rw[wn,wR i' k' h2] at h3
      exact absurd (h3 ▸ (P.inv.items.rdy i' k' h2).1) hnb
     ·exact⟨rfl,rfl⟩
   ·rw[oO] at ho
    rcases hx with hx | rfl
    ·obtain⟨i,k,h1,h2⟩:=P.inv.items.all x hx ho
     exact⟨i,k,(wit i k).2 (.inl h1),by rw[wR i k h1];exact h2⟩
    ·exact⟨c,d.bottom,(wit c d.bottom).2 (.inr ⟨rfl,rfl⟩),wn⟩
 ·show gt _ _ _ _=_
  rw[ZcX hcd]
  unfold upd
  rw[qB]
  rfl
theorem Zk3:∀(l m:List Int),l.Nodup->(∀x∈l,x∈m)->l.length<=m.length
 | [],_,_,_=>Nat.zero_le _
 | x :: l,m,hn,hs=>by
  have hn:=List.nodup_cons.1 hn
  have hx:x∈m:=hs x (by simp)
  have h1:=Zk3 l (m.erase x) hn.2 fun y hy=>(List.mem_erase_of_ne (fun e:y=x=>hn.1 (e ▸ hy))).2 (hs y (by simp[hy]))
  rw[List.length_erase_of_mem hx] at h1
  have:=List.length_pos_of_mem hx
  rw[List.length_cons]
  omega
def ZnG (E:List Zi) (left:List Int):Nat:=(((List.range left.length).filter fun i:Nat=>Zrq E left (i:Int)).map fun i:Nat=>(i:Int)).length
theorem ZDi (E:List Zi) (left:List Int):ZnG E left<=left.length:=by
 unfold ZnG
 rw[List.length_map]
 exact Nat.le_trans (List.length_filter_le _ _) (by rw[List.length_range];exact Nat.le_refl _)
theorem Zym {E:List Zi}{left left':List Int} (hl:left'.length=left.length) (hm:∀n,isN left n->Zl0 E left n->Zl0 E left' n) {S:List Int} (hS:S.Nodup) (hin:∀s∈S,isN left s/\Zl0 E left' s/\¬Zl0 E left s):ZnG E left+S.length<=ZnG E left':=by
 unfold ZnG
 rw[<- List.length_append]
 refine Zk3 _ _ ?_ fun x hx=>?_
 ·rw[List.nodup_append]
  refine⟨List.Pairwise.map _ (fun a b (h:a≠b)=>by omega) (List.Pairwise.filter _ List.nodup_range),hS,fun a ha b hb e=>?_⟩
  subst e
  obtain⟨h1,h2,h3⟩:=ZjW.1 ha
  rw[Int.toNat_of_nonneg h1] at h3
  exact(hin a hb).2.2 (Zha.1 h3)
 ·rw[hl]
  rcases List.mem_append.1 hx with hx | hx
  ·obtain⟨h1,h2,h3⟩:=ZjW.1 hx
   refine ZjW.2 ⟨h1,h2,?_⟩
   rw[Int.toNat_of_nonneg h1] at h3 ⊢
   exact Zha.2 (hm x ⟨h1,h2⟩ (Zha.1 h3))
  ·obtain⟨h1,h2,_⟩:=hin x hx
   exact ZjW.2 ⟨h1.1,h1.2,by rw[Int.toNat_of_nonneg h1.1];exact Zha.2 h2⟩
theorem ZGh {g:ZF} (hc:Za6 g=0) (n:Int):∃r,Zks g n=some r/\(∀z,z∈r↔∃e∈g.edges,e.src=n/\e.dst=z)/\r.length<=256:=by
 obtain⟨h,_⟩:=Za9 hc
 have hel:=h.el
 have key:=Zy8 g.edges (by omega) (fun e:Zi=>e.src==n) (fun _ e=>e.dst) (Zdw g fun z0=>Zgu z0 n) (fun i x s hi hx=>by
  simp only[Zdw,Zcx hi,cond_true,ZN hx,Option.bind_some,Zgu,ZL hi h.short.e]
  cases x.src==n<;>rfl) (fun s=>by simp only[Zdw,ZdO,cond_false]) [] (by simp)
 rw[List.nil_append] at key
 have hlen:(sel (fun e:Zi=>e.src==n) (fun _ e=>e.dst) 0 g.edges).length<=256:=Nat.le_trans (Zu0 _ _ _ _) hel
 obtain⟨r,h1,h2,_⟩:=ZnH _ (Nat.le_trans hlen (by omega))
 refine⟨r,?_,fun z=>?_,by rw[h2.length_eq];exact hlen⟩
 ·unfold Zks
  rw[Zim g h.short,hc,Option.bind_some,show((0:Int) != 0)=false from rfl,cond_false]
  unfold Zjw
  simp only[key,Option.bind_some,h1]
 ·rw[h2.mem_iff,Zps]
  constructor
  ·rintro ⟨j,x,hx,h3,h4⟩
   exact⟨x,List.mem_of_getElem? hx,by simpa using h3,h4.symm⟩
  ·rintro ⟨e,he,h3,h4⟩
   obtain⟨j,hj⟩:=List.getElem?_of_mem he
   exact⟨j,e,hj,by simpa using h3,h4.symm⟩
section
variable {g:ZF} {m:Nat} {left row:List Int}
theorem ZxE {fs:List Int}{ds:List Zn}{ts:List ZA} (G:GangIn g m left row ds ts fs) (hw:∀c,¬ZfK m (vw row ds ts fs) c):(∀i,i<m->(vw row ds ts fs).a i=0)/\(-1∈row->∀n,¬Rdy g.edges left row n):=by
 have a0:∀i,i<m->(vw row ds ts fs).a i=0:=fun i hi=>Classical.byContradiction fun h=>by
  by_cases hO:(vw row ds ts fs).O i = -1
  ·exact hw i ⟨hi,hO,.inr h⟩
  ·exact h ((G.inv.pos i hi).busy hO).1
 refine⟨a0,fun hi n hr=>?_⟩
 obtain⟨c,hc⟩:=List.getElem?_of_mem hi
 have hcm:c<m:=by rw[<- G.ol];exact(List.getElem?_eq_some_iff.1 hc).1
 obtain⟨j,k,⟨hj,h1,h2⟩,_⟩:=G.inv.items.all n ⟨hr.1,hr.2.1,hr.2.2.2⟩ fun i him h=>by
  have hx:=List.getElem?_eq_getElem (show i<row.length by rw[G.ol];exact him)
  rw[Zoy row ds ts fs hx] at h
  exact hr.2.2.1 (h ▸ List.getElem_mem _)
 have hja:=a0 j hj
 have e1:(vw row ds ts fs).lo j=(vw row ds ts fs).T j:=by unfold Zj.lo;rw[if_neg (by omega)]
 have e2:(vw row ds ts fs).be j=(vw row ds ts fs).B j:=by unfold Zj.be;rw[if_neg (by omega)]
 exact hw c ⟨hcm,Zoy row ds ts fs hc,.inl ⟨j,hj,by omega⟩⟩
theorem ZsJ (c:ZdX g left row) (hall : -1∈row->∀n,¬Rdy g.edges left row n):Zht g.edges left row row:=
 ⟨rfl,fun c n h _=>h,fun c n h1 h2=>by rw[h1] at h2;exact .inl (Option.some.inj h2).symm,c.ok.one,hall⟩
def ZBe (g:ZF) (left row:List Int) (s:Int):Prop:=Rdy g.edges (Zar left row) (Zad left row) s/\¬Zl0 g.edges left s
def was (g:ZF) (left row:List Int) (n:Int):Prop:=Rdy g.edges left row n∨(n∈Zad left row/\n ≠ -1)
structure TI (g:ZF) (m:Nat) (left row:List Int) (ts:List ZA) (fs:List Int) (ds:List Zn) (pushed:List Int):Prop where
 pg:PG m (fun x=>was g left row x∨x∈pushed) (Zad left row) ds ts fs
 nod:pushed.Nodup
 new:∀s∈pushed,ZBe g left row s
 cnt:∀c,c<m->(vw (Zad left row) ds ts fs).B c<=(ZnG g.edges left+pushed.length:Nat)
theorem ZH9 {s:Int} (h:ZBe g left row s):isN left s:=⟨h.1.1.1,by have:=h.1.1.2;rwa [ZeH] at this⟩
theorem Ztd {n:Int} (h:n∈Zad left row):n = -1∨(n∈row/\lf (Zar left row) n≠0):=by
 rw[ZfG] at h
 obtain⟨k,hk,rfl⟩:=List.mem_map.1 h
 unfold Zja
 by_cases h1:k = -1
 ·rw[if_pos h1];exact .inl rfl
 ·rw[if_neg h1]
  by_cases h2:lf (Zar left row) k=0
  ·rw[if_pos h2];exact .inl rfl
  ·rw[if_neg h2];exact .inr ⟨hk,h2⟩
theorem ZA8 {n:Int} (h:n∈row) (h1:n ≠ -1) (h2:lf (Zar left row) n≠0):n∈Zad left row:=by
 rw[ZfG]
 refine List.mem_map.2 ⟨n,h,?_⟩
 unfold Zja
 rw[if_neg h1,if_neg h2]
theorem TI.more (hG:ZgT g) (c:ZdX g left row) (hall : -1∈row->∀n,¬Rdy g.edges left row n) {S:List Int} (hS:S.Nodup) (hn:∀s∈S,ZBe g left row s):ZnG g.edges left+S.length<=ZnG g.edges (Zar left row):=
 Zym (ZeH _ _) (fun n _ hf=>(ZsJ c hall).free (by rw[c.ll];exact Zhk hG) c.ok hf) hS fun s hs=>⟨ZH9 (hn s hs),(hn s hs).1.2.2.2,(hn s hs).2⟩
theorem Zxg {s:Int} (c:ZdX g left row) (h:ZBe g left row s):¬was g left row s:=by
 rintro (h1 | ⟨h1,_⟩)
 ·exact h.2 h1.2.2.2
 ·exact h.1.2.2.1 h1
theorem ZBt (hc:Za6 g=0) (cr:ZdX g left row) (hall : -1∈row->∀n,¬Rdy g.edges left row n) (hm:row.length=m) {ts:List ZA}{fs:List Int}{c:Nat} (hcm:c<m) {R:List Int} (hR:∀z,z∈R↔Rdy g.edges (Zar left row) (Zad left row) z) (hRl:R.length<=64)
  {l:List Int} (hl:l.length<=256) (hnew:∀s∈l,Rdy g.edges (Zar left row) (Zad left row) s->¬Zl0 g.edges left s) {D0:List Zn} {p0:List Int} :
  ∀(k i:Nat) (ds:List Zn) (pushed:List Int),i+k=l.length->TI g m left row ts fs ds pushed ->
   ∃ds' pushed',lp (Zci R ((c:Int),D0,p0) l) ((i:Int),ds,pushed)=some (.inr (ds',pushed'))/\TI g m left row ts fs ds' pushed'/\(∀s∈pushed,s∈pushed')/\∀s∈l.drop i,Rdy g.edges (Zar left row) (Zad left row) s->s∈pushed':=by
 obtain⟨hG,hA⟩:=Za9 hc
 have h8:m<=8:=by rw[<- hm];exact cr.o8
 have h64:(Zar left row).length<=64:=by rw[ZeH,cr.ll];exact hG.wl
 intro k
 induction k with
 | zero=>
  intro i ds pushed hi T
  have hi:i=l.length:=by omega
  subst hi
  refine⟨ds,pushed,?_,T,fun _ h=>h,fun s hs=>by rw[List.drop_length] at hs;cases hs⟩
  rw[Zae]
  simp only[Zci,ZdO,cond_false]
 | succ k ih=>
  intro i ds pushed hi T
  have hi':i<l.length:=by omega
  have hx:=List.getElem?_eq_getElem hi'
  generalize hs:l[i]=s at hx
  have hdrop:l.drop i=s :: l.drop (i+1):=by rw[<- hs];exact List.drop_eq_getElem_cons hi'
  have hpl:=TI.more hG cr hall T.nod T.new
  have hfl:=ZDi g.edges (Zar left row)
  have hpl64:pushed.length<=64:=by omega
  rw[Zae]
  simp only[Zci,Zcx hi',cond_true,ZN hx,Option.bind_some,ZlO R s (by omega),Zr9,ZL hi' (show l.length<9223372036854775808 by omega)]
  by_cases h1:s∈R
  ·rw[decide_eq_true h1,cond_true,ZlO pushed s (by omega),Option.bind_some,Zr9]
   have hr:=(hR s).1 h1
   by_cases h2:s∈pushed
   ·rw[decide_eq_true h2,cond_true]
    obtain⟨ds',p',q1,q2,q3,q4⟩:=ih (i+1) ds pushed (by omega) T
    refine⟨ds',p',q1,q2,q3,fun z hz hzr=>?_⟩
    rw[hdrop] at hz
    rcases List.mem_cons.1 hz with rfl | hz
    ·exact q3 z h2
    ·exact q4 z hz hzr
   ·rw[decide_eq_false h2,cond_false]
    have hN:ZBe g left row s:=⟨hr,hnew s (by rw[<- hs];exact List.getElem_mem _) hr⟩
    have hnod:(pushed++[s]).Nodup:=by
     rw[List.nodup_append]
     refine⟨T.nod,by simp,fun a ha b hb e=>?_⟩
     rw[List.mem_singleton] at hb
     exact h2 (hb ▸ e ▸ ha)
    have hnn:∀z∈pushed++[s],ZBe g left row z:=fun z hz=>by
     rcases List.mem_append.1 hz with hz | hz
     ·exact T.new z hz
     ·rw[List.mem_singleton] at hz;rw[hz];exact hN
    have hml:=TI.more hG cr hall hnod hnn
    rw[List.length_append,List.length_singleton] at hml
    have hcnt:=T.cnt c hcm
    obtain⟨ds1,e1,e2,e3⟩:=ZD0 (n:=s) T.pg hcm h8 (by omega) (by
     rintro (h3 | h3)
     ·exact Zxg cr hN h3
     ·exact h2 h3) (fun j hj he=>by
     have hol:(Zad left row).length=m:=by rw[ZfG,List.length_map,hm]
     have hxj:=List.getElem?_eq_getElem (show j<(Zad left row).length by omega)
     rw[Zoy _ ds ts fs hxj] at he
     exact hr.2.2.1 (he ▸ List.getElem_mem _))
    have T1:TI g m left row ts fs ds1 (pushed++[s]):=by
     refine⟨⟨e2.dl,e2.ring,e2.inv.congr fun n=>?_,e2.a0⟩,hnod,hnn,fun j hj=>?_⟩
     ·rw[List.mem_append,List.mem_singleton,or_assoc]
     ·rw[e3 j,List.length_append,List.length_singleton]
      have:=T.cnt j hj
      split<;>omega
    obtain⟨ds',p',q1,q2,q3,q4⟩:=ih (i+1) ds1 (pushed++[s]) (by omega) T1
    refine⟨ds',p',?_,q2,fun z hz=>q3 z (by simp[hz]),fun z hz hzr=>?_⟩
    ·rw[e1,Option.bind_some,Zgn (show pushed.length+1<=1073741824 by omega)]
     exact q1
    ·rw[hdrop] at hz
     rcases List.mem_cons.1 hz with rfl | hz
     ·exact q3 z (by simp)
     ·exact q4 z hz hzr
  ·rw[decide_eq_false h1,cond_false]
   obtain⟨ds',p',q1,q2,q3,q4⟩:=ih (i+1) ds pushed (by omega) T
   refine⟨ds',p',q1,q2,q3,fun z hz hzr=>?_⟩
   rw[hdrop] at hz
   rcases List.mem_cons.1 hz with rfl | hz
   ·exact absurd ((hR z).2 hzr) h1
   ·exact q4 z hz hzr
structure Zw5 (g:ZF) (m:Nat) (left on:List Int) (ds:List Zn) (ts:List ZA) (fs:List Int):Prop extends GangIn g m left on ds ts fs where
 bnd:∀c,c<m->(vw on ds ts fs).be c<=(ZnG g.edges left:Nat)
theorem Zsk (c:ZdX g left row) {z:Int}:z∈Zcv g.edges left row↔Rdy g.edges left row z:=ZoN fun x hx=>(c.ok.rng x hx).1
theorem Zou (E:List Zi) (left on:List Int):(Zcv E left on).length<=left.length:=by
 unfold Zcv
 rw[List.length_map]
 exact Nat.le_trans (List.length_filter_le _ _) (by rw[List.length_range];exact Nat.le_refl _)
theorem Zze (hc:Za6 g=0) {ts:List ZA}{fs:List Int}{ds:List Zn} (G:Zw5 g m left row ds ts fs) (hw:∀c,¬ZfK m (vw row ds ts fs) c) :
  ∃ds' done,ZgH g.work g.edges row left ds=some (.inr (.inr (ds',done,Zad left row,Zar left row)))/\Zw5 g m (Zar left row) (Zad left row) ds' ts fs/\∀z,z∈done↔z∈row/\z ≠ -1/\lf (Zar left row) z=0:=by
 obtain⟨hG,hA⟩:=Za9 hc
 have cr:=G.crew
 obtain⟨a0,hall⟩:=ZxE G.toGangIn hw
 have F:=ZsJ cr hall
 have hE:Zgb g.edges left.length:=by rw[cr.ll];exact Zhk hG
 have h8:m<=8:=by rw[<- G.ol];exact cr.o8
 obtain⟨done,t1,t2⟩:=Zy2 hc cr
 have hol:(Zad left row).length=m:=by rw[ZfG,List.length_map,G.ol]
 have cr':ZdX g (Zar left row) (Zad left row):=⟨by rw[ZeH];exact cr.ll,by rw[hol,<- G.ol];exact cr.o1,by rw[hol];exact h8,F.next hE cr.ok⟩
 have wO:∀i,i<m->(vw (Zad left row) ds ts fs).O i=Zja left row ((vw row ds ts fs).O i):=fun i hi=>by
  have hx:=List.getElem?_eq_getElem (show i<row.length by rw[G.ol];exact hi)
  rw[Zoy row ds ts fs hx]
  refine Zoy _ ds ts fs ?_
  rw[ZfG,List.getElem?_map,hx];rfl
 have T0:TI g m left row ts fs ds []:=by
  refine⟨⟨G.dl,G.ring,⟨fun i hi=>?_,⟨fun i k hk=>?_,fun i k i' k' h1 h2 h3=>G.inv.items.inj i k i' k' h1 h2 h3,fun n hn ho=>?_⟩⟩,a0⟩,by simp,fun s hs=>(by cases hs),fun c hcm=>?_⟩
  ·have p:=G.inv.pos i hi
   have hb:(vw row ds ts fs).be i=(vw row ds ts fs).B i:=by unfold Zj.be;rw[if_neg (by have:=a0 i hi;omega)]
   have p1:=p.TB
   have p2:=p.B64
   rw[hb] at p1 p2
   refine Pos.still (W:=vw (Zad left row) ds ts fs) (a0 i hi) p.F (fun h=>?_) p.T0 p1 p2 p.rx p.ry
   rw[wO i hi] at h
   refine(p.busy fun h2=>?_).2
   rw[h2] at h
   exact h rfl
  ·obtain⟨h1,h2⟩:=G.inv.items.rdy i k hk
   have hnr:(vw row ds ts fs).R i k∉row:=fun hm=>by
    obtain⟨j,hj⟩:=List.getElem?_of_mem hm
    exact h2 j (by rw[<- G.ol];exact(List.getElem?_eq_some_iff.1 hj).1) (Zoy row ds ts fs hj)
   refine⟨.inl (.inl ⟨h1.1,h1.2.1,hnr,h1.2.2⟩),fun j hj he=>?_⟩
   rw[wO j hj] at he
   have hjr:j<row.length:=by rw[G.ol];exact hj
   have hx:=List.getElem?_eq_getElem hjr
   rw[Zoy row ds ts fs hx] at he
   have hm:(vw row ds ts fs).R i k∈Zad left row:=by
    rw[ZfG]
    exact List.mem_map.2 ⟨row[j],List.getElem_mem _,he⟩
   rcases Ztd hm with h | ⟨h,_⟩
   ·exact Zl9 _ h1 h
   ·exact hnr h
  ·have hno:n∉Zad left row:=fun hm=>by
    obtain⟨j,hj⟩:=List.getElem?_of_mem hm
    exact ho j (by rw[<- hol];exact(List.getElem?_eq_some_iff.1 hj).1) (Zoy _ ds ts fs hj)
   rcases hn with(hn | hn) | hn
   ·exact G.inv.items.all n ⟨hn.1,hn.2.1,hn.2.2.2⟩ fun j hj he=>by
     have hx:=List.getElem?_eq_getElem (show j<row.length by rw[G.ol];exact hj)
     rw[Zoy row ds ts fs hx] at he
     exact hn.2.2.1 (he ▸ List.getElem_mem _)
   ·exact absurd hn.1 hno
   ·cases hn
  ·have hb:(vw row ds ts fs).be c=(vw row ds ts fs).B c:=by unfold Zj.be;rw[if_neg (by have:=a0 c hcm;omega)]
   have:=G.bnd c hcm
   rw[hb] at this
   exact this
 have hR:∀z,z∈Zcv g.edges (Zar left row) (Zad left row)↔Rdy g.edges (Zar left row) (Zad left row) z:=fun z=>Zsk cr'
 have hRl:(Zcv g.edges (Zar left row) (Zad left row)).length<=64:=Nat.le_trans (Zou _ _ _) (by rw[ZeH,cr.ll];exact hG.wl)
 have loop:∀(k i:Nat) (ds:List Zn) (pushed:List Int),i+k=row.length->TI g m left row ts fs ds pushed ->
   ∃ds' pushed',lp (Zck g.work g.edges row (Zad left row,Zar left row,done) (Zcv g.edges (Zar left row) (Zad left row))) ((i:Int),ds,pushed)=some (.inr ds')/\TI g m left row ts fs ds' pushed'/\(∀s∈pushed,s∈pushed') /\
    ∀n∈row.drop i,n ≠ -1->lf (Zar left row) n=0->∀e∈g.edges,e.src=n->Rdy g.edges (Zar left row) (Zad left row) e.dst->e.dst∈pushed':=by
  intro k
  induction k with
  | zero=>
   intro i ds pushed hi T
   have hi:i=row.length:=by omega
   subst hi
   refine⟨ds,pushed,?_,T,fun _ h=>h,fun n hn=>by rw[List.drop_length] at hn;cases hn⟩
   rw[Zae]
   simp only[Zck,ZdO,cond_false]
  | succ k ih=>
   intro i ds pushed hi T
   have hi':i<row.length:=by omega
   have hx:=List.getElem?_eq_getElem hi'
   generalize hn:row[i]=n at hx
   have hdrop:row.drop i=n :: row.drop (i+1):=by rw[<- hn];exact List.drop_eq_getElem_cons hi'
   have hy:(Zad left row)[i]? = some (Zja left row n):=by rw[ZfG,List.getElem?_map,hx];rfl
   have hmem:n∈row:=by rw[<- hn];exact List.getElem_mem _
   rw[Zae]
   simp only[Zck,Zcx hi',cond_true,ZN hx,ZN hy,Option.bind_some,ZL hi' (show row.length<9223372036854775808 by have:=G.ol;omega)]
   by_cases h1:n = -1
   ·rw[show(n == -1)=true from beq_iff_eq.2 h1,cond_true]
    obtain⟨ds',p',q1,q2,q3,q4⟩:=ih (i+1) ds pushed (by omega) T
    refine⟨ds',p',q1,q2,q3,fun z hz hz1=>?_⟩
    rw[hdrop] at hz
    rcases List.mem_cons.1 hz with rfl | hz
    ·exact absurd h1 hz1
    ·exact q4 z hz hz1
   ·rw[show(n == -1)=false from beq_eq_false_iff_ne.2 h1,cond_false]
    by_cases h2:lf (Zar left row) n=0
    ·have e1:Zja left row n = -1:=by unfold Zja;rw[if_neg h1,if_pos h2]
     rw[e1,show((-1:Int) != -1)=false from rfl,cond_false]
     obtain⟨r,s1,s2,s3⟩:=ZGh hc n
     rw[s1,Option.bind_some]
     obtain⟨ds1,p1,q1,q2,q3,q4⟩:=ZBt (c:=i) hc cr hall G.ol (by rw[<- G.ol];exact hi') hR hRl s3 (D0:=ds) (p0:=pushed) (fun s hs hr hf=>by
      obtain⟨e,he,he1,he2⟩:=(s2 s).1 hs
      have h0:=hf e he he2
      rw[he1] at h0
      rcases cr.ok.run n hmem with h3 | ⟨_,h3,_⟩
      ·exact h1 h3
      ·omega) r.length 0 ds pushed (by omega) T
     rw[show(lp (Zci (Zcv g.edges (Zar left row) (Zad left row)) ((i:Int),ds,pushed) r) (0,ds,pushed))=_ from q1,Option.bind_some]
     obtain⟨ds',p',r1,r2,r3,r4⟩:=ih (i+1) ds1 p1 (by omega) q2
     refine⟨ds',p',r1,r2,fun z hz=>r3 z (q3 z hz),fun z hz hz1 hz2 e he he1 her=>?_⟩
     rw[hdrop] at hz
     rcases List.mem_cons.1 hz with rfl | hz
     ·exact r3 _ (q4 e.dst (by rw[List.drop_zero];exact(s2 _).2 ⟨e,he,he1,rfl⟩) her)
     ·exact r4 z hz hz1 hz2 e he he1 her
    ·have e1:Zja left row n=n:=by unfold Zja;rw[if_neg h1,if_neg h2]
     rw[e1,show(n != -1)=true by simpa using h1,cond_true]
     obtain⟨ds',p',q1,q2,q3,q4⟩:=ih (i+1) ds pushed (by omega) T
     refine⟨ds',p',q1,q2,q3,fun z hz hz1 hz2=>?_⟩
     rw[hdrop] at hz
     rcases List.mem_cons.1 hz with rfl | hz
     ·exact absurd hz2 h2
     ·exact q4 z hz hz1 hz2
 obtain⟨ds',p',q1,q2,_,q4⟩:=loop row.length 0 ds [] (by omega) T0
 have hbase:∀n,(was g left row n∨n∈p')↔base g.edges (Zar left row) n:=fun n=>by
  have hlen:=ZeH row left
  constructor
  ·rintro ((h | ⟨h,h1⟩) | h)
   ·refine⟨⟨h.1.1,by rw[hlen];exact h.1.2⟩,?_,F.free hE cr.ok h.2.2.2⟩
    rw[F.tick_lf cr.ok h.1.1,if_neg h.2.2.1]
    exact h.2.1
   ·rcases Ztd h with h2 | ⟨h2,h3⟩
    ·exact absurd h2 h1
    ·rcases cr.ok.run n h2 with h4 | ⟨h4,h5,h6⟩
     ·exact absurd h4 h1
     ·refine⟨⟨h4.1,by rw[hlen];exact h4.2⟩,?_,F.free hE cr.ok h6⟩
      have:=(Zv7 cr'.ok n).1
      omega
   ·have:=q2.new n h
    exact⟨this.1.1,this.1.2.1,this.1.2.2.2⟩
  ·rintro ⟨h1,h2,h3⟩
   have hN:isN left n:=⟨h1.1,by rw[<- hlen];exact h1.2⟩
   by_cases ho:n∈Zad left row
   ·exact .inl (.inr ⟨ho,by have:=h1.1;omega⟩)
   ·by_cases hf:Zl0 g.edges left n
    ·have hle:=F.tick_le cr.ok h1.1
     refine .inl (.inl ⟨hN,by omega,fun hr=>ho (ZA8 hr (by have:=h1.1;omega) (by omega)),hf⟩)
    ·right
     have:∃e∈g.edges,e.dst=n/\lf left e.src≠0:=Classical.byContradiction fun hcn=>hf fun e he hd=>Classical.byContradiction fun hx=>hcn ⟨e,he,hd,hx⟩
     obtain⟨e,he,hd,hx⟩:=this
     have hs:=hE e he
     have h0:=h3 e he hd
     have hr:e.src∈row:=Classical.byContradiction fun hr=>by
      rw[F.tick_lf cr.ok hs.1.1,if_neg hr] at h0
      exact hx h0
     have:=q4 e.src (by rw[List.drop_zero];exact hr) (by have:=hs.1.1;omega) h0 e he rfl (by rw[hd];exact⟨h1,h2,ho,h3⟩)
     rwa [hd] at this
 have hmore:=TI.more hG cr hall q2.nod q2.new
 refine⟨ds',done,?_,⟨⟨cr',hol,q2.pg.dl,G.tl,G.fl,q2.pg.ring,G.en,G.f0,G.st,fun i n ti hi hn hti=>(by
  rw[ZfG,List.getElem?_map] at hi
  cases hr:row[i]? with
  | none=>rw[hr] at hi;cases hi
  | some k=>
   rw[hr] at hi
   have hk:Zja left row k=n:=Option.some.inj hi
   exact G.bz i k ti hr (fun e=>hn (by rw[<- hk,e];rfl)) hti),q2.pg.inv.congr hbase⟩,fun c hcm=>?_⟩,t2⟩
 ·unfold ZgH
  rw[Zmj (show row.length<=1073741824 by have:=G.ol;omega),Option.bind_some,show(ZF.mk g.work g.edges)=g from rfl,t1,Option.bind_some]
  dsimp only
  rw[Zr0 hc cr',Option.bind_some,show(lp (Zck g.work g.edges row (Zad left row,Zar left row,done) (Zcv g.edges (Zar left row) (Zad left row))) (0,ds,([]:List Int)))=_ from q1]
  rfl
 ·rw[(q2.pg.be hcm).1]
  have:=q2.cnt c hcm
  omega
end
end Go.Proofs.YtgcfmiajkbbmeaaGreatDoor
namespace Go.Proofs.YtgcfmiajkbbmeaaGreatDoor
open Go Go.Proofs.YtgcfmiajkbbmeaaGreatDoorE
open Go.IntKind (u64 i64 u32 i32 u8)
def Znv (g:ZF) (need:List Int) (c:Int):Bool:=((need.length:Int)==(g.work.length:Int))&&(!(need.any fun n=>decide (n<1) || decide (1000<n))&&(decide (1<=c)&&decide (c<=8)))
noncomputable def Zws (g:ZF) (need:List Int) (c:Int):Int:=bif Za6 g==0 then (bif Znv g need c then 0 else 100) else Za6 g
theorem Zui (n:Int):Zde n=some (decide (n<1) || decide (1000<n)):=by
  unfold Zde
  cases decide (n<1)<;>cases decide (1000<n)<;>rfl
theorem Zwd {g:ZF} (hs:ZoZ g) (need:List Int) (c:Int):ZiD g need c=some (bif Za6 g==0 then Znv g need c else false,Za6 g):=by
  unfold ZiD Znv
  rw[Zim g hs,Option.bind_some]
  by_cases h:Za6 g=0
  · rw[h]
    simp only[show((0:Int) != 0)=false from rfl,beq_self_eq_true,cond_false,cond_true]
    by_cases hl:(need.length:Int)=(g.work.length:Int)
    · have hw:=(Za9 h).1.wl
      rw[show((need.length:Int)==(g.work.length:Int))=true from beq_iff_eq.2 hl,ZdF need _ (fun n=>decide (n<1) || decide (1000<n)) (fun n _=>Zui n) (by omega),Option.bind_some]
      cases (need.any fun n=>decide (n<1) || decide (1000<n))<;>cases decide (1<=c)<;>cases decide (c<=8)<;>rfl
    · rw[show((need.length:Int)==(g.work.length:Int))=false from beq_eq_false_iff_ne.2 hl]
      rfl
  · rw[show(Za6 g != 0)=true by simpa using h,show(Za6 g==0)=false from beq_eq_false_iff_ne.2 h]
    rfl
structure Zo6 (g:ZF) (need:List Int) (c:Int):Prop where
  ck:Za6 g=0
  nl:need.length=g.work.length
  rng:∀x∈need,1<=x/\x<=1000
  c1:1<=c
  c8:c<=8
theorem Zr7 {g:ZF}{need:List Int}{c:Int}:Zws g need c=0↔Zo6 g need c:=by
  unfold Zws
  constructor
  · intro h
    by_cases h1:Za6 g=0
    · rw[h1] at h
      cases h2:Znv g need c with
      | false=>rw[h2] at h;exact absurd h (by decide)
      | true=>
        unfold Znv at h2
        simp only[Bool.and_eq_true,Bool.not_eq_true',beq_iff_eq,decide_eq_true_eq,List.any_eq_false,Bool.or_eq_true,not_or] at h2
        refine⟨h1,by omega,fun x hx=>?_,h2.2.2.1,h2.2.2.2⟩
        have:=h2.2.1 x hx
        omega
    · rw[show(Za6 g==0)=false from beq_eq_false_iff_ne.2 h1] at h
      exact absurd h h1
  · intro h
    have:Znv g need c=true:=by
      unfold Znv
      simp only[Bool.and_eq_true,Bool.not_eq_true',beq_iff_eq,decide_eq_true_eq,List.any_eq_false,Bool.or_eq_true,not_or]
      exact⟨by rw[h.nl],fun x hx=>by have:=h.rng x hx;omega,h.c1,h.c8⟩
    rw[h.ck,this];rfl
theorem ZGb (need:List Int) (h:need.length<=64):Zix need=some (List.replicate need.length (-1)):=by
  have key:=Zm4 (S:=List Int) need (ZcE need) (fun i s=>((i:Int),s)) (fun i s _=>s.set i (-1)) (fun s=>s) (fun i s=>s.length=need.length/\∀j,j<i->s[j]? = some (-1)) (fun i x s hi hx hI=>by
    have hy:=List.getElem?_eq_getElem (show i<s.length by rw[hI.1];exact hi)
    refine⟨?_,by rw[List.length_set];exact hI.1,fun j hj=>?_⟩
    · simp only[ZcE,Zcx hi,cond_true,ZN hy,Option.bind_some,ZL hi (show need.length<9223372036854775808 by omega),Int.toNat_natCast]
    · rw[List.getElem?_set]
      by_cases e:i=j
      · subst e;rw[if_pos rfl,if_pos (by rw[hI.1];exact hi)]
      · rw[if_neg e];exact hI.2 j (by omega)) (fun s _=>by simp only[ZcE,ZdO];rfl) (List.replicate (need.length:Int).toNat 0) ⟨by simp,fun j hj=>by omega⟩
  obtain⟨k1,k2,k3⟩:=key
  have e:Zfo (fun i s (_:Int)=>s.set i (-1)) 0 (List.replicate (need.length:Int).toNat 0) need=List.replicate need.length (-1):=by
    apply List.ext_getElem?
    intro j
    by_cases hj:j<need.length
    · rw[k3 j hj,List.getElem?_replicate,if_pos hj]
    · rw[List.getElem?_eq_none (by omega),List.getElem?_eq_none (by simp;omega)]
  rw[e] at k1
  unfold Zix
  rw[decide_eq_true (show(0:Int)<=(need.length:Int) by omega),decide_eq_true (show(need.length:Int)<=lim by show(need.length:Int)<=1073741824;omega),beq_self_eq_true]
  simp only[decide_true,Bool.and_true,cond_true]
  first
  | (rw[show(lp (ZcE need) (0,List.replicate (need.length:Int).toNat 0))=_ from k1];rfl)
  | simp only[show(lp (ZcE need) (0,List.replicate (need.length:Int).toNat 0))=_ from k1,Option.bind_some]
theorem Zun {g:ZF} (hs:ZoZ g) (need:List Int) (c:Int):ZiE g need c ([]:List (List Int))=some (Zws g need c):=by
  unfold ZiE Zmu
  rw[Zwd hs,Option.bind_some]
  dsimp only
  have hn:=@Zr7 g need c
  unfold Zws at hn ⊢
  by_cases h:Za6 g=0
  · rw[h] at hn ⊢
    simp only[beq_self_eq_true,cond_true] at hn ⊢
    cases h2:Znv g need c with
    | false=>rfl
    | true=>
      rw[h2] at hn
      have hin:=hn.1 rfl
      have hw:=(Za9 h).1.wl
      have hnl:=hin.nl
      rw[cond_true,show((0:Int) != 0)=false from rfl,cond_false]
      rw[show decide ((4096:Int)<(([]:List (List Int)).length:Int))=false from rfl,cond_false]
      have h0:Zbs ([]:List (List Int)) (fun z0=>ZfF z0 c)=some false:=by
        unfold Zbs ZcK
        rw[Zae]
        rfl
      rw[h0,Option.bind_some,cond_false,ZGb need (by omega),Option.bind_some,Zae]
      rfl
  · rw[show(Za6 g==0)=false from beq_eq_false_iff_ne.2 h]
    simp only[cond_false,show(Za6 g != 0)=true by simpa using h,cond_true]
    rfl
theorem Zw8 {S R:Type}{c:Nat} (step:Int×S->Option ((Int×S)⊕R)) (f:Nat->S) (fin:S->R) (h1:∀i,i<c->step ((i:Int),f i)=some (.inl (((i+1:Nat):Int),f (i+1)))) (h2:step ((c:Int),f c)=some (.inr (fin (f c)))):lp step (0,f 0)=some (fin (f c)):=by
  have key:∀(k i:Nat),i+k=c->lp step ((i:Int),f i)=some (fin (f c)):=by
    intro k
    induction k with
    | zero => intro i hi; have : i = c := by omega
              subst this;rw[Zae,h2]
    | succ k ih=>intro i hi;rw[Zae,h1 i (by omega)];exact ih (i+1) (by omega)
  exact key c 0 (by omega)
theorem Zx9 {α:Type} (i:Nat) (x:α):List.replicate i x++[x]=List.replicate (i+1) x:=by rw[List.replicate_succ']
theorem Zvt {g:ZF} (hs:ZoZ g) (need:List Int) (c:Int):Ziv g need c=some (bif Zws g need c==0 then .inr (List.replicate c.toNat (-1)) else .inl (Zws g need c)):=by
  unfold Ziv
  rw[Zun hs,Option.bind_some]
  by_cases h:Zws g need c=0
  · have hin:=Zr7.1 h
    have hw:=(Za9 hin.ck).1.wl
    have hnl:=hin.nl
    have c1:=hin.c1
    have c8:=hin.c8
    have hc:c=((c.toNat:Nat):Int):=by omega
    rw[h,show((0:Int) != 0)=false from rfl,cond_false,Zmj (show need.length<=1073741824 by omega),Option.bind_some]
    have key:=Zw8 (c:=c.toNat) (Zgt c) (fun i=>List.replicate i (-1)) (fun s=>s) (fun i hi=>by
      simp only[Zgt,decide_eq_true (show(i:Int)<c by omega),cond_true,List.length_replicate,Zgn (show i+1<=1073741824 by omega),Zx9]
      rw[ZaA (by omega) (by omega)];rfl) (by
      simp only[Zgt,decide_eq_false (show ¬((c.toNat:Nat):Int)<c by omega)];rfl)
    rw[show(lp (Zgt c) (0,([]:List Int)))=_ from key]
    rfl
  · rw[show(Zws g need c != 0)=true by simpa using h,show(Zws g need c==0)=false from beq_eq_false_iff_ne.2 h]
    rfl
def dq0:Zn:=⟨List.replicate 64 0,0,0⟩
theorem Zzk:ZkG 64=some (dq0,0):=by
  obtain⟨k,hk⟩:=ZGY
  unfold ZkG
  rw[hk,Option.bind_some]
  rfl
def tk0:ZA:=⟨false,0,0,0,0,0⟩
theorem ZwF {α:Type}{n i:Nat}{x y:α} (h:(List.replicate n x)[i]? = some y):y=x:=by
  rw[List.getElem?_replicate] at h
  split at h
  · exact(Option.some.inj h).symm
  · cases h
theorem ZBj {g:ZF}{need:List Int}{c:Int} (hin:Zo6 g need c):∃ds,ZkC g need c=some (.inr (List.replicate c.toNat (-1),ds))/\Zw5 g c.toNat need (List.replicate c.toNat (-1)) ds (List.replicate c.toNat tk0) (List.replicate c.toNat 0):=by
  have hc0:=hin.ck
  obtain⟨hG,hA⟩:=Za9 hc0
  have hw:=hG.wl
  have hnl:=hin.nl
  have c1:=hin.c1
  have c8:=hin.c8
  generalize hm:c.toNat=m
  have hc:c=(m:Int):=by omega
  subst hc
  have cr:ZdX g need (List.replicate m (-1)):=⟨hnl,by rw[List.length_replicate];omega,by rw[List.length_replicate];omega,ZsF m hin.rng⟩
  have k0:=Zw8 (c:=m) (ZfM (m:Int)) (fun i=>List.replicate i dq0) (fun s=>s) (fun i hi=>by
    simp only[ZfM,Zcx hi,cond_true,Zzk,Option.bind_some,List.length_replicate,Zgn (show i+1<=1073741824 by omega),Zx9]
    rw[ZaA (by omega) (by omega)];rfl) (by simp only[ZfM,ZdO];rfl)
  have k0:lp (ZfM (m:Int)) (0,([]:List Zn))=some (List.replicate m dq0):=k0
  have vO:∀(ds:List Zn) i,i<m->(vw (List.replicate m (-1)) ds (List.replicate m tk0) (List.replicate m 0)).O i = -1:=fun ds i hi=>Zoy _ ds _ _ (by rw[List.getElem?_replicate,if_pos hi])
  have va:∀(ds:List Zn) i,(vw (List.replicate m (-1)) ds (List.replicate m tk0) (List.replicate m 0)).a i=0:=fun ds i=>by
    show gt _ _ _ _=_
    unfold gt
    rw[List.getElem?_replicate]
    split
    · rename_i h;split at h
      · cases h;rfl
      · cases h
    · rfl
  have P0:PG m (fun _=>False) (List.replicate m (-1)) (List.replicate m dq0) (List.replicate m tk0) (List.replicate m 0):=by
    have hx:∀i,i<m->(List.replicate m dq0)[i]? = some dq0:=fun i hi=>by rw[List.getElem?_replicate,if_pos hi]
    have ht:∀i,i<m->(List.replicate m tk0)[i]? = some tk0:=fun i hi=>by rw[List.getElem?_replicate,if_pos hi]
    have hf:∀i,i<m->(List.replicate m (0:Int))[i]? = some 0:=fun i hi=>by rw[List.getElem?_replicate,if_pos hi]
    refine⟨by simp,fun d hd=>by rw[(List.mem_replicate.1 hd).2];rfl,⟨fun i hi=>?_,⟨fun i k hk=>?_,fun i k i' k' h1=>?_,fun n hn=>hn.elim⟩⟩,fun i _=>va _ i⟩
    · have e1:(vw (List.replicate m (-1)) (List.replicate m dq0) (List.replicate m tk0) (List.replicate m 0)).T i=0:=ZaH (hx i hi)
      have e2:(vw (List.replicate m (-1)) (List.replicate m dq0) (List.replicate m tk0) (List.replicate m 0)).B i=0:=ZaH (hx i hi)
      have e3:(vw (List.replicate m (-1)) (List.replicate m dq0) (List.replicate m tk0) (List.replicate m 0)).x i=0:=ZaH (ht i hi)
      have e4:(vw (List.replicate m (-1)) (List.replicate m dq0) (List.replicate m tk0) (List.replicate m 0)).y i=0:=ZaH (ht i hi)
      have e5:(vw (List.replicate m (-1)) (List.replicate m dq0) (List.replicate m tk0) (List.replicate m 0)).F i=0:=ZaH (hf i hi)
      exact Pos.still (va _ i) (by omega) (fun _=>e5) (by omega) (by omega) (by omega) (by omega) (by omega)
    · obtain⟨hi,h1,h2⟩:=hk
      have e1:(vw (List.replicate m (-1)) (List.replicate m dq0) (List.replicate m tk0) (List.replicate m 0)).T i=0:=ZaH (hx i hi)
      have e2:(vw (List.replicate m (-1)) (List.replicate m dq0) (List.replicate m tk0) (List.replicate m 0)).B i=0:=ZaH (hx i hi)
      have a0:=va (List.replicate m dq0) i
      unfold Zj.lo at h1
      unfold Zj.be at h2
      rw[if_neg (by omega)] at h1 h2
      omega
    · obtain⟨hi,h1,h2⟩:=h1
      have e1:(vw (List.replicate m (-1)) (List.replicate m dq0) (List.replicate m tk0) (List.replicate m 0)).T i=0:=ZaH (hx i hi)
      have e2:(vw (List.replicate m (-1)) (List.replicate m dq0) (List.replicate m tk0) (List.replicate m 0)).B i=0:=ZaH (hx i hi)
      have a0:=va (List.replicate m dq0) i
      unfold Zj.lo at h1
      unfold Zj.be at h2
      rw[if_neg (by omega)] at h1 h2
      omega
  have hB0:∀i,i<m->(vw (List.replicate m (-1)) (List.replicate m dq0) (List.replicate m tk0) (List.replicate m 0)).B i=0:=fun i hi=>ZaH (show(List.replicate m dq0)[i]? = some dq0 by rw[List.getElem?_replicate,if_pos hi])
  generalize hR:Zcv g.edges need (List.replicate m (-1))=R
  have hRn:R.Nodup:=by rw[<- hR];exact ZpZ _ _ _
  have hRm:∀z,z∈R↔Rdy g.edges need (List.replicate m (-1)) z:=fun z=>by rw[<- hR];exact Zsk cr
  have hRl:R.length<=64:=by rw[<- hR];exact Nat.le_trans (Zou _ _ _) (by omega)
  have hRf:R.length<=ZnG g.edges need:=by
    unfold ZnG
    refine Zk3 _ _ hRn fun x hx=>?_
    have:=(hRm x).1 hx
    exact ZjW.2 ⟨this.1.1,this.1.2,by rw[Int.toNat_of_nonneg this.1.1];exact Zha.2 this.2.2.2⟩
  have loop:∀(k i:Nat) (ds:List Zn),i+k=R.length->PG m (fun x=>x∈R.take i) (List.replicate m (-1)) ds (List.replicate m tk0) (List.replicate m 0)->(∀j,j<m->(vw (List.replicate m (-1)) ds (List.replicate m tk0) (List.replicate m 0)).B j<=(i:Int)) ->
      ∃ds',lp (ZfH (m:Int) R) ((i:Int),ds)=some ds'/\PG m (fun x=>x∈R) (List.replicate m (-1)) ds' (List.replicate m tk0) (List.replicate m 0)/\∀j,j<m->(vw (List.replicate m (-1)) ds' (List.replicate m tk0) (List.replicate m 0)).B j<=(R.length:Int):=by
    intro k
    induction k with
    | zero=>
      intro i ds hi P hB
      have hi:i=R.length:=by omega
      subst hi
      rw[List.take_length] at P
      refine⟨ds,?_,P,hB⟩
      rw[Zae]
      simp only[ZfH,ZdO,cond_false]
    | succ k ih=>
      intro i ds hi P hB
      have hi':i<R.length:=by omega
      have hx:=List.getElem?_eq_getElem hi'
      generalize hn:R[i]=n at hx
      have hnR:n∈R:=by rw[<- hn];exact List.getElem_mem _
      have hr:=(hRm n).1 hnR
      have h0:=hr.1.1
      have hcm:Int.tmod n (m:Int)=((n.toNat % m:Nat):Int):=by
        rw[Int.tmod_eq_emod_of_nonneg h0,Int.natCast_emod,Int.toNat_of_nonneg h0]
      have hlt:n.toNat % m<m:=Nat.mod_lt _ (by omega)
      obtain⟨ds1,e1,e2,e3⟩:=ZD0 (n:=n) P hlt (by omega) (by have:=hB _ hlt;omega) (fun hm'=>by
        obtain⟨j,hj⟩:=List.getElem?_of_mem hm'
        have hjl:=(List.getElem?_eq_some_iff.1 hj).1
        rw[List.length_take] at hjl
        rw[List.getElem?_take,if_pos (by omega)] at hj
        have:=ZqX hRn hj hx
        omega) (fun j hj=>by rw[vO _ j hj];omega)
      have htk:R.take (i+1)=R.take i++[n]:=by rw[List.take_add_one,hx];rfl
      obtain⟨ds',q1,q2,q3⟩:=ih (i+1) ds1 (by omega) ⟨e2.dl,e2.ring,e2.inv.congr fun x=>by rw[htk,List.mem_append,List.mem_singleton],e2.a0⟩ (fun j hj=>by
        rw[e3 j]
        have:=hB j hj
        split
        · rename_i e;subst e;omega
        · omega)
      refine⟨ds',?_,q2,q3⟩
      rw[Zae]
      simp only[ZfH,Zcx hi',cond_true,ZN hx,Option.bind_some,show((m:Int)==0)=false from beq_eq_false_iff_ne.2 (by omega),cond_false,hcm,e1,ZL hi' (show R.length<9223372036854775808 by omega)]
      exact q1
  obtain⟨ds',q1,q2,q3⟩:=loop R.length 0 (List.replicate m dq0) (by omega) ⟨P0.dl,P0.ring,P0.inv.congr fun x=>by rw[List.take_zero];simp,P0.a0⟩ (fun j hj=>by rw[hB0 j hj];exact Int.le_refl _)
  have hbase:∀n,n∈R↔base g.edges need n:=fun n=>by
    rw[hRm]
    constructor
    · intro h;exact⟨h.1,h.2.1,h.2.2.2⟩
    · intro h
      refine⟨h.1,h.2.1,fun hm'=>?_,h.2.2⟩
      have:=(List.mem_replicate.1 hm').2
      have:=h.1.1
      omega
  refine⟨ds',?_,⟨⟨cr,by simp,q2.dl,by simp,by simp,q2.ring,fun t ht=>by rw[(List.mem_replicate.1 ht).2];rfl,fun f hf=>by rw[(List.mem_replicate.1 hf).2];exact Int.le_refl _,fun i t f ht hf=>?_,fun i n t hi hn ht=>?_,q2.inv.congr hbase⟩,fun i hi=>?_⟩⟩
  · unfold ZkC
    rw[Zvt hG.short,Zr7.2 hin]
    simp only[beq_self_eq_true,cond_true,Option.bind_some]
    rw[decide_eq_true (show(0:Int)<=(m:Int) by omega),decide_eq_true (show(m:Int)<=lim by show(m:Int)<=1073741824;omega)]
    simp only[decide_true,Bool.and_true,cond_true,k0,Option.bind_some,Int.toNat_natCast,Zr0 hc0 cr,hR]
    rw[show(lp (ZfH (m:Int) R) (0,List.replicate m dq0))=_ from q1]
    rfl
  · rw[ZwF ht,ZwF hf];rfl
  · exact ZwF ht
  · rw[(q2.be hi).1]
    have:=q3 i hi
    omega
section
variable {g:ZF} {m:Nat} {left on fs:List Int} {ds:List Zn} {ts:List ZA}
end
end Go.Proofs.YtgcfmiajkbbmeaaGreatDoor
namespace Go.Proofs.YtgcfmiajkbbmeaaGreatDoor
open Go Go.Proofs.YtgcfmiajkbbmeaaGreatDoorE
open Go.IntKind (u64 i64 u32 i32 u8)
section
variable {g:ZF} {m:Nat} {left on fs:List Int} {ds:List Zn} {ts:List ZA}
theorem Zzq {on' fs':List Int}{ds':List Zn}{ts':List ZA} (G:GangIn g m left on ds ts fs) (G':GangIn g m left on' ds' ts' fs') (hw:∀c,¬ZfK m (vw on' ds' ts' fs') c) (K:ZtT m on on' ds ds' ts ts' fs fs'):Zht g.edges left on on':=by
  refine⟨by rw[G'.ol,G.ol],fun c n h hn=>K.row c n h hn,fun c n h1 h2=>?_,G'.crew.ok.one,(ZxE G' hw).2⟩
  rcases G'.crew.ok.run n (List.mem_of_getElem? h2) with h | ⟨h3,h4,h5⟩
  · exact .inl h
  · refine .inr ⟨h3,h4,fun hm=>?_,h5⟩
    have hne:n ≠ -1:=by have:=h3.1;omega
    obtain⟨j,hj⟩:=List.getElem?_of_mem hm
    have:=G'.crew.ok.one j c n (K.row j n hj hne) h2 hne
    subst this
    rw[h1] at hj
    exact hne (Option.some.inj hj).symm
end
theorem ZoI:∀(l:List Int),(∀x∈l,0<=x/\x<=1000)->0<=l.sum/\l.sum<=1000*(l.length:Int)
  | [],_=>by simp
  | x :: l,h=>by
    have:=ZoI l fun y hy=>h y (by simp[hy])
    have:=h x (by simp)
    rw[List.sum_cons,List.length_cons]
    omega
theorem ZuG {l:List Int}{i:Nat}{x:Int} (h:l[i]? = some x):(l.take (i+1)).sum=(l.take i).sum+x:=by
  rw[List.take_add_one,h,List.sum_append]
  simp
theorem Zva {need:List Int} (hr:∀x∈need,0<=x/\x<=1000) (hl:need.length<=64) (step:Int×Int->Option ((Int×Int)⊕Int)) (h1:∀(i:Nat) (s x:Int),i<need.length->need[i]? = some x->step (s,(i:Int))=some (.inl (w64 (s+x),w64 ((i:Int)+1)))) (h2:∀s,step (s,(need.length:Int))=some (.inr s)) :
    lp step (0,0)=some need.sum:=by
  have key:∀(k i:Nat),i+k=need.length->lp step ((need.take i).sum,(i:Int))=some need.sum:=by
    intro k
    induction k with
    | zero => intro i hi; have : i = need.length := by omega
              subst this;rw[Zae,h2,List.take_length]
    | succ k ih=>
      intro i hi
      have hi':i<need.length:=by omega
      have hx:=List.getElem?_eq_getElem hi'
      have hsx:=hr _ (List.getElem_mem hi')
      have hs:=ZoI (need.take i) fun x hx=>hr x (List.mem_of_mem_take hx)
      rw[List.length_take] at hs
      rw[Zae,h1 i _ _ hi' hx]
      dsimp only
      rw[ZaA (by omega) (by omega),ZL hi' (by omega),<- ZuG hx]
      exact ih (i+1) (by omega)
  exact key need.length 0 (by omega)
theorem ZnM (left:List Int):(left.any fun x=>decide (0<x))=true↔∃n,isN left n/\0<lf left n:=by
  rw[List.any_eq_true]
  constructor
  · rintro ⟨x,hx,h⟩
    obtain⟨i,hi⟩:=List.getElem?_of_mem hx
    have hil:=(List.getElem?_eq_some_iff.1 hi).1
    exact⟨(i:Int),⟨by omega,by simpa using hil⟩,by rw[Zzp hi];simpa using h⟩
  · rintro ⟨n,h1,h2⟩
    exact⟨lf left n,List.mem_of_getElem? (ZjZ h1.1 h1.2),by simpa using h2⟩
structure ZtC (g:ZF) (need:List Int) (m:Nat) (t:List (List Int)):Prop where
  done:∃left on,Sched g.edges need m t left on/\∀n,isN left n->lf left n=0
theorem ZKn {g:ZF}{need picks:List Int}{c:Int} (hin:Zo6 g need c) (hs:need.sum<=4096) (hp:picks.length<=100000) :
    ∃(t:List (List Int)) (steps:Nat),ZkJ g need c picks=some (t,(steps:Int),0)/\ZtC g need c.toNat t:=by
  have hc:=hin.ck
  obtain⟨hG,hA⟩:=Za9 hc
  have hw:=hG.wl
  have hnl:=hin.nl
  have hrng:∀x∈need,0<=x/\x<=1000:=fun x hx=>by have:=hin.rng x hx;omega
  obtain⟨ds0,n1,G0⟩:=ZBj hin
  have hsum:=Zva hrng (by omega) (ZgS need) (fun i s x hi hx=>by simp only[ZgS,Zcx hi,cond_true,ZN hx,Option.bind_some]) (fun s=>by simp only[ZgS,ZdO];rfl)
  have c1:=hin.c1
  have c8:=hin.c8
  have hE:Zgb g.edges need.length:=by rw[hnl];exact Zhk hG
  have loop:∀(k:Nat) (steps:Nat) (last:Int) (t:List (List Int)) (on left:List Int) (ds:List Zn) (ts:List ZA) (fs:List Int),left.sum<=(k:Int)->t.length+k<=4096->steps<=t.length*105000->Zw5 g c.toNat left on ds ts fs->Sched g.edges need c.toNat t left on ->
      ∃(t':List (List Int)) (steps':Nat),lp (Zd2 g picks) ((steps:Int),last,t,on,left,ds,ts,fs)=some (.inr ((steps':Int),t'))/\ZtC g need c.toNat t':=by
    intro k
    induction k with
    | zero=>
      intro steps last t on left ds ts fs hk ht hst G S
      have hz:∀n,isN left n->lf left n=0:=fun n hn=>by
        have hr:=S.crew (fun x hx=>hin.rng x hx) hE
        have h0:=Zv7 hr n
        apply Classical.byContradiction
        intro hne
        have hpos:∃n,isN left n/\0<lf left n:=⟨n,hn,by omega⟩
        have hsl:=ZoI left fun x hx=>hr.rng x hx
        have hzero:∀x∈left,x=0:=by
          have:∀(l:List Int),(∀x∈l,0<=x/\x<=1000)->l.sum<=0->∀x∈l,x=0:=by
            intro l
            induction l with
            | nil=>intro _ _ x hx;cases hx
            | cons y l ih=>
              intro hr hs x hx
              have h1:=ZoI l fun z hz=>hr z (by simp[hz])
              have h2:=hr y (by simp)
              rw[List.sum_cons] at hs
              rcases List.mem_cons.1 hx with rfl | hx
              · omega
              · exact ih (fun z hz=>hr z (by simp[hz])) (by omega) x hx
          exact this left hr.rng (by omega)
        have:=hzero _ (List.mem_of_getElem? (ZjZ hn.1 hn.2))
        exact hne this
      refine⟨t,steps,?_,⟨left,on,S,hz⟩⟩
      have hany:(left.any fun x=>decide (0<x))=false:=by
        cases ha:left.any fun x=>decide (0<x) with
        | false=>rfl
        | true=>
          obtain⟨n,h1,h2⟩:=(ZnM left).1 ha
          have:=hz n h1
          omega
      have hll:=G.crew.ll
      rw[Zae]
      simp only[Zd2]
      rw[ZdF left _ (fun x=>decide (0<x)) (fun x _=>by unfold ZdD;cases decide (0<x)<;>rfl) (by omega),Option.bind_some,hany]
      rfl
    | succ k ih=>
      intro steps last t on left ds ts fs hk ht hst G S
      have hll:=G.crew.ll
      have hr:=S.crew (fun x hx=>hin.rng x hx) hE
      cases hany:left.any fun x=>decide (0<x) with
      | false=>
        refine⟨t,steps,?_,⟨left,on,S,fun n hn=>?_⟩⟩
        · rw[Zae]
          simp only[Zd2]
          rw[ZdF left _ (fun x=>decide (0<x)) (fun x _=>by unfold ZdD;cases decide (0<x)<;>rfl) (by omega),Option.bind_some,hany]
          rfl
        · have h0:=Zv7 hr n
          apply Classical.byContradiction
          intro hne
          have:=(ZnM left).2 ⟨n,hn,by omega⟩
          rw[hany] at this
          cases this
      | true=>
        have hpos:=(ZnM left).1 hany
        have hdl:(picks.drop (bif decide ((picks.length:Int)<(steps:Int)) then (picks.length:Int) else (steps:Int)).toNat).length<=100000:=by rw[List.length_drop];omega
        obtain⟨n,l',on1,ds1,ts1,fs1,q1,q2,q3,q4,q5⟩:=ZIt hc hdl G.toGangIn
        have G1:Zw5 g c.toNat left on1 ds1 ts1 fs1:=⟨q2,fun i hi=>Int.le_trans (q4.be i) (G.bnd i hi)⟩
        have F:=Zzq G.toGangIn q2 q3 q4
        obtain⟨ds2,done,r1,r2,r3⟩:=Zze hc G1 q3
        have hb:=ZlR hG hA hll hpos hr F (by rw[G.ol];omega)
        have hsub:=ZlP on1 left (F.nodes hr)
        have hm8:c.toNat<=8:=by omega
        have hsz:8*c.toNat*c.toNat*(c.toNat+1)<=8*8*8*9:=Nat.mul_le_mul (Nat.mul_le_mul (Nat.mul_le_mul_left 8 hm8) hm8) (by omega)
        have hn:n<=105000:=by rw[List.length_drop] at q5;omega
        obtain⟨t',s',e1,e2⟩:=ih (steps+n) l' (t++[on1]) (Zad left on1) (Zar left on1) ds2 ts1 fs1 (by omega) (by rw[List.length_append,List.length_singleton];omega) (by rw[List.length_append,List.length_singleton];omega) r2 (.snoc S hpos F)
        refine⟨t',s',?_,e2⟩
        have hmin:(0:Int)<=(bif decide ((picks.length:Int)<(steps:Int)) then (picks.length:Int) else (steps:Int))/\(bif decide ((picks.length:Int)<(steps:Int)) then (picks.length:Int) else (steps:Int)).toNat<=picks.length:=by
          by_cases hlt:(picks.length:Int)<(steps:Int)
          · rw[decide_eq_true hlt,cond_true];omega
          · rw[decide_eq_false hlt,cond_false];omega
        rw[Zae]
        simp only[Zd2]
        rw[ZdF left _ (fun x=>decide (0<x)) (fun x _=>by unfold ZdD;cases decide (0<x)<;>rfl) (by omega),Option.bind_some,hany,cond_true,decide_eq_true hmin.1,cond_true,Nat.ble_eq_true_of_le hmin.2,cond_true,q1,Option.bind_some]
        dsimp only
        rw[show((0:Int) != 0)=false from rfl,cond_false,Zmj (show on1.length<=1073741824 by have:=q2.ol;omega),Option.bind_some,Zgn (show t.length+1<=1073741824 by omega),cond_true,r1,Option.bind_some]
        dsimp only
        rw[ZaA (show -9223372036854775808<=(steps:Int)+(n:Int) by omega) (by omega),show(steps:Int)+(n:Int)=((steps+n:Nat):Int) by omega]
        exact e1
  have hs0:=ZoI need hrng
  obtain⟨t',s',e1,e2⟩:=loop need.sum.toNat 0 0 [] (List.replicate c.toNat (-1)) need ds0 (List.replicate c.toNat tk0) (List.replicate c.toNat 0) (by omega) (by simp;omega) (by simp) G0 .nil
  refine⟨t',s',?_,e2⟩
  unfold ZkJ
  rw[n1,Option.bind_some]
  dsimp only
  rw[hsum,Option.bind_some,decide_eq_false (show ¬4096<need.sum by omega),cond_false,show(ZA.mk false 0 0 0 0 0)=tk0 from rfl,show(lp (Zd2 g picks) (0,0,([]:List (List Int)),List.replicate c.toNat (-1),need,ds0,List.replicate c.toNat tk0,List.replicate c.toNat 0))=_ from e1,Option.bind_some]
end Go.Proofs.YtgcfmiajkbbmeaaGreatDoor
namespace Go.Proofs.YtgcfmiajkbbmeaaGreatDoor
open Go Go.Proofs.YtgcfmiajkbbmeaaGreatDoorE
open Go.IntKind (u64 i64 u32 i32 u8)
def Zc8:List Int->List Int->List Int
 | [],_=>[]
 | n :: on,l=>if n = -1 then (match l with | []=>-1 :: Zc8 on [] | x :: l'=>x :: Zc8 on l') else n :: Zc8 on l
theorem ZnT:∀(on l:List Int),(Zc8 on l).length=on.length
 | [],_=>rfl
 | n :: on,l=>by
  unfold Zc8
  split
  ·cases l with
   | nil=>simp[ZnT on []]
   | cons x l'=>simp[ZnT on l']
  ·simp[ZnT on l]
theorem ZjN:∀(on l:List Int) (c:Nat) (n:Int),on[c]? = some n->n ≠ -1->(Zc8 on l)[c]? = some n
 | [],_,c,n,h,_=>by simp at h
 | k :: on,l,c,n,h,hn=>by
  unfold Zc8
  cases c with
  | zero=>
   simp only[List.getElem?_cons_zero,Option.some.injEq] at h
   subst h
   rw[if_neg hn]
   rfl
  | succ c=>
   rw[List.getElem?_cons_succ] at h
   split
   ·cases l with
    | nil=>exact ZjN on [] c n h hn
    | cons x l'=>exact ZjN on l' c n h hn
   ·exact ZjN on l c n h hn
theorem Znq:∀(on l:List Int) (c:Nat) (n:Int),(Zc8 on l)[c]? = some n->on[c]? = some n∨(on[c]? = some (-1)/\n∈l)
 | [],_,c,n,h=>by simp[Zc8] at h
 | k :: on,l,c,n,h=>by
  unfold Zc8 at h
  split at h
  ·rename_i hk
   subst hk
   cases l with
   | nil=>
    cases c with
    | zero=>exact .inl h
    | succ c=>
     rw[List.getElem?_cons_succ] at h ⊢
     rcases Znq on [] c n h with h | h
     ·exact .inl h
     ·cases h.2
   | cons x l'=>
    cases c with
    | zero=>
     simp only[List.getElem?_cons_zero,Option.some.injEq] at h
     subst h
     exact .inr ⟨rfl,List.mem_cons_self⟩
    | succ c=>
     rw[List.getElem?_cons_succ] at h ⊢
     rcases Znq on l' c n h with h | h
     ·exact .inl h
     ·exact .inr ⟨h.1,List.mem_cons_of_mem _ h.2⟩
  ·cases c with
   | zero=>exact .inl h
   | succ c=>
    rw[List.getElem?_cons_succ] at h ⊢
    exact Znq on l c n h
theorem Zqt:∀(on l:List Int), -1∉l -> -1∈Zc8 on l->∀x∈l,x∈Zc8 on l
 | [],_,_,h=>by simp[Zc8] at h
 | k :: on,l,hl,h=>by
  unfold Zc8 at h ⊢
  split
  ·rename_i hk
   rw[if_pos hk] at h
   cases l with
   | nil=>intro x hx;cases hx
   | cons y l'=>
    have hy:y ≠ -1:=fun hy=>hl (by rw[hy];exact List.mem_cons_self)
    have h' : -1∈Zc8 on l':=by
     rcases List.mem_cons.1 h with h | h
     ·exact absurd h.symm hy
     ·exact h
    intro x hx
    rcases List.mem_cons.1 hx with rfl | hx
    ·exact List.mem_cons_self
    ·exact List.mem_cons_of_mem _ (Zqt on l' (fun hm=>hl (List.mem_cons_of_mem _ hm)) h' x hx)
  ·rename_i hk
   rw[if_neg hk] at h
   have h' : -1∈Zc8 on l:=by
    rcases List.mem_cons.1 h with h | h
    ·exact absurd h.symm hk
    ·exact h
   intro x hx
   exact List.mem_cons_of_mem _ (Zqt on l hl h' x hx)
theorem Zmf:∀(on l:List Int),ZqU on->l.Nodup->(∀x∈l,x∉on)->ZqU (Zc8 on l)
 | [],_,_,_,_=>fun i j n hi=>by simp[Zc8] at hi
 | k :: on,l,ho,hl,hd=>by
  have ht:=ho.tail
  have cons:∀(y:Int) (l':List Int),ZqU (Zc8 on l')->(y ≠ -1->y∉Zc8 on l')->ZqU (y :: Zc8 on l'):=fun y l' h1 h2=>by
   intro i j n hi hj hn
   cases i with
   | zero=>
    simp only[List.getElem?_cons_zero,Option.some.injEq] at hi
    subst hi
    cases j with
    | zero=>rfl
    | succ j=>rw[List.getElem?_cons_succ] at hj;exact absurd (List.mem_of_getElem? hj) (h2 hn)
   | succ i=>
    rw[List.getElem?_cons_succ] at hi
    cases j with
    | zero=>
     simp only[List.getElem?_cons_zero,Option.some.injEq] at hj
     subst hj
     exact absurd (List.mem_of_getElem? hi) (h2 hn)
    | succ j=>rw[List.getElem?_cons_succ] at hj;exact congrArg Nat.succ (h1 i j n hi hj hn)
  have mem:∀(l':List Int) (n:Int),n∈Zc8 on l'->n∈on∨n∈l':=fun l' n hn=>by
   obtain⟨c,hc⟩:=List.getElem?_of_mem hn
   rcases Znq on l' c n hc with h | h
   ·exact .inl (List.mem_of_getElem? h)
   ·exact .inr h.2
  unfold Zc8
  split
  ·cases l with
   | nil=>exact cons _ _ (Zmf on [] ht.1 .nil (fun x hx=>by cases hx)) fun h=>absurd rfl h
   | cons y l'=>
    have hy:=List.nodup_cons.1 hl
    refine cons _ _ (Zmf on l' ht.1 hy.2 fun x hx hm=>hd x (List.mem_cons_of_mem _ hx) (List.mem_cons_of_mem _ hm)) fun hn hm=>?_
    rcases mem l' y hm with h | h
    ·exact hd y List.mem_cons_self (List.mem_cons_of_mem _ h)
    ·exact hy.1 h
  ·refine cons _ _ (Zmf on l ht.1 hl fun x hx hm=>hd x hx (List.mem_cons_of_mem _ hm)) fun hn hm=>?_
   rcases mem l k hm with h | h
   ·exact ht.2 hn h
   ·exact hd k h List.mem_cons_self
theorem Zzc {g:ZF}{left on:List Int} (c:ZdX g left on):Zht g.edges left on (Zc8 on (Zcv g.edges left on)):=by
 have hr:∀x∈left,0<=x:=fun x hx=>(c.ok.rng x hx).1
 have hm:=fun n=>ZoN (E:=g.edges) (on:=on) hr (n:=n)
 have hn1 : -1∉Zcv g.edges left on:=fun h=>by have:=((hm _).1 h).1.1;omega
 refine⟨ZnT _ _,fun k n h1 h2=>ZjN _ _ k n h1 h2,fun k n h1 h2=>?_,Zmf _ _ c.ok.one (ZpZ _ _ _) fun x hx=>((hm x).1 hx).2.2.1,fun h n hn=>?_⟩
 ·rcases Znq _ _ k n h2 with h | h
  ·rw[h1] at h
   exact .inl (Option.some.inj h).symm
  ·exact .inr ((hm n).1 h.2)
 ·have hno:n∉on:=fun hon=>by
   have hne:n ≠ -1:=fun h0=>by have:=hn.1.1;omega
   obtain⟨k,hk⟩:=List.getElem?_of_mem hon
   exact hn.2.2.1 (List.mem_of_getElem? (ZjN _ _ k n hk hne))
  exact hn.2.2.1 (Zqt _ _ hn1 h n ((hm n).2 ⟨hn.1,hn.2.1,hno,hn.2.2.2⟩))
theorem ZBg {g:ZF} (h:Za6 g=0) {left on:List Int} (c:ZdX g left on):ZhW g (Zbt.mk on left)=some (Zcv g.edges left on):=by
 have:=Zr0 h c
 unfold ZeW at this
 rw[ZnD h c,Option.bind_some] at this
 simpa using this
theorem ZtY (m:List Int):∀(s pre l:List Int),pre.length+s.length=m.length->m.length<=8->l.length<=64->lp (ZfB m) (l,(pre.length:Int),pre++s)=some (pre++Zc8 s l)
 | [],pre,l,hm,h8,hl=>by
  rw[Zae]
  have e:(pre.length:Int)=(m.length:Int):=by simp at hm;omega
  simp only[ZfB,e,ZdO,cond_false]
  simp[Zc8]
 | n :: s,pre,l,hm,h8,hl=>by
  have hlt:pre.length<m.length:=by simp at hm;omega
  have hget:Zy (pre++n :: s) (pre.length:Int)=some n:=ZN (by simp)
  have hw:=ZL hlt (show m.length<9223372036854775808 by omega)
  have hnext:∀(y:Int) (l':List Int),l'.length<=64->lp (ZfB m) (l',((pre.length+1:Nat):Int),pre++y :: s)=some (pre++y :: Zc8 s l'):=fun y l' hl'=>by
   have:=ZtY m s (pre++[y]) l' (by simp at hm ⊢;omega) h8 hl'
   simpa using this
  have hset:∀y:Int,(pre++n :: s).set pre.length y=pre++y :: s:=fun y=>by simp
  rw[Zae]
  simp only[ZfB,Zcx hlt,cond_true,hget,Option.bind_some,hw]
  unfold Zc8
  cases hn:n == -1 with
  | false=>
   have hne:n ≠ -1:=fun h=>by rw[h] at hn;cases hn
   rw[if_neg hne]
   simp only[cond_false]
   exact hnext n l hl
  | true=>
   have he:n = -1:=eq_of_beq hn
   rw[if_pos he]
   simp only[cond_true]
   cases l with
   | nil=>
    simp only[List.length_nil,Int.natCast_zero,Int.lt_irrefl,decide_false,cond_false]
    rw[he]
    exact hnext (-1) [] (by simp)
   | cons x l'=>
    have h0:decide ((0:Int)<(((x :: l').length:Nat):Int))=true:=decide_eq_true (by simp)
    have hx:Zy (x :: l') 0=some x:=rfl
    have hb:Nat.ble 1 (x :: l').length=true:=Nat.ble_eq_true_of_le (by simp)
    simp only[h0,cond_true,hx,Option.bind_some,hb,List.drop_succ_cons,List.drop_zero,Int.toNat_natCast,hset]
    exact hnext x l' (by simp at hl;omega)
theorem ZAZ {g:ZF} (h:Za6 g=0) {left on row:List Int} (c:ZdX g left on) (F:Zht g.edges left on row):ZdX g left row:=
 ⟨c.ll,by rw[F.len];exact c.o1,by rw[F.len];exact c.o8,⟨c.ok.rng,F.row_in c.ok,F.one,c.ok.over⟩⟩
theorem Zyv {g:ZF} (h:Za6 g=0) {left on row:List Int} (c:ZdX g left on) (F:Zht g.edges left on row):ZdX g (Zar left row) (Zad left row):=by
 obtain⟨hG,hA⟩:=Za9 h
 have l1:(Zad left row).length=on.length:=by unfold Zad;rw[List.length_map,F.len]
 exact⟨by rw[ZeH];exact c.ll,by rw[l1];exact c.o1,by rw[l1];exact c.o8,F.next (by rw[c.ll];exact Zhk hG) c.ok⟩
theorem ZFa {g:ZF} (h:Za6 g=0) {left row:List Int} (c:ZdX g left row):∃done,ZhO row left=some (Zad left row,Zar left row,done):=by
 obtain⟨hG,hA⟩:=Za9 h
 have hw:=hG.wl
 have ll:=c.ll
 have o8:=c.o8
 have hk:=ZI0 left c.ok.one (fun n hn=>(c.ok.run n hn).imp id fun h=>⟨h.1,h.2.1⟩) (by omega) (fun x hx=>(c.ok.rng x hx).2) o8
 obtain⟨r,h1,h2,_⟩:=ZnH (row.filter fun n=>decide (n ≠ -1)&&decide (lf (Zar left row) n=0)) (Nat.le_trans (List.length_filter_le _ _) (by omega))
 refine⟨r,?_⟩
 unfold ZhO
 rw[hk,Option.bind_some]
 dsimp only
 rw[h1]
 rfl
theorem ZDY {g:ZF} (h:Za6 g=0) {left on:List Int} (c:ZdX g left on):Zky g on left=some (Zc8 on (Zcv g.edges left on)):=by
 obtain⟨hG,hA⟩:=Za9 h
 have hl:=Zou g.edges left on
 have ll:=c.ll
 have hwl:=hG.wl
 have o8:=c.o8
 unfold Zky
 rw[ZBg h c,Option.bind_some]
 have:=ZtY on on [] (Zcv g.edges left on) (by simp) o8 (by omega)
 simp only[List.length_nil,Int.natCast_zero,List.nil_append] at this
 rw[this]
 rfl
theorem ZBa {g:ZF}{need:List Int}{c:Int} (hin:Zo6 g need c) (hs:need.sum<=4096) :
  ∃(t:List (List Int)),Zmp g need c=some (t,0)/\ZtC g need c.toNat t:=by
 have hc:=hin.ck
 obtain⟨hG,hA⟩:=Za9 hc
 have hw:=hG.wl
 have hnl:=hin.nl
 have hrng:∀x∈need,0<=x/\x<=1000:=fun x hx=>by have:=hin.rng x hx;omega
 have hsum:=Zva hrng (by omega) (Zhp need) (fun i s x hi hx=>by simp only[Zhp,Zcx hi,cond_true,ZN hx,Option.bind_some]) (fun s=>by simp only[Zhp,ZdO];rfl)
 have c1:=hin.c1
 have c8:=hin.c8
 have hE:Zgb g.edges need.length:=by rw[hnl];exact Zhk hG
 have one:∀(left:List Int),left.length<=64->ZC left (fun z0=>Zgh z0)=some (left.any fun x=>decide (0<x)):=fun left hl=>
  ZdF left _ (fun x=>decide (0<x)) (fun x _=>by unfold Zgh;cases decide (0<x)<;>rfl) (by omega)
 have Ziu:∀(left:List Int),Zh5 g.edges left []∨(∀x∈left,0<=x/\x<=1000)->(left.any fun x=>decide (0<x))=false->(∀x∈left,0<=x)->∀n,isN left n->lf left n=0:=fun left _ ha h0 n hn=>by
  have h1:=h0 _ (List.mem_of_getElem? (ZjZ hn.1 hn.2))
  apply Classical.byContradiction
  intro hne
  have:=(ZnM left).2 ⟨n,hn,by omega⟩
  rw[ha] at this
  cases this
 have loop:∀(k:Nat) (t:List (List Int)) (on left:List Int),left.sum<=(k:Int)->t.length+k<=4096->ZdX g left on->on.length=c.toNat->Sched g.edges need c.toNat t left on ->
   ∃(t':List (List Int)),lp (Zgx g) (t,on,left)=some t'/\ZtC g need c.toNat t':=by
  intro k
  induction k with
  | zero=>
   intro t on left hk ht C hm S
   have hr:=C.ok
   have ha:(left.any fun x=>decide (0<x))=false:=by
    cases ha:left.any fun x=>decide (0<x) with
    | false=>rfl
    | true=>
     obtain⟨n,h1,h2⟩:=(ZnM left).1 ha
     have:∀(l:List Int),(∀x∈l,0<=x)->∀x∈l,x<=l.sum:=by
      intro l
      induction l with
      | nil=>intro _ x hx;cases hx
      | cons y l ih=>
       intro h x hx
       have h0:0<=l.sum:=by
        have:∀(l:List Int),(∀x∈l,0<=x)->0<=l.sum:=by
         intro l
         induction l with
         | nil=>intro _;simp
         | cons z l ih=>intro h;rw[List.sum_cons];have h1:=h z (by simp);have h2:=ih fun w hw=>h w (by simp[hw]);omega
        exact this l fun z hz=>h z (by simp[hz])
       rw[List.sum_cons]
       rcases List.mem_cons.1 hx with rfl | hx
       ·omega
       ·have h1:=ih (fun z hz=>h z (by simp[hz])) x hx
        have h2:=h y (by simp)
        omega
     have:=this left (fun x hx=>(hr.rng x hx).1) _ (List.mem_of_getElem? (ZjZ h1.1 h1.2))
     omega
   refine⟨t,?_,⟨left,on,S,Ziu left (.inr hr.rng) ha fun x hx=>(hr.rng x hx).1⟩⟩
   rw[Zae]
   simp only[Zgx,one left (by rw[C.ll];omega),Option.bind_some,ha,cond_false]
  | succ k ih=>
   intro t on left hk ht C hm S
   have hr:=C.ok
   cases ha:left.any fun x=>decide (0<x) with
   | false=>
    refine⟨t,?_,⟨left,on,S,Ziu left (.inr hr.rng) ha fun x hx=>(hr.rng x hx).1⟩⟩
    rw[Zae]
    simp only[Zgx,one left (by rw[C.ll];omega),Option.bind_some,ha,cond_false]
   | true=>
    have hpos:=(ZnM left).1 ha
    have F:=Zzc C
    have hb:=ZlR hG hA C.ll hpos hr F (by rw[hm];omega)
    have hsub:=ZlP (Zc8 on (Zcv g.edges left on)) left (F.nodes hr)
    obtain⟨done,q1⟩:=ZFa hc (ZAZ hc C F)
    obtain⟨t',e1,e2⟩:=ih (t++[Zc8 on (Zcv g.edges left on)]) (Zad left (Zc8 on (Zcv g.edges left on))) (Zar left (Zc8 on (Zcv g.edges left on))) (by omega) (by rw[List.length_append,List.length_singleton];omega) (Zyv hc C F)
     (by unfold Zad;rw[List.length_map,F.len,hm]) (.snoc S hpos F)
    refine⟨t',?_,e2⟩
    rw[Zae]
    simp only[Zgx,one left (by rw[C.ll];omega),Option.bind_some,ha,cond_true,ZDY hc C,Zmj (show(Zc8 on (Zcv g.edges left on)).length<=1073741824 by rw[F.len,hm];omega),Zgn (show t.length+1<=1073741824 by omega),q1]
    exact e1
 have hs0:=ZoI need hrng
 have C0:ZdX g need (List.replicate c.toNat (-1)):=⟨hnl,by simp;omega,by simp;omega,ZsF c.toNat hin.rng⟩
 obtain⟨t',e1,e2⟩:=loop need.sum.toNat [] (List.replicate c.toNat (-1)) need (by omega) (by simp;omega) C0 (by simp) .nil
 refine⟨t',?_,e2⟩
 have hl:Ziv g need c=some (.inr (List.replicate c.toNat (-1))):=by rw[Zvt hG.short,Zr7.2 hin];rfl
 unfold Zmp
 rw[hl,Option.bind_some]
 dsimp only
 rw[hsum,Option.bind_some,decide_eq_false (show ¬4096<need.sum by omega),cond_false,e1]
 rfl
theorem Zs0 {xs:List D} (h:Zif [.sl false [.int .i64]] xs):∃l,Ztf false xs=Zf3 true l/\ZGG l:=by
 obtain⟨_,_,rfl,h1,rfl⟩:=h
 exact ZvP h1
structure ZHk (g:ZF) (need:List Int) (m:Nat) (t:List (List Int)):Prop where
 busy:(ZgI t:Int)=need.sum
 rows:∀row∈t,row.length=m
 short:t.length<=ZgI t
 one:m=1->ZgI t=t.length
theorem ZtC.all {g:ZF}{need:List Int}{c:Int}{t:List (List Int)} (hin:Zo6 g need c) (R:ZtC g need c.toNat t):ZHk g need c.toNat t:=by
 obtain⟨left,on,S,hz⟩:=R.done
 obtain⟨hG,hA⟩:=Za9 hin.ck
 have hE:Zgb g.edges need.length:=by rw[hin.nl];exact Zhk hG
 have hr:∀x∈need,1<=x/\x<=1000:=hin.rng
 have hs:=S.sum hr hE
 have h0:left.sum=0:=ZFn fun x hx=>by
  obtain⟨i,hi⟩:=List.getElem?_of_mem hx
  have hil:=(List.getElem?_eq_some_iff.1 hi).1
  have:=hz (i:Int) ⟨by omega,by simpa using hil⟩
  rwa [Zzp hi] at this
 have c1:=hin.c1
 refine⟨by omega,S.len.2.2,S.short hG hA hin.nl hr (by omega),fun hm=>?_⟩
 rw[hm] at S
 exact ZDA hG hA hin.nl hr S
def ZnA (need:List Int) (m:Nat) (t:List (List Int)):List Int×List Int:=t.foldl (fun s row=>(Zar s.1 row,Zad s.1 row)) (need,List.replicate m (-1))
theorem ZyD (need:List Int) (m:Nat) (t:List (List Int)) (row:List Int):ZnA need m (t++[row])=(Zar (ZnA need m t).1 row,Zad (ZnA need m t).1 row):=by
 unfold ZnA
 rw[List.foldl_append]
 rfl
theorem Sched.fold {E:List Zi}{need:List Int}{m:Nat}{t:List (List Int)}{left on:List Int} (s:Sched E need m t left on):ZnA need m t=(left,on):=by
 induction s with
 | nil=>rfl
 | snoc _ _ _ ih=>rw[ZyD,ih]
theorem Sched.pre {E:List Zi}{need:List Int}{m:Nat}{t:List (List Int)}{left on:List Int} (s:Sched E need m t left on):∀(k:Nat) (row:List Int),t[k]? = some row ->
  Sched E need m (t.take k) (ZnA need m (t.take k)).1 (ZnA need m (t.take k)).2/\(∃n,isN (ZnA need m (t.take k)).1 n/\0<lf (ZnA need m (t.take k)).1 n)/\Zht E (ZnA need m (t.take k)).1 (ZnA need m (t.take k)).2 row:=by
 induction s with
 | nil=>intro k row h;cases h
 | @snoc t left on r s hp f ih=>
  intro k row h
  by_cases hk:k<t.length
  ·rw[List.getElem?_append_left hk] at h
   rw[List.take_append_of_le_length (by omega)]
   exact ih k row h
  ·have hk2:k=t.length:=by
    have:=(List.getElem?_eq_some_iff.1 h).1
    rw[List.length_append,List.length_singleton] at this
    omega
   subst hk2
   rw[List.getElem?_append_right (Nat.le_refl _),Nat.sub_self] at h
   cases h
   rw[List.take_append_of_le_length (Nat.le_refl _),List.take_length,s.fold]
   exact⟨s,hp,f⟩
section
variable {g:ZF} {need:List Int} {m k:Nat} {t:List (List Int)} {left on ran ends row:List Int} {last:List Zbv}
end
end Go.Proofs.YtgcfmiajkbbmeaaGreatDoor
namespace Go.Proofs.YtgcfmiajkbbmeaaGreatDoor
open Go Go.Proofs.YtgcfmiajkbbmeaaGreatDoorE
open Go.IntKind (u64 i64 u32 i32 u8)
def ZKm (w far:List Int) (e:Zi):List Int:=bif decide (fat far e.dst<fat far e.src+fat w e.dst) then far.set e.dst.toNat (fat far e.src+fat w e.dst) else far
def ZFY (w:List Int) (E:List Zi) (far:List Int):List Int:=E.foldl (ZKm w) far
def rounds (w:List Int) (E:List Zi):Nat->List Int->List Int
 | 0,far=>far
 | k+1,far=>rounds w E k (ZFY w E far)
section
variable {g:ZF} {need:List Int} {c:Int} {t:List (List Int)} {left on:List Int}
theorem ZCJ {g:ZF}{F:Int->Int}{M:Int} (hF:Far g F M):ZEo g.edges g.work F M:=by
 refine⟨hF.edge,fun n hn=>?_,fun n hn=>?_⟩
 ·have:=hF.least n.toNat hn.2
  rw[Int.toNat_of_nonneg hn.1] at this
  exact this
 ·have:=hF.most n.toNat hn.2
  rwa [Int.toNat_of_nonneg hn.1] at this
theorem ZIi {g h:ZF}{need:List Int}{c:Int}{t:List (List Int)}{left on:List Int} (hin:Zo6 g need c) (S:Sched g.edges need c.toNat t left on) (he:h.edges=g.edges) (hl:h.work.length=need.length) (hle:∀n,isN need n->lf need n<=lf h.work n) {F:Int->Int}{M:Int} (hF:Far h F M) (hM:0<=M) :
  c*(t.length:Int)<=(need.sum-left.sum)+(c-1)*M:=by
 obtain⟨hG,hA⟩:=Za9 hin.ck
 have c1:=hin.c1
 have hE:Zgb g.edges need.length:=by rw[hin.nl];exact Zhk hG
 have W:=ZCJ hF
 rw[he] at W
 obtain⟨b1,b2⟩:=Sched.bound hin.rng hE W hl hle hM (show 1<=c.toNat by omega) (fun {left on row} hl2 hol hp cr f=>ZlR hG hA (by rw[hl2,hin.nl]) hp cr f (by omega)) S
 have e1:((c.toNat:Nat):Int)=c:=by omega
 rw[e1] at b2
 have:(c-1)*(Zm0 t:Int)<=(c-1)*M:=Int.mul_le_mul_of_nonneg_left b1 (by omega)
 omega
end
end Go.Proofs.YtgcfmiajkbbmeaaGreatDoor
