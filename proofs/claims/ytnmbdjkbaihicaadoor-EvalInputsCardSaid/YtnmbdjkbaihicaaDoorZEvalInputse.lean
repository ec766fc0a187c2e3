/- EvalInputs: part 5 of 6 of the proof. -/
import Derived.Test.YtnmbdjkbaihicaaDoorZEvalInputsd
import Derived.KernelRfl
set_option maxRecDepth 100000
set_option maxHeartbeats 40000000
namespace Go.Proofs.YtnmbdjkbaihicaaDoor
open Go Go.Proofs.YtnmbdjkbaihicaaDoorE
set_option linter.unusedVariables false
set_option linter.unusedSimpArgs false
theorem ZfZ (b:Zh) (c:Int) {W:List Int}{P:List Zh} (h1:W.length≤10000) (h2:P.length≤10000):Zah b c W P=some ():=by
 unfold Zah
 rw[Zgj (by omega),Zgj (by omega)];rfl
theorem ZiB (b c:Int) {E:List Zn} (h1:E.length≤10000):ZG b c E=some ():=by
 unfold ZG
 rw[Zgj (by omega)];rfl
theorem Zqv {β:Type} (P:List β) (x:β) (hP:P.length≤10000):w64 ((List.length (P++[x]):Int)-1)=(P.length:Int):=by
 rw[List.length_append]
 simp only[List.length_cons,List.length_nil]
 rw[Zcu (by omega) (by omega)]
 omega
theorem Zub {d:Zk} (g:ZcJ d) {n:Nat} (hn:n<d.parts.length) (hc:Zcq d (n:Int)=some (tch d n)) {W:List Int}{E:List Zn}{P:List Zh} (M5:List (Int×Int)) (M6:List (Zi×Int)) (hW:W.length≤1000) (hE:E.length≤1000) (hP:P.length≤1000) :
  Zc9 d (n:Int) W E P M5 M6=(lp (ZA d (n:Int) (tch d n)) (0,0,M5,M6,W,E,P)).bind fun r=>some (bif decide (0<nt d n) then .inl r else .inr (.inl r.2.2.1)):=by
 obtain⟨x,x1,x2⟩:=Ztk hn
 have hnt:=ZvR g n
 have hnl:(tch d n).length=nt d n:=rfl
 have e1:w64 (((tch d n).length:Int)+1)=(((tch d n).length+1:Nat):Int):=by rw[Zcu (by omega) (by omega)];omega
 have w1:w64 ((0:Int)+1)=1:=Zcu (by omega) (by omega)
 have w2:w64 ((1:Int)+1)=2:=Zcu (by omega) (by omega)
 have w0:w64 ((1:Int)-1)=0:=Zcu (by omega) (by omega)
 have lW:∀a:Int,(W++[a]).length≤10000:=fun a=>by rw[List.length_append];simp only[List.length_cons,List.length_nil];omega
 have lP:∀a:Zh,(P++[a]).length≤10000:=fun a=>by rw[List.length_append];simp only[List.length_cons,List.length_nil];omega
 unfold Zc9
 rw[hc,Option.bind_some,Za0 (Zbp d (n:Int) W E P M5 M6 (tch d n)),Za0 (ZA d (n:Int) (tch d n))]
 by_cases h0:0<nt d n
 ·obtain⟨f,f1,f2,_⟩:=Zit g.g h0
  have c0:decide ((0:Int)<(((tch d n).length+1:Nat):Int))=true:=decide_eq_true (by omega)
  have c1:decide ((0:Int)<((tch d n).length:Int))=true:=decide_eq_true (by omega)
  have c2:decide ((1:Int)<(((tch d n).length+1:Nat):Int))=true:=decide_eq_true (by omega)
  have f1':ZD (tch d n) 0=some (tch d n)[0]:=f1
  simp only[Zbp,ZA,e1,c0,c1,cond_true,x1,Option.bind_some,f1',f2,ZfZ _ _ (show W.length≤10000 by omega) (show P.length≤10000 by omega),w1,decide_eq_false (show ¬(0:Int)<0 by omega),cond_false,decide_eq_true h0]
  rw[Za0 (Zbo d (n:Int) W E P M5 M6 (tch d n) f),Za0 (ZA d (n:Int) (tch d n))]
  by_cases h1:1<nt d n
  ·obtain⟨f',f1b,f2b,_⟩:=Zit g.g h1
   have f1b':ZD (tch d n) 1=some (tch d n)[1]:=f1b
   have c3:decide ((1:Int)<((tch d n).length:Int))=true:=decide_eq_true (by omega)
   simp only[Zbo,ZA,e1,c2,c3,cond_true,x1,Option.bind_some,f1',f2,f1b',f2b,ZfZ _ _ (lW _) (lP _),ZiB _ _ (show E.length≤10000 by omega),w2,w0,decide_eq_true (show(0:Int)<1 by omega)]
   generalize lp (ZA d (n:Int) (tch d n)) _=r
   cases r<;>rfl
  ·have c3:decide ((1:Int)<((tch d n).length:Int))=false:=decide_eq_false (by omega)
   simp only[Zbo,ZA,e1,c2,c3,cond_true,cond_false,x1,Option.bind_some,f1',f2,ZfZ _ _ (lW _) (lP _),ZiB _ _ (show E.length≤10000 by omega),w2,w0,decide_eq_true (show(0:Int)<1 by omega)]
   generalize lp (ZA d (n:Int) (tch d n)) _=r
   cases r<;>rfl
 ·have c0:decide ((0:Int)<(((tch d n).length+1:Nat):Int))=true:=decide_eq_true (by omega)
  have c1:decide ((0:Int)<((tch d n).length:Int))=false:=decide_eq_false (by omega)
  have c2:decide ((1:Int)<(((tch d n).length+1:Nat):Int))=false:=decide_eq_false (by omega)
  simp only[Zbp,ZA,e1,c0,c1,cond_true,x1,Option.bind_some,ZfZ _ _ (show W.length≤10000 by omega) (show P.length≤10000 by omega),w1,decide_eq_false (show ¬(0:Int)<0 by omega),cond_false,decide_eq_false h0]
  rw[Za0 (Zb7 d (n:Int) W E P M5 M6 (tch d n) x),Za0 (ZA d (n:Int) (tch d n))]
  simp only[Zb7,ZA,e1,c2,cond_false,Option.bind_some]
abbrev eqF:Zi→Zi→Bool:=fun ka kb:Zi=>((ka.maker==kb.maker)&&((ka.user==kb.user)&&((ka.pos==kb.pos)&&true)))
def ZhJ (M:List (Int×Int)) (n F i:Nat):List (Int×Int):=if i=0 then M else M++[((n:Int),((F+i-1:Nat):Int))]
theorem ZrF {M:List (Int×Int)}{n F:Nat} (h:∀q∈M,q.1≠(n:Int)) (i:Nat):Zu (fun ka kb:Int=>(ka==kb)) (ZhJ M n F i) (n:Int) ((F+i:Nat):Int)=ZhJ M n F (i+1):=by
 have hq:∀q∈M,eqI (n:Int) q.1=false:=fun q hq=>by
  show((n:Int)==q.1)=false
  exact beq_false_of_ne (Ne.symm (h q hq))
 unfold ZhJ
 rw[if_neg (show i+1≠0 by omega)]
 by_cases h0:i=0
 ·subst h0
  rw[if_pos rfl]
  exact Zf7 eqI (n:Int) _ M hq
 ·rw[if_neg h0]
  exact ZmA eqI (n:Int) _ _ (by simp) M hq
theorem ZqN {M:List (Int×Int)}{n F:Nat} (h:∀q∈M,q.1≠(n:Int)) (i:Nat):Z1 (fun ka kb:Int=>(ka==kb)) (ZhJ M n F (i+1)) (n:Int) 0=((F+i:Nat):Int):=by
 unfold ZhJ
 rw[if_neg (show i+1≠0 by omega)]
 exact Zpk eqI (n:Int) 0 _ (by simp) M [] (fun q hq=>by
  show((n:Int)==q.1)=false
  exact beq_false_of_ne (Ne.symm (h q hq)))
def Zfg (d:Zk) (n j:Nat):Zi:=match (tch d n)[j]? with | some z=>(match d.futures[z.toNat]? with | some f=>f | none=>⟨0,0,0⟩) | none=>⟨0,0,0⟩
theorem ZeV {d:Zk}{n i:Nat} (g:ZkS d) (hi:i<nt d n):ZD (tch d n) (i:Int)=some (tch d n)[i]∧ZD d.futures (tch d n)[i]=some (Zfg d n i)∧(Zfg d n i).user=(n:Int)∧(Zfg d n i).pos=cut d n (i+1)∧Zfg d n i∈d.futures:=by
 obtain⟨f,h1,h2,h3,h4,h5,h6⟩:=Zit g hi
 have e:Zfg d n i=f:=by
  unfold Zfg
  rw[List.getElem?_eq_getElem hi]
  show(match d.futures[((tch d n)[i]).toNat]? with | some f=>f | none=>⟨0,0,0⟩)=f
  rw[h3]
 rw[e]
 exact⟨h1,h2,h4,h5,h6⟩
theorem ZnO {d:Zk} (g:ZkS d) {n i j:Nat} (hij:i<j) (hj:j<nt d n):(Zfg d n i).pos<(Zfg d n j).pos:=by
 obtain⟨_,_,h3,_,_,h5,_⟩:=Zit g (show i<nt d n by omega)
 obtain⟨_,_,k3,_,_,k5,_⟩:=Zit g hj
 rw[(ZeV g (show i<nt d n by omega)).2.2.2.1,(ZeV g hj).2.2.2.1]
 have:=List.pairwise_iff_getElem.1 (ZkQ g n).rise i j (show i<nt d n by omega) hj hij
 have e:∀k (hk:k<nt d n),cut d n (k+1)=Zeh d.futures (tch d n)[k]:=fun k hk=>by
  unfold cut
  rw[if_neg (by omega),Nat.add_sub_cancel,List.getElem?_eq_getElem hk]
 rw[e i (by omega),e j hj]
 exact this
def Ze6 (d:Zk) (n k:Nat):List (Zi×Int):=(List.range k).map fun j:Nat=>(Zfg d n j,((ZN d n+j+1:Nat):Int))
theorem ZqF (d:Zk) (n k:Nat):Ze6 d n (k+1)=Ze6 d n k++[(Zfg d n k,((ZN d n+k+1:Nat):Int))]:=by unfold Ze6;rw[List.range_succ,List.map_append];rfl
theorem Zqg {a b:Zi} (h:a.user≠b.user∨a.pos≠b.pos):eqF a b=false:=by
 show((a.maker==b.maker)&&((a.user==b.user)&&((a.pos==b.pos)&&true)))=false
 rcases h with h | h
 ·rw[beq_false_of_ne h];simp
 ·rw[beq_false_of_ne h];simp
theorem ZnN {d:Zk} (g:ZkS d) {n k:Nat} (hk:k<nt d n) {M:List (Zi×Int)} (h:∀q∈M,q.1.user≠(n:Int)) :
  Zu (fun ka kb:Zi=>((ka.maker==kb.maker)&&((ka.user==kb.user)&&((ka.pos==kb.pos)&&true)))) (M++Ze6 d n k) (Zfg d n k) ((ZN d n+(k+1):Nat):Int)=M++Ze6 d n (k+1):=by
 rw[ZqF,← List.append_assoc]
 refine Zf7 eqF _ _ _ fun q hq=>?_
 have hu:=(ZeV g hk).2.2.1
 rcases List.mem_append.1 hq with hq | hq
 ·exact Zqg (.inl (by rw[hu];exact Ne.symm (h q hq)))
 ·unfold Ze6 at hq
  obtain⟨j,hj,rfl⟩:=List.mem_map.1 hq
  rw[List.mem_range] at hj
  have:=ZnO g hj hk
  exact Zqg (.inr (by show(Zfg d n k).pos≠(Zfg d n j).pos;omega))
theorem Zsw {d:Zk} (g:ZcJ d) {n:Nat} (hn:n<d.parts.length) {W:List Int}{E:List Zn}{P:List Zh}{M5:List (Int×Int)}{M6:List (Zi×Int)} (hW:W.length≤1000) (hE:E.length≤1000) (hP:P.length=ZN d n)
  (h5:∀q∈M5,q.1≠(n:Int)) (h6:∀q∈M6,q.1.user≠(n:Int)) :
  lp (ZA d (n:Int) (tch d n)) (0,0,M5,M6,W,E,P)=some (M5++[((n:Int),((ZN d n+nt d n:Nat):Int))],M6++Ze6 d n (nt d n),W++Zn4 d n,E++ZfL d n (nt d n),P++ZdR n (nt d n+1)):=by
 obtain⟨x,x1,x2⟩:=Ztk hn
 have hnt:=ZvR g n
 have hnl:(tch d n).length=nt d n:=rfl
 have hF:=Zg1 g n
 have hpl:=g.pl
 have e1:w64 (((tch d n).length:Int)+1)=((nt d n+1:Nat):Int):=by show w64 ((nt d n:Int)+1)=_;rw[Zcu (by omega) (by omega)];omega
 have key:∀(k i:Nat),i+k=nt d n+1→lp (ZA d (n:Int) (tch d n)) (cut d n i,(i:Int),ZhJ M5 n (ZN d n) i,M6++Ze6 d n (i-1),W++ZiA d n i,E++ZfL d n (i-1),P++ZdR n i) =
   some (ZhJ M5 n (ZN d n) (nt d n+1),M6++Ze6 d n (nt d n),W++Zn4 d n,E++ZfL d n (nt d n),P++ZdR n (nt d n+1)):=by
  intro k
  induction k with
  | zero=>
   intro i hi
   have:i=nt d n+1:=by omega
   subst this
   rw[Za0]
   simp only[ZA,e1,ZeT,cond_false]
   rfl
  | succ k ih=>
   intro i hi
   have hi':i<nt d n+1:=by omega
   have b0:=ZxY g.g n i
   have b1:=ZxY g.g n (i+1)
   have lP:(P++ZdR n i).length=ZN d n+i:=by rw[List.length_append,Zmt,hP]
   have l2:(W++ZiA d n i).length≤10000:=by rw[List.length_append,Zop];omega
   have l3:(E++ZfL d n (i-1)).length≤10000:=by rw[List.length_append,Zn5];omega
   have lput:=Zqv (P++ZdR n i) (Zh.mk (n:Int) (i:Int)) (by rw[lP];omega)
   rw[lP] at lput
   have p5:=ZrF (F:=ZN d n) h5 i
   have g5:=ZqN (F:=ZN d n) h5 i
   have w5:w64 (cut d n (i+1)-cut d n i)=cut d n (i+1)-cut d n i:=Zcu (by omega) (by omega)
   have ih':=ih (i+1) (by omega)
   rw[ZqR,ZpW,← List.append_assoc,← List.append_assoc] at ih'
   rw[Za0]
   have fin:i=nt d n→cut d n (i+1)=x.work:=fun h=>by rw[h,Zxp,x2]
   have node:=fun c=>ZfZ (Zh.mk (n:Int) (i:Int)) c l2 (show(P++ZdR n i).length≤10000 by rw[lP];omega)
   by_cases hlast:i<nt d n
   ·obtain⟨q1,q2,q3,q4,_⟩:=ZeV g.g hlast
    cases i with
    | zero=>
     simp only[ZA,e1,Zee hi',cond_true,x1,Option.bind_some,Zee (show 0<(tch d n).length from hlast),q1,q2,q4,node,decide_eq_false (show ¬(0:Int)<((0:Nat):Int) by omega),cond_false,lput,p5,w5,ZY hi' (show nt d n+1<9223372036854775808 by omega)]
     exact ih'
    | succ j=>
     obtain⟨r1,r2,r3,r4,_⟩:=ZeV g.g (show j<nt d n by omega)
     have e2:w64 (((j+1:Nat):Int)-1)=(j:Int):=by rw[Zcu (by omega) (by omega)];omega
     have e3:w64 (((ZN d n+(j+1):Nat):Int)-1)=((ZN d n+j:Nat):Int):=by rw[Zcu (by omega) (by omega)];omega
     have p6:=ZnN g.g (show j<nt d n by omega) h6
     rw[Nat.add_sub_cancel] at l3 ih' ⊢
     rw[Zmz,← List.append_assoc] at ih'
     simp only[ZA,e1,Zee hi',cond_true,x1,Option.bind_some,Zee (show j+1<(tch d n).length from hlast),q1,q2,q4,node,decide_eq_true (show(0:Int)<((j+1:Nat):Int) by omega),lput,p5,g5,w5,e2,e3,r1,r2,ZiB _ _ l3,p6,ZY hi' (show nt d n+1<9223372036854775808 by omega)]
     exact ih'
   ·have hin:i=nt d n:=by omega
    have hfin:=fin hin
    rw[hfin] at w5 ih'
    have c3:decide ((i:Int)<((tch d n).length:Int))=false:=decide_eq_false (by have:((tch d n).length:Int)=(nt d n:Int):=rfl;omega)
    cases i with
    | zero=>
     simp only[ZA,e1,Zee hi',cond_true,x1,Option.bind_some,c3,node,decide_eq_false (show ¬(0:Int)<((0:Nat):Int) by omega),cond_false,lput,p5,w5,ZY hi' (show nt d n+1<9223372036854775808 by omega)]
     exact ih'
    | succ j=>
     obtain⟨r1,r2,r3,r4,_⟩:=ZeV g.g (show j<nt d n by omega)
     have e2:w64 (((j+1:Nat):Int)-1)=(j:Int):=by rw[Zcu (by omega) (by omega)];omega
     have e3:w64 (((ZN d n+(j+1):Nat):Int)-1)=((ZN d n+j:Nat):Int):=by rw[Zcu (by omega) (by omega)];omega
     have p6:=ZnN g.g (show j<nt d n by omega) h6
     rw[Nat.add_sub_cancel] at l3 ih' ⊢
     rw[Zmz,← List.append_assoc] at ih'
     simp only[ZA,e1,Zee hi',cond_true,cond_false,x1,Option.bind_some,c3,node,decide_eq_true (show(0:Int)<((j+1:Nat):Int) by omega),lput,p5,g5,w5,e2,e3,r1,r2,ZiB _ _ l3,p6,ZY hi' (show nt d n+1<9223372036854775808 by omega)]
     exact ih'
 have:=key (nt d n+1) 0 (by omega)
 simpa [ZhJ,Ze6,ZiA,ZfL,ZdR,cut] using this
end Go.Proofs.YtnmbdjkbaihicaaDoor
namespace Go.Proofs.YtnmbdjkbaihicaaDoor
open Go Go.Proofs.YtnmbdjkbaihicaaDoorE
set_option linter.unusedVariables false
set_option linter.unusedSimpArgs false
def ZkY (g:Zcc) (a:Int) (T:List Bool):Prop:=∀e∈g.edges,(e.src=a∨bAt T e.src=true)→bAt T e.dst=true
end Go.Proofs.YtnmbdjkbaihicaaDoor
namespace Go.Proofs.YtnmbdjkbaihicaaDoor
open Go Go.Proofs.YtnmbdjkbaihicaaDoorE
set_option linter.unusedVariables false
set_option linter.unusedSimpArgs false
def ZeW (d:Zk) (k:Nat):List (Int×Int):=(List.range k).map fun n:Nat=>((n:Int),(ZN d n:Int))
def Zfn (d:Zk) (k:Nat):List (Int×Int):=(List.range k).map fun n:Nat=>((n:Int),((ZN d n+nt d n:Nat):Int))
def Zdv (d:Zk) (k:Nat):List (Zi×Int):=upto (fun n=>Ze6 d n (nt d n)) k
theorem Zqk (d:Zk) (k:Nat):ZeW d (k+1)=ZeW d k++[((k:Int),(ZN d k:Int))]:=by unfold ZeW;rw[List.range_succ,List.map_append];rfl
theorem Zrc (d:Zk) (k:Nat):Zfn d (k+1)=Zfn d k++[((k:Int),((ZN d k+nt d k:Nat):Int))]:=by unfold Zfn;rw[List.range_succ,List.map_append];rfl
theorem Zsg (d:Zk) (k:Nat):∀q∈ZeW d k,q.1≠(k:Int):=fun q hq=>by
 unfold ZeW at hq
 obtain⟨j,hj,rfl⟩:=List.mem_map.1 hq
 rw[List.mem_range] at hj
 show(j:Int)≠(k:Int)
 omega
theorem Zpx (d:Zk) (k:Nat):∀q∈Zfn d k,q.1≠(k:Int):=fun q hq=>by
 unfold Zfn at hq
 obtain⟨j,hj,rfl⟩:=List.mem_map.1 hq
 rw[List.mem_range] at hj
 show(j:Int)≠(k:Int)
 omega
theorem Zla {d:Zk}{k:Nat}{q:Zi×Int} (h:q∈Zdv d k):∃n j,n<k∧j<nt d n∧q=(Zfg d n j,((ZN d n+j+1:Nat):Int)):=by
 unfold Zdv upto at h
 obtain⟨n,hn,hq⟩:=List.mem_flatMap.1 h
 unfold Ze6 at hq
 obtain⟨j,hj,rfl⟩:=List.mem_map.1 hq
 exact⟨n,j,List.mem_range.1 hn,List.mem_range.1 hj,rfl⟩
theorem Zrx {d:Zk} (g:ZkS d) (k:Nat):∀q∈Zdv d k,q.1.user≠(k:Int):=fun q hq=>by
 obtain⟨n,j,hn,hj,rfl⟩:=Zla hq
 show(Zfg d n j).user≠(k:Int)
 rw[(ZeV g hj).2.2.1]
 omega
theorem ZgR {K W:Type} (eq:K→K→Bool) (z:W) (f:Nat→K) (v:Nat→W) {i:Nat} (h0:eq (f i) (f i)=true) (h1:∀j,j<i→eq (f i) (f j)=false):∀k,i<k→Z1 eq ((List.range k).map fun j=>(f j,v j)) (f i) z=v i
 | 0,h=>absurd h (by omega)
 | k+1,h=>by
  rw[List.range_succ,List.map_append]
  by_cases hk:i<k
  ·rw[ZgI eq (f i) z _ _ ⟨(f i,v i),List.mem_map.2 ⟨i,List.mem_range.2 hk,rfl⟩,h0⟩]
   exact ZgR eq z f v h0 h1 k hk
  ·have:i=k:=by omega
   subst this
   refine Zpk eq (f i) z (v i) h0 _ [] fun q hq=>?_
   obtain⟨j,hj,rfl⟩:=List.mem_map.1 hq
   exact h1 j (List.mem_range.1 hj)
theorem Zpz {d:Zk}{z:Int} (h:inR d z):Z1 (fun ka kb:Int=>(ka==kb)) (ZeW d d.parts.length) z 0=Zgz d z:=by
 have:=ZgR eqI 0 (fun n:Nat=>(n:Int)) (fun n=>(ZN d n:Int)) (i:=z.toNat) (by simp) (fun j hj=>beq_false_of_ne (by omega)) d.parts.length h.2
 have e:((z.toNat:Nat):Int)=z:=Int.toNat_of_nonneg h.1
 simp only[e] at this
 exact this
theorem Zod {d:Zk}{z:Int} (h:inR d z):Z1 (fun ka kb:Int=>(ka==kb)) (Zfn d d.parts.length) z 0=ZcI d z:=by
 have:=ZgR eqI 0 (fun n:Nat=>(n:Int)) (fun n=>((ZN d n+nt d n:Nat):Int)) (i:=z.toNat) (by simp) (fun j hj=>beq_false_of_ne (by omega)) d.parts.length h.2
 have e:((z.toNat:Nat):Int)=z:=Int.toNat_of_nonneg h.1
 simp only[e] at this
 refine Eq.trans this ?_
 unfold ZcI
 show _=((ZN d z.toNat+(nt d z.toNat+1):Nat):Int)-1
 omega
theorem ZqC {d:Zk} (g:ZcJ d) {f:Zi} (h:f∈d.futures):∃j,j<nt d f.user.toNat∧Zfg d f.user.toNat j=f:=by
 obtain⟨m,hm⟩:=List.getElem?_of_mem h
 have hu:=g.user h
 have e:((f.user.toNat:Nat):Int)=f.user:=Int.toNat_of_nonneg hu.1
 have:=(ZkQ g.g f.user.toNat).mem (m:Int) |>.2 ⟨m,f,hm,e.symm,rfl⟩
 obtain⟨j,hj,hj2⟩:=List.getElem_of_mem this
 refine⟨j,hj,?_⟩
 unfold Zfg
 rw[List.getElem?_eq_getElem hj]
 show(match d.futures[((tch d f.user.toNat)[j]).toNat]? with | some f=>f | none=>⟨0,0,0⟩)=f
 rw[hj2,Int.toNat_natCast,hm]
theorem Zs5 {γ R:Type} (p:Nat→γ→Bool) (out:Nat→γ→R) (fin:R):∀(l:List γ) (i j:Nat) (x:γ),l[j]? = some x→p (i+j) x=true→(∀k y,k<j→l[k]? = some y→p (i+k) y=false)→ZgW p out fin i l=out (i+j) x
 | [],i,j,x,h,_,_=>by cases h
 | y :: l,i,0,x,h,h1,_=>by
  cases h
  unfold ZgW
  rw[Nat.add_zero] at h1
  rw[h1];rfl
 | y :: l,i,j+1,x,h,h1,h2=>by
  unfold ZgW
  have h0:=h2 0 y (by omega) rfl
  rw[Nat.add_zero] at h0
  rw[h0]
  show ZgW p out fin (i+1) l=_
  rw[show i+(j+1)=i+1+j by omega] at h1 ⊢
  exact Zs5 p out fin l (i+1) j x h h1 fun k z hk hz=>by
   have:=h2 (k+1) z (by omega) hz
   rwa [show i+(k+1)=i+1+k by omega] at this
theorem ZsV {d:Zk} (g:ZcJ d) {f:Zi} (h:f∈d.futures) {j:Nat} (hj:j<nt d f.user.toNat) (he:Zfg d f.user.toNat j=f):Zrs d f=((ZN d f.user.toNat+j+1:Nat):Int):=by
 have pos:∀k (hk:k<nt d f.user.toNat),Zeh d.futures (tch d f.user.toNat)[k]=(Zfg d f.user.toNat k).pos:=fun k hk=>by
  rw[(ZeV g.g hk).2.2.2.1]
  unfold cut
  rw[if_neg (by omega),Nat.add_sub_cancel,List.getElem?_eq_getElem hk]
 unfold Zrs
 rw[Zs5 (fun _ z=>Zeh d.futures z==f.pos) (fun i _=>Zgz d f.user+(i:Int)+1) (-1) (tch d f.user.toNat) 0 j _ (List.getElem?_eq_getElem hj) (by show(Zeh d.futures (tch d f.user.toNat)[j]==f.pos)=true;rw[pos j hj,he];simp) (fun k y hk hy=>by
  have hk2:k<nt d f.user.toNat:=by omega
  have hy2:(tch d f.user.toNat)[k]=y:=Option.some.inj ((List.getElem?_eq_getElem hk2).symm.trans hy)
  have:=ZnO g.g hk hj
  rw[he] at this
  show(Zeh d.futures y==f.pos)=false
  rw[← hy2,pos k hk2]
  exact beq_false_of_ne (by omega))]
 unfold Zgz
 omega
theorem ZqD (f:Zi):eqF f f=true:=by simp[eqF]
theorem ZtV {d:Zk} (g:ZcJ d) {f:Zi} (h:f∈d.futures):Z1 (fun ka kb:Zi=>((ka.maker==kb.maker)&&((ka.user==kb.user)&&((ka.pos==kb.pos)&&true)))) (Zdv d d.parts.length) f 0=Zrs d f:=by
 obtain⟨j,hj,he⟩:=ZqC g h
 have hu:=g.user h
 have eu:((f.user.toNat:Nat):Int)=f.user:=Int.toNat_of_nonneg hu.1
 have key:∀k,f.user.toNat<k→Z1 eqF (Zdv d k) f 0=Zrs d f:=by
  intro k
  induction k with
  | zero=>intro hk;exact absurd hk (by omega)
  | succ k ih=>
   intro hk
   rw[show Zdv d (k+1)=Zdv d k++Ze6 d k (nt d k) from ZcE _ k]
   by_cases hlt:f.user.toNat<k
   ·rw[ZgI eqF f 0 _ _ ⟨(f,((ZN d f.user.toNat+j+1:Nat):Int)),?_,ZqD f⟩]
    ·exact ih hlt
    ·unfold Zdv upto
     refine List.mem_flatMap.2 ⟨f.user.toNat,List.mem_range.2 hlt,?_⟩
     unfold Ze6
     exact List.mem_map.2 ⟨j,List.mem_range.2 hj,by rw[he]⟩
   ·have hk2:k=f.user.toNat:=by omega
    subst hk2
    rw[Zf9 eqF f 0 _ _ (fun q hq=>by
     obtain⟨n,i,hn,hi,rfl⟩:=Zla hq
     refine Zqg (.inl ?_)
     show f.user≠(Zfg d n i).user
     rw[(ZeV g.g hi).2.2.1]
     omega)]
    have:=ZgR eqF 0 (fun i=>Zfg d f.user.toNat i) (fun i=>((ZN d f.user.toNat+i+1:Nat):Int)) (i:=j) (ZqD _) (fun i hi=>by
     have:=ZnO g.g hi hj
     exact Zqg (.inr (by omega))) (nt d f.user.toNat) hj
    rw[ZsV g h hj he]
    rw[he] at this
    exact this
 exact key d.parts.length hu.2
theorem ZsA {d:Zk} (g:ZcJ d) (hc:∀n:Nat,Zcq d (n:Int)=some (tch d n)):lp (Zci d) (0,[],[],[],[],[],[])=some (ZgG d d.parts.length,ZfE d d.parts.length,Zcv d d.parts.length,ZeW d d.parts.length,Zfn d d.parts.length,Zdv d d.parts.length):=by
 have hpl:=g.pl
 have key:∀(k i:Nat),i+k=d.parts.length→lp (Zci d) ((i:Int),ZgG d i,ZfE d i,Zcv d i,ZeW d i,Zfn d i,Zdv d i)=some (ZgG d d.parts.length,ZfE d d.parts.length,Zcv d d.parts.length,ZeW d d.parts.length,Zfn d d.parts.length,Zdv d d.parts.length):=by
  intro k
  induction k with
  | zero=>
   intro i hi
   have:i=d.parts.length:=by omega
   subst this
   rw[Za0]
   simp only[Zci,ZeT,cond_false]
  | succ k ih=>
   intro i hi
   have hi':i<d.parts.length:=by omega
   have hF:=Zg1 g i
   have h1:=ZkW d i
   have l1:(ZgG d i).length≤1000:=by rw[Ziw];omega
   have l2:(ZfE d i).length≤1000:=by omega
   have l3:(Zcv d i).length≤1000:=by rw[Zct];omega
   have ih':=ih (i+1) (by omega)
   rw[show ZfE d (i+1)=ZfE d i++ZfL d i (nt d i) from ZcE _ i,show ZgG d (i+1)=ZgG d i++Zn4 d i from ZcE _ i,show Zcv d (i+1)=Zcv d i++ZdR i (nt d i+1) from ZcE _ i,Zqk,Zrc,show Zdv d (i+1)=Zdv d i++Ze6 d i (nt d i) from ZcE _ i] at ih'
   have pe:=Zub g hi' (hc i) (Zfn d i) (Zdv d i) l1 l2 l3
   rw[Zsw g hi' l1 l2 (Zct d i) (Zpx d i) (Zrx g.g i),Option.bind_some] at pe
   have p4:Zu (fun ka kb:Int=>(ka==kb)) (ZeW d i) (i:Int) ((Zcv d i).length:Int)=ZeW d i++[((i:Int),(ZN d i:Int))]:=by
    rw[Zct]
    exact Zf7 eqI (i:Int) _ _ fun q hq=>beq_false_of_ne (Ne.symm (Zsg d i q hq))
   have p5:Zu (fun ka kb:Int=>(ka==kb)) (Zfn d i) (i:Int) (ZN d i:Int)=Zfn d i++[((i:Int),(ZN d i:Int))]:=Zf7 eqI (i:Int) _ _ fun q hq=>beq_false_of_ne (Ne.symm (Zpx d i q hq))
   have lput:=Zqv (Zcv d i) (Zh.mk (i:Int) 0) (by omega)
   rw[Zct] at lput
   rw[Za0]
   by_cases h0:0<nt d i
   ·rw[decide_eq_true h0] at pe
    simp only[Zci,Zee hi',cond_true,pe,Option.bind_some,p4,ZY hi' (show d.parts.length<9223372036854775808 by omega)]
    exact ih'
   ·have hz:nt d i=0:=by omega
    rw[decide_eq_false h0] at pe
    simp only[Zci,Zee hi',cond_true,cond_false,pe,Option.bind_some,p4,lput,p5,ZY hi' (show d.parts.length<9223372036854775808 by omega)]
    rw[hz] at ih'
    simpa [ZfL,ZdR,Ze6] using ih'
 exact key d.parts.length 0 (by omega)
theorem Zsf {d:Zk} (g:ZcJ d) {r3:List Int×List Zn×List Zh×List (Int×Int)×List (Int×Int)×List (Zi×Int)} (h4:r3.2.2.2.1=ZeW d d.parts.length) (h5:r3.2.2.2.2.1=Zfn d d.parts.length) (E:List Zn) (hE:E.length≤1000):lp (ZcD d r3) (0,E)=some (E++Zmc d):=
 have he:=g.el
 ZnD d.edges (by omega) (ZcD d r3) (fun e=>⟨ZcI d e.src,Zgz d e.dst⟩) (fun i x s hi hx hb=>by
  have hm:=List.mem_of_getElem? hx
  have ed:∀b c,ZG b c s=some ():=fun b c=>by unfold ZG;rw[hb];rfl
  simp only[ZcD,Zee hi,cond_true,Zau hx,Option.bind_some,h4,h5,Zod (g.src hm),Zpz (g.dst hm),ed,ZY hi (show d.edges.length<9223372036854775808 by omega)]) (fun s=>by simp only[ZcD,ZeT,cond_false]) E (by omega)
theorem Zqi {d:Zk} (g:ZcJ d) {r3:List Int×List Zn×List Zh×List (Int×Int)×List (Int×Int)×List (Zi×Int)} (h5:r3.2.2.2.2.1=Zfn d d.parts.length) (h6:r3.2.2.2.2.2=Zdv d d.parts.length) (E:List Zn) (hE:E.length≤1000):lp (ZcG d r3) (0,E)=some (E++ZnS d):=
 have he:=g.fl
 ZnD d.futures (by omega) (ZcG d r3) (fun f=>⟨ZcI d f.maker,Zrs d f⟩) (fun i x s hi hx hb=>by
  have hm:=List.mem_of_getElem? hx
  have ed:∀b c,ZG b c s=some ():=fun b c=>by unfold ZG;rw[hb];rfl
  simp only[ZcG,Zee hi,cond_true,Zau hx,Option.bind_some,h5,h6,Zod (g.maker hm),ZtV g hm,ed,ZY hi (show d.futures.length<9223372036854775808 by omega)]) (fun s=>by simp only[ZcG,ZeT,cond_false]) E (by omega)
theorem Zt2 {d:Zk} (g:ZcJ d) (hz:Zh7 d) {r3:List Int×List Zn×List Zh×List (Int×Int)×List (Int×Int)×List (Zi×Int)} (h4:r3.2.2.2.1=ZeW d d.parts.length) (h5:r3.2.2.2.2.1=Zfn d d.parts.length) (E:List Zn) (hE:E.length≤1000) :
  lp (ZcF d r3) (0,ZgG d d.parts.length,E,Zcv d d.parts.length)=some (Zjt d,E++Zfo d d.barriers.length,ZdF d):=by
 have hbl:=g.bl
 have hF:=Zg1 g d.parts.length
 have hpl:=g.pl
 have key:∀(k i:Nat),i+k=d.barriers.length→lp (ZcF d r3) ((i:Int),ZgG d d.parts.length++List.replicate i 1,E++Zfo d i,Zcv d d.parts.length++ZeC i)=some (Zjt d,E++Zfo d d.barriers.length,ZdF d):=by
  intro k
  induction k with
  | zero=>
   intro i hi
   have:i=d.barriers.length:=by omega
   subst this
   rw[Za0]
   simp only[ZcF,ZeT,cond_false]
   rfl
  | succ k ih=>
   intro i hi
   have hi':i<d.barriers.length:=by omega
   have hx:d.barriers[i]? = some d.barriers[i]:=List.getElem?_eq_getElem hi'
   have hm:=List.mem_of_getElem? hx
   have hsz:=hz.i _ hm
   have hB:=ZkL hz i
   have lp_:(Zcv d d.parts.length++ZeC i).length=ZN d d.parts.length+i:=by rw[List.length_append,Zct,Zmr]
   have lw_:(ZgG d d.parts.length++List.replicate i (1:Int)).length=ZN d d.parts.length+i:=by rw[List.length_append,Ziw,List.length_replicate]
   have lput:=Zqv (Zcv d d.parts.length++ZeC i) (Zh.mk (-1) (i:Int)) (by rw[lp_];omega)
   rw[lp_,show((ZN d d.parts.length+i:Nat):Int)=Zoo d i from rfl] at lput
   have k4:=fun s=>ZnD d.barriers[i].ins (by omega) (Zdk r3 ((i:Int),ZgG d d.parts.length++List.replicate i 1,E++Zfo d i,Zcv d d.parts.length++ZeC i) d.barriers[i]) (fun q=>⟨ZcI d q,Zoo d i⟩) (fun j x s hj hx hb=>by
    have ed:∀b c,ZG b c s=some ():=fun b c=>by unfold ZG;rw[hb];rfl
    simp only[Zdk,Zee hj,cond_true,Zau hx,Option.bind_some,h5,Zod (g.ins _ hm x (List.mem_of_getElem? hx)),lput,ed,ZY hj (show d.barriers[i].ins.length<9223372036854775808 by omega)]) (fun s=>by simp only[Zdk,ZeT,cond_false]) s
   have k5:=fun s=>ZnD d.barriers[i].outs (by omega) (Zdl r3 ((i:Int),ZgG d d.parts.length++List.replicate i 1,E++Zfo d i,Zcv d d.parts.length++ZeC i) d.barriers[i]) (fun q=>⟨Zoo d i,Zgz d q⟩) (fun j x s hj hx hb=>by
    have ed:∀b c,ZG b c s=some ():=fun b c=>by unfold ZG;rw[hb];rfl
    simp only[Zdl,Zee hj,cond_true,Zau hx,Option.bind_some,h4,Zpz (g.outs _ hm x (List.mem_of_getElem? hx)),lput,ed,ZY hj (show d.barriers[i].outs.length<9223372036854775808 by omega)]) (fun s=>by simp only[Zdl,ZeT,cond_false]) s
   have ih':=ih (i+1) (by omega)
   have eB:Zfo d (i+1)=Zfo d i++Zvd d (Zoo d i) d.barriers[i]:=by
    unfold Zfo
    rw[ZcE,hx]
   rw[eB,Zqc,List.replicate_succ',Zvd,← List.append_assoc,← List.append_assoc,← List.append_assoc,← List.append_assoc] at ih'
   rw[Za0]
   simp only[ZcF,Zee hi',cond_true,Zau hx,Option.bind_some,ZfZ _ _ (show(ZgG d d.parts.length++List.replicate i (1:Int)).length≤10000 by rw[lw_];omega) (show(Zcv d d.parts.length++ZeC i).length≤10000 by rw[lp_];omega),k4 (E++Zfo d i) (by rw[List.length_append];omega),
    k5 (E++Zfo d i++List.map (fun q=>⟨ZcI d q,Zoo d i⟩) d.barriers[i].ins) (by simp only[List.length_append,List.length_map];omega),ZY hi' (show d.barriers.length<9223372036854775808 by omega)]
   exact ih'
 have:=key d.barriers.length 0 (by omega)
 simpa [Zfo,upto,ZeC] using this
theorem Zrf {d:Zk} (g:ZcJ d) (hz:Zh7 d):Zqo (Zbu d).dag:=by
 have hE:=Zne g
 have hB:=ZkL hz d.barriers.length
 have hbl:=g.bl
 have hF:=Zg1 g d.parts.length
 have hpl:=g.pl
 constructor
 ·show(Zjt d).length<_
  unfold Zjt
  rw[List.length_append,Ziw,List.length_replicate]
  omega
 ·show(ZiG d).length<_
  unfold ZiG
  rw[List.length_append]
  omega
noncomputable def ZmJ (d:Zk):Zk8×Int:=
 bif Ze7 d==0 then (bif ZhU (Zbu d).dag==0 then (Zbu d,0) else (⟨⟨[],[]⟩,[]⟩,70)) else (⟨⟨[],[]⟩,[]⟩,Ze7 d)
theorem Ztc {d:Zk} (hz:Zh7 d):Zez d=some (ZmJ d):=by
 have hs:=hz.short
 unfold Zez ZmJ
 rw[ZpS d hs,Option.bind_some]
 by_cases hc:Ze7 d=0
 ·have g:=Zhd hc
  have hE:=Zne g
  have h3:(ZfE d d.parts.length++Zmc d).length≤1000:=by unfold ZiO at hE;rw[List.length_append] at hE;omega
  have h4:(ZfE d d.parts.length).length≤1000:=by rw[List.length_append] at h3;omega
  rw[hc]
  simp only[bne_self_eq_false,cond_false,beq_self_eq_true,cond_true,ZsA g (ZzN hs (by have:=g.fl;omega) hc),Option.bind_some]
  rw[Zsf g rfl rfl _ h4]
  simp only[Option.bind_some]
  rw[Zqi g rfl rfl _ h3]
  simp only[Option.bind_some]
  rw[show ZfE d d.parts.length++Zmc d++ZnS d=ZiO d from rfl,Zt2 g hz rfl rfl _ hE]
  simp only[Option.bind_some]
  rw[show Zcc.mk (Zjt d) (ZiO d++Zfo d d.barriers.length)=(Zbu d).dag from rfl,Znk _ (Zrf g hz),Option.bind_some]
  by_cases hk:ZhU (Zbu d).dag=0
  ·rw[hk];rfl
  ·rw[beq_false_of_ne hk,bne,beq_false_of_ne hk];rfl
 ·rw[beq_false_of_ne hc,bne,beq_false_of_ne hc];rfl
end Go.Proofs.YtnmbdjkbaihicaaDoor
namespace Go.Proofs.YtnmbdjkbaihicaaDoor
open Go Go.Proofs.YtnmbdjkbaihicaaDoorE
set_option linter.unusedVariables false
set_option linter.unusedSimpArgs false
theorem ZvY (d:Zk) (g:ZkS d) (n:Nat):nt d n=d.futures.countP fun f=>f.user==(n:Int):=by
 show(tch d n).length=_
 rw[ZoT (ZkQ g n)]
 unfold ZmQ
 rw[ZlC]
theorem Zpe {γ:Type} (p q r:γ→Bool) (h:∀x,r x=(p x || q x)) (h2:∀x,¬(p x=true∧q x=true)):∀l:List γ,l.countP r=l.countP p+l.countP q
 | []=>rfl
 | x :: l=>by
  rw[List.countP_cons,List.countP_cons,List.countP_cons,Zpe p q r h h2 l,h x]
  have:=h2 x
  cases hp:p x<;>cases hq:q x<;>simp_all<;>omega
theorem Zlw {d:Zk} (g:ZcJ d):∀k,ZN d k=k+d.futures.countP fun f=>decide (0≤f.user)&&decide (f.user<(k:Int))
 | 0=>by
  have:(d.futures.countP fun f=>decide (0≤f.user)&&decide (f.user<((0:Nat):Int)))=0:=by
   rw[List.countP_eq_zero]
   intro f _
   simp only[Bool.and_eq_true,decide_eq_true_eq]
   omega
  rw[this];rfl
 | k+1=>by
  rw[Zpe (fun f:Zi=>decide (0≤f.user)&&decide (f.user<(k:Int))) (fun f=>f.user==(k:Int)) (fun f=>decide (0≤f.user)&&decide (f.user<((k+1:Nat):Int))) (fun f=>by
   rw[Bool.eq_iff_iff]
   simp only[Bool.and_eq_true,Bool.or_eq_true,decide_eq_true_eq,beq_iff_eq]
   omega) (fun f=>by
   simp only[Bool.and_eq_true,decide_eq_true_eq,beq_iff_eq]
   omega)]
  show ZN d k+(nt d k+1)=_
  rw[Zlw g k,ZvY d g.g k]
  omega
theorem ZkK {d:Zk} (g:ZcJ d):ZN d d.parts.length=d.parts.length+d.futures.length:=by
 rw[Zlw g,List.countP_eq_length.2 fun f hf=>?_]
 have:=g.user hf
 have h1:=this.1
 have h2:=this.2
 simp only[Bool.and_eq_true,decide_eq_true_eq]
 omega
theorem Zox {d:Zk} (g:ZcJ d):(Zjt d).length=d.parts.length+d.futures.length+d.barriers.length:=by
 unfold Zjt
 rw[List.length_append,Ziw,List.length_replicate,ZkK g]
theorem ZnA {d:Zk} (g:ZcJ d):(ZdF d).length=d.parts.length+d.futures.length+d.barriers.length:=by
 unfold ZdF
 rw[List.length_append,Zct,Zmr,ZkK g]
theorem Zsb (d:Zk):(ZmJ d=(Zbu d,0)∧Ze7 d=0∧ZhU (Zbu d).dag=0)∨((ZmJ d).1=⟨⟨[],[]⟩,[]⟩∧(ZmJ d).2≠0):=by
 unfold ZmJ
 by_cases hc:Ze7 d=0
 ·rw[hc]
  by_cases hk:ZhU (Zbu d).dag=0
  ·rw[hk];exact .inl ⟨rfl,rfl,rfl⟩
  ·rw[beq_false_of_ne hk];exact .inr ⟨rfl,by show(70:Int)≠0;omega⟩
 ·rw[beq_false_of_ne hc];exact .inr ⟨rfl,hc⟩
end Go.Proofs.YtnmbdjkbaihicaaDoor
namespace Go.Proofs.YtnmbdjkbaihicaaDoor
open Go Go.Proofs.YtnmbdjkbaihicaaDoorE Go.Sort
set_option linter.unusedVariables false
set_option linter.unusedSimpArgs false
set_option maxRecDepth 20000
end Go.Proofs.YtnmbdjkbaihicaaDoor
namespace Go.Proofs.YtnmbdjkbaihicaaDoor
open Go Go.Proofs.YtnmbdjkbaihicaaDoorE
set_option linter.unusedVariables false
set_option linter.unusedSimpArgs false
theorem ZqA {g:Zcc} (h:ZhU g=0):∃l,Zgh g=some l∧Zxa g l:=by
 obtain⟨hG,hA⟩:=Zg3 h
 obtain⟨l,h1,h2⟩:=ZoX hG hA
 refine⟨l,?_,h2⟩
 unfold Zgh
 rw[Znk g hG.short,h,Option.bind_some]
 simp only[bne_self_eq_false,cond_false,h1,Option.bind_some,cond_true]
end Go.Proofs.YtnmbdjkbaihicaaDoor
namespace Go.Proofs.YtnmbdjkbaihicaaDoor
open Go Go.Proofs.YtnmbdjkbaihicaaDoorE
set_option linter.unusedVariables false
set_option linter.unusedSimpArgs false
theorem Zrb (d:Zk) {m n:Nat} (h:m≤n):ZN d m≤ZN d n:=by
  induction n with
  | zero => have : m = 0 := by omega
            subst this;exact Nat.le_refl _
  | succ n ih=>
    by_cases hm:m=n+1
    · subst hm;exact Nat.le_refl _
    · have:=ih (by omega)
      show ZN d m≤ZN d n+(nt d n+1)
      omega
theorem Zfx (d:Zk) (n:Nat):ZN d (n+1)=ZN d n+nt d n+1:=by show ZN d n+(nt d n+1)=_;omega
theorem ZgZ (d:Zk) {m n j:Nat} (h:m<n) (hj:j≤nt d m):ZN d m+j<ZN d n:=by
  have:=Zrb d (show m+1≤n by omega)
  have:=Zfx d m
  omega
theorem ZrH (d:Zk):∀(k i:Nat),i<ZN d k→∃n j,n<k∧j≤nt d n∧i=ZN d n+j
  | 0,i,h=>absurd h (by show ¬i<0;omega)
  | k+1,i,h=>by
    have hs:=Zfx d k
    by_cases hi:i<ZN d k
    · obtain⟨n,j,h1,h2,h3⟩:=ZrH d k i hi
      exact⟨n,j,by omega,h2,h3⟩
    · exact⟨k,i-ZN d k,by omega,by omega,by omega⟩
theorem ZoW (d:Zk) {m n i j:Nat} (hi:i≤nt d m) (hj:j≤nt d n) (h:ZN d m+i=ZN d n+j):m=n∧i=j:=by
  rcases Nat.lt_trichotomy m n with hlt | heq | hlt
  · have:=ZgZ d hlt hi;omega
  · subst heq;exact⟨rfl,by omega⟩
  · have:=ZgZ d hlt hj;omega
theorem Znw (d:Zk):∀(k n j:Nat),n<k→j≤nt d n→(Zcv d k)[ZN d n+j]? = some ⟨(n:Int),(j:Int)⟩
  | 0,n,j,h,_=>absurd h (by omega)
  | k+1,n,j,h,hj=>by
    rw[show Zcv d (k+1)=Zcv d k++ZdR k (nt d k+1) from ZcE _ k]
    by_cases hn:n<k
    · rw[List.getElem?_append_left (by rw[Zct];exact ZgZ d hn hj)]
      exact Znw d k n j hn hj
    · have:n=k:=by omega
      subst this
      rw[List.getElem?_append_right (by rw[Zct];omega),Zct,Nat.add_sub_cancel_left]
      unfold ZdR
      rw[List.getElem?_map,List.getElem?_range (by omega)]
      rfl
theorem Zrp {d:Zk}{n j:Nat} (hn:n<d.parts.length) (hj:j≤nt d n):(ZdF d)[ZN d n+j]? = some ⟨(n:Int),(j:Int)⟩:=by
  unfold ZdF
  rw[List.getElem?_append_left (by rw[Zct];exact ZgZ d hn hj)]
  exact Znw d _ n j hn hj
theorem Zmo {d:Zk}{i:Nat}{x:Zh} (h:(ZdF d)[i]? = some x):(∃n j,n<d.parts.length∧j≤nt d n∧i=ZN d n+j∧x=⟨(n:Int),(j:Int)⟩)∨(ZN d d.parts.length≤i∧x.part = -1):=by
  by_cases hi:i<ZN d d.parts.length
  · obtain⟨n,j,h1,h2,h3⟩:=ZrH d _ i hi
    subst h3
    rw[Zrp h1 h2] at h
    exact .inl ⟨n,j,h1,h2,rfl,(Option.some.inj h).symm⟩
  · refine .inr ⟨by omega,?_⟩
    unfold ZdF at h
    rw[List.getElem?_append_right (by rw[Zct];omega)] at h
    have:=List.mem_of_getElem? h
    unfold ZeC at this
    obtain⟨k,_,rfl⟩:=List.mem_map.1 this
    rfl
theorem ZrA (zs:List (Int×Int)) (p:Int) (hp:0≤p) (i:Nat):∀k,i<k→(pc zs i).1=p→(∀j,i<j→j<k→(pc zs j).1≠p)→Zeq zs p k=(i:Int)
  | 0,h,_,_=>absurd h (by omega)
  | k+1,h,h1,h2=>by
    unfold Zeq
    by_cases hk:k=i
    · subst hk
      rw[h1,bne_self_eq_false,decide_eq_false (show ¬p<0 by omega)]
      rfl
    · have:=h2 k (by omega) (by omega)
      rw[bne_iff_ne.2 this]
      exact ZrA zs p hp i k (by omega) h1 fun j a b=>h2 j a (by omega)
theorem ZuX {d:Zk} (g:ZcJ d) {z:Int} (h:inR d z):ZfM (Zbu d) z=some (ZcI d z):=by
  have hlen:(ZdF d).length≤1000:=by rw[ZnA g];have:=g.pl;have:=g.fl;have:=g.bl;omega
  have ez:((z.toNat:Nat):Int)=z:=Int.toNat_of_nonneg h.1
  have hp:=Zrp h.2 (Nat.le_refl (nt d z.toNat))
  have hpc:∀(i:Nat) x,(ZdF d)[i]? = some x→(pc (List.map (fun x:Zh=>(x.part,x.step)) (ZdF d)) i).1=x.part:=fun i x hx=>by
    unfold pc
    rw[List.getElem?_map,hx]
    rfl
  have hi:ZN d z.toNat+nt d z.toNat<(ZdF d).length:=(List.getElem?_eq_some_iff.1 hp).1
  have hs:=ZrA (List.map (fun x:Zh=>(x.part,x.step)) (ZdF d)) z h.1 (ZN d z.toNat+nt d z.toNat) (ZdF d).length hi (by rw[hpc _ _ hp];exact ez) (fun j h1 h2=>by
    have hy:=List.getElem?_eq_getElem h2
    rw[hpc _ _ hy]
    rcases Zmo hy with⟨n,m,m1,m2,m3,m4⟩ | ⟨_,m2⟩
    · rw[m4]
      show(n:Int)≠z
      intro hc
      have:n=z.toNat:=by omega
      subst this
      omega
    · rw[m2];have:=h.1;omega)
  unfold ZfM ZqQ
  rw[List.length_map,Zgj (show(Zbu d).pieces.length≤1073741824 by show(ZdF d).length≤_;omega)]
  simp only[cond_true,Option.bind_some]
  show some (Zeq (List.map (fun x:Zh=>(x.part,x.step)) (ZdF d)) z (ZdF d).length)=_
  rw[hs]
  unfold ZcI
  rw[Zfx]
  congr 1
  omega
theorem Zui {d:Zk}{n j:Nat} (hn:n<d.parts.length) (hj:j<nt d n):(⟨((ZN d n+j:Nat):Int),((ZN d n+j+1:Nat):Int)⟩:Zn)∈(Zbu d).dag.edges:=by
  show _∈ZiG d
  unfold ZiG ZiO ZfE upto ZfL
  simp only[List.mem_append,List.mem_flatMap,List.mem_map,List.mem_range]
  exact .inl (.inl (.inl ⟨n,hn,j,hj,rfl⟩))
theorem ZtN {d:Zk}{e:Zn} (h:e∈d.edges):(⟨ZcI d e.src,Zgz d e.dst⟩:Zn)∈(Zbu d).dag.edges:=by
  show _∈ZiG d
  unfold ZiG ZiO Zmc
  simp only[List.mem_append,List.mem_map]
  exact .inl (.inl (.inr ⟨e,h,rfl⟩))
theorem ZtJ {d:Zk}{f:Zi} (h:f∈d.futures):(⟨ZcI d f.maker,Zrs d f⟩:Zn)∈(Zbu d).dag.edges:=by
  show _∈ZiG d
  unfold ZiG ZiO ZnS
  simp only[List.mem_append,List.mem_map]
  exact .inl (.inr ⟨f,h,rfl⟩)
def ZvN (g:Zcc) (a b:Int):Prop:=a=b∨Way g a b
theorem ZvN.way {g:Zcc}{a b c:Int} (h:ZvN g a b) (w:Way g b c):Way g a c:=by
  rcases h with rfl | h
  · exact w
  · exact h.trans w
theorem Way.ways {g:Zcc}{a b c:Int} (w:Way g a b) (h:ZvN g b c):Way g a c:=by
  rcases h with rfl | h
  · exact w
  · exact w.trans h
theorem Zvv {d:Zk}{n i:Nat} (hn:n<d.parts.length):∀j,i≤j→j≤nt d n→ZvN (Zbu d).dag ((ZN d n+i:Nat):Int) ((ZN d n+j:Nat):Int)
  | 0,h1,_=>.inl (by rw[show i=0 by omega])
  | j+1,h1,h2=>by
    by_cases hi:i=j+1
    · exact .inl (by rw[hi])
    · exact .inr ((Zvv hn j (by omega) (by omega)).way (Way.one (Zui hn (show j<nt d n by omega))))
theorem Zzf {d:Zk}{z:Int} (h:inR d z):ZvN (Zbu d).dag (Zgz d z) (ZcI d z):=by
  have:=Zvv h.2 (nt d z.toNat) (Nat.zero_le _) (Nat.le_refl _)
  rw[Nat.add_zero] at this
  unfold Zgz ZcI
  rw[Zfx]
  rwa [show(((ZN d z.toNat+nt d z.toNat+1:Nat):Int)-1)=((ZN d z.toNat+nt d z.toNat:Nat):Int) by omega]
end Go.Proofs.YtnmbdjkbaihicaaDoor
namespace Go.Proofs.YtnmbdjkbaihicaaDoor
open Go Go.Proofs.YtnmbdjkbaihicaaDoorE
set_option linter.unusedVariables false
set_option linter.unusedSimpArgs false
def u32 (n:Int):Int:=n % 4294967296
theorem Zns (n:Int):0≤u32 n∧u32 n<4294967296:=by unfold u32;omega
theorem ZnT (n:Int):IntKind.u32.wrap n=u32 n:=by
 unfold IntKind.wrap u32
 rfl
theorem ZjS (n:Int):ZcK n=some (u32 n):=by
 unfold ZcK
 rw[ZnT]
def ZiS (op:Int) (out v:Int):Int:=if op=2 then u32 (out+v) else if op=3 then u32 (out*v) else if op=4 then (bif decide (out<v) then v else out) else u32 (u32 (out*31)+v)
theorem ZqM {op out v:Int} (h:0≤out∧out<4294967296) (hv:0≤v∧v<4294967296):0≤ZiS op out v∧ZiS op out v<4294967296:=by
 unfold ZiS
 split
 ·exact Zns _
 split
 ·exact Zns _
 split
 ·cases decide (out<v)<;>simp[h,hv]
 ·exact Zns _
def Zl0 (op:Int):Int→List Int→Int
 | out,[]=>out
 | out,v :: l=>Zl0 op (ZiS op out (u32 v)) l
theorem ZjC (op:Int):∀(l:List Int) (out:Int),0≤out∧out<4294967296→0≤Zl0 op out l∧Zl0 op out l<4294967296
 | [],out,h=>h
 | v :: l,out,h=>ZjC op l _ (ZqM h (Zns v))
theorem ZmZ (op:Int) (l:List Int) (step:Int×Int→Option ((Int×Int)⊕Int))
  (h1:∀(i:Nat) (x out:Int),i<l.length→l[i]? = some x→0≤out∧out<4294967296→step (out,(i:Int))=some (.inl (ZiS op out (u32 x),((i+1:Nat):Int))))
  (h2:∀out,step (out,(l.length:Int))=some (.inr out)) (out:Int) (ho:0≤out∧out<4294967296):lp step (out,0)=some (Zl0 op out l):=by
 have key:∀k i:Nat,i+k=l.length→∀out,0≤out∧out<4294967296→lp step (out,(i:Int))=some (Zl0 op out (l.drop i)):=by
  intro k
  induction k with
  | zero=>
   intro i hi out ho
   have:i=l.length:=by omega
   subst this
   rw[Za0,h2,List.drop_length]
   rfl
  | succ k ih=>
   intro i hi out ho
   have hi':i<l.length:=by omega
   rw[Za0,h1 i l[i] out hi' (List.getElem?_eq_getElem hi') ho,List.drop_eq_getElem_cons hi']
   exact ih (i+1) (by omega) _ (ZqM ho (Zns _))
 have:=key l.length 0 (by omega) out ho
 rwa [List.drop_zero] at this
theorem Zxc (a b:Int):Zfa a b=some (ZiS 2 a b):=by unfold Zfa;rw[ZnT];rfl
theorem Zxq (a b:Int):Zfd a b=some (ZiS 3 a b):=by unfold Zfd;rw[ZnT];rfl
theorem ZwU (a b:Int):Zfc a b=some (ZiS 4 a b):=by unfold Zfc;rfl
theorem ZxQ (a b:Int):Zfh a b=some (ZiS 5 a b):=by unfold Zfh;rw[ZnT,ZnT];rfl
def places (l:List Int) (k:Nat):List (Int×Int):=(List.range k).map fun i:Nat=>((i:Int),(l[i]?).getD 0)
theorem ZmF (l:List Int) (k:Nat):places l (k+1)=places l k++[((k:Int),(l[k]?).getD 0)]:=by simp[places,List.range_succ]
theorem ZlW (l:List Int) (k:Nat) (j:Int) (hj:j<0∨(k:Int)≤j):∀q∈places l k,eqI j q.1=false:=by
 intro q hq
 simp only[places,List.mem_map,List.mem_range] at hq
 obtain⟨i,hi,rfl⟩:=hq
 show(j==(i:Int))=false
 simp;omega
theorem ZnH (l:List Int):∀(k:Nat) (j:Nat),j<k→Z1 eqI (places l k) (j:Int) 0=(l[j]?).getD 0
 | k+1,j,h=>by
  rw[ZmF]
  by_cases hk:j=k
  ·subst hk
   rw[Zf9 eqI _ _ _ _ (ZlW l j j (.inr (by omega)))]
   show(bif ((j:Int)==(j:Int)) then _ else _)=_
   rw[beq_self_eq_true];rfl
  ·rw[ZgI eqI _ _ _ _ ⟨((j:Int),(l[j]?).getD 0),by simp only[places,List.mem_map,List.mem_range];exact⟨j,by omega,rfl⟩,by simp[eqI]⟩]
   exact ZnH l k j (by omega)
theorem ZwQ (l:List Int) (hl:l.length≤1000):lp (Zek l) (0,([]:List (Int×Int)))=some (places l l.length):=by
 have key:∀k i:Nat,i+k=l.length→lp (Zek l) ((i:Int),places l i)=some (places l l.length):=by
  intro k
  induction k with
  | zero=>
   intro i hi
   have:i=l.length:=by omega
   subst this
   rw[Za0]
   simp only[Zek,ZeT,cond_false]
  | succ k ih=>
   intro i hi
   have hi':i<l.length:=by omega
   have hx:l[i]? = some l[i]:=List.getElem?_eq_getElem hi'
   have e:=Zf7 eqI (i:Int) l[i] (places l i) (ZlW l i i (.inr (by omega)))
   have ih':=ih (i+1) (by omega)
   rw[ZmF,hx] at ih'
   rw[Za0]
   simp only[Zek,Zee hi',Zau hx,Option.bind_some,cond_true,ZY hi' (show l.length<9223372036854775808 by omega),e]
   exact ih'
 exact key l.length 0 (by omega)
def opV (p:ZU) (input vals:List Int):Int:=
 if p.op=0 then (if p.arg<0∨(input.length:Int)≤p.arg then 0 else u32 ((input[p.arg.toNat]?).getD 0)) else
 if p.op=1 then u32 p.arg else if p.op<0∨5<p.op then 0 else Zl0 p.op (if p.op=3 then 1 else if p.op=5 then 7 else 0) vals
theorem ZwB (p:ZU) (input vals:List Int) (h1:input.length≤1000) (h2:vals.length≤1000):Zin p input vals=some (opV p input vals):=by
 have hl:vals.length<9223372036854775808:=by omega
 have fin:∀x:Int,0≤x∧x<4294967296→(some x).bind (fun r=>some (w64 r))=some x:=fun x h=>by
  show some (w64 x)=some x
  rw[Zcu (by omega) (by omega)]
 unfold Zin opV
 by_cases c0:p.op=0
 ·rw[c0,beq_self_eq_true,if_pos rfl]
  simp only[cond_true]
  rw[ZwQ input h1]
  simp only[Option.bind_some,ZjS]
  by_cases c:p.arg<0∨(input.length:Int)≤p.arg
  ·rw[if_pos c,ZmD eqI _ _ _ (ZlW input input.length p.arg c)]
   rfl
  ·rw[if_neg c]
   obtain⟨j,hj⟩:∃j:Nat,p.arg=(j:Int):=⟨p.arg.toNat,by omega⟩
   rw[hj,ZnH input input.length j (by omega),Int.toNat_natCast]
   exact fin _ (Zns _)
 rw[show(p.op==0)=false by simpa using c0,if_neg c0]
 by_cases c1:p.op=1
 ·rw[c1,if_pos rfl]
  simp only[cond_false,beq_self_eq_true,cond_true,ZjS]
  exact fin _ (Zns _)
 rw[show(p.op==1)=false by simpa using c1,if_neg c1]
 simp only[cond_false]
 by_cases c2:p.op<0
 ·rw[decide_eq_true c2,if_pos (.inl c2)];rfl
 by_cases c3:5<p.op
 ·rw[decide_eq_false c2,decide_eq_true c3,if_pos (.inr c3)];rfl
 rw[decide_eq_false c2,decide_eq_false c3,if_neg (by omega),Zcu (by omega) (by omega),decide_eq_true (show 0≤p.op-2 by omega),decide_eq_true (show p.op-2<4 by omega)]
 have hw:Zhu=some ():=rfl
 simp only[cond_false,hw,Option.bind_some,Bool.and_self,cond_true]
 have h4:p.op=2∨p.op=3∨p.op=4∨p.op=5:=by omega
 rcases h4 with h | h | h | h<;>rw[h]
 ·have:=ZmZ 2 vals (Zem vals) (fun i x out hi hx ho=>by
   simp only[Zem,Zee hi,Zau hx,Option.bind_some,cond_true,ZY hi hl,ZjS,Zxc]) (fun out=>by simp only[Zem,ZeT];rfl) 0 (by omega)
  show(lp (Zem vals) (0,0)).bind _=_
  rw[this]
  exact fin _ (ZjC _ _ _ (by omega))
 ·have:=ZmZ 3 vals (Zdx vals) (fun i x out hi hx ho=>by
   simp only[Zdx,Zee hi,Zau hx,Option.bind_some,cond_true,ZY hi hl,ZjS,Zxq]) (fun out=>by simp only[Zdx,ZeT];rfl) 1 (by omega)
  show(lp (Zdx vals) (1,0)).bind _=_
  rw[this]
  exact fin _ (ZjC _ _ _ (by omega))
 ·have:=ZmZ 4 vals (Zdz vals) (fun i x out hi hx ho=>by
   simp only[Zdz,Zee hi,Zau hx,Option.bind_some,cond_true,ZY hi hl,ZjS,ZwU]) (fun out=>by simp only[Zdz,ZeT];rfl) 0 (by omega)
  show(lp (Zdz vals) (0,0)).bind _=_
  rw[this]
  exact fin _ (ZjC _ _ _ (by omega))
 ·have:=ZmZ 5 vals (Zds vals) (fun i x out hi hx ho=>by
   simp only[Zds,Zee hi,Zau hx,Option.bind_some,cond_true,ZY hi hl,ZjS,ZxQ]) (fun out=>by simp only[Zds,ZeT];rfl) 7 (by omega)
  show(lp (Zds vals) (7,0)).bind _=_
  rw[this]
  exact fin _ (ZjC _ _ _ (by omega))
end Go.Proofs.YtnmbdjkbaihicaaDoor
namespace Go.Proofs.YtnmbdjkbaihicaaDoor
open Go Go.Proofs.YtnmbdjkbaihicaaDoorE
set_option linter.unusedVariables false
set_option linter.unusedSimpArgs false
def Zji (d:Zk):Prop:=Ze7 d=0∧ZhU (Zbu d).dag=0
theorem ZsY {d:Zk} (h:Zji d):ZmJ d=(Zbu d,0):=by unfold ZmJ;rw[h.1,h.2];rfl
theorem Zty {d:Zk} (h:¬Zji d):(ZmJ d).1=⟨⟨[],[]⟩,[]⟩∧(ZmJ d).2≠0:=by
 rcases Zsb d with⟨_,h2,h3⟩ | h4
 ·exact absurd ⟨h2,h3⟩ h
 ·exact h4
abbrev ZfK (d:Zk):Nat:=(Zbu d).dag.work.length
theorem ZqX {d:Zk} (g:ZcJ d):ZfK d=d.parts.length+d.futures.length+d.barriers.length:=Zox g
theorem Zpa {d:Zk} (g:ZcJ d):(Zbu d).pieces.length=ZfK d:=(ZnA g).trans (Zox g).symm
structure OKM (d:Zk) (m:ZaN):Prop where
 n:m.done.length=ZfK d
 v:m.vals.length=d.parts.length
def va (l:List Int) (p:Int):Int:=match l[p.toNat]? with | some x=>x | none=>0
theorem Zve {d:Zk}{l:List Int} (o:l.length=d.parts.length) {p:Int} (h:inR d p):ZD l p=some (va l p):=by
 have h2:=h.2
 have e:=List.getElem?_eq_getElem (show p.toNat<l.length by rw[o];exact h2)
 rw[Zmj h.1 e]
 unfold va
 rw[e]
theorem ZsD {d:Zk} (hz:Zh7 d):Zhr d=some (@ite _ (Zji d) (Classical.propDecidable _) (⟨List.replicate (ZfK d) false,List.replicate d.parts.length 0⟩,0) (⟨[],[]⟩,(ZmJ d).2)):=by
 unfold Zhr
 rw[Ztc hz,Option.bind_some]
 by_cases hl:Zji d
 ·have g:=Zhd hl.1
  have hG:=(Zg3 hl.2).1
  have hwl:=hG.wl
  have hpl:=g.pl
  have hp:(Zbu d).pieces.length=ZfK d:=Zpa g
  have hp64:ZfK d≤64:=hwl
  rw[if_pos hl,ZsY hl]
  simp only[bne_self_eq_false,cond_false,hp,decide_eq_true (show(0:Int)≤((ZfK d:Nat):Int) by omega),decide_eq_true (show((ZfK d:Nat):Int)≤lim by show((ZfK d:Nat):Int)≤1073741824;omega),beq_self_eq_true,decide_true,Bool.and_self,cond_true,
   decide_eq_true (show(0:Int)≤(d.parts.length:Int) by omega),decide_eq_true (show(d.parts.length:Int)≤lim by show(d.parts.length:Int)≤1073741824;omega),Int.toNat_natCast]
 ·have hne:=(Zty hl).2
  rw[if_neg hl,bne,beq_false_of_ne hne]
  rfl
def Zfm (d:Zk) (n:Int):Option Nat:=(List.range d.parts.length).find? fun p=>ZcI d (p:Int)==n
theorem Zqn {d:Zk}{p:Nat} (h:p<d.parts.length):inR d (p:Int):=⟨by omega,by simpa using h⟩
theorem Zjj {d:Zk}{n:Int}{p:Nat} (h:Zfm d n=some p):p<d.parts.length∧ZcI d (p:Int)=n:=by
 unfold Zfm at h
 have h1:=List.mem_of_find?_eq_some h
 have h2:=List.find?_some h
 exact⟨List.mem_range.1 h1,by simpa using h2⟩
theorem Zg2 (d:Zk) (p:Nat):ZcI d (p:Int)=((ZN d p+nt d p:Nat):Int):=by
 unfold ZcI
 rw[Int.toNat_natCast,Zfx]
 omega
theorem Zpq {d:Zk}{p:Nat} (hp:p<d.parts.length):Zfm d (ZcI d (p:Int))=some p:=by
 cases h:Zfm d (ZcI d (p:Int)) with
 | none=>
  unfold Zfm at h
  have:=List.find?_eq_none.1 h p (List.mem_range.2 hp)
  simp at this
 | some q=>
  obtain⟨h1,h2⟩:=Zjj h
  rw[Zg2,Zg2] at h2
  have:=(ZoW d (Nat.le_refl _) (Nat.le_refl _) (Int.ofNat.inj h2)).1
  rw[this]
noncomputable def Zkb (d:Zk) (input:List Int) (m:ZaN) (n:Int):ZaN:=
 match Zfm d n with
 | some p=>⟨m.done.set n.toNat true,m.vals.set p (opV (Zh0 d (p:Int)) input ((ZeF d (p:Int)).map (va m.vals)))⟩
 | none=>⟨m.done.set n.toNat true,m.vals⟩
end Go.Proofs.YtnmbdjkbaihicaaDoor
namespace Go.Proofs.YtnmbdjkbaihicaaDoor
open Go Go.Proofs.YtnmbdjkbaihicaaDoorE
set_option linter.unusedVariables false
set_option linter.unusedSimpArgs false
theorem ZwC {l:List Bool} (h1:0<l.length) (h2:l.length≤1000):ZbL l=some ():=by
 unfold ZbL
 rw[show Nat.blt 0 l.length=true by simp[Nat.blt];omega,Zgj (show l.length≤1073741824 by omega)]
 rfl
theorem ZmH {d:Zk}{n:Int} (h:∀p,p<d.parts.length→ZcI d (p:Int)≠n):Zfm d n=none:=by
 cases hl:Zfm d n with
 | none=>rfl
 | some p=>
  obtain⟨h1,h2⟩:=Zjj hl
  exact absurd h2 (h p h1)
theorem Zxj {d:Zk} (hz:Zh7 d) (hl:Zji d) (input:List Int) (hi:input.length≤1000) {m:ZaN} (o:OKM d m) {n:Int} (hn:0≤n∧n.toNat<ZfK d):Zfb d (Zbu d) input m n=some (Zkb d input m n):=by
 have g:=Zhd hl.1
 have hG:=(Zg3 hl.2).1
 have hn64:ZfK d≤64:=hG.wl
 have hN:=ZqX g
 have hpl:=g.pl
 have hp1:=g.p1
 have on:=o.n
 have ov:=o.v
 have en:((n.toNat:Nat):Int)=n:=Int.toNat_of_nonneg hn.1
 have hlenP:(ZdF d).length=ZfK d:=Zpa g
 have hx:(ZdF d)[n.toNat]? = some (ZdF d)[n.toNat]:=List.getElem?_eq_getElem (by rw[hlenP];exact hn.2)
 generalize hxx:(ZdF d)[n.toNat]'(by rw[hlenP];exact hn.2)=x at hx
 have gp:ZD (Zbu d).pieces n=some x:=Zmj hn.1 hx
 unfold Zfb
 simp only[ZwC (show 0<m.done.length by omega) (by omega),Zxs (show 0<m.vals.length by omega) (by omega),Zqe (g:=(Zbu d).dag) on hn,gp,Option.bind_some]
 rcases Zmo hx with⟨p,j,h1,h2,h3,rfl⟩ | ⟨h1,h2⟩
 ·have hr:=Zqn h1
  simp only[decide_eq_false (show ¬((p:Int)<0) by omega),cond_false,ZuX g hr,Option.bind_some]
  by_cases hc:ZcI d (p:Int)=n
  ·obtain⟨hf,ht⟩:=Zmk d hz.short hl.1 (p:Int)
   have hfl:=ZrG g ht
   have loop:=ZnD (ZeF d (p:Int)) hfl (Zdn m (ZeF d (p:Int))) (va m.vals) (fun i x s hi' hx' hb=>by
    simp only[Zdn,Zee hi',cond_true,Zau hx',Option.bind_some,Zve ov (ZiU g ht (List.mem_of_getElem? hx')),hb,ZY hi' (show(ZeF d (p:Int)).length<9223372036854775808 by omega)]) (fun s=>by simp only[Zdn,ZeT,cond_false]) [] (by simp)
   rw[List.nil_append] at loop
   have hpp:ZD d.parts (p:Int)=some (Zh0 d (p:Int)):=by
    unfold Zh0
    rw[Int.toNat_natCast,List.getElem?_eq_getElem h1]
    exact Zau (List.getElem?_eq_getElem h1)
   have hop:=ZwB (Zh0 d (p:Int)) input ((ZeF d (p:Int)).map (va m.vals)) hi (by rw[List.length_map];exact hfl)
   have hla:Zfm d n=some p:=by rw[← hc];exact Zpq h1
   rw[bne,show(ZcI d (p:Int)==n)=true by simpa using hc]
   simp only[Bool.not_true,cond_false,hf,loop,Option.bind_some,hpp,hop,Zve ov hr,Int.toNat_natCast]
   unfold Zkb
   rw[hla]
  ·have hla:Zfm d n=none:=ZmH fun q hq he=>hc (by
    rw[Zg2] at he ⊢
    have:=(ZoW d (Nat.le_refl _) h2 (show ZN d q+nt d q=ZN d p+j by omega)).1
    subst this
    exact he)
   rw[bne,beq_false_of_ne hc]
   unfold Zkb
   rw[hla]
   rfl
 ·have hla:Zfm d n=none:=ZmH fun q hq he=>by
   rw[Zg2] at he
   have:=ZgZ d hq (Nat.le_refl (nt d q))
   omega
  rw[h2]
  unfold Zkb
  rw[hla]
  rfl
theorem Zs7 {d:Zk} (input:List Int) {m:ZaN} (o:OKM d m) (n:Int):OKM d (Zkb d input m n):=by
 unfold Zkb
 cases Zfm d n with
 | none=>exact⟨by rw[List.length_set];exact o.n,o.v⟩
 | some p=>exact⟨by rw[List.length_set];exact o.n,by rw[List.length_set];exact o.v⟩
theorem ZoY {d:Zk} (input:List Int) (m:ZaN) (n:Int):(Zkb d input m n).done=m.done.set n.toNat true:=by
 unfold Zkb
 cases Zfm d n<;>rfl
noncomputable def Zqz (d:Zk) (input:List Int) (m:ZaN) (l:List Int):ZaN:=l.foldl (Zkb d input) m
def Zls (d:Zk):ZaN:=⟨List.replicate (ZfK d) false,List.replicate d.parts.length 0⟩
theorem Ztd (d:Zk):OKM d (Zls d):=⟨by simp[Zls],by simp[Zls]⟩
theorem Zm7 {d:Zk} (hz:Zh7 d) (input:List Int) (hi:input.length≤1000):(¬Zji d→ZdC d input=some ([],(ZmJ d).2)) ∧
  (Zji d→∃l,Zxa (Zbu d).dag l∧ZdC d input=some ((Zqz d input (Zls d) l).vals,0)):=by
 constructor
 ·intro hl
  have hne:=(Zty hl).2
  unfold ZdC
  rw[ZsD hz,if_neg hl,Option.bind_some]
  simp only
  rw[bne,beq_false_of_ne hne]
  rfl
 ·intro hl
  obtain⟨l,h1,T⟩:=ZqA hl.2
  have hG:=(Zg3 hl.2).1
  refine⟨l,T,?_⟩
  have hll:l.length≤64:=by rw[T.len];exact hG.wl
  have loop:∀(k i:Nat) (m:ZaN),i+k=l.length→OKM d m→lp (ZdY d input (Zbu d,0) l) ((i:Int),m.done,m.vals)=some ((Zqz d input m (l.drop i)).done,(Zqz d input m (l.drop i)).vals):=by
   intro k
   induction k with
   | zero=>
    intro i m hi' o
    have:i=l.length:=by omega
    subst this
    rw[List.drop_length,Za0]
    simp only[ZdY,ZeT,cond_false]
    rfl
   | succ k ih=>
    intro i m hi' o
    have hil:i<l.length:=by omega
    have hx:l[i]? = some l[i]:=List.getElem?_eq_getElem hil
    have hin:=T.inn l[i] (List.mem_of_getElem? hx)
    rw[List.drop_eq_getElem_cons hil,Za0]
    simp only[ZdY,Zee hil,cond_true,Zau hx,Option.bind_some,show ZaN.mk m.done m.vals=m from rfl,Zxj hz hl input hi o hin,ZY hil (show l.length<9223372036854775808 by omega)]
    exact ih (i+1) (Zkb d input m l[i]) (by omega) (Zs7 input o _)
  have k0:=loop l.length 0 (Zls d) (by omega) (Ztd d)
  rw[List.drop_zero] at k0
  unfold ZdC
  rw[ZsD hz,if_pos hl,Option.bind_some]
  simp only[bne_self_eq_false,cond_false,Ztc hz,Option.bind_some,ZsY hl,h1]
  have k1:lp (ZdY d input (Zbu d,0) l) (0,List.replicate (ZfK d) false,List.replicate d.parts.length 0)=_:=k0
  rw[k1]
  rfl
end Go.Proofs.YtnmbdjkbaihicaaDoor
namespace Go.Proofs.YtnmbdjkbaihicaaDoor
open Go Go.Proofs.YtnmbdjkbaihicaaDoorE
set_option linter.unusedVariables false
set_option linter.unusedSimpArgs false
theorem Znq {d:Zk} (g:ZcJ d) {p q:Int} (ht:Zb1 d p (Zfv d p)) (hp:inR d p) (hq:q∈ZeF d p):Way (Zbu d).dag (ZcI d q) (ZcI d p)∧q≠p:=by
 rcases Zmw g ht hq with⟨e,h1,h2,rfl⟩ | ⟨f,h1,h2,rfl⟩
 ·refine⟨?_,by have:=(ZkN (g.g.e e h1)).2.2;rw[h2] at this;exact this⟩
  have w:Way (Zbu d).dag (ZcI d e.src) (Zgz d e.dst):=Way.one (ZtN h1)
  rw[h2] at w
  exact w.ways (Zzf hp)
 ·refine⟨?_,by have:=(ZkN (g.g.f f h1).1).2.2;rw[h2] at this;exact this⟩
  have w:Way (Zbu d).dag (ZcI d f.maker) (Zrs d f):=Way.one (ZtJ h1)
  obtain⟨j,hj,hje⟩:=ZqC g h1
  rw[ZsV g h1 hj hje] at w
  have c:=Zvv (i:=j+1) (g.user h1).2 (nt d f.user.toNat) (by omega) (Nat.le_refl _)
  have e:ZN d f.user.toNat+(j+1)=ZN d f.user.toNat+j+1:=by omega
  rw[e] at c
  have w2:=w.ways c
  have e2:ZcI d p=((ZN d f.user.toNat+nt d f.user.toNat:Nat):Int):=by
   rw[← h2]
   unfold ZcI
   rw[Zfx]
   omega
  rw[e2]
  exact w2
structure ZmP (d:Zk) (input:List Int) (m:ZaN):Prop where
 o:OKM d m
 right:∀e∈(Zbu d).dag.edges,bAt m.done e.dst=true→bAt m.done e.src=true
 val:∀p:Nat,p<d.parts.length→bAt m.done (ZcI d (p:Int))=true→va m.vals (p:Int)=opV (Zh0 d (p:Int)) input ((ZeF d (p:Int)).map (va m.vals))
theorem ZmP.way {d:Zk}{input:List Int}{m:ZaN} (v:ZmP d input m) {a b:Int} (w:Way (Zbu d).dag a b) (h:bAt m.done b=true):bAt m.done a=true:=by
 induction w with
 | one he=>exact v.right _ he h
 | more _ he ih=>exact ih (v.right _ he h)
theorem ZxR (d:Zk) (input:List Int):ZmP d input (Zls d):=by
 have no:∀z,bAt (Zls d).done z=false:=fun z=>by
  unfold bAt Zls
  rw[List.getElem?_replicate]
  by_cases h:z.toNat<ZfK d
  ·rw[if_pos h]
  ·rw[if_neg h]
 exact⟨Ztd d,fun e _ h=>(by rw[no] at h;cases h),fun p _ h=>(by rw[no] at h;cases h)⟩
theorem Zqy {l:List Int}{n:Nat} (hl:l.length=n) {p:Nat} (hp:p<n) (v:Int) {q:Int} (hq:0≤q):va (l.set p v) q=if q=(p:Int) then v else va l q:=by
 unfold va
 rw[List.getElem?_set]
 by_cases h:p=q.toNat
 ·rw[if_pos h,if_pos (by rw[hl];exact hp),if_pos (by omega)]
 ·rw[if_neg h,if_neg (by omega)]
theorem Zpv {d:Zk}{done:List Bool}{i:Nat}:Zh1 (Zbu d).dag done i=true↔bAt done (i:Int)=false∧∀e∈(Zbu d).dag.edges,e.dst=(i:Int)→bAt done e.src=true:=by
 unfold Zh1
 rw[Bool.and_eq_true,Bool.not_eq_true',Bool.not_eq_true',List.any_eq_false]
 constructor
 ·rintro ⟨h1,h2⟩
  refine⟨h1,fun e he hd=>?_⟩
  have:=h2 e he
  rw[hd] at this
  simpa using this
 ·rintro ⟨h1,h2⟩
  refine⟨h1,fun e he hc=>?_⟩
  simp only[Bool.and_eq_true,beq_iff_eq,Bool.not_eq_true'] at hc
  rw[h2 e he hc.1] at hc
  cases hc.2
theorem Zwm {d:Zk} (hs:Zf5 d) (hl:Zji d) {input:List Int}{m:ZaN} (v:ZmP d input m) {i:Nat} (hi:i<ZfK d) (hr:Zh1 (Zbu d).dag m.done i=true):ZmP d input (Zkb d input m (i:Int)):=by
 have g:=Zhd hl.1
 have hG:=(Zg3 hl.2).1
 obtain⟨r1,r2⟩:=Zpv.1 hr
 have on:=v.o.n
 have ov:=v.o.v
 have hd:∀z,0≤z→bAt (Zkb d input m (i:Int)).done z=(decide (z=(i:Int)) || bAt m.done z):=fun z hz=>by
  rw[ZoY,Int.toNat_natCast]
  exact Zqp (by rw[on];exact hi) z hz
 refine⟨Zs7 input v.o _,fun e he h=>?_,fun p hp h=>?_⟩
 ·have s0:=(hG.src e he).1
  have d0:=(hG.dst e he).1
  rw[hd e.dst d0,Bool.or_eq_true,decide_eq_true_eq] at h
  rw[hd e.src s0,Bool.or_eq_true]
  rcases h with h | h
  ·exact .inr (r2 e he h)
  ·exact .inr (v.right e he h)
 ·obtain⟨hf,ht⟩:=Zmk d hs hl.1 (p:Int)
  have hpr:=Zqn hp
  have lz:(0:Int)≤ZcI d (p:Int):=by rw[Zg2];omega
  rw[hd _ lz,Bool.or_eq_true,decide_eq_true_eq] at h
  by_cases hc:ZcI d (p:Int)=(i:Int)
  ·have hla:Zfm d (i:Int)=some p:=by rw[← hc];exact Zpq hp
   unfold Zkb
   rw[hla]
   simp only
   rw[Zqy ov hp _ (by omega),if_pos rfl]
   congr 1
   refine List.map_congr_left fun q hq=>?_
   have hq0:=(ZiU g ht hq).1
   rw[Zqy ov hp _ hq0,if_neg (Znq g ht hpr hq).2]
  ·have hdone:bAt m.done (ZcI d (p:Int))=true:=by
    rcases h with h | h
    ·exact absurd h hc
    ·exact h
   have old:=v.val p hp hdone
   cases hla:Zfm d (i:Int) with
   | none=>
    unfold Zkb
    rw[hla]
    exact old
   | some p'=>
    obtain⟨hp',hlz⟩:=Zjj hla
    unfold Zkb
    rw[hla]
    simp only
    rw[Zqy ov hp' _ (by omega),if_neg (fun he=>hc (by rw[he];exact hlz)),old]
    congr 1
    refine List.map_congr_left fun q hq=>?_
    have hqr:=ZiU g ht hq
    rw[Zqy ov hp' _ hqr.1,if_neg]
    intro he
    have:=v.way (Znq g ht hpr hq).1 hdone
    rw[he,hlz,r1] at this
    cases this
def ZxK (d:Zk) (m:ZaN):Prop:=∀i:Nat,i<ZfK d→bAt m.done (i:Int)=true
theorem Zm4 {d:Zk} (g:ZcJ d) {p:Nat} (hp:p<d.parts.length):∃i:Nat,i<ZfK d∧ZcI d (p:Int)=(i:Int):=by
 refine⟨ZN d p+nt d p,?_,Zg2 d p⟩
 have:=ZgZ d hp (Nat.le_refl (nt d p))
 rw[ZqX g,← ZkK g]
 omega
theorem ZtI {d:Zk} (hs:Zf5 d) (hl:Zji d) {input:List Int}{m o:ZaN} (v:ZmP d input m) (w:ZmP d input o) (hm:ZxK d m) (ho:ZxK d o):m.vals=o.vals:=by
 have g:=Zhd hl.1
 obtain⟨l,_,T⟩:=ZqA hl.2
 have key:∀n j:Nat,j<n→∀p:Nat,p<d.parts.length→l[j]? = some (ZcI d (p:Int))→va m.vals (p:Int)=va o.vals (p:Int):=by
  intro n
  induction n with
  | zero=>intro j hj;omega
  | succ n ih=>
   intro j hj p hp hx
   obtain⟨i,hi,hie⟩:=Zm4 g hp
   obtain⟨hf,ht⟩:=Zmk d hs hl.1 (p:Int)
   rw[v.val p hp (by rw[hie];exact hm i hi),w.val p hp (by rw[hie];exact ho i hi)]
   congr 1
   refine List.map_congr_left fun q hq=>?_
   have hqr:=ZiU g ht hq
   have eq:((q.toNat:Nat):Int)=q:=Int.toNat_of_nonneg hqr.1
   have wy:=(Znq g ht (Zqn hp) hq).1
   have pos:∀{a b:Int},Way (Zbu d).dag a b→∀j:Nat,l[j]? = some b→∃k,k<j∧l[k]? = some a:=by
    intro a b w
    induction w with
    | one he=>intro j hj;exact T.topo j _ hj _ he rfl
    | more _ he ih2=>
     intro j hj
     obtain⟨k,k1,k2⟩:=T.topo j _ hj _ he rfl
     obtain⟨k',k3,k4⟩:=ih2 k k2
     exact⟨k',by omega,k4⟩
   obtain⟨k,k1,k2⟩:=pos wy j hx
   have:=ih k (by omega) q.toNat hqr.2 (by rw[eq];exact k2)
   rwa [eq] at this
 refine List.ext_getElem (by rw[v.o.v,w.o.v]) fun p h1 h2=>?_
 have hp:p<d.parts.length:=by rw[← v.o.v];exact h1
 obtain⟨i,hi,hie⟩:=Zm4 g hp
 obtain⟨j,hj⟩:=List.getElem?_of_mem (T.all i hi)
 have:=key (j+1) j (by omega) p hp (by rw[hie];exact hj)
 unfold va at this
 rw[Int.toNat_natCast,List.getElem?_eq_getElem h1,List.getElem?_eq_getElem h2] at this
 exact this
theorem Zs0 {d:Zk} (hs:Zf5 d) (hl:Zji d) (input:List Int) {l:List Int} (T:Zxa (Zbu d).dag l):ZmP d input (Zqz d input (Zls d) l)∧ZxK d (Zqz d input (Zls d) l):=by
 have key:∀(k i:Nat) (m:ZaN),i+k=l.length→ZmP d input m→(∀z:Int,0≤z→(bAt m.done z=true↔∃j,j<i∧l[j]? = some z))→ZmP d input (Zqz d input m (l.drop i))∧ZxK d (Zqz d input m (l.drop i)):=by
  intro k
  induction k with
  | zero=>
   intro i m hi v hd
   have:i=l.length:=by omega
   subst this
   rw[List.drop_length]
   refine⟨v,fun i hi2=>(hd (i:Int) (by omega)).2 ?_⟩
   obtain⟨j,hj⟩:=List.getElem?_of_mem (T.all i hi2)
   exact⟨j,(List.getElem?_eq_some_iff.1 hj).1,hj⟩
  | succ k ih=>
   intro i m hi v hd
   have hil:i<l.length:=by omega
   have hx:l[i]? = some l[i]:=List.getElem?_eq_getElem hil
   generalize hn:l[i]=n at hx
   have nin:=T.inn n (List.mem_of_getElem? hx)
   have en:((n.toNat:Nat):Int)=n:=Int.toNat_of_nonneg nin.1
   have hr:Zh1 (Zbu d).dag m.done n.toNat=true:=by
    refine Zpv.2 ⟨?_,fun e he hdst=>?_⟩
    ·rw[en]
     cases hb:bAt m.done n with
     | false=>rfl
     | true=>
      obtain⟨j,j1,j2⟩:=(hd n nin.1).1 hb
      have:=ZpA T.nod j2 hx
      omega
    ·rw[en] at hdst
     exact(hd e.src ((Zg3 hl.2).1.src e he).1).2 (T.topo i n hx e he hdst)
   have hs2:=Zwm hs hl v nin.2 hr
   rw[en] at hs2
   rw[List.drop_eq_getElem_cons hil,hn]
   refine ih (i+1) (Zkb d input m n) (by omega) hs2 fun z hz=>?_
   rw[ZoY,Zqp (by rw[v.o.n];exact nin.2) z hz,Bool.or_eq_true,decide_eq_true_eq,en,hd z hz]
   constructor
   ·rintro (h | ⟨j,j1,j2⟩)
    ·exact⟨i,by omega,by rw[h];exact hx⟩
    ·exact⟨j,by omega,j2⟩
   ·rintro ⟨j,j1,j2⟩
    by_cases hj:j=i
    ·subst hj;rw[hx] at j2;exact .inl (Option.some.inj j2).symm
    ·exact .inr ⟨j,by omega,j2⟩
 have:=key l.length 0 (Zls d) (by omega) (ZxR d input) (fun z hz=>by
  constructor
  ·intro h
   exfalso
   have:bAt (Zls d).done z=false:=by
    unfold bAt Zls
    rw[List.getElem?_replicate]
    by_cases h:z.toNat<ZfK d
    ·rw[if_pos h]
    ·rw[if_neg h]
   rw[this] at h
   cases h
  ·rintro ⟨j,j1,_⟩;omega)
 rwa [List.drop_zero] at this
end Go.Proofs.YtnmbdjkbaihicaaDoor
namespace Go.Proofs.YtnmbdjkbaihicaaDoor
open Go Go.Proofs.YtnmbdjkbaihicaaDoorE
set_option linter.unusedVariables false
set_option linter.unusedSimpArgs false
theorem ZoR (a b:List Int) (ha:a.length<9223372036854775808):Ze0 a b=some (decide (a=b)):=by
 have ne:(((a.length:Int)) != (b.length:Int)) = !decide (a.length=b.length):=by
  by_cases h:a.length=b.length
  ·rw[decide_eq_true h,h];simp
  ·rw[decide_eq_false h,bne,beq_false_of_ne (show((a.length:Int))≠(b.length:Int) by omega)]
 unfold Ze0
 rw[ne]
 by_cases hl:a.length=b.length
 ·rw[decide_eq_true hl,ZwS a b hl (ZdL a b) (fun i x y hi hx hy=>by
   have e:(x != y) = !decide (x=y):=by
    by_cases h:x=y
    ·subst h;simp
    ·rw[decide_eq_false h];simpa using h
   simp only[ZdL,Zee hi,Zau hx,Zau hy,Option.bind_some,ZY hi ha,cond_true,e]
   cases decide (x=y)<;>rfl) (by simp only[ZdL,ZeT];rfl)]
  cases decide (a=b)<;>rfl
 ·rw[decide_eq_false hl,decide_eq_false (fun e=>hl (by rw[e]))]
  rfl
end Go.Proofs.YtnmbdjkbaihicaaDoor
namespace Go.Proofs.YtnmbdjkbaihicaaDoor
open Go Go.Proofs.YtnmbdjkbaihicaaDoorE
set_option linter.unusedVariables false
set_option linter.unusedSimpArgs false
theorem ZeY:∀r,Zev=some r→evD ctx 12 []=some (D.bool r):=fun r h=>by
  cases h
  exact Zy8 100 (by kernel_rfl)
def Zkt (r:Bool):D:=(D.bool r)
def Zh6 (t0:Bool) (t1:Bool) (t2:Bool) (t3:Bool) (a:Zk):(Unit⊕Unit)→Ex×List V×Zm
  | (.inl r)=>(.ret,[(.ptr 0 0),(.d (D.bool false))],[(.cells (dV t0 t1 t2 t3 a))])
  | (.inr r)=>(.exit 0,[(.ptr 0 0),.bad],[(.cells (dV t0 t1 t2 t3 a))])
theorem Zlc {t0:Bool}{t1:Bool}{t2:Bool}{t3:Bool}{a:Zk}:∀(s0:Int) (r:(Unit⊕Unit)),lp (Zd6 a) s0=some r→lpW ctx 0 [1,3] [1,2] ZuV [(.ptr 0 0),(.d (Zb s0))] [(.cells (dV t0 t1 t2 t3 a))]=some ((Zh6 t0 t1 t2 t3 a) r):=by
 refine ZaU (Zh6 t0 t1 t2 t3 a) ?_
 intro s0 rcl ih
 show ZQ _ _ (lpW _ _ _ _ _ _ _)
 unfold Zd6
 rw[ZaV]
 conv=>arg 3;whnf
 refine Zo (ZL _ _) ?_;conv=>arg 3;whnf
 refine Ze rfl ?_ ?_<;>conv=>arg 3;whnf
 ·refine Ze rfl ?_ ?_<;>conv=>arg 3;whnf
  ·refine Zl rfl rfl fun x1 hx1=>?_;conv=>arg 3;whnf
   refine Zo (ZL _ _) ?_;conv=>arg 3;whnf
   refine Ze rfl ?_ ?_<;>conv=>arg 3;whnf
   ·exact Zf rfl
   ·refine Zg (Zbm rfl hx1) ?_;conv=>arg 3;whnf
    refine Zo (ZL _ _) ?_;conv=>arg 3;whnf
    refine Ze rfl ?_ ?_<;>conv=>arg 3;whnf
    ·exact Zf rfl
    ·exact Zd (ih _)
  ·exact Zf rfl
 ·exact Zf rfl
theorem Zoj {t0:Bool}{t1:Bool}{t2:Bool}{t3:Bool}{a:Zk}:∀r,(Zgi a)=some r→evD ctx 40 [(.d (D.agg (dA t0 t1 t2 t3 a)))]=some (Zkt r):=by
 show ZQ _ (fun r rhs=>rhs=some (Zkt r)) _
 unfold Zgi
 rw[Zbe ctx 40 Zyk _ rfl rfl]
 conv=>arg 3;whnf
 refine Zc _ (Zlc _) fun r2 hr2=>?_
 clear hr2
 rcases r2 with r2 | r2
 ·conv=>arg 3;whnf
  exact Zf rfl
 ·conv=>arg 3;whnf
  refine Zo (ZL _ _) ?_;conv=>arg 3;whnf
  refine Ze rfl ?_ ?_<;>conv=>arg 3;whnf
  ·refine Zo (ZL _ _) ?_;conv=>arg 3;whnf
   refine Ze rfl ?_ ?_<;>conv=>arg 3;whnf
   ·refine Zo (ZL _ _) ?_;conv=>arg 3;whnf
    refine Ze rfl ?_ ?_<;>conv=>arg 3;whnf
    ·refine Zo (ZL _ _) ?_;conv=>arg 3;whnf
     refine Ze rfl ?_ ?_<;>conv=>arg 3;whnf
     ·exact Zf rfl
     ·exact Zf rfl
    ·exact Zf rfl
   ·exact Zf rfl
  ·exact Zf rfl
def Zki (r:Bool):D:=(D.bool r)
theorem Zob {t0:Bool}{t1:Bool}{t2:Bool}{t3:Bool}{t4:Bool}{t5:Bool}{t6:Bool}{a:Zk}{b:(List Int)}{c:ZaN}:∀r,(Zgp a b c)=some r→evD ctx 13 [(.d (D.agg (dA t0 t1 t2 t3 a))),(.d (D.list t4 (List.map Zb b))),(.d (D.agg [(D.list t5 (List.map D.bool c.done)),(D.list t6 (List.map Zb c.vals))]))]=some (Zki r):=by
 show ZQ _ (fun r rhs=>rhs=some (Zki r)) _
 unfold Zgp
 rw[Zbe ctx 13 Zy6 _ rfl rfl]
 conv=>arg 3;whnf
 refine Zr _ Zoj rfl fun x0 hx0=>?_;conv=>arg 3;whnf
 refine Ze rfl ?_ ?_<;>conv=>arg 3;whnf
 ·refine Zo (ZL _ _) ?_;conv=>arg 3;whnf
  refine Ze rfl ?_ ?_<;>conv=>arg 3;whnf
  ·refine Zo (ZL _ _) ?_;conv=>arg 3;whnf
   refine Ze rfl ?_ ?_<;>conv=>arg 3;whnf
   ·refine Zo (ZL _ _) ?_;conv=>arg 3;whnf
    refine Ze rfl ?_ ?_<;>conv=>arg 3;whnf
    ·exact Zf rfl
    ·exact Zf rfl
   ·exact Zf rfl
  ·exact Zf rfl
 ·exact Zf rfl
def Zkv (t0:Bool) (t1:Bool) (t2:Bool) (t3:Bool) (a:Zk):(List Zs)→V×Zm
  | r=>((.agg [(.d (Zb a.period)),(.d (Zb a.deadline)),(.sl 0 3),(.sl 1 2),(.sl 2 3),(.sl 3 2)]),[(.arr 3 (List.map Z0 a.parts)),(.arr 2 (List.map ZC a.edges)),(.arr 3 (List.map Zp a.futures)),(.arr 2 (List.map Zv r))])
def Zh2 (t0:Bool) (t1:Bool) (t2:Bool) (t3:Bool) (a:Zk):(List Zs)→Ex×List V×Zm
  | r=>(.exit 0,[(.ptr 0 0),(.ptr 1 0)],[(.cells [(.d (Zb 0)),(.d (Zb 0)),(.sl 2 3),(.sl 3 2),(.sl 4 3),(.sl 5 2)]),(.cells [(.d (Zb a.period)),(.d (Zb a.deadline)),(.sl 6 3),(.sl 7 2),(.sl 8 3),(.sl 9 2)]),(.arr 3 []),(.arr 2 []),(.arr 3 []),(.arr 2 []),(.arr 3 (List.map Z0 a.parts)),(.arr 2 (List.map ZC a.edges)),(.arr 3 (List.map Zp a.futures)),(.arr 2 (List.map Zv r))])
theorem Zk3 {t0:Bool}{t1:Bool}{t2:Bool}{t3:Bool}{a:Zk}:∀(s0:Int×(List Zs)) (r:(List Zs)),lp (Zdt a) s0=some r→lpW ctx 0 [1,2,3,4] [2,3] Zvx [(.ptr 0 0),(.ptr 1 0),(.ptr 2 0),(.d (Zb s0.1))] [(.cells (dV t0 t1 t2 t3 a)),(.cells [(.d (Zb 0)),(.d (Zb 0)),(.sl 3 3),(.sl 4 2),(.sl 5 3),(.sl 6 2)]),(.cells [(.d (Zb a.period)),(.d (Zb a.deadline)),(.sl 7 3),(.sl 8 2),(.sl 9 3),(.sl 10 2)]),(.arr 3 []),(.arr 2 []),(.arr 3 []),(.arr 2 []),(.arr 3 (List.map Z0 a.parts)),(.arr 2 (List.map ZC a.edges)),(.arr 3 (List.map Zp a.futures)),(.arr 2 (List.map Zv s0.2))]=some ((Zh2 t0 t1 t2 t3 a) r):=by
 refine ZaU (Zh2 t0 t1 t2 t3 a) ?_
 intro s0 rcl ih
 show ZQ _ _ (lpW _ _ _ _ _ _ _)
 unfold Zdt
 rw[ZaV]
 conv=>arg 3;whnf
 refine Zo (ZL _ _) ?_;conv=>arg 3;whnf
 refine Ze rfl ?_ ?_<;>conv=>arg 3;whnf
 ·refine Zl rfl rfl fun x1 hx1=>?_;conv=>arg 3;whnf
  refine ZbP (Zfe (f:=Zb) (fun _=>⟨rfl,rfl⟩) x1.ins 0) ?_;conv=>arg 3;whnf
  refine Ze (ZfN Zb x1.ins) ?_ ?_
  ·conv=>arg 3;whnf
   refine Zo (rfl:_=List.map Zb x1.ins) ?_;conv=>arg 3;whnf
   refine Zg (Zbm rfl hx1) ?_;conv=>arg 3;whnf
   refine ZbP (Zfe (f:=Zb) (fun _=>⟨rfl,rfl⟩) x1.outs 0) ?_;conv=>arg 3;whnf
   refine Ze (ZfN Zb x1.outs) ?_ ?_
   ·conv=>arg 3;whnf
    refine Zo (rfl:_=List.map Zb x1.outs) ?_;conv=>arg 3;whnf
    refine ZbP rfl ?_;conv=>arg 3;whnf
    refine Ze (ZgT Zv s0.2 1) ?_ ?_
    ·conv=>arg 3;whnf
     refine Zo (Zgb Zv s0.2 [x1]) ?_;conv=>arg 3;whnf
     exact Zd (ih _)
    ·exact Z7
   ·exact Z7
  ·exact Z7
 ·exact Zf rfl
theorem Zhc {t0:Bool}{t1:Bool}{t2:Bool}{t3:Bool}{a:Zk}:∀r,(ZeP a)=some r→evW ctx 15 [(.d (D.agg (dA t0 t1 t2 t3 a)))] []=some ((Zkv t0 t1 t2 t3 a) r):=by
 show ZQ _ (fun r rhs=>rhs=some ((Zkv t0 t1 t2 t3 a) r)) _
 unfold ZeP
 rw[Ze4 ctx 15 Zza _ _ rfl rfl]
 conv=>arg 3;whnf
 refine ZbP (Zfe (f:=Z0) (fun _=>⟨rfl,rfl⟩) a.parts 0) ?_;conv=>arg 3;whnf
 refine Ze (ZfN Z0 a.parts) ?_ ?_
 ·conv=>arg 3;whnf
  refine Zo (rfl:_=List.map Z0 a.parts) ?_;conv=>arg 3;whnf
  refine ZbP (Zfe (f:=ZC) (fun _=>⟨rfl,rfl⟩) a.edges 0) ?_;conv=>arg 3;whnf
  refine Ze (ZfN ZC a.edges) ?_ ?_
  ·conv=>arg 3;whnf
   refine Zo (rfl:_=List.map ZC a.edges) ?_;conv=>arg 3;whnf
   refine ZbP (Zfe (f:=Zp) (fun _=>⟨rfl,rfl⟩) a.futures 0) ?_;conv=>arg 3;whnf
   refine Ze (ZfN Zp a.futures) ?_ ?_
   ·conv=>arg 3;whnf
    refine Zo (rfl:_=List.map Zp a.futures) ?_;conv=>arg 3;whnf
    refine Zc _ (Zk3 _) fun r2 hr2=>?_;conv=>arg 3;whnf
    exact Zf rfl
   ·exact Z7
  ·exact Z7
 ·exact Z7
def Zi5 (r:Bool):D:=(D.bool r)
theorem ZbS {a:Int}{b:Int}{c:Int}:∀r,(Zbn a b c)=some r→evD ctx 82 [(.d (Zb a)),(.d (Zb b)),(.d (Zb c))]=some (Zi5 r):=by
 show ZQ _ (fun r rhs=>rhs=some (Zi5 r)) _
 unfold Zbn
 rw[Zbe ctx 82 Zzb _ rfl rfl]
 conv=>arg 3;whnf
 refine Ze rfl ?_ ?_<;>conv=>arg 3;whnf
 ·refine Ze rfl ?_ ?_<;>conv=>arg 3;whnf
  ·exact Zf rfl
  ·exact Zf rfl
 ·exact Zf rfl
def Zkr (r:Int):D:=(Zb r)
theorem Znx {a:Int}:∀r,(Zgf a)=some r→evD ctx 109 [(.d (Zb a))]=some (Zkr r):=by
 show ZQ _ (fun r rhs=>rhs=some (Zkr r)) _
 unfold Zgf
 rw[Zbe ctx 109 Zvj _ rfl rfl]
 conv=>arg 3;whnf
 refine Ze rfl ?_ ?_<;>conv=>arg 3;whnf
 ·exact Zf rfl
 ·refine Ze rfl ?_ ?_<;>conv=>arg 3;whnf
  ·exact Zf rfl
  ·exact Zf rfl
def Ze2 (r:Int):D:=(Zb r)
theorem Zg5 {a:Int}:∀r,(Zch a)=some r→evD ctx 121 [(.d (D.int .u64 a))]=some (Ze2 r):=by
 show ZQ _ (fun r rhs=>rhs=some (Ze2 r)) _
 unfold Zch
 rw[Zbe ctx 121 ZuN _ rfl rfl]
 conv=>arg 3;whnf
 refine Zaj rfl ?_;conv=>arg 3;whnf
 refine Zaj rfl ?_;conv=>arg 3;whnf
 refine Zaj rfl ?_;conv=>arg 3;whnf
 refine Zaj rfl ?_;conv=>arg 3;whnf
 refine Zaj rfl ?_;conv=>arg 3;whnf
 refine Zaj rfl ?_;conv=>arg 3;whnf
 exact Zf rfl
def Zfy (r:Int):D:=(Zb r)
theorem ZhX {a:Int}:∀r,(Zcy a)=some r→evD ctx 110 [(.d (D.int .u64 a))]=some (Zfy r):=by
 show ZQ _ (fun r rhs=>rhs=some (Zfy r)) _
 unfold Zcy
 rw[Zbe ctx 110 Zu4 _ rfl rfl]
 conv=>arg 3;whnf
 refine Zr _ Zg5 rfl fun x0 hx0=>?_;conv=>arg 3;whnf
 exact Zf rfl
theorem ZzR (n:Int):0≤IntKind.u64.wrap n∧IntKind.u64.wrap n<18446744073709551616:=by
  have:IntKind.u64.wrap n=n % 18446744073709551616:=by
    show(if (false&&decide (n % 18446744073709551616 ≥ 9223372036854775808))=true then n % 18446744073709551616-18446744073709551616 else n % 18446744073709551616)=_
    simp
  rw[this]
  omega
theorem ZAQ (n:Int):∃j:Nat,j<64∧(IntKind.u64.wrap n).fdiv (2 ^ (min (Int.toNat 58) IntKind.u64.bits))=(j:Int):=by
  obtain⟨h1,h2⟩:=ZzR n
  have e:(2:Int) ^ (min (Int.toNat 58) IntKind.u64.bits)=288230376151711744:=by decide
  rw[e,Int.fdiv_eq_ediv_of_nonneg _ (by omega)]
  refine⟨((IntKind.u64.wrap n) / 288230376151711744).toNat,?_,?_⟩<;>omega
theorem ZAY:∀j:Nat,j<64→Zda [] 1 false (.d (.rptr (Zvy.drop (j*1))))=some (.d (.int .u8 (Zqw.getD j 0))):=by
  have key:((List.range 64).all fun j=>match Zda [] 1 false (.d (.rptr (Zvy.drop (j*1)))) with | some (.d (.int .u8 z))=>z==Zqw.getD j 0 | _=>false)=true:=by rfl
  intro j hj
  have:=List.all_eq_true.1 key j (by simpa using hj)
  split at this
  · rename_i z hz
    rw[hz,eq_of_beq this]
  · cases this
def Zgr (r:Int):D:=Zb r
theorem ZfW (a:Int):∀r,Zdf a=some r→evD ctx 123 [.d (.int .u64 a)]=some (Zgr r):=by
  intro r hr
  unfold Zdf at hr
  have hr:=Option.some.inj hr
  subst hr
  rw[Zbe ctx 123 ZvV _ rfl rfl]
  by_cases h:(a==0)=true
  · conv=>lhs;whnf
    rw[h,Zxn]
    rfl
  · replace h:(a==0)=false:=by simpa using h
    obtain⟨j,hj,e⟩:=ZAQ (IntKind.u64.wrap ((BitVec.ofInt IntKind.u64.bits a &&& BitVec.ofInt IntKind.u64.bits (IntKind.u64.wrap (0-a))).toNat:Int)*285870213051353865)
    conv=>lhs;whnf
    rw[h,ZxJ]
    conv=>lhs;whnf
    refine(ZAS (by rfl)).trans ?_
    conv=>lhs;whnf
    rw[e]
    refine(ZzE (by simp;omega)).trans ?_
    conv=>lhs;whnf
    erw [ZAY j hj]
    rfl
def ZeE (r:Int):D:=(Zb r)
theorem Zgy {a:Int}:∀r,(Zcx a)=some r→evD ctx 111 [(.d (D.int .u64 a))]=some (ZeE r):=by
 show ZQ _ (fun r rhs=>rhs=some (ZeE r)) _
 unfold Zcx
 rw[Zbe ctx 111 Zuv _ rfl rfl]
 conv=>arg 3;whnf
 refine Zr _ (ZfW _) rfl fun x0 hx0=>?_;conv=>arg 3;whnf
 exact Zf rfl
def Zms (r:(Int×Bool)):D:=(D.tup [(Zb r.1),(D.bool r.2)])
theorem Zp5 {a:Int}:∀r,(Zh8 a)=some r→evD ctx 83 [(.d (Zb a))]=some (Zms r):=by
 show ZQ _ (fun r rhs=>rhs=some (Zms r)) _
 unfold Zh8
 rw[Zbe ctx 83 Zyw _ rfl rfl]
 conv=>arg 3;whnf
 refine Zr _ Znx rfl fun x0 hx0=>?_;conv=>arg 3;whnf
 refine Ze rfl ?_ ?_<;>conv=>arg 3;whnf
 ·exact Zf rfl
 ·refine Zr _ ZhX rfl fun x1 hx1=>?_;conv=>arg 3;whnf
  refine Ze rfl ?_ ?_<;>conv=>arg 3;whnf
  ·exact Zf rfl
  ·refine Zr _ Zgy rfl fun x2 hx2=>?_;conv=>arg 3;whnf
   exact Zf rfl
def Zkj (r:Bool):D:=(D.bool r)
theorem Znz {a:ZU}:∀r,(Zei a)=some r→evD ctx 85 [(.d (D.agg [(Zb a.op),(Zb a.arg),(Zb a.work)]))]=some (Zkj r):=by
 show ZQ _ (fun r rhs=>rhs=some (Zkj r)) _
 unfold Zei
 rw[Zbe ctx 85 Zyq _ rfl rfl]
 conv=>arg 3;whnf
 refine Zr _ ZbS rfl fun x0 hx0=>?_;conv=>arg 3;whnf
 refine Ze rfl ?_ ?_<;>conv=>arg 3;whnf
 ·refine Zr _ ZbS rfl fun x1 hx1=>?_;conv=>arg 3;whnf
  refine Ze rfl ?_ ?_<;>conv=>arg 3;whnf
  ·refine Zr _ ZbS rfl fun x2 hx2=>?_;conv=>arg 3;whnf
   refine Ze rfl ?_ ?_<;>conv=>arg 3;whnf
   ·exact Zf rfl
   ·exact Zf rfl
  ·exact Zf rfl
 ·exact Zf rfl
def Zcl (r:Int):D:=(Zb r)
def Zb2 (t0:Bool) (a:(List ZU)):(Int⊕Unit)→Ex×List V×Zm
  | (.inl r)=>(.ret,[(.d (Zb r))],[])
  | (.inr r)=>(.exit 0,[.bad],[])
theorem ZdV {t0:Bool}{a:(List ZU)}:∀(s0:Int) (r:(Int⊕Unit)),lp (ZaQ a (fun z0=>Zei z0)) s0=some r→lpW ctx 0 [0,1,7,8] [4] Zs6 [(.d (D.list t0 (List.map Z0 a))),(.d (D.fn 85 [])),(.d (Zb (a.length:Int))),(.d (Zb s0))] []=some ((Zb2 t0 a) r):=by
 refine ZaU (Zb2 t0 a) ?_
 intro s0 rcl ih
 show ZQ _ _ (lpW _ _ _ _ _ _ _)
 unfold ZaQ
 rw[ZaV]
 conv=>arg 3;whnf
 refine Ze rfl ?_ ?_<;>conv=>arg 3;whnf
 ·refine Zl rfl rfl fun x1 hx1=>?_;conv=>arg 3;whnf
  refine Zr _ Znz rfl fun x2 hx2=>?_;conv=>arg 3;whnf
  refine Ze rfl ?_ ?_<;>conv=>arg 3;whnf
  ·exact Zf rfl
  ·exact Zd (ih _)
 ·exact Zf rfl
theorem Zd8 {t0:Bool}{a:(List ZU)}:∀r,(ZbR a (fun z0=>Zei z0))=some r→evD ctx 112 [(.d (D.list t0 (List.map Z0 a))),(.d (D.fn 85 []))]=some (Zcl r):=by
 show ZQ _ (fun r rhs=>rhs=some (Zcl r)) _
 unfold ZbR
 rw[Zbe ctx 112 Zwt _ rfl rfl]
 conv=>arg 3;whnf
 refine Zo (ZL _ _) ?_;conv=>arg 3;whnf
 refine Zc _ (ZdV _) fun r3 hr3=>?_
 clear hr3
 rcases r3 with r3 | r3
 ·conv=>arg 3;whnf
  exact Zf rfl
 ·conv=>arg 3;whnf
  exact Zf rfl
def Zb6 (r:Bool):D:=(D.bool r)
theorem ZdW {t0:Bool}{a:(List ZU)}:∀r,(ZaR a (fun z0=>Zei z0))=some r→evD ctx 84 [(.d (D.list t0 (List.map Z0 a))),(.d (D.fn 85 []))]=some (Zb6 r):=by
 show ZQ _ (fun r rhs=>rhs=some (Zb6 r)) _
 unfold ZaR
 rw[Zbe ctx 84 Zy0 _ rfl rfl]
 conv=>arg 3;whnf
 refine Zr _ Zd8 rfl fun x0 hx0=>?_;conv=>arg 3;whnf
 refine Ze rfl ?_ ?_<;>conv=>arg 3;whnf
 ·exact Zf rfl
 ·exact Zf rfl
def ZlF (r:Bool):D:=(D.bool r)
theorem Zkn {t0:Bool}{t1:Bool}{t2:Bool}{t3:Bool}{a:Zk}{b:Int}{c:Int}:∀r,(Zf2 a b c)=some r→evD ctx 86 [(.d (D.agg (dA t0 t1 t2 t3 a))),(.d (Zb b)),(.d (Zb c))]=some (ZlF r):=by
 show ZQ _ (fun r rhs=>rhs=some (ZlF r)) _
 unfold Zf2
 rw[Zbe ctx 86 Zy1 _ rfl rfl]
 conv=>arg 3;whnf
 refine Ze rfl ?_ ?_<;>conv=>arg 3;whnf
 ·refine Zo (ZL _ _) ?_;conv=>arg 3;whnf
  refine Zr _ ZbS rfl fun x0 hx0=>?_;conv=>arg 3;whnf
  refine Ze rfl ?_ ?_<;>conv=>arg 3;whnf
  ·refine Zo (ZL _ _) ?_;conv=>arg 3;whnf
   refine Zr _ ZbS rfl fun x1 hx1=>?_;conv=>arg 3;whnf
   refine Ze rfl ?_ ?_<;>conv=>arg 3;whnf
   ·exact Zf rfl
   ·exact Zf rfl
  ·exact Zf rfl
 ·exact Zf rfl
def Zer (r:Int):D:=(Zb r)
def Zd3 (t0:Bool) (a:(List Zn)) (b:Zn):(Int⊕Unit)→Ex×List V×Zm
  | (.inl r)=>(.ret,[(.d (Zb r))],[])
  | (.inr r)=>(.exit 0,[.bad],[])
theorem ZfG {t0:Bool}{a:(List Zn)}{b:Zn}:∀(s0:Int) (r:(Int⊕Unit)),lp (Zba a b) s0=some r→lpW ctx 0 [0,3,7,8] [4] Zs4 [(.d (D.list t0 (List.map ZC a))),(.ptr 0 0),(.d (Zb (a.length:Int))),(.d (Zb s0))] [(.cells [(.d (Zb b.src)),(.d (Zb b.dst))])]=some ((Zd3 t0 a b) r):=by
 refine ZaU (Zd3 t0 a b) ?_
 intro s0 rcl ih
 show ZQ _ _ (lpW _ _ _ _ _ _ _)
 unfold Zba
 rw[ZaV]
 conv=>arg 3;whnf
 refine Ze rfl ?_ ?_<;>conv=>arg 3;whnf
 ·refine Zl rfl rfl fun x1 hx1=>?_;conv=>arg 3;whnf
  refine Ze rfl ?_ ?_<;>conv=>arg 3;whnf
  ·exact Zf rfl
  ·exact Zd (ih _)
 ·exact Zf rfl
theorem Zgt {t0:Bool}{a:(List Zn)}{b:Zn}:∀r,(Zcn a b)=some r→evD ctx 113 [(.d (D.list t0 (List.map ZC a))),(.d (D.agg [(Zb b.src),(Zb b.dst)]))]=some (Zer r):=by
 show ZQ _ (fun r rhs=>rhs=some (Zer r)) _
 unfold Zcn
 rw[Zbe ctx 113 ZwG _ rfl rfl]
 conv=>arg 3;whnf
 refine Zo (ZL _ _) ?_;conv=>arg 3;whnf
 refine Zc _ (ZfG _) fun r2 hr2=>?_
 clear hr2
 rcases r2 with r2 | r2
 ·conv=>arg 3;whnf
  exact Zf rfl
 ·conv=>arg 3;whnf
  exact Zf rfl
def Zd4 (r:Bool):D:=(D.bool r)
theorem ZdT {t0:Bool}{a:(List Zn)}{b:Zn}:∀r,(ZaP a b)=some r→evD ctx 87 [(.d (D.list t0 (List.map ZC a))),(.d (D.agg [(Zb b.src),(Zb b.dst)]))]=some (Zd4 r):=by
 show ZQ _ (fun r rhs=>rhs=some (Zd4 r)) _
 unfold ZaP
 rw[Zbe ctx 87 ZyW _ rfl rfl]
 conv=>arg 3;whnf
 refine Zr _ Zgt rfl fun x0 hx0=>?_;conv=>arg 3;whnf
 refine Ze rfl ?_ ?_<;>conv=>arg 3;whnf
 ·exact Zf rfl
 ·exact Zf rfl
def Ziq (r:Bool):D:=(D.bool r)
theorem Zlq {a:Zi}{b0:Int}{b1:Int}{b2:Int}:∀r,(ZcQ a b1 b2)=some r→evD ctx 88 [(.d (D.agg [(Zb a.maker),(Zb a.user),(Zb a.pos)])),(.d (D.rptr [(Zb b0),(Zb b1),(Zb b2)]))]=some (Ziq r):=by
 show ZQ _ (fun r rhs=>rhs=some (Ziq r)) _
 unfold ZcQ
 rw[Zbe ctx 88 ZyU _ rfl rfl]
 conv=>arg 3;whnf
 refine Ze rfl ?_ ?_<;>conv=>arg 3;whnf
 ·refine Ze rfl ?_ ?_<;>conv=>arg 3;whnf
  ·exact Zf rfl
  ·exact Zf rfl
 ·exact Zf rfl
def ZbJ (r:Int):D:=(Zb r)
def Zbs (t0:Bool) (a:(List Zi)) (b0:Int) (b1:Int) (b2:Int):(Int⊕Unit)→Ex×List V×Zm
  | (.inl r)=>(.ret,[(.d (Zb r))],[])
  | (.inr r)=>(.exit 0,[.bad],[])
theorem Zc3 {t0:Bool}{a:(List Zi)}{b0:Int}{b1:Int}{b2:Int}:∀(s0:Int) (r:(Int⊕Unit)),lp (Zay a (fun z0=>ZcQ z0 b1 b2)) s0=some r→lpW ctx 0 [0,1,7,8] [4] Zs3 [(.d (D.list t0 (List.map Zp a))),(.d (D.fn 88 [(D.rptr [(Zb b0),(Zb b1),(Zb b2)])])),(.d (Zb (a.length:Int))),(.d (Zb s0))] []=some ((Zbs t0 a b0 b1 b2) r):=by
 refine ZaU (Zbs t0 a b0 b1 b2) ?_
 intro s0 rcl ih
 show ZQ _ _ (lpW _ _ _ _ _ _ _)
 unfold Zay
 rw[ZaV]
 conv=>arg 3;whnf
 refine Ze rfl ?_ ?_<;>conv=>arg 3;whnf
 ·refine Zl rfl rfl fun x1 hx1=>?_;conv=>arg 3;whnf
  refine Zr _ Zlq rfl fun x2 hx2=>?_;conv=>arg 3;whnf
  refine Ze rfl ?_ ?_<;>conv=>arg 3;whnf
  ·exact Zf rfl
  ·exact Zd (ih _)
 ·exact Zf rfl
theorem Zdi {t0:Bool}{a:(List Zi)}{b0:Int}{b1:Int}{b2:Int}:∀r,(Zbb a (fun z0=>ZcQ z0 b1 b2))=some r→evD ctx 114 [(.d (D.list t0 (List.map Zp a))),(.d (D.fn 88 [(D.rptr [(Zb b0),(Zb b1),(Zb b2)])]))]=some (ZbJ r):=by
 show ZQ _ (fun r rhs=>rhs=some (ZbJ r)) _
 unfold Zbb
 rw[Zbe ctx 114 Zvb _ rfl rfl]
 conv=>arg 3;whnf
 refine Zo (ZL _ _) ?_;conv=>arg 3;whnf
 refine Zc _ (Zc3 _) fun r3 hr3=>?_
 clear hr3
 rcases r3 with r3 | r3
 ·conv=>arg 3;whnf
  exact Zf rfl
 ·conv=>arg 3;whnf
  exact Zf rfl
def Zbq (r:Bool):D:=(D.bool r)
theorem Zc1 {t0:Bool}{a:(List Zi)}{b0:Int}{b1:Int}{b2:Int}:∀r,(Zaz a (fun z0=>ZcQ z0 b1 b2))=some r→evD ctx 89 [(.d (D.list t0 (List.map Zp a))),(.d (D.fn 88 [(D.rptr [(Zb b0),(Zb b1),(Zb b2)])]))]=some (Zbq r):=by
 show ZQ _ (fun r rhs=>rhs=some (Zbq r)) _
 unfold Zaz
 rw[Zbe ctx 89 ZyO _ rfl rfl]
 conv=>arg 3;whnf
 refine Zr _ Zdi rfl fun x0 hx0=>?_;conv=>arg 3;whnf
 refine Ze rfl ?_ ?_<;>conv=>arg 3;whnf
 ·exact Zf rfl
 ·exact Zf rfl
def Zlo (r:Bool):D:=(D.bool r)
def Zi3 (t0:Bool) (t1:Bool) (t2:Bool) (t3:Bool) (t4:Bool) (a:Zk) (b:(List Int)):(Unit⊕Unit)→Ex×List V×Zm
  | (.inl r)=>(.ret,[(.d (D.list t4 (List.map Zb b))),(.d (D.bool false))],[])
  | (.inr r)=>(.exit 0,[(.d (D.list t4 (List.map Zb b))),.bad],[])
theorem Zmg {t0:Bool}{t1:Bool}{t2:Bool}{t3:Bool}{t4:Bool}{a:Zk}{b:(List Int)}:∀(s0:Int) (r:(Unit⊕Unit)),lp (Zey a b) s0=some r→lpW ctx 0 [1,2,7,8,9] [1,4] ZvS [(.d (D.list t4 (List.map Zb b))),(.ptr 0 0),(.d (D.list t4 (List.map Zb b))),(.d (Zb (b.length:Int))),(.d (Zb s0))] [(.cells (dV t0 t1 t2 t3 a))]=some ((Zi3 t0 t1 t2 t3 t4 a b) r):=by
 refine ZaU (Zi3 t0 t1 t2 t3 t4 a b) ?_
 intro s0 rcl ih
 show ZQ _ _ (lpW _ _ _ _ _ _ _)
 unfold Zey
 rw[ZaV]
 conv=>arg 3;whnf
 refine Ze rfl ?_ ?_<;>conv=>arg 3;whnf
 ·refine Zl rfl rfl fun x1 hx1=>?_;conv=>arg 3;whnf
  refine Zo (ZL _ _) ?_;conv=>arg 3;whnf
  refine Zr _ ZbS rfl fun x2 hx2=>?_;conv=>arg 3;whnf
  refine Ze rfl ?_ ?_<;>conv=>arg 3;whnf
  ·refine Ze rfl ?_ ?_<;>conv=>arg 3;whnf
   ·refine Zl rfl rfl fun x3 hx3=>?_;conv=>arg 3;whnf
    refine Ze rfl ?_ ?_<;>conv=>arg 3;whnf
    ·exact Zf rfl
    ·exact Zd (ih _)
   ·exact Zd (ih _)
  ·exact Zf rfl
 ·exact Zf rfl
theorem Zku {t0:Bool}{t1:Bool}{t2:Bool}{t3:Bool}{t4:Bool}{a:Zk}{b:(List Int)}:∀r,(Zf3 a b)=some r→evD ctx 92 [(.d (D.agg (dA t0 t1 t2 t3 a))),(.d (D.list t4 (List.map Zb b)))]=some (Zlo r):=by
 show ZQ _ (fun r rhs=>rhs=some (Zlo r)) _
 unfold Zf3
 rw[Zbe ctx 92 Zyl _ rfl rfl]
 conv=>arg 3;whnf
 refine Zo (ZL _ _) ?_;conv=>arg 3;whnf
 refine Zc _ (Zmg _) fun r4 hr4=>?_
 clear hr4
 rcases r4 with r4 | r4
 ·conv=>arg 3;whnf
  exact Zf rfl
 ·conv=>arg 3;whnf
  refine Zo (ZL _ _) ?_;conv=>arg 3;whnf
  refine Ze rfl ?_ ?_<;>conv=>arg 3;whnf
  ·exact Zf rfl
  ·exact Zf rfl
def ZeQ (r:Int):D:=(Zb r)
def Zej (t0:Bool) (a:(List Int)) (b:Int):(Int⊕Unit)→Ex×List V×Zm
  | (.inl r)=>(.ret,[(.d (Zb r))],[])
  | (.inr r)=>(.exit 0,[.bad],[])
theorem Zf0 {t0:Bool}{a:(List Int)}{b:Int}:∀(s0:Int) (r:(Int⊕Unit)),lp (Zbw a b) s0=some r→lpW ctx 0 [0,1,7,8] [4] ZsF [(.d (D.list t0 (List.map Zb a))),(.d (Zb b)),(.d (Zb (a.length:Int))),(.d (Zb s0))] []=some ((Zej t0 a b) r):=by
 refine ZaU (Zej t0 a b) ?_
 intro s0 rcl ih
 show ZQ _ _ (lpW _ _ _ _ _ _ _)
 unfold Zbw
 rw[ZaV]
 conv=>arg 3;whnf
 refine Ze rfl ?_ ?_<;>conv=>arg 3;whnf
 ·refine Zl rfl rfl fun x1 hx1=>?_;conv=>arg 3;whnf
  refine Ze rfl ?_ ?_<;>conv=>arg 3;whnf
  ·exact Zf rfl
  ·exact Zd (ih _)
 ·exact Zf rfl
theorem ZgX {t0:Bool}{a:(List Int)}{b:Int}:∀r,(ZcM a b)=some r→evD ctx 115 [(.d (D.list t0 (List.map Zb a))),(.d (Zb b))]=some (ZeQ r):=by
 show ZQ _ (fun r rhs=>rhs=some (ZeQ r)) _
 unfold ZcM
 rw[Zbe ctx 115 Zwh _ rfl rfl]
 conv=>arg 3;whnf
 refine Zo (ZL _ _) ?_;conv=>arg 3;whnf
 refine Zc _ (Zf0 _) fun r2 hr2=>?_
 clear hr2
 rcases r2 with r2 | r2
 ·conv=>arg 3;whnf
  exact Zf rfl
 ·conv=>arg 3;whnf
  exact Zf rfl
def Zeg (r:Bool):D:=(D.bool r)
theorem Zf4 {t0:Bool}{a:(List Int)}{b:Int}:∀r,(Zbv a b)=some r→evD ctx 91 [(.d (D.list t0 (List.map Zb a))),(.d (Zb b))]=some (Zeg r):=by
 show ZQ _ (fun r rhs=>rhs=some (Zeg r)) _
 unfold Zbv
 rw[Zbe ctx 91 ZyM _ rfl rfl]
 conv=>arg 3;whnf
 refine Zr _ ZgX rfl fun x0 hx0=>?_;conv=>arg 3;whnf
 refine Ze rfl ?_ ?_<;>conv=>arg 3;whnf
 ·exact Zf rfl
 ·exact Zf rfl
def Ziz (r:Bool):D:=(D.bool r)
theorem Zln {t0:Bool}{t1:Bool}{a:Int}{b0:(List Int)}{b1:(List Int)}:∀r,(ZcS a b1)=some r→evD ctx 90 [(.d (Zb a)),(.d (D.rptr [(D.list t0 (List.map Zb b0)),(D.list t1 (List.map Zb b1))]))]=some (Ziz r):=by
 show ZQ _ (fun r rhs=>rhs=some (Ziz r)) _
 unfold ZcS
 rw[Zbe ctx 90 Zy9 _ rfl rfl]
 conv=>arg 3;whnf
 refine Zr _ Zf4 rfl fun x0 hx0=>?_;conv=>arg 3;whnf
 refine Ze rfl ?_ ?_<;>conv=>arg 3;whnf
 ·exact Zf rfl
 ·exact Zf rfl
def Zcg (r:Int):D:=(Zb r)
def ZbY (t0:Bool) (t1:Bool) (t2:Bool) (a:(List Int)) (b0:(List Int)) (b1:(List Int)):(Int⊕Unit)→Ex×List V×Zm
  | (.inl r)=>(.ret,[(.d (Zb r))],[])
  | (.inr r)=>(.exit 0,[.bad],[])
theorem ZdG {t0:Bool}{t1:Bool}{t2:Bool}{a:(List Int)}{b0:(List Int)}{b1:(List Int)}:∀(s0:Int) (r:(Int⊕Unit)),lp (Zal a (fun z0=>ZcS z0 b1)) s0=some r→lpW ctx 0 [0,1,7,8] [4] ZpR [(.d (D.list t0 (List.map Zb a))),(.d (D.fn 90 [(D.rptr [(D.list t1 (List.map Zb b0)),(D.list t2 (List.map Zb b1))])])),(.d (Zb (a.length:Int))),(.d (Zb s0))] []=some ((ZbY t0 t1 t2 a b0 b1) r):=by
 refine ZaU (ZbY t0 t1 t2 a b0 b1) ?_
 intro s0 rcl ih
 show ZQ _ _ (lpW _ _ _ _ _ _ _)
 unfold Zal
 rw[ZaV]
 conv=>arg 3;whnf
 refine Ze rfl ?_ ?_<;>conv=>arg 3;whnf
 ·refine Zl rfl rfl fun x1 hx1=>?_;conv=>arg 3;whnf
  refine Zr _ Zln rfl fun x2 hx2=>?_;conv=>arg 3;whnf
  refine Ze rfl ?_ ?_<;>conv=>arg 3;whnf
  ·exact Zf rfl
  ·exact Zd (ih _)
 ·exact Zf rfl
theorem Zd5 {t0:Bool}{t1:Bool}{t2:Bool}{a:(List Int)}{b0:(List Int)}{b1:(List Int)}:∀r,(ZaS a (fun z0=>ZcS z0 b1))=some r→evD ctx 116 [(.d (D.list t0 (List.map Zb a))),(.d (D.fn 90 [(D.rptr [(D.list t1 (List.map Zb b0)),(D.list t2 (List.map Zb b1))])]))]=some (Zcg r):=by
 show ZQ _ (fun r rhs=>rhs=some (Zcg r)) _
 unfold ZaS
 rw[Zbe ctx 116 Ztz _ rfl rfl]
 conv=>arg 3;whnf
 refine Zo (ZL _ _) ?_;conv=>arg 3;whnf
 refine Zc _ (ZdG _) fun r3 hr3=>?_
 clear hr3
 rcases r3 with r3 | r3
 ·conv=>arg 3;whnf
  exact Zf rfl
 ·conv=>arg 3;whnf
  exact Zf rfl
def ZbZ (r:Bool):D:=(D.bool r)
theorem ZdI {t0:Bool}{t1:Bool}{t2:Bool}{a:(List Int)}{b0:(List Int)}{b1:(List Int)}:∀r,(Z4 a (fun z0=>ZcS z0 b1))=some r→evD ctx 93 [(.d (D.list t0 (List.map Zb a))),(.d (D.fn 90 [(D.rptr [(D.list t1 (List.map Zb b0)),(D.list t2 (List.map Zb b1))])]))]=some (ZbZ r):=by
 show ZQ _ (fun r rhs=>rhs=some (ZbZ r)) _
 unfold Z4
 rw[Zbe ctx 93 Zxh _ rfl rfl]
 conv=>arg 3;whnf
 refine Zr _ Zd5 rfl fun x0 hx0=>?_;conv=>arg 3;whnf
 refine Ze rfl ?_ ?_<;>conv=>arg 3;whnf
 ·exact Zf rfl
 ·exact Zf rfl
def ZjM (r:Int):D:=(Zb r)
def ZhD (t0:Bool) (t1:Bool) (t2:Bool) (t3:Bool) (a:Zk):(Unit⊕Unit)→Ex×List V×Zm
  | (.inl r)=>(.ret,[(.ptr 0 0),(.d (Zb 53))],[(.cells (dV t0 t1 t2 t3 a))])
  | (.inr r)=>(.exit 0,[(.ptr 0 0),.bad],[(.cells (dV t0 t1 t2 t3 a))])
theorem ZkD {t0:Bool}{t1:Bool}{t2:Bool}{t3:Bool}{a:Zk}:∀(s4:Int) (r:(Unit⊕Unit)),lp (Zc2 a) s4=some r→lpW ctx 0 [1,61,62,63] [1,2] Zut [(.ptr 0 0),(.d (D.list t1 (List.map ZC a.edges))),(.d (Zb (a.edges.length:Int))),(.d (Zb s4))] [(.cells (dV t0 t1 t2 t3 a))]=some ((ZhD t0 t1 t2 t3 a) r):=by
 refine ZaU (ZhD t0 t1 t2 t3 a) ?_
 intro s4 rcl ih
 show ZQ _ _ (lpW _ _ _ _ _ _ _)
 unfold Zc2
 rw[ZaV]
 conv=>arg 3;whnf
 refine Ze rfl ?_ ?_<;>conv=>arg 3;whnf
 ·refine Zl rfl rfl fun x5 hx5=>?_;conv=>arg 3;whnf
  refine Zr _ Zkn rfl fun x6 hx6=>?_;conv=>arg 3;whnf
  refine Ze rfl ?_ ?_<;>conv=>arg 3;whnf
  ·refine Ze rfl ?_ ?_
   ·conv=>arg 3;whnf
    refine Ze (Zvi ZC a.edges s4.toNat) ?_ ?_
    ·conv=>arg 3;whnf
     refine ZbP rfl ?_;conv=>arg 3;whnf
     refine Zo (Zqr ZC a.edges s4.toNat) ?_;conv=>arg 3;whnf
     refine Zr _ ZdT rfl fun x7 hx7=>?_;conv=>arg 3;whnf
     refine Ze rfl ?_ ?_<;>conv=>arg 3;whnf
     ·exact Zf rfl
     ·exact Zd (ih _)
    ·exact Z7
   ·exact Z7
  ·exact Zf rfl
 ·exact Zf rfl
def ZhG (t0:Bool) (t1:Bool) (t2:Bool) (t3:Bool) (a:Zk):(Unit⊕Unit)→Ex×List V×Zm
  | (.inl r)=>(.ret,[(.ptr 0 0),(.d (Zb 54))],[(.cells (dV t0 t1 t2 t3 a))])
  | (.inr r)=>(.exit 2,[(.ptr 0 0),.bad],[(.cells (dV t0 t1 t2 t3 a))])
theorem ZkR {t0:Bool}{t1:Bool}{t2:Bool}{t3:Bool}{a:Zk}:∀(s9:Int) (r:(Unit⊕Unit)),lp (Zc6 a) s9=some r→lpW ctx 0 [1,85,86,87] [1,2] Zu9 [(.ptr 0 0),(.d (D.list t2 (List.map Zp a.futures))),(.d (Zb (a.futures.length:Int))),(.d (Zb s9))] [(.cells (dV t0 t1 t2 t3 a))]=some ((ZhG t0 t1 t2 t3 a) r):=by
 refine ZaU (ZhG t0 t1 t2 t3 a) ?_
 intro s9 rcl ih
 show ZQ _ _ (lpW _ _ _ _ _ _ _)
 unfold Zc6
 rw[ZaV]
 conv=>arg 3;whnf
 refine Ze rfl ?_ ?_<;>conv=>arg 3;whnf
 ·refine Zl rfl rfl fun x10 hx10=>?_;conv=>arg 3;whnf
  refine Zr _ Zkn rfl fun x11 hx11=>?_;conv=>arg 3;whnf
  refine Ze rfl ?_ ?_<;>conv=>arg 3;whnf
  ·refine Zl rfl rfl fun x12 hx12=>?_;conv=>arg 3;whnf
   refine Zr _ ZbS rfl fun x13 hx13=>?_;conv=>arg 3;whnf
   refine Ze rfl ?_ ?_<;>conv=>arg 3;whnf
   ·refine Ze rfl ?_ ?_
    ·conv=>arg 3;whnf
     refine Ze (Zvi Zp a.futures s9.toNat) ?_ ?_
     ·conv=>arg 3;whnf
      refine ZbP rfl ?_;conv=>arg 3;whnf
      refine Zo (Zqr Zp a.futures s9.toNat) ?_;conv=>arg 3;whnf
      refine Zr _ Zc1 rfl fun x14 hx14=>?_;conv=>arg 3;whnf
      refine Ze rfl ?_ ?_<;>conv=>arg 3;whnf
      ·exact Zf rfl
      ·exact Zd (ih _)
     ·exact Z7
    ·exact Z7
   ·exact Zf rfl
  ·exact Zf rfl
 ·exact Zf rfl
def ZhE (t0:Bool) (t1:Bool) (t2:Bool) (t3:Bool) (a:Zk):(Unit⊕Unit)→Ex×List V×Zm
  | (.inl r)=>(.ret,[(.d (Zb 55))],[])
  | (.inr r)=>(.exit 4,[.bad],[])
theorem ZkO {t0:Bool}{t1:Bool}{t2:Bool}{t3:Bool}{a:Zk}:∀(s16:Int) (r:(Unit⊕Unit)),lp (Zc4 a) s16=some r→lpW ctx 0 [1,124,125,126] [2] Zv5 [(.ptr 0 0),(.d (D.list t3 (List.map Zv a.barriers))),(.d (Zb (a.barriers.length:Int))),(.d (Zb s16))] [(.cells (dV t0 t1 t2 t3 a))]=some ((ZhE t0 t1 t2 t3 a) r):=by
 refine ZaU (ZhE t0 t1 t2 t3 a) ?_
 intro s16 rcl ih
 show ZQ _ _ (lpW _ _ _ _ _ _ _)
 unfold Zc4
 rw[ZaV]
 conv=>arg 3;whnf
 refine Ze rfl ?_ ?_<;>conv=>arg 3;whnf
 ·refine Zl rfl rfl fun x17 hx17=>?_;conv=>arg 3;whnf
  refine Zr _ Zku rfl fun x18 hx18=>?_;conv=>arg 3;whnf
  refine Ze rfl ?_ ?_<;>conv=>arg 3;whnf
  ·refine Zr _ Zku rfl fun x19 hx19=>?_;conv=>arg 3;whnf
   refine Ze rfl ?_ ?_<;>conv=>arg 3;whnf
   ·refine Zr _ ZdI rfl fun x20 hx20=>?_;conv=>arg 3;whnf
    refine Ze rfl ?_ ?_<;>conv=>arg 3;whnf
    ·exact Zf rfl
    ·exact Zd (ih _)
   ·exact Zf rfl
  ·exact Zf rfl
 ·exact Zf rfl
theorem Zgx {t0:Bool}{t1:Bool}{t2:Bool}{t3:Bool}{a:Zk}:∀r,(Zeo a)=some r→evD ctx 55 [(.d (D.agg (dA t0 t1 t2 t3 a)))]=some (ZjM r):=by
 show ZQ _ (fun r rhs=>rhs=some (ZjM r)) _
 unfold Zeo
 rw[Zbe ctx 55 ZyD _ rfl rfl]
 conv=>arg 3;whnf
 refine Zo (ZL _ _) ?_;conv=>arg 3;whnf
 refine Zr _ ZbS rfl fun x0 hx0=>?_;conv=>arg 3;whnf
 refine Ze rfl ?_ ?_<;>conv=>arg 3;whnf
 ·refine Zo (ZL _ _) ?_;conv=>arg 3;whnf
  refine Ze rfl ?_ ?_<;>conv=>arg 3;whnf
  ·exact Zf rfl
  ·refine Zo (ZL _ _) ?_;conv=>arg 3;whnf
   refine Ze rfl ?_ ?_<;>conv=>arg 3;whnf
   ·exact Zf rfl
   ·refine Zo (ZL _ _) ?_;conv=>arg 3;whnf
    refine Ze rfl ?_ ?_<;>conv=>arg 3;whnf
    ·exact Zf rfl
    ·refine Zr _ Zp5 rfl fun x1 hx1=>?_;conv=>arg 3;whnf
     refine Ze rfl ?_ ?_<;>conv=>arg 3;whnf
     ·refine Ze rfl ?_ ?_<;>conv=>arg 3;whnf
      ·exact Zf rfl
      ·refine Zr _ ZbS rfl fun x2 hx2=>?_;conv=>arg 3;whnf
       refine Ze rfl ?_ ?_<;>conv=>arg 3;whnf
       ·refine Zr _ ZdW rfl fun x3 hx3=>?_;conv=>arg 3;whnf
        refine Ze rfl ?_ ?_<;>conv=>arg 3;whnf
        ·exact Zf rfl
        ·refine Zo (ZL _ _) ?_;conv=>arg 3;whnf
         refine Zc _ (ZkD _) fun r8 hr8=>?_
         clear hr8
         rcases r8 with r8 | r8
         ·conv=>arg 3;whnf
          exact Zf rfl
         ·conv=>arg 3;whnf
          refine Zo (ZL _ _) ?_;conv=>arg 3;whnf
          refine Zc _ (ZkR _) fun r15 hr15=>?_
          clear hr15
          rcases r15 with r15 | r15
          ·conv=>arg 3;whnf
           exact Zf rfl
          ·conv=>arg 3;whnf
           refine Zo (ZL _ _) ?_;conv=>arg 3;whnf
           refine Zc _ (ZkO _) fun r21 hr21=>?_
           clear hr21
           rcases r21 with r21 | r21
           ·conv=>arg 3;whnf
            exact Zf rfl
           ·conv=>arg 3;whnf
            exact Zf rfl
       ·exact Zf rfl
     ·exact Zf rfl
 ·exact Zf rfl
def Zhe (r:Int):D:=(Zb r)
theorem ZE {t0:Bool}{t1:Bool}{t2:Bool}{t3:Bool}{a:Int}{b:Int}{c0:Int}{c1:Int}{c2:(List ZU)}{c3:(List Zn)}{c4:(List Zi)}{c5:(List Zs)}:∀r,(Zt a b c4)=some r→evD ctx 118 [(.d (Zb a)),(.d (Zb b)),(.d (D.rptr [(Zb c0),(Zb c1),(D.list t0 (List.map Z0 c2)),(D.list t1 (List.map ZC c3)),(D.list t2 (List.map Zp c4)),(D.list t3 (List.map Zv c5))]))]=some (Zhe r):=by
 show ZQ _ (fun r rhs=>rhs=some (Zhe r)) _
 unfold Zt
 rw[Zbe ctx 118 ZvO _ rfl rfl]
 conv=>arg 3;whnf
 refine Zl rfl rfl fun x0 hx0=>?_;conv=>arg 3;whnf
 refine Zl rfl rfl fun x1 hx1=>?_;conv=>arg 3;whnf
 exact Zf rfl
def ZgF (r:Int):D:=(Zb r)
theorem Zjn {a:Int}:∀r,(ZfQ a)=some r→evD ctx 135 [(.d (D.int .u64 a))]=some (ZgF r):=by
 show ZQ _ (fun r rhs=>rhs=some (ZgF r)) _
 unfold ZfQ
 rw[Zbe ctx 135 ZuZ _ rfl rfl]
 conv=>arg 3;whnf
 refine Ze rfl ?_ ?_<;>conv=>arg 3;whnf
 ·refine Zaj rfl ?_;conv=>arg 3;whnf
  refine Ze rfl ?_ ?_<;>conv=>arg 3;whnf
  ·refine Zaj rfl ?_;conv=>arg 3;whnf
   refine Ze rfl ?_ ?_<;>conv=>arg 3;whnf
   ·refine Zaj rfl ?_;conv=>arg 3;whnf
    refine Ze rfl ?_ ?_
    ·conv=>arg 3;whnf
     refine Zge rfl fun x0 hx0=>?_;conv=>arg 3;whnf
     exact Zf rfl
    ·exact Z7
   ·refine Ze rfl ?_ ?_
    ·conv=>arg 3;whnf
     refine Zge rfl fun x1 hx1=>?_;conv=>arg 3;whnf
     exact Zf rfl
    ·exact Z7
  ·refine Ze rfl ?_ ?_<;>conv=>arg 3;whnf
   ·refine Zaj rfl ?_;conv=>arg 3;whnf
    refine Ze rfl ?_ ?_
    ·conv=>arg 3;whnf
     refine Zge rfl fun x2 hx2=>?_;conv=>arg 3;whnf
     exact Zf rfl
    ·exact Z7
   ·refine Ze rfl ?_ ?_
    ·conv=>arg 3;whnf
     refine Zge rfl fun x3 hx3=>?_;conv=>arg 3;whnf
     exact Zf rfl
    ·exact Z7
 ·refine Ze rfl ?_ ?_<;>conv=>arg 3;whnf
  ·refine Zaj rfl ?_;conv=>arg 3;whnf
   refine Ze rfl ?_ ?_<;>conv=>arg 3;whnf
   ·refine Zaj rfl ?_;conv=>arg 3;whnf
    refine Ze rfl ?_ ?_
    ·conv=>arg 3;whnf
     refine Zge rfl fun x4 hx4=>?_;conv=>arg 3;whnf
     exact Zf rfl
    ·exact Z7
   ·refine Ze rfl ?_ ?_
    ·conv=>arg 3;whnf
     refine Zge rfl fun x5 hx5=>?_;conv=>arg 3;whnf
     exact Zf rfl
    ·exact Z7
  ·refine Ze rfl ?_ ?_<;>conv=>arg 3;whnf
   ·refine Zaj rfl ?_;conv=>arg 3;whnf
    refine Ze rfl ?_ ?_
    ·conv=>arg 3;whnf
     refine Zge rfl fun x6 hx6=>?_;conv=>arg 3;whnf
     exact Zf rfl
    ·exact Z7
   ·refine Ze rfl ?_ ?_
    ·conv=>arg 3;whnf
     refine Zge rfl fun x7 hx7=>?_;conv=>arg 3;whnf
     exact Zf rfl
    ·exact Z7
def Zhx (r:Int):D:=(Zb r)
theorem Zhl {a:Int}:∀r,(ZdO a)=some r→evD ctx 125 [(.d (D.int .u64 a))]=some (Zhx r):=by
 show ZQ _ (fun r rhs=>rhs=some (Zhx r)) _
 unfold ZdO
 rw[Zbe ctx 125 Zvt _ rfl rfl]
 conv=>arg 3;whnf
 refine Zr _ Zjn rfl fun x0 hx0=>?_;conv=>arg 3;whnf
 exact Zf rfl
def ZbD (t0:Bool) (t1:Bool) (t2:Bool) (t3:Bool) (b:Int) (c:Int) (m0_0:(List Int)) (m1_0:Int) (m1_1:Int) (m1_2:(List ZU)) (m1_3:(List Zn)) (m1_4:(List Zi)) (m1_5:(List Zs)):(List Int)→V×Zm
  | r=>((.d (D.tup [])),[(.arr 1 (List.map Zb r)),(.cells [(.d (Zb m1_0)),(.d (Zb m1_1)),(.d (D.list t0 (List.map Z0 m1_2))),(.d (D.list t1 (List.map ZC m1_3))),(.d (D.list t2 (List.map Zp m1_4))),(.d (D.list t3 (List.map Zv m1_5)))])])
def Zbh (t0:Bool) (t1:Bool) (t2:Bool) (t3:Bool) (b:Int) (c:Int) (m1_0:Int) (m1_1:Int) (m1_2:(List ZU)) (m1_3:(List Zn)) (m1_4:(List Zi)) (m1_5:(List Zs)) (s0:Int×(List Int)):(List Int)→Ex×List V×Zm
  | r=>(.exit 2,[(.sl 0 1),(.d (Zb b)),(.d (Zb c)),(.fn 118 [(.ptr 1 0)]),(.d (Zb s0.1))],[(.arr 1 (List.map Zb r)),(.cells [(.d (Zb m1_0)),(.d (Zb m1_1)),(.d (D.list t0 (List.map Z0 m1_2))),(.d (D.list t1 (List.map ZC m1_3))),(.d (D.list t2 (List.map Zp m1_4))),(.d (D.list t3 (List.map Zv m1_5)))])])
theorem ZcT {t0:Bool}{t1:Bool}{t2:Bool}{t3:Bool}{b:Int}{c:Int}{m1_0:Int}{m1_1:Int}{m1_2:(List ZU)}{m1_3:(List Zn)}{m1_4:(List Zi)}{m1_5:(List Zs)}{s0:Int×(List Int)}:∀(s1:Int×(List Int)) (r:(List Int)),lp (ZW b (fun z0 z1=>Zt z0 z1 m1_4)) s1=some r→lpW ctx 2 [0,1,2,3,8,9] [0,1,2,3,8] ZsQ [(.sl 0 1),(.d (Zb b)),(.d (Zb c)),(.fn 118 [(.ptr 1 0)]),(.d (Zb s0.1)),(.d (Zb s1.1))] [(.arr 1 (List.map Zb s1.2)),(.cells [(.d (Zb m1_0)),(.d (Zb m1_1)),(.d (D.list t0 (List.map Z0 m1_2))),(.d (D.list t1 (List.map ZC m1_3))),(.d (D.list t2 (List.map Zp m1_4))),(.d (D.list t3 (List.map Zv m1_5)))])]=some ((Zbh t0 t1 t2 t3 b c m1_0 m1_1 m1_2 m1_3 m1_4 m1_5 s0) r):=by
 refine ZaU (Zbh t0 t1 t2 t3 b c m1_0 m1_1 m1_2 m1_3 m1_4 m1_5 s0) ?_
 intro s1 rcl ih
 show ZQ _ _ (lpW _ _ _ _ _ _ _)
 unfold ZW
 rw[ZaV]
 conv=>arg 3;whnf
 refine Ze rfl ?_ ?_<;>conv=>arg 3;whnf
 ·refine Zl rfl rfl fun x2 hx2=>?_;conv=>arg 3;whnf
  refine Zg (Zy rfl hx2) ?_;conv=>arg 3;whnf
  refine Zl rfl rfl fun x3 hx3=>?_;conv=>arg 3;whnf
  refine Zg (Zy rfl hx3) ?_;conv=>arg 3;whnf
  refine Zr _ ZE rfl fun x4 hx4=>?_;conv=>arg 3;whnf
  refine Ze rfl ?_ ?_<;>conv=>arg 3;whnf
  ·refine Zg (Zbm rfl hx3) ?_;conv=>arg 3;whnf
   refine Zg (Zy rfl hx3) ?_;conv=>arg 3;whnf
   refine Zg (Zbm rfl hx2) ?_;conv=>arg 3;whnf
   refine Zg (Zy rfl hx2) ?_;conv=>arg 3;whnf
   refine Zg (Zbm rfl hx2) ?_;conv=>arg 3;whnf
   refine Zg (Zy rfl hx2) ?_;conv=>arg 3;whnf
   refine Zo (ZaB Zb s1.2 s1.1.toNat x3) ?_;conv=>arg 3;whnf
   refine Zl rfl rfl fun x5 hx5=>?_;conv=>arg 3;whnf
   refine Zg (Zy rfl hx5) ?_;conv=>arg 3;whnf
   refine Zo (ZaB Zb (List.set s1.2 s1.1.toNat x3) (w64 (s1.1-1)).toNat x2) ?_;conv=>arg 3;whnf
   exact Zd (ih _)
  ·exact Zf rfl
 ·exact Zf rfl
def Zbj (t0:Bool) (t1:Bool) (t2:Bool) (t3:Bool) (b:Int) (c:Int) (m1_0:Int) (m1_1:Int) (m1_2:(List ZU)) (m1_3:(List Zn)) (m1_4:(List Zi)) (m1_5:(List Zs)):(List Int)→Ex×List V×Zm
  | r=>(.exit 0,[],[(.arr 1 (List.map Zb r)),(.cells [(.d (Zb m1_0)),(.d (Zb m1_1)),(.d (D.list t0 (List.map Z0 m1_2))),(.d (D.list t1 (List.map ZC m1_3))),(.d (D.list t2 (List.map Zp m1_4))),(.d (D.list t3 (List.map Zv m1_5)))])])
theorem ZcU {t0:Bool}{t1:Bool}{t2:Bool}{t3:Bool}{b:Int}{c:Int}{m1_0:Int}{m1_1:Int}{m1_2:(List ZU)}{m1_3:(List Zn)}{m1_4:(List Zi)}{m1_5:(List Zs)}:∀(s0:Int×(List Int)) (r:(List Int)),lp (Zai b c (fun z0 z1=>Zt z0 z1 m1_4)) s0=some r→lpW ctx 2 [0,1,2,3,8] [] ZsN [(.sl 0 1),(.d (Zb b)),(.d (Zb c)),(.fn 118 [(.ptr 1 0)]),(.d (Zb s0.1))] [(.arr 1 (List.map Zb s0.2)),(.cells [(.d (Zb m1_0)),(.d (Zb m1_1)),(.d (D.list t0 (List.map Z0 m1_2))),(.d (D.list t1 (List.map ZC m1_3))),(.d (D.list t2 (List.map Zp m1_4))),(.d (D.list t3 (List.map Zv m1_5)))])]=some ((Zbj t0 t1 t2 t3 b c m1_0 m1_1 m1_2 m1_3 m1_4 m1_5) r):=by
 refine ZaU (Zbj t0 t1 t2 t3 b c m1_0 m1_1 m1_2 m1_3 m1_4 m1_5) ?_
 intro s0 rcl ih
 show ZQ _ _ (lpW _ _ _ _ _ _ _)
 unfold Zai
 rw[ZaV]
 conv=>arg 3;whnf
 refine Ze rfl ?_ ?_<;>conv=>arg 3;whnf
 ·refine Zc _ (ZcT _) fun r6 hr6=>?_;conv=>arg 3;whnf
  exact Zd (ih _)
 ·exact Zf rfl
theorem Z8 {t0:Bool}{t1:Bool}{t2:Bool}{t3:Bool}{b:Int}{c:Int}{m0_0:(List Int)}{m1_0:Int}{m1_1:Int}{m1_2:(List ZU)}{m1_3:(List Zn)}{m1_4:(List Zi)}{m1_5:(List Zs)}:∀r,(ZV b c (fun z0 z1=>Zt z0 z1 m1_4) m0_0)=some r→evW ctx 126 [(.sl 0 1),(.d (Zb b)),(.d (Zb c)),(.fn 118 [(.ptr 1 0)])] [(.arr 1 (List.map Zb m0_0)),(.cells [(.d (Zb m1_0)),(.d (Zb m1_1)),(.d (D.list t0 (List.map Z0 m1_2))),(.d (D.list t1 (List.map ZC m1_3))),(.d (D.list t2 (List.map Zp m1_4))),(.d (D.list t3 (List.map Zv m1_5)))])]=some ((ZbD t0 t1 t2 t3 b c m0_0 m1_0 m1_1 m1_2 m1_3 m1_4 m1_5) r):=by
 show ZQ _ (fun r rhs=>rhs=some ((ZbD t0 t1 t2 t3 b c m0_0 m1_0 m1_1 m1_2 m1_3 m1_4 m1_5) r)) _
 unfold ZV
 rw[Ze4 ctx 126 ZvM _ _ rfl rfl]
 conv=>arg 3;whnf
 refine Zc _ (ZcU _) fun r7 hr7=>?_;conv=>arg 3;whnf
 exact Zf rfl
def Zca (t0:Bool) (t1:Bool) (t2:Bool) (t3:Bool) (b:Int) (c:Int) (d:Int) (m0_0:(List Int)) (m1_0:Int) (m1_1:Int) (m1_2:(List ZU)) (m1_3:(List Zn)) (m1_4:(List Zi)) (m1_5:(List Zs)):(List Int)→V×Zm
  | r=>((.d (D.tup [])),[(.arr 1 (List.map Zb r)),(.cells [(.d (Zb m1_0)),(.d (Zb m1_1)),(.d (D.list t0 (List.map Z0 m1_2))),(.d (D.list t1 (List.map ZC m1_3))),(.d (D.list t2 (List.map Zp m1_4))),(.d (D.list t3 (List.map Zv m1_5)))])])
def ZbQ (t0:Bool) (t1:Bool) (t2:Bool) (t3:Bool) (c:Int) (d:Int) (m1_0:Int) (m1_1:Int) (m1_2:(List ZU)) (m1_3:(List Zn)) (m1_4:(List Zi)) (m1_5:(List Zs)):((List Int)⊕(List Int))→Ex×List V×Zm
  | (.inl r)=>(.exit 0,[],[(.arr 1 (List.map Zb r)),(.cells [(.d (Zb m1_0)),(.d (Zb m1_1)),(.d (D.list t0 (List.map Z0 m1_2))),(.d (D.list t1 (List.map ZC m1_3))),(.d (D.list t2 (List.map Zp m1_4))),(.d (D.list t3 (List.map Zv m1_5)))])])
  | (.inr r)=>(.ret,[],[(.arr 1 (List.map Zb r)),(.cells [(.d (Zb m1_0)),(.d (Zb m1_1)),(.d (D.list t0 (List.map Z0 m1_2))),(.d (D.list t1 (List.map ZC m1_3))),(.d (D.list t2 (List.map Zp m1_4))),(.d (D.list t3 (List.map Zv m1_5)))])])
theorem Zdu {t0:Bool}{t1:Bool}{t2:Bool}{t3:Bool}{c:Int}{d:Int}{m1_0:Int}{m1_1:Int}{m1_2:(List ZU)}{m1_3:(List Zn)}{m1_4:(List Zi)}{m1_5:(List Zs)}:∀(s0:Int×(List Int)) (r:((List Int)⊕(List Int))),lp (ZH c d (fun z0 z1=>Zt z0 z1 m1_4)) s0=some r→lpW ctx 2 [0,2,3,4,10] [] Zti [(.sl 0 1),(.d (Zb c)),(.d (Zb d)),(.fn 118 [(.ptr 1 0)]),(.d (Zb s0.1))] [(.arr 1 (List.map Zb s0.2)),(.cells [(.d (Zb m1_0)),(.d (Zb m1_1)),(.d (D.list t0 (List.map Z0 m1_2))),(.d (D.list t1 (List.map ZC m1_3))),(.d (D.list t2 (List.map Zp m1_4))),(.d (D.list t3 (List.map Zv m1_5)))])]=some ((ZbQ t0 t1 t2 t3 c d m1_0 m1_1 m1_2 m1_3 m1_4 m1_5) r):=by
 refine ZaU (ZbQ t0 t1 t2 t3 c d m1_0 m1_1 m1_2 m1_3 m1_4 m1_5) ?_
 intro s0 rcl ih
 show ZQ _ _ (lpW _ _ _ _ _ _ _)
 unfold ZH
 rw[ZaV]
 conv=>arg 3;whnf
 refine Ze rfl ?_ ?_<;>conv=>arg 3;whnf
 ·exact Zf rfl
 ·refine Ze rfl ?_ ?_<;>conv=>arg 3;whnf
  ·refine Zl rfl rfl fun x1 hx1=>?_;conv=>arg 3;whnf
   refine Zg (Zy rfl hx1) ?_;conv=>arg 3;whnf
   refine Zl rfl rfl fun x2 hx2=>?_;conv=>arg 3;whnf
   refine Zg (Zy rfl hx2) ?_;conv=>arg 3;whnf
   refine Zr _ ZE rfl fun x3 hx3=>?_;conv=>arg 3;whnf
   refine Ze rfl ?_ ?_<;>conv=>arg 3;whnf
   ·refine Zl rfl rfl fun x4 hx4=>?_;conv=>arg 3;whnf
    refine Zg (Zy rfl hx4) ?_;conv=>arg 3;whnf
    refine Zl rfl rfl fun x5 hx5=>?_;conv=>arg 3;whnf
    refine Zg (Zy rfl hx5) ?_;conv=>arg 3;whnf
    refine Zr _ ZE rfl fun x6 hx6=>?_;conv=>arg 3;whnf
    refine Ze rfl ?_ ?_<;>conv=>arg 3;whnf
    ·refine Zg (Zbm rfl hx5) ?_;conv=>arg 3;whnf
     refine Zg (Zy rfl hx5) ?_;conv=>arg 3;whnf
     refine Zg (Zbm rfl hx4) ?_;conv=>arg 3;whnf
     refine Zg (Zy rfl hx4) ?_;conv=>arg 3;whnf
     refine Zg (Zbm rfl hx4) ?_;conv=>arg 3;whnf
     refine Zg (Zy rfl hx4) ?_;conv=>arg 3;whnf
     refine Zo (ZaB Zb s0.2 (w64 (d+s0.1)).toNat x5) ?_;conv=>arg 3;whnf
     refine Zl rfl rfl fun x7 hx7=>?_;conv=>arg 3;whnf
     refine Zg (Zy rfl hx7) ?_;conv=>arg 3;whnf
     refine Zo (ZaB Zb (List.set s0.2 (w64 (d+s0.1)).toNat x5) (w64 (d+(w64 ((w64 ((w64 (2*s0.1))+1))+1)))).toNat x4) ?_;conv=>arg 3;whnf
     exact Zd (ih _)
    ·exact Zf rfl
   ·refine Zl rfl rfl fun x8 hx8=>?_;conv=>arg 3;whnf
    refine Zg (Zy rfl hx8) ?_;conv=>arg 3;whnf
    refine Zg (Zbm rfl hx1) ?_;conv=>arg 3;whnf
    refine Zg (Zy rfl hx1) ?_;conv=>arg 3;whnf
    refine Zr _ ZE rfl fun x9 hx9=>?_;conv=>arg 3;whnf
    refine Ze rfl ?_ ?_<;>conv=>arg 3;whnf
    ·refine Zg (Zbm rfl hx1) ?_;conv=>arg 3;whnf
     refine Zg (Zy rfl hx1) ?_;conv=>arg 3;whnf
     refine Zg (Zbm rfl hx8) ?_;conv=>arg 3;whnf
     refine Zg (Zy rfl hx8) ?_;conv=>arg 3;whnf
     refine Zg (Zbm rfl hx8) ?_;conv=>arg 3;whnf
     refine Zg (Zy rfl hx8) ?_;conv=>arg 3;whnf
     refine Zo (ZaB Zb s0.2 (w64 (d+s0.1)).toNat x1) ?_;conv=>arg 3;whnf
     refine Zl rfl rfl fun x10 hx10=>?_;conv=>arg 3;whnf
     refine Zg (Zy rfl hx10) ?_;conv=>arg 3;whnf
     refine Zo (ZaB Zb (List.set s0.2 (w64 (d+s0.1)).toNat x1) (w64 (d+(w64 ((w64 (2*s0.1))+1)))).toNat x8) ?_;conv=>arg 3;whnf
     exact Zd (ih _)
    ·exact Zf rfl
  ·refine Zl rfl rfl fun x11 hx11=>?_;conv=>arg 3;whnf
   refine Zg (Zy rfl hx11) ?_;conv=>arg 3;whnf
   refine Zl rfl rfl fun x12 hx12=>?_;conv=>arg 3;whnf
   refine Zg (Zy rfl hx12) ?_;conv=>arg 3;whnf
   refine Zr _ ZE rfl fun x13 hx13=>?_;conv=>arg 3;whnf
   refine Ze rfl ?_ ?_<;>conv=>arg 3;whnf
   ·refine Zg (Zbm rfl hx12) ?_;conv=>arg 3;whnf
    refine Zg (Zy rfl hx12) ?_;conv=>arg 3;whnf
    refine Zg (Zbm rfl hx11) ?_;conv=>arg 3;whnf
    refine Zg (Zy rfl hx11) ?_;conv=>arg 3;whnf
    refine Zg (Zbm rfl hx11) ?_;conv=>arg 3;whnf
    refine Zg (Zy rfl hx11) ?_;conv=>arg 3;whnf
    refine Zo (ZaB Zb s0.2 (w64 (d+s0.1)).toNat x12) ?_;conv=>arg 3;whnf
    refine Zl rfl rfl fun x14 hx14=>?_;conv=>arg 3;whnf
    refine Zg (Zy rfl hx14) ?_;conv=>arg 3;whnf
    refine Zo (ZaB Zb (List.set s0.2 (w64 (d+s0.1)).toNat x12) (w64 (d+(w64 ((w64 (2*s0.1))+1)))).toNat x11) ?_;conv=>arg 3;whnf
    exact Zd (ih _)
   ·exact Zf rfl
theorem ZbX {t0:Bool}{t1:Bool}{t2:Bool}{t3:Bool}{b:Int}{c:Int}{d:Int}{m0_0:(List Int)}{m1_0:Int}{m1_1:Int}{m1_2:(List ZU)}{m1_3:(List Zn)}{m1_4:(List Zi)}{m1_5:(List Zs)}:∀r,(ZaA b c d (fun z0 z1=>Zt z0 z1 m1_4) m0_0)=some r→evW ctx 136 [(.sl 0 1),(.d (Zb b)),(.d (Zb c)),(.d (Zb d)),(.fn 118 [(.ptr 1 0)])] [(.arr 1 (List.map Zb m0_0)),(.cells [(.d (Zb m1_0)),(.d (Zb m1_1)),(.d (D.list t0 (List.map Z0 m1_2))),(.d (D.list t1 (List.map ZC m1_3))),(.d (D.list t2 (List.map Zp m1_4))),(.d (D.list t3 (List.map Zv m1_5)))])]=some ((Zca t0 t1 t2 t3 b c d m0_0 m1_0 m1_1 m1_2 m1_3 m1_4 m1_5) r):=by
 show ZQ _ (fun r rhs=>rhs=some ((Zca t0 t1 t2 t3 b c d m0_0 m1_0 m1_1 m1_2 m1_3 m1_4 m1_5) r)) _
 unfold ZaA
 rw[Ze4 ctx 136 ZvJ _ _ rfl rfl]
 conv=>arg 3;whnf
 refine Zc _ (Zdu _) fun r15 hr15=>?_
 clear hr15
 rcases r15 with r15 | r15
 ·conv=>arg 3;whnf
  exact Zf rfl
 ·conv=>arg 3;whnf
  exact Zf rfl
def Zb9 (t0:Bool) (t1:Bool) (t2:Bool) (t3:Bool) (b:Int) (c:Int) (m0_0:(List Int)) (m1_0:Int) (m1_1:Int) (m1_2:(List ZU)) (m1_3:(List Zn)) (m1_4:(List Zi)) (m1_5:(List Zs)):(List Int)→V×Zm
  | r=>((.d (D.tup [])),[(.arr 1 (List.map Zb r)),(.cells [(.d (Zb m1_0)),(.d (Zb m1_1)),(.d (D.list t0 (List.map Z0 m1_2))),(.d (D.list t1 (List.map ZC m1_3))),(.d (D.list t2 (List.map Zp m1_4))),(.d (D.list t3 (List.map Zv m1_5)))])])
def ZbM (t0:Bool) (t1:Bool) (t2:Bool) (t3:Bool) (b:Int) (c:Int) (m1_0:Int) (m1_1:Int) (m1_2:(List ZU)) (m1_3:(List Zn)) (m1_4:(List Zi)) (m1_5:(List Zs)):(List Int)→Ex×List V×Zm
  | r=>(.exit 0,[(.sl 0 1),(.fn 118 [(.ptr 1 0)]),(.d (Zb b)),(.d (Zb 0)),(.d (Zb (w64 (c-b))))],[(.arr 1 (List.map Zb r)),(.cells [(.d (Zb m1_0)),(.d (Zb m1_1)),(.d (D.list t0 (List.map Z0 m1_2))),(.d (D.list t1 (List.map ZC m1_3))),(.d (D.list t2 (List.map Zp m1_4))),(.d (D.list t3 (List.map Zv m1_5)))])])
theorem Zdy {t0:Bool}{t1:Bool}{t2:Bool}{t3:Bool}{b:Int}{c:Int}{m1_0:Int}{m1_1:Int}{m1_2:(List ZU)}{m1_3:(List Zn)}{m1_4:(List Zi)}{m1_5:(List Zs)}:∀(s0:Int×(List Int)) (r:(List Int)),lp (ZaE b c (fun z0 z1=>Zt z0 z1 m1_4)) s0=some r→lpW ctx 2 [0,3,8,9,10,11] [0,3,8,9,10] Zte [(.sl 0 1),(.fn 118 [(.ptr 1 0)]),(.d (Zb b)),(.d (Zb 0)),(.d (Zb (w64 (c-b)))),(.d (Zb s0.1))] [(.arr 1 (List.map Zb s0.2)),(.cells [(.d (Zb m1_0)),(.d (Zb m1_1)),(.d (D.list t0 (List.map Z0 m1_2))),(.d (D.list t1 (List.map ZC m1_3))),(.d (D.list t2 (List.map Zp m1_4))),(.d (D.list t3 (List.map Zv m1_5)))])]=some ((ZbM t0 t1 t2 t3 b c m1_0 m1_1 m1_2 m1_3 m1_4 m1_5) r):=by
 refine ZaU (ZbM t0 t1 t2 t3 b c m1_0 m1_1 m1_2 m1_3 m1_4 m1_5) ?_
 intro s0 rcl ih
 show ZQ _ _ (lpW _ _ _ _ _ _ _)
 unfold ZaE
 rw[ZaV]
 conv=>arg 3;whnf
 refine Ze rfl ?_ ?_<;>conv=>arg 3;whnf
 ·refine Zc _ ZbX fun x1 hx1=>?_;conv=>arg 3;whnf
  exact Zd (ih _)
 ·exact Zf rfl
def ZbN (t0:Bool) (t1:Bool) (t2:Bool) (t3:Bool) (b:Int) (m1_0:Int) (m1_1:Int) (m1_2:(List ZU)) (m1_3:(List Zn)) (m1_4:(List Zi)) (m1_5:(List Zs)):(List Int)→Ex×List V×Zm
  | r=>(.exit 2,[],[(.arr 1 (List.map Zb r)),(.cells [(.d (Zb m1_0)),(.d (Zb m1_1)),(.d (D.list t0 (List.map Z0 m1_2))),(.d (D.list t1 (List.map ZC m1_3))),(.d (D.list t2 (List.map Zp m1_4))),(.d (D.list t3 (List.map Zv m1_5)))])])
theorem Zdw {t0:Bool}{t1:Bool}{t2:Bool}{t3:Bool}{b:Int}{m1_0:Int}{m1_1:Int}{m1_2:(List ZU)}{m1_3:(List Zn)}{m1_4:(List Zi)}{m1_5:(List Zs)}:∀(s3:Int×(List Int)) (r:(List Int)),lp (ZaF b (fun z0 z1=>Zt z0 z1 m1_4)) s3=some r→lpW ctx 2 [0,3,8,9,12] [] ZsX [(.sl 0 1),(.fn 118 [(.ptr 1 0)]),(.d (Zb b)),(.d (Zb 0)),(.d (Zb s3.1))] [(.arr 1 (List.map Zb s3.2)),(.cells [(.d (Zb m1_0)),(.d (Zb m1_1)),(.d (D.list t0 (List.map Z0 m1_2))),(.d (D.list t1 (List.map ZC m1_3))),(.d (D.list t2 (List.map Zp m1_4))),(.d (D.list t3 (List.map Zv m1_5)))])]=some ((ZbN t0 t1 t2 t3 b m1_0 m1_1 m1_2 m1_3 m1_4 m1_5) r):=by
 refine ZaU (ZbN t0 t1 t2 t3 b m1_0 m1_1 m1_2 m1_3 m1_4 m1_5) ?_
 intro s3 rcl ih
 show ZQ _ _ (lpW _ _ _ _ _ _ _)
 unfold ZaF
 rw[ZaV]
 conv=>arg 3;whnf
 refine Ze rfl ?_ ?_<;>conv=>arg 3;whnf
 ·refine Zl rfl rfl fun x4 hx4=>?_;conv=>arg 3;whnf
  refine Zg (Zy rfl hx4) ?_;conv=>arg 3;whnf
  refine Zl rfl rfl fun x5 hx5=>?_;conv=>arg 3;whnf
  refine Zg (Zy rfl hx5) ?_;conv=>arg 3;whnf
  refine Zg (Zbm rfl hx5) ?_;conv=>arg 3;whnf
  refine Zg (Zy rfl hx5) ?_;conv=>arg 3;whnf
  refine Zo (ZaB Zb s3.2 b.toNat x4) ?_;conv=>arg 3;whnf
  refine Zl rfl rfl fun x6 hx6=>?_;conv=>arg 3;whnf
  refine Zg (Zy rfl hx6) ?_;conv=>arg 3;whnf
  refine Zo (ZaB Zb (List.set s3.2 b.toNat x4) (w64 (b+s3.1)).toNat x5) ?_;conv=>arg 3;whnf
  refine Zc _ ZbX fun x7 hx7=>?_;conv=>arg 3;whnf
  exact Zd (ih _)
 ·exact Zf rfl
theorem Zao {t0:Bool}{t1:Bool}{t2:Bool}{t3:Bool}{b:Int}{c:Int}{m0_0:(List Int)}{m1_0:Int}{m1_1:Int}{m1_2:(List ZU)}{m1_3:(List Zn)}{m1_4:(List Zi)}{m1_5:(List Zs)}:∀r,(Z5 b c (fun z0 z1=>Zt z0 z1 m1_4) m0_0)=some r→evW ctx 127 [(.sl 0 1),(.d (Zb b)),(.d (Zb c)),(.fn 118 [(.ptr 1 0)])] [(.arr 1 (List.map Zb m0_0)),(.cells [(.d (Zb m1_0)),(.d (Zb m1_1)),(.d (D.list t0 (List.map Z0 m1_2))),(.d (D.list t1 (List.map ZC m1_3))),(.d (D.list t2 (List.map Zp m1_4))),(.d (D.list t3 (List.map Zv m1_5)))])]=some ((Zb9 t0 t1 t2 t3 b c m0_0 m1_0 m1_1 m1_2 m1_3 m1_4 m1_5) r):=by
 show ZQ _ (fun r rhs=>rhs=some ((Zb9 t0 t1 t2 t3 b c m0_0 m1_0 m1_1 m1_2 m1_3 m1_4 m1_5) r)) _
 unfold Z5
 rw[Ze4 ctx 127 ZvQ _ _ rfl rfl]
 conv=>arg 3;whnf
 refine Zaj rfl ?_;conv=>arg 3;whnf
 refine Zc _ (Zdy _) fun r2 hr2=>?_;conv=>arg 3;whnf
 refine Zc _ (Zdw _) fun r8 hr8=>?_;conv=>arg 3;whnf
 exact Zf rfl
def Zck (t0:Bool) (t1:Bool) (t2:Bool) (t3:Bool) (b:Int) (c:Int) (m0_0:(List Int)) (m1_0:Int) (m2_0:Int) (m2_1:Int) (m2_2:(List ZU)) (m2_3:(List Zn)) (m2_4:(List Zi)) (m2_5:(List Zs)):(Int×Int×Int)→V×Zm
  | r=>((.d (D.tup [(Zb r.1),(Zb r.2.1)])),[(.arr 1 (List.map Zb m0_0)),(.cells [(.d (Zb r.2.2))]),(.cells [(.d (Zb m2_0)),(.d (Zb m2_1)),(.d (D.list t0 (List.map Z0 m2_2))),(.d (D.list t1 (List.map ZC m2_3))),(.d (D.list t2 (List.map Zp m2_4))),(.d (D.list t3 (List.map Zv m2_5)))])])
theorem Za5 {t0:Bool}{t1:Bool}{t2:Bool}{t3:Bool}{b:Int}{c:Int}{m0_0:(List Int)}{m1_0:Int}{m2_0:Int}{m2_1:Int}{m2_2:(List ZU)}{m2_3:(List Zn)}{m2_4:(List Zi)}{m2_5:(List Zs)}:∀r,(ZaL b c (fun z0 z1=>Zt z0 z1 m2_4) m0_0 m1_0)=some r→evW ctx 141 [(.sl 0 1),(.d (Zb b)),(.d (Zb c)),(.ptr 1 0),(.fn 118 [(.ptr 2 0)])] [(.arr 1 (List.map Zb m0_0)),(.cells [(.d (Zb m1_0))]),(.cells [(.d (Zb m2_0)),(.d (Zb m2_1)),(.d (D.list t0 (List.map Z0 m2_2))),(.d (D.list t1 (List.map ZC m2_3))),(.d (D.list t2 (List.map Zp m2_4))),(.d (D.list t3 (List.map Zv m2_5)))])]=some ((Zck t0 t1 t2 t3 b c m0_0 m1_0 m2_0 m2_1 m2_2 m2_3 m2_4 m2_5) r):=by
 show ZQ _ (fun r rhs=>rhs=some ((Zck t0 t1 t2 t3 b c m0_0 m1_0 m2_0 m2_1 m2_2 m2_3 m2_4 m2_5) r)) _
 unfold ZaL
 rw[Ze4 ctx 141 ZvE _ _ rfl rfl]
 conv=>arg 3;whnf
 refine Zl rfl rfl fun x0 hx0=>?_;conv=>arg 3;whnf
 refine Zg (Zy rfl hx0) ?_;conv=>arg 3;whnf
 refine Zl rfl rfl fun x1 hx1=>?_;conv=>arg 3;whnf
 refine Zg (Zy rfl hx1) ?_;conv=>arg 3;whnf
 refine Zr _ ZE rfl fun x2 hx2=>?_;conv=>arg 3;whnf
 refine Ze rfl ?_ ?_<;>conv=>arg 3;whnf
 ·exact Zf rfl
 ·exact Zf rfl
def Zcj (t0:Bool) (t1:Bool) (t2:Bool) (t3:Bool) (b:Int) (c:Int) (d:Int) (m0_0:(List Int)) (m1_0:Int) (m2_0:Int) (m2_1:Int) (m2_2:(List ZU)) (m2_3:(List Zn)) (m2_4:(List Zi)) (m2_5:(List Zs)):(Int×Int)→V×Zm
  | r=>((.d (Zb r.1)),[(.arr 1 (List.map Zb m0_0)),(.cells [(.d (Zb r.2))]),(.cells [(.d (Zb m2_0)),(.d (Zb m2_1)),(.d (D.list t0 (List.map Z0 m2_2))),(.d (D.list t1 (List.map ZC m2_3))),(.d (D.list t2 (List.map Zp m2_4))),(.d (D.list t3 (List.map Zv m2_5)))])])
theorem Za6 {t0:Bool}{t1:Bool}{t2:Bool}{t3:Bool}{b:Int}{c:Int}{d:Int}{m0_0:(List Int)}{m1_0:Int}{m2_0:Int}{m2_1:Int}{m2_2:(List ZU)}{m2_3:(List Zn)}{m2_4:(List Zi)}{m2_5:(List Zs)}:∀r,(ZaK b c d (fun z0 z1=>Zt z0 z1 m2_4) m0_0 m1_0)=some r→evW ctx 140 [(.sl 0 1),(.d (Zb b)),(.d (Zb c)),(.d (Zb d)),(.ptr 1 0),(.fn 118 [(.ptr 2 0)])] [(.arr 1 (List.map Zb m0_0)),(.cells [(.d (Zb m1_0))]),(.cells [(.d (Zb m2_0)),(.d (Zb m2_1)),(.d (D.list t0 (List.map Z0 m2_2))),(.d (D.list t1 (List.map ZC m2_3))),(.d (D.list t2 (List.map Zp m2_4))),(.d (D.list t3 (List.map Zv m2_5)))])]=some ((Zcj t0 t1 t2 t3 b c d m0_0 m1_0 m2_0 m2_1 m2_2 m2_3 m2_4 m2_5) r):=by
 show ZQ _ (fun r rhs=>rhs=some ((Zcj t0 t1 t2 t3 b c d m0_0 m1_0 m2_0 m2_1 m2_2 m2_3 m2_4 m2_5) r)) _
 unfold ZaK
 rw[Ze4 ctx 140 ZvT _ _ rfl rfl]
 conv=>arg 3;whnf
 refine Zc _ Za5 fun x0 hx0=>?_;conv=>arg 3;whnf
 refine Zc _ Za5 fun x1 hx1=>?_;conv=>arg 3;whnf
 refine Zc _ Za5 fun x2 hx2=>?_;conv=>arg 3;whnf
 exact Zf rfl
def Zbx (t0:Bool) (t1:Bool) (t2:Bool) (t3:Bool) (b:Int) (m0_0:(List Int)) (m1_0:Int) (m2_0:Int) (m2_1:Int) (m2_2:(List ZU)) (m2_3:(List Zn)) (m2_4:(List Zi)) (m2_5:(List Zs)):(Int×Int)→V×Zm
  | r=>((.d (Zb r.1)),[(.arr 1 (List.map Zb m0_0)),(.cells [(.d (Zb r.2))]),(.cells [(.d (Zb m2_0)),(.d (Zb m2_1)),(.d (D.list t0 (List.map Z0 m2_2))),(.d (D.list t1 (List.map ZC m2_3))),(.d (D.list t2 (List.map Zp m2_4))),(.d (D.list t3 (List.map Zv m2_5)))])])
theorem ZaC {t0:Bool}{t1:Bool}{t2:Bool}{t3:Bool}{b:Int}{m0_0:(List Int)}{m1_0:Int}{m2_0:Int}{m2_1:Int}{m2_2:(List ZU)}{m2_3:(List Zn)}{m2_4:(List Zi)}{m2_5:(List Zs)}:∀r,(Z6 b (fun z0 z1=>Zt z0 z1 m2_4) m0_0 m1_0)=some r→evW ctx 139 [(.sl 0 1),(.d (Zb b)),(.ptr 1 0),(.fn 118 [(.ptr 2 0)])] [(.arr 1 (List.map Zb m0_0)),(.cells [(.d (Zb m1_0))]),(.cells [(.d (Zb m2_0)),(.d (Zb m2_1)),(.d (D.list t0 (List.map Z0 m2_2))),(.d (D.list t1 (List.map ZC m2_3))),(.d (D.list t2 (List.map Zp m2_4))),(.d (D.list t3 (List.map Zv m2_5)))])]=some ((Zbx t0 t1 t2 t3 b m0_0 m1_0 m2_0 m2_1 m2_2 m2_3 m2_4 m2_5) r):=by
 show ZQ _ (fun r rhs=>rhs=some ((Zbx t0 t1 t2 t3 b m0_0 m1_0 m2_0 m2_1 m2_2 m2_3 m2_4 m2_5) r)) _
 unfold Z6
 rw[Ze4 ctx 139 Zvn _ _ rfl rfl]
 conv=>arg 3;whnf
 refine Zc _ Za6 fun x0 hx0=>?_;conv=>arg 3;whnf
 exact Zf rfl
def ZbO (t0:Bool) (t1:Bool) (t2:Bool) (t3:Bool) (b:Int) (c:Int) (m0_0:(List Int)) (m1_0:Int) (m1_1:Int) (m1_2:(List ZU)) (m1_3:(List Zn)) (m1_4:(List Zi)) (m1_5:(List Zs)):(Int×Int)→V×Zm
  | r=>((.d (D.tup [(Zb r.1),(Zb r.2)])),[(.arr 1 (List.map Zb m0_0)),(.cells [(.d (Zb m1_0)),(.d (Zb m1_1)),(.d (D.list t0 (List.map Z0 m1_2))),(.d (D.list t1 (List.map ZC m1_3))),(.d (D.list t2 (List.map Zp m1_4))),(.d (D.list t3 (List.map Zv m1_5)))])])
theorem Zaf {t0:Bool}{t1:Bool}{t2:Bool}{t3:Bool}{b:Int}{c:Int}{m0_0:(List Int)}{m1_0:Int}{m1_1:Int}{m1_2:(List ZU)}{m1_3:(List Zn)}{m1_4:(List Zi)}{m1_5:(List Zs)}:∀r,(ZM b c (fun z0 z1=>Zt z0 z1 m1_4) m0_0)=some r→evW ctx 129 [(.sl 0 1),(.d (Zb b)),(.d (Zb c)),(.fn 118 [(.ptr 1 0)])] [(.arr 1 (List.map Zb m0_0)),(.cells [(.d (Zb m1_0)),(.d (Zb m1_1)),(.d (D.list t0 (List.map Z0 m1_2))),(.d (D.list t1 (List.map ZC m1_3))),(.d (D.list t2 (List.map Zp m1_4))),(.d (D.list t3 (List.map Zv m1_5)))])]=some ((ZbO t0 t1 t2 t3 b c m0_0 m1_0 m1_1 m1_2 m1_3 m1_4 m1_5) r):=by
 show ZQ _ (fun r rhs=>rhs=some ((ZbO t0 t1 t2 t3 b c m0_0 m1_0 m1_1 m1_2 m1_3 m1_4 m1_5) r)) _
 unfold ZM
 rw[Ze4 ctx 129 Zv6 _ _ rfl rfl]
 conv=>arg 3;whnf
 refine Zaj rfl ?_;conv=>arg 3;whnf
 refine Zaj rfl ?_;conv=>arg 3;whnf
 refine Zaj rfl ?_;conv=>arg 3;whnf
 refine Ze rfl ?_ ?_<;>conv=>arg 3;whnf
 ·refine Ze rfl ?_ ?_<;>conv=>arg 3;whnf
  ·refine Zc _ ZaC fun x0 hx0=>?_;conv=>arg 3;whnf
   refine Zc _ ZaC fun x1 hx1=>?_;conv=>arg 3;whnf
   refine Zc _ ZaC fun x2 hx2=>?_;conv=>arg 3;whnf
   refine Zc _ Za6 fun x3 hx3=>?_;conv=>arg 3;whnf
   refine Ze rfl ?_ ?_<;>conv=>arg 3;whnf
   ·exact Zf rfl
   ·refine Ze rfl ?_ ?_<;>conv=>arg 3;whnf
    ·exact Zf rfl
    ·exact Zf rfl
  ·refine Zc _ Za6 fun x4 hx4=>?_;conv=>arg 3;whnf
   refine Ze rfl ?_ ?_<;>conv=>arg 3;whnf
   ·exact Zf rfl
   ·refine Ze rfl ?_ ?_<;>conv=>arg 3;whnf
    ·exact Zf rfl
    ·exact Zf rfl
 ·refine ZbP rfl ?_;conv=>arg 3;whnf
  exact Zf rfl
def ZbE (t0:Bool) (t1:Bool) (t2:Bool) (t3:Bool) (b:Int) (c:Int) (m0_0:(List Int)) (m1_0:Int) (m1_1:Int) (m1_2:(List ZU)) (m1_3:(List Zn)) (m1_4:(List Zi)) (m1_5:(List Zs)):(List Int)→V×Zm
  | r=>((.d (D.tup [])),[(.arr 1 (List.map Zb r)),(.cells [(.d (Zb m1_0)),(.d (Zb m1_1)),(.d (D.list t0 (List.map Z0 m1_2))),(.d (D.list t1 (List.map ZC m1_3))),(.d (D.list t2 (List.map Zp m1_4))),(.d (D.list t3 (List.map Zv m1_5)))])])
def Zbr (t0:Bool) (t1:Bool) (t2:Bool) (t3:Bool) (m1_0:Int) (m1_1:Int) (m1_2:(List ZU)) (m1_3:(List Zn)) (m1_4:(List Zi)) (m1_5:(List Zs)):(List Int)→Ex×List V×Zm
  | r=>(.exit 0,[],[(.arr 1 (List.map Zb r)),(.cells [(.d (Zb m1_0)),(.d (Zb m1_1)),(.d (D.list t0 (List.map Z0 m1_2))),(.d (D.list t1 (List.map ZC m1_3))),(.d (D.list t2 (List.map Zp m1_4))),(.d (D.list t3 (List.map Zv m1_5)))])])
theorem Zc0 {t0:Bool}{t1:Bool}{t2:Bool}{t3:Bool}{m1_0:Int}{m1_1:Int}{m1_2:(List ZU)}{m1_3:(List Zn)}{m1_4:(List Zi)}{m1_5:(List Zs)}:∀(s0:Int×Int×(List Int)) (r:(List Int)),lp (Z3) s0=some r→lpW ctx 2 [0,8,9] [] ZsI [(.sl 0 1),(.d (Zb s0.1)),(.d (Zb s0.2.1))] [(.arr 1 (List.map Zb s0.2.2)),(.cells [(.d (Zb m1_0)),(.d (Zb m1_1)),(.d (D.list t0 (List.map Z0 m1_2))),(.d (D.list t1 (List.map ZC m1_3))),(.d (D.list t2 (List.map Zp m1_4))),(.d (D.list t3 (List.map Zv m1_5)))])]=some ((Zbr t0 t1 t2 t3 m1_0 m1_1 m1_2 m1_3 m1_4 m1_5) r):=by
 refine ZaU (Zbr t0 t1 t2 t3 m1_0 m1_1 m1_2 m1_3 m1_4 m1_5) ?_
 intro s0 rcl ih
 show ZQ _ _ (lpW _ _ _ _ _ _ _)
 unfold Z3
 rw[ZaV]
 conv=>arg 3;whnf
 refine Ze rfl ?_ ?_<;>conv=>arg 3;whnf
 ·refine Zl rfl rfl fun x1 hx1=>?_;conv=>arg 3;whnf
  refine Zg (Zy rfl hx1) ?_;conv=>arg 3;whnf
  refine Zl rfl rfl fun x2 hx2=>?_;conv=>arg 3;whnf
  refine Zg (Zy rfl hx2) ?_;conv=>arg 3;whnf
  refine Zg (Zbm rfl hx2) ?_;conv=>arg 3;whnf
  refine Zg (Zy rfl hx2) ?_;conv=>arg 3;whnf
  refine Zo (ZaB Zb s0.2.2 s0.1.toNat x1) ?_;conv=>arg 3;whnf
  refine Zl rfl rfl fun x3 hx3=>?_;conv=>arg 3;whnf
  refine Zg (Zy rfl hx3) ?_;conv=>arg 3;whnf
  refine Zo (ZaB Zb (List.set s0.2.2 s0.1.toNat x1) s0.2.1.toNat x2) ?_;conv=>arg 3;whnf
  exact Zd (ih _)
 ·exact Zf rfl
theorem Zae {t0:Bool}{t1:Bool}{t2:Bool}{t3:Bool}{b:Int}{c:Int}{m0_0:(List Int)}{m1_0:Int}{m1_1:Int}{m1_2:(List ZU)}{m1_3:(List Zn)}{m1_4:(List Zi)}{m1_5:(List Zs)}:∀r,(ZK b c (fun z0 z1=>Zt z0 z1 m1_4) m0_0)=some r→evW ctx 130 [(.sl 0 1),(.d (Zb b)),(.d (Zb c)),(.fn 118 [(.ptr 1 0)])] [(.arr 1 (List.map Zb m0_0)),(.cells [(.d (Zb m1_0)),(.d (Zb m1_1)),(.d (D.list t0 (List.map Z0 m1_2))),(.d (D.list t1 (List.map ZC m1_3))),(.d (D.list t2 (List.map Zp m1_4))),(.d (D.list t3 (List.map Zv m1_5)))])]=some ((ZbE t0 t1 t2 t3 b c m0_0 m1_0 m1_1 m1_2 m1_3 m1_4 m1_5) r):=by
 show ZQ _ (fun r rhs=>rhs=some ((ZbE t0 t1 t2 t3 b c m0_0 m1_0 m1_1 m1_2 m1_3 m1_4 m1_5) r)) _
 unfold ZK
 rw[Ze4 ctx 130 ZvF _ _ rfl rfl]
 conv=>arg 3;whnf
 refine Zc _ (Zc0 _) fun r4 hr4=>?_;conv=>arg 3;whnf
 exact Zf rfl
def Za8 (t0:Bool) (t1:Bool) (t2:Bool) (t3:Bool) (b:Int) (c:Int) (m0_0:(List Int)) (m1_0:Int) (m1_1:Int) (m1_2:(List ZU)) (m1_3:(List Zn)) (m1_4:(List Zi)) (m1_5:(List Zs)):((List Int)⊕(List Int))→V×Zm
  | (.inl r)=>((.d (D.bool true)),[(.arr 1 (List.map Zb r)),(.cells [(.d (Zb m1_0)),(.d (Zb m1_1)),(.d (D.list t0 (List.map Z0 m1_2))),(.d (D.list t1 (List.map ZC m1_3))),(.d (D.list t2 (List.map Zp m1_4))),(.d (D.list t3 (List.map Zv m1_5)))])])
  | (.inr r)=>((.d (D.bool false)),[(.arr 1 (List.map Zb r)),(.cells [(.d (Zb m1_0)),(.d (Zb m1_1)),(.d (D.list t0 (List.map Z0 m1_2))),(.d (D.list t1 (List.map ZC m1_3))),(.d (D.list t2 (List.map Zp m1_4))),(.d (D.list t3 (List.map Zv m1_5)))])])
def Za3 (t0:Bool) (t1:Bool) (t2:Bool) (t3:Bool) (b:Int) (c:Int) (m1_0:Int) (m1_1:Int) (m1_2:(List ZU)) (m1_3:(List Zn)) (m1_4:(List Zi)) (m1_5:(List Zs)) (s0:Int×Int×(List Int)):Int→Ex×List V×Zm
  | r=>(.exit 2,[(.sl 0 1),(.d (Zb b)),(.d (Zb c)),(.fn 118 [(.ptr 1 0)]),(.d (Zb r)),(.d (Zb s0.2.1))],[(.arr 1 (List.map Zb s0.2.2)),(.cells [(.d (Zb m1_0)),(.d (Zb m1_1)),(.d (D.list t0 (List.map Z0 m1_2))),(.d (D.list t1 (List.map ZC m1_3))),(.d (D.list t2 (List.map Zp m1_4))),(.d (D.list t3 (List.map Zv m1_5)))])])
theorem Zcp {t0:Bool}{t1:Bool}{t2:Bool}{t3:Bool}{b:Int}{c:Int}{m1_0:Int}{m1_1:Int}{m1_2:(List ZU)}{m1_3:(List Zn)}{m1_4:(List Zi)}{m1_5:(List Zs)}{s0:Int×Int×(List Int)}:∀(s1:Int) (r:Int),lp (ZJ c (fun z0 z1=>Zt z0 z1 m1_4) s0) s1=some r→lpW ctx 2 [0,1,2,3,9,10] [0,1,2,3,9,10] ZsW [(.sl 0 1),(.d (Zb b)),(.d (Zb c)),(.fn 118 [(.ptr 1 0)]),(.d (Zb s1)),(.d (Zb s0.2.1))] [(.arr 1 (List.map Zb s0.2.2)),(.cells [(.d (Zb m1_0)),(.d (Zb m1_1)),(.d (D.list t0 (List.map Z0 m1_2))),(.d (D.list t1 (List.map ZC m1_3))),(.d (D.list t2 (List.map Zp m1_4))),(.d (D.list t3 (List.map Zv m1_5)))])]=some ((Za3 t0 t1 t2 t3 b c m1_0 m1_1 m1_2 m1_3 m1_4 m1_5 s0) r):=by
 refine ZaU (Za3 t0 t1 t2 t3 b c m1_0 m1_1 m1_2 m1_3 m1_4 m1_5 s0) ?_
 intro s1 rcl ih
 show ZQ _ _ (lpW _ _ _ _ _ _ _)
 unfold ZJ
 rw[ZaV]
 conv=>arg 3;whnf
 refine Ze rfl ?_ ?_<;>conv=>arg 3;whnf
 ·refine Zl rfl rfl fun x2 hx2=>?_;conv=>arg 3;whnf
  refine Zg (Zy rfl hx2) ?_;conv=>arg 3;whnf
  refine Zl rfl rfl fun x3 hx3=>?_;conv=>arg 3;whnf
  refine Zg (Zy rfl hx3) ?_;conv=>arg 3;whnf
  refine Zr _ ZE rfl fun x4 hx4=>?_;conv=>arg 3;whnf
  refine Ze rfl ?_ ?_<;>conv=>arg 3;whnf
  ·exact Zf rfl
  ·exact Zd (ih _)
 ·exact Zf rfl
def ZaZ (t0:Bool) (t1:Bool) (t2:Bool) (t3:Bool) (b:Int) (c:Int) (m1_0:Int) (m1_1:Int) (m1_2:(List ZU)) (m1_3:(List Zn)) (m1_4:(List Zi)) (m1_5:(List Zs)) (s0:Int×Int×(List Int)) (r5:Int):(List Int)→Ex×List V×Zm
  | r=>(.exit 4,[(.sl 0 1),(.d (Zb b)),(.d (Zb c)),(.fn 118 [(.ptr 1 0)]),(.d (Zb r5)),(.d (Zb s0.2.1))],[(.arr 1 (List.map Zb r)),(.cells [(.d (Zb m1_0)),(.d (Zb m1_1)),(.d (D.list t0 (List.map Z0 m1_2))),(.d (D.list t1 (List.map ZC m1_3))),(.d (D.list t2 (List.map Zp m1_4))),(.d (D.list t3 (List.map Zv m1_5)))])])
theorem Zco {t0:Bool}{t1:Bool}{t2:Bool}{t3:Bool}{b:Int}{c:Int}{m1_0:Int}{m1_1:Int}{m1_2:(List ZU)}{m1_3:(List Zn)}{m1_4:(List Zi)}{m1_5:(List Zs)}{s0:Int×Int×(List Int)}{r5:Int}:∀(s9:Int×(List Int)) (r:(List Int)),lp (ZS (fun z0 z1=>Zt z0 z1 m1_4)) s9=some r→lpW ctx 2 [0,1,2,3,9,10,11] [0,1,2,3,9,10] Ztt [(.sl 0 1),(.d (Zb b)),(.d (Zb c)),(.fn 118 [(.ptr 1 0)]),(.d (Zb r5)),(.d (Zb s0.2.1)),(.d (Zb s9.1))] [(.arr 1 (List.map Zb s9.2)),(.cells [(.d (Zb m1_0)),(.d (Zb m1_1)),(.d (D.list t0 (List.map Z0 m1_2))),(.d (D.list t1 (List.map ZC m1_3))),(.d (D.list t2 (List.map Zp m1_4))),(.d (D.list t3 (List.map Zv m1_5)))])]=some ((ZaZ t0 t1 t2 t3 b c m1_0 m1_1 m1_2 m1_3 m1_4 m1_5 s0 r5) r):=by
 refine ZaU (ZaZ t0 t1 t2 t3 b c m1_0 m1_1 m1_2 m1_3 m1_4 m1_5 s0 r5) ?_
 intro s9 rcl ih
 show ZQ _ _ (lpW _ _ _ _ _ _ _)
 unfold ZS
 rw[ZaV]
 conv=>arg 3;whnf
 refine Ze rfl ?_ ?_<;>conv=>arg 3;whnf
 ·refine Zl rfl rfl fun x10 hx10=>?_;conv=>arg 3;whnf
  refine Zg (Zy rfl hx10) ?_;conv=>arg 3;whnf
  refine Zl rfl rfl fun x11 hx11=>?_;conv=>arg 3;whnf
  refine Zg (Zy rfl hx11) ?_;conv=>arg 3;whnf
  refine Zr _ ZE rfl fun x12 hx12=>?_;conv=>arg 3;whnf
  refine Ze rfl ?_ ?_<;>conv=>arg 3;whnf
  ·refine Zg (Zbm rfl hx11) ?_;conv=>arg 3;whnf
   refine Zg (Zy rfl hx11) ?_;conv=>arg 3;whnf
   refine Zg (Zbm rfl hx10) ?_;conv=>arg 3;whnf
   refine Zg (Zy rfl hx10) ?_;conv=>arg 3;whnf
   refine Zg (Zbm rfl hx10) ?_;conv=>arg 3;whnf
   refine Zg (Zy rfl hx10) ?_;conv=>arg 3;whnf
   refine Zo (ZaB Zb s9.2 s9.1.toNat x11) ?_;conv=>arg 3;whnf
   refine Zl rfl rfl fun x13 hx13=>?_;conv=>arg 3;whnf
   refine Zg (Zy rfl hx13) ?_;conv=>arg 3;whnf
   refine Zo (ZaB Zb (List.set s9.2 s9.1.toNat x11) (w64 (s9.1-1)).toNat x10) ?_;conv=>arg 3;whnf
   exact Zd (ih _)
  ·exact Zf rfl
 ·exact Zf rfl
def Za1 (t0:Bool) (t1:Bool) (t2:Bool) (t3:Bool) (b:Int) (c:Int) (m1_0:Int) (m1_1:Int) (m1_2:(List ZU)) (m1_3:(List Zn)) (m1_4:(List Zi)) (m1_5:(List Zs)) (s0:Int×Int×(List Int)) (r5:Int):(List Int)→Ex×List V×Zm
  | r=>(.exit 6,[(.sl 0 1),(.d (Zb b)),(.d (Zb c)),(.fn 118 [(.ptr 1 0)]),(.d (Zb r5)),(.d (Zb s0.2.1))],[(.arr 1 (List.map Zb r)),(.cells [(.d (Zb m1_0)),(.d (Zb m1_1)),(.d (D.list t0 (List.map Z0 m1_2))),(.d (D.list t1 (List.map ZC m1_3))),(.d (D.list t2 (List.map Zp m1_4))),(.d (D.list t3 (List.map Zv m1_5)))])])
theorem ZaX {t0:Bool}{t1:Bool}{t2:Bool}{t3:Bool}{b:Int}{c:Int}{m1_0:Int}{m1_1:Int}{m1_2:(List ZU)}{m1_3:(List Zn)}{m1_4:(List Zi)}{m1_5:(List Zs)}{s0:Int×Int×(List Int)}{r5:Int}:∀(s15:Int×(List Int)) (r:(List Int)),lp (ZF c (fun z0 z1=>Zt z0 z1 m1_4)) s15=some r→lpW ctx 2 [0,1,2,3,9,10,12] [0,1,2,3,9,10] ZsE [(.sl 0 1),(.d (Zb b)),(.d (Zb c)),(.fn 118 [(.ptr 1 0)]),(.d (Zb r5)),(.d (Zb s0.2.1)),(.d (Zb s15.1))] [(.arr 1 (List.map Zb s15.2)),(.cells [(.d (Zb m1_0)),(.d (Zb m1_1)),(.d (D.list t0 (List.map Z0 m1_2))),(.d (D.list t1 (List.map ZC m1_3))),(.d (D.list t2 (List.map Zp m1_4))),(.d (D.list t3 (List.map Zv m1_5)))])]=some ((Za1 t0 t1 t2 t3 b c m1_0 m1_1 m1_2 m1_3 m1_4 m1_5 s0 r5) r):=by
 refine ZaU (Za1 t0 t1 t2 t3 b c m1_0 m1_1 m1_2 m1_3 m1_4 m1_5 s0 r5) ?_
 intro s15 rcl ih
 show ZQ _ _ (lpW _ _ _ _ _ _ _)
 unfold ZF
 rw[ZaV]
 conv=>arg 3;whnf
 refine Ze rfl ?_ ?_<;>conv=>arg 3;whnf
 ·refine Zl rfl rfl fun x16 hx16=>?_;conv=>arg 3;whnf
  refine Zg (Zy rfl hx16) ?_;conv=>arg 3;whnf
  refine Zl rfl rfl fun x17 hx17=>?_;conv=>arg 3;whnf
  refine Zg (Zy rfl hx17) ?_;conv=>arg 3;whnf
  refine Zr _ ZE rfl fun x18 hx18=>?_;conv=>arg 3;whnf
  refine Ze rfl ?_ ?_<;>conv=>arg 3;whnf
  ·refine Zg (Zbm rfl hx17) ?_;conv=>arg 3;whnf
   refine Zg (Zy rfl hx17) ?_;conv=>arg 3;whnf
   refine Zg (Zbm rfl hx16) ?_;conv=>arg 3;whnf
   refine Zg (Zy rfl hx16) ?_;conv=>arg 3;whnf
   refine Zg (Zbm rfl hx16) ?_;conv=>arg 3;whnf
   refine Zg (Zy rfl hx16) ?_;conv=>arg 3;whnf
   refine Zo (ZaB Zb s15.2 s15.1.toNat x17) ?_;conv=>arg 3;whnf
   refine Zl rfl rfl fun x19 hx19=>?_;conv=>arg 3;whnf
   refine Zg (Zy rfl hx19) ?_;conv=>arg 3;whnf
   refine Zo (ZaB Zb (List.set s15.2 s15.1.toNat x17) (w64 (s15.1-1)).toNat x16) ?_;conv=>arg 3;whnf
   exact Zd (ih _)
  ·exact Zf rfl
 ·exact Zf rfl
def Za2 (t0:Bool) (t1:Bool) (t2:Bool) (t3:Bool) (b:Int) (c:Int) (m1_0:Int) (m1_1:Int) (m1_2:(List ZU)) (m1_3:(List Zn)) (m1_4:(List Zi)) (m1_5:(List Zs)):((List Int)⊕((List Int)⊕(List Int)))→Ex×List V×Zm
  | (.inl r)=>(.ret,[(.d (D.bool true))],[(.arr 1 (List.map Zb r)),(.cells [(.d (Zb m1_0)),(.d (Zb m1_1)),(.d (D.list t0 (List.map Z0 m1_2))),(.d (D.list t1 (List.map ZC m1_3))),(.d (D.list t2 (List.map Zp m1_4))),(.d (D.list t3 (List.map Zv m1_5)))])])
  | (.inr (.inl r))=>(.ret,[(.d (D.bool false))],[(.arr 1 (List.map Zb r)),(.cells [(.d (Zb m1_0)),(.d (Zb m1_1)),(.d (D.list t0 (List.map Z0 m1_2))),(.d (D.list t1 (List.map ZC m1_3))),(.d (D.list t2 (List.map Zp m1_4))),(.d (D.list t3 (List.map Zv m1_5)))])])
  | (.inr (.inr r))=>(.exit 0,[.bad],[(.arr 1 (List.map Zb r)),(.cells [(.d (Zb m1_0)),(.d (Zb m1_1)),(.d (D.list t0 (List.map Z0 m1_2))),(.d (D.list t1 (List.map ZC m1_3))),(.d (D.list t2 (List.map Zp m1_4))),(.d (D.list t3 (List.map Zv m1_5)))])])
theorem Zcs {t0:Bool}{t1:Bool}{t2:Bool}{t3:Bool}{b:Int}{c:Int}{m1_0:Int}{m1_1:Int}{m1_2:(List ZU)}{m1_3:(List Zn)}{m1_4:(List Zi)}{m1_5:(List Zs)}:∀(s0:Int×Int×(List Int)) (r:((List Int)⊕((List Int)⊕(List Int)))),lp (ZR b c (fun z0 z1=>Zt z0 z1 m1_4)) s0=some r→lpW ctx 2 [0,1,2,3,9,10] [8] Zs8 [(.sl 0 1),(.d (Zb b)),(.d (Zb c)),(.fn 118 [(.ptr 1 0)]),(.d (Zb s0.1)),(.d (Zb s0.2.1))] [(.arr 1 (List.map Zb s0.2.2)),(.cells [(.d (Zb m1_0)),(.d (Zb m1_1)),(.d (D.list t0 (List.map Z0 m1_2))),(.d (D.list t1 (List.map ZC m1_3))),(.d (D.list t2 (List.map Zp m1_4))),(.d (D.list t3 (List.map Zv m1_5)))])]=some ((Za2 t0 t1 t2 t3 b c m1_0 m1_1 m1_2 m1_3 m1_4 m1_5) r):=by
 refine ZaU (Za2 t0 t1 t2 t3 b c m1_0 m1_1 m1_2 m1_3 m1_4 m1_5) ?_
 intro s0 rcl ih
 show ZQ _ _ (lpW _ _ _ _ _ _ _)
 unfold ZR
 rw[ZaV]
 conv=>arg 3;whnf
 refine Ze rfl ?_ ?_<;>conv=>arg 3;whnf
 ·refine Zc _ (Zcp _) fun r5 hr5=>?_;conv=>arg 3;whnf
  refine Ze rfl ?_ ?_<;>conv=>arg 3;whnf
  ·exact Zf rfl
  ·refine Ze rfl ?_ ?_<;>conv=>arg 3;whnf
   ·exact Zf rfl
   ·refine Zl rfl rfl fun x6 hx6=>?_;conv=>arg 3;whnf
    refine Zg (Zy rfl hx6) ?_;conv=>arg 3;whnf
    refine Zl rfl rfl fun x7 hx7=>?_;conv=>arg 3;whnf
    refine Zg (Zy rfl hx7) ?_;conv=>arg 3;whnf
    refine Zg (Zbm rfl hx7) ?_;conv=>arg 3;whnf
    refine Zg (Zy rfl hx7) ?_;conv=>arg 3;whnf
    refine Zo (ZaB Zb s0.2.2 r5.toNat x6) ?_;conv=>arg 3;whnf
    refine Zl rfl rfl fun x8 hx8=>?_;conv=>arg 3;whnf
    refine Zg (Zy rfl hx8) ?_;conv=>arg 3;whnf
    refine Zo (ZaB Zb (List.set s0.2.2 r5.toNat x6) (w64 (r5-1)).toNat x7) ?_;conv=>arg 3;whnf
    refine Ze rfl ?_ ?_<;>conv=>arg 3;whnf
    ·refine Zc _ (Zco _) fun r14 hr14=>?_;conv=>arg 3;whnf
     refine Ze rfl ?_ ?_<;>conv=>arg 3;whnf
     ·refine Zc _ (ZaX _) fun r20 hr20=>?_;conv=>arg 3;whnf
      exact Zd (ih _)
     ·exact Zd (ih _)
    ·refine Ze rfl ?_ ?_<;>conv=>arg 3;whnf
     ·refine Zc _ (ZaX _) fun r26 hr26=>?_;conv=>arg 3;whnf
      exact Zd (ih _)
     ·exact Zd (ih _)
 ·exact Zf rfl
theorem Za7 {t0:Bool}{t1:Bool}{t2:Bool}{t3:Bool}{b:Int}{c:Int}{m0_0:(List Int)}{m1_0:Int}{m1_1:Int}{m1_2:(List ZU)}{m1_3:(List Zn)}{m1_4:(List Zi)}{m1_5:(List Zs)}:∀r,(ZO b c (fun z0 z1=>Zt z0 z1 m1_4) m0_0)=some r→evW ctx 131 [(.sl 0 1),(.d (Zb b)),(.d (Zb c)),(.fn 118 [(.ptr 1 0)])] [(.arr 1 (List.map Zb m0_0)),(.cells [(.d (Zb m1_0)),(.d (Zb m1_1)),(.d (D.list t0 (List.map Z0 m1_2))),(.d (D.list t1 (List.map ZC m1_3))),(.d (D.list t2 (List.map Zp m1_4))),(.d (D.list t3 (List.map Zv m1_5)))])]=some ((Za8 t0 t1 t2 t3 b c m0_0 m1_0 m1_1 m1_2 m1_3 m1_4 m1_5) r):=by
 show ZQ _ (fun r rhs=>rhs=some ((Za8 t0 t1 t2 t3 b c m0_0 m1_0 m1_1 m1_2 m1_3 m1_4 m1_5) r)) _
 unfold ZO
 rw[Ze4 ctx 131 Zwq _ _ rfl rfl]
 conv=>arg 3;whnf
 refine Zc _ (Zcs _) fun r27 hr27=>?_
 clear hr27
 rcases r27 with r27 | (r27 | r27)
 ·conv=>arg 3;whnf
  exact Zf rfl
 ·conv=>arg 3;whnf
  exact Zf rfl
 ·conv=>arg 3;whnf
  exact Zf rfl
def Zb0 (t0:Bool) (t1:Bool) (t2:Bool) (t3:Bool) (b:Int) (c:Int) (d:Int) (m0_0:(List Int)) (m1_0:Int) (m1_1:Int) (m1_2:(List ZU)) (m1_3:(List Zn)) (m1_4:(List Zi)) (m1_5:(List Zs)):((Int×(List Int))⊕(Int×(List Int)))→V×Zm
  | (.inl r)=>((.d (D.tup [(Zb r.1),(D.bool true)])),[(.arr 1 (List.map Zb r.2)),(.cells [(.d (Zb m1_0)),(.d (Zb m1_1)),(.d (D.list t0 (List.map Z0 m1_2))),(.d (D.list t1 (List.map ZC m1_3))),(.d (D.list t2 (List.map Zp m1_4))),(.d (D.list t3 (List.map Zv m1_5)))])])
  | (.inr r)=>((.d (D.tup [(Zb r.1),(D.bool false)])),[(.arr 1 (List.map Zb r.2)),(.cells [(.d (Zb m1_0)),(.d (Zb m1_1)),(.d (D.list t0 (List.map Z0 m1_2))),(.d (D.list t1 (List.map ZC m1_3))),(.d (D.list t2 (List.map Zp m1_4))),(.d (D.list t3 (List.map Zv m1_5)))])])
def ZbK (t0:Bool) (t1:Bool) (t2:Bool) (t3:Bool) (b:Int) (c:Int) (d:Int) (m0_0:(List Int)) (m1_0:Int) (m1_1:Int) (m1_2:(List ZU)) (m1_3:(List Zn)) (m1_4:(List Zi)) (m1_5:(List Zs)) (x0:Int) (x1:Int):Int→Ex×List V×Zm
  | r=>(.exit 0,[(.sl 0 1),(.d (Zb b)),(.fn 118 [(.ptr 1 0)]),(.d (Zb r)),(.d (Zb (w64 (c-1))))],[(.arr 1 (List.map Zb (List.set (List.set m0_0 b.toNat x0) d.toNat x1))),(.cells [(.d (Zb m1_0)),(.d (Zb m1_1)),(.d (D.list t0 (List.map Z0 m1_2))),(.d (D.list t1 (List.map ZC m1_3))),(.d (D.list t2 (List.map Zp m1_4))),(.d (D.list t3 (List.map Zv m1_5)))])])
theorem Zdo {t0:Bool}{t1:Bool}{t2:Bool}{t3:Bool}{b:Int}{c:Int}{d:Int}{m0_0:(List Int)}{m1_0:Int}{m1_1:Int}{m1_2:(List ZU)}{m1_3:(List Zn)}{m1_4:(List Zi)}{m1_5:(List Zs)}{x0:Int}{x1:Int}:∀(s3:Int) (r:Int),lp (Zaw b c d m0_0 (fun z0 z1=>Zt z0 z1 m1_4) x0 x1) s3=some r→lpW ctx 2 [0,1,4,12,13] [0,1,4,12,13] Ztg [(.sl 0 1),(.d (Zb b)),(.fn 118 [(.ptr 1 0)]),(.d (Zb s3)),(.d (Zb (w64 (c-1))))] [(.arr 1 (List.map Zb (List.set (List.set m0_0 b.toNat x0) d.toNat x1))),(.cells [(.d (Zb m1_0)),(.d (Zb m1_1)),(.d (D.list t0 (List.map Z0 m1_2))),(.d (D.list t1 (List.map ZC m1_3))),(.d (D.list t2 (List.map Zp m1_4))),(.d (D.list t3 (List.map Zv m1_5)))])]=some ((ZbK t0 t1 t2 t3 b c d m0_0 m1_0 m1_1 m1_2 m1_3 m1_4 m1_5 x0 x1) r):=by
 refine ZaU (ZbK t0 t1 t2 t3 b c d m0_0 m1_0 m1_1 m1_2 m1_3 m1_4 m1_5 x0 x1) ?_
 intro s3 rcl ih
 show ZQ _ _ (lpW _ _ _ _ _ _ _)
 unfold Zaw
 rw[ZaV]
 conv=>arg 3;whnf
 refine Ze rfl ?_ ?_<;>conv=>arg 3;whnf
 ·refine Zl rfl rfl fun x4 hx4=>?_;conv=>arg 3;whnf
  refine Zg (Zy rfl hx4) ?_;conv=>arg 3;whnf
  refine Zl rfl rfl fun x5 hx5=>?_;conv=>arg 3;whnf
  refine Zg (Zy rfl hx5) ?_;conv=>arg 3;whnf
  refine Zr _ ZE rfl fun x6 hx6=>?_;conv=>arg 3;whnf
  refine Ze rfl ?_ ?_<;>conv=>arg 3;whnf
  ·exact Zd (ih _)
  ·exact Zf rfl
 ·exact Zf rfl
def ZbH (t0:Bool) (t1:Bool) (t2:Bool) (t3:Bool) (b:Int) (d:Int) (m0_0:(List Int)) (m1_0:Int) (m1_1:Int) (m1_2:(List ZU)) (m1_3:(List Zn)) (m1_4:(List Zi)) (m1_5:(List Zs)) (x0:Int) (x1:Int) (r7:Int):Int→Ex×List V×Zm
  | r=>(.exit 2,[(.sl 0 1),(.d (Zb b)),(.fn 118 [(.ptr 1 0)]),(.d (Zb r7)),(.d (Zb r))],[(.arr 1 (List.map Zb (List.set (List.set m0_0 b.toNat x0) d.toNat x1))),(.cells [(.d (Zb m1_0)),(.d (Zb m1_1)),(.d (D.list t0 (List.map Z0 m1_2))),(.d (D.list t1 (List.map ZC m1_3))),(.d (D.list t2 (List.map Zp m1_4))),(.d (D.list t3 (List.map Zv m1_5)))])])
theorem Zdm {t0:Bool}{t1:Bool}{t2:Bool}{t3:Bool}{b:Int}{d:Int}{m0_0:(List Int)}{m1_0:Int}{m1_1:Int}{m1_2:(List ZU)}{m1_3:(List Zn)}{m1_4:(List Zi)}{m1_5:(List Zs)}{x0:Int}{x1:Int}{r7:Int}:∀(s8:Int) (r:Int),lp (Zav b d m0_0 (fun z0 z1=>Zt z0 z1 m1_4) x0 x1 r7) s8=some r→lpW ctx 2 [0,1,4,12,13] [0,1,4,12,13] Ztn [(.sl 0 1),(.d (Zb b)),(.fn 118 [(.ptr 1 0)]),(.d (Zb r7)),(.d (Zb s8))] [(.arr 1 (List.map Zb (List.set (List.set m0_0 b.toNat x0) d.toNat x1))),(.cells [(.d (Zb m1_0)),(.d (Zb m1_1)),(.d (D.list t0 (List.map Z0 m1_2))),(.d (D.list t1 (List.map ZC m1_3))),(.d (D.list t2 (List.map Zp m1_4))),(.d (D.list t3 (List.map Zv m1_5)))])]=some ((ZbH t0 t1 t2 t3 b d m0_0 m1_0 m1_1 m1_2 m1_3 m1_4 m1_5 x0 x1 r7) r):=by
 refine ZaU (ZbH t0 t1 t2 t3 b d m0_0 m1_0 m1_1 m1_2 m1_3 m1_4 m1_5 x0 x1 r7) ?_
 intro s8 rcl ih
 show ZQ _ _ (lpW _ _ _ _ _ _ _)
 unfold Zav
 rw[ZaV]
 conv=>arg 3;whnf
 refine Ze rfl ?_ ?_<;>conv=>arg 3;whnf
 ·refine Zl rfl rfl fun x9 hx9=>?_;conv=>arg 3;whnf
  refine Zg (Zy rfl hx9) ?_;conv=>arg 3;whnf
  refine Zl rfl rfl fun x10 hx10=>?_;conv=>arg 3;whnf
  refine Zg (Zy rfl hx10) ?_;conv=>arg 3;whnf
  refine Zr _ ZE rfl fun x11 hx11=>?_;conv=>arg 3;whnf
  refine Ze rfl ?_ ?_<;>conv=>arg 3;whnf
  ·exact Zf rfl
  ·exact Zd (ih _)
 ·exact Zf rfl
def ZbF (t0:Bool) (t1:Bool) (t2:Bool) (t3:Bool) (b:Int) (m1_0:Int) (m1_1:Int) (m1_2:(List ZU)) (m1_3:(List Zn)) (m1_4:(List Zi)) (m1_5:(List Zs)) (s19:Int×Int×(List Int)):Int→Ex×List V×Zm
  | r=>(.exit 6,[(.sl 0 1),(.d (Zb b)),(.fn 118 [(.ptr 1 0)]),(.d (Zb r)),(.d (Zb s19.2.1))],[(.arr 1 (List.map Zb s19.2.2)),(.cells [(.d (Zb m1_0)),(.d (Zb m1_1)),(.d (D.list t0 (List.map Z0 m1_2))),(.d (D.list t1 (List.map ZC m1_3))),(.d (D.list t2 (List.map Zp m1_4))),(.d (D.list t3 (List.map Zv m1_5)))])])
theorem Zdq {t0:Bool}{t1:Bool}{t2:Bool}{t3:Bool}{b:Int}{m1_0:Int}{m1_1:Int}{m1_2:(List ZU)}{m1_3:(List Zn)}{m1_4:(List Zi)}{m1_5:(List Zs)}{s19:Int×Int×(List Int)}:∀(s20:Int) (r:Int),lp (Zax b (fun z0 z1=>Zt z0 z1 m1_4) s19) s20=some r→lpW ctx 2 [0,1,4,12,13] [0,1,4,12,13] ZsR [(.sl 0 1),(.d (Zb b)),(.fn 118 [(.ptr 1 0)]),(.d (Zb s20)),(.d (Zb s19.2.1))] [(.arr 1 (List.map Zb s19.2.2)),(.cells [(.d (Zb m1_0)),(.d (Zb m1_1)),(.d (D.list t0 (List.map Z0 m1_2))),(.d (D.list t1 (List.map ZC m1_3))),(.d (D.list t2 (List.map Zp m1_4))),(.d (D.list t3 (List.map Zv m1_5)))])]=some ((ZbF t0 t1 t2 t3 b m1_0 m1_1 m1_2 m1_3 m1_4 m1_5 s19) r):=by
 refine ZaU (ZbF t0 t1 t2 t3 b m1_0 m1_1 m1_2 m1_3 m1_4 m1_5 s19) ?_
 intro s20 rcl ih
 show ZQ _ _ (lpW _ _ _ _ _ _ _)
 unfold Zax
 rw[ZaV]
 conv=>arg 3;whnf
 refine Ze rfl ?_ ?_<;>conv=>arg 3;whnf
 ·refine Zl rfl rfl fun x21 hx21=>?_;conv=>arg 3;whnf
  refine Zg (Zy rfl hx21) ?_;conv=>arg 3;whnf
  refine Zl rfl rfl fun x22 hx22=>?_;conv=>arg 3;whnf
  refine Zg (Zy rfl hx22) ?_;conv=>arg 3;whnf
  refine Zr _ ZE rfl fun x23 hx23=>?_;conv=>arg 3;whnf
  refine Ze rfl ?_ ?_<;>conv=>arg 3;whnf
  ·exact Zd (ih _)
  ·exact Zf rfl
 ·exact Zf rfl
def ZbI (t0:Bool) (t1:Bool) (t2:Bool) (t3:Bool) (b:Int) (m1_0:Int) (m1_1:Int) (m1_2:(List ZU)) (m1_3:(List Zn)) (m1_4:(List Zi)) (m1_5:(List Zs)) (s19:Int×Int×(List Int)) (r24:Int):Int→Ex×List V×Zm
  | r=>(.exit 8,[(.sl 0 1),(.d (Zb b)),(.fn 118 [(.ptr 1 0)]),(.d (Zb r24)),(.d (Zb r))],[(.arr 1 (List.map Zb s19.2.2)),(.cells [(.d (Zb m1_0)),(.d (Zb m1_1)),(.d (D.list t0 (List.map Z0 m1_2))),(.d (D.list t1 (List.map ZC m1_3))),(.d (D.list t2 (List.map Zp m1_4))),(.d (D.list t3 (List.map Zv m1_5)))])])
theorem Zdj {t0:Bool}{t1:Bool}{t2:Bool}{t3:Bool}{b:Int}{m1_0:Int}{m1_1:Int}{m1_2:(List ZU)}{m1_3:(List Zn)}{m1_4:(List Zi)}{m1_5:(List Zs)}{s19:Int×Int×(List Int)}{r24:Int}:∀(s25:Int) (r:Int),lp (Zas b (fun z0 z1=>Zt z0 z1 m1_4) s19 r24) s25=some r→lpW ctx 2 [0,1,4,12,13] [0,1,4,12,13] ZtB [(.sl 0 1),(.d (Zb b)),(.fn 118 [(.ptr 1 0)]),(.d (Zb r24)),(.d (Zb s25))] [(.arr 1 (List.map Zb s19.2.2)),(.cells [(.d (Zb m1_0)),(.d (Zb m1_1)),(.d (D.list t0 (List.map Z0 m1_2))),(.d (D.list t1 (List.map ZC m1_3))),(.d (D.list t2 (List.map Zp m1_4))),(.d (D.list t3 (List.map Zv m1_5)))])]=some ((ZbI t0 t1 t2 t3 b m1_0 m1_1 m1_2 m1_3 m1_4 m1_5 s19 r24) r):=by
 refine ZaU (ZbI t0 t1 t2 t3 b m1_0 m1_1 m1_2 m1_3 m1_4 m1_5 s19 r24) ?_
 intro s25 rcl ih
 show ZQ _ _ (lpW _ _ _ _ _ _ _)
 unfold Zas
 rw[ZaV]
 conv=>arg 3;whnf
 refine Ze rfl ?_ ?_<;>conv=>arg 3;whnf
 ·refine Zl rfl rfl fun x26 hx26=>?_;conv=>arg 3;whnf
  refine Zg (Zy rfl hx26) ?_;conv=>arg 3;whnf
  refine Zl rfl rfl fun x27 hx27=>?_;conv=>arg 3;whnf
  refine Zg (Zy rfl hx27) ?_;conv=>arg 3;whnf
  refine Zr _ ZE rfl fun x28 hx28=>?_;conv=>arg 3;whnf
  refine Ze rfl ?_ ?_<;>conv=>arg 3;whnf
  ·exact Zf rfl
  ·exact Zd (ih _)
 ·exact Zf rfl
def ZbG (t0:Bool) (t1:Bool) (t2:Bool) (t3:Bool) (b:Int) (m1_0:Int) (m1_1:Int) (m1_2:(List ZU)) (m1_3:(List Zn)) (m1_4:(List Zi)) (m1_5:(List Zs)):(Int×(List Int))→Ex×List V×Zm
  | r=>(.exit 4,[(.sl 0 1),(.d (Zb b)),(.d (Zb r.1))],[(.arr 1 (List.map Zb r.2)),(.cells [(.d (Zb m1_0)),(.d (Zb m1_1)),(.d (D.list t0 (List.map Z0 m1_2))),(.d (D.list t1 (List.map ZC m1_3))),(.d (D.list t2 (List.map Zp m1_4))),(.d (D.list t3 (List.map Zv m1_5)))])])
theorem Zdp {t0:Bool}{t1:Bool}{t2:Bool}{t3:Bool}{b:Int}{m1_0:Int}{m1_1:Int}{m1_2:(List ZU)}{m1_3:(List Zn)}{m1_4:(List Zi)}{m1_5:(List Zs)}:∀(s19:Int×Int×(List Int)) (r:(Int×(List Int))),lp (ZaY b (fun z0 z1=>Zt z0 z1 m1_4)) s19=some r→lpW ctx 2 [0,1,4,12,13] [0,1,13] Ztp [(.sl 0 1),(.d (Zb b)),(.fn 118 [(.ptr 1 0)]),(.d (Zb s19.1)),(.d (Zb s19.2.1))] [(.arr 1 (List.map Zb s19.2.2)),(.cells [(.d (Zb m1_0)),(.d (Zb m1_1)),(.d (D.list t0 (List.map Z0 m1_2))),(.d (D.list t1 (List.map ZC m1_3))),(.d (D.list t2 (List.map Zp m1_4))),(.d (D.list t3 (List.map Zv m1_5)))])]=some ((ZbG t0 t1 t2 t3 b m1_0 m1_1 m1_2 m1_3 m1_4 m1_5) r):=by
 refine ZaU (ZbG t0 t1 t2 t3 b m1_0 m1_1 m1_2 m1_3 m1_4 m1_5) ?_
 intro s19 rcl ih
 show ZQ _ _ (lpW _ _ _ _ _ _ _)
 unfold ZaY
 rw[ZaV]
 conv=>arg 3;whnf
 refine Zc _ (Zdq _) fun r24 hr24=>?_;conv=>arg 3;whnf
 refine Zc _ (Zdj _) fun r29 hr29=>?_;conv=>arg 3;whnf
 refine Ze rfl ?_ ?_<;>conv=>arg 3;whnf
 ·exact Zf rfl
 ·refine Zl rfl rfl fun x30 hx30=>?_;conv=>arg 3;whnf
  refine Zg (Zy rfl hx30) ?_;conv=>arg 3;whnf
  refine Zl rfl rfl fun x31 hx31=>?_;conv=>arg 3;whnf
  refine Zg (Zy rfl hx31) ?_;conv=>arg 3;whnf
  refine Zg (Zbm rfl hx31) ?_;conv=>arg 3;whnf
  refine Zg (Zy rfl hx31) ?_;conv=>arg 3;whnf
  refine Zo (ZaB Zb s19.2.2 r24.toNat x30) ?_;conv=>arg 3;whnf
  refine Zl rfl rfl fun x32 hx32=>?_;conv=>arg 3;whnf
  refine Zg (Zy rfl hx32) ?_;conv=>arg 3;whnf
  refine Zo (ZaB Zb (List.set s19.2.2 r24.toNat x30) r29.toNat x31) ?_;conv=>arg 3;whnf
  exact Zd (ih _)
theorem Zj {t0:Bool}{t1:Bool}{t2:Bool}{t3:Bool}{b:Int}{c:Int}{d:Int}{m0_0:(List Int)}{m1_0:Int}{m1_1:Int}{m1_2:(List ZU)}{m1_3:(List Zn)}{m1_4:(List Zi)}{m1_5:(List Zs)}:∀r,(Zq b c d (fun z0 z1=>Zt z0 z1 m1_4) m0_0)=some r→evW ctx 133 [(.sl 0 1),(.d (Zb b)),(.d (Zb c)),(.d (Zb d)),(.fn 118 [(.ptr 1 0)])] [(.arr 1 (List.map Zb m0_0)),(.cells [(.d (Zb m1_0)),(.d (Zb m1_1)),(.d (D.list t0 (List.map Z0 m1_2))),(.d (D.list t1 (List.map ZC m1_3))),(.d (D.list t2 (List.map Zp m1_4))),(.d (D.list t3 (List.map Zv m1_5)))])]=some ((Zb0 t0 t1 t2 t3 b c d m0_0 m1_0 m1_1 m1_2 m1_3 m1_4 m1_5) r):=by
 show ZQ _ (fun r rhs=>rhs=some ((Zb0 t0 t1 t2 t3 b c d m0_0 m1_0 m1_1 m1_2 m1_3 m1_4 m1_5) r)) _
 unfold Zq
 rw[Ze4 ctx 133 Zu8 _ _ rfl rfl]
 conv=>arg 3;whnf
 refine Zl rfl rfl fun x0 hx0=>?_;conv=>arg 3;whnf
 refine Zg (Zy rfl hx0) ?_;conv=>arg 3;whnf
 refine Zl rfl rfl fun x1 hx1=>?_;conv=>arg 3;whnf
 refine Zg (Zy rfl hx1) ?_;conv=>arg 3;whnf
 refine Zg (Zbm rfl hx1) ?_;conv=>arg 3;whnf
 refine Zg (Zy rfl hx1) ?_;conv=>arg 3;whnf
 refine Zo (ZaB Zb m0_0 b.toNat x0) ?_;conv=>arg 3;whnf
 refine Zl rfl rfl fun x2 hx2=>?_;conv=>arg 3;whnf
 refine Zg (Zy rfl hx2) ?_;conv=>arg 3;whnf
 refine Zo (ZaB Zb (List.set m0_0 b.toNat x0) d.toNat x1) ?_;conv=>arg 3;whnf
 refine Zc _ (Zdo _) fun r7 hr7=>?_;conv=>arg 3;whnf
 refine Zc _ (Zdm _) fun r12 hr12=>?_;conv=>arg 3;whnf
 refine Ze rfl ?_ ?_<;>conv=>arg 3;whnf
 ·refine Zl rfl rfl fun x13 hx13=>?_;conv=>arg 3;whnf
  refine Zg (Zy rfl hx13) ?_;conv=>arg 3;whnf
  refine Zl rfl rfl fun x14 hx14=>?_;conv=>arg 3;whnf
  refine Zg (Zy rfl hx14) ?_;conv=>arg 3;whnf
  refine Zg (Zbm rfl hx14) ?_;conv=>arg 3;whnf
  refine Zg (Zy rfl hx14) ?_;conv=>arg 3;whnf
  refine Zo (ZaB Zb (List.set (List.set m0_0 b.toNat x0) d.toNat x1) r12.toNat x13) ?_;conv=>arg 3;whnf
  refine Zl rfl rfl fun x15 hx15=>?_;conv=>arg 3;whnf
  refine Zg (Zy rfl hx15) ?_;conv=>arg 3;whnf
  refine Zo (ZaB Zb (List.set (List.set (List.set m0_0 b.toNat x0) d.toNat x1) r12.toNat x13) b.toNat x14) ?_;conv=>arg 3;whnf
  exact Zf rfl
 ·refine Zl rfl rfl fun x16 hx16=>?_;conv=>arg 3;whnf
  refine Zg (Zy rfl hx16) ?_;conv=>arg 3;whnf
  refine Zl rfl rfl fun x17 hx17=>?_;conv=>arg 3;whnf
  refine Zg (Zy rfl hx17) ?_;conv=>arg 3;whnf
  refine Zg (Zbm rfl hx17) ?_;conv=>arg 3;whnf
  refine Zg (Zy rfl hx17) ?_;conv=>arg 3;whnf
  refine Zo (ZaB Zb (List.set (List.set m0_0 b.toNat x0) d.toNat x1) r7.toNat x16) ?_;conv=>arg 3;whnf
  refine Zl rfl rfl fun x18 hx18=>?_;conv=>arg 3;whnf
  refine Zg (Zy rfl hx18) ?_;conv=>arg 3;whnf
  refine Zo (ZaB Zb (List.set (List.set (List.set m0_0 b.toNat x0) d.toNat x1) r7.toNat x16) r12.toNat x17) ?_;conv=>arg 3;whnf
  refine Zc _ (Zdp _) fun r33 hr33=>?_;conv=>arg 3;whnf
  refine Zl rfl rfl fun x34 hx34=>?_;conv=>arg 3;whnf
  refine Zg (Zy rfl hx34) ?_;conv=>arg 3;whnf
  refine Zl rfl rfl fun x35 hx35=>?_;conv=>arg 3;whnf
  refine Zg (Zy rfl hx35) ?_;conv=>arg 3;whnf
  refine Zg (Zbm rfl hx35) ?_;conv=>arg 3;whnf
  refine Zg (Zy rfl hx35) ?_;conv=>arg 3;whnf
  refine Zo (ZaB Zb r33.2 r33.1.toNat x34) ?_;conv=>arg 3;whnf
  refine Zl rfl rfl fun x36 hx36=>?_;conv=>arg 3;whnf
  refine Zg (Zy rfl hx36) ?_;conv=>arg 3;whnf
  refine Zo (ZaB Zb (List.set r33.2 r33.1.toNat x34) b.toNat x35) ?_;conv=>arg 3;whnf
  exact Zf rfl
def Zby (t0:Bool) (t1:Bool) (t2:Bool) (t3:Bool) (b:Int) (c:Int) (d:Int) (m0_0:(List Int)) (m1_0:Int) (m1_1:Int) (m1_2:(List ZU)) (m1_3:(List Zn)) (m1_4:(List Zi)) (m1_5:(List Zs)):(Int×(List Int))→V×Zm
  | r=>((.d (Zb r.1)),[(.arr 1 (List.map Zb r.2)),(.cells [(.d (Zb m1_0)),(.d (Zb m1_1)),(.d (D.list t0 (List.map Z0 m1_2))),(.d (D.list t1 (List.map ZC m1_3))),(.d (D.list t2 (List.map Zp m1_4))),(.d (D.list t3 (List.map Zv m1_5)))])])
def Zbf (t0:Bool) (t1:Bool) (t2:Bool) (t3:Bool) (b:Int) (m1_0:Int) (m1_1:Int) (m1_2:(List ZU)) (m1_3:(List Zn)) (m1_4:(List Zi)) (m1_5:(List Zs)) (s3:Int×Int×(List Int)):Int→Ex×List V×Zm
  | r=>(.exit 2,[(.sl 0 1),(.d (Zb b)),(.fn 118 [(.ptr 1 0)]),(.d (Zb r)),(.d (Zb s3.2.1))],[(.arr 1 (List.map Zb s3.2.2)),(.cells [(.d (Zb m1_0)),(.d (Zb m1_1)),(.d (D.list t0 (List.map Z0 m1_2))),(.d (D.list t1 (List.map ZC m1_3))),(.d (D.list t2 (List.map Zp m1_4))),(.d (D.list t3 (List.map Zv m1_5)))])])
theorem ZcN {t0:Bool}{t1:Bool}{t2:Bool}{t3:Bool}{b:Int}{m1_0:Int}{m1_1:Int}{m1_2:(List ZU)}{m1_3:(List Zn)}{m1_4:(List Zi)}{m1_5:(List Zs)}{s3:Int×Int×(List Int)}:∀(s4:Int) (r:Int),lp (Zac b (fun z0 z1=>Zt z0 z1 m1_4) s3) s4=some r→lpW ctx 2 [0,1,4,11,12] [0,1,4,11,12] Zta [(.sl 0 1),(.d (Zb b)),(.fn 118 [(.ptr 1 0)]),(.d (Zb s4)),(.d (Zb s3.2.1))] [(.arr 1 (List.map Zb s3.2.2)),(.cells [(.d (Zb m1_0)),(.d (Zb m1_1)),(.d (D.list t0 (List.map Z0 m1_2))),(.d (D.list t1 (List.map ZC m1_3))),(.d (D.list t2 (List.map Zp m1_4))),(.d (D.list t3 (List.map Zv m1_5)))])]=some ((Zbf t0 t1 t2 t3 b m1_0 m1_1 m1_2 m1_3 m1_4 m1_5 s3) r):=by
 refine ZaU (Zbf t0 t1 t2 t3 b m1_0 m1_1 m1_2 m1_3 m1_4 m1_5 s3) ?_
 intro s4 rcl ih
 show ZQ _ _ (lpW _ _ _ _ _ _ _)
 unfold Zac
 rw[ZaV]
 conv=>arg 3;whnf
 refine Ze rfl ?_ ?_<;>conv=>arg 3;whnf
 ·refine Zl rfl rfl fun x5 hx5=>?_;conv=>arg 3;whnf
  refine Zg (Zy rfl hx5) ?_;conv=>arg 3;whnf
  refine Zl rfl rfl fun x6 hx6=>?_;conv=>arg 3;whnf
  refine Zg (Zy rfl hx6) ?_;conv=>arg 3;whnf
  refine Zr _ ZE rfl fun x7 hx7=>?_;conv=>arg 3;whnf
  refine Ze rfl ?_ ?_<;>conv=>arg 3;whnf
  ·exact Zf rfl
  ·exact Zd (ih _)
 ·exact Zf rfl
def Zbg (t0:Bool) (t1:Bool) (t2:Bool) (t3:Bool) (b:Int) (m1_0:Int) (m1_1:Int) (m1_2:(List ZU)) (m1_3:(List Zn)) (m1_4:(List Zi)) (m1_5:(List Zs)) (s3:Int×Int×(List Int)) (r8:Int):Int→Ex×List V×Zm
  | r=>(.exit 4,[(.sl 0 1),(.d (Zb b)),(.fn 118 [(.ptr 1 0)]),(.d (Zb r8)),(.d (Zb r))],[(.arr 1 (List.map Zb s3.2.2)),(.cells [(.d (Zb m1_0)),(.d (Zb m1_1)),(.d (D.list t0 (List.map Z0 m1_2))),(.d (D.list t1 (List.map ZC m1_3))),(.d (D.list t2 (List.map Zp m1_4))),(.d (D.list t3 (List.map Zv m1_5)))])])
theorem ZcR {t0:Bool}{t1:Bool}{t2:Bool}{t3:Bool}{b:Int}{m1_0:Int}{m1_1:Int}{m1_2:(List ZU)}{m1_3:(List Zn)}{m1_4:(List Zi)}{m1_5:(List Zs)}{s3:Int×Int×(List Int)}{r8:Int}:∀(s9:Int) (r:Int),lp (Zad b (fun z0 z1=>Zt z0 z1 m1_4) s3 r8) s9=some r→lpW ctx 2 [0,1,4,11,12] [0,1,4,11,12] ZsG [(.sl 0 1),(.d (Zb b)),(.fn 118 [(.ptr 1 0)]),(.d (Zb r8)),(.d (Zb s9))] [(.arr 1 (List.map Zb s3.2.2)),(.cells [(.d (Zb m1_0)),(.d (Zb m1_1)),(.d (D.list t0 (List.map Z0 m1_2))),(.d (D.list t1 (List.map ZC m1_3))),(.d (D.list t2 (List.map Zp m1_4))),(.d (D.list t3 (List.map Zv m1_5)))])]=some ((Zbg t0 t1 t2 t3 b m1_0 m1_1 m1_2 m1_3 m1_4 m1_5 s3 r8) r):=by
 refine ZaU (Zbg t0 t1 t2 t3 b m1_0 m1_1 m1_2 m1_3 m1_4 m1_5 s3 r8) ?_
 intro s9 rcl ih
 show ZQ _ _ (lpW _ _ _ _ _ _ _)
 unfold Zad
 rw[ZaV]
 conv=>arg 3;whnf
 refine Ze rfl ?_ ?_<;>conv=>arg 3;whnf
 ·refine Zl rfl rfl fun x10 hx10=>?_;conv=>arg 3;whnf
  refine Zg (Zy rfl hx10) ?_;conv=>arg 3;whnf
  refine Zl rfl rfl fun x11 hx11=>?_;conv=>arg 3;whnf
  refine Zg (Zy rfl hx11) ?_;conv=>arg 3;whnf
  refine Zr _ ZE rfl fun x12 hx12=>?_;conv=>arg 3;whnf
  refine Ze rfl ?_ ?_<;>conv=>arg 3;whnf
  ·exact Zd (ih _)
  ·exact Zf rfl
 ·exact Zf rfl
def Zbd (t0:Bool) (t1:Bool) (t2:Bool) (t3:Bool) (b:Int) (m1_0:Int) (m1_1:Int) (m1_2:(List ZU)) (m1_3:(List Zn)) (m1_4:(List Zi)) (m1_5:(List Zs)):(Int×(List Int))→Ex×List V×Zm
  | r=>(.exit 0,[(.d (Zb r.1))],[(.arr 1 (List.map Zb r.2)),(.cells [(.d (Zb m1_0)),(.d (Zb m1_1)),(.d (D.list t0 (List.map Z0 m1_2))),(.d (D.list t1 (List.map ZC m1_3))),(.d (D.list t2 (List.map Zp m1_4))),(.d (D.list t3 (List.map Zv m1_5)))])])
theorem ZcO {t0:Bool}{t1:Bool}{t2:Bool}{t3:Bool}{b:Int}{m1_0:Int}{m1_1:Int}{m1_2:(List ZU)}{m1_3:(List Zn)}{m1_4:(List Zi)}{m1_5:(List Zs)}:∀(s3:Int×Int×(List Int)) (r:(Int×(List Int))),lp (Zat b (fun z0 z1=>Zt z0 z1 m1_4)) s3=some r→lpW ctx 2 [0,1,4,11,12] [11] Ztu [(.sl 0 1),(.d (Zb b)),(.fn 118 [(.ptr 1 0)]),(.d (Zb s3.1)),(.d (Zb s3.2.1))] [(.arr 1 (List.map Zb s3.2.2)),(.cells [(.d (Zb m1_0)),(.d (Zb m1_1)),(.d (D.list t0 (List.map Z0 m1_2))),(.d (D.list t1 (List.map ZC m1_3))),(.d (D.list t2 (List.map Zp m1_4))),(.d (D.list t3 (List.map Zv m1_5)))])]=some ((Zbd t0 t1 t2 t3 b m1_0 m1_1 m1_2 m1_3 m1_4 m1_5) r):=by
 refine ZaU (Zbd t0 t1 t2 t3 b m1_0 m1_1 m1_2 m1_3 m1_4 m1_5) ?_
 intro s3 rcl ih
 show ZQ _ _ (lpW _ _ _ _ _ _ _)
 unfold Zat
 rw[ZaV]
 conv=>arg 3;whnf
 refine Zc _ (ZcN _) fun r8 hr8=>?_;conv=>arg 3;whnf
 refine Zc _ (ZcR _) fun r13 hr13=>?_;conv=>arg 3;whnf
 refine Ze rfl ?_ ?_<;>conv=>arg 3;whnf
 ·exact Zf rfl
 ·refine Zl rfl rfl fun x14 hx14=>?_;conv=>arg 3;whnf
  refine Zg (Zy rfl hx14) ?_;conv=>arg 3;whnf
  refine Zl rfl rfl fun x15 hx15=>?_;conv=>arg 3;whnf
  refine Zg (Zy rfl hx15) ?_;conv=>arg 3;whnf
  refine Zg (Zbm rfl hx15) ?_;conv=>arg 3;whnf
  refine Zg (Zy rfl hx15) ?_;conv=>arg 3;whnf
  refine Zo (ZaB Zb s3.2.2 r8.toNat x14) ?_;conv=>arg 3;whnf
  refine Zl rfl rfl fun x16 hx16=>?_;conv=>arg 3;whnf
  refine Zg (Zy rfl hx16) ?_;conv=>arg 3;whnf
  refine Zo (ZaB Zb (List.set s3.2.2 r8.toNat x14) r13.toNat x15) ?_;conv=>arg 3;whnf
  exact Zd (ih _)
theorem Zz {t0:Bool}{t1:Bool}{t2:Bool}{t3:Bool}{b:Int}{c:Int}{d:Int}{m0_0:(List Int)}{m1_0:Int}{m1_1:Int}{m1_2:(List ZU)}{m1_3:(List Zn)}{m1_4:(List Zi)}{m1_5:(List Zs)}:∀r,(ZB b c d (fun z0 z1=>Zt z0 z1 m1_4) m0_0)=some r→evW ctx 132 [(.sl 0 1),(.d (Zb b)),(.d (Zb c)),(.d (Zb d)),(.fn 118 [(.ptr 1 0)])] [(.arr 1 (List.map Zb m0_0)),(.cells [(.d (Zb m1_0)),(.d (Zb m1_1)),(.d (D.list t0 (List.map Z0 m1_2))),(.d (D.list t1 (List.map ZC m1_3))),(.d (D.list t2 (List.map Zp m1_4))),(.d (D.list t3 (List.map Zv m1_5)))])]=some ((Zby t0 t1 t2 t3 b c d m0_0 m1_0 m1_1 m1_2 m1_3 m1_4 m1_5) r):=by
 show ZQ _ (fun r rhs=>rhs=some ((Zby t0 t1 t2 t3 b c d m0_0 m1_0 m1_1 m1_2 m1_3 m1_4 m1_5) r)) _
 unfold ZB
 rw[Ze4 ctx 132 Zwu _ _ rfl rfl]
 conv=>arg 3;whnf
 refine Zl rfl rfl fun x0 hx0=>?_;conv=>arg 3;whnf
 refine Zg (Zy rfl hx0) ?_;conv=>arg 3;whnf
 refine Zl rfl rfl fun x1 hx1=>?_;conv=>arg 3;whnf
 refine Zg (Zy rfl hx1) ?_;conv=>arg 3;whnf
 refine Zg (Zbm rfl hx1) ?_;conv=>arg 3;whnf
 refine Zg (Zy rfl hx1) ?_;conv=>arg 3;whnf
 refine Zo (ZaB Zb m0_0 b.toNat x0) ?_;conv=>arg 3;whnf
 refine Zl rfl rfl fun x2 hx2=>?_;conv=>arg 3;whnf
 refine Zg (Zy rfl hx2) ?_;conv=>arg 3;whnf
 refine Zo (ZaB Zb (List.set m0_0 b.toNat x0) d.toNat x1) ?_;conv=>arg 3;whnf
 refine Zc _ (ZcO _) fun r17 hr17=>?_;conv=>arg 3;whnf
 exact Zf rfl
def Ze3 (r:Int):D:=(D.int .u64 r)
theorem Zg8 {a:Int}:∀r,(Zcf a)=some r→evD ctx 137 [(.d (Zb a))]=some (Ze3 r):=by
 show ZQ _ (fun r rhs=>rhs=some (Ze3 r)) _
 unfold Zcf
 rw[Zbe ctx 137 ZuF _ rfl rfl]
 conv=>arg 3;whnf
 refine Zr _ Zhl rfl fun x0 hx0=>?_;conv=>arg 3;whnf
 refine Ze rfl ?_ ?_
 ·exact Z7
 ·conv=>arg 3;whnf
  exact Zf rfl
def Ze9 (m0_0:Int):Unit→V×Zm
  | r=>((.d (D.int .u64 (IntKind.u64.wrap (BitVec.ofInt IntKind.u64.bits (IntKind.u64.wrap (BitVec.ofInt IntKind.u64.bits (IntKind.u64.wrap (BitVec.ofInt IntKind.u64.bits m0_0 ^^^ BitVec.ofInt IntKind.u64.bits (IntKind.u64.wrap (m0_0*2 ^ 13))).toNat) ^^^ BitVec.ofInt IntKind.u64.bits (Int.fdiv (IntKind.u64.wrap (BitVec.ofInt IntKind.u64.bits m0_0 ^^^ BitVec.ofInt IntKind.u64.bits (IntKind.u64.wrap (m0_0*2 ^ 13))).toNat) (2 ^ 7))).toNat) ^^^ BitVec.ofInt IntKind.u64.bits (IntKind.u64.wrap ((IntKind.u64.wrap (BitVec.ofInt IntKind.u64.bits (IntKind.u64.wrap (BitVec.ofInt IntKind.u64.bits m0_0 ^^^ BitVec.ofInt IntKind.u64.bits (IntKind.u64.wrap (m0_0*2 ^ 13))).toNat) ^^^ BitVec.ofInt IntKind.u64.bits (Int.fdiv (IntKind.u64.wrap (BitVec.ofInt IntKind.u64.bits m0_0 ^^^ BitVec.ofInt IntKind.u64.bits (IntKind.u64.wrap (m0_0*2 ^ 13))).toNat) (2 ^ 7))).toNat)*2 ^ 17))).toNat))),[(.cells [(.d (D.int .u64 (IntKind.u64.wrap (BitVec.ofInt IntKind.u64.bits (IntKind.u64.wrap (BitVec.ofInt IntKind.u64.bits (IntKind.u64.wrap (BitVec.ofInt IntKind.u64.bits m0_0 ^^^ BitVec.ofInt IntKind.u64.bits (IntKind.u64.wrap (m0_0*2 ^ 13))).toNat) ^^^ BitVec.ofInt IntKind.u64.bits (Int.fdiv (IntKind.u64.wrap (BitVec.ofInt IntKind.u64.bits m0_0 ^^^ BitVec.ofInt IntKind.u64.bits (IntKind.u64.wrap (m0_0*2 ^ 13))).toNat) (2 ^ 7))).toNat) ^^^ BitVec.ofInt IntKind.u64.bits (IntKind.u64.wrap ((IntKind.u64.wrap (BitVec.ofInt IntKind.u64.bits (IntKind.u64.wrap (BitVec.ofInt IntKind.u64.bits m0_0 ^^^ BitVec.ofInt IntKind.u64.bits (IntKind.u64.wrap (m0_0*2 ^ 13))).toNat) ^^^ BitVec.ofInt IntKind.u64.bits (Int.fdiv (IntKind.u64.wrap (BitVec.ofInt IntKind.u64.bits m0_0 ^^^ BitVec.ofInt IntKind.u64.bits (IntKind.u64.wrap (m0_0*2 ^ 13))).toNat) (2 ^ 7))).toNat)*2 ^ 17))).toNat)))])])
theorem Zht {m0_0:Int}:∀r,Zdc=some r→evW ctx 138 [(.ptr 0 0)] [(.cells [(.d (D.int .u64 m0_0))])]=some ((Ze9 m0_0) r):=by
 show ZQ _ (fun r rhs=>rhs=some ((Ze9 m0_0) r)) _
 unfold Zdc
 rw[Ze4 ctx 138 Zu7 _ _ rfl rfl]
 conv=>arg 3;whnf
 refine Zaj rfl ?_;conv=>arg 3;whnf
 refine Zaj rfl ?_;conv=>arg 3;whnf
 refine Zaj rfl ?_;conv=>arg 3;whnf
 exact Zf rfl
def ZbB (t0:Bool) (t1:Bool) (t2:Bool) (t3:Bool) (b:Int) (c:Int) (m0_0:(List Int)) (m1_0:Int) (m1_1:Int) (m1_2:(List ZU)) (m1_3:(List Zn)) (m1_4:(List Zi)) (m1_5:(List Zs)):(List Int)→V×Zm
  | r=>((.d (D.tup [])),[(.arr 1 (List.map Zb r)),(.cells [(.d (Zb m1_0)),(.d (Zb m1_1)),(.d (D.list t0 (List.map Z0 m1_2))),(.d (D.list t1 (List.map ZC m1_3))),(.d (D.list t2 (List.map Zp m1_4))),(.d (D.list t3 (List.map Zv m1_5)))])])
def Zbi (t0:Bool) (t1:Bool) (t2:Bool) (t3:Bool) (b:Int) (c:Int) (m1_0:Int) (m1_1:Int) (m1_2:(List ZU)) (m1_3:(List Zn)) (m1_4:(List Zi)) (m1_5:(List Zs)) (x0:Int):(List Int)→Ex×List V×Zm
  | r=>(.exit 0,[],[(.arr 1 (List.map Zb r)),(.cells [(.d (Zb m1_0)),(.d (Zb m1_1)),(.d (D.list t0 (List.map Z0 m1_2))),(.d (D.list t1 (List.map ZC m1_3))),(.d (D.list t2 (List.map Zp m1_4))),(.d (D.list t3 (List.map Zv m1_5)))])])
theorem ZcV {t0:Bool}{t1:Bool}{t2:Bool}{t3:Bool}{b:Int}{c:Int}{m1_0:Int}{m1_1:Int}{m1_2:(List ZU)}{m1_3:(List Zn)}{m1_4:(List Zi)}{m1_5:(List Zs)}{x0:Int}:∀(s1:Int×(List Int)×Int) (r:(List Int)),lp (ZaD b c x0) s1=some r→lpW ctx 2 [0,1,8,9,10,11] [] Zto [(.sl 0 1),(.d (Zb b)),(.d (Zb (w64 (c-b)))),(.ptr 2 0),(.d (D.int .u64 x0)),(.d (Zb s1.1))] [(.arr 1 (List.map Zb s1.2.1)),(.cells [(.d (Zb m1_0)),(.d (Zb m1_1)),(.d (D.list t0 (List.map Z0 m1_2))),(.d (D.list t1 (List.map ZC m1_3))),(.d (D.list t2 (List.map Zp m1_4))),(.d (D.list t3 (List.map Zv m1_5)))]),(.cells [(.d (D.int .u64 s1.2.2))])]=some ((Zbi t0 t1 t2 t3 b c m1_0 m1_1 m1_2 m1_3 m1_4 m1_5 x0) r):=by
 refine ZaU (Zbi t0 t1 t2 t3 b c m1_0 m1_1 m1_2 m1_3 m1_4 m1_5 x0) ?_
 intro s1 rcl ih
 show ZQ _ _ (lpW _ _ _ _ _ _ _)
 unfold ZaD
 rw[ZaV]
 conv=>arg 3;whnf
 refine Zaj rfl ?_;conv=>arg 3;whnf
 refine Ze rfl ?_ ?_<;>conv=>arg 3;whnf
 ·refine Zc _ Zht fun x2 hx2=>?_;conv=>arg 3;whnf
  refine Ze rfl ?_ ?_<;>conv=>arg 3;whnf
  ·refine Zl rfl rfl fun x3 hx3=>?_;conv=>arg 3;whnf
   refine Zg (Zy rfl hx3) ?_;conv=>arg 3;whnf
   refine Zl rfl rfl fun x4 hx4=>?_;conv=>arg 3;whnf
   refine Zg (Zy rfl hx4) ?_;conv=>arg 3;whnf
   refine Zg (Zbm rfl hx4) ?_;conv=>arg 3;whnf
   refine Zg (Zy rfl hx4) ?_;conv=>arg 3;whnf
   refine Zo (ZaB Zb s1.2.1 s1.1.toNat x3) ?_;conv=>arg 3;whnf
   refine Zl rfl rfl fun x5 hx5=>?_;conv=>arg 3;whnf
   refine Zg (Zy rfl hx5) ?_;conv=>arg 3;whnf
   refine Zo (ZaB Zb (List.set s1.2.1 s1.1.toNat x3) (w64 (b+(w64 ((w64 (IntKind.u64.wrap (BitVec.ofInt IntKind.u64.bits (IntKind.u64.wrap (BitVec.ofInt IntKind.u64.bits (IntKind.u64.wrap (BitVec.ofInt IntKind.u64.bits (IntKind.u64.wrap (BitVec.ofInt IntKind.u64.bits s1.2.2 ^^^ BitVec.ofInt IntKind.u64.bits (IntKind.u64.wrap (s1.2.2*2 ^ 13))).toNat) ^^^ BitVec.ofInt IntKind.u64.bits (Int.fdiv (IntKind.u64.wrap (BitVec.ofInt IntKind.u64.bits s1.2.2 ^^^ BitVec.ofInt IntKind.u64.bits (IntKind.u64.wrap (s1.2.2*2 ^ 13))).toNat) (2 ^ 7))).toNat) ^^^ BitVec.ofInt IntKind.u64.bits (IntKind.u64.wrap ((IntKind.u64.wrap (BitVec.ofInt IntKind.u64.bits (IntKind.u64.wrap (BitVec.ofInt IntKind.u64.bits s1.2.2 ^^^ BitVec.ofInt IntKind.u64.bits (IntKind.u64.wrap (s1.2.2*2 ^ 13))).toNat) ^^^ BitVec.ofInt IntKind.u64.bits (Int.fdiv (IntKind.u64.wrap (BitVec.ofInt IntKind.u64.bits s1.2.2 ^^^ BitVec.ofInt IntKind.u64.bits (IntKind.u64.wrap (s1.2.2*2 ^ 13))).toNat) (2 ^ 7))).toNat)*2 ^ 17))).toNat) &&& BitVec.ofInt IntKind.u64.bits (IntKind.u64.wrap (x0-1))).toNat))-(w64 (c-b)))))).toNat x4) ?_;conv=>arg 3;whnf
   exact Zd (ih _)
  ·refine Zl rfl rfl fun x6 hx6=>?_;conv=>arg 3;whnf
   refine Zg (Zy rfl hx6) ?_;conv=>arg 3;whnf
   refine Zl rfl rfl fun x7 hx7=>?_;conv=>arg 3;whnf
   refine Zg (Zy rfl hx7) ?_;conv=>arg 3;whnf
   refine Zg (Zbm rfl hx7) ?_;conv=>arg 3;whnf
   refine Zg (Zy rfl hx7) ?_;conv=>arg 3;whnf
   refine Zo (ZaB Zb s1.2.1 s1.1.toNat x6) ?_;conv=>arg 3;whnf
   refine Zl rfl rfl fun x8 hx8=>?_;conv=>arg 3;whnf
   refine Zg (Zy rfl hx8) ?_;conv=>arg 3;whnf
   refine Zo (ZaB Zb (List.set s1.2.1 s1.1.toNat x6) (w64 (b+(w64 (IntKind.u64.wrap (BitVec.ofInt IntKind.u64.bits (IntKind.u64.wrap (BitVec.ofInt IntKind.u64.bits (IntKind.u64.wrap (BitVec.ofInt IntKind.u64.bits (IntKind.u64.wrap (BitVec.ofInt IntKind.u64.bits s1.2.2 ^^^ BitVec.ofInt IntKind.u64.bits (IntKind.u64.wrap (s1.2.2*2 ^ 13))).toNat) ^^^ BitVec.ofInt IntKind.u64.bits (Int.fdiv (IntKind.u64.wrap (BitVec.ofInt IntKind.u64.bits s1.2.2 ^^^ BitVec.ofInt IntKind.u64.bits (IntKind.u64.wrap (s1.2.2*2 ^ 13))).toNat) (2 ^ 7))).toNat) ^^^ BitVec.ofInt IntKind.u64.bits (IntKind.u64.wrap ((IntKind.u64.wrap (BitVec.ofInt IntKind.u64.bits (IntKind.u64.wrap (BitVec.ofInt IntKind.u64.bits s1.2.2 ^^^ BitVec.ofInt IntKind.u64.bits (IntKind.u64.wrap (s1.2.2*2 ^ 13))).toNat) ^^^ BitVec.ofInt IntKind.u64.bits (Int.fdiv (IntKind.u64.wrap (BitVec.ofInt IntKind.u64.bits s1.2.2 ^^^ BitVec.ofInt IntKind.u64.bits (IntKind.u64.wrap (s1.2.2*2 ^ 13))).toNat) (2 ^ 7))).toNat)*2 ^ 17))).toNat) &&& BitVec.ofInt IntKind.u64.bits (IntKind.u64.wrap (x0-1))).toNat)))).toNat x7) ?_;conv=>arg 3;whnf
   exact Zd (ih _)
 ·exact Zf rfl
theorem Zbz {t0:Bool}{t1:Bool}{t2:Bool}{t3:Bool}{b:Int}{c:Int}{m0_0:(List Int)}{m1_0:Int}{m1_1:Int}{m1_2:(List ZU)}{m1_3:(List Zn)}{m1_4:(List Zi)}{m1_5:(List Zs)}:∀r,(Zaa b c (fun z0 z1=>Zt z0 z1 m1_4) m0_0)=some r→evW ctx 128 [(.sl 0 1),(.d (Zb b)),(.d (Zb c)),(.fn 118 [(.ptr 1 0)])] [(.arr 1 (List.map Zb m0_0)),(.cells [(.d (Zb m1_0)),(.d (Zb m1_1)),(.d (D.list t0 (List.map Z0 m1_2))),(.d (D.list t1 (List.map ZC m1_3))),(.d (D.list t2 (List.map Zp m1_4))),(.d (D.list t3 (List.map Zv m1_5)))])]=some ((ZbB t0 t1 t2 t3 b c m0_0 m1_0 m1_1 m1_2 m1_3 m1_4 m1_5) r):=by
 show ZQ _ (fun r rhs=>rhs=some ((ZbB t0 t1 t2 t3 b c m0_0 m1_0 m1_1 m1_2 m1_3 m1_4 m1_5) r)) _
 unfold Zaa
 rw[Ze4 ctx 128 ZvP _ _ rfl rfl]
 conv=>arg 3;whnf
 refine Ze rfl ?_ ?_<;>conv=>arg 3;whnf
 ·refine Zr _ Zg8 rfl fun x0 hx0=>?_;conv=>arg 3;whnf
  refine Zaj rfl ?_;conv=>arg 3;whnf
  refine Zc _ (ZcV _) fun r9 hr9=>?_;conv=>arg 3;whnf
  exact Zf rfl
 ·exact Zf rfl
def Za (t0:Bool) (t1:Bool) (t2:Bool) (t3:Bool) (b:Int) (c:Int) (d:Int) (m0_0:(List Int)) (m1_0:Int) (m1_1:Int) (m1_2:(List ZU)) (m1_3:(List Zn)) (m1_4:(List Zi)) (m1_5:(List Zs)):(List Int)→V×Zm
  | r=>((.d (D.tup [])),[(.arr 1 (List.map Zb r)),(.cells [(.d (Zb m1_0)),(.d (Zb m1_1)),(.d (D.list t0 (List.map Z0 m1_2))),(.d (D.list t1 (List.map ZC m1_3))),(.d (D.list t2 (List.map Zp m1_4))),(.d (D.list t3 (List.map Zv m1_5)))])])
def ZbV (t0:Bool) (t1:Bool) (t2:Bool) (t3:Bool) (m1_0:Int) (m1_1:Int) (m1_2:(List ZU)) (m1_3:(List Zn)) (m1_4:(List Zi)) (m1_5:(List Zs)) (rc:Int→Int→Int→(Int→Int→Option Int)→(List Int)→Option (List Int)):(List Int)→Ex×List V×Zm
  | r=>(.ret,[],[(.arr 1 (List.map Zb r)),(.cells [(.d (Zb m1_0)),(.d (Zb m1_1)),(.d (D.list t0 (List.map Z0 m1_2))),(.d (D.list t1 (List.map ZC m1_3))),(.d (D.list t2 (List.map Zp m1_4))),(.d (D.list t3 (List.map Zv m1_5)))])])
theorem ZdD {t0:Bool}{t1:Bool}{t2:Bool}{t3:Bool}{m1_0:Int}{m1_1:Int}{m1_2:(List ZU)}{m1_3:(List Zn)}{m1_4:(List Zi)}{m1_5:(List Zs)}{rc:Int→Int→Int→(Int→Int→Option Int)→(List Int)→Option (List Int)} (hrc:∀(t0:Bool) (t1:Bool) (t2:Bool) (t3:Bool) (b:Int) (c:Int) (d:Int) (m0_0:(List Int)) (m1_0:Int) (m1_1:Int) (m1_2:(List ZU)) (m1_3:(List Zn)) (m1_4:(List Zi)) (m1_5:(List Zs)) (r:(List Int)),rc b c d (fun z0 z1=>Zt z0 z1 m1_4) m0_0=some r→evW ctx 124 [(.sl 0 1),(.d (Zb b)),(.d (Zb c)),(.d (Zb d)),(.fn 118 [(.ptr 1 0)])] [(.arr 1 (List.map Zb m0_0)),(.cells [(.d (Zb m1_0)),(.d (Zb m1_1)),(.d (D.list t0 (List.map Z0 m1_2))),(.d (D.list t1 (List.map ZC m1_3))),(.d (D.list t2 (List.map Zp m1_4))),(.d (D.list t3 (List.map Zv m1_5)))])]=some ((Za t0 t1 t2 t3 b c d m0_0 m1_0 m1_1 m1_2 m1_3 m1_4 m1_5) r)):∀(s0:Int×Int×Int×Bool×Bool×(List Int)) (r:(List Int)),lp (ZP (fun z0 z1=>Zt z0 z1 m1_4) rc) s0=some r→lpW ctx 2 [0,1,2,3,4,10,11] [] Ztf [(.sl 0 1),(.d (Zb s0.1)),(.d (Zb s0.2.1)),(.d (Zb s0.2.2.1)),(.fn 118 [(.ptr 1 0)]),(.d (D.bool s0.2.2.2.1)),(.d (D.bool s0.2.2.2.2.1))] [(.arr 1 (List.map Zb s0.2.2.2.2.2)),(.cells [(.d (Zb m1_0)),(.d (Zb m1_1)),(.d (D.list t0 (List.map Z0 m1_2))),(.d (D.list t1 (List.map ZC m1_3))),(.d (D.list t2 (List.map Zp m1_4))),(.d (D.list t3 (List.map Zv m1_5)))])]=some ((ZbV t0 t1 t2 t3 m1_0 m1_1 m1_2 m1_3 m1_4 m1_5 rc) r):=by
 refine ZaU (ZbV t0 t1 t2 t3 m1_0 m1_1 m1_2 m1_3 m1_4 m1_5 rc) ?_
 intro s0 rcl ih
 show ZQ _ _ (lpW _ _ _ _ _ _ _)
 unfold ZP
 rw[ZaV]
 rcases hb:s0.2.2.2.1 with _ | _
 ·refine Zst ?_
  rcases hb:s0.2.2.2.2.1 with _ | _
  ·refine Zst ?_;conv=>arg 3;whnf
   refine Ze rfl ?_ ?_<;>conv=>arg 3;whnf
   ·refine Zc _ Z8 fun x170 hx170=>?_;conv=>arg 3;whnf
    exact Zf rfl
   ·refine Ze rfl ?_ ?_<;>conv=>arg 3;whnf
    ·refine Zc _ Zao fun x171 hx171=>?_;conv=>arg 3;whnf
     exact Zf rfl
    ·refine Zc _ Zbz fun x172 hx172=>?_;conv=>arg 3;whnf
     refine Zc _ Zaf fun x173 hx173=>?_;conv=>arg 3;whnf
     refine Ze rfl ?_ ?_<;>conv=>arg 3;whnf
     ·refine Zc _ Zae fun x174 hx174=>?_;conv=>arg 3;whnf
      refine Ze rfl ?_ ?_<;>conv=>arg 3;whnf
      ·refine Zl rfl rfl fun x175 hx175=>?_;conv=>arg 3;whnf
       refine Zg (Zy rfl hx175) ?_;conv=>arg 3;whnf
       refine Zl rfl rfl fun x176 hx176=>?_;conv=>arg 3;whnf
       refine Zg (Zy rfl hx176) ?_;conv=>arg 3;whnf
       refine Zr _ ZE rfl fun x177 hx177=>?_;conv=>arg 3;whnf
       refine Ze rfl ?_ ?_<;>conv=>arg 3;whnf
       ·refine Zc _ Zj fun x178 hx178=>?_
        clear hx178
        rcases x178 with x178 | x178
        ·conv=>arg 3;whnf
         refine ZbP rfl ?_;conv=>arg 3;whnf
         refine Zaj rfl ?_;conv=>arg 3;whnf
         refine Ze rfl ?_ ?_<;>conv=>arg 3;whnf
         ·refine Ze rfl ?_ ?_<;>conv=>arg 3;whnf
          ·refine Zc (Za t0 t1 t2 t3 s0.1 x178.1 (w64 (s0.2.2.1-1)) x178.2 m1_0 m1_1 m1_2 m1_3 m1_4 m1_5) (hrc t0 t1 t2 t3 s0.1 x178.1 (w64 (s0.2.2.1-1)) x178.2 m1_0 m1_1 m1_2 m1_3 m1_4 m1_5) fun x179 hx179=>?_;conv=>arg 3;whnf
           exact Zd (ih _)
          ·refine Zc (Za t0 t1 t2 t3 s0.1 x178.1 (w64 (s0.2.2.1-1)) x178.2 m1_0 m1_1 m1_2 m1_3 m1_4 m1_5) (hrc t0 t1 t2 t3 s0.1 x178.1 (w64 (s0.2.2.1-1)) x178.2 m1_0 m1_1 m1_2 m1_3 m1_4 m1_5) fun x180 hx180=>?_;conv=>arg 3;whnf
           exact Zd (ih _)
         ·refine Ze rfl ?_ ?_<;>conv=>arg 3;whnf
          ·refine Zc (Za t0 t1 t2 t3 (w64 (x178.1+1)) s0.2.1 (w64 (s0.2.2.1-1)) x178.2 m1_0 m1_1 m1_2 m1_3 m1_4 m1_5) (hrc t0 t1 t2 t3 (w64 (x178.1+1)) s0.2.1 (w64 (s0.2.2.1-1)) x178.2 m1_0 m1_1 m1_2 m1_3 m1_4 m1_5) fun x181 hx181=>?_;conv=>arg 3;whnf
           exact Zd (ih _)
          ·refine Zc (Za t0 t1 t2 t3 (w64 (x178.1+1)) s0.2.1 (w64 (s0.2.2.1-1)) x178.2 m1_0 m1_1 m1_2 m1_3 m1_4 m1_5) (hrc t0 t1 t2 t3 (w64 (x178.1+1)) s0.2.1 (w64 (s0.2.2.1-1)) x178.2 m1_0 m1_1 m1_2 m1_3 m1_4 m1_5) fun x182 hx182=>?_;conv=>arg 3;whnf
           exact Zd (ih _)
        ·conv=>arg 3;whnf
         refine Zaj rfl ?_;conv=>arg 3;whnf
         refine Zaj rfl ?_;conv=>arg 3;whnf
         refine Ze rfl ?_ ?_<;>conv=>arg 3;whnf
         ·refine Ze rfl ?_ ?_<;>conv=>arg 3;whnf
          ·refine Zc (Za t0 t1 t2 t3 s0.1 x178.1 (w64 (s0.2.2.1-1)) x178.2 m1_0 m1_1 m1_2 m1_3 m1_4 m1_5) (hrc t0 t1 t2 t3 s0.1 x178.1 (w64 (s0.2.2.1-1)) x178.2 m1_0 m1_1 m1_2 m1_3 m1_4 m1_5) fun x183 hx183=>?_;conv=>arg 3;whnf
           exact Zd (ih _)
          ·refine Zc (Za t0 t1 t2 t3 s0.1 x178.1 (w64 (s0.2.2.1-1)) x178.2 m1_0 m1_1 m1_2 m1_3 m1_4 m1_5) (hrc t0 t1 t2 t3 s0.1 x178.1 (w64 (s0.2.2.1-1)) x178.2 m1_0 m1_1 m1_2 m1_3 m1_4 m1_5) fun x184 hx184=>?_;conv=>arg 3;whnf
           exact Zd (ih _)
         ·refine Ze rfl ?_ ?_<;>conv=>arg 3;whnf
          ·refine Zc (Za t0 t1 t2 t3 (w64 (x178.1+1)) s0.2.1 (w64 (s0.2.2.1-1)) x178.2 m1_0 m1_1 m1_2 m1_3 m1_4 m1_5) (hrc t0 t1 t2 t3 (w64 (x178.1+1)) s0.2.1 (w64 (s0.2.2.1-1)) x178.2 m1_0 m1_1 m1_2 m1_3 m1_4 m1_5) fun x185 hx185=>?_;conv=>arg 3;whnf
           exact Zd (ih _)
          ·refine Zc (Za t0 t1 t2 t3 (w64 (x178.1+1)) s0.2.1 (w64 (s0.2.2.1-1)) x178.2 m1_0 m1_1 m1_2 m1_3 m1_4 m1_5) (hrc t0 t1 t2 t3 (w64 (x178.1+1)) s0.2.1 (w64 (s0.2.2.1-1)) x178.2 m1_0 m1_1 m1_2 m1_3 m1_4 m1_5) fun x186 hx186=>?_;conv=>arg 3;whnf
           exact Zd (ih _)
       ·refine Zc _ Zz fun x187 hx187=>?_;conv=>arg 3;whnf
        exact Zd (ih _)
      ·refine Zc _ Zj fun x188 hx188=>?_
       clear hx188
       rcases x188 with x188 | x188
       ·conv=>arg 3;whnf
        refine ZbP rfl ?_;conv=>arg 3;whnf
        refine Zaj rfl ?_;conv=>arg 3;whnf
        refine Ze rfl ?_ ?_<;>conv=>arg 3;whnf
        ·refine Ze rfl ?_ ?_<;>conv=>arg 3;whnf
         ·refine Zc (Za t0 t1 t2 t3 s0.1 x188.1 (w64 (s0.2.2.1-1)) x188.2 m1_0 m1_1 m1_2 m1_3 m1_4 m1_5) (hrc t0 t1 t2 t3 s0.1 x188.1 (w64 (s0.2.2.1-1)) x188.2 m1_0 m1_1 m1_2 m1_3 m1_4 m1_5) fun x189 hx189=>?_;conv=>arg 3;whnf
          exact Zd (ih _)
         ·refine Zc (Za t0 t1 t2 t3 s0.1 x188.1 (w64 (s0.2.2.1-1)) x188.2 m1_0 m1_1 m1_2 m1_3 m1_4 m1_5) (hrc t0 t1 t2 t3 s0.1 x188.1 (w64 (s0.2.2.1-1)) x188.2 m1_0 m1_1 m1_2 m1_3 m1_4 m1_5) fun x190 hx190=>?_;conv=>arg 3;whnf
          exact Zd (ih _)
        ·refine Ze rfl ?_ ?_<;>conv=>arg 3;whnf
         ·refine Zc (Za t0 t1 t2 t3 (w64 (x188.1+1)) s0.2.1 (w64 (s0.2.2.1-1)) x188.2 m1_0 m1_1 m1_2 m1_3 m1_4 m1_5) (hrc t0 t1 t2 t3 (w64 (x188.1+1)) s0.2.1 (w64 (s0.2.2.1-1)) x188.2 m1_0 m1_1 m1_2 m1_3 m1_4 m1_5) fun x191 hx191=>?_;conv=>arg 3;whnf
          exact Zd (ih _)
         ·refine Zc (Za t0 t1 t2 t3 (w64 (x188.1+1)) s0.2.1 (w64 (s0.2.2.1-1)) x188.2 m1_0 m1_1 m1_2 m1_3 m1_4 m1_5) (hrc t0 t1 t2 t3 (w64 (x188.1+1)) s0.2.1 (w64 (s0.2.2.1-1)) x188.2 m1_0 m1_1 m1_2 m1_3 m1_4 m1_5) fun x192 hx192=>?_;conv=>arg 3;whnf
          exact Zd (ih _)
       ·conv=>arg 3;whnf
        refine Zaj rfl ?_;conv=>arg 3;whnf
        refine Zaj rfl ?_;conv=>arg 3;whnf
        refine Ze rfl ?_ ?_<;>conv=>arg 3;whnf
        ·refine Ze rfl ?_ ?_<;>conv=>arg 3;whnf
         ·refine Zc (Za t0 t1 t2 t3 s0.1 x188.1 (w64 (s0.2.2.1-1)) x188.2 m1_0 m1_1 m1_2 m1_3 m1_4 m1_5) (hrc t0 t1 t2 t3 s0.1 x188.1 (w64 (s0.2.2.1-1)) x188.2 m1_0 m1_1 m1_2 m1_3 m1_4 m1_5) fun x193 hx193=>?_;conv=>arg 3;whnf
          exact Zd (ih _)
         ·refine Zc (Za t0 t1 t2 t3 s0.1 x188.1 (w64 (s0.2.2.1-1)) x188.2 m1_0 m1_1 m1_2 m1_3 m1_4 m1_5) (hrc t0 t1 t2 t3 s0.1 x188.1 (w64 (s0.2.2.1-1)) x188.2 m1_0 m1_1 m1_2 m1_3 m1_4 m1_5) fun x194 hx194=>?_;conv=>arg 3;whnf
          exact Zd (ih _)
        ·refine Ze rfl ?_ ?_<;>conv=>arg 3;whnf
         ·refine Zc (Za t0 t1 t2 t3 (w64 (x188.1+1)) s0.2.1 (w64 (s0.2.2.1-1)) x188.2 m1_0 m1_1 m1_2 m1_3 m1_4 m1_5) (hrc t0 t1 t2 t3 (w64 (x188.1+1)) s0.2.1 (w64 (s0.2.2.1-1)) x188.2 m1_0 m1_1 m1_2 m1_3 m1_4 m1_5) fun x195 hx195=>?_;conv=>arg 3;whnf
          exact Zd (ih _)
         ·refine Zc (Za t0 t1 t2 t3 (w64 (x188.1+1)) s0.2.1 (w64 (s0.2.2.1-1)) x188.2 m1_0 m1_1 m1_2 m1_3 m1_4 m1_5) (hrc t0 t1 t2 t3 (w64 (x188.1+1)) s0.2.1 (w64 (s0.2.2.1-1)) x188.2 m1_0 m1_1 m1_2 m1_3 m1_4 m1_5) fun x196 hx196=>?_;conv=>arg 3;whnf
          exact Zd (ih _)
     ·refine Ze rfl ?_ ?_<;>conv=>arg 3;whnf
      ·refine Zl rfl rfl fun x197 hx197=>?_;conv=>arg 3;whnf
       refine Zg (Zy rfl hx197) ?_;conv=>arg 3;whnf
       refine Zl rfl rfl fun x198 hx198=>?_;conv=>arg 3;whnf
       refine Zg (Zy rfl hx198) ?_;conv=>arg 3;whnf
       refine Zr _ ZE rfl fun x199 hx199=>?_;conv=>arg 3;whnf
       refine Ze rfl ?_ ?_<;>conv=>arg 3;whnf
       ·refine Zc _ Zj fun x200 hx200=>?_
        clear hx200
        rcases x200 with x200 | x200
        ·conv=>arg 3;whnf
         refine ZbP rfl ?_;conv=>arg 3;whnf
         refine Zaj rfl ?_;conv=>arg 3;whnf
         refine Ze rfl ?_ ?_<;>conv=>arg 3;whnf
         ·refine Ze rfl ?_ ?_<;>conv=>arg 3;whnf
          ·refine Zc (Za t0 t1 t2 t3 s0.1 x200.1 (w64 (s0.2.2.1-1)) x200.2 m1_0 m1_1 m1_2 m1_3 m1_4 m1_5) (hrc t0 t1 t2 t3 s0.1 x200.1 (w64 (s0.2.2.1-1)) x200.2 m1_0 m1_1 m1_2 m1_3 m1_4 m1_5) fun x201 hx201=>?_;conv=>arg 3;whnf
           exact Zd (ih _)
          ·refine Zc (Za t0 t1 t2 t3 s0.1 x200.1 (w64 (s0.2.2.1-1)) x200.2 m1_0 m1_1 m1_2 m1_3 m1_4 m1_5) (hrc t0 t1 t2 t3 s0.1 x200.1 (w64 (s0.2.2.1-1)) x200.2 m1_0 m1_1 m1_2 m1_3 m1_4 m1_5) fun x202 hx202=>?_;conv=>arg 3;whnf
           exact Zd (ih _)
         ·refine Ze rfl ?_ ?_<;>conv=>arg 3;whnf
          ·refine Zc (Za t0 t1 t2 t3 (w64 (x200.1+1)) s0.2.1 (w64 (s0.2.2.1-1)) x200.2 m1_0 m1_1 m1_2 m1_3 m1_4 m1_5) (hrc t0 t1 t2 t3 (w64 (x200.1+1)) s0.2.1 (w64 (s0.2.2.1-1)) x200.2 m1_0 m1_1 m1_2 m1_3 m1_4 m1_5) fun x203 hx203=>?_;conv=>arg 3;whnf
           exact Zd (ih _)
          ·refine Zc (Za t0 t1 t2 t3 (w64 (x200.1+1)) s0.2.1 (w64 (s0.2.2.1-1)) x200.2 m1_0 m1_1 m1_2 m1_3 m1_4 m1_5) (hrc t0 t1 t2 t3 (w64 (x200.1+1)) s0.2.1 (w64 (s0.2.2.1-1)) x200.2 m1_0 m1_1 m1_2 m1_3 m1_4 m1_5) fun x204 hx204=>?_;conv=>arg 3;whnf
           exact Zd (ih _)
        ·conv=>arg 3;whnf
         refine Zaj rfl ?_;conv=>arg 3;whnf
         refine Zaj rfl ?_;conv=>arg 3;whnf
         refine Ze rfl ?_ ?_<;>conv=>arg 3;whnf
         ·refine Ze rfl ?_ ?_<;>conv=>arg 3;whnf
          ·refine Zc (Za t0 t1 t2 t3 s0.1 x200.1 (w64 (s0.2.2.1-1)) x200.2 m1_0 m1_1 m1_2 m1_3 m1_4 m1_5) (hrc t0 t1 t2 t3 s0.1 x200.1 (w64 (s0.2.2.1-1)) x200.2 m1_0 m1_1 m1_2 m1_3 m1_4 m1_5) fun x205 hx205=>?_;conv=>arg 3;whnf
           exact Zd (ih _)
          ·refine Zc (Za t0 t1 t2 t3 s0.1 x200.1 (w64 (s0.2.2.1-1)) x200.2 m1_0 m1_1 m1_2 m1_3 m1_4 m1_5) (hrc t0 t1 t2 t3 s0.1 x200.1 (w64 (s0.2.2.1-1)) x200.2 m1_0 m1_1 m1_2 m1_3 m1_4 m1_5) fun x206 hx206=>?_;conv=>arg 3;whnf
           exact Zd (ih _)
         ·refine Ze rfl ?_ ?_<;>conv=>arg 3;whnf
          ·refine Zc (Za t0 t1 t2 t3 (w64 (x200.1+1)) s0.2.1 (w64 (s0.2.2.1-1)) x200.2 m1_0 m1_1 m1_2 m1_3 m1_4 m1_5) (hrc t0 t1 t2 t3 (w64 (x200.1+1)) s0.2.1 (w64 (s0.2.2.1-1)) x200.2 m1_0 m1_1 m1_2 m1_3 m1_4 m1_5) fun x207 hx207=>?_;conv=>arg 3;whnf
           exact Zd (ih _)
          ·refine Zc (Za t0 t1 t2 t3 (w64 (x200.1+1)) s0.2.1 (w64 (s0.2.2.1-1)) x200.2 m1_0 m1_1 m1_2 m1_3 m1_4 m1_5) (hrc t0 t1 t2 t3 (w64 (x200.1+1)) s0.2.1 (w64 (s0.2.2.1-1)) x200.2 m1_0 m1_1 m1_2 m1_3 m1_4 m1_5) fun x208 hx208=>?_;conv=>arg 3;whnf
           exact Zd (ih _)
       ·refine Zc _ Zz fun x209 hx209=>?_;conv=>arg 3;whnf
        exact Zd (ih _)
      ·refine Zc _ Zj fun x210 hx210=>?_
       clear hx210
       rcases x210 with x210 | x210
       ·conv=>arg 3;whnf
        refine ZbP rfl ?_;conv=>arg 3;whnf
        refine Zaj rfl ?_;conv=>arg 3;whnf
        refine Ze rfl ?_ ?_<;>conv=>arg 3;whnf
        ·refine Ze rfl ?_ ?_<;>conv=>arg 3;whnf
         ·refine Zc (Za t0 t1 t2 t3 s0.1 x210.1 (w64 (s0.2.2.1-1)) x210.2 m1_0 m1_1 m1_2 m1_3 m1_4 m1_5) (hrc t0 t1 t2 t3 s0.1 x210.1 (w64 (s0.2.2.1-1)) x210.2 m1_0 m1_1 m1_2 m1_3 m1_4 m1_5) fun x211 hx211=>?_;conv=>arg 3;whnf
          exact Zd (ih _)
         ·refine Zc (Za t0 t1 t2 t3 s0.1 x210.1 (w64 (s0.2.2.1-1)) x210.2 m1_0 m1_1 m1_2 m1_3 m1_4 m1_5) (hrc t0 t1 t2 t3 s0.1 x210.1 (w64 (s0.2.2.1-1)) x210.2 m1_0 m1_1 m1_2 m1_3 m1_4 m1_5) fun x212 hx212=>?_;conv=>arg 3;whnf
          exact Zd (ih _)
        ·refine Ze rfl ?_ ?_<;>conv=>arg 3;whnf
         ·refine Zc (Za t0 t1 t2 t3 (w64 (x210.1+1)) s0.2.1 (w64 (s0.2.2.1-1)) x210.2 m1_0 m1_1 m1_2 m1_3 m1_4 m1_5) (hrc t0 t1 t2 t3 (w64 (x210.1+1)) s0.2.1 (w64 (s0.2.2.1-1)) x210.2 m1_0 m1_1 m1_2 m1_3 m1_4 m1_5) fun x213 hx213=>?_;conv=>arg 3;whnf
          exact Zd (ih _)
         ·refine Zc (Za t0 t1 t2 t3 (w64 (x210.1+1)) s0.2.1 (w64 (s0.2.2.1-1)) x210.2 m1_0 m1_1 m1_2 m1_3 m1_4 m1_5) (hrc t0 t1 t2 t3 (w64 (x210.1+1)) s0.2.1 (w64 (s0.2.2.1-1)) x210.2 m1_0 m1_1 m1_2 m1_3 m1_4 m1_5) fun x214 hx214=>?_;conv=>arg 3;whnf
          exact Zd (ih _)
       ·conv=>arg 3;whnf
        refine Zaj rfl ?_;conv=>arg 3;whnf
        refine Zaj rfl ?_;conv=>arg 3;whnf
        refine Ze rfl ?_ ?_<;>conv=>arg 3;whnf
        ·refine Ze rfl ?_ ?_<;>conv=>arg 3;whnf
         ·refine Zc (Za t0 t1 t2 t3 s0.1 x210.1 (w64 (s0.2.2.1-1)) x210.2 m1_0 m1_1 m1_2 m1_3 m1_4 m1_5) (hrc t0 t1 t2 t3 s0.1 x210.1 (w64 (s0.2.2.1-1)) x210.2 m1_0 m1_1 m1_2 m1_3 m1_4 m1_5) fun x215 hx215=>?_;conv=>arg 3;whnf
          exact Zd (ih _)
         ·refine Zc (Za t0 t1 t2 t3 s0.1 x210.1 (w64 (s0.2.2.1-1)) x210.2 m1_0 m1_1 m1_2 m1_3 m1_4 m1_5) (hrc t0 t1 t2 t3 s0.1 x210.1 (w64 (s0.2.2.1-1)) x210.2 m1_0 m1_1 m1_2 m1_3 m1_4 m1_5) fun x216 hx216=>?_;conv=>arg 3;whnf
          exact Zd (ih _)
        ·refine Ze rfl ?_ ?_<;>conv=>arg 3;whnf
         ·refine Zc (Za t0 t1 t2 t3 (w64 (x210.1+1)) s0.2.1 (w64 (s0.2.2.1-1)) x210.2 m1_0 m1_1 m1_2 m1_3 m1_4 m1_5) (hrc t0 t1 t2 t3 (w64 (x210.1+1)) s0.2.1 (w64 (s0.2.2.1-1)) x210.2 m1_0 m1_1 m1_2 m1_3 m1_4 m1_5) fun x217 hx217=>?_;conv=>arg 3;whnf
          exact Zd (ih _)
         ·refine Zc (Za t0 t1 t2 t3 (w64 (x210.1+1)) s0.2.1 (w64 (s0.2.2.1-1)) x210.2 m1_0 m1_1 m1_2 m1_3 m1_4 m1_5) (hrc t0 t1 t2 t3 (w64 (x210.1+1)) s0.2.1 (w64 (s0.2.2.1-1)) x210.2 m1_0 m1_1 m1_2 m1_3 m1_4 m1_5) fun x218 hx218=>?_;conv=>arg 3;whnf
          exact Zd (ih _)
  ·refine ZrS ?_;conv=>arg 3;whnf
   refine Ze rfl ?_ ?_<;>conv=>arg 3;whnf
   ·refine Zc _ Z8 fun x121 hx121=>?_;conv=>arg 3;whnf
    exact Zf rfl
   ·refine Ze rfl ?_ ?_<;>conv=>arg 3;whnf
    ·refine Zc _ Zao fun x122 hx122=>?_;conv=>arg 3;whnf
     exact Zf rfl
    ·refine Zc _ Zbz fun x123 hx123=>?_;conv=>arg 3;whnf
     refine Zc _ Zaf fun x124 hx124=>?_;conv=>arg 3;whnf
     refine Ze rfl ?_ ?_<;>conv=>arg 3;whnf
     ·refine Zc _ Zae fun x125 hx125=>?_;conv=>arg 3;whnf
      refine Ze rfl ?_ ?_<;>conv=>arg 3;whnf
      ·refine Zl rfl rfl fun x126 hx126=>?_;conv=>arg 3;whnf
       refine Zg (Zy rfl hx126) ?_;conv=>arg 3;whnf
       refine Zl rfl rfl fun x127 hx127=>?_;conv=>arg 3;whnf
       refine Zg (Zy rfl hx127) ?_;conv=>arg 3;whnf
       refine Zr _ ZE rfl fun x128 hx128=>?_;conv=>arg 3;whnf
       refine Ze rfl ?_ ?_<;>conv=>arg 3;whnf
       ·refine Zc _ Zj fun x129 hx129=>?_
        clear hx129
        rcases x129 with x129 | x129
        ·conv=>arg 3;whnf
         refine ZbP rfl ?_;conv=>arg 3;whnf
         refine Zaj rfl ?_;conv=>arg 3;whnf
         refine Ze rfl ?_ ?_<;>conv=>arg 3;whnf
         ·refine Ze rfl ?_ ?_<;>conv=>arg 3;whnf
          ·refine Zc (Za t0 t1 t2 t3 s0.1 x129.1 (w64 (s0.2.2.1-1)) x129.2 m1_0 m1_1 m1_2 m1_3 m1_4 m1_5) (hrc t0 t1 t2 t3 s0.1 x129.1 (w64 (s0.2.2.1-1)) x129.2 m1_0 m1_1 m1_2 m1_3 m1_4 m1_5) fun x130 hx130=>?_;conv=>arg 3;whnf
           exact Zd (ih _)
          ·refine Zc (Za t0 t1 t2 t3 s0.1 x129.1 (w64 (s0.2.2.1-1)) x129.2 m1_0 m1_1 m1_2 m1_3 m1_4 m1_5) (hrc t0 t1 t2 t3 s0.1 x129.1 (w64 (s0.2.2.1-1)) x129.2 m1_0 m1_1 m1_2 m1_3 m1_4 m1_5) fun x131 hx131=>?_;conv=>arg 3;whnf
           exact Zd (ih _)
         ·refine Ze rfl ?_ ?_<;>conv=>arg 3;whnf
          ·refine Zc (Za t0 t1 t2 t3 (w64 (x129.1+1)) s0.2.1 (w64 (s0.2.2.1-1)) x129.2 m1_0 m1_1 m1_2 m1_3 m1_4 m1_5) (hrc t0 t1 t2 t3 (w64 (x129.1+1)) s0.2.1 (w64 (s0.2.2.1-1)) x129.2 m1_0 m1_1 m1_2 m1_3 m1_4 m1_5) fun x132 hx132=>?_;conv=>arg 3;whnf
           exact Zd (ih _)
          ·refine Zc (Za t0 t1 t2 t3 (w64 (x129.1+1)) s0.2.1 (w64 (s0.2.2.1-1)) x129.2 m1_0 m1_1 m1_2 m1_3 m1_4 m1_5) (hrc t0 t1 t2 t3 (w64 (x129.1+1)) s0.2.1 (w64 (s0.2.2.1-1)) x129.2 m1_0 m1_1 m1_2 m1_3 m1_4 m1_5) fun x133 hx133=>?_;conv=>arg 3;whnf
           exact Zd (ih _)
        ·conv=>arg 3;whnf
         refine Zaj rfl ?_;conv=>arg 3;whnf
         refine Zaj rfl ?_;conv=>arg 3;whnf
         refine Ze rfl ?_ ?_<;>conv=>arg 3;whnf
         ·refine Ze rfl ?_ ?_<;>conv=>arg 3;whnf
          ·refine Zc (Za t0 t1 t2 t3 s0.1 x129.1 (w64 (s0.2.2.1-1)) x129.2 m1_0 m1_1 m1_2 m1_3 m1_4 m1_5) (hrc t0 t1 t2 t3 s0.1 x129.1 (w64 (s0.2.2.1-1)) x129.2 m1_0 m1_1 m1_2 m1_3 m1_4 m1_5) fun x134 hx134=>?_;conv=>arg 3;whnf
           exact Zd (ih _)
          ·refine Zc (Za t0 t1 t2 t3 s0.1 x129.1 (w64 (s0.2.2.1-1)) x129.2 m1_0 m1_1 m1_2 m1_3 m1_4 m1_5) (hrc t0 t1 t2 t3 s0.1 x129.1 (w64 (s0.2.2.1-1)) x129.2 m1_0 m1_1 m1_2 m1_3 m1_4 m1_5) fun x135 hx135=>?_;conv=>arg 3;whnf
           exact Zd (ih _)
         ·refine Ze rfl ?_ ?_<;>conv=>arg 3;whnf
          ·refine Zc (Za t0 t1 t2 t3 (w64 (x129.1+1)) s0.2.1 (w64 (s0.2.2.1-1)) x129.2 m1_0 m1_1 m1_2 m1_3 m1_4 m1_5) (hrc t0 t1 t2 t3 (w64 (x129.1+1)) s0.2.1 (w64 (s0.2.2.1-1)) x129.2 m1_0 m1_1 m1_2 m1_3 m1_4 m1_5) fun x136 hx136=>?_;conv=>arg 3;whnf
           exact Zd (ih _)
          ·refine Zc (Za t0 t1 t2 t3 (w64 (x129.1+1)) s0.2.1 (w64 (s0.2.2.1-1)) x129.2 m1_0 m1_1 m1_2 m1_3 m1_4 m1_5) (hrc t0 t1 t2 t3 (w64 (x129.1+1)) s0.2.1 (w64 (s0.2.2.1-1)) x129.2 m1_0 m1_1 m1_2 m1_3 m1_4 m1_5) fun x137 hx137=>?_;conv=>arg 3;whnf
           exact Zd (ih _)
       ·refine Zc _ Zz fun x138 hx138=>?_;conv=>arg 3;whnf
        exact Zd (ih _)
      ·refine Zc _ Zj fun x139 hx139=>?_
       clear hx139
       rcases x139 with x139 | x139
       ·conv=>arg 3;whnf
        refine ZbP rfl ?_;conv=>arg 3;whnf
        refine Zaj rfl ?_;conv=>arg 3;whnf
        refine Ze rfl ?_ ?_<;>conv=>arg 3;whnf
        ·refine Ze rfl ?_ ?_<;>conv=>arg 3;whnf
         ·refine Zc (Za t0 t1 t2 t3 s0.1 x139.1 (w64 (s0.2.2.1-1)) x139.2 m1_0 m1_1 m1_2 m1_3 m1_4 m1_5) (hrc t0 t1 t2 t3 s0.1 x139.1 (w64 (s0.2.2.1-1)) x139.2 m1_0 m1_1 m1_2 m1_3 m1_4 m1_5) fun x140 hx140=>?_;conv=>arg 3;whnf
          exact Zd (ih _)
         ·refine Zc (Za t0 t1 t2 t3 s0.1 x139.1 (w64 (s0.2.2.1-1)) x139.2 m1_0 m1_1 m1_2 m1_3 m1_4 m1_5) (hrc t0 t1 t2 t3 s0.1 x139.1 (w64 (s0.2.2.1-1)) x139.2 m1_0 m1_1 m1_2 m1_3 m1_4 m1_5) fun x141 hx141=>?_;conv=>arg 3;whnf
          exact Zd (ih _)
        ·refine Ze rfl ?_ ?_<;>conv=>arg 3;whnf
         ·refine Zc (Za t0 t1 t2 t3 (w64 (x139.1+1)) s0.2.1 (w64 (s0.2.2.1-1)) x139.2 m1_0 m1_1 m1_2 m1_3 m1_4 m1_5) (hrc t0 t1 t2 t3 (w64 (x139.1+1)) s0.2.1 (w64 (s0.2.2.1-1)) x139.2 m1_0 m1_1 m1_2 m1_3 m1_4 m1_5) fun x142 hx142=>?_;conv=>arg 3;whnf
          exact Zd (ih _)
         ·refine Zc (Za t0 t1 t2 t3 (w64 (x139.1+1)) s0.2.1 (w64 (s0.2.2.1-1)) x139.2 m1_0 m1_1 m1_2 m1_3 m1_4 m1_5) (hrc t0 t1 t2 t3 (w64 (x139.1+1)) s0.2.1 (w64 (s0.2.2.1-1)) x139.2 m1_0 m1_1 m1_2 m1_3 m1_4 m1_5) fun x143 hx143=>?_;conv=>arg 3;whnf
          exact Zd (ih _)
       ·conv=>arg 3;whnf
        refine Zaj rfl ?_;conv=>arg 3;whnf
        refine Zaj rfl ?_;conv=>arg 3;whnf
        refine Ze rfl ?_ ?_<;>conv=>arg 3;whnf
        ·refine Ze rfl ?_ ?_<;>conv=>arg 3;whnf
         ·refine Zc (Za t0 t1 t2 t3 s0.1 x139.1 (w64 (s0.2.2.1-1)) x139.2 m1_0 m1_1 m1_2 m1_3 m1_4 m1_5) (hrc t0 t1 t2 t3 s0.1 x139.1 (w64 (s0.2.2.1-1)) x139.2 m1_0 m1_1 m1_2 m1_3 m1_4 m1_5) fun x144 hx144=>?_;conv=>arg 3;whnf
          exact Zd (ih _)
         ·refine Zc (Za t0 t1 t2 t3 s0.1 x139.1 (w64 (s0.2.2.1-1)) x139.2 m1_0 m1_1 m1_2 m1_3 m1_4 m1_5) (hrc t0 t1 t2 t3 s0.1 x139.1 (w64 (s0.2.2.1-1)) x139.2 m1_0 m1_1 m1_2 m1_3 m1_4 m1_5) fun x145 hx145=>?_;conv=>arg 3;whnf
          exact Zd (ih _)
        ·refine Ze rfl ?_ ?_<;>conv=>arg 3;whnf
         ·refine Zc (Za t0 t1 t2 t3 (w64 (x139.1+1)) s0.2.1 (w64 (s0.2.2.1-1)) x139.2 m1_0 m1_1 m1_2 m1_3 m1_4 m1_5) (hrc t0 t1 t2 t3 (w64 (x139.1+1)) s0.2.1 (w64 (s0.2.2.1-1)) x139.2 m1_0 m1_1 m1_2 m1_3 m1_4 m1_5) fun x146 hx146=>?_;conv=>arg 3;whnf
          exact Zd (ih _)
         ·refine Zc (Za t0 t1 t2 t3 (w64 (x139.1+1)) s0.2.1 (w64 (s0.2.2.1-1)) x139.2 m1_0 m1_1 m1_2 m1_3 m1_4 m1_5) (hrc t0 t1 t2 t3 (w64 (x139.1+1)) s0.2.1 (w64 (s0.2.2.1-1)) x139.2 m1_0 m1_1 m1_2 m1_3 m1_4 m1_5) fun x147 hx147=>?_;conv=>arg 3;whnf
          exact Zd (ih _)
     ·refine Ze rfl ?_ ?_<;>conv=>arg 3;whnf
      ·refine Zl rfl rfl fun x148 hx148=>?_;conv=>arg 3;whnf
       refine Zg (Zy rfl hx148) ?_;conv=>arg 3;whnf
       refine Zl rfl rfl fun x149 hx149=>?_;conv=>arg 3;whnf
       refine Zg (Zy rfl hx149) ?_;conv=>arg 3;whnf
       refine Zr _ ZE rfl fun x150 hx150=>?_;conv=>arg 3;whnf
       refine Ze rfl ?_ ?_<;>conv=>arg 3;whnf
       ·refine Zc _ Zj fun x151 hx151=>?_
        clear hx151
        rcases x151 with x151 | x151
        ·conv=>arg 3;whnf
         refine ZbP rfl ?_;conv=>arg 3;whnf
         refine Zaj rfl ?_;conv=>arg 3;whnf
         refine Ze rfl ?_ ?_<;>conv=>arg 3;whnf
         ·refine Ze rfl ?_ ?_<;>conv=>arg 3;whnf
          ·refine Zc (Za t0 t1 t2 t3 s0.1 x151.1 (w64 (s0.2.2.1-1)) x151.2 m1_0 m1_1 m1_2 m1_3 m1_4 m1_5) (hrc t0 t1 t2 t3 s0.1 x151.1 (w64 (s0.2.2.1-1)) x151.2 m1_0 m1_1 m1_2 m1_3 m1_4 m1_5) fun x152 hx152=>?_;conv=>arg 3;whnf
           exact Zd (ih _)
          ·refine Zc (Za t0 t1 t2 t3 s0.1 x151.1 (w64 (s0.2.2.1-1)) x151.2 m1_0 m1_1 m1_2 m1_3 m1_4 m1_5) (hrc t0 t1 t2 t3 s0.1 x151.1 (w64 (s0.2.2.1-1)) x151.2 m1_0 m1_1 m1_2 m1_3 m1_4 m1_5) fun x153 hx153=>?_;conv=>arg 3;whnf
           exact Zd (ih _)
         ·refine Ze rfl ?_ ?_<;>conv=>arg 3;whnf
          ·refine Zc (Za t0 t1 t2 t3 (w64 (x151.1+1)) s0.2.1 (w64 (s0.2.2.1-1)) x151.2 m1_0 m1_1 m1_2 m1_3 m1_4 m1_5) (hrc t0 t1 t2 t3 (w64 (x151.1+1)) s0.2.1 (w64 (s0.2.2.1-1)) x151.2 m1_0 m1_1 m1_2 m1_3 m1_4 m1_5) fun x154 hx154=>?_;conv=>arg 3;whnf
           exact Zd (ih _)
          ·refine Zc (Za t0 t1 t2 t3 (w64 (x151.1+1)) s0.2.1 (w64 (s0.2.2.1-1)) x151.2 m1_0 m1_1 m1_2 m1_3 m1_4 m1_5) (hrc t0 t1 t2 t3 (w64 (x151.1+1)) s0.2.1 (w64 (s0.2.2.1-1)) x151.2 m1_0 m1_1 m1_2 m1_3 m1_4 m1_5) fun x155 hx155=>?_;conv=>arg 3;whnf
           exact Zd (ih _)
        ·conv=>arg 3;whnf
         refine Zaj rfl ?_;conv=>arg 3;whnf
         refine Zaj rfl ?_;conv=>arg 3;whnf
         refine Ze rfl ?_ ?_<;>conv=>arg 3;whnf
         ·refine Ze rfl ?_ ?_<;>conv=>arg 3;whnf
          ·refine Zc (Za t0 t1 t2 t3 s0.1 x151.1 (w64 (s0.2.2.1-1)) x151.2 m1_0 m1_1 m1_2 m1_3 m1_4 m1_5) (hrc t0 t1 t2 t3 s0.1 x151.1 (w64 (s0.2.2.1-1)) x151.2 m1_0 m1_1 m1_2 m1_3 m1_4 m1_5) fun x156 hx156=>?_;conv=>arg 3;whnf
           exact Zd (ih _)
          ·refine Zc (Za t0 t1 t2 t3 s0.1 x151.1 (w64 (s0.2.2.1-1)) x151.2 m1_0 m1_1 m1_2 m1_3 m1_4 m1_5) (hrc t0 t1 t2 t3 s0.1 x151.1 (w64 (s0.2.2.1-1)) x151.2 m1_0 m1_1 m1_2 m1_3 m1_4 m1_5) fun x157 hx157=>?_;conv=>arg 3;whnf
           exact Zd (ih _)
         ·refine Ze rfl ?_ ?_<;>conv=>arg 3;whnf
          ·refine Zc (Za t0 t1 t2 t3 (w64 (x151.1+1)) s0.2.1 (w64 (s0.2.2.1-1)) x151.2 m1_0 m1_1 m1_2 m1_3 m1_4 m1_5) (hrc t0 t1 t2 t3 (w64 (x151.1+1)) s0.2.1 (w64 (s0.2.2.1-1)) x151.2 m1_0 m1_1 m1_2 m1_3 m1_4 m1_5) fun x158 hx158=>?_;conv=>arg 3;whnf
           exact Zd (ih _)
          ·refine Zc (Za t0 t1 t2 t3 (w64 (x151.1+1)) s0.2.1 (w64 (s0.2.2.1-1)) x151.2 m1_0 m1_1 m1_2 m1_3 m1_4 m1_5) (hrc t0 t1 t2 t3 (w64 (x151.1+1)) s0.2.1 (w64 (s0.2.2.1-1)) x151.2 m1_0 m1_1 m1_2 m1_3 m1_4 m1_5) fun x159 hx159=>?_;conv=>arg 3;whnf
           exact Zd (ih _)
       ·refine Zc _ Zz fun x160 hx160=>?_;conv=>arg 3;whnf
        exact Zd (ih _)
      ·refine Zc _ Zj fun x161 hx161=>?_
       clear hx161
       rcases x161 with x161 | x161
       ·conv=>arg 3;whnf
        refine ZbP rfl ?_;conv=>arg 3;whnf
        refine Zaj rfl ?_;conv=>arg 3;whnf
        refine Ze rfl ?_ ?_<;>conv=>arg 3;whnf
        ·refine Ze rfl ?_ ?_<;>conv=>arg 3;whnf
         ·refine Zc (Za t0 t1 t2 t3 s0.1 x161.1 (w64 (s0.2.2.1-1)) x161.2 m1_0 m1_1 m1_2 m1_3 m1_4 m1_5) (hrc t0 t1 t2 t3 s0.1 x161.1 (w64 (s0.2.2.1-1)) x161.2 m1_0 m1_1 m1_2 m1_3 m1_4 m1_5) fun x162 hx162=>?_;conv=>arg 3;whnf
          exact Zd (ih _)
         ·refine Zc (Za t0 t1 t2 t3 s0.1 x161.1 (w64 (s0.2.2.1-1)) x161.2 m1_0 m1_1 m1_2 m1_3 m1_4 m1_5) (hrc t0 t1 t2 t3 s0.1 x161.1 (w64 (s0.2.2.1-1)) x161.2 m1_0 m1_1 m1_2 m1_3 m1_4 m1_5) fun x163 hx163=>?_;conv=>arg 3;whnf
          exact Zd (ih _)
        ·refine Ze rfl ?_ ?_<;>conv=>arg 3;whnf
         ·refine Zc (Za t0 t1 t2 t3 (w64 (x161.1+1)) s0.2.1 (w64 (s0.2.2.1-1)) x161.2 m1_0 m1_1 m1_2 m1_3 m1_4 m1_5) (hrc t0 t1 t2 t3 (w64 (x161.1+1)) s0.2.1 (w64 (s0.2.2.1-1)) x161.2 m1_0 m1_1 m1_2 m1_3 m1_4 m1_5) fun x164 hx164=>?_;conv=>arg 3;whnf
          exact Zd (ih _)
         ·refine Zc (Za t0 t1 t2 t3 (w64 (x161.1+1)) s0.2.1 (w64 (s0.2.2.1-1)) x161.2 m1_0 m1_1 m1_2 m1_3 m1_4 m1_5) (hrc t0 t1 t2 t3 (w64 (x161.1+1)) s0.2.1 (w64 (s0.2.2.1-1)) x161.2 m1_0 m1_1 m1_2 m1_3 m1_4 m1_5) fun x165 hx165=>?_;conv=>arg 3;whnf
          exact Zd (ih _)
       ·conv=>arg 3;whnf
        refine Zaj rfl ?_;conv=>arg 3;whnf
        refine Zaj rfl ?_;conv=>arg 3;whnf
        refine Ze rfl ?_ ?_<;>conv=>arg 3;whnf
        ·refine Ze rfl ?_ ?_<;>conv=>arg 3;whnf
         ·refine Zc (Za t0 t1 t2 t3 s0.1 x161.1 (w64 (s0.2.2.1-1)) x161.2 m1_0 m1_1 m1_2 m1_3 m1_4 m1_5) (hrc t0 t1 t2 t3 s0.1 x161.1 (w64 (s0.2.2.1-1)) x161.2 m1_0 m1_1 m1_2 m1_3 m1_4 m1_5) fun x166 hx166=>?_;conv=>arg 3;whnf
          exact Zd (ih _)
         ·refine Zc (Za t0 t1 t2 t3 s0.1 x161.1 (w64 (s0.2.2.1-1)) x161.2 m1_0 m1_1 m1_2 m1_3 m1_4 m1_5) (hrc t0 t1 t2 t3 s0.1 x161.1 (w64 (s0.2.2.1-1)) x161.2 m1_0 m1_1 m1_2 m1_3 m1_4 m1_5) fun x167 hx167=>?_;conv=>arg 3;whnf
          exact Zd (ih _)
        ·refine Ze rfl ?_ ?_<;>conv=>arg 3;whnf
         ·refine Zc (Za t0 t1 t2 t3 (w64 (x161.1+1)) s0.2.1 (w64 (s0.2.2.1-1)) x161.2 m1_0 m1_1 m1_2 m1_3 m1_4 m1_5) (hrc t0 t1 t2 t3 (w64 (x161.1+1)) s0.2.1 (w64 (s0.2.2.1-1)) x161.2 m1_0 m1_1 m1_2 m1_3 m1_4 m1_5) fun x168 hx168=>?_;conv=>arg 3;whnf
          exact Zd (ih _)
         ·refine Zc (Za t0 t1 t2 t3 (w64 (x161.1+1)) s0.2.1 (w64 (s0.2.2.1-1)) x161.2 m1_0 m1_1 m1_2 m1_3 m1_4 m1_5) (hrc t0 t1 t2 t3 (w64 (x161.1+1)) s0.2.1 (w64 (s0.2.2.1-1)) x161.2 m1_0 m1_1 m1_2 m1_3 m1_4 m1_5) fun x169 hx169=>?_;conv=>arg 3;whnf
          exact Zd (ih _)
 ·refine ZrS ?_
  rcases hb:s0.2.2.2.2.1 with _ | _
  ·refine Zst ?_;conv=>arg 3;whnf
   refine Ze rfl ?_ ?_<;>conv=>arg 3;whnf
   ·refine Zc _ Z8 fun x73 hx73=>?_;conv=>arg 3;whnf
    exact Zf rfl
   ·refine Ze rfl ?_ ?_<;>conv=>arg 3;whnf
    ·refine Zc _ Zao fun x74 hx74=>?_;conv=>arg 3;whnf
     exact Zf rfl
    ·refine Zc _ Zaf fun x75 hx75=>?_;conv=>arg 3;whnf
     refine Ze rfl ?_ ?_<;>conv=>arg 3;whnf
     ·refine Zc _ Zae fun x76 hx76=>?_;conv=>arg 3;whnf
      refine Ze rfl ?_ ?_<;>conv=>arg 3;whnf
      ·refine Zl rfl rfl fun x77 hx77=>?_;conv=>arg 3;whnf
       refine Zg (Zy rfl hx77) ?_;conv=>arg 3;whnf
       refine Zl rfl rfl fun x78 hx78=>?_;conv=>arg 3;whnf
       refine Zg (Zy rfl hx78) ?_;conv=>arg 3;whnf
       refine Zr _ ZE rfl fun x79 hx79=>?_;conv=>arg 3;whnf
       refine Ze rfl ?_ ?_<;>conv=>arg 3;whnf
       ·refine Zc _ Zj fun x80 hx80=>?_
        clear hx80
        rcases x80 with x80 | x80
        ·conv=>arg 3;whnf
         refine ZbP rfl ?_;conv=>arg 3;whnf
         refine Zaj rfl ?_;conv=>arg 3;whnf
         refine Ze rfl ?_ ?_<;>conv=>arg 3;whnf
         ·refine Ze rfl ?_ ?_<;>conv=>arg 3;whnf
          ·refine Zc (Za t0 t1 t2 t3 s0.1 x80.1 s0.2.2.1 x80.2 m1_0 m1_1 m1_2 m1_3 m1_4 m1_5) (hrc t0 t1 t2 t3 s0.1 x80.1 s0.2.2.1 x80.2 m1_0 m1_1 m1_2 m1_3 m1_4 m1_5) fun x81 hx81=>?_;conv=>arg 3;whnf
           exact Zd (ih _)
          ·refine Zc (Za t0 t1 t2 t3 s0.1 x80.1 s0.2.2.1 x80.2 m1_0 m1_1 m1_2 m1_3 m1_4 m1_5) (hrc t0 t1 t2 t3 s0.1 x80.1 s0.2.2.1 x80.2 m1_0 m1_1 m1_2 m1_3 m1_4 m1_5) fun x82 hx82=>?_;conv=>arg 3;whnf
           exact Zd (ih _)
         ·refine Ze rfl ?_ ?_<;>conv=>arg 3;whnf
          ·refine Zc (Za t0 t1 t2 t3 (w64 (x80.1+1)) s0.2.1 s0.2.2.1 x80.2 m1_0 m1_1 m1_2 m1_3 m1_4 m1_5) (hrc t0 t1 t2 t3 (w64 (x80.1+1)) s0.2.1 s0.2.2.1 x80.2 m1_0 m1_1 m1_2 m1_3 m1_4 m1_5) fun x83 hx83=>?_;conv=>arg 3;whnf
           exact Zd (ih _)
          ·refine Zc (Za t0 t1 t2 t3 (w64 (x80.1+1)) s0.2.1 s0.2.2.1 x80.2 m1_0 m1_1 m1_2 m1_3 m1_4 m1_5) (hrc t0 t1 t2 t3 (w64 (x80.1+1)) s0.2.1 s0.2.2.1 x80.2 m1_0 m1_1 m1_2 m1_3 m1_4 m1_5) fun x84 hx84=>?_;conv=>arg 3;whnf
           exact Zd (ih _)
        ·conv=>arg 3;whnf
         refine Zaj rfl ?_;conv=>arg 3;whnf
         refine Zaj rfl ?_;conv=>arg 3;whnf
         refine Ze rfl ?_ ?_<;>conv=>arg 3;whnf
         ·refine Ze rfl ?_ ?_<;>conv=>arg 3;whnf
          ·refine Zc (Za t0 t1 t2 t3 s0.1 x80.1 s0.2.2.1 x80.2 m1_0 m1_1 m1_2 m1_3 m1_4 m1_5) (hrc t0 t1 t2 t3 s0.1 x80.1 s0.2.2.1 x80.2 m1_0 m1_1 m1_2 m1_3 m1_4 m1_5) fun x85 hx85=>?_;conv=>arg 3;whnf
           exact Zd (ih _)
          ·refine Zc (Za t0 t1 t2 t3 s0.1 x80.1 s0.2.2.1 x80.2 m1_0 m1_1 m1_2 m1_3 m1_4 m1_5) (hrc t0 t1 t2 t3 s0.1 x80.1 s0.2.2.1 x80.2 m1_0 m1_1 m1_2 m1_3 m1_4 m1_5) fun x86 hx86=>?_;conv=>arg 3;whnf
           exact Zd (ih _)
         ·refine Ze rfl ?_ ?_<;>conv=>arg 3;whnf
          ·refine Zc (Za t0 t1 t2 t3 (w64 (x80.1+1)) s0.2.1 s0.2.2.1 x80.2 m1_0 m1_1 m1_2 m1_3 m1_4 m1_5) (hrc t0 t1 t2 t3 (w64 (x80.1+1)) s0.2.1 s0.2.2.1 x80.2 m1_0 m1_1 m1_2 m1_3 m1_4 m1_5) fun x87 hx87=>?_;conv=>arg 3;whnf
           exact Zd (ih _)
          ·refine Zc (Za t0 t1 t2 t3 (w64 (x80.1+1)) s0.2.1 s0.2.2.1 x80.2 m1_0 m1_1 m1_2 m1_3 m1_4 m1_5) (hrc t0 t1 t2 t3 (w64 (x80.1+1)) s0.2.1 s0.2.2.1 x80.2 m1_0 m1_1 m1_2 m1_3 m1_4 m1_5) fun x88 hx88=>?_;conv=>arg 3;whnf
           exact Zd (ih _)
       ·refine Zc _ Zz fun x89 hx89=>?_;conv=>arg 3;whnf
        exact Zd (ih _)
      ·refine Zc _ Zj fun x90 hx90=>?_
       clear hx90
       rcases x90 with x90 | x90
       ·conv=>arg 3;whnf
        refine ZbP rfl ?_;conv=>arg 3;whnf
        refine Zaj rfl ?_;conv=>arg 3;whnf
        refine Ze rfl ?_ ?_<;>conv=>arg 3;whnf
        ·refine Ze rfl ?_ ?_<;>conv=>arg 3;whnf
         ·refine Zc (Za t0 t1 t2 t3 s0.1 x90.1 s0.2.2.1 x90.2 m1_0 m1_1 m1_2 m1_3 m1_4 m1_5) (hrc t0 t1 t2 t3 s0.1 x90.1 s0.2.2.1 x90.2 m1_0 m1_1 m1_2 m1_3 m1_4 m1_5) fun x91 hx91=>?_;conv=>arg 3;whnf
          exact Zd (ih _)
         ·refine Zc (Za t0 t1 t2 t3 s0.1 x90.1 s0.2.2.1 x90.2 m1_0 m1_1 m1_2 m1_3 m1_4 m1_5) (hrc t0 t1 t2 t3 s0.1 x90.1 s0.2.2.1 x90.2 m1_0 m1_1 m1_2 m1_3 m1_4 m1_5) fun x92 hx92=>?_;conv=>arg 3;whnf
          exact Zd (ih _)
        ·refine Ze rfl ?_ ?_<;>conv=>arg 3;whnf
         ·refine Zc (Za t0 t1 t2 t3 (w64 (x90.1+1)) s0.2.1 s0.2.2.1 x90.2 m1_0 m1_1 m1_2 m1_3 m1_4 m1_5) (hrc t0 t1 t2 t3 (w64 (x90.1+1)) s0.2.1 s0.2.2.1 x90.2 m1_0 m1_1 m1_2 m1_3 m1_4 m1_5) fun x93 hx93=>?_;conv=>arg 3;whnf
          exact Zd (ih _)
         ·refine Zc (Za t0 t1 t2 t3 (w64 (x90.1+1)) s0.2.1 s0.2.2.1 x90.2 m1_0 m1_1 m1_2 m1_3 m1_4 m1_5) (hrc t0 t1 t2 t3 (w64 (x90.1+1)) s0.2.1 s0.2.2.1 x90.2 m1_0 m1_1 m1_2 m1_3 m1_4 m1_5) fun x94 hx94=>?_;conv=>arg 3;whnf
          exact Zd (ih _)
       ·conv=>arg 3;whnf
        refine Zaj rfl ?_;conv=>arg 3;whnf
        refine Zaj rfl ?_;conv=>arg 3;whnf
        refine Ze rfl ?_ ?_<;>conv=>arg 3;whnf
        ·refine Ze rfl ?_ ?_<;>conv=>arg 3;whnf
         ·refine Zc (Za t0 t1 t2 t3 s0.1 x90.1 s0.2.2.1 x90.2 m1_0 m1_1 m1_2 m1_3 m1_4 m1_5) (hrc t0 t1 t2 t3 s0.1 x90.1 s0.2.2.1 x90.2 m1_0 m1_1 m1_2 m1_3 m1_4 m1_5) fun x95 hx95=>?_;conv=>arg 3;whnf
          exact Zd (ih _)
         ·refine Zc (Za t0 t1 t2 t3 s0.1 x90.1 s0.2.2.1 x90.2 m1_0 m1_1 m1_2 m1_3 m1_4 m1_5) (hrc t0 t1 t2 t3 s0.1 x90.1 s0.2.2.1 x90.2 m1_0 m1_1 m1_2 m1_3 m1_4 m1_5) fun x96 hx96=>?_;conv=>arg 3;whnf
          exact Zd (ih _)
        ·refine Ze rfl ?_ ?_<;>conv=>arg 3;whnf
         ·refine Zc (Za t0 t1 t2 t3 (w64 (x90.1+1)) s0.2.1 s0.2.2.1 x90.2 m1_0 m1_1 m1_2 m1_3 m1_4 m1_5) (hrc t0 t1 t2 t3 (w64 (x90.1+1)) s0.2.1 s0.2.2.1 x90.2 m1_0 m1_1 m1_2 m1_3 m1_4 m1_5) fun x97 hx97=>?_;conv=>arg 3;whnf
          exact Zd (ih _)
         ·refine Zc (Za t0 t1 t2 t3 (w64 (x90.1+1)) s0.2.1 s0.2.2.1 x90.2 m1_0 m1_1 m1_2 m1_3 m1_4 m1_5) (hrc t0 t1 t2 t3 (w64 (x90.1+1)) s0.2.1 s0.2.2.1 x90.2 m1_0 m1_1 m1_2 m1_3 m1_4 m1_5) fun x98 hx98=>?_;conv=>arg 3;whnf
          exact Zd (ih _)
     ·refine Ze rfl ?_ ?_<;>conv=>arg 3;whnf
      ·refine Zl rfl rfl fun x99 hx99=>?_;conv=>arg 3;whnf
       refine Zg (Zy rfl hx99) ?_;conv=>arg 3;whnf
       refine Zl rfl rfl fun x100 hx100=>?_;conv=>arg 3;whnf
       refine Zg (Zy rfl hx100) ?_;conv=>arg 3;whnf
       refine Zr _ ZE rfl fun x101 hx101=>?_;conv=>arg 3;whnf
       refine Ze rfl ?_ ?_<;>conv=>arg 3;whnf
       ·refine Zc _ Zj fun x102 hx102=>?_
        clear hx102
        rcases x102 with x102 | x102
        ·conv=>arg 3;whnf
         refine ZbP rfl ?_;conv=>arg 3;whnf
         refine Zaj rfl ?_;conv=>arg 3;whnf
         refine Ze rfl ?_ ?_<;>conv=>arg 3;whnf
         ·refine Ze rfl ?_ ?_<;>conv=>arg 3;whnf
          ·refine Zc (Za t0 t1 t2 t3 s0.1 x102.1 s0.2.2.1 x102.2 m1_0 m1_1 m1_2 m1_3 m1_4 m1_5) (hrc t0 t1 t2 t3 s0.1 x102.1 s0.2.2.1 x102.2 m1_0 m1_1 m1_2 m1_3 m1_4 m1_5) fun x103 hx103=>?_;conv=>arg 3;whnf
           exact Zd (ih _)
          ·refine Zc (Za t0 t1 t2 t3 s0.1 x102.1 s0.2.2.1 x102.2 m1_0 m1_1 m1_2 m1_3 m1_4 m1_5) (hrc t0 t1 t2 t3 s0.1 x102.1 s0.2.2.1 x102.2 m1_0 m1_1 m1_2 m1_3 m1_4 m1_5) fun x104 hx104=>?_;conv=>arg 3;whnf
           exact Zd (ih _)
         ·refine Ze rfl ?_ ?_<;>conv=>arg 3;whnf
          ·refine Zc (Za t0 t1 t2 t3 (w64 (x102.1+1)) s0.2.1 s0.2.2.1 x102.2 m1_0 m1_1 m1_2 m1_3 m1_4 m1_5) (hrc t0 t1 t2 t3 (w64 (x102.1+1)) s0.2.1 s0.2.2.1 x102.2 m1_0 m1_1 m1_2 m1_3 m1_4 m1_5) fun x105 hx105=>?_;conv=>arg 3;whnf
           exact Zd (ih _)
          ·refine Zc (Za t0 t1 t2 t3 (w64 (x102.1+1)) s0.2.1 s0.2.2.1 x102.2 m1_0 m1_1 m1_2 m1_3 m1_4 m1_5) (hrc t0 t1 t2 t3 (w64 (x102.1+1)) s0.2.1 s0.2.2.1 x102.2 m1_0 m1_1 m1_2 m1_3 m1_4 m1_5) fun x106 hx106=>?_;conv=>arg 3;whnf
           exact Zd (ih _)
        ·conv=>arg 3;whnf
         refine Zaj rfl ?_;conv=>arg 3;whnf
         refine Zaj rfl ?_;conv=>arg 3;whnf
         refine Ze rfl ?_ ?_<;>conv=>arg 3;whnf
         ·refine Ze rfl ?_ ?_<;>conv=>arg 3;whnf
          ·refine Zc (Za t0 t1 t2 t3 s0.1 x102.1 s0.2.2.1 x102.2 m1_0 m1_1 m1_2 m1_3 m1_4 m1_5) (hrc t0 t1 t2 t3 s0.1 x102.1 s0.2.2.1 x102.2 m1_0 m1_1 m1_2 m1_3 m1_4 m1_5) fun x107 hx107=>?_;conv=>arg 3;whnf
           exact Zd (ih _)
          ·refine Zc (Za t0 t1 t2 t3 s0.1 x102.1 s0.2.2.1 x102.2 m1_0 m1_1 m1_2 m1_3 m1_4 m1_5) (hrc t0 t1 t2 t3 s0.1 x102.1 s0.2.2.1 x102.2 m1_0 m1_1 m1_2 m1_3 m1_4 m1_5) fun x108 hx108=>?_;conv=>arg 3;whnf
           exact Zd (ih _)
         ·refine Ze rfl ?_ ?_<;>conv=>arg 3;whnf
          ·refine Zc (Za t0 t1 t2 t3 (w64 (x102.1+1)) s0.2.1 s0.2.2.1 x102.2 m1_0 m1_1 m1_2 m1_3 m1_4 m1_5) (hrc t0 t1 t2 t3 (w64 (x102.1+1)) s0.2.1 s0.2.2.1 x102.2 m1_0 m1_1 m1_2 m1_3 m1_4 m1_5) fun x109 hx109=>?_;conv=>arg 3;whnf
           exact Zd (ih _)
          ·refine Zc (Za t0 t1 t2 t3 (w64 (x102.1+1)) s0.2.1 s0.2.2.1 x102.2 m1_0 m1_1 m1_2 m1_3 m1_4 m1_5) (hrc t0 t1 t2 t3 (w64 (x102.1+1)) s0.2.1 s0.2.2.1 x102.2 m1_0 m1_1 m1_2 m1_3 m1_4 m1_5) fun x110 hx110=>?_;conv=>arg 3;whnf
           exact Zd (ih _)
       ·refine Zc _ Zz fun x111 hx111=>?_;conv=>arg 3;whnf
        exact Zd (ih _)
      ·refine Zc _ Zj fun x112 hx112=>?_
       clear hx112
       rcases x112 with x112 | x112
       ·conv=>arg 3;whnf
        refine ZbP rfl ?_;conv=>arg 3;whnf
        refine Zaj rfl ?_;conv=>arg 3;whnf
        refine Ze rfl ?_ ?_<;>conv=>arg 3;whnf
        ·refine Ze rfl ?_ ?_<;>conv=>arg 3;whnf
         ·refine Zc (Za t0 t1 t2 t3 s0.1 x112.1 s0.2.2.1 x112.2 m1_0 m1_1 m1_2 m1_3 m1_4 m1_5) (hrc t0 t1 t2 t3 s0.1 x112.1 s0.2.2.1 x112.2 m1_0 m1_1 m1_2 m1_3 m1_4 m1_5) fun x113 hx113=>?_;conv=>arg 3;whnf
          exact Zd (ih _)
         ·refine Zc (Za t0 t1 t2 t3 s0.1 x112.1 s0.2.2.1 x112.2 m1_0 m1_1 m1_2 m1_3 m1_4 m1_5) (hrc t0 t1 t2 t3 s0.1 x112.1 s0.2.2.1 x112.2 m1_0 m1_1 m1_2 m1_3 m1_4 m1_5) fun x114 hx114=>?_;conv=>arg 3;whnf
          exact Zd (ih _)
        ·refine Ze rfl ?_ ?_<;>conv=>arg 3;whnf
         ·refine Zc (Za t0 t1 t2 t3 (w64 (x112.1+1)) s0.2.1 s0.2.2.1 x112.2 m1_0 m1_1 m1_2 m1_3 m1_4 m1_5) (hrc t0 t1 t2 t3 (w64 (x112.1+1)) s0.2.1 s0.2.2.1 x112.2 m1_0 m1_1 m1_2 m1_3 m1_4 m1_5) fun x115 hx115=>?_;conv=>arg 3;whnf
          exact Zd (ih _)
         ·refine Zc (Za t0 t1 t2 t3 (w64 (x112.1+1)) s0.2.1 s0.2.2.1 x112.2 m1_0 m1_1 m1_2 m1_3 m1_4 m1_5) (hrc t0 t1 t2 t3 (w64 (x112.1+1)) s0.2.1 s0.2.2.1 x112.2 m1_0 m1_1 m1_2 m1_3 m1_4 m1_5) fun x116 hx116=>?_;conv=>arg 3;whnf
          exact Zd (ih _)
       ·conv=>arg 3;whnf
        refine Zaj rfl ?_;conv=>arg 3;whnf
        refine Zaj rfl ?_;conv=>arg 3;whnf
        refine Ze rfl ?_ ?_<;>conv=>arg 3;whnf
        ·refine Ze rfl ?_ ?_<;>conv=>arg 3;whnf
         ·refine Zc (Za t0 t1 t2 t3 s0.1 x112.1 s0.2.2.1 x112.2 m1_0 m1_1 m1_2 m1_3 m1_4 m1_5) (hrc t0 t1 t2 t3 s0.1 x112.1 s0.2.2.1 x112.2 m1_0 m1_1 m1_2 m1_3 m1_4 m1_5) fun x117 hx117=>?_;conv=>arg 3;whnf
          exact Zd (ih _)
         ·refine Zc (Za t0 t1 t2 t3 s0.1 x112.1 s0.2.2.1 x112.2 m1_0 m1_1 m1_2 m1_3 m1_4 m1_5) (hrc t0 t1 t2 t3 s0.1 x112.1 s0.2.2.1 x112.2 m1_0 m1_1 m1_2 m1_3 m1_4 m1_5) fun x118 hx118=>?_;conv=>arg 3;whnf
          exact Zd (ih _)
        ·refine Ze rfl ?_ ?_<;>conv=>arg 3;whnf
         ·refine Zc (Za t0 t1 t2 t3 (w64 (x112.1+1)) s0.2.1 s0.2.2.1 x112.2 m1_0 m1_1 m1_2 m1_3 m1_4 m1_5) (hrc t0 t1 t2 t3 (w64 (x112.1+1)) s0.2.1 s0.2.2.1 x112.2 m1_0 m1_1 m1_2 m1_3 m1_4 m1_5) fun x119 hx119=>?_;conv=>arg 3;whnf
          exact Zd (ih _)
         ·refine Zc (Za t0 t1 t2 t3 (w64 (x112.1+1)) s0.2.1 s0.2.2.1 x112.2 m1_0 m1_1 m1_2 m1_3 m1_4 m1_5) (hrc t0 t1 t2 t3 (w64 (x112.1+1)) s0.2.1 s0.2.2.1 x112.2 m1_0 m1_1 m1_2 m1_3 m1_4 m1_5) fun x120 hx120=>?_;conv=>arg 3;whnf
          exact Zd (ih _)
  ·refine ZrS ?_;conv=>arg 3;whnf
   refine Ze rfl ?_ ?_<;>conv=>arg 3;whnf
   ·refine Zc _ Z8 fun x1 hx1=>?_;conv=>arg 3;whnf
    exact Zf rfl
   ·refine Ze rfl ?_ ?_<;>conv=>arg 3;whnf
    ·refine Zc _ Zao fun x2 hx2=>?_;conv=>arg 3;whnf
     exact Zf rfl
    ·refine Zc _ Zaf fun x3 hx3=>?_;conv=>arg 3;whnf
     refine Ze rfl ?_ ?_<;>conv=>arg 3;whnf
     ·refine Zc _ Zae fun x4 hx4=>?_;conv=>arg 3;whnf
      refine ZbP rfl ?_;conv=>arg 3;whnf
      refine Zc _ Za7 fun x5 hx5=>?_
      clear hx5
      rcases x5 with x5 | x5
      ·conv=>arg 3;whnf
       exact Zf rfl
      ·conv=>arg 3;whnf
       refine Ze rfl ?_ ?_<;>conv=>arg 3;whnf
       ·refine Zl rfl rfl fun x6 hx6=>?_;conv=>arg 3;whnf
        refine Zg (Zy rfl hx6) ?_;conv=>arg 3;whnf
        refine Zl rfl rfl fun x7 hx7=>?_;conv=>arg 3;whnf
        refine Zg (Zy rfl hx7) ?_;conv=>arg 3;whnf
        refine Zr _ ZE rfl fun x8 hx8=>?_;conv=>arg 3;whnf
        refine Ze rfl ?_ ?_<;>conv=>arg 3;whnf
        ·refine Zc _ Zj fun x9 hx9=>?_
         clear hx9
         rcases x9 with x9 | x9
         ·conv=>arg 3;whnf
          refine ZbP rfl ?_;conv=>arg 3;whnf
          refine Zaj rfl ?_;conv=>arg 3;whnf
          refine Ze rfl ?_ ?_<;>conv=>arg 3;whnf
          ·refine Ze rfl ?_ ?_<;>conv=>arg 3;whnf
           ·refine Zc (Za t0 t1 t2 t3 s0.1 x9.1 s0.2.2.1 x9.2 m1_0 m1_1 m1_2 m1_3 m1_4 m1_5) (hrc t0 t1 t2 t3 s0.1 x9.1 s0.2.2.1 x9.2 m1_0 m1_1 m1_2 m1_3 m1_4 m1_5) fun x10 hx10=>?_;conv=>arg 3;whnf
            exact Zd (ih _)
           ·refine Zc (Za t0 t1 t2 t3 s0.1 x9.1 s0.2.2.1 x9.2 m1_0 m1_1 m1_2 m1_3 m1_4 m1_5) (hrc t0 t1 t2 t3 s0.1 x9.1 s0.2.2.1 x9.2 m1_0 m1_1 m1_2 m1_3 m1_4 m1_5) fun x11 hx11=>?_;conv=>arg 3;whnf
            exact Zd (ih _)
          ·refine Ze rfl ?_ ?_<;>conv=>arg 3;whnf
           ·refine Zc (Za t0 t1 t2 t3 (w64 (x9.1+1)) s0.2.1 s0.2.2.1 x9.2 m1_0 m1_1 m1_2 m1_3 m1_4 m1_5) (hrc t0 t1 t2 t3 (w64 (x9.1+1)) s0.2.1 s0.2.2.1 x9.2 m1_0 m1_1 m1_2 m1_3 m1_4 m1_5) fun x12 hx12=>?_;conv=>arg 3;whnf
            exact Zd (ih _)
           ·refine Zc (Za t0 t1 t2 t3 (w64 (x9.1+1)) s0.2.1 s0.2.2.1 x9.2 m1_0 m1_1 m1_2 m1_3 m1_4 m1_5) (hrc t0 t1 t2 t3 (w64 (x9.1+1)) s0.2.1 s0.2.2.1 x9.2 m1_0 m1_1 m1_2 m1_3 m1_4 m1_5) fun x13 hx13=>?_;conv=>arg 3;whnf
            exact Zd (ih _)
         ·conv=>arg 3;whnf
          refine Zaj rfl ?_;conv=>arg 3;whnf
          refine Zaj rfl ?_;conv=>arg 3;whnf
          refine Ze rfl ?_ ?_<;>conv=>arg 3;whnf
          ·refine Ze rfl ?_ ?_<;>conv=>arg 3;whnf
           ·refine Zc (Za t0 t1 t2 t3 s0.1 x9.1 s0.2.2.1 x9.2 m1_0 m1_1 m1_2 m1_3 m1_4 m1_5) (hrc t0 t1 t2 t3 s0.1 x9.1 s0.2.2.1 x9.2 m1_0 m1_1 m1_2 m1_3 m1_4 m1_5) fun x14 hx14=>?_;conv=>arg 3;whnf
            exact Zd (ih _)
           ·refine Zc (Za t0 t1 t2 t3 s0.1 x9.1 s0.2.2.1 x9.2 m1_0 m1_1 m1_2 m1_3 m1_4 m1_5) (hrc t0 t1 t2 t3 s0.1 x9.1 s0.2.2.1 x9.2 m1_0 m1_1 m1_2 m1_3 m1_4 m1_5) fun x15 hx15=>?_;conv=>arg 3;whnf
            exact Zd (ih _)
          ·refine Ze rfl ?_ ?_<;>conv=>arg 3;whnf
           ·refine Zc (Za t0 t1 t2 t3 (w64 (x9.1+1)) s0.2.1 s0.2.2.1 x9.2 m1_0 m1_1 m1_2 m1_3 m1_4 m1_5) (hrc t0 t1 t2 t3 (w64 (x9.1+1)) s0.2.1 s0.2.2.1 x9.2 m1_0 m1_1 m1_2 m1_3 m1_4 m1_5) fun x16 hx16=>?_;conv=>arg 3;whnf
            exact Zd (ih _)
           ·refine Zc (Za t0 t1 t2 t3 (w64 (x9.1+1)) s0.2.1 s0.2.2.1 x9.2 m1_0 m1_1 m1_2 m1_3 m1_4 m1_5) (hrc t0 t1 t2 t3 (w64 (x9.1+1)) s0.2.1 s0.2.2.1 x9.2 m1_0 m1_1 m1_2 m1_3 m1_4 m1_5) fun x17 hx17=>?_;conv=>arg 3;whnf
            exact Zd (ih _)
        ·refine Zc _ Zz fun x18 hx18=>?_;conv=>arg 3;whnf
         exact Zd (ih _)
       ·refine Zc _ Zj fun x19 hx19=>?_
        clear hx19
        rcases x19 with x19 | x19
        ·conv=>arg 3;whnf
         refine ZbP rfl ?_;conv=>arg 3;whnf
         refine Zaj rfl ?_;conv=>arg 3;whnf
         refine Ze rfl ?_ ?_<;>conv=>arg 3;whnf
         ·refine Ze rfl ?_ ?_<;>conv=>arg 3;whnf
          ·refine Zc (Za t0 t1 t2 t3 s0.1 x19.1 s0.2.2.1 x19.2 m1_0 m1_1 m1_2 m1_3 m1_4 m1_5) (hrc t0 t1 t2 t3 s0.1 x19.1 s0.2.2.1 x19.2 m1_0 m1_1 m1_2 m1_3 m1_4 m1_5) fun x20 hx20=>?_;conv=>arg 3;whnf
           exact Zd (ih _)
          ·refine Zc (Za t0 t1 t2 t3 s0.1 x19.1 s0.2.2.1 x19.2 m1_0 m1_1 m1_2 m1_3 m1_4 m1_5) (hrc t0 t1 t2 t3 s0.1 x19.1 s0.2.2.1 x19.2 m1_0 m1_1 m1_2 m1_3 m1_4 m1_5) fun x21 hx21=>?_;conv=>arg 3;whnf
           exact Zd (ih _)
         ·refine Ze rfl ?_ ?_<;>conv=>arg 3;whnf
          ·refine Zc (Za t0 t1 t2 t3 (w64 (x19.1+1)) s0.2.1 s0.2.2.1 x19.2 m1_0 m1_1 m1_2 m1_3 m1_4 m1_5) (hrc t0 t1 t2 t3 (w64 (x19.1+1)) s0.2.1 s0.2.2.1 x19.2 m1_0 m1_1 m1_2 m1_3 m1_4 m1_5) fun x22 hx22=>?_;conv=>arg 3;whnf
           exact Zd (ih _)
          ·refine Zc (Za t0 t1 t2 t3 (w64 (x19.1+1)) s0.2.1 s0.2.2.1 x19.2 m1_0 m1_1 m1_2 m1_3 m1_4 m1_5) (hrc t0 t1 t2 t3 (w64 (x19.1+1)) s0.2.1 s0.2.2.1 x19.2 m1_0 m1_1 m1_2 m1_3 m1_4 m1_5) fun x23 hx23=>?_;conv=>arg 3;whnf
           exact Zd (ih _)
        ·conv=>arg 3;whnf
         refine Zaj rfl ?_;conv=>arg 3;whnf
         refine Zaj rfl ?_;conv=>arg 3;whnf
         refine Ze rfl ?_ ?_<;>conv=>arg 3;whnf
         ·refine Ze rfl ?_ ?_<;>conv=>arg 3;whnf
          ·refine Zc (Za t0 t1 t2 t3 s0.1 x19.1 s0.2.2.1 x19.2 m1_0 m1_1 m1_2 m1_3 m1_4 m1_5) (hrc t0 t1 t2 t3 s0.1 x19.1 s0.2.2.1 x19.2 m1_0 m1_1 m1_2 m1_3 m1_4 m1_5) fun x24 hx24=>?_;conv=>arg 3;whnf
           exact Zd (ih _)
          ·refine Zc (Za t0 t1 t2 t3 s0.1 x19.1 s0.2.2.1 x19.2 m1_0 m1_1 m1_2 m1_3 m1_4 m1_5) (hrc t0 t1 t2 t3 s0.1 x19.1 s0.2.2.1 x19.2 m1_0 m1_1 m1_2 m1_3 m1_4 m1_5) fun x25 hx25=>?_;conv=>arg 3;whnf
           exact Zd (ih _)
         ·refine Ze rfl ?_ ?_<;>conv=>arg 3;whnf
          ·refine Zc (Za t0 t1 t2 t3 (w64 (x19.1+1)) s0.2.1 s0.2.2.1 x19.2 m1_0 m1_1 m1_2 m1_3 m1_4 m1_5) (hrc t0 t1 t2 t3 (w64 (x19.1+1)) s0.2.1 s0.2.2.1 x19.2 m1_0 m1_1 m1_2 m1_3 m1_4 m1_5) fun x26 hx26=>?_;conv=>arg 3;whnf
           exact Zd (ih _)
          ·refine Zc (Za t0 t1 t2 t3 (w64 (x19.1+1)) s0.2.1 s0.2.2.1 x19.2 m1_0 m1_1 m1_2 m1_3 m1_4 m1_5) (hrc t0 t1 t2 t3 (w64 (x19.1+1)) s0.2.1 s0.2.2.1 x19.2 m1_0 m1_1 m1_2 m1_3 m1_4 m1_5) fun x27 hx27=>?_;conv=>arg 3;whnf
           exact Zd (ih _)
     ·refine Ze rfl ?_ ?_<;>conv=>arg 3;whnf
      ·refine Zc _ Za7 fun x28 hx28=>?_
       clear hx28
       rcases x28 with x28 | x28
       ·conv=>arg 3;whnf
        exact Zf rfl
       ·conv=>arg 3;whnf
        refine Ze rfl ?_ ?_<;>conv=>arg 3;whnf
        ·refine Zl rfl rfl fun x29 hx29=>?_;conv=>arg 3;whnf
         refine Zg (Zy rfl hx29) ?_;conv=>arg 3;whnf
         refine Zl rfl rfl fun x30 hx30=>?_;conv=>arg 3;whnf
         refine Zg (Zy rfl hx30) ?_;conv=>arg 3;whnf
         refine Zr _ ZE rfl fun x31 hx31=>?_;conv=>arg 3;whnf
         refine Ze rfl ?_ ?_<;>conv=>arg 3;whnf
         ·refine Zc _ Zj fun x32 hx32=>?_
          clear hx32
          rcases x32 with x32 | x32
          ·conv=>arg 3;whnf
           refine ZbP rfl ?_;conv=>arg 3;whnf
           refine Zaj rfl ?_;conv=>arg 3;whnf
           refine Ze rfl ?_ ?_<;>conv=>arg 3;whnf
           ·refine Ze rfl ?_ ?_<;>conv=>arg 3;whnf
            ·refine Zc (Za t0 t1 t2 t3 s0.1 x32.1 s0.2.2.1 x32.2 m1_0 m1_1 m1_2 m1_3 m1_4 m1_5) (hrc t0 t1 t2 t3 s0.1 x32.1 s0.2.2.1 x32.2 m1_0 m1_1 m1_2 m1_3 m1_4 m1_5) fun x33 hx33=>?_;conv=>arg 3;whnf
             exact Zd (ih _)
            ·refine Zc (Za t0 t1 t2 t3 s0.1 x32.1 s0.2.2.1 x32.2 m1_0 m1_1 m1_2 m1_3 m1_4 m1_5) (hrc t0 t1 t2 t3 s0.1 x32.1 s0.2.2.1 x32.2 m1_0 m1_1 m1_2 m1_3 m1_4 m1_5) fun x34 hx34=>?_;conv=>arg 3;whnf
             exact Zd (ih _)
           ·refine Ze rfl ?_ ?_<;>conv=>arg 3;whnf
            ·refine Zc (Za t0 t1 t2 t3 (w64 (x32.1+1)) s0.2.1 s0.2.2.1 x32.2 m1_0 m1_1 m1_2 m1_3 m1_4 m1_5) (hrc t0 t1 t2 t3 (w64 (x32.1+1)) s0.2.1 s0.2.2.1 x32.2 m1_0 m1_1 m1_2 m1_3 m1_4 m1_5) fun x35 hx35=>?_;conv=>arg 3;whnf
             exact Zd (ih _)
            ·refine Zc (Za t0 t1 t2 t3 (w64 (x32.1+1)) s0.2.1 s0.2.2.1 x32.2 m1_0 m1_1 m1_2 m1_3 m1_4 m1_5) (hrc t0 t1 t2 t3 (w64 (x32.1+1)) s0.2.1 s0.2.2.1 x32.2 m1_0 m1_1 m1_2 m1_3 m1_4 m1_5) fun x36 hx36=>?_;conv=>arg 3;whnf
             exact Zd (ih _)
          ·conv=>arg 3;whnf
           refine Zaj rfl ?_;conv=>arg 3;whnf
           refine Zaj rfl ?_;conv=>arg 3;whnf
           refine Ze rfl ?_ ?_<;>conv=>arg 3;whnf
           ·refine Ze rfl ?_ ?_<;>conv=>arg 3;whnf
            ·refine Zc (Za t0 t1 t2 t3 s0.1 x32.1 s0.2.2.1 x32.2 m1_0 m1_1 m1_2 m1_3 m1_4 m1_5) (hrc t0 t1 t2 t3 s0.1 x32.1 s0.2.2.1 x32.2 m1_0 m1_1 m1_2 m1_3 m1_4 m1_5) fun x37 hx37=>?_;conv=>arg 3;whnf
             exact Zd (ih _)
            ·refine Zc (Za t0 t1 t2 t3 s0.1 x32.1 s0.2.2.1 x32.2 m1_0 m1_1 m1_2 m1_3 m1_4 m1_5) (hrc t0 t1 t2 t3 s0.1 x32.1 s0.2.2.1 x32.2 m1_0 m1_1 m1_2 m1_3 m1_4 m1_5) fun x38 hx38=>?_;conv=>arg 3;whnf
             exact Zd (ih _)
           ·refine Ze rfl ?_ ?_<;>conv=>arg 3;whnf
            ·refine Zc (Za t0 t1 t2 t3 (w64 (x32.1+1)) s0.2.1 s0.2.2.1 x32.2 m1_0 m1_1 m1_2 m1_3 m1_4 m1_5) (hrc t0 t1 t2 t3 (w64 (x32.1+1)) s0.2.1 s0.2.2.1 x32.2 m1_0 m1_1 m1_2 m1_3 m1_4 m1_5) fun x39 hx39=>?_;conv=>arg 3;whnf
             exact Zd (ih _)
            ·refine Zc (Za t0 t1 t2 t3 (w64 (x32.1+1)) s0.2.1 s0.2.2.1 x32.2 m1_0 m1_1 m1_2 m1_3 m1_4 m1_5) (hrc t0 t1 t2 t3 (w64 (x32.1+1)) s0.2.1 s0.2.2.1 x32.2 m1_0 m1_1 m1_2 m1_3 m1_4 m1_5) fun x40 hx40=>?_;conv=>arg 3;whnf
             exact Zd (ih _)
         ·refine Zc _ Zz fun x41 hx41=>?_;conv=>arg 3;whnf
          exact Zd (ih _)
        ·refine Zc _ Zj fun x42 hx42=>?_
         clear hx42
         rcases x42 with x42 | x42
         ·conv=>arg 3;whnf
          refine ZbP rfl ?_;conv=>arg 3;whnf
          refine Zaj rfl ?_;conv=>arg 3;whnf
          refine Ze rfl ?_ ?_<;>conv=>arg 3;whnf
          ·refine Ze rfl ?_ ?_<;>conv=>arg 3;whnf
           ·refine Zc (Za t0 t1 t2 t3 s0.1 x42.1 s0.2.2.1 x42.2 m1_0 m1_1 m1_2 m1_3 m1_4 m1_5) (hrc t0 t1 t2 t3 s0.1 x42.1 s0.2.2.1 x42.2 m1_0 m1_1 m1_2 m1_3 m1_4 m1_5) fun x43 hx43=>?_;conv=>arg 3;whnf
            exact Zd (ih _)
           ·refine Zc (Za t0 t1 t2 t3 s0.1 x42.1 s0.2.2.1 x42.2 m1_0 m1_1 m1_2 m1_3 m1_4 m1_5) (hrc t0 t1 t2 t3 s0.1 x42.1 s0.2.2.1 x42.2 m1_0 m1_1 m1_2 m1_3 m1_4 m1_5) fun x44 hx44=>?_;conv=>arg 3;whnf
            exact Zd (ih _)
          ·refine Ze rfl ?_ ?_<;>conv=>arg 3;whnf
           ·refine Zc (Za t0 t1 t2 t3 (w64 (x42.1+1)) s0.2.1 s0.2.2.1 x42.2 m1_0 m1_1 m1_2 m1_3 m1_4 m1_5) (hrc t0 t1 t2 t3 (w64 (x42.1+1)) s0.2.1 s0.2.2.1 x42.2 m1_0 m1_1 m1_2 m1_3 m1_4 m1_5) fun x45 hx45=>?_;conv=>arg 3;whnf
            exact Zd (ih _)
           ·refine Zc (Za t0 t1 t2 t3 (w64 (x42.1+1)) s0.2.1 s0.2.2.1 x42.2 m1_0 m1_1 m1_2 m1_3 m1_4 m1_5) (hrc t0 t1 t2 t3 (w64 (x42.1+1)) s0.2.1 s0.2.2.1 x42.2 m1_0 m1_1 m1_2 m1_3 m1_4 m1_5) fun x46 hx46=>?_;conv=>arg 3;whnf
            exact Zd (ih _)
         ·conv=>arg 3;whnf
          refine Zaj rfl ?_;conv=>arg 3;whnf
          refine Zaj rfl ?_;conv=>arg 3;whnf
          refine Ze rfl ?_ ?_<;>conv=>arg 3;whnf
          ·refine Ze rfl ?_ ?_<;>conv=>arg 3;whnf
           ·refine Zc (Za t0 t1 t2 t3 s0.1 x42.1 s0.2.2.1 x42.2 m1_0 m1_1 m1_2 m1_3 m1_4 m1_5) (hrc t0 t1 t2 t3 s0.1 x42.1 s0.2.2.1 x42.2 m1_0 m1_1 m1_2 m1_3 m1_4 m1_5) fun x47 hx47=>?_;conv=>arg 3;whnf
            exact Zd (ih _)
           ·refine Zc (Za t0 t1 t2 t3 s0.1 x42.1 s0.2.2.1 x42.2 m1_0 m1_1 m1_2 m1_3 m1_4 m1_5) (hrc t0 t1 t2 t3 s0.1 x42.1 s0.2.2.1 x42.2 m1_0 m1_1 m1_2 m1_3 m1_4 m1_5) fun x48 hx48=>?_;conv=>arg 3;whnf
            exact Zd (ih _)
          ·refine Ze rfl ?_ ?_<;>conv=>arg 3;whnf
           ·refine Zc (Za t0 t1 t2 t3 (w64 (x42.1+1)) s0.2.1 s0.2.2.1 x42.2 m1_0 m1_1 m1_2 m1_3 m1_4 m1_5) (hrc t0 t1 t2 t3 (w64 (x42.1+1)) s0.2.1 s0.2.2.1 x42.2 m1_0 m1_1 m1_2 m1_3 m1_4 m1_5) fun x49 hx49=>?_;conv=>arg 3;whnf
            exact Zd (ih _)
           ·refine Zc (Za t0 t1 t2 t3 (w64 (x42.1+1)) s0.2.1 s0.2.2.1 x42.2 m1_0 m1_1 m1_2 m1_3 m1_4 m1_5) (hrc t0 t1 t2 t3 (w64 (x42.1+1)) s0.2.1 s0.2.2.1 x42.2 m1_0 m1_1 m1_2 m1_3 m1_4 m1_5) fun x50 hx50=>?_;conv=>arg 3;whnf
            exact Zd (ih _)
      ·refine Ze rfl ?_ ?_<;>conv=>arg 3;whnf
       ·refine Zl rfl rfl fun x51 hx51=>?_;conv=>arg 3;whnf
        refine Zg (Zy rfl hx51) ?_;conv=>arg 3;whnf
        refine Zl rfl rfl fun x52 hx52=>?_;conv=>arg 3;whnf
        refine Zg (Zy rfl hx52) ?_;conv=>arg 3;whnf
        refine Zr _ ZE rfl fun x53 hx53=>?_;conv=>arg 3;whnf
        refine Ze rfl ?_ ?_<;>conv=>arg 3;whnf
        ·refine Zc _ Zj fun x54 hx54=>?_
         clear hx54
         rcases x54 with x54 | x54
         ·conv=>arg 3;whnf
          refine ZbP rfl ?_;conv=>arg 3;whnf
          refine Zaj rfl ?_;conv=>arg 3;whnf
          refine Ze rfl ?_ ?_<;>conv=>arg 3;whnf
          ·refine Ze rfl ?_ ?_<;>conv=>arg 3;whnf
           ·refine Zc (Za t0 t1 t2 t3 s0.1 x54.1 s0.2.2.1 x54.2 m1_0 m1_1 m1_2 m1_3 m1_4 m1_5) (hrc t0 t1 t2 t3 s0.1 x54.1 s0.2.2.1 x54.2 m1_0 m1_1 m1_2 m1_3 m1_4 m1_5) fun x55 hx55=>?_;conv=>arg 3;whnf
            exact Zd (ih _)
           ·refine Zc (Za t0 t1 t2 t3 s0.1 x54.1 s0.2.2.1 x54.2 m1_0 m1_1 m1_2 m1_3 m1_4 m1_5) (hrc t0 t1 t2 t3 s0.1 x54.1 s0.2.2.1 x54.2 m1_0 m1_1 m1_2 m1_3 m1_4 m1_5) fun x56 hx56=>?_;conv=>arg 3;whnf
            exact Zd (ih _)
          ·refine Ze rfl ?_ ?_<;>conv=>arg 3;whnf
           ·refine Zc (Za t0 t1 t2 t3 (w64 (x54.1+1)) s0.2.1 s0.2.2.1 x54.2 m1_0 m1_1 m1_2 m1_3 m1_4 m1_5) (hrc t0 t1 t2 t3 (w64 (x54.1+1)) s0.2.1 s0.2.2.1 x54.2 m1_0 m1_1 m1_2 m1_3 m1_4 m1_5) fun x57 hx57=>?_;conv=>arg 3;whnf
            exact Zd (ih _)
           ·refine Zc (Za t0 t1 t2 t3 (w64 (x54.1+1)) s0.2.1 s0.2.2.1 x54.2 m1_0 m1_1 m1_2 m1_3 m1_4 m1_5) (hrc t0 t1 t2 t3 (w64 (x54.1+1)) s0.2.1 s0.2.2.1 x54.2 m1_0 m1_1 m1_2 m1_3 m1_4 m1_5) fun x58 hx58=>?_;conv=>arg 3;whnf
            exact Zd (ih _)
         ·conv=>arg 3;whnf
          refine Zaj rfl ?_;conv=>arg 3;whnf
          refine Zaj rfl ?_;conv=>arg 3;whnf
          refine Ze rfl ?_ ?_<;>conv=>arg 3;whnf
          ·refine Ze rfl ?_ ?_<;>conv=>arg 3;whnf
           ·refine Zc (Za t0 t1 t2 t3 s0.1 x54.1 s0.2.2.1 x54.2 m1_0 m1_1 m1_2 m1_3 m1_4 m1_5) (hrc t0 t1 t2 t3 s0.1 x54.1 s0.2.2.1 x54.2 m1_0 m1_1 m1_2 m1_3 m1_4 m1_5) fun x59 hx59=>?_;conv=>arg 3;whnf
            exact Zd (ih _)
           ·refine Zc (Za t0 t1 t2 t3 s0.1 x54.1 s0.2.2.1 x54.2 m1_0 m1_1 m1_2 m1_3 m1_4 m1_5) (hrc t0 t1 t2 t3 s0.1 x54.1 s0.2.2.1 x54.2 m1_0 m1_1 m1_2 m1_3 m1_4 m1_5) fun x60 hx60=>?_;conv=>arg 3;whnf
            exact Zd (ih _)
          ·refine Ze rfl ?_ ?_<;>conv=>arg 3;whnf
           ·refine Zc (Za t0 t1 t2 t3 (w64 (x54.1+1)) s0.2.1 s0.2.2.1 x54.2 m1_0 m1_1 m1_2 m1_3 m1_4 m1_5) (hrc t0 t1 t2 t3 (w64 (x54.1+1)) s0.2.1 s0.2.2.1 x54.2 m1_0 m1_1 m1_2 m1_3 m1_4 m1_5) fun x61 hx61=>?_;conv=>arg 3;whnf
            exact Zd (ih _)
           ·refine Zc (Za t0 t1 t2 t3 (w64 (x54.1+1)) s0.2.1 s0.2.2.1 x54.2 m1_0 m1_1 m1_2 m1_3 m1_4 m1_5) (hrc t0 t1 t2 t3 (w64 (x54.1+1)) s0.2.1 s0.2.2.1 x54.2 m1_0 m1_1 m1_2 m1_3 m1_4 m1_5) fun x62 hx62=>?_;conv=>arg 3;whnf
            exact Zd (ih _)
        ·refine Zc _ Zz fun x63 hx63=>?_;conv=>arg 3;whnf
         exact Zd (ih _)
       ·refine Zc _ Zj fun x64 hx64=>?_
        clear hx64
        rcases x64 with x64 | x64
        ·conv=>arg 3;whnf
         refine ZbP rfl ?_;conv=>arg 3;whnf
         refine Zaj rfl ?_;conv=>arg 3;whnf
         refine Ze rfl ?_ ?_<;>conv=>arg 3;whnf
         ·refine Ze rfl ?_ ?_<;>conv=>arg 3;whnf
          ·refine Zc (Za t0 t1 t2 t3 s0.1 x64.1 s0.2.2.1 x64.2 m1_0 m1_1 m1_2 m1_3 m1_4 m1_5) (hrc t0 t1 t2 t3 s0.1 x64.1 s0.2.2.1 x64.2 m1_0 m1_1 m1_2 m1_3 m1_4 m1_5) fun x65 hx65=>?_;conv=>arg 3;whnf
           exact Zd (ih _)
          ·refine Zc (Za t0 t1 t2 t3 s0.1 x64.1 s0.2.2.1 x64.2 m1_0 m1_1 m1_2 m1_3 m1_4 m1_5) (hrc t0 t1 t2 t3 s0.1 x64.1 s0.2.2.1 x64.2 m1_0 m1_1 m1_2 m1_3 m1_4 m1_5) fun x66 hx66=>?_;conv=>arg 3;whnf
           exact Zd (ih _)
         ·refine Ze rfl ?_ ?_<;>conv=>arg 3;whnf
          ·refine Zc (Za t0 t1 t2 t3 (w64 (x64.1+1)) s0.2.1 s0.2.2.1 x64.2 m1_0 m1_1 m1_2 m1_3 m1_4 m1_5) (hrc t0 t1 t2 t3 (w64 (x64.1+1)) s0.2.1 s0.2.2.1 x64.2 m1_0 m1_1 m1_2 m1_3 m1_4 m1_5) fun x67 hx67=>?_;conv=>arg 3;whnf
           exact Zd (ih _)
          ·refine Zc (Za t0 t1 t2 t3 (w64 (x64.1+1)) s0.2.1 s0.2.2.1 x64.2 m1_0 m1_1 m1_2 m1_3 m1_4 m1_5) (hrc t0 t1 t2 t3 (w64 (x64.1+1)) s0.2.1 s0.2.2.1 x64.2 m1_0 m1_1 m1_2 m1_3 m1_4 m1_5) fun x68 hx68=>?_;conv=>arg 3;whnf
           exact Zd (ih _)
        ·conv=>arg 3;whnf
         refine Zaj rfl ?_;conv=>arg 3;whnf
         refine Zaj rfl ?_;conv=>arg 3;whnf
         refine Ze rfl ?_ ?_<;>conv=>arg 3;whnf
         ·refine Ze rfl ?_ ?_<;>conv=>arg 3;whnf
          ·refine Zc (Za t0 t1 t2 t3 s0.1 x64.1 s0.2.2.1 x64.2 m1_0 m1_1 m1_2 m1_3 m1_4 m1_5) (hrc t0 t1 t2 t3 s0.1 x64.1 s0.2.2.1 x64.2 m1_0 m1_1 m1_2 m1_3 m1_4 m1_5) fun x69 hx69=>?_;conv=>arg 3;whnf
           exact Zd (ih _)
          ·refine Zc (Za t0 t1 t2 t3 s0.1 x64.1 s0.2.2.1 x64.2 m1_0 m1_1 m1_2 m1_3 m1_4 m1_5) (hrc t0 t1 t2 t3 s0.1 x64.1 s0.2.2.1 x64.2 m1_0 m1_1 m1_2 m1_3 m1_4 m1_5) fun x70 hx70=>?_;conv=>arg 3;whnf
           exact Zd (ih _)
         ·refine Ze rfl ?_ ?_<;>conv=>arg 3;whnf
          ·refine Zc (Za t0 t1 t2 t3 (w64 (x64.1+1)) s0.2.1 s0.2.2.1 x64.2 m1_0 m1_1 m1_2 m1_3 m1_4 m1_5) (hrc t0 t1 t2 t3 (w64 (x64.1+1)) s0.2.1 s0.2.2.1 x64.2 m1_0 m1_1 m1_2 m1_3 m1_4 m1_5) fun x71 hx71=>?_;conv=>arg 3;whnf
           exact Zd (ih _)
          ·refine Zc (Za t0 t1 t2 t3 (w64 (x64.1+1)) s0.2.1 s0.2.2.1 x64.2 m1_0 m1_1 m1_2 m1_3 m1_4 m1_5) (hrc t0 t1 t2 t3 (w64 (x64.1+1)) s0.2.1 s0.2.2.1 x64.2 m1_0 m1_1 m1_2 m1_3 m1_4 m1_5) fun x72 hx72=>?_;conv=>arg 3;whnf
           exact Zd (ih _)
theorem ZdH (rc:Int→Int→Int→(Int→Int→Option Int)→(List Int)→Option (List Int)) (hrc:∀(t0:Bool) (t1:Bool) (t2:Bool) (t3:Bool) (b:Int) (c:Int) (d:Int) (m0_0:(List Int)) (m1_0:Int) (m1_1:Int) (m1_2:(List ZU)) (m1_3:(List Zn)) (m1_4:(List Zi)) (m1_5:(List Zs)) (r:(List Int)),rc b c d (fun z0 z1=>Zt z0 z1 m1_4) m0_0=some r→evW ctx 124 [(.sl 0 1),(.d (Zb b)),(.d (Zb c)),(.d (Zb d)),(.fn 118 [(.ptr 1 0)])] [(.arr 1 (List.map Zb m0_0)),(.cells [(.d (Zb m1_0)),(.d (Zb m1_1)),(.d (D.list t0 (List.map Z0 m1_2))),(.d (D.list t1 (List.map ZC m1_3))),(.d (D.list t2 (List.map Zp m1_4))),(.d (D.list t3 (List.map Zv m1_5)))])]=some ((Za t0 t1 t2 t3 b c d m0_0 m1_0 m1_1 m1_2 m1_3 m1_4 m1_5) r)) (t0:Bool) (t1:Bool) (t2:Bool) (t3:Bool) (b:Int) (c:Int) (d:Int) (m0_0:(List Int)) (m1_0:Int) (m1_1:Int) (m1_2:(List ZU)) (m1_3:(List Zn)) (m1_4:(List Zi)) (m1_5:(List Zs)):∀r,(Zaq rc b c d (fun z0 z1=>Zt z0 z1 m1_4) m0_0)=some r→evW ctx 124 [(.sl 0 1),(.d (Zb b)),(.d (Zb c)),(.d (Zb d)),(.fn 118 [(.ptr 1 0)])] [(.arr 1 (List.map Zb m0_0)),(.cells [(.d (Zb m1_0)),(.d (Zb m1_1)),(.d (D.list t0 (List.map Z0 m1_2))),(.d (D.list t1 (List.map ZC m1_3))),(.d (D.list t2 (List.map Zp m1_4))),(.d (D.list t3 (List.map Zv m1_5)))])]=some ((Za t0 t1 t2 t3 b c d m0_0 m1_0 m1_1 m1_2 m1_3 m1_4 m1_5) r):=by
 show ZQ _ (fun r rhs=>rhs=some ((Za t0 t1 t2 t3 b c d m0_0 m1_0 m1_1 m1_2 m1_3 m1_4 m1_5) r)) _
 unfold Zaq
 rw[Ze4 ctx 124 ZwF _ _ rfl rfl]
 conv=>arg 3;whnf
 refine Zc _ (ZdD hrc _) fun r219 hr219=>?_;conv=>arg 3;whnf
 exact Zf rfl
theorem ZbU:∀(n:Nat) (t0:Bool) (t1:Bool) (t2:Bool) (t3:Bool) (b:Int) (c:Int) (d:Int) (m0_0:(List Int)) (m1_0:Int) (m1_1:Int) (m1_2:(List ZU)) (m1_3:(List Zn)) (m1_4:(List Zi)) (m1_5:(List Zs)) (r:(List Int)),ZX n b c d (fun z0 z1=>Zt z0 z1 m1_4) m0_0=some r→evW ctx 124 [(.sl 0 1),(.d (Zb b)),(.d (Zb c)),(.d (Zb d)),(.fn 118 [(.ptr 1 0)])] [(.arr 1 (List.map Zb m0_0)),(.cells [(.d (Zb m1_0)),(.d (Zb m1_1)),(.d (D.list t0 (List.map Z0 m1_2))),(.d (D.list t1 (List.map ZC m1_3))),(.d (D.list t2 (List.map Zp m1_4))),(.d (D.list t3 (List.map Zv m1_5)))])]=some ((Za t0 t1 t2 t3 b c d m0_0 m1_0 m1_1 m1_2 m1_3 m1_4 m1_5) r)
  | 0,t0,t1,t2,t3,b,c,d,m0_0,m1_0,m1_1,m1_2,m1_3,m1_4,m1_5,r,h=>by cases h
  | n+1,t0,t1,t2,t3,b,c,d,m0_0,m1_0,m1_1,m1_2,m1_3,m1_4,m1_5,r,h=>ZdH (ZX n) (ZbU n) t0 t1 t2 t3 b c d m0_0 m1_0 m1_1 m1_2 m1_3 m1_4 m1_5 r h
theorem Zd2 {t0:Bool}{t1:Bool}{t2:Bool}{t3:Bool}{b:Int}{c:Int}{d:Int}{m0_0:(List Int)}{m1_0:Int}{m1_1:Int}{m1_2:(List ZU)}{m1_3:(List Zn)}{m1_4:(List Zi)}{m1_5:(List Zs)}:∀r,Zdb b c d (fun z0 z1=>Zt z0 z1 m1_4) m0_0=some r→evW ctx 124 [(.sl 0 1),(.d (Zb b)),(.d (Zb c)),(.d (Zb d)),(.fn 118 [(.ptr 1 0)])] [(.arr 1 (List.map Zb m0_0)),(.cells [(.d (Zb m1_0)),(.d (Zb m1_1)),(.d (D.list t0 (List.map Z0 m1_2))),(.d (D.list t1 (List.map ZC m1_3))),(.d (D.list t2 (List.map Zp m1_4))),(.d (D.list t3 (List.map Zv m1_5)))])]=some ((Za t0 t1 t2 t3 b c d m0_0 m1_0 m1_1 m1_2 m1_3 m1_4 m1_5) r):=fun r h=>by
  obtain⟨n,hn⟩:=ZxA h
  exact ZbU n t0 t1 t2 t3 b c d m0_0 m1_0 m1_1 m1_2 m1_3 m1_4 m1_5 r hn
def Zcd (t0:Bool) (t1:Bool) (t2:Bool) (t3:Bool) (m0_0:(List Int)) (m1_0:Int) (m1_1:Int) (m1_2:(List ZU)) (m1_3:(List Zn)) (m1_4:(List Zi)) (m1_5:(List Zs)):(List Int)→V×Zm
  | r=>((.d (D.tup [])),[(.arr 1 (List.map Zb r)),(.cells [(.d (Zb m1_0)),(.d (Zb m1_1)),(.d (D.list t0 (List.map Z0 m1_2))),(.d (D.list t1 (List.map ZC m1_3))),(.d (D.list t2 (List.map Zp m1_4))),(.d (D.list t3 (List.map Zv m1_5)))])])
theorem Zd1 {t0:Bool}{t1:Bool}{t2:Bool}{t3:Bool}{m0_0:(List Int)}{m1_0:Int}{m1_1:Int}{m1_2:(List ZU)}{m1_3:(List Zn)}{m1_4:(List Zi)}{m1_5:(List Zs)}:∀r,(ZaH (fun z0 z1=>Zt z0 z1 m1_4) m0_0)=some r→evW ctx 117 [(.sl 0 1),(.fn 118 [(.ptr 1 0)])] [(.arr 1 (List.map Zb m0_0)),(.cells [(.d (Zb m1_0)),(.d (Zb m1_1)),(.d (D.list t0 (List.map Z0 m1_2))),(.d (D.list t1 (List.map ZC m1_3))),(.d (D.list t2 (List.map Zp m1_4))),(.d (D.list t3 (List.map Zv m1_5)))])]=some ((Zcd t0 t1 t2 t3 m0_0 m1_0 m1_1 m1_2 m1_3 m1_4 m1_5) r):=by
 show ZQ _ (fun r rhs=>rhs=some ((Zcd t0 t1 t2 t3 m0_0 m1_0 m1_1 m1_2 m1_3 m1_4 m1_5) r)) _
 unfold ZaH
 rw[Ze4 ctx 117 Zur _ _ rfl rfl]
 conv=>arg 3;whnf
 refine Zo (ZL _ _) ?_;conv=>arg 3;whnf
 refine Zr _ Zhl rfl fun x0 hx0=>?_;conv=>arg 3;whnf
 refine Zc _ Zd2 fun x1 hx1=>?_;conv=>arg 3;whnf
 exact Zf rfl
def Zh5 (r:(List Int)):D:=(D.list true (List.map Zb r))
def ZgC (t0:Bool) (t1:Bool) (t2:Bool) (t3:Bool) (a:Zk) (b:Int):(List Int)→Ex×List V×Zm
  | r=>(.exit 0,[(.ptr 0 0),(.sl 1 1)],[(.cells (dV t0 t1 t2 t3 a)),(.arr 1 (List.map Zb r))])
theorem ZjB {t0:Bool}{t1:Bool}{t2:Bool}{t3:Bool}{a:Zk}{b:Int}:∀(s1:Int×(List Int)) (r:(List Int)),lp (ZcX a b) s1=some r→lpW ctx 0 [1,2,5,12,13,14] [2,5] ZtC [(.d (Zb b)),(.ptr 0 0),(.sl 1 1),(.d (D.list t2 (List.map Zp a.futures))),(.d (Zb (a.futures.length:Int))),(.d (Zb s1.1))] [(.cells (dV t0 t1 t2 t3 a)),(.arr 1 (List.map Zb s1.2))]=some ((ZgC t0 t1 t2 t3 a b) r):=by
 refine ZaU (ZgC t0 t1 t2 t3 a b) ?_
 intro s1 rcl ih
 show ZQ _ _ (lpW _ _ _ _ _ _ _)
 unfold ZcX
 rw[ZaV]
 conv=>arg 3;whnf
 refine Ze rfl ?_ ?_<;>conv=>arg 3;whnf
 ·refine Zl rfl rfl fun x2 hx2=>?_;conv=>arg 3;whnf
  refine Ze rfl ?_ ?_<;>conv=>arg 3;whnf
  ·refine ZbP rfl ?_;conv=>arg 3;whnf
   refine Ze (ZgT Zb s1.2 1) ?_ ?_
   ·conv=>arg 3;whnf
    refine Zo (Zgb Zb s1.2 [s1.1]) ?_;conv=>arg 3;whnf
    exact Zd (ih _)
   ·exact Z7
  ·exact Zd (ih _)
 ·exact Zf rfl
theorem ZhF {t0:Bool}{t1:Bool}{t2:Bool}{t3:Bool}{a:Zk}{b:Int}:∀r,(Zcq a b)=some r→evD ctx 101 [(.d (D.agg (dA t0 t1 t2 t3 a))),(.d (Zb b))]=some (Zh5 r):=by
 show ZQ _ (fun r rhs=>rhs=some (Zh5 r)) _
 unfold Zcq
 rw[Zbe ctx 101 ZuY _ rfl rfl]
 conv=>arg 3;whnf
 refine Zr _ Zgx rfl fun x0 hx0=>?_;conv=>arg 3;whnf
 refine Ze rfl ?_ ?_<;>conv=>arg 3;whnf
 ·exact Zf rfl
 ·refine Zo (ZL _ _) ?_;conv=>arg 3;whnf
  refine Zc _ (ZjB _) fun r3 hr3=>?_;conv=>arg 3;whnf
  refine Zc _ Zd1 fun x4 hx4=>?_;conv=>arg 3;whnf
  exact Zf rfl
def ZfT (b:Zh) (c:Int) (m1_0:(List Int)) (m2_0:(List Zn)) (m3_0:(List Zh)) (m4_0:(List (Int×Int))) (m5_0:(List (Int×Int))) (m6_0:(List (Zi×Int))):Unit→V×Zm
  | r=>((.d (Zb (w64 ((List.length (m3_0++[b]):Int)-1)))),[(.cells [(.sl 7 1),(.sl 2 2),(.sl 8 2),(.mp 4),(.mp 5),(.mp 6)]),.dead,(.arr 2 (List.map ZC m2_0)),.dead,(.mp (mpD Zb Zb m4_0)),(.mp (mpD Zb Zb m5_0)),(.mp (mpD Zp Zb m6_0)),(.arr 1 (List.map Zb (m1_0++[c]))),(.arr 2 (List.map Zbc (m3_0++[b])))])
theorem ZaI {b:Zh}{c:Int}{m1_0:(List Int)}{m2_0:(List Zn)}{m3_0:(List Zh)}{m4_0:(List (Int×Int))}{m5_0:(List (Int×Int))}{m6_0:(List (Zi×Int))}:∀r,(Zah b c m1_0 m3_0)=some r→evW ctx 68 [(.ptr 0 0),(.d (D.agg [(Zb b.part),(Zb b.step)])),(.d (Zb c))] [(.cells [(.sl 1 1),(.sl 2 2),(.sl 3 2),(.mp 4),(.mp 5),(.mp 6)]),(.arr 1 (List.map Zb m1_0)),(.arr 2 (List.map ZC m2_0)),(.arr 2 (List.map Zbc m3_0)),(.mp (mpD Zb Zb m4_0)),(.mp (mpD Zb Zb m5_0)),(.mp (mpD Zp Zb m6_0))]=some ((ZfT b c m1_0 m2_0 m3_0 m4_0 m5_0 m6_0) r):=by
 show ZQ _ (fun r rhs=>rhs=some ((ZfT b c m1_0 m2_0 m3_0 m4_0 m5_0 m6_0) r)) _
 unfold Zah
 rw[Ze4 ctx 68 Zyn _ _ rfl rfl]
 conv=>arg 3;whnf
 refine ZbP rfl ?_;conv=>arg 3;whnf
 refine Ze (ZgT Zbc m3_0 1) ?_ ?_
 ·conv=>arg 3;whnf
  refine Zo (Zgb Zbc m3_0 [b]) ?_;conv=>arg 3;whnf
  refine ZbP rfl ?_;conv=>arg 3;whnf
  refine Ze (ZgT Zb m1_0 1) ?_ ?_
  ·conv=>arg 3;whnf
   refine Zo (Zgb Zb m1_0 [c]) ?_;conv=>arg 3;whnf
   refine Zo (ZL _ _) ?_;conv=>arg 3;whnf
   exact Zf rfl
  ·exact Z7
 ·exact Z7
end Go.Proofs.YtnmbdjkbaihicaaDoor
