/- EvalReady: part 5 of 6 of the proof. -/
import Derived.Test.YtnmbdjkbaihicaaDoorZEvalReadyd
import Derived.KernelRfl
set_option maxRecDepth 100000
set_option maxHeartbeats 40000000
namespace Go.Proofs.YtnmbdjkbaihicaaDoor
open Go Go.Proofs.YtnmbdjkbaihicaaDoorE
set_option linter.unusedVariables false
set_option linter.unusedSimpArgs false
theorem Zgy (b:Zh) (c:Int) {W:List Int}{P:List Zh} (h1:W.length≤10000) (h2:P.length≤10000):Zal b c W P=some ():=by
 unfold Zal
 rw[Zgr (by omega),Zgr (by omega)];rfl
theorem Zjp (b c:Int) {E:List Zm} (h1:E.length≤10000):ZI b c E=some ():=by
 unfold ZI
 rw[Zgr (by omega)];rfl
theorem Zra {β:Type} (P:List β) (x:β) (hP:P.length≤10000):w64 ((List.length (P++[x]):Int)-1)=(P.length:Int):=by
 rw[List.length_append]
 simp only[List.length_cons,List.length_nil]
 rw[ZcX (by omega) (by omega)]
 omega
theorem ZuV {d:Zj} (g:Zc9 d) {n:Nat} (hn:n<d.parts.length) (hc:ZcJ d (n:Int)=some (tch d n)) {W:List Int}{E:List Zm}{P:List Zh} (M5:List (Int×Int)) (M6:List (Zi×Int)) (hW:W.length≤1000) (hE:E.length≤1000) (hP:P.length≤1000) :
  Zdu d (n:Int) W E P M5 M6=(lp (ZA d (n:Int) (tch d n)) (0,0,M5,M6,W,E,P)).bind fun r=>some (bif decide (0<nt d n) then .inl r else .inr (.inl r.2.2.1)):=by
 obtain⟨x,x1,x2⟩:=ZtY hn
 have hnt:=ZwE g n
 have hnl:(tch d n).length=nt d n:=rfl
 have e1:w64 (((tch d n).length:Int)+1)=(((tch d n).length+1:Nat):Int):=by rw[ZcX (by omega) (by omega)];omega
 have w1:w64 ((0:Int)+1)=1:=ZcX (by omega) (by omega)
 have w2:w64 ((1:Int)+1)=2:=ZcX (by omega) (by omega)
 have w0:w64 ((1:Int)-1)=0:=ZcX (by omega) (by omega)
 have lW:∀a:Int,(W++[a]).length≤10000:=fun a=>by rw[List.length_append];simp only[List.length_cons,List.length_nil];omega
 have lP:∀a:Zh,(P++[a]).length≤10000:=fun a=>by rw[List.length_append];simp only[List.length_cons,List.length_nil];omega
 unfold Zdu
 rw[hc,Option.bind_some,Za7 (Zbw d (n:Int) W E P M5 M6 (tch d n)),Za7 (ZA d (n:Int) (tch d n))]
 by_cases h0:0<nt d n
 ·obtain⟨f,f1,f2,_⟩:=Zjg g.g h0
  have c0:decide ((0:Int)<(((tch d n).length+1:Nat):Int))=true:=decide_eq_true (by omega)
  have c1:decide ((0:Int)<((tch d n).length:Int))=true:=decide_eq_true (by omega)
  have c2:decide ((1:Int)<(((tch d n).length+1:Nat):Int))=true:=decide_eq_true (by omega)
  have f1':ZE (tch d n) 0=some (tch d n)[0]:=f1
  simp only[Zbw,ZA,e1,c0,c1,cond_true,x1,Option.bind_some,f1',f2,Zgy _ _ (show W.length≤10000 by omega) (show P.length≤10000 by omega),w1,decide_eq_false (show ¬(0:Int)<0 by omega),cond_false,decide_eq_true h0]
  rw[Za7 (Zbv d (n:Int) W E P M5 M6 (tch d n) f),Za7 (ZA d (n:Int) (tch d n))]
  by_cases h1:1<nt d n
  ·obtain⟨f',f1b,f2b,_⟩:=Zjg g.g h1
   have f1b':ZE (tch d n) 1=some (tch d n)[1]:=f1b
   have c3:decide ((1:Int)<((tch d n).length:Int))=true:=decide_eq_true (by omega)
   simp only[Zbv,ZA,e1,c2,c3,cond_true,x1,Option.bind_some,f1',f2,f1b',f2b,Zgy _ _ (lW _) (lP _),Zjp _ _ (show E.length≤10000 by omega),w2,w0,decide_eq_true (show(0:Int)<1 by omega)]
   generalize lp (ZA d (n:Int) (tch d n)) _=r
   cases r<;>rfl
  ·have c3:decide ((1:Int)<((tch d n).length:Int))=false:=decide_eq_false (by omega)
   simp only[Zbv,ZA,e1,c2,c3,cond_true,cond_false,x1,Option.bind_some,f1',f2,Zgy _ _ (lW _) (lP _),Zjp _ _ (show E.length≤10000 by omega),w2,w0,decide_eq_true (show(0:Int)<1 by omega)]
   generalize lp (ZA d (n:Int) (tch d n)) _=r
   cases r<;>rfl
 ·have c0:decide ((0:Int)<(((tch d n).length+1:Nat):Int))=true:=decide_eq_true (by omega)
  have c1:decide ((0:Int)<((tch d n).length:Int))=false:=decide_eq_false (by omega)
  have c2:decide ((1:Int)<(((tch d n).length+1:Nat):Int))=false:=decide_eq_false (by omega)
  simp only[Zbw,ZA,e1,c0,c1,cond_true,x1,Option.bind_some,Zgy _ _ (show W.length≤10000 by omega) (show P.length≤10000 by omega),w1,decide_eq_false (show ¬(0:Int)<0 by omega),cond_false,decide_eq_false h0]
  rw[Za7 (Zck d (n:Int) W E P M5 M6 (tch d n) x),Za7 (ZA d (n:Int) (tch d n))]
  simp only[Zck,ZA,e1,c2,cond_false,Option.bind_some]
abbrev eqF:Zi→Zi→Bool:=fun ka kb:Zi=>((ka.maker==kb.maker)&&((ka.user==kb.user)&&((ka.pos==kb.pos)&&true)))
def Ziu (M:List (Int×Int)) (n F i:Nat):List (Int×Int):=if i=0 then M else M++[((n:Int),((F+i-1:Nat):Int))]
theorem Zsk {M:List (Int×Int)}{n F:Nat} (h:∀q∈M,q.1≠(n:Int)) (i:Nat):Zu (fun ka kb:Int=>(ka==kb)) (Ziu M n F i) (n:Int) ((F+i:Nat):Int)=Ziu M n F (i+1):=by
 have hq:∀q∈M,eqI (n:Int) q.1=false:=fun q hq=>by
  show((n:Int)==q.1)=false
  exact beq_false_of_ne (Ne.symm (h q hq))
 unfold Ziu
 rw[if_neg (show i+1≠0 by omega)]
 by_cases h0:i=0
 ·subst h0
  rw[if_pos rfl]
  exact ZgJ eqI (n:Int) _ M hq
 ·rw[if_neg h0]
  exact Zno eqI (n:Int) _ _ (by simp) M hq
theorem Zrp {M:List (Int×Int)}{n F:Nat} (h:∀q∈M,q.1≠(n:Int)) (i:Nat):Z3 (fun ka kb:Int=>(ka==kb)) (Ziu M n F (i+1)) (n:Int) 0=((F+i:Nat):Int):=by
 unfold Ziu
 rw[if_neg (show i+1≠0 by omega)]
 exact Zp1 eqI (n:Int) 0 _ (by simp) M [] (fun q hq=>by
  show((n:Int)==q.1)=false
  exact beq_false_of_ne (Ne.symm (h q hq)))
def ZfR (d:Zj) (n j:Nat):Zi:=match (tch d n)[j]? with | some z=>(match d.futures[z.toNat]? with | some f=>f | none=>⟨0,0,0⟩) | none=>⟨0,0,0⟩
theorem Zfq {d:Zj}{n i:Nat} (g:ZlH d) (hi:i<nt d n):ZE (tch d n) (i:Int)=some (tch d n)[i]∧ZE d.futures (tch d n)[i]=some (ZfR d n i)∧(ZfR d n i).user=(n:Int)∧(ZfR d n i).pos=cut d n (i+1)∧ZfR d n i∈d.futures:=by
 obtain⟨f,h1,h2,h3,h4,h5,h6⟩:=Zjg g hi
 have e:ZfR d n i=f:=by
  unfold ZfR
  rw[List.getElem?_eq_getElem hi]
  show(match d.futures[((tch d n)[i]).toNat]? with | some f=>f | none=>⟨0,0,0⟩)=f
  rw[h3]
 rw[e]
 exact⟨h1,h2,h4,h5,h6⟩
theorem Zoy {d:Zj} (g:ZlH d) {n i j:Nat} (hij:i<j) (hj:j<nt d n):(ZfR d n i).pos<(ZfR d n j).pos:=by
 obtain⟨_,_,h3,_,_,h5,_⟩:=Zjg g (show i<nt d n by omega)
 obtain⟨_,_,k3,_,_,k5,_⟩:=Zjg g hj
 rw[(Zfq g (show i<nt d n by omega)).2.2.2.1,(Zfq g hj).2.2.2.1]
 have:=List.pairwise_iff_getElem.1 (ZlF g n).rise i j (show i<nt d n by omega) hj hij
 have e:∀k (hk:k<nt d n),cut d n (k+1)=ZeH d.futures (tch d n)[k]:=fun k hk=>by
  unfold cut
  rw[if_neg (by omega),Nat.add_sub_cancel,List.getElem?_eq_getElem hk]
 rw[e i (by omega),e j hj]
 exact this
def ZfC (d:Zj) (n k:Nat):List (Zi×Int):=(List.range k).map fun j:Nat=>(ZfR d n j,((ZX d n+j+1:Nat):Int))
theorem Zrh (d:Zj) (n k:Nat):ZfC d n (k+1)=ZfC d n k++[(ZfR d n k,((ZX d n+k+1:Nat):Int))]:=by unfold ZfC;rw[List.range_succ,List.map_append];rfl
theorem ZqV {a b:Zi} (h:a.user≠b.user∨a.pos≠b.pos):eqF a b=false:=by
 show((a.maker==b.maker)&&((a.user==b.user)&&((a.pos==b.pos)&&true)))=false
 rcases h with h | h
 ·rw[beq_false_of_ne h];simp
 ·rw[beq_false_of_ne h];simp
theorem Zox {d:Zj} (g:ZlH d) {n k:Nat} (hk:k<nt d n) {M:List (Zi×Int)} (h:∀q∈M,q.1.user≠(n:Int)) :
  Zu (fun ka kb:Zi=>((ka.maker==kb.maker)&&((ka.user==kb.user)&&((ka.pos==kb.pos)&&true)))) (M++ZfC d n k) (ZfR d n k) ((ZX d n+(k+1):Nat):Int)=M++ZfC d n (k+1):=by
 rw[Zrh,← List.append_assoc]
 refine ZgJ eqF _ _ _ fun q hq=>?_
 have hu:=(Zfq g hk).2.2.1
 rcases List.mem_append.1 hq with hq | hq
 ·exact ZqV (.inl (by rw[hu];exact Ne.symm (h q hq)))
 ·unfold ZfC at hq
  obtain⟨j,hj,rfl⟩:=List.mem_map.1 hq
  rw[List.mem_range] at hj
  have:=Zoy g hj hk
  exact ZqV (.inr (by show(ZfR d n k).pos≠(ZfR d n j).pos;omega))
theorem Zte {d:Zj} (g:Zc9 d) {n:Nat} (hn:n<d.parts.length) {W:List Int}{E:List Zm}{P:List Zh}{M5:List (Int×Int)}{M6:List (Zi×Int)} (hW:W.length≤1000) (hE:E.length≤1000) (hP:P.length=ZX d n)
  (h5:∀q∈M5,q.1≠(n:Int)) (h6:∀q∈M6,q.1.user≠(n:Int)) :
  lp (ZA d (n:Int) (tch d n)) (0,0,M5,M6,W,E,P)=some (M5++[((n:Int),((ZX d n+nt d n:Nat):Int))],M6++ZfC d n (nt d n),W++ZoN d n,E++ZgI d n (nt d n),P++Zeh n (nt d n+1)):=by
 obtain⟨x,x1,x2⟩:=ZtY hn
 have hnt:=ZwE g n
 have hnl:(tch d n).length=nt d n:=rfl
 have hF:=ZhI g n
 have hpl:=g.pl
 have e1:w64 (((tch d n).length:Int)+1)=((nt d n+1:Nat):Int):=by show w64 ((nt d n:Int)+1)=_;rw[ZcX (by omega) (by omega)];omega
 have key:∀(k i:Nat),i+k=nt d n+1→lp (ZA d (n:Int) (tch d n)) (cut d n i,(i:Int),Ziu M5 n (ZX d n) i,M6++ZfC d n (i-1),W++Zjo d n i,E++ZgI d n (i-1),P++Zeh n i) =
   some (Ziu M5 n (ZX d n) (nt d n+1),M6++ZfC d n (nt d n),W++ZoN d n,E++ZgI d n (nt d n),P++Zeh n (nt d n+1)):=by
  intro k
  induction k with
  | zero=>
   intro i hi
   have:i=nt d n+1:=by omega
   subst this
   rw[Za7]
   simp only[ZA,e1,Zex,cond_false]
   rfl
  | succ k ih=>
   intro i hi
   have hi':i<nt d n+1:=by omega
   have b0:=ZyG g.g n i
   have b1:=ZyG g.g n (i+1)
   have lP:(P++Zeh n i).length=ZX d n+i:=by rw[List.length_append,Zni,hP]
   have l2:(W++Zjo d n i).length≤10000:=by rw[List.length_append,Zpa];omega
   have l3:(E++ZgI d n (i-1)).length≤10000:=by rw[List.length_append,ZoO];omega
   have lput:=Zra (P++Zeh n i) (Zh.mk (n:Int) (i:Int)) (by rw[lP];omega)
   rw[lP] at lput
   have p5:=Zsk (F:=ZX d n) h5 i
   have g5:=Zrp (F:=ZX d n) h5 i
   have w5:w64 (cut d n (i+1)-cut d n i)=cut d n (i+1)-cut d n i:=ZcX (by omega) (by omega)
   have ih':=ih (i+1) (by omega)
   rw[Zrt,ZqA,← List.append_assoc,← List.append_assoc] at ih'
   rw[Za7]
   have fin:i=nt d n→cut d n (i+1)=x.work:=fun h=>by rw[h,Zya,x2]
   have node:=fun c=>Zgy (Zh.mk (n:Int) (i:Int)) c l2 (show(P++Zeh n i).length≤10000 by rw[lP];omega)
   by_cases hlast:i<nt d n
   ·obtain⟨q1,q2,q3,q4,_⟩:=Zfq g.g hlast
    cases i with
    | zero=>
     simp only[ZA,e1,ZdL hi',cond_true,x1,Option.bind_some,ZdL (show 0<(tch d n).length from hlast),q1,q2,q4,node,decide_eq_false (show ¬(0:Int)<((0:Nat):Int) by omega),cond_false,lput,p5,w5,ZT hi' (show nt d n+1<9223372036854775808 by omega)]
     exact ih'
    | succ j=>
     obtain⟨r1,r2,r3,r4,_⟩:=Zfq g.g (show j<nt d n by omega)
     have e2:w64 (((j+1:Nat):Int)-1)=(j:Int):=by rw[ZcX (by omega) (by omega)];omega
     have e3:w64 (((ZX d n+(j+1):Nat):Int)-1)=((ZX d n+j:Nat):Int):=by rw[ZcX (by omega) (by omega)];omega
     have p6:=Zox g.g (show j<nt d n by omega) h6
     rw[Nat.add_sub_cancel] at l3 ih' ⊢
     rw[Znn,← List.append_assoc] at ih'
     simp only[ZA,e1,ZdL hi',cond_true,x1,Option.bind_some,ZdL (show j+1<(tch d n).length from hlast),q1,q2,q4,node,decide_eq_true (show(0:Int)<((j+1:Nat):Int) by omega),lput,p5,g5,w5,e2,e3,r1,r2,Zjp _ _ l3,p6,ZT hi' (show nt d n+1<9223372036854775808 by omega)]
     exact ih'
   ·have hin:i=nt d n:=by omega
    have hfin:=fin hin
    rw[hfin] at w5 ih'
    have c3:decide ((i:Int)<((tch d n).length:Int))=false:=decide_eq_false (by have:((tch d n).length:Int)=(nt d n:Int):=rfl;omega)
    cases i with
    | zero=>
     simp only[ZA,e1,ZdL hi',cond_true,x1,Option.bind_some,c3,node,decide_eq_false (show ¬(0:Int)<((0:Nat):Int) by omega),cond_false,lput,p5,w5,ZT hi' (show nt d n+1<9223372036854775808 by omega)]
     exact ih'
    | succ j=>
     obtain⟨r1,r2,r3,r4,_⟩:=Zfq g.g (show j<nt d n by omega)
     have e2:w64 (((j+1:Nat):Int)-1)=(j:Int):=by rw[ZcX (by omega) (by omega)];omega
     have e3:w64 (((ZX d n+(j+1):Nat):Int)-1)=((ZX d n+j:Nat):Int):=by rw[ZcX (by omega) (by omega)];omega
     have p6:=Zox g.g (show j<nt d n by omega) h6
     rw[Nat.add_sub_cancel] at l3 ih' ⊢
     rw[Znn,← List.append_assoc] at ih'
     simp only[ZA,e1,ZdL hi',cond_true,cond_false,x1,Option.bind_some,c3,node,decide_eq_true (show(0:Int)<((j+1:Nat):Int) by omega),lput,p5,g5,w5,e2,e3,r1,r2,Zjp _ _ l3,p6,ZT hi' (show nt d n+1<9223372036854775808 by omega)]
     exact ih'
 have:=key (nt d n+1) 0 (by omega)
 simpa [Ziu,ZfC,Zjo,ZgI,Zeh,cut] using this
end Go.Proofs.YtnmbdjkbaihicaaDoor
namespace Go.Proofs.YtnmbdjkbaihicaaDoor
open Go Go.Proofs.YtnmbdjkbaihicaaDoorE
set_option linter.unusedVariables false
set_option linter.unusedSimpArgs false
def ZlM (g:Zcp) (a:Int) (T:List Bool):Prop:=∀e∈g.edges,(e.src=a∨bAt T e.src=true)→bAt T e.dst=true
end Go.Proofs.YtnmbdjkbaihicaaDoor
namespace Go.Proofs.YtnmbdjkbaihicaaDoor
open Go Go.Proofs.YtnmbdjkbaihicaaDoorE
set_option linter.unusedVariables false
set_option linter.unusedSimpArgs false
def Zfs (d:Zj) (k:Nat):List (Int×Int):=(List.range k).map fun n:Nat=>((n:Int),(ZX d n:Int))
def ZfX (d:Zj) (k:Nat):List (Int×Int):=(List.range k).map fun n:Nat=>((n:Int),((ZX d n+nt d n:Nat):Int))
def ZdT (d:Zj) (k:Nat):List (Zi×Int):=upto (fun n=>ZfC d n (nt d n)) k
theorem ZqZ (d:Zj) (k:Nat):Zfs d (k+1)=Zfs d k++[((k:Int),(ZX d k:Int))]:=by unfold Zfs;rw[List.range_succ,List.map_append];rfl
theorem ZrQ (d:Zj) (k:Nat):ZfX d (k+1)=ZfX d k++[((k:Int),((ZX d k+nt d k:Nat):Int))]:=by unfold ZfX;rw[List.range_succ,List.map_append];rfl
theorem ZsX (d:Zj) (k:Nat):∀q∈Zfs d k,q.1≠(k:Int):=fun q hq=>by
 unfold Zfs at hq
 obtain⟨j,hj,rfl⟩:=List.mem_map.1 hq
 rw[List.mem_range] at hj
 show(j:Int)≠(k:Int)
 omega
theorem Zqc (d:Zj) (k:Nat):∀q∈ZfX d k,q.1≠(k:Int):=fun q hq=>by
 unfold ZfX at hq
 obtain⟨j,hj,rfl⟩:=List.mem_map.1 hq
 rw[List.mem_range] at hj
 show(j:Int)≠(k:Int)
 omega
theorem ZlW {d:Zj}{k:Nat}{q:Zi×Int} (h:q∈ZdT d k):∃n j,n<k∧j<nt d n∧q=(ZfR d n j,((ZX d n+j+1:Nat):Int)):=by
 unfold ZdT upto at h
 obtain⟨n,hn,hq⟩:=List.mem_flatMap.1 h
 unfold ZfC at hq
 obtain⟨j,hj,rfl⟩:=List.mem_map.1 hq
 exact⟨n,j,List.mem_range.1 hn,List.mem_range.1 hj,rfl⟩
theorem Zsb {d:Zj} (g:ZlH d) (k:Nat):∀q∈ZdT d k,q.1.user≠(k:Int):=fun q hq=>by
 obtain⟨n,j,hn,hj,rfl⟩:=ZlW hq
 show(ZfR d n j).user≠(k:Int)
 rw[(Zfq g hj).2.2.1]
 omega
theorem Zhz {K W:Type} (eq:K→K→Bool) (z:W) (f:Nat→K) (v:Nat→W) {i:Nat} (h0:eq (f i) (f i)=true) (h1:∀j,j<i→eq (f i) (f j)=false):∀k,i<k→Z3 eq ((List.range k).map fun j=>(f j,v j)) (f i) z=v i
 | 0,h=>absurd h (by omega)
 | k+1,h=>by
  rw[List.range_succ,List.map_append]
  by_cases hk:i<k
  ·rw[Zhr eq (f i) z _ _ ⟨(f i,v i),List.mem_map.2 ⟨i,List.mem_range.2 hk,rfl⟩,h0⟩]
   exact Zhz eq z f v h0 h1 k hk
  ·have:i=k:=by omega
   subst this
   refine Zp1 eq (f i) z (v i) h0 _ [] fun q hq=>?_
   obtain⟨j,hj,rfl⟩:=List.mem_map.1 hq
   exact h1 j (List.mem_range.1 hj)
theorem Zqe {d:Zj}{z:Int} (h:inR d z):Z3 (fun ka kb:Int=>(ka==kb)) (Zfs d d.parts.length) z 0=ZkB d z:=by
 have:=Zhz eqI 0 (fun n:Nat=>(n:Int)) (fun n=>(ZX d n:Int)) (i:=z.toNat) (by simp) (fun j hj=>beq_false_of_ne (by omega)) d.parts.length h.2
 have e:((z.toNat:Nat):Int)=z:=Int.toNat_of_nonneg h.1
 simp only[e] at this
 exact this
theorem ZoW {d:Zj}{z:Int} (h:inR d z):Z3 (fun ka kb:Int=>(ka==kb)) (ZfX d d.parts.length) z 0=Zfy d z:=by
 have:=Zhz eqI 0 (fun n:Nat=>(n:Int)) (fun n=>((ZX d n+nt d n:Nat):Int)) (i:=z.toNat) (by simp) (fun j hj=>beq_false_of_ne (by omega)) d.parts.length h.2
 have e:((z.toNat:Nat):Int)=z:=Int.toNat_of_nonneg h.1
 simp only[e] at this
 refine Eq.trans this ?_
 unfold Zfy
 show _=((ZX d z.toNat+(nt d z.toNat+1):Nat):Int)-1
 omega
theorem Zvf {d:Zj} (g:Zc9 d) {f:Zi} (h:f∈d.futures):∃j,j<nt d f.user.toNat∧ZfR d f.user.toNat j=f:=by
 obtain⟨m,hm⟩:=List.getElem?_of_mem h
 have hu:=g.user h
 have e:((f.user.toNat:Nat):Int)=f.user:=Int.toNat_of_nonneg hu.1
 have:=(ZlF g.g f.user.toNat).mem (m:Int) |>.2 ⟨m,f,hm,e.symm,rfl⟩
 obtain⟨j,hj,hj2⟩:=List.getElem_of_mem this
 refine⟨j,hj,?_⟩
 unfold ZfR
 rw[List.getElem?_eq_getElem hj]
 show(match d.futures[((tch d f.user.toNat)[j]).toNat]? with | some f=>f | none=>⟨0,0,0⟩)=f
 rw[hj2,Int.toNat_natCast,hm]
theorem ZtK {γ R:Type} (p:Nat→γ→Bool) (out:Nat→γ→R) (fin:R):∀(l:List γ) (i j:Nat) (x:γ),l[j]? = some x→p (i+j) x=true→(∀k y,k<j→l[k]? = some y→p (i+k) y=false)→ZhD p out fin i l=out (i+j) x
 | [],i,j,x,h,_,_=>by cases h
 | y :: l,i,0,x,h,h1,_=>by
  cases h
  unfold ZhD
  rw[Nat.add_zero] at h1
  rw[h1];rfl
 | y :: l,i,j+1,x,h,h1,h2=>by
  unfold ZhD
  have h0:=h2 0 y (by omega) rfl
  rw[Nat.add_zero] at h0
  rw[h0]
  show ZhD p out fin (i+1) l=_
  rw[show i+(j+1)=i+1+j by omega] at h1 ⊢
  exact ZtK p out fin l (i+1) j x h h1 fun k z hk hz=>by
   have:=h2 (k+1) z (by omega) hz
   rwa [show i+(k+1)=i+1+k by omega] at this
theorem ZxJ {d:Zj} (g:Zc9 d) {f:Zi} (h:f∈d.futures) {j:Nat} (hj:j<nt d f.user.toNat) (he:ZfR d f.user.toNat j=f):ZuN d f=((ZX d f.user.toNat+j+1:Nat):Int):=by
 have pos:∀k (hk:k<nt d f.user.toNat),ZeH d.futures (tch d f.user.toNat)[k]=(ZfR d f.user.toNat k).pos:=fun k hk=>by
  rw[(Zfq g.g hk).2.2.2.1]
  unfold cut
  rw[if_neg (by omega),Nat.add_sub_cancel,List.getElem?_eq_getElem hk]
 unfold ZuN
 rw[ZtK (fun _ z=>ZeH d.futures z==f.pos) (fun i _=>ZkB d f.user+(i:Int)+1) (-1) (tch d f.user.toNat) 0 j _ (List.getElem?_eq_getElem hj) (by show(ZeH d.futures (tch d f.user.toNat)[j]==f.pos)=true;rw[pos j hj,he];simp) (fun k y hk hy=>by
  have hk2:k<nt d f.user.toNat:=by omega
  have hy2:(tch d f.user.toNat)[k]=y:=Option.some.inj ((List.getElem?_eq_getElem hk2).symm.trans hy)
  have:=Zoy g.g hk hj
  rw[he] at this
  show(ZeH d.futures y==f.pos)=false
  rw[← hy2,pos k hk2]
  exact beq_false_of_ne (by omega))]
 unfold ZkB
 omega
theorem Zrf (f:Zi):eqF f f=true:=by simp[eqF]
theorem Zuy {d:Zj} (g:Zc9 d) {f:Zi} (h:f∈d.futures):Z3 (fun ka kb:Zi=>((ka.maker==kb.maker)&&((ka.user==kb.user)&&((ka.pos==kb.pos)&&true)))) (ZdT d d.parts.length) f 0=ZuN d f:=by
 obtain⟨j,hj,he⟩:=Zvf g h
 have hu:=g.user h
 have eu:((f.user.toNat:Nat):Int)=f.user:=Int.toNat_of_nonneg hu.1
 have key:∀k,f.user.toNat<k→Z3 eqF (ZdT d k) f 0=ZuN d f:=by
  intro k
  induction k with
  | zero=>intro hk;exact absurd hk (by omega)
  | succ k ih=>
   intro hk
   rw[show ZdT d (k+1)=ZdT d k++ZfC d k (nt d k) from ZcW _ k]
   by_cases hlt:f.user.toNat<k
   ·rw[Zhr eqF f 0 _ _ ⟨(f,((ZX d f.user.toNat+j+1:Nat):Int)),?_,Zrf f⟩]
    ·exact ih hlt
    ·unfold ZdT upto
     refine List.mem_flatMap.2 ⟨f.user.toNat,List.mem_range.2 hlt,?_⟩
     unfold ZfC
     exact List.mem_map.2 ⟨j,List.mem_range.2 hj,by rw[he]⟩
   ·have hk2:k=f.user.toNat:=by omega
    subst hk2
    rw[ZgN eqF f 0 _ _ (fun q hq=>by
     obtain⟨n,i,hn,hi,rfl⟩:=ZlW hq
     refine ZqV (.inl ?_)
     show f.user≠(ZfR d n i).user
     rw[(Zfq g.g hi).2.2.1]
     omega)]
    have:=Zhz eqF 0 (fun i=>ZfR d f.user.toNat i) (fun i=>((ZX d f.user.toNat+i+1:Nat):Int)) (i:=j) (Zrf _) (fun i hi=>by
     have:=Zoy g.g hi hj
     exact ZqV (.inr (by omega))) (nt d f.user.toNat) hj
    rw[ZxJ g h hj he]
    rw[he] at this
    exact this
 exact key d.parts.length hu.2
theorem Ztj {d:Zj} (g:Zc9 d) (hc:∀n:Nat,ZcJ d (n:Int)=some (tch d n)):lp (Zcx d) (0,[],[],[],[],[],[])=some (Zhp d d.parts.length,ZgA d d.parts.length,ZcN d d.parts.length,Zfs d d.parts.length,ZfX d d.parts.length,ZdT d d.parts.length):=by
 have hpl:=g.pl
 have key:∀(k i:Nat),i+k=d.parts.length→lp (Zcx d) ((i:Int),Zhp d i,ZgA d i,ZcN d i,Zfs d i,ZfX d i,ZdT d i)=some (Zhp d d.parts.length,ZgA d d.parts.length,ZcN d d.parts.length,Zfs d d.parts.length,ZfX d d.parts.length,ZdT d d.parts.length):=by
  intro k
  induction k with
  | zero=>
   intro i hi
   have:i=d.parts.length:=by omega
   subst this
   rw[Za7]
   simp only[Zcx,Zex,cond_false]
  | succ k ih=>
   intro i hi
   have hi':i<d.parts.length:=by omega
   have hF:=ZhI g i
   have h1:=ZlK d i
   have l1:(Zhp d i).length≤1000:=by rw[Zjj];omega
   have l2:(ZgA d i).length≤1000:=by omega
   have l3:(ZcN d i).length≤1000:=by rw[ZcM];omega
   have ih':=ih (i+1) (by omega)
   rw[show ZgA d (i+1)=ZgA d i++ZgI d i (nt d i) from ZcW _ i,show Zhp d (i+1)=Zhp d i++ZoN d i from ZcW _ i,show ZcN d (i+1)=ZcN d i++Zeh i (nt d i+1) from ZcW _ i,ZqZ,ZrQ,show ZdT d (i+1)=ZdT d i++ZfC d i (nt d i) from ZcW _ i] at ih'
   have pe:=ZuV g hi' (hc i) (ZfX d i) (ZdT d i) l1 l2 l3
   rw[Zte g hi' l1 l2 (ZcM d i) (Zqc d i) (Zsb g.g i),Option.bind_some] at pe
   have p4:Zu (fun ka kb:Int=>(ka==kb)) (Zfs d i) (i:Int) ((ZcN d i).length:Int)=Zfs d i++[((i:Int),(ZX d i:Int))]:=by
    rw[ZcM]
    exact ZgJ eqI (i:Int) _ _ fun q hq=>beq_false_of_ne (Ne.symm (ZsX d i q hq))
   have p5:Zu (fun ka kb:Int=>(ka==kb)) (ZfX d i) (i:Int) (ZX d i:Int)=ZfX d i++[((i:Int),(ZX d i:Int))]:=ZgJ eqI (i:Int) _ _ fun q hq=>beq_false_of_ne (Ne.symm (Zqc d i q hq))
   have lput:=Zra (ZcN d i) (Zh.mk (i:Int) 0) (by omega)
   rw[ZcM] at lput
   rw[Za7]
   by_cases h0:0<nt d i
   ·rw[decide_eq_true h0] at pe
    simp only[Zcx,ZdL hi',cond_true,pe,Option.bind_some,p4,ZT hi' (show d.parts.length<9223372036854775808 by omega)]
    exact ih'
   ·have hz:nt d i=0:=by omega
    rw[decide_eq_false h0] at pe
    simp only[Zcx,ZdL hi',cond_true,cond_false,pe,Option.bind_some,p4,lput,p5,ZT hi' (show d.parts.length<9223372036854775808 by omega)]
    rw[hz] at ih'
    simpa [ZgI,Zeh,ZfC] using ih'
 exact key d.parts.length 0 (by omega)
theorem ZsW {d:Zj} (g:Zc9 d) {r3:List Int×List Zm×List Zh×List (Int×Int)×List (Int×Int)×List (Zi×Int)} (h4:r3.2.2.2.1=Zfs d d.parts.length) (h5:r3.2.2.2.2.1=ZfX d d.parts.length) (E:List Zm) (hE:E.length≤1000):lp (ZcV d r3) (0,E)=some (E++Zo3 d):=
 have he:=g.el
 Zon d.edges (by omega) (ZcV d r3) (fun e=>⟨Zfy d e.src,ZkB d e.dst⟩) (fun i x s hi hx hb=>by
  have hm:=List.mem_of_getElem? hx
  have ed:∀b c,ZI b c s=some ():=fun b c=>by unfold ZI;rw[hb];rfl
  simp only[ZcV,ZdL hi,cond_true,Zax hx,Option.bind_some,h4,h5,ZoW (g.src hm),Zqe (g.dst hm),ed,ZT hi (show d.edges.length<9223372036854775808 by omega)]) (fun s=>by simp only[ZcV,Zex,cond_false]) E (by omega)
theorem ZqX {d:Zj} (g:Zc9 d) {r3:List Int×List Zm×List Zh×List (Int×Int)×List (Int×Int)×List (Zi×Int)} (h5:r3.2.2.2.2.1=ZfX d d.parts.length) (h6:r3.2.2.2.2.2=ZdT d d.parts.length) (E:List Zm) (hE:E.length≤1000):lp (ZcZ d r3) (0,E)=some (E++ZqI d):=
 have he:=g.fl
 Zon d.futures (by omega) (ZcZ d r3) (fun f=>⟨Zfy d f.maker,ZuN d f⟩) (fun i x s hi hx hb=>by
  have hm:=List.mem_of_getElem? hx
  have ed:∀b c,ZI b c s=some ():=fun b c=>by unfold ZI;rw[hb];rfl
  simp only[ZcZ,ZdL hi,cond_true,Zax hx,Option.bind_some,h5,h6,ZoW (g.maker hm),Zuy g hm,ed,ZT hi (show d.futures.length<9223372036854775808 by omega)]) (fun s=>by simp only[ZcZ,Zex,cond_false]) E (by omega)
theorem ZuH {d:Zj} (g:Zc9 d) (hz:ZiP d) {r3:List Int×List Zm×List Zh×List (Int×Int)×List (Int×Int)×List (Zi×Int)} (h4:r3.2.2.2.1=Zfs d d.parts.length) (h5:r3.2.2.2.2.1=ZfX d d.parts.length) (E:List Zm) (hE:E.length≤1000) :
  lp (ZcY d r3) (0,Zhp d d.parts.length,E,ZcN d d.parts.length)=some (Zkj d,E++ZfY d d.barriers.length,Zd4 d):=by
 have hbl:=g.bl
 have hF:=ZhI g d.parts.length
 have hpl:=g.pl
 have key:∀(k i:Nat),i+k=d.barriers.length→lp (ZcY d r3) ((i:Int),Zhp d d.parts.length++List.replicate i 1,E++ZfY d i,ZcN d d.parts.length++Ze6 i)=some (Zkj d,E++ZfY d d.barriers.length,Zd4 d):=by
  intro k
  induction k with
  | zero=>
   intro i hi
   have:i=d.barriers.length:=by omega
   subst this
   rw[Za7]
   simp only[ZcY,Zex,cond_false]
   rfl
  | succ k ih=>
   intro i hi
   have hi':i<d.barriers.length:=by omega
   have hx:d.barriers[i]? = some d.barriers[i]:=List.getElem?_eq_getElem hi'
   have hm:=List.mem_of_getElem? hx
   have hsz:=hz.i _ hm
   have hB:=ZlB hz i
   have lp_:(ZcN d d.parts.length++Ze6 i).length=ZX d d.parts.length+i:=by rw[List.length_append,ZcM,Zng]
   have lw_:(Zhp d d.parts.length++List.replicate i (1:Int)).length=ZX d d.parts.length+i:=by rw[List.length_append,Zjj,List.length_replicate]
   have lput:=Zra (ZcN d d.parts.length++Ze6 i) (Zh.mk (-1) (i:Int)) (by rw[lp_];omega)
   rw[lp_,show((ZX d d.parts.length+i:Nat):Int)=Zo9 d i from rfl] at lput
   have k4:=fun s=>Zon d.barriers[i].ins (by omega) (ZdF r3 ((i:Int),Zhp d d.parts.length++List.replicate i 1,E++ZfY d i,ZcN d d.parts.length++Ze6 i) d.barriers[i]) (fun q=>⟨Zfy d q,Zo9 d i⟩) (fun j x s hj hx hb=>by
    have ed:∀b c,ZI b c s=some ():=fun b c=>by unfold ZI;rw[hb];rfl
    simp only[ZdF,ZdL hj,cond_true,Zax hx,Option.bind_some,h5,ZoW (g.ins _ hm x (List.mem_of_getElem? hx)),lput,ed,ZT hj (show d.barriers[i].ins.length<9223372036854775808 by omega)]) (fun s=>by simp only[ZdF,Zex,cond_false]) s
   have k5:=fun s=>Zon d.barriers[i].outs (by omega) (ZdG r3 ((i:Int),Zhp d d.parts.length++List.replicate i 1,E++ZfY d i,ZcN d d.parts.length++Ze6 i) d.barriers[i]) (fun q=>⟨Zo9 d i,ZkB d q⟩) (fun j x s hj hx hb=>by
    have ed:∀b c,ZI b c s=some ():=fun b c=>by unfold ZI;rw[hb];rfl
    simp only[ZdG,ZdL hj,cond_true,Zax hx,Option.bind_some,h4,Zqe (g.outs _ hm x (List.mem_of_getElem? hx)),lput,ed,ZT hj (show d.barriers[i].outs.length<9223372036854775808 by omega)]) (fun s=>by simp only[ZdG,Zex,cond_false]) s
   have ih':=ih (i+1) (by omega)
   have eB:ZfY d (i+1)=ZfY d i++Zv4 d (Zo9 d i) d.barriers[i]:=by
    unfold ZfY
    rw[ZcW,hx]
   rw[eB,ZqS,List.replicate_succ',Zv4,← List.append_assoc,← List.append_assoc,← List.append_assoc,← List.append_assoc] at ih'
   rw[Za7]
   simp only[ZcY,ZdL hi',cond_true,Zax hx,Option.bind_some,Zgy _ _ (show(Zhp d d.parts.length++List.replicate i (1:Int)).length≤10000 by rw[lw_];omega) (show(ZcN d d.parts.length++Ze6 i).length≤10000 by rw[lp_];omega),k4 (E++ZfY d i) (by rw[List.length_append];omega),
    k5 (E++ZfY d i++List.map (fun q=>⟨Zfy d q,Zo9 d i⟩) d.barriers[i].ins) (by simp only[List.length_append,List.length_map];omega),ZT hi' (show d.barriers.length<9223372036854775808 by omega)]
   exact ih'
 have:=key d.barriers.length 0 (by omega)
 simpa [ZfY,upto,Ze6] using this
theorem ZrT {d:Zj} (g:Zc9 d) (hz:ZiP d):Zq2 (ZaE d).dag:=by
 have hE:=Zn0 g
 have hB:=ZlB hz d.barriers.length
 have hbl:=g.bl
 have hF:=ZhI g d.parts.length
 have hpl:=g.pl
 constructor
 ·show(Zkj d).length<_
  unfold Zkj
  rw[List.length_append,Zjj,List.length_replicate]
  omega
 ·show(ZsH d).length<_
  unfold ZsH
  rw[List.length_append]
  omega
noncomputable def Znx (d:Zj):ZlU×Int:=
 bif ZfD d==0 then (bif ZjB (ZaE d).dag==0 then (ZaE d,0) else (⟨⟨[],[]⟩,[]⟩,70)) else (⟨⟨[],[]⟩,[]⟩,ZfD d)
theorem ZqT {d:Zj} (hz:ZiP d):Zet d=some (Znx d):=by
 have hs:=hz.short
 unfold Zet Znx
 rw[Zqw d hs,Option.bind_some]
 by_cases hc:ZfD d=0
 ·have g:=Zl2 hc
  have hE:=Zn0 g
  have h3:(ZgA d d.parts.length++Zo3 d).length≤1000:=by unfold ZmS at hE;rw[List.length_append] at hE;omega
  have h4:(ZgA d d.parts.length).length≤1000:=by rw[List.length_append] at h3;omega
  rw[hc]
  simp only[bne_self_eq_false,cond_false,beq_self_eq_true,cond_true,Ztj g (ZAA hs (by have:=g.fl;omega) hc),Option.bind_some]
  rw[ZsW g rfl rfl _ h4]
  simp only[Option.bind_some]
  rw[ZqX g rfl rfl _ h3]
  simp only[Option.bind_some]
  rw[show ZgA d d.parts.length++Zo3 d++ZqI d=ZmS d from rfl,ZuH g hz rfl rfl _ hE]
  simp only[Option.bind_some]
  rw[show Zcp.mk (Zkj d) (ZmS d++ZfY d d.barriers.length)=(ZaE d).dag from rfl,ZsD _ (ZrT g hz),Option.bind_some]
  by_cases hk:ZjB (ZaE d).dag=0
  ·rw[hk];rfl
  ·rw[beq_false_of_ne hk,bne,beq_false_of_ne hk];rfl
 ·rw[beq_false_of_ne hc,bne,beq_false_of_ne hc];rfl
end Go.Proofs.YtnmbdjkbaihicaaDoor
namespace Go.Proofs.YtnmbdjkbaihicaaDoor
open Go Go.Proofs.YtnmbdjkbaihicaaDoorE
set_option linter.unusedVariables false
set_option linter.unusedSimpArgs false
theorem ZwL (d:Zj) (g:ZlH d) (n:Nat):nt d n=d.futures.countP fun f=>f.user==(n:Int):=by
 show(tch d n).length=_
 rw[ZpD (ZlF g n)]
 unfold ZnD
 rw[Zmn]
theorem ZpW {γ:Type} (p q r:γ→Bool) (h:∀x,r x=(p x || q x)) (h2:∀x,¬(p x=true∧q x=true)):∀l:List γ,l.countP r=l.countP p+l.countP q
 | []=>rfl
 | x :: l=>by
  rw[List.countP_cons,List.countP_cons,List.countP_cons,ZpW p q r h h2 l,h x]
  have:=h2 x
  cases hp:p x<;>cases hq:q x<;>simp_all<;>omega
theorem Zmh {d:Zj} (g:Zc9 d):∀k,ZX d k=k+d.futures.countP fun f=>decide (0≤f.user)&&decide (f.user<(k:Int))
 | 0=>by
  have:(d.futures.countP fun f=>decide (0≤f.user)&&decide (f.user<((0:Nat):Int)))=0:=by
   rw[List.countP_eq_zero]
   intro f _
   simp only[Bool.and_eq_true,decide_eq_true_eq]
   omega
  rw[this];rfl
 | k+1=>by
  rw[ZpW (fun f:Zi=>decide (0≤f.user)&&decide (f.user<(k:Int))) (fun f=>f.user==(k:Int)) (fun f=>decide (0≤f.user)&&decide (f.user<((k+1:Nat):Int))) (fun f=>by
   rw[Bool.eq_iff_iff]
   simp only[Bool.and_eq_true,Bool.or_eq_true,decide_eq_true_eq,beq_iff_eq]
   omega) (fun f=>by
   simp only[Bool.and_eq_true,decide_eq_true_eq,beq_iff_eq]
   omega)]
  show ZX d k+(nt d k+1)=_
  rw[Zmh g k,ZwL d g.g k]
  omega
theorem ZlA {d:Zj} (g:Zc9 d):ZX d d.parts.length=d.parts.length+d.futures.length:=by
 rw[Zmh g,List.countP_eq_length.2 fun f hf=>?_]
 have:=g.user hf
 have h1:=this.1
 have h2:=this.2
 simp only[Bool.and_eq_true,decide_eq_true_eq]
 omega
theorem Zpi {d:Zj} (g:Zc9 d):(Zkj d).length=d.parts.length+d.futures.length+d.barriers.length:=by
 unfold Zkj
 rw[List.length_append,Zjj,List.length_replicate,ZlA g]
theorem Zok {d:Zj} (g:Zc9 d):(Zd4 d).length=d.parts.length+d.futures.length+d.barriers.length:=by
 unfold Zd4
 rw[List.length_append,ZcM,Zng,ZlA g]
theorem ZsS (d:Zj):(Znx d=(ZaE d,0)∧ZfD d=0∧ZjB (ZaE d).dag=0)∨((Znx d).1=⟨⟨[],[]⟩,[]⟩∧(Znx d).2≠0):=by
 unfold Znx
 by_cases hc:ZfD d=0
 ·rw[hc]
  by_cases hk:ZjB (ZaE d).dag=0
  ·rw[hk];exact .inl ⟨rfl,rfl,rfl⟩
  ·rw[beq_false_of_ne hk];exact .inr ⟨rfl,by show(70:Int)≠0;omega⟩
 ·rw[beq_false_of_ne hc];exact .inr ⟨rfl,hc⟩
end Go.Proofs.YtnmbdjkbaihicaaDoor
namespace Go.Proofs.YtnmbdjkbaihicaaDoor
open Go Go.Proofs.YtnmbdjkbaihicaaDoorE Go.Sort
set_option linter.unusedVariables false
set_option linter.unusedSimpArgs false
set_option maxRecDepth 20000
end Go.Proofs.YtnmbdjkbaihicaaDoor
namespace Go.Proofs.YtnmbdjkbaihicaaDoor
open Go Go.Proofs.YtnmbdjkbaihicaaDoorE
set_option linter.unusedVariables false
set_option linter.unusedSimpArgs false
end Go.Proofs.YtnmbdjkbaihicaaDoor
namespace Go.Proofs.YtnmbdjkbaihicaaDoor
open Go Go.Proofs.YtnmbdjkbaihicaaDoorE
set_option linter.unusedVariables false
set_option linter.unusedSimpArgs false
theorem ZrN (d:Zj) {m n:Nat} (h:m≤n):ZX d m≤ZX d n:=by
  induction n with
  | zero => have : m = 0 := by omega
            subst this;exact Nat.le_refl _
  | succ n ih=>
    by_cases hm:m=n+1
    · subst hm;exact Nat.le_refl _
    · have:=ih (by omega)
      show ZX d m≤ZX d n+(nt d n+1)
      omega
theorem Zis (d:Zj) (n:Nat):ZX d (n+1)=ZX d n+nt d n+1:=by show ZX d n+(nt d n+1)=_;omega
theorem ZhG (d:Zj) {m n j:Nat} (h:m<n) (hj:j≤nt d m):ZX d m+j<ZX d n:=by
  have:=ZrN d (show m+1≤n by omega)
  have:=Zis d m
  omega
theorem Zsm (d:Zj):∀(k i:Nat),i<ZX d k→∃n j,n<k∧j≤nt d n∧i=ZX d n+j
  | 0,i,h=>absurd h (by show ¬i<0;omega)
  | k+1,i,h=>by
    have hs:=Zis d k
    by_cases hi:i<ZX d k
    · obtain⟨n,j,h1,h2,h3⟩:=Zsm d k i hi
      exact⟨n,j,by omega,h2,h3⟩
    · exact⟨k,i-ZX d k,by omega,by omega,by omega⟩
theorem ZpG (d:Zj) {m n i j:Nat} (hi:i≤nt d m) (hj:j≤nt d n) (h:ZX d m+i=ZX d n+j):m=n∧i=j:=by
  rcases Nat.lt_trichotomy m n with hlt | heq | hlt
  · have:=ZhG d hlt hi;omega
  · subst heq;exact⟨rfl,by omega⟩
  · have:=ZhG d hlt hj;omega
theorem Zog (d:Zj):∀(k n j:Nat),n<k→j≤nt d n→(ZcN d k)[ZX d n+j]? = some ⟨(n:Int),(j:Int)⟩
  | 0,n,j,h,_=>absurd h (by omega)
  | k+1,n,j,h,hj=>by
    rw[show ZcN d (k+1)=ZcN d k++Zeh k (nt d k+1) from ZcW _ k]
    by_cases hn:n<k
    · rw[List.getElem?_append_left (by rw[ZcM];exact ZhG d hn hj)]
      exact Zog d k n j hn hj
    · have:n=k:=by omega
      subst this
      rw[List.getElem?_append_right (by rw[ZcM];omega),ZcM,Nat.add_sub_cancel_left]
      unfold Zeh
      rw[List.getElem?_map,List.getElem?_range (by omega)]
      rfl
theorem Zr4 {d:Zj}{n j:Nat} (hn:n<d.parts.length) (hj:j≤nt d n):(Zd4 d)[ZX d n+j]? = some ⟨(n:Int),(j:Int)⟩:=by
  unfold Zd4
  rw[List.getElem?_append_left (by rw[ZcM];exact ZhG d hn hj)]
  exact Zog d _ n j hn hj
theorem Znd {d:Zj}{i:Nat}{x:Zh} (h:(Zd4 d)[i]? = some x):(∃n j,n<d.parts.length∧j≤nt d n∧i=ZX d n+j∧x=⟨(n:Int),(j:Int)⟩)∨(ZX d d.parts.length≤i∧x.part = -1):=by
  by_cases hi:i<ZX d d.parts.length
  · obtain⟨n,j,h1,h2,h3⟩:=Zsm d _ i hi
    subst h3
    rw[Zr4 h1 h2] at h
    exact .inl ⟨n,j,h1,h2,rfl,(Option.some.inj h).symm⟩
  · refine .inr ⟨by omega,?_⟩
    unfold Zd4 at h
    rw[List.getElem?_append_right (by rw[ZcM];omega)] at h
    have:=List.mem_of_getElem? h
    unfold Ze6 at this
    obtain⟨k,_,rfl⟩:=List.mem_map.1 this
    rfl
theorem Zsf (zs:List (Int×Int)) (p:Int) (hp:0≤p) (i:Nat):∀k,i<k→(pc zs i).1=p→(∀j,i<j→j<k→(pc zs j).1≠p)→ZeS zs p k=(i:Int)
  | 0,h,_,_=>absurd h (by omega)
  | k+1,h,h1,h2=>by
    unfold ZeS
    by_cases hk:k=i
    · subst hk
      rw[h1,bne_self_eq_false,decide_eq_false (show ¬p<0 by omega)]
      rfl
    · have:=h2 k (by omega) (by omega)
      rw[bne_iff_ne.2 this]
      exact Zsf zs p hp i k (by omega) h1 fun j a b=>h2 j a (by omega)
theorem ZvN {d:Zj} (g:Zc9 d) {z:Int} (h:inR d z):Zgi (ZaE d) z=some (Zfy d z):=by
  have hlen:(Zd4 d).length≤1000:=by rw[Zok g];have:=g.pl;have:=g.fl;have:=g.bl;omega
  have ez:((z.toNat:Nat):Int)=z:=Int.toNat_of_nonneg h.1
  have hp:=Zr4 h.2 (Nat.le_refl (nt d z.toNat))
  have hpc:∀(i:Nat) x,(Zd4 d)[i]? = some x→(pc (List.map (fun x:Zh=>(x.part,x.step)) (Zd4 d)) i).1=x.part:=fun i x hx=>by
    unfold pc
    rw[List.getElem?_map,hx]
    rfl
  have hi:ZX d z.toNat+nt d z.toNat<(Zd4 d).length:=(List.getElem?_eq_some_iff.1 hp).1
  have hs:=Zsf (List.map (fun x:Zh=>(x.part,x.step)) (Zd4 d)) z h.1 (ZX d z.toNat+nt d z.toNat) (Zd4 d).length hi (by rw[hpc _ _ hp];exact ez) (fun j h1 h2=>by
    have hy:=List.getElem?_eq_getElem h2
    rw[hpc _ _ hy]
    rcases Znd hy with⟨n,m,m1,m2,m3,m4⟩ | ⟨_,m2⟩
    · rw[m4]
      show(n:Int)≠z
      intro hc
      have:n=z.toNat:=by omega
      subst this
      omega
    · rw[m2];have:=h.1;omega)
  unfold Zgi Zrs
  rw[List.length_map,Zgr (show(ZaE d).pieces.length≤1073741824 by show(Zd4 d).length≤_;omega)]
  simp only[cond_true,Option.bind_some]
  show some (ZeS (List.map (fun x:Zh=>(x.part,x.step)) (Zd4 d)) z (Zd4 d).length)=_
  rw[hs]
  unfold Zfy
  rw[Zis]
  congr 1
  omega
def ZBm (g:Zcp) (a b:Int):Prop:=a=b∨Way g a b
theorem ZBm.way {g:Zcp}{a b c:Int} (h:ZBm g a b) (w:Way g b c):Way g a c:=by
  rcases h with rfl | h
  · exact w
  · exact h.trans w
end Go.Proofs.YtnmbdjkbaihicaaDoor
namespace Go.Proofs.YtnmbdjkbaihicaaDoor
open Go Go.Proofs.YtnmbdjkbaihicaaDoorE
set_option linter.unusedVariables false
set_option linter.unusedSimpArgs false
def u32 (n:Int):Int:=n % 4294967296
theorem Zoc (n:Int):0≤u32 n∧u32 n<4294967296:=by unfold u32;omega
theorem ZoC (n:Int):IntKind.u32.wrap n=u32 n:=by
 unfold IntKind.wrap u32
 rfl
theorem ZkI (n:Int):Zc1 n=some (u32 n):=by
 unfold Zc1
 rw[ZoC]
def ZjG (op:Int) (out v:Int):Int:=if op=2 then u32 (out+v) else if op=3 then u32 (out*v) else if op=4 then (bif decide (out<v) then v else out) else u32 (u32 (out*31)+v)
theorem Zro {op out v:Int} (h:0≤out∧out<4294967296) (hv:0≤v∧v<4294967296):0≤ZjG op out v∧ZjG op out v<4294967296:=by
 unfold ZjG
 split
 ·exact Zoc _
 split
 ·exact Zoc _
 split
 ·cases decide (out<v)<;>simp[h,hv]
 ·exact Zoc _
def ZmO (op:Int):Int→List Int→Int
 | out,[]=>out
 | out,v :: l=>ZmO op (ZjG op out (u32 v)) l
theorem Zkq (op:Int):∀(l:List Int) (out:Int),0≤out∧out<4294967296→0≤ZmO op out l∧ZmO op out l<4294967296
 | [],out,h=>h
 | v :: l,out,h=>Zkq op l _ (Zro h (Zoc v))
theorem ZnM (op:Int) (l:List Int) (step:Int×Int→Option ((Int×Int)⊕Int))
  (h1:∀(i:Nat) (x out:Int),i<l.length→l[i]? = some x→0≤out∧out<4294967296→step (out,(i:Int))=some (.inl (ZjG op out (u32 x),((i+1:Nat):Int))))
  (h2:∀out,step (out,(l.length:Int))=some (.inr out)) (out:Int) (ho:0≤out∧out<4294967296):lp step (out,0)=some (ZmO op out l):=by
 have key:∀k i:Nat,i+k=l.length→∀out,0≤out∧out<4294967296→lp step (out,(i:Int))=some (ZmO op out (l.drop i)):=by
  intro k
  induction k with
  | zero=>
   intro i hi out ho
   have:i=l.length:=by omega
   subst this
   rw[Za7,h2,List.drop_length]
   rfl
  | succ k ih=>
   intro i hi out ho
   have hi':i<l.length:=by omega
   rw[Za7,h1 i l[i] out hi' (List.getElem?_eq_getElem hi') ho,List.drop_eq_getElem_cons hi']
   exact ih (i+1) (by omega) _ (Zro ho (Zoc _))
 have:=key l.length 0 (by omega) out ho
 rwa [List.drop_zero] at this
theorem ZxZ (a b:Int):ZfL a b=some (ZjG 2 a b):=by unfold ZfL;rw[ZoC];rfl
theorem Zyc (a b:Int):ZfP a b=some (ZjG 3 a b):=by unfold ZfP;rw[ZoC];rfl
theorem ZxF (a b:Int):ZfO a b=some (ZjG 4 a b):=by unfold ZfO;rfl
theorem ZyA (a b:Int):ZfS a b=some (ZjG 5 a b):=by unfold ZfS;rw[ZoC,ZoC];rfl
def places (l:List Int) (k:Nat):List (Int×Int):=(List.range k).map fun i:Nat=>((i:Int),(l[i]?).getD 0)
theorem Znt (l:List Int) (k:Nat):places l (k+1)=places l k++[((k:Int),(l[k]?).getD 0)]:=by simp[places,List.range_succ]
theorem ZmK (l:List Int) (k:Nat) (j:Int) (hj:j<0∨(k:Int)≤j):∀q∈places l k,eqI j q.1=false:=by
 intro q hq
 simp only[places,List.mem_map,List.mem_range] at hq
 obtain⟨i,hi,rfl⟩:=hq
 show(j==(i:Int))=false
 simp;omega
theorem Zor (l:List Int):∀(k:Nat) (j:Nat),j<k→Z3 eqI (places l k) (j:Int) 0=(l[j]?).getD 0
 | k+1,j,h=>by
  rw[Znt]
  by_cases hk:j=k
  ·subst hk
   rw[ZgN eqI _ _ _ _ (ZmK l j j (.inr (by omega)))]
   show(bif ((j:Int)==(j:Int)) then _ else _)=_
   rw[beq_self_eq_true];rfl
  ·rw[Zhr eqI _ _ _ _ ⟨((j:Int),(l[j]?).getD 0),by simp only[places,List.mem_map,List.mem_range];exact⟨j,by omega,rfl⟩,by simp[eqI]⟩]
   exact Zor l k j (by omega)
theorem ZxC (l:List Int) (hl:l.length≤1000):lp (ZeL l) (0,([]:List (Int×Int)))=some (places l l.length):=by
 have key:∀k i:Nat,i+k=l.length→lp (ZeL l) ((i:Int),places l i)=some (places l l.length):=by
  intro k
  induction k with
  | zero=>
   intro i hi
   have:i=l.length:=by omega
   subst this
   rw[Za7]
   simp only[ZeL,Zex,cond_false]
  | succ k ih=>
   intro i hi
   have hi':i<l.length:=by omega
   have hx:l[i]? = some l[i]:=List.getElem?_eq_getElem hi'
   have e:=ZgJ eqI (i:Int) l[i] (places l i) (ZmK l i i (.inr (by omega)))
   have ih':=ih (i+1) (by omega)
   rw[Znt,hx] at ih'
   rw[Za7]
   simp only[ZeL,ZdL hi',Zax hx,Option.bind_some,cond_true,ZT hi' (show l.length<9223372036854775808 by omega),e]
   exact ih'
 exact key l.length 0 (by omega)
def opV (p:ZV) (input vals:List Int):Int:=
 if p.op=0 then (if p.arg<0∨(input.length:Int)≤p.arg then 0 else u32 ((input[p.arg.toNat]?).getD 0)) else
 if p.op=1 then u32 p.arg else if p.op<0∨5<p.op then 0 else ZmO p.op (if p.op=3 then 1 else if p.op=5 then 7 else 0) vals
theorem Zxn (p:ZV) (input vals:List Int) (h1:input.length≤1000) (h2:vals.length≤1000):Zi7 p input vals=some (opV p input vals):=by
 have hl:vals.length<9223372036854775808:=by omega
 have fin:∀x:Int,0≤x∧x<4294967296→(some x).bind (fun r=>some (w64 r))=some x:=fun x h=>by
  show some (w64 x)=some x
  rw[ZcX (by omega) (by omega)]
 unfold Zi7 opV
 by_cases c0:p.op=0
 ·rw[c0,beq_self_eq_true,if_pos rfl]
  simp only[cond_true]
  rw[ZxC input h1]
  simp only[Option.bind_some,ZkI]
  by_cases c:p.arg<0∨(input.length:Int)≤p.arg
  ·rw[if_pos c,Znr eqI _ _ _ (ZmK input input.length p.arg c)]
   rfl
  ·rw[if_neg c]
   obtain⟨j,hj⟩:∃j:Nat,p.arg=(j:Int):=⟨p.arg.toNat,by omega⟩
   rw[hj,Zor input input.length j (by omega),Int.toNat_natCast]
   exact fin _ (Zoc _)
 rw[show(p.op==0)=false by simpa using c0,if_neg c0]
 by_cases c1:p.op=1
 ·rw[c1,if_pos rfl]
  simp only[cond_false,beq_self_eq_true,cond_true,ZkI]
  exact fin _ (Zoc _)
 rw[show(p.op==1)=false by simpa using c1,if_neg c1]
 simp only[cond_false]
 by_cases c2:p.op<0
 ·rw[decide_eq_true c2,if_pos (.inl c2)];rfl
 by_cases c3:5<p.op
 ·rw[decide_eq_false c2,decide_eq_true c3,if_pos (.inr c3)];rfl
 rw[decide_eq_false c2,decide_eq_false c3,if_neg (by omega),ZcX (by omega) (by omega),decide_eq_true (show 0≤p.op-2 by omega),decide_eq_true (show p.op-2<4 by omega)]
 have hw:Zie=some ():=rfl
 simp only[cond_false,hw,Option.bind_some,Bool.and_self,cond_true]
 have h4:p.op=2∨p.op=3∨p.op=4∨p.op=5:=by omega
 rcases h4 with h | h | h | h<;>rw[h]
 ·have:=ZnM 2 vals (ZeP vals) (fun i x out hi hx ho=>by
   simp only[ZeP,ZdL hi,Zax hx,Option.bind_some,cond_true,ZT hi hl,ZkI,ZxZ]) (fun out=>by simp only[ZeP,Zex];rfl) 0 (by omega)
  show(lp (ZeP vals) (0,0)).bind _=_
  rw[this]
  exact fin _ (Zkq _ _ _ (by omega))
 ·have:=ZnM 3 vals (ZdX vals) (fun i x out hi hx ho=>by
   simp only[ZdX,ZdL hi,Zax hx,Option.bind_some,cond_true,ZT hi hl,ZkI,Zyc]) (fun out=>by simp only[ZdX,Zex];rfl) 1 (by omega)
  show(lp (ZdX vals) (1,0)).bind _=_
  rw[this]
  exact fin _ (Zkq _ _ _ (by omega))
 ·have:=ZnM 4 vals (ZdZ vals) (fun i x out hi hx ho=>by
   simp only[ZdZ,ZdL hi,Zax hx,Option.bind_some,cond_true,ZT hi hl,ZkI,ZxF]) (fun out=>by simp only[ZdZ,Zex];rfl) 0 (by omega)
  show(lp (ZdZ vals) (0,0)).bind _=_
  rw[this]
  exact fin _ (Zkq _ _ _ (by omega))
 ·have:=ZnM 5 vals (ZdO vals) (fun i x out hi hx ho=>by
   simp only[ZdO,ZdL hi,Zax hx,Option.bind_some,cond_true,ZT hi hl,ZkI,ZyA]) (fun out=>by simp only[ZdO,Zex];rfl) 7 (by omega)
  show(lp (ZdO vals) (7,0)).bind _=_
  rw[this]
  exact fin _ (Zkq _ _ _ (by omega))
end Go.Proofs.YtnmbdjkbaihicaaDoor
namespace Go.Proofs.YtnmbdjkbaihicaaDoor
open Go Go.Proofs.YtnmbdjkbaihicaaDoorE
set_option linter.unusedVariables false
set_option linter.unusedSimpArgs false
theorem Zj7 (l:List Zm) (f:Zm→Option Bool) (p:Zm→Bool) (hf:∀x∈l,f x=some (p x)) (hl:l.length<9223372036854775808):Z1 l f=some (l.any p):=by
 unfold Z1 ZaP
 refine Zja l p _ (fun i x hi hx=>?_) ?_
 ·simp only[Zac,ZdL hi,Zax hx,Option.bind_some,hf x (List.mem_of_getElem? hx),ZT hi hl,cond_true]
  cases p x<;>rfl
 ·simp only[Zac,Zex];rfl
def ZhM (d:Zj):Prop:=ZfD d=0∧ZjB (ZaE d).dag=0
theorem ZqE {d:Zj} (h:ZhM d):Znx d=(ZaE d,0):=by unfold Znx;rw[h.1,h.2];rfl
theorem ZnU {d:Zj} (h:¬ZhM d):(Znx d).1=⟨⟨[],[]⟩,[]⟩∧(Znx d).2≠0:=by
 rcases ZsS d with⟨_,h2,h3⟩ | h4
 ·exact absurd ⟨h2,h3⟩ h
 ·exact h4
abbrev ZfM (d:Zj):Nat:=(ZaE d).dag.work.length
theorem Zry {d:Zj} (g:Zc9 d):ZfM d=d.parts.length+d.futures.length+d.barriers.length:=Zpi g
theorem ZuA {d:Zj} (g:Zc9 d):(ZaE d).pieces.length=ZfM d:=(Zok g).trans (Zpi g).symm
structure OKM (d:Zj) (m:ZB):Prop where
 n:m.done.length=ZfM d
 v:m.vals.length=d.parts.length
def va (l:List Int) (p:Int):Int:=match l[p.toNat]? with | some x=>x | none=>0
theorem Zv5 {d:Zj}{l:List Int} (o:l.length=d.parts.length) {p:Int} (h:inR d p):ZE l p=some (va l p):=by
 have h2:=h.2
 have e:=List.getElem?_eq_getElem (show p.toNat<l.length by rw[o];exact h2)
 rw[Zm8 h.1 e]
 unfold va
 rw[e]
def ZjM (done:List Bool) (e:Zm):Bool:=bAt done e.dst && !(bAt done e.src)
def Ze4 (d:Zj) (m:ZB):Bool:=decide (m.done.length=ZfM d)&&(decide (m.vals.length=d.parts.length) && !((ZaE d).dag.edges.any (ZjM m.done)))
theorem ZmD {d:Zj} (hG:ZgY (ZaE d).dag) (m:ZB):ZeK d (ZaE d).dag m=some (Ze4 d m):=by
 unfold ZeK Ze4
 have ne:∀a b:Nat,(((a:Int)) != (b:Int)) = !decide (a=b):=fun a b=>by
  by_cases h:a=b
  ·subst h;simp
  ·rw[decide_eq_false h,bne,beq_false_of_ne (show(a:Int)≠(b:Int) by omega)]
 rw[ne,ne]
 by_cases h1:m.done.length=ZfM d
 ·have h1':m.done.length=(ZaE d).dag.work.length:=h1
  rw[decide_eq_true h1']
  by_cases h2:m.vals.length=d.parts.length
  ·rw[decide_eq_true h2,Zj7 _ (fun z0=>Zc8 z0 m.done) (ZjM m.done) (fun e he=>by
    unfold Zc8 ZjM
    rw[Zik h1' (hG.dst e he),Zik h1' (hG.src e he)]
    cases bAt m.done e.dst<;>cases bAt m.done e.src<;>rfl) hG.short.e]
   cases (ZaE d).dag.edges.any (ZjM m.done)<;>rfl
  ·rw[decide_eq_false h2];rfl
 ·have h1':¬m.done.length=(ZaE d).dag.work.length:=h1
  rw[decide_eq_false h1'];rfl
def Zhg (done:List Bool) (n:Int) (e:Zm):Bool:=(e.dst==n) && !(bAt done e.src)
theorem ZpJ {d:Zj} (hG:ZgY (ZaE d).dag) {m:ZB} (h1:m.done.length=ZfM d) (n:Int):Zfr (ZaE d).dag m n=some ((ZaE d).dag.edges.any (Zhg m.done n)):=by
 unfold Zfr
 rw[Zj7 _ (fun z0=>Zc5 z0 n m.done) (Zhg m.done n) (fun e he=>by
  unfold Zc5 Zhg
  rw[Zik h1 (hG.src e he)]
  cases (e.dst==n)<;>cases bAt m.done e.src<;>rfl) hG.short.e]
 cases (ZaE d).dag.edges.any (Zhg m.done n)<;>rfl
theorem ZmX {d:Zj}{m:ZB} (h:Ze4 d m=true):OKM d m∧∀e∈(ZaE d).dag.edges,bAt m.done e.dst=true→bAt m.done e.src=true:=by
 unfold Ze4 at h
 simp only[Bool.and_eq_true,decide_eq_true_eq,Bool.not_eq_true',List.any_eq_false] at h
 refine⟨⟨h.1,h.2.1⟩,fun e he hd=>?_⟩
 have:=h.2.2 e he
 unfold ZjM at this
 rw[hd] at this
 simpa using this
theorem ZuM {d:Zj}{m:ZB} (o:OKM d m) (h:∀e∈(ZaE d).dag.edges,bAt m.done e.dst=true→bAt m.done e.src=true):Ze4 d m=true:=by
 unfold Ze4
 rw[decide_eq_true o.n,decide_eq_true o.v]
 have:(ZaE d).dag.edges.any (ZjM m.done)=false:=List.any_eq_false.2 fun e he=>by
  unfold ZjM
  cases hd:bAt m.done e.dst with
  | false=>simp
  | true=>rw[h e he hd];simp
 rw[this]
 rfl
def ZbM (d:Zj) (m:ZB):List Int:=pick (fun i=>Zf3 (ZaE d).dag m.done i) (ZfM d)
theorem ZmI {d:Zj} (hz:ZiP d) (m:ZB):Zc2 d m=some (@ite _ (ZhM d∧Ze4 d m=true) (Classical.propDecidable _) (ZbM d m) []):=by
 unfold Zc2
 rw[ZqT hz,Option.bind_some]
 by_cases hl:ZhM d
 ·have hG:=(ZhJ hl.2).1
  have hwl:=hG.wl
  rw[ZqE hl]
  simp only[bne_self_eq_false,cond_false,ZmD hG,Option.bind_some]
  cases hr:Ze4 d m with
  | false=>rw[if_neg (by rintro ⟨_,h⟩;cases h)];rfl
  | true=>
   have o:=(ZmX hr).1
   have hn:=o.n
   have hn64:ZfM d≤64:=hwl
   rw[if_pos ⟨hl,rfl⟩]
   have:=Zyw m.done (by rw[hn];omega) (fun i=>Zf3 (ZaE d).dag m.done i) (Zec m (ZaE d,0)) (fun i s hi=>by
    have hb:ZE m.done (i:Int)=some (bAt m.done (i:Int)):=Zik hn ⟨by omega,by show((i:Int)).toNat<ZfM d;rw[← hn];simpa using hi⟩
    simp only[Zec,ZdL hi,cond_true,hb,Option.bind_some,ZpJ hG hn,ZT hi (show m.done.length<9223372036854775808 by rw[hn];omega),Zf3]
    have e:((ZaE d).dag.edges.any fun e=>(e.dst==(i:Int)) && !(bAt m.done e.src))=(ZaE d).dag.edges.any (Zhg m.done (i:Int)):=rfl
    rw[e]
    cases bAt m.done (i:Int)<;>cases (ZaE d).dag.edges.any (Zhg m.done (i:Int))<;>rfl) (fun s=>by simp only[Zec,Zex,cond_false])
   simp only[cond_true,this,Option.bind_some]
   unfold ZbM
   rw[hn]
 ·have hne:=(ZnU hl).2
  rw[if_neg (fun h=>hl h.1),bne,beq_false_of_ne hne]
  rfl
def Zgu (d:Zj) (n:Int):Option Nat:=(List.range d.parts.length).find? fun p=>Zfy d (p:Int)==n
theorem Zyo {d:Zj}{p:Nat} (h:p<d.parts.length):inR d (p:Int):=⟨by omega,by simpa using h⟩
theorem Zm9 {d:Zj}{n:Int}{p:Nat} (h:Zgu d n=some p):p<d.parts.length∧Zfy d (p:Int)=n:=by
 unfold Zgu at h
 have h1:=List.mem_of_find?_eq_some h
 have h2:=List.find?_some h
 exact⟨List.mem_range.1 h1,by simpa using h2⟩
theorem Zjb (d:Zj) (p:Nat):Zfy d (p:Int)=((ZX d p+nt d p:Nat):Int):=by
 unfold Zfy
 rw[Int.toNat_natCast,Zis]
 omega
theorem ZuS {d:Zj}{p:Nat} (hp:p<d.parts.length):Zgu d (Zfy d (p:Int))=some p:=by
 cases h:Zgu d (Zfy d (p:Int)) with
 | none=>
  unfold Zgu at h
  have:=List.find?_eq_none.1 h p (List.mem_range.2 hp)
  simp at this
 | some q=>
  obtain⟨h1,h2⟩:=Zm9 h
  rw[Zjb,Zjb] at h2
  have:=(ZpG d (Nat.le_refl _) (Nat.le_refl _) (Int.ofNat.inj h2)).1
  rw[this]
noncomputable def ZhY (d:Zj) (input:List Int) (m:ZB) (n:Int):ZB:=
 match Zgu d n with
 | some p=>⟨m.done.set n.toNat true,m.vals.set p (opV (Zo7 d (p:Int)) input ((Zfx d (p:Int)).map (va m.vals)))⟩
 | none=>⟨m.done.set n.toNat true,m.vals⟩
end Go.Proofs.YtnmbdjkbaihicaaDoor
namespace Go.Proofs.YtnmbdjkbaihicaaDoor
open Go Go.Proofs.YtnmbdjkbaihicaaDoorE
set_option linter.unusedVariables false
set_option linter.unusedSimpArgs false
theorem Zxo {l:List Bool} (h1:0<l.length) (h2:l.length≤1000):ZbS l=some ():=by
 unfold ZbS
 rw[show Nat.blt 0 l.length=true by simp[Nat.blt];omega,Zgr (show l.length≤1073741824 by omega)]
 rfl
theorem Znv {d:Zj}{n:Int} (h:∀p,p<d.parts.length→Zfy d (p:Int)≠n):Zgu d n=none:=by
 cases hl:Zgu d n with
 | none=>rfl
 | some p=>
  obtain⟨h1,h2⟩:=Zm9 hl
  exact absurd h2 (h p h1)
theorem Zx6 {d:Zj} (hz:ZiP d) (hl:ZhM d) (input:List Int) (hi:input.length≤1000) {m:ZB} (o:OKM d m) {n:Int} (hn:0≤n∧n.toNat<ZfM d):Ze1 d (ZaE d) input m n=some (ZhY d input m n):=by
 have g:=Zl2 hl.1
 have hG:=(ZhJ hl.2).1
 have hn64:ZfM d≤64:=hG.wl
 have hN:=Zry g
 have hpl:=g.pl
 have hp1:=g.p1
 have on:=o.n
 have ov:=o.v
 have en:((n.toNat:Nat):Int)=n:=Int.toNat_of_nonneg hn.1
 have hlenP:(Zd4 d).length=ZfM d:=ZuA g
 have hx:(Zd4 d)[n.toNat]? = some (Zd4 d)[n.toNat]:=List.getElem?_eq_getElem (by rw[hlenP];exact hn.2)
 generalize hxx:(Zd4 d)[n.toNat]'(by rw[hlenP];exact hn.2)=x at hx
 have gp:ZE (ZaE d).pieces n=some x:=Zm8 hn.1 hx
 unfold Ze1
 simp only[Zxo (show 0<m.done.length by omega) (by omega),Zye (show 0<m.vals.length by omega) (by omega),Zik (g:=(ZaE d).dag) on hn,gp,Option.bind_some]
 rcases Znd hx with⟨p,j,h1,h2,h3,rfl⟩ | ⟨h1,h2⟩
 ·have hr:=Zyo h1
  simp only[decide_eq_false (show ¬((p:Int)<0) by omega),cond_false,ZvN g hr,Option.bind_some]
  by_cases hc:Zfy d (p:Int)=n
  ·obtain⟨hf,ht⟩:=Zva d hz.short hl.1 (p:Int)
   have hfl:=Zsl g ht
   have loop:=Zon (Zfx d (p:Int)) hfl (ZdI m (Zfx d (p:Int))) (va m.vals) (fun i x s hi' hx' hb=>by
    simp only[ZdI,ZdL hi',cond_true,Zax hx',Option.bind_some,Zv5 ov (Ztb g ht (List.mem_of_getElem? hx')),hb,ZT hi' (show(Zfx d (p:Int)).length<9223372036854775808 by omega)]) (fun s=>by simp only[ZdI,Zex,cond_false]) [] (by simp)
   rw[List.nil_append] at loop
   have hpp:ZE d.parts (p:Int)=some (Zo7 d (p:Int)):=by
    unfold Zo7
    rw[Int.toNat_natCast,List.getElem?_eq_getElem h1]
    exact Zax (List.getElem?_eq_getElem h1)
   have hop:=Zxn (Zo7 d (p:Int)) input ((Zfx d (p:Int)).map (va m.vals)) hi (by rw[List.length_map];exact hfl)
   have hla:Zgu d n=some p:=by rw[← hc];exact ZuS h1
   rw[bne,show(Zfy d (p:Int)==n)=true by simpa using hc]
   simp only[Bool.not_true,cond_false,hf,loop,Option.bind_some,hpp,hop,Zv5 ov hr,Int.toNat_natCast]
   unfold ZhY
   rw[hla]
  ·have hla:Zgu d n=none:=Znv fun q hq he=>hc (by
    rw[Zjb] at he ⊢
    have:=(ZpG d (Nat.le_refl _) h2 (show ZX d q+nt d q=ZX d p+j by omega)).1
    subst this
    exact he)
   rw[bne,beq_false_of_ne hc]
   unfold ZhY
   rw[hla]
   rfl
 ·have hla:Zgu d n=none:=Znv fun q hq he=>by
   rw[Zjb] at he
   have:=ZhG d hq (Nat.le_refl (nt d q))
   omega
  rw[h2]
  unfold ZhY
  rw[hla]
  rfl
theorem ZtM {d:Zj} (input:List Int) {m:ZB} (o:OKM d m) (n:Int):OKM d (ZhY d input m n):=by
 unfold ZhY
 cases Zgu d n with
 | none=>exact⟨by rw[List.length_set];exact o.n,o.v⟩
 | some p=>exact⟨by rw[List.length_set];exact o.n,by rw[List.length_set];exact o.v⟩
theorem Zur {d:Zj} (input:List Int) (m:ZB) (n:Int):(ZhY d input m n).done=m.done.set n.toNat true:=by
 unfold ZhY
 cases Zgu d n<;>rfl
noncomputable def goM (d:Zj) (input:List Int) (m:ZB) (n:Int):ZB×Int:=
 bif @decide (ZhM d) (Classical.propDecidable _) then
  (bif Ze4 d m then
   (bif decide (n<0) || decide ((m.done.length:Int)≤n) then (⟨[],[]⟩,81) else
    bif bAt m.done n then (⟨[],[]⟩,82) else
    bif (ZaE d).dag.edges.any (Zhg m.done n) then (⟨[],[]⟩,83) else (ZhY d input m n,0))
  else (⟨[],[]⟩,80))
 else (⟨[],[]⟩,(Znx d).2)
theorem Ztf {d:Zj} (hz:ZiP d) (input:List Int) (hi:input.length≤1000) (m:ZB) (n:Int):ZfF d input m n=some (goM d input m n):=by
 unfold ZfF goM
 rw[ZqT hz,Option.bind_some]
 by_cases hl:ZhM d
 ·have hG:=(ZhJ hl.2).1
  rw[@decide_eq_true _ (Classical.propDecidable _) hl,ZqE hl]
  simp only[bne_self_eq_false,cond_false,cond_true,ZmD hG,Option.bind_some]
  cases hr:Ze4 d m with
  | false=>rfl
  | true=>
   have o:=(ZmX hr).1
   by_cases h1:n<0
   ·rw[decide_eq_true h1];rfl
   by_cases h2:(m.done.length:Int)≤n
   ·rw[decide_eq_false h1,decide_eq_true h2];rfl
   have on:=o.n
   have hn:0≤n∧n.toNat<ZfM d:=⟨by omega,by omega⟩
   rw[decide_eq_false h1,decide_eq_false h2]
   simp only[cond_true,cond_false,Bool.or_self,Zik (g:=(ZaE d).dag) on hn,Option.bind_some,ZpJ hG on,Zx6 hz hl input hi o hn]
   cases bAt m.done n<;>cases (ZaE d).dag.edges.any (Zhg m.done n)<;>rfl
 ·have hne:=(ZnU hl).2
  rw[@decide_eq_false _ (Classical.propDecidable _) hl,bne,beq_false_of_ne hne]
  rfl
end Go.Proofs.YtnmbdjkbaihicaaDoor
namespace Go.Proofs.YtnmbdjkbaihicaaDoor
open Go Go.Proofs.YtnmbdjkbaihicaaDoorE
set_option linter.unusedVariables false
set_option linter.unusedSimpArgs false
structure ZBq (d:Zj) (input:List Int) (m:ZB):Prop where
 o:OKM d m
 right:∀e∈(ZaE d).dag.edges,bAt m.done e.dst=true→bAt m.done e.src=true
 val:∀p:Nat,p<d.parts.length→bAt m.done (Zfy d (p:Int))=true→va m.vals (p:Int)=opV (Zo7 d (p:Int)) input ((Zfx d (p:Int)).map (va m.vals))
theorem ZBq.way {d:Zj}{input:List Int}{m:ZB} (v:ZBq d input m) {a b:Int} (w:Way (ZaE d).dag a b) (h:bAt m.done b=true):bAt m.done a=true:=by
 induction w with
 | one he=>exact v.right _ he h
 | more _ he ih=>exact ih (v.right _ he h)
theorem ZgL {d:Zj}{done:List Bool}{i:Nat}:Zf3 (ZaE d).dag done i=true↔bAt done (i:Int)=false∧∀e∈(ZaE d).dag.edges,e.dst=(i:Int)→bAt done e.src=true:=by
 unfold Zf3
 rw[Bool.and_eq_true,Bool.not_eq_true',Bool.not_eq_true',List.any_eq_false]
 constructor
 ·rintro ⟨h1,h2⟩
  refine⟨h1,fun e he hd=>?_⟩
  have:=h2 e he
  rw[hd] at this
  simpa using this
 ·rintro ⟨h1,h2⟩
  refine⟨h1,fun e he hc=>?_⟩
  simp only[Bool.and_eq_true,beq_iff_eq,Bool.not_eq_true'] at hc
  rw[h2 e he hc.1] at hc
  cases hc.2
def ZBW (d:Zj) (m:ZB):Prop:=∀i:Nat,i<ZfM d→bAt m.done (i:Int)=true
theorem ZtU {d:Zj} (g:Zc9 d) {p:Nat} (hp:p<d.parts.length):∃i:Nat,i<ZfM d∧Zfy d (p:Int)=(i:Int):=by
 refine⟨ZX d p+nt d p,?_,Zjb d p⟩
 have:=ZhG d hp (Nat.le_refl (nt d p))
 rw[Zry g,← ZlA g]
 omega
theorem Zs4 {d:Zj} (hl:ZhM d) {m:ZB} (o:OKM d m) (h:¬ZBW d m):∃i:Nat,i<ZfM d∧Zf3 (ZaE d).dag m.done i=true:=by
 obtain⟨hG,hA⟩:=ZhJ hl.2
 have hex:∃i:Nat,i<ZfM d∧bAt m.done (i:Int)=false:=by
  apply Classical.byContradiction
  intro hc
  refine h fun i hi=>?_
  cases hb:bAt m.done (i:Int) with
  | true=>rfl
  | false=>exact absurd ⟨i,hi,hb⟩ hc
 obtain⟨i0,h1,h2⟩:=hex
 obtain⟨n,hn,hn2⟩:=ZrP hA _ (Zq6 (ZfM d) m.done) (Nat.le_refl _) (by
  intro he
  have:=ZjE h1 h2
  rw[he] at this;cases this)
 unfold Zq6 at hn
 obtain⟨k,hk,rfl⟩:=List.mem_map.1 hn
 obtain⟨k1,k2⟩:=List.mem_filter.1 hk
 rw[List.mem_range] at k1
 refine⟨k,k1,ZgL.2 ⟨by simpa using k2,fun e he hd=>?_⟩⟩
 have hs:=hG.src e he
 have es:((e.src.toNat:Nat):Int)=e.src:=Int.toNat_of_nonneg hs.1
 cases hb:bAt m.done e.src with
 | true=>rfl
 | false=>
  refine absurd ?_ (hn2 e he hd)
  rw[← es]
  exact ZjE hs.2 (by rw[es];exact hb)
end Go.Proofs.YtnmbdjkbaihicaaDoor
namespace Go.Proofs.YtnmbdjkbaihicaaDoor
open Go Go.Proofs.YtnmbdjkbaihicaaDoorE
set_option linter.unusedVariables false
set_option linter.unusedSimpArgs false
theorem Zsr {m:ZB} (h1:m.done.length≤1000) (h2:m.vals.length≤1000):Zbx m=some ():=by
 unfold Zbx
 rw[Zgr (by omega),Zgr (by omega)]
 rfl
theorem ZwM {x:D} (h:ZwO (.sl false [.bool]) x):∃l:List Bool,x = .list true (l.map D.bool):=by
 obtain⟨xs,rfl,h1,h2⟩:=h
 obtain⟨l,hl,hp⟩:=ZnS (f:=D.bool) (p:=fun _=>True) (xs:=xs) fun y hy=>by
  obtain⟨a1,a2⟩:=h2 y hy
  rw[ZtT a1] at a2
  obtain⟨d,r,e1,⟨n,e2⟩,_⟩:=a2
  cases e1
  exact⟨n,e2,trivial⟩
 subst hl
 exact⟨l,rfl⟩
theorem Zu0 {xs:List D} (h:Zf6 [.sl false [.bool],.sl false [.int .i64]] xs):∃m:ZB,D.agg xs=ZxX m:=by
 obtain⟨_,_,rfl,h1,_,_,rfl,h2,rfl⟩:=h
 obtain⟨a,rfl⟩:=ZwM h1
 obtain⟨b,rfl,_⟩:=Zqx h2
 exact⟨⟨a,b⟩,rfl⟩
end Go.Proofs.YtnmbdjkbaihicaaDoor
namespace Go.Proofs.YtnmbdjkbaihicaaDoor
open Go Go.Proofs.YtnmbdjkbaihicaaDoorE
set_option linter.unusedVariables false
set_option linter.unusedSimpArgs false
theorem Zfu:∀r,ZeY=some r→evD ctx 12 []=some (D.bool r):=fun r h=>by
  cases h
  exact ZzP 100 (by kernel_rfl)
def Zlh (r:Bool):D:=(D.bool r)
def ZiO (t0:Bool) (t1:Bool) (t2:Bool) (t3:Bool) (a:Zj):(Unit⊕Unit)→Ex×List V×Zo
  | (.inl r)=>(.ret,[(.ptr 0 0),(.d (D.bool false))],[(.cells (dV t0 t1 t2 t3 a))])
  | (.inr r)=>(.exit 0,[(.ptr 0 0),.bad],[(.cells (dV t0 t1 t2 t3 a))])
theorem ZlY {t0:Bool}{t1:Bool}{t2:Bool}{t3:Bool}{a:Zj}:∀(s0:Int) (r:(Unit⊕Unit)),lp (Zey a) s0=some r→lpW ctx 0 [1,3] [1,2] ZvK [(.ptr 0 0),(.d (Zb s0))] [(.cells (dV t0 t1 t2 t3 a))]=some ((ZiO t0 t1 t2 t3 a) r):=by
 refine ZaG (ZiO t0 t1 t2 t3 a) ?_
 intro s0 rcl ih
 show ZM _ _ (lpW _ _ _ _ _ _ _)
 unfold Zey
 rw[ZaH]
 conv=>arg 3;whnf
 refine Zn (ZF _ _) ?_;conv=>arg 3;whnf
 refine Zf rfl ?_ ?_<;>conv=>arg 3;whnf
 ·refine Zf rfl ?_ ?_<;>conv=>arg 3;whnf
  ·refine Zl rfl rfl fun x1 hx1=>?_;conv=>arg 3;whnf
   refine Zn (ZF _ _) ?_;conv=>arg 3;whnf
   refine Zf rfl ?_ ?_<;>conv=>arg 3;whnf
   ·exact Zd rfl
   ·refine Zg (Zb4 rfl hx1) ?_;conv=>arg 3;whnf
    refine Zn (ZF _ _) ?_;conv=>arg 3;whnf
    refine Zf rfl ?_ ?_<;>conv=>arg 3;whnf
    ·exact Zd rfl
    ·exact Ze (ih _)
  ·exact Zd rfl
 ·exact Zd rfl
theorem Zo2 {t0:Bool}{t1:Bool}{t2:Bool}{t3:Bool}{a:Zj}:∀r,(ZgX a)=some r→evD ctx 40 [(.d (D.agg (dA t0 t1 t2 t3 a)))]=some (Zlh r):=by
 show ZM _ (fun r rhs=>rhs=some (Zlh r)) _
 unfold ZgX
 rw[Za1 ctx 40 Zy1 _ rfl rfl]
 conv=>arg 3;whnf
 refine Zc _ (ZlY _) fun r2 hr2=>?_
 clear hr2
 rcases r2 with r2 | r2
 ·conv=>arg 3;whnf
  exact Zd rfl
 ·conv=>arg 3;whnf
  refine Zn (ZF _ _) ?_;conv=>arg 3;whnf
  refine Zf rfl ?_ ?_<;>conv=>arg 3;whnf
  ·refine Zn (ZF _ _) ?_;conv=>arg 3;whnf
   refine Zf rfl ?_ ?_<;>conv=>arg 3;whnf
   ·refine Zn (ZF _ _) ?_;conv=>arg 3;whnf
    refine Zf rfl ?_ ?_<;>conv=>arg 3;whnf
    ·refine Zn (ZF _ _) ?_;conv=>arg 3;whnf
     refine Zf rfl ?_ ?_<;>conv=>arg 3;whnf
     ·exact Zd rfl
     ·exact Zd rfl
    ·exact Zd rfl
   ·exact Zd rfl
  ·exact Zd rfl
def Zk6 (r:Bool):D:=(D.bool r)
theorem ZoU {t0:Bool}{t1:Bool}{t2:Bool}{t3:Bool}{t4:Bool}{t5:Bool}{t6:Bool}{a:Zj}{b:(List Int)}{c:ZB}:∀r,(Zg4 a b c)=some r→evD ctx 13 [(.d (D.agg (dA t0 t1 t2 t3 a))),(.d (D.list t4 (List.map Zb b))),(.d (D.agg [(D.list t5 (List.map D.bool c.done)),(D.list t6 (List.map Zb c.vals))]))]=some (Zk6 r):=by
 show ZM _ (fun r rhs=>rhs=some (Zk6 r)) _
 unfold Zg4
 rw[Za1 ctx 13 ZzN _ rfl rfl]
 conv=>arg 3;whnf
 refine Zp _ Zo2 rfl fun x0 hx0=>?_;conv=>arg 3;whnf
 refine Zf rfl ?_ ?_<;>conv=>arg 3;whnf
 ·refine Zn (ZF _ _) ?_;conv=>arg 3;whnf
  refine Zf rfl ?_ ?_<;>conv=>arg 3;whnf
  ·refine Zn (ZF _ _) ?_;conv=>arg 3;whnf
   refine Zf rfl ?_ ?_<;>conv=>arg 3;whnf
   ·refine Zn (ZF _ _) ?_;conv=>arg 3;whnf
    refine Zf rfl ?_ ?_<;>conv=>arg 3;whnf
    ·exact Zd rfl
    ·exact Zd rfl
   ·exact Zd rfl
  ·exact Zd rfl
 ·exact Zd rfl
def Zlj (t0:Bool) (t1:Bool) (t2:Bool) (t3:Bool) (a:Zj):(List Zs)→V×Zo
  | r=>((.agg [(.d (Zb a.period)),(.d (Zb a.deadline)),(.sl 0 3),(.sl 1 2),(.sl 2 3),(.sl 3 2)]),[(.arr 3 (List.map Z2 a.parts)),(.arr 2 (List.map ZD a.edges)),(.arr 3 (List.map Zq a.futures)),(.arr 2 (List.map Zv r))])
def ZiI (t0:Bool) (t1:Bool) (t2:Bool) (t3:Bool) (a:Zj):(List Zs)→Ex×List V×Zo
  | r=>(.exit 0,[(.ptr 0 0),(.ptr 1 0)],[(.cells [(.d (Zb 0)),(.d (Zb 0)),(.sl 2 3),(.sl 3 2),(.sl 4 3),(.sl 5 2)]),(.cells [(.d (Zb a.period)),(.d (Zb a.deadline)),(.sl 6 3),(.sl 7 2),(.sl 8 3),(.sl 9 2)]),(.arr 3 []),(.arr 2 []),(.arr 3 []),(.arr 2 []),(.arr 3 (List.map Z2 a.parts)),(.arr 2 (List.map ZD a.edges)),(.arr 3 (List.map Zq a.futures)),(.arr 2 (List.map Zv r))])
theorem ZlQ {t0:Bool}{t1:Bool}{t2:Bool}{t3:Bool}{a:Zj}:∀(s0:Int×(List Zs)) (r:(List Zs)),lp (ZdQ a) s0=some r→lpW ctx 0 [1,2,3,4] [2,3] Zwm [(.ptr 0 0),(.ptr 1 0),(.ptr 2 0),(.d (Zb s0.1))] [(.cells (dV t0 t1 t2 t3 a)),(.cells [(.d (Zb 0)),(.d (Zb 0)),(.sl 3 3),(.sl 4 2),(.sl 5 3),(.sl 6 2)]),(.cells [(.d (Zb a.period)),(.d (Zb a.deadline)),(.sl 7 3),(.sl 8 2),(.sl 9 3),(.sl 10 2)]),(.arr 3 []),(.arr 2 []),(.arr 3 []),(.arr 2 []),(.arr 3 (List.map Z2 a.parts)),(.arr 2 (List.map ZD a.edges)),(.arr 3 (List.map Zq a.futures)),(.arr 2 (List.map Zv s0.2))]=some ((ZiI t0 t1 t2 t3 a) r):=by
 refine ZaG (ZiI t0 t1 t2 t3 a) ?_
 intro s0 rcl ih
 show ZM _ _ (lpW _ _ _ _ _ _ _)
 unfold ZdQ
 rw[ZaH]
 conv=>arg 3;whnf
 refine Zn (ZF _ _) ?_;conv=>arg 3;whnf
 refine Zf rfl ?_ ?_<;>conv=>arg 3;whnf
 ·refine Zl rfl rfl fun x1 hx1=>?_;conv=>arg 3;whnf
  refine ZaT (Zgl (f:=Zb) (fun _=>⟨rfl,rfl⟩) x1.ins 0) ?_;conv=>arg 3;whnf
  refine Zf (Zgj Zb x1.ins) ?_ ?_
  ·conv=>arg 3;whnf
   refine Zn (rfl:_=List.map Zb x1.ins) ?_;conv=>arg 3;whnf
   refine Zg (Zb4 rfl hx1) ?_;conv=>arg 3;whnf
   refine ZaT (Zgl (f:=Zb) (fun _=>⟨rfl,rfl⟩) x1.outs 0) ?_;conv=>arg 3;whnf
   refine Zf (Zgj Zb x1.outs) ?_ ?_
   ·conv=>arg 3;whnf
    refine Zn (rfl:_=List.map Zb x1.outs) ?_;conv=>arg 3;whnf
    refine ZaT rfl ?_;conv=>arg 3;whnf
    refine Zf (ZgQ Zv s0.2 1) ?_ ?_
    ·conv=>arg 3;whnf
     refine Zn (ZgP Zv s0.2 [x1]) ?_;conv=>arg 3;whnf
     exact Ze (ih _)
    ·exact Zaj
   ·exact Zaj
  ·exact Zaj
 ·exact Zd rfl
theorem ZcH {t0:Bool}{t1:Bool}{t2:Bool}{t3:Bool}{a:Zj}:∀r,(Zcw a)=some r→evW ctx 15 [(.d (D.agg (dA t0 t1 t2 t3 a)))] []=some ((Zlj t0 t1 t2 t3 a) r):=by
 show ZM _ (fun r rhs=>rhs=some ((Zlj t0 t1 t2 t3 a) r)) _
 unfold Zcw
 rw[Zff ctx 15 ZzT _ _ rfl rfl]
 conv=>arg 3;whnf
 refine ZaT (Zgl (f:=Z2) (fun _=>⟨rfl,rfl⟩) a.parts 0) ?_;conv=>arg 3;whnf
 refine Zf (Zgj Z2 a.parts) ?_ ?_
 ·conv=>arg 3;whnf
  refine Zn (rfl:_=List.map Z2 a.parts) ?_;conv=>arg 3;whnf
  refine ZaT (Zgl (f:=ZD) (fun _=>⟨rfl,rfl⟩) a.edges 0) ?_;conv=>arg 3;whnf
  refine Zf (Zgj ZD a.edges) ?_ ?_
  ·conv=>arg 3;whnf
   refine Zn (rfl:_=List.map ZD a.edges) ?_;conv=>arg 3;whnf
   refine ZaT (Zgl (f:=Zq) (fun _=>⟨rfl,rfl⟩) a.futures 0) ?_;conv=>arg 3;whnf
   refine Zf (Zgj Zq a.futures) ?_ ?_
   ·conv=>arg 3;whnf
    refine Zn (rfl:_=List.map Zq a.futures) ?_;conv=>arg 3;whnf
    refine Zc _ (ZlQ _) fun r2 hr2=>?_;conv=>arg 3;whnf
    exact Zd rfl
   ·exact Zaj
  ·exact Zaj
 ·exact Zaj
def Zlb (t0:Bool) (t1:Bool) (a:ZB):Unit→V×Zo
  | r=>((.agg [(.sl 0 1),(.sl 1 1)]),[(.arr 1 (List.map D.bool a.done)),(.arr 1 (List.map Zb a.vals))])
theorem ZcI {t0:Bool}{t1:Bool}{a:ZB}:∀r,(Zbx a)=some r→evW ctx 17 [(.d (D.agg [(D.list t0 (List.map D.bool a.done)),(D.list t1 (List.map Zb a.vals))]))] []=some ((Zlb t0 t1 a) r):=by
 show ZM _ (fun r rhs=>rhs=some ((Zlb t0 t1 a) r)) _
 unfold Zbx
 rw[Zff ctx 17 Zz6 _ _ rfl rfl]
 conv=>arg 3;whnf
 refine ZaT (Zgl (f:=D.bool) (fun _=>⟨rfl,rfl⟩) a.done 0) ?_;conv=>arg 3;whnf
 refine Zf (Zgj D.bool a.done) ?_ ?_
 ·conv=>arg 3;whnf
  refine Zn (rfl:_=List.map D.bool a.done) ?_;conv=>arg 3;whnf
  refine ZaT (Zgl (f:=Zb) (fun _=>⟨rfl,rfl⟩) a.vals 0) ?_;conv=>arg 3;whnf
  refine Zf (Zgj Zb a.vals) ?_ ?_
  ·conv=>arg 3;whnf
   refine Zn (rfl:_=List.map Zb a.vals) ?_;conv=>arg 3;whnf
   exact Zd rfl
  ·exact Zaj
 ·exact Zaj
def ZjS (r:Bool):D:=(D.bool r)
theorem Zb2 {a:Int}{b:Int}{c:Int}:∀r,(Zbu a b c)=some r→evD ctx 82 [(.d (Zb a)),(.d (Zb b)),(.d (Zb c))]=some (ZjS r):=by
 show ZM _ (fun r rhs=>rhs=some (ZjS r)) _
 unfold Zbu
 rw[Za1 ctx 82 ZzU _ rfl rfl]
 conv=>arg 3;whnf
 refine Zf rfl ?_ ?_<;>conv=>arg 3;whnf
 ·refine Zf rfl ?_ ?_<;>conv=>arg 3;whnf
  ·exact Zd rfl
  ·exact Zd rfl
 ·exact Zd rfl
def Zlf (r:Int):D:=(Zb r)
theorem Zoh {a:Int}:∀r,(ZgU a)=some r→evD ctx 109 [(.d (Zb a))]=some (Zlf r):=by
 show ZM _ (fun r rhs=>rhs=some (Zlf r)) _
 unfold ZgU
 rw[Za1 ctx 109 Zwa _ rfl rfl]
 conv=>arg 3;whnf
 refine Zf rfl ?_ ?_<;>conv=>arg 3;whnf
 ·exact Zd rfl
 ·refine Zf rfl ?_ ?_<;>conv=>arg 3;whnf
  ·exact Zd rfl
  ·exact Zd rfl
def Zfz (r:Int):D:=(Zb r)
theorem ZhL {a:Int}:∀r,(Zcv a)=some r→evD ctx 121 [(.d (D.int .u64 a))]=some (Zfz r):=by
 show ZM _ (fun r rhs=>rhs=some (Zfz r)) _
 unfold Zcv
 rw[Za1 ctx 121 ZvB _ rfl rfl]
 conv=>arg 3;whnf
 refine Z5 rfl ?_;conv=>arg 3;whnf
 refine Z5 rfl ?_;conv=>arg 3;whnf
 refine Z5 rfl ?_;conv=>arg 3;whnf
 refine Z5 rfl ?_;conv=>arg 3;whnf
 refine Z5 rfl ?_;conv=>arg 3;whnf
 refine Z5 rfl ?_;conv=>arg 3;whnf
 exact Zd rfl
def Zf4 (r:Int):D:=(Zb r)
theorem ZiF {a:Int}:∀r,(ZcQ a)=some r→evD ctx 110 [(.d (D.int .u64 a))]=some (Zf4 r):=by
 show ZM _ (fun r rhs=>rhs=some (Zf4 r)) _
 unfold ZcQ
 rw[Za1 ctx 110 ZvU _ rfl rfl]
 conv=>arg 3;whnf
 refine Zp _ ZhL rfl fun x0 hx0=>?_;conv=>arg 3;whnf
 exact Zd rfl
theorem ZAE (n:Int):0≤IntKind.u64.wrap n∧IntKind.u64.wrap n<18446744073709551616:=by
  have:IntKind.u64.wrap n=n % 18446744073709551616:=by
    show(if (false&&decide (n % 18446744073709551616 ≥ 9223372036854775808))=true then n % 18446744073709551616-18446744073709551616 else n % 18446744073709551616)=_
    simp
  rw[this]
  omega
theorem ZBD (n:Int):∃j:Nat,j<64∧(IntKind.u64.wrap n).fdiv (2 ^ (min (Int.toNat 58) IntKind.u64.bits))=(j:Int):=by
  obtain⟨h1,h2⟩:=ZAE n
  have e:(2:Int) ^ (min (Int.toNat 58) IntKind.u64.bits)=288230376151711744:=by decide
  rw[e,Int.fdiv_eq_ediv_of_nonneg _ (by omega)]
  refine⟨((IntKind.u64.wrap n) / 288230376151711744).toNat,?_,?_⟩<;>omega
theorem ZBL:∀j:Nat,j<64→Zdv [] 1 false (.d (.rptr (Zwn.drop (j*1))))=some (.d (.int .u8 (Zrc.getD j 0))):=by
  have key:((List.range 64).all fun j=>match Zdv [] 1 false (.d (.rptr (Zwn.drop (j*1)))) with | some (.d (.int .u8 z))=>z==Zrc.getD j 0 | _=>false)=true:=by rfl
  intro j hj
  have:=List.all_eq_true.1 key j (by simpa using hj)
  split at this
  · rename_i z hz
    rw[hz,eq_of_beq this]
  · cases this
def Zg6 (r:Int):D:=Zb r
theorem Zgv (a:Int):∀r,ZdA a=some r→evD ctx 123 [.d (.int .u64 a)]=some (Zg6 r):=by
  intro r hr
  unfold ZdA at hr
  have hr:=Option.some.inj hr
  subst hr
  rw[Za1 ctx 123 ZwI _ rfl rfl]
  by_cases h:(a==0)=true
  · conv=>lhs;whnf
    rw[h,Zx8]
    rfl
  · replace h:(a==0)=false:=by simpa using h
    obtain⟨j,hj,e⟩:=ZBD (IntKind.u64.wrap ((BitVec.ofInt IntKind.u64.bits a &&& BitVec.ofInt IntKind.u64.bits (IntKind.u64.wrap (0-a))).toNat:Int)*285870213051353865)
    conv=>lhs;whnf
    rw[h,Zyv]
    conv=>lhs;whnf
    refine(ZBF (by rfl)).trans ?_
    conv=>lhs;whnf
    rw[e]
    refine(ZAr (by simp;omega)).trans ?_
    conv=>lhs;whnf
    erw [ZBL j hj]
    rfl
def Ze9 (r:Int):D:=(Zb r)
theorem Zhe {a:Int}:∀r,(ZcP a)=some r→evD ctx 111 [(.d (D.int .u64 a))]=some (Ze9 r):=by
 show ZM _ (fun r rhs=>rhs=some (Ze9 r)) _
 unfold ZcP
 rw[Za1 ctx 111 Zvi _ rfl rfl]
 conv=>arg 3;whnf
 refine Zp _ (Zgv _) rfl fun x0 hx0=>?_;conv=>arg 3;whnf
 exact Zd rfl
def Znh (r:(Int×Bool)):D:=(D.tup [(Zb r.1),(D.bool r.2)])
theorem ZqL {a:Int}:∀r,(ZiQ a)=some r→evD ctx 83 [(.d (Zb a))]=some (Znh r):=by
 show ZM _ (fun r rhs=>rhs=some (Znh r)) _
 unfold ZiQ
 rw[Za1 ctx 83 Zzc _ rfl rfl]
 conv=>arg 3;whnf
 refine Zp _ Zoh rfl fun x0 hx0=>?_;conv=>arg 3;whnf
 refine Zf rfl ?_ ?_<;>conv=>arg 3;whnf
 ·exact Zd rfl
 ·refine Zp _ ZiF rfl fun x1 hx1=>?_;conv=>arg 3;whnf
  refine Zf rfl ?_ ?_<;>conv=>arg 3;whnf
  ·exact Zd rfl
  ·refine Zp _ Zhe rfl fun x2 hx2=>?_;conv=>arg 3;whnf
   exact Zd rfl
def Zk7 (r:Bool):D:=(D.bool r)
theorem Zoj {a:ZV}:∀r,(ZeI a)=some r→evD ctx 85 [(.d (D.agg [(Zb a.op),(Zb a.arg),(Zb a.work)]))]=some (Zk7 r):=by
 show ZM _ (fun r rhs=>rhs=some (Zk7 r)) _
 unfold ZeI
 rw[Za1 ctx 85 Zy6 _ rfl rfl]
 conv=>arg 3;whnf
 refine Zp _ Zb2 rfl fun x0 hx0=>?_;conv=>arg 3;whnf
 refine Zf rfl ?_ ?_<;>conv=>arg 3;whnf
 ·refine Zp _ Zb2 rfl fun x1 hx1=>?_;conv=>arg 3;whnf
  refine Zf rfl ?_ ?_<;>conv=>arg 3;whnf
  ·refine Zp _ Zb2 rfl fun x2 hx2=>?_;conv=>arg 3;whnf
   refine Zf rfl ?_ ?_<;>conv=>arg 3;whnf
   ·exact Zd rfl
   ·exact Zd rfl
  ·exact Zd rfl
 ·exact Zd rfl
def ZcA (r:Int):D:=(Zb r)
def Zce (t0:Bool) (a:(List ZV)):(Int⊕Unit)→Ex×List V×Zo
  | (.inl r)=>(.ret,[(.d (Zb r))],[])
  | (.inr r)=>(.exit 0,[.bad],[])
theorem Zem {t0:Bool}{a:(List ZV)}:∀(s0:Int) (r:(Int⊕Unit)),lp (ZaW a (fun z0=>ZeI z0)) s0=some r→lpW ctx 0 [0,1,7,8] [4] ZtL [(.d (D.list t0 (List.map Z2 a))),(.d (D.fn 85 [])),(.d (Zb (a.length:Int))),(.d (Zb s0))] []=some ((Zce t0 a) r):=by
 refine ZaG (Zce t0 a) ?_
 intro s0 rcl ih
 show ZM _ _ (lpW _ _ _ _ _ _ _)
 unfold ZaW
 rw[ZaH]
 conv=>arg 3;whnf
 refine Zf rfl ?_ ?_<;>conv=>arg 3;whnf
 ·refine Zl rfl rfl fun x1 hx1=>?_;conv=>arg 3;whnf
  refine Zp _ Zoj rfl fun x2 hx2=>?_;conv=>arg 3;whnf
  refine Zf rfl ?_ ?_<;>conv=>arg 3;whnf
  ·exact Zd rfl
  ·exact Ze (ih _)
 ·exact Zd rfl
theorem ZeA {t0:Bool}{a:(List ZV)}:∀r,(Zb1 a (fun z0=>ZeI z0))=some r→evD ctx 112 [(.d (D.list t0 (List.map Z2 a))),(.d (D.fn 85 []))]=some (ZcA r):=by
 show ZM _ (fun r rhs=>rhs=some (ZcA r)) _
 unfold Zb1
 rw[Za1 ctx 112 Zxf _ rfl rfl]
 conv=>arg 3;whnf
 refine Zn (ZF _ _) ?_;conv=>arg 3;whnf
 refine Zc _ (Zem _) fun r3 hr3=>?_
 clear hr3
 rcases r3 with r3 | r3
 ·conv=>arg 3;whnf
  exact Zd rfl
 ·conv=>arg 3;whnf
  exact Zd rfl
def Zcj (r:Bool):D:=(D.bool r)
theorem Zen {t0:Bool}{a:(List ZV)}:∀r,(ZaX a (fun z0=>ZeI z0))=some r→evD ctx 84 [(.d (D.list t0 (List.map Z2 a))),(.d (D.fn 85 []))]=some (Zcj r):=by
 show ZM _ (fun r rhs=>rhs=some (Zcj r)) _
 unfold ZaX
 rw[Za1 ctx 84 ZzH _ rfl rfl]
 conv=>arg 3;whnf
 refine Zp _ ZeA rfl fun x0 hx0=>?_;conv=>arg 3;whnf
 refine Zf rfl ?_ ?_<;>conv=>arg 3;whnf
 ·exact Zd rfl
 ·exact Zd rfl
def Zmq (r:Bool):D:=(D.bool r)
theorem Zlc {t0:Bool}{t1:Bool}{t2:Bool}{t3:Bool}{a:Zj}{b:Int}{c:Int}:∀r,(ZgD a b c)=some r→evD ctx 86 [(.d (D.agg (dA t0 t1 t2 t3 a))),(.d (Zb b)),(.d (Zb c))]=some (Zmq r):=by
 show ZM _ (fun r rhs=>rhs=some (Zmq r)) _
 unfold ZgD
 rw[Za1 ctx 86 ZzI _ rfl rfl]
 conv=>arg 3;whnf
 refine Zf rfl ?_ ?_<;>conv=>arg 3;whnf
 ·refine Zn (ZF _ _) ?_;conv=>arg 3;whnf
  refine Zp _ Zb2 rfl fun x0 hx0=>?_;conv=>arg 3;whnf
  refine Zf rfl ?_ ?_<;>conv=>arg 3;whnf
  ·refine Zn (ZF _ _) ?_;conv=>arg 3;whnf
   refine Zp _ Zb2 rfl fun x1 hx1=>?_;conv=>arg 3;whnf
   refine Zf rfl ?_ ?_<;>conv=>arg 3;whnf
   ·exact Zd rfl
   ·exact Zd rfl
  ·exact Zd rfl
 ·exact Zd rfl
def ZeT (r:Int):D:=(Zb r)
def Zeu (t0:Bool) (a:(List Zm)) (b:Zm):(Int⊕Unit)→Ex×List V×Zo
  | (.inl r)=>(.ret,[(.d (Zb r))],[])
  | (.inr r)=>(.exit 0,[.bad],[])
theorem Zgd {t0:Bool}{a:(List Zm)}{b:Zm}:∀(s0:Int) (r:(Int⊕Unit)),lp (Zbh a b) s0=some r→lpW ctx 0 [0,3,7,8] [4] ZtJ [(.d (D.list t0 (List.map ZD a))),(.ptr 0 0),(.d (Zb (a.length:Int))),(.d (Zb s0))] [(.cells [(.d (Zb b.src)),(.d (Zb b.dst))])]=some ((Zeu t0 a b) r):=by
 refine ZaG (Zeu t0 a b) ?_
 intro s0 rcl ih
 show ZM _ _ (lpW _ _ _ _ _ _ _)
 unfold Zbh
 rw[ZaH]
 conv=>arg 3;whnf
 refine Zf rfl ?_ ?_<;>conv=>arg 3;whnf
 ·refine Zl rfl rfl fun x1 hx1=>?_;conv=>arg 3;whnf
  refine Zf rfl ?_ ?_<;>conv=>arg 3;whnf
  ·exact Zd rfl
  ·exact Ze (ih _)
 ·exact Zd rfl
theorem Zg8 {t0:Bool}{a:(List Zm)}{b:Zm}:∀r,(ZcC a b)=some r→evD ctx 113 [(.d (D.list t0 (List.map ZD a))),(.d (D.agg [(Zb b.src),(Zb b.dst)]))]=some (ZeT r):=by
 show ZM _ (fun r rhs=>rhs=some (ZeT r)) _
 unfold ZcC
 rw[Za1 ctx 113 Zxs _ rfl rfl]
 conv=>arg 3;whnf
 refine Zn (ZF _ _) ?_;conv=>arg 3;whnf
 refine Zc _ (Zgd _) fun r2 hr2=>?_
 clear hr2
 rcases r2 with r2 | r2
 ·conv=>arg 3;whnf
  exact Zd rfl
 ·conv=>arg 3;whnf
  exact Zd rfl
def Zev (r:Bool):D:=(D.bool r)
theorem Zej {t0:Bool}{a:(List Zm)}{b:Zm}:∀r,(ZaV a b)=some r→evD ctx 87 [(.d (D.list t0 (List.map ZD a))),(.d (D.agg [(Zb b.src),(Zb b.dst)]))]=some (Zev r):=by
 show ZM _ (fun r rhs=>rhs=some (Zev r)) _
 unfold ZaV
 rw[Za1 ctx 87 ZzD _ rfl rfl]
 conv=>arg 3;whnf
 refine Zp _ Zg8 rfl fun x0 hx0=>?_;conv=>arg 3;whnf
 refine Zf rfl ?_ ?_<;>conv=>arg 3;whnf
 ·exact Zd rfl
 ·exact Zd rfl
def Zjd (r:Bool):D:=(D.bool r)
theorem Zmc {a:Zi}{b0:Int}{b1:Int}{b2:Int}:∀r,(Zdb a b1 b2)=some r→evD ctx 88 [(.d (D.agg [(Zb a.maker),(Zb a.user),(Zb a.pos)])),(.d (D.rptr [(Zb b0),(Zb b1),(Zb b2)]))]=some (Zjd r):=by
 show ZM _ (fun r rhs=>rhs=some (Zjd r)) _
 unfold Zdb
 rw[Za1 ctx 88 ZzB _ rfl rfl]
 conv=>arg 3;whnf
 refine Zf rfl ?_ ?_<;>conv=>arg 3;whnf
 ·refine Zf rfl ?_ ?_<;>conv=>arg 3;whnf
  ·exact Zd rfl
  ·exact Zd rfl
 ·exact Zd rfl
def ZbQ (r:Int):D:=(Zb r)
def ZbA (t0:Bool) (a:(List Zi)) (b0:Int) (b1:Int) (b2:Int):(Int⊕Unit)→Ex×List V×Zo
  | (.inl r)=>(.ret,[(.d (Zb r))],[])
  | (.inr r)=>(.exit 0,[.bad],[])
theorem Zdo {t0:Bool}{a:(List Zi)}{b0:Int}{b1:Int}{b2:Int}:∀(s0:Int) (r:(Int⊕Unit)),lp (ZaB a (fun z0=>Zdb z0 b1 b2)) s0=some r→lpW ctx 0 [0,1,7,8] [4] ZtI [(.d (D.list t0 (List.map Zq a))),(.d (D.fn 88 [(D.rptr [(Zb b0),(Zb b1),(Zb b2)])])),(.d (Zb (a.length:Int))),(.d (Zb s0))] []=some ((ZbA t0 a b0 b1 b2) r):=by
 refine ZaG (ZbA t0 a b0 b1 b2) ?_
 intro s0 rcl ih
 show ZM _ _ (lpW _ _ _ _ _ _ _)
 unfold ZaB
 rw[ZaH]
 conv=>arg 3;whnf
 refine Zf rfl ?_ ?_<;>conv=>arg 3;whnf
 ·refine Zl rfl rfl fun x1 hx1=>?_;conv=>arg 3;whnf
  refine Zp _ Zmc rfl fun x2 hx2=>?_;conv=>arg 3;whnf
  refine Zf rfl ?_ ?_<;>conv=>arg 3;whnf
  ·exact Zd rfl
  ·exact Ze (ih _)
 ·exact Zd rfl
theorem ZdD {t0:Bool}{a:(List Zi)}{b0:Int}{b1:Int}{b2:Int}:∀r,(Zbk a (fun z0=>Zdb z0 b1 b2))=some r→evD ctx 114 [(.d (D.list t0 (List.map Zq a))),(.d (D.fn 88 [(D.rptr [(Zb b0),(Zb b1),(Zb b2)])]))]=some (ZbQ r):=by
 show ZM _ (fun r rhs=>rhs=some (ZbQ r)) _
 unfold Zbk
 rw[Za1 ctx 114 Zv2 _ rfl rfl]
 conv=>arg 3;whnf
 refine Zn (ZF _ _) ?_;conv=>arg 3;whnf
 refine Zc _ (Zdo _) fun r3 hr3=>?_
 clear hr3
 rcases r3 with r3 | r3
 ·conv=>arg 3;whnf
  exact Zd rfl
 ·conv=>arg 3;whnf
  exact Zd rfl
def Zby (r:Bool):D:=(D.bool r)
theorem Zdm {t0:Bool}{a:(List Zi)}{b0:Int}{b1:Int}{b2:Int}:∀r,(ZaC a (fun z0=>Zdb z0 b1 b2))=some r→evD ctx 89 [(.d (D.list t0 (List.map Zq a))),(.d (D.fn 88 [(D.rptr [(Zb b0),(Zb b1),(Zb b2)])]))]=some (Zby r):=by
 show ZM _ (fun r rhs=>rhs=some (Zby r)) _
 unfold ZaC
 rw[Za1 ctx 89 Zzt _ rfl rfl]
 conv=>arg 3;whnf
 refine Zp _ ZdD rfl fun x0 hx0=>?_;conv=>arg 3;whnf
 refine Zf rfl ?_ ?_<;>conv=>arg 3;whnf
 ·exact Zd rfl
 ·exact Zd rfl
def Zma (r:Bool):D:=(D.bool r)
def ZjQ (t0:Bool) (t1:Bool) (t2:Bool) (t3:Bool) (t4:Bool) (a:Zj) (b:(List Int)):(Unit⊕Unit)→Ex×List V×Zo
  | (.inl r)=>(.ret,[(.d (D.list t4 (List.map Zb b))),(.d (D.bool false))],[])
  | (.inr r)=>(.exit 0,[(.d (D.list t4 (List.map Zb b))),.bad],[])
theorem Zm5 {t0:Bool}{t1:Bool}{t2:Bool}{t3:Bool}{t4:Bool}{a:Zj}{b:(List Int)}:∀(s0:Int) (r:(Unit⊕Unit)),lp (Ze2 a b) s0=some r→lpW ctx 0 [1,2,7,8,9] [1,4] ZwF [(.d (D.list t4 (List.map Zb b))),(.ptr 0 0),(.d (D.list t4 (List.map Zb b))),(.d (Zb (b.length:Int))),(.d (Zb s0))] [(.cells (dV t0 t1 t2 t3 a))]=some ((ZjQ t0 t1 t2 t3 t4 a b) r):=by
 refine ZaG (ZjQ t0 t1 t2 t3 t4 a b) ?_
 intro s0 rcl ih
 show ZM _ _ (lpW _ _ _ _ _ _ _)
 unfold Ze2
 rw[ZaH]
 conv=>arg 3;whnf
 refine Zf rfl ?_ ?_<;>conv=>arg 3;whnf
 ·refine Zl rfl rfl fun x1 hx1=>?_;conv=>arg 3;whnf
  refine Zn (ZF _ _) ?_;conv=>arg 3;whnf
  refine Zp _ Zb2 rfl fun x2 hx2=>?_;conv=>arg 3;whnf
  refine Zf rfl ?_ ?_<;>conv=>arg 3;whnf
  ·refine Zf rfl ?_ ?_<;>conv=>arg 3;whnf
   ·refine Zl rfl rfl fun x3 hx3=>?_;conv=>arg 3;whnf
    refine Zf rfl ?_ ?_<;>conv=>arg 3;whnf
    ·exact Zd rfl
    ·exact Ze (ih _)
   ·exact Ze (ih _)
  ·exact Zd rfl
 ·exact Zd rfl
theorem Zli {t0:Bool}{t1:Bool}{t2:Bool}{t3:Bool}{t4:Bool}{a:Zj}{b:(List Int)}:∀r,(ZgE a b)=some r→evD ctx 92 [(.d (D.agg (dA t0 t1 t2 t3 a))),(.d (D.list t4 (List.map Zb b)))]=some (Zma r):=by
 show ZM _ (fun r rhs=>rhs=some (Zma r)) _
 unfold ZgE
 rw[Za1 ctx 92 Zy2 _ rfl rfl]
 conv=>arg 3;whnf
 refine Zn (ZF _ _) ?_;conv=>arg 3;whnf
 refine Zc _ (Zm5 _) fun r4 hr4=>?_
 clear hr4
 rcases r4 with r4 | r4
 ·conv=>arg 3;whnf
  exact Zd rfl
 ·conv=>arg 3;whnf
  refine Zn (ZF _ _) ?_;conv=>arg 3;whnf
  refine Zf rfl ?_ ?_<;>conv=>arg 3;whnf
  ·exact Zd rfl
  ·exact Zd rfl
def Zfk (r:Int):D:=(Zb r)
def ZeJ (t0:Bool) (a:(List Int)) (b:Int):(Int⊕Unit)→Ex×List V×Zo
  | (.inl r)=>(.ret,[(.d (Zb r))],[])
  | (.inr r)=>(.exit 0,[.bad],[])
theorem Zgz {t0:Bool}{a:(List Int)}{b:Int}:∀(s0:Int) (r:(Int⊕Unit)),lp (ZbC a b) s0=some r→lpW ctx 0 [0,1,7,8] [4] Ztn [(.d (D.list t0 (List.map Zb a))),(.d (Zb b)),(.d (Zb (a.length:Int))),(.d (Zb s0))] []=some ((ZeJ t0 a b) r):=by
 refine ZaG (ZeJ t0 a b) ?_
 intro s0 rcl ih
 show ZM _ _ (lpW _ _ _ _ _ _ _)
 unfold ZbC
 rw[ZaH]
 conv=>arg 3;whnf
 refine Zf rfl ?_ ?_<;>conv=>arg 3;whnf
 ·refine Zl rfl rfl fun x1 hx1=>?_;conv=>arg 3;whnf
  refine Zf rfl ?_ ?_<;>conv=>arg 3;whnf
  ·exact Zd rfl
  ·exact Ze (ih _)
 ·exact Zd rfl
theorem ZhE {t0:Bool}{a:(List Int)}{b:Int}:∀r,(Zc4 a b)=some r→evD ctx 115 [(.d (D.list t0 (List.map Zb a))),(.d (Zb b))]=some (Zfk r):=by
 show ZM _ (fun r rhs=>rhs=some (Zfk r)) _
 unfold Zc4
 rw[Za1 ctx 115 Zw4 _ rfl rfl]
 conv=>arg 3;whnf
 refine Zn (ZF _ _) ?_;conv=>arg 3;whnf
 refine Zc _ (Zgz _) fun r2 hr2=>?_
 clear hr2
 rcases r2 with r2 | r2
 ·conv=>arg 3;whnf
  exact Zd rfl
 ·conv=>arg 3;whnf
  exact Zd rfl
def ZeG (r:Bool):D:=(D.bool r)
theorem ZgG {t0:Bool}{a:(List Int)}{b:Int}:∀r,(ZbB a b)=some r→evD ctx 91 [(.d (D.list t0 (List.map Zb a))),(.d (Zb b))]=some (ZeG r):=by
 show ZM _ (fun r rhs=>rhs=some (ZeG r)) _
 unfold ZbB
 rw[Za1 ctx 91 Zzr _ rfl rfl]
 conv=>arg 3;whnf
 refine Zp _ ZhE rfl fun x0 hx0=>?_;conv=>arg 3;whnf
 refine Zf rfl ?_ ?_<;>conv=>arg 3;whnf
 ·exact Zd rfl
 ·exact Zd rfl
def Zjn (r:Bool):D:=(D.bool r)
theorem Zl9 {t0:Bool}{t1:Bool}{a:Int}{b0:(List Int)}{b1:(List Int)}:∀r,(Zdd a b1)=some r→evD ctx 90 [(.d (Zb a)),(.d (D.rptr [(D.list t0 (List.map Zb b0)),(D.list t1 (List.map Zb b1))]))]=some (Zjn r):=by
 show ZM _ (fun r rhs=>rhs=some (Zjn r)) _
 unfold Zdd
 rw[Za1 ctx 90 ZzQ _ rfl rfl]
 conv=>arg 3;whnf
 refine Zp _ ZgG rfl fun x0 hx0=>?_;conv=>arg 3;whnf
 refine Zf rfl ?_ ?_<;>conv=>arg 3;whnf
 ·exact Zd rfl
 ·exact Zd rfl
def Zct (r:Int):D:=(Zb r)
def Zca (t0:Bool) (t1:Bool) (t2:Bool) (a:(List Int)) (b0:(List Int)) (b1:(List Int)):(Int⊕Unit)→Ex×List V×Zo
  | (.inl r)=>(.ret,[(.d (Zb r))],[])
  | (.inr r)=>(.exit 0,[.bad],[])
theorem Zd5 {t0:Bool}{t1:Bool}{t2:Bool}{a:(List Int)}{b0:(List Int)}{b1:(List Int)}:∀(s0:Int) (r:(Int⊕Unit)),lp (Zao a (fun z0=>Zdd z0 b1)) s0=some r→lpW ctx 0 [0,1,7,8] [4] Zqv [(.d (D.list t0 (List.map Zb a))),(.d (D.fn 90 [(D.rptr [(D.list t1 (List.map Zb b0)),(D.list t2 (List.map Zb b1))])])),(.d (Zb (a.length:Int))),(.d (Zb s0))] []=some ((Zca t0 t1 t2 a b0 b1) r):=by
 refine ZaG (Zca t0 t1 t2 a b0 b1) ?_
 intro s0 rcl ih
 show ZM _ _ (lpW _ _ _ _ _ _ _)
 unfold Zao
 rw[ZaH]
 conv=>arg 3;whnf
 refine Zf rfl ?_ ?_<;>conv=>arg 3;whnf
 ·refine Zl rfl rfl fun x1 hx1=>?_;conv=>arg 3;whnf
  refine Zp _ Zl9 rfl fun x2 hx2=>?_;conv=>arg 3;whnf
  refine Zf rfl ?_ ?_<;>conv=>arg 3;whnf
  ·exact Zd rfl
  ·exact Ze (ih _)
 ·exact Zd rfl
theorem Zew {t0:Bool}{t1:Bool}{t2:Bool}{a:(List Int)}{b0:(List Int)}{b1:(List Int)}:∀r,(ZaY a (fun z0=>Zdd z0 b1))=some r→evD ctx 116 [(.d (D.list t0 (List.map Zb a))),(.d (D.fn 90 [(D.rptr [(D.list t1 (List.map Zb b0)),(D.list t2 (List.map Zb b1))])]))]=some (Zct r):=by
 show ZM _ (fun r rhs=>rhs=some (Zct r)) _
 unfold ZaY
 rw[Za1 ctx 116 Zud _ rfl rfl]
 conv=>arg 3;whnf
 refine Zn (ZF _ _) ?_;conv=>arg 3;whnf
 refine Zc _ (Zd5 _) fun r3 hr3=>?_
 clear hr3
 rcases r3 with r3 | r3
 ·conv=>arg 3;whnf
  exact Zd rfl
 ·conv=>arg 3;whnf
  exact Zd rfl
def Zcb (r:Bool):D:=(D.bool r)
theorem Zd7 {t0:Bool}{t1:Bool}{t2:Bool}{a:(List Int)}{b0:(List Int)}{b1:(List Int)}:∀r,(Z7 a (fun z0=>Zdd z0 b1))=some r→evD ctx 93 [(.d (D.list t0 (List.map Zb a))),(.d (D.fn 90 [(D.rptr [(D.list t1 (List.map Zb b0)),(D.list t2 (List.map Zb b1))])]))]=some (Zcb r):=by
 show ZM _ (fun r rhs=>rhs=some (Zcb r)) _
 unfold Z7
 rw[Za1 ctx 93 Zx4 _ rfl rfl]
 conv=>arg 3;whnf
 refine Zp _ Zew rfl fun x0 hx0=>?_;conv=>arg 3;whnf
 refine Zf rfl ?_ ?_<;>conv=>arg 3;whnf
 ·exact Zd rfl
 ·exact Zd rfl
def ZkC (r:Int):D:=(Zb r)
def Zim (t0:Bool) (t1:Bool) (t2:Bool) (t3:Bool) (a:Zj):(Unit⊕Unit)→Ex×List V×Zo
  | (.inl r)=>(.ret,[(.ptr 0 0),(.d (Zb 53))],[(.cells (dV t0 t1 t2 t3 a))])
  | (.inr r)=>(.exit 0,[(.ptr 0 0),.bad],[(.cells (dV t0 t1 t2 t3 a))])
theorem Zlr {t0:Bool}{t1:Bool}{t2:Bool}{t3:Bool}{a:Zj}:∀(s4:Int) (r:(Unit⊕Unit)),lp (Zdn a) s4=some r→lpW ctx 0 [1,61,62,63] [1,2] Zvg [(.ptr 0 0),(.d (D.list t1 (List.map ZD a.edges))),(.d (Zb (a.edges.length:Int))),(.d (Zb s4))] [(.cells (dV t0 t1 t2 t3 a))]=some ((Zim t0 t1 t2 t3 a) r):=by
 refine ZaG (Zim t0 t1 t2 t3 a) ?_
 intro s4 rcl ih
 show ZM _ _ (lpW _ _ _ _ _ _ _)
 unfold Zdn
 rw[ZaH]
 conv=>arg 3;whnf
 refine Zf rfl ?_ ?_<;>conv=>arg 3;whnf
 ·refine Zl rfl rfl fun x5 hx5=>?_;conv=>arg 3;whnf
  refine Zp _ Zlc rfl fun x6 hx6=>?_;conv=>arg 3;whnf
  refine Zf rfl ?_ ?_<;>conv=>arg 3;whnf
  ·refine Zf rfl ?_ ?_
   ·conv=>arg 3;whnf
    refine Zf (Zv9 ZD a.edges s4.toNat) ?_ ?_
    ·conv=>arg 3;whnf
     refine ZaT rfl ?_;conv=>arg 3;whnf
     refine Zn (Zq4 ZD a.edges s4.toNat) ?_;conv=>arg 3;whnf
     refine Zp _ Zej rfl fun x7 hx7=>?_;conv=>arg 3;whnf
     refine Zf rfl ?_ ?_<;>conv=>arg 3;whnf
     ·exact Zd rfl
     ·exact Ze (ih _)
    ·exact Zaj
   ·exact Zaj
  ·exact Zd rfl
 ·exact Zd rfl
def Zip (t0:Bool) (t1:Bool) (t2:Bool) (t3:Bool) (a:Zj):(Unit⊕Unit)→Ex×List V×Zo
  | (.inl r)=>(.ret,[(.ptr 0 0),(.d (Zb 54))],[(.cells (dV t0 t1 t2 t3 a))])
  | (.inr r)=>(.exit 2,[(.ptr 0 0),.bad],[(.cells (dV t0 t1 t2 t3 a))])
theorem ZlG {t0:Bool}{t1:Bool}{t2:Bool}{t3:Bool}{a:Zj}:∀(s9:Int) (r:(Unit⊕Unit)),lp (Zdr a) s9=some r→lpW ctx 0 [1,85,86,87] [1,2] Zv0 [(.ptr 0 0),(.d (D.list t2 (List.map Zq a.futures))),(.d (Zb (a.futures.length:Int))),(.d (Zb s9))] [(.cells (dV t0 t1 t2 t3 a))]=some ((Zip t0 t1 t2 t3 a) r):=by
 refine ZaG (Zip t0 t1 t2 t3 a) ?_
 intro s9 rcl ih
 show ZM _ _ (lpW _ _ _ _ _ _ _)
 unfold Zdr
 rw[ZaH]
 conv=>arg 3;whnf
 refine Zf rfl ?_ ?_<;>conv=>arg 3;whnf
 ·refine Zl rfl rfl fun x10 hx10=>?_;conv=>arg 3;whnf
  refine Zp _ Zlc rfl fun x11 hx11=>?_;conv=>arg 3;whnf
  refine Zf rfl ?_ ?_<;>conv=>arg 3;whnf
  ·refine Zl rfl rfl fun x12 hx12=>?_;conv=>arg 3;whnf
   refine Zp _ Zb2 rfl fun x13 hx13=>?_;conv=>arg 3;whnf
   refine Zf rfl ?_ ?_<;>conv=>arg 3;whnf
   ·refine Zf rfl ?_ ?_
    ·conv=>arg 3;whnf
     refine Zf (Zv9 Zq a.futures s9.toNat) ?_ ?_
     ·conv=>arg 3;whnf
      refine ZaT rfl ?_;conv=>arg 3;whnf
      refine Zn (Zq4 Zq a.futures s9.toNat) ?_;conv=>arg 3;whnf
      refine Zp _ Zdm rfl fun x14 hx14=>?_;conv=>arg 3;whnf
      refine Zf rfl ?_ ?_<;>conv=>arg 3;whnf
      ·exact Zd rfl
      ·exact Ze (ih _)
     ·exact Zaj
    ·exact Zaj
   ·exact Zd rfl
  ·exact Zd rfl
 ·exact Zd rfl
def Zin (t0:Bool) (t1:Bool) (t2:Bool) (t3:Bool) (a:Zj):(Unit⊕Unit)→Ex×List V×Zo
  | (.inl r)=>(.ret,[(.d (Zb 55))],[])
  | (.inr r)=>(.exit 4,[.bad],[])
theorem ZlD {t0:Bool}{t1:Bool}{t2:Bool}{t3:Bool}{a:Zj}:∀(s16:Int) (r:(Unit⊕Unit)),lp (Zdp a) s16=some r→lpW ctx 0 [1,124,125,126] [2] ZwU [(.ptr 0 0),(.d (D.list t3 (List.map Zv a.barriers))),(.d (Zb (a.barriers.length:Int))),(.d (Zb s16))] [(.cells (dV t0 t1 t2 t3 a))]=some ((Zin t0 t1 t2 t3 a) r):=by
 refine ZaG (Zin t0 t1 t2 t3 a) ?_
 intro s16 rcl ih
 show ZM _ _ (lpW _ _ _ _ _ _ _)
 unfold Zdp
 rw[ZaH]
 conv=>arg 3;whnf
 refine Zf rfl ?_ ?_<;>conv=>arg 3;whnf
 ·refine Zl rfl rfl fun x17 hx17=>?_;conv=>arg 3;whnf
  refine Zp _ Zli rfl fun x18 hx18=>?_;conv=>arg 3;whnf
  refine Zf rfl ?_ ?_<;>conv=>arg 3;whnf
  ·refine Zp _ Zli rfl fun x19 hx19=>?_;conv=>arg 3;whnf
   refine Zf rfl ?_ ?_<;>conv=>arg 3;whnf
   ·refine Zp _ Zd7 rfl fun x20 hx20=>?_;conv=>arg 3;whnf
    refine Zf rfl ?_ ?_<;>conv=>arg 3;whnf
    ·exact Zd rfl
    ·exact Ze (ih _)
   ·exact Zd rfl
  ·exact Zd rfl
 ·exact Zd rfl
theorem Zhd {t0:Bool}{t1:Bool}{t2:Bool}{t3:Bool}{a:Zj}:∀r,(ZeQ a)=some r→evD ctx 55 [(.d (D.agg (dA t0 t1 t2 t3 a)))]=some (ZkC r):=by
 show ZM _ (fun r rhs=>rhs=some (ZkC r)) _
 unfold ZeQ
 rw[Za1 ctx 55 Zzj _ rfl rfl]
 conv=>arg 3;whnf
 refine Zn (ZF _ _) ?_;conv=>arg 3;whnf
 refine Zp _ Zb2 rfl fun x0 hx0=>?_;conv=>arg 3;whnf
 refine Zf rfl ?_ ?_<;>conv=>arg 3;whnf
 ·refine Zn (ZF _ _) ?_;conv=>arg 3;whnf
  refine Zf rfl ?_ ?_<;>conv=>arg 3;whnf
  ·exact Zd rfl
  ·refine Zn (ZF _ _) ?_;conv=>arg 3;whnf
   refine Zf rfl ?_ ?_<;>conv=>arg 3;whnf
   ·exact Zd rfl
   ·refine Zn (ZF _ _) ?_;conv=>arg 3;whnf
    refine Zf rfl ?_ ?_<;>conv=>arg 3;whnf
    ·exact Zd rfl
    ·refine Zp _ ZqL rfl fun x1 hx1=>?_;conv=>arg 3;whnf
     refine Zf rfl ?_ ?_<;>conv=>arg 3;whnf
     ·refine Zf rfl ?_ ?_<;>conv=>arg 3;whnf
      ·exact Zd rfl
      ·refine Zp _ Zb2 rfl fun x2 hx2=>?_;conv=>arg 3;whnf
       refine Zf rfl ?_ ?_<;>conv=>arg 3;whnf
       ·refine Zp _ Zen rfl fun x3 hx3=>?_;conv=>arg 3;whnf
        refine Zf rfl ?_ ?_<;>conv=>arg 3;whnf
        ·exact Zd rfl
        ·refine Zn (ZF _ _) ?_;conv=>arg 3;whnf
         refine Zc _ (Zlr _) fun r8 hr8=>?_
         clear hr8
         rcases r8 with r8 | r8
         ·conv=>arg 3;whnf
          exact Zd rfl
         ·conv=>arg 3;whnf
          refine Zn (ZF _ _) ?_;conv=>arg 3;whnf
          refine Zc _ (ZlG _) fun r15 hr15=>?_
          clear hr15
          rcases r15 with r15 | r15
          ·conv=>arg 3;whnf
           exact Zd rfl
          ·conv=>arg 3;whnf
           refine Zn (ZF _ _) ?_;conv=>arg 3;whnf
           refine Zc _ (ZlD _) fun r21 hr21=>?_
           clear hr21
           rcases r21 with r21 | r21
           ·conv=>arg 3;whnf
            exact Zd rfl
           ·conv=>arg 3;whnf
            exact Zd rfl
       ·exact Zd rfl
     ·exact Zd rfl
 ·exact Zd rfl
def ZhT (r:Int):D:=(Zb r)
theorem ZG {t0:Bool}{t1:Bool}{t2:Bool}{t3:Bool}{a:Int}{b:Int}{c0:Int}{c1:Int}{c2:(List ZV)}{c3:(List Zm)}{c4:(List Zi)}{c5:(List Zs)}:∀r,(Zt a b c4)=some r→evD ctx 118 [(.d (Zb a)),(.d (Zb b)),(.d (D.rptr [(Zb c0),(Zb c1),(D.list t0 (List.map Z2 c2)),(D.list t1 (List.map ZD c3)),(D.list t2 (List.map Zq c4)),(D.list t3 (List.map Zv c5))]))]=some (ZhT r):=by
 show ZM _ (fun r rhs=>rhs=some (ZhT r)) _
 unfold Zt
 rw[Za1 ctx 118 ZwB _ rfl rfl]
 conv=>arg 3;whnf
 refine Zl rfl rfl fun x0 hx0=>?_;conv=>arg 3;whnf
 refine Zl rfl rfl fun x1 hx1=>?_;conv=>arg 3;whnf
 exact Zd rfl
def Zho (r:Int):D:=(Zb r)
theorem Zkb {a:Int}:∀r,(Zgo a)=some r→evD ctx 135 [(.d (D.int .u64 a))]=some (Zho r):=by
 show ZM _ (fun r rhs=>rhs=some (Zho r)) _
 unfold Zgo
 rw[Za1 ctx 135 ZvP _ rfl rfl]
 conv=>arg 3;whnf
 refine Zf rfl ?_ ?_<;>conv=>arg 3;whnf
 ·refine Z5 rfl ?_;conv=>arg 3;whnf
  refine Zf rfl ?_ ?_<;>conv=>arg 3;whnf
  ·refine Z5 rfl ?_;conv=>arg 3;whnf
   refine Zf rfl ?_ ?_<;>conv=>arg 3;whnf
   ·refine Z5 rfl ?_;conv=>arg 3;whnf
    refine Zf rfl ?_ ?_
    ·conv=>arg 3;whnf
     refine ZgT rfl fun x0 hx0=>?_;conv=>arg 3;whnf
     exact Zd rfl
    ·exact Zaj
   ·refine Zf rfl ?_ ?_
    ·conv=>arg 3;whnf
     refine ZgT rfl fun x1 hx1=>?_;conv=>arg 3;whnf
     exact Zd rfl
    ·exact Zaj
  ·refine Zf rfl ?_ ?_<;>conv=>arg 3;whnf
   ·refine Z5 rfl ?_;conv=>arg 3;whnf
    refine Zf rfl ?_ ?_
    ·conv=>arg 3;whnf
     refine ZgT rfl fun x2 hx2=>?_;conv=>arg 3;whnf
     exact Zd rfl
    ·exact Zaj
   ·refine Zf rfl ?_ ?_
    ·conv=>arg 3;whnf
     refine ZgT rfl fun x3 hx3=>?_;conv=>arg 3;whnf
     exact Zd rfl
    ·exact Zaj
 ·refine Zf rfl ?_ ?_<;>conv=>arg 3;whnf
  ·refine Z5 rfl ?_;conv=>arg 3;whnf
   refine Zf rfl ?_ ?_<;>conv=>arg 3;whnf
   ·refine Z5 rfl ?_;conv=>arg 3;whnf
    refine Zf rfl ?_ ?_
    ·conv=>arg 3;whnf
     refine ZgT rfl fun x4 hx4=>?_;conv=>arg 3;whnf
     exact Zd rfl
    ·exact Zaj
   ·refine Zf rfl ?_ ?_
    ·conv=>arg 3;whnf
     refine ZgT rfl fun x5 hx5=>?_;conv=>arg 3;whnf
     exact Zd rfl
    ·exact Zaj
  ·refine Zf rfl ?_ ?_<;>conv=>arg 3;whnf
   ·refine Z5 rfl ?_;conv=>arg 3;whnf
    refine Zf rfl ?_ ?_
    ·conv=>arg 3;whnf
     refine ZgT rfl fun x6 hx6=>?_;conv=>arg 3;whnf
     exact Zd rfl
    ·exact Zaj
   ·refine Zf rfl ?_ ?_
    ·conv=>arg 3;whnf
     refine ZgT rfl fun x7 hx7=>?_;conv=>arg 3;whnf
     exact Zd rfl
    ·exact Zaj
def Zih (r:Int):D:=(Zb r)
theorem Zh1 {a:Int}:∀r,(Zed a)=some r→evD ctx 125 [(.d (D.int .u64 a))]=some (Zih r):=by
 show ZM _ (fun r rhs=>rhs=some (Zih r)) _
 unfold Zed
 rw[Za1 ctx 125 Zwj _ rfl rfl]
 conv=>arg 3;whnf
 refine Zp _ Zkb rfl fun x0 hx0=>?_;conv=>arg 3;whnf
 exact Zd rfl
def ZbJ (t0:Bool) (t1:Bool) (t2:Bool) (t3:Bool) (b:Int) (c:Int) (m0_0:(List Int)) (m1_0:Int) (m1_1:Int) (m1_2:(List ZV)) (m1_3:(List Zm)) (m1_4:(List Zi)) (m1_5:(List Zs)):(List Int)→V×Zo
  | r=>((.d (D.tup [])),[(.arr 1 (List.map Zb r)),(.cells [(.d (Zb m1_0)),(.d (Zb m1_1)),(.d (D.list t0 (List.map Z2 m1_2))),(.d (D.list t1 (List.map ZD m1_3))),(.d (D.list t2 (List.map Zq m1_4))),(.d (D.list t3 (List.map Zv m1_5)))])])
def Zbp (t0:Bool) (t1:Bool) (t2:Bool) (t3:Bool) (b:Int) (c:Int) (m1_0:Int) (m1_1:Int) (m1_2:(List ZV)) (m1_3:(List Zm)) (m1_4:(List Zi)) (m1_5:(List Zs)) (s0:Int×(List Int)):(List Int)→Ex×List V×Zo
  | r=>(.exit 2,[(.sl 0 1),(.d (Zb b)),(.d (Zb c)),(.fn 118 [(.ptr 1 0)]),(.d (Zb s0.1))],[(.arr 1 (List.map Zb r)),(.cells [(.d (Zb m1_0)),(.d (Zb m1_1)),(.d (D.list t0 (List.map Z2 m1_2))),(.d (D.list t1 (List.map ZD m1_3))),(.d (D.list t2 (List.map Zq m1_4))),(.d (D.list t3 (List.map Zv m1_5)))])])
theorem Zde {t0:Bool}{t1:Bool}{t2:Bool}{t3:Bool}{b:Int}{c:Int}{m1_0:Int}{m1_1:Int}{m1_2:(List ZV)}{m1_3:(List Zm)}{m1_4:(List Zi)}{m1_5:(List Zs)}{s0:Int×(List Int)}:∀(s1:Int×(List Int)) (r:(List Int)),lp (ZY b (fun z0 z1=>Zt z0 z1 m1_4)) s1=some r→lpW ctx 2 [0,1,2,3,8,9] [0,1,2,3,8] Zty [(.sl 0 1),(.d (Zb b)),(.d (Zb c)),(.fn 118 [(.ptr 1 0)]),(.d (Zb s0.1)),(.d (Zb s1.1))] [(.arr 1 (List.map Zb s1.2)),(.cells [(.d (Zb m1_0)),(.d (Zb m1_1)),(.d (D.list t0 (List.map Z2 m1_2))),(.d (D.list t1 (List.map ZD m1_3))),(.d (D.list t2 (List.map Zq m1_4))),(.d (D.list t3 (List.map Zv m1_5)))])]=some ((Zbp t0 t1 t2 t3 b c m1_0 m1_1 m1_2 m1_3 m1_4 m1_5 s0) r):=by
 refine ZaG (Zbp t0 t1 t2 t3 b c m1_0 m1_1 m1_2 m1_3 m1_4 m1_5 s0) ?_
 intro s1 rcl ih
 show ZM _ _ (lpW _ _ _ _ _ _ _)
 unfold ZY
 rw[ZaH]
 conv=>arg 3;whnf
 refine Zf rfl ?_ ?_<;>conv=>arg 3;whnf
 ·refine Zl rfl rfl fun x2 hx2=>?_;conv=>arg 3;whnf
  refine Zg (Zz rfl hx2) ?_;conv=>arg 3;whnf
  refine Zl rfl rfl fun x3 hx3=>?_;conv=>arg 3;whnf
  refine Zg (Zz rfl hx3) ?_;conv=>arg 3;whnf
  refine Zp _ ZG rfl fun x4 hx4=>?_;conv=>arg 3;whnf
  refine Zf rfl ?_ ?_<;>conv=>arg 3;whnf
  ·refine Zg (Zb4 rfl hx3) ?_;conv=>arg 3;whnf
   refine Zg (Zz rfl hx3) ?_;conv=>arg 3;whnf
   refine Zg (Zb4 rfl hx2) ?_;conv=>arg 3;whnf
   refine Zg (Zz rfl hx2) ?_;conv=>arg 3;whnf
   refine Zg (Zb4 rfl hx2) ?_;conv=>arg 3;whnf
   refine Zg (Zz rfl hx2) ?_;conv=>arg 3;whnf
   refine Zn (ZaN Zb s1.2 s1.1.toNat x3) ?_;conv=>arg 3;whnf
   refine Zl rfl rfl fun x5 hx5=>?_;conv=>arg 3;whnf
   refine Zg (Zz rfl hx5) ?_;conv=>arg 3;whnf
   refine Zn (ZaN Zb (List.set s1.2 s1.1.toNat x3) (w64 (s1.1-1)).toNat x2) ?_;conv=>arg 3;whnf
   exact Ze (ih _)
  ·exact Zd rfl
 ·exact Zd rfl
def Zbr (t0:Bool) (t1:Bool) (t2:Bool) (t3:Bool) (b:Int) (c:Int) (m1_0:Int) (m1_1:Int) (m1_2:(List ZV)) (m1_3:(List Zm)) (m1_4:(List Zi)) (m1_5:(List Zs)):(List Int)→Ex×List V×Zo
  | r=>(.exit 0,[],[(.arr 1 (List.map Zb r)),(.cells [(.d (Zb m1_0)),(.d (Zb m1_1)),(.d (D.list t0 (List.map Z2 m1_2))),(.d (D.list t1 (List.map ZD m1_3))),(.d (D.list t2 (List.map Zq m1_4))),(.d (D.list t3 (List.map Zv m1_5)))])])
theorem Zdf {t0:Bool}{t1:Bool}{t2:Bool}{t3:Bool}{b:Int}{c:Int}{m1_0:Int}{m1_1:Int}{m1_2:(List ZV)}{m1_3:(List Zm)}{m1_4:(List Zi)}{m1_5:(List Zs)}:∀(s0:Int×(List Int)) (r:(List Int)),lp (Zam b c (fun z0 z1=>Zt z0 z1 m1_4)) s0=some r→lpW ctx 2 [0,1,2,3,8] [] Ztv [(.sl 0 1),(.d (Zb b)),(.d (Zb c)),(.fn 118 [(.ptr 1 0)]),(.d (Zb s0.1))] [(.arr 1 (List.map Zb s0.2)),(.cells [(.d (Zb m1_0)),(.d (Zb m1_1)),(.d (D.list t0 (List.map Z2 m1_2))),(.d (D.list t1 (List.map ZD m1_3))),(.d (D.list t2 (List.map Zq m1_4))),(.d (D.list t3 (List.map Zv m1_5)))])]=some ((Zbr t0 t1 t2 t3 b c m1_0 m1_1 m1_2 m1_3 m1_4 m1_5) r):=by
 refine ZaG (Zbr t0 t1 t2 t3 b c m1_0 m1_1 m1_2 m1_3 m1_4 m1_5) ?_
 intro s0 rcl ih
 show ZM _ _ (lpW _ _ _ _ _ _ _)
 unfold Zam
 rw[ZaH]
 conv=>arg 3;whnf
 refine Zf rfl ?_ ?_<;>conv=>arg 3;whnf
 ·refine Zc _ (Zde _) fun r6 hr6=>?_;conv=>arg 3;whnf
  exact Ze (ih _)
 ·exact Zd rfl
theorem Zaa {t0:Bool}{t1:Bool}{t2:Bool}{t3:Bool}{b:Int}{c:Int}{m0_0:(List Int)}{m1_0:Int}{m1_1:Int}{m1_2:(List ZV)}{m1_3:(List Zm)}{m1_4:(List Zi)}{m1_5:(List Zs)}:∀r,(ZW b c (fun z0 z1=>Zt z0 z1 m1_4) m0_0)=some r→evW ctx 126 [(.sl 0 1),(.d (Zb b)),(.d (Zb c)),(.fn 118 [(.ptr 1 0)])] [(.arr 1 (List.map Zb m0_0)),(.cells [(.d (Zb m1_0)),(.d (Zb m1_1)),(.d (D.list t0 (List.map Z2 m1_2))),(.d (D.list t1 (List.map ZD m1_3))),(.d (D.list t2 (List.map Zq m1_4))),(.d (D.list t3 (List.map Zv m1_5)))])]=some ((ZbJ t0 t1 t2 t3 b c m0_0 m1_0 m1_1 m1_2 m1_3 m1_4 m1_5) r):=by
 show ZM _ (fun r rhs=>rhs=some ((ZbJ t0 t1 t2 t3 b c m0_0 m1_0 m1_1 m1_2 m1_3 m1_4 m1_5) r)) _
 unfold ZW
 rw[Zff ctx 126 ZwA _ _ rfl rfl]
 conv=>arg 3;whnf
 refine Zc _ (Zdf _) fun r7 hr7=>?_;conv=>arg 3;whnf
 exact Zd rfl
def Zcn (t0:Bool) (t1:Bool) (t2:Bool) (t3:Bool) (b:Int) (c:Int) (d:Int) (m0_0:(List Int)) (m1_0:Int) (m1_1:Int) (m1_2:(List ZV)) (m1_3:(List Zm)) (m1_4:(List Zi)) (m1_5:(List Zs)):(List Int)→V×Zo
  | r=>((.d (D.tup [])),[(.arr 1 (List.map Zb r)),(.cells [(.d (Zb m1_0)),(.d (Zb m1_1)),(.d (D.list t0 (List.map Z2 m1_2))),(.d (D.list t1 (List.map ZD m1_3))),(.d (D.list t2 (List.map Zq m1_4))),(.d (D.list t3 (List.map Zv m1_5)))])])
def Zb0 (t0:Bool) (t1:Bool) (t2:Bool) (t3:Bool) (c:Int) (d:Int) (m1_0:Int) (m1_1:Int) (m1_2:(List ZV)) (m1_3:(List Zm)) (m1_4:(List Zi)) (m1_5:(List Zs)):((List Int)⊕(List Int))→Ex×List V×Zo
  | (.inl r)=>(.exit 0,[],[(.arr 1 (List.map Zb r)),(.cells [(.d (Zb m1_0)),(.d (Zb m1_1)),(.d (D.list t0 (List.map Z2 m1_2))),(.d (D.list t1 (List.map ZD m1_3))),(.d (D.list t2 (List.map Zq m1_4))),(.d (D.list t3 (List.map Zv m1_5)))])])
  | (.inr r)=>(.ret,[],[(.arr 1 (List.map Zb r)),(.cells [(.d (Zb m1_0)),(.d (Zb m1_1)),(.d (D.list t0 (List.map Z2 m1_2))),(.d (D.list t1 (List.map ZD m1_3))),(.d (D.list t2 (List.map Zq m1_4))),(.d (D.list t3 (List.map Zv m1_5)))])])
theorem ZdR {t0:Bool}{t1:Bool}{t2:Bool}{t3:Bool}{c:Int}{d:Int}{m1_0:Int}{m1_1:Int}{m1_2:(List ZV)}{m1_3:(List Zm)}{m1_4:(List Zi)}{m1_5:(List Zs)}:∀(s0:Int×(List Int)) (r:((List Int)⊕(List Int))),lp (ZK c d (fun z0 z1=>Zt z0 z1 m1_4)) s0=some r→lpW ctx 2 [0,2,3,4,10] [] ZtW [(.sl 0 1),(.d (Zb c)),(.d (Zb d)),(.fn 118 [(.ptr 1 0)]),(.d (Zb s0.1))] [(.arr 1 (List.map Zb s0.2)),(.cells [(.d (Zb m1_0)),(.d (Zb m1_1)),(.d (D.list t0 (List.map Z2 m1_2))),(.d (D.list t1 (List.map ZD m1_3))),(.d (D.list t2 (List.map Zq m1_4))),(.d (D.list t3 (List.map Zv m1_5)))])]=some ((Zb0 t0 t1 t2 t3 c d m1_0 m1_1 m1_2 m1_3 m1_4 m1_5) r):=by
 refine ZaG (Zb0 t0 t1 t2 t3 c d m1_0 m1_1 m1_2 m1_3 m1_4 m1_5) ?_
 intro s0 rcl ih
 show ZM _ _ (lpW _ _ _ _ _ _ _)
 unfold ZK
 rw[ZaH]
 conv=>arg 3;whnf
 refine Zf rfl ?_ ?_<;>conv=>arg 3;whnf
 ·exact Zd rfl
 ·refine Zf rfl ?_ ?_<;>conv=>arg 3;whnf
  ·refine Zl rfl rfl fun x1 hx1=>?_;conv=>arg 3;whnf
   refine Zg (Zz rfl hx1) ?_;conv=>arg 3;whnf
   refine Zl rfl rfl fun x2 hx2=>?_;conv=>arg 3;whnf
   refine Zg (Zz rfl hx2) ?_;conv=>arg 3;whnf
   refine Zp _ ZG rfl fun x3 hx3=>?_;conv=>arg 3;whnf
   refine Zf rfl ?_ ?_<;>conv=>arg 3;whnf
   ·refine Zl rfl rfl fun x4 hx4=>?_;conv=>arg 3;whnf
    refine Zg (Zz rfl hx4) ?_;conv=>arg 3;whnf
    refine Zl rfl rfl fun x5 hx5=>?_;conv=>arg 3;whnf
    refine Zg (Zz rfl hx5) ?_;conv=>arg 3;whnf
    refine Zp _ ZG rfl fun x6 hx6=>?_;conv=>arg 3;whnf
    refine Zf rfl ?_ ?_<;>conv=>arg 3;whnf
    ·refine Zg (Zb4 rfl hx5) ?_;conv=>arg 3;whnf
     refine Zg (Zz rfl hx5) ?_;conv=>arg 3;whnf
     refine Zg (Zb4 rfl hx4) ?_;conv=>arg 3;whnf
     refine Zg (Zz rfl hx4) ?_;conv=>arg 3;whnf
     refine Zg (Zb4 rfl hx4) ?_;conv=>arg 3;whnf
     refine Zg (Zz rfl hx4) ?_;conv=>arg 3;whnf
     refine Zn (ZaN Zb s0.2 (w64 (d+s0.1)).toNat x5) ?_;conv=>arg 3;whnf
     refine Zl rfl rfl fun x7 hx7=>?_;conv=>arg 3;whnf
     refine Zg (Zz rfl hx7) ?_;conv=>arg 3;whnf
     refine Zn (ZaN Zb (List.set s0.2 (w64 (d+s0.1)).toNat x5) (w64 (d+(w64 ((w64 ((w64 (2*s0.1))+1))+1)))).toNat x4) ?_;conv=>arg 3;whnf
     exact Ze (ih _)
    ·exact Zd rfl
   ·refine Zl rfl rfl fun x8 hx8=>?_;conv=>arg 3;whnf
    refine Zg (Zz rfl hx8) ?_;conv=>arg 3;whnf
    refine Zg (Zb4 rfl hx1) ?_;conv=>arg 3;whnf
    refine Zg (Zz rfl hx1) ?_;conv=>arg 3;whnf
    refine Zp _ ZG rfl fun x9 hx9=>?_;conv=>arg 3;whnf
    refine Zf rfl ?_ ?_<;>conv=>arg 3;whnf
    ·refine Zg (Zb4 rfl hx1) ?_;conv=>arg 3;whnf
     refine Zg (Zz rfl hx1) ?_;conv=>arg 3;whnf
     refine Zg (Zb4 rfl hx8) ?_;conv=>arg 3;whnf
     refine Zg (Zz rfl hx8) ?_;conv=>arg 3;whnf
     refine Zg (Zb4 rfl hx8) ?_;conv=>arg 3;whnf
     refine Zg (Zz rfl hx8) ?_;conv=>arg 3;whnf
     refine Zn (ZaN Zb s0.2 (w64 (d+s0.1)).toNat x1) ?_;conv=>arg 3;whnf
     refine Zl rfl rfl fun x10 hx10=>?_;conv=>arg 3;whnf
     refine Zg (Zz rfl hx10) ?_;conv=>arg 3;whnf
     refine Zn (ZaN Zb (List.set s0.2 (w64 (d+s0.1)).toNat x1) (w64 (d+(w64 ((w64 (2*s0.1))+1)))).toNat x8) ?_;conv=>arg 3;whnf
     exact Ze (ih _)
    ·exact Zd rfl
  ·refine Zl rfl rfl fun x11 hx11=>?_;conv=>arg 3;whnf
   refine Zg (Zz rfl hx11) ?_;conv=>arg 3;whnf
   refine Zl rfl rfl fun x12 hx12=>?_;conv=>arg 3;whnf
   refine Zg (Zz rfl hx12) ?_;conv=>arg 3;whnf
   refine Zp _ ZG rfl fun x13 hx13=>?_;conv=>arg 3;whnf
   refine Zf rfl ?_ ?_<;>conv=>arg 3;whnf
   ·refine Zg (Zb4 rfl hx12) ?_;conv=>arg 3;whnf
    refine Zg (Zz rfl hx12) ?_;conv=>arg 3;whnf
    refine Zg (Zb4 rfl hx11) ?_;conv=>arg 3;whnf
    refine Zg (Zz rfl hx11) ?_;conv=>arg 3;whnf
    refine Zg (Zb4 rfl hx11) ?_;conv=>arg 3;whnf
    refine Zg (Zz rfl hx11) ?_;conv=>arg 3;whnf
    refine Zn (ZaN Zb s0.2 (w64 (d+s0.1)).toNat x12) ?_;conv=>arg 3;whnf
    refine Zl rfl rfl fun x14 hx14=>?_;conv=>arg 3;whnf
    refine Zg (Zz rfl hx14) ?_;conv=>arg 3;whnf
    refine Zn (ZaN Zb (List.set s0.2 (w64 (d+s0.1)).toNat x12) (w64 (d+(w64 ((w64 (2*s0.1))+1)))).toNat x11) ?_;conv=>arg 3;whnf
    exact Ze (ih _)
   ·exact Zd rfl
theorem Zb9 {t0:Bool}{t1:Bool}{t2:Bool}{t3:Bool}{b:Int}{c:Int}{d:Int}{m0_0:(List Int)}{m1_0:Int}{m1_1:Int}{m1_2:(List ZV)}{m1_3:(List Zm)}{m1_4:(List Zi)}{m1_5:(List Zs)}:∀r,(ZaD b c d (fun z0 z1=>Zt z0 z1 m1_4) m0_0)=some r→evW ctx 136 [(.sl 0 1),(.d (Zb b)),(.d (Zb c)),(.d (Zb d)),(.fn 118 [(.ptr 1 0)])] [(.arr 1 (List.map Zb m0_0)),(.cells [(.d (Zb m1_0)),(.d (Zb m1_1)),(.d (D.list t0 (List.map Z2 m1_2))),(.d (D.list t1 (List.map ZD m1_3))),(.d (D.list t2 (List.map Zq m1_4))),(.d (D.list t3 (List.map Zv m1_5)))])]=some ((Zcn t0 t1 t2 t3 b c d m0_0 m1_0 m1_1 m1_2 m1_3 m1_4 m1_5) r):=by
 show ZM _ (fun r rhs=>rhs=some ((Zcn t0 t1 t2 t3 b c d m0_0 m1_0 m1_1 m1_2 m1_3 m1_4 m1_5) r)) _
 unfold ZaD
 rw[Zff ctx 136 Zwx _ _ rfl rfl]
 conv=>arg 3;whnf
 refine Zc _ (ZdR _) fun r15 hr15=>?_
 clear hr15
 rcases r15 with r15 | r15
 ·conv=>arg 3;whnf
  exact Zd rfl
 ·conv=>arg 3;whnf
  exact Zd rfl
def Zcm (t0:Bool) (t1:Bool) (t2:Bool) (t3:Bool) (b:Int) (c:Int) (m0_0:(List Int)) (m1_0:Int) (m1_1:Int) (m1_2:(List ZV)) (m1_3:(List Zm)) (m1_4:(List Zi)) (m1_5:(List Zs)):(List Int)→V×Zo
  | r=>((.d (D.tup [])),[(.arr 1 (List.map Zb r)),(.cells [(.d (Zb m1_0)),(.d (Zb m1_1)),(.d (D.list t0 (List.map Z2 m1_2))),(.d (D.list t1 (List.map ZD m1_3))),(.d (D.list t2 (List.map Zq m1_4))),(.d (D.list t3 (List.map Zv m1_5)))])])
def ZbV (t0:Bool) (t1:Bool) (t2:Bool) (t3:Bool) (b:Int) (c:Int) (m1_0:Int) (m1_1:Int) (m1_2:(List ZV)) (m1_3:(List Zm)) (m1_4:(List Zi)) (m1_5:(List Zs)):(List Int)→Ex×List V×Zo
  | r=>(.exit 0,[(.sl 0 1),(.fn 118 [(.ptr 1 0)]),(.d (Zb b)),(.d (Zb 0)),(.d (Zb (w64 (c-b))))],[(.arr 1 (List.map Zb r)),(.cells [(.d (Zb m1_0)),(.d (Zb m1_1)),(.d (D.list t0 (List.map Z2 m1_2))),(.d (D.list t1 (List.map ZD m1_3))),(.d (D.list t2 (List.map Zq m1_4))),(.d (D.list t3 (List.map Zv m1_5)))])])
theorem ZdY {t0:Bool}{t1:Bool}{t2:Bool}{t3:Bool}{b:Int}{c:Int}{m1_0:Int}{m1_1:Int}{m1_2:(List ZV)}{m1_3:(List Zm)}{m1_4:(List Zi)}{m1_5:(List Zs)}:∀(s0:Int×(List Int)) (r:(List Int)),lp (ZaJ b c (fun z0 z1=>Zt z0 z1 m1_4)) s0=some r→lpW ctx 2 [0,3,8,9,10,11] [0,3,8,9,10] ZtQ [(.sl 0 1),(.fn 118 [(.ptr 1 0)]),(.d (Zb b)),(.d (Zb 0)),(.d (Zb (w64 (c-b)))),(.d (Zb s0.1))] [(.arr 1 (List.map Zb s0.2)),(.cells [(.d (Zb m1_0)),(.d (Zb m1_1)),(.d (D.list t0 (List.map Z2 m1_2))),(.d (D.list t1 (List.map ZD m1_3))),(.d (D.list t2 (List.map Zq m1_4))),(.d (D.list t3 (List.map Zv m1_5)))])]=some ((ZbV t0 t1 t2 t3 b c m1_0 m1_1 m1_2 m1_3 m1_4 m1_5) r):=by
 refine ZaG (ZbV t0 t1 t2 t3 b c m1_0 m1_1 m1_2 m1_3 m1_4 m1_5) ?_
 intro s0 rcl ih
 show ZM _ _ (lpW _ _ _ _ _ _ _)
 unfold ZaJ
 rw[ZaH]
 conv=>arg 3;whnf
 refine Zf rfl ?_ ?_<;>conv=>arg 3;whnf
 ·refine Zc _ Zb9 fun x1 hx1=>?_;conv=>arg 3;whnf
  exact Ze (ih _)
 ·exact Zd rfl
def ZbW (t0:Bool) (t1:Bool) (t2:Bool) (t3:Bool) (b:Int) (m1_0:Int) (m1_1:Int) (m1_2:(List ZV)) (m1_3:(List Zm)) (m1_4:(List Zi)) (m1_5:(List Zs)):(List Int)→Ex×List V×Zo
  | r=>(.exit 2,[],[(.arr 1 (List.map Zb r)),(.cells [(.d (Zb m1_0)),(.d (Zb m1_1)),(.d (D.list t0 (List.map Z2 m1_2))),(.d (D.list t1 (List.map ZD m1_3))),(.d (D.list t2 (List.map Zq m1_4))),(.d (D.list t3 (List.map Zv m1_5)))])])
theorem ZdW {t0:Bool}{t1:Bool}{t2:Bool}{t3:Bool}{b:Int}{m1_0:Int}{m1_1:Int}{m1_2:(List ZV)}{m1_3:(List Zm)}{m1_4:(List Zi)}{m1_5:(List Zs)}:∀(s3:Int×(List Int)) (r:(List Int)),lp (ZaK b (fun z0 z1=>Zt z0 z1 m1_4)) s3=some r→lpW ctx 2 [0,3,8,9,12] [] ZtE [(.sl 0 1),(.fn 118 [(.ptr 1 0)]),(.d (Zb b)),(.d (Zb 0)),(.d (Zb s3.1))] [(.arr 1 (List.map Zb s3.2)),(.cells [(.d (Zb m1_0)),(.d (Zb m1_1)),(.d (D.list t0 (List.map Z2 m1_2))),(.d (D.list t1 (List.map ZD m1_3))),(.d (D.list t2 (List.map Zq m1_4))),(.d (D.list t3 (List.map Zv m1_5)))])]=some ((ZbW t0 t1 t2 t3 b m1_0 m1_1 m1_2 m1_3 m1_4 m1_5) r):=by
 refine ZaG (ZbW t0 t1 t2 t3 b m1_0 m1_1 m1_2 m1_3 m1_4 m1_5) ?_
 intro s3 rcl ih
 show ZM _ _ (lpW _ _ _ _ _ _ _)
 unfold ZaK
 rw[ZaH]
 conv=>arg 3;whnf
 refine Zf rfl ?_ ?_<;>conv=>arg 3;whnf
 ·refine Zl rfl rfl fun x4 hx4=>?_;conv=>arg 3;whnf
  refine Zg (Zz rfl hx4) ?_;conv=>arg 3;whnf
  refine Zl rfl rfl fun x5 hx5=>?_;conv=>arg 3;whnf
  refine Zg (Zz rfl hx5) ?_;conv=>arg 3;whnf
  refine Zg (Zb4 rfl hx5) ?_;conv=>arg 3;whnf
  refine Zg (Zz rfl hx5) ?_;conv=>arg 3;whnf
  refine Zn (ZaN Zb s3.2 b.toNat x4) ?_;conv=>arg 3;whnf
  refine Zl rfl rfl fun x6 hx6=>?_;conv=>arg 3;whnf
  refine Zg (Zz rfl hx6) ?_;conv=>arg 3;whnf
  refine Zn (ZaN Zb (List.set s3.2 b.toNat x4) (w64 (b+s3.1)).toNat x5) ?_;conv=>arg 3;whnf
  refine Zc _ Zb9 fun x7 hx7=>?_;conv=>arg 3;whnf
  exact Ze (ih _)
 ·exact Zd rfl
theorem Zar {t0:Bool}{t1:Bool}{t2:Bool}{t3:Bool}{b:Int}{c:Int}{m0_0:(List Int)}{m1_0:Int}{m1_1:Int}{m1_2:(List ZV)}{m1_3:(List Zm)}{m1_4:(List Zi)}{m1_5:(List Zs)}:∀r,(Z8 b c (fun z0 z1=>Zt z0 z1 m1_4) m0_0)=some r→evW ctx 127 [(.sl 0 1),(.d (Zb b)),(.d (Zb c)),(.fn 118 [(.ptr 1 0)])] [(.arr 1 (List.map Zb m0_0)),(.cells [(.d (Zb m1_0)),(.d (Zb m1_1)),(.d (D.list t0 (List.map Z2 m1_2))),(.d (D.list t1 (List.map ZD m1_3))),(.d (D.list t2 (List.map Zq m1_4))),(.d (D.list t3 (List.map Zv m1_5)))])]=some ((Zcm t0 t1 t2 t3 b c m0_0 m1_0 m1_1 m1_2 m1_3 m1_4 m1_5) r):=by
 show ZM _ (fun r rhs=>rhs=some ((Zcm t0 t1 t2 t3 b c m0_0 m1_0 m1_1 m1_2 m1_3 m1_4 m1_5) r)) _
 unfold Z8
 rw[Zff ctx 127 ZwD _ _ rfl rfl]
 conv=>arg 3;whnf
 refine Z5 rfl ?_;conv=>arg 3;whnf
 refine Zc _ (ZdY _) fun r2 hr2=>?_;conv=>arg 3;whnf
 refine Zc _ (ZdW _) fun r8 hr8=>?_;conv=>arg 3;whnf
 exact Zd rfl
def Zcz (t0:Bool) (t1:Bool) (t2:Bool) (t3:Bool) (b:Int) (c:Int) (m0_0:(List Int)) (m1_0:Int) (m2_0:Int) (m2_1:Int) (m2_2:(List ZV)) (m2_3:(List Zm)) (m2_4:(List Zi)) (m2_5:(List Zs)):(Int×Int×Int)→V×Zo
  | r=>((.d (D.tup [(Zb r.1),(Zb r.2.1)])),[(.arr 1 (List.map Zb m0_0)),(.cells [(.d (Zb r.2.2))]),(.cells [(.d (Zb m2_0)),(.d (Zb m2_1)),(.d (D.list t0 (List.map Z2 m2_2))),(.d (D.list t1 (List.map ZD m2_3))),(.d (D.list t2 (List.map Zq m2_4))),(.d (D.list t3 (List.map Zv m2_5)))])])
theorem Zbc {t0:Bool}{t1:Bool}{t2:Bool}{t3:Bool}{b:Int}{c:Int}{m0_0:(List Int)}{m1_0:Int}{m2_0:Int}{m2_1:Int}{m2_2:(List ZV)}{m2_3:(List Zm)}{m2_4:(List Zi)}{m2_5:(List Zs)}:∀r,(ZaS b c (fun z0 z1=>Zt z0 z1 m2_4) m0_0 m1_0)=some r→evW ctx 141 [(.sl 0 1),(.d (Zb b)),(.d (Zb c)),(.ptr 1 0),(.fn 118 [(.ptr 2 0)])] [(.arr 1 (List.map Zb m0_0)),(.cells [(.d (Zb m1_0))]),(.cells [(.d (Zb m2_0)),(.d (Zb m2_1)),(.d (D.list t0 (List.map Z2 m2_2))),(.d (D.list t1 (List.map ZD m2_3))),(.d (D.list t2 (List.map Zq m2_4))),(.d (D.list t3 (List.map Zv m2_5)))])]=some ((Zcz t0 t1 t2 t3 b c m0_0 m1_0 m2_0 m2_1 m2_2 m2_3 m2_4 m2_5) r):=by
 show ZM _ (fun r rhs=>rhs=some ((Zcz t0 t1 t2 t3 b c m0_0 m1_0 m2_0 m2_1 m2_2 m2_3 m2_4 m2_5) r)) _
 unfold ZaS
 rw[Zff ctx 141 Zwt _ _ rfl rfl]
 conv=>arg 3;whnf
 refine Zl rfl rfl fun x0 hx0=>?_;conv=>arg 3;whnf
 refine Zg (Zz rfl hx0) ?_;conv=>arg 3;whnf
 refine Zl rfl rfl fun x1 hx1=>?_;conv=>arg 3;whnf
 refine Zg (Zz rfl hx1) ?_;conv=>arg 3;whnf
 refine Zp _ ZG rfl fun x2 hx2=>?_;conv=>arg 3;whnf
 refine Zf rfl ?_ ?_<;>conv=>arg 3;whnf
 ·exact Zd rfl
 ·exact Zd rfl
def Zcy (t0:Bool) (t1:Bool) (t2:Bool) (t3:Bool) (b:Int) (c:Int) (d:Int) (m0_0:(List Int)) (m1_0:Int) (m2_0:Int) (m2_1:Int) (m2_2:(List ZV)) (m2_3:(List Zm)) (m2_4:(List Zi)) (m2_5:(List Zs)):(Int×Int)→V×Zo
  | r=>((.d (Zb r.1)),[(.arr 1 (List.map Zb m0_0)),(.cells [(.d (Zb r.2))]),(.cells [(.d (Zb m2_0)),(.d (Zb m2_1)),(.d (D.list t0 (List.map Z2 m2_2))),(.d (D.list t1 (List.map ZD m2_3))),(.d (D.list t2 (List.map Zq m2_4))),(.d (D.list t3 (List.map Zv m2_5)))])])
theorem Zbd {t0:Bool}{t1:Bool}{t2:Bool}{t3:Bool}{b:Int}{c:Int}{d:Int}{m0_0:(List Int)}{m1_0:Int}{m2_0:Int}{m2_1:Int}{m2_2:(List ZV)}{m2_3:(List Zm)}{m2_4:(List Zi)}{m2_5:(List Zs)}:∀r,(ZaR b c d (fun z0 z1=>Zt z0 z1 m2_4) m0_0 m1_0)=some r→evW ctx 140 [(.sl 0 1),(.d (Zb b)),(.d (Zb c)),(.d (Zb d)),(.ptr 1 0),(.fn 118 [(.ptr 2 0)])] [(.arr 1 (List.map Zb m0_0)),(.cells [(.d (Zb m1_0))]),(.cells [(.d (Zb m2_0)),(.d (Zb m2_1)),(.d (D.list t0 (List.map Z2 m2_2))),(.d (D.list t1 (List.map ZD m2_3))),(.d (D.list t2 (List.map Zq m2_4))),(.d (D.list t3 (List.map Zv m2_5)))])]=some ((Zcy t0 t1 t2 t3 b c d m0_0 m1_0 m2_0 m2_1 m2_2 m2_3 m2_4 m2_5) r):=by
 show ZM _ (fun r rhs=>rhs=some ((Zcy t0 t1 t2 t3 b c d m0_0 m1_0 m2_0 m2_1 m2_2 m2_3 m2_4 m2_5) r)) _
 unfold ZaR
 rw[Zff ctx 140 ZwG _ _ rfl rfl]
 conv=>arg 3;whnf
 refine Zc _ Zbc fun x0 hx0=>?_;conv=>arg 3;whnf
 refine Zc _ Zbc fun x1 hx1=>?_;conv=>arg 3;whnf
 refine Zc _ Zbc fun x2 hx2=>?_;conv=>arg 3;whnf
 exact Zd rfl
def ZbD (t0:Bool) (t1:Bool) (t2:Bool) (t3:Bool) (b:Int) (m0_0:(List Int)) (m1_0:Int) (m2_0:Int) (m2_1:Int) (m2_2:(List ZV)) (m2_3:(List Zm)) (m2_4:(List Zi)) (m2_5:(List Zs)):(Int×Int)→V×Zo
  | r=>((.d (Zb r.1)),[(.arr 1 (List.map Zb m0_0)),(.cells [(.d (Zb r.2))]),(.cells [(.d (Zb m2_0)),(.d (Zb m2_1)),(.d (D.list t0 (List.map Z2 m2_2))),(.d (D.list t1 (List.map ZD m2_3))),(.d (D.list t2 (List.map Zq m2_4))),(.d (D.list t3 (List.map Zv m2_5)))])])
theorem ZaF {t0:Bool}{t1:Bool}{t2:Bool}{t3:Bool}{b:Int}{m0_0:(List Int)}{m1_0:Int}{m2_0:Int}{m2_1:Int}{m2_2:(List ZV)}{m2_3:(List Zm)}{m2_4:(List Zi)}{m2_5:(List Zs)}:∀r,(Z9 b (fun z0 z1=>Zt z0 z1 m2_4) m0_0 m1_0)=some r→evW ctx 139 [(.sl 0 1),(.d (Zb b)),(.ptr 1 0),(.fn 118 [(.ptr 2 0)])] [(.arr 1 (List.map Zb m0_0)),(.cells [(.d (Zb m1_0))]),(.cells [(.d (Zb m2_0)),(.d (Zb m2_1)),(.d (D.list t0 (List.map Z2 m2_2))),(.d (D.list t1 (List.map ZD m2_3))),(.d (D.list t2 (List.map Zq m2_4))),(.d (D.list t3 (List.map Zv m2_5)))])]=some ((ZbD t0 t1 t2 t3 b m0_0 m1_0 m2_0 m2_1 m2_2 m2_3 m2_4 m2_5) r):=by
 show ZM _ (fun r rhs=>rhs=some ((ZbD t0 t1 t2 t3 b m0_0 m1_0 m2_0 m2_1 m2_2 m2_3 m2_4 m2_5) r)) _
 unfold Z9
 rw[Zff ctx 139 Zwe _ _ rfl rfl]
 conv=>arg 3;whnf
 refine Zc _ Zbd fun x0 hx0=>?_;conv=>arg 3;whnf
 exact Zd rfl
def ZbZ (t0:Bool) (t1:Bool) (t2:Bool) (t3:Bool) (b:Int) (c:Int) (m0_0:(List Int)) (m1_0:Int) (m1_1:Int) (m1_2:(List ZV)) (m1_3:(List Zm)) (m1_4:(List Zi)) (m1_5:(List Zs)):(Int×Int)→V×Zo
  | r=>((.d (D.tup [(Zb r.1),(Zb r.2)])),[(.arr 1 (List.map Zb m0_0)),(.cells [(.d (Zb m1_0)),(.d (Zb m1_1)),(.d (D.list t0 (List.map Z2 m1_2))),(.d (D.list t1 (List.map ZD m1_3))),(.d (D.list t2 (List.map Zq m1_4))),(.d (D.list t3 (List.map Zv m1_5)))])])
theorem Zai {t0:Bool}{t1:Bool}{t2:Bool}{t3:Bool}{b:Int}{c:Int}{m0_0:(List Int)}{m1_0:Int}{m1_1:Int}{m1_2:(List ZV)}{m1_3:(List Zm)}{m1_4:(List Zi)}{m1_5:(List Zs)}:∀r,(ZO b c (fun z0 z1=>Zt z0 z1 m1_4) m0_0)=some r→evW ctx 129 [(.sl 0 1),(.d (Zb b)),(.d (Zb c)),(.fn 118 [(.ptr 1 0)])] [(.arr 1 (List.map Zb m0_0)),(.cells [(.d (Zb m1_0)),(.d (Zb m1_1)),(.d (D.list t0 (List.map Z2 m1_2))),(.d (D.list t1 (List.map ZD m1_3))),(.d (D.list t2 (List.map Zq m1_4))),(.d (D.list t3 (List.map Zv m1_5)))])]=some ((ZbZ t0 t1 t2 t3 b c m0_0 m1_0 m1_1 m1_2 m1_3 m1_4 m1_5) r):=by
 show ZM _ (fun r rhs=>rhs=some ((ZbZ t0 t1 t2 t3 b c m0_0 m1_0 m1_1 m1_2 m1_3 m1_4 m1_5) r)) _
 unfold ZO
 rw[Zff ctx 129 ZwV _ _ rfl rfl]
 conv=>arg 3;whnf
 refine Z5 rfl ?_;conv=>arg 3;whnf
 refine Z5 rfl ?_;conv=>arg 3;whnf
 refine Z5 rfl ?_;conv=>arg 3;whnf
 refine Zf rfl ?_ ?_<;>conv=>arg 3;whnf
 ·refine Zf rfl ?_ ?_<;>conv=>arg 3;whnf
  ·refine Zc _ ZaF fun x0 hx0=>?_;conv=>arg 3;whnf
   refine Zc _ ZaF fun x1 hx1=>?_;conv=>arg 3;whnf
   refine Zc _ ZaF fun x2 hx2=>?_;conv=>arg 3;whnf
   refine Zc _ Zbd fun x3 hx3=>?_;conv=>arg 3;whnf
   refine Zf rfl ?_ ?_<;>conv=>arg 3;whnf
   ·exact Zd rfl
   ·refine Zf rfl ?_ ?_<;>conv=>arg 3;whnf
    ·exact Zd rfl
    ·exact Zd rfl
  ·refine Zc _ Zbd fun x4 hx4=>?_;conv=>arg 3;whnf
   refine Zf rfl ?_ ?_<;>conv=>arg 3;whnf
   ·exact Zd rfl
   ·refine Zf rfl ?_ ?_<;>conv=>arg 3;whnf
    ·exact Zd rfl
    ·exact Zd rfl
 ·refine ZaT rfl ?_;conv=>arg 3;whnf
  exact Zd rfl
def ZbK (t0:Bool) (t1:Bool) (t2:Bool) (t3:Bool) (b:Int) (c:Int) (m0_0:(List Int)) (m1_0:Int) (m1_1:Int) (m1_2:(List ZV)) (m1_3:(List Zm)) (m1_4:(List Zi)) (m1_5:(List Zs)):(List Int)→V×Zo
  | r=>((.d (D.tup [])),[(.arr 1 (List.map Zb r)),(.cells [(.d (Zb m1_0)),(.d (Zb m1_1)),(.d (D.list t0 (List.map Z2 m1_2))),(.d (D.list t1 (List.map ZD m1_3))),(.d (D.list t2 (List.map Zq m1_4))),(.d (D.list t3 (List.map Zv m1_5)))])])
def Zbz (t0:Bool) (t1:Bool) (t2:Bool) (t3:Bool) (m1_0:Int) (m1_1:Int) (m1_2:(List ZV)) (m1_3:(List Zm)) (m1_4:(List Zi)) (m1_5:(List Zs)):(List Int)→Ex×List V×Zo
  | r=>(.exit 0,[],[(.arr 1 (List.map Zb r)),(.cells [(.d (Zb m1_0)),(.d (Zb m1_1)),(.d (D.list t0 (List.map Z2 m1_2))),(.d (D.list t1 (List.map ZD m1_3))),(.d (D.list t2 (List.map Zq m1_4))),(.d (D.list t3 (List.map Zv m1_5)))])])
theorem Zdl {t0:Bool}{t1:Bool}{t2:Bool}{t3:Bool}{m1_0:Int}{m1_1:Int}{m1_2:(List ZV)}{m1_3:(List Zm)}{m1_4:(List Zi)}{m1_5:(List Zs)}:∀(s0:Int×Int×(List Int)) (r:(List Int)),lp (Z6) s0=some r→lpW ctx 2 [0,8,9] [] Ztq [(.sl 0 1),(.d (Zb s0.1)),(.d (Zb s0.2.1))] [(.arr 1 (List.map Zb s0.2.2)),(.cells [(.d (Zb m1_0)),(.d (Zb m1_1)),(.d (D.list t0 (List.map Z2 m1_2))),(.d (D.list t1 (List.map ZD m1_3))),(.d (D.list t2 (List.map Zq m1_4))),(.d (D.list t3 (List.map Zv m1_5)))])]=some ((Zbz t0 t1 t2 t3 m1_0 m1_1 m1_2 m1_3 m1_4 m1_5) r):=by
 refine ZaG (Zbz t0 t1 t2 t3 m1_0 m1_1 m1_2 m1_3 m1_4 m1_5) ?_
 intro s0 rcl ih
 show ZM _ _ (lpW _ _ _ _ _ _ _)
 unfold Z6
 rw[ZaH]
 conv=>arg 3;whnf
 refine Zf rfl ?_ ?_<;>conv=>arg 3;whnf
 ·refine Zl rfl rfl fun x1 hx1=>?_;conv=>arg 3;whnf
  refine Zg (Zz rfl hx1) ?_;conv=>arg 3;whnf
  refine Zl rfl rfl fun x2 hx2=>?_;conv=>arg 3;whnf
  refine Zg (Zz rfl hx2) ?_;conv=>arg 3;whnf
  refine Zg (Zb4 rfl hx2) ?_;conv=>arg 3;whnf
  refine Zg (Zz rfl hx2) ?_;conv=>arg 3;whnf
  refine Zn (ZaN Zb s0.2.2 s0.1.toNat x1) ?_;conv=>arg 3;whnf
  refine Zl rfl rfl fun x3 hx3=>?_;conv=>arg 3;whnf
  refine Zg (Zz rfl hx3) ?_;conv=>arg 3;whnf
  refine Zn (ZaN Zb (List.set s0.2.2 s0.1.toNat x1) s0.2.1.toNat x2) ?_;conv=>arg 3;whnf
  exact Ze (ih _)
 ·exact Zd rfl
theorem Zah {t0:Bool}{t1:Bool}{t2:Bool}{t3:Bool}{b:Int}{c:Int}{m0_0:(List Int)}{m1_0:Int}{m1_1:Int}{m1_2:(List ZV)}{m1_3:(List Zm)}{m1_4:(List Zi)}{m1_5:(List Zs)}:∀r,(ZN b c (fun z0 z1=>Zt z0 z1 m1_4) m0_0)=some r→evW ctx 130 [(.sl 0 1),(.d (Zb b)),(.d (Zb c)),(.fn 118 [(.ptr 1 0)])] [(.arr 1 (List.map Zb m0_0)),(.cells [(.d (Zb m1_0)),(.d (Zb m1_1)),(.d (D.list t0 (List.map Z2 m1_2))),(.d (D.list t1 (List.map ZD m1_3))),(.d (D.list t2 (List.map Zq m1_4))),(.d (D.list t3 (List.map Zv m1_5)))])]=some ((ZbK t0 t1 t2 t3 b c m0_0 m1_0 m1_1 m1_2 m1_3 m1_4 m1_5) r):=by
 show ZM _ (fun r rhs=>rhs=some ((ZbK t0 t1 t2 t3 b c m0_0 m1_0 m1_1 m1_2 m1_3 m1_4 m1_5) r)) _
 unfold ZN
 rw[Zff ctx 130 Zwu _ _ rfl rfl]
 conv=>arg 3;whnf
 refine Zc _ (Zdl _) fun r4 hr4=>?_;conv=>arg 3;whnf
 exact Zd rfl
def Zbf (t0:Bool) (t1:Bool) (t2:Bool) (t3:Bool) (b:Int) (c:Int) (m0_0:(List Int)) (m1_0:Int) (m1_1:Int) (m1_2:(List ZV)) (m1_3:(List Zm)) (m1_4:(List Zi)) (m1_5:(List Zs)):((List Int)⊕(List Int))→V×Zo
  | (.inl r)=>((.d (D.bool true)),[(.arr 1 (List.map Zb r)),(.cells [(.d (Zb m1_0)),(.d (Zb m1_1)),(.d (D.list t0 (List.map Z2 m1_2))),(.d (D.list t1 (List.map ZD m1_3))),(.d (D.list t2 (List.map Zq m1_4))),(.d (D.list t3 (List.map Zv m1_5)))])])
  | (.inr r)=>((.d (D.bool false)),[(.arr 1 (List.map Zb r)),(.cells [(.d (Zb m1_0)),(.d (Zb m1_1)),(.d (D.list t0 (List.map Z2 m1_2))),(.d (D.list t1 (List.map ZD m1_3))),(.d (D.list t2 (List.map Zq m1_4))),(.d (D.list t3 (List.map Zv m1_5)))])])
def Zba (t0:Bool) (t1:Bool) (t2:Bool) (t3:Bool) (b:Int) (c:Int) (m1_0:Int) (m1_1:Int) (m1_2:(List ZV)) (m1_3:(List Zm)) (m1_4:(List Zi)) (m1_5:(List Zs)) (s0:Int×Int×(List Int)):Int→Ex×List V×Zo
  | r=>(.exit 2,[(.sl 0 1),(.d (Zb b)),(.d (Zb c)),(.fn 118 [(.ptr 1 0)]),(.d (Zb r)),(.d (Zb s0.2.1))],[(.arr 1 (List.map Zb s0.2.2)),(.cells [(.d (Zb m1_0)),(.d (Zb m1_1)),(.d (D.list t0 (List.map Z2 m1_2))),(.d (D.list t1 (List.map ZD m1_3))),(.d (D.list t2 (List.map Zq m1_4))),(.d (D.list t3 (List.map Zv m1_5)))])])
theorem ZcG {t0:Bool}{t1:Bool}{t2:Bool}{t3:Bool}{b:Int}{c:Int}{m1_0:Int}{m1_1:Int}{m1_2:(List ZV)}{m1_3:(List Zm)}{m1_4:(List Zi)}{m1_5:(List Zs)}{s0:Int×Int×(List Int)}:∀(s1:Int) (r:Int),lp (ZL c (fun z0 z1=>Zt z0 z1 m1_4) s0) s1=some r→lpW ctx 2 [0,1,2,3,9,10] [0,1,2,3,9,10] ZtD [(.sl 0 1),(.d (Zb b)),(.d (Zb c)),(.fn 118 [(.ptr 1 0)]),(.d (Zb s1)),(.d (Zb s0.2.1))] [(.arr 1 (List.map Zb s0.2.2)),(.cells [(.d (Zb m1_0)),(.d (Zb m1_1)),(.d (D.list t0 (List.map Z2 m1_2))),(.d (D.list t1 (List.map ZD m1_3))),(.d (D.list t2 (List.map Zq m1_4))),(.d (D.list t3 (List.map Zv m1_5)))])]=some ((Zba t0 t1 t2 t3 b c m1_0 m1_1 m1_2 m1_3 m1_4 m1_5 s0) r):=by
 refine ZaG (Zba t0 t1 t2 t3 b c m1_0 m1_1 m1_2 m1_3 m1_4 m1_5 s0) ?_
 intro s1 rcl ih
 show ZM _ _ (lpW _ _ _ _ _ _ _)
 unfold ZL
 rw[ZaH]
 conv=>arg 3;whnf
 refine Zf rfl ?_ ?_<;>conv=>arg 3;whnf
 ·refine Zl rfl rfl fun x2 hx2=>?_;conv=>arg 3;whnf
  refine Zg (Zz rfl hx2) ?_;conv=>arg 3;whnf
  refine Zl rfl rfl fun x3 hx3=>?_;conv=>arg 3;whnf
  refine Zg (Zz rfl hx3) ?_;conv=>arg 3;whnf
  refine Zp _ ZG rfl fun x4 hx4=>?_;conv=>arg 3;whnf
  refine Zf rfl ?_ ?_<;>conv=>arg 3;whnf
  ·exact Zd rfl
  ·exact Ze (ih _)
 ·exact Zd rfl
def Za6 (t0:Bool) (t1:Bool) (t2:Bool) (t3:Bool) (b:Int) (c:Int) (m1_0:Int) (m1_1:Int) (m1_2:(List ZV)) (m1_3:(List Zm)) (m1_4:(List Zi)) (m1_5:(List Zs)) (s0:Int×Int×(List Int)) (r5:Int):(List Int)→Ex×List V×Zo
  | r=>(.exit 4,[(.sl 0 1),(.d (Zb b)),(.d (Zb c)),(.fn 118 [(.ptr 1 0)]),(.d (Zb r5)),(.d (Zb s0.2.1))],[(.arr 1 (List.map Zb r)),(.cells [(.d (Zb m1_0)),(.d (Zb m1_1)),(.d (D.list t0 (List.map Z2 m1_2))),(.d (D.list t1 (List.map ZD m1_3))),(.d (D.list t2 (List.map Zq m1_4))),(.d (D.list t3 (List.map Zv m1_5)))])])
theorem ZcD {t0:Bool}{t1:Bool}{t2:Bool}{t3:Bool}{b:Int}{c:Int}{m1_0:Int}{m1_1:Int}{m1_2:(List ZV)}{m1_3:(List Zm)}{m1_4:(List Zi)}{m1_5:(List Zs)}{s0:Int×Int×(List Int)}{r5:Int}:∀(s9:Int×(List Int)) (r:(List Int)),lp (ZS (fun z0 z1=>Zt z0 z1 m1_4)) s9=some r→lpW ctx 2 [0,1,2,3,9,10,11] [0,1,2,3,9,10] Zt7 [(.sl 0 1),(.d (Zb b)),(.d (Zb c)),(.fn 118 [(.ptr 1 0)]),(.d (Zb r5)),(.d (Zb s0.2.1)),(.d (Zb s9.1))] [(.arr 1 (List.map Zb s9.2)),(.cells [(.d (Zb m1_0)),(.d (Zb m1_1)),(.d (D.list t0 (List.map Z2 m1_2))),(.d (D.list t1 (List.map ZD m1_3))),(.d (D.list t2 (List.map Zq m1_4))),(.d (D.list t3 (List.map Zv m1_5)))])]=some ((Za6 t0 t1 t2 t3 b c m1_0 m1_1 m1_2 m1_3 m1_4 m1_5 s0 r5) r):=by
 refine ZaG (Za6 t0 t1 t2 t3 b c m1_0 m1_1 m1_2 m1_3 m1_4 m1_5 s0 r5) ?_
 intro s9 rcl ih
 show ZM _ _ (lpW _ _ _ _ _ _ _)
 unfold ZS
 rw[ZaH]
 conv=>arg 3;whnf
 refine Zf rfl ?_ ?_<;>conv=>arg 3;whnf
 ·refine Zl rfl rfl fun x10 hx10=>?_;conv=>arg 3;whnf
  refine Zg (Zz rfl hx10) ?_;conv=>arg 3;whnf
  refine Zl rfl rfl fun x11 hx11=>?_;conv=>arg 3;whnf
  refine Zg (Zz rfl hx11) ?_;conv=>arg 3;whnf
  refine Zp _ ZG rfl fun x12 hx12=>?_;conv=>arg 3;whnf
  refine Zf rfl ?_ ?_<;>conv=>arg 3;whnf
  ·refine Zg (Zb4 rfl hx11) ?_;conv=>arg 3;whnf
   refine Zg (Zz rfl hx11) ?_;conv=>arg 3;whnf
   refine Zg (Zb4 rfl hx10) ?_;conv=>arg 3;whnf
   refine Zg (Zz rfl hx10) ?_;conv=>arg 3;whnf
   refine Zg (Zb4 rfl hx10) ?_;conv=>arg 3;whnf
   refine Zg (Zz rfl hx10) ?_;conv=>arg 3;whnf
   refine Zn (ZaN Zb s9.2 s9.1.toNat x11) ?_;conv=>arg 3;whnf
   refine Zl rfl rfl fun x13 hx13=>?_;conv=>arg 3;whnf
   refine Zg (Zz rfl hx13) ?_;conv=>arg 3;whnf
   refine Zn (ZaN Zb (List.set s9.2 s9.1.toNat x11) (w64 (s9.1-1)).toNat x10) ?_;conv=>arg 3;whnf
   exact Ze (ih _)
  ·exact Zd rfl
 ·exact Zd rfl
def Za8 (t0:Bool) (t1:Bool) (t2:Bool) (t3:Bool) (b:Int) (c:Int) (m1_0:Int) (m1_1:Int) (m1_2:(List ZV)) (m1_3:(List Zm)) (m1_4:(List Zi)) (m1_5:(List Zs)) (s0:Int×Int×(List Int)) (r5:Int):(List Int)→Ex×List V×Zo
  | r=>(.exit 6,[(.sl 0 1),(.d (Zb b)),(.d (Zb c)),(.fn 118 [(.ptr 1 0)]),(.d (Zb r5)),(.d (Zb s0.2.1))],[(.arr 1 (List.map Zb r)),(.cells [(.d (Zb m1_0)),(.d (Zb m1_1)),(.d (D.list t0 (List.map Z2 m1_2))),(.d (D.list t1 (List.map ZD m1_3))),(.d (D.list t2 (List.map Zq m1_4))),(.d (D.list t3 (List.map Zv m1_5)))])])
theorem Za3 {t0:Bool}{t1:Bool}{t2:Bool}{t3:Bool}{b:Int}{c:Int}{m1_0:Int}{m1_1:Int}{m1_2:(List ZV)}{m1_3:(List Zm)}{m1_4:(List Zi)}{m1_5:(List Zs)}{s0:Int×Int×(List Int)}{r5:Int}:∀(s15:Int×(List Int)) (r:(List Int)),lp (ZH c (fun z0 z1=>Zt z0 z1 m1_4)) s15=some r→lpW ctx 2 [0,1,2,3,9,10,12] [0,1,2,3,9,10] Ztm [(.sl 0 1),(.d (Zb b)),(.d (Zb c)),(.fn 118 [(.ptr 1 0)]),(.d (Zb r5)),(.d (Zb s0.2.1)),(.d (Zb s15.1))] [(.arr 1 (List.map Zb s15.2)),(.cells [(.d (Zb m1_0)),(.d (Zb m1_1)),(.d (D.list t0 (List.map Z2 m1_2))),(.d (D.list t1 (List.map ZD m1_3))),(.d (D.list t2 (List.map Zq m1_4))),(.d (D.list t3 (List.map Zv m1_5)))])]=some ((Za8 t0 t1 t2 t3 b c m1_0 m1_1 m1_2 m1_3 m1_4 m1_5 s0 r5) r):=by
 refine ZaG (Za8 t0 t1 t2 t3 b c m1_0 m1_1 m1_2 m1_3 m1_4 m1_5 s0 r5) ?_
 intro s15 rcl ih
 show ZM _ _ (lpW _ _ _ _ _ _ _)
 unfold ZH
 rw[ZaH]
 conv=>arg 3;whnf
 refine Zf rfl ?_ ?_<;>conv=>arg 3;whnf
 ·refine Zl rfl rfl fun x16 hx16=>?_;conv=>arg 3;whnf
  refine Zg (Zz rfl hx16) ?_;conv=>arg 3;whnf
  refine Zl rfl rfl fun x17 hx17=>?_;conv=>arg 3;whnf
  refine Zg (Zz rfl hx17) ?_;conv=>arg 3;whnf
  refine Zp _ ZG rfl fun x18 hx18=>?_;conv=>arg 3;whnf
  refine Zf rfl ?_ ?_<;>conv=>arg 3;whnf
  ·refine Zg (Zb4 rfl hx17) ?_;conv=>arg 3;whnf
   refine Zg (Zz rfl hx17) ?_;conv=>arg 3;whnf
   refine Zg (Zb4 rfl hx16) ?_;conv=>arg 3;whnf
   refine Zg (Zz rfl hx16) ?_;conv=>arg 3;whnf
   refine Zg (Zb4 rfl hx16) ?_;conv=>arg 3;whnf
   refine Zg (Zz rfl hx16) ?_;conv=>arg 3;whnf
   refine Zn (ZaN Zb s15.2 s15.1.toNat x17) ?_;conv=>arg 3;whnf
   refine Zl rfl rfl fun x19 hx19=>?_;conv=>arg 3;whnf
   refine Zg (Zz rfl hx19) ?_;conv=>arg 3;whnf
   refine Zn (ZaN Zb (List.set s15.2 s15.1.toNat x17) (w64 (s15.1-1)).toNat x16) ?_;conv=>arg 3;whnf
   exact Ze (ih _)
  ·exact Zd rfl
 ·exact Zd rfl
def Za9 (t0:Bool) (t1:Bool) (t2:Bool) (t3:Bool) (b:Int) (c:Int) (m1_0:Int) (m1_1:Int) (m1_2:(List ZV)) (m1_3:(List Zm)) (m1_4:(List Zi)) (m1_5:(List Zs)):((List Int)⊕((List Int)⊕(List Int)))→Ex×List V×Zo
  | (.inl r)=>(.ret,[(.d (D.bool true))],[(.arr 1 (List.map Zb r)),(.cells [(.d (Zb m1_0)),(.d (Zb m1_1)),(.d (D.list t0 (List.map Z2 m1_2))),(.d (D.list t1 (List.map ZD m1_3))),(.d (D.list t2 (List.map Zq m1_4))),(.d (D.list t3 (List.map Zv m1_5)))])])
  | (.inr (.inl r))=>(.ret,[(.d (D.bool false))],[(.arr 1 (List.map Zb r)),(.cells [(.d (Zb m1_0)),(.d (Zb m1_1)),(.d (D.list t0 (List.map Z2 m1_2))),(.d (D.list t1 (List.map ZD m1_3))),(.d (D.list t2 (List.map Zq m1_4))),(.d (D.list t3 (List.map Zv m1_5)))])])
  | (.inr (.inr r))=>(.exit 0,[.bad],[(.arr 1 (List.map Zb r)),(.cells [(.d (Zb m1_0)),(.d (Zb m1_1)),(.d (D.list t0 (List.map Z2 m1_2))),(.d (D.list t1 (List.map ZD m1_3))),(.d (D.list t2 (List.map Zq m1_4))),(.d (D.list t3 (List.map Zv m1_5)))])])
theorem ZcL {t0:Bool}{t1:Bool}{t2:Bool}{t3:Bool}{b:Int}{c:Int}{m1_0:Int}{m1_1:Int}{m1_2:(List ZV)}{m1_3:(List Zm)}{m1_4:(List Zi)}{m1_5:(List Zs)}:∀(s0:Int×Int×(List Int)) (r:((List Int)⊕((List Int)⊕(List Int)))),lp (ZR b c (fun z0 z1=>Zt z0 z1 m1_4)) s0=some r→lpW ctx 2 [0,1,2,3,9,10] [8] ZtN [(.sl 0 1),(.d (Zb b)),(.d (Zb c)),(.fn 118 [(.ptr 1 0)]),(.d (Zb s0.1)),(.d (Zb s0.2.1))] [(.arr 1 (List.map Zb s0.2.2)),(.cells [(.d (Zb m1_0)),(.d (Zb m1_1)),(.d (D.list t0 (List.map Z2 m1_2))),(.d (D.list t1 (List.map ZD m1_3))),(.d (D.list t2 (List.map Zq m1_4))),(.d (D.list t3 (List.map Zv m1_5)))])]=some ((Za9 t0 t1 t2 t3 b c m1_0 m1_1 m1_2 m1_3 m1_4 m1_5) r):=by
 refine ZaG (Za9 t0 t1 t2 t3 b c m1_0 m1_1 m1_2 m1_3 m1_4 m1_5) ?_
 intro s0 rcl ih
 show ZM _ _ (lpW _ _ _ _ _ _ _)
 unfold ZR
 rw[ZaH]
 conv=>arg 3;whnf
 refine Zf rfl ?_ ?_<;>conv=>arg 3;whnf
 ·refine Zc _ (ZcG _) fun r5 hr5=>?_;conv=>arg 3;whnf
  refine Zf rfl ?_ ?_<;>conv=>arg 3;whnf
  ·exact Zd rfl
  ·refine Zf rfl ?_ ?_<;>conv=>arg 3;whnf
   ·exact Zd rfl
   ·refine Zl rfl rfl fun x6 hx6=>?_;conv=>arg 3;whnf
    refine Zg (Zz rfl hx6) ?_;conv=>arg 3;whnf
    refine Zl rfl rfl fun x7 hx7=>?_;conv=>arg 3;whnf
    refine Zg (Zz rfl hx7) ?_;conv=>arg 3;whnf
    refine Zg (Zb4 rfl hx7) ?_;conv=>arg 3;whnf
    refine Zg (Zz rfl hx7) ?_;conv=>arg 3;whnf
    refine Zn (ZaN Zb s0.2.2 r5.toNat x6) ?_;conv=>arg 3;whnf
    refine Zl rfl rfl fun x8 hx8=>?_;conv=>arg 3;whnf
    refine Zg (Zz rfl hx8) ?_;conv=>arg 3;whnf
    refine Zn (ZaN Zb (List.set s0.2.2 r5.toNat x6) (w64 (r5-1)).toNat x7) ?_;conv=>arg 3;whnf
    refine Zf rfl ?_ ?_<;>conv=>arg 3;whnf
    ·refine Zc _ (ZcD _) fun r14 hr14=>?_;conv=>arg 3;whnf
     refine Zf rfl ?_ ?_<;>conv=>arg 3;whnf
     ·refine Zc _ (Za3 _) fun r20 hr20=>?_;conv=>arg 3;whnf
      exact Ze (ih _)
     ·exact Ze (ih _)
    ·refine Zf rfl ?_ ?_<;>conv=>arg 3;whnf
     ·refine Zc _ (Za3 _) fun r26 hr26=>?_;conv=>arg 3;whnf
      exact Ze (ih _)
     ·exact Ze (ih _)
 ·exact Zd rfl
theorem Zbe {t0:Bool}{t1:Bool}{t2:Bool}{t3:Bool}{b:Int}{c:Int}{m0_0:(List Int)}{m1_0:Int}{m1_1:Int}{m1_2:(List ZV)}{m1_3:(List Zm)}{m1_4:(List Zi)}{m1_5:(List Zs)}:∀r,(ZP b c (fun z0 z1=>Zt z0 z1 m1_4) m0_0)=some r→evW ctx 131 [(.sl 0 1),(.d (Zb b)),(.d (Zb c)),(.fn 118 [(.ptr 1 0)])] [(.arr 1 (List.map Zb m0_0)),(.cells [(.d (Zb m1_0)),(.d (Zb m1_1)),(.d (D.list t0 (List.map Z2 m1_2))),(.d (D.list t1 (List.map ZD m1_3))),(.d (D.list t2 (List.map Zq m1_4))),(.d (D.list t3 (List.map Zv m1_5)))])]=some ((Zbf t0 t1 t2 t3 b c m0_0 m1_0 m1_1 m1_2 m1_3 m1_4 m1_5) r):=by
 show ZM _ (fun r rhs=>rhs=some ((Zbf t0 t1 t2 t3 b c m0_0 m1_0 m1_1 m1_2 m1_3 m1_4 m1_5) r)) _
 unfold ZP
 rw[Zff ctx 131 Zxc _ _ rfl rfl]
 conv=>arg 3;whnf
 refine Zc _ (ZcL _) fun r27 hr27=>?_
 clear hr27
 rcases r27 with r27 | (r27 | r27)
 ·conv=>arg 3;whnf
  exact Zd rfl
 ·conv=>arg 3;whnf
  exact Zd rfl
 ·conv=>arg 3;whnf
  exact Zd rfl
def Zcc (t0:Bool) (t1:Bool) (t2:Bool) (t3:Bool) (b:Int) (c:Int) (d:Int) (m0_0:(List Int)) (m1_0:Int) (m1_1:Int) (m1_2:(List ZV)) (m1_3:(List Zm)) (m1_4:(List Zi)) (m1_5:(List Zs)):((Int×(List Int))⊕(Int×(List Int)))→V×Zo
  | (.inl r)=>((.d (D.tup [(Zb r.1),(D.bool true)])),[(.arr 1 (List.map Zb r.2)),(.cells [(.d (Zb m1_0)),(.d (Zb m1_1)),(.d (D.list t0 (List.map Z2 m1_2))),(.d (D.list t1 (List.map ZD m1_3))),(.d (D.list t2 (List.map Zq m1_4))),(.d (D.list t3 (List.map Zv m1_5)))])])
  | (.inr r)=>((.d (D.tup [(Zb r.1),(D.bool false)])),[(.arr 1 (List.map Zb r.2)),(.cells [(.d (Zb m1_0)),(.d (Zb m1_1)),(.d (D.list t0 (List.map Z2 m1_2))),(.d (D.list t1 (List.map ZD m1_3))),(.d (D.list t2 (List.map Zq m1_4))),(.d (D.list t3 (List.map Zv m1_5)))])])
def ZbR (t0:Bool) (t1:Bool) (t2:Bool) (t3:Bool) (b:Int) (c:Int) (d:Int) (m0_0:(List Int)) (m1_0:Int) (m1_1:Int) (m1_2:(List ZV)) (m1_3:(List Zm)) (m1_4:(List Zi)) (m1_5:(List Zs)) (x0:Int) (x1:Int):Int→Ex×List V×Zo
  | r=>(.exit 0,[(.sl 0 1),(.d (Zb b)),(.fn 118 [(.ptr 1 0)]),(.d (Zb r)),(.d (Zb (w64 (c-1))))],[(.arr 1 (List.map Zb (List.set (List.set m0_0 b.toNat x0) d.toNat x1))),(.cells [(.d (Zb m1_0)),(.d (Zb m1_1)),(.d (D.list t0 (List.map Z2 m1_2))),(.d (D.list t1 (List.map ZD m1_3))),(.d (D.list t2 (List.map Zq m1_4))),(.d (D.list t3 (List.map Zv m1_5)))])])
theorem ZdJ {t0:Bool}{t1:Bool}{t2:Bool}{t3:Bool}{b:Int}{c:Int}{d:Int}{m0_0:(List Int)}{m1_0:Int}{m1_1:Int}{m1_2:(List ZV)}{m1_3:(List Zm)}{m1_4:(List Zi)}{m1_5:(List Zs)}{x0:Int}{x1:Int}:∀(s3:Int) (r:Int),lp (Zaz b c d m0_0 (fun z0 z1=>Zt z0 z1 m1_4) x0 x1) s3=some r→lpW ctx 2 [0,1,4,12,13] [0,1,4,12,13] ZtS [(.sl 0 1),(.d (Zb b)),(.fn 118 [(.ptr 1 0)]),(.d (Zb s3)),(.d (Zb (w64 (c-1))))] [(.arr 1 (List.map Zb (List.set (List.set m0_0 b.toNat x0) d.toNat x1))),(.cells [(.d (Zb m1_0)),(.d (Zb m1_1)),(.d (D.list t0 (List.map Z2 m1_2))),(.d (D.list t1 (List.map ZD m1_3))),(.d (D.list t2 (List.map Zq m1_4))),(.d (D.list t3 (List.map Zv m1_5)))])]=some ((ZbR t0 t1 t2 t3 b c d m0_0 m1_0 m1_1 m1_2 m1_3 m1_4 m1_5 x0 x1) r):=by
 refine ZaG (ZbR t0 t1 t2 t3 b c d m0_0 m1_0 m1_1 m1_2 m1_3 m1_4 m1_5 x0 x1) ?_
 intro s3 rcl ih
 show ZM _ _ (lpW _ _ _ _ _ _ _)
 unfold Zaz
 rw[ZaH]
 conv=>arg 3;whnf
 refine Zf rfl ?_ ?_<;>conv=>arg 3;whnf
 ·refine Zl rfl rfl fun x4 hx4=>?_;conv=>arg 3;whnf
  refine Zg (Zz rfl hx4) ?_;conv=>arg 3;whnf
  refine Zl rfl rfl fun x5 hx5=>?_;conv=>arg 3;whnf
  refine Zg (Zz rfl hx5) ?_;conv=>arg 3;whnf
  refine Zp _ ZG rfl fun x6 hx6=>?_;conv=>arg 3;whnf
  refine Zf rfl ?_ ?_<;>conv=>arg 3;whnf
  ·exact Ze (ih _)
  ·exact Zd rfl
 ·exact Zd rfl
def ZbO (t0:Bool) (t1:Bool) (t2:Bool) (t3:Bool) (b:Int) (d:Int) (m0_0:(List Int)) (m1_0:Int) (m1_1:Int) (m1_2:(List ZV)) (m1_3:(List Zm)) (m1_4:(List Zi)) (m1_5:(List Zs)) (x0:Int) (x1:Int) (r7:Int):Int→Ex×List V×Zo
  | r=>(.exit 2,[(.sl 0 1),(.d (Zb b)),(.fn 118 [(.ptr 1 0)]),(.d (Zb r7)),(.d (Zb r))],[(.arr 1 (List.map Zb (List.set (List.set m0_0 b.toNat x0) d.toNat x1))),(.cells [(.d (Zb m1_0)),(.d (Zb m1_1)),(.d (D.list t0 (List.map Z2 m1_2))),(.d (D.list t1 (List.map ZD m1_3))),(.d (D.list t2 (List.map Zq m1_4))),(.d (D.list t3 (List.map Zv m1_5)))])])
theorem ZdH {t0:Bool}{t1:Bool}{t2:Bool}{t3:Bool}{b:Int}{d:Int}{m0_0:(List Int)}{m1_0:Int}{m1_1:Int}{m1_2:(List ZV)}{m1_3:(List Zm)}{m1_4:(List Zi)}{m1_5:(List Zs)}{x0:Int}{x1:Int}{r7:Int}:∀(s8:Int) (r:Int),lp (Zay b d m0_0 (fun z0 z1=>Zt z0 z1 m1_4) x0 x1 r7) s8=some r→lpW ctx 2 [0,1,4,12,13] [0,1,4,12,13] Zt1 [(.sl 0 1),(.d (Zb b)),(.fn 118 [(.ptr 1 0)]),(.d (Zb r7)),(.d (Zb s8))] [(.arr 1 (List.map Zb (List.set (List.set m0_0 b.toNat x0) d.toNat x1))),(.cells [(.d (Zb m1_0)),(.d (Zb m1_1)),(.d (D.list t0 (List.map Z2 m1_2))),(.d (D.list t1 (List.map ZD m1_3))),(.d (D.list t2 (List.map Zq m1_4))),(.d (D.list t3 (List.map Zv m1_5)))])]=some ((ZbO t0 t1 t2 t3 b d m0_0 m1_0 m1_1 m1_2 m1_3 m1_4 m1_5 x0 x1 r7) r):=by
 refine ZaG (ZbO t0 t1 t2 t3 b d m0_0 m1_0 m1_1 m1_2 m1_3 m1_4 m1_5 x0 x1 r7) ?_
 intro s8 rcl ih
 show ZM _ _ (lpW _ _ _ _ _ _ _)
 unfold Zay
 rw[ZaH]
 conv=>arg 3;whnf
 refine Zf rfl ?_ ?_<;>conv=>arg 3;whnf
 ·refine Zl rfl rfl fun x9 hx9=>?_;conv=>arg 3;whnf
  refine Zg (Zz rfl hx9) ?_;conv=>arg 3;whnf
  refine Zl rfl rfl fun x10 hx10=>?_;conv=>arg 3;whnf
  refine Zg (Zz rfl hx10) ?_;conv=>arg 3;whnf
  refine Zp _ ZG rfl fun x11 hx11=>?_;conv=>arg 3;whnf
  refine Zf rfl ?_ ?_<;>conv=>arg 3;whnf
  ·exact Zd rfl
  ·exact Ze (ih _)
 ·exact Zd rfl
def ZbL (t0:Bool) (t1:Bool) (t2:Bool) (t3:Bool) (b:Int) (m1_0:Int) (m1_1:Int) (m1_2:(List ZV)) (m1_3:(List Zm)) (m1_4:(List Zi)) (m1_5:(List Zs)) (s19:Int×Int×(List Int)):Int→Ex×List V×Zo
  | r=>(.exit 6,[(.sl 0 1),(.d (Zb b)),(.fn 118 [(.ptr 1 0)]),(.d (Zb r)),(.d (Zb s19.2.1))],[(.arr 1 (List.map Zb s19.2.2)),(.cells [(.d (Zb m1_0)),(.d (Zb m1_1)),(.d (D.list t0 (List.map Z2 m1_2))),(.d (D.list t1 (List.map ZD m1_3))),(.d (D.list t2 (List.map Zq m1_4))),(.d (D.list t3 (List.map Zv m1_5)))])])
theorem ZdM {t0:Bool}{t1:Bool}{t2:Bool}{t3:Bool}{b:Int}{m1_0:Int}{m1_1:Int}{m1_2:(List ZV)}{m1_3:(List Zm)}{m1_4:(List Zi)}{m1_5:(List Zs)}{s19:Int×Int×(List Int)}:∀(s20:Int) (r:Int),lp (ZaA b (fun z0 z1=>Zt z0 z1 m1_4) s19) s20=some r→lpW ctx 2 [0,1,4,12,13] [0,1,4,12,13] Ztz [(.sl 0 1),(.d (Zb b)),(.fn 118 [(.ptr 1 0)]),(.d (Zb s20)),(.d (Zb s19.2.1))] [(.arr 1 (List.map Zb s19.2.2)),(.cells [(.d (Zb m1_0)),(.d (Zb m1_1)),(.d (D.list t0 (List.map Z2 m1_2))),(.d (D.list t1 (List.map ZD m1_3))),(.d (D.list t2 (List.map Zq m1_4))),(.d (D.list t3 (List.map Zv m1_5)))])]=some ((ZbL t0 t1 t2 t3 b m1_0 m1_1 m1_2 m1_3 m1_4 m1_5 s19) r):=by
 refine ZaG (ZbL t0 t1 t2 t3 b m1_0 m1_1 m1_2 m1_3 m1_4 m1_5 s19) ?_
 intro s20 rcl ih
 show ZM _ _ (lpW _ _ _ _ _ _ _)
 unfold ZaA
 rw[ZaH]
 conv=>arg 3;whnf
 refine Zf rfl ?_ ?_<;>conv=>arg 3;whnf
 ·refine Zl rfl rfl fun x21 hx21=>?_;conv=>arg 3;whnf
  refine Zg (Zz rfl hx21) ?_;conv=>arg 3;whnf
  refine Zl rfl rfl fun x22 hx22=>?_;conv=>arg 3;whnf
  refine Zg (Zz rfl hx22) ?_;conv=>arg 3;whnf
  refine Zp _ ZG rfl fun x23 hx23=>?_;conv=>arg 3;whnf
  refine Zf rfl ?_ ?_<;>conv=>arg 3;whnf
  ·exact Ze (ih _)
  ·exact Zd rfl
 ·exact Zd rfl
def ZbP (t0:Bool) (t1:Bool) (t2:Bool) (t3:Bool) (b:Int) (m1_0:Int) (m1_1:Int) (m1_2:(List ZV)) (m1_3:(List Zm)) (m1_4:(List Zi)) (m1_5:(List Zs)) (s19:Int×Int×(List Int)) (r24:Int):Int→Ex×List V×Zo
  | r=>(.exit 8,[(.sl 0 1),(.d (Zb b)),(.fn 118 [(.ptr 1 0)]),(.d (Zb r24)),(.d (Zb r))],[(.arr 1 (List.map Zb s19.2.2)),(.cells [(.d (Zb m1_0)),(.d (Zb m1_1)),(.d (D.list t0 (List.map Z2 m1_2))),(.d (D.list t1 (List.map ZD m1_3))),(.d (D.list t2 (List.map Zq m1_4))),(.d (D.list t3 (List.map Zv m1_5)))])])
theorem ZdE {t0:Bool}{t1:Bool}{t2:Bool}{t3:Bool}{b:Int}{m1_0:Int}{m1_1:Int}{m1_2:(List ZV)}{m1_3:(List Zm)}{m1_4:(List Zi)}{m1_5:(List Zs)}{s19:Int×Int×(List Int)}{r24:Int}:∀(s25:Int) (r:Int),lp (Zav b (fun z0 z1=>Zt z0 z1 m1_4) s19 r24) s25=some r→lpW ctx 2 [0,1,4,12,13] [0,1,4,12,13] Zuf [(.sl 0 1),(.d (Zb b)),(.fn 118 [(.ptr 1 0)]),(.d (Zb r24)),(.d (Zb s25))] [(.arr 1 (List.map Zb s19.2.2)),(.cells [(.d (Zb m1_0)),(.d (Zb m1_1)),(.d (D.list t0 (List.map Z2 m1_2))),(.d (D.list t1 (List.map ZD m1_3))),(.d (D.list t2 (List.map Zq m1_4))),(.d (D.list t3 (List.map Zv m1_5)))])]=some ((ZbP t0 t1 t2 t3 b m1_0 m1_1 m1_2 m1_3 m1_4 m1_5 s19 r24) r):=by
 refine ZaG (ZbP t0 t1 t2 t3 b m1_0 m1_1 m1_2 m1_3 m1_4 m1_5 s19 r24) ?_
 intro s25 rcl ih
 show ZM _ _ (lpW _ _ _ _ _ _ _)
 unfold Zav
 rw[ZaH]
 conv=>arg 3;whnf
 refine Zf rfl ?_ ?_<;>conv=>arg 3;whnf
 ·refine Zl rfl rfl fun x26 hx26=>?_;conv=>arg 3;whnf
  refine Zg (Zz rfl hx26) ?_;conv=>arg 3;whnf
  refine Zl rfl rfl fun x27 hx27=>?_;conv=>arg 3;whnf
  refine Zg (Zz rfl hx27) ?_;conv=>arg 3;whnf
  refine Zp _ ZG rfl fun x28 hx28=>?_;conv=>arg 3;whnf
  refine Zf rfl ?_ ?_<;>conv=>arg 3;whnf
  ·exact Zd rfl
  ·exact Ze (ih _)
 ·exact Zd rfl
def ZbN (t0:Bool) (t1:Bool) (t2:Bool) (t3:Bool) (b:Int) (m1_0:Int) (m1_1:Int) (m1_2:(List ZV)) (m1_3:(List Zm)) (m1_4:(List Zi)) (m1_5:(List Zs)):(Int×(List Int))→Ex×List V×Zo
  | r=>(.exit 4,[(.sl 0 1),(.d (Zb b)),(.d (Zb r.1))],[(.arr 1 (List.map Zb r.2)),(.cells [(.d (Zb m1_0)),(.d (Zb m1_1)),(.d (D.list t0 (List.map Z2 m1_2))),(.d (D.list t1 (List.map ZD m1_3))),(.d (D.list t2 (List.map Zq m1_4))),(.d (D.list t3 (List.map Zv m1_5)))])])
theorem ZdK {t0:Bool}{t1:Bool}{t2:Bool}{t3:Bool}{b:Int}{m1_0:Int}{m1_1:Int}{m1_2:(List ZV)}{m1_3:(List Zm)}{m1_4:(List Zi)}{m1_5:(List Zs)}:∀(s19:Int×Int×(List Int)) (r:(Int×(List Int))),lp (Za4 b (fun z0 z1=>Zt z0 z1 m1_4)) s19=some r→lpW ctx 2 [0,1,4,12,13] [0,1,13] Zt3 [(.sl 0 1),(.d (Zb b)),(.fn 118 [(.ptr 1 0)]),(.d (Zb s19.1)),(.d (Zb s19.2.1))] [(.arr 1 (List.map Zb s19.2.2)),(.cells [(.d (Zb m1_0)),(.d (Zb m1_1)),(.d (D.list t0 (List.map Z2 m1_2))),(.d (D.list t1 (List.map ZD m1_3))),(.d (D.list t2 (List.map Zq m1_4))),(.d (D.list t3 (List.map Zv m1_5)))])]=some ((ZbN t0 t1 t2 t3 b m1_0 m1_1 m1_2 m1_3 m1_4 m1_5) r):=by
 refine ZaG (ZbN t0 t1 t2 t3 b m1_0 m1_1 m1_2 m1_3 m1_4 m1_5) ?_
 intro s19 rcl ih
 show ZM _ _ (lpW _ _ _ _ _ _ _)
 unfold Za4
 rw[ZaH]
 conv=>arg 3;whnf
 refine Zc _ (ZdM _) fun r24 hr24=>?_;conv=>arg 3;whnf
 refine Zc _ (ZdE _) fun r29 hr29=>?_;conv=>arg 3;whnf
 refine Zf rfl ?_ ?_<;>conv=>arg 3;whnf
 ·exact Zd rfl
 ·refine Zl rfl rfl fun x30 hx30=>?_;conv=>arg 3;whnf
  refine Zg (Zz rfl hx30) ?_;conv=>arg 3;whnf
  refine Zl rfl rfl fun x31 hx31=>?_;conv=>arg 3;whnf
  refine Zg (Zz rfl hx31) ?_;conv=>arg 3;whnf
  refine Zg (Zb4 rfl hx31) ?_;conv=>arg 3;whnf
  refine Zg (Zz rfl hx31) ?_;conv=>arg 3;whnf
  refine Zn (ZaN Zb s19.2.2 r24.toNat x30) ?_;conv=>arg 3;whnf
  refine Zl rfl rfl fun x32 hx32=>?_;conv=>arg 3;whnf
  refine Zg (Zz rfl hx32) ?_;conv=>arg 3;whnf
  refine Zn (ZaN Zb (List.set s19.2.2 r24.toNat x30) r29.toNat x31) ?_;conv=>arg 3;whnf
  exact Ze (ih _)
theorem Zk {t0:Bool}{t1:Bool}{t2:Bool}{t3:Bool}{b:Int}{c:Int}{d:Int}{m0_0:(List Int)}{m1_0:Int}{m1_1:Int}{m1_2:(List ZV)}{m1_3:(List Zm)}{m1_4:(List Zi)}{m1_5:(List Zs)}:∀r,(Zr b c d (fun z0 z1=>Zt z0 z1 m1_4) m0_0)=some r→evW ctx 133 [(.sl 0 1),(.d (Zb b)),(.d (Zb c)),(.d (Zb d)),(.fn 118 [(.ptr 1 0)])] [(.arr 1 (List.map Zb m0_0)),(.cells [(.d (Zb m1_0)),(.d (Zb m1_1)),(.d (D.list t0 (List.map Z2 m1_2))),(.d (D.list t1 (List.map ZD m1_3))),(.d (D.list t2 (List.map Zq m1_4))),(.d (D.list t3 (List.map Zv m1_5)))])]=some ((Zcc t0 t1 t2 t3 b c d m0_0 m1_0 m1_1 m1_2 m1_3 m1_4 m1_5) r):=by
 show ZM _ (fun r rhs=>rhs=some ((Zcc t0 t1 t2 t3 b c d m0_0 m1_0 m1_1 m1_2 m1_3 m1_4 m1_5) r)) _
 unfold Zr
 rw[Zff ctx 133 ZvY _ _ rfl rfl]
 conv=>arg 3;whnf
 refine Zl rfl rfl fun x0 hx0=>?_;conv=>arg 3;whnf
 refine Zg (Zz rfl hx0) ?_;conv=>arg 3;whnf
 refine Zl rfl rfl fun x1 hx1=>?_;conv=>arg 3;whnf
 refine Zg (Zz rfl hx1) ?_;conv=>arg 3;whnf
 refine Zg (Zb4 rfl hx1) ?_;conv=>arg 3;whnf
 refine Zg (Zz rfl hx1) ?_;conv=>arg 3;whnf
 refine Zn (ZaN Zb m0_0 b.toNat x0) ?_;conv=>arg 3;whnf
 refine Zl rfl rfl fun x2 hx2=>?_;conv=>arg 3;whnf
 refine Zg (Zz rfl hx2) ?_;conv=>arg 3;whnf
 refine Zn (ZaN Zb (List.set m0_0 b.toNat x0) d.toNat x1) ?_;conv=>arg 3;whnf
 refine Zc _ (ZdJ _) fun r7 hr7=>?_;conv=>arg 3;whnf
 refine Zc _ (ZdH _) fun r12 hr12=>?_;conv=>arg 3;whnf
 refine Zf rfl ?_ ?_<;>conv=>arg 3;whnf
 ·refine Zl rfl rfl fun x13 hx13=>?_;conv=>arg 3;whnf
  refine Zg (Zz rfl hx13) ?_;conv=>arg 3;whnf
  refine Zl rfl rfl fun x14 hx14=>?_;conv=>arg 3;whnf
  refine Zg (Zz rfl hx14) ?_;conv=>arg 3;whnf
  refine Zg (Zb4 rfl hx14) ?_;conv=>arg 3;whnf
  refine Zg (Zz rfl hx14) ?_;conv=>arg 3;whnf
  refine Zn (ZaN Zb (List.set (List.set m0_0 b.toNat x0) d.toNat x1) r12.toNat x13) ?_;conv=>arg 3;whnf
  refine Zl rfl rfl fun x15 hx15=>?_;conv=>arg 3;whnf
  refine Zg (Zz rfl hx15) ?_;conv=>arg 3;whnf
  refine Zn (ZaN Zb (List.set (List.set (List.set m0_0 b.toNat x0) d.toNat x1) r12.toNat x13) b.toNat x14) ?_;conv=>arg 3;whnf
  exact Zd rfl
 ·refine Zl rfl rfl fun x16 hx16=>?_;conv=>arg 3;whnf
  refine Zg (Zz rfl hx16) ?_;conv=>arg 3;whnf
  refine Zl rfl rfl fun x17 hx17=>?_;conv=>arg 3;whnf
  refine Zg (Zz rfl hx17) ?_;conv=>arg 3;whnf
  refine Zg (Zb4 rfl hx17) ?_;conv=>arg 3;whnf
  refine Zg (Zz rfl hx17) ?_;conv=>arg 3;whnf
  refine Zn (ZaN Zb (List.set (List.set m0_0 b.toNat x0) d.toNat x1) r7.toNat x16) ?_;conv=>arg 3;whnf
  refine Zl rfl rfl fun x18 hx18=>?_;conv=>arg 3;whnf
  refine Zg (Zz rfl hx18) ?_;conv=>arg 3;whnf
  refine Zn (ZaN Zb (List.set (List.set (List.set m0_0 b.toNat x0) d.toNat x1) r7.toNat x16) r12.toNat x17) ?_;conv=>arg 3;whnf
  refine Zc _ (ZdK _) fun r33 hr33=>?_;conv=>arg 3;whnf
  refine Zl rfl rfl fun x34 hx34=>?_;conv=>arg 3;whnf
  refine Zg (Zz rfl hx34) ?_;conv=>arg 3;whnf
  refine Zl rfl rfl fun x35 hx35=>?_;conv=>arg 3;whnf
  refine Zg (Zz rfl hx35) ?_;conv=>arg 3;whnf
  refine Zg (Zb4 rfl hx35) ?_;conv=>arg 3;whnf
  refine Zg (Zz rfl hx35) ?_;conv=>arg 3;whnf
  refine Zn (ZaN Zb r33.2 r33.1.toNat x34) ?_;conv=>arg 3;whnf
  refine Zl rfl rfl fun x36 hx36=>?_;conv=>arg 3;whnf
  refine Zg (Zz rfl hx36) ?_;conv=>arg 3;whnf
  refine Zn (ZaN Zb (List.set r33.2 r33.1.toNat x34) b.toNat x35) ?_;conv=>arg 3;whnf
  exact Zd rfl
def ZbE (t0:Bool) (t1:Bool) (t2:Bool) (t3:Bool) (b:Int) (c:Int) (d:Int) (m0_0:(List Int)) (m1_0:Int) (m1_1:Int) (m1_2:(List ZV)) (m1_3:(List Zm)) (m1_4:(List Zi)) (m1_5:(List Zs)):(Int×(List Int))→V×Zo
  | r=>((.d (Zb r.1)),[(.arr 1 (List.map Zb r.2)),(.cells [(.d (Zb m1_0)),(.d (Zb m1_1)),(.d (D.list t0 (List.map Z2 m1_2))),(.d (D.list t1 (List.map ZD m1_3))),(.d (D.list t2 (List.map Zq m1_4))),(.d (D.list t3 (List.map Zv m1_5)))])])
def Zbn (t0:Bool) (t1:Bool) (t2:Bool) (t3:Bool) (b:Int) (m1_0:Int) (m1_1:Int) (m1_2:(List ZV)) (m1_3:(List Zm)) (m1_4:(List Zi)) (m1_5:(List Zs)) (s3:Int×Int×(List Int)):Int→Ex×List V×Zo
  | r=>(.exit 2,[(.sl 0 1),(.d (Zb b)),(.fn 118 [(.ptr 1 0)]),(.d (Zb r)),(.d (Zb s3.2.1))],[(.arr 1 (List.map Zb s3.2.2)),(.cells [(.d (Zb m1_0)),(.d (Zb m1_1)),(.d (D.list t0 (List.map Z2 m1_2))),(.d (D.list t1 (List.map ZD m1_3))),(.d (D.list t2 (List.map Zq m1_4))),(.d (D.list t3 (List.map Zv m1_5)))])])
theorem Zc6 {t0:Bool}{t1:Bool}{t2:Bool}{t3:Bool}{b:Int}{m1_0:Int}{m1_1:Int}{m1_2:(List ZV)}{m1_3:(List Zm)}{m1_4:(List Zi)}{m1_5:(List Zs)}{s3:Int×Int×(List Int)}:∀(s4:Int) (r:Int),lp (Zaf b (fun z0 z1=>Zt z0 z1 m1_4) s3) s4=some r→lpW ctx 2 [0,1,4,11,12] [0,1,4,11,12] ZtP [(.sl 0 1),(.d (Zb b)),(.fn 118 [(.ptr 1 0)]),(.d (Zb s4)),(.d (Zb s3.2.1))] [(.arr 1 (List.map Zb s3.2.2)),(.cells [(.d (Zb m1_0)),(.d (Zb m1_1)),(.d (D.list t0 (List.map Z2 m1_2))),(.d (D.list t1 (List.map ZD m1_3))),(.d (D.list t2 (List.map Zq m1_4))),(.d (D.list t3 (List.map Zv m1_5)))])]=some ((Zbn t0 t1 t2 t3 b m1_0 m1_1 m1_2 m1_3 m1_4 m1_5 s3) r):=by
 refine ZaG (Zbn t0 t1 t2 t3 b m1_0 m1_1 m1_2 m1_3 m1_4 m1_5 s3) ?_
 intro s4 rcl ih
 show ZM _ _ (lpW _ _ _ _ _ _ _)
 unfold Zaf
 rw[ZaH]
 conv=>arg 3;whnf
 refine Zf rfl ?_ ?_<;>conv=>arg 3;whnf
 ·refine Zl rfl rfl fun x5 hx5=>?_;conv=>arg 3;whnf
  refine Zg (Zz rfl hx5) ?_;conv=>arg 3;whnf
  refine Zl rfl rfl fun x6 hx6=>?_;conv=>arg 3;whnf
  refine Zg (Zz rfl hx6) ?_;conv=>arg 3;whnf
  refine Zp _ ZG rfl fun x7 hx7=>?_;conv=>arg 3;whnf
  refine Zf rfl ?_ ?_<;>conv=>arg 3;whnf
  ·exact Zd rfl
  ·exact Ze (ih _)
 ·exact Zd rfl
def Zbo (t0:Bool) (t1:Bool) (t2:Bool) (t3:Bool) (b:Int) (m1_0:Int) (m1_1:Int) (m1_2:(List ZV)) (m1_3:(List Zm)) (m1_4:(List Zi)) (m1_5:(List Zs)) (s3:Int×Int×(List Int)) (r8:Int):Int→Ex×List V×Zo
  | r=>(.exit 4,[(.sl 0 1),(.d (Zb b)),(.fn 118 [(.ptr 1 0)]),(.d (Zb r8)),(.d (Zb r))],[(.arr 1 (List.map Zb s3.2.2)),(.cells [(.d (Zb m1_0)),(.d (Zb m1_1)),(.d (D.list t0 (List.map Z2 m1_2))),(.d (D.list t1 (List.map ZD m1_3))),(.d (D.list t2 (List.map Zq m1_4))),(.d (D.list t3 (List.map Zv m1_5)))])])
theorem Zdc {t0:Bool}{t1:Bool}{t2:Bool}{t3:Bool}{b:Int}{m1_0:Int}{m1_1:Int}{m1_2:(List ZV)}{m1_3:(List Zm)}{m1_4:(List Zi)}{m1_5:(List Zs)}{s3:Int×Int×(List Int)}{r8:Int}:∀(s9:Int) (r:Int),lp (Zag b (fun z0 z1=>Zt z0 z1 m1_4) s3 r8) s9=some r→lpW ctx 2 [0,1,4,11,12] [0,1,4,11,12] Zto [(.sl 0 1),(.d (Zb b)),(.fn 118 [(.ptr 1 0)]),(.d (Zb r8)),(.d (Zb s9))] [(.arr 1 (List.map Zb s3.2.2)),(.cells [(.d (Zb m1_0)),(.d (Zb m1_1)),(.d (D.list t0 (List.map Z2 m1_2))),(.d (D.list t1 (List.map ZD m1_3))),(.d (D.list t2 (List.map Zq m1_4))),(.d (D.list t3 (List.map Zv m1_5)))])]=some ((Zbo t0 t1 t2 t3 b m1_0 m1_1 m1_2 m1_3 m1_4 m1_5 s3 r8) r):=by
 refine ZaG (Zbo t0 t1 t2 t3 b m1_0 m1_1 m1_2 m1_3 m1_4 m1_5 s3 r8) ?_
 intro s9 rcl ih
 show ZM _ _ (lpW _ _ _ _ _ _ _)
 unfold Zag
 rw[ZaH]
 conv=>arg 3;whnf
 refine Zf rfl ?_ ?_<;>conv=>arg 3;whnf
 ·refine Zl rfl rfl fun x10 hx10=>?_;conv=>arg 3;whnf
  refine Zg (Zz rfl hx10) ?_;conv=>arg 3;whnf
  refine Zl rfl rfl fun x11 hx11=>?_;conv=>arg 3;whnf
  refine Zg (Zz rfl hx11) ?_;conv=>arg 3;whnf
  refine Zp _ ZG rfl fun x12 hx12=>?_;conv=>arg 3;whnf
  refine Zf rfl ?_ ?_<;>conv=>arg 3;whnf
  ·exact Ze (ih _)
  ·exact Zd rfl
 ·exact Zd rfl
def Zbm (t0:Bool) (t1:Bool) (t2:Bool) (t3:Bool) (b:Int) (m1_0:Int) (m1_1:Int) (m1_2:(List ZV)) (m1_3:(List Zm)) (m1_4:(List Zi)) (m1_5:(List Zs)):(Int×(List Int))→Ex×List V×Zo
  | r=>(.exit 0,[(.d (Zb r.1))],[(.arr 1 (List.map Zb r.2)),(.cells [(.d (Zb m1_0)),(.d (Zb m1_1)),(.d (D.list t0 (List.map Z2 m1_2))),(.d (D.list t1 (List.map ZD m1_3))),(.d (D.list t2 (List.map Zq m1_4))),(.d (D.list t3 (List.map Zv m1_5)))])])
theorem Zc7 {t0:Bool}{t1:Bool}{t2:Bool}{t3:Bool}{b:Int}{m1_0:Int}{m1_1:Int}{m1_2:(List ZV)}{m1_3:(List Zm)}{m1_4:(List Zi)}{m1_5:(List Zs)}:∀(s3:Int×Int×(List Int)) (r:(Int×(List Int))),lp (Zaw b (fun z0 z1=>Zt z0 z1 m1_4)) s3=some r→lpW ctx 2 [0,1,4,11,12] [11] Zt9 [(.sl 0 1),(.d (Zb b)),(.fn 118 [(.ptr 1 0)]),(.d (Zb s3.1)),(.d (Zb s3.2.1))] [(.arr 1 (List.map Zb s3.2.2)),(.cells [(.d (Zb m1_0)),(.d (Zb m1_1)),(.d (D.list t0 (List.map Z2 m1_2))),(.d (D.list t1 (List.map ZD m1_3))),(.d (D.list t2 (List.map Zq m1_4))),(.d (D.list t3 (List.map Zv m1_5)))])]=some ((Zbm t0 t1 t2 t3 b m1_0 m1_1 m1_2 m1_3 m1_4 m1_5) r):=by
 refine ZaG (Zbm t0 t1 t2 t3 b m1_0 m1_1 m1_2 m1_3 m1_4 m1_5) ?_
 intro s3 rcl ih
 show ZM _ _ (lpW _ _ _ _ _ _ _)
 unfold Zaw
 rw[ZaH]
 conv=>arg 3;whnf
 refine Zc _ (Zc6 _) fun r8 hr8=>?_;conv=>arg 3;whnf
 refine Zc _ (Zdc _) fun r13 hr13=>?_;conv=>arg 3;whnf
 refine Zf rfl ?_ ?_<;>conv=>arg 3;whnf
 ·exact Zd rfl
 ·refine Zl rfl rfl fun x14 hx14=>?_;conv=>arg 3;whnf
  refine Zg (Zz rfl hx14) ?_;conv=>arg 3;whnf
  refine Zl rfl rfl fun x15 hx15=>?_;conv=>arg 3;whnf
  refine Zg (Zz rfl hx15) ?_;conv=>arg 3;whnf
  refine Zg (Zb4 rfl hx15) ?_;conv=>arg 3;whnf
  refine Zg (Zz rfl hx15) ?_;conv=>arg 3;whnf
  refine Zn (ZaN Zb s3.2.2 r8.toNat x14) ?_;conv=>arg 3;whnf
  refine Zl rfl rfl fun x16 hx16=>?_;conv=>arg 3;whnf
  refine Zg (Zz rfl hx16) ?_;conv=>arg 3;whnf
  refine Zn (ZaN Zb (List.set s3.2.2 r8.toNat x14) r13.toNat x15) ?_;conv=>arg 3;whnf
  exact Ze (ih _)
theorem Zy {t0:Bool}{t1:Bool}{t2:Bool}{t3:Bool}{b:Int}{c:Int}{d:Int}{m0_0:(List Int)}{m1_0:Int}{m1_1:Int}{m1_2:(List ZV)}{m1_3:(List Zm)}{m1_4:(List Zi)}{m1_5:(List Zs)}:∀r,(ZC b c d (fun z0 z1=>Zt z0 z1 m1_4) m0_0)=some r→evW ctx 132 [(.sl 0 1),(.d (Zb b)),(.d (Zb c)),(.d (Zb d)),(.fn 118 [(.ptr 1 0)])] [(.arr 1 (List.map Zb m0_0)),(.cells [(.d (Zb m1_0)),(.d (Zb m1_1)),(.d (D.list t0 (List.map Z2 m1_2))),(.d (D.list t1 (List.map ZD m1_3))),(.d (D.list t2 (List.map Zq m1_4))),(.d (D.list t3 (List.map Zv m1_5)))])]=some ((ZbE t0 t1 t2 t3 b c d m0_0 m1_0 m1_1 m1_2 m1_3 m1_4 m1_5) r):=by
 show ZM _ (fun r rhs=>rhs=some ((ZbE t0 t1 t2 t3 b c d m0_0 m1_0 m1_1 m1_2 m1_3 m1_4 m1_5) r)) _
 unfold ZC
 rw[Zff ctx 132 Zxg _ _ rfl rfl]
 conv=>arg 3;whnf
 refine Zl rfl rfl fun x0 hx0=>?_;conv=>arg 3;whnf
 refine Zg (Zz rfl hx0) ?_;conv=>arg 3;whnf
 refine Zl rfl rfl fun x1 hx1=>?_;conv=>arg 3;whnf
 refine Zg (Zz rfl hx1) ?_;conv=>arg 3;whnf
 refine Zg (Zb4 rfl hx1) ?_;conv=>arg 3;whnf
 refine Zg (Zz rfl hx1) ?_;conv=>arg 3;whnf
 refine Zn (ZaN Zb m0_0 b.toNat x0) ?_;conv=>arg 3;whnf
 refine Zl rfl rfl fun x2 hx2=>?_;conv=>arg 3;whnf
 refine Zg (Zz rfl hx2) ?_;conv=>arg 3;whnf
 refine Zn (ZaN Zb (List.set m0_0 b.toNat x0) d.toNat x1) ?_;conv=>arg 3;whnf
 refine Zc _ (Zc7 _) fun r17 hr17=>?_;conv=>arg 3;whnf
 exact Zd rfl
def ZfA (r:Int):D:=(D.int .u64 r)
theorem ZhP {a:Int}:∀r,(Zcs a)=some r→evD ctx 137 [(.d (Zb a))]=some (ZfA r):=by
 show ZM _ (fun r rhs=>rhs=some (ZfA r)) _
 unfold Zcs
 rw[Za1 ctx 137 Zvt _ rfl rfl]
 conv=>arg 3;whnf
 refine Zp _ Zh1 rfl fun x0 hx0=>?_;conv=>arg 3;whnf
 refine Zf rfl ?_ ?_
 ·exact Zaj
 ·conv=>arg 3;whnf
  exact Zd rfl
def ZfK (m0_0:Int):Unit→V×Zo
  | r=>((.d (D.int .u64 (IntKind.u64.wrap (BitVec.ofInt IntKind.u64.bits (IntKind.u64.wrap (BitVec.ofInt IntKind.u64.bits (IntKind.u64.wrap (BitVec.ofInt IntKind.u64.bits m0_0 ^^^ BitVec.ofInt IntKind.u64.bits (IntKind.u64.wrap (m0_0*2 ^ 13))).toNat) ^^^ BitVec.ofInt IntKind.u64.bits (Int.fdiv (IntKind.u64.wrap (BitVec.ofInt IntKind.u64.bits m0_0 ^^^ BitVec.ofInt IntKind.u64.bits (IntKind.u64.wrap (m0_0*2 ^ 13))).toNat) (2 ^ 7))).toNat) ^^^ BitVec.ofInt IntKind.u64.bits (IntKind.u64.wrap ((IntKind.u64.wrap (BitVec.ofInt IntKind.u64.bits (IntKind.u64.wrap (BitVec.ofInt IntKind.u64.bits m0_0 ^^^ BitVec.ofInt IntKind.u64.bits (IntKind.u64.wrap (m0_0*2 ^ 13))).toNat) ^^^ BitVec.ofInt IntKind.u64.bits (Int.fdiv (IntKind.u64.wrap (BitVec.ofInt IntKind.u64.bits m0_0 ^^^ BitVec.ofInt IntKind.u64.bits (IntKind.u64.wrap (m0_0*2 ^ 13))).toNat) (2 ^ 7))).toNat)*2 ^ 17))).toNat))),[(.cells [(.d (D.int .u64 (IntKind.u64.wrap (BitVec.ofInt IntKind.u64.bits (IntKind.u64.wrap (BitVec.ofInt IntKind.u64.bits (IntKind.u64.wrap (BitVec.ofInt IntKind.u64.bits m0_0 ^^^ BitVec.ofInt IntKind.u64.bits (IntKind.u64.wrap (m0_0*2 ^ 13))).toNat) ^^^ BitVec.ofInt IntKind.u64.bits (Int.fdiv (IntKind.u64.wrap (BitVec.ofInt IntKind.u64.bits m0_0 ^^^ BitVec.ofInt IntKind.u64.bits (IntKind.u64.wrap (m0_0*2 ^ 13))).toNat) (2 ^ 7))).toNat) ^^^ BitVec.ofInt IntKind.u64.bits (IntKind.u64.wrap ((IntKind.u64.wrap (BitVec.ofInt IntKind.u64.bits (IntKind.u64.wrap (BitVec.ofInt IntKind.u64.bits m0_0 ^^^ BitVec.ofInt IntKind.u64.bits (IntKind.u64.wrap (m0_0*2 ^ 13))).toNat) ^^^ BitVec.ofInt IntKind.u64.bits (Int.fdiv (IntKind.u64.wrap (BitVec.ofInt IntKind.u64.bits m0_0 ^^^ BitVec.ofInt IntKind.u64.bits (IntKind.u64.wrap (m0_0*2 ^ 13))).toNat) (2 ^ 7))).toNat)*2 ^ 17))).toNat)))])])
theorem Zic {m0_0:Int}:∀r,Zdx=some r→evW ctx 138 [(.ptr 0 0)] [(.cells [(.d (D.int .u64 m0_0))])]=some ((ZfK m0_0) r):=by
 show ZM _ (fun r rhs=>rhs=some ((ZfK m0_0) r)) _
 unfold Zdx
 rw[Zff ctx 138 ZvX _ _ rfl rfl]
 conv=>arg 3;whnf
 refine Z5 rfl ?_;conv=>arg 3;whnf
 refine Z5 rfl ?_;conv=>arg 3;whnf
 refine Z5 rfl ?_;conv=>arg 3;whnf
 exact Zd rfl
def ZbH (t0:Bool) (t1:Bool) (t2:Bool) (t3:Bool) (b:Int) (c:Int) (m0_0:(List Int)) (m1_0:Int) (m1_1:Int) (m1_2:(List ZV)) (m1_3:(List Zm)) (m1_4:(List Zi)) (m1_5:(List Zs)):(List Int)→V×Zo
  | r=>((.d (D.tup [])),[(.arr 1 (List.map Zb r)),(.cells [(.d (Zb m1_0)),(.d (Zb m1_1)),(.d (D.list t0 (List.map Z2 m1_2))),(.d (D.list t1 (List.map ZD m1_3))),(.d (D.list t2 (List.map Zq m1_4))),(.d (D.list t3 (List.map Zv m1_5)))])])
def Zbq (t0:Bool) (t1:Bool) (t2:Bool) (t3:Bool) (b:Int) (c:Int) (m1_0:Int) (m1_1:Int) (m1_2:(List ZV)) (m1_3:(List Zm)) (m1_4:(List Zi)) (m1_5:(List Zs)) (x0:Int):(List Int)→Ex×List V×Zo
  | r=>(.exit 0,[],[(.arr 1 (List.map Zb r)),(.cells [(.d (Zb m1_0)),(.d (Zb m1_1)),(.d (D.list t0 (List.map Z2 m1_2))),(.d (D.list t1 (List.map ZD m1_3))),(.d (D.list t2 (List.map Zq m1_4))),(.d (D.list t3 (List.map Zv m1_5)))])])
theorem Zdg {t0:Bool}{t1:Bool}{t2:Bool}{t3:Bool}{b:Int}{c:Int}{m1_0:Int}{m1_1:Int}{m1_2:(List ZV)}{m1_3:(List Zm)}{m1_4:(List Zi)}{m1_5:(List Zs)}{x0:Int}:∀(s1:Int×(List Int)×Int) (r:(List Int)),lp (ZaI b c x0) s1=some r→lpW ctx 2 [0,1,8,9,10,11] [] Zt2 [(.sl 0 1),(.d (Zb b)),(.d (Zb (w64 (c-b)))),(.ptr 2 0),(.d (D.int .u64 x0)),(.d (Zb s1.1))] [(.arr 1 (List.map Zb s1.2.1)),(.cells [(.d (Zb m1_0)),(.d (Zb m1_1)),(.d (D.list t0 (List.map Z2 m1_2))),(.d (D.list t1 (List.map ZD m1_3))),(.d (D.list t2 (List.map Zq m1_4))),(.d (D.list t3 (List.map Zv m1_5)))]),(.cells [(.d (D.int .u64 s1.2.2))])]=some ((Zbq t0 t1 t2 t3 b c m1_0 m1_1 m1_2 m1_3 m1_4 m1_5 x0) r):=by
 refine ZaG (Zbq t0 t1 t2 t3 b c m1_0 m1_1 m1_2 m1_3 m1_4 m1_5 x0) ?_
 intro s1 rcl ih
 show ZM _ _ (lpW _ _ _ _ _ _ _)
 unfold ZaI
 rw[ZaH]
 conv=>arg 3;whnf
 refine Z5 rfl ?_;conv=>arg 3;whnf
 refine Zf rfl ?_ ?_<;>conv=>arg 3;whnf
 ·refine Zc _ Zic fun x2 hx2=>?_;conv=>arg 3;whnf
  refine Zf rfl ?_ ?_<;>conv=>arg 3;whnf
  ·refine Zl rfl rfl fun x3 hx3=>?_;conv=>arg 3;whnf
   refine Zg (Zz rfl hx3) ?_;conv=>arg 3;whnf
   refine Zl rfl rfl fun x4 hx4=>?_;conv=>arg 3;whnf
   refine Zg (Zz rfl hx4) ?_;conv=>arg 3;whnf
   refine Zg (Zb4 rfl hx4) ?_;conv=>arg 3;whnf
   refine Zg (Zz rfl hx4) ?_;conv=>arg 3;whnf
   refine Zn (ZaN Zb s1.2.1 s1.1.toNat x3) ?_;conv=>arg 3;whnf
   refine Zl rfl rfl fun x5 hx5=>?_;conv=>arg 3;whnf
   refine Zg (Zz rfl hx5) ?_;conv=>arg 3;whnf
   refine Zn (ZaN Zb (List.set s1.2.1 s1.1.toNat x3) (w64 (b+(w64 ((w64 (IntKind.u64.wrap (BitVec.ofInt IntKind.u64.bits (IntKind.u64.wrap (BitVec.ofInt IntKind.u64.bits (IntKind.u64.wrap (BitVec.ofInt IntKind.u64.bits (IntKind.u64.wrap (BitVec.ofInt IntKind.u64.bits s1.2.2 ^^^ BitVec.ofInt IntKind.u64.bits (IntKind.u64.wrap (s1.2.2*2 ^ 13))).toNat) ^^^ BitVec.ofInt IntKind.u64.bits (Int.fdiv (IntKind.u64.wrap (BitVec.ofInt IntKind.u64.bits s1.2.2 ^^^ BitVec.ofInt IntKind.u64.bits (IntKind.u64.wrap (s1.2.2*2 ^ 13))).toNat) (2 ^ 7))).toNat) ^^^ BitVec.ofInt IntKind.u64.bits (IntKind.u64.wrap ((IntKind.u64.wrap (BitVec.ofInt IntKind.u64.bits (IntKind.u64.wrap (BitVec.ofInt IntKind.u64.bits s1.2.2 ^^^ BitVec.ofInt IntKind.u64.bits (IntKind.u64.wrap (s1.2.2*2 ^ 13))).toNat) ^^^ BitVec.ofInt IntKind.u64.bits (Int.fdiv (IntKind.u64.wrap (BitVec.ofInt IntKind.u64.bits s1.2.2 ^^^ BitVec.ofInt IntKind.u64.bits (IntKind.u64.wrap (s1.2.2*2 ^ 13))).toNat) (2 ^ 7))).toNat)*2 ^ 17))).toNat) &&& BitVec.ofInt IntKind.u64.bits (IntKind.u64.wrap (x0-1))).toNat))-(w64 (c-b)))))).toNat x4) ?_;conv=>arg 3;whnf
   exact Ze (ih _)
  ·refine Zl rfl rfl fun x6 hx6=>?_;conv=>arg 3;whnf
   refine Zg (Zz rfl hx6) ?_;conv=>arg 3;whnf
   refine Zl rfl rfl fun x7 hx7=>?_;conv=>arg 3;whnf
   refine Zg (Zz rfl hx7) ?_;conv=>arg 3;whnf
   refine Zg (Zb4 rfl hx7) ?_;conv=>arg 3;whnf
   refine Zg (Zz rfl hx7) ?_;conv=>arg 3;whnf
   refine Zn (ZaN Zb s1.2.1 s1.1.toNat x6) ?_;conv=>arg 3;whnf
   refine Zl rfl rfl fun x8 hx8=>?_;conv=>arg 3;whnf
   refine Zg (Zz rfl hx8) ?_;conv=>arg 3;whnf
   refine Zn (ZaN Zb (List.set s1.2.1 s1.1.toNat x6) (w64 (b+(w64 (IntKind.u64.wrap (BitVec.ofInt IntKind.u64.bits (IntKind.u64.wrap (BitVec.ofInt IntKind.u64.bits (IntKind.u64.wrap (BitVec.ofInt IntKind.u64.bits (IntKind.u64.wrap (BitVec.ofInt IntKind.u64.bits s1.2.2 ^^^ BitVec.ofInt IntKind.u64.bits (IntKind.u64.wrap (s1.2.2*2 ^ 13))).toNat) ^^^ BitVec.ofInt IntKind.u64.bits (Int.fdiv (IntKind.u64.wrap (BitVec.ofInt IntKind.u64.bits s1.2.2 ^^^ BitVec.ofInt IntKind.u64.bits (IntKind.u64.wrap (s1.2.2*2 ^ 13))).toNat) (2 ^ 7))).toNat) ^^^ BitVec.ofInt IntKind.u64.bits (IntKind.u64.wrap ((IntKind.u64.wrap (BitVec.ofInt IntKind.u64.bits (IntKind.u64.wrap (BitVec.ofInt IntKind.u64.bits s1.2.2 ^^^ BitVec.ofInt IntKind.u64.bits (IntKind.u64.wrap (s1.2.2*2 ^ 13))).toNat) ^^^ BitVec.ofInt IntKind.u64.bits (Int.fdiv (IntKind.u64.wrap (BitVec.ofInt IntKind.u64.bits s1.2.2 ^^^ BitVec.ofInt IntKind.u64.bits (IntKind.u64.wrap (s1.2.2*2 ^ 13))).toNat) (2 ^ 7))).toNat)*2 ^ 17))).toNat) &&& BitVec.ofInt IntKind.u64.bits (IntKind.u64.wrap (x0-1))).toNat)))).toNat x7) ?_;conv=>arg 3;whnf
   exact Ze (ih _)
 ·exact Zd rfl
theorem ZbF {t0:Bool}{t1:Bool}{t2:Bool}{t3:Bool}{b:Int}{c:Int}{m0_0:(List Int)}{m1_0:Int}{m1_1:Int}{m1_2:(List ZV)}{m1_3:(List Zm)}{m1_4:(List Zi)}{m1_5:(List Zs)}:∀r,(Zad b c (fun z0 z1=>Zt z0 z1 m1_4) m0_0)=some r→evW ctx 128 [(.sl 0 1),(.d (Zb b)),(.d (Zb c)),(.fn 118 [(.ptr 1 0)])] [(.arr 1 (List.map Zb m0_0)),(.cells [(.d (Zb m1_0)),(.d (Zb m1_1)),(.d (D.list t0 (List.map Z2 m1_2))),(.d (D.list t1 (List.map ZD m1_3))),(.d (D.list t2 (List.map Zq m1_4))),(.d (D.list t3 (List.map Zv m1_5)))])]=some ((ZbH t0 t1 t2 t3 b c m0_0 m1_0 m1_1 m1_2 m1_3 m1_4 m1_5) r):=by
 show ZM _ (fun r rhs=>rhs=some ((ZbH t0 t1 t2 t3 b c m0_0 m1_0 m1_1 m1_2 m1_3 m1_4 m1_5) r)) _
 unfold Zad
 rw[Zff ctx 128 ZwC _ _ rfl rfl]
 conv=>arg 3;whnf
 refine Zf rfl ?_ ?_<;>conv=>arg 3;whnf
 ·refine Zp _ ZhP rfl fun x0 hx0=>?_;conv=>arg 3;whnf
  refine Z5 rfl ?_;conv=>arg 3;whnf
  refine Zc _ (Zdg _) fun r9 hr9=>?_;conv=>arg 3;whnf
  exact Zd rfl
 ·exact Zd rfl
def Za (t0:Bool) (t1:Bool) (t2:Bool) (t3:Bool) (b:Int) (c:Int) (d:Int) (m0_0:(List Int)) (m1_0:Int) (m1_1:Int) (m1_2:(List ZV)) (m1_3:(List Zm)) (m1_4:(List Zi)) (m1_5:(List Zs)):(List Int)→V×Zo
  | r=>((.d (D.tup [])),[(.arr 1 (List.map Zb r)),(.cells [(.d (Zb m1_0)),(.d (Zb m1_1)),(.d (D.list t0 (List.map Z2 m1_2))),(.d (D.list t1 (List.map ZD m1_3))),(.d (D.list t2 (List.map Zq m1_4))),(.d (D.list t3 (List.map Zv m1_5)))])])
def Zb7 (t0:Bool) (t1:Bool) (t2:Bool) (t3:Bool) (m1_0:Int) (m1_1:Int) (m1_2:(List ZV)) (m1_3:(List Zm)) (m1_4:(List Zi)) (m1_5:(List Zs)) (rc:Int→Int→Int→(Int→Int→Option Int)→(List Int)→Option (List Int)):(List Int)→Ex×List V×Zo
  | r=>(.ret,[],[(.arr 1 (List.map Zb r)),(.cells [(.d (Zb m1_0)),(.d (Zb m1_1)),(.d (D.list t0 (List.map Z2 m1_2))),(.d (D.list t1 (List.map ZD m1_3))),(.d (D.list t2 (List.map Zq m1_4))),(.d (D.list t3 (List.map Zv m1_5)))])])
theorem Zd2 {t0:Bool}{t1:Bool}{t2:Bool}{t3:Bool}{m1_0:Int}{m1_1:Int}{m1_2:(List ZV)}{m1_3:(List Zm)}{m1_4:(List Zi)}{m1_5:(List Zs)}{rc:Int→Int→Int→(Int→Int→Option Int)→(List Int)→Option (List Int)} (hrc:∀(t0:Bool) (t1:Bool) (t2:Bool) (t3:Bool) (b:Int) (c:Int) (d:Int) (m0_0:(List Int)) (m1_0:Int) (m1_1:Int) (m1_2:(List ZV)) (m1_3:(List Zm)) (m1_4:(List Zi)) (m1_5:(List Zs)) (r:(List Int)),rc b c d (fun z0 z1=>Zt z0 z1 m1_4) m0_0=some r→evW ctx 124 [(.sl 0 1),(.d (Zb b)),(.d (Zb c)),(.d (Zb d)),(.fn 118 [(.ptr 1 0)])] [(.arr 1 (List.map Zb m0_0)),(.cells [(.d (Zb m1_0)),(.d (Zb m1_1)),(.d (D.list t0 (List.map Z2 m1_2))),(.d (D.list t1 (List.map ZD m1_3))),(.d (D.list t2 (List.map Zq m1_4))),(.d (D.list t3 (List.map Zv m1_5)))])]=some ((Za t0 t1 t2 t3 b c d m0_0 m1_0 m1_1 m1_2 m1_3 m1_4 m1_5) r)):∀(s0:Int×Int×Int×Bool×Bool×(List Int)) (r:(List Int)),lp (ZQ (fun z0 z1=>Zt z0 z1 m1_4) rc) s0=some r→lpW ctx 2 [0,1,2,3,4,10,11] [] ZtR [(.sl 0 1),(.d (Zb s0.1)),(.d (Zb s0.2.1)),(.d (Zb s0.2.2.1)),(.fn 118 [(.ptr 1 0)]),(.d (D.bool s0.2.2.2.1)),(.d (D.bool s0.2.2.2.2.1))] [(.arr 1 (List.map Zb s0.2.2.2.2.2)),(.cells [(.d (Zb m1_0)),(.d (Zb m1_1)),(.d (D.list t0 (List.map Z2 m1_2))),(.d (D.list t1 (List.map ZD m1_3))),(.d (D.list t2 (List.map Zq m1_4))),(.d (D.list t3 (List.map Zv m1_5)))])]=some ((Zb7 t0 t1 t2 t3 m1_0 m1_1 m1_2 m1_3 m1_4 m1_5 rc) r):=by
 refine ZaG (Zb7 t0 t1 t2 t3 m1_0 m1_1 m1_2 m1_3 m1_4 m1_5 rc) ?_
 intro s0 rcl ih
 show ZM _ _ (lpW _ _ _ _ _ _ _)
 unfold ZQ
 rw[ZaH]
 rcases hb:s0.2.2.2.1 with _ | _
 ·refine Zkx ?_
  rcases hb:s0.2.2.2.2.1 with _ | _
  ·refine Zkx ?_;conv=>arg 3;whnf
   refine Zf rfl ?_ ?_<;>conv=>arg 3;whnf
   ·refine Zc _ Zaa fun x170 hx170=>?_;conv=>arg 3;whnf
    exact Zd rfl
   ·refine Zf rfl ?_ ?_<;>conv=>arg 3;whnf
    ·refine Zc _ Zar fun x171 hx171=>?_;conv=>arg 3;whnf
     exact Zd rfl
    ·refine Zc _ ZbF fun x172 hx172=>?_;conv=>arg 3;whnf
     refine Zc _ Zai fun x173 hx173=>?_;conv=>arg 3;whnf
     refine Zf rfl ?_ ?_<;>conv=>arg 3;whnf
     ·refine Zc _ Zah fun x174 hx174=>?_;conv=>arg 3;whnf
      refine Zf rfl ?_ ?_<;>conv=>arg 3;whnf
      ·refine Zl rfl rfl fun x175 hx175=>?_;conv=>arg 3;whnf
       refine Zg (Zz rfl hx175) ?_;conv=>arg 3;whnf
       refine Zl rfl rfl fun x176 hx176=>?_;conv=>arg 3;whnf
       refine Zg (Zz rfl hx176) ?_;conv=>arg 3;whnf
       refine Zp _ ZG rfl fun x177 hx177=>?_;conv=>arg 3;whnf
       refine Zf rfl ?_ ?_<;>conv=>arg 3;whnf
       ·refine Zc _ Zk fun x178 hx178=>?_
        clear hx178
        rcases x178 with x178 | x178
        ·conv=>arg 3;whnf
         refine ZaT rfl ?_;conv=>arg 3;whnf
         refine Z5 rfl ?_;conv=>arg 3;whnf
         refine Zf rfl ?_ ?_<;>conv=>arg 3;whnf
         ·refine Zf rfl ?_ ?_<;>conv=>arg 3;whnf
          ·refine Zc (Za t0 t1 t2 t3 s0.1 x178.1 (w64 (s0.2.2.1-1)) x178.2 m1_0 m1_1 m1_2 m1_3 m1_4 m1_5) (hrc t0 t1 t2 t3 s0.1 x178.1 (w64 (s0.2.2.1-1)) x178.2 m1_0 m1_1 m1_2 m1_3 m1_4 m1_5) fun x179 hx179=>?_;conv=>arg 3;whnf
           exact Ze (ih _)
          ·refine Zc (Za t0 t1 t2 t3 s0.1 x178.1 (w64 (s0.2.2.1-1)) x178.2 m1_0 m1_1 m1_2 m1_3 m1_4 m1_5) (hrc t0 t1 t2 t3 s0.1 x178.1 (w64 (s0.2.2.1-1)) x178.2 m1_0 m1_1 m1_2 m1_3 m1_4 m1_5) fun x180 hx180=>?_;conv=>arg 3;whnf
           exact Ze (ih _)
         ·refine Zf rfl ?_ ?_<;>conv=>arg 3;whnf
          ·refine Zc (Za t0 t1 t2 t3 (w64 (x178.1+1)) s0.2.1 (w64 (s0.2.2.1-1)) x178.2 m1_0 m1_1 m1_2 m1_3 m1_4 m1_5) (hrc t0 t1 t2 t3 (w64 (x178.1+1)) s0.2.1 (w64 (s0.2.2.1-1)) x178.2 m1_0 m1_1 m1_2 m1_3 m1_4 m1_5) fun x181 hx181=>?_;conv=>arg 3;whnf
           exact Ze (ih _)
          ·refine Zc (Za t0 t1 t2 t3 (w64 (x178.1+1)) s0.2.1 (w64 (s0.2.2.1-1)) x178.2 m1_0 m1_1 m1_2 m1_3 m1_4 m1_5) (hrc t0 t1 t2 t3 (w64 (x178.1+1)) s0.2.1 (w64 (s0.2.2.1-1)) x178.2 m1_0 m1_1 m1_2 m1_3 m1_4 m1_5) fun x182 hx182=>?_;conv=>arg 3;whnf
           exact Ze (ih _)
        ·conv=>arg 3;whnf
         refine Z5 rfl ?_;conv=>arg 3;whnf
         refine Z5 rfl ?_;conv=>arg 3;whnf
         refine Zf rfl ?_ ?_<;>conv=>arg 3;whnf
         ·refine Zf rfl ?_ ?_<;>conv=>arg 3;whnf
          ·refine Zc (Za t0 t1 t2 t3 s0.1 x178.1 (w64 (s0.2.2.1-1)) x178.2 m1_0 m1_1 m1_2 m1_3 m1_4 m1_5) (hrc t0 t1 t2 t3 s0.1 x178.1 (w64 (s0.2.2.1-1)) x178.2 m1_0 m1_1 m1_2 m1_3 m1_4 m1_5) fun x183 hx183=>?_;conv=>arg 3;whnf
           exact Ze (ih _)
          ·refine Zc (Za t0 t1 t2 t3 s0.1 x178.1 (w64 (s0.2.2.1-1)) x178.2 m1_0 m1_1 m1_2 m1_3 m1_4 m1_5) (hrc t0 t1 t2 t3 s0.1 x178.1 (w64 (s0.2.2.1-1)) x178.2 m1_0 m1_1 m1_2 m1_3 m1_4 m1_5) fun x184 hx184=>?_;conv=>arg 3;whnf
           exact Ze (ih _)
         ·refine Zf rfl ?_ ?_<;>conv=>arg 3;whnf
          ·refine Zc (Za t0 t1 t2 t3 (w64 (x178.1+1)) s0.2.1 (w64 (s0.2.2.1-1)) x178.2 m1_0 m1_1 m1_2 m1_3 m1_4 m1_5) (hrc t0 t1 t2 t3 (w64 (x178.1+1)) s0.2.1 (w64 (s0.2.2.1-1)) x178.2 m1_0 m1_1 m1_2 m1_3 m1_4 m1_5) fun x185 hx185=>?_;conv=>arg 3;whnf
           exact Ze (ih _)
          ·refine Zc (Za t0 t1 t2 t3 (w64 (x178.1+1)) s0.2.1 (w64 (s0.2.2.1-1)) x178.2 m1_0 m1_1 m1_2 m1_3 m1_4 m1_5) (hrc t0 t1 t2 t3 (w64 (x178.1+1)) s0.2.1 (w64 (s0.2.2.1-1)) x178.2 m1_0 m1_1 m1_2 m1_3 m1_4 m1_5) fun x186 hx186=>?_;conv=>arg 3;whnf
           exact Ze (ih _)
       ·refine Zc _ Zy fun x187 hx187=>?_;conv=>arg 3;whnf
        exact Ze (ih _)
      ·refine Zc _ Zk fun x188 hx188=>?_
       clear hx188
       rcases x188 with x188 | x188
       ·conv=>arg 3;whnf
        refine ZaT rfl ?_;conv=>arg 3;whnf
        refine Z5 rfl ?_;conv=>arg 3;whnf
        refine Zf rfl ?_ ?_<;>conv=>arg 3;whnf
        ·refine Zf rfl ?_ ?_<;>conv=>arg 3;whnf
         ·refine Zc (Za t0 t1 t2 t3 s0.1 x188.1 (w64 (s0.2.2.1-1)) x188.2 m1_0 m1_1 m1_2 m1_3 m1_4 m1_5) (hrc t0 t1 t2 t3 s0.1 x188.1 (w64 (s0.2.2.1-1)) x188.2 m1_0 m1_1 m1_2 m1_3 m1_4 m1_5) fun x189 hx189=>?_;conv=>arg 3;whnf
          exact Ze (ih _)
         ·refine Zc (Za t0 t1 t2 t3 s0.1 x188.1 (w64 (s0.2.2.1-1)) x188.2 m1_0 m1_1 m1_2 m1_3 m1_4 m1_5) (hrc t0 t1 t2 t3 s0.1 x188.1 (w64 (s0.2.2.1-1)) x188.2 m1_0 m1_1 m1_2 m1_3 m1_4 m1_5) fun x190 hx190=>?_;conv=>arg 3;whnf
          exact Ze (ih _)
        ·refine Zf rfl ?_ ?_<;>conv=>arg 3;whnf
         ·refine Zc (Za t0 t1 t2 t3 (w64 (x188.1+1)) s0.2.1 (w64 (s0.2.2.1-1)) x188.2 m1_0 m1_1 m1_2 m1_3 m1_4 m1_5) (hrc t0 t1 t2 t3 (w64 (x188.1+1)) s0.2.1 (w64 (s0.2.2.1-1)) x188.2 m1_0 m1_1 m1_2 m1_3 m1_4 m1_5) fun x191 hx191=>?_;conv=>arg 3;whnf
          exact Ze (ih _)
         ·refine Zc (Za t0 t1 t2 t3 (w64 (x188.1+1)) s0.2.1 (w64 (s0.2.2.1-1)) x188.2 m1_0 m1_1 m1_2 m1_3 m1_4 m1_5) (hrc t0 t1 t2 t3 (w64 (x188.1+1)) s0.2.1 (w64 (s0.2.2.1-1)) x188.2 m1_0 m1_1 m1_2 m1_3 m1_4 m1_5) fun x192 hx192=>?_;conv=>arg 3;whnf
          exact Ze (ih _)
       ·conv=>arg 3;whnf
        refine Z5 rfl ?_;conv=>arg 3;whnf
        refine Z5 rfl ?_;conv=>arg 3;whnf
        refine Zf rfl ?_ ?_<;>conv=>arg 3;whnf
        ·refine Zf rfl ?_ ?_<;>conv=>arg 3;whnf
         ·refine Zc (Za t0 t1 t2 t3 s0.1 x188.1 (w64 (s0.2.2.1-1)) x188.2 m1_0 m1_1 m1_2 m1_3 m1_4 m1_5) (hrc t0 t1 t2 t3 s0.1 x188.1 (w64 (s0.2.2.1-1)) x188.2 m1_0 m1_1 m1_2 m1_3 m1_4 m1_5) fun x193 hx193=>?_;conv=>arg 3;whnf
          exact Ze (ih _)
         ·refine Zc (Za t0 t1 t2 t3 s0.1 x188.1 (w64 (s0.2.2.1-1)) x188.2 m1_0 m1_1 m1_2 m1_3 m1_4 m1_5) (hrc t0 t1 t2 t3 s0.1 x188.1 (w64 (s0.2.2.1-1)) x188.2 m1_0 m1_1 m1_2 m1_3 m1_4 m1_5) fun x194 hx194=>?_;conv=>arg 3;whnf
          exact Ze (ih _)
        ·refine Zf rfl ?_ ?_<;>conv=>arg 3;whnf
         ·refine Zc (Za t0 t1 t2 t3 (w64 (x188.1+1)) s0.2.1 (w64 (s0.2.2.1-1)) x188.2 m1_0 m1_1 m1_2 m1_3 m1_4 m1_5) (hrc t0 t1 t2 t3 (w64 (x188.1+1)) s0.2.1 (w64 (s0.2.2.1-1)) x188.2 m1_0 m1_1 m1_2 m1_3 m1_4 m1_5) fun x195 hx195=>?_;conv=>arg 3;whnf
          exact Ze (ih _)
         ·refine Zc (Za t0 t1 t2 t3 (w64 (x188.1+1)) s0.2.1 (w64 (s0.2.2.1-1)) x188.2 m1_0 m1_1 m1_2 m1_3 m1_4 m1_5) (hrc t0 t1 t2 t3 (w64 (x188.1+1)) s0.2.1 (w64 (s0.2.2.1-1)) x188.2 m1_0 m1_1 m1_2 m1_3 m1_4 m1_5) fun x196 hx196=>?_;conv=>arg 3;whnf
          exact Ze (ih _)
     ·refine Zf rfl ?_ ?_<;>conv=>arg 3;whnf
      ·refine Zl rfl rfl fun x197 hx197=>?_;conv=>arg 3;whnf
       refine Zg (Zz rfl hx197) ?_;conv=>arg 3;whnf
       refine Zl rfl rfl fun x198 hx198=>?_;conv=>arg 3;whnf
       refine Zg (Zz rfl hx198) ?_;conv=>arg 3;whnf
       refine Zp _ ZG rfl fun x199 hx199=>?_;conv=>arg 3;whnf
       refine Zf rfl ?_ ?_<;>conv=>arg 3;whnf
       ·refine Zc _ Zk fun x200 hx200=>?_
        clear hx200
        rcases x200 with x200 | x200
        ·conv=>arg 3;whnf
         refine ZaT rfl ?_;conv=>arg 3;whnf
         refine Z5 rfl ?_;conv=>arg 3;whnf
         refine Zf rfl ?_ ?_<;>conv=>arg 3;whnf
         ·refine Zf rfl ?_ ?_<;>conv=>arg 3;whnf
          ·refine Zc (Za t0 t1 t2 t3 s0.1 x200.1 (w64 (s0.2.2.1-1)) x200.2 m1_0 m1_1 m1_2 m1_3 m1_4 m1_5) (hrc t0 t1 t2 t3 s0.1 x200.1 (w64 (s0.2.2.1-1)) x200.2 m1_0 m1_1 m1_2 m1_3 m1_4 m1_5) fun x201 hx201=>?_;conv=>arg 3;whnf
           exact Ze (ih _)
          ·refine Zc (Za t0 t1 t2 t3 s0.1 x200.1 (w64 (s0.2.2.1-1)) x200.2 m1_0 m1_1 m1_2 m1_3 m1_4 m1_5) (hrc t0 t1 t2 t3 s0.1 x200.1 (w64 (s0.2.2.1-1)) x200.2 m1_0 m1_1 m1_2 m1_3 m1_4 m1_5) fun x202 hx202=>?_;conv=>arg 3;whnf
           exact Ze (ih _)
         ·refine Zf rfl ?_ ?_<;>conv=>arg 3;whnf
          ·refine Zc (Za t0 t1 t2 t3 (w64 (x200.1+1)) s0.2.1 (w64 (s0.2.2.1-1)) x200.2 m1_0 m1_1 m1_2 m1_3 m1_4 m1_5) (hrc t0 t1 t2 t3 (w64 (x200.1+1)) s0.2.1 (w64 (s0.2.2.1-1)) x200.2 m1_0 m1_1 m1_2 m1_3 m1_4 m1_5) fun x203 hx203=>?_;conv=>arg 3;whnf
           exact Ze (ih _)
          ·refine Zc (Za t0 t1 t2 t3 (w64 (x200.1+1)) s0.2.1 (w64 (s0.2.2.1-1)) x200.2 m1_0 m1_1 m1_2 m1_3 m1_4 m1_5) (hrc t0 t1 t2 t3 (w64 (x200.1+1)) s0.2.1 (w64 (s0.2.2.1-1)) x200.2 m1_0 m1_1 m1_2 m1_3 m1_4 m1_5) fun x204 hx204=>?_;conv=>arg 3;whnf
           exact Ze (ih _)
        ·conv=>arg 3;whnf
         refine Z5 rfl ?_;conv=>arg 3;whnf
         refine Z5 rfl ?_;conv=>arg 3;whnf
         refine Zf rfl ?_ ?_<;>conv=>arg 3;whnf
         ·refine Zf rfl ?_ ?_<;>conv=>arg 3;whnf
          ·refine Zc (Za t0 t1 t2 t3 s0.1 x200.1 (w64 (s0.2.2.1-1)) x200.2 m1_0 m1_1 m1_2 m1_3 m1_4 m1_5) (hrc t0 t1 t2 t3 s0.1 x200.1 (w64 (s0.2.2.1-1)) x200.2 m1_0 m1_1 m1_2 m1_3 m1_4 m1_5) fun x205 hx205=>?_;conv=>arg 3;whnf
           exact Ze (ih _)
          ·refine Zc (Za t0 t1 t2 t3 s0.1 x200.1 (w64 (s0.2.2.1-1)) x200.2 m1_0 m1_1 m1_2 m1_3 m1_4 m1_5) (hrc t0 t1 t2 t3 s0.1 x200.1 (w64 (s0.2.2.1-1)) x200.2 m1_0 m1_1 m1_2 m1_3 m1_4 m1_5) fun x206 hx206=>?_;conv=>arg 3;whnf
           exact Ze (ih _)
         ·refine Zf rfl ?_ ?_<;>conv=>arg 3;whnf
          ·refine Zc (Za t0 t1 t2 t3 (w64 (x200.1+1)) s0.2.1 (w64 (s0.2.2.1-1)) x200.2 m1_0 m1_1 m1_2 m1_3 m1_4 m1_5) (hrc t0 t1 t2 t3 (w64 (x200.1+1)) s0.2.1 (w64 (s0.2.2.1-1)) x200.2 m1_0 m1_1 m1_2 m1_3 m1_4 m1_5) fun x207 hx207=>?_;conv=>arg 3;whnf
           exact Ze (ih _)
          ·refine Zc (Za t0 t1 t2 t3 (w64 (x200.1+1)) s0.2.1 (w64 (s0.2.2.1-1)) x200.2 m1_0 m1_1 m1_2 m1_3 m1_4 m1_5) (hrc t0 t1 t2 t3 (w64 (x200.1+1)) s0.2.1 (w64 (s0.2.2.1-1)) x200.2 m1_0 m1_1 m1_2 m1_3 m1_4 m1_5) fun x208 hx208=>?_;conv=>arg 3;whnf
           exact Ze (ih _)
       ·refine Zc _ Zy fun x209 hx209=>?_;conv=>arg 3;whnf
        exact Ze (ih _)
      ·refine Zc _ Zk fun x210 hx210=>?_
       clear hx210
       rcases x210 with x210 | x210
       ·conv=>arg 3;whnf
        refine ZaT rfl ?_;conv=>arg 3;whnf
        refine Z5 rfl ?_;conv=>arg 3;whnf
        refine Zf rfl ?_ ?_<;>conv=>arg 3;whnf
        ·refine Zf rfl ?_ ?_<;>conv=>arg 3;whnf
         ·refine Zc (Za t0 t1 t2 t3 s0.1 x210.1 (w64 (s0.2.2.1-1)) x210.2 m1_0 m1_1 m1_2 m1_3 m1_4 m1_5) (hrc t0 t1 t2 t3 s0.1 x210.1 (w64 (s0.2.2.1-1)) x210.2 m1_0 m1_1 m1_2 m1_3 m1_4 m1_5) fun x211 hx211=>?_;conv=>arg 3;whnf
          exact Ze (ih _)
         ·refine Zc (Za t0 t1 t2 t3 s0.1 x210.1 (w64 (s0.2.2.1-1)) x210.2 m1_0 m1_1 m1_2 m1_3 m1_4 m1_5) (hrc t0 t1 t2 t3 s0.1 x210.1 (w64 (s0.2.2.1-1)) x210.2 m1_0 m1_1 m1_2 m1_3 m1_4 m1_5) fun x212 hx212=>?_;conv=>arg 3;whnf
          exact Ze (ih _)
        ·refine Zf rfl ?_ ?_<;>conv=>arg 3;whnf
         ·refine Zc (Za t0 t1 t2 t3 (w64 (x210.1+1)) s0.2.1 (w64 (s0.2.2.1-1)) x210.2 m1_0 m1_1 m1_2 m1_3 m1_4 m1_5) (hrc t0 t1 t2 t3 (w64 (x210.1+1)) s0.2.1 (w64 (s0.2.2.1-1)) x210.2 m1_0 m1_1 m1_2 m1_3 m1_4 m1_5) fun x213 hx213=>?_;conv=>arg 3;whnf
          exact Ze (ih _)
         ·refine Zc (Za t0 t1 t2 t3 (w64 (x210.1+1)) s0.2.1 (w64 (s0.2.2.1-1)) x210.2 m1_0 m1_1 m1_2 m1_3 m1_4 m1_5) (hrc t0 t1 t2 t3 (w64 (x210.1+1)) s0.2.1 (w64 (s0.2.2.1-1)) x210.2 m1_0 m1_1 m1_2 m1_3 m1_4 m1_5) fun x214 hx214=>?_;conv=>arg 3;whnf
          exact Ze (ih _)
       ·conv=>arg 3;whnf
        refine Z5 rfl ?_;conv=>arg 3;whnf
        refine Z5 rfl ?_;conv=>arg 3;whnf
        refine Zf rfl ?_ ?_<;>conv=>arg 3;whnf
        ·refine Zf rfl ?_ ?_<;>conv=>arg 3;whnf
         ·refine Zc (Za t0 t1 t2 t3 s0.1 x210.1 (w64 (s0.2.2.1-1)) x210.2 m1_0 m1_1 m1_2 m1_3 m1_4 m1_5) (hrc t0 t1 t2 t3 s0.1 x210.1 (w64 (s0.2.2.1-1)) x210.2 m1_0 m1_1 m1_2 m1_3 m1_4 m1_5) fun x215 hx215=>?_;conv=>arg 3;whnf
          exact Ze (ih _)
         ·refine Zc (Za t0 t1 t2 t3 s0.1 x210.1 (w64 (s0.2.2.1-1)) x210.2 m1_0 m1_1 m1_2 m1_3 m1_4 m1_5) (hrc t0 t1 t2 t3 s0.1 x210.1 (w64 (s0.2.2.1-1)) x210.2 m1_0 m1_1 m1_2 m1_3 m1_4 m1_5) fun x216 hx216=>?_;conv=>arg 3;whnf
          exact Ze (ih _)
        ·refine Zf rfl ?_ ?_<;>conv=>arg 3;whnf
         ·refine Zc (Za t0 t1 t2 t3 (w64 (x210.1+1)) s0.2.1 (w64 (s0.2.2.1-1)) x210.2 m1_0 m1_1 m1_2 m1_3 m1_4 m1_5) (hrc t0 t1 t2 t3 (w64 (x210.1+1)) s0.2.1 (w64 (s0.2.2.1-1)) x210.2 m1_0 m1_1 m1_2 m1_3 m1_4 m1_5) fun x217 hx217=>?_;conv=>arg 3;whnf
          exact Ze (ih _)
         ·refine Zc (Za t0 t1 t2 t3 (w64 (x210.1+1)) s0.2.1 (w64 (s0.2.2.1-1)) x210.2 m1_0 m1_1 m1_2 m1_3 m1_4 m1_5) (hrc t0 t1 t2 t3 (w64 (x210.1+1)) s0.2.1 (w64 (s0.2.2.1-1)) x210.2 m1_0 m1_1 m1_2 m1_3 m1_4 m1_5) fun x218 hx218=>?_;conv=>arg 3;whnf
          exact Ze (ih _)
  ·refine Zj5 ?_;conv=>arg 3;whnf
   refine Zf rfl ?_ ?_<;>conv=>arg 3;whnf
   ·refine Zc _ Zaa fun x121 hx121=>?_;conv=>arg 3;whnf
    exact Zd rfl
   ·refine Zf rfl ?_ ?_<;>conv=>arg 3;whnf
    ·refine Zc _ Zar fun x122 hx122=>?_;conv=>arg 3;whnf
     exact Zd rfl
    ·refine Zc _ ZbF fun x123 hx123=>?_;conv=>arg 3;whnf
     refine Zc _ Zai fun x124 hx124=>?_;conv=>arg 3;whnf
     refine Zf rfl ?_ ?_<;>conv=>arg 3;whnf
     ·refine Zc _ Zah fun x125 hx125=>?_;conv=>arg 3;whnf
      refine Zf rfl ?_ ?_<;>conv=>arg 3;whnf
      ·refine Zl rfl rfl fun x126 hx126=>?_;conv=>arg 3;whnf
       refine Zg (Zz rfl hx126) ?_;conv=>arg 3;whnf
       refine Zl rfl rfl fun x127 hx127=>?_;conv=>arg 3;whnf
       refine Zg (Zz rfl hx127) ?_;conv=>arg 3;whnf
       refine Zp _ ZG rfl fun x128 hx128=>?_;conv=>arg 3;whnf
       refine Zf rfl ?_ ?_<;>conv=>arg 3;whnf
       ·refine Zc _ Zk fun x129 hx129=>?_
        clear hx129
        rcases x129 with x129 | x129
        ·conv=>arg 3;whnf
         refine ZaT rfl ?_;conv=>arg 3;whnf
         refine Z5 rfl ?_;conv=>arg 3;whnf
         refine Zf rfl ?_ ?_<;>conv=>arg 3;whnf
         ·refine Zf rfl ?_ ?_<;>conv=>arg 3;whnf
          ·refine Zc (Za t0 t1 t2 t3 s0.1 x129.1 (w64 (s0.2.2.1-1)) x129.2 m1_0 m1_1 m1_2 m1_3 m1_4 m1_5) (hrc t0 t1 t2 t3 s0.1 x129.1 (w64 (s0.2.2.1-1)) x129.2 m1_0 m1_1 m1_2 m1_3 m1_4 m1_5) fun x130 hx130=>?_;conv=>arg 3;whnf
           exact Ze (ih _)
          ·refine Zc (Za t0 t1 t2 t3 s0.1 x129.1 (w64 (s0.2.2.1-1)) x129.2 m1_0 m1_1 m1_2 m1_3 m1_4 m1_5) (hrc t0 t1 t2 t3 s0.1 x129.1 (w64 (s0.2.2.1-1)) x129.2 m1_0 m1_1 m1_2 m1_3 m1_4 m1_5) fun x131 hx131=>?_;conv=>arg 3;whnf
           exact Ze (ih _)
         ·refine Zf rfl ?_ ?_<;>conv=>arg 3;whnf
          ·refine Zc (Za t0 t1 t2 t3 (w64 (x129.1+1)) s0.2.1 (w64 (s0.2.2.1-1)) x129.2 m1_0 m1_1 m1_2 m1_3 m1_4 m1_5) (hrc t0 t1 t2 t3 (w64 (x129.1+1)) s0.2.1 (w64 (s0.2.2.1-1)) x129.2 m1_0 m1_1 m1_2 m1_3 m1_4 m1_5) fun x132 hx132=>?_;conv=>arg 3;whnf
           exact Ze (ih _)
          ·refine Zc (Za t0 t1 t2 t3 (w64 (x129.1+1)) s0.2.1 (w64 (s0.2.2.1-1)) x129.2 m1_0 m1_1 m1_2 m1_3 m1_4 m1_5) (hrc t0 t1 t2 t3 (w64 (x129.1+1)) s0.2.1 (w64 (s0.2.2.1-1)) x129.2 m1_0 m1_1 m1_2 m1_3 m1_4 m1_5) fun x133 hx133=>?_;conv=>arg 3;whnf
           exact Ze (ih _)
        ·conv=>arg 3;whnf
         refine Z5 rfl ?_;conv=>arg 3;whnf
         refine Z5 rfl ?_;conv=>arg 3;whnf
         refine Zf rfl ?_ ?_<;>conv=>arg 3;whnf
         ·refine Zf rfl ?_ ?_<;>conv=>arg 3;whnf
          ·refine Zc (Za t0 t1 t2 t3 s0.1 x129.1 (w64 (s0.2.2.1-1)) x129.2 m1_0 m1_1 m1_2 m1_3 m1_4 m1_5) (hrc t0 t1 t2 t3 s0.1 x129.1 (w64 (s0.2.2.1-1)) x129.2 m1_0 m1_1 m1_2 m1_3 m1_4 m1_5) fun x134 hx134=>?_;conv=>arg 3;whnf
           exact Ze (ih _)
          ·refine Zc (Za t0 t1 t2 t3 s0.1 x129.1 (w64 (s0.2.2.1-1)) x129.2 m1_0 m1_1 m1_2 m1_3 m1_4 m1_5) (hrc t0 t1 t2 t3 s0.1 x129.1 (w64 (s0.2.2.1-1)) x129.2 m1_0 m1_1 m1_2 m1_3 m1_4 m1_5) fun x135 hx135=>?_;conv=>arg 3;whnf
           exact Ze (ih _)
         ·refine Zf rfl ?_ ?_<;>conv=>arg 3;whnf
          ·refine Zc (Za t0 t1 t2 t3 (w64 (x129.1+1)) s0.2.1 (w64 (s0.2.2.1-1)) x129.2 m1_0 m1_1 m1_2 m1_3 m1_4 m1_5) (hrc t0 t1 t2 t3 (w64 (x129.1+1)) s0.2.1 (w64 (s0.2.2.1-1)) x129.2 m1_0 m1_1 m1_2 m1_3 m1_4 m1_5) fun x136 hx136=>?_;conv=>arg 3;whnf
           exact Ze (ih _)
          ·refine Zc (Za t0 t1 t2 t3 (w64 (x129.1+1)) s0.2.1 (w64 (s0.2.2.1-1)) x129.2 m1_0 m1_1 m1_2 m1_3 m1_4 m1_5) (hrc t0 t1 t2 t3 (w64 (x129.1+1)) s0.2.1 (w64 (s0.2.2.1-1)) x129.2 m1_0 m1_1 m1_2 m1_3 m1_4 m1_5) fun x137 hx137=>?_;conv=>arg 3;whnf
           exact Ze (ih _)
       ·refine Zc _ Zy fun x138 hx138=>?_;conv=>arg 3;whnf
        exact Ze (ih _)
      ·refine Zc _ Zk fun x139 hx139=>?_
       clear hx139
       rcases x139 with x139 | x139
       ·conv=>arg 3;whnf
        refine ZaT rfl ?_;conv=>arg 3;whnf
        refine Z5 rfl ?_;conv=>arg 3;whnf
        refine Zf rfl ?_ ?_<;>conv=>arg 3;whnf
        ·refine Zf rfl ?_ ?_<;>conv=>arg 3;whnf
         ·refine Zc (Za t0 t1 t2 t3 s0.1 x139.1 (w64 (s0.2.2.1-1)) x139.2 m1_0 m1_1 m1_2 m1_3 m1_4 m1_5) (hrc t0 t1 t2 t3 s0.1 x139.1 (w64 (s0.2.2.1-1)) x139.2 m1_0 m1_1 m1_2 m1_3 m1_4 m1_5) fun x140 hx140=>?_;conv=>arg 3;whnf
          exact Ze (ih _)
         ·refine Zc (Za t0 t1 t2 t3 s0.1 x139.1 (w64 (s0.2.2.1-1)) x139.2 m1_0 m1_1 m1_2 m1_3 m1_4 m1_5) (hrc t0 t1 t2 t3 s0.1 x139.1 (w64 (s0.2.2.1-1)) x139.2 m1_0 m1_1 m1_2 m1_3 m1_4 m1_5) fun x141 hx141=>?_;conv=>arg 3;whnf
          exact Ze (ih _)
        ·refine Zf rfl ?_ ?_<;>conv=>arg 3;whnf
         ·refine Zc (Za t0 t1 t2 t3 (w64 (x139.1+1)) s0.2.1 (w64 (s0.2.2.1-1)) x139.2 m1_0 m1_1 m1_2 m1_3 m1_4 m1_5) (hrc t0 t1 t2 t3 (w64 (x139.1+1)) s0.2.1 (w64 (s0.2.2.1-1)) x139.2 m1_0 m1_1 m1_2 m1_3 m1_4 m1_5) fun x142 hx142=>?_;conv=>arg 3;whnf
          exact Ze (ih _)
         ·refine Zc (Za t0 t1 t2 t3 (w64 (x139.1+1)) s0.2.1 (w64 (s0.2.2.1-1)) x139.2 m1_0 m1_1 m1_2 m1_3 m1_4 m1_5) (hrc t0 t1 t2 t3 (w64 (x139.1+1)) s0.2.1 (w64 (s0.2.2.1-1)) x139.2 m1_0 m1_1 m1_2 m1_3 m1_4 m1_5) fun x143 hx143=>?_;conv=>arg 3;whnf
          exact Ze (ih _)
       ·conv=>arg 3;whnf
        refine Z5 rfl ?_;conv=>arg 3;whnf
        refine Z5 rfl ?_;conv=>arg 3;whnf
        refine Zf rfl ?_ ?_<;>conv=>arg 3;whnf
        ·refine Zf rfl ?_ ?_<;>conv=>arg 3;whnf
         ·refine Zc (Za t0 t1 t2 t3 s0.1 x139.1 (w64 (s0.2.2.1-1)) x139.2 m1_0 m1_1 m1_2 m1_3 m1_4 m1_5) (hrc t0 t1 t2 t3 s0.1 x139.1 (w64 (s0.2.2.1-1)) x139.2 m1_0 m1_1 m1_2 m1_3 m1_4 m1_5) fun x144 hx144=>?_;conv=>arg 3;whnf
          exact Ze (ih _)
         ·refine Zc (Za t0 t1 t2 t3 s0.1 x139.1 (w64 (s0.2.2.1-1)) x139.2 m1_0 m1_1 m1_2 m1_3 m1_4 m1_5) (hrc t0 t1 t2 t3 s0.1 x139.1 (w64 (s0.2.2.1-1)) x139.2 m1_0 m1_1 m1_2 m1_3 m1_4 m1_5) fun x145 hx145=>?_;conv=>arg 3;whnf
          exact Ze (ih _)
        ·refine Zf rfl ?_ ?_<;>conv=>arg 3;whnf
         ·refine Zc (Za t0 t1 t2 t3 (w64 (x139.1+1)) s0.2.1 (w64 (s0.2.2.1-1)) x139.2 m1_0 m1_1 m1_2 m1_3 m1_4 m1_5) (hrc t0 t1 t2 t3 (w64 (x139.1+1)) s0.2.1 (w64 (s0.2.2.1-1)) x139.2 m1_0 m1_1 m1_2 m1_3 m1_4 m1_5) fun x146 hx146=>?_;conv=>arg 3;whnf
          exact Ze (ih _)
         ·refine Zc (Za t0 t1 t2 t3 (w64 (x139.1+1)) s0.2.1 (w64 (s0.2.2.1-1)) x139.2 m1_0 m1_1 m1_2 m1_3 m1_4 m1_5) (hrc t0 t1 t2 t3 (w64 (x139.1+1)) s0.2.1 (w64 (s0.2.2.1-1)) x139.2 m1_0 m1_1 m1_2 m1_3 m1_4 m1_5) fun x147 hx147=>?_;conv=>arg 3;whnf
          exact Ze (ih _)
     ·refine Zf rfl ?_ ?_<;>conv=>arg 3;whnf
      ·refine Zl rfl rfl fun x148 hx148=>?_;conv=>arg 3;whnf
       refine Zg (Zz rfl hx148) ?_;conv=>arg 3;whnf
       refine Zl rfl rfl fun x149 hx149=>?_;conv=>arg 3;whnf
       refine Zg (Zz rfl hx149) ?_;conv=>arg 3;whnf
       refine Zp _ ZG rfl fun x150 hx150=>?_;conv=>arg 3;whnf
       refine Zf rfl ?_ ?_<;>conv=>arg 3;whnf
       ·refine Zc _ Zk fun x151 hx151=>?_
        clear hx151
        rcases x151 with x151 | x151
        ·conv=>arg 3;whnf
         refine ZaT rfl ?_;conv=>arg 3;whnf
         refine Z5 rfl ?_;conv=>arg 3;whnf
         refine Zf rfl ?_ ?_<;>conv=>arg 3;whnf
         ·refine Zf rfl ?_ ?_<;>conv=>arg 3;whnf
          ·refine Zc (Za t0 t1 t2 t3 s0.1 x151.1 (w64 (s0.2.2.1-1)) x151.2 m1_0 m1_1 m1_2 m1_3 m1_4 m1_5) (hrc t0 t1 t2 t3 s0.1 x151.1 (w64 (s0.2.2.1-1)) x151.2 m1_0 m1_1 m1_2 m1_3 m1_4 m1_5) fun x152 hx152=>?_;conv=>arg 3;whnf
           exact Ze (ih _)
          ·refine Zc (Za t0 t1 t2 t3 s0.1 x151.1 (w64 (s0.2.2.1-1)) x151.2 m1_0 m1_1 m1_2 m1_3 m1_4 m1_5) (hrc t0 t1 t2 t3 s0.1 x151.1 (w64 (s0.2.2.1-1)) x151.2 m1_0 m1_1 m1_2 m1_3 m1_4 m1_5) fun x153 hx153=>?_;conv=>arg 3;whnf
           exact Ze (ih _)
         ·refine Zf rfl ?_ ?_<;>conv=>arg 3;whnf
          ·refine Zc (Za t0 t1 t2 t3 (w64 (x151.1+1)) s0.2.1 (w64 (s0.2.2.1-1)) x151.2 m1_0 m1_1 m1_2 m1_3 m1_4 m1_5) (hrc t0 t1 t2 t3 (w64 (x151.1+1)) s0.2.1 (w64 (s0.2.2.1-1)) x151.2 m1_0 m1_1 m1_2 m1_3 m1_4 m1_5) fun x154 hx154=>?_;conv=>arg 3;whnf
           exact Ze (ih _)
          ·refine Zc (Za t0 t1 t2 t3 (w64 (x151.1+1)) s0.2.1 (w64 (s0.2.2.1-1)) x151.2 m1_0 m1_1 m1_2 m1_3 m1_4 m1_5) (hrc t0 t1 t2 t3 (w64 (x151.1+1)) s0.2.1 (w64 (s0.2.2.1-1)) x151.2 m1_0 m1_1 m1_2 m1_3 m1_4 m1_5) fun x155 hx155=>?_;conv=>arg 3;whnf
           exact Ze (ih _)
        ·conv=>arg 3;whnf
         refine Z5 rfl ?_;conv=>arg 3;whnf
         refine Z5 rfl ?_;conv=>arg 3;whnf
         refine Zf rfl ?_ ?_<;>conv=>arg 3;whnf
         ·refine Zf rfl ?_ ?_<;>conv=>arg 3;whnf
          ·refine Zc (Za t0 t1 t2 t3 s0.1 x151.1 (w64 (s0.2.2.1-1)) x151.2 m1_0 m1_1 m1_2 m1_3 m1_4 m1_5) (hrc t0 t1 t2 t3 s0.1 x151.1 (w64 (s0.2.2.1-1)) x151.2 m1_0 m1_1 m1_2 m1_3 m1_4 m1_5) fun x156 hx156=>?_;conv=>arg 3;whnf
           exact Ze (ih _)
          ·refine Zc (Za t0 t1 t2 t3 s0.1 x151.1 (w64 (s0.2.2.1-1)) x151.2 m1_0 m1_1 m1_2 m1_3 m1_4 m1_5) (hrc t0 t1 t2 t3 s0.1 x151.1 (w64 (s0.2.2.1-1)) x151.2 m1_0 m1_1 m1_2 m1_3 m1_4 m1_5) fun x157 hx157=>?_;conv=>arg 3;whnf
           exact Ze (ih _)
         ·refine Zf rfl ?_ ?_<;>conv=>arg 3;whnf
          ·refine Zc (Za t0 t1 t2 t3 (w64 (x151.1+1)) s0.2.1 (w64 (s0.2.2.1-1)) x151.2 m1_0 m1_1 m1_2 m1_3 m1_4 m1_5) (hrc t0 t1 t2 t3 (w64 (x151.1+1)) s0.2.1 (w64 (s0.2.2.1-1)) x151.2 m1_0 m1_1 m1_2 m1_3 m1_4 m1_5) fun x158 hx158=>?_;conv=>arg 3;whnf
           exact Ze (ih _)
          ·refine Zc (Za t0 t1 t2 t3 (w64 (x151.1+1)) s0.2.1 (w64 (s0.2.2.1-1)) x151.2 m1_0 m1_1 m1_2 m1_3 m1_4 m1_5) (hrc t0 t1 t2 t3 (w64 (x151.1+1)) s0.2.1 (w64 (s0.2.2.1-1)) x151.2 m1_0 m1_1 m1_2 m1_3 m1_4 m1_5) fun x159 hx159=>?_;conv=>arg 3;whnf
           exact Ze (ih _)
       ·refine Zc _ Zy fun x160 hx160=>?_;conv=>arg 3;whnf
        exact Ze (ih _)
      ·refine Zc _ Zk fun x161 hx161=>?_
       clear hx161
       rcases x161 with x161 | x161
       ·conv=>arg 3;whnf
        refine ZaT rfl ?_;conv=>arg 3;whnf
        refine Z5 rfl ?_;conv=>arg 3;whnf
        refine Zf rfl ?_ ?_<;>conv=>arg 3;whnf
        ·refine Zf rfl ?_ ?_<;>conv=>arg 3;whnf
         ·refine Zc (Za t0 t1 t2 t3 s0.1 x161.1 (w64 (s0.2.2.1-1)) x161.2 m1_0 m1_1 m1_2 m1_3 m1_4 m1_5) (hrc t0 t1 t2 t3 s0.1 x161.1 (w64 (s0.2.2.1-1)) x161.2 m1_0 m1_1 m1_2 m1_3 m1_4 m1_5) fun x162 hx162=>?_;conv=>arg 3;whnf
          exact Ze (ih _)
         ·refine Zc (Za t0 t1 t2 t3 s0.1 x161.1 (w64 (s0.2.2.1-1)) x161.2 m1_0 m1_1 m1_2 m1_3 m1_4 m1_5) (hrc t0 t1 t2 t3 s0.1 x161.1 (w64 (s0.2.2.1-1)) x161.2 m1_0 m1_1 m1_2 m1_3 m1_4 m1_5) fun x163 hx163=>?_;conv=>arg 3;whnf
          exact Ze (ih _)
        ·refine Zf rfl ?_ ?_<;>conv=>arg 3;whnf
         ·refine Zc (Za t0 t1 t2 t3 (w64 (x161.1+1)) s0.2.1 (w64 (s0.2.2.1-1)) x161.2 m1_0 m1_1 m1_2 m1_3 m1_4 m1_5) (hrc t0 t1 t2 t3 (w64 (x161.1+1)) s0.2.1 (w64 (s0.2.2.1-1)) x161.2 m1_0 m1_1 m1_2 m1_3 m1_4 m1_5) fun x164 hx164=>?_;conv=>arg 3;whnf
          exact Ze (ih _)
         ·refine Zc (Za t0 t1 t2 t3 (w64 (x161.1+1)) s0.2.1 (w64 (s0.2.2.1-1)) x161.2 m1_0 m1_1 m1_2 m1_3 m1_4 m1_5) (hrc t0 t1 t2 t3 (w64 (x161.1+1)) s0.2.1 (w64 (s0.2.2.1-1)) x161.2 m1_0 m1_1 m1_2 m1_3 m1_4 m1_5) fun x165 hx165=>?_;conv=>arg 3;whnf
          exact Ze (ih _)
       ·conv=>arg 3;whnf
        refine Z5 rfl ?_;conv=>arg 3;whnf
        refine Z5 rfl ?_;conv=>arg 3;whnf
        refine Zf rfl ?_ ?_<;>conv=>arg 3;whnf
        ·refine Zf rfl ?_ ?_<;>conv=>arg 3;whnf
         ·refine Zc (Za t0 t1 t2 t3 s0.1 x161.1 (w64 (s0.2.2.1-1)) x161.2 m1_0 m1_1 m1_2 m1_3 m1_4 m1_5) (hrc t0 t1 t2 t3 s0.1 x161.1 (w64 (s0.2.2.1-1)) x161.2 m1_0 m1_1 m1_2 m1_3 m1_4 m1_5) fun x166 hx166=>?_;conv=>arg 3;whnf
          exact Ze (ih _)
         ·refine Zc (Za t0 t1 t2 t3 s0.1 x161.1 (w64 (s0.2.2.1-1)) x161.2 m1_0 m1_1 m1_2 m1_3 m1_4 m1_5) (hrc t0 t1 t2 t3 s0.1 x161.1 (w64 (s0.2.2.1-1)) x161.2 m1_0 m1_1 m1_2 m1_3 m1_4 m1_5) fun x167 hx167=>?_;conv=>arg 3;whnf
          exact Ze (ih _)
        ·refine Zf rfl ?_ ?_<;>conv=>arg 3;whnf
         ·refine Zc (Za t0 t1 t2 t3 (w64 (x161.1+1)) s0.2.1 (w64 (s0.2.2.1-1)) x161.2 m1_0 m1_1 m1_2 m1_3 m1_4 m1_5) (hrc t0 t1 t2 t3 (w64 (x161.1+1)) s0.2.1 (w64 (s0.2.2.1-1)) x161.2 m1_0 m1_1 m1_2 m1_3 m1_4 m1_5) fun x168 hx168=>?_;conv=>arg 3;whnf
          exact Ze (ih _)
         ·refine Zc (Za t0 t1 t2 t3 (w64 (x161.1+1)) s0.2.1 (w64 (s0.2.2.1-1)) x161.2 m1_0 m1_1 m1_2 m1_3 m1_4 m1_5) (hrc t0 t1 t2 t3 (w64 (x161.1+1)) s0.2.1 (w64 (s0.2.2.1-1)) x161.2 m1_0 m1_1 m1_2 m1_3 m1_4 m1_5) fun x169 hx169=>?_;conv=>arg 3;whnf
          exact Ze (ih _)
 ·refine Zj5 ?_
  rcases hb:s0.2.2.2.2.1 with _ | _
  ·refine Zkx ?_;conv=>arg 3;whnf
   refine Zf rfl ?_ ?_<;>conv=>arg 3;whnf
   ·refine Zc _ Zaa fun x73 hx73=>?_;conv=>arg 3;whnf
    exact Zd rfl
   ·refine Zf rfl ?_ ?_<;>conv=>arg 3;whnf
    ·refine Zc _ Zar fun x74 hx74=>?_;conv=>arg 3;whnf
     exact Zd rfl
    ·refine Zc _ Zai fun x75 hx75=>?_;conv=>arg 3;whnf
     refine Zf rfl ?_ ?_<;>conv=>arg 3;whnf
     ·refine Zc _ Zah fun x76 hx76=>?_;conv=>arg 3;whnf
      refine Zf rfl ?_ ?_<;>conv=>arg 3;whnf
      ·refine Zl rfl rfl fun x77 hx77=>?_;conv=>arg 3;whnf
       refine Zg (Zz rfl hx77) ?_;conv=>arg 3;whnf
       refine Zl rfl rfl fun x78 hx78=>?_;conv=>arg 3;whnf
       refine Zg (Zz rfl hx78) ?_;conv=>arg 3;whnf
       refine Zp _ ZG rfl fun x79 hx79=>?_;conv=>arg 3;whnf
       refine Zf rfl ?_ ?_<;>conv=>arg 3;whnf
       ·refine Zc _ Zk fun x80 hx80=>?_
        clear hx80
        rcases x80 with x80 | x80
        ·conv=>arg 3;whnf
         refine ZaT rfl ?_;conv=>arg 3;whnf
         refine Z5 rfl ?_;conv=>arg 3;whnf
         refine Zf rfl ?_ ?_<;>conv=>arg 3;whnf
         ·refine Zf rfl ?_ ?_<;>conv=>arg 3;whnf
          ·refine Zc (Za t0 t1 t2 t3 s0.1 x80.1 s0.2.2.1 x80.2 m1_0 m1_1 m1_2 m1_3 m1_4 m1_5) (hrc t0 t1 t2 t3 s0.1 x80.1 s0.2.2.1 x80.2 m1_0 m1_1 m1_2 m1_3 m1_4 m1_5) fun x81 hx81=>?_;conv=>arg 3;whnf
           exact Ze (ih _)
          ·refine Zc (Za t0 t1 t2 t3 s0.1 x80.1 s0.2.2.1 x80.2 m1_0 m1_1 m1_2 m1_3 m1_4 m1_5) (hrc t0 t1 t2 t3 s0.1 x80.1 s0.2.2.1 x80.2 m1_0 m1_1 m1_2 m1_3 m1_4 m1_5) fun x82 hx82=>?_;conv=>arg 3;whnf
           exact Ze (ih _)
         ·refine Zf rfl ?_ ?_<;>conv=>arg 3;whnf
          ·refine Zc (Za t0 t1 t2 t3 (w64 (x80.1+1)) s0.2.1 s0.2.2.1 x80.2 m1_0 m1_1 m1_2 m1_3 m1_4 m1_5) (hrc t0 t1 t2 t3 (w64 (x80.1+1)) s0.2.1 s0.2.2.1 x80.2 m1_0 m1_1 m1_2 m1_3 m1_4 m1_5) fun x83 hx83=>?_;conv=>arg 3;whnf
           exact Ze (ih _)
          ·refine Zc (Za t0 t1 t2 t3 (w64 (x80.1+1)) s0.2.1 s0.2.2.1 x80.2 m1_0 m1_1 m1_2 m1_3 m1_4 m1_5) (hrc t0 t1 t2 t3 (w64 (x80.1+1)) s0.2.1 s0.2.2.1 x80.2 m1_0 m1_1 m1_2 m1_3 m1_4 m1_5) fun x84 hx84=>?_;conv=>arg 3;whnf
           exact Ze (ih _)
        ·conv=>arg 3;whnf
         refine Z5 rfl ?_;conv=>arg 3;whnf
         refine Z5 rfl ?_;conv=>arg 3;whnf
         refine Zf rfl ?_ ?_<;>conv=>arg 3;whnf
         ·refine Zf rfl ?_ ?_<;>conv=>arg 3;whnf
          ·refine Zc (Za t0 t1 t2 t3 s0.1 x80.1 s0.2.2.1 x80.2 m1_0 m1_1 m1_2 m1_3 m1_4 m1_5) (hrc t0 t1 t2 t3 s0.1 x80.1 s0.2.2.1 x80.2 m1_0 m1_1 m1_2 m1_3 m1_4 m1_5) fun x85 hx85=>?_;conv=>arg 3;whnf
           exact Ze (ih _)
          ·refine Zc (Za t0 t1 t2 t3 s0.1 x80.1 s0.2.2.1 x80.2 m1_0 m1_1 m1_2 m1_3 m1_4 m1_5) (hrc t0 t1 t2 t3 s0.1 x80.1 s0.2.2.1 x80.2 m1_0 m1_1 m1_2 m1_3 m1_4 m1_5) fun x86 hx86=>?_;conv=>arg 3;whnf
           exact Ze (ih _)
         ·refine Zf rfl ?_ ?_<;>conv=>arg 3;whnf
          ·refine Zc (Za t0 t1 t2 t3 (w64 (x80.1+1)) s0.2.1 s0.2.2.1 x80.2 m1_0 m1_1 m1_2 m1_3 m1_4 m1_5) (hrc t0 t1 t2 t3 (w64 (x80.1+1)) s0.2.1 s0.2.2.1 x80.2 m1_0 m1_1 m1_2 m1_3 m1_4 m1_5) fun x87 hx87=>?_;conv=>arg 3;whnf
           exact Ze (ih _)
          ·refine Zc (Za t0 t1 t2 t3 (w64 (x80.1+1)) s0.2.1 s0.2.2.1 x80.2 m1_0 m1_1 m1_2 m1_3 m1_4 m1_5) (hrc t0 t1 t2 t3 (w64 (x80.1+1)) s0.2.1 s0.2.2.1 x80.2 m1_0 m1_1 m1_2 m1_3 m1_4 m1_5) fun x88 hx88=>?_;conv=>arg 3;whnf
           exact Ze (ih _)
       ·refine Zc _ Zy fun x89 hx89=>?_;conv=>arg 3;whnf
        exact Ze (ih _)
      ·refine Zc _ Zk fun x90 hx90=>?_
       clear hx90
       rcases x90 with x90 | x90
       ·conv=>arg 3;whnf
        refine ZaT rfl ?_;conv=>arg 3;whnf
        refine Z5 rfl ?_;conv=>arg 3;whnf
        refine Zf rfl ?_ ?_<;>conv=>arg 3;whnf
        ·refine Zf rfl ?_ ?_<;>conv=>arg 3;whnf
         ·refine Zc (Za t0 t1 t2 t3 s0.1 x90.1 s0.2.2.1 x90.2 m1_0 m1_1 m1_2 m1_3 m1_4 m1_5) (hrc t0 t1 t2 t3 s0.1 x90.1 s0.2.2.1 x90.2 m1_0 m1_1 m1_2 m1_3 m1_4 m1_5) fun x91 hx91=>?_;conv=>arg 3;whnf
          exact Ze (ih _)
         ·refine Zc (Za t0 t1 t2 t3 s0.1 x90.1 s0.2.2.1 x90.2 m1_0 m1_1 m1_2 m1_3 m1_4 m1_5) (hrc t0 t1 t2 t3 s0.1 x90.1 s0.2.2.1 x90.2 m1_0 m1_1 m1_2 m1_3 m1_4 m1_5) fun x92 hx92=>?_;conv=>arg 3;whnf
          exact Ze (ih _)
        ·refine Zf rfl ?_ ?_<;>conv=>arg 3;whnf
         ·refine Zc (Za t0 t1 t2 t3 (w64 (x90.1+1)) s0.2.1 s0.2.2.1 x90.2 m1_0 m1_1 m1_2 m1_3 m1_4 m1_5) (hrc t0 t1 t2 t3 (w64 (x90.1+1)) s0.2.1 s0.2.2.1 x90.2 m1_0 m1_1 m1_2 m1_3 m1_4 m1_5) fun x93 hx93=>?_;conv=>arg 3;whnf
          exact Ze (ih _)
         ·refine Zc (Za t0 t1 t2 t3 (w64 (x90.1+1)) s0.2.1 s0.2.2.1 x90.2 m1_0 m1_1 m1_2 m1_3 m1_4 m1_5) (hrc t0 t1 t2 t3 (w64 (x90.1+1)) s0.2.1 s0.2.2.1 x90.2 m1_0 m1_1 m1_2 m1_3 m1_4 m1_5) fun x94 hx94=>?_;conv=>arg 3;whnf
          exact Ze (ih _)
       ·conv=>arg 3;whnf
        refine Z5 rfl ?_;conv=>arg 3;whnf
        refine Z5 rfl ?_;conv=>arg 3;whnf
        refine Zf rfl ?_ ?_<;>conv=>arg 3;whnf
        ·refine Zf rfl ?_ ?_<;>conv=>arg 3;whnf
         ·refine Zc (Za t0 t1 t2 t3 s0.1 x90.1 s0.2.2.1 x90.2 m1_0 m1_1 m1_2 m1_3 m1_4 m1_5) (hrc t0 t1 t2 t3 s0.1 x90.1 s0.2.2.1 x90.2 m1_0 m1_1 m1_2 m1_3 m1_4 m1_5) fun x95 hx95=>?_;conv=>arg 3;whnf
          exact Ze (ih _)
         ·refine Zc (Za t0 t1 t2 t3 s0.1 x90.1 s0.2.2.1 x90.2 m1_0 m1_1 m1_2 m1_3 m1_4 m1_5) (hrc t0 t1 t2 t3 s0.1 x90.1 s0.2.2.1 x90.2 m1_0 m1_1 m1_2 m1_3 m1_4 m1_5) fun x96 hx96=>?_;conv=>arg 3;whnf
          exact Ze (ih _)
        ·refine Zf rfl ?_ ?_<;>conv=>arg 3;whnf
         ·refine Zc (Za t0 t1 t2 t3 (w64 (x90.1+1)) s0.2.1 s0.2.2.1 x90.2 m1_0 m1_1 m1_2 m1_3 m1_4 m1_5) (hrc t0 t1 t2 t3 (w64 (x90.1+1)) s0.2.1 s0.2.2.1 x90.2 m1_0 m1_1 m1_2 m1_3 m1_4 m1_5) fun x97 hx97=>?_;conv=>arg 3;whnf
          exact Ze (ih _)
         ·refine Zc (Za t0 t1 t2 t3 (w64 (x90.1+1)) s0.2.1 s0.2.2.1 x90.2 m1_0 m1_1 m1_2 m1_3 m1_4 m1_5) (hrc t0 t1 t2 t3 (w64 (x90.1+1)) s0.2.1 s0.2.2.1 x90.2 m1_0 m1_1 m1_2 m1_3 m1_4 m1_5) fun x98 hx98=>?_;conv=>arg 3;whnf
          exact Ze (ih _)
     ·refine Zf rfl ?_ ?_<;>conv=>arg 3;whnf
      ·refine Zl rfl rfl fun x99 hx99=>?_;conv=>arg 3;whnf
       refine Zg (Zz rfl hx99) ?_;conv=>arg 3;whnf
       refine Zl rfl rfl fun x100 hx100=>?_;conv=>arg 3;whnf
       refine Zg (Zz rfl hx100) ?_;conv=>arg 3;whnf
       refine Zp _ ZG rfl fun x101 hx101=>?_;conv=>arg 3;whnf
       refine Zf rfl ?_ ?_<;>conv=>arg 3;whnf
       ·refine Zc _ Zk fun x102 hx102=>?_
        clear hx102
        rcases x102 with x102 | x102
        ·conv=>arg 3;whnf
         refine ZaT rfl ?_;conv=>arg 3;whnf
         refine Z5 rfl ?_;conv=>arg 3;whnf
         refine Zf rfl ?_ ?_<;>conv=>arg 3;whnf
         ·refine Zf rfl ?_ ?_<;>conv=>arg 3;whnf
          ·refine Zc (Za t0 t1 t2 t3 s0.1 x102.1 s0.2.2.1 x102.2 m1_0 m1_1 m1_2 m1_3 m1_4 m1_5) (hrc t0 t1 t2 t3 s0.1 x102.1 s0.2.2.1 x102.2 m1_0 m1_1 m1_2 m1_3 m1_4 m1_5) fun x103 hx103=>?_;conv=>arg 3;whnf
           exact Ze (ih _)
          ·refine Zc (Za t0 t1 t2 t3 s0.1 x102.1 s0.2.2.1 x102.2 m1_0 m1_1 m1_2 m1_3 m1_4 m1_5) (hrc t0 t1 t2 t3 s0.1 x102.1 s0.2.2.1 x102.2 m1_0 m1_1 m1_2 m1_3 m1_4 m1_5) fun x104 hx104=>?_;conv=>arg 3;whnf
           exact Ze (ih _)
         ·refine Zf rfl ?_ ?_<;>conv=>arg 3;whnf
          ·refine Zc (Za t0 t1 t2 t3 (w64 (x102.1+1)) s0.2.1 s0.2.2.1 x102.2 m1_0 m1_1 m1_2 m1_3 m1_4 m1_5) (hrc t0 t1 t2 t3 (w64 (x102.1+1)) s0.2.1 s0.2.2.1 x102.2 m1_0 m1_1 m1_2 m1_3 m1_4 m1_5) fun x105 hx105=>?_;conv=>arg 3;whnf
           exact Ze (ih _)
          ·refine Zc (Za t0 t1 t2 t3 (w64 (x102.1+1)) s0.2.1 s0.2.2.1 x102.2 m1_0 m1_1 m1_2 m1_3 m1_4 m1_5) (hrc t0 t1 t2 t3 (w64 (x102.1+1)) s0.2.1 s0.2.2.1 x102.2 m1_0 m1_1 m1_2 m1_3 m1_4 m1_5) fun x106 hx106=>?_;conv=>arg 3;whnf
           exact Ze (ih _)
        ·conv=>arg 3;whnf
         refine Z5 rfl ?_;conv=>arg 3;whnf
         refine Z5 rfl ?_;conv=>arg 3;whnf
         refine Zf rfl ?_ ?_<;>conv=>arg 3;whnf
         ·refine Zf rfl ?_ ?_<;>conv=>arg 3;whnf
          ·refine Zc (Za t0 t1 t2 t3 s0.1 x102.1 s0.2.2.1 x102.2 m1_0 m1_1 m1_2 m1_3 m1_4 m1_5) (hrc t0 t1 t2 t3 s0.1 x102.1 s0.2.2.1 x102.2 m1_0 m1_1 m1_2 m1_3 m1_4 m1_5) fun x107 hx107=>?_;conv=>arg 3;whnf
           exact Ze (ih _)
          ·refine Zc (Za t0 t1 t2 t3 s0.1 x102.1 s0.2.2.1 x102.2 m1_0 m1_1 m1_2 m1_3 m1_4 m1_5) (hrc t0 t1 t2 t3 s0.1 x102.1 s0.2.2.1 x102.2 m1_0 m1_1 m1_2 m1_3 m1_4 m1_5) fun x108 hx108=>?_;conv=>arg 3;whnf
           exact Ze (ih _)
         ·refine Zf rfl ?_ ?_<;>conv=>arg 3;whnf
          ·refine Zc (Za t0 t1 t2 t3 (w64 (x102.1+1)) s0.2.1 s0.2.2.1 x102.2 m1_0 m1_1 m1_2 m1_3 m1_4 m1_5) (hrc t0 t1 t2 t3 (w64 (x102.1+1)) s0.2.1 s0.2.2.1 x102.2 m1_0 m1_1 m1_2 m1_3 m1_4 m1_5) fun x109 hx109=>?_;conv=>arg 3;whnf
           exact Ze (ih _)
          ·refine Zc (Za t0 t1 t2 t3 (w64 (x102.1+1)) s0.2.1 s0.2.2.1 x102.2 m1_0 m1_1 m1_2 m1_3 m1_4 m1_5) (hrc t0 t1 t2 t3 (w64 (x102.1+1)) s0.2.1 s0.2.2.1 x102.2 m1_0 m1_1 m1_2 m1_3 m1_4 m1_5) fun x110 hx110=>?_;conv=>arg 3;whnf
           exact Ze (ih _)
       ·refine Zc _ Zy fun x111 hx111=>?_;conv=>arg 3;whnf
        exact Ze (ih _)
      ·refine Zc _ Zk fun x112 hx112=>?_
       clear hx112
       rcases x112 with x112 | x112
       ·conv=>arg 3;whnf
        refine ZaT rfl ?_;conv=>arg 3;whnf
        refine Z5 rfl ?_;conv=>arg 3;whnf
        refine Zf rfl ?_ ?_<;>conv=>arg 3;whnf
        ·refine Zf rfl ?_ ?_<;>conv=>arg 3;whnf
         ·refine Zc (Za t0 t1 t2 t3 s0.1 x112.1 s0.2.2.1 x112.2 m1_0 m1_1 m1_2 m1_3 m1_4 m1_5) (hrc t0 t1 t2 t3 s0.1 x112.1 s0.2.2.1 x112.2 m1_0 m1_1 m1_2 m1_3 m1_4 m1_5) fun x113 hx113=>?_;conv=>arg 3;whnf
          exact Ze (ih _)
         ·refine Zc (Za t0 t1 t2 t3 s0.1 x112.1 s0.2.2.1 x112.2 m1_0 m1_1 m1_2 m1_3 m1_4 m1_5) (hrc t0 t1 t2 t3 s0.1 x112.1 s0.2.2.1 x112.2 m1_0 m1_1 m1_2 m1_3 m1_4 m1_5) fun x114 hx114=>?_;conv=>arg 3;whnf
          exact Ze (ih _)
        ·refine Zf rfl ?_ ?_<;>conv=>arg 3;whnf
         ·refine Zc (Za t0 t1 t2 t3 (w64 (x112.1+1)) s0.2.1 s0.2.2.1 x112.2 m1_0 m1_1 m1_2 m1_3 m1_4 m1_5) (hrc t0 t1 t2 t3 (w64 (x112.1+1)) s0.2.1 s0.2.2.1 x112.2 m1_0 m1_1 m1_2 m1_3 m1_4 m1_5) fun x115 hx115=>?_;conv=>arg 3;whnf
          exact Ze (ih _)
         ·refine Zc (Za t0 t1 t2 t3 (w64 (x112.1+1)) s0.2.1 s0.2.2.1 x112.2 m1_0 m1_1 m1_2 m1_3 m1_4 m1_5) (hrc t0 t1 t2 t3 (w64 (x112.1+1)) s0.2.1 s0.2.2.1 x112.2 m1_0 m1_1 m1_2 m1_3 m1_4 m1_5) fun x116 hx116=>?_;conv=>arg 3;whnf
          exact Ze (ih _)
       ·conv=>arg 3;whnf
        refine Z5 rfl ?_;conv=>arg 3;whnf
        refine Z5 rfl ?_;conv=>arg 3;whnf
        refine Zf rfl ?_ ?_<;>conv=>arg 3;whnf
        ·refine Zf rfl ?_ ?_<;>conv=>arg 3;whnf
         ·refine Zc (Za t0 t1 t2 t3 s0.1 x112.1 s0.2.2.1 x112.2 m1_0 m1_1 m1_2 m1_3 m1_4 m1_5) (hrc t0 t1 t2 t3 s0.1 x112.1 s0.2.2.1 x112.2 m1_0 m1_1 m1_2 m1_3 m1_4 m1_5) fun x117 hx117=>?_;conv=>arg 3;whnf
          exact Ze (ih _)
         ·refine Zc (Za t0 t1 t2 t3 s0.1 x112.1 s0.2.2.1 x112.2 m1_0 m1_1 m1_2 m1_3 m1_4 m1_5) (hrc t0 t1 t2 t3 s0.1 x112.1 s0.2.2.1 x112.2 m1_0 m1_1 m1_2 m1_3 m1_4 m1_5) fun x118 hx118=>?_;conv=>arg 3;whnf
          exact Ze (ih _)
        ·refine Zf rfl ?_ ?_<;>conv=>arg 3;whnf
         ·refine Zc (Za t0 t1 t2 t3 (w64 (x112.1+1)) s0.2.1 s0.2.2.1 x112.2 m1_0 m1_1 m1_2 m1_3 m1_4 m1_5) (hrc t0 t1 t2 t3 (w64 (x112.1+1)) s0.2.1 s0.2.2.1 x112.2 m1_0 m1_1 m1_2 m1_3 m1_4 m1_5) fun x119 hx119=>?_;conv=>arg 3;whnf
          exact Ze (ih _)
         ·refine Zc (Za t0 t1 t2 t3 (w64 (x112.1+1)) s0.2.1 s0.2.2.1 x112.2 m1_0 m1_1 m1_2 m1_3 m1_4 m1_5) (hrc t0 t1 t2 t3 (w64 (x112.1+1)) s0.2.1 s0.2.2.1 x112.2 m1_0 m1_1 m1_2 m1_3 m1_4 m1_5) fun x120 hx120=>?_;conv=>arg 3;whnf
          exact Ze (ih _)
  ·refine Zj5 ?_;conv=>arg 3;whnf
   refine Zf rfl ?_ ?_<;>conv=>arg 3;whnf
   ·refine Zc _ Zaa fun x1 hx1=>?_;conv=>arg 3;whnf
    exact Zd rfl
   ·refine Zf rfl ?_ ?_<;>conv=>arg 3;whnf
    ·refine Zc _ Zar fun x2 hx2=>?_;conv=>arg 3;whnf
     exact Zd rfl
    ·refine Zc _ Zai fun x3 hx3=>?_;conv=>arg 3;whnf
     refine Zf rfl ?_ ?_<;>conv=>arg 3;whnf
     ·refine Zc _ Zah fun x4 hx4=>?_;conv=>arg 3;whnf
      refine ZaT rfl ?_;conv=>arg 3;whnf
      refine Zc _ Zbe fun x5 hx5=>?_
      clear hx5
      rcases x5 with x5 | x5
      ·conv=>arg 3;whnf
       exact Zd rfl
      ·conv=>arg 3;whnf
       refine Zf rfl ?_ ?_<;>conv=>arg 3;whnf
       ·refine Zl rfl rfl fun x6 hx6=>?_;conv=>arg 3;whnf
        refine Zg (Zz rfl hx6) ?_;conv=>arg 3;whnf
        refine Zl rfl rfl fun x7 hx7=>?_;conv=>arg 3;whnf
        refine Zg (Zz rfl hx7) ?_;conv=>arg 3;whnf
        refine Zp _ ZG rfl fun x8 hx8=>?_;conv=>arg 3;whnf
        refine Zf rfl ?_ ?_<;>conv=>arg 3;whnf
        ·refine Zc _ Zk fun x9 hx9=>?_
         clear hx9
         rcases x9 with x9 | x9
         ·conv=>arg 3;whnf
          refine ZaT rfl ?_;conv=>arg 3;whnf
          refine Z5 rfl ?_;conv=>arg 3;whnf
          refine Zf rfl ?_ ?_<;>conv=>arg 3;whnf
          ·refine Zf rfl ?_ ?_<;>conv=>arg 3;whnf
           ·refine Zc (Za t0 t1 t2 t3 s0.1 x9.1 s0.2.2.1 x9.2 m1_0 m1_1 m1_2 m1_3 m1_4 m1_5) (hrc t0 t1 t2 t3 s0.1 x9.1 s0.2.2.1 x9.2 m1_0 m1_1 m1_2 m1_3 m1_4 m1_5) fun x10 hx10=>?_;conv=>arg 3;whnf
            exact Ze (ih _)
           ·refine Zc (Za t0 t1 t2 t3 s0.1 x9.1 s0.2.2.1 x9.2 m1_0 m1_1 m1_2 m1_3 m1_4 m1_5) (hrc t0 t1 t2 t3 s0.1 x9.1 s0.2.2.1 x9.2 m1_0 m1_1 m1_2 m1_3 m1_4 m1_5) fun x11 hx11=>?_;conv=>arg 3;whnf
            exact Ze (ih _)
          ·refine Zf rfl ?_ ?_<;>conv=>arg 3;whnf
           ·refine Zc (Za t0 t1 t2 t3 (w64 (x9.1+1)) s0.2.1 s0.2.2.1 x9.2 m1_0 m1_1 m1_2 m1_3 m1_4 m1_5) (hrc t0 t1 t2 t3 (w64 (x9.1+1)) s0.2.1 s0.2.2.1 x9.2 m1_0 m1_1 m1_2 m1_3 m1_4 m1_5) fun x12 hx12=>?_;conv=>arg 3;whnf
            exact Ze (ih _)
           ·refine Zc (Za t0 t1 t2 t3 (w64 (x9.1+1)) s0.2.1 s0.2.2.1 x9.2 m1_0 m1_1 m1_2 m1_3 m1_4 m1_5) (hrc t0 t1 t2 t3 (w64 (x9.1+1)) s0.2.1 s0.2.2.1 x9.2 m1_0 m1_1 m1_2 m1_3 m1_4 m1_5) fun x13 hx13=>?_;conv=>arg 3;whnf
            exact Ze (ih _)
         ·conv=>arg 3;whnf
          refine Z5 rfl ?_;conv=>arg 3;whnf
          refine Z5 rfl ?_;conv=>arg 3;whnf
          refine Zf rfl ?_ ?_<;>conv=>arg 3;whnf
          ·refine Zf rfl ?_ ?_<;>conv=>arg 3;whnf
           ·refine Zc (Za t0 t1 t2 t3 s0.1 x9.1 s0.2.2.1 x9.2 m1_0 m1_1 m1_2 m1_3 m1_4 m1_5) (hrc t0 t1 t2 t3 s0.1 x9.1 s0.2.2.1 x9.2 m1_0 m1_1 m1_2 m1_3 m1_4 m1_5) fun x14 hx14=>?_;conv=>arg 3;whnf
            exact Ze (ih _)
           ·refine Zc (Za t0 t1 t2 t3 s0.1 x9.1 s0.2.2.1 x9.2 m1_0 m1_1 m1_2 m1_3 m1_4 m1_5) (hrc t0 t1 t2 t3 s0.1 x9.1 s0.2.2.1 x9.2 m1_0 m1_1 m1_2 m1_3 m1_4 m1_5) fun x15 hx15=>?_;conv=>arg 3;whnf
            exact Ze (ih _)
          ·refine Zf rfl ?_ ?_<;>conv=>arg 3;whnf
           ·refine Zc (Za t0 t1 t2 t3 (w64 (x9.1+1)) s0.2.1 s0.2.2.1 x9.2 m1_0 m1_1 m1_2 m1_3 m1_4 m1_5) (hrc t0 t1 t2 t3 (w64 (x9.1+1)) s0.2.1 s0.2.2.1 x9.2 m1_0 m1_1 m1_2 m1_3 m1_4 m1_5) fun x16 hx16=>?_;conv=>arg 3;whnf
            exact Ze (ih _)
           ·refine Zc (Za t0 t1 t2 t3 (w64 (x9.1+1)) s0.2.1 s0.2.2.1 x9.2 m1_0 m1_1 m1_2 m1_3 m1_4 m1_5) (hrc t0 t1 t2 t3 (w64 (x9.1+1)) s0.2.1 s0.2.2.1 x9.2 m1_0 m1_1 m1_2 m1_3 m1_4 m1_5) fun x17 hx17=>?_;conv=>arg 3;whnf
            exact Ze (ih _)
        ·refine Zc _ Zy fun x18 hx18=>?_;conv=>arg 3;whnf
         exact Ze (ih _)
       ·refine Zc _ Zk fun x19 hx19=>?_
        clear hx19
        rcases x19 with x19 | x19
        ·conv=>arg 3;whnf
         refine ZaT rfl ?_;conv=>arg 3;whnf
         refine Z5 rfl ?_;conv=>arg 3;whnf
         refine Zf rfl ?_ ?_<;>conv=>arg 3;whnf
         ·refine Zf rfl ?_ ?_<;>conv=>arg 3;whnf
          ·refine Zc (Za t0 t1 t2 t3 s0.1 x19.1 s0.2.2.1 x19.2 m1_0 m1_1 m1_2 m1_3 m1_4 m1_5) (hrc t0 t1 t2 t3 s0.1 x19.1 s0.2.2.1 x19.2 m1_0 m1_1 m1_2 m1_3 m1_4 m1_5) fun x20 hx20=>?_;conv=>arg 3;whnf
           exact Ze (ih _)
          ·refine Zc (Za t0 t1 t2 t3 s0.1 x19.1 s0.2.2.1 x19.2 m1_0 m1_1 m1_2 m1_3 m1_4 m1_5) (hrc t0 t1 t2 t3 s0.1 x19.1 s0.2.2.1 x19.2 m1_0 m1_1 m1_2 m1_3 m1_4 m1_5) fun x21 hx21=>?_;conv=>arg 3;whnf
           exact Ze (ih _)
         ·refine Zf rfl ?_ ?_<;>conv=>arg 3;whnf
          ·refine Zc (Za t0 t1 t2 t3 (w64 (x19.1+1)) s0.2.1 s0.2.2.1 x19.2 m1_0 m1_1 m1_2 m1_3 m1_4 m1_5) (hrc t0 t1 t2 t3 (w64 (x19.1+1)) s0.2.1 s0.2.2.1 x19.2 m1_0 m1_1 m1_2 m1_3 m1_4 m1_5) fun x22 hx22=>?_;conv=>arg 3;whnf
           exact Ze (ih _)
          ·refine Zc (Za t0 t1 t2 t3 (w64 (x19.1+1)) s0.2.1 s0.2.2.1 x19.2 m1_0 m1_1 m1_2 m1_3 m1_4 m1_5) (hrc t0 t1 t2 t3 (w64 (x19.1+1)) s0.2.1 s0.2.2.1 x19.2 m1_0 m1_1 m1_2 m1_3 m1_4 m1_5) fun x23 hx23=>?_;conv=>arg 3;whnf
           exact Ze (ih _)
        ·conv=>arg 3;whnf
         refine Z5 rfl ?_;conv=>arg 3;whnf
         refine Z5 rfl ?_;conv=>arg 3;whnf
         refine Zf rfl ?_ ?_<;>conv=>arg 3;whnf
         ·refine Zf rfl ?_ ?_<;>conv=>arg 3;whnf
          ·refine Zc (Za t0 t1 t2 t3 s0.1 x19.1 s0.2.2.1 x19.2 m1_0 m1_1 m1_2 m1_3 m1_4 m1_5) (hrc t0 t1 t2 t3 s0.1 x19.1 s0.2.2.1 x19.2 m1_0 m1_1 m1_2 m1_3 m1_4 m1_5) fun x24 hx24=>?_;conv=>arg 3;whnf
           exact Ze (ih _)
          ·refine Zc (Za t0 t1 t2 t3 s0.1 x19.1 s0.2.2.1 x19.2 m1_0 m1_1 m1_2 m1_3 m1_4 m1_5) (hrc t0 t1 t2 t3 s0.1 x19.1 s0.2.2.1 x19.2 m1_0 m1_1 m1_2 m1_3 m1_4 m1_5) fun x25 hx25=>?_;conv=>arg 3;whnf
           exact Ze (ih _)
         ·refine Zf rfl ?_ ?_<;>conv=>arg 3;whnf
          ·refine Zc (Za t0 t1 t2 t3 (w64 (x19.1+1)) s0.2.1 s0.2.2.1 x19.2 m1_0 m1_1 m1_2 m1_3 m1_4 m1_5) (hrc t0 t1 t2 t3 (w64 (x19.1+1)) s0.2.1 s0.2.2.1 x19.2 m1_0 m1_1 m1_2 m1_3 m1_4 m1_5) fun x26 hx26=>?_;conv=>arg 3;whnf
           exact Ze (ih _)
          ·refine Zc (Za t0 t1 t2 t3 (w64 (x19.1+1)) s0.2.1 s0.2.2.1 x19.2 m1_0 m1_1 m1_2 m1_3 m1_4 m1_5) (hrc t0 t1 t2 t3 (w64 (x19.1+1)) s0.2.1 s0.2.2.1 x19.2 m1_0 m1_1 m1_2 m1_3 m1_4 m1_5) fun x27 hx27=>?_;conv=>arg 3;whnf
           exact Ze (ih _)
     ·refine Zf rfl ?_ ?_<;>conv=>arg 3;whnf
      ·refine Zc _ Zbe fun x28 hx28=>?_
       clear hx28
       rcases x28 with x28 | x28
       ·conv=>arg 3;whnf
        exact Zd rfl
       ·conv=>arg 3;whnf
        refine Zf rfl ?_ ?_<;>conv=>arg 3;whnf
        ·refine Zl rfl rfl fun x29 hx29=>?_;conv=>arg 3;whnf
         refine Zg (Zz rfl hx29) ?_;conv=>arg 3;whnf
         refine Zl rfl rfl fun x30 hx30=>?_;conv=>arg 3;whnf
         refine Zg (Zz rfl hx30) ?_;conv=>arg 3;whnf
         refine Zp _ ZG rfl fun x31 hx31=>?_;conv=>arg 3;whnf
         refine Zf rfl ?_ ?_<;>conv=>arg 3;whnf
         ·refine Zc _ Zk fun x32 hx32=>?_
          clear hx32
          rcases x32 with x32 | x32
          ·conv=>arg 3;whnf
           refine ZaT rfl ?_;conv=>arg 3;whnf
           refine Z5 rfl ?_;conv=>arg 3;whnf
           refine Zf rfl ?_ ?_<;>conv=>arg 3;whnf
           ·refine Zf rfl ?_ ?_<;>conv=>arg 3;whnf
            ·refine Zc (Za t0 t1 t2 t3 s0.1 x32.1 s0.2.2.1 x32.2 m1_0 m1_1 m1_2 m1_3 m1_4 m1_5) (hrc t0 t1 t2 t3 s0.1 x32.1 s0.2.2.1 x32.2 m1_0 m1_1 m1_2 m1_3 m1_4 m1_5) fun x33 hx33=>?_;conv=>arg 3;whnf
             exact Ze (ih _)
            ·refine Zc (Za t0 t1 t2 t3 s0.1 x32.1 s0.2.2.1 x32.2 m1_0 m1_1 m1_2 m1_3 m1_4 m1_5) (hrc t0 t1 t2 t3 s0.1 x32.1 s0.2.2.1 x32.2 m1_0 m1_1 m1_2 m1_3 m1_4 m1_5) fun x34 hx34=>?_;conv=>arg 3;whnf
             exact Ze (ih _)
           ·refine Zf rfl ?_ ?_<;>conv=>arg 3;whnf
            ·refine Zc (Za t0 t1 t2 t3 (w64 (x32.1+1)) s0.2.1 s0.2.2.1 x32.2 m1_0 m1_1 m1_2 m1_3 m1_4 m1_5) (hrc t0 t1 t2 t3 (w64 (x32.1+1)) s0.2.1 s0.2.2.1 x32.2 m1_0 m1_1 m1_2 m1_3 m1_4 m1_5) fun x35 hx35=>?_;conv=>arg 3;whnf
             exact Ze (ih _)
            ·refine Zc (Za t0 t1 t2 t3 (w64 (x32.1+1)) s0.2.1 s0.2.2.1 x32.2 m1_0 m1_1 m1_2 m1_3 m1_4 m1_5) (hrc t0 t1 t2 t3 (w64 (x32.1+1)) s0.2.1 s0.2.2.1 x32.2 m1_0 m1_1 m1_2 m1_3 m1_4 m1_5) fun x36 hx36=>?_;conv=>arg 3;whnf
             exact Ze (ih _)
          ·conv=>arg 3;whnf
           refine Z5 rfl ?_;conv=>arg 3;whnf
           refine Z5 rfl ?_;conv=>arg 3;whnf
           refine Zf rfl ?_ ?_<;>conv=>arg 3;whnf
           ·refine Zf rfl ?_ ?_<;>conv=>arg 3;whnf
            ·refine Zc (Za t0 t1 t2 t3 s0.1 x32.1 s0.2.2.1 x32.2 m1_0 m1_1 m1_2 m1_3 m1_4 m1_5) (hrc t0 t1 t2 t3 s0.1 x32.1 s0.2.2.1 x32.2 m1_0 m1_1 m1_2 m1_3 m1_4 m1_5) fun x37 hx37=>?_;conv=>arg 3;whnf
             exact Ze (ih _)
            ·refine Zc (Za t0 t1 t2 t3 s0.1 x32.1 s0.2.2.1 x32.2 m1_0 m1_1 m1_2 m1_3 m1_4 m1_5) (hrc t0 t1 t2 t3 s0.1 x32.1 s0.2.2.1 x32.2 m1_0 m1_1 m1_2 m1_3 m1_4 m1_5) fun x38 hx38=>?_;conv=>arg 3;whnf
             exact Ze (ih _)
           ·refine Zf rfl ?_ ?_<;>conv=>arg 3;whnf
            ·refine Zc (Za t0 t1 t2 t3 (w64 (x32.1+1)) s0.2.1 s0.2.2.1 x32.2 m1_0 m1_1 m1_2 m1_3 m1_4 m1_5) (hrc t0 t1 t2 t3 (w64 (x32.1+1)) s0.2.1 s0.2.2.1 x32.2 m1_0 m1_1 m1_2 m1_3 m1_4 m1_5) fun x39 hx39=>?_;conv=>arg 3;whnf
             exact Ze (ih _)
            ·refine Zc (Za t0 t1 t2 t3 (w64 (x32.1+1)) s0.2.1 s0.2.2.1 x32.2 m1_0 m1_1 m1_2 m1_3 m1_4 m1_5) (hrc t0 t1 t2 t3 (w64 (x32.1+1)) s0.2.1 s0.2.2.1 x32.2 m1_0 m1_1 m1_2 m1_3 m1_4 m1_5) fun x40 hx40=>?_;conv=>arg 3;whnf
             exact Ze (ih _)
         ·refine Zc _ Zy fun x41 hx41=>?_;conv=>arg 3;whnf
          exact Ze (ih _)
        ·refine Zc _ Zk fun x42 hx42=>?_
         clear hx42
         rcases x42 with x42 | x42
         ·conv=>arg 3;whnf
          refine ZaT rfl ?_;conv=>arg 3;whnf
          refine Z5 rfl ?_;conv=>arg 3;whnf
          refine Zf rfl ?_ ?_<;>conv=>arg 3;whnf
          ·refine Zf rfl ?_ ?_<;>conv=>arg 3;whnf
           ·refine Zc (Za t0 t1 t2 t3 s0.1 x42.1 s0.2.2.1 x42.2 m1_0 m1_1 m1_2 m1_3 m1_4 m1_5) (hrc t0 t1 t2 t3 s0.1 x42.1 s0.2.2.1 x42.2 m1_0 m1_1 m1_2 m1_3 m1_4 m1_5) fun x43 hx43=>?_;conv=>arg 3;whnf
            exact Ze (ih _)
           ·refine Zc (Za t0 t1 t2 t3 s0.1 x42.1 s0.2.2.1 x42.2 m1_0 m1_1 m1_2 m1_3 m1_4 m1_5) (hrc t0 t1 t2 t3 s0.1 x42.1 s0.2.2.1 x42.2 m1_0 m1_1 m1_2 m1_3 m1_4 m1_5) fun x44 hx44=>?_;conv=>arg 3;whnf
            exact Ze (ih _)
          ·refine Zf rfl ?_ ?_<;>conv=>arg 3;whnf
           ·refine Zc (Za t0 t1 t2 t3 (w64 (x42.1+1)) s0.2.1 s0.2.2.1 x42.2 m1_0 m1_1 m1_2 m1_3 m1_4 m1_5) (hrc t0 t1 t2 t3 (w64 (x42.1+1)) s0.2.1 s0.2.2.1 x42.2 m1_0 m1_1 m1_2 m1_3 m1_4 m1_5) fun x45 hx45=>?_;conv=>arg 3;whnf
            exact Ze (ih _)
           ·refine Zc (Za t0 t1 t2 t3 (w64 (x42.1+1)) s0.2.1 s0.2.2.1 x42.2 m1_0 m1_1 m1_2 m1_3 m1_4 m1_5) (hrc t0 t1 t2 t3 (w64 (x42.1+1)) s0.2.1 s0.2.2.1 x42.2 m1_0 m1_1 m1_2 m1_3 m1_4 m1_5) fun x46 hx46=>?_;conv=>arg 3;whnf
            exact Ze (ih _)
         ·conv=>arg 3;whnf
          refine Z5 rfl ?_;conv=>arg 3;whnf
          refine Z5 rfl ?_;conv=>arg 3;whnf
          refine Zf rfl ?_ ?_<;>conv=>arg 3;whnf
          ·refine Zf rfl ?_ ?_<;>conv=>arg 3;whnf
           ·refine Zc (Za t0 t1 t2 t3 s0.1 x42.1 s0.2.2.1 x42.2 m1_0 m1_1 m1_2 m1_3 m1_4 m1_5) (hrc t0 t1 t2 t3 s0.1 x42.1 s0.2.2.1 x42.2 m1_0 m1_1 m1_2 m1_3 m1_4 m1_5) fun x47 hx47=>?_;conv=>arg 3;whnf
            exact Ze (ih _)
           ·refine Zc (Za t0 t1 t2 t3 s0.1 x42.1 s0.2.2.1 x42.2 m1_0 m1_1 m1_2 m1_3 m1_4 m1_5) (hrc t0 t1 t2 t3 s0.1 x42.1 s0.2.2.1 x42.2 m1_0 m1_1 m1_2 m1_3 m1_4 m1_5) fun x48 hx48=>?_;conv=>arg 3;whnf
            exact Ze (ih _)
          ·refine Zf rfl ?_ ?_<;>conv=>arg 3;whnf
           ·refine Zc (Za t0 t1 t2 t3 (w64 (x42.1+1)) s0.2.1 s0.2.2.1 x42.2 m1_0 m1_1 m1_2 m1_3 m1_4 m1_5) (hrc t0 t1 t2 t3 (w64 (x42.1+1)) s0.2.1 s0.2.2.1 x42.2 m1_0 m1_1 m1_2 m1_3 m1_4 m1_5) fun x49 hx49=>?_;conv=>arg 3;whnf
            exact Ze (ih _)
           ·refine Zc (Za t0 t1 t2 t3 (w64 (x42.1+1)) s0.2.1 s0.2.2.1 x42.2 m1_0 m1_1 m1_2 m1_3 m1_4 m1_5) (hrc t0 t1 t2 t3 (w64 (x42.1+1)) s0.2.1 s0.2.2.1 x42.2 m1_0 m1_1 m1_2 m1_3 m1_4 m1_5) fun x50 hx50=>?_;conv=>arg 3;whnf
            exact Ze (ih _)
      ·refine Zf rfl ?_ ?_<;>conv=>arg 3;whnf
       ·refine Zl rfl rfl fun x51 hx51=>?_;conv=>arg 3;whnf
        refine Zg (Zz rfl hx51) ?_;conv=>arg 3;whnf
        refine Zl rfl rfl fun x52 hx52=>?_;conv=>arg 3;whnf
        refine Zg (Zz rfl hx52) ?_;conv=>arg 3;whnf
        refine Zp _ ZG rfl fun x53 hx53=>?_;conv=>arg 3;whnf
        refine Zf rfl ?_ ?_<;>conv=>arg 3;whnf
        ·refine Zc _ Zk fun x54 hx54=>?_
         clear hx54
         rcases x54 with x54 | x54
         ·conv=>arg 3;whnf
          refine ZaT rfl ?_;conv=>arg 3;whnf
          refine Z5 rfl ?_;conv=>arg 3;whnf
          refine Zf rfl ?_ ?_<;>conv=>arg 3;whnf
          ·refine Zf rfl ?_ ?_<;>conv=>arg 3;whnf
           ·refine Zc (Za t0 t1 t2 t3 s0.1 x54.1 s0.2.2.1 x54.2 m1_0 m1_1 m1_2 m1_3 m1_4 m1_5) (hrc t0 t1 t2 t3 s0.1 x54.1 s0.2.2.1 x54.2 m1_0 m1_1 m1_2 m1_3 m1_4 m1_5) fun x55 hx55=>?_;conv=>arg 3;whnf
            exact Ze (ih _)
           ·refine Zc (Za t0 t1 t2 t3 s0.1 x54.1 s0.2.2.1 x54.2 m1_0 m1_1 m1_2 m1_3 m1_4 m1_5) (hrc t0 t1 t2 t3 s0.1 x54.1 s0.2.2.1 x54.2 m1_0 m1_1 m1_2 m1_3 m1_4 m1_5) fun x56 hx56=>?_;conv=>arg 3;whnf
            exact Ze (ih _)
          ·refine Zf rfl ?_ ?_<;>conv=>arg 3;whnf
           ·refine Zc (Za t0 t1 t2 t3 (w64 (x54.1+1)) s0.2.1 s0.2.2.1 x54.2 m1_0 m1_1 m1_2 m1_3 m1_4 m1_5) (hrc t0 t1 t2 t3 (w64 (x54.1+1)) s0.2.1 s0.2.2.1 x54.2 m1_0 m1_1 m1_2 m1_3 m1_4 m1_5) fun x57 hx57=>?_;conv=>arg 3;whnf
            exact Ze (ih _)
           ·refine Zc (Za t0 t1 t2 t3 (w64 (x54.1+1)) s0.2.1 s0.2.2.1 x54.2 m1_0 m1_1 m1_2 m1_3 m1_4 m1_5) (hrc t0 t1 t2 t3 (w64 (x54.1+1)) s0.2.1 s0.2.2.1 x54.2 m1_0 m1_1 m1_2 m1_3 m1_4 m1_5) fun x58 hx58=>?_;conv=>arg 3;whnf
            exact Ze (ih _)
         ·conv=>arg 3;whnf
          refine Z5 rfl ?_;conv=>arg 3;whnf
          refine Z5 rfl ?_;conv=>arg 3;whnf
          refine Zf rfl ?_ ?_<;>conv=>arg 3;whnf
          ·refine Zf rfl ?_ ?_<;>conv=>arg 3;whnf
           ·refine Zc (Za t0 t1 t2 t3 s0.1 x54.1 s0.2.2.1 x54.2 m1_0 m1_1 m1_2 m1_3 m1_4 m1_5) (hrc t0 t1 t2 t3 s0.1 x54.1 s0.2.2.1 x54.2 m1_0 m1_1 m1_2 m1_3 m1_4 m1_5) fun x59 hx59=>?_;conv=>arg 3;whnf
            exact Ze (ih _)
           ·refine Zc (Za t0 t1 t2 t3 s0.1 x54.1 s0.2.2.1 x54.2 m1_0 m1_1 m1_2 m1_3 m1_4 m1_5) (hrc t0 t1 t2 t3 s0.1 x54.1 s0.2.2.1 x54.2 m1_0 m1_1 m1_2 m1_3 m1_4 m1_5) fun x60 hx60=>?_;conv=>arg 3;whnf
            exact Ze (ih _)
          ·refine Zf rfl ?_ ?_<;>conv=>arg 3;whnf
           ·refine Zc (Za t0 t1 t2 t3 (w64 (x54.1+1)) s0.2.1 s0.2.2.1 x54.2 m1_0 m1_1 m1_2 m1_3 m1_4 m1_5) (hrc t0 t1 t2 t3 (w64 (x54.1+1)) s0.2.1 s0.2.2.1 x54.2 m1_0 m1_1 m1_2 m1_3 m1_4 m1_5) fun x61 hx61=>?_;conv=>arg 3;whnf
            exact Ze (ih _)
           ·refine Zc (Za t0 t1 t2 t3 (w64 (x54.1+1)) s0.2.1 s0.2.2.1 x54.2 m1_0 m1_1 m1_2 m1_3 m1_4 m1_5) (hrc t0 t1 t2 t3 (w64 (x54.1+1)) s0.2.1 s0.2.2.1 x54.2 m1_0 m1_1 m1_2 m1_3 m1_4 m1_5) fun x62 hx62=>?_;conv=>arg 3;whnf
            exact Ze (ih _)
        ·refine Zc _ Zy fun x63 hx63=>?_;conv=>arg 3;whnf
         exact Ze (ih _)
       ·refine Zc _ Zk fun x64 hx64=>?_
        clear hx64
        rcases x64 with x64 | x64
        ·conv=>arg 3;whnf
         refine ZaT rfl ?_;conv=>arg 3;whnf
         refine Z5 rfl ?_;conv=>arg 3;whnf
         refine Zf rfl ?_ ?_<;>conv=>arg 3;whnf
         ·refine Zf rfl ?_ ?_<;>conv=>arg 3;whnf
          ·refine Zc (Za t0 t1 t2 t3 s0.1 x64.1 s0.2.2.1 x64.2 m1_0 m1_1 m1_2 m1_3 m1_4 m1_5) (hrc t0 t1 t2 t3 s0.1 x64.1 s0.2.2.1 x64.2 m1_0 m1_1 m1_2 m1_3 m1_4 m1_5) fun x65 hx65=>?_;conv=>arg 3;whnf
           exact Ze (ih _)
          ·refine Zc (Za t0 t1 t2 t3 s0.1 x64.1 s0.2.2.1 x64.2 m1_0 m1_1 m1_2 m1_3 m1_4 m1_5) (hrc t0 t1 t2 t3 s0.1 x64.1 s0.2.2.1 x64.2 m1_0 m1_1 m1_2 m1_3 m1_4 m1_5) fun x66 hx66=>?_;conv=>arg 3;whnf
           exact Ze (ih _)
         ·refine Zf rfl ?_ ?_<;>conv=>arg 3;whnf
          ·refine Zc (Za t0 t1 t2 t3 (w64 (x64.1+1)) s0.2.1 s0.2.2.1 x64.2 m1_0 m1_1 m1_2 m1_3 m1_4 m1_5) (hrc t0 t1 t2 t3 (w64 (x64.1+1)) s0.2.1 s0.2.2.1 x64.2 m1_0 m1_1 m1_2 m1_3 m1_4 m1_5) fun x67 hx67=>?_;conv=>arg 3;whnf
           exact Ze (ih _)
          ·refine Zc (Za t0 t1 t2 t3 (w64 (x64.1+1)) s0.2.1 s0.2.2.1 x64.2 m1_0 m1_1 m1_2 m1_3 m1_4 m1_5) (hrc t0 t1 t2 t3 (w64 (x64.1+1)) s0.2.1 s0.2.2.1 x64.2 m1_0 m1_1 m1_2 m1_3 m1_4 m1_5) fun x68 hx68=>?_;conv=>arg 3;whnf
           exact Ze (ih _)
        ·conv=>arg 3;whnf
         refine Z5 rfl ?_;conv=>arg 3;whnf
         refine Z5 rfl ?_;conv=>arg 3;whnf
         refine Zf rfl ?_ ?_<;>conv=>arg 3;whnf
         ·refine Zf rfl ?_ ?_<;>conv=>arg 3;whnf
          ·refine Zc (Za t0 t1 t2 t3 s0.1 x64.1 s0.2.2.1 x64.2 m1_0 m1_1 m1_2 m1_3 m1_4 m1_5) (hrc t0 t1 t2 t3 s0.1 x64.1 s0.2.2.1 x64.2 m1_0 m1_1 m1_2 m1_3 m1_4 m1_5) fun x69 hx69=>?_;conv=>arg 3;whnf
           exact Ze (ih _)
          ·refine Zc (Za t0 t1 t2 t3 s0.1 x64.1 s0.2.2.1 x64.2 m1_0 m1_1 m1_2 m1_3 m1_4 m1_5) (hrc t0 t1 t2 t3 s0.1 x64.1 s0.2.2.1 x64.2 m1_0 m1_1 m1_2 m1_3 m1_4 m1_5) fun x70 hx70=>?_;conv=>arg 3;whnf
           exact Ze (ih _)
         ·refine Zf rfl ?_ ?_<;>conv=>arg 3;whnf
          ·refine Zc (Za t0 t1 t2 t3 (w64 (x64.1+1)) s0.2.1 s0.2.2.1 x64.2 m1_0 m1_1 m1_2 m1_3 m1_4 m1_5) (hrc t0 t1 t2 t3 (w64 (x64.1+1)) s0.2.1 s0.2.2.1 x64.2 m1_0 m1_1 m1_2 m1_3 m1_4 m1_5) fun x71 hx71=>?_;conv=>arg 3;whnf
           exact Ze (ih _)
          ·refine Zc (Za t0 t1 t2 t3 (w64 (x64.1+1)) s0.2.1 s0.2.2.1 x64.2 m1_0 m1_1 m1_2 m1_3 m1_4 m1_5) (hrc t0 t1 t2 t3 (w64 (x64.1+1)) s0.2.1 s0.2.2.1 x64.2 m1_0 m1_1 m1_2 m1_3 m1_4 m1_5) fun x72 hx72=>?_;conv=>arg 3;whnf
           exact Ze (ih _)
theorem Zd6 (rc:Int→Int→Int→(Int→Int→Option Int)→(List Int)→Option (List Int)) (hrc:∀(t0:Bool) (t1:Bool) (t2:Bool) (t3:Bool) (b:Int) (c:Int) (d:Int) (m0_0:(List Int)) (m1_0:Int) (m1_1:Int) (m1_2:(List ZV)) (m1_3:(List Zm)) (m1_4:(List Zi)) (m1_5:(List Zs)) (r:(List Int)),rc b c d (fun z0 z1=>Zt z0 z1 m1_4) m0_0=some r→evW ctx 124 [(.sl 0 1),(.d (Zb b)),(.d (Zb c)),(.d (Zb d)),(.fn 118 [(.ptr 1 0)])] [(.arr 1 (List.map Zb m0_0)),(.cells [(.d (Zb m1_0)),(.d (Zb m1_1)),(.d (D.list t0 (List.map Z2 m1_2))),(.d (D.list t1 (List.map ZD m1_3))),(.d (D.list t2 (List.map Zq m1_4))),(.d (D.list t3 (List.map Zv m1_5)))])]=some ((Za t0 t1 t2 t3 b c d m0_0 m1_0 m1_1 m1_2 m1_3 m1_4 m1_5) r)) (t0:Bool) (t1:Bool) (t2:Bool) (t3:Bool) (b:Int) (c:Int) (d:Int) (m0_0:(List Int)) (m1_0:Int) (m1_1:Int) (m1_2:(List ZV)) (m1_3:(List Zm)) (m1_4:(List Zi)) (m1_5:(List Zs)):∀r,(Zat rc b c d (fun z0 z1=>Zt z0 z1 m1_4) m0_0)=some r→evW ctx 124 [(.sl 0 1),(.d (Zb b)),(.d (Zb c)),(.d (Zb d)),(.fn 118 [(.ptr 1 0)])] [(.arr 1 (List.map Zb m0_0)),(.cells [(.d (Zb m1_0)),(.d (Zb m1_1)),(.d (D.list t0 (List.map Z2 m1_2))),(.d (D.list t1 (List.map ZD m1_3))),(.d (D.list t2 (List.map Zq m1_4))),(.d (D.list t3 (List.map Zv m1_5)))])]=some ((Za t0 t1 t2 t3 b c d m0_0 m1_0 m1_1 m1_2 m1_3 m1_4 m1_5) r):=by
 show ZM _ (fun r rhs=>rhs=some ((Za t0 t1 t2 t3 b c d m0_0 m1_0 m1_1 m1_2 m1_3 m1_4 m1_5) r)) _
 unfold Zat
 rw[Zff ctx 124 Zxr _ _ rfl rfl]
 conv=>arg 3;whnf
 refine Zc _ (Zd2 hrc _) fun r219 hr219=>?_;conv=>arg 3;whnf
 exact Zd rfl
theorem Zb6:∀(n:Nat) (t0:Bool) (t1:Bool) (t2:Bool) (t3:Bool) (b:Int) (c:Int) (d:Int) (m0_0:(List Int)) (m1_0:Int) (m1_1:Int) (m1_2:(List ZV)) (m1_3:(List Zm)) (m1_4:(List Zi)) (m1_5:(List Zs)) (r:(List Int)),ZZ n b c d (fun z0 z1=>Zt z0 z1 m1_4) m0_0=some r→evW ctx 124 [(.sl 0 1),(.d (Zb b)),(.d (Zb c)),(.d (Zb d)),(.fn 118 [(.ptr 1 0)])] [(.arr 1 (List.map Zb m0_0)),(.cells [(.d (Zb m1_0)),(.d (Zb m1_1)),(.d (D.list t0 (List.map Z2 m1_2))),(.d (D.list t1 (List.map ZD m1_3))),(.d (D.list t2 (List.map Zq m1_4))),(.d (D.list t3 (List.map Zv m1_5)))])]=some ((Za t0 t1 t2 t3 b c d m0_0 m1_0 m1_1 m1_2 m1_3 m1_4 m1_5) r)
  | 0,t0,t1,t2,t3,b,c,d,m0_0,m1_0,m1_1,m1_2,m1_3,m1_4,m1_5,r,h=>by cases h
  | n+1,t0,t1,t2,t3,b,c,d,m0_0,m1_0,m1_1,m1_2,m1_3,m1_4,m1_5,r,h=>Zd6 (ZZ n) (Zb6 n) t0 t1 t2 t3 b c d m0_0 m1_0 m1_1 m1_2 m1_3 m1_4 m1_5 r h
theorem Zes {t0:Bool}{t1:Bool}{t2:Bool}{t3:Bool}{b:Int}{c:Int}{d:Int}{m0_0:(List Int)}{m1_0:Int}{m1_1:Int}{m1_2:(List ZV)}{m1_3:(List Zm)}{m1_4:(List Zi)}{m1_5:(List Zs)}:∀r,Zdw b c d (fun z0 z1=>Zt z0 z1 m1_4) m0_0=some r→evW ctx 124 [(.sl 0 1),(.d (Zb b)),(.d (Zb c)),(.d (Zb d)),(.fn 118 [(.ptr 1 0)])] [(.arr 1 (List.map Zb m0_0)),(.cells [(.d (Zb m1_0)),(.d (Zb m1_1)),(.d (D.list t0 (List.map Z2 m1_2))),(.d (D.list t1 (List.map ZD m1_3))),(.d (D.list t2 (List.map Zq m1_4))),(.d (D.list t3 (List.map Zv m1_5)))])]=some ((Za t0 t1 t2 t3 b c d m0_0 m1_0 m1_1 m1_2 m1_3 m1_4 m1_5) r):=fun r h=>by
  obtain⟨n,hn⟩:=Zym h
  exact Zb6 n t0 t1 t2 t3 b c d m0_0 m1_0 m1_1 m1_2 m1_3 m1_4 m1_5 r hn
def Zcq (t0:Bool) (t1:Bool) (t2:Bool) (t3:Bool) (m0_0:(List Int)) (m1_0:Int) (m1_1:Int) (m1_2:(List ZV)) (m1_3:(List Zm)) (m1_4:(List Zi)) (m1_5:(List Zs)):(List Int)→V×Zo
  | r=>((.d (D.tup [])),[(.arr 1 (List.map Zb r)),(.cells [(.d (Zb m1_0)),(.d (Zb m1_1)),(.d (D.list t0 (List.map Z2 m1_2))),(.d (D.list t1 (List.map ZD m1_3))),(.d (D.list t2 (List.map Zq m1_4))),(.d (D.list t3 (List.map Zv m1_5)))])])
theorem Zer {t0:Bool}{t1:Bool}{t2:Bool}{t3:Bool}{m0_0:(List Int)}{m1_0:Int}{m1_1:Int}{m1_2:(List ZV)}{m1_3:(List Zm)}{m1_4:(List Zi)}{m1_5:(List Zs)}:∀r,(ZaM (fun z0 z1=>Zt z0 z1 m1_4) m0_0)=some r→evW ctx 117 [(.sl 0 1),(.fn 118 [(.ptr 1 0)])] [(.arr 1 (List.map Zb m0_0)),(.cells [(.d (Zb m1_0)),(.d (Zb m1_1)),(.d (D.list t0 (List.map Z2 m1_2))),(.d (D.list t1 (List.map ZD m1_3))),(.d (D.list t2 (List.map Zq m1_4))),(.d (D.list t3 (List.map Zv m1_5)))])]=some ((Zcq t0 t1 t2 t3 m0_0 m1_0 m1_1 m1_2 m1_3 m1_4 m1_5) r):=by
 show ZM _ (fun r rhs=>rhs=some ((Zcq t0 t1 t2 t3 m0_0 m1_0 m1_1 m1_2 m1_3 m1_4 m1_5) r)) _
 unfold ZaM
 rw[Zff ctx 117 Zvc _ _ rfl rfl]
 conv=>arg 3;whnf
 refine Zn (ZF _ _) ?_;conv=>arg 3;whnf
 refine Zp _ Zh1 rfl fun x0 hx0=>?_;conv=>arg 3;whnf
 refine Zc _ Zes fun x1 hx1=>?_;conv=>arg 3;whnf
 exact Zd rfl
def ZiN (r:(List Int)):D:=(D.list true (List.map Zb r))
def Zhk (t0:Bool) (t1:Bool) (t2:Bool) (t3:Bool) (a:Zj) (b:Int):(List Int)→Ex×List V×Zo
  | r=>(.exit 0,[(.ptr 0 0),(.sl 1 1)],[(.cells (dV t0 t1 t2 t3 a)),(.arr 1 (List.map Zb r))])
theorem Zkp {t0:Bool}{t1:Bool}{t2:Bool}{t3:Bool}{a:Zj}{b:Int}:∀(s1:Int×(List Int)) (r:(List Int)),lp (Zdi a b) s1=some r→lpW ctx 0 [1,2,5,12,13,14] [2,5] Zug [(.d (Zb b)),(.ptr 0 0),(.sl 1 1),(.d (D.list t2 (List.map Zq a.futures))),(.d (Zb (a.futures.length:Int))),(.d (Zb s1.1))] [(.cells (dV t0 t1 t2 t3 a)),(.arr 1 (List.map Zb s1.2))]=some ((Zhk t0 t1 t2 t3 a b) r):=by
 refine ZaG (Zhk t0 t1 t2 t3 a b) ?_
 intro s1 rcl ih
 show ZM _ _ (lpW _ _ _ _ _ _ _)
 unfold Zdi
 rw[ZaH]
 conv=>arg 3;whnf
 refine Zf rfl ?_ ?_<;>conv=>arg 3;whnf
 ·refine Zl rfl rfl fun x2 hx2=>?_;conv=>arg 3;whnf
  refine Zf rfl ?_ ?_<;>conv=>arg 3;whnf
  ·refine ZaT rfl ?_;conv=>arg 3;whnf
   refine Zf (ZgQ Zb s1.2 1) ?_ ?_
   ·conv=>arg 3;whnf
    refine Zn (ZgP Zb s1.2 [s1.1]) ?_;conv=>arg 3;whnf
    exact Ze (ih _)
   ·exact Zaj
  ·exact Ze (ih _)
 ·exact Zd rfl
theorem Zio {t0:Bool}{t1:Bool}{t2:Bool}{t3:Bool}{a:Zj}{b:Int}:∀r,(ZcJ a b)=some r→evD ctx 101 [(.d (D.agg (dA t0 t1 t2 t3 a))),(.d (Zb b))]=some (ZiN r):=by
 show ZM _ (fun r rhs=>rhs=some (ZiN r)) _
 unfold ZcJ
 rw[Za1 ctx 101 ZvO _ rfl rfl]
 conv=>arg 3;whnf
 refine Zp _ Zhd rfl fun x0 hx0=>?_;conv=>arg 3;whnf
 refine Zf rfl ?_ ?_<;>conv=>arg 3;whnf
 ·exact Zd rfl
 ·refine Zn (ZF _ _) ?_;conv=>arg 3;whnf
  refine Zc _ (Zkp _) fun r3 hr3=>?_;conv=>arg 3;whnf
  refine Zc _ Zer fun x4 hx4=>?_;conv=>arg 3;whnf
  exact Zd rfl
end Go.Proofs.YtnmbdjkbaihicaaDoor
