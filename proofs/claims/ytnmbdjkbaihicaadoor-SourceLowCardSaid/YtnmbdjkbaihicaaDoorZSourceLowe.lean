/- SourceLow: part 5 of 6 of the proof. -/
import Derived.Test.YtnmbdjkbaihicaaDoorZSourceLowd
import Derived.KernelRfl
set_option maxRecDepth 100000
set_option maxHeartbeats 40000000
namespace Go.Proofs.YtnmbdjkbaihicaaDoor
open Go Go.Proofs.YtnmbdjkbaihicaaDoorE
set_option linter.unusedVariables false
set_option linter.unusedSimpArgs false
theorem ZgD (b:Zi) (c:Int) {W:List Int}{P:List Zi} (h1:W.length≤10000) (h2:P.length≤10000):Zaj b c W P=some ():=by
 unfold Zaj
 rw[Zg1 (by omega),Zg1 (by omega)];rfl
theorem Zjv (b c:Int) {E:List Zm} (h1:E.length≤10000):ZJ b c E=some ():=by
 unfold ZJ
 rw[Zg1 (by omega)];rfl
theorem Zsv {β:Type} (P:List β) (x:β) (hP:P.length≤10000):w64 ((List.length (P++[x]):Int)-1)=(P.length:Int):=by
 rw[List.length_append]
 simp only[List.length_cons,List.length_nil]
 rw[ZcD (by omega) (by omega)]
 omega
theorem Zwn {d:Zh} (g:ZaE d) {n:Nat} (hn:n<d.parts.length) (hc:Zcy d (n:Int)=some (tch d n)) {W:List Int}{E:List Zm}{P:List Zi} (M5:List (Int×Int)) (M6:List (Zj×Int)) (hW:W.length≤1000) (hE:E.length≤1000) (hP:P.length≤1000) :
  Zdr d (n:Int) W E P M5 M6=(lp (ZA d (n:Int) (tch d n)) (0,0,M5,M6,W,E,P)).bind fun r=>some (bif decide (0<nt d n) then .inl r else .inr (.inl r.2.2.1)):=by
 obtain⟨x,x1,x2⟩:=Zvw hn
 have hnt:=Zya g n
 have hnl:(tch d n).length=nt d n:=rfl
 have e1:w64 (((tch d n).length:Int)+1)=(((tch d n).length+1:Nat):Int):=by rw[ZcD (by omega) (by omega)];omega
 have w1:w64 ((0:Int)+1)=1:=ZcD (by omega) (by omega)
 have w2:w64 ((1:Int)+1)=2:=ZcD (by omega) (by omega)
 have w0:w64 ((1:Int)-1)=0:=ZcD (by omega) (by omega)
 have lW:∀a:Int,(W++[a]).length≤10000:=fun a=>by rw[List.length_append];simp only[List.length_cons,List.length_nil];omega
 have lP:∀a:Zi,(P++[a]).length≤10000:=fun a=>by rw[List.length_append];simp only[List.length_cons,List.length_nil];omega
 unfold Zdr
 rw[hc,Option.bind_some,ZaU (Zbt d (n:Int) W E P M5 M6 (tch d n)),ZaU (ZA d (n:Int) (tch d n))]
 by_cases h0:0<nt d n
 ·obtain⟨f,f1,f2,_⟩:=Zjo g.g h0
  have c0:decide ((0:Int)<(((tch d n).length+1:Nat):Int))=true:=decide_eq_true (by omega)
  have c1:decide ((0:Int)<((tch d n).length:Int))=true:=decide_eq_true (by omega)
  have c2:decide ((1:Int)<(((tch d n).length+1:Nat):Int))=true:=decide_eq_true (by omega)
  have f1':ZE (tch d n) 0=some (tch d n)[0]:=f1
  simp only[Zbt,ZA,e1,c0,c1,cond_true,x1,Option.bind_some,f1',f2,ZgD _ _ (show W.length≤10000 by omega) (show P.length≤10000 by omega),w1,decide_eq_false (show ¬(0:Int)<0 by omega),cond_false,decide_eq_true h0]
  rw[ZaU (Zbs d (n:Int) W E P M5 M6 (tch d n) f),ZaU (ZA d (n:Int) (tch d n))]
  by_cases h1:1<nt d n
  ·obtain⟨f',f1b,f2b,_⟩:=Zjo g.g h1
   have f1b':ZE (tch d n) 1=some (tch d n)[1]:=f1b
   have c3:decide ((1:Int)<((tch d n).length:Int))=true:=decide_eq_true (by omega)
   simp only[Zbs,ZA,e1,c2,c3,cond_true,x1,Option.bind_some,f1',f2,f1b',f2b,ZgD _ _ (lW _) (lP _),Zjv _ _ (show E.length≤10000 by omega),w2,w0,decide_eq_true (show(0:Int)<1 by omega)]
   generalize lp (ZA d (n:Int) (tch d n)) _=r
   cases r<;>rfl
  ·have c3:decide ((1:Int)<((tch d n).length:Int))=false:=decide_eq_false (by omega)
   simp only[Zbs,ZA,e1,c2,c3,cond_true,cond_false,x1,Option.bind_some,f1',f2,ZgD _ _ (lW _) (lP _),Zjv _ _ (show E.length≤10000 by omega),w2,w0,decide_eq_true (show(0:Int)<1 by omega)]
   generalize lp (ZA d (n:Int) (tch d n)) _=r
   cases r<;>rfl
 ·have c0:decide ((0:Int)<(((tch d n).length+1:Nat):Int))=true:=decide_eq_true (by omega)
  have c1:decide ((0:Int)<((tch d n).length:Int))=false:=decide_eq_false (by omega)
  have c2:decide ((1:Int)<(((tch d n).length+1:Nat):Int))=false:=decide_eq_false (by omega)
  simp only[Zbt,ZA,e1,c0,c1,cond_true,x1,Option.bind_some,ZgD _ _ (show W.length≤10000 by omega) (show P.length≤10000 by omega),w1,decide_eq_false (show ¬(0:Int)<0 by omega),cond_false,decide_eq_false h0]
  rw[ZaU (Zcc d (n:Int) W E P M5 M6 (tch d n) x),ZaU (ZA d (n:Int) (tch d n))]
  simp only[Zcc,ZA,e1,c2,cond_false,Option.bind_some]
abbrev eqF:Zj→Zj→Bool:=fun ka kb:Zj=>((ka.maker==kb.maker)&&((ka.user==kb.user)&&((ka.pos==kb.pos)&&true)))
def ZiD (M:List (Int×Int)) (n F i:Nat):List (Int×Int):=if i=0 then M else M++[((n:Int),((F+i-1:Nat):Int))]
theorem ZtM {M:List (Int×Int)}{n F:Nat} (h:∀q∈M,q.1≠(n:Int)) (i:Nat):Zu (fun ka kb:Int=>(ka==kb)) (ZiD M n F i) (n:Int) ((F+i:Nat):Int)=ZiD M n F (i+1):=by
 have hq:∀q∈M,eqI (n:Int) q.1=false:=fun q hq=>by
  show((n:Int)==q.1)=false
  exact beq_false_of_ne (Ne.symm (h q hq))
 unfold ZiD
 rw[if_neg (show i+1≠0 by omega)]
 by_cases h0:i=0
 ·subst h0
  rw[if_pos rfl]
  exact ZgN eqI (n:Int) _ M hq
 ·rw[if_neg h0]
  exact Zoc eqI (n:Int) _ _ (by simp) M hq
theorem ZsO {M:List (Int×Int)}{n F:Nat} (h:∀q∈M,q.1≠(n:Int)) (i:Nat):Z2 (fun ka kb:Int=>(ka==kb)) (ZiD M n F (i+1)) (n:Int) 0=((F+i:Nat):Int):=by
 unfold ZiD
 rw[if_neg (show i+1≠0 by omega)]
 exact Zra eqI (n:Int) 0 _ (by simp) M [] (fun q hq=>by
  show((n:Int)==q.1)=false
  exact beq_false_of_ne (Ne.symm (h q hq)))
def ZfU (d:Zh) (n j:Nat):Zj:=match (tch d n)[j]? with | some z=>(match d.futures[z.toNat]? with | some f=>f | none=>⟨0,0,0⟩) | none=>⟨0,0,0⟩
theorem Zc9 {d:Zh}{n i:Nat} (g:ZkO d) (hi:i<nt d n):ZE (tch d n) (i:Int)=some (tch d n)[i]∧ZE d.futures (tch d n)[i]=some (ZfU d n i)∧(ZfU d n i).user=(n:Int)∧(ZfU d n i).pos=cut d n (i+1)∧ZfU d n i∈d.futures:=by
 obtain⟨f,h1,h2,h3,h4,h5,h6⟩:=Zjo g hi
 have e:ZfU d n i=f:=by
  unfold ZfU
  rw[List.getElem?_eq_getElem hi]
  show(match d.futures[((tch d n)[i]).toNat]? with | some f=>f | none=>⟨0,0,0⟩)=f
  rw[h3]
 rw[e]
 exact⟨h1,h2,h4,h5,h6⟩
theorem ZmD {d:Zh} (g:ZkO d) {n i j:Nat} (hij:i<j) (hj:j<nt d n):(ZfU d n i).pos<(ZfU d n j).pos:=by
 obtain⟨_,_,h3,_,_,h5,_⟩:=Zjo g (show i<nt d n by omega)
 obtain⟨_,_,k3,_,_,k5,_⟩:=Zjo g hj
 rw[(Zc9 g (show i<nt d n by omega)).2.2.2.1,(Zc9 g hj).2.2.2.1]
 have:=List.pairwise_iff_getElem.1 (Zl8 g n).rise i j (show i<nt d n by omega) hj hij
 have e:∀k (hk:k<nt d n),cut d n (k+1)=ZeJ d.futures (tch d n)[k]:=fun k hk=>by
  unfold cut
  rw[if_neg (by omega),Nat.add_sub_cancel,List.getElem?_eq_getElem hk]
 rw[e i (by omega),e j hj]
 exact this
def ZfI (d:Zh) (n k:Nat):List (Zj×Int):=(List.range k).map fun j:Nat=>(ZfU d n j,((ZB d n+j+1:Nat):Int))
theorem ZsD (d:Zh) (n k:Nat):ZfI d n (k+1)=ZfI d n k++[(ZfU d n k,((ZB d n+k+1:Nat):Int))]:=by unfold ZfI;rw[List.range_succ,List.map_append];rfl
theorem Zsa {a b:Zj} (h:a.user≠b.user∨a.pos≠b.pos):eqF a b=false:=by
 show((a.maker==b.maker)&&((a.user==b.user)&&((a.pos==b.pos)&&true)))=false
 rcases h with h | h
 ·rw[beq_false_of_ne h];simp
 ·rw[beq_false_of_ne h];simp
theorem Zpu {d:Zh} (g:ZkO d) {n k:Nat} (hk:k<nt d n) {M:List (Zj×Int)} (h:∀q∈M,q.1.user≠(n:Int)) :
  Zu (fun ka kb:Zj=>((ka.maker==kb.maker)&&((ka.user==kb.user)&&((ka.pos==kb.pos)&&true)))) (M++ZfI d n k) (ZfU d n k) ((ZB d n+(k+1):Nat):Int)=M++ZfI d n (k+1):=by
 rw[ZsD,← List.append_assoc]
 refine ZgN eqF _ _ _ fun q hq=>?_
 have hu:=(Zc9 g hk).2.2.1
 rcases List.mem_append.1 hq with hq | hq
 ·exact Zsa (.inl (by rw[hu];exact Ne.symm (h q hq)))
 ·unfold ZfI at hq
  obtain⟨j,hj,rfl⟩:=List.mem_map.1 hq
  rw[List.mem_range] at hj
  have:=ZmD g hj hk
  exact Zsa (.inr (by show(ZfU d n k).pos≠(ZfU d n j).pos;omega))
theorem ZuG {d:Zh} (g:ZaE d) {n:Nat} (hn:n<d.parts.length) {W:List Int}{E:List Zm}{P:List Zi}{M5:List (Int×Int)}{M6:List (Zj×Int)} (hW:W.length≤1000) (hE:E.length≤1000) (hP:P.length=ZB d n)
  (h5:∀q∈M5,q.1≠(n:Int)) (h6:∀q∈M6,q.1.user≠(n:Int)) :
  lp (ZA d (n:Int) (tch d n)) (0,0,M5,M6,W,E,P)=some (M5++[((n:Int),((ZB d n+nt d n:Nat):Int))],M6++ZfI d n (nt d n),W++ZkE d n,E++Zfb d n (nt d n),P++Zed n (nt d n+1)):=by
 obtain⟨x,x1,x2⟩:=Zvw hn
 have hnt:=Zya g n
 have hnl:(tch d n).length=nt d n:=rfl
 have hF:=ZhF g n
 have hpl:=g.pl
 have e1:w64 (((tch d n).length:Int)+1)=((nt d n+1:Nat):Int):=by show w64 ((nt d n:Int)+1)=_;rw[ZcD (by omega) (by omega)];omega
 have key:∀(k i:Nat),i+k=nt d n+1→lp (ZA d (n:Int) (tch d n)) (cut d n i,(i:Int),ZiD M5 n (ZB d n) i,M6++ZfI d n (i-1),W++ZhN d n i,E++Zfb d n (i-1),P++Zed n i) =
   some (ZiD M5 n (ZB d n) (nt d n+1),M6++ZfI d n (nt d n),W++ZkE d n,E++Zfb d n (nt d n),P++Zed n (nt d n+1)):=by
  intro k
  induction k with
  | zero=>
   intro i hi
   have:i=nt d n+1:=by omega
   subst this
   rw[ZaU]
   simp only[ZA,e1,ZeG,cond_false]
   rfl
  | succ k ih=>
   intro i hi
   have hi':i<nt d n+1:=by omega
   have b0:=ZuW g.g n i
   have b1:=ZuW g.g n (i+1)
   have lP:(P++Zed n i).length=ZB d n+i:=by rw[List.length_append,Zn5,hP]
   have l2:(W++ZhN d n i).length≤10000:=by rw[List.length_append,Zp5];omega
   have l3:(E++Zfb d n (i-1)).length≤10000:=by rw[List.length_append,Zl3];omega
   have lput:=Zsv (P++Zed n i) (Zi.mk (n:Int) (i:Int)) (by rw[lP];omega)
   rw[lP] at lput
   have p5:=ZtM (F:=ZB d n) h5 i
   have g5:=ZsO (F:=ZB d n) h5 i
   have w5:w64 (cut d n (i+1)-cut d n i)=cut d n (i+1)-cut d n i:=ZcD (by omega) (by omega)
   have ih':=ih (i+1) (by omega)
   rw[ZsS,ZrP,← List.append_assoc,← List.append_assoc] at ih'
   rw[ZaU]
   have fin:i=nt d n→cut d n (i+1)=x.work:=fun h=>by rw[h,Zlf,x2]
   have node:=fun c=>ZgD (Zi.mk (n:Int) (i:Int)) c l2 (show(P++Zed n i).length≤10000 by rw[lP];omega)
   by_cases hlast:i<nt d n
   ·obtain⟨q1,q2,q3,q4,_⟩:=Zc9 g.g hlast
    cases i with
    | zero=>
     simp only[ZA,e1,ZdX hi',cond_true,x1,Option.bind_some,ZdX (show 0<(tch d n).length from hlast),q1,q2,q4,node,decide_eq_false (show ¬(0:Int)<((0:Nat):Int) by omega),cond_false,lput,p5,w5,ZW hi' (show nt d n+1<9223372036854775808 by omega)]
     exact ih'
    | succ j=>
     obtain⟨r1,r2,r3,r4,_⟩:=Zc9 g.g (show j<nt d n by omega)
     have e2:w64 (((j+1:Nat):Int)-1)=(j:Int):=by rw[ZcD (by omega) (by omega)];omega
     have e3:w64 (((ZB d n+(j+1):Nat):Int)-1)=((ZB d n+j:Nat):Int):=by rw[ZcD (by omega) (by omega)];omega
     have p6:=Zpu g.g (show j<nt d n by omega) h6
     rw[Nat.add_sub_cancel] at l3 ih' ⊢
     rw[Zob,← List.append_assoc] at ih'
     simp only[ZA,e1,ZdX hi',cond_true,x1,Option.bind_some,ZdX (show j+1<(tch d n).length from hlast),q1,q2,q4,node,decide_eq_true (show(0:Int)<((j+1:Nat):Int) by omega),lput,p5,g5,w5,e2,e3,r1,r2,Zjv _ _ l3,p6,ZW hi' (show nt d n+1<9223372036854775808 by omega)]
     exact ih'
   ·have hin:i=nt d n:=by omega
    have hfin:=fin hin
    rw[hfin] at w5 ih'
    have c3:decide ((i:Int)<((tch d n).length:Int))=false:=decide_eq_false (by have:((tch d n).length:Int)=(nt d n:Int):=rfl;omega)
    cases i with
    | zero=>
     simp only[ZA,e1,ZdX hi',cond_true,x1,Option.bind_some,c3,node,decide_eq_false (show ¬(0:Int)<((0:Nat):Int) by omega),cond_false,lput,p5,w5,ZW hi' (show nt d n+1<9223372036854775808 by omega)]
     exact ih'
    | succ j=>
     obtain⟨r1,r2,r3,r4,_⟩:=Zc9 g.g (show j<nt d n by omega)
     have e2:w64 (((j+1:Nat):Int)-1)=(j:Int):=by rw[ZcD (by omega) (by omega)];omega
     have e3:w64 (((ZB d n+(j+1):Nat):Int)-1)=((ZB d n+j:Nat):Int):=by rw[ZcD (by omega) (by omega)];omega
     have p6:=Zpu g.g (show j<nt d n by omega) h6
     rw[Nat.add_sub_cancel] at l3 ih' ⊢
     rw[Zob,← List.append_assoc] at ih'
     simp only[ZA,e1,ZdX hi',cond_true,cond_false,x1,Option.bind_some,c3,node,decide_eq_true (show(0:Int)<((j+1:Nat):Int) by omega),lput,p5,g5,w5,e2,e3,r1,r2,Zjv _ _ l3,p6,ZW hi' (show nt d n+1<9223372036854775808 by omega)]
     exact ih'
 have:=key (nt d n+1) 0 (by omega)
 simpa [ZiD,ZfI,ZhN,Zfb,Zed,cut] using this
end Go.Proofs.YtnmbdjkbaihicaaDoor
namespace Go.Proofs.YtnmbdjkbaihicaaDoor
open Go Go.Proofs.YtnmbdjkbaihicaaDoorE
set_option linter.unusedVariables false
set_option linter.unusedSimpArgs false
def Zmj (g:Zch) (a:Int) (T:List Bool):Prop:=∀e∈g.edges,(e.src=a∨bAt T e.src=true)→bAt T e.dst=true
end Go.Proofs.YtnmbdjkbaihicaaDoor
namespace Go.Proofs.YtnmbdjkbaihicaaDoor
open Go Go.Proofs.YtnmbdjkbaihicaaDoorE
set_option linter.unusedVariables false
set_option linter.unusedSimpArgs false
def Zfv (d:Zh) (k:Nat):List (Int×Int):=(List.range k).map fun n:Nat=>((n:Int),(ZB d n:Int))
def Zf1 (d:Zh) (k:Nat):List (Int×Int):=(List.range k).map fun n:Nat=>((n:Int),((ZB d n+nt d n:Nat):Int))
def ZdP (d:Zh) (k:Nat):List (Zj×Int):=upto (fun n=>ZfI d n (nt d n)) k
theorem Zsi (d:Zh) (k:Nat):Zfv d (k+1)=Zfv d k++[((k:Int),(ZB d k:Int))]:=by unfold Zfv;rw[List.range_succ,List.map_append];rfl
theorem Ztf (d:Zh) (k:Nat):Zf1 d (k+1)=Zf1 d k++[((k:Int),((ZB d k+nt d k:Nat):Int))]:=by unfold Zf1;rw[List.range_succ,List.map_append];rfl
theorem Zuq (d:Zh) (k:Nat):∀q∈Zfv d k,q.1≠(k:Int):=fun q hq=>by
 unfold Zfv at hq
 obtain⟨j,hj,rfl⟩:=List.mem_map.1 hq
 rw[List.mem_range] at hj
 show(j:Int)≠(k:Int)
 omega
theorem Zro (d:Zh) (k:Nat):∀q∈Zf1 d k,q.1≠(k:Int):=fun q hq=>by
 unfold Zf1 at hq
 obtain⟨j,hj,rfl⟩:=List.mem_map.1 hq
 rw[List.mem_range] at hj
 show(j:Int)≠(k:Int)
 omega
theorem Zmu {d:Zh}{k:Nat}{q:Zj×Int} (h:q∈ZdP d k):∃n j,n<k∧j<nt d n∧q=(ZfU d n j,((ZB d n+j+1:Nat):Int)):=by
 unfold ZdP upto at h
 obtain⟨n,hn,hq⟩:=List.mem_flatMap.1 h
 unfold ZfI at hq
 obtain⟨j,hj,rfl⟩:=List.mem_map.1 hq
 exact⟨n,j,List.mem_range.1 hn,List.mem_range.1 hj,rfl⟩
theorem ZtC {d:Zh} (g:ZkO d) (k:Nat):∀q∈ZdP d k,q.1.user≠(k:Int):=fun q hq=>by
 obtain⟨n,j,hn,hj,rfl⟩:=Zmu hq
 show(ZfU d n j).user≠(k:Int)
 rw[(Zc9 g hj).2.2.1]
 omega
theorem Zhy {K W:Type} (eq:K→K→Bool) (z:W) (f:Nat→K) (v:Nat→W) {i:Nat} (h0:eq (f i) (f i)=true) (h1:∀j,j<i→eq (f i) (f j)=false):∀k,i<k→Z2 eq ((List.range k).map fun j=>(f j,v j)) (f i) z=v i
 | 0,h=>absurd h (by omega)
 | k+1,h=>by
  rw[List.range_succ,List.map_append]
  by_cases hk:i<k
  ·rw[Zhs eq (f i) z _ _ ⟨(f i,v i),List.mem_map.2 ⟨i,List.mem_range.2 hk,rfl⟩,h0⟩]
   exact Zhy eq z f v h0 h1 k hk
  ·have:i=k:=by omega
   subst this
   refine Zra eq (f i) z (v i) h0 _ [] fun q hq=>?_
   obtain⟨j,hj,rfl⟩:=List.mem_map.1 hq
   exact h1 j (List.mem_range.1 hj)
theorem Zrq {d:Zh}{z:Int} (h:inR d z):Z2 (fun ka kb:Int=>(ka==kb)) (Zfv d d.parts.length) z 0=ZeC d z:=by
 have:=Zhy eqI 0 (fun n:Nat=>(n:Int)) (fun n=>(ZB d n:Int)) (i:=z.toNat) (by simp) (fun j hj=>beq_false_of_ne (by omega)) d.parts.length h.2
 have e:((z.toNat:Nat):Int)=z:=Int.toNat_of_nonneg h.1
 simp only[e] at this
 exact this
theorem ZpT {d:Zh}{z:Int} (h:inR d z):Z2 (fun ka kb:Int=>(ka==kb)) (Zf1 d d.parts.length) z 0=ZbP d z:=by
 have:=Zhy eqI 0 (fun n:Nat=>(n:Int)) (fun n=>((ZB d n+nt d n:Nat):Int)) (i:=z.toNat) (by simp) (fun j hj=>beq_false_of_ne (by omega)) d.parts.length h.2
 have e:((z.toNat:Nat):Int)=z:=Int.toNat_of_nonneg h.1
 simp only[e] at this
 refine Eq.trans this ?_
 unfold ZbP
 show _=((ZB d z.toNat+(nt d z.toNat+1):Nat):Int)-1
 omega
theorem ZhL {d:Zh} (g:ZaE d) {f:Zj} (h:f∈d.futures):∃j,j<nt d f.user.toNat∧ZfU d f.user.toNat j=f:=by
 obtain⟨m,hm⟩:=List.getElem?_of_mem h
 have hu:=g.user h
 have e:((f.user.toNat:Nat):Int)=f.user:=Int.toNat_of_nonneg hu.1
 have:=(Zl8 g.g f.user.toNat).mem (m:Int) |>.2 ⟨m,f,hm,e.symm,rfl⟩
 obtain⟨j,hj,hj2⟩:=List.getElem_of_mem this
 refine⟨j,hj,?_⟩
 unfold ZfU
 rw[List.getElem?_eq_getElem hj]
 show(match d.futures[((tch d f.user.toNat)[j]).toNat]? with | some f=>f | none=>⟨0,0,0⟩)=f
 rw[hj2,Int.toNat_natCast,hm]
theorem Zvg {γ R:Type} (p:Nat→γ→Bool) (out:Nat→γ→R) (fin:R):∀(l:List γ) (i j:Nat) (x:γ),l[j]? = some x→p (i+j) x=true→(∀k y,k<j→l[k]? = some y→p (i+k) y=false)→Zhb p out fin i l=out (i+j) x
 | [],i,j,x,h,_,_=>by cases h
 | y :: l,i,0,x,h,h1,_=>by
  cases h
  unfold Zhb
  rw[Nat.add_zero] at h1
  rw[h1];rfl
 | y :: l,i,j+1,x,h,h1,h2=>by
  unfold Zhb
  have h0:=h2 0 y (by omega) rfl
  rw[Nat.add_zero] at h0
  rw[h0]
  show Zhb p out fin (i+1) l=_
  rw[show i+(j+1)=i+1+j by omega] at h1 ⊢
  exact Zvg p out fin l (i+1) j x h h1 fun k z hk hz=>by
   have:=h2 (k+1) z (by omega) hz
   rwa [show i+(k+1)=i+1+k by omega] at this
theorem ZjC {d:Zh} (g:ZaE d) {f:Zj} (h:f∈d.futures) {j:Nat} (hj:j<nt d f.user.toNat) (he:ZfU d f.user.toNat j=f):Zr9 d f=((ZB d f.user.toNat+j+1:Nat):Int):=by
 have pos:∀k (hk:k<nt d f.user.toNat),ZeJ d.futures (tch d f.user.toNat)[k]=(ZfU d f.user.toNat k).pos:=fun k hk=>by
  rw[(Zc9 g.g hk).2.2.2.1]
  unfold cut
  rw[if_neg (by omega),Nat.add_sub_cancel,List.getElem?_eq_getElem hk]
 unfold Zr9
 rw[Zvg (fun _ z=>ZeJ d.futures z==f.pos) (fun i _=>ZeC d f.user+(i:Int)+1) (-1) (tch d f.user.toNat) 0 j _ (List.getElem?_eq_getElem hj) (by show(ZeJ d.futures (tch d f.user.toNat)[j]==f.pos)=true;rw[pos j hj,he];simp) (fun k y hk hy=>by
  have hk2:k<nt d f.user.toNat:=by omega
  have hy2:(tch d f.user.toNat)[k]=y:=Option.some.inj ((List.getElem?_eq_getElem hk2).symm.trans hy)
  have:=ZmD g.g hk hj
  rw[he] at this
  show(ZeJ d.futures y==f.pos)=false
  rw[← hy2,pos k hk2]
  exact beq_false_of_ne (by omega))]
 unfold ZeC
 omega
theorem ZsB (f:Zj):eqF f f=true:=by simp[eqF]
theorem Zv6 {d:Zh} (g:ZaE d) {f:Zj} (h:f∈d.futures):Z2 (fun ka kb:Zj=>((ka.maker==kb.maker)&&((ka.user==kb.user)&&((ka.pos==kb.pos)&&true)))) (ZdP d d.parts.length) f 0=Zr9 d f:=by
 obtain⟨j,hj,he⟩:=ZhL g h
 have hu:=g.user h
 have eu:((f.user.toNat:Nat):Int)=f.user:=Int.toNat_of_nonneg hu.1
 have key:∀k,f.user.toNat<k→Z2 eqF (ZdP d k) f 0=Zr9 d f:=by
  intro k
  induction k with
  | zero=>intro hk;exact absurd hk (by omega)
  | succ k ih=>
   intro hk
   rw[show ZdP d (k+1)=ZdP d k++ZfI d k (nt d k) from Zb6 _ k]
   by_cases hlt:f.user.toNat<k
   ·rw[Zhs eqF f 0 _ _ ⟨(f,((ZB d f.user.toNat+j+1:Nat):Int)),?_,ZsB f⟩]
    ·exact ih hlt
    ·unfold ZdP upto
     refine List.mem_flatMap.2 ⟨f.user.toNat,List.mem_range.2 hlt,?_⟩
     unfold ZfI
     exact List.mem_map.2 ⟨j,List.mem_range.2 hj,by rw[he]⟩
   ·have hk2:k=f.user.toNat:=by omega
    subst hk2
    rw[ZgP eqF f 0 _ _ (fun q hq=>by
     obtain⟨n,i,hn,hi,rfl⟩:=Zmu hq
     refine Zsa (.inl ?_)
     show f.user≠(ZfU d n i).user
     rw[(Zc9 g.g hi).2.2.1]
     omega)]
    have:=Zhy eqF 0 (fun i=>ZfU d f.user.toNat i) (fun i=>((ZB d f.user.toNat+i+1:Nat):Int)) (i:=j) (ZsB _) (fun i hi=>by
     have:=ZmD g.g hi hj
     exact Zsa (.inr (by omega))) (nt d f.user.toNat) hj
    rw[ZjC g h hj he]
    rw[he] at this
    exact this
 exact key d.parts.length hu.2
theorem ZuL {d:Zh} (g:ZaE d) (hc:∀n:Nat,Zcy d (n:Int)=some (tch d n)):lp (Zcp d) (0,[],[],[],[],[],[])=some (Zgz d d.parts.length,Zex d d.parts.length,ZcF d d.parts.length,Zfv d d.parts.length,Zf1 d d.parts.length,ZdP d d.parts.length):=by
 have hpl:=g.pl
 have key:∀(k i:Nat),i+k=d.parts.length→lp (Zcp d) ((i:Int),Zgz d i,Zex d i,ZcF d i,Zfv d i,Zf1 d i,ZdP d i)=some (Zgz d d.parts.length,Zex d d.parts.length,ZcF d d.parts.length,Zfv d d.parts.length,Zf1 d d.parts.length,ZdP d d.parts.length):=by
  intro k
  induction k with
  | zero=>
   intro i hi
   have:i=d.parts.length:=by omega
   subst this
   rw[ZaU]
   simp only[Zcp,ZeG,cond_false]
  | succ k ih=>
   intro i hi
   have hi':i<d.parts.length:=by omega
   have hF:=ZhF g i
   have h1:=Zmf d i
   have l1:(Zgz d i).length≤1000:=by rw[Zjr];omega
   have l2:(Zex d i).length≤1000:=by omega
   have l3:(ZcF d i).length≤1000:=by rw[ZcC];omega
   have ih':=ih (i+1) (by omega)
   rw[show Zex d (i+1)=Zex d i++Zfb d i (nt d i) from Zb6 _ i,show Zgz d (i+1)=Zgz d i++ZkE d i from Zb6 _ i,show ZcF d (i+1)=ZcF d i++Zed i (nt d i+1) from Zb6 _ i,Zsi,Ztf,show ZdP d (i+1)=ZdP d i++ZfI d i (nt d i) from Zb6 _ i] at ih'
   have pe:=Zwn g hi' (hc i) (Zf1 d i) (ZdP d i) l1 l2 l3
   rw[ZuG g hi' l1 l2 (ZcC d i) (Zro d i) (ZtC g.g i),Option.bind_some] at pe
   have p4:Zu (fun ka kb:Int=>(ka==kb)) (Zfv d i) (i:Int) ((ZcF d i).length:Int)=Zfv d i++[((i:Int),(ZB d i:Int))]:=by
    rw[ZcC]
    exact ZgN eqI (i:Int) _ _ fun q hq=>beq_false_of_ne (Ne.symm (Zuq d i q hq))
   have p5:Zu (fun ka kb:Int=>(ka==kb)) (Zf1 d i) (i:Int) (ZB d i:Int)=Zf1 d i++[((i:Int),(ZB d i:Int))]:=ZgN eqI (i:Int) _ _ fun q hq=>beq_false_of_ne (Ne.symm (Zro d i q hq))
   have lput:=Zsv (ZcF d i) (Zi.mk (i:Int) 0) (by omega)
   rw[ZcC] at lput
   rw[ZaU]
   by_cases h0:0<nt d i
   ·rw[decide_eq_true h0] at pe
    simp only[Zcp,ZdX hi',cond_true,pe,Option.bind_some,p4,ZW hi' (show d.parts.length<9223372036854775808 by omega)]
    exact ih'
   ·have hz:nt d i=0:=by omega
    rw[decide_eq_false h0] at pe
    simp only[Zcp,ZdX hi',cond_true,cond_false,pe,Option.bind_some,p4,lput,p5,ZW hi' (show d.parts.length<9223372036854775808 by omega)]
    rw[hz] at ih'
    simpa [Zfb,Zed,ZfI] using ih'
 exact key d.parts.length 0 (by omega)
theorem Zup {d:Zh} (g:ZaE d) {r3:List Int×List Zm×List Zi×List (Int×Int)×List (Int×Int)×List (Zj×Int)} (h4:r3.2.2.2.1=Zfv d d.parts.length) (h5:r3.2.2.2.2.1=Zf1 d d.parts.length) (E:List Zm) (hE:E.length≤1000):lp (ZcP d r3) (0,E)=some (E++Zia d):=
 have he:=g.el
 Zpj d.edges (by omega) (ZcP d r3) (fun e=>⟨ZbP d e.src,ZeC d e.dst⟩) (fun i x s hi hx hb=>by
  have hm:=List.mem_of_getElem? hx
  have ed:∀b c,ZJ b c s=some ():=fun b c=>by unfold ZJ;rw[hb];rfl
  simp only[ZcP,ZdX hi,cond_true,Zat hx,Option.bind_some,h4,h5,ZpT (g.src hm),Zrq (g.dst hm),ed,ZW hi (show d.edges.length<9223372036854775808 by omega)]) (fun s=>by simp only[ZcP,ZeG,cond_false]) E (by omega)
theorem Zsd {d:Zh} (g:ZaE d) {r3:List Int×List Zm×List Zi×List (Int×Int)×List (Int×Int)×List (Zj×Int)} (h5:r3.2.2.2.2.1=Zf1 d d.parts.length) (h6:r3.2.2.2.2.2=ZdP d d.parts.length) (E:List Zm) (hE:E.length≤1000):lp (ZcR d r3) (0,E)=some (E++ZiO d):=
 have he:=g.fl
 Zpj d.futures (by omega) (ZcR d r3) (fun f=>⟨ZbP d f.maker,Zr9 d f⟩) (fun i x s hi hx hb=>by
  have hm:=List.mem_of_getElem? hx
  have ed:∀b c,ZJ b c s=some ():=fun b c=>by unfold ZJ;rw[hb];rfl
  simp only[ZcR,ZdX hi,cond_true,Zat hx,Option.bind_some,h5,h6,ZpT (g.maker hm),Zv6 g hm,ed,ZW hi (show d.futures.length<9223372036854775808 by omega)]) (fun s=>by simp only[ZcR,ZeG,cond_false]) E (by omega)
theorem Zwd {d:Zh} (g:ZaE d) (hz:ZiZ d) {r3:List Int×List Zm×List Zi×List (Int×Int)×List (Int×Int)×List (Zj×Int)} (h4:r3.2.2.2.1=Zfv d d.parts.length) (h5:r3.2.2.2.2.1=Zf1 d d.parts.length) (E:List Zm) (hE:E.length≤1000) :
  lp (ZcQ d r3) (0,Zgz d d.parts.length,E,ZcF d d.parts.length)=some (Zfa d,E++Zd1 d d.barriers.length,ZdZ d):=by
 have hbl:=g.bl
 have hF:=ZhF g d.parts.length
 have hpl:=g.pl
 have key:∀(k i:Nat),i+k=d.barriers.length→lp (ZcQ d r3) ((i:Int),Zgz d d.parts.length++List.replicate i 1,E++Zd1 d i,ZcF d d.parts.length++Zfd i)=some (Zfa d,E++Zd1 d d.barriers.length,ZdZ d):=by
  intro k
  induction k with
  | zero=>
   intro i hi
   have:i=d.barriers.length:=by omega
   subst this
   rw[ZaU]
   simp only[ZcQ,ZeG,cond_false]
   rfl
  | succ k ih=>
   intro i hi
   have hi':i<d.barriers.length:=by omega
   have hx:d.barriers[i]? = some d.barriers[i]:=List.getElem?_eq_getElem hi'
   have hm:=List.mem_of_getElem? hx
   have hsz:=hz.i _ hm
   have hB:=Zl2 hz i
   have lp_:(ZcF d d.parts.length++Zfd i).length=ZB d d.parts.length+i:=by rw[List.length_append,ZcC,Zn2]
   have lw_:(Zgz d d.parts.length++List.replicate i (1:Int)).length=ZB d d.parts.length+i:=by rw[List.length_append,Zjr,List.length_replicate]
   have lput:=Zsv (ZcF d d.parts.length++Zfd i) (Zi.mk (-1) (i:Int)) (by rw[lp_];omega)
   rw[lp_,show((ZB d d.parts.length+i:Nat):Int)=Zc1 d i from rfl] at lput
   have k4:=fun s=>Zpj d.barriers[i].ins (by omega) (ZdD r3 ((i:Int),Zgz d d.parts.length++List.replicate i 1,E++Zd1 d i,ZcF d d.parts.length++Zfd i) d.barriers[i]) (fun q=>⟨ZbP d q,Zc1 d i⟩) (fun j x s hj hx hb=>by
    have ed:∀b c,ZJ b c s=some ():=fun b c=>by unfold ZJ;rw[hb];rfl
    simp only[ZdD,ZdX hj,cond_true,Zat hx,Option.bind_some,h5,ZpT (g.ins _ hm x (List.mem_of_getElem? hx)),lput,ed,ZW hj (show d.barriers[i].ins.length<9223372036854775808 by omega)]) (fun s=>by simp only[ZdD,ZeG,cond_false]) s
   have k5:=fun s=>Zpj d.barriers[i].outs (by omega) (ZdE r3 ((i:Int),Zgz d d.parts.length++List.replicate i 1,E++Zd1 d i,ZcF d d.parts.length++Zfd i) d.barriers[i]) (fun q=>⟨Zc1 d i,ZeC d q⟩) (fun j x s hj hx hb=>by
    have ed:∀b c,ZJ b c s=some ():=fun b c=>by unfold ZJ;rw[hb];rfl
    simp only[ZdE,ZdX hj,cond_true,Zat hx,Option.bind_some,h4,Zrq (g.outs _ hm x (List.mem_of_getElem? hx)),lput,ed,ZW hj (show d.barriers[i].outs.length<9223372036854775808 by omega)]) (fun s=>by simp only[ZdE,ZeG,cond_false]) s
   have ih':=ih (i+1) (by omega)
   have eB:Zd1 d (i+1)=Zd1 d i++Zlm d (Zc1 d i) d.barriers[i]:=by
    unfold Zd1
    rw[Zb6,hx]
   rw[eB,Zr7,List.replicate_succ',Zlm,← List.append_assoc,← List.append_assoc,← List.append_assoc,← List.append_assoc] at ih'
   rw[ZaU]
   simp only[ZcQ,ZdX hi',cond_true,Zat hx,Option.bind_some,ZgD _ _ (show(Zgz d d.parts.length++List.replicate i (1:Int)).length≤10000 by rw[lw_];omega) (show(ZcF d d.parts.length++Zfd i).length≤10000 by rw[lp_];omega),k4 (E++Zd1 d i) (by rw[List.length_append];omega),
    k5 (E++Zd1 d i++List.map (fun q=>⟨ZbP d q,Zc1 d i⟩) d.barriers[i].ins) (by simp only[List.length_append,List.length_map];omega),ZW hi' (show d.barriers.length<9223372036854775808 by omega)]
   exact ih'
 have:=key d.barriers.length 0 (by omega)
 simpa [Zd1,upto,Zfd] using this
theorem Zti {d:Zh} (g:ZaE d) (hz:ZiZ d):Zsm (Z4 d).dag:=by
 have hE:=ZoT g
 have hB:=Zl2 hz d.barriers.length
 have hbl:=g.bl
 have hF:=ZhF g d.parts.length
 have hpl:=g.pl
 constructor
 ·show(Zfa d).length<_
  unfold Zfa
  rw[List.length_append,Zjr,List.length_replicate]
  omega
 ·show(Zd2 d).length<_
  unfold Zd2
  rw[List.length_append]
  omega
noncomputable def Zlj (d:Zh):Zms×Int:=
 bif Za7 d==0 then (bif ZgK (Z4 d).dag==0 then (Z4 d,0) else (⟨⟨[],[]⟩,[]⟩,70)) else (⟨⟨[],[]⟩,[]⟩,Za7 d)
theorem Zvn {d:Zh} (hz:ZiZ d):Ze8 d=some (Zlj d):=by
 have hs:=hz.short
 unfold Ze8 Zlj
 rw[ZoA d hs,Option.bind_some]
 by_cases hc:Za7 d=0
 ·have g:=ZcJ hc
  have hE:=ZoT g
  have h3:(Zex d d.parts.length++Zia d).length≤1000:=by unfold ZgJ at hE;rw[List.length_append] at hE;omega
  have h4:(Zex d d.parts.length).length≤1000:=by rw[List.length_append] at h3;omega
  rw[hc]
  simp only[bne_self_eq_false,cond_false,beq_self_eq_true,cond_true,ZuL g (ZCm hs (by have:=g.fl;omega) hc),Option.bind_some]
  rw[Zup g rfl rfl _ h4]
  simp only[Option.bind_some]
  rw[Zsd g rfl rfl _ h3]
  simp only[Option.bind_some]
  rw[show Zex d d.parts.length++Zia d++ZiO d=ZgJ d from rfl,Zwd g hz rfl rfl _ hE]
  simp only[Option.bind_some]
  rw[show Zch.mk (Zfa d) (ZgJ d++Zd1 d d.barriers.length)=(Z4 d).dag from rfl,ZoZ _ (Zti g hz),Option.bind_some]
  by_cases hk:ZgK (Z4 d).dag=0
  ·rw[hk];rfl
  ·rw[beq_false_of_ne hk,bne,beq_false_of_ne hk];rfl
 ·rw[beq_false_of_ne hc,bne,beq_false_of_ne hc];rfl
end Go.Proofs.YtnmbdjkbaihicaaDoor
namespace Go.Proofs.YtnmbdjkbaihicaaDoor
open Go Go.Proofs.YtnmbdjkbaihicaaDoorE
set_option linter.unusedVariables false
set_option linter.unusedSimpArgs false
theorem ZzO {d:Zh} (g:ZaE d) {n:Nat} (hn:n<d.parts.length):1≤ZcE d.parts (n:Int):=by
 unfold ZcE
 rw[Int.toNat_natCast,List.getElem?_eq_getElem hn]
 exact(g.g.w _ (List.getElem_mem hn)).1
theorem Zvj {d:Zh} (g:ZkO d) {n i:Nat} (hi:i<nt d n):1≤cut d n (i+1)∧cut d n (i+1)≤ZcE d.parts (n:Int)-1:=by
 obtain⟨_,_,h3,h4,h5⟩:=Zc9 g hi
 have:=(g.f _ h5).2
 rw[h3,h4] at this
 exact this
theorem ZpS {d:Zh} (g:ZaE d) {n:Nat} (hn:n<d.parts.length) {i:Nat} (hi:i≤nt d n):1≤cut d n (i+1)-cut d n i:=by
 have hw:=ZzO g hn
 by_cases hl:i<nt d n
 ·have h1:=Zvj g.g hl
  cases i with
  | zero=>have:cut d n 0=0:=rfl;omega
  | succ j=>
   have:=ZmD g.g (show j<j+1 by omega) hl
   rw[(Zc9 g.g (show j<nt d n by omega)).2.2.2.1,(Zc9 g.g hl).2.2.2.1] at this
   omega
 ·have:i=nt d n:=by omega
  subst this
  rw[Zlf]
  cases h0:nt d n with
  | zero=>have:cut d n 0=0:=rfl;omega
  | succ j=>
   have:=Zvj g.g (show j<nt d n by omega)
   omega
theorem Zxl {d:Zh} (g:ZaE d) {n:Nat} (hn:n<d.parts.length):∀x∈ZkE d n,1≤x:=fun x hx=>by
 unfold ZkE ZhN at hx
 obtain⟨i,hi,rfl⟩:=List.mem_map.1 hx
 rw[List.mem_range] at hi
 exact ZpS g hn (by omega)
theorem Zwh {d:Zh} (g:ZaE d):∀x∈Zfa d,1≤x:=fun x hx=>by
 unfold Zfa at hx
 rcases List.mem_append.1 hx with hx | hx
 ·unfold Zgz upto at hx
  obtain⟨n,hn,hx⟩:=List.mem_flatMap.1 hx
  exact Zxl g (List.mem_range.1 hn) x hx
 ·rw[(List.mem_replicate.1 hx).2];exact Int.le_refl _
theorem Zyi (d:Zh) (g:ZkO d) (n:Nat):nt d n=d.futures.countP fun f=>f.user==(n:Int):=by
 show(tch d n).length=_
 rw[ZqD (Zl8 g n)]
 unfold Zot
 rw[Zm0]
theorem Zq4 {γ:Type} (p q r:γ→Bool) (h:∀x,r x=(p x || q x)) (h2:∀x,¬(p x=true∧q x=true)):∀l:List γ,l.countP r=l.countP p+l.countP q
 | []=>rfl
 | x :: l=>by
  rw[List.countP_cons,List.countP_cons,List.countP_cons,Zq4 p q r h h2 l,h x]
  have:=h2 x
  cases hp:p x<;>cases hq:q x<;>simp_all<;>omega
theorem ZmT {d:Zh} (g:ZaE d):∀k,ZB d k=k+d.futures.countP fun f=>decide (0≤f.user)&&decide (f.user<(k:Int))
 | 0=>by
  have:(d.futures.countP fun f=>decide (0≤f.user)&&decide (f.user<((0:Nat):Int)))=0:=by
   rw[List.countP_eq_zero]
   intro f _
   simp only[Bool.and_eq_true,decide_eq_true_eq]
   omega
  rw[this];rfl
 | k+1=>by
  rw[Zq4 (fun f:Zj=>decide (0≤f.user)&&decide (f.user<(k:Int))) (fun f=>f.user==(k:Int)) (fun f=>decide (0≤f.user)&&decide (f.user<((k+1:Nat):Int))) (fun f=>by
   rw[Bool.eq_iff_iff]
   simp only[Bool.and_eq_true,Bool.or_eq_true,decide_eq_true_eq,beq_iff_eq]
   omega) (fun f=>by
   simp only[Bool.and_eq_true,decide_eq_true_eq,beq_iff_eq]
   omega)]
  show ZB d k+(nt d k+1)=_
  rw[ZmT g k,Zyi d g.g k]
  omega
theorem ZgL {d:Zh} (g:ZaE d):ZB d d.parts.length=d.parts.length+d.futures.length:=by
 rw[ZmT g,List.countP_eq_length.2 fun f hf=>?_]
 have:=g.user hf
 have h1:=this.1
 have h2:=this.2
 simp only[Bool.and_eq_true,decide_eq_true_eq]
 omega
theorem ZjX {d:Zh} (g:ZaE d):(Zfa d).length=d.parts.length+d.futures.length+d.barriers.length:=by
 unfold Zfa
 rw[List.length_append,Zjr,List.length_replicate,ZgL g]
theorem Zpf {d:Zh} (g:ZaE d):(ZdZ d).length=d.parts.length+d.futures.length+d.barriers.length:=by
 unfold ZdZ
 rw[List.length_append,ZcC,Zn2,ZgL g]
theorem Zuk (d:Zh):(Zlj d=(Z4 d,0)∧Za7 d=0∧ZgK (Z4 d).dag=0)∨((Zlj d).1=⟨⟨[],[]⟩,[]⟩∧(Zlj d).2≠0):=by
 unfold Zlj
 by_cases hc:Za7 d=0
 ·rw[hc]
  by_cases hk:ZgK (Z4 d).dag=0
  ·rw[hk];exact .inl ⟨rfl,rfl,rfl⟩
  ·rw[beq_false_of_ne hk];exact .inr ⟨rfl,by show(70:Int)≠0;omega⟩
 ·rw[beq_false_of_ne hc];exact .inr ⟨rfl,hc⟩
end Go.Proofs.YtnmbdjkbaihicaaDoor
namespace Go.Proofs.YtnmbdjkbaihicaaDoor
open Go Go.Proofs.YtnmbdjkbaihicaaDoorE Go.Sort
set_option linter.unusedVariables false
set_option linter.unusedSimpArgs false
set_option maxRecDepth 20000
end Go.Proofs.YtnmbdjkbaihicaaDoor
namespace Go.Proofs.YtnmbdjkbaihicaaDoor
open Go Go.Proofs.YtnmbdjkbaihicaaDoorE
set_option linter.unusedVariables false
set_option linter.unusedSimpArgs false
theorem ZoP {g:Zch} (h:ZgK g=0):∃l,ZgY g=some l∧ZzA g l:=by
 obtain⟨hG,hA⟩:=ZhI h
 obtain⟨l,h1,h2⟩:=ZqJ hG hA
 refine⟨l,?_,h2⟩
 unfold ZgY
 rw[ZoZ g hG.short,h,Option.bind_some]
 simp only[bne_self_eq_false,cond_false,h1,Option.bind_some,cond_true]
end Go.Proofs.YtnmbdjkbaihicaaDoor
namespace Go.Proofs.YtnmbdjkbaihicaaDoor
open Go Go.Proofs.YtnmbdjkbaihicaaDoorE
set_option linter.unusedVariables false
set_option linter.unusedSimpArgs false
theorem Zte (d:Zh) {m n:Nat} (h:m≤n):ZB d m≤ZB d n:=by
  induction n with
  | zero => have : m = 0 := by omega
            subst this;exact Nat.le_refl _
  | succ n ih=>
    by_cases hm:m=n+1
    · subst hm;exact Nat.le_refl _
    · have:=ih (by omega)
      show ZB d m≤ZB d n+(nt d n+1)
      omega
theorem ZeL (d:Zh) (n:Nat):ZB d (n+1)=ZB d n+nt d n+1:=by show ZB d n+(nt d n+1)=_;omega
theorem ZbU (d:Zh) {m n j:Nat} (h:m<n) (hj:j≤nt d m):ZB d m+j<ZB d n:=by
  have:=Zte d (show m+1≤n by omega)
  have:=ZeL d m
  omega
theorem Zqb (d:Zh):∀(k i:Nat),i<ZB d k→∃n j,n<k∧j≤nt d n∧i=ZB d n+j
  | 0,i,h=>absurd h (by show ¬i<0;omega)
  | k+1,i,h=>by
    have hs:=ZeL d k
    by_cases hi:i<ZB d k
    · obtain⟨n,j,h1,h2,h3⟩:=Zqb d k i hi
      exact⟨n,j,by omega,h2,h3⟩
    · exact⟨k,i-ZB d k,by omega,by omega,by omega⟩
theorem ZcB (d:Zh) {m n i j:Nat} (hi:i≤nt d m) (hj:j≤nt d n) (h:ZB d m+i=ZB d n+j):m=n∧i=j:=by
  rcases Nat.lt_trichotomy m n with hlt | heq | hlt
  · have:=ZbU d hlt hi;omega
  · subst heq;exact⟨rfl,by omega⟩
  · have:=ZbU d hlt hj;omega
theorem Zpb (d:Zh):∀(k n j:Nat),n<k→j≤nt d n→(ZcF d k)[ZB d n+j]? = some ⟨(n:Int),(j:Int)⟩
  | 0,n,j,h,_=>absurd h (by omega)
  | k+1,n,j,h,hj=>by
    rw[show ZcF d (k+1)=ZcF d k++Zed k (nt d k+1) from Zb6 _ k]
    by_cases hn:n<k
    · rw[List.getElem?_append_left (by rw[ZcC];exact ZbU d hn hj)]
      exact Zpb d k n j hn hj
    · have:n=k:=by omega
      subst this
      rw[List.getElem?_append_right (by rw[ZcC];omega),ZcC,Nat.add_sub_cancel_left]
      unfold Zed
      rw[List.getElem?_map,List.getElem?_range (by omega)]
      rfl
theorem Ztu {d:Zh}{n j:Nat} (hn:n<d.parts.length) (hj:j≤nt d n):(ZdZ d)[ZB d n+j]? = some ⟨(n:Int),(j:Int)⟩:=by
  unfold ZdZ
  rw[List.getElem?_append_left (by rw[ZcC];exact ZbU d hn hj)]
  exact Zpb d _ n j hn hj
theorem ZnZ {d:Zh}{i:Nat}{x:Zi} (h:(ZdZ d)[i]? = some x):(∃n j,n<d.parts.length∧j≤nt d n∧i=ZB d n+j∧x=⟨(n:Int),(j:Int)⟩)∨(ZB d d.parts.length≤i∧x.part = -1):=by
  by_cases hi:i<ZB d d.parts.length
  · obtain⟨n,j,h1,h2,h3⟩:=Zqb d _ i hi
    subst h3
    rw[Ztu h1 h2] at h
    exact .inl ⟨n,j,h1,h2,rfl,(Option.some.inj h).symm⟩
  · refine .inr ⟨by omega,?_⟩
    unfold ZdZ at h
    rw[List.getElem?_append_right (by rw[ZcC];omega)] at h
    have:=List.mem_of_getElem? h
    unfold Zfd at this
    obtain⟨k,_,rfl⟩:=List.mem_map.1 this
    rfl
theorem ZtG (zs:List (Int×Int)) (p:Int) (hp:0≤p) (i:Nat):∀k,i<k→(pc zs i).1=p→(∀j,i<j→j<k→(pc zs j).1≠p)→ZeV zs p k=(i:Int)
  | 0,h,_,_=>absurd h (by omega)
  | k+1,h,h1,h2=>by
    unfold ZeV
    by_cases hk:k=i
    · subst hk
      rw[h1,bne_self_eq_false,decide_eq_false (show ¬p<0 by omega)]
      rfl
    · have:=h2 k (by omega) (by omega)
      rw[bne_iff_ne.2 this]
      exact ZtG zs p hp i k (by omega) h1 fun j a b=>h2 j a (by omega)
theorem Zxd {d:Zh} (g:ZaE d) {z:Int} (h:inR d z):Zgp (Z4 d) z=some (ZbP d z):=by
  have hlen:(ZdZ d).length≤1000:=by rw[Zpf g];have:=g.pl;have:=g.fl;have:=g.bl;omega
  have ez:((z.toNat:Nat):Int)=z:=Int.toNat_of_nonneg h.1
  have hp:=Ztu h.2 (Nat.le_refl (nt d z.toNat))
  have hpc:∀(i:Nat) x,(ZdZ d)[i]? = some x→(pc (List.map (fun x:Zi=>(x.part,x.step)) (ZdZ d)) i).1=x.part:=fun i x hx=>by
    unfold pc
    rw[List.getElem?_map,hx]
    rfl
  have hi:ZB d z.toNat+nt d z.toNat<(ZdZ d).length:=(List.getElem?_eq_some_iff.1 hp).1
  have hs:=ZtG (List.map (fun x:Zi=>(x.part,x.step)) (ZdZ d)) z h.1 (ZB d z.toNat+nt d z.toNat) (ZdZ d).length hi (by rw[hpc _ _ hp];exact ez) (fun j h1 h2=>by
    have hy:=List.getElem?_eq_getElem h2
    rw[hpc _ _ hy]
    rcases ZnZ hy with⟨n,m,m1,m2,m3,m4⟩ | ⟨_,m2⟩
    · rw[m4]
      show(n:Int)≠z
      intro hc
      have:n=z.toNat:=by omega
      subst this
      omega
    · rw[m2];have:=h.1;omega)
  unfold Zgp ZsR
  rw[List.length_map,Zg1 (show(Z4 d).pieces.length≤1073741824 by show(ZdZ d).length≤_;omega)]
  simp only[cond_true,Option.bind_some]
  show some (ZeV (List.map (fun x:Zi=>(x.part,x.step)) (ZdZ d)) z (ZdZ d).length)=_
  rw[hs]
  unfold ZbP
  rw[ZeL]
  congr 1
  omega
theorem Zrs {d:Zh}{n j:Nat} (hn:n<d.parts.length) (hj:j<nt d n):(⟨((ZB d n+j:Nat):Int),((ZB d n+j+1:Nat):Int)⟩:Zm)∈(Z4 d).dag.edges:=by
  show _∈Zd2 d
  unfold Zd2 ZgJ Zex upto Zfb
  simp only[List.mem_append,List.mem_flatMap,List.mem_map,List.mem_range]
  exact .inl (.inl (.inl ⟨n,hn,j,hj,rfl⟩))
theorem ZqI {d:Zh}{e:Zm} (h:e∈d.edges):(⟨ZbP d e.src,ZeC d e.dst⟩:Zm)∈(Z4 d).dag.edges:=by
  show _∈Zd2 d
  unfold Zd2 ZgJ Zia
  simp only[List.mem_append,List.mem_map]
  exact .inl (.inl (.inr ⟨e,h,rfl⟩))
theorem ZqF {d:Zh}{f:Zj} (h:f∈d.futures):(⟨ZbP d f.maker,Zr9 d f⟩:Zm)∈(Z4 d).dag.edges:=by
  show _∈Zd2 d
  unfold Zd2 ZgJ ZiO
  simp only[List.mem_append,List.mem_map]
  exact .inl (.inr ⟨f,h,rfl⟩)
theorem Zrh {d:Zh}{i:Nat}{b:Zr} (h:d.barriers[i]? = some b) {x:Zm} (hx:x∈Zlm d (Zc1 d i) b):x∈(Z4 d).dag.edges:=by
  show _∈Zd2 d
  unfold Zd2 Zd1 upto
  simp only[List.mem_append,List.mem_flatMap,List.mem_range]
  refine .inr ⟨i,(List.getElem?_eq_some_iff.1 h).1,?_⟩
  rw[h]
  exact hx
def Zx5 (g:Zch) (a b:Int):Prop:=a=b∨Way g a b
theorem Zx5.way {g:Zch}{a b c:Int} (h:Zx5 g a b) (w:Way g b c):Way g a c:=by
  rcases h with rfl | h
  · exact w
  · exact h.trans w
theorem Way.ways {g:Zch}{a b c:Int} (w:Way g a b) (h:Zx5 g b c):Way g a c:=by
  rcases h with rfl | h
  · exact w
  · exact w.trans h
theorem ZxO {d:Zh}{n i:Nat} (hn:n<d.parts.length):∀j,i≤j→j≤nt d n→Zx5 (Z4 d).dag ((ZB d n+i:Nat):Int) ((ZB d n+j:Nat):Int)
  | 0,h1,_=>.inl (by rw[show i=0 by omega])
  | j+1,h1,h2=>by
    by_cases hi:i=j+1
    · exact .inl (by rw[hi])
    · exact .inr ((ZxO hn j (by omega) (by omega)).way (Way.one (Zrs hn (show j<nt d n by omega))))
theorem ZBN {d:Zh}{z:Int} (h:inR d z):Zx5 (Z4 d).dag (ZeC d z) (ZbP d z):=by
  have:=ZxO h.2 (nt d z.toNat) (Nat.zero_le _) (Nat.le_refl _)
  rw[Nat.add_zero] at this
  unfold ZeC ZbP
  rw[ZeL]
  rwa [show(((ZB d z.toNat+nt d z.toNat+1:Nat):Int)-1)=((ZB d z.toNat+nt d z.toNat:Nat):Int) by omega]
end Go.Proofs.YtnmbdjkbaihicaaDoor
namespace Go.Proofs.YtnmbdjkbaihicaaDoor
open Go Go.Proofs.YtnmbdjkbaihicaaDoorE
set_option linter.unusedVariables false
set_option linter.unusedSimpArgs false
def u32 (n:Int):Int:=n % 4294967296
theorem Zo7 (n:Int):0≤u32 n∧u32 n<4294967296:=by unfold u32;omega
theorem Zpz (n:Int):IntKind.u32.wrap n=u32 n:=by
 unfold IntKind.wrap u32
 rfl
theorem Zk3 (n:Int):ZcU n=some (u32 n):=by
 unfold ZcU
 rw[Zpz]
def ZjO (op:Int) (out v:Int):Int:=if op=2 then u32 (out+v) else if op=3 then u32 (out*v) else if op=4 then (bif decide (out<v) then v else out) else u32 (u32 (out*31)+v)
theorem ZsN {op out v:Int} (h:0≤out∧out<4294967296) (hv:0≤v∧v<4294967296):0≤ZjO op out v∧ZjO op out v<4294967296:=by
 unfold ZjO
 split
 ·exact Zo7 _
 split
 ·exact Zo7 _
 split
 ·cases decide (out<v)<;>simp[h,hv]
 ·exact Zo7 _
def Znx (op:Int):Int→List Int→Int
 | out,[]=>out
 | out,v :: l=>Znx op (ZjO op out (u32 v)) l
theorem ZkH (op:Int):∀(l:List Int) (out:Int),0≤out∧out<4294967296→0≤Znx op out l∧Znx op out l<4294967296
 | [],out,h=>h
 | v :: l,out,h=>ZkH op l _ (ZsN h (Zo7 v))
theorem ZoF (op:Int) (l:List Int) (step:Int×Int→Option ((Int×Int)⊕Int))
  (h1:∀(i:Nat) (x out:Int),i<l.length→l[i]? = some x→0≤out∧out<4294967296→step (out,(i:Int))=some (.inl (ZjO op out (u32 x),((i+1:Nat):Int))))
  (h2:∀out,step (out,(l.length:Int))=some (.inr out)) (out:Int) (ho:0≤out∧out<4294967296):lp step (out,0)=some (Znx op out l):=by
 have key:∀k i:Nat,i+k=l.length→∀out,0≤out∧out<4294967296→lp step (out,(i:Int))=some (Znx op out (l.drop i)):=by
  intro k
  induction k with
  | zero=>
   intro i hi out ho
   have:i=l.length:=by omega
   subst this
   rw[ZaU,h2,List.drop_length]
   rfl
  | succ k ih=>
   intro i hi out ho
   have hi':i<l.length:=by omega
   rw[ZaU,h1 i l[i] out hi' (List.getElem?_eq_getElem hi') ho,List.drop_eq_getElem_cons hi']
   exact ih (i+1) (by omega) _ (ZsN ho (Zo7 _))
 have:=key l.length 0 (by omega) out ho
 rwa [List.drop_zero] at this
theorem ZzC (a b:Int):ZfP a b=some (ZjO 2 a b):=by unfold ZfP;rw[Zpz];rfl
theorem ZzQ (a b:Int):ZfS a b=some (ZjO 3 a b):=by unfold ZfS;rw[Zpz];rfl
theorem Zzh (a b:Int):ZfR a b=some (ZjO 4 a b):=by unfold ZfR;rfl
theorem ZAi (a b:Int):ZfV a b=some (ZjO 5 a b):=by unfold ZfV;rw[Zpz,Zpz];rfl
def places (l:List Int) (k:Nat):List (Int×Int):=(List.range k).map fun i:Nat=>((i:Int),(l[i]?).getD 0)
theorem Zoj (l:List Int) (k:Nat):places l (k+1)=places l k++[((k:Int),(l[k]?).getD 0)]:=by simp[places,List.range_succ]
theorem Zns (l:List Int) (k:Nat) (j:Int) (hj:j<0∨(k:Int)≤j):∀q∈places l k,eqI j q.1=false:=by
 intro q hq
 simp only[places,List.mem_map,List.mem_range] at hq
 obtain⟨i,hi,rfl⟩:=hq
 show(j==(i:Int))=false
 simp;omega
theorem Zpo (l:List Int):∀(k:Nat) (j:Nat),j<k→Z2 eqI (places l k) (j:Int) 0=(l[j]?).getD 0
 | k+1,j,h=>by
  rw[Zoj]
  by_cases hk:j=k
  ·subst hk
   rw[ZgP eqI _ _ _ _ (Zns l j j (.inr (by omega)))]
   show(bif ((j:Int)==(j:Int)) then _ else _)=_
   rw[beq_self_eq_true];rfl
  ·rw[Zhs eqI _ _ _ _ ⟨((j:Int),(l[j]?).getD 0),by simp only[places,List.mem_map,List.mem_range];exact⟨j,by omega,rfl⟩,by simp[eqI]⟩]
   exact Zpo l k j (by omega)
theorem Zzd (l:List Int) (hl:l.length≤1000):lp (ZeN l) (0,([]:List (Int×Int)))=some (places l l.length):=by
 have key:∀k i:Nat,i+k=l.length→lp (ZeN l) ((i:Int),places l i)=some (places l l.length):=by
  intro k
  induction k with
  | zero=>
   intro i hi
   have:i=l.length:=by omega
   subst this
   rw[ZaU]
   simp only[ZeN,ZeG,cond_false]
  | succ k ih=>
   intro i hi
   have hi':i<l.length:=by omega
   have hx:l[i]? = some l[i]:=List.getElem?_eq_getElem hi'
   have e:=ZgN eqI (i:Int) l[i] (places l i) (Zns l i i (.inr (by omega)))
   have ih':=ih (i+1) (by omega)
   rw[Zoj,hx] at ih'
   rw[ZaU]
   simp only[ZeN,ZdX hi',Zat hx,Option.bind_some,cond_true,ZW hi' (show l.length<9223372036854775808 by omega),e]
   exact ih'
 exact key l.length 0 (by omega)
def opV (p:ZV) (input vals:List Int):Int:=
 if p.op=0 then (if p.arg<0∨(input.length:Int)≤p.arg then 0 else u32 ((input[p.arg.toNat]?).getD 0)) else
 if p.op=1 then u32 p.arg else if p.op<0∨5<p.op then 0 else Znx p.op (if p.op=3 then 1 else if p.op=5 then 7 else 0) vals
theorem ZtP (p:ZV) (input vals:List Int) (h1:input.length≤1000) (h2:vals.length≤1000):ZhG p input vals=some (opV p input vals):=by
 have hl:vals.length<9223372036854775808:=by omega
 have fin:∀x:Int,0≤x∧x<4294967296→(some x).bind (fun r=>some (w64 r))=some x:=fun x h=>by
  show some (w64 x)=some x
  rw[ZcD (by omega) (by omega)]
 unfold ZhG opV
 by_cases c0:p.op=0
 ·rw[c0,beq_self_eq_true,if_pos rfl]
  simp only[cond_true]
  rw[Zzd input h1]
  simp only[Option.bind_some,Zk3]
  by_cases c:p.arg<0∨(input.length:Int)≤p.arg
  ·rw[if_pos c,Zoh eqI _ _ _ (Zns input input.length p.arg c)]
   rfl
  ·rw[if_neg c]
   obtain⟨j,hj⟩:∃j:Nat,p.arg=(j:Int):=⟨p.arg.toNat,by omega⟩
   rw[hj,Zpo input input.length j (by omega),Int.toNat_natCast]
   exact fin _ (Zo7 _)
 rw[show(p.op==0)=false by simpa using c0,if_neg c0]
 by_cases c1:p.op=1
 ·rw[c1,if_pos rfl]
  simp only[cond_false,beq_self_eq_true,cond_true,Zk3]
  exact fin _ (Zo7 _)
 rw[show(p.op==1)=false by simpa using c1,if_neg c1]
 simp only[cond_false]
 by_cases c2:p.op<0
 ·rw[decide_eq_true c2,if_pos (.inl c2)];rfl
 by_cases c3:5<p.op
 ·rw[decide_eq_false c2,decide_eq_true c3,if_pos (.inr c3)];rfl
 rw[decide_eq_false c2,decide_eq_false c3,if_neg (by omega),ZcD (by omega) (by omega),decide_eq_true (show 0≤p.op-2 by omega),decide_eq_true (show p.op-2<4 by omega)]
 have hw:Zii=some ():=rfl
 simp only[cond_false,hw,Option.bind_some,Bool.and_self,cond_true]
 have h4:p.op=2∨p.op=3∨p.op=4∨p.op=5:=by omega
 rcases h4 with h | h | h | h<;>rw[h]
 ·have:=ZoF 2 vals (ZeR vals) (fun i x out hi hx ho=>by
   simp only[ZeR,ZdX hi,Zat hx,Option.bind_some,cond_true,ZW hi hl,Zk3,ZzC]) (fun out=>by simp only[ZeR,ZeG];rfl) 0 (by omega)
  show(lp (ZeR vals) (0,0)).bind _=_
  rw[this]
  exact fin _ (ZkH _ _ _ (by omega))
 ·have:=ZoF 3 vals (ZdR vals) (fun i x out hi hx ho=>by
   simp only[ZdR,ZdX hi,Zat hx,Option.bind_some,cond_true,ZW hi hl,Zk3,ZzQ]) (fun out=>by simp only[ZdR,ZeG];rfl) 1 (by omega)
  show(lp (ZdR vals) (1,0)).bind _=_
  rw[this]
  exact fin _ (ZkH _ _ _ (by omega))
 ·have:=ZoF 4 vals (ZdT vals) (fun i x out hi hx ho=>by
   simp only[ZdT,ZdX hi,Zat hx,Option.bind_some,cond_true,ZW hi hl,Zk3,Zzh]) (fun out=>by simp only[ZdT,ZeG];rfl) 0 (by omega)
  show(lp (ZdT vals) (0,0)).bind _=_
  rw[this]
  exact fin _ (ZkH _ _ _ (by omega))
 ·have:=ZoF 5 vals (ZdM vals) (fun i x out hi hx ho=>by
   simp only[ZdM,ZdX hi,Zat hx,Option.bind_some,cond_true,ZW hi hl,Zk3,ZAi]) (fun out=>by simp only[ZdM,ZeG];rfl) 7 (by omega)
  show(lp (ZdM vals) (7,0)).bind _=_
  rw[this]
  exact fin _ (ZkH _ _ _ (by omega))
end Go.Proofs.YtnmbdjkbaihicaaDoor
namespace Go.Proofs.YtnmbdjkbaihicaaDoor
open Go Go.Proofs.YtnmbdjkbaihicaaDoorE
set_option linter.unusedVariables false
set_option linter.unusedSimpArgs false
def Zij (d:Zh):Prop:=Za7 d=0∧ZgK (Z4 d).dag=0
theorem Zva {d:Zh} (h:Zij d):Zlj d=(Z4 d,0):=by unfold Zlj;rw[h.1,h.2];rfl
theorem ZvL {d:Zh} (h:¬Zij d):(Zlj d).1=⟨⟨[],[]⟩,[]⟩∧(Zlj d).2≠0:=by
 rcases Zuk d with⟨_,h2,h3⟩ | h4
 ·exact absurd ⟨h2,h3⟩ h
 ·exact h4
abbrev Zfi (d:Zh):Nat:=(Z4 d).dag.work.length
theorem Zpk {d:Zh} (g:ZaE d):Zfi d=d.parts.length+d.futures.length+d.barriers.length:=ZjX g
theorem ZqY {d:Zh} (g:ZaE d):(Z4 d).pieces.length=Zfi d:=(Zpf g).trans (ZjX g).symm
structure OKM (d:Zh) (m:Zbf):Prop where
 n:m.done.length=Zfi d
 v:m.vals.length=d.parts.length
def va (l:List Int) (p:Int):Int:=match l[p.toNat]? with | some x=>x | none=>0
theorem Zxw {d:Zh}{l:List Int} (o:l.length=d.parts.length) {p:Int} (h:inR d p):ZE l p=some (va l p):=by
 have h2:=h.2
 have e:=List.getElem?_eq_getElem (show p.toNat<l.length by rw[o];exact h2)
 rw[ZnU h.1 e]
 unfold va
 rw[e]
theorem ZuO {d:Zh} (hz:ZiZ d):Zif d=some (@ite _ (Zij d) (Classical.propDecidable _) (⟨List.replicate (Zfi d) false,List.replicate d.parts.length 0⟩,0) (⟨[],[]⟩,(Zlj d).2)):=by
 unfold Zif
 rw[Zvn hz,Option.bind_some]
 by_cases hl:Zij d
 ·have g:=ZcJ hl.1
  have hG:=(ZhI hl.2).1
  have hwl:=hG.wl
  have hpl:=g.pl
  have hp:(Z4 d).pieces.length=Zfi d:=ZqY g
  have hp64:Zfi d≤64:=hwl
  rw[if_pos hl,Zva hl]
  simp only[bne_self_eq_false,cond_false,hp,decide_eq_true (show(0:Int)≤((Zfi d:Nat):Int) by omega),decide_eq_true (show((Zfi d:Nat):Int)≤lim by show((Zfi d:Nat):Int)≤1073741824;omega),beq_self_eq_true,decide_true,Bool.and_self,cond_true,
   decide_eq_true (show(0:Int)≤(d.parts.length:Int) by omega),decide_eq_true (show(d.parts.length:Int)≤lim by show(d.parts.length:Int)≤1073741824;omega),Int.toNat_natCast]
 ·have hne:=(ZvL hl).2
  rw[if_neg hl,bne,beq_false_of_ne hne]
  rfl
def Zf0 (d:Zh) (n:Int):Option Nat:=(List.range d.parts.length).find? fun p=>ZbP d (p:Int)==n
theorem Zsl {d:Zh}{p:Nat} (h:p<d.parts.length):inR d (p:Int):=⟨by omega,by simpa using h⟩
theorem Zkm {d:Zh}{n:Int}{p:Nat} (h:Zf0 d n=some p):p<d.parts.length∧ZbP d (p:Int)=n:=by
 unfold Zf0 at h
 have h1:=List.mem_of_find?_eq_some h
 have h2:=List.find?_some h
 exact⟨List.mem_range.1 h1,by simpa using h2⟩
theorem ZhH (d:Zh) (p:Nat):ZbP d (p:Int)=((ZB d p+nt d p:Nat):Int):=by
 unfold ZbP
 rw[Int.toNat_natCast,ZeL]
 omega
theorem Zrg {d:Zh}{p:Nat} (hp:p<d.parts.length):Zf0 d (ZbP d (p:Int))=some p:=by
 cases h:Zf0 d (ZbP d (p:Int)) with
 | none=>
  unfold Zf0 at h
  have:=List.find?_eq_none.1 h p (List.mem_range.2 hp)
  simp at this
 | some q=>
  obtain⟨h1,h2⟩:=Zkm h
  rw[ZhH,ZhH] at h2
  have:=(ZcB d (Nat.le_refl _) (Nat.le_refl _) (Int.ofNat.inj h2)).1
  rw[this]
noncomputable def Zlq (d:Zh) (input:List Int) (m:Zbf) (n:Int):Zbf:=
 match Zf0 d n with
 | some p=>⟨m.done.set n.toNat true,m.vals.set p (opV (ZkW d (p:Int)) input ((Zde d (p:Int)).map (va m.vals)))⟩
 | none=>⟨m.done.set n.toNat true,m.vals⟩
end Go.Proofs.YtnmbdjkbaihicaaDoor
namespace Go.Proofs.YtnmbdjkbaihicaaDoor
open Go Go.Proofs.YtnmbdjkbaihicaaDoorE
set_option linter.unusedVariables false
set_option linter.unusedSimpArgs false
theorem ZyX {l:List Bool} (h1:0<l.length) (h2:l.length≤1000):ZbN l=some ():=by
 unfold ZbN
 rw[show Nat.blt 0 l.length=true by simp[Nat.blt];omega,Zg1 (show l.length≤1073741824 by omega)]
 rfl
theorem Zom {d:Zh}{n:Int} (h:∀p,p<d.parts.length→ZbP d (p:Int)≠n):Zf0 d n=none:=by
 cases hl:Zf0 d n with
 | none=>rfl
 | some p=>
  obtain⟨h1,h2⟩:=Zkm hl
  exact absurd h2 (h p h1)
theorem ZzJ {d:Zh} (hz:ZiZ d) (hl:Zij d) (input:List Int) (hi:input.length≤1000) {m:Zbf} (o:OKM d m) {n:Int} (hn:0≤n∧n.toNat<Zfi d):ZfQ d (Z4 d) input m n=some (Zlq d input m n):=by
 have g:=ZcJ hl.1
 have hG:=(ZhI hl.2).1
 have hn64:Zfi d≤64:=hG.wl
 have hN:=Zpk g
 have hpl:=g.pl
 have hp1:=g.p1
 have on:=o.n
 have ov:=o.v
 have en:((n.toNat:Nat):Int)=n:=Int.toNat_of_nonneg hn.1
 have hlenP:(ZdZ d).length=Zfi d:=ZqY g
 have hx:(ZdZ d)[n.toNat]? = some (ZdZ d)[n.toNat]:=List.getElem?_eq_getElem (by rw[hlenP];exact hn.2)
 generalize hxx:(ZdZ d)[n.toNat]'(by rw[hlenP];exact hn.2)=x at hx
 have gp:ZE (Z4 d).pieces n=some x:=ZnU hn.1 hx
 unfold ZfQ
 simp only[ZyX (show 0<m.done.length by omega) (by omega),Zsf (show 0<m.vals.length by omega) (by omega),Zr8 (g:=(Z4 d).dag) on hn,gp,Option.bind_some]
 rcases ZnZ hx with⟨p,j,h1,h2,h3,rfl⟩ | ⟨h1,h2⟩
 ·have hr:=Zsl h1
  simp only[decide_eq_false (show ¬((p:Int)<0) by omega),cond_false,Zxd g hr,Option.bind_some]
  by_cases hc:ZbP d (p:Int)=n
  ·obtain⟨hf,ht⟩:=ZhK d hz.short hl.1 (p:Int)
   have hfl:=ZkX g ht
   have loop:=Zpj (Zde d (p:Int)) hfl (ZdG m (Zde d (p:Int))) (va m.vals) (fun i x s hi' hx' hb=>by
    simp only[ZdG,ZdX hi',cond_true,Zat hx',Option.bind_some,Zxw ov (Zh6 g ht (List.mem_of_getElem? hx')),hb,ZW hi' (show(Zde d (p:Int)).length<9223372036854775808 by omega)]) (fun s=>by simp only[ZdG,ZeG,cond_false]) [] (by simp)
   rw[List.nil_append] at loop
   have hpp:ZE d.parts (p:Int)=some (ZkW d (p:Int)):=by
    unfold ZkW
    rw[Int.toNat_natCast,List.getElem?_eq_getElem h1]
    exact Zat (List.getElem?_eq_getElem h1)
   have hop:=ZtP (ZkW d (p:Int)) input ((Zde d (p:Int)).map (va m.vals)) hi (by rw[List.length_map];exact hfl)
   have hla:Zf0 d n=some p:=by rw[← hc];exact Zrg h1
   rw[bne,show(ZbP d (p:Int)==n)=true by simpa using hc]
   simp only[Bool.not_true,cond_false,hf,loop,Option.bind_some,hpp,hop,Zxw ov hr,Int.toNat_natCast]
   unfold Zlq
   rw[hla]
  ·have hla:Zf0 d n=none:=Zom fun q hq he=>hc (by
    rw[ZhH] at he ⊢
    have:=(ZcB d (Nat.le_refl _) h2 (show ZB d q+nt d q=ZB d p+j by omega)).1
    subst this
    exact he)
   rw[bne,beq_false_of_ne hc]
   unfold Zlq
   rw[hla]
   rfl
 ·have hla:Zf0 d n=none:=Zom fun q hq he=>by
   rw[ZhH] at he
   have:=ZbU d hq (Nat.le_refl (nt d q))
   omega
  rw[h2]
  unfold Zlq
  rw[hla]
  rfl
theorem Zvi {d:Zh} (input:List Int) {m:Zbf} (o:OKM d m) (n:Int):OKM d (Zlq d input m n):=by
 unfold Zlq
 cases Zf0 d n with
 | none=>exact⟨by rw[List.length_set];exact o.n,o.v⟩
 | some p=>exact⟨by rw[List.length_set];exact o.n,by rw[List.length_set];exact o.v⟩
theorem ZqK {d:Zh} (input:List Int) (m:Zbf) (n:Int):(Zlq d input m n).done=m.done.set n.toNat true:=by
 unfold Zlq
 cases Zf0 d n<;>rfl
noncomputable def Zsz (d:Zh) (input:List Int) (m:Zbf) (l:List Int):Zbf:=l.foldl (Zlq d input) m
def ZmP (d:Zh):Zbf:=⟨List.replicate (Zfi d) false,List.replicate d.parts.length 0⟩
theorem Zvo (d:Zh):OKM d (ZmP d):=⟨by simp[ZmP],by simp[ZmP]⟩
theorem Zsp {d:Zh} (hz:ZiZ d) (input:List Int) (hi:input.length≤1000):(¬Zij d→Zf5 d input=some ([],(Zlj d).2)) ∧
  (Zij d→∃l,ZzA (Z4 d).dag l∧Zf5 d input=some ((Zsz d input (ZmP d) l).vals,0)):=by
 constructor
 ·intro hl
  have hne:=(ZvL hl).2
  unfold Zf5
  rw[ZuO hz,if_neg hl,Option.bind_some]
  simp only
  rw[bne,beq_false_of_ne hne]
  rfl
 ·intro hl
  obtain⟨l,h1,T⟩:=ZoP hl.2
  have hG:=(ZhI hl.2).1
  refine⟨l,T,?_⟩
  have hll:l.length≤64:=by rw[T.len];exact hG.wl
  have loop:∀(k i:Nat) (m:Zbf),i+k=l.length→OKM d m→lp (Zem d input (Z4 d,0) l) ((i:Int),m.done,m.vals)=some ((Zsz d input m (l.drop i)).done,(Zsz d input m (l.drop i)).vals):=by
   intro k
   induction k with
   | zero=>
    intro i m hi' o
    have:i=l.length:=by omega
    subst this
    rw[List.drop_length,ZaU]
    simp only[Zem,ZeG,cond_false]
    rfl
   | succ k ih=>
    intro i m hi' o
    have hil:i<l.length:=by omega
    have hx:l[i]? = some l[i]:=List.getElem?_eq_getElem hil
    have hin:=T.inn l[i] (List.mem_of_getElem? hx)
    rw[List.drop_eq_getElem_cons hil,ZaU]
    simp only[Zem,ZdX hil,cond_true,Zat hx,Option.bind_some,show Zbf.mk m.done m.vals=m from rfl,ZzJ hz hl input hi o hin,ZW hil (show l.length<9223372036854775808 by omega)]
    exact ih (i+1) (Zlq d input m l[i]) (by omega) (Zvi input o _)
  have k0:=loop l.length 0 (ZmP d) (by omega) (Zvo d)
  rw[List.drop_zero] at k0
  unfold Zf5
  rw[ZuO hz,if_pos hl,Option.bind_some]
  simp only[bne_self_eq_false,cond_false,Zvn hz,Option.bind_some,Zva hl,h1]
  have k1:lp (Zem d input (Z4 d,0) l) (0,List.replicate (Zfi d) false,List.replicate d.parts.length 0)=_:=k0
  rw[k1]
  rfl
end Go.Proofs.YtnmbdjkbaihicaaDoor
namespace Go.Proofs.YtnmbdjkbaihicaaDoor
open Go Go.Proofs.YtnmbdjkbaihicaaDoorE
set_option linter.unusedVariables false
set_option linter.unusedSimpArgs false
theorem Zo5 {d:Zh} (g:ZaE d) {p q:Int} (ht:ZbX d p (Zfx d p)) (hp:inR d p) (hq:q∈Zde d p):Way (Z4 d).dag (ZbP d q) (ZbP d p)∧q≠p:=by
 rcases Zky g ht hq with⟨e,h1,h2,rfl⟩ | ⟨f,h1,h2,rfl⟩
 ·refine⟨?_,by have:=(Zh3 (g.g.e e h1)).2.2;rw[h2] at this;exact this⟩
  have w:Way (Z4 d).dag (ZbP d e.src) (ZeC d e.dst):=Way.one (ZqI h1)
  rw[h2] at w
  exact w.ways (ZBN hp)
 ·refine⟨?_,by have:=(Zh3 (g.g.f f h1).1).2.2;rw[h2] at this;exact this⟩
  have w:Way (Z4 d).dag (ZbP d f.maker) (Zr9 d f):=Way.one (ZqF h1)
  obtain⟨j,hj,hje⟩:=ZhL g h1
  rw[ZjC g h1 hj hje] at w
  have c:=ZxO (i:=j+1) (g.user h1).2 (nt d f.user.toNat) (by omega) (Nat.le_refl _)
  have e:ZB d f.user.toNat+(j+1)=ZB d f.user.toNat+j+1:=by omega
  rw[e] at c
  have w2:=w.ways c
  have e2:ZbP d p=((ZB d f.user.toNat+nt d f.user.toNat:Nat):Int):=by
   rw[← h2]
   unfold ZbP
   rw[ZeL]
   omega
  rw[e2]
  exact w2
structure ZpM (d:Zh) (input:List Int) (m:Zbf):Prop where
 o:OKM d m
 right:∀e∈(Z4 d).dag.edges,bAt m.done e.dst=true→bAt m.done e.src=true
 val:∀p:Nat,p<d.parts.length→bAt m.done (ZbP d (p:Int))=true→va m.vals (p:Int)=opV (ZkW d (p:Int)) input ((Zde d (p:Int)).map (va m.vals))
theorem ZpM.way {d:Zh}{input:List Int}{m:Zbf} (v:ZpM d input m) {a b:Int} (w:Way (Z4 d).dag a b) (h:bAt m.done b=true):bAt m.done a=true:=by
 induction w with
 | one he=>exact v.right _ he h
 | more _ he ih=>exact ih (v.right _ he h)
theorem ZAj (d:Zh) (input:List Int):ZpM d input (ZmP d):=by
 have no:∀z,bAt (ZmP d).done z=false:=fun z=>by
  unfold bAt ZmP
  rw[List.getElem?_replicate]
  by_cases h:z.toNat<Zfi d
  ·rw[if_pos h]
  ·rw[if_neg h]
 exact⟨Zvo d,fun e _ h=>(by rw[no] at h;cases h),fun p _ h=>(by rw[no] at h;cases h)⟩
theorem Zsy {l:List Int}{n:Nat} (hl:l.length=n) {p:Nat} (hp:p<n) (v:Int) {q:Int} (hq:0≤q):va (l.set p v) q=if q=(p:Int) then v else va l q:=by
 unfold va
 rw[List.getElem?_set]
 by_cases h:p=q.toNat
 ·rw[if_pos h,if_pos (by rw[hl];exact hp),if_pos (by omega)]
 ·rw[if_neg h,if_neg (by omega)]
theorem Zrm {d:Zh}{done:List Bool}{i:Nat}:ZiT (Z4 d).dag done i=true↔bAt done (i:Int)=false∧∀e∈(Z4 d).dag.edges,e.dst=(i:Int)→bAt done e.src=true:=by
 unfold ZiT
 rw[Bool.and_eq_true,Bool.not_eq_true',Bool.not_eq_true',List.any_eq_false]
 constructor
 ·rintro ⟨h1,h2⟩
  refine⟨h1,fun e he hd=>?_⟩
  have:=h2 e he
  rw[hd] at this
  simpa using this
 ·rintro ⟨h1,h2⟩
  refine⟨h1,fun e he hc=>?_⟩
  simp only[Bool.and_eq_true,beq_iff_eq,Bool.not_eq_true'] at hc
  rw[h2 e he hc.1] at hc
  cases hc.2
theorem ZyI {d:Zh} (hs:ZeQ d) (hl:Zij d) {input:List Int}{m:Zbf} (v:ZpM d input m) {i:Nat} (hi:i<Zfi d) (hr:ZiT (Z4 d).dag m.done i=true):ZpM d input (Zlq d input m (i:Int)):=by
 have g:=ZcJ hl.1
 have hG:=(ZhI hl.2).1
 obtain⟨r1,r2⟩:=Zrm.1 hr
 have on:=v.o.n
 have ov:=v.o.v
 have hd:∀z,0≤z→bAt (Zlq d input m (i:Int)).done z=(decide (z=(i:Int)) || bAt m.done z):=fun z hz=>by
  rw[ZqK,Int.toNat_natCast]
  exact Zsn (by rw[on];exact hi) z hz
 refine⟨Zvi input v.o _,fun e he h=>?_,fun p hp h=>?_⟩
 ·have s0:=(hG.src e he).1
  have d0:=(hG.dst e he).1
  rw[hd e.dst d0,Bool.or_eq_true,decide_eq_true_eq] at h
  rw[hd e.src s0,Bool.or_eq_true]
  rcases h with h | h
  ·exact .inr (r2 e he h)
  ·exact .inr (v.right e he h)
 ·obtain⟨hf,ht⟩:=ZhK d hs hl.1 (p:Int)
  have hpr:=Zsl hp
  have lz:(0:Int)≤ZbP d (p:Int):=by rw[ZhH];omega
  rw[hd _ lz,Bool.or_eq_true,decide_eq_true_eq] at h
  by_cases hc:ZbP d (p:Int)=(i:Int)
  ·have hla:Zf0 d (i:Int)=some p:=by rw[← hc];exact Zrg hp
   unfold Zlq
   rw[hla]
   simp only
   rw[Zsy ov hp _ (by omega),if_pos rfl]
   congr 1
   refine List.map_congr_left fun q hq=>?_
   have hq0:=(Zh6 g ht hq).1
   rw[Zsy ov hp _ hq0,if_neg (Zo5 g ht hpr hq).2]
  ·have hdone:bAt m.done (ZbP d (p:Int))=true:=by
    rcases h with h | h
    ·exact absurd h hc
    ·exact h
   have old:=v.val p hp hdone
   cases hla:Zf0 d (i:Int) with
   | none=>
    unfold Zlq
    rw[hla]
    exact old
   | some p'=>
    obtain⟨hp',hlz⟩:=Zkm hla
    unfold Zlq
    rw[hla]
    simp only
    rw[Zsy ov hp' _ (by omega),if_neg (fun he=>hc (by rw[he];exact hlz)),old]
    congr 1
    refine List.map_congr_left fun q hq=>?_
    have hqr:=Zh6 g ht hq
    rw[Zsy ov hp' _ hqr.1,if_neg]
    intro he
    have:=v.way (Zo5 g ht hpr hq).1 hdone
    rw[he,hlz,r1] at this
    cases this
def ZyO (d:Zh) (m:Zbf):Prop:=∀i:Nat,i<Zfi d→bAt m.done (i:Int)=true
theorem ZmZ {d:Zh} (g:ZaE d) {p:Nat} (hp:p<d.parts.length):∃i:Nat,i<Zfi d∧ZbP d (p:Int)=(i:Int):=by
 refine⟨ZB d p+nt d p,?_,ZhH d p⟩
 have:=ZbU d hp (Nat.le_refl (nt d p))
 rw[Zpk g,← ZgL g]
 omega
theorem ZvU {d:Zh} (hs:ZeQ d) (hl:Zij d) {input:List Int}{m o:Zbf} (v:ZpM d input m) (w:ZpM d input o) (hm:ZyO d m) (ho:ZyO d o):m.vals=o.vals:=by
 have g:=ZcJ hl.1
 obtain⟨l,_,T⟩:=ZoP hl.2
 have key:∀n j:Nat,j<n→∀p:Nat,p<d.parts.length→l[j]? = some (ZbP d (p:Int))→va m.vals (p:Int)=va o.vals (p:Int):=by
  intro n
  induction n with
  | zero=>intro j hj;omega
  | succ n ih=>
   intro j hj p hp hx
   obtain⟨i,hi,hie⟩:=ZmZ g hp
   obtain⟨hf,ht⟩:=ZhK d hs hl.1 (p:Int)
   rw[v.val p hp (by rw[hie];exact hm i hi),w.val p hp (by rw[hie];exact ho i hi)]
   congr 1
   refine List.map_congr_left fun q hq=>?_
   have hqr:=Zh6 g ht hq
   have eq:((q.toNat:Nat):Int)=q:=Int.toNat_of_nonneg hqr.1
   have wy:=(Zo5 g ht (Zsl hp) hq).1
   have pos:∀{a b:Int},Way (Z4 d).dag a b→∀j:Nat,l[j]? = some b→∃k,k<j∧l[k]? = some a:=by
    intro a b w
    induction w with
    | one he=>intro j hj;exact T.topo j _ hj _ he rfl
    | more _ he ih2=>
     intro j hj
     obtain⟨k,k1,k2⟩:=T.topo j _ hj _ he rfl
     obtain⟨k',k3,k4⟩:=ih2 k k2
     exact⟨k',by omega,k4⟩
   obtain⟨k,k1,k2⟩:=pos wy j hx
   have:=ih k (by omega) q.toNat hqr.2 (by rw[eq];exact k2)
   rwa [eq] at this
 refine List.ext_getElem (by rw[v.o.v,w.o.v]) fun p h1 h2=>?_
 have hp:p<d.parts.length:=by rw[← v.o.v];exact h1
 obtain⟨i,hi,hie⟩:=ZmZ g hp
 obtain⟨j,hj⟩:=List.getElem?_of_mem (T.all i hi)
 have:=key (j+1) j (by omega) p hp (by rw[hie];exact hj)
 unfold va at this
 rw[Int.toNat_natCast,List.getElem?_eq_getElem h1,List.getElem?_eq_getElem h2] at this
 exact this
theorem Zzo {d:Zh} (hs:ZeQ d) (hl:Zij d) (input:List Int) {l:List Int} (T:ZzA (Z4 d).dag l):ZpM d input (Zsz d input (ZmP d) l)∧ZyO d (Zsz d input (ZmP d) l):=by
 have key:∀(k i:Nat) (m:Zbf),i+k=l.length→ZpM d input m→(∀z:Int,0≤z→(bAt m.done z=true↔∃j,j<i∧l[j]? = some z))→ZpM d input (Zsz d input m (l.drop i))∧ZyO d (Zsz d input m (l.drop i)):=by
  intro k
  induction k with
  | zero=>
   intro i m hi v hd
   have:i=l.length:=by omega
   subst this
   rw[List.drop_length]
   refine⟨v,fun i hi2=>(hd (i:Int) (by omega)).2 ?_⟩
   obtain⟨j,hj⟩:=List.getElem?_of_mem (T.all i hi2)
   exact⟨j,(List.getElem?_eq_some_iff.1 hj).1,hj⟩
  | succ k ih=>
   intro i m hi v hd
   have hil:i<l.length:=by omega
   have hx:l[i]? = some l[i]:=List.getElem?_eq_getElem hil
   generalize hn:l[i]=n at hx
   have nin:=T.inn n (List.mem_of_getElem? hx)
   have en:((n.toNat:Nat):Int)=n:=Int.toNat_of_nonneg nin.1
   have hr:ZiT (Z4 d).dag m.done n.toNat=true:=by
    refine Zrm.2 ⟨?_,fun e he hdst=>?_⟩
    ·rw[en]
     cases hb:bAt m.done n with
     | false=>rfl
     | true=>
      obtain⟨j,j1,j2⟩:=(hd n nin.1).1 hb
      have:=Zrr T.nod j2 hx
      omega
    ·rw[en] at hdst
     exact(hd e.src ((ZhI hl.2).1.src e he).1).2 (T.topo i n hx e he hdst)
   have hs2:=ZyI hs hl v nin.2 hr
   rw[en] at hs2
   rw[List.drop_eq_getElem_cons hil,hn]
   refine ih (i+1) (Zlq d input m n) (by omega) hs2 fun z hz=>?_
   rw[ZqK,Zsn (by rw[v.o.n];exact nin.2) z hz,Bool.or_eq_true,decide_eq_true_eq,en,hd z hz]
   constructor
   ·rintro (h | ⟨j,j1,j2⟩)
    ·exact⟨i,by omega,by rw[h];exact hx⟩
    ·exact⟨j,by omega,j2⟩
   ·rintro ⟨j,j1,j2⟩
    by_cases hj:j=i
    ·subst hj;rw[hx] at j2;exact .inl (Option.some.inj j2).symm
    ·exact .inr ⟨j,by omega,j2⟩
 have:=key l.length 0 (ZmP d) (by omega) (ZAj d input) (fun z hz=>by
  constructor
  ·intro h
   exfalso
   have:bAt (ZmP d).done z=false:=by
    unfold bAt ZmP
    rw[List.getElem?_replicate]
    by_cases h:z.toNat<Zfi d
    ·rw[if_pos h]
    ·rw[if_neg h]
   rw[this] at h
   cases h
  ·rintro ⟨j,j1,_⟩;omega)
 rwa [List.drop_zero] at this
end Go.Proofs.YtnmbdjkbaihicaaDoor
namespace Go.Proofs.YtnmbdjkbaihicaaDoor
open Go Go.Proofs.YtnmbdjkbaihicaaDoorE
set_option linter.unusedVariables false
set_option linter.unusedSimpArgs false
def wk (s:ZC) (p:Int):Int:=match s.work[p.toNat]? with | some x=>x | none=>0
def vl (s:ZC) (p:Int):Int:=match s.vals[p.toNat]? with | some x=>x | none=>0
def Zdc (d:Zh) (s:ZC) (p:Int):Bool:=wk s p==ZcE d.parts p
structure OKS (d:Zh) (s:ZC):Prop where
 w:s.work.length=d.parts.length
 v:s.vals.length=d.parts.length
theorem Zss {d:Zh}{s:ZC} (o:OKS d s) {p:Int} (h:inR d p):ZE s.work p=some (wk s p):=by
 have hl:p.toNat<s.work.length:=by rw[o.w];exact h.2
 unfold wk
 rw[List.getElem?_eq_getElem hl]
 exact Znb h.1 hl
theorem Zxp {d:Zh}{s:ZC} (o:OKS d s) {p:Int} (h:inR d p):ZE s.vals p=some (vl s p):=by
 have hl:p.toNat<s.vals.length:=by rw[o.v];exact h.2
 unfold vl
 rw[List.getElem?_eq_getElem hl]
 exact Znb h.1 hl
theorem Zi7 {d:Zh}{p:Int} (h:inR d p):∃x,ZE d.parts p=some x∧d.parts[p.toNat]? = some x∧x.work=ZcE d.parts p:=by
 obtain⟨h0,hl⟩:=h
 refine⟨d.parts[p.toNat]'hl,Znb h0 hl,List.getElem?_eq_getElem hl,?_⟩
 unfold ZcE
 rw[List.getElem?_eq_getElem hl]
theorem Znp {d:Zh}{s:ZC} (o:OKS d s) {p:Int} (h:inR d p):Zca d s p=some (Zdc d s p):=by
 obtain⟨x,h1,_,h3⟩:=Zi7 h
 unfold Zca Zdc
 rw[Zss o h,h1]
 simp only[Option.bind_some]
 rw[h3]
 cases (wk s p==ZcE d.parts p)<;>rfl
def ZqN (d:Zh) (s:ZC) (p:Int) (e:Zm):Bool:=(e.dst==p) && !Zdc d s e.src
def Znv (d:Zh) (s:ZC) (p:Int) (b:Zr):Bool:=(b.outs.any fun x=>p==x)&&b.ins.any fun q=>!Zdc d s q
def Zk4 (d:Zh) (s:ZC) (p:Int):Bool:=!(d.edges.any (ZqN d s p)) && !(d.barriers.any (Znv d s p))
theorem Zxj {d:Zh}{s:ZC} (g:ZaE d) (hs:∀b∈d.barriers,Zqx b) (o:OKS d s) (p:Int):ZeU d s p=some (Zk4 d s p):=by
 have sh:=g.short hs
 have k1:=Zfe d.edges (ZcS d s p) (fun _=>ZqN d s p) (fun _ _=>.inl ()) (.inr ()) (fun i x hi hx=>by
  simp only[ZcS,ZdX hi,Zat hx,Option.bind_some,ZW hi sh.e,cond_true,ZqN,Znp o (g.src (List.mem_of_getElem? hx))]
  cases (x.dst==p)<;>cases Zdc d s x.src<;>rfl) (by simp only[ZcS,ZeG];rfl)
 have k3:∀b∈d.barriers,lp (Zcj d s b) 0=some (bif b.ins.any (fun q=>!Zdc d s q) then .inl () else .inr ()):=fun b hb=>by
  have:=Zfe b.ins (Zcj d s b) (fun _ q=>!Zdc d s q) (fun _ _=>.inl ()) (.inr ()) (fun i x hi hx=>by
   simp only[Zcj,ZdX hi,Zat hx,Option.bind_some,ZW hi (hs b hb).1,cond_true,Znp o (g.ins b hb x (List.mem_of_getElem? hx))]
   cases Zdc d s x<;>rfl) (by simp only[Zcj,ZeG];rfl)
  rw[this,Zdi,ZhR]
 have k2:=Zfe d.barriers (ZcO d s p) (fun _=>Znv d s p) (fun _ _=>.inl ()) (.inr ()) (fun i x hi hx=>by
  have hb:=List.mem_of_getElem? hx
  simp only[ZcO,ZdX hi,Zat hx,Option.bind_some,ZW hi sh.b,cond_true,Znv,ZtN _ _ (hs x hb).2,k3 x hb]
  cases (x.outs.any fun y=>p==y)<;>cases (x.ins.any fun q=>!Zdc d s q)<;>rfl) (by simp only[ZcO,ZeG];rfl)
 unfold ZeU Zk4
 rw[k1,Zdi,ZhR]
 cases d.edges.any (ZqN d s p) with
 | true=>rfl
 | false=>
  simp only[cond_false,Option.bind_some]
  rw[k2,Zdi,ZhR]
  cases d.barriers.any (Znv d s p)<;>rfl
theorem Zq5 {γ R:Type} (q:γ→Bool) (f:γ→R) (fin:R):∀(l:List γ) (i:Nat),Zhb (fun _=>q) (fun _ x=>f x) fin i l=(match l.find? q with | some x=>f x | none=>fin)
 | [],_=>rfl
 | x :: l,i=>by
  unfold Zhb
  rw[List.find?_cons]
  cases q x with
  | true=>rfl
  | false=>exact Zq5 q f fin l (i+1)
def Zog (s:ZC) (p:Int) (f:Zj):Bool:=(f.user==p)&&(f.pos==wk s p)
def Zye (d:Zh) (s:ZC) (p:Int):Bool:=match d.futures.find? (Zog s p) with | some f=>Zdc d s f.maker | none=>true
def Zrx (d:Zh) (s:ZC) (p:Int):Bool:=!Zdc d s p&&((!(wk s p==0) || Zk4 d s p)&&Zye d s p)
theorem ZqM {d:Zh}{s:ZC} (g:ZaE d) (o:OKS d s) {p:Int} (hp:inR d p) (step:Int→Option (Int⊕(Unit⊕Unit))) (hstep:step=Zck d s p) :
  ((lp step 0).bind fun r=>match r with | .inl _=>some true | .inr _=>some false)=some (Zye d s p):=by
 subst hstep
 have k:=Zfe d.futures (Zck d s p) (fun _=>Zog s p) (fun _ f=>bif Zdc d s f.maker then (.inl ():Unit⊕Unit) else .inr ()) (.inl ()) (fun i x hi hx=>by
  simp only[Zck,ZdX hi,Zat hx,Option.bind_some,ZW hi (show d.futures.length<9223372036854775808 by have:=g.fl;omega),cond_true,Zog,Zss o hp,Znp o (g.maker (List.mem_of_getElem? hx))]
  cases (x.user==p)<;>cases (x.pos==wk s p)<;>cases Zdc d s x.maker<;>rfl) (by simp only[Zck,ZeG];rfl)
 rw[k,Zq5 (Zog s p) (fun f=>bif Zdc d s f.maker then (.inl ():Unit⊕Unit) else .inr ())]
 unfold Zye
 cases d.futures.find? (Zog s p) with
 | none=>rfl
 | some f=>dsimp only;cases Zdc d s f.maker<;>rfl
theorem ZBf {d:Zh}{s:ZC} (g:ZaE d) (hs:∀b∈d.barriers,Zqx b) (o:OKS d s) {p:Int} (hp:inR d p):ZfN d s p=some (Zrx d s p):=by
 unfold ZfN Zrx
 rw[Znp o hp,Zss o hp,Zxj g hs o]
 simp only[Option.bind_some]
 cases Zdc d s p with
 | true=>rfl
 | false=>
  simp only[cond_false,Bool.not_false,Bool.true_and]
  cases (wk s p==0) with
  | true=>
   cases Zk4 d s p with
   | false=>rfl
   | true=>
    simp only[cond_true,Bool.not_true,Bool.false_or,Bool.true_and]
    exact ZqM g o hp _ rfl
  | false=>
   simp only[cond_false,Bool.not_false,Bool.true_or,Bool.true_and]
   exact ZqM g o hp _ rfl
theorem ZfG {d:Zh}{i:Nat} (h:i<d.parts.length):inR d (i:Int):=⟨by omega,by simpa using h⟩
def Zo3 (d:Zh) (s:ZC):List Int:=pick (fun i=>Zrx d s (i:Int)) d.parts.length
theorem ZAF {d:Zh}{s:ZC} (g:ZaE d) (hs:∀b∈d.barriers,Zqx b) (o:OKS d s):Zfy d s=some (Zo3 d s):=by
 have hl:d.parts.length<9223372036854775808:=by have:=g.pl;omega
 have:=ZAd d.parts (by have:=g.pl;omega) (fun i=>Zrx d s (i:Int)) (Zd9 d s) (fun i acc hi=>by
  simp only[Zd9,ZdX hi,cond_true,ZBf g hs o (ZfG hi),Option.bind_some,ZW hi hl]) (fun acc=>by simp only[Zd9,ZeG];rfl)
 unfold Zfy Zo3
 rw[this];rfl
theorem Zv5 (s:ZC) (l:List Int) (hl:l.length≤1000) (hP:∀x∈l,ZE s.vals x=some (vl s x)) (step:Int×List Int→Option ((Int×List Int)⊕List Int))
  (hstep:∀t,step t=(bif (decide (t.1<(l.length:Int))) then (ZE l t.1).bind fun x6=>(ZE s.vals x6).bind fun x7=>bif (Nat.ble (List.length t.2+1) lim) then some (.inl ((w64 (t.1+1)),(t.2++[x7]))) else none else some (.inr t.2))) :
  lp step (0,[])=some (l.map (vl s)):=by
 have:=Zsc l hl (fun _=>true) (fun _ x=>vl s x) step (fun i x acc hi hx=>by
  rw[hstep]
  simp only[ZdX hi,Zat hx,Option.bind_some,ZW hi (show l.length<9223372036854775808 by omega),cond_true,hP x (List.mem_of_getElem? hx)]) (fun acc=>by
  rw[hstep]
  simp only[ZeG,cond_false]) [] (by simp)
 rw[Zse (vl s) l 0,List.nil_append] at this
 exact this
def more (s:ZC) (p:Int):ZC:=⟨s.work.set p.toNat (wk s p+1),s.vals⟩
noncomputable def ZoU (d:Zh) (input:List Int) (s:ZC) (p:Int):Int:=opV (ZkW d p) input ((Zde d p).map (vl s))
noncomputable def ZeY (d:Zh) (input:List Int) (s:ZC) (p:Int):ZC:=
 ⟨s.work.set p.toNat (wk s p+1),bif Zdc d (more s p) p then s.vals.set p.toNat (ZoU d input s p) else s.vals⟩
theorem OKS.more {d:Zh}{s:ZC} (o:OKS d s) (p:Int):OKS d (more s p):=⟨by unfold Proofs.YtnmbdjkbaihicaaDoor.more;rw[List.length_set];exact o.w,o.v⟩
theorem OKS.step {d:Zh}{s:ZC} (o:OKS d s) (input:List Int) (p:Int):OKS d (ZeY d input s p):=by
 refine⟨by unfold ZeY;rw[List.length_set];exact o.w,?_⟩
 unfold ZeY
 dsimp only
 cases Zdc d (Proofs.YtnmbdjkbaihicaaDoor.more s p) p
 ·exact o.v
 ·simp only[cond_true,List.length_set];exact o.v
theorem ZBW {d:Zh}{s:ZC} (hc:Za7 d=0) (hs:∀b∈d.barriers,Zqx b) (o:OKS d s) {p:Int} (hp:inR d p) (input:List Int) (hi:input.length≤1000) (hw:0≤wk s p∧wk s p≤100) :
  Ze3 d input s p=some (ZeY d input s p):=by
 have g:=ZcJ hc
 have sh:=g.short hs
 obtain⟨f1,f2⟩:=ZhK d sh hc p
 have g1:=g.p1;have g2:=g.pl
 have hlw:0<s.work.length∧s.work.length≤1000:=by rw[o.w];omega
 have hlv:0<s.vals.length∧s.vals.length≤1000:=by rw[o.v];omega
 obtain⟨x,q1,q2,_⟩:=Zi7 hp
 have hx:ZkW d p=x:=by unfold ZkW;rw[q2]
 unfold Ze3 ZeY ZoU
 rw[Zsf hlw.1 hlw.2,Zsf hlv.1 hlv.2,Zss o hp]
 simp only[Option.bind_some]
 rw[ZcD (n:=wk s p+1) (by omega) (by omega)]
 have hd:=Znp (o.more p) hp
 unfold more at hd
 rw[hd]
 simp only[Option.bind_some]
 show(bif Zdc d (more s p) p then _ else _)=some (ZC.mk (s.work.set p.toNat (wk s p+1)) (bif Zdc d (more s p) p then _ else _))
 cases Zdc d (more s p) p with
 | false=>rfl
 | true=>
  simp only[cond_true]
  rw[f1]
  simp only[Option.bind_some]
  rw[Zv5 s (Zde d p) (ZkX g f2) (fun y hy=>Zxp o (Zh6 g f2 hy)) (Zfz s (Zde d p)) (fun t=>rfl)]
  simp only[Option.bind_some]
  rw[q1]
  simp only[Option.bind_some]
  rw[ZtP x input _ hi (by rw[List.length_map];exact ZkX g f2),Zxp o hp]
  simp only[Option.bind_some]
  rw[hx]
def Zer (d:Zh) (s:ZC) (p:Int):Prop:=wk s p=ZcE d.parts p
def Zma (d:Zh) (s:ZC) (p:Int):Prop:=(∀e∈d.edges,e.dst=p→Zer d s e.src)∧(∀b∈d.barriers,p∈b.outs→∀q∈b.ins,Zer d s q)
def Zs0 (d:Zh) (s:ZC) (p:Int):Prop:=¬Zer d s p∧(wk s p=0→Zma d s p)∧(∀f∈d.futures,f.user=p→f.pos=wk s p→Zer d s f.maker)
structure Zkn (d:Zh) (s:ZC):Prop where
 o:OKS d s
 rng:∀p,inR d p→0≤wk s p∧wk s p≤ZcE d.parts p
 beg:∀p,inR d p→0<wk s p→Zma d s p
 fut:∀f∈d.futures,f.pos<wk s f.user→Zer d s f.maker
theorem Zgc {d:Zh}{s:ZC}{p:Int}:Zdc d s p=true↔Zer d s p:=by unfold Zdc Zer;simp
theorem ZBA {d:Zh}{s:ZC}{p:Int} (h:¬Zer d s p):Zdc d s p=false:=by
 cases hb:Zdc d s p with
 | false=>rfl
 | true=>exact absurd (Zgc.1 hb) h
theorem Zul {d:Zh}{s:ZC}{p:Int}:Zk4 d s p=true↔Zma d s p:=by
 have e1:∀e:Zm,ZqN d s p e=true↔(e.dst=p∧¬Zer d s e.src):=fun e=>by
  unfold ZqN
  rw[← Zgc]
  cases Zdc d s e.src<;>simp
 have e2:∀b:Zr,Znv d s p b=true↔(p∈b.outs∧∃q∈b.ins,¬Zer d s q):=fun b=>by
  unfold Znv
  rw[Bool.and_eq_true,List.any_eq_true,List.any_eq_true]
  constructor
  ·rintro ⟨⟨x,h1,h2⟩,⟨q,h3,h4⟩⟩
   have h2:=eq_of_beq h2
   subst h2
   exact⟨h1,q,h3,fun h=>by rw[Zgc.2 h] at h4;cases h4⟩
  ·rintro ⟨h1,q,h3,h4⟩
   exact⟨⟨p,h1,by simp⟩,⟨q,h3,by cases h:Zdc d s q with | false=>rfl | true=>exact absurd (Zgc.1 h) h4⟩⟩
 unfold Zk4 Zma
 rw[Bool.and_eq_true,Bool.not_eq_true',Bool.not_eq_true',List.any_eq_false,List.any_eq_false]
 constructor
 ·rintro ⟨h1,h2⟩
  exact⟨fun e he h=>Classical.byContradiction fun hn=>h1 e he ((e1 e).2 ⟨h,hn⟩),fun b hb h q hq=>Classical.byContradiction fun hn=>h2 b hb ((e2 b).2 ⟨h,q,hq,hn⟩)⟩
 ·rintro ⟨h1,h2⟩
  exact⟨fun e he h=>by obtain⟨a,b⟩:=(e1 e).1 h;exact b (h1 e he a),fun b hb h=>by obtain⟨a,q,c,f⟩:=(e2 b).1 h;exact f (h2 b hb a q c)⟩
theorem Zzm {d:Zh}{s:ZC} (g:ZaE d) {p:Int}:Zye d s p=true↔(∀f∈d.futures,f.user=p→f.pos=wk s p→Zer d s f.maker):=by
 unfold Zye
 cases hf:d.futures.find? (Zog s p) with
 | none=>
  simp only[true_iff]
  intro f h1 h2 h3
  have:=List.find?_eq_none.1 hf f h1
  unfold Zog at this
  simp[h2,h3] at this
 | some f=>
  have m:=List.mem_of_find?_eq_some hf
  have q:=List.find?_some hf
  unfold Zog at q
  simp only[Bool.and_eq_true,beq_iff_eq] at q
  dsimp only
  rw[Zgc]
  constructor
  ·intro h f' h1 h2 h3
   have:f'=f:=by
    obtain⟨i,hi⟩:=List.getElem?_of_mem m
    obtain⟨j,hj⟩:=List.getElem?_of_mem h1
    rcases Nat.lt_trichotomy i j with hl | hl | hl
    ·exact absurd ⟨q.1.trans h2.symm,q.2.trans h3.symm⟩ (g.g.ne i j f f' hl hi hj)
    ·subst hl;rw[hi] at hj;exact(Option.some.inj hj).symm
    ·exact absurd ⟨h2.trans q.1.symm,h3.trans q.2.symm⟩ (g.g.ne j i f' f hl hj hi)
   rw[this];exact h
  ·intro h
   exact h f m q.1 q.2
theorem Zpy {d:Zh}{s:ZC} (g:ZaE d) {p:Int}:Zrx d s p=true↔Zs0 d s p:=by
 unfold Zrx Zs0
 simp only[Bool.and_eq_true,Bool.not_eq_true',Bool.or_eq_true,Zzm g,Zul]
 constructor
 ·rintro ⟨h1,h2,h3⟩
  refine⟨fun h=>(by rw[Zgc.2 h] at h1;cases h1),fun h=>?_,h3⟩
  rcases h2 with h2 | h2
  ·rw[h] at h2;simp at h2
  ·exact h2
 ·rintro ⟨h1,h2,h3⟩
  refine⟨ZBA h1,?_,h3⟩
  by_cases h:wk s p=0
  ·exact .inr (h2 h)
  ·left;simpa using h
theorem ZuB {γ:Type}{p:Nat→γ→Bool}{l:List γ}:Ze1 p 0 l=false↔∀(i:Nat) x,l[i]? = some x→p i x=false:=by
 constructor
 ·intro h i x hx
  cases hb:p i x with
  | false=>rfl
  | true=>rw[(ZfL _ _ 0).2 ⟨i,x,hx,by simpa using hb⟩] at h;cases h
 ·intro h
  cases hb:Ze1 p 0 l with
  | false=>rfl
  | true=>
   obtain⟨j,x,h1,h2⟩:=(ZfL _ _ 0).1 hb
   rw[Nat.zero_add,h j x h1] at h2;cases h2
theorem Zgo {d:Zh}{s:ZC} (o:OKS d s) (input:List Int) {p:Int} (hp:inR d p):wk (ZeY d input s p) p=wk s p+1:=by
 have hl:p.toNat<s.work.length:=by rw[o.w];exact hp.2
 conv=>lhs;unfold wk ZeY
 dsimp only
 rw[List.getElem?_set_self hl]
theorem Zcu {d:Zh}{s:ZC} (input:List Int) {p q:Int} (hp:inR d p) (hq:inR d q) (h:q≠p):wk (ZeY d input s p) q=wk s q:=by
 have:p.toNat≠q.toNat:=by have:=hp.1;have:=hq.1;omega
 conv=>lhs;unfold wk ZeY
 dsimp only
 rw[List.getElem?_set_ne this]
 rfl
theorem Znj {d:Zh}{s:ZC} (o:OKS d s) (input:List Int) {p:Int} (hp:inR d p) (hn:¬Zer d s p) {q:Int} (hq:inR d q) (h:Zer d s q):Zer d (ZeY d input s p) q:=by
 by_cases e:q=p
 ·subst e;exact absurd h hn
 ·unfold Zer;rw[Zcu input hp hq e];exact h
theorem ZsY {d:Zh}{s:ZC} (g:ZaE d) (o:OKS d s) (input:List Int) {p:Int} (hp:inR d p) (hn:¬Zer d s p) {q:Int} (h:Zma d s q):Zma d (ZeY d input s p) q:=
 ⟨fun e he h1=>Znj o input hp hn (g.src he) (h.1 e he h1),fun b hb h1 r hr=>Znj o input hp hn (g.ins b hb r hr) (h.2 b hb h1 r hr)⟩
theorem ZjA {d:Zh}{s:ZC} (g:ZaE d) (r:Zkn d s) (input:List Int) {p:Int} (hp:inR d p) (hg:Zs0 d s p):Zkn d (ZeY d input s p):=by
 have hw:=r.rng p hp
 have hlt:wk s p<ZcE d.parts p:=by have:=hg.1;unfold Zer at this;omega
 refine⟨r.o.step input p,fun q hq=>?_,fun q hq h=>?_,fun f hf h=>?_⟩
 ·by_cases e:q=p
  ·subst e;rw[Zgo r.o input hp];omega
  ·rw[Zcu input hp hq e];exact r.rng q hq
 ·refine ZsY g r.o input hp hg.1 ?_
  by_cases e:q=p
  ·subst e
   by_cases h0:wk s q=0
   ·exact hg.2.1 h0
   ·exact r.beg q hq (by omega)
  ·rw[Zcu input hp hq e] at h
   exact r.beg q hq h
 ·refine Znj r.o input hp hg.1 (g.maker hf) ?_
  by_cases e:f.user=p
  ·rw[e,Zgo r.o input hp] at h
   rcases Int.lt_or_eq_of_le (show f.pos≤wk s p by omega) with h1 | h1
   ·exact r.fut f hf (by rw[e];exact h1)
   ·exact hg.2.2 f hf e h1
  ·rw[Zcu input hp (g.user hf) e] at h
   exact r.fut f hf h
theorem Zz7 {d:Zh} (g:ZaE d) (p:Int):ZcE d.parts p≤100:=Zjj g.g p
def Zx8 (d:Zh) (input:List Int) (s:ZC):Bool:=few d&&(decide ((input.length:Int)≤60)&&(decide ((s.work.length:Int)≤20)&&decide ((s.vals.length:Int)≤20)))
theorem ZAM (d:Zh) (input:List Int) (s:ZC):Zg3 d input s=some (Zx8 d input s):=by
 unfold Zg3 Zx8
 rw[ZB7]
 simp only[Option.bind_some]
 cases few d<;>cases decide ((input.length:Int)≤60)<;>cases decide ((s.work.length:Int)≤20)<;>cases decide ((s.vals.length:Int)≤20)<;>rfl
theorem ZzV {d:Zh}{input:List Int}{s:ZC} (h:Zx8 d input s=true):ZiZ d∧input.length≤60∧s.work.length≤20∧s.vals.length≤20:=by
 unfold Zx8 at h
 simp only[Bool.and_eq_true,decide_eq_true_eq] at h
 exact⟨ZvT h.1,by omega,by omega,by omega⟩
def ZpO (d:Zh):ZC:=⟨List.replicate d.parts.length 0,List.replicate d.parts.length 0⟩
theorem ZlT (d:Zh) (p:Int):wk (ZpO d) p=0:=by
 unfold wk ZpO
 dsimp only
 rw[List.getElem?_replicate]
 split<;>rename_i h<;>split at h<;>simp_all
theorem Znl {d:Zh} (g:ZaE d):Zkn d (ZpO d):=by
 refine⟨⟨by simp[ZpO],by simp[ZpO]⟩,fun p hp=>?_,fun p hp h=>?_,fun f hf h=>?_⟩
 ·obtain⟨x,_,h2,h3⟩:=Zi7 hp
  have:=(g.g.w x (List.mem_of_getElem? h2)).1
  rw[ZlT,← h3]
  omega
 ·rw[ZlT] at h;omega
 ·rw[ZlT] at h
  have:=(g.g.f f hf).2.1
  omega
theorem ZAw (d:Zh) (h:ZeQ d):Zgl d=some (bif (Za7 d==0) then (ZpO d,0) else (⟨[],[]⟩,Za7 d)):=by
 unfold Zgl ZpO
 rw[ZoA d h]
 simp only[Option.bind_some]
 by_cases hc:Za7 d=0
 ·have g:=ZcJ hc
  have hl:=g.pl
  rw[hc]
  simp only[bne_self_eq_false,cond_false,beq_self_eq_true,cond_true,Int.toNat_natCast]
  rw[decide_eq_true (show(0:Int)≤(d.parts.length:Int) by omega),decide_eq_true (show(d.parts.length:Int)≤lim by unfold lim;omega)]
  simp
 ·rw[show(Za7 d != 0)=true by simpa using hc,show(Za7 d==0)=false by simpa using hc]
  rfl
theorem ZxF (d:Zh):Zh.mk d.period d.deadline d.parts d.edges d.futures d.barriers=d:=rfl
end Go.Proofs.YtnmbdjkbaihicaaDoor
namespace Go.Proofs.YtnmbdjkbaihicaaDoor
open Go Go.Proofs.YtnmbdjkbaihicaaDoorE
set_option linter.unusedVariables false
set_option linter.unusedSimpArgs false
inductive Runs (d:Zh) (input:List Int):ZC→Prop where
 | new:Runs d input (ZpO d)
 | step {s:ZC} {p:Int}:Runs d input s→inR d p→Zs0 d s p→Runs d input (ZeY d input s p)
theorem Runs.right {d:Zh}{input:List Int} (g:ZaE d) {s:ZC} (h:Runs d input s):Zkn d s:=by
 induction h with
 | new=>exact Znl g
 | step _ hp hg ih=>exact ZjA g ih input hp hg
def ZsW (d:Zh) (s:ZC):Prop:=∀p,inR d p→¬Zs0 d s p
theorem ZuU {d:Zh}{s:ZC} (g:ZaE d):Zo3 d s=[]↔ZsW d s:=by
 constructor
 ·intro h p hp hg
  have:p∈Zo3 d s:=Zqf.2 ⟨p.toNat,hp.2,by rw[Int.toNat_of_nonneg hp.1];exact(Zpy g).2 hg,(Int.toNat_of_nonneg hp.1).symm⟩
  rw[h] at this;cases this
 ·intro h
  refine List.eq_nil_iff_forall_not_mem.2 fun p hp=>?_
  obtain⟨i,h1,h2,rfl⟩:=Zqf.1 hp
  exact h _ (ZfG h1) ((Zpy g).1 h2)
theorem Zy3 {d:Zh}{s:ZC} (g:ZaE d) {p:Int} (h:p∈Zo3 d s):inR d p∧Zs0 d s p:=by
 obtain⟨i,h1,h2,rfl⟩:=Zqf.1 h
 exact⟨ZfG h1,(Zpy g).1 h2⟩
theorem ZjI {d:Zh}{s:ZC} (g:ZaE d) (r:Zkn d s) {p:Int} (hp:inR d p) (ht:ZbX d p (Zfx d p)) (hd:Zer d s p) {q:Int} (hq:q∈Zde d p):inR d q∧q≠p∧Zer d s q:=by
 obtain⟨x,_,h2,h3⟩:=Zi7 hp
 have hw:=(g.g.w x (List.mem_of_getElem? h2)).1
 unfold Zer at hd
 rcases Zky g ht hq with⟨e,h1,h4,rfl⟩ | ⟨f,h1,h4,rfl⟩
 ·have:=(Zh3 (g.g.e e h1)).2.2
  exact⟨g.src h1,by rw[← h4];exact this,(r.beg p hp (by omega)).1 e h1 h4⟩
 ·have:=(Zh3 (g.g.f f h1).1).2.2
  have hpos:=(g.g.f f h1).2.2
  exact⟨g.maker h1,by rw[← h4];exact this,r.fut f h1 (by rw[h4] at hpos ⊢;omega)⟩
theorem ZnE {d:Zh}{s:ZC} (input:List Int) {p q:Int} (hp:inR d p) (hq:inR d q) (h:q≠p) (hd:Zer d (ZeY d input s p) q):Zer d s q:=by
 unfold Zer at hd ⊢
 rwa [Zcu input hp hq h] at hd
theorem ZgR {d:Zh}{s:ZC} (input:List Int) {p q:Int} (hp:inR d p) (hq:inR d q) (h:q≠p):vl (ZeY d input s p) q=vl s q:=by
 have:p.toNat≠q.toNat:=by have:=hp.1;have:=hq.1;omega
 conv=>lhs;unfold vl ZeY
 dsimp only
 cases Zdc d (more s p) p with
 | false=>rfl
 | true=>simp only[cond_true];rw[List.getElem?_set_ne this];rfl
theorem Zng {d:Zh}{s:ZC} (o:OKS d s) (input:List Int) {p:Int} (hp:inR d p) (h:Zer d (ZeY d input s p) p):vl (ZeY d input s p) p=ZoU d input s p:=by
 have hb:Zdc d (more s p) p=true:=Zgc.2 h
 have hl:p.toNat<s.vals.length:=by rw[o.v];exact hp.2
 conv=>lhs;unfold vl ZeY
 dsimp only
 rw[hb]
 simp only[cond_true]
 rw[List.getElem?_set_self hl]
theorem Zp0 {d:Zh} (input:List Int) {s t:ZC}{p:Int} (h:∀q∈Zde d p,vl s q=vl t q):ZoU d input s p=ZoU d input t p:=by
 unfold ZoU
 rw[List.map_congr_left h]
theorem Runs.vals {d:Zh}{input:List Int} (hc:Za7 d=0) (sh:ZeQ d) {s:ZC} (h:Runs d input s):∀p,inR d p→Zer d s p→vl s p=ZoU d input s p:=by
 have g:=ZcJ hc
 induction h with
 | new=>
  intro p hp hd
  obtain⟨x,_,h2,h3⟩:=Zi7 hp
  have hw:=(g.g.w x (List.mem_of_getElem? h2)).1
  unfold Zer at hd
  rw[ZlT] at hd
  omega
 | @step s r hr hrp hg ih=>
  intro p hp hd
  have R:=hr.right g
  have R':=ZjA g R input hrp hg
  have ht:=(ZhK d sh hc p).2
  have fd:∀q∈Zde d p,inR d q∧q≠p∧Zer d (ZeY d input s r) q:=fun q hq=>ZjI g R' hp ht hd hq
  by_cases e:p=r
  ·subst e
   rw[Zng R.o input hp hd]
   exact Zp0 input fun q hq=>(ZgR input hp (fd q hq).1 (fd q hq).2.1).symm
  ·have hd0:=ZnE input hrp hp e hd
   rw[ZgR input hrp hp e,ih p hp hd0]
   refine Zp0 input fun q hq=>?_
   have hq0:=(ZjI g R hp ht hd0 hq)
   have:q≠r:=fun e=>by subst e;exact hg.1 hq0.2.2
   exact(ZgR input hrp hq0.1 this).symm
theorem Runs.same {d:Zh}{input:List Int} (hc:Za7 d=0) (sh:ZeQ d) {s:ZC} (h:Runs d input s) {t:ZC} (k:Runs d input t):∀p,inR d p→Zer d s p→Zer d t p→vl s p=vl t p:=by
 have g:=ZcJ hc
 have T:=k.right g
 induction h with
 | new=>
  intro p hp hd
  obtain⟨x,_,h2,h3⟩:=Zi7 hp
  have hw:=(g.g.w x (List.mem_of_getElem? h2)).1
  unfold Zer at hd
  rw[ZlT] at hd
  omega
 | @step s r hr hrp hg ih=>
  intro p hp hd hdt
  have R:=hr.right g
  have R':=ZjA g R input hrp hg
  have ht:=(ZhK d sh hc p).2
  by_cases e:p=r
  ·subst e
   rw[Zng R.o input hp hd,k.vals hc sh p hp hdt]
   refine Zp0 input fun q hq=>?_
   obtain⟨q1,q2,q3⟩:=ZjI g R' hp ht hd hq
   exact ih q q1 (ZnE input hp q1 q2 q3) (ZjI g T hp ht hdt hq).2.2
  ·rw[ZgR input hrp hp e]
   exact ih p hp (ZnE input hrp hp e hd) hdt
theorem Runs.le {d:Zh}{input:List Int} (g:ZaE d) {s:ZC} (h:Runs d input s) {t:ZC} (k:Runs d input t) (f:ZsW d t):∀p,inR d p→wk s p≤wk t p:=by
 have T:=k.right g
 induction h with
 | new=>intro p hp;rw[ZlT];exact(T.rng p hp).1
 | @step s r hr hrp hg ih=>
  intro p hp
  have R:=hr.right g
  by_cases e:p=r
  ·subst e
   rw[Zgo R.o input hp]
   have h1:=ih p hp
   rcases Int.lt_or_eq_of_le h1 with h2 | h2
   ·omega
   ·exfalso
    have dn:∀q,inR d q→Zer d s q→Zer d t q:=fun q hq hd=>by
     have h3:=ih q hq
     have h4:=(T.rng q hq).2
     unfold Zer at hd ⊢
     omega
    refine f p hp ⟨fun hd=>hg.1 ?_,fun h0=>?_,fun fu hf hu hpos=>?_⟩
    ·unfold Zer at hd ⊢;omega
    ·have hB:=hg.2.1 (by omega)
     exact⟨fun ed he hd=>dn _ (g.src he) (hB.1 ed he hd),fun b hb ho q hq=>dn _ (g.ins b hb q hq) (hB.2 b hb ho q hq)⟩
    ·exact dn _ (g.maker hf) (hg.2.2 fu hf hu (by omega))
  ·rw[Zcu input hrp hp e]
   exact ih p hp
def ZsK (f:Nat→Nat):Nat→Nat
 | 0=>0
 | n+1=>ZsK f n+f n
theorem Zpg {f h:Nat→Nat}:∀n,(∀i,i<n→f i=h i)→ZsK f n=ZsK h n
 | 0,_=>rfl
 | n+1,e=>by unfold ZsK;rw[Zpg n fun i hi=>e i (by omega),e n (by omega)]
theorem ZtL {f h:Nat→Nat}{j:Nat}:∀n,j<n→(∀i,i<n→i≠j→f i=h i)→h j=f j+1→ZsK h n=ZsK f n+1
 | 0,hj,_,_=>by omega
 | n+1,hj,e,hd=>by
  unfold ZsK
  by_cases hn:j=n
  ·subst hn
   rw[Zpg (f:=h) (h:=f) j fun i hi=>(e i (by omega) (by omega)).symm,hd];omega
  ·rw[ZtL n (by omega) (fun i hi hne=>e i (by omega) hne) hd,e n (by omega) (fun h=>hn h.symm)];omega
def left (d:Zh) (s:ZC):Nat:=ZsK (fun i=>(ZcE d.parts (i:Int)-wk s (i:Int)).toNat) d.parts.length
theorem Zq2 {d:Zh}{s:ZC} (r:Zkn d s) (input:List Int) {p:Int} (hp:inR d p) (hg:Zs0 d s p):left d s=left d (ZeY d input s p)+1:=by
 have hw:=r.rng p hp
 have hlt:wk s p<ZcE d.parts p:=by have:=hg.1;unfold Zer at this;omega
 unfold left
 refine ZtL (j:=p.toNat) d.parts.length hp.2 (fun i hi hne=>?_) ?_
 ·rw[Zcu input hp (ZfG hi) (by omega)]
 ·rw[Int.toNat_of_nonneg hp.1,Zgo r.o input hp];omega
def ZhV (d:Zh) (s:ZC):Bool:=!(Ze1 (fun i (_:ZV)=>!Zdc d s (i:Int)) 0 d.parts)
theorem ZnA {d:Zh}{s:ZC}:ZhV d s=true↔∀p,inR d p→Zer d s p:=by
 unfold ZhV
 rw[Bool.not_eq_true',ZuB]
 constructor
 ·intro h p hp
  have:=h p.toNat _ (List.getElem?_eq_getElem hp.2)
  rw[Int.toNat_of_nonneg hp.1] at this
  exact Zgc.1 (by simpa using this)
 ·intro h i x hx
  have:=h i (ZfG (List.getElem?_eq_some_iff.1 hx).1)
  rw[Zgc.2 this];rfl
theorem Zud {d:Zh}{s:ZC} (g:ZaE d) (o:OKS d s):lp (Zdg d (s.work,s.vals)) 0=some (bif ZhV d s then .inr () else .inl ()):=by
 have hl:d.parts.length<9223372036854775808:=by have:=g.pl;omega
 have:=Zfe d.parts (Zdg d (s.work,s.vals)) (fun i _=>!Zdc d s (i:Int)) (fun _ _=>.inl ()) (.inr ()) (fun i x hi hx=>by
  have hd:Zca d (ZC.mk s.work s.vals) (i:Int)=some (Zdc d s (i:Int)):=Znp o (ZfG hi)
  simp only[Zdg,ZdX hi,Option.bind_some,ZW hi hl,cond_true,hd]
  cases Zdc d s (i:Int)<;>rfl) (by simp only[Zdg,ZeG];rfl)
 rw[this,Zdi]
 unfold ZhV
 cases Ze1 (fun i (_:ZV)=>!Zdc d s (i:Int)) 0 d.parts<;>rfl
theorem ZDC {d:Zh} (hc:Za7 d=0) (sh:ZeQ d) (input:List Int) (hi:input.length≤1000):∃t,Runs d input t∧ZsW d t∧ZeS d input=some (bif ZhV d t then (t.vals,0) else ([],94)):=by
 have g:=ZcJ hc
 have key:∀(n:Nat) (s:ZC),left d s≤n→Runs d input s→∃t,Runs d input t∧ZsW d t∧lp (Ze0 d input) (Zo3 d s,s.work,s.vals)=some (t.work,t.vals):=by
  intro n
  induction n with
  | zero=>
   intro s hn hr
   have R:=hr.right g
   have hm:Zo3 d s=[]:=by
    cases h:Zo3 d s with
    | nil=>rfl
    | cons p l=>
     obtain⟨h1,h2⟩:=Zy3 g (show p∈Zo3 d s by rw[h];simp)
     have:=Zq2 R input h1 h2
     omega
   refine⟨s,hr,(ZuU g).1 hm,?_⟩
   rw[hm,ZaU]
   rfl
  | succ n ih=>
   intro s hn hr
   have R:=hr.right g
   cases h:Zo3 d s with
   | nil=>
    refine⟨s,hr,(ZuU g).1 h,?_⟩
    rw[ZaU]
    rfl
   | cons p l=>
    obtain⟨h1,h2⟩:=Zy3 g (show p∈Zo3 d s by rw[h];simp)
    have hw:=R.rng p h1
    have hle:=Zz7 g p
    have hl:=Zq2 R input h1 h2
    have hr':=Runs.step (input:=input) hr h1 h2
    obtain⟨t,t1,t2,t3⟩:=ih (ZeY d input s p) (by omega) hr'
    refine⟨t,t1,t2,?_⟩
    have es:Ze3 d input (ZC.mk s.work s.vals) p=some (ZeY d input s p):=ZBW hc sh.i R.o h1 input hi (by omega)
    have em:=ZAF g sh.i (hr'.right g).o
    rw[ZaU]
    have e0:ZE (p :: l) 0=some p:=rfl
    simp only[Ze0,decide_eq_true (show(0:Int)<(((p :: l).length:Nat):Int) by rw[List.length_cons];omega),cond_true,e0,Option.bind_some,es,em]
    exact t3
 obtain⟨t,t1,t2,t3⟩:=key (left d (ZpO d)) (ZpO d) (Nat.le_refl _) .new
 refine⟨t,t1,t2,?_⟩
 unfold ZeS
 rw[ZAw d sh,hc]
 simp only[beq_self_eq_true,cond_true,Option.bind_some,bne_self_eq_false,cond_false]
 rw[ZAF g sh.i (Znl g).o]
 simp only[Option.bind_some]
 rw[t3]
 simp only[Option.bind_some]
 rw[Zud g (t1.right g).o]
 cases ZhV d t<;>rfl
theorem Zzs {d:Zh} (hc:Za7 d≠0) (sh:ZeQ d) (input:List Int):ZeS d input=some ([],Za7 d):=by
 unfold ZeS
 rw[ZAw d sh,show(Za7 d==0)=false by simpa using hc]
 simp only[cond_false,Option.bind_some]
 rw[show(Za7 d != 0)=true by simpa using hc]
 rfl
end Go.Proofs.YtnmbdjkbaihicaaDoor
namespace Go.Proofs.YtnmbdjkbaihicaaDoor
open Go Go.Proofs.YtnmbdjkbaihicaaDoorE
set_option linter.unusedVariables false
set_option linter.unusedSimpArgs false
theorem Ze5 (d:Zh) (z:Int):ZeC d z=((ZB d z.toNat+0:Nat):Int):=rfl
theorem ZfM (d:Zh) (z:Int):ZbP d z=((ZB d z.toNat+nt d z.toNat:Nat):Int):=by unfold ZbP;rw[ZeL];omega
theorem ZfA {γ δ:Type} (f:γ→δ):∀l:List γ,l.Nodup→(∀x∈l,∀y∈l,f x=f y→x=y)→(l.map f).Nodup
 | [],_,_=>List.nodup_nil
 | x :: l,h,hf=>by
  rw[List.nodup_cons] at h
  rw[List.map_cons,List.nodup_cons]
  refine⟨fun hm=>?_,ZfA f l h.2 fun a ha b hb=>hf a (by simp[ha]) b (by simp[hb])⟩
  obtain⟨y,hy,he⟩:=List.mem_map.1 hm
  have:=hf y (by simp[hy]) x (by simp) he
  exact h.1 (this ▸ hy)
theorem Zi1 {γ:Type}{l m:List γ} (h1:l.Nodup) (h2:m.Nodup) (h:∀x∈l,x∉m):(l++m).Nodup:=by
 rw[List.nodup_append]
 exact⟨h1,h2,fun a ha b hb hab=>h a ha (hab ▸ hb)⟩
theorem ZlU {γ:Type} (B:Nat→List γ):∀k,(∀n,n<k→(B n).Nodup)→(∀m n x,m<n→n<k→x∈B m→x∉B n)→(upto B k).Nodup
 | 0,_,_=>List.nodup_nil
 | k+1,h1,h2=>by
  rw[Zb6]
  refine Zi1 (ZlU B k (fun n hn=>h1 n (by omega)) fun m n x a b=>h2 m n x a (by omega)) (h1 k (by omega)) fun x hx=>?_
  unfold upto at hx
  obtain⟨m,hm,hx⟩:=List.mem_flatMap.1 hx
  exact h2 m k x (List.mem_range.1 hm) (by omega) hx
theorem ZjY {γ:Type}{l:List γ} (h:∀(i j:Nat) x,i<j→l[i]? = some x→l[j]? ≠ some x):l.Nodup:=by
 rw[List.nodup_iff_pairwise_ne,List.pairwise_iff_getElem]
 intro i j hi hj hij he
 exact h i j l[i] hij (List.getElem?_eq_getElem hi) (by rw[List.getElem?_eq_getElem hj,he])
theorem Zq0 {n:Nat}{l:List Int} (h:Zkd n l=true):l.Nodup:=by
 unfold Zkd at h
 simp only[Bool.and_eq_true,Bool.not_eq_true'] at h
 have step:∀(j:Nat) x y,l[j]? = some x→l[j+1]? = some y→x<y:=fun j x y hx hy=>by
  have hb:ZmJ n l (j+1) y=false:=by
   cases hb:ZmJ n l (j+1) y with
   | false=>rfl
   | true=>rw[(ZfL _ _ 0).2 ⟨j+1,y,hy,by simpa using hb⟩] at h;exact absurd h.1 (by simp)
  unfold ZmJ at hb
  rw[Bool.or_eq_false_iff] at hb
  have:=hb.2
  simp only[hx,decide_eq_false_iff_not] at this
  omega
 have rise:∀(j i:Nat) x y,i<j→l[i]? = some x→l[j]? = some y→x<y:=by
  intro j
  induction j with
  | zero=>intro i x y hi;omega
  | succ j ih=>
   intro i x y hi hx hy
   have hj:j<l.length:=by have:=(List.getElem?_eq_some_iff.1 hy).1;omega
   have hz:l[j]? = some l[j]:=List.getElem?_eq_getElem hj
   have h2:=step j _ y hz hy
   by_cases hij:i=j
   ·subst hij;rw[hx] at hz;have:=Option.some.inj hz;omega
   ·have:=ih i x _ (by omega) hx hz;omega
 exact ZjY fun i j x hij hx hy=>by have:=rise j i x x hij hx hy;omega
theorem Zn6 {d:Zh} (h:Za7 d=0):Ze1 (Zeh d) 0 d.edges=false∧d.barriers.any (Zdj d.parts.length)=false:=by
 unfold Za7 at h
 revert h
 cases ZjH d<;>cases Zmi d<;>cases d.parts.any Zfg<;>cases Ze1 (Zeh d) 0 d.edges<;>cases Ze1 (Zc8 d) 0 d.futures<;>cases d.barriers.any (Zdj d.parts.length)<;>simp
theorem Zs9 {d:Zh} (h:Za7 d=0):d.edges.Nodup:=by
 have h1:=(Zn6 h).1
 refine ZjY fun i j x hij hx hy=>?_
 have hb:Zeh d j x=false:=by
  cases hb:Zeh d j x with
  | false=>rfl
  | true=>rw[(ZfL _ _ 0).2 ⟨j,x,hy,by simpa using hb⟩] at h1;cases h1
 unfold Zeh at hb
 rw[Bool.or_eq_false_iff] at hb
 have:=List.any_eq_false.1 hb.2 x (List.mem_of_getElem? (i:=i) (by rw[List.getElem?_take_of_lt hij];exact hx))
 unfold Zkp at this
 simp at this
theorem Zqq {d:Zh} (g:ZkO d):d.futures.Nodup:=ZjY fun i j x hij hx hy=>g.ne i j x x hij hx hy ⟨rfl,rfl⟩
theorem ZuT {d:Zh} (h:Za7 d=0):∀b∈d.barriers,b.ins.Nodup∧b.outs.Nodup:=fun b hb=>by
 have:=List.any_eq_false.1 (Zn6 h).2 b hb
 simp only[Zdj,Bool.or_eq_true,Bool.not_eq_true',not_or,Bool.not_eq_false,Bool.not_eq_true] at this
 exact⟨Zq0 this.1,Zq0 this.2.1⟩
def Zp8 (d:Zh) (e:Zm):Prop:=∃n j,n<d.parts.length∧j<nt d n∧e=⟨((ZB d n+j:Nat):Int),((ZB d n+(j+1):Nat):Int)⟩
def ZqH (d:Zh) (e:Zm):Prop:=∃s t,s<d.parts.length∧t<d.parts.length∧s≠t∧e=⟨((ZB d s+nt d s:Nat):Int),((ZB d t+0:Nat):Int)⟩
def ZqT (d:Zh) (e:Zm):Prop:=∃m u j,m<d.parts.length∧u<d.parts.length∧m≠u∧j<nt d u∧e=⟨((ZB d m+nt d m:Nat):Int),((ZB d u+(j+1):Nat):Int)⟩
def Zqw (d:Zh) (i:Nat) (e:Zm):Prop:=∃n j,n<d.parts.length∧j≤nt d n∧(e=⟨((ZB d n+j:Nat):Int),Zc1 d i⟩∨e=⟨Zc1 d i,((ZB d n+j:Nat):Int)⟩)
theorem Zk0 {d:Zh}{n:Nat} (hn:n<d.parts.length) {e:Zm} (h:e∈Zfb d n (nt d n)):Zp8 d e∧∃j,j<nt d n∧e.src=((ZB d n+j:Nat):Int):=by
 unfold Zfb at h
 obtain⟨j,hj,rfl⟩:=List.mem_map.1 h
 rw[List.mem_range] at hj
 exact⟨⟨n,j,hn,hj,rfl⟩,j,hj,rfl⟩
theorem Zha {d:Zh}{e:Zm} (h:e∈Zex d d.parts.length):Zp8 d e:=by
 unfold Zex upto at h
 obtain⟨n,hn,h⟩:=List.mem_flatMap.1 h
 exact(Zk0 (List.mem_range.1 hn) h).1
theorem Ziq {d:Zh} (g:ZaE d) {e:Zm} (h:e∈Zia d):ZqH d e:=by
 unfold Zia at h
 obtain⟨x,hx,rfl⟩:=List.mem_map.1 h
 have hs:=g.src hx
 have ht:=g.dst hx
 have hne:=(Zh3 (g.g.e x hx)).2.2
 exact⟨x.src.toNat,x.dst.toNat,hs.2,ht.2,fun hc=>hne (by have:=hs.1;have:=ht.1;omega),by rw[ZfM,Ze5]⟩
theorem Zil {d:Zh} (g:ZaE d) {e:Zm} (h:e∈ZiO d):ZqT d e:=by
 unfold ZiO at h
 obtain⟨x,hx,rfl⟩:=List.mem_map.1 h
 have hs:=g.maker hx
 have ht:=g.user hx
 have hne:=(Zh3 (g.g.f x hx).1).2.2
 obtain⟨j,hj,hje⟩:=ZhL g hx
 exact⟨x.maker.toNat,x.user.toNat,j,hs.2,ht.2,fun hc=>hne (by have:=hs.1;have:=ht.1;omega),hj,by rw[ZfM,ZjC g hx hj hje];rfl⟩
theorem Zni {d:Zh} (g:ZaE d) {i:Nat}{b:Zr} (hb:b∈d.barriers) {e:Zm} (h:e∈Zlm d (Zc1 d i) b):Zqw d i e:=by
 unfold Zlm at h
 rcases List.mem_append.1 h with h | h
 ·obtain⟨q,hq,rfl⟩:=List.mem_map.1 h
  have:=g.ins b hb q hq
  exact⟨q.toNat,nt d q.toNat,this.2,Nat.le_refl _,.inl (by rw[ZfM])⟩
 ·obtain⟨q,hq,rfl⟩:=List.mem_map.1 h
  have:=g.outs b hb q hq
  exact⟨q.toNat,0,this.2,Nat.zero_le _,.inr (by rw[Ze5])⟩
theorem Zn4 {d:Zh} (g:ZaE d) {e:Zm} (h:e∈Zd1 d d.barriers.length):∃i,i<d.barriers.length∧Zqw d i e:=by
 unfold Zd1 upto at h
 obtain⟨i,hi,h⟩:=List.mem_flatMap.1 h
 rw[List.mem_range] at hi
 rw[List.getElem?_eq_getElem hi] at h
 exact⟨i,hi,Zni g (List.getElem_mem hi) h⟩
theorem ZgO {a b c d:Int} (h:(⟨a,b⟩:Zm)=⟨c,d⟩):a=c∧b=d:=by cases h;exact⟨rfl,rfl⟩
theorem PE {d:Zh}{e:Zm} (h1:Zp8 d e) (h2:ZqH d e):False:=by
 obtain⟨n,j,hn,hj,rfl⟩:=h1
 obtain⟨s,t,hs,ht,hne,he⟩:=h2
 have:=(ZgO he).2
 have:=ZcB d (m:=n) (n:=t) (i:=j+1) (j:=0) (by omega) (by omega) (by omega)
 omega
theorem PF {d:Zh}{e:Zm} (h1:Zp8 d e) (h2:ZqT d e):False:=by
 obtain⟨n,j,hn,hj,rfl⟩:=h1
 obtain⟨m,u,k,hm,hu,hne,hk,he⟩:=h2
 have:=(ZgO he).1
 have:=ZcB d (m:=n) (n:=m) (i:=j) (j:=nt d m) (by omega) (by omega) (by omega)
 obtain⟨rfl,h⟩:=this
 omega
theorem EF {d:Zh}{e:Zm} (h1:ZqH d e) (h2:ZqT d e):False:=by
 obtain⟨s,t,hs,ht,hne,rfl⟩:=h1
 obtain⟨m,u,k,hm,hu,hne2,hk,he⟩:=h2
 have:=(ZgO he).2
 have:=ZcB d (m:=t) (n:=u) (i:=0) (j:=k+1) (by omega) (by omega) (by omega)
 omega
def ZsH (d:Zh) (e:Zm):Prop:=(∃i:Nat,i<ZB d d.parts.length∧e.src=(i:Int))∧∃j:Nat,j<ZB d d.parts.length∧e.dst=(j:Int)
theorem Zp8.inner {d:Zh}{e:Zm} (h:Zp8 d e):ZsH d e:=by
 obtain⟨n,j,hn,hj,rfl⟩:=h
 exact⟨⟨_,ZbU d hn (by omega),rfl⟩,⟨_,ZbU d hn (by omega),rfl⟩⟩
theorem ZqH.inner {d:Zh}{e:Zm} (h:ZqH d e):ZsH d e:=by
 obtain⟨n,j,hn,hj,_,rfl⟩:=h
 exact⟨⟨_,ZbU d hn (by omega),rfl⟩,⟨_,ZbU d hj (by omega),rfl⟩⟩
theorem ZqT.inner {d:Zh}{e:Zm} (h:ZqT d e):ZsH d e:=by
 obtain⟨n,j,k,hn,hj,_,hk,rfl⟩:=h
 exact⟨⟨_,ZbU d hn (by omega),rfl⟩,⟨_,ZbU d hj (by omega),rfl⟩⟩
theorem Znh {d:Zh}{i:Nat}{e:Zm} (h:ZsH d e) (hb:Zqw d i e):False:=by
 obtain⟨⟨a,ha,ha2⟩,⟨b,hb1,hb2⟩⟩:=h
 obtain⟨n,j,hn,hj,rfl | rfl⟩:=hb
 ·have:Zc1 d i=(b:Int):=hb2
  unfold Zc1 at this
  omega
 ·have:Zc1 d i=(a:Int):=ha2
  unfold Zc1 at this
  omega
theorem Zz1 {d:Zh}{i k:Nat}{e:Zm} (h1:Zqw d i e) (h2:Zqw d k e):i=k:=by
 obtain⟨n,j,hn,hj,h1⟩:=h1
 obtain⟨m,l,hm,hl,h2⟩:=h2
 have a1:=ZbU d hn hj
 have a2:=ZbU d hm hl
 unfold Zc1 at h1 h2
 rcases h1 with rfl | rfl<;>rcases h2 with h2 | h2<;>have:=ZgO h2<;>omega
theorem Zq7 {d:Zh}{a b:Int} (ha:inR d a) (hb:inR d b) (h:ZbP d a=ZbP d b):a=b:=by
 rw[ZfM,ZfM] at h
 have:=(ZcB d (Nat.le_refl _) (Nat.le_refl _) (Int.ofNat.inj h)).1
 have:=ha.1;have:=hb.1
 omega
theorem ZpA {d:Zh}{a b:Int} (ha:inR d a) (hb:inR d b) (h:ZeC d a=ZeC d b):a=b:=by
 rw[Ze5,Ze5] at h
 have:=(ZcB d (Nat.zero_le _) (Nat.zero_le _) (Int.ofNat.inj h)).1
 have:=ha.1;have:=hb.1
 omega
theorem Zsh {d:Zh} (hc:Za7 d=0):(Zd2 d).Nodup:=by
 have g:=ZcJ hc
 unfold Zd2 ZgJ
 refine Zi1 (Zi1 (Zi1 ?_ ?_ ?_) ?_ ?_) ?_ ?_
 ·unfold Zex
  refine ZlU _ _ (fun n hn=>?_) fun m n x hmn hn hx hy=>?_
  ·unfold Zfb
   refine ZfA _ _ List.nodup_range fun a ha b hb hab=>?_
   have:=(ZgO hab).1
   omega
  ·obtain⟨_,j,hj,h1⟩:=Zk0 (show m<d.parts.length by omega) hx
   obtain⟨_,k,hk,h2⟩:=Zk0 hn hy
   have:=ZcB d (m:=m) (n:=n) (i:=j) (j:=k) (by omega) (by omega) (by omega)
   omega
 ·unfold Zia
  refine ZfA _ _ (Zs9 hc) fun a ha b hb hab=>?_
  obtain⟨h1,h2⟩:=ZgO hab
  have e1:=Zq7 (g.src ha) (g.src hb) h1
  have e2:=ZpA (g.dst ha) (g.dst hb) h2
  cases a;cases b
  simp only at e1 e2
  rw[e1,e2]
 ·exact fun x hx hy=>PE (Zha hx) (Ziq g hy)
 ·unfold ZiO
  refine ZfA _ _ (Zqq g.g) fun a ha b hb hab=>?_
  obtain⟨_,h2⟩:=ZgO hab
  obtain⟨j,hj,hje⟩:=ZhL g ha
  obtain⟨k,hk,hke⟩:=ZhL g hb
  rw[ZjC g ha hj hje,ZjC g hb hk hke] at h2
  have:=ZcB d (m:=a.user.toNat) (n:=b.user.toNat) (i:=j+1) (j:=k+1) (by omega) (by omega) (by omega)
  obtain⟨e1,e2⟩:=this
  rw[← hje,← hke,e1,show j=k by omega]
 ·intro x hx hy
  rcases List.mem_append.1 hx with hx | hx
  ·exact PF (Zha hx) (Zil g hy)
  ·exact EF (Ziq g hx) (Zil g hy)
 ·unfold Zd1
  refine ZlU _ _ (fun i hi=>?_) fun m n x hmn hn hx hy=>?_
  ·rw[List.getElem?_eq_getElem hi]
   have hm:=List.getElem_mem hi
   obtain⟨r1,r2⟩:=ZuT hc _ hm
   show(Zlm d (Zc1 d i) d.barriers[i]).Nodup
   unfold Zlm
   refine Zi1 (ZfA _ _ r1 fun a ha b hb hab=>?_) (ZfA _ _ r2 fun a ha b hb hab=>?_) fun x hx hy=>?_
   ·exact Zq7 (g.ins _ hm a ha) (g.ins _ hm b hb) (ZgO hab).1
   ·exact ZpA (g.outs _ hm a ha) (g.outs _ hm b hb) (ZgO hab).2
   ·obtain⟨a,ha,rfl⟩:=List.mem_map.1 hx
    obtain⟨b,hb,hab⟩:=List.mem_map.1 hy
    have h1:=(ZgO hab).1
    have hq:=g.ins _ hm a ha
    rw[ZfM] at h1
    have:=ZbU d hq.2 (Nat.le_refl (nt d a.toNat))
    unfold Zc1 at h1
    omega
  ·have hm':m<d.barriers.length:=by omega
   rw[List.getElem?_eq_getElem hm'] at hx
   rw[List.getElem?_eq_getElem hn] at hy
   have:=Zz1 (Zni g (List.getElem_mem hm') hx) (Zni g (List.getElem_mem hn) hy)
   omega
 ·intro x hx hy
  obtain⟨i,hi,hb⟩:=Zn4 g hy
  rcases List.mem_append.1 hx with hx | hx
  ·rcases List.mem_append.1 hx with hx | hx
   ·exact Znh (Zha hx).inner hb
   ·exact Znh (Ziq g hx).inner hb
  ·exact Znh (Zil g hx).inner hb
theorem ZrD {d:Zh} (g:ZaE d) {e:Zm} (h:e∈Zd2 d):Zp8 d e∨ZqH d e∨ZqT d e∨∃i,i<d.barriers.length∧Zqw d i e:=by
 unfold Zd2 ZgJ at h
 rcases List.mem_append.1 h with h | h
 ·rcases List.mem_append.1 h with h | h
  ·rcases List.mem_append.1 h with h | h
   ·exact .inl (Zha h)
   ·exact .inr (.inl (Ziq g h))
  ·exact .inr (.inr (.inl (Zil g h)))
 ·exact .inr (.inr (.inr (Zn4 g h)))
theorem Zof {d:Zh} (g:ZaE d) {e:Zm} (h:e∈Zd2 d):ZfH (Zfa d).length e.src=true∧ZfH (Zfa d).length e.dst=true∧e.src≠e.dst:=by
 have hl:(Zfa d).length=ZB d d.parts.length+d.barriers.length:=by rw[ZjX g,ZgL g]
 have inn:ZsH d e→ZfH (Zfa d).length e.src=true∧ZfH (Zfa d).length e.dst=true:=by
  rintro ⟨⟨i,h1,h2⟩,j,h3,h4⟩
  unfold ZfH
  simp only[Bool.and_eq_true,decide_eq_true_eq]
  omega
 rcases ZrD g h with hk | hk | hk | ⟨i,hi,hk⟩
 ·refine⟨(inn hk.inner).1,(inn hk.inner).2,?_⟩
  obtain⟨n,j,hn,hj,rfl⟩:=hk
  show((ZB d n+j:Nat):Int)≠((ZB d n+(j+1):Nat):Int)
  omega
 ·refine⟨(inn hk.inner).1,(inn hk.inner).2,?_⟩
  obtain⟨s,t,hs,ht,hne,rfl⟩:=hk
  intro hc
  exact hne (ZcB d (Nat.le_refl _) (Nat.zero_le _) (Int.ofNat.inj hc)).1
 ·refine⟨(inn hk.inner).1,(inn hk.inner).2,?_⟩
  obtain⟨m,u,j,hm,hu,hne,hj,rfl⟩:=hk
  intro hc
  exact hne (ZcB d (Nat.le_refl _) (show j+1≤nt d u by omega) (Int.ofNat.inj hc)).1
 ·obtain⟨n,j,hn,hj,hk⟩:=hk
  have:=ZbU d hn hj
  unfold ZfH Zc1 at *
  simp only[Bool.and_eq_true,decide_eq_true_eq]
  rcases hk with rfl | rfl
  ·show(_∧_)∧(_∧_)∧((ZB d n+j:Nat):Int)≠((ZB d d.parts.length+i:Nat):Int)
   simp only
   omega
  ·show(_∧_)∧(_∧_)∧((ZB d d.parts.length+i:Nat):Int)≠((ZB d n+j:Nat):Int)
   simp only
   omega
theorem ZnV (d:Zh):∀k,(Zex d k).length+k=ZB d k
 | 0=>rfl
 | k+1=>by
  have:=ZnV d k
  have h2:=ZeL d k
  rw[show Zex d (k+1)=Zex d k++Zfb d k (nt d k) from Zb6 _ k,List.length_append,Zl3]
  omega
theorem Zwu {d:Zh} (hc:Za7 d=0) {b:Zr} (hm:b∈d.barriers) (z:Int):(Zlm d z b).length≤32:=by
 have g:=ZcJ hc
 obtain⟨r1,r2⟩:=ZuT hc b hm
 have l1:=(Zsu r1 (g.ins b hm)).1
 have l2:=(Zsu r2 (g.outs b hm)).1
 have:=g.pl
 unfold Zlm
 simp only[List.length_append,List.length_map]
 omega
theorem Zok {d:Zh} (hc:Za7 d=0):∀k,(Zd1 d k).length≤32*k
 | 0=>Nat.le_refl _
 | k+1=>by
  have g:=ZcJ hc
  have ih:=Zok hc k
  unfold Zd1 at ih ⊢
  rw[Zb6,List.length_append]
  split
  ·rename_i b hb
   have:=Zwu hc (List.mem_of_getElem? hb) (Zc1 d k)
   omega
  ·simp only[List.length_nil];omega
theorem Ztl {d:Zh} (hc:Za7 d=0):ZiQ (Z4 d).dag=0:=by
 have g:=ZcJ hc
 have hpl:=g.pl
 have hel:=g.el
 have hfl:=g.fl
 have hbl:=g.bl
 have hW:(Z4 d).dag.work.length≤64:=by show(Zfa d).length≤64;rw[ZjX g];omega
 have hE:(Z4 d).dag.edges.length≤256:=by
  show(Zd2 d).length≤256
  have h1:=ZnV d d.parts.length
  have h2:=ZgL g
  have h3:=Zok hc d.barriers.length
  unfold Zd2 ZgJ Zia ZiO
  simp only[List.length_append,List.length_map]
  omega
 have h1:(Z4 d).dag.work.any Zgd=false:=List.any_eq_false.2 fun x hx=>by
  have hx:x∈Zfa d:=hx
  have:=Zwh g x hx
  have h2:x≤1000:=by
   unfold Zfa at hx
   rcases List.mem_append.1 hx with hx | hx
   ·unfold Zgz upto at hx
    obtain⟨n,hn,hx⟩:=List.mem_flatMap.1 hx
    unfold ZkE ZhN at hx
    obtain⟨i,hi,rfl⟩:=List.mem_map.1 hx
    have b0:=ZuW g.g n i
    have b1:=ZuW g.g n (i+1)
    omega
   ·rw[(List.mem_replicate.1 hx).2];omega
  unfold Zgd
  simp only[Bool.or_eq_true,decide_eq_true_eq,not_or]
  omega
 have h2:Ze1 (ZlV (Z4 d).dag) 0 (Z4 d).dag.edges=false:=by
  cases hb:Ze1 (ZlV (Z4 d).dag) 0 (Z4 d).dag.edges with
  | false=>rfl
  | true=>
   exfalso
   obtain⟨i,e,he,hbe⟩:=(ZfL _ _ 0).1 hb
   rw[Nat.zero_add] at hbe
   have he:(Zd2 d)[i]? = some e:=he
   obtain⟨k1,k2,k3⟩:=Zof g (List.mem_of_getElem? he)
   have hx:((Zd2 d).take i).any (Zkp e)=false:=List.any_eq_false.2 fun x hx=>by
    intro hs
    unfold Zkp at hs
    simp only[Bool.and_true,Bool.and_eq_true,beq_iff_eq] at hs
    have:e=x:=by cases e;cases x;simp only at hs;rw[hs.1,hs.2]
    subst this
    obtain⟨j,hj⟩:=List.getElem?_of_mem hx
    have hji:j<i:=by
     have:=(List.getElem?_eq_some_iff.1 hj).1
     rw[List.length_take] at this
     omega
    rw[List.getElem?_take_of_lt hji] at hj
    obtain⟨a1,a2⟩:=List.getElem?_eq_some_iff.1 hj
    obtain⟨b1,b2⟩:=List.getElem?_eq_some_iff.1 he
    have:=(List.getElem_inj (Zsh hc)).1 (a2.trans b2.symm)
    omega
   unfold ZlV at hbe
   have q1:ZfH (Z4 d).dag.work.length e.src=true:=k1
   have q2:ZfH (Z4 d).dag.work.length e.dst=true:=k2
   have q3:((Z4 d).dag.edges.take i).any (Zkp e)=false:=hx
   rw[q1,q2,q3,beq_false_of_ne k3] at hbe
   simp at hbe
 unfold ZiQ
 rw[decide_eq_false (show ¬(64:Int)<((Z4 d).dag.work.length:Int) by omega),decide_eq_false (show ¬(256:Int)<((Z4 d).dag.edges.length:Int) by omega),h1,h2]
 rfl
theorem Ztx {d:Zh} (hc:Za7 d=0):(ZlR (Z4 d).dag→ZgK (Z4 d).dag=0)∧(¬ZlR (Z4 d).dag→ZgK (Z4 d).dag=43):=by
 unfold ZgK
 rw[Ztl hc]
 exact⟨fun h=>by rw[Zvp h];rfl,fun h=>by rw[ZrQ h];rfl⟩
end Go.Proofs.YtnmbdjkbaihicaaDoor
namespace Go.Proofs.YtnmbdjkbaihicaaDoor
open Go Go.Proofs.YtnmbdjkbaihicaaDoorE
set_option linter.unusedVariables false
set_option linter.unusedSimpArgs false
inductive NDone (d:Zh) (s:ZC):Int→Prop
 | step {n j:Nat}:n<d.parts.length→j≤nt d n→cut d n (j+1)≤wk s (n:Int)→NDone d s ((ZB d n+j:Nat):Int)
 | bar {i:Nat} {b:Zr}:d.barriers[i]? = some b→(∀q∈b.ins,Zer d s q)→NDone d s (Zc1 d i)
theorem Zh0 {d:Zh} (g:ZaE d) {n:Nat} (hn:n<d.parts.length):∀k i:Nat,i≤k→k≤nt d n+1→cut d n i+((k-i:Nat):Int)≤cut d n k
 | 0,i,h,_=>by
  have:i=0:=by omega
  subst this
  simp
 | k+1,i,h,hk=>by
  by_cases e:i=k+1
  ·subst e;simp
  ·have:=Zh0 g hn k i (by omega) (by omega)
   have:=ZpS g hn (i:=k) (by omega)
   omega
theorem Zoy {d:Zh}{s:ZC}{n j:Nat} (hn:n<d.parts.length) (hj:j≤nt d n) {z:Int} (hz:z=((ZB d n+j:Nat):Int)) (h:NDone d s z):cut d n (j+1)≤wk s (n:Int):=by
 cases h with
 | @step m i hm hi hc=>
  obtain⟨rfl,rfl⟩:=ZcB d (m:=m) (n:=n) (i:=i) (j:=j) hi hj (by omega)
  exact hc
 | @bar i b hb _=>
  exfalso
  have:=ZbU d hn hj
  unfold Zc1 at hz
  omega
theorem ZuJ {d:Zh}{s:ZC}{i:Nat}{b:Zr} (hb:d.barriers[i]? = some b) {z:Int} (hz:z=Zc1 d i) (h:NDone d s z):∀q∈b.ins,Zer d s q:=by
 cases h with
 | @step m k hm hk hc=>
  exfalso
  have:=ZbU d hm hk
  unfold Zc1 at hz
  omega
 | @bar k c hc hq=>
  unfold Zc1 at hz
  have:k=i:=by omega
  subst this
  rw[hb] at hc
  cases hc
  exact hq
theorem Zga {d:Zh}{s:ZC} (r:Zkn d s) {q:Int} (hq:inR d q):NDone d s (ZbP d q)↔Zer d s q:=by
 have e:((q.toNat:Nat):Int)=q:=Int.toNat_of_nonneg hq.1
 constructor
 ·intro h
  have:=Zoy hq.2 (Nat.le_refl _) (ZfM d q) h
  rw[Zlf,e] at this
  have:=(r.rng q hq).2
  unfold Zer
  omega
 ·intro h
  rw[ZfM]
  refine .step hq.2 (Nat.le_refl _) ?_
  rw[Zlf,e]
  unfold Zer at h
  omega
theorem Zl5 {d:Zh} (g:ZaE d) {e:Zm} (h:e∈(Z4 d).dag.edges) :
  (∃n j,n<d.parts.length∧j<nt d n∧e=⟨((ZB d n+j:Nat):Int),((ZB d n+(j+1):Nat):Int)⟩) ∨
  (∃x∈d.edges,e=⟨ZbP d x.src,ZeC d x.dst⟩) ∨
  (∃f∈d.futures,∃j,j<nt d f.user.toNat∧f.pos=cut d f.user.toNat (j+1)∧e=⟨ZbP d f.maker,((ZB d f.user.toNat+(j+1):Nat):Int)⟩) ∨
  (∃i b,d.barriers[i]? = some b∧((∃q∈b.ins,e=⟨ZbP d q,Zc1 d i⟩)∨(∃q∈b.outs,e=⟨Zc1 d i,ZeC d q⟩))):=by
 have h:e∈Zd2 d:=h
 unfold Zd2 ZgJ at h
 simp only[List.mem_append] at h
 rcases h with((h | h) | h) | h
 ·exact .inl (Zha h)
 ·unfold Zia at h
  obtain⟨x,hx,rfl⟩:=List.mem_map.1 h
  exact .inr (.inl ⟨x,hx,rfl⟩)
 ·unfold ZiO at h
  obtain⟨f,hf,rfl⟩:=List.mem_map.1 h
  obtain⟨j,hj,hje⟩:=ZhL g hf
  refine .inr (.inr (.inl ⟨f,hf,j,hj,?_,?_⟩))
  ·have:=(Zc9 g.g hj).2.2.2.1
   rw[hje] at this
   exact this
  ·rw[ZjC g hf hj hje];rfl
 ·unfold Zd1 upto at h
  obtain⟨i,hi,h⟩:=List.mem_flatMap.1 h
  rw[List.mem_range] at hi
  have hb:=List.getElem?_eq_getElem hi
  rw[hb] at h
  refine .inr (.inr (.inr ⟨i,_,hb,?_⟩))
  have h:e∈Zlm d (Zc1 d i) d.barriers[i]:=h
  unfold Zlm at h
  rcases List.mem_append.1 h with h | h
  ·obtain⟨q,hq,rfl⟩:=List.mem_map.1 h
   exact .inl ⟨q,hq,rfl⟩
  ·obtain⟨q,hq,rfl⟩:=List.mem_map.1 h
   exact .inr ⟨q,hq,rfl⟩
theorem Zz4 {d:Zh} (g:ZaE d) {s:ZC} (r:Zkn d s) {input:List Int}{p:Int} (hp:inR d p) (hg:Zs0 d s p) {e:Zm} (he:e∈(Z4 d).dag.edges) {n j:Nat} (hn:n<d.parts.length) (hj:j≤nt d n) (hd:e.dst=((ZB d n+j:Nat):Int))
  (h:NDone d (ZeY d input s p) e.dst):NDone d s e.src:=by
 have c:=Zoy hn hj hd h
 have up:cut d n (j+1)-1≤wk s (n:Int):=by
  by_cases ep:(n:Int)=p
  ·rw[ep] at c ⊢
   rw[Zgo r.o input hp] at c
   omega
  ·rw[Zcu input hp (ZfG hn) ep] at c
   omega
 have st:=ZpS g hn hj
 have beg:j=0→Zma d s (n:Int):=fun h0=>by
  subst h0
  by_cases hw:0<wk s (n:Int)
  ·exact r.beg _ (ZfG hn) hw
  ·have hw0:wk s (n:Int)=0:=by have:=(r.rng _ (ZfG hn)).1;omega
   by_cases ep:(n:Int)=p
   ·rw[ep] at hw0 ⊢
    exact hg.2.1 hw0
   ·exfalso
    rw[Zcu input hp (ZfG hn) ep] at c
    have:cut d n 0=0:=rfl
    omega
 rcases Zl5 g he with⟨m,i,hm,hi,rfl⟩ | ⟨x,hx,rfl⟩ | ⟨f,hf,i,hi,hpos,rfl⟩ | ⟨i,b,hb,⟨q,hq,rfl⟩ | ⟨q,hq,rfl⟩⟩
 ·dsimp only at hd
  obtain⟨rfl,rfl⟩:=ZcB d (m:=m) (n:=n) (i:=i+1) (j:=j) (by omega) hj (by omega)
  exact .step hm (by omega) (by omega)
 ·dsimp only at hd
  have hdst:=g.dst hx
  have e1:((x.dst.toNat:Nat):Int)=x.dst:=Int.toNat_of_nonneg hdst.1
  obtain⟨h1,h2⟩:=ZcB d (m:=x.dst.toNat) (n:=n) (i:=0) (j:=j) (by omega) hj (by rw[Ze5] at hd;omega)
  exact(Zga r (g.src hx)).2 ((beg h2.symm).1 x hx (by rw[← e1,h1]))
 ·dsimp only at hd
  have hu:=g.user hf
  have e1:((f.user.toNat:Nat):Int)=f.user:=Int.toNat_of_nonneg hu.1
  obtain⟨h1,h2⟩:=ZcB d (m:=f.user.toNat) (n:=n) (i:=i+1) (j:=j) (by omega) hj (by omega)
  refine(Zga r (g.maker hf)).2 ?_
  rw[h1] at e1 hpos
  rw[h2] at hpos
  by_cases hw:f.pos<wk s f.user
  ·exact r.fut f hf hw
  ·rw[← e1] at hw
   have hpw:f.pos=wk s (n:Int):=by omega
   by_cases ep:(n:Int)=p
   ·exact hg.2.2 f hf (by rw[← e1,ep]) (by rw[hpw,ep])
   ·exfalso
    rw[Zcu input hp (ZfG hn) ep] at c
    omega
 ·exfalso
  have:=ZbU d hn hj
  have hd:Zc1 d i=_:=hd
  unfold Zc1 at hd
  omega
 ·dsimp only at hd
  have hq2:=g.outs b (List.mem_of_getElem? hb) q hq
  have e1:((q.toNat:Nat):Int)=q:=Int.toNat_of_nonneg hq2.1
  obtain⟨h1,h2⟩:=ZcB d (m:=q.toNat) (n:=n) (i:=0) (j:=j) (by omega) hj (by rw[Ze5] at hd;omega)
  exact .bar hb ((beg h2.symm).2 b (List.mem_of_getElem? hb) (by rw[← h1,e1];exact hq))
theorem ZvG {d:Zh} (g:ZaE d) {n j:Nat} (hn:n<d.parts.length) (hj:j≤nt d n):¬NDone d (ZpO d) ((ZB d n+j:Nat):Int):=fun h=>by
 have:=Zoy hn hj rfl h
 rw[ZlT] at this
 have:=Zh0 g hn (j+1) 0 (by omega) (by omega)
 have e0:cut d n 0=0:=rfl
 omega
theorem ZCX {d:Zh} (g:ZaE d) {input:List Int}{U:Int→Prop} (hU:∀z,U z→∃e∈(Z4 d).dag.edges,e.dst=z∧U e.src) {s:ZC} (h:Runs d input s):∀z,U z→¬NDone d s z:=by
 have two:∀z,U z→(∃n j,n<d.parts.length∧j≤nt d n∧z=((ZB d n+j:Nat):Int))∨(∃i b,d.barriers[i]? = some b∧z=Zc1 d i∧∃q∈b.ins,U (ZbP d q)):=fun z hz=>by
  obtain⟨e,he,rfl,hs⟩:=hU z hz
  rcases Zl5 g he with⟨m,i,hm,hi,rfl⟩ | ⟨x,hx,rfl⟩ | ⟨f,hf,i,hi,hpos,rfl⟩ | ⟨i,b,hb,⟨q,hq,rfl⟩ | ⟨q,hq,rfl⟩⟩
  ·exact .inl ⟨m,i+1,hm,by omega,rfl⟩
  ·exact .inl ⟨x.dst.toNat,0,(g.dst hx).2,by omega,Ze5 d _⟩
  ·exact .inl ⟨f.user.toNat,i+1,(g.user hf).2,by omega,rfl⟩
  ·exact .inr ⟨i,b,hb,rfl,q,hq,hs⟩
  ·exact .inl ⟨q.toNat,0,(g.outs b (List.mem_of_getElem? hb) q hq).2,by omega,Ze5 d _⟩
 induction h with
 | new=>
  intro z hz hn
  rcases two z hz with⟨n,j,h1,h2,rfl⟩ | ⟨i,b,hb,rfl,q,hq,hu⟩
  ·exact ZvG g h1 h2 hn
  ·have hd:=ZuJ hb rfl hn q hq
   have hqr:=g.ins b (List.mem_of_getElem? hb) q hq
   have hl:=(Zga (Znl g) hqr).2 hd
   rw[ZfM] at hl
   exact ZvG g hqr.2 (Nat.le_refl _) hl
 | @step s p hr hp hg ih=>
  have R:=hr.right g
  have R':=ZjA g R input hp hg
  have steps:∀z,U z→(∃n j,n<d.parts.length∧j≤nt d n∧z=((ZB d n+j:Nat):Int))→¬NDone d (ZeY d input s p) z:=fun z hz hx hn=>by
   obtain⟨n,j,h1,h2,h3⟩:=hx
   obtain⟨e,he,rfl,hs⟩:=hU z hz
   exact ih e.src hs (Zz4 g R hp hg he h1 h2 h3 hn)
  intro z hz hn
  rcases two z hz with hx | ⟨i,b,hb,rfl,q,hq,hu⟩
  ·exact steps z hz hx hn
  ·have hd:=ZuJ hb rfl hn q hq
   have hqr:=g.ins b (List.mem_of_getElem? hb) q hq
   exact steps _ hu ⟨q.toNat,_,hqr.2,Nat.le_refl _,ZfM d q⟩ ((Zga R' hqr).2 hd)
theorem Zt9 {d:Zh} (g:ZaE d) {input:List Int}{t:ZC} (h:Runs d input t) (hw:ZhV d t=true):ZlR (Z4 d).dag:=by
 intro a w
 have all:=ZnA.1 hw
 have hU:∀z,(Way (Z4 d).dag a z∧Way (Z4 d).dag z a)→∃e∈(Z4 d).dag.edges,e.dst=z∧(Way (Z4 d).dag a e.src∧Way (Z4 d).dag e.src a):=fun z hz=>by
  obtain⟨h1,h2⟩:=hz
  cases h1 with
  | @one e he=>exact⟨e,he,rfl,w,w⟩
  | @more _ e h3 he=>exact⟨e,he,rfl,h3,(Way.one he).trans h2⟩
 have nv:=ZCX g hU h
 obtain⟨e,he,hd,hs⟩:=hU a ⟨w,w⟩
 have R:=h.right g
 have done:∀n j,n<d.parts.length→j≤nt d n→NDone d t ((ZB d n+j:Nat):Int):=fun n j hn hj=>by
  refine .step hn hj ?_
  have:=Zh0 g hn (nt d n+1) (j+1) (by omega) (by omega)
  rw[Zlf] at this
  have hdn:=all (n:Int) (ZfG hn)
  unfold Zer at hdn
  omega
 rcases Zl5 g he with⟨m,i,hm,hi,rfl⟩ | ⟨x,hx,rfl⟩ | ⟨f,hf,i,hi,hpos,rfl⟩ | ⟨i,b,hb,⟨q,hq,rfl⟩ | ⟨q,hq,rfl⟩⟩
 ·exact nv _ hs (done m i hm (by omega))
 ·exact nv _ hs ((Zga R (g.src hx)).2 (all _ (g.src hx)))
 ·exact nv _ hs ((Zga R (g.maker hf)).2 (all _ (g.maker hf)))
 ·have hqr:=g.ins b (List.mem_of_getElem? hb) q hq
  exact nv _ hs ((Zga R hqr).2 (all _ hqr))
 ·exact nv _ hs (.bar hb fun q hq=>all _ (g.ins b (List.mem_of_getElem? hb) q hq))
theorem Zt5 {d:Zh} (hl:Zij d) {input:List Int}{t:ZC} (h:Runs d input t) (hf:ZsW d t):ZhV d t=true:=by
 have g:=ZcJ hl.1
 have R:=h.right g
 obtain⟨l,_,T⟩:=ZoP hl.2
 have key:∀k j:Nat,j<k→∀z,l[j]? = some z→NDone d t z:=by
  intro k
  induction k with
  | zero=>intro j hj;omega
  | succ k ih=>
   intro j hj z hz
   have pre:∀e∈(Z4 d).dag.edges,e.dst=z→NDone d t e.src:=fun e he hd=>by
    obtain⟨i,h1,h2⟩:=T.topo j z hz e he hd
    exact ih i (by omega) _ h2
   have zin:=T.inn z (List.mem_of_getElem? hz)
   have zn:z.toNat<Zfi d:=zin.2
   rw[Zpk g] at zn
   have fa:=ZgL g
   by_cases hs:z.toNat<ZB d d.parts.length
   ·obtain⟨n,i,hn,hi,hzi⟩:=Zqb d _ _ hs
    have ez:z=((ZB d n+i:Nat):Int):=by have:=zin.1;omega
    subst ez
    refine .step hn hi (Classical.byContradiction fun hc=>hf (n:Int) (ZfG hn) ?_)
    have chain_:0<i→cut d n i≤wk t (n:Int):=fun h0=>by
     have:=pre ⟨((ZB d n+(i-1):Nat):Int),((ZB d n+(i-1)+1:Nat):Int)⟩ (Zrs hn (by omega)) (by show((ZB d n+(i-1)+1:Nat):Int)=_;omega)
     have:=Zoy hn (j:=i-1) (by omega) rfl this
     rw[show i-1+1=i by omega] at this
     exact this
    have low:cut d n i≤wk t (n:Int):=by
     by_cases h0:0<i
     ·exact chain_ h0
     ·have:i=0:=by omega
      subst this
      have:=(R.rng _ (ZfG hn)).1
      have e0:cut d n 0=0:=rfl
      omega
    have m1:=Zh0 g hn (nt d n+1) (i+1) (by omega) (by omega)
    rw[Zlf] at m1
    refine⟨fun hd=>?_,fun h0=>?_,fun f hff hu hpos=>?_⟩
    ·unfold Zer at hd;omega
    ·have i0:i=0:=by
      have:=Zh0 g hn i 0 (by omega) (by omega)
      have e0:cut d n 0=0:=rfl
      omega
     subst i0
     refine⟨fun e he hd=>?_,fun b hb ho q hq=>?_⟩
     ·refine(Zga R (g.src he)).1 (pre _ (ZqI he) ?_)
      show ZeC d e.dst=_
      rw[hd,Ze5,Int.toNat_natCast]
     ·obtain⟨k2,hk2⟩:=List.getElem?_of_mem hb
      have mem:(⟨Zc1 d k2,ZeC d (n:Int)⟩:Zm)∈(Z4 d).dag.edges:=Zrh hk2 (by
       unfold Zlm
       exact List.mem_append.2 (.inr (List.mem_map.2 ⟨(n:Int),ho,rfl⟩)))
      have:=pre _ mem (by show ZeC d (n:Int)=_;rw[Ze5,Int.toNat_natCast])
      exact ZuJ hk2 rfl this q hq
    ·obtain⟨j2,hj2,hje⟩:=ZhL g hff
     have en:f.user.toNat=n:=by rw[hu,Int.toNat_natCast]
     have hb:=ZjC g hff hj2 hje
     have hp2:=(Zc9 g.g hj2).2.2.2.1
     rw[hje] at hp2
     rw[en] at hj2 hb hp2
     have hij:j2+1=i:=by
      rcases Nat.lt_trichotomy (j2+1) i with h1 | h1 | h1
      ·have:=Zh0 g hn i (j2+1) (by omega) (by omega);omega
      ·exact h1
      ·have:=Zh0 g hn (j2+1) (i+1) (by omega) (by omega);omega
     refine(Zga R (g.maker hff)).1 (pre _ (ZqF hff) ?_)
     show Zr9 d f=_
     rw[hb]
     omega
   ·obtain⟨i,hi⟩:∃i,z.toNat=ZB d d.parts.length+i:=⟨z.toNat-ZB d d.parts.length,by omega⟩
    have hib:i<d.barriers.length:=by omega
    have hb:=List.getElem?_eq_getElem hib
    have ez:z=Zc1 d i:=by unfold Zc1;have:=zin.1;omega
    subst ez
    refine .bar hb fun q hq=>?_
    have mem:(⟨ZbP d q,Zc1 d i⟩:Zm)∈(Z4 d).dag.edges:=Zrh hb (by
     unfold Zlm
     exact List.mem_append.2 (.inl (List.mem_map.2 ⟨q,hq,rfl⟩)))
    exact(Zga R (g.ins _ (List.mem_of_getElem? hb) q hq)).1 (pre _ mem rfl)
 refine ZnA.2 fun p hp=>?_
 have e:((p.toNat:Nat):Int)=p:=Int.toNat_of_nonneg hp.1
 obtain⟨i,h1,h2⟩:=ZmZ g hp.2
 obtain⟨j,hj⟩:=List.getElem?_of_mem (T.all i h1)
 rw[e] at h2
 rw[← h2] at hj
 exact(Zga R hp).1 (key (j+1) j (by omega) _ hj)
theorem ZvY {d:Zh} (hc:Za7 d=0) (sh:ZeQ d) {input:List Int}{t:ZC} (h:Runs d input t) (hw:ZhV d t=true):ZpM d input ⟨List.replicate (Zfi d) true,t.vals⟩∧ZyO d ⟨List.replicate (Zfi d) true,t.vals⟩:=by
 have g:=ZcJ hc
 have R:=h.right g
 have all:=ZnA.1 hw
 have ba:∀z:Int,z.toNat<Zfi d→bAt (List.replicate (Zfi d) true) z=true:=fun z hz=>by
  unfold bAt
  rw[List.getElem?_replicate,if_pos hz]
 refine⟨⟨⟨by simp,R.o.v⟩,fun e he _=>?_,fun p hp _=>?_⟩,fun i hi=>ba _ (by simpa using hi)⟩
 ·refine ba _ ?_
  have hp:=(Zof g he).1
  exact(ZnJ hp).2
 ·have:=h.vals hc sh (p:Int) (ZfG hp) (all _ (ZfG hp))
  exact this
end Go.Proofs.YtnmbdjkbaihicaaDoor
namespace Go.Proofs.YtnmbdjkbaihicaaDoor
open Go Go.Proofs.YtnmbdjkbaihicaaDoorE
set_option linter.unusedVariables false
set_option linter.unusedSimpArgs false
theorem ZtE (a b:List Int) (hl:a.length<9223372036854775808):Zgh a b=some (decide (a=b)):=by
  unfold Zgh
  by_cases he:a.length=b.length
  · have key := Zzf a b he (Zd6 a b) (fun i x y hi hx hy => by
        simp only[Zd6,ZdX hi,Zat hx,Zat hy,Option.bind_some,ZW hi hl,cond_true]
        have e:(x != y) = !decide (x=y):=by rw[Bool.eq_iff_iff];simp
        rw[e]
        cases decide (x=y)<;>rfl) (by simp only[Zd6,ZeG];rfl)
    rw[key,show((a.length:Int) != (b.length:Int))=false by rw[he];simp]
    cases decide (a=b)<;>rfl
  · rw[show((a.length:Int) != (b.length:Int))=true by simp;omega,decide_eq_false (fun h=>he (by rw[h]))]
    rfl
end Go.Proofs.YtnmbdjkbaihicaaDoor
namespace Go.Proofs.YtnmbdjkbaihicaaDoor
open Go Go.Proofs.YtnmbdjkbaihicaaDoorE
set_option linter.unusedVariables false
set_option linter.unusedSimpArgs false
theorem ZgG:∀r,ZfO=some r→evD ctx 22 []=some (D.bool r):=fun r h=>by
  cases h
  exact ZBE 100 (by kernel_rfl)
def ZlG (r:Bool):D:=(D.bool r)
def ZiY (t0:Bool) (t1:Bool) (t2:Bool) (t3:Bool) (a:Zh):(Unit⊕Unit)→Ex×List V×Zo
  | (.inl r)=>(.ret,[(.ptr 0 0),(.d (D.bool false))],[(.cells (dV t0 t1 t2 t3 a))])
  | (.inr r)=>(.exit 0,[(.ptr 0 0),.bad],[(.cells (dV t0 t1 t2 t3 a))])
theorem Zmw {t0:Bool}{t1:Bool}{t2:Bool}{t3:Bool}{a:Zh}:∀(s0:Int) (r:(Unit⊕Unit)),lp (Zev a) s0=some r→lpW ctx 0 [1,3] [1,2] Zxa [(.ptr 0 0),(.d (Zb s0))] [(.cells (dV t0 t1 t2 t3 a))]=some ((ZiY t0 t1 t2 t3 a) r):=by
 refine ZaM (ZiY t0 t1 t2 t3 a) ?_
 intro s0 rcl ih
 show ZO _ _ (lpW _ _ _ _ _ _ _)
 unfold Zev
 rw[ZaN]
 conv=>arg 3;whnf
 refine Zn (ZI _ _) ?_;conv=>arg 3;whnf
 refine Zf rfl ?_ ?_<;>conv=>arg 3;whnf
 ·refine Zf rfl ?_ ?_<;>conv=>arg 3;whnf
  ·refine Zl rfl rfl fun x1 hx1=>?_;conv=>arg 3;whnf
   refine Zn (ZI _ _) ?_;conv=>arg 3;whnf
   refine Zf rfl ?_ ?_<;>conv=>arg 3;whnf
   ·exact Zd rfl
   ·refine Zg (ZbO rfl hx1) ?_;conv=>arg 3;whnf
    refine Zn (ZI _ _) ?_;conv=>arg 3;whnf
    refine Zf rfl ?_ ?_<;>conv=>arg 3;whnf
    ·exact Zd rfl
    ·exact Ze (ih _)
  ·exact Zd rfl
 ·exact Zd rfl
theorem ZpZ {t0:Bool}{t1:Bool}{t2:Bool}{t3:Bool}{a:Zh}:∀r,(Zg0 a)=some r→evD ctx 40 [(.d (D.agg (dA t0 t1 t2 t3 a)))]=some (ZlG r):=by
 show ZO _ (fun r rhs=>rhs=some (ZlG r)) _
 unfold Zg0
 rw[ZaY ctx 40 ZAJ _ rfl rfl]
 conv=>arg 3;whnf
 refine Zc _ (Zmw _) fun r2 hr2=>?_
 clear hr2
 rcases r2 with r2 | r2
 ·conv=>arg 3;whnf
  exact Zd rfl
 ·conv=>arg 3;whnf
  refine Zn (ZI _ _) ?_;conv=>arg 3;whnf
  refine Zf rfl ?_ ?_<;>conv=>arg 3;whnf
  ·refine Zn (ZI _ _) ?_;conv=>arg 3;whnf
   refine Zf rfl ?_ ?_<;>conv=>arg 3;whnf
   ·refine Zn (ZI _ _) ?_;conv=>arg 3;whnf
    refine Zf rfl ?_ ?_<;>conv=>arg 3;whnf
    ·refine Zn (ZI _ _) ?_;conv=>arg 3;whnf
     refine Zf rfl ?_ ?_<;>conv=>arg 3;whnf
     ·exact Zd rfl
     ·exact Zd rfl
    ·exact Zd rfl
   ·exact Zd rfl
  ·exact Zd rfl
def ZlA (r:Bool):D:=(D.bool r)
theorem ZpL {t0:Bool}{t1:Bool}{t2:Bool}{t3:Bool}{t4:Bool}{t5:Bool}{t6:Bool}{a:Zh}{b:(List Int)}{c:ZC}:∀r,(Zg3 a b c)=some r→evD ctx 23 [(.d (D.agg (dA t0 t1 t2 t3 a))),(.d (D.list t4 (List.map Zb b))),(.d (D.agg [(D.list t5 (List.map Zb c.work)),(D.list t6 (List.map Zb c.vals))]))]=some (ZlA r):=by
 show ZO _ (fun r rhs=>rhs=some (ZlA r)) _
 unfold Zg3
 rw[ZaY ctx 23 ZBS _ rfl rfl]
 conv=>arg 3;whnf
 refine Zp _ ZpZ rfl fun x0 hx0=>?_;conv=>arg 3;whnf
 refine Zf rfl ?_ ?_<;>conv=>arg 3;whnf
 ·refine Zn (ZI _ _) ?_;conv=>arg 3;whnf
  refine Zf rfl ?_ ?_<;>conv=>arg 3;whnf
  ·refine Zn (ZI _ _) ?_;conv=>arg 3;whnf
   refine Zf rfl ?_ ?_<;>conv=>arg 3;whnf
   ·refine Zn (ZI _ _) ?_;conv=>arg 3;whnf
    refine Zf rfl ?_ ?_<;>conv=>arg 3;whnf
    ·exact Zd rfl
    ·exact Zd rfl
   ·exact Zd rfl
  ·exact Zd rfl
 ·exact Zd rfl
def ZlI (t0:Bool) (t1:Bool) (t2:Bool) (t3:Bool) (a:Zh):(List Zr)→V×Zo
  | r=>((.agg [(.d (Zb a.period)),(.d (Zb a.deadline)),(.sl 0 3),(.sl 1 2),(.sl 2 3),(.sl 3 2)]),[(.arr 3 (List.map Z1 a.parts)),(.arr 2 (List.map ZF a.edges)),(.arr 3 (List.map Zq a.futures)),(.arr 2 (List.map Zv r))])
def ZiU (t0:Bool) (t1:Bool) (t2:Bool) (t3:Bool) (a:Zh):(List Zr)→Ex×List V×Zo
  | r=>(.exit 0,[(.ptr 0 0),(.ptr 1 0)],[(.cells [(.d (Zb 0)),(.d (Zb 0)),(.sl 2 3),(.sl 3 2),(.sl 4 3),(.sl 5 2)]),(.cells [(.d (Zb a.period)),(.d (Zb a.deadline)),(.sl 6 3),(.sl 7 2),(.sl 8 3),(.sl 9 2)]),(.arr 3 []),(.arr 2 []),(.arr 3 []),(.arr 2 []),(.arr 3 (List.map Z1 a.parts)),(.arr 2 (List.map ZF a.edges)),(.arr 3 (List.map Zq a.futures)),(.arr 2 (List.map Zv r))])
theorem Zmo {t0:Bool}{t1:Bool}{t2:Bool}{t3:Bool}{a:Zh}:∀(s0:Int×(List Zr)) (r:(List Zr)),lp (ZdN a) s0=some r→lpW ctx 0 [1,2,3,4] [2,3] ZxQ [(.ptr 0 0),(.ptr 1 0),(.ptr 2 0),(.d (Zb s0.1))] [(.cells (dV t0 t1 t2 t3 a)),(.cells [(.d (Zb 0)),(.d (Zb 0)),(.sl 3 3),(.sl 4 2),(.sl 5 3),(.sl 6 2)]),(.cells [(.d (Zb a.period)),(.d (Zb a.deadline)),(.sl 7 3),(.sl 8 2),(.sl 9 3),(.sl 10 2)]),(.arr 3 []),(.arr 2 []),(.arr 3 []),(.arr 2 []),(.arr 3 (List.map Z1 a.parts)),(.arr 2 (List.map ZF a.edges)),(.arr 3 (List.map Zq a.futures)),(.arr 2 (List.map Zv s0.2))]=some ((ZiU t0 t1 t2 t3 a) r):=by
 refine ZaM (ZiU t0 t1 t2 t3 a) ?_
 intro s0 rcl ih
 show ZO _ _ (lpW _ _ _ _ _ _ _)
 unfold ZdN
 rw[ZaN]
 conv=>arg 3;whnf
 refine Zn (ZI _ _) ?_;conv=>arg 3;whnf
 refine Zf rfl ?_ ?_<;>conv=>arg 3;whnf
 ·refine Zl rfl rfl fun x1 hx1=>?_;conv=>arg 3;whnf
  refine ZbH (Zgs (f:=Zb) (fun _=>⟨rfl,rfl⟩) x1.ins 0) ?_;conv=>arg 3;whnf
  refine Zf (Zgq Zb x1.ins) ?_ ?_
  ·conv=>arg 3;whnf
   refine Zn (rfl:_=List.map Zb x1.ins) ?_;conv=>arg 3;whnf
   refine Zg (ZbO rfl hx1) ?_;conv=>arg 3;whnf
   refine ZbH (Zgs (f:=Zb) (fun _=>⟨rfl,rfl⟩) x1.outs 0) ?_;conv=>arg 3;whnf
   refine Zf (Zgq Zb x1.outs) ?_ ?_
   ·conv=>arg 3;whnf
    refine Zn (rfl:_=List.map Zb x1.outs) ?_;conv=>arg 3;whnf
    refine ZbH rfl ?_;conv=>arg 3;whnf
    refine Zf (Zgn Zv s0.2 1) ?_ ?_
    ·conv=>arg 3;whnf
     refine Zn (Zgj Zv s0.2 [x1]) ?_;conv=>arg 3;whnf
     exact Ze (ih _)
    ·exact Z5
   ·exact Z5
  ·exact Z5
 ·exact Zd rfl
theorem Zkr {t0:Bool}{t1:Bool}{t2:Bool}{t3:Bool}{a:Zh}:∀r,(Zf7 a)=some r→evW ctx 15 [(.d (D.agg (dA t0 t1 t2 t3 a)))] []=some ((ZlI t0 t1 t2 t3 a) r):=by
 show ZO _ (fun r rhs=>rhs=some ((ZlI t0 t1 t2 t3 a) r)) _
 unfold Zf7
 rw[ZfE ctx 15 ZBG _ _ rfl rfl]
 conv=>arg 3;whnf
 refine ZbH (Zgs (f:=Z1) (fun _=>⟨rfl,rfl⟩) a.parts 0) ?_;conv=>arg 3;whnf
 refine Zf (Zgq Z1 a.parts) ?_ ?_
 ·conv=>arg 3;whnf
  refine Zn (rfl:_=List.map Z1 a.parts) ?_;conv=>arg 3;whnf
  refine ZbH (Zgs (f:=ZF) (fun _=>⟨rfl,rfl⟩) a.edges 0) ?_;conv=>arg 3;whnf
  refine Zf (Zgq ZF a.edges) ?_ ?_
  ·conv=>arg 3;whnf
   refine Zn (rfl:_=List.map ZF a.edges) ?_;conv=>arg 3;whnf
   refine ZbH (Zgs (f:=Zq) (fun _=>⟨rfl,rfl⟩) a.futures 0) ?_;conv=>arg 3;whnf
   refine Zf (Zgq Zq a.futures) ?_ ?_
   ·conv=>arg 3;whnf
    refine Zn (rfl:_=List.map Zq a.futures) ?_;conv=>arg 3;whnf
    refine Zc _ (Zmo _) fun r2 hr2=>?_;conv=>arg 3;whnf
    exact Zd rfl
   ·exact Z5
  ·exact Z5
 ·exact Z5
def Zj2 (r:Bool):D:=(D.bool r)
theorem ZbW {a:Int}{b:Int}{c:Int}:∀r,(Zbr a b c)=some r→evD ctx 82 [(.d (Zb a)),(.d (Zb b)),(.d (Zb c))]=some (Zj2 r):=by
 show ZO _ (fun r rhs=>rhs=some (Zj2 r)) _
 unfold Zbr
 rw[ZaY ctx 82 ZBH _ rfl rfl]
 conv=>arg 3;whnf
 refine Zf rfl ?_ ?_<;>conv=>arg 3;whnf
 ·refine Zf rfl ?_ ?_<;>conv=>arg 3;whnf
  ·exact Zd rfl
  ·exact Zd rfl
 ·exact Zd rfl
def ZlF (r:Int):D:=(Zb r)
theorem Zpc {a:Int}:∀r,(ZgW a)=some r→evD ctx 109 [(.d (Zb a))]=some (ZlF r):=by
 show ZO _ (fun r rhs=>rhs=some (ZlF r)) _
 unfold ZgW
 rw[ZaY ctx 109 ZxB _ rfl rfl]
 conv=>arg 3;whnf
 refine Zf rfl ?_ ?_<;>conv=>arg 3;whnf
 ·exact Zd rfl
 ·refine Zf rfl ?_ ?_<;>conv=>arg 3;whnf
  ·exact Zd rfl
  ·exact Zd rfl
def ZfC (r:Int):D:=(Zb r)
theorem ZhM {a:Int}:∀r,(Zco a)=some r→evD ctx 121 [(.d (D.int .u64 a))]=some (ZfC r):=by
 show ZO _ (fun r rhs=>rhs=some (ZfC r)) _
 unfold Zco
 rw[ZaY ctx 121 Zw1 _ rfl rfl]
 conv=>arg 3;whnf
 refine Zal rfl ?_;conv=>arg 3;whnf
 refine Zal rfl ?_;conv=>arg 3;whnf
 refine Zal rfl ?_;conv=>arg 3;whnf
 refine Zal rfl ?_;conv=>arg 3;whnf
 refine Zal rfl ?_;conv=>arg 3;whnf
 refine Zal rfl ?_;conv=>arg 3;whnf
 exact Zd rfl
def Zf8 (r:Int):D:=(Zb r)
theorem ZiP {a:Int}:∀r,(ZcI a)=some r→evD ctx 110 [(.d (D.int .u64 a))]=some (Zf8 r):=by
 show ZO _ (fun r rhs=>rhs=some (Zf8 r)) _
 unfold ZcI
 rw[ZaY ctx 110 Zxm _ rfl rfl]
 conv=>arg 3;whnf
 refine Zp _ ZhM rfl fun x0 hx0=>?_;conv=>arg 3;whnf
 exact Zd rfl
theorem ZCq (n:Int):0≤IntKind.u64.wrap n∧IntKind.u64.wrap n<18446744073709551616:=by
  have:IntKind.u64.wrap n=n % 18446744073709551616:=by
    show(if (false&&decide (n % 18446744073709551616 ≥ 9223372036854775808))=true then n % 18446744073709551616-18446744073709551616 else n % 18446744073709551616)=_
    simp
  rw[this]
  omega
theorem ZDp (n:Int):∃j:Nat,j<64∧(IntKind.u64.wrap n).fdiv (2 ^ (min (Int.toNat 58) IntKind.u64.bits))=(j:Int):=by
  obtain⟨h1,h2⟩:=ZCq n
  have e:(2:Int) ^ (min (Int.toNat 58) IntKind.u64.bits)=288230376151711744:=by decide
  rw[e,Int.fdiv_eq_ediv_of_nonneg _ (by omega)]
  refine⟨((IntKind.u64.wrap n) / 288230376151711744).toNat,?_,?_⟩<;>omega
theorem ZDx:∀j:Nat,j<64→Zds [] 1 false (.d (.rptr (ZxR.drop (j*1))))=some (.d (.int .u8 (Zsw.getD j 0))):=by
  have key:((List.range 64).all fun j=>match Zds [] 1 false (.d (.rptr (ZxR.drop (j*1)))) with | some (.d (.int .u8 z))=>z==Zsw.getD j 0 | _=>false)=true:=by rfl
  intro j hj
  have:=List.all_eq_true.1 key j (by simpa using hj)
  split at this
  · rename_i z hz
    rw[hz,eq_of_beq this]
  · cases this
def Zg9 (r:Int):D:=Zb r
theorem ZgA (a:Int):∀r,Zdy a=some r→evD ctx 123 [.d (.int .u64 a)]=some (Zg9 r):=by
  intro r hr
  unfold Zdy at hr
  have hr:=Option.some.inj hr
  subst hr
  rw[ZaY ctx 123 Zyf _ rfl rfl]
  by_cases h:(a==0)=true
  · conv=>lhs;whnf
    rw[h,ZzN]
    rfl
  · replace h:(a==0)=false:=by simpa using h
    obtain⟨j,hj,e⟩:=ZDp (IntKind.u64.wrap ((BitVec.ofInt IntKind.u64.bits a &&& BitVec.ofInt IntKind.u64.bits (IntKind.u64.wrap (0-a))).toNat:Int)*285870213051353865)
    conv=>lhs;whnf
    rw[h,ZAc]
    conv=>lhs;whnf
    refine(ZDr (by rfl)).trans ?_
    conv=>lhs;whnf
    rw[e]
    refine(ZCe (by simp;omega)).trans ?_
    conv=>lhs;whnf
    erw [ZDx j hj]
    rfl
def Zfj (r:Int):D:=(Zb r)
theorem Zhi {a:Int}:∀r,(ZcH a)=some r→evD ctx 111 [(.d (D.int .u64 a))]=some (Zfj r):=by
 show ZO _ (fun r rhs=>rhs=some (Zfj r)) _
 unfold ZcH
 rw[ZaY ctx 111 ZwG _ rfl rfl]
 conv=>arg 3;whnf
 refine Zp _ (ZgA _) rfl fun x0 hx0=>?_;conv=>arg 3;whnf
 exact Zd rfl
def Zn3 (r:(Int×Bool)):D:=(D.tup [(Zb r.1),(D.bool r.2)])
theorem Zr0 {a:Int}:∀r,(Zi0 a)=some r→evD ctx 83 [(.d (Zb a))]=some (Zn3 r):=by
 show ZO _ (fun r rhs=>rhs=some (Zn3 r)) _
 unfold Zi0
 rw[ZaY ctx 83 ZAX _ rfl rfl]
 conv=>arg 3;whnf
 refine Zp _ Zpc rfl fun x0 hx0=>?_;conv=>arg 3;whnf
 refine Zf rfl ?_ ?_<;>conv=>arg 3;whnf
 ·exact Zd rfl
 ·refine Zp _ ZiP rfl fun x1 hx1=>?_;conv=>arg 3;whnf
  refine Zf rfl ?_ ?_<;>conv=>arg 3;whnf
  ·exact Zd rfl
  ·refine Zp _ Zhi rfl fun x2 hx2=>?_;conv=>arg 3;whnf
   exact Zd rfl
def Zlw (r:Bool):D:=(D.bool r)
theorem Zpe {a:ZV}:∀r,(ZeK a)=some r→evD ctx 85 [(.d (D.agg [(Zb a.op),(Zb a.arg),(Zb a.work)]))]=some (Zlw r):=by
 show ZO _ (fun r rhs=>rhs=some (Zlw r)) _
 unfold ZeK
 rw[ZaY ctx 85 ZAQ _ rfl rfl]
 conv=>arg 3;whnf
 refine Zp _ ZbW rfl fun x0 hx0=>?_;conv=>arg 3;whnf
 refine Zf rfl ?_ ?_<;>conv=>arg 3;whnf
 ·refine Zp _ ZbW rfl fun x1 hx1=>?_;conv=>arg 3;whnf
  refine Zf rfl ?_ ?_<;>conv=>arg 3;whnf
  ·refine Zp _ ZbW rfl fun x2 hx2=>?_;conv=>arg 3;whnf
   refine Zf rfl ?_ ?_<;>conv=>arg 3;whnf
   ·exact Zd rfl
   ·exact Zd rfl
  ·exact Zd rfl
 ·exact Zd rfl
def Zcs (r:Int):D:=(Zb r)
def Zb7 (t0:Bool) (a:(List ZV)):(Int⊕Unit)→Ex×List V×Zo
  | (.inl r)=>(.ret,[(.d (Zb r))],[])
  | (.inr r)=>(.exit 0,[.bad],[])
theorem Zei {t0:Bool}{a:(List ZV)}:∀(s0:Int) (r:(Int⊕Unit)),lp (ZaT a (fun z0=>ZeK z0)) s0=some r→lpW ctx 0 [0,1,7,8] [4] Zvh [(.d (D.list t0 (List.map Z1 a))),(.d (D.fn 85 [])),(.d (Zb (a.length:Int))),(.d (Zb s0))] []=some ((Zb7 t0 a) r):=by
 refine ZaM (Zb7 t0 a) ?_
 intro s0 rcl ih
 show ZO _ _ (lpW _ _ _ _ _ _ _)
 unfold ZaT
 rw[ZaN]
 conv=>arg 3;whnf
 refine Zf rfl ?_ ?_<;>conv=>arg 3;whnf
 ·refine Zl rfl rfl fun x1 hx1=>?_;conv=>arg 3;whnf
  refine Zp _ Zpe rfl fun x2 hx2=>?_;conv=>arg 3;whnf
  refine Zf rfl ?_ ?_<;>conv=>arg 3;whnf
  ·exact Zd rfl
  ·exact Ze (ih _)
 ·exact Zd rfl
theorem Zey {t0:Bool}{a:(List ZV)}:∀r,(ZbV a (fun z0=>ZeK z0))=some r→evD ctx 112 [(.d (D.list t0 (List.map Z1 a))),(.d (D.fn 85 []))]=some (Zcs r):=by
 show ZO _ (fun r rhs=>rhs=some (Zcs r)) _
 unfold ZbV
 rw[ZaY ctx 112 ZyQ _ rfl rfl]
 conv=>arg 3;whnf
 refine Zn (ZI _ _) ?_;conv=>arg 3;whnf
 refine Zc _ (Zei _) fun r3 hr3=>?_
 clear hr3
 rcases r3 with r3 | r3
 ·conv=>arg 3;whnf
  exact Zd rfl
 ·conv=>arg 3;whnf
  exact Zd rfl
def Zcb (r:Bool):D:=(D.bool r)
theorem Zek {t0:Bool}{a:(List ZV)}:∀r,(ZaV a (fun z0=>ZeK z0))=some r→evD ctx 84 [(.d (D.list t0 (List.map Z1 a))),(.d (D.fn 85 []))]=some (Zcb r):=by
 show ZO _ (fun r rhs=>rhs=some (Zcb r)) _
 unfold ZaV
 rw[ZaY ctx 84 ZBw _ rfl rfl]
 conv=>arg 3;whnf
 refine Zp _ Zey rfl fun x0 hx0=>?_;conv=>arg 3;whnf
 refine Zf rfl ?_ ?_<;>conv=>arg 3;whnf
 ·exact Zd rfl
 ·exact Zd rfl
def Zm3 (r:Bool):D:=(D.bool r)
theorem ZlB {t0:Bool}{t1:Bool}{t2:Bool}{t3:Bool}{a:Zh}{b:Int}{c:Int}:∀r,(ZgH a b c)=some r→evD ctx 86 [(.d (D.agg (dA t0 t1 t2 t3 a))),(.d (Zb b)),(.d (Zb c))]=some (Zm3 r):=by
 show ZO _ (fun r rhs=>rhs=some (Zm3 r)) _
 unfold ZgH
 rw[ZaY ctx 86 ZBx _ rfl rfl]
 conv=>arg 3;whnf
 refine Zf rfl ?_ ?_<;>conv=>arg 3;whnf
 ·refine Zn (ZI _ _) ?_;conv=>arg 3;whnf
  refine Zp _ ZbW rfl fun x0 hx0=>?_;conv=>arg 3;whnf
  refine Zf rfl ?_ ?_<;>conv=>arg 3;whnf
  ·refine Zn (ZI _ _) ?_;conv=>arg 3;whnf
   refine Zp _ ZbW rfl fun x1 hx1=>?_;conv=>arg 3;whnf
   refine Zf rfl ?_ ?_<;>conv=>arg 3;whnf
   ·exact Zd rfl
   ·exact Zd rfl
  ·exact Zd rfl
 ·exact Zd rfl
def ZeW (r:Int):D:=(Zb r)
def Zes (t0:Bool) (a:(List Zm)) (b:Zm):(Int⊕Unit)→Ex×List V×Zo
  | (.inl r)=>(.ret,[(.d (Zb r))],[])
  | (.inr r)=>(.exit 0,[.bad],[])
theorem Zgi {t0:Bool}{a:(List Zm)}{b:Zm}:∀(s0:Int) (r:(Int⊕Unit)),lp (Zbg a b) s0=some r→lpW ctx 0 [0,3,7,8] [4] Zvf [(.d (D.list t0 (List.map ZF a))),(.ptr 0 0),(.d (Zb (a.length:Int))),(.d (Zb s0))] [(.cells [(.d (Zb b.src)),(.d (Zb b.dst))])]=some ((Zes t0 a b) r):=by
 refine ZaM (Zes t0 a b) ?_
 intro s0 rcl ih
 show ZO _ _ (lpW _ _ _ _ _ _ _)
 unfold Zbg
 rw[ZaN]
 conv=>arg 3;whnf
 refine Zf rfl ?_ ?_<;>conv=>arg 3;whnf
 ·refine Zl rfl rfl fun x1 hx1=>?_;conv=>arg 3;whnf
  refine Zf rfl ?_ ?_<;>conv=>arg 3;whnf
  ·exact Zd rfl
  ·exact Ze (ih _)
 ·exact Zd rfl
theorem Zhd {t0:Bool}{a:(List Zm)}{b:Zm}:∀r,(Zcv a b)=some r→evD ctx 113 [(.d (D.list t0 (List.map ZF a))),(.d (D.agg [(Zb b.src),(Zb b.dst)]))]=some (ZeW r):=by
 show ZO _ (fun r rhs=>rhs=some (ZeW r)) _
 unfold Zcv
 rw[ZaY ctx 113 Zy1 _ rfl rfl]
 conv=>arg 3;whnf
 refine Zn (ZI _ _) ?_;conv=>arg 3;whnf
 refine Zc _ (Zgi _) fun r2 hr2=>?_
 clear hr2
 rcases r2 with r2 | r2
 ·conv=>arg 3;whnf
  exact Zd rfl
 ·conv=>arg 3;whnf
  exact Zd rfl
def Zet (r:Bool):D:=(D.bool r)
theorem Zef {t0:Bool}{a:(List Zm)}{b:Zm}:∀r,(ZaS a b)=some r→evD ctx 87 [(.d (D.list t0 (List.map ZF a))),(.d (D.agg [(Zb b.src),(Zb b.dst)]))]=some (Zet r):=by
 show ZO _ (fun r rhs=>rhs=some (Zet r)) _
 unfold ZaS
 rw[ZaY ctx 87 ZBr _ rfl rfl]
 conv=>arg 3;whnf
 refine Zp _ Zhd rfl fun x0 hx0=>?_;conv=>arg 3;whnf
 refine Zf rfl ?_ ?_<;>conv=>arg 3;whnf
 ·exact Zd rfl
 ·exact Zd rfl
def Zjl (r:Bool):D:=(D.bool r)
theorem ZmM {a:Zj}{b0:Int}{b1:Int}{b2:Int}:∀r,(Zc0 a b1 b2)=some r→evD ctx 88 [(.d (D.agg [(Zb a.maker),(Zb a.user),(Zb a.pos)])),(.d (D.rptr [(Zb b0),(Zb b1),(Zb b2)]))]=some (Zjl r):=by
 show ZO _ (fun r rhs=>rhs=some (Zjl r)) _
 unfold Zc0
 rw[ZaY ctx 88 ZBo _ rfl rfl]
 conv=>arg 3;whnf
 refine Zf rfl ?_ ?_<;>conv=>arg 3;whnf
 ·refine Zf rfl ?_ ?_<;>conv=>arg 3;whnf
  ·exact Zd rfl
  ·exact Zd rfl
 ·exact Zd rfl
def ZbL (r:Int):D:=(Zb r)
def Zbw (t0:Bool) (a:(List Zj)) (b0:Int) (b1:Int) (b2:Int):(Int⊕Unit)→Ex×List V×Zo
  | (.inl r)=>(.ret,[(.d (Zb r))],[])
  | (.inr r)=>(.exit 0,[.bad],[])
theorem Zdl {t0:Bool}{a:(List Zj)}{b0:Int}{b1:Int}{b2:Int}:∀(s0:Int) (r:(Int⊕Unit)),lp (ZaB a (fun z0=>Zc0 z0 b1 b2)) s0=some r→lpW ctx 0 [0,1,7,8] [4] Zve [(.d (D.list t0 (List.map Zq a))),(.d (D.fn 88 [(D.rptr [(Zb b0),(Zb b1),(Zb b2)])])),(.d (Zb (a.length:Int))),(.d (Zb s0))] []=some ((Zbw t0 a b0 b1 b2) r):=by
 refine ZaM (Zbw t0 a b0 b1 b2) ?_
 intro s0 rcl ih
 show ZO _ _ (lpW _ _ _ _ _ _ _)
 unfold ZaB
 rw[ZaN]
 conv=>arg 3;whnf
 refine Zf rfl ?_ ?_<;>conv=>arg 3;whnf
 ·refine Zl rfl rfl fun x1 hx1=>?_;conv=>arg 3;whnf
  refine Zp _ ZmM rfl fun x2 hx2=>?_;conv=>arg 3;whnf
  refine Zf rfl ?_ ?_<;>conv=>arg 3;whnf
  ·exact Zd rfl
  ·exact Ze (ih _)
 ·exact Zd rfl
theorem ZdB {t0:Bool}{a:(List Zj)}{b0:Int}{b1:Int}{b2:Int}:∀r,(Zbh a (fun z0=>Zc0 z0 b1 b2))=some r→evD ctx 114 [(.d (D.list t0 (List.map Zq a))),(.d (D.fn 88 [(D.rptr [(Zb b0),(Zb b1),(Zb b2)])]))]=some (ZbL r):=by
 show ZO _ (fun r rhs=>rhs=some (ZbL r)) _
 unfold Zbh
 rw[ZaY ctx 114 Zxu _ rfl rfl]
 conv=>arg 3;whnf
 refine Zn (ZI _ _) ?_;conv=>arg 3;whnf
 refine Zc _ (Zdl _) fun r3 hr3=>?_
 clear hr3
 rcases r3 with r3 | r3
 ·conv=>arg 3;whnf
  exact Zd rfl
 ·conv=>arg 3;whnf
  exact Zd rfl
def Zbu (r:Bool):D:=(D.bool r)
theorem Zdh {t0:Bool}{a:(List Zj)}{b0:Int}{b1:Int}{b2:Int}:∀r,(ZaC a (fun z0=>Zc0 z0 b1 b2))=some r→evD ctx 89 [(.d (D.list t0 (List.map Zq a))),(.d (D.fn 88 [(D.rptr [(Zb b0),(Zb b1),(Zb b2)])]))]=some (Zbu r):=by
 show ZO _ (fun r rhs=>rhs=some (Zbu r)) _
 unfold ZaC
 rw[ZaY ctx 89 ZBh _ rfl rfl]
 conv=>arg 3;whnf
 refine Zp _ ZdB rfl fun x0 hx0=>?_;conv=>arg 3;whnf
 refine Zf rfl ?_ ?_<;>conv=>arg 3;whnf
 ·exact Zd rfl
 ·exact Zd rfl
def ZmK (r:Bool):D:=(D.bool r)
def ZjZ (t0:Bool) (t1:Bool) (t2:Bool) (t3:Bool) (t4:Bool) (a:Zh) (b:(List Int)):(Unit⊕Unit)→Ex×List V×Zo
  | (.inl r)=>(.ret,[(.d (D.list t4 (List.map Zb b))),(.d (D.bool false))],[])
  | (.inr r)=>(.exit 0,[(.d (D.list t4 (List.map Zb b))),.bad],[])
theorem ZnR {t0:Bool}{t1:Bool}{t2:Bool}{t3:Bool}{t4:Bool}{a:Zh}{b:(List Int)}:∀(s0:Int) (r:(Unit⊕Unit)),lp (Ze7 a b) s0=some r→lpW ctx 0 [1,2,7,8,9] [1,4] Zyb [(.d (D.list t4 (List.map Zb b))),(.ptr 0 0),(.d (D.list t4 (List.map Zb b))),(.d (Zb (b.length:Int))),(.d (Zb s0))] [(.cells (dV t0 t1 t2 t3 a))]=some ((ZjZ t0 t1 t2 t3 t4 a b) r):=by
 refine ZaM (ZjZ t0 t1 t2 t3 t4 a b) ?_
 intro s0 rcl ih
 show ZO _ _ (lpW _ _ _ _ _ _ _)
 unfold Ze7
 rw[ZaN]
 conv=>arg 3;whnf
 refine Zf rfl ?_ ?_<;>conv=>arg 3;whnf
 ·refine Zl rfl rfl fun x1 hx1=>?_;conv=>arg 3;whnf
  refine Zn (ZI _ _) ?_;conv=>arg 3;whnf
  refine Zp _ ZbW rfl fun x2 hx2=>?_;conv=>arg 3;whnf
  refine Zf rfl ?_ ?_<;>conv=>arg 3;whnf
  ·refine Zf rfl ?_ ?_<;>conv=>arg 3;whnf
   ·refine Zl rfl rfl fun x3 hx3=>?_;conv=>arg 3;whnf
    refine Zf rfl ?_ ?_<;>conv=>arg 3;whnf
    ·exact Zd rfl
    ·exact Ze (ih _)
   ·exact Ze (ih _)
  ·exact Zd rfl
 ·exact Zd rfl
theorem ZlH {t0:Bool}{t1:Bool}{t2:Bool}{t3:Bool}{t4:Bool}{a:Zh}{b:(List Int)}:∀r,(ZgI a b)=some r→evD ctx 92 [(.d (D.agg (dA t0 t1 t2 t3 a))),(.d (D.list t4 (List.map Zb b)))]=some (ZmK r):=by
 show ZO _ (fun r rhs=>rhs=some (ZmK r)) _
 unfold ZgI
 rw[ZaY ctx 92 ZAK _ rfl rfl]
 conv=>arg 3;whnf
 refine Zn (ZI _ _) ?_;conv=>arg 3;whnf
 refine Zc _ (ZnR _) fun r4 hr4=>?_
 clear hr4
 rcases r4 with r4 | r4
 ·conv=>arg 3;whnf
  exact Zd rfl
 ·conv=>arg 3;whnf
  refine Zn (ZI _ _) ?_;conv=>arg 3;whnf
  refine Zf rfl ?_ ?_<;>conv=>arg 3;whnf
  ·exact Zd rfl
  ·exact Zd rfl
def Zfr (r:Int):D:=(Zb r)
def ZeM (t0:Bool) (a:(List Int)) (b:Int):(Int⊕Unit)→Ex×List V×Zo
  | (.inl r)=>(.ret,[(.d (Zb r))],[])
  | (.inr r)=>(.exit 0,[.bad],[])
theorem ZgE {t0:Bool}{a:(List Int)}{b:Int}:∀(s0:Int) (r:(Int⊕Unit)),lp (Zbx a b) s0=some r→lpW ctx 0 [0,1,7,8] [4] ZuQ [(.d (D.list t0 (List.map Zb a))),(.d (Zb b)),(.d (Zb (a.length:Int))),(.d (Zb s0))] []=some ((ZeM t0 a b) r):=by
 refine ZaM (ZeM t0 a b) ?_
 intro s0 rcl ih
 show ZO _ _ (lpW _ _ _ _ _ _ _)
 unfold Zbx
 rw[ZaN]
 conv=>arg 3;whnf
 refine Zf rfl ?_ ?_<;>conv=>arg 3;whnf
 ·refine Zl rfl rfl fun x1 hx1=>?_;conv=>arg 3;whnf
  refine Zf rfl ?_ ?_<;>conv=>arg 3;whnf
  ·exact Zd rfl
  ·exact Ze (ih _)
 ·exact Zd rfl
theorem ZhC {t0:Bool}{a:(List Int)}{b:Int}:∀r,(ZcW a b)=some r→evD ctx 115 [(.d (D.list t0 (List.map Zb a))),(.d (Zb b))]=some (Zfr r):=by
 show ZO _ (fun r rhs=>rhs=some (Zfr r)) _
 unfold ZcW
 rw[ZaY ctx 115 ZyC _ rfl rfl]
 conv=>arg 3;whnf
 refine Zn (ZI _ _) ?_;conv=>arg 3;whnf
 refine Zc _ (ZgE _) fun r2 hr2=>?_
 clear hr2
 rcases r2 with r2 | r2
 ·conv=>arg 3;whnf
  exact Zd rfl
 ·conv=>arg 3;whnf
  exact Zd rfl
def ZeI (r:Bool):D:=(D.bool r)
theorem Zez {t0:Bool}{a:(List Int)}{b:Int}:∀r,(Za8 a b)=some r→evD ctx 91 [(.d (D.list t0 (List.map Zb a))),(.d (Zb b))]=some (ZeI r):=by
 show ZO _ (fun r rhs=>rhs=some (ZeI r)) _
 unfold Za8
 rw[ZaY ctx 91 ZBe _ rfl rfl]
 conv=>arg 3;whnf
 refine Zp _ ZhC rfl fun x0 hx0=>?_;conv=>arg 3;whnf
 refine Zf rfl ?_ ?_<;>conv=>arg 3;whnf
 ·exact Zd rfl
 ·exact Zd rfl
def Zju (r:Bool):D:=(D.bool r)
theorem ZmI {t0:Bool}{t1:Bool}{a:Int}{b0:(List Int)}{b1:(List Int)}:∀r,(Zc3 a b1)=some r→evD ctx 90 [(.d (Zb a)),(.d (D.rptr [(D.list t0 (List.map Zb b0)),(D.list t1 (List.map Zb b1))]))]=some (Zju r):=by
 show ZO _ (fun r rhs=>rhs=some (Zju r)) _
 unfold Zc3
 rw[ZaY ctx 90 ZBF _ rfl rfl]
 conv=>arg 3;whnf
 refine Zp _ Zez rfl fun x0 hx0=>?_;conv=>arg 3;whnf
 refine Zf rfl ?_ ?_<;>conv=>arg 3;whnf
 ·exact Zd rfl
 ·exact Zd rfl
def Zcn (r:Int):D:=(Zb r)
def Zb3 (t0:Bool) (t1:Bool) (t2:Bool) (a:(List Int)) (b0:(List Int)) (b1:(List Int)):(Int⊕Unit)→Ex×List V×Zo
  | (.inl r)=>(.ret,[(.d (Zb r))],[])
  | (.inr r)=>(.exit 0,[.bad],[])
theorem Zd0 {t0:Bool}{t1:Bool}{t2:Bool}{a:(List Int)}{b0:(List Int)}{b1:(List Int)}:∀(s0:Int) (r:(Int⊕Unit)),lp (Zan a (fun z0=>Zc3 z0 b1)) s0=some r→lpW ctx 0 [0,1,7,8] [4] ZrL [(.d (D.list t0 (List.map Zb a))),(.d (D.fn 90 [(D.rptr [(D.list t1 (List.map Zb b0)),(D.list t2 (List.map Zb b1))])])),(.d (Zb (a.length:Int))),(.d (Zb s0))] []=some ((Zb3 t0 t1 t2 a b0 b1) r):=by
 refine ZaM (Zb3 t0 t1 t2 a b0 b1) ?_
 intro s0 rcl ih
 show ZO _ _ (lpW _ _ _ _ _ _ _)
 unfold Zan
 rw[ZaN]
 conv=>arg 3;whnf
 refine Zf rfl ?_ ?_<;>conv=>arg 3;whnf
 ·refine Zl rfl rfl fun x1 hx1=>?_;conv=>arg 3;whnf
  refine Zp _ ZmI rfl fun x2 hx2=>?_;conv=>arg 3;whnf
  refine Zf rfl ?_ ?_<;>conv=>arg 3;whnf
  ·exact Zd rfl
  ·exact Ze (ih _)
 ·exact Zd rfl
theorem Zeu {t0:Bool}{t1:Bool}{t2:Bool}{a:(List Int)}{b0:(List Int)}{b1:(List Int)}:∀r,(ZaW a (fun z0=>Zc3 z0 b1))=some r→evD ctx 116 [(.d (D.list t0 (List.map Zb a))),(.d (D.fn 90 [(D.rptr [(D.list t1 (List.map Zb b0)),(D.list t2 (List.map Zb b1))])]))]=some (Zcn r):=by
 show ZO _ (fun r rhs=>rhs=some (Zcn r)) _
 unfold ZaW
 rw[ZaY ctx 116 ZvM _ rfl rfl]
 conv=>arg 3;whnf
 refine Zn (ZI _ _) ?_;conv=>arg 3;whnf
 refine Zc _ (Zd0 _) fun r3 hr3=>?_
 clear hr3
 rcases r3 with r3 | r3
 ·conv=>arg 3;whnf
  exact Zd rfl
 ·conv=>arg 3;whnf
  exact Zd rfl
def Zb4 (r:Bool):D:=(D.bool r)
theorem Zd4 {t0:Bool}{t1:Bool}{t2:Bool}{a:(List Int)}{b0:(List Int)}{b1:(List Int)}:∀r,(Z7 a (fun z0=>Zc3 z0 b1))=some r→evD ctx 93 [(.d (D.list t0 (List.map Zb a))),(.d (D.fn 90 [(D.rptr [(D.list t1 (List.map Zb b0)),(D.list t2 (List.map Zb b1))])]))]=some (Zb4 r):=by
 show ZO _ (fun r rhs=>rhs=some (Zb4 r)) _
 unfold Z7
 rw[ZaY ctx 93 ZzH _ rfl rfl]
 conv=>arg 3;whnf
 refine Zp _ Zeu rfl fun x0 hx0=>?_;conv=>arg 3;whnf
 refine Zf rfl ?_ ?_<;>conv=>arg 3;whnf
 ·exact Zd rfl
 ·exact Zd rfl
def ZkU (r:Int):D:=(Zb r)
def Ziv (t0:Bool) (t1:Bool) (t2:Bool) (t3:Bool) (a:Zh):(Unit⊕Unit)→Ex×List V×Zo
  | (.inl r)=>(.ret,[(.ptr 0 0),(.d (Zb 53))],[(.cells (dV t0 t1 t2 t3 a))])
  | (.inr r)=>(.exit 0,[(.ptr 0 0),.bad],[(.cells (dV t0 t1 t2 t3 a))])
theorem ZlS {t0:Bool}{t1:Bool}{t2:Bool}{t3:Bool}{a:Zh}:∀(s4:Int) (r:(Unit⊕Unit)),lp (Zdk a) s4=some r→lpW ctx 0 [1,61,62,63] [1,2] ZwE [(.ptr 0 0),(.d (D.list t1 (List.map ZF a.edges))),(.d (Zb (a.edges.length:Int))),(.d (Zb s4))] [(.cells (dV t0 t1 t2 t3 a))]=some ((Ziv t0 t1 t2 t3 a) r):=by
 refine ZaM (Ziv t0 t1 t2 t3 a) ?_
 intro s4 rcl ih
 show ZO _ _ (lpW _ _ _ _ _ _ _)
 unfold Zdk
 rw[ZaN]
 conv=>arg 3;whnf
 refine Zf rfl ?_ ?_<;>conv=>arg 3;whnf
 ·refine Zl rfl rfl fun x5 hx5=>?_;conv=>arg 3;whnf
  refine Zp _ ZlB rfl fun x6 hx6=>?_;conv=>arg 3;whnf
  refine Zf rfl ?_ ?_<;>conv=>arg 3;whnf
  ·refine Zf rfl ?_ ?_
   ·conv=>arg 3;whnf
    refine Zf (ZxA ZF a.edges s4.toNat) ?_ ?_
    ·conv=>arg 3;whnf
     refine ZbH rfl ?_;conv=>arg 3;whnf
     refine Zn (Zsq ZF a.edges s4.toNat) ?_;conv=>arg 3;whnf
     refine Zp _ Zef rfl fun x7 hx7=>?_;conv=>arg 3;whnf
     refine Zf rfl ?_ ?_<;>conv=>arg 3;whnf
     ·exact Zd rfl
     ·exact Ze (ih _)
    ·exact Z5
   ·exact Z5
  ·exact Zd rfl
 ·exact Zd rfl
def Ziz (t0:Bool) (t1:Bool) (t2:Bool) (t3:Bool) (a:Zh):(Unit⊕Unit)→Ex×List V×Zo
  | (.inl r)=>(.ret,[(.ptr 0 0),(.d (Zb 54))],[(.cells (dV t0 t1 t2 t3 a))])
  | (.inr r)=>(.exit 2,[(.ptr 0 0),.bad],[(.cells (dV t0 t1 t2 t3 a))])
theorem Zmb {t0:Bool}{t1:Bool}{t2:Bool}{t3:Bool}{a:Zh}:∀(s9:Int) (r:(Unit⊕Unit)),lp (Zdo a) s9=some r→lpW ctx 0 [1,85,86,87] [1,2] Zxs [(.ptr 0 0),(.d (D.list t2 (List.map Zq a.futures))),(.d (Zb (a.futures.length:Int))),(.d (Zb s9))] [(.cells (dV t0 t1 t2 t3 a))]=some ((Ziz t0 t1 t2 t3 a) r):=by
 refine ZaM (Ziz t0 t1 t2 t3 a) ?_
 intro s9 rcl ih
 show ZO _ _ (lpW _ _ _ _ _ _ _)
 unfold Zdo
 rw[ZaN]
 conv=>arg 3;whnf
 refine Zf rfl ?_ ?_<;>conv=>arg 3;whnf
 ·refine Zl rfl rfl fun x10 hx10=>?_;conv=>arg 3;whnf
  refine Zp _ ZlB rfl fun x11 hx11=>?_;conv=>arg 3;whnf
  refine Zf rfl ?_ ?_<;>conv=>arg 3;whnf
  ·refine Zl rfl rfl fun x12 hx12=>?_;conv=>arg 3;whnf
   refine Zp _ ZbW rfl fun x13 hx13=>?_;conv=>arg 3;whnf
   refine Zf rfl ?_ ?_<;>conv=>arg 3;whnf
   ·refine Zf rfl ?_ ?_
    ·conv=>arg 3;whnf
     refine Zf (ZxA Zq a.futures s9.toNat) ?_ ?_
     ·conv=>arg 3;whnf
      refine ZbH rfl ?_;conv=>arg 3;whnf
      refine Zn (Zsq Zq a.futures s9.toNat) ?_;conv=>arg 3;whnf
      refine Zp _ Zdh rfl fun x14 hx14=>?_;conv=>arg 3;whnf
      refine Zf rfl ?_ ?_<;>conv=>arg 3;whnf
      ·exact Zd rfl
      ·exact Ze (ih _)
     ·exact Z5
    ·exact Z5
   ·exact Zd rfl
  ·exact Zd rfl
 ·exact Zd rfl
def Ziw (t0:Bool) (t1:Bool) (t2:Bool) (t3:Bool) (a:Zh):(Unit⊕Unit)→Ex×List V×Zo
  | (.inl r)=>(.ret,[(.d (Zb 55))],[])
  | (.inr r)=>(.exit 4,[.bad],[])
theorem Zl6 {t0:Bool}{t1:Bool}{t2:Bool}{t3:Bool}{a:Zh}:∀(s16:Int) (r:(Unit⊕Unit)),lp (Zdm a) s16=some r→lpW ctx 0 [1,124,125,126] [2] Zyp [(.ptr 0 0),(.d (D.list t3 (List.map Zv a.barriers))),(.d (Zb (a.barriers.length:Int))),(.d (Zb s16))] [(.cells (dV t0 t1 t2 t3 a))]=some ((Ziw t0 t1 t2 t3 a) r):=by
 refine ZaM (Ziw t0 t1 t2 t3 a) ?_
 intro s16 rcl ih
 show ZO _ _ (lpW _ _ _ _ _ _ _)
 unfold Zdm
 rw[ZaN]
 conv=>arg 3;whnf
 refine Zf rfl ?_ ?_<;>conv=>arg 3;whnf
 ·refine Zl rfl rfl fun x17 hx17=>?_;conv=>arg 3;whnf
  refine Zp _ ZlH rfl fun x18 hx18=>?_;conv=>arg 3;whnf
  refine Zf rfl ?_ ?_<;>conv=>arg 3;whnf
  ·refine Zp _ ZlH rfl fun x19 hx19=>?_;conv=>arg 3;whnf
   refine Zf rfl ?_ ?_<;>conv=>arg 3;whnf
   ·refine Zp _ Zd4 rfl fun x20 hx20=>?_;conv=>arg 3;whnf
    refine Zf rfl ?_ ?_<;>conv=>arg 3;whnf
    ·exact Zd rfl
    ·exact Ze (ih _)
   ·exact Zd rfl
  ·exact Zd rfl
 ·exact Zd rfl
theorem ZfY {t0:Bool}{t1:Bool}{t2:Bool}{t3:Bool}{a:Zh}:∀r,(Zej a)=some r→evD ctx 55 [(.d (D.agg (dA t0 t1 t2 t3 a)))]=some (ZkU r):=by
 show ZO _ (fun r rhs=>rhs=some (ZkU r)) _
 unfold Zej
 rw[ZaY ctx 55 ZA4 _ rfl rfl]
 conv=>arg 3;whnf
 refine Zn (ZI _ _) ?_;conv=>arg 3;whnf
 refine Zp _ ZbW rfl fun x0 hx0=>?_;conv=>arg 3;whnf
 refine Zf rfl ?_ ?_<;>conv=>arg 3;whnf
 ·refine Zn (ZI _ _) ?_;conv=>arg 3;whnf
  refine Zf rfl ?_ ?_<;>conv=>arg 3;whnf
  ·exact Zd rfl
  ·refine Zn (ZI _ _) ?_;conv=>arg 3;whnf
   refine Zf rfl ?_ ?_<;>conv=>arg 3;whnf
   ·exact Zd rfl
   ·refine Zn (ZI _ _) ?_;conv=>arg 3;whnf
    refine Zf rfl ?_ ?_<;>conv=>arg 3;whnf
    ·exact Zd rfl
    ·refine Zp _ Zr0 rfl fun x1 hx1=>?_;conv=>arg 3;whnf
     refine Zf rfl ?_ ?_<;>conv=>arg 3;whnf
     ·refine Zf rfl ?_ ?_<;>conv=>arg 3;whnf
      ·exact Zd rfl
      ·refine Zp _ ZbW rfl fun x2 hx2=>?_;conv=>arg 3;whnf
       refine Zf rfl ?_ ?_<;>conv=>arg 3;whnf
       ·refine Zp _ Zek rfl fun x3 hx3=>?_;conv=>arg 3;whnf
        refine Zf rfl ?_ ?_<;>conv=>arg 3;whnf
        ·exact Zd rfl
        ·refine Zn (ZI _ _) ?_;conv=>arg 3;whnf
         refine Zc _ (ZlS _) fun r8 hr8=>?_
         clear hr8
         rcases r8 with r8 | r8
         ·conv=>arg 3;whnf
          exact Zd rfl
         ·conv=>arg 3;whnf
          refine Zn (ZI _ _) ?_;conv=>arg 3;whnf
          refine Zc _ (Zmb _) fun r15 hr15=>?_
          clear hr15
          rcases r15 with r15 | r15
          ·conv=>arg 3;whnf
           exact Zd rfl
          ·conv=>arg 3;whnf
           refine Zn (ZI _ _) ?_;conv=>arg 3;whnf
           refine Zc _ (Zl6 _) fun r21 hr21=>?_
           clear hr21
           rcases r21 with r21 | r21
           ·conv=>arg 3;whnf
            exact Zd rfl
           ·conv=>arg 3;whnf
            exact Zd rfl
       ·exact Zd rfl
     ·exact Zd rfl
 ·exact Zd rfl
def ZkJ (r:(ZC×Int)):D:=(D.tup [(D.agg [(D.list true (List.map Zb r.1.work)),(D.list true (List.map Zb r.1.vals))]),(Zb r.2)])
theorem Zow {t0:Bool}{t1:Bool}{t2:Bool}{t3:Bool}{a:Zh}:∀r,(Zgl a)=some r→evD ctx 35 [(.d (D.agg (dA t0 t1 t2 t3 a)))]=some (ZkJ r):=by
 show ZO _ (fun r rhs=>rhs=some (ZkJ r)) _
 unfold Zgl
 rw[ZaY ctx 35 ZBv _ rfl rfl]
 conv=>arg 3;whnf
 refine Zp _ ZfY rfl fun x0 hx0=>?_;conv=>arg 3;whnf
 refine Zf rfl ?_ ?_<;>conv=>arg 3;whnf
 ·exact Zd rfl
 ·refine Zn (ZI _ _) ?_;conv=>arg 3;whnf
  refine Zf rfl ?_ ?_
  ·conv=>arg 3;whnf
   refine Zn (ZmO Zb (0:Int) (a.parts.length:Int)) ?_;conv=>arg 3;whnf
   refine Zn (ZI _ _) ?_;conv=>arg 3;whnf
   refine Zf rfl ?_ ?_
   ·conv=>arg 3;whnf
    refine Zn (ZmO Zb (0:Int) (a.parts.length:Int)) ?_;conv=>arg 3;whnf
    exact Zd rfl
   ·exact Z5
  ·exact Z5
def Zkc (r:Bool):D:=(D.bool r)
theorem ZdI {t0:Bool}{t1:Bool}{t2:Bool}{t3:Bool}{t4:Bool}{t5:Bool}{a:Zh}{b:ZC}{c:Int}:∀r,(Zca a b c)=some r→evD ctx 46 [(.d (D.agg (dA t0 t1 t2 t3 a))),(.d (D.agg [(D.list t4 (List.map Zb b.work)),(D.list t5 (List.map Zb b.vals))])),(.d (Zb c))]=some (Zkc r):=by
 show ZO _ (fun r rhs=>rhs=some (Zkc r)) _
 unfold Zca
 rw[ZaY ctx 46 ZBn _ rfl rfl]
 conv=>arg 3;whnf
 refine Zl rfl rfl fun x0 hx0=>?_;conv=>arg 3;whnf
 refine Zl rfl rfl fun x1 hx1=>?_;conv=>arg 3;whnf
 refine Zf rfl ?_ ?_<;>conv=>arg 3;whnf
 ·exact Zd rfl
 ·exact Zd rfl
def Ziy (r:Bool):D:=(D.bool r)
def Zhf (t0:Bool) (t1:Bool) (t2:Bool) (t3:Bool) (t4:Bool) (t5:Bool) (a:Zh) (b:ZC) (c:Int):(Unit⊕Unit)→Ex×List V×Zo
  | (.inl r)=>(.ret,[(.d (Zb c)),(.ptr 0 0),(.ptr 1 0),(.d (D.bool false))],[(.cells (dV t0 t1 t2 t3 a)),(.cells [(.d (D.list t4 (List.map Zb b.work))),(.d (D.list t5 (List.map Zb b.vals)))])])
  | (.inr r)=>(.exit 0,[(.d (Zb c)),(.ptr 0 0),(.ptr 1 0),.bad],[(.cells (dV t0 t1 t2 t3 a)),(.cells [(.d (D.list t4 (List.map Zb b.work))),(.d (D.list t5 (List.map Zb b.vals)))])])
theorem Zkk {t0:Bool}{t1:Bool}{t2:Bool}{t3:Bool}{t4:Bool}{t5:Bool}{a:Zh}{b:ZC}{c:Int}:∀(s0:Int) (r:(Unit⊕Unit)),lp (ZcS a b c) s0=some r→lpW ctx 0 [2,3,4,14,15,16] [2,3,4,6] ZwJ [(.d (Zb c)),(.ptr 0 0),(.ptr 1 0),(.d (D.list t1 (List.map ZF a.edges))),(.d (Zb (a.edges.length:Int))),(.d (Zb s0))] [(.cells (dV t0 t1 t2 t3 a)),(.cells [(.d (D.list t4 (List.map Zb b.work))),(.d (D.list t5 (List.map Zb b.vals)))])]=some ((Zhf t0 t1 t2 t3 t4 t5 a b c) r):=by
 refine ZaM (Zhf t0 t1 t2 t3 t4 t5 a b c) ?_
 intro s0 rcl ih
 show ZO _ _ (lpW _ _ _ _ _ _ _)
 unfold ZcS
 rw[ZaN]
 conv=>arg 3;whnf
 refine Zf rfl ?_ ?_<;>conv=>arg 3;whnf
 ·refine Zl rfl rfl fun x1 hx1=>?_;conv=>arg 3;whnf
  refine Zf rfl ?_ ?_<;>conv=>arg 3;whnf
  ·refine Zp _ ZdI rfl fun x2 hx2=>?_;conv=>arg 3;whnf
   refine Zf rfl ?_ ?_<;>conv=>arg 3;whnf
   ·exact Ze (ih _)
   ·exact Zd rfl
  ·exact Ze (ih _)
 ·exact Zd rfl
def Zg7 (t0:Bool) (t1:Bool) (t2:Bool) (t3:Bool) (t4:Bool) (t5:Bool) (a:Zh) (b:ZC) (c:Int) (s4:Int) (x5:Zr):(Unit⊕Unit)→Ex×List V×Zo
  | (.inl r)=>(.ret,[(.d (Zb c)),(.ptr 0 0),(.ptr 1 0),(.d (D.bool false)),(.d (D.list t3 (List.map Zv a.barriers))),(.d (Zb (a.barriers.length:Int))),(.d (Zb s4))],[(.cells (dV t0 t1 t2 t3 a)),(.cells [(.d (D.list t4 (List.map Zb b.work))),(.d (D.list t5 (List.map Zb b.vals)))])])
  | (.inr r)=>(.exit 4,[(.d (Zb c)),(.ptr 0 0),(.ptr 1 0),.bad,(.d (D.list t3 (List.map Zv a.barriers))),(.d (Zb (a.barriers.length:Int))),(.d (Zb s4))],[(.cells (dV t0 t1 t2 t3 a)),(.cells [(.d (D.list t4 (List.map Zb b.work))),(.d (D.list t5 (List.map Zb b.vals)))])])
theorem Zkl {t0:Bool}{t1:Bool}{t2:Bool}{t3:Bool}{t4:Bool}{t5:Bool}{a:Zh}{b:ZC}{c:Int}{s4:Int}{x5:Zr}:∀(s7:Int) (r:(Unit⊕Unit)),lp (Zcj a b x5) s7=some r→lpW ctx 0 [2,3,4,34,35,36,46,47,48] [2,3,4,6,34,35,36] ZyD [(.d (Zb c)),(.ptr 0 0),(.ptr 1 0),(.d (D.list t3 (List.map Zv a.barriers))),(.d (Zb (a.barriers.length:Int))),(.d (Zb s4)),(.d (D.list true (List.map Zb x5.ins))),(.d (Zb (x5.ins.length:Int))),(.d (Zb s7))] [(.cells (dV t0 t1 t2 t3 a)),(.cells [(.d (D.list t4 (List.map Zb b.work))),(.d (D.list t5 (List.map Zb b.vals)))])]=some ((Zg7 t0 t1 t2 t3 t4 t5 a b c s4 x5) r):=by
 refine ZaM (Zg7 t0 t1 t2 t3 t4 t5 a b c s4 x5) ?_
 intro s7 rcl ih
 show ZO _ _ (lpW _ _ _ _ _ _ _)
 unfold Zcj
 rw[ZaN]
 conv=>arg 3;whnf
 refine Zf rfl ?_ ?_<;>conv=>arg 3;whnf
 ·refine Zl rfl rfl fun x8 hx8=>?_;conv=>arg 3;whnf
  refine Zp _ ZdI rfl fun x9 hx9=>?_;conv=>arg 3;whnf
  refine Zf rfl ?_ ?_<;>conv=>arg 3;whnf
  ·exact Ze (ih _)
  ·exact Zd rfl
 ·exact Zd rfl
def ZgZ (t0:Bool) (t1:Bool) (t2:Bool) (t3:Bool) (t4:Bool) (t5:Bool) (a:Zh) (b:ZC) (c:Int):(Unit⊕Unit)→Ex×List V×Zo
  | (.inl r)=>(.ret,[(.d (D.bool false))],[])
  | (.inr r)=>(.exit 2,[.bad],[])
theorem Zkh {t0:Bool}{t1:Bool}{t2:Bool}{t3:Bool}{t4:Bool}{t5:Bool}{a:Zh}{b:ZC}{c:Int}:∀(s4:Int) (r:(Unit⊕Unit)),lp (ZcO a b c) s4=some r→lpW ctx 0 [2,3,4,34,35,36] [6] Zys [(.d (Zb c)),(.ptr 0 0),(.ptr 1 0),(.d (D.list t3 (List.map Zv a.barriers))),(.d (Zb (a.barriers.length:Int))),(.d (Zb s4))] [(.cells (dV t0 t1 t2 t3 a)),(.cells [(.d (D.list t4 (List.map Zb b.work))),(.d (D.list t5 (List.map Zb b.vals)))])]=some ((ZgZ t0 t1 t2 t3 t4 t5 a b c) r):=by
 refine ZaM (ZgZ t0 t1 t2 t3 t4 t5 a b c) ?_
 intro s4 rcl ih
 show ZO _ _ (lpW _ _ _ _ _ _ _)
 unfold ZcO
 rw[ZaN]
 conv=>arg 3;whnf
 refine Zf rfl ?_ ?_<;>conv=>arg 3;whnf
 ·refine Zl rfl rfl fun x5 hx5=>?_;conv=>arg 3;whnf
  refine Zp _ Zez rfl fun x6 hx6=>?_;conv=>arg 3;whnf
  refine Zf rfl ?_ ?_<;>conv=>arg 3;whnf
  ·refine Zn (ZI _ _) ?_;conv=>arg 3;whnf
   refine Zc _ (Zkl _) fun r10 hr10=>?_
   clear hr10
   rcases r10 with r10 | r10
   ·conv=>arg 3;whnf
    exact Zd rfl
   ·conv=>arg 3;whnf
    exact Ze (ih _)
  ·exact Ze (ih _)
 ·exact Zd rfl
theorem ZlW {t0:Bool}{t1:Bool}{t2:Bool}{t3:Bool}{t4:Bool}{t5:Bool}{a:Zh}{b:ZC}{c:Int}:∀r,(ZeU a b c)=some r→evD ctx 78 [(.d (D.agg (dA t0 t1 t2 t3 a))),(.d (D.agg [(D.list t4 (List.map Zb b.work)),(D.list t5 (List.map Zb b.vals))])),(.d (Zb c))]=some (Ziy r):=by
 show ZO _ (fun r rhs=>rhs=some (Ziy r)) _
 unfold ZeU
 rw[ZaY ctx 78 ZBQ _ rfl rfl]
 conv=>arg 3;whnf
 refine Zn (ZI _ _) ?_;conv=>arg 3;whnf
 refine Zc _ (Zkk _) fun r3 hr3=>?_
 clear hr3
 rcases r3 with r3 | r3
 ·conv=>arg 3;whnf
  exact Zd rfl
 ·conv=>arg 3;whnf
  refine Zn (ZI _ _) ?_;conv=>arg 3;whnf
  refine Zc _ (Zkh _) fun r11 hr11=>?_
  clear hr11
  rcases r11 with r11 | r11
  ·conv=>arg 3;whnf
   exact Zd rfl
  ·conv=>arg 3;whnf
   exact Zd rfl
def Zj8 (r:Bool):D:=(D.bool r)
def Zid (t0:Bool) (t1:Bool) (t2:Bool) (t3:Bool) (t4:Bool) (t5:Bool) (a:Zh) (b:ZC) (c:Int):(Unit⊕Unit)→Ex×List V×Zo
  | (.inl r)=>(.exit 0,[(.d (D.bool true))],[])
  | (.inr r)=>(.exit 0,[(.d (D.bool false))],[])
theorem Zhm {t0:Bool}{t1:Bool}{t2:Bool}{t3:Bool}{t4:Bool}{t5:Bool}{a:Zh}{b:ZC}{c:Int}:∀(s3:Int) (r:(Unit⊕Unit)),lp (Zck a b c) s3=some r→lpW ctx 0 [2,3,4,7,30,31,32] [7] ZyN [(.d (Zb c)),(.ptr 0 0),(.ptr 1 0),(.d (D.bool true)),(.d (D.list t2 (List.map Zq a.futures))),(.d (Zb (a.futures.length:Int))),(.d (Zb s3))] [(.cells (dV t0 t1 t2 t3 a)),(.cells [(.d (D.list t4 (List.map Zb b.work))),(.d (D.list t5 (List.map Zb b.vals)))])]=some ((Zid t0 t1 t2 t3 t4 t5 a b c) r):=by
 refine ZaM (Zid t0 t1 t2 t3 t4 t5 a b c) ?_
 intro s3 rcl ih
 show ZO _ _ (lpW _ _ _ _ _ _ _)
 unfold Zck
 rw[ZaN]
 conv=>arg 3;whnf
 refine Zf rfl ?_ ?_<;>conv=>arg 3;whnf
 ·refine Zl rfl rfl fun x4 hx4=>?_;conv=>arg 3;whnf
  refine Zf rfl ?_ ?_<;>conv=>arg 3;whnf
  ·refine Zl rfl rfl fun x5 hx5=>?_;conv=>arg 3;whnf
   refine Zf rfl ?_ ?_<;>conv=>arg 3;whnf
   ·refine Zp _ ZdI rfl fun x6 hx6=>?_;conv=>arg 3;whnf
    refine Zf rfl ?_ ?_<;>conv=>arg 3;whnf
    ·exact Zd rfl
    ·exact Zd rfl
   ·exact Ze (ih _)
  ·exact Ze (ih _)
 ·exact Zd rfl
theorem ZnK {t0:Bool}{t1:Bool}{t2:Bool}{t3:Bool}{t4:Bool}{t5:Bool}{a:Zh}{b:ZC}{c:Int}:∀r,(ZfN a b c)=some r→evD ctx 47 [(.d (D.agg (dA t0 t1 t2 t3 a))),(.d (D.agg [(D.list t4 (List.map Zb b.work)),(D.list t5 (List.map Zb b.vals))])),(.d (Zb c))]=some (Zj8 r):=by
 show ZO _ (fun r rhs=>rhs=some (Zj8 r)) _
 unfold ZfN
 rw[ZaY ctx 47 ZAP _ rfl rfl]
 conv=>arg 3;whnf
 refine Zp _ ZdI rfl fun x0 hx0=>?_;conv=>arg 3;whnf
 refine Zf rfl ?_ ?_<;>conv=>arg 3;whnf
 ·exact Zd rfl
 ·refine Zl rfl rfl fun x1 hx1=>?_;conv=>arg 3;whnf
  refine Zf rfl ?_ ?_<;>conv=>arg 3;whnf
  ·refine Zp _ ZlW rfl fun x2 hx2=>?_;conv=>arg 3;whnf
   refine Zf rfl ?_ ?_<;>conv=>arg 3;whnf
   ·refine Zn (ZI _ _) ?_;conv=>arg 3;whnf
    refine Zc _ (Zhm _) fun r7 hr7=>?_
    clear hr7
    rcases r7 with r7 | r7
    ·conv=>arg 3;whnf
     exact Zd rfl
    ·conv=>arg 3;whnf
     exact Zd rfl
   ·exact Zd rfl
  ·refine Zn (ZI _ _) ?_;conv=>arg 3;whnf
   refine Zc _ (Zhm _) fun r12 hr12=>?_
   clear hr12
   rcases r12 with r12 | r12
   ·conv=>arg 3;whnf
    exact Zd rfl
   ·conv=>arg 3;whnf
    exact Zd rfl
def ZkT (r:(List Int)):D:=(D.list true (List.map Zb r))
def Zir (t0:Bool) (t1:Bool) (t2:Bool) (t3:Bool) (t4:Bool) (t5:Bool) (a:Zh) (b:ZC):(List Int)→Ex×List V×Zo
  | r=>(.exit 0,[(.sl 0 1)],[(.arr 1 (List.map Zb r))])
theorem ZlQ {t0:Bool}{t1:Bool}{t2:Bool}{t3:Bool}{t4:Bool}{t5:Bool}{a:Zh}{b:ZC}:∀(s0:Int×(List Int)) (r:(List Int)),lp (Zd9 a b) s0=some r→lpW ctx 0 [2,3,5,9,10] [5] ZwK [(.ptr 0 0),(.ptr 1 0),(.sl 2 1),(.d (Zb (a.parts.length:Int))),(.d (Zb s0.1))] [(.cells (dV t0 t1 t2 t3 a)),(.cells [(.d (D.list t4 (List.map Zb b.work))),(.d (D.list t5 (List.map Zb b.vals)))]),(.arr 1 (List.map Zb s0.2))]=some ((Zir t0 t1 t2 t3 t4 t5 a b) r):=by
 refine ZaM (Zir t0 t1 t2 t3 t4 t5 a b) ?_
 intro s0 rcl ih
 show ZO _ _ (lpW _ _ _ _ _ _ _)
 unfold Zd9
 rw[ZaN]
 conv=>arg 3;whnf
 refine Zf rfl ?_ ?_<;>conv=>arg 3;whnf
 ·refine Zp _ ZnK rfl fun x1 hx1=>?_;conv=>arg 3;whnf
  refine Zf rfl ?_ ?_<;>conv=>arg 3;whnf
  ·refine ZbH rfl ?_;conv=>arg 3;whnf
   refine Zf (Zgn Zb s0.2 1) ?_ ?_
   ·conv=>arg 3;whnf
    refine Zn (Zgj Zb s0.2 [s0.1]) ?_;conv=>arg 3;whnf
    exact Ze (ih _)
   ·exact Z5
  ·exact Ze (ih _)
 ·exact Zd rfl
theorem Zj4 {t0:Bool}{t1:Bool}{t2:Bool}{t3:Bool}{t4:Bool}{t5:Bool}{a:Zh}{b:ZC}:∀r,(Zfy a b)=some r→evD ctx 54 [(.d (D.agg (dA t0 t1 t2 t3 a))),(.d (D.agg [(D.list t4 (List.map Zb b.work)),(D.list t5 (List.map Zb b.vals))]))]=some (ZkT r):=by
 show ZO _ (fun r rhs=>rhs=some (ZkT r)) _
 unfold Zfy
 rw[ZaY ctx 54 ZBb _ rfl rfl]
 conv=>arg 3;whnf
 refine Zn (ZI _ _) ?_;conv=>arg 3;whnf
 refine Zc _ (ZlQ _) fun r2 hr2=>?_;conv=>arg 3;whnf
 exact Zd rfl
def Zfm (t0:Bool) (a:(List Int)):Unit→V×Zo
  | r=>((.sl 0 1),[(.arr 1 (List.map Zb a))])
theorem Zdx {t0:Bool}{a:(List Int)}:∀r,(Za6 a)=some r→evW ctx 74 [(.d (D.list t0 (List.map Zb a)))] []=some ((Zfm t0 a) r):=by
 show ZO _ (fun r rhs=>rhs=some ((Zfm t0 a) r)) _
 unfold Za6
 rw[ZfE ctx 74 ZBq _ _ rfl rfl]
 conv=>arg 3;whnf
 refine Zf (ZuY Zb a) ?_ ?_
 ·conv=>arg 3;whnf
  refine ZbH (Zgs (f:=Zb) (fun _=>⟨rfl,rfl⟩) a 0) ?_;conv=>arg 3;whnf
  refine Zf (Zgq Zb a) ?_ ?_
  ·conv=>arg 3;whnf
   refine Zn (rfl:_=List.map Zb a) ?_;conv=>arg 3;whnf
   exact Zd rfl
  ·exact Z5
 ·exact Z5
def ZhW (r:Int):D:=(Zb r)
theorem ZG {t0:Bool}{t1:Bool}{t2:Bool}{t3:Bool}{a:Int}{b:Int}{c0:Int}{c1:Int}{c2:(List ZV)}{c3:(List Zm)}{c4:(List Zj)}{c5:(List Zr)}:∀r,(Zt a b c4)=some r→evD ctx 118 [(.d (Zb a)),(.d (Zb b)),(.d (D.rptr [(Zb c0),(Zb c1),(D.list t0 (List.map Z1 c2)),(D.list t1 (List.map ZF c3)),(D.list t2 (List.map Zq c4)),(D.list t3 (List.map Zv c5))]))]=some (ZhW r):=by
 show ZO _ (fun r rhs=>rhs=some (ZhW r)) _
 unfold Zt
 rw[ZaY ctx 118 Zx6 _ rfl rfl]
 conv=>arg 3;whnf
 refine Zl rfl rfl fun x0 hx0=>?_;conv=>arg 3;whnf
 refine Zl rfl rfl fun x1 hx1=>?_;conv=>arg 3;whnf
 exact Zd rfl
def Zhq (r:Int):D:=(Zb r)
theorem Zkq {a:Int}:∀r,(Zgu a)=some r→evD ctx 135 [(.d (D.int .u64 a))]=some (Zhq r):=by
 show ZO _ (fun r rhs=>rhs=some (Zhq r)) _
 unfold Zgu
 rw[ZaY ctx 135 Zxf _ rfl rfl]
 conv=>arg 3;whnf
 refine Zf rfl ?_ ?_<;>conv=>arg 3;whnf
 ·refine Zal rfl ?_;conv=>arg 3;whnf
  refine Zf rfl ?_ ?_<;>conv=>arg 3;whnf
  ·refine Zal rfl ?_;conv=>arg 3;whnf
   refine Zf rfl ?_ ?_<;>conv=>arg 3;whnf
   ·refine Zal rfl ?_;conv=>arg 3;whnf
    refine Zf rfl ?_ ?_
    ·conv=>arg 3;whnf
     refine ZgV rfl fun x0 hx0=>?_;conv=>arg 3;whnf
     exact Zd rfl
    ·exact Z5
   ·refine Zf rfl ?_ ?_
    ·conv=>arg 3;whnf
     refine ZgV rfl fun x1 hx1=>?_;conv=>arg 3;whnf
     exact Zd rfl
    ·exact Z5
  ·refine Zf rfl ?_ ?_<;>conv=>arg 3;whnf
   ·refine Zal rfl ?_;conv=>arg 3;whnf
    refine Zf rfl ?_ ?_
    ·conv=>arg 3;whnf
     refine ZgV rfl fun x2 hx2=>?_;conv=>arg 3;whnf
     exact Zd rfl
    ·exact Z5
   ·refine Zf rfl ?_ ?_
    ·conv=>arg 3;whnf
     refine ZgV rfl fun x3 hx3=>?_;conv=>arg 3;whnf
     exact Zd rfl
    ·exact Z5
 ·refine Zf rfl ?_ ?_<;>conv=>arg 3;whnf
  ·refine Zal rfl ?_;conv=>arg 3;whnf
   refine Zf rfl ?_ ?_<;>conv=>arg 3;whnf
   ·refine Zal rfl ?_;conv=>arg 3;whnf
    refine Zf rfl ?_ ?_
    ·conv=>arg 3;whnf
     refine ZgV rfl fun x4 hx4=>?_;conv=>arg 3;whnf
     exact Zd rfl
    ·exact Z5
   ·refine Zf rfl ?_ ?_
    ·conv=>arg 3;whnf
     refine ZgV rfl fun x5 hx5=>?_;conv=>arg 3;whnf
     exact Zd rfl
    ·exact Z5
  ·refine Zf rfl ?_ ?_<;>conv=>arg 3;whnf
   ·refine Zal rfl ?_;conv=>arg 3;whnf
    refine Zf rfl ?_ ?_
    ·conv=>arg 3;whnf
     refine ZgV rfl fun x6 hx6=>?_;conv=>arg 3;whnf
     exact Zd rfl
    ·exact Z5
   ·refine Zf rfl ?_ ?_
    ·conv=>arg 3;whnf
     refine ZgV rfl fun x7 hx7=>?_;conv=>arg 3;whnf
     exact Zd rfl
    ·exact Z5
def Zin (r:Int):D:=(Zb r)
theorem Zh7 {a:Int}:∀r,(Zea a)=some r→evD ctx 125 [(.d (D.int .u64 a))]=some (Zin r):=by
 show ZO _ (fun r rhs=>rhs=some (Zin r)) _
 unfold Zea
 rw[ZaY ctx 125 ZxM _ rfl rfl]
 conv=>arg 3;whnf
 refine Zp _ Zkq rfl fun x0 hx0=>?_;conv=>arg 3;whnf
 exact Zd rfl
def ZbE (t0:Bool) (t1:Bool) (t2:Bool) (t3:Bool) (b:Int) (c:Int) (m0_0:(List Int)) (m1_0:Int) (m1_1:Int) (m1_2:(List ZV)) (m1_3:(List Zm)) (m1_4:(List Zj)) (m1_5:(List Zr)):(List Int)→V×Zo
  | r=>((.d (D.tup [])),[(.arr 1 (List.map Zb r)),(.cells [(.d (Zb m1_0)),(.d (Zb m1_1)),(.d (D.list t0 (List.map Z1 m1_2))),(.d (D.list t1 (List.map ZF m1_3))),(.d (D.list t2 (List.map Zq m1_4))),(.d (D.list t3 (List.map Zv m1_5)))])])
def Zbm (t0:Bool) (t1:Bool) (t2:Bool) (t3:Bool) (b:Int) (c:Int) (m1_0:Int) (m1_1:Int) (m1_2:(List ZV)) (m1_3:(List Zm)) (m1_4:(List Zj)) (m1_5:(List Zr)) (s0:Int×(List Int)):(List Int)→Ex×List V×Zo
  | r=>(.exit 2,[(.sl 0 1),(.d (Zb b)),(.d (Zb c)),(.fn 118 [(.ptr 1 0)]),(.d (Zb s0.1))],[(.arr 1 (List.map Zb r)),(.cells [(.d (Zb m1_0)),(.d (Zb m1_1)),(.d (D.list t0 (List.map Z1 m1_2))),(.d (D.list t1 (List.map ZF m1_3))),(.d (D.list t2 (List.map Zq m1_4))),(.d (D.list t3 (List.map Zv m1_5)))])])
theorem Zc4 {t0:Bool}{t1:Bool}{t2:Bool}{t3:Bool}{b:Int}{c:Int}{m1_0:Int}{m1_1:Int}{m1_2:(List ZV)}{m1_3:(List Zm)}{m1_4:(List Zj)}{m1_5:(List Zr)}{s0:Int×(List Int)}:∀(s1:Int×(List Int)) (r:(List Int)),lp (ZY b (fun z0 z1=>Zt z0 z1 m1_4)) s1=some r→lpW ctx 2 [0,1,2,3,8,9] [0,1,2,3,8] Zu3 [(.sl 0 1),(.d (Zb b)),(.d (Zb c)),(.fn 118 [(.ptr 1 0)]),(.d (Zb s0.1)),(.d (Zb s1.1))] [(.arr 1 (List.map Zb s1.2)),(.cells [(.d (Zb m1_0)),(.d (Zb m1_1)),(.d (D.list t0 (List.map Z1 m1_2))),(.d (D.list t1 (List.map ZF m1_3))),(.d (D.list t2 (List.map Zq m1_4))),(.d (D.list t3 (List.map Zv m1_5)))])]=some ((Zbm t0 t1 t2 t3 b c m1_0 m1_1 m1_2 m1_3 m1_4 m1_5 s0) r):=by
 refine ZaM (Zbm t0 t1 t2 t3 b c m1_0 m1_1 m1_2 m1_3 m1_4 m1_5 s0) ?_
 intro s1 rcl ih
 show ZO _ _ (lpW _ _ _ _ _ _ _)
 unfold ZY
 rw[ZaN]
 conv=>arg 3;whnf
 refine Zf rfl ?_ ?_<;>conv=>arg 3;whnf
 ·refine Zl rfl rfl fun x2 hx2=>?_;conv=>arg 3;whnf
  refine Zg (Zy rfl hx2) ?_;conv=>arg 3;whnf
  refine Zl rfl rfl fun x3 hx3=>?_;conv=>arg 3;whnf
  refine Zg (Zy rfl hx3) ?_;conv=>arg 3;whnf
  refine Zp _ ZG rfl fun x4 hx4=>?_;conv=>arg 3;whnf
  refine Zf rfl ?_ ?_<;>conv=>arg 3;whnf
  ·refine Zg (ZbO rfl hx3) ?_;conv=>arg 3;whnf
   refine Zg (Zy rfl hx3) ?_;conv=>arg 3;whnf
   refine Zg (ZbO rfl hx2) ?_;conv=>arg 3;whnf
   refine Zg (Zy rfl hx2) ?_;conv=>arg 3;whnf
   refine Zg (ZbO rfl hx2) ?_;conv=>arg 3;whnf
   refine Zg (Zy rfl hx2) ?_;conv=>arg 3;whnf
   refine Zn (Zax Zb s1.2 s1.1.toNat x3) ?_;conv=>arg 3;whnf
   refine Zl rfl rfl fun x5 hx5=>?_;conv=>arg 3;whnf
   refine Zg (Zy rfl hx5) ?_;conv=>arg 3;whnf
   refine Zn (Zax Zb (List.set s1.2 s1.1.toNat x3) (w64 (s1.1-1)).toNat x2) ?_;conv=>arg 3;whnf
   exact Ze (ih _)
  ·exact Zd rfl
 ·exact Zd rfl
def Zbo (t0:Bool) (t1:Bool) (t2:Bool) (t3:Bool) (b:Int) (c:Int) (m1_0:Int) (m1_1:Int) (m1_2:(List ZV)) (m1_3:(List Zm)) (m1_4:(List Zj)) (m1_5:(List Zr)):(List Int)→Ex×List V×Zo
  | r=>(.exit 0,[],[(.arr 1 (List.map Zb r)),(.cells [(.d (Zb m1_0)),(.d (Zb m1_1)),(.d (D.list t0 (List.map Z1 m1_2))),(.d (D.list t1 (List.map ZF m1_3))),(.d (D.list t2 (List.map Zq m1_4))),(.d (D.list t3 (List.map Zv m1_5)))])])
theorem Zc5 {t0:Bool}{t1:Bool}{t2:Bool}{t3:Bool}{b:Int}{c:Int}{m1_0:Int}{m1_1:Int}{m1_2:(List ZV)}{m1_3:(List Zm)}{m1_4:(List Zj)}{m1_5:(List Zr)}:∀(s0:Int×(List Int)) (r:(List Int)),lp (Zak b c (fun z0 z1=>Zt z0 z1 m1_4)) s0=some r→lpW ctx 2 [0,1,2,3,8] [] Zu1 [(.sl 0 1),(.d (Zb b)),(.d (Zb c)),(.fn 118 [(.ptr 1 0)]),(.d (Zb s0.1))] [(.arr 1 (List.map Zb s0.2)),(.cells [(.d (Zb m1_0)),(.d (Zb m1_1)),(.d (D.list t0 (List.map Z1 m1_2))),(.d (D.list t1 (List.map ZF m1_3))),(.d (D.list t2 (List.map Zq m1_4))),(.d (D.list t3 (List.map Zv m1_5)))])]=some ((Zbo t0 t1 t2 t3 b c m1_0 m1_1 m1_2 m1_3 m1_4 m1_5) r):=by
 refine ZaM (Zbo t0 t1 t2 t3 b c m1_0 m1_1 m1_2 m1_3 m1_4 m1_5) ?_
 intro s0 rcl ih
 show ZO _ _ (lpW _ _ _ _ _ _ _)
 unfold Zak
 rw[ZaN]
 conv=>arg 3;whnf
 refine Zf rfl ?_ ?_<;>conv=>arg 3;whnf
 ·refine Zc _ (Zc4 _) fun r6 hr6=>?_;conv=>arg 3;whnf
  exact Ze (ih _)
 ·exact Zd rfl
theorem Zaa {t0:Bool}{t1:Bool}{t2:Bool}{t3:Bool}{b:Int}{c:Int}{m0_0:(List Int)}{m1_0:Int}{m1_1:Int}{m1_2:(List ZV)}{m1_3:(List Zm)}{m1_4:(List Zj)}{m1_5:(List Zr)}:∀r,(ZX b c (fun z0 z1=>Zt z0 z1 m1_4) m0_0)=some r→evW ctx 126 [(.sl 0 1),(.d (Zb b)),(.d (Zb c)),(.fn 118 [(.ptr 1 0)])] [(.arr 1 (List.map Zb m0_0)),(.cells [(.d (Zb m1_0)),(.d (Zb m1_1)),(.d (D.list t0 (List.map Z1 m1_2))),(.d (D.list t1 (List.map ZF m1_3))),(.d (D.list t2 (List.map Zq m1_4))),(.d (D.list t3 (List.map Zv m1_5)))])]=some ((ZbE t0 t1 t2 t3 b c m0_0 m1_0 m1_1 m1_2 m1_3 m1_4 m1_5) r):=by
 show ZO _ (fun r rhs=>rhs=some ((ZbE t0 t1 t2 t3 b c m0_0 m1_0 m1_1 m1_2 m1_3 m1_4 m1_5) r)) _
 unfold ZX
 rw[ZfE ctx 126 Zx4 _ _ rfl rfl]
 conv=>arg 3;whnf
 refine Zc _ (Zc5 _) fun r7 hr7=>?_;conv=>arg 3;whnf
 exact Zd rfl
def Zcf (t0:Bool) (t1:Bool) (t2:Bool) (t3:Bool) (b:Int) (c:Int) (d:Int) (m0_0:(List Int)) (m1_0:Int) (m1_1:Int) (m1_2:(List ZV)) (m1_3:(List Zm)) (m1_4:(List Zj)) (m1_5:(List Zr)):(List Int)→V×Zo
  | r=>((.d (D.tup [])),[(.arr 1 (List.map Zb r)),(.cells [(.d (Zb m1_0)),(.d (Zb m1_1)),(.d (D.list t0 (List.map Z1 m1_2))),(.d (D.list t1 (List.map ZF m1_3))),(.d (D.list t2 (List.map Zq m1_4))),(.d (D.list t3 (List.map Zv m1_5)))])])
def ZbT (t0:Bool) (t1:Bool) (t2:Bool) (t3:Bool) (c:Int) (d:Int) (m1_0:Int) (m1_1:Int) (m1_2:(List ZV)) (m1_3:(List Zm)) (m1_4:(List Zj)) (m1_5:(List Zr)):((List Int)⊕(List Int))→Ex×List V×Zo
  | (.inl r)=>(.exit 0,[],[(.arr 1 (List.map Zb r)),(.cells [(.d (Zb m1_0)),(.d (Zb m1_1)),(.d (D.list t0 (List.map Z1 m1_2))),(.d (D.list t1 (List.map ZF m1_3))),(.d (D.list t2 (List.map Zq m1_4))),(.d (D.list t3 (List.map Zv m1_5)))])])
  | (.inr r)=>(.ret,[],[(.arr 1 (List.map Zb r)),(.cells [(.d (Zb m1_0)),(.d (Zb m1_1)),(.d (D.list t0 (List.map Z1 m1_2))),(.d (D.list t1 (List.map ZF m1_3))),(.d (D.list t2 (List.map Zq m1_4))),(.d (D.list t3 (List.map Zv m1_5)))])])
theorem ZdO {t0:Bool}{t1:Bool}{t2:Bool}{t3:Bool}{c:Int}{d:Int}{m1_0:Int}{m1_1:Int}{m1_2:(List ZV)}{m1_3:(List Zm)}{m1_4:(List Zj)}{m1_5:(List Zr)}:∀(s0:Int×(List Int)) (r:((List Int)⊕(List Int))),lp (ZL c d (fun z0 z1=>Zt z0 z1 m1_4)) s0=some r→lpW ctx 2 [0,2,3,4,10] [] Zvu [(.sl 0 1),(.d (Zb c)),(.d (Zb d)),(.fn 118 [(.ptr 1 0)]),(.d (Zb s0.1))] [(.arr 1 (List.map Zb s0.2)),(.cells [(.d (Zb m1_0)),(.d (Zb m1_1)),(.d (D.list t0 (List.map Z1 m1_2))),(.d (D.list t1 (List.map ZF m1_3))),(.d (D.list t2 (List.map Zq m1_4))),(.d (D.list t3 (List.map Zv m1_5)))])]=some ((ZbT t0 t1 t2 t3 c d m1_0 m1_1 m1_2 m1_3 m1_4 m1_5) r):=by
 refine ZaM (ZbT t0 t1 t2 t3 c d m1_0 m1_1 m1_2 m1_3 m1_4 m1_5) ?_
 intro s0 rcl ih
 show ZO _ _ (lpW _ _ _ _ _ _ _)
 unfold ZL
 rw[ZaN]
 conv=>arg 3;whnf
 refine Zf rfl ?_ ?_<;>conv=>arg 3;whnf
 ·exact Zd rfl
 ·refine Zf rfl ?_ ?_<;>conv=>arg 3;whnf
  ·refine Zl rfl rfl fun x1 hx1=>?_;conv=>arg 3;whnf
   refine Zg (Zy rfl hx1) ?_;conv=>arg 3;whnf
   refine Zl rfl rfl fun x2 hx2=>?_;conv=>arg 3;whnf
   refine Zg (Zy rfl hx2) ?_;conv=>arg 3;whnf
   refine Zp _ ZG rfl fun x3 hx3=>?_;conv=>arg 3;whnf
   refine Zf rfl ?_ ?_<;>conv=>arg 3;whnf
   ·refine Zl rfl rfl fun x4 hx4=>?_;conv=>arg 3;whnf
    refine Zg (Zy rfl hx4) ?_;conv=>arg 3;whnf
    refine Zl rfl rfl fun x5 hx5=>?_;conv=>arg 3;whnf
    refine Zg (Zy rfl hx5) ?_;conv=>arg 3;whnf
    refine Zp _ ZG rfl fun x6 hx6=>?_;conv=>arg 3;whnf
    refine Zf rfl ?_ ?_<;>conv=>arg 3;whnf
    ·refine Zg (ZbO rfl hx5) ?_;conv=>arg 3;whnf
     refine Zg (Zy rfl hx5) ?_;conv=>arg 3;whnf
     refine Zg (ZbO rfl hx4) ?_;conv=>arg 3;whnf
     refine Zg (Zy rfl hx4) ?_;conv=>arg 3;whnf
     refine Zg (ZbO rfl hx4) ?_;conv=>arg 3;whnf
     refine Zg (Zy rfl hx4) ?_;conv=>arg 3;whnf
     refine Zn (Zax Zb s0.2 (w64 (d+s0.1)).toNat x5) ?_;conv=>arg 3;whnf
     refine Zl rfl rfl fun x7 hx7=>?_;conv=>arg 3;whnf
     refine Zg (Zy rfl hx7) ?_;conv=>arg 3;whnf
     refine Zn (Zax Zb (List.set s0.2 (w64 (d+s0.1)).toNat x5) (w64 (d+(w64 ((w64 ((w64 (2*s0.1))+1))+1)))).toNat x4) ?_;conv=>arg 3;whnf
     exact Ze (ih _)
    ·exact Zd rfl
   ·refine Zl rfl rfl fun x8 hx8=>?_;conv=>arg 3;whnf
    refine Zg (Zy rfl hx8) ?_;conv=>arg 3;whnf
    refine Zg (ZbO rfl hx1) ?_;conv=>arg 3;whnf
    refine Zg (Zy rfl hx1) ?_;conv=>arg 3;whnf
    refine Zp _ ZG rfl fun x9 hx9=>?_;conv=>arg 3;whnf
    refine Zf rfl ?_ ?_<;>conv=>arg 3;whnf
    ·refine Zg (ZbO rfl hx1) ?_;conv=>arg 3;whnf
     refine Zg (Zy rfl hx1) ?_;conv=>arg 3;whnf
     refine Zg (ZbO rfl hx8) ?_;conv=>arg 3;whnf
     refine Zg (Zy rfl hx8) ?_;conv=>arg 3;whnf
     refine Zg (ZbO rfl hx8) ?_;conv=>arg 3;whnf
     refine Zg (Zy rfl hx8) ?_;conv=>arg 3;whnf
     refine Zn (Zax Zb s0.2 (w64 (d+s0.1)).toNat x1) ?_;conv=>arg 3;whnf
     refine Zl rfl rfl fun x10 hx10=>?_;conv=>arg 3;whnf
     refine Zg (Zy rfl hx10) ?_;conv=>arg 3;whnf
     refine Zn (Zax Zb (List.set s0.2 (w64 (d+s0.1)).toNat x1) (w64 (d+(w64 ((w64 (2*s0.1))+1)))).toNat x8) ?_;conv=>arg 3;whnf
     exact Ze (ih _)
    ·exact Zd rfl
  ·refine Zl rfl rfl fun x11 hx11=>?_;conv=>arg 3;whnf
   refine Zg (Zy rfl hx11) ?_;conv=>arg 3;whnf
   refine Zl rfl rfl fun x12 hx12=>?_;conv=>arg 3;whnf
   refine Zg (Zy rfl hx12) ?_;conv=>arg 3;whnf
   refine Zp _ ZG rfl fun x13 hx13=>?_;conv=>arg 3;whnf
   refine Zf rfl ?_ ?_<;>conv=>arg 3;whnf
   ·refine Zg (ZbO rfl hx12) ?_;conv=>arg 3;whnf
    refine Zg (Zy rfl hx12) ?_;conv=>arg 3;whnf
    refine Zg (ZbO rfl hx11) ?_;conv=>arg 3;whnf
    refine Zg (Zy rfl hx11) ?_;conv=>arg 3;whnf
    refine Zg (ZbO rfl hx11) ?_;conv=>arg 3;whnf
    refine Zg (Zy rfl hx11) ?_;conv=>arg 3;whnf
    refine Zn (Zax Zb s0.2 (w64 (d+s0.1)).toNat x12) ?_;conv=>arg 3;whnf
    refine Zl rfl rfl fun x14 hx14=>?_;conv=>arg 3;whnf
    refine Zg (Zy rfl hx14) ?_;conv=>arg 3;whnf
    refine Zn (Zax Zb (List.set s0.2 (w64 (d+s0.1)).toNat x12) (w64 (d+(w64 ((w64 (2*s0.1))+1)))).toNat x11) ?_;conv=>arg 3;whnf
    exact Ze (ih _)
   ·exact Zd rfl
theorem Zb2 {t0:Bool}{t1:Bool}{t2:Bool}{t3:Bool}{b:Int}{c:Int}{d:Int}{m0_0:(List Int)}{m1_0:Int}{m1_1:Int}{m1_2:(List ZV)}{m1_3:(List Zm)}{m1_4:(List Zj)}{m1_5:(List Zr)}:∀r,(ZaD b c d (fun z0 z1=>Zt z0 z1 m1_4) m0_0)=some r→evW ctx 136 [(.sl 0 1),(.d (Zb b)),(.d (Zb c)),(.d (Zb d)),(.fn 118 [(.ptr 1 0)])] [(.arr 1 (List.map Zb m0_0)),(.cells [(.d (Zb m1_0)),(.d (Zb m1_1)),(.d (D.list t0 (List.map Z1 m1_2))),(.d (D.list t1 (List.map ZF m1_3))),(.d (D.list t2 (List.map Zq m1_4))),(.d (D.list t3 (List.map Zv m1_5)))])]=some ((Zcf t0 t1 t2 t3 b c d m0_0 m1_0 m1_1 m1_2 m1_3 m1_4 m1_5) r):=by
 show ZO _ (fun r rhs=>rhs=some ((Zcf t0 t1 t2 t3 b c d m0_0 m1_0 m1_1 m1_2 m1_3 m1_4 m1_5) r)) _
 unfold ZaD
 rw[ZfE ctx 136 Zx1 _ _ rfl rfl]
 conv=>arg 3;whnf
 refine Zc _ (ZdO _) fun r15 hr15=>?_
 clear hr15
 rcases r15 with r15 | r15
 ·conv=>arg 3;whnf
  exact Zd rfl
 ·conv=>arg 3;whnf
  exact Zd rfl
def Zce (t0:Bool) (t1:Bool) (t2:Bool) (t3:Bool) (b:Int) (c:Int) (m0_0:(List Int)) (m1_0:Int) (m1_1:Int) (m1_2:(List ZV)) (m1_3:(List Zm)) (m1_4:(List Zj)) (m1_5:(List Zr)):(List Int)→V×Zo
  | r=>((.d (D.tup [])),[(.arr 1 (List.map Zb r)),(.cells [(.d (Zb m1_0)),(.d (Zb m1_1)),(.d (D.list t0 (List.map Z1 m1_2))),(.d (D.list t1 (List.map ZF m1_3))),(.d (D.list t2 (List.map Zq m1_4))),(.d (D.list t3 (List.map Zv m1_5)))])])
def ZbQ (t0:Bool) (t1:Bool) (t2:Bool) (t3:Bool) (b:Int) (c:Int) (m1_0:Int) (m1_1:Int) (m1_2:(List ZV)) (m1_3:(List Zm)) (m1_4:(List Zj)) (m1_5:(List Zr)):(List Int)→Ex×List V×Zo
  | r=>(.exit 0,[(.sl 0 1),(.fn 118 [(.ptr 1 0)]),(.d (Zb b)),(.d (Zb 0)),(.d (Zb (w64 (c-b))))],[(.arr 1 (List.map Zb r)),(.cells [(.d (Zb m1_0)),(.d (Zb m1_1)),(.d (D.list t0 (List.map Z1 m1_2))),(.d (D.list t1 (List.map ZF m1_3))),(.d (D.list t2 (List.map Zq m1_4))),(.d (D.list t3 (List.map Zv m1_5)))])])
theorem ZdS {t0:Bool}{t1:Bool}{t2:Bool}{t3:Bool}{b:Int}{c:Int}{m1_0:Int}{m1_1:Int}{m1_2:(List ZV)}{m1_3:(List Zm)}{m1_4:(List Zj)}{m1_5:(List Zr)}:∀(s0:Int×(List Int)) (r:(List Int)),lp (ZaH b c (fun z0 z1=>Zt z0 z1 m1_4)) s0=some r→lpW ctx 2 [0,3,8,9,10,11] [0,3,8,9,10] Zvr [(.sl 0 1),(.fn 118 [(.ptr 1 0)]),(.d (Zb b)),(.d (Zb 0)),(.d (Zb (w64 (c-b)))),(.d (Zb s0.1))] [(.arr 1 (List.map Zb s0.2)),(.cells [(.d (Zb m1_0)),(.d (Zb m1_1)),(.d (D.list t0 (List.map Z1 m1_2))),(.d (D.list t1 (List.map ZF m1_3))),(.d (D.list t2 (List.map Zq m1_4))),(.d (D.list t3 (List.map Zv m1_5)))])]=some ((ZbQ t0 t1 t2 t3 b c m1_0 m1_1 m1_2 m1_3 m1_4 m1_5) r):=by
 refine ZaM (ZbQ t0 t1 t2 t3 b c m1_0 m1_1 m1_2 m1_3 m1_4 m1_5) ?_
 intro s0 rcl ih
 show ZO _ _ (lpW _ _ _ _ _ _ _)
 unfold ZaH
 rw[ZaN]
 conv=>arg 3;whnf
 refine Zf rfl ?_ ?_<;>conv=>arg 3;whnf
 ·refine Zc _ Zb2 fun x1 hx1=>?_;conv=>arg 3;whnf
  exact Ze (ih _)
 ·exact Zd rfl
def ZbR (t0:Bool) (t1:Bool) (t2:Bool) (t3:Bool) (b:Int) (m1_0:Int) (m1_1:Int) (m1_2:(List ZV)) (m1_3:(List Zm)) (m1_4:(List Zj)) (m1_5:(List Zr)):(List Int)→Ex×List V×Zo
  | r=>(.exit 2,[],[(.arr 1 (List.map Zb r)),(.cells [(.d (Zb m1_0)),(.d (Zb m1_1)),(.d (D.list t0 (List.map Z1 m1_2))),(.d (D.list t1 (List.map ZF m1_3))),(.d (D.list t2 (List.map Zq m1_4))),(.d (D.list t3 (List.map Zv m1_5)))])])
theorem ZdQ {t0:Bool}{t1:Bool}{t2:Bool}{t3:Bool}{b:Int}{m1_0:Int}{m1_1:Int}{m1_2:(List ZV)}{m1_3:(List Zm)}{m1_4:(List Zj)}{m1_5:(List Zr)}:∀(s3:Int×(List Int)) (r:(List Int)),lp (ZaI b (fun z0 z1=>Zt z0 z1 m1_4)) s3=some r→lpW ctx 2 [0,3,8,9,12] [] Zu9 [(.sl 0 1),(.fn 118 [(.ptr 1 0)]),(.d (Zb b)),(.d (Zb 0)),(.d (Zb s3.1))] [(.arr 1 (List.map Zb s3.2)),(.cells [(.d (Zb m1_0)),(.d (Zb m1_1)),(.d (D.list t0 (List.map Z1 m1_2))),(.d (D.list t1 (List.map ZF m1_3))),(.d (D.list t2 (List.map Zq m1_4))),(.d (D.list t3 (List.map Zv m1_5)))])]=some ((ZbR t0 t1 t2 t3 b m1_0 m1_1 m1_2 m1_3 m1_4 m1_5) r):=by
 refine ZaM (ZbR t0 t1 t2 t3 b m1_0 m1_1 m1_2 m1_3 m1_4 m1_5) ?_
 intro s3 rcl ih
 show ZO _ _ (lpW _ _ _ _ _ _ _)
 unfold ZaI
 rw[ZaN]
 conv=>arg 3;whnf
 refine Zf rfl ?_ ?_<;>conv=>arg 3;whnf
 ·refine Zl rfl rfl fun x4 hx4=>?_;conv=>arg 3;whnf
  refine Zg (Zy rfl hx4) ?_;conv=>arg 3;whnf
  refine Zl rfl rfl fun x5 hx5=>?_;conv=>arg 3;whnf
  refine Zg (Zy rfl hx5) ?_;conv=>arg 3;whnf
  refine Zg (ZbO rfl hx5) ?_;conv=>arg 3;whnf
  refine Zg (Zy rfl hx5) ?_;conv=>arg 3;whnf
  refine Zn (Zax Zb s3.2 b.toNat x4) ?_;conv=>arg 3;whnf
  refine Zl rfl rfl fun x6 hx6=>?_;conv=>arg 3;whnf
  refine Zg (Zy rfl hx6) ?_;conv=>arg 3;whnf
  refine Zn (Zax Zb (List.set s3.2 b.toNat x4) (w64 (b+s3.1)).toNat x5) ?_;conv=>arg 3;whnf
  refine Zc _ Zb2 fun x7 hx7=>?_;conv=>arg 3;whnf
  exact Ze (ih _)
 ·exact Zd rfl
theorem Zaq {t0:Bool}{t1:Bool}{t2:Bool}{t3:Bool}{b:Int}{c:Int}{m0_0:(List Int)}{m1_0:Int}{m1_1:Int}{m1_2:(List ZV)}{m1_3:(List Zm)}{m1_4:(List Zj)}{m1_5:(List Zr)}:∀r,(Z8 b c (fun z0 z1=>Zt z0 z1 m1_4) m0_0)=some r→evW ctx 127 [(.sl 0 1),(.d (Zb b)),(.d (Zb c)),(.fn 118 [(.ptr 1 0)])] [(.arr 1 (List.map Zb m0_0)),(.cells [(.d (Zb m1_0)),(.d (Zb m1_1)),(.d (D.list t0 (List.map Z1 m1_2))),(.d (D.list t1 (List.map ZF m1_3))),(.d (D.list t2 (List.map Zq m1_4))),(.d (D.list t3 (List.map Zv m1_5)))])]=some ((Zce t0 t1 t2 t3 b c m0_0 m1_0 m1_1 m1_2 m1_3 m1_4 m1_5) r):=by
 show ZO _ (fun r rhs=>rhs=some ((Zce t0 t1 t2 t3 b c m0_0 m1_0 m1_1 m1_2 m1_3 m1_4 m1_5) r)) _
 unfold Z8
 rw[ZfE ctx 127 Zx9 _ _ rfl rfl]
 conv=>arg 3;whnf
 refine Zal rfl ?_;conv=>arg 3;whnf
 refine Zc _ (ZdS _) fun r2 hr2=>?_;conv=>arg 3;whnf
 refine Zc _ (ZdQ _) fun r8 hr8=>?_;conv=>arg 3;whnf
 exact Zd rfl
def Zcr (t0:Bool) (t1:Bool) (t2:Bool) (t3:Bool) (b:Int) (c:Int) (m0_0:(List Int)) (m1_0:Int) (m2_0:Int) (m2_1:Int) (m2_2:(List ZV)) (m2_3:(List Zm)) (m2_4:(List Zj)) (m2_5:(List Zr)):(Int×Int×Int)→V×Zo
  | r=>((.d (D.tup [(Zb r.1),(Zb r.2.1)])),[(.arr 1 (List.map Zb m0_0)),(.cells [(.d (Zb r.2.2))]),(.cells [(.d (Zb m2_0)),(.d (Zb m2_1)),(.d (D.list t0 (List.map Z1 m2_2))),(.d (D.list t1 (List.map ZF m2_3))),(.d (D.list t2 (List.map Zq m2_4))),(.d (D.list t3 (List.map Zv m2_5)))])])
theorem Zba {t0:Bool}{t1:Bool}{t2:Bool}{t3:Bool}{b:Int}{c:Int}{m0_0:(List Int)}{m1_0:Int}{m2_0:Int}{m2_1:Int}{m2_2:(List ZV)}{m2_3:(List Zm)}{m2_4:(List Zj)}{m2_5:(List Zr)}:∀r,(ZaR b c (fun z0 z1=>Zt z0 z1 m2_4) m0_0 m1_0)=some r→evW ctx 141 [(.sl 0 1),(.d (Zb b)),(.d (Zb c)),(.ptr 1 0),(.fn 118 [(.ptr 2 0)])] [(.arr 1 (List.map Zb m0_0)),(.cells [(.d (Zb m1_0))]),(.cells [(.d (Zb m2_0)),(.d (Zb m2_1)),(.d (D.list t0 (List.map Z1 m2_2))),(.d (D.list t1 (List.map ZF m2_3))),(.d (D.list t2 (List.map Zq m2_4))),(.d (D.list t3 (List.map Zv m2_5)))])]=some ((Zcr t0 t1 t2 t3 b c m0_0 m1_0 m2_0 m2_1 m2_2 m2_3 m2_4 m2_5) r):=by
 show ZO _ (fun r rhs=>rhs=some ((Zcr t0 t1 t2 t3 b c m0_0 m1_0 m2_0 m2_1 m2_2 m2_3 m2_4 m2_5) r)) _
 unfold ZaR
 rw[ZfE ctx 141 ZxX _ _ rfl rfl]
 conv=>arg 3;whnf
 refine Zl rfl rfl fun x0 hx0=>?_;conv=>arg 3;whnf
 refine Zg (Zy rfl hx0) ?_;conv=>arg 3;whnf
 refine Zl rfl rfl fun x1 hx1=>?_;conv=>arg 3;whnf
 refine Zg (Zy rfl hx1) ?_;conv=>arg 3;whnf
 refine Zp _ ZG rfl fun x2 hx2=>?_;conv=>arg 3;whnf
 refine Zf rfl ?_ ?_<;>conv=>arg 3;whnf
 ·exact Zd rfl
 ·exact Zd rfl
def Zcq (t0:Bool) (t1:Bool) (t2:Bool) (t3:Bool) (b:Int) (c:Int) (d:Int) (m0_0:(List Int)) (m1_0:Int) (m2_0:Int) (m2_1:Int) (m2_2:(List ZV)) (m2_3:(List Zm)) (m2_4:(List Zj)) (m2_5:(List Zr)):(Int×Int)→V×Zo
  | r=>((.d (Zb r.1)),[(.arr 1 (List.map Zb m0_0)),(.cells [(.d (Zb r.2))]),(.cells [(.d (Zb m2_0)),(.d (Zb m2_1)),(.d (D.list t0 (List.map Z1 m2_2))),(.d (D.list t1 (List.map ZF m2_3))),(.d (D.list t2 (List.map Zq m2_4))),(.d (D.list t3 (List.map Zv m2_5)))])])
theorem Zbb {t0:Bool}{t1:Bool}{t2:Bool}{t3:Bool}{b:Int}{c:Int}{d:Int}{m0_0:(List Int)}{m1_0:Int}{m2_0:Int}{m2_1:Int}{m2_2:(List ZV)}{m2_3:(List Zm)}{m2_4:(List Zj)}{m2_5:(List Zr)}:∀r,(ZaQ b c d (fun z0 z1=>Zt z0 z1 m2_4) m0_0 m1_0)=some r→evW ctx 140 [(.sl 0 1),(.d (Zb b)),(.d (Zb c)),(.d (Zb d)),(.ptr 1 0),(.fn 118 [(.ptr 2 0)])] [(.arr 1 (List.map Zb m0_0)),(.cells [(.d (Zb m1_0))]),(.cells [(.d (Zb m2_0)),(.d (Zb m2_1)),(.d (D.list t0 (List.map Z1 m2_2))),(.d (D.list t1 (List.map ZF m2_3))),(.d (D.list t2 (List.map Zq m2_4))),(.d (D.list t3 (List.map Zv m2_5)))])]=some ((Zcq t0 t1 t2 t3 b c d m0_0 m1_0 m2_0 m2_1 m2_2 m2_3 m2_4 m2_5) r):=by
 show ZO _ (fun r rhs=>rhs=some ((Zcq t0 t1 t2 t3 b c d m0_0 m1_0 m2_0 m2_1 m2_2 m2_3 m2_4 m2_5) r)) _
 unfold ZaQ
 rw[ZfE ctx 140 Zyc _ _ rfl rfl]
 conv=>arg 3;whnf
 refine Zc _ Zba fun x0 hx0=>?_;conv=>arg 3;whnf
 refine Zc _ Zba fun x1 hx1=>?_;conv=>arg 3;whnf
 refine Zc _ Zba fun x2 hx2=>?_;conv=>arg 3;whnf
 exact Zd rfl
def Zby (t0:Bool) (t1:Bool) (t2:Bool) (t3:Bool) (b:Int) (m0_0:(List Int)) (m1_0:Int) (m2_0:Int) (m2_1:Int) (m2_2:(List ZV)) (m2_3:(List Zm)) (m2_4:(List Zj)) (m2_5:(List Zr)):(Int×Int)→V×Zo
  | r=>((.d (Zb r.1)),[(.arr 1 (List.map Zb m0_0)),(.cells [(.d (Zb r.2))]),(.cells [(.d (Zb m2_0)),(.d (Zb m2_1)),(.d (D.list t0 (List.map Z1 m2_2))),(.d (D.list t1 (List.map ZF m2_3))),(.d (D.list t2 (List.map Zq m2_4))),(.d (D.list t3 (List.map Zv m2_5)))])])
theorem ZaF {t0:Bool}{t1:Bool}{t2:Bool}{t3:Bool}{b:Int}{m0_0:(List Int)}{m1_0:Int}{m2_0:Int}{m2_1:Int}{m2_2:(List ZV)}{m2_3:(List Zm)}{m2_4:(List Zj)}{m2_5:(List Zr)}:∀r,(Z9 b (fun z0 z1=>Zt z0 z1 m2_4) m0_0 m1_0)=some r→evW ctx 139 [(.sl 0 1),(.d (Zb b)),(.ptr 1 0),(.fn 118 [(.ptr 2 0)])] [(.arr 1 (List.map Zb m0_0)),(.cells [(.d (Zb m1_0))]),(.cells [(.d (Zb m2_0)),(.d (Zb m2_1)),(.d (D.list t0 (List.map Z1 m2_2))),(.d (D.list t1 (List.map ZF m2_3))),(.d (D.list t2 (List.map Zq m2_4))),(.d (D.list t3 (List.map Zv m2_5)))])]=some ((Zby t0 t1 t2 t3 b m0_0 m1_0 m2_0 m2_1 m2_2 m2_3 m2_4 m2_5) r):=by
 show ZO _ (fun r rhs=>rhs=some ((Zby t0 t1 t2 t3 b m0_0 m1_0 m2_0 m2_1 m2_2 m2_3 m2_4 m2_5) r)) _
 unfold Z9
 rw[ZfE ctx 139 ZxG _ _ rfl rfl]
 conv=>arg 3;whnf
 refine Zc _ Zbb fun x0 hx0=>?_;conv=>arg 3;whnf
 exact Zd rfl
def ZbS (t0:Bool) (t1:Bool) (t2:Bool) (t3:Bool) (b:Int) (c:Int) (m0_0:(List Int)) (m1_0:Int) (m1_1:Int) (m1_2:(List ZV)) (m1_3:(List Zm)) (m1_4:(List Zj)) (m1_5:(List Zr)):(Int×Int)→V×Zo
  | r=>((.d (D.tup [(Zb r.1),(Zb r.2)])),[(.arr 1 (List.map Zb m0_0)),(.cells [(.d (Zb m1_0)),(.d (Zb m1_1)),(.d (D.list t0 (List.map Z1 m1_2))),(.d (D.list t1 (List.map ZF m1_3))),(.d (D.list t2 (List.map Zq m1_4))),(.d (D.list t3 (List.map Zv m1_5)))])])
theorem Zah {t0:Bool}{t1:Bool}{t2:Bool}{t3:Bool}{b:Int}{c:Int}{m0_0:(List Int)}{m1_0:Int}{m1_1:Int}{m1_2:(List ZV)}{m1_3:(List Zm)}{m1_4:(List Zj)}{m1_5:(List Zr)}:∀r,(ZP b c (fun z0 z1=>Zt z0 z1 m1_4) m0_0)=some r→evW ctx 129 [(.sl 0 1),(.d (Zb b)),(.d (Zb c)),(.fn 118 [(.ptr 1 0)])] [(.arr 1 (List.map Zb m0_0)),(.cells [(.d (Zb m1_0)),(.d (Zb m1_1)),(.d (D.list t0 (List.map Z1 m1_2))),(.d (D.list t1 (List.map ZF m1_3))),(.d (D.list t2 (List.map Zq m1_4))),(.d (D.list t3 (List.map Zv m1_5)))])]=some ((ZbS t0 t1 t2 t3 b c m0_0 m1_0 m1_1 m1_2 m1_3 m1_4 m1_5) r):=by
 show ZO _ (fun r rhs=>rhs=some ((ZbS t0 t1 t2 t3 b c m0_0 m1_0 m1_1 m1_2 m1_3 m1_4 m1_5) r)) _
 unfold ZP
 rw[ZfE ctx 129 Zyq _ _ rfl rfl]
 conv=>arg 3;whnf
 refine Zal rfl ?_;conv=>arg 3;whnf
 refine Zal rfl ?_;conv=>arg 3;whnf
 refine Zal rfl ?_;conv=>arg 3;whnf
 refine Zf rfl ?_ ?_<;>conv=>arg 3;whnf
 ·refine Zf rfl ?_ ?_<;>conv=>arg 3;whnf
  ·refine Zc _ ZaF fun x0 hx0=>?_;conv=>arg 3;whnf
   refine Zc _ ZaF fun x1 hx1=>?_;conv=>arg 3;whnf
   refine Zc _ ZaF fun x2 hx2=>?_;conv=>arg 3;whnf
   refine Zc _ Zbb fun x3 hx3=>?_;conv=>arg 3;whnf
   refine Zf rfl ?_ ?_<;>conv=>arg 3;whnf
   ·exact Zd rfl
   ·refine Zf rfl ?_ ?_<;>conv=>arg 3;whnf
    ·exact Zd rfl
    ·exact Zd rfl
  ·refine Zc _ Zbb fun x4 hx4=>?_;conv=>arg 3;whnf
   refine Zf rfl ?_ ?_<;>conv=>arg 3;whnf
   ·exact Zd rfl
   ·refine Zf rfl ?_ ?_<;>conv=>arg 3;whnf
    ·exact Zd rfl
    ·exact Zd rfl
 ·refine ZbH rfl ?_;conv=>arg 3;whnf
  exact Zd rfl
def ZbF (t0:Bool) (t1:Bool) (t2:Bool) (t3:Bool) (b:Int) (c:Int) (m0_0:(List Int)) (m1_0:Int) (m1_1:Int) (m1_2:(List ZV)) (m1_3:(List Zm)) (m1_4:(List Zj)) (m1_5:(List Zr)):(List Int)→V×Zo
  | r=>((.d (D.tup [])),[(.arr 1 (List.map Zb r)),(.cells [(.d (Zb m1_0)),(.d (Zb m1_1)),(.d (D.list t0 (List.map Z1 m1_2))),(.d (D.list t1 (List.map ZF m1_3))),(.d (D.list t2 (List.map Zq m1_4))),(.d (D.list t3 (List.map Zv m1_5)))])])
def Zbv (t0:Bool) (t1:Bool) (t2:Bool) (t3:Bool) (m1_0:Int) (m1_1:Int) (m1_2:(List ZV)) (m1_3:(List Zm)) (m1_4:(List Zj)) (m1_5:(List Zr)):(List Int)→Ex×List V×Zo
  | r=>(.exit 0,[],[(.arr 1 (List.map Zb r)),(.cells [(.d (Zb m1_0)),(.d (Zb m1_1)),(.d (D.list t0 (List.map Z1 m1_2))),(.d (D.list t1 (List.map ZF m1_3))),(.d (D.list t2 (List.map Zq m1_4))),(.d (D.list t3 (List.map Zv m1_5)))])])
theorem Zdf {t0:Bool}{t1:Bool}{t2:Bool}{t3:Bool}{m1_0:Int}{m1_1:Int}{m1_2:(List ZV)}{m1_3:(List Zm)}{m1_4:(List Zj)}{m1_5:(List Zr)}:∀(s0:Int×Int×(List Int)) (r:(List Int)),lp (Z6) s0=some r→lpW ctx 2 [0,8,9] [] ZuV [(.sl 0 1),(.d (Zb s0.1)),(.d (Zb s0.2.1))] [(.arr 1 (List.map Zb s0.2.2)),(.cells [(.d (Zb m1_0)),(.d (Zb m1_1)),(.d (D.list t0 (List.map Z1 m1_2))),(.d (D.list t1 (List.map ZF m1_3))),(.d (D.list t2 (List.map Zq m1_4))),(.d (D.list t3 (List.map Zv m1_5)))])]=some ((Zbv t0 t1 t2 t3 m1_0 m1_1 m1_2 m1_3 m1_4 m1_5) r):=by
 refine ZaM (Zbv t0 t1 t2 t3 m1_0 m1_1 m1_2 m1_3 m1_4 m1_5) ?_
 intro s0 rcl ih
 show ZO _ _ (lpW _ _ _ _ _ _ _)
 unfold Z6
 rw[ZaN]
 conv=>arg 3;whnf
 refine Zf rfl ?_ ?_<;>conv=>arg 3;whnf
 ·refine Zl rfl rfl fun x1 hx1=>?_;conv=>arg 3;whnf
  refine Zg (Zy rfl hx1) ?_;conv=>arg 3;whnf
  refine Zl rfl rfl fun x2 hx2=>?_;conv=>arg 3;whnf
  refine Zg (Zy rfl hx2) ?_;conv=>arg 3;whnf
  refine Zg (ZbO rfl hx2) ?_;conv=>arg 3;whnf
  refine Zg (Zy rfl hx2) ?_;conv=>arg 3;whnf
  refine Zn (Zax Zb s0.2.2 s0.1.toNat x1) ?_;conv=>arg 3;whnf
  refine Zl rfl rfl fun x3 hx3=>?_;conv=>arg 3;whnf
  refine Zg (Zy rfl hx3) ?_;conv=>arg 3;whnf
  refine Zn (Zax Zb (List.set s0.2.2 s0.1.toNat x1) s0.2.1.toNat x2) ?_;conv=>arg 3;whnf
  exact Ze (ih _)
 ·exact Zd rfl
theorem Zag {t0:Bool}{t1:Bool}{t2:Bool}{t3:Bool}{b:Int}{c:Int}{m0_0:(List Int)}{m1_0:Int}{m1_1:Int}{m1_2:(List ZV)}{m1_3:(List Zm)}{m1_4:(List Zj)}{m1_5:(List Zr)}:∀r,(ZN b c (fun z0 z1=>Zt z0 z1 m1_4) m0_0)=some r→evW ctx 130 [(.sl 0 1),(.d (Zb b)),(.d (Zb c)),(.fn 118 [(.ptr 1 0)])] [(.arr 1 (List.map Zb m0_0)),(.cells [(.d (Zb m1_0)),(.d (Zb m1_1)),(.d (D.list t0 (List.map Z1 m1_2))),(.d (D.list t1 (List.map ZF m1_3))),(.d (D.list t2 (List.map Zq m1_4))),(.d (D.list t3 (List.map Zv m1_5)))])]=some ((ZbF t0 t1 t2 t3 b c m0_0 m1_0 m1_1 m1_2 m1_3 m1_4 m1_5) r):=by
 show ZO _ (fun r rhs=>rhs=some ((ZbF t0 t1 t2 t3 b c m0_0 m1_0 m1_1 m1_2 m1_3 m1_4 m1_5) r)) _
 unfold ZN
 rw[ZfE ctx 130 ZxY _ _ rfl rfl]
 conv=>arg 3;whnf
 refine Zc _ (Zdf _) fun r4 hr4=>?_;conv=>arg 3;whnf
 exact Zd rfl
def Zbd (t0:Bool) (t1:Bool) (t2:Bool) (t3:Bool) (b:Int) (c:Int) (m0_0:(List Int)) (m1_0:Int) (m1_1:Int) (m1_2:(List ZV)) (m1_3:(List Zm)) (m1_4:(List Zj)) (m1_5:(List Zr)):((List Int)⊕(List Int))→V×Zo
  | (.inl r)=>((.d (D.bool true)),[(.arr 1 (List.map Zb r)),(.cells [(.d (Zb m1_0)),(.d (Zb m1_1)),(.d (D.list t0 (List.map Z1 m1_2))),(.d (D.list t1 (List.map ZF m1_3))),(.d (D.list t2 (List.map Zq m1_4))),(.d (D.list t3 (List.map Zv m1_5)))])])
  | (.inr r)=>((.d (D.bool false)),[(.arr 1 (List.map Zb r)),(.cells [(.d (Zb m1_0)),(.d (Zb m1_1)),(.d (D.list t0 (List.map Z1 m1_2))),(.d (D.list t1 (List.map ZF m1_3))),(.d (D.list t2 (List.map Zq m1_4))),(.d (D.list t3 (List.map Zv m1_5)))])])
def Za5 (t0:Bool) (t1:Bool) (t2:Bool) (t3:Bool) (b:Int) (c:Int) (m1_0:Int) (m1_1:Int) (m1_2:(List ZV)) (m1_3:(List Zm)) (m1_4:(List Zj)) (m1_5:(List Zr)) (s0:Int×Int×(List Int)):Int→Ex×List V×Zo
  | r=>(.exit 2,[(.sl 0 1),(.d (Zb b)),(.d (Zb c)),(.fn 118 [(.ptr 1 0)]),(.d (Zb r)),(.d (Zb s0.2.1))],[(.arr 1 (List.map Zb s0.2.2)),(.cells [(.d (Zb m1_0)),(.d (Zb m1_1)),(.d (D.list t0 (List.map Z1 m1_2))),(.d (D.list t1 (List.map ZF m1_3))),(.d (D.list t2 (List.map Zq m1_4))),(.d (D.list t3 (List.map Zv m1_5)))])])
theorem Zcx {t0:Bool}{t1:Bool}{t2:Bool}{t3:Bool}{b:Int}{c:Int}{m1_0:Int}{m1_1:Int}{m1_2:(List ZV)}{m1_3:(List Zm)}{m1_4:(List Zj)}{m1_5:(List Zr)}{s0:Int×Int×(List Int)}:∀(s1:Int) (r:Int),lp (ZM c (fun z0 z1=>Zt z0 z1 m1_4) s0) s1=some r→lpW ctx 2 [0,1,2,3,9,10] [0,1,2,3,9,10] Zu8 [(.sl 0 1),(.d (Zb b)),(.d (Zb c)),(.fn 118 [(.ptr 1 0)]),(.d (Zb s1)),(.d (Zb s0.2.1))] [(.arr 1 (List.map Zb s0.2.2)),(.cells [(.d (Zb m1_0)),(.d (Zb m1_1)),(.d (D.list t0 (List.map Z1 m1_2))),(.d (D.list t1 (List.map ZF m1_3))),(.d (D.list t2 (List.map Zq m1_4))),(.d (D.list t3 (List.map Zv m1_5)))])]=some ((Za5 t0 t1 t2 t3 b c m1_0 m1_1 m1_2 m1_3 m1_4 m1_5 s0) r):=by
 refine ZaM (Za5 t0 t1 t2 t3 b c m1_0 m1_1 m1_2 m1_3 m1_4 m1_5 s0) ?_
 intro s1 rcl ih
 show ZO _ _ (lpW _ _ _ _ _ _ _)
 unfold ZM
 rw[ZaN]
 conv=>arg 3;whnf
 refine Zf rfl ?_ ?_<;>conv=>arg 3;whnf
 ·refine Zl rfl rfl fun x2 hx2=>?_;conv=>arg 3;whnf
  refine Zg (Zy rfl hx2) ?_;conv=>arg 3;whnf
  refine Zl rfl rfl fun x3 hx3=>?_;conv=>arg 3;whnf
  refine Zg (Zy rfl hx3) ?_;conv=>arg 3;whnf
  refine Zp _ ZG rfl fun x4 hx4=>?_;conv=>arg 3;whnf
  refine Zf rfl ?_ ?_<;>conv=>arg 3;whnf
  ·exact Zd rfl
  ·exact Ze (ih _)
 ·exact Zd rfl
def Za2 (t0:Bool) (t1:Bool) (t2:Bool) (t3:Bool) (b:Int) (c:Int) (m1_0:Int) (m1_1:Int) (m1_2:(List ZV)) (m1_3:(List Zm)) (m1_4:(List Zj)) (m1_5:(List Zr)) (s0:Int×Int×(List Int)) (r5:Int):(List Int)→Ex×List V×Zo
  | r=>(.exit 4,[(.sl 0 1),(.d (Zb b)),(.d (Zb c)),(.fn 118 [(.ptr 1 0)]),(.d (Zb r5)),(.d (Zb s0.2.1))],[(.arr 1 (List.map Zb r)),(.cells [(.d (Zb m1_0)),(.d (Zb m1_1)),(.d (D.list t0 (List.map Z1 m1_2))),(.d (D.list t1 (List.map ZF m1_3))),(.d (D.list t2 (List.map Zq m1_4))),(.d (D.list t3 (List.map Zv m1_5)))])])
theorem Zcw {t0:Bool}{t1:Bool}{t2:Bool}{t3:Bool}{b:Int}{c:Int}{m1_0:Int}{m1_1:Int}{m1_2:(List ZV)}{m1_3:(List Zm)}{m1_4:(List Zj)}{m1_5:(List Zr)}{s0:Int×Int×(List Int)}{r5:Int}:∀(s9:Int×(List Int)) (r:(List Int)),lp (ZT (fun z0 z1=>Zt z0 z1 m1_4)) s9=some r→lpW ctx 2 [0,1,2,3,9,10,11] [0,1,2,3,9,10] ZvF [(.sl 0 1),(.d (Zb b)),(.d (Zb c)),(.fn 118 [(.ptr 1 0)]),(.d (Zb r5)),(.d (Zb s0.2.1)),(.d (Zb s9.1))] [(.arr 1 (List.map Zb s9.2)),(.cells [(.d (Zb m1_0)),(.d (Zb m1_1)),(.d (D.list t0 (List.map Z1 m1_2))),(.d (D.list t1 (List.map ZF m1_3))),(.d (D.list t2 (List.map Zq m1_4))),(.d (D.list t3 (List.map Zv m1_5)))])]=some ((Za2 t0 t1 t2 t3 b c m1_0 m1_1 m1_2 m1_3 m1_4 m1_5 s0 r5) r):=by
 refine ZaM (Za2 t0 t1 t2 t3 b c m1_0 m1_1 m1_2 m1_3 m1_4 m1_5 s0 r5) ?_
 intro s9 rcl ih
 show ZO _ _ (lpW _ _ _ _ _ _ _)
 unfold ZT
 rw[ZaN]
 conv=>arg 3;whnf
 refine Zf rfl ?_ ?_<;>conv=>arg 3;whnf
 ·refine Zl rfl rfl fun x10 hx10=>?_;conv=>arg 3;whnf
  refine Zg (Zy rfl hx10) ?_;conv=>arg 3;whnf
  refine Zl rfl rfl fun x11 hx11=>?_;conv=>arg 3;whnf
  refine Zg (Zy rfl hx11) ?_;conv=>arg 3;whnf
  refine Zp _ ZG rfl fun x12 hx12=>?_;conv=>arg 3;whnf
  refine Zf rfl ?_ ?_<;>conv=>arg 3;whnf
  ·refine Zg (ZbO rfl hx11) ?_;conv=>arg 3;whnf
   refine Zg (Zy rfl hx11) ?_;conv=>arg 3;whnf
   refine Zg (ZbO rfl hx10) ?_;conv=>arg 3;whnf
   refine Zg (Zy rfl hx10) ?_;conv=>arg 3;whnf
   refine Zg (ZbO rfl hx10) ?_;conv=>arg 3;whnf
   refine Zg (Zy rfl hx10) ?_;conv=>arg 3;whnf
   refine Zn (Zax Zb s9.2 s9.1.toNat x11) ?_;conv=>arg 3;whnf
   refine Zl rfl rfl fun x13 hx13=>?_;conv=>arg 3;whnf
   refine Zg (Zy rfl hx13) ?_;conv=>arg 3;whnf
   refine Zn (Zax Zb (List.set s9.2 s9.1.toNat x11) (w64 (s9.1-1)).toNat x10) ?_;conv=>arg 3;whnf
   exact Ze (ih _)
  ·exact Zd rfl
 ·exact Zd rfl
def Za3 (t0:Bool) (t1:Bool) (t2:Bool) (t3:Bool) (b:Int) (c:Int) (m1_0:Int) (m1_1:Int) (m1_2:(List ZV)) (m1_3:(List Zm)) (m1_4:(List Zj)) (m1_5:(List Zr)) (s0:Int×Int×(List Int)) (r5:Int):(List Int)→Ex×List V×Zo
  | r=>(.exit 6,[(.sl 0 1),(.d (Zb b)),(.d (Zb c)),(.fn 118 [(.ptr 1 0)]),(.d (Zb r5)),(.d (Zb s0.2.1))],[(.arr 1 (List.map Zb r)),(.cells [(.d (Zb m1_0)),(.d (Zb m1_1)),(.d (D.list t0 (List.map Z1 m1_2))),(.d (D.list t1 (List.map ZF m1_3))),(.d (D.list t2 (List.map Zq m1_4))),(.d (D.list t3 (List.map Zv m1_5)))])])
theorem Za0 {t0:Bool}{t1:Bool}{t2:Bool}{t3:Bool}{b:Int}{c:Int}{m1_0:Int}{m1_1:Int}{m1_2:(List ZV)}{m1_3:(List Zm)}{m1_4:(List Zj)}{m1_5:(List Zr)}{s0:Int×Int×(List Int)}{r5:Int}:∀(s15:Int×(List Int)) (r:(List Int)),lp (ZH c (fun z0 z1=>Zt z0 z1 m1_4)) s15=some r→lpW ctx 2 [0,1,2,3,9,10,12] [0,1,2,3,9,10] ZuP [(.sl 0 1),(.d (Zb b)),(.d (Zb c)),(.fn 118 [(.ptr 1 0)]),(.d (Zb r5)),(.d (Zb s0.2.1)),(.d (Zb s15.1))] [(.arr 1 (List.map Zb s15.2)),(.cells [(.d (Zb m1_0)),(.d (Zb m1_1)),(.d (D.list t0 (List.map Z1 m1_2))),(.d (D.list t1 (List.map ZF m1_3))),(.d (D.list t2 (List.map Zq m1_4))),(.d (D.list t3 (List.map Zv m1_5)))])]=some ((Za3 t0 t1 t2 t3 b c m1_0 m1_1 m1_2 m1_3 m1_4 m1_5 s0 r5) r):=by
 refine ZaM (Za3 t0 t1 t2 t3 b c m1_0 m1_1 m1_2 m1_3 m1_4 m1_5 s0 r5) ?_
 intro s15 rcl ih
 show ZO _ _ (lpW _ _ _ _ _ _ _)
 unfold ZH
 rw[ZaN]
 conv=>arg 3;whnf
 refine Zf rfl ?_ ?_<;>conv=>arg 3;whnf
 ·refine Zl rfl rfl fun x16 hx16=>?_;conv=>arg 3;whnf
  refine Zg (Zy rfl hx16) ?_;conv=>arg 3;whnf
  refine Zl rfl rfl fun x17 hx17=>?_;conv=>arg 3;whnf
  refine Zg (Zy rfl hx17) ?_;conv=>arg 3;whnf
  refine Zp _ ZG rfl fun x18 hx18=>?_;conv=>arg 3;whnf
  refine Zf rfl ?_ ?_<;>conv=>arg 3;whnf
  ·refine Zg (ZbO rfl hx17) ?_;conv=>arg 3;whnf
   refine Zg (Zy rfl hx17) ?_;conv=>arg 3;whnf
   refine Zg (ZbO rfl hx16) ?_;conv=>arg 3;whnf
   refine Zg (Zy rfl hx16) ?_;conv=>arg 3;whnf
   refine Zg (ZbO rfl hx16) ?_;conv=>arg 3;whnf
   refine Zg (Zy rfl hx16) ?_;conv=>arg 3;whnf
   refine Zn (Zax Zb s15.2 s15.1.toNat x17) ?_;conv=>arg 3;whnf
   refine Zl rfl rfl fun x19 hx19=>?_;conv=>arg 3;whnf
   refine Zg (Zy rfl hx19) ?_;conv=>arg 3;whnf
   refine Zn (Zax Zb (List.set s15.2 s15.1.toNat x17) (w64 (s15.1-1)).toNat x16) ?_;conv=>arg 3;whnf
   exact Ze (ih _)
  ·exact Zd rfl
 ·exact Zd rfl
def Za4 (t0:Bool) (t1:Bool) (t2:Bool) (t3:Bool) (b:Int) (c:Int) (m1_0:Int) (m1_1:Int) (m1_2:(List ZV)) (m1_3:(List Zm)) (m1_4:(List Zj)) (m1_5:(List Zr)):((List Int)⊕((List Int)⊕(List Int)))→Ex×List V×Zo
  | (.inl r)=>(.ret,[(.d (D.bool true))],[(.arr 1 (List.map Zb r)),(.cells [(.d (Zb m1_0)),(.d (Zb m1_1)),(.d (D.list t0 (List.map Z1 m1_2))),(.d (D.list t1 (List.map ZF m1_3))),(.d (D.list t2 (List.map Zq m1_4))),(.d (D.list t3 (List.map Zv m1_5)))])])
  | (.inr (.inl r))=>(.ret,[(.d (D.bool false))],[(.arr 1 (List.map Zb r)),(.cells [(.d (Zb m1_0)),(.d (Zb m1_1)),(.d (D.list t0 (List.map Z1 m1_2))),(.d (D.list t1 (List.map ZF m1_3))),(.d (D.list t2 (List.map Zq m1_4))),(.d (D.list t3 (List.map Zv m1_5)))])])
  | (.inr (.inr r))=>(.exit 0,[.bad],[(.arr 1 (List.map Zb r)),(.cells [(.d (Zb m1_0)),(.d (Zb m1_1)),(.d (D.list t0 (List.map Z1 m1_2))),(.d (D.list t1 (List.map ZF m1_3))),(.d (D.list t2 (List.map Zq m1_4))),(.d (D.list t3 (List.map Zv m1_5)))])])
theorem ZcA {t0:Bool}{t1:Bool}{t2:Bool}{t3:Bool}{b:Int}{c:Int}{m1_0:Int}{m1_1:Int}{m1_2:(List ZV)}{m1_3:(List Zm)}{m1_4:(List Zj)}{m1_5:(List Zr)}:∀(s0:Int×Int×(List Int)) (r:((List Int)⊕((List Int)⊕(List Int)))),lp (ZS b c (fun z0 z1=>Zt z0 z1 m1_4)) s0=some r→lpW ctx 2 [0,1,2,3,9,10] [8] Zvk [(.sl 0 1),(.d (Zb b)),(.d (Zb c)),(.fn 118 [(.ptr 1 0)]),(.d (Zb s0.1)),(.d (Zb s0.2.1))] [(.arr 1 (List.map Zb s0.2.2)),(.cells [(.d (Zb m1_0)),(.d (Zb m1_1)),(.d (D.list t0 (List.map Z1 m1_2))),(.d (D.list t1 (List.map ZF m1_3))),(.d (D.list t2 (List.map Zq m1_4))),(.d (D.list t3 (List.map Zv m1_5)))])]=some ((Za4 t0 t1 t2 t3 b c m1_0 m1_1 m1_2 m1_3 m1_4 m1_5) r):=by
 refine ZaM (Za4 t0 t1 t2 t3 b c m1_0 m1_1 m1_2 m1_3 m1_4 m1_5) ?_
 intro s0 rcl ih
 show ZO _ _ (lpW _ _ _ _ _ _ _)
 unfold ZS
 rw[ZaN]
 conv=>arg 3;whnf
 refine Zf rfl ?_ ?_<;>conv=>arg 3;whnf
 ·refine Zc _ (Zcx _) fun r5 hr5=>?_;conv=>arg 3;whnf
  refine Zf rfl ?_ ?_<;>conv=>arg 3;whnf
  ·exact Zd rfl
  ·refine Zf rfl ?_ ?_<;>conv=>arg 3;whnf
   ·exact Zd rfl
   ·refine Zl rfl rfl fun x6 hx6=>?_;conv=>arg 3;whnf
    refine Zg (Zy rfl hx6) ?_;conv=>arg 3;whnf
    refine Zl rfl rfl fun x7 hx7=>?_;conv=>arg 3;whnf
    refine Zg (Zy rfl hx7) ?_;conv=>arg 3;whnf
    refine Zg (ZbO rfl hx7) ?_;conv=>arg 3;whnf
    refine Zg (Zy rfl hx7) ?_;conv=>arg 3;whnf
    refine Zn (Zax Zb s0.2.2 r5.toNat x6) ?_;conv=>arg 3;whnf
    refine Zl rfl rfl fun x8 hx8=>?_;conv=>arg 3;whnf
    refine Zg (Zy rfl hx8) ?_;conv=>arg 3;whnf
    refine Zn (Zax Zb (List.set s0.2.2 r5.toNat x6) (w64 (r5-1)).toNat x7) ?_;conv=>arg 3;whnf
    refine Zf rfl ?_ ?_<;>conv=>arg 3;whnf
    ·refine Zc _ (Zcw _) fun r14 hr14=>?_;conv=>arg 3;whnf
     refine Zf rfl ?_ ?_<;>conv=>arg 3;whnf
     ·refine Zc _ (Za0 _) fun r20 hr20=>?_;conv=>arg 3;whnf
      exact Ze (ih _)
     ·exact Ze (ih _)
    ·refine Zf rfl ?_ ?_<;>conv=>arg 3;whnf
     ·refine Zc _ (Za0 _) fun r26 hr26=>?_;conv=>arg 3;whnf
      exact Ze (ih _)
     ·exact Ze (ih _)
 ·exact Zd rfl
theorem Zbc {t0:Bool}{t1:Bool}{t2:Bool}{t3:Bool}{b:Int}{c:Int}{m0_0:(List Int)}{m1_0:Int}{m1_1:Int}{m1_2:(List ZV)}{m1_3:(List Zm)}{m1_4:(List Zj)}{m1_5:(List Zr)}:∀r,(ZQ b c (fun z0 z1=>Zt z0 z1 m1_4) m0_0)=some r→evW ctx 131 [(.sl 0 1),(.d (Zb b)),(.d (Zb c)),(.fn 118 [(.ptr 1 0)])] [(.arr 1 (List.map Zb m0_0)),(.cells [(.d (Zb m1_0)),(.d (Zb m1_1)),(.d (D.list t0 (List.map Z1 m1_2))),(.d (D.list t1 (List.map ZF m1_3))),(.d (D.list t2 (List.map Zq m1_4))),(.d (D.list t3 (List.map Zv m1_5)))])]=some ((Zbd t0 t1 t2 t3 b c m0_0 m1_0 m1_1 m1_2 m1_3 m1_4 m1_5) r):=by
 show ZO _ (fun r rhs=>rhs=some ((Zbd t0 t1 t2 t3 b c m0_0 m1_0 m1_1 m1_2 m1_3 m1_4 m1_5) r)) _
 unfold ZQ
 rw[ZfE ctx 131 ZyL _ _ rfl rfl]
 conv=>arg 3;whnf
 refine Zc _ (ZcA _) fun r27 hr27=>?_
 clear hr27
 rcases r27 with r27 | (r27 | r27)
 ·conv=>arg 3;whnf
  exact Zd rfl
 ·conv=>arg 3;whnf
  exact Zd rfl
 ·conv=>arg 3;whnf
  exact Zd rfl
def Zb5 (t0:Bool) (t1:Bool) (t2:Bool) (t3:Bool) (b:Int) (c:Int) (d:Int) (m0_0:(List Int)) (m1_0:Int) (m1_1:Int) (m1_2:(List ZV)) (m1_3:(List Zm)) (m1_4:(List Zj)) (m1_5:(List Zr)):((Int×(List Int))⊕(Int×(List Int)))→V×Zo
  | (.inl r)=>((.d (D.tup [(Zb r.1),(D.bool true)])),[(.arr 1 (List.map Zb r.2)),(.cells [(.d (Zb m1_0)),(.d (Zb m1_1)),(.d (D.list t0 (List.map Z1 m1_2))),(.d (D.list t1 (List.map ZF m1_3))),(.d (D.list t2 (List.map Zq m1_4))),(.d (D.list t3 (List.map Zv m1_5)))])])
  | (.inr r)=>((.d (D.tup [(Zb r.1),(D.bool false)])),[(.arr 1 (List.map Zb r.2)),(.cells [(.d (Zb m1_0)),(.d (Zb m1_1)),(.d (D.list t0 (List.map Z1 m1_2))),(.d (D.list t1 (List.map ZF m1_3))),(.d (D.list t2 (List.map Zq m1_4))),(.d (D.list t3 (List.map Zv m1_5)))])])
def ZbM (t0:Bool) (t1:Bool) (t2:Bool) (t3:Bool) (b:Int) (c:Int) (d:Int) (m0_0:(List Int)) (m1_0:Int) (m1_1:Int) (m1_2:(List ZV)) (m1_3:(List Zm)) (m1_4:(List Zj)) (m1_5:(List Zr)) (x0:Int) (x1:Int):Int→Ex×List V×Zo
  | r=>(.exit 0,[(.sl 0 1),(.d (Zb b)),(.fn 118 [(.ptr 1 0)]),(.d (Zb r)),(.d (Zb (w64 (c-1))))],[(.arr 1 (List.map Zb (List.set (List.set m0_0 b.toNat x0) d.toNat x1))),(.cells [(.d (Zb m1_0)),(.d (Zb m1_1)),(.d (D.list t0 (List.map Z1 m1_2))),(.d (D.list t1 (List.map ZF m1_3))),(.d (D.list t2 (List.map Zq m1_4))),(.d (D.list t3 (List.map Zv m1_5)))])])
theorem ZdH {t0:Bool}{t1:Bool}{t2:Bool}{t3:Bool}{b:Int}{c:Int}{d:Int}{m0_0:(List Int)}{m1_0:Int}{m1_1:Int}{m1_2:(List ZV)}{m1_3:(List Zm)}{m1_4:(List Zj)}{m1_5:(List Zr)}{x0:Int}{x1:Int}:∀(s3:Int) (r:Int),lp (Zaz b c d m0_0 (fun z0 z1=>Zt z0 z1 m1_4) x0 x1) s3=some r→lpW ctx 2 [0,1,4,12,13] [0,1,4,12,13] Zvt [(.sl 0 1),(.d (Zb b)),(.fn 118 [(.ptr 1 0)]),(.d (Zb s3)),(.d (Zb (w64 (c-1))))] [(.arr 1 (List.map Zb (List.set (List.set m0_0 b.toNat x0) d.toNat x1))),(.cells [(.d (Zb m1_0)),(.d (Zb m1_1)),(.d (D.list t0 (List.map Z1 m1_2))),(.d (D.list t1 (List.map ZF m1_3))),(.d (D.list t2 (List.map Zq m1_4))),(.d (D.list t3 (List.map Zv m1_5)))])]=some ((ZbM t0 t1 t2 t3 b c d m0_0 m1_0 m1_1 m1_2 m1_3 m1_4 m1_5 x0 x1) r):=by
 refine ZaM (ZbM t0 t1 t2 t3 b c d m0_0 m1_0 m1_1 m1_2 m1_3 m1_4 m1_5 x0 x1) ?_
 intro s3 rcl ih
 show ZO _ _ (lpW _ _ _ _ _ _ _)
 unfold Zaz
 rw[ZaN]
 conv=>arg 3;whnf
 refine Zf rfl ?_ ?_<;>conv=>arg 3;whnf
 ·refine Zl rfl rfl fun x4 hx4=>?_;conv=>arg 3;whnf
  refine Zg (Zy rfl hx4) ?_;conv=>arg 3;whnf
  refine Zl rfl rfl fun x5 hx5=>?_;conv=>arg 3;whnf
  refine Zg (Zy rfl hx5) ?_;conv=>arg 3;whnf
  refine Zp _ ZG rfl fun x6 hx6=>?_;conv=>arg 3;whnf
  refine Zf rfl ?_ ?_<;>conv=>arg 3;whnf
  ·exact Ze (ih _)
  ·exact Zd rfl
 ·exact Zd rfl
def ZbJ (t0:Bool) (t1:Bool) (t2:Bool) (t3:Bool) (b:Int) (d:Int) (m0_0:(List Int)) (m1_0:Int) (m1_1:Int) (m1_2:(List ZV)) (m1_3:(List Zm)) (m1_4:(List Zj)) (m1_5:(List Zr)) (x0:Int) (x1:Int) (r7:Int):Int→Ex×List V×Zo
  | r=>(.exit 2,[(.sl 0 1),(.d (Zb b)),(.fn 118 [(.ptr 1 0)]),(.d (Zb r7)),(.d (Zb r))],[(.arr 1 (List.map Zb (List.set (List.set m0_0 b.toNat x0) d.toNat x1))),(.cells [(.d (Zb m1_0)),(.d (Zb m1_1)),(.d (D.list t0 (List.map Z1 m1_2))),(.d (D.list t1 (List.map ZF m1_3))),(.d (D.list t2 (List.map Zq m1_4))),(.d (D.list t3 (List.map Zv m1_5)))])])
theorem ZdF {t0:Bool}{t1:Bool}{t2:Bool}{t3:Bool}{b:Int}{d:Int}{m0_0:(List Int)}{m1_0:Int}{m1_1:Int}{m1_2:(List ZV)}{m1_3:(List Zm)}{m1_4:(List Zj)}{m1_5:(List Zr)}{x0:Int}{x1:Int}{r7:Int}:∀(s8:Int) (r:Int),lp (Zay b d m0_0 (fun z0 z1=>Zt z0 z1 m1_4) x0 x1 r7) s8=some r→lpW ctx 2 [0,1,4,12,13] [0,1,4,12,13] Zvz [(.sl 0 1),(.d (Zb b)),(.fn 118 [(.ptr 1 0)]),(.d (Zb r7)),(.d (Zb s8))] [(.arr 1 (List.map Zb (List.set (List.set m0_0 b.toNat x0) d.toNat x1))),(.cells [(.d (Zb m1_0)),(.d (Zb m1_1)),(.d (D.list t0 (List.map Z1 m1_2))),(.d (D.list t1 (List.map ZF m1_3))),(.d (D.list t2 (List.map Zq m1_4))),(.d (D.list t3 (List.map Zv m1_5)))])]=some ((ZbJ t0 t1 t2 t3 b d m0_0 m1_0 m1_1 m1_2 m1_3 m1_4 m1_5 x0 x1 r7) r):=by
 refine ZaM (ZbJ t0 t1 t2 t3 b d m0_0 m1_0 m1_1 m1_2 m1_3 m1_4 m1_5 x0 x1 r7) ?_
 intro s8 rcl ih
 show ZO _ _ (lpW _ _ _ _ _ _ _)
 unfold Zay
 rw[ZaN]
 conv=>arg 3;whnf
 refine Zf rfl ?_ ?_<;>conv=>arg 3;whnf
 ·refine Zl rfl rfl fun x9 hx9=>?_;conv=>arg 3;whnf
  refine Zg (Zy rfl hx9) ?_;conv=>arg 3;whnf
  refine Zl rfl rfl fun x10 hx10=>?_;conv=>arg 3;whnf
  refine Zg (Zy rfl hx10) ?_;conv=>arg 3;whnf
  refine Zp _ ZG rfl fun x11 hx11=>?_;conv=>arg 3;whnf
  refine Zf rfl ?_ ?_<;>conv=>arg 3;whnf
  ·exact Zd rfl
  ·exact Ze (ih _)
 ·exact Zd rfl
def ZbG (t0:Bool) (t1:Bool) (t2:Bool) (t3:Bool) (b:Int) (m1_0:Int) (m1_1:Int) (m1_2:(List ZV)) (m1_3:(List Zm)) (m1_4:(List Zj)) (m1_5:(List Zr)) (s19:Int×Int×(List Int)):Int→Ex×List V×Zo
  | r=>(.exit 6,[(.sl 0 1),(.d (Zb b)),(.fn 118 [(.ptr 1 0)]),(.d (Zb r)),(.d (Zb s19.2.1))],[(.arr 1 (List.map Zb s19.2.2)),(.cells [(.d (Zb m1_0)),(.d (Zb m1_1)),(.d (D.list t0 (List.map Z1 m1_2))),(.d (D.list t1 (List.map ZF m1_3))),(.d (D.list t2 (List.map Zq m1_4))),(.d (D.list t3 (List.map Zv m1_5)))])])
theorem ZdK {t0:Bool}{t1:Bool}{t2:Bool}{t3:Bool}{b:Int}{m1_0:Int}{m1_1:Int}{m1_2:(List ZV)}{m1_3:(List Zm)}{m1_4:(List Zj)}{m1_5:(List Zr)}{s19:Int×Int×(List Int)}:∀(s20:Int) (r:Int),lp (ZaA b (fun z0 z1=>Zt z0 z1 m1_4) s19) s20=some r→lpW ctx 2 [0,1,4,12,13] [0,1,4,12,13] Zu4 [(.sl 0 1),(.d (Zb b)),(.fn 118 [(.ptr 1 0)]),(.d (Zb s20)),(.d (Zb s19.2.1))] [(.arr 1 (List.map Zb s19.2.2)),(.cells [(.d (Zb m1_0)),(.d (Zb m1_1)),(.d (D.list t0 (List.map Z1 m1_2))),(.d (D.list t1 (List.map ZF m1_3))),(.d (D.list t2 (List.map Zq m1_4))),(.d (D.list t3 (List.map Zv m1_5)))])]=some ((ZbG t0 t1 t2 t3 b m1_0 m1_1 m1_2 m1_3 m1_4 m1_5 s19) r):=by
 refine ZaM (ZbG t0 t1 t2 t3 b m1_0 m1_1 m1_2 m1_3 m1_4 m1_5 s19) ?_
 intro s20 rcl ih
 show ZO _ _ (lpW _ _ _ _ _ _ _)
 unfold ZaA
 rw[ZaN]
 conv=>arg 3;whnf
 refine Zf rfl ?_ ?_<;>conv=>arg 3;whnf
 ·refine Zl rfl rfl fun x21 hx21=>?_;conv=>arg 3;whnf
  refine Zg (Zy rfl hx21) ?_;conv=>arg 3;whnf
  refine Zl rfl rfl fun x22 hx22=>?_;conv=>arg 3;whnf
  refine Zg (Zy rfl hx22) ?_;conv=>arg 3;whnf
  refine Zp _ ZG rfl fun x23 hx23=>?_;conv=>arg 3;whnf
  refine Zf rfl ?_ ?_<;>conv=>arg 3;whnf
  ·exact Ze (ih _)
  ·exact Zd rfl
 ·exact Zd rfl
def ZbK (t0:Bool) (t1:Bool) (t2:Bool) (t3:Bool) (b:Int) (m1_0:Int) (m1_1:Int) (m1_2:(List ZV)) (m1_3:(List Zm)) (m1_4:(List Zj)) (m1_5:(List Zr)) (s19:Int×Int×(List Int)) (r24:Int):Int→Ex×List V×Zo
  | r=>(.exit 8,[(.sl 0 1),(.d (Zb b)),(.fn 118 [(.ptr 1 0)]),(.d (Zb r24)),(.d (Zb r))],[(.arr 1 (List.map Zb s19.2.2)),(.cells [(.d (Zb m1_0)),(.d (Zb m1_1)),(.d (D.list t0 (List.map Z1 m1_2))),(.d (D.list t1 (List.map ZF m1_3))),(.d (D.list t2 (List.map Zq m1_4))),(.d (D.list t3 (List.map Zv m1_5)))])])
theorem ZdC {t0:Bool}{t1:Bool}{t2:Bool}{t3:Bool}{b:Int}{m1_0:Int}{m1_1:Int}{m1_2:(List ZV)}{m1_3:(List Zm)}{m1_4:(List Zj)}{m1_5:(List Zr)}{s19:Int×Int×(List Int)}{r24:Int}:∀(s25:Int) (r:Int),lp (Zav b (fun z0 z1=>Zt z0 z1 m1_4) s19 r24) s25=some r→lpW ctx 2 [0,1,4,12,13] [0,1,4,12,13] ZvN [(.sl 0 1),(.d (Zb b)),(.fn 118 [(.ptr 1 0)]),(.d (Zb r24)),(.d (Zb s25))] [(.arr 1 (List.map Zb s19.2.2)),(.cells [(.d (Zb m1_0)),(.d (Zb m1_1)),(.d (D.list t0 (List.map Z1 m1_2))),(.d (D.list t1 (List.map ZF m1_3))),(.d (D.list t2 (List.map Zq m1_4))),(.d (D.list t3 (List.map Zv m1_5)))])]=some ((ZbK t0 t1 t2 t3 b m1_0 m1_1 m1_2 m1_3 m1_4 m1_5 s19 r24) r):=by
 refine ZaM (ZbK t0 t1 t2 t3 b m1_0 m1_1 m1_2 m1_3 m1_4 m1_5 s19 r24) ?_
 intro s25 rcl ih
 show ZO _ _ (lpW _ _ _ _ _ _ _)
 unfold Zav
 rw[ZaN]
 conv=>arg 3;whnf
 refine Zf rfl ?_ ?_<;>conv=>arg 3;whnf
 ·refine Zl rfl rfl fun x26 hx26=>?_;conv=>arg 3;whnf
  refine Zg (Zy rfl hx26) ?_;conv=>arg 3;whnf
  refine Zl rfl rfl fun x27 hx27=>?_;conv=>arg 3;whnf
  refine Zg (Zy rfl hx27) ?_;conv=>arg 3;whnf
  refine Zp _ ZG rfl fun x28 hx28=>?_;conv=>arg 3;whnf
  refine Zf rfl ?_ ?_<;>conv=>arg 3;whnf
  ·exact Zd rfl
  ·exact Ze (ih _)
 ·exact Zd rfl
def ZbI (t0:Bool) (t1:Bool) (t2:Bool) (t3:Bool) (b:Int) (m1_0:Int) (m1_1:Int) (m1_2:(List ZV)) (m1_3:(List Zm)) (m1_4:(List Zj)) (m1_5:(List Zr)):(Int×(List Int))→Ex×List V×Zo
  | r=>(.exit 4,[(.sl 0 1),(.d (Zb b)),(.d (Zb r.1))],[(.arr 1 (List.map Zb r.2)),(.cells [(.d (Zb m1_0)),(.d (Zb m1_1)),(.d (D.list t0 (List.map Z1 m1_2))),(.d (D.list t1 (List.map ZF m1_3))),(.d (D.list t2 (List.map Zq m1_4))),(.d (D.list t3 (List.map Zv m1_5)))])])
theorem ZdJ {t0:Bool}{t1:Bool}{t2:Bool}{t3:Bool}{b:Int}{m1_0:Int}{m1_1:Int}{m1_2:(List ZV)}{m1_3:(List Zm)}{m1_4:(List Zj)}{m1_5:(List Zr)}:∀(s19:Int×Int×(List Int)) (r:(Int×(List Int))),lp (Za1 b (fun z0 z1=>Zt z0 z1 m1_4)) s19=some r→lpW ctx 2 [0,1,4,12,13] [0,1,13] ZvB [(.sl 0 1),(.d (Zb b)),(.fn 118 [(.ptr 1 0)]),(.d (Zb s19.1)),(.d (Zb s19.2.1))] [(.arr 1 (List.map Zb s19.2.2)),(.cells [(.d (Zb m1_0)),(.d (Zb m1_1)),(.d (D.list t0 (List.map Z1 m1_2))),(.d (D.list t1 (List.map ZF m1_3))),(.d (D.list t2 (List.map Zq m1_4))),(.d (D.list t3 (List.map Zv m1_5)))])]=some ((ZbI t0 t1 t2 t3 b m1_0 m1_1 m1_2 m1_3 m1_4 m1_5) r):=by
 refine ZaM (ZbI t0 t1 t2 t3 b m1_0 m1_1 m1_2 m1_3 m1_4 m1_5) ?_
 intro s19 rcl ih
 show ZO _ _ (lpW _ _ _ _ _ _ _)
 unfold Za1
 rw[ZaN]
 conv=>arg 3;whnf
 refine Zc _ (ZdK _) fun r24 hr24=>?_;conv=>arg 3;whnf
 refine Zc _ (ZdC _) fun r29 hr29=>?_;conv=>arg 3;whnf
 refine Zf rfl ?_ ?_<;>conv=>arg 3;whnf
 ·exact Zd rfl
 ·refine Zl rfl rfl fun x30 hx30=>?_;conv=>arg 3;whnf
  refine Zg (Zy rfl hx30) ?_;conv=>arg 3;whnf
  refine Zl rfl rfl fun x31 hx31=>?_;conv=>arg 3;whnf
  refine Zg (Zy rfl hx31) ?_;conv=>arg 3;whnf
  refine Zg (ZbO rfl hx31) ?_;conv=>arg 3;whnf
  refine Zg (Zy rfl hx31) ?_;conv=>arg 3;whnf
  refine Zn (Zax Zb s19.2.2 r24.toNat x30) ?_;conv=>arg 3;whnf
  refine Zl rfl rfl fun x32 hx32=>?_;conv=>arg 3;whnf
  refine Zg (Zy rfl hx32) ?_;conv=>arg 3;whnf
  refine Zn (Zax Zb (List.set s19.2.2 r24.toNat x30) r29.toNat x31) ?_;conv=>arg 3;whnf
  exact Ze (ih _)
theorem Zk {t0:Bool}{t1:Bool}{t2:Bool}{t3:Bool}{b:Int}{c:Int}{d:Int}{m0_0:(List Int)}{m1_0:Int}{m1_1:Int}{m1_2:(List ZV)}{m1_3:(List Zm)}{m1_4:(List Zj)}{m1_5:(List Zr)}:∀r,(Zs b c d (fun z0 z1=>Zt z0 z1 m1_4) m0_0)=some r→evW ctx 133 [(.sl 0 1),(.d (Zb b)),(.d (Zb c)),(.d (Zb d)),(.fn 118 [(.ptr 1 0)])] [(.arr 1 (List.map Zb m0_0)),(.cells [(.d (Zb m1_0)),(.d (Zb m1_1)),(.d (D.list t0 (List.map Z1 m1_2))),(.d (D.list t1 (List.map ZF m1_3))),(.d (D.list t2 (List.map Zq m1_4))),(.d (D.list t3 (List.map Zv m1_5)))])]=some ((Zb5 t0 t1 t2 t3 b c d m0_0 m1_0 m1_1 m1_2 m1_3 m1_4 m1_5) r):=by
 show ZO _ (fun r rhs=>rhs=some ((Zb5 t0 t1 t2 t3 b c d m0_0 m1_0 m1_1 m1_2 m1_3 m1_4 m1_5) r)) _
 unfold Zs
 rw[ZfE ctx 133 Zxr _ _ rfl rfl]
 conv=>arg 3;whnf
 refine Zl rfl rfl fun x0 hx0=>?_;conv=>arg 3;whnf
 refine Zg (Zy rfl hx0) ?_;conv=>arg 3;whnf
 refine Zl rfl rfl fun x1 hx1=>?_;conv=>arg 3;whnf
 refine Zg (Zy rfl hx1) ?_;conv=>arg 3;whnf
 refine Zg (ZbO rfl hx1) ?_;conv=>arg 3;whnf
 refine Zg (Zy rfl hx1) ?_;conv=>arg 3;whnf
 refine Zn (Zax Zb m0_0 b.toNat x0) ?_;conv=>arg 3;whnf
 refine Zl rfl rfl fun x2 hx2=>?_;conv=>arg 3;whnf
 refine Zg (Zy rfl hx2) ?_;conv=>arg 3;whnf
 refine Zn (Zax Zb (List.set m0_0 b.toNat x0) d.toNat x1) ?_;conv=>arg 3;whnf
 refine Zc _ (ZdH _) fun r7 hr7=>?_;conv=>arg 3;whnf
 refine Zc _ (ZdF _) fun r12 hr12=>?_;conv=>arg 3;whnf
 refine Zf rfl ?_ ?_<;>conv=>arg 3;whnf
 ·refine Zl rfl rfl fun x13 hx13=>?_;conv=>arg 3;whnf
  refine Zg (Zy rfl hx13) ?_;conv=>arg 3;whnf
  refine Zl rfl rfl fun x14 hx14=>?_;conv=>arg 3;whnf
  refine Zg (Zy rfl hx14) ?_;conv=>arg 3;whnf
  refine Zg (ZbO rfl hx14) ?_;conv=>arg 3;whnf
  refine Zg (Zy rfl hx14) ?_;conv=>arg 3;whnf
  refine Zn (Zax Zb (List.set (List.set m0_0 b.toNat x0) d.toNat x1) r12.toNat x13) ?_;conv=>arg 3;whnf
  refine Zl rfl rfl fun x15 hx15=>?_;conv=>arg 3;whnf
  refine Zg (Zy rfl hx15) ?_;conv=>arg 3;whnf
  refine Zn (Zax Zb (List.set (List.set (List.set m0_0 b.toNat x0) d.toNat x1) r12.toNat x13) b.toNat x14) ?_;conv=>arg 3;whnf
  exact Zd rfl
 ·refine Zl rfl rfl fun x16 hx16=>?_;conv=>arg 3;whnf
  refine Zg (Zy rfl hx16) ?_;conv=>arg 3;whnf
  refine Zl rfl rfl fun x17 hx17=>?_;conv=>arg 3;whnf
  refine Zg (Zy rfl hx17) ?_;conv=>arg 3;whnf
  refine Zg (ZbO rfl hx17) ?_;conv=>arg 3;whnf
  refine Zg (Zy rfl hx17) ?_;conv=>arg 3;whnf
  refine Zn (Zax Zb (List.set (List.set m0_0 b.toNat x0) d.toNat x1) r7.toNat x16) ?_;conv=>arg 3;whnf
  refine Zl rfl rfl fun x18 hx18=>?_;conv=>arg 3;whnf
  refine Zg (Zy rfl hx18) ?_;conv=>arg 3;whnf
  refine Zn (Zax Zb (List.set (List.set (List.set m0_0 b.toNat x0) d.toNat x1) r7.toNat x16) r12.toNat x17) ?_;conv=>arg 3;whnf
  refine Zc _ (ZdJ _) fun r33 hr33=>?_;conv=>arg 3;whnf
  refine Zl rfl rfl fun x34 hx34=>?_;conv=>arg 3;whnf
  refine Zg (Zy rfl hx34) ?_;conv=>arg 3;whnf
  refine Zl rfl rfl fun x35 hx35=>?_;conv=>arg 3;whnf
  refine Zg (Zy rfl hx35) ?_;conv=>arg 3;whnf
  refine Zg (ZbO rfl hx35) ?_;conv=>arg 3;whnf
  refine Zg (Zy rfl hx35) ?_;conv=>arg 3;whnf
  refine Zn (Zax Zb r33.2 r33.1.toNat x34) ?_;conv=>arg 3;whnf
  refine Zl rfl rfl fun x36 hx36=>?_;conv=>arg 3;whnf
  refine Zg (Zy rfl hx36) ?_;conv=>arg 3;whnf
  refine Zn (Zax Zb (List.set r33.2 r33.1.toNat x34) b.toNat x35) ?_;conv=>arg 3;whnf
  exact Zd rfl
def Zbz (t0:Bool) (t1:Bool) (t2:Bool) (t3:Bool) (b:Int) (c:Int) (d:Int) (m0_0:(List Int)) (m1_0:Int) (m1_1:Int) (m1_2:(List ZV)) (m1_3:(List Zm)) (m1_4:(List Zj)) (m1_5:(List Zr)):(Int×(List Int))→V×Zo
  | r=>((.d (Zb r.1)),[(.arr 1 (List.map Zb r.2)),(.cells [(.d (Zb m1_0)),(.d (Zb m1_1)),(.d (D.list t0 (List.map Z1 m1_2))),(.d (D.list t1 (List.map ZF m1_3))),(.d (D.list t2 (List.map Zq m1_4))),(.d (D.list t3 (List.map Zv m1_5)))])])
def Zbk (t0:Bool) (t1:Bool) (t2:Bool) (t3:Bool) (b:Int) (m1_0:Int) (m1_1:Int) (m1_2:(List ZV)) (m1_3:(List Zm)) (m1_4:(List Zj)) (m1_5:(List Zr)) (s3:Int×Int×(List Int)):Int→Ex×List V×Zo
  | r=>(.exit 2,[(.sl 0 1),(.d (Zb b)),(.fn 118 [(.ptr 1 0)]),(.d (Zb r)),(.d (Zb s3.2.1))],[(.arr 1 (List.map Zb s3.2.2)),(.cells [(.d (Zb m1_0)),(.d (Zb m1_1)),(.d (D.list t0 (List.map Z1 m1_2))),(.d (D.list t1 (List.map ZF m1_3))),(.d (D.list t2 (List.map Zq m1_4))),(.d (D.list t3 (List.map Zv m1_5)))])])
theorem ZcX {t0:Bool}{t1:Bool}{t2:Bool}{t3:Bool}{b:Int}{m1_0:Int}{m1_1:Int}{m1_2:(List ZV)}{m1_3:(List Zm)}{m1_4:(List Zj)}{m1_5:(List Zr)}{s3:Int×Int×(List Int)}:∀(s4:Int) (r:Int),lp (Zae b (fun z0 z1=>Zt z0 z1 m1_4) s3) s4=some r→lpW ctx 2 [0,1,4,11,12] [0,1,4,11,12] Zvm [(.sl 0 1),(.d (Zb b)),(.fn 118 [(.ptr 1 0)]),(.d (Zb s4)),(.d (Zb s3.2.1))] [(.arr 1 (List.map Zb s3.2.2)),(.cells [(.d (Zb m1_0)),(.d (Zb m1_1)),(.d (D.list t0 (List.map Z1 m1_2))),(.d (D.list t1 (List.map ZF m1_3))),(.d (D.list t2 (List.map Zq m1_4))),(.d (D.list t3 (List.map Zv m1_5)))])]=some ((Zbk t0 t1 t2 t3 b m1_0 m1_1 m1_2 m1_3 m1_4 m1_5 s3) r):=by
 refine ZaM (Zbk t0 t1 t2 t3 b m1_0 m1_1 m1_2 m1_3 m1_4 m1_5 s3) ?_
 intro s4 rcl ih
 show ZO _ _ (lpW _ _ _ _ _ _ _)
 unfold Zae
 rw[ZaN]
 conv=>arg 3;whnf
 refine Zf rfl ?_ ?_<;>conv=>arg 3;whnf
 ·refine Zl rfl rfl fun x5 hx5=>?_;conv=>arg 3;whnf
  refine Zg (Zy rfl hx5) ?_;conv=>arg 3;whnf
  refine Zl rfl rfl fun x6 hx6=>?_;conv=>arg 3;whnf
  refine Zg (Zy rfl hx6) ?_;conv=>arg 3;whnf
  refine Zp _ ZG rfl fun x7 hx7=>?_;conv=>arg 3;whnf
  refine Zf rfl ?_ ?_<;>conv=>arg 3;whnf
  ·exact Zd rfl
  ·exact Ze (ih _)
 ·exact Zd rfl
def Zbl (t0:Bool) (t1:Bool) (t2:Bool) (t3:Bool) (b:Int) (m1_0:Int) (m1_1:Int) (m1_2:(List ZV)) (m1_3:(List Zm)) (m1_4:(List Zj)) (m1_5:(List Zr)) (s3:Int×Int×(List Int)) (r8:Int):Int→Ex×List V×Zo
  | r=>(.exit 4,[(.sl 0 1),(.d (Zb b)),(.fn 118 [(.ptr 1 0)]),(.d (Zb r8)),(.d (Zb r))],[(.arr 1 (List.map Zb s3.2.2)),(.cells [(.d (Zb m1_0)),(.d (Zb m1_1)),(.d (D.list t0 (List.map Z1 m1_2))),(.d (D.list t1 (List.map ZF m1_3))),(.d (D.list t2 (List.map Zq m1_4))),(.d (D.list t3 (List.map Zv m1_5)))])])
theorem Zc2 {t0:Bool}{t1:Bool}{t2:Bool}{t3:Bool}{b:Int}{m1_0:Int}{m1_1:Int}{m1_2:(List ZV)}{m1_3:(List Zm)}{m1_4:(List Zj)}{m1_5:(List Zr)}{s3:Int×Int×(List Int)}{r8:Int}:∀(s9:Int) (r:Int),lp (Zaf b (fun z0 z1=>Zt z0 z1 m1_4) s3 r8) s9=some r→lpW ctx 2 [0,1,4,11,12] [0,1,4,11,12] ZuR [(.sl 0 1),(.d (Zb b)),(.fn 118 [(.ptr 1 0)]),(.d (Zb r8)),(.d (Zb s9))] [(.arr 1 (List.map Zb s3.2.2)),(.cells [(.d (Zb m1_0)),(.d (Zb m1_1)),(.d (D.list t0 (List.map Z1 m1_2))),(.d (D.list t1 (List.map ZF m1_3))),(.d (D.list t2 (List.map Zq m1_4))),(.d (D.list t3 (List.map Zv m1_5)))])]=some ((Zbl t0 t1 t2 t3 b m1_0 m1_1 m1_2 m1_3 m1_4 m1_5 s3 r8) r):=by
 refine ZaM (Zbl t0 t1 t2 t3 b m1_0 m1_1 m1_2 m1_3 m1_4 m1_5 s3 r8) ?_
 intro s9 rcl ih
 show ZO _ _ (lpW _ _ _ _ _ _ _)
 unfold Zaf
 rw[ZaN]
 conv=>arg 3;whnf
 refine Zf rfl ?_ ?_<;>conv=>arg 3;whnf
 ·refine Zl rfl rfl fun x10 hx10=>?_;conv=>arg 3;whnf
  refine Zg (Zy rfl hx10) ?_;conv=>arg 3;whnf
  refine Zl rfl rfl fun x11 hx11=>?_;conv=>arg 3;whnf
  refine Zg (Zy rfl hx11) ?_;conv=>arg 3;whnf
  refine Zp _ ZG rfl fun x12 hx12=>?_;conv=>arg 3;whnf
  refine Zf rfl ?_ ?_<;>conv=>arg 3;whnf
  ·exact Ze (ih _)
  ·exact Zd rfl
 ·exact Zd rfl
def Zbj (t0:Bool) (t1:Bool) (t2:Bool) (t3:Bool) (b:Int) (m1_0:Int) (m1_1:Int) (m1_2:(List ZV)) (m1_3:(List Zm)) (m1_4:(List Zj)) (m1_5:(List Zr)):(Int×(List Int))→Ex×List V×Zo
  | r=>(.exit 0,[(.d (Zb r.1))],[(.arr 1 (List.map Zb r.2)),(.cells [(.d (Zb m1_0)),(.d (Zb m1_1)),(.d (D.list t0 (List.map Z1 m1_2))),(.d (D.list t1 (List.map ZF m1_3))),(.d (D.list t2 (List.map Zq m1_4))),(.d (D.list t3 (List.map Zv m1_5)))])])
theorem ZcY {t0:Bool}{t1:Bool}{t2:Bool}{t3:Bool}{b:Int}{m1_0:Int}{m1_1:Int}{m1_2:(List ZV)}{m1_3:(List Zm)}{m1_4:(List Zj)}{m1_5:(List Zr)}:∀(s3:Int×Int×(List Int)) (r:(Int×(List Int))),lp (Zaw b (fun z0 z1=>Zt z0 z1 m1_4)) s3=some r→lpW ctx 2 [0,1,4,11,12] [11] ZvH [(.sl 0 1),(.d (Zb b)),(.fn 118 [(.ptr 1 0)]),(.d (Zb s3.1)),(.d (Zb s3.2.1))] [(.arr 1 (List.map Zb s3.2.2)),(.cells [(.d (Zb m1_0)),(.d (Zb m1_1)),(.d (D.list t0 (List.map Z1 m1_2))),(.d (D.list t1 (List.map ZF m1_3))),(.d (D.list t2 (List.map Zq m1_4))),(.d (D.list t3 (List.map Zv m1_5)))])]=some ((Zbj t0 t1 t2 t3 b m1_0 m1_1 m1_2 m1_3 m1_4 m1_5) r):=by
 refine ZaM (Zbj t0 t1 t2 t3 b m1_0 m1_1 m1_2 m1_3 m1_4 m1_5) ?_
 intro s3 rcl ih
 show ZO _ _ (lpW _ _ _ _ _ _ _)
 unfold Zaw
 rw[ZaN]
 conv=>arg 3;whnf
 refine Zc _ (ZcX _) fun r8 hr8=>?_;conv=>arg 3;whnf
 refine Zc _ (Zc2 _) fun r13 hr13=>?_;conv=>arg 3;whnf
 refine Zf rfl ?_ ?_<;>conv=>arg 3;whnf
 ·exact Zd rfl
 ·refine Zl rfl rfl fun x14 hx14=>?_;conv=>arg 3;whnf
  refine Zg (Zy rfl hx14) ?_;conv=>arg 3;whnf
  refine Zl rfl rfl fun x15 hx15=>?_;conv=>arg 3;whnf
  refine Zg (Zy rfl hx15) ?_;conv=>arg 3;whnf
  refine Zg (ZbO rfl hx15) ?_;conv=>arg 3;whnf
  refine Zg (Zy rfl hx15) ?_;conv=>arg 3;whnf
  refine Zn (Zax Zb s3.2.2 r8.toNat x14) ?_;conv=>arg 3;whnf
  refine Zl rfl rfl fun x16 hx16=>?_;conv=>arg 3;whnf
  refine Zg (Zy rfl hx16) ?_;conv=>arg 3;whnf
  refine Zn (Zax Zb (List.set s3.2.2 r8.toNat x14) r13.toNat x15) ?_;conv=>arg 3;whnf
  exact Ze (ih _)
theorem Zz {t0:Bool}{t1:Bool}{t2:Bool}{t3:Bool}{b:Int}{c:Int}{d:Int}{m0_0:(List Int)}{m1_0:Int}{m1_1:Int}{m1_2:(List ZV)}{m1_3:(List Zm)}{m1_4:(List Zj)}{m1_5:(List Zr)}:∀r,(ZD b c d (fun z0 z1=>Zt z0 z1 m1_4) m0_0)=some r→evW ctx 132 [(.sl 0 1),(.d (Zb b)),(.d (Zb c)),(.d (Zb d)),(.fn 118 [(.ptr 1 0)])] [(.arr 1 (List.map Zb m0_0)),(.cells [(.d (Zb m1_0)),(.d (Zb m1_1)),(.d (D.list t0 (List.map Z1 m1_2))),(.d (D.list t1 (List.map ZF m1_3))),(.d (D.list t2 (List.map Zq m1_4))),(.d (D.list t3 (List.map Zv m1_5)))])]=some ((Zbz t0 t1 t2 t3 b c d m0_0 m1_0 m1_1 m1_2 m1_3 m1_4 m1_5) r):=by
 show ZO _ (fun r rhs=>rhs=some ((Zbz t0 t1 t2 t3 b c d m0_0 m1_0 m1_1 m1_2 m1_3 m1_4 m1_5) r)) _
 unfold ZD
 rw[ZfE ctx 132 ZyR _ _ rfl rfl]
 conv=>arg 3;whnf
 refine Zl rfl rfl fun x0 hx0=>?_;conv=>arg 3;whnf
 refine Zg (Zy rfl hx0) ?_;conv=>arg 3;whnf
 refine Zl rfl rfl fun x1 hx1=>?_;conv=>arg 3;whnf
 refine Zg (Zy rfl hx1) ?_;conv=>arg 3;whnf
 refine Zg (ZbO rfl hx1) ?_;conv=>arg 3;whnf
 refine Zg (Zy rfl hx1) ?_;conv=>arg 3;whnf
 refine Zn (Zax Zb m0_0 b.toNat x0) ?_;conv=>arg 3;whnf
 refine Zl rfl rfl fun x2 hx2=>?_;conv=>arg 3;whnf
 refine Zg (Zy rfl hx2) ?_;conv=>arg 3;whnf
 refine Zn (Zax Zb (List.set m0_0 b.toNat x0) d.toNat x1) ?_;conv=>arg 3;whnf
 refine Zc _ (ZcY _) fun r17 hr17=>?_;conv=>arg 3;whnf
 exact Zd rfl
def ZfD (r:Int):D:=(D.int .u64 r)
theorem ZhQ {a:Int}:∀r,(Zcm a)=some r→evD ctx 137 [(.d (Zb a))]=some (ZfD r):=by
 show ZO _ (fun r rhs=>rhs=some (ZfD r)) _
 unfold Zcm
 rw[ZaY ctx 137 ZwT _ rfl rfl]
 conv=>arg 3;whnf
 refine Zp _ Zh7 rfl fun x0 hx0=>?_;conv=>arg 3;whnf
 refine Zf rfl ?_ ?_
 ·exact Z5
 ·conv=>arg 3;whnf
  exact Zd rfl
def ZfK (m0_0:Int):Unit→V×Zo
  | r=>((.d (D.int .u64 (IntKind.u64.wrap (BitVec.ofInt IntKind.u64.bits (IntKind.u64.wrap (BitVec.ofInt IntKind.u64.bits (IntKind.u64.wrap (BitVec.ofInt IntKind.u64.bits m0_0 ^^^ BitVec.ofInt IntKind.u64.bits (IntKind.u64.wrap (m0_0*2 ^ 13))).toNat) ^^^ BitVec.ofInt IntKind.u64.bits (Int.fdiv (IntKind.u64.wrap (BitVec.ofInt IntKind.u64.bits m0_0 ^^^ BitVec.ofInt IntKind.u64.bits (IntKind.u64.wrap (m0_0*2 ^ 13))).toNat) (2 ^ 7))).toNat) ^^^ BitVec.ofInt IntKind.u64.bits (IntKind.u64.wrap ((IntKind.u64.wrap (BitVec.ofInt IntKind.u64.bits (IntKind.u64.wrap (BitVec.ofInt IntKind.u64.bits m0_0 ^^^ BitVec.ofInt IntKind.u64.bits (IntKind.u64.wrap (m0_0*2 ^ 13))).toNat) ^^^ BitVec.ofInt IntKind.u64.bits (Int.fdiv (IntKind.u64.wrap (BitVec.ofInt IntKind.u64.bits m0_0 ^^^ BitVec.ofInt IntKind.u64.bits (IntKind.u64.wrap (m0_0*2 ^ 13))).toNat) (2 ^ 7))).toNat)*2 ^ 17))).toNat))),[(.cells [(.d (D.int .u64 (IntKind.u64.wrap (BitVec.ofInt IntKind.u64.bits (IntKind.u64.wrap (BitVec.ofInt IntKind.u64.bits (IntKind.u64.wrap (BitVec.ofInt IntKind.u64.bits m0_0 ^^^ BitVec.ofInt IntKind.u64.bits (IntKind.u64.wrap (m0_0*2 ^ 13))).toNat) ^^^ BitVec.ofInt IntKind.u64.bits (Int.fdiv (IntKind.u64.wrap (BitVec.ofInt IntKind.u64.bits m0_0 ^^^ BitVec.ofInt IntKind.u64.bits (IntKind.u64.wrap (m0_0*2 ^ 13))).toNat) (2 ^ 7))).toNat) ^^^ BitVec.ofInt IntKind.u64.bits (IntKind.u64.wrap ((IntKind.u64.wrap (BitVec.ofInt IntKind.u64.bits (IntKind.u64.wrap (BitVec.ofInt IntKind.u64.bits m0_0 ^^^ BitVec.ofInt IntKind.u64.bits (IntKind.u64.wrap (m0_0*2 ^ 13))).toNat) ^^^ BitVec.ofInt IntKind.u64.bits (Int.fdiv (IntKind.u64.wrap (BitVec.ofInt IntKind.u64.bits m0_0 ^^^ BitVec.ofInt IntKind.u64.bits (IntKind.u64.wrap (m0_0*2 ^ 13))).toNat) (2 ^ 7))).toNat)*2 ^ 17))).toNat)))])])
theorem Zih {m0_0:Int}:∀r,Zdu=some r→evW ctx 138 [(.ptr 0 0)] [(.cells [(.d (D.int .u64 m0_0))])]=some ((ZfK m0_0) r):=by
 show ZO _ (fun r rhs=>rhs=some ((ZfK m0_0) r)) _
 unfold Zdu
 rw[ZfE ctx 138 Zxq _ _ rfl rfl]
 conv=>arg 3;whnf
 refine Zal rfl ?_;conv=>arg 3;whnf
 refine Zal rfl ?_;conv=>arg 3;whnf
 refine Zal rfl ?_;conv=>arg 3;whnf
 exact Zd rfl
def ZbC (t0:Bool) (t1:Bool) (t2:Bool) (t3:Bool) (b:Int) (c:Int) (m0_0:(List Int)) (m1_0:Int) (m1_1:Int) (m1_2:(List ZV)) (m1_3:(List Zm)) (m1_4:(List Zj)) (m1_5:(List Zr)):(List Int)→V×Zo
  | r=>((.d (D.tup [])),[(.arr 1 (List.map Zb r)),(.cells [(.d (Zb m1_0)),(.d (Zb m1_1)),(.d (D.list t0 (List.map Z1 m1_2))),(.d (D.list t1 (List.map ZF m1_3))),(.d (D.list t2 (List.map Zq m1_4))),(.d (D.list t3 (List.map Zv m1_5)))])])
def Zbn (t0:Bool) (t1:Bool) (t2:Bool) (t3:Bool) (b:Int) (c:Int) (m1_0:Int) (m1_1:Int) (m1_2:(List ZV)) (m1_3:(List Zm)) (m1_4:(List Zj)) (m1_5:(List Zr)) (x0:Int):(List Int)→Ex×List V×Zo
  | r=>(.exit 0,[],[(.arr 1 (List.map Zb r)),(.cells [(.d (Zb m1_0)),(.d (Zb m1_1)),(.d (D.list t0 (List.map Z1 m1_2))),(.d (D.list t1 (List.map ZF m1_3))),(.d (D.list t2 (List.map Zq m1_4))),(.d (D.list t3 (List.map Zv m1_5)))])])
theorem Zc6 {t0:Bool}{t1:Bool}{t2:Bool}{t3:Bool}{b:Int}{c:Int}{m1_0:Int}{m1_1:Int}{m1_2:(List ZV)}{m1_3:(List Zm)}{m1_4:(List Zj)}{m1_5:(List Zr)}{x0:Int}:∀(s1:Int×(List Int)×Int) (r:(List Int)),lp (ZaG b c x0) s1=some r→lpW ctx 2 [0,1,8,9,10,11] [] ZvA [(.sl 0 1),(.d (Zb b)),(.d (Zb (w64 (c-b)))),(.ptr 2 0),(.d (D.int .u64 x0)),(.d (Zb s1.1))] [(.arr 1 (List.map Zb s1.2.1)),(.cells [(.d (Zb m1_0)),(.d (Zb m1_1)),(.d (D.list t0 (List.map Z1 m1_2))),(.d (D.list t1 (List.map ZF m1_3))),(.d (D.list t2 (List.map Zq m1_4))),(.d (D.list t3 (List.map Zv m1_5)))]),(.cells [(.d (D.int .u64 s1.2.2))])]=some ((Zbn t0 t1 t2 t3 b c m1_0 m1_1 m1_2 m1_3 m1_4 m1_5 x0) r):=by
 refine ZaM (Zbn t0 t1 t2 t3 b c m1_0 m1_1 m1_2 m1_3 m1_4 m1_5 x0) ?_
 intro s1 rcl ih
 show ZO _ _ (lpW _ _ _ _ _ _ _)
 unfold ZaG
 rw[ZaN]
 conv=>arg 3;whnf
 refine Zal rfl ?_;conv=>arg 3;whnf
 refine Zf rfl ?_ ?_<;>conv=>arg 3;whnf
 ·refine Zc _ Zih fun x2 hx2=>?_;conv=>arg 3;whnf
  refine Zf rfl ?_ ?_<;>conv=>arg 3;whnf
  ·refine Zl rfl rfl fun x3 hx3=>?_;conv=>arg 3;whnf
   refine Zg (Zy rfl hx3) ?_;conv=>arg 3;whnf
   refine Zl rfl rfl fun x4 hx4=>?_;conv=>arg 3;whnf
   refine Zg (Zy rfl hx4) ?_;conv=>arg 3;whnf
   refine Zg (ZbO rfl hx4) ?_;conv=>arg 3;whnf
   refine Zg (Zy rfl hx4) ?_;conv=>arg 3;whnf
   refine Zn (Zax Zb s1.2.1 s1.1.toNat x3) ?_;conv=>arg 3;whnf
   refine Zl rfl rfl fun x5 hx5=>?_;conv=>arg 3;whnf
   refine Zg (Zy rfl hx5) ?_;conv=>arg 3;whnf
   refine Zn (Zax Zb (List.set s1.2.1 s1.1.toNat x3) (w64 (b+(w64 ((w64 (IntKind.u64.wrap (BitVec.ofInt IntKind.u64.bits (IntKind.u64.wrap (BitVec.ofInt IntKind.u64.bits (IntKind.u64.wrap (BitVec.ofInt IntKind.u64.bits (IntKind.u64.wrap (BitVec.ofInt IntKind.u64.bits s1.2.2 ^^^ BitVec.ofInt IntKind.u64.bits (IntKind.u64.wrap (s1.2.2*2 ^ 13))).toNat) ^^^ BitVec.ofInt IntKind.u64.bits (Int.fdiv (IntKind.u64.wrap (BitVec.ofInt IntKind.u64.bits s1.2.2 ^^^ BitVec.ofInt IntKind.u64.bits (IntKind.u64.wrap (s1.2.2*2 ^ 13))).toNat) (2 ^ 7))).toNat) ^^^ BitVec.ofInt IntKind.u64.bits (IntKind.u64.wrap ((IntKind.u64.wrap (BitVec.ofInt IntKind.u64.bits (IntKind.u64.wrap (BitVec.ofInt IntKind.u64.bits s1.2.2 ^^^ BitVec.ofInt IntKind.u64.bits (IntKind.u64.wrap (s1.2.2*2 ^ 13))).toNat) ^^^ BitVec.ofInt IntKind.u64.bits (Int.fdiv (IntKind.u64.wrap (BitVec.ofInt IntKind.u64.bits s1.2.2 ^^^ BitVec.ofInt IntKind.u64.bits (IntKind.u64.wrap (s1.2.2*2 ^ 13))).toNat) (2 ^ 7))).toNat)*2 ^ 17))).toNat) &&& BitVec.ofInt IntKind.u64.bits (IntKind.u64.wrap (x0-1))).toNat))-(w64 (c-b)))))).toNat x4) ?_;conv=>arg 3;whnf
   exact Ze (ih _)
  ·refine Zl rfl rfl fun x6 hx6=>?_;conv=>arg 3;whnf
   refine Zg (Zy rfl hx6) ?_;conv=>arg 3;whnf
   refine Zl rfl rfl fun x7 hx7=>?_;conv=>arg 3;whnf
   refine Zg (Zy rfl hx7) ?_;conv=>arg 3;whnf
   refine Zg (ZbO rfl hx7) ?_;conv=>arg 3;whnf
   refine Zg (Zy rfl hx7) ?_;conv=>arg 3;whnf
   refine Zn (Zax Zb s1.2.1 s1.1.toNat x6) ?_;conv=>arg 3;whnf
   refine Zl rfl rfl fun x8 hx8=>?_;conv=>arg 3;whnf
   refine Zg (Zy rfl hx8) ?_;conv=>arg 3;whnf
   refine Zn (Zax Zb (List.set s1.2.1 s1.1.toNat x6) (w64 (b+(w64 (IntKind.u64.wrap (BitVec.ofInt IntKind.u64.bits (IntKind.u64.wrap (BitVec.ofInt IntKind.u64.bits (IntKind.u64.wrap (BitVec.ofInt IntKind.u64.bits (IntKind.u64.wrap (BitVec.ofInt IntKind.u64.bits s1.2.2 ^^^ BitVec.ofInt IntKind.u64.bits (IntKind.u64.wrap (s1.2.2*2 ^ 13))).toNat) ^^^ BitVec.ofInt IntKind.u64.bits (Int.fdiv (IntKind.u64.wrap (BitVec.ofInt IntKind.u64.bits s1.2.2 ^^^ BitVec.ofInt IntKind.u64.bits (IntKind.u64.wrap (s1.2.2*2 ^ 13))).toNat) (2 ^ 7))).toNat) ^^^ BitVec.ofInt IntKind.u64.bits (IntKind.u64.wrap ((IntKind.u64.wrap (BitVec.ofInt IntKind.u64.bits (IntKind.u64.wrap (BitVec.ofInt IntKind.u64.bits s1.2.2 ^^^ BitVec.ofInt IntKind.u64.bits (IntKind.u64.wrap (s1.2.2*2 ^ 13))).toNat) ^^^ BitVec.ofInt IntKind.u64.bits (Int.fdiv (IntKind.u64.wrap (BitVec.ofInt IntKind.u64.bits s1.2.2 ^^^ BitVec.ofInt IntKind.u64.bits (IntKind.u64.wrap (s1.2.2*2 ^ 13))).toNat) (2 ^ 7))).toNat)*2 ^ 17))).toNat) &&& BitVec.ofInt IntKind.u64.bits (IntKind.u64.wrap (x0-1))).toNat)))).toNat x7) ?_;conv=>arg 3;whnf
   exact Ze (ih _)
 ·exact Zd rfl
theorem ZbA {t0:Bool}{t1:Bool}{t2:Bool}{t3:Bool}{b:Int}{c:Int}{m0_0:(List Int)}{m1_0:Int}{m1_1:Int}{m1_2:(List ZV)}{m1_3:(List Zm)}{m1_4:(List Zj)}{m1_5:(List Zr)}:∀r,(Zac b c (fun z0 z1=>Zt z0 z1 m1_4) m0_0)=some r→evW ctx 128 [(.sl 0 1),(.d (Zb b)),(.d (Zb c)),(.fn 118 [(.ptr 1 0)])] [(.arr 1 (List.map Zb m0_0)),(.cells [(.d (Zb m1_0)),(.d (Zb m1_1)),(.d (D.list t0 (List.map Z1 m1_2))),(.d (D.list t1 (List.map ZF m1_3))),(.d (D.list t2 (List.map Zq m1_4))),(.d (D.list t3 (List.map Zv m1_5)))])]=some ((ZbC t0 t1 t2 t3 b c m0_0 m1_0 m1_1 m1_2 m1_3 m1_4 m1_5) r):=by
 show ZO _ (fun r rhs=>rhs=some ((ZbC t0 t1 t2 t3 b c m0_0 m1_0 m1_1 m1_2 m1_3 m1_4 m1_5) r)) _
 unfold Zac
 rw[ZfE ctx 128 Zx7 _ _ rfl rfl]
 conv=>arg 3;whnf
 refine Zf rfl ?_ ?_<;>conv=>arg 3;whnf
 ·refine Zp _ ZhQ rfl fun x0 hx0=>?_;conv=>arg 3;whnf
  refine Zal rfl ?_;conv=>arg 3;whnf
  refine Zc _ (Zc6 _) fun r9 hr9=>?_;conv=>arg 3;whnf
  exact Zd rfl
 ·exact Zd rfl
end Go.Proofs.YtnmbdjkbaihicaaDoor
