/- EvalOrder: part 5 of 6 of the proof. -/
import Derived.Test.YtnmbdjkbaihicaaDoorZEvalOrderd
import Derived.KernelRfl
set_option maxRecDepth 100000
set_option maxHeartbeats 40000000
namespace Go.Proofs.YtnmbdjkbaihicaaDoor
open Go Go.Proofs.YtnmbdjkbaihicaaDoorE
set_option linter.unusedVariables false
set_option linter.unusedSimpArgs false
theorem Zgu (b:Zh) (c:Int) {W:List Int}{P:List Zh} (h1:W.length≤10000) (h2:P.length≤10000):Zal b c W P=some ():=by
 unfold Zal
 rw[Zfx (by omega),Zfx (by omega)];rfl
theorem Zi9 (b c:Int) {E:List Zm} (h1:E.length≤10000):ZI b c E=some ():=by
 unfold ZI
 rw[Zfx (by omega)];rfl
theorem Zrl {β:Type} (P:List β) (x:β) (hP:P.length≤10000):w64 ((List.length (P++[x]):Int)-1)=(P.length:Int):=by
 rw[List.length_append]
 simp only[List.length_cons,List.length_nil]
 rw[ZcD (by omega) (by omega)]
 omega
theorem Zu6 {d:Zj} (g:ZcS d) {n:Nat} (hn:n<d.parts.length) (hc:Zcz d (n:Int)=some (tch d n)) {W:List Int}{E:List Zm}{P:List Zh} (M5:List (Int×Int)) (M6:List (Zi×Int)) (hW:W.length≤1000) (hE:E.length≤1000) (hP:P.length≤1000) :
  Zdk d (n:Int) W E P M5 M6=(lp (ZB d (n:Int) (tch d n)) (0,0,M5,M6,W,E,P)).bind fun r=>some (bif decide (0<nt d n) then .inl r else .inr (.inl r.2.2.1)):=by
 obtain⟨x,x1,x2⟩:=Zuf hn
 have hnt:=ZwK g n
 have hnl:(tch d n).length=nt d n:=rfl
 have e1:w64 (((tch d n).length:Int)+1)=(((tch d n).length+1:Nat):Int):=by rw[ZcD (by omega) (by omega)];omega
 have w1:w64 ((0:Int)+1)=1:=ZcD (by omega) (by omega)
 have w2:w64 ((1:Int)+1)=2:=ZcD (by omega) (by omega)
 have w0:w64 ((1:Int)-1)=0:=ZcD (by omega) (by omega)
 have lW:∀a:Int,(W++[a]).length≤10000:=fun a=>by rw[List.length_append];simp only[List.length_cons,List.length_nil];omega
 have lP:∀a:Zh,(P++[a]).length≤10000:=fun a=>by rw[List.length_append];simp only[List.length_cons,List.length_nil];omega
 unfold Zdk
 rw[hc,Option.bind_some,Za1 (Zbt d (n:Int) W E P M5 M6 (tch d n)),Za1 (ZB d (n:Int) (tch d n))]
 by_cases h0:0<nt d n
 ·obtain⟨f,f1,f2,_⟩:=Zi0 g.g h0
  have c0:decide ((0:Int)<(((tch d n).length+1:Nat):Int))=true:=decide_eq_true (by omega)
  have c1:decide ((0:Int)<((tch d n).length:Int))=true:=decide_eq_true (by omega)
  have c2:decide ((1:Int)<(((tch d n).length+1:Nat):Int))=true:=decide_eq_true (by omega)
  have f1':ZE (tch d n) 0=some (tch d n)[0]:=f1
  simp only[Zbt,ZB,e1,c0,c1,cond_true,x1,Option.bind_some,f1',f2,Zgu _ _ (show W.length≤10000 by omega) (show P.length≤10000 by omega),w1,decide_eq_false (show ¬(0:Int)<0 by omega),cond_false,decide_eq_true h0]
  rw[Za1 (Zbs d (n:Int) W E P M5 M6 (tch d n) f),Za1 (ZB d (n:Int) (tch d n))]
  by_cases h1:1<nt d n
  ·obtain⟨f',f1b,f2b,_⟩:=Zi0 g.g h1
   have f1b':ZE (tch d n) 1=some (tch d n)[1]:=f1b
   have c3:decide ((1:Int)<((tch d n).length:Int))=true:=decide_eq_true (by omega)
   simp only[Zbs,ZB,e1,c2,c3,cond_true,x1,Option.bind_some,f1',f2,f1b',f2b,Zgu _ _ (lW _) (lP _),Zi9 _ _ (show E.length≤10000 by omega),w2,w0,decide_eq_true (show(0:Int)<1 by omega)]
   generalize lp (ZB d (n:Int) (tch d n)) _=r
   cases r<;>rfl
  ·have c3:decide ((1:Int)<((tch d n).length:Int))=false:=decide_eq_false (by omega)
   simp only[Zbs,ZB,e1,c2,c3,cond_true,cond_false,x1,Option.bind_some,f1',f2,Zgu _ _ (lW _) (lP _),Zi9 _ _ (show E.length≤10000 by omega),w2,w0,decide_eq_true (show(0:Int)<1 by omega)]
   generalize lp (ZB d (n:Int) (tch d n)) _=r
   cases r<;>rfl
 ·have c0:decide ((0:Int)<(((tch d n).length+1:Nat):Int))=true:=decide_eq_true (by omega)
  have c1:decide ((0:Int)<((tch d n).length:Int))=false:=decide_eq_false (by omega)
  have c2:decide ((1:Int)<(((tch d n).length+1:Nat):Int))=false:=decide_eq_false (by omega)
  simp only[Zbt,ZB,e1,c0,c1,cond_true,x1,Option.bind_some,Zgu _ _ (show W.length≤10000 by omega) (show P.length≤10000 by omega),w1,decide_eq_false (show ¬(0:Int)<0 by omega),cond_false,decide_eq_false h0]
  rw[Za1 (Zcg d (n:Int) W E P M5 M6 (tch d n) x),Za1 (ZB d (n:Int) (tch d n))]
  simp only[Zcg,ZB,e1,c2,cond_false,Option.bind_some]
abbrev eqF:Zi→Zi→Bool:=fun ka kb:Zi=>((ka.maker==kb.maker)&&((ka.user==kb.user)&&((ka.pos==kb.pos)&&true)))
def Zig (M:List (Int×Int)) (n F i:Nat):List (Int×Int):=if i=0 then M else M++[((n:Int),((F+i-1:Nat):Int))]
theorem Zsv {M:List (Int×Int)}{n F:Nat} (h:∀q∈M,q.1≠(n:Int)) (i:Nat):Zu (fun ka kb:Int=>(ka==kb)) (Zig M n F i) (n:Int) ((F+i:Nat):Int)=Zig M n F (i+1):=by
 have hq:∀q∈M,eqI (n:Int) q.1=false:=fun q hq=>by
  show((n:Int)==q.1)=false
  exact beq_false_of_ne (Ne.symm (h q hq))
 unfold Zig
 rw[if_neg (show i+1≠0 by omega)]
 by_cases h0:i=0
 ·subst h0
  rw[if_pos rfl]
  exact ZgB eqI (n:Int) _ M hq
 ·rw[if_neg h0]
  exact Znl eqI (n:Int) _ _ (by simp) M hq
theorem ZrC {M:List (Int×Int)}{n F:Nat} (h:∀q∈M,q.1≠(n:Int)) (i:Nat):Z4 (fun ka kb:Int=>(ka==kb)) (Zig M n F (i+1)) (n:Int) 0=((F+i:Nat):Int):=by
 unfold Zig
 rw[if_neg (show i+1≠0 by omega)]
 exact Zp7 eqI (n:Int) 0 _ (by simp) M [] (fun q hq=>by
  show((n:Int)==q.1)=false
  exact beq_false_of_ne (Ne.symm (h q hq)))
def ZfI (d:Zj) (n j:Nat):Zi:=match (tch d n)[j]? with | some z=>(match d.futures[z.toNat]? with | some f=>f | none=>⟨0,0,0⟩) | none=>⟨0,0,0⟩
theorem Zfm {d:Zj}{n i:Nat} (g:ZlC d) (hi:i<nt d n):ZE (tch d n) (i:Int)=some (tch d n)[i]∧ZE d.futures (tch d n)[i]=some (ZfI d n i)∧(ZfI d n i).user=(n:Int)∧(ZfI d n i).pos=cut d n (i+1)∧ZfI d n i∈d.futures:=by
 obtain⟨f,h1,h2,h3,h4,h5,h6⟩:=Zi0 g hi
 have e:ZfI d n i=f:=by
  unfold ZfI
  rw[List.getElem?_eq_getElem hi]
  show(match d.futures[((tch d n)[i]).toNat]? with | some f=>f | none=>⟨0,0,0⟩)=f
  rw[h3]
 rw[e]
 exact⟨h1,h2,h4,h5,h6⟩
theorem ZoB {d:Zj} (g:ZlC d) {n i j:Nat} (hij:i<j) (hj:j<nt d n):(ZfI d n i).pos<(ZfI d n j).pos:=by
 obtain⟨_,_,h3,_,_,h5,_⟩:=Zi0 g (show i<nt d n by omega)
 obtain⟨_,_,k3,_,_,k5,_⟩:=Zi0 g hj
 rw[(Zfm g (show i<nt d n by omega)).2.2.2.1,(Zfm g hj).2.2.2.1]
 have:=List.pairwise_iff_getElem.1 (ZlA g n).rise i j (show i<nt d n by omega) hj hij
 have e:∀k (hk:k<nt d n),cut d n (k+1)=ZeI d.futures (tch d n)[k]:=fun k hk=>by
  unfold cut
  rw[if_neg (by omega),Nat.add_sub_cancel,List.getElem?_eq_getElem hk]
 rw[e i (by omega),e j hj]
 exact this
def ZfA (d:Zj) (n k:Nat):List (Zi×Int):=(List.range k).map fun j:Nat=>(ZfI d n j,((ZP d n+j+1:Nat):Int))
theorem Zru (d:Zj) (n k:Nat):ZfA d n (k+1)=ZfA d n k++[(ZfI d n k,((ZP d n+k+1:Nat):Int))]:=by unfold ZfA;rw[List.range_succ,List.map_append];rfl
theorem Zq3 {a b:Zi} (h:a.user≠b.user∨a.pos≠b.pos):eqF a b=false:=by
 show((a.maker==b.maker)&&((a.user==b.user)&&((a.pos==b.pos)&&true)))=false
 rcases h with h | h
 ·rw[beq_false_of_ne h];simp
 ·rw[beq_false_of_ne h];simp
theorem ZoA {d:Zj} (g:ZlC d) {n k:Nat} (hk:k<nt d n) {M:List (Zi×Int)} (h:∀q∈M,q.1.user≠(n:Int)) :
  Zu (fun ka kb:Zi=>((ka.maker==kb.maker)&&((ka.user==kb.user)&&((ka.pos==kb.pos)&&true)))) (M++ZfA d n k) (ZfI d n k) ((ZP d n+(k+1):Nat):Int)=M++ZfA d n (k+1):=by
 rw[Zru,← List.append_assoc]
 refine ZgB eqF _ _ _ fun q hq=>?_
 have hu:=(Zfm g hk).2.2.1
 rcases List.mem_append.1 hq with hq | hq
 ·exact Zq3 (.inl (by rw[hu];exact Ne.symm (h q hq)))
 ·unfold ZfA at hq
  obtain⟨j,hj,rfl⟩:=List.mem_map.1 hq
  rw[List.mem_range] at hj
  have:=ZoB g hj hk
  exact Zq3 (.inr (by show(ZfI d n k).pos≠(ZfI d n j).pos;omega))
theorem Ztr {d:Zj} (g:ZcS d) {n:Nat} (hn:n<d.parts.length) {W:List Int}{E:List Zm}{P:List Zh}{M5:List (Int×Int)}{M6:List (Zi×Int)} (hW:W.length≤1000) (hE:E.length≤1000) (hP:P.length=ZP d n)
  (h5:∀q∈M5,q.1≠(n:Int)) (h6:∀q∈M6,q.1.user≠(n:Int)) :
  lp (ZB d (n:Int) (tch d n)) (0,0,M5,M6,W,E,P)=some (M5++[((n:Int),((ZP d n+nt d n:Nat):Int))],M6++ZfA d n (nt d n),W++ZoR d n,E++Zge d n (nt d n),P++Zec n (nt d n+1)):=by
 obtain⟨x,x1,x2⟩:=Zuf hn
 have hnt:=ZwK g n
 have hnl:(tch d n).length=nt d n:=rfl
 have hF:=Zhz g n
 have hpl:=g.pl
 have e1:w64 (((tch d n).length:Int)+1)=((nt d n+1:Nat):Int):=by show w64 ((nt d n:Int)+1)=_;rw[ZcD (by omega) (by omega)];omega
 have key:∀(k i:Nat),i+k=nt d n+1→lp (ZB d (n:Int) (tch d n)) (cut d n i,(i:Int),Zig M5 n (ZP d n) i,M6++ZfA d n (i-1),W++Zi8 d n i,E++Zge d n (i-1),P++Zec n i) =
   some (Zig M5 n (ZP d n) (nt d n+1),M6++ZfA d n (nt d n),W++ZoR d n,E++Zge d n (nt d n),P++Zec n (nt d n+1)):=by
  intro k
  induction k with
  | zero=>
   intro i hi
   have:i=nt d n+1:=by omega
   subst this
   rw[Za1]
   simp only[ZB,e1,Ze8,cond_false]
   rfl
  | succ k ih=>
   intro i hi
   have hi':i<nt d n+1:=by omega
   have b0:=ZyP g.g n i
   have b1:=ZyP g.g n (i+1)
   have lP:(P++Zec n i).length=ZP d n+i:=by rw[List.length_append,Zne,hP]
   have l2:(W++Zi8 d n i).length≤10000:=by rw[List.length_append,Zpb];omega
   have l3:(E++Zge d n (i-1)).length≤10000:=by rw[List.length_append,ZoS];omega
   have lput:=Zrl (P++Zec n i) (Zh.mk (n:Int) (i:Int)) (by rw[lP];omega)
   rw[lP] at lput
   have p5:=Zsv (F:=ZP d n) h5 i
   have g5:=ZrC (F:=ZP d n) h5 i
   have w5:w64 (cut d n (i+1)-cut d n i)=cut d n (i+1)-cut d n i:=ZcD (by omega) (by omega)
   have ih':=ih (i+1) (by omega)
   rw[ZrG,ZqJ,← List.append_assoc,← List.append_assoc] at ih'
   rw[Za1]
   have fin:i=nt d n→cut d n (i+1)=x.work:=fun h=>by rw[h,Zyg,x2]
   have node:=fun c=>Zgu (Zh.mk (n:Int) (i:Int)) c l2 (show(P++Zec n i).length≤10000 by rw[lP];omega)
   by_cases hlast:i<nt d n
   ·obtain⟨q1,q2,q3,q4,_⟩:=Zfm g.g hlast
    cases i with
    | zero=>
     simp only[ZB,e1,Zet hi',cond_true,x1,Option.bind_some,Zet (show 0<(tch d n).length from hlast),q1,q2,q4,node,decide_eq_false (show ¬(0:Int)<((0:Nat):Int) by omega),cond_false,lput,p5,w5,ZZ hi' (show nt d n+1<9223372036854775808 by omega)]
     exact ih'
    | succ j=>
     obtain⟨r1,r2,r3,r4,_⟩:=Zfm g.g (show j<nt d n by omega)
     have e2:w64 (((j+1:Nat):Int)-1)=(j:Int):=by rw[ZcD (by omega) (by omega)];omega
     have e3:w64 (((ZP d n+(j+1):Nat):Int)-1)=((ZP d n+j:Nat):Int):=by rw[ZcD (by omega) (by omega)];omega
     have p6:=ZoA g.g (show j<nt d n by omega) h6
     rw[Nat.add_sub_cancel] at l3 ih' ⊢
     rw[Znk,← List.append_assoc] at ih'
     simp only[ZB,e1,Zet hi',cond_true,x1,Option.bind_some,Zet (show j+1<(tch d n).length from hlast),q1,q2,q4,node,decide_eq_true (show(0:Int)<((j+1:Nat):Int) by omega),lput,p5,g5,w5,e2,e3,r1,r2,Zi9 _ _ l3,p6,ZZ hi' (show nt d n+1<9223372036854775808 by omega)]
     exact ih'
   ·have hin:i=nt d n:=by omega
    have hfin:=fin hin
    rw[hfin] at w5 ih'
    have c3:decide ((i:Int)<((tch d n).length:Int))=false:=decide_eq_false (by have:((tch d n).length:Int)=(nt d n:Int):=rfl;omega)
    cases i with
    | zero=>
     simp only[ZB,e1,Zet hi',cond_true,x1,Option.bind_some,c3,node,decide_eq_false (show ¬(0:Int)<((0:Nat):Int) by omega),cond_false,lput,p5,w5,ZZ hi' (show nt d n+1<9223372036854775808 by omega)]
     exact ih'
    | succ j=>
     obtain⟨r1,r2,r3,r4,_⟩:=Zfm g.g (show j<nt d n by omega)
     have e2:w64 (((j+1:Nat):Int)-1)=(j:Int):=by rw[ZcD (by omega) (by omega)];omega
     have e3:w64 (((ZP d n+(j+1):Nat):Int)-1)=((ZP d n+j:Nat):Int):=by rw[ZcD (by omega) (by omega)];omega
     have p6:=ZoA g.g (show j<nt d n by omega) h6
     rw[Nat.add_sub_cancel] at l3 ih' ⊢
     rw[Znk,← List.append_assoc] at ih'
     simp only[ZB,e1,Zet hi',cond_true,cond_false,x1,Option.bind_some,c3,node,decide_eq_true (show(0:Int)<((j+1:Nat):Int) by omega),lput,p5,g5,w5,e2,e3,r1,r2,Zi9 _ _ l3,p6,ZZ hi' (show nt d n+1<9223372036854775808 by omega)]
     exact ih'
 have:=key (nt d n+1) 0 (by omega)
 simpa [Zig,ZfA,Zi8,Zge,Zec,cut] using this
end Go.Proofs.YtnmbdjkbaihicaaDoor
namespace Go.Proofs.YtnmbdjkbaihicaaDoor
open Go Go.Proofs.YtnmbdjkbaihicaaDoorE
set_option linter.unusedVariables false
set_option linter.unusedSimpArgs false
def ZlI (g:Zb1) (a:Int) (T:List Bool):Prop:=∀e∈g.edges,(e.src=a∨bAt T e.src=true)→bAt T e.dst=true
def cnt (T:List Bool):Nat:=T.countP id
theorem Zyh {T:List Bool}{i:Nat} (hi:i<T.length):cnt T≤cnt (T.set i true)∧(bAt T (i:Int)=false→cnt (T.set i true)=cnt T+1):=by
 have e:=List.countP_set (p:=id) (a:=true) hi
 have hb:bAt T (i:Int)=T[i]:=by unfold bAt;rw[Int.toNat_natCast,List.getElem?_eq_getElem hi]
 unfold cnt
 rw[e,hb]
 have pos:T[i]=true→0<T.countP id:=fun ht=>List.countP_pos_iff.2 ⟨T[i],List.getElem_mem hi,ht⟩
 cases ht:T[i] with
 | true=>have:=pos ht;simp;omega
 | false=>simp
end Go.Proofs.YtnmbdjkbaihicaaDoor
namespace Go.Proofs.YtnmbdjkbaihicaaDoor
open Go Go.Proofs.YtnmbdjkbaihicaaDoorE
set_option linter.unusedVariables false
set_option linter.unusedSimpArgs false
def Zfp (d:Zj) (k:Nat):List (Int×Int):=(List.range k).map fun n:Nat=>((n:Int),(ZP d n:Int))
def ZfP (d:Zj) (k:Nat):List (Int×Int):=(List.range k).map fun n:Nat=>((n:Int),((ZP d n+nt d n:Nat):Int))
def ZdM (d:Zj) (k:Nat):List (Zi×Int):=upto (fun n=>ZfA d n (nt d n)) k
theorem Zq7 (d:Zj) (k:Nat):Zfp d (k+1)=Zfp d k++[((k:Int),(ZP d k:Int))]:=by unfold Zfp;rw[List.range_succ,List.map_append];rfl
theorem Zr1 (d:Zj) (k:Nat):ZfP d (k+1)=ZfP d k++[((k:Int),((ZP d k+nt d k:Nat):Int))]:=by unfold ZfP;rw[List.range_succ,List.map_append];rfl
theorem Zs9 (d:Zj) (k:Nat):∀q∈Zfp d k,q.1≠(k:Int):=fun q hq=>by
 unfold Zfp at hq
 obtain⟨j,hj,rfl⟩:=List.mem_map.1 hq
 rw[List.mem_range] at hj
 show(j:Int)≠(k:Int)
 omega
theorem Zqj (d:Zj) (k:Nat):∀q∈ZfP d k,q.1≠(k:Int):=fun q hq=>by
 unfold ZfP at hq
 obtain⟨j,hj,rfl⟩:=List.mem_map.1 hq
 rw[List.mem_range] at hj
 show(j:Int)≠(k:Int)
 omega
theorem ZlS {d:Zj}{k:Nat}{q:Zi×Int} (h:q∈ZdM d k):∃n j,n<k∧j<nt d n∧q=(ZfI d n j,((ZP d n+j+1:Nat):Int)):=by
 unfold ZdM upto at h
 obtain⟨n,hn,hq⟩:=List.mem_flatMap.1 h
 unfold ZfA at hq
 obtain⟨j,hj,rfl⟩:=List.mem_map.1 hq
 exact⟨n,j,List.mem_range.1 hn,List.mem_range.1 hj,rfl⟩
theorem Zsm {d:Zj} (g:ZlC d) (k:Nat):∀q∈ZdM d k,q.1.user≠(k:Int):=fun q hq=>by
 obtain⟨n,j,hn,hj,rfl⟩:=ZlS hq
 show(ZfI d n j).user≠(k:Int)
 rw[(Zfm g hj).2.2.1]
 omega
theorem Zhq {K W:Type} (eq:K→K→Bool) (z:W) (f:Nat→K) (v:Nat→W) {i:Nat} (h0:eq (f i) (f i)=true) (h1:∀j,j<i→eq (f i) (f j)=false):∀k,i<k→Z4 eq ((List.range k).map fun j=>(f j,v j)) (f i) z=v i
 | 0,h=>absurd h (by omega)
 | k+1,h=>by
  rw[List.range_succ,List.map_append]
  by_cases hk:i<k
  ·rw[Zhi eq (f i) z _ _ ⟨(f i,v i),List.mem_map.2 ⟨i,List.mem_range.2 hk,rfl⟩,h0⟩]
   exact Zhq eq z f v h0 h1 k hk
  ·have:i=k:=by omega
   subst this
   refine Zp7 eq (f i) z (v i) h0 _ [] fun q hq=>?_
   obtain⟨j,hj,rfl⟩:=List.mem_map.1 hq
   exact h1 j (List.mem_range.1 hj)
theorem Zql {d:Zj}{z:Int} (h:inR d z):Z4 (fun ka kb:Int=>(ka==kb)) (Zfp d d.parts.length) z 0=Zg7 d z:=by
 have:=Zhq eqI 0 (fun n:Nat=>(n:Int)) (fun n=>(ZP d n:Int)) (i:=z.toNat) (by simp) (fun j hj=>beq_false_of_ne (by omega)) d.parts.length h.2
 have e:((z.toNat:Nat):Int)=z:=Int.toNat_of_nonneg h.1
 simp only[e] at this
 exact this
theorem ZoY {d:Zj}{z:Int} (h:inR d z):Z4 (fun ka kb:Int=>(ka==kb)) (ZfP d d.parts.length) z 0=ZcR d z:=by
 have:=Zhq eqI 0 (fun n:Nat=>(n:Int)) (fun n=>((ZP d n+nt d n:Nat):Int)) (i:=z.toNat) (by simp) (fun j hj=>beq_false_of_ne (by omega)) d.parts.length h.2
 have e:((z.toNat:Nat):Int)=z:=Int.toNat_of_nonneg h.1
 simp only[e] at this
 refine Eq.trans this ?_
 unfold ZcR
 show _=((ZP d z.toNat+(nt d z.toNat+1):Nat):Int)-1
 omega
theorem Zrr {d:Zj} (g:ZcS d) {f:Zi} (h:f∈d.futures):∃j,j<nt d f.user.toNat∧ZfI d f.user.toNat j=f:=by
 obtain⟨m,hm⟩:=List.getElem?_of_mem h
 have hu:=g.user h
 have e:((f.user.toNat:Nat):Int)=f.user:=Int.toNat_of_nonneg hu.1
 have:=(ZlA g.g f.user.toNat).mem (m:Int) |>.2 ⟨m,f,hm,e.symm,rfl⟩
 obtain⟨j,hj,hj2⟩:=List.getElem_of_mem this
 refine⟨j,hj,?_⟩
 unfold ZfI
 rw[List.getElem?_eq_getElem hj]
 show(match d.futures[((tch d f.user.toNat)[j]).toNat]? with | some f=>f | none=>⟨0,0,0⟩)=f
 rw[hj2,Int.toNat_natCast,hm]
theorem Zt0 {γ R:Type} (p:Nat→γ→Bool) (out:Nat→γ→R) (fin:R):∀(l:List γ) (i j:Nat) (x:γ),l[j]? = some x→p (i+j) x=true→(∀k y,k<j→l[k]? = some y→p (i+k) y=false)→Zhu p out fin i l=out (i+j) x
 | [],i,j,x,h,_,_=>by cases h
 | y :: l,i,0,x,h,h1,_=>by
  cases h
  unfold Zhu
  rw[Nat.add_zero] at h1
  rw[h1];rfl
 | y :: l,i,j+1,x,h,h1,h2=>by
  unfold Zhu
  have h0:=h2 0 y (by omega) rfl
  rw[Nat.add_zero] at h0
  rw[h0]
  show Zhu p out fin (i+1) l=_
  rw[show i+(j+1)=i+1+j by omega] at h1 ⊢
  exact Zt0 p out fin l (i+1) j x h h1 fun k z hk hz=>by
   have:=h2 (k+1) z (by omega) hz
   rwa [show i+(k+1)=i+1+k by omega] at this
theorem ZtR {d:Zj} (g:ZcS d) {f:Zi} (h:f∈d.futures) {j:Nat} (hj:j<nt d f.user.toNat) (he:ZfI d f.user.toNat j=f):Zsh d f=((ZP d f.user.toNat+j+1:Nat):Int):=by
 have pos:∀k (hk:k<nt d f.user.toNat),ZeI d.futures (tch d f.user.toNat)[k]=(ZfI d f.user.toNat k).pos:=fun k hk=>by
  rw[(Zfm g.g hk).2.2.2.1]
  unfold cut
  rw[if_neg (by omega),Nat.add_sub_cancel,List.getElem?_eq_getElem hk]
 unfold Zsh
 rw[Zt0 (fun _ z=>ZeI d.futures z==f.pos) (fun i _=>Zg7 d f.user+(i:Int)+1) (-1) (tch d f.user.toNat) 0 j _ (List.getElem?_eq_getElem hj) (by show(ZeI d.futures (tch d f.user.toNat)[j]==f.pos)=true;rw[pos j hj,he];simp) (fun k y hk hy=>by
  have hk2:k<nt d f.user.toNat:=by omega
  have hy2:(tch d f.user.toNat)[k]=y:=Option.some.inj ((List.getElem?_eq_getElem hk2).symm.trans hy)
  have:=ZoB g.g hk hj
  rw[he] at this
  show(ZeI d.futures y==f.pos)=false
  rw[← hy2,pos k hk2]
  exact beq_false_of_ne (by omega))]
 unfold Zg7
 omega
theorem Zrs (f:Zi):eqF f f=true:=by simp[eqF]
theorem ZuQ {d:Zj} (g:ZcS d) {f:Zi} (h:f∈d.futures):Z4 (fun ka kb:Zi=>((ka.maker==kb.maker)&&((ka.user==kb.user)&&((ka.pos==kb.pos)&&true)))) (ZdM d d.parts.length) f 0=Zsh d f:=by
 obtain⟨j,hj,he⟩:=Zrr g h
 have hu:=g.user h
 have eu:((f.user.toNat:Nat):Int)=f.user:=Int.toNat_of_nonneg hu.1
 have key:∀k,f.user.toNat<k→Z4 eqF (ZdM d k) f 0=Zsh d f:=by
  intro k
  induction k with
  | zero=>intro hk;exact absurd hk (by omega)
  | succ k ih=>
   intro hk
   rw[show ZdM d (k+1)=ZdM d k++ZfA d k (nt d k) from ZcN _ k]
   by_cases hlt:f.user.toNat<k
   ·rw[Zhi eqF f 0 _ _ ⟨(f,((ZP d f.user.toNat+j+1:Nat):Int)),?_,Zrs f⟩]
    ·exact ih hlt
    ·unfold ZdM upto
     refine List.mem_flatMap.2 ⟨f.user.toNat,List.mem_range.2 hlt,?_⟩
     unfold ZfA
     exact List.mem_map.2 ⟨j,List.mem_range.2 hj,by rw[he]⟩
   ·have hk2:k=f.user.toNat:=by omega
    subst hk2
    rw[ZgH eqF f 0 _ _ (fun q hq=>by
     obtain⟨n,i,hn,hi,rfl⟩:=ZlS hq
     refine Zq3 (.inl ?_)
     show f.user≠(ZfI d n i).user
     rw[(Zfm g.g hi).2.2.1]
     omega)]
    have:=Zhq eqF 0 (fun i=>ZfI d f.user.toNat i) (fun i=>((ZP d f.user.toNat+i+1:Nat):Int)) (i:=j) (Zrs _) (fun i hi=>by
     have:=ZoB g.g hi hj
     exact Zq3 (.inr (by omega))) (nt d f.user.toNat) hj
    rw[ZtR g h hj he]
    rw[he] at this
    exact this
 exact key d.parts.length hu.2
theorem Ztx {d:Zj} (g:ZcS d) (hc:∀n:Nat,Zcz d (n:Int)=some (tch d n)):lp (Zcr d) (0,[],[],[],[],[],[])=some (Zhg d d.parts.length,Zf6 d d.parts.length,ZcE d d.parts.length,Zfp d d.parts.length,ZfP d d.parts.length,ZdM d d.parts.length):=by
 have hpl:=g.pl
 have key:∀(k i:Nat),i+k=d.parts.length→lp (Zcr d) ((i:Int),Zhg d i,Zf6 d i,ZcE d i,Zfp d i,ZfP d i,ZdM d i)=some (Zhg d d.parts.length,Zf6 d d.parts.length,ZcE d d.parts.length,Zfp d d.parts.length,ZfP d d.parts.length,ZdM d d.parts.length):=by
  intro k
  induction k with
  | zero=>
   intro i hi
   have:i=d.parts.length:=by omega
   subst this
   rw[Za1]
   simp only[Zcr,Ze8,cond_false]
  | succ k ih=>
   intro i hi
   have hi':i<d.parts.length:=by omega
   have hF:=Zhz g i
   have h1:=ZlG d i
   have l1:(Zhg d i).length≤1000:=by rw[Zi3];omega
   have l2:(Zf6 d i).length≤1000:=by omega
   have l3:(ZcE d i).length≤1000:=by rw[ZcC];omega
   have ih':=ih (i+1) (by omega)
   rw[show Zf6 d (i+1)=Zf6 d i++Zge d i (nt d i) from ZcN _ i,show Zhg d (i+1)=Zhg d i++ZoR d i from ZcN _ i,show ZcE d (i+1)=ZcE d i++Zec i (nt d i+1) from ZcN _ i,Zq7,Zr1,show ZdM d (i+1)=ZdM d i++ZfA d i (nt d i) from ZcN _ i] at ih'
   have pe:=Zu6 g hi' (hc i) (ZfP d i) (ZdM d i) l1 l2 l3
   rw[Ztr g hi' l1 l2 (ZcC d i) (Zqj d i) (Zsm g.g i),Option.bind_some] at pe
   have p4:Zu (fun ka kb:Int=>(ka==kb)) (Zfp d i) (i:Int) ((ZcE d i).length:Int)=Zfp d i++[((i:Int),(ZP d i:Int))]:=by
    rw[ZcC]
    exact ZgB eqI (i:Int) _ _ fun q hq=>beq_false_of_ne (Ne.symm (Zs9 d i q hq))
   have p5:Zu (fun ka kb:Int=>(ka==kb)) (ZfP d i) (i:Int) (ZP d i:Int)=ZfP d i++[((i:Int),(ZP d i:Int))]:=ZgB eqI (i:Int) _ _ fun q hq=>beq_false_of_ne (Ne.symm (Zqj d i q hq))
   have lput:=Zrl (ZcE d i) (Zh.mk (i:Int) 0) (by omega)
   rw[ZcC] at lput
   rw[Za1]
   by_cases h0:0<nt d i
   ·rw[decide_eq_true h0] at pe
    simp only[Zcr,Zet hi',cond_true,pe,Option.bind_some,p4,ZZ hi' (show d.parts.length<9223372036854775808 by omega)]
    exact ih'
   ·have hz:nt d i=0:=by omega
    rw[decide_eq_false h0] at pe
    simp only[Zcr,Zet hi',cond_true,cond_false,pe,Option.bind_some,p4,lput,p5,ZZ hi' (show d.parts.length<9223372036854775808 by omega)]
    rw[hz] at ih'
    simpa [Zge,Zec,ZfA] using ih'
 exact key d.parts.length 0 (by omega)
theorem Zs8 {d:Zj} (g:ZcS d) {r3:List Int×List Zm×List Zh×List (Int×Int)×List (Int×Int)×List (Zi×Int)} (h4:r3.2.2.2.1=Zfp d d.parts.length) (h5:r3.2.2.2.2.1=ZfP d d.parts.length) (E:List Zm) (hE:E.length≤1000):lp (ZcM d r3) (0,E)=some (E++ZmX d):=
 have he:=g.el
 Zoq d.edges (by omega) (ZcM d r3) (fun e=>⟨ZcR d e.src,Zg7 d e.dst⟩) (fun i x s hi hx hb=>by
  have hm:=List.mem_of_getElem? hx
  have ed:∀b c,ZI b c s=some ():=fun b c=>by unfold ZI;rw[hb];rfl
  simp only[ZcM,Zet hi,cond_true,Zav hx,Option.bind_some,h4,h5,ZoY (g.src hm),Zql (g.dst hm),ed,ZZ hi (show d.edges.length<9223372036854775808 by omega)]) (fun s=>by simp only[ZcM,Ze8,cond_false]) E (by omega)
theorem Zq5 {d:Zj} (g:ZcS d) {r3:List Int×List Zm×List Zh×List (Int×Int)×List (Int×Int)×List (Zi×Int)} (h5:r3.2.2.2.2.1=ZfP d d.parts.length) (h6:r3.2.2.2.2.2=ZdM d d.parts.length) (E:List Zm) (hE:E.length≤1000):lp (ZcP d r3) (0,E)=some (E++ZoF d):=
 have he:=g.fl
 Zoq d.futures (by omega) (ZcP d r3) (fun f=>⟨ZcR d f.maker,Zsh d f⟩) (fun i x s hi hx hb=>by
  have hm:=List.mem_of_getElem? hx
  have ed:∀b c,ZI b c s=some ():=fun b c=>by unfold ZI;rw[hb];rfl
  simp only[ZcP,Zet hi,cond_true,Zav hx,Option.bind_some,h5,h6,ZoY (g.maker hm),ZuQ g hm,ed,ZZ hi (show d.futures.length<9223372036854775808 by omega)]) (fun s=>by simp only[ZcP,Ze8,cond_false]) E (by omega)
theorem ZuX {d:Zj} (g:ZcS d) (hz:ZhF d) {r3:List Int×List Zm×List Zh×List (Int×Int)×List (Int×Int)×List (Zi×Int)} (h4:r3.2.2.2.1=Zfp d d.parts.length) (h5:r3.2.2.2.2.1=ZfP d d.parts.length) (E:List Zm) (hE:E.length≤1000) :
  lp (ZcO d r3) (0,Zhg d d.parts.length,E,ZcE d d.parts.length)=some (Zj7 d,E++ZfQ d d.barriers.length,ZdX d):=by
 have hbl:=g.bl
 have hF:=Zhz g d.parts.length
 have hpl:=g.pl
 have key:∀(k i:Nat),i+k=d.barriers.length→lp (ZcO d r3) ((i:Int),Zhg d d.parts.length++List.replicate i 1,E++ZfQ d i,ZcE d d.parts.length++Ze3 i)=some (Zj7 d,E++ZfQ d d.barriers.length,ZdX d):=by
  intro k
  induction k with
  | zero=>
   intro i hi
   have:i=d.barriers.length:=by omega
   subst this
   rw[Za1]
   simp only[ZcO,Ze8,cond_false]
   rfl
  | succ k ih=>
   intro i hi
   have hi':i<d.barriers.length:=by omega
   have hx:d.barriers[i]? = some d.barriers[i]:=List.getElem?_eq_getElem hi'
   have hm:=List.mem_of_getElem? hx
   have hsz:=hz.i _ hm
   have hB:=Zlu hz i
   have lp_:(ZcE d d.parts.length++Ze3 i).length=ZP d d.parts.length+i:=by rw[List.length_append,ZcC,Znc]
   have lw_:(Zhg d d.parts.length++List.replicate i (1:Int)).length=ZP d d.parts.length+i:=by rw[List.length_append,Zi3,List.length_replicate]
   have lput:=Zrl (ZcE d d.parts.length++Ze3 i) (Zh.mk (-1) (i:Int)) (by rw[lp_];omega)
   rw[lp_,show((ZP d d.parts.length+i:Nat):Int)=Zpa d i from rfl] at lput
   have k4:=fun s=>Zoq d.barriers[i].ins (by omega) (Zdz r3 ((i:Int),Zhg d d.parts.length++List.replicate i 1,E++ZfQ d i,ZcE d d.parts.length++Ze3 i) d.barriers[i]) (fun q=>⟨ZcR d q,Zpa d i⟩) (fun j x s hj hx hb=>by
    have ed:∀b c,ZI b c s=some ():=fun b c=>by unfold ZI;rw[hb];rfl
    simp only[Zdz,Zet hj,cond_true,Zav hx,Option.bind_some,h5,ZoY (g.ins _ hm x (List.mem_of_getElem? hx)),lput,ed,ZZ hj (show d.barriers[i].ins.length<9223372036854775808 by omega)]) (fun s=>by simp only[Zdz,Ze8,cond_false]) s
   have k5:=fun s=>Zoq d.barriers[i].outs (by omega) (ZdA r3 ((i:Int),Zhg d d.parts.length++List.replicate i 1,E++ZfQ d i,ZcE d d.parts.length++Ze3 i) d.barriers[i]) (fun q=>⟨Zpa d i,Zg7 d q⟩) (fun j x s hj hx hb=>by
    have ed:∀b c,ZI b c s=some ():=fun b c=>by unfold ZI;rw[hb];rfl
    simp only[ZdA,Zet hj,cond_true,Zav hx,Option.bind_some,h4,Zql (g.outs _ hm x (List.mem_of_getElem? hx)),lput,ed,ZZ hj (show d.barriers[i].outs.length<9223372036854775808 by omega)]) (fun s=>by simp only[ZdA,Ze8,cond_false]) s
   have ih':=ih (i+1) (by omega)
   have eB:ZfQ d (i+1)=ZfQ d i++Zv9 d (Zpa d i) d.barriers[i]:=by
    unfold ZfQ
    rw[ZcN,hx]
   rw[eB,Zq0,List.replicate_succ',Zv9,← List.append_assoc,← List.append_assoc,← List.append_assoc,← List.append_assoc] at ih'
   rw[Za1]
   simp only[ZcO,Zet hi',cond_true,Zav hx,Option.bind_some,Zgu _ _ (show(Zhg d d.parts.length++List.replicate i (1:Int)).length≤10000 by rw[lw_];omega) (show(ZcE d d.parts.length++Ze3 i).length≤10000 by rw[lp_];omega),k4 (E++ZfQ d i) (by rw[List.length_append];omega),
    k5 (E++ZfQ d i++List.map (fun q=>⟨ZcR d q,Zpa d i⟩) d.barriers[i].ins) (by simp only[List.length_append,List.length_map];omega),ZZ hi' (show d.barriers.length<9223372036854775808 by omega)]
   exact ih'
 have:=key d.barriers.length 0 (by omega)
 simpa [ZfQ,upto,Ze3] using this
theorem Zr4 {d:Zj} (g:ZcS d) (hz:ZhF d):Zrb (Zad d).dag:=by
 have hE:=Zn0 g
 have hB:=Zlu hz d.barriers.length
 have hbl:=g.bl
 have hF:=Zhz g d.parts.length
 have hpl:=g.pl
 constructor
 ·show(Zj7 d).length<_
  unfold Zj7
  rw[List.length_append,Zi3,List.length_replicate]
  omega
 ·show(Zje d).length<_
  unfold Zje
  rw[List.length_append]
  omega
noncomputable def ZmE (d:Zj):ZjX×Int:=
 bif ZfB d==0 then (bif Zir (Zad d).dag==0 then (Zad d,0) else (⟨⟨[],[]⟩,[]⟩,70)) else (⟨⟨[],[]⟩,[]⟩,ZfB d)
theorem ZnQ {d:Zj} (hz:ZhF d):Zdw d=some (ZmE d):=by
 have hs:=hz.short
 unfold Zdw ZmE
 rw[ZqF d hs,Option.bind_some]
 by_cases hc:ZfB d=0
 ·have g:=ZgS hc
  have hE:=Zn0 g
  have h3:(Zf6 d d.parts.length++ZmX d).length≤1000:=by unfold Zjm at hE;rw[List.length_append] at hE;omega
  have h4:(Zf6 d d.parts.length).length≤1000:=by rw[List.length_append] at h3;omega
  rw[hc]
  simp only[bne_self_eq_false,cond_false,beq_self_eq_true,cond_true,Ztx g (ZAK hs (by have:=g.fl;omega) hc),Option.bind_some]
  rw[Zs8 g rfl rfl _ h4]
  simp only[Option.bind_some]
  rw[Zq5 g rfl rfl _ h3]
  simp only[Option.bind_some]
  rw[show Zf6 d d.parts.length++ZmX d++ZoF d=Zjm d from rfl,ZuX g hz rfl rfl _ hE]
  simp only[Option.bind_some]
  rw[show Zb1.mk (Zj7 d) (Zjm d++ZfQ d d.barriers.length)=(Zad d).dag from rfl,Zn6 _ (Zr4 g hz),Option.bind_some]
  by_cases hk:Zir (Zad d).dag=0
  ·rw[hk];rfl
  ·rw[beq_false_of_ne hk,bne,beq_false_of_ne hk];rfl
 ·rw[beq_false_of_ne hc,bne,beq_false_of_ne hc];rfl
end Go.Proofs.YtnmbdjkbaihicaaDoor
namespace Go.Proofs.YtnmbdjkbaihicaaDoor
open Go Go.Proofs.YtnmbdjkbaihicaaDoorE
set_option linter.unusedVariables false
set_option linter.unusedSimpArgs false
theorem ZwR (d:Zj) (g:ZlC d) (n:Nat):nt d n=d.futures.countP fun f=>f.user==(n:Int):=by
 show(tch d n).length=_
 rw[ZpF (ZlA g n)]
 unfold ZnA
 rw[Zmj]
theorem Zp0 {γ:Type} (p q r:γ→Bool) (h:∀x,r x=(p x || q x)) (h2:∀x,¬(p x=true∧q x=true)):∀l:List γ,l.countP r=l.countP p+l.countP q
 | []=>rfl
 | x :: l=>by
  rw[List.countP_cons,List.countP_cons,List.countP_cons,Zp0 p q r h h2 l,h x]
  have:=h2 x
  cases hp:p x<;>cases hq:q x<;>simp_all<;>omega
theorem Zmd {d:Zj} (g:ZcS d):∀k,ZP d k=k+d.futures.countP fun f=>decide (0≤f.user)&&decide (f.user<(k:Int))
 | 0=>by
  have:(d.futures.countP fun f=>decide (0≤f.user)&&decide (f.user<((0:Nat):Int)))=0:=by
   rw[List.countP_eq_zero]
   intro f _
   simp only[Bool.and_eq_true,decide_eq_true_eq]
   omega
  rw[this];rfl
 | k+1=>by
  rw[Zp0 (fun f:Zi=>decide (0≤f.user)&&decide (f.user<(k:Int))) (fun f=>f.user==(k:Int)) (fun f=>decide (0≤f.user)&&decide (f.user<((k+1:Nat):Int))) (fun f=>by
   rw[Bool.eq_iff_iff]
   simp only[Bool.and_eq_true,Bool.or_eq_true,decide_eq_true_eq,beq_iff_eq]
   omega) (fun f=>by
   simp only[Bool.and_eq_true,decide_eq_true_eq,beq_iff_eq]
   omega)]
  show ZP d k+(nt d k+1)=_
  rw[Zmd g k,ZwR d g.g k]
  omega
theorem Zls {d:Zj} (g:ZcS d):ZP d d.parts.length=d.parts.length+d.futures.length:=by
 rw[Zmd g,List.countP_eq_length.2 fun f hf=>?_]
 have:=g.user hf
 have h1:=this.1
 have h2:=this.2
 simp only[Bool.and_eq_true,decide_eq_true_eq]
 omega
theorem Zpj {d:Zj} (g:ZcS d):(Zj7 d).length=d.parts.length+d.futures.length+d.barriers.length:=by
 unfold Zj7
 rw[List.length_append,Zi3,List.length_replicate,Zls g]
theorem Zon {d:Zj} (g:ZcS d):(ZdX d).length=d.parts.length+d.futures.length+d.barriers.length:=by
 unfold ZdX
 rw[List.length_append,ZcC,Znc,Zls g]
theorem Zs4 (d:Zj):(ZmE d=(Zad d,0)∧ZfB d=0∧Zir (Zad d).dag=0)∨((ZmE d).1=⟨⟨[],[]⟩,[]⟩∧(ZmE d).2≠0):=by
 unfold ZmE
 by_cases hc:ZfB d=0
 ·rw[hc]
  by_cases hk:Zir (Zad d).dag=0
  ·rw[hk];exact .inl ⟨rfl,rfl,rfl⟩
  ·rw[beq_false_of_ne hk];exact .inr ⟨rfl,by show(70:Int)≠0;omega⟩
 ·rw[beq_false_of_ne hc];exact .inr ⟨rfl,hc⟩
end Go.Proofs.YtnmbdjkbaihicaaDoor
namespace Go.Proofs.YtnmbdjkbaihicaaDoor
open Go Go.Proofs.YtnmbdjkbaihicaaDoorE Go.Sort
set_option linter.unusedVariables false
set_option linter.unusedSimpArgs false
set_option maxRecDepth 20000
end Go.Proofs.YtnmbdjkbaihicaaDoor
namespace Go.Proofs.YtnmbdjkbaihicaaDoor
open Go Go.Proofs.YtnmbdjkbaihicaaDoorE
set_option linter.unusedVariables false
set_option linter.unusedSimpArgs false
theorem Zrp {g:Zb1} (h:Zir g=0):∃l,ZgQ g=some l∧Zx2 g l:=by
 obtain⟨hG,hA⟩:=Zey h
 obtain⟨l,h1,h2⟩:=ZpJ hG hA
 refine⟨l,?_,h2⟩
 unfold ZgQ
 rw[Zn6 g hG.short,h,Option.bind_some]
 simp only[bne_self_eq_false,cond_false,h1,Option.bind_some,cond_true]
end Go.Proofs.YtnmbdjkbaihicaaDoor
namespace Go.Proofs.YtnmbdjkbaihicaaDoor
open Go Go.Proofs.YtnmbdjkbaihicaaDoorE
set_option linter.unusedVariables false
set_option linter.unusedSimpArgs false
theorem ZrZ (d:Zj) {m n:Nat} (h:m≤n):ZP d m≤ZP d n:=by
  induction n with
  | zero => have : m = 0 := by omega
            subst this;exact Nat.le_refl _
  | succ n ih=>
    by_cases hm:m=n+1
    · subst hm;exact Nat.le_refl _
    · have:=ih (by omega)
      show ZP d m≤ZP d n+(nt d n+1)
      omega
theorem ZfY (d:Zj) (n:Nat):ZP d (n+1)=ZP d n+nt d n+1:=by show ZP d n+(nt d n+1)=_;omega
theorem Zhx (d:Zj) {m n j:Nat} (h:m<n) (hj:j≤nt d m):ZP d m+j<ZP d n:=by
  have:=ZrZ d (show m+1≤n by omega)
  have:=ZfY d m
  omega
theorem Zsx (d:Zj):∀(k i:Nat),i<ZP d k→∃n j,n<k∧j≤nt d n∧i=ZP d n+j
  | 0,i,h=>absurd h (by show ¬i<0;omega)
  | k+1,i,h=>by
    have hs:=ZfY d k
    by_cases hi:i<ZP d k
    · obtain⟨n,j,h1,h2,h3⟩:=Zsx d k i hi
      exact⟨n,j,by omega,h2,h3⟩
    · exact⟨k,i-ZP d k,by omega,by omega,by omega⟩
theorem ZpI (d:Zj) {m n i j:Nat} (hi:i≤nt d m) (hj:j≤nt d n) (h:ZP d m+i=ZP d n+j):m=n∧i=j:=by
  rcases Nat.lt_trichotomy m n with hlt | heq | hlt
  · have:=Zhx d hlt hi;omega
  · subst heq;exact⟨rfl,by omega⟩
  · have:=Zhx d hlt hj;omega
theorem Zoi (d:Zj):∀(k n j:Nat),n<k→j≤nt d n→(ZcE d k)[ZP d n+j]? = some ⟨(n:Int),(j:Int)⟩
  | 0,n,j,h,_=>absurd h (by omega)
  | k+1,n,j,h,hj=>by
    rw[show ZcE d (k+1)=ZcE d k++Zec k (nt d k+1) from ZcN _ k]
    by_cases hn:n<k
    · rw[List.getElem?_append_left (by rw[ZcC];exact Zhx d hn hj)]
      exact Zoi d k n j hn hj
    · have:n=k:=by omega
      subst this
      rw[List.getElem?_append_right (by rw[ZcC];omega),ZcC,Nat.add_sub_cancel_left]
      unfold Zec
      rw[List.getElem?_map,List.getElem?_range (by omega)]
      rfl
theorem Zse {d:Zj}{n j:Nat} (hn:n<d.parts.length) (hj:j≤nt d n):(ZdX d)[ZP d n+j]? = some ⟨(n:Int),(j:Int)⟩:=by
  unfold ZdX
  rw[List.getElem?_append_left (by rw[ZcC];exact Zhx d hn hj)]
  exact Zoi d _ n j hn hj
theorem Zm9 {d:Zj}{i:Nat}{x:Zh} (h:(ZdX d)[i]? = some x):(∃n j,n<d.parts.length∧j≤nt d n∧i=ZP d n+j∧x=⟨(n:Int),(j:Int)⟩)∨(ZP d d.parts.length≤i∧x.part = -1):=by
  by_cases hi:i<ZP d d.parts.length
  · obtain⟨n,j,h1,h2,h3⟩:=Zsx d _ i hi
    subst h3
    rw[Zse h1 h2] at h
    exact .inl ⟨n,j,h1,h2,rfl,(Option.some.inj h).symm⟩
  · refine .inr ⟨by omega,?_⟩
    unfold ZdX at h
    rw[List.getElem?_append_right (by rw[ZcC];omega)] at h
    have:=List.mem_of_getElem? h
    unfold Ze3 at this
    obtain⟨k,_,rfl⟩:=List.mem_map.1 this
    rfl
theorem Zsp (zs:List (Int×Int)) (p:Int) (hp:0≤p) (i:Nat):∀k,i<k→(pc zs i).1=p→(∀j,i<j→j<k→(pc zs j).1≠p)→ZeS zs p k=(i:Int)
  | 0,h,_,_=>absurd h (by omega)
  | k+1,h,h1,h2=>by
    unfold ZeS
    by_cases hk:k=i
    · subst hk
      rw[h1,bne_self_eq_false,decide_eq_false (show ¬p<0 by omega)]
      rfl
    · have:=h2 k (by omega) (by omega)
      rw[bne_iff_ne.2 this]
      exact Zsp zs p hp i k (by omega) h1 fun j a b=>h2 j a (by omega)
theorem ZvT {d:Zj} (g:ZcS d) {z:Int} (h:inR d z):Zgf (Zad d) z=some (ZcR d z):=by
  have hlen:(ZdX d).length≤1000:=by rw[Zon g];have:=g.pl;have:=g.fl;have:=g.bl;omega
  have ez:((z.toNat:Nat):Int)=z:=Int.toNat_of_nonneg h.1
  have hp:=Zse h.2 (Nat.le_refl (nt d z.toNat))
  have hpc:∀(i:Nat) x,(ZdX d)[i]? = some x→(pc (List.map (fun x:Zh=>(x.part,x.step)) (ZdX d)) i).1=x.part:=fun i x hx=>by
    unfold pc
    rw[List.getElem?_map,hx]
    rfl
  have hi:ZP d z.toNat+nt d z.toNat<(ZdX d).length:=(List.getElem?_eq_some_iff.1 hp).1
  have hs:=Zsp (List.map (fun x:Zh=>(x.part,x.step)) (ZdX d)) z h.1 (ZP d z.toNat+nt d z.toNat) (ZdX d).length hi (by rw[hpc _ _ hp];exact ez) (fun j h1 h2=>by
    have hy:=List.getElem?_eq_getElem h2
    rw[hpc _ _ hy]
    rcases Zm9 hy with⟨n,m,m1,m2,m3,m4⟩ | ⟨_,m2⟩
    · rw[m4]
      show(n:Int)≠z
      intro hc
      have:n=z.toNat:=by omega
      subst this
      omega
    · rw[m2];have:=h.1;omega)
  unfold Zgf ZrF
  rw[List.length_map,Zfx (show(Zad d).pieces.length≤1073741824 by show(ZdX d).length≤_;omega)]
  simp only[cond_true,Option.bind_some]
  show some (ZeS (List.map (fun x:Zh=>(x.part,x.step)) (ZdX d)) z (ZdX d).length)=_
  rw[hs]
  unfold ZcR
  rw[ZfY]
  congr 1
  omega
theorem Zvd {d:Zj}{n j:Nat} (hn:n<d.parts.length) (hj:j<nt d n):(⟨((ZP d n+j:Nat):Int),((ZP d n+j+1:Nat):Int)⟩:Zm)∈(Zad d).dag.edges:=by
  show _∈Zje d
  unfold Zje Zjm Zf6 upto Zge
  simp only[List.mem_append,List.mem_flatMap,List.mem_map,List.mem_range]
  exact .inl (.inl (.inl ⟨n,hn,j,hj,rfl⟩))
theorem ZuI {d:Zj}{e:Zm} (h:e∈d.edges):(⟨ZcR d e.src,Zg7 d e.dst⟩:Zm)∈(Zad d).dag.edges:=by
  show _∈Zje d
  unfold Zje Zjm ZmX
  simp only[List.mem_append,List.mem_map]
  exact .inl (.inl (.inr ⟨e,h,rfl⟩))
theorem ZuF {d:Zj}{f:Zi} (h:f∈d.futures):(⟨ZcR d f.maker,Zsh d f⟩:Zm)∈(Zad d).dag.edges:=by
  show _∈Zje d
  unfold Zje Zjm ZoF
  simp only[List.mem_append,List.mem_map]
  exact .inl (.inr ⟨f,h,rfl⟩)
def ZwG (g:Zb1) (a b:Int):Prop:=a=b∨Way g a b
theorem ZwG.way {g:Zb1}{a b c:Int} (h:ZwG g a b) (w:Way g b c):Way g a c:=by
  rcases h with rfl | h
  · exact w
  · exact h.trans w
theorem Way.ways {g:Zb1}{a b c:Int} (w:Way g a b) (h:ZwG g b c):Way g a c:=by
  rcases h with rfl | h
  · exact w
  · exact w.trans h
theorem Zwp {d:Zj}{n i:Nat} (hn:n<d.parts.length):∀j,i≤j→j≤nt d n→ZwG (Zad d).dag ((ZP d n+i:Nat):Int) ((ZP d n+j:Nat):Int)
  | 0,h1,_=>.inl (by rw[show i=0 by omega])
  | j+1,h1,h2=>by
    by_cases hi:i=j+1
    · exact .inl (by rw[hi])
    · exact .inr ((Zwp hn j (by omega) (by omega)).way (Way.one (Zvd hn (show j<nt d n by omega))))
theorem Zz9 {d:Zj}{z:Int} (h:inR d z):ZwG (Zad d).dag (Zg7 d z) (ZcR d z):=by
  have:=Zwp h.2 (nt d z.toNat) (Nat.zero_le _) (Nat.le_refl _)
  rw[Nat.add_zero] at this
  unfold Zg7 ZcR
  rw[ZfY]
  rwa [show(((ZP d z.toNat+nt d z.toNat+1:Nat):Int)-1)=((ZP d z.toNat+nt d z.toNat:Nat):Int) by omega]
end Go.Proofs.YtnmbdjkbaihicaaDoor
namespace Go.Proofs.YtnmbdjkbaihicaaDoor
open Go Go.Proofs.YtnmbdjkbaihicaaDoorE
set_option linter.unusedVariables false
set_option linter.unusedSimpArgs false
def u32 (n:Int):Int:=n % 4294967296
theorem Zoe (n:Int):0≤u32 n∧u32 n<4294967296:=by unfold u32;omega
theorem ZoG (n:Int):IntKind.u32.wrap n=u32 n:=by
 unfold IntKind.wrap u32
 rfl
theorem Zkx (n:Int):ZcT n=some (u32 n):=by
 unfold ZcT
 rw[ZoG]
def Zjr (op:Int) (out v:Int):Int:=if op=2 then u32 (out+v) else if op=3 then u32 (out*v) else if op=4 then (bif decide (out<v) then v else out) else u32 (u32 (out*31)+v)
theorem ZrB {op out v:Int} (h:0≤out∧out<4294967296) (hv:0≤v∧v<4294967296):0≤Zjr op out v∧Zjr op out v<4294967296:=by
 unfold Zjr
 split
 ·exact Zoe _
 split
 ·exact Zoe _
 split
 ·cases decide (out<v)<;>simp[h,hv]
 ·exact Zoe _
def ZmM (op:Int):Int→List Int→Int
 | out,[]=>out
 | out,v :: l=>ZmM op (Zjr op out (u32 v)) l
theorem Zkf (op:Int):∀(l:List Int) (out:Int),0≤out∧out<4294967296→0≤ZmM op out l∧ZmM op out l<4294967296
 | [],out,h=>h
 | v :: l,out,h=>Zkf op l _ (ZrB h (Zoe v))
theorem ZnL (op:Int) (l:List Int) (step:Int×Int→Option ((Int×Int)⊕Int))
  (h1:∀(i:Nat) (x out:Int),i<l.length→l[i]? = some x→0≤out∧out<4294967296→step (out,(i:Int))=some (.inl (Zjr op out (u32 x),((i+1:Nat):Int))))
  (h2:∀out,step (out,(l.length:Int))=some (.inr out)) (out:Int) (ho:0≤out∧out<4294967296):lp step (out,0)=some (ZmM op out l):=by
 have key:∀k i:Nat,i+k=l.length→∀out,0≤out∧out<4294967296→lp step (out,(i:Int))=some (ZmM op out (l.drop i)):=by
  intro k
  induction k with
  | zero=>
   intro i hi out ho
   have:i=l.length:=by omega
   subst this
   rw[Za1,h2,List.drop_length]
   rfl
  | succ k ih=>
   intro i hi out ho
   have hi':i<l.length:=by omega
   rw[Za1,h1 i l[i] out hi' (List.getElem?_eq_getElem hi') ho,List.drop_eq_getElem_cons hi']
   exact ih (i+1) (by omega) _ (ZrB ho (Zoe _))
 have:=key l.length 0 (by omega) out ho
 rwa [List.drop_zero] at this
theorem Zx4 (a b:Int):ZfE a b=some (Zjr 2 a b):=by unfold ZfE;rw[ZoG];rfl
theorem Zyj (a b:Int):ZfG a b=some (Zjr 3 a b):=by unfold ZfG;rw[ZoG];rfl
theorem ZxL (a b:Int):ZfF a b=some (Zjr 4 a b):=by unfold ZfF;rfl
theorem ZyJ (a b:Int):ZfJ a b=some (Zjr 5 a b):=by unfold ZfJ;rw[ZoG,ZoG];rfl
def places (l:List Int) (k:Nat):List (Int×Int):=(List.range k).map fun i:Nat=>((i:Int),(l[i]?).getD 0)
theorem Znq (l:List Int) (k:Nat):places l (k+1)=places l k++[((k:Int),(l[k]?).getD 0)]:=by simp[places,List.range_succ]
theorem ZmH (l:List Int) (k:Nat) (j:Int) (hj:j<0∨(k:Int)≤j):∀q∈places l k,eqI j q.1=false:=by
 intro q hq
 simp only[places,List.mem_map,List.mem_range] at hq
 obtain⟨i,hi,rfl⟩:=hq
 show(j==(i:Int))=false
 simp;omega
theorem Zou (l:List Int):∀(k:Nat) (j:Nat),j<k→Z4 eqI (places l k) (j:Int) 0=(l[j]?).getD 0
 | k+1,j,h=>by
  rw[Znq]
  by_cases hk:j=k
  ·subst hk
   rw[ZgH eqI _ _ _ _ (ZmH l j j (.inr (by omega)))]
   show(bif ((j:Int)==(j:Int)) then _ else _)=_
   rw[beq_self_eq_true];rfl
  ·rw[Zhi eqI _ _ _ _ ⟨((j:Int),(l[j]?).getD 0),by simp only[places,List.mem_map,List.mem_range];exact⟨j,by omega,rfl⟩,by simp[eqI]⟩]
   exact Zou l k j (by omega)
theorem ZxH (l:List Int) (hl:l.length≤1000):lp (ZeL l) (0,([]:List (Int×Int)))=some (places l l.length):=by
 have key:∀k i:Nat,i+k=l.length→lp (ZeL l) ((i:Int),places l i)=some (places l l.length):=by
  intro k
  induction k with
  | zero=>
   intro i hi
   have:i=l.length:=by omega
   subst this
   rw[Za1]
   simp only[ZeL,Ze8,cond_false]
  | succ k ih=>
   intro i hi
   have hi':i<l.length:=by omega
   have hx:l[i]? = some l[i]:=List.getElem?_eq_getElem hi'
   have e:=ZgB eqI (i:Int) l[i] (places l i) (ZmH l i i (.inr (by omega)))
   have ih':=ih (i+1) (by omega)
   rw[Znq,hx] at ih'
   rw[Za1]
   simp only[ZeL,Zet hi',Zav hx,Option.bind_some,cond_true,ZZ hi' (show l.length<9223372036854775808 by omega),e]
   exact ih'
 exact key l.length 0 (by omega)
def opV (p:ZV) (input vals:List Int):Int:=
 if p.op=0 then (if p.arg<0∨(input.length:Int)≤p.arg then 0 else u32 ((input[p.arg.toNat]?).getD 0)) else
 if p.op=1 then u32 p.arg else if p.op<0∨5<p.op then 0 else ZmM p.op (if p.op=3 then 1 else if p.op=5 then 7 else 0) vals
theorem Zxs (p:ZV) (input vals:List Int) (h1:input.length≤1000) (h2:vals.length≤1000):ZiS p input vals=some (opV p input vals):=by
 have hl:vals.length<9223372036854775808:=by omega
 have fin:∀x:Int,0≤x∧x<4294967296→(some x).bind (fun r=>some (w64 r))=some x:=fun x h=>by
  show some (w64 x)=some x
  rw[ZcD (by omega) (by omega)]
 unfold ZiS opV
 by_cases c0:p.op=0
 ·rw[c0,beq_self_eq_true,if_pos rfl]
  simp only[cond_true]
  rw[ZxH input h1]
  simp only[Option.bind_some,Zkx]
  by_cases c:p.arg<0∨(input.length:Int)≤p.arg
  ·rw[if_pos c,Zno eqI _ _ _ (ZmH input input.length p.arg c)]
   rfl
  ·rw[if_neg c]
   obtain⟨j,hj⟩:∃j:Nat,p.arg=(j:Int):=⟨p.arg.toNat,by omega⟩
   rw[hj,Zou input input.length j (by omega),Int.toNat_natCast]
   exact fin _ (Zoe _)
 rw[show(p.op==0)=false by simpa using c0,if_neg c0]
 by_cases c1:p.op=1
 ·rw[c1,if_pos rfl]
  simp only[cond_false,beq_self_eq_true,cond_true,Zkx]
  exact fin _ (Zoe _)
 rw[show(p.op==1)=false by simpa using c1,if_neg c1]
 simp only[cond_false]
 by_cases c2:p.op<0
 ·rw[decide_eq_true c2,if_pos (.inl c2)];rfl
 by_cases c3:5<p.op
 ·rw[decide_eq_false c2,decide_eq_true c3,if_pos (.inr c3)];rfl
 rw[decide_eq_false c2,decide_eq_false c3,if_neg (by omega),ZcD (by omega) (by omega),decide_eq_true (show 0≤p.op-2 by omega),decide_eq_true (show p.op-2<4 by omega)]
 have hw:Zh0=some ():=rfl
 simp only[cond_false,hw,Option.bind_some,Bool.and_self,cond_true]
 have h4:p.op=2∨p.op=3∨p.op=4∨p.op=5:=by omega
 rcases h4 with h | h | h | h<;>rw[h]
 ·have:=ZnL 2 vals (ZeP vals) (fun i x out hi hx ho=>by
   simp only[ZeP,Zet hi,Zav hx,Option.bind_some,cond_true,ZZ hi hl,Zkx,Zx4]) (fun out=>by simp only[ZeP,Ze8];rfl) 0 (by omega)
  show(lp (ZeP vals) (0,0)).bind _=_
  rw[this]
  exact fin _ (Zkf _ _ _ (by omega))
 ·have:=ZnL 3 vals (ZdQ vals) (fun i x out hi hx ho=>by
   simp only[ZdQ,Zet hi,Zav hx,Option.bind_some,cond_true,ZZ hi hl,Zkx,Zyj]) (fun out=>by simp only[ZdQ,Ze8];rfl) 1 (by omega)
  show(lp (ZdQ vals) (1,0)).bind _=_
  rw[this]
  exact fin _ (Zkf _ _ _ (by omega))
 ·have:=ZnL 4 vals (ZdS vals) (fun i x out hi hx ho=>by
   simp only[ZdS,Zet hi,Zav hx,Option.bind_some,cond_true,ZZ hi hl,Zkx,ZxL]) (fun out=>by simp only[ZdS,Ze8];rfl) 0 (by omega)
  show(lp (ZdS vals) (0,0)).bind _=_
  rw[this]
  exact fin _ (Zkf _ _ _ (by omega))
 ·have:=ZnL 5 vals (ZdH vals) (fun i x out hi hx ho=>by
   simp only[ZdH,Zet hi,Zav hx,Option.bind_some,cond_true,ZZ hi hl,Zkx,ZyJ]) (fun out=>by simp only[ZdH,Ze8];rfl) 7 (by omega)
  show(lp (ZdH vals) (7,0)).bind _=_
  rw[this]
  exact fin _ (Zkf _ _ _ (by omega))
end Go.Proofs.YtnmbdjkbaihicaaDoor
namespace Go.Proofs.YtnmbdjkbaihicaaDoor
open Go Go.Proofs.YtnmbdjkbaihicaaDoorE
set_option linter.unusedVariables false
set_option linter.unusedSimpArgs false
theorem ZjV (l:List Zm) (f:Zm→Option Bool) (p:Zm→Bool) (hf:∀x∈l,f x=some (p x)) (hl:l.length<9223372036854775808):Z2 l f=some (l.any p):=by
 unfold Z2 ZaO
 refine ZiU l p _ (fun i x hi hx=>?_) ?_
 ·simp only[Zac,Zet hi,Zav hx,Option.bind_some,hf x (List.mem_of_getElem? hx),ZZ hi hl,cond_true]
  cases p x<;>rfl
 ·simp only[Zac,Ze8];rfl
def Zgm (d:Zj):Prop:=ZfB d=0∧Zir (Zad d).dag=0
theorem ZnK {d:Zj} (h:Zgm d):ZmE d=(Zad d,0):=by unfold ZmE;rw[h.1,h.2];rfl
theorem Zmu {d:Zj} (h:¬Zgm d):(ZmE d).1=⟨⟨[],[]⟩,[]⟩∧(ZmE d).2≠0:=by
 rcases Zs4 d with⟨_,h2,h3⟩ | h4
 ·exact absurd ⟨h2,h3⟩ h
 ·exact h4
abbrev Zdv (d:Zj):Nat:=(Zad d).dag.work.length
theorem ZrL {d:Zj} (g:ZcS d):Zdv d=d.parts.length+d.futures.length+d.barriers.length:=Zpj g
theorem ZpW {d:Zj} (g:ZcS d):(Zad d).pieces.length=Zdv d:=(Zon g).trans (Zpj g).symm
structure OKM (d:Zj) (m:Zy):Prop where
 n:m.done.length=Zdv d
 v:m.vals.length=d.parts.length
def va (l:List Int) (p:Int):Int:=match l[p.toNat]? with | some x=>x | none=>0
theorem Zwa {d:Zj}{l:List Int} (o:l.length=d.parts.length) {p:Int} (h:inR d p):ZE l p=some (va l p):=by
 have h2:=h.2
 have e:=List.getElem?_eq_getElem (show p.toNat<l.length by rw[o];exact h2)
 rw[Zm4 h.1 e]
 unfold va
 rw[e]
def Zjy (done:List Bool) (e:Zm):Bool:=bAt done e.dst && !(bAt done e.src)
def Zip (d:Zj) (m:Zy):Bool:=decide (m.done.length=Zdv d)&&(decide (m.vals.length=d.parts.length) && !((Zad d).dag.edges.any (Zjy m.done)))
theorem ZpD {d:Zj} (hG:Zhc (Zad d).dag) (m:Zy):Zfn d (Zad d).dag m=some (Zip d m):=by
 unfold Zfn Zip
 have ne:∀a b:Nat,(((a:Int)) != (b:Int)) = !decide (a=b):=fun a b=>by
  by_cases h:a=b
  ·subst h;simp
  ·rw[decide_eq_false h,bne,beq_false_of_ne (show(a:Int)≠(b:Int) by omega)]
 rw[ne,ne]
 by_cases h1:m.done.length=Zdv d
 ·have h1':m.done.length=(Zad d).dag.work.length:=h1
  rw[decide_eq_true h1']
  by_cases h2:m.vals.length=d.parts.length
  ·rw[decide_eq_true h2,ZjV _ (fun z0=>ZcZ z0 m.done) (Zjy m.done) (fun e he=>by
    unfold ZcZ Zjy
    rw[Zh7 h1' (hG.dst e he),Zh7 h1' (hG.src e he)]
    cases bAt m.done e.dst<;>cases bAt m.done e.src<;>rfl) hG.short.e]
   cases (Zad d).dag.edges.any (Zjy m.done)<;>rfl
  ·rw[decide_eq_false h2];rfl
 ·have h1':¬m.done.length=(Zad d).dag.work.length:=h1
  rw[decide_eq_false h1'];rfl
def Ziv (done:List Bool) (n:Int) (e:Zm):Bool:=(e.dst==n) && !(bAt done e.src)
theorem ZpM {d:Zj} (hG:Zhc (Zad d).dag) {m:Zy} (h1:m.done.length=Zdv d) (n:Int):Zfo (Zad d).dag m n=some ((Zad d).dag.edges.any (Ziv m.done n)):=by
 unfold Zfo
 rw[ZjV _ (fun z0=>ZcW z0 n m.done) (Ziv m.done n) (fun e he=>by
  unfold ZcW Ziv
  rw[Zh7 h1 (hG.src e he)]
  cases (e.dst==n)<;>cases bAt m.done e.src<;>rfl) hG.short.e]
 cases (Zad d).dag.edges.any (Ziv m.done n)<;>rfl
theorem Zp5 {d:Zj}{m:Zy} (h:Zip d m=true):OKM d m∧∀e∈(Zad d).dag.edges,bAt m.done e.dst=true→bAt m.done e.src=true:=by
 unfold Zip at h
 simp only[Bool.and_eq_true,decide_eq_true_eq,Bool.not_eq_true',List.any_eq_false] at h
 refine⟨⟨h.1,h.2.1⟩,fun e he hd=>?_⟩
 have:=h.2.2 e he
 unfold Zjy at this
 rw[hd] at this
 simpa using this
theorem Zp3 {d:Zj}{m:Zy} (o:OKM d m) (h:∀e∈(Zad d).dag.edges,bAt m.done e.dst=true→bAt m.done e.src=true):Zip d m=true:=by
 unfold Zip
 rw[decide_eq_true o.n,decide_eq_true o.v]
 have:(Zad d).dag.edges.any (Zjy m.done)=false:=List.any_eq_false.2 fun e he=>by
  unfold Zjy
  cases hd:bAt m.done e.dst with
  | false=>simp
  | true=>rw[h e he hd];simp
 rw[this]
 rfl
def ZeO (d:Zj) (m:Zy):List Int:=pick (fun i=>Zgl (Zad d).dag m.done i) (Zdv d)
theorem ZuD {d:Zj} (hz:ZhF d) (m:Zy):Zfr d m=some (@ite _ (Zgm d∧Zip d m=true) (Classical.propDecidable _) (ZeO d m) []):=by
 unfold Zfr
 rw[ZnQ hz,Option.bind_some]
 by_cases hl:Zgm d
 ·have hG:=(Zey hl.2).1
  have hwl:=hG.wl
  rw[ZnK hl]
  simp only[bne_self_eq_false,cond_false,ZpD hG,Option.bind_some]
  cases hr:Zip d m with
  | false=>rw[if_neg (by rintro ⟨_,h⟩;cases h)];rfl
  | true=>
   have o:=(Zp5 hr).1
   have hn:=o.n
   have hn64:Zdv d≤64:=hwl
   rw[if_pos ⟨hl,rfl⟩]
   have:=ZyE m.done (by rw[hn];omega) (fun i=>Zgl (Zad d).dag m.done i) (Zd6 m (Zad d,0)) (fun i s hi=>by
    have hb:ZE m.done (i:Int)=some (bAt m.done (i:Int)):=Zh7 hn ⟨by omega,by show((i:Int)).toNat<Zdv d;rw[← hn];simpa using hi⟩
    simp only[Zd6,Zet hi,cond_true,hb,Option.bind_some,ZpM hG hn,ZZ hi (show m.done.length<9223372036854775808 by rw[hn];omega),Zgl]
    have e:((Zad d).dag.edges.any fun e=>(e.dst==(i:Int)) && !(bAt m.done e.src))=(Zad d).dag.edges.any (Ziv m.done (i:Int)):=rfl
    rw[e]
    cases bAt m.done (i:Int)<;>cases (Zad d).dag.edges.any (Ziv m.done (i:Int))<;>rfl) (fun s=>by simp only[Zd6,Ze8,cond_false])
   simp only[cond_true,this,Option.bind_some]
   unfold ZeO
   rw[hn]
 ·have hne:=(Zmu hl).2
  rw[if_neg (fun h=>hl h.1),bne,beq_false_of_ne hne]
  rfl
theorem Zqw {d:Zj} (hz:ZhF d):ZgF d=some (@ite _ (Zgm d) (Classical.propDecidable _) (⟨List.replicate (Zdv d) false,List.replicate d.parts.length 0⟩,0) (⟨[],[]⟩,(ZmE d).2)):=by
 unfold ZgF
 rw[ZnQ hz,Option.bind_some]
 by_cases hl:Zgm d
 ·have g:=ZgS hl.1
  have hG:=(Zey hl.2).1
  have hwl:=hG.wl
  have hpl:=g.pl
  have hp:(Zad d).pieces.length=Zdv d:=ZpW g
  have hp64:Zdv d≤64:=hwl
  rw[if_pos hl,ZnK hl]
  simp only[bne_self_eq_false,cond_false,hp,decide_eq_true (show(0:Int)≤((Zdv d:Nat):Int) by omega),decide_eq_true (show((Zdv d:Nat):Int)≤lim by show((Zdv d:Nat):Int)≤1073741824;omega),beq_self_eq_true,decide_true,Bool.and_self,cond_true,
   decide_eq_true (show(0:Int)≤(d.parts.length:Int) by omega),decide_eq_true (show(d.parts.length:Int)≤lim by show(d.parts.length:Int)≤1073741824;omega),Int.toNat_natCast]
 ·have hne:=(Zmu hl).2
  rw[if_neg hl,bne,beq_false_of_ne hne]
  rfl
def ZfO (d:Zj) (n:Int):Option Nat:=(List.range d.parts.length).find? fun p=>ZcR d (p:Int)==n
theorem Zra {d:Zj}{p:Nat} (h:p<d.parts.length):inR d (p:Int):=⟨by omega,by simpa using h⟩
theorem ZjT {d:Zj}{n:Int}{p:Nat} (h:ZfO d n=some p):p<d.parts.length∧ZcR d (p:Int)=n:=by
 unfold ZfO at h
 have h1:=List.mem_of_find?_eq_some h
 have h2:=List.find?_some h
 exact⟨List.mem_range.1 h1,by simpa using h2⟩
theorem ZhA (d:Zj) (p:Nat):ZcR d (p:Int)=((ZP d p+nt d p:Nat):Int):=by
 unfold ZcR
 rw[Int.toNat_natCast,ZfY]
 omega
theorem Zqd {d:Zj}{p:Nat} (hp:p<d.parts.length):ZfO d (ZcR d (p:Int))=some p:=by
 cases h:ZfO d (ZcR d (p:Int)) with
 | none=>
  unfold ZfO at h
  have:=List.find?_eq_none.1 h p (List.mem_range.2 hp)
  simp at this
 | some q=>
  obtain⟨h1,h2⟩:=ZjT h
  rw[ZhA,ZhA] at h2
  have:=(ZpI d (Nat.le_refl _) (Nat.le_refl _) (Int.ofNat.inj h2)).1
  rw[this]
noncomputable def ZhP (d:Zj) (input:List Int) (m:Zy) (n:Int):Zy:=
 match ZfO d n with
 | some p=>⟨m.done.set n.toNat true,m.vals.set p (opV (Zo8 d (p:Int)) input ((Ze7 d (p:Int)).map (va m.vals)))⟩
 | none=>⟨m.done.set n.toNat true,m.vals⟩
end Go.Proofs.YtnmbdjkbaihicaaDoor
namespace Go.Proofs.YtnmbdjkbaihicaaDoor
open Go Go.Proofs.YtnmbdjkbaihicaaDoorE
set_option linter.unusedVariables false
set_option linter.unusedSimpArgs false
theorem Zxt {l:List Bool} (h1:0<l.length) (h2:l.length≤1000):ZbN l=some ():=by
 unfold ZbN
 rw[show Nat.blt 0 l.length=true by simp[Nat.blt];omega,Zfx (show l.length≤1073741824 by omega)]
 rfl
theorem Zns {d:Zj}{n:Int} (h:∀p,p<d.parts.length→ZcR d (p:Int)≠n):ZfO d n=none:=by
 cases hl:ZfO d n with
 | none=>rfl
 | some p=>
  obtain⟨h1,h2⟩:=ZjT hl
  exact absurd h2 (h p h1)
theorem Zua {d:Zj} (hz:ZhF d) (hl:Zgm d) (input:List Int) (hi:input.length≤1000) {m:Zy} (o:OKM d m) {n:Int} (hn:0≤n∧n.toNat<Zdv d):Zep d (Zad d) input m n=some (ZhP d input m n):=by
 have g:=ZgS hl.1
 have hG:=(Zey hl.2).1
 have hn64:Zdv d≤64:=hG.wl
 have hN:=ZrL g
 have hpl:=g.pl
 have hp1:=g.p1
 have on:=o.n
 have ov:=o.v
 have en:((n.toNat:Nat):Int)=n:=Int.toNat_of_nonneg hn.1
 have hlenP:(ZdX d).length=Zdv d:=ZpW g
 have hx:(ZdX d)[n.toNat]? = some (ZdX d)[n.toNat]:=List.getElem?_eq_getElem (by rw[hlenP];exact hn.2)
 generalize hxx:(ZdX d)[n.toNat]'(by rw[hlenP];exact hn.2)=x at hx
 have gp:ZE (Zad d).pieces n=some x:=Zm4 hn.1 hx
 unfold Zep
 simp only[Zxt (show 0<m.done.length by omega) (by omega),Zyl (show 0<m.vals.length by omega) (by omega),Zh7 (g:=(Zad d).dag) on hn,gp,Option.bind_some]
 rcases Zm9 hx with⟨p,j,h1,h2,h3,rfl⟩ | ⟨h1,h2⟩
 ·have hr:=Zra h1
  simp only[decide_eq_false (show ¬((p:Int)<0) by omega),cond_false,ZvT g hr,Option.bind_some]
  by_cases hc:ZcR d (p:Int)=n
  ·obtain⟨hf,ht⟩:=Zm5 d hz.short hl.1 (p:Int)
   have hfl:=Zsw g ht
   have loop:=Zoq (Ze7 d (p:Int)) hfl (ZdC m (Ze7 d (p:Int))) (va m.vals) (fun i x s hi' hx' hb=>by
    simp only[ZdC,Zet hi',cond_true,Zav hx',Option.bind_some,Zwa ov (Zjt g ht (List.mem_of_getElem? hx')),hb,ZZ hi' (show(Ze7 d (p:Int)).length<9223372036854775808 by omega)]) (fun s=>by simp only[ZdC,Ze8,cond_false]) [] (by simp)
   rw[List.nil_append] at loop
   have hpp:ZE d.parts (p:Int)=some (Zo8 d (p:Int)):=by
    unfold Zo8
    rw[Int.toNat_natCast,List.getElem?_eq_getElem h1]
    exact Zav (List.getElem?_eq_getElem h1)
   have hop:=Zxs (Zo8 d (p:Int)) input ((Ze7 d (p:Int)).map (va m.vals)) hi (by rw[List.length_map];exact hfl)
   have hla:ZfO d n=some p:=by rw[← hc];exact Zqd h1
   rw[bne,show(ZcR d (p:Int)==n)=true by simpa using hc]
   simp only[Bool.not_true,cond_false,hf,loop,Option.bind_some,hpp,hop,Zwa ov hr,Int.toNat_natCast]
   unfold ZhP
   rw[hla]
  ·have hla:ZfO d n=none:=Zns fun q hq he=>hc (by
    rw[ZhA] at he ⊢
    have:=(ZpI d (Nat.le_refl _) h2 (show ZP d q+nt d q=ZP d p+j by omega)).1
    subst this
    exact he)
   rw[bne,beq_false_of_ne hc]
   unfold ZhP
   rw[hla]
   rfl
 ·have hla:ZfO d n=none:=Zns fun q hq he=>by
   rw[ZhA] at he
   have:=Zhx d hq (Nat.le_refl (nt d q))
   omega
  rw[h2]
  unfold ZhP
  rw[hla]
  rfl
theorem Zt2 {d:Zj} (input:List Int) {m:Zy} (o:OKM d m) (n:Int):OKM d (ZhP d input m n):=by
 unfold ZhP
 cases ZfO d n with
 | none=>exact⟨by rw[List.length_set];exact o.n,o.v⟩
 | some p=>exact⟨by rw[List.length_set];exact o.n,by rw[List.length_set];exact o.v⟩
theorem ZmK {d:Zj} (input:List Int) (m:Zy) (n:Int):(ZhP d input m n).done=m.done.set n.toNat true:=by
 unfold ZhP
 cases ZfO d n<;>rfl
noncomputable def goM (d:Zj) (input:List Int) (m:Zy) (n:Int):Zy×Int:=
 bif @decide (Zgm d) (Classical.propDecidable _) then
  (bif Zip d m then
   (bif decide (n<0) || decide ((m.done.length:Int)≤n) then (⟨[],[]⟩,81) else
    bif bAt m.done n then (⟨[],[]⟩,82) else
    bif (Zad d).dag.edges.any (Ziv m.done n) then (⟨[],[]⟩,83) else (ZhP d input m n,0))
  else (⟨[],[]⟩,80))
 else (⟨[],[]⟩,(ZmE d).2)
theorem Zts {d:Zj} (hz:ZhF d) (input:List Int) (hi:input.length≤1000) (m:Zy) (n:Int):Zds d input m n=some (goM d input m n):=by
 unfold Zds goM
 rw[ZnQ hz,Option.bind_some]
 by_cases hl:Zgm d
 ·have hG:=(Zey hl.2).1
  rw[@decide_eq_true _ (Classical.propDecidable _) hl,ZnK hl]
  simp only[bne_self_eq_false,cond_false,cond_true,ZpD hG,Option.bind_some]
  cases hr:Zip d m with
  | false=>rfl
  | true=>
   have o:=(Zp5 hr).1
   by_cases h1:n<0
   ·rw[decide_eq_true h1];rfl
   by_cases h2:(m.done.length:Int)≤n
   ·rw[decide_eq_false h1,decide_eq_true h2];rfl
   have on:=o.n
   have hn:0≤n∧n.toNat<Zdv d:=⟨by omega,by omega⟩
   rw[decide_eq_false h1,decide_eq_false h2]
   simp only[cond_true,cond_false,Bool.or_self,Zh7 (g:=(Zad d).dag) on hn,Option.bind_some,ZpM hG on,Zua hz hl input hi o hn]
   cases bAt m.done n<;>cases (Zad d).dag.edges.any (Ziv m.done n)<;>rfl
 ·have hne:=(Zmu hl).2
  rw[@decide_eq_false _ (Classical.propDecidable _) hl,bne,beq_false_of_ne hne]
  rfl
noncomputable def ZsF (d:Zj) (input:List Int) (m:Zy) (l:List Int):Zy:=l.foldl (ZhP d input) m
def Zlt (d:Zj):Zy:=⟨List.replicate (Zdv d) false,List.replicate d.parts.length 0⟩
theorem Zt7 (d:Zj):OKM d (Zlt d):=⟨by simp[Zlt],by simp[Zlt]⟩
theorem Zyy {d:Zj} (hz:ZhF d) (input:List Int) (hi:input.length≤1000):(¬Zgm d→ZfU d input=some ([],(ZmE d).2)) ∧
  (Zgm d→∃l,Zx2 (Zad d).dag l∧ZfU d input=some ((ZsF d input (Zlt d) l).vals,0)):=by
 constructor
 ·intro hl
  have hne:=(Zmu hl).2
  unfold ZfU
  rw[Zqw hz,if_neg hl,Option.bind_some]
  simp only
  rw[bne,beq_false_of_ne hne]
  rfl
 ·intro hl
  obtain⟨l,h1,T⟩:=Zrp hl.2
  have hG:=(Zey hl.2).1
  refine⟨l,T,?_⟩
  have hll:l.length≤64:=by rw[T.len];exact hG.wl
  have loop:∀(k i:Nat) (m:Zy),i+k=l.length→OKM d m→lp (Zek d input (Zad d,0) l) ((i:Int),m.done,m.vals)=some ((ZsF d input m (l.drop i)).done,(ZsF d input m (l.drop i)).vals):=by
   intro k
   induction k with
   | zero=>
    intro i m hi' o
    have:i=l.length:=by omega
    subst this
    rw[List.drop_length,Za1]
    simp only[Zek,Ze8,cond_false]
    rfl
   | succ k ih=>
    intro i m hi' o
    have hil:i<l.length:=by omega
    have hx:l[i]? = some l[i]:=List.getElem?_eq_getElem hil
    have hin:=T.inn l[i] (List.mem_of_getElem? hx)
    rw[List.drop_eq_getElem_cons hil,Za1]
    simp only[Zek,Zet hil,cond_true,Zav hx,Option.bind_some,show Zy.mk m.done m.vals=m from rfl,Zua hz hl input hi o hin,ZZ hil (show l.length<9223372036854775808 by omega)]
    exact ih (i+1) (ZhP d input m l[i]) (by omega) (Zt2 input o _)
  have k0:=loop l.length 0 (Zlt d) (by omega) (Zt7 d)
  rw[List.drop_zero] at k0
  unfold ZfU
  rw[Zqw hz,if_pos hl,Option.bind_some]
  simp only[bne_self_eq_false,cond_false,ZnQ hz,Option.bind_some,ZnK hl,h1]
  have k1:lp (Zek d input (Zad d,0) l) (0,List.replicate (Zdv d) false,List.replicate d.parts.length 0)=_:=k0
  rw[k1]
  rfl
end Go.Proofs.YtnmbdjkbaihicaaDoor
namespace Go.Proofs.YtnmbdjkbaihicaaDoor
open Go Go.Proofs.YtnmbdjkbaihicaaDoorE
set_option linter.unusedVariables false
set_option linter.unusedSimpArgs false
theorem Zoc {d:Zj} (g:ZcS d) {p q:Int} (ht:Zb8 d p (ZfW d p)) (hp:inR d p) (hq:q∈Ze7 d p):Way (Zad d).dag (ZcR d q) (ZcR d p)∧q≠p:=by
 rcases Znh g ht hq with⟨e,h1,h2,rfl⟩ | ⟨f,h1,h2,rfl⟩
 ·refine⟨?_,by have:=(Zlx (g.g.e e h1)).2.2;rw[h2] at this;exact this⟩
  have w:Way (Zad d).dag (ZcR d e.src) (Zg7 d e.dst):=Way.one (ZuI h1)
  rw[h2] at w
  exact w.ways (Zz9 hp)
 ·refine⟨?_,by have:=(Zlx (g.g.f f h1).1).2.2;rw[h2] at this;exact this⟩
  have w:Way (Zad d).dag (ZcR d f.maker) (Zsh d f):=Way.one (ZuF h1)
  obtain⟨j,hj,hje⟩:=Zrr g h1
  rw[ZtR g h1 hj hje] at w
  have c:=Zwp (i:=j+1) (g.user h1).2 (nt d f.user.toNat) (by omega) (Nat.le_refl _)
  have e:ZP d f.user.toNat+(j+1)=ZP d f.user.toNat+j+1:=by omega
  rw[e] at c
  have w2:=w.ways c
  have e2:ZcR d p=((ZP d f.user.toNat+nt d f.user.toNat:Nat):Int):=by
   rw[← h2]
   unfold ZcR
   rw[ZfY]
   omega
  rw[e2]
  exact w2
structure Zlv (d:Zj) (input:List Int) (m:Zy):Prop where
 o:OKM d m
 right:∀e∈(Zad d).dag.edges,bAt m.done e.dst=true→bAt m.done e.src=true
 val:∀p:Nat,p<d.parts.length→bAt m.done (ZcR d (p:Int))=true→va m.vals (p:Int)=opV (Zo8 d (p:Int)) input ((Ze7 d (p:Int)).map (va m.vals))
theorem Zlv.way {d:Zj}{input:List Int}{m:Zy} (v:Zlv d input m) {a b:Int} (w:Way (Zad d).dag a b) (h:bAt m.done b=true):bAt m.done a=true:=by
 induction w with
 | one he=>exact v.right _ he h
 | more _ he ih=>exact ih (v.right _ he h)
theorem Zuw (d:Zj) (input:List Int):Zlv d input (Zlt d):=by
 have no:∀z,bAt (Zlt d).done z=false:=fun z=>by
  unfold bAt Zlt
  rw[List.getElem?_replicate]
  by_cases h:z.toNat<Zdv d
  ·rw[if_pos h]
  ·rw[if_neg h]
 exact⟨Zt7 d,fun e _ h=>(by rw[no] at h;cases h),fun p _ h=>(by rw[no] at h;cases h)⟩
theorem Zro {l:List Int}{n:Nat} (hl:l.length=n) {p:Nat} (hp:p<n) (v:Int) {q:Int} (hq:0≤q):va (l.set p v) q=if q=(p:Int) then v else va l q:=by
 unfold va
 rw[List.getElem?_set]
 by_cases h:p=q.toNat
 ·rw[if_pos h,if_pos (by rw[hl];exact hp),if_pos (by omega)]
 ·rw[if_neg h,if_neg (by omega)]
theorem ZkJ {d:Zj}{done:List Bool}{i:Nat}:Zgl (Zad d).dag done i=true↔bAt done (i:Int)=false∧∀e∈(Zad d).dag.edges,e.dst=(i:Int)→bAt done e.src=true:=by
 unfold Zgl
 rw[Bool.and_eq_true,Bool.not_eq_true',Bool.not_eq_true',List.any_eq_false]
 constructor
 ·rintro ⟨h1,h2⟩
  refine⟨h1,fun e he hd=>?_⟩
  have:=h2 e he
  rw[hd] at this
  simpa using this
 ·rintro ⟨h1,h2⟩
  refine⟨h1,fun e he hc=>?_⟩
  simp only[Bool.and_eq_true,beq_iff_eq,Bool.not_eq_true'] at hc
  rw[h2 e he hc.1] at hc
  cases hc.2
theorem Zsu {d:Zj} (hs:Zga d) (hl:Zgm d) {input:List Int}{m:Zy} (v:Zlv d input m) {i:Nat} (hi:i<Zdv d) (hr:Zgl (Zad d).dag m.done i=true):Zlv d input (ZhP d input m (i:Int)):=by
 have g:=ZgS hl.1
 have hG:=(Zey hl.2).1
 obtain⟨r1,r2⟩:=ZkJ.1 hr
 have on:=v.o.n
 have ov:=v.o.v
 have hd:∀z,0≤z→bAt (ZhP d input m (i:Int)).done z=(decide (z=(i:Int)) || bAt m.done z):=fun z hz=>by
  rw[ZmK,Int.toNat_natCast]
  exact Zrc (by rw[on];exact hi) z hz
 refine⟨Zt2 input v.o _,fun e he h=>?_,fun p hp h=>?_⟩
 ·have s0:=(hG.src e he).1
  have d0:=(hG.dst e he).1
  rw[hd e.dst d0,Bool.or_eq_true,decide_eq_true_eq] at h
  rw[hd e.src s0,Bool.or_eq_true]
  rcases h with h | h
  ·exact .inr (r2 e he h)
  ·exact .inr (v.right e he h)
 ·obtain⟨hf,ht⟩:=Zm5 d hs hl.1 (p:Int)
  have hpr:=Zra hp
  have lz:(0:Int)≤ZcR d (p:Int):=by rw[ZhA];omega
  rw[hd _ lz,Bool.or_eq_true,decide_eq_true_eq] at h
  by_cases hc:ZcR d (p:Int)=(i:Int)
  ·have hla:ZfO d (i:Int)=some p:=by rw[← hc];exact Zqd hp
   unfold ZhP
   rw[hla]
   simp only
   rw[Zro ov hp _ (by omega),if_pos rfl]
   congr 1
   refine List.map_congr_left fun q hq=>?_
   have hq0:=(Zjt g ht hq).1
   rw[Zro ov hp _ hq0,if_neg (Zoc g ht hpr hq).2]
  ·have hdone:bAt m.done (ZcR d (p:Int))=true:=by
    rcases h with h | h
    ·exact absurd h hc
    ·exact h
   have old:=v.val p hp hdone
   cases hla:ZfO d (i:Int) with
   | none=>
    unfold ZhP
    rw[hla]
    exact old
   | some p'=>
    obtain⟨hp',hlz⟩:=ZjT hla
    unfold ZhP
    rw[hla]
    simp only
    rw[Zro ov hp' _ (by omega),if_neg (fun he=>hc (by rw[he];exact hlz)),old]
    congr 1
    refine List.map_congr_left fun q hq=>?_
    have hqr:=Zjt g ht hq
    rw[Zro ov hp' _ hqr.1,if_neg]
    intro he
    have:=v.way (Zoc g ht hpr hq).1 hdone
    rw[he,hlz,r1] at this
    cases this
def Ztu (d:Zj) (m:Zy):Prop:=∀i:Nat,i<Zdv d→bAt m.done (i:Int)=true
theorem ZnR {d:Zj} (g:ZcS d) {p:Nat} (hp:p<d.parts.length):∃i:Nat,i<Zdv d∧ZcR d (p:Int)=(i:Int):=by
 refine⟨ZP d p+nt d p,?_,ZhA d p⟩
 have:=Zhx d hp (Nat.le_refl (nt d p))
 rw[ZrL g,← Zls g]
 omega
theorem ZuE {d:Zj} (hs:Zga d) (hl:Zgm d) {input:List Int}{m o:Zy} (v:Zlv d input m) (w:Zlv d input o) (hm:Ztu d m) (ho:Ztu d o):m.vals=o.vals:=by
 have g:=ZgS hl.1
 obtain⟨l,_,T⟩:=Zrp hl.2
 have key:∀n j:Nat,j<n→∀p:Nat,p<d.parts.length→l[j]? = some (ZcR d (p:Int))→va m.vals (p:Int)=va o.vals (p:Int):=by
  intro n
  induction n with
  | zero=>intro j hj;omega
  | succ n ih=>
   intro j hj p hp hx
   obtain⟨i,hi,hie⟩:=ZnR g hp
   obtain⟨hf,ht⟩:=Zm5 d hs hl.1 (p:Int)
   rw[v.val p hp (by rw[hie];exact hm i hi),w.val p hp (by rw[hie];exact ho i hi)]
   congr 1
   refine List.map_congr_left fun q hq=>?_
   have hqr:=Zjt g ht hq
   have eq:((q.toNat:Nat):Int)=q:=Int.toNat_of_nonneg hqr.1
   have wy:=(Zoc g ht (Zra hp) hq).1
   have pos:∀{a b:Int},Way (Zad d).dag a b→∀j:Nat,l[j]? = some b→∃k,k<j∧l[k]? = some a:=by
    intro a b w
    induction w with
    | one he=>intro j hj;exact T.topo j _ hj _ he rfl
    | more _ he ih2=>
     intro j hj
     obtain⟨k,k1,k2⟩:=T.topo j _ hj _ he rfl
     obtain⟨k',k3,k4⟩:=ih2 k k2
     exact⟨k',by omega,k4⟩
   obtain⟨k,k1,k2⟩:=pos wy j hx
   have:=ih k (by omega) q.toNat hqr.2 (by rw[eq];exact k2)
   rwa [eq] at this
 refine List.ext_getElem (by rw[v.o.v,w.o.v]) fun p h1 h2=>?_
 have hp:p<d.parts.length:=by rw[← v.o.v];exact h1
 obtain⟨i,hi,hie⟩:=ZnR g hp
 obtain⟨j,hj⟩:=List.getElem?_of_mem (T.all i hi)
 have:=key (j+1) j (by omega) p hp (by rw[hie];exact hj)
 unfold va at this
 rw[Int.toNat_natCast,List.getElem?_eq_getElem h1,List.getElem?_eq_getElem h2] at this
 exact this
theorem ZxR {d:Zj} (hs:Zga d) (hl:Zgm d) (input:List Int) {l:List Int} (T:Zx2 (Zad d).dag l):Zlv d input (ZsF d input (Zlt d) l)∧Ztu d (ZsF d input (Zlt d) l):=by
 have key:∀(k i:Nat) (m:Zy),i+k=l.length→Zlv d input m→(∀z:Int,0≤z→(bAt m.done z=true↔∃j,j<i∧l[j]? = some z))→Zlv d input (ZsF d input m (l.drop i))∧Ztu d (ZsF d input m (l.drop i)):=by
  intro k
  induction k with
  | zero=>
   intro i m hi v hd
   have:i=l.length:=by omega
   subst this
   rw[List.drop_length]
   refine⟨v,fun i hi2=>(hd (i:Int) (by omega)).2 ?_⟩
   obtain⟨j,hj⟩:=List.getElem?_of_mem (T.all i hi2)
   exact⟨j,(List.getElem?_eq_some_iff.1 hj).1,hj⟩
  | succ k ih=>
   intro i m hi v hd
   have hil:i<l.length:=by omega
   have hx:l[i]? = some l[i]:=List.getElem?_eq_getElem hil
   generalize hn:l[i]=n at hx
   have nin:=T.inn n (List.mem_of_getElem? hx)
   have en:((n.toNat:Nat):Int)=n:=Int.toNat_of_nonneg nin.1
   have hr:Zgl (Zad d).dag m.done n.toNat=true:=by
    refine ZkJ.2 ⟨?_,fun e he hdst=>?_⟩
    ·rw[en]
     cases hb:bAt m.done n with
     | false=>rfl
     | true=>
      obtain⟨j,j1,j2⟩:=(hd n nin.1).1 hb
      have:=Zqm T.nod j2 hx
      omega
    ·rw[en] at hdst
     exact(hd e.src ((Zey hl.2).1.src e he).1).2 (T.topo i n hx e he hdst)
   have hs2:=Zsu hs hl v nin.2 hr
   rw[en] at hs2
   rw[List.drop_eq_getElem_cons hil,hn]
   refine ih (i+1) (ZhP d input m n) (by omega) hs2 fun z hz=>?_
   rw[ZmK,Zrc (by rw[v.o.n];exact nin.2) z hz,Bool.or_eq_true,decide_eq_true_eq,en,hd z hz]
   constructor
   ·rintro (h | ⟨j,j1,j2⟩)
    ·exact⟨i,by omega,by rw[h];exact hx⟩
    ·exact⟨j,by omega,j2⟩
   ·rintro ⟨j,j1,j2⟩
    by_cases hj:j=i
    ·subst hj;rw[hx] at j2;exact .inl (Option.some.inj j2).symm
    ·exact .inr ⟨j,by omega,j2⟩
 have:=key l.length 0 (Zlt d) (by omega) (Zuw d input) (fun z hz=>by
  constructor
  ·intro h
   exfalso
   have:bAt (Zlt d).done z=false:=by
    unfold bAt Zlt
    rw[List.getElem?_replicate]
    by_cases h:z.toNat<Zdv d
    ·rw[if_pos h]
    ·rw[if_neg h]
   rw[this] at h
   cases h
  ·rintro ⟨j,j1,_⟩;omega)
 rwa [List.drop_zero] at this
theorem Ztg {d:Zj} (hl:Zgm d) {m:Zy} (o:OKM d m) (h:¬Ztu d m):∃i:Nat,i<Zdv d∧Zgl (Zad d).dag m.done i=true:=by
 obtain⟨hG,hA⟩:=Zey hl.2
 have hex:∃i:Nat,i<Zdv d∧bAt m.done (i:Int)=false:=by
  apply Classical.byContradiction
  intro hc
  refine h fun i hi=>?_
  cases hb:bAt m.done (i:Int) with
  | true=>rfl
  | false=>exact absurd ⟨i,hi,hb⟩ hc
 obtain⟨i0,h1,h2⟩:=hex
 obtain⟨n,hn,hn2⟩:=Zr0 hA _ (Zrg (Zdv d) m.done) (Nat.le_refl _) (by
  intro he
  have:=Zjp h1 h2
  rw[he] at this;cases this)
 unfold Zrg at hn
 obtain⟨k,hk,rfl⟩:=List.mem_map.1 hn
 obtain⟨k1,k2⟩:=List.mem_filter.1 hk
 rw[List.mem_range] at k1
 refine⟨k,k1,ZkJ.2 ⟨by simpa using k2,fun e he hd=>?_⟩⟩
 have hs:=hG.src e he
 have es:((e.src.toNat:Nat):Int)=e.src:=Int.toNat_of_nonneg hs.1
 cases hb:bAt m.done e.src with
 | true=>rfl
 | false=>
  refine absurd ?_ (hn2 e he hd)
  rw[← es]
  exact Zjp hs.2 (by rw[es];exact hb)
end Go.Proofs.YtnmbdjkbaihicaaDoor
namespace Go.Proofs.YtnmbdjkbaihicaaDoor
open Go Go.Proofs.YtnmbdjkbaihicaaDoorE
set_option linter.unusedVariables false
set_option linter.unusedSimpArgs false
theorem Zfs:∀r,ZeX=some r→evD ctx 12 []=some (D.bool r):=fun r h=>by
  cases h
  exact Zz2 100 (by kernel_rfl)
def Zla (r:Bool):D:=(D.bool r)
def ZiA (t0:Bool) (t1:Bool) (t2:Bool) (t3:Bool) (a:Zj):(Unit⊕Unit)→Ex×List V×Zp
  | (.inl r)=>(.ret,[(.ptr 0 0),(.d (D.bool false))],[(.cells (dV t0 t1 t2 t3 a))])
  | (.inr r)=>(.exit 0,[(.ptr 0 0),.bad],[(.cells (dV t0 t1 t2 t3 a))])
theorem ZlU {t0:Bool}{t1:Bool}{t2:Bool}{t3:Bool}{a:Zj}:∀(s0:Int) (r:(Unit⊕Unit)),lp (Zeu a) s0=some r→lpW ctx 0 [1,3] [1,2] ZvQ [(.ptr 0 0),(.d (Zb s0))] [(.cells (dV t0 t1 t2 t3 a))]=some ((ZiA t0 t1 t2 t3 a) r):=by
 refine ZaT (ZiA t0 t1 t2 t3 a) ?_
 intro s0 rcl ih
 show ZN _ _ (lpW _ _ _ _ _ _ _)
 unfold Zeu
 rw[ZaV]
 conv=>arg 3;whnf
 refine Zn (ZH _ _) ?_;conv=>arg 3;whnf
 refine Ze rfl ?_ ?_<;>conv=>arg 3;whnf
 ·refine Ze rfl ?_ ?_<;>conv=>arg 3;whnf
  ·refine Zl rfl rfl fun x1 hx1=>?_;conv=>arg 3;whnf
   refine Zn (ZH _ _) ?_;conv=>arg 3;whnf
   refine Ze rfl ?_ ?_<;>conv=>arg 3;whnf
   ·exact Zd rfl
   ·refine Zg (ZbO rfl hx1) ?_;conv=>arg 3;whnf
    refine Zn (ZH _ _) ?_;conv=>arg 3;whnf
    refine Ze rfl ?_ ?_<;>conv=>arg 3;whnf
    ·exact Zd rfl
    ·exact Zf (ih _)
  ·exact Zd rfl
 ·exact Zd rfl
theorem Zo4 {t0:Bool}{t1:Bool}{t2:Bool}{t3:Bool}{a:Zj}:∀r,(ZgR a)=some r→evD ctx 40 [(.d (D.agg (dA t0 t1 t2 t3 a)))]=some (Zla r):=by
 show ZN _ (fun r rhs=>rhs=some (Zla r)) _
 unfold ZgR
 rw[ZaU ctx 40 Zzd _ rfl rfl]
 conv=>arg 3;whnf
 refine Zc _ (ZlU _) fun r2 hr2=>?_
 clear hr2
 rcases r2 with r2 | r2
 ·conv=>arg 3;whnf
  exact Zd rfl
 ·conv=>arg 3;whnf
  refine Zn (ZH _ _) ?_;conv=>arg 3;whnf
  refine Ze rfl ?_ ?_<;>conv=>arg 3;whnf
  ·refine Zn (ZH _ _) ?_;conv=>arg 3;whnf
   refine Ze rfl ?_ ?_<;>conv=>arg 3;whnf
   ·refine Zn (ZH _ _) ?_;conv=>arg 3;whnf
    refine Ze rfl ?_ ?_<;>conv=>arg 3;whnf
    ·refine Zn (ZH _ _) ?_;conv=>arg 3;whnf
     refine Ze rfl ?_ ?_<;>conv=>arg 3;whnf
     ·exact Zd rfl
     ·exact Zd rfl
    ·exact Zd rfl
   ·exact Zd rfl
  ·exact Zd rfl
def ZkX (r:Bool):D:=(D.bool r)
theorem ZoW {t0:Bool}{t1:Bool}{t2:Bool}{t3:Bool}{t4:Bool}{t5:Bool}{t6:Bool}{a:Zj}{b:(List Int)}{c:Zy}:∀r,(ZgX a b c)=some r→evD ctx 13 [(.d (D.agg (dA t0 t1 t2 t3 a))),(.d (D.list t4 (List.map Zb b))),(.d (D.agg [(D.list t5 (List.map D.bool c.done)),(D.list t6 (List.map Zb c.vals))]))]=some (ZkX r):=by
 show ZN _ (fun r rhs=>rhs=some (ZkX r)) _
 unfold ZgX
 rw[ZaU ctx 13 Zz0 _ rfl rfl]
 conv=>arg 3;whnf
 refine Zo _ Zo4 rfl fun x0 hx0=>?_;conv=>arg 3;whnf
 refine Ze rfl ?_ ?_<;>conv=>arg 3;whnf
 ·refine Zn (ZH _ _) ?_;conv=>arg 3;whnf
  refine Ze rfl ?_ ?_<;>conv=>arg 3;whnf
  ·refine Zn (ZH _ _) ?_;conv=>arg 3;whnf
   refine Ze rfl ?_ ?_<;>conv=>arg 3;whnf
   ·refine Zn (ZH _ _) ?_;conv=>arg 3;whnf
    refine Ze rfl ?_ ?_<;>conv=>arg 3;whnf
    ·exact Zd rfl
    ·exact Zd rfl
   ·exact Zd rfl
  ·exact Zd rfl
 ·exact Zd rfl
def Zlc (t0:Bool) (t1:Bool) (t2:Bool) (t3:Bool) (a:Zj):(List Zs)→V×Zp
  | r=>((.agg [(.d (Zb a.period)),(.d (Zb a.deadline)),(.sl 0 3),(.sl 1 2),(.sl 2 3),(.sl 3 2)]),[(.arr 3 (List.map Z3 a.parts)),(.arr 2 (List.map ZC a.edges)),(.arr 3 (List.map Zq a.futures)),(.arr 2 (List.map Zv r))])
def Ziw (t0:Bool) (t1:Bool) (t2:Bool) (t3:Bool) (a:Zj):(List Zs)→Ex×List V×Zp
  | r=>(.exit 0,[(.ptr 0 0),(.ptr 1 0)],[(.cells [(.d (Zb 0)),(.d (Zb 0)),(.sl 2 3),(.sl 3 2),(.sl 4 3),(.sl 5 2)]),(.cells [(.d (Zb a.period)),(.d (Zb a.deadline)),(.sl 6 3),(.sl 7 2),(.sl 8 3),(.sl 9 2)]),(.arr 3 []),(.arr 2 []),(.arr 3 []),(.arr 2 []),(.arr 3 (List.map Z3 a.parts)),(.arr 2 (List.map ZC a.edges)),(.arr 3 (List.map Zq a.futures)),(.arr 2 (List.map Zv r))])
theorem ZlN {t0:Bool}{t1:Bool}{t2:Bool}{t3:Bool}{a:Zj}:∀(s0:Int×(List Zs)) (r:(List Zs)),lp (ZdJ a) s0=some r→lpW ctx 0 [1,2,3,4] [2,3] Zwr [(.ptr 0 0),(.ptr 1 0),(.ptr 2 0),(.d (Zb s0.1))] [(.cells (dV t0 t1 t2 t3 a)),(.cells [(.d (Zb 0)),(.d (Zb 0)),(.sl 3 3),(.sl 4 2),(.sl 5 3),(.sl 6 2)]),(.cells [(.d (Zb a.period)),(.d (Zb a.deadline)),(.sl 7 3),(.sl 8 2),(.sl 9 3),(.sl 10 2)]),(.arr 3 []),(.arr 2 []),(.arr 3 []),(.arr 2 []),(.arr 3 (List.map Z3 a.parts)),(.arr 2 (List.map ZC a.edges)),(.arr 3 (List.map Zq a.futures)),(.arr 2 (List.map Zv s0.2))]=some ((Ziw t0 t1 t2 t3 a) r):=by
 refine ZaT (Ziw t0 t1 t2 t3 a) ?_
 intro s0 rcl ih
 show ZN _ _ (lpW _ _ _ _ _ _ _)
 unfold ZdJ
 rw[ZaV]
 conv=>arg 3;whnf
 refine Zn (ZH _ _) ?_;conv=>arg 3;whnf
 refine Ze rfl ?_ ?_<;>conv=>arg 3;whnf
 ·refine Zl rfl rfl fun x1 hx1=>?_;conv=>arg 3;whnf
  refine Zbe (ZeE (f:=Zb) (fun _=>⟨rfl,rfl⟩) x1.ins 0) ?_;conv=>arg 3;whnf
  refine Ze (ZeC Zb x1.ins) ?_ ?_
  ·conv=>arg 3;whnf
   refine Zn (rfl:_=List.map Zb x1.ins) ?_;conv=>arg 3;whnf
   refine Zg (ZbO rfl hx1) ?_;conv=>arg 3;whnf
   refine Zbe (ZeE (f:=Zb) (fun _=>⟨rfl,rfl⟩) x1.outs 0) ?_;conv=>arg 3;whnf
   refine Ze (ZeC Zb x1.outs) ?_ ?_
   ·conv=>arg 3;whnf
    refine Zn (rfl:_=List.map Zb x1.outs) ?_;conv=>arg 3;whnf
    refine Zbe rfl ?_;conv=>arg 3;whnf
    refine Ze (ZgK Zv s0.2 1) ?_ ?_
    ·conv=>arg 3;whnf
     refine Zn (ZgJ Zv s0.2 [x1]) ?_;conv=>arg 3;whnf
     exact Zf (ih _)
    ·exact Z1
   ·exact Z1
  ·exact Z1
 ·exact Zd rfl
theorem Zew {t0:Bool}{t1:Bool}{t2:Bool}{t3:Bool}{a:Zj}:∀r,(Zdu a)=some r→evW ctx 15 [(.d (D.agg (dA t0 t1 t2 t3 a)))] []=some ((Zlc t0 t1 t2 t3 a) r):=by
 show ZN _ (fun r rhs=>rhs=some ((Zlc t0 t1 t2 t3 a) r)) _
 unfold Zdu
 rw[Zfd ctx 15 Zz4 _ _ rfl rfl]
 conv=>arg 3;whnf
 refine Zbe (ZeE (f:=Z3) (fun _=>⟨rfl,rfl⟩) a.parts 0) ?_;conv=>arg 3;whnf
 refine Ze (ZeC Z3 a.parts) ?_ ?_
 ·conv=>arg 3;whnf
  refine Zn (rfl:_=List.map Z3 a.parts) ?_;conv=>arg 3;whnf
  refine Zbe (ZeE (f:=ZC) (fun _=>⟨rfl,rfl⟩) a.edges 0) ?_;conv=>arg 3;whnf
  refine Ze (ZeC ZC a.edges) ?_ ?_
  ·conv=>arg 3;whnf
   refine Zn (rfl:_=List.map ZC a.edges) ?_;conv=>arg 3;whnf
   refine Zbe (ZeE (f:=Zq) (fun _=>⟨rfl,rfl⟩) a.futures 0) ?_;conv=>arg 3;whnf
   refine Ze (ZeC Zq a.futures) ?_ ?_
   ·conv=>arg 3;whnf
    refine Zn (rfl:_=List.map Zq a.futures) ?_;conv=>arg 3;whnf
    refine Zc _ (ZlN _) fun r2 hr2=>?_;conv=>arg 3;whnf
    exact Zd rfl
   ·exact Z1
  ·exact Z1
 ·exact Z1
def ZjE (r:Bool):D:=(D.bool r)
theorem ZbY {a:Int}{b:Int}{c:Int}:∀r,(Zbr a b c)=some r→evD ctx 82 [(.d (Zb a)),(.d (Zb b)),(.d (Zb c))]=some (ZjE r):=by
 show ZN _ (fun r rhs=>rhs=some (ZjE r)) _
 unfold Zbr
 rw[ZaU ctx 82 Zz5 _ rfl rfl]
 conv=>arg 3;whnf
 refine Ze rfl ?_ ?_<;>conv=>arg 3;whnf
 ·refine Ze rfl ?_ ?_<;>conv=>arg 3;whnf
  ·exact Zd rfl
  ·exact Zd rfl
 ·exact Zd rfl
def Zk8 (r:Int):D:=(Zb r)
theorem Zoj {a:Int}:∀r,(ZgO a)=some r→evD ctx 109 [(.d (Zb a))]=some (Zk8 r):=by
 show ZN _ (fun r rhs=>rhs=some (Zk8 r)) _
 unfold ZgO
 rw[ZaU ctx 109 Zwf _ rfl rfl]
 conv=>arg 3;whnf
 refine Ze rfl ?_ ?_<;>conv=>arg 3;whnf
 ·exact Zd rfl
 ·refine Ze rfl ?_ ?_<;>conv=>arg 3;whnf
  ·exact Zd rfl
  ·exact Zd rfl
def Zfw (r:Int):D:=(Zb r)
theorem ZhC {a:Int}:∀r,(Zcp a)=some r→evD ctx 121 [(.d (D.int .u64 a))]=some (Zfw r):=by
 show ZN _ (fun r rhs=>rhs=some (Zfw r)) _
 unfold Zcp
 rw[ZaU ctx 121 ZvI _ rfl rfl]
 conv=>arg 3;whnf
 refine Zan rfl ?_;conv=>arg 3;whnf
 refine Zan rfl ?_;conv=>arg 3;whnf
 refine Zan rfl ?_;conv=>arg 3;whnf
 refine Zan rfl ?_;conv=>arg 3;whnf
 refine Zan rfl ?_;conv=>arg 3;whnf
 refine Zan rfl ?_;conv=>arg 3;whnf
 exact Zd rfl
def ZfZ (r:Int):D:=(Zb r)
theorem Zis {a:Int}:∀r,(ZcH a)=some r→evD ctx 110 [(.d (D.int .u64 a))]=some (ZfZ r):=by
 show ZN _ (fun r rhs=>rhs=some (ZfZ r)) _
 unfold ZcH
 rw[ZaU ctx 110 Zv0 _ rfl rfl]
 conv=>arg 3;whnf
 refine Zo _ ZhC rfl fun x0 hx0=>?_;conv=>arg 3;whnf
 exact Zd rfl
theorem ZAO (n:Int):0≤IntKind.u64.wrap n∧IntKind.u64.wrap n<18446744073709551616:=by
  have:IntKind.u64.wrap n=n % 18446744073709551616:=by
    show(if (false&&decide (n % 18446744073709551616 ≥ 9223372036854775808))=true then n % 18446744073709551616-18446744073709551616 else n % 18446744073709551616)=_
    simp
  rw[this]
  omega
theorem ZBK (n:Int):∃j:Nat,j<64∧(IntKind.u64.wrap n).fdiv (2 ^ (min (Int.toNat 58) IntKind.u64.bits))=(j:Int):=by
  obtain⟨h1,h2⟩:=ZAO n
  have e:(2:Int) ^ (min (Int.toNat 58) IntKind.u64.bits)=288230376151711744:=by decide
  rw[e,Int.fdiv_eq_ediv_of_nonneg _ (by omega)]
  refine⟨((IntKind.u64.wrap n) / 288230376151711744).toNat,?_,?_⟩<;>omega
theorem ZBS:∀j:Nat,j<64→Zdl [] 1 false (.d (.rptr (Zws.drop (j*1))))=some (.d (.int .u8 (Zrm.getD j 0))):=by
  have key:((List.range 64).all fun j=>match Zdl [] 1 false (.d (.rptr (Zws.drop (j*1)))) with | some (.d (.int .u8 z))=>z==Zrm.getD j 0 | _=>false)=true:=by rfl
  intro j hj
  have:=List.all_eq_true.1 key j (by simpa using hj)
  split at this
  · rename_i z hz
    rw[hz,eq_of_beq this]
  · cases this
def ZgZ (r:Int):D:=Zb r
theorem Zgr (a:Int):∀r,Zdq a=some r→evD ctx 123 [.d (.int .u64 a)]=some (ZgZ r):=by
  intro r hr
  unfold Zdq at hr
  have hr:=Option.some.inj hr
  subst hr
  rw[ZaU ctx 123 ZwO _ rfl rfl]
  by_cases h:(a==0)=true
  · conv=>lhs;whnf
    rw[h,Zye]
    rfl
  · replace h:(a==0)=false:=by simpa using h
    obtain⟨j,hj,e⟩:=ZBK (IntKind.u64.wrap ((BitVec.ofInt IntKind.u64.bits a &&& BitVec.ofInt IntKind.u64.bits (IntKind.u64.wrap (0-a))).toNat:Int)*285870213051353865)
    conv=>lhs;whnf
    rw[h,ZyD]
    conv=>lhs;whnf
    refine(ZBM (by rfl)).trans ?_
    conv=>lhs;whnf
    rw[e]
    refine(ZAB (by simp;omega)).trans ?_
    conv=>lhs;whnf
    erw [ZBS j hj]
    rfl
def Ze6 (r:Int):D:=(Zb r)
theorem Zg6 {a:Int}:∀r,(ZcG a)=some r→evD ctx 111 [(.d (D.int .u64 a))]=some (Ze6 r):=by
 show ZN _ (fun r rhs=>rhs=some (Ze6 r)) _
 unfold ZcG
 rw[ZaU ctx 111 Zvp _ rfl rfl]
 conv=>arg 3;whnf
 refine Zo _ (Zgr _) rfl fun x0 hx0=>?_;conv=>arg 3;whnf
 exact Zd rfl
def Znd (r:(Int×Bool)):D:=(D.tup [(Zb r.1),(D.bool r.2)])
theorem ZqS {a:Int}:∀r,(ZiB a)=some r→evD ctx 83 [(.d (Zb a))]=some (Znd r):=by
 show ZN _ (fun r rhs=>rhs=some (Znd r)) _
 unfold ZiB
 rw[ZaU ctx 83 Zzo _ rfl rfl]
 conv=>arg 3;whnf
 refine Zo _ Zoj rfl fun x0 hx0=>?_;conv=>arg 3;whnf
 refine Ze rfl ?_ ?_<;>conv=>arg 3;whnf
 ·exact Zd rfl
 ·refine Zo _ Zis rfl fun x1 hx1=>?_;conv=>arg 3;whnf
  refine Ze rfl ?_ ?_<;>conv=>arg 3;whnf
  ·exact Zd rfl
  ·refine Zo _ Zg6 rfl fun x2 hx2=>?_;conv=>arg 3;whnf
   exact Zd rfl
def ZkY (r:Bool):D:=(D.bool r)
theorem Zol {a:ZV}:∀r,(ZeJ a)=some r→evD ctx 85 [(.d (D.agg [(Zb a.op),(Zb a.arg),(Zb a.work)]))]=some (ZkY r):=by
 show ZN _ (fun r rhs=>rhs=some (ZkY r)) _
 unfold ZeJ
 rw[ZaU ctx 85 Zzi _ rfl rfl]
 conv=>arg 3;whnf
 refine Zo _ ZbY rfl fun x0 hx0=>?_;conv=>arg 3;whnf
 refine Ze rfl ?_ ?_<;>conv=>arg 3;whnf
 ·refine Zo _ ZbY rfl fun x1 hx1=>?_;conv=>arg 3;whnf
  refine Ze rfl ?_ ?_<;>conv=>arg 3;whnf
  ·refine Zo _ ZbY rfl fun x2 hx2=>?_;conv=>arg 3;whnf
   refine Ze rfl ?_ ?_<;>conv=>arg 3;whnf
   ·exact Zd rfl
   ·exact Zd rfl
  ·exact Zd rfl
 ·exact Zd rfl
def Zcu (r:Int):D:=(Zb r)
def Zca (t0:Bool) (a:(List ZV)):(Int⊕Unit)→Ex×List V×Zp
  | (.inl r)=>(.ret,[(.d (Zb r))],[])
  | (.inr r)=>(.exit 0,[.bad],[])
theorem Zeh {t0:Bool}{a:(List ZV)}:∀(s0:Int) (r:(Int⊕Unit)),lp (ZaX a (fun z0=>ZeJ z0)) s0=some r→lpW ctx 0 [0,1,7,8] [4] Zt1 [(.d (D.list t0 (List.map Z3 a))),(.d (D.fn 85 [])),(.d (Zb (a.length:Int))),(.d (Zb s0))] []=some ((Zca t0 a) r):=by
 refine ZaT (Zca t0 a) ?_
 intro s0 rcl ih
 show ZN _ _ (lpW _ _ _ _ _ _ _)
 unfold ZaX
 rw[ZaV]
 conv=>arg 3;whnf
 refine Ze rfl ?_ ?_<;>conv=>arg 3;whnf
 ·refine Zl rfl rfl fun x1 hx1=>?_;conv=>arg 3;whnf
  refine Zo _ Zol rfl fun x2 hx2=>?_;conv=>arg 3;whnf
  refine Ze rfl ?_ ?_<;>conv=>arg 3;whnf
  ·exact Zd rfl
  ·exact Zf (ih _)
 ·exact Zd rfl
theorem Zex {t0:Bool}{a:(List ZV)}:∀r,(ZbX a (fun z0=>ZeJ z0))=some r→evD ctx 112 [(.d (D.list t0 (List.map Z3 a))),(.d (D.fn 85 []))]=some (Zcu r):=by
 show ZN _ (fun r rhs=>rhs=some (Zcu r)) _
 unfold ZbX
 rw[ZaU ctx 112 Zxk _ rfl rfl]
 conv=>arg 3;whnf
 refine Zn (ZH _ _) ?_;conv=>arg 3;whnf
 refine Zc _ (Zeh _) fun r3 hr3=>?_
 clear hr3
 rcases r3 with r3 | r3
 ·conv=>arg 3;whnf
  exact Zd rfl
 ·conv=>arg 3;whnf
  exact Zd rfl
def Zcf (r:Bool):D:=(D.bool r)
theorem Zei {t0:Bool}{a:(List ZV)}:∀r,(ZaY a (fun z0=>ZeJ z0))=some r→evD ctx 84 [(.d (D.list t0 (List.map Z3 a))),(.d (D.fn 85 []))]=some (Zcf r):=by
 show ZN _ (fun r rhs=>rhs=some (Zcf r)) _
 unfold ZaY
 rw[ZaU ctx 84 ZzU _ rfl rfl]
 conv=>arg 3;whnf
 refine Zo _ Zex rfl fun x0 hx0=>?_;conv=>arg 3;whnf
 refine Ze rfl ?_ ?_<;>conv=>arg 3;whnf
 ·exact Zd rfl
 ·exact Zd rfl
def Zmm (r:Bool):D:=(D.bool r)
theorem Zk4 {t0:Bool}{t1:Bool}{t2:Bool}{t3:Bool}{a:Zj}{b:Int}{c:Int}:∀r,(Zgx a b c)=some r→evD ctx 86 [(.d (D.agg (dA t0 t1 t2 t3 a))),(.d (Zb b)),(.d (Zb c))]=some (Zmm r):=by
 show ZN _ (fun r rhs=>rhs=some (Zmm r)) _
 unfold Zgx
 rw[ZaU ctx 86 ZzV _ rfl rfl]
 conv=>arg 3;whnf
 refine Ze rfl ?_ ?_<;>conv=>arg 3;whnf
 ·refine Zn (ZH _ _) ?_;conv=>arg 3;whnf
  refine Zo _ ZbY rfl fun x0 hx0=>?_;conv=>arg 3;whnf
  refine Ze rfl ?_ ?_<;>conv=>arg 3;whnf
  ·refine Zn (ZH _ _) ?_;conv=>arg 3;whnf
   refine Zo _ ZbY rfl fun x1 hx1=>?_;conv=>arg 3;whnf
   refine Ze rfl ?_ ?_<;>conv=>arg 3;whnf
   ·exact Zd rfl
   ·exact Zd rfl
  ·exact Zd rfl
 ·exact Zd rfl
def ZeT (r:Int):D:=(Zb r)
def Zeq (t0:Bool) (a:(List Zm)) (b:Zm):(Int⊕Unit)→Ex×List V×Zp
  | (.inl r)=>(.ret,[(.d (Zb r))],[])
  | (.inr r)=>(.exit 0,[.bad],[])
theorem Zf9 {t0:Bool}{a:(List Zm)}{b:Zm}:∀(s0:Int) (r:(Int⊕Unit)),lp (Zbh a b) s0=some r→lpW ctx 0 [0,3,7,8] [4] ZtZ [(.d (D.list t0 (List.map ZC a))),(.ptr 0 0),(.d (Zb (a.length:Int))),(.d (Zb s0))] [(.cells [(.d (Zb b.src)),(.d (Zb b.dst))])]=some ((Zeq t0 a b) r):=by
 refine ZaT (Zeq t0 a b) ?_
 intro s0 rcl ih
 show ZN _ _ (lpW _ _ _ _ _ _ _)
 unfold Zbh
 rw[ZaV]
 conv=>arg 3;whnf
 refine Ze rfl ?_ ?_<;>conv=>arg 3;whnf
 ·refine Zl rfl rfl fun x1 hx1=>?_;conv=>arg 3;whnf
  refine Ze rfl ?_ ?_<;>conv=>arg 3;whnf
  ·exact Zd rfl
  ·exact Zf (ih _)
 ·exact Zd rfl
theorem Zg1 {t0:Bool}{a:(List Zm)}{b:Zm}:∀r,(Zcw a b)=some r→evD ctx 113 [(.d (D.list t0 (List.map ZC a))),(.d (D.agg [(Zb b.src),(Zb b.dst)]))]=some (ZeT r):=by
 show ZN _ (fun r rhs=>rhs=some (ZeT r)) _
 unfold Zcw
 rw[ZaU ctx 113 Zxx _ rfl rfl]
 conv=>arg 3;whnf
 refine Zn (ZH _ _) ?_;conv=>arg 3;whnf
 refine Zc _ (Zf9 _) fun r2 hr2=>?_
 clear hr2
 rcases r2 with r2 | r2
 ·conv=>arg 3;whnf
  exact Zd rfl
 ·conv=>arg 3;whnf
  exact Zd rfl
def Zer (r:Bool):D:=(D.bool r)
theorem Zee {t0:Bool}{a:(List Zm)}{b:Zm}:∀r,(ZaW a b)=some r→evD ctx 87 [(.d (D.list t0 (List.map ZC a))),(.d (D.agg [(Zb b.src),(Zb b.dst)]))]=some (Zer r):=by
 show ZN _ (fun r rhs=>rhs=some (Zer r)) _
 unfold ZaW
 rw[ZaU ctx 87 ZzQ _ rfl rfl]
 conv=>arg 3;whnf
 refine Zo _ Zg1 rfl fun x0 hx0=>?_;conv=>arg 3;whnf
 refine Ze rfl ?_ ?_<;>conv=>arg 3;whnf
 ·exact Zd rfl
 ·exact Zd rfl
def ZiX (r:Bool):D:=(D.bool r)
theorem Zl8 {a:Zi}{b0:Int}{b1:Int}{b2:Int}:∀r,(Zc1 a b1 b2)=some r→evD ctx 88 [(.d (D.agg [(Zb a.maker),(Zb a.user),(Zb a.pos)])),(.d (D.rptr [(Zb b0),(Zb b1),(Zb b2)]))]=some (ZiX r):=by
 show ZN _ (fun r rhs=>rhs=some (ZiX r)) _
 unfold Zc1
 rw[ZaU ctx 88 ZzO _ rfl rfl]
 conv=>arg 3;whnf
 refine Ze rfl ?_ ?_<;>conv=>arg 3;whnf
 ·refine Ze rfl ?_ ?_<;>conv=>arg 3;whnf
  ·exact Zd rfl
  ·exact Zd rfl
 ·exact Zd rfl
def ZbL (r:Int):D:=(Zb r)
def Zbw (t0:Bool) (a:(List Zi)) (b0:Int) (b1:Int) (b2:Int):(Int⊕Unit)→Ex×List V×Zp
  | (.inl r)=>(.ret,[(.d (Zb r))],[])
  | (.inr r)=>(.exit 0,[.bad],[])
theorem Zde {t0:Bool}{a:(List Zi)}{b0:Int}{b1:Int}{b2:Int}:∀(s0:Int) (r:(Int⊕Unit)),lp (ZaC a (fun z0=>Zc1 z0 b1 b2)) s0=some r→lpW ctx 0 [0,1,7,8] [4] ZtY [(.d (D.list t0 (List.map Zq a))),(.d (D.fn 88 [(D.rptr [(Zb b0),(Zb b1),(Zb b2)])])),(.d (Zb (a.length:Int))),(.d (Zb s0))] []=some ((Zbw t0 a b0 b1 b2) r):=by
 refine ZaT (Zbw t0 a b0 b1 b2) ?_
 intro s0 rcl ih
 show ZN _ _ (lpW _ _ _ _ _ _ _)
 unfold ZaC
 rw[ZaV]
 conv=>arg 3;whnf
 refine Ze rfl ?_ ?_<;>conv=>arg 3;whnf
 ·refine Zl rfl rfl fun x1 hx1=>?_;conv=>arg 3;whnf
  refine Zo _ Zl8 rfl fun x2 hx2=>?_;conv=>arg 3;whnf
  refine Ze rfl ?_ ?_<;>conv=>arg 3;whnf
  ·exact Zd rfl
  ·exact Zf (ih _)
 ·exact Zd rfl
theorem Zdx {t0:Bool}{a:(List Zi)}{b0:Int}{b1:Int}{b2:Int}:∀r,(Zbi a (fun z0=>Zc1 z0 b1 b2))=some r→evD ctx 114 [(.d (D.list t0 (List.map Zq a))),(.d (D.fn 88 [(D.rptr [(Zb b0),(Zb b1),(Zb b2)])]))]=some (ZbL r):=by
 show ZN _ (fun r rhs=>rhs=some (ZbL r)) _
 unfold Zbi
 rw[ZaU ctx 114 Zv7 _ rfl rfl]
 conv=>arg 3;whnf
 refine Zn (ZH _ _) ?_;conv=>arg 3;whnf
 refine Zc _ (Zde _) fun r3 hr3=>?_
 clear hr3
 rcases r3 with r3 | r3
 ·conv=>arg 3;whnf
  exact Zd rfl
 ·conv=>arg 3;whnf
  exact Zd rfl
def Zbu (r:Bool):D:=(D.bool r)
theorem Zdc {t0:Bool}{a:(List Zi)}{b0:Int}{b1:Int}{b2:Int}:∀r,(ZaD a (fun z0=>Zc1 z0 b1 b2))=some r→evD ctx 89 [(.d (D.list t0 (List.map Zq a))),(.d (D.fn 88 [(D.rptr [(Zb b0),(Zb b1),(Zb b2)])]))]=some (Zbu r):=by
 show ZN _ (fun r rhs=>rhs=some (Zbu r)) _
 unfold ZaD
 rw[ZaU ctx 89 ZzG _ rfl rfl]
 conv=>arg 3;whnf
 refine Zo _ Zdx rfl fun x0 hx0=>?_;conv=>arg 3;whnf
 refine Ze rfl ?_ ?_<;>conv=>arg 3;whnf
 ·exact Zd rfl
 ·exact Zd rfl
def Zl6 (r:Bool):D:=(D.bool r)
def ZjC (t0:Bool) (t1:Bool) (t2:Bool) (t3:Bool) (t4:Bool) (a:Zj) (b:(List Int)):(Unit⊕Unit)→Ex×List V×Zp
  | (.inl r)=>(.ret,[(.d (D.list t4 (List.map Zb b))),(.d (D.bool false))],[])
  | (.inr r)=>(.exit 0,[(.d (D.list t4 (List.map Zb b))),.bad],[])
theorem Zm1 {t0:Bool}{t1:Bool}{t2:Bool}{t3:Bool}{t4:Bool}{a:Zj}{b:(List Int)}:∀(s0:Int) (r:(Unit⊕Unit)),lp (Ze0 a b) s0=some r→lpW ctx 0 [1,2,7,8,9] [1,4] ZwL [(.d (D.list t4 (List.map Zb b))),(.ptr 0 0),(.d (D.list t4 (List.map Zb b))),(.d (Zb (b.length:Int))),(.d (Zb s0))] [(.cells (dV t0 t1 t2 t3 a))]=some ((ZjC t0 t1 t2 t3 t4 a b) r):=by
 refine ZaT (ZjC t0 t1 t2 t3 t4 a b) ?_
 intro s0 rcl ih
 show ZN _ _ (lpW _ _ _ _ _ _ _)
 unfold Ze0
 rw[ZaV]
 conv=>arg 3;whnf
 refine Ze rfl ?_ ?_<;>conv=>arg 3;whnf
 ·refine Zl rfl rfl fun x1 hx1=>?_;conv=>arg 3;whnf
  refine Zn (ZH _ _) ?_;conv=>arg 3;whnf
  refine Zo _ ZbY rfl fun x2 hx2=>?_;conv=>arg 3;whnf
  refine Ze rfl ?_ ?_<;>conv=>arg 3;whnf
  ·refine Ze rfl ?_ ?_<;>conv=>arg 3;whnf
   ·refine Zl rfl rfl fun x3 hx3=>?_;conv=>arg 3;whnf
    refine Ze rfl ?_ ?_<;>conv=>arg 3;whnf
    ·exact Zd rfl
    ·exact Zf (ih _)
   ·exact Zf (ih _)
  ·exact Zd rfl
 ·exact Zd rfl
theorem Zlb {t0:Bool}{t1:Bool}{t2:Bool}{t3:Bool}{t4:Bool}{a:Zj}{b:(List Int)}:∀r,(Zgy a b)=some r→evD ctx 92 [(.d (D.agg (dA t0 t1 t2 t3 a))),(.d (D.list t4 (List.map Zb b)))]=some (Zl6 r):=by
 show ZN _ (fun r rhs=>rhs=some (Zl6 r)) _
 unfold Zgy
 rw[ZaU ctx 92 Zze _ rfl rfl]
 conv=>arg 3;whnf
 refine Zn (ZH _ _) ?_;conv=>arg 3;whnf
 refine Zc _ (Zm1 _) fun r4 hr4=>?_
 clear hr4
 rcases r4 with r4 | r4
 ·conv=>arg 3;whnf
  exact Zd rfl
 ·conv=>arg 3;whnf
  refine Zn (ZH _ _) ?_;conv=>arg 3;whnf
  refine Ze rfl ?_ ?_<;>conv=>arg 3;whnf
  ·exact Zd rfl
  ·exact Zd rfl
def Zfi (r:Int):D:=(Zb r)
def ZeK (t0:Bool) (a:(List Int)) (b:Int):(Int⊕Unit)→Ex×List V×Zp
  | (.inl r)=>(.ret,[(.d (Zb r))],[])
  | (.inr r)=>(.exit 0,[.bad],[])
theorem Zgv {t0:Bool}{a:(List Int)}{b:Int}:∀(s0:Int) (r:(Int⊕Unit)),lp (Zby a b) s0=some r→lpW ctx 0 [0,1,7,8] [4] ZtB [(.d (D.list t0 (List.map Zb a))),(.d (Zb b)),(.d (Zb (a.length:Int))),(.d (Zb s0))] []=some ((ZeK t0 a b) r):=by
 refine ZaT (ZeK t0 a b) ?_
 intro s0 rcl ih
 show ZN _ _ (lpW _ _ _ _ _ _ _)
 unfold Zby
 rw[ZaV]
 conv=>arg 3;whnf
 refine Ze rfl ?_ ?_<;>conv=>arg 3;whnf
 ·refine Zl rfl rfl fun x1 hx1=>?_;conv=>arg 3;whnf
  refine Ze rfl ?_ ?_<;>conv=>arg 3;whnf
  ·exact Zd rfl
  ·exact Zf (ih _)
 ·exact Zd rfl
theorem Zhv {t0:Bool}{a:(List Int)}{b:Int}:∀r,(ZcV a b)=some r→evD ctx 115 [(.d (D.list t0 (List.map Zb a))),(.d (Zb b))]=some (Zfi r):=by
 show ZN _ (fun r rhs=>rhs=some (Zfi r)) _
 unfold ZcV
 rw[ZaU ctx 115 Zxa _ rfl rfl]
 conv=>arg 3;whnf
 refine Zn (ZH _ _) ?_;conv=>arg 3;whnf
 refine Zc _ (Zgv _) fun r2 hr2=>?_
 clear hr2
 rcases r2 with r2 | r2
 ·conv=>arg 3;whnf
  exact Zd rfl
 ·conv=>arg 3;whnf
  exact Zd rfl
def ZeH (r:Bool):D:=(D.bool r)
theorem Zgz {t0:Bool}{a:(List Int)}{b:Int}:∀r,(Zbx a b)=some r→evD ctx 91 [(.d (D.list t0 (List.map Zb a))),(.d (Zb b))]=some (ZeH r):=by
 show ZN _ (fun r rhs=>rhs=some (ZeH r)) _
 unfold Zbx
 rw[ZaU ctx 91 ZzE _ rfl rfl]
 conv=>arg 3;whnf
 refine Zo _ Zhv rfl fun x0 hx0=>?_;conv=>arg 3;whnf
 refine Ze rfl ?_ ?_<;>conv=>arg 3;whnf
 ·exact Zd rfl
 ·exact Zd rfl
def Zi7 (r:Bool):D:=(D.bool r)
theorem Zl5 {t0:Bool}{t1:Bool}{a:Int}{b0:(List Int)}{b1:(List Int)}:∀r,(Zc3 a b1)=some r→evD ctx 90 [(.d (Zb a)),(.d (D.rptr [(D.list t0 (List.map Zb b0)),(D.list t1 (List.map Zb b1))]))]=some (Zi7 r):=by
 show ZN _ (fun r rhs=>rhs=some (Zi7 r)) _
 unfold Zc3
 rw[ZaU ctx 90 Zz3 _ rfl rfl]
 conv=>arg 3;whnf
 refine Zo _ Zgz rfl fun x0 hx0=>?_;conv=>arg 3;whnf
 refine Ze rfl ?_ ?_<;>conv=>arg 3;whnf
 ·exact Zd rfl
 ·exact Zd rfl
def Zco (r:Int):D:=(Zb r)
def Zb5 (t0:Bool) (t1:Bool) (t2:Bool) (a:(List Int)) (b0:(List Int)) (b1:(List Int)):(Int⊕Unit)→Ex×List V×Zp
  | (.inl r)=>(.ret,[(.d (Zb r))],[])
  | (.inr r)=>(.exit 0,[.bad],[])
theorem ZdY {t0:Bool}{t1:Bool}{t2:Bool}{a:(List Int)}{b0:(List Int)}{b1:(List Int)}:∀(s0:Int) (r:(Int⊕Unit)),lp (Zap a (fun z0=>Zc3 z0 b1)) s0=some r→lpW ctx 0 [0,1,7,8] [4] ZqE [(.d (D.list t0 (List.map Zb a))),(.d (D.fn 90 [(D.rptr [(D.list t1 (List.map Zb b0)),(D.list t2 (List.map Zb b1))])])),(.d (Zb (a.length:Int))),(.d (Zb s0))] []=some ((Zb5 t0 t1 t2 a b0 b1) r):=by
 refine ZaT (Zb5 t0 t1 t2 a b0 b1) ?_
 intro s0 rcl ih
 show ZN _ _ (lpW _ _ _ _ _ _ _)
 unfold Zap
 rw[ZaV]
 conv=>arg 3;whnf
 refine Ze rfl ?_ ?_<;>conv=>arg 3;whnf
 ·refine Zl rfl rfl fun x1 hx1=>?_;conv=>arg 3;whnf
  refine Zo _ Zl5 rfl fun x2 hx2=>?_;conv=>arg 3;whnf
  refine Ze rfl ?_ ?_<;>conv=>arg 3;whnf
  ·exact Zd rfl
  ·exact Zf (ih _)
 ·exact Zd rfl
theorem Zes {t0:Bool}{t1:Bool}{t2:Bool}{a:(List Int)}{b0:(List Int)}{b1:(List Int)}:∀r,(ZaZ a (fun z0=>Zc3 z0 b1))=some r→evD ctx 116 [(.d (D.list t0 (List.map Zb a))),(.d (D.fn 90 [(D.rptr [(D.list t1 (List.map Zb b0)),(D.list t2 (List.map Zb b1))])]))]=some (Zco r):=by
 show ZN _ (fun r rhs=>rhs=some (Zco r)) _
 unfold ZaZ
 rw[ZaU ctx 116 Zut _ rfl rfl]
 conv=>arg 3;whnf
 refine Zn (ZH _ _) ?_;conv=>arg 3;whnf
 refine Zc _ (ZdY _) fun r3 hr3=>?_
 clear hr3
 rcases r3 with r3 | r3
 ·conv=>arg 3;whnf
  exact Zd rfl
 ·conv=>arg 3;whnf
  exact Zd rfl
def Zb6 (r:Bool):D:=(D.bool r)
theorem Zd0 {t0:Bool}{t1:Bool}{t2:Bool}{a:(List Int)}{b0:(List Int)}{b1:(List Int)}:∀r,(Z7 a (fun z0=>Zc3 z0 b1))=some r→evD ctx 93 [(.d (D.list t0 (List.map Zb a))),(.d (D.fn 90 [(D.rptr [(D.list t1 (List.map Zb b0)),(D.list t2 (List.map Zb b1))])]))]=some (Zb6 r):=by
 show ZN _ (fun r rhs=>rhs=some (Zb6 r)) _
 unfold Z7
 rw[ZaU ctx 93 Zx9 _ rfl rfl]
 conv=>arg 3;whnf
 refine Zo _ Zes rfl fun x0 hx0=>?_;conv=>arg 3;whnf
 refine Ze rfl ?_ ?_<;>conv=>arg 3;whnf
 ·exact Zd rfl
 ·exact Zd rfl
def Zkq (r:Int):D:=(Zb r)
def Zh9 (t0:Bool) (t1:Bool) (t2:Bool) (t3:Bool) (a:Zj):(Unit⊕Unit)→Ex×List V×Zp
  | (.inl r)=>(.ret,[(.ptr 0 0),(.d (Zb 53))],[(.cells (dV t0 t1 t2 t3 a))])
  | (.inr r)=>(.exit 0,[(.ptr 0 0),.bad],[(.cells (dV t0 t1 t2 t3 a))])
theorem Zlk {t0:Bool}{t1:Bool}{t2:Bool}{t3:Bool}{a:Zj}:∀(s4:Int) (r:(Unit⊕Unit)),lp (Zdd a) s4=some r→lpW ctx 0 [1,61,62,63] [1,2] Zvn [(.ptr 0 0),(.d (D.list t1 (List.map ZC a.edges))),(.d (Zb (a.edges.length:Int))),(.d (Zb s4))] [(.cells (dV t0 t1 t2 t3 a))]=some ((Zh9 t0 t1 t2 t3 a) r):=by
 refine ZaT (Zh9 t0 t1 t2 t3 a) ?_
 intro s4 rcl ih
 show ZN _ _ (lpW _ _ _ _ _ _ _)
 unfold Zdd
 rw[ZaV]
 conv=>arg 3;whnf
 refine Ze rfl ?_ ?_<;>conv=>arg 3;whnf
 ·refine Zl rfl rfl fun x5 hx5=>?_;conv=>arg 3;whnf
  refine Zo _ Zk4 rfl fun x6 hx6=>?_;conv=>arg 3;whnf
  refine Ze rfl ?_ ?_<;>conv=>arg 3;whnf
  ·refine Ze rfl ?_ ?_
   ·conv=>arg 3;whnf
    refine Ze (Zwe ZC a.edges s4.toNat) ?_ ?_
    ·conv=>arg 3;whnf
     refine Zbe rfl ?_;conv=>arg 3;whnf
     refine Zn (Zre ZC a.edges s4.toNat) ?_;conv=>arg 3;whnf
     refine Zo _ Zee rfl fun x7 hx7=>?_;conv=>arg 3;whnf
     refine Ze rfl ?_ ?_<;>conv=>arg 3;whnf
     ·exact Zd rfl
     ·exact Zf (ih _)
    ·exact Z1
   ·exact Z1
  ·exact Zd rfl
 ·exact Zd rfl
def Zic (t0:Bool) (t1:Bool) (t2:Bool) (t3:Bool) (a:Zj):(Unit⊕Unit)→Ex×List V×Zp
  | (.inl r)=>(.ret,[(.ptr 0 0),(.d (Zb 54))],[(.cells (dV t0 t1 t2 t3 a))])
  | (.inr r)=>(.exit 2,[(.ptr 0 0),.bad],[(.cells (dV t0 t1 t2 t3 a))])
theorem ZlB {t0:Bool}{t1:Bool}{t2:Bool}{t3:Bool}{a:Zj}:∀(s9:Int) (r:(Unit⊕Unit)),lp (Zdh a) s9=some r→lpW ctx 0 [1,85,86,87] [1,2] Zv5 [(.ptr 0 0),(.d (D.list t2 (List.map Zq a.futures))),(.d (Zb (a.futures.length:Int))),(.d (Zb s9))] [(.cells (dV t0 t1 t2 t3 a))]=some ((Zic t0 t1 t2 t3 a) r):=by
 refine ZaT (Zic t0 t1 t2 t3 a) ?_
 intro s9 rcl ih
 show ZN _ _ (lpW _ _ _ _ _ _ _)
 unfold Zdh
 rw[ZaV]
 conv=>arg 3;whnf
 refine Ze rfl ?_ ?_<;>conv=>arg 3;whnf
 ·refine Zl rfl rfl fun x10 hx10=>?_;conv=>arg 3;whnf
  refine Zo _ Zk4 rfl fun x11 hx11=>?_;conv=>arg 3;whnf
  refine Ze rfl ?_ ?_<;>conv=>arg 3;whnf
  ·refine Zl rfl rfl fun x12 hx12=>?_;conv=>arg 3;whnf
   refine Zo _ ZbY rfl fun x13 hx13=>?_;conv=>arg 3;whnf
   refine Ze rfl ?_ ?_<;>conv=>arg 3;whnf
   ·refine Ze rfl ?_ ?_
    ·conv=>arg 3;whnf
     refine Ze (Zwe Zq a.futures s9.toNat) ?_ ?_
     ·conv=>arg 3;whnf
      refine Zbe rfl ?_;conv=>arg 3;whnf
      refine Zn (Zre Zq a.futures s9.toNat) ?_;conv=>arg 3;whnf
      refine Zo _ Zdc rfl fun x14 hx14=>?_;conv=>arg 3;whnf
      refine Ze rfl ?_ ?_<;>conv=>arg 3;whnf
      ·exact Zd rfl
      ·exact Zf (ih _)
     ·exact Z1
    ·exact Z1
   ·exact Zd rfl
  ·exact Zd rfl
 ·exact Zd rfl
def Zia (t0:Bool) (t1:Bool) (t2:Bool) (t3:Bool) (a:Zj):(Unit⊕Unit)→Ex×List V×Zp
  | (.inl r)=>(.ret,[(.d (Zb 55))],[])
  | (.inr r)=>(.exit 4,[.bad],[])
theorem Zly {t0:Bool}{t1:Bool}{t2:Bool}{t3:Bool}{a:Zj}:∀(s16:Int) (r:(Unit⊕Unit)),lp (Zdf a) s16=some r→lpW ctx 0 [1,124,125,126] [2] ZwY [(.ptr 0 0),(.d (D.list t3 (List.map Zv a.barriers))),(.d (Zb (a.barriers.length:Int))),(.d (Zb s16))] [(.cells (dV t0 t1 t2 t3 a))]=some ((Zia t0 t1 t2 t3 a) r):=by
 refine ZaT (Zia t0 t1 t2 t3 a) ?_
 intro s16 rcl ih
 show ZN _ _ (lpW _ _ _ _ _ _ _)
 unfold Zdf
 rw[ZaV]
 conv=>arg 3;whnf
 refine Ze rfl ?_ ?_<;>conv=>arg 3;whnf
 ·refine Zl rfl rfl fun x17 hx17=>?_;conv=>arg 3;whnf
  refine Zo _ Zlb rfl fun x18 hx18=>?_;conv=>arg 3;whnf
  refine Ze rfl ?_ ?_<;>conv=>arg 3;whnf
  ·refine Zo _ Zlb rfl fun x19 hx19=>?_;conv=>arg 3;whnf
   refine Ze rfl ?_ ?_<;>conv=>arg 3;whnf
   ·refine Zo _ Zd0 rfl fun x20 hx20=>?_;conv=>arg 3;whnf
    refine Ze rfl ?_ ?_<;>conv=>arg 3;whnf
    ·exact Zd rfl
    ·exact Zf (ih _)
   ·exact Zd rfl
  ·exact Zd rfl
 ·exact Zd rfl
theorem Zg5 {t0:Bool}{t1:Bool}{t2:Bool}{t3:Bool}{a:Zj}:∀r,(ZeQ a)=some r→evD ctx 55 [(.d (D.agg (dA t0 t1 t2 t3 a)))]=some (Zkq r):=by
 show ZN _ (fun r rhs=>rhs=some (Zkq r)) _
 unfold ZeQ
 rw[ZaU ctx 55 Zzv _ rfl rfl]
 conv=>arg 3;whnf
 refine Zn (ZH _ _) ?_;conv=>arg 3;whnf
 refine Zo _ ZbY rfl fun x0 hx0=>?_;conv=>arg 3;whnf
 refine Ze rfl ?_ ?_<;>conv=>arg 3;whnf
 ·refine Zn (ZH _ _) ?_;conv=>arg 3;whnf
  refine Ze rfl ?_ ?_<;>conv=>arg 3;whnf
  ·exact Zd rfl
  ·refine Zn (ZH _ _) ?_;conv=>arg 3;whnf
   refine Ze rfl ?_ ?_<;>conv=>arg 3;whnf
   ·exact Zd rfl
   ·refine Zn (ZH _ _) ?_;conv=>arg 3;whnf
    refine Ze rfl ?_ ?_<;>conv=>arg 3;whnf
    ·exact Zd rfl
    ·refine Zo _ ZqS rfl fun x1 hx1=>?_;conv=>arg 3;whnf
     refine Ze rfl ?_ ?_<;>conv=>arg 3;whnf
     ·refine Ze rfl ?_ ?_<;>conv=>arg 3;whnf
      ·exact Zd rfl
      ·refine Zo _ ZbY rfl fun x2 hx2=>?_;conv=>arg 3;whnf
       refine Ze rfl ?_ ?_<;>conv=>arg 3;whnf
       ·refine Zo _ Zei rfl fun x3 hx3=>?_;conv=>arg 3;whnf
        refine Ze rfl ?_ ?_<;>conv=>arg 3;whnf
        ·exact Zd rfl
        ·refine Zn (ZH _ _) ?_;conv=>arg 3;whnf
         refine Zc _ (Zlk _) fun r8 hr8=>?_
         clear hr8
         rcases r8 with r8 | r8
         ·conv=>arg 3;whnf
          exact Zd rfl
         ·conv=>arg 3;whnf
          refine Zn (ZH _ _) ?_;conv=>arg 3;whnf
          refine Zc _ (ZlB _) fun r15 hr15=>?_
          clear hr15
          rcases r15 with r15 | r15
          ·conv=>arg 3;whnf
           exact Zd rfl
          ·conv=>arg 3;whnf
           refine Zn (ZH _ _) ?_;conv=>arg 3;whnf
           refine Zc _ (Zly _) fun r21 hr21=>?_
           clear hr21
           rcases r21 with r21 | r21
           ·conv=>arg 3;whnf
            exact Zd rfl
           ·conv=>arg 3;whnf
            exact Zd rfl
       ·exact Zd rfl
     ·exact Zd rfl
 ·exact Zd rfl
def ZhK (r:Int):D:=(Zb r)
theorem ZF {t0:Bool}{t1:Bool}{t2:Bool}{t3:Bool}{a:Int}{b:Int}{c0:Int}{c1:Int}{c2:(List ZV)}{c3:(List Zm)}{c4:(List Zi)}{c5:(List Zs)}:∀r,(Zt a b c4)=some r→evD ctx 118 [(.d (Zb a)),(.d (Zb b)),(.d (D.rptr [(Zb c0),(Zb c1),(D.list t0 (List.map Z3 c2)),(D.list t1 (List.map ZC c3)),(D.list t2 (List.map Zq c4)),(D.list t3 (List.map Zv c5))]))]=some (ZhK r):=by
 show ZN _ (fun r rhs=>rhs=some (ZhK r)) _
 unfold Zt
 rw[ZaU ctx 118 ZwH _ rfl rfl]
 conv=>arg 3;whnf
 refine Zl rfl rfl fun x0 hx0=>?_;conv=>arg 3;whnf
 refine Zl rfl rfl fun x1 hx1=>?_;conv=>arg 3;whnf
 exact Zd rfl
def Zhf (r:Int):D:=(Zb r)
theorem ZjZ {a:Int}:∀r,(Zgj a)=some r→evD ctx 135 [(.d (D.int .u64 a))]=some (Zhf r):=by
 show ZN _ (fun r rhs=>rhs=some (Zhf r)) _
 unfold Zgj
 rw[ZaU ctx 135 ZvV _ rfl rfl]
 conv=>arg 3;whnf
 refine Ze rfl ?_ ?_<;>conv=>arg 3;whnf
 ·refine Zan rfl ?_;conv=>arg 3;whnf
  refine Ze rfl ?_ ?_<;>conv=>arg 3;whnf
  ·refine Zan rfl ?_;conv=>arg 3;whnf
   refine Ze rfl ?_ ?_<;>conv=>arg 3;whnf
   ·refine Zan rfl ?_;conv=>arg 3;whnf
    refine Ze rfl ?_ ?_
    ·conv=>arg 3;whnf
     refine ZgN rfl fun x0 hx0=>?_;conv=>arg 3;whnf
     exact Zd rfl
    ·exact Z1
   ·refine Ze rfl ?_ ?_
    ·conv=>arg 3;whnf
     refine ZgN rfl fun x1 hx1=>?_;conv=>arg 3;whnf
     exact Zd rfl
    ·exact Z1
  ·refine Ze rfl ?_ ?_<;>conv=>arg 3;whnf
   ·refine Zan rfl ?_;conv=>arg 3;whnf
    refine Ze rfl ?_ ?_
    ·conv=>arg 3;whnf
     refine ZgN rfl fun x2 hx2=>?_;conv=>arg 3;whnf
     exact Zd rfl
    ·exact Z1
   ·refine Ze rfl ?_ ?_
    ·conv=>arg 3;whnf
     refine ZgN rfl fun x3 hx3=>?_;conv=>arg 3;whnf
     exact Zd rfl
    ·exact Z1
 ·refine Ze rfl ?_ ?_<;>conv=>arg 3;whnf
  ·refine Zan rfl ?_;conv=>arg 3;whnf
   refine Ze rfl ?_ ?_<;>conv=>arg 3;whnf
   ·refine Zan rfl ?_;conv=>arg 3;whnf
    refine Ze rfl ?_ ?_
    ·conv=>arg 3;whnf
     refine ZgN rfl fun x4 hx4=>?_;conv=>arg 3;whnf
     exact Zd rfl
    ·exact Z1
   ·refine Ze rfl ?_ ?_
    ·conv=>arg 3;whnf
     refine ZgN rfl fun x5 hx5=>?_;conv=>arg 3;whnf
     exact Zd rfl
    ·exact Z1
  ·refine Ze rfl ?_ ?_<;>conv=>arg 3;whnf
   ·refine Zan rfl ?_;conv=>arg 3;whnf
    refine Ze rfl ?_ ?_
    ·conv=>arg 3;whnf
     refine ZgN rfl fun x6 hx6=>?_;conv=>arg 3;whnf
     exact Zd rfl
    ·exact Z1
   ·refine Ze rfl ?_ ?_
    ·conv=>arg 3;whnf
     refine ZgN rfl fun x7 hx7=>?_;conv=>arg 3;whnf
     exact Zd rfl
    ·exact Z1
def Zh3 (r:Int):D:=(Zb r)
theorem ZhS {a:Int}:∀r,(Zd7 a)=some r→evD ctx 125 [(.d (D.int .u64 a))]=some (Zh3 r):=by
 show ZN _ (fun r rhs=>rhs=some (Zh3 r)) _
 unfold Zd7
 rw[ZaU ctx 125 Zwo _ rfl rfl]
 conv=>arg 3;whnf
 refine Zo _ ZjZ rfl fun x0 hx0=>?_;conv=>arg 3;whnf
 exact Zd rfl
def ZbF (t0:Bool) (t1:Bool) (t2:Bool) (t3:Bool) (b:Int) (c:Int) (m0_0:(List Int)) (m1_0:Int) (m1_1:Int) (m1_2:(List ZV)) (m1_3:(List Zm)) (m1_4:(List Zi)) (m1_5:(List Zs)):(List Int)→V×Zp
  | r=>((.d (D.tup [])),[(.arr 1 (List.map Zb r)),(.cells [(.d (Zb m1_0)),(.d (Zb m1_1)),(.d (D.list t0 (List.map Z3 m1_2))),(.d (D.list t1 (List.map ZC m1_3))),(.d (D.list t2 (List.map Zq m1_4))),(.d (D.list t3 (List.map Zv m1_5)))])])
def Zbm (t0:Bool) (t1:Bool) (t2:Bool) (t3:Bool) (b:Int) (c:Int) (m1_0:Int) (m1_1:Int) (m1_2:(List ZV)) (m1_3:(List Zm)) (m1_4:(List Zi)) (m1_5:(List Zs)) (s0:Int×(List Int)):(List Int)→Ex×List V×Zp
  | r=>(.exit 2,[(.sl 0 1),(.d (Zb b)),(.d (Zb c)),(.fn 118 [(.ptr 1 0)]),(.d (Zb s0.1))],[(.arr 1 (List.map Zb r)),(.cells [(.d (Zb m1_0)),(.d (Zb m1_1)),(.d (D.list t0 (List.map Z3 m1_2))),(.d (D.list t1 (List.map ZC m1_3))),(.d (D.list t2 (List.map Zq m1_4))),(.d (D.list t3 (List.map Zv m1_5)))])])
theorem Zc4 {t0:Bool}{t1:Bool}{t2:Bool}{t3:Bool}{b:Int}{c:Int}{m1_0:Int}{m1_1:Int}{m1_2:(List ZV)}{m1_3:(List Zm)}{m1_4:(List Zi)}{m1_5:(List Zs)}{s0:Int×(List Int)}:∀(s1:Int×(List Int)) (r:(List Int)),lp (ZX b (fun z0 z1=>Zt z0 z1 m1_4)) s1=some r→lpW ctx 2 [0,1,2,3,8,9] [0,1,2,3,8] ZtM [(.sl 0 1),(.d (Zb b)),(.d (Zb c)),(.fn 118 [(.ptr 1 0)]),(.d (Zb s0.1)),(.d (Zb s1.1))] [(.arr 1 (List.map Zb s1.2)),(.cells [(.d (Zb m1_0)),(.d (Zb m1_1)),(.d (D.list t0 (List.map Z3 m1_2))),(.d (D.list t1 (List.map ZC m1_3))),(.d (D.list t2 (List.map Zq m1_4))),(.d (D.list t3 (List.map Zv m1_5)))])]=some ((Zbm t0 t1 t2 t3 b c m1_0 m1_1 m1_2 m1_3 m1_4 m1_5 s0) r):=by
 refine ZaT (Zbm t0 t1 t2 t3 b c m1_0 m1_1 m1_2 m1_3 m1_4 m1_5 s0) ?_
 intro s1 rcl ih
 show ZN _ _ (lpW _ _ _ _ _ _ _)
 unfold ZX
 rw[ZaV]
 conv=>arg 3;whnf
 refine Ze rfl ?_ ?_<;>conv=>arg 3;whnf
 ·refine Zl rfl rfl fun x2 hx2=>?_;conv=>arg 3;whnf
  refine Zg (ZA rfl hx2) ?_;conv=>arg 3;whnf
  refine Zl rfl rfl fun x3 hx3=>?_;conv=>arg 3;whnf
  refine Zg (ZA rfl hx3) ?_;conv=>arg 3;whnf
  refine Zo _ ZF rfl fun x4 hx4=>?_;conv=>arg 3;whnf
  refine Ze rfl ?_ ?_<;>conv=>arg 3;whnf
  ·refine Zg (ZbO rfl hx3) ?_;conv=>arg 3;whnf
   refine Zg (ZA rfl hx3) ?_;conv=>arg 3;whnf
   refine Zg (ZbO rfl hx2) ?_;conv=>arg 3;whnf
   refine Zg (ZA rfl hx2) ?_;conv=>arg 3;whnf
   refine Zg (ZbO rfl hx2) ?_;conv=>arg 3;whnf
   refine Zg (ZA rfl hx2) ?_;conv=>arg 3;whnf
   refine Zn (ZaL Zb s1.2 s1.1.toNat x3) ?_;conv=>arg 3;whnf
   refine Zl rfl rfl fun x5 hx5=>?_;conv=>arg 3;whnf
   refine Zg (ZA rfl hx5) ?_;conv=>arg 3;whnf
   refine Zn (ZaL Zb (List.set s1.2 s1.1.toNat x3) (w64 (s1.1-1)).toNat x2) ?_;conv=>arg 3;whnf
   exact Zf (ih _)
  ·exact Zd rfl
 ·exact Zd rfl
def Zbo (t0:Bool) (t1:Bool) (t2:Bool) (t3:Bool) (b:Int) (c:Int) (m1_0:Int) (m1_1:Int) (m1_2:(List ZV)) (m1_3:(List Zm)) (m1_4:(List Zi)) (m1_5:(List Zs)):(List Int)→Ex×List V×Zp
  | r=>(.exit 0,[],[(.arr 1 (List.map Zb r)),(.cells [(.d (Zb m1_0)),(.d (Zb m1_1)),(.d (D.list t0 (List.map Z3 m1_2))),(.d (D.list t1 (List.map ZC m1_3))),(.d (D.list t2 (List.map Zq m1_4))),(.d (D.list t3 (List.map Zv m1_5)))])])
theorem Zc5 {t0:Bool}{t1:Bool}{t2:Bool}{t3:Bool}{b:Int}{c:Int}{m1_0:Int}{m1_1:Int}{m1_2:(List ZV)}{m1_3:(List Zm)}{m1_4:(List Zi)}{m1_5:(List Zs)}:∀(s0:Int×(List Int)) (r:(List Int)),lp (Zam b c (fun z0 z1=>Zt z0 z1 m1_4)) s0=some r→lpW ctx 2 [0,1,2,3,8] [] ZtJ [(.sl 0 1),(.d (Zb b)),(.d (Zb c)),(.fn 118 [(.ptr 1 0)]),(.d (Zb s0.1))] [(.arr 1 (List.map Zb s0.2)),(.cells [(.d (Zb m1_0)),(.d (Zb m1_1)),(.d (D.list t0 (List.map Z3 m1_2))),(.d (D.list t1 (List.map ZC m1_3))),(.d (D.list t2 (List.map Zq m1_4))),(.d (D.list t3 (List.map Zv m1_5)))])]=some ((Zbo t0 t1 t2 t3 b c m1_0 m1_1 m1_2 m1_3 m1_4 m1_5) r):=by
 refine ZaT (Zbo t0 t1 t2 t3 b c m1_0 m1_1 m1_2 m1_3 m1_4 m1_5) ?_
 intro s0 rcl ih
 show ZN _ _ (lpW _ _ _ _ _ _ _)
 unfold Zam
 rw[ZaV]
 conv=>arg 3;whnf
 refine Ze rfl ?_ ?_<;>conv=>arg 3;whnf
 ·refine Zc _ (Zc4 _) fun r6 hr6=>?_;conv=>arg 3;whnf
  exact Zf (ih _)
 ·exact Zd rfl
theorem Zaa {t0:Bool}{t1:Bool}{t2:Bool}{t3:Bool}{b:Int}{c:Int}{m0_0:(List Int)}{m1_0:Int}{m1_1:Int}{m1_2:(List ZV)}{m1_3:(List Zm)}{m1_4:(List Zi)}{m1_5:(List Zs)}:∀r,(ZW b c (fun z0 z1=>Zt z0 z1 m1_4) m0_0)=some r→evW ctx 126 [(.sl 0 1),(.d (Zb b)),(.d (Zb c)),(.fn 118 [(.ptr 1 0)])] [(.arr 1 (List.map Zb m0_0)),(.cells [(.d (Zb m1_0)),(.d (Zb m1_1)),(.d (D.list t0 (List.map Z3 m1_2))),(.d (D.list t1 (List.map ZC m1_3))),(.d (D.list t2 (List.map Zq m1_4))),(.d (D.list t3 (List.map Zv m1_5)))])]=some ((ZbF t0 t1 t2 t3 b c m0_0 m1_0 m1_1 m1_2 m1_3 m1_4 m1_5) r):=by
 show ZN _ (fun r rhs=>rhs=some ((ZbF t0 t1 t2 t3 b c m0_0 m1_0 m1_1 m1_2 m1_3 m1_4 m1_5) r)) _
 unfold ZW
 rw[Zfd ctx 126 ZwF _ _ rfl rfl]
 conv=>arg 3;whnf
 refine Zc _ (Zc5 _) fun r7 hr7=>?_;conv=>arg 3;whnf
 exact Zd rfl
def Zcj (t0:Bool) (t1:Bool) (t2:Bool) (t3:Bool) (b:Int) (c:Int) (d:Int) (m0_0:(List Int)) (m1_0:Int) (m1_1:Int) (m1_2:(List ZV)) (m1_3:(List Zm)) (m1_4:(List Zi)) (m1_5:(List Zs)):(List Int)→V×Zp
  | r=>((.d (D.tup [])),[(.arr 1 (List.map Zb r)),(.cells [(.d (Zb m1_0)),(.d (Zb m1_1)),(.d (D.list t0 (List.map Z3 m1_2))),(.d (D.list t1 (List.map ZC m1_3))),(.d (D.list t2 (List.map Zq m1_4))),(.d (D.list t3 (List.map Zv m1_5)))])])
def ZbW (t0:Bool) (t1:Bool) (t2:Bool) (t3:Bool) (c:Int) (d:Int) (m1_0:Int) (m1_1:Int) (m1_2:(List ZV)) (m1_3:(List Zm)) (m1_4:(List Zi)) (m1_5:(List Zs)):((List Int)⊕(List Int))→Ex×List V×Zp
  | (.inl r)=>(.exit 0,[],[(.arr 1 (List.map Zb r)),(.cells [(.d (Zb m1_0)),(.d (Zb m1_1)),(.d (D.list t0 (List.map Z3 m1_2))),(.d (D.list t1 (List.map ZC m1_3))),(.d (D.list t2 (List.map Zq m1_4))),(.d (D.list t3 (List.map Zv m1_5)))])])
  | (.inr r)=>(.ret,[],[(.arr 1 (List.map Zb r)),(.cells [(.d (Zb m1_0)),(.d (Zb m1_1)),(.d (D.list t0 (List.map Z3 m1_2))),(.d (D.list t1 (List.map ZC m1_3))),(.d (D.list t2 (List.map Zq m1_4))),(.d (D.list t3 (List.map Zv m1_5)))])])
theorem ZdK {t0:Bool}{t1:Bool}{t2:Bool}{t3:Bool}{c:Int}{d:Int}{m1_0:Int}{m1_1:Int}{m1_2:(List ZV)}{m1_3:(List Zm)}{m1_4:(List Zi)}{m1_5:(List Zs)}:∀(s0:Int×(List Int)) (r:((List Int)⊕(List Int))),lp (ZK c d (fun z0 z1=>Zt z0 z1 m1_4)) s0=some r→lpW ctx 2 [0,2,3,4,10] [] Zud [(.sl 0 1),(.d (Zb c)),(.d (Zb d)),(.fn 118 [(.ptr 1 0)]),(.d (Zb s0.1))] [(.arr 1 (List.map Zb s0.2)),(.cells [(.d (Zb m1_0)),(.d (Zb m1_1)),(.d (D.list t0 (List.map Z3 m1_2))),(.d (D.list t1 (List.map ZC m1_3))),(.d (D.list t2 (List.map Zq m1_4))),(.d (D.list t3 (List.map Zv m1_5)))])]=some ((ZbW t0 t1 t2 t3 c d m1_0 m1_1 m1_2 m1_3 m1_4 m1_5) r):=by
 refine ZaT (ZbW t0 t1 t2 t3 c d m1_0 m1_1 m1_2 m1_3 m1_4 m1_5) ?_
 intro s0 rcl ih
 show ZN _ _ (lpW _ _ _ _ _ _ _)
 unfold ZK
 rw[ZaV]
 conv=>arg 3;whnf
 refine Ze rfl ?_ ?_<;>conv=>arg 3;whnf
 ·exact Zd rfl
 ·refine Ze rfl ?_ ?_<;>conv=>arg 3;whnf
  ·refine Zl rfl rfl fun x1 hx1=>?_;conv=>arg 3;whnf
   refine Zg (ZA rfl hx1) ?_;conv=>arg 3;whnf
   refine Zl rfl rfl fun x2 hx2=>?_;conv=>arg 3;whnf
   refine Zg (ZA rfl hx2) ?_;conv=>arg 3;whnf
   refine Zo _ ZF rfl fun x3 hx3=>?_;conv=>arg 3;whnf
   refine Ze rfl ?_ ?_<;>conv=>arg 3;whnf
   ·refine Zl rfl rfl fun x4 hx4=>?_;conv=>arg 3;whnf
    refine Zg (ZA rfl hx4) ?_;conv=>arg 3;whnf
    refine Zl rfl rfl fun x5 hx5=>?_;conv=>arg 3;whnf
    refine Zg (ZA rfl hx5) ?_;conv=>arg 3;whnf
    refine Zo _ ZF rfl fun x6 hx6=>?_;conv=>arg 3;whnf
    refine Ze rfl ?_ ?_<;>conv=>arg 3;whnf
    ·refine Zg (ZbO rfl hx5) ?_;conv=>arg 3;whnf
     refine Zg (ZA rfl hx5) ?_;conv=>arg 3;whnf
     refine Zg (ZbO rfl hx4) ?_;conv=>arg 3;whnf
     refine Zg (ZA rfl hx4) ?_;conv=>arg 3;whnf
     refine Zg (ZbO rfl hx4) ?_;conv=>arg 3;whnf
     refine Zg (ZA rfl hx4) ?_;conv=>arg 3;whnf
     refine Zn (ZaL Zb s0.2 (w64 (d+s0.1)).toNat x5) ?_;conv=>arg 3;whnf
     refine Zl rfl rfl fun x7 hx7=>?_;conv=>arg 3;whnf
     refine Zg (ZA rfl hx7) ?_;conv=>arg 3;whnf
     refine Zn (ZaL Zb (List.set s0.2 (w64 (d+s0.1)).toNat x5) (w64 (d+(w64 ((w64 ((w64 (2*s0.1))+1))+1)))).toNat x4) ?_;conv=>arg 3;whnf
     exact Zf (ih _)
    ·exact Zd rfl
   ·refine Zl rfl rfl fun x8 hx8=>?_;conv=>arg 3;whnf
    refine Zg (ZA rfl hx8) ?_;conv=>arg 3;whnf
    refine Zg (ZbO rfl hx1) ?_;conv=>arg 3;whnf
    refine Zg (ZA rfl hx1) ?_;conv=>arg 3;whnf
    refine Zo _ ZF rfl fun x9 hx9=>?_;conv=>arg 3;whnf
    refine Ze rfl ?_ ?_<;>conv=>arg 3;whnf
    ·refine Zg (ZbO rfl hx1) ?_;conv=>arg 3;whnf
     refine Zg (ZA rfl hx1) ?_;conv=>arg 3;whnf
     refine Zg (ZbO rfl hx8) ?_;conv=>arg 3;whnf
     refine Zg (ZA rfl hx8) ?_;conv=>arg 3;whnf
     refine Zg (ZbO rfl hx8) ?_;conv=>arg 3;whnf
     refine Zg (ZA rfl hx8) ?_;conv=>arg 3;whnf
     refine Zn (ZaL Zb s0.2 (w64 (d+s0.1)).toNat x1) ?_;conv=>arg 3;whnf
     refine Zl rfl rfl fun x10 hx10=>?_;conv=>arg 3;whnf
     refine Zg (ZA rfl hx10) ?_;conv=>arg 3;whnf
     refine Zn (ZaL Zb (List.set s0.2 (w64 (d+s0.1)).toNat x1) (w64 (d+(w64 ((w64 (2*s0.1))+1)))).toNat x8) ?_;conv=>arg 3;whnf
     exact Zf (ih _)
    ·exact Zd rfl
  ·refine Zl rfl rfl fun x11 hx11=>?_;conv=>arg 3;whnf
   refine Zg (ZA rfl hx11) ?_;conv=>arg 3;whnf
   refine Zl rfl rfl fun x12 hx12=>?_;conv=>arg 3;whnf
   refine Zg (ZA rfl hx12) ?_;conv=>arg 3;whnf
   refine Zo _ ZF rfl fun x13 hx13=>?_;conv=>arg 3;whnf
   refine Ze rfl ?_ ?_<;>conv=>arg 3;whnf
   ·refine Zg (ZbO rfl hx12) ?_;conv=>arg 3;whnf
    refine Zg (ZA rfl hx12) ?_;conv=>arg 3;whnf
    refine Zg (ZbO rfl hx11) ?_;conv=>arg 3;whnf
    refine Zg (ZA rfl hx11) ?_;conv=>arg 3;whnf
    refine Zg (ZbO rfl hx11) ?_;conv=>arg 3;whnf
    refine Zg (ZA rfl hx11) ?_;conv=>arg 3;whnf
    refine Zn (ZaL Zb s0.2 (w64 (d+s0.1)).toNat x12) ?_;conv=>arg 3;whnf
    refine Zl rfl rfl fun x14 hx14=>?_;conv=>arg 3;whnf
    refine Zg (ZA rfl hx14) ?_;conv=>arg 3;whnf
    refine Zn (ZaL Zb (List.set s0.2 (w64 (d+s0.1)).toNat x12) (w64 (d+(w64 ((w64 (2*s0.1))+1)))).toNat x11) ?_;conv=>arg 3;whnf
    exact Zf (ih _)
   ·exact Zd rfl
theorem Zb4 {t0:Bool}{t1:Bool}{t2:Bool}{t3:Bool}{b:Int}{c:Int}{d:Int}{m0_0:(List Int)}{m1_0:Int}{m1_1:Int}{m1_2:(List ZV)}{m1_3:(List Zm)}{m1_4:(List Zi)}{m1_5:(List Zs)}:∀r,(ZaE b c d (fun z0 z1=>Zt z0 z1 m1_4) m0_0)=some r→evW ctx 136 [(.sl 0 1),(.d (Zb b)),(.d (Zb c)),(.d (Zb d)),(.fn 118 [(.ptr 1 0)])] [(.arr 1 (List.map Zb m0_0)),(.cells [(.d (Zb m1_0)),(.d (Zb m1_1)),(.d (D.list t0 (List.map Z3 m1_2))),(.d (D.list t1 (List.map ZC m1_3))),(.d (D.list t2 (List.map Zq m1_4))),(.d (D.list t3 (List.map Zv m1_5)))])]=some ((Zcj t0 t1 t2 t3 b c d m0_0 m1_0 m1_1 m1_2 m1_3 m1_4 m1_5) r):=by
 show ZN _ (fun r rhs=>rhs=some ((Zcj t0 t1 t2 t3 b c d m0_0 m1_0 m1_1 m1_2 m1_3 m1_4 m1_5) r)) _
 unfold ZaE
 rw[Zfd ctx 136 ZwC _ _ rfl rfl]
 conv=>arg 3;whnf
 refine Zc _ (ZdK _) fun r15 hr15=>?_
 clear hr15
 rcases r15 with r15 | r15
 ·conv=>arg 3;whnf
  exact Zd rfl
 ·conv=>arg 3;whnf
  exact Zd rfl
def Zci (t0:Bool) (t1:Bool) (t2:Bool) (t3:Bool) (b:Int) (c:Int) (m0_0:(List Int)) (m1_0:Int) (m1_1:Int) (m1_2:(List ZV)) (m1_3:(List Zm)) (m1_4:(List Zi)) (m1_5:(List Zs)):(List Int)→V×Zp
  | r=>((.d (D.tup [])),[(.arr 1 (List.map Zb r)),(.cells [(.d (Zb m1_0)),(.d (Zb m1_1)),(.d (D.list t0 (List.map Z3 m1_2))),(.d (D.list t1 (List.map ZC m1_3))),(.d (D.list t2 (List.map Zq m1_4))),(.d (D.list t3 (List.map Zv m1_5)))])])
def ZbR (t0:Bool) (t1:Bool) (t2:Bool) (t3:Bool) (b:Int) (c:Int) (m1_0:Int) (m1_1:Int) (m1_2:(List ZV)) (m1_3:(List Zm)) (m1_4:(List Zi)) (m1_5:(List Zs)):(List Int)→Ex×List V×Zp
  | r=>(.exit 0,[(.sl 0 1),(.fn 118 [(.ptr 1 0)]),(.d (Zb b)),(.d (Zb 0)),(.d (Zb (w64 (c-b))))],[(.arr 1 (List.map Zb r)),(.cells [(.d (Zb m1_0)),(.d (Zb m1_1)),(.d (D.list t0 (List.map Z3 m1_2))),(.d (D.list t1 (List.map ZC m1_3))),(.d (D.list t2 (List.map Zq m1_4))),(.d (D.list t3 (List.map Zv m1_5)))])])
theorem ZdR {t0:Bool}{t1:Bool}{t2:Bool}{t3:Bool}{b:Int}{c:Int}{m1_0:Int}{m1_1:Int}{m1_2:(List ZV)}{m1_3:(List Zm)}{m1_4:(List Zi)}{m1_5:(List Zs)}:∀(s0:Int×(List Int)) (r:(List Int)),lp (ZaH b c (fun z0 z1=>Zt z0 z1 m1_4)) s0=some r→lpW ctx 2 [0,3,8,9,10,11] [0,3,8,9,10] Zt8 [(.sl 0 1),(.fn 118 [(.ptr 1 0)]),(.d (Zb b)),(.d (Zb 0)),(.d (Zb (w64 (c-b)))),(.d (Zb s0.1))] [(.arr 1 (List.map Zb s0.2)),(.cells [(.d (Zb m1_0)),(.d (Zb m1_1)),(.d (D.list t0 (List.map Z3 m1_2))),(.d (D.list t1 (List.map ZC m1_3))),(.d (D.list t2 (List.map Zq m1_4))),(.d (D.list t3 (List.map Zv m1_5)))])]=some ((ZbR t0 t1 t2 t3 b c m1_0 m1_1 m1_2 m1_3 m1_4 m1_5) r):=by
 refine ZaT (ZbR t0 t1 t2 t3 b c m1_0 m1_1 m1_2 m1_3 m1_4 m1_5) ?_
 intro s0 rcl ih
 show ZN _ _ (lpW _ _ _ _ _ _ _)
 unfold ZaH
 rw[ZaV]
 conv=>arg 3;whnf
 refine Ze rfl ?_ ?_<;>conv=>arg 3;whnf
 ·refine Zc _ Zb4 fun x1 hx1=>?_;conv=>arg 3;whnf
  exact Zf (ih _)
 ·exact Zd rfl
def ZbS (t0:Bool) (t1:Bool) (t2:Bool) (t3:Bool) (b:Int) (m1_0:Int) (m1_1:Int) (m1_2:(List ZV)) (m1_3:(List Zm)) (m1_4:(List Zi)) (m1_5:(List Zs)):(List Int)→Ex×List V×Zp
  | r=>(.exit 2,[],[(.arr 1 (List.map Zb r)),(.cells [(.d (Zb m1_0)),(.d (Zb m1_1)),(.d (D.list t0 (List.map Z3 m1_2))),(.d (D.list t1 (List.map ZC m1_3))),(.d (D.list t2 (List.map Zq m1_4))),(.d (D.list t3 (List.map Zv m1_5)))])])
theorem ZdP {t0:Bool}{t1:Bool}{t2:Bool}{t3:Bool}{b:Int}{m1_0:Int}{m1_1:Int}{m1_2:(List ZV)}{m1_3:(List Zm)}{m1_4:(List Zi)}{m1_5:(List Zs)}:∀(s3:Int×(List Int)) (r:(List Int)),lp (ZaI b (fun z0 z1=>Zt z0 z1 m1_4)) s3=some r→lpW ctx 2 [0,3,8,9,12] [] ZtT [(.sl 0 1),(.fn 118 [(.ptr 1 0)]),(.d (Zb b)),(.d (Zb 0)),(.d (Zb s3.1))] [(.arr 1 (List.map Zb s3.2)),(.cells [(.d (Zb m1_0)),(.d (Zb m1_1)),(.d (D.list t0 (List.map Z3 m1_2))),(.d (D.list t1 (List.map ZC m1_3))),(.d (D.list t2 (List.map Zq m1_4))),(.d (D.list t3 (List.map Zv m1_5)))])]=some ((ZbS t0 t1 t2 t3 b m1_0 m1_1 m1_2 m1_3 m1_4 m1_5) r):=by
 refine ZaT (ZbS t0 t1 t2 t3 b m1_0 m1_1 m1_2 m1_3 m1_4 m1_5) ?_
 intro s3 rcl ih
 show ZN _ _ (lpW _ _ _ _ _ _ _)
 unfold ZaI
 rw[ZaV]
 conv=>arg 3;whnf
 refine Ze rfl ?_ ?_<;>conv=>arg 3;whnf
 ·refine Zl rfl rfl fun x4 hx4=>?_;conv=>arg 3;whnf
  refine Zg (ZA rfl hx4) ?_;conv=>arg 3;whnf
  refine Zl rfl rfl fun x5 hx5=>?_;conv=>arg 3;whnf
  refine Zg (ZA rfl hx5) ?_;conv=>arg 3;whnf
  refine Zg (ZbO rfl hx5) ?_;conv=>arg 3;whnf
  refine Zg (ZA rfl hx5) ?_;conv=>arg 3;whnf
  refine Zn (ZaL Zb s3.2 b.toNat x4) ?_;conv=>arg 3;whnf
  refine Zl rfl rfl fun x6 hx6=>?_;conv=>arg 3;whnf
  refine Zg (ZA rfl hx6) ?_;conv=>arg 3;whnf
  refine Zn (ZaL Zb (List.set s3.2 b.toNat x4) (w64 (b+s3.1)).toNat x5) ?_;conv=>arg 3;whnf
  refine Zc _ Zb4 fun x7 hx7=>?_;conv=>arg 3;whnf
  exact Zf (ih _)
 ·exact Zd rfl
theorem Zas {t0:Bool}{t1:Bool}{t2:Bool}{t3:Bool}{b:Int}{c:Int}{m0_0:(List Int)}{m1_0:Int}{m1_1:Int}{m1_2:(List ZV)}{m1_3:(List Zm)}{m1_4:(List Zi)}{m1_5:(List Zs)}:∀r,(Z8 b c (fun z0 z1=>Zt z0 z1 m1_4) m0_0)=some r→evW ctx 127 [(.sl 0 1),(.d (Zb b)),(.d (Zb c)),(.fn 118 [(.ptr 1 0)])] [(.arr 1 (List.map Zb m0_0)),(.cells [(.d (Zb m1_0)),(.d (Zb m1_1)),(.d (D.list t0 (List.map Z3 m1_2))),(.d (D.list t1 (List.map ZC m1_3))),(.d (D.list t2 (List.map Zq m1_4))),(.d (D.list t3 (List.map Zv m1_5)))])]=some ((Zci t0 t1 t2 t3 b c m0_0 m1_0 m1_1 m1_2 m1_3 m1_4 m1_5) r):=by
 show ZN _ (fun r rhs=>rhs=some ((Zci t0 t1 t2 t3 b c m0_0 m1_0 m1_1 m1_2 m1_3 m1_4 m1_5) r)) _
 unfold Z8
 rw[Zfd ctx 127 ZwJ _ _ rfl rfl]
 conv=>arg 3;whnf
 refine Zan rfl ?_;conv=>arg 3;whnf
 refine Zc _ (ZdR _) fun r2 hr2=>?_;conv=>arg 3;whnf
 refine Zc _ (ZdP _) fun r8 hr8=>?_;conv=>arg 3;whnf
 exact Zd rfl
def Zct (t0:Bool) (t1:Bool) (t2:Bool) (t3:Bool) (b:Int) (c:Int) (m0_0:(List Int)) (m1_0:Int) (m2_0:Int) (m2_1:Int) (m2_2:(List ZV)) (m2_3:(List Zm)) (m2_4:(List Zi)) (m2_5:(List Zs)):(Int×Int×Int)→V×Zp
  | r=>((.d (D.tup [(Zb r.1),(Zb r.2.1)])),[(.arr 1 (List.map Zb m0_0)),(.cells [(.d (Zb r.2.2))]),(.cells [(.d (Zb m2_0)),(.d (Zb m2_1)),(.d (D.list t0 (List.map Z3 m2_2))),(.d (D.list t1 (List.map ZC m2_3))),(.d (D.list t2 (List.map Zq m2_4))),(.d (D.list t3 (List.map Zv m2_5)))])])
theorem Zba {t0:Bool}{t1:Bool}{t2:Bool}{t3:Bool}{b:Int}{c:Int}{m0_0:(List Int)}{m1_0:Int}{m2_0:Int}{m2_1:Int}{m2_2:(List ZV)}{m2_3:(List Zm)}{m2_4:(List Zi)}{m2_5:(List Zs)}:∀r,(ZaR b c (fun z0 z1=>Zt z0 z1 m2_4) m0_0 m1_0)=some r→evW ctx 141 [(.sl 0 1),(.d (Zb b)),(.d (Zb c)),(.ptr 1 0),(.fn 118 [(.ptr 2 0)])] [(.arr 1 (List.map Zb m0_0)),(.cells [(.d (Zb m1_0))]),(.cells [(.d (Zb m2_0)),(.d (Zb m2_1)),(.d (D.list t0 (List.map Z3 m2_2))),(.d (D.list t1 (List.map ZC m2_3))),(.d (D.list t2 (List.map Zq m2_4))),(.d (D.list t3 (List.map Zv m2_5)))])]=some ((Zct t0 t1 t2 t3 b c m0_0 m1_0 m2_0 m2_1 m2_2 m2_3 m2_4 m2_5) r):=by
 show ZN _ (fun r rhs=>rhs=some ((Zct t0 t1 t2 t3 b c m0_0 m1_0 m2_0 m2_1 m2_2 m2_3 m2_4 m2_5) r)) _
 unfold ZaR
 rw[Zfd ctx 141 Zwy _ _ rfl rfl]
 conv=>arg 3;whnf
 refine Zl rfl rfl fun x0 hx0=>?_;conv=>arg 3;whnf
 refine Zg (ZA rfl hx0) ?_;conv=>arg 3;whnf
 refine Zl rfl rfl fun x1 hx1=>?_;conv=>arg 3;whnf
 refine Zg (ZA rfl hx1) ?_;conv=>arg 3;whnf
 refine Zo _ ZF rfl fun x2 hx2=>?_;conv=>arg 3;whnf
 refine Ze rfl ?_ ?_<;>conv=>arg 3;whnf
 ·exact Zd rfl
 ·exact Zd rfl
def Zcs (t0:Bool) (t1:Bool) (t2:Bool) (t3:Bool) (b:Int) (c:Int) (d:Int) (m0_0:(List Int)) (m1_0:Int) (m2_0:Int) (m2_1:Int) (m2_2:(List ZV)) (m2_3:(List Zm)) (m2_4:(List Zi)) (m2_5:(List Zs)):(Int×Int)→V×Zp
  | r=>((.d (Zb r.1)),[(.arr 1 (List.map Zb m0_0)),(.cells [(.d (Zb r.2))]),(.cells [(.d (Zb m2_0)),(.d (Zb m2_1)),(.d (D.list t0 (List.map Z3 m2_2))),(.d (D.list t1 (List.map ZC m2_3))),(.d (D.list t2 (List.map Zq m2_4))),(.d (D.list t3 (List.map Zv m2_5)))])])
theorem Zbb {t0:Bool}{t1:Bool}{t2:Bool}{t3:Bool}{b:Int}{c:Int}{d:Int}{m0_0:(List Int)}{m1_0:Int}{m2_0:Int}{m2_1:Int}{m2_2:(List ZV)}{m2_3:(List Zm)}{m2_4:(List Zi)}{m2_5:(List Zs)}:∀r,(ZaQ b c d (fun z0 z1=>Zt z0 z1 m2_4) m0_0 m1_0)=some r→evW ctx 140 [(.sl 0 1),(.d (Zb b)),(.d (Zb c)),(.d (Zb d)),(.ptr 1 0),(.fn 118 [(.ptr 2 0)])] [(.arr 1 (List.map Zb m0_0)),(.cells [(.d (Zb m1_0))]),(.cells [(.d (Zb m2_0)),(.d (Zb m2_1)),(.d (D.list t0 (List.map Z3 m2_2))),(.d (D.list t1 (List.map ZC m2_3))),(.d (D.list t2 (List.map Zq m2_4))),(.d (D.list t3 (List.map Zv m2_5)))])]=some ((Zcs t0 t1 t2 t3 b c d m0_0 m1_0 m2_0 m2_1 m2_2 m2_3 m2_4 m2_5) r):=by
 show ZN _ (fun r rhs=>rhs=some ((Zcs t0 t1 t2 t3 b c d m0_0 m1_0 m2_0 m2_1 m2_2 m2_3 m2_4 m2_5) r)) _
 unfold ZaQ
 rw[Zfd ctx 140 ZwM _ _ rfl rfl]
 conv=>arg 3;whnf
 refine Zc _ Zba fun x0 hx0=>?_;conv=>arg 3;whnf
 refine Zc _ Zba fun x1 hx1=>?_;conv=>arg 3;whnf
 refine Zc _ Zba fun x2 hx2=>?_;conv=>arg 3;whnf
 exact Zd rfl
def Zbz (t0:Bool) (t1:Bool) (t2:Bool) (t3:Bool) (b:Int) (m0_0:(List Int)) (m1_0:Int) (m2_0:Int) (m2_1:Int) (m2_2:(List ZV)) (m2_3:(List Zm)) (m2_4:(List Zi)) (m2_5:(List Zs)):(Int×Int)→V×Zp
  | r=>((.d (Zb r.1)),[(.arr 1 (List.map Zb m0_0)),(.cells [(.d (Zb r.2))]),(.cells [(.d (Zb m2_0)),(.d (Zb m2_1)),(.d (D.list t0 (List.map Z3 m2_2))),(.d (D.list t1 (List.map ZC m2_3))),(.d (D.list t2 (List.map Zq m2_4))),(.d (D.list t3 (List.map Zv m2_5)))])])
theorem ZaF {t0:Bool}{t1:Bool}{t2:Bool}{t3:Bool}{b:Int}{m0_0:(List Int)}{m1_0:Int}{m2_0:Int}{m2_1:Int}{m2_2:(List ZV)}{m2_3:(List Zm)}{m2_4:(List Zi)}{m2_5:(List Zs)}:∀r,(Z9 b (fun z0 z1=>Zt z0 z1 m2_4) m0_0 m1_0)=some r→evW ctx 139 [(.sl 0 1),(.d (Zb b)),(.ptr 1 0),(.fn 118 [(.ptr 2 0)])] [(.arr 1 (List.map Zb m0_0)),(.cells [(.d (Zb m1_0))]),(.cells [(.d (Zb m2_0)),(.d (Zb m2_1)),(.d (D.list t0 (List.map Z3 m2_2))),(.d (D.list t1 (List.map ZC m2_3))),(.d (D.list t2 (List.map Zq m2_4))),(.d (D.list t3 (List.map Zv m2_5)))])]=some ((Zbz t0 t1 t2 t3 b m0_0 m1_0 m2_0 m2_1 m2_2 m2_3 m2_4 m2_5) r):=by
 show ZN _ (fun r rhs=>rhs=some ((Zbz t0 t1 t2 t3 b m0_0 m1_0 m2_0 m2_1 m2_2 m2_3 m2_4 m2_5) r)) _
 unfold Z9
 rw[Zfd ctx 139 Zwj _ _ rfl rfl]
 conv=>arg 3;whnf
 refine Zc _ Zbb fun x0 hx0=>?_;conv=>arg 3;whnf
 exact Zd rfl
def ZbV (t0:Bool) (t1:Bool) (t2:Bool) (t3:Bool) (b:Int) (c:Int) (m0_0:(List Int)) (m1_0:Int) (m1_1:Int) (m1_2:(List ZV)) (m1_3:(List Zm)) (m1_4:(List Zi)) (m1_5:(List Zs)):(Int×Int)→V×Zp
  | r=>((.d (D.tup [(Zb r.1),(Zb r.2)])),[(.arr 1 (List.map Zb m0_0)),(.cells [(.d (Zb m1_0)),(.d (Zb m1_1)),(.d (D.list t0 (List.map Z3 m1_2))),(.d (D.list t1 (List.map ZC m1_3))),(.d (D.list t2 (List.map Zq m1_4))),(.d (D.list t3 (List.map Zv m1_5)))])])
theorem Zaj {t0:Bool}{t1:Bool}{t2:Bool}{t3:Bool}{b:Int}{c:Int}{m0_0:(List Int)}{m1_0:Int}{m1_1:Int}{m1_2:(List ZV)}{m1_3:(List Zm)}{m1_4:(List Zi)}{m1_5:(List Zs)}:∀r,(ZO b c (fun z0 z1=>Zt z0 z1 m1_4) m0_0)=some r→evW ctx 129 [(.sl 0 1),(.d (Zb b)),(.d (Zb c)),(.fn 118 [(.ptr 1 0)])] [(.arr 1 (List.map Zb m0_0)),(.cells [(.d (Zb m1_0)),(.d (Zb m1_1)),(.d (D.list t0 (List.map Z3 m1_2))),(.d (D.list t1 (List.map ZC m1_3))),(.d (D.list t2 (List.map Zq m1_4))),(.d (D.list t3 (List.map Zv m1_5)))])]=some ((ZbV t0 t1 t2 t3 b c m0_0 m1_0 m1_1 m1_2 m1_3 m1_4 m1_5) r):=by
 show ZN _ (fun r rhs=>rhs=some ((ZbV t0 t1 t2 t3 b c m0_0 m1_0 m1_1 m1_2 m1_3 m1_4 m1_5) r)) _
 unfold ZO
 rw[Zfd ctx 129 ZwZ _ _ rfl rfl]
 conv=>arg 3;whnf
 refine Zan rfl ?_;conv=>arg 3;whnf
 refine Zan rfl ?_;conv=>arg 3;whnf
 refine Zan rfl ?_;conv=>arg 3;whnf
 refine Ze rfl ?_ ?_<;>conv=>arg 3;whnf
 ·refine Ze rfl ?_ ?_<;>conv=>arg 3;whnf
  ·refine Zc _ ZaF fun x0 hx0=>?_;conv=>arg 3;whnf
   refine Zc _ ZaF fun x1 hx1=>?_;conv=>arg 3;whnf
   refine Zc _ ZaF fun x2 hx2=>?_;conv=>arg 3;whnf
   refine Zc _ Zbb fun x3 hx3=>?_;conv=>arg 3;whnf
   refine Ze rfl ?_ ?_<;>conv=>arg 3;whnf
   ·exact Zd rfl
   ·refine Ze rfl ?_ ?_<;>conv=>arg 3;whnf
    ·exact Zd rfl
    ·exact Zd rfl
  ·refine Zc _ Zbb fun x4 hx4=>?_;conv=>arg 3;whnf
   refine Ze rfl ?_ ?_<;>conv=>arg 3;whnf
   ·exact Zd rfl
   ·refine Ze rfl ?_ ?_<;>conv=>arg 3;whnf
    ·exact Zd rfl
    ·exact Zd rfl
 ·refine Zbe rfl ?_;conv=>arg 3;whnf
  exact Zd rfl
def ZbG (t0:Bool) (t1:Bool) (t2:Bool) (t3:Bool) (b:Int) (c:Int) (m0_0:(List Int)) (m1_0:Int) (m1_1:Int) (m1_2:(List ZV)) (m1_3:(List Zm)) (m1_4:(List Zi)) (m1_5:(List Zs)):(List Int)→V×Zp
  | r=>((.d (D.tup [])),[(.arr 1 (List.map Zb r)),(.cells [(.d (Zb m1_0)),(.d (Zb m1_1)),(.d (D.list t0 (List.map Z3 m1_2))),(.d (D.list t1 (List.map ZC m1_3))),(.d (D.list t2 (List.map Zq m1_4))),(.d (D.list t3 (List.map Zv m1_5)))])])
def Zbv (t0:Bool) (t1:Bool) (t2:Bool) (t3:Bool) (m1_0:Int) (m1_1:Int) (m1_2:(List ZV)) (m1_3:(List Zm)) (m1_4:(List Zi)) (m1_5:(List Zs)):(List Int)→Ex×List V×Zp
  | r=>(.exit 0,[],[(.arr 1 (List.map Zb r)),(.cells [(.d (Zb m1_0)),(.d (Zb m1_1)),(.d (D.list t0 (List.map Z3 m1_2))),(.d (D.list t1 (List.map ZC m1_3))),(.d (D.list t2 (List.map Zq m1_4))),(.d (D.list t3 (List.map Zv m1_5)))])])
theorem Zdb {t0:Bool}{t1:Bool}{t2:Bool}{t3:Bool}{m1_0:Int}{m1_1:Int}{m1_2:(List ZV)}{m1_3:(List Zm)}{m1_4:(List Zi)}{m1_5:(List Zs)}:∀(s0:Int×Int×(List Int)) (r:(List Int)),lp (Z6) s0=some r→lpW ctx 2 [0,8,9] [] ZtE [(.sl 0 1),(.d (Zb s0.1)),(.d (Zb s0.2.1))] [(.arr 1 (List.map Zb s0.2.2)),(.cells [(.d (Zb m1_0)),(.d (Zb m1_1)),(.d (D.list t0 (List.map Z3 m1_2))),(.d (D.list t1 (List.map ZC m1_3))),(.d (D.list t2 (List.map Zq m1_4))),(.d (D.list t3 (List.map Zv m1_5)))])]=some ((Zbv t0 t1 t2 t3 m1_0 m1_1 m1_2 m1_3 m1_4 m1_5) r):=by
 refine ZaT (Zbv t0 t1 t2 t3 m1_0 m1_1 m1_2 m1_3 m1_4 m1_5) ?_
 intro s0 rcl ih
 show ZN _ _ (lpW _ _ _ _ _ _ _)
 unfold Z6
 rw[ZaV]
 conv=>arg 3;whnf
 refine Ze rfl ?_ ?_<;>conv=>arg 3;whnf
 ·refine Zl rfl rfl fun x1 hx1=>?_;conv=>arg 3;whnf
  refine Zg (ZA rfl hx1) ?_;conv=>arg 3;whnf
  refine Zl rfl rfl fun x2 hx2=>?_;conv=>arg 3;whnf
  refine Zg (ZA rfl hx2) ?_;conv=>arg 3;whnf
  refine Zg (ZbO rfl hx2) ?_;conv=>arg 3;whnf
  refine Zg (ZA rfl hx2) ?_;conv=>arg 3;whnf
  refine Zn (ZaL Zb s0.2.2 s0.1.toNat x1) ?_;conv=>arg 3;whnf
  refine Zl rfl rfl fun x3 hx3=>?_;conv=>arg 3;whnf
  refine Zg (ZA rfl hx3) ?_;conv=>arg 3;whnf
  refine Zn (ZaL Zb (List.set s0.2.2 s0.1.toNat x1) s0.2.1.toNat x2) ?_;conv=>arg 3;whnf
  exact Zf (ih _)
 ·exact Zd rfl
theorem Zai {t0:Bool}{t1:Bool}{t2:Bool}{t3:Bool}{b:Int}{c:Int}{m0_0:(List Int)}{m1_0:Int}{m1_1:Int}{m1_2:(List ZV)}{m1_3:(List Zm)}{m1_4:(List Zi)}{m1_5:(List Zs)}:∀r,(ZM b c (fun z0 z1=>Zt z0 z1 m1_4) m0_0)=some r→evW ctx 130 [(.sl 0 1),(.d (Zb b)),(.d (Zb c)),(.fn 118 [(.ptr 1 0)])] [(.arr 1 (List.map Zb m0_0)),(.cells [(.d (Zb m1_0)),(.d (Zb m1_1)),(.d (D.list t0 (List.map Z3 m1_2))),(.d (D.list t1 (List.map ZC m1_3))),(.d (D.list t2 (List.map Zq m1_4))),(.d (D.list t3 (List.map Zv m1_5)))])]=some ((ZbG t0 t1 t2 t3 b c m0_0 m1_0 m1_1 m1_2 m1_3 m1_4 m1_5) r):=by
 show ZN _ (fun r rhs=>rhs=some ((ZbG t0 t1 t2 t3 b c m0_0 m1_0 m1_1 m1_2 m1_3 m1_4 m1_5) r)) _
 unfold ZM
 rw[Zfd ctx 130 Zwz _ _ rfl rfl]
 conv=>arg 3;whnf
 refine Zc _ (Zdb _) fun r4 hr4=>?_;conv=>arg 3;whnf
 exact Zd rfl
def Zbd (t0:Bool) (t1:Bool) (t2:Bool) (t3:Bool) (b:Int) (c:Int) (m0_0:(List Int)) (m1_0:Int) (m1_1:Int) (m1_2:(List ZV)) (m1_3:(List Zm)) (m1_4:(List Zi)) (m1_5:(List Zs)):((List Int)⊕(List Int))→V×Zp
  | (.inl r)=>((.d (D.bool true)),[(.arr 1 (List.map Zb r)),(.cells [(.d (Zb m1_0)),(.d (Zb m1_1)),(.d (D.list t0 (List.map Z3 m1_2))),(.d (D.list t1 (List.map ZC m1_3))),(.d (D.list t2 (List.map Zq m1_4))),(.d (D.list t3 (List.map Zv m1_5)))])])
  | (.inr r)=>((.d (D.bool false)),[(.arr 1 (List.map Zb r)),(.cells [(.d (Zb m1_0)),(.d (Zb m1_1)),(.d (D.list t0 (List.map Z3 m1_2))),(.d (D.list t1 (List.map ZC m1_3))),(.d (D.list t2 (List.map Zq m1_4))),(.d (D.list t3 (List.map Zv m1_5)))])])
def Za8 (t0:Bool) (t1:Bool) (t2:Bool) (t3:Bool) (b:Int) (c:Int) (m1_0:Int) (m1_1:Int) (m1_2:(List ZV)) (m1_3:(List Zm)) (m1_4:(List Zi)) (m1_5:(List Zs)) (s0:Int×Int×(List Int)):Int→Ex×List V×Zp
  | r=>(.exit 2,[(.sl 0 1),(.d (Zb b)),(.d (Zb c)),(.fn 118 [(.ptr 1 0)]),(.d (Zb r)),(.d (Zb s0.2.1))],[(.arr 1 (List.map Zb s0.2.2)),(.cells [(.d (Zb m1_0)),(.d (Zb m1_1)),(.d (D.list t0 (List.map Z3 m1_2))),(.d (D.list t1 (List.map ZC m1_3))),(.d (D.list t2 (List.map Zq m1_4))),(.d (D.list t3 (List.map Zv m1_5)))])])
theorem Zcy {t0:Bool}{t1:Bool}{t2:Bool}{t3:Bool}{b:Int}{c:Int}{m1_0:Int}{m1_1:Int}{m1_2:(List ZV)}{m1_3:(List Zm)}{m1_4:(List Zi)}{m1_5:(List Zs)}{s0:Int×Int×(List Int)}:∀(s1:Int) (r:Int),lp (ZL c (fun z0 z1=>Zt z0 z1 m1_4) s0) s1=some r→lpW ctx 2 [0,1,2,3,9,10] [0,1,2,3,9,10] ZtS [(.sl 0 1),(.d (Zb b)),(.d (Zb c)),(.fn 118 [(.ptr 1 0)]),(.d (Zb s1)),(.d (Zb s0.2.1))] [(.arr 1 (List.map Zb s0.2.2)),(.cells [(.d (Zb m1_0)),(.d (Zb m1_1)),(.d (D.list t0 (List.map Z3 m1_2))),(.d (D.list t1 (List.map ZC m1_3))),(.d (D.list t2 (List.map Zq m1_4))),(.d (D.list t3 (List.map Zv m1_5)))])]=some ((Za8 t0 t1 t2 t3 b c m1_0 m1_1 m1_2 m1_3 m1_4 m1_5 s0) r):=by
 refine ZaT (Za8 t0 t1 t2 t3 b c m1_0 m1_1 m1_2 m1_3 m1_4 m1_5 s0) ?_
 intro s1 rcl ih
 show ZN _ _ (lpW _ _ _ _ _ _ _)
 unfold ZL
 rw[ZaV]
 conv=>arg 3;whnf
 refine Ze rfl ?_ ?_<;>conv=>arg 3;whnf
 ·refine Zl rfl rfl fun x2 hx2=>?_;conv=>arg 3;whnf
  refine Zg (ZA rfl hx2) ?_;conv=>arg 3;whnf
  refine Zl rfl rfl fun x3 hx3=>?_;conv=>arg 3;whnf
  refine Zg (ZA rfl hx3) ?_;conv=>arg 3;whnf
  refine Zo _ ZF rfl fun x4 hx4=>?_;conv=>arg 3;whnf
  refine Ze rfl ?_ ?_<;>conv=>arg 3;whnf
  ·exact Zd rfl
  ·exact Zf (ih _)
 ·exact Zd rfl
def Za5 (t0:Bool) (t1:Bool) (t2:Bool) (t3:Bool) (b:Int) (c:Int) (m1_0:Int) (m1_1:Int) (m1_2:(List ZV)) (m1_3:(List Zm)) (m1_4:(List Zi)) (m1_5:(List Zs)) (s0:Int×Int×(List Int)) (r5:Int):(List Int)→Ex×List V×Zp
  | r=>(.exit 4,[(.sl 0 1),(.d (Zb b)),(.d (Zb c)),(.fn 118 [(.ptr 1 0)]),(.d (Zb r5)),(.d (Zb s0.2.1))],[(.arr 1 (List.map Zb r)),(.cells [(.d (Zb m1_0)),(.d (Zb m1_1)),(.d (D.list t0 (List.map Z3 m1_2))),(.d (D.list t1 (List.map ZC m1_3))),(.d (D.list t2 (List.map Zq m1_4))),(.d (D.list t3 (List.map Zv m1_5)))])])
theorem Zcx {t0:Bool}{t1:Bool}{t2:Bool}{t3:Bool}{b:Int}{c:Int}{m1_0:Int}{m1_1:Int}{m1_2:(List ZV)}{m1_3:(List Zm)}{m1_4:(List Zi)}{m1_5:(List Zs)}{s0:Int×Int×(List Int)}{r5:Int}:∀(s9:Int×(List Int)) (r:(List Int)),lp (ZT (fun z0 z1=>Zt z0 z1 m1_4)) s9=some r→lpW ctx 2 [0,1,2,3,9,10,11] [0,1,2,3,9,10] Zuo [(.sl 0 1),(.d (Zb b)),(.d (Zb c)),(.fn 118 [(.ptr 1 0)]),(.d (Zb r5)),(.d (Zb s0.2.1)),(.d (Zb s9.1))] [(.arr 1 (List.map Zb s9.2)),(.cells [(.d (Zb m1_0)),(.d (Zb m1_1)),(.d (D.list t0 (List.map Z3 m1_2))),(.d (D.list t1 (List.map ZC m1_3))),(.d (D.list t2 (List.map Zq m1_4))),(.d (D.list t3 (List.map Zv m1_5)))])]=some ((Za5 t0 t1 t2 t3 b c m1_0 m1_1 m1_2 m1_3 m1_4 m1_5 s0 r5) r):=by
 refine ZaT (Za5 t0 t1 t2 t3 b c m1_0 m1_1 m1_2 m1_3 m1_4 m1_5 s0 r5) ?_
 intro s9 rcl ih
 show ZN _ _ (lpW _ _ _ _ _ _ _)
 unfold ZT
 rw[ZaV]
 conv=>arg 3;whnf
 refine Ze rfl ?_ ?_<;>conv=>arg 3;whnf
 ·refine Zl rfl rfl fun x10 hx10=>?_;conv=>arg 3;whnf
  refine Zg (ZA rfl hx10) ?_;conv=>arg 3;whnf
  refine Zl rfl rfl fun x11 hx11=>?_;conv=>arg 3;whnf
  refine Zg (ZA rfl hx11) ?_;conv=>arg 3;whnf
  refine Zo _ ZF rfl fun x12 hx12=>?_;conv=>arg 3;whnf
  refine Ze rfl ?_ ?_<;>conv=>arg 3;whnf
  ·refine Zg (ZbO rfl hx11) ?_;conv=>arg 3;whnf
   refine Zg (ZA rfl hx11) ?_;conv=>arg 3;whnf
   refine Zg (ZbO rfl hx10) ?_;conv=>arg 3;whnf
   refine Zg (ZA rfl hx10) ?_;conv=>arg 3;whnf
   refine Zg (ZbO rfl hx10) ?_;conv=>arg 3;whnf
   refine Zg (ZA rfl hx10) ?_;conv=>arg 3;whnf
   refine Zn (ZaL Zb s9.2 s9.1.toNat x11) ?_;conv=>arg 3;whnf
   refine Zl rfl rfl fun x13 hx13=>?_;conv=>arg 3;whnf
   refine Zg (ZA rfl hx13) ?_;conv=>arg 3;whnf
   refine Zn (ZaL Zb (List.set s9.2 s9.1.toNat x11) (w64 (s9.1-1)).toNat x10) ?_;conv=>arg 3;whnf
   exact Zf (ih _)
  ·exact Zd rfl
 ·exact Zd rfl
def Za6 (t0:Bool) (t1:Bool) (t2:Bool) (t3:Bool) (b:Int) (c:Int) (m1_0:Int) (m1_1:Int) (m1_2:(List ZV)) (m1_3:(List Zm)) (m1_4:(List Zi)) (m1_5:(List Zs)) (s0:Int×Int×(List Int)) (r5:Int):(List Int)→Ex×List V×Zp
  | r=>(.exit 6,[(.sl 0 1),(.d (Zb b)),(.d (Zb c)),(.fn 118 [(.ptr 1 0)]),(.d (Zb r5)),(.d (Zb s0.2.1))],[(.arr 1 (List.map Zb r)),(.cells [(.d (Zb m1_0)),(.d (Zb m1_1)),(.d (D.list t0 (List.map Z3 m1_2))),(.d (D.list t1 (List.map ZC m1_3))),(.d (D.list t2 (List.map Zq m1_4))),(.d (D.list t3 (List.map Zv m1_5)))])])
theorem Za3 {t0:Bool}{t1:Bool}{t2:Bool}{t3:Bool}{b:Int}{c:Int}{m1_0:Int}{m1_1:Int}{m1_2:(List ZV)}{m1_3:(List Zm)}{m1_4:(List Zi)}{m1_5:(List Zs)}{s0:Int×Int×(List Int)}{r5:Int}:∀(s15:Int×(List Int)) (r:(List Int)),lp (ZG c (fun z0 z1=>Zt z0 z1 m1_4)) s15=some r→lpW ctx 2 [0,1,2,3,9,10,12] [0,1,2,3,9,10] ZtA [(.sl 0 1),(.d (Zb b)),(.d (Zb c)),(.fn 118 [(.ptr 1 0)]),(.d (Zb r5)),(.d (Zb s0.2.1)),(.d (Zb s15.1))] [(.arr 1 (List.map Zb s15.2)),(.cells [(.d (Zb m1_0)),(.d (Zb m1_1)),(.d (D.list t0 (List.map Z3 m1_2))),(.d (D.list t1 (List.map ZC m1_3))),(.d (D.list t2 (List.map Zq m1_4))),(.d (D.list t3 (List.map Zv m1_5)))])]=some ((Za6 t0 t1 t2 t3 b c m1_0 m1_1 m1_2 m1_3 m1_4 m1_5 s0 r5) r):=by
 refine ZaT (Za6 t0 t1 t2 t3 b c m1_0 m1_1 m1_2 m1_3 m1_4 m1_5 s0 r5) ?_
 intro s15 rcl ih
 show ZN _ _ (lpW _ _ _ _ _ _ _)
 unfold ZG
 rw[ZaV]
 conv=>arg 3;whnf
 refine Ze rfl ?_ ?_<;>conv=>arg 3;whnf
 ·refine Zl rfl rfl fun x16 hx16=>?_;conv=>arg 3;whnf
  refine Zg (ZA rfl hx16) ?_;conv=>arg 3;whnf
  refine Zl rfl rfl fun x17 hx17=>?_;conv=>arg 3;whnf
  refine Zg (ZA rfl hx17) ?_;conv=>arg 3;whnf
  refine Zo _ ZF rfl fun x18 hx18=>?_;conv=>arg 3;whnf
  refine Ze rfl ?_ ?_<;>conv=>arg 3;whnf
  ·refine Zg (ZbO rfl hx17) ?_;conv=>arg 3;whnf
   refine Zg (ZA rfl hx17) ?_;conv=>arg 3;whnf
   refine Zg (ZbO rfl hx16) ?_;conv=>arg 3;whnf
   refine Zg (ZA rfl hx16) ?_;conv=>arg 3;whnf
   refine Zg (ZbO rfl hx16) ?_;conv=>arg 3;whnf
   refine Zg (ZA rfl hx16) ?_;conv=>arg 3;whnf
   refine Zn (ZaL Zb s15.2 s15.1.toNat x17) ?_;conv=>arg 3;whnf
   refine Zl rfl rfl fun x19 hx19=>?_;conv=>arg 3;whnf
   refine Zg (ZA rfl hx19) ?_;conv=>arg 3;whnf
   refine Zn (ZaL Zb (List.set s15.2 s15.1.toNat x17) (w64 (s15.1-1)).toNat x16) ?_;conv=>arg 3;whnf
   exact Zf (ih _)
  ·exact Zd rfl
 ·exact Zd rfl
def Za7 (t0:Bool) (t1:Bool) (t2:Bool) (t3:Bool) (b:Int) (c:Int) (m1_0:Int) (m1_1:Int) (m1_2:(List ZV)) (m1_3:(List Zm)) (m1_4:(List Zi)) (m1_5:(List Zs)):((List Int)⊕((List Int)⊕(List Int)))→Ex×List V×Zp
  | (.inl r)=>(.ret,[(.d (D.bool true))],[(.arr 1 (List.map Zb r)),(.cells [(.d (Zb m1_0)),(.d (Zb m1_1)),(.d (D.list t0 (List.map Z3 m1_2))),(.d (D.list t1 (List.map ZC m1_3))),(.d (D.list t2 (List.map Zq m1_4))),(.d (D.list t3 (List.map Zv m1_5)))])])
  | (.inr (.inl r))=>(.ret,[(.d (D.bool false))],[(.arr 1 (List.map Zb r)),(.cells [(.d (Zb m1_0)),(.d (Zb m1_1)),(.d (D.list t0 (List.map Z3 m1_2))),(.d (D.list t1 (List.map ZC m1_3))),(.d (D.list t2 (List.map Zq m1_4))),(.d (D.list t3 (List.map Zv m1_5)))])])
  | (.inr (.inr r))=>(.exit 0,[.bad],[(.arr 1 (List.map Zb r)),(.cells [(.d (Zb m1_0)),(.d (Zb m1_1)),(.d (D.list t0 (List.map Z3 m1_2))),(.d (D.list t1 (List.map ZC m1_3))),(.d (D.list t2 (List.map Zq m1_4))),(.d (D.list t3 (List.map Zv m1_5)))])])
theorem ZcB {t0:Bool}{t1:Bool}{t2:Bool}{t3:Bool}{b:Int}{c:Int}{m1_0:Int}{m1_1:Int}{m1_2:(List ZV)}{m1_3:(List Zm)}{m1_4:(List Zi)}{m1_5:(List Zs)}:∀(s0:Int×Int×(List Int)) (r:((List Int)⊕((List Int)⊕(List Int)))),lp (ZS b c (fun z0 z1=>Zt z0 z1 m1_4)) s0=some r→lpW ctx 2 [0,1,2,3,9,10] [8] Zt3 [(.sl 0 1),(.d (Zb b)),(.d (Zb c)),(.fn 118 [(.ptr 1 0)]),(.d (Zb s0.1)),(.d (Zb s0.2.1))] [(.arr 1 (List.map Zb s0.2.2)),(.cells [(.d (Zb m1_0)),(.d (Zb m1_1)),(.d (D.list t0 (List.map Z3 m1_2))),(.d (D.list t1 (List.map ZC m1_3))),(.d (D.list t2 (List.map Zq m1_4))),(.d (D.list t3 (List.map Zv m1_5)))])]=some ((Za7 t0 t1 t2 t3 b c m1_0 m1_1 m1_2 m1_3 m1_4 m1_5) r):=by
 refine ZaT (Za7 t0 t1 t2 t3 b c m1_0 m1_1 m1_2 m1_3 m1_4 m1_5) ?_
 intro s0 rcl ih
 show ZN _ _ (lpW _ _ _ _ _ _ _)
 unfold ZS
 rw[ZaV]
 conv=>arg 3;whnf
 refine Ze rfl ?_ ?_<;>conv=>arg 3;whnf
 ·refine Zc _ (Zcy _) fun r5 hr5=>?_;conv=>arg 3;whnf
  refine Ze rfl ?_ ?_<;>conv=>arg 3;whnf
  ·exact Zd rfl
  ·refine Ze rfl ?_ ?_<;>conv=>arg 3;whnf
   ·exact Zd rfl
   ·refine Zl rfl rfl fun x6 hx6=>?_;conv=>arg 3;whnf
    refine Zg (ZA rfl hx6) ?_;conv=>arg 3;whnf
    refine Zl rfl rfl fun x7 hx7=>?_;conv=>arg 3;whnf
    refine Zg (ZA rfl hx7) ?_;conv=>arg 3;whnf
    refine Zg (ZbO rfl hx7) ?_;conv=>arg 3;whnf
    refine Zg (ZA rfl hx7) ?_;conv=>arg 3;whnf
    refine Zn (ZaL Zb s0.2.2 r5.toNat x6) ?_;conv=>arg 3;whnf
    refine Zl rfl rfl fun x8 hx8=>?_;conv=>arg 3;whnf
    refine Zg (ZA rfl hx8) ?_;conv=>arg 3;whnf
    refine Zn (ZaL Zb (List.set s0.2.2 r5.toNat x6) (w64 (r5-1)).toNat x7) ?_;conv=>arg 3;whnf
    refine Ze rfl ?_ ?_<;>conv=>arg 3;whnf
    ·refine Zc _ (Zcx _) fun r14 hr14=>?_;conv=>arg 3;whnf
     refine Ze rfl ?_ ?_<;>conv=>arg 3;whnf
     ·refine Zc _ (Za3 _) fun r20 hr20=>?_;conv=>arg 3;whnf
      exact Zf (ih _)
     ·exact Zf (ih _)
    ·refine Ze rfl ?_ ?_<;>conv=>arg 3;whnf
     ·refine Zc _ (Za3 _) fun r26 hr26=>?_;conv=>arg 3;whnf
      exact Zf (ih _)
     ·exact Zf (ih _)
 ·exact Zd rfl
theorem Zbc {t0:Bool}{t1:Bool}{t2:Bool}{t3:Bool}{b:Int}{c:Int}{m0_0:(List Int)}{m1_0:Int}{m1_1:Int}{m1_2:(List ZV)}{m1_3:(List Zm)}{m1_4:(List Zi)}{m1_5:(List Zs)}:∀r,(ZQ b c (fun z0 z1=>Zt z0 z1 m1_4) m0_0)=some r→evW ctx 131 [(.sl 0 1),(.d (Zb b)),(.d (Zb c)),(.fn 118 [(.ptr 1 0)])] [(.arr 1 (List.map Zb m0_0)),(.cells [(.d (Zb m1_0)),(.d (Zb m1_1)),(.d (D.list t0 (List.map Z3 m1_2))),(.d (D.list t1 (List.map ZC m1_3))),(.d (D.list t2 (List.map Zq m1_4))),(.d (D.list t3 (List.map Zv m1_5)))])]=some ((Zbd t0 t1 t2 t3 b c m0_0 m1_0 m1_1 m1_2 m1_3 m1_4 m1_5) r):=by
 show ZN _ (fun r rhs=>rhs=some ((Zbd t0 t1 t2 t3 b c m0_0 m1_0 m1_1 m1_2 m1_3 m1_4 m1_5) r)) _
 unfold ZQ
 rw[Zfd ctx 131 Zxi _ _ rfl rfl]
 conv=>arg 3;whnf
 refine Zc _ (ZcB _) fun r27 hr27=>?_
 clear hr27
 rcases r27 with r27 | (r27 | r27)
 ·conv=>arg 3;whnf
  exact Zd rfl
 ·conv=>arg 3;whnf
  exact Zd rfl
 ·conv=>arg 3;whnf
  exact Zd rfl
def Zb7 (t0:Bool) (t1:Bool) (t2:Bool) (t3:Bool) (b:Int) (c:Int) (d:Int) (m0_0:(List Int)) (m1_0:Int) (m1_1:Int) (m1_2:(List ZV)) (m1_3:(List Zm)) (m1_4:(List Zi)) (m1_5:(List Zs)):((Int×(List Int))⊕(Int×(List Int)))→V×Zp
  | (.inl r)=>((.d (D.tup [(Zb r.1),(D.bool true)])),[(.arr 1 (List.map Zb r.2)),(.cells [(.d (Zb m1_0)),(.d (Zb m1_1)),(.d (D.list t0 (List.map Z3 m1_2))),(.d (D.list t1 (List.map ZC m1_3))),(.d (D.list t2 (List.map Zq m1_4))),(.d (D.list t3 (List.map Zv m1_5)))])])
  | (.inr r)=>((.d (D.tup [(Zb r.1),(D.bool false)])),[(.arr 1 (List.map Zb r.2)),(.cells [(.d (Zb m1_0)),(.d (Zb m1_1)),(.d (D.list t0 (List.map Z3 m1_2))),(.d (D.list t1 (List.map ZC m1_3))),(.d (D.list t2 (List.map Zq m1_4))),(.d (D.list t3 (List.map Zv m1_5)))])])
def ZbM (t0:Bool) (t1:Bool) (t2:Bool) (t3:Bool) (b:Int) (c:Int) (d:Int) (m0_0:(List Int)) (m1_0:Int) (m1_1:Int) (m1_2:(List ZV)) (m1_3:(List Zm)) (m1_4:(List Zi)) (m1_5:(List Zs)) (x0:Int) (x1:Int):Int→Ex×List V×Zp
  | r=>(.exit 0,[(.sl 0 1),(.d (Zb b)),(.fn 118 [(.ptr 1 0)]),(.d (Zb r)),(.d (Zb (w64 (c-1))))],[(.arr 1 (List.map Zb (List.set (List.set m0_0 b.toNat x0) d.toNat x1))),(.cells [(.d (Zb m1_0)),(.d (Zb m1_1)),(.d (D.list t0 (List.map Z3 m1_2))),(.d (D.list t1 (List.map ZC m1_3))),(.d (D.list t2 (List.map Zq m1_4))),(.d (D.list t3 (List.map Zv m1_5)))])])
theorem ZdD {t0:Bool}{t1:Bool}{t2:Bool}{t3:Bool}{b:Int}{c:Int}{d:Int}{m0_0:(List Int)}{m1_0:Int}{m1_1:Int}{m1_2:(List ZV)}{m1_3:(List Zm)}{m1_4:(List Zi)}{m1_5:(List Zs)}{x0:Int}{x1:Int}:∀(s3:Int) (r:Int),lp (ZaA b c d m0_0 (fun z0 z1=>Zt z0 z1 m1_4) x0 x1) s3=some r→lpW ctx 2 [0,1,4,12,13] [0,1,4,12,13] Zub [(.sl 0 1),(.d (Zb b)),(.fn 118 [(.ptr 1 0)]),(.d (Zb s3)),(.d (Zb (w64 (c-1))))] [(.arr 1 (List.map Zb (List.set (List.set m0_0 b.toNat x0) d.toNat x1))),(.cells [(.d (Zb m1_0)),(.d (Zb m1_1)),(.d (D.list t0 (List.map Z3 m1_2))),(.d (D.list t1 (List.map ZC m1_3))),(.d (D.list t2 (List.map Zq m1_4))),(.d (D.list t3 (List.map Zv m1_5)))])]=some ((ZbM t0 t1 t2 t3 b c d m0_0 m1_0 m1_1 m1_2 m1_3 m1_4 m1_5 x0 x1) r):=by
 refine ZaT (ZbM t0 t1 t2 t3 b c d m0_0 m1_0 m1_1 m1_2 m1_3 m1_4 m1_5 x0 x1) ?_
 intro s3 rcl ih
 show ZN _ _ (lpW _ _ _ _ _ _ _)
 unfold ZaA
 rw[ZaV]
 conv=>arg 3;whnf
 refine Ze rfl ?_ ?_<;>conv=>arg 3;whnf
 ·refine Zl rfl rfl fun x4 hx4=>?_;conv=>arg 3;whnf
  refine Zg (ZA rfl hx4) ?_;conv=>arg 3;whnf
  refine Zl rfl rfl fun x5 hx5=>?_;conv=>arg 3;whnf
  refine Zg (ZA rfl hx5) ?_;conv=>arg 3;whnf
  refine Zo _ ZF rfl fun x6 hx6=>?_;conv=>arg 3;whnf
  refine Ze rfl ?_ ?_<;>conv=>arg 3;whnf
  ·exact Zf (ih _)
  ·exact Zd rfl
 ·exact Zd rfl
def ZbJ (t0:Bool) (t1:Bool) (t2:Bool) (t3:Bool) (b:Int) (d:Int) (m0_0:(List Int)) (m1_0:Int) (m1_1:Int) (m1_2:(List ZV)) (m1_3:(List Zm)) (m1_4:(List Zi)) (m1_5:(List Zs)) (x0:Int) (x1:Int) (r7:Int):Int→Ex×List V×Zp
  | r=>(.exit 2,[(.sl 0 1),(.d (Zb b)),(.fn 118 [(.ptr 1 0)]),(.d (Zb r7)),(.d (Zb r))],[(.arr 1 (List.map Zb (List.set (List.set m0_0 b.toNat x0) d.toNat x1))),(.cells [(.d (Zb m1_0)),(.d (Zb m1_1)),(.d (D.list t0 (List.map Z3 m1_2))),(.d (D.list t1 (List.map ZC m1_3))),(.d (D.list t2 (List.map Zq m1_4))),(.d (D.list t3 (List.map Zv m1_5)))])])
theorem ZdB {t0:Bool}{t1:Bool}{t2:Bool}{t3:Bool}{b:Int}{d:Int}{m0_0:(List Int)}{m1_0:Int}{m1_1:Int}{m1_2:(List ZV)}{m1_3:(List Zm)}{m1_4:(List Zi)}{m1_5:(List Zs)}{x0:Int}{x1:Int}{r7:Int}:∀(s8:Int) (r:Int),lp (Zaz b d m0_0 (fun z0 z1=>Zt z0 z1 m1_4) x0 x1 r7) s8=some r→lpW ctx 2 [0,1,4,12,13] [0,1,4,12,13] Zui [(.sl 0 1),(.d (Zb b)),(.fn 118 [(.ptr 1 0)]),(.d (Zb r7)),(.d (Zb s8))] [(.arr 1 (List.map Zb (List.set (List.set m0_0 b.toNat x0) d.toNat x1))),(.cells [(.d (Zb m1_0)),(.d (Zb m1_1)),(.d (D.list t0 (List.map Z3 m1_2))),(.d (D.list t1 (List.map ZC m1_3))),(.d (D.list t2 (List.map Zq m1_4))),(.d (D.list t3 (List.map Zv m1_5)))])]=some ((ZbJ t0 t1 t2 t3 b d m0_0 m1_0 m1_1 m1_2 m1_3 m1_4 m1_5 x0 x1 r7) r):=by
 refine ZaT (ZbJ t0 t1 t2 t3 b d m0_0 m1_0 m1_1 m1_2 m1_3 m1_4 m1_5 x0 x1 r7) ?_
 intro s8 rcl ih
 show ZN _ _ (lpW _ _ _ _ _ _ _)
 unfold Zaz
 rw[ZaV]
 conv=>arg 3;whnf
 refine Ze rfl ?_ ?_<;>conv=>arg 3;whnf
 ·refine Zl rfl rfl fun x9 hx9=>?_;conv=>arg 3;whnf
  refine Zg (ZA rfl hx9) ?_;conv=>arg 3;whnf
  refine Zl rfl rfl fun x10 hx10=>?_;conv=>arg 3;whnf
  refine Zg (ZA rfl hx10) ?_;conv=>arg 3;whnf
  refine Zo _ ZF rfl fun x11 hx11=>?_;conv=>arg 3;whnf
  refine Ze rfl ?_ ?_<;>conv=>arg 3;whnf
  ·exact Zd rfl
  ·exact Zf (ih _)
 ·exact Zd rfl
def ZbH (t0:Bool) (t1:Bool) (t2:Bool) (t3:Bool) (b:Int) (m1_0:Int) (m1_1:Int) (m1_2:(List ZV)) (m1_3:(List Zm)) (m1_4:(List Zi)) (m1_5:(List Zs)) (s19:Int×Int×(List Int)):Int→Ex×List V×Zp
  | r=>(.exit 6,[(.sl 0 1),(.d (Zb b)),(.fn 118 [(.ptr 1 0)]),(.d (Zb r)),(.d (Zb s19.2.1))],[(.arr 1 (List.map Zb s19.2.2)),(.cells [(.d (Zb m1_0)),(.d (Zb m1_1)),(.d (D.list t0 (List.map Z3 m1_2))),(.d (D.list t1 (List.map ZC m1_3))),(.d (D.list t2 (List.map Zq m1_4))),(.d (D.list t3 (List.map Zv m1_5)))])])
theorem ZdF {t0:Bool}{t1:Bool}{t2:Bool}{t3:Bool}{b:Int}{m1_0:Int}{m1_1:Int}{m1_2:(List ZV)}{m1_3:(List Zm)}{m1_4:(List Zi)}{m1_5:(List Zs)}{s19:Int×Int×(List Int)}:∀(s20:Int) (r:Int),lp (ZaB b (fun z0 z1=>Zt z0 z1 m1_4) s19) s20=some r→lpW ctx 2 [0,1,4,12,13] [0,1,4,12,13] ZtN [(.sl 0 1),(.d (Zb b)),(.fn 118 [(.ptr 1 0)]),(.d (Zb s20)),(.d (Zb s19.2.1))] [(.arr 1 (List.map Zb s19.2.2)),(.cells [(.d (Zb m1_0)),(.d (Zb m1_1)),(.d (D.list t0 (List.map Z3 m1_2))),(.d (D.list t1 (List.map ZC m1_3))),(.d (D.list t2 (List.map Zq m1_4))),(.d (D.list t3 (List.map Zv m1_5)))])]=some ((ZbH t0 t1 t2 t3 b m1_0 m1_1 m1_2 m1_3 m1_4 m1_5 s19) r):=by
 refine ZaT (ZbH t0 t1 t2 t3 b m1_0 m1_1 m1_2 m1_3 m1_4 m1_5 s19) ?_
 intro s20 rcl ih
 show ZN _ _ (lpW _ _ _ _ _ _ _)
 unfold ZaB
 rw[ZaV]
 conv=>arg 3;whnf
 refine Ze rfl ?_ ?_<;>conv=>arg 3;whnf
 ·refine Zl rfl rfl fun x21 hx21=>?_;conv=>arg 3;whnf
  refine Zg (ZA rfl hx21) ?_;conv=>arg 3;whnf
  refine Zl rfl rfl fun x22 hx22=>?_;conv=>arg 3;whnf
  refine Zg (ZA rfl hx22) ?_;conv=>arg 3;whnf
  refine Zo _ ZF rfl fun x23 hx23=>?_;conv=>arg 3;whnf
  refine Ze rfl ?_ ?_<;>conv=>arg 3;whnf
  ·exact Zf (ih _)
  ·exact Zd rfl
 ·exact Zd rfl
def ZbK (t0:Bool) (t1:Bool) (t2:Bool) (t3:Bool) (b:Int) (m1_0:Int) (m1_1:Int) (m1_2:(List ZV)) (m1_3:(List Zm)) (m1_4:(List Zi)) (m1_5:(List Zs)) (s19:Int×Int×(List Int)) (r24:Int):Int→Ex×List V×Zp
  | r=>(.exit 8,[(.sl 0 1),(.d (Zb b)),(.fn 118 [(.ptr 1 0)]),(.d (Zb r24)),(.d (Zb r))],[(.arr 1 (List.map Zb s19.2.2)),(.cells [(.d (Zb m1_0)),(.d (Zb m1_1)),(.d (D.list t0 (List.map Z3 m1_2))),(.d (D.list t1 (List.map ZC m1_3))),(.d (D.list t2 (List.map Zq m1_4))),(.d (D.list t3 (List.map Zv m1_5)))])])
theorem Zdy {t0:Bool}{t1:Bool}{t2:Bool}{t3:Bool}{b:Int}{m1_0:Int}{m1_1:Int}{m1_2:(List ZV)}{m1_3:(List Zm)}{m1_4:(List Zi)}{m1_5:(List Zs)}{s19:Int×Int×(List Int)}{r24:Int}:∀(s25:Int) (r:Int),lp (Zax b (fun z0 z1=>Zt z0 z1 m1_4) s19 r24) s25=some r→lpW ctx 2 [0,1,4,12,13] [0,1,4,12,13] Zuu [(.sl 0 1),(.d (Zb b)),(.fn 118 [(.ptr 1 0)]),(.d (Zb r24)),(.d (Zb s25))] [(.arr 1 (List.map Zb s19.2.2)),(.cells [(.d (Zb m1_0)),(.d (Zb m1_1)),(.d (D.list t0 (List.map Z3 m1_2))),(.d (D.list t1 (List.map ZC m1_3))),(.d (D.list t2 (List.map Zq m1_4))),(.d (D.list t3 (List.map Zv m1_5)))])]=some ((ZbK t0 t1 t2 t3 b m1_0 m1_1 m1_2 m1_3 m1_4 m1_5 s19 r24) r):=by
 refine ZaT (ZbK t0 t1 t2 t3 b m1_0 m1_1 m1_2 m1_3 m1_4 m1_5 s19 r24) ?_
 intro s25 rcl ih
 show ZN _ _ (lpW _ _ _ _ _ _ _)
 unfold Zax
 rw[ZaV]
 conv=>arg 3;whnf
 refine Ze rfl ?_ ?_<;>conv=>arg 3;whnf
 ·refine Zl rfl rfl fun x26 hx26=>?_;conv=>arg 3;whnf
  refine Zg (ZA rfl hx26) ?_;conv=>arg 3;whnf
  refine Zl rfl rfl fun x27 hx27=>?_;conv=>arg 3;whnf
  refine Zg (ZA rfl hx27) ?_;conv=>arg 3;whnf
  refine Zo _ ZF rfl fun x28 hx28=>?_;conv=>arg 3;whnf
  refine Ze rfl ?_ ?_<;>conv=>arg 3;whnf
  ·exact Zd rfl
  ·exact Zf (ih _)
 ·exact Zd rfl
def ZbI (t0:Bool) (t1:Bool) (t2:Bool) (t3:Bool) (b:Int) (m1_0:Int) (m1_1:Int) (m1_2:(List ZV)) (m1_3:(List Zm)) (m1_4:(List Zi)) (m1_5:(List Zs)):(Int×(List Int))→Ex×List V×Zp
  | r=>(.exit 4,[(.sl 0 1),(.d (Zb b)),(.d (Zb r.1))],[(.arr 1 (List.map Zb r.2)),(.cells [(.d (Zb m1_0)),(.d (Zb m1_1)),(.d (D.list t0 (List.map Z3 m1_2))),(.d (D.list t1 (List.map ZC m1_3))),(.d (D.list t2 (List.map Zq m1_4))),(.d (D.list t3 (List.map Zv m1_5)))])])
theorem ZdE {t0:Bool}{t1:Bool}{t2:Bool}{t3:Bool}{b:Int}{m1_0:Int}{m1_1:Int}{m1_2:(List ZV)}{m1_3:(List Zm)}{m1_4:(List Zi)}{m1_5:(List Zs)}:∀(s19:Int×Int×(List Int)) (r:(Int×(List Int))),lp (Za4 b (fun z0 z1=>Zt z0 z1 m1_4)) s19=some r→lpW ctx 2 [0,1,4,12,13] [0,1,13] Zuk [(.sl 0 1),(.d (Zb b)),(.fn 118 [(.ptr 1 0)]),(.d (Zb s19.1)),(.d (Zb s19.2.1))] [(.arr 1 (List.map Zb s19.2.2)),(.cells [(.d (Zb m1_0)),(.d (Zb m1_1)),(.d (D.list t0 (List.map Z3 m1_2))),(.d (D.list t1 (List.map ZC m1_3))),(.d (D.list t2 (List.map Zq m1_4))),(.d (D.list t3 (List.map Zv m1_5)))])]=some ((ZbI t0 t1 t2 t3 b m1_0 m1_1 m1_2 m1_3 m1_4 m1_5) r):=by
 refine ZaT (ZbI t0 t1 t2 t3 b m1_0 m1_1 m1_2 m1_3 m1_4 m1_5) ?_
 intro s19 rcl ih
 show ZN _ _ (lpW _ _ _ _ _ _ _)
 unfold Za4
 rw[ZaV]
 conv=>arg 3;whnf
 refine Zc _ (ZdF _) fun r24 hr24=>?_;conv=>arg 3;whnf
 refine Zc _ (Zdy _) fun r29 hr29=>?_;conv=>arg 3;whnf
 refine Ze rfl ?_ ?_<;>conv=>arg 3;whnf
 ·exact Zd rfl
 ·refine Zl rfl rfl fun x30 hx30=>?_;conv=>arg 3;whnf
  refine Zg (ZA rfl hx30) ?_;conv=>arg 3;whnf
  refine Zl rfl rfl fun x31 hx31=>?_;conv=>arg 3;whnf
  refine Zg (ZA rfl hx31) ?_;conv=>arg 3;whnf
  refine Zg (ZbO rfl hx31) ?_;conv=>arg 3;whnf
  refine Zg (ZA rfl hx31) ?_;conv=>arg 3;whnf
  refine Zn (ZaL Zb s19.2.2 r24.toNat x30) ?_;conv=>arg 3;whnf
  refine Zl rfl rfl fun x32 hx32=>?_;conv=>arg 3;whnf
  refine Zg (ZA rfl hx32) ?_;conv=>arg 3;whnf
  refine Zn (ZaL Zb (List.set s19.2.2 r24.toNat x30) r29.toNat x31) ?_;conv=>arg 3;whnf
  exact Zf (ih _)
theorem Zk {t0:Bool}{t1:Bool}{t2:Bool}{t3:Bool}{b:Int}{c:Int}{d:Int}{m0_0:(List Int)}{m1_0:Int}{m1_1:Int}{m1_2:(List ZV)}{m1_3:(List Zm)}{m1_4:(List Zi)}{m1_5:(List Zs)}:∀r,(Zr b c d (fun z0 z1=>Zt z0 z1 m1_4) m0_0)=some r→evW ctx 133 [(.sl 0 1),(.d (Zb b)),(.d (Zb c)),(.d (Zb d)),(.fn 118 [(.ptr 1 0)])] [(.arr 1 (List.map Zb m0_0)),(.cells [(.d (Zb m1_0)),(.d (Zb m1_1)),(.d (D.list t0 (List.map Z3 m1_2))),(.d (D.list t1 (List.map ZC m1_3))),(.d (D.list t2 (List.map Zq m1_4))),(.d (D.list t3 (List.map Zv m1_5)))])]=some ((Zb7 t0 t1 t2 t3 b c d m0_0 m1_0 m1_1 m1_2 m1_3 m1_4 m1_5) r):=by
 show ZN _ (fun r rhs=>rhs=some ((Zb7 t0 t1 t2 t3 b c d m0_0 m1_0 m1_1 m1_2 m1_3 m1_4 m1_5) r)) _
 unfold Zr
 rw[Zfd ctx 133 Zv4 _ _ rfl rfl]
 conv=>arg 3;whnf
 refine Zl rfl rfl fun x0 hx0=>?_;conv=>arg 3;whnf
 refine Zg (ZA rfl hx0) ?_;conv=>arg 3;whnf
 refine Zl rfl rfl fun x1 hx1=>?_;conv=>arg 3;whnf
 refine Zg (ZA rfl hx1) ?_;conv=>arg 3;whnf
 refine Zg (ZbO rfl hx1) ?_;conv=>arg 3;whnf
 refine Zg (ZA rfl hx1) ?_;conv=>arg 3;whnf
 refine Zn (ZaL Zb m0_0 b.toNat x0) ?_;conv=>arg 3;whnf
 refine Zl rfl rfl fun x2 hx2=>?_;conv=>arg 3;whnf
 refine Zg (ZA rfl hx2) ?_;conv=>arg 3;whnf
 refine Zn (ZaL Zb (List.set m0_0 b.toNat x0) d.toNat x1) ?_;conv=>arg 3;whnf
 refine Zc _ (ZdD _) fun r7 hr7=>?_;conv=>arg 3;whnf
 refine Zc _ (ZdB _) fun r12 hr12=>?_;conv=>arg 3;whnf
 refine Ze rfl ?_ ?_<;>conv=>arg 3;whnf
 ·refine Zl rfl rfl fun x13 hx13=>?_;conv=>arg 3;whnf
  refine Zg (ZA rfl hx13) ?_;conv=>arg 3;whnf
  refine Zl rfl rfl fun x14 hx14=>?_;conv=>arg 3;whnf
  refine Zg (ZA rfl hx14) ?_;conv=>arg 3;whnf
  refine Zg (ZbO rfl hx14) ?_;conv=>arg 3;whnf
  refine Zg (ZA rfl hx14) ?_;conv=>arg 3;whnf
  refine Zn (ZaL Zb (List.set (List.set m0_0 b.toNat x0) d.toNat x1) r12.toNat x13) ?_;conv=>arg 3;whnf
  refine Zl rfl rfl fun x15 hx15=>?_;conv=>arg 3;whnf
  refine Zg (ZA rfl hx15) ?_;conv=>arg 3;whnf
  refine Zn (ZaL Zb (List.set (List.set (List.set m0_0 b.toNat x0) d.toNat x1) r12.toNat x13) b.toNat x14) ?_;conv=>arg 3;whnf
  exact Zd rfl
 ·refine Zl rfl rfl fun x16 hx16=>?_;conv=>arg 3;whnf
  refine Zg (ZA rfl hx16) ?_;conv=>arg 3;whnf
  refine Zl rfl rfl fun x17 hx17=>?_;conv=>arg 3;whnf
  refine Zg (ZA rfl hx17) ?_;conv=>arg 3;whnf
  refine Zg (ZbO rfl hx17) ?_;conv=>arg 3;whnf
  refine Zg (ZA rfl hx17) ?_;conv=>arg 3;whnf
  refine Zn (ZaL Zb (List.set (List.set m0_0 b.toNat x0) d.toNat x1) r7.toNat x16) ?_;conv=>arg 3;whnf
  refine Zl rfl rfl fun x18 hx18=>?_;conv=>arg 3;whnf
  refine Zg (ZA rfl hx18) ?_;conv=>arg 3;whnf
  refine Zn (ZaL Zb (List.set (List.set (List.set m0_0 b.toNat x0) d.toNat x1) r7.toNat x16) r12.toNat x17) ?_;conv=>arg 3;whnf
  refine Zc _ (ZdE _) fun r33 hr33=>?_;conv=>arg 3;whnf
  refine Zl rfl rfl fun x34 hx34=>?_;conv=>arg 3;whnf
  refine Zg (ZA rfl hx34) ?_;conv=>arg 3;whnf
  refine Zl rfl rfl fun x35 hx35=>?_;conv=>arg 3;whnf
  refine Zg (ZA rfl hx35) ?_;conv=>arg 3;whnf
  refine Zg (ZbO rfl hx35) ?_;conv=>arg 3;whnf
  refine Zg (ZA rfl hx35) ?_;conv=>arg 3;whnf
  refine Zn (ZaL Zb r33.2 r33.1.toNat x34) ?_;conv=>arg 3;whnf
  refine Zl rfl rfl fun x36 hx36=>?_;conv=>arg 3;whnf
  refine Zg (ZA rfl hx36) ?_;conv=>arg 3;whnf
  refine Zn (ZaL Zb (List.set r33.2 r33.1.toNat x34) b.toNat x35) ?_;conv=>arg 3;whnf
  exact Zd rfl
def ZbA (t0:Bool) (t1:Bool) (t2:Bool) (t3:Bool) (b:Int) (c:Int) (d:Int) (m0_0:(List Int)) (m1_0:Int) (m1_1:Int) (m1_2:(List ZV)) (m1_3:(List Zm)) (m1_4:(List Zi)) (m1_5:(List Zs)):(Int×(List Int))→V×Zp
  | r=>((.d (Zb r.1)),[(.arr 1 (List.map Zb r.2)),(.cells [(.d (Zb m1_0)),(.d (Zb m1_1)),(.d (D.list t0 (List.map Z3 m1_2))),(.d (D.list t1 (List.map ZC m1_3))),(.d (D.list t2 (List.map Zq m1_4))),(.d (D.list t3 (List.map Zv m1_5)))])])
def Zbk (t0:Bool) (t1:Bool) (t2:Bool) (t3:Bool) (b:Int) (m1_0:Int) (m1_1:Int) (m1_2:(List ZV)) (m1_3:(List Zm)) (m1_4:(List Zi)) (m1_5:(List Zs)) (s3:Int×Int×(List Int)):Int→Ex×List V×Zp
  | r=>(.exit 2,[(.sl 0 1),(.d (Zb b)),(.fn 118 [(.ptr 1 0)]),(.d (Zb r)),(.d (Zb s3.2.1))],[(.arr 1 (List.map Zb s3.2.2)),(.cells [(.d (Zb m1_0)),(.d (Zb m1_1)),(.d (D.list t0 (List.map Z3 m1_2))),(.d (D.list t1 (List.map ZC m1_3))),(.d (D.list t2 (List.map Zq m1_4))),(.d (D.list t3 (List.map Zv m1_5)))])])
theorem ZcX {t0:Bool}{t1:Bool}{t2:Bool}{t3:Bool}{b:Int}{m1_0:Int}{m1_1:Int}{m1_2:(List ZV)}{m1_3:(List Zm)}{m1_4:(List Zi)}{m1_5:(List Zs)}{s3:Int×Int×(List Int)}:∀(s4:Int) (r:Int),lp (Zag b (fun z0 z1=>Zt z0 z1 m1_4) s3) s4=some r→lpW ctx 2 [0,1,4,11,12] [0,1,4,11,12] Zt5 [(.sl 0 1),(.d (Zb b)),(.fn 118 [(.ptr 1 0)]),(.d (Zb s4)),(.d (Zb s3.2.1))] [(.arr 1 (List.map Zb s3.2.2)),(.cells [(.d (Zb m1_0)),(.d (Zb m1_1)),(.d (D.list t0 (List.map Z3 m1_2))),(.d (D.list t1 (List.map ZC m1_3))),(.d (D.list t2 (List.map Zq m1_4))),(.d (D.list t3 (List.map Zv m1_5)))])]=some ((Zbk t0 t1 t2 t3 b m1_0 m1_1 m1_2 m1_3 m1_4 m1_5 s3) r):=by
 refine ZaT (Zbk t0 t1 t2 t3 b m1_0 m1_1 m1_2 m1_3 m1_4 m1_5 s3) ?_
 intro s4 rcl ih
 show ZN _ _ (lpW _ _ _ _ _ _ _)
 unfold Zag
 rw[ZaV]
 conv=>arg 3;whnf
 refine Ze rfl ?_ ?_<;>conv=>arg 3;whnf
 ·refine Zl rfl rfl fun x5 hx5=>?_;conv=>arg 3;whnf
  refine Zg (ZA rfl hx5) ?_;conv=>arg 3;whnf
  refine Zl rfl rfl fun x6 hx6=>?_;conv=>arg 3;whnf
  refine Zg (ZA rfl hx6) ?_;conv=>arg 3;whnf
  refine Zo _ ZF rfl fun x7 hx7=>?_;conv=>arg 3;whnf
  refine Ze rfl ?_ ?_<;>conv=>arg 3;whnf
  ·exact Zd rfl
  ·exact Zf (ih _)
 ·exact Zd rfl
def Zbl (t0:Bool) (t1:Bool) (t2:Bool) (t3:Bool) (b:Int) (m1_0:Int) (m1_1:Int) (m1_2:(List ZV)) (m1_3:(List Zm)) (m1_4:(List Zi)) (m1_5:(List Zs)) (s3:Int×Int×(List Int)) (r8:Int):Int→Ex×List V×Zp
  | r=>(.exit 4,[(.sl 0 1),(.d (Zb b)),(.fn 118 [(.ptr 1 0)]),(.d (Zb r8)),(.d (Zb r))],[(.arr 1 (List.map Zb s3.2.2)),(.cells [(.d (Zb m1_0)),(.d (Zb m1_1)),(.d (D.list t0 (List.map Z3 m1_2))),(.d (D.list t1 (List.map ZC m1_3))),(.d (D.list t2 (List.map Zq m1_4))),(.d (D.list t3 (List.map Zv m1_5)))])])
theorem Zc2 {t0:Bool}{t1:Bool}{t2:Bool}{t3:Bool}{b:Int}{m1_0:Int}{m1_1:Int}{m1_2:(List ZV)}{m1_3:(List Zm)}{m1_4:(List Zi)}{m1_5:(List Zs)}{s3:Int×Int×(List Int)}{r8:Int}:∀(s9:Int) (r:Int),lp (Zah b (fun z0 z1=>Zt z0 z1 m1_4) s3 r8) s9=some r→lpW ctx 2 [0,1,4,11,12] [0,1,4,11,12] ZtC [(.sl 0 1),(.d (Zb b)),(.fn 118 [(.ptr 1 0)]),(.d (Zb r8)),(.d (Zb s9))] [(.arr 1 (List.map Zb s3.2.2)),(.cells [(.d (Zb m1_0)),(.d (Zb m1_1)),(.d (D.list t0 (List.map Z3 m1_2))),(.d (D.list t1 (List.map ZC m1_3))),(.d (D.list t2 (List.map Zq m1_4))),(.d (D.list t3 (List.map Zv m1_5)))])]=some ((Zbl t0 t1 t2 t3 b m1_0 m1_1 m1_2 m1_3 m1_4 m1_5 s3 r8) r):=by
 refine ZaT (Zbl t0 t1 t2 t3 b m1_0 m1_1 m1_2 m1_3 m1_4 m1_5 s3 r8) ?_
 intro s9 rcl ih
 show ZN _ _ (lpW _ _ _ _ _ _ _)
 unfold Zah
 rw[ZaV]
 conv=>arg 3;whnf
 refine Ze rfl ?_ ?_<;>conv=>arg 3;whnf
 ·refine Zl rfl rfl fun x10 hx10=>?_;conv=>arg 3;whnf
  refine Zg (ZA rfl hx10) ?_;conv=>arg 3;whnf
  refine Zl rfl rfl fun x11 hx11=>?_;conv=>arg 3;whnf
  refine Zg (ZA rfl hx11) ?_;conv=>arg 3;whnf
  refine Zo _ ZF rfl fun x12 hx12=>?_;conv=>arg 3;whnf
  refine Ze rfl ?_ ?_<;>conv=>arg 3;whnf
  ·exact Zf (ih _)
  ·exact Zd rfl
 ·exact Zd rfl
def Zbj (t0:Bool) (t1:Bool) (t2:Bool) (t3:Bool) (b:Int) (m1_0:Int) (m1_1:Int) (m1_2:(List ZV)) (m1_3:(List Zm)) (m1_4:(List Zi)) (m1_5:(List Zs)):(Int×(List Int))→Ex×List V×Zp
  | r=>(.exit 0,[(.d (Zb r.1))],[(.arr 1 (List.map Zb r.2)),(.cells [(.d (Zb m1_0)),(.d (Zb m1_1)),(.d (D.list t0 (List.map Z3 m1_2))),(.d (D.list t1 (List.map ZC m1_3))),(.d (D.list t2 (List.map Zq m1_4))),(.d (D.list t3 (List.map Zv m1_5)))])])
theorem ZcY {t0:Bool}{t1:Bool}{t2:Bool}{t3:Bool}{b:Int}{m1_0:Int}{m1_1:Int}{m1_2:(List ZV)}{m1_3:(List Zm)}{m1_4:(List Zi)}{m1_5:(List Zs)}:∀(s3:Int×Int×(List Int)) (r:(Int×(List Int))),lp (Zay b (fun z0 z1=>Zt z0 z1 m1_4)) s3=some r→lpW ctx 2 [0,1,4,11,12] [11] Zup [(.sl 0 1),(.d (Zb b)),(.fn 118 [(.ptr 1 0)]),(.d (Zb s3.1)),(.d (Zb s3.2.1))] [(.arr 1 (List.map Zb s3.2.2)),(.cells [(.d (Zb m1_0)),(.d (Zb m1_1)),(.d (D.list t0 (List.map Z3 m1_2))),(.d (D.list t1 (List.map ZC m1_3))),(.d (D.list t2 (List.map Zq m1_4))),(.d (D.list t3 (List.map Zv m1_5)))])]=some ((Zbj t0 t1 t2 t3 b m1_0 m1_1 m1_2 m1_3 m1_4 m1_5) r):=by
 refine ZaT (Zbj t0 t1 t2 t3 b m1_0 m1_1 m1_2 m1_3 m1_4 m1_5) ?_
 intro s3 rcl ih
 show ZN _ _ (lpW _ _ _ _ _ _ _)
 unfold Zay
 rw[ZaV]
 conv=>arg 3;whnf
 refine Zc _ (ZcX _) fun r8 hr8=>?_;conv=>arg 3;whnf
 refine Zc _ (Zc2 _) fun r13 hr13=>?_;conv=>arg 3;whnf
 refine Ze rfl ?_ ?_<;>conv=>arg 3;whnf
 ·exact Zd rfl
 ·refine Zl rfl rfl fun x14 hx14=>?_;conv=>arg 3;whnf
  refine Zg (ZA rfl hx14) ?_;conv=>arg 3;whnf
  refine Zl rfl rfl fun x15 hx15=>?_;conv=>arg 3;whnf
  refine Zg (ZA rfl hx15) ?_;conv=>arg 3;whnf
  refine Zg (ZbO rfl hx15) ?_;conv=>arg 3;whnf
  refine Zg (ZA rfl hx15) ?_;conv=>arg 3;whnf
  refine Zn (ZaL Zb s3.2.2 r8.toNat x14) ?_;conv=>arg 3;whnf
  refine Zl rfl rfl fun x16 hx16=>?_;conv=>arg 3;whnf
  refine Zg (ZA rfl hx16) ?_;conv=>arg 3;whnf
  refine Zn (ZaL Zb (List.set s3.2.2 r8.toNat x14) r13.toNat x15) ?_;conv=>arg 3;whnf
  exact Zf (ih _)
theorem Zz {t0:Bool}{t1:Bool}{t2:Bool}{t3:Bool}{b:Int}{c:Int}{d:Int}{m0_0:(List Int)}{m1_0:Int}{m1_1:Int}{m1_2:(List ZV)}{m1_3:(List Zm)}{m1_4:(List Zi)}{m1_5:(List Zs)}:∀r,(ZD b c d (fun z0 z1=>Zt z0 z1 m1_4) m0_0)=some r→evW ctx 132 [(.sl 0 1),(.d (Zb b)),(.d (Zb c)),(.d (Zb d)),(.fn 118 [(.ptr 1 0)])] [(.arr 1 (List.map Zb m0_0)),(.cells [(.d (Zb m1_0)),(.d (Zb m1_1)),(.d (D.list t0 (List.map Z3 m1_2))),(.d (D.list t1 (List.map ZC m1_3))),(.d (D.list t2 (List.map Zq m1_4))),(.d (D.list t3 (List.map Zv m1_5)))])]=some ((ZbA t0 t1 t2 t3 b c d m0_0 m1_0 m1_1 m1_2 m1_3 m1_4 m1_5) r):=by
 show ZN _ (fun r rhs=>rhs=some ((ZbA t0 t1 t2 t3 b c d m0_0 m1_0 m1_1 m1_2 m1_3 m1_4 m1_5) r)) _
 unfold ZD
 rw[Zfd ctx 132 Zxl _ _ rfl rfl]
 conv=>arg 3;whnf
 refine Zl rfl rfl fun x0 hx0=>?_;conv=>arg 3;whnf
 refine Zg (ZA rfl hx0) ?_;conv=>arg 3;whnf
 refine Zl rfl rfl fun x1 hx1=>?_;conv=>arg 3;whnf
 refine Zg (ZA rfl hx1) ?_;conv=>arg 3;whnf
 refine Zg (ZbO rfl hx1) ?_;conv=>arg 3;whnf
 refine Zg (ZA rfl hx1) ?_;conv=>arg 3;whnf
 refine Zn (ZaL Zb m0_0 b.toNat x0) ?_;conv=>arg 3;whnf
 refine Zl rfl rfl fun x2 hx2=>?_;conv=>arg 3;whnf
 refine Zg (ZA rfl hx2) ?_;conv=>arg 3;whnf
 refine Zn (ZaL Zb (List.set m0_0 b.toNat x0) d.toNat x1) ?_;conv=>arg 3;whnf
 refine Zc _ (ZcY _) fun r17 hr17=>?_;conv=>arg 3;whnf
 exact Zd rfl
def Zfy (r:Int):D:=(D.int .u64 r)
theorem ZhG {a:Int}:∀r,(Zcn a)=some r→evD ctx 137 [(.d (Zb a))]=some (Zfy r):=by
 show ZN _ (fun r rhs=>rhs=some (Zfy r)) _
 unfold Zcn
 rw[ZaU ctx 137 ZvA _ rfl rfl]
 conv=>arg 3;whnf
 refine Zo _ ZhS rfl fun x0 hx0=>?_;conv=>arg 3;whnf
 refine Ze rfl ?_ ?_
 ·exact Z1
 ·conv=>arg 3;whnf
  exact Zd rfl
def ZfD (m0_0:Int):Unit→V×Zp
  | r=>((.d (D.int .u64 (IntKind.u64.wrap (BitVec.ofInt IntKind.u64.bits (IntKind.u64.wrap (BitVec.ofInt IntKind.u64.bits (IntKind.u64.wrap (BitVec.ofInt IntKind.u64.bits m0_0 ^^^ BitVec.ofInt IntKind.u64.bits (IntKind.u64.wrap (m0_0*2 ^ 13))).toNat) ^^^ BitVec.ofInt IntKind.u64.bits (Int.fdiv (IntKind.u64.wrap (BitVec.ofInt IntKind.u64.bits m0_0 ^^^ BitVec.ofInt IntKind.u64.bits (IntKind.u64.wrap (m0_0*2 ^ 13))).toNat) (2 ^ 7))).toNat) ^^^ BitVec.ofInt IntKind.u64.bits (IntKind.u64.wrap ((IntKind.u64.wrap (BitVec.ofInt IntKind.u64.bits (IntKind.u64.wrap (BitVec.ofInt IntKind.u64.bits m0_0 ^^^ BitVec.ofInt IntKind.u64.bits (IntKind.u64.wrap (m0_0*2 ^ 13))).toNat) ^^^ BitVec.ofInt IntKind.u64.bits (Int.fdiv (IntKind.u64.wrap (BitVec.ofInt IntKind.u64.bits m0_0 ^^^ BitVec.ofInt IntKind.u64.bits (IntKind.u64.wrap (m0_0*2 ^ 13))).toNat) (2 ^ 7))).toNat)*2 ^ 17))).toNat))),[(.cells [(.d (D.int .u64 (IntKind.u64.wrap (BitVec.ofInt IntKind.u64.bits (IntKind.u64.wrap (BitVec.ofInt IntKind.u64.bits (IntKind.u64.wrap (BitVec.ofInt IntKind.u64.bits m0_0 ^^^ BitVec.ofInt IntKind.u64.bits (IntKind.u64.wrap (m0_0*2 ^ 13))).toNat) ^^^ BitVec.ofInt IntKind.u64.bits (Int.fdiv (IntKind.u64.wrap (BitVec.ofInt IntKind.u64.bits m0_0 ^^^ BitVec.ofInt IntKind.u64.bits (IntKind.u64.wrap (m0_0*2 ^ 13))).toNat) (2 ^ 7))).toNat) ^^^ BitVec.ofInt IntKind.u64.bits (IntKind.u64.wrap ((IntKind.u64.wrap (BitVec.ofInt IntKind.u64.bits (IntKind.u64.wrap (BitVec.ofInt IntKind.u64.bits m0_0 ^^^ BitVec.ofInt IntKind.u64.bits (IntKind.u64.wrap (m0_0*2 ^ 13))).toNat) ^^^ BitVec.ofInt IntKind.u64.bits (Int.fdiv (IntKind.u64.wrap (BitVec.ofInt IntKind.u64.bits m0_0 ^^^ BitVec.ofInt IntKind.u64.bits (IntKind.u64.wrap (m0_0*2 ^ 13))).toNat) (2 ^ 7))).toNat)*2 ^ 17))).toNat)))])])
theorem ZhZ {m0_0:Int}:∀r,Zdn=some r→evW ctx 138 [(.ptr 0 0)] [(.cells [(.d (D.int .u64 m0_0))])]=some ((ZfD m0_0) r):=by
 show ZN _ (fun r rhs=>rhs=some ((ZfD m0_0) r)) _
 unfold Zdn
 rw[Zfd ctx 138 Zv3 _ _ rfl rfl]
 conv=>arg 3;whnf
 refine Zan rfl ?_;conv=>arg 3;whnf
 refine Zan rfl ?_;conv=>arg 3;whnf
 refine Zan rfl ?_;conv=>arg 3;whnf
 exact Zd rfl
def ZbD (t0:Bool) (t1:Bool) (t2:Bool) (t3:Bool) (b:Int) (c:Int) (m0_0:(List Int)) (m1_0:Int) (m1_1:Int) (m1_2:(List ZV)) (m1_3:(List Zm)) (m1_4:(List Zi)) (m1_5:(List Zs)):(List Int)→V×Zp
  | r=>((.d (D.tup [])),[(.arr 1 (List.map Zb r)),(.cells [(.d (Zb m1_0)),(.d (Zb m1_1)),(.d (D.list t0 (List.map Z3 m1_2))),(.d (D.list t1 (List.map ZC m1_3))),(.d (D.list t2 (List.map Zq m1_4))),(.d (D.list t3 (List.map Zv m1_5)))])])
def Zbn (t0:Bool) (t1:Bool) (t2:Bool) (t3:Bool) (b:Int) (c:Int) (m1_0:Int) (m1_1:Int) (m1_2:(List ZV)) (m1_3:(List Zm)) (m1_4:(List Zi)) (m1_5:(List Zs)) (x0:Int):(List Int)→Ex×List V×Zp
  | r=>(.exit 0,[],[(.arr 1 (List.map Zb r)),(.cells [(.d (Zb m1_0)),(.d (Zb m1_1)),(.d (D.list t0 (List.map Z3 m1_2))),(.d (D.list t1 (List.map ZC m1_3))),(.d (D.list t2 (List.map Zq m1_4))),(.d (D.list t3 (List.map Zv m1_5)))])])
theorem Zc6 {t0:Bool}{t1:Bool}{t2:Bool}{t3:Bool}{b:Int}{c:Int}{m1_0:Int}{m1_1:Int}{m1_2:(List ZV)}{m1_3:(List Zm)}{m1_4:(List Zi)}{m1_5:(List Zs)}{x0:Int}:∀(s1:Int×(List Int)×Int) (r:(List Int)),lp (ZaG b c x0) s1=some r→lpW ctx 2 [0,1,8,9,10,11] [] Zuj [(.sl 0 1),(.d (Zb b)),(.d (Zb (w64 (c-b)))),(.ptr 2 0),(.d (D.int .u64 x0)),(.d (Zb s1.1))] [(.arr 1 (List.map Zb s1.2.1)),(.cells [(.d (Zb m1_0)),(.d (Zb m1_1)),(.d (D.list t0 (List.map Z3 m1_2))),(.d (D.list t1 (List.map ZC m1_3))),(.d (D.list t2 (List.map Zq m1_4))),(.d (D.list t3 (List.map Zv m1_5)))]),(.cells [(.d (D.int .u64 s1.2.2))])]=some ((Zbn t0 t1 t2 t3 b c m1_0 m1_1 m1_2 m1_3 m1_4 m1_5 x0) r):=by
 refine ZaT (Zbn t0 t1 t2 t3 b c m1_0 m1_1 m1_2 m1_3 m1_4 m1_5 x0) ?_
 intro s1 rcl ih
 show ZN _ _ (lpW _ _ _ _ _ _ _)
 unfold ZaG
 rw[ZaV]
 conv=>arg 3;whnf
 refine Zan rfl ?_;conv=>arg 3;whnf
 refine Ze rfl ?_ ?_<;>conv=>arg 3;whnf
 ·refine Zc _ ZhZ fun x2 hx2=>?_;conv=>arg 3;whnf
  refine Ze rfl ?_ ?_<;>conv=>arg 3;whnf
  ·refine Zl rfl rfl fun x3 hx3=>?_;conv=>arg 3;whnf
   refine Zg (ZA rfl hx3) ?_;conv=>arg 3;whnf
   refine Zl rfl rfl fun x4 hx4=>?_;conv=>arg 3;whnf
   refine Zg (ZA rfl hx4) ?_;conv=>arg 3;whnf
   refine Zg (ZbO rfl hx4) ?_;conv=>arg 3;whnf
   refine Zg (ZA rfl hx4) ?_;conv=>arg 3;whnf
   refine Zn (ZaL Zb s1.2.1 s1.1.toNat x3) ?_;conv=>arg 3;whnf
   refine Zl rfl rfl fun x5 hx5=>?_;conv=>arg 3;whnf
   refine Zg (ZA rfl hx5) ?_;conv=>arg 3;whnf
   refine Zn (ZaL Zb (List.set s1.2.1 s1.1.toNat x3) (w64 (b+(w64 ((w64 (IntKind.u64.wrap (BitVec.ofInt IntKind.u64.bits (IntKind.u64.wrap (BitVec.ofInt IntKind.u64.bits (IntKind.u64.wrap (BitVec.ofInt IntKind.u64.bits (IntKind.u64.wrap (BitVec.ofInt IntKind.u64.bits s1.2.2 ^^^ BitVec.ofInt IntKind.u64.bits (IntKind.u64.wrap (s1.2.2*2 ^ 13))).toNat) ^^^ BitVec.ofInt IntKind.u64.bits (Int.fdiv (IntKind.u64.wrap (BitVec.ofInt IntKind.u64.bits s1.2.2 ^^^ BitVec.ofInt IntKind.u64.bits (IntKind.u64.wrap (s1.2.2*2 ^ 13))).toNat) (2 ^ 7))).toNat) ^^^ BitVec.ofInt IntKind.u64.bits (IntKind.u64.wrap ((IntKind.u64.wrap (BitVec.ofInt IntKind.u64.bits (IntKind.u64.wrap (BitVec.ofInt IntKind.u64.bits s1.2.2 ^^^ BitVec.ofInt IntKind.u64.bits (IntKind.u64.wrap (s1.2.2*2 ^ 13))).toNat) ^^^ BitVec.ofInt IntKind.u64.bits (Int.fdiv (IntKind.u64.wrap (BitVec.ofInt IntKind.u64.bits s1.2.2 ^^^ BitVec.ofInt IntKind.u64.bits (IntKind.u64.wrap (s1.2.2*2 ^ 13))).toNat) (2 ^ 7))).toNat)*2 ^ 17))).toNat) &&& BitVec.ofInt IntKind.u64.bits (IntKind.u64.wrap (x0-1))).toNat))-(w64 (c-b)))))).toNat x4) ?_;conv=>arg 3;whnf
   exact Zf (ih _)
  ·refine Zl rfl rfl fun x6 hx6=>?_;conv=>arg 3;whnf
   refine Zg (ZA rfl hx6) ?_;conv=>arg 3;whnf
   refine Zl rfl rfl fun x7 hx7=>?_;conv=>arg 3;whnf
   refine Zg (ZA rfl hx7) ?_;conv=>arg 3;whnf
   refine Zg (ZbO rfl hx7) ?_;conv=>arg 3;whnf
   refine Zg (ZA rfl hx7) ?_;conv=>arg 3;whnf
   refine Zn (ZaL Zb s1.2.1 s1.1.toNat x6) ?_;conv=>arg 3;whnf
   refine Zl rfl rfl fun x8 hx8=>?_;conv=>arg 3;whnf
   refine Zg (ZA rfl hx8) ?_;conv=>arg 3;whnf
   refine Zn (ZaL Zb (List.set s1.2.1 s1.1.toNat x6) (w64 (b+(w64 (IntKind.u64.wrap (BitVec.ofInt IntKind.u64.bits (IntKind.u64.wrap (BitVec.ofInt IntKind.u64.bits (IntKind.u64.wrap (BitVec.ofInt IntKind.u64.bits (IntKind.u64.wrap (BitVec.ofInt IntKind.u64.bits s1.2.2 ^^^ BitVec.ofInt IntKind.u64.bits (IntKind.u64.wrap (s1.2.2*2 ^ 13))).toNat) ^^^ BitVec.ofInt IntKind.u64.bits (Int.fdiv (IntKind.u64.wrap (BitVec.ofInt IntKind.u64.bits s1.2.2 ^^^ BitVec.ofInt IntKind.u64.bits (IntKind.u64.wrap (s1.2.2*2 ^ 13))).toNat) (2 ^ 7))).toNat) ^^^ BitVec.ofInt IntKind.u64.bits (IntKind.u64.wrap ((IntKind.u64.wrap (BitVec.ofInt IntKind.u64.bits (IntKind.u64.wrap (BitVec.ofInt IntKind.u64.bits s1.2.2 ^^^ BitVec.ofInt IntKind.u64.bits (IntKind.u64.wrap (s1.2.2*2 ^ 13))).toNat) ^^^ BitVec.ofInt IntKind.u64.bits (Int.fdiv (IntKind.u64.wrap (BitVec.ofInt IntKind.u64.bits s1.2.2 ^^^ BitVec.ofInt IntKind.u64.bits (IntKind.u64.wrap (s1.2.2*2 ^ 13))).toNat) (2 ^ 7))).toNat)*2 ^ 17))).toNat) &&& BitVec.ofInt IntKind.u64.bits (IntKind.u64.wrap (x0-1))).toNat)))).toNat x7) ?_;conv=>arg 3;whnf
   exact Zf (ih _)
 ·exact Zd rfl
theorem ZbB {t0:Bool}{t1:Bool}{t2:Bool}{t3:Bool}{b:Int}{c:Int}{m0_0:(List Int)}{m1_0:Int}{m1_1:Int}{m1_2:(List ZV)}{m1_3:(List Zm)}{m1_4:(List Zi)}{m1_5:(List Zs)}:∀r,(Zae b c (fun z0 z1=>Zt z0 z1 m1_4) m0_0)=some r→evW ctx 128 [(.sl 0 1),(.d (Zb b)),(.d (Zb c)),(.fn 118 [(.ptr 1 0)])] [(.arr 1 (List.map Zb m0_0)),(.cells [(.d (Zb m1_0)),(.d (Zb m1_1)),(.d (D.list t0 (List.map Z3 m1_2))),(.d (D.list t1 (List.map ZC m1_3))),(.d (D.list t2 (List.map Zq m1_4))),(.d (D.list t3 (List.map Zv m1_5)))])]=some ((ZbD t0 t1 t2 t3 b c m0_0 m1_0 m1_1 m1_2 m1_3 m1_4 m1_5) r):=by
 show ZN _ (fun r rhs=>rhs=some ((ZbD t0 t1 t2 t3 b c m0_0 m1_0 m1_1 m1_2 m1_3 m1_4 m1_5) r)) _
 unfold Zae
 rw[Zfd ctx 128 ZwI _ _ rfl rfl]
 conv=>arg 3;whnf
 refine Ze rfl ?_ ?_<;>conv=>arg 3;whnf
 ·refine Zo _ ZhG rfl fun x0 hx0=>?_;conv=>arg 3;whnf
  refine Zan rfl ?_;conv=>arg 3;whnf
  refine Zc _ (Zc6 _) fun r9 hr9=>?_;conv=>arg 3;whnf
  exact Zd rfl
 ·exact Zd rfl
def Za (t0:Bool) (t1:Bool) (t2:Bool) (t3:Bool) (b:Int) (c:Int) (d:Int) (m0_0:(List Int)) (m1_0:Int) (m1_1:Int) (m1_2:(List ZV)) (m1_3:(List Zm)) (m1_4:(List Zi)) (m1_5:(List Zs)):(List Int)→V×Zp
  | r=>((.d (D.tup [])),[(.arr 1 (List.map Zb r)),(.cells [(.d (Zb m1_0)),(.d (Zb m1_1)),(.d (D.list t0 (List.map Z3 m1_2))),(.d (D.list t1 (List.map ZC m1_3))),(.d (D.list t2 (List.map Zq m1_4))),(.d (D.list t3 (List.map Zv m1_5)))])])
def Zb2 (t0:Bool) (t1:Bool) (t2:Bool) (t3:Bool) (m1_0:Int) (m1_1:Int) (m1_2:(List ZV)) (m1_3:(List Zm)) (m1_4:(List Zi)) (m1_5:(List Zs)) (rc:Int→Int→Int→(Int→Int→Option Int)→(List Int)→Option (List Int)):(List Int)→Ex×List V×Zp
  | r=>(.ret,[],[(.arr 1 (List.map Zb r)),(.cells [(.d (Zb m1_0)),(.d (Zb m1_1)),(.d (D.list t0 (List.map Z3 m1_2))),(.d (D.list t1 (List.map ZC m1_3))),(.d (D.list t2 (List.map Zq m1_4))),(.d (D.list t3 (List.map Zv m1_5)))])])
theorem ZdV {t0:Bool}{t1:Bool}{t2:Bool}{t3:Bool}{m1_0:Int}{m1_1:Int}{m1_2:(List ZV)}{m1_3:(List Zm)}{m1_4:(List Zi)}{m1_5:(List Zs)}{rc:Int→Int→Int→(Int→Int→Option Int)→(List Int)→Option (List Int)} (hrc:∀(t0:Bool) (t1:Bool) (t2:Bool) (t3:Bool) (b:Int) (c:Int) (d:Int) (m0_0:(List Int)) (m1_0:Int) (m1_1:Int) (m1_2:(List ZV)) (m1_3:(List Zm)) (m1_4:(List Zi)) (m1_5:(List Zs)) (r:(List Int)),rc b c d (fun z0 z1=>Zt z0 z1 m1_4) m0_0=some r→evW ctx 124 [(.sl 0 1),(.d (Zb b)),(.d (Zb c)),(.d (Zb d)),(.fn 118 [(.ptr 1 0)])] [(.arr 1 (List.map Zb m0_0)),(.cells [(.d (Zb m1_0)),(.d (Zb m1_1)),(.d (D.list t0 (List.map Z3 m1_2))),(.d (D.list t1 (List.map ZC m1_3))),(.d (D.list t2 (List.map Zq m1_4))),(.d (D.list t3 (List.map Zv m1_5)))])]=some ((Za t0 t1 t2 t3 b c d m0_0 m1_0 m1_1 m1_2 m1_3 m1_4 m1_5) r)):∀(s0:Int×Int×Int×Bool×Bool×(List Int)) (r:(List Int)),lp (ZR (fun z0 z1=>Zt z0 z1 m1_4) rc) s0=some r→lpW ctx 2 [0,1,2,3,4,10,11] [] Zt9 [(.sl 0 1),(.d (Zb s0.1)),(.d (Zb s0.2.1)),(.d (Zb s0.2.2.1)),(.fn 118 [(.ptr 1 0)]),(.d (D.bool s0.2.2.2.1)),(.d (D.bool s0.2.2.2.2.1))] [(.arr 1 (List.map Zb s0.2.2.2.2.2)),(.cells [(.d (Zb m1_0)),(.d (Zb m1_1)),(.d (D.list t0 (List.map Z3 m1_2))),(.d (D.list t1 (List.map ZC m1_3))),(.d (D.list t2 (List.map Zq m1_4))),(.d (D.list t3 (List.map Zv m1_5)))])]=some ((Zb2 t0 t1 t2 t3 m1_0 m1_1 m1_2 m1_3 m1_4 m1_5 rc) r):=by
 refine ZaT (Zb2 t0 t1 t2 t3 m1_0 m1_1 m1_2 m1_3 m1_4 m1_5 rc) ?_
 intro s0 rcl ih
 show ZN _ _ (lpW _ _ _ _ _ _ _)
 unfold ZR
 rw[ZaV]
 rcases hb:s0.2.2.2.1 with _ | _
 ·refine Zto ?_
  rcases hb:s0.2.2.2.2.1 with _ | _
  ·refine Zto ?_;conv=>arg 3;whnf
   refine Ze rfl ?_ ?_<;>conv=>arg 3;whnf
   ·refine Zc _ Zaa fun x170 hx170=>?_;conv=>arg 3;whnf
    exact Zd rfl
   ·refine Ze rfl ?_ ?_<;>conv=>arg 3;whnf
    ·refine Zc _ Zas fun x171 hx171=>?_;conv=>arg 3;whnf
     exact Zd rfl
    ·refine Zc _ ZbB fun x172 hx172=>?_;conv=>arg 3;whnf
     refine Zc _ Zaj fun x173 hx173=>?_;conv=>arg 3;whnf
     refine Ze rfl ?_ ?_<;>conv=>arg 3;whnf
     ·refine Zc _ Zai fun x174 hx174=>?_;conv=>arg 3;whnf
      refine Ze rfl ?_ ?_<;>conv=>arg 3;whnf
      ·refine Zl rfl rfl fun x175 hx175=>?_;conv=>arg 3;whnf
       refine Zg (ZA rfl hx175) ?_;conv=>arg 3;whnf
       refine Zl rfl rfl fun x176 hx176=>?_;conv=>arg 3;whnf
       refine Zg (ZA rfl hx176) ?_;conv=>arg 3;whnf
       refine Zo _ ZF rfl fun x177 hx177=>?_;conv=>arg 3;whnf
       refine Ze rfl ?_ ?_<;>conv=>arg 3;whnf
       ·refine Zc _ Zk fun x178 hx178=>?_
        clear hx178
        rcases x178 with x178 | x178
        ·conv=>arg 3;whnf
         refine Zbe rfl ?_;conv=>arg 3;whnf
         refine Zan rfl ?_;conv=>arg 3;whnf
         refine Ze rfl ?_ ?_<;>conv=>arg 3;whnf
         ·refine Ze rfl ?_ ?_<;>conv=>arg 3;whnf
          ·refine Zc (Za t0 t1 t2 t3 s0.1 x178.1 (w64 (s0.2.2.1-1)) x178.2 m1_0 m1_1 m1_2 m1_3 m1_4 m1_5) (hrc t0 t1 t2 t3 s0.1 x178.1 (w64 (s0.2.2.1-1)) x178.2 m1_0 m1_1 m1_2 m1_3 m1_4 m1_5) fun x179 hx179=>?_;conv=>arg 3;whnf
           exact Zf (ih _)
          ·refine Zc (Za t0 t1 t2 t3 s0.1 x178.1 (w64 (s0.2.2.1-1)) x178.2 m1_0 m1_1 m1_2 m1_3 m1_4 m1_5) (hrc t0 t1 t2 t3 s0.1 x178.1 (w64 (s0.2.2.1-1)) x178.2 m1_0 m1_1 m1_2 m1_3 m1_4 m1_5) fun x180 hx180=>?_;conv=>arg 3;whnf
           exact Zf (ih _)
         ·refine Ze rfl ?_ ?_<;>conv=>arg 3;whnf
          ·refine Zc (Za t0 t1 t2 t3 (w64 (x178.1+1)) s0.2.1 (w64 (s0.2.2.1-1)) x178.2 m1_0 m1_1 m1_2 m1_3 m1_4 m1_5) (hrc t0 t1 t2 t3 (w64 (x178.1+1)) s0.2.1 (w64 (s0.2.2.1-1)) x178.2 m1_0 m1_1 m1_2 m1_3 m1_4 m1_5) fun x181 hx181=>?_;conv=>arg 3;whnf
           exact Zf (ih _)
          ·refine Zc (Za t0 t1 t2 t3 (w64 (x178.1+1)) s0.2.1 (w64 (s0.2.2.1-1)) x178.2 m1_0 m1_1 m1_2 m1_3 m1_4 m1_5) (hrc t0 t1 t2 t3 (w64 (x178.1+1)) s0.2.1 (w64 (s0.2.2.1-1)) x178.2 m1_0 m1_1 m1_2 m1_3 m1_4 m1_5) fun x182 hx182=>?_;conv=>arg 3;whnf
           exact Zf (ih _)
        ·conv=>arg 3;whnf
         refine Zan rfl ?_;conv=>arg 3;whnf
         refine Zan rfl ?_;conv=>arg 3;whnf
         refine Ze rfl ?_ ?_<;>conv=>arg 3;whnf
         ·refine Ze rfl ?_ ?_<;>conv=>arg 3;whnf
          ·refine Zc (Za t0 t1 t2 t3 s0.1 x178.1 (w64 (s0.2.2.1-1)) x178.2 m1_0 m1_1 m1_2 m1_3 m1_4 m1_5) (hrc t0 t1 t2 t3 s0.1 x178.1 (w64 (s0.2.2.1-1)) x178.2 m1_0 m1_1 m1_2 m1_3 m1_4 m1_5) fun x183 hx183=>?_;conv=>arg 3;whnf
           exact Zf (ih _)
          ·refine Zc (Za t0 t1 t2 t3 s0.1 x178.1 (w64 (s0.2.2.1-1)) x178.2 m1_0 m1_1 m1_2 m1_3 m1_4 m1_5) (hrc t0 t1 t2 t3 s0.1 x178.1 (w64 (s0.2.2.1-1)) x178.2 m1_0 m1_1 m1_2 m1_3 m1_4 m1_5) fun x184 hx184=>?_;conv=>arg 3;whnf
           exact Zf (ih _)
         ·refine Ze rfl ?_ ?_<;>conv=>arg 3;whnf
          ·refine Zc (Za t0 t1 t2 t3 (w64 (x178.1+1)) s0.2.1 (w64 (s0.2.2.1-1)) x178.2 m1_0 m1_1 m1_2 m1_3 m1_4 m1_5) (hrc t0 t1 t2 t3 (w64 (x178.1+1)) s0.2.1 (w64 (s0.2.2.1-1)) x178.2 m1_0 m1_1 m1_2 m1_3 m1_4 m1_5) fun x185 hx185=>?_;conv=>arg 3;whnf
           exact Zf (ih _)
          ·refine Zc (Za t0 t1 t2 t3 (w64 (x178.1+1)) s0.2.1 (w64 (s0.2.2.1-1)) x178.2 m1_0 m1_1 m1_2 m1_3 m1_4 m1_5) (hrc t0 t1 t2 t3 (w64 (x178.1+1)) s0.2.1 (w64 (s0.2.2.1-1)) x178.2 m1_0 m1_1 m1_2 m1_3 m1_4 m1_5) fun x186 hx186=>?_;conv=>arg 3;whnf
           exact Zf (ih _)
       ·refine Zc _ Zz fun x187 hx187=>?_;conv=>arg 3;whnf
        exact Zf (ih _)
      ·refine Zc _ Zk fun x188 hx188=>?_
       clear hx188
       rcases x188 with x188 | x188
       ·conv=>arg 3;whnf
        refine Zbe rfl ?_;conv=>arg 3;whnf
        refine Zan rfl ?_;conv=>arg 3;whnf
        refine Ze rfl ?_ ?_<;>conv=>arg 3;whnf
        ·refine Ze rfl ?_ ?_<;>conv=>arg 3;whnf
         ·refine Zc (Za t0 t1 t2 t3 s0.1 x188.1 (w64 (s0.2.2.1-1)) x188.2 m1_0 m1_1 m1_2 m1_3 m1_4 m1_5) (hrc t0 t1 t2 t3 s0.1 x188.1 (w64 (s0.2.2.1-1)) x188.2 m1_0 m1_1 m1_2 m1_3 m1_4 m1_5) fun x189 hx189=>?_;conv=>arg 3;whnf
          exact Zf (ih _)
         ·refine Zc (Za t0 t1 t2 t3 s0.1 x188.1 (w64 (s0.2.2.1-1)) x188.2 m1_0 m1_1 m1_2 m1_3 m1_4 m1_5) (hrc t0 t1 t2 t3 s0.1 x188.1 (w64 (s0.2.2.1-1)) x188.2 m1_0 m1_1 m1_2 m1_3 m1_4 m1_5) fun x190 hx190=>?_;conv=>arg 3;whnf
          exact Zf (ih _)
        ·refine Ze rfl ?_ ?_<;>conv=>arg 3;whnf
         ·refine Zc (Za t0 t1 t2 t3 (w64 (x188.1+1)) s0.2.1 (w64 (s0.2.2.1-1)) x188.2 m1_0 m1_1 m1_2 m1_3 m1_4 m1_5) (hrc t0 t1 t2 t3 (w64 (x188.1+1)) s0.2.1 (w64 (s0.2.2.1-1)) x188.2 m1_0 m1_1 m1_2 m1_3 m1_4 m1_5) fun x191 hx191=>?_;conv=>arg 3;whnf
          exact Zf (ih _)
         ·refine Zc (Za t0 t1 t2 t3 (w64 (x188.1+1)) s0.2.1 (w64 (s0.2.2.1-1)) x188.2 m1_0 m1_1 m1_2 m1_3 m1_4 m1_5) (hrc t0 t1 t2 t3 (w64 (x188.1+1)) s0.2.1 (w64 (s0.2.2.1-1)) x188.2 m1_0 m1_1 m1_2 m1_3 m1_4 m1_5) fun x192 hx192=>?_;conv=>arg 3;whnf
          exact Zf (ih _)
       ·conv=>arg 3;whnf
        refine Zan rfl ?_;conv=>arg 3;whnf
        refine Zan rfl ?_;conv=>arg 3;whnf
        refine Ze rfl ?_ ?_<;>conv=>arg 3;whnf
        ·refine Ze rfl ?_ ?_<;>conv=>arg 3;whnf
         ·refine Zc (Za t0 t1 t2 t3 s0.1 x188.1 (w64 (s0.2.2.1-1)) x188.2 m1_0 m1_1 m1_2 m1_3 m1_4 m1_5) (hrc t0 t1 t2 t3 s0.1 x188.1 (w64 (s0.2.2.1-1)) x188.2 m1_0 m1_1 m1_2 m1_3 m1_4 m1_5) fun x193 hx193=>?_;conv=>arg 3;whnf
          exact Zf (ih _)
         ·refine Zc (Za t0 t1 t2 t3 s0.1 x188.1 (w64 (s0.2.2.1-1)) x188.2 m1_0 m1_1 m1_2 m1_3 m1_4 m1_5) (hrc t0 t1 t2 t3 s0.1 x188.1 (w64 (s0.2.2.1-1)) x188.2 m1_0 m1_1 m1_2 m1_3 m1_4 m1_5) fun x194 hx194=>?_;conv=>arg 3;whnf
          exact Zf (ih _)
        ·refine Ze rfl ?_ ?_<;>conv=>arg 3;whnf
         ·refine Zc (Za t0 t1 t2 t3 (w64 (x188.1+1)) s0.2.1 (w64 (s0.2.2.1-1)) x188.2 m1_0 m1_1 m1_2 m1_3 m1_4 m1_5) (hrc t0 t1 t2 t3 (w64 (x188.1+1)) s0.2.1 (w64 (s0.2.2.1-1)) x188.2 m1_0 m1_1 m1_2 m1_3 m1_4 m1_5) fun x195 hx195=>?_;conv=>arg 3;whnf
          exact Zf (ih _)
         ·refine Zc (Za t0 t1 t2 t3 (w64 (x188.1+1)) s0.2.1 (w64 (s0.2.2.1-1)) x188.2 m1_0 m1_1 m1_2 m1_3 m1_4 m1_5) (hrc t0 t1 t2 t3 (w64 (x188.1+1)) s0.2.1 (w64 (s0.2.2.1-1)) x188.2 m1_0 m1_1 m1_2 m1_3 m1_4 m1_5) fun x196 hx196=>?_;conv=>arg 3;whnf
          exact Zf (ih _)
     ·refine Ze rfl ?_ ?_<;>conv=>arg 3;whnf
      ·refine Zl rfl rfl fun x197 hx197=>?_;conv=>arg 3;whnf
       refine Zg (ZA rfl hx197) ?_;conv=>arg 3;whnf
       refine Zl rfl rfl fun x198 hx198=>?_;conv=>arg 3;whnf
       refine Zg (ZA rfl hx198) ?_;conv=>arg 3;whnf
       refine Zo _ ZF rfl fun x199 hx199=>?_;conv=>arg 3;whnf
       refine Ze rfl ?_ ?_<;>conv=>arg 3;whnf
       ·refine Zc _ Zk fun x200 hx200=>?_
        clear hx200
        rcases x200 with x200 | x200
        ·conv=>arg 3;whnf
         refine Zbe rfl ?_;conv=>arg 3;whnf
         refine Zan rfl ?_;conv=>arg 3;whnf
         refine Ze rfl ?_ ?_<;>conv=>arg 3;whnf
         ·refine Ze rfl ?_ ?_<;>conv=>arg 3;whnf
          ·refine Zc (Za t0 t1 t2 t3 s0.1 x200.1 (w64 (s0.2.2.1-1)) x200.2 m1_0 m1_1 m1_2 m1_3 m1_4 m1_5) (hrc t0 t1 t2 t3 s0.1 x200.1 (w64 (s0.2.2.1-1)) x200.2 m1_0 m1_1 m1_2 m1_3 m1_4 m1_5) fun x201 hx201=>?_;conv=>arg 3;whnf
           exact Zf (ih _)
          ·refine Zc (Za t0 t1 t2 t3 s0.1 x200.1 (w64 (s0.2.2.1-1)) x200.2 m1_0 m1_1 m1_2 m1_3 m1_4 m1_5) (hrc t0 t1 t2 t3 s0.1 x200.1 (w64 (s0.2.2.1-1)) x200.2 m1_0 m1_1 m1_2 m1_3 m1_4 m1_5) fun x202 hx202=>?_;conv=>arg 3;whnf
           exact Zf (ih _)
         ·refine Ze rfl ?_ ?_<;>conv=>arg 3;whnf
          ·refine Zc (Za t0 t1 t2 t3 (w64 (x200.1+1)) s0.2.1 (w64 (s0.2.2.1-1)) x200.2 m1_0 m1_1 m1_2 m1_3 m1_4 m1_5) (hrc t0 t1 t2 t3 (w64 (x200.1+1)) s0.2.1 (w64 (s0.2.2.1-1)) x200.2 m1_0 m1_1 m1_2 m1_3 m1_4 m1_5) fun x203 hx203=>?_;conv=>arg 3;whnf
           exact Zf (ih _)
          ·refine Zc (Za t0 t1 t2 t3 (w64 (x200.1+1)) s0.2.1 (w64 (s0.2.2.1-1)) x200.2 m1_0 m1_1 m1_2 m1_3 m1_4 m1_5) (hrc t0 t1 t2 t3 (w64 (x200.1+1)) s0.2.1 (w64 (s0.2.2.1-1)) x200.2 m1_0 m1_1 m1_2 m1_3 m1_4 m1_5) fun x204 hx204=>?_;conv=>arg 3;whnf
           exact Zf (ih _)
        ·conv=>arg 3;whnf
         refine Zan rfl ?_;conv=>arg 3;whnf
         refine Zan rfl ?_;conv=>arg 3;whnf
         refine Ze rfl ?_ ?_<;>conv=>arg 3;whnf
         ·refine Ze rfl ?_ ?_<;>conv=>arg 3;whnf
          ·refine Zc (Za t0 t1 t2 t3 s0.1 x200.1 (w64 (s0.2.2.1-1)) x200.2 m1_0 m1_1 m1_2 m1_3 m1_4 m1_5) (hrc t0 t1 t2 t3 s0.1 x200.1 (w64 (s0.2.2.1-1)) x200.2 m1_0 m1_1 m1_2 m1_3 m1_4 m1_5) fun x205 hx205=>?_;conv=>arg 3;whnf
           exact Zf (ih _)
          ·refine Zc (Za t0 t1 t2 t3 s0.1 x200.1 (w64 (s0.2.2.1-1)) x200.2 m1_0 m1_1 m1_2 m1_3 m1_4 m1_5) (hrc t0 t1 t2 t3 s0.1 x200.1 (w64 (s0.2.2.1-1)) x200.2 m1_0 m1_1 m1_2 m1_3 m1_4 m1_5) fun x206 hx206=>?_;conv=>arg 3;whnf
           exact Zf (ih _)
         ·refine Ze rfl ?_ ?_<;>conv=>arg 3;whnf
          ·refine Zc (Za t0 t1 t2 t3 (w64 (x200.1+1)) s0.2.1 (w64 (s0.2.2.1-1)) x200.2 m1_0 m1_1 m1_2 m1_3 m1_4 m1_5) (hrc t0 t1 t2 t3 (w64 (x200.1+1)) s0.2.1 (w64 (s0.2.2.1-1)) x200.2 m1_0 m1_1 m1_2 m1_3 m1_4 m1_5) fun x207 hx207=>?_;conv=>arg 3;whnf
           exact Zf (ih _)
          ·refine Zc (Za t0 t1 t2 t3 (w64 (x200.1+1)) s0.2.1 (w64 (s0.2.2.1-1)) x200.2 m1_0 m1_1 m1_2 m1_3 m1_4 m1_5) (hrc t0 t1 t2 t3 (w64 (x200.1+1)) s0.2.1 (w64 (s0.2.2.1-1)) x200.2 m1_0 m1_1 m1_2 m1_3 m1_4 m1_5) fun x208 hx208=>?_;conv=>arg 3;whnf
           exact Zf (ih _)
       ·refine Zc _ Zz fun x209 hx209=>?_;conv=>arg 3;whnf
        exact Zf (ih _)
      ·refine Zc _ Zk fun x210 hx210=>?_
       clear hx210
       rcases x210 with x210 | x210
       ·conv=>arg 3;whnf
        refine Zbe rfl ?_;conv=>arg 3;whnf
        refine Zan rfl ?_;conv=>arg 3;whnf
        refine Ze rfl ?_ ?_<;>conv=>arg 3;whnf
        ·refine Ze rfl ?_ ?_<;>conv=>arg 3;whnf
         ·refine Zc (Za t0 t1 t2 t3 s0.1 x210.1 (w64 (s0.2.2.1-1)) x210.2 m1_0 m1_1 m1_2 m1_3 m1_4 m1_5) (hrc t0 t1 t2 t3 s0.1 x210.1 (w64 (s0.2.2.1-1)) x210.2 m1_0 m1_1 m1_2 m1_3 m1_4 m1_5) fun x211 hx211=>?_;conv=>arg 3;whnf
          exact Zf (ih _)
         ·refine Zc (Za t0 t1 t2 t3 s0.1 x210.1 (w64 (s0.2.2.1-1)) x210.2 m1_0 m1_1 m1_2 m1_3 m1_4 m1_5) (hrc t0 t1 t2 t3 s0.1 x210.1 (w64 (s0.2.2.1-1)) x210.2 m1_0 m1_1 m1_2 m1_3 m1_4 m1_5) fun x212 hx212=>?_;conv=>arg 3;whnf
          exact Zf (ih _)
        ·refine Ze rfl ?_ ?_<;>conv=>arg 3;whnf
         ·refine Zc (Za t0 t1 t2 t3 (w64 (x210.1+1)) s0.2.1 (w64 (s0.2.2.1-1)) x210.2 m1_0 m1_1 m1_2 m1_3 m1_4 m1_5) (hrc t0 t1 t2 t3 (w64 (x210.1+1)) s0.2.1 (w64 (s0.2.2.1-1)) x210.2 m1_0 m1_1 m1_2 m1_3 m1_4 m1_5) fun x213 hx213=>?_;conv=>arg 3;whnf
          exact Zf (ih _)
         ·refine Zc (Za t0 t1 t2 t3 (w64 (x210.1+1)) s0.2.1 (w64 (s0.2.2.1-1)) x210.2 m1_0 m1_1 m1_2 m1_3 m1_4 m1_5) (hrc t0 t1 t2 t3 (w64 (x210.1+1)) s0.2.1 (w64 (s0.2.2.1-1)) x210.2 m1_0 m1_1 m1_2 m1_3 m1_4 m1_5) fun x214 hx214=>?_;conv=>arg 3;whnf
          exact Zf (ih _)
       ·conv=>arg 3;whnf
        refine Zan rfl ?_;conv=>arg 3;whnf
        refine Zan rfl ?_;conv=>arg 3;whnf
        refine Ze rfl ?_ ?_<;>conv=>arg 3;whnf
        ·refine Ze rfl ?_ ?_<;>conv=>arg 3;whnf
         ·refine Zc (Za t0 t1 t2 t3 s0.1 x210.1 (w64 (s0.2.2.1-1)) x210.2 m1_0 m1_1 m1_2 m1_3 m1_4 m1_5) (hrc t0 t1 t2 t3 s0.1 x210.1 (w64 (s0.2.2.1-1)) x210.2 m1_0 m1_1 m1_2 m1_3 m1_4 m1_5) fun x215 hx215=>?_;conv=>arg 3;whnf
          exact Zf (ih _)
         ·refine Zc (Za t0 t1 t2 t3 s0.1 x210.1 (w64 (s0.2.2.1-1)) x210.2 m1_0 m1_1 m1_2 m1_3 m1_4 m1_5) (hrc t0 t1 t2 t3 s0.1 x210.1 (w64 (s0.2.2.1-1)) x210.2 m1_0 m1_1 m1_2 m1_3 m1_4 m1_5) fun x216 hx216=>?_;conv=>arg 3;whnf
          exact Zf (ih _)
        ·refine Ze rfl ?_ ?_<;>conv=>arg 3;whnf
         ·refine Zc (Za t0 t1 t2 t3 (w64 (x210.1+1)) s0.2.1 (w64 (s0.2.2.1-1)) x210.2 m1_0 m1_1 m1_2 m1_3 m1_4 m1_5) (hrc t0 t1 t2 t3 (w64 (x210.1+1)) s0.2.1 (w64 (s0.2.2.1-1)) x210.2 m1_0 m1_1 m1_2 m1_3 m1_4 m1_5) fun x217 hx217=>?_;conv=>arg 3;whnf
          exact Zf (ih _)
         ·refine Zc (Za t0 t1 t2 t3 (w64 (x210.1+1)) s0.2.1 (w64 (s0.2.2.1-1)) x210.2 m1_0 m1_1 m1_2 m1_3 m1_4 m1_5) (hrc t0 t1 t2 t3 (w64 (x210.1+1)) s0.2.1 (w64 (s0.2.2.1-1)) x210.2 m1_0 m1_1 m1_2 m1_3 m1_4 m1_5) fun x218 hx218=>?_;conv=>arg 3;whnf
          exact Zf (ih _)
  ·refine ZsL ?_;conv=>arg 3;whnf
   refine Ze rfl ?_ ?_<;>conv=>arg 3;whnf
   ·refine Zc _ Zaa fun x121 hx121=>?_;conv=>arg 3;whnf
    exact Zd rfl
   ·refine Ze rfl ?_ ?_<;>conv=>arg 3;whnf
    ·refine Zc _ Zas fun x122 hx122=>?_;conv=>arg 3;whnf
     exact Zd rfl
    ·refine Zc _ ZbB fun x123 hx123=>?_;conv=>arg 3;whnf
     refine Zc _ Zaj fun x124 hx124=>?_;conv=>arg 3;whnf
     refine Ze rfl ?_ ?_<;>conv=>arg 3;whnf
     ·refine Zc _ Zai fun x125 hx125=>?_;conv=>arg 3;whnf
      refine Ze rfl ?_ ?_<;>conv=>arg 3;whnf
      ·refine Zl rfl rfl fun x126 hx126=>?_;conv=>arg 3;whnf
       refine Zg (ZA rfl hx126) ?_;conv=>arg 3;whnf
       refine Zl rfl rfl fun x127 hx127=>?_;conv=>arg 3;whnf
       refine Zg (ZA rfl hx127) ?_;conv=>arg 3;whnf
       refine Zo _ ZF rfl fun x128 hx128=>?_;conv=>arg 3;whnf
       refine Ze rfl ?_ ?_<;>conv=>arg 3;whnf
       ·refine Zc _ Zk fun x129 hx129=>?_
        clear hx129
        rcases x129 with x129 | x129
        ·conv=>arg 3;whnf
         refine Zbe rfl ?_;conv=>arg 3;whnf
         refine Zan rfl ?_;conv=>arg 3;whnf
         refine Ze rfl ?_ ?_<;>conv=>arg 3;whnf
         ·refine Ze rfl ?_ ?_<;>conv=>arg 3;whnf
          ·refine Zc (Za t0 t1 t2 t3 s0.1 x129.1 (w64 (s0.2.2.1-1)) x129.2 m1_0 m1_1 m1_2 m1_3 m1_4 m1_5) (hrc t0 t1 t2 t3 s0.1 x129.1 (w64 (s0.2.2.1-1)) x129.2 m1_0 m1_1 m1_2 m1_3 m1_4 m1_5) fun x130 hx130=>?_;conv=>arg 3;whnf
           exact Zf (ih _)
          ·refine Zc (Za t0 t1 t2 t3 s0.1 x129.1 (w64 (s0.2.2.1-1)) x129.2 m1_0 m1_1 m1_2 m1_3 m1_4 m1_5) (hrc t0 t1 t2 t3 s0.1 x129.1 (w64 (s0.2.2.1-1)) x129.2 m1_0 m1_1 m1_2 m1_3 m1_4 m1_5) fun x131 hx131=>?_;conv=>arg 3;whnf
           exact Zf (ih _)
         ·refine Ze rfl ?_ ?_<;>conv=>arg 3;whnf
          ·refine Zc (Za t0 t1 t2 t3 (w64 (x129.1+1)) s0.2.1 (w64 (s0.2.2.1-1)) x129.2 m1_0 m1_1 m1_2 m1_3 m1_4 m1_5) (hrc t0 t1 t2 t3 (w64 (x129.1+1)) s0.2.1 (w64 (s0.2.2.1-1)) x129.2 m1_0 m1_1 m1_2 m1_3 m1_4 m1_5) fun x132 hx132=>?_;conv=>arg 3;whnf
           exact Zf (ih _)
          ·refine Zc (Za t0 t1 t2 t3 (w64 (x129.1+1)) s0.2.1 (w64 (s0.2.2.1-1)) x129.2 m1_0 m1_1 m1_2 m1_3 m1_4 m1_5) (hrc t0 t1 t2 t3 (w64 (x129.1+1)) s0.2.1 (w64 (s0.2.2.1-1)) x129.2 m1_0 m1_1 m1_2 m1_3 m1_4 m1_5) fun x133 hx133=>?_;conv=>arg 3;whnf
           exact Zf (ih _)
        ·conv=>arg 3;whnf
         refine Zan rfl ?_;conv=>arg 3;whnf
         refine Zan rfl ?_;conv=>arg 3;whnf
         refine Ze rfl ?_ ?_<;>conv=>arg 3;whnf
         ·refine Ze rfl ?_ ?_<;>conv=>arg 3;whnf
          ·refine Zc (Za t0 t1 t2 t3 s0.1 x129.1 (w64 (s0.2.2.1-1)) x129.2 m1_0 m1_1 m1_2 m1_3 m1_4 m1_5) (hrc t0 t1 t2 t3 s0.1 x129.1 (w64 (s0.2.2.1-1)) x129.2 m1_0 m1_1 m1_2 m1_3 m1_4 m1_5) fun x134 hx134=>?_;conv=>arg 3;whnf
           exact Zf (ih _)
          ·refine Zc (Za t0 t1 t2 t3 s0.1 x129.1 (w64 (s0.2.2.1-1)) x129.2 m1_0 m1_1 m1_2 m1_3 m1_4 m1_5) (hrc t0 t1 t2 t3 s0.1 x129.1 (w64 (s0.2.2.1-1)) x129.2 m1_0 m1_1 m1_2 m1_3 m1_4 m1_5) fun x135 hx135=>?_;conv=>arg 3;whnf
           exact Zf (ih _)
         ·refine Ze rfl ?_ ?_<;>conv=>arg 3;whnf
          ·refine Zc (Za t0 t1 t2 t3 (w64 (x129.1+1)) s0.2.1 (w64 (s0.2.2.1-1)) x129.2 m1_0 m1_1 m1_2 m1_3 m1_4 m1_5) (hrc t0 t1 t2 t3 (w64 (x129.1+1)) s0.2.1 (w64 (s0.2.2.1-1)) x129.2 m1_0 m1_1 m1_2 m1_3 m1_4 m1_5) fun x136 hx136=>?_;conv=>arg 3;whnf
           exact Zf (ih _)
          ·refine Zc (Za t0 t1 t2 t3 (w64 (x129.1+1)) s0.2.1 (w64 (s0.2.2.1-1)) x129.2 m1_0 m1_1 m1_2 m1_3 m1_4 m1_5) (hrc t0 t1 t2 t3 (w64 (x129.1+1)) s0.2.1 (w64 (s0.2.2.1-1)) x129.2 m1_0 m1_1 m1_2 m1_3 m1_4 m1_5) fun x137 hx137=>?_;conv=>arg 3;whnf
           exact Zf (ih _)
       ·refine Zc _ Zz fun x138 hx138=>?_;conv=>arg 3;whnf
        exact Zf (ih _)
      ·refine Zc _ Zk fun x139 hx139=>?_
       clear hx139
       rcases x139 with x139 | x139
       ·conv=>arg 3;whnf
        refine Zbe rfl ?_;conv=>arg 3;whnf
        refine Zan rfl ?_;conv=>arg 3;whnf
        refine Ze rfl ?_ ?_<;>conv=>arg 3;whnf
        ·refine Ze rfl ?_ ?_<;>conv=>arg 3;whnf
         ·refine Zc (Za t0 t1 t2 t3 s0.1 x139.1 (w64 (s0.2.2.1-1)) x139.2 m1_0 m1_1 m1_2 m1_3 m1_4 m1_5) (hrc t0 t1 t2 t3 s0.1 x139.1 (w64 (s0.2.2.1-1)) x139.2 m1_0 m1_1 m1_2 m1_3 m1_4 m1_5) fun x140 hx140=>?_;conv=>arg 3;whnf
          exact Zf (ih _)
         ·refine Zc (Za t0 t1 t2 t3 s0.1 x139.1 (w64 (s0.2.2.1-1)) x139.2 m1_0 m1_1 m1_2 m1_3 m1_4 m1_5) (hrc t0 t1 t2 t3 s0.1 x139.1 (w64 (s0.2.2.1-1)) x139.2 m1_0 m1_1 m1_2 m1_3 m1_4 m1_5) fun x141 hx141=>?_;conv=>arg 3;whnf
          exact Zf (ih _)
        ·refine Ze rfl ?_ ?_<;>conv=>arg 3;whnf
         ·refine Zc (Za t0 t1 t2 t3 (w64 (x139.1+1)) s0.2.1 (w64 (s0.2.2.1-1)) x139.2 m1_0 m1_1 m1_2 m1_3 m1_4 m1_5) (hrc t0 t1 t2 t3 (w64 (x139.1+1)) s0.2.1 (w64 (s0.2.2.1-1)) x139.2 m1_0 m1_1 m1_2 m1_3 m1_4 m1_5) fun x142 hx142=>?_;conv=>arg 3;whnf
          exact Zf (ih _)
         ·refine Zc (Za t0 t1 t2 t3 (w64 (x139.1+1)) s0.2.1 (w64 (s0.2.2.1-1)) x139.2 m1_0 m1_1 m1_2 m1_3 m1_4 m1_5) (hrc t0 t1 t2 t3 (w64 (x139.1+1)) s0.2.1 (w64 (s0.2.2.1-1)) x139.2 m1_0 m1_1 m1_2 m1_3 m1_4 m1_5) fun x143 hx143=>?_;conv=>arg 3;whnf
          exact Zf (ih _)
       ·conv=>arg 3;whnf
        refine Zan rfl ?_;conv=>arg 3;whnf
        refine Zan rfl ?_;conv=>arg 3;whnf
        refine Ze rfl ?_ ?_<;>conv=>arg 3;whnf
        ·refine Ze rfl ?_ ?_<;>conv=>arg 3;whnf
         ·refine Zc (Za t0 t1 t2 t3 s0.1 x139.1 (w64 (s0.2.2.1-1)) x139.2 m1_0 m1_1 m1_2 m1_3 m1_4 m1_5) (hrc t0 t1 t2 t3 s0.1 x139.1 (w64 (s0.2.2.1-1)) x139.2 m1_0 m1_1 m1_2 m1_3 m1_4 m1_5) fun x144 hx144=>?_;conv=>arg 3;whnf
          exact Zf (ih _)
         ·refine Zc (Za t0 t1 t2 t3 s0.1 x139.1 (w64 (s0.2.2.1-1)) x139.2 m1_0 m1_1 m1_2 m1_3 m1_4 m1_5) (hrc t0 t1 t2 t3 s0.1 x139.1 (w64 (s0.2.2.1-1)) x139.2 m1_0 m1_1 m1_2 m1_3 m1_4 m1_5) fun x145 hx145=>?_;conv=>arg 3;whnf
          exact Zf (ih _)
        ·refine Ze rfl ?_ ?_<;>conv=>arg 3;whnf
         ·refine Zc (Za t0 t1 t2 t3 (w64 (x139.1+1)) s0.2.1 (w64 (s0.2.2.1-1)) x139.2 m1_0 m1_1 m1_2 m1_3 m1_4 m1_5) (hrc t0 t1 t2 t3 (w64 (x139.1+1)) s0.2.1 (w64 (s0.2.2.1-1)) x139.2 m1_0 m1_1 m1_2 m1_3 m1_4 m1_5) fun x146 hx146=>?_;conv=>arg 3;whnf
          exact Zf (ih _)
         ·refine Zc (Za t0 t1 t2 t3 (w64 (x139.1+1)) s0.2.1 (w64 (s0.2.2.1-1)) x139.2 m1_0 m1_1 m1_2 m1_3 m1_4 m1_5) (hrc t0 t1 t2 t3 (w64 (x139.1+1)) s0.2.1 (w64 (s0.2.2.1-1)) x139.2 m1_0 m1_1 m1_2 m1_3 m1_4 m1_5) fun x147 hx147=>?_;conv=>arg 3;whnf
          exact Zf (ih _)
     ·refine Ze rfl ?_ ?_<;>conv=>arg 3;whnf
      ·refine Zl rfl rfl fun x148 hx148=>?_;conv=>arg 3;whnf
       refine Zg (ZA rfl hx148) ?_;conv=>arg 3;whnf
       refine Zl rfl rfl fun x149 hx149=>?_;conv=>arg 3;whnf
       refine Zg (ZA rfl hx149) ?_;conv=>arg 3;whnf
       refine Zo _ ZF rfl fun x150 hx150=>?_;conv=>arg 3;whnf
       refine Ze rfl ?_ ?_<;>conv=>arg 3;whnf
       ·refine Zc _ Zk fun x151 hx151=>?_
        clear hx151
        rcases x151 with x151 | x151
        ·conv=>arg 3;whnf
         refine Zbe rfl ?_;conv=>arg 3;whnf
         refine Zan rfl ?_;conv=>arg 3;whnf
         refine Ze rfl ?_ ?_<;>conv=>arg 3;whnf
         ·refine Ze rfl ?_ ?_<;>conv=>arg 3;whnf
          ·refine Zc (Za t0 t1 t2 t3 s0.1 x151.1 (w64 (s0.2.2.1-1)) x151.2 m1_0 m1_1 m1_2 m1_3 m1_4 m1_5) (hrc t0 t1 t2 t3 s0.1 x151.1 (w64 (s0.2.2.1-1)) x151.2 m1_0 m1_1 m1_2 m1_3 m1_4 m1_5) fun x152 hx152=>?_;conv=>arg 3;whnf
           exact Zf (ih _)
          ·refine Zc (Za t0 t1 t2 t3 s0.1 x151.1 (w64 (s0.2.2.1-1)) x151.2 m1_0 m1_1 m1_2 m1_3 m1_4 m1_5) (hrc t0 t1 t2 t3 s0.1 x151.1 (w64 (s0.2.2.1-1)) x151.2 m1_0 m1_1 m1_2 m1_3 m1_4 m1_5) fun x153 hx153=>?_;conv=>arg 3;whnf
           exact Zf (ih _)
         ·refine Ze rfl ?_ ?_<;>conv=>arg 3;whnf
          ·refine Zc (Za t0 t1 t2 t3 (w64 (x151.1+1)) s0.2.1 (w64 (s0.2.2.1-1)) x151.2 m1_0 m1_1 m1_2 m1_3 m1_4 m1_5) (hrc t0 t1 t2 t3 (w64 (x151.1+1)) s0.2.1 (w64 (s0.2.2.1-1)) x151.2 m1_0 m1_1 m1_2 m1_3 m1_4 m1_5) fun x154 hx154=>?_;conv=>arg 3;whnf
           exact Zf (ih _)
          ·refine Zc (Za t0 t1 t2 t3 (w64 (x151.1+1)) s0.2.1 (w64 (s0.2.2.1-1)) x151.2 m1_0 m1_1 m1_2 m1_3 m1_4 m1_5) (hrc t0 t1 t2 t3 (w64 (x151.1+1)) s0.2.1 (w64 (s0.2.2.1-1)) x151.2 m1_0 m1_1 m1_2 m1_3 m1_4 m1_5) fun x155 hx155=>?_;conv=>arg 3;whnf
           exact Zf (ih _)
        ·conv=>arg 3;whnf
         refine Zan rfl ?_;conv=>arg 3;whnf
         refine Zan rfl ?_;conv=>arg 3;whnf
         refine Ze rfl ?_ ?_<;>conv=>arg 3;whnf
         ·refine Ze rfl ?_ ?_<;>conv=>arg 3;whnf
          ·refine Zc (Za t0 t1 t2 t3 s0.1 x151.1 (w64 (s0.2.2.1-1)) x151.2 m1_0 m1_1 m1_2 m1_3 m1_4 m1_5) (hrc t0 t1 t2 t3 s0.1 x151.1 (w64 (s0.2.2.1-1)) x151.2 m1_0 m1_1 m1_2 m1_3 m1_4 m1_5) fun x156 hx156=>?_;conv=>arg 3;whnf
           exact Zf (ih _)
          ·refine Zc (Za t0 t1 t2 t3 s0.1 x151.1 (w64 (s0.2.2.1-1)) x151.2 m1_0 m1_1 m1_2 m1_3 m1_4 m1_5) (hrc t0 t1 t2 t3 s0.1 x151.1 (w64 (s0.2.2.1-1)) x151.2 m1_0 m1_1 m1_2 m1_3 m1_4 m1_5) fun x157 hx157=>?_;conv=>arg 3;whnf
           exact Zf (ih _)
         ·refine Ze rfl ?_ ?_<;>conv=>arg 3;whnf
          ·refine Zc (Za t0 t1 t2 t3 (w64 (x151.1+1)) s0.2.1 (w64 (s0.2.2.1-1)) x151.2 m1_0 m1_1 m1_2 m1_3 m1_4 m1_5) (hrc t0 t1 t2 t3 (w64 (x151.1+1)) s0.2.1 (w64 (s0.2.2.1-1)) x151.2 m1_0 m1_1 m1_2 m1_3 m1_4 m1_5) fun x158 hx158=>?_;conv=>arg 3;whnf
           exact Zf (ih _)
          ·refine Zc (Za t0 t1 t2 t3 (w64 (x151.1+1)) s0.2.1 (w64 (s0.2.2.1-1)) x151.2 m1_0 m1_1 m1_2 m1_3 m1_4 m1_5) (hrc t0 t1 t2 t3 (w64 (x151.1+1)) s0.2.1 (w64 (s0.2.2.1-1)) x151.2 m1_0 m1_1 m1_2 m1_3 m1_4 m1_5) fun x159 hx159=>?_;conv=>arg 3;whnf
           exact Zf (ih _)
       ·refine Zc _ Zz fun x160 hx160=>?_;conv=>arg 3;whnf
        exact Zf (ih _)
      ·refine Zc _ Zk fun x161 hx161=>?_
       clear hx161
       rcases x161 with x161 | x161
       ·conv=>arg 3;whnf
        refine Zbe rfl ?_;conv=>arg 3;whnf
        refine Zan rfl ?_;conv=>arg 3;whnf
        refine Ze rfl ?_ ?_<;>conv=>arg 3;whnf
        ·refine Ze rfl ?_ ?_<;>conv=>arg 3;whnf
         ·refine Zc (Za t0 t1 t2 t3 s0.1 x161.1 (w64 (s0.2.2.1-1)) x161.2 m1_0 m1_1 m1_2 m1_3 m1_4 m1_5) (hrc t0 t1 t2 t3 s0.1 x161.1 (w64 (s0.2.2.1-1)) x161.2 m1_0 m1_1 m1_2 m1_3 m1_4 m1_5) fun x162 hx162=>?_;conv=>arg 3;whnf
          exact Zf (ih _)
         ·refine Zc (Za t0 t1 t2 t3 s0.1 x161.1 (w64 (s0.2.2.1-1)) x161.2 m1_0 m1_1 m1_2 m1_3 m1_4 m1_5) (hrc t0 t1 t2 t3 s0.1 x161.1 (w64 (s0.2.2.1-1)) x161.2 m1_0 m1_1 m1_2 m1_3 m1_4 m1_5) fun x163 hx163=>?_;conv=>arg 3;whnf
          exact Zf (ih _)
        ·refine Ze rfl ?_ ?_<;>conv=>arg 3;whnf
         ·refine Zc (Za t0 t1 t2 t3 (w64 (x161.1+1)) s0.2.1 (w64 (s0.2.2.1-1)) x161.2 m1_0 m1_1 m1_2 m1_3 m1_4 m1_5) (hrc t0 t1 t2 t3 (w64 (x161.1+1)) s0.2.1 (w64 (s0.2.2.1-1)) x161.2 m1_0 m1_1 m1_2 m1_3 m1_4 m1_5) fun x164 hx164=>?_;conv=>arg 3;whnf
          exact Zf (ih _)
         ·refine Zc (Za t0 t1 t2 t3 (w64 (x161.1+1)) s0.2.1 (w64 (s0.2.2.1-1)) x161.2 m1_0 m1_1 m1_2 m1_3 m1_4 m1_5) (hrc t0 t1 t2 t3 (w64 (x161.1+1)) s0.2.1 (w64 (s0.2.2.1-1)) x161.2 m1_0 m1_1 m1_2 m1_3 m1_4 m1_5) fun x165 hx165=>?_;conv=>arg 3;whnf
          exact Zf (ih _)
       ·conv=>arg 3;whnf
        refine Zan rfl ?_;conv=>arg 3;whnf
        refine Zan rfl ?_;conv=>arg 3;whnf
        refine Ze rfl ?_ ?_<;>conv=>arg 3;whnf
        ·refine Ze rfl ?_ ?_<;>conv=>arg 3;whnf
         ·refine Zc (Za t0 t1 t2 t3 s0.1 x161.1 (w64 (s0.2.2.1-1)) x161.2 m1_0 m1_1 m1_2 m1_3 m1_4 m1_5) (hrc t0 t1 t2 t3 s0.1 x161.1 (w64 (s0.2.2.1-1)) x161.2 m1_0 m1_1 m1_2 m1_3 m1_4 m1_5) fun x166 hx166=>?_;conv=>arg 3;whnf
          exact Zf (ih _)
         ·refine Zc (Za t0 t1 t2 t3 s0.1 x161.1 (w64 (s0.2.2.1-1)) x161.2 m1_0 m1_1 m1_2 m1_3 m1_4 m1_5) (hrc t0 t1 t2 t3 s0.1 x161.1 (w64 (s0.2.2.1-1)) x161.2 m1_0 m1_1 m1_2 m1_3 m1_4 m1_5) fun x167 hx167=>?_;conv=>arg 3;whnf
          exact Zf (ih _)
        ·refine Ze rfl ?_ ?_<;>conv=>arg 3;whnf
         ·refine Zc (Za t0 t1 t2 t3 (w64 (x161.1+1)) s0.2.1 (w64 (s0.2.2.1-1)) x161.2 m1_0 m1_1 m1_2 m1_3 m1_4 m1_5) (hrc t0 t1 t2 t3 (w64 (x161.1+1)) s0.2.1 (w64 (s0.2.2.1-1)) x161.2 m1_0 m1_1 m1_2 m1_3 m1_4 m1_5) fun x168 hx168=>?_;conv=>arg 3;whnf
          exact Zf (ih _)
         ·refine Zc (Za t0 t1 t2 t3 (w64 (x161.1+1)) s0.2.1 (w64 (s0.2.2.1-1)) x161.2 m1_0 m1_1 m1_2 m1_3 m1_4 m1_5) (hrc t0 t1 t2 t3 (w64 (x161.1+1)) s0.2.1 (w64 (s0.2.2.1-1)) x161.2 m1_0 m1_1 m1_2 m1_3 m1_4 m1_5) fun x169 hx169=>?_;conv=>arg 3;whnf
          exact Zf (ih _)
 ·refine ZsL ?_
  rcases hb:s0.2.2.2.2.1 with _ | _
  ·refine Zto ?_;conv=>arg 3;whnf
   refine Ze rfl ?_ ?_<;>conv=>arg 3;whnf
   ·refine Zc _ Zaa fun x73 hx73=>?_;conv=>arg 3;whnf
    exact Zd rfl
   ·refine Ze rfl ?_ ?_<;>conv=>arg 3;whnf
    ·refine Zc _ Zas fun x74 hx74=>?_;conv=>arg 3;whnf
     exact Zd rfl
    ·refine Zc _ Zaj fun x75 hx75=>?_;conv=>arg 3;whnf
     refine Ze rfl ?_ ?_<;>conv=>arg 3;whnf
     ·refine Zc _ Zai fun x76 hx76=>?_;conv=>arg 3;whnf
      refine Ze rfl ?_ ?_<;>conv=>arg 3;whnf
      ·refine Zl rfl rfl fun x77 hx77=>?_;conv=>arg 3;whnf
       refine Zg (ZA rfl hx77) ?_;conv=>arg 3;whnf
       refine Zl rfl rfl fun x78 hx78=>?_;conv=>arg 3;whnf
       refine Zg (ZA rfl hx78) ?_;conv=>arg 3;whnf
       refine Zo _ ZF rfl fun x79 hx79=>?_;conv=>arg 3;whnf
       refine Ze rfl ?_ ?_<;>conv=>arg 3;whnf
       ·refine Zc _ Zk fun x80 hx80=>?_
        clear hx80
        rcases x80 with x80 | x80
        ·conv=>arg 3;whnf
         refine Zbe rfl ?_;conv=>arg 3;whnf
         refine Zan rfl ?_;conv=>arg 3;whnf
         refine Ze rfl ?_ ?_<;>conv=>arg 3;whnf
         ·refine Ze rfl ?_ ?_<;>conv=>arg 3;whnf
          ·refine Zc (Za t0 t1 t2 t3 s0.1 x80.1 s0.2.2.1 x80.2 m1_0 m1_1 m1_2 m1_3 m1_4 m1_5) (hrc t0 t1 t2 t3 s0.1 x80.1 s0.2.2.1 x80.2 m1_0 m1_1 m1_2 m1_3 m1_4 m1_5) fun x81 hx81=>?_;conv=>arg 3;whnf
           exact Zf (ih _)
          ·refine Zc (Za t0 t1 t2 t3 s0.1 x80.1 s0.2.2.1 x80.2 m1_0 m1_1 m1_2 m1_3 m1_4 m1_5) (hrc t0 t1 t2 t3 s0.1 x80.1 s0.2.2.1 x80.2 m1_0 m1_1 m1_2 m1_3 m1_4 m1_5) fun x82 hx82=>?_;conv=>arg 3;whnf
           exact Zf (ih _)
         ·refine Ze rfl ?_ ?_<;>conv=>arg 3;whnf
          ·refine Zc (Za t0 t1 t2 t3 (w64 (x80.1+1)) s0.2.1 s0.2.2.1 x80.2 m1_0 m1_1 m1_2 m1_3 m1_4 m1_5) (hrc t0 t1 t2 t3 (w64 (x80.1+1)) s0.2.1 s0.2.2.1 x80.2 m1_0 m1_1 m1_2 m1_3 m1_4 m1_5) fun x83 hx83=>?_;conv=>arg 3;whnf
           exact Zf (ih _)
          ·refine Zc (Za t0 t1 t2 t3 (w64 (x80.1+1)) s0.2.1 s0.2.2.1 x80.2 m1_0 m1_1 m1_2 m1_3 m1_4 m1_5) (hrc t0 t1 t2 t3 (w64 (x80.1+1)) s0.2.1 s0.2.2.1 x80.2 m1_0 m1_1 m1_2 m1_3 m1_4 m1_5) fun x84 hx84=>?_;conv=>arg 3;whnf
           exact Zf (ih _)
        ·conv=>arg 3;whnf
         refine Zan rfl ?_;conv=>arg 3;whnf
         refine Zan rfl ?_;conv=>arg 3;whnf
         refine Ze rfl ?_ ?_<;>conv=>arg 3;whnf
         ·refine Ze rfl ?_ ?_<;>conv=>arg 3;whnf
          ·refine Zc (Za t0 t1 t2 t3 s0.1 x80.1 s0.2.2.1 x80.2 m1_0 m1_1 m1_2 m1_3 m1_4 m1_5) (hrc t0 t1 t2 t3 s0.1 x80.1 s0.2.2.1 x80.2 m1_0 m1_1 m1_2 m1_3 m1_4 m1_5) fun x85 hx85=>?_;conv=>arg 3;whnf
           exact Zf (ih _)
          ·refine Zc (Za t0 t1 t2 t3 s0.1 x80.1 s0.2.2.1 x80.2 m1_0 m1_1 m1_2 m1_3 m1_4 m1_5) (hrc t0 t1 t2 t3 s0.1 x80.1 s0.2.2.1 x80.2 m1_0 m1_1 m1_2 m1_3 m1_4 m1_5) fun x86 hx86=>?_;conv=>arg 3;whnf
           exact Zf (ih _)
         ·refine Ze rfl ?_ ?_<;>conv=>arg 3;whnf
          ·refine Zc (Za t0 t1 t2 t3 (w64 (x80.1+1)) s0.2.1 s0.2.2.1 x80.2 m1_0 m1_1 m1_2 m1_3 m1_4 m1_5) (hrc t0 t1 t2 t3 (w64 (x80.1+1)) s0.2.1 s0.2.2.1 x80.2 m1_0 m1_1 m1_2 m1_3 m1_4 m1_5) fun x87 hx87=>?_;conv=>arg 3;whnf
           exact Zf (ih _)
          ·refine Zc (Za t0 t1 t2 t3 (w64 (x80.1+1)) s0.2.1 s0.2.2.1 x80.2 m1_0 m1_1 m1_2 m1_3 m1_4 m1_5) (hrc t0 t1 t2 t3 (w64 (x80.1+1)) s0.2.1 s0.2.2.1 x80.2 m1_0 m1_1 m1_2 m1_3 m1_4 m1_5) fun x88 hx88=>?_;conv=>arg 3;whnf
           exact Zf (ih _)
       ·refine Zc _ Zz fun x89 hx89=>?_;conv=>arg 3;whnf
        exact Zf (ih _)
      ·refine Zc _ Zk fun x90 hx90=>?_
       clear hx90
       rcases x90 with x90 | x90
       ·conv=>arg 3;whnf
        refine Zbe rfl ?_;conv=>arg 3;whnf
        refine Zan rfl ?_;conv=>arg 3;whnf
        refine Ze rfl ?_ ?_<;>conv=>arg 3;whnf
        ·refine Ze rfl ?_ ?_<;>conv=>arg 3;whnf
         ·refine Zc (Za t0 t1 t2 t3 s0.1 x90.1 s0.2.2.1 x90.2 m1_0 m1_1 m1_2 m1_3 m1_4 m1_5) (hrc t0 t1 t2 t3 s0.1 x90.1 s0.2.2.1 x90.2 m1_0 m1_1 m1_2 m1_3 m1_4 m1_5) fun x91 hx91=>?_;conv=>arg 3;whnf
          exact Zf (ih _)
         ·refine Zc (Za t0 t1 t2 t3 s0.1 x90.1 s0.2.2.1 x90.2 m1_0 m1_1 m1_2 m1_3 m1_4 m1_5) (hrc t0 t1 t2 t3 s0.1 x90.1 s0.2.2.1 x90.2 m1_0 m1_1 m1_2 m1_3 m1_4 m1_5) fun x92 hx92=>?_;conv=>arg 3;whnf
          exact Zf (ih _)
        ·refine Ze rfl ?_ ?_<;>conv=>arg 3;whnf
         ·refine Zc (Za t0 t1 t2 t3 (w64 (x90.1+1)) s0.2.1 s0.2.2.1 x90.2 m1_0 m1_1 m1_2 m1_3 m1_4 m1_5) (hrc t0 t1 t2 t3 (w64 (x90.1+1)) s0.2.1 s0.2.2.1 x90.2 m1_0 m1_1 m1_2 m1_3 m1_4 m1_5) fun x93 hx93=>?_;conv=>arg 3;whnf
          exact Zf (ih _)
         ·refine Zc (Za t0 t1 t2 t3 (w64 (x90.1+1)) s0.2.1 s0.2.2.1 x90.2 m1_0 m1_1 m1_2 m1_3 m1_4 m1_5) (hrc t0 t1 t2 t3 (w64 (x90.1+1)) s0.2.1 s0.2.2.1 x90.2 m1_0 m1_1 m1_2 m1_3 m1_4 m1_5) fun x94 hx94=>?_;conv=>arg 3;whnf
          exact Zf (ih _)
       ·conv=>arg 3;whnf
        refine Zan rfl ?_;conv=>arg 3;whnf
        refine Zan rfl ?_;conv=>arg 3;whnf
        refine Ze rfl ?_ ?_<;>conv=>arg 3;whnf
        ·refine Ze rfl ?_ ?_<;>conv=>arg 3;whnf
         ·refine Zc (Za t0 t1 t2 t3 s0.1 x90.1 s0.2.2.1 x90.2 m1_0 m1_1 m1_2 m1_3 m1_4 m1_5) (hrc t0 t1 t2 t3 s0.1 x90.1 s0.2.2.1 x90.2 m1_0 m1_1 m1_2 m1_3 m1_4 m1_5) fun x95 hx95=>?_;conv=>arg 3;whnf
          exact Zf (ih _)
         ·refine Zc (Za t0 t1 t2 t3 s0.1 x90.1 s0.2.2.1 x90.2 m1_0 m1_1 m1_2 m1_3 m1_4 m1_5) (hrc t0 t1 t2 t3 s0.1 x90.1 s0.2.2.1 x90.2 m1_0 m1_1 m1_2 m1_3 m1_4 m1_5) fun x96 hx96=>?_;conv=>arg 3;whnf
          exact Zf (ih _)
        ·refine Ze rfl ?_ ?_<;>conv=>arg 3;whnf
         ·refine Zc (Za t0 t1 t2 t3 (w64 (x90.1+1)) s0.2.1 s0.2.2.1 x90.2 m1_0 m1_1 m1_2 m1_3 m1_4 m1_5) (hrc t0 t1 t2 t3 (w64 (x90.1+1)) s0.2.1 s0.2.2.1 x90.2 m1_0 m1_1 m1_2 m1_3 m1_4 m1_5) fun x97 hx97=>?_;conv=>arg 3;whnf
          exact Zf (ih _)
         ·refine Zc (Za t0 t1 t2 t3 (w64 (x90.1+1)) s0.2.1 s0.2.2.1 x90.2 m1_0 m1_1 m1_2 m1_3 m1_4 m1_5) (hrc t0 t1 t2 t3 (w64 (x90.1+1)) s0.2.1 s0.2.2.1 x90.2 m1_0 m1_1 m1_2 m1_3 m1_4 m1_5) fun x98 hx98=>?_;conv=>arg 3;whnf
          exact Zf (ih _)
     ·refine Ze rfl ?_ ?_<;>conv=>arg 3;whnf
      ·refine Zl rfl rfl fun x99 hx99=>?_;conv=>arg 3;whnf
       refine Zg (ZA rfl hx99) ?_;conv=>arg 3;whnf
       refine Zl rfl rfl fun x100 hx100=>?_;conv=>arg 3;whnf
       refine Zg (ZA rfl hx100) ?_;conv=>arg 3;whnf
       refine Zo _ ZF rfl fun x101 hx101=>?_;conv=>arg 3;whnf
       refine Ze rfl ?_ ?_<;>conv=>arg 3;whnf
       ·refine Zc _ Zk fun x102 hx102=>?_
        clear hx102
        rcases x102 with x102 | x102
        ·conv=>arg 3;whnf
         refine Zbe rfl ?_;conv=>arg 3;whnf
         refine Zan rfl ?_;conv=>arg 3;whnf
         refine Ze rfl ?_ ?_<;>conv=>arg 3;whnf
         ·refine Ze rfl ?_ ?_<;>conv=>arg 3;whnf
          ·refine Zc (Za t0 t1 t2 t3 s0.1 x102.1 s0.2.2.1 x102.2 m1_0 m1_1 m1_2 m1_3 m1_4 m1_5) (hrc t0 t1 t2 t3 s0.1 x102.1 s0.2.2.1 x102.2 m1_0 m1_1 m1_2 m1_3 m1_4 m1_5) fun x103 hx103=>?_;conv=>arg 3;whnf
           exact Zf (ih _)
          ·refine Zc (Za t0 t1 t2 t3 s0.1 x102.1 s0.2.2.1 x102.2 m1_0 m1_1 m1_2 m1_3 m1_4 m1_5) (hrc t0 t1 t2 t3 s0.1 x102.1 s0.2.2.1 x102.2 m1_0 m1_1 m1_2 m1_3 m1_4 m1_5) fun x104 hx104=>?_;conv=>arg 3;whnf
           exact Zf (ih _)
         ·refine Ze rfl ?_ ?_<;>conv=>arg 3;whnf
          ·refine Zc (Za t0 t1 t2 t3 (w64 (x102.1+1)) s0.2.1 s0.2.2.1 x102.2 m1_0 m1_1 m1_2 m1_3 m1_4 m1_5) (hrc t0 t1 t2 t3 (w64 (x102.1+1)) s0.2.1 s0.2.2.1 x102.2 m1_0 m1_1 m1_2 m1_3 m1_4 m1_5) fun x105 hx105=>?_;conv=>arg 3;whnf
           exact Zf (ih _)
          ·refine Zc (Za t0 t1 t2 t3 (w64 (x102.1+1)) s0.2.1 s0.2.2.1 x102.2 m1_0 m1_1 m1_2 m1_3 m1_4 m1_5) (hrc t0 t1 t2 t3 (w64 (x102.1+1)) s0.2.1 s0.2.2.1 x102.2 m1_0 m1_1 m1_2 m1_3 m1_4 m1_5) fun x106 hx106=>?_;conv=>arg 3;whnf
           exact Zf (ih _)
        ·conv=>arg 3;whnf
         refine Zan rfl ?_;conv=>arg 3;whnf
         refine Zan rfl ?_;conv=>arg 3;whnf
         refine Ze rfl ?_ ?_<;>conv=>arg 3;whnf
         ·refine Ze rfl ?_ ?_<;>conv=>arg 3;whnf
          ·refine Zc (Za t0 t1 t2 t3 s0.1 x102.1 s0.2.2.1 x102.2 m1_0 m1_1 m1_2 m1_3 m1_4 m1_5) (hrc t0 t1 t2 t3 s0.1 x102.1 s0.2.2.1 x102.2 m1_0 m1_1 m1_2 m1_3 m1_4 m1_5) fun x107 hx107=>?_;conv=>arg 3;whnf
           exact Zf (ih _)
          ·refine Zc (Za t0 t1 t2 t3 s0.1 x102.1 s0.2.2.1 x102.2 m1_0 m1_1 m1_2 m1_3 m1_4 m1_5) (hrc t0 t1 t2 t3 s0.1 x102.1 s0.2.2.1 x102.2 m1_0 m1_1 m1_2 m1_3 m1_4 m1_5) fun x108 hx108=>?_;conv=>arg 3;whnf
           exact Zf (ih _)
         ·refine Ze rfl ?_ ?_<;>conv=>arg 3;whnf
          ·refine Zc (Za t0 t1 t2 t3 (w64 (x102.1+1)) s0.2.1 s0.2.2.1 x102.2 m1_0 m1_1 m1_2 m1_3 m1_4 m1_5) (hrc t0 t1 t2 t3 (w64 (x102.1+1)) s0.2.1 s0.2.2.1 x102.2 m1_0 m1_1 m1_2 m1_3 m1_4 m1_5) fun x109 hx109=>?_;conv=>arg 3;whnf
           exact Zf (ih _)
          ·refine Zc (Za t0 t1 t2 t3 (w64 (x102.1+1)) s0.2.1 s0.2.2.1 x102.2 m1_0 m1_1 m1_2 m1_3 m1_4 m1_5) (hrc t0 t1 t2 t3 (w64 (x102.1+1)) s0.2.1 s0.2.2.1 x102.2 m1_0 m1_1 m1_2 m1_3 m1_4 m1_5) fun x110 hx110=>?_;conv=>arg 3;whnf
           exact Zf (ih _)
       ·refine Zc _ Zz fun x111 hx111=>?_;conv=>arg 3;whnf
        exact Zf (ih _)
      ·refine Zc _ Zk fun x112 hx112=>?_
       clear hx112
       rcases x112 with x112 | x112
       ·conv=>arg 3;whnf
        refine Zbe rfl ?_;conv=>arg 3;whnf
        refine Zan rfl ?_;conv=>arg 3;whnf
        refine Ze rfl ?_ ?_<;>conv=>arg 3;whnf
        ·refine Ze rfl ?_ ?_<;>conv=>arg 3;whnf
         ·refine Zc (Za t0 t1 t2 t3 s0.1 x112.1 s0.2.2.1 x112.2 m1_0 m1_1 m1_2 m1_3 m1_4 m1_5) (hrc t0 t1 t2 t3 s0.1 x112.1 s0.2.2.1 x112.2 m1_0 m1_1 m1_2 m1_3 m1_4 m1_5) fun x113 hx113=>?_;conv=>arg 3;whnf
          exact Zf (ih _)
         ·refine Zc (Za t0 t1 t2 t3 s0.1 x112.1 s0.2.2.1 x112.2 m1_0 m1_1 m1_2 m1_3 m1_4 m1_5) (hrc t0 t1 t2 t3 s0.1 x112.1 s0.2.2.1 x112.2 m1_0 m1_1 m1_2 m1_3 m1_4 m1_5) fun x114 hx114=>?_;conv=>arg 3;whnf
          exact Zf (ih _)
        ·refine Ze rfl ?_ ?_<;>conv=>arg 3;whnf
         ·refine Zc (Za t0 t1 t2 t3 (w64 (x112.1+1)) s0.2.1 s0.2.2.1 x112.2 m1_0 m1_1 m1_2 m1_3 m1_4 m1_5) (hrc t0 t1 t2 t3 (w64 (x112.1+1)) s0.2.1 s0.2.2.1 x112.2 m1_0 m1_1 m1_2 m1_3 m1_4 m1_5) fun x115 hx115=>?_;conv=>arg 3;whnf
          exact Zf (ih _)
         ·refine Zc (Za t0 t1 t2 t3 (w64 (x112.1+1)) s0.2.1 s0.2.2.1 x112.2 m1_0 m1_1 m1_2 m1_3 m1_4 m1_5) (hrc t0 t1 t2 t3 (w64 (x112.1+1)) s0.2.1 s0.2.2.1 x112.2 m1_0 m1_1 m1_2 m1_3 m1_4 m1_5) fun x116 hx116=>?_;conv=>arg 3;whnf
          exact Zf (ih _)
       ·conv=>arg 3;whnf
        refine Zan rfl ?_;conv=>arg 3;whnf
        refine Zan rfl ?_;conv=>arg 3;whnf
        refine Ze rfl ?_ ?_<;>conv=>arg 3;whnf
        ·refine Ze rfl ?_ ?_<;>conv=>arg 3;whnf
         ·refine Zc (Za t0 t1 t2 t3 s0.1 x112.1 s0.2.2.1 x112.2 m1_0 m1_1 m1_2 m1_3 m1_4 m1_5) (hrc t0 t1 t2 t3 s0.1 x112.1 s0.2.2.1 x112.2 m1_0 m1_1 m1_2 m1_3 m1_4 m1_5) fun x117 hx117=>?_;conv=>arg 3;whnf
          exact Zf (ih _)
         ·refine Zc (Za t0 t1 t2 t3 s0.1 x112.1 s0.2.2.1 x112.2 m1_0 m1_1 m1_2 m1_3 m1_4 m1_5) (hrc t0 t1 t2 t3 s0.1 x112.1 s0.2.2.1 x112.2 m1_0 m1_1 m1_2 m1_3 m1_4 m1_5) fun x118 hx118=>?_;conv=>arg 3;whnf
          exact Zf (ih _)
        ·refine Ze rfl ?_ ?_<;>conv=>arg 3;whnf
         ·refine Zc (Za t0 t1 t2 t3 (w64 (x112.1+1)) s0.2.1 s0.2.2.1 x112.2 m1_0 m1_1 m1_2 m1_3 m1_4 m1_5) (hrc t0 t1 t2 t3 (w64 (x112.1+1)) s0.2.1 s0.2.2.1 x112.2 m1_0 m1_1 m1_2 m1_3 m1_4 m1_5) fun x119 hx119=>?_;conv=>arg 3;whnf
          exact Zf (ih _)
         ·refine Zc (Za t0 t1 t2 t3 (w64 (x112.1+1)) s0.2.1 s0.2.2.1 x112.2 m1_0 m1_1 m1_2 m1_3 m1_4 m1_5) (hrc t0 t1 t2 t3 (w64 (x112.1+1)) s0.2.1 s0.2.2.1 x112.2 m1_0 m1_1 m1_2 m1_3 m1_4 m1_5) fun x120 hx120=>?_;conv=>arg 3;whnf
          exact Zf (ih _)
  ·refine ZsL ?_;conv=>arg 3;whnf
   refine Ze rfl ?_ ?_<;>conv=>arg 3;whnf
   ·refine Zc _ Zaa fun x1 hx1=>?_;conv=>arg 3;whnf
    exact Zd rfl
   ·refine Ze rfl ?_ ?_<;>conv=>arg 3;whnf
    ·refine Zc _ Zas fun x2 hx2=>?_;conv=>arg 3;whnf
     exact Zd rfl
    ·refine Zc _ Zaj fun x3 hx3=>?_;conv=>arg 3;whnf
     refine Ze rfl ?_ ?_<;>conv=>arg 3;whnf
     ·refine Zc _ Zai fun x4 hx4=>?_;conv=>arg 3;whnf
      refine Zbe rfl ?_;conv=>arg 3;whnf
      refine Zc _ Zbc fun x5 hx5=>?_
      clear hx5
      rcases x5 with x5 | x5
      ·conv=>arg 3;whnf
       exact Zd rfl
      ·conv=>arg 3;whnf
       refine Ze rfl ?_ ?_<;>conv=>arg 3;whnf
       ·refine Zl rfl rfl fun x6 hx6=>?_;conv=>arg 3;whnf
        refine Zg (ZA rfl hx6) ?_;conv=>arg 3;whnf
        refine Zl rfl rfl fun x7 hx7=>?_;conv=>arg 3;whnf
        refine Zg (ZA rfl hx7) ?_;conv=>arg 3;whnf
        refine Zo _ ZF rfl fun x8 hx8=>?_;conv=>arg 3;whnf
        refine Ze rfl ?_ ?_<;>conv=>arg 3;whnf
        ·refine Zc _ Zk fun x9 hx9=>?_
         clear hx9
         rcases x9 with x9 | x9
         ·conv=>arg 3;whnf
          refine Zbe rfl ?_;conv=>arg 3;whnf
          refine Zan rfl ?_;conv=>arg 3;whnf
          refine Ze rfl ?_ ?_<;>conv=>arg 3;whnf
          ·refine Ze rfl ?_ ?_<;>conv=>arg 3;whnf
           ·refine Zc (Za t0 t1 t2 t3 s0.1 x9.1 s0.2.2.1 x9.2 m1_0 m1_1 m1_2 m1_3 m1_4 m1_5) (hrc t0 t1 t2 t3 s0.1 x9.1 s0.2.2.1 x9.2 m1_0 m1_1 m1_2 m1_3 m1_4 m1_5) fun x10 hx10=>?_;conv=>arg 3;whnf
            exact Zf (ih _)
           ·refine Zc (Za t0 t1 t2 t3 s0.1 x9.1 s0.2.2.1 x9.2 m1_0 m1_1 m1_2 m1_3 m1_4 m1_5) (hrc t0 t1 t2 t3 s0.1 x9.1 s0.2.2.1 x9.2 m1_0 m1_1 m1_2 m1_3 m1_4 m1_5) fun x11 hx11=>?_;conv=>arg 3;whnf
            exact Zf (ih _)
          ·refine Ze rfl ?_ ?_<;>conv=>arg 3;whnf
           ·refine Zc (Za t0 t1 t2 t3 (w64 (x9.1+1)) s0.2.1 s0.2.2.1 x9.2 m1_0 m1_1 m1_2 m1_3 m1_4 m1_5) (hrc t0 t1 t2 t3 (w64 (x9.1+1)) s0.2.1 s0.2.2.1 x9.2 m1_0 m1_1 m1_2 m1_3 m1_4 m1_5) fun x12 hx12=>?_;conv=>arg 3;whnf
            exact Zf (ih _)
           ·refine Zc (Za t0 t1 t2 t3 (w64 (x9.1+1)) s0.2.1 s0.2.2.1 x9.2 m1_0 m1_1 m1_2 m1_3 m1_4 m1_5) (hrc t0 t1 t2 t3 (w64 (x9.1+1)) s0.2.1 s0.2.2.1 x9.2 m1_0 m1_1 m1_2 m1_3 m1_4 m1_5) fun x13 hx13=>?_;conv=>arg 3;whnf
            exact Zf (ih _)
         ·conv=>arg 3;whnf
          refine Zan rfl ?_;conv=>arg 3;whnf
          refine Zan rfl ?_;conv=>arg 3;whnf
          refine Ze rfl ?_ ?_<;>conv=>arg 3;whnf
          ·refine Ze rfl ?_ ?_<;>conv=>arg 3;whnf
           ·refine Zc (Za t0 t1 t2 t3 s0.1 x9.1 s0.2.2.1 x9.2 m1_0 m1_1 m1_2 m1_3 m1_4 m1_5) (hrc t0 t1 t2 t3 s0.1 x9.1 s0.2.2.1 x9.2 m1_0 m1_1 m1_2 m1_3 m1_4 m1_5) fun x14 hx14=>?_;conv=>arg 3;whnf
            exact Zf (ih _)
           ·refine Zc (Za t0 t1 t2 t3 s0.1 x9.1 s0.2.2.1 x9.2 m1_0 m1_1 m1_2 m1_3 m1_4 m1_5) (hrc t0 t1 t2 t3 s0.1 x9.1 s0.2.2.1 x9.2 m1_0 m1_1 m1_2 m1_3 m1_4 m1_5) fun x15 hx15=>?_;conv=>arg 3;whnf
            exact Zf (ih _)
          ·refine Ze rfl ?_ ?_<;>conv=>arg 3;whnf
           ·refine Zc (Za t0 t1 t2 t3 (w64 (x9.1+1)) s0.2.1 s0.2.2.1 x9.2 m1_0 m1_1 m1_2 m1_3 m1_4 m1_5) (hrc t0 t1 t2 t3 (w64 (x9.1+1)) s0.2.1 s0.2.2.1 x9.2 m1_0 m1_1 m1_2 m1_3 m1_4 m1_5) fun x16 hx16=>?_;conv=>arg 3;whnf
            exact Zf (ih _)
           ·refine Zc (Za t0 t1 t2 t3 (w64 (x9.1+1)) s0.2.1 s0.2.2.1 x9.2 m1_0 m1_1 m1_2 m1_3 m1_4 m1_5) (hrc t0 t1 t2 t3 (w64 (x9.1+1)) s0.2.1 s0.2.2.1 x9.2 m1_0 m1_1 m1_2 m1_3 m1_4 m1_5) fun x17 hx17=>?_;conv=>arg 3;whnf
            exact Zf (ih _)
        ·refine Zc _ Zz fun x18 hx18=>?_;conv=>arg 3;whnf
         exact Zf (ih _)
       ·refine Zc _ Zk fun x19 hx19=>?_
        clear hx19
        rcases x19 with x19 | x19
        ·conv=>arg 3;whnf
         refine Zbe rfl ?_;conv=>arg 3;whnf
         refine Zan rfl ?_;conv=>arg 3;whnf
         refine Ze rfl ?_ ?_<;>conv=>arg 3;whnf
         ·refine Ze rfl ?_ ?_<;>conv=>arg 3;whnf
          ·refine Zc (Za t0 t1 t2 t3 s0.1 x19.1 s0.2.2.1 x19.2 m1_0 m1_1 m1_2 m1_3 m1_4 m1_5) (hrc t0 t1 t2 t3 s0.1 x19.1 s0.2.2.1 x19.2 m1_0 m1_1 m1_2 m1_3 m1_4 m1_5) fun x20 hx20=>?_;conv=>arg 3;whnf
           exact Zf (ih _)
          ·refine Zc (Za t0 t1 t2 t3 s0.1 x19.1 s0.2.2.1 x19.2 m1_0 m1_1 m1_2 m1_3 m1_4 m1_5) (hrc t0 t1 t2 t3 s0.1 x19.1 s0.2.2.1 x19.2 m1_0 m1_1 m1_2 m1_3 m1_4 m1_5) fun x21 hx21=>?_;conv=>arg 3;whnf
           exact Zf (ih _)
         ·refine Ze rfl ?_ ?_<;>conv=>arg 3;whnf
          ·refine Zc (Za t0 t1 t2 t3 (w64 (x19.1+1)) s0.2.1 s0.2.2.1 x19.2 m1_0 m1_1 m1_2 m1_3 m1_4 m1_5) (hrc t0 t1 t2 t3 (w64 (x19.1+1)) s0.2.1 s0.2.2.1 x19.2 m1_0 m1_1 m1_2 m1_3 m1_4 m1_5) fun x22 hx22=>?_;conv=>arg 3;whnf
           exact Zf (ih _)
          ·refine Zc (Za t0 t1 t2 t3 (w64 (x19.1+1)) s0.2.1 s0.2.2.1 x19.2 m1_0 m1_1 m1_2 m1_3 m1_4 m1_5) (hrc t0 t1 t2 t3 (w64 (x19.1+1)) s0.2.1 s0.2.2.1 x19.2 m1_0 m1_1 m1_2 m1_3 m1_4 m1_5) fun x23 hx23=>?_;conv=>arg 3;whnf
           exact Zf (ih _)
        ·conv=>arg 3;whnf
         refine Zan rfl ?_;conv=>arg 3;whnf
         refine Zan rfl ?_;conv=>arg 3;whnf
         refine Ze rfl ?_ ?_<;>conv=>arg 3;whnf
         ·refine Ze rfl ?_ ?_<;>conv=>arg 3;whnf
          ·refine Zc (Za t0 t1 t2 t3 s0.1 x19.1 s0.2.2.1 x19.2 m1_0 m1_1 m1_2 m1_3 m1_4 m1_5) (hrc t0 t1 t2 t3 s0.1 x19.1 s0.2.2.1 x19.2 m1_0 m1_1 m1_2 m1_3 m1_4 m1_5) fun x24 hx24=>?_;conv=>arg 3;whnf
           exact Zf (ih _)
          ·refine Zc (Za t0 t1 t2 t3 s0.1 x19.1 s0.2.2.1 x19.2 m1_0 m1_1 m1_2 m1_3 m1_4 m1_5) (hrc t0 t1 t2 t3 s0.1 x19.1 s0.2.2.1 x19.2 m1_0 m1_1 m1_2 m1_3 m1_4 m1_5) fun x25 hx25=>?_;conv=>arg 3;whnf
           exact Zf (ih _)
         ·refine Ze rfl ?_ ?_<;>conv=>arg 3;whnf
          ·refine Zc (Za t0 t1 t2 t3 (w64 (x19.1+1)) s0.2.1 s0.2.2.1 x19.2 m1_0 m1_1 m1_2 m1_3 m1_4 m1_5) (hrc t0 t1 t2 t3 (w64 (x19.1+1)) s0.2.1 s0.2.2.1 x19.2 m1_0 m1_1 m1_2 m1_3 m1_4 m1_5) fun x26 hx26=>?_;conv=>arg 3;whnf
           exact Zf (ih _)
          ·refine Zc (Za t0 t1 t2 t3 (w64 (x19.1+1)) s0.2.1 s0.2.2.1 x19.2 m1_0 m1_1 m1_2 m1_3 m1_4 m1_5) (hrc t0 t1 t2 t3 (w64 (x19.1+1)) s0.2.1 s0.2.2.1 x19.2 m1_0 m1_1 m1_2 m1_3 m1_4 m1_5) fun x27 hx27=>?_;conv=>arg 3;whnf
           exact Zf (ih _)
     ·refine Ze rfl ?_ ?_<;>conv=>arg 3;whnf
      ·refine Zc _ Zbc fun x28 hx28=>?_
       clear hx28
       rcases x28 with x28 | x28
       ·conv=>arg 3;whnf
        exact Zd rfl
       ·conv=>arg 3;whnf
        refine Ze rfl ?_ ?_<;>conv=>arg 3;whnf
        ·refine Zl rfl rfl fun x29 hx29=>?_;conv=>arg 3;whnf
         refine Zg (ZA rfl hx29) ?_;conv=>arg 3;whnf
         refine Zl rfl rfl fun x30 hx30=>?_;conv=>arg 3;whnf
         refine Zg (ZA rfl hx30) ?_;conv=>arg 3;whnf
         refine Zo _ ZF rfl fun x31 hx31=>?_;conv=>arg 3;whnf
         refine Ze rfl ?_ ?_<;>conv=>arg 3;whnf
         ·refine Zc _ Zk fun x32 hx32=>?_
          clear hx32
          rcases x32 with x32 | x32
          ·conv=>arg 3;whnf
           refine Zbe rfl ?_;conv=>arg 3;whnf
           refine Zan rfl ?_;conv=>arg 3;whnf
           refine Ze rfl ?_ ?_<;>conv=>arg 3;whnf
           ·refine Ze rfl ?_ ?_<;>conv=>arg 3;whnf
            ·refine Zc (Za t0 t1 t2 t3 s0.1 x32.1 s0.2.2.1 x32.2 m1_0 m1_1 m1_2 m1_3 m1_4 m1_5) (hrc t0 t1 t2 t3 s0.1 x32.1 s0.2.2.1 x32.2 m1_0 m1_1 m1_2 m1_3 m1_4 m1_5) fun x33 hx33=>?_;conv=>arg 3;whnf
             exact Zf (ih _)
            ·refine Zc (Za t0 t1 t2 t3 s0.1 x32.1 s0.2.2.1 x32.2 m1_0 m1_1 m1_2 m1_3 m1_4 m1_5) (hrc t0 t1 t2 t3 s0.1 x32.1 s0.2.2.1 x32.2 m1_0 m1_1 m1_2 m1_3 m1_4 m1_5) fun x34 hx34=>?_;conv=>arg 3;whnf
             exact Zf (ih _)
           ·refine Ze rfl ?_ ?_<;>conv=>arg 3;whnf
            ·refine Zc (Za t0 t1 t2 t3 (w64 (x32.1+1)) s0.2.1 s0.2.2.1 x32.2 m1_0 m1_1 m1_2 m1_3 m1_4 m1_5) (hrc t0 t1 t2 t3 (w64 (x32.1+1)) s0.2.1 s0.2.2.1 x32.2 m1_0 m1_1 m1_2 m1_3 m1_4 m1_5) fun x35 hx35=>?_;conv=>arg 3;whnf
             exact Zf (ih _)
            ·refine Zc (Za t0 t1 t2 t3 (w64 (x32.1+1)) s0.2.1 s0.2.2.1 x32.2 m1_0 m1_1 m1_2 m1_3 m1_4 m1_5) (hrc t0 t1 t2 t3 (w64 (x32.1+1)) s0.2.1 s0.2.2.1 x32.2 m1_0 m1_1 m1_2 m1_3 m1_4 m1_5) fun x36 hx36=>?_;conv=>arg 3;whnf
             exact Zf (ih _)
          ·conv=>arg 3;whnf
           refine Zan rfl ?_;conv=>arg 3;whnf
           refine Zan rfl ?_;conv=>arg 3;whnf
           refine Ze rfl ?_ ?_<;>conv=>arg 3;whnf
           ·refine Ze rfl ?_ ?_<;>conv=>arg 3;whnf
            ·refine Zc (Za t0 t1 t2 t3 s0.1 x32.1 s0.2.2.1 x32.2 m1_0 m1_1 m1_2 m1_3 m1_4 m1_5) (hrc t0 t1 t2 t3 s0.1 x32.1 s0.2.2.1 x32.2 m1_0 m1_1 m1_2 m1_3 m1_4 m1_5) fun x37 hx37=>?_;conv=>arg 3;whnf
             exact Zf (ih _)
            ·refine Zc (Za t0 t1 t2 t3 s0.1 x32.1 s0.2.2.1 x32.2 m1_0 m1_1 m1_2 m1_3 m1_4 m1_5) (hrc t0 t1 t2 t3 s0.1 x32.1 s0.2.2.1 x32.2 m1_0 m1_1 m1_2 m1_3 m1_4 m1_5) fun x38 hx38=>?_;conv=>arg 3;whnf
             exact Zf (ih _)
           ·refine Ze rfl ?_ ?_<;>conv=>arg 3;whnf
            ·refine Zc (Za t0 t1 t2 t3 (w64 (x32.1+1)) s0.2.1 s0.2.2.1 x32.2 m1_0 m1_1 m1_2 m1_3 m1_4 m1_5) (hrc t0 t1 t2 t3 (w64 (x32.1+1)) s0.2.1 s0.2.2.1 x32.2 m1_0 m1_1 m1_2 m1_3 m1_4 m1_5) fun x39 hx39=>?_;conv=>arg 3;whnf
             exact Zf (ih _)
            ·refine Zc (Za t0 t1 t2 t3 (w64 (x32.1+1)) s0.2.1 s0.2.2.1 x32.2 m1_0 m1_1 m1_2 m1_3 m1_4 m1_5) (hrc t0 t1 t2 t3 (w64 (x32.1+1)) s0.2.1 s0.2.2.1 x32.2 m1_0 m1_1 m1_2 m1_3 m1_4 m1_5) fun x40 hx40=>?_;conv=>arg 3;whnf
             exact Zf (ih _)
         ·refine Zc _ Zz fun x41 hx41=>?_;conv=>arg 3;whnf
          exact Zf (ih _)
        ·refine Zc _ Zk fun x42 hx42=>?_
         clear hx42
         rcases x42 with x42 | x42
         ·conv=>arg 3;whnf
          refine Zbe rfl ?_;conv=>arg 3;whnf
          refine Zan rfl ?_;conv=>arg 3;whnf
          refine Ze rfl ?_ ?_<;>conv=>arg 3;whnf
          ·refine Ze rfl ?_ ?_<;>conv=>arg 3;whnf
           ·refine Zc (Za t0 t1 t2 t3 s0.1 x42.1 s0.2.2.1 x42.2 m1_0 m1_1 m1_2 m1_3 m1_4 m1_5) (hrc t0 t1 t2 t3 s0.1 x42.1 s0.2.2.1 x42.2 m1_0 m1_1 m1_2 m1_3 m1_4 m1_5) fun x43 hx43=>?_;conv=>arg 3;whnf
            exact Zf (ih _)
           ·refine Zc (Za t0 t1 t2 t3 s0.1 x42.1 s0.2.2.1 x42.2 m1_0 m1_1 m1_2 m1_3 m1_4 m1_5) (hrc t0 t1 t2 t3 s0.1 x42.1 s0.2.2.1 x42.2 m1_0 m1_1 m1_2 m1_3 m1_4 m1_5) fun x44 hx44=>?_;conv=>arg 3;whnf
            exact Zf (ih _)
          ·refine Ze rfl ?_ ?_<;>conv=>arg 3;whnf
           ·refine Zc (Za t0 t1 t2 t3 (w64 (x42.1+1)) s0.2.1 s0.2.2.1 x42.2 m1_0 m1_1 m1_2 m1_3 m1_4 m1_5) (hrc t0 t1 t2 t3 (w64 (x42.1+1)) s0.2.1 s0.2.2.1 x42.2 m1_0 m1_1 m1_2 m1_3 m1_4 m1_5) fun x45 hx45=>?_;conv=>arg 3;whnf
            exact Zf (ih _)
           ·refine Zc (Za t0 t1 t2 t3 (w64 (x42.1+1)) s0.2.1 s0.2.2.1 x42.2 m1_0 m1_1 m1_2 m1_3 m1_4 m1_5) (hrc t0 t1 t2 t3 (w64 (x42.1+1)) s0.2.1 s0.2.2.1 x42.2 m1_0 m1_1 m1_2 m1_3 m1_4 m1_5) fun x46 hx46=>?_;conv=>arg 3;whnf
            exact Zf (ih _)
         ·conv=>arg 3;whnf
          refine Zan rfl ?_;conv=>arg 3;whnf
          refine Zan rfl ?_;conv=>arg 3;whnf
          refine Ze rfl ?_ ?_<;>conv=>arg 3;whnf
          ·refine Ze rfl ?_ ?_<;>conv=>arg 3;whnf
           ·refine Zc (Za t0 t1 t2 t3 s0.1 x42.1 s0.2.2.1 x42.2 m1_0 m1_1 m1_2 m1_3 m1_4 m1_5) (hrc t0 t1 t2 t3 s0.1 x42.1 s0.2.2.1 x42.2 m1_0 m1_1 m1_2 m1_3 m1_4 m1_5) fun x47 hx47=>?_;conv=>arg 3;whnf
            exact Zf (ih _)
           ·refine Zc (Za t0 t1 t2 t3 s0.1 x42.1 s0.2.2.1 x42.2 m1_0 m1_1 m1_2 m1_3 m1_4 m1_5) (hrc t0 t1 t2 t3 s0.1 x42.1 s0.2.2.1 x42.2 m1_0 m1_1 m1_2 m1_3 m1_4 m1_5) fun x48 hx48=>?_;conv=>arg 3;whnf
            exact Zf (ih _)
          ·refine Ze rfl ?_ ?_<;>conv=>arg 3;whnf
           ·refine Zc (Za t0 t1 t2 t3 (w64 (x42.1+1)) s0.2.1 s0.2.2.1 x42.2 m1_0 m1_1 m1_2 m1_3 m1_4 m1_5) (hrc t0 t1 t2 t3 (w64 (x42.1+1)) s0.2.1 s0.2.2.1 x42.2 m1_0 m1_1 m1_2 m1_3 m1_4 m1_5) fun x49 hx49=>?_;conv=>arg 3;whnf
            exact Zf (ih _)
           ·refine Zc (Za t0 t1 t2 t3 (w64 (x42.1+1)) s0.2.1 s0.2.2.1 x42.2 m1_0 m1_1 m1_2 m1_3 m1_4 m1_5) (hrc t0 t1 t2 t3 (w64 (x42.1+1)) s0.2.1 s0.2.2.1 x42.2 m1_0 m1_1 m1_2 m1_3 m1_4 m1_5) fun x50 hx50=>?_;conv=>arg 3;whnf
            exact Zf (ih _)
      ·refine Ze rfl ?_ ?_<;>conv=>arg 3;whnf
       ·refine Zl rfl rfl fun x51 hx51=>?_;conv=>arg 3;whnf
        refine Zg (ZA rfl hx51) ?_;conv=>arg 3;whnf
        refine Zl rfl rfl fun x52 hx52=>?_;conv=>arg 3;whnf
        refine Zg (ZA rfl hx52) ?_;conv=>arg 3;whnf
        refine Zo _ ZF rfl fun x53 hx53=>?_;conv=>arg 3;whnf
        refine Ze rfl ?_ ?_<;>conv=>arg 3;whnf
        ·refine Zc _ Zk fun x54 hx54=>?_
         clear hx54
         rcases x54 with x54 | x54
         ·conv=>arg 3;whnf
          refine Zbe rfl ?_;conv=>arg 3;whnf
          refine Zan rfl ?_;conv=>arg 3;whnf
          refine Ze rfl ?_ ?_<;>conv=>arg 3;whnf
          ·refine Ze rfl ?_ ?_<;>conv=>arg 3;whnf
           ·refine Zc (Za t0 t1 t2 t3 s0.1 x54.1 s0.2.2.1 x54.2 m1_0 m1_1 m1_2 m1_3 m1_4 m1_5) (hrc t0 t1 t2 t3 s0.1 x54.1 s0.2.2.1 x54.2 m1_0 m1_1 m1_2 m1_3 m1_4 m1_5) fun x55 hx55=>?_;conv=>arg 3;whnf
            exact Zf (ih _)
           ·refine Zc (Za t0 t1 t2 t3 s0.1 x54.1 s0.2.2.1 x54.2 m1_0 m1_1 m1_2 m1_3 m1_4 m1_5) (hrc t0 t1 t2 t3 s0.1 x54.1 s0.2.2.1 x54.2 m1_0 m1_1 m1_2 m1_3 m1_4 m1_5) fun x56 hx56=>?_;conv=>arg 3;whnf
            exact Zf (ih _)
          ·refine Ze rfl ?_ ?_<;>conv=>arg 3;whnf
           ·refine Zc (Za t0 t1 t2 t3 (w64 (x54.1+1)) s0.2.1 s0.2.2.1 x54.2 m1_0 m1_1 m1_2 m1_3 m1_4 m1_5) (hrc t0 t1 t2 t3 (w64 (x54.1+1)) s0.2.1 s0.2.2.1 x54.2 m1_0 m1_1 m1_2 m1_3 m1_4 m1_5) fun x57 hx57=>?_;conv=>arg 3;whnf
            exact Zf (ih _)
           ·refine Zc (Za t0 t1 t2 t3 (w64 (x54.1+1)) s0.2.1 s0.2.2.1 x54.2 m1_0 m1_1 m1_2 m1_3 m1_4 m1_5) (hrc t0 t1 t2 t3 (w64 (x54.1+1)) s0.2.1 s0.2.2.1 x54.2 m1_0 m1_1 m1_2 m1_3 m1_4 m1_5) fun x58 hx58=>?_;conv=>arg 3;whnf
            exact Zf (ih _)
         ·conv=>arg 3;whnf
          refine Zan rfl ?_;conv=>arg 3;whnf
          refine Zan rfl ?_;conv=>arg 3;whnf
          refine Ze rfl ?_ ?_<;>conv=>arg 3;whnf
          ·refine Ze rfl ?_ ?_<;>conv=>arg 3;whnf
           ·refine Zc (Za t0 t1 t2 t3 s0.1 x54.1 s0.2.2.1 x54.2 m1_0 m1_1 m1_2 m1_3 m1_4 m1_5) (hrc t0 t1 t2 t3 s0.1 x54.1 s0.2.2.1 x54.2 m1_0 m1_1 m1_2 m1_3 m1_4 m1_5) fun x59 hx59=>?_;conv=>arg 3;whnf
            exact Zf (ih _)
           ·refine Zc (Za t0 t1 t2 t3 s0.1 x54.1 s0.2.2.1 x54.2 m1_0 m1_1 m1_2 m1_3 m1_4 m1_5) (hrc t0 t1 t2 t3 s0.1 x54.1 s0.2.2.1 x54.2 m1_0 m1_1 m1_2 m1_3 m1_4 m1_5) fun x60 hx60=>?_;conv=>arg 3;whnf
            exact Zf (ih _)
          ·refine Ze rfl ?_ ?_<;>conv=>arg 3;whnf
           ·refine Zc (Za t0 t1 t2 t3 (w64 (x54.1+1)) s0.2.1 s0.2.2.1 x54.2 m1_0 m1_1 m1_2 m1_3 m1_4 m1_5) (hrc t0 t1 t2 t3 (w64 (x54.1+1)) s0.2.1 s0.2.2.1 x54.2 m1_0 m1_1 m1_2 m1_3 m1_4 m1_5) fun x61 hx61=>?_;conv=>arg 3;whnf
            exact Zf (ih _)
           ·refine Zc (Za t0 t1 t2 t3 (w64 (x54.1+1)) s0.2.1 s0.2.2.1 x54.2 m1_0 m1_1 m1_2 m1_3 m1_4 m1_5) (hrc t0 t1 t2 t3 (w64 (x54.1+1)) s0.2.1 s0.2.2.1 x54.2 m1_0 m1_1 m1_2 m1_3 m1_4 m1_5) fun x62 hx62=>?_;conv=>arg 3;whnf
            exact Zf (ih _)
        ·refine Zc _ Zz fun x63 hx63=>?_;conv=>arg 3;whnf
         exact Zf (ih _)
       ·refine Zc _ Zk fun x64 hx64=>?_
        clear hx64
        rcases x64 with x64 | x64
        ·conv=>arg 3;whnf
         refine Zbe rfl ?_;conv=>arg 3;whnf
         refine Zan rfl ?_;conv=>arg 3;whnf
         refine Ze rfl ?_ ?_<;>conv=>arg 3;whnf
         ·refine Ze rfl ?_ ?_<;>conv=>arg 3;whnf
          ·refine Zc (Za t0 t1 t2 t3 s0.1 x64.1 s0.2.2.1 x64.2 m1_0 m1_1 m1_2 m1_3 m1_4 m1_5) (hrc t0 t1 t2 t3 s0.1 x64.1 s0.2.2.1 x64.2 m1_0 m1_1 m1_2 m1_3 m1_4 m1_5) fun x65 hx65=>?_;conv=>arg 3;whnf
           exact Zf (ih _)
          ·refine Zc (Za t0 t1 t2 t3 s0.1 x64.1 s0.2.2.1 x64.2 m1_0 m1_1 m1_2 m1_3 m1_4 m1_5) (hrc t0 t1 t2 t3 s0.1 x64.1 s0.2.2.1 x64.2 m1_0 m1_1 m1_2 m1_3 m1_4 m1_5) fun x66 hx66=>?_;conv=>arg 3;whnf
           exact Zf (ih _)
         ·refine Ze rfl ?_ ?_<;>conv=>arg 3;whnf
          ·refine Zc (Za t0 t1 t2 t3 (w64 (x64.1+1)) s0.2.1 s0.2.2.1 x64.2 m1_0 m1_1 m1_2 m1_3 m1_4 m1_5) (hrc t0 t1 t2 t3 (w64 (x64.1+1)) s0.2.1 s0.2.2.1 x64.2 m1_0 m1_1 m1_2 m1_3 m1_4 m1_5) fun x67 hx67=>?_;conv=>arg 3;whnf
           exact Zf (ih _)
          ·refine Zc (Za t0 t1 t2 t3 (w64 (x64.1+1)) s0.2.1 s0.2.2.1 x64.2 m1_0 m1_1 m1_2 m1_3 m1_4 m1_5) (hrc t0 t1 t2 t3 (w64 (x64.1+1)) s0.2.1 s0.2.2.1 x64.2 m1_0 m1_1 m1_2 m1_3 m1_4 m1_5) fun x68 hx68=>?_;conv=>arg 3;whnf
           exact Zf (ih _)
        ·conv=>arg 3;whnf
         refine Zan rfl ?_;conv=>arg 3;whnf
         refine Zan rfl ?_;conv=>arg 3;whnf
         refine Ze rfl ?_ ?_<;>conv=>arg 3;whnf
         ·refine Ze rfl ?_ ?_<;>conv=>arg 3;whnf
          ·refine Zc (Za t0 t1 t2 t3 s0.1 x64.1 s0.2.2.1 x64.2 m1_0 m1_1 m1_2 m1_3 m1_4 m1_5) (hrc t0 t1 t2 t3 s0.1 x64.1 s0.2.2.1 x64.2 m1_0 m1_1 m1_2 m1_3 m1_4 m1_5) fun x69 hx69=>?_;conv=>arg 3;whnf
           exact Zf (ih _)
          ·refine Zc (Za t0 t1 t2 t3 s0.1 x64.1 s0.2.2.1 x64.2 m1_0 m1_1 m1_2 m1_3 m1_4 m1_5) (hrc t0 t1 t2 t3 s0.1 x64.1 s0.2.2.1 x64.2 m1_0 m1_1 m1_2 m1_3 m1_4 m1_5) fun x70 hx70=>?_;conv=>arg 3;whnf
           exact Zf (ih _)
         ·refine Ze rfl ?_ ?_<;>conv=>arg 3;whnf
          ·refine Zc (Za t0 t1 t2 t3 (w64 (x64.1+1)) s0.2.1 s0.2.2.1 x64.2 m1_0 m1_1 m1_2 m1_3 m1_4 m1_5) (hrc t0 t1 t2 t3 (w64 (x64.1+1)) s0.2.1 s0.2.2.1 x64.2 m1_0 m1_1 m1_2 m1_3 m1_4 m1_5) fun x71 hx71=>?_;conv=>arg 3;whnf
           exact Zf (ih _)
          ·refine Zc (Za t0 t1 t2 t3 (w64 (x64.1+1)) s0.2.1 s0.2.2.1 x64.2 m1_0 m1_1 m1_2 m1_3 m1_4 m1_5) (hrc t0 t1 t2 t3 (w64 (x64.1+1)) s0.2.1 s0.2.2.1 x64.2 m1_0 m1_1 m1_2 m1_3 m1_4 m1_5) fun x72 hx72=>?_;conv=>arg 3;whnf
           exact Zf (ih _)
theorem ZdZ (rc:Int→Int→Int→(Int→Int→Option Int)→(List Int)→Option (List Int)) (hrc:∀(t0:Bool) (t1:Bool) (t2:Bool) (t3:Bool) (b:Int) (c:Int) (d:Int) (m0_0:(List Int)) (m1_0:Int) (m1_1:Int) (m1_2:(List ZV)) (m1_3:(List Zm)) (m1_4:(List Zi)) (m1_5:(List Zs)) (r:(List Int)),rc b c d (fun z0 z1=>Zt z0 z1 m1_4) m0_0=some r→evW ctx 124 [(.sl 0 1),(.d (Zb b)),(.d (Zb c)),(.d (Zb d)),(.fn 118 [(.ptr 1 0)])] [(.arr 1 (List.map Zb m0_0)),(.cells [(.d (Zb m1_0)),(.d (Zb m1_1)),(.d (D.list t0 (List.map Z3 m1_2))),(.d (D.list t1 (List.map ZC m1_3))),(.d (D.list t2 (List.map Zq m1_4))),(.d (D.list t3 (List.map Zv m1_5)))])]=some ((Za t0 t1 t2 t3 b c d m0_0 m1_0 m1_1 m1_2 m1_3 m1_4 m1_5) r)) (t0:Bool) (t1:Bool) (t2:Bool) (t3:Bool) (b:Int) (c:Int) (d:Int) (m0_0:(List Int)) (m1_0:Int) (m1_1:Int) (m1_2:(List ZV)) (m1_3:(List Zm)) (m1_4:(List Zi)) (m1_5:(List Zs)):∀r,(Zau rc b c d (fun z0 z1=>Zt z0 z1 m1_4) m0_0)=some r→evW ctx 124 [(.sl 0 1),(.d (Zb b)),(.d (Zb c)),(.d (Zb d)),(.fn 118 [(.ptr 1 0)])] [(.arr 1 (List.map Zb m0_0)),(.cells [(.d (Zb m1_0)),(.d (Zb m1_1)),(.d (D.list t0 (List.map Z3 m1_2))),(.d (D.list t1 (List.map ZC m1_3))),(.d (D.list t2 (List.map Zq m1_4))),(.d (D.list t3 (List.map Zv m1_5)))])]=some ((Za t0 t1 t2 t3 b c d m0_0 m1_0 m1_1 m1_2 m1_3 m1_4 m1_5) r):=by
 show ZN _ (fun r rhs=>rhs=some ((Za t0 t1 t2 t3 b c d m0_0 m1_0 m1_1 m1_2 m1_3 m1_4 m1_5) r)) _
 unfold Zau
 rw[Zfd ctx 124 Zxw _ _ rfl rfl]
 conv=>arg 3;whnf
 refine Zc _ (ZdV hrc _) fun r219 hr219=>?_;conv=>arg 3;whnf
 exact Zd rfl
theorem Zb0:∀(n:Nat) (t0:Bool) (t1:Bool) (t2:Bool) (t3:Bool) (b:Int) (c:Int) (d:Int) (m0_0:(List Int)) (m1_0:Int) (m1_1:Int) (m1_2:(List ZV)) (m1_3:(List Zm)) (m1_4:(List Zi)) (m1_5:(List Zs)) (r:(List Int)),ZY n b c d (fun z0 z1=>Zt z0 z1 m1_4) m0_0=some r→evW ctx 124 [(.sl 0 1),(.d (Zb b)),(.d (Zb c)),(.d (Zb d)),(.fn 118 [(.ptr 1 0)])] [(.arr 1 (List.map Zb m0_0)),(.cells [(.d (Zb m1_0)),(.d (Zb m1_1)),(.d (D.list t0 (List.map Z3 m1_2))),(.d (D.list t1 (List.map ZC m1_3))),(.d (D.list t2 (List.map Zq m1_4))),(.d (D.list t3 (List.map Zv m1_5)))])]=some ((Za t0 t1 t2 t3 b c d m0_0 m1_0 m1_1 m1_2 m1_3 m1_4 m1_5) r)
  | 0,t0,t1,t2,t3,b,c,d,m0_0,m1_0,m1_1,m1_2,m1_3,m1_4,m1_5,r,h=>by cases h
  | n+1,t0,t1,t2,t3,b,c,d,m0_0,m1_0,m1_1,m1_2,m1_3,m1_4,m1_5,r,h=>ZdZ (ZY n) (Zb0 n) t0 t1 t2 t3 b c d m0_0 m1_0 m1_1 m1_2 m1_3 m1_4 m1_5 r h
theorem Zeo {t0:Bool}{t1:Bool}{t2:Bool}{t3:Bool}{b:Int}{c:Int}{d:Int}{m0_0:(List Int)}{m1_0:Int}{m1_1:Int}{m1_2:(List ZV)}{m1_3:(List Zm)}{m1_4:(List Zi)}{m1_5:(List Zs)}:∀r,Zdm b c d (fun z0 z1=>Zt z0 z1 m1_4) m0_0=some r→evW ctx 124 [(.sl 0 1),(.d (Zb b)),(.d (Zb c)),(.d (Zb d)),(.fn 118 [(.ptr 1 0)])] [(.arr 1 (List.map Zb m0_0)),(.cells [(.d (Zb m1_0)),(.d (Zb m1_1)),(.d (D.list t0 (List.map Z3 m1_2))),(.d (D.list t1 (List.map ZC m1_3))),(.d (D.list t2 (List.map Zq m1_4))),(.d (D.list t3 (List.map Zv m1_5)))])]=some ((Za t0 t1 t2 t3 b c d m0_0 m1_0 m1_1 m1_2 m1_3 m1_4 m1_5) r):=fun r h=>by
  obtain⟨n,hn⟩:=Zyt h
  exact Zb0 n t0 t1 t2 t3 b c d m0_0 m1_0 m1_1 m1_2 m1_3 m1_4 m1_5 r hn
def Zcl (t0:Bool) (t1:Bool) (t2:Bool) (t3:Bool) (m0_0:(List Int)) (m1_0:Int) (m1_1:Int) (m1_2:(List ZV)) (m1_3:(List Zm)) (m1_4:(List Zi)) (m1_5:(List Zs)):(List Int)→V×Zp
  | r=>((.d (D.tup [])),[(.arr 1 (List.map Zb r)),(.cells [(.d (Zb m1_0)),(.d (Zb m1_1)),(.d (D.list t0 (List.map Z3 m1_2))),(.d (D.list t1 (List.map ZC m1_3))),(.d (D.list t2 (List.map Zq m1_4))),(.d (D.list t3 (List.map Zv m1_5)))])])
theorem Zen {t0:Bool}{t1:Bool}{t2:Bool}{t3:Bool}{m0_0:(List Int)}{m1_0:Int}{m1_1:Int}{m1_2:(List ZV)}{m1_3:(List Zm)}{m1_4:(List Zi)}{m1_5:(List Zs)}:∀r,(ZaK (fun z0 z1=>Zt z0 z1 m1_4) m0_0)=some r→evW ctx 117 [(.sl 0 1),(.fn 118 [(.ptr 1 0)])] [(.arr 1 (List.map Zb m0_0)),(.cells [(.d (Zb m1_0)),(.d (Zb m1_1)),(.d (D.list t0 (List.map Z3 m1_2))),(.d (D.list t1 (List.map ZC m1_3))),(.d (D.list t2 (List.map Zq m1_4))),(.d (D.list t3 (List.map Zv m1_5)))])]=some ((Zcl t0 t1 t2 t3 m0_0 m1_0 m1_1 m1_2 m1_3 m1_4 m1_5) r):=by
 show ZN _ (fun r rhs=>rhs=some ((Zcl t0 t1 t2 t3 m0_0 m1_0 m1_1 m1_2 m1_3 m1_4 m1_5) r)) _
 unfold ZaK
 rw[Zfd ctx 117 Zvl _ _ rfl rfl]
 conv=>arg 3;whnf
 refine Zn (ZH _ _) ?_;conv=>arg 3;whnf
 refine Zo _ ZhS rfl fun x0 hx0=>?_;conv=>arg 3;whnf
 refine Zc _ Zeo fun x1 hx1=>?_;conv=>arg 3;whnf
 exact Zd rfl
def Ziz (r:(List Int)):D:=(D.list true (List.map Zb r))
def Zhb (t0:Bool) (t1:Bool) (t2:Bool) (t3:Bool) (a:Zj) (b:Int):(List Int)→Ex×List V×Zp
  | r=>(.exit 0,[(.ptr 0 0),(.sl 1 1)],[(.cells (dV t0 t1 t2 t3 a)),(.arr 1 (List.map Zb r))])
theorem Zke {t0:Bool}{t1:Bool}{t2:Bool}{t3:Bool}{a:Zj}{b:Int}:∀(s1:Int×(List Int)) (r:(List Int)),lp (Zc8 a b) s1=some r→lpW ctx 0 [1,2,5,12,13,14] [2,5] Zuv [(.d (Zb b)),(.ptr 0 0),(.sl 1 1),(.d (D.list t2 (List.map Zq a.futures))),(.d (Zb (a.futures.length:Int))),(.d (Zb s1.1))] [(.cells (dV t0 t1 t2 t3 a)),(.arr 1 (List.map Zb s1.2))]=some ((Zhb t0 t1 t2 t3 a b) r):=by
 refine ZaT (Zhb t0 t1 t2 t3 a b) ?_
 intro s1 rcl ih
 show ZN _ _ (lpW _ _ _ _ _ _ _)
 unfold Zc8
 rw[ZaV]
 conv=>arg 3;whnf
 refine Ze rfl ?_ ?_<;>conv=>arg 3;whnf
 ·refine Zl rfl rfl fun x2 hx2=>?_;conv=>arg 3;whnf
  refine Ze rfl ?_ ?_<;>conv=>arg 3;whnf
  ·refine Zbe rfl ?_;conv=>arg 3;whnf
   refine Ze (ZgK Zb s1.2 1) ?_ ?_
   ·conv=>arg 3;whnf
    refine Zn (ZgJ Zb s1.2 [s1.1]) ?_;conv=>arg 3;whnf
    exact Zf (ih _)
   ·exact Z1
  ·exact Zf (ih _)
 ·exact Zd rfl
theorem Zib {t0:Bool}{t1:Bool}{t2:Bool}{t3:Bool}{a:Zj}{b:Int}:∀r,(Zcz a b)=some r→evD ctx 101 [(.d (D.agg (dA t0 t1 t2 t3 a))),(.d (Zb b))]=some (Ziz r):=by
 show ZN _ (fun r rhs=>rhs=some (Ziz r)) _
 unfold Zcz
 rw[ZaU ctx 101 ZvU _ rfl rfl]
 conv=>arg 3;whnf
 refine Zo _ Zg5 rfl fun x0 hx0=>?_;conv=>arg 3;whnf
 refine Ze rfl ?_ ?_<;>conv=>arg 3;whnf
 ·exact Zd rfl
 ·refine Zn (ZH _ _) ?_;conv=>arg 3;whnf
  refine Zc _ (Zke _) fun r3 hr3=>?_;conv=>arg 3;whnf
  refine Zc _ Zen fun x4 hx4=>?_;conv=>arg 3;whnf
  exact Zd rfl
def Zgo (b:Zh) (c:Int) (m1_0:(List Int)) (m2_0:(List Zm)) (m3_0:(List Zh)) (m4_0:(List (Int×Int))) (m5_0:(List (Int×Int))) (m6_0:(List (Zi×Int))):Unit→V×Zp
  | r=>((.d (Zb (w64 ((List.length (m3_0++[b]):Int)-1)))),[(.cells [(.sl 7 1),(.sl 2 2),(.sl 8 2),(.mp 4),(.mp 5),(.mp 6)]),.dead,(.arr 2 (List.map ZC m2_0)),.dead,(.mp (mpD Zb Zb m4_0)),(.mp (mpD Zb Zb m5_0)),(.mp (mpD Zq Zb m6_0)),(.arr 1 (List.map Zb (m1_0++[c]))),(.arr 2 (List.map Zbg (m3_0++[b])))])
theorem ZaM {b:Zh}{c:Int}{m1_0:(List Int)}{m2_0:(List Zm)}{m3_0:(List Zh)}{m4_0:(List (Int×Int))}{m5_0:(List (Int×Int))}{m6_0:(List (Zi×Int))}:∀r,(Zal b c m1_0 m3_0)=some r→evW ctx 68 [(.ptr 0 0),(.d (D.agg [(Zb b.part),(Zb b.step)])),(.d (Zb c))] [(.cells [(.sl 1 1),(.sl 2 2),(.sl 3 2),(.mp 4),(.mp 5),(.mp 6)]),(.arr 1 (List.map Zb m1_0)),(.arr 2 (List.map ZC m2_0)),(.arr 2 (List.map Zbg m3_0)),(.mp (mpD Zb Zb m4_0)),(.mp (mpD Zb Zb m5_0)),(.mp (mpD Zq Zb m6_0))]=some ((Zgo b c m1_0 m2_0 m3_0 m4_0 m5_0 m6_0) r):=by
 show ZN _ (fun r rhs=>rhs=some ((Zgo b c m1_0 m2_0 m3_0 m4_0 m5_0 m6_0) r)) _
 unfold Zal
 rw[Zfd ctx 68 Zzg _ _ rfl rfl]
 conv=>arg 3;whnf
 refine Zbe rfl ?_;conv=>arg 3;whnf
 refine Ze (ZgK Zbg m3_0 1) ?_ ?_
 ·conv=>arg 3;whnf
  refine Zn (ZgJ Zbg m3_0 [b]) ?_;conv=>arg 3;whnf
  refine Zbe rfl ?_;conv=>arg 3;whnf
  refine Ze (ZgK Zb m1_0 1) ?_ ?_
  ·conv=>arg 3;whnf
   refine Zn (ZgJ Zb m1_0 [c]) ?_;conv=>arg 3;whnf
   refine Zn (ZH _ _) ?_;conv=>arg 3;whnf
   exact Zd rfl
  ·exact Z1
 ·exact Z1
end Go.Proofs.YtnmbdjkbaihicaaDoor
