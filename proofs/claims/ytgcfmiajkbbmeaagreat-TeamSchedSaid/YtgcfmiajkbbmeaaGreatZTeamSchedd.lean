/- TeamSched: part 4 of 5 of the proof. -/
import Derived.Test.YtgcfmiajkbbmeaaGreatZTeamSchedc
import Derived.Sort.AssemblyPlain
import Derived.KernelRfl
set_option maxRecDepth 100000
set_option maxHeartbeats 40000000
set_option linter.unusedVariables false
set_option linter.unusedSimpArgs false
namespace Go.Proofs.YtgcfmiajkbbmeaaGreat
open Go Go.Proofs.YtgcfmiajkbbmeaaGreatE
open Go.IntKind (u64 i64 u32 i32 u8)
def upd {α:Type} (f:Nat→α) (c:Nat) (v:α):Nat→α:=fun k=>if k=c then v else f k
theorem ZY {α:Type} (f:Nat→α) (c:Nat) (v:α):upd f c v c=v:=if_pos rfl
theorem Zrj {α:Type} (f:Nat→α) {c k:Nat} (v:α) (h:k≠c):upd f c v k=f k:=if_neg h
structure Zc where
 T:Nat→Int
 B:Nat→Int
 R:Nat→Int→Int
 O:Nat→Int
 a:Nat→Int
 x:Nat→Int
 y:Nat→Int
 z:Nat→Int
 F:Nat→Nat
def vic (m c f:Nat):Nat:=(c+f) % m
def Zc.fresh (V:Zc) (c f:Nat):Zc:=⟨V.T,V.B,V.R,V.O,upd V.a c 0,upd V.x c 0,upd V.y c 0,upd V.z c 0,upd V.F c f⟩
def Zc.got (V:Zc) (c:Nat) (n:Int):Zc:=⟨V.T,V.B,V.R,upd V.O c n,upd V.a c 0,upd V.x c 0,upd V.y c 0,upd V.z c 0,upd V.F c 0⟩
def Zc.setT (V:Zc) (c:Nat) (n:Int):Zc:=⟨upd V.T c n,V.B,V.R,V.O,V.a,V.x,V.y,V.z,V.F⟩
def Zc.setB (V:Zc) (c:Nat) (n:Int):Zc:=⟨V.T,upd V.B c n,V.R,V.O,V.a,V.x,V.y,V.z,V.F⟩
def Zc.tk (V:Zc) (c:Nat) (a x y z:Int):Zc:=⟨V.T,V.B,V.R,V.O,upd V.a c a,upd V.x c x,upd V.y c y,upd V.z c z,V.F⟩
def Zab (m:Nat) (V:Zc) (c:Nat):Zc:=
 if V.F c=0 then
  if V.a c=0 then (V.setB c (V.B c-1)).tk c 1 (V.x c) (V.B c-1) (V.z c)
  else if V.a c=1 then
   if V.T c<V.y c then V.got c (V.R c (V.y c))
   else if V.T c=V.y c then V.tk c 2 (V.T c) (V.y c) (V.z c)
   else V.tk c 3 (V.T c) (V.y c) (V.z c)
  else if V.a c=2 then
   if V.T c=V.x c then (V.setT c (V.T c+1)).tk c 4 (V.x c) (V.y c) (V.R c (V.y c))
   else V.tk c 3 (V.x c) (V.y c) (V.z c)
  else if V.a c=4 then (V.setB c (V.y c+1)).got c (V.z c)
  else (V.setB c (V.y c+1)).fresh c (1 % m)
 else
  if V.a c=0 then V.tk c 1 (V.T (vic m c (V.F c))) (V.y c) (V.z c)
  else if V.a c=1 then
   if V.x c<V.B (vic m c (V.F c)) then V.tk c 2 (V.x c) (V.B (vic m c (V.F c))) (V.z c)
   else V.fresh c ((V.F c+1) % m)
  else if V.a c=2 then V.tk c 3 (V.x c) (V.y c) (V.R (vic m c (V.F c)) (V.x c))
  else if V.T (vic m c (V.F c))=V.x c then (V.setT (vic m c (V.F c)) (V.T (vic m c (V.F c))+1)).got c (V.z c)
  else V.fresh c ((V.F c+1) % m)
def Zc.be (V:Zc) (c:Nat):Int:=if V.F c=0∧0<V.a c then V.B c+1 else V.B c
def Zc.lo (V:Zc) (c:Nat):Int:=if V.F c=0∧V.a c=4 then V.T c-1 else V.T c
structure Pos (m:Nat) (V:Zc) (c:Nat):Prop where
 F:V.F c<m
 busy:V.O c ≠ -1→V.a c=0∧V.F c=0
 a0:0≤V.a c
 a4:V.a c≤4
 a3:V.F c≠0→V.a c≤3
 T0:0≤V.T c
 TB:V.T c≤V.be c
 B64:V.be c≤64
 o1:V.F c=0→0<V.a c→V.y c=V.B c
 o2:V.F c=0→V.a c=2→V.x c=V.y c∧V.x c≤V.T c
 o3:V.F c=0→V.a c=3∨V.a c=4→V.T c=V.B c+1
 o4:V.F c=0→V.a c=4→V.z c=V.R c (V.B c)
 t1:V.F c≠0→0<V.a c→0≤V.x c∧V.x c≤V.T (vic m c (V.F c))
 t2:V.F c≠0→2≤V.a c→V.x c=V.T (vic m c (V.F c))→V.T (vic m c (V.F c))<V.be (vic m c (V.F c))
 t3:V.F c≠0→V.a c=3→V.z c=V.R (vic m c (V.F c)) (V.x c)
 rx : -1≤V.x c∧V.x c≤64
 ry : -1≤V.y c∧V.y c≤64
def Item (m:Nat) (V:Zc) (c:Nat) (k:Int):Prop:=c<m∧V.lo c≤k∧k<V.be c
structure ZoL (m:Nat) (base:Int→Prop) (V:Zc):Prop where
 rdy:∀c k,Item m V c k→base (V.R c k)∧∀i,i<m→V.O i≠V.R c k
 inj:∀c k c' k',Item m V c k→Item m V c' k'→V.R c k=V.R c' k'→c=c'∧k=k'
 all:∀n,base n→(∀i,i<m→V.O i≠n)→∃c k,Item m V c k∧V.R c k=n
structure Inv (m:Nat) (base:Int→Prop) (V:Zc):Prop where
 pos:∀c,c<m→Pos m V c
 items:ZoL m base V
theorem Zn8 {m:Nat} (hm:0<m) (c f:Nat):vic m c f<m:=Nat.mod_lt _ hm
theorem ZAq {m c f:Nat} (hc:c<m) (hf:f<m) (h0:f≠0):vic m c f≠c:=by
 unfold vic
 intro h
 by_cases hl:c+f<m
 ·rw[Nat.mod_eq_of_lt hl] at h;omega
 ·rw[Nat.mod_eq_sub_mod (by omega),Nat.mod_eq_of_lt (by omega)] at h;omega
theorem Zr7 {m c:Nat} (hc:c<m):vic m c 0=c:=by unfold vic;rw[Nat.add_zero,Nat.mod_eq_of_lt hc]
theorem Pos.other {m:Nat}{V W:Zc}{c i:Nat} (hm:0<m) (all:∀j,j<m→V.T j≤V.be j) (p:Pos m V i) (hi:i<m)
  (hT:∀j,j<m→W.T j=V.T j∨(W.T j=V.T j+1∧V.T j<V.be j))
  (hb:∀j,j<m→W.be j=V.be j∨(j=c∧W.be j=V.be j-1∧V.T j<W.be j∧W.T j=V.T j))
  (hne:i≠c) (hF:W.F i=V.F i) (ha:W.a i=V.a i) (hx:W.x i=V.x i) (hy:W.y i=V.y i) (hz:W.z i=V.z i) (hO:W.O i=V.O i) (hB:W.B i=V.B i) (hR:W.R=V.R):Pos m W i:=by
 have hTi:=hT i hi
 have hbi:W.be i=V.be i:=by
  rcases hb i hi with h | ⟨h,_⟩
  ·exact h
  ·exact absurd h hne
 have hv:=Zn8 hm i (V.F i)
 have hTv:=hT _ hv
 have hbv:=hb _ hv
 refine⟨by rw[hF];exact p.F,fun h=>?_,by rw[ha];exact p.a0,by rw[ha];exact p.a4,fun h=>?_,?_,?_,by rw[hbi];exact p.B64,fun h h2=>?_,fun h h2=>?_,fun h h2=>?_,fun h h2=>?_,fun h h2=>?_,fun h h2 h3=>?_,fun h h2=>?_,by rw[hx];exact p.rx,by rw[hy];exact p.ry⟩
 ·rw[hO] at h;rw[ha,hF];exact p.busy h
 ·rw[hF] at h;rw[ha];exact p.a3 h
 ·have:=p.T0;rcases hTi with h | h<;>omega
 ·have:=p.TB;rw[hbi];rcases hTi with h | h<;>omega
 ·rw[hF] at h;rw[ha] at h2;rw[hy,hB];exact p.o1 h h2
 ·rw[hF] at h;rw[ha] at h2
  have:=p.o2 h h2
  rw[hx,hy]
  refine⟨this.1,?_⟩
  rcases hTi with h | h<;>omega
 ·rw[hF] at h;rw[ha] at h2
  have h3:=p.o3 h h2
  rw[hB]
  rcases hTi with h4 | ⟨h4,h5⟩
  ·omega
  ·have:V.be i=V.B i+1:=by unfold Zc.be;rw[if_pos ⟨h,by omega⟩]
   omega
 ·rw[hF] at h;rw[ha] at h2;rw[hz,hR,hB];exact p.o4 h h2
 ·rw[hF] at h ⊢;rw[ha] at h2
  have:=p.t1 h h2
  rw[hx]
  refine⟨this.1,?_⟩
  rcases hTv with h | h<;>omega
 ·rw[hF] at h h3 ⊢;rw[ha] at h2;rw[hx] at h3
  have h5:=p.t1 h (by omega)
  rcases hTv with h4 | ⟨h4,_⟩
  ·have h6:=p.t2 h h2 (by omega)
   rcases hbv with h7 | ⟨_,h7,h8,_⟩<;>omega
  ·omega
 ·rw[hF] at h ⊢;rw[ha] at h2;rw[hz,hR,hx];exact p.t3 h h2
theorem ZoL.same {m:Nat}{base:Int→Prop}{V W:Zc} (h:ZoL m base V) (hlo:∀j,j<m→W.lo j=V.lo j) (hbe:∀j,j<m→W.be j=V.be j) (hO:∀j,j<m→W.O j=V.O j) (hR:W.R=V.R):ZoL m base W:=by
 have it:∀c k,Item m W c k↔Item m V c k:=fun c k=>by
  unfold Item
  constructor
  ·rintro ⟨h1,h2,h3⟩;rw[hlo c h1] at h2;rw[hbe c h1] at h3;exact⟨h1,h2,h3⟩
  ·rintro ⟨h1,h2,h3⟩;rw[← hlo c h1] at h2;rw[← hbe c h1] at h3;exact⟨h1,h2,h3⟩
 refine⟨fun c k hi=>?_,fun c k c' k' h1 h2 h3=>?_,fun n hn ho=>?_⟩
 ·rw[hR]
  obtain⟨h1,h2⟩:=h.rdy c k ((it c k).1 hi)
  exact⟨h1,fun i hi=>by rw[hO i hi];exact h2 i hi⟩
 ·rw[hR] at h3
  exact h.inj c k c' k' ((it c k).1 h1) ((it c' k').1 h2) h3
 ·obtain⟨c,k,h1,h2⟩:=h.all n hn fun i hi=>by rw[← hO i hi];exact ho i hi
  exact⟨c,k,(it c k).2 h1,by rw[hR];exact h2⟩
theorem ZoL.take {m:Nat}{base:Int→Prop}{V W:Zc}{c v:Nat}{k0:Int} (h:ZoL m base V) (hc:c<m) (hidle:V.O c = -1) (hb:∀n,base n→n ≠ -1) (hit:Item m V v k0)
  (it:∀i k,Item m W i k↔Item m V i k∧¬(i=v∧k=k0)) (hO:W.O c=V.R v k0) (hO2:∀j,j<m→j≠c→W.O j=V.O j) (hR:W.R=V.R):ZoL m base W:=by
 refine⟨fun i k hi=>?_,fun i k i' k' h1 h2 h3=>?_,fun n hn ho=>?_⟩
 ·obtain⟨h1,h2⟩:=(it i k).1 hi
  obtain⟨h3,h4⟩:=h.rdy i k h1
  rw[hR]
  refine⟨h3,fun j hj=>?_⟩
  by_cases e:j=c
  ·rw[e,hO]
   intro he
   exact h2 (by have:=h.inj v k0 i k hit h1 he;exact⟨this.1.symm,this.2.symm⟩)
  ·rw[hO2 j hj e];exact h4 j hj
 ·rw[hR] at h3
  exact h.inj i k i' k' ((it i k).1 h1).1 ((it i' k').1 h2).1 h3
 ·have hne:n≠V.R v k0:=fun e=>ho c hc (by rw[hO,e])
  obtain⟨i,k,h1,h2⟩:=h.all n hn fun j hj=>by
   by_cases e:j=c
   ·rw[e,hidle];exact fun he=>hb n hn he.symm
   ·rw[← hO2 j hj e];exact ho j hj
  refine⟨i,k,(it i k).2 ⟨h1,fun⟨e1,e2⟩=>hne ?_⟩,by rw[hR];exact h2⟩
  rw[← h2,e1,e2]
theorem Pos.fresh0 {m:Nat}{W:Zc}{c:Nat} (hF:W.F c<m) (ha:W.a c=0) (hx:W.x c=0) (hy:W.y c=0) (hO:W.O c ≠ -1→W.F c=0) (h0:0≤W.T c) (h1:W.T c≤W.B c) (h2:W.B c≤64):Pos m W c:=by
 have hb:W.be c=W.B c:=by unfold Zc.be;rw[if_neg (by omega)]
 refine⟨hF,fun h=>⟨ha,hO h⟩,by omega,by omega,fun _=>by omega,h0,by omega,by omega,fun _ h=>by omega,fun _ h=>by omega,fun _ h=>by omega,fun _ h=>by omega,fun _ h=>by omega,fun _ h=>by omega,fun _ h=>by omega,by omega,by omega⟩
theorem Pos.owner {m:Nat}{W:Zc}{c:Nat} (hm:0<m) (hF:W.F c=0) (hO:W.O c = -1) (ha:1≤W.a c∧W.a c≤4) (hy:W.y c=W.B c) (h0:0≤W.T c) (h1:W.T c≤W.B c+1) (h2:W.B c+1≤64)
  (q2:W.a c=2→W.x c=W.y c∧W.x c≤W.T c) (q3:W.a c=3∨W.a c=4→W.T c=W.B c+1) (q4:W.a c=4→W.z c=W.R c (W.B c)) (rx : -1≤W.x c∧W.x c≤64):Pos m W c:=by
 have hb:W.be c=W.B c+1:=by unfold Zc.be;rw[if_pos ⟨hF,by omega⟩]
 refine⟨by omega,fun h=>absurd hO h,by omega,by omega,fun h=>absurd hF h,h0,by omega,by omega,fun _ _=>hy,fun _ h=>q2 h,fun _ h=>q3 h,fun _ h=>q4 h,fun h=>absurd hF h,fun h=>absurd hF h,fun h=>absurd hF h,rx,by omega⟩
theorem Pos.thief {m:Nat}{V W:Zc}{c:Nat} (p:Pos m V c) (hF:W.F c=V.F c) (h0:V.F c≠0) (hO:W.O c = -1) (hT:W.T=V.T) (hB:W.B=V.B) (hbe:∀j,W.be j=V.be j) (ha:1≤W.a c∧W.a c≤3) (q1:0≤W.x c∧W.x c≤V.T (vic m c (V.F c)))
  (q2:2≤W.a c→W.x c=V.T (vic m c (V.F c))→V.T (vic m c (V.F c))<V.be (vic m c (V.F c))) (q3:W.a c=3→W.z c=W.R (vic m c (V.F c)) (W.x c)) (rx:W.x c≤64) (ry : -1≤W.y c∧W.y c≤64):Pos m W c:=by
 have h0':W.F c≠0:=by rw[hF];exact h0
 refine⟨by rw[hF];exact p.F,fun h=>absurd hO h,by omega,by omega,fun _=>by omega,by rw[hT];exact p.T0,by rw[hT,hbe];exact p.TB,by rw[hbe];exact p.B64,fun h=>absurd h h0',fun h=>absurd h h0',fun h=>absurd h h0',fun h=>absurd h h0',?_,?_,?_,by omega,ry⟩
 ·intro _ _;rw[hF,hT];exact q1
 ·intro _ h h2;rw[hF,hT] at h2 ⊢;rw[hbe];exact q2 h h2
 ·intro _ h;rw[hF];exact q3 h
def ZtO (m:Nat) (base:Int→Prop) (V W:Zc) (c:Nat):Prop:=
 (∀j,W.O j=V.O j)∨(base (W.O c)∧(∀i,i<m→V.O i≠W.O c)∧∀j,j≠c→W.O j=V.O j)
theorem Inv.step {m:Nat}{base:Int→Prop}{V:Zc}{c:Nat} (I:Inv m base V) (hb:∀n,base n→n ≠ -1) (hc:c<m) (hidle:V.O c = -1):Inv m base (Zab m V c)∧ZtO m base V (Zab m V c) c∧(Zab m V c).R=V.R:=by
 have hm:0<m:=by omega
 have p:=I.pos c hc
 have TB:∀j,j<m→V.T j≤V.be j:=fun j hj=>(I.pos j hj).TB
 obtain⟨pF,_,pa0,pa4,pa3,pT0,pTB,pB64,po1,po2,po3,po4,pt1,pt2,pt3,prx,pry⟩:=p
 have quiet:∀W:Zc,W.R=V.R→W.T=V.T→(∀j,W.O j=V.O j)→(∀j,W.be j=V.be j)→(∀j,W.lo j=V.lo j)→(∀i,i≠c→W.F i=V.F i∧W.a i=V.a i∧W.x i=V.x i∧W.y i=V.y i∧W.z i=V.z i∧W.B i=V.B i)→Pos m W c→Inv m base W∧ZtO m base V W c∧W.R=V.R:=by
  intro W hR hT hO hbe hlo hsame hp
  refine⟨⟨fun i hi=>?_,I.items.same (fun j _=>hlo j) (fun j _=>hbe j) (fun j _=>hO j) hR⟩,.inl hO,hR⟩
  by_cases e:i=c
  ·rw[e];exact hp
  ·obtain⟨s1,s2,s3,s4,s5,s6⟩:=hsame i e
   exact(I.pos i hi).other (c:=c) hm TB hi (fun j _=>.inl (by rw[hT])) (fun j _=>.inl (hbe j)) e s1 s2 s3 s4 s5 (hO i) s6 hR
 have hv:=Zn8 hm c (V.F c)
 unfold Zab
 by_cases hF:V.F c=0
 ·rw[if_pos hF]
  by_cases a0:V.a c=0
  ·rw[if_pos a0]
   have hbc:V.be c=V.B c:=by unfold Zc.be;rw[if_neg (by omega)]
   refine quiet _ rfl rfl (fun _=>rfl) (fun j=>?_) (fun j=>?_) (fun i e=>?_) ?_
   ·by_cases e:j=c
    ·subst e;simp[Zc.be,Zc.tk,Zc.setB,upd,hF,a0]
    ·simp[Zc.be,Zc.tk,Zc.setB,upd,e]
   ·by_cases e:j=c
    ·subst e;simp[Zc.lo,Zc.tk,Zc.setB,upd,hF,a0]
    ·simp[Zc.lo,Zc.tk,Zc.setB,upd,e]
   ·simp[Zc.tk,Zc.setB,upd,e]
   ·refine Pos.owner hm hF hidle ?_ ?_ pT0 ?_ ?_ ?_ ?_ ?_ ?_<;>simp only[Zc.tk,Zc.setB,ZY]
    ·omega
    ·omega
    ·omega
    ·intro h;omega
    ·intro h;omega
    ·intro h;omega
    ·exact prx
  rw[if_neg a0]
  have hbc:V.be c=V.B c+1:=by unfold Zc.be;rw[if_pos ⟨hF,by omega⟩]
  have hy:=po1 hF (by omega)
  by_cases a1:V.a c=1
  ·rw[if_pos a1]
   by_cases h1:V.T c<V.y c
   ·
    rw[if_pos h1]
    have it0:Item m V c (V.y c):=⟨hc,by unfold Zc.lo;rw[if_neg (by omega)];omega,by omega⟩
    have beW:∀j,j≠c→(V.got c (V.R c (V.y c))).be j=V.be j:=fun j e=>by simp[Zc.be,Zc.got,upd,e]
    have beC:(V.got c (V.R c (V.y c))).be c=V.B c:=by simp[Zc.be,Zc.got,upd]
    have loW:∀j,(V.got c (V.R c (V.y c))).lo j=V.lo j:=fun j=>by
     by_cases e:j=c
     ·subst e;simp[Zc.lo,Zc.got,upd,a1]
     ·simp[Zc.lo,Zc.got,upd,e]
    refine⟨⟨fun i hi=>?_,?_⟩,.inr ⟨?_,?_,fun j e=>by simp[Zc.got,upd,e]⟩,rfl⟩
    ·by_cases e:i=c
     ·rw[e]
      refine Pos.fresh0 ?_ ?_ ?_ ?_ ?_ pT0 ?_ ?_<;>simp only[Zc.got,ZY]
      ·exact hm
      ·exact fun _=>trivial
      ·omega
      ·omega
     ·refine(I.pos i hi).other (c:=c) hm TB hi (fun j _=>.inl rfl) (fun j _=>?_) e ?_ ?_ ?_ ?_ ?_ ?_ rfl rfl
      ·by_cases e2:j=c
       ·subst e2
        exact .inr ⟨rfl,by rw[beC];omega,by rw[beC];omega,rfl⟩
       ·exact .inl (beW j e2)
      all_goals simp[Zc.got,upd,e]
    ·refine I.items.take hc hidle hb it0 (fun i k=>?_) (by simp[Zc.got,upd]) (fun j _ e=>by simp[Zc.got,upd,e]) rfl
     unfold Item
     rw[loW]
     by_cases e:i=c
     ·subst e;rw[beC]
      constructor
      ·rintro ⟨q1,q2,q3⟩;exact⟨⟨q1,q2,by omega⟩,fun h=>by omega⟩
      ·rintro ⟨⟨q1,q2,q3⟩,q4⟩;exact⟨q1,q2,by have:k≠V.y i:=fun h=>q4 ⟨rfl,h⟩;omega⟩
     ·rw[beW i e]
      constructor
      ·rintro ⟨q1,q2,q3⟩;exact⟨⟨q1,q2,q3⟩,fun h=>e h.1⟩
      ·rintro ⟨q,_⟩;exact q
    ·have:=(I.items.rdy c _ it0).1
     simpa [Zc.got,upd] using this
    ·have:=(I.items.rdy c _ it0).2
     simpa [Zc.got,upd] using this
   rw[if_neg h1]
   by_cases h2:V.T c=V.y c
   ·rw[if_pos h2]
    refine quiet _ rfl rfl (fun _=>rfl) (fun j=>?_) (fun j=>?_) (fun i e=>?_) ?_
    ·by_cases e:j=c
     ·subst e;simp[Zc.be,Zc.tk,upd,hF,a1]
     ·simp[Zc.be,Zc.tk,upd,e]
    ·by_cases e:j=c
     ·subst e;simp[Zc.lo,Zc.tk,upd,hF,a1]
     ·simp[Zc.lo,Zc.tk,upd,e]
    ·simp[Zc.tk,upd,e]
    ·refine Pos.owner hm hF hidle ?_ ?_ pT0 ?_ ?_ ?_ ?_ ?_ ?_<;>simp only[Zc.tk,ZY]
     ·omega
     ·exact hy
     ·omega
     ·omega
     ·intro _;exact⟨h2,Int.le_refl _⟩
     ·intro h;omega
     ·intro h;omega
     ·omega
   ·rw[if_neg h2]
    refine quiet _ rfl rfl (fun _=>rfl) (fun j=>?_) (fun j=>?_) (fun i e=>?_) ?_
    ·by_cases e:j=c
     ·subst e;simp[Zc.be,Zc.tk,upd,hF,a1]
     ·simp[Zc.be,Zc.tk,upd,e]
    ·by_cases e:j=c
     ·subst e;simp[Zc.lo,Zc.tk,upd,hF,a1]
     ·simp[Zc.lo,Zc.tk,upd,e]
    ·simp[Zc.tk,upd,e]
    ·refine Pos.owner hm hF hidle ?_ ?_ pT0 ?_ ?_ ?_ ?_ ?_ ?_<;>simp only[Zc.tk,ZY]
     ·omega
     ·exact hy
     ·omega
     ·omega
     ·intro h;omega
     ·intro h;omega
     ·intro h;omega
     ·omega
  rw[if_neg a1]
  by_cases a2:V.a c=2
  ·rw[if_pos a2]
   obtain⟨x1,x2⟩:=po2 hF a2
   by_cases h1:V.T c=V.x c
   ·
    rw[if_pos h1]
    have beW:∀j,((V.setT c (V.T c+1)).tk c 4 (V.x c) (V.y c) (V.R c (V.y c))).be j=V.be j:=fun j=>by
     by_cases e:j=c
     ·subst e;simp[Zc.be,Zc.tk,Zc.setT,upd,hF,a2]
     ·simp[Zc.be,Zc.tk,Zc.setT,upd,e]
    have loW:∀j,((V.setT c (V.T c+1)).tk c 4 (V.x c) (V.y c) (V.R c (V.y c))).lo j=V.lo j:=fun j=>by
     by_cases e:j=c
     ·subst e;simp[Zc.lo,Zc.tk,Zc.setT,upd,hF,a2]
     ·simp[Zc.lo,Zc.tk,Zc.setT,upd,e]
    refine⟨⟨fun i hi=>?_,I.items.same (fun j _=>loW j) (fun j _=>beW j) (fun j _=>rfl) rfl⟩,.inl fun _=>rfl,rfl⟩
    by_cases e:i=c
    ·rw[e]
     refine Pos.owner hm hF hidle ?_ ?_ ?_ ?_ ?_ ?_ ?_ ?_ ?_<;>simp only[Zc.tk,Zc.setT,ZY]
     ·omega
     ·exact hy
     ·omega
     ·omega
     ·omega
     ·intro h;omega
     ·intro h;omega
     ·intro h;rw[hy]
     ·exact prx
    ·refine(I.pos i hi).other (c:=c) hm TB hi (fun j _=>?_) (fun j _=>.inl (beW j)) e ?_ ?_ ?_ ?_ ?_ rfl ?_ rfl
     ·by_cases e2:j=c
      ·subst e2
       refine .inr ⟨by simp[Zc.tk,Zc.setT,upd],by omega⟩
      ·exact .inl (by simp[Zc.tk,Zc.setT,upd,e2])
     all_goals simp[Zc.tk,Zc.setT,upd,e]
   ·rw[if_neg h1]
    refine quiet _ rfl rfl (fun _=>rfl) (fun j=>?_) (fun j=>?_) (fun i e=>?_) ?_
    ·by_cases e:j=c
     ·subst e;simp[Zc.be,Zc.tk,upd,hF,a2]
     ·simp[Zc.be,Zc.tk,upd,e]
    ·by_cases e:j=c
     ·subst e;simp[Zc.lo,Zc.tk,upd,hF,a2]
     ·simp[Zc.lo,Zc.tk,upd,e]
    ·simp[Zc.tk,upd,e]
    ·refine Pos.owner hm hF hidle ?_ ?_ pT0 ?_ ?_ ?_ ?_ ?_ ?_<;>simp only[Zc.tk,ZY]
     ·omega
     ·exact hy
     ·omega
     ·omega
     ·intro h;omega
     ·intro h;omega
     ·intro h;omega
     ·exact prx
  rw[if_neg a2]
  have hT:=po3 hF (by omega)
  by_cases a4:V.a c=4
  ·
   rw[if_pos a4]
   have hz:=po4 hF a4
   have it0:Item m V c (V.B c):=⟨hc,by unfold Zc.lo;rw[if_pos ⟨hF,a4⟩];omega,by omega⟩
   have beW:∀j,j≠c→((V.setB c (V.y c+1)).got c (V.z c)).be j=V.be j:=fun j e=>by simp[Zc.be,Zc.got,Zc.setB,upd,e]
   have beC:((V.setB c (V.y c+1)).got c (V.z c)).be c=V.B c+1:=by simp[Zc.be,Zc.got,Zc.setB,upd];omega
   have loC:((V.setB c (V.y c+1)).got c (V.z c)).lo c=V.T c:=by simp[Zc.lo,Zc.got,Zc.setB,upd]
   have loW:∀j,j≠c→((V.setB c (V.y c+1)).got c (V.z c)).lo j=V.lo j:=fun j e=>by simp[Zc.lo,Zc.got,Zc.setB,upd,e]
   have loV:V.lo c=V.T c-1:=by unfold Zc.lo;rw[if_pos ⟨hF,a4⟩]
   refine⟨⟨fun i hi=>?_,?_⟩,.inr ⟨?_,?_,fun j e=>by simp[Zc.got,Zc.setB,upd,e]⟩,rfl⟩
   ·by_cases e:i=c
    ·rw[e]
     refine Pos.fresh0 ?_ ?_ ?_ ?_ ?_ pT0 ?_ ?_<;>simp only[Zc.got,Zc.setB,ZY]
     ·exact hm
     ·exact fun _=>trivial
     ·omega
     ·omega
    ·refine(I.pos i hi).other (c:=c) hm TB hi (fun j _=>.inl rfl) (fun j _=>?_) e ?_ ?_ ?_ ?_ ?_ ?_ ?_ rfl
     ·by_cases e2:j=c
      ·subst e2
       exact .inl (by rw[beC];omega)
      ·exact .inl (beW j e2)
     all_goals simp[Zc.got,Zc.setB,upd,e]
   ·refine I.items.take hc hidle hb it0 (fun i k=>?_) (by simp[Zc.got,Zc.setB,upd];exact hz) (fun j _ e=>by simp[Zc.got,Zc.setB,upd,e]) rfl
    unfold Item
    by_cases e:i=c
    ·subst e;rw[beC,loC,loV]
     constructor
     ·rintro ⟨q1,q2,q3⟩;omega
     ·rintro ⟨⟨q1,q2,q3⟩,q4⟩
      exact absurd ⟨rfl,by omega⟩ q4
    ·rw[beW i e,loW i e]
     constructor
     ·rintro ⟨q1,q2,q3⟩;exact⟨⟨q1,q2,q3⟩,fun h=>e h.1⟩
     ·rintro ⟨q,_⟩;exact q
   ·have:=(I.items.rdy c _ it0).1
    simp only[Zc.got,Zc.setB,ZY]
    rw[hz];exact this
   ·have:=(I.items.rdy c _ it0).2
    simp only[Zc.got,Zc.setB,ZY]
    rw[hz];exact this
  ·rw[if_neg a4]
   have a3:V.a c=3:=by omega
   refine quiet _ rfl rfl (fun _=>rfl) (fun j=>?_) (fun j=>?_) (fun i e=>?_) ?_
   ·by_cases e:j=c
    ·subst e
     rw[hbc]
     simp[Zc.be,Zc.fresh,Zc.setB,upd]
     omega
    ·simp[Zc.be,Zc.fresh,Zc.setB,upd,e]
   ·by_cases e:j=c
    ·subst e;simp[Zc.lo,Zc.fresh,Zc.setB,upd,a3]
    ·simp[Zc.lo,Zc.fresh,Zc.setB,upd,e]
   ·simp[Zc.fresh,Zc.setB,upd,e]
   ·refine Pos.fresh0 ?_ ?_ ?_ ?_ ?_ pT0 ?_ ?_<;>simp only[Zc.fresh,Zc.setB,ZY]
    ·exact Nat.mod_lt _ hm
    ·exact fun h=>absurd hidle h
    ·omega
    ·omega
 ·rw[if_neg hF]
  have pv:=I.pos _ hv
  have hbc:V.be c=V.B c:=by unfold Zc.be;rw[if_neg (by omega)]
  have fresh:∀f,f<m→Inv m base (V.fresh c f)∧ZtO m base V (V.fresh c f) c∧(V.fresh c f).R=V.R:=fun f hf=>by
   refine quiet _ rfl rfl (fun _=>rfl) (fun j=>?_) (fun j=>?_) (fun i e=>?_) ?_
   ·by_cases e:j=c
    ·subst e;rw[hbc];simp[Zc.be,Zc.fresh,upd]
    ·simp[Zc.be,Zc.fresh,upd,e]
   ·by_cases e:j=c
    ·subst e;simp[Zc.lo,Zc.fresh,upd,hF]
    ·simp[Zc.lo,Zc.fresh,upd,e]
   ·simp[Zc.fresh,upd,e]
   ·refine Pos.fresh0 ?_ ?_ ?_ ?_ ?_ pT0 ?_ ?_<;>simp only[Zc.fresh,ZY]
    ·exact hf
    ·exact fun h=>absurd hidle h
    ·omega
    ·omega
  have tk:∀a x y z,1≤a∧a≤3→(0≤x∧x≤V.T (vic m c (V.F c)))→(2≤a→x=V.T (vic m c (V.F c))→V.T (vic m c (V.F c))<V.be (vic m c (V.F c)))→(a=3→z=V.R (vic m c (V.F c)) x)→x≤64→(-1≤y∧y≤64)→Inv m base (V.tk c a x y z)∧ZtO m base V (V.tk c a x y z) c∧(V.tk c a x y z).R=V.R:=fun a x y z q0 q1 q2 q3 q4 q5=>by
   have hbe:∀j,(V.tk c a x y z).be j=V.be j:=fun j=>by
    by_cases e:j=c
    ·subst e;rw[hbc];simp[Zc.be,Zc.tk,upd,hF]
    ·simp[Zc.be,Zc.tk,upd,e]
   refine quiet _ rfl rfl (fun _=>rfl) hbe (fun j=>?_) (fun i e=>?_) ?_
   ·by_cases e:j=c
    ·subst e;simp[Zc.lo,Zc.tk,upd,hF]
    ·simp[Zc.lo,Zc.tk,upd,e]
   ·simp[Zc.tk,upd,e]
   ·refine Pos.thief (I.pos c hc) rfl hF hidle rfl rfl hbe ?_ ?_ ?_ ?_ ?_ ?_<;>simp only[Zc.tk,ZY]
    ·exact q0
    ·exact q1
    ·exact q2
    ·exact q3
    ·exact q4
    ·exact q5
  have bv:V.B (vic m c (V.F c))≤V.be (vic m c (V.F c)) ∧ -1≤V.B (vic m c (V.F c)):=by
   have h1:=pv.T0
   have h2:=pv.TB
   unfold Zc.be at h2 ⊢
   split at h2<;>rename_i hh<;>simp only[hh]<;>simp<;>omega
  have b64:=pv.B64
  have t64:=pv.TB
  by_cases a0:V.a c=0
  ·rw[if_pos a0]
   exact tk 1 _ _ _ (by omega) ⟨pv.T0,Int.le_refl _⟩ (fun h=>by omega) (fun h=>by omega) (by omega) pry
  rw[if_neg a0]
  have x0:=pt1 hF (by omega)
  by_cases a1:V.a c=1
  ·rw[if_pos a1]
   by_cases h1:V.x c<V.B (vic m c (V.F c))
   ·rw[if_pos h1]
    exact tk 2 _ _ _ (by omega) x0 (fun _ h=>by omega) (fun h=>by omega) prx.2 (by omega)
   ·rw[if_neg h1]
    exact fresh _ (Nat.mod_lt _ hm)
  rw[if_neg a1]
  by_cases a2:V.a c=2
  ·rw[if_pos a2]
   exact tk 3 _ _ _ (by omega) x0 (fun _ h=>pt2 hF (by omega) h) (fun _=>rfl) prx.2 pry
  rw[if_neg a2]
  have a3:V.a c=3:=by have:=pa3 hF;omega
  by_cases h1:V.T (vic m c (V.F c))=V.x c
  ·
   rw[if_pos h1]
   have hlt:=pt2 hF (by omega) h1.symm
   have hz:=pt3 hF a3
   have vne:=ZAq hc pF hF
   have hcv:c≠vic m c (V.F c):=fun e=>vne e.symm
   generalize hvv:vic m c (V.F c)=v at *
   have loV:V.lo v=V.T v:=by
    unfold Zc.lo
    by_cases hh:V.F v=0∧V.a v=4
    ·exfalso
     have:=pv.o3 hh.1 (.inr hh.2)
     have:V.be v=V.B v+1:=by unfold Zc.be;rw[if_pos ⟨hh.1,by omega⟩]
     omega
    ·rw[if_neg hh]
   have it0:Item m V v (V.T v):=⟨hv,by omega,hlt⟩
   have beW:∀j,((V.setT v (V.T v+1)).got c (V.z c)).be j=V.be j:=fun j=>by
    by_cases e:j=c
    ·subst e;rw[hbc];simp[Zc.be,Zc.got,Zc.setT,upd]
    ·simp[Zc.be,Zc.got,Zc.setT,upd,e]
   have loW:∀j,j≠v→((V.setT v (V.T v+1)).got c (V.z c)).lo j=V.lo j:=fun j e=>by
    by_cases e2:j=c
    ·subst e2;simp[Zc.lo,Zc.got,Zc.setT,upd,hF,e]
    ·simp[Zc.lo,Zc.got,Zc.setT,upd,e,e2]
   have loC:((V.setT v (V.T v+1)).got c (V.z c)).lo v=V.T v+1:=by
    have hn:¬(V.F v=0∧V.a v=4):=fun hh=>by
     have:V.lo v=V.T v-1:=by unfold Zc.lo;rw[if_pos hh]
     omega
    simp[Zc.lo,Zc.got,Zc.setT,upd,vne]
    intro h h2
    exact absurd ⟨h,h2⟩ hn
   refine⟨⟨fun i hi=>?_,?_⟩,.inr ⟨?_,?_,fun j e=>by simp[Zc.got,Zc.setT,upd,e]⟩,rfl⟩
   ·by_cases e:i=c
    ·rw[e]
     refine Pos.fresh0 ?_ ?_ ?_ ?_ ?_ ?_ ?_ ?_<;>simp only[Zc.got,Zc.setT,ZY,Zrj _ _ hcv]
     ·exact hm
     ·exact fun _=>trivial
     ·exact pT0
     ·omega
     ·omega
    ·refine(I.pos i hi).other (c:=c) hm TB hi (fun j _=>?_) (fun j _=>.inl (beW j)) e ?_ ?_ ?_ ?_ ?_ ?_ rfl rfl
     ·by_cases e2:j=v
      ·subst e2
       exact .inr ⟨by simp[Zc.got,Zc.setT,upd],hlt⟩
      ·exact .inl (by simp[Zc.got,Zc.setT,upd,e2])
     all_goals simp[Zc.got,Zc.setT,upd,e]
   ·refine I.items.take hc hidle hb it0 (fun i k=>?_) (by simp[Zc.got,Zc.setT,upd];rw[hz,h1]) (fun j _ e=>by simp[Zc.got,Zc.setT,upd,e]) rfl
    unfold Item
    rw[beW]
    by_cases e:i=v
    ·subst e;rw[loC,loV]
     constructor
     ·rintro ⟨q1,q2,q3⟩;exact⟨⟨q1,by omega,q3⟩,fun h=>by omega⟩
     ·rintro ⟨⟨q1,q2,q3⟩,q4⟩;exact⟨q1,by have:k≠V.T i:=fun h=>q4 ⟨rfl,h⟩;omega,q3⟩
    ·rw[loW i e]
     constructor
     ·rintro ⟨q1,q2,q3⟩;exact⟨⟨q1,q2,q3⟩,fun h=>e h.1⟩
     ·rintro ⟨q,_⟩;exact q
   ·have:=(I.items.rdy v _ it0).1
    simp only[Zc.got,Zc.setT,ZY]
    rw[hz,← h1];exact this
   ·have:=(I.items.rdy v _ it0).2
    simp only[Zc.got,Zc.setT,ZY]
    rw[hz,← h1];exact this
  ·rw[if_neg h1]
   exact fresh _ (Nat.mod_lt _ hm)
def Zfg (f:Nat→Nat):Nat→Nat
 | 0=>0
 | n+1=>Zfg f n+f n
theorem ZqC {f h:Nat→Nat}:∀n,(∀i,i<n→f i≤h i)→Zfg f n≤Zfg h n
 | 0,_=>Nat.le_refl _
 | n+1,e=>by
  have:=ZqC n fun i hi=>e i (by omega)
  have:=e n (by omega)
  unfold Zfg
  omega
theorem Zko {f h:Nat→Nat} (n:Nat) (e:∀i,i<n→f i=h i):Zfg f n=Zfg h n:=
 Nat.le_antisymm (ZqC n fun i hi=>Nat.le_of_eq (e i hi)) (ZqC n fun i hi=>Nat.le_of_eq (e i hi).symm)
theorem Zjo {f h:Nat→Nat}{c:Nat}:∀n,c<n→(∀i,i<n→i≠c→f i=h i)→f c+1≤h c→Zfg f n+1≤Zfg h n
 | 0,hc,_,_=>by omega
 | n+1,hc,e,hd=>by
  unfold Zfg
  by_cases hn:c=n
  ·subst hn
   have:=Zko (f:=f) (h:=h) c fun i hi=>e i (by omega) (by omega)
   omega
  ·have:=Zjo n (by omega) (fun i hi hne=>e i (by omega) hne) hd
   have:=e n (by omega) (fun h=>hn h.symm)
   omega
theorem Zlh {a b:Nat}{p:Nat→Prop} (dp:∀i,Decidable (p i)) {f h:Nat→Nat}:∀n,(∀i,i<n→(p i→f i≤a∧h i=1)∧(¬p i→f i≤b∧h i=0))→Zfg f n≤Zfg h n*a+(n-Zfg h n)*b∧Zfg h n≤n
 | 0,_=>by simp[Zfg]
 | n+1,e=>by
  obtain⟨h1,h2⟩:=Zlh dp n fun i hi=>e i (by omega)
  obtain⟨e1,e2⟩:=e n (by omega)
  unfold Zfg
  by_cases hp:p n
  ·obtain⟨q1,q2⟩:=e1 hp
   rw[q2]
   refine⟨?_,by omega⟩
   have:n+1-(Zfg h n+1)=n-Zfg h n:=by omega
   rw[this,Nat.succ_mul]
   omega
  ·obtain⟨q1,q2⟩:=e2 hp
   rw[q2,Nat.add_zero]
   refine⟨?_,by omega⟩
   have:n+1-Zfg h n=(n-Zfg h n)+1:=by omega
   rw[this,Nat.succ_mul]
   omega
def ZaD (V:Zc) (c:Nat):Prop:=V.F c=0→0<V.a c→V.y c=V.B c∧(V.a c=2→V.x c=V.y c∧V.x c≤V.T c)∧(V.a c=3∨V.a c=4→V.B c+1≤V.T c)
noncomputable def BeG (V:Zc) (c:Nat):Int:=@ite _ (V.F c=0∧0<V.a c∧ZaD V c) (Classical.propDecidable _) (V.B c+1) (V.B c)
theorem ZfF {V:Zc}{c:Nat} (hF:V.F c=0) (ha:0<V.a c) (h:ZaD V c):BeG V c=V.B c+1:=by unfold BeG;rw[if_pos ⟨hF,ha,h⟩]
theorem Zbe {V:Zc}{c:Nat} (h:¬(V.F c=0∧0<V.a c∧ZaD V c)):BeG V c=V.B c:=by unfold BeG;rw[if_neg h]
theorem ZEw (V:Zc) (c:Nat):V.B c≤BeG V c:=by unfold BeG;split<;>omega
def NE (V:Zc) (j:Nat):Prop:=V.T j<BeG V j
def Zq3 (m:Nat) (V:Zc) (p:Nat):Prop:=p<m∧V.O p = -1∧V.F p=0∧((V.a p=1∧V.T p≤V.y p)∨(V.a p=2∧V.T p=V.x p))
noncomputable def wV (m:Nat) (V:Zc):Nat:=Zfg (fun c=>@ite _ (ZaD V c) (Classical.propDecidable _) 0 1) m
def rP (V:Zc) (p:Nat):Nat:=if V.a p=1 then 2 else 1
def dP (m:Nat) (last:Int) (p:Nat):Nat:=if last<(p:Int) then ((p:Int)-last-1).toNat else ((p:Int)+m-last-1).toNat
def ZbD (V:Zc) (c:Nat):Nat:=if V.a c=4 then 1 else (4-V.a c).toNat
def Zh4 (V:Zc) (c:Nat):Nat:=if V.a c=0 then 0 else ZbD V c
def Zy9 (m:Nat) (V:Zc) (c:Nat):Prop:=NE V (vic m c (V.F c))∧(V.a c=0∨(V.F c≠0∧V.x c=V.T (vic m c (V.F c))))
def OKD (m:Nat) (V:Zc) (c d:Nat):Prop:=(V.F c=0∧V.a c=4∧1≤d)∨(Zy9 m V c∧ZbD V c≤d)∨(∃j,1≤j∧NE V (vic m c (V.F c+j))∧ZbD V c+4*j≤d)
def In (m:Nat) (V:Zc) (last:Int) (k:Nat):Prop:=
 (∃p,Zq3 m V p∧rP V p*m+dP m last p≤k) ∨
 ((∀p,¬Zq3 m V p)∧(∃j,j<m∧NE V j)∧∃D:Nat→Nat,(∀c,c<m→V.O c = -1→OKD m V c (D c))∧3*m+Zfg (fun c=>if V.O c = -1 then D c else 0) m≤k) ∨
 ((∀p,¬Zq3 m V p)∧(∀j,j<m→¬NE V j)∧Zfg (fun c=>if V.O c = -1 then Zh4 V c else 0) m≤k)
def uV (m:Nat) (V:Zc):Nat:=Zfg (fun c=>if V.O c = -1∧¬(V.F c=0∧V.a c=4) then 1 else 0) m
def Claim (m:Nat) (V:Zc) (c:Nat):Prop:=(V.F c=0∧V.a c=1∧V.T c<V.y c)∨(V.F c=0∧V.a c=2∧V.T c=V.x c)∨(V.F c≠0∧V.a c=3∧V.T (vic m c (V.F c))=V.x c)
def Zcy (m:Nat) (V:Zc) (c:Nat):Prop:=c<m∧V.O c = -1∧((∃j,j<m∧V.T j<V.B j)∨V.a c≠0)
structure Gen (m:Nat) (V:Zc) (c:Nat):Prop where
 F:V.F c<m
 busy:V.O c ≠ -1→V.a c=0∧V.F c=0
 a0:0≤V.a c
 a4:V.a c≤4
 a3:V.F c≠0→V.a c≤3
theorem Pos.gen {m:Nat}{V:Zc}{c:Nat} (p:Pos m V c):Gen m V c:=⟨p.F,p.busy,p.a0,p.a4,p.a3⟩
theorem Pos.ownOK {m:Nat}{V:Zc}{c:Nat} (p:Pos m V c):ZaD V c:=fun h1 h2=>⟨p.o1 h1 h2,p.o2 h1,fun h=>by have:=p.o3 h1 h;omega⟩
def Zz9 (m:Nat) (V:Zc) (c:Nat):Prop:=(V.F c=0∧V.a c=1∧V.T c<V.y c)∨(V.F c=0∧V.a c=4)∨(V.F c≠0∧V.a c=3∧V.T (vic m c (V.F c))=V.x c)
inductive StepC (m:Nat) (V:Zc) (c:Nat):Zc→Prop
 | own0:V.F c=0→V.a c=0→StepC m V c ((V.setB c (V.B c-1)).tk c 1 (V.x c) (V.B c-1) (V.z c))
 | take:V.F c=0→V.a c=1→V.T c<V.y c→StepC m V c (V.got c (V.R c (V.y c)))
 | last:V.F c=0→V.a c=1→V.T c=V.y c→StepC m V c (V.tk c 2 (V.T c) (V.y c) (V.z c))
 | none1:V.F c=0→V.a c=1→V.y c<V.T c→StepC m V c (V.tk c 3 (V.T c) (V.y c) (V.z c))
 | win:V.F c=0→V.a c=2→V.T c=V.x c→StepC m V c ((V.setT c (V.T c+1)).tk c 4 (V.x c) (V.y c) (V.R c (V.y c)))
 | lose:V.F c=0→V.a c=2→V.T c≠V.x c→StepC m V c (V.tk c 3 (V.x c) (V.y c) (V.z c))
 | work:V.F c=0→V.a c=4→StepC m V c ((V.setB c (V.y c+1)).got c (V.z c))
 | back:V.F c=0→V.a c=3→StepC m V c ((V.setB c (V.y c+1)).fresh c (1 % m))
 | top:V.F c≠0→V.a c=0→StepC m V c (V.tk c 1 (V.T (vic m c (V.F c))) (V.y c) (V.z c))
 | bottom:V.F c≠0→V.a c=1→V.x c<V.B (vic m c (V.F c))→StepC m V c (V.tk c 2 (V.x c) (V.B (vic m c (V.F c))) (V.z c))
 | none2:V.F c≠0→V.a c=1→V.B (vic m c (V.F c))≤V.x c→StepC m V c (V.fresh c ((V.F c+1) % m))
 | read:V.F c≠0→V.a c=2→StepC m V c (V.tk c 3 (V.x c) (V.y c) (V.R (vic m c (V.F c)) (V.x c)))
 | steal:V.F c≠0→V.a c=3→V.T (vic m c (V.F c))=V.x c→StepC m V c ((V.setT (vic m c (V.F c)) (V.T (vic m c (V.F c))+1)).got c (V.z c))
 | lost:V.F c≠0→V.a c=3→V.T (vic m c (V.F c))≠V.x c→StepC m V c (V.fresh c ((V.F c+1) % m))
theorem Zty {m:Nat}{V:Zc}{c:Nat} (p:Gen m V c):StepC m V c (Zab m V c):=by
 have h0:=p.a0
 have h4:=p.a4
 have h3:=p.a3
 unfold Zab
 split
 ·rename_i hF
  split
  ·rename_i h;exact .own0 hF h
  split
  ·rename_i h
   split
   ·rename_i q;exact .take hF h q
   split
   ·rename_i q;exact .last hF h q
   ·rename_i q1 q2;exact .none1 hF h (by omega)
  split
  ·rename_i h
   split
   ·rename_i q;exact .win hF h q
   ·rename_i q;exact .lose hF h q
  split
  ·rename_i h;exact .work hF h
  ·exact .back hF (by omega)
 ·rename_i hF
  have:=h3 hF
  split
  ·rename_i h;exact .top hF h
  split
  ·rename_i h
   split
   ·rename_i q;exact .bottom hF h q
   ·rename_i q;exact .none2 hF h (by omega)
  split
  ·rename_i h;exact .read hF h
  split
  ·rename_i q;exact .steal hF (by omega) q
  ·rename_i q;exact .lost hF (by omega) q
theorem Zdj {V:Zc}{c:Nat} (h:V.F c≠0):ZaD V c:=fun h1=>absurd h1 h
theorem ZgH {V:Zc}{c:Nat} (h:V.a c=0):ZaD V c:=fun _ h2=>by omega
theorem ZuE {V W:Zc}{j:Nat} (hT:W.T j=V.T j) (hB:W.B j=V.B j) (hF:W.F j=V.F j) (ha:W.a j=V.a j) (hx:W.x j=V.x j) (hy:W.y j=V.y j):(ZaD W j↔ZaD V j)∧BeG W j=BeG V j:=by
 have h:ZaD W j↔ZaD V j:=by unfold ZaD;rw[hT,hB,hF,ha,hx,hy]
 refine⟨h,?_⟩
 have e:(W.F j=0∧0<W.a j∧ZaD W j)↔(V.F j=0∧0<V.a j∧ZaD V j):=by rw[hF,ha,h]
 unfold BeG
 by_cases hh:V.F j=0∧0<V.a j∧ZaD V j
 ·rw[if_pos hh,if_pos (e.2 hh),hB]
 ·rw[if_neg hh,if_neg (fun h=>hh (e.1 h)),hB]
theorem ZbK {m:Nat}{V W:Zc}{c:Nat} (s:StepC m V c W) {i:Nat} (hi:i≠c):W.O i=V.O i∧W.F i=V.F i∧W.a i=V.a i∧W.x i=V.x i∧W.y i=V.y i∧W.B i=V.B i:=by
 cases s<;>simp[Zc.tk,Zc.got,Zc.fresh,Zc.setB,Zc.setT,upd,hi]
theorem ZsR {m:Nat}{V W:Zc}{c:Nat} (s:StepC m V c W) (hn:¬Claim m V c):W.T=V.T∧((¬ZaD V c∧ZaD W c)∨((ZaD W c↔ZaD V c)∧BeG W c=BeG V c)):=by
 cases s with
 | own0 hF ha=>
  have h1:ZaD V c:=ZgH ha
  have h2:ZaD ((V.setB c (V.B c-1)).tk c 1 (V.x c) (V.B c-1) (V.z c)) c:=fun _ _=>by simp[Zc.tk,Zc.setB,upd]
  refine⟨rfl,.inr ⟨⟨fun _=>h1,fun _=>h2⟩,?_⟩⟩
  rw[Zbe (V:=V) (by omega),ZfF (by simpa [Zc.tk,Zc.setB] using hF) (by simp[Zc.tk,Zc.setB,upd]) h2]
  simp[Zc.tk,Zc.setB,upd]
 | take hF ha h=>exact absurd (.inl ⟨hF,ha,h⟩) hn
 | last hF ha h=>
  have e:ZaD (V.tk c 2 (V.T c) (V.y c) (V.z c)) c↔ZaD V c:=by
   unfold ZaD
   simp[Zc.tk,upd,hF,ha,h]
  refine⟨rfl,.inr ⟨e,?_⟩⟩
  by_cases h1:ZaD V c
  ·rw[ZfF hF (by omega) h1,ZfF (by simpa [Zc.tk] using hF) (by simp[Zc.tk,upd]) (e.2 h1)]
   rfl
  ·rw[Zbe (fun h=>h1 h.2.2),Zbe (fun h=>h1 (e.1 h.2.2))]
   rfl
 | none1 hF ha h=>
  have e:ZaD (V.tk c 3 (V.T c) (V.y c) (V.z c)) c↔ZaD V c:=by
   unfold ZaD
   simp[Zc.tk,upd,hF,ha]
   omega
  refine⟨rfl,.inr ⟨e,?_⟩⟩
  by_cases h1:ZaD V c
  ·rw[ZfF hF (by omega) h1,ZfF (by simpa [Zc.tk] using hF) (by simp[Zc.tk,upd]) (e.2 h1)]
   rfl
  ·rw[Zbe (fun h=>h1 h.2.2),Zbe (fun h=>h1 (e.1 h.2.2))]
   rfl
 | win hF ha h=>exact absurd (.inr (.inl ⟨hF,ha,h⟩)) hn
 | lose hF ha h=>
  refine⟨rfl,?_⟩
  by_cases h1:ZaD V c
  ·right
   obtain⟨q1,q2,_⟩:=h1 hF (by omega)
   obtain⟨q2,q3⟩:=q2 ha
   have h2:ZaD (V.tk c 3 (V.x c) (V.y c) (V.z c)) c:=fun _ _=>by
    simp[Zc.tk,upd]
    omega
   refine⟨⟨fun _=>h1,fun _=>h2⟩,?_⟩
   rw[ZfF hF (by omega) h1,ZfF (by simpa [Zc.tk] using hF) (by simp[Zc.tk,upd]) h2]
   rfl
  ·by_cases h2:ZaD (V.tk c 3 (V.x c) (V.y c) (V.z c)) c
   ·exact .inl ⟨h1,h2⟩
   ·refine .inr ⟨⟨fun h=>absurd h h2,fun h=>absurd h h1⟩,?_⟩
    rw[Zbe (fun h=>h1 h.2.2),Zbe (fun h=>h2 h.2.2)]
    rfl
 | work hF ha=>
  refine⟨rfl,?_⟩
  have h2:ZaD ((V.setB c (V.y c+1)).got c (V.z c)) c:=ZgH (by simp[Zc.got,Zc.setB,upd])
  by_cases h1:ZaD V c
  ·refine .inr ⟨⟨fun _=>h1,fun _=>h2⟩,?_⟩
   have q1:=(h1 hF (by omega)).1
   rw[ZfF hF (by omega) h1,Zbe (by simp[Zc.got,Zc.setB,upd])]
   simp[Zc.got,Zc.setB,upd]
   omega
  ·exact .inl ⟨h1,h2⟩
 | back hF ha=>
  refine⟨rfl,?_⟩
  have h2:ZaD ((V.setB c (V.y c+1)).fresh c (1 % m)) c:=ZgH (by simp[Zc.fresh,Zc.setB,upd])
  by_cases h1:ZaD V c
  ·refine .inr ⟨⟨fun _=>h1,fun _=>h2⟩,?_⟩
   have q1:=(h1 hF (by omega)).1
   rw[ZfF hF (by omega) h1,Zbe (by simp[Zc.fresh,Zc.setB,upd])]
   simp[Zc.fresh,Zc.setB,upd]
   omega
  ·exact .inl ⟨h1,h2⟩
 | top hF ha=>
  refine⟨rfl,.inr ⟨⟨fun _=>Zdj hF,fun _=>Zdj (by simpa [Zc.tk] using hF)⟩,?_⟩⟩
  rw[Zbe (fun h=>hF h.1),Zbe (by simp[Zc.tk,hF])]
  rfl
 | bottom hF ha h=>
  refine⟨rfl,.inr ⟨⟨fun _=>Zdj hF,fun _=>Zdj (by simpa [Zc.tk] using hF)⟩,?_⟩⟩
  rw[Zbe (fun h=>hF h.1),Zbe (by simp[Zc.tk,hF])]
  rfl
 | none2 hF ha h=>
  refine⟨rfl,.inr ⟨⟨fun _=>Zdj hF,fun _=>ZgH (by simp[Zc.fresh,upd])⟩,?_⟩⟩
  rw[Zbe (fun h=>hF h.1),Zbe (by simp[Zc.fresh,upd])]
  rfl
 | read hF ha=>
  refine⟨rfl,.inr ⟨⟨fun _=>Zdj hF,fun _=>Zdj (by simpa [Zc.tk] using hF)⟩,?_⟩⟩
  rw[Zbe (fun h=>hF h.1),Zbe (by simp[Zc.tk,hF])]
  rfl
 | steal hF ha h=>exact absurd (.inr (.inr ⟨hF,ha,h⟩)) hn
 | lost hF ha h=>
  refine⟨rfl,.inr ⟨⟨fun _=>Zdj hF,fun _=>ZgH (by simp[Zc.fresh,upd])⟩,?_⟩⟩
  rw[Zbe (fun h=>hF h.1),Zbe (by simp[Zc.fresh,upd])]
  rfl
theorem Zyo {m:Nat}{V W:Zc}{c:Nat} (hc:c<m) (hidle:V.O c = -1) (s:StepC m V c W) (h:Claim m V c) (hw:(V.F c=0∧V.a c=2)∨W.O c ≠ -1):uV m W+1≤uV m V:=by
 unfold uV
 refine Zjo m hc (fun i hi hne=>?_) ?_
 ·obtain⟨h1,h2,h3,_⟩:=ZbK s hne
  simp only[h1,h2,h3]
 ·have hnot:¬(V.F c=0∧V.a c=4):=by
   rintro ⟨h1,h2⟩
   rcases h with⟨_,h3,_⟩ | ⟨_,h3,_⟩ | ⟨h3,_⟩<;>omega
  have e1:(if V.O c = -1∧¬(V.F c=0∧V.a c=4) then 1 else 0)=1:=if_pos ⟨hidle,hnot⟩
  rw[e1]
  rcases hw with⟨h1,h2⟩ | h1
  ·have:W.F c=0∧W.a c=4:=by
    cases s<;>simp_all [Zc.tk,Zc.setT,upd,Claim]
   rw[if_neg fun hh=>hh.2 this]
   exact Nat.le_refl _
  ·rw[if_neg fun hh=>h1 hh.1]
   exact Nat.le_refl _
theorem Zye {m:Nat}{V W:Zc}{c:Nat} (hc:c<m) (hidle:V.O c = -1) (s:StepC m V c W) (hn:¬Claim m V c) (hz:V.F c=0→V.a c=4→W.O c ≠ -1):uV m W=uV m V:=by
 unfold uV
 refine Zko m fun i hi=>?_
 by_cases e:i=c
 ·subst e
  cases s with
  | take hF ha h=>exact absurd (.inl ⟨hF,ha,h⟩) hn
  | win hF ha h=>exact absurd (.inr (.inl ⟨hF,ha,h⟩)) hn
  | steal hF ha h=>exact absurd (.inr (.inr ⟨hF,ha,h⟩)) hn
  | work hF ha=>
   have:=hz hF ha
   simp only[hF,ha,if_neg (fun h:_∧_=>this h.1)]
   simp
  | _=>simp_all [Zc.tk,Zc.got,Zc.fresh,Zc.setB,Zc.setT,upd]
 ·obtain⟨h1,h2,h3,_⟩:=ZbK s e
  simp only[h1,h2,h3]
theorem Zuv (m c f j:Nat):vic m c (f % m+j)=vic m c (f+j):=by
 unfold vic
 rw[show c+(f % m+j)=f % m+(c+j) by omega,Nat.mod_add_mod,show f+(c+j)=c+(f+j) by omega]
theorem Zvf {m:Nat}{V W:Zc}{i d:Nat} (hT:W.T=V.T) (hbe:∀j,BeG W j=BeG V j) (hF:W.F i=V.F i) (ha:W.a i=V.a i) (hx:W.x i=V.x i) (h:OKD m V i d):OKD m W i d:=by
 unfold OKD Zy9 NE ZbD at *
 simp only[hT,hbe,hF,ha,hx]
 exact h
theorem Zyf {m:Nat}{V:Zc}{c d:Nat} (p:Gen m V c) (h:OKD m V c d):1≤d:=by
 have h0:=p.a0
 have h4:=p.a4
 rcases h with⟨_,_,h⟩ | ⟨_,h⟩ | ⟨j,h1,_,h⟩
 ·exact h
 ·unfold ZbD at h;split at h<;>omega
 ·omega
theorem ZmA {m:Nat}{V W:Zc}{c d:Nat} (hT:W.T=V.T) (hbe:∀j,BeG W j=BeG V j) (hF:W.F c=(V.F c+1) % m) (ha:W.a c=0) (r:1≤ZbD V c) (h:∃j,1≤j∧NE V (vic m c (V.F c+j))∧ZbD V c+4*j≤d):OKD m W c (d-1):=by
 obtain⟨j,h1,h2,h3⟩:=h
 have ne:∀i,NE W i↔NE V i:=fun i=>by unfold NE;rw[hT,hbe]
 have r4:ZbD W c=4:=by unfold ZbD;rw[if_neg (by omega),ha];rfl
 by_cases e:j=1
 ·subst e
  refine .inr (.inl ⟨?_,by omega⟩)
  refine⟨(ne _).2 ?_,.inl ha⟩
  rw[hF]
  have:=Zuv m c (V.F c+1) 0
  rw[Nat.add_zero,Nat.add_zero] at this
  rw[this]
  exact h2
 ·refine .inr (.inr ⟨j-1,by omega,(ne _).2 ?_,by omega⟩)
  rw[hF,Zuv,show V.F c+1+(j-1)=V.F c+j by omega]
  exact h2
theorem In.step {m:Nat}{V:Zc}{c k:Nat}{last:Int} (G:∀i,i<m→Gen m V i) (hgot:Zz9 m V c→(Zab m V c).O c ≠ -1) (hw:Zcy m V c) (hnext:∀p,Zcy m V p→p≠c→dP m (c:Int) p<dP m last p) (h:In m V last k) :
  uV m (Zab m V c)+1≤uV m V∨(uV m (Zab m V c)=uV m V∧wV m (Zab m V c)+1≤wV m V)∨(uV m (Zab m V c)=uV m V∧wV m (Zab m V c)=wV m V∧1≤k∧In m (Zab m V c) (c:Int) (k-1)):=by
 obtain⟨hc,hidle,hwant⟩:=hw
 have p:=G c hc
 have s:=Zty p
 generalize hWW:Zab m V c=W at s hgot
 have hm:0<m:=by omega
 have hF':=p.F
 by_cases hcl:Claim m V c
 ·left
  have hO:(V.F c=0∧V.a c=2)∨W.O c ≠ -1:=by
   rcases hcl with⟨h1,h2,h3⟩ | ⟨h1,h2,h3⟩ | ⟨h1,h2,h3⟩
   ·exact .inr (hgot (.inl ⟨h1,h2,h3⟩))
   ·exact .inl ⟨h1,h2⟩
   ·exact .inr (hgot (.inr (.inr ⟨h1,h2,h3⟩)))
  exact Zyo hc hidle s hcl hO
 ·right
  obtain⟨hT,hq⟩:=ZsR s hcl
  have hz:V.F c=0→V.a c=4→W.O c ≠ -1:=fun h1 h2=>hgot (.inr (.inl ⟨h1,h2⟩))
  have hu:=Zye hc hidle s hcl hz
  have oth:∀i,i≠c→(ZaD W i↔ZaD V i)∧BeG W i=BeG V i:=fun i hi=>by
   obtain⟨_,h2,h3,h4,h5,h6⟩:=ZbK s hi
   exact ZuE (by rw[hT]) h6 h2 h3 h4 h5
  rcases hq with⟨q1,q2⟩ | ⟨q1,q2⟩
  ·left
   refine⟨hu,?_⟩
   unfold wV
   refine Zjo m hc (fun i hi hne=>?_) ?_
   ·by_cases h:ZaD V i
    ·rw[if_pos h,if_pos ((oth i hne).1.2 h)]
    ·rw[if_neg h,if_neg (fun h2=>h ((oth i hne).1.1 h2))]
   ·rw[if_pos q2,if_neg q1]
    exact Nat.le_refl _
  right
  have hbe:∀j,BeG W j=BeG V j:=fun j=>by
   by_cases e:j=c
   ·rw[e];exact q2
   ·exact(oth j e).2
  have hwv:wV m W=wV m V:=by
   unfold wV
   refine Zko m fun i hi=>?_
   by_cases e:i=c
   ·subst e
    by_cases h:ZaD V i
    ·rw[if_pos h,if_pos (q1.2 h)]
    ·rw[if_neg h,if_neg (fun h2=>h (q1.1 h2))]
   ·by_cases h:ZaD V i
    ·rw[if_pos h,if_pos ((oth i e).1.2 h)]
    ·rw[if_neg h,if_neg (fun h2=>h ((oth i e).1.1 h2))]
  have ne:∀i,NE W i↔NE V i:=fun i=>by unfold NE;rw[hT,hbe]
  have pend:∀q,q≠c→(Zq3 m W q↔Zq3 m V q):=fun q hq=>by
   obtain⟨h1,h2,h3,h4,h5,_⟩:=ZbK s hq
   unfold Zq3
   rw[h1,h2,h3,h4,h5,hT]
  refine⟨hu,hwv,?_⟩
  have dcc:dP m (c:Int) c=m-1:=by unfold dP;rw[if_neg (by omega)];omega
  rcases h with⟨q,hq,hk⟩ | ⟨np,hne,D,hD,hk⟩ | ⟨np,nn,hk⟩
  ·
   by_cases e:q=c
   ·subst e
    obtain⟨_,_,h1,h2⟩:=hq
    rcases h2 with⟨h2,h3⟩ | ⟨h2,h3⟩
    ·have hTy:V.T q=V.y q:=by
      by_cases hlt:V.T q<V.y q
      ·exact absurd (.inl ⟨h1,h2,hlt⟩) hcl
      ·omega
     have r2:rP V q=2:=by unfold rP;rw[if_pos h2]
     rw[r2] at hk
     have hW:W.O q = -1∧W.F q=0∧W.a q=2∧W.T q=W.x q:=by cases s<;>simp_all [Zc.tk,Zc.got,Zc.fresh,Zc.setB,Zc.setT,upd]<;>omega
     refine⟨by omega,.inl ⟨q,⟨hc,hW.1,hW.2.1,.inr ⟨hW.2.2.1,hW.2.2.2⟩⟩,?_⟩⟩
     have:rP W q=1:=by unfold rP;rw[if_neg (by omega)]
     rw[this,dcc]
     omega
    ·exact absurd (.inr (.inl ⟨h1,h2,h3⟩)) hcl
   ·have hd:=hnext q ⟨hq.1,hq.2.1,.inr (by rcases hq.2.2.2 with h | h<;>omega)⟩ e
    have hr:rP W q=rP V q:=by unfold rP;rw[(ZbK s e).2.2.1]
    refine⟨by omega,.inl ⟨q,(pend q e).2 hq,?_⟩⟩
    rw[hr]
    omega
  ·
   by_cases hpc:Zq3 m W c
   ·refine⟨by omega,.inl ⟨c,hpc,?_⟩⟩
    have:rP W c≤2:=by unfold rP;split<;>omega
    have h2:rP W c*m≤2*m:=Nat.mul_le_mul_right m this
    rw[dcc]
    omega
   ·have okc:=hD c hc hidle
    have d1:=Zyf p okc
    have okW:W.O c = -1→OKD m W c (D c-1):=fun hO=>by
     have v0:V.F c=0→vic m c (V.F c)=c:=fun h=>by rw[h];exact Zr7 hc
     cases s with
     | own0 hF ha=>
      have nc:¬NE V c:=fun hh=>hpc ⟨hc,hidle,by simpa [Zc.tk,Zc.setB] using hF,.inl (by
       unfold NE at hh
       rw[Zbe (by omega)] at hh
       simp[Zc.tk,Zc.setB,upd]
       omega)⟩
      rcases okc with⟨_,h4,_⟩ | ⟨⟨hg,_⟩,_⟩ | ⟨j,h1,h2,h3⟩
      ·omega
      ·rw[v0 hF] at hg;exact absurd hg nc
      ·refine .inr (.inr ⟨j,h1,(ne _).2 h2,?_⟩)
       have e1:ZbD V c=4:=by unfold ZbD;rw[if_neg (by omega),ha];rfl
       have e2:ZbD ((V.setB c (V.B c-1)).tk c 1 (V.x c) (V.B c-1) (V.z c)) c=3:=by unfold ZbD;simp[Zc.tk,upd]
       omega
     | take hF ha hlt=>exact absurd (.inl ⟨hF,ha,hlt⟩) hcl
     | last hF ha heq=>
      exact absurd ⟨hc,hidle,hF,.inl ⟨ha,by omega⟩⟩ (np c)
     | none1 hF ha hlt=>
      rcases okc with⟨_,h4,_⟩ | ⟨⟨_,hg⟩,_⟩ | ⟨j,h1,h2,h3⟩
      ·omega
      ·rcases hg with hg | ⟨hg,_⟩
       ·omega
       ·exact absurd hF hg
      ·refine .inr (.inr ⟨j,h1,(ne _).2 h2,?_⟩)
       have e1:ZbD V c=3:=by unfold ZbD;rw[if_neg (by omega),ha];rfl
       have e2:ZbD (V.tk c 3 (V.T c) (V.y c) (V.z c)) c=1:=by unfold ZbD;simp[Zc.tk,upd]
       omega
     | win hF ha heq=>exact absurd (.inr (.inl ⟨hF,ha,heq⟩)) hcl
     | lose hF ha hne2=>
      rcases okc with⟨_,h4,_⟩ | ⟨⟨_,hg⟩,_⟩ | ⟨j,h1,h2,h3⟩
      ·omega
      ·rcases hg with hg | ⟨hg,_⟩
       ·omega
       ·exact absurd hF hg
      ·refine .inr (.inr ⟨j,h1,(ne _).2 h2,?_⟩)
       have e1:ZbD V c=2:=by unfold ZbD;rw[if_neg (by omega),ha];rfl
       have e2:ZbD (V.tk c 3 (V.x c) (V.y c) (V.z c)) c=1:=by unfold ZbD;simp[Zc.tk,upd]
       omega
     | work hF ha=>
      exact absurd hO (hz hF ha)
     | back hF ha=>
      rcases okc with⟨_,h4,_⟩ | ⟨⟨_,hg⟩,_⟩ | hj
      ·omega
      ·rcases hg with hg | ⟨hg,_⟩
       ·omega
       ·exact absurd hF hg
      ·exact ZmA hT hbe (by simp[Zc.fresh,Zc.setB,upd,hF]) (by simp[Zc.fresh,Zc.setB,upd]) (by unfold ZbD;split<;>omega) hj
     | top hF ha=>
      have e1:ZbD V c=4:=by unfold ZbD;rw[if_neg (by omega),ha];rfl
      have e2:ZbD (V.tk c 1 (V.T (vic m c (V.F c))) (V.y c) (V.z c)) c=3:=by unfold ZbD;simp[Zc.tk,upd]
      rcases okc with⟨h4,_,_⟩ | ⟨⟨hg,_⟩,hr⟩ | ⟨j,h1,h2,h3⟩
      ·exact absurd h4 hF
      ·exact .inr (.inl ⟨⟨(ne _).2 hg,.inr ⟨hF,by simp[Zc.tk,upd]⟩⟩,by omega⟩)
      ·exact .inr (.inr ⟨j,h1,(ne _).2 h2,by omega⟩)
     | bottom hF ha hlt=>
      have e1:ZbD V c=3:=by unfold ZbD;rw[if_neg (by omega),ha];rfl
      have e2:ZbD (V.tk c 2 (V.x c) (V.B (vic m c (V.F c))) (V.z c)) c=2:=by unfold ZbD;simp[Zc.tk,upd]
      rcases okc with⟨h4,_,_⟩ | ⟨⟨hg,hx⟩,hr⟩ | ⟨j,h1,h2,h3⟩
      ·exact absurd h4 hF
      ·refine .inr (.inl ⟨⟨(ne _).2 hg,.inr ⟨hF,?_⟩⟩,by omega⟩)
       rcases hx with hx | ⟨_,hx⟩
       ·omega
       ·simpa [Zc.tk,upd] using hx
      ·exact .inr (.inr ⟨j,h1,(ne _).2 h2,by omega⟩)
     | none2 hF ha hle=>
      rcases okc with⟨h4,_,_⟩ | ⟨⟨hg,hx⟩,hr⟩ | hj
      ·exact absurd h4 hF
      ·exfalso
       rcases hx with hx | ⟨_,hx⟩
       ·omega
       ·have hv:=Zn8 hm c (V.F c)
        have pv:=G _ hv
        generalize vic m c (V.F c)=v at *
        unfold NE at hg
        by_cases ho:V.F v=0∧0<V.a v∧ZaD V v
        ·rw[ZfF ho.1 ho.2.1 ho.2.2] at hg
         obtain⟨q1,q2,q3⟩:=ho.2.2 ho.1 ho.2.1
         have hi:V.O v = -1:=Classical.byContradiction fun hi=>by have:=(pv.busy hi).1;omega
         have a4:=pv.a4
         by_cases h1:V.a v=1
         ·exact np v ⟨hv,hi,ho.1,.inl ⟨h1,by omega⟩⟩
         ·by_cases h2:V.a v=2
          ·have:=q2 h2
           exact np v ⟨hv,hi,ho.1,.inr ⟨h2,by omega⟩⟩
          ·have:=q3 (by omega)
           omega
        ·rw[Zbe ho] at hg
         omega
      ·exact ZmA hT hbe (by simp[Zc.fresh,upd]) (by simp[Zc.fresh,upd]) (by unfold ZbD;split<;>omega) hj
     | read hF ha=>
      have e1:ZbD V c=2:=by unfold ZbD;rw[if_neg (by omega),ha];rfl
      have e2:ZbD (V.tk c 3 (V.x c) (V.y c) (V.R (vic m c (V.F c)) (V.x c))) c=1:=by unfold ZbD;simp[Zc.tk,upd]
      rcases okc with⟨h4,_,_⟩ | ⟨⟨hg,hx⟩,hr⟩ | ⟨j,h1,h2,h3⟩
      ·exact absurd h4 hF
      ·refine .inr (.inl ⟨⟨(ne _).2 hg,.inr ⟨hF,?_⟩⟩,by omega⟩)
       rcases hx with hx | ⟨_,hx⟩
       ·omega
       ·simpa [Zc.tk,upd] using hx
      ·exact .inr (.inr ⟨j,h1,(ne _).2 h2,by omega⟩)
     | steal hF ha heq=>exact absurd (.inr (.inr ⟨hF,ha,heq⟩)) hcl
     | lost hF ha hne2=>
      rcases okc with⟨h4,_,_⟩ | ⟨⟨hg,hx⟩,hr⟩ | hj
      ·exact absurd h4 hF
      ·exfalso
       rcases hx with hx | ⟨_,hx⟩
       ·omega
       ·exact hne2 hx.symm
      ·exact ZmA hT hbe (by simp[Zc.fresh,upd]) (by simp[Zc.fresh,upd]) (by unfold ZbD;split<;>omega) hj
    have dec:=Zjo (f:=fun i=>if W.O i = -1 then upd D c (D c-1) i else 0) (h:=fun i=>if V.O i = -1 then D i else 0) (c:=c) m hc (fun i hi hne2=>by
     simp only[(ZbK s hne2).1,Zrj D _ hne2]) (by
     simp only[ZY]
     rw[if_pos hidle]
     split<;>omega)
    refine⟨by omega,.inr (.inl ⟨fun q hq=>?_,?_,upd D c (D c-1),fun i hi ho=>?_,by omega⟩)⟩
    ·by_cases e:q=c
     ·rw[e] at hq;exact hpc hq
     ·exact np q ((pend q e).1 hq)
    ·obtain⟨j,h1,h2⟩:=hne
     exact⟨j,h1,(ne j).2 h2⟩
    ·by_cases e:i=c
     ·rw[e,ZY]
      rw[e] at ho
      exact okW ho
     ·obtain⟨h1,h2,h3,h4,_⟩:=ZbK s e
      rw[Zrj D _ e]
      rw[h1] at ho
      exact Zvf hT hbe h2 h3 h4 (hD i hi ho)
  ·
   have ha0:V.a c≠0:=by
    rcases hwant with⟨j,h1,h2⟩ | h
    ·exfalso
     have:=ZEw V j
     exact nn j h1 (by unfold NE;omega)
    ·exact h
   have dec:=Zjo (f:=fun i=>if W.O i = -1 then Zh4 W i else 0) (h:=fun i=>if V.O i = -1 then Zh4 V i else 0) (c:=c) m hc (fun i hi hne2=>by
    obtain⟨h1,h2,h3,_⟩:=ZbK s hne2
    simp only[Zh4,ZbD,h1,h3]) (by
    show(if W.O c = -1 then Zh4 W c else 0)+1≤(if V.O c = -1 then Zh4 V c else 0)
    have e1:(if V.O c = -1 then Zh4 V c else 0)=Zh4 V c:=if_pos hidle
    rw[e1]
    cases s with
    | own0 hF ha=>exact absurd ha ha0
    | take hF ha hlt=>exact absurd (.inl ⟨hF,ha,hlt⟩) hcl
    | last hF ha heq=>
     exact absurd ⟨hc,hidle,hF,.inl ⟨ha,by omega⟩⟩ (np c)
    | none1 hF ha hlt=>simp[Zh4,ZbD,Zc.tk,upd,ha,hidle]
    | win hF ha heq=>exact absurd (.inr (.inl ⟨hF,ha,heq⟩)) hcl
    | lose hF ha hne2=>simp[Zh4,ZbD,Zc.tk,upd,ha,hidle]
    | work hF ha=>
     rw[if_neg (hz hF ha)]
     simp[Zh4,ZbD,ha]
    | back hF ha=>simp[Zh4,ZbD,Zc.fresh,Zc.setB,upd,ha,hidle]
    | top hF ha=>exact absurd ha ha0
    | bottom hF ha hlt=>simp[Zh4,ZbD,Zc.tk,upd,ha,hidle]
    | none2 hF ha hle=>simp[Zh4,ZbD,Zc.fresh,upd,ha,hidle]
    | read hF ha=>simp[Zh4,ZbD,Zc.tk,upd,ha,hidle]
    | steal hF ha heq=>exact absurd (.inr (.inr ⟨hF,ha,heq⟩)) hcl
    | lost hF ha hne2=>simp[Zh4,ZbD,Zc.fresh,upd,ha,hidle])
   refine⟨by omega,.inr (.inr ⟨fun q hq=>?_,fun j hj=>by rw[ne];exact nn j hj,by omega⟩)⟩
   by_cases e:q=c
   ·subst e
    obtain⟨_,_,h1,h2⟩:=hq
    cases s with
    | own0 hF ha=>exact ha0 ha
    | take hF ha hlt=>exact hcl (.inl ⟨hF,ha,hlt⟩)
    | last hF ha heq=>exact np q ⟨hc,hidle,hF,.inl ⟨ha,by omega⟩⟩
    | win hF ha heq=>exact hcl (.inr (.inl ⟨hF,ha,heq⟩))
    | steal hF ha heq=>exact hcl (.inr (.inr ⟨hF,ha,heq⟩))
    | _=>simp_all [Zc.tk,Zc.got,Zc.fresh,Zc.setB,Zc.setT,upd]
   ·exact np q ((pend q e).1 hq)
def mi (m u:Nat):Nat:=3*m+u*(4*m+4)+(m-u)
def Gm (m:Nat):Nat→Nat
  | 0=>0
  | u+1=>Gm m u+mi m u+1
theorem Zt2 (m:Nat):∀{a b:Nat},a≤b→Gm m a≤Gm m b
  | a, 0, h => by have : a = 0 := by omega
                  subst this;exact Nat.le_refl _
  | a,b+1,h=>by
    by_cases e:a=b+1
    · subst e;exact Nat.le_refl _
    · have:=Zt2 m (show a≤b by omega)
      show _≤Gm m b+mi m b+1
      omega
theorem ZqI {m a b:Nat} (h:a≤b) (hb:b≤m):mi m a≤mi m b:=by
  unfold mi
  obtain⟨d,rfl⟩:∃d,b=a+d:=⟨b-a,by omega⟩
  rw[Nat.add_mul]
  have:d≤d*(4*m+4):=Nat.le_mul_of_pos_right d (by omega)
  omega
theorem ZzP (m:Nat) (V:Zc):uV m V≤m:=(Zlh (a:=0) (b:=0) (p:=fun c=>V.O c = -1∧¬(V.F c=0∧V.a c=4)) (fun _=>Classical.propDecidable _) (f:=fun _=>0) (h:=fun c=>if V.O c = -1∧¬(V.F c=0∧V.a c=4) then 1 else 0) m fun i _=>⟨fun h=>⟨Nat.le_refl _,if_pos h⟩,fun h=>⟨Nat.le_refl _,if_neg h⟩⟩).2
theorem ZrT (m:Nat) (last:Int) (p:Nat):(last<(p:Int)∧dP m last p=((p:Int)-last-1).toNat)∨((p:Int)≤last∧dP m last p=((p:Int)+m-last-1).toNat):=by
  unfold dP
  by_cases h:last<(p:Int)
  · rw[if_pos h];exact .inl ⟨h,rfl⟩
  · rw[if_neg h];exact .inr ⟨by omega,rfl⟩
theorem ZCi {m:Nat}{last:Int} (hl : -1≤last∧last<m) {p:Nat} (hp:p<m):dP m last p+1≤m:=by
  unfold dP
  split<;>omega
theorem ZyN {m c f j:Nat} (hc:c<m) (hf:f<m) (hj:j<m):∃i,1≤i∧i≤m∧vic m c (f+i)=j:=by
  have h0:(c+f) % m<m:=Nat.mod_lt _ (by omega)
  refine⟨if j≤(c+f) % m then j+m-(c+f) % m else j-(c+f) % m,?_,?_,?_⟩
  · split<;>omega
  · split<;>omega
  · unfold vic
    rw[← Nat.add_assoc,Nat.add_mod]
    split
    · rename_i h
      by_cases e:j=(c+f) % m
      · rw[show j+m-(c+f) % m=m by omega,Nat.mod_self,Nat.add_zero,Nat.mod_mod]
        exact e.symm
      · rw[Nat.mod_eq_of_lt (show j+m-(c+f) % m<m by omega),show(c+f) % m+(j+m-(c+f) % m)=j+m by omega,Nat.add_mod_right,Nat.mod_eq_of_lt hj]
    · rename_i h
      rw[Nat.mod_eq_of_lt (show j-(c+f) % m<m by omega),show(c+f) % m+(j-(c+f) % m)=j by omega,Nat.mod_eq_of_lt hj]
theorem In.start {m:Nat}{V:Zc}{last:Int} (G:∀i,i<m→Gen m V i) (hl : -1≤last∧last<m):In m V last (mi m (uV m V)):=by
  have hu:=ZzP m V
  by_cases hp:∃p,Zq3 m V p
  · obtain⟨p,hp⟩:=hp
    refine .inl ⟨p,hp,?_⟩
    have h1:=ZCi hl hp.1
    have h2:rP V p≤2:=by unfold rP;split<;>omega
    have h3:rP V p*m≤2*m:=Nat.mul_le_mul_right m h2
    unfold mi
    omega
  · have np:∀p,¬Zq3 m V p:=fun p h=>hp ⟨p,h⟩
    by_cases hn:∃j,j<m∧NE V j
    · obtain⟨j,hj,hne⟩:=hn
      refine .inr (.inl ⟨np,⟨j,hj,hne⟩,fun c=>if V.F c=0∧V.a c=4 then 1 else 4*m+4,fun c hc ho=>?_,?_⟩)
      · have p:=G c hc
        by_cases h4:V.F c=0∧V.a c=4
        · simp only[if_pos h4]
          exact .inl ⟨h4.1,h4.2,Nat.le_refl _⟩
        · simp only[if_neg h4]
          obtain⟨i,h1,h2,h3⟩:=ZyN hc p.F hj
          refine .inr (.inr ⟨i,h1,by rw[h3];exact hne,?_⟩)
          have:ZbD V c≤4:=by
            have:=p.a0
            unfold ZbD
            split<;>omega
          omega
      · have:=(Zlh (a:=4*m+4) (b:=1) (p:=fun i=>V.O i = -1∧¬(V.F i=0∧V.a i=4)) (fun _=>Classical.propDecidable _) (f:=fun c=>if V.O c = -1 then (if V.F c=0∧V.a c=4 then 1 else 4*m+4) else 0) (h:=fun c=>if V.O c = -1∧¬(V.F c=0∧V.a c=4) then 1 else 0) m fun i _=>by
          constructor
          · rintro ⟨h1,h2⟩
            simp only[if_pos h1,if_neg h2,h1,h2,not_false_iff,and_self,if_true]
            exact⟨Nat.le_refl _,trivial⟩
          · intro h
            simp only[if_neg h]
            refine⟨?_,trivial⟩
            by_cases h1:V.O i = -1
            · have h2:V.F i=0∧V.a i=4:=Classical.byContradiction fun h2=>h ⟨h1,h2⟩
              simp only[if_pos h1,if_pos h2]
              exact Nat.le_refl _
            · simp only[if_neg h1]
              omega).1
        have this:Zfg (fun c=>if V.O c = -1 then (if V.F c=0∧V.a c=4 then 1 else 4*m+4) else 0) m≤uV m V*(4*m+4)+(m-uV m V)*1:=this
        show 3*m+Zfg (fun c=>if V.O c = -1 then (if V.F c=0∧V.a c=4 then 1 else 4*m+4) else 0) m≤mi m (uV m V)
        unfold mi
        omega
    · refine .inr (.inr ⟨np,fun j hj hne=>hn ⟨j,hj,hne⟩,?_⟩)
      have:=(Zlh (a:=4) (b:=1) (p:=fun i=>V.O i = -1∧¬(V.F i=0∧V.a i=4)) (fun _=>Classical.propDecidable _) (f:=fun c=>if V.O c = -1 then Zh4 V c else 0) (h:=fun c=>if V.O c = -1∧¬(V.F c=0∧V.a c=4) then 1 else 0) m fun i hi=>by
        have p:=G i hi
        have h0:=p.a0
        constructor
        · rintro ⟨h1,h2⟩
          simp only[if_pos h1,h1,h2,not_false_iff,and_self,if_true]
          refine⟨?_,trivial⟩
          unfold Zh4 ZbD
          split
          · omega
          · split<;>omega
        · intro h
          simp only[if_neg h]
          refine⟨?_,trivial⟩
          by_cases h1:V.O i = -1
          · have h2:V.F i=0∧V.a i=4:=Classical.byContradiction fun h2=>h ⟨h1,h2⟩
            simp only[if_pos h1]
            unfold Zh4 ZbD
            rw[if_neg (by omega),if_pos h2.2]
            exact Nat.le_refl _
          · simp only[if_neg h1]
            omega).1
      have h4:uV m V*4≤uV m V*(4*m+4):=Nat.mul_le_mul (Nat.le_refl _) (by omega)
      have this:Zfg (fun c=>if V.O c = -1 then Zh4 V c else 0) m≤uV m V*4+(m-uV m V)*1:=this
      unfold mi
      omega
def Next (m:Nat) (V:Zc) (last:Int) (c:Nat):Prop:=Zcy m V c∧((last<(c:Int)∧∀p,Zcy m V p→last<(p:Int)→c≤p)∨((∀p,Zcy m V p→(p:Int)≤last)∧∀p,Zcy m V p→c≤p))
theorem Next.near {m:Nat}{V:Zc}{last:Int}{c:Nat} (h:Next m V last c) (hl : -1≤last∧last<m):∀p,Zcy m V p→p≠c→dP m (c:Int) p<dP m last p:=fun p hp hne=>by
  obtain⟨hw,h⟩:=h
  have hc:=hw.1
  have hpm:=hp.1
  have e1:=ZrT m (c:Int) p
  have e2:=ZrT m last p
  rcases h with⟨h1,h2⟩ | ⟨h1,h2⟩
  · by_cases h3:last<(p:Int)
    · have:=h2 p hp h3
      rcases e1 with e1 | e1<;>rcases e2 with e2 | e2<;>omega
    · rcases e1 with e1 | e1<;>rcases e2 with e2 | e2<;>omega
  · have:=h1 p hp
    have:=h2 p hp
    rcases e1 with e1 | e1<;>rcases e2 with e2 | e2<;>omega
theorem Inv.gen {m:Nat}{base:Int→Prop}{V:Zc} (I:Inv m base V):∀i,i<m→Gen m V i:=fun i hi=>(I.pos i hi).gen
theorem Zp1:∀{f:Nat→Nat} (n:Nat),(∀i,i<n→f i=0)→Zfg f n=0
  | _,0,_=>rfl
  | f,n+1,h=>by
    unfold Zfg
    rw[Zp1 n fun i hi=>h i (by omega),h n (by omega)]
theorem Inv.w {m:Nat}{base:Int→Prop}{V:Zc} (I:Inv m base V):wV m V=0:=by
  unfold wV
  exact Zp1 m fun i hi=>if_pos (I.pos i hi).ownOK
theorem Inv.gets {m:Nat}{base:Int→Prop}{V:Zc} (I:Inv m base V) (hb:∀n,base n→n ≠ -1) {c:Nat} (hc:c<m) (hidle:V.O c = -1) (h:Zz9 m V c):(Zab m V c).O c ≠ -1:=by
  have p:=I.pos c hc
  have hm:0<m:=by omega
  rcases h with⟨h1,h2,h3⟩ | ⟨h1,h2⟩ | ⟨h1,h2,h3⟩
  · have hy:=p.o1 h1 (by omega)
    have it:Item m V c (V.y c):=⟨hc,by unfold Zc.lo;rw[if_neg (by omega)];omega,by unfold Zc.be;rw[if_pos ⟨h1,by omega⟩];omega⟩
    have:=hb _ (I.items.rdy c _ it).1
    simpa [Zab,h1,h2,h3,Zc.got,upd] using this
  · have hB:=p.o3 h1 (.inr h2)
    have it:Item m V c (V.B c):=⟨hc,by unfold Zc.lo;rw[if_pos ⟨h1,h2⟩];omega,by unfold Zc.be;rw[if_pos ⟨h1,by omega⟩];omega⟩
    have:=hb _ (I.items.rdy c _ it).1
    rw[← p.o4 h1 h2] at this
    simpa [Zab,h1,h2,Zc.got,Zc.setB,upd] using this
  · have it:Item m V (vic m c (V.F c)) (V.x c):=⟨Zn8 hm _ _,by unfold Zc.lo;split<;>omega,by
      have:=p.t2 h1 (by omega) h3.symm
      omega⟩
    have:=hb _ (I.items.rdy _ _ it).1
    rw[← p.t3 h1 h2] at this
    simpa [Zab,h1,h2,h3,Zc.got,Zc.setT,upd] using this
theorem Zx2 {m L:Nat}{base:Int→Prop} (hb:∀n,base n→n ≠ -1) (ch:Zc→Int→Nat→Nat)
    (hch:∀V last s,Inv m base V→(∃c,Zcy m V c)→Zcy m V (ch V last s)∧(L≤s→Next m V last (ch V last s)))
    (Q:Nat→Nat→Zc→Int→Prop) (mono:∀n k s V l,n≤k→Q n s V l→Q k s V l)
    (h0:∀n s V l,Inv m base V→(∀c,¬Zcy m V c)→Q n s V l)
    (h1:∀n s V l,Inv m base V→Zcy m V (ch V l s)→Q n (s+1) (Zab m V (ch V l s)) (ch V l s:Int)→Q (n+1) s V l) :
    ∀s V l,Inv m base V→(-1≤l∧l<(m:Int))→Q ((L-s)+(Gm m m+mi m m)) s V l:=by
  have one:∀{s V l c k},L≤s→Inv m base V→(-1≤l∧l<(m:Int))→Zcy m V c→Next m V l c→In m V l k→uV m (Zab m V c)+1≤uV m V∨(uV m (Zab m V c)=uV m V∧1≤k∧In m (Zab m V c) (c:Int) (k-1)):=fun {s V l c k} hs I hl hw nx hin=>by
    have I':=(I.step hb hw.1 hw.2.1).1
    rcases In.step I.gen (I.gets hb hw.1 hw.2.1) hw (nx.near hl) hin with h | ⟨_,h⟩ | ⟨h,_,h2,h3⟩
    · exact .inl h
    · rw[I.w] at h;omega
    · exact .inr ⟨h,h2,h3⟩
  have late:∀U k s V l,L≤s→Inv m base V→(-1≤l∧l<(m:Int))→uV m V≤U→In m V l k→Q (Gm m U+k) s V l:=by
    intro U
    induction U with
    | zero=>
      intro k
      induction k with
      | zero=>
        intro s V l hs I hl hu hin
        by_cases hw:∃c,Zcy m V c
        · obtain⟨w1,w2⟩:=hch V l s I hw
          rcases one hs I hl w1 (w2 hs) hin with h | ⟨_,h,_⟩<;>omega
        · exact h0 _ s V l I fun c hc=>hw ⟨c,hc⟩
      | succ k ih=>
        intro s V l hs I hl hu hin
        by_cases hw:∃c,Zcy m V c
        · obtain⟨w1,w2⟩:=hch V l s I hw
          rcases one hs I hl w1 (w2 hs) hin with h | ⟨h,_,h2⟩
          · omega
          · have:=w1.1
            exact h1 _ s V l I w1 (ih (s+1) _ _ (by omega) (I.step hb w1.1 w1.2.1).1 (by omega) (by omega) h2)
        · exact h0 _ s V l I fun c hc=>hw ⟨c,hc⟩
    | succ U ihU=>
      intro k
      have down:∀s V l c,L≤s→Inv m base V→Zcy m V c→ch V l s=c→uV m (Zab m V c)≤U→∀k,Q (Gm m (U+1)+k) s V l:=fun s V l c hs I hw hcc hu k=>by
        subst hcc
        have I':=(I.step hb hw.1 hw.2.1).1
        have hc:=hw.1
        have hl' : -1≤((ch V l s:Nat):Int)∧((ch V l s:Nat):Int)<(m:Int):=by omega
        have q:=ihU _ (s+1) _ _ (by omega) I' hl' hu (In.start I'.gen hl')
        refine mono (Gm m U+mi m (uV m (Zab m V (ch V l s)))+1) _ s V l ?_ (h1 _ s V l I hw q)
        have hum:=ZzP m (Zab m V (ch V l s))
        have e:Gm m (U+1)=Gm m U+mi m U+1:=rfl
        by_cases hU:U≤m
        · have:=ZqI (m:=m) hu hU
          omega
        · have h5:=ZqI (m:=m) hum (Nat.le_refl m)
          have h6:mi m m≤mi m U:=by
            unfold mi
            have:m*(4*m+4)≤U*(4*m+4):=Nat.mul_le_mul_right _ (by omega)
            omega
          omega
      induction k with
      | zero=>
        intro s V l hs I hl hu hin
        by_cases hw:∃c,Zcy m V c
        · obtain⟨w1,w2⟩:=hch V l s I hw
          rcases one hs I hl w1 (w2 hs) hin with h | ⟨_,h,_⟩
          · exact down s V l _ hs I w1 rfl (by omega) 0
          · omega
        · exact h0 _ s V l I fun c hc=>hw ⟨c,hc⟩
      | succ k ih=>
        intro s V l hs I hl hu hin
        by_cases hw:∃c,Zcy m V c
        · obtain⟨w1,w2⟩:=hch V l s I hw
          rcases one hs I hl w1 (w2 hs) hin with h | ⟨h,_,h2⟩
          · exact down s V l _ hs I w1 rfl (by omega) (k+1)
          · have:=w1.1
            exact h1 _ s V l I w1 (ih (s+1) _ _ (by omega) (I.step hb w1.1 w1.2.1).1 (by omega) (by omega) h2)
        · exact h0 _ s V l I fun c hc=>hw ⟨c,hc⟩
  intro s
  generalize hd:L-s=d
  induction d generalizing s with
  | zero=>
    intro V l I hl
    rw[Nat.zero_add]
    have hu:=ZzP m V
    refine mono (Gm m (uV m V)+mi m (uV m V)) _ s V l ?_ (late _ _ s V l (by omega) I hl (Nat.le_refl _) (In.start I.gen hl))
    have:=Zt2 m hu
    have:=ZqI (m:=m) hu (Nat.le_refl m)
    omega
  | succ d ih=>
    intro V l I hl
    by_cases hw:∃c,Zcy m V c
    · obtain⟨w1,_⟩:=hch V l s I hw
      have:=w1.1
      have q:=ih (s+1) (by omega) (Zab m V (ch V l s)) _ (I.step hb w1.1 w1.2.1).1 (show -1≤((ch V l s:Nat):Int)∧((ch V l s:Nat):Int)<(m:Int) by omega)
      refine mono (d+(Gm m m+mi m m)+1) _ s V l (by omega) (h1 _ s V l I w1 q)
    · exact h0 _ s V l I fun c hc=>hw ⟨c,hc⟩
theorem ZuQ {m:Nat} (h1:1≤m) (h8:m≤8):Gm m m+mi m m≤8*m*m*(m+1):=by
  have:m=1∨m=2∨m=3∨m=4∨m=5∨m=6∨m=7∨m=8:=by omega
  rcases this with rfl | rfl | rfl | rfl | rfl | rfl | rfl | rfl<;>decide
theorem Zze:∃k:Unit,Zgx 64=some (.inr k):=by
 have hk:=ZvT 64
 have:Zxa 64=true:=by
  have:=Ztl 64 (by omega)
  rw[show((64:Nat):Int)=64 from rfl] at this
  rw[this];rfl
 rw[this] at hk
 exact⟨(),hk⟩
structure Znj (d:Zb):Prop where
 len:d.ring.length=64
 t0:0≤d.top
 t1:d.top≤64
 b0:d.top-1≤d.bottom
 b1:d.bottom≤64
theorem Zgz {d:Zb} (h:Znj d):ZbG d=some 0:=by
 obtain⟨k,hk⟩:=Zze
 have:=h.t0
 have:=h.t1
 have:=h.b0
 have:=h.b1
 unfold ZbG
 rw[h.len,show((64:Nat):Int)=64 from rfl,hk,Option.bind_some]
 have e:Zjj d.top=0:=by
  unfold Zjj
  rw[decide_eq_false (by omega),decide_eq_false (by omega)];rfl
 simp only[cond_true,ZnB,Option.bind_some,e,Zdo (show -9223372036854775808≤d.top-1 by omega) (by omega),Zdo (show -9223372036854775808≤d.top+64 by omega) (by omega)]
 rw[decide_eq_false (show ¬(64:Int)<64 by omega),decide_eq_false (show ¬d.bottom<d.top-1 by omega),decide_eq_false (show ¬d.top+64<d.bottom by omega)]
 rfl
def gt {α β:Type} (f:α→β) (z:β) (l:List α) (c:Nat):β:=match l[c]? with | some x=>f x | none=>z
theorem ZV {α β:Type}{f:α→β}{z:β}{l:List α}{c:Nat}{x:α} (h:l[c]? = some x):gt f z l c=f x:=by unfold gt;rw[h]
theorem Zbi {α β:Type}{f:α→β}{z:β}{l:List α}{c:Nat}{v:α} (h:c<l.length):gt f z (l.set c v)=upd (gt f z l) c (f v):=by
 funext k
 unfold gt upd
 rw[List.getElem?_set]
 by_cases e:c=k
 ·subst e;rw[if_pos rfl,if_pos h,if_pos rfl]
 ·rw[if_neg e,if_neg (fun h=>e h.symm)]
theorem Zbt {α:Type} (f:Nat→α) (c:Nat) {v:α} (h:v=f c):upd f c v=f:=by
 funext k
 unfold upd
 split
 ·rename_i e;rw[h,e]
 ·rfl
def plc (k:Int):Nat:=(Int.tmod (bif decide (k<0) then 0 else k) 64).toNat
theorem Zww (k:Int):Int.tmod (bif decide (k<0) then 0 else k) 64=(plc k:Int)∧plc k<64:=by
 have h0:(0:Int)≤(bif decide (k<0) then 0 else k):=by
  by_cases h:k<0
  ·rw[decide_eq_true h];exact Int.le_refl _
  ·rw[decide_eq_false h];show 0≤k;omega
 unfold plc
 have h1:=Int.tmod_nonneg 64 h0
 have h2:=Int.tmod_lt_of_pos (bif decide (k<0) then 0 else k) (show(0:Int)<64 by omega)
 omega
theorem ZvE {k:Int} (h0:0≤k) (h:k<64):plc k=k.toNat:=by
 unfold plc
 rw[decide_eq_false (by omega),cond_false,Int.tmod_eq_emod_of_nonneg h0,Int.emod_eq_of_lt h0 h]
def ZeR (r:List Int) (k:Int):Int:=gt id 0 r (plc k)
theorem Znz {d:Zb} (h:d.ring.length=64) (k:Int):ZcF d k=some (plc k:Int):=by
 unfold ZcF
 rw[h,show((64:Nat):Int)=64 from rfl,(Zww k).1]
 rfl
theorem Zq0 {r:List Int} (h:r.length=64) (k:Int):ZI r (plc k:Int)=some (ZeR r k):=by
 have hl:plc k<r.length:=by rw[h];exact(Zww k).2
 have:=List.getElem?_eq_getElem hl
 rw[ZE this]
 unfold ZeR
 rw[ZV this]
 rfl
theorem Zdp {l:List Int} (h:l.length≤1073741824):Zn l=some ():=by
 unfold Zn
 rw[ZeU h];rfl
theorem ZqW {d:Zb} (h:d.ring.length=64):ZfM d=some ():=by
 unfold ZfM
 rw[Zdp (by omega)];rfl
structure ZyT (t:Zi):Prop where
 en:t.end_=0
 a0:0≤t.at_
 a4:t.at_≤4
 a3:t.steal=true→t.at_≤3
 rx : -1≤t.top∧t.top≤64
 ry : -1≤t.bottom∧t.bottom≤64
theorem ZtM {n:Int} (h : -1≤n∧n≤64):ZbU n=some false:=by
 unfold ZbU
 rw[decide_eq_false (by omega),decide_eq_false (by omega)];rfl
theorem Zwi {t:Zi} (h:ZyT t):Zgl t=some true:=by
 have:=h.a0
 have:=h.a4
 unfold Zgl
 rw[ZtM h.rx,ZtM h.ry,h.en,decide_eq_true (show 0≤t.at_ by omega),decide_eq_true (show t.at_≤4 by omega)]
 cases hs:t.steal with
 | true=>
  have:=h.a3 hs
  rw[decide_eq_true (show t.at_≤3 by omega)]
  cases t.at_==0<;>rfl
 | false=>cases t.at_==0<;>rfl
theorem ZeH {d:Zb}{t:Zi}{x:Int×Int×Int×Int×Int×Int×Int} (hd:Znj d) (ht:ZyT t) (hs:t.steal=false) (hx:Zbh d.top d.bottom t.at_ t.top t.bottom t.got t.end_ d.ring=some x) (hd':Znj ⟨d.ring,x.1,x.2.1⟩) :
  ZaB d t=some (⟨d.ring,x.1,x.2.1⟩,⟨false,x.2.2.1,x.2.2.2.1,x.2.2.2.2.1,x.2.2.2.2.2.1,x.2.2.2.2.2.2⟩,0):=by
 unfold ZaB
 rw[Zgz hd,Option.bind_some,show((0:Int) != 0)=false from rfl,cond_false,Zwi ht,Option.bind_some,cond_true,ZqW hd.len,Option.bind_some,hs,cond_false,hx,Option.bind_some,Zgz hd',Option.bind_some]
 rfl
theorem ZeM {d:Zb}{t:Zi}{x:Int×Int×Int×Int×Int×Int} (hd:Znj d) (ht:ZyT t) (hs:t.steal=true) (hx:Zbb d.top d.bottom t.at_ t.top t.bottom t.got t.end_ d.ring=some x) (hd':Znj ⟨d.ring,x.1,d.bottom⟩) :
  ZaB d t=some (⟨d.ring,x.1,d.bottom⟩,⟨true,x.2.1,x.2.2.1,x.2.2.2.1,x.2.2.2.2.1,x.2.2.2.2.2⟩,0):=by
 unfold ZaB
 rw[Zgz hd,Option.bind_some,show((0:Int) != 0)=false from rfl,cond_false,Zwi ht,Option.bind_some,cond_true,ZqW hd.len,Option.bind_some,hs,cond_true,hx,Option.bind_some,Zgz hd',Option.bind_some]
 rfl
theorem Zwr {m c:Nat}{f:Int} (hm:0<m) (h8:m≤8) (hc:c<m) (h0:0≤f) (hf:f<(m:Int)):Int.tmod (w64 ((c:Int)+f)) (m:Int)=((vic m c f.toNat:Nat):Int):=by
 rw[Zdo (by omega) (by omega),show(c:Int)+f=((c+f.toNat:Nat):Int) by omega,Int.tmod_eq_emod_of_nonneg (by omega)]
 rfl
theorem Zy7 {m:Nat}{f:Int} (hm:0<m) (h8:m≤8) (h0:0≤f) (hf:f<(m:Int)):Int.tmod (w64 (f+1)) (m:Int)=(((f.toNat+1) % m:Nat):Int):=by
 rw[Zdo (by omega) (by omega),show f+1=((f.toNat+1:Nat):Int) by omega,Int.tmod_eq_emod_of_nonneg (by omega)]
 rfl
section
variable {m c:Nat} {work:List Int} {E:List Zt} {on left fs:List Int} {ds:List Zb} {ts:List Zi} {f:Int} {d d':Zb} {t t':Zi}
theorem Zuy {c:Nat}{x:Int}{ts:List Zi}{fs:List Int} (ht:c<ts.length) (hf:c<fs.length):Za8 (c:Int) x ts fs=some (ts.set c ⟨x != 0,0,0,0,0,0⟩):=by
 unfold Za8
 rw[ZE (List.getElem?_eq_getElem hf),Option.bind_some,ZE (List.getElem?_eq_getElem ht)]
 cases x != 0<;>rfl
theorem Zvg (hm:0<m) (h8:m≤8) (hc:c<m) (ho:on.length=m) (h0:0≤f) (hf:f<(m:Int)) (hfs:fs[c]? = some f) (hds:ds[vic m c f.toNat]? = some d) (hts:ts[c]? = some t) (hd:ZaB d t=some (d',t',0)) (he:t'.end_=0) :
  Zae (c:Int) work E on left ds ts fs=some (0,on,ds.set (vic m c f.toNat) d',ts.set c t',fs):=by
 unfold Zae
 rw[ZE hfs,Option.bind_some,ho,show((m:Int)==0)=false from beq_eq_false_iff_ne.2 (by omega),cond_false,Zwr hm h8 hc h0 hf,ZE hds,Option.bind_some,ZE hts,Option.bind_some,hd,Option.bind_some]
 simp only[he,show((0:Int) != 0)=false from rfl,show((0:Int)==1)=false from rfl,show((0:Int)==2)=false from rfl,show((0:Int)==3)=false from rfl,cond_false,Int.toNat_natCast]
theorem ZuT {R:List Int} (hm:0<m) (h8:m≤8) (hc:c<m) (ho:on.length=m) (hl:ts.length=m) (hlf:fs.length=m) (h0:0≤f) (hf:f<(m:Int)) (hfs:fs[c]? = some f) (hds:ds[vic m c f.toNat]? = some d) (hts:ts[c]? = some t) (hd:ZaB d t=some (d',t',0)) (he:t'.end_=1)
  (hR:ZcA ⟨work,E⟩ ⟨on,left⟩=some R) (hRl:R.length<9223372036854775808) (hg:t'.got∈R) :
  Zae (c:Int) work E on left ds ts fs=some (0,on.set c t'.got,ds.set (vic m c f.toNat) d',ts.set c ⟨false,0,0,0,0,0⟩,fs.set c 0):=by
 unfold Zae
 rw[ZE hfs,Option.bind_some,ho,show((m:Int)==0)=false from beq_eq_false_iff_ne.2 (by omega),cond_false,Zwr hm h8 hc h0 hf,ZE hds,Option.bind_some,ZE hts,Option.bind_some,hd,Option.bind_some]
 simp only[he,show((0:Int) != 0)=false from rfl,show((1:Int)==1)=true from rfl,cond_false,cond_true,hR,Option.bind_some,ZgX R _ hRl,Zlw,decide_eq_true hg,ZE (List.getElem?_eq_getElem (show c<on.length by omega)),Int.toNat_natCast]
 rw[show(0:Int)=(0:Int) from rfl,Zuy (by rw[List.length_set];omega) (by omega),Option.bind_some,List.set_set]
 rfl
theorem ZsE (hm:0<m) (h8:m≤8) (hc:c<m) (ho:on.length=m) (hl:ts.length=m) (hlf:fs.length=m) (h0:0≤f) (hf:f<(m:Int)) (hfs:fs[c]? = some f) (hds:ds[vic m c f.toNat]? = some d) (hts:ts[c]? = some t) (hd:ZaB d t=some (d',t',0)) (he:t'.end_=2∨t'.end_=3) :
  Zae (c:Int) work E on left ds ts fs=some (0,on,ds.set (vic m c f.toNat) d',ts.set c ⟨(((f.toNat+1) % m:Nat):Int) != 0,0,0,0,0,0⟩,fs.set c (((f.toNat+1) % m:Nat):Int)):=by
 unfold Zae
 rw[ZE hfs,Option.bind_some,ho,show((m:Int)==0)=false from beq_eq_false_iff_ne.2 (by omega),cond_false,Zwr hm h8 hc h0 hf,ZE hds,Option.bind_some,ZE hts,Option.bind_some,hd,Option.bind_some]
 have hfr:=Zuy (c:=c) (x:=(((f.toNat+1) % m:Nat):Int)) (ts:=ts.set c t') (fs:=fs) (by rw[List.length_set];omega) (by omega)
 rcases he with he | he
 ·simp only[he,show((0:Int) != 0)=false from rfl,show((2:Int)==1)=false from rfl,show((2:Int)==2)=true from rfl,cond_false,cond_true,Zy7 hm h8 h0 hf,hfr,Option.bind_some,Int.toNat_natCast,List.set_set]
 ·simp only[he,show((0:Int) != 0)=false from rfl,show((3:Int)==1)=false from rfl,show((3:Int)==2)=false from rfl,show((3:Int)==3)=true from rfl,cond_false,cond_true,Zy7 hm h8 h0 hf,hfr,Option.bind_some,Int.toNat_natCast,List.set_set]
end
def vw (on:List Int) (ds:List Zb) (ts:List Zi) (fs:List Int):Zc:=
 ⟨gt (·.top) 0 ds,gt (·.bottom) 0 ds,gt (fun d=>ZeR d.ring) (fun _=>0) ds,gt id 0 on,gt (·.at_) 0 ts,gt (·.top) 0 ts,gt (·.bottom) 0 ts,gt (·.got) 0 ts,gt Int.toNat 0 fs⟩
def base (E:List Zt) (left:List Int) (n:Int):Prop:=isN left n∧0<lf left n∧Zji E left n
theorem Ziv {E:List Zt}{left:List Int}:∀n,base E left n→n ≠ -1:=fun n h=>by have:=h.1.1;omega
structure GangIn (g:Zk) (m:Nat) (left on:List Int) (ds:List Zb) (ts:List Zi) (fs:List Int):Prop where
 crew:Zcf g left on
 ol:on.length=m
 dl:ds.length=m
 tl:ts.length=m
 fl:fs.length=m
 ring:∀d∈ds,d.ring.length=64
 en:∀t∈ts,t.end_=0
 f0:∀f∈fs,0≤f
 st:∀(c:Nat) t f,ts[c]? = some t→fs[c]? = some f→t.steal=(f != 0)
 bz:∀(c:Nat) n t,on[c]? = some n→n ≠ -1→ts[c]? = some t→t=⟨false,0,0,0,0,0⟩
 inv:Inv m (base g.edges left) (vw on ds ts fs)
end Go.Proofs.YtgcfmiajkbbmeaaGreat
namespace Go.Proofs.YtgcfmiajkbbmeaaGreat
open Go Go.Proofs.YtgcfmiajkbbmeaaGreatE
open Go.IntKind (u64 i64 u32 i32 u8)
theorem Zc.eq_of {V W:Zc} (hT:V.T=W.T) (hB:V.B=W.B) (hR:V.R=W.R) (hO:V.O=W.O) (ha:V.a=W.a) (hx:V.x=W.x) (hy:V.y=W.y) (hz:V.z=W.z) (hF:V.F=W.F):V=W:=by
 cases V;cases W;cases hT;cases hB;cases hR;cases hO;cases ha;cases hx;cases hy;cases hz;cases hF;rfl
theorem ZcG {α:Type}{l:List α}{i:Nat}{v x:α} (h:x∈l.set i v):x∈l∨x=v:=by
 obtain⟨j,hj⟩:=List.getElem?_of_mem h
 rw[List.getElem?_set] at hj
 split at hj
 ·split at hj
  ·exact .inr (Option.some.inj hj).symm
  ·cases hj
 ·exact .inl (List.mem_of_getElem? hj)
def Zlp (g:Zk) (m:Nat) (left on:List Int) (ds:List Zb) (ts:List Zi) (fs:List Int) (c:Nat):Prop:=
 ∃on' ds' ts' fs',Zae (c:Int) g.work g.edges on left ds ts fs=some (0,on',ds',ts',fs')∧GangIn g m left on' ds' ts' fs'∧vw on' ds' ts' fs'=Zab m (vw on ds ts fs) c
theorem Zkw (on:List Int) (ds:List Zb) (ts:List Zi) (fs:List Int) {i:Nat}{n:Int} (h:on[i]? = some n):(vw on ds ts fs).O i=n:=ZV h
theorem Zue {on:List Int}{ds:List Zb}{ts:List Zi}{fs:List Int}{i:Nat}{n:Int} (hi:(vw on ds ts fs).O i = -1) (h:on[i]? = some n):n = -1:=by
 rw[Zkw on ds ts fs h] at hi
 exact hi
section
variable {g:Zk} {m c v:Nat} {on left fs:List Int} {ds:List Zb} {ts:List Zi} {f:Int} {d d':Zb} {t t':Zi}
theorem Zn2 (hv:v<ds.length) (hd:ds[v]? = some d) (hr:d'.ring=d.ring):gt (fun d:Zb=>ZeR d.ring) (fun _=>0) (ds.set v d')=gt (fun d:Zb=>ZeR d.ring) (fun _=>0) ds:=by
 rw[Zbi hv]
 exact Zbt _ _ (by rw[ZV hd,hr])
theorem ZfP (h:ZT g=0) (G:GangIn g m left on ds ts fs) (hm:0<m) (h8:m≤8) (hc:c<m) (hidle:(vw on ds ts fs).O c = -1) (hf:f<(m:Int)) (hfs:fs[c]? = some f) (hv:v=vic m c f.toNat) (hvm:v<m) (hds:ds[v]? = some d) (hts:ts[c]? = some t)
  (hd:ZaB d t=some (d',t',0)) (he:t'.end_=0) (hr:d'.ring=d.ring) (hs:t'.steal=t.steal)
  (hW:Zab m (vw on ds ts fs) c=⟨upd (vw on ds ts fs).T v d'.top,upd (vw on ds ts fs).B v d'.bottom,(vw on ds ts fs).R,(vw on ds ts fs).O,upd (vw on ds ts fs).a c t'.at_,upd (vw on ds ts fs).x c t'.top,upd (vw on ds ts fs).y c t'.bottom,upd (vw on ds ts fs).z c t'.got,(vw on ds ts fs).F⟩):Zlp g m left on ds ts fs c:=by
 have h0:=G.f0 f (List.mem_of_getElem? hfs)
 have hvd:v<ds.length:=by rw[G.dl];exact hvm
 have hct:c<ts.length:=by rw[G.tl];exact hc
 have hV:vw on (ds.set v d') (ts.set c t') fs=Zab m (vw on ds ts fs) c:=by
  rw[hW]
  refine Zc.eq_of ?_ ?_ ?_ rfl ?_ ?_ ?_ ?_ rfl
  ·exact Zbi hvd
  ·exact Zbi hvd
  ·exact Zn2 hvd hds hr
  ·exact Zbi hct
  ·exact Zbi hct
  ·exact Zbi hct
  ·exact Zbi hct
 refine⟨on,ds.set v d',ts.set c t',fs,?_,⟨G.crew,G.ol,by rw[List.length_set];exact G.dl,by rw[List.length_set];exact G.tl,G.fl,fun x hx=>?_,fun x hx=>?_,G.f0,fun i ti fi hti hfi=>?_,fun i n ti hi hn hti=>?_,?_⟩,hV⟩
 ·subst hv;exact Zvg hm h8 hc G.ol h0 hf hfs hds hts hd he
 ·rcases ZcG hx with hx | hx
  ·exact G.ring x hx
  ·rw[hx,hr];exact G.ring d (List.mem_of_getElem? hds)
 ·rcases ZcG hx with hx | hx
  ·exact G.en x hx
  ·rw[hx];exact he
 ·rw[List.getElem?_set] at hti
  split at hti
  ·rename_i e
   subst e
   cases hti
   rw[hs]
   rw[hfs] at hfi
   cases hfi
   exact G.st c t f hts hfs
  ·exact G.st i ti fi hti hfi
 ·rw[List.getElem?_set] at hti
  split at hti
  ·rename_i e
   subst e
   exact absurd (Zue hidle hi) hn
  ·exact G.bz i n ti hi hn hti
 ·rw[hV]
  exact(G.inv.step Ziv hc hidle).1
theorem Zmr (h:ZT g=0) (G:GangIn g m left on ds ts fs) (hm:0<m) (h8:m≤8) (hc:c<m) (hidle:(vw on ds ts fs).O c = -1) (hf:f<(m:Int)) (hfs:fs[c]? = some f) (hv:v=vic m c f.toNat) (hvm:v<m) (hds:ds[v]? = some d) (hts:ts[c]? = some t)
  (hd:ZaB d t=some (d',t',0)) (he:t'.end_=2∨t'.end_=3) (hr:d'.ring=d.ring)
  (hW:Zab m (vw on ds ts fs) c=⟨upd (vw on ds ts fs).T v d'.top,upd (vw on ds ts fs).B v d'.bottom,(vw on ds ts fs).R,(vw on ds ts fs).O,upd (vw on ds ts fs).a c 0,upd (vw on ds ts fs).x c 0,upd (vw on ds ts fs).y c 0,upd (vw on ds ts fs).z c 0,upd (vw on ds ts fs).F c ((f.toNat+1) % m)⟩):Zlp g m left on ds ts fs c:=by
 have h0:=G.f0 f (List.mem_of_getElem? hfs)
 have hvd:v<ds.length:=by rw[G.dl];exact hvm
 have hct:c<ts.length:=by rw[G.tl];exact hc
 have hcf:c<fs.length:=by rw[G.fl];exact hc
 have hV:vw on (ds.set v d') (ts.set c ⟨(((f.toNat+1) % m:Nat):Int) != 0,0,0,0,0,0⟩) (fs.set c (((f.toNat+1) % m:Nat):Int))=Zab m (vw on ds ts fs) c:=by
  rw[hW]
  refine Zc.eq_of ?_ ?_ ?_ rfl ?_ ?_ ?_ ?_ ?_
  ·exact Zbi hvd
  ·exact Zbi hvd
  ·exact Zn2 hvd hds hr
  ·exact Zbi hct
  ·exact Zbi hct
  ·exact Zbi hct
  ·exact Zbi hct
  ·exact Zbi hcf
 refine⟨on,_,_,_,?_,⟨G.crew,G.ol,by rw[List.length_set];exact G.dl,by rw[List.length_set];exact G.tl,by rw[List.length_set];exact G.fl,fun x hx=>?_,fun x hx=>?_,fun x hx=>?_,fun i ti fi hti hfi=>?_,fun i n ti hi hn hti=>?_,?_⟩,hV⟩
 ·subst hv;exact ZsE hm h8 hc G.ol G.tl G.fl h0 hf hfs hds hts hd he
 ·rcases ZcG hx with hx | hx
  ·exact G.ring x hx
  ·rw[hx,hr];exact G.ring d (List.mem_of_getElem? hds)
 ·rcases ZcG hx with hx | hx
  ·exact G.en x hx
  ·rw[hx]
 ·rcases ZcG hx with hx | hx
  ·exact G.f0 x hx
  ·rw[hx];omega
 ·rw[List.getElem?_set] at hti hfi
  split at hti
  ·rename_i e
   subst e
   rw[if_pos rfl,if_pos hcf] at hfi
   cases hti;cases hfi;rfl
  ·rename_i e
   rw[if_neg e] at hfi
   exact G.st i ti fi hti hfi
 ·rw[List.getElem?_set] at hti
  split at hti
  ·rename_i e
   subst e
   exact absurd (Zue hidle hi) hn
  ·exact G.bz i n ti hi hn hti
 ·rw[hV]
  exact(G.inv.step Ziv hc hidle).1
theorem Zou (h:ZT g=0) (G:GangIn g m left on ds ts fs) (hm:0<m) (h8:m≤8) (hc:c<m) (hidle:(vw on ds ts fs).O c = -1) (hf:f<(m:Int)) (hfs:fs[c]? = some f) (hv:v=vic m c f.toNat) (hvm:v<m) (hds:ds[v]? = some d) (hts:ts[c]? = some t)
  (hd:ZaB d t=some (d',t',0)) (he:t'.end_=1) (hr:d'.ring=d.ring)
  (hget:Zz9 m (vw on ds ts fs) c)
  (hW:Zab m (vw on ds ts fs) c=⟨upd (vw on ds ts fs).T v d'.top,upd (vw on ds ts fs).B v d'.bottom,(vw on ds ts fs).R,upd (vw on ds ts fs).O c t'.got,upd (vw on ds ts fs).a c 0,upd (vw on ds ts fs).x c 0,upd (vw on ds ts fs).y c 0,upd (vw on ds ts fs).z c 0,upd (vw on ds ts fs).F c 0⟩):Zlp g m left on ds ts fs c:=by
 have h0:=G.f0 f (List.mem_of_getElem? hfs)
 have hvd:v<ds.length:=by rw[G.dl];exact hvm
 have hct:c<ts.length:=by rw[G.tl];exact hc
 have hcf:c<fs.length:=by rw[G.fl];exact hc
 have hco:c<on.length:=by rw[G.ol];exact hc
 obtain⟨hG,hA⟩:=Z1 h
 have rng:∀x∈left,0≤x:=fun x hx=>(G.crew.ok.rng x hx).1
 have hO:(Zab m (vw on ds ts fs) c).O c=t'.got:=by rw[hW];exact ZY _ _ _
 have hne:=G.inv.gets Ziv hc hidle hget
 have htk:=(G.inv.step Ziv hc hidle).2.1
 have hrdy:base g.edges left t'.got∧∀i,i<m→(vw on ds ts fs).O i≠t'.got:=by
  rcases htk with h1 | ⟨h1,h2,_⟩
  ·rw[h1 c] at hne;exact absurd hidle hne
  ·rw[hO] at h1 h2;exact⟨h1,h2⟩
 have hnot:t'.got∉on:=fun hm'=>by
  obtain⟨i,hi⟩:=List.getElem?_of_mem hm'
  have hil:=(List.getElem?_eq_some_iff.1 hi).1
  exact hrdy.2 i (by rw[← G.ol];exact hil) (Zkw on ds ts fs hi)
 have hR:t'.got∈Zbj g.edges left on:=(ZkI rng).2 ⟨hrdy.1.1,hrdy.1.2.1,hnot,hrdy.1.2.2⟩
 have hRl:(Zbj g.edges left on).length<9223372036854775808:=by
  have:(Zbj g.edges left on).length≤left.length:=by
   unfold Zbj
   rw[List.length_map]
   exact Nat.le_trans (List.length_filter_le _ _) (by rw[List.length_range];exact Nat.le_refl _)
  have:=G.crew.ll
  have:=hG.wl
  omega
 have hV:vw (on.set c t'.got) (ds.set v d') (ts.set c ⟨false,0,0,0,0,0⟩) (fs.set c 0)=Zab m (vw on ds ts fs) c:=by
  rw[hW]
  refine Zc.eq_of ?_ ?_ ?_ ?_ ?_ ?_ ?_ ?_ ?_
  ·exact Zbi hvd
  ·exact Zbi hvd
  ·exact Zn2 hvd hds hr
  ·exact Zbi hco
  ·exact Zbi hct
  ·exact Zbi hct
  ·exact Zbi hct
  ·exact Zbi hct
  ·exact Zbi hcf
 have crew':Zcf g left (on.set c t'.got):=by
  refine⟨G.crew.ll,by rw[List.length_set];exact G.crew.o1,by rw[List.length_set];exact G.crew.o8,G.crew.ok.rng,fun n hn=>?_,fun i j n hi hj hnn=>?_,G.crew.ok.over⟩
  ·rcases ZcG hn with hn | hn
   ·exact G.crew.ok.run n hn
   ·rw[hn];exact .inr ⟨hrdy.1.1,hrdy.1.2.1,hrdy.1.2.2⟩
  ·rw[List.getElem?_set] at hi hj
   by_cases e1:c=i
   ·by_cases e2:c=j
    ·omega
    ·rw[if_pos e1,if_pos hco] at hi
     rw[if_neg e2] at hj
     cases hi
     exact absurd (List.mem_of_getElem? hj) hnot
   ·by_cases e2:c=j
    ·rw[if_neg e1] at hi
     rw[if_pos e2,if_pos hco] at hj
     cases hj
     exact absurd (List.mem_of_getElem? hi) hnot
    ·rw[if_neg e1] at hi
     rw[if_neg e2] at hj
     exact G.crew.ok.one i j n hi hj hnn
 refine⟨_,_,_,_,?_,⟨crew',by rw[List.length_set];exact G.ol,by rw[List.length_set];exact G.dl,by rw[List.length_set];exact G.tl,by rw[List.length_set];exact G.fl,fun x hx=>?_,fun x hx=>?_,fun x hx=>?_,fun i ti fi hti hfi=>?_,fun i n ti hi hn hti=>?_,?_⟩,hV⟩
 ·subst hv;exact ZuT hm h8 hc G.ol G.tl G.fl h0 hf hfs hds hts hd he (Znp h G.crew) hRl hR
 ·rcases ZcG hx with hx | hx
  ·exact G.ring x hx
  ·rw[hx,hr];exact G.ring d (List.mem_of_getElem? hds)
 ·rcases ZcG hx with hx | hx
  ·exact G.en x hx
  ·rw[hx]
 ·rcases ZcG hx with hx | hx
  ·exact G.f0 x hx
  ·rw[hx];exact Int.le_refl _
 ·rw[List.getElem?_set] at hti hfi
  split at hti
  ·rename_i e
   subst e
   rw[if_pos rfl,if_pos hcf] at hfi
   cases hti;cases hfi;rfl
  ·rename_i e
   rw[if_neg e] at hfi
   exact G.st i ti fi hti hfi
 ·rw[List.getElem?_set] at hti hi
  split at hti
  ·rename_i e
   subst e
   cases hti;rfl
  ·rename_i e
   rw[if_neg e] at hi
   exact G.bz i n ti hi hn hti
 ·rw[hV]
  exact(G.inv.step Ziv hc hidle).1
theorem ZAz (h:ZT g=0) (G:GangIn g m left on ds ts fs) (hc:c<m) (hidle:(vw on ds ts fs).O c = -1):Zlp g m left on ds ts fs c:=by
 have hm:0<m:=by omega
 have h8:m≤8:=by rw[← G.ol];exact G.crew.o8
 have p:=G.inv.pos c hc
 have hcf:c<fs.length:=by rw[G.fl];exact hc
 have hct:c<ts.length:=by rw[G.tl];exact hc
 obtain⟨f,hfs⟩:∃f,fs[c]? = some f:=⟨_,List.getElem?_eq_getElem hcf⟩
 obtain⟨t,hts⟩:∃t,ts[c]? = some t:=⟨_,List.getElem?_eq_getElem hct⟩
 have qF:(vw on ds ts fs).F c=f.toNat:=ZV hfs
 have qa:(vw on ds ts fs).a c=t.at_:=ZV hts
 have qx:(vw on ds ts fs).x c=t.top:=ZV hts
 have qy:(vw on ds ts fs).y c=t.bottom:=ZV hts
 have qz:(vw on ds ts fs).z c=t.got:=ZV hts
 have h0:=G.f0 f (List.mem_of_getElem? hfs)
 have hst:=G.st c t f hts hfs
 have pF:=p.F
 rw[qF] at pF
 have hf:f<(m:Int):=by omega
 have hvm:=Zn8 hm c f.toNat
 have hvd:vic m c f.toNat<ds.length:=by rw[G.dl];exact hvm
 obtain⟨d,hds⟩:∃d,ds[vic m c f.toNat]? = some d:=⟨_,List.getElem?_eq_getElem hvd⟩
 have pv:=G.inv.pos _ hvm
 have qT:(vw on ds ts fs).T (vic m c f.toNat)=d.top:=ZV hds
 have qB:(vw on ds ts fs).B (vic m c f.toNat)=d.bottom:=ZV hds
 have qR:(vw on ds ts fs).R (vic m c f.toNat)=ZeR d.ring:=ZV hds
 have hring:=G.ring d (List.mem_of_getElem? hds)
 have hbe:(vw on ds ts fs).be (vic m c f.toNat)=d.bottom∨(vw on ds ts fs).be (vic m c f.toNat)=d.bottom+1:=by
  unfold Zc.be
  split
  ·right;rw[qB]
  ·left;rw[qB]
 have vT0:=pv.T0
 have vTB:=pv.TB
 have vB64:=pv.B64
 rw[qT] at vT0 vTB
 have hd:Znj d:=⟨hring,vT0,by omega,by rcases hbe with e | e<;>omega,by rcases hbe with e | e<;>omega⟩
 have pa0:=p.a0
 have pa4:=p.a4
 have pa3:=p.a3
 have prx:=p.rx
 have pry:=p.ry
 have po1:=p.o1
 have po2:=p.o2
 have po3:=p.o3
 have pt1:=p.t1
 have pt2:=p.t2
 have pt3:=p.t3
 have po4:=p.o4
 rw[qa] at pa0 pa4 po1 po2 po3 po4 pt1 pt2 pt3 pa3
 rw[qF] at pa3 po1 po2 po3 po4 pt1 pt2 pt3
 rw[qx] at prx po2 pt1 pt2 pt3
 rw[qy] at pry po1 po2
 have ht:ZyT t:=⟨G.en t (List.mem_of_getElem? hts),pa0,pa4,fun hs=>pa3 (by
  rw[hst] at hs
  have:f≠0:=by simpa using hs
  omega),prx,pry⟩
 have hen:=ht.en
 by_cases hF:f.toNat=0
 ·
  have hv:vic m c f.toNat=c:=by rw[hF];exact Zr7 hc
  rw[hv] at hds qT qB qR hbe vTB vB64 hvm
  have hs:t.steal=false:=by rw[hst];simp;omega
  have hVF:(vw on ds ts fs).F c=0:=by rw[qF,hF]
  by_cases a0:t.at_=0
  ·have hbc:(vw on ds ts fs).be c=d.bottom:=by
    unfold Zc.be
    rw[if_neg (by rw[qa];omega),qB]
   refine ZfP h G hm h8 hc hidle hf hfs hv.symm hc hds hts (ZeH hd ht hs (x:=(d.top,d.bottom-1,1,t.top,d.bottom-1,t.got,t.end_)) ?_ ⟨hring,hd.t0,hd.t1,?_,?_⟩) hen rfl hs.symm ?_
   ·unfold Zbh
    rw[a0,Zdo (by have:=hd.t0;have:=hd.b0;omega) (by have:=hd.b1;omega)]
    rfl
   ·show d.top-1≤d.bottom-1;omega
   ·show d.bottom-1≤64;omega
   ·unfold Zab
    rw[if_pos hVF,if_pos (by rw[qa];exact a0),qB,qx,qz]
    exact Zc.eq_of (Zbt _ _ qT.symm).symm rfl rfl rfl rfl rfl rfl rfl rfl
  have hbc:(vw on ds ts fs).be c=d.bottom+1:=by
   unfold Zc.be
   rw[if_pos ⟨hVF,by rw[qa];omega⟩,qB]
  have hyb:=po1 hF (by omega)
  rw[qB] at hyb
  by_cases a1:t.at_=1
  ·by_cases c1:d.top<t.bottom
   ·refine Zou h G hm h8 hc hidle hf hfs hv.symm hc hds hts (ZeH hd ht hs (x:=(d.top,d.bottom,1,d.top,t.bottom,ZeR d.ring t.bottom,1)) ?_ hd) rfl rfl (.inl ⟨hVF,by rw[qa];exact a1,by rw[qT,qy];exact c1⟩) ?_
    ·unfold Zbh
     rw[a1,decide_eq_true c1]
     simp only[show((1:Int)==0)=false from rfl,show((1:Int)==1)=true from rfl,cond_false,cond_true,Znz (d:=⟨d.ring,d.top,d.bottom⟩) hring,Option.bind_some,Zq0 hring]
    ·unfold Zab
     rw[if_pos hVF,if_neg (by rw[qa];exact a0),if_pos (by rw[qa];exact a1),qT,qy,if_pos c1,qR]
     exact Zc.eq_of (Zbt _ _ qT.symm).symm (Zbt _ _ qB.symm).symm rfl rfl rfl rfl rfl rfl rfl
   ·by_cases c2:d.top=t.bottom
    ·refine ZfP h G hm h8 hc hidle hf hfs hv.symm hc hds hts (ZeH hd ht hs (x:=(d.top,d.bottom,2,d.top,t.bottom,t.got,t.end_)) ?_ hd) hen rfl hs.symm ?_
     ·unfold Zbh
      rw[a1,decide_eq_false c1,show(d.top==t.bottom)=true from beq_iff_eq.2 c2]
      rfl
     ·unfold Zab
      rw[if_pos hVF,if_neg (by rw[qa];exact a0),if_pos (by rw[qa];exact a1),qT,qy,if_neg c1,if_pos c2,qz]
      exact Zc.eq_of (Zbt _ _ qT.symm).symm (Zbt _ _ qB.symm).symm rfl rfl rfl rfl rfl rfl rfl
    ·refine ZfP h G hm h8 hc hidle hf hfs hv.symm hc hds hts (ZeH hd ht hs (x:=(d.top,d.bottom,3,d.top,t.bottom,t.got,t.end_)) ?_ hd) hen rfl hs.symm ?_
     ·unfold Zbh
      rw[a1,decide_eq_false c1,show(d.top==t.bottom)=false from beq_eq_false_iff_ne.2 c2]
      rfl
     ·unfold Zab
      rw[if_pos hVF,if_neg (by rw[qa];exact a0),if_pos (by rw[qa];exact a1),qT,qy,if_neg c1,if_neg c2,qz]
      exact Zc.eq_of (Zbt _ _ qT.symm).symm (Zbt _ _ qB.symm).symm rfl rfl rfl rfl rfl rfl rfl
  by_cases a2:t.at_=2
  ·by_cases c1:d.top=t.top
   ·have hd':Znj ⟨d.ring,d.top+1,d.bottom⟩:=by
     have:=po2 hF a2
     exact⟨hring,by show 0≤d.top+1;omega,by show d.top+1≤64;omega,by show d.top+1-1≤d.bottom;omega,hd.b1⟩
    refine ZfP h G hm h8 hc hidle hf hfs hv.symm hc hds hts (ZeH hd ht hs (x:=(d.top+1,d.bottom,4,t.top,t.bottom,ZeR d.ring t.bottom,t.end_)) ?_ hd') hen rfl hs.symm ?_
    ·unfold Zbh Zdn
     have hw:w64 (d.top+1)=d.top+1:=Zdo (by have:=hd.t0;omega) (by have:=hd.t1;omega)
     simp only[a2,show((2:Int)==0)=false from rfl,show((2:Int)==1)=false from rfl,show((2:Int)==2)=true from rfl,cond_false,cond_true,show(d.top != t.top)=false by rw[c1];simp,Option.bind_some,hw,Znz (d:=⟨d.ring,d.top+1,d.bottom⟩) hring,Zq0 hring]
    ·unfold Zab
     rw[if_pos hVF,if_neg (by rw[qa];exact a0),if_neg (by rw[qa];exact a1),if_pos (by rw[qa];exact a2),qT,qx,if_pos c1,qy,qR]
     exact Zc.eq_of rfl (Zbt _ _ qB.symm).symm rfl rfl rfl rfl rfl rfl rfl
   ·refine ZfP h G hm h8 hc hidle hf hfs hv.symm hc hds hts (ZeH hd ht hs (x:=(d.top,d.bottom,3,t.top,t.bottom,t.got,t.end_)) ?_ hd) hen rfl hs.symm ?_
    ·unfold Zbh Zdn
     simp only[a2,show((2:Int)==0)=false from rfl,show((2:Int)==1)=false from rfl,show((2:Int)==2)=true from rfl,cond_false,cond_true,show(d.top != t.top)=true by simpa using c1,Option.bind_some]
    ·unfold Zab
     rw[if_pos hVF,if_neg (by rw[qa];exact a0),if_neg (by rw[qa];exact a1),if_pos (by rw[qa];exact a2),qT,qx,if_neg c1,qy,qz]
     exact Zc.eq_of (Zbt _ _ qT.symm).symm (Zbt _ _ qB.symm).symm rfl rfl rfl rfl rfl rfl rfl
  have hw:w64 (t.bottom+1)=t.bottom+1:=Zdo (by omega) (by omega)
  by_cases a4:t.at_=4
  ·have hd':Znj ⟨d.ring,d.top,t.bottom+1⟩:=by
    have:=po3 hF (.inr a4)
    exact⟨hring,hd.t0,hd.t1,by show d.top-1≤t.bottom+1;omega,by show t.bottom+1≤64;omega⟩
   refine Zou h G hm h8 hc hidle hf hfs hv.symm hc hds hts (ZeH hd ht hs (x:=(d.top,t.bottom+1,4,t.top,t.bottom,t.got,1)) ?_ hd') rfl rfl (.inr (.inl ⟨hVF,by rw[qa];exact a4⟩)) ?_
   ·unfold Zbh
    rw[a4,hw]
    rfl
   ·unfold Zab
    rw[if_pos hVF,if_neg (by rw[qa];exact a0),if_neg (by rw[qa];exact a1),if_neg (by rw[qa];exact a2),if_pos (by rw[qa];exact a4),qy,qz]
    exact Zc.eq_of (Zbt _ _ qT.symm).symm rfl rfl rfl rfl rfl rfl rfl rfl
  ·have a3:t.at_=3:=by omega
   have hd':Znj ⟨d.ring,d.top,t.bottom+1⟩:=by
    have:=po3 hF (.inl a3)
    exact⟨hring,hd.t0,hd.t1,by show d.top-1≤t.bottom+1;omega,by show t.bottom+1≤64;omega⟩
   refine Zmr h G hm h8 hc hidle hf hfs hv.symm hc hds hts (ZeH hd ht hs (x:=(d.top,t.bottom+1,3,t.top,t.bottom,t.got,2)) ?_ hd') (.inl rfl) rfl ?_
   ·unfold Zbh
    rw[a3,hw]
    rfl
   ·unfold Zab
    rw[if_pos hVF,if_neg (by rw[qa];exact a0),if_neg (by rw[qa];exact a1),if_neg (by rw[qa];exact a2),if_neg (by rw[qa];exact a4),qy,hF]
    exact Zc.eq_of (Zbt _ _ qT.symm).symm rfl rfl rfl rfl rfl rfl rfl rfl
 ·
  have hs:t.steal=true:=by rw[hst];simp;omega
  have hVF:(vw on ds ts fs).F c≠0:=by rw[qF];exact hF
  have hvv:vic m c ((vw on ds ts fs).F c)=vic m c f.toNat:=by rw[qF]
  by_cases a0:t.at_=0
  ·refine ZfP h G hm h8 hc hidle hf hfs rfl hvm hds hts (ZeM hd ht hs (x:=(d.top,1,d.top,t.bottom,t.got,t.end_)) ?_ hd) hen rfl hs.symm ?_
   ·unfold Zbb
    rw[a0]
    rfl
   ·unfold Zab
    rw[if_neg hVF,if_pos (by rw[qa];exact a0),hvv,qT,qy,qz]
    exact Zc.eq_of (Zbt _ _ qT.symm).symm (Zbt _ _ qB.symm).symm rfl rfl rfl rfl rfl rfl rfl
  by_cases a1:t.at_=1
  ·by_cases c1:t.top<d.bottom
   ·refine ZfP h G hm h8 hc hidle hf hfs rfl hvm hds hts (ZeM hd ht hs (x:=(d.top,2,t.top,d.bottom,t.got,t.end_)) ?_ hd) hen rfl hs.symm ?_
    ·unfold Zbb
     rw[a1,decide_eq_false (show ¬d.bottom≤t.top by omega)]
     rfl
    ·unfold Zab
     rw[if_neg hVF,if_neg (by rw[qa];exact a0),if_pos (by rw[qa];exact a1),hvv,qB,qx,if_pos c1,qz]
     exact Zc.eq_of (Zbt _ _ qT.symm).symm (Zbt _ _ qB.symm).symm rfl rfl rfl rfl rfl rfl rfl
   ·refine Zmr h G hm h8 hc hidle hf hfs rfl hvm hds hts (ZeM hd ht hs (x:=(d.top,1,t.top,d.bottom,t.got,2)) ?_ hd) (.inl rfl) rfl ?_
    ·unfold Zbb
     rw[a1,decide_eq_true (show d.bottom≤t.top by omega)]
     rfl
    ·unfold Zab
     rw[if_neg hVF,if_neg (by rw[qa];exact a0),if_pos (by rw[qa];exact a1),hvv,qB,qx,if_neg c1,qF]
     exact Zc.eq_of (Zbt _ _ qT.symm).symm (Zbt _ _ qB.symm).symm rfl rfl rfl rfl rfl rfl rfl
  by_cases a2:t.at_=2
  ·refine ZfP h G hm h8 hc hidle hf hfs rfl hvm hds hts (ZeM hd ht hs (x:=(d.top,3,t.top,t.bottom,ZeR d.ring t.top,t.end_)) ?_ hd) hen rfl hs.symm ?_
   ·unfold Zbb
    rw[a2]
    simp only[show((2:Int)==0)=false from rfl,show((2:Int)==1)=false from rfl,show((2:Int)==2)=true from rfl,cond_false,cond_true,Znz (d:=⟨d.ring,d.top,d.bottom⟩) hring,Option.bind_some,Zq0 hring]
   ·unfold Zab
    rw[if_neg hVF,if_neg (by rw[qa];exact a0),if_neg (by rw[qa];exact a1),if_pos (by rw[qa];exact a2),hvv,qx,qy,qR]
    exact Zc.eq_of (Zbt _ _ qT.symm).symm (Zbt _ _ qB.symm).symm rfl rfl rfl rfl rfl rfl rfl
  have a3:t.at_=3:=by have:=pa3 hF;omega
  by_cases c1:d.top=t.top
  ·have hlt:=pt2 hF (by omega) (by rw[qT];exact c1.symm)
   rw[qT] at hlt
   have hd':Znj ⟨d.ring,d.top+1,d.bottom⟩:=⟨hring,by show 0≤d.top+1;omega,by show d.top+1≤64;omega,by show d.top+1-1≤d.bottom;rcases hbe with e | e<;>omega,hd.b1⟩
   refine Zou h G hm h8 hc hidle hf hfs rfl hvm hds hts (ZeM hd ht hs (x:=(d.top+1,3,t.top,t.bottom,t.got,1)) ?_ hd') rfl rfl (.inr (.inr ⟨hVF,by rw[qa];exact a3,by rw[hvv,qT,qx];exact c1⟩)) ?_
   ·unfold Zbb Zdn
    have hw:w64 (d.top+1)=d.top+1:=Zdo (by have:=hd.t0;omega) (by have:=hd.t1;omega)
    simp only[a3,show((3:Int)==0)=false from rfl,show((3:Int)==1)=false from rfl,show((3:Int)==2)=false from rfl,cond_false,show(d.top != t.top)=false by rw[c1];simp,Option.bind_some,hw]
   ·unfold Zab
    rw[if_neg hVF,if_neg (by rw[qa];exact a0),if_neg (by rw[qa];exact a1),if_neg (by rw[qa];exact a2),hvv,qT,qx,if_pos c1,qz]
    exact Zc.eq_of rfl (Zbt _ _ qB.symm).symm rfl rfl rfl rfl rfl rfl rfl
  ·refine Zmr h G hm h8 hc hidle hf hfs rfl hvm hds hts (ZeM hd ht hs (x:=(d.top,3,t.top,t.bottom,0,3)) ?_ hd) (.inr rfl) rfl ?_
   ·unfold Zbb Zdn
    simp only[a3,show((3:Int)==0)=false from rfl,show((3:Int)==1)=false from rfl,show((3:Int)==2)=false from rfl,cond_false,show(d.top != t.top)=true by simpa using c1,Option.bind_some,cond_true]
   ·unfold Zab
    rw[if_neg hVF,if_neg (by rw[qa];exact a0),if_neg (by rw[qa];exact a1),if_neg (by rw[qa];exact a2),hvv,qT,qx,if_neg c1,qF]
    exact Zc.eq_of (Zbt _ _ qT.symm).symm (Zbt _ _ qB.symm).symm rfl rfl rfl rfl rfl rfl rfl
end
end Go.Proofs.YtgcfmiajkbbmeaaGreat
namespace Go.Proofs.YtgcfmiajkbbmeaaGreat
open Go Go.Proofs.YtgcfmiajkbbmeaaGreatE
open Go.IntKind (u64 i64 u32 i32 u8)
theorem Zr8 (l:List Zb) (f:Zb→Option Bool) (p:Zb→Bool) (hf:∀x∈l,f x=some (p x)) (hl:l.length<9223372036854775808):Z5 l f=some (l.any p):=by
 unfold Z5 ZaN
 refine Zh3 l p _ (fun i x hi hx=>?_) ?_
 ·simp only[Z7,Zds hi,ZE hx,Option.bind_some,hf x (List.mem_of_getElem? hx),ZR hi hl,cond_true]
  cases p x<;>rfl
 ·simp only[Z7,Zdz];rfl
def Zsm (m:Nat) (V:Zc):Bool:=(List.range m).any fun j=>decide (V.T j<V.B j)
def wlV (m:Nat) (V:Zc):List Int:=((List.range m).filter fun i=>decide (V.O i = -1)&&(Zsm m V || !decide (V.a i=0))).map fun i:Nat=>(i:Int)
theorem ZiI {m:Nat}{V:Zc}{z:Int}:z∈wlV m V↔0≤z∧Zcy m V z.toNat:=by
 unfold wlV
 rw[ZgP]
 unfold Zcy Zsm
 simp only[Bool.and_eq_true,Bool.or_eq_true,Bool.not_eq_true',decide_eq_true_eq,decide_eq_false_iff_not,List.any_eq_true,List.mem_range]
theorem ZvZ {m:Nat}{ds:List Zb} (hl:ds.length=m) (on:List Int) (ts:List Zi) (fs:List Int):(ds.any fun d=>decide (d.top<d.bottom))=Zsm m (vw on ds ts fs):=by
 rw[Bool.eq_iff_iff]
 unfold Zsm
 rw[List.any_eq_true,List.any_eq_true]
 constructor
 ·rintro ⟨d,hd,h⟩
  obtain⟨i,hi⟩:=List.getElem?_of_mem hd
  refine⟨i,List.mem_range.2 (by rw[← hl];exact(List.getElem?_eq_some_iff.1 hi).1),?_⟩
  rw[show(vw on ds ts fs).T i=d.top from ZV hi,show(vw on ds ts fs).B i=d.bottom from ZV hi]
  exact h
 ·rintro ⟨i,hi,h⟩
  rw[List.mem_range] at hi
  have hd:ds[i]? = some ds[i]:=List.getElem?_eq_getElem (by omega)
  rw[show(vw on ds ts fs).T i=ds[i].top from ZV hd,show(vw on ds ts fs).B i=ds[i].bottom from ZV hd] at h
  exact⟨_,List.getElem_mem _,h⟩
theorem Zwn (d:Zb):Zai d=some (decide (d.top<d.bottom)):=by
 unfold Zai
 cases decide (d.top<d.bottom)<;>rfl
theorem Zuw {m:Nat}{on fs:List Int}{ds:List Zb}{ts:List Zi} (ho:on.length=m) (hd:ds.length=m) (ht:ts.length=m) (h8:m≤8):ZbQ on ds ts=some (wlV m (vw on ds ts fs)):=by
 unfold ZbQ
 rw[Zr8 ds _ (fun d=>decide (d.top<d.bottom)) (fun d _=>Zwn d) (by omega),Option.bind_some,ZvZ hd on ts fs]
 unfold wlV
 cases hs:Zsm m (vw on ds ts fs) with
 | true=>
  rw[cond_true,ZqZ (n:=on.length) (ZaY on) (fun i=>decide ((vw on ds ts fs).O i = -1)&&(true || !decide ((vw on ds ts fs).a i=0))) (fun i out hi hout=>?_) (fun out=>by simp only[ZaY,Zdz];rfl),Option.bind_some,ho]
  have hx:=List.getElem?_eq_getElem hi
  simp only[ZaY,Zds hi,cond_true,ZE hx,Option.bind_some,ZR hi (show on.length<9223372036854775808 by omega),ZeU (show out.length+1≤1073741824 by omega),Bool.true_or,Bool.and_true]
  rw[show(vw on ds ts fs).O i=on[i] from ZV hx]
  by_cases h:on[i] = -1
  ·rw[show(on[i] == -1)=true from beq_iff_eq.2 h,decide_eq_true h];rfl
  ·rw[show(on[i] == -1)=false from beq_eq_false_iff_ne.2 h,decide_eq_false h];rfl
 | false=>
  rw[cond_false,ZqZ (n:=on.length) (ZaK on ts) (fun i=>decide ((vw on ds ts fs).O i = -1)&&(false || !decide ((vw on ds ts fs).a i=0))) (fun i out hi hout=>?_) (fun out=>by simp only[ZaK,Zdz];rfl),Option.bind_some,ho]
  have hx:=List.getElem?_eq_getElem hi
  have ht:=List.getElem?_eq_getElem (show i<ts.length by omega)
  simp only[ZaK,Zds hi,cond_true,ZE hx,ZE ht,Option.bind_some,ZR hi (show on.length<9223372036854775808 by omega),ZeU (show out.length+1≤1073741824 by omega),Bool.false_or]
  rw[show(vw on ds ts fs).O i=on[i] from ZV hx,show(vw on ds ts fs).a i=ts[i].at_ from ZV ht]
  by_cases h:on[i] = -1
  ·rw[show(on[i] == -1)=true from beq_iff_eq.2 h,decide_eq_true h]
   by_cases h2:ts[i].at_=0
   ·rw[show(ts[i].at_ != 0)=false by rw[h2];rfl,decide_eq_true h2];rfl
   ·rw[show(ts[i].at_ != 0)=true by simpa using h2,decide_eq_false h2];rfl
  ·rw[show(on[i] == -1)=false from beq_eq_false_iff_ne.2 h,decide_eq_false h];rfl
theorem ZyS (m:Nat) (V:Zc):(wlV m V).length≤m:=by
 unfold wlV
 rw[List.length_map]
 exact Nat.le_trans (List.length_filter_le _ _) (by rw[List.length_range];exact Nat.le_refl _)
theorem Ztd (m:Nat) (V:Zc):(wlV m V).Pairwise (· < ·):=by
 unfold wlV
 refine List.Pairwise.map _ (fun a b (h:a<b)=>by omega) (List.Pairwise.filter _ List.pairwise_lt_range)
def Zoh (last:Int):Nat→List Int→Option Nat
 | _,[]=>none
 | i,x :: l=>if last<x then some i else Zoh last (i+1) l
theorem Zmq (last:Int):∀(l:List Int) (i:Nat),(match Zoh last i l with | some k=>i≤k∧(∃x,l[k-i]? = some x∧last<x∧∀j,j<k-i→∀y,l[j]? = some y→y≤last) | none=>∀y∈l,y≤last)
 | [],i=>fun y hy=>by cases hy
 | x :: l,i=>by
  unfold Zoh
  by_cases h:last<x
  ·rw[if_pos h]
   exact⟨Nat.le_refl _,x,by simp,h,fun j hj=>by omega⟩
  ·rw[if_neg h]
   have ih:=Zmq last l (i+1)
   cases hf:Zoh last (i+1) l with
   | none=>
    rw[hf] at ih
    intro y hy
    rcases List.mem_cons.1 hy with rfl | hy
    ·omega
    ·exact ih y hy
   | some k=>
    rw[hf] at ih
    obtain⟨h1,z,h2,h3,h4⟩:=ih
    refine⟨by omega,z,?_,h3,fun j hj y hy=>?_⟩
    ·rw[show k-i=(k-(i+1))+1 by omega];exact h2
    ·cases j with
     | zero=>cases hy;omega
     | succ j=>exact h4 j (by omega) y hy
def nxI (l:List Int) (last:Int):Nat:=match Zoh last 0 l with | some k=>k | none=>0
theorem ZvF (l:List Int) (last:Int) (hl:l.length<9223372036854775808):ZC l (fun z0=>Zas z0 last)=some (match Zoh last 0 l with | some k=>(k:Int) | none=>-1):=by
 unfold ZC
 have key:=ZjO l (Zv l (fun z0=>Zas z0 last)) (fun _ x=>decide (last<x)) (fun i _=>.inl (i:Int)) (.inr ()) (fun i x hi hx=>by
  simp only[Zv,Zds hi,cond_true,ZE hx,Option.bind_some,Zas,ZR hi hl]
  cases decide (last<x)<;>rfl) (by simp only[Zv,Zdz];rfl)
 rw[key,Option.bind_some]
 have:∀(l:List Int) (i:Nat),ZiP (fun _ x=>decide (last<x)) (fun i (_:Int)=>(.inl (i:Int):Int⊕Unit)) (.inr ()) i l=(match Zoh last i l with | some k=>.inl (k:Int) | none=>.inr ()):=by
  intro l
  induction l with
  | nil=>intro i;rfl
  | cons x l ih=>
   intro i
   unfold ZiP Zoh
   by_cases h:last<x
   ·rw[if_pos h,decide_eq_true h];rfl
   ·rw[if_neg h,decide_eq_false h,cond_false];exact ih (i+1)
 rw[this l 0]
 cases Zoh last 0 l<;>rfl
def chI (l picks:List Int) (last:Int) (s:Nat):Int:=
 match picks[s]? with
 | some x=>gt id 0 l (Int.tmod (bif decide (x<0) then 0 else x) (l.length:Int)).toNat
 | none=>gt id 0 l (nxI l last)
theorem ZwP {l picks:List Int}{last:Int}{s:Nat} (hne:l≠[]) (hl:l.length<9223372036854775808) (hp:picks.length<9223372036854775808):ZcB last l picks (s:Int)=some (chI l picks last s)∧chI l picks last s∈l:=by
 have h0:0<l.length:=List.length_pos_iff.2 hne
 unfold ZcB chI
 by_cases hs:s<picks.length
 ·have hx:=List.getElem?_eq_getElem hs
  rw[Zds hs,cond_true,ZE hx,Option.bind_some,hx,show((l.length:Int)==0)=false from beq_eq_false_iff_ne.2 (by omega),cond_false]
  have hz:(0:Int)≤(bif decide (picks[s]<0) then 0 else picks[s]):=by
   by_cases h:picks[s]<0
   ·rw[decide_eq_true h];exact Int.le_refl _
   ·rw[decide_eq_false h];show 0≤picks[s];omega
  have h1:=Int.tmod_nonneg (l.length:Int) hz
  have h2:=Int.tmod_lt_of_pos (bif decide (picks[s]<0) then 0 else picks[s]) (show(0:Int)<(l.length:Int) by omega)
  have h3:(Int.tmod (bif decide (picks[s]<0) then 0 else picks[s]) (l.length:Int)).toNat<l.length:=by omega
  have hy:=List.getElem?_eq_getElem h3
  rw[Zrn h1 hy,Option.bind_some]
  dsimp only
  rw[ZV hy]
  exact⟨rfl,List.getElem_mem _⟩
 ·have hn:picks[s]? = none:=List.getElem?_eq_none (by omega)
  rw[decide_eq_false (show ¬(s:Int)<(picks.length:Int) by omega),cond_false,hn,ZvF l last hl,Option.bind_some]
  dsimp only
  have sp:=Zmq last l 0
  unfold nxI
  cases hf:Zoh last 0 l with
  | none=>
   dsimp only
   have hy:=List.getElem?_eq_getElem h0
   rw[ZV hy]
   have:ZI l (bif decide ((-1:Int)<0) then 0 else -1)=some l[0]:=ZE (i:=0) hy
   rw[this]
   exact⟨rfl,List.getElem_mem _⟩
  | some k=>
   rw[hf] at sp
   obtain⟨_,x,h1,_⟩:=sp
   rw[Nat.sub_zero] at h1
   dsimp only
   rw[ZV h1,decide_eq_false (show ¬(k:Int)<0 by omega),cond_false,ZE h1]
   exact⟨rfl,List.mem_of_getElem? h1⟩
def chV (m:Nat) (picks:List Int) (V:Zc) (last:Int) (s:Nat):Nat:=(chI (wlV m V) picks last s).toNat
theorem Zo7 {m:Nat}{picks:List Int}{V:Zc}{last:Int}{s:Nat} (hm:m≤8) (hp:picks.length<9223372036854775808) (h:∃c,Zcy m V c):Zcy m V (chV m picks V last s)∧(picks.length≤s→Next m V last (chV m picks V last s))∧ZcB last (wlV m V) picks (s:Int)=some (chV m picks V last s:Int):=by
 obtain⟨c,hc⟩:=h
 have hin:(c:Int)∈wlV m V:=ZiI.2 ⟨by omega,by simpa using hc⟩
 have hl:=ZyS m V
 obtain⟨h1,h2⟩:=ZwP (l:=wlV m V) (picks:=picks) (last:=last) (s:=s) (fun e=>by rw[e] at hin;cases hin) (by omega) hp
 obtain⟨h3,h4⟩:=ZiI.1 h2
 have e:((chV m picks V last s:Nat):Int)=chI (wlV m V) picks last s:=Int.toNat_of_nonneg h3
 refine⟨h4,fun hs=>⟨h4,?_⟩,by rw[e];exact h1⟩
 have hch:chI (wlV m V) picks last s=gt id 0 (wlV m V) (nxI (wlV m V) last):=by
  unfold chI
  rw[List.getElem?_eq_none hs]
 have sp:=Zmq last (wlV m V) 0
 have so:=Ztd m V
 unfold nxI at hch
 cases hf:Zoh last 0 (wlV m V) with
 | none=>
  rw[hf] at sp hch
  right
  have hx:=List.getElem?_eq_getElem (show 0<(wlV m V).length from List.length_pos_iff.2 (fun e=>by rw[e] at hin;cases hin))
  rw[ZV hx] at hch
  refine⟨fun p hp=>?_,fun p hp=>?_⟩
  ·exact sp (p:Int) (ZiI.2 ⟨by omega,by simpa using hp⟩)
  ·have hpm:(p:Int)∈wlV m V:=ZiI.2 ⟨by omega,by simpa using hp⟩
   obtain⟨j,hj⟩:=List.getElem?_of_mem hpm
   have hjl:=(List.getElem?_eq_some_iff.1 hj).1
   have hje:=(List.getElem?_eq_some_iff.1 hj).2
   have:(wlV m V)[0]≤(p:Int):=by
    rcases Nat.eq_zero_or_pos j with rfl | hj0
    ·rw[hje];exact Int.le_refl _
    ·have:=List.pairwise_iff_getElem.1 so 0 j (by omega) hjl hj0
     omega
   have e2:chI (wlV m V) picks last s=(wlV m V)[0]:=hch
   omega
 | some k=>
  rw[hf] at sp hch
  obtain⟨_,x,k1,k2,k3⟩:=sp
  rw[Nat.sub_zero] at k1 k3
  rw[ZV k1] at hch
  have hkl:=(List.getElem?_eq_some_iff.1 k1).1
  have hke:=(List.getElem?_eq_some_iff.1 k1).2
  have e2:chI (wlV m V) picks last s=x:=hch
  left
  refine⟨by omega,fun p hp hlp=>?_⟩
  have hpm:(p:Int)∈wlV m V:=ZiI.2 ⟨by omega,by simpa using hp⟩
  obtain⟨j,hj⟩:=List.getElem?_of_mem hpm
  have hjl:=(List.getElem?_eq_some_iff.1 hj).1
  have hje:=(List.getElem?_eq_some_iff.1 hj).2
  have hkj:k≤j:=by
   rcases Nat.lt_or_ge j k with h | h
   ·have:=k3 j h _ hj;omega
   ·exact h
  rcases Nat.eq_or_lt_of_le hkj with rfl | hlt
  ·rw[k1] at hj;cases hj;omega
  ·have:=List.pairwise_iff_getElem.1 so k j hkl hjl hlt
   omega
theorem ZBG {m c:Nat}{b:Int→Prop}{V:Zc} (I:Inv m b V) (hc:c<m) (j:Nat):(Zab m V c).be j≤V.be j:=by
 have p:=I.pos c hc
 have s:=Zty p.gen
 generalize Zab m V c=W at s
 by_cases e:j=c
 ·subst e
  have o1:=p.o1
  cases s with
  | own0 hF ha=>simp only[Zc.be,Zc.tk,Zc.setB,ZY,hF,ha];simp
  | take hF ha h=>have:=o1 hF (by omega);simp only[Zc.be,Zc.got,ZY,hF,ha];simp;omega
  | last hF ha h=>simp only[Zc.be,Zc.tk,ZY,hF,ha];simp
  | none1 hF ha h=>simp only[Zc.be,Zc.tk,ZY,hF,ha];simp
  | win hF ha h=>simp only[Zc.be,Zc.tk,Zc.setT,ZY,hF,ha];simp
  | lose hF ha h=>simp only[Zc.be,Zc.tk,ZY,hF,ha];simp
  | work hF ha=>have:=o1 hF (by omega);simp only[Zc.be,Zc.got,Zc.setB,ZY,hF,ha];simp;omega
  | back hF ha=>have:=o1 hF (by omega);simp only[Zc.be,Zc.fresh,Zc.setB,ZY,hF,ha];simp;omega
  | top hF ha=>simp only[Zc.be,Zc.tk,hF];simp
  | bottom hF ha h=>simp only[Zc.be,Zc.tk,hF];simp
  | none2 hF ha h=>simp only[Zc.be,Zc.fresh,ZY,hF];simp
  | read hF ha=>simp only[Zc.be,Zc.tk,hF];simp
  | steal hF ha h=>simp only[Zc.be,Zc.got,Zc.setT,ZY,hF];simp
  | lost hF ha h=>simp only[Zc.be,Zc.fresh,ZY,hF];simp
 ·obtain⟨_,h2,h3,_,_,h6⟩:=ZbK s e
  unfold Zc.be
  rw[h2,h3,h6]
  exact Int.le_refl _
structure Znk (m:Nat) (on on':List Int) (ds ds':List Zb) (ts ts':List Zi) (fs fs':List Int):Prop where
 row:∀(c:Nat) (n:Int),on[c]? = some n→n ≠ -1→on'[c]? = some n
 be:∀c,(vw on' ds' ts' fs').be c≤(vw on ds ts fs).be c
theorem Znk.refl (m:Nat) (on:List Int) (ds:List Zb) (ts:List Zi) (fs:List Int):Znk m on on ds ds ts ts fs fs:=⟨fun _ _ h _=>h,fun _=>Int.le_refl _⟩
theorem Znk.trans {m:Nat}{on on' on2 fs fs' fs2:List Int}{ds ds' ds2:List Zb}{ts ts' ts2:List Zi} (a:Znk m on on' ds ds' ts ts' fs fs') (b:Znk m on' on2 ds' ds2 ts' ts2 fs' fs2):Znk m on on2 ds ds2 ts ts2 fs fs2:=
 ⟨fun c n h hn=>b.row c n (a.row c n h hn) hn,fun c=>Int.le_trans (b.be c) (a.be c)⟩
section
variable {g:Zk} {m:Nat} {left:List Int}
theorem ZuJ {on fs on' fs':List Int}{ds ds':List Zb}{ts ts':List Zi}{c:Nat} (G:GangIn g m left on ds ts fs) (hc:c<m) (hidle:(vw on ds ts fs).O c = -1) (G':GangIn g m left on' ds' ts' fs') (hV:vw on' ds' ts' fs'=Zab m (vw on ds ts fs) c):Znk m on on' ds ds' ts ts' fs fs':=by
 refine⟨fun i n hi hn=>?_,fun j=>by rw[hV];exact ZBG G.inv hc j⟩
 have hil:=(List.getElem?_eq_some_iff.1 hi).1
 have hic:i≠c:=fun e=>by
  subst e
  rw[Zkw on ds ts fs hi] at hidle
  exact hn hidle
 have h1:=(ZbK (Zty (G.inv.pos c hc).gen) hic).1
 rw[← hV,Zkw on ds ts fs hi] at h1
 have hl':i<on'.length:=by rw[G'.ol,← G.ol];exact hil
 have:=List.getElem?_eq_getElem hl'
 rw[Zkw on' ds' ts' fs' this] at h1
 rw[this,h1]
theorem ZAE (h:ZT g=0) {picks:List Int} (hp:picks.length≤100000) {on fs:List Int}{ds:List Zb}{ts:List Zi} (G:GangIn g m left on ds ts fs) :
  ∃(n:Nat) (l:Int) (on':List Int) (ds':List Zb) (ts':List Zi) (fs':List Int),ZdJ picks g.work g.edges on left ds ts fs=some ((n:Int),0,l,on',ds',ts',fs')∧GangIn g m left on' ds' ts' fs'∧(∀c,¬Zcy m (vw on' ds' ts' fs') c)∧Znk m on on' ds ds' ts ts' fs fs'∧n≤picks.length+8*m*m*(m+1):=by
 have h8:m≤8:=by rw[← G.ol];exact G.crew.o8
 have h1m:1≤m:=by rw[← G.ol];exact G.crew.o1
 have key:=Zx2 (m:=m) (L:=picks.length) (base:=base g.edges left) Ziv (chV m picks) (fun V last s I hx=>⟨(Zo7 h8 (by omega) hx).1,(Zo7 h8 (by omega) hx).2.1⟩)
  (fun n s V l=>s+n≤200000→∀(on fs:List Int) (ds:List Zb) (ts:List Zi),GangIn g m left on ds ts fs→vw on ds ts fs=V →
   ∃(n':Nat) (l':Int) (on':List Int) (ds':List Zb) (ts':List Zi) (fs':List Int),lp (Zbg picks g.work g.edges left) ((s:Int),wlV m V,l,on,ds,ts,fs)=some (.inr ((n':Int),l',on',ds',ts',fs'))∧GangIn g m left on' ds' ts' fs'∧(∀c,¬Zcy m (vw on' ds' ts' fs') c)∧Znk m on on' ds ds' ts ts' fs fs'∧n'≤s+n)
  (fun n k s V l hnk hq hk on fs ds ts G hV=>by
   obtain⟨n',l',on',ds',ts',fs',q1,q2,q3,q4,q5⟩:=hq (by omega) on fs ds ts G hV
   exact⟨n',l',on',ds',ts',fs',q1,q2,q3,q4,by omega⟩)
  (fun n s V l I hw hk on fs ds ts G hV=>by
   subst hV
   have hnil:wlV m (vw on ds ts fs)=[]:=by
    rw[List.eq_nil_iff_forall_not_mem]
    intro z hz
    exact hw _ (ZiI.1 hz).2
   refine⟨s,l,on,ds,ts,fs,?_,G,hw,Znk.refl _ _ _ _ _,by omega⟩
   rw[ZaI,hnil]
   rfl)
  (fun n s V l I hw hq hk on fs ds ts G hV=>by
   subst hV
   obtain⟨on1,ds1,ts1,fs1,p1,p2,p3⟩:=ZAz h G hw.1 hw.2.1
   obtain⟨n',l',on',ds',ts',fs',q1,q2,q3,q4,q5⟩:=hq (by omega) on1 fs1 ds1 ts1 p2 p3
   refine⟨n',l',on',ds',ts',fs',?_,q2,q3,(ZuJ G hw.1 hw.2.1 p2 p3).trans q4,by omega⟩
   have hne:0<(wlV m (vw on ds ts fs)).length:=List.length_pos_iff.2 fun e=>by
    have:((chV m picks (vw on ds ts fs) l s:Nat):Int)∈wlV m (vw on ds ts fs):=ZiI.2 ⟨by omega,by simpa using hw⟩
    rw[e] at this;cases this
   rw[ZaI]
   have hnx:=(Zo7 (picks:=picks) (last:=l) (s:=s) h8 (by omega) ⟨_,hw⟩).2.2
   simp only[Zbg,decide_eq_true (show(0:Int)<((wlV m (vw on ds ts fs)).length:Int) by omega),cond_true,hnx,Option.bind_some,p1,show((0:Int) != 0)=false from rfl,cond_false,Zuw (fs:=fs1) p2.ol p2.dl p2.tl h8]
   rw[Zdo (by omega) (by omega),show(s:Int)+1=((s+1:Nat):Int) by omega,p3]
   exact q1)
  0 (vw on ds ts fs) (-1) G.inv ⟨by omega,by omega⟩
 have hmost:=ZuQ h1m h8
 have hsz:8*m*m*(m+1)≤8*8*8*9:=Nat.mul_le_mul (Nat.mul_le_mul (Nat.mul_le_mul_left 8 h8) h8) (by omega)
 obtain⟨n',l',on',ds',ts',fs',q1,q2,q3,q4,q5⟩:=key (by omega) on fs ds ts G rfl
 refine⟨n',l',on',ds',ts',fs',?_,q2,q3,q4,by omega⟩
 unfold ZdJ
 rw[Zuw (fs:=fs) G.ol G.dl G.tl h8,Option.bind_some]
 rw[show(lp (Zbg picks g.work g.edges left) (0,wlV m (vw on ds ts fs), -1,on,ds,ts,fs))=_ from q1]
 rfl
end
end Go.Proofs.YtgcfmiajkbbmeaaGreat
namespace Go.Proofs.YtgcfmiajkbbmeaaGreat
open Go Go.Proofs.YtgcfmiajkbbmeaaGreatE Go.Sort
open Go.IntKind (u64 i64 u32 i32 u8)
structure OKA (P:Int→Prop) (d:Array Int):Prop where
 el:∀i,i<d.size→P d[i]!
 sz:d.size≤1000
section
variable (cmp:Int→Int→Option Int) (c:Int→Int→Int) (P:Int→Prop)
def ZtG:Prop:=∀x y,P x→P y→cmp x y=some (c x y)
def ltC (x y:Int):Bool:=decide (c x y<0)
variable {cmp c P} (hc:ZtG cmp c P)
include hc
end
end Go.Proofs.YtgcfmiajkbbmeaaGreat
namespace Go.Proofs.YtgcfmiajkbbmeaaGreat
open Go Go.Proofs.YtgcfmiajkbbmeaaGreatE Go.Sort
open Go.IntKind (u64 i64 u32 i32 u8)
section
variable {cmp:Int→Int→Option Int} {c:Int→Int→Int} {P:Int→Prop} (hc:ZtG cmp c P)
include hc
end
end Go.Proofs.YtgcfmiajkbbmeaaGreat
namespace Go.Proofs.YtgcfmiajkbbmeaaGreat
open Go Go.Proofs.YtgcfmiajkbbmeaaGreatE Go.Sort
open Go.IntKind (u64 i64 u32 i32 u8)
section
variable {cmp:Int→Int→Option Int} {c:Int→Int→Int} {P:Int→Prop} (hc:ZtG cmp c P)
include hc
end
end Go.Proofs.YtgcfmiajkbbmeaaGreat
namespace Go.Proofs.YtgcfmiajkbbmeaaGreat
open Go Go.Proofs.YtgcfmiajkbbmeaaGreatE Go.Sort
open Go.IntKind (u64 i64 u32 i32 u8)
def Zs9 (a b:Int):Int:=u64.wrap (Zh a ^^^ Zh b).toNat
def xs (r:Int):Int:=Zs9 (Zs9 (Zs9 r (u64.wrap (r*2 ^ 13))) (Int.fdiv (Zs9 r (u64.wrap (r*2 ^ 13))) (2 ^ 7))) (u64.wrap (Zs9 (Zs9 r (u64.wrap (r*2 ^ 13))) (Int.fdiv (Zs9 r (u64.wrap (r*2 ^ 13))) (2 ^ 7))*2 ^ 17))
def Res (P:Int→Prop) (r:Option (List Int)) (X:Array Int) (n:Nat):Prop:=r=some X.toList∧OKA P X∧X.size=n
section
variable {cmp:Int→Int→Option Int} {c:Int→Int→Int} {P:Int→Prop} (hc:ZtG cmp c P) (hs:SWO (ltC c))
include hc hs
end
end Go.Proofs.YtgcfmiajkbbmeaaGreat
namespace Go.Proofs.YtgcfmiajkbbmeaaGreat
open Go Go.Proofs.YtgcfmiajkbbmeaaGreatE
open Go.IntKind (u64 i64 u32 i32 u8)
theorem ZpT (l:List Int) (hl:l.length≤1000):∃r:List Int,ZaH l=some r∧r.Perm l∧r.Pairwise (fun x y=>x≤y):=by
 refine⟨sortI l,?_,ZkM l,ZiE l⟩
 unfold ZaH
 rw[Nat.ble_eq_true_of_le (Nat.le_trans hl (by decide))]
 rfl
structure Zy4 (d:Zv5):Prop where
 p:d.parts.length≤20
 e:d.edges.length≤60
 f:d.futures.length≤20
 b:d.barriers.length≤8
 i:∀b∈d.barriers,b.ins.length≤20∧b.outs.length≤20
theorem Zy4.short {d:Zv5} (h:Zy4 d):Zz0 d:=
 ⟨by have:=h.p;omega,by have:=h.e;omega,by have:=h.f;omega,by have:=h.b;omega,fun b hb=>⟨by have:=(h.i b hb).1;omega,by have:=(h.i b hb).2;omega⟩⟩
open Go Go.Proofs.YtgcfmiajkbbmeaaGreatE Go.Sort
def sel {γ:Type} (p:γ→Bool) (g:Nat→γ→Int):Nat→List γ→List Int
 | _,[]=>[]
 | i,x :: l=>bif p x then g i x :: sel p g (i+1) l else sel p g (i+1) l
theorem Zuf {γ:Type} (p:γ→Bool) (g:Nat→γ→Int):∀(l:List γ) (i:Nat),(sel p g i l).length=l.countP p
 | [],_=>rfl
 | x :: l,i=>by
  unfold sel
  have ih:=Zuf p g l (i+1)
  cases h:p x with
  | true=>simp[ih,h]
  | false=>simp[ih,h]
theorem ZtX {γ:Type} (p:γ→Bool) (g:Nat→γ→Int) (z:Int):∀(l:List γ) (i:Nat),z∈sel p g i l↔∃j x,l[j]? = some x∧p x=true∧z=g (i+j) x
 | [],i=>by simp[sel]
 | x :: l,i=>by
  have ih:=ZtX p g z l (i+1)
  have key:(∃j y,(x :: l)[j]? = some y∧p y=true∧z=g (i+j) y)↔(p x=true∧z=g i x)∨∃j y,l[j]? = some y∧p y=true∧z=g (i+1+j) y:=by
   constructor
   ·rintro ⟨j,y,h1,h2,h3⟩
    cases j with
    | zero=>left;simp at h1;subst h1;exact⟨h2,h3⟩
    | succ j=>right;exact⟨j,y,by simpa using h1,h2,by rw[h3];congr 1;omega⟩
   ·rintro (⟨h2,h3⟩ | ⟨j,y,h1,h2,h3⟩)
    ·exact⟨0,x,rfl,h2,h3⟩
    ·exact⟨j+1,y,by simpa using h1,h2,by rw[h3];congr 1;omega⟩
  rw[key]
  unfold sel
  cases h:p x with
  | true=>simp[ih]
  | false=>simp[ih]
theorem ZAi {γ:Type} (l:List γ) (hl:l.length≤1000) (p:γ→Bool) (g:Nat→γ→Int) (step:Int×List Int→Option ((Int×List Int)⊕List Int))
  (h1:∀i x s,i<l.length→l[i]? = some x→step ((i:Int),s)=(bif p x then (bif Nat.ble (s.length+1) lim then some (.inl (((i+1:Nat):Int),s++[g i x])) else none) else some (.inl (((i+1:Nat):Int),s))))
  (h2:∀s,step ((l.length:Int),s)=some (.inr s)) (s:List Int) (hs:s.length≤1000000):lp step (0,s)=some (s++sel p g 0 l):=by
 have key:=ZtL l step (fun i s=>((i:Int),s)) (fun i x s=>bif p x then (bif Nat.ble (s.length+1) lim then some (.inl (s++[g i x])) else none) else some (.inl s)) (fun s=>some s) (fun i x s hi hx=>by
   rw[h1 i x s hi hx]
   cases p x<;>cases Nat.ble (s.length+1) lim<;>rfl) (fun s=>h2 s) s
 refine(key:lp step (0,s)=_).trans ?_
 have:∀(l:List γ) (i:Nat) (s:List Int),s.length+l.length≤1001000→Zpo (fun i x s=>bif p x then (bif Nat.ble (s.length+1) lim then some (Sum.inl (s++[g i x])) else (none:Option (List Int⊕List Int))) else some (.inl s)) (fun s=>some s) i l s=some (s++sel p g i l):=by
  intro l
  induction l with
  | nil=>intro i s _;simp[Zpo,sel]
  | cons x l ih=>
   intro i s hb
   rw[List.length_cons] at hb
   unfold Zpo sel
   cases p x with
   | true=>
    rw[ZeU (show s.length+1≤1073741824 by omega)]
    simp only[cond_true]
    rw[ih (i+1) (s++[g i x]) (by rw[List.length_append,List.length_singleton];omega)]
    simp
   | false=>
    simp only[cond_false]
    rw[ih (i+1) s (by omega)]
 exact this l 0 s (by omega)
theorem ZuX {γ:Type} (p:γ→Bool) (g:Nat→γ→Int) (l:List γ) (i:Nat):(sel p g i l).length≤l.length:=by rw[Zuf];exact List.countP_le_length
def Zfk (left row:List Int) (n:Int):Int:=if n = -1 then -1 else if lf (ZF left row) n=0 then -1 else n
theorem Zco (left row:List Int):ZJ left row=row.map (Zfk left row):=rfl
theorem ZpQ {row:List Int} (h:ZlK row) (k:Nat):ZlK (row.take k):=fun i j n hi hj hn=>by
 rw[List.getElem?_take] at hi hj
 split at hi
 ·split at hj
  ·exact h i j n hi hj hn
  ·cases hj
 ·cases hi
theorem Zs6 {l:List Int}{n:Int} (h:n ≠ -1):dec l n=l.set n.toNat (lf l n-1):=by unfold dec;rw[if_neg h]
theorem Zvb (row left:List Int):(row.foldl dec left).length=left.length:=Zcp row left
theorem ZDQ {row:List Int} (left:List Int) (h:ZlK row) (hr:∀n∈row,n = -1∨(isN left n∧0<lf left n)) (h64:left.length≤64) (hv:∀x∈left,x≤1000) (h8:row.length≤8) :
  lp (Zdc row) (0,row,left,([]:List Int))=some (ZJ left row,ZF left row,row.filter fun n=>decide (n ≠ -1)&&decide (lf (ZF left row) n=0)):=by
 have hr1:∀n∈row,n = -1∨isN left n:=fun n hn=>(hr n hn).imp id (·.1)
 have key:∀(k i:Nat),i+k=row.length→lp (Zdc row) ((i:Int),(ZJ left row).take i++row.drop i,(row.take i).foldl dec left,(row.take i).filter fun n=>decide (n ≠ -1)&&decide (lf (ZF left row) n=0))=some (ZJ left row,ZF left row,row.filter fun n=>decide (n ≠ -1)&&decide (lf (ZF left row) n=0)):=by
  intro k
  induction k with
  | zero=>
   intro i hi
   have hi:i=row.length:=by omega
   subst hi
   have hl:(ZJ left row).length=row.length:=by rw[Zco,List.length_map]
   rw[ZaI,List.drop_length,List.append_nil,List.take_length,List.take_of_length_le (by omega)]
   simp only[Zdc,Zdz,cond_false]
   rfl
  | succ k ih=>
   intro i hi
   have hi':i<row.length:=by omega
   have hx:=List.getElem?_eq_getElem hi'
   generalize hn:row[i]=n at hx
   have htl:(ZJ left row).length=row.length:=by rw[Zco,List.length_map]
   have htake:((ZJ left row).take i).length=i:=by rw[List.length_take,htl];omega
   have hget:((ZJ left row).take i++row.drop i)[i]? = some n:=by
    rw[List.getElem?_append_right (by omega),htake,List.getElem?_drop,Nat.sub_self,Nat.add_zero]
    exact hx
   have hdrop:row.drop i=n :: row.drop (i+1):=by rw[← hn];exact List.drop_eq_getElem_cons hi'
   have htk:row.take (i+1)=row.take i++[n]:=by rw[List.take_add_one,hx];rfl
   have hto:(ZJ left row).take (i+1)=(ZJ left row).take i++[Zfk left row n]:=by
    rw[List.take_add_one,Zco,List.getElem?_map,hx];rfl
   have hset:∀v,((ZJ left row).take i++row.drop i).set i v=(ZJ left row).take i++v :: row.drop (i+1):=fun v=>by
    rw[List.set_append_right _ _ (by omega),htake,Nat.sub_self,hdrop];rfl
   have ih':=ih (i+1) (by omega)
   rw[htk,hto,List.foldl_append,List.filter_append,List.append_assoc] at ih'
   rw[ZaI]
   simp only[Zdc,Zds hi',cond_true,ZE hget,Option.bind_some,ZR hi' (show row.length<9223372036854775808 by omega)]
   by_cases h1:n = -1
   ·subst h1
    rw[show((-1:Int) == -1)=true from rfl,cond_true]
    have e1:Zfk left row (-1) = -1:=rfl
    have e2:∀l:List Int,[(-1:Int)].foldl dec l=l:=fun l=>rfl
    have e3:([(-1:Int)].filter fun n=>decide (n ≠ -1)&&decide (lf (ZF left row) n=0))=[]:=rfl
    rw[e1,e2,e3,List.append_nil] at ih'
    rw[hdrop]
    exact ih'
   ·rw[show(n == -1)=false from beq_eq_false_iff_ne.2 h1,cond_false]
    rcases hr n (by rw[← hn];exact List.getElem_mem _) with h2 | ⟨h2,h3⟩
    ·exact absurd h2 h1
    ·have hnt:n∉row.take i:=fun hm=>by
      obtain⟨j,hj⟩:=List.getElem?_of_mem hm
      have hjl:=(List.getElem?_eq_some_iff.1 hj).1
      rw[List.length_take] at hjl
      rw[List.getElem?_take,if_pos (by omega)] at hj
      have:=h j i n hj hx h1
      omega
     have hl1:lf ((row.take i).foldl dec left) n=lf left n:=by
      have:=ZjB (row.take i) left (ZpQ h i) (fun m hm=>hr1 m (List.mem_of_mem_take hm)) n h2.1
      rw[if_neg hnt] at this
      exact this
     have hl2:lf (ZF left row) n=lf left n-1:=by
      have:=ZjB row left h hr1 n h2.1
      rwa [if_pos (by rw[← hn];exact List.getElem_mem _)] at this
     have hin:isN ((row.take i).foldl dec left) n:=⟨h2.1,by rw[Zvb];exact h2.2⟩
     have h1000:lf left n≤1000:=hv _ (List.mem_of_getElem? (Zhz h2.1 h2.2))
     have hdec:((row.take i).foldl dec left).set n.toNat (w64 (lf ((row.take i).foldl dec left) n-1))=dec ((row.take i).foldl dec left) n:=by
      rw[Zs6 h1,Zdo (by rw[hl1];omega) (by rw[hl1];omega)]
     rw[Zgf hin,Option.bind_some,hdec]
     have hin2:isN (dec ((row.take i).foldl dec left) n) n:=⟨h2.1,by rw[Znt];exact hin.2⟩
     have hl3:lf (dec ((row.take i).foldl dec left) n) n=lf (ZF left row) n:=by
      rw[hl2,← hl1,Zs6 h1,ZkQ ⟨hin.1,hin.2⟩ h2.1,if_pos rfl]
     rw[Zop (c:=⟨(ZJ left row).take i++row.drop i,dec ((row.take i).foldl dec left) n⟩) hin2,Option.bind_some]
     dsimp only
     rw[hl3]
     have e2:∀l:List Int,[n].foldl dec l=dec l n:=fun l=>rfl
     rw[e2] at ih'
     by_cases h4:lf (ZF left row) n=0
     ·have e1:Zfk left row n = -1:=by unfold Zfk;rw[if_neg h1,if_pos h4]
      have e3:([n].filter fun n=>decide (n ≠ -1)&&decide (lf (ZF left row) n=0))=[n]:=by
       rw[List.filter_cons_of_pos (by rw[decide_eq_true h1,decide_eq_true h4];rfl)];rfl
      have hf8:((row.take i).filter fun n=>decide (n ≠ -1)&&decide (lf (ZF left row) n=0)).length≤i:=Nat.le_trans (List.length_filter_le _ _) (by rw[List.length_take];omega)
      rw[e1,e3] at ih'
      rw[show(lf (ZF left row) n==0)=true from beq_iff_eq.2 h4,cond_true,ZeU (show((row.take i).filter fun n=>decide (n ≠ -1)&&decide (lf (ZF left row) n=0)).length+1≤1073741824 by omega),cond_true,Int.toNat_natCast,hset]
      exact ih'
     ·have e1:Zfk left row n=n:=by unfold Zfk;rw[if_neg h1,if_neg h4]
      have e3:([n].filter fun n=>decide (n ≠ -1)&&decide (lf (ZF left row) n=0))=[]:=by
       rw[List.filter_cons_of_neg (by rw[decide_eq_true h1,decide_eq_false h4];decide)];rfl
      rw[e1,e3,List.append_nil] at ih'
      rw[show(lf (ZF left row) n==0)=false from beq_eq_false_iff_ne.2 h4,cond_false,hdrop]
      exact ih'
 have:=key row.length 0 (by omega)
 simpa using this
theorem ZoE {g:Zk} (h:ZT g=0) {left row:List Int} (c:Zcf g left row):∃done,ZfK g ⟨row,left⟩=some (.inr (ZJ left row,ZF left row,done))∧(∀z,z∈done↔z∈row∧z ≠ -1∧lf (ZF left row) z=0):=by
 obtain⟨hG,hA⟩:=Z1 h
 have hw:=hG.wl
 have ll:=c.ll
 have o8:=c.o8
 have hk:=ZDQ left c.ok.one (fun n hn=>(c.ok.run n hn).imp id fun h=>⟨h.1,h.2.1⟩) (by omega) (fun x hx=>(c.ok.rng x hx).2) o8
 obtain⟨r,h1,h2,_⟩:=ZpT (row.filter fun n=>decide (n ≠ -1)&&decide (lf (ZF left row) n=0)) (Nat.le_trans (List.length_filter_le _ _) (by omega))
 refine⟨r,?_,fun z=>?_⟩
 ·unfold ZfK
  rw[ZfU h c,Option.bind_some,show((0:Int) != 0)=false from rfl,cond_false]
  unfold Zfr
  rw[Zdp (show row.length≤1073741824 by omega),Option.bind_some,Zdp (show left.length≤1073741824 by omega),Option.bind_some,Option.bind_some]
  unfold ZjK
  dsimp only
  rw[hk,Option.bind_some]
  dsimp only
  rw[h1]
  rfl
 ·rw[h2.mem_iff,List.mem_filter,Bool.and_eq_true,decide_eq_true_eq,decide_eq_true_eq]
structure PG (m:Nat) (b:Int→Prop) (on:List Int) (ds:List Zb) (ts:List Zi) (fs:List Int):Prop where
 dl:ds.length=m
 ring:∀d∈ds,d.ring.length=64
 inv:Inv m b (vw on ds ts fs)
 a0:∀i,i<m→(vw on ds ts fs).a i=0
theorem Inv.congr {m:Nat}{b b':Int→Prop}{V:Zc} (h:∀n,b n↔b' n) (I:Inv m b V):Inv m b' V:=
 ⟨I.pos,⟨fun c k hi=>by obtain⟨h1,h2⟩:=I.items.rdy c k hi;exact⟨(h _).1 h1,h2⟩,I.items.inj,fun n hn ho=>I.items.all n ((h n).2 hn) ho⟩⟩
theorem PG.be {m:Nat}{b:Int→Prop}{on fs:List Int}{ds:List Zb}{ts:List Zi} (P:PG m b on ds ts fs) {i:Nat} (hi:i<m):(vw on ds ts fs).be i=(vw on ds ts fs).B i∧(vw on ds ts fs).lo i=(vw on ds ts fs).T i:=by
 have:=P.a0 i hi
 constructor
 ·unfold Zc.be;rw[if_neg (by omega)]
 ·unfold Zc.lo;rw[if_neg (by omega)]
theorem Pos.still {m:Nat}{W:Zc}{i:Nat} (ha:W.a i=0) (hF:W.F i<m) (hO:W.O i ≠ -1→W.F i=0) (h0:0≤W.T i) (h1:W.T i≤W.B i) (h2:W.B i≤64) (rx : -1≤W.x i∧W.x i≤64) (ry : -1≤W.y i∧W.y i≤64):Pos m W i:=by
 have hb:W.be i=W.B i:=by unfold Zc.be;rw[if_neg (by omega)]
 refine⟨hF,fun h=>⟨ha,hO h⟩,by omega,by omega,fun _=>by omega,h0,by omega,by omega,fun _ h=>by omega,fun _ h=>by omega,fun _ h=>by omega,fun _ h=>by omega,fun _ h=>by omega,fun _ h=>by omega,fun _ h=>by omega,rx,ry⟩
theorem Zw0 {m c:Nat}{b:Int→Prop}{on fs:List Int}{ds:List Zb}{ts:List Zi}{n:Int} (P:PG m b on ds ts fs) (hc:c<m) (h8:m≤8) (hB:(vw on ds ts fs).B c<64) (hnb:¬b n) (hno:∀i,i<m→(vw on ds ts fs).O i≠n) :
  ∃ds',Zcz (c:Int) n ds=some (.inl ds')∧PG m (fun x=>b x∨x=n) on ds' ts fs∧∀i,(vw on ds' ts fs).B i=if i=c then (vw on ds ts fs).B c+1 else (vw on ds ts fs).B i:=by
 have hcd:c<ds.length:=by rw[P.dl];exact hc
 have hds:=List.getElem?_eq_getElem hcd
 generalize hd:ds[c]=d at hds
 have hring:=P.ring d (by rw[← hd];exact List.getElem_mem _)
 have p:=P.inv.pos c hc
 have qT:(vw on ds ts fs).T c=d.top:=ZV hds
 have qB:(vw on ds ts fs).B c=d.bottom:=ZV hds
 have qR:(vw on ds ts fs).R c=ZeR d.ring:=ZV hds
 have hbe:=(P.be hc).1
 have p0:=p.T0
 have pTB:=p.TB
 rw[qT] at p0 pTB
 rw[hbe,qB] at pTB
 rw[qB] at hB
 have dok:Znj d:=⟨hring,p0,by omega,by omega,by omega⟩
 have hpl:=ZvE (k:=d.bottom) (by omega) hB
 have hlt:d.bottom.toNat<d.ring.length:=by rw[hring];omega
 refine⟨ds.set c ⟨d.ring.set d.bottom.toNat n,d.top,d.bottom+1⟩,?_,?_,fun i=>?_⟩
 ·unfold Zcz
  rw[ZE hds,Option.bind_some]
  unfold Zix
  rw[Zgz dok,Option.bind_some,show((0:Int) != 0)=false from rfl,cond_false,decide_eq_false (show ¬d.bottom<d.top by omega),cond_false,Zdo (by omega) (by omega),hring,show(d.bottom-d.top==((64:Nat):Int))=false from beq_eq_false_iff_ne.2 (by omega),cond_false,ZqW hring,Option.bind_some,Znz hring,Option.bind_some,Zq0 hring,Option.bind_some,hpl,Zdo (by omega) (by omega)]
  rfl
 ·
  have eT:(vw on (ds.set c ⟨d.ring.set d.bottom.toNat n,d.top,d.bottom+1⟩) ts fs).T=(vw on ds ts fs).T:=by
   show gt _ _ _=_
   rw[Zbi hcd]
   exact Zbt _ _ qT.symm
  have eB:(vw on (ds.set c ⟨d.ring.set d.bottom.toNat n,d.top,d.bottom+1⟩) ts fs).B=upd (vw on ds ts fs).B c (d.bottom+1):=Zbi hcd
  have eR:(vw on (ds.set c ⟨d.ring.set d.bottom.toNat n,d.top,d.bottom+1⟩) ts fs).R=upd (vw on ds ts fs).R c (ZeR (d.ring.set d.bottom.toNat n)):=Zbi hcd
  have rA:∀k,0≤k→k<64→ZeR (d.ring.set d.bottom.toNat n) k=if k=d.bottom then n else ZeR d.ring k:=fun k hk0 hk1=>by
   unfold ZeR gt
   rw[ZvE hk0 hk1,List.getElem?_set]
   by_cases e:k=d.bottom
   ·subst e;rw[if_pos rfl,if_pos hlt,if_pos rfl];rfl
   ·rw[if_neg (by omega),if_neg e]
  generalize hW:vw on (ds.set c ⟨d.ring.set d.bottom.toNat n,d.top,d.bottom+1⟩) ts fs=W at eT eB eR
  have oO:W.O=(vw on ds ts fs).O:=by rw[← hW];rfl
  have oa:W.a=(vw on ds ts fs).a:=by rw[← hW];rfl
  have ox:W.x=(vw on ds ts fs).x:=by rw[← hW];rfl
  have oy:W.y=(vw on ds ts fs).y:=by rw[← hW];rfl
  have oF:W.F=(vw on ds ts fs).F:=by rw[← hW];rfl
  have wa:∀i,i<m→W.a i=0:=fun i hi=>by rw[oa];exact P.a0 i hi
  have wB:∀i,W.B i=if i=c then d.bottom+1 else (vw on ds ts fs).B i:=fun i=>by rw[eB];rfl
  have wit:∀i k,Item m W i k↔Item m (vw on ds ts fs) i k∨(i=c∧k=d.bottom):=fun i k=>by
   unfold Item
   constructor
   ·rintro ⟨h1,h2,h3⟩
    have e1:W.lo i=W.T i:=by unfold Zc.lo;rw[if_neg (by have:=wa i h1;omega)]
    have e2:W.be i=W.B i:=by unfold Zc.be;rw[if_neg (by have:=wa i h1;omega)]
    rw[e1,eT] at h2
    rw[e2,wB] at h3
    obtain⟨q1,q2⟩:=P.be h1
    by_cases e:i=c
    ·subst e
     rw[if_pos rfl] at h3
     by_cases ek:k=d.bottom
     ·exact .inr ⟨rfl,ek⟩
     ·exact .inl ⟨h1,by rw[q2];exact h2,by rw[q1,qB];omega⟩
    ·rw[if_neg e] at h3
     exact .inl ⟨h1,by rw[q2];exact h2,by rw[q1];exact h3⟩
   ·have back:∀i,i<m→W.lo i=(vw on ds ts fs).T i∧W.be i=W.B i:=fun i h1=>by
     have:=wa i h1
     constructor
     ·unfold Zc.lo;rw[if_neg (by omega),eT]
     ·unfold Zc.be;rw[if_neg (by omega)]
    rintro (⟨h1,h2,h3⟩ | ⟨rfl,rfl⟩)
    ·obtain⟨q1,q2⟩:=P.be h1
     obtain⟨b1,b2⟩:=back i h1
     rw[q2] at h2
     rw[q1] at h3
     refine⟨h1,by rw[b1];exact h2,?_⟩
     rw[b2,wB]
     by_cases e:i=c
     ·subst e;rw[if_pos rfl];rw[qB] at h3;omega
     ·rw[if_neg e];exact h3
    ·obtain⟨b1,b2⟩:=back i hc
     refine⟨hc,by rw[b1,qT];omega,?_⟩
     rw[b2,wB,if_pos rfl];omega
  have wR:∀i k,Item m (vw on ds ts fs) i k→W.R i k=(vw on ds ts fs).R i k:=fun i k hi=>by
   rw[eR]
   by_cases e:i=c
   ·subst e
    rw[ZY,qR]
    obtain⟨q1,q2⟩:=P.be hc
    obtain⟨_,h2,h3⟩:=hi
    rw[q2,qT] at h2
    rw[q1,qB] at h3
    rw[rA k (by omega) (by omega),if_neg (by omega)]
   ·rw[Zrj _ _ e]
  have wn:W.R c d.bottom=n:=by
   rw[eR,ZY,rA d.bottom (by omega) hB,if_pos rfl]
  refine⟨by rw[List.length_set];exact P.dl,fun x hx=>?_,?_,fun i hi=>by rw[hW];exact wa i hi⟩
  ·rcases ZcG hx with hx | hx
   ·exact P.ring x hx
   ·rw[hx];show(d.ring.set _ _).length=64;rw[List.length_set];exact hring
  ·rw[hW]
   refine⟨fun i hi=>?_,⟨fun i k hk=>?_,fun i k i' k' h1 h2 h3=>?_,fun x hx ho=>?_⟩⟩
   ·have pi:=P.inv.pos i hi
    have q1:=(P.be hi).1
    have t1:=pi.TB
    have t2:=pi.B64
    rw[q1] at t1 t2
    refine Pos.still (wa i hi) (by rw[oF];exact pi.F) (fun h=>by rw[oF];rw[oO] at h;exact(pi.busy h).2) (by rw[eT];exact pi.T0) ?_ ?_ (by rw[ox];exact pi.rx) (by rw[oy];exact pi.ry)
    ·rw[eT,wB]
     by_cases e:i=c
     ·subst e;rw[if_pos rfl,qT];omega
     ·rw[if_neg e];exact t1
    ·rw[wB]
     by_cases e:i=c
     ·rw[if_pos e];omega
     ·rw[if_neg e];exact t2
   ·rw[oO]
    rcases(wit i k).1 hk with h1 | ⟨rfl,rfl⟩
    ·obtain⟨r1,r2⟩:=P.inv.items.rdy i k h1
     rw[wR i k h1]
     exact⟨.inl r1,r2⟩
    ·rw[wn]
     exact⟨.inr rfl,hno⟩
   ·rcases(wit i k).1 h1 with h1 | ⟨rfl,rfl⟩
    ·rcases(wit i' k').1 h2 with h2 | ⟨rfl,rfl⟩
     ·rw[wR i k h1,wR i' k' h2] at h3
      exact P.inv.items.inj i k i' k' h1 h2 h3
     ·rw[wn,wR i k h1] at h3
      exact absurd (h3 ▸ (P.inv.items.rdy i k h1).1) hnb
    ·rcases(wit i' k').1 h2 with h2 | ⟨rfl,rfl⟩
     ·rw[wn,wR i' k' h2] at h3
      exact absurd (h3 ▸ (P.inv.items.rdy i' k' h2).1) hnb
     ·exact⟨rfl,rfl⟩
   ·rw[oO] at ho
    rcases hx with hx | rfl
    ·obtain⟨i,k,h1,h2⟩:=P.inv.items.all x hx ho
     exact⟨i,k,(wit i k).2 (.inl h1),by rw[wR i k h1];exact h2⟩
    ·exact⟨c,d.bottom,(wit c d.bottom).2 (.inr ⟨rfl,rfl⟩),wn⟩
 ·show gt _ _ _ _=_
  rw[Zbi hcd]
  unfold upd
  rw[qB]
  rfl
theorem ZhA:∀(l m:List Int),l.Nodup→(∀x∈l,x∈m)→l.length≤m.length
 | [],_,_,_=>Nat.zero_le _
 | x :: l,m,hn,hs=>by
  have hn:=List.nodup_cons.1 hn
  have hx:x∈m:=hs x (by simp)
  have h1:=ZhA l (m.erase x) hn.2 fun y hy=>(List.mem_erase_of_ne (fun e:y=x=>hn.1 (e ▸ hy))).2 (hs y (by simp[hy]))
  rw[List.length_erase_of_mem hx] at h1
  have:=List.length_pos_of_mem hx
  rw[List.length_cons]
  omega
def ZjN (E:List Zt) (left:List Int):Nat:=(((List.range left.length).filter fun i:Nat=>Zi3 E left (i:Int)).map fun i:Nat=>(i:Int)).length
theorem Zwx (E:List Zt) (left:List Int):ZjN E left≤left.length:=by
 unfold ZjN
 rw[List.length_map]
 exact Nat.le_trans (List.length_filter_le _ _) (by rw[List.length_range];exact Nat.le_refl _)
theorem ZsI {E:List Zt}{left left':List Int} (hl:left'.length=left.length) (hm:∀n,isN left n→Zji E left n→Zji E left' n) {S:List Int} (hS:S.Nodup) (hin:∀s∈S,isN left s∧Zji E left' s∧¬Zji E left s):ZjN E left+S.length≤ZjN E left':=by
 unfold ZjN
 rw[← List.length_append]
 refine ZhA _ _ ?_ fun x hx=>?_
 ·rw[List.nodup_append]
  refine⟨List.Pairwise.map _ (fun a b (h:a≠b)=>by omega) (List.Pairwise.filter _ List.nodup_range),hS,fun a ha b hb e=>?_⟩
  subst e
  obtain⟨h1,h2,h3⟩:=ZgP.1 ha
  rw[Int.toNat_of_nonneg h1] at h3
  exact(hin a hb).2.2 (Zc3.1 h3)
 ·rw[hl]
  rcases List.mem_append.1 hx with hx | hx
  ·obtain⟨h1,h2,h3⟩:=ZgP.1 hx
   refine ZgP.2 ⟨h1,h2,?_⟩
   rw[Int.toNat_of_nonneg h1] at h3 ⊢
   exact Zc3.2 (hm x ⟨h1,h2⟩ (Zc3.1 h3))
  ·obtain⟨h1,h2,_⟩:=hin x hx
   exact ZgP.2 ⟨h1.1,h1.2,by rw[Int.toNat_of_nonneg h1.1];exact Zc3.2 h2⟩
theorem ZyL {g:Zk} (hc:ZT g=0) (n:Int):∃r,Zhg g n=some r∧(∀z,z∈r↔∃e∈g.edges,e.src=n∧e.dst=z)∧r.length≤256:=by
 obtain⟨h,_⟩:=Z1 hc
 have hel:=h.el
 have key:=ZAi g.edges (by omega) (fun e:Zt=>e.src==n) (fun _ e=>e.dst) (Ze2 g fun z0=>ZdD z0 n) (fun i x s hi hx=>by
  simp only[Ze2,Zds hi,cond_true,ZE hx,Option.bind_some,ZdD,ZR hi h.short.e]
  cases x.src==n<;>rfl) (fun s=>by simp only[Ze2,Zdz,cond_false]) [] (by simp)
 rw[List.nil_append] at key
 have hlen:(sel (fun e:Zt=>e.src==n) (fun _ e=>e.dst) 0 g.edges).length≤256:=Nat.le_trans (ZuX _ _ _ _) hel
 obtain⟨r,h1,h2,_⟩:=ZpT _ (Nat.le_trans hlen (by omega))
 refine⟨r,?_,fun z=>?_,by rw[h2.length_eq];exact hlen⟩
 ·unfold Zhg
  rw[ZdU g h.short,hc,Option.bind_some,show((0:Int) != 0)=false from rfl,cond_false]
  unfold Zl2
  simp only[key,Option.bind_some,h1]
 ·rw[h2.mem_iff,ZtX]
  constructor
  ·rintro ⟨j,x,hx,h3,h4⟩
   exact⟨x,List.mem_of_getElem? hx,by simpa using h3,h4.symm⟩
  ·rintro ⟨e,he,h3,h4⟩
   obtain⟨j,hj⟩:=List.getElem?_of_mem he
   exact⟨j,e,hj,by simpa using h3,h4.symm⟩
section
variable {g:Zk} {m:Nat} {left row:List Int}
theorem Zsa {fs:List Int}{ds:List Zb}{ts:List Zi} (G:GangIn g m left row ds ts fs) (hw:∀c,¬Zcy m (vw row ds ts fs) c):(∀i,i<m→(vw row ds ts fs).a i=0)∧(-1∈row→∀n,¬Rdy g.edges left row n):=by
 have a0:∀i,i<m→(vw row ds ts fs).a i=0:=fun i hi=>Classical.byContradiction fun h=>by
  by_cases hO:(vw row ds ts fs).O i = -1
  ·exact hw i ⟨hi,hO,.inr h⟩
  ·exact h ((G.inv.pos i hi).busy hO).1
 refine⟨a0,fun hi n hr=>?_⟩
 obtain⟨c,hc⟩:=List.getElem?_of_mem hi
 have hcm:c<m:=by rw[← G.ol];exact(List.getElem?_eq_some_iff.1 hc).1
 obtain⟨j,k,⟨hj,h1,h2⟩,_⟩:=G.inv.items.all n ⟨hr.1,hr.2.1,hr.2.2.2⟩ fun i him h=>by
  have hx:=List.getElem?_eq_getElem (show i<row.length by rw[G.ol];exact him)
  rw[Zkw row ds ts fs hx] at h
  exact hr.2.2.1 (h ▸ List.getElem_mem _)
 have hja:=a0 j hj
 have e1:(vw row ds ts fs).lo j=(vw row ds ts fs).T j:=by unfold Zc.lo;rw[if_neg (by omega)]
 have e2:(vw row ds ts fs).be j=(vw row ds ts fs).B j:=by unfold Zc.be;rw[if_neg (by omega)]
 exact hw c ⟨hcm,Zkw row ds ts fs hc,.inl ⟨j,hj,by omega⟩⟩
theorem Zn1 (c:Zcf g left row) (hall : -1∈row→∀n,¬Rdy g.edges left row n):ZdQ g.edges left row row:=
 ⟨rfl,fun c n h _=>h,fun c n h1 h2=>by rw[h1] at h2;exact .inl (Option.some.inj h2).symm,c.ok.one,hall⟩
def ZuY (g:Zk) (left row:List Int) (s:Int):Prop:=Rdy g.edges (ZF left row) (ZJ left row) s∧¬Zji g.edges left s
def was (g:Zk) (left row:List Int) (n:Int):Prop:=Rdy g.edges left row n∨(n∈ZJ left row∧n ≠ -1)
structure TI (g:Zk) (m:Nat) (left row:List Int) (ts:List Zi) (fs:List Int) (ds:List Zb) (pushed:List Int):Prop where
 pg:PG m (fun x=>was g left row x∨x∈pushed) (ZJ left row) ds ts fs
 nod:pushed.Nodup
 new:∀s∈pushed,ZuY g left row s
 cnt:∀c,c<m→(vw (ZJ left row) ds ts fs).B c≤(ZjN g.edges left+pushed.length:Nat)
theorem ZAp {s:Int} (h:ZuY g left row s):isN left s:=⟨h.1.1.1,by have:=h.1.1.2;rwa [Zcp] at this⟩
theorem Zoq {n:Int} (h:n∈ZJ left row):n = -1∨(n∈row∧lf (ZF left row) n≠0):=by
 rw[Zco] at h
 obtain⟨k,hk,rfl⟩:=List.mem_map.1 h
 unfold Zfk
 by_cases h1:k = -1
 ·rw[if_pos h1];exact .inl rfl
 ·rw[if_neg h1]
  by_cases h2:lf (ZF left row) k=0
  ·rw[if_pos h2];exact .inl rfl
  ·rw[if_neg h2];exact .inr ⟨hk,h2⟩
theorem ZuS {n:Int} (h:n∈row) (h1:n ≠ -1) (h2:lf (ZF left row) n≠0):n∈ZJ left row:=by
 rw[Zco]
 refine List.mem_map.2 ⟨n,h,?_⟩
 unfold Zfk
 rw[if_neg h1,if_neg h2]
theorem TI.more (hG:Zdg g) (c:Zcf g left row) (hall : -1∈row→∀n,¬Rdy g.edges left row n) {S:List Int} (hS:S.Nodup) (hn:∀s∈S,ZuY g left row s):ZjN g.edges left+S.length≤ZjN g.edges (ZF left row):=
 ZsI (Zcp _ _) (fun n _ hf=>(Zn1 c hall).free (by rw[c.ll];exact Zek hG) c.ok hf) hS fun s hs=>⟨ZAp (hn s hs),(hn s hs).1.2.2.2,(hn s hs).2⟩
theorem ZrM {s:Int} (c:Zcf g left row) (h:ZuY g left row s):¬was g left row s:=by
 rintro (h1 | ⟨h1,_⟩)
 ·exact h.2 h1.2.2.2
 ·exact h.1.2.2.1 h1
theorem Zve (hc:ZT g=0) (cr:Zcf g left row) (hall : -1∈row→∀n,¬Rdy g.edges left row n) (hm:row.length=m) {ts:List Zi}{fs:List Int}{c:Nat} (hcm:c<m) {R:List Int} (hR:∀z,z∈R↔Rdy g.edges (ZF left row) (ZJ left row) z) (hRl:R.length≤64)
  {l:List Int} (hl:l.length≤256) (hnew:∀s∈l,Rdy g.edges (ZF left row) (ZJ left row) s→¬Zji g.edges left s) {D0:List Zb} {p0:List Int} :
  ∀(k i:Nat) (ds:List Zb) (pushed:List Int),i+k=l.length→TI g m left row ts fs ds pushed →
   ∃ds' pushed',lp (ZaG R ((c:Int),D0,p0) l) ((i:Int),ds,pushed)=some (.inr (ds',pushed'))∧TI g m left row ts fs ds' pushed'∧(∀s∈pushed,s∈pushed')∧∀s∈l.drop i,Rdy g.edges (ZF left row) (ZJ left row) s→s∈pushed':=by
 obtain⟨hG,hA⟩:=Z1 hc
 have h8:m≤8:=by rw[← hm];exact cr.o8
 have h64:(ZF left row).length≤64:=by rw[Zcp,cr.ll];exact hG.wl
 intro k
 induction k with
 | zero=>
  intro i ds pushed hi T
  have hi:i=l.length:=by omega
  subst hi
  refine⟨ds,pushed,?_,T,fun _ h=>h,fun s hs=>by rw[List.drop_length] at hs;cases hs⟩
  rw[ZaI]
  simp only[ZaG,Zdz,cond_false]
 | succ k ih=>
  intro i ds pushed hi T
  have hi':i<l.length:=by omega
  have hx:=List.getElem?_eq_getElem hi'
  generalize hs:l[i]=s at hx
  have hdrop:l.drop i=s :: l.drop (i+1):=by rw[← hs];exact List.drop_eq_getElem_cons hi'
  have hpl:=TI.more hG cr hall T.nod T.new
  have hfl:=Zwx g.edges (ZF left row)
  have hpl64:pushed.length≤64:=by omega
  rw[ZaI]
  simp only[ZaG,Zds hi',cond_true,ZE hx,Option.bind_some,ZgX R s (by omega),Zlw,ZR hi' (show l.length<9223372036854775808 by omega)]
  by_cases h1:s∈R
  ·rw[decide_eq_true h1,cond_true,ZgX pushed s (by omega),Option.bind_some,Zlw]
   have hr:=(hR s).1 h1
   by_cases h2:s∈pushed
   ·rw[decide_eq_true h2,cond_true]
    obtain⟨ds',p',q1,q2,q3,q4⟩:=ih (i+1) ds pushed (by omega) T
    refine⟨ds',p',q1,q2,q3,fun z hz hzr=>?_⟩
    rw[hdrop] at hz
    rcases List.mem_cons.1 hz with rfl | hz
    ·exact q3 z h2
    ·exact q4 z hz hzr
   ·rw[decide_eq_false h2,cond_false]
    have hN:ZuY g left row s:=⟨hr,hnew s (by rw[← hs];exact List.getElem_mem _) hr⟩
    have hnod:(pushed++[s]).Nodup:=by
     rw[List.nodup_append]
     refine⟨T.nod,by simp,fun a ha b hb e=>?_⟩
     rw[List.mem_singleton] at hb
     exact h2 (hb ▸ e ▸ ha)
    have hnn:∀z∈pushed++[s],ZuY g left row z:=fun z hz=>by
     rcases List.mem_append.1 hz with hz | hz
     ·exact T.new z hz
     ·rw[List.mem_singleton] at hz;rw[hz];exact hN
    have hml:=TI.more hG cr hall hnod hnn
    rw[List.length_append,List.length_singleton] at hml
    have hcnt:=T.cnt c hcm
    obtain⟨ds1,e1,e2,e3⟩:=Zw0 (n:=s) T.pg hcm h8 (by omega) (by
     rintro (h3 | h3)
     ·exact ZrM cr hN h3
     ·exact h2 h3) (fun j hj he=>by
     have hol:(ZJ left row).length=m:=by rw[Zco,List.length_map,hm]
     have hxj:=List.getElem?_eq_getElem (show j<(ZJ left row).length by omega)
     rw[Zkw _ ds ts fs hxj] at he
     exact hr.2.2.1 (he ▸ List.getElem_mem _))
    have T1:TI g m left row ts fs ds1 (pushed++[s]):=by
     refine⟨⟨e2.dl,e2.ring,e2.inv.congr fun n=>?_,e2.a0⟩,hnod,hnn,fun j hj=>?_⟩
     ·rw[List.mem_append,List.mem_singleton,or_assoc]
     ·rw[e3 j,List.length_append,List.length_singleton]
      have:=T.cnt j hj
      split<;>omega
    obtain⟨ds',p',q1,q2,q3,q4⟩:=ih (i+1) ds1 (pushed++[s]) (by omega) T1
    refine⟨ds',p',?_,q2,fun z hz=>q3 z (by simp[hz]),fun z hz hzr=>?_⟩
    ·rw[e1,Option.bind_some,ZeU (show pushed.length+1≤1073741824 by omega)]
     exact q1
    ·rw[hdrop] at hz
     rcases List.mem_cons.1 hz with rfl | hz
     ·exact q3 z (by simp)
     ·exact q4 z hz hzr
  ·rw[decide_eq_false h1,cond_false]
   obtain⟨ds',p',q1,q2,q3,q4⟩:=ih (i+1) ds pushed (by omega) T
   refine⟨ds',p',q1,q2,q3,fun z hz hzr=>?_⟩
   rw[hdrop] at hz
   rcases List.mem_cons.1 hz with rfl | hz
   ·exact absurd ((hR z).2 hzr) h1
   ·exact q4 z hz hzr
structure Zjk (g:Zk) (m:Nat) (left on:List Int) (ds:List Zb) (ts:List Zi) (fs:List Int):Prop extends GangIn g m left on ds ts fs where
 bnd:∀c,c<m→(vw on ds ts fs).be c≤(ZjN g.edges left:Nat)
theorem ZnE (c:Zcf g left row) {z:Int}:z∈Zbj g.edges left row↔Rdy g.edges left row z:=ZkI fun x hx=>(c.ok.rng x hx).1
theorem Zkt (E:List Zt) (left on:List Int):(Zbj E left on).length≤left.length:=by
 unfold Zbj
 rw[List.length_map]
 exact Nat.le_trans (List.length_filter_le _ _) (by rw[List.length_range];exact Nat.le_refl _)
theorem Zts (hc:ZT g=0) {ts:List Zi}{fs:List Int}{ds:List Zb} (G:Zjk g m left row ds ts fs) (hw:∀c,¬Zcy m (vw row ds ts fs) c) :
  ∃ds' done,ZdM g.work g.edges row left ds=some (.inr (.inr (ds',done,ZJ left row,ZF left row)))∧Zjk g m (ZF left row) (ZJ left row) ds' ts fs∧∀z,z∈done↔z∈row∧z ≠ -1∧lf (ZF left row) z=0:=by
 obtain⟨hG,hA⟩:=Z1 hc
 have cr:=G.crew
 obtain⟨a0,hall⟩:=Zsa G.toGangIn hw
 have F:=Zn1 cr hall
 have hE:ZeV g.edges left.length:=by rw[cr.ll];exact Zek hG
 have h8:m≤8:=by rw[← G.ol];exact cr.o8
 obtain⟨done,t1,t2⟩:=ZoE hc cr
 have hol:(ZJ left row).length=m:=by rw[Zco,List.length_map,G.ol]
 have cr':Zcf g (ZF left row) (ZJ left row):=⟨by rw[Zcp];exact cr.ll,by rw[hol,← G.ol];exact cr.o1,by rw[hol];exact h8,F.next hE cr.ok⟩
 have wO:∀i,i<m→(vw (ZJ left row) ds ts fs).O i=Zfk left row ((vw row ds ts fs).O i):=fun i hi=>by
  have hx:=List.getElem?_eq_getElem (show i<row.length by rw[G.ol];exact hi)
  rw[Zkw row ds ts fs hx]
  refine Zkw _ ds ts fs ?_
  rw[Zco,List.getElem?_map,hx];rfl
 have T0:TI g m left row ts fs ds []:=by
  refine⟨⟨G.dl,G.ring,⟨fun i hi=>?_,⟨fun i k hk=>?_,fun i k i' k' h1 h2 h3=>G.inv.items.inj i k i' k' h1 h2 h3,fun n hn ho=>?_⟩⟩,a0⟩,by simp,fun s hs=>(by cases hs),fun c hcm=>?_⟩
  ·have p:=G.inv.pos i hi
   have hb:(vw row ds ts fs).be i=(vw row ds ts fs).B i:=by unfold Zc.be;rw[if_neg (by have:=a0 i hi;omega)]
   have p1:=p.TB
   have p2:=p.B64
   rw[hb] at p1 p2
   refine Pos.still (W:=vw (ZJ left row) ds ts fs) (a0 i hi) p.F (fun h=>?_) p.T0 p1 p2 p.rx p.ry
   rw[wO i hi] at h
   refine(p.busy fun h2=>?_).2
   rw[h2] at h
   exact h rfl
  ·obtain⟨h1,h2⟩:=G.inv.items.rdy i k hk
   have hnr:(vw row ds ts fs).R i k∉row:=fun hm=>by
    obtain⟨j,hj⟩:=List.getElem?_of_mem hm
    exact h2 j (by rw[← G.ol];exact(List.getElem?_eq_some_iff.1 hj).1) (Zkw row ds ts fs hj)
   refine⟨.inl (.inl ⟨h1.1,h1.2.1,hnr,h1.2.2⟩),fun j hj he=>?_⟩
   rw[wO j hj] at he
   have hjr:j<row.length:=by rw[G.ol];exact hj
   have hx:=List.getElem?_eq_getElem hjr
   rw[Zkw row ds ts fs hx] at he
   have hm:(vw row ds ts fs).R i k∈ZJ left row:=by
    rw[Zco]
    exact List.mem_map.2 ⟨row[j],List.getElem_mem _,he⟩
   rcases Zoq hm with h | ⟨h,_⟩
   ·exact Ziv _ h1 h
   ·exact hnr h
  ·have hno:n∉ZJ left row:=fun hm=>by
    obtain⟨j,hj⟩:=List.getElem?_of_mem hm
    exact ho j (by rw[← hol];exact(List.getElem?_eq_some_iff.1 hj).1) (Zkw _ ds ts fs hj)
   rcases hn with(hn | hn) | hn
   ·exact G.inv.items.all n ⟨hn.1,hn.2.1,hn.2.2.2⟩ fun j hj he=>by
     have hx:=List.getElem?_eq_getElem (show j<row.length by rw[G.ol];exact hj)
     rw[Zkw row ds ts fs hx] at he
     exact hn.2.2.1 (he ▸ List.getElem_mem _)
   ·exact absurd hn.1 hno
   ·cases hn
  ·have hb:(vw row ds ts fs).be c=(vw row ds ts fs).B c:=by unfold Zc.be;rw[if_neg (by have:=a0 c hcm;omega)]
   have:=G.bnd c hcm
   rw[hb] at this
   exact this
 have hR:∀z,z∈Zbj g.edges (ZF left row) (ZJ left row)↔Rdy g.edges (ZF left row) (ZJ left row) z:=fun z=>ZnE cr'
 have hRl:(Zbj g.edges (ZF left row) (ZJ left row)).length≤64:=Nat.le_trans (Zkt _ _ _) (by rw[Zcp,cr.ll];exact hG.wl)
 have loop:∀(k i:Nat) (ds:List Zb) (pushed:List Int),i+k=row.length→TI g m left row ts fs ds pushed →
   ∃ds' pushed',lp (ZaJ g.work g.edges row (ZJ left row,ZF left row,done) (Zbj g.edges (ZF left row) (ZJ left row))) ((i:Int),ds,pushed)=some (.inr ds')∧TI g m left row ts fs ds' pushed'∧(∀s∈pushed,s∈pushed') ∧
    ∀n∈row.drop i,n ≠ -1→lf (ZF left row) n=0→∀e∈g.edges,e.src=n→Rdy g.edges (ZF left row) (ZJ left row) e.dst→e.dst∈pushed':=by
  intro k
  induction k with
  | zero=>
   intro i ds pushed hi T
   have hi:i=row.length:=by omega
   subst hi
   refine⟨ds,pushed,?_,T,fun _ h=>h,fun n hn=>by rw[List.drop_length] at hn;cases hn⟩
   rw[ZaI]
   simp only[ZaJ,Zdz,cond_false]
  | succ k ih=>
   intro i ds pushed hi T
   have hi':i<row.length:=by omega
   have hx:=List.getElem?_eq_getElem hi'
   generalize hn:row[i]=n at hx
   have hdrop:row.drop i=n :: row.drop (i+1):=by rw[← hn];exact List.drop_eq_getElem_cons hi'
   have hy:(ZJ left row)[i]? = some (Zfk left row n):=by rw[Zco,List.getElem?_map,hx];rfl
   have hmem:n∈row:=by rw[← hn];exact List.getElem_mem _
   rw[ZaI]
   simp only[ZaJ,Zds hi',cond_true,ZE hx,ZE hy,Option.bind_some,ZR hi' (show row.length<9223372036854775808 by have:=G.ol;omega)]
   by_cases h1:n = -1
   ·rw[show(n == -1)=true from beq_iff_eq.2 h1,cond_true]
    obtain⟨ds',p',q1,q2,q3,q4⟩:=ih (i+1) ds pushed (by omega) T
    refine⟨ds',p',q1,q2,q3,fun z hz hz1=>?_⟩
    rw[hdrop] at hz
    rcases List.mem_cons.1 hz with rfl | hz
    ·exact absurd h1 hz1
    ·exact q4 z hz hz1
   ·rw[show(n == -1)=false from beq_eq_false_iff_ne.2 h1,cond_false]
    by_cases h2:lf (ZF left row) n=0
    ·have e1:Zfk left row n = -1:=by unfold Zfk;rw[if_neg h1,if_pos h2]
     rw[e1,show((-1:Int) != -1)=false from rfl,cond_false]
     obtain⟨r,s1,s2,s3⟩:=ZyL hc n
     rw[s1,Option.bind_some]
     obtain⟨ds1,p1,q1,q2,q3,q4⟩:=Zve (c:=i) hc cr hall G.ol (by rw[← G.ol];exact hi') hR hRl s3 (D0:=ds) (p0:=pushed) (fun s hs hr hf=>by
      obtain⟨e,he,he1,he2⟩:=(s2 s).1 hs
      have h0:=hf e he he2
      rw[he1] at h0
      rcases cr.ok.run n hmem with h3 | ⟨_,h3,_⟩
      ·exact h1 h3
      ·omega) r.length 0 ds pushed (by omega) T
     rw[show(lp (ZaG (Zbj g.edges (ZF left row) (ZJ left row)) ((i:Int),ds,pushed) r) (0,ds,pushed))=_ from q1,Option.bind_some]
     obtain⟨ds',p',r1,r2,r3,r4⟩:=ih (i+1) ds1 p1 (by omega) q2
     refine⟨ds',p',r1,r2,fun z hz=>r3 z (q3 z hz),fun z hz hz1 hz2 e he he1 her=>?_⟩
     rw[hdrop] at hz
     rcases List.mem_cons.1 hz with rfl | hz
     ·exact r3 _ (q4 e.dst (by rw[List.drop_zero];exact(s2 _).2 ⟨e,he,he1,rfl⟩) her)
     ·exact r4 z hz hz1 hz2 e he he1 her
    ·have e1:Zfk left row n=n:=by unfold Zfk;rw[if_neg h1,if_neg h2]
     rw[e1,show(n != -1)=true by simpa using h1,cond_true]
     obtain⟨ds',p',q1,q2,q3,q4⟩:=ih (i+1) ds pushed (by omega) T
     refine⟨ds',p',q1,q2,q3,fun z hz hz1 hz2=>?_⟩
     rw[hdrop] at hz
     rcases List.mem_cons.1 hz with rfl | hz
     ·exact absurd hz2 h2
     ·exact q4 z hz hz1 hz2
 obtain⟨ds',p',q1,q2,_,q4⟩:=loop row.length 0 ds [] (by omega) T0
 have hbase:∀n,(was g left row n∨n∈p')↔base g.edges (ZF left row) n:=fun n=>by
  have hlen:=Zcp row left
  constructor
  ·rintro ((h | ⟨h,h1⟩) | h)
   ·refine⟨⟨h.1.1,by rw[hlen];exact h.1.2⟩,?_,F.free hE cr.ok h.2.2.2⟩
    rw[F.tick_lf cr.ok h.1.1,if_neg h.2.2.1]
    exact h.2.1
   ·rcases Zoq h with h2 | ⟨h2,h3⟩
    ·exact absurd h2 h1
    ·rcases cr.ok.run n h2 with h4 | ⟨h4,h5,h6⟩
     ·exact absurd h4 h1
     ·refine⟨⟨h4.1,by rw[hlen];exact h4.2⟩,?_,F.free hE cr.ok h6⟩
      have:=(ZqR cr'.ok n).1
      omega
   ·have:=q2.new n h
    exact⟨this.1.1,this.1.2.1,this.1.2.2.2⟩
  ·rintro ⟨h1,h2,h3⟩
   have hN:isN left n:=⟨h1.1,by rw[← hlen];exact h1.2⟩
   by_cases ho:n∈ZJ left row
   ·exact .inl (.inr ⟨ho,by have:=h1.1;omega⟩)
   ·by_cases hf:Zji g.edges left n
    ·have hle:=F.tick_le cr.ok h1.1
     refine .inl (.inl ⟨hN,by omega,fun hr=>ho (ZuS hr (by have:=h1.1;omega) (by omega)),hf⟩)
    ·right
     have:∃e∈g.edges,e.dst=n∧lf left e.src≠0:=Classical.byContradiction fun hcn=>hf fun e he hd=>Classical.byContradiction fun hx=>hcn ⟨e,he,hd,hx⟩
     obtain⟨e,he,hd,hx⟩:=this
     have hs:=hE e he
     have h0:=h3 e he hd
     have hr:e.src∈row:=Classical.byContradiction fun hr=>by
      rw[F.tick_lf cr.ok hs.1.1,if_neg hr] at h0
      exact hx h0
     have:=q4 e.src (by rw[List.drop_zero];exact hr) (by have:=hs.1.1;omega) h0 e he rfl (by rw[hd];exact⟨h1,h2,ho,h3⟩)
     rwa [hd] at this
 have hmore:=TI.more hG cr hall q2.nod q2.new
 refine⟨ds',done,?_,⟨⟨cr',hol,q2.pg.dl,G.tl,G.fl,q2.pg.ring,G.en,G.f0,G.st,fun i n ti hi hn hti=>(by
  rw[Zco,List.getElem?_map] at hi
  cases hr:row[i]? with
  | none=>rw[hr] at hi;cases hi
  | some k=>
   rw[hr] at hi
   have hk:Zfk left row k=n:=Option.some.inj hi
   exact G.bz i k ti hr (fun e=>hn (by rw[← hk,e];rfl)) hti),q2.pg.inv.congr hbase⟩,fun c hcm=>?_⟩,t2⟩
 ·unfold ZdM
  rw[Zdp (show row.length≤1073741824 by have:=G.ol;omega),Option.bind_some,show(Zk.mk g.work g.edges)=g from rfl,t1,Option.bind_some]
  dsimp only
  rw[Znp hc cr',Option.bind_some,show(lp (ZaJ g.work g.edges row (ZJ left row,ZF left row,done) (Zbj g.edges (ZF left row) (ZJ left row))) (0,ds,([]:List Int)))=_ from q1]
  rfl
 ·rw[(q2.pg.be hcm).1]
  have:=q2.cnt c hcm
  omega
end
end Go.Proofs.YtgcfmiajkbbmeaaGreat
namespace Go.Proofs.YtgcfmiajkbbmeaaGreat
open Go Go.Proofs.YtgcfmiajkbbmeaaGreatE
open Go.IntKind (u64 i64 u32 i32 u8)
def Zf8 (g:Zk) (need:List Int) (c:Int):Bool:=((need.length:Int)==(g.work.length:Int))&&(!(need.any fun n=>decide (n<1) || decide (1000<n))&&(decide (1≤c)&&decide (c≤8)))
noncomputable def ZoN (g:Zk) (need:List Int) (c:Int):Int:=bif ZT g==0 then (bif Zf8 g need c then 0 else 100) else ZT g
theorem Zpj (n:Int):Zbr n=some (decide (n<1) || decide (1000<n)):=by
  unfold Zbr
  cases decide (n<1)<;>cases decide (1000<n)<;>rfl
theorem Ziy {g:Zk} (hs:ZgV g) (need:List Int) (c:Int):Zeo g need c=some (bif ZT g==0 then Zf8 g need c else false,ZT g):=by
  unfold Zeo Zf8
  rw[ZdU g hs,Option.bind_some]
  by_cases h:ZT g=0
  · rw[h]
    simp only[show((0:Int) != 0)=false from rfl,beq_self_eq_true,cond_false,cond_true]
    by_cases hl:(need.length:Int)=(g.work.length:Int)
    · have hw:=(Z1 h).1.wl
      rw[show((need.length:Int)==(g.work.length:Int))=true from beq_iff_eq.2 hl,Zeq need _ (fun n=>decide (n<1) || decide (1000<n)) (fun n _=>Zpj n) (by omega),Option.bind_some]
      cases (need.any fun n=>decide (n<1) || decide (1000<n))<;>cases decide (1≤c)<;>cases decide (c≤8)<;>rfl
    · rw[show((need.length:Int)==(g.work.length:Int))=false from beq_eq_false_iff_ne.2 hl]
      rfl
  · rw[show(ZT g != 0)=true by simpa using h,show(ZT g==0)=false from beq_eq_false_iff_ne.2 h]
    rfl
structure ZiT (g:Zk) (need:List Int) (c:Int):Prop where
  ck:ZT g=0
  nl:need.length=g.work.length
  rng:∀x∈need,1≤x∧x≤1000
  c1:1≤c
  c8:c≤8
theorem ZjV {g:Zk}{need:List Int}{c:Int}:ZoN g need c=0↔ZiT g need c:=by
  unfold ZoN
  constructor
  · intro h
    by_cases h1:ZT g=0
    · rw[h1] at h
      cases h2:Zf8 g need c with
      | false=>rw[h2] at h;exact absurd h (by decide)
      | true=>
        unfold Zf8 at h2
        simp only[Bool.and_eq_true,Bool.not_eq_true',beq_iff_eq,decide_eq_true_eq,List.any_eq_false,Bool.or_eq_true,not_or] at h2
        refine⟨h1,by omega,fun x hx=>?_,h2.2.2.1,h2.2.2.2⟩
        have:=h2.2.1 x hx
        omega
    · rw[show(ZT g==0)=false from beq_eq_false_iff_ne.2 h1] at h
      exact absurd h h1
  · intro h
    have:Zf8 g need c=true:=by
      unfold Zf8
      simp only[Bool.and_eq_true,Bool.not_eq_true',beq_iff_eq,decide_eq_true_eq,List.any_eq_false,Bool.or_eq_true,not_or]
      exact⟨by rw[h.nl],fun x hx=>by have:=h.rng x hx;omega,h.c1,h.c8⟩
    rw[h.ck,this];rfl
theorem Zq2 (need:List Int) (h:need.length≤64):Zel need=some (List.replicate need.length (-1)):=by
  have key:=Zwc (S:=List Int) need (Za1 need) (fun i s=>((i:Int),s)) (fun i s _=>s.set i (-1)) (fun s=>s) (fun i s=>s.length=need.length∧∀j,j<i→s[j]? = some (-1)) (fun i x s hi hx hI=>by
    have hy:=List.getElem?_eq_getElem (show i<s.length by rw[hI.1];exact hi)
    refine⟨?_,by rw[List.length_set];exact hI.1,fun j hj=>?_⟩
    · simp only[Za1,Zds hi,cond_true,ZE hy,Option.bind_some,ZR hi (show need.length<9223372036854775808 by omega),Int.toNat_natCast]
    · rw[List.getElem?_set]
      by_cases e:i=j
      · subst e;rw[if_pos rfl,if_pos (by rw[hI.1];exact hi)]
      · rw[if_neg e];exact hI.2 j (by omega)) (fun s _=>by simp only[Za1,Zdz];rfl) (List.replicate (need.length:Int).toNat 0) ⟨by simp,fun j hj=>by omega⟩
  obtain⟨k1,k2,k3⟩:=key
  have e:Zp9 (fun i s (_:Int)=>s.set i (-1)) 0 (List.replicate (need.length:Int).toNat 0) need=List.replicate need.length (-1):=by
    apply List.ext_getElem?
    intro j
    by_cases hj:j<need.length
    · rw[k3 j hj,List.getElem?_replicate,if_pos hj]
    · rw[List.getElem?_eq_none (by omega),List.getElem?_eq_none (by simp;omega)]
  rw[e] at k1
  unfold Zel
  rw[decide_eq_true (show(0:Int)≤(need.length:Int) by omega),decide_eq_true (show(need.length:Int)≤lim by show(need.length:Int)≤1073741824;omega),beq_self_eq_true]
  simp only[decide_true,Bool.and_true,cond_true]
  first
  | (rw[show(lp (Za1 need) (0,List.replicate (need.length:Int).toNat 0))=_ from k1];rfl)
  | simp only[show(lp (Za1 need) (0,List.replicate (need.length:Int).toNat 0))=_ from k1,Option.bind_some]
theorem Zpp {g:Zk} (hs:ZgV g) (need:List Int) (c:Int):ZcL g need c ([]:List (List Int))=some (ZoN g need c):=by
  unfold ZcL Zec
  rw[Ziy hs,Option.bind_some]
  dsimp only
  have hn:=@ZjV g need c
  unfold ZoN at hn ⊢
  by_cases h:ZT g=0
  · rw[h] at hn ⊢
    simp only[beq_self_eq_true,cond_true] at hn ⊢
    cases h2:Zf8 g need c with
    | false=>rfl
    | true=>
      rw[h2] at hn
      have hin:=hn.1 rfl
      have hw:=(Z1 h).1.wl
      have hnl:=hin.nl
      rw[cond_true,show((0:Int) != 0)=false from rfl,cond_false]
      rw[show decide ((4096:Int)<(([]:List (List Int)).length:Int))=false from rfl,cond_false]
      have h0:ZG ([]:List (List Int)) (fun z0=>ZaO z0 c)=some false:=by
        unfold ZG Zal
        rw[ZaI]
        rfl
      rw[h0,Option.bind_some,cond_false,Zq2 need (by omega),Option.bind_some,ZaI]
      rfl
  · rw[show(ZT g==0)=false from beq_eq_false_iff_ne.2 h]
    simp only[cond_false,show(ZT g != 0)=true by simpa using h,cond_true]
    rfl
theorem Zla {S R:Type}{c:Nat} (step:Int×S→Option ((Int×S)⊕R)) (f:Nat→S) (fin:S→R) (h1:∀i,i<c→step ((i:Int),f i)=some (.inl (((i+1:Nat):Int),f (i+1)))) (h2:step ((c:Int),f c)=some (.inr (fin (f c)))):lp step (0,f 0)=some (fin (f c)):=by
  have key:∀(k i:Nat),i+k=c→lp step ((i:Int),f i)=some (fin (f c)):=by
    intro k
    induction k with
    | zero => intro i hi; have : i = c := by omega
              subst this;rw[ZaI,h2]
    | succ k ih=>intro i hi;rw[ZaI,h1 i (by omega)];exact ih (i+1) (by omega)
  exact key c 0 (by omega)
theorem Zsx {α:Type} (i:Nat) (x:α):List.replicate i x++[x]=List.replicate (i+1) x:=by rw[List.replicate_succ']
theorem Zqn {g:Zk} (hs:ZgV g) (need:List Int) (c:Int):Zfz g need c=some (bif ZoN g need c==0 then .inr (List.replicate c.toNat (-1)) else .inl (ZoN g need c)):=by
  unfold Zfz
  rw[Zpp hs,Option.bind_some]
  by_cases h:ZoN g need c=0
  · have hin:=ZjV.1 h
    have hw:=(Z1 hin.ck).1.wl
    have hnl:=hin.nl
    have c1:=hin.c1
    have c8:=hin.c8
    have hc:c=((c.toNat:Nat):Int):=by omega
    rw[h,show((0:Int) != 0)=false from rfl,cond_false,Zdp (show need.length≤1073741824 by omega),Option.bind_some]
    have key:=Zla (c:=c.toNat) (ZdC c) (fun i=>List.replicate i (-1)) (fun s=>s) (fun i hi=>by
      simp only[ZdC,decide_eq_true (show(i:Int)<c by omega),cond_true,List.length_replicate,ZeU (show i+1≤1073741824 by omega),Zsx]
      rw[Zdo (by omega) (by omega)];rfl) (by
      simp only[ZdC,decide_eq_false (show ¬((c.toNat:Nat):Int)<c by omega)];rfl)
    rw[show(lp (ZdC c) (0,([]:List Int)))=_ from key]
    rfl
  · rw[show(ZoN g need c != 0)=true by simpa using h,show(ZoN g need c==0)=false from beq_eq_false_iff_ne.2 h]
    rfl
def dq0:Zb:=⟨List.replicate 64 0,0,0⟩
theorem Ztw:Zhm 64=some (dq0,0):=by
  obtain⟨k,hk⟩:=Zze
  unfold Zhm
  rw[hk,Option.bind_some]
  rfl
def tk0:Zi:=⟨false,0,0,0,0,0⟩
theorem Zrh {α:Type}{n i:Nat}{x y:α} (h:(List.replicate n x)[i]? = some y):y=x:=by
  rw[List.getElem?_replicate] at h
  split at h
  · exact(Option.some.inj h).symm
  · cases h
theorem Zu5 {g:Zk}{need:List Int}{c:Int} (hin:ZiT g need c):∃ds,Zhj g need c=some (.inr (List.replicate c.toNat (-1),ds))∧Zjk g c.toNat need (List.replicate c.toNat (-1)) ds (List.replicate c.toNat tk0) (List.replicate c.toNat 0):=by
  have hc0:=hin.ck
  obtain⟨hG,hA⟩:=Z1 hc0
  have hw:=hG.wl
  have hnl:=hin.nl
  have c1:=hin.c1
  have c8:=hin.c8
  generalize hm:c.toNat=m
  have hc:c=(m:Int):=by omega
  subst hc
  have cr:Zcf g need (List.replicate m (-1)):=⟨hnl,by rw[List.length_replicate];omega,by rw[List.length_replicate];omega,ZrC m hin.rng⟩
  have k0:=Zla (c:=m) (Zc4 (m:Int)) (fun i=>List.replicate i dq0) (fun s=>s) (fun i hi=>by
    simp only[Zc4,Zds hi,cond_true,Ztw,Option.bind_some,List.length_replicate,ZeU (show i+1≤1073741824 by omega),Zsx]
    rw[Zdo (by omega) (by omega)];rfl) (by simp only[Zc4,Zdz];rfl)
  have k0:lp (Zc4 (m:Int)) (0,([]:List Zb))=some (List.replicate m dq0):=k0
  have vO:∀(ds:List Zb) i,i<m→(vw (List.replicate m (-1)) ds (List.replicate m tk0) (List.replicate m 0)).O i = -1:=fun ds i hi=>Zkw _ ds _ _ (by rw[List.getElem?_replicate,if_pos hi])
  have va:∀(ds:List Zb) i,(vw (List.replicate m (-1)) ds (List.replicate m tk0) (List.replicate m 0)).a i=0:=fun ds i=>by
    show gt _ _ _ _=_
    unfold gt
    rw[List.getElem?_replicate]
    split
    · rename_i h;split at h
      · cases h;rfl
      · cases h
    · rfl
  have P0:PG m (fun _=>False) (List.replicate m (-1)) (List.replicate m dq0) (List.replicate m tk0) (List.replicate m 0):=by
    have hx:∀i,i<m→(List.replicate m dq0)[i]? = some dq0:=fun i hi=>by rw[List.getElem?_replicate,if_pos hi]
    have ht:∀i,i<m→(List.replicate m tk0)[i]? = some tk0:=fun i hi=>by rw[List.getElem?_replicate,if_pos hi]
    have hf:∀i,i<m→(List.replicate m (0:Int))[i]? = some 0:=fun i hi=>by rw[List.getElem?_replicate,if_pos hi]
    refine⟨by simp,fun d hd=>by rw[(List.mem_replicate.1 hd).2];rfl,⟨fun i hi=>?_,⟨fun i k hk=>?_,fun i k i' k' h1=>?_,fun n hn=>hn.elim⟩⟩,fun i _=>va _ i⟩
    · have e1:(vw (List.replicate m (-1)) (List.replicate m dq0) (List.replicate m tk0) (List.replicate m 0)).T i=0:=ZV (hx i hi)
      have e2:(vw (List.replicate m (-1)) (List.replicate m dq0) (List.replicate m tk0) (List.replicate m 0)).B i=0:=ZV (hx i hi)
      have e3:(vw (List.replicate m (-1)) (List.replicate m dq0) (List.replicate m tk0) (List.replicate m 0)).x i=0:=ZV (ht i hi)
      have e4:(vw (List.replicate m (-1)) (List.replicate m dq0) (List.replicate m tk0) (List.replicate m 0)).y i=0:=ZV (ht i hi)
      have e5:(vw (List.replicate m (-1)) (List.replicate m dq0) (List.replicate m tk0) (List.replicate m 0)).F i=0:=ZV (hf i hi)
      exact Pos.still (va _ i) (by omega) (fun _=>e5) (by omega) (by omega) (by omega) (by omega) (by omega)
    · obtain⟨hi,h1,h2⟩:=hk
      have e1:(vw (List.replicate m (-1)) (List.replicate m dq0) (List.replicate m tk0) (List.replicate m 0)).T i=0:=ZV (hx i hi)
      have e2:(vw (List.replicate m (-1)) (List.replicate m dq0) (List.replicate m tk0) (List.replicate m 0)).B i=0:=ZV (hx i hi)
      have a0:=va (List.replicate m dq0) i
      unfold Zc.lo at h1
      unfold Zc.be at h2
      rw[if_neg (by omega)] at h1 h2
      omega
    · obtain⟨hi,h1,h2⟩:=h1
      have e1:(vw (List.replicate m (-1)) (List.replicate m dq0) (List.replicate m tk0) (List.replicate m 0)).T i=0:=ZV (hx i hi)
      have e2:(vw (List.replicate m (-1)) (List.replicate m dq0) (List.replicate m tk0) (List.replicate m 0)).B i=0:=ZV (hx i hi)
      have a0:=va (List.replicate m dq0) i
      unfold Zc.lo at h1
      unfold Zc.be at h2
      rw[if_neg (by omega)] at h1 h2
      omega
  have hB0:∀i,i<m→(vw (List.replicate m (-1)) (List.replicate m dq0) (List.replicate m tk0) (List.replicate m 0)).B i=0:=fun i hi=>ZV (show(List.replicate m dq0)[i]? = some dq0 by rw[List.getElem?_replicate,if_pos hi])
  generalize hR:Zbj g.edges need (List.replicate m (-1))=R
  have hRn:R.Nodup:=by rw[← hR];exact ZlG _ _ _
  have hRm:∀z,z∈R↔Rdy g.edges need (List.replicate m (-1)) z:=fun z=>by rw[← hR];exact ZnE cr
  have hRl:R.length≤64:=by rw[← hR];exact Nat.le_trans (Zkt _ _ _) (by omega)
  have hRf:R.length≤ZjN g.edges need:=by
    unfold ZjN
    refine ZhA _ _ hRn fun x hx=>?_
    have:=(hRm x).1 hx
    exact ZgP.2 ⟨this.1.1,this.1.2,by rw[Int.toNat_of_nonneg this.1.1];exact Zc3.2 this.2.2.2⟩
  have loop:∀(k i:Nat) (ds:List Zb),i+k=R.length→PG m (fun x=>x∈R.take i) (List.replicate m (-1)) ds (List.replicate m tk0) (List.replicate m 0)→(∀j,j<m→(vw (List.replicate m (-1)) ds (List.replicate m tk0) (List.replicate m 0)).B j≤(i:Int)) →
      ∃ds',lp (Zc0 (m:Int) R) ((i:Int),ds)=some ds'∧PG m (fun x=>x∈R) (List.replicate m (-1)) ds' (List.replicate m tk0) (List.replicate m 0)∧∀j,j<m→(vw (List.replicate m (-1)) ds' (List.replicate m tk0) (List.replicate m 0)).B j≤(R.length:Int):=by
    intro k
    induction k with
    | zero=>
      intro i ds hi P hB
      have hi:i=R.length:=by omega
      subst hi
      rw[List.take_length] at P
      refine⟨ds,?_,P,hB⟩
      rw[ZaI]
      simp only[Zc0,Zdz,cond_false]
    | succ k ih=>
      intro i ds hi P hB
      have hi':i<R.length:=by omega
      have hx:=List.getElem?_eq_getElem hi'
      generalize hn:R[i]=n at hx
      have hnR:n∈R:=by rw[← hn];exact List.getElem_mem _
      have hr:=(hRm n).1 hnR
      have h0:=hr.1.1
      have hcm:Int.tmod n (m:Int)=((n.toNat % m:Nat):Int):=by
        rw[Int.tmod_eq_emod_of_nonneg h0,Int.natCast_emod,Int.toNat_of_nonneg h0]
      have hlt:n.toNat % m<m:=Nat.mod_lt _ (by omega)
      obtain⟨ds1,e1,e2,e3⟩:=Zw0 (n:=n) P hlt (by omega) (by have:=hB _ hlt;omega) (fun hm'=>by
        obtain⟨j,hj⟩:=List.getElem?_of_mem hm'
        have hjl:=(List.getElem?_eq_some_iff.1 hj).1
        rw[List.length_take] at hjl
        rw[List.getElem?_take,if_pos (by omega)] at hj
        have:=Zqq hRn hj hx
        omega) (fun j hj=>by rw[vO _ j hj];omega)
      have htk:R.take (i+1)=R.take i++[n]:=by rw[List.take_add_one,hx];rfl
      obtain⟨ds',q1,q2,q3⟩:=ih (i+1) ds1 (by omega) ⟨e2.dl,e2.ring,e2.inv.congr fun x=>by rw[htk,List.mem_append,List.mem_singleton],e2.a0⟩ (fun j hj=>by
        rw[e3 j]
        have:=hB j hj
        split
        · rename_i e;subst e;omega
        · omega)
      refine⟨ds',?_,q2,q3⟩
      rw[ZaI]
      simp only[Zc0,Zds hi',cond_true,ZE hx,Option.bind_some,show((m:Int)==0)=false from beq_eq_false_iff_ne.2 (by omega),cond_false,hcm,e1,ZR hi' (show R.length<9223372036854775808 by omega)]
      exact q1
  obtain⟨ds',q1,q2,q3⟩:=loop R.length 0 (List.replicate m dq0) (by omega) ⟨P0.dl,P0.ring,P0.inv.congr fun x=>by rw[List.take_zero];simp,P0.a0⟩ (fun j hj=>by rw[hB0 j hj];exact Int.le_refl _)
  have hbase:∀n,n∈R↔base g.edges need n:=fun n=>by
    rw[hRm]
    constructor
    · intro h;exact⟨h.1,h.2.1,h.2.2.2⟩
    · intro h
      refine⟨h.1,h.2.1,fun hm'=>?_,h.2.2⟩
      have:=(List.mem_replicate.1 hm').2
      have:=h.1.1
      omega
  refine⟨ds',?_,⟨⟨cr,by simp,q2.dl,by simp,by simp,q2.ring,fun t ht=>by rw[(List.mem_replicate.1 ht).2];rfl,fun f hf=>by rw[(List.mem_replicate.1 hf).2];exact Int.le_refl _,fun i t f ht hf=>?_,fun i n t hi hn ht=>?_,q2.inv.congr hbase⟩,fun i hi=>?_⟩⟩
  · unfold Zhj
    rw[Zqn hG.short,ZjV.2 hin]
    simp only[beq_self_eq_true,cond_true,Option.bind_some]
    rw[decide_eq_true (show(0:Int)≤(m:Int) by omega),decide_eq_true (show(m:Int)≤lim by show(m:Int)≤1073741824;omega)]
    simp only[decide_true,Bool.and_true,cond_true,k0,Option.bind_some,Int.toNat_natCast,Znp hc0 cr,hR]
    rw[show(lp (Zc0 (m:Int) R) (0,List.replicate m dq0))=_ from q1]
    rfl
  · rw[Zrh ht,Zrh hf];rfl
  · exact Zrh ht
  · rw[(q2.be hi).1]
    have:=q3 i hi
    omega
section
variable {g:Zk} {m:Nat} {left on fs:List Int} {ds:List Zb} {ts:List Zi}
theorem ZBu (G:GangIn g m left on ds ts fs) {i:Nat}{d:Zb} (hd:ds[i]? = some d):Znj d:=by
  have hi:i<m:=by rw[← G.dl];exact(List.getElem?_eq_some_iff.1 hd).1
  have p:=G.inv.pos i hi
  have qT:(vw on ds ts fs).T i=d.top:=ZV hd
  have qB:(vw on ds ts fs).B i=d.bottom:=ZV hd
  have hbe:(vw on ds ts fs).be i=d.bottom∨(vw on ds ts fs).be i=d.bottom+1:=by
    unfold Zc.be
    split
    · right;rw[qB]
    · left;rw[qB]
  have h0:=p.T0
  have h1:=p.TB
  have h2:=p.B64
  rw[qT] at h0 h1
  exact⟨G.ring d (List.mem_of_getElem? hd),h0,by omega,by rcases hbe with e | e<;>omega,by rcases hbe with e | e<;>omega⟩
theorem ZrZ (G:GangIn g m left on ds ts fs):ZfB ⟨⟨on,left⟩,ds,ts,fs⟩=some true:=by
  have h8:m≤8:=by rw[← G.ol];exact G.crew.o8
  unfold ZfB
  dsimp only
  rw[G.dl,G.tl,G.fl,G.ol]
  simp only[bne_self_eq_false,cond_false]
  rw[ZsM ds (ZcY ⟨⟨on,left⟩,ds,ts,fs⟩) (.inr ()) (fun i d hi hd=>?_) (by simp only[ZcY,Zdz];rfl)]
  · rfl
  · have hi':i<m:=by rw[← G.dl];exact hi
    have ht:=List.getElem?_eq_getElem (show i<ts.length by rw[G.tl];exact hi')
    have hf:=List.getElem?_eq_getElem (show i<fs.length by rw[G.fl];exact hi')
    have ho:=List.getElem?_eq_getElem (show i<on.length by rw[G.ol];exact hi')
    generalize ts[i]'(by rw[G.tl];exact hi')=t at ht
    generalize fs[i]'(by rw[G.fl];exact hi')=f at hf
    generalize on[i]'(by rw[G.ol];exact hi')=n at ho
    have dok:=ZBu G hd
    have h0:=G.f0 f (List.mem_of_getElem? hf)
    have hfm:=(G.inv.pos i hi').F
    rw[show(vw on ds ts fs).F i=f.toNat from ZV hf] at hfm
    have hst:=G.st i t f ht hf
    have hen:=G.en t (List.mem_of_getElem? ht)
    simp only[ZcY,Zds hi,cond_true,ZE hd,ZE ht,ZE hf,ZE ho,Option.bind_some,Zgz dok,show((0:Int) != 0)=false from rfl,cond_false,dok.len,show(((64:Nat):Int) != 64)=false from rfl,hen,decide_eq_false (show ¬f<0 by omega),G.ol,decide_eq_false (show ¬(m:Int)≤f by omega),ZR hi (show ds.length<9223372036854775808 by rw[G.dl];omega)]
    by_cases hn:n = -1
    · rw[show(n != -1)=false by rw[hn];rfl]
      simp only[cond_false]
      rw[hst]
      cases f != 0<;>rfl
    · have hz:=G.bz i n t ho hn ht
      rw[hz] at hst
      have hf0:(f != 0)=false:=hst.symm
      rw[hz,hf0,show(n != -1)=true by simpa using hn]
      rfl
theorem ZmQ (h:ZT g=0) (G:GangIn g m left on ds ts fs):Zer g ⟨⟨on,left⟩,ds,ts,fs⟩=some 0:=by
  unfold Zer
  dsimp only
  rw[ZfU h G.crew,Option.bind_some,beq_self_eq_true,cond_true,ZrZ G]
  rfl
theorem Zu0 {S:Type} (ds:List Zb) (hr:∀d∈ds,d.ring.length=64) (hl:ds.length≤8) (left on fs:List Int) (ts:List Zi):lp (Zc7 ⟨⟨on,left⟩,ds,ts,fs⟩) (0,ds)=some ds:=by
  have key:=Zla (c:=ds.length) (Zc7 ⟨⟨on,left⟩,ds,ts,fs⟩) (fun _=>ds) (fun s=>s) (fun i hi=>by
    have hx:=List.getElem?_eq_getElem hi
    have:ds.set i ds[i]=ds:=List.set_getElem_self hi
    simp only[Zc7,Zds hi,cond_true,ZE hx,Option.bind_some,Zdp (show ds[i].ring.length≤1073741824 by rw[hr _ (List.getElem_mem hi)];omega),ZR hi (show ds.length<9223372036854775808 by omega),Int.toNat_natCast,this]) (by simp only[Zc7,Zdz];rfl)
  exact key
theorem ZpY (hG:Zdg g) (G:GangIn g m left on ds ts fs):ZfL ⟨⟨on,left⟩,ds,ts,fs⟩=some ds:=by
  have h8:m≤8:=by rw[← G.ol];exact G.crew.o8
  have h1:1≤m:=by rw[← G.ol];exact G.crew.o1
  have hw:=hG.wl
  have ll:=G.crew.ll
  have ol:=G.ol
  have tl:=G.tl
  have fl:=G.fl
  have dl:=G.dl
  unfold ZfL
  dsimp only
  rw[Zdp (show on.length≤1073741824 by omega),Option.bind_some,Zdp (show left.length≤1073741824 by omega),Option.bind_some]
  have c1:ZaC ts=some ():=by
    unfold ZaC
    rw[show Nat.blt 0 ts.length=true by rw[tl];simp[Nat.blt];omega,ZeU (by omega)];rfl
  have c2:Zaz ds=some ():=by
    unfold Zaz
    rw[show Nat.blt 0 ds.length=true by rw[dl];simp[Nat.blt];omega,ZeU (by omega)];rfl
  rw[c1,Option.bind_some,Zdp (show fs.length≤1073741824 by omega),Option.bind_some,c2,Option.bind_some,Zu0 (S:=Unit) ds G.ring (by omega)]
  rfl
end
end Go.Proofs.YtgcfmiajkbbmeaaGreat
namespace Go.Proofs.YtgcfmiajkbbmeaaGreat
open Go Go.Proofs.YtgcfmiajkbbmeaaGreatE
open Go.IntKind (u64 i64 u32 i32 u8)
section
variable {g:Zk} {m:Nat} {left on fs:List Int} {ds:List Zb} {ts:List Zi}
theorem ZtA {on' fs':List Int}{ds':List Zb}{ts':List Zi} (G:GangIn g m left on ds ts fs) (G':GangIn g m left on' ds' ts' fs') (hw:∀c,¬Zcy m (vw on' ds' ts' fs') c) (K:Znk m on on' ds ds' ts ts' fs fs'):ZdQ g.edges left on on':=by
  refine⟨by rw[G'.ol,G.ol],fun c n h hn=>K.row c n h hn,fun c n h1 h2=>?_,G'.crew.ok.one,(Zsa G' hw).2⟩
  rcases G'.crew.ok.run n (List.mem_of_getElem? h2) with h | ⟨h3,h4,h5⟩
  · exact .inl h
  · refine .inr ⟨h3,h4,fun hm=>?_,h5⟩
    have hne:n ≠ -1:=by have:=h3.1;omega
    obtain⟨j,hj⟩:=List.getElem?_of_mem hm
    have:=G'.crew.ok.one j c n (K.row j n hj hne) h2 hne
    subst this
    rw[h1] at hj
    exact hne (Option.some.inj hj).symm
theorem ZsS (h:ZT g=0) {picks:List Int} (hp:picks.length≤100000) (G:Zjk g m left on ds ts fs) :
    ∃(n:Nat) (on':List Int) (ds':List Zb) (ts':List Zi) (fs':List Int),Zgt g ⟨⟨on,left⟩,ds,ts,fs⟩ picks=some (⟨⟨on',left⟩,ds',ts',fs'⟩,(n:Int),0)∧Zjk g m left on' ds' ts' fs'∧(∀c,¬Zcy m (vw on' ds' ts' fs') c)∧Znk m on on' ds ds' ts ts' fs fs'∧n≤picks.length+8*m*m*(m+1):=by
  obtain⟨n,l,on',ds',ts',fs',q1,q2,q3,q4,q5⟩:=ZAE h hp G.toGangIn
  refine⟨n,on',ds',ts',fs',?_,⟨q2,fun c hc=>Int.le_trans (q4.be c) (G.bnd c hc)⟩,q3,q4,q5⟩
  unfold Zgt
  rw[ZmQ h G.toGangIn,Option.bind_some,show((0:Int) != 0)=false from rfl,cond_false,ZpY (Z1 h).1 G.toGangIn,Option.bind_some]
  dsimp only
  rw[q1,Option.bind_some]
  rfl
theorem Zpf (h:ZT g=0) (G:Zjk g m left on ds ts fs) (hw:∀c,¬Zcy m (vw on ds ts fs) c) :
    ∃ds' done,Zgp g ⟨⟨on,left⟩,ds,ts,fs⟩=some (⟨⟨ZJ left on,ZF left on⟩,ds',ts,fs⟩,done,0)∧Zjk g m (ZF left on) (ZJ left on) ds' ts fs∧∀z,z∈done↔z∈on∧z ≠ -1∧lf (ZF left on) z=0:=by
  obtain⟨ds',done,q1,q2,q3⟩:=Zts h G hw
  refine⟨ds',done,?_,q2,q3⟩
  unfold Zgp
  rw[ZmQ h G.toGangIn,Option.bind_some,show((0:Int) != 0)=false from rfl,cond_false,ZpY (Z1 h).1 G.toGangIn,Option.bind_some]
  dsimp only
  rw[q1,Option.bind_some]
end
theorem Zs7:∀(l:List Int),(∀x∈l,0≤x∧x≤1000)→0≤l.sum∧l.sum≤1000*(l.length:Int)
  | [],_=>by simp
  | x :: l,h=>by
    have:=Zs7 l fun y hy=>h y (by simp[hy])
    have:=h x (by simp)
    rw[List.sum_cons,List.length_cons]
    omega
theorem ZpD {l:List Int}{i:Nat}{x:Int} (h:l[i]? = some x):(l.take (i+1)).sum=(l.take i).sum+x:=by
  rw[List.take_add_one,h,List.sum_append]
  simp
theorem Zp7 {need:List Int} (hr:∀x∈need,0≤x∧x≤1000) (hl:need.length≤64) (step:Int×Int→Option ((Int×Int)⊕Int)) (h1:∀(i:Nat) (s x:Int),i<need.length→need[i]? = some x→step (s,(i:Int))=some (.inl (w64 (s+x),w64 ((i:Int)+1)))) (h2:∀s,step (s,(need.length:Int))=some (.inr s)) :
    lp step (0,0)=some need.sum:=by
  have key:∀(k i:Nat),i+k=need.length→lp step ((need.take i).sum,(i:Int))=some need.sum:=by
    intro k
    induction k with
    | zero => intro i hi; have : i = need.length := by omega
              subst this;rw[ZaI,h2,List.take_length]
    | succ k ih=>
      intro i hi
      have hi':i<need.length:=by omega
      have hx:=List.getElem?_eq_getElem hi'
      have hsx:=hr _ (List.getElem_mem hi')
      have hs:=Zs7 (need.take i) fun x hx=>hr x (List.mem_of_mem_take hx)
      rw[List.length_take] at hs
      rw[ZaI,h1 i _ _ hi' hx]
      dsimp only
      rw[Zdo (by omega) (by omega),ZR hi' (by omega),← ZpD hx]
      exact ih (i+1) (by omega)
  exact key need.length 0 (by omega)
structure Zzi (g:Zk) (need:List Int) (m:Nat) (t:List (List Int)):Prop where
  done:∃left on,Sched g.edges need m t left on∧∀n,isN left n→lf left n=0
end Go.Proofs.YtgcfmiajkbbmeaaGreat
namespace Go.Proofs.YtgcfmiajkbbmeaaGreat
open Go Go.Proofs.YtgcfmiajkbbmeaaGreatE
open Go.IntKind (u64 i64 u32 i32 u8)
def ZbF:List Int→List Int→List Int
 | [],_=>[]
 | n :: on,l=>if n = -1 then (match l with | []=>-1 :: ZbF on [] | x :: l'=>x :: ZbF on l') else n :: ZbF on l
theorem ZjZ:∀(on l:List Int),(ZbF on l).length=on.length
 | [],_=>rfl
 | n :: on,l=>by
  unfold ZbF
  split
  ·cases l with
   | nil=>simp[ZjZ on []]
   | cons x l'=>simp[ZjZ on l']
  ·simp[ZjZ on l]
theorem ZgM:∀(on l:List Int) (c:Nat) (n:Int),on[c]? = some n→n ≠ -1→(ZbF on l)[c]? = some n
 | [],_,c,n,h,_=>by simp at h
 | k :: on,l,c,n,h,hn=>by
  unfold ZbF
  cases c with
  | zero=>
   simp only[List.getElem?_cons_zero,Option.some.injEq] at h
   subst h
   rw[if_neg hn]
   rfl
  | succ c=>
   rw[List.getElem?_cons_succ] at h
   split
   ·cases l with
    | nil=>exact ZgM on [] c n h hn
    | cons x l'=>exact ZgM on l' c n h hn
   ·exact ZgM on l c n h hn
theorem Zjy:∀(on l:List Int) (c:Nat) (n:Int),(ZbF on l)[c]? = some n→on[c]? = some n∨(on[c]? = some (-1)∧n∈l)
 | [],_,c,n,h=>by simp[ZbF] at h
 | k :: on,l,c,n,h=>by
  unfold ZbF at h
  split at h
  ·rename_i hk
   subst hk
   cases l with
   | nil=>
    cases c with
    | zero=>exact .inl h
    | succ c=>
     rw[List.getElem?_cons_succ] at h ⊢
     rcases Zjy on [] c n h with h | h
     ·exact .inl h
     ·cases h.2
   | cons x l'=>
    cases c with
    | zero=>
     simp only[List.getElem?_cons_zero,Option.some.injEq] at h
     subst h
     exact .inr ⟨rfl,List.mem_cons_self⟩
    | succ c=>
     rw[List.getElem?_cons_succ] at h ⊢
     rcases Zjy on l' c n h with h | h
     ·exact .inl h
     ·exact .inr ⟨h.1,List.mem_cons_of_mem _ h.2⟩
  ·cases c with
   | zero=>exact .inl h
   | succ c=>
    rw[List.getElem?_cons_succ] at h ⊢
    exact Zjy on l c n h
theorem Zl7:∀(on l:List Int), -1∉l → -1∈ZbF on l→∀x∈l,x∈ZbF on l
 | [],_,_,h=>by simp[ZbF] at h
 | k :: on,l,hl,h=>by
  unfold ZbF at h ⊢
  split
  ·rename_i hk
   rw[if_pos hk] at h
   cases l with
   | nil=>intro x hx;cases hx
   | cons y l'=>
    have hy:y ≠ -1:=fun hy=>hl (by rw[hy];exact List.mem_cons_self)
    have h' : -1∈ZbF on l':=by
     rcases List.mem_cons.1 h with h | h
     ·exact absurd h.symm hy
     ·exact h
    intro x hx
    rcases List.mem_cons.1 hx with rfl | hx
    ·exact List.mem_cons_self
    ·exact List.mem_cons_of_mem _ (Zl7 on l' (fun hm=>hl (List.mem_cons_of_mem _ hm)) h' x hx)
  ·rename_i hk
   rw[if_neg hk] at h
   have h' : -1∈ZbF on l:=by
    rcases List.mem_cons.1 h with h | h
    ·exact absurd h.symm hk
    ·exact h
   intro x hx
   exact List.mem_cons_of_mem _ (Zl7 on l hl h' x hx)
theorem ZiC:∀(on l:List Int),ZlK on→l.Nodup→(∀x∈l,x∉on)→ZlK (ZbF on l)
 | [],_,_,_,_=>fun i j n hi=>by simp[ZbF] at hi
 | k :: on,l,ho,hl,hd=>by
  have ht:=ho.tail
  have cons:∀(y:Int) (l':List Int),ZlK (ZbF on l')→(y ≠ -1→y∉ZbF on l')→ZlK (y :: ZbF on l'):=fun y l' h1 h2=>by
   intro i j n hi hj hn
   cases i with
   | zero=>
    simp only[List.getElem?_cons_zero,Option.some.injEq] at hi
    subst hi
    cases j with
    | zero=>rfl
    | succ j=>rw[List.getElem?_cons_succ] at hj;exact absurd (List.mem_of_getElem? hj) (h2 hn)
   | succ i=>
    rw[List.getElem?_cons_succ] at hi
    cases j with
    | zero=>
     simp only[List.getElem?_cons_zero,Option.some.injEq] at hj
     subst hj
     exact absurd (List.mem_of_getElem? hi) (h2 hn)
    | succ j=>rw[List.getElem?_cons_succ] at hj;exact congrArg Nat.succ (h1 i j n hi hj hn)
  have mem:∀(l':List Int) (n:Int),n∈ZbF on l'→n∈on∨n∈l':=fun l' n hn=>by
   obtain⟨c,hc⟩:=List.getElem?_of_mem hn
   rcases Zjy on l' c n hc with h | h
   ·exact .inl (List.mem_of_getElem? h)
   ·exact .inr h.2
  unfold ZbF
  split
  ·cases l with
   | nil=>exact cons _ _ (ZiC on [] ht.1 .nil (fun x hx=>by cases hx)) fun h=>absurd rfl h
   | cons y l'=>
    have hy:=List.nodup_cons.1 hl
    refine cons _ _ (ZiC on l' ht.1 hy.2 fun x hx hm=>hd x (List.mem_cons_of_mem _ hx) (List.mem_cons_of_mem _ hm)) fun hn hm=>?_
    rcases mem l' y hm with h | h
    ·exact hd y List.mem_cons_self (List.mem_cons_of_mem _ h)
    ·exact hy.1 h
  ·refine cons _ _ (ZiC on l ht.1 hl fun x hx hm=>hd x hx (List.mem_cons_of_mem _ hm)) fun hn hm=>?_
   rcases mem l k hm with h | h
   ·exact ht.2 hn h
   ·exact hd k h List.mem_cons_self
theorem Ztr {g:Zk}{left on:List Int} (c:Zcf g left on):ZdQ g.edges left on (ZbF on (Zbj g.edges left on)):=by
 have hr:∀x∈left,0≤x:=fun x hx=>(c.ok.rng x hx).1
 have hm:=fun n=>ZkI (E:=g.edges) (on:=on) hr (n:=n)
 have hn1 : -1∉Zbj g.edges left on:=fun h=>by have:=((hm _).1 h).1.1;omega
 refine⟨ZjZ _ _,fun k n h1 h2=>ZgM _ _ k n h1 h2,fun k n h1 h2=>?_,ZiC _ _ c.ok.one (ZlG _ _ _) fun x hx=>((hm x).1 hx).2.2.1,fun h n hn=>?_⟩
 ·rcases Zjy _ _ k n h2 with h | h
  ·rw[h1] at h
   exact .inl (Option.some.inj h).symm
  ·exact .inr ((hm n).1 h.2)
 ·have hno:n∉on:=fun hon=>by
   have hne:n ≠ -1:=fun h0=>by have:=hn.1.1;omega
   obtain⟨k,hk⟩:=List.getElem?_of_mem hon
   exact hn.2.2.1 (List.mem_of_getElem? (ZgM _ _ k n hk hne))
  exact hn.2.2.1 (Zl7 _ _ hn1 h n ((hm n).2 ⟨hn.1,hn.2.1,hno,hn.2.2.2⟩))
theorem ZuZ {g:Zk} (h:ZT g=0) {left on:List Int} (c:Zcf g left on):ZeW g (ZK.mk on left)=some (Zbj g.edges left on):=by
 have:=Znp h c
 unfold ZcA at this
 rw[ZfU h c,Option.bind_some] at this
 simpa using this
theorem Zo4 (m:List Int):∀(s pre l:List Int),pre.length+s.length=m.length→m.length≤8→l.length≤64→lp (ZcZ m) (l,(pre.length:Int),pre++s)=some (pre++ZbF s l)
 | [],pre,l,hm,h8,hl=>by
  rw[ZaI]
  have e:(pre.length:Int)=(m.length:Int):=by simp at hm;omega
  simp only[ZcZ,e,Zdz,cond_false]
  simp[ZbF]
 | n :: s,pre,l,hm,h8,hl=>by
  have hlt:pre.length<m.length:=by simp at hm;omega
  have hget:ZI (pre++n :: s) (pre.length:Int)=some n:=ZE (by simp)
  have hw:=ZR hlt (show m.length<9223372036854775808 by omega)
  have hnext:∀(y:Int) (l':List Int),l'.length≤64→lp (ZcZ m) (l',((pre.length+1:Nat):Int),pre++y :: s)=some (pre++y :: ZbF s l'):=fun y l' hl'=>by
   have:=Zo4 m s (pre++[y]) l' (by simp at hm ⊢;omega) h8 hl'
   simpa using this
  have hset:∀y:Int,(pre++n :: s).set pre.length y=pre++y :: s:=fun y=>by simp
  rw[ZaI]
  simp only[ZcZ,Zds hlt,cond_true,hget,Option.bind_some,hw]
  unfold ZbF
  cases hn:n == -1 with
  | false=>
   have hne:n ≠ -1:=fun h=>by rw[h] at hn;cases hn
   rw[if_neg hne]
   simp only[cond_false]
   exact hnext n l hl
  | true=>
   have he:n = -1:=eq_of_beq hn
   rw[if_pos he]
   simp only[cond_true]
   cases l with
   | nil=>
    simp only[List.length_nil,Int.natCast_zero,Int.lt_irrefl,decide_false,cond_false]
    rw[he]
    exact hnext (-1) [] (by simp)
   | cons x l'=>
    have h0:decide ((0:Int)<(((x :: l').length:Nat):Int))=true:=decide_eq_true (by simp)
    have hx:ZI (x :: l') 0=some x:=rfl
    have hb:Nat.ble 1 (x :: l').length=true:=Nat.ble_eq_true_of_le (by simp)
    simp only[h0,cond_true,hx,Option.bind_some,hb,List.drop_succ_cons,List.drop_zero,Int.toNat_natCast,hset]
    exact hnext x l' (by simp at hl;omega)
theorem ZsU {g:Zk} (h:ZT g=0) {left on:List Int} (c:Zcf g left on):Zg8 g ⟨on,left⟩=some (⟨ZbF on (Zbj g.edges left on),left⟩,0):=by
 obtain⟨hG,hA⟩:=Z1 h
 have hl:=Zkt g.edges left on
 have ll:=c.ll
 have hwl:=hG.wl
 have o8:=c.o8
 unfold Zg8
 rw[ZfU h c,Option.bind_some,show((0:Int) != 0)=false from rfl,cond_false]
 have ho:Zfr ⟨on,left⟩=some ():=by
  unfold Zfr Zn
  simp only[ZeU (show on.length≤1073741824 by omega),ZeU (show left.length≤1073741824 by omega)]
  rfl
 rw[ho,Option.bind_some]
 unfold Zjt
 rw[ZuZ h c,Option.bind_some]
 have:=Zo4 on on [] (Zbj g.edges left on) (by simp) o8 (by omega)
 simp only[List.length_nil,Int.natCast_zero,List.nil_append] at this
 rw[this]
 rfl
def ZtE (a:Zk):Bool:=decide ((a.work.length:Int)≤70)&&decide ((a.edges.length:Int)≤300)
theorem ZAm (a:Zk):Zha a=some (ZtE a):=by
 unfold Zha ZtE
 cases decide ((a.work.length:Int)≤70)<;>cases decide ((a.edges.length:Int)≤300)<;>rfl
theorem Zrk {a:Zk} (h:ZtE a=true):a.work.length≤70∧a.edges.length≤300∧ZgV a:=by
 unfold ZtE at h
 simp only[Bool.and_eq_true,decide_eq_true_eq] at h
 refine⟨by omega,by omega,⟨by omega,by omega⟩⟩
theorem ZvA {a:Zk} (h:ZtE a=true):Zcs a=some ():=by
 obtain⟨h1,h2,_⟩:=Zrk h
 unfold Zcs
 rw[ZeU (by omega),ZeU (by omega)]
 rfl
theorem Zvt {xs:List D} (h:Zee [.sl false [.int .i64],.sl true [.int .i64,.int .i64]] xs):∃d:Zk,D.agg xs=ZDA d∧ZAG d.work:=by
 obtain⟨_,_,rfl,h1,_,_,rfl,h2,rfl⟩:=h
 obtain⟨w,rfl,w1⟩:=ZtS h1
 obtain⟨l,rfl,b,p⟩:=Zym (f:=Zs) (p:=ZzX) h2 fun cs hc=>by
  obtain⟨_,_,rfl,⟨a,rfl,wa⟩,_,_,rfl,⟨b,rfl,wb⟩,rfl⟩:=hc
  exact⟨⟨a,b⟩,rfl,Zrl wa,Zrl wb⟩
 exact⟨⟨w,l⟩,rfl,w1⟩
theorem Zof {xs:List D} (h:Zee [.sl false [.int .i64]] xs):∃l,Ziz false xs=Zct true l∧ZAG l:=by
 obtain⟨_,_,rfl,h1,rfl⟩:=h
 exact ZtS h1
structure Zzx (g:Zk) (need:List Int) (m:Nat) (t:List (List Int)):Prop where
 busy:(ZdN t:Int)=need.sum
 rows:∀row∈t,row.length=m
 short:t.length≤ZdN t
 one:m=1→ZdN t=t.length
theorem Zzi.all {g:Zk}{need:List Int}{c:Int}{t:List (List Int)} (hin:ZiT g need c) (R:Zzi g need c.toNat t):Zzx g need c.toNat t:=by
 obtain⟨left,on,S,hz⟩:=R.done
 obtain⟨hG,hA⟩:=Z1 hin.ck
 have hE:ZeV g.edges need.length:=by rw[hin.nl];exact Zek hG
 have hr:∀x∈need,1≤x∧x≤1000:=hin.rng
 have hs:=S.sum hr hE
 have h0:left.sum=0:=Zx4 fun x hx=>by
  obtain⟨i,hi⟩:=List.getElem?_of_mem hx
  have hil:=(List.getElem?_eq_some_iff.1 hi).1
  have:=hz (i:Int) ⟨by omega,by simpa using hil⟩
  rwa [ZxS hi] at this
 have c1:=hin.c1
 refine⟨by omega,S.len.2.2,S.short hG hA hin.nl hr (by omega),fun hm=>?_⟩
 rw[hm] at S
 exact ZwL hG hA hin.nl hr S
def Zcb (need:List Int) (m:Nat) (t:List (List Int)):List Int×List Int:=t.foldl (fun s row=>(ZF s.1 row,ZJ s.1 row)) (need,List.replicate m (-1))
theorem Zkv (need:List Int) (m:Nat) (t:List (List Int)) (row:List Int):Zcb need m (t++[row])=(ZF (Zcb need m t).1 row,ZJ (Zcb need m t).1 row):=by
 unfold Zcb
 rw[List.foldl_append]
 rfl
theorem Sched.fold {E:List Zt}{need:List Int}{m:Nat}{t:List (List Int)}{left on:List Int} (s:Sched E need m t left on):Zcb need m t=(left,on):=by
 induction s with
 | nil=>rfl
 | snoc _ _ _ ih=>rw[Zkv,ih]
theorem Zd4 {α:Type}{l:List α}{i:Nat}{x:α} (h:l[i]? = some x):l.take (i+1)=l.take i++[x]:=by rw[List.take_add_one,h];rfl
theorem Sched.pre {E:List Zt}{need:List Int}{m:Nat}{t:List (List Int)}{left on:List Int} (s:Sched E need m t left on):∀(k:Nat) (row:List Int),t[k]? = some row →
  Sched E need m (t.take k) (Zcb need m (t.take k)).1 (Zcb need m (t.take k)).2∧(∃n,isN (Zcb need m (t.take k)).1 n∧0<lf (Zcb need m (t.take k)).1 n)∧ZdQ E (Zcb need m (t.take k)).1 (Zcb need m (t.take k)).2 row:=by
 induction s with
 | nil=>intro k row h;cases h
 | @snoc t left on r s hp f ih=>
  intro k row h
  by_cases hk:k<t.length
  ·rw[List.getElem?_append_left hk] at h
   rw[List.take_append_of_le_length (by omega)]
   exact ih k row h
  ·have hk2:k=t.length:=by
    have:=(List.getElem?_eq_some_iff.1 h).1
    rw[List.length_append,List.length_singleton] at this
    omega
   subst hk2
   rw[List.getElem?_append_right (Nat.le_refl _),Nat.sub_self] at h
   cases h
   rw[List.take_append_of_le_length (Nat.le_refl _),List.take_length,s.fold]
   exact⟨s,hp,f⟩
def atL (l:List ZD) (n:Int):ZD:=match l[n.toNat]? with | some x=>x | none=>⟨0,0⟩
theorem Zuc {l:List ZD}{n:Int} (h0:0≤n) (h:n.toNat<l.length):ZI l n=some (atL l n):=by
 have:=List.getElem?_eq_getElem h
 rw[Zrn h0 this]
 unfold atL
 rw[this]
theorem Zuu {l:List ZD}{n k:Int}{v:ZD} (hn:0≤n∧n.toNat<l.length) (hk:0≤k):atL (l.set n.toNat v) k=if k=n then v else atL l k:=by
 unfold atL
 rw[List.getElem?_set]
 by_cases h:n.toNat=k.toNat
 ·rw[if_pos h,if_pos hn.2,if_pos (by omega)]
 ·rw[if_neg h,if_neg (by omega)]
structure Zl0 (need:List Int) (m:Nat) (t:List (List Int)) (k:Nat) (left on ran:List Int) (last:List ZD) (ends:List Int):Prop where
 l1:ran.length=need.length
 l2:last.length=need.length
 l3:ends.length=need.length
 le:∀n,isN need n→lf left n≤lf need n
 ran:∀n,isN need n→lf ran n=lf need n-lf left n
 fin:∀n,isN need n→lf left n=0→∃e:Nat,lf ends n=(e:Int)∧1≤e∧e≤k∧lf (Zcb need m (t.take (e-1))).1 n≠0∧lf (Zcb need m (t.take e)).1 n=0
 not:∀n,isN need n→lf left n≠0→lf ends n = -1
 run:∀n,isN need n→0<lf left n→lf left n<lf need n→∃c:Nat,on[c]? = some n∧atL last n=⟨(k:Int)-1,(c:Int)⟩
section
variable {g:Zk} {need:List Int} {m k:Nat} {t:List (List Int)} {left on ran ends row:List Int} {last:List ZD}
theorem Zox (hG:Zdg g) (hn:need.length=g.work.length) (I:Zl0 need m t k left on ran last ends) (n:Int):Zbn ends g n (k:Int)=some (Zi3 g.edges left n):=by
 unfold Zbn
 rw[ZmP _ _ (fun e=>(e.dst==n) && !(lf left e.src==0)) (fun e he=>by
  have hs:=hG.src e he
  have hin:isN need e.src:=⟨hs.1,by rw[hn];exact hs.2⟩
  have hd:ZdL ends e.src (k:Int)=some (lf left e.src==0):=by
   unfold ZdL
   rw[Zgf (left:=ends) ⟨hin.1,by rw[I.l3];exact hin.2⟩,Option.bind_some]
   by_cases h0:lf left e.src=0
   ·obtain⟨x,h1,h2,h3,_⟩:=I.fin _ hin h0
    rw[h1,h0,decide_eq_true (show(0:Int)≤(x:Int) by omega),decide_eq_true (show(x:Int)≤(k:Int) by omega)];rfl
   ·rw[I.not _ hin h0,show(lf left e.src==0)=false from beq_eq_false_iff_ne.2 h0];rfl
  unfold ZaQ
  rw[hd]
  cases e.dst==n<;>cases lf left e.src==0<;>rfl) hG.short.e,Option.bind_some]
 unfold Zi3
 cases (g.edges.any fun e=>(e.dst==n) && !(lf left e.src==0))<;>rfl
theorem ZjU (hG:Zdg g) (hn:need.length=g.work.length) (I:Zl0 need m t k left on ran last ends) (cr:ZeD g.edges left on) (hl:left.length=need.length) (F:ZdQ g.edges left on row) (hk:k≤4096) (h8:row.length≤8) {c:Nat}{n:Int} (hc:row[c]? = some n) (hne:n ≠ -1) :
  Za7 need ran last ends g row (k:Int) (c:Int)=some 0:=by
 have hw:=hG.wl
 have hcl:=(List.getElem?_eq_some_iff.1 hc).1
 rcases F.row_in cr n (List.mem_of_getElem? hc) with h | ⟨h1,h2,h3⟩
 ·exact absurd h hne
 have hin:isN need n:=⟨h1.1,by rw[← hl];exact h1.2⟩
 have:=hin.1
 have:=hin.2
 have hran:=I.ran n hin
 have hm:(List.take c row).any (fun x=>n==x)=false:=List.any_eq_false.2 fun x hx hq=>by
  have:n=x:=by simpa using hq
  subst this
  obtain⟨j,hj⟩:=List.getElem?_of_mem hx
  have hjl:=(List.getElem?_eq_some_iff.1 hj).1
  rw[List.length_take] at hjl
  rw[List.getElem?_take,if_pos (by omega)] at hj
  have:=F.one j c n hj hc hne
  omega
 unfold Za7
 rw[ZE hc,Option.bind_some,decide_eq_false (show ¬n < -1 by omega),cond_false,decide_eq_false (show ¬(need.length:Int)≤n by omega),cond_false,decide_eq_true (show(0:Int)≤(c:Int) by omega),cond_true,Int.toNat_natCast,Nat.ble_eq_true_of_le (show c≤row.length by omega),cond_true,
  ZgX _ n (by rw[List.length_take];omega),hm,Option.bind_some,cond_false,Zgf (left:=ran) ⟨hin.1,by rw[I.l1];exact hin.2⟩,Option.bind_some,Zgf (left:=need) hin,Option.bind_some,decide_eq_false (show ¬lf need n≤lf ran n by omega),cond_false]
 by_cases hr:0<lf ran n
 ·obtain⟨c',q1,q2⟩:=I.run n hin h2 (by omega)
  have q3:=F.keep c' n q1 hne
  have q4:=F.one c' c n q3 hc hne
  subst q4
  rw[decide_eq_true hr,cond_true,Zuc hin.1 (by rw[I.l2];exact hin.2),Option.bind_some,q2,Zdo (by omega) (by omega),beq_self_eq_true,beq_self_eq_true,show(lf ran n==0)=false from beq_eq_false_iff_ne.2 (by omega)]
  rfl
 ·have h0:0≤lf ran n:=by
   rw[hran]
   have:=I.le n hin
   omega
  rw[decide_eq_false hr,cond_false,show(lf ran n==0)=true from beq_iff_eq.2 (by omega),cond_true,Zox hG hn I n,Zc3.2 h3]
  rfl
structure RI (need:List Int) (m:Nat) (t:List (List Int)) (k i:Nat) (left row:List Int) (last0:List ZD) (ran:List Int) (last:List ZD) (ends:List Int):Prop where
 l1:ran.length=need.length
 l2:last.length=need.length
 l3:ends.length=need.length
 ran:∀n,isN need n→lf ran n=lf need n-lf (ZF left (row.take i)) n
 fin:∀n,isN need n→lf (ZF left (row.take i)) n=0→∃e:Nat,lf ends n=(e:Int)∧1≤e∧e≤k+1∧lf (Zcb need m (t.take (e-1))).1 n≠0∧(e≤k→lf (Zcb need m (t.take e)).1 n=0)
 not:∀n,isN need n→lf (ZF left (row.take i)) n≠0→lf ends n = -1
 here:∀n,isN need n→n∈row.take i→∃c:Nat,row[c]? = some n∧atL last n=⟨(k:Int),(c:Int)⟩
 away:∀n,isN need n→n∉row.take i→atL last n=atL last0 n
theorem Zi0 {i:Nat}{n:Int} (hx:row[i]? = some n):ZF left (row.take (i+1))=dec (ZF left (row.take i)) n:=by
 rw[Zd4 hx]
 unfold ZF
 rw[List.foldl_append]
 rfl
theorem Zvr {i:Nat}{n:Int}{last0:List ZD} (hl:left.length=need.length) (hst:(Zcb need m (t.take k)).1=left) (hx:row[i]? = some n) (hnr:∀x∈row,x = -1∨(isN left x∧0<lf left x)) (ho:ZlK row) (hv:∀x∈need,1≤x∧x≤1000) (hle:∀n,isN need n→lf left n≤lf need n) (hk:k≤4096)
  (I:RI need m t k i left row last0 ran last ends) (hne:n ≠ -1):∃ran' ends',ZbL n (k:Int) (i:Int) need ran last ends=some (ran',ends')∧RI need m t k (i+1) left row last0 ran' (last.set n.toNat ⟨(k:Int),(i:Int)⟩) ends':=by
 rcases hnr n (List.mem_of_getElem? hx) with h | ⟨h1,h2⟩
 ·exact absurd h hne
 have hin:isN need n:=⟨h1.1,by rw[← hl];exact h1.2⟩
 have hnt:n∉row.take i:=fun hm=>by
  obtain⟨j,hj⟩:=List.getElem?_of_mem hm
  have hjl:=(List.getElem?_eq_some_iff.1 hj).1
  rw[List.length_take] at hjl
  rw[List.getElem?_take,if_pos (by omega)] at hj
  have:=ho j i n hj hx hne
  omega
 have htk:lf (ZF left (row.take i)) n=lf left n:=by
  have:=ZjB (row.take i) left (ZpQ ho i) (fun x hx=>(hnr x (List.mem_of_mem_take hx)).imp id (·.1)) n h1.1
  rwa [if_neg hnt] at this
 have hlen:(ZF left (row.take i)).length=need.length:=by rw[Zcp,hl]
 have hnew:∀z,0≤z→lf (ZF left (row.take (i+1))) z=if z=n then lf left n-1 else lf (ZF left (row.take i)) z:=fun z hz=>by
  rw[Zi0 hx,Zs6 hne,ZkQ ⟨hin.1,by rw[hlen];exact hin.2⟩ hz,htk]
 have hr:=I.ran n hin
 rw[htk] at hr
 have hle':=hle n hin
 have hvn:=hv _ (List.mem_of_getElem? (Zhz hin.1 hin.2))
 have hr1:n.toNat<ran.length:=by rw[I.l1];exact hin.2
 have he1:n.toNat<ends.length:=by rw[I.l3];exact hin.2
 have hl1:n.toNat<last.length:=by rw[I.l2];exact hin.2
 have hw1:w64 (lf ran n+1)=lf ran n+1:=Zdo (by omega) (by omega)
 have hg:ZI (List.set ran n.toNat (lf ran n+1)) n=some (lf ran n+1):=by
  rw[Zgf (left:=List.set ran n.toNat (lf ran n+1)) ⟨hin.1,by rw[List.length_set];exact hr1⟩,ZkQ ⟨hin.1,hr1⟩ hin.1,if_pos rfl]
 have hran:∀z,isN need z→lf (List.set ran n.toNat (lf ran n+1)) z=lf need z-lf (ZF left (row.take (i+1))) z:=fun z hz=>by
  rw[ZkQ ⟨hin.1,hr1⟩ hz.1,hnew z hz.1]
  by_cases e:z=n
  ·subst e;rw[if_pos rfl,if_pos rfl];omega
  ·rw[if_neg e,if_neg e];exact I.ran z hz
 have hmem:∀z,z∈row.take (i+1)↔z∈row.take i∨z=n:=fun z=>by rw[Zd4 hx,List.mem_append,List.mem_singleton]
 have here:∀z,isN need z→z∈row.take (i+1)→∃c:Nat,row[c]? = some z∧atL (last.set n.toNat ⟨(k:Int),(i:Int)⟩) z=⟨(k:Int),(c:Int)⟩:=fun z hz hzm=>by
  rw[Zuu ⟨hin.1,hl1⟩ hz.1]
  by_cases e:z=n
  ·subst e;exact⟨i,hx,if_pos rfl⟩
  ·rw[if_neg e]
   rcases(hmem z).1 hzm with h | h
   ·exact I.here z hz h
   ·exact absurd h e
 have away:∀z,isN need z→z∉row.take (i+1)→atL (last.set n.toNat ⟨(k:Int),(i:Int)⟩) z=atL last0 z:=fun z hz hzm=>by
  have h3:z∉row.take i:=fun h=>hzm ((hmem z).2 (.inl h))
  have h4:z≠n:=fun h=>hzm ((hmem z).2 (.inr h))
  rw[Zuu ⟨hin.1,hl1⟩ hz.1,if_neg h4]
  exact I.away z hz h3
 unfold ZbL
 rw[Zgf (left:=ran) ⟨hin.1,hr1⟩,Option.bind_some,Zuc hin.1 hl1,Option.bind_some,hw1,hg,Option.bind_some,Zgf (left:=need) hin,Option.bind_some]
 by_cases h0:lf ran n+1=lf need n
 ·rw[show(lf ran n+1==lf need n)=true from beq_iff_eq.2 h0,cond_true,Zgf (left:=ends) ⟨hin.1,he1⟩,Option.bind_some,Zdo (by omega) (by omega)]
  refine⟨_,_,rfl,by rw[List.length_set];exact I.l1,by rw[List.length_set];exact I.l2,by rw[List.length_set];exact I.l3,hran,fun z hz hz0=>?_,fun z hz hz0=>?_,here,away⟩
  ·rw[hnew z hz.1] at hz0
   rw[ZkQ ⟨hin.1,he1⟩ hz.1]
   by_cases e:z=n
   ·subst e
    rw[if_pos rfl]
    exact⟨k+1,by omega,by omega,by omega,by rw[Nat.add_sub_cancel,hst];omega,fun h=>by omega⟩
   ·rw[if_neg e] at hz0 ⊢
    obtain⟨x,e1,e2,e3,e4⟩:=I.fin z hz hz0
    exact⟨x,e1,e2,by omega,e4⟩
  ·rw[hnew z hz.1] at hz0
   rw[ZkQ ⟨hin.1,he1⟩ hz.1]
   by_cases e:z=n
   ·subst e
    rw[if_pos rfl] at hz0
    omega
   ·rw[if_neg e] at hz0 ⊢
    exact I.not z hz hz0
 ·rw[show(lf ran n+1==lf need n)=false from beq_eq_false_iff_ne.2 h0,cond_false]
  refine⟨_,_,rfl,by rw[List.length_set];exact I.l1,by rw[List.length_set];exact I.l2,I.l3,hran,fun z hz hz0=>?_,fun z hz hz0=>?_,here,away⟩
  ·rw[hnew z hz.1] at hz0
   by_cases e:z=n
   ·subst e
    rw[if_pos rfl] at hz0
    omega
   ·rw[if_neg e] at hz0
    obtain⟨x,e1,e2,e3,e4⟩:=I.fin z hz hz0
    exact⟨x,e1,e2,by omega,e4⟩
  ·rw[hnew z hz.1] at hz0
   by_cases e:z=n
   ·subst e
    exact I.not z hz (by rw[htk];omega)
   ·rw[if_neg e] at hz0
    exact I.not z hz hz0
theorem Zrr {R:Type} (step:Int×List Int×List ZD×List Int→Option ((Int×List Int×List ZD×List Int)⊕R)) (fin:List Int→List ZD→List Int→R)
  (h1:∀(i:Nat) (n:Int) r l e,i<row.length→row[i]? = some n→step ((i:Int),r,l,e)=(bif n != -1 then (ZbL n (k:Int) (i:Int) need r l e).bind fun x=>some (.inl (((i+1:Nat):Int),x.1,List.set l n.toNat ⟨(k:Int),(i:Int)⟩,x.2)) else some (.inl (((i+1:Nat):Int),r,l,e))))
  (h2:∀r l e,step ((row.length:Int),r,l,e)=some (.inr (fin r l e)))
  (hst:(Zcb need m (t.take k)).1=left) (hrow:t[k]? = some row) (I:Zl0 need m t k left on ran last ends) (cr:ZeD g.edges left on) (hl:left.length=need.length) (F:ZdQ g.edges left on row) (hv:∀x∈need,1≤x∧x≤1000) (hk:k≤4096) :
  ∃ran' last' ends',lp step (0,ran,last,ends)=some (fin ran' last' ends')∧Zl0 need m t (k+1) (ZF left row) (ZJ left row) ran' last' ends':=by
 have hnr:∀x∈row,x = -1∨(isN left x∧0<lf left x):=fun x hx=>(F.row_in cr x hx).imp id fun h=>⟨h.1,h.2.1⟩
 have hle0:=I.le
 have loop:∀(j i:Nat) r l e,i+j=row.length→RI need m t k i left row last r l e→∃r' l' e',lp step ((i:Int),r,l,e)=some (fin r' l' e')∧RI need m t k row.length left row last r' l' e':=by
  intro j
  induction j with
  | zero=>
   intro i r l e hi I
   have:i=row.length:=by omega
   subst this
   exact⟨r,l,e,by rw[ZaI,h2],I⟩
  | succ j ih=>
   intro i r l e hi I
   have hi':i<row.length:=by omega
   have hx:=List.getElem?_eq_getElem hi'
   generalize row[i]=n at hx
   rw[ZaI,h1 i n r l e hi' hx]
   by_cases hne:n = -1
   ·rw[show(n != -1)=false by rw[hne];rfl,cond_false]
    refine ih (i+1) r l e (by omega) ?_
    have e1:ZF left (row.take (i+1))=ZF left (row.take i):=by rw[Zi0 hx,hne];rfl
    have e2:∀z,isN need z→(z∈row.take (i+1)↔z∈row.take i):=fun z hz=>by
     rw[Zd4 hx,List.mem_append,List.mem_singleton]
     constructor
     ·rintro (h | h)
      ·exact h
      ·have:=hz.1;omega
     ·exact .inl
    exact⟨I.l1,I.l2,I.l3,by rw[e1];exact I.ran,by rw[e1];exact I.fin,by rw[e1];exact I.not,fun z hz hzm=>I.here z hz ((e2 z hz).1 hzm),fun z hz hzm=>I.away z hz fun h=>hzm ((e2 z hz).2 h)⟩
   ·obtain⟨r',e',q1,q2⟩:=Zvr hl hst hx hnr F.one hv hle0 hk I hne
    rw[show(n != -1)=true by simpa using hne,cond_true,q1,Option.bind_some]
    exact ih (i+1) r' _ e' (by omega) q2
 obtain⟨r',l',e',q1,q2⟩:=loop row.length 0 ran last ends (by omega) ⟨I.l1,I.l2,I.l3,by rw[List.take_zero];exact I.ran,by
  rw[List.take_zero]
  intro n hn h0
  obtain⟨x,e1,e2,e3,e4,e5⟩:=I.fin n hn h0
  exact⟨x,e1,e2,by omega,e4,fun _=>e5⟩,by rw[List.take_zero];exact I.not,fun n hn h=>(by rw[List.take_zero] at h;cases h),fun n hn h=>rfl⟩
 refine⟨r',l',e',q1,?_⟩
 have q3:=q2.ran
 have q4:∀n,isN need n→lf (ZF left (row.take row.length)) n=0→∃e:Nat,lf e' n=(e:Int)∧1≤e∧e≤k+1∧lf (Zcb need m (t.take (e-1))).1 n≠0∧lf (Zcb need m (t.take e)).1 n=0:=fun n hn h0=>by
  obtain⟨x,e1,e2,e3,e4,e5⟩:=q2.fin n hn h0
  refine⟨x,e1,e2,e3,e4,?_⟩
  by_cases hx:x≤k
  ·exact e5 hx
  ·have:x=k+1:=by omega
   subst this
   rw[Zd4 hrow,Zkv,hst]
   rw[List.take_length] at h0
   exact h0
 have q5:=q2.not
 have q6:=q2.here
 rw[List.take_length] at q3 q4 q5 q6
 refine⟨q2.l1,q2.l2,q2.l3,fun n hn=>?_,q3,q4,q5,fun n hn h0 h3=>?_⟩
 ·have:=F.tick_le cr hn.1
  have:=I.le n hn
  omega
 ·by_cases hm:n∈row
  ·obtain⟨c,c1,c2⟩:=q6 n hn hm
   refine⟨c,?_,by rw[c2];congr 1;omega⟩
   rw[Zco,List.getElem?_map,c1]
   show some (Zfk left row n)=some n
   unfold Zfk
   rw[if_neg (by have:=hn.1;omega),if_neg (by omega)]
  ·have hl0:=F.tick_lf cr hn.1
   rw[if_neg hm] at hl0
   rw[hl0] at h0 h3
   obtain⟨c,c1,_⟩:=I.run n hn h0 h3
   exact absurd (List.mem_of_getElem? (F.keep c n c1 (by have:=hn.1;omega))) hm
end
end Go.Proofs.YtgcfmiajkbbmeaaGreat
namespace Go.Proofs.YtgcfmiajkbbmeaaGreat
open Go Go.Proofs.YtgcfmiajkbbmeaaGreatE
open Go.IntKind (u64 i64 u32 i32 u8)
def fat (l:List Int) (z:Int):Int:=match l[z.toNat]? with | some x=>x | none=>0
def ZCV (w far:List Int) (e:Zt):List Int:=bif decide (fat far e.dst<fat far e.src+fat w e.dst) then far.set e.dst.toNat (fat far e.src+fat w e.dst) else far
def Zyy (w:List Int) (E:List Zt) (far:List Int):List Int:=E.foldl (ZCV w) far
def rounds (w:List Int) (E:List Zt):Nat→List Int→List Int
 | 0,far=>far
 | k+1,far=>rounds w E k (Zyy w E far)
theorem ZrO (l:List (List Int)) (f:List Int→Option Bool) (p:List Int→Bool) (hf:∀x∈l,f x=some (p x)) (hl:l.length<9223372036854775808):ZG l f=some (l.any p):=by
  unfold ZG Zal
  refine Zh3 l p _ (fun i x hi hx=>?_) ?_
  · simp only[Zac,Zds hi,ZE hx,Option.bind_some,hf x (List.mem_of_getElem? hx),ZR hi hl,cond_true]
    cases p x<;>rfl
  · simp only[Zac,Zdz];rfl
theorem Zwu {n:Nat}{v z:Int} (h0:0≤z) (h:z.toNat<n):lf (List.replicate n v) z=v:=by
  unfold lf
  rw[List.getElem?_replicate,if_pos h]
theorem ZsX {need:List Int}{m:Nat}{t:List (List Int)} (hv:∀x∈need,1≤x∧x≤1000):Zl0 need m t 0 need (List.replicate m (-1)) (List.replicate need.length 0) (List.replicate need.length ⟨0,0⟩) (List.replicate need.length (-1)):=by
  refine⟨by simp,by simp,by simp,fun n _=>Int.le_refl _,fun n hn=>?_,fun n hn h0=>?_,fun n hn _=>Zwu hn.1 hn.2,fun n hn _ h=>by omega⟩
  · rw[Zwu hn.1 hn.2];omega
  · have:=hv _ (List.mem_of_getElem? (Zhz hn.1 hn.2))
    omega
theorem Zw2 {g:Zk}{need:List Int}{m:Nat}{t:List (List Int)}{left on:List Int}{St R:Type} (hG:Zdg g) (hn:need.length=g.work.length) (hv:∀x∈need,1≤x∧x≤1000) (S:Sched g.edges need m t left on) (step:St→Option (St⊕R)) (st:Nat→List Int→List ZD→List Int→St) (fin:List Int→List ZD→List Int→R)
    (h1:∀(k:Nat) (ran:List Int) (last:List ZD) (ends row left on:List Int),k<t.length→t[k]? = some row→(Zcb need m (t.take k)).1=left→Zl0 need m t k left on ran last ends→ZeD g.edges left on→left.length=need.length→on.length=m→ZdQ g.edges left on row →
      ∃ran' last' ends',step (st k ran last ends)=some (.inl (st (k+1) ran' last' ends'))∧Zl0 need m t (k+1) (ZF left row) (ZJ left row) ran' last' ends')
    (h2:∀ran last ends,step (st t.length ran last ends)=some (.inr (fin ran last ends))) :
    ∃ran last ends,lp step (st 0 (List.replicate need.length 0) (List.replicate need.length ⟨0,0⟩) (List.replicate need.length (-1)))=some (fin ran last ends)∧Zl0 need m t t.length left on ran last ends:=by
  have hE:ZeV g.edges need.length:=by rw[hn];exact Zek hG
  have loop:∀(j k:Nat) (ran:List Int) (last:List ZD) (ends:List Int),k+j=t.length→Zl0 need m t k (Zcb need m (t.take k)).1 (Zcb need m (t.take k)).2 ran last ends →
      ∃ran' last' ends',lp step (st k ran last ends)=some (fin ran' last' ends')∧Zl0 need m t t.length (Zcb need m t).1 (Zcb need m t).2 ran' last' ends':=by
    intro j
    induction j with
    | zero=>
      intro k ran last ends hk I
      have:k=t.length:=by omega
      subst this
      rw[List.take_length] at I
      exact⟨ran,last,ends,by rw[ZaI,h2],I⟩
    | succ j ih=>
      intro k ran last ends hk I
      have hkt:k<t.length:=by omega
      have hrow:=List.getElem?_eq_getElem hkt
      generalize t[k]=row at hrow
      obtain⟨p1,p2,p3⟩:=S.pre k row hrow
      have cr:=p1.crew hv hE
      obtain⟨r',l',e',q1,q2⟩:=h1 k ran last ends row _ _ hkt hrow rfl I cr p1.len.1 p1.len.2.1 p3
      have hnext:Zcb need m (t.take (k+1))=(ZF (Zcb need m (t.take k)).1 row,ZJ (Zcb need m (t.take k)).1 row):=by rw[Zd4 hrow,Zkv]
      rw[ZaI,q1]
      exact ih (k+1) r' l' e' (by omega) (by rw[hnext];exact q2)
  have:=loop t.length 0 _ _ _ (by omega) (by rw[List.take_zero];exact ZsX hv)
  rwa [S.fold] at this
theorem Zsp {need:List Int}{row:List Int}{R:Type} (step:Int×Int→Option ((Int×Int)⊕R)) (fin:R) (one:Nat→Option Int)
    (h1:∀(i:Nat) (n:Int),i<row.length→row[i]? = some n→n ≠ -1→one i=some 0)
    (h2:∀(i:Nat) (n:Int),i<row.length→row[i]? = some n→step (0,(i:Int))=(bif n == -1 then some (.inl (0,((i+1:Nat):Int))) else (one i).bind fun x=>bif x != 0 then none else some (.inl (x,((i+1:Nat):Int)))))
    (h3:step (0,(row.length:Int))=some (.inr fin)):lp step (0,0)=some fin:=by
  have key:∀(k i:Nat),i+k=row.length→lp step (0,(i:Int))=some fin:=by
    intro k
    induction k with
    | zero => intro i hi; have : i = row.length := by omega
              subst this;rw[ZaI,h3]
    | succ k ih=>
      intro i hi
      have hi':i<row.length:=by omega
      have hx:=List.getElem?_eq_getElem hi'
      generalize row[i]=n at hx
      rw[ZaI,h2 i n hi' hx]
      by_cases hne:n = -1
      · rw[show(n == -1)=true from beq_iff_eq.2 hne,cond_true];exact ih (i+1) (by omega)
      · rw[show(n == -1)=false from beq_eq_false_iff_ne.2 hne,cond_false,h1 i n hi' hx hne];exact ih (i+1) (by omega)
  exact key row.length 0 (by omega)
section
variable {g:Zk} {need:List Int} {c:Int} {t:List (List Int)} {left on:List Int}
theorem Zzk (hin:ZiT g need c) (S:Sched g.edges need c.toNat t left on) (ht:t.length≤4096):ZG t (fun z0=>ZaO z0 c)=some false:=by
  have c1:=hin.c1
  rw[ZrO t _ (fun row=>((row.length:Int) != c)) (fun row _=>by unfold ZaO;cases ((row.length:Int) != c)<;>rfl) (by omega)]
  congr 1
  refine List.any_eq_false.2 fun row hrow=>?_
  have:=S.len.2.2 row hrow
  have e:(row.length:Int)=c:=by omega
  rw[e];simp
theorem ZwV (hin:ZiT g need c) (S:Sched g.edges need c.toNat t left on) (ht:t.length≤4096) :
    ∃ran last ends,Zec g need c t=some (.inr (0,ran,last,ends))∧Zl0 need c.toNat t t.length left on ran last ends:=by
  obtain⟨hG,hA⟩:=Z1 hin.ck
  have hw:=hG.wl
  have hnl:=hin.nl
  have hc8:=hin.c8
  have hok:Zf8 g need c=true:=by
    have:=ZjV.2 hin
    unfold ZoN at this
    rw[hin.ck] at this
    cases h:Zf8 g need c with
    | true=>rfl
    | false=>rw[h] at this;exact absurd this (by decide)
  obtain⟨ran,last,ends,q1,q2⟩:=Zw2 hG hnl hin.rng S (Zcl g need t) (fun k r l e=>(0,(k:Int),r,l,e)) (fun r l e=>(0,r,l,e)) (fun k ran last ends row left on hk hrow hst I cr hl hol F=>by
    have h8:row.length≤8:=by rw[F.len,hol];omega
    obtain⟨r',l',e',q1,q2⟩:=Zrr (g:=g) (Zdv need (0,(k:Int),ran,last,ends) row) (fun r l e=>(r,l,e)) (fun i n r l e hi hx=>by
      simp only[Zdv,Zds hi,cond_true,ZE hx,Option.bind_some,ZR hi (show row.length<9223372036854775808 by omega)]) (fun r l e=>by simp only[Zdv,Zdz];rfl) hst hrow I cr hl F hin.rng (by omega)
    refine⟨r',l',e',?_,q2⟩
    have ho:=Zsp (need:=need) (row:=row) (Zdy g need (0,(k:Int),ran,last,ends) row) (.inr 0) (fun i=>Za7 need ran last ends g row (k:Int) (i:Int)) (fun i n hi hx hne=>ZjU hG hnl I cr hl F (by omega) h8 hx hne) (fun i n hi hx=>by
      simp only[Zdy,Zds hi,cond_true,ZE hx,Option.bind_some,ZR hi (show row.length<9223372036854775808 by omega)]
      by_cases hne:n = -1
      · rw[show(n == -1)=true from beq_iff_eq.2 hne];rfl
      · rw[show(n == -1)=false from beq_eq_false_iff_ne.2 hne,ZjU hG hnl I cr hl F (by omega) h8 hx hne];rfl) (by simp only[Zdy,Zdz];rfl)
    simp only[Zcl,Zds hk,cond_true,ZE hrow,Option.bind_some,ho,ZiD,q1,ZR hk (show t.length<9223372036854775808 by omega)]) (fun r l e=>by simp only[Zcl,Zdz];rfl)
  refine⟨ran,last,ends,?_,q2⟩
  unfold Zec
  rw[Ziy hG.short,hin.ck,hok,Option.bind_some]
  simp only[beq_self_eq_true,cond_true,show((0:Int) != 0)=false from rfl,cond_false,decide_eq_false (show ¬(4096:Int)<(t.length:Int) by omega),Zzk hin S ht,Option.bind_some,Zq2 need (by omega),Int.toNat_natCast]
  rw[show(lp (Zcl g need t) (0,0,List.replicate need.length 0,List.replicate need.length ⟨0,0⟩,List.replicate need.length (-1)))=_ from q1]
  rfl
theorem ZqH (hin:ZiT g need c) (S:Sched g.edges need c.toNat t left on) (ht:t.length≤4096):ZcL g need c t=some 0:=by
  obtain⟨r,l,e,q1,q2⟩:=ZwV hin S ht
  unfold ZcL
  rw[q1]
  rfl
theorem ZzG (hin:ZiT g need c) (S:Sched g.edges need c.toNat t left on) (ht:t.length≤4096):∃ran last ends,Zgr g need c t=some ends∧Zl0 need c.toNat t t.length left on ran last ends:=by
  obtain⟨r,l,e,q1,q2⟩:=ZwV hin S ht
  refine⟨r,l,e,?_,q2⟩
  unfold Zgr
  rw[q1]
  rfl
theorem ZvS (hin:ZiT g need c) (S:Sched g.edges need c.toNat t left on) (ht:t.length≤4096):Zfc g need c t=some true:=by
  obtain⟨hG,hA⟩:=Z1 hin.ck
  have hw:=hG.wl
  have hnl:=hin.nl
  have hc8:=hin.c8
  have hok:Zf8 g need c=true:=by
    have:=ZjV.2 hin
    unfold ZoN at this
    rw[hin.ck] at this
    cases h:Zf8 g need c with
    | true=>rfl
    | false=>rw[h] at this;exact absurd this (by decide)
  obtain⟨ran,last,ends,q1,q2⟩:=Zw2 hG hnl hin.rng S (Za4 g need t need g.work g.edges) (fun k r l e=>(0,(k:Int),true,r,l,e)) (fun r l e=>(0,true,r,l,e)) (fun k ran last ends row left on hk hrow hst I cr hl hol F=>by
    have h8:row.length≤8:=by rw[F.len,hol];omega
    obtain⟨r',l',e',q1,q2⟩:=Zrr (g:=g) (ZbR need (0,(k:Int),true,ran,last,ends) row) (fun r l e=>(r,l,e)) (fun i n r l e hi hx=>by
      simp only[ZbR,Zds hi,cond_true,ZE hx,Option.bind_some,ZR hi (show row.length<9223372036854775808 by omega)]) (fun r l e=>by simp only[ZbR,Zdz];rfl) hst hrow I cr hl F hin.rng (by omega)
    refine⟨r',l',e',?_,q2⟩
    have ho:=Zsp (need:=need) (row:=row) (ZbV g need (0,(k:Int),true,ran,last,ends) row) (.inr 0) (fun i=>Za7 need ran last ends g row (k:Int) (i:Int)) (fun i n hi hx hne=>ZjU hG hnl I cr hl F (by omega) h8 hx hne) (fun i n hi hx=>by
      simp only[ZbV,Zds hi,cond_true,ZE hx,Option.bind_some,ZR hi (show row.length<9223372036854775808 by omega)]
      by_cases hne:n = -1
      · rw[show(n == -1)=true from beq_iff_eq.2 hne];rfl
      · rw[show(n == -1)=false from beq_eq_false_iff_ne.2 hne,ZjU hG hnl I cr hl F (by omega) h8 hx hne];rfl) (by simp only[ZbV,Zdz];rfl)
    have hgr:ZcU (k:Int) row need g.work g.edges true ran ends=some true:=by
      unfold ZcU
      have key:=Zla (c:=need.length) (Zan (k:Int) row need g.work g.edges ran ends) (fun _=>true) (fun s=>s) (fun i hi=>by
        have hin':isN need (i:Int):=⟨by omega,by simpa using hi⟩
        have hg:=Zgf (left:=ran) (n:=(i:Int)) ⟨hin'.1,by rw[I.l1];exact hin'.2⟩
        have hfr:=Zox hG hnl I (i:Int)
        simp only[Zan,Zds hi,cond_true,hg,Option.bind_some,ZgX row _ (show row.length<9223372036854775808 by omega),Zlw,show(Zk.mk g.work g.edges)=g from rfl,hfr,ZR hi (show need.length<9223372036854775808 by omega)]
        by_cases h0:lf ran (i:Int)=0
        · rw[show(lf ran (i:Int)==0)=true from beq_iff_eq.2 h0,cond_true]
          by_cases h1:(-1:Int)∈row
          · rw[decide_eq_true h1,cond_true]
            by_cases h2:(i:Int)∈row
            · rw[decide_eq_true h2];rfl
            · rw[decide_eq_false h2,cond_false]
              have hnf:Zi3 g.edges left (i:Int)=false:=by
                cases hf:Zi3 g.edges left (i:Int) with
                | false=>rfl
                | true=>
                  have hr:=I.ran _ hin'
                  have hv:=hin.rng _ (List.mem_of_getElem? (Zhz hin'.1 hin'.2))
                  exact absurd ⟨⟨hin'.1,by rw[hl];exact hin'.2⟩,by omega,h2,Zc3.1 hf⟩ (F.all h1 (i:Int))
              rw[hnf];rfl
          · rw[decide_eq_false h1];rfl
        · rw[show(lf ran (i:Int)==0)=false from beq_eq_false_iff_ne.2 h0];rfl) (by simp only[Zan,Zdz];rfl)
      rw[show(lp (Zan (k:Int) row need g.work g.edges ran ends) (0,true))=_ from key]
      rfl
    simp only[Za4,Zds hk,cond_true,ZE hrow,Option.bind_some,ho,hgr,q1,ZR hk (show t.length<9223372036854775808 by omega)]) (fun r l e=>by simp only[Za4,Zdz];rfl)
  unfold Zfc Zf5
  rw[Ziy hG.short,hin.ck,hok,Option.bind_some]
  simp only[beq_self_eq_true,cond_true,show((0:Int) != 0)=false from rfl,cond_false,decide_eq_false (show ¬(4096:Int)<(t.length:Int) by omega),Zzk hin S ht,Option.bind_some,Zq2 need (by omega),Int.toNat_natCast]
  rw[show(lp (Za4 g need t need g.work g.edges) (0,0,true,List.replicate need.length 0,List.replicate need.length ⟨0,0⟩,List.replicate need.length (-1)))=_ from q1]
  rfl
theorem Zy0 {g:Zk} (h:ZT g=0):ZeJ g=some g.work.sum:=by
  obtain⟨hG,hA⟩:=Z1 h
  unfold ZeJ
  rw[ZdU g hG.short,h,Option.bind_some,beq_self_eq_true,cond_true,Zp7 hG.w hG.wl (ZdS g) (fun i s x hi hx=>by simp only[ZdS,Zds hi,cond_true,ZE hx,Option.bind_some]) (fun s=>by simp only[ZdS,Zdz];rfl)]
  rfl
end
end Go.Proofs.YtgcfmiajkbbmeaaGreat
namespace Go.Proofs.YtgcfmiajkbbmeaaGreat
open Go Go.Proofs.YtgcfmiajkbbmeaaGreatE
open Go.IntKind (u64 i64 u32 i32 u8)
def ZeQ (n:Int):Bool:=decide (n<1) || decide (1000<n)
theorem ZlW (n:Int):Zbf n=some (ZeQ n):=by
 unfold Zbf ZeQ
 cases decide (n<1)<;>cases decide (1000<n)<;>rfl
def Zf2 (g:Zk) (dem:List Int):Bool:=((dem.length:Int)==(g.work.length:Int))&&(!(dem.any ZeQ) && !(g.work.any ZeQ))
theorem Zhc {g:Zk} (hs:ZgV g) {dem:List Int} (hd:dem.length≤70):Ze8 g dem=some (Zf2 g dem):=by
 have hw:=hs.w
 unfold Ze8 Zf2
 cases (dem.length:Int)==(g.work.length:Int) with
 | false=>rfl
 | true=>
  simp only[cond_true,Bool.true_and]
  rw[Zeq dem _ ZeQ (fun x _=>ZlW x) (by omega),Option.bind_some]
  cases dem.any ZeQ with
  | true=>rfl
  | false=>
   simp only[cond_false,Bool.not_false,Bool.true_and]
   rw[Zeq g.work _ ZeQ (fun x _=>ZlW x) (by omega),Option.bind_some]
   cases g.work.any ZeQ<;>rfl
structure ZkH (g:Zk) (dem:List Int) (c:Int):Prop where
 ck:ZT g=0
 dl:dem.length=g.work.length
 dr:∀x∈dem,1≤x∧x≤1000
 wr:∀x∈g.work,1≤x∧x≤1000
 c1:1≤c
 c8:c≤8
noncomputable def ZiV (g:Zk) (dem:List Int) (c:Int):Int:=bif ZT g==0 then (bif Zf2 g dem&&(decide (1≤c)&&decide (c≤8)) then 0 else 190) else ZT g
theorem Zsb {g:Zk}{dem:List Int}{c:Int}:ZiV g dem c=0↔ZkH g dem c:=by
 have an:∀l:List Int,(!(l.any ZeQ))=true↔∀x∈l,1≤x∧x≤1000:=fun l=>by
  rw[Bool.not_eq_true',List.any_eq_false]
  constructor
  ·intro h x hx
   have:=h x hx
   simp[ZeQ] at this
   omega
  ·intro h x hx
   have:=h x hx
   simp[ZeQ]
   omega
 unfold ZiV
 cases hc:ZT g==0 with
 | false=>
  have hne:ZT g≠0:=fun h=>by rw[h] at hc;cases hc
  simp only[cond_false]
  exact⟨fun h=>absurd h hne,fun h=>absurd h.ck hne⟩
 | true=>
  have hck:=eq_of_beq hc
  simp only[cond_true]
  cases hr:Zf2 g dem&&(decide (1≤c)&&decide (c≤8)) with
  | false=>
   simp only[cond_false]
   refine⟨fun h=>absurd h (by decide),fun h=>?_⟩
   have:(Zf2 g dem&&(decide (1≤c)&&decide (c≤8)))=true:=by
    unfold Zf2
    rw[(an dem).2 h.dr,(an g.work).2 h.wr,decide_eq_true h.c1,decide_eq_true h.c8,h.dl]
    simp
   rw[hr] at this
   cases this
  | true=>
   simp only[cond_true,true_iff]
   unfold Zf2 at hr
   simp only[Bool.and_eq_true] at hr
   obtain⟨⟨h1,h2,h3⟩,h4,h5⟩:=hr
   exact⟨hck,by have:=eq_of_beq h1;omega,(an dem).1 h2,(an g.work).1 h3,of_decide_eq_true h4,of_decide_eq_true h5⟩
def ZaS (g:Zk) (dem:List Int):List Int:=List.zipWith (fun w d:Int=>bif decide (w<d) then w else d) g.work dem
theorem Zks {g:Zk}{dem:List Int} (hl:dem.length=g.work.length) (hw:g.work.length≤64):ZeK g dem=some (ZaS g dem):=by
 have key:∀(k i:Nat),i+k=g.work.length→lp (ZcX g dem) ((i:Int),(ZaS g dem).take i)=some (ZaS g dem):=by
  have hnl:(ZaS g dem).length=g.work.length:=by unfold ZaS;rw[List.length_zipWith];omega
  intro k
  induction k with
  | zero=>
   intro i hi
   have e:i=g.work.length:=by omega
   subst e
   rw[ZaI]
   simp only[ZcX,Zdz,cond_false]
   rw[List.take_of_length_le (by omega)]
  | succ k ih=>
   intro i hi
   have hlt:i<g.work.length:=by omega
   have hw1:g.work[i]? = some g.work[i]:=List.getElem?_eq_getElem hlt
   have hd1:dem[i]? = some dem[i]:=List.getElem?_eq_getElem (by omega)
   have hn:(ZaS g dem)[i]? = some (bif decide (g.work[i]<dem[i]) then g.work[i] else dem[i]):=by
    unfold ZaS
    rw[List.getElem?_zipWith,hw1,hd1]
   rw[ZaI]
   simp only[ZcX,Zds hlt,cond_true,ZE hw1,ZE hd1,Option.bind_some,ZeU (show((ZaS g dem).take i).length+1≤1073741824 by rw[List.length_take];omega),ZR hlt (show g.work.length<9223372036854775808 by omega)]
   have:=ih (i+1) (by omega)
   rw[Zd4 hn] at this
   exact this
 unfold ZeK
 have:=key g.work.length 0 (by omega)
 rw[List.take_zero] at this
 rw[show lp (ZcX g dem) (0,([]:List Int))=_ from this]
 rfl
theorem ZpP {g:Zk}{dem:List Int} (hl:dem.length=g.work.length):(ZaS g dem).length=g.work.length:=by unfold ZaS;rw[List.length_zipWith];omega
theorem ZkH.need {g:Zk}{dem:List Int}{c:Int} (h:ZkH g dem c):ZiT g (ZaS g dem) c:=by
 refine⟨h.ck,ZpP h.dl,fun x hx=>?_,h.c1,h.c8⟩
 obtain⟨i,hi⟩:=List.getElem?_of_mem hx
 unfold ZaS at hi
 rw[List.getElem?_zipWith] at hi
 cases hw:g.work[i]? with
 | none=>rw[hw] at hi;simp at hi
 | some w=>
  cases hd:dem[i]? with
  | none=>rw[hw,hd] at hi;simp at hi
  | some d=>
   rw[hw,hd] at hi
   simp only[Option.some.injEq] at hi
   have h1:=h.wr w (List.mem_of_getElem? hw)
   have h2:=h.dr d (List.mem_of_getElem? hd)
   rw[← hi]
   cases decide (w<d)<;>simp<;>omega
def Bad (g:Zk) (dem:List Int) (n:Int):Prop:=lf g.work n<lf dem n
def Zf0 (g:Zk) (dem left:List Int) (k:Nat):Bool:=(List.range k).any fun i=>(lf left (i:Int)==0)&&decide (lf g.work (i:Int)<lf dem (i:Int))
def Zge (left:List Int) (k:Nat):Bool:=(List.range k).any fun i=>decide (0<lf left (i:Int))
def ZaM (g:Zk) (dem left:List Int):Int:=bif Zf0 g dem left left.length then 3 else bif Zge left left.length then 1 else 2
theorem ZgE (k:Nat) (p:Nat→Bool):(List.range (k+1)).any p=((List.range k).any p || p k):=by rw[List.range_succ,List.any_append];simp
theorem Zjz {g:Zk}{dem left:List Int} (hd:dem.length=g.work.length) (hl:left.length=g.work.length) (hw:g.work.length≤64) (hr:∀x∈left,0≤x):ZbC g dem left=some (ZaM g dem left):=by
 have key:∀(k i:Nat),i+k=left.length→Zf0 g dem left i=false→lp (ZaT g dem left) ((bif Zge left i then 1 else 2),(i:Int))=some (bif Zf0 g dem left left.length then .inl (bif Zge left i then 1 else 2) else .inr (bif Zge left left.length then 1 else 2)) ∨
   (Zf0 g dem left left.length=true∧∃x,lp (ZaT g dem left) ((bif Zge left i then 1 else 2),(i:Int))=some (.inl x)):=by
  intro k
  induction k with
  | zero=>
   intro i hi hb
   have e:i=left.length:=by omega
   subst e
   left
   rw[ZaI]
   simp only[ZaT,Zdz,cond_false,hb]
  | succ k ih=>
   intro i hi hb
   have hlt:i<left.length:=by omega
   have hL:isN left (i:Int):=⟨by omega,by simpa using hlt⟩
   have e1:ZI left (i:Int)=some (lf left (i:Int)):=Zgf hL
   have e2:ZI dem (i:Int)=some (lf dem (i:Int)):=Zgf ⟨by omega,by simp;omega⟩
   have e3:ZI g.work (i:Int)=some (lf g.work (i:Int)):=Zgf ⟨by omega,by simp;omega⟩
   have h0:0≤lf left (i:Int):=hr _ (List.mem_of_getElem? (Zhz hL.1 hL.2))
   have hw':=ZR hlt (show left.length<9223372036854775808 by omega)
   have hbs:Zf0 g dem left (i+1)=((lf left (i:Int)==0)&&decide (lf g.work (i:Int)<lf dem (i:Int))):=by
    have:=ZgE i (fun i=>(lf left (i:Int)==0)&&decide (lf g.work (i:Int)<lf dem (i:Int)))
    show(List.range (i+1)).any _=_
    rw[this,show(List.range i).any _=false from hb,Bool.false_or]
   have hss:Zge left (i+1)=(Zge left i || decide (0<lf left (i:Int))):=ZgE i _
   rw[ZaI]
   simp only[ZaT,Zds hlt,cond_true,e1,e2,e3,Option.bind_some,hw']
   by_cases hp:0<lf left (i:Int)
   ·have hz:(lf left (i:Int)==0)=false:=beq_eq_false_iff_ne.2 (by omega)
    have hn:=ih (i+1) (by omega) (by rw[hbs,hz];rfl)
    rw[hss,decide_eq_true hp,Bool.or_true,cond_true] at hn
    rw[decide_eq_true hp]
    simp only[cond_true,hz,cond_false]
    cases hs:Zge left i with
    | true=>
     simp only[cond_true]
     rw[show((1:Int)==2)=false from rfl]
     simp only[cond_false]
     rcases hn with hn | hn
     ·left;rw[hn]
     ·right;exact hn
    | false=>
     simp only[cond_false]
     rw[show((2:Int)==2)=true from rfl]
     simp only[cond_true]
     rcases hn with hn | ⟨hn1,x,hn2⟩
     ·cases hbb:Zf0 g dem left left.length with
      | true=>right;rw[hbb] at hn;exact⟨rfl,1,hn⟩
      | false=>left;rw[hbb] at hn;exact hn
     ·right;exact⟨hn1,x,hn2⟩
   ·have hz:(lf left (i:Int)==0)=true:=beq_iff_eq.2 (by omega)
    rw[decide_eq_false hp]
    simp only[cond_false,hz,cond_true]
    rw[hz,Bool.true_and] at hbs
    rw[decide_eq_false hp,Bool.or_false] at hss
    cases hq:decide (lf g.work (i:Int)<lf dem (i:Int)) with
    | true=>
     right
     refine⟨?_,_,rfl⟩
     unfold Zf0
     rw[List.any_eq_true]
     exact⟨i,List.mem_range.2 hlt,by rw[hz,hq];rfl⟩
    | false=>
     have hn:=ih (i+1) (by omega) (by rw[hbs,hq])
     rw[hss] at hn
     simp only[cond_false]
     exact hn
 unfold ZbC ZaM
 have h0:=key left.length 0 (by omega) rfl
 have hs0:Zge left 0=false:=rfl
 rw[hs0] at h0
 simp only[cond_false] at h0
 rcases h0 with h0 | ⟨h1,x,h2⟩
 ·rw[show lp (ZaT g dem left) (2,0)=_ from h0]
  cases Zf0 g dem left left.length<;>rfl
 ·rw[show lp (ZaT g dem left) (2,0)=_ from h2,h1]
  rfl
theorem Zin {g:Zk}{dem left:List Int}:ZaM g dem left=1↔Zf0 g dem left left.length=false∧Zge left left.length=true:=by
 unfold ZaM
 cases Zf0 g dem left left.length<;>cases Zge left left.length<;>simp
theorem Zj0 {left:List Int}:Zge left left.length=true↔∃n,isN left n∧0<lf left n:=by
 unfold Zge
 rw[List.any_eq_true]
 constructor
 ·rintro ⟨i,h1,h2⟩
  exact⟨(i:Int),⟨by omega,by have:=List.mem_range.1 h1;simpa using this⟩,of_decide_eq_true h2⟩
 ·rintro ⟨n,h1,h2⟩
  refine⟨n.toNat,List.mem_range.2 h1.2,?_⟩
  rw[show((n.toNat:Nat):Int)=n by have:=h1.1;omega]
  exact decide_eq_true h2
theorem ZlP {g:Zk}{dem left:List Int}:Zf0 g dem left left.length=true↔∃n,isN left n∧lf left n=0∧Bad g dem n:=by
 unfold Zf0 Bad
 rw[List.any_eq_true]
 constructor
 ·rintro ⟨i,h1,h2⟩
  rw[Bool.and_eq_true] at h2
  exact⟨(i:Int),⟨by omega,by have:=List.mem_range.1 h1;simpa using this⟩,eq_of_beq h2.1,of_decide_eq_true h2.2⟩
 ·rintro ⟨n,h1,h2,h3⟩
  refine⟨n.toNat,List.mem_range.2 h1.2,?_⟩
  rw[show((n.toNat:Nat):Int)=n by have:=h1.1;omega,h2,Bool.and_eq_true]
  exact⟨rfl,decide_eq_true h3⟩
def ZuH (g:Zk) (m:Nat) (left on:List Int) (ds:List Zb) (ts:List Zi) (fs:List Int):Bool→Prop
 | true=>Zjk g m left on ds ts fs
 | false=>(ds=[]∧ts=[]∧fs=[])∧Zcf g left on∧on.length=m
theorem ZuH.crew {g:Zk}{m:Nat}{left on fs:List Int}{ds:List Zb}{ts:List Zi}:∀{d:Bool},ZuH g m left on ds ts fs d→Zcf g left on∧on.length=m
 | true,h=>⟨GangIn.crew (Zjk.toGangIn h),GangIn.ol (Zjk.toGangIn h)⟩
 | false,h=>h.2
theorem ZhS {g:Zk} (h:ZT g=0) {left on row:List Int} (c:Zcf g left on) (F:ZdQ g.edges left on row):Zcf g (ZF left row) (ZJ left row):=by
 obtain⟨hG,hA⟩:=Z1 h
 have l1:(ZJ left row).length=on.length:=by unfold ZJ;rw[List.length_map,F.len]
 exact⟨by rw[Zcp];exact c.ll,by rw[l1];exact c.o1,by rw[l1];exact c.o8,F.next (by rw[c.ll];exact Zek hG) c.ok⟩
theorem ZwT {g:Zk} (h:ZT g=0) {left on row:List Int} (c:Zcf g left on) (F:ZdQ g.edges left on row):Zcf g left row:=by
 refine⟨c.ll,by rw[F.len];exact c.o1,by rw[F.len];exact c.o8,⟨c.ok.rng,F.row_in c.ok,F.one,c.ok.over⟩⟩
theorem Zq5:((0:Int) != 0)=false:=rfl
theorem Zs0 {g:Zk}{m:Nat}{left on fs dem picks:List Int}{ds:List Zb}{ts:List Zi}{d:Bool} (h:ZT g=0) (hd:dem.length=g.work.length) (hp:picks.length≤100000) (I:ZuH g m left on ds ts fs d) (st:Int) :
  ∃(row:List Int) (ds':List Zb) (ts':List Zi) (fs' done:List Int) (n:Nat),
   ZfJ g ⟨d,dem,st,⟨⟨on,left⟩,ds,ts,fs⟩⟩ picks=some (⟨d,dem,ZaM g dem (ZF left row),⟨⟨ZJ left row,ZF left row⟩,ds',ts',fs'⟩⟩,⟨row,done,(n:Int)⟩,0)∧ZdQ g.edges left on row∧ZuH g m (ZF left row) (ZJ left row) ds' ts' fs' d∧(∀z,z∈done↔z∈row∧z ≠ -1∧lf (ZF left row) z=0):=by
 obtain⟨hG,hA⟩:=Z1 h
 have hw:=hG.wl
 have c:=I.crew.1
 have o8:=c.o8
 cases d with
 | true=>
  have I:Zjk g m left on ds ts fs:=I
  obtain⟨n,on',ds1,ts1,fs1,q1,q2,q3,q4,q5⟩:=ZsS h hp I
  obtain⟨ds2,done,r1,r2,r3⟩:=Zpf h q2 q3
  have F:=ZtA I.toGangIn q2.toGangIn q3 q4
  have hs:=Zjz (dem:=dem) (left:=ZF left on') hd (ZhS h c F).ll hw fun x hx=>((ZhS h c F).ok.rng x hx).1
  refine⟨on',ds2,ts1,fs1,done,n,?_,F,r2,r3⟩
  unfold ZfJ Zd7 Zeb Zd5
  simp only[cond_true,Option.bind_some,q1,Zq5,cond_false,Zdp (show on'.length≤1073741824 by rw[F.len];omega),r1,Zdp (show dem.length≤1073741824 by omega),hs]
 | false=>
  obtain⟨⟨rfl,rfl,rfl⟩,_,hm⟩:=I
  have F:=Ztr c
  have cr:=ZwT h c F
  obtain⟨done,r1,r3⟩:=ZoE h cr
  have hs:=Zjz (dem:=dem) (left:=ZF left (ZbF on (Zbj g.edges left on))) hd (ZhS h c F).ll hw fun x hx=>((ZhS h c F).ok.rng x hx).1
  refine⟨ZbF on (Zbj g.edges left on),[],[],[],done,0,?_,F,⟨⟨rfl,rfl,rfl⟩,ZhS h c F,by unfold ZJ;rw[List.length_map,F.len,hm]⟩,r3⟩
  unfold ZfJ Zd7 Zev Zeu
  simp only[cond_false,Option.bind_some,ZsU h c,Zq5,Zdp (show(ZbF on (Zbj g.edges left on)).length≤1073741824 by rw[F.len];omega),r1,Zdp (show dem.length≤1073741824 by omega),hs]
  rfl
theorem ZuI {g:Zk}{dem:List Int}{c:Int} (hin:ZkH g dem c) (d:Bool) :
  ∃ds ts fs,ZeA g dem c d=some (⟨d,dem,ZaM g dem (ZaS g dem),⟨⟨List.replicate c.toNat (-1),ZaS g dem⟩,ds,ts,fs⟩⟩,0)∧ZuH g c.toNat (ZaS g dem) (List.replicate c.toNat (-1)) ds ts fs d:=by
 obtain⟨hG,hA⟩:=Z1 hin.ck
 have hw:=hG.wl
 have hd:=hin.dl
 have hn:=hin.need
 have c1:=hin.c1
 have c8:=hin.c8
 obtain⟨ds0,n1,G0⟩:=Zu5 hn
 have hright:Zf2 g dem=true:=by
  have h0:=Zsb.2 hin
  unfold ZiV at h0
  rw[show(ZT g==0)=true from beq_iff_eq.2 hin.ck,cond_true,decide_eq_true c1,decide_eq_true c8] at h0
  cases hr:Zf2 g dem with
  | true=>rfl
  | false=>rw[hr] at h0;cases h0
 have hs:=Zjz (dem:=dem) (left:=ZaS g dem) hd (ZpP hd) hw fun x hx=>by have:=hn.rng x hx;omega
 have hdc:ZbI g=some 0:=by rw[ZdU g hG.short,hin.ck]
 cases d with
 | true=>
  refine⟨ds0,List.replicate c.toNat tk0,List.replicate c.toNat 0,?_,G0⟩
  unfold ZeA Zd7 Ze9
  simp only[hdc,Option.bind_some,Zq5,cond_false,Zhc hG.short (show dem.length≤70 by omega),hright,cond_true,decide_eq_false (show ¬c<1 by omega),decide_eq_false (show ¬8<c by omega),Zks hd hw,n1,Zdp (show dem.length≤1073741824 by omega),hs]
  rfl
 | false=>
  refine⟨[],[],[],?_,⟨⟨rfl,rfl,rfl⟩,G0.toGangIn.crew,by simp⟩⟩
  have hl:Zfz g (ZaS g dem) c=some (.inr (List.replicate c.toNat (-1))):=by rw[Zqn hG.short,ZjV.2 hn];rfl
  unfold ZeA Zd7 Zfp
  simp only[hdc,Option.bind_some,Zq5,cond_false,Zhc hG.short (show dem.length≤70 by omega),hright,cond_true,decide_eq_false (show ¬c<1 by omega),decide_eq_false (show ¬8<c by omega),Zks hd hw,hl,Zdp (show dem.length≤1073741824 by omega),hs]
def ZAT:ZbS:=⟨false,[],0,⟨⟨[],[]⟩,[],[],[]⟩⟩
theorem ZqO {g:Zk}{dem:List Int}{c:Int} (hs:ZgV g) (hd:dem.length≤70) (h:ZiV g dem c≠0) (d:Bool):ZeA g dem c d=some (ZAT,ZiV g dem c):=by
 unfold ZeA
 rw[ZdU g hs,Option.bind_some]
 unfold ZiV at h ⊢
 cases hc:ZT g==0 with
 | false=>
  have:(ZT g != 0)=true:=by rw[bne,hc];rfl
  rw[this,cond_true,cond_false]
  rfl
 | true=>
  have:(ZT g != 0)=false:=by rw[bne,hc];rfl
  rw[this,cond_false,cond_true,Zhc hs hd,Option.bind_some]
  rw[hc,cond_true] at h
  cases hr:Zf2 g dem with
  | false=>rfl
  | true=>
   rw[hr,Bool.true_and] at h
   simp only[cond_true,Bool.true_and]
   by_cases h1:c<1
   ·rw[decide_eq_true h1,decide_eq_false (show ¬1≤c by omega)]
    rfl
   ·by_cases h8:8<c
    ·rw[decide_eq_false h1,decide_eq_true h8,decide_eq_false (show ¬c≤8 by omega),Bool.and_false]
     rfl
    ·rw[decide_eq_true (show 1≤c by omega),decide_eq_true (show c≤8 by omega)] at h
     exact absurd rfl h
theorem Zob:∀(l:List Int),(∀x∈l,0≤x)→∀x∈l,x≤l.sum
 | [],_,_,h=>by cases h
 | y :: l,h,x,hx=>by
  have h0:0≤l.sum:=by
   have:∀(l:List Int),(∀x∈l,0≤x)→0≤l.sum:=by
    intro l
    induction l with
    | nil=>intro _;simp
    | cons z l ih=>intro h;rw[List.sum_cons];have h1:=h z (by simp);have h2:=ih fun w hw=>h w (by simp[hw]);omega
   exact this l fun z hz=>h z (by simp[hz])
  rw[List.sum_cons]
  rcases List.mem_cons.1 hx with rfl | hx
  ·omega
  ·have h1:=Zob l (fun z hz=>h z (by simp[hz])) x hx
   have h2:=h y (by simp)
   omega
structure ZlU (g:Zk) (dem:List Int) (c:Int) (t:List (List Int)) (left on:List Int):Prop where
 sched:Sched g.edges (ZaS g dem) c.toNat t left on
 fin:ZaM g dem left≠1
 pre:∀k,k<t.length→ZaM g dem (Zcb (ZaS g dem) c.toNat (t.take k)).1=1
 short:t.length≤4096
theorem Zu3 {g:Zk}{dem picks:List Int}{c:Int} (hin:ZkH g dem c) (hs:(ZaS g dem).sum≤4096) (hp:picks.length≤100000) (d:Bool) :
  ∃(t:List (List Int)) (left on:List Int),Zfx g dem c d picks=some (t,ZaM g dem left,0)∧ZlU g dem c t left on:=by
 obtain⟨hG,hA⟩:=Z1 hin.ck
 have hw:=hG.wl
 have hn:=hin.need
 have hnl:=hn.nl
 have hrng:∀x∈ZaS g dem,0≤x∧x≤1000:=fun x hx=>by have:=hn.rng x hx;omega
 have c1:=hin.c1
 have c8:=hin.c8
 have hE:ZeV g.edges (ZaS g dem).length:=by rw[hnl];exact Zek hG
 obtain⟨ds0,ts0,fs0,n1,I0⟩:=ZuI hin d
 have loop:∀(k:Nat) (picks:List Int) (t:List (List Int)) (on left:List Int) (ds:List Zb) (ts:List Zi) (fs:List Int),picks.length≤100000→left.sum≤(k:Int)→t.length+k≤4096→ZuH g c.toNat left on ds ts fs d→Sched g.edges (ZaS g dem) c.toNat t left on →
   (∀j,j<t.length→ZaM g dem (Zcb (ZaS g dem) c.toNat (t.take j)).1=1) →
   ∃(t':List (List Int)) (left' on':List Int) (ds':List Zb) (ts':List Zi) (fs':List Int),lp (ZdH g) (picks,d,dem,ZaM g dem left,on,left,ds,ts,fs,t)=some (.inr (d,dem,ZaM g dem left',on',left',ds',ts',fs',t'))∧ZlU g dem c t' left' on':=by
  intro k
  induction k with
  | zero=>
   intro picks t on left ds ts fs hp hk ht I S hpre
   have hr:=S.crew (fun x hx=>hn.rng x hx) hE
   have hne:ZaM g dem left≠1:=fun h1=>by
    obtain⟨n,h2,h3⟩:=Zj0.1 (Zin.1 h1).2
    have:=Zob left (fun x hx=>(hr.rng x hx).1) _ (List.mem_of_getElem? (Zhz h2.1 h2.2))
    omega
   refine⟨t,left,on,ds,ts,fs,?_,⟨S,hne,hpre,by omega⟩⟩
   rw[ZaI]
   simp only[ZdH,beq_eq_false_iff_ne.2 hne,cond_false]
  | succ k ih=>
   intro picks t on left ds ts fs hp hk ht I S hpre
   have hr:=S.crew (fun x hx=>hn.rng x hx) hE
   by_cases h1:ZaM g dem left=1
   ·have hpos:=Zj0.1 (Zin.1 h1).2
    obtain⟨row,ds',ts',fs',done,n,q1,F,I',_⟩:=Zs0 hin.ck hin.dl hp I (ZaM g dem left)
    have hll:=I.crew.1.ll
    have hb:=ZmE hG hA hll hpos hr F (by rw[I.crew.2];omega)
    have hsub:=Zmu row left (F.nodes hr)
    have hmin:(0:Int)≤(bif decide ((picks.length:Int)<(n:Int)) then (picks.length:Int) else (n:Int))∧(bif decide ((picks.length:Int)<(n:Int)) then (picks.length:Int) else (n:Int)).toNat≤picks.length:=by
     by_cases hlt:(picks.length:Int)<(n:Int)
     ·rw[decide_eq_true hlt,cond_true];omega
     ·rw[decide_eq_false hlt,cond_false];omega
    obtain⟨t',left',on',ds2,ts2,fs2,e1,e2⟩:=ih (picks.drop (bif decide ((picks.length:Int)<(n:Int)) then (picks.length:Int) else (n:Int)).toNat) (t++[row]) (ZJ left row) (ZF left row) ds' ts' fs' (by rw[List.length_drop];omega) (by omega)
     (by rw[List.length_append,List.length_singleton];omega) I' (.snoc S hpos F) (fun j hj=>by
      rw[List.length_append,List.length_singleton] at hj
      rw[List.take_append_of_le_length (by omega)]
      by_cases hjt:j<t.length
      ·exact hpre j hjt
      ·rw[List.take_of_length_le (by omega),S.fold]
       exact h1)
    refine⟨t',left',on',ds2,ts2,fs2,?_,e2⟩
    rw[ZaI]
    simp only[ZdH,beq_iff_eq.2 h1,cond_true,q1,Option.bind_some,Zq5,cond_false,decide_eq_true hmin.1,Nat.ble_eq_true_of_le hmin.2,ZeU (show t.length+1≤1073741824 by omega)]
    exact e1
   ·refine⟨t,left,on,ds,ts,fs,?_,⟨S,h1,hpre,by omega⟩⟩
    rw[ZaI]
    simp only[ZdH,beq_eq_false_iff_ne.2 h1,cond_false]
 have hs0:=Zs7 (ZaS g dem) hrng
 obtain⟨t',left',on',ds',ts',fs',e1,e2⟩:=loop (ZaS g dem).sum.toNat picks [] (List.replicate c.toNat (-1)) (ZaS g dem) ds0 ts0 fs0 hp (by omega) (by simp;omega) I0 .nil (fun j hj=>by simp at hj)
 refine⟨t',left',on',?_,e2⟩
 have hsum:=Zp7 hrng (by omega) (Zes (⟨d,dem,ZaM g dem (ZaS g dem),⟨⟨List.replicate c.toNat (-1),ZaS g dem⟩,ds0,ts0,fs0⟩⟩,0)) (fun i s x hi hx=>by simp only[Zes,Zds hi,cond_true,ZE hx,Option.bind_some]) (fun s=>by simp only[Zes,Zdz];rfl)
 unfold Zfx
 rw[n1,Option.bind_some]
 simp only[Zq5,cond_false]
 rw[hsum,Option.bind_some,decide_eq_false (show ¬4096<(ZaS g dem).sum by omega),cond_false,e1,Option.bind_some]
theorem Zq7 {g:Zk}{dem picks:List Int}{c:Int} (hs:ZgV g) (hd:dem.length≤70) (h:ZiV g dem c≠0) (d:Bool):Zfx g dem c d picks=some ([],0,ZiV g dem c):=by
 unfold Zfx
 rw[ZqO hs hd h d,Option.bind_some]
 simp only[show(ZiV g dem c != 0)=true from bne_iff_ne.2 h,cond_true]
theorem Zvh {g:Zk} (hs:ZgV g):∃x,ZeJ g=some x∧(ZT g=0→x=g.work.sum):=by
 cases hc:ZT g==0 with
 | true=>exact⟨_,Zy0 (eq_of_beq hc),fun _=>rfl⟩
 | false=>
  have hne:ZT g≠0:=fun h=>by rw[h] at hc;cases hc
  refine⟨0,?_,fun h=>absurd h hne⟩
  unfold ZeJ
  rw[ZdU g hs,Option.bind_some,hc]
  rfl
theorem Zrb (g:Zk) (dem:List Int):∃b,Ze3 g dem=some b∧(b=true→ZtE g=true∧dem.length≤70∧(ZT g=0→g.work.sum≤300)):=by
 unfold Ze3
 rw[ZAm,Option.bind_some]
 cases hf:ZtE g with
 | false=>exact⟨false,rfl,fun h=>by cases h⟩
 | true=>
  obtain⟨hw,he,hsh⟩:=Zrk hf
  rw[cond_true]
  by_cases hl:(dem.length:Int)≤70
  ·rw[decide_eq_true hl,cond_true,ZvA hf,Option.bind_some]
   obtain⟨x,h1,h2⟩:=Zvh hsh
   rw[h1,Option.bind_some]
   by_cases hx:x≤300
   ·rw[decide_eq_true hx]
    exact⟨true,rfl,fun _=>⟨rfl,by omega,fun hc=>by rw[← h2 hc];exact hx⟩⟩
   ·rw[decide_eq_false hx]
    exact⟨false,rfl,fun h=>by cases h⟩
  ·rw[decide_eq_false hl]
   exact⟨false,rfl,fun h=>by cases h⟩
theorem Zkm {l:List Int} (h:l.length≤100000):Zbz l=some ():=by
 unfold Zbz
 rw[ZeU (show l.length≤1073741824 by omega)]
 rfl
theorem Zt7:∀(w d:List Int),w.length=d.length→(List.zipWith (fun w d:Int=>bif decide (w<d) then w else d) w d).sum≤w.sum
 | [],d,h=>by simp
 | x :: w,[],h=>by simp at h
 | x :: w,y :: d,h=>by
  rw[List.zipWith_cons_cons,List.sum_cons,List.sum_cons]
  have:=Zt7 w d (by simpa using h)
  by_cases hx:x<y
  ·rw[decide_eq_true hx,cond_true];omega
  ·rw[decide_eq_false hx,cond_false];omega
theorem Zwd {g:Zk}{dem:List Int} (h:dem.length=g.work.length):(ZaS g dem).sum≤g.work.sum:=Zt7 _ _ h.symm
def Zqa (g:Zk) (dem:List Int) (k:Nat):Bool:=(List.range k).any fun i=>decide (lf g.work (i:Int)<lf dem (i:Int))
theorem ZlU.state {g:Zk}{dem:List Int}{c:Int}{t:List (List Int)}{left on:List Int} (hin:ZkH g dem c) (R:ZlU g dem c t left on):ZaM g dem left=bif Zqa g dem dem.length then 3 else 2:=by
 have hll:=R.sched.len.1
 have hnl:=hin.need.nl
 have hG:=(Z1 hin.ck).1
 have hr:=R.sched.crew (fun x hx=>hin.need.rng x hx) (by rw[hnl];exact Zek hG)
 have hdl:=hin.dl
 have hlen:left.length=dem.length:=by omega
 cases hb:Zf0 g dem left left.length with
 | true=>
  obtain⟨n,h1,h2,h3⟩:=ZlP.1 hb
  have:Zqa g dem dem.length=true:=by
   unfold Zqa
   rw[List.any_eq_true]
   refine⟨n.toNat,List.mem_range.2 (by rw[← hlen];exact h1.2),?_⟩
   rw[show((n.toNat:Nat):Int)=n by have:=h1.1;omega]
   exact decide_eq_true (show lf g.work n<lf dem n from h3)
  unfold ZaM
  rw[hb,this]
  rfl
 | false=>
  cases hs:Zge left left.length with
  | true=>exact absurd (Zin.2 ⟨hb,hs⟩) R.fin
  | false=>
   have:Zqa g dem dem.length=false:=by
    cases ho:Zqa g dem dem.length with
    | false=>rfl
    | true=>
     unfold Zqa at ho
     obtain⟨i,h1,h2⟩:=List.any_eq_true.1 ho
     have hi:=List.mem_range.1 h1
     have hn:isN left (i:Int):=⟨by omega,by simp;omega⟩
     have h0:lf left (i:Int)=0:=by
      have hge:=(ZqR hr (i:Int)).1
      apply Classical.byContradiction
      intro hne
      have:=Zj0.2 ⟨(i:Int),hn,by omega⟩
      rw[hs] at this
      cases this
     have h3:lf g.work (i:Int)<lf dem (i:Int):=of_decide_eq_true h2
     have:=ZlP.2 ⟨(i:Int),hn,h0,h3⟩
     rw[hb] at this
     cases this
   unfold ZaM
   rw[hb,hs,this]
   rfl
theorem Zyk {xs:List D} (h:Zee [.bool] xs):∃b:Bool,Ziz false xs=D.bool b:=by
 obtain⟨_,_,rfl,⟨b,rfl⟩,rfl⟩:=h
 exact⟨b,rfl⟩
end Go.Proofs.YtgcfmiajkbbmeaaGreat
