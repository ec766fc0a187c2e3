/- TeamStays: part 4 of 4 of the proof: the row and the card of the law, out of what the evaluator says of it; without conditions. -/
import Derived.Test.YtgcfmiajkbbmeaaGreatZTeamStaysc
import Derived.Sort.AssemblyPlain
import Derived.KernelRfl
import Derived.HandedShaped
import Derived.Test.YtgcfmiajkbbmeaaGreatRows
import Derived.WalkKit
import Derived.ProofKit
import Derived.OpenShut
import Derived.ShutString
import Derived.ChangeOld
import Derived.Below
import Derived.SizedLaws
import Derived.Handed
import Derived.LaidMore
import Derived.Stop.Joined
import Derived.ChangeShapes
import Derived.Carry
set_option maxRecDepth 100000
set_option maxHeartbeats 40000000
set_option linter.unusedVariables false
set_option linter.unusedSimpArgs false
namespace Go.Proofs.YtgcfmiajkbbmeaaGreat
open Go Go.Proofs.YtgcfmiajkbbmeaaGreatE
open Go.IntKind (u64 i64 u32 i32 u8)
def ZdJ (f:Nat->Nat):Nat->Nat
 | 0=>0
 | n+1=>ZdJ f n+f n
theorem ZoY {f h:Nat->Nat}:∀n,(∀i,i<n->f i<=h i)->ZdJ f n<=ZdJ h n
 | 0,_=>Nat.le_refl _
 | n+1,e=>by
  have:=ZoY n fun i hi=>e i (by omega)
  have:=e n (by omega)
  unfold ZdJ
  omega
theorem Zi5 {f h:Nat->Nat} (n:Nat) (e:∀i,i<n->f i=h i):ZdJ f n=ZdJ h n:=
 Nat.le_antisymm (ZoY n fun i hi=>Nat.le_of_eq (e i hi)) (ZoY n fun i hi=>Nat.le_of_eq (e i hi).symm)
theorem Zh5 {f h:Nat->Nat}{c:Nat}:∀n,c<n->(∀i,i<n->i≠c->f i=h i)->f c+1<=h c->ZdJ f n+1<=ZdJ h n
 | 0,hc,_,_=>by omega
 | n+1,hc,e,hd=>by
  unfold ZdJ
  by_cases hn:c=n
  ·subst hn
   have:=Zi5 (f:=f) (h:=h) c fun i hi=>e i (by omega) (by omega)
   omega
  ·have:=Zh5 n (by omega) (fun i hi hne=>e i (by omega) hne) hd
   have:=e n (by omega) (fun h=>hn h.symm)
   omega
theorem ZjT {a b:Nat}{p:Nat->Prop} (dp:∀i,Decidable (p i)) {f h:Nat->Nat}:∀n,(∀i,i<n->(p i->f i<=a/\h i=1)/\(¬p i->f i<=b/\h i=0))->ZdJ f n<=ZdJ h n*a+(n-ZdJ h n)*b/\ZdJ h n<=n
 | 0,_=>by simp[ZdJ]
 | n+1,e=>by
  obtain⟨h1,h2⟩:=ZjT dp n fun i hi=>e i (by omega)
  obtain⟨e1,e2⟩:=e n (by omega)
  unfold ZdJ
  by_cases hp:p n
  ·obtain⟨q1,q2⟩:=e1 hp
   rw[q2]
   refine⟨?_,by omega⟩
   have:n+1-(ZdJ h n+1)=n-ZdJ h n:=by omega
   rw[this,Nat.succ_mul]
   omega
  ·obtain⟨q1,q2⟩:=e2 hp
   rw[q2,Nat.add_zero]
   refine⟨?_,by omega⟩
   have:n+1-ZdJ h n=(n-ZdJ h n)+1:=by omega
   rw[this,Nat.succ_mul]
   omega
def Zaq (V:Zb) (c:Nat):Prop:=V.F c=0->0<V.a c->V.y c=V.B c/\(V.a c=2->V.x c=V.y c/\V.x c<=V.T c)/\(V.a c=3∨V.a c=4->V.B c+1<=V.T c)
noncomputable def BeG (V:Zb) (c:Nat):Int:=@ite _ (V.F c=0/\0<V.a c/\Zaq V c) (Classical.propDecidable _) (V.B c+1) (V.B c)
theorem Zet {V:Zb}{c:Nat} (hF:V.F c=0) (ha:0<V.a c) (h:Zaq V c):BeG V c=V.B c+1:=by unfold BeG;rw[if_pos ⟨hF,ha,h⟩]
theorem Za5 {V:Zb}{c:Nat} (h:¬(V.F c=0/\0<V.a c/\Zaq V c)):BeG V c=V.B c:=by unfold BeG;rw[if_neg h]
theorem ZBG (V:Zb) (c:Nat):V.B c<=BeG V c:=by unfold BeG;split<;>omega
def NE (V:Zb) (j:Nat):Prop:=V.T j<BeG V j
def Zpt (m:Nat) (V:Zb) (p:Nat):Prop:=p<m/\V.O p = -1/\V.F p=0/\((V.a p=1/\V.T p<=V.y p)∨(V.a p=2/\V.T p=V.x p))
noncomputable def wV (m:Nat) (V:Zb):Nat:=ZdJ (fun c=>@ite _ (Zaq V c) (Classical.propDecidable _) 0 1) m
def rP (V:Zb) (p:Nat):Nat:=if V.a p=1 then 2 else 1
def dP (m:Nat) (last:Int) (p:Nat):Nat:=if last<(p:Int) then ((p:Int)-last-1).toNat else ((p:Int)+m-last-1).toNat
def Zbj (V:Zb) (c:Nat):Nat:=if V.a c=4 then 1 else (4-V.a c).toNat
def ZgU (V:Zb) (c:Nat):Nat:=if V.a c=0 then 0 else Zbj V c
def Zxi (m:Nat) (V:Zb) (c:Nat):Prop:=NE V (vic m c (V.F c))/\(V.a c=0∨(V.F c≠0/\V.x c=V.T (vic m c (V.F c))))
def OKD (m:Nat) (V:Zb) (c d:Nat):Prop:=(V.F c=0/\V.a c=4/\1<=d)∨(Zxi m V c/\Zbj V c<=d)∨(∃j,1<=j/\NE V (vic m c (V.F c+j))/\Zbj V c+4*j<=d)
def In (m:Nat) (V:Zb) (last:Int) (k:Nat):Prop:=
 (∃p,Zpt m V p/\rP V p*m+dP m last p<=k) ∨
 ((∀p,¬Zpt m V p)/\(∃j,j<m/\NE V j)/\∃D:Nat->Nat,(∀c,c<m->V.O c = -1->OKD m V c (D c))/\3*m+ZdJ (fun c=>if V.O c = -1 then D c else 0) m<=k) ∨
 ((∀p,¬Zpt m V p)/\(∀j,j<m->¬NE V j)/\ZdJ (fun c=>if V.O c = -1 then ZgU V c else 0) m<=k)
def uV (m:Nat) (V:Zb):Nat:=ZdJ (fun c=>if V.O c = -1/\¬(V.F c=0/\V.a c=4) then 1 else 0) m
def Claim (m:Nat) (V:Zb) (c:Nat):Prop:=(V.F c=0/\V.a c=1/\V.T c<V.y c)∨(V.F c=0/\V.a c=2/\V.T c=V.x c)∨(V.F c≠0/\V.a c=3/\V.T (vic m c (V.F c))=V.x c)
def ZdE (m:Nat) (V:Zb) (c:Nat):Prop:=c<m/\V.O c = -1/\((∃j,j<m/\V.T j<V.B j)∨V.a c≠0)
structure Gen (m:Nat) (V:Zb) (c:Nat):Prop where
 F:V.F c<m
 busy:V.O c ≠ -1->V.a c=0/\V.F c=0
 a0:0<=V.a c
 a4:V.a c<=4
 a3:V.F c≠0->V.a c<=3
theorem Pos.gen {m:Nat}{V:Zb}{c:Nat} (p:Pos m V c):Gen m V c:=⟨p.F,p.busy,p.a0,p.a4,p.a3⟩
theorem Pos.ownOK {m:Nat}{V:Zb}{c:Nat} (p:Pos m V c):Zaq V c:=fun h1 h2=>⟨p.o1 h1 h2,p.o2 h1,fun h=>by have:=p.o3 h1 h;omega⟩
def ZiR (m:Nat) (V:Zb) (c:Nat):Prop:=(V.F c=0/\V.a c=1/\V.T c<V.y c)∨(V.F c=0/\V.a c=4)∨(V.F c≠0/\V.a c=3/\V.T (vic m c (V.F c))=V.x c)
inductive StepC (m:Nat) (V:Zb) (c:Nat):Zb->Prop
 | own0:V.F c=0->V.a c=0->StepC m V c ((V.setB c (V.B c-1)).tk c 1 (V.x c) (V.B c-1) (V.z c))
 | take:V.F c=0->V.a c=1->V.T c<V.y c->StepC m V c (V.got c (V.R c (V.y c)))
 | last:V.F c=0->V.a c=1->V.T c=V.y c->StepC m V c (V.tk c 2 (V.T c) (V.y c) (V.z c))
 | none1:V.F c=0->V.a c=1->V.y c<V.T c->StepC m V c (V.tk c 3 (V.T c) (V.y c) (V.z c))
 | win:V.F c=0->V.a c=2->V.T c=V.x c->StepC m V c ((V.setT c (V.T c+1)).tk c 4 (V.x c) (V.y c) (V.R c (V.y c)))
 | lose:V.F c=0->V.a c=2->V.T c≠V.x c->StepC m V c (V.tk c 3 (V.x c) (V.y c) (V.z c))
 | work:V.F c=0->V.a c=4->StepC m V c ((V.setB c (V.y c+1)).got c (V.z c))
 | back:V.F c=0->V.a c=3->StepC m V c ((V.setB c (V.y c+1)).fresh c (1 % m))
 | top:V.F c≠0->V.a c=0->StepC m V c (V.tk c 1 (V.T (vic m c (V.F c))) (V.y c) (V.z c))
 | bottom:V.F c≠0->V.a c=1->V.x c<V.B (vic m c (V.F c))->StepC m V c (V.tk c 2 (V.x c) (V.B (vic m c (V.F c))) (V.z c))
 | none2:V.F c≠0->V.a c=1->V.B (vic m c (V.F c))<=V.x c->StepC m V c (V.fresh c ((V.F c+1) % m))
 | read:V.F c≠0->V.a c=2->StepC m V c (V.tk c 3 (V.x c) (V.y c) (V.R (vic m c (V.F c)) (V.x c)))
 | steal:V.F c≠0->V.a c=3->V.T (vic m c (V.F c))=V.x c->StepC m V c ((V.setT (vic m c (V.F c)) (V.T (vic m c (V.F c))+1)).got c (V.z c))
 | lost:V.F c≠0->V.a c=3->V.T (vic m c (V.F c))≠V.x c->StepC m V c (V.fresh c ((V.F c+1) % m))
theorem ZyO {m:Nat}{V:Zb}{c:Nat} (p:Gen m V c):StepC m V c (Zae m V c):=by
 have h0:=p.a0
 have h4:=p.a4
 have h3:=p.a3
 unfold Zae
 split
 ·rename_i hF
  split
  ·rename_i h;exact .own0 hF h
  split
  ·rename_i h
   split
   ·rename_i q;exact .take hF h q
   split
   ·rename_i q;exact .last hF h q
   ·rename_i q1 q2;exact .none1 hF h (by omega)
  split
  ·rename_i h
   split
   ·rename_i q;exact .win hF h q
   ·rename_i q;exact .lose hF h q
  split
  ·rename_i h;exact .work hF h
  ·exact .back hF (by omega)
 ·rename_i hF
  have:=h3 hF
  split
  ·rename_i h;exact .top hF h
  split
  ·rename_i h
   split
   ·rename_i q;exact .bottom hF h q
   ·rename_i q;exact .none2 hF h (by omega)
  split
  ·rename_i h;exact .read hF h
  split
  ·rename_i q;exact .steal hF (by omega) q
  ·rename_i q;exact .lost hF (by omega) q
theorem Zcw {V:Zb}{c:Nat} (h:V.F c≠0):Zaq V c:=fun h1=>absurd h1 h
theorem Zft {V:Zb}{c:Nat} (h:V.a c=0):Zaq V c:=fun _ h2=>by omega
theorem ZsS {V W:Zb}{j:Nat} (hT:W.T j=V.T j) (hB:W.B j=V.B j) (hF:W.F j=V.F j) (ha:W.a j=V.a j) (hx:W.x j=V.x j) (hy:W.y j=V.y j):(Zaq W j↔Zaq V j)/\BeG W j=BeG V j:=by
 have h:Zaq W j↔Zaq V j:=by unfold Zaq;rw[hT,hB,hF,ha,hx,hy]
 refine⟨h,?_⟩
 have e:(W.F j=0/\0<W.a j/\Zaq W j)↔(V.F j=0/\0<V.a j/\Zaq V j):=by rw[hF,ha,h]
 unfold BeG
 by_cases hh:V.F j=0/\0<V.a j/\Zaq V j
 ·rw[if_pos hh,if_pos (e.2 hh),hB]
 ·rw[if_neg hh,if_neg (fun h=>hh (e.1 h)),hB]
theorem Zcx {m:Nat}{V W:Zb}{c:Nat} (s:StepC m V c W) {i:Nat} (hi:i≠c):W.O i=V.O i/\W.F i=V.F i/\W.a i=V.a i/\W.x i=V.x i/\W.y i=V.y i/\W.B i=V.B i:=by
 cases s<;>simp[Zb.tk,Zb.got,Zb.fresh,Zb.setB,Zb.setT,upd,hi]
theorem Zq7 {m:Nat}{V W:Zb}{c:Nat} (s:StepC m V c W) (hn:¬Claim m V c):W.T=V.T/\((¬Zaq V c/\Zaq W c)∨((Zaq W c↔Zaq V c)/\BeG W c=BeG V c)):=by
 cases s with
 | own0 hF ha=>
  have h1:Zaq V c:=Zft ha
  have h2:Zaq ((V.setB c (V.B c-1)).tk c 1 (V.x c) (V.B c-1) (V.z c)) c:=fun _ _=>by simp[Zb.tk,Zb.setB,upd]
  refine⟨rfl,.inr ⟨⟨fun _=>h1,fun _=>h2⟩,?_⟩⟩
  rw[Za5 (V:=V) (by omega),Zet (by simpa [Zb.tk,Zb.setB] using hF) (by simp[Zb.tk,Zb.setB,upd]) h2]
  simp[Zb.tk,Zb.setB,upd]
 | take hF ha h=>exact absurd (.inl ⟨hF,ha,h⟩) hn
 | last hF ha h=>
  have e:Zaq (V.tk c 2 (V.T c) (V.y c) (V.z c)) c↔Zaq V c:=by
   unfold Zaq
   simp[Zb.tk,upd,hF,ha,h]
  refine⟨rfl,.inr ⟨e,?_⟩⟩
  by_cases h1:Zaq V c
  ·rw[Zet hF (by omega) h1,Zet (by simpa [Zb.tk] using hF) (by simp[Zb.tk,upd]) (e.2 h1)]
   rfl
  ·rw[Za5 (fun h=>h1 h.2.2),Za5 (fun h=>h1 (e.1 h.2.2))]
   rfl
 | none1 hF ha h=>
  have e:Zaq (V.tk c 3 (V.T c) (V.y c) (V.z c)) c↔Zaq V c:=by
   unfold Zaq
   simp[Zb.tk,upd,hF,ha]
   omega
  refine⟨rfl,.inr ⟨e,?_⟩⟩
  by_cases h1:Zaq V c
  ·rw[Zet hF (by omega) h1,Zet (by simpa [Zb.tk] using hF) (by simp[Zb.tk,upd]) (e.2 h1)]
   rfl
  ·rw[Za5 (fun h=>h1 h.2.2),Za5 (fun h=>h1 (e.1 h.2.2))]
   rfl
 | win hF ha h=>exact absurd (.inr (.inl ⟨hF,ha,h⟩)) hn
 | lose hF ha h=>
  refine⟨rfl,?_⟩
  by_cases h1:Zaq V c
  ·right
   obtain⟨q1,q2,_⟩:=h1 hF (by omega)
   obtain⟨q2,q3⟩:=q2 ha
   have h2:Zaq (V.tk c 3 (V.x c) (V.y c) (V.z c)) c:=fun _ _=>by
    simp[Zb.tk,upd]
    omega
   refine⟨⟨fun _=>h1,fun _=>h2⟩,?_⟩
   rw[Zet hF (by omega) h1,Zet (by simpa [Zb.tk] using hF) (by simp[Zb.tk,upd]) h2]
   rfl
  ·by_cases h2:Zaq (V.tk c 3 (V.x c) (V.y c) (V.z c)) c
   ·exact .inl ⟨h1,h2⟩
   ·refine .inr ⟨⟨fun h=>absurd h h2,fun h=>absurd h h1⟩,?_⟩
    rw[Za5 (fun h=>h1 h.2.2),Za5 (fun h=>h2 h.2.2)]
    rfl
 | work hF ha=>
  refine⟨rfl,?_⟩
  have h2:Zaq ((V.setB c (V.y c+1)).got c (V.z c)) c:=Zft (by simp[Zb.got,Zb.setB,upd])
  by_cases h1:Zaq V c
  ·refine .inr ⟨⟨fun _=>h1,fun _=>h2⟩,?_⟩
   have q1:=(h1 hF (by omega)).1
   rw[Zet hF (by omega) h1,Za5 (by simp[Zb.got,Zb.setB,upd])]
   simp[Zb.got,Zb.setB,upd]
   omega
  ·exact .inl ⟨h1,h2⟩
 | back hF ha=>
  refine⟨rfl,?_⟩
  have h2:Zaq ((V.setB c (V.y c+1)).fresh c (1 % m)) c:=Zft (by simp[Zb.fresh,Zb.setB,upd])
  by_cases h1:Zaq V c
  ·refine .inr ⟨⟨fun _=>h1,fun _=>h2⟩,?_⟩
   have q1:=(h1 hF (by omega)).1
   rw[Zet hF (by omega) h1,Za5 (by simp[Zb.fresh,Zb.setB,upd])]
   simp[Zb.fresh,Zb.setB,upd]
   omega
  ·exact .inl ⟨h1,h2⟩
 | top hF ha=>
  refine⟨rfl,.inr ⟨⟨fun _=>Zcw hF,fun _=>Zcw (by simpa [Zb.tk] using hF)⟩,?_⟩⟩
  rw[Za5 (fun h=>hF h.1),Za5 (by simp[Zb.tk,hF])]
  rfl
 | bottom hF ha h=>
  refine⟨rfl,.inr ⟨⟨fun _=>Zcw hF,fun _=>Zcw (by simpa [Zb.tk] using hF)⟩,?_⟩⟩
  rw[Za5 (fun h=>hF h.1),Za5 (by simp[Zb.tk,hF])]
  rfl
 | none2 hF ha h=>
  refine⟨rfl,.inr ⟨⟨fun _=>Zcw hF,fun _=>Zft (by simp[Zb.fresh,upd])⟩,?_⟩⟩
  rw[Za5 (fun h=>hF h.1),Za5 (by simp[Zb.fresh,upd])]
  rfl
 | read hF ha=>
  refine⟨rfl,.inr ⟨⟨fun _=>Zcw hF,fun _=>Zcw (by simpa [Zb.tk] using hF)⟩,?_⟩⟩
  rw[Za5 (fun h=>hF h.1),Za5 (by simp[Zb.tk,hF])]
  rfl
 | steal hF ha h=>exact absurd (.inr (.inr ⟨hF,ha,h⟩)) hn
 | lost hF ha h=>
  refine⟨rfl,.inr ⟨⟨fun _=>Zcw hF,fun _=>Zft (by simp[Zb.fresh,upd])⟩,?_⟩⟩
  rw[Za5 (fun h=>hF h.1),Za5 (by simp[Zb.fresh,upd])]
  rfl
theorem Zws {m:Nat}{V W:Zb}{c:Nat} (hc:c<m) (hidle:V.O c = -1) (s:StepC m V c W) (h:Claim m V c) (hw:(V.F c=0/\V.a c=2)∨W.O c ≠ -1):uV m W+1<=uV m V:=by
 unfold uV
 refine Zh5 m hc (fun i hi hne=>?_) ?_
 ·obtain⟨h1,h2,h3,_⟩:=Zcx s hne
  simp only[h1,h2,h3]
 ·have hnot:¬(V.F c=0/\V.a c=4):=by
   rintro ⟨h1,h2⟩
   rcases h with⟨_,h3,_⟩ | ⟨_,h3,_⟩ | ⟨h3,_⟩<;>omega
  have e1:(if V.O c = -1/\¬(V.F c=0/\V.a c=4) then 1 else 0)=1:=if_pos ⟨hidle,hnot⟩
  rw[e1]
  rcases hw with⟨h1,h2⟩ | h1
  ·have:W.F c=0/\W.a c=4:=by
    cases s<;>simp_all [Zb.tk,Zb.setT,upd,Claim]
   rw[if_neg fun hh=>hh.2 this]
   exact Nat.le_refl _
  ·rw[if_neg fun hh=>h1 hh.1]
   exact Nat.le_refl _
theorem Zwj {m:Nat}{V W:Zb}{c:Nat} (hc:c<m) (hidle:V.O c = -1) (s:StepC m V c W) (hn:¬Claim m V c) (hz:V.F c=0->V.a c=4->W.O c ≠ -1):uV m W=uV m V:=by
 unfold uV
 refine Zi5 m fun i hi=>?_
 by_cases e:i=c
 ·subst e
  cases s with
  | take hF ha h=>exact absurd (.inl ⟨hF,ha,h⟩) hn
  | win hF ha h=>exact absurd (.inr (.inl ⟨hF,ha,h⟩)) hn
  | steal hF ha h=>exact absurd (.inr (.inr ⟨hF,ha,h⟩)) hn
  | work hF ha=>
   have:=hz hF ha
   simp only[hF,ha,if_neg (fun h:_/\_=>this h.1)]
   simp
  | _=>simp_all [Zb.tk,Zb.got,Zb.fresh,Zb.setB,Zb.setT,upd]
 ·obtain⟨h1,h2,h3,_⟩:=Zcx s e
  simp only[h1,h2,h3]
theorem ZsH (m c f j:Nat):vic m c (f % m+j)=vic m c (f+j):=by
 unfold vic
 rw[show c+(f % m+j)=f % m+(c+j) by omega,Nat.mod_add_mod,show f+(c+j)=c+(f+j) by omega]
theorem Ztq {m:Nat}{V W:Zb}{i d:Nat} (hT:W.T=V.T) (hbe:∀j,BeG W j=BeG V j) (hF:W.F i=V.F i) (ha:W.a i=V.a i) (hx:W.x i=V.x i) (h:OKD m V i d):OKD m W i d:=by
 unfold OKD Zxi NE Zbj at *
 simp only[hT,hbe,hF,ha,hx]
 exact h
theorem Zwk {m:Nat}{V:Zb}{c d:Nat} (p:Gen m V c) (h:OKD m V c d):1<=d:=by
 have h0:=p.a0
 have h4:=p.a4
 rcases h with⟨_,_,h⟩ | ⟨_,h⟩ | ⟨j,h1,_,h⟩
 ·exact h
 ·unfold Zbj at h;split at h<;>omega
 ·omega
theorem Zk1 {m:Nat}{V W:Zb}{c d:Nat} (hT:W.T=V.T) (hbe:∀j,BeG W j=BeG V j) (hF:W.F c=(V.F c+1) % m) (ha:W.a c=0) (r:1<=Zbj V c) (h:∃j,1<=j/\NE V (vic m c (V.F c+j))/\Zbj V c+4*j<=d):OKD m W c (d-1):=by
 obtain⟨j,h1,h2,h3⟩:=h
 have ne:∀i,NE W i↔NE V i:=fun i=>by unfold NE;rw[hT,hbe]
 have r4:Zbj W c=4:=by unfold Zbj;rw[if_neg (by omega),ha];rfl
 by_cases e:j=1
 ·subst e
  refine .inr (.inl ⟨?_,by omega⟩)
  refine⟨(ne _).2 ?_,.inl ha⟩
  rw[hF]
  have:=ZsH m c (V.F c+1) 0
  rw[Nat.add_zero,Nat.add_zero] at this
  rw[this]
  exact h2
 ·refine .inr (.inr ⟨j-1,by omega,(ne _).2 ?_,by omega⟩)
  rw[hF,ZsH,show V.F c+1+(j-1)=V.F c+j by omega]
  exact h2
theorem In.step {m:Nat}{V:Zb}{c k:Nat}{last:Int} (G:∀i,i<m->Gen m V i) (hgot:ZiR m V c->(Zae m V c).O c ≠ -1) (hw:ZdE m V c) (hnext:∀p,ZdE m V p->p≠c->dP m (c:Int) p<dP m last p) (h:In m V last k) :
  uV m (Zae m V c)+1<=uV m V∨(uV m (Zae m V c)=uV m V/\wV m (Zae m V c)+1<=wV m V)∨(uV m (Zae m V c)=uV m V/\wV m (Zae m V c)=wV m V/\1<=k/\In m (Zae m V c) (c:Int) (k-1)):=by
 obtain⟨hc,hidle,hwant⟩:=hw
 have p:=G c hc
 have s:=ZyO p
 generalize hWW:Zae m V c=W at s hgot
 have hm:0<m:=by omega
 have hF':=p.F
 by_cases hcl:Claim m V c
 ·left
  have hO:(V.F c=0/\V.a c=2)∨W.O c ≠ -1:=by
   rcases hcl with⟨h1,h2,h3⟩ | ⟨h1,h2,h3⟩ | ⟨h1,h2,h3⟩
   ·exact .inr (hgot (.inl ⟨h1,h2,h3⟩))
   ·exact .inl ⟨h1,h2⟩
   ·exact .inr (hgot (.inr (.inr ⟨h1,h2,h3⟩)))
  exact Zws hc hidle s hcl hO
 ·right
  obtain⟨hT,hq⟩:=Zq7 s hcl
  have hz:V.F c=0->V.a c=4->W.O c ≠ -1:=fun h1 h2=>hgot (.inr (.inl ⟨h1,h2⟩))
  have hu:=Zwj hc hidle s hcl hz
  have oth:∀i,i≠c->(Zaq W i↔Zaq V i)/\BeG W i=BeG V i:=fun i hi=>by
   obtain⟨_,h2,h3,h4,h5,h6⟩:=Zcx s hi
   exact ZsS (by rw[hT]) h6 h2 h3 h4 h5
  rcases hq with⟨q1,q2⟩ | ⟨q1,q2⟩
  ·left
   refine⟨hu,?_⟩
   unfold wV
   refine Zh5 m hc (fun i hi hne=>?_) ?_
   ·by_cases h:Zaq V i
    ·rw[if_pos h,if_pos ((oth i hne).1.2 h)]
    ·rw[if_neg h,if_neg (fun h2=>h ((oth i hne).1.1 h2))]
   ·rw[if_pos q2,if_neg q1]
    exact Nat.le_refl _
  right
  have hbe:∀j,BeG W j=BeG V j:=fun j=>by
   by_cases e:j=c
   ·rw[e];exact q2
   ·exact(oth j e).2
  have hwv:wV m W=wV m V:=by
   unfold wV
   refine Zi5 m fun i hi=>?_
   by_cases e:i=c
   ·subst e
    by_cases h:Zaq V i
    ·rw[if_pos h,if_pos (q1.2 h)]
    ·rw[if_neg h,if_neg (fun h2=>h (q1.1 h2))]
   ·by_cases h:Zaq V i
    ·rw[if_pos h,if_pos ((oth i e).1.2 h)]
    ·rw[if_neg h,if_neg (fun h2=>h ((oth i e).1.1 h2))]
  have ne:∀i,NE W i↔NE V i:=fun i=>by unfold NE;rw[hT,hbe]
  have pend:∀q,q≠c->(Zpt m W q↔Zpt m V q):=fun q hq=>by
   obtain⟨h1,h2,h3,h4,h5,_⟩:=Zcx s hq
   unfold Zpt
   rw[h1,h2,h3,h4,h5,hT]
  refine⟨hu,hwv,?_⟩
  have dcc:dP m (c:Int) c=m-1:=by unfold dP;rw[if_neg (by omega)];omega
  rcases h with⟨q,hq,hk⟩ | ⟨np,hne,D,hD,hk⟩ | ⟨np,nn,hk⟩
  ·
   by_cases e:q=c
   ·subst e
    obtain⟨_,_,h1,h2⟩:=hq
    rcases h2 with⟨h2,h3⟩ | ⟨h2,h3⟩
    ·have hTy:V.T q=V.y q:=by
      by_cases hlt:V.T q<V.y q
      ·exact absurd (.inl ⟨h1,h2,hlt⟩) hcl
      ·omega
     have r2:rP V q=2:=by unfold rP;rw[if_pos h2]
     rw[r2] at hk
     have hW:W.O q = -1/\W.F q=0/\W.a q=2/\W.T q=W.x q:=by cases s<;>simp_all [Zb.tk,Zb.got,Zb.fresh,Zb.setB,Zb.setT,upd]<;>omega
     refine⟨by omega,.inl ⟨q,⟨hc,hW.1,hW.2.1,.inr ⟨hW.2.2.1,hW.2.2.2⟩⟩,?_⟩⟩
     have:rP W q=1:=by unfold rP;rw[if_neg (by omega)]
     rw[this,dcc]
     omega
    ·exact absurd (.inr (.inl ⟨h1,h2,h3⟩)) hcl
   ·have hd:=hnext q ⟨hq.1,hq.2.1,.inr (by rcases hq.2.2.2 with h | h<;>omega)⟩ e
    have hr:rP W q=rP V q:=by unfold rP;rw[(Zcx s e).2.2.1]
    refine⟨by omega,.inl ⟨q,(pend q e).2 hq,?_⟩⟩
    rw[hr]
    omega
  ·
   by_cases hpc:Zpt m W c
   ·refine⟨by omega,.inl ⟨c,hpc,?_⟩⟩
    have:rP W c<=2:=by unfold rP;split<;>omega
    have h2:rP W c*m<=2*m:=Nat.mul_le_mul_right m this
    rw[dcc]
    omega
   ·have okc:=hD c hc hidle
    have d1:=Zwk p okc
    have okW:W.O c = -1->OKD m W c (D c-1):=fun hO=>by
     have v0:V.F c=0->vic m c (V.F c)=c:=fun h=>by rw[h];exact Zqm hc
     cases s with
     | own0 hF ha=>
      have nc:¬NE V c:=fun hh=>hpc ⟨hc,hidle,by simpa [Zb.tk,Zb.setB] using hF,.inl (by
       unfold NE at hh
       rw[Za5 (by omega)] at hh
       simp[Zb.tk,Zb.setB,upd]
       omega)⟩
      rcases okc with⟨_,h4,_⟩ | ⟨⟨hg,_⟩,_⟩ | ⟨j,h1,h2,h3⟩
      ·omega
      ·rw[v0 hF] at hg;exact absurd hg nc
      ·refine .inr (.inr ⟨j,h1,(ne _).2 h2,?_⟩)
       have e1:Zbj V c=4:=by unfold Zbj;rw[if_neg (by omega),ha];rfl
       have e2:Zbj ((V.setB c (V.B c-1)).tk c 1 (V.x c) (V.B c-1) (V.z c)) c=3:=by unfold Zbj;simp[Zb.tk,upd]
       omega
     | take hF ha hlt=>exact absurd (.inl ⟨hF,ha,hlt⟩) hcl
     | last hF ha heq=>
      exact absurd ⟨hc,hidle,hF,.inl ⟨ha,by omega⟩⟩ (np c)
     | none1 hF ha hlt=>
      rcases okc with⟨_,h4,_⟩ | ⟨⟨_,hg⟩,_⟩ | ⟨j,h1,h2,h3⟩
      ·omega
      ·rcases hg with hg | ⟨hg,_⟩
       ·omega
       ·exact absurd hF hg
      ·refine .inr (.inr ⟨j,h1,(ne _).2 h2,?_⟩)
       have e1:Zbj V c=3:=by unfold Zbj;rw[if_neg (by omega),ha];rfl
       have e2:Zbj (V.tk c 3 (V.T c) (V.y c) (V.z c)) c=1:=by unfold Zbj;simp[Zb.tk,upd]
       omega
     | win hF ha heq=>exact absurd (.inr (.inl ⟨hF,ha,heq⟩)) hcl
     | lose hF ha hne2=>
      rcases okc with⟨_,h4,_⟩ | ⟨⟨_,hg⟩,_⟩ | ⟨j,h1,h2,h3⟩
      ·omega
      ·rcases hg with hg | ⟨hg,_⟩
       ·omega
       ·exact absurd hF hg
      ·refine .inr (.inr ⟨j,h1,(ne _).2 h2,?_⟩)
       have e1:Zbj V c=2:=by unfold Zbj;rw[if_neg (by omega),ha];rfl
       have e2:Zbj (V.tk c 3 (V.x c) (V.y c) (V.z c)) c=1:=by unfold Zbj;simp[Zb.tk,upd]
       omega
     | work hF ha=>
      exact absurd hO (hz hF ha)
     | back hF ha=>
      rcases okc with⟨_,h4,_⟩ | ⟨⟨_,hg⟩,_⟩ | hj
      ·omega
      ·rcases hg with hg | ⟨hg,_⟩
       ·omega
       ·exact absurd hF hg
      ·exact Zk1 hT hbe (by simp[Zb.fresh,Zb.setB,upd,hF]) (by simp[Zb.fresh,Zb.setB,upd]) (by unfold Zbj;split<;>omega) hj
     | top hF ha=>
      have e1:Zbj V c=4:=by unfold Zbj;rw[if_neg (by omega),ha];rfl
      have e2:Zbj (V.tk c 1 (V.T (vic m c (V.F c))) (V.y c) (V.z c)) c=3:=by unfold Zbj;simp[Zb.tk,upd]
      rcases okc with⟨h4,_,_⟩ | ⟨⟨hg,_⟩,hr⟩ | ⟨j,h1,h2,h3⟩
      ·exact absurd h4 hF
      ·exact .inr (.inl ⟨⟨(ne _).2 hg,.inr ⟨hF,by simp[Zb.tk,upd]⟩⟩,by omega⟩)
      ·exact .inr (.inr ⟨j,h1,(ne _).2 h2,by omega⟩)
     | bottom hF ha hlt=>
      have e1:Zbj V c=3:=by unfold Zbj;rw[if_neg (by omega),ha];rfl
      have e2:Zbj (V.tk c 2 (V.x c) (V.B (vic m c (V.F c))) (V.z c)) c=2:=by unfold Zbj;simp[Zb.tk,upd]
      rcases okc with⟨h4,_,_⟩ | ⟨⟨hg,hx⟩,hr⟩ | ⟨j,h1,h2,h3⟩
      ·exact absurd h4 hF
      ·refine .inr (.inl ⟨⟨(ne _).2 hg,.inr ⟨hF,?_⟩⟩,by omega⟩)
       rcases hx with hx | ⟨_,hx⟩
       ·omega
       ·simpa [Zb.tk,upd] using hx
      ·exact .inr (.inr ⟨j,h1,(ne _).2 h2,by omega⟩)
     | none2 hF ha hle=>
      rcases okc with⟨h4,_,_⟩ | ⟨⟨hg,hx⟩,hr⟩ | hj
      ·exact absurd h4 hF
      ·exfalso
       rcases hx with hx | ⟨_,hx⟩
       ·omega
       ·have hv:=Zpa hm c (V.F c)
        have pv:=G _ hv
        generalize vic m c (V.F c)=v at *
        unfold NE at hg
        by_cases ho:V.F v=0/\0<V.a v/\Zaq V v
        ·rw[Zet ho.1 ho.2.1 ho.2.2] at hg
         obtain⟨q1,q2,q3⟩:=ho.2.2 ho.1 ho.2.1
         have hi:V.O v = -1:=Classical.byContradiction fun hi=>by have:=(pv.busy hi).1;omega
         have a4:=pv.a4
         by_cases h1:V.a v=1
         ·exact np v ⟨hv,hi,ho.1,.inl ⟨h1,by omega⟩⟩
         ·by_cases h2:V.a v=2
          ·have:=q2 h2
           exact np v ⟨hv,hi,ho.1,.inr ⟨h2,by omega⟩⟩
          ·have:=q3 (by omega)
           omega
        ·rw[Za5 ho] at hg
         omega
      ·exact Zk1 hT hbe (by simp[Zb.fresh,upd]) (by simp[Zb.fresh,upd]) (by unfold Zbj;split<;>omega) hj
     | read hF ha=>
      have e1:Zbj V c=2:=by unfold Zbj;rw[if_neg (by omega),ha];rfl
      have e2:Zbj (V.tk c 3 (V.x c) (V.y c) (V.R (vic m c (V.F c)) (V.x c))) c=1:=by unfold Zbj;simp[Zb.tk,upd]
      rcases okc with⟨h4,_,_⟩ | ⟨⟨hg,hx⟩,hr⟩ | ⟨j,h1,h2,h3⟩
      ·exact absurd h4 hF
      ·refine .inr (.inl ⟨⟨(ne _).2 hg,.inr ⟨hF,?_⟩⟩,by omega⟩)
       rcases hx with hx | ⟨_,hx⟩
       ·omega
       ·simpa [Zb.tk,upd] using hx
      ·exact .inr (.inr ⟨j,h1,(ne _).2 h2,by omega⟩)
     | steal hF ha heq=>exact absurd (.inr (.inr ⟨hF,ha,heq⟩)) hcl
     | lost hF ha hne2=>
      rcases okc with⟨h4,_,_⟩ | ⟨⟨hg,hx⟩,hr⟩ | hj
      ·exact absurd h4 hF
      ·exfalso
       rcases hx with hx | ⟨_,hx⟩
       ·omega
       ·exact hne2 hx.symm
      ·exact Zk1 hT hbe (by simp[Zb.fresh,upd]) (by simp[Zb.fresh,upd]) (by unfold Zbj;split<;>omega) hj
    have dec:=Zh5 (f:=fun i=>if W.O i = -1 then upd D c (D c-1) i else 0) (h:=fun i=>if V.O i = -1 then D i else 0) (c:=c) m hc (fun i hi hne2=>by
     simp only[(Zcx s hne2).1,ZrM D _ hne2]) (by
     simp only[ZaS]
     rw[if_pos hidle]
     split<;>omega)
    refine⟨by omega,.inr (.inl ⟨fun q hq=>?_,?_,upd D c (D c-1),fun i hi ho=>?_,by omega⟩)⟩
    ·by_cases e:q=c
     ·rw[e] at hq;exact hpc hq
     ·exact np q ((pend q e).1 hq)
    ·obtain⟨j,h1,h2⟩:=hne
     exact⟨j,h1,(ne j).2 h2⟩
    ·by_cases e:i=c
     ·rw[e,ZaS]
      rw[e] at ho
      exact okW ho
     ·obtain⟨h1,h2,h3,h4,_⟩:=Zcx s e
      rw[ZrM D _ e]
      rw[h1] at ho
      exact Ztq hT hbe h2 h3 h4 (hD i hi ho)
  ·
   have ha0:V.a c≠0:=by
    rcases hwant with⟨j,h1,h2⟩ | h
    ·exfalso
     have:=ZBG V j
     exact nn j h1 (by unfold NE;omega)
    ·exact h
   have dec:=Zh5 (f:=fun i=>if W.O i = -1 then ZgU W i else 0) (h:=fun i=>if V.O i = -1 then ZgU V i else 0) (c:=c) m hc (fun i hi hne2=>by
    obtain⟨h1,h2,h3,_⟩:=Zcx s hne2
    simp only[ZgU,Zbj,h1,h3]) (by
    show(if W.O c = -1 then ZgU W c else 0)+1<=(if V.O c = -1 then ZgU V c else 0)
    have e1:(if V.O c = -1 then ZgU V c else 0)=ZgU V c:=if_pos hidle
    rw[e1]
    cases s with
    | own0 hF ha=>exact absurd ha ha0
    | take hF ha hlt=>exact absurd (.inl ⟨hF,ha,hlt⟩) hcl
    | last hF ha heq=>
     exact absurd ⟨hc,hidle,hF,.inl ⟨ha,by omega⟩⟩ (np c)
    | none1 hF ha hlt=>simp[ZgU,Zbj,Zb.tk,upd,ha,hidle]
    | win hF ha heq=>exact absurd (.inr (.inl ⟨hF,ha,heq⟩)) hcl
    | lose hF ha hne2=>simp[ZgU,Zbj,Zb.tk,upd,ha,hidle]
    | work hF ha=>
     rw[if_neg (hz hF ha)]
     simp[ZgU,Zbj,ha]
    | back hF ha=>simp[ZgU,Zbj,Zb.fresh,Zb.setB,upd,ha,hidle]
    | top hF ha=>exact absurd ha ha0
    | bottom hF ha hlt=>simp[ZgU,Zbj,Zb.tk,upd,ha,hidle]
    | none2 hF ha hle=>simp[ZgU,Zbj,Zb.fresh,upd,ha,hidle]
    | read hF ha=>simp[ZgU,Zbj,Zb.tk,upd,ha,hidle]
    | steal hF ha heq=>exact absurd (.inr (.inr ⟨hF,ha,heq⟩)) hcl
    | lost hF ha hne2=>simp[ZgU,Zbj,Zb.fresh,upd,ha,hidle])
   refine⟨by omega,.inr (.inr ⟨fun q hq=>?_,fun j hj=>by rw[ne];exact nn j hj,by omega⟩)⟩
   by_cases e:q=c
   ·subst e
    obtain⟨_,_,h1,h2⟩:=hq
    cases s with
    | own0 hF ha=>exact ha0 ha
    | take hF ha hlt=>exact hcl (.inl ⟨hF,ha,hlt⟩)
    | last hF ha heq=>exact np q ⟨hc,hidle,hF,.inl ⟨ha,by omega⟩⟩
    | win hF ha heq=>exact hcl (.inr (.inl ⟨hF,ha,heq⟩))
    | steal hF ha heq=>exact hcl (.inr (.inr ⟨hF,ha,heq⟩))
    | _=>simp_all [Zb.tk,Zb.got,Zb.fresh,Zb.setB,Zb.setT,upd]
   ·exact np q ((pend q e).1 hq)
def mi (m u:Nat):Nat:=3*m+u*(4*m+4)+(m-u)
theorem Zr8 {m a b:Nat} (h:a<=b) (hb:b<=m):mi m a<=mi m b:=by
 unfold mi
 obtain⟨d,rfl⟩:∃d,b=a+d:=⟨b-a,by omega⟩
 rw[Nat.add_mul]
 have:d<=d*(4*m+4):=Nat.le_mul_of_pos_right d (by omega)
 omega
theorem ZwB (m:Nat) (V:Zb):uV m V<=m:=(ZjT (a:=0) (b:=0) (p:=fun c=>V.O c = -1/\¬(V.F c=0/\V.a c=4)) (fun _=>Classical.propDecidable _) (f:=fun _=>0) (h:=fun c=>if V.O c = -1/\¬(V.F c=0/\V.a c=4) then 1 else 0) m fun i _=>⟨fun h=>⟨Nat.le_refl _,if_pos h⟩,fun h=>⟨Nat.le_refl _,if_neg h⟩⟩).2
theorem Zp8 (m:Nat) (last:Int) (p:Nat):(last<(p:Int)/\dP m last p=((p:Int)-last-1).toNat)∨((p:Int)<=last/\dP m last p=((p:Int)+m-last-1).toNat):=by
 unfold dP
 by_cases h:last<(p:Int)
 ·rw[if_pos h];exact .inl ⟨h,rfl⟩
 ·rw[if_neg h];exact .inr ⟨by omega,rfl⟩
theorem Zz4 {m:Nat}{last:Int} (hl : -1<=last/\last<m) {p:Nat} (hp:p<m):dP m last p+1<=m:=by
 unfold dP
 split<;>omega
theorem ZwV {m c f j:Nat} (hc:c<m) (hf:f<m) (hj:j<m):∃i,1<=i/\i<=m/\vic m c (f+i)=j:=by
 have h0:(c+f) % m<m:=Nat.mod_lt _ (by omega)
 refine⟨if j<=(c+f) % m then j+m-(c+f) % m else j-(c+f) % m,?_,?_,?_⟩
 ·split<;>omega
 ·split<;>omega
 ·unfold vic
  rw[<- Nat.add_assoc,Nat.add_mod]
  split
  ·rename_i h
   by_cases e:j=(c+f) % m
   ·rw[show j+m-(c+f) % m=m by omega,Nat.mod_self,Nat.add_zero,Nat.mod_mod]
    exact e.symm
   ·rw[Nat.mod_eq_of_lt (show j+m-(c+f) % m<m by omega),show(c+f) % m+(j+m-(c+f) % m)=j+m by omega,Nat.add_mod_right,Nat.mod_eq_of_lt hj]
  ·rename_i h
   rw[Nat.mod_eq_of_lt (show j-(c+f) % m<m by omega),show(c+f) % m+(j-(c+f) % m)=j by omega,Nat.mod_eq_of_lt hj]
theorem In.start {m:Nat}{V:Zb}{last:Int} (G:∀i,i<m->Gen m V i) (hl : -1<=last/\last<m):In m V last (mi m (uV m V)):=by
 have hu:=ZwB m V
 by_cases hp:∃p,Zpt m V p
 ·obtain⟨p,hp⟩:=hp
  refine .inl ⟨p,hp,?_⟩
  have h1:=Zz4 hl hp.1
  have h2:rP V p<=2:=by unfold rP;split<;>omega
  have h3:rP V p*m<=2*m:=Nat.mul_le_mul_right m h2
  unfold mi
  omega
 ·have np:∀p,¬Zpt m V p:=fun p h=>hp ⟨p,h⟩
  by_cases hn:∃j,j<m/\NE V j
  ·obtain⟨j,hj,hne⟩:=hn
   refine .inr (.inl ⟨np,⟨j,hj,hne⟩,fun c=>if V.F c=0/\V.a c=4 then 1 else 4*m+4,fun c hc ho=>?_,?_⟩)
   ·have p:=G c hc
    by_cases h4:V.F c=0/\V.a c=4
    ·simp only[if_pos h4]
     exact .inl ⟨h4.1,h4.2,Nat.le_refl _⟩
    ·simp only[if_neg h4]
     obtain⟨i,h1,h2,h3⟩:=ZwV hc p.F hj
     refine .inr (.inr ⟨i,h1,by rw[h3];exact hne,?_⟩)
     have:Zbj V c<=4:=by
      have:=p.a0
      unfold Zbj
      split<;>omega
     omega
   ·have:=(ZjT (a:=4*m+4) (b:=1) (p:=fun i=>V.O i = -1/\¬(V.F i=0/\V.a i=4)) (fun _=>Classical.propDecidable _) (f:=fun c=>if V.O c = -1 then (if V.F c=0/\V.a c=4 then 1 else 4*m+4) else 0) (h:=fun c=>if V.O c = -1/\¬(V.F c=0/\V.a c=4) then 1 else 0) m fun i _=>by
     constructor
     ·rintro ⟨h1,h2⟩
      simp only[if_pos h1,if_neg h2,h1,h2,not_false_iff,and_self,if_true]
      exact⟨Nat.le_refl _,trivial⟩
     ·intro h
      simp only[if_neg h]
      refine⟨?_,trivial⟩
      by_cases h1:V.O i = -1
      ·have h2:V.F i=0/\V.a i=4:=Classical.byContradiction fun h2=>h ⟨h1,h2⟩
       simp only[if_pos h1,if_pos h2]
       exact Nat.le_refl _
      ·simp only[if_neg h1]
       omega).1
    have this:ZdJ (fun c=>if V.O c = -1 then (if V.F c=0/\V.a c=4 then 1 else 4*m+4) else 0) m<=uV m V*(4*m+4)+(m-uV m V)*1:=this
    show 3*m+ZdJ (fun c=>if V.O c = -1 then (if V.F c=0/\V.a c=4 then 1 else 4*m+4) else 0) m<=mi m (uV m V)
    unfold mi
    omega
  ·refine .inr (.inr ⟨np,fun j hj hne=>hn ⟨j,hj,hne⟩,?_⟩)
   have:=(ZjT (a:=4) (b:=1) (p:=fun i=>V.O i = -1/\¬(V.F i=0/\V.a i=4)) (fun _=>Classical.propDecidable _) (f:=fun c=>if V.O c = -1 then ZgU V c else 0) (h:=fun c=>if V.O c = -1/\¬(V.F c=0/\V.a c=4) then 1 else 0) m fun i hi=>by
    have p:=G i hi
    have h0:=p.a0
    constructor
    ·rintro ⟨h1,h2⟩
     simp only[if_pos h1,h1,h2,not_false_iff,and_self,if_true]
     refine⟨?_,trivial⟩
     unfold ZgU Zbj
     split
     ·omega
     ·split<;>omega
    ·intro h
     simp only[if_neg h]
     refine⟨?_,trivial⟩
     by_cases h1:V.O i = -1
     ·have h2:V.F i=0/\V.a i=4:=Classical.byContradiction fun h2=>h ⟨h1,h2⟩
      simp only[if_pos h1]
      unfold ZgU Zbj
      rw[if_neg (by omega),if_pos h2.2]
      exact Nat.le_refl _
     ·simp only[if_neg h1]
      omega).1
   have h4:uV m V*4<=uV m V*(4*m+4):=Nat.mul_le_mul (Nat.le_refl _) (by omega)
   have this:ZdJ (fun c=>if V.O c = -1 then ZgU V c else 0) m<=uV m V*4+(m-uV m V)*1:=this
   unfold mi
   omega
def Next (m:Nat) (V:Zb) (last:Int) (c:Nat):Prop:=ZdE m V c/\((last<(c:Int)/\∀p,ZdE m V p->last<(p:Int)->c<=p)∨((∀p,ZdE m V p->(p:Int)<=last)/\∀p,ZdE m V p->c<=p))
theorem Next.near {m:Nat}{V:Zb}{last:Int}{c:Nat} (h:Next m V last c) (hl : -1<=last/\last<m):∀p,ZdE m V p->p≠c->dP m (c:Int) p<dP m last p:=fun p hp hne=>by
 obtain⟨hw,h⟩:=h
 have hc:=hw.1
 have hpm:=hp.1
 have e1:=Zp8 m (c:Int) p
 have e2:=Zp8 m last p
 rcases h with⟨h1,h2⟩ | ⟨h1,h2⟩
 ·by_cases h3:last<(p:Int)
  ·have:=h2 p hp h3
   rcases e1 with e1 | e1<;>rcases e2 with e2 | e2<;>omega
  ·rcases e1 with e1 | e1<;>rcases e2 with e2 | e2<;>omega
 ·have:=h1 p hp
  have:=h2 p hp
  rcases e1 with e1 | e1<;>rcases e2 with e2 | e2<;>omega
theorem Inv.gen {m:Nat}{base:Int->Prop}{V:Zb} (I:Inv m base V):∀i,i<m->Gen m V i:=fun i hi=>(I.pos i hi).gen
theorem Zoo:∀{f:Nat->Nat} (n:Nat),(∀i,i<n->f i=0)->ZdJ f n=0
 | _,0,_=>rfl
 | f,n+1,h=>by
  unfold ZdJ
  rw[Zoo n fun i hi=>h i (by omega),h n (by omega)]
theorem Inv.w {m:Nat}{base:Int->Prop}{V:Zb} (I:Inv m base V):wV m V=0:=by
 unfold wV
 exact Zoo m fun i hi=>if_pos (I.pos i hi).ownOK
theorem ZpP {f:Nat->Nat}:∀n,(∀i,i<n->f i<=1)->ZdJ f n<=n
 | 0,_=>Nat.le_refl _
 | n+1,e=>by
  have:=ZpP n fun i hi=>e i (by omega)
  have:=e n (by omega)
  unfold ZdJ
  omega
theorem Zye (m:Nat) (V:Zb):wV m V<=m:=ZpP m fun i _=>by split<;>omega
def Zlv (m u w k:Nat):Nat:=(u*(m+1)+w)*(mi m m+1)+k
theorem ZlY {m a b k k':Nat} (h:a+1<=b) (hk:k'<=mi m m):a*(mi m m+1)+k'+1<=b*(mi m m+1)+k:=by
 have h1:=Nat.mul_le_mul_right (mi m m+1) h
 rw[Nat.succ_mul] at h1
 omega
theorem Zun {σ:Type}{m L:Nat} (v:σ->Zb) (st:σ->Nat->σ) (J:σ->Prop) (Err:σ->Nat->Prop) (hJ:∀S,J S->∀i,i<m->Gen m (v S) i)
  (hstep:∀S c,J S->ZdE m (v S) c->¬Err S c->J (st S c)/\v (st S c)=Zae m (v S) c/\(ZiR m (v S) c->(Zae m (v S) c).O c ≠ -1)) (ch:σ->Int->Nat->Nat)
  (hch:∀S last s,J S->(∃c,ZdE m (v S) c)->ZdE m (v S) (ch S last s)/\(L<=s->Next m (v S) last (ch S last s)))
  (Q:Nat->Nat->σ->Int->Prop) (h0:∀n s S l,J S->(∀c,¬ZdE m (v S) c)->Q n s S l) (he:∀n s S l,J S->ZdE m (v S) (ch S l s)->Err S (ch S l s)->Q n s S l)
  (h1:∀n s S l,J S->ZdE m (v S) (ch S l s)->¬Err S (ch S l s)->Q n (s+1) (st S (ch S l s)) (ch S l s:Int)->Q (n+1) s S l) :
  ∀s S l,J S->(-1<=l/\l<(m:Int))->Q ((L-s)+Zlv m m m (mi m m)) s S l:=by
 have late:∀N k s S l,L<=s->J S->(-1<=l/\l<(m:Int))->In m (v S) l k->k<=mi m m->Zlv m (uV m (v S)) (wV m (v S)) k<=N->Q N s S l:=by
  intro N
  induction N with
  | zero=>
   intro k s S l hs j hl hin hk hN
   by_cases hx:∃c,ZdE m (v S) c
   ·obtain⟨w1,w2⟩:=hch S l s j hx
    by_cases e:Err S (ch S l s)
    ·exact he _ s S l j w1 e
    ·exfalso
     obtain⟨j',ev,hg⟩:=hstep S _ j w1 e
     have hw:=Zye m (Zae m (v S) (ch S l s))
     rcases In.step (hJ S j) hg w1 ((w2 hs).near hl) hin with h | ⟨h,h2⟩ | ⟨h,h2,h3,h4⟩
     ·have h5:=Nat.mul_le_mul_right (m+1) h
      rw[Nat.succ_mul] at h5
      have:=ZlY (m:=m) (a:=0) (b:=uV m (v S)*(m+1)+wV m (v S)) (k:=k) (k':=0) (by omega) (by omega)
      unfold Zlv at hN
      omega
     ·have:=ZlY (m:=m) (a:=0) (b:=uV m (v S)*(m+1)+wV m (v S)) (k:=k) (k':=0) (by omega) (by omega)
      unfold Zlv at hN
      omega
     ·unfold Zlv at hN
      omega
   ·exact h0 _ s S l j fun c hc=>hx ⟨c,hc⟩
  | succ N ih=>
   intro k s S l hs j hl hin hk hN
   by_cases hx:∃c,ZdE m (v S) c
   ·obtain⟨w1,w2⟩:=hch S l s j hx
    by_cases e:Err S (ch S l s)
    ·exact he _ s S l j w1 e
    ·have hc:=w1.1
     have hl' : -1<=((ch S l s:Nat):Int)/\((ch S l s:Nat):Int)<(m:Int):=by omega
     obtain⟨j',ev,hg⟩:=hstep S _ j w1 e
     have nx:=In.start (hJ _ j') hl'
     have hw:=Zye m (Zae m (v S) (ch S l s))
     have hmi:=Zr8 (m:=m) (ZwB m (v (st S (ch S l s)))) (Nat.le_refl m)
     refine h1 N s S l j w1 e ?_
     rcases In.step (hJ S j) hg w1 ((w2 hs).near hl) hin with h | ⟨h,h2⟩ | ⟨h,h2,h3,h4⟩
     ·refine ih _ (s+1) _ _ (by omega) j' hl' nx hmi ?_
      rw[ev] at hmi ⊢
      have h5:=Nat.mul_le_mul_right (m+1) h
      rw[Nat.succ_mul] at h5
      have:=ZlY (m:=m) (a:=uV m (Zae m (v S) (ch S l s))*(m+1)+wV m (Zae m (v S) (ch S l s))) (b:=uV m (v S)*(m+1)+wV m (v S)) (k:=k) (by omega) hmi
      unfold Zlv at hN ⊢
      omega
     ·refine ih _ (s+1) _ _ (by omega) j' hl' nx hmi ?_
      rw[ev] at hmi ⊢
      have:=ZlY (m:=m) (a:=uV m (Zae m (v S) (ch S l s))*(m+1)+wV m (Zae m (v S) (ch S l s))) (b:=uV m (v S)*(m+1)+wV m (v S)) (k:=k) (by rw[h];omega) hmi
      unfold Zlv at hN ⊢
      omega
     ·refine ih (k-1) (s+1) _ _ (by omega) j' hl' (by rw[ev];exact h4) (by omega) ?_
      rw[ev]
      unfold Zlv at hN ⊢
      rw[h,h2]
      omega
   ·exact h0 _ s S l j fun c hc=>hx ⟨c,hc⟩
 intro s
 generalize hd:L-s=d
 induction d generalizing s with
 | zero=>
  intro S l j hl
  have h5:=Zr8 (m:=m) (ZwB m (v S)) (Nat.le_refl m)
  rw[Nat.zero_add]
  refine late _ _ s S l (by omega) j hl (In.start (hJ S j) hl) h5 ?_
  have h6:=Nat.mul_le_mul_right (m+1) (ZwB m (v S))
  have h7:=Zye m (v S)
  have h8:=Nat.mul_le_mul_right (mi m m+1) (Nat.add_le_add h6 h7)
  unfold Zlv
  omega
 | succ d ih=>
  intro S l j hl
  by_cases hw:∃c,ZdE m (v S) c
  ·obtain⟨w1,_⟩:=hch S l s j hw
   by_cases e:Err S (ch S l s)
   ·exact he _ s S l j w1 e
   ·have:=w1.1
    have q:=ih (s+1) (by omega) _ _ (hstep S _ j w1 e).1 (show -1<=((ch S l s:Nat):Int)/\((ch S l s:Nat):Int)<(m:Int) by omega)
    have e2:d+1+Zlv m m m (mi m m)=d+Zlv m m m (mi m m)+1:=by omega
    rw[e2]
    exact h1 _ s S l j w1 e q
  ·exact h0 _ s S l j fun c hc=>hw ⟨c,hc⟩
theorem ZzW:∃k:Unit,ZgB 64=some (.inr k):=by
 have hk:=ZpN 64
 have:Zts 64=true:=by
  have:=Zry 64 (by omega)
  rw[show((64:Nat):Int)=64 from rfl] at this
  rw[this];rfl
 rw[this] at hk
 exact⟨(),hk⟩
def gt {α β:Type} (f:α->β) (z:β) (l:List α) (c:Nat):β:=match l[c]? with | some x=>f x | none=>z
theorem Z9 {α β:Type}{f:α->β}{z:β}{l:List α}{c:Nat}{x:α} (h:l[c]? = some x):gt f z l c=f x:=by unfold gt;rw[h]
theorem ZbH {α β:Type}{f:α->β}{z:β}{l:List α}{c:Nat}{v:α} (h:c<l.length):gt f z (l.set c v)=upd (gt f z l) c (f v):=by
 funext k
 unfold gt upd
 rw[List.getElem?_set]
 by_cases e:c=k
 ·subst e;rw[if_pos rfl,if_pos h,if_pos rfl]
 ·rw[if_neg e,if_neg (fun h=>e h.symm)]
theorem Zvk {α:Type} (f:Nat->α) (c:Nat) {v:α} (h:v=f c):upd f c v=f:=by
 funext k
 unfold upd
 split
 ·rename_i e;rw[h,e]
 ·rfl
def plc (k:Int):Nat:=(Int.tmod (bif decide (k<0) then 0 else k) 64).toNat
theorem ZuE (k:Int):Int.tmod (bif decide (k<0) then 0 else k) 64=(plc k:Int)/\plc k<64:=by
 have h0:(0:Int)<=(bif decide (k<0) then 0 else k):=by
  by_cases h:k<0
  ·rw[decide_eq_true h];exact Int.le_refl _
  ·rw[decide_eq_false h];show 0<=k;omega
 unfold plc
 have h1:=Int.tmod_nonneg 64 h0
 have h2:=Int.tmod_lt_of_pos (bif decide (k<0) then 0 else k) (show(0:Int)<64 by omega)
 omega
def Zgn (r:List Int) (k:Int):Int:=gt id 0 r (plc k)
theorem Zl1 {d:Za} (h:d.ring.length=64) (k:Int):Zb0 d k=some (plc k:Int):=by
 unfold Zb0
 rw[h,show((64:Nat):Int)=64 from rfl,(ZuE k).1]
 rfl
theorem Zpq {r:List Int} (h:r.length=64) (k:Int):ZG r (plc k:Int)=some (Zgn r k):=by
 have hl:plc k<r.length:=by rw[h];exact(ZuE k).2
 have:=List.getElem?_eq_getElem hl
 rw[Zr this]
 unfold Zgn
 rw[Z9 this]
 rfl
theorem Zdt {l:List Int} (h:l.length<=1073741824):Zj l=some ():=by
 unfold Zj
 rw[Zc1 h];rfl
theorem Zso {d:Za} (h:d.ring.length=64):ZeB d=some ():=by
 unfold ZeB
 rw[Zdt (by omega)];rfl
theorem Zp4 {m c:Nat}{f:Int} (hm:0<m) (h8:m<=8) (hc:c<m) (h0:0<=f) (hf:f<(m:Int)):Int.tmod (w64 ((c:Int)+f)) (m:Int)=((vic m c f.toNat:Nat):Int):=by
 rw[Zc3 (by omega) (by omega),show(c:Int)+f=((c+f.toNat:Nat):Int) by omega,Int.tmod_eq_emod_of_nonneg (by omega)]
 rfl
theorem Zxh {m:Nat}{f:Int} (hm:0<m) (h8:m<=8) (h0:0<=f) (hf:f<(m:Int)):Int.tmod (w64 (f+1)) (m:Int)=(((f.toNat+1) % m:Nat):Int):=by
 rw[Zc3 (by omega) (by omega),show f+1=((f.toNat+1:Nat):Int) by omega,Int.tmod_eq_emod_of_nonneg (by omega)]
 rfl
section
variable {m c:Nat} {work:List Int} {E:List Zo} {on left fs:List Int} {ds:List Za} {ts:List Ze} {f:Int} {d d':Za} {t t':Ze}
theorem ZsK {c:Nat}{x:Int}{ts:List Ze}{fs:List Int} (ht:c<ts.length) (hf:c<fs.length):Za1 (c:Int) x ts fs=some (ts.set c ⟨x != 0,0,0,0,0,0⟩):=by
 unfold Za1
 rw[Zr (List.getElem?_eq_getElem hf),Option.bind_some,Zr (List.getElem?_eq_getElem ht)]
 cases x != 0<;>rfl
theorem Ztr (hm:0<m) (h8:m<=8) (hc:c<m) (ho:on.length=m) (h0:0<=f) (hf:f<(m:Int)) (hfs:fs[c]? = some f) (hds:ds[vic m c f.toNat]? = some d) (hts:ts[c]? = some t) (hd:Zab d t=some (d',t',0)) (he:t'.end_=0) :
  ZC (c:Int) work E on left ds ts fs=some (0,on,ds.set (vic m c f.toNat) d',ts.set c t',fs):=by
 unfold ZC
 rw[Zr hfs,Option.bind_some,ho,show((m:Int)==0)=false from beq_eq_false_iff_ne.2 (by omega),cond_false,Zp4 hm h8 hc h0 hf,Zr hds,Option.bind_some,Zr hts,Option.bind_some,hd,Option.bind_some]
 simp only[he,show((0:Int) != 0)=false from rfl,show((0:Int)==1)=false from rfl,show((0:Int)==2)=false from rfl,show((0:Int)==3)=false from rfl,cond_false,Int.toNat_natCast]
theorem Zs6 {R:List Int} (hm:0<m) (h8:m<=8) (hc:c<m) (ho:on.length=m) (hl:ts.length=m) (hlf:fs.length=m) (h0:0<=f) (hf:f<(m:Int)) (hfs:fs[c]? = some f) (hds:ds[vic m c f.toNat]? = some d) (hts:ts[c]? = some t) (hd:Zab d t=some (d',t',0)) (he:t'.end_=1)
  (hR:ZbV ⟨work,E⟩ ⟨on,left⟩=some R) (hRl:R.length<9223372036854775808) (hg:t'.got∈R) :
  ZC (c:Int) work E on left ds ts fs=some (0,on.set c t'.got,ds.set (vic m c f.toNat) d',ts.set c ⟨false,0,0,0,0,0⟩,fs.set c 0):=by
 unfold ZC
 rw[Zr hfs,Option.bind_some,ho,show((m:Int)==0)=false from beq_eq_false_iff_ne.2 (by omega),cond_false,Zp4 hm h8 hc h0 hf,Zr hds,Option.bind_some,Zr hts,Option.bind_some,hd,Option.bind_some]
 simp only[he,show((0:Int) != 0)=false from rfl,show((1:Int)==1)=true from rfl,cond_false,cond_true,hR,Option.bind_some,ZfI R _ hRl,Zhm,decide_eq_true hg,Zr (List.getElem?_eq_getElem (show c<on.length by omega)),Int.toNat_natCast]
 rw[show(0:Int)=(0:Int) from rfl,ZsK (by rw[List.length_set];omega) (by omega),Option.bind_some,List.set_set]
 rfl
theorem ZqX (hm:0<m) (h8:m<=8) (hc:c<m) (ho:on.length=m) (hl:ts.length=m) (hlf:fs.length=m) (h0:0<=f) (hf:f<(m:Int)) (hfs:fs[c]? = some f) (hds:ds[vic m c f.toNat]? = some d) (hts:ts[c]? = some t) (hd:Zab d t=some (d',t',0)) (he:t'.end_=2∨t'.end_=3) :
  ZC (c:Int) work E on left ds ts fs=some (0,on,ds.set (vic m c f.toNat) d',ts.set c ⟨(((f.toNat+1) % m:Nat):Int) != 0,0,0,0,0,0⟩,fs.set c (((f.toNat+1) % m:Nat):Int)):=by
 unfold ZC
 rw[Zr hfs,Option.bind_some,ho,show((m:Int)==0)=false from beq_eq_false_iff_ne.2 (by omega),cond_false,Zp4 hm h8 hc h0 hf,Zr hds,Option.bind_some,Zr hts,Option.bind_some,hd,Option.bind_some]
 have hfr:=ZsK (c:=c) (x:=(((f.toNat+1) % m:Nat):Int)) (ts:=ts.set c t') (fs:=fs) (by rw[List.length_set];omega) (by omega)
 rcases he with he | he
 ·simp only[he,show((0:Int) != 0)=false from rfl,show((2:Int)==1)=false from rfl,show((2:Int)==2)=true from rfl,cond_false,cond_true,Zxh hm h8 h0 hf,hfr,Option.bind_some,Int.toNat_natCast,List.set_set]
 ·simp only[he,show((0:Int) != 0)=false from rfl,show((3:Int)==1)=false from rfl,show((3:Int)==2)=false from rfl,show((3:Int)==3)=true from rfl,cond_false,cond_true,Zxh hm h8 h0 hf,hfr,Option.bind_some,Int.toNat_natCast,List.set_set]
end
def vw (on:List Int) (ds:List Za) (ts:List Ze) (fs:List Int):Zb:=
 ⟨gt (·.top) 0 ds,gt (·.bottom) 0 ds,gt (fun d=>Zgn d.ring) (fun _=>0) ds,gt id 0 on,gt (·.at_) 0 ts,gt (·.top) 0 ts,gt (·.bottom) 0 ts,gt (·.got) 0 ts,gt Int.toNat 0 fs⟩
def base (E:List Zo) (left:List Int) (n:Int):Prop:=isN left n/\0<lf left n/\Zhd E left n
end Go.Proofs.YtgcfmiajkbbmeaaGreat
namespace Go.Proofs.YtgcfmiajkbbmeaaGreat
open Go Go.Proofs.YtgcfmiajkbbmeaaGreatE
open Go.IntKind (u64 i64 u32 i32 u8)
theorem Zb.eq_of {V W:Zb} (hT:V.T=W.T) (hB:V.B=W.B) (hR:V.R=W.R) (hO:V.O=W.O) (ha:V.a=W.a) (hx:V.x=W.x) (hy:V.y=W.y) (hz:V.z=W.z) (hF:V.F=W.F):V=W:=by
 cases V;cases W;cases hT;cases hB;cases hR;cases hO;cases ha;cases hx;cases hy;cases hz;cases hF;rfl
theorem Zb2 {α:Type}{l:List α}{i:Nat}{v x:α} (h:x∈l.set i v):x∈l∨x=v:=by
 obtain⟨j,hj⟩:=List.getElem?_of_mem h
 rw[List.getElem?_set] at hj
 split at hj
 ·split at hj
  ·exact .inr (Option.some.inj hj).symm
  ·cases hj
 ·exact .inl (List.mem_of_getElem? hj)
section
variable {g:Zm} {m c v:Nat} {on left fs:List Int} {ds:List Za} {ts:List Ze} {f:Int} {d d':Za} {t t':Ze}
theorem Zmv (hv:v<ds.length) (hd:ds[v]? = some d) (hr:d'.ring=d.ring):gt (fun d:Za=>Zgn d.ring) (fun _=>0) (ds.set v d')=gt (fun d:Za=>Zgn d.ring) (fun _=>0) ds:=by
 rw[ZbH hv]
 exact Zvk _ _ (by rw[Z9 hd,hr])
end
end Go.Proofs.YtgcfmiajkbbmeaaGreat
namespace Go.Proofs.YtgcfmiajkbbmeaaGreat
open Go Go.Proofs.YtgcfmiajkbbmeaaGreatE
open Go.IntKind (u64 i64 u32 i32 u8)
theorem Zqo (l:List Za) (f:Za->Option Bool) (p:Za->Bool) (hf:∀x∈l,f x=some (p x)) (hl:l.length<9223372036854775808):ZY l f=some (l.any p):=by
 unfold ZY Zaz
 refine Zia l p _ (fun i x hi hx=>?_) ?_
 ·simp only[Z0,ZcJ hi,Zr hx,Option.bind_some,hf x (List.mem_of_getElem? hx),ZN hi hl,cond_true]
  cases p x<;>rfl
 ·simp only[Z0,ZcW];rfl
def ZqD (m:Nat) (V:Zb):Bool:=(List.range m).any fun j=>decide (V.T j<V.B j)
def wlV (m:Nat) (V:Zb):List Int:=((List.range m).filter fun i=>decide (V.O i = -1)&&(ZqD m V || !decide (V.a i=0))).map fun i:Nat=>(i:Int)
theorem Zga {m:Nat}{V:Zb}{z:Int}:z∈wlV m V↔0<=z/\ZdE m V z.toNat:=by
 unfold wlV
 rw[ZgT]
 unfold ZdE ZqD
 simp only[Bool.and_eq_true,Bool.or_eq_true,Bool.not_eq_true',decide_eq_true_eq,decide_eq_false_iff_not,List.any_eq_true,List.mem_range]
theorem Zub {m:Nat}{ds:List Za} (hl:ds.length=m) (on:List Int) (ts:List Ze) (fs:List Int):(ds.any fun d=>decide (d.top<d.bottom))=ZqD m (vw on ds ts fs):=by
 rw[Bool.eq_iff_iff]
 unfold ZqD
 rw[List.any_eq_true,List.any_eq_true]
 constructor
 ·rintro ⟨d,hd,h⟩
  obtain⟨i,hi⟩:=List.getElem?_of_mem hd
  refine⟨i,List.mem_range.2 (by rw[<- hl];exact(List.getElem?_eq_some_iff.1 hi).1),?_⟩
  rw[show(vw on ds ts fs).T i=d.top from Z9 hi,show(vw on ds ts fs).B i=d.bottom from Z9 hi]
  exact h
 ·rintro ⟨i,hi,h⟩
  rw[List.mem_range] at hi
  have hd:ds[i]? = some ds[i]:=List.getElem?_eq_getElem (by omega)
  rw[show(vw on ds ts fs).T i=ds[i].top from Z9 hd,show(vw on ds ts fs).B i=ds[i].bottom from Z9 hd] at h
  exact⟨_,List.getElem_mem _,h⟩
theorem Zux (d:Za):Zaa d=some (decide (d.top<d.bottom)):=by
 unfold Zaa
 cases decide (d.top<d.bottom)<;>rfl
theorem Zw8 {m:Nat}{on fs:List Int}{ds:List Za}{ts:List Ze} (ho:on.length=m) (hd:ds.length=m) (ht:ts.length=m) (h8:m<=8):ZaV on ds ts=some (wlV m (vw on ds ts fs)):=by
 unfold ZaV
 rw[Zqo ds _ (fun d=>decide (d.top<d.bottom)) (fun d _=>Zux d) (by omega),Option.bind_some,Zub hd on ts fs]
 unfold wlV
 cases hs:ZqD m (vw on ds ts fs) with
 | true=>
  rw[cond_true,Zpp (n:=on.length) (ZaR on) (fun i=>decide ((vw on ds ts fs).O i = -1)&&(true || !decide ((vw on ds ts fs).a i=0))) (fun i out hi hout=>?_) (fun out=>by simp only[ZaR,ZcW];rfl),Option.bind_some,ho]
  have hx:=List.getElem?_eq_getElem hi
  simp only[ZaR,ZcJ hi,cond_true,Zr hx,Option.bind_some,ZN hi (show on.length<9223372036854775808 by omega),Zc1 (show out.length+1<=1073741824 by omega),Bool.true_or,Bool.and_true]
  rw[show(vw on ds ts fs).O i=on[i] from Z9 hx]
  by_cases h:on[i] = -1
  ·rw[show(on[i] == -1)=true from beq_iff_eq.2 h,decide_eq_true h];rfl
  ·rw[show(on[i] == -1)=false from beq_eq_false_iff_ne.2 h,decide_eq_false h];rfl
 | false=>
  rw[cond_false,Zpp (n:=on.length) (Zav on ts) (fun i=>decide ((vw on ds ts fs).O i = -1)&&(false || !decide ((vw on ds ts fs).a i=0))) (fun i out hi hout=>?_) (fun out=>by simp only[Zav,ZcW];rfl),Option.bind_some,ho]
  have hx:=List.getElem?_eq_getElem hi
  have ht:=List.getElem?_eq_getElem (show i<ts.length by omega)
  simp only[Zav,ZcJ hi,cond_true,Zr hx,Zr ht,Option.bind_some,ZN hi (show on.length<9223372036854775808 by omega),Zc1 (show out.length+1<=1073741824 by omega),Bool.false_or]
  rw[show(vw on ds ts fs).O i=on[i] from Z9 hx,show(vw on ds ts fs).a i=ts[i].at_ from Z9 ht]
  by_cases h:on[i] = -1
  ·rw[show(on[i] == -1)=true from beq_iff_eq.2 h,decide_eq_true h]
   by_cases h2:ts[i].at_=0
   ·rw[show(ts[i].at_ != 0)=false by rw[h2];rfl,decide_eq_true h2];rfl
   ·rw[show(ts[i].at_ != 0)=true by simpa using h2,decide_eq_false h2];rfl
  ·rw[show(on[i] == -1)=false from beq_eq_false_iff_ne.2 h,decide_eq_false h];rfl
theorem Zw1 (m:Nat) (V:Zb):(wlV m V).length<=m:=by
 unfold wlV
 rw[List.length_map]
 exact Nat.le_trans (List.length_filter_le _ _) (by rw[List.length_range];exact Nat.le_refl _)
theorem Zrq (m:Nat) (V:Zb):(wlV m V).Pairwise (· < ·):=by
 unfold wlV
 refine List.Pairwise.map _ (fun a b (h:a<b)=>by omega) (List.Pairwise.filter _ List.pairwise_lt_range)
def ZmK (last:Int):Nat->List Int->Option Nat
 | _,[]=>none
 | i,x :: l=>if last<x then some i else ZmK last (i+1) l
theorem ZkU (last:Int):∀(l:List Int) (i:Nat),(match ZmK last i l with | some k=>i<=k/\(∃x,l[k-i]? = some x/\last<x/\∀j,j<k-i->∀y,l[j]? = some y->y<=last) | none=>∀y∈l,y<=last)
 | [],i=>fun y hy=>by cases hy
 | x :: l,i=>by
  unfold ZmK
  by_cases h:last<x
  ·rw[if_pos h]
   exact⟨Nat.le_refl _,x,by simp,h,fun j hj=>by omega⟩
  ·rw[if_neg h]
   have ih:=ZkU last l (i+1)
   cases hf:ZmK last (i+1) l with
   | none=>
    rw[hf] at ih
    intro y hy
    rcases List.mem_cons.1 hy with rfl | hy
    ·omega
    ·exact ih y hy
   | some k=>
    rw[hf] at ih
    obtain⟨h1,z,h2,h3,h4⟩:=ih
    refine⟨by omega,z,?_,h3,fun j hj y hy=>?_⟩
    ·rw[show k-i=(k-(i+1))+1 by omega];exact h2
    ·cases j with
     | zero=>cases hy;omega
     | succ j=>exact h4 j (by omega) y hy
def nxI (l:List Int) (last:Int):Nat:=match ZmK last 0 l with | some k=>k | none=>0
theorem ZtS (l:List Int) (last:Int) (hl:l.length<9223372036854775808):ZB l (fun z0=>Zaf z0 last)=some (match ZmK last 0 l with | some k=>(k:Int) | none=>-1):=by
 unfold ZB
 have key:=Zg6 l (Zs l (fun z0=>Zaf z0 last)) (fun _ x=>decide (last<x)) (fun i _=>.inl (i:Int)) (.inr ()) (fun i x hi hx=>by
  simp only[Zs,ZcJ hi,cond_true,Zr hx,Option.bind_some,Zaf,ZN hi hl]
  cases decide (last<x)<;>rfl) (by simp only[Zs,ZcW];rfl)
 rw[key,Option.bind_some]
 have:∀(l:List Int) (i:Nat),Zhx (fun _ x=>decide (last<x)) (fun i (_:Int)=>(.inl (i:Int):Int⊕Unit)) (.inr ()) i l=(match ZmK last i l with | some k=>.inl (k:Int) | none=>.inr ()):=by
  intro l
  induction l with
  | nil=>intro i;rfl
  | cons x l ih=>
   intro i
   unfold Zhx ZmK
   by_cases h:last<x
   ·rw[if_pos h,decide_eq_true h];rfl
   ·rw[if_neg h,decide_eq_false h,cond_false];exact ih (i+1)
 rw[this l 0]
 cases ZmK last 0 l<;>rfl
def chI (l picks:List Int) (last:Int) (s:Nat):Int:=
 match picks[s]? with
 | some x=>gt id 0 l (Int.tmod (bif decide (x<0) then 0 else x) (l.length:Int)).toNat
 | none=>gt id 0 l (nxI l last)
theorem ZuY {l picks:List Int}{last:Int}{s:Nat} (hne:l≠[]) (hl:l.length<9223372036854775808) (hp:picks.length<9223372036854775808):ZbW last l picks (s:Int)=some (chI l picks last s)/\chI l picks last s∈l:=by
 have h0:0<l.length:=List.length_pos_iff.2 hne
 unfold ZbW chI
 by_cases hs:s<picks.length
 ·have hx:=List.getElem?_eq_getElem hs
  rw[ZcJ hs,cond_true,Zr hx,Option.bind_some,hx,show((l.length:Int)==0)=false from beq_eq_false_iff_ne.2 (by omega),cond_false]
  have hz:(0:Int)<=(bif decide (picks[s]<0) then 0 else picks[s]):=by
   by_cases h:picks[s]<0
   ·rw[decide_eq_true h];exact Int.le_refl _
   ·rw[decide_eq_false h];show 0<=picks[s];omega
  have h1:=Int.tmod_nonneg (l.length:Int) hz
  have h2:=Int.tmod_lt_of_pos (bif decide (picks[s]<0) then 0 else picks[s]) (show(0:Int)<(l.length:Int) by omega)
  have h3:(Int.tmod (bif decide (picks[s]<0) then 0 else picks[s]) (l.length:Int)).toNat<l.length:=by omega
  have hy:=List.getElem?_eq_getElem h3
  rw[ZrR h1 hy,Option.bind_some]
  dsimp only
  rw[Z9 hy]
  exact⟨rfl,List.getElem_mem _⟩
 ·have hn:picks[s]? = none:=List.getElem?_eq_none (by omega)
  rw[decide_eq_false (show ¬(s:Int)<(picks.length:Int) by omega),cond_false,hn,ZtS l last hl,Option.bind_some]
  dsimp only
  have sp:=ZkU last l 0
  unfold nxI
  cases hf:ZmK last 0 l with
  | none=>
   dsimp only
   have hy:=List.getElem?_eq_getElem h0
   rw[Z9 hy]
   have:ZG l (bif decide ((-1:Int)<0) then 0 else -1)=some l[0]:=Zr (i:=0) hy
   rw[this]
   exact⟨rfl,List.getElem_mem _⟩
  | some k=>
   rw[hf] at sp
   obtain⟨_,x,h1,_⟩:=sp
   rw[Nat.sub_zero] at h1
   dsimp only
   rw[Z9 h1,decide_eq_false (show ¬(k:Int)<0 by omega),cond_false,Zr h1]
   exact⟨rfl,List.mem_of_getElem? h1⟩
def chV (m:Nat) (picks:List Int) (V:Zb) (last:Int) (s:Nat):Nat:=(chI (wlV m V) picks last s).toNat
theorem Zkq {m:Nat}{picks:List Int}{V:Zb}{last:Int}{s:Nat} (hm:m<=8) (hp:picks.length<9223372036854775808) (h:∃c,ZdE m V c):ZdE m V (chV m picks V last s)/\(picks.length<=s->Next m V last (chV m picks V last s))/\ZbW last (wlV m V) picks (s:Int)=some (chV m picks V last s:Int):=by
 obtain⟨c,hc⟩:=h
 have hin:(c:Int)∈wlV m V:=Zga.2 ⟨by omega,by simpa using hc⟩
 have hl:=Zw1 m V
 obtain⟨h1,h2⟩:=ZuY (l:=wlV m V) (picks:=picks) (last:=last) (s:=s) (fun e=>by rw[e] at hin;cases hin) (by omega) hp
 obtain⟨h3,h4⟩:=Zga.1 h2
 have e:((chV m picks V last s:Nat):Int)=chI (wlV m V) picks last s:=Int.toNat_of_nonneg h3
 refine⟨h4,fun hs=>⟨h4,?_⟩,by rw[e];exact h1⟩
 have hch:chI (wlV m V) picks last s=gt id 0 (wlV m V) (nxI (wlV m V) last):=by
  unfold chI
  rw[List.getElem?_eq_none hs]
 have sp:=ZkU last (wlV m V) 0
 have so:=Zrq m V
 unfold nxI at hch
 cases hf:ZmK last 0 (wlV m V) with
 | none=>
  rw[hf] at sp hch
  right
  have hx:=List.getElem?_eq_getElem (show 0<(wlV m V).length from List.length_pos_iff.2 (fun e=>by rw[e] at hin;cases hin))
  rw[Z9 hx] at hch
  refine⟨fun p hp=>?_,fun p hp=>?_⟩
  ·exact sp (p:Int) (Zga.2 ⟨by omega,by simpa using hp⟩)
  ·have hpm:(p:Int)∈wlV m V:=Zga.2 ⟨by omega,by simpa using hp⟩
   obtain⟨j,hj⟩:=List.getElem?_of_mem hpm
   have hjl:=(List.getElem?_eq_some_iff.1 hj).1
   have hje:=(List.getElem?_eq_some_iff.1 hj).2
   have:(wlV m V)[0]<=(p:Int):=by
    rcases Nat.eq_zero_or_pos j with rfl | hj0
    ·rw[hje];exact Int.le_refl _
    ·have:=List.pairwise_iff_getElem.1 so 0 j (by omega) hjl hj0
     omega
   have e2:chI (wlV m V) picks last s=(wlV m V)[0]:=hch
   omega
 | some k=>
  rw[hf] at sp hch
  obtain⟨_,x,k1,k2,k3⟩:=sp
  rw[Nat.sub_zero] at k1 k3
  rw[Z9 k1] at hch
  have hkl:=(List.getElem?_eq_some_iff.1 k1).1
  have hke:=(List.getElem?_eq_some_iff.1 k1).2
  have e2:chI (wlV m V) picks last s=x:=hch
  left
  refine⟨by omega,fun p hp hlp=>?_⟩
  have hpm:(p:Int)∈wlV m V:=Zga.2 ⟨by omega,by simpa using hp⟩
  obtain⟨j,hj⟩:=List.getElem?_of_mem hpm
  have hjl:=(List.getElem?_eq_some_iff.1 hj).1
  have hje:=(List.getElem?_eq_some_iff.1 hj).2
  have hkj:k<=j:=by
   rcases Nat.lt_or_ge j k with h | h
   ·have:=k3 j h _ hj;omega
   ·exact h
  rcases Nat.eq_or_lt_of_le hkj with rfl | hlt
  ·rw[k1] at hj;cases hj;omega
  ·have:=List.pairwise_iff_getElem.1 so k j hkl hjl hlt
   omega
structure ZtD (m:Nat) (on on':List Int) (ds ds':List Za) (ts ts':List Ze) (fs fs':List Int):Prop where
 row:∀(c:Nat) (n:Int),on[c]? = some n->n ≠ -1->on'[c]? = some n
 be:∀c,(vw on' ds' ts' fs').be c<=(vw on ds ts fs).be c
theorem ZtD.refl (m:Nat) (on:List Int) (ds:List Za) (ts:List Ze) (fs:List Int):ZtD m on on ds ds ts ts fs fs:=⟨fun _ _ h _=>h,fun _=>Int.le_refl _⟩
theorem ZtD.trans {m:Nat}{on on' on2 fs fs' fs2:List Int}{ds ds' ds2:List Za}{ts ts' ts2:List Ze} (a:ZtD m on on' ds ds' ts ts' fs fs') (b:ZtD m on' on2 ds' ds2 ts' ts2 fs' fs2):ZtD m on on2 ds ds2 ts ts2 fs fs2:=
 ⟨fun c n h hn=>b.row c n (a.row c n h hn) hn,fun c=>Int.le_trans (b.be c) (a.be c)⟩
section
variable {g:Zm} {m:Nat} {left:List Int}
end
end Go.Proofs.YtgcfmiajkbbmeaaGreat
namespace Go.Proofs.YtgcfmiajkbbmeaaGreat
open Go Go.Proofs.YtgcfmiajkbbmeaaGreatE Go.Sort
open Go.IntKind (u64 i64 u32 i32 u8)
structure OKA (P:Int->Prop) (d:Array Int):Prop where
 el:∀i,i<d.size->P d[i]!
 sz:d.size<=1000
section
variable (cmp:Int->Int->Option Int) (c:Int->Int->Int) (P:Int->Prop)
def ZrU:Prop:=∀x y,P x->P y->cmp x y=some (c x y)
def ltC (x y:Int):Bool:=decide (c x y<0)
variable {cmp c P} (hc:ZrU cmp c P)
include hc
end
end Go.Proofs.YtgcfmiajkbbmeaaGreat
namespace Go.Proofs.YtgcfmiajkbbmeaaGreat
open Go Go.Proofs.YtgcfmiajkbbmeaaGreatE Go.Sort
open Go.IntKind (u64 i64 u32 i32 u8)
section
variable {cmp:Int->Int->Option Int} {c:Int->Int->Int} {P:Int->Prop} (hc:ZrU cmp c P)
include hc
end
end Go.Proofs.YtgcfmiajkbbmeaaGreat
namespace Go.Proofs.YtgcfmiajkbbmeaaGreat
open Go Go.Proofs.YtgcfmiajkbbmeaaGreatE Go.Sort
open Go.IntKind (u64 i64 u32 i32 u8)
section
variable {cmp:Int->Int->Option Int} {c:Int->Int->Int} {P:Int->Prop} (hc:ZrU cmp c P)
include hc
end
end Go.Proofs.YtgcfmiajkbbmeaaGreat
namespace Go.Proofs.YtgcfmiajkbbmeaaGreat
open Go Go.Proofs.YtgcfmiajkbbmeaaGreatE Go.Sort
open Go.IntKind (u64 i64 u32 i32 u8)
def Zrm (a b:Int):Int:=u64.wrap (ZhN a ^^^ ZhN b).toNat
def xs (r:Int):Int:=Zrm (Zrm (Zrm r (u64.wrap (r*2 ^ 13))) (Int.fdiv (Zrm r (u64.wrap (r*2 ^ 13))) (2 ^ 7))) (u64.wrap (Zrm (Zrm r (u64.wrap (r*2 ^ 13))) (Int.fdiv (Zrm r (u64.wrap (r*2 ^ 13))) (2 ^ 7))*2 ^ 17))
def Res (P:Int->Prop) (r:Option (List Int)) (X:Array Int) (n:Nat):Prop:=r=some X.toList/\OKA P X/\X.size=n
section
variable {cmp:Int->Int->Option Int} {c:Int->Int->Int} {P:Int->Prop} (hc:ZrU cmp c P) (hs:SWO (ltC c))
include hc hs
end
end Go.Proofs.YtgcfmiajkbbmeaaGreat
namespace Go.Proofs.YtgcfmiajkbbmeaaGreat
open Go Go.Proofs.YtgcfmiajkbbmeaaGreatE
open Go.IntKind (u64 i64 u32 i32 u8)
theorem Zof (l:List Int) (hl:l.length<=1000):∃r:List Int,Zau l=some r/\r.Perm l/\r.Pairwise (fun x y=>x<=y):=by
 refine⟨sortI l,?_,Zjq l,Zhp l⟩
 unfold Zau
 rw[Nat.ble_eq_true_of_le (Nat.le_trans hl (by decide))]
 rfl
def ZxT (b:ZmJ):Bool:=decide (20<(b.ins.length:Int)) || decide (20<(b.outs.length:Int))
def few (d:Zr9):Bool:=!((d.barriers.take 9).any ZxT)&&(decide ((d.parts.length:Int)<=20)&&(decide ((d.edges.length:Int)<=60)&&(decide ((d.futures.length:Int)<=20)&&decide ((d.barriers.length:Int)<=8))))
structure Zxe (d:Zr9):Prop where
 p:d.parts.length<=20
 e:d.edges.length<=60
 f:d.futures.length<=20
 b:d.barriers.length<=8
 i:∀b∈d.barriers,b.ins.length<=20/\b.outs.length<=20
theorem Zxe.short {d:Zr9} (h:Zxe d):Zyg d:=
 ⟨by have:=h.p;omega,by have:=h.e;omega,by have:=h.f;omega,by have:=h.b;omega,fun b hb=>⟨by have:=(h.i b hb).1;omega,by have:=(h.i b hb).2;omega⟩⟩
open Go Go.Proofs.YtgcfmiajkbbmeaaGreatE Go.Sort
def sel {γ:Type} (p:γ->Bool) (g:Nat->γ->Int):Nat->List γ->List Int
 | _,[]=>[]
 | i,x :: l=>bif p x then g i x :: sel p g (i+1) l else sel p g (i+1) l
theorem Zsq {γ:Type} (p:γ->Bool) (g:Nat->γ->Int):∀(l:List γ) (i:Nat),(sel p g i l).length=l.countP p
 | [],_=>rfl
 | x :: l,i=>by
  unfold sel
  have ih:=Zsq p g l (i+1)
  cases h:p x with
  | true=>simp[ih,h]
  | false=>simp[ih,h]
theorem Zsc {γ:Type} (p:γ->Bool) (g:Nat->γ->Int) (z:Int):∀(l:List γ) (i:Nat),z∈sel p g i l↔∃j x,l[j]? = some x/\p x=true/\z=g (i+j) x
 | [],i=>by simp[sel]
 | x :: l,i=>by
  have ih:=Zsc p g z l (i+1)
  have key:(∃j y,(x :: l)[j]? = some y/\p y=true/\z=g (i+j) y)↔(p x=true/\z=g i x)∨∃j y,l[j]? = some y/\p y=true/\z=g (i+1+j) y:=by
   constructor
   ·rintro ⟨j,y,h1,h2,h3⟩
    cases j with
    | zero=>left;simp at h1;subst h1;exact⟨h2,h3⟩
    | succ j=>right;exact⟨j,y,by simpa using h1,h2,by rw[h3];congr 1;omega⟩
   ·rintro (⟨h2,h3⟩ | ⟨j,y,h1,h2,h3⟩)
    ·exact⟨0,x,rfl,h2,h3⟩
    ·exact⟨j+1,y,by simpa using h1,h2,by rw[h3];congr 1;omega⟩
  rw[key]
  unfold sel
  cases h:p x with
  | true=>simp[ih]
  | false=>simp[ih]
theorem Zyv {γ:Type} (l:List γ) (hl:l.length<=1000) (p:γ->Bool) (g:Nat->γ->Int) (step:Int×List Int->Option ((Int×List Int)⊕List Int))
  (h1:∀i x s,i<l.length->l[i]? = some x->step ((i:Int),s)=(bif p x then (bif Nat.ble (s.length+1) lim then some (.inl (((i+1:Nat):Int),s++[g i x])) else none) else some (.inl (((i+1:Nat):Int),s))))
  (h2:∀s,step ((l.length:Int),s)=some (.inr s)) (s:List Int) (hs:s.length<=1000000):lp step (0,s)=some (s++sel p g 0 l):=by
 have key:=ZrZ l step (fun i s=>((i:Int),s)) (fun i x s=>bif p x then (bif Nat.ble (s.length+1) lim then some (.inl (s++[g i x])) else none) else some (.inl s)) (fun s=>some s) (fun i x s hi hx=>by
   rw[h1 i x s hi hx]
   cases p x<;>cases Nat.ble (s.length+1) lim<;>rfl) (fun s=>h2 s) s
 refine(key:lp step (0,s)=_).trans ?_
 have:∀(l:List γ) (i:Nat) (s:List Int),s.length+l.length<=1001000->ZnO (fun i x s=>bif p x then (bif Nat.ble (s.length+1) lim then some (Sum.inl (s++[g i x])) else (none:Option (List Int⊕List Int))) else some (.inl s)) (fun s=>some s) i l s=some (s++sel p g i l):=by
  intro l
  induction l with
  | nil=>intro i s _;simp[ZnO,sel]
  | cons x l ih=>
   intro i s hb
   rw[List.length_cons] at hb
   unfold ZnO sel
   cases p x with
   | true=>
    rw[Zc1 (show s.length+1<=1073741824 by omega)]
    simp only[cond_true]
    rw[ih (i+1) (s++[g i x]) (by rw[List.length_append,List.length_singleton];omega)]
    simp
   | false=>
    simp only[cond_false]
    rw[ih (i+1) s (by omega)]
 exact this l 0 s (by omega)
theorem Zta {γ:Type} (p:γ->Bool) (g:Nat->γ->Int) (l:List γ) (i:Nat):(sel p g i l).length<=l.length:=by rw[Zsq];exact List.countP_le_length
def ZhH (left row:List Int) (n:Int):Int:=if n = -1 then -1 else if lf (ZD left row) n=0 then -1 else n
theorem Zel (left row:List Int):ZJ left row=row.map (ZhH left row):=rfl
theorem ZsU {row:List Int} (h:ZkV row) (k:Nat):ZkV (row.take k):=fun i j n hi hj hn=>by
 rw[List.getElem?_take] at hi hj
 split at hi
 ·split at hj
  ·exact h i j n hi hj hn
  ·cases hj
 ·cases hi
theorem ZuI {l:List Int}{n:Int} (h:n ≠ -1):dec l n=l.set n.toNat (lf l n-1):=by unfold dec;rw[if_neg h]
theorem Ztm (row left:List Int):(row.foldl dec left).length=left.length:=Zci row left
theorem ZBb {row:List Int} (left:List Int) (h:ZkV row) (hr:∀n∈row,n = -1∨(isN left n/\0<lf left n)) (h64:left.length<=64) (hv:∀x∈left,x<=1000) (h8:row.length<=8) :
  lp (Zcr row) (0,row,left,([]:List Int))=some (ZJ left row,ZD left row,row.filter fun n=>decide (n ≠ -1)&&decide (lf (ZD left row) n=0)):=by
 have hr1:∀n∈row,n = -1∨isN left n:=fun n hn=>(hr n hn).imp id (·.1)
 have key:∀(k i:Nat),i+k=row.length->lp (Zcr row) ((i:Int),(ZJ left row).take i++row.drop i,(row.take i).foldl dec left,(row.take i).filter fun n=>decide (n ≠ -1)&&decide (lf (ZD left row) n=0))=some (ZJ left row,ZD left row,row.filter fun n=>decide (n ≠ -1)&&decide (lf (ZD left row) n=0)):=by
  intro k
  induction k with
  | zero=>
   intro i hi
   have hi:i=row.length:=by omega
   subst hi
   have hl:(ZJ left row).length=row.length:=by rw[Zel,List.length_map]
   rw[ZbS,List.drop_length,List.append_nil,List.take_length,List.take_of_length_le (by omega)]
   simp only[Zcr,ZcW,cond_false]
   rfl
  | succ k ih=>
   intro i hi
   have hi':i<row.length:=by omega
   have hx:=List.getElem?_eq_getElem hi'
   generalize hn:row[i]=n at hx
   have htl:(ZJ left row).length=row.length:=by rw[Zel,List.length_map]
   have htake:((ZJ left row).take i).length=i:=by rw[List.length_take,htl];omega
   have hget:((ZJ left row).take i++row.drop i)[i]? = some n:=by
    rw[List.getElem?_append_right (by omega),htake,List.getElem?_drop,Nat.sub_self,Nat.add_zero]
    exact hx
   have hdrop:row.drop i=n :: row.drop (i+1):=by rw[<- hn];exact List.drop_eq_getElem_cons hi'
   have htk:row.take (i+1)=row.take i++[n]:=by rw[List.take_add_one,hx];rfl
   have hto:(ZJ left row).take (i+1)=(ZJ left row).take i++[ZhH left row n]:=by
    rw[List.take_add_one,Zel,List.getElem?_map,hx];rfl
   have hset:∀v,((ZJ left row).take i++row.drop i).set i v=(ZJ left row).take i++v :: row.drop (i+1):=fun v=>by
    rw[List.set_append_right _ _ (by omega),htake,Nat.sub_self,hdrop];rfl
   have ih':=ih (i+1) (by omega)
   rw[htk,hto,List.foldl_append,List.filter_append,List.append_assoc] at ih'
   rw[ZbS]
   simp only[Zcr,ZcJ hi',cond_true,Zr hget,Option.bind_some,ZN hi' (show row.length<9223372036854775808 by omega)]
   by_cases h1:n = -1
   ·subst h1
    rw[show((-1:Int) == -1)=true from rfl,cond_true]
    have e1:ZhH left row (-1) = -1:=rfl
    have e2:∀l:List Int,[(-1:Int)].foldl dec l=l:=fun l=>rfl
    have e3:([(-1:Int)].filter fun n=>decide (n ≠ -1)&&decide (lf (ZD left row) n=0))=[]:=rfl
    rw[e1,e2,e3,List.append_nil] at ih'
    rw[hdrop]
    exact ih'
   ·rw[show(n == -1)=false from beq_eq_false_iff_ne.2 h1,cond_false]
    rcases hr n (by rw[<- hn];exact List.getElem_mem _) with h2 | ⟨h2,h3⟩
    ·exact absurd h2 h1
    ·have hnt:n∉row.take i:=fun hm=>by
      obtain⟨j,hj⟩:=List.getElem?_of_mem hm
      have hjl:=(List.getElem?_eq_some_iff.1 hj).1
      rw[List.length_take] at hjl
      rw[List.getElem?_take,if_pos (by omega)] at hj
      have:=h j i n hj hx h1
      omega
     have hl1:lf ((row.take i).foldl dec left) n=lf left n:=by
      have:=Ziq (row.take i) left (ZsU h i) (fun m hm=>hr1 m (List.mem_of_mem_take hm)) n h2.1
      rw[if_neg hnt] at this
      exact this
     have hl2:lf (ZD left row) n=lf left n-1:=by
      have:=Ziq row left h hr1 n h2.1
      rwa [if_pos (by rw[<- hn];exact List.getElem_mem _)] at this
     have hin:isN ((row.take i).foldl dec left) n:=⟨h2.1,by rw[Ztm];exact h2.2⟩
     have h1000:lf left n<=1000:=hv _ (List.mem_of_getElem? (Zin h2.1 h2.2))
     have hdec:((row.take i).foldl dec left).set n.toNat (w64 (lf ((row.take i).foldl dec left) n-1))=dec ((row.take i).foldl dec left) n:=by
      rw[ZuI h1,Zc3 (by rw[hl1];omega) (by rw[hl1];omega)]
     rw[Zlk hin,Option.bind_some,hdec]
     have hin2:isN (dec ((row.take i).foldl dec left) n) n:=⟨h2.1,by rw[ZlU];exact hin.2⟩
     have hl3:lf (dec ((row.take i).foldl dec left) n) n=lf (ZD left row) n:=by
      rw[hl2,<- hl1,ZuI h1,Zvx ⟨hin.1,hin.2⟩ h2.1,if_pos rfl]
     rw[Zjg (c:=⟨(ZJ left row).take i++row.drop i,dec ((row.take i).foldl dec left) n⟩) hin2,Option.bind_some]
     dsimp only
     rw[hl3]
     have e2:∀l:List Int,[n].foldl dec l=dec l n:=fun l=>rfl
     rw[e2] at ih'
     by_cases h4:lf (ZD left row) n=0
     ·have e1:ZhH left row n = -1:=by unfold ZhH;rw[if_neg h1,if_pos h4]
      have e3:([n].filter fun n=>decide (n ≠ -1)&&decide (lf (ZD left row) n=0))=[n]:=by
       rw[List.filter_cons_of_pos (by rw[decide_eq_true h1,decide_eq_true h4];rfl)];rfl
      have hf8:((row.take i).filter fun n=>decide (n ≠ -1)&&decide (lf (ZD left row) n=0)).length<=i:=Nat.le_trans (List.length_filter_le _ _) (by rw[List.length_take];omega)
      rw[e1,e3] at ih'
      rw[show(lf (ZD left row) n==0)=true from beq_iff_eq.2 h4,cond_true,Zc1 (show((row.take i).filter fun n=>decide (n ≠ -1)&&decide (lf (ZD left row) n=0)).length+1<=1073741824 by omega),cond_true,Int.toNat_natCast,hset]
      exact ih'
     ·have e1:ZhH left row n=n:=by unfold ZhH;rw[if_neg h1,if_neg h4]
      have e3:([n].filter fun n=>decide (n ≠ -1)&&decide (lf (ZD left row) n=0))=[]:=by
       rw[List.filter_cons_of_neg (by rw[decide_eq_true h1,decide_eq_false h4];decide)];rfl
      rw[e1,e3,List.append_nil] at ih'
      rw[show(lf (ZD left row) n==0)=false from beq_eq_false_iff_ne.2 h4,cond_false,hdrop]
      exact ih'
 have:=key row.length 0 (by omega)
 simpa using this
structure PG (m:Nat) (b:Int->Prop) (on:List Int) (ds:List Za) (ts:List Ze) (fs:List Int):Prop where
 dl:ds.length=m
 ring:∀d∈ds,d.ring.length=64
 inv:Inv m b (vw on ds ts fs)
 a0:∀i,i<m->(vw on ds ts fs).a i=0
theorem Inv.congr {m:Nat}{b b':Int->Prop}{V:Zb} (h:∀n,b n↔b' n) (I:Inv m b V):Inv m b' V:=
 ⟨I.pos,⟨fun c k hi=>by obtain⟨h1,h2⟩:=I.items.rdy c k hi;exact⟨(h _).1 h1,h2⟩,I.items.inj,fun n hn ho=>I.items.all n ((h n).2 hn) ho⟩⟩
theorem PG.be {m:Nat}{b:Int->Prop}{on fs:List Int}{ds:List Za}{ts:List Ze} (P:PG m b on ds ts fs) {i:Nat} (hi:i<m):(vw on ds ts fs).be i=(vw on ds ts fs).B i/\(vw on ds ts fs).lo i=(vw on ds ts fs).T i:=by
 have:=P.a0 i hi
 constructor
 ·unfold Zb.be;rw[if_neg (by omega)]
 ·unfold Zb.lo;rw[if_neg (by omega)]
theorem Pos.still {m:Nat}{W:Zb}{i:Nat} (ha:W.a i=0) (hF:W.F i<m) (hO:W.O i ≠ -1->W.F i=0) (h0:0<=W.T i) (h1:W.T i<=W.B i) (h2:W.B i<=64) (rx : -1<=W.x i/\W.x i<=64) (ry : -1<=W.y i/\W.y i<=64):Pos m W i:=by
 have hb:W.be i=W.B i:=by unfold Zb.be;rw[if_neg (by omega)]
 refine⟨hF,fun h=>⟨ha,hO h⟩,by omega,by omega,fun _=>by omega,h0,by omega,by omega,fun _ h=>by omega,fun _ h=>by omega,fun _ h=>by omega,fun _ h=>by omega,fun _ h=>by omega,fun _ h=>by omega,fun _ h=>by omega,rx,ry⟩
theorem Zgs:∀(l m:List Int),l.Nodup->(∀x∈l,x∈m)->l.length<=m.length
 | [],_,_,_=>Nat.zero_le _
 | x :: l,m,hn,hs=>by
  have hn:=List.nodup_cons.1 hn
  have hx:x∈m:=hs x (by simp)
  have h1:=Zgs l (m.erase x) hn.2 fun y hy=>(List.mem_erase_of_ne (fun e:y=x=>hn.1 (e ▸ hy))).2 (hs y (by simp[hy]))
  rw[List.length_erase_of_mem hx] at h1
  have:=List.length_pos_of_mem hx
  rw[List.length_cons]
  omega
def ZoT (E:List Zo) (left:List Int):Nat:=(((List.range left.length).filter fun i:Nat=>Zi1 E left (i:Int)).map fun i:Nat=>(i:Int)).length
theorem Zq0 {E:List Zo}{left left':List Int} (hl:left'.length=left.length) (hm:∀n,isN left n->Zhd E left n->Zhd E left' n) {S:List Int} (hS:S.Nodup) (hin:∀s∈S,isN left s/\Zhd E left' s/\¬Zhd E left s):ZoT E left+S.length<=ZoT E left':=by
 unfold ZoT
 rw[<- List.length_append]
 refine Zgs _ _ ?_ fun x hx=>?_
 ·rw[List.nodup_append]
  refine⟨List.Pairwise.map _ (fun a b (h:a≠b)=>by omega) (List.Pairwise.filter _ List.nodup_range),hS,fun a ha b hb e=>?_⟩
  subst e
  obtain⟨h1,h2,h3⟩:=ZgT.1 ha
  rw[Int.toNat_of_nonneg h1] at h3
  exact(hin a hb).2.2 (ZcP.1 h3)
 ·rw[hl]
  rcases List.mem_append.1 hx with hx | hx
  ·obtain⟨h1,h2,h3⟩:=ZgT.1 hx
   refine ZgT.2 ⟨h1,h2,?_⟩
   rw[Int.toNat_of_nonneg h1] at h3 ⊢
   exact ZcP.2 (hm x ⟨h1,h2⟩ (ZcP.1 h3))
  ·obtain⟨h1,h2,_⟩:=hin x hx
   exact ZgT.2 ⟨h1.1,h1.2,by rw[Int.toNat_of_nonneg h1.1];exact ZcP.2 h2⟩
theorem ZwT {g:Zm} (hc:ZaM g=0) (n:Int):∃r,Zf1 g n=some r/\(∀z,z∈r↔∃e∈g.edges,e.src=n/\e.dst=z)/\r.length<=256:=by
 obtain⟨h,_⟩:=Za0 hc
 have hel:=h.el
 have key:=Zyv g.edges (by omega) (fun e:Zo=>e.src==n) (fun _ e=>e.dst) (Zd0 g fun z0=>ZcM z0 n) (fun i x s hi hx=>by
  simp only[Zd0,ZcJ hi,cond_true,Zr hx,Option.bind_some,ZcM,ZN hi h.short.e]
  cases x.src==n<;>rfl) (fun s=>by simp only[Zd0,ZcW,cond_false]) [] (by simp)
 rw[List.nil_append] at key
 have hlen:(sel (fun e:Zo=>e.src==n) (fun _ e=>e.dst) 0 g.edges).length<=256:=Nat.le_trans (Zta _ _ _ _) hel
 obtain⟨r,h1,h2,_⟩:=Zof _ (Nat.le_trans hlen (by omega))
 refine⟨r,?_,fun z=>?_,by rw[h2.length_eq];exact hlen⟩
 ·unfold Zf1
  rw[Zfs g h.short,hc,Option.bind_some,show((0:Int) != 0)=false from rfl,cond_false]
  unfold Zkx
  simp only[key,Option.bind_some,h1]
 ·rw[h2.mem_iff,Zsc]
  constructor
  ·rintro ⟨j,x,hx,h3,h4⟩
   exact⟨x,List.mem_of_getElem? hx,by simpa using h3,h4.symm⟩
  ·rintro ⟨e,he,h3,h4⟩
   obtain⟨j,hj⟩:=List.getElem?_of_mem he
   exact⟨j,e,hj,by simpa using h3,h4.symm⟩
section
variable {g:Zm} {m:Nat} {left row:List Int}
theorem Zrb (c:Zbr g left row) (hall : -1∈row->∀n,¬Rdy g.edges left row n):ZfK g.edges left row row:=
 ⟨rfl,fun c n h _=>h,fun c n h1 h2=>by rw[h1] at h2;exact .inl (Option.some.inj h2).symm,c.ok.one,hall⟩
def Zx5 (g:Zm) (left row:List Int) (s:Int):Prop:=Rdy g.edges (ZD left row) (ZJ left row) s/\¬Zhd g.edges left s
def was (g:Zm) (left row:List Int) (n:Int):Prop:=Rdy g.edges left row n∨(n∈ZJ left row/\n ≠ -1)
structure TI (g:Zm) (m:Nat) (left row:List Int) (ts:List Ze) (fs:List Int) (ds:List Za) (pushed:List Int):Prop where
 pg:PG m (fun x=>was g left row x∨x∈pushed) (ZJ left row) ds ts fs
 nod:pushed.Nodup
 new:∀s∈pushed,Zx5 g left row s
 cnt:∀c,c<m->(vw (ZJ left row) ds ts fs).B c<=(ZoT g.edges left+pushed.length:Nat)
theorem ZyD {s:Int} (h:Zx5 g left row s):isN left s:=⟨h.1.1.1,by have:=h.1.1.2;rwa [Zci] at this⟩
theorem TI.more (hG:ZcG g) (c:Zbr g left row) (hall : -1∈row->∀n,¬Rdy g.edges left row n) {S:List Int} (hS:S.Nodup) (hn:∀s∈S,Zx5 g left row s):ZoT g.edges left+S.length<=ZoT g.edges (ZD left row):=
 Zq0 (Zci _ _) (fun n _ hf=>(Zrb c hall).free (by rw[c.ll];exact ZhZ hG) c.ok hf) hS fun s hs=>⟨ZyD (hn s hs),(hn s hs).1.2.2.2,(hn s hs).2⟩
theorem Zi8 (E:List Zo) (left on:List Int):(Zbc E left on).length<=left.length:=by
 unfold Zbc
 rw[List.length_map]
 exact Nat.le_trans (List.length_filter_le _ _) (by rw[List.length_range];exact Nat.le_refl _)
end
end Go.Proofs.YtgcfmiajkbbmeaaGreat
namespace Go.Proofs.YtgcfmiajkbbmeaaGreat
open Go Go.Proofs.YtgcfmiajkbbmeaaGreatE
open Go.IntKind (u64 i64 u32 i32 u8)
structure ZvX (g:Zm) (need:List Int) (c:Int):Prop where
  ck:ZaM g=0
  nl:need.length=g.work.length
  rng:∀x∈need,1<=x/\x<=1000
  c1:1<=c
  c8:c<=8
theorem ZpW {S R:Type}{c:Nat} (step:Int×S->Option ((Int×S)⊕R)) (f:Nat->S) (fin:S->R) (h1:∀i,i<c->step ((i:Int),f i)=some (.inl (((i+1:Nat):Int),f (i+1)))) (h2:step ((c:Int),f c)=some (.inr (fin (f c)))):lp step (0,f 0)=some (fin (f c)):=by
  have key:∀(k i:Nat),i+k=c->lp step ((i:Int),f i)=some (fin (f c)):=by
    intro k
    induction k with
    | zero => intro i hi; have : i = c := by omega
              subst this;rw[ZbS,h2]
    | succ k ih=>intro i hi;rw[ZbS,h1 i (by omega)];exact ih (i+1) (by omega)
  exact key c 0 (by omega)
section
variable {g:Zm} {m:Nat} {left on fs:List Int} {ds:List Za} {ts:List Ze}
theorem Ztd {S:Type} (ds:List Za) (hr:∀d∈ds,d.ring.length=64) (hl:ds.length<=8) (left on fs:List Int) (ts:List Ze):lp (Zcl ⟨⟨on,left⟩,ds,ts,fs⟩) (0,ds)=some ds:=by
  have key:=ZpW (c:=ds.length) (Zcl ⟨⟨on,left⟩,ds,ts,fs⟩) (fun _=>ds) (fun s=>s) (fun i hi=>by
    have hx:=List.getElem?_eq_getElem hi
    have:ds.set i ds[i]=ds:=List.set_getElem_self hi
    simp only[Zcl,ZcJ hi,cond_true,Zr hx,Option.bind_some,Zdt (show ds[i].ring.length<=1073741824 by rw[hr _ (List.getElem_mem hi)];omega),ZN hi (show ds.length<9223372036854775808 by omega),Int.toNat_natCast,this]) (by simp only[Zcl,ZcW];rfl)
  exact key
end
end Go.Proofs.YtgcfmiajkbbmeaaGreat
namespace Go.Proofs.YtgcfmiajkbbmeaaGreat
open Go Go.Proofs.YtgcfmiajkbbmeaaGreatE
open Go.IntKind (u64 i64 u32 i32 u8)
section
variable {g:Zm} {m:Nat} {left on fs:List Int} {ds:List Za} {ts:List Ze}
end
structure Zxv (g:Zm) (need:List Int) (m:Nat) (t:List (List Int)):Prop where
 done:∃left on,Sched g.edges need m t left on/\∀n,isN left n->lf left n=0
end Go.Proofs.YtgcfmiajkbbmeaaGreat
namespace Go.Proofs.YtgcfmiajkbbmeaaGreat
open Go Go.Proofs.YtgcfmiajkbbmeaaGreatE
open Go.IntKind (u64 i64 u32 i32 u8)
structure DqW (d:Za):Prop where
 len:d.ring.length=64
 t0:0<=d.top
 t1:d.top<=1099511627775
 b0:d.top-1<=d.bottom
 b1:d.bottom<=d.top+64
theorem Zok {d:Za} (h:DqW d):Z6 d=some 0:=by
 obtain⟨k,hk⟩:=ZzW
 have:=h.t0
 have:=h.t1
 have:=h.b0
 have:=h.b1
 unfold Z6
 rw[h.len,show((64:Nat):Int)=64 from rfl,hk,Option.bind_some]
 have e:ZeP d.top=0:=by
  unfold ZeP
  rw[decide_eq_false (by omega),decide_eq_false (by omega)];rfl
 simp only[cond_true,Zi4,Option.bind_some,e,Zc3 (show -9223372036854775808<=d.top-1 by omega) (by omega),Zc3 (show -9223372036854775808<=d.top+64 by omega) (by omega)]
 rw[decide_eq_false (show ¬(64:Int)<64 by omega),decide_eq_false (show ¬d.bottom<d.top-1 by omega),decide_eq_false (show ¬d.top+64<d.bottom by omega)]
 rfl
theorem ZsT {n:Int} (h:ZeP n=0):0<=n/\n<=1099511627775:=by
 unfold ZeP at h
 by_cases h1:n<0
 ·rw[decide_eq_true h1,cond_true] at h;cases h
 ·by_cases h2:1099511627775<n
  ·rw[decide_eq_false h1,decide_eq_true h2,cond_false,cond_true] at h;cases h
  ·omega
theorem Zjk (d:Za):(∃e,Z6 d=some e/\e≠0)∨(Z6 d=some 0/\(d.ring.length=64->DqW d)):=by
 unfold Z6
 have hk:=ZpN (d.ring.length:Int)
 rw[hk,Option.bind_some]
 cases Zts d.ring.length with
 | false=>exact .inl ⟨120,rfl,by decide⟩
 | true=>
  simp only[cond_true,Zi4,Option.bind_some]
  by_cases h1:(64:Int)<(d.ring.length:Int)
  ·rw[decide_eq_true h1];exact .inl ⟨120,rfl,by decide⟩
  rw[decide_eq_false h1,cond_false]
  by_cases h2:ZeP d.top=0
  ·have:=ZsT h2
   rw[h2,show((0:Int) != 0)=false from rfl,cond_false,Zc3 (show -9223372036854775808<=d.top-1 by omega) (by omega),Zc3 (show -9223372036854775808<=d.top+(d.ring.length:Int) by omega) (by omega)]
   by_cases h3:d.bottom<d.top-1
   ·rw[decide_eq_true h3];exact .inl ⟨120,rfl,by decide⟩
   rw[decide_eq_false h3,cond_false]
   by_cases h4:d.top+(d.ring.length:Int)<d.bottom
   ·rw[decide_eq_true h4];exact .inl ⟨120,rfl,by decide⟩
   rw[decide_eq_false h4]
   exact .inr ⟨rfl,fun hl=>⟨hl,by omega,by omega,by omega,by rw[hl] at h4;omega⟩⟩
  ·rw[show(ZeP d.top != 0)=true from bne_iff_ne.2 h2];exact .inl ⟨120,rfl,by decide⟩
structure TkW (t:Ze):Prop where
 en:t.end_=0
 a0:0<=t.at_
 am:t.at_<=(bif t.steal then 3 else 4)
 rng:t.at_≠0->(-1<=t.top/\t.top<=1099511627775)/\(-1<=t.bottom/\t.bottom<=1099511627775)
theorem Zwf (n:Int):Zbt n=some (decide (n < -1) || decide (1099511627775<n)):=by
 unfold Zbt
 cases decide (n < -1)<;>cases decide (1099511627775<n)<;>rfl
theorem Zwg (t:Ze):ZdO t=some false∨(ZdO t=some true/\TkW t):=by
 unfold ZdO
 simp only[Zwf,Option.bind_some]
 have key:∀k:Int,(bif t.steal then (3:Int) else 4)=k ->
   (bif (t.end_==0) then bif decide (0<=t.at_) then bif decide (t.at_<=k) then bif (t.at_==0) then some true else bif (decide (t.top < -1) || decide (1099511627775<t.top)) then some false else bif (decide (t.bottom < -1) || decide (1099511627775<t.bottom)) then some false else some true else some false else some false else some false)=some false ∨
   ((bif (t.end_==0) then bif decide (0<=t.at_) then bif decide (t.at_<=k) then bif (t.at_==0) then some true else bif (decide (t.top < -1) || decide (1099511627775<t.top)) then some false else bif (decide (t.bottom < -1) || decide (1099511627775<t.bottom)) then some false else some true else some false else some false else some false)=some true/\TkW t):=by
  intro k hk
  by_cases h1:t.end_=0
  ·rw[beq_iff_eq.2 h1,cond_true]
   by_cases h2:0<=t.at_
   ·rw[decide_eq_true h2,cond_true]
    by_cases h3:t.at_<=k
    ·rw[decide_eq_true h3,cond_true]
     by_cases h4:t.at_=0
     ·rw[beq_iff_eq.2 h4,cond_true]
      exact .inr ⟨rfl,h1,h2,by rw[hk];exact h3,fun h=>absurd h4 h⟩
     ·rw[beq_eq_false_iff_ne.2 h4,cond_false]
      by_cases h5 : -1<=t.top/\t.top<=1099511627775
      ·rw[decide_eq_false (show ¬t.top < -1 by omega),decide_eq_false (show ¬1099511627775<t.top by omega),Bool.or_false,cond_false]
       by_cases h6 : -1<=t.bottom/\t.bottom<=1099511627775
       ·rw[decide_eq_false (show ¬t.bottom < -1 by omega),decide_eq_false (show ¬1099511627775<t.bottom by omega),Bool.or_false,cond_false]
        exact .inr ⟨rfl,h1,h2,by rw[hk];exact h3,fun _=>⟨h5,h6⟩⟩
       ·have:(decide (t.bottom < -1) || decide (1099511627775<t.bottom))=true:=by
         rw[Bool.or_eq_true,decide_eq_true_eq,decide_eq_true_eq];omega
        rw[this];exact .inl rfl
      ·have:(decide (t.top < -1) || decide (1099511627775<t.top))=true:=by
        rw[Bool.or_eq_true,decide_eq_true_eq,decide_eq_true_eq];omega
       rw[this];exact .inl rfl
    ·rw[decide_eq_false h3];exact .inl rfl
   ·rw[decide_eq_false h2];exact .inl rfl
  ·rw[beq_eq_false_iff_ne.2 h1];exact .inl rfl
 cases hs:t.steal with
 | true=>exact key 3 (by rw[hs];rfl)
 | false=>exact key 4 (by rw[hs];rfl)
def Zp9 (d:Za) (t:Ze):Za×Ze:=
 if t.at_=0 then (⟨d.ring,d.top,d.bottom-1⟩,⟨t.steal,1,t.top,d.bottom-1,t.got,t.end_⟩)
 else if t.at_=1 then
  if d.top<t.bottom then (d,⟨t.steal,1,d.top,t.bottom,Zgn d.ring t.bottom,1⟩)
  else if d.top=t.bottom then (d,⟨t.steal,2,d.top,t.bottom,t.got,t.end_⟩)
  else (d,⟨t.steal,3,d.top,t.bottom,t.got,t.end_⟩)
 else if t.at_=2 then
  if d.top=t.top then (⟨d.ring,d.top+1,d.bottom⟩,⟨t.steal,4,t.top,t.bottom,Zgn d.ring t.bottom,t.end_⟩)
  else (d,⟨t.steal,3,t.top,t.bottom,t.got,t.end_⟩)
 else if t.at_=4 then (⟨d.ring,d.top,t.bottom+1⟩,⟨t.steal,4,t.top,t.bottom,t.got,1⟩)
 else (⟨d.ring,d.top,t.bottom+1⟩,⟨t.steal,3,t.top,t.bottom,t.got,2⟩)
def Zil (d:Za) (t:Ze):Za×Ze:=
 if t.at_=0 then (d,⟨t.steal,1,d.top,t.bottom,t.got,t.end_⟩)
 else if t.at_=1 then
  if t.top<d.bottom then (d,⟨t.steal,2,t.top,d.bottom,t.got,t.end_⟩)
  else (d,⟨t.steal,1,t.top,d.bottom,t.got,2⟩)
 else if t.at_=2 then (d,⟨t.steal,3,t.top,t.bottom,Zgn d.ring t.top,t.end_⟩)
 else if d.top=t.top then (⟨d.ring,d.top+1,d.bottom⟩,⟨t.steal,3,t.top,t.bottom,t.got,1⟩)
 else (d,⟨t.steal,3,t.top,t.bottom,0,3⟩)
theorem Zkk {n:Int} (h:n≠0):(n != 0)=true:=bne_iff_ne.2 h
theorem ZtX (d:Za) (t:Ze) (hr:d.ring.length=64):(∃d' t' e,Zab d t=some (d',t',e)/\e≠0) ∨
  ∃d' t',Zab d t=some (d',t',0)/\TkW t/\DqW d/\DqW d'/\d'.ring=d.ring/\(d',t')=(bif t.steal then Zil d t else Zp9 d t):=by
 unfold Zab
 rcases Zjk d with⟨e,h1,h2⟩ | ⟨h1,h2⟩
 ·rw[h1,Option.bind_some,Zkk h2];exact .inl ⟨_,_,_,rfl,h2⟩
 have hd:=h2 hr
 rw[h1,Option.bind_some,show((0:Int) != 0)=false from rfl,cond_false]
 rcases Zwg t with h3 | ⟨h3,ht⟩
 ·rw[h3,Option.bind_some];exact .inl ⟨_,_,_,rfl,by decide⟩
 rw[h3,Option.bind_some,cond_true,Zso hr,Option.bind_some]
 have t0:=hd.t0
 have t1:=hd.t1
 have b0:=hd.b0
 have b1:=hd.b1
 have a0:=ht.a0
 have am:=ht.am
 have rng:=ht.rng
 have hw1:w64 (d.top+1)=d.top+1:=Zc3 (by omega) (by omega)
 have hw2:w64 (d.bottom-1)=d.bottom-1:=Zc3 (by omega) (by omega)
 have fin:∀(D:Za) (T:Ze),D.ring=d.ring->(D,T)=(bif t.steal then Zil d t else Zp9 d t) ->
   (∃d' t' e,((Z6 D).bind fun x=>bif (x != 0) then some (Za.mk ([]:List Int) 0 0,Ze.mk false 0 0 0 0 0,x) else some (D,T,0))=some (d',t',e)/\e≠0) ∨
   ∃d' t',((Z6 D).bind fun x=>bif (x != 0) then some (Za.mk ([]:List Int) 0 0,Ze.mk false 0 0 0 0 0,x) else some (D,T,0))=some (d',t',0)/\TkW t/\DqW d/\DqW d'/\d'.ring=d.ring/\(d',t')=(bif t.steal then Zil d t else Zp9 d t):=by
  intro D T hD hDT
  rcases Zjk D with⟨e,q1,q2⟩ | ⟨q1,q2⟩
  ·rw[q1,Option.bind_some,Zkk q2];exact .inl ⟨_,_,_,rfl,q2⟩
  ·rw[q1,Option.bind_some]
   exact .inr ⟨D,T,rfl,ht,hd,q2 (by rw[hD];exact hr),hD,hDT⟩
 cases hs:t.steal with
 | true=>
  rw[hs] at am
  have am:t.at_<=3:=am
  simp only[cond_true]
  have hst:∃x,Zeo d.top d.bottom t.at_ t.top t.bottom t.got t.end_ d.ring=some x/\((⟨d.ring,x.1,d.bottom⟩:Za),(⟨true,x.2.1,x.2.2.1,x.2.2.2.1,x.2.2.2.2.1,x.2.2.2.2.2⟩:Ze))=Zil d t:=by
   unfold Zeo Zil
   by_cases c0:t.at_=0
   ·simp only[c0,hs,show((0:Int)==0)=true from rfl,cond_true,if_true]
    exact⟨_,rfl,rfl⟩
   by_cases c1:t.at_=1
   ·simp only[c1,hs,show((1:Int)==0)=false from rfl,show((1:Int)==1)=true from rfl,cond_true,cond_false,show ¬(1:Int)=0 by decide,if_true,if_false]
    by_cases c2:t.top<d.bottom
    ·rw[decide_eq_false (show ¬d.bottom<=t.top by omega),if_pos c2];exact⟨_,rfl,rfl⟩
    ·rw[decide_eq_true (show d.bottom<=t.top by omega),if_neg c2];exact⟨_,rfl,rfl⟩
   by_cases c2:t.at_=2
   ·simp only[c2,hs,show((2:Int)==0)=false from rfl,show((2:Int)==1)=false from rfl,show((2:Int)==2)=true from rfl,cond_true,cond_false,show ¬(2:Int)=0 by decide,show ¬(2:Int)=1 by decide,if_true,if_false,Zl1 (d:=⟨d.ring,d.top,d.bottom⟩) hr,Zpq hr,Option.bind_some]
    exact⟨_,rfl,rfl⟩
   have c3:t.at_=3:=by omega
   simp only[c3,hs,show((3:Int)==0)=false from rfl,show((3:Int)==1)=false from rfl,show((3:Int)==2)=false from rfl,cond_false,show ¬(3:Int)=0 by decide,show ¬(3:Int)=1 by decide,show ¬(3:Int)=2 by decide,if_false]
   unfold ZdT
   by_cases c4:d.top=t.top
   ·rw[show(d.top != t.top)=false by rw[c4];simp,cond_false,Option.bind_some,if_pos c4,hw1];exact⟨_,rfl,rfl⟩
   ·rw[show(d.top != t.top)=true by simpa using c4,cond_true,Option.bind_some,if_neg c4];exact⟨_,rfl,rfl⟩
  obtain⟨x,hx,hx2⟩:=hst
  rw[hx,Option.bind_some]
  rw[hs,cond_true] at fin
  exact fin _ _ rfl hx2
 | false=>
  rw[hs] at am
  have am:t.at_<=4:=am
  simp only[cond_false]
  have hst:∃x,ZfZ d.top d.bottom t.at_ t.top t.bottom t.got t.end_ d.ring=some x/\((⟨d.ring,x.1,x.2.1⟩:Za),(⟨false,x.2.2.1,x.2.2.2.1,x.2.2.2.2.1,x.2.2.2.2.2.1,x.2.2.2.2.2.2⟩:Ze))=Zp9 d t:=by
   unfold ZfZ Zp9
   by_cases c0:t.at_=0
   ·simp only[c0,hs,show((0:Int)==0)=true from rfl,cond_true,if_true,hw2]
    exact⟨_,rfl,rfl⟩
   have hw3:w64 (t.bottom+1)=t.bottom+1:=Zc3 (by have:=rng c0;omega) (by have:=rng c0;omega)
   by_cases c1:t.at_=1
   ·simp only[c1,hs,show((1:Int)==0)=false from rfl,show((1:Int)==1)=true from rfl,cond_true,cond_false,show ¬(1:Int)=0 by decide,if_true,if_false]
    by_cases c2:d.top<t.bottom
    ·rw[decide_eq_true c2,if_pos c2]
     simp only[cond_true,Zl1 (d:=⟨d.ring,d.top,d.bottom⟩) hr,Zpq hr,Option.bind_some]
     exact⟨_,rfl,rfl⟩
    ·rw[decide_eq_false c2,if_neg c2]
     by_cases c3:d.top=t.bottom
     ·rw[show(d.top==t.bottom)=true from beq_iff_eq.2 c3,if_pos c3];exact⟨_,rfl,rfl⟩
     ·rw[show(d.top==t.bottom)=false from beq_eq_false_iff_ne.2 c3,if_neg c3];exact⟨_,rfl,rfl⟩
   by_cases c2:t.at_=2
   ·simp only[c2,hs,show((2:Int)==0)=false from rfl,show((2:Int)==1)=false from rfl,show((2:Int)==2)=true from rfl,cond_true,cond_false,show ¬(2:Int)=0 by decide,show ¬(2:Int)=1 by decide,if_true,if_false]
    unfold ZdT
    by_cases c4:d.top=t.top
    ·rw[show(d.top != t.top)=false by rw[c4];simp,cond_false,Option.bind_some,if_pos c4,hw1]
     simp only[Zl1 (d:=⟨d.ring,d.top+1,d.bottom⟩) hr,Zpq hr,Option.bind_some]
     exact⟨_,rfl,rfl⟩
    ·rw[show(d.top != t.top)=true by simpa using c4,cond_true,Option.bind_some,if_neg c4];exact⟨_,rfl,rfl⟩
   by_cases c4:t.at_=4
   ·simp only[c4,hs,show((4:Int)==0)=false from rfl,show((4:Int)==1)=false from rfl,show((4:Int)==2)=false from rfl,show((4:Int)==4)=true from rfl,cond_false,cond_true,show ¬(4:Int)=0 by decide,show ¬(4:Int)=1 by decide,show ¬(4:Int)=2 by decide,if_false,if_true,hw3]
    exact⟨_,rfl,rfl⟩
   have c3:t.at_=3:=by omega
   simp only[c3,hs,show((3:Int)==0)=false from rfl,show((3:Int)==1)=false from rfl,show((3:Int)==2)=false from rfl,show((3:Int)==4)=false from rfl,cond_false,show ¬(3:Int)=0 by decide,show ¬(3:Int)=1 by decide,show ¬(3:Int)=2 by decide,show ¬(3:Int)=4 by decide,if_false,hw3]
   exact⟨_,rfl,rfl⟩
  obtain⟨x,hx,hx2⟩:=hst
  rw[hx,Option.bind_some]
  rw[hs,cond_false] at fin
  exact fin _ _ rfl hx2
def clp (t:Ze):Int:=if 0<=t.at_/\t.at_<=(bif t.steal then 3 else 4) then t.at_ else 1
def vc (on:List Int) (ds:List Za) (ts:List Ze) (fs:List Int):Zb:=
 ⟨gt (·.top) 0 ds,gt (·.bottom) 0 ds,gt (fun d=>Zgn d.ring) (fun _=>0) ds,gt id 0 on,gt clp 0 ts,gt (·.top) 0 ts,gt (·.bottom) 0 ts,gt (·.got) 0 ts,gt Int.toNat 0 fs⟩
structure ZcK (g:Zm) (m:Nat) (left on:List Int) (ds:List Za) (ts:List Ze) (fs:List Int):Prop where
 crew:Zbr g left on
 ol:on.length=m
 dl:ds.length=m
 tl:ts.length=m
 fl:fs.length=m
 dq:∀d∈ds,DqW d
 en:∀t∈ts,t.end_=0
 f0:∀f∈fs,0<=f/\f<(m:Int)
 st:∀(c:Nat) t f,ts[c]? = some t->fs[c]? = some f->t.steal=(f != 0)
 bz:∀(c:Nat) n t f,on[c]? = some n->n ≠ -1->ts[c]? = some t->fs[c]? = some f->t=⟨false,0,0,0,0,0⟩/\f=0
theorem ZyF (t:Ze):0<=clp t/\clp t<=(bif t.steal then 3 else 4):=by
 unfold clp
 split
 ·rename_i h;exact h
 ·cases t.steal<;>decide
theorem Zya {t:Ze} (h:TkW t):clp t=t.at_:=if_pos ⟨h.a0,h.am⟩
theorem ZuQ {t:Ze}:clp t=0↔t.at_=0:=by
 unfold clp
 split
 ·exact Iff.rfl
 ·rename_i h
  constructor
  ·intro h1;cases h1
  ·intro h1
   refine absurd ⟨by omega,?_⟩ h
   rw[h1]
   cases t.steal<;>decide
section
variable {g:Zm} {m:Nat} {left on fs:List Int} {ds:List Za} {ts:List Ze}
theorem ZcK.gen (G:ZcK g m left on ds ts fs):∀i,i<m->Gen m (vc on ds ts fs) i:=fun i hi=>by
 have ht:=List.getElem?_eq_getElem (show i<ts.length by rw[G.tl];exact hi)
 have hf:=List.getElem?_eq_getElem (show i<fs.length by rw[G.fl];exact hi)
 have ho:=List.getElem?_eq_getElem (show i<on.length by rw[G.ol];exact hi)
 generalize ts[i]'(by rw[G.tl];exact hi)=t at ht
 generalize fs[i]'(by rw[G.fl];exact hi)=f at hf
 generalize on[i]'(by rw[G.ol];exact hi)=n at ho
 have qF:(vc on ds ts fs).F i=f.toNat:=Z9 hf
 have qa:(vc on ds ts fs).a i=clp t:=Z9 ht
 have qO:(vc on ds ts fs).O i=n:=Z9 ho
 have h0:=G.f0 f (List.mem_of_getElem? hf)
 have hs:=G.st i t f ht hf
 have hc:=ZyF t
 refine⟨by rw[qF];omega,fun h=>?_,by rw[qa];exact hc.1,?_,fun h=>?_⟩
 ·rw[qO] at h
  obtain⟨b1,b2⟩:=G.bz i n t f ho h ht hf
  rw[qa,qF,b1,b2]
  exact⟨rfl,rfl⟩
 ·rw[qa]
  cases hq:t.steal<;>rw[hq] at hc
  ·exact hc.2
  ·have:clp t<=3:=hc.2
   omega
 ·rw[qF] at h
  have h1:t.steal=true:=by rw[hs];exact bne_iff_ne.2 (by omega)
  rw[h1] at hc
  rw[qa]
  exact hc.2
theorem ZsO {work:List Int}{E:List Zo}{c:Nat}{f:Int}{d d':Za}{t t':Ze}{e:Int} (hm:0<m) (h8:m<=8) (hc:c<m) (ho:on.length=m) (h0:0<=f) (hf:f<(m:Int)) (hfs:fs[c]? = some f) (hds:ds[vic m c f.toNat]? = some d) (hts:ts[c]? = some t) (hd:Zab d t=some (d',t',e)) (he:e≠0) :
  ∃r x,ZC (c:Int) work E on left ds ts fs=some (r,x)/\r≠0:=by
 unfold ZC
 rw[Zr hfs,Option.bind_some,ho,show((m:Int)==0)=false from beq_eq_false_iff_ne.2 (by omega),cond_false,Zp4 hm h8 hc h0 hf,Zr hds,Option.bind_some,Zr hts,Option.bind_some,hd,Option.bind_some]
 simp only[Zkk he,cond_true]
 exact⟨_,_,rfl,by decide⟩
theorem Ztn {work:List Int}{E:List Zo}{c:Nat}{f:Int}{d d':Za}{t t':Ze}{R:List Int} (hm:0<m) (h8:m<=8) (hc:c<m) (ho:on.length=m) (h0:0<=f) (hf:f<(m:Int)) (hfs:fs[c]? = some f) (hds:ds[vic m c f.toNat]? = some d) (hts:ts[c]? = some t) (hd:Zab d t=some (d',t',0)) (he:t'.end_=1)
  (hR:ZbV ⟨work,E⟩ ⟨on,left⟩=some R) (hRl:R.length<9223372036854775808) (hg:t'.got∉R) :
  ∃r x,ZC (c:Int) work E on left ds ts fs=some (r,x)/\r≠0:=by
 unfold ZC
 rw[Zr hfs,Option.bind_some,ho,show((m:Int)==0)=false from beq_eq_false_iff_ne.2 (by omega),cond_false,Zp4 hm h8 hc h0 hf,Zr hds,Option.bind_some,Zr hts,Option.bind_some,hd,Option.bind_some]
 simp only[he,show((0:Int) != 0)=false from rfl,show((1:Int)==1)=true from rfl,cond_false,cond_true,hR,Option.bind_some,ZfI R _ hRl,Zhm,decide_eq_false hg]
 exact⟨_,_,rfl,by decide⟩
def Zst (g:Zm) (m:Nat) (left on:List Int) (ds:List Za) (ts:List Ze) (fs:List Int) (c:Nat):Prop:=
 (∃e x,ZC (c:Int) g.work g.edges on left ds ts fs=some (e,x)/\e≠0) ∨
 ∃on' ds' ts' fs',ZC (c:Int) g.work g.edges on left ds ts fs=some (0,on',ds',ts',fs')/\ZcK g m left on' ds' ts' fs'/\vc on' ds' ts' fs'=Zae m (vc on ds ts fs) c/\(ZiR m (vc on ds ts fs) c->(Zae m (vc on ds ts fs) c).O c ≠ -1)
variable {c v:Nat} {f:Int} {d d':Za} {t t':Ze}
theorem ZBf (on:List Int) (ds:List Za) (ts:List Ze) (fs:List Int) {i:Nat}{n:Int} (h:on[i]? = some n):(vc on ds ts fs).O i=n:=Z9 h
theorem ZsF {i:Nat}{n:Int} (hi:(vc on ds ts fs).O i = -1) (h:on[i]? = some n):n = -1:=by
 rw[ZBf on ds ts fs h] at hi
 exact hi
theorem ZqH (h:ZaM g=0) (G:ZcK g m left on ds ts fs) (hm:0<m) (h8:m<=8) (hc:c<m) (hidle:(vc on ds ts fs).O c = -1) (hfs:fs[c]? = some f) (hv:v=vic m c f.toNat) (hvm:v<m) (hds:ds[v]? = some d) (hts:ts[c]? = some t)
  (hd:Zab d t=some (d',t',0)) (he:t'.end_=0) (hq:DqW d') (hr:d'.ring=d.ring) (hs:t'.steal=t.steal) (hng:¬ZiR m (vc on ds ts fs) c)
  (hW:Zae m (vc on ds ts fs) c=⟨upd (vc on ds ts fs).T v d'.top,upd (vc on ds ts fs).B v d'.bottom,(vc on ds ts fs).R,(vc on ds ts fs).O,upd (vc on ds ts fs).a c (clp t'),upd (vc on ds ts fs).x c t'.top,upd (vc on ds ts fs).y c t'.bottom,upd (vc on ds ts fs).z c t'.got,(vc on ds ts fs).F⟩):Zst g m left on ds ts fs c:=by
 obtain⟨h0,hf⟩:=G.f0 f (List.mem_of_getElem? hfs)
 have hvd:v<ds.length:=by rw[G.dl];exact hvm
 have hct:c<ts.length:=by rw[G.tl];exact hc
 have hV:vc on (ds.set v d') (ts.set c t') fs=Zae m (vc on ds ts fs) c:=by
  rw[hW]
  refine Zb.eq_of ?_ ?_ ?_ rfl ?_ ?_ ?_ ?_ rfl
  ·exact ZbH hvd
  ·exact ZbH hvd
  ·exact Zmv hvd hds hr
  ·exact ZbH hct
  ·exact ZbH hct
  ·exact ZbH hct
  ·exact ZbH hct
 refine .inr ⟨on,ds.set v d',ts.set c t',fs,?_,⟨G.crew,G.ol,by rw[List.length_set];exact G.dl,by rw[List.length_set];exact G.tl,G.fl,fun x hx=>?_,fun x hx=>?_,G.f0,fun i ti fi hti hfi=>?_,fun i n ti fi hi hn hti hfi=>?_⟩,hV,fun h=>absurd h hng⟩
 ·subst hv;exact Ztr hm h8 hc G.ol h0 hf hfs hds hts hd he
 ·rcases Zb2 hx with hx | hx
  ·exact G.dq x hx
  ·rw[hx];exact hq
 ·rcases Zb2 hx with hx | hx
  ·exact G.en x hx
  ·rw[hx];exact he
 ·rw[List.getElem?_set] at hti
  split at hti
  ·rename_i e
   subst e
   cases hti
   rw[hs]
   rw[hfs] at hfi
   cases hfi
   exact G.st c t f hts hfs
  ·exact G.st i ti fi hti hfi
 ·rw[List.getElem?_set] at hti
  split at hti
  ·rename_i e
   subst e
   exact absurd (ZsF hidle hi) hn
  ·exact G.bz i n ti fi hi hn hti hfi
theorem ZuN (h:ZaM g=0) (G:ZcK g m left on ds ts fs) (hm:0<m) (h8:m<=8) (hc:c<m) (hidle:(vc on ds ts fs).O c = -1) (hfs:fs[c]? = some f) (hv:v=vic m c f.toNat) (hvm:v<m) (hds:ds[v]? = some d) (hts:ts[c]? = some t)
  (hd:Zab d t=some (d',t',0)) (he:t'.end_=2∨t'.end_=3) (hq:DqW d') (hr:d'.ring=d.ring) (hng:¬ZiR m (vc on ds ts fs) c)
  (hW:Zae m (vc on ds ts fs) c=⟨upd (vc on ds ts fs).T v d'.top,upd (vc on ds ts fs).B v d'.bottom,(vc on ds ts fs).R,(vc on ds ts fs).O,upd (vc on ds ts fs).a c 0,upd (vc on ds ts fs).x c 0,upd (vc on ds ts fs).y c 0,upd (vc on ds ts fs).z c 0,upd (vc on ds ts fs).F c ((f.toNat+1) % m)⟩):Zst g m left on ds ts fs c:=by
 obtain⟨h0,hf⟩:=G.f0 f (List.mem_of_getElem? hfs)
 have hvd:v<ds.length:=by rw[G.dl];exact hvm
 have hct:c<ts.length:=by rw[G.tl];exact hc
 have hcf:c<fs.length:=by rw[G.fl];exact hc
 have hml:(f.toNat+1) % m<m:=Nat.mod_lt _ hm
 have hz:∀b:Bool,clp ⟨b,0,0,0,0,0⟩=0:=fun b=>by cases b<;>rfl
 have hV:vc on (ds.set v d') (ts.set c ⟨(((f.toNat+1) % m:Nat):Int) != 0,0,0,0,0,0⟩) (fs.set c (((f.toNat+1) % m:Nat):Int))=Zae m (vc on ds ts fs) c:=by
  rw[hW]
  refine Zb.eq_of ?_ ?_ ?_ rfl ?_ ?_ ?_ ?_ ?_
  ·exact ZbH hvd
  ·exact ZbH hvd
  ·exact Zmv hvd hds hr
  ·show gt clp 0 (ts.set c _)=_
   rw[ZbH hct,hz]
   rfl
  ·exact ZbH hct
  ·exact ZbH hct
  ·exact ZbH hct
  ·exact ZbH hcf
 refine .inr ⟨on,_,_,_,?_,⟨G.crew,G.ol,by rw[List.length_set];exact G.dl,by rw[List.length_set];exact G.tl,by rw[List.length_set];exact G.fl,fun x hx=>?_,fun x hx=>?_,fun x hx=>?_,fun i ti fi hti hfi=>?_,fun i n ti fi hi hn hti hfi=>?_⟩,hV,fun h=>absurd h hng⟩
 ·subst hv;exact ZqX hm h8 hc G.ol G.tl G.fl h0 hf hfs hds hts hd he
 ·rcases Zb2 hx with hx | hx
  ·exact G.dq x hx
  ·rw[hx];exact hq
 ·rcases Zb2 hx with hx | hx
  ·exact G.en x hx
  ·rw[hx]
 ·rcases Zb2 hx with hx | hx
  ·exact G.f0 x hx
  ·rw[hx];omega
 ·rw[List.getElem?_set] at hti hfi
  split at hti
  ·rename_i e
   subst e
   rw[if_pos rfl,if_pos hcf] at hfi
   cases hti;cases hfi;rfl
  ·rename_i e
   rw[if_neg e] at hfi
   exact G.st i ti fi hti hfi
 ·rw[List.getElem?_set] at hti hfi
  split at hti
  ·rename_i e
   subst e
   exact absurd (ZsF hidle hi) hn
  ·rename_i e
   rw[if_neg e] at hfi
   exact G.bz i n ti fi hi hn hti hfi
theorem ZyA (h:ZaM g=0) (G:ZcK g m left on ds ts fs) (hm:0<m) (h8:m<=8) (hc:c<m) (hidle:(vc on ds ts fs).O c = -1) (hfs:fs[c]? = some f) (hv:v=vic m c f.toNat) (hvm:v<m) (hds:ds[v]? = some d) (hts:ts[c]? = some t)
  (hd:Zab d t=some (d',t',0)) (he:t'.end_=1) (hq:DqW d') (hr:d'.ring=d.ring)
  (hW:Zae m (vc on ds ts fs) c=⟨upd (vc on ds ts fs).T v d'.top,upd (vc on ds ts fs).B v d'.bottom,(vc on ds ts fs).R,upd (vc on ds ts fs).O c t'.got,upd (vc on ds ts fs).a c 0,upd (vc on ds ts fs).x c 0,upd (vc on ds ts fs).y c 0,upd (vc on ds ts fs).z c 0,upd (vc on ds ts fs).F c 0⟩):Zst g m left on ds ts fs c:=by
 obtain⟨h0,hf⟩:=G.f0 f (List.mem_of_getElem? hfs)
 have hvd:v<ds.length:=by rw[G.dl];exact hvm
 have hct:c<ts.length:=by rw[G.tl];exact hc
 have hcf:c<fs.length:=by rw[G.fl];exact hc
 have hco:c<on.length:=by rw[G.ol];exact hc
 obtain⟨hG,hA⟩:=Za0 h
 have rng:∀x∈left,0<=x:=fun x hx=>(G.crew.ok.rng x hx).1
 have hRl:(Zbc g.edges left on).length<9223372036854775808:=by
  have:=Zi8 g.edges left on
  have:=G.crew.ll
  have:=hG.wl
  omega
 by_cases hR:t'.got∈Zbc g.edges left on
 ·have hrd:=(ZmX rng).1 hR
  have hV:vc (on.set c t'.got) (ds.set v d') (ts.set c ⟨false,0,0,0,0,0⟩) (fs.set c 0)=Zae m (vc on ds ts fs) c:=by
   rw[hW]
   refine Zb.eq_of ?_ ?_ ?_ ?_ ?_ ?_ ?_ ?_ ?_
   ·exact ZbH hvd
   ·exact ZbH hvd
   ·exact Zmv hvd hds hr
   ·exact ZbH hco
   ·exact ZbH hct
   ·exact ZbH hct
   ·exact ZbH hct
   ·exact ZbH hct
   ·exact ZbH hcf
  have hO:(Zae m (vc on ds ts fs) c).O c=t'.got:=by rw[hW];exact ZaS _ _ _
  have crew':Zbr g left (on.set c t'.got):=by
   refine⟨G.crew.ll,by rw[List.length_set];exact G.crew.o1,by rw[List.length_set];exact G.crew.o8,G.crew.ok.rng,fun n hn=>?_,fun i j n hi hj hnn=>?_,G.crew.ok.over⟩
   ·rcases Zb2 hn with hn | hn
    ·exact G.crew.ok.run n hn
    ·rw[hn];exact .inr ⟨hrd.1,hrd.2.1,hrd.2.2.2⟩
   ·rw[List.getElem?_set] at hi hj
    by_cases e1:c=i
    ·by_cases e2:c=j
     ·omega
     ·rw[if_pos e1,if_pos hco] at hi
      rw[if_neg e2] at hj
      cases hi
      exact absurd (List.mem_of_getElem? hj) hrd.2.2.1
    ·by_cases e2:c=j
     ·rw[if_neg e1] at hi
      rw[if_pos e2,if_pos hco] at hj
      cases hj
      exact absurd (List.mem_of_getElem? hi) hrd.2.2.1
     ·rw[if_neg e1] at hi
      rw[if_neg e2] at hj
      exact G.crew.ok.one i j n hi hj hnn
  refine .inr ⟨_,_,_,_,?_,⟨crew',by rw[List.length_set];exact G.ol,by rw[List.length_set];exact G.dl,by rw[List.length_set];exact G.tl,by rw[List.length_set];exact G.fl,fun x hx=>?_,fun x hx=>?_,fun x hx=>?_,fun i ti fi hti hfi=>?_,fun i n ti fi hi hn hti hfi=>?_⟩,hV,fun _=>by rw[hO];have:=hrd.1.1;omega⟩
  ·subst hv;exact Zs6 hm h8 hc G.ol G.tl G.fl h0 hf hfs hds hts hd he (ZlQ h G.crew) hRl hR
  ·rcases Zb2 hx with hx | hx
   ·exact G.dq x hx
   ·rw[hx];exact hq
  ·rcases Zb2 hx with hx | hx
   ·exact G.en x hx
   ·rw[hx]
  ·rcases Zb2 hx with hx | hx
   ·exact G.f0 x hx
   ·rw[hx];omega
  ·rw[List.getElem?_set] at hti hfi
   split at hti
   ·rename_i e
    subst e
    rw[if_pos rfl,if_pos hcf] at hfi
    cases hti;cases hfi;rfl
   ·rename_i e
    rw[if_neg e] at hfi
    exact G.st i ti fi hti hfi
  ·rw[List.getElem?_set] at hti hi hfi
   split at hti
   ·rename_i e
    subst e
    rw[if_pos rfl,if_pos hcf] at hfi
    cases hti;cases hfi;exact⟨rfl,rfl⟩
   ·rename_i e
    rw[if_neg e] at hi hfi
    exact G.bz i n ti fi hi hn hti hfi
 ·refine .inl ?_
  subst hv;exact Ztn hm h8 hc G.ol h0 hf hfs hds hts hd he (ZlQ h G.crew) hRl hR
theorem Zxu (h:ZaM g=0) (G:ZcK g m left on ds ts fs) (hc:c<m) (hidle:(vc on ds ts fs).O c = -1):Zst g m left on ds ts fs c:=by
 have hm:0<m:=by omega
 have h8:m<=8:=by rw[<- G.ol];exact G.crew.o8
 obtain⟨f,hfs⟩:∃f,fs[c]? = some f:=⟨_,List.getElem?_eq_getElem (by rw[G.fl];exact hc)⟩
 obtain⟨t,hts⟩:∃t,ts[c]? = some t:=⟨_,List.getElem?_eq_getElem (by rw[G.tl];exact hc)⟩
 obtain⟨h0,hf⟩:=G.f0 f (List.mem_of_getElem? hfs)
 have hvm:=Zpa hm c f.toNat
 obtain⟨d,hds⟩:∃d,ds[vic m c f.toNat]? = some d:=⟨_,List.getElem?_eq_getElem (by rw[G.dl];exact hvm)⟩
 have hr:=(G.dq d (List.mem_of_getElem? hds)).len
 rcases ZtX d t hr with⟨d',t',e,q1,q2⟩ | ⟨d',t',q1,ht,hd,hd',hrr,q2⟩
 ·exact .inl (ZsO hm h8 hc G.ol h0 hf hfs hds hts q1 q2)
 have qF:(vc on ds ts fs).F c=f.toNat:=Z9 hfs
 have qa:(vc on ds ts fs).a c=t.at_:=by
  have:(vc on ds ts fs).a c=clp t:=Z9 hts
  rw[this,Zya ht]
 have qx:(vc on ds ts fs).x c=t.top:=Z9 hts
 have qy:(vc on ds ts fs).y c=t.bottom:=Z9 hts
 have qz:(vc on ds ts fs).z c=t.got:=Z9 hts
 have qT:(vc on ds ts fs).T (vic m c f.toNat)=d.top:=Z9 hds
 have qB:(vc on ds ts fs).B (vic m c f.toNat)=d.bottom:=Z9 hds
 have qR:(vc on ds ts fs).R (vic m c f.toNat)=Zgn d.ring:=Z9 hds
 have hst:=G.st c t f hts hfs
 have hen:=ht.en
 have a0:=ht.a0
 have am:=ht.am
 have T1:∀{k:Nat->Int} {i:Nat} {x:Int},k i=x->k=upd k i x:=fun h=>(Zvk _ _ h.symm).symm
 by_cases hF:f=0
 ·have hs:t.steal=false:=by rw[hst,hF];rfl
  have hF0:f.toNat=0:=by omega
  have hVF:(vc on ds ts fs).F c=0:=by rw[qF,hF0]
  have hv:vic m c f.toNat=c:=by rw[hF0];exact Zqm hc
  rw[hv] at hds qT qB qR hvm
  rw[hs,cond_false] at q2
  rw[hs] at am
  have am:t.at_<=4:=am
  have e1:d'=(Zp9 d t).1:=congrArg Prod.fst q2
  have e2:t'=(Zp9 d t).2:=congrArg Prod.snd q2
  clear q2
  unfold Zp9 at e1 e2
  by_cases c0:t.at_=0
  ·rw[if_pos c0] at e1 e2
   subst e1;subst e2
   refine ZqH h G hm h8 hc hidle hfs hv.symm hc hds hts q1 hen hd' hrr rfl (by unfold ZiR;rw[hVF,qa];omega) ?_
   unfold Zae
   rw[if_pos hVF,if_pos (by rw[qa];exact c0),qB,qx,qz]
   refine Zb.eq_of (T1 qT) rfl rfl rfl ?_ rfl rfl rfl rfl
   simp only[Zb.tk,Zb.setB,clp,hs];rfl
  rw[if_neg c0] at e1 e2
  by_cases c1:t.at_=1
  ·rw[if_pos c1] at e1 e2
   by_cases k1:d.top<t.bottom
   ·rw[if_pos k1] at e1 e2
    subst e1;subst e2
    refine ZyA h G hm h8 hc hidle hfs hv.symm hc hds hts q1 rfl hd' hrr ?_
    unfold Zae
    rw[if_pos hVF,if_neg (by rw[qa];exact c0),if_pos (by rw[qa];exact c1),qT,qy,if_pos k1,qR]
    exact Zb.eq_of (T1 qT) (T1 qB) rfl rfl rfl rfl rfl rfl rfl
   rw[if_neg k1] at e1 e2
   by_cases k2:d.top=t.bottom
   ·rw[if_pos k2] at e1 e2
    subst e1;subst e2
    refine ZqH h G hm h8 hc hidle hfs hv.symm hc hds hts q1 hen hd' hrr rfl (by unfold ZiR;rw[hVF,qa,qT,qy];omega) ?_
    unfold Zae
    rw[if_pos hVF,if_neg (by rw[qa];exact c0),if_pos (by rw[qa];exact c1),qT,qy,if_neg k1,if_pos k2,qz]
    refine Zb.eq_of (T1 qT) (T1 qB) rfl rfl ?_ rfl rfl rfl rfl
    simp only[Zb.tk,clp,hs];rfl
   ·rw[if_neg k2] at e1 e2
    subst e1;subst e2
    refine ZqH h G hm h8 hc hidle hfs hv.symm hc hds hts q1 hen hd' hrr rfl (by unfold ZiR;rw[hVF,qa,qT,qy];omega) ?_
    unfold Zae
    rw[if_pos hVF,if_neg (by rw[qa];exact c0),if_pos (by rw[qa];exact c1),qT,qy,if_neg k1,if_neg k2,qz]
    refine Zb.eq_of (T1 qT) (T1 qB) rfl rfl ?_ rfl rfl rfl rfl
    simp only[Zb.tk,clp,hs];rfl
  rw[if_neg c1] at e1 e2
  by_cases c2:t.at_=2
  ·rw[if_pos c2] at e1 e2
   by_cases k1:d.top=t.top
   ·rw[if_pos k1] at e1 e2
    subst e1;subst e2
    refine ZqH h G hm h8 hc hidle hfs hv.symm hc hds hts q1 hen hd' hrr rfl (by unfold ZiR;rw[hVF,qa];omega) ?_
    unfold Zae
    rw[if_pos hVF,if_neg (by rw[qa];exact c0),if_neg (by rw[qa];exact c1),if_pos (by rw[qa];exact c2),qT,qx,if_pos k1,qy,qR]
    refine Zb.eq_of rfl (T1 qB) rfl rfl ?_ rfl rfl rfl rfl
    simp only[Zb.tk,Zb.setT,clp,hs];rfl
   ·rw[if_neg k1] at e1 e2
    subst e1;subst e2
    refine ZqH h G hm h8 hc hidle hfs hv.symm hc hds hts q1 hen hd' hrr rfl (by unfold ZiR;rw[hVF,qa];omega) ?_
    unfold Zae
    rw[if_pos hVF,if_neg (by rw[qa];exact c0),if_neg (by rw[qa];exact c1),if_pos (by rw[qa];exact c2),qT,qx,if_neg k1,qy,qz]
    refine Zb.eq_of (T1 qT) (T1 qB) rfl rfl ?_ rfl rfl rfl rfl
    simp only[Zb.tk,clp,hs];rfl
  rw[if_neg c2] at e1 e2
  by_cases c4:t.at_=4
  ·rw[if_pos c4] at e1 e2
   subst e1;subst e2
   refine ZyA h G hm h8 hc hidle hfs hv.symm hc hds hts q1 rfl hd' hrr ?_
   unfold Zae
   rw[if_pos hVF,if_neg (by rw[qa];exact c0),if_neg (by rw[qa];exact c1),if_neg (by rw[qa];exact c2),if_pos (by rw[qa];exact c4),qy,qz]
   exact Zb.eq_of (T1 qT) rfl rfl rfl rfl rfl rfl rfl rfl
  ·rw[if_neg c4] at e1 e2
   subst e1;subst e2
   refine ZuN h G hm h8 hc hidle hfs hv.symm hc hds hts q1 (.inl rfl) hd' hrr (by unfold ZiR;rw[hVF,qa];omega) ?_
   unfold Zae
   rw[if_pos hVF,if_neg (by rw[qa];exact c0),if_neg (by rw[qa];exact c1),if_neg (by rw[qa];exact c2),if_neg (by rw[qa];exact c4),qy,hF0]
   exact Zb.eq_of (T1 qT) rfl rfl rfl rfl rfl rfl rfl rfl
 ·have hs:t.steal=true:=by rw[hst];exact bne_iff_ne.2 hF
  have hVF:¬(vc on ds ts fs).F c=0:=by rw[qF];omega
  rw[hs,cond_true] at q2
  rw[hs] at am
  have am:t.at_<=3:=am
  have e1:d'=(Zil d t).1:=congrArg Prod.fst q2
  have e2:t'=(Zil d t).2:=congrArg Prod.snd q2
  clear q2
  unfold Zil at e1 e2
  by_cases c0:t.at_=0
  ·rw[if_pos c0] at e1 e2
   subst e1;subst e2
   refine ZqH h G hm h8 hc hidle hfs rfl hvm hds hts q1 hen hd' hrr rfl (by unfold ZiR;rw[qa];omega) ?_
   unfold Zae
   rw[if_neg hVF,if_pos (by rw[qa];exact c0),qF,qT,qy,qz]
   refine Zb.eq_of (T1 qT) (T1 qB) rfl rfl ?_ rfl rfl rfl rfl
   simp only[Zb.tk,clp,hs];rfl
  rw[if_neg c0] at e1 e2
  by_cases c1:t.at_=1
  ·rw[if_pos c1] at e1 e2
   by_cases k1:t.top<d.bottom
   ·rw[if_pos k1] at e1 e2
    subst e1;subst e2
    refine ZqH h G hm h8 hc hidle hfs rfl hvm hds hts q1 hen hd' hrr rfl (by unfold ZiR;rw[qa];omega) ?_
    unfold Zae
    rw[if_neg hVF,if_neg (by rw[qa];exact c0),if_pos (by rw[qa];exact c1),qF,qx,qB,if_pos k1,qz]
    refine Zb.eq_of (T1 qT) (T1 qB) rfl rfl ?_ rfl rfl rfl rfl
    simp only[Zb.tk,clp,hs];rfl
   ·rw[if_neg k1] at e1 e2
    subst e1;subst e2
    refine ZuN h G hm h8 hc hidle hfs rfl hvm hds hts q1 (.inl rfl) hd' hrr (by unfold ZiR;rw[qa];omega) ?_
    unfold Zae
    rw[if_neg hVF,if_neg (by rw[qa];exact c0),if_pos (by rw[qa];exact c1),qF,qx,qB,if_neg k1]
    exact Zb.eq_of (T1 qT) (T1 qB) rfl rfl rfl rfl rfl rfl rfl
  rw[if_neg c1] at e1 e2
  by_cases c2:t.at_=2
  ·rw[if_pos c2] at e1 e2
   subst e1;subst e2
   refine ZqH h G hm h8 hc hidle hfs rfl hvm hds hts q1 hen hd' hrr rfl (by unfold ZiR;rw[qa];omega) ?_
   unfold Zae
   rw[if_neg hVF,if_neg (by rw[qa];exact c0),if_neg (by rw[qa];exact c1),if_pos (by rw[qa];exact c2),qF,qx,qy,qR]
   refine Zb.eq_of (T1 qT) (T1 qB) rfl rfl ?_ rfl rfl rfl rfl
   simp only[Zb.tk,clp,hs];rfl
  rw[if_neg c2] at e1 e2
  by_cases k1:d.top=t.top
  ·rw[if_pos k1] at e1 e2
   subst e1;subst e2
   refine ZyA h G hm h8 hc hidle hfs rfl hvm hds hts q1 rfl hd' hrr ?_
   unfold Zae
   rw[if_neg hVF,if_neg (by rw[qa];exact c0),if_neg (by rw[qa];exact c1),if_neg (by rw[qa];exact c2),qF,qT,qx,if_pos k1,qz]
   exact Zb.eq_of rfl (T1 qB) rfl rfl rfl rfl rfl rfl rfl
  ·rw[if_neg k1] at e1 e2
   subst e1;subst e2
   refine ZuN h G hm h8 hc hidle hfs rfl hvm hds hts q1 (.inr rfl) hd' hrr (by unfold ZiR;rw[qa,qF,qT,qx];omega) ?_
   unfold Zae
   rw[if_neg hVF,if_neg (by rw[qa];exact c0),if_neg (by rw[qa];exact c1),if_neg (by rw[qa];exact c2),qF,qT,qx,if_neg k1]
   exact Zb.eq_of (T1 qT) (T1 qB) rfl rfl rfl rfl rfl rfl rfl
theorem Zuw (G:ZcK g m left on ds ts fs):ZaV on ds ts=some (wlV m (vc on ds ts fs)):=by
 have h8:m<=8:=by rw[<- G.ol];exact G.crew.o8
 rw[Zw8 (fs:=fs) G.ol G.dl G.tl h8]
 have e:wlV m (vw on ds ts fs)=wlV m (vc on ds ts fs):=by
  unfold wlV
  congr 1
  refine List.filter_congr fun i hi=>?_
  have hi:=List.mem_range.1 hi
  have ht:=List.getElem?_eq_getElem (show i<ts.length by rw[G.tl];exact hi)
  generalize ts[i]'(by rw[G.tl];exact hi)=t at ht
  have e1:(vw on ds ts fs).a i=t.at_:=Z9 ht
  have e2:(vc on ds ts fs).a i=clp t:=Z9 ht
  have e3:decide ((vw on ds ts fs).a i=0)=decide ((vc on ds ts fs).a i=0):=by
   rw[e1,e2]
   exact decide_eq_decide.2 ZuQ.symm
  rw[e3]
  rfl
 rw[e]
theorem Zzf (h:ZaM g=0) {picks:List Int} (hp:picks.length<=100000) (G:ZcK g m left on ds ts fs) :
  (∃n e x,ZbP picks g.work g.edges on left ds ts fs=some (n,e,x)/\e≠0) ∨
  ∃(n:Nat) (l:Int) (on':List Int) (ds':List Za) (ts':List Ze) (fs':List Int),ZbP picks g.work g.edges on left ds ts fs=some ((n:Int),0,l,on',ds',ts',fs')/\ZcK g m left on' ds' ts' fs':=by
 have h8:m<=8:=by rw[<- G.ol];exact G.crew.o8
 have key:=Zun (σ:=List Int×List Za×List Ze×List Int) (m:=m) (L:=picks.length) (fun S=>vc S.1 S.2.1 S.2.2.1 S.2.2.2)
  (fun S c=>match ZC (c:Int) g.work g.edges S.1 left S.2.1 S.2.2.1 S.2.2.2 with | some (_,x)=>x | none=>S)
  (fun S=>ZcK g m left S.1 S.2.1 S.2.2.1 S.2.2.2) (fun S c=>∃e x,ZC (c:Int) g.work g.edges S.1 left S.2.1 S.2.2.1 S.2.2.2=some (e,x)/\e≠0)
  (fun S j=>ZcK.gen j)
  (fun S c j hw he=>by
   rcases Zxu h j hw.1 hw.2.1 with q | ⟨on',ds',ts',fs',q1,q2,q3,q4⟩
   ·exact absurd q he
   ·rw[q1]
    exact⟨q2,q3,q4⟩)
  (fun S last s=>chV m picks (vc S.1 S.2.1 S.2.2.1 S.2.2.2) last s)
  (fun S last s j hx=>⟨(Zkq h8 (by omega) hx).1,(Zkq h8 (by omega) hx).2.1⟩)
  (fun n s S l=>s+n<=200000 ->
   (∃e x,lp (ZM picks g.work g.edges left) ((s:Int),wlV m (vc S.1 S.2.1 S.2.2.1 S.2.2.2),l,S.1,S.2.1,S.2.2.1,S.2.2.2)=some (.inl (e,x))/\e≠0) ∨
   ∃(n':Nat) (l':Int) (on':List Int) (ds':List Za) (ts':List Ze) (fs':List Int),lp (ZM picks g.work g.edges left) ((s:Int),wlV m (vc S.1 S.2.1 S.2.2.1 S.2.2.2),l,S.1,S.2.1,S.2.2.1,S.2.2.2)=some (.inr ((n':Int),l',on',ds',ts',fs'))/\ZcK g m left on' ds' ts' fs')
  (fun n s S l j hw hk=>by
   have hnil:wlV m (vc S.1 S.2.1 S.2.2.1 S.2.2.2)=[]:=by
    rw[List.eq_nil_iff_forall_not_mem]
    intro z hz
    exact hw _ (Zga.1 hz).2
   refine .inr ⟨s,l,S.1,S.2.1,S.2.2.1,S.2.2.2,?_,j⟩
   rw[ZbS,hnil]
   rfl)
  (fun n s S l j hw he hk=>by
   obtain⟨e,x,q1,q2⟩:=he
   refine .inl ?_
   have hne:0<(wlV m (vc S.1 S.2.1 S.2.2.1 S.2.2.2)).length:=List.length_pos_iff.2 fun e=>by
    have:((chV m picks (vc S.1 S.2.1 S.2.2.1 S.2.2.2) l s:Nat):Int)∈wlV m (vc S.1 S.2.1 S.2.2.1 S.2.2.2):=Zga.2 ⟨by omega,by simpa using hw⟩
    rw[e] at this;cases this
   have hnx:=(Zkq (picks:=picks) (last:=l) (s:=s) h8 (by omega) ⟨_,hw⟩).2.2
   rw[ZbS]
   simp only[ZM,decide_eq_true (show(0:Int)<((wlV m (vc S.1 S.2.1 S.2.2.1 S.2.2.2)).length:Int) by omega),cond_true,hnx,Option.bind_some,q1,Zkk q2]
   exact⟨_,_,rfl,q2⟩)
  (fun n s S l j hw he hq hk=>by
   rcases Zxu h j hw.1 hw.2.1 with q | ⟨on1,ds1,ts1,fs1,p1,p2,p3,p4⟩
   ·exact absurd q he
   rw[p1] at hq
   have hne:0<(wlV m (vc S.1 S.2.1 S.2.2.1 S.2.2.2)).length:=List.length_pos_iff.2 fun e=>by
    have:((chV m picks (vc S.1 S.2.1 S.2.2.1 S.2.2.2) l s:Nat):Int)∈wlV m (vc S.1 S.2.1 S.2.2.1 S.2.2.2):=Zga.2 ⟨by omega,by simpa using hw⟩
    rw[e] at this;cases this
   have hnx:=(Zkq (picks:=picks) (last:=l) (s:=s) h8 (by omega) ⟨_,hw⟩).2.2
   have e1:lp (ZM picks g.work g.edges left) ((s:Int),wlV m (vc S.1 S.2.1 S.2.2.1 S.2.2.2),l,S.1,S.2.1,S.2.2.1,S.2.2.2)=lp (ZM picks g.work g.edges left) (((s+1:Nat):Int),wlV m (vc on1 ds1 ts1 fs1),((chV m picks (vc S.1 S.2.1 S.2.2.1 S.2.2.2) l s:Nat):Int),on1,ds1,ts1,fs1):=by
    rw[ZbS]
    simp only[ZM,decide_eq_true (show(0:Int)<((wlV m (vc S.1 S.2.1 S.2.2.1 S.2.2.2)).length:Int) by omega),cond_true,hnx,Option.bind_some,p1,show((0:Int) != 0)=false from rfl,cond_false,Zuw p2]
    rw[Zc3 (by omega) (by omega),show(s:Int)+1=((s+1:Nat):Int) by omega]
   rw[e1]
   exact hq (by omega))
  0 (on,ds,ts,fs) (-1) G ⟨by omega,by
   have h1m:1<=m:=by rw[<- G.ol];exact G.crew.o1
   omega⟩
 have hfar:Zlv m m m (mi m m)<=100000:=by
  have:m=0∨m=1∨m=2∨m=3∨m=4∨m=5∨m=6∨m=7∨m=8:=by omega
  rcases this with rfl | rfl | rfl | rfl | rfl | rfl | rfl | rfl | rfl<;>decide
 unfold ZbP
 rw[Zuw G,Option.bind_some]
 rcases key (by omega) with⟨e,x,q1,q2⟩ | ⟨n',l',on',ds',ts',fs',q1,q2⟩
 ·rw[show(lp (ZM picks g.work g.edges left) (0,wlV m (vc on ds ts fs), -1,on,ds,ts,fs))=_ from q1]
  exact .inl ⟨_,_,_,rfl,q2⟩
 ·rw[show(lp (ZM picks g.work g.edges left) (0,wlV m (vc on ds ts fs), -1,on,ds,ts,fs))=_ from q1]
  exact .inr ⟨n',l',on',ds',ts',fs',rfl,q2⟩
end
end Go.Proofs.YtgcfmiajkbbmeaaGreat
namespace Go.Proofs.YtgcfmiajkbbmeaaGreat
open Go Go.Proofs.YtgcfmiajkbbmeaaGreatE
open Go.IntKind (u64 i64 u32 i32 u8)
theorem Zse {γ R:Type} (l:List γ) (step:Int->Option (Int⊕R)) (bad fin:R) (P:Nat->γ->Prop)
  (h1:∀i x,i<l.length->l[i]? = some x->step (i:Int)=some (.inr bad)∨(step (i:Int)=some (.inl ((i+1:Nat):Int))/\P i x)) (h2:step (l.length:Int)=some (.inr fin)) :
  lp step 0=some bad∨(lp step 0=some fin/\∀i x,l[i]? = some x->P i x):=by
 have key:∀(k i:Nat),i+k=l.length->(∀j x,j<i->l[j]? = some x->P j x)->lp step (i:Int)=some bad∨(lp step (i:Int)=some fin/\∀j x,l[j]? = some x->P j x):=by
  intro k
  induction k with
  | zero=>
   intro i hi hP
   have:i=l.length:=by omega
   subst this
   refine .inr ⟨by rw[ZbS,h2],fun j x hj=>hP j x (List.getElem?_eq_some_iff.1 hj).1 hj⟩
  | succ k ih=>
   intro i hi hP
   have hil:i<l.length:=by omega
   have hx:=List.getElem?_eq_getElem hil
   rcases h1 i _ hil hx with q | ⟨q,hp⟩
   ·exact .inl (by rw[ZbS,q])
   ·rw[ZbS,q]
    refine ih (i+1) (by omega) fun j x hj hjx=>?_
    by_cases e:j=i
    ·subst e
     rw[hx] at hjx
     cases hjx
     exact hp
    ·exact hP j x (by omega) hjx
 exact key l.length 0 (by omega) (fun j x hj=>by omega)
theorem ZvQ {g:Zm} (hG:ZcG g) {left on:List Int} (ho:on.length<=100) (hl:left.length<=100):ZcA g (Zz.mk on left)=some false∨(ZcA g (Zz.mk on left)=some true/\Zbr g left on):=by
 unfold ZcA
 dsimp only
 by_cases k1:(on.length:Int)<1
 ·rw[decide_eq_true k1];exact .inl rfl
 rw[decide_eq_false k1,cond_false]
 by_cases k2:8<(on.length:Int)
 ·rw[decide_eq_true k2];exact .inl rfl
 rw[decide_eq_false k2,cond_false]
 by_cases k3:left.length=g.work.length
 ·rw[show((left.length:Int) != (g.work.length:Int))=false by rw[k3];simp,cond_false,Zdq left _ (fun x=>decide (x<0) || decide (1000<x)) (fun x _=>ZqF x) (by omega),Option.bind_some]
  cases h0:left.any fun x=>decide (x<0) || decide (1000<x) with
  | true=>exact .inl rfl
  | false=>
   rw[cond_false]
   have rng:∀x∈left,0<=x/\x<=1000:=fun x hx=>by
    have:=List.any_eq_false.1 h0 x hx
    rw[Bool.not_eq_true,Bool.or_eq_false_iff,decide_eq_false_iff_not,decide_eq_false_iff_not] at this
    omega
   have q1:=Zse on (ZaI g (Zz.mk on left)) (.inl ()) (.inr ()) (fun i n=>n = -1∨(isN left n/\0<lf left n/\Zhd g.edges left n/\n∉on.take i)) (fun i n hi hn=>by
    simp only[ZaI,ZcJ hi,cond_true,Zr hn,Option.bind_some,ZN hi (show on.length<9223372036854775808 by omega)]
    by_cases c1:n = -1
    ·rw[show(n == -1)=true from beq_iff_eq.2 c1];exact .inr ⟨rfl,.inl c1⟩
    rw[show(n == -1)=false from beq_eq_false_iff_ne.2 c1,cond_false]
    by_cases c2:n<0
    ·rw[decide_eq_true c2];exact .inl rfl
    rw[decide_eq_false c2,cond_false]
    by_cases c3:(left.length:Int)<=n
    ·rw[decide_eq_true c3];exact .inl rfl
    rw[decide_eq_false c3,cond_false]
    have hN:isN left n:=⟨by omega,by omega⟩
    rw[Zjg (c:=Zz.mk on left) hN,Option.bind_some]
    by_cases c4:lf left n=0
    ·rw[show(lf left n==0)=true from beq_iff_eq.2 c4];exact .inl rfl
    rw[show(lf left n==0)=false from beq_eq_false_iff_ne.2 c4,cond_false]
    simp only[decide_eq_true (show(0:Int)<=(i:Int) by omega),Int.toNat_natCast,Nat.ble_eq_true_of_le (show i<=on.length by omega),cond_true,ZfI (List.take i on) n (by rw[List.length_take];omega),Option.bind_some,Zhm]
    by_cases c5:n∈on.take i
    ·rw[decide_eq_true c5];exact .inl rfl
    rw[decide_eq_false c5,cond_false,ZmZ hG (c:=Zz.mk on left) k3,Option.bind_some]
    cases c6:Zi1 g.edges left n with
    | false=>exact .inl rfl
    | true=>
     have:=rng _ (List.mem_of_getElem? (Zin hN.1 hN.2))
     exact .inr ⟨rfl,.inr ⟨hN,by omega,ZcP.1 c6,c5⟩⟩) (by simp only[ZaI,ZcW];rfl)
   rcases q1 with q1 | ⟨q1,h1⟩
   ·rw[q1];exact .inl rfl
   rw[q1,Option.bind_some]
   dsimp only
   have q2:=Zse left (ZaK g (Zz.mk on left)) (.inl ()) (.inr ()) (fun i x=>x=0->Zhd g.edges left (i:Int)) (fun i x hi hx=>by
    have hin:isN left (i:Int):=⟨by omega,by simpa using hi⟩
    have hlf:lf left (i:Int)=x:=Znt hx
    simp only[ZaK,ZcJ hi,cond_true,Zjg (c:=Zz.mk on left) hin,Option.bind_some,ZmZ hG (c:=Zz.mk on left) k3,ZN hi (show left.length<9223372036854775808 by omega),hlf]
    by_cases c1:x=0
    ·rw[show(x==0)=true from beq_iff_eq.2 c1,cond_true]
     cases c2:Zi1 g.edges left (i:Int) with
     | false=>exact .inl rfl
     | true=>exact .inr ⟨rfl,fun _=>ZcP.1 c2⟩
    ·rw[show(x==0)=false from beq_eq_false_iff_ne.2 c1]
     exact .inr ⟨rfl,fun h=>absurd h c1⟩) (by simp only[ZaK,ZcW];rfl)
   rcases q2 with q2 | ⟨q2,h2⟩
   ·rw[q2];exact .inl rfl
   rw[q2]
   refine .inr ⟨rfl,⟨k3,by omega,by omega,⟨rng,fun n hn=>?_,fun i j n hi hj hn=>?_,fun n hn h0=>?_⟩⟩⟩
   ·obtain⟨i,hi⟩:=List.getElem?_of_mem hn
    rcases h1 i n hi with h | ⟨h3,h4,h5,_⟩
    ·exact .inl h
    ·exact .inr ⟨h3,h4,h5⟩
   ·have no:∀i j:Nat,on[i]? = some n->on[j]? = some n->¬i<j:=fun i j hi hj hij=>by
     rcases h1 j n hj with h | ⟨_,_,_,h⟩
     ·exact hn h
     ·refine h (List.mem_of_getElem? (i:=i) ?_)
      rw[List.getElem?_take,if_pos hij]
      exact hi
    have a1:=no i j hi hj
    have a2:=no j i hj hi
    omega
   ·have:=h2 n.toNat (lf left n) (Zin hn.1 hn.2) h0
    rw[Int.toNat_of_nonneg hn.1] at this
    exact this
 ·rw[show((left.length:Int) != (g.work.length:Int))=true by rw[bne_iff_ne];omega]
  exact .inl rfl
theorem Zkc {g:Zm} (hs:Zir g) {left on:List Int} (ho:on.length<=100) (hl:left.length<=100):(∃e,ZaF g (Zz.mk on left)=some e/\e≠0)∨(ZaF g (Zz.mk on left)=some 0/\ZaM g=0/\Zbr g left on):=by
 unfold ZaF
 rw[Zfs g hs,Option.bind_some]
 by_cases h:ZaM g=0
 ·rw[h]
  simp only[beq_self_eq_true,cond_true]
  rcases ZvQ (Za0 h).1 ho hl with q | ⟨q,c⟩
  ·rw[q];exact .inl ⟨_,rfl,by decide⟩
  ·rw[q];exact .inr ⟨rfl,trivial,c⟩
 ·rw[show(ZaM g==0)=false from beq_eq_false_iff_ne.2 h]
  exact .inl ⟨_,rfl,h⟩
structure Ze4 (left on:List Int) (ds:List Za) (ts:List Ze) (fs:List Int):Prop where
 o:on.length<=100
 l:left.length<=100
 d:ds.length<=100
 t:ts.length<=100
 f:fs.length<=100
 r:∀q∈ds,q.ring.length<=1000
def Zqv (t:Ze):Bool:=(t.steal==false)&&((t.at_==0)&&((t.top==0)&&((t.bottom==0)&&((t.got==0)&&((t.end_==0)&&true)))))
theorem Ztx {t:Ze}:Zqv t=true↔t=⟨false,0,0,0,0,0⟩:=by
 unfold Zqv
 constructor
 ·intro h
  simp only[Bool.and_eq_true,beq_iff_eq] at h
  obtain⟨h1,h2,h3,h4,h5,h6,_⟩:=h
  cases t
  simp only at h1 h2 h3 h4 h5 h6
  subst h1;subst h2;subst h3;subst h4;subst h5;subst h6
  rfl
 ·intro h;rw[h];rfl
section
variable {g:Zm} {m:Nat} {left on fs:List Int} {ds:List Za} {ts:List Ze}
theorem Zo2 (W:Ze4 left on ds ts fs):Zb1 ⟨⟨on,left⟩,ds,ts,fs⟩=some false∨(Zb1 ⟨⟨on,left⟩,ds,ts,fs⟩=some true/\(Zbr g left on->ZcK g on.length left on ds ts fs)):=by
 have Wd:=W.d
 unfold Zb1
 dsimp only
 by_cases k1:ds.length=on.length
 ·rw[show((ds.length:Int) != (on.length:Int))=false by rw[k1];simp,cond_false]
  by_cases k2:ts.length=on.length
  ·rw[show((ts.length:Int) != (on.length:Int))=false by rw[k2];simp,cond_false]
   by_cases k3:fs.length=on.length
   ·rw[show((fs.length:Int) != (on.length:Int))=false by rw[k3];simp,cond_false]
    have q1:=Zse ds (Zas ⟨⟨on,left⟩,ds,ts,fs⟩) (.inl ()) (.inr ()) (fun i d=>∃t f n,ts[i]? = some t/\fs[i]? = some f/\on[i]? = some n/\DqW d/\t.end_=0/\0<=f/\f<(on.length:Int)/\t.steal=(f != 0)/\(n ≠ -1->t=⟨false,0,0,0,0,0⟩/\f=0)) (fun i d hi hd=>by
     have ht:=List.getElem?_eq_getElem (show i<ts.length by omega)
     have hf:=List.getElem?_eq_getElem (show i<fs.length by omega)
     have ho:=List.getElem?_eq_getElem (show i<on.length by omega)
     generalize ts[i]'(by omega)=t at ht
     generalize fs[i]'(by omega)=f at hf
     generalize on[i]'(by omega)=n at ho
     simp only[Zas,ZcJ hi,cond_true,Zr hd,Zr ht,Zr hf,Zr ho,Option.bind_some,ZN hi (show ds.length<9223372036854775808 by omega)]
     rcases Zjk d with⟨e,h1,h2⟩ | ⟨h1,h2⟩
     ·rw[h1,Option.bind_some,Zkk h2];exact .inl rfl
     rw[h1,Option.bind_some,show((0:Int) != 0)=false from rfl,cond_false]
     by_cases c1:d.ring.length=64
     ·have hq:=h2 c1
      rw[show((d.ring.length:Int) != 64)=false by rw[c1];rfl,cond_false]
      by_cases c2:t.end_=0
      ·rw[show(t.end_ != 0)=false by rw[c2];rfl,cond_false]
       by_cases c3:f<0
       ·rw[decide_eq_true c3];exact .inl rfl
       rw[decide_eq_false c3,cond_false]
       by_cases c4:(on.length:Int)<=f
       ·rw[decide_eq_true c4];exact .inl rfl
       rw[decide_eq_false c4,cond_false]
       rw[show((t.steal==false)&&((t.at_==0)&&((t.top==0)&&((t.bottom==0)&&((t.got==0)&&((t.end_==0)&&true))))))=Zqv t from rfl]
       by_cases c5:f=0
       ·have cf:(f != 0)=false:=by rw[c5];rfl
        rw[cf]
        cases hs:t.steal with
        | true=>exact .inl rfl
        | false=>
         simp only[cond_false]
         by_cases c6:n = -1
         ·rw[show(n != -1)=false by rw[c6];rfl]
          exact .inr ⟨rfl,t,f,n,ht,hf,ho,hq,c2,by omega,by omega,by rw[hs,cf],fun h=>absurd c6 h⟩
         ·rw[show(n != -1)=true from bne_iff_ne.2 c6,cond_true]
          cases hz:Zqv t with
          | false=>exact .inl rfl
          | true=>exact .inr ⟨rfl,t,f,n,ht,hf,ho,hq,c2,by omega,by omega,by rw[hs,cf],fun _=>⟨Ztx.1 hz,c5⟩⟩
       ·have cf:(f != 0)=true:=bne_iff_ne.2 c5
        rw[cf]
        cases hs:t.steal with
        | false=>exact .inl rfl
        | true=>
         simp only[cond_true]
         by_cases c6:n = -1
         ·rw[show(n != -1)=false by rw[c6];rfl]
          exact .inr ⟨rfl,t,f,n,ht,hf,ho,hq,c2,by omega,by omega,by rw[hs,cf],fun h=>absurd c6 h⟩
         ·rw[show(n != -1)=true from bne_iff_ne.2 c6,cond_true]
          cases Zqv t<;>exact .inl rfl
      ·rw[Zkk c2];exact .inl rfl
     ·rw[show((d.ring.length:Int) != 64)=true by rw[bne_iff_ne];omega];exact .inl rfl) (by simp only[Zas,ZcW];rfl)
    rcases q1 with q1 | ⟨q1,h1⟩
    ·rw[q1];exact .inl rfl
    rw[q1]
    refine .inr ⟨rfl,fun cr=>?_⟩
    have get:∀i,i<on.length->∃d,ds[i]? = some d:=fun i hi=>⟨_,List.getElem?_eq_getElem (by omega)⟩
    refine⟨cr,rfl,k1,k2,k3,fun d hd=>?_,fun t ht=>?_,fun f hf=>?_,fun c t f ht hf=>?_,fun c n t f hn hne ht hf=>?_⟩
    ·obtain⟨i,hi⟩:=List.getElem?_of_mem hd
     obtain⟨_,_,_,_,_,_,h,_⟩:=h1 i d hi
     exact h
    ·obtain⟨i,hi⟩:=List.getElem?_of_mem ht
     obtain⟨d,hd⟩:=get i (by have:=(List.getElem?_eq_some_iff.1 hi).1;omega)
     obtain⟨t',f',n',a1,a2,a3,a4,a5,a6,a7,a8,a9⟩:=h1 i d hd
     rw[hi] at a1;cases a1
     exact a5
    ·obtain⟨i,hi⟩:=List.getElem?_of_mem hf
     obtain⟨d,hd⟩:=get i (by have:=(List.getElem?_eq_some_iff.1 hi).1;omega)
     obtain⟨t',f',n',a1,a2,a3,a4,a5,a6,a7,a8,a9⟩:=h1 i d hd
     rw[hi] at a2;cases a2
     exact⟨a6,a7⟩
    ·obtain⟨d,hd⟩:=get c (by have:=(List.getElem?_eq_some_iff.1 ht).1;omega)
     obtain⟨t',f',n',a1,a2,a3,a4,a5,a6,a7,a8,a9⟩:=h1 c d hd
     rw[ht] at a1;rw[hf] at a2;cases a1;cases a2
     exact a8
    ·obtain⟨d,hd⟩:=get c (by have:=(List.getElem?_eq_some_iff.1 ht).1;omega)
     obtain⟨t',f',n',a1,a2,a3,a4,a5,a6,a7,a8,a9⟩:=h1 c d hd
     rw[ht] at a1;rw[hf] at a2;rw[hn] at a3;cases a1;cases a2;cases a3
     exact a9 hne
   ·rw[show((fs.length:Int) != (on.length:Int))=true by rw[bne_iff_ne];omega];exact .inl rfl
  ·rw[show((ts.length:Int) != (on.length:Int))=true by rw[bne_iff_ne];omega];exact .inl rfl
 ·rw[show((ds.length:Int) != (on.length:Int))=true by rw[bne_iff_ne];omega];exact .inl rfl
theorem Zo6 (hs:Zir g) (W:Ze4 left on ds ts fs):(∃e,Za6 g ⟨⟨on,left⟩,ds,ts,fs⟩=some e/\e≠0)∨(Za6 g ⟨⟨on,left⟩,ds,ts,fs⟩=some 0/\ZaM g=0/\ZcK g on.length left on ds ts fs):=by
 unfold Za6
 dsimp only
 rcases Zkc hs W.o W.l with⟨e,q1,q2⟩ | ⟨q1,q2,q3⟩
 ·rw[q1,Option.bind_some,show(e==0)=false from beq_eq_false_iff_ne.2 q2];exact .inl ⟨e,rfl,q2⟩
 ·rw[q1,Option.bind_some,beq_self_eq_true,cond_true]
  rcases Zo2 (g:=g) W with r1 | ⟨r1,r2⟩
  ·rw[r1];exact .inl ⟨_,rfl,by decide⟩
  ·rw[r1];exact .inr ⟨rfl,q2,r2 q3⟩
theorem Zq8 (G:ZcK g m left on ds ts fs):Zb1 ⟨⟨on,left⟩,ds,ts,fs⟩=some true:=by
 have h8:m<=8:=by rw[<- G.ol];exact G.crew.o8
 unfold Zb1
 dsimp only
 rw[G.dl,G.tl,G.fl,G.ol]
 simp only[bne_self_eq_false,cond_false]
 rw[ZkC ds (Zas ⟨⟨on,left⟩,ds,ts,fs⟩) (.inr ()) (fun i d hi hd=>?_) (by simp only[Zas,ZcW];rfl)]
 ·rfl
 ·have hi':i<m:=by rw[<- G.dl];exact hi
  have ht:=List.getElem?_eq_getElem (show i<ts.length by rw[G.tl];exact hi')
  have hf:=List.getElem?_eq_getElem (show i<fs.length by rw[G.fl];exact hi')
  have ho:=List.getElem?_eq_getElem (show i<on.length by rw[G.ol];exact hi')
  generalize ts[i]'(by rw[G.tl];exact hi')=t at ht
  generalize fs[i]'(by rw[G.fl];exact hi')=f at hf
  generalize on[i]'(by rw[G.ol];exact hi')=n at ho
  have dok:=G.dq d (List.mem_of_getElem? hd)
  obtain⟨h0,hfm⟩:=G.f0 f (List.mem_of_getElem? hf)
  have hst:=G.st i t f ht hf
  have hen:=G.en t (List.mem_of_getElem? ht)
  simp only[Zas,ZcJ hi,cond_true,Zr hd,Zr ht,Zr hf,Zr ho,Option.bind_some,Zok dok,show((0:Int) != 0)=false from rfl,cond_false,dok.len,show(((64:Nat):Int) != 64)=false from rfl,hen,decide_eq_false (show ¬f<0 by omega),G.ol,decide_eq_false (show ¬(m:Int)<=f by omega),ZN hi (show ds.length<9223372036854775808 by rw[G.dl];omega)]
  by_cases hn:n = -1
  ·rw[show(n != -1)=false by rw[hn];rfl]
   simp only[cond_false]
   rw[hst]
   cases f != 0<;>rfl
  ·obtain⟨hz,hf0⟩:=G.bz i n t f ho hn ht hf
   rw[hz,hf0,show(n != -1)=true by simpa using hn]
   rfl
theorem Zjt (h:ZaM g=0) (G:ZcK g m left on ds ts fs):Za6 g ⟨⟨on,left⟩,ds,ts,fs⟩=some 0:=by
 unfold Za6
 dsimp only
 rw[ZdI h G.crew,Option.bind_some,beq_self_eq_true,cond_true,Zq8 G]
 rfl
theorem ZpJ (hG:ZcG g) (G:ZcK g m left on ds ts fs):ZeA ⟨⟨on,left⟩,ds,ts,fs⟩=some ds:=by
 have h8:m<=8:=by rw[<- G.ol];exact G.crew.o8
 have h1:1<=m:=by rw[<- G.ol];exact G.crew.o1
 have hw:=hG.wl
 have ll:=G.crew.ll
 have ol:=G.ol
 have tl:=G.tl
 have fl:=G.fl
 have dl:=G.dl
 unfold ZeA
 dsimp only
 rw[Zdt (show on.length<=1073741824 by omega),Option.bind_some,Zdt (show left.length<=1073741824 by omega),Option.bind_some]
 have c1:Zap ts=some ():=by
  unfold Zap
  rw[show Nat.blt 0 ts.length=true by rw[tl];simp[Nat.blt];omega,Zc1 (by omega)];rfl
 have c2:Zan ds=some ():=by
  unfold Zan
  rw[show Nat.blt 0 ds.length=true by rw[dl];simp[Nat.blt];omega,Zc1 (by omega)];rfl
 rw[c1,Option.bind_some,Zdt (show fs.length<=1073741824 by omega),Option.bind_some,c2,Option.bind_some,Ztd (S:=Unit) ds (fun d hd=>(G.dq d hd).len) (by omega)]
 rfl
theorem Zwr (W:Ze4 left on ds ts fs):Zf3 ⟨⟨on,left⟩,ds,ts,fs⟩=some ds:=by
 have Wo:=W.o
 have Wl:=W.l
 have Wd:=W.d
 have Wt:=W.t
 have Wf:=W.f
 unfold Zf3 ZhU
 dsimp only
 rw[Zc1 (show on.length<=1073741824 by omega),Zc1 (show left.length<=1073741824 by omega)]
 simp only[cond_true,Option.bind_some]
 rw[Zc1 (show ts.length<=1073741824 by omega),Zc1 (show fs.length<=1073741824 by omega)]
 simp only[cond_true]
 have key:=ZpW (c:=ds.length) (Zch ⟨⟨on,left⟩,ds,ts,fs⟩) (fun i=>ds.take i) (fun s=>s) (fun i hi=>by
  have hx:=List.getElem?_eq_getElem hi
  have hl:(ds.take i).length<=i:=by rw[List.length_take];omega
  have hr:=W.r _ (List.getElem_mem hi)
  simp only[Zch,ZcJ hi,cond_true,Zr hx,Option.bind_some,Zh0,Zc1 (show ds[i].ring.length<=1073741824 by omega),Zc1 (show(ds.take i).length+1<=1073741824 by omega),ZN hi (show ds.length<9223372036854775808 by omega)]
  rw[List.take_add_one,hx];rfl) (by simp only[Zch,ZcW];rfl)
 rw[List.take_zero,List.take_length] at key
 rw[show(lp (Zch ⟨⟨on,left⟩,ds,ts,fs⟩) (0,([]:List Za)))=_ from key]
 rfl
theorem ZcK.few (hG:ZcG g) (G:ZcK g m left on ds ts fs):Ze4 left on ds ts fs:=by
 have h8:m<=8:=by rw[<- G.ol];exact G.crew.o8
 have hw:=hG.wl
 have ll:=G.crew.ll
 exact⟨by rw[G.ol];omega,by omega,by rw[G.dl];omega,by rw[G.tl];omega,by rw[G.fl];omega,fun q hq=>by rw[(G.dq q hq).len];omega⟩
theorem ZsX (h:ZaM g=0) {picks:List Int} (hp:picks.length<=100000) (G:ZcK g m left on ds ts fs) :
  (∃x n e,Zd2 g ⟨⟨on,left⟩,ds,ts,fs⟩ picks=some (x,n,e)/\e≠0) ∨
  ∃(n:Nat) (on':List Int) (ds':List Za) (ts':List Ze) (fs':List Int),Zd2 g ⟨⟨on,left⟩,ds,ts,fs⟩ picks=some (⟨⟨on',left⟩,ds',ts',fs'⟩,(n:Int),0)/\ZcK g m left on' ds' ts' fs':=by
 unfold Zd2
 rw[Zjt h G,Option.bind_some,show((0:Int) != 0)=false from rfl,cond_false,ZpJ (Za0 h).1 G,Option.bind_some]
 dsimp only
 rcases Zzf h hp G with⟨n,e,x,q1,q2⟩ | ⟨n,l,on',ds',ts',fs',q1,q2⟩
 ·rw[q1,Option.bind_some]
  dsimp only
  rw[Zkk q2]
  exact .inl ⟨_,_,_,rfl,q2⟩
 ·rw[q1,Option.bind_some]
  exact .inr ⟨n,on',ds',ts',fs',rfl,q2⟩
theorem Zoj {E:List Zo}{row:List Int} (c:Zdy E left row) {k:Int} (hk:0<=k):lf (ZD left row) k=if k∈row then lf left k-1 else lf left k:=
 Ziq row left c.one (fun n hn=>by
  rcases c.run n hn with h | h
  ·exact .inl h
  ·exact .inr h.1) k hk
theorem Zpc {E:List Zo}{row:List Int} (hE:Zes E left.length) (c:Zdy E left row) {n:Int} (h:Zhd E left n):Zhd E (ZD left row) n:=fun e he hd=>by
 have h1:=h e he hd
 have h0:=(hE e he).1
 rw[Zoj c h0.1]
 split
 ·rename_i hm
  rcases c.run _ hm with h2 | ⟨_,h2,_⟩
  ·omega
  ·omega
 ·exact h1
theorem Zw3 {E:List Zo}{row:List Int} (hE:Zes E left.length) (c:Zdy E left row):Zdy E (ZD left row) (ZJ left row):=by
 have hl:=Zci row left
 refine⟨fun x hx=>?_,fun n hn=>?_,fun i j n h1 h2 h3=>?_,fun n hn h0=>?_⟩
 ·obtain⟨i,hi⟩:=List.getElem?_of_mem hx
  have e:=Znt hi
  rw[<- e,Zoj c (by omega)]
  have:=ZuX c (i:Int)
  split
  ·rename_i hm
   rcases c.run _ hm with h2 | ⟨_,h2,_⟩
   ·omega
   ·omega
  ·exact this
 ·unfold ZJ at hn
  obtain⟨k,hk,rfl⟩:=List.mem_map.1 hn
  by_cases h1:k = -1
  ·rw[if_pos h1];exact .inl rfl
  ·rw[if_neg h1]
   by_cases h2:lf (ZD left row) k=0
   ·rw[if_pos h2];exact .inl rfl
   ·rw[if_neg h2]
    rcases c.run k hk with h3 | ⟨h3,h4,h5⟩
    ·exact absurd h3 h1
    ·refine .inr ⟨⟨h3.1,by rw[hl];exact h3.2⟩,?_,Zpc hE c h5⟩
     rw[Zoj c h3.1,if_pos hk] at h2 ⊢
     omega
 ·have back:∀i:Nat,(ZJ left row)[i]? = some n->row[i]? = some n:=fun i h=>by
   unfold ZJ at h
   rw[List.getElem?_map] at h
   cases hr:row[i]? with
   | none=>rw[hr] at h;cases h
   | some k=>
    rw[hr] at h
    have h:(if k = -1 then (-1:Int) else if lf (ZD left row) k=0 then -1 else k)=n:=Option.some.inj h
    by_cases h1:k = -1
    ·rw[if_pos h1] at h;exact absurd h.symm h3
    ·rw[if_neg h1] at h
     by_cases h2:lf (ZD left row) k=0
     ·rw[if_pos h2] at h;exact absurd h.symm h3
     ·rw[if_neg h2] at h;rw[h]
  exact c.one i j n (back i h1) (back j h2) h3
 ·have hn':isN left n:=⟨hn.1,by rw[<- hl];exact hn.2⟩
  rw[Zoj c hn.1] at h0
  by_cases hm:n∈row
  ·rcases c.run n hm with h2 | ⟨_,_,h2⟩
   ·have:=hn.1;omega
   ·exact Zpc hE c h2
  ·rw[if_neg hm] at h0
   exact Zpc hE c (c.over n hn' h0)
theorem Zqz (h:ZaM g=0) {row:List Int} (c:Zbr g left row):Zbr g (ZD left row) (ZJ left row):=by
 obtain⟨hG,hA⟩:=Za0 h
 have l1:(ZJ left row).length=row.length:=by unfold ZJ;rw[List.length_map]
 exact⟨by rw[Zci];exact c.ll,by rw[l1];exact c.o1,by rw[l1];exact c.o8,Zw3 (by rw[c.ll];exact ZhZ hG) c.ok⟩
end
end Go.Proofs.YtgcfmiajkbbmeaaGreat
namespace Go.Proofs.YtgcfmiajkbbmeaaGreat
open Go Go.Proofs.YtgcfmiajkbbmeaaGreatE
open Go.IntKind (u64 i64 u32 i32 u8)
def Zbl:List Int->List Int->List Int
 | [],_=>[]
 | n :: on,l=>if n = -1 then (match l with | []=>-1 :: Zbl on [] | x :: l'=>x :: Zbl on l') else n :: Zbl on l
theorem ZiL:∀(on l:List Int),(Zbl on l).length=on.length
 | [],_=>rfl
 | n :: on,l=>by
  unfold Zbl
  split
  ·cases l with
   | nil=>simp[ZiL on []]
   | cons x l'=>simp[ZiL on l']
  ·simp[ZiL on l]
theorem Zfx:∀(on l:List Int) (c:Nat) (n:Int),on[c]? = some n->n ≠ -1->(Zbl on l)[c]? = some n
 | [],_,c,n,h,_=>by simp at h
 | k :: on,l,c,n,h,hn=>by
  unfold Zbl
  cases c with
  | zero=>
   simp only[List.getElem?_cons_zero,Option.some.injEq] at h
   subst h
   rw[if_neg hn]
   rfl
  | succ c=>
   rw[List.getElem?_cons_succ] at h
   split
   ·cases l with
    | nil=>exact Zfx on [] c n h hn
    | cons x l'=>exact Zfx on l' c n h hn
   ·exact Zfx on l c n h hn
theorem Zio:∀(on l:List Int) (c:Nat) (n:Int),(Zbl on l)[c]? = some n->on[c]? = some n∨(on[c]? = some (-1)/\n∈l)
 | [],_,c,n,h=>by simp[Zbl] at h
 | k :: on,l,c,n,h=>by
  unfold Zbl at h
  split at h
  ·rename_i hk
   subst hk
   cases l with
   | nil=>
    cases c with
    | zero=>exact .inl h
    | succ c=>
     rw[List.getElem?_cons_succ] at h ⊢
     rcases Zio on [] c n h with h | h
     ·exact .inl h
     ·cases h.2
   | cons x l'=>
    cases c with
    | zero=>
     simp only[List.getElem?_cons_zero,Option.some.injEq] at h
     subst h
     exact .inr ⟨rfl,List.mem_cons_self⟩
    | succ c=>
     rw[List.getElem?_cons_succ] at h ⊢
     rcases Zio on l' c n h with h | h
     ·exact .inl h
     ·exact .inr ⟨h.1,List.mem_cons_of_mem _ h.2⟩
  ·cases c with
   | zero=>exact .inl h
   | succ c=>
    rw[List.getElem?_cons_succ] at h ⊢
    exact Zio on l c n h
theorem ZkD:∀(on l:List Int), -1∉l -> -1∈Zbl on l->∀x∈l,x∈Zbl on l
 | [],_,_,h=>by simp[Zbl] at h
 | k :: on,l,hl,h=>by
  unfold Zbl at h ⊢
  split
  ·rename_i hk
   rw[if_pos hk] at h
   cases l with
   | nil=>intro x hx;cases hx
   | cons y l'=>
    have hy:y ≠ -1:=fun hy=>hl (by rw[hy];exact List.mem_cons_self)
    have h' : -1∈Zbl on l':=by
     rcases List.mem_cons.1 h with h | h
     ·exact absurd h.symm hy
     ·exact h
    intro x hx
    rcases List.mem_cons.1 hx with rfl | hx
    ·exact List.mem_cons_self
    ·exact List.mem_cons_of_mem _ (ZkD on l' (fun hm=>hl (List.mem_cons_of_mem _ hm)) h' x hx)
  ·rename_i hk
   rw[if_neg hk] at h
   have h' : -1∈Zbl on l:=by
    rcases List.mem_cons.1 h with h | h
    ·exact absurd h.symm hk
    ·exact h
   intro x hx
   exact List.mem_cons_of_mem _ (ZkD on l hl h' x hx)
theorem Zho:∀(on l:List Int),ZkV on->l.Nodup->(∀x∈l,x∉on)->ZkV (Zbl on l)
 | [],_,_,_,_=>fun i j n hi=>by simp[Zbl] at hi
 | k :: on,l,ho,hl,hd=>by
  have ht:=ho.tail
  have cons:∀(y:Int) (l':List Int),ZkV (Zbl on l')->(y ≠ -1->y∉Zbl on l')->ZkV (y :: Zbl on l'):=fun y l' h1 h2=>by
   intro i j n hi hj hn
   cases i with
   | zero=>
    simp only[List.getElem?_cons_zero,Option.some.injEq] at hi
    subst hi
    cases j with
    | zero=>rfl
    | succ j=>rw[List.getElem?_cons_succ] at hj;exact absurd (List.mem_of_getElem? hj) (h2 hn)
   | succ i=>
    rw[List.getElem?_cons_succ] at hi
    cases j with
    | zero=>
     simp only[List.getElem?_cons_zero,Option.some.injEq] at hj
     subst hj
     exact absurd (List.mem_of_getElem? hi) (h2 hn)
    | succ j=>rw[List.getElem?_cons_succ] at hj;exact congrArg Nat.succ (h1 i j n hi hj hn)
  have mem:∀(l':List Int) (n:Int),n∈Zbl on l'->n∈on∨n∈l':=fun l' n hn=>by
   obtain⟨c,hc⟩:=List.getElem?_of_mem hn
   rcases Zio on l' c n hc with h | h
   ·exact .inl (List.mem_of_getElem? h)
   ·exact .inr h.2
  unfold Zbl
  split
  ·cases l with
   | nil=>exact cons _ _ (Zho on [] ht.1 .nil (fun x hx=>by cases hx)) fun h=>absurd rfl h
   | cons y l'=>
    have hy:=List.nodup_cons.1 hl
    refine cons _ _ (Zho on l' ht.1 hy.2 fun x hx hm=>hd x (List.mem_cons_of_mem _ hx) (List.mem_cons_of_mem _ hm)) fun hn hm=>?_
    rcases mem l' y hm with h | h
    ·exact hd y List.mem_cons_self (List.mem_cons_of_mem _ h)
    ·exact hy.1 h
  ·refine cons _ _ (Zho on l ht.1 hl fun x hx hm=>hd x hx (List.mem_cons_of_mem _ hm)) fun hn hm=>?_
   rcases mem l k hm with h | h
   ·exact ht.2 hn h
   ·exact hd k h List.mem_cons_self
theorem ZrF {g:Zm}{left on:List Int} (c:Zbr g left on):ZfK g.edges left on (Zbl on (Zbc g.edges left on)):=by
 have hr:∀x∈left,0<=x:=fun x hx=>(c.ok.rng x hx).1
 have hm:=fun n=>ZmX (E:=g.edges) (on:=on) hr (n:=n)
 have hn1 : -1∉Zbc g.edges left on:=fun h=>by have:=((hm _).1 h).1.1;omega
 refine⟨ZiL _ _,fun k n h1 h2=>Zfx _ _ k n h1 h2,fun k n h1 h2=>?_,Zho _ _ c.ok.one (Zpr _ _ _) fun x hx=>((hm x).1 hx).2.2.1,fun h n hn=>?_⟩
 ·rcases Zio _ _ k n h2 with h | h
  ·rw[h1] at h
   exact .inl (Option.some.inj h).symm
  ·exact .inr ((hm n).1 h.2)
 ·have hno:n∉on:=fun hon=>by
   have hne:n ≠ -1:=fun h0=>by have:=hn.1.1;omega
   obtain⟨k,hk⟩:=List.getElem?_of_mem hon
   exact hn.2.2.1 (List.mem_of_getElem? (Zfx _ _ k n hk hne))
  exact hn.2.2.1 (ZkD _ _ hn1 h n ((hm n).2 ⟨hn.1,hn.2.1,hno,hn.2.2.2⟩))
theorem Ztc {g:Zm} (h:ZaM g=0) {left on:List Int} (c:Zbr g left on):ZdS g (Zz.mk on left)=some (Zbc g.edges left on):=by
 have:=ZlQ h c
 unfold ZbV at this
 rw[ZdI h c,Option.bind_some] at this
 simpa using this
theorem Znr (m:List Int):∀(s pre l:List Int),pre.length+s.length=m.length->m.length<=8->l.length<=64->lp (Zcg m) (l,(pre.length:Int),pre++s)=some (pre++Zbl s l)
 | [],pre,l,hm,h8,hl=>by
  rw[ZbS]
  have e:(pre.length:Int)=(m.length:Int):=by simp at hm;omega
  simp only[Zcg,e,ZcW,cond_false]
  simp[Zbl]
 | n :: s,pre,l,hm,h8,hl=>by
  have hlt:pre.length<m.length:=by simp at hm;omega
  have hget:ZG (pre++n :: s) (pre.length:Int)=some n:=Zr (by simp)
  have hw:=ZN hlt (show m.length<9223372036854775808 by omega)
  have hnext:∀(y:Int) (l':List Int),l'.length<=64->lp (Zcg m) (l',((pre.length+1:Nat):Int),pre++y :: s)=some (pre++y :: Zbl s l'):=fun y l' hl'=>by
   have:=Znr m s (pre++[y]) l' (by simp at hm ⊢;omega) h8 hl'
   simpa using this
  have hset:∀y:Int,(pre++n :: s).set pre.length y=pre++y :: s:=fun y=>by simp
  rw[ZbS]
  simp only[Zcg,ZcJ hlt,cond_true,hget,Option.bind_some,hw]
  unfold Zbl
  cases hn:n == -1 with
  | false=>
   have hne:n ≠ -1:=fun h=>by rw[h] at hn;cases hn
   rw[if_neg hne]
   simp only[cond_false]
   exact hnext n l hl
  | true=>
   have he:n = -1:=eq_of_beq hn
   rw[if_pos he]
   simp only[cond_true]
   cases l with
   | nil=>
    simp only[List.length_nil,Int.natCast_zero,Int.lt_irrefl,decide_false,cond_false]
    rw[he]
    exact hnext (-1) [] (by simp)
   | cons x l'=>
    have h0:decide ((0:Int)<(((x :: l').length:Nat):Int))=true:=decide_eq_true (by simp)
    have hx:ZG (x :: l') 0=some x:=rfl
    have hb:Nat.ble 1 (x :: l').length=true:=Nat.ble_eq_true_of_le (by simp)
    simp only[h0,cond_true,hx,Option.bind_some,hb,List.drop_succ_cons,List.drop_zero,Int.toNat_natCast,hset]
    exact hnext x l' (by simp at hl;omega)
theorem Zra {g:Zm} (h:ZaM g=0) {left on:List Int} (c:Zbr g left on):ZfR g ⟨on,left⟩=some (⟨Zbl on (Zbc g.edges left on),left⟩,0):=by
 obtain⟨hG,hA⟩:=Za0 h
 have hl:=Zi8 g.edges left on
 have ll:=c.ll
 have hwl:=hG.wl
 have o8:=c.o8
 unfold ZfR
 rw[ZdI h c,Option.bind_some,show((0:Int) != 0)=false from rfl,cond_false]
 have ho:Zeh ⟨on,left⟩=some ():=by
  unfold Zeh Zj
  simp only[Zc1 (show on.length<=1073741824 by omega),Zc1 (show left.length<=1073741824 by omega)]
  rfl
 rw[ho,Option.bind_some]
 unfold Zie
 rw[Ztc h c,Option.bind_some]
 have:=Znr on on [] (Zbc g.edges left on) (by simp) o8 (by omega)
 simp only[List.length_nil,Int.natCast_zero,List.nil_append] at this
 rw[this]
 rfl
def ZrS (a:Zm):Bool:=decide ((a.work.length:Int)<=70)&&decide ((a.edges.length:Int)<=300)
theorem Zyz (a:Zm):ZfT a=some (ZrS a):=by
 unfold ZfT ZrS
 cases decide ((a.work.length:Int)<=70)<;>cases decide ((a.edges.length:Int)<=300)<;>rfl
theorem ZsJ {a:Zm} (h:ZrS a=true):a.work.length<=70/\a.edges.length<=300/\Zir a:=by
 unfold ZrS at h
 simp only[Bool.and_eq_true,decide_eq_true_eq] at h
 refine⟨by omega,by omega,⟨by omega,by omega⟩⟩
theorem ZxC {a:Zm} (h:ZrS a=true):Zex a=some ():=by
 obtain⟨h1,h2,_⟩:=ZsJ h
 unfold Zex
 rw[Zc1 (by omega),Zc1 (by omega)]
 rfl
theorem ZtG {xs:List D} (h:ZdL [.sl false [.int .i64],.sl true [.int .i64,.int .i64]] xs):∃d:Zm,D.agg xs=ZA0 d/\ZyZ d.work:=by
 obtain⟨_,_,rfl,h1,_,_,rfl,h2,rfl⟩:=h
 obtain⟨w,rfl,w1⟩:=Zhf h1
 obtain⟨l,rfl,b,p⟩:=Zo9 (f:=ZbC) (p:=Zyd) h2 fun cs hc=>by
  obtain⟨_,_,rfl,⟨a,rfl,wa⟩,_,_,rfl,⟨b,rfl,wb⟩,rfl⟩:=hc
  exact⟨⟨a,b⟩,rfl,ZrQ wa,ZrQ wb⟩
 exact⟨⟨w,l⟩,rfl,w1⟩
theorem Zrj {xs:List D} (h:ZdL [.sl false [.int .i64]] xs):∃l,ZnQ false xs=Zxl true l/\ZyZ l:=by
 obtain⟨_,_,rfl,h1,rfl⟩:=h
 exact Zhf h1
structure ZxN (g:Zm) (need:List Int) (m:Nat) (t:List (List Int)):Prop where
 busy:(ZcT t:Int)=need.sum
 rows:∀row∈t,row.length=m
 short:t.length<=ZcT t
 one:m=1->ZcT t=t.length
theorem Zxv.all {g:Zm}{need:List Int}{c:Int}{t:List (List Int)} (hin:ZvX g need c) (R:Zxv g need c.toNat t):ZxN g need c.toNat t:=by
 obtain⟨left,on,S,hz⟩:=R.done
 obtain⟨hG,hA⟩:=Za0 hin.ck
 have hE:Zes g.edges need.length:=by rw[hin.nl];exact ZhZ hG
 have hr:∀x∈need,1<=x/\x<=1000:=hin.rng
 have hs:=S.sum hr hE
 have h0:left.sum=0:=Zv7 fun x hx=>by
  obtain⟨i,hi⟩:=List.getElem?_of_mem hx
  have hil:=(List.getElem?_eq_some_iff.1 hi).1
  have:=hz (i:Int) ⟨by omega,by simpa using hil⟩
  rwa [Znt hi] at this
 have c1:=hin.c1
 refine⟨by omega,S.len.2.2,S.short hG hA hin.nl hr (by omega),fun hm=>?_⟩
 rw[hm] at S
 exact ZuU hG hA hin.nl hr S
theorem Zo0 {α:Type}{l:List α}{i:Nat}{x:α} (h:l[i]? = some x):l.take (i+1)=l.take i++[x]:=by rw[List.take_add_one,h];rfl
def ZfV (n:Int):Bool:=decide (n<1) || decide (1000<n)
theorem Zks (n:Int):Za7 n=some (ZfV n):=by
 unfold Za7 ZfV
 cases decide (n<1)<;>cases decide (1000<n)<;>rfl
def ZkF (g:Zm) (dem:List Int):Bool:=((dem.length:Int)==(g.work.length:Int))&&(!(dem.any ZfV) && !(g.work.any ZfV))
theorem Zk9 {g:Zm} (hs:Zir g) {dem:List Int} (hd:dem.length<=70):Zfi g dem=some (ZkF g dem):=by
 have hw:=hs.w
 unfold Zfi ZkF
 cases (dem.length:Int)==(g.work.length:Int) with
 | false=>rfl
 | true=>
  simp only[cond_true,Bool.true_and]
  rw[Zdq dem _ ZfV (fun x _=>Zks x) (by omega),Option.bind_some]
  cases dem.any ZfV with
  | true=>rfl
  | false=>
   simp only[cond_false,Bool.not_false,Bool.true_and]
   rw[Zdq g.work _ ZfV (fun x _=>Zks x) (by omega),Option.bind_some]
   cases g.work.any ZfV<;>rfl
structure Zu3 (g:Zm) (dem:List Int) (c:Int):Prop where
 ck:ZaM g=0
 dl:dem.length=g.work.length
 dr:∀x∈dem,1<=x/\x<=1000
 wr:∀x∈g.work,1<=x/\x<=1000
 c1:1<=c
 c8:c<=8
def ZbE (g:Zm) (dem:List Int):List Int:=List.zipWith (fun w d:Int=>bif decide (w<d) then w else d) g.work dem
theorem Zg9 {g:Zm}{dem:List Int} (hl:dem.length=g.work.length) (hw:g.work.length<=64):Zc0 g dem=some (ZbE g dem):=by
 have key:∀(k i:Nat),i+k=g.work.length->lp (Zcf g dem) ((i:Int),(ZbE g dem).take i)=some (ZbE g dem):=by
  have hnl:(ZbE g dem).length=g.work.length:=by unfold ZbE;rw[List.length_zipWith];omega
  intro k
  induction k with
  | zero=>
   intro i hi
   have e:i=g.work.length:=by omega
   subst e
   rw[ZbS]
   simp only[Zcf,ZcW,cond_false]
   rw[List.take_of_length_le (by omega)]
  | succ k ih=>
   intro i hi
   have hlt:i<g.work.length:=by omega
   have hw1:g.work[i]? = some g.work[i]:=List.getElem?_eq_getElem hlt
   have hd1:dem[i]? = some dem[i]:=List.getElem?_eq_getElem (by omega)
   have hn:(ZbE g dem)[i]? = some (bif decide (g.work[i]<dem[i]) then g.work[i] else dem[i]):=by
    unfold ZbE
    rw[List.getElem?_zipWith,hw1,hd1]
   rw[ZbS]
   simp only[Zcf,ZcJ hlt,cond_true,Zr hw1,Zr hd1,Option.bind_some,Zc1 (show((ZbE g dem).take i).length+1<=1073741824 by rw[List.length_take];omega),ZN hlt (show g.work.length<9223372036854775808 by omega)]
   have:=ih (i+1) (by omega)
   rw[Zo0 hn] at this
   exact this
 unfold Zc0
 have:=key g.work.length 0 (by omega)
 rw[List.take_zero] at this
 rw[show lp (Zcf g dem) (0,([]:List Int))=_ from this]
 rfl
theorem ZiC {g:Zm}{dem:List Int} (hl:dem.length=g.work.length):(ZbE g dem).length=g.work.length:=by unfold ZbE;rw[List.length_zipWith];omega
theorem Zu3.need {g:Zm}{dem:List Int}{c:Int} (h:Zu3 g dem c):ZvX g (ZbE g dem) c:=by
 refine⟨h.ck,ZiC h.dl,fun x hx=>?_,h.c1,h.c8⟩
 obtain⟨i,hi⟩:=List.getElem?_of_mem hx
 unfold ZbE at hi
 rw[List.getElem?_zipWith] at hi
 cases hw:g.work[i]? with
 | none=>rw[hw] at hi;simp at hi
 | some w=>
  cases hd:dem[i]? with
  | none=>rw[hw,hd] at hi;simp at hi
  | some d=>
   rw[hw,hd] at hi
   simp only[Option.some.injEq] at hi
   have h1:=h.wr w (List.mem_of_getElem? hw)
   have h2:=h.dr d (List.mem_of_getElem? hd)
   rw[<- hi]
   cases decide (w<d)<;>simp<;>omega
def ZpM (g:Zm) (dem left:List Int) (k:Nat):Bool:=(List.range k).any fun i=>(lf left (i:Int)==0)&&decide (lf g.work (i:Int)<lf dem (i:Int))
def Zj6 (left:List Int) (k:Nat):Bool:=(List.range k).any fun i=>decide (0<lf left (i:Int))
def Zd6 (g:Zm) (dem left:List Int):Int:=bif ZpM g dem left left.length then 3 else bif Zj6 left left.length then 1 else 2
theorem ZhX (k:Nat) (p:Nat->Bool):(List.range (k+1)).any p=((List.range k).any p || p k):=by rw[List.range_succ,List.any_append];simp
theorem ZdH {g:Zm}{dem left:List Int} (hd:dem.length=g.work.length) (hl:left.length=g.work.length) (hw:g.work.length<=64) (hr:∀x∈left,0<=x):ZaC g dem left=some (Zd6 g dem left):=by
 have key:∀(k i:Nat),i+k=left.length->ZpM g dem left i=false->lp (ZaJ g dem left) ((bif Zj6 left i then 1 else 2),(i:Int))=some (bif ZpM g dem left left.length then .inl (bif Zj6 left i then 1 else 2) else .inr (bif Zj6 left left.length then 1 else 2)) ∨
   (ZpM g dem left left.length=true/\∃x,lp (ZaJ g dem left) ((bif Zj6 left i then 1 else 2),(i:Int))=some (.inl x)):=by
  intro k
  induction k with
  | zero=>
   intro i hi hb
   have e:i=left.length:=by omega
   subst e
   left
   rw[ZbS]
   simp only[ZaJ,ZcW,cond_false,hb]
  | succ k ih=>
   intro i hi hb
   have hlt:i<left.length:=by omega
   have hL:isN left (i:Int):=⟨by omega,by simpa using hlt⟩
   have e1:ZG left (i:Int)=some (lf left (i:Int)):=Zlk hL
   have e2:ZG dem (i:Int)=some (lf dem (i:Int)):=Zlk ⟨by omega,by simp;omega⟩
   have e3:ZG g.work (i:Int)=some (lf g.work (i:Int)):=Zlk ⟨by omega,by simp;omega⟩
   have h0:0<=lf left (i:Int):=hr _ (List.mem_of_getElem? (Zin hL.1 hL.2))
   have hw':=ZN hlt (show left.length<9223372036854775808 by omega)
   have hbs:ZpM g dem left (i+1)=((lf left (i:Int)==0)&&decide (lf g.work (i:Int)<lf dem (i:Int))):=by
    have:=ZhX i (fun i=>(lf left (i:Int)==0)&&decide (lf g.work (i:Int)<lf dem (i:Int)))
    show(List.range (i+1)).any _=_
    rw[this,show(List.range i).any _=false from hb,Bool.false_or]
   have hss:Zj6 left (i+1)=(Zj6 left i || decide (0<lf left (i:Int))):=ZhX i _
   rw[ZbS]
   simp only[ZaJ,ZcJ hlt,cond_true,e1,e2,e3,Option.bind_some,hw']
   by_cases hp:0<lf left (i:Int)
   ·have hz:(lf left (i:Int)==0)=false:=beq_eq_false_iff_ne.2 (by omega)
    have hn:=ih (i+1) (by omega) (by rw[hbs,hz];rfl)
    rw[hss,decide_eq_true hp,Bool.or_true,cond_true] at hn
    rw[decide_eq_true hp]
    simp only[cond_true,hz,cond_false]
    cases hs:Zj6 left i with
    | true=>
     simp only[cond_true]
     rw[show((1:Int)==2)=false from rfl]
     simp only[cond_false]
     rcases hn with hn | hn
     ·left;rw[hn]
     ·right;exact hn
    | false=>
     simp only[cond_false]
     rw[show((2:Int)==2)=true from rfl]
     simp only[cond_true]
     rcases hn with hn | ⟨hn1,x,hn2⟩
     ·cases hbb:ZpM g dem left left.length with
      | true=>right;rw[hbb] at hn;exact⟨rfl,1,hn⟩
      | false=>left;rw[hbb] at hn;exact hn
     ·right;exact⟨hn1,x,hn2⟩
   ·have hz:(lf left (i:Int)==0)=true:=beq_iff_eq.2 (by omega)
    rw[decide_eq_false hp]
    simp only[cond_false,hz,cond_true]
    rw[hz,Bool.true_and] at hbs
    rw[decide_eq_false hp,Bool.or_false] at hss
    cases hq:decide (lf g.work (i:Int)<lf dem (i:Int)) with
    | true=>
     right
     refine⟨?_,_,rfl⟩
     unfold ZpM
     rw[List.any_eq_true]
     exact⟨i,List.mem_range.2 hlt,by rw[hz,hq];rfl⟩
    | false=>
     have hn:=ih (i+1) (by omega) (by rw[hbs,hq])
     rw[hss] at hn
     simp only[cond_false]
     exact hn
 unfold ZaC Zd6
 have h0:=key left.length 0 (by omega) rfl
 have hs0:Zj6 left 0=false:=rfl
 rw[hs0] at h0
 simp only[cond_false] at h0
 rcases h0 with h0 | ⟨h1,x,h2⟩
 ·rw[show lp (ZaJ g dem left) (2,0)=_ from h0]
  cases ZpM g dem left left.length<;>rfl
 ·rw[show lp (ZaJ g dem left) (2,0)=_ from h2,h1]
  rfl
theorem Zow {g:Zm} (h:ZaM g=0) {left row:List Int} (c:Zbr g left row):∃done,Zez g ⟨row,left⟩=some (.inr (ZJ left row,ZD left row,done))/\(∀z,z∈done↔z∈row/\z ≠ -1/\lf (ZD left row) z=0)/\done.length<=8:=by
 obtain⟨hG,hA⟩:=Za0 h
 have hw:=hG.wl
 have ll:=c.ll
 have o8:=c.o8
 have hk:=ZBb left c.ok.one (fun n hn=>(c.ok.run n hn).imp id fun h=>⟨h.1,h.2.1⟩) (by omega) (fun x hx=>(c.ok.rng x hx).2) o8
 obtain⟨r,h1,h2,_⟩:=Zof (row.filter fun n=>decide (n ≠ -1)&&decide (lf (ZD left row) n=0)) (Nat.le_trans (List.length_filter_le _ _) (by omega))
 refine⟨r,?_,fun z=>?_,?_⟩
 ·unfold Zez
  rw[ZdI h c,Option.bind_some,show((0:Int) != 0)=false from rfl,cond_false]
  unfold Zeh
  rw[Zdt (show row.length<=1073741824 by omega),Option.bind_some,Zdt (show left.length<=1073741824 by omega),Option.bind_some,Option.bind_some]
  unfold Ziz
  dsimp only
  rw[hk,Option.bind_some]
  dsimp only
  rw[h1]
  rfl
 ·rw[h2.mem_iff,List.mem_filter,Bool.and_eq_true,decide_eq_true_eq,decide_eq_true_eq]
 ·rw[h2.length_eq]
  exact Nat.le_trans (List.length_filter_le _ _) o8
theorem ZAR {ds:List Za}{c:Nat} (hc:c<ds.length) (hd:∀d∈ds,DqW d) (n:Int):(∃x,ZbU (c:Int) n ds=some (.inr x))∨∃ds',ZbU (c:Int) n ds=some (.inl ds')/\ds'.length=ds.length/\∀d∈ds',DqW d:=by
 have hx:=List.getElem?_eq_getElem hc
 have hm:=List.getElem_mem hc
 generalize ds[c]=d at hx hm
 have w:=hd d hm
 have t0:=w.t0
 have t1:=w.t1
 have b0:=w.b0
 have b1:=w.b1
 unfold ZbU Zhl
 rw[Zr hx,Option.bind_some,Zok w,Option.bind_some,show((0:Int) != 0)=false from rfl,cond_false]
 by_cases k1:d.bottom<d.top
 ·rw[decide_eq_true k1];exact .inl ⟨_,rfl⟩
 rw[decide_eq_false k1,cond_false,Zc3 (by omega) (by omega),w.len]
 by_cases k2:d.bottom-d.top=64
 ·rw[show(d.bottom-d.top==((64:Nat):Int))=true from beq_iff_eq.2 k2];exact .inl ⟨_,rfl⟩
 rw[show(d.bottom-d.top==((64:Nat):Int))=false from beq_eq_false_iff_ne.2 k2,cond_false,Zso w.len,Option.bind_some,Zl1 w.len,Option.bind_some,Zpq w.len,Option.bind_some,Zc3 (by omega) (by omega)]
 refine .inr ⟨_,rfl,by rw[List.length_set],fun q hq=>?_⟩
 rcases Zb2 hq with hq | hq
 ·exact hd q hq
 ·rw[hq]
  exact⟨by rw[List.length_set];exact w.len,t0,t1,by show d.top-1<=d.bottom+1;omega,by show d.bottom+1<=d.top+64;omega⟩
theorem Zva {c:Nat}{R:List Int} (hRl:R.length<=64) {l:List Int} (hl:l.length<=256) {D0:List Za}{p0:List Int} :
  ∀(k i:Nat) (ds:List Za) (pushed:List Int),i+k=l.length->c<ds.length->(∀d∈ds,DqW d)->pushed.Nodup->(∀s∈pushed,s∈R) ->
   (∃x,lp (Z1 R ((c:Int),D0,p0) l) ((i:Int),ds,pushed)=some (.inl x)) ∨
   ∃ds' pushed',lp (Z1 R ((c:Int),D0,p0) l) ((i:Int),ds,pushed)=some (.inr (ds',pushed'))/\ds'.length=ds.length/\(∀d∈ds',DqW d)/\pushed'.Nodup/\∀s∈pushed',s∈R:=by
 intro k
 induction k with
 | zero=>
  intro i ds pushed hi hc hd hn hs
  have hi:i=l.length:=by omega
  subst hi
  refine .inr ⟨ds,pushed,?_,rfl,hd,hn,hs⟩
  rw[ZbS]
  simp only[Z1,ZcW,cond_false]
 | succ k ih=>
  intro i ds pushed hi hc hd hn hs
  have hi':i<l.length:=by omega
  have hx:=List.getElem?_eq_getElem hi'
  generalize l[i]=s at hx
  have hpl:pushed.length<=64:=Nat.le_trans (Zgs pushed R hn hs) hRl
  rw[ZbS]
  simp only[Z1,ZcJ hi',cond_true,Zr hx,Option.bind_some,ZfI R s (by omega),Zhm,ZN hi' (show l.length<9223372036854775808 by omega)]
  by_cases h1:s∈R
  ·rw[decide_eq_true h1,cond_true,ZfI pushed s (by omega),Option.bind_some,Zhm]
   by_cases h2:s∈pushed
   ·rw[decide_eq_true h2,cond_true]
    exact ih (i+1) ds pushed (by omega) hc hd hn hs
   ·rw[decide_eq_false h2,cond_false]
    rcases ZAR hc hd s with⟨x,q⟩ | ⟨ds1,q,q1,q2⟩
    ·rw[q,Option.bind_some];exact .inl ⟨_,rfl⟩
    ·rw[q,Option.bind_some]
     simp only[Zc1 (show pushed.length+1<=1073741824 by omega),cond_true]
     have r:=ih (i+1) ds1 (pushed++[s]) (by omega) (by omega) q2 (by
      rw[List.nodup_append]
      refine⟨hn,by simp,fun a ha b hb e=>?_⟩
      rw[List.mem_singleton] at hb
      exact h2 (hb ▸ e ▸ ha)) (fun z hz=>by
      rcases List.mem_append.1 hz with hz | hz
      ·exact hs z hz
      ·rw[List.mem_singleton] at hz;rw[hz];exact h1)
     rw[q1] at r
     exact r
  ·rw[decide_eq_false h1,cond_false]
   exact ih (i+1) ds pushed (by omega) hc hd hn hs
section
variable {g:Zm} {m:Nat} {left on row fs:List Int} {ds:List Za} {ts:List Ze}
theorem Ztf (h:ZaM g=0) (G:ZcK g m left row ds ts fs) :
  (∃x l e,ZdR g ⟨⟨row,left⟩,ds,ts,fs⟩=some (x,l,e)/\e≠0) ∨
  ∃ds' done,ZdR g ⟨⟨row,left⟩,ds,ts,fs⟩=some (⟨⟨ZJ left row,ZD left row⟩,ds',ts,fs⟩,done,0)/\ZcK g m (ZD left row) (ZJ left row) ds' ts fs/\(∀z,z∈done↔z∈row/\z ≠ -1/\lf (ZD left row) z=0)/\done.length<=8:=by
 obtain⟨hG,hA⟩:=Za0 h
 have h8:m<=8:=by rw[<- G.ol];exact G.crew.o8
 obtain⟨done,t1,t2,t3⟩:=Zow h G.crew
 have cr':=Zqz h G.crew
 have hol:(ZJ left row).length=m:=by rw[Zel,List.length_map,G.ol]
 have hRl:(Zbc g.edges (ZD left row) (ZJ left row)).length<=64:=Nat.le_trans (Zi8 _ _ _) (by rw[Zci,G.crew.ll];exact hG.wl)
 have loop:∀(k i:Nat) (ds:List Za) (pushed:List Int),i+k=row.length->ds.length=m->(∀d∈ds,DqW d)->pushed.Nodup->(∀s∈pushed,s∈Zbc g.edges (ZD left row) (ZJ left row)) ->
   (∃x,lp (Z2 g.work g.edges row (ZJ left row,ZD left row,done) (Zbc g.edges (ZD left row) (ZJ left row))) ((i:Int),ds,pushed)=some (.inl x)) ∨
   ∃ds',lp (Z2 g.work g.edges row (ZJ left row,ZD left row,done) (Zbc g.edges (ZD left row) (ZJ left row))) ((i:Int),ds,pushed)=some (.inr ds')/\ds'.length=m/\∀d∈ds',DqW d:=by
  intro k
  induction k with
  | zero=>
   intro i ds pushed hi hl hd hn hs
   have hi:i=row.length:=by omega
   subst hi
   refine .inr ⟨ds,?_,hl,hd⟩
   rw[ZbS]
   simp only[Z2,ZcW,cond_false]
  | succ k ih=>
   intro i ds pushed hi hl hd hn hs
   have hi':i<row.length:=by omega
   have hx:=List.getElem?_eq_getElem hi'
   generalize row[i]=n at hx
   have hy:(ZJ left row)[i]? = some (ZhH left row n):=by rw[Zel,List.getElem?_map,hx];rfl
   rw[ZbS]
   simp only[Z2,ZcJ hi',cond_true,Zr hx,Zr hy,Option.bind_some,ZN hi' (show row.length<9223372036854775808 by have:=G.ol;omega)]
   by_cases h1:n = -1
   ·rw[show(n == -1)=true from beq_iff_eq.2 h1,cond_true]
    exact ih (i+1) ds pushed (by omega) hl hd hn hs
   ·rw[show(n == -1)=false from beq_eq_false_iff_ne.2 h1,cond_false]
    by_cases h2:ZhH left row n = -1
    ·rw[h2,show((-1:Int) != -1)=false from rfl,cond_false]
     obtain⟨r,s1,s2,s3⟩:=ZwT h n
     rw[s1,Option.bind_some]
     rcases Zva (c:=i) hRl s3 (D0:=ds) (p0:=pushed) r.length 0 ds pushed (by omega) (by have:=G.ol;omega) hd hn hs with⟨x,q⟩ | ⟨ds1,p1,q,q1,q2,q3,q4⟩
     ·rw[show(lp (Z1 (Zbc g.edges (ZD left row) (ZJ left row)) ((i:Int),ds,pushed) r) (0,ds,pushed))=_ from q,Option.bind_some]
      exact .inl ⟨_,rfl⟩
     ·rw[show(lp (Z1 (Zbc g.edges (ZD left row) (ZJ left row)) ((i:Int),ds,pushed) r) (0,ds,pushed))=_ from q,Option.bind_some]
      exact ih (i+1) ds1 p1 (by omega) (by omega) q2 q3 q4
    ·rw[show(ZhH left row n != -1)=true from bne_iff_ne.2 h2,cond_true]
     exact ih (i+1) ds pushed (by omega) hl hd hn hs
 unfold ZdR
 rw[Zjt h G,Option.bind_some,show((0:Int) != 0)=false from rfl,cond_false,ZpJ hG G,Option.bind_some]
 unfold ZdQ
 dsimp only
 rw[Zdt (show row.length<=1073741824 by have:=G.ol;omega),Option.bind_some,t1,Option.bind_some]
 dsimp only
 rw[ZlQ h cr',Option.bind_some]
 rcases loop row.length 0 ds [] (by omega) G.dl G.dq (by simp) (fun s hs=>by cases hs) with⟨x,q⟩ | ⟨ds',q,q1,q2⟩
 ·rw[show(lp (Z2 g.work g.edges row (ZJ left row,ZD left row,done) (Zbc g.edges (ZD left row) (ZJ left row))) (0,ds,([]:List Int)))=_ from q]
  exact .inl ⟨_,_,_,rfl,by decide⟩
 ·rw[show(lp (Z2 g.work g.edges row (ZJ left row,ZD left row,done) (Zbc g.edges (ZD left row) (ZJ left row))) (0,ds,([]:List Int)))=_ from q]
  refine .inr ⟨ds',done,rfl,⟨cr',hol,q1,G.tl,G.fl,q2,G.en,G.f0,G.st,fun c n t f hn hne ht hf=>?_⟩,t2,t3⟩
  have hr:∃n',row[c]? = some n'/\n' ≠ -1:=by
   rw[Zel,List.getElem?_map] at hn
   cases hr:row[c]? with
   | none=>rw[hr] at hn;cases hn
   | some k=>
    refine⟨k,rfl,fun e=>?_⟩
    rw[hr] at hn
    have hn:ZhH left row k=n:=Option.some.inj hn
    unfold ZhH at hn
    rw[if_pos e] at hn
    exact hne hn.symm
  obtain⟨n',r1,r2⟩:=hr
  exact G.bz c n' t f r1 r2 ht hf
def Zkv:ZK:=⟨false,[],0,⟨⟨[],[]⟩,[],[],[]⟩⟩
theorem Zpo:ZdF true=some (.inl ()):=rfl
theorem Zna:ZdF false=some (.inr ()):=rfl
structure ZqN (g:Zm) (dem:List Int) (d:Bool) (st:Int) (left on:List Int) (ds:List Za) (ts:List Ze) (fs:List Int):Prop where
 ck:ZaM g=0
 rt:ZkF g dem=true
 crew:Zbr g left on
 from_:d=true->ZcK g on.length left on ds ts fs
 off:d=false->ds=[]/\ts=[]/\fs=[]
 le:∀(i:Nat) (x:Int),(ZbE g dem)[i]? = some x->lf left (i:Int)<=x
 state:st=Zd6 g dem left
theorem ZkM {g:Zm}{dem:List Int} (h:ZkF g dem=true):dem.length=g.work.length:=by
 unfold ZkF at h
 rw[Bool.and_eq_true] at h
 have:=beq_iff_eq.1 h.1
 omega
theorem Zlg {g:Zm}{dem left:List Int} (hl:(ZbE g dem).length=left.length) (h64:left.length<=64) (step:Int->Option (Int⊕(Unit⊕Unit))) (hs:∀(i:Nat) (x:Int),i<(ZbE g dem).length->(ZbE g dem)[i]? = some x->step (i:Int)=(ZG left (i:Int)).bind fun y=>bif decide (x<y) then some (.inr (.inl ())) else some (.inl (w64 ((i:Int)+1)))) (he:step ((ZbE g dem).length:Int)=some (.inr (.inr ()))) :
  lp step 0=some (.inl ())∨(lp step 0=some (.inr ())/\∀(i:Nat) (x:Int),(ZbE g dem)[i]? = some x->lf left (i:Int)<=x):=
 Zse (ZbE g dem) step (.inl ()) (.inr ()) (fun i x=>lf left (i:Int)<=x) (fun i x hi hx=>by
  have e:ZG left (i:Int)=some (lf left (i:Int)):=Zlk ⟨by omega,by simp;omega⟩
  rw[hs i x hi hx,e,Option.bind_some,ZN hi (show(ZbE g dem).length<9223372036854775808 by omega)]
  by_cases c:x<lf left (i:Int)
  ·rw[decide_eq_true c];exact .inl rfl
  ·rw[decide_eq_false c];exact .inr ⟨rfl,by omega⟩) he
theorem Zpb {dem:List Int}{d:Bool}{st:Int} (hs:Zir g) (W:Ze4 left on ds ts fs) (hd:dem.length<=70) :
  (∃e,ZbY g ⟨d,dem,st,⟨⟨on,left⟩,ds,ts,fs⟩⟩=some e/\e≠0)∨(ZbY g ⟨d,dem,st,⟨⟨on,left⟩,ds,ts,fs⟩⟩=some 0/\ZqN g dem d st left on ds ts fs):=by
 unfold ZbY
 dsimp only
 rw[Zfs g hs,Option.bind_some]
 by_cases h:ZaM g=0
 ·rw[h,show((0:Int) != 0)=false from rfl,cond_false,Zk9 hs hd,Option.bind_some]
  cases hr:ZkF g dem with
  | false=>exact .inl ⟨190,rfl,by decide⟩
  | true=>
   have hdl:=ZkM hr
   obtain⟨hG,hA⟩:=Za0 h
   have hw:=hG.wl
   rw[cond_true]
   cases d with
   | true=>
    rw[cond_true,Zpo,Option.bind_some]
    unfold ZbN
    dsimp only
    rcases Zo6 hs W with⟨e,q1,q2⟩ | ⟨q1,_,q3⟩
    ·simp only[q1,Option.bind_some,Zkk q2,cond_true]
     exact .inl ⟨190,rfl,by decide⟩
    ·simp only[q1,Option.bind_some,show((0:Int) != 0)=false from rfl,cond_false,Zg9 hdl hw]
     have ll:=q3.crew.ll
     rcases Zlg (g:=g) (dem:=dem) (left:=left) (by rw[ZiC hdl,ll]) (by omega) (ZaL ⟨true,dem,st,⟨⟨on,left⟩,ds,ts,fs⟩⟩ (ZbE g dem)) (fun i x hi hx=>by simp only[ZaL,ZcJ hi,cond_true,Zr hx,Option.bind_some]) (by simp only[ZaL,ZcW,cond_false]) with r | ⟨r,r2⟩
     ·rw[r];exact .inl ⟨190,rfl,by decide⟩
     ·rw[r,Option.bind_some]
      simp only[ZdH hdl ll hw (fun x hx=>(q3.crew.ok.rng x hx).1),Option.bind_some]
      by_cases hst:st=Zd6 g dem left
      ·rw[show(st != Zd6 g dem left)=false by rw[hst];simp]
       exact .inr ⟨rfl,h,hr,q3.crew,fun _=>q3,(fun e=>by cases e),r2,hst⟩
      ·rw[show(st != Zd6 g dem left)=true from bne_iff_ne.2 hst];exact .inl ⟨190,rfl,by decide⟩
   | false=>
    rw[cond_false,Zna,Option.bind_some]
    unfold Zce
    dsimp only
    by_cases k1:ds=[]
    ·by_cases k2:ts=[]
     ·by_cases k3:fs=[]
      ·subst k1;subst k2;subst k3
       simp only[List.length_nil,show decide ((0:Int)<((0:Nat):Int))=false from rfl,cond_false]
       rcases Zkc hs W.o W.l with⟨e,q1,q2⟩ | ⟨q1,_,q3⟩
       ·simp only[q1,Option.bind_some,Zkk q2,cond_true]
        exact .inl ⟨190,rfl,by decide⟩
       ·simp only[q1,Option.bind_some,show((0:Int) != 0)=false from rfl,cond_false,Zg9 hdl hw]
        have ll:=q3.ll
        rcases Zlg (g:=g) (dem:=dem) (left:=left) (by rw[ZiC hdl,ll]) (by omega) (Zah ⟨false,dem,st,⟨⟨on,left⟩,[],[],[]⟩⟩ (ZbE g dem)) (fun i x hi hx=>by simp only[Zah,ZcJ hi,cond_true,Zr hx,Option.bind_some]) (by simp only[Zah,ZcW,cond_false]) with r | ⟨r,r2⟩
        ·rw[r];exact .inl ⟨190,rfl,by decide⟩
        ·rw[r,Option.bind_some]
         simp only[ZdH hdl ll hw (fun x hx=>(q3.ok.rng x hx).1),Option.bind_some]
         by_cases hst:st=Zd6 g dem left
         ·rw[show(st != Zd6 g dem left)=false by rw[hst];simp]
          exact .inr ⟨rfl,h,hr,q3,(fun e=>by cases e),fun _=>⟨rfl,rfl,rfl⟩,r2,hst⟩
         ·rw[show(st != Zd6 g dem left)=true from bne_iff_ne.2 hst];exact .inl ⟨190,rfl,by decide⟩
      ·have:0<fs.length:=List.length_pos_iff.2 k3
       subst k1;subst k2
       simp only[List.length_nil,show decide ((0:Int)<((0:Nat):Int))=false from rfl,cond_false,decide_eq_true (show(0:Int)<(fs.length:Int) by omega),cond_true,Option.bind_some]
       exact .inl ⟨190,rfl,by decide⟩
     ·have:0<ts.length:=List.length_pos_iff.2 k2
      subst k1
      simp only[List.length_nil,show decide ((0:Int)<((0:Nat):Int))=false from rfl,cond_false,decide_eq_true (show(0:Int)<(ts.length:Int) by omega),cond_true,Option.bind_some]
      exact .inl ⟨190,rfl,by decide⟩
    ·have:0<ds.length:=List.length_pos_iff.2 k1
     simp only[decide_eq_true (show(0:Int)<(ds.length:Int) by omega),cond_true,Option.bind_some]
     exact .inl ⟨190,rfl,by decide⟩
 ·rw[Zkk h];exact .inl ⟨_,rfl,h⟩
theorem Zrt {dem:List Int}{d:Bool}{st:Int} (T:ZqN g dem d st left on ds ts fs) (hd:dem.length<=70):ZbY g ⟨d,dem,st,⟨⟨on,left⟩,ds,ts,fs⟩⟩=some 0:=by
 have h:=T.ck
 obtain⟨hG,hA⟩:=Za0 h
 have hdl:=ZkM T.rt
 have hw:=hG.wl
 have ll:=T.crew.ll
 have le:=T.le
 have okI:∀(step:Int->Option (Int⊕(Unit⊕Unit))),(∀(i:Nat) (x:Int),i<(ZbE g dem).length->(ZbE g dem)[i]? = some x->step (i:Int)=(ZG left (i:Int)).bind fun y=>bif decide (x<y) then some (.inr (.inl ())) else some (.inl (w64 ((i:Int)+1))))->step ((ZbE g dem).length:Int)=some (.inr (.inr ()))->lp step 0=some (.inr ()):=fun step h1 h2=>
  ZkC (ZbE g dem) step (.inr ()) (fun i x hi hx=>by
   have hnl:=ZiC (g:=g) hdl
   have e:ZG left (i:Int)=some (lf left (i:Int)):=Zlk ⟨by omega,by simp;omega⟩
   rw[h1 i x hi hx,e,Option.bind_some,ZN hi (show(ZbE g dem).length<9223372036854775808 by omega),decide_eq_false (show ¬x<lf left (i:Int) by have:=le i x hx;omega),cond_false]) h2
 unfold ZbY
 dsimp only
 rw[Zfs g hG.short,h,Option.bind_some,show((0:Int) != 0)=false from rfl,cond_false,Zk9 hG.short hd,T.rt,Option.bind_some,cond_true]
 cases d with
 | true=>
  rw[cond_true,Zpo,Option.bind_some]
  unfold ZbN
  dsimp only
  simp only[Zjt h (T.from_ rfl),Option.bind_some,show((0:Int) != 0)=false from rfl,cond_false,Zg9 hdl hw]
  rw[okI (ZaL ⟨true,dem,st,⟨⟨on,left⟩,ds,ts,fs⟩⟩ (ZbE g dem)) (fun i x hi hx=>by simp only[ZaL,ZcJ hi,cond_true,Zr hx,Option.bind_some]) (by simp only[ZaL,ZcW,cond_false]),Option.bind_some]
  simp only[ZdH hdl ll hw (fun x hx=>(T.crew.ok.rng x hx).1),Option.bind_some,T.state,bne_self_eq_false,cond_false]
 | false=>
  obtain⟨rfl,rfl,rfl⟩:=T.off rfl
  rw[cond_false,Zna,Option.bind_some]
  unfold Zce
  dsimp only
  simp only[List.length_nil,show decide ((0:Int)<((0:Nat):Int))=false from rfl,cond_false,ZdI h T.crew,Option.bind_some,show((0:Int) != 0)=false from rfl,Zg9 hdl hw]
  rw[okI (Zah ⟨false,dem,st,⟨⟨on,left⟩,[],[],[]⟩⟩ (ZbE g dem)) (fun i x hi hx=>by simp only[Zah,ZcJ hi,cond_true,Zr hx,Option.bind_some]) (by simp only[Zah,ZcW,cond_false]),Option.bind_some]
  simp only[ZdH hdl ll hw (fun x hx=>(T.crew.ok.rng x hx).1),Option.bind_some,T.state,bne_self_eq_false,cond_false]
def Zxw:ZT:=⟨[],[],0⟩
theorem Zwx {row:List Int} (h:ZaM g=0) (c:Zbr g left on) (F:ZfK g.edges left on row):Zbr g left row:=
 ⟨c.ll,by rw[F.len];exact c.o1,by rw[F.len];exact c.o8,⟨c.ok.rng,F.row_in c.ok,F.one,c.ok.over⟩⟩
theorem Ztb {dem picks:List Int}{d:Bool}{st:Int} (T:ZqN g dem d st left on ds ts fs) (hp:picks.length<=100000) :
  (∃e,ZcZ g ⟨d,dem,st,⟨⟨on,left⟩,ds,ts,fs⟩⟩ picks=some (Zkv,Zxw,e)/\e≠0) ∨
  ∃(row:List Int) (ds':List Za) (ts':List Ze) (fs' done:List Int) (n:Int),
   ZcZ g ⟨d,dem,st,⟨⟨on,left⟩,ds,ts,fs⟩⟩ picks=some (⟨d,dem,Zd6 g dem (ZD left row),⟨⟨ZJ left row,ZD left row⟩,ds',ts',fs'⟩⟩,⟨row,done,n⟩,0)/\row.length=on.length/\Zbr g left row/\ZqN g dem d (Zd6 g dem (ZD left row)) (ZD left row) (ZJ left row) ds' ts' fs'/\(∀z,z∈done↔z∈row/\z ≠ -1/\lf (ZD left row) z=0)/\done.length<=8:=by
 have h:=T.ck
 obtain⟨hG,hA⟩:=Za0 h
 have hdl:=ZkM T.rt
 have hw:=hG.wl
 have ll:=T.crew.ll
 have o8:=T.crew.o8
 have less:∀{row:List Int},Zbr g left row->∀(i:Nat) (x:Int),(ZbE g dem)[i]? = some x->lf (ZD left row) (i:Int)<=x:=fun {row} c i x hx=>by
  have h1:=T.le i x hx
  rw[Zoj c.ok (by omega)]
  split<;>omega
 cases d with
 | true=>
  have G:=T.from_ rfl
  unfold ZcZ Zdh Zdb
  simp only[cond_true,Zpo,Option.bind_some]
  rcases ZsX h hp G with⟨x,n,e,q1,q2⟩ | ⟨n,on',ds1,ts1,fs1,q1,q2⟩
  ·simp only[q1,Option.bind_some,Zkk q2,cond_true]
   exact .inl ⟨e,rfl,q2⟩
  ·have hol:on'.length=on.length:=q2.ol
   simp only[q1,Option.bind_some,show((0:Int) != 0)=false from rfl,cond_false,Zdt (show on'.length<=1073741824 by omega)]
   rcases Ztf h q2 with⟨x,l,e,r1,r2⟩ | ⟨ds2,done,r1,r2,r3,r4⟩
   ·simp only[r1,Option.bind_some,Zkk r2,cond_true]
    exact .inl ⟨e,rfl,r2⟩
   ·have cn:=r2.crew
    have hs:=ZdH (dem:=dem) (left:=ZD left on') hdl cn.ll hw fun x hx=>(cn.ok.rng x hx).1
    simp only[r1,Option.bind_some,show((0:Int) != 0)=false from rfl,cond_false,Zdt (show dem.length<=1073741824 by omega),hs]
    have ht:(ZJ left on').length=on.length:=by rw[Zel,List.length_map,hol]
    exact .inr ⟨on',ds2,ts1,fs1,done,n,rfl,hol,q2.crew,⟨h,T.rt,cn,fun _=>by rw[ht];exact r2,(fun e=>by cases e),less q2.crew,rfl⟩,r3,r4⟩
 | false=>
  obtain⟨rfl,rfl,rfl⟩:=T.off rfl
  have F:=ZrF T.crew
  have cr:=Zwx h T.crew F
  obtain⟨done,r1,r3,r4⟩:=Zow h cr
  have cn:=Zqz h cr
  have hs:=ZdH (dem:=dem) (left:=ZD left (Zbl on (Zbc g.edges left on))) hdl cn.ll hw fun x hx=>(cn.ok.rng x hx).1
  refine .inr ⟨Zbl on (Zbc g.edges left on),[],[],[],done,0,?_,F.len,cr,⟨h,T.rt,cn,(fun e=>by cases e),fun _=>⟨rfl,rfl,rfl⟩,less cr,rfl⟩,r3,r4⟩
  unfold ZcZ Zds Zdr
  simp only[cond_false,Zna,Option.bind_some,Zra h T.crew,show((0:Int) != 0)=false from rfl,Zdt (show(Zbl on (Zbc g.edges left on)).length<=1073741824 by rw[F.len];omega),r1,Zdt (show dem.length<=1073741824 by omega),hs]
end
end Go.Proofs.YtgcfmiajkbbmeaaGreat
namespace Go.Proofs.YtgcfmiajkbbmeaaGreat
open Go Go.Proofs.YtgcfmiajkbbmeaaGreatE
open Go.IntKind (u64 i64 u32 i32 u8)
section
variable {α β:Type} {A B:Option α} {Q:α->Option β->Prop}
theorem yB {c:Bool}{X Y:Option β} (h1:Zbo A Q X) (h2:Zbo B Q Y):Zbo (bif c then A else B) Q (br c X Y):=ZaA rfl h1 h2
theorem yBn {c:Bool}{X Y:Option β} (h2:Zbo B Q Y):Zbo (bif c then none else B) Q (br c X Y):=ZaA rfl ZU h2
theorem yBm {c:Bool}{X Y:Option β} (h1:Zbo A Q X):Zbo (bif c then A else none) Q (br c X Y):=ZaA rfl h1 ZU
theorem yT {X Y:Option β} (h1:Zbo A Q X):Zbo A Q (br true X Y):=Zf6 rfl h1
theorem yF {X Y:Option β} (h1:Zbo A Q Y):Zbo A Q (br false X Y):=ZzF rfl h1
theorem yG {γ:Type}{f:γ->D}{l:List γ}{i:Int}{A:γ->Option α}{K:D->Option β} (k:∀r,ZG l i=some r->Zbo (A r) Q (K (f r))):Zbo ((ZG l i).bind A) Q (bnd (ZG (l.map f) i) K):=Zwd rfl rfl k
theorem yC {γ:Type}{Γ:Ctx}{f:Nat}{args:List V}{E:Option γ}{A:γ->Option α}{K:V->Option β}{enc:γ->D} (w:∀r,E=some r->evD Γ f args=some (enc r)) (k:∀r,E=some r->Zbo (A r) Q (ZsI (enc r) K)):Zbo (E.bind A) Q (bnd (evW Γ f args []) (Zk5 K)):=Zvd enc w rfl k
theorem ZvA {γ:Type}{x:γ}{A:γ->Option α}{X:Option β} (k:Zbo (A x) Q X):Zbo ((some x).bind A) Q X:=k
theorem yR {a:α}{f:α->Option β}:Zbo (some a) (fun r rhs=>rhs=f r) (f a):=Zh rfl
theorem yBr {a:α}{c:Bool}{f:α->Option β}{Y:Option β} (h2:Zbo B (fun r rhs=>rhs=f r) Y):Zbo (bif c then some a else B) (fun r rhs=>rhs=f r) (br c (f a) Y):=yB yR h2
theorem evT {Γ : Ctx} {f : Nat} (fn : FnI) {args : List V} {E : Option α} {enc : α -> D} (hc : Γ.code f = some fn) (hn : Nat.beq args.length fn.nargs = true) (h : Zbo E (fun r rhs => rhs = some (enc r)) (ZeJ Γ 0 fn.body (Zbb 0 args) [] fun x e H1 => (match x with
      | .exit _=>none
      | _=>(match ZgK e H1 fn.res with
        | some l=>ZcF 0 [Zdz l] H1 fun _ vs H2=>(match vs with | [v]=>(match fr H2 6 v with | some (x,_)=>some x | none=>none) | _=>none)
        | none=>none)))):∀r,E=some r->evD Γ f args=some (enc r):=by rw[Zzy Γ f fn args hc hn];exact h
theorem evS {Γ : Ctx} {f : Nat} (fn : FnI) {args : List V} {H : Zc} {E : Option α} {enc : α -> V × Zc} (hc : Γ.code f = some fn) (hn : Nat.beq args.length fn.nargs = true) (h : Zbo E (fun r rhs => rhs = some (enc r)) (ZeJ Γ H.length fn.body (Zbb 0 args) H fun x e H1 => (match x with
      | .exit _=>none
      | _=>(match ZgK e H1 fn.res with
        | some l=>ZcF H.length [Zdz l] H1 fun _ vs H2=>(match vs with | [v]=>some (v,H2) | _=>none)
        | none=>none)))):∀r,E=some r->evW Γ f args H=some (enc r):=by rw[Zxn Γ f fn args H hc hn];exact h
theorem lpT {S R:Type}{step:S->Option (S⊕R)}{Γ:Ctx}{k:Nat}{live outs:List Nat}{b:C}{vs:S->List V}{H:S->Zc} (x:R->Ex×List V×Zc)
    (h:∀(s:S) (rec:S->Option R),(∀s r,rec s=some r->lpW Γ k live outs b (vs s) (H s)=some (x r))->Zbo (step s) (fun t rhs=>(match t with | .inl s'=>∀r,rec s'=some r->rhs=some (x r) | .inr r=>rhs=some (x r))) (ZeJ Γ k b (ZbB live (vs s)) (H s) fun x e H=>(match x with
      | .normal=>Zlb k (live.map e) H fun vs H=>bnd (lpW Γ k live outs b vs H) some
      | x=>ZcF k (outs.map e) H fun _ vs H=>some (x,vs,H)))):∀s r,lp step s=some r->lpW Γ k live outs b (vs s) (H s)=some (x r):=
  Zzn (G:=fun s=>lpW Γ k live outs b (vs s) (H s)) x fun s rec ih=>by rw[ZzH];exact h s rec ih
end
theorem Zdi:∀r,ZcQ=some r->evD ctx 9 []=some (D.bool r):=fun r h=>by
  cases h
  exact Zyy 100 (by kernel_rfl)
def Zn4 (r:Bool):D:=(D.bool r)
theorem Zmo {t0 t1:Bool}{a:Zm}:∀r,(ZfT a)=some r->evD ctx 34 [(.d (zK1 t0 a.work t1 a.edges))]=some (Zn4 r):=
 evT ZxX rfl rfl <| Zd (Zk _ _) (yB (Zd (Zk _ _) (yBr yR))
  yR)
def ZnL (r:Bool):D:=(D.bool r)
def Zg4 (t0:Bool) (t1:Bool) (t2:Bool) (t3:Bool) (t4:Bool) (a:Zx):(Unit⊕Unit)->Ex×List V×Zc
  | (.inl r)=>(.ret,[(.ptr 0 0),(.d (D.bool false))],[(zK4 t0 a.crew.on t1 a.crew.left t2 a.deques t3 a.takers t4 a.from_)])
  | (.inr r)=>(.exit 0,[(.ptr 0 0),.bad],[(zK4 t0 a.crew.on t1 a.crew.left t2 a.deques t3 a.takers t4 a.from_)])
theorem Zkp {t0 t1:Bool}{t2 t3 t4:Bool}{a:Zx}:∀(s0:Int) (r:(Unit⊕Unit)),lp (ZaD a) s0=some r->lpW ctx 0 [1,3] [1,2] ZvK [(.ptr 0 0),(zN s0)] [(zK4 t0 a.crew.on t1 a.crew.left t2 a.deques t3 a.takers t4 a.from_)]=some ((Zg4 t0 t1 t2 t3 t4 a) r):=
 lpT (Zg4 t0 t1 t2 t3 t4 a) fun s0 _ ih=>Zd (Zk _ _) (yB (yB (yG fun x1 _=>
  Zd (Zk _ _) (yB (Zh rfl)
  (Zi (ih _))))
  (Zh rfl))
  (Zh rfl))
theorem Zmz {t0 t1:Bool}{t2 t3 t4:Bool}{a:Zx}:∀r,(ZfU a)=some r->evD ctx 35 [(.d (zK2 t0 a.crew.on t1 a.crew.left t2 a.deques t3 a.takers t4 a.from_))]=some (ZnL r):=
 evT Zyq rfl rfl <| (by
 conv=>rhs;whnf
 refine Zg _ (Zkp _) fun r2 _=>?_
 rcases r2 with r2 | r2
 exact yR
 exact Zd (Zk _ _) (yB (Zd (Zk _ _) (yB (Zd (Zk _ _) (yB (Zd (Zk _ _) (yB (Zd (Zk _ _) (yBr yR))
  yR))
  yR))
  yR))
  yR))
def Zn3 (r:Bool):D:=(D.bool r)
theorem Zmd {t0 t1:Bool}{t2 t3:Bool}{t4 t5:Bool}{t6 t7:Bool}{a:Zm}{b:ZK}:∀r,(ZfX a b)=some r->evD ctx 10 [(.d (zK1 t0 a.work t1 a.edges)),(.d (D.agg [(D.bool b.stealing),(zL t2 b.demand),(Zq b.state),(zL t3 b.gang.crew.on),(zL t4 b.gang.crew.left),(zM t5 Zt b.gang.deques),(zM t6 Zv b.gang.takers),(zL t7 b.gang.from_)]))]=some (Zn3 r):=
 evT ZxH rfl rfl <| yC Zmo fun x0 _=>
  yB (yC Zmz fun x1 _=>
  yB (Zd (Zk _ _) (yBr yR))
  yR)
  yR
def ZnZ (t0:Bool) (t1:Bool) (a:Zm):Unit->V×Zc
  | r=>((.agg [(.sl 0 1),(.sl 1 2)]),[(zA a.work),(.arr 2 (List.map ZbC a.edges))])
theorem Zij {t0 t1:Bool}{a:Zm}:∀r,(Zex a)=some r->evW ctx 12 [(.d (zK1 t0 a.work t1 a.edges))] []=some ((ZnZ t0 t1 a) r):=
 evS Zx4 rfl rfl <| Zf6 (Zcp (f:=Zq) (fun _=>⟨rfl,rfl⟩) a.work 0) (ZaA (ZcI Zq a.work) (Zd (rfl:_=List.map Zq a.work) (Zf6 (Zcp (f:=ZbC) (fun _=>⟨rfl,rfl⟩) a.edges 0) (ZaA (ZcI ZbC a.edges) (Zd (rfl:_=List.map ZbC a.edges) yR)
  ZU)))
  ZU)
def ZnH (t0:Bool) (t1:Bool) (a:Zz):Unit->V×Zc
  | r=>((.agg [(.sl 0 1),(.sl 1 1)]),[(zA a.on),(zA a.left)])
theorem ZmE {t0 t1:Bool}{a:Zz}:∀r,(ZhU a)=some r->evW ctx 62 [(.d (zK5 t0 a.on t1 a.left))] []=some ((ZnH t0 t1 a) r):=
 evS ZxY rfl rfl <| Zf6 (Zcp (f:=Zq) (fun _=>⟨rfl,rfl⟩) a.on 0) (ZaA (ZcI Zq a.on) (Zd (rfl:_=List.map Zq a.on) (Zf6 (Zcp (f:=Zq) (fun _=>⟨rfl,rfl⟩) a.left 0) (ZaA (ZcI Zq a.left) (Zd (rfl:_=List.map Zq a.left) yR)
  ZU)))
  ZU)
def ZnX (r:Za):D:=(zK6 true r.ring r.top r.bottom)
theorem Zm9 {t0:Bool}{a:Za}:∀r,(Zh0 a)=some r->evD ctx 63 [(.d (zK6 t0 a.ring a.top a.bottom))]=some (ZnX r):=
 evT Zyj rfl rfl <| Zf6 (Zcp (f:=Zq) (fun _=>⟨rfl,rfl⟩) a.ring 0) (ZaA (ZcI Zq a.ring) (Zd (rfl:_=List.map Zq a.ring) yR)
  ZU)
def ZnR (t0:Bool) (t1:Bool) (t2:Bool) (t3:Bool) (t4:Bool) (a:Zx):(List Za)->V×Zc
  | r=>((.agg [(.sl 0 1),(.sl 1 1),(.sl 2 3),(.sl 3 6),(.sl 4 1)]),[(zA a.crew.on),(zA a.crew.left),(.arr 3 (List.map Zt r)),(.arr 6 (List.map Zv a.takers)),(zA a.from_)])
def ZgA (t0:Bool) (t1:Bool) (t2:Bool) (t3:Bool) (t4:Bool) (a:Zx):(List Za)->Ex×List V×Zc
  | r=>(.exit 0,[(.ptr 0 0),(.ptr 1 0)],[(.cells [(.sl 2 1),(.sl 3 1),(.sl 4 3),(.sl 5 6),(.sl 6 1)]),(.cells [(.sl 7 1),(.sl 8 1),(.sl 9 3),(.sl 10 6),(.sl 11 1)]),(.arr 1 []),(.arr 1 []),(.arr 3 []),(.arr 6 []),(.arr 1 []),(zA a.crew.on),(zA a.crew.left),(.arr 3 (List.map Zt r)),(.arr 6 (List.map Zv a.takers)),(zA a.from_)])
theorem Zka {t0 t1:Bool}{t2 t3 t4:Bool}{a:Zx}:∀(s1:Int×(List Za)) (r:List Za),lp (Zch a) s1=some r->lpW ctx 0 [1,2,3,4] [2,3] ZtN [(.ptr 0 0),(.ptr 1 0),(.ptr 2 0),(zN s1.1)] [(zK4 t0 a.crew.on t1 a.crew.left t2 a.deques t3 a.takers t4 a.from_),(.cells [(.sl 3 1),(.sl 4 1),(.sl 5 3),(.sl 6 6),(.sl 7 1)]),(.cells [(.sl 8 1),(.sl 9 1),(.sl 10 3),(.sl 11 6),(.sl 12 1)]),(.arr 1 []),(.arr 1 []),(.arr 3 []),(.arr 6 []),(.arr 1 []),(zA a.crew.on),(zA a.crew.left),(.arr 3 (List.map Zt s1.2)),(.arr 6 (List.map Zv a.takers)),(zA a.from_)]=some ((ZgA t0 t1 t2 t3 t4 a) r):=
 lpT (ZgA t0 t1 t2 t3 t4 a) fun s1 _ ih=>Zd (Zk _ _) (yB (yG fun x2 _=>
  yC Zm9 fun x3 _=>
  yT (ZaA (Zfc Zt s1.2 1) (Zd (Zfb Zt s1.2 [x3]) (Zi (ih _)))
  ZU))
  (Zh rfl))
theorem ZmS {t0 t1:Bool}{t2 t3 t4:Bool}{a:Zx}:∀r,(Zf3 a)=some r->evW ctx 37 [(.d (zK2 t0 a.crew.on t1 a.crew.left t2 a.deques t3 a.takers t4 a.from_))] []=some ((ZnR t0 t1 t2 t3 t4 a) r):=
 evS ZyI rfl rfl <| Zg _ ZmE fun x0 _=>
  Zf6 (Zcp (f:=Zv) (fun _=>⟨rfl,rfl⟩) a.takers 0) (ZaA (ZcI Zv a.takers) (Zd (rfl:_=List.map Zv a.takers) (Zf6 (Zcp (f:=Zq) (fun _=>⟨rfl,rfl⟩) a.from_ 0) (ZaA (ZcI Zq a.from_) (Zd (rfl:_=List.map Zq a.from_) (Zg _ (Zka _) fun r4 _=>
  yR))
  ZU)))
  ZU)
def ZnI (t0:Bool) (t1:Bool) (t2:Bool) (t3:Bool) (t4:Bool) (t5:Bool) (a:ZK):(List Za)->V×Zc
  | r=>((.agg [(.d (D.bool a.stealing)),(.sl 0 1),(zN a.state),(.sl 1 1),(.sl 2 1),(.sl 3 3),(.sl 4 6),(.sl 5 1)]),[(zA a.demand),(zA a.gang.crew.on),(zA a.gang.crew.left),(.arr 3 (List.map Zt r)),(.arr 6 (List.map Zv a.gang.takers)),(zA a.gang.from_)])
theorem Zib {t0 t1:Bool}{t2 t3:Bool}{t4 t5:Bool}{a:ZK}:∀r,(ZeK a)=some r->evW ctx 13 [(.d (D.agg [(D.bool a.stealing),(zL t0 a.demand),(Zq a.state),(zL t1 a.gang.crew.on),(zL t2 a.gang.crew.left),(zM t3 Zt a.gang.deques),(zM t4 Zv a.gang.takers),(zL t5 a.gang.from_)]))] []=some ((ZnI t0 t1 t2 t3 t4 t5 a) r):=
 evS Zyx rfl rfl <| Zf6 (Zcp (f:=Zq) (fun _=>⟨rfl,rfl⟩) a.demand 0) (ZaA (ZcI Zq a.demand) (Zd (rfl:_=List.map Zq a.demand) (Zg _ ZmS fun x0 _=>
  yR))
  ZU)
def Zma (t0:Bool) (a:List Int):Unit->V×Zc
  | r=>((.sl 0 1),[(zA a)])
theorem Zls {t0:Bool}{a:List Int}:∀r,(Ze8 a)=some r->evW ctx 14 [(zV t0 a)] []=some ((Zma t0 a) r):=
 evS ZyT rfl rfl <| Zf6 (Zcp (f:=Zq) (fun _=>⟨rfl,rfl⟩) a 0) (ZaA (ZcI Zq a) (Zd (rfl:_=List.map Zq a) yR)
  ZU)
def ZlF (r:Bool):D:=(D.bool r)
theorem ZkK {a:Int}:∀r,(Zbn a)=some r->evD ctx 67 [(zN a)]=some (ZlF r):=
 evT Zx2 rfl rfl <| yBr (yBr yR)
def Zcu (r:Int):D:=(Zq r)
def Zam (t0:Bool) (a:List Int):(Int⊕Unit)->Ex×List V×Zc
  | (.inl r)=>(.ret,[(zN r)],[])
  | (.inr r)=>(.exit 0,[.bad],[])
theorem ZbR {t0:Bool}{a:List Int}:∀(s0:Int) (r:(Int⊕Unit)),lp (Zs a (fun z0=>Zbn z0)) s0=some r->lpW ctx 0 [0,1,7,8] [4] Zml [(zV t0 a),(.d (D.fn 67 [])),(zN (a.length:Int)),(zN s0)] []=some ((Zam t0 a) r):=
 lpT (Zam t0 a) fun s0 _ ih=>yB (yG fun x1 _=>
  yC ZkK fun x2 _=>
  yB (Zh rfl)
  (Zi (ih _)))
  (Zh rfl)
theorem Zcn {t0:Bool}{a:List Int}:∀r,(ZB a (fun z0=>Zbn z0))=some r->evD ctx 99 [(zV t0 a),(.d (D.fn 67 []))]=some (Zcu r):=
 evT ZsQ rfl rfl <| Zd (Zk _ _) (by
 conv=>rhs;whnf
 refine Zg _ (ZbR _) fun r3 _=>?_
 rcases r3 with r3 | r3
 exact yR
 exact yR)
def Zb7 (r:Bool):D:=(D.bool r)
theorem ZbT {t0:Bool}{a:List Int}:∀r,(Zw a (fun z0=>Zbn z0))=some r->evD ctx 66 [(zV t0 a),(.d (D.fn 67 []))]=some (Zb7 r):=
 evT Zu1 rfl rfl <| yC Zcn fun x0 _=>
  yBr yR
def ZlK (r:Bool):D:=(D.bool r)
theorem ZgI {t0 t1:Bool}{a:Int}{b0:List Int}{b1:List Zo}:∀r,(Zdp a b0)=some r->evD ctx 68 [(zN a),(.d (D.rptr [(zL t0 b0),(zM t1 ZbC b1)]))]=some (ZlK r):=
 evT ZxF rfl rfl <| yB (Zd (Zk _ _) (yBr yR))
  yR
def ZeR (r:Int):D:=(Zq r)
def Zb8 (t0:Bool) (a:List Zo) (b:Zo):(Int⊕Unit)->Ex×List V×Zc
  | (.inl r)=>(.ret,[(zN r)],[])
  | (.inr r)=>(.exit 0,[.bad],[])
theorem ZdU {t0:Bool}{a:List Zo}{b:Zo}:∀(s0:Int) (r:(Int⊕Unit)),lp (Zag a b) s0=some r->lpW ctx 0 [0,3,7,8] [4] Zsg [(zW t0 ZbC a),(.ptr 0 0),(zN (a.length:Int)),(zN s0)] [(.cells [(zN b.src),(zN b.dst)])]=some ((Zb8 t0 a b) r):=
 lpT (Zb8 t0 a b) fun s0 _ ih=>yB (yG fun x1 _=>
  yB (Zh rfl)
  (Zi (ih _)))
  (Zh rfl)
theorem ZeH {t0:Bool}{a:List Zo}{b:Zo}:∀r,(Zbp a b)=some r->evD ctx 100 [(zW t0 ZbC a),(.d (D.agg [(Zq b.src),(Zq b.dst)]))]=some (ZeR r):=
 evT ZvE rfl rfl <| Zd (Zk _ _) (by
 conv=>rhs;whnf
 refine Zg _ (ZdU _) fun r2 _=>?_
 rcases r2 with r2 | r2
 exact yR
 exact yR)
def Zeb (r:Bool):D:=(D.bool r)
theorem ZdW {t0:Bool}{a:List Zo}{b:Zo}:∀r,(Zak a b)=some r->evD ctx 69 [(zW t0 ZbC a),(.d (D.agg [(Zq b.src),(Zq b.dst)]))]=some (Zeb r):=
 evT ZyH rfl rfl <| yC ZeH fun x0 _=>
  yBr yR
def ZnK (r:((List Int)×Bool)):D:=(D.tup [(zL true r.1),(D.bool r.2)])
def Zg3 (t0:Bool) (t1:Bool) (a:Zm) (s0:(List Int)×(List Bool)) (s1:Int):(Unit⊕Unit)->Ex×List V×Zc
  | (.inl r)=>(.exit 3,[(.ptr 0 0),(.sl 1 1),(.sl 2 1),(zN s1),(zN (a.work.length:Int)),(zN s1)],[(zK0 t0 a.work t1 a.edges),(zA s0.1),(.arr 1 (List.map D.bool s0.2))])
  | (.inr r)=>(.exit 4,[(.ptr 0 0),(.sl 1 1),(.sl 2 1),(zN s1),(zN (a.work.length:Int)),(zN s1)],[(zK0 t0 a.work t1 a.edges),(zA s0.1),(.arr 1 (List.map D.bool s0.2))])
theorem Zj3 {t0 t1:Bool}{a:Zm}{s0:(List Int)×(List Bool)}{s1:Int}:∀(s3:Int) (r:(Unit⊕Unit)),lp (Zc9 a s0 s1) s3=some r->lpW ctx 0 [1,4,5,6,21,22,30,31,32] [1,4,5,6,21,22] Zuj [(.ptr 0 0),(.sl 1 1),(.sl 2 1),(zN s1),(zN (a.work.length:Int)),(zN s1),(zW t1 ZbC a.edges),(zN (a.edges.length:Int)),(zN s3)] [(zK0 t0 a.work t1 a.edges),(zA s0.1),(.arr 1 (List.map D.bool s0.2))]=some ((Zg3 t0 t1 a s0 s1) r):=
 lpT (Zg3 t0 t1 a s0 s1) fun s3 _ ih=>yB (yG fun x4 _=>
  yB (yG fun x5 hx5=>
  Zu (Zay rfl hx5) (yB (Zi (ih _))
  (Zh rfl)))
  (Zi (ih _)))
  (Zh rfl)
def ZgX (t0:Bool) (t1:Bool) (a:Zm) (s0:(List Int)×(List Bool)):(((List Int)×(List Bool))⊕Unit)->Ex×List V×Zc
  | (.inl r)=>(.exit 1,[(.ptr 0 0),(.sl 1 1),(.sl 2 1)],[(zK0 t0 a.work t1 a.edges),(zA r.1),(.arr 1 (List.map D.bool r.2))])
  | (.inr r)=>(.exit 2,[(.ptr 0 0),(.sl 1 1),(.sl 2 1)],[(zK0 t0 a.work t1 a.edges),(zA s0.1),(.arr 1 (List.map D.bool s0.2))])
theorem Zj9 {t0 t1:Bool}{a:Zm}{s0:(List Int)×(List Bool)}:∀(s1:Int) (r:(((List Int)×(List Bool))⊕Unit)),lp (Zcc a s0) s1=some r->lpW ctx 0 [1,4,5,21,22] [1,4,5] Zvm [(.ptr 0 0),(.sl 1 1),(.sl 2 1),(zN (a.work.length:Int)),(zN s1)] [(zK0 t0 a.work t1 a.edges),(zA s0.1),(.arr 1 (List.map D.bool s0.2))]=some ((ZgX t0 t1 a s0) r):=
 lpT (ZgX t0 t1 a s0) fun s1 _ ih=>yB (yG fun x2 hx2=>
  Zu (Zay rfl hx2) (yB (Zi (ih _))
  (Zd (Zk _ _) (by
 conv=>rhs;whnf
 refine Zg _ (Zj3 _) fun r6 _=>?_
 rcases r6 with r6 | r6
 exact Zi (ih _)
 exact Zu (ZeT rfl hx2) (Zu (Zay rfl hx2) (Zd (Zdd D.bool s0.2 s1.toNat true) (yT (ZaA (Zfc Zq s0.1 1) (Zd (Zfb Zq s0.1 [s1]) (Zh rfl))
  ZU))))))))
  (Zh rfl)
def ZgE (t0:Bool) (t1:Bool) (a:Zm):((List Int)⊕(List Int))->Ex×List V×Zc
  | (.inl r)=>(.ret,[(.nilsl 1),(.d (D.bool false)),(.sl 0 1)],[(zA r)])
  | (.inr r)=>(.exit 0,[.bad,.bad,(.sl 0 1)],[(zA r)])
theorem Zkn {t0 t1:Bool}{a:Zm}:∀(s0:(List Int)×(List Bool)) (r:((List Int)⊕(List Int))),lp (Zda a) s0=some r->lpW ctx 0 [1,4,5] [2,3,4] Zve [(.ptr 0 0),(.sl 1 1),(.sl 2 1)] [(zK0 t0 a.work t1 a.edges),(zA s0.1),(.arr 1 (List.map D.bool s0.2))]=some ((ZgE t0 t1 a) r):=
 lpT (ZgE t0 t1 a) fun s0 _ ih=>Zd (Zk _ _) (Zd (Zk _ _) (yB (Zd (Zk _ _) (by
 conv=>rhs;whnf
 refine Zg _ (Zj9 _) fun r7 _=>?_
 rcases r7 with r7 | r7
 exact Zi (ih _)
 exact Zh rfl))
  (Zh rfl)))
theorem ZmN {t0 t1:Bool}{a:Zm}:∀r,(ZdA a)=some r->evD ctx 70 [(.d (zK1 t0 a.work t1 a.edges))]=some (ZnK r):=
 evT Zyw rfl rfl <| Zd (Zk _ _) (yBm (Zd (ZwE D.bool (false:Bool) (a.work.length:Int)) (by
 conv=>rhs;whnf
 refine Zg _ (Zkn _) fun r8 _=>?_
 rcases r8 with r8 | r8
 exact yR
 exact yR)))
def ZnU (r:Int):D:=(Zq r)
def ZgJ (t0:Bool) (t1:Bool) (a:Zm):(Unit⊕Unit)->Ex×List V×Zc
  | (.inl r)=>(.ret,[(.ptr 0 0),(zN 42)],[(zK0 t0 a.work t1 a.edges)])
  | (.inr r)=>(.exit 0,[(.ptr 0 0),.bad],[(zK0 t0 a.work t1 a.edges)])
theorem Zko {t0 t1:Bool}{a:Zm}:∀(s1:Int) (r:(Unit⊕Unit)),lp (Zcq a) s1=some r->lpW ctx 0 [1,3,23,24,25] [1,2] Zuk [(.ptr 0 0),(.fn 68 [(.ptr 0 0)]),(zW t1 ZbC a.edges),(zN (a.edges.length:Int)),(zN s1)] [(zK0 t0 a.work t1 a.edges)]=some ((ZgJ t0 t1 a) r):=
 lpT (ZgJ t0 t1 a) fun s1 _ ih=>yB (yG fun x2 _=>
  yC ZgI fun x3 _=>
  yB (yC ZgI fun x4 _=>
  yB (yB (Zh rfl)
  (yBm (ZaA (Zxp ZbC a.edges s1.toNat) (yT (Zd (ZsE ZbC a.edges s1.toNat) (yC ZdW fun x5 _=>
  yB (Zh rfl)
  (Zi (ih _)))))
  ZU)))
  (Zh rfl))
  (Zh rfl))
  (Zh rfl)
theorem ZfE {t0 t1:Bool}{a:Zm}:∀r,(ZdD a)=some r->evD ctx 39 [(.d (zK1 t0 a.work t1 a.edges))]=some (ZnU r):=
 evT ZxA rfl rfl <| Zd (Zk _ _) (yBr (Zd (Zk _ _) (yBr (yC ZbT fun x0 _=>
  yBr (Zd (Zk _ _) (by
 conv=>rhs;whnf
 refine Zg _ (Zko _) fun r6 _=>?_
 rcases r6 with r6 | r6
 exact yR
 exact yC ZmN fun x7 _=>
  yBr yR))))))
def ZkX (r:Bool):D:=(D.bool r)
theorem ZjV {a:Int}:∀r,(Za7 a)=some r->evD ctx 71 [(zN a)]=some (ZkX r):=
 evT Zyk rfl rfl <| yBr (yBr yR)
def Zcm (r:Int):D:=(Zq r)
def Zai (t0:Bool) (a:List Int):(Int⊕Unit)->Ex×List V×Zc
  | (.inl r)=>(.ret,[(zN r)],[])
  | (.inr r)=>(.exit 0,[.bad],[])
theorem ZbG {t0:Bool}{a:List Int}:∀(s0:Int) (r:(Int⊕Unit)),lp (Zs a (fun z0=>Za7 z0)) s0=some r->lpW ctx 0 [0,1,7,8] [4] Zml [(zV t0 a),(.d (D.fn 71 [])),(zN (a.length:Int)),(zN s0)] []=some ((Zai t0 a) r):=
 lpT (Zai t0 a) fun s0 _ ih=>yB (yG fun x1 _=>
  yC ZjV fun x2 _=>
  yB (Zh rfl)
  (Zi (ih _)))
  (Zh rfl)
theorem Zb9 {t0:Bool}{a:List Int}:∀r,(ZB a (fun z0=>Za7 z0))=some r->evD ctx 99 [(zV t0 a),(.d (D.fn 71 []))]=some (Zcm r):=
 evT ZsQ rfl rfl <| Zd (Zk _ _) (by
 conv=>rhs;whnf
 refine Zg _ (ZbG _) fun r3 _=>?_
 rcases r3 with r3 | r3
 exact yR
 exact yR)
def ZbQ (r:Bool):D:=(D.bool r)
theorem Zac {t0:Bool}{a:List Int}:∀r,(Zw a (fun z0=>Za7 z0))=some r->evD ctx 66 [(zV t0 a),(.d (D.fn 71 []))]=some (ZbQ r):=
 evT Zu1 rfl rfl <| yC Zb9 fun x0 _=>
  yBr yR
def Znm (r:Bool):D:=(D.bool r)
theorem Zlt {t0 t1 t2:Bool}{a:Zm}{b:List Int}:∀r,(Zfi a b)=some r->evD ctx 40 [(.d (zK1 t0 a.work t1 a.edges)),(zV t2 b)]=some (Znm r):=
 evT ZxD rfl rfl <| Zd (Zk _ _) (Zd (Zk _ _) (yB (yC Zac fun x0 _=>
  yBr (yC Zac fun x1 _=>
  yBr yR))
  yR))
def ZqE (a:Bool):(Unit⊕Unit)->D
  | (.inl r)=>(D.iface 115 (D.agg []))
  | (.inr r)=>(D.iface 116 (D.agg []))
theorem Zfe {a:Bool}:∀r,(ZdF a)=some r->evD ctx 41 [(.d (D.bool a))]=some ((ZqE a) r):=
 evT Zyf rfl rfl <| (by
 try unfold ZdF
 rcases hb:a with _ | _
 exact ZyB yR
 exact ZxG yR)
def ZkY (r:Bool):D:=(D.bool r)
theorem ZjI {a:Int}:∀r,(Zbq a)=some r->evD ctx 195 [(zN a)]=some (ZkY r):=
 evT Zvg rfl rfl <| yBr (yBr yR)
def Zcj (r:Int):D:=(Zq r)
def Zaj (t0:Bool) (a:List Int):(Int⊕Unit)->Ex×List V×Zc
  | (.inl r)=>(.ret,[(zN r)],[])
  | (.inr r)=>(.exit 0,[.bad],[])
theorem ZbK {t0:Bool}{a:List Int}:∀(s0:Int) (r:(Int⊕Unit)),lp (Zs a (fun z0=>Zbq z0)) s0=some r->lpW ctx 0 [0,1,7,8] [4] Zml [(zV t0 a),(.d (D.fn 195 [])),(zN (a.length:Int)),(zN s0)] []=some ((Zaj t0 a) r):=
 lpT (Zaj t0 a) fun s0 _ ih=>yB (yG fun x1 _=>
  yC ZjI fun x2 _=>
  yB (Zh rfl)
  (Zi (ih _)))
  (Zh rfl)
theorem Zcb {t0:Bool}{a:List Int}:∀r,(ZB a (fun z0=>Zbq z0))=some r->evD ctx 99 [(zV t0 a),(.d (D.fn 195 []))]=some (Zcj r):=
 evT ZsQ rfl rfl <| Zd (Zk _ _) (by
 conv=>rhs;whnf
 refine Zg _ (ZbK _) fun r3 _=>?_
 rcases r3 with r3 | r3
 exact yR
 exact yR)
def ZbX (r:Bool):D:=(D.bool r)
theorem ZbI {t0:Bool}{a:List Int}:∀r,(Zw a (fun z0=>Zbq z0))=some r->evD ctx 66 [(zV t0 a),(.d (D.fn 195 []))]=some (ZbX r):=
 evT Zu1 rfl rfl <| yC Zcb fun x0 _=>
  yBr yR
def ZnP (r:Bool):D:=(D.bool r)
theorem Zc4 {t0 t1:Bool}{a:Zz}{b:Int}:∀r,(Zcv a b)=some r->evD ctx 191 [(.d (zK5 t0 a.on t1 a.left)),(zN b)]=some (ZnP r):=
 evT ZvM rfl rfl <| yG fun x0 _=>
  yBr yR
def ZfD (r:Int):D:=(Zq r)
def Zcy (t0:Bool) (a:List Int) (b:Int):(Int⊕Unit)->Ex×List V×Zc
  | (.inl r)=>(.ret,[(zN r)],[])
  | (.inr r)=>(.exit 0,[.bad],[])
theorem Zej {t0:Bool}{a:List Int}{b:Int}:∀(s0:Int) (r:(Int⊕Unit)),lp (Zax a b) s0=some r->lpW ctx 0 [0,1,7,8] [4] ZtV [(zV t0 a),(zN b),(zN (a.length:Int)),(zN s0)] []=some ((Zcy t0 a b) r):=
 lpT (Zcy t0 a b) fun s0 _ ih=>yB (yG fun x1 _=>
  yB (Zh rfl)
  (Zi (ih _)))
  (Zh rfl)
theorem Zfj {t0:Bool}{a:List Int}{b:Int}:∀r,(Zb6 a b)=some r->evD ctx 88 [(zV t0 a),(zN b)]=some (ZfD r):=
 evT Zym rfl rfl <| Zd (Zk _ _) (by
 conv=>rhs;whnf
 refine Zg _ (Zej _) fun r2 _=>?_
 rcases r2 with r2 | r2
 exact yR
 exact yR)
def Zew (r:Bool):D:=(D.bool r)
theorem ZW {t0:Bool}{a:List Int}{b:Int}:∀r,(ZI a b)=some r->evD ctx 55 [(zV t0 a),(zN b)]=some (Zew r):=
 evT ZxW rfl rfl <| yC Zfj fun x0 _=>
  yBr yR
def Zlz (r:Bool):D:=(D.bool r)
theorem ZkI {t0 t1:Bool}{a:Zo}{b0:Int}{c0:List Int}{c1:List Int}:∀r,(ZcN a b0 c0 c1)=some r->evD ctx 208 [(.d (D.agg [(Zq a.src),(Zq a.dst)])),(.d (D.rptr [(Zq b0)])),(.d (D.rptr [(zL t0 c0),(zL t1 c1)]))]=some (Zlz r):=
 evT Zud rfl rfl <| yB (yC Zc4 fun x0 _=>
  yBr yR)
  yR
def Zca (r:Int):D:=(Zq r)
def Zad (t0:Bool) (t1:Bool) (t2:Bool) (a:List Zo) (b0:Int) (b1:List Int) (b2:List Int):(Int⊕Unit)->Ex×List V×Zc
  | (.inl r)=>(.ret,[(zN r)],[])
  | (.inr r)=>(.exit 0,[.bad],[])
theorem Zby {t0 t1 t2:Bool}{a:List Zo}{b0:Int}{b1:List Int}{b2:List Int}:∀(s0:Int) (r:(Int⊕Unit)),lp (Z5 a (fun z0=>ZcN z0 b0 b1 b2)) s0=some r->lpW ctx 0 [0,1,7,8] [4] Zr0 [(zW t0 ZbC a),(.d (D.fn 208 [(D.rptr [(Zq b0)]),(D.rptr [(zL t1 b1),(zL t2 b2)])])),(zN (a.length:Int)),(zN s0)] []=some ((Zad t0 t1 t2 a b0 b1 b2) r):=
 lpT (Zad t0 t1 t2 a b0 b1 b2) fun s0 _ ih=>yB (yG fun x1 _=>
  yC ZkI fun x2 _=>
  yB (Zh rfl)
  (Zi (ih _)))
  (Zh rfl)
theorem Zb4 {t0 t1 t2:Bool}{a:List Zo}{b0:Int}{b1:List Int}{b2:List Int}:∀r,(ZaZ a (fun z0=>ZcN z0 b0 b1 b2))=some r->evD ctx 109 [(zW t0 ZbC a),(.d (D.fn 208 [(D.rptr [(Zq b0)]),(D.rptr [(zL t1 b1),(zL t2 b2)])]))]=some (Zca r):=
 evT ZuM rfl rfl <| Zd (Zk _ _) (by
 conv=>rhs;whnf
 refine Zg _ (Zby _) fun r3 _=>?_
 rcases r3 with r3 | r3
 exact yR
 exact yR)
def ZbJ (r:Bool):D:=(D.bool r)
theorem Zbz {t0 t1 t2:Bool}{a:List Zo}{b0:Int}{b1:List Int}{b2:List Int}:∀r,(Z4 a (fun z0=>ZcN z0 b0 b1 b2))=some r->evD ctx 89 [(zW t0 ZbC a),(.d (D.fn 208 [(D.rptr [(Zq b0)]),(D.rptr [(zL t1 b1),(zL t2 b2)])]))]=some (ZbJ r):=
 evT Zyb rfl rfl <| yC Zb4 fun x0 _=>
  yBr yR
def ZnN (r:Bool):D:=(D.bool r)
theorem Zfo {t0 t1:Bool}{t2 t3:Bool}{a:Zm}{b:Zz}{c:Int}:∀r,(ZdC a b c)=some r->evD ctx 192 [(.d (zK1 t0 a.work t1 a.edges)),(.d (zK5 t2 b.on t3 b.left)),(zN c)]=some (ZnN r):=
 evT ZtM rfl rfl <| yC Zbz fun x0 _=>
  yBr yR
def Zmu (r:Bool):D:=(D.bool r)
def Zgb (t0:Bool) (t1:Bool) (t2:Bool) (t3:Bool) (a:Zm) (b:Zz):(Unit⊕Unit)->Ex×List V×Zc
  | (.inl r)=>(.ret,[(.ptr 0 0),(.ptr 1 0),(.d (D.bool false))],[(zK0 t0 a.work t1 a.edges),(zK9 t2 b.on t3 b.left)])
  | (.inr r)=>(.exit 0,[(.ptr 0 0),(.ptr 1 0),.bad],[(zK0 t0 a.work t1 a.edges),(zK9 t2 b.on t3 b.left)])
theorem Zjp {t0 t1:Bool}{t2 t3:Bool}{a:Zm}{b:Zz}:∀(s1:Int) (r:(Unit⊕Unit)),lp (ZaI a b) s1=some r->lpW ctx 0 [2,3,35,36,37] [2,3,4] ZsG [(.ptr 0 0),(.ptr 1 0),(zV t2 b.on),(zN (b.on.length:Int)),(zN s1)] [(zK0 t0 a.work t1 a.edges),(zK9 t2 b.on t3 b.left)]=some ((Zgb t0 t1 t2 t3 a b) r):=
 lpT (Zgb t0 t1 t2 t3 a b) fun s1 _ ih=>yB (yG fun x2 _=>
  yB (Zi (ih _))
  (yB (Zh rfl)
  (Zd (Zk _ _) (yB (Zh rfl)
  (yC Zc4 fun x3 _=>
  yB (Zh rfl)
  (yBm (ZaA (Zxp Zq b.on s1.toNat) (yT (Zd (ZsE Zq b.on s1.toNat) (yC ZW fun x4 _=>
  yB (Zh rfl)
  (yC Zfo fun x5 _=>
  yB (Zi (ih _))
  (Zh rfl)))))
  ZU)))))))
  (Zh rfl)
def Zgg (t0:Bool) (t1:Bool) (t2:Bool) (t3:Bool) (a:Zm) (b:Zz):(Unit⊕Unit)->Ex×List V×Zc
  | (.inl r)=>(.ret,[(.d (D.bool false))],[])
  | (.inr r)=>(.exit 2,[.bad],[])
theorem Zjc {t0 t1:Bool}{t2 t3:Bool}{a:Zm}{b:Zz}:∀(s7:Int) (r:(Unit⊕Unit)),lp (ZaK a b) s7=some r->lpW ctx 0 [2,3,76,77] [4] ZsA [(.ptr 0 0),(.ptr 1 0),(zN (b.left.length:Int)),(zN s7)] [(zK0 t0 a.work t1 a.edges),(zK9 t2 b.on t3 b.left)]=some ((Zgg t0 t1 t2 t3 a b) r):=
 lpT (Zgg t0 t1 t2 t3 a b) fun s7 _ ih=>yB (yC Zc4 fun x8 _=>
  yB (yC Zfo fun x9 _=>
  yB (Zi (ih _))
  (Zh rfl))
  (Zi (ih _)))
  (Zh rfl)
theorem Zlq {t0 t1:Bool}{t2 t3:Bool}{a:Zm}{b:Zz}:∀r,(ZcA a b)=some r->evD ctx 179 [(.d (zK1 t0 a.work t1 a.edges)),(.d (zK5 t2 b.on t3 b.left))]=some (Zmu r):=
 evT ZvZ rfl rfl <| Zd (Zk _ _) (yBr (Zd (Zk _ _) (yBr (Zd (Zk _ _) (Zd (Zk _ _) (yBr (yC ZbI fun x0 _=>
  yBr (Zd (Zk _ _) (by
 conv=>rhs;whnf
 refine Zg _ (Zjp _) fun r6 _=>?_
 rcases r6 with r6 | r6
 exact yR
 exact Zd (Zk _ _) (by
 conv=>rhs;whnf
 refine Zg _ (Zjc _) fun r10 _=>?_
 rcases r10 with r10 | r10
 exact yR
 exact yR))))))))))
def Zl7 (r:Int):D:=(Zq r)
theorem ZcE {t0 t1:Bool}{t2 t3:Bool}{a:Zm}{b:Zz}:∀r,(ZaF a b)=some r->evD ctx 171 [(.d (zK1 t0 a.work t1 a.edges)),(.d (zK5 t2 b.on t3 b.left))]=some (Zl7 r):=
 evT Zuu rfl rfl <| yC ZfE fun x0 _=>
  yB (yC Zlq fun x1 _=>
  yBr yR)
  yR
def ZnV (r:Int):D:=(Zq r)
theorem Zh1 {a:Int}:∀r,(Zev a)=some r->evD ctx 188 [(zN a)]=some (ZnV r):=
 evT Zvy rfl rfl <| yBr (yBr yR)
def ZfO (r:Int):D:=(Zq r)
theorem Zfp {a:Int}:∀r,(Za9 a)=some r->evD ctx 205 [(.d (D.int .u64 a))]=some (ZfO r):=
 evT ZvS rfl rfl <| yF (yF (yF (yF (yF (yF yR)))))
def Zg2 (r:Int):D:=(Zq r)
theorem Zgt {a:Int}:∀r,(Zbw a)=some r->evD ctx 189 [(.d (D.int .u64 a))]=some (Zg2 r):=
 evT ZuW rfl rfl <| yC Zfp fun x0 _=>
  yR
def ZeF (a:Int):Unit->V×Zc
  | r=>(.bad,[])
theorem Zee {a:Int}:∀r,(Zbi a)=some r->evW ctx 207 [(.d (D.int .u64 a))] []=some ((ZeF a) r):=
 evS Zxf rfl rfl <| yBr yR
def Zfg (a:Int):Unit->V×Zc
  | r=>(.bad,[])
theorem ZeS {a:Int}:∀r,(ZaO a)=some r->evW ctx 190 [(.d (D.int .u64 a))] []=some ((Zfg a) r):=
 evS Zu7 rfl rfl <| Zg _ Zee fun x0 _=>
  yR
def ZpZ (a:Int):(Unit⊕Unit)->V×Zc
  | (.inl r)=>((.d (D.tup [(Zq 0),(D.bool false)])),[])
  | (.inr r)=>((.tup [.bad,(.d (D.bool true))]),[])
theorem Zpf {a:Int}:∀r,(ZgB a)=some r->evW ctx 176 [(zN a)] []=some ((ZpZ a) r):=
 evS Zt9 rfl rfl <| yC Zh1 fun x0 _=>
  yBr (yC Zgt fun x1 _=>
  yBr (Zg _ ZeS fun x2 _=>
  yR))
def Zly (r:Int):D:=(Zq r)
theorem Zco {t0:Bool}{a:Za}:∀r,(Z6 a)=some r->evD ctx 180 [(.d (zK6 t0 a.ring a.top a.bottom))]=some (Zly r):=
 evT Zt7 rfl rfl <| Zd (Zk _ _) (by
 conv=>rhs;whnf
 refine Zg _ Zpf fun x0 _=>?_
 rcases x0 with x0 | x0
 exact yF yR
 exact yT (Zd (Zk _ _) (yBr (yC Zh1 fun x1 _=>
  yBr (yBr (Zd (Zk _ _) (yBr yR)))))))
def ZlG (r:Bool):D:=(D.bool r)
def ZfC (t0:Bool) (t1:Bool) (t2:Bool) (t3:Bool) (t4:Bool) (a:Zx):(Unit⊕Unit)->Ex×List V×Zc
  | (.inl r)=>(.ret,[(.d (D.bool false))],[])
  | (.inr r)=>(.exit 0,[.bad],[])
theorem ZiT {t0 t1:Bool}{t2 t3 t4:Bool}{a:Zx}:∀(s0:Int) (r:(Unit⊕Unit)),lp (Zas a) s0=some r->lpW ctx 0 [1,3,32,33,34] [2] Zsl [(.ptr 0 0),(zN (a.crew.on.length:Int)),(zW t2 Zt a.deques),(zN (a.deques.length:Int)),(zN s0)] [(zK4 t0 a.crew.on t1 a.crew.left t2 a.deques t3 a.takers t4 a.from_)]=some ((ZfC t0 t1 t2 t3 t4 a) r):=
 lpT (ZfC t0 t1 t2 t3 t4 a) fun s0 _ ih=>yB (yG fun x1 _=>
  yG fun x2 _=>
  yG fun x3 _=>
  yC Zco fun x4 _=>
  yB (Zh rfl)
  (Zd (Zk _ _) (yB (Zh rfl)
  (yB (Zh rfl)
  (yB (Zh rfl)
  (yB (Zh rfl)
  (yB (yB (yF (yG fun x5 _=>
  yB (yB (Zh rfl)
  (yB (Zh rfl)
  (Zi (ih _))))
  (Zi (ih _))))
  (yT (Zh rfl)))
  (yB (yT (Zh rfl))
  (yF (yG fun x6 _=>
  yB (yB (Zh rfl)
  (yB (Zh rfl)
  (Zi (ih _))))
  (Zi (ih _))))))))))))
  (Zh rfl)
theorem ZkN {t0 t1:Bool}{t2 t3 t4:Bool}{a:Zx}:∀r,(Zb1 a)=some r->evD ctx 172 [(.d (zK2 t0 a.crew.on t1 a.crew.left t2 a.deques t3 a.takers t4 a.from_))]=some (ZlG r):=
 evT Zuz rfl rfl <| Zd (Zk _ _) (Zd (Zk _ _) (yBr (Zd (Zk _ _) (yBr (Zd (Zk _ _) (yBr (Zd (Zk _ _) (by
 conv=>rhs;whnf
 refine Zg _ (ZiT _) fun r7 _=>?_
 rcases r7 with r7 | r7
 exact yR
 exact yR))))))))
def Zlo (r:Int):D:=(Zq r)
theorem Zeg {t0 t1:Bool}{t2 t3:Bool}{t4 t5 t6:Bool}{a:Zm}{b:Zx}:∀r,(Za6 a b)=some r->evD ctx 164 [(.d (zK1 t0 a.work t1 a.edges)),(.d (zK2 t2 b.crew.on t3 b.crew.left t4 b.deques t5 b.takers t6 b.from_))]=some (Zlo r):=
 evT Zv5 rfl rfl <| yC ZcE fun x0 _=>
  yB (yC ZkN fun x1 _=>
  yBr yR)
  yR
def ZiN (r:Int):D:=(Zq r)
theorem ZeN {t0 t1:Bool}{t2 t3:Bool}{t4 t5 t6:Bool}{a:ZhC}{b:Zm}{c:Zx}:∀r,(ZbN a b c)=some r->evD ctx 160 [(.d (D.agg [])),(.d (zK1 t0 b.work t1 b.edges)),(.d (zK2 t2 c.crew.on t3 c.crew.left t4 c.deques t5 c.takers t6 c.from_))]=some (ZiN r):=
 evT Zvt rfl rfl <| yC Zeg fun x0 _=>
  yR
def ZnG (r:List Int):D:=(zL true r)
def ZgZ (t0:Bool) (t2:Bool) (a:Zm) (b:List Int):(List Int)->Ex×List V×Zc
  | r=>(.exit 0,[(.sl 0 1)],[(zA r)])
theorem Zj1 {t0 t2:Bool}{a:Zm}{b:List Int}:∀(s0:Int×(List Int)) (r:List Int),lp (Zcf a b) s0=some r->lpW ctx 0 [1,5,9,10,11] [5] ZvC [(zV t2 b),(.sl 0 1),(zV t0 a.work),(zN (a.work.length:Int)),(zN s0.1)] [(zA s0.2)]=some ((ZgZ t0 t2 a b) r):=
 lpT (ZgZ t0 t2 a b) fun s0 _ ih=>yB (yG fun x1 _=>
  yG fun x2 _=>
  yT (ZaA (Zfc Zq s0.2 1) (Zd (Zfb Zq s0.2 [(bif decide (x1<x2) then x1 else x2)]) (Zi (ih _)))
  ZU))
  (Zh rfl)
theorem ZdZ {t0 t1 t2:Bool}{a:Zm}{b:List Int}:∀r,(Zc0 a b)=some r->evD ctx 42 [(.d (zK1 t0 a.work t1 a.edges)),(zV t2 b)]=some (ZnG r):=
 evT ZyX rfl rfl <| Zd (Zk _ _) (Zg _ (Zj1 _) fun r3 _=>
  yR)
def Zm5 (r:Int):D:=(Zq r)
def ZfS (t0:Bool) (t1:Bool) (t2:Bool) (t3:Bool) (a:Zm) (b:List Int) (c:List Int):(Int⊕Int)->Ex×List V×Zc
  | (.inl r)=>(.ret,[(zN 3),(zN r)],[])
  | (.inr r)=>(.exit 0,[.bad,(zN r)],[])
theorem Zjm {t0 t1:Bool}{t2 t3:Bool}{a:Zm}{b:List Int}{c:List Int}:∀(s0:Int×Int) (r:(Int⊕Int)),lp (ZaJ a b c) s0=some r->lpW ctx 0 [1,3,7,10,11,12] [6,7] Zu4 [(zV t2 b),(.ptr 0 0),(zN s0.1),(zV t3 c),(zN (c.length:Int)),(zN s0.2)] [(zK0 t0 a.work t1 a.edges)]=some ((ZfS t0 t1 t2 t3 a b c) r):=
 lpT (ZfS t0 t1 t2 t3 a b c) fun s0 _ ih=>yB (yG fun x1 _=>
  yB (yB (Zi (ih _))
  (yB (yG fun x2 _=>
  yG fun x3 _=>
  yB (Zh rfl)
  (Zi (ih _)))
  (Zi (ih _))))
  (yB (yG fun x4 _=>
  yG fun x5 _=>
  yB (Zh rfl)
  (Zi (ih _)))
  (Zi (ih _))))
  (Zh rfl)
theorem ZaH {t0 t1:Bool}{t2 t3:Bool}{a:Zm}{b:List Int}{c:List Int}:∀r,(ZaC a b c)=some r->evD ctx 43 [(.d (zK1 t0 a.work t1 a.edges)),(zV t2 b),(zV t3 c)]=some (Zm5 r):=
 evT Zyl rfl rfl <| Zd (Zk _ _) (by
 conv=>rhs;whnf
 refine Zg _ (Zjm _) fun r6 _=>?_
 rcases r6 with r6 | r6
 exact yR
 exact yR)
def Zjd (r:Int):D:=(Zq r)
theorem ZeW {t0 t1:Bool}{t2 t3:Bool}{t4 t5 t6:Bool}{a:ZlH}{b:Zm}{c:Zx}:∀r,(Zce a b c)=some r->evD ctx 216 [(.d (D.agg [])),(.d (zK1 t0 b.work t1 b.edges)),(.d (zK2 t2 c.crew.on t3 c.crew.left t4 c.deques t5 c.takers t6 c.from_))]=some (Zjd r):=
 evT Zum rfl rfl <| Zd (Zk _ _) (yBr (Zd (Zk _ _) (yBr (Zd (Zk _ _) (yBr (yC ZcE fun x0 _=>
  yR))))))
def ZmO (r:Int):D:=(Zq r)
def Zgc (t0:Bool) (t1:Bool) (t2:Bool) (t3:Bool) (t4:Bool) (t5:Bool) (t6:Bool) (t7:Bool) (a:Zm) (b:ZK) (x4:List Int):(Unit⊕Unit)->Ex×List V×Zc
  | (.inl r)=>(.ret,[(.ptr 0 0),(.ptr 1 0),(zN 190)],[(zK0 t0 a.work t1 a.edges),(.cells [(.d (D.bool b.stealing)),(zV t2 b.demand),(zN b.state),(zV t3 b.gang.crew.on),(zV t4 b.gang.crew.left),(zW t5 Zt b.gang.deques),(zW t6 Zv b.gang.takers),(zV t7 b.gang.from_)])])
  | (.inr r)=>(.exit 0,[(.ptr 0 0),(.ptr 1 0),.bad],[(zK0 t0 a.work t1 a.edges),(.cells [(.d (D.bool b.stealing)),(zV t2 b.demand),(zN b.state),(zV t3 b.gang.crew.on),(zV t4 b.gang.crew.left),(zW t5 Zt b.gang.deques),(zW t6 Zv b.gang.takers),(zV t7 b.gang.from_)])])
theorem Zjn {t0 t1:Bool}{t2 t3:Bool}{t4 t5:Bool}{t6 t7:Bool}{a:Zm}{b:ZK}{x4:List Int}:∀(s5:Int) (r:(Unit⊕Unit)),lp (ZaL b x4) s5=some r->lpW ctx 0 [2,3,31,32,33] [2,3,4] Znv [(.ptr 0 0),(.ptr 1 0),(zV true x4),(zN (x4.length:Int)),(zN s5)] [(zK0 t0 a.work t1 a.edges),(.cells [(.d (D.bool b.stealing)),(zV t2 b.demand),(zN b.state),(zV t3 b.gang.crew.on),(zV t4 b.gang.crew.left),(zW t5 Zt b.gang.deques),(zW t6 Zv b.gang.takers),(zV t7 b.gang.from_)])]=some ((Zgc t0 t1 t2 t3 t4 t5 t6 t7 a b x4) r):=
 lpT (Zgc t0 t1 t2 t3 t4 t5 t6 t7 a b x4) fun s5 _ ih=>yB (yG fun x6 _=>
  yG fun x7 _=>
  yB (Zh rfl)
  (Zi (ih _)))
  (Zh rfl)
def Ze0 (t0:Bool) (t1:Bool) (t2:Bool) (t3:Bool) (t4:Bool) (t5:Bool) (t6:Bool) (t7:Bool) (a:Zm) (b:ZK) (x11:List Int):(Unit⊕Unit)->Ex×List V×Zc
  | (.inl r)=>(.ret,[(.ptr 0 0),(.ptr 1 0),(zN 190)],[(zK0 t0 a.work t1 a.edges),(.cells [(.d (D.bool b.stealing)),(zV t2 b.demand),(zN b.state),(zV t3 b.gang.crew.on),(zV t4 b.gang.crew.left),(zW t5 Zt b.gang.deques),(zW t6 Zv b.gang.takers),(zV t7 b.gang.from_)])])
  | (.inr r)=>(.exit 0,[(.ptr 0 0),(.ptr 1 0),.bad],[(zK0 t0 a.work t1 a.edges),(.cells [(.d (D.bool b.stealing)),(zV t2 b.demand),(zN b.state),(zV t3 b.gang.crew.on),(zV t4 b.gang.crew.left),(zW t5 Zt b.gang.deques),(zW t6 Zv b.gang.takers),(zV t7 b.gang.from_)])])
theorem ZiB {t0 t1:Bool}{t2 t3:Bool}{t4 t5:Bool}{t6 t7:Bool}{a:Zm}{b:ZK}{x11:List Int}:∀(s12:Int) (r:(Unit⊕Unit)),lp (Zf4 b x11) s12=some r->lpW ctx 0 [2,3,31,32,33] [2,3,4] Znv [(.ptr 0 0),(.ptr 1 0),(zV true x11),(zN (x11.length:Int)),(zN s12)] [(zK0 t0 a.work t1 a.edges),(.cells [(.d (D.bool b.stealing)),(zV t2 b.demand),(zN b.state),(zV t3 b.gang.crew.on),(zV t4 b.gang.crew.left),(zW t5 Zt b.gang.deques),(zW t6 Zv b.gang.takers),(zV t7 b.gang.from_)])]=some ((Ze0 t0 t1 t2 t3 t4 t5 t6 t7 a b x11) r):=
 lpT (Ze0 t0 t1 t2 t3 t4 t5 t6 t7 a b x11) fun s12 _ ih=>yB (yG fun x13 _=>
  yG fun x14 _=>
  yB (Zh rfl)
  (Zi (ih _)))
  (Zh rfl)
def Ze1 (t0:Bool) (t1:Bool) (t2:Bool) (t3:Bool) (t4:Bool) (t5:Bool) (t6:Bool) (t7:Bool) (a:Zm) (b:ZK) (x19:List Int):(Unit⊕Unit)->Ex×List V×Zc
  | (.inl r)=>(.ret,[(.ptr 0 0),(.ptr 1 0),(zN 190)],[(zK0 t0 a.work t1 a.edges),(.cells [(.d (D.bool b.stealing)),(zV t2 b.demand),(zN b.state),(zV t3 b.gang.crew.on),(zV t4 b.gang.crew.left),(zW t5 Zt b.gang.deques),(zW t6 Zv b.gang.takers),(zV t7 b.gang.from_)])])
  | (.inr r)=>(.exit 0,[(.ptr 0 0),(.ptr 1 0),.bad],[(zK0 t0 a.work t1 a.edges),(.cells [(.d (D.bool b.stealing)),(zV t2 b.demand),(zN b.state),(zV t3 b.gang.crew.on),(zV t4 b.gang.crew.left),(zW t5 Zt b.gang.deques),(zW t6 Zv b.gang.takers),(zV t7 b.gang.from_)])])
theorem Zh3 {t0 t1:Bool}{t2 t3:Bool}{t4 t5:Bool}{t6 t7:Bool}{a:Zm}{b:ZK}{x19:List Int}:∀(s20:Int) (r:(Unit⊕Unit)),lp (Zf9 b x19) s20=some r->lpW ctx 0 [2,3,31,32,33] [2,3,4] Znv [(.ptr 0 0),(.ptr 1 0),(zV true x19),(zN (x19.length:Int)),(zN s20)] [(zK0 t0 a.work t1 a.edges),(.cells [(.d (D.bool b.stealing)),(zV t2 b.demand),(zN b.state),(zV t3 b.gang.crew.on),(zV t4 b.gang.crew.left),(zW t5 Zt b.gang.deques),(zW t6 Zv b.gang.takers),(zV t7 b.gang.from_)])]=some ((Ze1 t0 t1 t2 t3 t4 t5 t6 t7 a b x19) r):=
 lpT (Ze1 t0 t1 t2 t3 t4 t5 t6 t7 a b x19) fun s20 _ ih=>yB (yG fun x21 _=>
  yG fun x22 _=>
  yB (Zh rfl)
  (Zi (ih _)))
  (Zh rfl)
def ZeY (t0:Bool) (t1:Bool) (t2:Bool) (t3:Bool) (t4:Bool) (t5:Bool) (t6:Bool) (t7:Bool) (a:Zm) (b:ZK) (x26:List Int):(Unit⊕Unit)->Ex×List V×Zc
  | (.inl r)=>(.ret,[(.ptr 0 0),(.ptr 1 0),(zN 190)],[(zK0 t0 a.work t1 a.edges),(.cells [(.d (D.bool b.stealing)),(zV t2 b.demand),(zN b.state),(zV t3 b.gang.crew.on),(zV t4 b.gang.crew.left),(zW t5 Zt b.gang.deques),(zW t6 Zv b.gang.takers),(zV t7 b.gang.from_)])])
  | (.inr r)=>(.exit 0,[(.ptr 0 0),(.ptr 1 0),.bad],[(zK0 t0 a.work t1 a.edges),(.cells [(.d (D.bool b.stealing)),(zV t2 b.demand),(zN b.state),(zV t3 b.gang.crew.on),(zV t4 b.gang.crew.left),(zW t5 Zt b.gang.deques),(zW t6 Zv b.gang.takers),(zV t7 b.gang.from_)])])
theorem Zh7 {t0 t1:Bool}{t2 t3:Bool}{t4 t5:Bool}{t6 t7:Bool}{a:Zm}{b:ZK}{x26:List Int}:∀(s27:Int) (r:(Unit⊕Unit)),lp (Zah b x26) s27=some r->lpW ctx 0 [2,3,31,32,33] [2,3,4] Znv [(.ptr 0 0),(.ptr 1 0),(zV true x26),(zN (x26.length:Int)),(zN s27)] [(zK0 t0 a.work t1 a.edges),(.cells [(.d (D.bool b.stealing)),(zV t2 b.demand),(zN b.state),(zV t3 b.gang.crew.on),(zV t4 b.gang.crew.left),(zW t5 Zt b.gang.deques),(zW t6 Zv b.gang.takers),(zV t7 b.gang.from_)])]=some ((ZeY t0 t1 t2 t3 t4 t5 t6 t7 a b x26) r):=
 lpT (ZeY t0 t1 t2 t3 t4 t5 t6 t7 a b x26) fun s27 _ ih=>yB (yG fun x28 _=>
  yG fun x29 _=>
  yB (Zh rfl)
  (Zi (ih _)))
  (Zh rfl)
theorem ZhE {t0 t1:Bool}{t2 t3:Bool}{t4 t5:Bool}{t6 t7:Bool}{a:Zm}{b:ZK}:∀r,(ZbY a b)=some r->evD ctx 17 [(.d (zK1 t0 a.work t1 a.edges)),(.d (D.agg [(D.bool b.stealing),(zL t2 b.demand),(Zq b.state),(zL t3 b.gang.crew.on),(zL t4 b.gang.crew.left),(zM t5 Zt b.gang.deques),(zM t6 Zv b.gang.takers),(zL t7 b.gang.from_)]))]=some (ZmO r):=
 evT ZyW rfl rfl <| yC ZfE fun x0 _=>
  yBr (yC Zlt fun x1 _=>
  yB (yB ((by
 conv=>rhs;whnf
 refine yC Zfe fun x2 _=>?_
 rcases x2 with x2 | x2
 exact yC ZeN fun x3 _=>
  yBr (yC ZdZ fun x4 _=>
  Zd (Zk _ _) (by
 conv=>rhs;whnf
 refine Zg _ (Zjn _) fun r8 _=>?_
 rcases r8 with r8 | r8
 exact yR
 exact yC ZaH fun x9 _=>
  yBr yR))
 exact yC ZeW fun x10 _=>
  yBr (yC ZdZ fun x11 _=>
  Zd (Zk _ _) (by
 conv=>rhs;whnf
 refine Zg _ (ZiB _) fun r15 _=>?_
 rcases r15 with r15 | r15
 exact yR
 exact yC ZaH fun x16 _=>
  yBr yR))))
  (by
 conv=>rhs;whnf
 refine yC Zfe fun x17 _=>?_
 rcases x17 with x17 | x17
 exact yC ZeN fun x18 _=>
  yBr (yC ZdZ fun x19 _=>
  Zd (Zk _ _) (by
 conv=>rhs;whnf
 refine Zg _ (Zh3 _) fun r23 _=>?_
 rcases r23 with r23 | r23
 exact yR
 exact yC ZaH fun x24 _=>
  yBr yR))
 exact yC ZeW fun x25 _=>
  yBr (yC ZdZ fun x26 _=>
  Zd (Zk _ _) (by
 conv=>rhs;whnf
 refine Zg _ (Zh7 _) fun r30 _=>?_
 rcases r30 with r30 | r30
 exact yR
 exact yC ZaH fun x31 _=>
  yBr yR))))
  yR)
def Zfu (t0:Bool) (a:List Int):Unit->V×Zc
  | r=>((.sl 0 1),[(zA a)])
theorem Zl {t0:Bool}{a:List Int}:∀r,(Zj a)=some r->evW ctx 45 [(zV t0 a)] []=some ((Zfu t0 a) r):=
 evS Zyh rfl rfl <| Zf6 (Zcp (f:=Zq) (fun _=>⟨rfl,rfl⟩) a 0) (ZaA (ZcI Zq a) (Zd (rfl:_=List.map Zq a) yR)
  ZU)
def Zem (t0:Bool) (a:List Ze):Unit->V×Zc
  | r=>((.sl 0 6),[(.arr 6 (List.map Zv a))])
theorem Zea {t0:Bool}{a:List Ze}:∀r,(Zap a)=some r->evW ctx 181 [(zW t0 Zv a)] []=some ((Zem t0 a) r):=
 evS Zv8 rfl rfl <| ZaA (Zr4 Zv a) (Zf6 (Zcp (f:=Zv) (fun _=>⟨rfl,rfl⟩) a 0) (ZaA (ZcI Zv a) (Zd (rfl:_=List.map Zv a) yR)
  ZU))
  ZU
def Zen (t0:Bool) (a:List Za):Unit->V×Zc
  | r=>((.sl 0 3),[(.arr 3 (List.map Zt a))])
theorem Zd9 {t0:Bool}{a:List Za}:∀r,(Zan a)=some r->evW ctx 182 [(zW t0 Zt a)] []=some ((Zen t0 a) r):=
 evS Zvo rfl rfl <| ZaA (Zr4 Zt a) (Zf6 (Zcp (f:=Zt) (fun _=>⟨rfl,rfl⟩) a 0) (ZaA (ZcI Zt a) (Zd (rfl:_=List.map Zt a) yR)
  ZU))
  ZU
def ZnM (t0:Bool) (t1:Bool) (t2:Bool) (t3:Bool) (t4:Bool) (a:Zx):(List Za)->V×Zc
  | r=>((.agg [(.sl 0 1),(.sl 1 1),(.sl 2 3),(.sl 3 6),(.sl 4 1)]),[(zA a.crew.on),(zA a.crew.left),(.arr 3 (List.map Zt r)),(.arr 6 (List.map Zv a.takers)),(zA a.from_)])
def ZgL (a:Zx):(List Za)->Ex×List V×Zc
  | r=>(.exit 0,[(.ptr 0 0),(.ptr 1 0)],[(.cells [(.sl 2 1),(.sl 3 1),(.sl 4 3),(.sl 5 6),(.sl 6 1)]),(.cells [(.sl 7 1),(.sl 8 1),(.sl 9 3),(.sl 10 6),(.sl 11 1)]),(zA a.crew.on),(zA a.crew.left),(.arr 3 (List.map Zt r)),(.arr 6 (List.map Zv a.takers)),(zA a.from_),(.arr 1 []),(.arr 1 []),(.arr 3 []),(.arr 6 []),(.arr 1 [])])
theorem ZjO {a:Zx}:∀(s5:Int×(List Za)) (r:List Za),lp (Zcl a) s5=some r->lpW ctx 0 [1,2,30,31] [1,2] Zr3 [(.ptr 0 0),(.ptr 1 0),(zN (a.deques.length:Int)),(zN s5.1)] [(.cells [(.sl 2 1),(.sl 3 1),(.sl 4 3),(.sl 5 6),(.sl 6 1)]),(.cells [(.sl 7 1),(.sl 8 1),(.sl 9 3),(.sl 10 6),(.sl 11 1)]),(zA a.crew.on),(zA a.crew.left),(.arr 3 (List.map Zt s5.2)),(.arr 6 (List.map Zv a.takers)),(zA a.from_),(.arr 1 []),(.arr 1 []),(.arr 3 []),(.arr 6 []),(.arr 1 [])]=some ((ZgL a) r):=
 lpT (ZgL a) fun s5 _ ih=>yB (yG fun x6 hx6=>
  Zu (Zay rfl hx6) (Zg _ Zl fun x7 _=>
  Zu (ZeT rfl hx6) (Zu (Zay rfl hx6) (Zd (Zdd Zt s5.2 s5.1.toNat x6) (Zi (ih _))))))
  (Zh rfl)
theorem Ziu {t0 t1:Bool}{t2 t3 t4:Bool}{a:Zx}:∀r,(ZeA a)=some r->evW ctx 173 [(.d (zK2 t0 a.crew.on t1 a.crew.left t2 a.deques t3 a.takers t4 a.from_))] []=some ((ZnM t0 t1 t2 t3 t4 a) r):=
 evS ZvN rfl rfl <| Zg _ Zl fun x0 _=>
  Zg _ Zl fun x1 _=>
  Zg _ Zea fun x2 _=>
  Zg _ Zl fun x3 _=>
  Zg _ Zd9 fun x4 _=>
  Zd (Zk _ _) (Zg _ (ZjO _) fun r8 _=>
  yR)
def Zg7 (r:Bool):D:=(D.bool r)
theorem ZgM {t0:Bool}{a:Za}:∀r,(Zaa a)=some r->evD ctx 197 [(.d (zK6 t0 a.ring a.top a.bottom))]=some (Zg7 r):=
 evT ZuD rfl rfl <| yBr yR
def Zbe (r:Int):D:=(Zq r)
def ZZ (t0:Bool) (a:List Za):(Int⊕Unit)->Ex×List V×Zc
  | (.inl r)=>(.ret,[(zN r)],[])
  | (.inr r)=>(.exit 0,[.bad],[])
theorem ZaX {t0:Bool}{a:List Za}:∀(s0:Int) (r:(Int⊕Unit)),lp (Z0 a (fun z0=>Zaa z0)) s0=some r->lpW ctx 0 [0,1,7,8] [4] Zsm [(zW t0 Zt a),(.d (D.fn 197 [])),(zN (a.length:Int)),(zN s0)] []=some ((ZZ t0 a) r):=
 lpT (ZZ t0 a) fun s0 _ ih=>yB (yG fun x1 _=>
  yC ZgM fun x2 _=>
  yB (Zh rfl)
  (Zi (ih _)))
  (Zh rfl)
theorem Za8 {t0:Bool}{a:List Za}:∀r,(Zaz a (fun z0=>Zaa z0))=some r->evD ctx 209 [(zW t0 Zt a),(.d (D.fn 197 []))]=some (Zbe r):=
 evT Zvp rfl rfl <| Zd (Zk _ _) (by
 conv=>rhs;whnf
 refine Zg _ (ZaX _) fun r3 _=>?_
 rcases r3 with r3 | r3
 exact yR
 exact yR)
def Za3 (r:Bool):D:=(D.bool r)
theorem ZaY {t0:Bool}{a:List Za}:∀r,(ZY a (fun z0=>Zaa z0))=some r->evD ctx 196 [(zW t0 Zt a),(.d (D.fn 197 []))]=some (Za3 r):=
 evT ZuC rfl rfl <| yC Za8 fun x0 _=>
  yBr yR
def ZhQ (r:List Int):D:=(zL true r)
def ZdB (t0:Bool) (t1:Bool) (t2:Bool) (t3:Bool) (t4:Bool) (t5:Bool) (t6:Bool) (a0:List Int) (a1:List Int) (a2:List Za) (a3:List Ze) (a4:List Int) (a5:List Int) (a6:List Zo) (a7:Int):(List Int)->Ex×List V×Zc
  | r=>(.exit 0,[(.sl 0 1)],[(zA r)])
theorem Zgm {t0 t1:Bool}{t2 t3:Bool}{t4 t5 t6:Bool}{a0:List Int}{a1:List Int}{a2:List Za}{a3:List Ze}{a4:List Int}{a5:List Int}{a6:List Zo}{a7:Int}:∀(s1:Int×(List Int)) (r:List Int),lp (ZaR a0) s1=some r->lpW ctx 0 [0,3,4,18,19,20] [4] Zpn [(.d (zK8 t0 a0 t1 a1 t2 a2 t3 a3 t4 a4 t5 a5 t6 a6 a7)),(.d (D.bool true)),(.sl 0 1),(zV t0 a0),(zN (a0.length:Int)),(zN s1.1)] [(zA s1.2)]=some ((ZdB t0 t1 t2 t3 t4 t5 t6 a0 a1 a2 a3 a4 a5 a6 a7) r):=
 lpT (ZdB t0 t1 t2 t3 t4 t5 t6 a0 a1 a2 a3 a4 a5 a6 a7) fun s1 _ ih=>yB (yG fun x2 _=>
  yB (yT (ZaA (Zfc Zq s1.2 1) (Zd (Zfb Zq s1.2 [s1.1]) (Zi (ih _)))
  ZU))
  (Zi (ih _)))
  (Zh rfl)
def Zdj (t0:Bool) (t1:Bool) (t2:Bool) (t3:Bool) (t4:Bool) (t5:Bool) (t6:Bool) (a0:List Int) (a1:List Int) (a2:List Za) (a3:List Ze) (a4:List Int) (a5:List Int) (a6:List Zo) (a7:Int):(List Int)->Ex×List V×Zc
  | r=>(.exit 0,[(.sl 0 1)],[(zA r)])
theorem ZfM {t0 t1:Bool}{t2 t3:Bool}{t4 t5 t6:Bool}{a0:List Int}{a1:List Int}{a2:List Za}{a3:List Ze}{a4:List Int}{a5:List Int}{a6:List Zo}{a7:Int}:∀(s4:Int×(List Int)) (r:List Int),lp (Zav a0 a3) s4=some r->lpW ctx 0 [0,3,4,18,19,20] [4] Zpn [(.d (zK8 t0 a0 t1 a1 t2 a2 t3 a3 t4 a4 t5 a5 t6 a6 a7)),(.d (D.bool false)),(.sl 0 1),(zV t0 a0),(zN (a0.length:Int)),(zN s4.1)] [(zA s4.2)]=some ((Zdj t0 t1 t2 t3 t4 t5 t6 a0 a1 a2 a3 a4 a5 a6 a7) r):=
 lpT (Zdj t0 t1 t2 t3 t4 t5 t6 a0 a1 a2 a3 a4 a5 a6 a7) fun s4 _ ih=>yB (yG fun x5 _=>
  yB (yG fun x6 _=>
  yB (yT (ZaA (Zfc Zq s4.2 1) (Zd (Zfb Zq s4.2 [s4.1]) (Zi (ih _)))
  ZU))
  (Zi (ih _)))
  (Zi (ih _)))
  (Zh rfl)
theorem Zec {t0 t1:Bool}{t2 t3:Bool}{t4 t5 t6:Bool}{a0:List Int}{a1:List Int}{a2:List Za}{a3:List Ze}{a4:List Int}{a5:List Int}{a6:List Zo}{a7:Int}:∀r,(ZaV a0 a2 a3)=some r->evD ctx 183 [(.d (zK8 t0 a0 t1 a1 t2 a2 t3 a3 t4 a4 t5 a5 t6 a6 a7))]=some (ZhQ r):=
 evT ZvI rfl rfl <| yC ZaY fun x0 _=>
  yB (Zd (Zk _ _) (Zg _ (Zgm _) fun r3 _=>
  yR))
  (Zd (Zk _ _) (Zg _ (ZfM _) fun r7 _=>
  yR))
def ZhP (r:Bool):D:=(D.bool r)
theorem Zhb {t0 t1:Bool}{t2 t3:Bool}{t4 t5 t6:Bool}{a:Int}{b0:List Int}{b1:List Int}{b2:List Za}{b3:List Ze}{b4:List Int}{b5:List Int}{b6:List Zo}{b7:Int}:∀r,(Zaf a b7)=some r->evD ctx 198 [(zN a),(.d (D.rptr [(zK8 t0 b0 t1 b1 t2 b2 t3 b3 t4 b4 t5 b5 t6 b6 b7)]))]=some (ZhP r):=
 evT ZvW rfl rfl <| yBr yR
def ZbA (r:Int):D:=(Zq r)
def Z7 (t0:Bool) (t1:Bool) (t2:Bool) (t3:Bool) (t4:Bool) (t5:Bool) (t6:Bool) (t7:Bool) (a:List Int) (b0:List Int) (b1:List Int) (b2:List Za) (b3:List Ze) (b4:List Int) (b5:List Int) (b6:List Zo) (b7:Int):(Int⊕Unit)->Ex×List V×Zc
  | (.inl r)=>(.ret,[(zN r)],[])
  | (.inr r)=>(.exit 0,[.bad],[])
theorem Zbf {t0 t1:Bool}{t2 t3:Bool}{t4 t5:Bool}{t6 t7:Bool}{a:List Int}{b0:List Int}{b1:List Int}{b2:List Za}{b3:List Ze}{b4:List Int}{b5:List Int}{b6:List Zo}{b7:Int}:∀(s0:Int) (r:(Int⊕Unit)),lp (Zs a (fun z0=>Zaf z0 b7)) s0=some r->lpW ctx 0 [0,1,7,8] [4] Zml [(zV t0 a),(.d (D.fn 198 [(D.rptr [(zK8 t1 b0 t2 b1 t3 b2 t4 b3 t5 b4 t6 b5 t7 b6 b7)])])),(zN (a.length:Int)),(zN s0)] []=some ((Z7 t0 t1 t2 t3 t4 t5 t6 t7 a b0 b1 b2 b3 b4 b5 b6 b7) r):=
 lpT (Z7 t0 t1 t2 t3 t4 t5 t6 t7 a b0 b1 b2 b3 b4 b5 b6 b7) fun s0 _ ih=>yB (yG fun x1 _=>
  yC Zhb fun x2 _=>
  yB (Zh rfl)
  (Zi (ih _)))
  (Zh rfl)
theorem Zbs {t0 t1:Bool}{t2 t3:Bool}{t4 t5:Bool}{t6 t7:Bool}{a:List Int}{b0:List Int}{b1:List Int}{b2:List Za}{b3:List Ze}{b4:List Int}{b5:List Int}{b6:List Zo}{b7:Int}:∀r,(ZB a (fun z0=>Zaf z0 b7))=some r->evD ctx 99 [(zV t0 a),(.d (D.fn 198 [(D.rptr [(zK8 t1 b0 t2 b1 t3 b2 t4 b3 t5 b4 t6 b5 t7 b6 b7)])]))]=some (ZbA r):=
 evT ZsQ rfl rfl <| Zd (Zk _ _) (by
 conv=>rhs;whnf
 refine Zg _ (Zbf _) fun r3 _=>?_
 rcases r3 with r3 | r3
 exact yR
 exact yR)
def ZiO (r:Int):D:=(Zq r)
theorem ZhT {t0 t1:Bool}{t2 t3:Bool}{t4 t5:Bool}{t6 t7 t8:Bool}{a0:List Int}{a1:List Int}{a2:List Za}{a3:List Ze}{a4:List Int}{a5:List Int}{a6:List Zo}{a7:Int}{b:List Int}{c:List Int}{d:Int}:∀r,(ZbW a7 b c d)=some r->evD ctx 184 [(.d (zK8 t0 a0 t1 a1 t2 a2 t3 a3 t4 a4 t5 a5 t6 a6 a7)),(zV t7 b),(zV t8 c),(zN d)]=some (ZiO r):=
 evT ZtP rfl rfl <| Zd (Zk _ _) (yB (yG fun x0 _=>
  Zd (Zk _ _) (yBn (yG fun x1 _=>
  yR)))
  (yC Zbs fun x2 _=>
  yG fun x3 _=>
  yR))
def Zkz (r:Bool):D:=(D.bool r)
theorem ZcU {a:Int}:∀r,(Zbt a)=some r->evD ctx 213 [(zN a)]=some (Zkz r):=
 evT Zvr rfl rfl <| yBr (yBr yR)
def Zm1 (r:Bool):D:=(D.bool r)
theorem ZlI {a:Ze}:∀r,(ZdO a)=some r->evD ctx 210 [(.d (D.agg [(D.bool a.steal),(Zq a.at_),(Zq a.top),(Zq a.bottom),(Zq a.got),(Zq a.end_)]))]=some (Zm1 r):=
 evT Zv1 rfl rfl <| yB (yB (yB (yB (yBr (yC ZcU fun x0 _=>
  yBr (yC ZcU fun x1 _=>
  yBr yR)))
  yR)
  yR)
  yR)
  (yB (yB (yB (yBr (yC ZcU fun x2 _=>
  yBr (yC ZcU fun x3 _=>
  yBr yR)))
  yR)
  yR)
  yR)
def ZnC (t0:Bool) (a:Za):Unit->V×Zc
  | r=>((.agg [(.sl 0 1),(zN a.top),(zN a.bottom)]),[(zA a.ring)])
theorem Zh6 {t0:Bool}{a:Za}:∀r,(ZeB a)=some r->evW ctx 193 [(.d (zK6 t0 a.ring a.top a.bottom))] []=some ((ZnC t0 a) r):=
 evS Zus rfl rfl <| Zg _ Zl fun x0 _=>
  yR
def ZlE (r:Int):D:=(Zq r)
theorem Zdg {t0:Bool}{a:Za}{b:Int}:∀r,(Zb0 a b)=some r->evD ctx 194 [(.d (zK6 t0 a.ring a.top a.bottom)),(zN b)]=some (ZlE r):=
 evT Zuc rfl rfl <| Zd (Zk _ _) (yBn yR)
def Znk (mA:Int) (mC:Int) (mB:Bool) (mK:Int) (mI:Int) (mJ:Int) (mL:Int) (mM:Int) (mD:List Int):(Unit⊕Unit)->V×Zc
  | (.inl r)=>((.d (D.bool false)),[(zK7 mA mC),(.cells [(.d (D.bool mB)),(zN mK),(zN mI),(zN mJ),(zN mL),(zN mM)]),(zA mD)])
  | (.inr r)=>((.d (D.bool true)),[(zK7 (w64 (mA+1)) mC),(.cells [(.d (D.bool mB)),(zN mK),(zN mI),(zN mJ),(zN mL),(zN mM)]),(zA mD)])
theorem ZhG {mA mC:Int}{mB:Bool}{mK mI:Int}{mJ mL mM:Int}{mD:List Int}:∀r,(ZdT mA mI)=some r->evW ctx 214 [(.ptr 0 0),(.ptr 1 0)] [(zK7 mA mC),(.cells [(.d (D.bool mB)),(zN mK),(zN mI),(zN mJ),(zN mL),(zN mM)]),(zA mD)]=some ((Znk mA mC mB mK mI mJ mL mM mD) r):=
 evS Zu6 rfl rfl <| yBr yR
def ZlD (mA:Int) (mC:Int) (mB:Bool) (mK:Int) (mI:Int) (mJ:Int) (mL:Int) (mM:Int) (mD:List Int):(Int×Int×Int×Int×Int×Int)->V×Zc
  | r=>((.d (D.tup [])),[(zK7 r.1 mC),(.cells [(.d (D.bool mB)),(zN r.2.1),(zN r.2.2.1),(zN r.2.2.2.1),(zN r.2.2.2.2.1),(zN r.2.2.2.2.2)]),(zA mD)])
theorem ZkP {mA mC:Int}{mB:Bool}{mK mI:Int}{mJ mL mM:Int}{mD:List Int}:∀r,(Zeo mA mC mK mI mJ mL mM mD)=some r->evW ctx 211 [(.ptr 0 0),(.ptr 1 0)] [(zK7 mA mC),(.cells [(.d (D.bool mB)),(zN mK),(zN mI),(zN mJ),(zN mL),(zN mM)]),(zA mD)]=some ((ZlD mA mC mB mK mI mJ mL mM mD) r):=
 evS Zu0 rfl rfl <| yBr (yB (yBr yR)
  (yB (yC Zdg fun x0 _=>
  yG fun x1 hx1=>
  Zu (Zay rfl hx1) yR)
  (by
 conv=>rhs;whnf
 refine Zg _ ZhG fun x2 _=>?_
 rcases x2 with x2 | x2
 exact yR
 exact yR)))
def ZnS (mA:Int) (mC:Int) (mB:Bool) (mK:Int) (mI:Int) (mJ:Int) (mL:Int) (mM:Int) (mD:List Int):(Int×Int×Int×Int×Int×Int×Int)->V×Zc
  | r=>((.d (D.tup [])),[(zK7 r.1 r.2.1),(.cells [(.d (D.bool mB)),(zN r.2.2.1),(zN r.2.2.2.1),(zN r.2.2.2.2.1),(zN r.2.2.2.2.2.1),(zN r.2.2.2.2.2.2)]),(zA mD)])
theorem ZmG {mA mC:Int}{mB:Bool}{mK mI:Int}{mJ mL mM:Int}{mD:List Int}:∀r,(ZfZ mA mC mK mI mJ mL mM mD)=some r->evW ctx 212 [(.ptr 0 0),(.ptr 1 0)] [(zK7 mA mC),(.cells [(.d (D.bool mB)),(zN mK),(zN mI),(zN mJ),(zN mL),(zN mM)]),(zA mD)]=some ((ZnS mA mC mB mK mI mJ mL mM mD) r):=
 evS Zvn rfl rfl <| yBr (yB (yB (yC Zdg fun x0 _=>
  yG fun x1 hx1=>
  Zu (Zay rfl hx1) yR)
  (yBr yR))
  (yB ((by
 conv=>rhs;whnf
 refine Zg _ ZhG fun x2 _=>?_
 rcases x2 with x2 | x2
 exact yR
 exact yC Zdg fun x3 _=>
  yG fun x4 hx4=>
  Zu (Zay rfl hx4) yR))
  (yBr yR)))
def Znh (r:(Za×Ze×Int)):D:=(D.tup [(zK6 true r.1.ring r.1.top r.1.bottom),(D.agg [(D.bool r.2.1.steal),(Zq r.2.1.at_),(Zq r.2.1.top),(Zq r.2.1.bottom),(Zq r.2.1.got),(Zq r.2.1.end_)]),(Zq r.2.2)])
theorem Zln {t0:Bool}{a:Za}{b:Ze}:∀r,(Zab a b)=some r->evD ctx 199 [(.d (zK6 t0 a.ring a.top a.bottom)),(.d (D.agg [(D.bool b.steal),(Zq b.at_),(Zq b.top),(Zq b.bottom),(Zq b.got),(Zq b.end_)]))]=some (Znh r):=
 evT ZuL rfl rfl <| yC Zco fun x0 _=>
  yBr (yC ZlI fun x1 _=>
  yB (Zg _ Zh6 fun x2 _=>
  yB (Zg _ ZkP fun x3 _=>
  yC Zco fun x4 _=>
  yBr yR)
  (Zg _ ZmG fun x5 _=>
  yC Zco fun x6 _=>
  yBr yR))
  yR)
def Zms (r:List Int):D:=(zL true r)
def Zgh (t0:Bool) (t1:Bool) (t2:Bool) (t3:Bool) (a:Zm) (b:Zz):(List Int)->Ex×List V×Zc
  | r=>(.exit 0,[(.sl 0 1)],[(zA r)])
theorem Zjj {t0 t1:Bool}{t2 t3:Bool}{a:Zm}{b:Zz}:∀(s0:Int×(List Int)) (r:List Int),lp (ZcC a b) s0=some r->lpW ctx 0 [2,3,5,9,10] [5] ZrY [(.ptr 0 0),(.ptr 1 0),(.sl 2 1),(zN (b.left.length:Int)),(zN s0.1)] [(zK0 t0 a.work t1 a.edges),(zK9 t2 b.on t3 b.left),(zA s0.2)]=some ((Zgh t0 t1 t2 t3 a b) r):=
 lpT (Zgh t0 t1 t2 t3 a b) fun s0 _ ih=>yB (yC Zc4 fun x1 _=>
  yB (Zi (ih _))
  (yC ZW fun x2 _=>
  yB (Zi (ih _))
  (yC Zfo fun x3 _=>
  yB (yT (ZaA (Zfc Zq s0.2 1) (Zd (Zfb Zq s0.2 [s0.1]) (Zi (ih _)))
  ZU))
  (Zi (ih _)))))
  (Zh rfl)
theorem ZhF {t0 t1:Bool}{t2 t3:Bool}{a:Zm}{b:Zz}:∀r,(ZdS a b)=some r->evD ctx 177 [(.d (zK1 t0 a.work t1 a.edges)),(.d (zK5 t2 b.on t3 b.left))]=some (Zms r):=
 evT ZtT rfl rfl <| Zd (Zk _ _) (Zg _ (Zjj _) fun r4 _=>
  yR)
def Zmc (r:List Int):D:=(zL true r)
theorem ZhI {t0 t1:Bool}{t2 t3:Bool}{a:Zm}{b:Zz}:∀r,(ZbV a b)=some r->evD ctx 169 [(.d (zK1 t0 a.work t1 a.edges)),(.d (zK5 t2 b.on t3 b.left))]=some (Zmc r):=
 evT ZuV rfl rfl <| yC ZcE fun x0 _=>
  yBr (yC ZhF fun x1 _=>
  yR)
def Ziw (t0:Bool) (t1:Bool) (b:Int) (c:Int) (mA:List Int) (mC:List Zo) (mH:Int) (mB:List Int) (mD:List Int) (mG:List Za) (mE:List Ze) (mF:List Int):(List Ze)->V×Zc
  | r=>((.d (D.tup [])),[(zK3 t0 mA t1 mC mH),(zA mB),(zA mD),(.arr 3 (List.map Zt mG)),(.arr 6 (List.map Zv r)),(zA (List.set mF b.toNat c))])
theorem ZcR {t0 t1:Bool}{b c:Int}{mA:List Int}{mC:List Zo}{mH:Int}{mB:List Int}{mD:List Int}{mG:List Za}{mE:List Ze}{mF:List Int}:∀r,(Za1 b c mE mF)=some r->evW ctx 200 [(.ptr 0 0),(zN b),(zN c)] [(zK3 t0 mA t1 mC mH),(zA mB),(zA mD),(.arr 3 (List.map Zt mG)),(.arr 6 (List.map Zv mE)),(zA mF)]=some ((Ziw t0 t1 b c mA mC mH mB mD mG mE mF) r):=
 evS Zvw rfl rfl <| yG fun x0 hx0=>
  Zu (Zay rfl hx0) (Zd (Zdd Zq mF b.toNat c) (yB (yG fun x1 hx1=>
  Zu (Zay rfl hx1) (Zd (Zdd Zv mE b.toNat (Ze.mk true 0 0 0 0 0)) yR))
  (yG fun x2 hx2=>
  Zu (Zay rfl hx2) (Zd (Zdd Zv mE b.toNat (Ze.mk false 0 0 0 0 0)) yR))))
def ZiS (t0:Bool) (t1:Bool) (b:Int) (mA:List Int) (mC:List Zo) (mH:Int) (mB:List Int) (mD:List Int) (mG:List Za) (mE:List Ze) (mF:List Int):(Int×(List Int)×(List Za)×(List Ze)×(List Int))->V×Zc
  | r=>((zN r.1),[(zK3 t0 mA t1 mC mH),(zA r.2.1),(zA mD),(.arr 3 (List.map Zt r.2.2.1)),(.arr 6 (List.map Zv r.2.2.2.1)),(zA r.2.2.2.2)])
theorem Zis {t0 t1:Bool}{b:Int}{mA:List Int}{mC:List Zo}{mH:Int}{mB:List Int}{mD:List Int}{mG:List Za}{mE:List Ze}{mF:List Int}:∀r,(ZC b mA mC mB mD mG mE mF)=some r->evW ctx 185 [(.ptr 0 0),(zN b)] [(zK3 t0 mA t1 mC mH),(zA mB),(zA mD),(.arr 3 (List.map Zt mG)),(.arr 6 (List.map Zv mE)),(zA mF)]=some ((ZiS t0 t1 b mA mC mH mB mD mG mE mF) r):=
 evS ZvH rfl rfl <| Zd (Zk _ _) (yG fun x0 hx0=>
  Zu (Zay rfl hx0) (yBn (yG fun x1 hx1=>
  Zu (Zay rfl hx1) (yG fun x2 hx2=>
  Zu (Zay rfl hx2) (yC Zln fun x3 _=>
  yBr (Zu (ZeT rfl hx1) (Zu (Zay rfl hx1) (Zd (Zdd Zt mG (Int.tmod (w64 (b+x0)) (mB.length:Int)).toNat x3.1) (Zu (ZeT rfl hx2) (Zu (Zay rfl hx2) (Zd (Zdd Zv mE b.toNat x3.2.1) (yB (yC ZhI fun x4 _=>
  yC ZW fun x5 _=>
  yB (yG fun x6 hx6=>
  Zu (Zay rfl hx6) (Zd (Zdd Zq mB b.toNat x3.2.1.got) (Zg _ ZcR fun x7 _=>
  yR)))
  yR)
  (yB (Zu (ZeT rfl hx0) (Zu (Zay rfl hx0) (yBn (Zg _ ZcR fun x8 _=>
  yR))))
  (yB (Zu (ZeT rfl hx0) (Zu (Zay rfl hx0) (yBn (Zg _ ZcR fun x9 _=>
  yR))))
  yR))))))))))))))
def ZiQ (t0:Bool) (t1:Bool) (t2:Bool) (b:List Int) (mA:List Int) (mC:List Zo) (mH:Int) (mB:List Int) (mD:List Int) (mG:List Za) (mE:List Ze) (mF:List Int):(Int×Int×Int×(List Int)×(List Za)×(List Ze)×(List Int))->V×Zc
  | r=>((.d (D.tup [(Zq r.1),(Zq r.2.1)])),[(zK3 t1 mA t2 mC r.2.2.1),(zA r.2.2.2.1),(zA mD),(.arr 3 (List.map Zt r.2.2.2.2.1)),(.arr 6 (List.map Zv r.2.2.2.2.2.1)),(zA r.2.2.2.2.2.2)])
def Zd1 (t0:Bool) (t1:Bool) (t2:Bool) (b:List Int) (mA:List Int) (mC:List Zo) (mD:List Int):((Int×Int×Int×(List Int)×(List Za)×(List Ze)×(List Int))⊕(Int×Int×(List Int)×(List Za)×(List Ze)×(List Int)))->Ex×List V×Zc
  | (.inl r)=>(.ret,[(zN 0),(zN r.1),(zN r.2.1)],[(zK3 t1 mA t2 mC r.2.2.1),(zA r.2.2.2.1),(zA mD),(.arr 3 (List.map Zt r.2.2.2.2.1)),(.arr 6 (List.map Zv r.2.2.2.2.2.1)),(zA r.2.2.2.2.2.2)])
  | (.inr r)=>(.exit 0,[.bad,.bad,(zN r.1)],[(zK3 t1 mA t2 mC r.2.1),(zA r.2.2.1),(zA mD),(.arr 3 (List.map Zt r.2.2.2.1)),(.arr 6 (List.map Zv r.2.2.2.2.1)),(zA r.2.2.2.2.2)])
theorem ZgW {t0 t1 t2:Bool}{b:List Int}{mA:List Int}{mC:List Zo}{mD:List Int}:∀(s1:Int×(List Int)×Int×(List Int)×(List Za)×(List Ze)×(List Int)) (r:((Int×Int×Int×(List Int)×(List Za)×(List Ze)×(List Int))⊕(Int×Int×(List Int)×(List Za)×(List Ze)×(List Int)))),lp (ZM b mA mC mD) s1=some r->lpW ctx 6 [0,1,6,7] [4,5,6] ZrX [(.ptr 0 0),(zV t0 b),(zN s1.1),(zV true s1.2.1)] [(zK3 t1 mA t2 mC s1.2.2.1),(zA s1.2.2.2.1),(zA mD),(.arr 3 (List.map Zt s1.2.2.2.2.1)),(.arr 6 (List.map Zv s1.2.2.2.2.2.1)),(zA s1.2.2.2.2.2.2)]=some ((Zd1 t0 t1 t2 b mA mC mD) r):=
 lpT (Zd1 t0 t1 t2 b mA mC mD) fun s1 _ ih=>Zd (Zk _ _) (yB (yC ZhT fun x2 _=>
  Zg _ Zis fun x3 _=>
  yB (Zh rfl)
  (yC Zec fun x4 _=>
  Zi (ih _)))
  (Zh rfl))
theorem ZhS {t0 t1 t2:Bool}{b:List Int}{mA:List Int}{mC:List Zo}{mH:Int}{mB:List Int}{mD:List Int}{mG:List Za}{mE:List Ze}{mF:List Int}:∀r,(ZbP b mA mC mB mD mG mE mF)=some r->evW ctx 174 [(.ptr 0 0),(zV t0 b)] [(zK3 t1 mA t2 mC mH),(zA mB),(zA mD),(.arr 3 (List.map Zt mG)),(.arr 6 (List.map Zv mE)),(zA mF)]=some ((ZiQ t0 t1 t2 b mA mC mH mB mD mG mE mF) r):=
 evS Zvs rfl rfl <| yC Zec fun x0 _=>
  (by
 conv=>rhs;whnf
 refine Zg _ (ZgW _) fun r5 _=>?_
 rcases r5 with r5 | r5
 exact yR
 exact yR)
def Znn (r:(Zx×Int×Int)):D:=(D.tup [(zK2 true r.1.crew.on true r.1.crew.left true r.1.deques true r.1.takers true r.1.from_),(Zq r.2.1),(Zq r.2.2)])
theorem Zlp {t0 t1:Bool}{t2 t3:Bool}{t4 t5:Bool}{t6 t7:Bool}{a:Zm}{b:Zx}{c:List Int}:∀r,(Zd2 a b c)=some r->evD ctx 165 [(.d (zK1 t0 a.work t1 a.edges)),(.d (zK2 t2 b.crew.on t3 b.crew.left t4 b.deques t5 b.takers t6 b.from_)),(zV t7 c)]=some (Znn r):=
 evT Zuh rfl rfl <| yC Zeg fun x0 _=>
  yBr (Zg _ Ziu fun x1 _=>
  Zg _ ZhS fun x2 _=>
  yBr yR)
def Zja (r:(Zx×Int×Int)):D:=(D.tup [(zK2 true r.1.crew.on true r.1.crew.left true r.1.deques true r.1.takers true r.1.from_),(Zq r.2.1),(Zq r.2.2)])
theorem ZeV {t0 t1:Bool}{t2 t3:Bool}{t4 t5:Bool}{t6 t7:Bool}{a:ZhC}{b:Zm}{c:Zx}{d:List Int}:∀r,(Zdh a b c d)=some r->evD ctx 161 [(.d (D.agg [])),(.d (zK1 t0 b.work t1 b.edges)),(.d (zK2 t2 c.crew.on t3 c.crew.left t4 c.deques t5 c.takers t6 c.from_)),(zV t7 d)]=some (Zja r):=
 evT Zt5 rfl rfl <| yC Zlp fun x0 _=>
  yR
def Zps (t0:Bool) (t1:Bool) (a:Zz):Unit->V×Zc
  | r=>((.agg [(.sl 0 1),(.sl 1 1)]),[(zA a.on),(zA a.left)])
theorem ZiY {t0 t1:Bool}{a:Zz}:∀r,(Zeh a)=some r->evW ctx 201 [(.d (zK5 t0 a.on t1 a.left))] []=some ((Zps t0 t1 a) r):=
 evS Zu9 rfl rfl <| Zg _ Zl fun x0 _=>
  Zg _ Zl fun x1 _=>
  yR
def ZfP (mA:List Int):(List Int)->V×Zc
  | r=>((.d (D.tup [])),[(zA r)])
theorem ZcY {mA:List Int}:∀r,(Zau mA)=some r->evW ctx 110 [(.sl 0 1)] [(zA mA)]=some ((ZfP mA) r):=
 evS Zxj rfl rfl <| Zu (ZqP rfl) (yBm (ZvA yR))
def ZnB (mA:List Int) (mB:List Int):((List Int)×(List Int)×(List Int))->V×Zc
  | r=>((.sl 2 1),[(zA r.1),(zA r.2.1),(zA r.2.2)])
def ZgC (mA:List Int):((List Int)×(List Int)×(List Int))->Ex×List V×Zc
  | r=>(.exit 0,[(.sl 2 1)],[(zA r.1),(zA r.2.1),(zA r.2.2)])
theorem ZjS {mA:List Int}:∀(s0:Int×(List Int)×(List Int)×(List Int)) (r:((List Int)×(List Int)×(List Int))),lp (Zcr mA) s0=some r->lpW ctx 2 [1,3,7,8,9] [3] ZsB [(.ptr 2 0),(.sl 3 1),(.sl 0 1),(zN (mA.length:Int)),(zN s0.1)] [(zA s0.2.1),(zA s0.2.2.1),(.cells [(.sl 0 1),(.sl 1 1)]),(zA s0.2.2.2)]=some ((ZgC mA) r):=
 lpT (ZgC mA) fun s0 _ ih=>yB (yG fun x1 hx1=>
  Zu (Zay rfl hx1) (yB (Zi (ih _))
  (yG fun x2 hx2=>
  Zu (Zay rfl hx2) (Zu (ZeT rfl hx2) (Zu (Zay rfl hx2) (Zd (Zdd Zq s0.2.2.1 x1.toNat (w64 (x2-1))) (yC Zc4 fun x3 _=>
  yB (Zu (ZeT rfl hx1) (Zu (Zay rfl hx1) (Zd (Zdd Zq s0.2.1 s0.1.toNat (-1)) (yT (ZaA (Zfc Zq s0.2.2.2 1) (Zd (Zfb Zq s0.2.2.2 [x1]) (Zi (ih _)))
  ZU)))))
  (Zi (ih _)))))))))
  (Zh rfl)
theorem Zmt {mA:List Int}{mB:List Int}:∀r,(Ziz mA mB)=some r->evW ctx 202 [(.agg [(.sl 0 1),(.sl 1 1)])] [(zA mA),(zA mB)]=some ((ZnB mA mB) r):=
 evS Zut rfl rfl <| Zd (Zk _ _) (Zg _ (ZjS _) fun r4 _=>
  Zg _ ZcY fun x5 _=>
  yR)
def Zn0 (t0:Bool) (t1:Bool) (t2:Bool) (t3:Bool) (a:Zm) (b:Zz):(Int⊕((List Int)×(List Int)×(List Int)))->V×Zc
  | (.inl r)=>((.tup [(.agg [(.nilsl 1),(.nilsl 1)]),(.nilsl 1),(zN r)]),[])
  | (.inr r)=>((.tup [(.agg [(.sl 0 1),(.sl 1 1)]),(.sl 2 1),(zN 0)]),[(zA r.1),(zA r.2.1),(zA r.2.2)])
theorem ZhW {t0 t1:Bool}{t2 t3:Bool}{a:Zm}{b:Zz}:∀r,(Zez a b)=some r->evW ctx 186 [(.d (zK1 t0 a.work t1 a.edges)),(.d (zK5 t2 b.on t3 b.left))] []=some ((Zn0 t0 t1 t2 t3 a b) r):=
 evS Zuq rfl rfl <| yC ZcE fun x0 _=>
  yBr (Zg _ ZiY fun x1 _=>
  Zg _ Zmt fun x2 _=>
  yR)
def ZlM (r:(Int×Bool)):D:=(D.tup [(Zq r.1),(D.bool r.2)])
theorem ZkO {a:Zo}{b0:Int}:∀r,(ZcM a b0)=some r->evD ctx 203 [(.d (D.agg [(Zq a.src),(Zq a.dst)])),(.d (D.rptr [(Zq b0)]))]=some (ZlM r):=
 evT Zv2 rfl rfl <| yBr yR
def Zgp (r:List Int):D:=(zL true r)
def ZcS (t1:Bool) (a:Zm) (b0:Int):(List Int)->Ex×List V×Zc
  | r=>(.exit 0,[(.sl 0 1)],[(zA r)])
theorem ZeO {t1:Bool}{a:Zm}{b0:Int}:∀(s0:Int×(List Int)) (r:List Int),lp (Zd0 a (fun z0=>ZcM z0 b0)) s0=some r->lpW ctx 0 [1,5,11,12,13] [5] Zvb [(.d (D.fn 203 [(D.rptr [(Zq b0)])])),(.sl 0 1),(zW t1 ZbC a.edges),(zN (a.edges.length:Int)),(zN s0.1)] [(zA s0.2)]=some ((ZcS t1 a b0) r):=
 lpT (ZcS t1 a b0) fun s0 _ ih=>yB (yG fun x1 _=>
  yC ZkO fun x2 _=>
  yB (yT (ZaA (Zfc Zq s0.2 1) (Zd (Zfb Zq s0.2 [x2.1]) (Zi (ih _)))
  ZU))
  (Zi (ih _)))
  (Zh rfl)
theorem ZfQ {t0 t1:Bool}{a:Zm}{b0:Int}:∀r,(Zkx a (fun z0=>ZcM z0 b0))=some r->evD ctx 92 [(.d (zK1 t0 a.work t1 a.edges)),(.d (D.fn 203 [(D.rptr [(Zq b0)])]))]=some (Zgp r):=
 evT ZxE rfl rfl <| Zd (Zk _ _) (Zg _ (ZeO _) fun r3 _=>
  Zg _ ZcY fun x4 _=>
  yR)
def ZnF (r:List Int):D:=(zL true r)
theorem ZmW {t0 t1:Bool}{a:Zm}{b:Int}:∀r,(Zf1 a b)=some r->evD ctx 187 [(.d (zK1 t0 a.work t1 a.edges)),(zN b)]=some (ZnF r):=
 evT ZtQ rfl rfl <| yC ZfE fun x0 _=>
  yBr (yC ZfQ fun x1 _=>
  yR)
def ZmA (r:(Za×Int)):D:=(D.tup [(zK6 true r.1.ring r.1.top r.1.bottom),(Zq r.2)])
theorem Zlw {t0:Bool}{a:Za}{b:Int}:∀r,(Zhl a b)=some r->evD ctx 178 [(.d (zK6 t0 a.ring a.top a.bottom)),(zN b)]=some (ZmA r):=
 evT Zvl rfl rfl <| yC Zco fun x0 _=>
  yBr (yBr (Zd (Zk _ _) (yBr (Zg _ Zh6 fun x1 _=>
  yC Zdg fun x2 _=>
  yG fun x3 hx3=>
  Zu (Zay rfl hx3) (Zd (Zdd Zq a.ring x2.toNat b) yR)))))
def ZiP (t0:Bool) (t1:Bool) (b:Int) (c:Int) (mA:List Int) (mC:List Zo) (mH:Int) (mB:List Int) (mD:List Int) (mG:List Za) (mE:List Ze) (mF:List Int):((List Za)⊕(List Za))->V×Zc
  | (.inl r)=>((.d (D.bool true)),[(zK3 t0 mA t1 mC mH),(zA mB),(zA mD),(.arr 3 (List.map Zt r)),(.arr 6 (List.map Zv mE)),(zA mF)])
  | (.inr r)=>((.d (D.bool false)),[(zK3 t0 mA t1 mC mH),(zA mB),(zA mD),(.arr 3 (List.map Zt r)),(.arr 6 (List.map Zv mE)),(zA mF)])
theorem Zik {t0 t1:Bool}{b c:Int}{mA:List Int}{mC:List Zo}{mH:Int}{mB:List Int}{mD:List Int}{mG:List Za}{mE:List Ze}{mF:List Int}:∀r,(ZbU b c mG)=some r->evW ctx 170 [(.ptr 0 0),(zN b),(zN c)] [(zK3 t0 mA t1 mC mH),(zA mB),(zA mD),(.arr 3 (List.map Zt mG)),(.arr 6 (List.map Zv mE)),(zA mF)]=some ((ZiP t0 t1 b c mA mC mH mB mD mG mE mF) r):=
 evS ZuB rfl rfl <| yG fun x0 hx0=>
  Zu (Zay rfl hx0) (yC Zlw fun x1 _=>
  yB (Zu (ZeT rfl hx0) (Zu (Zay rfl hx0) (Zd (Zdd Zt mG b.toNat x1.1) (yBr yR))))
  (yBr yR))
def ZiU (t0:Bool) (t1:Bool) (mA:List Int) (mC:List Zo) (mH:Int) (mB:List Int) (mD:List Int) (mG:List Za) (mE:List Ze) (mF:List Int):(Int⊕(((List Za)×(List Int)×(List Int))⊕((List Za)×(List Int)×(List Int)×(List Int))))->V×Zc
  | (.inl r)=>((.tup [(.nilsl 1),(zN r)]),[(zK3 t0 mA t1 mC mH),(zA mB),(zA mD),(.arr 3 (List.map Zt mG)),(.arr 6 (List.map Zv mE)),(zA mF)])
  | (.inr (.inl r))=>((.tup [(.nilsl 1),(zN 130)]),[(.cells [(.sl 6 1),(.sl 7 1),(.sl 3 3),(.sl 4 6),(.sl 5 1),(zV t0 mA),(zW t1 ZbC mC),(zN mH)]),(zA mB),(zA mD),(.arr 3 (List.map Zt r.1)),(.arr 6 (List.map Zv mE)),(zA mF),(zA r.2.1),(zA r.2.2)])
  | (.inr (.inr r))=>((.tup [(.sl 6 1),(zN 0)]),[(.cells [(.sl 7 1),(.sl 8 1),(.sl 3 3),(.sl 4 6),(.sl 5 1),(zV t0 mA),(zW t1 ZbC mC),(zN mH)]),(zA mB),(zA mD),(.arr 3 (List.map Zt r.1)),(.arr 6 (List.map Zv mE)),(zA mF),(zA r.2.1),(zA r.2.2.1),(zA r.2.2.2)])
def ZdM (t0:Bool) (t1:Bool) (mA:List Int) (mC:List Zo) (mH:Int) (mB:List Int) (mD:List Int) (mE:List Ze) (mF:List Int) (x1:((List Int)×(List Int)×(List Int))) (x2:List Int) (s3:Int×(List Za)×(List Int)) (x6:List Int):(((List Za)×(List Int))⊕((List Za)×(List Int)))->Ex×List V×Zc
  | (.inl r)=>(.ret,[(.ptr 0 0),(.nilsl 1),(zN 130),(.sl 6 1),(zV true x2),(.fn 1000170 [(.ptr 0 0)]),(.sl 7 1),(.sl 8 1),(zN (mB.length:Int)),(zN s3.1)],[(.cells [(.sl 9 1),(.sl 10 1),(.sl 3 3),(.sl 4 6),(.sl 5 1),(zV t0 mA),(zW t1 ZbC mC),(zN mH)]),(zA mB),(zA mD),(.arr 3 (List.map Zt r.1)),(.arr 6 (List.map Zv mE)),(zA mF),(zA x1.2.2),(zA r.2),(zA mB),(zA x1.1),(zA x1.2.1)])
  | (.inr r)=>(.exit 2,[(.ptr 0 0),.bad,.bad,(.sl 6 1),(zV true x2),(.fn 1000170 [(.ptr 0 0)]),(.sl 7 1),(.sl 8 1),(zN (mB.length:Int)),(zN s3.1)],[(.cells [(.sl 9 1),(.sl 10 1),(.sl 3 3),(.sl 4 6),(.sl 5 1),(zV t0 mA),(zW t1 ZbC mC),(zN mH)]),(zA mB),(zA mD),(.arr 3 (List.map Zt r.1)),(.arr 6 (List.map Zv mE)),(zA mF),(zA x1.2.2),(zA r.2),(zA mB),(zA x1.1),(zA x1.2.1)])
theorem Zg1 {t0 t1:Bool}{mA:List Int}{mC:List Zo}{mH:Int}{mB:List Int}{mD:List Int}{mE:List Ze}{mF:List Int}{x1:((List Int)×(List Int)×(List Int))}{x2:List Int}{s3:Int×(List Za)×(List Int)}{x6:List Int}:∀(s7:Int×(List Za)×(List Int)) (r:(((List Za)×(List Int))⊕((List Za)×(List Int)))),lp (Z1 x2 s3 x6) s7=some r->lpW ctx 6 [0,6,8,9,10,11,52,53,54,78,79,80] [0,2,3,6,8,9,10,52,53,54] Zsr [(.ptr 0 0),(.sl 6 1),(zV true x2),(.fn 1000170 [(.ptr 0 0)]),(.sl 7 1),(zN s3.1),(.sl 8 1),(zN (mB.length:Int)),(zN s3.1),(zV true x6),(zN (x6.length:Int)),(zN s7.1)] [(.cells [(.sl 9 1),(.sl 10 1),(.sl 3 3),(.sl 4 6),(.sl 5 1),(zV t0 mA),(zW t1 ZbC mC),(zN mH)]),(zA mB),(zA mD),(.arr 3 (List.map Zt s7.2.1)),(.arr 6 (List.map Zv mE)),(zA mF),(zA x1.2.2),(zA s7.2.2),(zA mB),(zA x1.1),(zA x1.2.1)]=some ((ZdM t0 t1 mA mC mH mB mD mE mF x1 x2 s3 x6) r):=
 lpT (ZdM t0 t1 mA mC mH mB mD mE mF x1 x2 s3 x6) fun s7 _ ih=>yB (yG fun x8 _=>
  yC ZW fun x9 _=>
  yB (yC ZW fun x10 _=>
  yB (Zi (ih _))
  (by
 conv=>rhs;whnf
 refine Zg _ Zik fun x11 _=>?_
 rcases x11 with x11 | x11
 exact yT (ZaA (Zfc Zq s7.2.2 1) (Zd (Zfb Zq s7.2.2 [x8]) (Zi (ih _)))
  ZU)
 exact Zh rfl))
  (Zi (ih _)))
  (Zh rfl)
def ZdK (t0:Bool) (t1:Bool) (mA:List Int) (mC:List Zo) (mH:Int) (mB:List Int) (mD:List Int) (mE:List Ze) (mF:List Int) (x1:((List Int)×(List Int)×(List Int))) (x2:List Int):((List Za)⊕(List Za))->Ex×List V×Zc
  | (.inl r)=>(.ret,[(.nilsl 1),(zN 130),(.sl 6 1)],[(.cells [(.sl 7 1),(.sl 8 1),(.sl 3 3),(.sl 4 6),(.sl 5 1),(zV t0 mA),(zW t1 ZbC mC),(zN mH)]),(zA mB),(zA mD),(.arr 3 (List.map Zt r)),(.arr 6 (List.map Zv mE)),(zA mF),(zA x1.2.2),(zA x1.1),(zA x1.2.1)])
  | (.inr r)=>(.exit 0,[.bad,.bad,(.sl 6 1)],[(.cells [(.sl 7 1),(.sl 8 1),(.sl 3 3),(.sl 4 6),(.sl 5 1),(zV t0 mA),(zW t1 ZbC mC),(zN mH)]),(zA mB),(zA mD),(.arr 3 (List.map Zt r)),(.arr 6 (List.map Zv mE)),(zA mF),(zA x1.2.2),(zA x1.1),(zA x1.2.1)])
theorem ZgO {t0 t1:Bool}{mA:List Int}{mC:List Zo}{mH:Int}{mB:List Int}{mD:List Int}{mE:List Ze}{mF:List Int}{x1:((List Int)×(List Int)×(List Int))}{x2:List Int}:∀(s3:Int×(List Za)×(List Int)) (r:((List Za)⊕(List Za))),lp (Z2 mA mC mB x1 x2) s3=some r->lpW ctx 6 [0,6,8,9,10,52,53,54] [2,3,6] Zsp [(.ptr 0 0),(.sl 6 1),(zV true x2),(.fn 1000170 [(.ptr 0 0)]),(.sl 7 1),(.sl 8 1),(zN (mB.length:Int)),(zN s3.1)] [(.cells [(.sl 9 1),(.sl 10 1),(.sl 3 3),(.sl 4 6),(.sl 5 1),(zV t0 mA),(zW t1 ZbC mC),(zN mH)]),(zA mB),(zA mD),(.arr 3 (List.map Zt s3.2.1)),(.arr 6 (List.map Zv mE)),(zA mF),(zA x1.2.2),(zA s3.2.2),(zA mB),(zA x1.1),(zA x1.2.1)]=some ((ZdK t0 t1 mA mC mH mB mD mE mF x1 x2) r):=
 lpT (ZdK t0 t1 mA mC mH mB mD mE mF x1 x2) fun s3 _ ih=>yB (yG fun x4 hx4=>
  Zu (Zay rfl hx4) (yB (Zi (ih _))
  (yG fun x5 hx5=>
  Zu (Zay rfl hx5) (yB (Zi (ih _))
  (yC ZmW fun x6 _=>
  Zd (Zk _ _) (by
 conv=>rhs;whnf
 refine Zg _ (Zg1 _) fun r12 _=>?_
 rcases r12 with r12 | r12
 exact Zh rfl
 exact Zi (ih _)))))))
  (Zh rfl)
theorem Ziy {t0 t1:Bool}{mA:List Int}{mC:List Zo}{mH:Int}{mB:List Int}{mD:List Int}{mG:List Za}{mE:List Ze}{mF:List Int}:∀r,(ZdQ mA mC mB mD mG)=some r->evW ctx 175 [(.ptr 0 0)] [(zK3 t0 mA t1 mC mH),(zA mB),(zA mD),(.arr 3 (List.map Zt mG)),(.arr 6 (List.map Zv mE)),(zA mF)]=some ((ZiU t0 t1 mA mC mH mB mD mG mE mF) r):=
 evS ZvB rfl rfl <| Zg _ Zl fun x0 _=>
  (by
 conv=>rhs;whnf
 refine Zg _ ZhW fun x1 _=>?_
 rcases x1 with x1 | x1
 exact yBm yR
 exact yF (yC ZhI fun x2 _=>
  Zd (Zk _ _) (by
 conv=>rhs;whnf
 refine Zg _ (ZgO _) fun r13 _=>?_
 rcases r13 with r13 | r13
 exact yR
 exact yR)))
def ZmU (r:(Zx×(List Int)×Int)):D:=(D.tup [(zK2 true r.1.crew.on true r.1.crew.left true r.1.deques true r.1.takers true r.1.from_),(zL true r.2.1),(Zq r.2.2)])
theorem ZlB {t0 t1:Bool}{t2 t3:Bool}{t4 t5 t6:Bool}{a:Zm}{b:Zx}:∀r,(ZdR a b)=some r->evD ctx 166 [(.d (zK1 t0 a.work t1 a.edges)),(.d (zK2 t2 b.crew.on t3 b.crew.left t4 b.deques t5 b.takers t6 b.from_))]=some (ZmU r):=
 evT Zup rfl rfl <| yC Zeg fun x0 _=>
  yBr (Zg _ Ziu fun x1 _=>
  (by
 conv=>rhs;whnf
 refine Zg _ Ziy fun x2 _=>?_
 rcases x2 with x2 | (x2 | x2)
 exact yBm yR
 exact yT yR
 exact yF yR))
def ZjB (r:(Zx×(List Int)×Int)):D:=(D.tup [(zK2 true r.1.crew.on true r.1.crew.left true r.1.deques true r.1.takers true r.1.from_),(zL true r.2.1),(Zq r.2.2)])
theorem ZeX {t0 t1:Bool}{t2 t3:Bool}{t4 t5 t6:Bool}{a:ZhC}{b:Zm}{c:Zx}:∀r,(Zdb a b c)=some r->evD ctx 162 [(.d (D.agg [])),(.d (zK1 t0 b.work t1 b.edges)),(.d (zK2 t2 c.crew.on t3 c.crew.left t4 c.deques t5 c.takers t6 c.from_))]=some (ZjB r):=
 evT ZvR rfl rfl <| yC ZlB fun x0 _=>
  yR
def ZnT (t0:Bool) (t1:Bool) (a:Zm) (mA:List Int) (mB:List Int):(List Int)->V×Zc
  | r=>((.d (D.tup [])),[(zA r),(zA mB)])
def Zgy (mA:List Int) (mB:List Int):(List Int)->Ex×List V×Zc
  | r=>(.exit 0,[],[(zA r),(zA mB)])
theorem Zkj {mA:List Int}{mB:List Int}:∀(s1:(List Int)×Int×(List Int)) (r:List Int),lp (Zcg mA) s1=some r->lpW ctx 2 [3,4,11,12,13] [] ZrT [(.ptr 2 0),(zV true s1.1),(.sl 0 1),(zN (mA.length:Int)),(zN s1.2.1)] [(zA s1.2.2),(zA mB),(.cells [(.sl 0 1),(.sl 1 1)])]=some ((Zgy mA mB) r):=
 lpT (Zgy mA mB) fun s1 _ ih=>yB (yG fun x2 hx2=>
  Zu (Zay rfl hx2) (yB (Zd (Zk _ _) (yB (yG fun x3 _=>
  yT (ZaA (ZtR Zq s1.1 1) (Zf6 (ZxQ Zq (fun _=>⟨rfl,rfl⟩) s1.1 _) (Zd (ZrA Zq s1.1 1) (Zu (ZeT rfl hx2) (Zu (Zay rfl hx2) (Zd (Zdd Zq s1.2.2 s1.2.1.toNat x3) (Zi (ih _)))))))
  ZU))
  (Zi (ih _))))
  (Zi (ih _))))
  (Zh rfl)
theorem Znl {t0 t1:Bool}{a:Zm}{mA:List Int}{mB:List Int}:∀r,(Zie a mA mB)=some r->evW ctx 220 [(.d (zK1 t0 a.work t1 a.edges)),(.agg [(.sl 0 1),(.sl 1 1)])] [(zA mA),(zA mB)]=some ((ZnT t0 t1 a mA mB) r):=
 evS Zvc rfl rfl <| yC ZhF fun x0 _=>
  Zd (Zk _ _) (Zg _ (Zkj _) fun r4 _=>
  yR)
def Zn5 (r:(Zz×Int)):D:=(D.tup [(zK5 true r.1.on true r.1.left),(Zq r.2)])
theorem Znd {t0 t1:Bool}{t2 t3:Bool}{a:Zm}{b:Zz}:∀r,(ZfR a b)=some r->evD ctx 219 [(.d (zK1 t0 a.work t1 a.edges)),(.d (zK5 t2 b.on t3 b.left))]=some (Zn5 r):=
 evT ZvO rfl rfl <| yC ZcE fun x0 _=>
  yBr (Zg _ ZiY fun x1 _=>
  Zg _ Znl fun x2 _=>
  yR)
def Zkd (r:(Zx×Int×Int)):D:=(D.tup [(zK2 true r.1.crew.on true r.1.crew.left true r.1.deques true r.1.takers true r.1.from_),(Zq r.2.1),(Zq r.2.2)])
theorem Zfv {t0 t1:Bool}{t2 t3:Bool}{t4 t5:Bool}{t6 t7:Bool}{a:ZlH}{b:Zm}{c:Zx}{d:List Int}:∀r,(Zds a b c d)=some r->evD ctx 217 [(.d (D.agg [])),(.d (zK1 t0 b.work t1 b.edges)),(.d (zK2 t2 c.crew.on t3 c.crew.left t4 c.deques t5 c.takers t6 c.from_)),(zV t7 d)]=some (Zkd r):=
 evT ZtU rfl rfl <| yC Znd fun x0 _=>
  yR
def Zj2 (r:(Zx×(List Int)×Int)):D:=(D.tup [(zK2 true r.1.crew.on true r.1.crew.left true r.1.deques true r.1.takers true r.1.from_),(zL true r.2.1),(Zq r.2.2)])
theorem ZfH {t0 t1:Bool}{t2 t3:Bool}{t4 t5 t6:Bool}{a:ZlH}{b:Zm}{c:Zx}:∀r,(Zdr a b c)=some r->evD ctx 218 [(.d (D.agg [])),(.d (zK1 t0 b.work t1 b.edges)),(.d (zK2 t2 c.crew.on t3 c.crew.left t4 c.deques t5 c.takers t6 c.from_))]=some (Zj2 r):=
 evT Zvi rfl rfl <| (by
 conv=>rhs;whnf
 refine Zg _ ZhW fun x0 _=>?_
 rcases x0 with x0 | x0
 exact yR
 exact yR)
def Zn1 (r:(ZK×ZT×Int)):D:=(D.tup [(D.agg [(D.bool r.1.stealing),(zL true r.1.demand),(Zq r.1.state),(zL true r.1.gang.crew.on),(zL true r.1.gang.crew.left),(zM true Zt r.1.gang.deques),(zM true Zv r.1.gang.takers),(zL true r.1.gang.from_)]),(D.agg [(zL true r.2.1.on),(zL true r.2.1.done),(Zq r.2.1.steps)]),(Zq r.2.2)])
theorem Zix {t0 t1:Bool}{t2 t3:Bool}{t4 t5:Bool}{t6 t7 t8:Bool}{a:Zm}{b:ZK}{c:List Int}:∀r,(ZcZ a b c)=some r->evD ctx 36 [(.d (zK1 t0 a.work t1 a.edges)),(.d (D.agg [(D.bool b.stealing),(zL t2 b.demand),(Zq b.state),(zL t3 b.gang.crew.on),(zL t4 b.gang.crew.left),(zM t5 Zt b.gang.deques),(zM t6 Zv b.gang.takers),(zL t7 b.gang.from_)])),(zV t8 c)]=some (Zn1 r):=
 evT ZyK rfl rfl <| yB ((by
 conv=>rhs;whnf
 refine yC Zfe fun x0 _=>?_
 rcases x0 with x0 | x0
 exact yC ZeV fun x1 _=>
  yBr (Zg _ Zl fun x2 _=>
  yC ZeX fun x3 _=>
  yBr (Zg _ Zl fun x4 _=>
  yC ZaH fun x5 _=>
  yR))
 exact yC Zfv fun x6 _=>
  yBr (Zg _ Zl fun x7 _=>
  yC ZfH fun x8 _=>
  yBr (Zg _ Zl fun x9 _=>
  yC ZaH fun x10 _=>
  yR))))
  (by
 conv=>rhs;whnf
 refine yC Zfe fun x11 _=>?_
 rcases x11 with x11 | x11
 exact yC ZeV fun x12 _=>
  yBr (Zg _ Zl fun x13 _=>
  yC ZeX fun x14 _=>
  yBr (Zg _ Zl fun x15 _=>
  yC ZaH fun x16 _=>
  yR))
 exact yC Zfv fun x17 _=>
  yBr (Zg _ Zl fun x18 _=>
  yC ZfH fun x19 _=>
  yBr (Zg _ Zl fun x20 _=>
  yC ZaH fun x21 _=>
  yR)))
def ZnJ (r:(ZK×ZT×Int)):D:=(D.tup [(D.agg [(D.bool r.1.stealing),(zL true r.1.demand),(Zq r.1.state),(zL true r.1.gang.crew.on),(zL true r.1.gang.crew.left),(zM true Zt r.1.gang.deques),(zM true Zv r.1.gang.takers),(zL true r.1.gang.from_)]),(D.agg [(zL true r.2.1.on),(zL true r.2.1.done),(Zq r.2.1.steps)]),(Zq r.2.2)])
theorem Zl5 {t0 t1:Bool}{t2 t3:Bool}{t4 t5:Bool}{t6 t7 t8:Bool}{a:Zm}{b:ZK}{c:List Int}:∀r,(Zey a b c)=some r->evD ctx 11 [(.d (zK1 t0 a.work t1 a.edges)),(.d (D.agg [(D.bool b.stealing),(zL t2 b.demand),(Zq b.state),(zL t3 b.gang.crew.on),(zL t4 b.gang.crew.left),(zM t5 Zt b.gang.deques),(zM t6 Zv b.gang.takers),(zL t7 b.gang.from_)])),(zV t8 c)]=some (ZnJ r):=
 evT ZyJ rfl rfl <| yC ZhE fun x0 _=>
  yB (yB (yT yR)
  (yBr (yC Zix fun x1 _=>
  yR)))
  (yBr (yC Zix fun x2 _=>
  yR))
def Zny (r:Bool):D:=(D.bool r)
def Zf2 (t0:Bool) (t1:Bool) (a:List Int) (b:List Int):(Unit⊕Unit)->Ex×List V×Zc
  | (.inl r)=>(.ret,[(.d (D.bool false))],[])
  | (.inr r)=>(.exit 0,[.bad],[])
theorem Zju {t0 t1:Bool}{a:List Int}{b:List Int}:∀(s0:Int) (r:(Unit⊕Unit)),lp (ZcH a b) s0=some r->lpW ctx 0 [0,1,5] [4] ZuF [(zV t0 a),(zV t1 b),(zN s0)] []=some ((Zf2 t0 t1 a b) r):=
 lpT (Zf2 t0 t1 a b) fun s0 _ ih=>Zd (Zk _ _) (yB (yG fun x1 _=>
  yG fun x2 _=>
  yB (Zh rfl)
  (Zi (ih _)))
  (Zh rfl))
theorem Zba {t0 t1:Bool}{a:List Int}{b:List Int}:∀r,(ZaB a b)=some r->evD ctx 18 [(zV t0 a),(zV t1 b)]=some (Zny r):=
 evT ZyR rfl rfl <| Zd (Zk _ _) (Zd (Zk _ _) (yBr (by
 conv=>rhs;whnf
 refine Zg _ (Zju _) fun r3 _=>?_
 rcases r3 with r3 | r3
 exact yR
 exact yR)))
def ZmD (r:Bool):D:=(D.bool r)
theorem Zlx {t0 t1:Bool}{t2 t3:Bool}{a b:Zz}:∀r,(Zhs a b)=some r->evD ctx 64 [(.d (zK5 t0 a.on t1 a.left)),(.d (zK5 t2 b.on t3 b.left))]=some (ZmD r):=
 evT Zx3 rfl rfl <| yC Zba fun x0 _=>
  yB (yC Zba fun x1 _=>
  yBr yR)
  yR
def Zmp (r:Bool):D:=(D.bool r)
theorem Zlr {t0 t1:Bool}{a b:Za}:∀r,(Zj0 a b)=some r->evD ctx 65 [(.d (zK6 t0 a.ring a.top a.bottom)),(.d (zK6 t1 b.ring b.top b.bottom))]=some (Zmp r):=
 evT ZyY rfl rfl <| yC Zba fun x0 _=>
  yB (yB (yBr yR)
  yR)
  yR
def Zm2 (r:Bool):D:=(D.bool r)
def Zgd (t0:Bool) (t1:Bool) (t2:Bool) (t3:Bool) (t4:Bool) (t5:Bool) (t6:Bool) (t7:Bool) (t8:Bool) (t9:Bool) (a:Zx) (b:Zx):(Unit⊕Unit)->Ex×List V×Zc
  | (.inl r)=>(.ret,[(.ptr 0 0),(.ptr 1 0),(.d (D.bool false))],[(zK4 t0 a.crew.on t1 a.crew.left t2 a.deques t3 a.takers t4 a.from_),(zK4 t5 b.crew.on t6 b.crew.left t7 b.deques t8 b.takers t9 b.from_)])
  | (.inr r)=>(.exit 0,[(.ptr 0 0),(.ptr 1 0),.bad],[(zK4 t0 a.crew.on t1 a.crew.left t2 a.deques t3 a.takers t4 a.from_),(zK4 t5 b.crew.on t6 b.crew.left t7 b.deques t8 b.takers t9 b.from_)])
theorem Zjz {t0 t1:Bool}{t2 t3:Bool}{t4 t5:Bool}{t6 t7:Bool}{t8 t9:Bool}{a b:Zx}:∀(s2:Int) (r:(Unit⊕Unit)),lp (ZhD a b) s2=some r->lpW ctx 0 [2,3,5] [2,3,4] ZuH [(.ptr 0 0),(.ptr 1 0),(zN s2)] [(zK4 t0 a.crew.on t1 a.crew.left t2 a.deques t3 a.takers t4 a.from_),(zK4 t5 b.crew.on t6 b.crew.left t7 b.deques t8 b.takers t9 b.from_)]=some ((Zgd t0 t1 t2 t3 t4 t5 t6 t7 t8 t9 a b) r):=
 lpT (Zgd t0 t1 t2 t3 t4 t5 t6 t7 t8 t9 a b) fun s2 _ ih=>Zd (Zk _ _) (yB (yG fun x3 _=>
  yG fun x4 _=>
  yC Zlr fun x5 _=>
  yB (Zi (ih _))
  (Zh rfl))
  (Zh rfl))
def Zf8 (t0:Bool) (t1:Bool) (t2:Bool) (t3:Bool) (t4:Bool) (t5:Bool) (t6:Bool) (t7:Bool) (t8:Bool) (t9:Bool) (a:Zx) (b:Zx):(Unit⊕Unit)->Ex×List V×Zc
  | (.inl r)=>(.ret,[(.d (D.bool false))],[])
  | (.inr r)=>(.exit 2,[.bad],[])
theorem Zjl {t0 t1:Bool}{t2 t3:Bool}{t4 t5:Bool}{t6 t7:Bool}{t8 t9:Bool}{a b:Zx}:∀(s7:Int) (r:(Unit⊕Unit)),lp (ZhM a b) s7=some r->lpW ctx 0 [2,3,6] [4] Zt8 [(.ptr 0 0),(.ptr 1 0),(zN s7)] [(zK4 t0 a.crew.on t1 a.crew.left t2 a.deques t3 a.takers t4 a.from_),(zK4 t5 b.crew.on t6 b.crew.left t7 b.deques t8 b.takers t9 b.from_)]=some ((Zf8 t0 t1 t2 t3 t4 t5 t6 t7 t8 t9 a b) r):=
 lpT (Zf8 t0 t1 t2 t3 t4 t5 t6 t7 t8 t9 a b) fun s7 _ ih=>Zd (Zk _ _) (yB (yG fun x8 _=>
  yG fun x9 _=>
  yB (Zh rfl)
  (Zi (ih _)))
  (Zh rfl))
theorem ZhL {t0 t1:Bool}{t2 t3:Bool}{t4 t5:Bool}{t6 t7:Bool}{t8 t9:Bool}{a b:Zx}:∀r,(Zfd a b)=some r->evD ctx 38 [(.d (zK2 t0 a.crew.on t1 a.crew.left t2 a.deques t3 a.takers t4 a.from_)),(.d (zK2 t5 b.crew.on t6 b.crew.left t7 b.deques t8 b.takers t9 b.from_))]=some (Zm2 r):=
 evT ZxB rfl rfl <| yC Zlx fun x0 _=>
  yB (Zd (Zk _ _) (Zd (Zk _ _) (yBr (Zd (Zk _ _) (Zd (Zk _ _) (yBr (yC Zba fun x1 _=>
  yB ((by
 conv=>rhs;whnf
 refine Zg _ (Zjz _) fun r6 _=>?_
 rcases r6 with r6 | r6
 exact yR
 exact(by
 conv=>rhs;whnf
 refine Zg _ (Zjl _) fun r10 _=>?_
 rcases r10 with r10 | r10
 exact yR
 exact yR)))
  yR)))))))
  yR
def Znw (r:Bool):D:=(D.bool r)
theorem Zlm {t0 t1:Bool}{t2 t3:Bool}{t4 t5:Bool}{t6 t7:Bool}{t8 t9:Bool}{t10 t11:Bool}{a b:ZK}:∀r,(Zfh a b)=some r->evD ctx 15 [(.d (D.agg [(D.bool a.stealing),(zL t0 a.demand),(Zq a.state),(zL t1 a.gang.crew.on),(zL t2 a.gang.crew.left),(zM t3 Zt a.gang.deques),(zM t4 Zv a.gang.takers),(zL t5 a.gang.from_)])),(.d (D.agg [(D.bool b.stealing),(zL t6 b.demand),(Zq b.state),(zL t7 b.gang.crew.on),(zL t8 b.gang.crew.left),(zM t9 Zt b.gang.deques),(zM t10 Zv b.gang.takers),(zL t11 b.gang.from_)]))]=some (Znw r):=
 evT ZyE rfl rfl <| yB (yB (yT (yC Zba fun x0 _=>
  yB (yB (yC ZhL fun x1 _=>
  yBr yR)
  yR)
  yR))
  (yF yR))
  (yB (yF yR)
  (yT (yC Zba fun x2 _=>
  yB (yB (yC ZhL fun x3 _=>
  yBr yR)
  yR)
  yR)))
def ZnY (r:Bool):D:=(D.bool r)
def ZgR (t0:Bool) (a:List Int) (b:Int):(Unit⊕Unit)->Ex×List V×Zc
  | (.inl r)=>(.ret,[(.d (D.bool true))],[])
  | (.inr r)=>(.exit 0,[.bad],[])
theorem Zj4 {t0:Bool}{a:List Int}{b:Int}:∀(s0:Int) (r:(Unit⊕Unit)),lp (Zc8 a b) s0=some r->lpW ctx 0 [0,1,5] [4] ZtW [(zV t0 a),(zN b),(zN s0)] []=some ((ZgR t0 a b) r):=
 lpT (ZgR t0 a b) fun s0 _ ih=>Zd (Zk _ _) (yB (yG fun x1 _=>
  yB (Zh rfl)
  (Zi (ih _)))
  (Zh rfl))
theorem ZfA {t0:Bool}{a:List Int}{b:Int}:∀r,(ZdG a b)=some r->evD ctx 16 [(zV t0 a),(zN b)]=some (ZnY r):=
 evT ZyP rfl rfl <| (by
 conv=>rhs;whnf
 refine Zg _ (Zj4 _) fun r2 _=>?_
 rcases r2 with r2 | r2
 exact yR
 exact yR)
def ZiV (r:Bool):D:=(D.bool r)
def ZdV (t0:Bool) (t1:Bool) (t2:Bool) (t3:Bool) (t4:Bool) (t5:Bool) (t6:Bool) (t7:Bool) (a:Zm) (b:ZK) (x6:(ZK×ZT×Int)):(Unit⊕Unit)->Ex×List V×Zc
  | (.inl r)=>(.ret,[(.ptr 0 0),(.ptr 1 0),(.d (D.bool false)),(.ptr 2 0),(.ptr 3 0)],[(zK0 t0 a.work t1 a.edges),(.cells [(.d (D.bool b.stealing)),(zV t2 b.demand),(zN b.state),(zV t3 b.gang.crew.on),(zV t4 b.gang.crew.left),(zW t5 Zt b.gang.deques),(zW t6 Zv b.gang.takers),(zV t7 b.gang.from_)]),(.cells [(.d (D.bool x6.1.stealing)),(zV true x6.1.demand),(zN x6.1.state),(zV true x6.1.gang.crew.on),(zV true x6.1.gang.crew.left),(zW true Zt x6.1.gang.deques),(zW true Zv x6.1.gang.takers),(zV true x6.1.gang.from_)]),(.cells [(zV true x6.2.1.on),(zV true x6.2.1.done),(zN x6.2.1.steps)])])
  | (.inr r)=>(.exit 0,[(.ptr 0 0),(.ptr 1 0),.bad,(.ptr 2 0),(.ptr 3 0)],[(zK0 t0 a.work t1 a.edges),(.cells [(.d (D.bool b.stealing)),(zV t2 b.demand),(zN b.state),(zV t3 b.gang.crew.on),(zV t4 b.gang.crew.left),(zW t5 Zt b.gang.deques),(zW t6 Zv b.gang.takers),(zV t7 b.gang.from_)]),(.cells [(.d (D.bool x6.1.stealing)),(zV true x6.1.demand),(zN x6.1.state),(zV true x6.1.gang.crew.on),(zV true x6.1.gang.crew.left),(zW true Zt x6.1.gang.deques),(zW true Zv x6.1.gang.takers),(zV true x6.1.gang.from_)]),(.cells [(zV true x6.2.1.on),(zV true x6.2.1.done),(zN x6.2.1.steps)])])
theorem Zgz {t0 t1:Bool}{t2 t3:Bool}{t4 t5:Bool}{t6 t7:Bool}{a:Zm}{b:ZK}{x6:(ZK×ZT×Int)}:∀(s8:Int) (r:(Unit⊕Unit)),lp (Zaw b x6) s8=some r->lpW ctx 0 [3,4,7,8,10] [3,4,6,7,8] Zxs [(.ptr 0 0),(.ptr 1 0),(.ptr 2 0),(.ptr 3 0),(zN s8)] [(zK0 t0 a.work t1 a.edges),(.cells [(.d (D.bool b.stealing)),(zV t2 b.demand),(zN b.state),(zV t3 b.gang.crew.on),(zV t4 b.gang.crew.left),(zW t5 Zt b.gang.deques),(zW t6 Zv b.gang.takers),(zV t7 b.gang.from_)]),(.cells [(.d (D.bool x6.1.stealing)),(zV true x6.1.demand),(zN x6.1.state),(zV true x6.1.gang.crew.on),(zV true x6.1.gang.crew.left),(zW true Zt x6.1.gang.deques),(zW true Zv x6.1.gang.takers),(zV true x6.1.gang.from_)]),(.cells [(zV true x6.2.1.on),(zV true x6.2.1.done),(zN x6.2.1.steps)])]=some ((ZdV t0 t1 t2 t3 t4 t5 t6 t7 a b x6) r):=
 lpT (ZdV t0 t1 t2 t3 t4 t5 t6 t7 a b x6) fun s8 _ ih=>Zd (Zk _ _) (yB (yC ZfA fun x9 _=>
  yB (Zd (Zk _ _) (yB (Zh rfl)
  (yG fun x10 hx10=>
  yG fun x11 _=>
  yB (Zh rfl)
  (yC ZfA fun x12 _=>
  yB (yT (Zu (ZeT rfl hx10) (yB (yF (Zi (ih _)))
  (yT (Zh rfl)))))
  (yT (Zu (ZeT rfl hx10) (yB (yT (Zh rfl))
  (yF (Zi (ih _))))))))))
  (Zd (Zk _ _) (yB (Zh rfl)
  (yG fun x13 _=>
  yG fun x14 _=>
  yB (Zh rfl)
  (yC ZfA fun x15 _=>
  yB (yF (yT (Zh rfl)))
  (yF (yF (Zi (ih _)))))))))
  (Zh rfl))
theorem Zh9 {t0 t1:Bool}{t2 t3:Bool}{t4 t5:Bool}{t6 t7 t8:Bool}{a:Zm}{b:ZK}{c:List Int}:∀r,(ZdN a b c)=some r->evD ctx 3 [(.d (zK1 t0 a.work t1 a.edges)),(.d (D.agg [(D.bool b.stealing),(zL t2 b.demand),(Zq b.state),(zL t3 b.gang.crew.on),(zL t4 b.gang.crew.left),(zM t5 Zt b.gang.deques),(zM t6 Zv b.gang.takers),(zL t7 b.gang.from_)])),(zV t8 c)]=some (ZiV r):=
 evT fn3 rfl rfl <| yC Zdi fun x0 _=>
  yB (yC Zmd fun x1 _=>
  yB (Zd (Zk _ _) (yB (yC Zdi fun x2 _=>
  yBr yR)
  (Zg _ Zij fun x3 _=>
  Zg _ Zib fun x4 _=>
  Zg _ Zls fun x5 _=>
  yC Zl5 fun x6 _=>
  yB (yC Zlm fun x7 _=>
  yB (Zd (Zk _ _) (yB (Zd (Zk _ _) (yBr yR))
  yR))
  yR)
  (by
 conv=>rhs;whnf
 refine Zg _ (Zgz _) fun r16 _=>?_
 rcases r16 with r16 | r16
 exact yR
 exact Zg _ Zij fun x17 _=>
  Zg _ Zib fun x18 _=>
  yC ZhE fun x19 _=>
  yB (Zd (Zk _ _) (Zd (Zk _ _) (yB (yC Zba fun x20 _=>
  yBr yR)
  yR)))
  yR))))
  (yC Zdi fun x21 _=>
  yBr yR))
  (yC Zdi fun x22 _=>
  yBr yR)
end Go.Proofs.YtgcfmiajkbbmeaaGreat
namespace Go.Proofs.YtgcfmiajkbbmeaaGreat
open Go Go.Proofs.YtgcfmiajkbbmeaaGreatE
open Go.IntKind (u64 i64 u32 i32 u8)
abbrev ZqO:List Lf×Bool:=([.sl false [.int .i64]],false)
abbrev Zqw:List Lf×Bool:=([.sl false [.int .i64],.sl true [.int .i64,.int .i64]],true)
abbrev Zqt:List Lf×Bool:=([.bool,.sl false [.int .i64],.int .i64,.sl false [.int .i64],.sl false [.int .i64],.sl true [.sl false [.int .i64],.int .i64,.int .i64],.sl true [.bool,.int .i64,.int .i64,.int .i64,.int .i64,.int .i64],.sl false [.int .i64]],true)
theorem Zs4 (left on:List Int) (ds:List Za) (ts:List Ze) (fs:List Int):∃b,ZfU ⟨⟨on,left⟩,ds,ts,fs⟩=some b/\(b=true->Ze4 left on ds ts fs):=by
 have key:∀(k i:Nat),i+k=min ds.length 13->(∀(j:Nat) q,j<i->ds[j]? = some q->q.ring.length<=130)->lp (ZaD ⟨⟨on,left⟩,ds,ts,fs⟩) (i:Int)=some (.inl ())∨(lp (ZaD ⟨⟨on,left⟩,ds,ts,fs⟩) (i:Int)=some (.inr ())/\∀(j:Nat) q,j<min ds.length 13->ds[j]? = some q->q.ring.length<=130):=by
  intro k
  induction k with
  | zero=>
   intro i hi h
   refine .inr ⟨?_,fun j q hj hq=>h j q (by omega) hq⟩
   rw[ZbS]
   by_cases c:i<ds.length
   ·simp only[ZaD,ZcJ c,cond_true,decide_eq_false (show ¬(i:Int)<13 by omega),cond_false]
   ·have:i=ds.length:=by omega
    subst this
    simp only[ZaD,ZcW,cond_false]
  | succ k ih=>
   intro i hi h
   have hil:i<ds.length:=by omega
   have hx:=List.getElem?_eq_getElem hil
   generalize ds[i]=d at hx
   rw[ZbS]
   simp only[ZaD,ZcJ hil,cond_true,decide_eq_true (show(i:Int)<13 by omega),Zr hx,Option.bind_some]
   by_cases c:130<(d.ring.length:Int)
   ·rw[decide_eq_true c];exact .inl rfl
   ·rw[decide_eq_false c,cond_false,Zc3 (by omega) (by omega),show(i:Int)+1=((i+1:Nat):Int) by omega]
    refine ih (i+1) (by omega) fun j q hj hq=>?_
    by_cases e:j=i
    ·subst e
     rw[hx] at hq
     cases hq
     omega
    ·exact h j q (by omega) hq
 unfold ZfU
 rcases key _ 0 (Nat.zero_add _) (fun j q hj=>by omega) with q | ⟨q,hq⟩
 ·rw[show(lp (ZaD ⟨⟨on,left⟩,ds,ts,fs⟩) 0)=_ from q];exact⟨false,rfl,fun h=>by cases h⟩
 ·rw[show(lp (ZaD ⟨⟨on,left⟩,ds,ts,fs⟩) 0)=_ from q,Option.bind_some]
  dsimp only
  by_cases c1:(on.length:Int)<=12
  ·rw[decide_eq_true c1,cond_true]
   by_cases c2:(left.length:Int)<=70
   ·rw[decide_eq_true c2,cond_true]
    by_cases c3:(ds.length:Int)<=12
    ·rw[decide_eq_true c3,cond_true]
     by_cases c4:(ts.length:Int)<=12
     ·rw[decide_eq_true c4,cond_true]
      by_cases c5:(fs.length:Int)<=12
      ·rw[decide_eq_true c5]
       refine⟨true,rfl,fun _=>⟨by omega,by omega,by omega,by omega,by omega,fun r hr=>?_⟩⟩
       obtain⟨j,hj⟩:=List.getElem?_of_mem hr
       have:=hq j r (by have:=(List.getElem?_eq_some_iff.1 hj).1;omega) hj
       omega
      ·rw[decide_eq_false c5];exact⟨false,rfl,fun h=>by cases h⟩
     ·rw[decide_eq_false c4];exact⟨false,rfl,fun h=>by cases h⟩
    ·rw[decide_eq_false c3];exact⟨false,rfl,fun h=>by cases h⟩
   ·rw[decide_eq_false c2];exact⟨false,rfl,fun h=>by cases h⟩
  ·rw[decide_eq_false c1];exact⟨false,rfl,fun h=>by cases h⟩
theorem Zw9 (g:Zm) (t:ZK):∃b,ZfX g t=some b/\(b=true->ZrS g=true/\Ze4 t.gang.crew.left t.gang.crew.on t.gang.deques t.gang.takers t.gang.from_/\t.demand.length<=70):=by
 unfold ZfX
 rw[Zyz,Option.bind_some]
 cases ZrS g with
 | false=>exact⟨false,rfl,fun h=>by cases h⟩
 | true=>
  obtain⟨b,h1,h2⟩:=Zs4 t.gang.crew.left t.gang.crew.on t.gang.deques t.gang.takers t.gang.from_
  rw[cond_true,show t.gang=⟨⟨t.gang.crew.on,t.gang.crew.left⟩,t.gang.deques,t.gang.takers,t.gang.from_⟩ from rfl,h1,Option.bind_some]
  cases b with
  | false=>exact⟨false,rfl,fun h=>by cases h⟩
  | true=>
   rw[cond_true]
   by_cases c:(t.demand.length:Int)<=70
   ·rw[decide_eq_true c];exact⟨true,rfl,fun _=>⟨rfl,h2 rfl,by omega⟩⟩
   ·rw[decide_eq_false c];exact⟨false,rfl,fun h=>by cases h⟩
theorem Zsk {t:ZK} (W:Ze4 t.gang.crew.left t.gang.crew.on t.gang.deques t.gang.takers t.gang.from_) (hd:t.demand.length<=70):ZeK t=some t.gang.deques:=by
 unfold ZeK
 rw[Zc1 (show t.demand.length<=1073741824 by omega),cond_true,show t.gang=⟨⟨t.gang.crew.on,t.gang.crew.left⟩,t.gang.deques,t.gang.takers,t.gang.from_⟩ from rfl,Zwr W]
 rfl
theorem Zou (l:List Int) (h:l.length<=100000):ZaB l l=some true:=by
 unfold ZaB
 rw[bne_self_eq_false,cond_false,ZkC l (ZcH l l) (.inr ()) (fun i x hi hx=>by simp only[ZcH,ZcJ hi,cond_true,Zr hx,Option.bind_some,bne_self_eq_false,cond_false,ZN hi (show l.length<9223372036854775808 by omega)]) (by simp only[ZcH,ZcW,cond_false])]
 rfl
theorem ZtY {R:Type} (step:Int->Option (Int⊕R)) (r:R) (h:step 0=some (.inr r)):lp step 0=some r:=by rw[ZbS,h]
theorem ZzG:Zfh Zkv Zkv=some true:=by
 have i0:ZaB [] []=some true:=Zou [] (by simp)
 unfold Zfh Zfd Zhs Zkv
 simp only[cond_false,i0,Option.bind_some,cond_true,beq_self_eq_true,bne_self_eq_false]
 rw[ZtY _ (.inr ()) rfl,Option.bind_some]
 dsimp only
 rw[ZtY _ (.inr ()) rfl]
 rfl
theorem ZpI {t:ZK}{row done:List Int}{g:Zm}{x:ZK×ZT×Int} (h1:x.1.gang.crew.left=ZD t.gang.crew.left row) (h2:x.2.1.on=row) (h3:x.2.1.done=done) (c:Zbr g t.gang.crew.left row) (hd:∀z,z∈done↔z∈row/\z ≠ -1/\lf (ZD t.gang.crew.left row) z=0) (hl:done.length<=8) (h64:t.gang.crew.left.length<=64) :
  lp (Zaw t x) 0=some (.inr ()):=by
 have o8:=c.o8
 have hlen:=Zci row t.gang.crew.left
 refine ZkC t.gang.crew.left (Zaw t x) (.inr ()) (fun i y hi hy=>?_) (by simp only[Zaw,ZcW,cond_false])
 have e0:lf t.gang.crew.left (i:Int)=y:=Znt hy
 have e1:ZG (ZD t.gang.crew.left row) (i:Int)=some (lf (ZD t.gang.crew.left row) (i:Int)):=Zlk ⟨by omega,by rw[hlen];simpa using hi⟩
 have e2:=Zoj c.ok (show(0:Int)<=(i:Int) by omega)
 have hy':=c.ok.rng y (List.mem_of_getElem? hy)
 have hdi:=hd (i:Int)
 simp only[Zaw,ZcJ hi,cond_true,h1,h2,h3,Zsi row (i:Int) (by omega),Zsi done (i:Int) (by omega),Zhm,Option.bind_some,hlen,e1,Zr hy,decide_eq_false (show ¬(t.gang.crew.left.length:Int)<=(i:Int) by omega),cond_false,ZN hi (show t.gang.crew.left.length<9223372036854775808 by omega),Zc3 (show -9223372036854775808<=y-1 by omega) (by omega),Zc3 (show -9223372036854775808<=y-0 by omega) (by omega)]
 by_cases hm:(i:Int)∈row
 ·rw[if_pos hm,e0] at e2
  rw[decide_eq_true hm,cond_true,show(lf (ZD t.gang.crew.left row) (i:Int) != y-1)=false by rw[e2];simp,cond_false]
  by_cases hz:lf (ZD t.gang.crew.left row) (i:Int)=0
  ·rw[decide_eq_true (hdi.2 ⟨hm,by omega,hz⟩),show(lf (ZD t.gang.crew.left row) (i:Int)==0)=true from beq_iff_eq.2 hz]
   rfl
  ·rw[decide_eq_false (fun h=>hz (hdi.1 h).2.2),show(lf (ZD t.gang.crew.left row) (i:Int)==0)=false from beq_eq_false_iff_ne.2 hz]
   rfl
 ·rw[if_neg hm,e0] at e2
  rw[decide_eq_false hm,cond_false,show(lf (ZD t.gang.crew.left row) (i:Int) != y-0)=false by rw[e2];simp,cond_false,decide_eq_false (fun h=>hm (hdi.1 h).1)]
  rfl
theorem ZnE (g:Zm) (t:ZK) (picks:List Int):ZdN g t picks=some true:=by
 unfold ZdN
 simp only[ZcQ,Option.bind_some,cond_true]
 obtain⟨b,hb,hb2⟩:=Zw9 g t
 rw[hb,Option.bind_some]
 cases b with
 | false=>rfl
 | true=>
 obtain⟨hf,W,hdl⟩:=hb2 rfl
 obtain⟨hw,he,hsh⟩:=ZsJ hf
 rw[cond_true]
 by_cases hp:300<(picks.length:Int)
 ·rw[decide_eq_true hp];rfl
 rw[decide_eq_false hp,cond_false]
 have hints:Ze8 picks=some ():=by
  unfold Ze8
  rw[Zc1 (show picks.length<=1073741824 by omega)];rfl
 simp only[ZxC hf,Zsk W hdl,hints,Option.bind_some]
 have tick:(∃e,Zey g (ZK.mk t.stealing t.demand t.state (Zx.mk t.gang.crew t.gang.deques t.gang.takers t.gang.from_)) picks=some (Zkv,Zxw,e)/\e≠0) ∨
   ∃(row:List Int) (ds':List Za) (ts':List Ze) (fs' done:List Int) (n:Int),
   Zey g (ZK.mk t.stealing t.demand t.state (Zx.mk t.gang.crew t.gang.deques t.gang.takers t.gang.from_)) picks=some (⟨t.stealing,t.demand,Zd6 g t.demand (ZD t.gang.crew.left row),⟨⟨ZJ t.gang.crew.left row,ZD t.gang.crew.left row⟩,ds',ts',fs'⟩⟩,⟨row,done,n⟩,0)/\row.length=t.gang.crew.on.length/\Zbr g t.gang.crew.left row/\ZqN g t.demand t.stealing (Zd6 g t.demand (ZD t.gang.crew.left row)) (ZD t.gang.crew.left row) (ZJ t.gang.crew.left row) ds' ts' fs'/\(∀z,z∈done↔z∈row/\z ≠ -1/\lf (ZD t.gang.crew.left row) z=0)/\done.length<=8:=by
  unfold Zey
  rcases Zpb (d:=t.stealing) (dem:=t.demand) (st:=t.state) hsh W hdl with⟨e,q1,q2⟩ | ⟨q1,T⟩
  ·rw[show(ZK.mk t.stealing t.demand t.state (Zx.mk t.gang.crew t.gang.deques t.gang.takers t.gang.from_))=⟨t.stealing,t.demand,t.state,⟨⟨t.gang.crew.on,t.gang.crew.left⟩,t.gang.deques,t.gang.takers,t.gang.from_⟩⟩ from rfl,q1,Option.bind_some,show(e==0)=false from beq_eq_false_iff_ne.2 q2,cond_false,Zkk q2]
   exact .inl ⟨e,rfl,q2⟩
  ·rw[show(ZK.mk t.stealing t.demand t.state (Zx.mk t.gang.crew t.gang.deques t.gang.takers t.gang.from_))=⟨t.stealing,t.demand,t.state,⟨⟨t.gang.crew.on,t.gang.crew.left⟩,t.gang.deques,t.gang.takers,t.gang.from_⟩⟩ from rfl,q1,Option.bind_some,beq_self_eq_true,cond_true]
   by_cases hst:t.state=1
   ·simp only[show(t.state != 1)=false by rw[hst];rfl,cond_false,show((0:Int) != 0)=false from rfl]
    rcases Ztb T (picks:=picks) (by omega) with⟨e,r1,r2⟩ | ⟨row,ds',ts',fs',done,n,r1,r2,r3,r4,r5,r6⟩
    ·rw[r1];exact .inl ⟨e,rfl,r2⟩
    ·rw[r1];exact .inr ⟨row,ds',ts',fs',done,n,rfl,r2,r3,r4,r5,r6⟩
   ·simp only[show(t.state != 1)=true from bne_iff_ne.2 hst,cond_true]
    exact .inl ⟨191,rfl,by decide⟩
 rcases tick with⟨e,q1,q2⟩ | ⟨row,ds',ts',fs',done,n,q1,q2,q3,q4,q5,q6⟩
 ·rw[q1,Option.bind_some]
  simp only[Zkk q2,cond_true]
  rw[show(ZK.mk false ([]:List Int) 0 (Zx.mk (Zz.mk ([]:List Int) ([]:List Int)) ([]:List Za) ([]:List Ze) ([]:List Int)))=Zkv from rfl,ZzG]
  rfl
 ·have hck:=q4.ck
  obtain⟨hG,hA⟩:=Za0 hck
  have h64:t.gang.crew.left.length<=64:=by rw[q3.ll];exact hG.wl
  have W2:Ze4 (ZD t.gang.crew.left row) (ZJ t.gang.crew.left row) ds' ts' fs':=by
   cases hs:t.stealing with
   | true=>exact(q4.from_ hs).few hG
   | false=>
    obtain⟨rfl,rfl,rfl⟩:=q4.off hs
    have o8:=q4.crew.o8
    exact⟨by omega,by rw[Zci];omega,by simp,by simp,by simp,fun q hq=>by cases hq⟩
  rw[q1,Option.bind_some]
  simp only[show((0:Int) != 0)=false from rfl,cond_false]
  rw[ZpI (g:=g) (row:=row) (done:=done) rfl rfl rfl q3 q5 q6 h64,Option.bind_some]
  simp only[Zsk (t:=⟨t.stealing,t.demand,Zd6 g t.demand (ZD t.gang.crew.left row),⟨⟨ZJ t.gang.crew.left row,ZD t.gang.crew.left row⟩,ds',ts',fs'⟩⟩) W2 hdl,Option.bind_some,Zrt q4 hdl,beq_self_eq_true,cond_true,show((row.length:Int)==(t.gang.crew.on.length:Int))=true from beq_iff_eq.2 (by omega),Zou t.demand (by omega)]
theorem ZrJ {xs:List D} (h:ZdL [.bool,.sl false [.int .i64],.int .i64,.sl false [.int .i64],.sl false [.int .i64],.sl true [.sl false [.int .i64],.int .i64,.int .i64],.sl true [.bool,.int .i64,.int .i64,.int .i64,.int .i64,.int .i64],.sl false [.int .i64]] xs):∃t:ZK,D.agg xs=Zzm t:=by
 obtain⟨_,_,rfl,⟨b,rfl⟩,_,_,rfl,h2,_,_,rfl,⟨s,rfl,_⟩,_,_,rfl,h4,_,_,rfl,h5,_,_,rfl,h6,_,_,rfl,h7,_,_,rfl,h8,rfl⟩:=h
 obtain⟨dem,rfl,_⟩:=Zhf h2
 obtain⟨on,rfl,_⟩:=Zhf h4
 obtain⟨left,rfl,_⟩:=Zhf h5
 obtain⟨ds,rfl,_,_⟩:=Zo9 (f:=Zt) (p:=fun _=>True) h6 fun cs hc=>by
  obtain⟨_,_,rfl,h1,_,_,rfl,⟨t,rfl,_⟩,_,_,rfl,⟨b,rfl,_⟩,rfl⟩:=hc
  obtain⟨r,rfl,_⟩:=Zhf h1
  exact⟨⟨r,t,b⟩,rfl,trivial⟩
 obtain⟨ts,rfl,_,_⟩:=Zo9 (f:=Zv) (p:=fun _=>True) h7 fun cs hc=>by
  obtain⟨_,_,rfl,⟨s,rfl⟩,_,_,rfl,⟨a,rfl,_⟩,_,_,rfl,⟨x,rfl,_⟩,_,_,rfl,⟨y,rfl,_⟩,_,_,rfl,⟨z,rfl,_⟩,_,_,rfl,⟨e,rfl,_⟩,rfl⟩:=hc
  exact⟨⟨s,a,x,y,z,e⟩,rfl,trivial⟩
 obtain⟨fs,rfl,_⟩:=Zhf h8
 exact⟨⟨b,dem,s,⟨⟨on,left⟩,ds,ts,fs⟩⟩,rfl⟩
theorem Zpe (xs:List D) (h:ZdL Zqw.1 xs) (ys:List D) (k:ZdL Zqt.1 ys) (zs:List D) (m:ZdL ZqO.1 zs) :
  ∃H',evW ctx 3 (ZaU [ZnQ Zqw.2 xs,ZnQ Zqt.2 ys,ZnQ ZqO.2 zs]) []=some (.d (.bool true),H'):=by
 obtain⟨d0,e0,_⟩:=ZtG h
 obtain⟨d1,e1⟩:=ZrJ k
 obtain⟨d2,e2,_⟩:=Zrj m
 show ∃H',evW ctx 3 [.d (D.agg xs),.d (D.agg ys),.d (ZnQ false zs)] []=_
 rw[e0,e1,e2]
 exact Zv0 (Zh9 true (ZnE d0 d1 d2))
open Go Go.Proofs Go.Proofs.YtgcfmiajkbbmeaaGreatE
theorem Zwh:((begin Tryz.prog (fun _ _=>0) default).world.heap[1]?).bind Obj.row? = some (Array.replicate 64 (.int .u8 0),226):=by kernel_rfl
theorem ZsM:Tryz.prog.cellTypes Tryz.prog.depth 226=some (List.replicate 64 5):=by kernel_rfl
def Zmj (cs:Array Value) (i:Nat):Int:=match cs[i]? with | some (.int _ m)=>m | _=>0
def ZkE (cs:Array Value):List (IntKind×Int):=(List.range 64).map fun i=>(.u8,Zmj cs i)
theorem Zrz {W:World} (h:W.ShapedOpen Tryz.prog):∃G:ZQ,Zmr G/\GOK G R0 W:=by
 obtain⟨cs,h1,h2,h3⟩:=h.1 1 _ 226 (of_decide_eq_true (by kernel_rfl)) Zwh
 obtain⟨ts,t1,_,t2⟩:=h3 (by kernel_rfl)
 rw[ZsM] at t1
 have hts:ts=List.replicate 64 5:=(Option.some.inj t1).symm
 subst hts
 have hsz:cs.size=64:=by rw[h2];simp
 have cell:∀i,i<64->cs[i]? = some (.int .u8 (Zmj cs i)):=fun i hi=>by
  have hi2:i<cs.size:=by omega
  obtain⟨u,hu,hok⟩:=t2 i cs[i] (by simp[hi2])
  have hu5:u=5:=(List.mem_replicate.1 (List.mem_of_getElem? hu)).2
  subst hu5
  unfold Cell.ok at hok
  rw[Tryz.underlying5] at hok
  have hg:cs[i]? = some cs[i]:=by simp[hi2]
  unfold Zmj
  rw[hg]
  cases hv:cs[i]<;>rw[hv] at hok<;>simp at hok
  case int k n=>rw[hok.1]
 refine⟨fun g=>if g=1 then some (ZkE cs) else none,⟨ZkE cs,by simp,by simp[ZkE],fun x hx=>?_⟩,fun g l hg=>?_⟩
 ·obtain⟨i,_,rfl⟩:=List.mem_map.1 hx
  rfl
 ·by_cases hg1:g=1
  ·subst hg1
   simp only[if_true] at hg
   cases hg
   refine Zx7 ⟨1,0,rfl,trivial,(Array.getElem?_eq_some_iff.1 h1).1,ZeL _ _ fun j x hj=>?_⟩
   rw[ZrI,List.getElem?_map] at hj
   have hj64:j<64:=by
    refine Classical.byContradiction fun hn=>?_
    rw[List.getElem?_eq_none (by simp[ZkE];omega)] at hj
    cases hj
   have hr:(ZkE cs)[j]? = some (.u8,Zmj cs j):=by simp[ZkE,hj64]
   rw[hr] at hj
   cases hj
   refine⟨.int .u8 (Zmj cs j),?_,rfl⟩
   simp only[World.cell?,h1,Nat.zero_add]
   simpa using cell j hj64
  ·dsimp only at hg
   rw[if_neg hg1] at hg
   cases hg
end Go.Proofs.YtgcfmiajkbbmeaaGreat
namespace Go.Proofs.YtgcfmiajkbbmeaaGreat.LawTeamStays
open Go.ChangeShapes Go.WideShapes Go.ChangeAt Go.RowKit Go.Proofs.YtgcfmiajkbbmeaaGreatE
theorem own:ownKnob Tryz.prog.godebug=none:=by kernel_rfl
theorem Zpm:laidOutB Tryz.prog=true:=by kernel_rfl
theorem Zyo (os:Os) (started:os.Started) (H:Type) (enc:TypeId×Value->H) :
  ReturnsInHanded {} Tryz.checked os 3 .any (Rows.teamStaysSpec.pre6 enc Tryz.prog Tryz.f3 Rows.teamStaysRow.domain false) (Rows.teamStaysSpec.post enc Tryz.prog Tryz.f3 false true false false):=by
 refine returnsInHanded_of_change_shaped (C:=Tryz.checked) own started (by kernel_rfl) Tryz.func3
  (ChangeSpec.witness6 (enc:=enc) (C:=Tryz.checked) false ⟨#[],#[.agg #[.slice none 0 0,.slice none 0 0],.agg #[.bool false,.slice none 0 0,.int .i64 0,.slice none 0 0,.slice none 0 0,.slice none 0 0,.slice none 0 0,.slice none 0 0],.slice none 0 0],[]⟩ 8 (by kernel_rfl) (by kernel_rfl) (by kernel_rfl) (by kernel_rfl)) ?_
 intro W base args ds gs before hval0 hW _ _ hSh _
 obtain⟨G,hG,hgt⟩:=Zrz hSh
 have hval:∀(j:Nat) t v,Tryz.f3.params[j]? = some t->args[j]? = some v->Value.okWide Tryz.prog W .any base t v:=hval0
 have hW':=hW
 obtain⟨p,q,hA0,hV,rfl,hfz,hnd⟩:=hW
 have hA:DataW.TrodAll enc Tryz.prog W 0 (fun _=>true) true Tryz.f3.params.toList args.toList ds p:=hA0
 rw[Tryz.params3] at hA hval
 obtain⟨v0,vs0,d0,ds0,p0,q0,hargs,rfl,rfl,h0,r0⟩:=trodAll_cons hA
 obtain⟨v1,vs1,d1,ds1,p1,q1,rfl,rfl,rfl,h1,r1⟩:=trodAll_cons r0
 obtain⟨v2,vs2,d2,ds2,p2,q2,rfl,rfl,rfl,h2,r2⟩:=trodAll_cons r1
 obtain⟨rfl,rfl,rfl⟩:=trodAll_nil r2
 obtain rfl:args = #[v0,v1,v2]:=by cases args;simp_all
 obtain⟨rfl,rfl⟩:=trodVars_none hV
 have lt0:∀x∈p0,x.block<W.heap.size:=by obtain⟨m,hm⟩:=h0;exact DataW.trod_lt m _ _ _ hm
 obtain⟨x0,ok0,den0⟩:=Zrf (P:=Tryz.prog) (n:=8) (t:=25) (l:=Zqw.1) (ag:=Zqw.2) (by kernel_rfl) (hval 0 25 v0 rfl rfl) h0
 have lt1:∀x∈p1,x.block<W.heap.size:=by obtain⟨m,hm⟩:=h1;exact DataW.trod_lt m _ _ _ hm
 obtain⟨x1,ok1,den1⟩:=Zrf (P:=Tryz.prog) (n:=8) (t:=34) (l:=Zqt.1) (ag:=Zqt.2) (by kernel_rfl) (hval 1 34 v1 rfl rfl) h1
 have lt2:∀x∈p2,x.block<W.heap.size:=by obtain⟨m,hm⟩:=h2;exact DataW.trod_lt m _ _ _ hm
 obtain⟨x2,ok2,den2⟩:=Zrf (P:=Tryz.prog) (n:=8) (t:=22) (l:=ZqO.1) (ag:=ZqO.2) (by kernel_rfl) (hval 2 22 v2 rfl rfl) h2
 obtain⟨H1,ev⟩:=Zpe x0 ok0 x1 ok1 x2 ok2
 have den:ZR All All All W [ZnQ Zqw.2 x0,ZnQ Zqt.2 x1,ZnQ ZqO.2 x2] [v0,v1,v2]:=⟨_,_,rfl,den0,⟨_,_,rfl,den1,⟨_,_,rfl,den2,rfl⟩⟩⟩
 refine(Zty (ZzY G hG) hgt den ev).mono fun e W' ⟨he,bel⟩=>?_
 subst he
 exact⟨_,rfl,_,_,_,[],_,[],hW',trodAll_mk1 (shut_bool Tryz.underlying4 _),(trodAll_cons_mk (Below.trod Zpm (by kernel_rfl) (of_decide_eq_true (by kernel_rfl)) h0 bel lt0) (trodAll_cons_mk (Below.trod Zpm (by kernel_rfl) (of_decide_eq_true (by kernel_rfl)) h1 bel lt1) (trodAll_cons_mk (Below.trod Zpm (by kernel_rfl) (of_decide_eq_true (by kernel_rfl)) h2 bel lt2) trodAll_mk0))),rfl,bel.frame _,fun h=>by cases h⟩
theorem over:Rows.teamStaysRow.holds Tryz.pinned (OpenSpec.ofChange Rows.teamStaysSpec):=
 OpenClaim.holds_of_wide 3 Tryz.f3 rfl rfl rfl rfl rfl rfl rfl ⟨rfl,rfl,rfl,rfl,rfl⟩ rfl rfl rfl rfl rfl (by kernel_rfl) Tryz.func3 (by kernel_rfl)
  (of_decide_eq_true (by kernel_rfl)) (by unfold Func.isWrapper;first | (rw[if_pos (by decide +kernel)];kernel_rfl) | (rw[if_neg (by decide +kernel)];exact⟨rfl,rfl⟩))
  (fun os started H enc _=>Zyo os started H enc)
theorem proved:Rows.TeamStaysSaid:=over
end Go.Proofs.YtgcfmiajkbbmeaaGreat.LawTeamStays
namespace Go.Proofs.YtgcfmiajkbbmeaaGreat
theorem teamStays_holds:Rows.TeamStaysSaid:=LawTeamStays.proved
#print axioms teamStays_holds
end Go.Proofs.YtgcfmiajkbbmeaaGreat
