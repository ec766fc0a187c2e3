/- LowWork: part 3 of 5 of the proof. -/
import Derived.Test.YtljgncbdagmeeaaDoorZLowWorkb
import Derived.RangeFuncNested
import Derived.RangeFuncBox
import Derived.RangeFuncLeaves
import Derived.Shelf.Abstract
import Derived.WalkKit
import Derived.OwnWalkIn
import Derived.TacticsInMore
import Derived.LoopNIn
import Derived.LoopIn
import Derived.Scope
import Derived.Test.YtljgncbdagmeeaaDoorProg
import Derived.KernelRfl
import Derived.ChangeArms
import Derived.Deep.Slices
import Derived.ChangeOld
import Derived.WideShapes
import Derived.FnData
import Derived.MakeChecks
import Derived.LaidMore
import Derived.OpenShut
set_option maxRecDepth 100000
set_option maxHeartbeats 40000000
namespace Go.Proofs.YtljgncbdagmeeaaDoorE
open Go
set_option linter.unusedVariables false
set_option linter.unusedSimpArgs false
theorem Zpe {e e':Env}:∀(g:Option (Nat×Bool)),(∀s b,g=some (s,b)→e s=e' s)→ZeM e g=ZeM e' g
 | none,_=>rfl
 | some (s,b),h=>by simp only[ZeM,h s b rfl]
section
variable {P:Program} {G:Zbx} {N:Nat} {Γ:Ctx} {cf:Zbg} {t:Zcq} {l:List Op1} {e:Env} {H:Zl} {e':Env} {H':Zl} {os:Array Oper} {B:Nat→Nat→Prop} {Rf:RP} {wf:World}
structure ZrG (P:Program) (N:Nat) (t:Zcq) (l:List Op1) (os:Array Oper) (e:Env) (H:Zl) (Rf:RP) (wf:World) (D:Nat→Bool) (a:Act) (w:World):Prop where
 closed:Zls os D
 ex:∃K R env,K≤l.length∧(∀m p,l[m]? = some p→m<K→3≤ZaH p→D m=true)∧(K<l.length→∃p,l[K]? = some p∧3≤ZaH p∧D K=false) ∧
  Ext Rf wf R w∧R.OK w∧R.H=ZgU t D K∧(∀i,H.length≤i→(∀j,j<l.length→D j=true→¬(t.len j≤i∧i<t.len (j+1)))→R.M i=none)∧Zf2 R w env a ∧
  (∀j p d,l[j]? = some p→p.dst=some d→D j=true→env d=t.VV j)∧(∀d,(∀j p,l[j]? = some p→p.dst=some d→D j=false)→env d=e d)
 tm:N≤a.tmps.size
 df:a.defers=[]
theorem Zsx (ht:t.OK Γ cf [] l e H e' H') {D:Nat→Bool} {s:Nat} {R:RP} {w:World} (hs:s≤l.length) (ok:R.OK w) (hH:R.H=t.HH s) (hb:∀m p,l[m]? = some p→m<s→2≤ZaH p→D m=true) (ha:∀m p,l[m]? = some p→s≤m→2≤ZaH p→D m=false) :
  ∃K,K≤l.length∧(∀m p,l[m]? = some p→m<K→3≤ZaH p→D m=true)∧(K<l.length→∃p,l[K]? = some p∧3≤ZaH p∧D K=false)∧Ext R w { R with H:=ZgU t D K } w∧RP.OK { R with H:=ZgU t D K } w:=by
 obtain⟨K,h1,h2,h3,h4⟩:=ZtR l s hs
 have live:∀(i:Nat) blk,(ZgU t D K)[i]? = some blk→blk ≠ .dead→R.H[i]? = some blk:=fun i blk h hd=>by
  obtain⟨g1,g2⟩:=Zp7 h hd
  rw[ZhS] at g2
  have hiK:i<t.len K:=(List.getElem?_eq_some_iff.1 g1).1
  by_cases hi:i<t.len s
  ·rw[hH,← ht.stay K h1 h2 h3 i hi]; exact g1
  ·obtain⟨j,f1,f2,f3,f4⟩:=ht.whose K h1 h2 (by omega) hiK
   have hp:l[j]? = some (l[j]'(by omega)):=List.getElem?_eq_getElem (by omega)
   have d1:=ha j _ hp f1 (ht.new2 hp ⟨f3,f4⟩)
   rw[g2 j f2 f3 f4] at d1; cases d1
 refine⟨K,h2,fun m p hp hm hc=>?_,fun hK=>?_,Ext.kill live,ok.kill live⟩
 ·rcases Nat.lt_or_ge m s with h | h
  ·exact hb m p hp h (by omega)
  ·have:=h3 m p h hm hp; omega
 ·obtain⟨p,f1,f2⟩:=h4 hK
  exact⟨p,f1,f2,ha K p f1 h1 (by omega)⟩
def upd (D:Nat→Bool) (j:Nat):Nat→Bool:=fun i=>if i=j then true else D i
theorem step (c:Zkj P G cf Rf wf) (hlo:Rf.H.length≤H.length) (ht:t.OK Γ cf [] l e H e' H') (hk:Chk P G N os l B) {Q:Exit→Act→World→Prop} {D:Nat→Bool} {a:Act} {w:World} (s:ZrG P N t l os e H Rf wf D a w) {j:Nat} {o:Oper} (ho:os[j]? = some o) (hDj:D j=false) (hpre:∀i∈ZkI o,D i=true) :
  wpOp P os Q j (fun a' w'=>ZrG P N t l os e H Rf wf (upd D j) a' w') a w:=by
 obtain⟨K,R,env,hK,hKd,hKn,x,ok,hH,hM,hE,hV,hO⟩:=s.ex
 have hjl:j<l.length:=by rw[← hk.len]; exact(Array.getElem?_eq_some_iff.1 ho).1
 obtain⟨p,hp⟩:∃p,l[j]? = some p:=⟨_,List.getElem?_eq_getElem hjl⟩
 have hoper:=hk.oper j o p ho hp
 simp only[ZmL,Bool.and_eq_true] at hoper
 obtain⟨k1,k2,k3⟩:=hoper
 have down:∀i,B i j→D i=true:=fun i hb=>hk.down s.closed j i o ho hpre hb
 have downD:∀i k,k<l.length→D k=true→B i k→D i=true:=fun i k h1 h2 h3=>hk.downD s.closed h1 h2 h3
 have slot:∀d,d∈Zc1 p→env d=t.E j d:=fun d hd=>by
  by_cases hx:∃(i:Nat) (q:Op1),l[i]? = some q∧q.dst=some d
  ·obtain⟨i,q,hq,hqd⟩:=hx
   have old:j≤i→D i=false→env d=t.E j d:=fun hji hDi=>by
    rw[hO d fun i' q' hq' hqd'=>by rw[hk.dst i' i q' q d hq' hq hqd' hqd]; exact hDi,ht.env0 j (by omega) fun i' q' hi' hq' hqd'=>by
     have:=hk.dst i' i q' q d hq' hq hqd' hqd; omega]
   rcases hk.reads i j q p d hq hp hqd hd with hb | hb | hb
   ·rw[hV i q d hq hqd (down i hb),ht.envd hk hq hqd j (hk.lt j i hjl hb) (by omega)]
   ·have hi:=(List.getElem?_eq_some_iff.1 hq).1
    refine old (Nat.le_of_lt (hk.lt i j hi hb)) ?_
    cases hDi:D i with
    | false=>rfl
    | true=>have:=downD j i hi hDi hb; rw[hDj] at this; cases this
   ·subst hb; exact old (Nat.le_refl _) hDj
  ·have hn:∀(i:Nat) (q:Op1),l[i]? = some q→q.dst≠some d:=fun i q hq hqd=>hx ⟨i,q,hq,hqd⟩
   rw[hO d fun i q hq hqd=>absurd hqd (hn i q hq),ht.env0 j (by omega) fun i q _ hq=>hn i q hq]
 have hg:ZeM env p.guard=some (t.W j):=by
  rw[← ht.w j p hp]
  refine Zpe _ fun s' b hs=>slot s' ?_
  unfold Zc1
  rw[hs]; simp
 have hwant:=Zpw (a:=a) hE k2 hg
 have hop:∀nid Hm,opE Γ cf env nid Hm p.op=opE Γ cf (t.E j) nid Hm p.op:=fun nid Hm=>by
  refine ZrR _ fun y hy=>?_
  cases y with
  | c v=>rfl
  | t i=>
   refine slot i ?_
   unfold Zc1
   exact List.mem_append_left _ (List.mem_filterMap.2 ⟨.t i,hy,rfl⟩)
 have closed':Zls os (upd D j):=fun k o' hk' hd i hi=>by
  unfold upd at hd ⊢
  by_cases hik:i=j
  ·rw[if_pos hik]
  ·rw[if_neg hik]
   by_cases hkj:k=j
   ·subst hkj; rw[ho] at hk'; cases hk'; exact hpre i hi
   ·rw[if_neg hkj] at hd; exact s.closed k o' hk' hd i hi
 have fin:∀(K':Nat) (R':RP) (u:Value) (w':World),K'≤l.length→(∀m p,l[m]? = some p→m<K'→3≤ZaH p→upd D j m=true)→(K'<l.length→∃p,l[K']? = some p∧3≤ZaH p∧upd D j K'=false) →
   Ext R w R' w'→R'.OK w'→R'.H=ZgU t (upd D j) K'→(∀i,R.M i=none→¬(t.len j≤i∧i<t.len (j+1))→R'.M i=none)→ZaY R' w' (t.VV j) u→ZrG P N t l os e H Rf wf (upd D j) (a.put o.dst u) w':=by
  intro K' R' u w' hK' hKd' hKn' x' ok' hH' hM' hv
  refine⟨closed',⟨K',R',Zmn env p.dst (t.VV j),hK',hKd',hKn',x.trans x',ok',hH',fun i hi hni=>?_,ZnU (x'.envOK ok.b01 hE) k1 s.tm hv,fun i q d hq hqd hd=>?_,fun d hd=>?_⟩,by rw[ZpM]; exact s.tm,by rw[Zqh]; exact s.df⟩
  ·refine hM' i (hM i hi fun m hm hd=>hni m hm ?_) (hni j hjl ?_)
   ·unfold upd; split
    ·rfl
    ·exact hd
   ·unfold upd; rw[if_pos rfl]
  ·cases hpd:p.dst with
   | none=>
    show env d=_
    have hij:i≠j:=fun h=>by subst h; rw[hp] at hq; cases hq; rw[hpd] at hqd; cases hqd
    refine hV i q d hq hqd ?_
    unfold upd at hd; rw[if_neg hij] at hd; exact hd
   | some d'=>
    show(bif Nat.beq d' d then t.VV j else env d)=_
    cases hb:Nat.beq d' d with
    | true=>
     obtain rfl:=Nat.eq_of_beq_eq_true hb
     obtain rfl:=hk.dst i j q p d' hq hp hqd hpd
     rfl
    | false=>
     have hij:i≠j:=fun h=>by
      subst h; rw[hp] at hq; cases hq; rw[hpd] at hqd; cases hqd; rw[Nat.beq_refl] at hb; cases hb
     refine hV i q d hq hqd ?_
     unfold upd at hd; rw[if_neg hij] at hd; exact hd
  ·have h0:env d=e d:=hO d fun i q hq hqd=>by
    have:=hd i q hq hqd
    unfold upd at this
    by_cases hij:i=j
    ·rw[if_pos hij] at this; cases this
    ·rw[if_neg hij] at this; exact this
   cases hpd:p.dst with
   | none=>exact h0
   | some d'=>
    show(bif Nat.beq d' d then t.VV j else env d)=_
    cases hb:Nat.beq d' d with
    | false=>exact h0
    | true=>
     obtain rfl:=Nat.eq_of_beq_eq_true hb
     have:=hd j p hp hpd
     unfold upd at this; rw[if_pos rfl] at this; cases this
 have hlen:=ht.len_succ hjl
 have own:∀i m,m<l.length→(t.len m≤i∧i<t.len (m+1))→(t.len j≤i∧i<t.len (j+1))→m=j:=fun i m hm h1 h2=>ht.one hm hjl h1 h2
 have base:H.length≤t.len j:=by
  have:=ht.len_mono (a:=0) j (by omega) (by omega)
  unfold Zcq.len at this ⊢; rw[ht.h0] at this; exact this
 have free:∀i,t.len j≤i→i<t.len j+(t.NW j).length→R.M i=none:=fun i h1 h2=>hM i (by omega) fun m hm hd h=>by
  have:=own i m hm h ⟨h1,by omega⟩
  subst this; rw[hDj] at hd; cases hd
 rcases Nat.lt_or_ge (ZaH p) 3 with hc | hc
 ·
  have hKd':∀m p,l[m]? = some p→m<K→3≤ZaH p→upd D j m=true:=fun m p' h1 h2 h3=>by
   unfold upd; split
   ·rfl
   ·exact hKd m p' h1 h2 h3
  have hKn':K<l.length→∃p,l[K]? = some p∧3≤ZaH p∧upd D j K=false:=fun h=>by
   obtain⟨q,h1,h2,h3⟩:=hKn h
   refine⟨q,h1,h2,?_⟩
   unfold upd; rw[if_neg (fun h=>by subst h; rw[hp] at h1; cases h1; omega)]; exact h3
  have two:2≤ZaH p→j<K∧∀m q,j≤m→m<K→l[m]? = some q→ZaH q≤2:=fun h2=>by
   constructor
   ·rcases Nat.lt_or_ge j K with h | h
    ·exact h
    ·obtain⟨q,g1,g2,g3⟩:=hKn (by omega)
     rcases hk.order g1 hp g2 h2 with f | f | f
     ·subst f; rw[hp] at g1; cases g1; omega
     ·rw[down K f.2] at g3; cases g3
     ·omega
   ·intro m q h3 h4 hq
    rcases Nat.lt_or_ge (ZaH q) 3 with h | h
    ·omega
    ·rcases hk.order hq hp h h2 with f | f | f
     ·subst f; rw[hp] at hq; cases hq; omega
     ·omega
     ·have:=downD j m (by omega) (hKd m q hq h4 h) f.2
      rw[hDj] at this; cases this
  have stg:∀i,(ZgU t (upd D j) K)[i]? = if t.len j≤i∧i<t.len j+(t.NW j).length then (t.NW j)[i-t.len j]? else (ZgU t D K)[i]?:=fun i=>by
   by_cases hi:t.len j≤i∧i<t.len j+(t.NW j).length
   ·rw[if_pos hi]
    have h2:=ht.new2 hp (i:=i) ⟨hi.1,by omega⟩
    obtain⟨t1,t2⟩:=two h2
    rw[Zfn]
    ·rw[ht.stay (a:=j+1) K (by omega) hK (fun m q h3 h4 hq=>t2 m q (by omega) h4 hq) i (by omega),ht.stay1 hp (by omega),List.getElem?_append_right hi.1]
     rfl
    ·rw[ZhS]
     intro m hm h3 h4
     have:=own i m (by omega) ⟨h3,h4⟩ ⟨hi.1,by omega⟩
     unfold upd; rw[if_pos this]
   ·rw[if_neg hi,ZiX,ZiX]
    have:hid t (upd D j) K i=hid t D K i:=by
     rw[Bool.eq_iff_iff,Zn0,Zn0]
     constructor
     ·rintro ⟨m,h1,h2,h3⟩
      unfold upd at h2
      by_cases hm:m=j
      ·rw[if_pos hm] at h2; cases h2
      ·rw[if_neg hm] at h2; exact⟨m,h1,h2,h3⟩
     ·rintro ⟨m,h1,h2,h3,h4⟩
      have hm:m≠j:=fun h=>by subst h; omega
      exact⟨m,h1,by unfold upd; rw[if_neg hm]; exact h2,h3,h4⟩
    rw[this]
  have hpl:t.UP j=[]:=ht.noUp hp (by omega)
  unfold wpOp
  simp only[ho]
  cases hw:t.W j with
  | false=>
   rw[hw] at hwant
   rw[hwant]
   simp only[Bool.false_eq_true,if_false]
   obtain⟨n1,n2,n3⟩:=ht.n j p hp hw
   refine fin K R undef w hK hKd' hKn' (Ext.refl R w) ok ?_ (fun i h _=>h) (by rw[n1]; exact Zl0)
   rw[hH]
   apply List.ext_getElem?
   intro i
   rw[stg i,n3,if_neg (by rintro ⟨h1,h2⟩; simp at h2; omega)]
  | true=>
   rw[hw] at hwant
   rw[hwant]
   simp only[if_true]
   obtain⟨y1,y2⟩:=ht.y j p hp hw
   rw[hpl] at y1
   have see:ZaH p≤2→∀i blk,(Zff (t.HH j) ([]++t.pos j) p.mask)[i]? = some blk→blk ≠ .dead→(t.HH j)[i]? = some blk∧∀m,m<j→t.len m≤i→i<t.len (m+1)→D m=true:=fun _ i blk h hd=>by
    obtain⟨h1,h2⟩:=ZkW _ _ _ i blk h hd
    refine⟨h1,fun m hm h3 h4=>?_⟩
    have hq:l[m]? = some (l[m]'(by omega)):=List.getElem?_eq_getElem (by omega)
    rcases hk.early m j _ p hq hp hm with f | f | f
    ·omega
    ·exact down m f
    ·have h5:=h2 m f (t.len m) (t.NW m).length (by simp[Zcq.pos,hm,Zcq.len])
     have:=ht.len_succ (j:=m) (by omega)
     omega
   have hHm:∃Hm,(∀b blk,nth Hm b=some blk→blk ≠ .dead→nth R.H b=some blk)∧opE Γ cf env (t.len j) Hm p.op=some (t.VV j,[],t.NW j):=by
    rcases Nat.lt_or_ge (ZaH p) 2 with h2 | h2
    ·rcases Znj (p:=p) (by omega) with⟨_,h0⟩ | ⟨h01,h1,hne⟩ | ⟨h01,he1⟩
     ·refine⟨[],fun b blk hb=>by simp[nth] at hb,?_⟩
      rw[hop,Zvn (nid':=(t.HH j).length) (H':=Zff (t.HH j) ([]++t.pos j) p.mask) h0]; exact y1
     ·refine⟨R.H,fun b blk hb _=>hb,?_⟩
      rw[hop]
      refine Zvj (H:=Zff (t.HH j) ([]++t.pos j) p.mask) (fun b blk hb hd=>?_) h1 y1
      rw[ZW] at hb
      obtain⟨g1,g2⟩:=see (by omega) b blk hb hd
      have hbj:b<t.len j:=(List.getElem?_eq_some_iff.1 g1).1
      have hbK:b<t.len K:=by
       rcases Nat.lt_or_ge j K with h | h
       ·have:=ht.len_mono (a:=j) K (by omega) hK; omega
       ·by_cases hb0:b<t.len 0
        ·have:=ht.len_mono (a:=0) K (by omega) hK; omega
        ·obtain⟨m,_,f2,f3,f4⟩:=ht.whose (a:=0) j (by omega) (by omega) (by omega) hbj
         have hdm:=g2 m f2 f3 f4
         have hq:l[m]? = some (l[m]'(by omega)):=List.getElem?_eq_getElem (by omega)
         have hmK:m<K:=by
          rcases Nat.lt_or_ge m K with h' | h'
          ·exact h'
          ·obtain⟨q,q1,q2,q3⟩:=hKn (by omega)
           rcases hk.order q1 hq q2 (ht.new2 hq ⟨f3,f4⟩) with f | f | f
           ·subst f; rw[hdm] at q3; cases q3
           ·rw[downD K m (by omega) hdm f.2] at q3; cases q3
           ·omega
         have:=ht.len_mono (a:=m+1) K (by omega) hK; omega
      have hhid:hid t D K b=false:=by
       rw[ZhS]
       intro m hm h3 h4
       rcases Nat.lt_or_ge m j with h | h
       ·exact g2 m h h3 h4
       ·have:=ht.len_mono (a:=j) m h (by omega); omega
      rw[ZW,hH,Zfn hhid]
      have three:∀m q,l[m]? = some q→(j≤m∧m<K∨K≤m∧m<j)→ZaH q≤3:=fun m q hq hm=>by
       rcases Nat.lt_or_ge (ZaH q) 3 with h | h
       ·omega
       ·rcases hk.pair m j q p hq hp h with f | f | f | f | f | f
        ·subst f; rw[hp] at hq; cases hq; omega
        ·rcases hm with hm | hm
         ·have:=hk.lt j m hjl f; omega
         ·have hdm:=down m f
          obtain⟨q',q1,q2,q3⟩:=hKn (by omega)
          rcases hk.order q1 hq q2 (by omega) with g | g | g
          ·subst g; rw[hdm] at q3; cases q3
          ·rw[downD K m (by omega) hdm g.2] at q3; cases q3
          ·omega
        ·rcases hm with hm | hm
         ·have:=downD j m (by omega) (hKd m q hq hm.2 h) f
          rw[hDj] at this; cases this
         ·have:=hk.lt m j (by omega) f; omega
        ·omega
        ·omega
        ·exact absurd f.1 hne
      rcases Nat.le_total j K with h | h
      ·obtain⟨x1,y1',z1,z2,z3⟩:=ht.like hk (a:=j) K h hK (fun m q h3 h4 hq=>three m q hq (.inl ⟨h3,h4⟩)) b hbj
       rw[g1] at z1; cases z1
       exact⟨y1',z2,z3.elim (fun h=>h ▸ Blk.like_refl hd) id⟩
      ·obtain⟨x1,y1',z1,z2,z3⟩:=ht.like hk (a:=K) j h (by omega) (fun m q h3 h4 hq=>three m q hq (.inr ⟨h3,h4⟩)) b hbK
       rw[g1] at z2; cases z2
       exact⟨x1,z1,z3.elim (fun h=>by subst h; exact Blk.like_refl hd) Blk.like_symm⟩
     ·
      obtain⟨s',hops,hgd⟩:∃s',p.op = .load 1 false (.t s')∧p.guard=none:=by
       have:=hk.eff1 j p hp
       unfold ZpO at this
       rw[he1] at this
       change (match p.op,p.guard with | .load 1 false (.t _),none=>true | _,_=>false)=true at this
       split at this
       ·exact⟨_,by assumption,by assumption⟩
       ·cases this
      have hsl:s'∈Zc1 p:=by unfold Zc1; rw[hops]; simp[ZqS,Zt5]
      have hjK:j<K:=by
       rcases Nat.lt_or_ge j K with h | h
       ·exact h
       ·obtain⟨q,g1,g2,g3⟩:=hKn (by omega)
        rcases hk.pair K j q p g1 hp g2 with f | f | f | f | f | f
        ·subst f; rw[hp] at g1; cases g1; omega
        ·rw[down K f] at g3; cases g3
        ·have:=hk.lt K j (by omega) f; omega
        ·omega
        ·exact absurd he1 f.2.2
        ·omega
      have ldE:∀(Hx:Zl) (k:Nat),opE Γ cf (t.E j) k Hx p.op=(match ZcY Hx 1 false (t.E j s') with | some v=>ZcM v | none=>none):=fun Hx k=>by rw[hops]; rfl
      rw[ldE] at y1
      have hyl:ZcY (Zff (t.HH j) ([]++t.pos j) p.mask) 1 false (t.E j s')=some (t.VV j)∧t.NW j=[]:=by
       cases hl:ZcY (Zff (t.HH j) ([]++t.pos j) p.mask) 1 false (t.E j s') with
       | none=>rw[hl] at y1; cases y1
       | some v=>
        rw[hl] at y1
        obtain⟨rfl,_,h3⟩:=Zak y1
        exact⟨rfl,h3⟩
      obtain⟨hyl,hnw⟩:=hyl
      have key:∀k,j≤k→k≤K→ZcY (t.HH k) 1 false (t.E j s')=some (t.VV j):=by
       intro k
       induction k with
       | zero=>
        intro h _
        have:j=0:=by omega
        subst this
        exact Zkz hyl fun b _ blk hb hd=>(see (by omega) b blk hb hd).1
       | succ k ih=>
        intro hjk hkK
        by_cases hjk':j=k+1
        ·subst hjk'
         exact Zkz hyl fun b _ blk hb hd=>(see (by omega) b blk hb hd).1
        ·have ih':=ih (by omega) (by omega)
         have hq:l[k]? = some (l[k]'(by omega)):=List.getElem?_eq_getElem (by omega)
         have app:∀(Ha Hb:Zl),ZcY Ha 1 false (t.E j s')=some (t.VV j)→ZcY (Ha++Hb) 1 false (t.E j s')=some (t.VV j):=fun Ha Hb hl=>
          Zkz hl fun b _ blk hb _=>by rw[List.getElem?_append_left (List.getElem?_eq_some_iff.1 hb).1]; exact hb
         rcases Nat.lt_or_ge (ZaH (l[k]'(by omega))) 3 with h | h
         ·rw[ht.stay1 hq (by omega)]
          exact app _ _ ih'
         ·rcases hk.pair k j _ p hq hp h with f | f | f | f | f | f
          ·subst f
           rw[hp] at hq
           have hq':=Option.some.inj hq
           rw[← hq'] at h
           omega
          ·have:=hk.lt j k hjl f; omega
          ·have:=downD j k (by omega) (hKd k _ hq (by omega) h) f
           rw[hDj] at this; cases this
          ·omega
          ·exact absurd he1 f.2.2
          ·cases hwk:t.W k with
           | false=>
            obtain⟨_,n2,n3⟩:=ht.n k _ hq hwk
            rw[ht.h k _ hq,n2,n3]
            exact app _ _ ih'
           | true=>
            have zc:=(ZkC (ht.y k _ hq hwk).2).2
            have hkp:=f.2.2
            unfold Zti at hkp
            rw[hops] at hkp
            split at hkp
            ·rename_i f' args chk x' y' s'' hopk hsx
             cases hsx
             rw[hopk] at zc
             obtain⟨i0,q1,q2⟩:=ZpN (show ZrL (t.E k) (t.HH k) (ZdM (t.HH k) (t.UP k)) chk=true from zc) hkp
             rw[ht.envs hk hp he1 hsl k (by omega) (by omega)] at q1 q2
             rw[q1] at ih'
             rw[ht.h k _ hq]
             exact app _ _ (q2.trans ih')
            ·cases hkp
      refine⟨R.H,fun b blk hb _=>hb,?_⟩
      rw[hop,ldE]
      have:ZcY R.H 1 false (t.E j s')=some (t.VV j):=by
       refine Zkz (key K (by omega) (Nat.le_refl _)) fun b hb blk hbk hd=>?_
       obtain⟨blk0,h5,h6⟩:=ZrD hyl hb
       obtain⟨g1,g2⟩:=see (by omega) b blk0 h5 h6
       have hbj:b<t.len j:=(List.getElem?_eq_some_iff.1 g1).1
       rw[hH,Zfn]
       ·exact hbk
       ·rw[ZhS]
        intro m hm h3 h4
        rcases Nat.lt_or_ge m j with h | h
        ·exact g2 m h h3 h4
        ·have:=ht.len_mono (a:=j) m h (by omega); omega
      rw[this,hnw]; rfl
    ·obtain⟨t1,t2⟩:=two h2
     refine⟨_,fun b blk hb hd=>?_,by rw[hop]; exact y1⟩
     rw[ZW] at hb
     obtain⟨g1,g2⟩:=see (by omega) b blk hb hd
     have hbj:b<t.len j:=(List.getElem?_eq_some_iff.1 g1).1
     rw[ZW,hH,Zfn,ht.stay K (by omega) hK t2 b hbj]
     ·exact g1
     ·rw[ZhS]
      intro m hm h3 h4
      rcases Nat.lt_or_ge m j with h | h
      ·exact g2 m h h3 h4
      ·have:=ht.len_mono (a:=j) m h (by omega); omega
   obtain⟨Hm,hle,hop'⟩:=hHm
   have pre:Pre G R w env a Hm:=⟨ok,x.gok c.ok.b01 c.g,hE,hle⟩
   have hplaced:Zae R.H [] (t.len j) (t.NW j) (ZgU t (upd D j) K):=fun i=>by rw[stg i,hH]; rfl
   refine .inl ((ZtY pre c.cf k3 hop' free hplaced).wp fun u w' hpost=>?_)
   obtain⟨R',x',ok',hH',hv,hM'⟩:=hpost
   exact fin K R' u w' hK hKd' hKn' x' ok' hH' (fun i h1 h2=>hM' i h1 (by omega)) hv
 ·
  have hjK:j=K:=by
   rcases Nat.lt_trichotomy j K with h | h | h
   ·rw[hKd j p hp h hc] at hDj; cases hDj
   ·exact h
   ·obtain⟨q,g1,g2,g3⟩:=hKn (by omega)
    rcases hk.order g1 hp g2 (by omega) with f | f | f
    ·omega
    ·rw[down K f.2] at g3; cases g3
    ·omega
  subst hjK
  have below:∀m q,l[m]? = some q→m<j→2≤ZaH q→D m=true:=fun m q hq hm h2=>by
   rcases hk.order hp hq hc h2 with f | f | f
   ·omega
   ·omega
   ·exact down m f.2
  have above:∀m q,l[m]? = some q→j<m→2≤ZaH q→D m=false:=fun m q hq hm h2=>by
   cases hd:D m with
   | false=>rfl
   | true=>
    rcases hk.order hp hq hc h2 with f | f | f
    ·omega
    ·have:=downD j m (List.getElem?_eq_some_iff.1 hq).1 hd f.2
     rw[hDj] at this; cases this
    ·omega
  have full:ZgU t D j=t.HH j:=by
   apply List.ext_getElem?
   intro i
   refine Zfn (ZhS.2 fun m hm h3 h4=>?_)
   have hq:l[m]? = some (l[m]'(by omega)):=List.getElem?_eq_getElem (by omega)
   exact below m _ hq hm (ht.new2 hq ⟨h3,h4⟩)
  rw[full] at hH
  have go:∀(R':RP) (u:Value) (w':World),Ext R w R' w'→R'.OK w'→R'.H=t.HH (j+1)→(∀i,R.M i=none→¬(t.len j≤i∧i<t.len (j+1))→R'.M i=none)→ZaY R' w' (t.VV j) u→ZrG P N t l os e H Rf wf (upd D j) (a.put o.dst u) w':=by
   intro R' u w' x' ok' hH' hM' hv
   obtain⟨K',g1,g2,g3,g4,g5⟩:=Zsx ht (D:=upd D j) (s:=j+1) (by omega) ok' hH' (fun m q hq hm h2=>by
    unfold upd
    by_cases hmj:m=j
    ·rw[if_pos hmj]
    ·rw[if_neg hmj]; exact below m q hq (by omega) h2) (fun m q hq hm h2=>by
    unfold upd; rw[if_neg (by omega)]; exact above m q hq (by omega) h2)
   exact fin K' _ u w' g1 g2 g3 (x'.trans g4) g5 rfl hM' (g4.denV ok'.b01 _ _ hv)
  unfold wpOp
  simp only[ho]
  cases hw:t.W j with
  | false=>
   rw[hw] at hwant
   rw[hwant]
   simp only[Bool.false_eq_true,if_false]
   obtain⟨n1,n2,n3⟩:=ht.n j p hp hw
   refine go R undef w (Ext.refl R w) ok ?_ (fun i h _=>h) (by rw[n1]; exact Zl0)
   rw[hH,ht.h j p hp,n2,n3]; simp[ZdM]
  | true=>
   rw[hw] at hwant
   rw[hwant]
   simp only[if_true]
   obtain⟨y1,y2⟩:=ht.y j p hp hw
   rw[hk.mask j p hp hc] at y1
   have pre:Pre G R w env a (t.HH j):=⟨ok,x.gok c.ok.b01 c.g,hE,fun b blk hb _=>by rw[hH]; exact hb⟩
   have hplaced:Zae R.H (t.UP j) (t.len j) (t.NW j) (t.HH (j+1)):=by
    rw[hH,ht.h j p hp]; exact ZmT _ _ _
   refine .inl ((ZtY pre c.cf k3 (by rw[hop]; exact y1) free hplaced).wp fun u w' hpost=>?_)
   obtain⟨R',x',ok',hH',hv,hM'⟩:=hpost
   exact go R' u w' x' ok' hH' (fun i h1 h2=>hM' i h1 (by omega)) hv
theorem ZnD {p q:Nat→Bool}:∀(l:List Nat) (j:Nat),(∀x,q x=true→p x=true)→j∈l→p j=true→q j=false→l.countP q<l.countP p
 | [],j,_,h,_,_=>by cases h
 | x :: l,j,hq,h,h1,h2=>by
  have mono:∀l:List Nat,l.countP q≤l.countP p:=fun l=>List.countP_mono_left fun x _ h=>hq x h
  rw[List.countP_cons,List.countP_cons]
  by_cases hx:x=j
  ·subst hx
   have:=mono l
   rw[h1,h2]; simp; omega
  ·have:=ZnD l j hq ((List.mem_cons.1 h).resolve_left (fun h=>hx h.symm)) h1 h2
   cases hqx:q x with
   | true=>rw[hq x hqx]; simp; omega
   | false=>cases hpx:p x<;>simp<;>omega
theorem ZsA (c:Zkj P G cf Rf wf) (hlo:Rf.H.length≤H.length) (ht:t.OK Γ cf [] l e H e' H') (hk:Chk P G N os l B) {Q:Exit→Act→World→Prop} (hQ:∀D a w,(∀j,j<l.length→D j=true)→ZrG P N t l os e H Rf wf D a w→Q .normal a w) :
  ∀(fuel:Nat) (listed:Array Bool) (a:Act) (w:World),listed.size=os.size→ZrG P N t l os e H Rf wf (fun j=>listed.getD j false) a w→(List.range os.size).countP (fun j=>!listed.getD j false)≤fuel→wpAny P .any os Q fuel listed a w:=by
 have full:∀(listed:Array Bool),listed.size=os.size→(Region.ready .any os listed=[])→∀j,j<l.length→listed.getD j false=true:=by
  intro listed hsz hr j
  induction j using Nat.strongRecOn with
  | ind j ih=>
   intro hj
   have hjs:j<os.size:=by rw[hk.len]; exact hj
   cases hd:listed.getD j false with
   | true=>rfl
   | false=>
    have:j∈Region.ready .any os listed:=by
     rw[mem_ready]
     refine⟨?_,os[j],Array.getElem?_eq_getElem hjs,fun ed he hb=>?_⟩
     ·simp only[Array.getD_eq_getD_getElem?] at hd ⊢
      rw[Array.getElem?_eq_getElem (by omega)] at hd ⊢; exact hd
     ·have hlt:=hk.pre j _ (Array.getElem?_eq_getElem hjs) ed.on (by
       unfold ZkI
       exact List.mem_map.2 ⟨ed,List.mem_filter.2 ⟨by simpa using he,hb⟩,rfl⟩)
      exact ih ed.on hlt (by omega)
    rw[hr] at this; cases this
 intro fuel
 induction fuel with
 | zero=>
  intro listed a w hsz s hc
  have hall:∀j,j<l.length→listed.getD j false=true:=fun j hj=>by
   cases hd:listed.getD j false with
   | true=>rfl
   | false=>
    have h1:0<(List.range os.size).countP (fun j=>!listed.getD j false):=List.countP_pos_iff.2 ⟨j,by simp[hk.len,hj],by simp only[hd]; rfl⟩
    omega
  refine⟨?_,hQ _ a w hall s⟩
  apply List.eq_nil_iff_forall_not_mem.2
  intro j hj
  obtain⟨h1,o,h2,_⟩:=mem_ready.1 hj
  have hjs:=(Array.getElem?_eq_some_iff.1 h2).1
  have:=hall j (by rw[← hk.len]; exact hjs)
  simp only[Array.getD_eq_getD_getElem?] at h1 this
  rw[Array.getElem?_eq_getElem (by omega)] at h1 this
  simp at h1 this; rw[h1] at this; cases this
 | succ fuel ih=>
  intro listed a w hsz s hc
  refine⟨fun hr=>hQ _ a w (full listed hsz hr) s,fun j hj=>?_⟩
  obtain⟨h1,o,h2,h3⟩:=mem_ready.1 hj
  have hjs:=(Array.getElem?_eq_some_iff.1 h2).1
  have hd:listed.getD j false=false:=by
   simp only[Array.getD_eq_getD_getElem?] at h1 ⊢
   rw[Array.getElem?_eq_getElem (by omega)] at h1 ⊢; exact h1
  have hup:upd (fun j=>listed.getD j false) j=fun k=>(listed.setIfInBounds j true).getD k false:=by
   funext k
   unfold upd
   by_cases hkj:k=j
   ·subst hkj
    rw[if_pos rfl]
    simp[Array.getD_eq_getD_getElem?,hsz,hjs]
   ·rw[if_neg hkj,getD_set_ne false (fun h=>hkj h.symm)]
  refine wpOp_mono (fun a' w' s'=>ih _ a' w' (by simp[hsz]) s' ?_) (hup ▸ step c hlo ht hk s h2 hd fun i hi=>?_)
  ·have:=ZnD (p:=fun j=>!listed.getD j false) (q:=fun k=>!(listed.setIfInBounds j true).getD k false) (List.range os.size) j (fun k hk'=>by
    by_cases hkj:j=k
    ·subst hkj; simp only[hd]; rfl
    ·rw[getD_set_ne false hkj] at hk'; exact hk') (by simp[hjs]) (by simp only[hd]; rfl) (by simp[Array.getD_eq_getD_getElem?,hsz,hjs])
   omega
  ·unfold ZkI at hi
   obtain⟨ed,f1,rfl⟩:=List.mem_map.1 hi
   obtain⟨f2,f3⟩:=List.mem_filter.1 f1
   exact h3 ed (by simpa using f2) f3
end
theorem Zu4 {P:Program} {G:Zbx} {N:Nat} {Γ:Ctx} {cf:Zbg}:ZmC P G N Γ cf (ZT P G N):=by
 intro id os l Rf wf e H e' H' a w hok hd c s
 obtain⟨B,hk⟩:=Zql hok
 obtain⟨t,ht⟩:=ZlW l [] e H e' H' hd
 obtain⟨R,x,ok,hH,hM,hE⟩:=s.ex
 refine wp_region_any hk.mixed ?_
 have xd:Ext R w R { w with drawn:=w.drawn+1 }:=Ext.draw rfl rfl rfl rfl
 have okd:R.OK { w with drawn:=w.drawn+1 }:=ok.draw rfl rfl rfl rfl
 refine ZsA c s.hl ht hk (fun D a' w' hall s'=>?_) os.size _ a _ (by simp) ?_ ?_
 ·obtain⟨K,R',env,h1,h2,h3,x',ok',hH',hM',hE',hV,hO⟩:=s'.ex
  have hKl:K=l.length:=by
   rcases Nat.lt_or_ge K l.length with h | h
   ·obtain⟨_,_,_,h4⟩:=h3 h
    rw[hall K h] at h4; cases h4
   ·omega
  subst hKl
  have hHe:ZgU t D l.length=H':=by
   rw[← ht.h1]
   apply List.ext_getElem?
   intro i
   exact Zfn (ZhS.2 fun m hm _ _=>hall m hm)
  have hle:H.length≤H'.length:=by
   have:=ht.len_mono (a:=0) l.length (by omega) (Nat.le_refl _)
   unfold Zcq.len at this; rw[ht.h0,ht.h1] at this; exact this
  have henv:∀d,env d=e' d:=fun d=>by
   rw[← ht.e1]
   by_cases hx:∃(i:Nat) (q:Op1),l[i]? = some q∧q.dst=some d
   ·obtain⟨i,q,hq,hqd⟩:=hx
    have hi:=(List.getElem?_eq_some_iff.1 hq).1
    rw[hV i q d hq hqd (hall i hi),ht.envd hk hq hqd l.length hi (Nat.le_refl _)]
   ·have hn:∀(i:Nat) (q:Op1),l[i]? = some q→q.dst≠some d:=fun i q hq hqd=>hx ⟨i,q,hq,hqd⟩
    rw[hO d fun i q hq hqd=>absurd hqd (hn i q hq),ht.env0 l.length (Nat.le_refl _) fun i q _ hq=>hn i q hq]
  refine⟨rfl,⟨⟨R',x',ok',by rw[hH',hHe],fun i hi=>hM' i (by omega) fun j hj _ hb=>?_,fun d=>by rw[← henv d]; exact hE' d⟩,s'.tm,s'.df,by have:=s.hl; omega⟩⟩
  have:=ht.len_mono (a:=j+1) l.length (by omega) (Nat.le_refl _)
  have h2:t.len l.length=H'.length:=by unfold Zcq.len; rw[ht.h1]
  omega
 ·have hf:∀j,(Array.replicate os.size false).getD j false=false:=fun j=>by
   by_cases hj:j<os.size<;>simp[Array.getD_eq_getD_getElem?,hj]
  obtain⟨K,g1,g2,g3,g4,g5⟩:=Zsx ht (D:=fun j=>(Array.replicate os.size false).getD j false) (s:=0) (Nat.zero_le _) okd (by rw[ht.h0]; exact hH) (fun m p _ hm=>by omega) (fun m p _ _ _=>hf m)
  refine⟨fun j o _ hd=>(by rw[hf j] at hd; cases hd),⟨K,_,e,g1,g2,g3,(x.trans xd).trans g4,g5,rfl,fun i hi _=>hM i hi,g4.envOK okd.b01 (xd.envOK ok.b01 hE),fun j p d _ _ hd=>(by rw[hf j] at hd; cases hd),fun d _=>rfl⟩,s.tm,s.df⟩
 ·exact Nat.le_trans List.countP_le_length (by simp)
theorem Zst {P:Program} {G:Zbx} {Γ:Ctx} (hall:∀f fn,Γ.code f=some fn→Zbo P G (fun N=>ZT P G N) f fn=true∨ZkJ P f fn):ZeW P G (evW Γ):=
 Zv4 (fun _ _ _=>Zu4) hall
end Go.Proofs.YtljgncbdagmeeaaDoorE
namespace Go.Proofs.YtljgncbdagmeeaaDoor.Last
open Go Go.RowKit Go.Shelf Go.Proofs.YtljgncbdagmeeaaDoorE
attribute [local go_sem] Oper.semAt_some
def upto {α:Type} (f:Nat→α) (k:Nat):List α:=(List.range k).map f
theorem Zcv {α:Type} (f:Nat→α) (k:Nat):upto f (k+1)=upto f k++[f k]:=by simp[upto,List.range_succ]
theorem Zpr {α:Type} (f:Nat→α) (k:Nat):(upto f k).length=k:=by simp[upto]
def Kp (n₀ Bs:Nat) (A B:World):Prop:=Below n₀ A B∧B.heap[Bs]? = A.heap[Bs]?
theorem Kp.trans {n₀ Bs:Nat} {A B C:World} (h:Kp n₀ Bs A B) (k:Kp n₀ Bs B C):Kp n₀ Bs A C:=⟨h.1.trans k.1,k.2.trans h.2⟩
theorem Kp.refl (n₀ Bs:Nat) (A:World):Kp n₀ Bs A A:=⟨Below.refl _ _,rfl⟩
theorem Kp.cellB {n₀ Bs o:Nat} {A B:World} (h:Kp n₀ Bs A B):B.cell? ⟨Bs,o,none⟩=A.cell? ⟨Bs,o,none⟩:=by
 unfold World.cell?
 rw[h.2]
def rnd (zs:List (Int×Int)) (len k:Nat):Nat×(Int×Int):=(len-1-k,pc zs (len-1-k))
theorem ZtT (F:Fence) (n:Nat) (h8:F.fn 98) (hro:F.round=none) (hn:1≤n) (l Bs n₀ b off len cap:Nat) (zs:List (Int×Int)) (hreach:len≤1073741824) (hb:b<n₀) (J Jx:List (Nat×(Int×Int))→World→Prop)
  (hY:∀pre x W,J pre W→pre.length<len→YieldAt F (n-1) Tryd.prog l #[.int .i64 (x.1:Int),.agg #[.int .i64 x.2.1,.int .i64 x.2.2]] W fun e W'=>
   (e = .returned (.bool true)∧J (pre++[x]) W'∧Kp n₀ Bs W W')∨(e = .returned (.bool false)∧Jx (pre++[x]) W'))
  (W:World) (hBs:W.cell? ⟨Bs,0,none⟩=some (.slice (some ⟨b,off,none⟩) len cap)) (hc:∀j,j<len→W.cell? ⟨b,off+j*2,none⟩=some (.int .i64 (pc zs j).1)∧W.cell? ⟨b,off+j*2+1,none⟩=some (.int .i64 (pc zs j).2)) (h0:J [] W) :
  CallsIn F n Tryd.prog 98 #[.func (.yield l) #[] #[],.pointer (some ⟨Bs,0,none⟩)] W fun e W'=>(∃v,e = .returned v) ∧
   ((∃ys,ys=upto (rnd zs len) len∧J ys W')∨(∃pre,(∃k,k≤len∧pre=upto (rnd zs len) k)∧Jx pre W')):=by
 refine callsIn_of_wp Tryd.func98 rfl h8 ?_ hro
 simp only[Tryd.ntmps98,List.size_toArray,List.length_cons,List.length_nil,Nat.reduceAdd,Nat.reduceSub,Array.replicate_succ,Array.replicate_zero,List.push_toArray,List.append_toArray,List.nil_append,List.cons_append]
 gi_wp2
 gi_loopw [3] (fun i wr=>∃k:Nat,k≤len∧i = .int .i64 ((len:Int)-1-k)∧J (upto (rnd zs len) k) wr∧Kp n₀ Bs W wr)
  (fun i _=>(intOf i+1).toNat)
 case atStart=>
  refine⟨0,Nat.zero_le _,?_,h0,Kp.refl _ _ _⟩
  simp
 case round=>
  obtain⟨k,hk,rfl,hJs,hnx⟩:=hrel
  have hcx:k<len→wr.cell? ⟨b,off+(len-1-k)*2,none⟩=some (.int .i64 (pc zs (len-1-k)).1)∧wr.cell? ⟨b,off+(len-1-k)*2+1,none⟩=some (.int .i64 (pc zs (len-1-k)).2):=fun h=>⟨(hnx.1.cell (p:=⟨b,off+(len-1-k)*2,none⟩) hb).trans (hc _ (by omega)).1,(hnx.1.cell (p:=⟨b,off+(len-1-k)*2+1,none⟩) hb).trans (hc _ (by omega)).2⟩
  by_cases hlt:k<len
  ·obtain⟨fn,tmps,assign,body,hy,hR⟩:=hY _ (rnd zs len k) wr hJs (by rw[Zpr]; exact hlt)
   dsimp only[rnd] at hy
   obtain⟨hcx1,hcx2⟩:=hcx hlt
   obtain⟨m,hm⟩:∃m:Nat,len-1-k=m:=⟨_,rfl⟩
   rw[hm] at hy hcx1 hcx2
   rw[show(len:Int)-1-k=(m:Int) by omega]
   have hBw:=hnx.cellB.trans hBs
   gi_wp2
   refine hR.mono ?_
   rintro e W3 (⟨rfl,hJ3,hk3⟩ | ⟨rfl,hJx3⟩)
   ·gi_wp2
    go_roundw
    case rel=>exact⟨k+1,by omega,by congr 1; omega,by rw[Zcv]; exact hJ3,hnx.trans hk3⟩
    case measure=>simp[intOf]
   ·gi_wp2
    refine bodyPost_ret (results_none rfl _ _ _) rfl ?_
    exact⟨⟨_,rfl⟩,.inr ⟨_,⟨k+1,by omega,(Zcv _ _).symm⟩,hJx3⟩⟩
  ·obtain rfl:k=len:=by omega
   rw[show(k:Int)-1-k = -1 by omega]
   gi_wp2
   go_end0
   exact⟨⟨_,rfl⟩,.inl ⟨_,rfl,hJs⟩⟩
theorem Zsr (F:Fence) (n:Nat) (h8:F.fn 98) (hro:F.round=none) (l Bs cap:Nat) (a:Option Addr) (J:List (Nat×(Int×Int))→World→Prop) (W:World) (hBs:W.cell? ⟨Bs,0,none⟩=some (.slice a 0 cap)) (h0:J [] W) :
  CallsIn F n Tryd.prog 98 #[.func (.yield l) #[] #[],.pointer (some ⟨Bs,0,none⟩)] W fun e W'=>(∃v,e = .returned v)∧J [] W':=by
 refine callsIn_of_wp Tryd.func98 rfl h8 ?_ hro
 simp only[Tryd.ntmps98,List.size_toArray,List.length_cons,List.length_nil,Nat.reduceAdd,Nat.reduceSub,Array.replicate_succ,Array.replicate_zero,List.push_toArray,List.append_toArray,List.nil_append,List.cons_append]
 gi_wp2
 gi_loopw [3] (fun i wr=>i = .int .i64 (-1)∧J [] wr) (fun _ _=>0)
 case atStart=>exact⟨by simp,h0⟩
 case round=>
  obtain⟨rfl,hJs⟩:=hrel
  gi_wp2
  go_end0
  exact⟨⟨_,rfl⟩,hJs⟩
theorem Zzf {n₀ Bs:Nat} {w:World} (h1:n₀≤w.heap.size) (h2:Bs<w.heap.size):∀(W:World) (l:Nat) (o o':Obj),w.heap.size≤l→W.heap[l]? = some o→o.isCells=false→o.isWalk=false→Kp n₀ Bs W (W.putObj l o'):=fun W l o o' hl ho hc hw=>
 ⟨belowK_b (w:=w) h1 W l o o' hl ho hc hw,(belowK_b (w:=w) (Nat.le_refl _) W l o o' hl ho hc hw).block _ h2⟩
def Pcs (n₀:Nat) (W:World) (sv:Value) (zs:List (Int×Int)):Prop:=
 (∃a cap,sv = .slice a 0 cap∧zs=[])∨∃b off cap,sv = .slice (some ⟨b,off,none⟩) zs.length cap∧b<n₀∧∀j,j<zs.length→W.cell? ⟨b,off+j*2,none⟩=some (.int .i64 (pc zs j).1)∧W.cell? ⟨b,off+j*2+1,none⟩=some (.int .i64 (pc zs j).2)
theorem Pcs.below {n₀:Nat} {A B:World} (h:Below n₀ A B) {sv:Value} {zs:List (Int×Int)}:Pcs n₀ A sv zs→Pcs n₀ B sv zs
 | .inl e=>.inl e
 | .inr ⟨b,off,cap,e,hb,hc⟩=>.inr ⟨b,off,cap,e,hb,fun j hj=>⟨(h.cell (p:=⟨b,off+j*2,none⟩) hb).trans (hc j hj).1,(h.cell (p:=⟨b,off+j*2+1,none⟩) hb).trans (hc j hj).2⟩⟩
theorem Zu9 (F:Fence) (n:Nat) (h5:F.fn 50) (hro:F.round=none) (sv:Value) (w:World) (hs:∃a len cap,sv = .slice a len cap) :
  CallsIn F n Tryd.prog 50 #[sv] w fun e w'=>e = .returned (.func (.func 98) #[] #[.pointer (some ⟨w.heap.size,0,none⟩)])∧w'=w.alloc (.cells #[sv] 33):=by
 obtain⟨a,len,cap,rfl⟩:=hs
 refine callsIn_of_wp Tryd.func50 rfl h5 ?_ hro
 simp only[Tryd.ntmps50,List.size_toArray,List.length_cons,List.length_nil,Nat.reduceAdd,Nat.reduceSub,Array.replicate_succ,Array.replicate_zero,List.push_toArray,List.append_toArray,List.nil_append,List.cons_append]
 gi_wp2
 go_ret
 exact⟨rfl,rfl⟩
theorem ZpF (F:Fence) (n:Nat) (h8:F.fn 98) (hro:F.round=none) (hn:1≤n) (Bs n₀:Nat) (sv:Value) (zs:List (Int×Int)) (hreach:zs.length≤1073741824) (w:World) (hBs:Bs<w.heap.size) (hn₀:n₀≤w.heap.size)
  (hc:w.cell? ⟨Bs,0,none⟩=some sv) (hI:Pcs n₀ w sv zs) :
  SeqStopsK F n Tryd.prog 98 #[.pointer (some ⟨Bs,0,none⟩)] (fun x:Nat×(Int×Int)=>#[Value.int .i64 (x.1:Int),.agg #[.int .i64 x.2.1,.int .i64 x.2.2]]) (Kp n₀ Bs) (fun ys=>ys=upto (rnd zs zs.length) zs.length)
   (fun pre=>∃k,k≤zs.length∧pre=upto (rnd zs zs.length) k) zs.length w:=fun l J Jx W hW _ _ hY h0=>by
 have hc':=(hW.cell (p:=⟨Bs,0,none⟩) hBs).trans hc
 rcases hI.below (hW.mono hn₀) with⟨a,cap,rfl,rfl⟩ | ⟨b,off,cap,rfl,hb,hcs⟩
 ·exact(Zsr F n h8 hro l Bs cap a J W hc' h0).mono fun e W' ⟨he,hj⟩=>⟨he,.inl ⟨_,rfl,hj⟩⟩
 ·exact ZtT F n h8 hro hn l Bs n₀ b off zs.length cap zs hreach hb J Jx hY W hc' hcs h0
theorem ZpW {n:Nat} {P:Program} {Q:Exit→Act→World→Prop} {a:Act} {w:World} {c:Code} (h:c.wpIn Fence.wide n P (Exit.noGoto Q) a w):(Code.scope c).wpIn Fence.wide n P Q a w:=wpIn_wide.2 (wp_scope_straight (wpIn_wide.1 h))
theorem Zje (zs:List (Int×Int)) (p:Int):∀n:Nat,(∀j,j<n→(pc zs j).1≠p∨p<0)→Zgx zs p n = -1
 | 0,_=>rfl
 | n+1,h=>by
  unfold Zgx
  have:((pc zs n).1 != p || decide (p<0))=true:=by
   rcases h n (by omega) with h | h
   ·simp[bne_iff_ne.2 h]
   ·simp[h]
  rw[this]
  exact Zje zs p n fun j hj=>h j (by omega)
theorem Zja (zs:List (Int×Int)) (p:Int):∀(n k:Nat),k<n→(pc zs k).1=p→0≤p→(∀j,k<j→j<n→(pc zs j).1≠p∨p<0)→Zgx zs p n=(k:Int)
 | 0,_,h,_,_,_=>by omega
 | n+1,k,h,h1,h2,h3=>by
  unfold Zgx
  by_cases hk:k=n
  ·subst hk
   have:((pc zs k).1 != p || decide (p<0))=false:=by simp[h1]; exact h2
   rw[this]; rfl
  ·have:((pc zs n).1 != p || decide (p<0))=true:=by
    rcases h3 n (by omega) (by omega) with h | h
    ·simp[bne_iff_ne.2 h]
    ·simp[h]
   rw[this]
   exact Zja zs p n k (by omega) h1 h2 fun j a b=>h3 j a (by omega)
theorem Zu2 (u0 u1 sv:Value) (p:Int) (zs:List (Int×Int)) (hreach:zs.length≤1073741824) (w:World)
  (hs:∃a len cap,sv = .slice a len cap) (hI:Pcs w.heap.size w sv zs) :
  CallsIn Fence.wide 5 Tryd.prog 23 #[.agg #[u0,u1,sv],.int .i64 p] w fun e W'=>e = .returned (.int .i64 (Zgx zs p zs.length))∧Below w.heap.size w W':=by
 obtain⟨a,len,cap,rfl⟩:=hs
 refine callsIn_of_wp_marks Tryd.func23 rfl trivial ?_ rfl
 simp only[Tryd.ntmps23,List.size_toArray,List.length_cons,List.length_nil,Nat.reduceAdd,Nat.reduceSub,Array.replicate_succ,Array.replicate_zero,List.push_toArray,List.append_toArray,List.nil_append,List.cons_append]
 gi_wp2
 refine ZpW ?_
 gi_wp2
 rename_i K hK
 refine wpIn_label (hK _ _ ?_)
 clear hK K
 gi_wp2
 refine⟨trivial,(Zu9 Fence.wide 4 trivial rfl _ _ ⟨_,_,_,rfl⟩).mono ?_⟩
 rintro e w' ⟨rfl,rfl⟩
 gi_wp2
 have bP:=(((Boxed.new (w.alloc (.cells #[u0,u1,.slice a len cap] 35)) 3 (.int .i64 p)).alloc (.cells #[.int .i64 (-1)] 3)).alloc (.cells #[.slice a len cap] 33))
 have bA:=(Boxed.new ((w.alloc (.cells #[u0,u1,.slice a len cap] 35)).alloc (.cells #[.int .i64 p] 3)) 3 (.int .i64 (-1))).alloc (.cells #[.slice a len cap] 33)
 have bN:=Boxed.new (((w.alloc (.cells #[u0,u1,.slice a len cap] 35)).alloc (.cells #[.int .i64 p] 3)).alloc (.cells #[.int .i64 (-1)] 3)) 33 (.slice a len cap)
 simp only[World.size_alloc] at bP bA bN
 have hB0:Below w.heap.size w ((((w.alloc (.cells #[u0,u1,.slice a len cap] 35)).alloc (.cells #[.int .i64 p] 3)).alloc (.cells #[.int .i64 (-1)] 3)).alloc (.cells #[.slice a len cap] 33)):=((((Below.refl _ w).alloc (Nat.le_refl _) _).alloc (by simp) _).alloc (by simp; omega) _).alloc (by simp; omega) _
 have hsz:((((w.alloc (.cells #[u0,u1,.slice a len cap] 35)).alloc (.cells #[.int .i64 p] 3)).alloc (.cells #[.int .i64 (-1)] 3)).alloc (.cells #[.slice a len cap] 33)).heap.size=w.heap.size+4:=by simp
 obtain⟨W0,hW0⟩:∃W0,(((w.alloc (.cells #[u0,u1,.slice a len cap] 35)).alloc (.cells #[.int .i64 p] 3)).alloc (.cells #[.int .i64 (-1)] 3)).alloc (.cells #[.slice a len cap] 33)=W0:=⟨_,rfl⟩
 rw[hW0] at bP bA bN hB0 hsz ⊢
 clear hW0
 refine wpIn_rangeFunc_ownH rfl (by omega) (gf:=98) (lb:=#[.pointer (some ⟨w.heap.size+1+1+1,0,none⟩)]) rfl trivial (enters_of Tryd.func98 (by kernel_rfl) rfl)
  (ZpF Fence.wide 4 trivial rfl (by omega) (w.heap.size+1+1+1) w.heap.size _ zs hreach W0 (by omega) (by omega) bN.cell (hI.below hB0)) Kp.trans (Zzf (by omega) (by omega)) (Below.refl _ _) (fun _=>rfl)
  (fun pre W=>((Boxed W (w.heap.size+1) 3 (.int .i64 p)∧Boxed W (w.heap.size+1+1) 3 (.int .i64 (-1)))∧Boxed W (w.heap.size+1+1+1) 33 (.slice a len cap)∧(∀x∈pre,x.2.1≠p∨p<0))∧Below w.heap.size w W)
  (fun c pre W=>(c = .exit 0∧∃ini lst,pre=ini++[lst]∧(∀x∈ini,x.2.1≠p∨p<0)∧(lst.2.1=p∧0≤p)∧Boxed W (w.heap.size+1+1) 3 (.int .i64 (lst.1:Int)))∧Below w.heap.size w W)
  (OwnFrom.and (OwnFrom.and (OwnFrom.and (Own.from (boxed_own _ _ _) _) (Own.from (boxed_own _ _ _) _)) (OwnFrom.and (Own.from (boxed_own _ _ _) _) (ownFrom_pure _ _))) (ownFrom_below (Nat.le_refl _) (by omega)))
  (fun c=>OwnFrom.and (Own.from (fun s A B row hs hg hr=>by obtain⟨hc,ini,lst,e1,e2,e3,e4⟩:=hs; exact⟨hc,ini,lst,e1,e2,e3,boxed_own (w.heap.size+1+1) 3 (fun(_:Unit)=>Value.int .i64 (lst.1:Int)) () A B row e4 hg hr⟩) _) (ownFrom_below (Nat.le_refl _) (by omega)))
  ⟨⟨⟨bP,bA⟩,bN,by simp⟩,hB0⟩
  (fun x a' W=>∃Bx,W.cell? ⟨Bx,0,none⟩=some (.int .i64 x.2.1)∧a'={ tmps:=#[.agg #[u0,u1,.slice a len cap],.int .i64 p,.pointer (some ⟨w.heap.size,0,none⟩),.pointer (some ⟨w.heap.size+1,0,none⟩),.int .i64 0,.pointer (some ⟨w.heap.size+1+1,0,none⟩),.int .i64 (x.1:Int),.pointer (some ⟨Bx,0,none⟩),.pointer (some ⟨w.heap.size,2,none⟩),.slice a len cap,.func (.func 98) #[] #[.pointer (some ⟨w.heap.size+1+1+1,0,none⟩)],.int .i64 (x.1:Int),.agg #[.int .i64 x.2.1,.int .i64 x.2.2],undef,undef,undef,undef,undef,undef,undef,undef,undef,undef,undef],defers:=[] })
  (fun x a' _ X Y row hs hg hr=>by obtain⟨Bx,h1,h2⟩:=hs; exact⟨Bx,cell_kept h1 hg (fun r e=>(hr r e).2),h2⟩)
  ?assign ?body ?done ?Zgg
 case assign=>
  rintro l pre x W K ⟨⟨⟨bP1,bA1⟩,bN1,hp1⟩,hB1⟩ hK
  gi_wp2
  refine hK _ _ ((KeepsOthers.alloc _ _).from _) ⟨(Below.refl _ W).alloc hB1.size _,?_⟩ ⟨⟨⟨bP1.alloc _,bA1.alloc _⟩,bN1.alloc _,hp1⟩,hB1.alloc hB1.size _⟩ ⟨W.heap.size,?_,rfl⟩
  ·exact(bN1.alloc _).trans bN1.symm
  ·show(match (W.alloc (.cells #[.int .i64 x.2.1,.int .i64 x.2.2] 42)).heap[W.heap.size]? with | some (.cells c _ _)=>_ | _=>none)=_
   rw[World.alloc_heap_new]
   rfl
 case body=>
  rintro l pre x a' W hl ⟨r,hr⟩ ⟨⟨⟨bP1,bA1⟩,bN1,hp1⟩,hB1⟩ ⟨Bx,hBx,rfl⟩ hlt
  have cP:=bP1.cell
  have cA:=bA1.cell
  have fA:=bA1.frozen
  gi_wp2
  ·have hx:p<0:=by assumption
   exact⟨KeepsFrom.refl _ _,Kp.refl _ _ _,⟨⟨⟨bP1,bA1⟩,bN1,fun y hy=>.inr hx⟩,hB1⟩⟩
  ·have hx:x.2.1=p:=by assumption
   have hp:0≤p:=by assumption
   exact⟨(KeepsOthers.setCell _ _ _).from _,⟨rfl,pre,x,rfl,hp1,⟨hx,hp⟩,bA1.set _⟩,hB1.setCell (p:=⟨w.heap.size+1+1,0,none⟩) (by simp; omega) _⟩
  ·have hx:¬x.2.1=p:=by assumption
   exact⟨KeepsFrom.refl _ _,Kp.refl _ _ _,⟨⟨⟨bP1,bA1⟩,bN1,fun y hy=>(List.mem_append.1 hy).elim (hp1 y) fun e=>by simp at e; subst e; exact .inl hx⟩,hB1⟩⟩
 case done=>
  rintro D ys W hD rfl ⟨⟨⟨bP1,bA1⟩,bN1,hp1⟩,hB1⟩ hK
  have cA:=bA1.cell
  gi_wp2
  refine⟨by simp,.inl ⟨_,_,rfl,run_takeDeferred hK,?_⟩⟩
  refine⟨_,results_tmp rfl _ _ _,?_,hB1.trans (belowK_b (w:=w) (Nat.le_refl _) W D _ _ (by omega) hK rfl rfl)⟩
  show Ending.returned (.int .i64 (-1))=_
  rw[Zje zs p zs.length fun j hj=>hp1 (rnd zs zs.length (zs.length-1-j)) (by simp only[upto,List.mem_map,List.mem_range]; exact⟨zs.length-1-j,by omega,rfl⟩) |> fun h=>by unfold rnd at h; rwa [show zs.length-1-(zs.length-1-j)=j by omega] at h]
 case Zgg=>
  rintro D c pre W hD ⟨k,hk,rfl⟩ ⟨⟨rfl,ini,lst,e1,e2,e3,bA1⟩,hB1⟩ hK
  have cA:=bA1.cell
  gi_wp2
  refine⟨by simp,.inl ⟨_,_,rfl,run_takeDeferred hK,?_⟩⟩
  refine⟨_,results_tmp rfl _ _ _,?_,hB1.trans (belowK_b (w:=w) (Nat.le_refl _) W D _ _ (by omega) hK rfl rfl)⟩
  obtain⟨k',rfl⟩:∃k',k=k'+1:=by
   cases k with
   | zero=>simp[upto] at e1
   | succ k'=>exact⟨k',rfl⟩
  rw[Zcv] at e1
  obtain⟨rfl,e5⟩:=List.append_inj' e1 rfl
  obtain rfl:rnd zs zs.length k'=lst:=by simpa using e5
  show Ending.returned (.int .i64 ((zs.length-1-k':Nat):Int))=_
  rw[Zja zs p zs.length (zs.length-1-k') (by omega) e3.1 e3.2 fun j h1 h2=>e2 (rnd zs zs.length (zs.length-1-j)) (by simp only[upto,List.mem_map,List.mem_range]; exact⟨zs.length-1-j,by omega,rfl⟩) |> fun h=>by unfold rnd at h; rwa [show zs.length-1-(zs.length-1-j)=j by omega] at h]
theorem Zt6 {A1 A0 AL:Nat→Prop} {w:World}:∀(xs:List D) (zs:List (Int×Int)),Zr6 xs=some zs→∀(b sz off:Nat),Zeo A1 A0 AL w b sz off xs→zs.length=xs.length∧(xs≠[]→sz=2)∧∀j,j<zs.length→w.cell? ⟨b,off+j*2,none⟩=some (.int .i64 (pc zs j).1)∧w.cell? ⟨b,off+j*2+1,none⟩=some (.int .i64 (pc zs j).2)
 | [],zs,h,b,sz,off,_=>by cases h; exact⟨rfl,fun h=>absurd rfl h,fun j hj=>absurd hj (by simp)⟩
 | x :: xs,zs,h,b,sz,off,hd=>by
  unfold Zr6 at h
  split at h
  ·cases h
   rename_i heq; cases heq
  ·rename_i p q r heq
   cases heq
   cases hr:Zr6 xs with
   | none=>rw[hr] at h; cases h
   | some l=>
    rw[hr] at h
    cases h
    obtain⟨⟨u,⟨us,rfl,u1,us1,rfl,rfl,u2,us2,rfl,rfl,rfl⟩,h2,h3⟩,h4⟩:=hd
    have hsz:sz=2:=by rw[← h2]; rfl
    subst hsz
    obtain⟨i1,_,i3⟩:=Zt6 xs l hr b 2 (off+2) h4
    refine⟨by simp[i1],fun _=>rfl,fun j hj=>?_⟩
    cases j with
    | zero=>exact⟨by simpa [pc] using h3 0 (.int .i64 p) rfl,by simpa [pc] using h3 1 (.int .i64 q) rfl⟩
    | succ j=>
     have:=i3 j (by simpa using hj)
     rw[show off+(j+1)*2=off+2+j*2 by omega]
     simpa [pc] using this
  ·cases h
theorem special:ZkJ Tryd.prog 23 (Zn8 0):=by
 refine⟨by kernel_rfl,0,rfl,fun l r R w us hs ok hH hd=>?_⟩
 unfold Ziw at hs
 split at hs
 ·rename_i a b t xs p _
  obtain⟨u1,us1,rfl,⟨vs,rfl,v0,vs0,rfl,_,v1,vs1,rfl,_,v2,vs2,rfl,hv,rfl⟩,u2,us2,rfl,rfl,rfl⟩:=hd
  cases hz:Zr6 xs with
  | none=>rw[hz] at hs; cases hs
  | some zs=>
   rw[hz] at hs
   dsimp only at hs
   cases hb:Nat.ble zs.length lim with
   | false=>rw[hb] at hs; cases hs
   | true=>
    rw[hb] at hs
    cases hs
    obtain⟨ad,len,cap,rfl,rfl,hcap,_,hel⟩:=hv
    have hI:Pcs w.heap.size w (.slice ad xs.length cap) zs:=by
     by_cases hne:xs=[]
     ·subst hne; cases hz; exact .inl ⟨ad,cap,rfl,rfl⟩
     ·obtain⟨b,off,sz,rfl,_,hlt,hels⟩:=hel hne
      obtain⟨i1,_,i3⟩:=Zt6 xs zs hz b sz off hels
      exact .inr ⟨b,off,cap,by rw[i1],hlt,i3⟩
    refine(callsIn_wide.1 (Zu2 v0 v1 _ p zs (Nat.le_of_ble_eq_true hb) w ⟨_,_,_,rfl⟩ hI)).mono ?_
    rintro e w' ⟨he,hB⟩
    refine⟨_,he,rfl,⟨fun _ _ h=>h,fun i x blk _ h hd=>⟨blk,h,Blk.like_refl hd⟩,rfl,rfl,fun b hb _=>hB.block b hb,fun b cs el fr h=>⟨cs,el,fr,(hB.block b (Array.getElem?_eq_some_iff.1 h).1).trans h,rfl⟩,hB.size,fun _ _ h=>h,hB.os,hB.tape,hB.output⟩⟩
 ·cases hs
end Go.Proofs.YtljgncbdagmeeaaDoor.Last
namespace Go.Proofs.YtljgncbdagmeeaaDoor
open Go Go.Proofs.YtljgncbdagmeeaaDoorE
def ZvG:List (IntKind×Int):=[(.u8,0),(.u8,1),(.u8,28),(.u8,2),(.u8,29),(.u8,14),(.u8,24),(.u8,3),(.u8,30),(.u8,22),(.u8,20),(.u8,15),(.u8,25),(.u8,17),(.u8,4),(.u8,8),(.u8,31),(.u8,27),(.u8,13),(.u8,23),(.u8,21),(.u8,19),(.u8,16),(.u8,7),(.u8,26),(.u8,12),(.u8,18),(.u8,6),(.u8,11),(.u8,5),(.u8,10),(.u8,9)]
def Zvx:List (IntKind×Int):=[(.u8,0),(.u8,1),(.u8,56),(.u8,2),(.u8,57),(.u8,49),(.u8,28),(.u8,3),(.u8,61),(.u8,58),(.u8,42),(.u8,50),(.u8,38),(.u8,29),(.u8,17),(.u8,4),(.u8,62),(.u8,47),(.u8,59),(.u8,36),(.u8,45),(.u8,43),(.u8,51),(.u8,22),(.u8,53),(.u8,39),(.u8,33),(.u8,30),(.u8,24),(.u8,18),(.u8,12),(.u8,5),(.u8,63),(.u8,55),(.u8,48),(.u8,27),(.u8,60),(.u8,41),(.u8,37),(.u8,16),(.u8,46),(.u8,35),(.u8,44),(.u8,21),(.u8,52),(.u8,32),(.u8,23),(.u8,11),(.u8,54),(.u8,26),(.u8,40),(.u8,15),(.u8,34),(.u8,20),(.u8,31),(.u8,10),(.u8,25),(.u8,14),(.u8,19),(.u8,9),(.u8,13),(.u8,8),(.u8,7),(.u8,6)]
def ZC:Zbx
 | 0=>some ZvG
 | 1=>some Zvx
 | _=>none
theorem ok5:Zbo Tryd.prog ZC (fun N=>ZT Tryd.prog ZC N) 5 fn5=true:=by kernel_rfl
theorem Zzg:Zbo Tryd.prog ZC (fun N=>ZT Tryd.prog ZC N) 14 Zyk=true:=by kernel_rfl
theorem Zy4:Zbo Tryd.prog ZC (fun N=>ZT Tryd.prog ZC N) 15 Zwy=true:=by kernel_rfl
theorem ZzE:Zbo Tryd.prog ZC (fun N=>ZT Tryd.prog ZC N) 16 ZwI=true:=by kernel_rfl
theorem Zy8:Zbo Tryd.prog ZC (fun N=>ZT Tryd.prog ZC N) 17 ZwL=true:=by kernel_rfl
theorem Zyv:Zbo Tryd.prog ZC (fun N=>ZT Tryd.prog ZC N) 19 ZvQ=true:=by kernel_rfl
theorem ZyX:Zbo Tryd.prog ZC (fun N=>ZT Tryd.prog ZC N) 21 Zx2=true:=by kernel_rfl
theorem ZyK:Zbo Tryd.prog ZC (fun N=>ZT Tryd.prog ZC N) 24 Zw1=true:=by kernel_rfl
theorem ZzA:Zbo Tryd.prog ZC (fun N=>ZT Tryd.prog ZC N) 25 Zwx=true:=by kernel_rfl
theorem ZzD:Zbo Tryd.prog ZC (fun N=>ZT Tryd.prog ZC N) 26 ZvR=true:=by kernel_rfl
theorem ZyE:Zbo Tryd.prog ZC (fun N=>ZT Tryd.prog ZC N) 41 Zwh=true:=by kernel_rfl
theorem Zzp:Zbo Tryd.prog ZC (fun N=>ZT Tryd.prog ZC N) 42 ZwM=true:=by kernel_rfl
theorem Zzz:Zbo Tryd.prog ZC (fun N=>ZT Tryd.prog ZC N) 43 Zwj=true:=by kernel_rfl
theorem Zzn:Zbo Tryd.prog ZC (fun N=>ZT Tryd.prog ZC N) 44 Zwv=true:=by kernel_rfl
theorem ZzC:Zbo Tryd.prog ZC (fun N=>ZT Tryd.prog ZC N) 48 Zwk=true:=by kernel_rfl
theorem ZzH:Zbo Tryd.prog ZC (fun N=>ZT Tryd.prog ZC N) 50 Zyo=true:=by kernel_rfl
theorem Zy3:Zbo Tryd.prog ZC (fun N=>ZT Tryd.prog ZC N) 51 ZxH=true:=by kernel_rfl
theorem Zzx:Zbo Tryd.prog ZC (fun N=>ZT Tryd.prog ZC N) 52 Zyj=true:=by kernel_rfl
theorem ZyP:Zbo Tryd.prog ZC (fun N=>ZT Tryd.prog ZC N) 53 Zvo=true:=by kernel_rfl
theorem ZyY:Zbo Tryd.prog ZC (fun N=>ZT Tryd.prog ZC N) 54 Zwd=true:=by kernel_rfl
theorem Zzv:Zbo Tryd.prog ZC (fun N=>ZT Tryd.prog ZC N) 55 Zv8=true:=by kernel_rfl
theorem Zzu:Zbo Tryd.prog ZC (fun N=>ZT Tryd.prog ZC N) 56 Zwi=true:=by kernel_rfl
theorem Zzy:Zbo Tryd.prog ZC (fun N=>ZT Tryd.prog ZC N) 57 ZwB=true:=by kernel_rfl
theorem ZyS:Zbo Tryd.prog ZC (fun N=>ZT Tryd.prog ZC N) 60 ZvP=true:=by kernel_rfl
theorem ZyF:Zbo Tryd.prog ZC (fun N=>ZT Tryd.prog ZC N) 64 Zwb=true:=by kernel_rfl
theorem ZyL:Zbo Tryd.prog ZC (fun N=>ZT Tryd.prog ZC N) 78 ZwF=true:=by kernel_rfl
theorem Zy9:Zbo Tryd.prog ZC (fun N=>ZT Tryd.prog ZC N) 79 Zv2=true:=by kernel_rfl
theorem ZyT:Zbo Tryd.prog ZC (fun N=>ZT Tryd.prog ZC N) 80 ZwH=true:=by kernel_rfl
theorem ZyJ:Zbo Tryd.prog ZC (fun N=>ZT Tryd.prog ZC N) 81 ZvZ=true:=by kernel_rfl
theorem Zyu:Zbo Tryd.prog ZC (fun N=>ZT Tryd.prog ZC N) 82 Zwz=true:=by kernel_rfl
theorem Zzw:Zbo Tryd.prog ZC (fun N=>ZT Tryd.prog ZC N) 83 Zv0=true:=by kernel_rfl
theorem Zzd:Zbo Tryd.prog ZC (fun N=>ZT Tryd.prog ZC N) 84 Zwo=true:=by kernel_rfl
theorem ZyI:Zbo Tryd.prog ZC (fun N=>ZT Tryd.prog ZC N) 85 ZvT=true:=by kernel_rfl
theorem Zzt:Zbo Tryd.prog ZC (fun N=>ZT Tryd.prog ZC N) 86 Zwp=true:=by kernel_rfl
theorem Zzs:Zbo Tryd.prog ZC (fun N=>ZT Tryd.prog ZC N) 98 Zx9=true:=by kernel_rfl
theorem Zzo:Zbo Tryd.prog ZC (fun N=>ZT Tryd.prog ZC N) 99 ZwV=true:=by kernel_rfl
theorem Zw4:Zbo Tryd.prog ZC (fun N=>ZT Tryd.prog ZC N) 100 ZvN=true:=by kernel_rfl
theorem Zw3:Zbo Tryd.prog ZC (fun N=>ZT Tryd.prog ZC N) 101 ZqV=true:=by kernel_rfl
theorem ZxX:Zbo Tryd.prog ZC (fun N=>ZT Tryd.prog ZC N) 102 Zs1=true:=by kernel_rfl
theorem Zxu:Zbo Tryd.prog ZC (fun N=>ZT Tryd.prog ZC N) 105 ZtH=true:=by kernel_rfl
theorem ZwP:Zbo Tryd.prog ZC (fun N=>ZT Tryd.prog ZC N) 107 Zs2=true:=by kernel_rfl
theorem ZxB:Zbo Tryd.prog ZC (fun N=>ZT Tryd.prog ZC N) 108 ZsQ=true:=by kernel_rfl
theorem ZxV:Zbo Tryd.prog ZC (fun N=>ZT Tryd.prog ZC N) 109 Ztb=true:=by kernel_rfl
theorem Zxt:Zbo Tryd.prog ZC (fun N=>ZT Tryd.prog ZC N) 118 Ztz=true:=by kernel_rfl
theorem Zyh:Zbo Tryd.prog ZC (fun N=>ZT Tryd.prog ZC N) 119 Ztu=true:=by kernel_rfl
theorem Zyd:Zbo Tryd.prog ZC (fun N=>ZT Tryd.prog ZC N) 120 Ztp=true:=by kernel_rfl
theorem Zxg:Zbo Tryd.prog ZC (fun N=>ZT Tryd.prog ZC N) 121 ZsC=true:=by kernel_rfl
theorem ZxF:Zbo Tryd.prog ZC (fun N=>ZT Tryd.prog ZC N) 128 ZvH=true:=by kernel_rfl
theorem ZwY:Zbo Tryd.prog ZC (fun N=>ZT Tryd.prog ZC N) 129 ZtL=true:=by kernel_rfl
theorem ZxK:Zbo Tryd.prog ZC (fun N=>ZT Tryd.prog ZC N) 130 ZvF=true:=by kernel_rfl
theorem ZxR:Zbo Tryd.prog ZC (fun N=>ZT Tryd.prog ZC N) 131 Zt3=true:=by kernel_rfl
theorem ZxY:Zbo Tryd.prog ZC (fun N=>ZT Tryd.prog ZC N) 138 ZsU=true:=by kernel_rfl
theorem Zxn:Zbo Tryd.prog ZC (fun N=>ZT Tryd.prog ZC N) 139 Zte=true:=by kernel_rfl
theorem Zxe:Zbo Tryd.prog ZC (fun N=>ZT Tryd.prog ZC N) 142 Ztx=true:=by kernel_rfl
theorem Zw8:Zbo Tryd.prog ZC (fun N=>ZT Tryd.prog ZC N) 143 ZtK=true:=by kernel_rfl
theorem ZwQ:Zbo Tryd.prog ZC (fun N=>ZT Tryd.prog ZC N) 144 ZsI=true:=by kernel_rfl
theorem Zx6:Zbo Tryd.prog ZC (fun N=>ZT Tryd.prog ZC N) 145 ZsN=true:=by kernel_rfl
theorem Zxs:Zbo Tryd.prog ZC (fun N=>ZT Tryd.prog ZC N) 146 Zuk=true:=by kernel_rfl
theorem Zyc:Zbo Tryd.prog ZC (fun N=>ZT Tryd.prog ZC N) 147 Zs3=true:=by kernel_rfl
theorem ZxO:Zbo Tryd.prog ZC (fun N=>ZT Tryd.prog ZC N) 148 ZtX=true:=by kernel_rfl
theorem Zxb:Zbo Tryd.prog ZC (fun N=>ZT Tryd.prog ZC N) 149 ZtZ=true:=by kernel_rfl
theorem Zyn:Zbo Tryd.prog ZC (fun N=>ZT Tryd.prog ZC N) 150 Zvy=true:=by kernel_rfl
theorem ZwW:Zbo Tryd.prog ZC (fun N=>ZT Tryd.prog ZC N) 151 Ztw=true:=by kernel_rfl
theorem Zx8:Zbo Tryd.prog ZC (fun N=>ZT Tryd.prog ZC N) 161 Zsz=true:=by kernel_rfl
theorem ZwZ:Zbo Tryd.prog ZC (fun N=>ZT Tryd.prog ZC N) 162 Zt9=true:=by kernel_rfl
theorem ZxA:Zbo Tryd.prog ZC (fun N=>ZT Tryd.prog ZC N) 163 Zua=true:=by kernel_rfl
theorem Zym:Zbo Tryd.prog ZC (fun N=>ZT Tryd.prog ZC N) 164 Zuj=true:=by kernel_rfl
theorem ZxS:Zbo Tryd.prog ZC (fun N=>ZT Tryd.prog ZC N) 165 ZsG=true:=by kernel_rfl
theorem Zxc:Zbo Tryd.prog ZC (fun N=>ZT Tryd.prog ZC N) 170 ZsW=true:=by kernel_rfl
theorem Zxx:∀f fn,ctx.code f=some fn→Zbo Tryd.prog ZC (fun N=>ZT Tryd.prog ZC N) f fn=true∨ZkJ Tryd.prog f fn:=by
 intro f fn h
 change code f=some fn at h
 unfold code at h
 split at h
 ·cases h; exact .inl ok5
 ·cases h; exact .inl Zzg
 ·cases h; exact .inl Zy4
 ·cases h; exact .inl ZzE
 ·cases h; exact .inl Zy8
 ·cases h; exact .inl Zyv
 ·cases h; exact .inl ZyX
 ·cases h; exact .inr Last.special
 ·cases h; exact .inl ZyK
 ·cases h; exact .inl ZzA
 ·cases h; exact .inl ZzD
 ·cases h; exact .inl ZyE
 ·cases h; exact .inl Zzp
 ·cases h; exact .inl Zzz
 ·cases h; exact .inl Zzn
 ·cases h; exact .inl ZzC
 ·cases h; exact .inl ZzH
 ·cases h; exact .inl Zy3
 ·cases h; exact .inl Zzx
 ·cases h; exact .inl ZyP
 ·cases h; exact .inl ZyY
 ·cases h; exact .inl Zzv
 ·cases h; exact .inl Zzu
 ·cases h; exact .inl Zzy
 ·cases h; exact .inl ZyS
 ·cases h; exact .inl ZyF
 ·cases h; exact .inl ZyL
 ·cases h; exact .inl Zy9
 ·cases h; exact .inl ZyT
 ·cases h; exact .inl ZyJ
 ·cases h; exact .inl Zyu
 ·cases h; exact .inl Zzw
 ·cases h; exact .inl Zzd
 ·cases h; exact .inl ZyI
 ·cases h; exact .inl Zzt
 ·cases h; exact .inl Zzs
 ·cases h; exact .inl Zzo
 ·cases h; exact .inl Zw4
 ·cases h; exact .inl Zw3
 ·cases h; exact .inl ZxX
 ·cases h; exact .inl Zxu
 ·cases h; exact .inl ZwP
 ·cases h; exact .inl ZxB
 ·cases h; exact .inl ZxV
 ·cases h; exact .inl Zxt
 ·cases h; exact .inl Zyh
 ·cases h; exact .inl Zyd
 ·cases h; exact .inl Zxg
 ·cases h; exact .inl ZxF
 ·cases h; exact .inl ZwY
 ·cases h; exact .inl ZxK
 ·cases h; exact .inl ZxR
 ·cases h; exact .inl ZxY
 ·cases h; exact .inl Zxn
 ·cases h; exact .inl Zxe
 ·cases h; exact .inl Zw8
 ·cases h; exact .inl ZwQ
 ·cases h; exact .inl Zx6
 ·cases h; exact .inl Zxs
 ·cases h; exact .inl Zyc
 ·cases h; exact .inl ZxO
 ·cases h; exact .inl Zxb
 ·cases h; exact .inl Zyn
 ·cases h; exact .inl ZwW
 ·cases h; exact .inl Zx8
 ·cases h; exact .inl ZwZ
 ·cases h; exact .inl ZxA
 ·cases h; exact .inl Zym
 ·cases h; exact .inl ZxS
 ·cases h; exact .inl Zxc
 ·cases h
theorem ZxG:ZeW Tryd.prog ZC (evW ctx):=Zst Zxx
end Go.Proofs.YtljgncbdagmeeaaDoor
namespace Go.Proofs.YtljgncbdagmeeaaDoorE
open Go
set_option linter.unusedVariables false
set_option linter.unusedSimpArgs false
inductive Lf where
 | bool | int (k:IntKind) | str | sl (ag:Bool) (els:List Lf)
mutual
def ZuY:Lf→D→Prop
 | .bool,x=>∃b,x = .bool b
 | .int k,x=>∃n,x = .int k n∧(Lit.int k n).wf=true
 | .str,x=>∃s,x = .str s∧s.size≤maxLen
 | .sl ag els,x=>∃xs,x = .list true xs∧xs.length≤maxLen∧∀y∈xs,y.isAgg=ag∧Zgn els y.cells
def Zgn:List Lf→List D→Prop
 | [],ds=>ds=[]
 | l :: ls,ds=>∃d r,ds=d :: r∧ZuY l d∧Zgn ls r
end
def ZhR (P:Program) (g:TypeId→Option (List Lf×Bool)):Nat→List Field→Option (List Lf)
 | _,[]=>some []
 | off,f :: fs=>match g f.type with
  | some (l,_)=>(match ZhR P g (off+l.length) fs with
   | some r=>bif Nat.beq f.offset off&&Nat.beq (P.cellsOf f.type) l.length then some (l++r) else none
   | none=>none)
  | none=>none
def lfs (P:Program):Nat→TypeId→Option (List Lf×Bool)
 | 0,_=>none
 | n+1,t=>match P.underlying t with
  | some .bool=>some ([.bool],false)
  | some (.int k)=>some ([.int k],false)
  | some .string=>some ([.str],false)
  | some (.slice e)=>(match lfs P n e with | some (l,ag)=>bif Nat.beq (P.cellsOf e) l.length&&Nat.blt 0 l.length then some ([.sl ag l],false) else none | none=>none)
  | some (.struct fs)=>(match ZhR P (lfs P n) 0 fs.toList with | some l=>bif Nat.beq (P.cellsOf t) l.length then some (l,true) else none | none=>none)
  | _=>none
mutual
theorem Zpp:∀(l:Lf) (x:D),ZuY l x→x.esc=true∧x.isAgg=false∧x.cells=[x]
 | .bool,x,h=>by obtain⟨b,rfl⟩:=h; exact⟨rfl,rfl,rfl⟩
 | .int k,x,h=>by obtain⟨n,rfl,_⟩:=h; exact⟨rfl,rfl,rfl⟩
 | .str,x,h=>by obtain⟨s,rfl,_⟩:=h; exact⟨rfl,rfl,rfl⟩
 | .sl ag els,x,h=>by obtain⟨xs,rfl,_⟩:=h; exact⟨rfl,rfl,rfl⟩
theorem ZnC:∀(ls:List Lf) (ds:List D),Zgn ls ds→D.escs ds=true∧ds.length=ls.length
 | [],ds,h=>by obtain rfl:=h; exact⟨rfl,rfl⟩
 | l :: ls,ds,h=>by
  obtain⟨d,r,rfl,h1,h2⟩:=h
  obtain⟨e1,e2,_⟩:=Zpp l d h1
  obtain⟨e3,e4⟩:=ZnC ls r h2
  exact⟨by simp[D.escs,e1,e2,e3],by simp[e4]⟩
end
theorem Znm:∀(l r:List Lf) (ds es:List D),Zgn l ds→Zgn r es→Zgn (l++r) (ds++es)
 | [],r,ds,es,h,k=>by obtain rfl:=h; exact k
 | a :: l,r,ds,es,h,k=>by
  obtain⟨d,ds',rfl,h1,h2⟩:=h
  exact⟨d,ds'++es,rfl,h1,Znm l r ds' es h2 k⟩
section
variable {H:Type} {enc:TypeId×Value→H} {P:Program} {W:World} {sp:Nat→Bool} {held:Bool}
abbrev All:Nat→Prop:=fun _=>True
theorem Znp:∀(ds es:List D) (us vs:List Value),ZaQ All All All W ds us→ZaQ All All All W es vs→ZaQ All All All W (ds++es) (us++vs)
 | [],es,us,vs,h,k=>by obtain rfl:=h; exact k
 | x :: ds,es,us,vs,h,k=>by
  obtain⟨u,us',rfl,h1,h2⟩:=h
  exact⟨u,us'++vs,rfl,h1,Znp ds es us' vs h2 k⟩
theorem Zo2 {a:Addr} {n:Nat} {cs:List Value} (h:W.cells? 0 a n=some cs):cs.length=n∧∀k,k<n→W.cell? (a.add k)=cs[k]?:=by
 unfold World.cells? at h
 rw[if_pos (Nat.zero_le _)] at h
 exact⟨by simpa using mapM_some_length h,fun k hk=>mapM_some_get h k k (by simp[hk])⟩
theorem Zm3 {g:TypeId→Option (List Lf×Bool)} {m:Nat} {cs:List Value}
  (hg:∀t l ag cs x,g t=some (l,ag)→DataW.trod enc P W 0 sp held m t cs=some x→∃ds,ZaQ All All All W ds cs∧Zgn l ds) :
  ∀(fs:List Field) (off:Nat) (l:List Lf) (xs:List (DataW H×List MemPlace)),ZhR P g off fs=some l→xs.length=fs.length→off+l.length≤cs.length →
   (∀(i:Nat) f,fs[i]? = some f→DataW.trod enc P W 0 sp held m f.type ((cs.drop f.offset).take (P.cellsOf f.type))=xs[i]?)→∃ds,ZaQ All All All W ds ((cs.drop off).take l.length)∧Zgn l ds
 | [],off,l,xs,h,_,_,_=>by
  simp only[ZhR,Option.some.injEq] at h
  subst h
  exact⟨[],by simp[ZaQ],rfl⟩
 | f :: fs,off,l,xs,h,hl,hle,hx=>by
  simp only[ZhR] at h
  cases hgf:g f.type with
  | none=>rw[hgf] at h; cases h
  | some q=>
   obtain⟨l1,ag⟩:=q
   rw[hgf] at h
   dsimp only at h
   cases hr:ZhR P g (off+l1.length) fs with
   | none=>rw[hr] at h; cases h
   | some r=>
    rw[hr] at h
    dsimp only at h
    cases hc:(Nat.beq f.offset off&&Nat.beq (P.cellsOf f.type) l1.length) with
    | false=>rw[hc] at h; cases h
    | true=>
     rw[hc] at h
     simp only[cond_true,Option.some.injEq] at h
     subst h
     simp only[Bool.and_eq_true] at hc
     have h1:=Nat.eq_of_beq_eq_true hc.1
     have h2:=Nat.eq_of_beq_eq_true hc.2
     rw[List.length_append] at hle
     cases xs with
     | nil=>simp at hl
     | cons x xs=>
      have hx0:=hx 0 f rfl
      rw[h1,h2] at hx0
      simp only[List.getElem?_cons_zero] at hx0
      obtain⟨d1,e1,e2⟩:=hg f.type l1 ag _ x hgf hx0
      obtain⟨d2,e3,e4⟩:=Zm3 (cs:=cs) hg fs (off+l1.length) r xs hr (by simpa using hl) (by omega) (fun i f' hf'=>by simpa using hx (i+1) f' (by simpa using hf'))
      refine⟨d1++d2,?_,Znm _ _ _ _ e2 e4⟩
      have hspl:(cs.drop off).take (l1++r).length=(cs.drop off).take l1.length++(cs.drop (off+l1.length)).take r.length:=by
       rw[List.length_append,List.take_add,List.drop_drop]
      rw[hspl]
      exact Znp _ _ _ _ e1 e3
theorem Zmu:∀(n:Nat) (t:TypeId) (l:List Lf) (ag:Bool),lfs P n t=some (l,ag)→∀(fuel:Nat) (cs:List Value) (x:DataW H×List MemPlace),DataW.trod enc P W 0 sp held fuel t cs=some x →
  ∃ds,ZaQ All All All W ds cs∧Zgn l ds∧(ag=false→∃u y,cs=[u]∧ds=[y]∧u.cells = #[u]∧y.isAgg=false)
 | 0,t,l,ag,h,fuel,cs,x,hx=>by cases h
 | n+1,t,l,ag,h,fuel,cs,x,hx=>by
  simp only[lfs] at h
  split at h
  ·rename_i ht
   cases h
   obtain⟨b,rfl,_⟩:=DataW.trod_bool ht hx
   exact⟨[.bool b],⟨_,_,rfl,rfl,rfl⟩,⟨_,_,rfl,⟨b,rfl⟩,rfl⟩,fun _=>⟨_,_,rfl,rfl,rfl,rfl⟩⟩
  ·rename_i k ht
   cases h
   obtain⟨m,rfl,_,hw⟩:=DataW.trod_int ht hx
   exact⟨[.int k m],⟨_,_,rfl,rfl,rfl⟩,⟨_,_,rfl,⟨m,rfl,hw⟩,rfl⟩,fun _=>⟨_,_,rfl,rfl,rfl,rfl⟩⟩
  ·rename_i ht
   cases h
   obtain⟨s,rfl,_,hs⟩:=DataW.trod_string ht hx
   exact⟨[.str s],⟨_,_,rfl,rfl,rfl⟩,⟨_,_,rfl,⟨s,rfl,hs⟩,rfl⟩,fun _=>⟨_,_,rfl,rfl,rfl,rfl⟩⟩
  ·rename_i e ht
   cases he:lfs P n e with
   | none=>rw[he] at h; cases h
   | some q=>
    obtain⟨le,age⟩:=q
    rw[he] at h
    dsimp only at h
    cases hc:(Nat.beq (P.cellsOf e) le.length&&Nat.blt 0 le.length) with
    | false=>rw[hc] at h; cases h
    | true=>
     rw[hc] at h
     simp only[cond_true,Option.some.injEq,Prod.mk.injEq] at h
     obtain⟨rfl,rfl⟩:=h
     simp only[Bool.and_eq_true] at hc
     have hsz:=Nat.eq_of_beq_eq_true hc.1
     have hpos:0<le.length:=by have:=hc.2; simp[Nat.blt] at this; omega
     rcases Go.Deep.open_slice ht hx with⟨rfl,_⟩ | ⟨a,len,cap,m,fu,Dd,Pl,rfl,_,hlc,hcap,hm,_,hel⟩
     ·exact⟨[.list true []],⟨_,_,rfl,⟨_,0,0,rfl,rfl,Nat.le_refl _,by simp,by simp⟩,rfl⟩,⟨_,_,rfl,⟨[],rfl,by simp,by simp⟩,rfl⟩,fun _=>⟨_,_,rfl,rfl,rfl,rfl⟩⟩
     ·rw[hsz] at hel
      have hlm:len≤m:=by rw[hm]; split<;>omega
      have each:∀i,i<len→∃y u,Za5 All All All W y u∧y.isAgg=age∧Zgn le y.cells∧u.cells.size=le.length∧(∀k v,u.cells[k]? = some v→W.cell? ((a.add (i*le.length)).add k)=some v)∧y.esc=true:=fun i hi=>by
       obtain⟨cs',h1,h2⟩:=hel i (by omega)
       obtain⟨c1,c2⟩:=Zo2 h1
       obtain⟨ds,d1,d2,d3⟩:=Zmu n e le age he fu cs' _ h2
       obtain⟨s1,s2⟩:=ZnC _ _ d2
       cases age with
       | true=>
        refine⟨.agg ds,.agg cs'.toArray,⟨cs',rfl,d1⟩,rfl,d2,by simpa [Value.cells] using c1,fun k v hk=>?_,s1⟩
        have hk':cs'[k]? = some v:=by simpa [Value.cells] using hk
        rw[c2 k (by rw[← c1]; exact(List.getElem?_eq_some_iff.1 hk').1)]; exact hk'
       | false=>
        obtain⟨u,y,rfl,rfl,e1,e2⟩:=d3 rfl
        obtain⟨u',us',f1,f2,_⟩:=d1
        cases f1
        have hy:y.cells=[y]:=by
         cases y<;>first | rfl | (simp[D.isAgg] at e2)
        have hesc:y.esc=true:=by
         match le,d2,hpos with
         | l0 :: ls,d2,_=>
          obtain⟨d,r,g1,g2,_⟩:=d2
          cases g1
          exact(Zpp l0 y g2).1
        refine⟨y,u,f2,e2,by rw[hy]; exact d2,by rw[e1,← c1]; rfl,fun k v hk=>?_,hesc⟩
        rw[e1] at hk
        have hk0:k=0:=by
         have:=(Array.getElem?_eq_some_iff.1 hk).1; simp at this; exact this
        subst hk0
        simp at hk; subst hk
        rw[c2 0 (by omega)]; rfl
      have all:∀j,j≤len→∃ys:List D,ys.length=j∧(∀y∈ys,y.isAgg=age∧Zgn le y.cells∧y.esc=true)∧∀(i:Nat) y,ys[i]? = some y→∃u,Za5 All All All W y u∧u.cells.size=le.length∧∀k v,u.cells[k]? = some v→W.cell? ((a.add (i*le.length)).add k)=some v:=by
       intro j
       induction j with
       | zero=>intro _; exact⟨[],rfl,by simp,by simp⟩
       | succ j ih=>
        intro hj
        obtain⟨ys,y1,y2,y3⟩:=ih (by omega)
        obtain⟨y,u,z1,z2,z3,z4,z5,z6⟩:=each j (by omega)
        refine⟨ys++[y],by simp[y1],fun z hz=>?_,fun i z hz=>?_⟩
        ·rcases List.mem_append.1 hz with hz | hz
         ·exact y2 z hz
         ·simp at hz; subst hz; exact⟨z2,z3,z6⟩
        ·by_cases hi:i<ys.length
         ·rw[List.getElem?_append_left hi] at hz; exact y3 i z hz
         ·rw[List.getElem?_append_right (by omega)] at hz
          have hij:i-ys.length=0:=by
           have:=(List.getElem?_eq_some_iff.1 hz).1; simp at this; omega
          rw[hij] at hz
          simp at hz; subst hz
          have:i=j:=by omega
          subst this
          exact⟨u,z1,z4,z5⟩
      obtain⟨ys,y1,y2,y3⟩:=all len (Nat.le_refl _)
      refine⟨[.list true ys],⟨_,_,rfl,⟨_,len,cap,rfl,y1.symm,hlc,fun z hz=>(y2 z hz).2.2,fun hne=>?_⟩,rfl⟩,⟨_,_,rfl,⟨ys,rfl,by omega,fun z hz=>⟨(y2 z hz).1,(y2 z hz).2.1⟩⟩,rfl⟩,fun _=>⟨_,_,rfl,rfl,rfl,rfl⟩⟩
      have hlen:0<len:=by
       rw[← y1]; exact List.length_pos_iff.2 hne
      obtain⟨cs0,h1,_⟩:=hel 0 (by omega)
      obtain⟨c1,c2⟩:=Zo2 h1
      have c3:=c2 0 hpos
      have hcell:∃v,W.cell? a=some v:=by
       refine⟨cs0[0]'(by omega),?_⟩
       have e0:(a.add (0*le.length)).add 0=a:=by simp[Addr.add]
       rw[e0] at c3
       rw[c3]; exact List.getElem?_eq_getElem (by omega)
      obtain⟨v,hv⟩:=hcell
      have hspot:a.spot=none∧a.block<W.heap.size:=by
       unfold World.cell? at hv
       split at hv
       ·rename_i hb
        cases hsx:a.spot with
        | none=>exact⟨rfl,(Array.getElem?_eq_some_iff.1 hb).1⟩
        | some z=>rw[hsx] at hv; simp at hv
       ·cases hv
      obtain⟨b,off,spot⟩:=a
      obtain⟨hs1,hs2⟩:=hspot
      simp only at hs1 hs2
      subst hs1
      refine⟨b,off,le.length,rfl,trivial,hs2,Zhw ys off fun j y hj=>?_⟩
      obtain⟨u,u1,u2,u3⟩:=y3 j y hj
      refine⟨u,u1,u2,fun k v hk=>?_⟩
      rw[← u3 k v hk]
      congr 1
      unfold Addr.add
      by_cases hj0:j*le.length=0
      ·by_cases hk0:k=0<;>simp[hj0,hk0]
      ·by_cases hk0:k=0<;>simp[hj0,hk0]
  ·rename_i fs ht
   cases hf:ZhR P (lfs P n) 0 fs.toList with
   | none=>rw[hf] at h; cases h
   | some l'=>
    rw[hf] at h
    dsimp only at h
    cases hc:Nat.beq (P.cellsOf t) l'.length with
    | false=>rw[hc] at h; cases h
    | true=>
     rw[hc] at h
     simp only[cond_true,Option.some.injEq,Prod.mk.injEq] at h
     obtain⟨rfl,rfl⟩:=h
     have hcl:=Nat.eq_of_beq_eq_true hc
     obtain⟨xs,m,_,_,hlen,hxl,hxs⟩:=DataW.trod_struct ht hx
     have hlen':cs.length=l'.length:=hlen.trans hcl
     obtain⟨ds,e1,e2⟩:=Zm3 (m:=m) (cs:=cs) (g:=lfs P n) (fun t l ag cs x hg hx=>by
      obtain⟨ds,d1,d2,_⟩:=Zmu n t l ag hg m cs x hx
      exact⟨ds,d1,d2⟩) fs.toList 0 l' xs hf (by simpa using hxl) (by omega) (fun i f hf'=>hxs i f (by simpa using hf'))
     refine⟨ds,?_,e2,fun h=>by cases h⟩
     have:(cs.drop 0).take l'.length=cs:=by rw[List.drop_zero,List.take_of_length_le (by omega)]
     rw[this] at e1; exact e1
  ·cases h
def ZuN (ag:Bool) (ds:List D):D:=match ag,ds with | true,ds=>.agg ds | false,d :: _=>d | false,[]=>.nilp
theorem Zv1 {n:Nat} {t:TypeId} {l:List Lf} {ag:Bool} (h:lfs P n t=some (l,ag)) {base:Nat} {v:Value} {d:DataW H} {ps:List MemPlace} (hv:Value.okWide P W .any base t v) (hx:DataW.Trod enc P W 0 sp held t v d ps) :
  ∃ds,Zgn l ds∧Za5 All All All W (ZuN ag ds) v:=by
 obtain⟨fuel,hf⟩:=hx
 obtain⟨ds,d1,d2,d3⟩:=Zmu n t l ag h fuel _ _ hf
 refine⟨ds,d2,?_⟩
 have one:ag=false→v.cells = #[v]→Za5 All All All W (ZuN ag ds) v:=fun hag hc=>by
  subst hag
  obtain⟨u,y,e1,rfl,_,_⟩:=d3 rfl
  rw[hc] at e1
  cases e1
  obtain⟨u',us',f1,f2,_⟩:=d1
  rw[hc] at f1
  cases f1
  exact f2
 cases n with
 | zero=>cases h
 | succ n=>
  simp only[lfs] at h
  split at h
  ·rename_i ht
   cases h
   obtain⟨b,rfl⟩:=Go.WideShapes.okWide_bool ht hv
   exact one rfl rfl
  ·rename_i k ht
   cases h
   obtain⟨b,rfl⟩:=Go.WideShapes.okWide_int ht hv
   exact one rfl rfl
  ·rename_i ht
   cases h
   obtain⟨b,rfl⟩:=Go.WideShapes.okWide_string ht hv
   exact one rfl rfl
  ·rename_i e ht
   obtain⟨a,len,cap,rfl⟩:=Go.WideShapes.okWide_slice ht hv
   split at h
   ·rename_i le age hq
    cases hc:(Nat.beq (P.cellsOf e) le.length&&Nat.blt 0 le.length) with
    | false=>rw[hc] at h; cases h
    | true=>rw[hc] at h; cases h; exact one rfl rfl
   ·cases h
  ·rename_i fs ht
   obtain⟨cs,rfl,_⟩:=Go.WideShapes.okWide_struct ht hv
   split at h
   ·rename_i q hq
    cases hc:Nat.beq (P.cellsOf t) q.length with
    | false=>rw[hc] at h; cases h
    | true=>
     rw[hc] at h
     cases h
     exact⟨cs.toList,by simp,by simpa [Value.cells] using d1⟩
   ·cases h
  ·cases h
end
end Go.Proofs.YtljgncbdagmeeaaDoorE
namespace Go.Proofs.YtljgncbdagmeeaaDoorE
open Go
set_option linter.unusedVariables false
set_option linter.unusedSimpArgs false
def R0:RP:={ B1:=fun _=>False,B0:=fun _=>False,M:=fun _=>none,H:=[] }
section
variable {P:Program} {G:Zbx} {Γ:Ctx} {W:World}
theorem Zh3 (c:Nat):¬R0.live c:=by
 rintro ⟨i,h,_⟩
 simp[R0,Z6,nth] at h
theorem ZwS:R0.OK W where
 b01:=fun c h=>h.elim
 al:=fun i blk h=>by simp[R0] at h
 inj:=fun i j c h=>by simp[R0,Z6,nth] at h
 lt:=fun i c h=>by cases h
 blk:=fun i m blk h=>by simp[R0] at h
 nb:=fun i c h=>by simp[R0,Z6,nth] at h
 bl:=fun c h=>h.elim
theorem Zwc {x:D} {u:Value} (h:Za5 All All All W x u):R0.den W x u:=
 Za5.change _ _ _ _ (fun b _ _=>⟨Zh3 b,fun h=>h⟩) (fun b _ _=>⟨Zh3 b,fun h=>h⟩) (fun b _ _=>Zh3 b) (fun _ _ _=>rfl) (Nat.le_refl _) (fun _ _=>trivial) (fun _ _=>trivial) x u h
theorem ZuH {xs:List D} {us:List Value} (h:ZaQ All All All W xs us):ZaD R0 W (Zct xs) us:=
 (ZcU xs us).2 (ZaQ.change _ _ _ _ (fun b _ _=>⟨Zh3 b,fun h=>h⟩) (fun b _ _=>⟨Zh3 b,fun h=>h⟩) (fun b _ _=>Zh3 b) (fun _ _ _=>rfl) (Nat.le_refl _) (fun _ _=>trivial) (fun _ _=>trivial) xs us h)
theorem Zr1 (hs:ZeW P G (evW Γ)) (hg:GOK G R0 W) {f:Nat} {xs:List D} {us:List Value} (hd:ZaQ All All All W xs us) {H':Zl} (he:evW Γ f (Zct xs) []=some (.d (.bool true),H')) :
  Calls P f us.toArray W fun e W'=>e = .returned (.bool true)∧Go.RowKit.Below W.heap.size W W':=by
 obtain⟨_,h⟩:=hs f (Zct xs) [] _ _ he
 refine(h R0 W us ZwS hg rfl (fun i _=>rfl) (ZuH hd)).mono fun e W' ⟨u,h1,R',x,ok,hH,hv,_,_⟩=>?_
 have hu:u = .bool true:=hv
 subst hu
 exact⟨h1,⟨x.os,x.tape,x.output,x.grow,fun k hk=>x.same k hk (Zh3 k)⟩⟩
def ZjD (l:List (IntKind×Int)):List (DataW Unit):=l.map fun q=>.lit (.int q.1 q.2)
theorem Zpx {n:String} {d:DataW Unit}:∀{L:List (String×DataW Unit)} {ps:List MemPlace},DataW.LaidVars P W L ps→(n,d)∈L →
  ∃g t cs fuel p,P.globalNamed n=some g∧(P.globals[g]?).map (·.type)=some t∧W.var? P n=some cs∧DataW.trod (fun _=>()) P W 0 (fun _=>true) false fuel t cs.toList=some (d,p)
 | [],_,_,h=>by cases h
 | (m,e) :: L,ps,h,hm=>by
  obtain⟨g,t,cs,fuel,p,q,h1,h2,h3,h4,h5,_⟩:=h
  rcases List.mem_cons.1 hm with hm | hm
  ·cases hm; exact⟨g,t,cs,fuel,p,h1,h2,h3,h4⟩
  ·exact Zpx h5 hm
theorem Zmr {L:List (String×DataW Unit)} (h:laidMetH P L W) (hl:(L.all fun x=>x.2.handleName?.isNone)=true) {n:String} {l:List (IntKind×Int)} (hm:(n,DataW.agg (ZjD l))∈L) {g t N e:Nat} {k:IntKind}
  (hg:P.globalNamed n=some g) (ht:(P.globals[g]?).map (·.type)=some t) (hu:P.underlying t=some (.array N e)) (he:P.underlying e=some (.int k)) (hc:P.cellsOf e=1) (hN:l.length=N) (hne:0<N) :
  R0.den W (.rptr (gD l)) (.pointer (some ⟨g,0,none⟩)):=by
 rw[MakeChecks.laidMetH_plain _ _ _ hl] at h
 obtain⟨ps,hL,_,_⟩:=h
 obtain⟨g',t',cs,fuel,p,h1,h2,h3,h4⟩:=Zpx hL hm
 obtain rfl:=Option.some.inj (hg.symm.trans h1)
 obtain rfl:=Option.some.inj (ht.symm.trans h2)
 obtain⟨xs,m,_,hx,hlen,hxn,hel⟩:=DataW.trod_array hu h4
 have hmap:ZjD l=xs.map (·.1):=by
  have:=(Prod.mk.inj hx).1
  exact DataW.agg.inj this
 have cell:∀(i:Nat) q,l[i]? = some q→W.cell? ⟨g,i,none⟩=some (.int q.1 q.2):=fun i q hq=>by
  have hi:i<N:=by rw[← hN]; exact(List.getElem?_eq_some_iff.1 hq).1
  have hi2:i<xs.length:=by omega
  have e1:=hel i hi
  rw[List.getElem?_eq_getElem hi2] at e1
  obtain⟨z,z1,z2,_⟩:=DataW.trod_int he e1
  have e3:(ZjD l)[i]? = some (xs[i]'hi2).1:=by rw[hmap]; simp[hi2]
  rw[z2] at e3
  have e4:(ZjD l)[i]? = some (.lit (.int q.1 q.2)):=by simp[ZjD,hq]
  rw[e4] at e3
  have e5:q.1=k∧q.2=z:=by
   have:=Option.some.inj e3
   simpa using this
  rw[World.var?_cell h1 h3 i,hc] at *
  have e6:(cs.toList.drop (i*1)).take 1=[.int k z]:=z1
  have e7:cs.toList[i]? = some (.int k z):=by
   have:(cs.toList.drop (i*1))[0]? = some (.int k z):=by
    have h8:((cs.toList.drop (i*1)).take 1)[0]? = some (.int k z):=by rw[e6]; rfl
    rwa [List.getElem?_take_of_lt (by omega)] at h8
   simpa using this
  rw[e5.1,e5.2]
  simpa using e7
 have hb:g<W.heap.size:=by
  have:=cell 0 (l[0]'(by omega)) (List.getElem?_eq_getElem (by omega))
  unfold World.cell? at this
  split at this
  ·rename_i hb; exact(Array.getElem?_eq_some_iff.1 hb).1
  ·cases this
 have gd:∀(l:List (IntKind×Int)) (i:Nat) x,(gD l)[i]? = some x→∃q,l[i]? = some q∧x = .int q.1 q.2:=by
  intro l
  induction l with
  | nil=>intro i x h; simp[gD] at h
  | cons a r ih=>
   intro i x h
   obtain⟨k,z⟩:=a
   cases i with
   | zero=>simp[gD] at h; exact⟨(k,z),rfl,h.symm⟩
   | succ i=>simpa using ih i x (by simpa [gD] using h)
 refine Zwc ⟨g,0,rfl,trivial,hb,ZfV _ _ fun j x hj=>?_⟩
 obtain⟨q,q1,rfl⟩:=gd l j x hj
 exact⟨_,by rw[Nat.zero_add]; exact cell j q q1,rfl⟩
end
end Go.Proofs.YtljgncbdagmeeaaDoorE
namespace Go.Proofs.YtljgncbdagmeeaaDoorE
open Go
set_option linter.unusedVariables false
set_option linter.unusedSimpArgs false
noncomputable def bnd {α β:Type} (x:Option α) (k:α→Option β):Option β:=@dite _ (∃a,x=some a) (Classical.propDecidable _) (fun h=>k (Classical.choose h)) fun _=>none
theorem Zeh {α β:Type} (x:Option α) (k:α→Option β):bnd x k=(match x with | some a=>k a | none=>none):=by
  unfold bnd
  cases x with
  | none=>exact dif_neg (fun⟨a,h⟩=>by cases h)
  | some a=>
    have h:∃b,some a=some b:=⟨a,rfl⟩
    rw[dif_pos h]
    have:=Classical.choose_spec h
    rw[← Option.some.inj this]
theorem ZiL {α β:Type} (a:α) (k:α→Option β):bnd (some a) k=k a:=Zeh _ _
section
variable {β:Type}
def Zyy:List Nat:=[0,1,2,3,4,5,6,7,8,9,10,11,12,13,14,15,16,17,18,19,20,21,22,23,24,25,26,27,28,29,30,31,32,33,34,35,36,37,38,39,40,41,42,43,44,45,46,47,48,49,50,51,52,53,54,55,56,57,58,59,60,61,62,63]
def fgo (n:Nat) (k:Nat→Option β):List Nat→Option β
  | []=>k n
  | a :: l=>match Nat.beq n a with | true=>k a | false=>fgo n k l
def Zdn (n:Nat) (k:Nat→Option β):Option β:=fgo n k Zyy
def Zg4 (v:V) (k:V→Option β):Option β:=
  match v with
  | .d x=>k (.d x) | .bad=>k .bad | .ptr b o=>Zdn b fun b=>Zdn o fun o=>k (.ptr b o) | .eptr b sz i j=>Zdn b fun b=>Zdn j fun j=>k (.eptr b sz i j)
  | .sl b sz=>Zdn b fun b=>k (.sl b sz) | .slp b sz o l=>Zdn b fun b=>k (.slp b sz o l) | .nilsl sz=>k (.nilsl sz)
  | .agg cs=>k (.agg cs) | .tup cs=>k (.tup cs) | .fn f cs=>k (.fn f cs) | .mp b=>Zdn b fun b=>k (.mp b)
def ZhA (l:List V) (k:List V→Option β):Option β:=
  match l with
  | []=>k []
  | v :: vs=>Zg4 v fun v=>ZhA vs fun vs=>k (v :: vs)
def ZnR (v:V) (k:V→Option β):Option β:=
  match v with
  | .d x=>k (.d x) | .bad=>k .bad | .ptr b o=>Zg4 (.ptr b o) k | .eptr b sz i j=>Zg4 (.eptr b sz i j) k
  | .sl b sz=>Zg4 (.sl b sz) k | .slp b sz o l=>Zg4 (.slp b sz o l) k | .nilsl sz=>k (.nilsl sz)
  | .agg cs=>ZhA cs fun cs=>k (.agg cs) | .tup cs=>ZhA cs fun cs=>k (.tup cs) | .fn f cs=>ZhA cs fun cs=>k (.fn f cs) | .mp b=>Zg4 (.mp b) k
def ZgN (l:List V) (k:List V→Option β):Option β:=
  match l with
  | []=>k []
  | v :: vs=>ZnR v fun v=>ZgN vs fun vs=>k (v :: vs)
def ZpP (b:Blk) (k:Blk→Option β):Option β:=
  match b with
  | .dead=>k .dead | .cells cs=>ZgN cs fun cs=>k (.cells cs) | .arr sz xs=>k (.arr sz xs) | .mp es=>k (.mp es)
def Zih (H:Zl) (k:Zl→Option β):Option β:=
  match H with
  | []=>k []
  | b :: bs=>ZpP b fun b=>Zih bs fun bs=>k (b :: bs)
theorem ZtM (n:Nat) (k:Nat→Option β):∀(l:List Nat),fgo n k l=k n
  | []=>rfl
  | a :: l=>by
    unfold fgo
    cases h:Nat.beq n a with
    | true=>rw[Nat.eq_of_beq_eq_true h]
    | false=>exact ZtM n k l
theorem Zdz (n:Nat) (k:Nat→Option β):Zdn n k=k n:=ZtM n k _
theorem ZlN (v:V) (k:V→Option β):Zg4 v k=k v:=by cases v<;>simp[Zg4,Zdz]
theorem Zlh:∀(l:List V) (k:List V→Option β),ZhA l k=k l
  | [],k=>rfl
  | v :: vs,k=>by unfold ZhA; rw[ZlN,Zlh vs]
theorem ZnQ (v:V) (k:V→Option β):ZnR v k=k v:=by cases v<;>simp[ZnR,ZlN,Zlh]
theorem ZgA:∀(l:List V) (k:List V→Option β),ZgN l k=k l
  | [],k=>rfl
  | v :: vs,k=>by unfold ZgN; rw[ZnQ,ZgA vs]
theorem ZrW (b:Blk) (k:Blk→Option β):ZpP b k=k b:=by cases b<;>simp[ZpP,ZgA]
theorem Zhx:∀(l:Zl) (k:Zl→Option β),Zih l k=k l
  | [],k=>rfl
  | v :: vs,k=>by unfold Zih; rw[ZrW,Zhx vs]
def ZhP (l:List Nat) (k:List Nat→Option β):Option β:=
  match l with
  | []=>k []
  | a :: l=>Zdn a fun a=>ZhP l fun l=>k (a :: l)
theorem ZhN:∀(l:List Nat) (k:List Nat→Option β),ZhP l k=k l
  | [],k=>rfl
  | a :: l,k=>by unfold ZhP; rw[Zdz,ZhN l]
def ZiR (H:Zl) (l:List Nat) (bs:List Nat) (k:List Nat→Option β):Option β:=
  match bs with
  | []=>k l
  | b :: bs=>(match Zg6 l b || !(Z6 H b) with
    | true=>ZiR H l bs k
    | false=>ZhP (l++[b]) fun l=>ZiR H l bs k)
theorem ZhO (H:Zl):∀(bs l:List Nat) (k:List Nat→Option β),ZiR H l bs k=k (ZeX H l bs)
  | [],l,k=>rfl
  | b :: bs,l,k=>by
    unfold ZiR ZeX
    cases h:(Zg6 l b || !(Z6 H b)) with
    | true=>exact ZhO H bs l k
    | false=>simp only[ZhN,cond_false]; exact ZhO H bs _ k
def Zok (H:Zl) (n i:Nat) (l:List Nat) (k:List Nat→Option β):Option β:=
  match n with
  | 0=>k l
  | n+1=>(match nth l i with
    | some b=>ZhP (Zrb H b) fun bs=>ZiR H l bs fun l=>Zdn (i+1) fun i=>Zok H n i l k
    | none=>k l)
theorem Znc (H:Zl):∀(n i:Nat) (l:List Nat) (k:List Nat→Option β),Zok H n i l k=k (ZiB H n i l)
  | 0,i,l,k=>rfl
  | n+1,i,l,k=>by
    unfold Zok ZiB
    cases h:nth l i with
    | none=>rfl
    | some b=>simp only[ZhN,Zdz,ZhO]; exact Znc H n (i+1) _ k
def Ze7 (m:Nat) (vs:List V) (H:Zl) (k:List Nat→List V→Zl→Option β):Option β:=
  ZgN vs fun vs=>ZhP (ZjX m) fun u=>ZhP (Zgq vs) fun r=>ZiR H u r fun l=>Zok H (H.length+1) 0 l fun L=>
    (match ZjR L&&ZmU H.length L with
    | true=>ZgN (Zgs (fun b=>idx L b 0) vs) fun vs=>Zih (pick H (fun b=>idx L b 0) L) fun H=>k L vs H
    | false=>none)
theorem Zc6 (m:Nat) (vs:List V) (H:Zl) (k:List Nat→List V→Zl→Option β):Ze7 m vs H k=(match extract m vs H with | some (L,vs,H)=>k L vs H | none=>none):=by
  unfold Ze7 extract Zka
  simp only[ZgA,ZhN,ZhO,Znc,Zhx]
  cases (ZjR (ZiB H (H.length+1) 0 (ZeX H (ZjX m) (Zgq vs)))&&ZmU H.length (ZiB H (H.length+1) 0 (ZeX H (ZjX m) (Zgq vs))))<;>rfl
def Zjr (n:Nat) (vs:List V) (k:List V→List Blk→Option β):Option β:=
  match vs with
  | []=>k [] []
  | v :: vs=>(match v with
    | .nilsl sz=>(match Nat.blt 0 sz with
      | true=>Zdn (n+1) fun n1=>Zjr n1 vs fun vs bs=>k (.sl n sz :: vs) (.arr sz [] :: bs)
      | false=>Zjr n vs fun vs bs=>k (.nilsl sz :: vs) bs)
    | v=>Zjr n vs fun vs bs=>k (v :: vs) bs)
theorem Zhh:∀(vs:List V) (n:Nat) (k:List V→List Blk→Option β),Zjr n vs k=k (ZbW n vs).1 (ZbW n vs).2
  | [],n,k=>rfl
  | v :: vs,n,k=>by
    unfold Zjr
    split
    · rename_i sz
      simp only[ZbW]
      cases h:Nat.blt 0 sz with
      | true=>simp only[Zdz,cond_true]; exact Zhh vs (n+1) _
      | false=>exact Zhh vs n _
    · rename_i h
      rw[Zhh vs n]
      cases v<;>first | rfl | exact absurd rfl (h _)
def Zkt (n:Nat) (H:Zl) (k:Zl→List Blk→Option β):Option β:=
  match H with
  | []=>k [] []
  | b :: H=>(match b with
    | .cells cs=>Zjr n cs fun cs bs=>Zdn (n+bs.length) fun n1=>Zkt n1 H fun H q=>k (.cells cs :: H) (bs++q)
    | b=>Zkt n H fun H q=>k (b :: H) q)
theorem Zjx:∀(H:Zl) (n:Nat) (k:Zl→List Blk→Option β),Zkt n H k=k (Zcs n H).1 (Zcs n H).2
  | [],n,k=>rfl
  | b :: H,n,k=>by
    unfold Zkt
    cases b<;>first | exact Zjx H n _ | skip
    rename_i cs
    simp only[Zhh,Zdz,Zcs]
    exact Zjx H _ _
def Zl4 (m:Nat) (vs:List V) (H:Zl) (k:List V→Zl→Option β):Option β:=
  Ze7 m vs H fun _ vs1 H1=>Zjr H1.length vs1 fun vs2 bs=>Zdn (H1.length+bs.length) fun n=>Zkt n H1 fun H2 q=>Zih (H2++(bs++q)) fun H2=>Ze7 m vs2 H2 fun _ vs3 H3=>k vs3 H3
theorem Zpb (m:Nat) (vs:List V) (H:Zl) (k:List V→Zl→Option β):Zl4 m vs H k=(match Zlk m vs H with | some (vs,H)=>k vs H | none=>none):=by
  unfold Zl4 Zlk
  rw[Zc6]
  cases h:extract m vs H with
  | none=>rfl
  | some p=>
    obtain⟨L,vs1,H1⟩:=p
    simp only[Zhh,Zdz,Zjx,Zhx,Zc6]
    cases extract m (ZbW H1.length vs1).1 ((Zcs (H1.length+(ZbW H1.length vs1).2.length) H1).1++((ZbW H1.length vs1).2++(Zcs (H1.length+(ZbW H1.length vs1).2.length) H1).2))<;>rfl
noncomputable def br (c:Bool) (x y:Option β):Option β:=@ite _ (c=true) (Classical.propDecidable _) x y
theorem ZdH (c:Bool) (x y:Option β):br c x y=bif c then x else y:=by
  unfold br
  cases c with
  | true=>exact if_pos rfl
  | false=>exact if_neg (by simp)
def brL (c:Bool) (x y:Option β):Option β:=match c with | true=>x | false=>y
noncomputable def Ziu (c:Bool) (k:V→Option β):Option β:=br c (k (.d (.bool true))) (k (.d (.bool false)))
theorem Zho (c:Bool) (k:V→Option β):Ziu c k=k (.d (.bool c)):=by
  unfold Ziu
  rw[ZdH]
  cases c<;>rfl
noncomputable def Znd (v:V) (k:V→Option β):Option β:=match v with | .d (.bool c)=>Ziu c k | v=>k v
theorem Zpn (v:V) (k:V→Option β):Znd v k=k v:=by
  unfold Znd
  split
  · exact Zho _ _
  · rfl
noncomputable def Zub (x:D) (k:V→Option β):Option β:=match x with | .bool c=>Ziu c k | .tup ts=>k (.tup (Zct ts)) | x=>k (.d x)
abbrev K3 (β:Type):=V→List (Nat×Blk)→List Blk→Option β
noncomputable def ZuV (op:BinOp) (x y:V) (k:V→Option β):Option β:=
  match op,x,y with
  | .quo,.d (.int i a),.d (.int j b)=>(match i==j with | true=>br (b==0) none (k (.d (.int i (i.wrap (a.tdiv b))))) | false=>none)
  | .rem,.d (.int i a),.d (.int j b)=>(match i==j with | true=>br (b==0) none (k (.d (.int i (a.tmod b)))) | false=>none)
  | .shl,.d (.int i a),.d (.int _ b)=>br (decide (b<0)) none (k (.d (.int i (i.wrap (a*2 ^ (min b.toNat i.bits))))))
  | .shr,.d (.int i a),.d (.int _ b)=>br (decide (b<0)) none (k (.d (.int i (a.fdiv (2 ^ (min b.toNat i.bits))))))
  | op,x,y=>match ZkV op x y with | some (.bool c)=>Ziu c k | some r=>k (.d r) | none=>none
noncomputable def ZqL (H:Zl) (n:Nat) (ag:Bool) (x:V) (k:V→Option β):Option β:=
  match x with
  | .eptr b sz i j=>(match nth H b with
    | some (.arr sz' xs)=>(match Nat.beq sz sz' with
      | true=>bnd (nth xs i) fun x=>(match Zd5 n ag (Zct (x.cells.drop j)) with | some v=>Znd v k | none=>none)
      | false=>none)
    | _=>none)
  | x=>match ZcY H n ag x with | some v=>Znd v k | none=>none
noncomputable def Zqt (H:Zl) (n:Nat) (x v:V) (k:K3 β):Option β:=
  match x with
  | .eptr b sz i j=>(match nth H b with
    | some (.arr sz' xs)=>(match Nat.beq sz sz' with
      | true=>bnd (nth xs i) fun x=>(match fr H 6 v with
        | some (y,ks)=>(match Zg6 ks b with
          | true=>none
          | false=>(match Nat.beq y.cells.length n&&Nat.ble (j+n) x.cells.length&&(V.d y).okb&&(x.isAgg || !y.isAgg) with
            | true=>bnd (some (Zez xs i (bif x.isAgg then .agg (Zal x.cells j y.cells) else y))) fun zs=>k .bad ((b,.arr sz zs) :: ks.map (fun j=>(j,.dead))) []
            | false=>none))
        | none=>none)
      | false=>none)
    | _=>none)
  | x=>match ZjJ H n x v with | some (a,b,c)=>k a b c | none=>none
noncomputable def ZnX (nid:Nat) (H:Zl) (sz:Nat) (x y:V) (k:K3 β):Option β:=
  match elems H y with
  | none=>none
  | some ys=>
    br (Zif sz ys 0) (match x with
    | .nilsl _=>br (Nat.ble ys.length lim) (bnd (some ys) fun zs=>k (.sl nid sz) [] [.arr sz zs]) none
    | .sl b sz'=>(match nth H b with
      | some (.arr sz'' xs)=>(match Nat.beq sz sz'&&Nat.beq sz sz'' with
        | true=>br (Nat.ble (xs.length+ys.length) lim) (bnd (some (xs++ys)) fun zs=>k (.sl nid sz) [(b,.dead)] [.arr sz zs]) none
        | false=>none)
      | _=>none)
    | .slp b sz' o len=>(match nth H b with
      | some (.arr sz'' xs)=>(match Nat.beq sz sz'&&Nat.beq sz sz'' with
        | true=>br (Nat.ble (o+len+ys.length) xs.length) (bnd (some (xs.take (o+len)++(ys++xs.drop (o+len+ys.length)))) fun zs=>bnd (some (len+ys.length)) fun n=>k (.slp b sz o n) [(b,.arr sz zs)] []) none
        | false=>none)
      | _=>none)
    | _=>none) none
noncomputable def Zkb (H:Zl) (sz:Nat) (x y:V) (k:V→Option β):Option β:=
  match x with
  | .nilsl _=>(match elems H y with
    | some ys=>br (Zif sz ys 0) (br (Nat.ble ys.length lim) (bnd (some ys) fun zs=>k (.d (.list true zs))) none) none
    | none=>none)
  | _=>none
noncomputable def Zmf (v:Option V) (dflt:Nat) (k:Nat→Option β):Option β:=
  match v with
  | none=>k dflt
  | some (.d (.int _ n))=>br (decide (0≤n)) (k n.toNat) none
  | _=>none
noncomputable def Zn5 (H:Zl) (sz:Nat) (x:V) (lo hi mx:Option V) (k:V→Option β):Option β:=
  match elems H x with
  | none=>none
  | some xs=>
    Zmf lo 0 fun l=>Zmf hi xs.length fun h=>
      br (Nat.ble l h&&Nat.ble h xs.length)
        (match mx with
        | none=>(match x with
          | .d (.list own _)=>br (Nat.beq l 0 || Zif sz xs l) (bnd (some ((xs.drop l).take (h-l))) fun zs=>k (.d (.list own zs))) none
          | .sl b sz'=>(match Nat.beq sz sz' with | true=>bnd (some l) fun l'=>bnd (some (h-l)) fun n=>k (.slp b sz l' n) | false=>none)
          | .slp b sz' o _=>(match Nat.beq sz sz' with | true=>bnd (some (o+l)) fun l'=>bnd (some (h-l)) fun n=>k (.slp b sz l' n) | false=>none)
          | .nilsl _=>k (.nilsl sz)
          | _=>none)
        | some m=>Zmf (some m) 0 fun m=>br (Nat.beq m l&&Nat.beq m h) (k (.nilsl sz)) none)
        none
noncomputable def Zoa (H:Zl) (sz:Nat) (x i:V) (k:V→Option β):Option β:=
  match i with
  | .d (.int _ i)=>(match x with
    | .d (.list _ xs)=>bnd (ZF xs i) fun x=>(match Nat.beq x.cells.length sz&&(V.d x).okb with | true=>k (.d (.rptr x.cells)) | false=>none)
    | .sl b sz'=>(match nth H b with
      | some (.arr sz'' xs)=>(match Nat.beq sz sz'&&Nat.beq sz sz'' with | true=>bnd (ZF xs i) fun _=>k (.eptr b sz i.toNat 0) | false=>none)
      | _=>none)
    | .slp b sz' o len=>(match nth H b with
      | some (.arr sz'' xs)=>(match Nat.beq sz sz'&&Nat.beq sz sz'' with | true=>bnd (ZF ((xs.drop o).take len) i) fun _=>k (.eptr b sz (o+i.toNat) 0) | false=>none)
      | _=>none)
    | _=>none)
  | _=>none
noncomputable def ZnV (len sz:Nat) (ag:Bool) (x i:V) (k:V→Option β):Option β:=
  match i with
  | .d (.int _ i)=>br (x.isAggV&&(decide (0≤i)&&decide (i<len))) (bnd (Zd5 sz ag (x.cells.drop (i.toNat*sz))) k) none
  | _=>none
noncomputable def Zlq (H:Zl) (len sz:Nat) (x i:V) (k:V→Option β):Option β:=
  match i with
  | .d (.int _ i)=>br (decide (0≤i)&&decide (i<len)) (match ZhX H (i.toNat*sz) x with | some v=>k v | none=>none) none
  | _=>none
noncomputable def Zlx (x i:V) (k:V→Option β):Option β:=
  match x,i with
  | .d (.str s),.d (.int _ i)=>br (decide (0≤i)) (bnd s[i.toNat]? fun b=>k (.d (.int .u8 b.toNat))) none
  | _,_=>none
noncomputable def ZmW (k:V→Option β) (r:V×Zl):Option β:=match fr r.2 6 r.1 with | some (x,_)=>Zub x k | none=>none
noncomputable def Zk3 (Γ:Ctx) (cf:Zbg) (nid:Nat) (H:Zl) (f:Nat) (args:List V) (k:K3 β):Option β:=
  match Γ.mode f with
  | 0=>(match fzs H args with
    | some l=>ZgN (Zct l) fun l=>bnd (cf f l []) (ZmW fun v=>k v [] [])
    | none=>none)
  | 1=>(match fzs H args with
    | some l=>ZgN (Zct l) fun l=>bnd (cf f l []) fun r=>(match ZmX r.1&&Zjf r.2 with | true=>k (Zj8 (fun j=>some (nid+j)) r.1) [] (r.2.map (Zga (fun j=>some (nid+j)))) | false=>none)
    | none=>none)
  | _ => (Ze7 0 args H fun L args' H0 => bnd (cf f args' H0) fun r => (match Zi9 r.1 && Zhe r.2 with
        | true=>k (Zj8 (fun j=>match nth L j with | some b=>some b | none=>some (nid+(j-L.length))) r.1)
          (L.zip (r.2.map (Zga (fun j=>match nth L j with | some b=>some b | none=>some (nid+(j-L.length))))))
          ((r.2.drop L.length).map (Zga (fun j=>match nth L j with | some b=>some b | none=>some (nid+(j-L.length)))))
        | false=>none))
noncomputable def ZoB (H:Zl) (ks:List Bool) (m k v:V) (kk:K3 β):Option β:=
  match m,k,v with
  | .mp b,.d k,.d y=>(match nth H b with
    | some (.mp es)=>(match Zc5 ks k&&Zf4 y with | true=>bnd (Zg8 es k y) fun l=>kk .bad [(b,.mp l)] [] | false=>none)
    | _=>none)
  | _,_,_=>none
noncomputable def Zox (H:Zl) (ks:List Bool) (z:D) (m k:V) (kk:K3 β):Option β:=
  match m,k with
  | .mp b,.d k=>(match nth H b with
    | some (.mp es)=>(match Zc5 ks k with | true=>bnd (ZtN es k z) fun y=>kk (.d y) [] [] | false=>none)
    | _=>none)
  | _,_=>none
noncomputable def opK (Γ:Ctx) (cf:Zbg) (e:Env) (nid:Nat) (H:Zl) (o:O) (k:K3 β):Option β:=
  match o with
  | .mov x=>k (x.val e) [] []
  | .pick c a b=>(match c.val e with | .d (.bool t)=>brL t (k (a.val e) [] []) (k (b.val e) [] []) | _=>none)
  | .load n ag x=>ZqL H n ag (x.val e) fun v=>k v [] []
  | .store n x v=>Zqt H n (x.val e) (v.val e) k
  | .bin op x y=>ZuV op (x.val e) (y.val e) fun v=>k v [] []
  | .slice sz x lo hi mx=>Zn5 H sz (x.val e) (lo.map (·.val e)) (hi.map (·.val e)) (mx.map (·.val e)) fun v=>k v [] []
  | .iaddr sz x i=>Zoa H sz (x.val e) (i.val e) fun v=>k v [] []
  | .index len sz ag x i=>ZnV len sz ag (x.val e) (i.val e) fun v=>k v [] []
  | .iaddrA len sz x i=>Zlq H len sz (x.val e) (i.val e) fun v=>k v [] []
  | .indexS x i=>Zlx (x.val e) (i.val e) fun v=>k v [] []
  | .append sz x y=>ZnX nid H sz (x.val e) (y.val e) k
  | .appendD sz x y=>Zkb H sz (x.val e) (y.val e) fun v=>k v [] []
  | .eqv ks neg x y=>(match x.val e,y.val e with
    | .d a,.d b=>(match Zc5 ks a with | true=>(match eqD a b with | some r=>Ziu (bif neg then !r else r) fun v=>k v [] [] | none=>none) | false=>none)
    | _,_=>none)
  | .un .not x=>(match x.val e with | .d (.bool b)=>brL b (k (.d (.bool false)) [] []) (k (.d (.bool true)) [] []) | _=>none)
  | .extract x i=>(match x.val e with
    | .tup vs=>(match nth vs i with | some (.d (.bool c))=>Ziu c fun v=>k v [] [] | some v=>k v [] [] | none=>none)
    | .d (.tup vs)=>(match nth vs i with | some (.bool c)=>Ziu c fun v=>k v [] [] | some v=>k (.d v) [] [] | none=>none)
    | _=>none)
  | .mkslice sz z n c=>(match n.val e,c.val e with
    | .d (.int _ n),.d (.int _ c)=>br (decide (0≤n)&&decide (n≤lim)&&decide (n==c))
        (bnd (some (List.replicate n.toNat (match z with | [x]=>x | z=>.agg z))) fun zs=>k (.sl nid sz) [] [.arr sz zs]) none
    | _,_=>none)
  | .len x=>(match elems H (x.val e) with | some xs=>bnd (some (xs.length:Int)) fun n=>k (.d (.int .i64 n)) [] [] | none=>none)
  | .call f args=>Zk3 Γ cf nid H f (Zek e args) k
  | .callv x args=>(match Zh5 (x.val e) with | some (f,caps)=>(match Zfi Γ (x.val e) f caps with | true=>none | false=>Zk3 Γ cf nid H f (Zek e args++caps) k) | none=>none)
  | .invoke tab x args=>(match x.val e with
    | .d (.iface t y)=>(match Zjh tab t with | some f=>Zk3 Γ cf nid H f (.d y :: Zek e args) k | none=>none)
    | _=>none)
  | .callk f args _=>Zk3 Γ cf nid H f (Zek e args) k
  | .spec id args=>(match H,Zir (Zek e args) with | [],some l=>bnd (Ziw id l) fun r=>k (.d r) [] [] | _,_=>none)
  | .nilq x=>(match elems H (x.val e) with | some xs=>br (Nat.blt 0 xs.length) (k (.d (.bool false)) [] []) none | none=>none)
  | .mapset ks m x v=>ZoB H ks (m.val e) (x.val e) (v.val e) k
  | .mapget ks z m x=>Zox H ks z (m.val e) (x.val e) k
  | o=>match opE Γ cf e nid H o with | some (v,up,nw)=>Znd v fun v=>k v up nw | none=>none
def on3 (x:Res) (k:K3 β):Option β:=match x with | some (v,up,nw)=>k v up nw | none=>none
theorem Zkm (Γ:Ctx) (cf:Zbg) (nid:Nat) (H:Zl) (f:Nat) (args:List V) (k:K3 β):Zk3 Γ cf nid H f args k=on3 (Zfg Γ cf nid H f args) k:=by
  unfold Zk3 Zfg
  generalize Γ.mode f=m
  match m with
  | 0=>
    dsimp only
    simp only[Zeh]
    cases h1:fzs H args with
    | none=>rfl
    | some l=>
      simp only[ZgA]
      cases h2:cf f (Zct l) [] with
      | none=>rfl
      | some r=>
        obtain⟨v,H1⟩:=r
        dsimp only[ZmW]
        cases h3:fr H1 6 v with
        | none=>rfl
        | some q => obtain ⟨x, ks⟩ := q; cases x <;> try rfl
                    exact Zho _ (fun v=>k v [] [])
  | 1=>
    dsimp only
    simp only[Zeh]
    cases h1:fzs H args with
    | none=>rfl
    | some l=>
      simp only[ZgA]
      cases h2:cf f (Zct l) [] with
      | none=>rfl
      | some r=>
        dsimp only
        cases h3:(ZmX r.1&&Zjf r.2)<;>rfl
  | m+2=>
    dsimp only
    simp only[Zeh]
    rw[Zc6]
    cases h1:extract 0 args H with
    | none=>rfl
    | some q=>
      obtain⟨L,args',H0⟩:=q
      dsimp only
      cases h2:cf f args' H0 with
      | none=>rfl
      | some r=>
        dsimp only
        cases h3:(Zi9 r.1&&Zhe r.2)<;>rfl
theorem ZuD (op:BinOp) (x y:V) (k:V→Option β):ZuV op x y k=(match ZkV op x y with | some r=>k (.d r) | none=>none):=by
  unfold ZuV
  split
  · rename_i i a j b
    simp only[ZkV,Zu8]
    cases h:(i==j)<;>simp only[cond_true,cond_false,ZdH]
    cases h2:(b==0)<;>rfl
  · rename_i i a j b
    simp only[ZkV,Zu8]
    cases h:(i==j)<;>simp only[cond_true,cond_false,ZdH]
    cases h2:(b==0)<;>rfl
  · rename_i i a j b
    simp only[ZkV,shI,ZdH]
    cases h:decide (b<0)<;>rfl
  · rename_i i a j b
    simp only[ZkV,shI,ZdH]
    cases h:decide (b<0)<;>rfl
  · cases h:ZkV op x y with
    | none=>rfl
    | some r => cases r <;> try rfl
                exact Zho _ _
theorem Zs4 (H:Zl) (n:Nat) (ag:Bool) (x:V) (k:V→Option β):ZqL H n ag x k=(match ZcY H n ag x with | some v=>k v | none=>none):=by
  unfold ZqL
  simp only[Zeh]
  simp only[Zpn]
  split
  · rename_i b sz i j
    simp only[ZcY]
    cases h:nth H b with
    | none=>rfl
    | some blk=>
      cases blk<;>try rfl
      rename_i sz' xs
      dsimp only
      cases h2:Nat.beq sz sz'<;>simp only[cond_true,cond_false]
      cases h3:nth xs i<;>rfl
  · rfl
theorem ZrC (H:Zl) (n:Nat) (x v:V) (k:K3 β):Zqt H n x v k=on3 (ZjJ H n x v) k:=by
  unfold Zqt
  simp only[Zeh]
  split
  · rename_i b sz i j
    simp only[ZjJ]
    cases h:nth H b with
    | none=>rfl
    | some blk=>
      cases blk<;>try rfl
      rename_i sz' xs
      dsimp only
      cases h2:Nat.beq sz sz'<;>simp only[cond_true,cond_false]<;>try rfl
      cases h3:nth xs i with
      | none=>rfl
      | some x=>
        cases h4:fr H 6 v with
        | none=>rfl
        | some q=>
          obtain⟨y,ks⟩:=q
          dsimp only
          cases h5:Zg6 ks b<;>simp only[cond_true,cond_false]<;>try rfl
          cases h6:(Nat.beq y.cells.length n&&Nat.ble (j+n) x.cells.length&&(V.d y).okb&&(x.isAgg || !y.isAgg))<;>rfl
  · rfl
theorem ZpH (nid:Nat) (H:Zl) (sz:Nat) (x y:V) (k:K3 β):ZnX nid H sz x y k=on3 (ZiP nid H sz x y) k:=by
  unfold ZnX ZiP
  cases h:elems H y with
  | none=>rfl
  | some ys=>
    simp only[ZdH,ZiL]
    cases h0:Zif sz ys 0<;>simp only[cond_true,cond_false]<;>try rfl
    cases x<;>try rfl
    · rename_i b sz'
      dsimp only
      cases h1:nth H b with
      | none=>rfl
      | some blk=>
        cases blk<;>try rfl
        rename_i sz'' xs
        dsimp only
        cases h2:(Nat.beq sz sz'&&Nat.beq sz sz'')<;>simp only[cond_true,cond_false]<;>try rfl
        cases h3:Nat.ble (xs.length+ys.length) lim<;>rfl
    · rename_i b sz' o len
      dsimp only
      cases h1:nth H b with
      | none=>rfl
      | some blk=>
        cases blk<;>try rfl
        rename_i sz'' xs
        dsimp only
        cases h2:(Nat.beq sz sz'&&Nat.beq sz sz'')
        · simp only[Bool.false_and,cond_false]; rfl
        · simp only[Bool.true_and,ZdH]
          cases h3:Nat.ble (o+len+ys.length) xs.length<;>rfl
    · dsimp only
      cases h3:Nat.ble ys.length lim<;>rfl
theorem ZpB (H:Zl) (sz:Nat) (x y:V) (k:V→Option β):Zkb H sz x y k=(match ZgJ H sz x y with | some v=>k v | none=>none):=by
  unfold Zkb ZgJ
  cases x<;>try rfl
  dsimp only
  cases h:elems H y with
  | none=>rfl
  | some ys=>
    simp only[ZdH,ZiL]
    cases h0:Zif sz ys 0<;>cases h1:Nat.ble ys.length lim<;>rfl
theorem Zr9 (v:Option V) (d:Nat) (k:Nat→Option β):Zmf v d k=(match ZfZ v d with | some n=>k n | none=>none):=by
  unfold Zmf ZfZ
  cases v with
  | none=>rfl
  | some v=>
    cases v<;>try rfl
    rename_i x
    cases x<;>try rfl
    rename_i i n
    dsimp only
    rw[ZdH]
    cases h:decide (0≤n)<;>rfl
theorem ZrM (H:Zl) (sz:Nat) (x:V) (lo hi mx:Option V) (k:V→Option β):Zn5 H sz x lo hi mx k=(match ZgI H sz x lo hi mx with | some v=>k v | none=>none):=by
  unfold Zn5 ZgI
  cases h:elems H x with
  | none=>rfl
  | some xs=>
    simp only[Zr9]
    cases h1:ZfZ lo 0 with
    | none=>rfl
    | some l=>
      cases h2:ZfZ hi xs.length with
      | none=>rfl
      | some hh=>
        simp only[ZdH,ZiL]
        cases h3:(Nat.ble l hh&&Nat.ble hh xs.length)<;>simp only[cond_true,cond_false]
        cases mx with
        | none=>
          cases x<;>try rfl
          · rename_i x
            cases x<;>try rfl
            dsimp only
            cases h4:(Nat.beq l 0 || Zif sz xs l)<;>rfl
          · rename_i b sz'
            dsimp only
            cases h4:Nat.beq sz sz'<;>rfl
          · rename_i b sz' o len
            dsimp only
            cases h4:Nat.beq sz sz'<;>rfl
        | some m=>
          dsimp only
          cases h4:ZfZ (some m) 0 with
          | none=>rfl
          | some m=>
            dsimp only
            cases h5:(Nat.beq m l&&Nat.beq m hh)<;>rfl
theorem Zsd (H:Zl) (sz:Nat) (x i:V) (k:V→Option β):Zoa H sz x i k=(match Zgp H sz x i with | some v=>k v | none=>none):=by
  unfold Zoa Zgp
  simp only[Zeh]
  cases i<;>try rfl
  rename_i i
  cases i<;>try rfl
  rename_i ki i
  cases x<;>try rfl
  · rename_i x
    cases x<;>try rfl
    rename_i own xs
    dsimp only
    cases h:ZF xs i with
    | none=>rfl
    | some x=>
      dsimp only
      cases h2:(Nat.beq x.cells.length sz&&(V.d x).okb)<;>rfl
  · rename_i b sz'
    dsimp only
    cases h1:nth H b with
    | none=>rfl
    | some blk=>
      cases blk<;>try rfl
      rename_i sz'' xs
      dsimp only
      cases h2:(Nat.beq sz sz'&&Nat.beq sz sz'')<;>simp only[cond_true,cond_false]
      cases h:ZF xs i<;>rfl
  · rename_i b sz' o len
    dsimp only
    cases h1:nth H b with
    | none=>rfl
    | some blk=>
      cases blk<;>try rfl
      rename_i sz'' xs
      dsimp only
      cases h2:(Nat.beq sz sz'&&Nat.beq sz sz'')<;>simp only[cond_true,cond_false]
      cases h:ZF ((xs.drop o).take len) i<;>rfl
theorem ZrH (len sz:Nat) (ag:Bool) (x i:V) (k:V→Option β):ZnV len sz ag x i k=(match ZjP len sz ag x i with | some v=>k v | none=>none):=by
  unfold ZnV ZjP
  cases i<;>try rfl
  rename_i i
  cases i<;>try rfl
  rename_i ki i
  dsimp only
  rw[ZdH,Zeh]
  cases (x.isAggV&&(decide (0≤i)&&decide (i<(len:Int)))) with
  | false=>rfl
  | true=>simp only[cond_true]; cases Zd5 sz ag (List.drop (i.toNat*sz) x.cells)<;>rfl
theorem ZpS (H:Zl) (len sz:Nat) (x i:V) (k:V→Option β):Zlq H len sz x i k=(match Ze6 H len sz x i with | some v=>k v | none=>none):=by
  unfold Zlq Ze6
  cases i<;>try rfl
  rename_i i
  cases i<;>try rfl
  rename_i ki i
  dsimp only
  rw[ZdH]
  cases (decide (0≤i)&&decide (i<(len:Int)))<;>rfl
theorem ZpK (x i:V) (k:V→Option β):Zlx x i k=(match ZhY x i with | some v=>k v | none=>none):=by
  unfold Zlx ZhY
  cases x<;>try rfl
  rename_i x
  cases x<;>try rfl
  rename_i s
  cases i<;>try rfl
  rename_i i
  cases i<;>try rfl
  rename_i ki i
  dsimp only
  rw[ZdH,Zeh]
  cases decide (0≤i) with
  | false=>rfl
  | true=>simp only[cond_true]; cases s[i.toNat]?<;>rfl
theorem ZqZ (x:Res) (k:K3 β):(match x with | some (v,up,nw)=>Znd v fun v=>k v up nw | none=>none)=on3 x k:=by
  cases x with
  | none=>rfl
  | some q=>exact Zpn _ _
theorem Zqg (H:Zl) (ks:List Bool) (m x v:V) (k:K3 β):ZoB H ks m x v k=on3 (ZjV H ks m x v) k:=by
  unfold ZoB ZjV
  cases m<;>try rfl
  cases x<;>try rfl
  cases v<;>try rfl
  rename_i b x y
  dsimp only
  cases hb:nth H b with
  | none=>rfl
  | some blk=>
    cases blk<;>try rfl
    rename_i es
    dsimp only
    cases hk:(Zc5 ks x&&Zf4 y) with
    | false=>rfl
    | true=>
      dsimp only
      rw[Zeh]
      cases hs:Zg8 es x y<;>rfl
theorem Zqv (H:Zl) (ks:List Bool) (z:D) (m x:V) (k:K3 β):Zox H ks z m x k=on3 (match ZiZ H ks z m x with | some r=>ZcM (.d r) | none=>none) k:=by
  unfold Zox ZiZ
  cases m<;>try rfl
  cases x<;>try rfl
  rename_i b x
  dsimp only
  cases hb:nth H b with
  | none=>rfl
  | some blk=>
    cases blk<;>try rfl
    rename_i es
    dsimp only
    cases hk:Zc5 ks x with
    | false=>rfl
    | true=>
      dsimp only
      rw[Zeh]
      cases hs:ZtN es x z<;>rfl
theorem Zof (Γ:Ctx) (cf:Zbg) (e:Env) (nid:Nat) (H:Zl) (o:O) (k:K3 β):opK Γ cf e nid H o k=on3 (opE Γ cf e nid H o) k:=by
  cases o<;>try (first | rfl | exact ZqZ _ _)
  · rename_i c a b
    show(match c.val e with | .d (.bool t)=>brL t (k (a.val e) [] []) (k (b.val e) [] []) | _=>none)=on3 (match c.val e with | .d (.bool t)=>ZcM (bif t then a.val e else b.val e) | _=>none) k
    cases c.val e<;>try rfl
    rename_i x
    cases x<;>try rfl
    rename_i t
    cases t<;>rfl
  · rename_i n ag x
    show ZqL H n ag (x.val e) (fun v=>k v [] [])=on3 (match ZcY H n ag (x.val e) with | some v=>ZcM v | none=>none) k
    rw[Zs4]
    cases h:ZcY H n ag (x.val e)<;>rfl
  · exact ZrC _ _ _ _ _
  · rename_i op x y
    show ZuV op (x.val e) (y.val e) (fun v=>k v [] [])=on3 (match ZkV op (x.val e) (y.val e) with | some r=>ZcM (.d r) | none=>none) k
    rw[ZuD]
    cases h:ZkV op (x.val e) (y.val e)<;>rfl
  · rename_i ks neg x y
    show(match x.val e,y.val e with
      | .d a,.d b=>(match Zc5 ks a with | true=>(match eqD a b with | some r=>Ziu (bif neg then !r else r) (fun v=>k v [] []) | none=>none) | false=>none)
      | _,_=>none)=on3 (match x.val e,y.val e with
      | .d a,.d b=>(match Zc5 ks a with | true=>(match eqD a b with | some r=>ZcM (.d (.bool (bif neg then !r else r))) | none=>none) | false=>none)
      | _,_=>none) k
    cases x.val e<;>try rfl
    rename_i a
    cases y.val e<;>try rfl
    rename_i b
    dsimp only
    cases hn:Zc5 ks a<;>try rfl
    dsimp only
    cases h:eqD a b with
    | none=>rfl
    | some r=>exact Zho _ _
  · rename_i op x
    cases op<;>try (first | rfl | exact ZqZ _ _)
    show(match x.val e with | .d (.bool b)=>brL b (k (.d (.bool false)) [] []) (k (.d (.bool true)) [] []) | _=>none)=on3 (match unE .not (x.val e) with | some r=>ZcM (.d r) | none=>none) k
    cases x.val e<;>try rfl
    rename_i a
    cases a<;>try rfl
    rename_i b
    cases b<;>rfl
  · rename_i f caps
    cases caps<;>rfl
  · rename_i sz z n c
    show(match n.val e,c.val e with
      | .d (.int _ n),.d (.int _ c)=>br (decide (0≤n)&&decide (n≤lim)&&decide (n==c)) (bnd (some (List.replicate n.toNat (match z with | [x]=>x | z=>.agg z))) fun zs=>k (.sl nid sz) [] [.arr sz zs]) none
      | _,_=>none)=on3 (match n.val e,c.val e with
      | .d (.int _ n),.d (.int _ c)=>bif decide (0≤n)&&decide (n≤lim)&&decide (n==c) then some (.sl nid sz,[],[.arr sz (List.replicate n.toNat (match z with | [x]=>x | z=>.agg z))]) else none
      | _,_=>none) k
    cases n.val e<;>try rfl
    rename_i x
    cases x<;>try rfl
    rename_i i n1
    cases c.val e<;>try rfl
    rename_i x
    cases x<;>try rfl
    rename_i j c1
    dsimp only
    simp only[ZdH,ZiL]
    cases h3:(decide (0≤n1)&&decide (n1≤lim)&&decide (n1==c1))<;>rfl
  · rename_i sz x lo hi mx
    show Zn5 H sz (x.val e) (lo.map (·.val e)) (hi.map (·.val e)) (mx.map (·.val e)) (fun v=>k v [] [])=on3 (match ZgI H sz (x.val e) (lo.map (·.val e)) (hi.map (·.val e)) (mx.map (·.val e)) with | some v=>ZcM v | none=>none) k
    rw[ZrM]
    cases h:ZgI H sz (x.val e) (lo.map (·.val e)) (hi.map (·.val e)) (mx.map (·.val e))<;>rfl
  · rename_i sz x i
    show Zoa H sz (x.val e) (i.val e) (fun v=>k v [] [])=on3 (match Zgp H sz (x.val e) (i.val e) with | some v=>ZcM v | none=>none) k
    rw[Zsd]
    cases h:Zgp H sz (x.val e) (i.val e)<;>rfl
  · rename_i len sz ag x i
    show ZnV len sz ag (x.val e) (i.val e) (fun v=>k v [] [])=on3 (match ZjP len sz ag (x.val e) (i.val e) with | some v=>ZcM v | none=>none) k
    rw[ZrH]
    cases h:ZjP len sz ag (x.val e) (i.val e)<;>rfl
  · rename_i x i
    show Zlx (x.val e) (i.val e) (fun v=>k v [] [])=on3 (match ZhY (x.val e) (i.val e) with | some v=>ZcM v | none=>none) k
    rw[ZpK]
    cases h:ZhY (x.val e) (i.val e)<;>rfl
  · rename_i len sz x i
    show Zlq H len sz (x.val e) (i.val e) (fun v=>k v [] [])=on3 (match Ze6 H len sz (x.val e) (i.val e) with | some v=>ZcM v | none=>none) k
    rw[ZpS]
    cases h:Ze6 H len sz (x.val e) (i.val e)<;>rfl
  · rename_i x
    show(match elems H (x.val e) with | some xs=>bnd (some (xs.length:Int)) fun n=>k (.d (.int .i64 n)) [] [] | none=>none)=on3 (match Zoj H (x.val e) with | some r=>ZcM (.d r) | none=>none) k
    unfold Zoj
    cases elems H (x.val e) with
    | none=>rfl
    | some xs=>exact ZiL _ _
  · exact ZpH _ _ _ _ _ _
  · rename_i sz x y
    show Zkb H sz (x.val e) (y.val e) (fun v=>k v [] [])=on3 (match ZgJ H sz (x.val e) (y.val e) with | some v=>ZcM v | none=>none) k
    rw[ZpB]
    cases h:ZgJ H sz (x.val e) (y.val e)<;>rfl
  · rename_i x i
    show(match x.val e with
      | .tup vs=>(match nth vs i with | some (.d (.bool c))=>Ziu c (fun v=>k v [] []) | some v=>k v [] [] | none=>none)
      | .d (.tup vs)=>(match nth vs i with | some (.bool c)=>Ziu c (fun v=>k v [] []) | some v=>k (.d v) [] [] | none=>none)
      | _=>none)=on3 (match x.val e with
      | .tup vs=>(match nth vs i with | some v=>ZcM v | none=>none)
      | .d (.tup vs)=>(match nth vs i with | some v=>ZcM (.d v) | none=>none)
      | _=>none) k
    cases x.val e<;>try rfl
    · rename_i y
      cases y<;>try rfl
      rename_i vs
      dsimp only
      cases nth vs i with
      | none=>rfl
      | some v => cases v <;> try rfl
                  exact Zho _ _
    · rename_i vs
      dsimp only
      cases nth vs i with
      | none=>rfl
      | some v => cases v <;> try rfl
                  rename_i y
                  cases y<;>try rfl
                  exact Zho _ _
  · exact Zkm _ _ _ _ _ _ _
  · rename_i x args
    show(match Zh5 (x.val e) with | some (f,caps)=>(match Zfi Γ (x.val e) f caps with | true=>none | false=>Zk3 Γ cf nid H f (Zek e args++caps) k) | none=>none)=_
    rw[Zfs]
    cases h:Zh5 (x.val e) with
    | none=>rfl
    | some q=>
      obtain⟨f,caps⟩:=q
      dsimp only
      cases hb:Zfi Γ (x.val e) f caps
      · exact Zkm _ _ _ _ _ _ _
      · rfl
  · rename_i tab x args
    show(match x.val e with
      | .d (.iface t y)=>(match Zjh tab t with | some f=>Zk3 Γ cf nid H f (.d y :: Zek e args) k | none=>none)
      | _=>none)=_
    rw[ZeY]
    cases h:x.val e<;>try rfl
    rename_i y
    cases y<;>try rfl
    rename_i t y
    dsimp only
    cases h2:Zjh tab t with
    | none=>rfl
    | some f=>exact Zkm _ _ _ _ _ _ _
  · exact Zqg _ _ _ _ _ _
  · exact Zqv _ _ _ _ _ _
  · exact Zkm _ _ _ _ _ _ _
  · rename_i x
    show(match elems H (x.val e) with | some xs=>br (Nat.blt 0 xs.length) (k (.d (.bool false)) [] []) none | none=>none)=on3 (match elems H (x.val e) with | some xs=>(match Nat.blt 0 xs.length with | true=>ZcM (.d (.bool false)) | false=>none) | none=>none) k
    cases elems H (x.val e) with
    | none=>rfl
    | some xs=>
      dsimp only
      rw[ZdH]
      cases Nat.blt 0 xs.length<;>rfl
  · rename_i id args
    show(match H,Zir (Zek e args) with | [],some l=>bnd (Ziw id l) fun r=>k (.d r) [] [] | _,_=>none)=on3 (match H,Zir (Zek e args) with | [],some l=>(match Ziw id l with | some r=>ZcM (.d r) | none=>none) | _,_=>none) k
    cases H<;>cases Zir (Zek e args)<;>try rfl
    rename_i l
    dsimp only
    rw[Zeh]
    cases Ziw id l<;>rfl
def ZkY (e:Env) (g:Option (Nat×Bool)) (x y:Option β):Option β:=
  match g with
  | none=>x
  | some (s,b)=>match e s with | .d (.bool t)=>brL (t==b) x y | .d (.tup [])=>y | _=>none
theorem Znf (e:Env) (g:Option (Nat×Bool)) (x y:Option β):ZkY e g x y=(match ZeM e g with | some true=>x | some false=>y | none=>none):=by
  unfold ZkY ZeM
  cases g with
  | none=>rfl
  | some p=>
    obtain⟨s,b⟩:=p
    dsimp only
    split<;>rename_i h
    · simp only[h,brL]; rename_i t; cases h2:t==b<;>rfl
    · simp only[h]
    · split<;>simp_all
end
section
variable {β:Type}
def Znz (e:Env) (dst:Option Nat) (H:Zl) (v:V) (up:List (Nat×Blk)) (nw:List Blk) (k:Env→Zl→Option β):Option β:=
  ZnR v fun v=>match dst with
    | some i=>(match up,nw with
      | [],[]=>k (e.set i v) H
      | up,nw=>Zih (ZdM H up++nw) fun H=>k (e.set i v) H)
    | none=>(match up,nw with
      | [],[]=>k e H
      | up,nw=>Zih (ZdM H up++nw) fun H=>k e H)
theorem ZoS (e:Env) (dst:Option Nat) (H:Zl) (v:V) (up:List (Nat×Blk)) (nw:List Blk) (k:Env→Zl→Option β):Znz e dst H v up nw k=k (Zmn e dst v) (ZdM H up++nw):=by
  unfold Znz
  rw[ZnQ]
  cases dst<;>dsimp only[Zmn]
  all_goals
    split
    · simp[ZdM]
    · rw[Zhx]
def Zo1 (e:Env) (dst:Option Nat) (k:Env→Option β):Option β:=match dst with | some i=>k (e.set i (.d (.tup []))) | none=>k e
theorem ZpD (e:Env) (dst:Option Nat) (k:Env→Option β):Zo1 e dst k=k (Zmn e dst (.d (.tup []))):=by cases dst<;>rfl
def Zp9:O→Bool
  | .mov _=>true
  | .pick _ _ _=>true
  | .build _ _=>true
  | .bin _ _ _=>true
  | .eqv _ _ _ _=>true
  | .un _ _=>true
  | .conv _ _=>true
  | .mkfn _ _=>true
  | .field _ _ _ _=>true
  | .index _ _ _ _ _=>true
  | .indexS _ _=>true
  | .mx _ _=>true
  | .extract _ _=>true
  | .bslice _ _ 0 _=>true
  | .alloc _=>true
  | .box _=>true
  | _=>false
theorem Zr5 {Γ:Ctx} {cf:Zbg} {e:Env} {nid:Nat} {H H':Zl} {op:O} (h:Zp9 op=true):opE Γ cf e nid H op=opE Γ cf e nid H' op:=by
  cases op<;>first | rfl | (cases h; done) | skip
  rename_i sz z len ps
  cases len with
  | zero=>rfl
  | succ n=>cases h
noncomputable def Zrt (Γ:Ctx) (cf:Zbg) (l:List Op1) (e:Env) (H:Zl) (k:Env→Zl→Option β):Option β:=
  List.rec (motive:=fun _=>Env→Zl→(Env→Zl→Option β)→Option β) (fun e H k=>k e H)
    (fun o _ ih e H k=>ZkY e o.guard (Zdn H.length fun nid=>opK Γ cf e nid H o.op fun v up nw=>Znz e o.dst H v up nw fun e H=>ih e H k) (Zo1 e o.dst fun e=>ih e H k)) l e H k
theorem Zrz (Γ:Ctx) (cf:Zbg) (o:Op1) (r:List Op1) (e:Env) (H:Zl) (k:Env→Zl→Option β) :
    Zrt Γ cf (o :: r) e H k=ZkY e o.guard (Zdn H.length fun nid=>opK Γ cf e nid H o.op fun v up nw=>Znz e o.dst H v up nw fun e H=>Zrt Γ cf r e H k) (Zo1 e o.dst fun e=>Zrt Γ cf r e H k):=rfl
theorem Zov (Γ:Ctx) (cf:Zbg):∀(l:List Op1) (e:Env) (H:Zl) (k:Env→Zl→Option β),Zrt Γ cf l e H k=(match Zgw Γ cf l e H with | some (e,H)=>k e H | none=>none)
  | [],e,H,k=>rfl
  | o :: l,e,H,k=>by
    rw[Zrz]
    unfold Zgw
    rw[Znf,Zdz,Zof,ZpD]
    cases hw:ZeM e o.guard with
    | none=>rfl
    | some b=>
      cases b with
      | false=>exact Zov Γ cf l _ _ k
      | true=>
        dsimp only
        cases ho:opE Γ cf e H.length H o.op with
        | none=>rfl
        | some q=>obtain⟨v,up,nw⟩:=q; simp only[on3,ZoS]; exact Zov Γ cf l _ _ k
def ZjA (l:List (Nat×Nat)) (k:List (Nat×Nat)→Option β):Option β:=
  match l with
  | []=>k []
  | p :: l=>Zdn p.1 fun a=>Zdn p.2 fun b=>ZjA l fun l=>k ((a,b) :: l)
theorem ZkZ:∀(l:List (Nat×Nat)) (k:List (Nat×Nat)→Option β),ZjA l k=k l
  | [],k=>rfl
  | p :: l,k=>by unfold ZjA; rw[Zdz,Zdz,ZkZ l]
def ZuI (o:O) (mask:List Nat) (H:Zl) (pos:List (Nat×Nat)) (k:Zl→Option β):Option β:=
  match Zp9 o with
  | true=>k H
  | false=>(match mask with | []=>k H | mask=>Zih (Zff H pos mask) k)
noncomputable def Zm4 (Γ:Ctx) (cf:Zbg) (pos:List (Nat×Nat)) (l:List Op1) (e:Env) (H:Zl) (k:Env→Zl→Option β):Option β:=
  List.rec (motive:=fun _=>List (Nat×Nat)→Env→Zl→(Env→Zl→Option β)→Option β) (fun _ e H k=>k e H)
    (fun o _ ih pos e H k=>ZkY e o.guard (Zdn H.length fun nid=>ZuI o.op o.mask H pos fun Hm=>opK Γ cf e nid Hm o.op fun v up nw=>
      (match ZlI e H o up nw with | true=>Zdn nw.length fun m=>ZjA (pos++[(nid,m)]) fun pos=>Znz e o.dst H v up nw fun e' H'=>ih pos e' H' k | false=>none)) (Zo1 e o.dst fun e'=>Zdn H.length fun nid=>ZjA (pos++[(nid,0)]) fun pos=>ih pos e' H k)) l pos e H k
theorem Zp5 (Γ:Ctx) (cf:Zbg) (pos:List (Nat×Nat)) (o:Op1) (r:List Op1) (e:Env) (H:Zl) (k:Env→Zl→Option β) :
    Zm4 Γ cf pos (o :: r) e H k=ZkY e o.guard (Zdn H.length fun nid=>ZuI o.op o.mask H pos fun Hm=>opK Γ cf e nid Hm o.op fun v up nw=>
      (match ZlI e H o up nw with | true=>Zdn nw.length fun m=>ZjA (pos++[(nid,m)]) fun pos=>Znz e o.dst H v up nw fun e' H'=>Zm4 Γ cf pos r e' H' k | false=>none)) (Zo1 e o.dst fun e'=>Zdn H.length fun nid=>ZjA (pos++[(nid,0)]) fun pos=>Zm4 Γ cf pos r e' H k):=rfl
theorem ZtD (Γ:Ctx) (cf:Zbg) (e:Env) (nid:Nat) (o:O) (mask:List Nat) (H:Zl) (pos:List (Nat×Nat)) (k:K3 β):(ZuI o mask H pos fun Hm=>opK Γ cf e nid Hm o k)=opK Γ cf e nid (Zff H pos mask) o k:=by
  unfold ZuI
  cases h:Zp9 o with
  | true=>dsimp only; rw[Zof,Zof,Zr5 h (H:=H) (H':=Zff H pos mask)]
  | false=>
    dsimp only
    cases mask with
    | nil=>rfl
    | cons a l=>dsimp only; rw[Zhx]
theorem ZmF (Γ:Ctx) (cf:Zbg):∀(l:List Op1) (pos:List (Nat×Nat)) (e:Env) (H:Zl) (k:Env→Zl→Option β),Zm4 Γ cf pos l e H k=(match ZeI Γ cf pos l e H with | some (e,H)=>k e H | none=>none)
  | [],pos,e,H,k=>rfl
  | o :: l,pos,e,H,k=>by
    rw[Zp5]
    unfold ZeI
    rw[Znf,Zdz,ZtD,Zof,ZpD,Zdz,ZkZ]
    cases hw:ZeM e o.guard with
    | none=>rfl
    | some b=>
      cases b with
      | false=>exact ZmF Γ cf l _ _ _ k
      | true=>
        dsimp only
        cases ho:opE Γ cf e H.length (Zff H pos o.mask) o.op with
        | none=>rfl
        | some q=>
          obtain⟨v,up,nw⟩:=q
          simp only[on3]
          cases hb:(ZlI e H o up nw)<;>simp only[cond_true,cond_false,ZoS,Zdz,ZkZ]
          exact ZmF Γ cf l _ _ _ k
noncomputable def lpW (Γ:Ctx) (k:Nat) (live outs:List Nat) (a:C) (vs:List V) (H:Zl):Option (Ex×List V×Zl):=
  itW (fun vs H=>ZdW k live outs (Zai Γ (evW Γ) itW k a (ZdD live vs) H)) vs H
noncomputable def Zg3 (Γ:Ctx) (k0:Nat) (c:C) (e:Env) (H:Zl) (k:Ex→Env→Zl→Option β):Option β:=
  C.rec (motive:=fun _=>Env→Zl→(Ex→Env→Zl→Option β)→Option β)
    (fun e H k=>k .normal e H) (fun e H k=>k .ret e H) (fun id e H k=>k (.exit id) e H)
    (fun _ _ ia ib e H k=>ia e H fun x e H=>(match x with | .normal=>ib e H k | .exit i=>k (.exit i) e H | .ret=>k .ret e H))
    (fun x _ _ ia ib e H k=>(match x.val e with | .d (.bool t)=>brL t (ia e H k) (ib e H k) | _=>none))
    (fun id _ ia e H k=>ia e H fun x e H=>(match x with | .exit j=>(match Nat.beq j id with | true=>k .normal e H | false=>k (.exit j) e H) | .normal=>k .normal e H | .ret=>k .ret e H))
    (fun live outs a _ e H k=>Zl4 k0 (live.map e) H fun vs H=>bnd (lpW Γ k0 live outs a vs H) fun r=>k r.1 (ZdD outs r.2.1) r.2.2)
    (fun l e H k=>Zrt Γ (evW Γ) l e H fun e H=>k .normal e H)
    (fun l e H k=>Zm4 Γ (evW Γ) [] l e H fun e H=>k .normal e H) c e H k
theorem ZjU (Γ:Ctx) (k0:Nat):∀(c:C) (e:Env) (H:Zl) (k:Ex→Env→Zl→Option β),Zg3 Γ k0 c e H k=(match Zai Γ (evW Γ) itW k0 c e H with | some (x,e,H)=>k x e H | none=>none):=by
  intro c
  induction c with
  | skip=>intros; rfl
  | ret=>intros; rfl
  | exit id=>intros; rfl
  | seq a b iha ihb=>
    intro e H k
    show(Zg3 Γ k0 a e H fun x e H=>(match x with | .normal=>Zg3 Γ k0 b e H k | .exit i=>k (.exit i) e H | .ret=>k .ret e H))=_
    unfold Zai
    rw[iha]
    cases h:Zai Γ (evW Γ) itW k0 a e H with
    | none=>rfl
    | some q=>
      obtain⟨x,e1,H1⟩:=q
      cases x with
      | normal=>exact ihb e1 H1 k
      | exit i=>rfl
      | ret=>rfl
  | cond x a b iha ihb=>
    intro e H k
    show(match x.val e with | .d (.bool t)=>brL t (Zg3 Γ k0 a e H k) (Zg3 Γ k0 b e H k) | _=>none)=_
    unfold Zai
    cases h:x.val e<;>try rfl
    rename_i y
    cases y<;>try rfl
    rename_i t
    cases t
    · exact ihb e H k
    · exact iha e H k
  | block id a iha=>
    intro e H k
    show(Zg3 Γ k0 a e H fun x e H=>(match x with | .exit j=>(match Nat.beq j id with | true=>k .normal e H | false=>k (.exit j) e H) | .normal=>k .normal e H | .ret=>k .ret e H))=_
    unfold Zai
    rw[iha]
    cases h:Zai Γ (evW Γ) itW k0 a e H with
    | none=>rfl
    | some q=>
      obtain⟨x,e1,H1⟩:=q
      cases x with
      | normal=>rfl
      | exit j=>dsimp only; cases h2:Nat.beq j id<;>rfl
      | ret=>rfl
  | loop live outs a iha=>
    intro e H k
    show(Zl4 k0 (live.map e) H fun vs H=>bnd (lpW Γ k0 live outs a vs H) fun r=>k r.1 (ZdD outs r.2.1) r.2.2)=_
    unfold Zai
    rw[Zpb]
    cases h:Zlk k0 (live.map e) H with
    | none=>rfl
    | some q=>
      obtain⟨vs,H1⟩:=q
      simp only[lpW,Zeh]
      cases h2:itW (fun vs H=>ZdW k0 live outs (Zai Γ (evW Γ) itW k0 a (ZdD live vs) H)) vs H1 with
      | none=>rfl
      | some r=>obtain⟨x,vs,H⟩:=r; rfl
  | ops l=>
    intro e H k
    show(Zrt Γ (evW Γ) l e H fun e H=>k .normal e H)=_
    unfold Zai
    rw[Zov]
    cases h:Zgw Γ (evW Γ) l e H<;>rfl
  | draw l=>
    intro e H k
    show(Zm4 Γ (evW Γ) [] l e H fun e H=>k .normal e H)=_
    unfold Zai
    rw[ZmF]
    cases h:ZeI Γ (evW Γ) [] l e H<;>rfl
theorem Zv9 (Γ:Ctx) (k:Nat) (live outs:List Nat) (a:C) (vs:List V) (H:Zl) :
    lpW Γ k live outs a vs H=Zg3 Γ k a (ZdD live vs) H fun x e H=>(match x with
      | .normal=>Zl4 k (live.map e) H fun vs H=>lpW Γ k live outs a vs H
      | x=>Ze7 k (outs.map e) H fun _ vs H=>some (x,vs,H)):=by
  unfold lpW
  rw[ZvU,ZjU]
  cases h:Zai Γ (evW Γ) itW k a (ZdD live vs) H with
  | none=>rfl
  | some q=>
    obtain⟨x,e,H1⟩:=q
    cases x with
    | normal=>
      simp only[ZdW]
      rw[Zpb]
      cases h2:Zlk k (live.map e) H1 with
      | none=>rfl
      | some r=>obtain⟨vs,H2⟩:=r; rfl
    | exit j=>
      simp only[ZdW]
      rw[Zc6]
      cases h2:extract k (outs.map e) H1 with
      | none=>rfl
      | some r=>obtain⟨L,vs,H2⟩:=r; rfl
    | ret=>
      simp only[ZdW]
      rw[Zc6]
      cases h2:extract k (outs.map e) H1 with
      | none=>rfl
      | some r=>obtain⟨L,vs,H2⟩:=r; rfl
theorem ZeZ (Γ:Ctx) (f:Nat) (fn:FnI) (args:List V) (H:Zl) (hc:Γ.code f=some fn) (hn:Nat.beq args.length fn.nargs=true) :
    evW Γ f args H=Zg3 Γ H.length fn.body (Zd6 0 args) H fun x e H1=>(match x with
      | .exit _=>none
      | _=>(match Zi1 e H1 fn.res with
        | some l=>Ze7 H.length [ZfY l] H1 fun _ vs H2=>(match vs with | [v]=>some (v,H2) | _=>none)
        | none=>none)):=by
  rw[Zwe]
  unfold Zie
  simp only[hc,hn,cond_true]
  rw[ZjU]
  cases h:Zai Γ (evW Γ) itW H.length fn.body (Zd6 0 args) H with
  | none=>rfl
  | some q=>
    obtain⟨x,e,H1⟩:=q
    cases x<;>try rfl
    all_goals
      dsimp only
      cases h2:Zi1 e H1 fn.res with
      | none=>rfl
      | some l=>
        dsimp only
        rw[Zc6]
        cases h3:extract H.length [ZfY l] H1 with
        | none=>rfl
        | some q=>
          obtain⟨L,vs,H2⟩:=q
          match vs with
          | []=>rfl
          | [v]=>rfl
          | _ :: _ :: _=>rfl
end
theorem ZuZ {β:Type} (x y:Option β):br true x y=x:=ZdH _ _ _
theorem Zvl {β:Type} (x y:Option β):br false x y=y:=ZdH _ _ _
theorem ZoU {β:Type} (x:Option β):bnd x some=x:=by rw[Zeh]; cases x<;>rfl
attribute [irreducible] br bnd lpW
end Go.Proofs.YtljgncbdagmeeaaDoorE
namespace Go.Proofs.YtljgncbdagmeeaaDoorE
open Go
structure ZV where
 op:Int
 arg:Int
 work:Int
 deriving DecidableEq
structure Zm where
 src:Int
 dst:Int
 deriving DecidableEq
structure Zi where
 maker:Int
 user:Int
 pos:Int
 deriving DecidableEq
structure Zq where
 ins:List Int
 outs:List Int
 deriving DecidableEq
structure Zo where
 period:Int
 deadline:Int
 parts:List ZV
 edges:List Zm
 futures:List Zi
 barriers:List Zq
 deriving DecidableEq
abbrev Zb (n:Int):D:=.int .i64 n
abbrev ZsX (τ:Bool) (l:List Int):D:=.list τ (l.map Zb)
abbrev ZY (p:ZV):D:=.agg [Zb p.op,Zb p.arg,Zb p.work]
abbrev Zw (e:Zm):D:=.agg [Zb e.src,Zb e.dst]
abbrev Zn (f:Zi):D:=.agg [Zb f.maker,Zb f.user,Zb f.pos]
abbrev Zu (b:Zq):D:=.agg [ZsX true b.ins,ZsX true b.outs]
abbrev ZxP (τ:Bool) (d:Zo):D:=.agg [Zb d.period,Zb d.deadline,.list τ (d.parts.map ZY),.list τ (d.edges.map Zw),.list τ (d.futures.map Zn),.list τ (d.barriers.map Zu)]
end Go.Proofs.YtljgncbdagmeeaaDoorE
namespace Go.Proofs.YtljgncbdagmeeaaDoorE
open Go
set_option linter.unusedVariables false
set_option linter.unusedSimpArgs false
theorem Zwl {n:Int} (h1 : -9223372036854775808≤n) (h2:n<9223372036854775808):IntKind.i64.wrap n=n:=by
 show(if (true&&decide (n % 18446744073709551616 ≥ 9223372036854775808))=true then n % 18446744073709551616-18446744073709551616 else n % 18446744073709551616)=n
 by_cases h:n % 18446744073709551616 ≥ 9223372036854775808
 ·rw[decide_eq_true h]; simp only[Bool.and_self,if_true]; omega
 ·rw[decide_eq_false h]; simp only[Bool.and_false,Bool.false_eq_true,if_false]; omega
theorem Zs6 {α:Type} (xs:List α) (i:Nat):ZF xs (i:Int)=xs[i]?:=by
 unfold ZF
 have:decide ((0:Int)≤i)=true:=by simp
 rw[this]; simp[ZW]
theorem Za8 (Γ:Ctx) (k:Nat) (live outs:List Nat) (a:C) (vs:List V) (H:Zl) :
  lpW Γ k live outs a vs H=Zg3 Γ k a (ZdD live vs) H fun x e H=>(match x with
   | .normal=>Zl4 k (live.map e) H fun vs H=>bnd (lpW Γ k live outs a vs H) some
   | x=>Ze7 k (outs.map e) H fun _ vs H=>some (x,vs,H)):=by
 refine(Zv9 Γ k live outs a vs H).trans (congrArg (Zg3 Γ k a (ZdD live vs) H) ?_)
 funext x e H
 cases x
 ·exact congrArg (Zl4 k (live.map e) H) (funext fun vs=>funext fun H=>(ZoU _).symm)
 ·rfl
 ·rfl
theorem ZiK {α:Type} {f:α→D} {sz:Nat} (hf:∀x,(f x).cells.length=sz∧(V.d (f x)).okb=true) (l:List α) (i:Nat):Zif sz (l.map f) i=true:=by
 unfold Zif
 rw[ZW,List.getElem?_map]
 cases l[i]? with
 | none=>rfl
 | some x=>simp[hf x]
theorem Zw2 {β:Type} {c:Bool} {x y:Option β} (h:c=true):br c x y=x:=by rw[h,ZuZ]
theorem Zx4 {β:Type} {c:Bool} {x y:Option β} (h:c=false):br c x y=y:=by rw[h,Zvl]
def first {α:Type} (p:α→Bool):Nat→List α→Option Nat
 | _,[]=>none
 | i,x :: l=>bif p x then some i else first p (i+1) l
theorem ZvV {Γ:Ctx} {f:Nat} {args:List V} {H:Zl} {r:V×Zl} (n:Nat) (h:evN Γ n f args H=some r):evW Γ f args H=some r:=(ZgP Γ f args H r).2 ⟨n,h⟩
end Go.Proofs.YtljgncbdagmeeaaDoorE
namespace Go.Proofs.YtljgncbdagmeeaaDoorE
open Go
set_option linter.unusedVariables false
set_option linter.unusedSimpArgs false
theorem Zot {α:Type} {f:α→D} {p:α→Prop}:∀{xs:List D},(∀y∈xs,∃a,y=f a∧p a)→∃l:List α,xs=l.map f∧∀a∈l,p a
 | [],_=>⟨[],rfl,by simp⟩
 | x :: xs,h=>by
  obtain⟨a,ha,hp⟩:=h x (by simp)
  obtain⟨l,hl,hq⟩:=Zot (xs:=xs) fun y hy=>h y (by simp[hy])
  refine⟨a :: l,by rw[ha,hl]; rfl,fun b hb=>?_⟩
  rcases List.mem_cons.1 hb with rfl | hb
  ·exact hp
  ·exact hq b hb
def I64 (n:Int):Prop:=-9223372036854775808≤n∧n<9223372036854775808
theorem ZgK {n:Int} (h:(Lit.int .i64 n).wf=true):I64 n:=by
 unfold Lit.wf at h
 simp only[Bool.and_eq_true,decide_eq_true_eq] at h
 have e1:IntKind.i64.min = -9223372036854775808:=by decide
 have e2:IntKind.i64.max=9223372036854775807:=by decide
 rw[e1,e2] at h
 unfold I64
 omega
theorem Zwt {y:D} {n:Nat} (h:y.isAgg=true):y = .agg y.cells:=by
 cases y<;>first | rfl | cases h
theorem ZuX {y:D} (h:y.isAgg=false):y.cells=[y]:=by
 cases y<;>first | rfl | cases h
theorem ZvM {n:Nat} (h:n≤maxLen):n<9223372036854775808:=by
 unfold maxLen at h; omega
def ZwN (l:List Int):Prop:=l.length<9223372036854775808∧∀n∈l,I64 n
theorem ZqJ {x:D} (h:ZuY (.sl false [.int .i64]) x):∃l,x=ZsX true l∧ZwN l:=by
 obtain⟨xs,rfl,h1,h2⟩:=h
 obtain⟨l,hl,hp⟩:=Zot (f:=Zb) (p:=I64) (xs:=xs) fun y hy=>by
  obtain⟨a1,a2⟩:=h2 y hy
  rw[ZuX a1] at a2
  obtain⟨d,r,e1,⟨n,e2,e3⟩,_⟩:=a2
  cases e1
  exact⟨n,e2,ZgK e3⟩
 subst hl
 exact⟨l,rfl,by simpa using ZvM h1,hp⟩
def Zs7 (p:ZV):Prop:=I64 p.op∧I64 p.arg∧I64 p.work
def Ztr (e:Zm):Prop:=I64 e.src∧I64 e.dst
def ZoI (f:Zi):Prop:=I64 f.maker∧I64 f.user∧I64 f.pos
def ZnA (b:Zq):Prop:=ZwN b.ins∧ZwN b.outs
structure Zv6 (d:Zo):Prop where
 period:I64 d.period
 deadline:I64 d.deadline
 pl:d.parts.length<9223372036854775808
 p:∀x∈d.parts,Zs7 x
 el:d.edges.length<9223372036854775808
 e:∀x∈d.edges,Ztr x
 fl:d.futures.length<9223372036854775808
 f:∀x∈d.futures,ZoI x
 bl:d.barriers.length<9223372036854775808
 b:∀x∈d.barriers,ZnA x
theorem Zlt {x:D} {els:List Lf} {α:Type} {f:α→D} {p:α→Prop} (h:ZuY (.sl true els) x) (hf:∀cs,Zgn els cs→∃a,D.agg cs=f a∧p a):∃l:List α,x = .list true (l.map f)∧l.length<9223372036854775808∧∀a∈l,p a:=by
 obtain⟨xs,rfl,h1,h2⟩:=h
 obtain⟨l,hl,hp⟩:=Zot (f:=f) (p:=p) (xs:=xs) fun y hy=>by
  obtain⟨a1,a2⟩:=h2 y hy
  rw[Zwt (n:=0) a1]
  exact hf _ a2
 subst hl
 exact⟨l,rfl,by simpa using ZvM h1,hp⟩
abbrev Zxp:List Lf:=[.int .i64,.int .i64,.sl true [.int .i64,.int .i64,.int .i64],.sl true [.int .i64,.int .i64],.sl true [.int .i64,.int .i64,.int .i64],.sl true [.sl false [.int .i64],.sl false [.int .i64]]]
theorem Zur {xs:List D} (h:Zgn Zxp xs):∃d,D.agg xs=ZxP true d∧Zv6 d:=by
 obtain⟨x1,r1,rfl,⟨n1,rfl,w1⟩,x2,r2,rfl,⟨n2,rfl,w2⟩,x3,r3,rfl,h3,x4,r4,rfl,h4,x5,r5,rfl,h5,x6,r6,rfl,h6,rfl⟩:=h
 obtain⟨l3,rfl,b3,p3⟩:=Zlt (f:=ZY) (p:=Zs7) h3 fun cs hc=>by
  obtain⟨_,_,rfl,⟨a,rfl,wa⟩,_,_,rfl,⟨b,rfl,wb⟩,_,_,rfl,⟨c,rfl,wc⟩,rfl⟩:=hc
  exact⟨⟨a,b,c⟩,rfl,ZgK wa,ZgK wb,ZgK wc⟩
 obtain⟨l4,rfl,b4,p4⟩:=Zlt (f:=Zw) (p:=Ztr) h4 fun cs hc=>by
  obtain⟨_,_,rfl,⟨a,rfl,wa⟩,_,_,rfl,⟨b,rfl,wb⟩,rfl⟩:=hc
  exact⟨⟨a,b⟩,rfl,ZgK wa,ZgK wb⟩
 obtain⟨l5,rfl,b5,p5⟩:=Zlt (f:=Zn) (p:=ZoI) h5 fun cs hc=>by
  obtain⟨_,_,rfl,⟨a,rfl,wa⟩,_,_,rfl,⟨b,rfl,wb⟩,_,_,rfl,⟨c,rfl,wc⟩,rfl⟩:=hc
  exact⟨⟨a,b,c⟩,rfl,ZgK wa,ZgK wb,ZgK wc⟩
 obtain⟨l6,rfl,b6,p6⟩:=Zlt (f:=Zu) (p:=ZnA) h6 fun cs hc=>by
  obtain⟨_,_,rfl,ha,_,_,rfl,hb,rfl⟩:=hc
  obtain⟨a,rfl,wa⟩:=ZqJ ha
  obtain⟨b,rfl,wb⟩:=ZqJ hb
  exact⟨⟨a,b⟩,rfl,wa,wb⟩
 exact⟨⟨n1,n2,l3,l4,l5,l6⟩,rfl,ZgK w1,ZgK w2,b3,p3,b4,p4,b5,p5,b6,p6⟩
end Go.Proofs.YtljgncbdagmeeaaDoorE
namespace Go.Proofs.YtljgncbdagmeeaaDoorE
open Go
set_option linter.unusedVariables false
set_option linter.unusedSimpArgs false
def lpN {S R:Type} (step:S→Option (S⊕R)):Nat→S→Option R
 | 0,_=>none
 | n+1,s=>(match step s with | some (.inl s')=>lpN step n s' | some (.inr r)=>some r | none=>none)
theorem ZpQ {S R:Type} (step:S→Option (S⊕R)):∀(n m:Nat) (s:S) (r:R),n≤m→lpN step n s=some r→lpN step m s=some r
 | 0,_,_,_,_,h=>by cases h
 | n+1,0,_,_,hm,_=>by omega
 | n+1,m+1,s,r,hm,h=>by
  unfold lpN at h ⊢
  cases hs:step s with
  | none=>rw[hs] at h; cases h
  | some t=>
   rw[hs] at h
   cases t with
   | inl s'=>exact ZpQ step n m s' r (by omega) h
   | inr r'=>exact h
noncomputable def lp {S R:Type} (step:S→Option (S⊕R)) (s:S):Option R:=@dite _ (∃n,(lpN step n s).isSome=true) (Classical.propDecidable _) (fun h=>lpN step (Classical.choose h) s) fun _=>none
theorem ZsH {S R:Type} {step:S→Option (S⊕R)} {s:S} {r:R} {n:Nat} (h:lpN step n s=some r):lp step s=some r:=by
 unfold lp
 have hx:∃n,(lpN step n s).isSome=true:=⟨n,by rw[h]; rfl⟩
 rw[dif_pos hx]
 have h2:=Classical.choose_spec hx
 cases h3:lpN step (Classical.choose hx) s with
 | none=>rw[h3] at h2; cases h2
 | some q=>
  have h4:=ZpQ step _ (max n (Classical.choose hx)) s q (by omega) h3
  have h5:=ZpQ step _ (max n (Classical.choose hx)) s r (by omega) h
  rw[h4] at h5
  exact h5
theorem ZtG {S R:Type} {step:S→Option (S⊕R)} {s:S} {r:R} (h:lp step s=some r):∃n,lpN step n s=some r:=by
 unfold lp at h
 split at h
 ·exact⟨_,h⟩
 ·cases h
theorem Zbl {S R:Type} (step:S→Option (S⊕R)) (s:S):lp step s=(match step s with | some (.inl s')=>lp step s' | some (.inr r)=>some r | none=>none):=by
 have key:∀r,lp step s=some r↔(match step s with | some (.inl s')=>lp step s' | some (.inr r)=>some r | none=>none)=some r:=by
  intro r
  constructor
  ·intro h
   obtain⟨n,hn⟩:=ZtG h
   cases n with
   | zero=>cases hn
   | succ n=>
    unfold lpN at hn
    cases hs:step s with
    | none=>rw[hs] at hn; cases hn
    | some t=>
     rw[hs] at hn
     cases t with
     | inl s'=>exact ZsH hn
     | inr r'=>exact hn
  ·intro h
   cases hs:step s with
   | none=>rw[hs] at h; cases h
   | some t=>
    rw[hs] at h
    cases t with
    | inl s'=>
     obtain⟨n,hn⟩:=ZtG h
     exact ZsH (n:=n+1) (by unfold lpN; rw[hs]; exact hn)
    | inr r'=>exact ZsH (n:=1) (by unfold lpN; rw[hs]; exact h)
 cases h1:lp step s with
 | some r=>exact((key r).1 h1).symm
 | none=>
  cases h2:(match step s with | some (.inl s')=>lp step s' | some (.inr r)=>some r | none=>none) with
  | none=>rfl
  | some r=>rw[(key r).2 h2] at h1; cases h1
theorem Zl2 {S R:Type} {step:S→Option (S⊕R)} {s s':S} (h:step s=some (.inl s')):lp step s=lp step s':=by rw[Zbl,h]
theorem Zvc {S R:Type} {step:S→Option (S⊕R)} {s:S} {r:R} (h:step s=some (.inr r)):lp step s=some r:=by rw[Zbl,h]
noncomputable def ZsO {R:Type} (g:Nat→Option R):Option R:=@dite _ (∃r:R,∃N,∀n,N≤n→g n=some r) (Classical.propDecidable _) (fun h=>some (Classical.choose h)) fun _=>none
theorem Zvb {R:Type} {g:Nat→Option R} {r:R} (h:ZsO g=some r):∃n,g n=some r:=by
 unfold ZsO at h
 split at h
 ·rename_i hx
  obtain⟨N,hN⟩:=Classical.choose_spec hx
  exact⟨N,(hN N (Nat.le_refl _)).trans h⟩
 ·cases h
theorem Zuw {R:Type} {g:Nat→Option R} {N:Nat} {r:R} (h:∀n,N≤n→g n=some r):ZsO g=some r:=by
 have hx:∃r:R,∃N,∀n,N≤n→g n=some r:=⟨r,N,h⟩
 unfold ZsO
 rw[dif_pos hx]
 obtain⟨M,hM⟩:=Classical.choose_spec hx
 rw[← hM (max N M) (by omega),h (max N M) (by omega)]
def ZX {α β:Type} (E:Option α) (Q:α→Option β→Prop) (rhs:Option β):Prop:=∀a,E=some a→Q a rhs
section
variable {α β:Type} {A B:Option α} {Q:α→Option β→Prop}
theorem Ze {c c':Bool} {X Y:Option β} (h:c=c') (h1:ZX A Q X) (h2:ZX B Q Y):ZX (bif c' then A else B) Q (br c X Y):=by
 subst h
 cases c with
 | true=>rw[ZuZ]; exact h1
 | false=>rw[Zvl]; exact h2
theorem Zcl {c:Bool} {X Y:Option β} (h:c=true) (h1:ZX A Q X):ZX A Q (br c X Y):=by rw[h,ZuZ]; exact h1
theorem Zah {c:Bool} {X Y:Option β} (h:c=false) (h1:ZX A Q Y):ZX A Q (br c X Y):=by rw[h,Zvl]; exact h1
theorem Zs {γ:Type} {x x':γ} {K:γ→Option β} (h:x=x') (k:ZX A Q (K x')):ZX A Q (bnd (some x) K):=by rw[h,ZiL]; exact k
theorem Zf {γ:Type} {X:Option γ} {x:γ} {K:γ→Option β} (h:X=some x) (k:ZX A Q (K x)):ZX A Q (bnd X K):=by rw[h,ZiL]; exact k
theorem Zc {γ δ:Type} {E:Option γ} {A:γ→Option α} {X:Option δ} {K:δ→Option β} (enc:γ→δ) (h:∀r,E=some r→X=some (enc r)) (k:∀r,E=some r→ZX (A r) Q (K (enc r))):ZX (E.bind A) Q (bnd X K):=by
 intro a ha
 cases hE:E with
 | none=>rw[hE] at ha; cases ha
 | some r=>
  rw[hE] at ha
  rw[h r hE,ZiL]
  exact k r hE a ha
theorem Zpu {γ δ:Type} (f:γ→δ) (l:List γ) (i:Int):ZF (l.map f) i=(ZF l i).map f:=by
 unfold ZF
 cases decide (0≤i) with
 | false=>rfl
 | true=>simp only[cond_true,ZW,List.getElem?_map]
theorem Zk {γ:Type} {f:γ→D} {l:List γ} {xs:List D} {i i':Int} {A:γ→Option α} {K:D→Option β} (hx:xs=l.map f) (hi:i=i') (k:∀r,ZF l i'=some r→ZX (A r) Q (K (f r))):ZX ((ZF l i').bind A) Q (bnd (ZF xs i) K):=by
 subst hx hi
 exact Zc f (fun r h=>by rw[Zpu,h]; rfl) k
theorem Zz {γ:Type} {f:γ→D} {l:List γ} {xs:List D} {i:Int} {r:γ} (hx:xs=l.map f) (h:ZF l i=some r):nth xs i.toNat=some (f r):=by
 subst hx
 unfold ZF at h
 cases hd:decide (0≤i) with
 | false=>rw[hd] at h; cases h
 | true=>rw[hd,cond_true,ZW] at h; rw[ZW,List.getElem?_map,h]; rfl
theorem ZbM {γ:Type} {f:γ→D} {l:List γ} {xs:List D} {i:Int} {r:γ} (hx:xs=l.map f) (h:ZF l i=some r):ZF xs i=some (f r):=by
 subst hx
 rw[Zpu,h]; rfl
theorem ZfF {γ:Type} {E X:Option γ} {A:γ→Option α} {K:γ→Option β} (h:X=E) (k:∀r,E=some r→ZX (A r) Q (K r)):ZX (E.bind A) Q (bnd X K):=by
 subst h
 exact Zc id (fun r h=>h) k
theorem Zg {a:α} {X:Option β} (h:Q a X):ZX (some a) Q X:=fun b hb=>by cases hb; exact h
theorem Za4 {X:Option β}:ZX (none:Option α) Q X:=fun b hb=>by cases hb
def mpD {K W:Type} (f:K→D) (g:W→D) (l:List (K×W)):List (D×D):=l.map fun q=>(f q.1,g q.2)
def Z2 {K W:Type} (eq:K→K→Bool):List (K×W)→K→W→W
 | [],_,z=>z
 | (a,v) :: r,k,z=>bif eq k a then v else Z2 eq r k z
def Zt {K W:Type} (eq:K→K→Bool):List (K×W)→K→W→List (K×W)
 | [],k,v=>[(k,v)]
 | (a,u) :: r,k,v=>bif eq k a then (a,v) :: r else (a,u) :: Zt eq r k v
theorem Zbu {K W:Type} {f:K→D} {g:W→D} (eq:K→K→Bool) (he:∀a b,eqD (f a) (f b)=some (eq a b)) (l:List (K×W)) (k:K) (z:W):ZtN (mpD f g l) (f k) (g z)=some (g (Z2 eq l k z)):=by
 induction l with
 | nil=>rfl
 | cons q r ih=>
  obtain⟨a,v⟩:=q
  show(match (match eqD (f k) (f a) with | some true=>some (some (g v)) | some false=>ZhD (mpD f g r) (f k) | none=>none) with | some (some y)=>some y | some none=>some (g z) | none=>none)=_
  rw[he]
  unfold Z2
  cases eq k a with
  | true=>rfl
  | false=>exact ih
theorem Zdk {K W:Type} {f:K→D} {g:W→D} (eq:K→K→Bool) (he:∀a b,eqD (f a) (f b)=some (eq a b)) (l:List (K×W)) (k:K) (v:W):Zg8 (mpD f g l) (f k) (g v)=some (mpD f g (Zt eq l k v)):=by
 induction l with
 | nil=>rfl
 | cons q r ih=>
  obtain⟨a,u⟩:=q
  show(match eqD (f k) (f a) with | some true=>some ((f a,g v) :: mpD f g r) | some false=>(match Zg8 (mpD f g r) (f k) (g v) with | some l=>some ((f a,g u) :: l) | none=>none) | none=>none)=_
  rw[he]
  unfold Zt
  cases eq k a with
  | true=>rfl
  | false=>dsimp only; rw[ih]; rfl
noncomputable def evD (Γ:Ctx) (f:Nat) (args:List V):Option D:=bnd (evW Γ f args []) fun r=>(match fr r.2 6 r.1 with | some (x,_)=>some x | none=>none)
theorem ZrS (Γ:Ctx) (f:Nat) (args:List V) (K:V→Option β):bnd (evW Γ f args []) (ZmW K)=bnd (evD Γ f args) (fun x=>Zub x K):=by
 unfold evD ZmW
 simp only[Zeh]
 cases evW Γ f args [] with
 | none=>rfl
 | some r=>
  dsimp only
  cases fr r.2 6 r.1 with
  | none=>rfl
  | some q=>rfl
theorem ZA {γ:Type} {Γ:Ctx} {f:Nat} {args args':List V} {E:Option γ} {A:γ→Option α} {K:V→Option β} (enc:γ→D) (w:∀r,E=some r→evD Γ f args'=some (enc r)) (ha:args=args') (k:∀r,E=some r→ZX (A r) Q (Zub (enc r) K)):ZX (E.bind A) Q (bnd (evW Γ f args []) (ZmW K)):=by
 subst ha
 rw[ZrS]
 exact Zc enc w k
end
theorem Zrr {β δ:Type} (Γ:Ctx) (k0:Nat) (c:C) (e:Env) (H:Zl) (k:Ex→Env→Zl→Option β) (p:β→Option δ):bnd (Zg3 Γ k0 c e H k) p=Zg3 Γ k0 c e H fun x e H=>bnd (k x e H) p:=by
 rw[ZjU,ZjU]
 cases Zai Γ (evW Γ) itW k0 c e H with
 | none=>exact Zeh _ _
 | some q=>rfl
theorem Zce (Γ:Ctx) (f:Nat) (fn:FnI) (args:List V) (hc:Γ.code f=some fn) (hn:Nat.beq args.length fn.nargs=true) :
  evD Γ f args=Zg3 Γ 0 fn.body (Zd6 0 args) [] fun x e H1=>(match x with
   | .exit _=>none
   | _=>(match Zi1 e H1 fn.res with
    | some l=>Ze7 0 [ZfY l] H1 fun _ vs H2=>(match vs with | [v]=>(match fr H2 6 v with | some (x,_)=>some x | none=>none) | _=>none)
    | none=>none)):=by
 unfold evD
 rw[ZeZ Γ f fn args [] hc hn,Zrr]
 refine congrArg (Zg3 Γ 0 fn.body (Zd6 0 args) []) ?_
 funext x e H1
 have none_b:∀{γ δ:Type} (p:γ→Option δ),bnd none p=none:=fun p=>Zeh _ _
 cases x with
 | exit j=>exact none_b _
 | normal=>
  dsimp only
  cases Zi1 e H1 fn.res with
  | none=>exact none_b _
  | some l=>
   dsimp only
   rw[Zc6,Zc6]
   show bnd (match extract 0 [ZfY l] H1 with | some (L,vs,H)=>_ | none=>none) _=_
   cases extract 0 [ZfY l] H1 with
   | none=>exact none_b _
   | some q=>
    obtain⟨L,vs,H2⟩:=q
    match vs with
    | []=>exact none_b _
    | [v]=>exact ZiL _ _
    | _ :: _ :: _=>exact none_b _
 | ret=>
  dsimp only
  cases Zi1 e H1 fn.res with
  | none=>exact none_b _
  | some l=>
   dsimp only
   rw[Zc6,Zc6]
   show bnd (match extract 0 [ZfY l] H1 with | some (L,vs,H)=>_ | none=>none) _=_
   cases extract 0 [ZfY l] H1 with
   | none=>exact none_b _
   | some q=>
    obtain⟨L,vs,H2⟩:=q
    match vs with
    | []=>exact none_b _
    | [v]=>exact ZiL _ _
    | _ :: _ :: _=>exact none_b _
theorem Zww {Γ:Ctx} {f:Nat} {args:List V} {x:D} (n:Nat) (h:(match evN Γ n f args [] with | some (v,H)=>(match fr H 6 v with | some (x,_)=>some x | none=>none) | none=>none)=some x):evD Γ f args=some x:=by
 cases hn:evN Γ n f args [] with
 | none=>rw[hn] at h; cases h
 | some r=>
  rw[hn] at h
  obtain⟨v,H⟩:=r
  unfold evD
  rw[ZvV n hn,ZiL]
  exact h
theorem Za7 {S R β:Type} {step:S→Option (S⊕R)} {G:S→Option β} (x:R→β)
  (h:∀(s:S) (rec:S→Option R),(∀s r,rec s=some r→G s=some (x r))→ZX (step s) (fun t rhs=>(match t with | .inl s'=>∀r,rec s'=some r→rhs=some (x r) | .inr r=>rhs=some (x r))) (G s)):∀s r,lp step s=some r→G s=some (x r):=by
 intro s r hr
 obtain⟨n,hn⟩:=ZtG hr
 clear hr
 induction n generalizing s r with
 | zero=>cases hn
 | succ n ih=>
  unfold lpN at hn
  cases hs:step s with
  | none=>rw[hs] at hn; cases hn
  | some t=>
   rw[hs] at hn
   have:=h s (lpN step n) ih t hs
   cases t with
   | inl s'=>exact this r hn
   | inr r'=>cases hn; exact this
theorem Zd {S R β:Type} {G:Option β} {rec:S→Option R} {x:R→β} {s':S} (h:∀r,rec s'=some r→G=some (x r)):ZX (some (Sum.inl s')) (fun(t:S⊕R) (rhs:Option β)=>(match t with | .inl s'=>∀r,rec s'=some r→rhs=some (x r) | .inr r=>rhs=some (x r))) (bnd G some):=by
 intro a ha
 cases ha
 intro r hr
 rw[ZoU]
 exact h r hr
theorem Zug {Γ:Ctx} {f:Nat} {args:List V} (h:evD Γ f args=some (.bool true)):∃H',evW Γ f args []=some (.d (.bool true),H'):=by
 unfold evD at h
 rw[Zeh] at h
 cases he:evW Γ f args [] with
 | none=>rw[he] at h; cases h
 | some r=>
  obtain⟨v,H⟩:=r
  rw[he] at h
  refine⟨H,?_⟩
  dsimp only at h
  cases hf:fr H 6 v with
  | none=>rw[hf] at h; cases h
  | some q=>
   obtain⟨x,ks⟩:=q
   rw[hf] at h
   cases h
   unfold fr at hf
   split at hf
   ·rename_i x
    split at hf
    ·rename_i ts
     cases he:Zqq ts<;>rw[he] at hf<;>cases hf
    ·rename_i y hy
     cases he:x.esc<;>rw[he] at hf<;>cases hf
     rfl
   all_goals
    first
    | cases hf
    | (split at hf<;>first | cases hf | (rename_i sz' xs _; revert hf; cases Nat.beq _ sz'<;>intro hf<;>cases hf) | skip)
   all_goals
    rename_i l ks _
    first
    | (cases he:D.escs l<;>rw[he] at hf<;>cases hf)
    | cases hf
theorem ZpL {α β:Type} {A B:Option α} {Q:α→Option β→Prop} {X:Option β} (h:ZX A Q X):ZX (bif true then A else B) Q X:=h
theorem Zqo {α β:Type} {A B:Option α} {Q:α→Option β→Prop} {X:Option β} (h:ZX B Q X):ZX (bif false then A else B) Q X:=h
abbrev w64 (n:Int):Int:=IntKind.i64.wrap n
section
variable {γ:Type}
theorem ZK (f:γ→D) (l:List γ):(((List.map f l).length:Nat):Int)=((l.length:Nat):Int):=by rw[List.length_map]
theorem ZuO (f:γ→D) (z:γ) (n:Int):List.replicate n.toNat (f z)=List.map f (List.replicate n.toNat z):=by rw[List.map_replicate]
theorem Znx {α:Type}:∀(l:List α) (i:Nat) (y:α),Zez l i y=l.set i y
 | [],_,_=>rfl
 | _ :: _,0,_=>rfl
 | x :: l,i+1,y=>congrArg (x :: ·) (Znx l i y)
theorem ZaK (f:γ→D) (l:List γ) (i:Nat) (y:γ):Zez (List.map f l) i (f y)=List.map f (List.set l i y):=by rw[Znx,List.map_set]
theorem ZiS (f:γ→D) (l m:List γ):List.map f l++List.map f m=List.map f (l++m):=by rw[List.map_append]
theorem ZiY (f:γ→D) (l:List γ) (n:Nat):Nat.ble ((List.map f l).length+n) lim=Nat.ble (l.length+n) lim:=by rw[List.length_map]
theorem ZiI (f:γ→D) (l:List γ):Nat.ble (List.map f l).length lim=Nat.ble l.length lim:=by rw[List.length_map]
theorem ZwA (f:γ→D) (l:List γ) (o n:Nat):List.take n (List.drop o (List.map f l))=List.map f (List.take n (List.drop o l)):=by rw[← List.map_drop,← List.map_take]
theorem Zow (f:γ→D) (l:List γ) (hi:Nat):List.take (hi-0) (List.drop 0 (List.map f l))=List.map f (List.take hi l):=by rw[ZwA]; rfl
theorem Zta (f:γ→D) (l:List γ) (hi:Nat):(Nat.ble 0 hi&&Nat.ble hi (List.map f l).length)=Nat.ble hi l.length:=by rw[List.length_map]; cases hi<;>rfl
end
end Go.Proofs.YtljgncbdagmeeaaDoorE
namespace Go.Proofs.YtljgncbdagmeeaaDoor
open Go Go.Proofs.YtljgncbdagmeeaaDoorE
set_option linter.unusedVariables false
structure Za2 where
 work:(List Int)
 edges:(List Zm)
 deriving DecidableEq
structure Zh where
 part:Int
 step:Int
 deriving DecidableEq
abbrev ZaG (x:Zh):D:=(D.agg [(Zb x.part),(Zb x.step)])
structure Zf9 where
 dag:Za2
 pieces:(List Zh)
 deriving DecidableEq
def ZoL:ByteArray:=⟨#[0,1,2,2,3,3,3,3,4,4,4,4,4,4,4,4,5,5,5,5,5,5,5,5,5,5,5,5,5,5,5,5,6,6,6,6,6,6,6,6,6,6,6,6,6,6,6,6,6,6,6,6,6,6,6,6,6,6,6,6,6,6,6,6,7,7,7,7,7,7,7,7,7,7,7,7,7,7,7,7,7,7,7,7,7,7,7,7,7,7,7,7,7,7,7,7,7,7,7,7,7,7,7,7,7,7,7,7,7,7,7,7,7,7,7,7,7,7,7,7,7,7,7,7,7,7,7,7,8,8,8,8,8,8,8,8,8,8,8,8,8,8,8,8,8,8,8,8,8,8,8,8,8,8,8,8,8,8,8,8,8,8,8,8,8,8,8,8,8,8,8,8,8,8,8,8,8,8,8,8,8,8,8,8,8,8,8,8,8,8,8,8,8,8,8,8,8,8,8,8,8,8,8,8,8,8,8,8,8,8,8,8,8,8,8,8,8,8,8,8,8,8,8,8,8,8,8,8,8,8,8,8,8,8,8,8,8,8,8,8,8,8,8,8,8,8,8,8,8,8,8,8,8,8,8,8]⟩
abbrev dA (t0 t1 t2 t3:Bool) (a:Zo):List D:=[(Zb a.period),(Zb a.deadline),(D.list t0 (List.map ZY a.parts)),(D.list t1 (List.map Zw a.edges)),(D.list t2 (List.map Zn a.futures)),(D.list t3 (List.map Zu a.barriers))]
abbrev dV (t0 t1 t2 t3:Bool) (a:Zo):List V:=[(.d (Zb a.period)),(.d (Zb a.deadline)),(.d (D.list t0 (List.map ZY a.parts))),(.d (D.list t1 (List.map Zw a.edges))),(.d (D.list t2 (List.map Zn a.futures))),(.d (D.list t3 (List.map Zu a.barriers)))]
def ZeL:Option Bool:=some true
noncomputable def ZdS (a:Zo) (s0:Int):Option (Int⊕(Unit⊕Unit)):=
 bif (decide (s0<(a.barriers.length:Int))) then
  bif (decide (s0<9)) then
   (ZF a.barriers s0).bind fun x1=>
   bif (decide (20<(x1.ins.length:Int))) then
    some (.inr (.inl ()))
   else
    bif (decide (20<(x1.outs.length:Int))) then
     some (.inr (.inl ()))
    else
     some (.inl (w64 (s0+1)))
  else
   some (.inr (.inr ()))
 else
  some (.inr (.inr ()))
noncomputable def ZfK (a:Zo):Option Bool:=
 (lp (ZdS a) 0).bind fun r2=>
 match r2 with
 | (.inl r2)=>
  some false
 | (.inr r2)=>
  bif (decide ((a.parts.length:Int)≤20)) then
   bif (decide ((a.edges.length:Int)≤60)) then
    bif (decide ((a.futures.length:Int)≤20)) then
     bif (decide ((a.barriers.length:Int)≤8)) then
      some true
     else
      some false
    else
     some false
   else
    some false
  else
   some false
noncomputable def Zdh (a:Zo) (s0:Int×(List Zq)):Option ((Int×(List Zq))⊕(List Zq)):=
 bif (decide (s0.1<(a.barriers.length:Int))) then
  (ZF a.barriers s0.1).bind fun x1=>
  bif (Nat.ble (List.length x1.ins) lim) then
   bif (Nat.ble (List.length x1.outs) lim) then
    bif (Nat.ble (List.length s0.2+1) lim) then
     some (.inl ((w64 (s0.1+1)),(s0.2++[x1])))
    else
     none
   else
    none
  else
   none
 else
  some (.inr s0.2)
noncomputable def ZfP (a:Zo):Option (List Zq):=
 bif (Nat.ble (List.length a.parts) lim) then
  bif (Nat.ble (List.length a.edges) lim) then
   bif (Nat.ble (List.length a.futures) lim) then
    (lp (Zdh a) (0,([]:(List Zq)))).bind fun r2=>
    some r2
   else
    none
  else
   none
 else
  none
noncomputable def Zbh (a:Int) (b:Int) (c:Int):Option Bool:=
 bif (decide (b≤a)) then
  bif (decide (a≤c)) then
   some true
  else
   some false
 else
  some false
noncomputable def ZfG (a:Int):Option Int:=
 bif (decide (a<0)) then
  some 10
 else
  bif (decide (1099511627775<a)) then
   some 11
  else
   some 0
noncomputable def Zb9 (a:Int):Option Int:=
 some (IntKind.i64.wrap (BitVec.ofInt IntKind.i64.bits (w64 (IntKind.u64.wrap ((IntKind.u64.wrap ((IntKind.u64.wrap ((IntKind.u64.wrap (BitVec.ofInt IntKind.u64.bits (IntKind.u64.wrap ((Int.fdiv (IntKind.u64.wrap ((IntKind.u64.wrap (BitVec.ofInt IntKind.u64.bits (Int.fdiv (IntKind.u64.wrap ((IntKind.u64.wrap (BitVec.ofInt IntKind.u64.bits (Int.fdiv a (2 ^ 1)) &&& BitVec.ofInt IntKind.u64.bits 6148914691236517205).toNat)+(IntKind.u64.wrap (BitVec.ofInt IntKind.u64.bits a &&& BitVec.ofInt IntKind.u64.bits 6148914691236517205).toNat))) (2 ^ 2)) &&& BitVec.ofInt IntKind.u64.bits 3689348814741910323).toNat)+(IntKind.u64.wrap (BitVec.ofInt IntKind.u64.bits (IntKind.u64.wrap ((IntKind.u64.wrap (BitVec.ofInt IntKind.u64.bits (Int.fdiv a (2 ^ 1)) &&& BitVec.ofInt IntKind.u64.bits 6148914691236517205).toNat)+(IntKind.u64.wrap (BitVec.ofInt IntKind.u64.bits a &&& BitVec.ofInt IntKind.u64.bits 6148914691236517205).toNat))) &&& BitVec.ofInt IntKind.u64.bits 3689348814741910323).toNat))) (2 ^ 4))+(IntKind.u64.wrap ((IntKind.u64.wrap (BitVec.ofInt IntKind.u64.bits (Int.fdiv (IntKind.u64.wrap ((IntKind.u64.wrap (BitVec.ofInt IntKind.u64.bits (Int.fdiv a (2 ^ 1)) &&& BitVec.ofInt IntKind.u64.bits 6148914691236517205).toNat)+(IntKind.u64.wrap (BitVec.ofInt IntKind.u64.bits a &&& BitVec.ofInt IntKind.u64.bits 6148914691236517205).toNat))) (2 ^ 2)) &&& BitVec.ofInt IntKind.u64.bits 3689348814741910323).toNat)+(IntKind.u64.wrap (BitVec.ofInt IntKind.u64.bits (IntKind.u64.wrap ((IntKind.u64.wrap (BitVec.ofInt IntKind.u64.bits (Int.fdiv a (2 ^ 1)) &&& BitVec.ofInt IntKind.u64.bits 6148914691236517205).toNat)+(IntKind.u64.wrap (BitVec.ofInt IntKind.u64.bits a &&& BitVec.ofInt IntKind.u64.bits 6148914691236517205).toNat))) &&& BitVec.ofInt IntKind.u64.bits 3689348814741910323).toNat))))) &&& BitVec.ofInt IntKind.u64.bits 1085102592571150095).toNat)+(Int.fdiv (IntKind.u64.wrap (BitVec.ofInt IntKind.u64.bits (IntKind.u64.wrap ((Int.fdiv (IntKind.u64.wrap ((IntKind.u64.wrap (BitVec.ofInt IntKind.u64.bits (Int.fdiv (IntKind.u64.wrap ((IntKind.u64.wrap (BitVec.ofInt IntKind.u64.bits (Int.fdiv a (2 ^ 1)) &&& BitVec.ofInt IntKind.u64.bits 6148914691236517205).toNat)+(IntKind.u64.wrap (BitVec.ofInt IntKind.u64.bits a &&& BitVec.ofInt IntKind.u64.bits 6148914691236517205).toNat))) (2 ^ 2)) &&& BitVec.ofInt IntKind.u64.bits 3689348814741910323).toNat)+(IntKind.u64.wrap (BitVec.ofInt IntKind.u64.bits (IntKind.u64.wrap ((IntKind.u64.wrap (BitVec.ofInt IntKind.u64.bits (Int.fdiv a (2 ^ 1)) &&& BitVec.ofInt IntKind.u64.bits 6148914691236517205).toNat)+(IntKind.u64.wrap (BitVec.ofInt IntKind.u64.bits a &&& BitVec.ofInt IntKind.u64.bits 6148914691236517205).toNat))) &&& BitVec.ofInt IntKind.u64.bits 3689348814741910323).toNat))) (2 ^ 4))+(IntKind.u64.wrap ((IntKind.u64.wrap (BitVec.ofInt IntKind.u64.bits (Int.fdiv (IntKind.u64.wrap ((IntKind.u64.wrap (BitVec.ofInt IntKind.u64.bits (Int.fdiv a (2 ^ 1)) &&& BitVec.ofInt IntKind.u64.bits 6148914691236517205).toNat)+(IntKind.u64.wrap (BitVec.ofInt IntKind.u64.bits a &&& BitVec.ofInt IntKind.u64.bits 6148914691236517205).toNat))) (2 ^ 2)) &&& BitVec.ofInt IntKind.u64.bits 3689348814741910323).toNat)+(IntKind.u64.wrap (BitVec.ofInt IntKind.u64.bits (IntKind.u64.wrap ((IntKind.u64.wrap (BitVec.ofInt IntKind.u64.bits (Int.fdiv a (2 ^ 1)) &&& BitVec.ofInt IntKind.u64.bits 6148914691236517205).toNat)+(IntKind.u64.wrap (BitVec.ofInt IntKind.u64.bits a &&& BitVec.ofInt IntKind.u64.bits 6148914691236517205).toNat))) &&& BitVec.ofInt IntKind.u64.bits 3689348814741910323).toNat))))) &&& BitVec.ofInt IntKind.u64.bits 1085102592571150095).toNat) (2 ^ 8))))+(Int.fdiv (IntKind.u64.wrap ((IntKind.u64.wrap (BitVec.ofInt IntKind.u64.bits (IntKind.u64.wrap ((Int.fdiv (IntKind.u64.wrap ((IntKind.u64.wrap (BitVec.ofInt IntKind.u64.bits (Int.fdiv (IntKind.u64.wrap ((IntKind.u64.wrap (BitVec.ofInt IntKind.u64.bits (Int.fdiv a (2 ^ 1)) &&& BitVec.ofInt IntKind.u64.bits 6148914691236517205).toNat)+(IntKind.u64.wrap (BitVec.ofInt IntKind.u64.bits a &&& BitVec.ofInt IntKind.u64.bits 6148914691236517205).toNat))) (2 ^ 2)) &&& BitVec.ofInt IntKind.u64.bits 3689348814741910323).toNat)+(IntKind.u64.wrap (BitVec.ofInt IntKind.u64.bits (IntKind.u64.wrap ((IntKind.u64.wrap (BitVec.ofInt IntKind.u64.bits (Int.fdiv a (2 ^ 1)) &&& BitVec.ofInt IntKind.u64.bits 6148914691236517205).toNat)+(IntKind.u64.wrap (BitVec.ofInt IntKind.u64.bits a &&& BitVec.ofInt IntKind.u64.bits 6148914691236517205).toNat))) &&& BitVec.ofInt IntKind.u64.bits 3689348814741910323).toNat))) (2 ^ 4))+(IntKind.u64.wrap ((IntKind.u64.wrap (BitVec.ofInt IntKind.u64.bits (Int.fdiv (IntKind.u64.wrap ((IntKind.u64.wrap (BitVec.ofInt IntKind.u64.bits (Int.fdiv a (2 ^ 1)) &&& BitVec.ofInt IntKind.u64.bits 6148914691236517205).toNat)+(IntKind.u64.wrap (BitVec.ofInt IntKind.u64.bits a &&& BitVec.ofInt IntKind.u64.bits 6148914691236517205).toNat))) (2 ^ 2)) &&& BitVec.ofInt IntKind.u64.bits 3689348814741910323).toNat)+(IntKind.u64.wrap (BitVec.ofInt IntKind.u64.bits (IntKind.u64.wrap ((IntKind.u64.wrap (BitVec.ofInt IntKind.u64.bits (Int.fdiv a (2 ^ 1)) &&& BitVec.ofInt IntKind.u64.bits 6148914691236517205).toNat)+(IntKind.u64.wrap (BitVec.ofInt IntKind.u64.bits a &&& BitVec.ofInt IntKind.u64.bits 6148914691236517205).toNat))) &&& BitVec.ofInt IntKind.u64.bits 3689348814741910323).toNat))))) &&& BitVec.ofInt IntKind.u64.bits 1085102592571150095).toNat)+(Int.fdiv (IntKind.u64.wrap (BitVec.ofInt IntKind.u64.bits (IntKind.u64.wrap ((Int.fdiv (IntKind.u64.wrap ((IntKind.u64.wrap (BitVec.ofInt IntKind.u64.bits (Int.fdiv (IntKind.u64.wrap ((IntKind.u64.wrap (BitVec.ofInt IntKind.u64.bits (Int.fdiv a (2 ^ 1)) &&& BitVec.ofInt IntKind.u64.bits 6148914691236517205).toNat)+(IntKind.u64.wrap (BitVec.ofInt IntKind.u64.bits a &&& BitVec.ofInt IntKind.u64.bits 6148914691236517205).toNat))) (2 ^ 2)) &&& BitVec.ofInt IntKind.u64.bits 3689348814741910323).toNat)+(IntKind.u64.wrap (BitVec.ofInt IntKind.u64.bits (IntKind.u64.wrap ((IntKind.u64.wrap (BitVec.ofInt IntKind.u64.bits (Int.fdiv a (2 ^ 1)) &&& BitVec.ofInt IntKind.u64.bits 6148914691236517205).toNat)+(IntKind.u64.wrap (BitVec.ofInt IntKind.u64.bits a &&& BitVec.ofInt IntKind.u64.bits 6148914691236517205).toNat))) &&& BitVec.ofInt IntKind.u64.bits 3689348814741910323).toNat))) (2 ^ 4))+(IntKind.u64.wrap ((IntKind.u64.wrap (BitVec.ofInt IntKind.u64.bits (Int.fdiv (IntKind.u64.wrap ((IntKind.u64.wrap (BitVec.ofInt IntKind.u64.bits (Int.fdiv a (2 ^ 1)) &&& BitVec.ofInt IntKind.u64.bits 6148914691236517205).toNat)+(IntKind.u64.wrap (BitVec.ofInt IntKind.u64.bits a &&& BitVec.ofInt IntKind.u64.bits 6148914691236517205).toNat))) (2 ^ 2)) &&& BitVec.ofInt IntKind.u64.bits 3689348814741910323).toNat)+(IntKind.u64.wrap (BitVec.ofInt IntKind.u64.bits (IntKind.u64.wrap ((IntKind.u64.wrap (BitVec.ofInt IntKind.u64.bits (Int.fdiv a (2 ^ 1)) &&& BitVec.ofInt IntKind.u64.bits 6148914691236517205).toNat)+(IntKind.u64.wrap (BitVec.ofInt IntKind.u64.bits a &&& BitVec.ofInt IntKind.u64.bits 6148914691236517205).toNat))) &&& BitVec.ofInt IntKind.u64.bits 3689348814741910323).toNat))))) &&& BitVec.ofInt IntKind.u64.bits 1085102592571150095).toNat) (2 ^ 8)))) (2 ^ 16))))+(Int.fdiv (IntKind.u64.wrap ((IntKind.u64.wrap ((IntKind.u64.wrap (BitVec.ofInt IntKind.u64.bits (IntKind.u64.wrap ((Int.fdiv (IntKind.u64.wrap ((IntKind.u64.wrap (BitVec.ofInt IntKind.u64.bits (Int.fdiv (IntKind.u64.wrap ((IntKind.u64.wrap (BitVec.ofInt IntKind.u64.bits (Int.fdiv a (2 ^ 1)) &&& BitVec.ofInt IntKind.u64.bits 6148914691236517205).toNat)+(IntKind.u64.wrap (BitVec.ofInt IntKind.u64.bits a &&& BitVec.ofInt IntKind.u64.bits 6148914691236517205).toNat))) (2 ^ 2)) &&& BitVec.ofInt IntKind.u64.bits 3689348814741910323).toNat)+(IntKind.u64.wrap (BitVec.ofInt IntKind.u64.bits (IntKind.u64.wrap ((IntKind.u64.wrap (BitVec.ofInt IntKind.u64.bits (Int.fdiv a (2 ^ 1)) &&& BitVec.ofInt IntKind.u64.bits 6148914691236517205).toNat)+(IntKind.u64.wrap (BitVec.ofInt IntKind.u64.bits a &&& BitVec.ofInt IntKind.u64.bits 6148914691236517205).toNat))) &&& BitVec.ofInt IntKind.u64.bits 3689348814741910323).toNat))) (2 ^ 4))+(IntKind.u64.wrap ((IntKind.u64.wrap (BitVec.ofInt IntKind.u64.bits (Int.fdiv (IntKind.u64.wrap ((IntKind.u64.wrap (BitVec.ofInt IntKind.u64.bits (Int.fdiv a (2 ^ 1)) &&& BitVec.ofInt IntKind.u64.bits 6148914691236517205).toNat)+(IntKind.u64.wrap (BitVec.ofInt IntKind.u64.bits a &&& BitVec.ofInt IntKind.u64.bits 6148914691236517205).toNat))) (2 ^ 2)) &&& BitVec.ofInt IntKind.u64.bits 3689348814741910323).toNat)+(IntKind.u64.wrap (BitVec.ofInt IntKind.u64.bits (IntKind.u64.wrap ((IntKind.u64.wrap (BitVec.ofInt IntKind.u64.bits (Int.fdiv a (2 ^ 1)) &&& BitVec.ofInt IntKind.u64.bits 6148914691236517205).toNat)+(IntKind.u64.wrap (BitVec.ofInt IntKind.u64.bits a &&& BitVec.ofInt IntKind.u64.bits 6148914691236517205).toNat))) &&& BitVec.ofInt IntKind.u64.bits 3689348814741910323).toNat))))) &&& BitVec.ofInt IntKind.u64.bits 1085102592571150095).toNat)+(Int.fdiv (IntKind.u64.wrap (BitVec.ofInt IntKind.u64.bits (IntKind.u64.wrap ((Int.fdiv (IntKind.u64.wrap ((IntKind.u64.wrap (BitVec.ofInt IntKind.u64.bits (Int.fdiv (IntKind.u64.wrap ((IntKind.u64.wrap (BitVec.ofInt IntKind.u64.bits (Int.fdiv a (2 ^ 1)) &&& BitVec.ofInt IntKind.u64.bits 6148914691236517205).toNat)+(IntKind.u64.wrap (BitVec.ofInt IntKind.u64.bits a &&& BitVec.ofInt IntKind.u64.bits 6148914691236517205).toNat))) (2 ^ 2)) &&& BitVec.ofInt IntKind.u64.bits 3689348814741910323).toNat)+(IntKind.u64.wrap (BitVec.ofInt IntKind.u64.bits (IntKind.u64.wrap ((IntKind.u64.wrap (BitVec.ofInt IntKind.u64.bits (Int.fdiv a (2 ^ 1)) &&& BitVec.ofInt IntKind.u64.bits 6148914691236517205).toNat)+(IntKind.u64.wrap (BitVec.ofInt IntKind.u64.bits a &&& BitVec.ofInt IntKind.u64.bits 6148914691236517205).toNat))) &&& BitVec.ofInt IntKind.u64.bits 3689348814741910323).toNat))) (2 ^ 4))+(IntKind.u64.wrap ((IntKind.u64.wrap (BitVec.ofInt IntKind.u64.bits (Int.fdiv (IntKind.u64.wrap ((IntKind.u64.wrap (BitVec.ofInt IntKind.u64.bits (Int.fdiv a (2 ^ 1)) &&& BitVec.ofInt IntKind.u64.bits 6148914691236517205).toNat)+(IntKind.u64.wrap (BitVec.ofInt IntKind.u64.bits a &&& BitVec.ofInt IntKind.u64.bits 6148914691236517205).toNat))) (2 ^ 2)) &&& BitVec.ofInt IntKind.u64.bits 3689348814741910323).toNat)+(IntKind.u64.wrap (BitVec.ofInt IntKind.u64.bits (IntKind.u64.wrap ((IntKind.u64.wrap (BitVec.ofInt IntKind.u64.bits (Int.fdiv a (2 ^ 1)) &&& BitVec.ofInt IntKind.u64.bits 6148914691236517205).toNat)+(IntKind.u64.wrap (BitVec.ofInt IntKind.u64.bits a &&& BitVec.ofInt IntKind.u64.bits 6148914691236517205).toNat))) &&& BitVec.ofInt IntKind.u64.bits 3689348814741910323).toNat))))) &&& BitVec.ofInt IntKind.u64.bits 1085102592571150095).toNat) (2 ^ 8))))+(Int.fdiv (IntKind.u64.wrap ((IntKind.u64.wrap (BitVec.ofInt IntKind.u64.bits (IntKind.u64.wrap ((Int.fdiv (IntKind.u64.wrap ((IntKind.u64.wrap (BitVec.ofInt IntKind.u64.bits (Int.fdiv (IntKind.u64.wrap ((IntKind.u64.wrap (BitVec.ofInt IntKind.u64.bits (Int.fdiv a (2 ^ 1)) &&& BitVec.ofInt IntKind.u64.bits 6148914691236517205).toNat)+(IntKind.u64.wrap (BitVec.ofInt IntKind.u64.bits a &&& BitVec.ofInt IntKind.u64.bits 6148914691236517205).toNat))) (2 ^ 2)) &&& BitVec.ofInt IntKind.u64.bits 3689348814741910323).toNat)+(IntKind.u64.wrap (BitVec.ofInt IntKind.u64.bits (IntKind.u64.wrap ((IntKind.u64.wrap (BitVec.ofInt IntKind.u64.bits (Int.fdiv a (2 ^ 1)) &&& BitVec.ofInt IntKind.u64.bits 6148914691236517205).toNat)+(IntKind.u64.wrap (BitVec.ofInt IntKind.u64.bits a &&& BitVec.ofInt IntKind.u64.bits 6148914691236517205).toNat))) &&& BitVec.ofInt IntKind.u64.bits 3689348814741910323).toNat))) (2 ^ 4))+(IntKind.u64.wrap ((IntKind.u64.wrap (BitVec.ofInt IntKind.u64.bits (Int.fdiv (IntKind.u64.wrap ((IntKind.u64.wrap (BitVec.ofInt IntKind.u64.bits (Int.fdiv a (2 ^ 1)) &&& BitVec.ofInt IntKind.u64.bits 6148914691236517205).toNat)+(IntKind.u64.wrap (BitVec.ofInt IntKind.u64.bits a &&& BitVec.ofInt IntKind.u64.bits 6148914691236517205).toNat))) (2 ^ 2)) &&& BitVec.ofInt IntKind.u64.bits 3689348814741910323).toNat)+(IntKind.u64.wrap (BitVec.ofInt IntKind.u64.bits (IntKind.u64.wrap ((IntKind.u64.wrap (BitVec.ofInt IntKind.u64.bits (Int.fdiv a (2 ^ 1)) &&& BitVec.ofInt IntKind.u64.bits 6148914691236517205).toNat)+(IntKind.u64.wrap (BitVec.ofInt IntKind.u64.bits a &&& BitVec.ofInt IntKind.u64.bits 6148914691236517205).toNat))) &&& BitVec.ofInt IntKind.u64.bits 3689348814741910323).toNat))))) &&& BitVec.ofInt IntKind.u64.bits 1085102592571150095).toNat)+(Int.fdiv (IntKind.u64.wrap (BitVec.ofInt IntKind.u64.bits (IntKind.u64.wrap ((Int.fdiv (IntKind.u64.wrap ((IntKind.u64.wrap (BitVec.ofInt IntKind.u64.bits (Int.fdiv (IntKind.u64.wrap ((IntKind.u64.wrap (BitVec.ofInt IntKind.u64.bits (Int.fdiv a (2 ^ 1)) &&& BitVec.ofInt IntKind.u64.bits 6148914691236517205).toNat)+(IntKind.u64.wrap (BitVec.ofInt IntKind.u64.bits a &&& BitVec.ofInt IntKind.u64.bits 6148914691236517205).toNat))) (2 ^ 2)) &&& BitVec.ofInt IntKind.u64.bits 3689348814741910323).toNat)+(IntKind.u64.wrap (BitVec.ofInt IntKind.u64.bits (IntKind.u64.wrap ((IntKind.u64.wrap (BitVec.ofInt IntKind.u64.bits (Int.fdiv a (2 ^ 1)) &&& BitVec.ofInt IntKind.u64.bits 6148914691236517205).toNat)+(IntKind.u64.wrap (BitVec.ofInt IntKind.u64.bits a &&& BitVec.ofInt IntKind.u64.bits 6148914691236517205).toNat))) &&& BitVec.ofInt IntKind.u64.bits 3689348814741910323).toNat))) (2 ^ 4))+(IntKind.u64.wrap ((IntKind.u64.wrap (BitVec.ofInt IntKind.u64.bits (Int.fdiv (IntKind.u64.wrap ((IntKind.u64.wrap (BitVec.ofInt IntKind.u64.bits (Int.fdiv a (2 ^ 1)) &&& BitVec.ofInt IntKind.u64.bits 6148914691236517205).toNat)+(IntKind.u64.wrap (BitVec.ofInt IntKind.u64.bits a &&& BitVec.ofInt IntKind.u64.bits 6148914691236517205).toNat))) (2 ^ 2)) &&& BitVec.ofInt IntKind.u64.bits 3689348814741910323).toNat)+(IntKind.u64.wrap (BitVec.ofInt IntKind.u64.bits (IntKind.u64.wrap ((IntKind.u64.wrap (BitVec.ofInt IntKind.u64.bits (Int.fdiv a (2 ^ 1)) &&& BitVec.ofInt IntKind.u64.bits 6148914691236517205).toNat)+(IntKind.u64.wrap (BitVec.ofInt IntKind.u64.bits a &&& BitVec.ofInt IntKind.u64.bits 6148914691236517205).toNat))) &&& BitVec.ofInt IntKind.u64.bits 3689348814741910323).toNat))))) &&& BitVec.ofInt IntKind.u64.bits 1085102592571150095).toNat) (2 ^ 8)))) (2 ^ 16)))) (2 ^ 32))))) &&& BitVec.ofInt IntKind.i64.bits 127).toNat)
noncomputable def Zcp (a:Int):Option Int:=
 (Zb9 a).bind fun x0=>
 some x0
def Zoz:List Int:=[0,1,56,2,57,49,28,3,61,58,42,50,38,29,17,4,62,47,59,36,45,43,51,22,53,39,33,30,24,18,12,5,63,55,48,27,60,41,37,16,46,35,44,21,52,32,23,11,54,26,40,15,34,20,31,10,25,14,19,9,13,8,7,6]
def Zc4 (a:Int):Option Int:=some (bif a==0 then 64 else w64 (Zoz.getD (Int.fdiv (IntKind.u64.wrap ((IntKind.u64.wrap (BitVec.ofInt IntKind.u64.bits a &&& BitVec.ofInt IntKind.u64.bits (IntKind.u64.wrap (0-a))).toNat)*285870213051353865)) (2 ^ (min (Int.toNat 58) IntKind.u64.bits))).toNat 0))
noncomputable def Zco (a:Int):Option Int:=
 (Zc4 a).bind fun x0=>
 some x0
noncomputable def Zhk (a:Int):Option (Int×Bool):=
 (ZfG a).bind fun x0=>
 bif (x0 != 0) then
  some (0,false)
 else
  (Zcp (IntKind.u64.wrap a)).bind fun x1=>
  bif (x1 != 1) then
   some (0,false)
  else
   (Zco (IntKind.u64.wrap a)).bind fun x2=>
   some (x2,true)
noncomputable def Zd3 (a:ZV):Option Bool:=
 (Zbh a.op 0 5).bind fun x0=>
 bif x0 then
  (Zbh a.arg 0 2147483647).bind fun x1=>
  bif x1 then
   (Zbh a.work 1 100).bind fun x2=>
   bif x2 then
    some false
   else
    some true
  else
   some true
 else
  some true
noncomputable def ZaM (a:(List ZV)) (b:(ZV→Option Bool)) (s0:Int):Option (Int⊕(Int⊕Unit)):=
 bif (decide (s0<(a.length:Int))) then
  (ZF a s0).bind fun x1=>
  (b x1).bind fun x2=>
  bif x2 then
   some (.inr (.inl s0))
  else
   some (.inl (w64 (s0+1)))
 else
  some (.inr (.inr ()))
noncomputable def ZbK (a:(List ZV)) (b:(ZV→Option Bool)):Option Int:=
 (lp (ZaM a b) 0).bind fun r3=>
 match r3 with
 | (.inl r3)=>
  some r3
 | (.inr r3)=>
  some (-1)
noncomputable def ZaN (a:(List ZV)) (b:(ZV→Option Bool)):Option Bool:=
 (ZbK a b).bind fun x0=>
 bif (decide (0≤x0)) then
  some true
 else
  some false
noncomputable def Zft (a:Zo) (b:Int) (c:Int):Option Bool:=
 bif (b != c) then
  (Zbh b 0 (w64 ((a.parts.length:Int)-1))).bind fun x0=>
  bif x0 then
   (Zbh c 0 (w64 ((a.parts.length:Int)-1))).bind fun x1=>
   bif x1 then
    some true
   else
    some false
  else
   some false
 else
  some false
noncomputable def Za6 (a:(List Zm)) (b:Zm) (s0:Int):Option (Int⊕(Int⊕Unit)):=
 bif (decide (s0<(a.length:Int))) then
  (ZF a s0).bind fun x1=>
  bif ((b.src==x1.src)&&((b.dst==x1.dst)&&true)) then
   some (.inr (.inl s0))
  else
   some (.inl (w64 (s0+1)))
 else
  some (.inr (.inr ()))
noncomputable def Zcg (a:(List Zm)) (b:Zm):Option Int:=
 (lp (Za6 a b) 0).bind fun r2=>
 match r2 with
 | (.inl r2)=>
  some r2
 | (.inr r2)=>
  some (-1)
noncomputable def ZaL (a:(List Zm)) (b:Zm):Option Bool:=
 (Zcg a b).bind fun x0=>
 bif (decide (0≤x0)) then
  some true
 else
  some false
noncomputable def ZcG (a:Zi) (b1:Int) (b2:Int):Option Bool:=
 bif (a.user==b1) then
  bif (a.pos==b2) then
   some true
  else
   some false
 else
  some false
noncomputable def Zav (a:(List Zi)) (b:(Zi→Option Bool)) (s0:Int):Option (Int⊕(Int⊕Unit)):=
 bif (decide (s0<(a.length:Int))) then
  (ZF a s0).bind fun x1=>
  (b x1).bind fun x2=>
  bif x2 then
   some (.inr (.inl s0))
  else
   some (.inl (w64 (s0+1)))
 else
  some (.inr (.inr ()))
noncomputable def Za9 (a:(List Zi)) (b:(Zi→Option Bool)):Option Int:=
 (lp (Zav a b) 0).bind fun r3=>
 match r3 with
 | (.inl r3)=>
  some r3
 | (.inr r3)=>
  some (-1)
noncomputable def Zaw (a:(List Zi)) (b:(Zi→Option Bool)):Option Bool:=
 (Za9 a b).bind fun x0=>
 bif (decide (0≤x0)) then
  some true
 else
  some false
noncomputable def Zef (a:Zo) (b:(List Int)) (s0:Int):Option (Int⊕(Unit⊕Unit)):=
 bif (decide (s0<(b.length:Int))) then
  (ZF b s0).bind fun x1=>
  (Zbh x1 0 (w64 ((a.parts.length:Int)-1))).bind fun x2=>
  bif x2 then
   bif (decide (0<s0)) then
    (ZF b (w64 (s0-1))).bind fun x3=>
    bif (decide (x1≤x3)) then
     some (.inr (.inl ()))
    else
     some (.inl (w64 (s0+1)))
   else
    some (.inl (w64 (s0+1)))
  else
   some (.inr (.inl ()))
 else
  some (.inr (.inr ()))
noncomputable def Zfu (a:Zo) (b:(List Int)):Option Bool:=
 (lp (Zef a b) 0).bind fun r4=>
 match r4 with
 | (.inl r4)=>
  some false
 | (.inr r4)=>
  bif (decide (0<(b.length:Int))) then
   some true
  else
   some false
noncomputable def Zbq (a:(List Int)) (b:Int) (s0:Int):Option (Int⊕(Int⊕Unit)):=
 bif (decide (s0<(a.length:Int))) then
  (ZF a s0).bind fun x1=>
  bif (b==x1) then
   some (.inr (.inl s0))
  else
   some (.inl (w64 (s0+1)))
 else
  some (.inr (.inr ()))
noncomputable def ZcB (a:(List Int)) (b:Int):Option Int:=
 (lp (Zbq a b) 0).bind fun r2=>
 match r2 with
 | (.inl r2)=>
  some r2
 | (.inr r2)=>
  some (-1)
noncomputable def Zbp (a:(List Int)) (b:Int):Option Bool:=
 (ZcB a b).bind fun x0=>
 bif (decide (0≤x0)) then
  some true
 else
  some false
noncomputable def ZcI (a:Int) (b1:(List Int)):Option Bool:=
 (Zbp b1 a).bind fun x0=>
 bif x0 then
  some true
 else
  some false
noncomputable def Zaj (a:(List Int)) (b:(Int→Option Bool)) (s0:Int):Option (Int⊕(Int⊕Unit)):=
 bif (decide (s0<(a.length:Int))) then
  (ZF a s0).bind fun x1=>
  (b x1).bind fun x2=>
  bif x2 then
   some (.inr (.inl s0))
  else
   some (.inl (w64 (s0+1)))
 else
  some (.inr (.inr ()))
noncomputable def ZaO (a:(List Int)) (b:(Int→Option Bool)):Option Int:=
 (lp (Zaj a b) 0).bind fun r3=>
 match r3 with
 | (.inl r3)=>
  some r3
 | (.inr r3)=>
  some (-1)
noncomputable def Z1 (a:(List Int)) (b:(Int→Option Bool)):Option Bool:=
 (ZaO a b).bind fun x0=>
 bif (decide (0≤x0)) then
  some true
 else
  some false
noncomputable def ZcR (a:Zo) (s4:Int):Option (Int⊕(Unit⊕Unit)):=
 bif (decide (s4<(a.edges.length:Int))) then
  (ZF a.edges s4).bind fun x5=>
  (Zft a x5.src x5.dst).bind fun x6=>
  bif x6 then
   bif (decide (0≤s4)) then
    bif (Nat.ble s4.toNat (List.length a.edges)) then
     (ZaL (List.take s4.toNat a.edges) x5).bind fun x7=>
     bif x7 then
      some (.inr (.inl ()))
     else
      some (.inl (w64 (s4+1)))
    else
     none
   else
    none
  else
   some (.inr (.inl ()))
 else
  some (.inr (.inr ()))
noncomputable def ZcV (a:Zo) (s9:Int):Option (Int⊕(Unit⊕Unit)):=
 bif (decide (s9<(a.futures.length:Int))) then
  (ZF a.futures s9).bind fun x10=>
  (Zft a x10.maker x10.user).bind fun x11=>
  bif x11 then
   (ZF a.parts x10.user).bind fun x12=>
   (Zbh x10.pos 1 (w64 (x12.work-1))).bind fun x13=>
   bif x13 then
    bif (decide (0≤s9)) then
     bif (Nat.ble s9.toNat (List.length a.futures)) then
      (Zaw (List.take s9.toNat a.futures) (fun z0=>ZcG z0 x10.user x10.pos)).bind fun x14=>
      bif x14 then
       some (.inr (.inl ()))
      else
       some (.inl (w64 (s9+1)))
     else
      none
    else
     none
   else
    some (.inr (.inl ()))
  else
   some (.inr (.inl ()))
 else
  some (.inr (.inr ()))
noncomputable def ZcT (a:Zo) (s16:Int):Option (Int⊕(Unit⊕Unit)):=
 bif (decide (s16<(a.barriers.length:Int))) then
  (ZF a.barriers s16).bind fun x17=>
  (Zfu a x17.ins).bind fun x18=>
  bif x18 then
   (Zfu a x17.outs).bind fun x19=>
   bif x19 then
    (Z1 x17.ins (fun z0=>ZcI z0 x17.outs)).bind fun x20=>
    bif x20 then
     some (.inr (.inl ()))
    else
     some (.inl (w64 (s16+1)))
   else
    some (.inr (.inl ()))
  else
   some (.inr (.inl ()))
 else
  some (.inr (.inr ()))
noncomputable def ZeE (a:Zo):Option Int:=
 (Zbh (a.parts.length:Int) 1 16).bind fun x0=>
 bif x0 then
  bif (decide (48<(a.edges.length:Int))) then
   some 50
  else
   bif (decide (16<(a.futures.length:Int))) then
    some 50
   else
    bif (decide (4<(a.barriers.length:Int))) then
     some 50
    else
     (Zhk a.period).bind fun x1=>
     bif x1.2 then
      bif (decide (4096<a.period)) then
       some 51
      else
       (Zbh a.deadline 1 a.period).bind fun x2=>
       bif x2 then
        (ZaN a.parts (fun z0=>Zd3 z0)).bind fun x3=>
        bif x3 then
         some 52
        else
         (lp (ZcR a) 0).bind fun r8=>
         match r8 with
         | (.inl r8)=>
          some 53
         | (.inr r8)=>
          (lp (ZcV a) 0).bind fun r15=>
          match r15 with
          | (.inl r15)=>
           some 54
          | (.inr r15)=>
           (lp (ZcT a) 0).bind fun r21=>
           match r21 with
           | (.inl r21)=>
            some 55
           | (.inr r21)=>
            some 0
       else
        some 51
     else
      some 51
 else
  some 50
noncomputable def Zr (a:Int) (b:Int) (c4:(List Zi)):Option Int:=
 (ZF c4 a).bind fun x0=>
 (ZF c4 b).bind fun x1=>
 some (w64 (x0.pos-x1.pos))
noncomputable def Zfh (a:Int):Option Int:=
 bif (decide (4294967296≤a)) then
  bif (decide (65536≤(Int.fdiv a (2 ^ 32)))) then
   bif (decide (256≤(Int.fdiv (Int.fdiv a (2 ^ 32)) (2 ^ 16)))) then
    bif (decide (0≤(IntKind.u8.wrap (Int.fdiv (Int.fdiv (Int.fdiv a (2 ^ 32)) (2 ^ 16)) (2 ^ 8))))) then
     (ZoL[(IntKind.u8.wrap (Int.fdiv (Int.fdiv (Int.fdiv a (2 ^ 32)) (2 ^ 16)) (2 ^ 8))).toNat]?).bind fun x0=>
     some (w64 (56+(w64 (x0.toNat:Int))))
    else
     none
   else
    bif (decide (0≤(IntKind.u8.wrap (Int.fdiv (Int.fdiv a (2 ^ 32)) (2 ^ 16))))) then
     (ZoL[(IntKind.u8.wrap (Int.fdiv (Int.fdiv a (2 ^ 32)) (2 ^ 16))).toNat]?).bind fun x1=>
     some (w64 (48+(w64 (x1.toNat:Int))))
    else
     none
  else
   bif (decide (256≤(Int.fdiv a (2 ^ 32)))) then
    bif (decide (0≤(IntKind.u8.wrap (Int.fdiv (Int.fdiv a (2 ^ 32)) (2 ^ 8))))) then
     (ZoL[(IntKind.u8.wrap (Int.fdiv (Int.fdiv a (2 ^ 32)) (2 ^ 8))).toNat]?).bind fun x2=>
     some (w64 (40+(w64 (x2.toNat:Int))))
    else
     none
   else
    bif (decide (0≤(IntKind.u8.wrap (Int.fdiv a (2 ^ 32))))) then
     (ZoL[(IntKind.u8.wrap (Int.fdiv a (2 ^ 32))).toNat]?).bind fun x3=>
     some (w64 (32+(w64 (x3.toNat:Int))))
    else
     none
 else
  bif (decide (65536≤a)) then
   bif (decide (256≤(Int.fdiv a (2 ^ 16)))) then
    bif (decide (0≤(IntKind.u8.wrap (Int.fdiv (Int.fdiv a (2 ^ 16)) (2 ^ 8))))) then
     (ZoL[(IntKind.u8.wrap (Int.fdiv (Int.fdiv a (2 ^ 16)) (2 ^ 8))).toNat]?).bind fun x4=>
     some (w64 (24+(w64 (x4.toNat:Int))))
    else
     none
   else
    bif (decide (0≤(IntKind.u8.wrap (Int.fdiv a (2 ^ 16))))) then
     (ZoL[(IntKind.u8.wrap (Int.fdiv a (2 ^ 16))).toNat]?).bind fun x5=>
     some (w64 (16+(w64 (x5.toNat:Int))))
    else
     none
  else
   bif (decide (256≤a)) then
    bif (decide (0≤(IntKind.u8.wrap (Int.fdiv a (2 ^ 8))))) then
     (ZoL[(IntKind.u8.wrap (Int.fdiv a (2 ^ 8))).toNat]?).bind fun x6=>
     some (w64 (8+(w64 (x6.toNat:Int))))
    else
     none
   else
    bif (decide (0≤(IntKind.u8.wrap a))) then
     (ZoL[(IntKind.u8.wrap a).toNat]?).bind fun x7=>
     some (w64 (0+(w64 (x7.toNat:Int))))
    else
     none
noncomputable def ZdC (a:Int):Option Int:=
 (Zfh a).bind fun x0=>
 some x0
noncomputable def ZS (b:Int) (d:(Int→Int→Option Int)) (s1:Int×(List Int)):Option ((Int×(List Int))⊕(List Int)):=
 bif (decide (b<s1.1)) then
  (ZF s1.2 s1.1).bind fun x2=>
  (ZF s1.2 (w64 (s1.1-1))).bind fun x3=>
  (d x2 x3).bind fun x4=>
  bif (decide (x4<0)) then
   (ZF (List.set s1.2 s1.1.toNat x3) (w64 (s1.1-1))).bind fun x5=>
   some (.inl ((w64 (s1.1-1)),(List.set (List.set s1.2 s1.1.toNat x3) (w64 (s1.1-1)).toNat x2)))
  else
   some (.inr s1.2)
 else
  some (.inr s1.2)
noncomputable def Zag (b:Int) (c:Int) (d:(Int→Int→Option Int)) (s0:Int×(List Int)):Option ((Int×(List Int))⊕(List Int)):=
 bif (decide (s0.1<c)) then
  (lp (ZS b d) (s0.1,s0.2)).bind fun r6=>
  some (.inl ((w64 (s0.1+1)),r6))
 else
  some (.inr s0.2)
noncomputable def ZR (b:Int) (c:Int) (d:(Int→Int→Option Int)) (m0_0:(List Int)):Option (List Int):=
 (lp (Zag b c d) ((w64 (b+1)),m0_0)).bind fun r7=>
 some r7
noncomputable def ZH (c:Int) (d:Int) (e:(Int→Int→Option Int)) (s0:Int×(List Int)):Option ((Int×(List Int))⊕((List Int)⊕(List Int))):=
 bif (decide (c≤(w64 ((w64 (2*s0.1))+1)))) then
  some (.inr (.inl s0.2))
 else
  bif (decide ((w64 ((w64 ((w64 (2*s0.1))+1))+1))<c)) then
   (ZF s0.2 (w64 (d+(w64 ((w64 (2*s0.1))+1))))).bind fun x1=>
   (ZF s0.2 (w64 ((w64 (d+(w64 ((w64 (2*s0.1))+1))))+1))).bind fun x2=>
   (e x1 x2).bind fun x3=>
   bif (decide (x3<0)) then
    (ZF s0.2 (w64 (d+s0.1))).bind fun x4=>
    (ZF s0.2 (w64 (d+(w64 ((w64 ((w64 (2*s0.1))+1))+1))))).bind fun x5=>
    (e x4 x5).bind fun x6=>
    bif (decide (x6<0)) then
     (ZF (List.set s0.2 (w64 (d+s0.1)).toNat x5) (w64 (d+(w64 ((w64 ((w64 (2*s0.1))+1))+1))))).bind fun x7=>
     some (.inl ((w64 ((w64 ((w64 (2*s0.1))+1))+1)),(List.set (List.set s0.2 (w64 (d+s0.1)).toNat x5) (w64 (d+(w64 ((w64 ((w64 (2*s0.1))+1))+1)))).toNat x4)))
    else
     some (.inr (.inr s0.2))
   else
    (ZF s0.2 (w64 (d+s0.1))).bind fun x8=>
    (e x8 x1).bind fun x9=>
    bif (decide (x9<0)) then
     (ZF (List.set s0.2 (w64 (d+s0.1)).toNat x1) (w64 (d+(w64 ((w64 (2*s0.1))+1))))).bind fun x10=>
     some (.inl ((w64 ((w64 (2*s0.1))+1)),(List.set (List.set s0.2 (w64 (d+s0.1)).toNat x1) (w64 (d+(w64 ((w64 (2*s0.1))+1)))).toNat x8)))
    else
     some (.inr (.inr s0.2))
  else
   (ZF s0.2 (w64 (d+s0.1))).bind fun x11=>
   (ZF s0.2 (w64 (d+(w64 ((w64 (2*s0.1))+1))))).bind fun x12=>
   (e x11 x12).bind fun x13=>
   bif (decide (x13<0)) then
    (ZF (List.set s0.2 (w64 (d+s0.1)).toNat x12) (w64 (d+(w64 ((w64 (2*s0.1))+1))))).bind fun x14=>
    some (.inl ((w64 ((w64 (2*s0.1))+1)),(List.set (List.set s0.2 (w64 (d+s0.1)).toNat x12) (w64 (d+(w64 ((w64 (2*s0.1))+1)))).toNat x11)))
   else
    some (.inr (.inr s0.2))
noncomputable def Zax (b:Int) (c:Int) (d:Int) (e:(Int→Int→Option Int)) (m0_0:(List Int)):Option (List Int):=
 (lp (ZH c d e) (b,m0_0)).bind fun r15=>
 match r15 with
 | (.inl r15)=>
  some r15
 | (.inr r15)=>
  some r15
noncomputable def ZaB (b:Int) (c:Int) (d:(Int→Int→Option Int)) (s0:Int×(List Int)):Option ((Int×(List Int))⊕(List Int)):=
 bif (decide (0≤s0.1)) then
  (Zax s0.1 (w64 (c-b)) b d s0.2).bind fun x1=>
  some (.inl ((w64 (s0.1-1)),x1))
 else
  some (.inr s0.2)
noncomputable def ZaC (b:Int) (d:(Int→Int→Option Int)) (s3:Int×(List Int)):Option ((Int×(List Int))⊕(List Int)):=
 bif (decide (0≤s3.1)) then
  (ZF s3.2 (w64 (b+s3.1))).bind fun x4=>
  (ZF s3.2 b).bind fun x5=>
  (ZF (List.set s3.2 b.toNat x4) (w64 (b+s3.1))).bind fun x6=>
  (Zax 0 s3.1 b d (List.set (List.set s3.2 b.toNat x4) (w64 (b+s3.1)).toNat x5)).bind fun x7=>
  some (.inl ((w64 (s3.1-1)),x7))
 else
  some (.inr s3.2)
noncomputable def Z3 (b:Int) (c:Int) (d:(Int→Int→Option Int)) (m0_0:(List Int)):Option (List Int):=
 (lp (ZaB b c d) ((w64 (Int.tdiv (w64 ((w64 (c-b))-1)) 2)),m0_0)).bind fun r2=>
 (lp (ZaC b d) ((w64 ((w64 (c-b))-1)),r2)).bind fun r8=>
 some r8
noncomputable def ZaJ (b:Int) (c:Int) (e:(Int→Int→Option Int)) (m0_0:(List Int)) (m1_0:Int):Option (Int×Int×Int):=
 (ZF m0_0 c).bind fun x0=>
 (ZF m0_0 b).bind fun x1=>
 (e x0 x1).bind fun x2=>
 bif (decide (x2<0)) then
  some (c,b,(w64 (m1_0+1)))
 else
  some (b,c,m1_0)
noncomputable def ZaI (b:Int) (c:Int) (d:Int) (f:(Int→Int→Option Int)) (m0_0:(List Int)) (m1_0:Int):Option (Int×Int):=
 (ZaJ b c f m0_0 m1_0).bind fun x0=>
 (ZaJ x0.2.1 d f m0_0 x0.2.2).bind fun x1=>
 (ZaJ x0.1 x1.1 f m0_0 x1.2.2).bind fun x2=>
 some (x2.2.1,x2.2.2)
noncomputable def Z4 (b:Int) (d:(Int→Int→Option Int)) (m0_0:(List Int)) (m1_0:Int):Option (Int×Int):=
 (ZaI (w64 (b-1)) b (w64 (b+1)) d m0_0 m1_0).bind fun x0=>
 some (x0.1,x0.2)
noncomputable def ZL (b:Int) (c:Int) (d:(Int→Int→Option Int)) (m0_0:(List Int)):Option (Int×Int):=
 bif (decide (8≤(w64 (c-b)))) then
  bif (decide (50≤(w64 (c-b)))) then
   (Z4 (w64 (b+(w64 ((w64 (Int.tdiv (w64 (c-b)) 4))*1)))) d m0_0 0).bind fun x0=>
   (Z4 (w64 (b+(w64 ((w64 (Int.tdiv (w64 (c-b)) 4))*2)))) d m0_0 x0.2).bind fun x1=>
   (Z4 (w64 (b+(w64 ((w64 (Int.tdiv (w64 (c-b)) 4))*3)))) d m0_0 x1.2).bind fun x2=>
   (ZaI x0.1 x1.1 x2.1 d m0_0 x2.2).bind fun x3=>
   bif (x3.2==0) then
    some (x3.1,1)
   else
    bif (x3.2==12) then
     some (x3.1,2)
    else
     some (x3.1,0)
  else
   (ZaI (w64 (b+(w64 ((w64 (Int.tdiv (w64 (c-b)) 4))*1)))) (w64 (b+(w64 ((w64 (Int.tdiv (w64 (c-b)) 4))*2)))) (w64 (b+(w64 ((w64 (Int.tdiv (w64 (c-b)) 4))*3)))) d m0_0 0).bind fun x4=>
   bif (x4.2==0) then
    some (x4.1,1)
   else
    bif (x4.2==12) then
     some (x4.1,2)
    else
     some (x4.1,0)
 else
  some ((w64 (b+(w64 ((w64 (Int.tdiv (w64 (c-b)) 4))*2)))),1)
noncomputable def Z0 (s0:Int×Int×(List Int)):Option ((Int×Int×(List Int))⊕(List Int)):=
 bif (decide (s0.1<s0.2.1)) then
  (ZF s0.2.2 s0.2.1).bind fun x1=>
  (ZF s0.2.2 s0.1).bind fun x2=>
  (ZF (List.set s0.2.2 s0.1.toNat x1) s0.2.1).bind fun x3=>
  some (.inl ((w64 (s0.1+1)),(w64 (s0.2.1-1)),(List.set (List.set s0.2.2 s0.1.toNat x1) s0.2.1.toNat x2)))
 else
  some (.inr s0.2.2)
noncomputable def ZJ (b:Int) (c:Int) (d:(Int→Int→Option Int)) (m0_0:(List Int)):Option (List Int):=
 (lp (Z0) (b,(w64 (c-1)),m0_0)).bind fun r4=>
 some r4
noncomputable def ZI (c:Int) (d:(Int→Int→Option Int)) (s0:Int×Int×(List Int)) (s1:Int):Option (Int⊕Int):=
 bif (decide (s1<c)) then
  (ZF s0.2.2 s1).bind fun x2=>
  (ZF s0.2.2 (w64 (s1-1))).bind fun x3=>
  (d x2 x3).bind fun x4=>
  bif (decide (x4<0)) then
   some (.inr s1)
  else
   some (.inl (w64 (s1+1)))
 else
  some (.inr s1)
noncomputable def ZP (d:(Int→Int→Option Int)) (s9:Int×(List Int)):Option ((Int×(List Int))⊕(List Int)):=
 bif (decide (1≤s9.1)) then
  (ZF s9.2 s9.1).bind fun x10=>
  (ZF s9.2 (w64 (s9.1-1))).bind fun x11=>
  (d x10 x11).bind fun x12=>
  bif (decide (x12<0)) then
   (ZF (List.set s9.2 s9.1.toNat x11) (w64 (s9.1-1))).bind fun x13=>
   some (.inl ((w64 (s9.1-1)),(List.set (List.set s9.2 s9.1.toNat x11) (w64 (s9.1-1)).toNat x10)))
  else
   some (.inr s9.2)
 else
  some (.inr s9.2)
noncomputable def ZE (c:Int) (d:(Int→Int→Option Int)) (s15:Int×(List Int)):Option ((Int×(List Int))⊕(List Int)):=
 bif (decide (s15.1<c)) then
  (ZF s15.2 s15.1).bind fun x16=>
  (ZF s15.2 (w64 (s15.1-1))).bind fun x17=>
  (d x16 x17).bind fun x18=>
  bif (decide (x18<0)) then
   (ZF (List.set s15.2 s15.1.toNat x17) (w64 (s15.1-1))).bind fun x19=>
   some (.inl ((w64 (s15.1+1)),(List.set (List.set s15.2 s15.1.toNat x17) (w64 (s15.1-1)).toNat x16)))
  else
   some (.inr s15.2)
 else
  some (.inr s15.2)
noncomputable def ZO (b:Int) (c:Int) (d:(Int→Int→Option Int)) (s0:Int×Int×(List Int)):Option ((Int×Int×(List Int))⊕((List Int)⊕((List Int)⊕(List Int)))):=
 bif (decide (s0.2.1<5)) then
  (lp (ZI c d s0) s0.1).bind fun r5=>
  bif (r5==c) then
   some (.inr (.inl s0.2.2))
  else
   bif (decide ((w64 (c-b))<50)) then
    some (.inr (.inr (.inl s0.2.2)))
   else
    (ZF s0.2.2 (w64 (r5-1))).bind fun x6=>
    (ZF s0.2.2 r5).bind fun x7=>
    (ZF (List.set s0.2.2 r5.toNat x6) (w64 (r5-1))).bind fun x8=>
    bif (decide (2≤(w64 (r5-b)))) then
     (lp (ZP d) ((w64 (r5-1)),(List.set (List.set s0.2.2 r5.toNat x6) (w64 (r5-1)).toNat x7))).bind fun r14=>
     bif (decide (2≤(w64 (c-r5)))) then
      (lp (ZE c d) ((w64 (r5+1)),r14)).bind fun r20=>
      some (.inl (r5,(w64 (s0.2.1+1)),r20))
     else
      some (.inl (r5,(w64 (s0.2.1+1)),r14))
    else
     bif (decide (2≤(w64 (c-r5)))) then
      (lp (ZE c d) ((w64 (r5+1)),(List.set (List.set s0.2.2 r5.toNat x6) (w64 (r5-1)).toNat x7))).bind fun r26=>
      some (.inl (r5,(w64 (s0.2.1+1)),r26))
     else
      some (.inl (r5,(w64 (s0.2.1+1)),(List.set (List.set s0.2.2 r5.toNat x6) (w64 (r5-1)).toNat x7)))
 else
  some (.inr (.inr (.inr s0.2.2)))
noncomputable def ZM (b:Int) (c:Int) (d:(Int→Int→Option Int)) (m0_0:(List Int)):Option ((List Int)⊕(List Int)):=
 (lp (ZO b c d) ((w64 (b+1)),0,m0_0)).bind fun r27=>
 match r27 with
 | (.inl r27)=>
  some (.inl r27)
 | (.inr (.inl r27))=>
  some (.inr r27)
 | (.inr (.inr r27))=>
  some (.inr r27)
noncomputable def Zat (b:Int) (c:Int) (d:Int) (m0_0:(List Int)) (e:(Int→Int→Option Int)) (x0:Int) (x1:Int) (s3:Int):Option (Int⊕Int):=
 bif (decide (s3≤(w64 (c-1)))) then
  (ZF (List.set (List.set m0_0 b.toNat x0) d.toNat x1) s3).bind fun x4=>
  (ZF (List.set (List.set m0_0 b.toNat x0) d.toNat x1) b).bind fun x5=>
  (e x4 x5).bind fun x6=>
  bif (decide (x6<0)) then
   some (.inl (w64 (s3+1)))
  else
   some (.inr s3)
 else
  some (.inr s3)
noncomputable def Zas (b:Int) (d:Int) (m0_0:(List Int)) (e:(Int→Int→Option Int)) (x0:Int) (x1:Int) (r7:Int) (s8:Int):Option (Int⊕Int):=
 bif (decide (r7≤s8)) then
  (ZF (List.set (List.set m0_0 b.toNat x0) d.toNat x1) s8).bind fun x9=>
  (ZF (List.set (List.set m0_0 b.toNat x0) d.toNat x1) b).bind fun x10=>
  (e x9 x10).bind fun x11=>
  bif (decide (x11<0)) then
   some (.inr s8)
  else
   some (.inl (w64 (s8-1)))
 else
  some (.inr s8)
noncomputable def Zau (b:Int) (e:(Int→Int→Option Int)) (s19:Int×Int×(List Int)) (s20:Int):Option (Int⊕Int):=
 bif (decide (s20≤s19.2.1)) then
  (ZF s19.2.2 s20).bind fun x21=>
  (ZF s19.2.2 b).bind fun x22=>
  (e x21 x22).bind fun x23=>
  bif (decide (x23<0)) then
   some (.inl (w64 (s20+1)))
  else
   some (.inr s20)
 else
  some (.inr s20)
noncomputable def Zaq (b:Int) (e:(Int→Int→Option Int)) (s19:Int×Int×(List Int)) (r24:Int) (s25:Int):Option (Int⊕Int):=
 bif (decide (r24≤s25)) then
  (ZF s19.2.2 s25).bind fun x26=>
  (ZF s19.2.2 b).bind fun x27=>
  (e x26 x27).bind fun x28=>
  bif (decide (x28<0)) then
   some (.inr s25)
  else
   some (.inl (w64 (s25-1)))
 else
  some (.inr s25)
noncomputable def ZaS (b:Int) (e:(Int→Int→Option Int)) (s19:Int×Int×(List Int)):Option ((Int×Int×(List Int))⊕(Int×(List Int))):=
 (lp (Zau b e s19) s19.1).bind fun r24=>
 (lp (Zaq b e s19 r24) s19.2.1).bind fun r29=>
 bif (decide (r29<r24)) then
  some (.inr (r29,s19.2.2))
 else
  (ZF s19.2.2 r29).bind fun x30=>
  (ZF s19.2.2 r24).bind fun x31=>
  (ZF (List.set s19.2.2 r24.toNat x30) r29).bind fun x32=>
  some (.inl ((w64 (r24+1)),(w64 (r29-1)),(List.set (List.set s19.2.2 r24.toNat x30) r29.toNat x31)))
noncomputable def Zp (b:Int) (c:Int) (d:Int) (e:(Int→Int→Option Int)) (m0_0:(List Int)):Option ((Int×(List Int))⊕(Int×(List Int))):=
 (ZF m0_0 d).bind fun x0=>
 (ZF m0_0 b).bind fun x1=>
 (ZF (List.set m0_0 b.toNat x0) d).bind fun x2=>
 (lp (Zat b c d m0_0 e x0 x1) (w64 (b+1))).bind fun r7=>
 (lp (Zas b d m0_0 e x0 x1 r7) (w64 (c-1))).bind fun r12=>
 bif (decide (r12<r7)) then
  (ZF (List.set (List.set m0_0 b.toNat x0) d.toNat x1) b).bind fun x13=>
  (ZF (List.set (List.set m0_0 b.toNat x0) d.toNat x1) r12).bind fun x14=>
  (ZF (List.set (List.set (List.set m0_0 b.toNat x0) d.toNat x1) r12.toNat x13) b).bind fun x15=>
  some (.inl (r12,(List.set (List.set (List.set (List.set m0_0 b.toNat x0) d.toNat x1) r12.toNat x13) b.toNat x14)))
 else
  (ZF (List.set (List.set m0_0 b.toNat x0) d.toNat x1) r12).bind fun x16=>
  (ZF (List.set (List.set m0_0 b.toNat x0) d.toNat x1) r7).bind fun x17=>
  (ZF (List.set (List.set (List.set m0_0 b.toNat x0) d.toNat x1) r7.toNat x16) r12).bind fun x18=>
  (lp (ZaS b e) ((w64 (r7+1)),(w64 (r12-1)),(List.set (List.set (List.set (List.set m0_0 b.toNat x0) d.toNat x1) r7.toNat x16) r12.toNat x17))).bind fun r33=>
  (ZF r33.2 b).bind fun x34=>
  (ZF r33.2 r33.1).bind fun x35=>
  (ZF (List.set r33.2 r33.1.toNat x34) b).bind fun x36=>
  some (.inr (r33.1,(List.set (List.set r33.2 r33.1.toNat x34) b.toNat x35)))
noncomputable def Zaa (b:Int) (e:(Int→Int→Option Int)) (s3:Int×Int×(List Int)) (s4:Int):Option (Int⊕Int):=
 bif (decide (s4≤s3.2.1)) then
  (ZF s3.2.2 b).bind fun x5=>
  (ZF s3.2.2 s4).bind fun x6=>
  (e x5 x6).bind fun x7=>
  bif (decide (x7<0)) then
   some (.inr s4)
  else
   some (.inl (w64 (s4+1)))
 else
  some (.inr s4)
noncomputable def Zab (b:Int) (e:(Int→Int→Option Int)) (s3:Int×Int×(List Int)) (r8:Int) (s9:Int):Option (Int⊕Int):=
 bif (decide (r8≤s9)) then
  (ZF s3.2.2 b).bind fun x10=>
  (ZF s3.2.2 s9).bind fun x11=>
  (e x10 x11).bind fun x12=>
  bif (decide (x12<0)) then
   some (.inl (w64 (s9-1)))
  else
   some (.inr s9)
 else
  some (.inr s9)
noncomputable def Zar (b:Int) (e:(Int→Int→Option Int)) (s3:Int×Int×(List Int)):Option ((Int×Int×(List Int))⊕(Int×(List Int))):=
 (lp (Zaa b e s3) s3.1).bind fun r8=>
 (lp (Zab b e s3 r8) s3.2.1).bind fun r13=>
 bif (decide (r13<r8)) then
  some (.inr (r8,s3.2.2))
 else
  (ZF s3.2.2 r13).bind fun x14=>
  (ZF s3.2.2 r8).bind fun x15=>
  (ZF (List.set s3.2.2 r8.toNat x14) r13).bind fun x16=>
  some (.inl ((w64 (r8+1)),(w64 (r13-1)),(List.set (List.set s3.2.2 r8.toNat x14) r13.toNat x15)))
noncomputable def ZB (b:Int) (c:Int) (d:Int) (e:(Int→Int→Option Int)) (m0_0:(List Int)):Option (Int×(List Int)):=
 (ZF m0_0 d).bind fun x0=>
 (ZF m0_0 b).bind fun x1=>
 (ZF (List.set m0_0 b.toNat x0) d).bind fun x2=>
 (lp (Zar b e) ((w64 (b+1)),(w64 (c-1)),(List.set (List.set m0_0 b.toNat x0) d.toNat x1))).bind fun r17=>
 some (r17.1,r17.2)
noncomputable def Zb7 (a:Int):Option Int:=
 (ZdC (IntKind.u64.wrap a)).bind fun x0=>
 bif (decide (x0<0)) then
  none
 else
  some (IntKind.u64.wrap (1*2 ^ (min (x0).toNat IntKind.u64.bits)))
noncomputable def Zc0:Option Unit:=
 some ()
noncomputable def ZaA (b:Int) (c:Int) (x0:Int) (s1:Int×(List Int)×Int):Option ((Int×(List Int)×Int)⊕(List Int)):=
 bif (decide (s1.1≤(w64 ((w64 (b+(w64 ((w64 (Int.tdiv (w64 (c-b)) 4))*2))))+1)))) then
  Zc0.bind fun x2=>
  bif (decide ((w64 (c-b))≤(w64 (IntKind.u64.wrap (BitVec.ofInt IntKind.u64.bits (IntKind.u64.wrap (BitVec.ofInt IntKind.u64.bits (IntKind.u64.wrap (BitVec.ofInt IntKind.u64.bits (IntKind.u64.wrap (BitVec.ofInt IntKind.u64.bits s1.2.2 ^^^ BitVec.ofInt IntKind.u64.bits (IntKind.u64.wrap (s1.2.2*2 ^ 13))).toNat) ^^^ BitVec.ofInt IntKind.u64.bits (Int.fdiv (IntKind.u64.wrap (BitVec.ofInt IntKind.u64.bits s1.2.2 ^^^ BitVec.ofInt IntKind.u64.bits (IntKind.u64.wrap (s1.2.2*2 ^ 13))).toNat) (2 ^ 7))).toNat) ^^^ BitVec.ofInt IntKind.u64.bits (IntKind.u64.wrap ((IntKind.u64.wrap (BitVec.ofInt IntKind.u64.bits (IntKind.u64.wrap (BitVec.ofInt IntKind.u64.bits s1.2.2 ^^^ BitVec.ofInt IntKind.u64.bits (IntKind.u64.wrap (s1.2.2*2 ^ 13))).toNat) ^^^ BitVec.ofInt IntKind.u64.bits (Int.fdiv (IntKind.u64.wrap (BitVec.ofInt IntKind.u64.bits s1.2.2 ^^^ BitVec.ofInt IntKind.u64.bits (IntKind.u64.wrap (s1.2.2*2 ^ 13))).toNat) (2 ^ 7))).toNat)*2 ^ 17))).toNat) &&& BitVec.ofInt IntKind.u64.bits (IntKind.u64.wrap (x0-1))).toNat)))) then
   (ZF s1.2.1 (w64 (b+(w64 ((w64 (IntKind.u64.wrap (BitVec.ofInt IntKind.u64.bits (IntKind.u64.wrap (BitVec.ofInt IntKind.u64.bits (IntKind.u64.wrap (BitVec.ofInt IntKind.u64.bits (IntKind.u64.wrap (BitVec.ofInt IntKind.u64.bits s1.2.2 ^^^ BitVec.ofInt IntKind.u64.bits (IntKind.u64.wrap (s1.2.2*2 ^ 13))).toNat) ^^^ BitVec.ofInt IntKind.u64.bits (Int.fdiv (IntKind.u64.wrap (BitVec.ofInt IntKind.u64.bits s1.2.2 ^^^ BitVec.ofInt IntKind.u64.bits (IntKind.u64.wrap (s1.2.2*2 ^ 13))).toNat) (2 ^ 7))).toNat) ^^^ BitVec.ofInt IntKind.u64.bits (IntKind.u64.wrap ((IntKind.u64.wrap (BitVec.ofInt IntKind.u64.bits (IntKind.u64.wrap (BitVec.ofInt IntKind.u64.bits s1.2.2 ^^^ BitVec.ofInt IntKind.u64.bits (IntKind.u64.wrap (s1.2.2*2 ^ 13))).toNat) ^^^ BitVec.ofInt IntKind.u64.bits (Int.fdiv (IntKind.u64.wrap (BitVec.ofInt IntKind.u64.bits s1.2.2 ^^^ BitVec.ofInt IntKind.u64.bits (IntKind.u64.wrap (s1.2.2*2 ^ 13))).toNat) (2 ^ 7))).toNat)*2 ^ 17))).toNat) &&& BitVec.ofInt IntKind.u64.bits (IntKind.u64.wrap (x0-1))).toNat))-(w64 (c-b))))))).bind fun x3=>
   (ZF s1.2.1 s1.1).bind fun x4=>
   (ZF (List.set s1.2.1 s1.1.toNat x3) (w64 (b+(w64 ((w64 (IntKind.u64.wrap (BitVec.ofInt IntKind.u64.bits (IntKind.u64.wrap (BitVec.ofInt IntKind.u64.bits (IntKind.u64.wrap (BitVec.ofInt IntKind.u64.bits (IntKind.u64.wrap (BitVec.ofInt IntKind.u64.bits s1.2.2 ^^^ BitVec.ofInt IntKind.u64.bits (IntKind.u64.wrap (s1.2.2*2 ^ 13))).toNat) ^^^ BitVec.ofInt IntKind.u64.bits (Int.fdiv (IntKind.u64.wrap (BitVec.ofInt IntKind.u64.bits s1.2.2 ^^^ BitVec.ofInt IntKind.u64.bits (IntKind.u64.wrap (s1.2.2*2 ^ 13))).toNat) (2 ^ 7))).toNat) ^^^ BitVec.ofInt IntKind.u64.bits (IntKind.u64.wrap ((IntKind.u64.wrap (BitVec.ofInt IntKind.u64.bits (IntKind.u64.wrap (BitVec.ofInt IntKind.u64.bits s1.2.2 ^^^ BitVec.ofInt IntKind.u64.bits (IntKind.u64.wrap (s1.2.2*2 ^ 13))).toNat) ^^^ BitVec.ofInt IntKind.u64.bits (Int.fdiv (IntKind.u64.wrap (BitVec.ofInt IntKind.u64.bits s1.2.2 ^^^ BitVec.ofInt IntKind.u64.bits (IntKind.u64.wrap (s1.2.2*2 ^ 13))).toNat) (2 ^ 7))).toNat)*2 ^ 17))).toNat) &&& BitVec.ofInt IntKind.u64.bits (IntKind.u64.wrap (x0-1))).toNat))-(w64 (c-b))))))).bind fun x5=>
   some (.inl ((w64 (s1.1+1)),(List.set (List.set s1.2.1 s1.1.toNat x3) (w64 (b+(w64 ((w64 (IntKind.u64.wrap (BitVec.ofInt IntKind.u64.bits (IntKind.u64.wrap (BitVec.ofInt IntKind.u64.bits (IntKind.u64.wrap (BitVec.ofInt IntKind.u64.bits (IntKind.u64.wrap (BitVec.ofInt IntKind.u64.bits s1.2.2 ^^^ BitVec.ofInt IntKind.u64.bits (IntKind.u64.wrap (s1.2.2*2 ^ 13))).toNat) ^^^ BitVec.ofInt IntKind.u64.bits (Int.fdiv (IntKind.u64.wrap (BitVec.ofInt IntKind.u64.bits s1.2.2 ^^^ BitVec.ofInt IntKind.u64.bits (IntKind.u64.wrap (s1.2.2*2 ^ 13))).toNat) (2 ^ 7))).toNat) ^^^ BitVec.ofInt IntKind.u64.bits (IntKind.u64.wrap ((IntKind.u64.wrap (BitVec.ofInt IntKind.u64.bits (IntKind.u64.wrap (BitVec.ofInt IntKind.u64.bits s1.2.2 ^^^ BitVec.ofInt IntKind.u64.bits (IntKind.u64.wrap (s1.2.2*2 ^ 13))).toNat) ^^^ BitVec.ofInt IntKind.u64.bits (Int.fdiv (IntKind.u64.wrap (BitVec.ofInt IntKind.u64.bits s1.2.2 ^^^ BitVec.ofInt IntKind.u64.bits (IntKind.u64.wrap (s1.2.2*2 ^ 13))).toNat) (2 ^ 7))).toNat)*2 ^ 17))).toNat) &&& BitVec.ofInt IntKind.u64.bits (IntKind.u64.wrap (x0-1))).toNat))-(w64 (c-b)))))).toNat x4),(IntKind.u64.wrap (BitVec.ofInt IntKind.u64.bits (IntKind.u64.wrap (BitVec.ofInt IntKind.u64.bits (IntKind.u64.wrap (BitVec.ofInt IntKind.u64.bits s1.2.2 ^^^ BitVec.ofInt IntKind.u64.bits (IntKind.u64.wrap (s1.2.2*2 ^ 13))).toNat) ^^^ BitVec.ofInt IntKind.u64.bits (Int.fdiv (IntKind.u64.wrap (BitVec.ofInt IntKind.u64.bits s1.2.2 ^^^ BitVec.ofInt IntKind.u64.bits (IntKind.u64.wrap (s1.2.2*2 ^ 13))).toNat) (2 ^ 7))).toNat) ^^^ BitVec.ofInt IntKind.u64.bits (IntKind.u64.wrap ((IntKind.u64.wrap (BitVec.ofInt IntKind.u64.bits (IntKind.u64.wrap (BitVec.ofInt IntKind.u64.bits s1.2.2 ^^^ BitVec.ofInt IntKind.u64.bits (IntKind.u64.wrap (s1.2.2*2 ^ 13))).toNat) ^^^ BitVec.ofInt IntKind.u64.bits (Int.fdiv (IntKind.u64.wrap (BitVec.ofInt IntKind.u64.bits s1.2.2 ^^^ BitVec.ofInt IntKind.u64.bits (IntKind.u64.wrap (s1.2.2*2 ^ 13))).toNat) (2 ^ 7))).toNat)*2 ^ 17))).toNat)))
  else
   (ZF s1.2.1 (w64 (b+(w64 (IntKind.u64.wrap (BitVec.ofInt IntKind.u64.bits (IntKind.u64.wrap (BitVec.ofInt IntKind.u64.bits (IntKind.u64.wrap (BitVec.ofInt IntKind.u64.bits (IntKind.u64.wrap (BitVec.ofInt IntKind.u64.bits s1.2.2 ^^^ BitVec.ofInt IntKind.u64.bits (IntKind.u64.wrap (s1.2.2*2 ^ 13))).toNat) ^^^ BitVec.ofInt IntKind.u64.bits (Int.fdiv (IntKind.u64.wrap (BitVec.ofInt IntKind.u64.bits s1.2.2 ^^^ BitVec.ofInt IntKind.u64.bits (IntKind.u64.wrap (s1.2.2*2 ^ 13))).toNat) (2 ^ 7))).toNat) ^^^ BitVec.ofInt IntKind.u64.bits (IntKind.u64.wrap ((IntKind.u64.wrap (BitVec.ofInt IntKind.u64.bits (IntKind.u64.wrap (BitVec.ofInt IntKind.u64.bits s1.2.2 ^^^ BitVec.ofInt IntKind.u64.bits (IntKind.u64.wrap (s1.2.2*2 ^ 13))).toNat) ^^^ BitVec.ofInt IntKind.u64.bits (Int.fdiv (IntKind.u64.wrap (BitVec.ofInt IntKind.u64.bits s1.2.2 ^^^ BitVec.ofInt IntKind.u64.bits (IntKind.u64.wrap (s1.2.2*2 ^ 13))).toNat) (2 ^ 7))).toNat)*2 ^ 17))).toNat) &&& BitVec.ofInt IntKind.u64.bits (IntKind.u64.wrap (x0-1))).toNat))))).bind fun x6=>
   (ZF s1.2.1 s1.1).bind fun x7=>
   (ZF (List.set s1.2.1 s1.1.toNat x6) (w64 (b+(w64 (IntKind.u64.wrap (BitVec.ofInt IntKind.u64.bits (IntKind.u64.wrap (BitVec.ofInt IntKind.u64.bits (IntKind.u64.wrap (BitVec.ofInt IntKind.u64.bits (IntKind.u64.wrap (BitVec.ofInt IntKind.u64.bits s1.2.2 ^^^ BitVec.ofInt IntKind.u64.bits (IntKind.u64.wrap (s1.2.2*2 ^ 13))).toNat) ^^^ BitVec.ofInt IntKind.u64.bits (Int.fdiv (IntKind.u64.wrap (BitVec.ofInt IntKind.u64.bits s1.2.2 ^^^ BitVec.ofInt IntKind.u64.bits (IntKind.u64.wrap (s1.2.2*2 ^ 13))).toNat) (2 ^ 7))).toNat) ^^^ BitVec.ofInt IntKind.u64.bits (IntKind.u64.wrap ((IntKind.u64.wrap (BitVec.ofInt IntKind.u64.bits (IntKind.u64.wrap (BitVec.ofInt IntKind.u64.bits s1.2.2 ^^^ BitVec.ofInt IntKind.u64.bits (IntKind.u64.wrap (s1.2.2*2 ^ 13))).toNat) ^^^ BitVec.ofInt IntKind.u64.bits (Int.fdiv (IntKind.u64.wrap (BitVec.ofInt IntKind.u64.bits s1.2.2 ^^^ BitVec.ofInt IntKind.u64.bits (IntKind.u64.wrap (s1.2.2*2 ^ 13))).toNat) (2 ^ 7))).toNat)*2 ^ 17))).toNat) &&& BitVec.ofInt IntKind.u64.bits (IntKind.u64.wrap (x0-1))).toNat))))).bind fun x8=>
   some (.inl ((w64 (s1.1+1)),(List.set (List.set s1.2.1 s1.1.toNat x6) (w64 (b+(w64 (IntKind.u64.wrap (BitVec.ofInt IntKind.u64.bits (IntKind.u64.wrap (BitVec.ofInt IntKind.u64.bits (IntKind.u64.wrap (BitVec.ofInt IntKind.u64.bits (IntKind.u64.wrap (BitVec.ofInt IntKind.u64.bits s1.2.2 ^^^ BitVec.ofInt IntKind.u64.bits (IntKind.u64.wrap (s1.2.2*2 ^ 13))).toNat) ^^^ BitVec.ofInt IntKind.u64.bits (Int.fdiv (IntKind.u64.wrap (BitVec.ofInt IntKind.u64.bits s1.2.2 ^^^ BitVec.ofInt IntKind.u64.bits (IntKind.u64.wrap (s1.2.2*2 ^ 13))).toNat) (2 ^ 7))).toNat) ^^^ BitVec.ofInt IntKind.u64.bits (IntKind.u64.wrap ((IntKind.u64.wrap (BitVec.ofInt IntKind.u64.bits (IntKind.u64.wrap (BitVec.ofInt IntKind.u64.bits s1.2.2 ^^^ BitVec.ofInt IntKind.u64.bits (IntKind.u64.wrap (s1.2.2*2 ^ 13))).toNat) ^^^ BitVec.ofInt IntKind.u64.bits (Int.fdiv (IntKind.u64.wrap (BitVec.ofInt IntKind.u64.bits s1.2.2 ^^^ BitVec.ofInt IntKind.u64.bits (IntKind.u64.wrap (s1.2.2*2 ^ 13))).toNat) (2 ^ 7))).toNat)*2 ^ 17))).toNat) &&& BitVec.ofInt IntKind.u64.bits (IntKind.u64.wrap (x0-1))).toNat)))).toNat x7),(IntKind.u64.wrap (BitVec.ofInt IntKind.u64.bits (IntKind.u64.wrap (BitVec.ofInt IntKind.u64.bits (IntKind.u64.wrap (BitVec.ofInt IntKind.u64.bits s1.2.2 ^^^ BitVec.ofInt IntKind.u64.bits (IntKind.u64.wrap (s1.2.2*2 ^ 13))).toNat) ^^^ BitVec.ofInt IntKind.u64.bits (Int.fdiv (IntKind.u64.wrap (BitVec.ofInt IntKind.u64.bits s1.2.2 ^^^ BitVec.ofInt IntKind.u64.bits (IntKind.u64.wrap (s1.2.2*2 ^ 13))).toNat) (2 ^ 7))).toNat) ^^^ BitVec.ofInt IntKind.u64.bits (IntKind.u64.wrap ((IntKind.u64.wrap (BitVec.ofInt IntKind.u64.bits (IntKind.u64.wrap (BitVec.ofInt IntKind.u64.bits s1.2.2 ^^^ BitVec.ofInt IntKind.u64.bits (IntKind.u64.wrap (s1.2.2*2 ^ 13))).toNat) ^^^ BitVec.ofInt IntKind.u64.bits (Int.fdiv (IntKind.u64.wrap (BitVec.ofInt IntKind.u64.bits s1.2.2 ^^^ BitVec.ofInt IntKind.u64.bits (IntKind.u64.wrap (s1.2.2*2 ^ 13))).toNat) (2 ^ 7))).toNat)*2 ^ 17))).toNat)))
 else
  some (.inr s1.2.1)
noncomputable def Z7 (b:Int) (c:Int) (d:(Int→Int→Option Int)) (m0_0:(List Int)):Option (List Int):=
 bif (decide (8≤(w64 (c-b)))) then
  (Zb7 (w64 (c-b))).bind fun x0=>
  (lp (ZaA b c x0) ((w64 ((w64 (b+(w64 ((w64 (Int.tdiv (w64 (c-b)) 4))*2))))-1)),m0_0,(IntKind.u64.wrap (w64 (c-b))))).bind fun r9=>
  some r9
 else
  some m0_0
noncomputable def ZN (e:(Int→Int→Option Int)) (rc:Int→Int→Int→(Int→Int→Option Int)→(List Int)→Option (List Int)) (s0:Int×Int×Int×Bool×Bool×(List Int)):Option ((Int×Int×Int×Bool×Bool×(List Int))⊕(List Int)):=
 bif s0.2.2.2.1 then
  bif s0.2.2.2.2.1 then
   bif (decide ((w64 (s0.2.1-s0.1))≤12)) then
    (ZR s0.1 s0.2.1 e s0.2.2.2.2.2).bind fun x1=>
    some (.inr x1)
   else
    bif (s0.2.2.1==0) then
     (Z3 s0.1 s0.2.1 e s0.2.2.2.2.2).bind fun x2=>
     some (.inr x2)
    else
     (ZL s0.1 s0.2.1 e s0.2.2.2.2.2).bind fun x3=>
     bif (x3.2==2) then
      (ZJ s0.1 s0.2.1 e s0.2.2.2.2.2).bind fun x4=>
      (ZM s0.1 s0.2.1 e x4).bind fun x5=>
      match x5 with
      | (.inl x5)=>
       some (.inr x5)
      | (.inr x5)=>
       bif (decide (0<s0.1)) then
        (ZF x5 (w64 (s0.1-1))).bind fun x6=>
        (ZF x5 (w64 ((w64 (s0.2.1-1))-(w64 (x3.1-s0.1))))).bind fun x7=>
        (e x6 x7).bind fun x8=>
        bif (decide (x8<0)) then
         (Zp s0.1 s0.2.1 (w64 ((w64 (s0.2.1-1))-(w64 (x3.1-s0.1)))) e x5).bind fun x9=>
         match x9 with
         | (.inl x9)=>
          bif (decide ((w64 (x9.1-s0.1))<(w64 (s0.2.1-x9.1)))) then
           bif (decide ((w64 (Int.tdiv (w64 (s0.2.1-s0.1)) 8))≤(w64 (x9.1-s0.1)))) then
            (rc s0.1 x9.1 s0.2.2.1 e x9.2).bind fun x10=>
            some (.inl ((w64 (x9.1+1)),s0.2.1,s0.2.2.1,true,true,x10))
           else
            (rc s0.1 x9.1 s0.2.2.1 e x9.2).bind fun x11=>
            some (.inl ((w64 (x9.1+1)),s0.2.1,s0.2.2.1,false,true,x11))
          else
           bif (decide ((w64 (Int.tdiv (w64 (s0.2.1-s0.1)) 8))≤(w64 (s0.2.1-x9.1)))) then
            (rc (w64 (x9.1+1)) s0.2.1 s0.2.2.1 e x9.2).bind fun x12=>
            some (.inl (s0.1,x9.1,s0.2.2.1,true,true,x12))
           else
            (rc (w64 (x9.1+1)) s0.2.1 s0.2.2.1 e x9.2).bind fun x13=>
            some (.inl (s0.1,x9.1,s0.2.2.1,false,true,x13))
         | (.inr x9)=>
          bif (decide ((w64 (x9.1-s0.1))<(w64 (s0.2.1-x9.1)))) then
           bif (decide ((w64 (Int.tdiv (w64 (s0.2.1-s0.1)) 8))≤(w64 (x9.1-s0.1)))) then
            (rc s0.1 x9.1 s0.2.2.1 e x9.2).bind fun x14=>
            some (.inl ((w64 (x9.1+1)),s0.2.1,s0.2.2.1,true,false,x14))
           else
            (rc s0.1 x9.1 s0.2.2.1 e x9.2).bind fun x15=>
            some (.inl ((w64 (x9.1+1)),s0.2.1,s0.2.2.1,false,false,x15))
          else
           bif (decide ((w64 (Int.tdiv (w64 (s0.2.1-s0.1)) 8))≤(w64 (s0.2.1-x9.1)))) then
            (rc (w64 (x9.1+1)) s0.2.1 s0.2.2.1 e x9.2).bind fun x16=>
            some (.inl (s0.1,x9.1,s0.2.2.1,true,false,x16))
           else
            (rc (w64 (x9.1+1)) s0.2.1 s0.2.2.1 e x9.2).bind fun x17=>
            some (.inl (s0.1,x9.1,s0.2.2.1,false,false,x17))
        else
         (ZB s0.1 s0.2.1 (w64 ((w64 (s0.2.1-1))-(w64 (x3.1-s0.1)))) e x5).bind fun x18=>
         some (.inl (x18.1,s0.2.1,s0.2.2.1,true,true,x18.2))
       else
        (Zp s0.1 s0.2.1 (w64 ((w64 (s0.2.1-1))-(w64 (x3.1-s0.1)))) e x5).bind fun x19=>
        match x19 with
        | (.inl x19)=>
         bif (decide ((w64 (x19.1-s0.1))<(w64 (s0.2.1-x19.1)))) then
          bif (decide ((w64 (Int.tdiv (w64 (s0.2.1-s0.1)) 8))≤(w64 (x19.1-s0.1)))) then
           (rc s0.1 x19.1 s0.2.2.1 e x19.2).bind fun x20=>
           some (.inl ((w64 (x19.1+1)),s0.2.1,s0.2.2.1,true,true,x20))
          else
           (rc s0.1 x19.1 s0.2.2.1 e x19.2).bind fun x21=>
           some (.inl ((w64 (x19.1+1)),s0.2.1,s0.2.2.1,false,true,x21))
         else
          bif (decide ((w64 (Int.tdiv (w64 (s0.2.1-s0.1)) 8))≤(w64 (s0.2.1-x19.1)))) then
           (rc (w64 (x19.1+1)) s0.2.1 s0.2.2.1 e x19.2).bind fun x22=>
           some (.inl (s0.1,x19.1,s0.2.2.1,true,true,x22))
          else
           (rc (w64 (x19.1+1)) s0.2.1 s0.2.2.1 e x19.2).bind fun x23=>
           some (.inl (s0.1,x19.1,s0.2.2.1,false,true,x23))
        | (.inr x19)=>
         bif (decide ((w64 (x19.1-s0.1))<(w64 (s0.2.1-x19.1)))) then
          bif (decide ((w64 (Int.tdiv (w64 (s0.2.1-s0.1)) 8))≤(w64 (x19.1-s0.1)))) then
           (rc s0.1 x19.1 s0.2.2.1 e x19.2).bind fun x24=>
           some (.inl ((w64 (x19.1+1)),s0.2.1,s0.2.2.1,true,false,x24))
          else
           (rc s0.1 x19.1 s0.2.2.1 e x19.2).bind fun x25=>
           some (.inl ((w64 (x19.1+1)),s0.2.1,s0.2.2.1,false,false,x25))
         else
          bif (decide ((w64 (Int.tdiv (w64 (s0.2.1-s0.1)) 8))≤(w64 (s0.2.1-x19.1)))) then
           (rc (w64 (x19.1+1)) s0.2.1 s0.2.2.1 e x19.2).bind fun x26=>
           some (.inl (s0.1,x19.1,s0.2.2.1,true,false,x26))
          else
           (rc (w64 (x19.1+1)) s0.2.1 s0.2.2.1 e x19.2).bind fun x27=>
           some (.inl (s0.1,x19.1,s0.2.2.1,false,false,x27))
     else
      bif (x3.2==1) then
       (ZM s0.1 s0.2.1 e s0.2.2.2.2.2).bind fun x28=>
       match x28 with
       | (.inl x28)=>
        some (.inr x28)
       | (.inr x28)=>
        bif (decide (0<s0.1)) then
         (ZF x28 (w64 (s0.1-1))).bind fun x29=>
         (ZF x28 x3.1).bind fun x30=>
         (e x29 x30).bind fun x31=>
         bif (decide (x31<0)) then
          (Zp s0.1 s0.2.1 x3.1 e x28).bind fun x32=>
          match x32 with
          | (.inl x32)=>
           bif (decide ((w64 (x32.1-s0.1))<(w64 (s0.2.1-x32.1)))) then
            bif (decide ((w64 (Int.tdiv (w64 (s0.2.1-s0.1)) 8))≤(w64 (x32.1-s0.1)))) then
             (rc s0.1 x32.1 s0.2.2.1 e x32.2).bind fun x33=>
             some (.inl ((w64 (x32.1+1)),s0.2.1,s0.2.2.1,true,true,x33))
            else
             (rc s0.1 x32.1 s0.2.2.1 e x32.2).bind fun x34=>
             some (.inl ((w64 (x32.1+1)),s0.2.1,s0.2.2.1,false,true,x34))
           else
            bif (decide ((w64 (Int.tdiv (w64 (s0.2.1-s0.1)) 8))≤(w64 (s0.2.1-x32.1)))) then
             (rc (w64 (x32.1+1)) s0.2.1 s0.2.2.1 e x32.2).bind fun x35=>
             some (.inl (s0.1,x32.1,s0.2.2.1,true,true,x35))
            else
             (rc (w64 (x32.1+1)) s0.2.1 s0.2.2.1 e x32.2).bind fun x36=>
             some (.inl (s0.1,x32.1,s0.2.2.1,false,true,x36))
          | (.inr x32)=>
           bif (decide ((w64 (x32.1-s0.1))<(w64 (s0.2.1-x32.1)))) then
            bif (decide ((w64 (Int.tdiv (w64 (s0.2.1-s0.1)) 8))≤(w64 (x32.1-s0.1)))) then
             (rc s0.1 x32.1 s0.2.2.1 e x32.2).bind fun x37=>
             some (.inl ((w64 (x32.1+1)),s0.2.1,s0.2.2.1,true,false,x37))
            else
             (rc s0.1 x32.1 s0.2.2.1 e x32.2).bind fun x38=>
             some (.inl ((w64 (x32.1+1)),s0.2.1,s0.2.2.1,false,false,x38))
           else
            bif (decide ((w64 (Int.tdiv (w64 (s0.2.1-s0.1)) 8))≤(w64 (s0.2.1-x32.1)))) then
             (rc (w64 (x32.1+1)) s0.2.1 s0.2.2.1 e x32.2).bind fun x39=>
             some (.inl (s0.1,x32.1,s0.2.2.1,true,false,x39))
            else
             (rc (w64 (x32.1+1)) s0.2.1 s0.2.2.1 e x32.2).bind fun x40=>
             some (.inl (s0.1,x32.1,s0.2.2.1,false,false,x40))
         else
          (ZB s0.1 s0.2.1 x3.1 e x28).bind fun x41=>
          some (.inl (x41.1,s0.2.1,s0.2.2.1,true,true,x41.2))
        else
         (Zp s0.1 s0.2.1 x3.1 e x28).bind fun x42=>
         match x42 with
         | (.inl x42)=>
          bif (decide ((w64 (x42.1-s0.1))<(w64 (s0.2.1-x42.1)))) then
           bif (decide ((w64 (Int.tdiv (w64 (s0.2.1-s0.1)) 8))≤(w64 (x42.1-s0.1)))) then
            (rc s0.1 x42.1 s0.2.2.1 e x42.2).bind fun x43=>
            some (.inl ((w64 (x42.1+1)),s0.2.1,s0.2.2.1,true,true,x43))
           else
            (rc s0.1 x42.1 s0.2.2.1 e x42.2).bind fun x44=>
            some (.inl ((w64 (x42.1+1)),s0.2.1,s0.2.2.1,false,true,x44))
          else
           bif (decide ((w64 (Int.tdiv (w64 (s0.2.1-s0.1)) 8))≤(w64 (s0.2.1-x42.1)))) then
            (rc (w64 (x42.1+1)) s0.2.1 s0.2.2.1 e x42.2).bind fun x45=>
            some (.inl (s0.1,x42.1,s0.2.2.1,true,true,x45))
           else
            (rc (w64 (x42.1+1)) s0.2.1 s0.2.2.1 e x42.2).bind fun x46=>
            some (.inl (s0.1,x42.1,s0.2.2.1,false,true,x46))
         | (.inr x42)=>
          bif (decide ((w64 (x42.1-s0.1))<(w64 (s0.2.1-x42.1)))) then
           bif (decide ((w64 (Int.tdiv (w64 (s0.2.1-s0.1)) 8))≤(w64 (x42.1-s0.1)))) then
            (rc s0.1 x42.1 s0.2.2.1 e x42.2).bind fun x47=>
            some (.inl ((w64 (x42.1+1)),s0.2.1,s0.2.2.1,true,false,x47))
           else
            (rc s0.1 x42.1 s0.2.2.1 e x42.2).bind fun x48=>
            some (.inl ((w64 (x42.1+1)),s0.2.1,s0.2.2.1,false,false,x48))
          else
           bif (decide ((w64 (Int.tdiv (w64 (s0.2.1-s0.1)) 8))≤(w64 (s0.2.1-x42.1)))) then
            (rc (w64 (x42.1+1)) s0.2.1 s0.2.2.1 e x42.2).bind fun x49=>
            some (.inl (s0.1,x42.1,s0.2.2.1,true,false,x49))
           else
            (rc (w64 (x42.1+1)) s0.2.1 s0.2.2.1 e x42.2).bind fun x50=>
            some (.inl (s0.1,x42.1,s0.2.2.1,false,false,x50))
      else
       bif (decide (0<s0.1)) then
        (ZF s0.2.2.2.2.2 (w64 (s0.1-1))).bind fun x51=>
        (ZF s0.2.2.2.2.2 x3.1).bind fun x52=>
        (e x51 x52).bind fun x53=>
        bif (decide (x53<0)) then
         (Zp s0.1 s0.2.1 x3.1 e s0.2.2.2.2.2).bind fun x54=>
         match x54 with
         | (.inl x54)=>
          bif (decide ((w64 (x54.1-s0.1))<(w64 (s0.2.1-x54.1)))) then
           bif (decide ((w64 (Int.tdiv (w64 (s0.2.1-s0.1)) 8))≤(w64 (x54.1-s0.1)))) then
            (rc s0.1 x54.1 s0.2.2.1 e x54.2).bind fun x55=>
            some (.inl ((w64 (x54.1+1)),s0.2.1,s0.2.2.1,true,true,x55))
           else
            (rc s0.1 x54.1 s0.2.2.1 e x54.2).bind fun x56=>
            some (.inl ((w64 (x54.1+1)),s0.2.1,s0.2.2.1,false,true,x56))
          else
           bif (decide ((w64 (Int.tdiv (w64 (s0.2.1-s0.1)) 8))≤(w64 (s0.2.1-x54.1)))) then
            (rc (w64 (x54.1+1)) s0.2.1 s0.2.2.1 e x54.2).bind fun x57=>
            some (.inl (s0.1,x54.1,s0.2.2.1,true,true,x57))
           else
            (rc (w64 (x54.1+1)) s0.2.1 s0.2.2.1 e x54.2).bind fun x58=>
            some (.inl (s0.1,x54.1,s0.2.2.1,false,true,x58))
         | (.inr x54)=>
          bif (decide ((w64 (x54.1-s0.1))<(w64 (s0.2.1-x54.1)))) then
           bif (decide ((w64 (Int.tdiv (w64 (s0.2.1-s0.1)) 8))≤(w64 (x54.1-s0.1)))) then
            (rc s0.1 x54.1 s0.2.2.1 e x54.2).bind fun x59=>
            some (.inl ((w64 (x54.1+1)),s0.2.1,s0.2.2.1,true,false,x59))
           else
            (rc s0.1 x54.1 s0.2.2.1 e x54.2).bind fun x60=>
            some (.inl ((w64 (x54.1+1)),s0.2.1,s0.2.2.1,false,false,x60))
          else
           bif (decide ((w64 (Int.tdiv (w64 (s0.2.1-s0.1)) 8))≤(w64 (s0.2.1-x54.1)))) then
            (rc (w64 (x54.1+1)) s0.2.1 s0.2.2.1 e x54.2).bind fun x61=>
            some (.inl (s0.1,x54.1,s0.2.2.1,true,false,x61))
           else
            (rc (w64 (x54.1+1)) s0.2.1 s0.2.2.1 e x54.2).bind fun x62=>
            some (.inl (s0.1,x54.1,s0.2.2.1,false,false,x62))
        else
         (ZB s0.1 s0.2.1 x3.1 e s0.2.2.2.2.2).bind fun x63=>
         some (.inl (x63.1,s0.2.1,s0.2.2.1,true,true,x63.2))
       else
        (Zp s0.1 s0.2.1 x3.1 e s0.2.2.2.2.2).bind fun x64=>
        match x64 with
        | (.inl x64)=>
         bif (decide ((w64 (x64.1-s0.1))<(w64 (s0.2.1-x64.1)))) then
          bif (decide ((w64 (Int.tdiv (w64 (s0.2.1-s0.1)) 8))≤(w64 (x64.1-s0.1)))) then
           (rc s0.1 x64.1 s0.2.2.1 e x64.2).bind fun x65=>
           some (.inl ((w64 (x64.1+1)),s0.2.1,s0.2.2.1,true,true,x65))
          else
           (rc s0.1 x64.1 s0.2.2.1 e x64.2).bind fun x66=>
           some (.inl ((w64 (x64.1+1)),s0.2.1,s0.2.2.1,false,true,x66))
         else
          bif (decide ((w64 (Int.tdiv (w64 (s0.2.1-s0.1)) 8))≤(w64 (s0.2.1-x64.1)))) then
           (rc (w64 (x64.1+1)) s0.2.1 s0.2.2.1 e x64.2).bind fun x67=>
           some (.inl (s0.1,x64.1,s0.2.2.1,true,true,x67))
          else
           (rc (w64 (x64.1+1)) s0.2.1 s0.2.2.1 e x64.2).bind fun x68=>
           some (.inl (s0.1,x64.1,s0.2.2.1,false,true,x68))
        | (.inr x64)=>
         bif (decide ((w64 (x64.1-s0.1))<(w64 (s0.2.1-x64.1)))) then
          bif (decide ((w64 (Int.tdiv (w64 (s0.2.1-s0.1)) 8))≤(w64 (x64.1-s0.1)))) then
           (rc s0.1 x64.1 s0.2.2.1 e x64.2).bind fun x69=>
           some (.inl ((w64 (x64.1+1)),s0.2.1,s0.2.2.1,true,false,x69))
          else
           (rc s0.1 x64.1 s0.2.2.1 e x64.2).bind fun x70=>
           some (.inl ((w64 (x64.1+1)),s0.2.1,s0.2.2.1,false,false,x70))
         else
          bif (decide ((w64 (Int.tdiv (w64 (s0.2.1-s0.1)) 8))≤(w64 (s0.2.1-x64.1)))) then
           (rc (w64 (x64.1+1)) s0.2.1 s0.2.2.1 e x64.2).bind fun x71=>
           some (.inl (s0.1,x64.1,s0.2.2.1,true,false,x71))
          else
           (rc (w64 (x64.1+1)) s0.2.1 s0.2.2.1 e x64.2).bind fun x72=>
           some (.inl (s0.1,x64.1,s0.2.2.1,false,false,x72))
  else
   bif (decide ((w64 (s0.2.1-s0.1))≤12)) then
    (ZR s0.1 s0.2.1 e s0.2.2.2.2.2).bind fun x73=>
    some (.inr x73)
   else
    bif (s0.2.2.1==0) then
     (Z3 s0.1 s0.2.1 e s0.2.2.2.2.2).bind fun x74=>
     some (.inr x74)
    else
     (ZL s0.1 s0.2.1 e s0.2.2.2.2.2).bind fun x75=>
     bif (x75.2==2) then
      (ZJ s0.1 s0.2.1 e s0.2.2.2.2.2).bind fun x76=>
      bif (decide (0<s0.1)) then
       (ZF x76 (w64 (s0.1-1))).bind fun x77=>
       (ZF x76 (w64 ((w64 (s0.2.1-1))-(w64 (x75.1-s0.1))))).bind fun x78=>
       (e x77 x78).bind fun x79=>
       bif (decide (x79<0)) then
        (Zp s0.1 s0.2.1 (w64 ((w64 (s0.2.1-1))-(w64 (x75.1-s0.1)))) e x76).bind fun x80=>
        match x80 with
        | (.inl x80)=>
         bif (decide ((w64 (x80.1-s0.1))<(w64 (s0.2.1-x80.1)))) then
          bif (decide ((w64 (Int.tdiv (w64 (s0.2.1-s0.1)) 8))≤(w64 (x80.1-s0.1)))) then
           (rc s0.1 x80.1 s0.2.2.1 e x80.2).bind fun x81=>
           some (.inl ((w64 (x80.1+1)),s0.2.1,s0.2.2.1,true,true,x81))
          else
           (rc s0.1 x80.1 s0.2.2.1 e x80.2).bind fun x82=>
           some (.inl ((w64 (x80.1+1)),s0.2.1,s0.2.2.1,false,true,x82))
         else
          bif (decide ((w64 (Int.tdiv (w64 (s0.2.1-s0.1)) 8))≤(w64 (s0.2.1-x80.1)))) then
           (rc (w64 (x80.1+1)) s0.2.1 s0.2.2.1 e x80.2).bind fun x83=>
           some (.inl (s0.1,x80.1,s0.2.2.1,true,true,x83))
          else
           (rc (w64 (x80.1+1)) s0.2.1 s0.2.2.1 e x80.2).bind fun x84=>
           some (.inl (s0.1,x80.1,s0.2.2.1,false,true,x84))
        | (.inr x80)=>
         bif (decide ((w64 (x80.1-s0.1))<(w64 (s0.2.1-x80.1)))) then
          bif (decide ((w64 (Int.tdiv (w64 (s0.2.1-s0.1)) 8))≤(w64 (x80.1-s0.1)))) then
           (rc s0.1 x80.1 s0.2.2.1 e x80.2).bind fun x85=>
           some (.inl ((w64 (x80.1+1)),s0.2.1,s0.2.2.1,true,false,x85))
          else
           (rc s0.1 x80.1 s0.2.2.1 e x80.2).bind fun x86=>
           some (.inl ((w64 (x80.1+1)),s0.2.1,s0.2.2.1,false,false,x86))
         else
          bif (decide ((w64 (Int.tdiv (w64 (s0.2.1-s0.1)) 8))≤(w64 (s0.2.1-x80.1)))) then
           (rc (w64 (x80.1+1)) s0.2.1 s0.2.2.1 e x80.2).bind fun x87=>
           some (.inl (s0.1,x80.1,s0.2.2.1,true,false,x87))
          else
           (rc (w64 (x80.1+1)) s0.2.1 s0.2.2.1 e x80.2).bind fun x88=>
           some (.inl (s0.1,x80.1,s0.2.2.1,false,false,x88))
       else
        (ZB s0.1 s0.2.1 (w64 ((w64 (s0.2.1-1))-(w64 (x75.1-s0.1)))) e x76).bind fun x89=>
        some (.inl (x89.1,s0.2.1,s0.2.2.1,true,false,x89.2))
      else
       (Zp s0.1 s0.2.1 (w64 ((w64 (s0.2.1-1))-(w64 (x75.1-s0.1)))) e x76).bind fun x90=>
       match x90 with
       | (.inl x90)=>
        bif (decide ((w64 (x90.1-s0.1))<(w64 (s0.2.1-x90.1)))) then
         bif (decide ((w64 (Int.tdiv (w64 (s0.2.1-s0.1)) 8))≤(w64 (x90.1-s0.1)))) then
          (rc s0.1 x90.1 s0.2.2.1 e x90.2).bind fun x91=>
          some (.inl ((w64 (x90.1+1)),s0.2.1,s0.2.2.1,true,true,x91))
         else
          (rc s0.1 x90.1 s0.2.2.1 e x90.2).bind fun x92=>
          some (.inl ((w64 (x90.1+1)),s0.2.1,s0.2.2.1,false,true,x92))
        else
         bif (decide ((w64 (Int.tdiv (w64 (s0.2.1-s0.1)) 8))≤(w64 (s0.2.1-x90.1)))) then
          (rc (w64 (x90.1+1)) s0.2.1 s0.2.2.1 e x90.2).bind fun x93=>
          some (.inl (s0.1,x90.1,s0.2.2.1,true,true,x93))
         else
          (rc (w64 (x90.1+1)) s0.2.1 s0.2.2.1 e x90.2).bind fun x94=>
          some (.inl (s0.1,x90.1,s0.2.2.1,false,true,x94))
       | (.inr x90)=>
        bif (decide ((w64 (x90.1-s0.1))<(w64 (s0.2.1-x90.1)))) then
         bif (decide ((w64 (Int.tdiv (w64 (s0.2.1-s0.1)) 8))≤(w64 (x90.1-s0.1)))) then
          (rc s0.1 x90.1 s0.2.2.1 e x90.2).bind fun x95=>
          some (.inl ((w64 (x90.1+1)),s0.2.1,s0.2.2.1,true,false,x95))
         else
          (rc s0.1 x90.1 s0.2.2.1 e x90.2).bind fun x96=>
          some (.inl ((w64 (x90.1+1)),s0.2.1,s0.2.2.1,false,false,x96))
        else
         bif (decide ((w64 (Int.tdiv (w64 (s0.2.1-s0.1)) 8))≤(w64 (s0.2.1-x90.1)))) then
          (rc (w64 (x90.1+1)) s0.2.1 s0.2.2.1 e x90.2).bind fun x97=>
          some (.inl (s0.1,x90.1,s0.2.2.1,true,false,x97))
         else
          (rc (w64 (x90.1+1)) s0.2.1 s0.2.2.1 e x90.2).bind fun x98=>
          some (.inl (s0.1,x90.1,s0.2.2.1,false,false,x98))
     else
      bif (decide (0<s0.1)) then
       (ZF s0.2.2.2.2.2 (w64 (s0.1-1))).bind fun x99=>
       (ZF s0.2.2.2.2.2 x75.1).bind fun x100=>
       (e x99 x100).bind fun x101=>
       bif (decide (x101<0)) then
        (Zp s0.1 s0.2.1 x75.1 e s0.2.2.2.2.2).bind fun x102=>
        match x102 with
        | (.inl x102)=>
         bif (decide ((w64 (x102.1-s0.1))<(w64 (s0.2.1-x102.1)))) then
          bif (decide ((w64 (Int.tdiv (w64 (s0.2.1-s0.1)) 8))≤(w64 (x102.1-s0.1)))) then
           (rc s0.1 x102.1 s0.2.2.1 e x102.2).bind fun x103=>
           some (.inl ((w64 (x102.1+1)),s0.2.1,s0.2.2.1,true,true,x103))
          else
           (rc s0.1 x102.1 s0.2.2.1 e x102.2).bind fun x104=>
           some (.inl ((w64 (x102.1+1)),s0.2.1,s0.2.2.1,false,true,x104))
         else
          bif (decide ((w64 (Int.tdiv (w64 (s0.2.1-s0.1)) 8))≤(w64 (s0.2.1-x102.1)))) then
           (rc (w64 (x102.1+1)) s0.2.1 s0.2.2.1 e x102.2).bind fun x105=>
           some (.inl (s0.1,x102.1,s0.2.2.1,true,true,x105))
          else
           (rc (w64 (x102.1+1)) s0.2.1 s0.2.2.1 e x102.2).bind fun x106=>
           some (.inl (s0.1,x102.1,s0.2.2.1,false,true,x106))
        | (.inr x102)=>
         bif (decide ((w64 (x102.1-s0.1))<(w64 (s0.2.1-x102.1)))) then
          bif (decide ((w64 (Int.tdiv (w64 (s0.2.1-s0.1)) 8))≤(w64 (x102.1-s0.1)))) then
           (rc s0.1 x102.1 s0.2.2.1 e x102.2).bind fun x107=>
           some (.inl ((w64 (x102.1+1)),s0.2.1,s0.2.2.1,true,false,x107))
          else
           (rc s0.1 x102.1 s0.2.2.1 e x102.2).bind fun x108=>
           some (.inl ((w64 (x102.1+1)),s0.2.1,s0.2.2.1,false,false,x108))
         else
          bif (decide ((w64 (Int.tdiv (w64 (s0.2.1-s0.1)) 8))≤(w64 (s0.2.1-x102.1)))) then
           (rc (w64 (x102.1+1)) s0.2.1 s0.2.2.1 e x102.2).bind fun x109=>
           some (.inl (s0.1,x102.1,s0.2.2.1,true,false,x109))
          else
           (rc (w64 (x102.1+1)) s0.2.1 s0.2.2.1 e x102.2).bind fun x110=>
           some (.inl (s0.1,x102.1,s0.2.2.1,false,false,x110))
       else
        (ZB s0.1 s0.2.1 x75.1 e s0.2.2.2.2.2).bind fun x111=>
        some (.inl (x111.1,s0.2.1,s0.2.2.1,true,false,x111.2))
      else
       (Zp s0.1 s0.2.1 x75.1 e s0.2.2.2.2.2).bind fun x112=>
       match x112 with
       | (.inl x112)=>
        bif (decide ((w64 (x112.1-s0.1))<(w64 (s0.2.1-x112.1)))) then
         bif (decide ((w64 (Int.tdiv (w64 (s0.2.1-s0.1)) 8))≤(w64 (x112.1-s0.1)))) then
          (rc s0.1 x112.1 s0.2.2.1 e x112.2).bind fun x113=>
          some (.inl ((w64 (x112.1+1)),s0.2.1,s0.2.2.1,true,true,x113))
         else
          (rc s0.1 x112.1 s0.2.2.1 e x112.2).bind fun x114=>
          some (.inl ((w64 (x112.1+1)),s0.2.1,s0.2.2.1,false,true,x114))
        else
         bif (decide ((w64 (Int.tdiv (w64 (s0.2.1-s0.1)) 8))≤(w64 (s0.2.1-x112.1)))) then
          (rc (w64 (x112.1+1)) s0.2.1 s0.2.2.1 e x112.2).bind fun x115=>
          some (.inl (s0.1,x112.1,s0.2.2.1,true,true,x115))
         else
          (rc (w64 (x112.1+1)) s0.2.1 s0.2.2.1 e x112.2).bind fun x116=>
          some (.inl (s0.1,x112.1,s0.2.2.1,false,true,x116))
       | (.inr x112)=>
        bif (decide ((w64 (x112.1-s0.1))<(w64 (s0.2.1-x112.1)))) then
         bif (decide ((w64 (Int.tdiv (w64 (s0.2.1-s0.1)) 8))≤(w64 (x112.1-s0.1)))) then
          (rc s0.1 x112.1 s0.2.2.1 e x112.2).bind fun x117=>
          some (.inl ((w64 (x112.1+1)),s0.2.1,s0.2.2.1,true,false,x117))
         else
          (rc s0.1 x112.1 s0.2.2.1 e x112.2).bind fun x118=>
          some (.inl ((w64 (x112.1+1)),s0.2.1,s0.2.2.1,false,false,x118))
        else
         bif (decide ((w64 (Int.tdiv (w64 (s0.2.1-s0.1)) 8))≤(w64 (s0.2.1-x112.1)))) then
          (rc (w64 (x112.1+1)) s0.2.1 s0.2.2.1 e x112.2).bind fun x119=>
          some (.inl (s0.1,x112.1,s0.2.2.1,true,false,x119))
         else
          (rc (w64 (x112.1+1)) s0.2.1 s0.2.2.1 e x112.2).bind fun x120=>
          some (.inl (s0.1,x112.1,s0.2.2.1,false,false,x120))
 else
  bif s0.2.2.2.2.1 then
   bif (decide ((w64 (s0.2.1-s0.1))≤12)) then
    (ZR s0.1 s0.2.1 e s0.2.2.2.2.2).bind fun x121=>
    some (.inr x121)
   else
    bif (s0.2.2.1==0) then
     (Z3 s0.1 s0.2.1 e s0.2.2.2.2.2).bind fun x122=>
     some (.inr x122)
    else
     (Z7 s0.1 s0.2.1 e s0.2.2.2.2.2).bind fun x123=>
     (ZL s0.1 s0.2.1 e x123).bind fun x124=>
     bif (x124.2==2) then
      (ZJ s0.1 s0.2.1 e x123).bind fun x125=>
      bif (decide (0<s0.1)) then
       (ZF x125 (w64 (s0.1-1))).bind fun x126=>
       (ZF x125 (w64 ((w64 (s0.2.1-1))-(w64 (x124.1-s0.1))))).bind fun x127=>
       (e x126 x127).bind fun x128=>
       bif (decide (x128<0)) then
        (Zp s0.1 s0.2.1 (w64 ((w64 (s0.2.1-1))-(w64 (x124.1-s0.1)))) e x125).bind fun x129=>
        match x129 with
        | (.inl x129)=>
         bif (decide ((w64 (x129.1-s0.1))<(w64 (s0.2.1-x129.1)))) then
          bif (decide ((w64 (Int.tdiv (w64 (s0.2.1-s0.1)) 8))≤(w64 (x129.1-s0.1)))) then
           (rc s0.1 x129.1 (w64 (s0.2.2.1-1)) e x129.2).bind fun x130=>
           some (.inl ((w64 (x129.1+1)),s0.2.1,(w64 (s0.2.2.1-1)),true,true,x130))
          else
           (rc s0.1 x129.1 (w64 (s0.2.2.1-1)) e x129.2).bind fun x131=>
           some (.inl ((w64 (x129.1+1)),s0.2.1,(w64 (s0.2.2.1-1)),false,true,x131))
         else
          bif (decide ((w64 (Int.tdiv (w64 (s0.2.1-s0.1)) 8))≤(w64 (s0.2.1-x129.1)))) then
           (rc (w64 (x129.1+1)) s0.2.1 (w64 (s0.2.2.1-1)) e x129.2).bind fun x132=>
           some (.inl (s0.1,x129.1,(w64 (s0.2.2.1-1)),true,true,x132))
          else
           (rc (w64 (x129.1+1)) s0.2.1 (w64 (s0.2.2.1-1)) e x129.2).bind fun x133=>
           some (.inl (s0.1,x129.1,(w64 (s0.2.2.1-1)),false,true,x133))
        | (.inr x129)=>
         bif (decide ((w64 (x129.1-s0.1))<(w64 (s0.2.1-x129.1)))) then
          bif (decide ((w64 (Int.tdiv (w64 (s0.2.1-s0.1)) 8))≤(w64 (x129.1-s0.1)))) then
           (rc s0.1 x129.1 (w64 (s0.2.2.1-1)) e x129.2).bind fun x134=>
           some (.inl ((w64 (x129.1+1)),s0.2.1,(w64 (s0.2.2.1-1)),true,false,x134))
          else
           (rc s0.1 x129.1 (w64 (s0.2.2.1-1)) e x129.2).bind fun x135=>
           some (.inl ((w64 (x129.1+1)),s0.2.1,(w64 (s0.2.2.1-1)),false,false,x135))
         else
          bif (decide ((w64 (Int.tdiv (w64 (s0.2.1-s0.1)) 8))≤(w64 (s0.2.1-x129.1)))) then
           (rc (w64 (x129.1+1)) s0.2.1 (w64 (s0.2.2.1-1)) e x129.2).bind fun x136=>
           some (.inl (s0.1,x129.1,(w64 (s0.2.2.1-1)),true,false,x136))
          else
           (rc (w64 (x129.1+1)) s0.2.1 (w64 (s0.2.2.1-1)) e x129.2).bind fun x137=>
           some (.inl (s0.1,x129.1,(w64 (s0.2.2.1-1)),false,false,x137))
       else
        (ZB s0.1 s0.2.1 (w64 ((w64 (s0.2.1-1))-(w64 (x124.1-s0.1)))) e x125).bind fun x138=>
        some (.inl (x138.1,s0.2.1,(w64 (s0.2.2.1-1)),false,true,x138.2))
      else
       (Zp s0.1 s0.2.1 (w64 ((w64 (s0.2.1-1))-(w64 (x124.1-s0.1)))) e x125).bind fun x139=>
       match x139 with
       | (.inl x139)=>
        bif (decide ((w64 (x139.1-s0.1))<(w64 (s0.2.1-x139.1)))) then
         bif (decide ((w64 (Int.tdiv (w64 (s0.2.1-s0.1)) 8))≤(w64 (x139.1-s0.1)))) then
          (rc s0.1 x139.1 (w64 (s0.2.2.1-1)) e x139.2).bind fun x140=>
          some (.inl ((w64 (x139.1+1)),s0.2.1,(w64 (s0.2.2.1-1)),true,true,x140))
         else
          (rc s0.1 x139.1 (w64 (s0.2.2.1-1)) e x139.2).bind fun x141=>
          some (.inl ((w64 (x139.1+1)),s0.2.1,(w64 (s0.2.2.1-1)),false,true,x141))
        else
         bif (decide ((w64 (Int.tdiv (w64 (s0.2.1-s0.1)) 8))≤(w64 (s0.2.1-x139.1)))) then
          (rc (w64 (x139.1+1)) s0.2.1 (w64 (s0.2.2.1-1)) e x139.2).bind fun x142=>
          some (.inl (s0.1,x139.1,(w64 (s0.2.2.1-1)),true,true,x142))
         else
          (rc (w64 (x139.1+1)) s0.2.1 (w64 (s0.2.2.1-1)) e x139.2).bind fun x143=>
          some (.inl (s0.1,x139.1,(w64 (s0.2.2.1-1)),false,true,x143))
       | (.inr x139)=>
        bif (decide ((w64 (x139.1-s0.1))<(w64 (s0.2.1-x139.1)))) then
         bif (decide ((w64 (Int.tdiv (w64 (s0.2.1-s0.1)) 8))≤(w64 (x139.1-s0.1)))) then
          (rc s0.1 x139.1 (w64 (s0.2.2.1-1)) e x139.2).bind fun x144=>
          some (.inl ((w64 (x139.1+1)),s0.2.1,(w64 (s0.2.2.1-1)),true,false,x144))
         else
          (rc s0.1 x139.1 (w64 (s0.2.2.1-1)) e x139.2).bind fun x145=>
          some (.inl ((w64 (x139.1+1)),s0.2.1,(w64 (s0.2.2.1-1)),false,false,x145))
        else
         bif (decide ((w64 (Int.tdiv (w64 (s0.2.1-s0.1)) 8))≤(w64 (s0.2.1-x139.1)))) then
          (rc (w64 (x139.1+1)) s0.2.1 (w64 (s0.2.2.1-1)) e x139.2).bind fun x146=>
          some (.inl (s0.1,x139.1,(w64 (s0.2.2.1-1)),true,false,x146))
         else
          (rc (w64 (x139.1+1)) s0.2.1 (w64 (s0.2.2.1-1)) e x139.2).bind fun x147=>
          some (.inl (s0.1,x139.1,(w64 (s0.2.2.1-1)),false,false,x147))
     else
      bif (decide (0<s0.1)) then
       (ZF x123 (w64 (s0.1-1))).bind fun x148=>
       (ZF x123 x124.1).bind fun x149=>
       (e x148 x149).bind fun x150=>
       bif (decide (x150<0)) then
        (Zp s0.1 s0.2.1 x124.1 e x123).bind fun x151=>
        match x151 with
        | (.inl x151)=>
         bif (decide ((w64 (x151.1-s0.1))<(w64 (s0.2.1-x151.1)))) then
          bif (decide ((w64 (Int.tdiv (w64 (s0.2.1-s0.1)) 8))≤(w64 (x151.1-s0.1)))) then
           (rc s0.1 x151.1 (w64 (s0.2.2.1-1)) e x151.2).bind fun x152=>
           some (.inl ((w64 (x151.1+1)),s0.2.1,(w64 (s0.2.2.1-1)),true,true,x152))
          else
           (rc s0.1 x151.1 (w64 (s0.2.2.1-1)) e x151.2).bind fun x153=>
           some (.inl ((w64 (x151.1+1)),s0.2.1,(w64 (s0.2.2.1-1)),false,true,x153))
         else
          bif (decide ((w64 (Int.tdiv (w64 (s0.2.1-s0.1)) 8))≤(w64 (s0.2.1-x151.1)))) then
           (rc (w64 (x151.1+1)) s0.2.1 (w64 (s0.2.2.1-1)) e x151.2).bind fun x154=>
           some (.inl (s0.1,x151.1,(w64 (s0.2.2.1-1)),true,true,x154))
          else
           (rc (w64 (x151.1+1)) s0.2.1 (w64 (s0.2.2.1-1)) e x151.2).bind fun x155=>
           some (.inl (s0.1,x151.1,(w64 (s0.2.2.1-1)),false,true,x155))
        | (.inr x151)=>
         bif (decide ((w64 (x151.1-s0.1))<(w64 (s0.2.1-x151.1)))) then
          bif (decide ((w64 (Int.tdiv (w64 (s0.2.1-s0.1)) 8))≤(w64 (x151.1-s0.1)))) then
           (rc s0.1 x151.1 (w64 (s0.2.2.1-1)) e x151.2).bind fun x156=>
           some (.inl ((w64 (x151.1+1)),s0.2.1,(w64 (s0.2.2.1-1)),true,false,x156))
          else
           (rc s0.1 x151.1 (w64 (s0.2.2.1-1)) e x151.2).bind fun x157=>
           some (.inl ((w64 (x151.1+1)),s0.2.1,(w64 (s0.2.2.1-1)),false,false,x157))
         else
          bif (decide ((w64 (Int.tdiv (w64 (s0.2.1-s0.1)) 8))≤(w64 (s0.2.1-x151.1)))) then
           (rc (w64 (x151.1+1)) s0.2.1 (w64 (s0.2.2.1-1)) e x151.2).bind fun x158=>
           some (.inl (s0.1,x151.1,(w64 (s0.2.2.1-1)),true,false,x158))
          else
           (rc (w64 (x151.1+1)) s0.2.1 (w64 (s0.2.2.1-1)) e x151.2).bind fun x159=>
           some (.inl (s0.1,x151.1,(w64 (s0.2.2.1-1)),false,false,x159))
       else
        (ZB s0.1 s0.2.1 x124.1 e x123).bind fun x160=>
        some (.inl (x160.1,s0.2.1,(w64 (s0.2.2.1-1)),false,true,x160.2))
      else
       (Zp s0.1 s0.2.1 x124.1 e x123).bind fun x161=>
       match x161 with
       | (.inl x161)=>
        bif (decide ((w64 (x161.1-s0.1))<(w64 (s0.2.1-x161.1)))) then
         bif (decide ((w64 (Int.tdiv (w64 (s0.2.1-s0.1)) 8))≤(w64 (x161.1-s0.1)))) then
          (rc s0.1 x161.1 (w64 (s0.2.2.1-1)) e x161.2).bind fun x162=>
          some (.inl ((w64 (x161.1+1)),s0.2.1,(w64 (s0.2.2.1-1)),true,true,x162))
         else
          (rc s0.1 x161.1 (w64 (s0.2.2.1-1)) e x161.2).bind fun x163=>
          some (.inl ((w64 (x161.1+1)),s0.2.1,(w64 (s0.2.2.1-1)),false,true,x163))
        else
         bif (decide ((w64 (Int.tdiv (w64 (s0.2.1-s0.1)) 8))≤(w64 (s0.2.1-x161.1)))) then
          (rc (w64 (x161.1+1)) s0.2.1 (w64 (s0.2.2.1-1)) e x161.2).bind fun x164=>
          some (.inl (s0.1,x161.1,(w64 (s0.2.2.1-1)),true,true,x164))
         else
          (rc (w64 (x161.1+1)) s0.2.1 (w64 (s0.2.2.1-1)) e x161.2).bind fun x165=>
          some (.inl (s0.1,x161.1,(w64 (s0.2.2.1-1)),false,true,x165))
       | (.inr x161)=>
        bif (decide ((w64 (x161.1-s0.1))<(w64 (s0.2.1-x161.1)))) then
         bif (decide ((w64 (Int.tdiv (w64 (s0.2.1-s0.1)) 8))≤(w64 (x161.1-s0.1)))) then
          (rc s0.1 x161.1 (w64 (s0.2.2.1-1)) e x161.2).bind fun x166=>
          some (.inl ((w64 (x161.1+1)),s0.2.1,(w64 (s0.2.2.1-1)),true,false,x166))
         else
          (rc s0.1 x161.1 (w64 (s0.2.2.1-1)) e x161.2).bind fun x167=>
          some (.inl ((w64 (x161.1+1)),s0.2.1,(w64 (s0.2.2.1-1)),false,false,x167))
        else
         bif (decide ((w64 (Int.tdiv (w64 (s0.2.1-s0.1)) 8))≤(w64 (s0.2.1-x161.1)))) then
          (rc (w64 (x161.1+1)) s0.2.1 (w64 (s0.2.2.1-1)) e x161.2).bind fun x168=>
          some (.inl (s0.1,x161.1,(w64 (s0.2.2.1-1)),true,false,x168))
         else
          (rc (w64 (x161.1+1)) s0.2.1 (w64 (s0.2.2.1-1)) e x161.2).bind fun x169=>
          some (.inl (s0.1,x161.1,(w64 (s0.2.2.1-1)),false,false,x169))
  else
   bif (decide ((w64 (s0.2.1-s0.1))≤12)) then
    (ZR s0.1 s0.2.1 e s0.2.2.2.2.2).bind fun x170=>
    some (.inr x170)
   else
    bif (s0.2.2.1==0) then
     (Z3 s0.1 s0.2.1 e s0.2.2.2.2.2).bind fun x171=>
     some (.inr x171)
    else
     (Z7 s0.1 s0.2.1 e s0.2.2.2.2.2).bind fun x172=>
     (ZL s0.1 s0.2.1 e x172).bind fun x173=>
     bif (x173.2==2) then
      (ZJ s0.1 s0.2.1 e x172).bind fun x174=>
      bif (decide (0<s0.1)) then
       (ZF x174 (w64 (s0.1-1))).bind fun x175=>
       (ZF x174 (w64 ((w64 (s0.2.1-1))-(w64 (x173.1-s0.1))))).bind fun x176=>
       (e x175 x176).bind fun x177=>
       bif (decide (x177<0)) then
        (Zp s0.1 s0.2.1 (w64 ((w64 (s0.2.1-1))-(w64 (x173.1-s0.1)))) e x174).bind fun x178=>
        match x178 with
        | (.inl x178)=>
         bif (decide ((w64 (x178.1-s0.1))<(w64 (s0.2.1-x178.1)))) then
          bif (decide ((w64 (Int.tdiv (w64 (s0.2.1-s0.1)) 8))≤(w64 (x178.1-s0.1)))) then
           (rc s0.1 x178.1 (w64 (s0.2.2.1-1)) e x178.2).bind fun x179=>
           some (.inl ((w64 (x178.1+1)),s0.2.1,(w64 (s0.2.2.1-1)),true,true,x179))
          else
           (rc s0.1 x178.1 (w64 (s0.2.2.1-1)) e x178.2).bind fun x180=>
           some (.inl ((w64 (x178.1+1)),s0.2.1,(w64 (s0.2.2.1-1)),false,true,x180))
         else
          bif (decide ((w64 (Int.tdiv (w64 (s0.2.1-s0.1)) 8))≤(w64 (s0.2.1-x178.1)))) then
           (rc (w64 (x178.1+1)) s0.2.1 (w64 (s0.2.2.1-1)) e x178.2).bind fun x181=>
           some (.inl (s0.1,x178.1,(w64 (s0.2.2.1-1)),true,true,x181))
          else
           (rc (w64 (x178.1+1)) s0.2.1 (w64 (s0.2.2.1-1)) e x178.2).bind fun x182=>
           some (.inl (s0.1,x178.1,(w64 (s0.2.2.1-1)),false,true,x182))
        | (.inr x178)=>
         bif (decide ((w64 (x178.1-s0.1))<(w64 (s0.2.1-x178.1)))) then
          bif (decide ((w64 (Int.tdiv (w64 (s0.2.1-s0.1)) 8))≤(w64 (x178.1-s0.1)))) then
           (rc s0.1 x178.1 (w64 (s0.2.2.1-1)) e x178.2).bind fun x183=>
           some (.inl ((w64 (x178.1+1)),s0.2.1,(w64 (s0.2.2.1-1)),true,false,x183))
          else
           (rc s0.1 x178.1 (w64 (s0.2.2.1-1)) e x178.2).bind fun x184=>
           some (.inl ((w64 (x178.1+1)),s0.2.1,(w64 (s0.2.2.1-1)),false,false,x184))
         else
          bif (decide ((w64 (Int.tdiv (w64 (s0.2.1-s0.1)) 8))≤(w64 (s0.2.1-x178.1)))) then
           (rc (w64 (x178.1+1)) s0.2.1 (w64 (s0.2.2.1-1)) e x178.2).bind fun x185=>
           some (.inl (s0.1,x178.1,(w64 (s0.2.2.1-1)),true,false,x185))
          else
           (rc (w64 (x178.1+1)) s0.2.1 (w64 (s0.2.2.1-1)) e x178.2).bind fun x186=>
           some (.inl (s0.1,x178.1,(w64 (s0.2.2.1-1)),false,false,x186))
       else
        (ZB s0.1 s0.2.1 (w64 ((w64 (s0.2.1-1))-(w64 (x173.1-s0.1)))) e x174).bind fun x187=>
        some (.inl (x187.1,s0.2.1,(w64 (s0.2.2.1-1)),false,false,x187.2))
      else
       (Zp s0.1 s0.2.1 (w64 ((w64 (s0.2.1-1))-(w64 (x173.1-s0.1)))) e x174).bind fun x188=>
       match x188 with
       | (.inl x188)=>
        bif (decide ((w64 (x188.1-s0.1))<(w64 (s0.2.1-x188.1)))) then
         bif (decide ((w64 (Int.tdiv (w64 (s0.2.1-s0.1)) 8))≤(w64 (x188.1-s0.1)))) then
          (rc s0.1 x188.1 (w64 (s0.2.2.1-1)) e x188.2).bind fun x189=>
          some (.inl ((w64 (x188.1+1)),s0.2.1,(w64 (s0.2.2.1-1)),true,true,x189))
         else
          (rc s0.1 x188.1 (w64 (s0.2.2.1-1)) e x188.2).bind fun x190=>
          some (.inl ((w64 (x188.1+1)),s0.2.1,(w64 (s0.2.2.1-1)),false,true,x190))
        else
         bif (decide ((w64 (Int.tdiv (w64 (s0.2.1-s0.1)) 8))≤(w64 (s0.2.1-x188.1)))) then
          (rc (w64 (x188.1+1)) s0.2.1 (w64 (s0.2.2.1-1)) e x188.2).bind fun x191=>
          some (.inl (s0.1,x188.1,(w64 (s0.2.2.1-1)),true,true,x191))
         else
          (rc (w64 (x188.1+1)) s0.2.1 (w64 (s0.2.2.1-1)) e x188.2).bind fun x192=>
          some (.inl (s0.1,x188.1,(w64 (s0.2.2.1-1)),false,true,x192))
       | (.inr x188)=>
        bif (decide ((w64 (x188.1-s0.1))<(w64 (s0.2.1-x188.1)))) then
         bif (decide ((w64 (Int.tdiv (w64 (s0.2.1-s0.1)) 8))≤(w64 (x188.1-s0.1)))) then
          (rc s0.1 x188.1 (w64 (s0.2.2.1-1)) e x188.2).bind fun x193=>
          some (.inl ((w64 (x188.1+1)),s0.2.1,(w64 (s0.2.2.1-1)),true,false,x193))
         else
          (rc s0.1 x188.1 (w64 (s0.2.2.1-1)) e x188.2).bind fun x194=>
          some (.inl ((w64 (x188.1+1)),s0.2.1,(w64 (s0.2.2.1-1)),false,false,x194))
        else
         bif (decide ((w64 (Int.tdiv (w64 (s0.2.1-s0.1)) 8))≤(w64 (s0.2.1-x188.1)))) then
          (rc (w64 (x188.1+1)) s0.2.1 (w64 (s0.2.2.1-1)) e x188.2).bind fun x195=>
          some (.inl (s0.1,x188.1,(w64 (s0.2.2.1-1)),true,false,x195))
         else
          (rc (w64 (x188.1+1)) s0.2.1 (w64 (s0.2.2.1-1)) e x188.2).bind fun x196=>
          some (.inl (s0.1,x188.1,(w64 (s0.2.2.1-1)),false,false,x196))
     else
      bif (decide (0<s0.1)) then
       (ZF x172 (w64 (s0.1-1))).bind fun x197=>
       (ZF x172 x173.1).bind fun x198=>
       (e x197 x198).bind fun x199=>
       bif (decide (x199<0)) then
        (Zp s0.1 s0.2.1 x173.1 e x172).bind fun x200=>
        match x200 with
        | (.inl x200)=>
         bif (decide ((w64 (x200.1-s0.1))<(w64 (s0.2.1-x200.1)))) then
          bif (decide ((w64 (Int.tdiv (w64 (s0.2.1-s0.1)) 8))≤(w64 (x200.1-s0.1)))) then
           (rc s0.1 x200.1 (w64 (s0.2.2.1-1)) e x200.2).bind fun x201=>
           some (.inl ((w64 (x200.1+1)),s0.2.1,(w64 (s0.2.2.1-1)),true,true,x201))
          else
           (rc s0.1 x200.1 (w64 (s0.2.2.1-1)) e x200.2).bind fun x202=>
           some (.inl ((w64 (x200.1+1)),s0.2.1,(w64 (s0.2.2.1-1)),false,true,x202))
         else
          bif (decide ((w64 (Int.tdiv (w64 (s0.2.1-s0.1)) 8))≤(w64 (s0.2.1-x200.1)))) then
           (rc (w64 (x200.1+1)) s0.2.1 (w64 (s0.2.2.1-1)) e x200.2).bind fun x203=>
           some (.inl (s0.1,x200.1,(w64 (s0.2.2.1-1)),true,true,x203))
          else
           (rc (w64 (x200.1+1)) s0.2.1 (w64 (s0.2.2.1-1)) e x200.2).bind fun x204=>
           some (.inl (s0.1,x200.1,(w64 (s0.2.2.1-1)),false,true,x204))
        | (.inr x200)=>
         bif (decide ((w64 (x200.1-s0.1))<(w64 (s0.2.1-x200.1)))) then
          bif (decide ((w64 (Int.tdiv (w64 (s0.2.1-s0.1)) 8))≤(w64 (x200.1-s0.1)))) then
           (rc s0.1 x200.1 (w64 (s0.2.2.1-1)) e x200.2).bind fun x205=>
           some (.inl ((w64 (x200.1+1)),s0.2.1,(w64 (s0.2.2.1-1)),true,false,x205))
          else
           (rc s0.1 x200.1 (w64 (s0.2.2.1-1)) e x200.2).bind fun x206=>
           some (.inl ((w64 (x200.1+1)),s0.2.1,(w64 (s0.2.2.1-1)),false,false,x206))
         else
          bif (decide ((w64 (Int.tdiv (w64 (s0.2.1-s0.1)) 8))≤(w64 (s0.2.1-x200.1)))) then
           (rc (w64 (x200.1+1)) s0.2.1 (w64 (s0.2.2.1-1)) e x200.2).bind fun x207=>
           some (.inl (s0.1,x200.1,(w64 (s0.2.2.1-1)),true,false,x207))
          else
           (rc (w64 (x200.1+1)) s0.2.1 (w64 (s0.2.2.1-1)) e x200.2).bind fun x208=>
           some (.inl (s0.1,x200.1,(w64 (s0.2.2.1-1)),false,false,x208))
       else
        (ZB s0.1 s0.2.1 x173.1 e x172).bind fun x209=>
        some (.inl (x209.1,s0.2.1,(w64 (s0.2.2.1-1)),false,false,x209.2))
      else
       (Zp s0.1 s0.2.1 x173.1 e x172).bind fun x210=>
       match x210 with
       | (.inl x210)=>
        bif (decide ((w64 (x210.1-s0.1))<(w64 (s0.2.1-x210.1)))) then
         bif (decide ((w64 (Int.tdiv (w64 (s0.2.1-s0.1)) 8))≤(w64 (x210.1-s0.1)))) then
          (rc s0.1 x210.1 (w64 (s0.2.2.1-1)) e x210.2).bind fun x211=>
          some (.inl ((w64 (x210.1+1)),s0.2.1,(w64 (s0.2.2.1-1)),true,true,x211))
         else
          (rc s0.1 x210.1 (w64 (s0.2.2.1-1)) e x210.2).bind fun x212=>
          some (.inl ((w64 (x210.1+1)),s0.2.1,(w64 (s0.2.2.1-1)),false,true,x212))
        else
         bif (decide ((w64 (Int.tdiv (w64 (s0.2.1-s0.1)) 8))≤(w64 (s0.2.1-x210.1)))) then
          (rc (w64 (x210.1+1)) s0.2.1 (w64 (s0.2.2.1-1)) e x210.2).bind fun x213=>
          some (.inl (s0.1,x210.1,(w64 (s0.2.2.1-1)),true,true,x213))
         else
          (rc (w64 (x210.1+1)) s0.2.1 (w64 (s0.2.2.1-1)) e x210.2).bind fun x214=>
          some (.inl (s0.1,x210.1,(w64 (s0.2.2.1-1)),false,true,x214))
       | (.inr x210)=>
        bif (decide ((w64 (x210.1-s0.1))<(w64 (s0.2.1-x210.1)))) then
         bif (decide ((w64 (Int.tdiv (w64 (s0.2.1-s0.1)) 8))≤(w64 (x210.1-s0.1)))) then
          (rc s0.1 x210.1 (w64 (s0.2.2.1-1)) e x210.2).bind fun x215=>
          some (.inl ((w64 (x210.1+1)),s0.2.1,(w64 (s0.2.2.1-1)),true,false,x215))
         else
          (rc s0.1 x210.1 (w64 (s0.2.2.1-1)) e x210.2).bind fun x216=>
          some (.inl ((w64 (x210.1+1)),s0.2.1,(w64 (s0.2.2.1-1)),false,false,x216))
        else
         bif (decide ((w64 (Int.tdiv (w64 (s0.2.1-s0.1)) 8))≤(w64 (s0.2.1-x210.1)))) then
          (rc (w64 (x210.1+1)) s0.2.1 (w64 (s0.2.2.1-1)) e x210.2).bind fun x217=>
          some (.inl (s0.1,x210.1,(w64 (s0.2.2.1-1)),true,false,x217))
         else
          (rc (w64 (x210.1+1)) s0.2.1 (w64 (s0.2.2.1-1)) e x210.2).bind fun x218=>
          some (.inl (s0.1,x210.1,(w64 (s0.2.2.1-1)),false,false,x218))
noncomputable def Zao (rc:Int→Int→Int→(Int→Int→Option Int)→(List Int)→Option (List Int)) (b:Int) (c:Int) (d:Int) (e:(Int→Int→Option Int)) (m0_0:(List Int)):Option (List Int):=
 (lp (ZN e rc) (b,c,d,true,true,m0_0)).bind fun r219=>
 some r219
noncomputable def ZU:Nat→Int→Int→Int→(Int→Int→Option Int)→(List Int)→Option (List Int)
 | 0=>fun _ _ _ _ _=>none
 | n+1=>Zao (ZU n)
noncomputable def ZcZ (b:Int) (c:Int) (d:Int) (e:(Int→Int→Option Int)) (m0_0:(List Int)):Option (List Int):=ZsO fun n=>ZU n b c d e m0_0
noncomputable def ZaE (b:(Int→Int→Option Int)) (m0_0:(List Int)):Option (List Int):=
 (ZdC (IntKind.u64.wrap (m0_0.length:Int))).bind fun x0=>
 (ZcZ 0 (m0_0.length:Int) x0 b m0_0).bind fun x1=>
 some x1
noncomputable def ZcN (a:Zo) (b:Int) (s1:Int×(List Int)):Option ((Int×(List Int))⊕(List Int)):=
 bif (decide (s1.1<(a.futures.length:Int))) then
  (ZF a.futures s1.1).bind fun x2=>
  bif (x2.user==b) then
   bif (Nat.ble (List.length s1.2+1) lim) then
    some (.inl ((w64 (s1.1+1)),(s1.2++[s1.1])))
   else
    none
  else
   some (.inl ((w64 (s1.1+1)),s1.2))
 else
  some (.inr s1.2)
noncomputable def ZcE (a:Zo) (b:Int):Option (List Int):=
 (ZeE a).bind fun x0=>
 bif (x0 != 0) then
  some ([]:List Int)
 else
  (lp (ZcN a b) (0,([]:(List Int)))).bind fun r3=>
  (ZaE (fun z0 z1=>Zr z0 z1 a.futures) r3).bind fun x4=>
  some x4
noncomputable def Zaf (b:Zh) (c:Int) (m1_0:(List Int)) (m3_0:(List Zh)):Option Unit:=
 bif (Nat.ble (List.length m3_0+1) lim) then
  bif (Nat.ble (List.length m1_0+1) lim) then
   some ()
  else
   none
 else
  none
noncomputable def ZG (b:Int) (c:Int) (m2_0:(List Zm)):Option Unit:=
 bif (Nat.ble (List.length m2_0+1) lim) then
  some ()
 else
  none
noncomputable def Zy (b:Zo) (c:Int) (x0:(List Int)) (s14:Int×Int×(List (Int×Int))×(List (Zi×Int))×(List Int)×(List Zm)×(List Zh)):Option ((Int×Int×(List (Int×Int))×(List (Zi×Int))×(List Int)×(List Zm)×(List Zh))⊕((List (Int×Int))×(List (Zi×Int))×(List Int)×(List Zm)×(List Zh))):=
 bif (decide (s14.2.1<(w64 ((x0.length:Int)+1)))) then
  (ZF b.parts c).bind fun x15=>
  bif (decide (s14.2.1<(x0.length:Int))) then
   (ZF x0 s14.2.1).bind fun x16=>
   (ZF b.futures x16).bind fun x17=>
   (Zaf (Zh.mk c s14.2.1) (w64 (x17.pos-s14.1)) s14.2.2.2.2.1 s14.2.2.2.2.2.2).bind fun x18=>
   bif (decide (0<s14.2.1)) then
    (ZG (w64 ((Z2 (fun ka kb:Int=>(ka==kb)) (Zt (fun ka kb:Int=>(ka==kb)) s14.2.2.1 c (w64 ((List.length (s14.2.2.2.2.2.2++[(Zh.mk c s14.2.1)]):Int)-1))) c 0)-1)) (Z2 (fun ka kb:Int=>(ka==kb)) (Zt (fun ka kb:Int=>(ka==kb)) s14.2.2.1 c (w64 ((List.length (s14.2.2.2.2.2.2++[(Zh.mk c s14.2.1)]):Int)-1))) c 0) s14.2.2.2.2.2.1).bind fun x19=>
    (ZF x0 (w64 (s14.2.1-1))).bind fun x20=>
    (ZF b.futures x20).bind fun x21=>
    some (.inl (x17.pos,(w64 (s14.2.1+1)),(Zt (fun ka kb:Int=>(ka==kb)) s14.2.2.1 c (w64 ((List.length (s14.2.2.2.2.2.2++[(Zh.mk c s14.2.1)]):Int)-1))),(Zt (fun ka kb:Zi=>((ka.maker==kb.maker)&&((ka.user==kb.user)&&((ka.pos==kb.pos)&&true)))) s14.2.2.2.1 x21 (Z2 (fun ka kb:Int=>(ka==kb)) (Zt (fun ka kb:Int=>(ka==kb)) s14.2.2.1 c (w64 ((List.length (s14.2.2.2.2.2.2++[(Zh.mk c s14.2.1)]):Int)-1))) c 0)),(s14.2.2.2.2.1++[(w64 (x17.pos-s14.1))]),(s14.2.2.2.2.2.1++[(Zm.mk (w64 ((Z2 (fun ka kb:Int=>(ka==kb)) (Zt (fun ka kb:Int=>(ka==kb)) s14.2.2.1 c (w64 ((List.length (s14.2.2.2.2.2.2++[(Zh.mk c s14.2.1)]):Int)-1))) c 0)-1)) (Z2 (fun ka kb:Int=>(ka==kb)) (Zt (fun ka kb:Int=>(ka==kb)) s14.2.2.1 c (w64 ((List.length (s14.2.2.2.2.2.2++[(Zh.mk c s14.2.1)]):Int)-1))) c 0))]),(s14.2.2.2.2.2.2++[(Zh.mk c s14.2.1)])))
   else
    some (.inl (x17.pos,(w64 (s14.2.1+1)),(Zt (fun ka kb:Int=>(ka==kb)) s14.2.2.1 c (w64 ((List.length (s14.2.2.2.2.2.2++[(Zh.mk c s14.2.1)]):Int)-1))),s14.2.2.2.1,(s14.2.2.2.2.1++[(w64 (x17.pos-s14.1))]),s14.2.2.2.2.2.1,(s14.2.2.2.2.2.2++[(Zh.mk c s14.2.1)])))
  else
   (Zaf (Zh.mk c s14.2.1) (w64 (x15.work-s14.1)) s14.2.2.2.2.1 s14.2.2.2.2.2.2).bind fun x22=>
   bif (decide (0<s14.2.1)) then
    (ZG (w64 ((Z2 (fun ka kb:Int=>(ka==kb)) (Zt (fun ka kb:Int=>(ka==kb)) s14.2.2.1 c (w64 ((List.length (s14.2.2.2.2.2.2++[(Zh.mk c s14.2.1)]):Int)-1))) c 0)-1)) (Z2 (fun ka kb:Int=>(ka==kb)) (Zt (fun ka kb:Int=>(ka==kb)) s14.2.2.1 c (w64 ((List.length (s14.2.2.2.2.2.2++[(Zh.mk c s14.2.1)]):Int)-1))) c 0) s14.2.2.2.2.2.1).bind fun x23=>
    (ZF x0 (w64 (s14.2.1-1))).bind fun x24=>
    (ZF b.futures x24).bind fun x25=>
    some (.inl (x15.work,(w64 (s14.2.1+1)),(Zt (fun ka kb:Int=>(ka==kb)) s14.2.2.1 c (w64 ((List.length (s14.2.2.2.2.2.2++[(Zh.mk c s14.2.1)]):Int)-1))),(Zt (fun ka kb:Zi=>((ka.maker==kb.maker)&&((ka.user==kb.user)&&((ka.pos==kb.pos)&&true)))) s14.2.2.2.1 x25 (Z2 (fun ka kb:Int=>(ka==kb)) (Zt (fun ka kb:Int=>(ka==kb)) s14.2.2.1 c (w64 ((List.length (s14.2.2.2.2.2.2++[(Zh.mk c s14.2.1)]):Int)-1))) c 0)),(s14.2.2.2.2.1++[(w64 (x15.work-s14.1))]),(s14.2.2.2.2.2.1++[(Zm.mk (w64 ((Z2 (fun ka kb:Int=>(ka==kb)) (Zt (fun ka kb:Int=>(ka==kb)) s14.2.2.1 c (w64 ((List.length (s14.2.2.2.2.2.2++[(Zh.mk c s14.2.1)]):Int)-1))) c 0)-1)) (Z2 (fun ka kb:Int=>(ka==kb)) (Zt (fun ka kb:Int=>(ka==kb)) s14.2.2.1 c (w64 ((List.length (s14.2.2.2.2.2.2++[(Zh.mk c s14.2.1)]):Int)-1))) c 0))]),(s14.2.2.2.2.2.2++[(Zh.mk c s14.2.1)])))
   else
    some (.inl (x15.work,(w64 (s14.2.1+1)),(Zt (fun ka kb:Int=>(ka==kb)) s14.2.2.1 c (w64 ((List.length (s14.2.2.2.2.2.2++[(Zh.mk c s14.2.1)]):Int)-1))),s14.2.2.2.1,(s14.2.2.2.2.1++[(w64 (x15.work-s14.1))]),s14.2.2.2.2.2.1,(s14.2.2.2.2.2.2++[(Zh.mk c s14.2.1)])))
 else
  some (.inr (s14.2.2.1,s14.2.2.2.1,s14.2.2.2.2.1,s14.2.2.2.2.2.1,s14.2.2.2.2.2.2))
noncomputable def Zbi (b:Zo) (c:Int) (m1_0:(List Int)) (m2_0:(List Zm)) (m3_0:(List Zh)) (m5_0:(List (Int×Int))) (m6_0:(List (Zi×Int))) (x0:(List Int)) (x4:Zi) (s6:Unit):Option (Unit⊕(((List (Int×Int))×(List (Zi×Int))×(List Int)×(List Zm)×(List Zh))⊕Unit)):=
 bif (decide (1<(w64 ((x0.length:Int)+1)))) then
  (ZF b.parts c).bind fun x7=>
  bif (decide (1<(x0.length:Int))) then
   (ZF x0 1).bind fun x8=>
   (ZF b.futures x8).bind fun x9=>
   (Zaf (Zh.mk c 1) (w64 (x9.pos-x4.pos)) (m1_0++[(w64 (x4.pos-0))]) (m3_0++[(Zh.mk c 0)])).bind fun x10=>
   (ZG (w64 ((Z2 (fun ka kb:Int=>(ka==kb)) (Zt (fun ka kb:Int=>(ka==kb)) (Zt (fun ka kb:Int=>(ka==kb)) m5_0 c (w64 ((List.length (m3_0++[(Zh.mk c 0)]):Int)-1))) c (w64 ((List.length ((m3_0++[(Zh.mk c 0)])++[(Zh.mk c 1)]):Int)-1))) c 0)-1)) (Z2 (fun ka kb:Int=>(ka==kb)) (Zt (fun ka kb:Int=>(ka==kb)) (Zt (fun ka kb:Int=>(ka==kb)) m5_0 c (w64 ((List.length (m3_0++[(Zh.mk c 0)]):Int)-1))) c (w64 ((List.length ((m3_0++[(Zh.mk c 0)])++[(Zh.mk c 1)]):Int)-1))) c 0) m2_0).bind fun x11=>
   (ZF x0 0).bind fun x12=>
   (ZF b.futures x12).bind fun x13=>
   (lp (Zy b c x0) (x9.pos,2,(Zt (fun ka kb:Int=>(ka==kb)) (Zt (fun ka kb:Int=>(ka==kb)) m5_0 c (w64 ((List.length (m3_0++[(Zh.mk c 0)]):Int)-1))) c (w64 ((List.length ((m3_0++[(Zh.mk c 0)])++[(Zh.mk c 1)]):Int)-1))),(Zt (fun ka kb:Zi=>((ka.maker==kb.maker)&&((ka.user==kb.user)&&((ka.pos==kb.pos)&&true)))) m6_0 x13 (Z2 (fun ka kb:Int=>(ka==kb)) (Zt (fun ka kb:Int=>(ka==kb)) (Zt (fun ka kb:Int=>(ka==kb)) m5_0 c (w64 ((List.length (m3_0++[(Zh.mk c 0)]):Int)-1))) c (w64 ((List.length ((m3_0++[(Zh.mk c 0)])++[(Zh.mk c 1)]):Int)-1))) c 0)),((m1_0++[(w64 (x4.pos-0))])++[(w64 (x9.pos-x4.pos))]),(m2_0++[(Zm.mk (w64 ((Z2 (fun ka kb:Int=>(ka==kb)) (Zt (fun ka kb:Int=>(ka==kb)) (Zt (fun ka kb:Int=>(ka==kb)) m5_0 c (w64 ((List.length (m3_0++[(Zh.mk c 0)]):Int)-1))) c (w64 ((List.length ((m3_0++[(Zh.mk c 0)])++[(Zh.mk c 1)]):Int)-1))) c 0)-1)) (Z2 (fun ka kb:Int=>(ka==kb)) (Zt (fun ka kb:Int=>(ka==kb)) (Zt (fun ka kb:Int=>(ka==kb)) m5_0 c (w64 ((List.length (m3_0++[(Zh.mk c 0)]):Int)-1))) c (w64 ((List.length ((m3_0++[(Zh.mk c 0)])++[(Zh.mk c 1)]):Int)-1))) c 0))]),((m3_0++[(Zh.mk c 0)])++[(Zh.mk c 1)]))).bind fun r26=>
   some (.inr (.inl (r26.1,r26.2.1,r26.2.2.1,r26.2.2.2.1,r26.2.2.2.2)))
  else
   (Zaf (Zh.mk c 1) (w64 (x7.work-x4.pos)) (m1_0++[(w64 (x4.pos-0))]) (m3_0++[(Zh.mk c 0)])).bind fun x27=>
   (ZG (w64 ((Z2 (fun ka kb:Int=>(ka==kb)) (Zt (fun ka kb:Int=>(ka==kb)) (Zt (fun ka kb:Int=>(ka==kb)) m5_0 c (w64 ((List.length (m3_0++[(Zh.mk c 0)]):Int)-1))) c (w64 ((List.length ((m3_0++[(Zh.mk c 0)])++[(Zh.mk c 1)]):Int)-1))) c 0)-1)) (Z2 (fun ka kb:Int=>(ka==kb)) (Zt (fun ka kb:Int=>(ka==kb)) (Zt (fun ka kb:Int=>(ka==kb)) m5_0 c (w64 ((List.length (m3_0++[(Zh.mk c 0)]):Int)-1))) c (w64 ((List.length ((m3_0++[(Zh.mk c 0)])++[(Zh.mk c 1)]):Int)-1))) c 0) m2_0).bind fun x28=>
   (ZF x0 0).bind fun x29=>
   (ZF b.futures x29).bind fun x30=>
   (lp (Zy b c x0) (x7.work,2,(Zt (fun ka kb:Int=>(ka==kb)) (Zt (fun ka kb:Int=>(ka==kb)) m5_0 c (w64 ((List.length (m3_0++[(Zh.mk c 0)]):Int)-1))) c (w64 ((List.length ((m3_0++[(Zh.mk c 0)])++[(Zh.mk c 1)]):Int)-1))),(Zt (fun ka kb:Zi=>((ka.maker==kb.maker)&&((ka.user==kb.user)&&((ka.pos==kb.pos)&&true)))) m6_0 x30 (Z2 (fun ka kb:Int=>(ka==kb)) (Zt (fun ka kb:Int=>(ka==kb)) (Zt (fun ka kb:Int=>(ka==kb)) m5_0 c (w64 ((List.length (m3_0++[(Zh.mk c 0)]):Int)-1))) c (w64 ((List.length ((m3_0++[(Zh.mk c 0)])++[(Zh.mk c 1)]):Int)-1))) c 0)),((m1_0++[(w64 (x4.pos-0))])++[(w64 (x7.work-x4.pos))]),(m2_0++[(Zm.mk (w64 ((Z2 (fun ka kb:Int=>(ka==kb)) (Zt (fun ka kb:Int=>(ka==kb)) (Zt (fun ka kb:Int=>(ka==kb)) m5_0 c (w64 ((List.length (m3_0++[(Zh.mk c 0)]):Int)-1))) c (w64 ((List.length ((m3_0++[(Zh.mk c 0)])++[(Zh.mk c 1)]):Int)-1))) c 0)-1)) (Z2 (fun ka kb:Int=>(ka==kb)) (Zt (fun ka kb:Int=>(ka==kb)) (Zt (fun ka kb:Int=>(ka==kb)) m5_0 c (w64 ((List.length (m3_0++[(Zh.mk c 0)]):Int)-1))) c (w64 ((List.length ((m3_0++[(Zh.mk c 0)])++[(Zh.mk c 1)]):Int)-1))) c 0))]),((m3_0++[(Zh.mk c 0)])++[(Zh.mk c 1)]))).bind fun r43=>
   some (.inr (.inl (r43.1,r43.2.1,r43.2.2.1,r43.2.2.2.1,r43.2.2.2.2)))
 else
  some (.inr (.inr ()))
noncomputable def ZbZ (b:Zo) (c:Int) (m1_0:(List Int)) (m2_0:(List Zm)) (m3_0:(List Zh)) (m5_0:(List (Int×Int))) (m6_0:(List (Zi×Int))) (x0:(List Int)) (x2:ZV) (s46:Unit):Option (Unit⊕(((List (Int×Int))×(List (Zi×Int))×(List Int)×(List Zm)×(List Zh))⊕Unit)):=
 bif (decide (1<(w64 ((x0.length:Int)+1)))) then
  (ZF b.parts c).bind fun x47=>
  bif (decide (1<(x0.length:Int))) then
   (ZF x0 1).bind fun x48=>
   (ZF b.futures x48).bind fun x49=>
   (Zaf (Zh.mk c 1) (w64 (x49.pos-x2.work)) (m1_0++[(w64 (x2.work-0))]) (m3_0++[(Zh.mk c 0)])).bind fun x50=>
   (ZG (w64 ((Z2 (fun ka kb:Int=>(ka==kb)) (Zt (fun ka kb:Int=>(ka==kb)) (Zt (fun ka kb:Int=>(ka==kb)) m5_0 c (w64 ((List.length (m3_0++[(Zh.mk c 0)]):Int)-1))) c (w64 ((List.length ((m3_0++[(Zh.mk c 0)])++[(Zh.mk c 1)]):Int)-1))) c 0)-1)) (Z2 (fun ka kb:Int=>(ka==kb)) (Zt (fun ka kb:Int=>(ka==kb)) (Zt (fun ka kb:Int=>(ka==kb)) m5_0 c (w64 ((List.length (m3_0++[(Zh.mk c 0)]):Int)-1))) c (w64 ((List.length ((m3_0++[(Zh.mk c 0)])++[(Zh.mk c 1)]):Int)-1))) c 0) m2_0).bind fun x51=>
   (ZF x0 0).bind fun x52=>
   (ZF b.futures x52).bind fun x53=>
   (lp (Zy b c x0) (x49.pos,2,(Zt (fun ka kb:Int=>(ka==kb)) (Zt (fun ka kb:Int=>(ka==kb)) m5_0 c (w64 ((List.length (m3_0++[(Zh.mk c 0)]):Int)-1))) c (w64 ((List.length ((m3_0++[(Zh.mk c 0)])++[(Zh.mk c 1)]):Int)-1))),(Zt (fun ka kb:Zi=>((ka.maker==kb.maker)&&((ka.user==kb.user)&&((ka.pos==kb.pos)&&true)))) m6_0 x53 (Z2 (fun ka kb:Int=>(ka==kb)) (Zt (fun ka kb:Int=>(ka==kb)) (Zt (fun ka kb:Int=>(ka==kb)) m5_0 c (w64 ((List.length (m3_0++[(Zh.mk c 0)]):Int)-1))) c (w64 ((List.length ((m3_0++[(Zh.mk c 0)])++[(Zh.mk c 1)]):Int)-1))) c 0)),((m1_0++[(w64 (x2.work-0))])++[(w64 (x49.pos-x2.work))]),(m2_0++[(Zm.mk (w64 ((Z2 (fun ka kb:Int=>(ka==kb)) (Zt (fun ka kb:Int=>(ka==kb)) (Zt (fun ka kb:Int=>(ka==kb)) m5_0 c (w64 ((List.length (m3_0++[(Zh.mk c 0)]):Int)-1))) c (w64 ((List.length ((m3_0++[(Zh.mk c 0)])++[(Zh.mk c 1)]):Int)-1))) c 0)-1)) (Z2 (fun ka kb:Int=>(ka==kb)) (Zt (fun ka kb:Int=>(ka==kb)) (Zt (fun ka kb:Int=>(ka==kb)) m5_0 c (w64 ((List.length (m3_0++[(Zh.mk c 0)]):Int)-1))) c (w64 ((List.length ((m3_0++[(Zh.mk c 0)])++[(Zh.mk c 1)]):Int)-1))) c 0))]),((m3_0++[(Zh.mk c 0)])++[(Zh.mk c 1)]))).bind fun r66=>
   some (.inr (.inl (r66.1,r66.2.1,r66.2.2.1,r66.2.2.2.1,r66.2.2.2.2)))
  else
   (Zaf (Zh.mk c 1) (w64 (x47.work-x2.work)) (m1_0++[(w64 (x2.work-0))]) (m3_0++[(Zh.mk c 0)])).bind fun x67=>
   (ZG (w64 ((Z2 (fun ka kb:Int=>(ka==kb)) (Zt (fun ka kb:Int=>(ka==kb)) (Zt (fun ka kb:Int=>(ka==kb)) m5_0 c (w64 ((List.length (m3_0++[(Zh.mk c 0)]):Int)-1))) c (w64 ((List.length ((m3_0++[(Zh.mk c 0)])++[(Zh.mk c 1)]):Int)-1))) c 0)-1)) (Z2 (fun ka kb:Int=>(ka==kb)) (Zt (fun ka kb:Int=>(ka==kb)) (Zt (fun ka kb:Int=>(ka==kb)) m5_0 c (w64 ((List.length (m3_0++[(Zh.mk c 0)]):Int)-1))) c (w64 ((List.length ((m3_0++[(Zh.mk c 0)])++[(Zh.mk c 1)]):Int)-1))) c 0) m2_0).bind fun x68=>
   (ZF x0 0).bind fun x69=>
   (ZF b.futures x69).bind fun x70=>
   (lp (Zy b c x0) (x47.work,2,(Zt (fun ka kb:Int=>(ka==kb)) (Zt (fun ka kb:Int=>(ka==kb)) m5_0 c (w64 ((List.length (m3_0++[(Zh.mk c 0)]):Int)-1))) c (w64 ((List.length ((m3_0++[(Zh.mk c 0)])++[(Zh.mk c 1)]):Int)-1))),(Zt (fun ka kb:Zi=>((ka.maker==kb.maker)&&((ka.user==kb.user)&&((ka.pos==kb.pos)&&true)))) m6_0 x70 (Z2 (fun ka kb:Int=>(ka==kb)) (Zt (fun ka kb:Int=>(ka==kb)) (Zt (fun ka kb:Int=>(ka==kb)) m5_0 c (w64 ((List.length (m3_0++[(Zh.mk c 0)]):Int)-1))) c (w64 ((List.length ((m3_0++[(Zh.mk c 0)])++[(Zh.mk c 1)]):Int)-1))) c 0)),((m1_0++[(w64 (x2.work-0))])++[(w64 (x47.work-x2.work))]),(m2_0++[(Zm.mk (w64 ((Z2 (fun ka kb:Int=>(ka==kb)) (Zt (fun ka kb:Int=>(ka==kb)) (Zt (fun ka kb:Int=>(ka==kb)) m5_0 c (w64 ((List.length (m3_0++[(Zh.mk c 0)]):Int)-1))) c (w64 ((List.length ((m3_0++[(Zh.mk c 0)])++[(Zh.mk c 1)]):Int)-1))) c 0)-1)) (Z2 (fun ka kb:Int=>(ka==kb)) (Zt (fun ka kb:Int=>(ka==kb)) (Zt (fun ka kb:Int=>(ka==kb)) m5_0 c (w64 ((List.length (m3_0++[(Zh.mk c 0)]):Int)-1))) c (w64 ((List.length ((m3_0++[(Zh.mk c 0)])++[(Zh.mk c 1)]):Int)-1))) c 0))]),((m3_0++[(Zh.mk c 0)])++[(Zh.mk c 1)]))).bind fun r83=>
   some (.inr (.inl (r83.1,r83.2.1,r83.2.2.1,r83.2.2.2.1,r83.2.2.2.2)))
 else
  some (.inr (.inr ()))
noncomputable def Zbj (b:Zo) (c:Int) (m1_0:(List Int)) (m2_0:(List Zm)) (m3_0:(List Zh)) (m5_0:(List (Int×Int))) (m6_0:(List (Zi×Int))) (x0:(List Int)) (s1:Unit):Option (Unit⊕(((List (Int×Int))×(List (Zi×Int))×(List Int)×(List Zm)×(List Zh))⊕((List Int)⊕Unit))):=
 bif (decide (0<(w64 ((x0.length:Int)+1)))) then
  (ZF b.parts c).bind fun x2=>
  bif (decide (0<(x0.length:Int))) then
   (ZF x0 0).bind fun x3=>
   (ZF b.futures x3).bind fun x4=>
   (Zaf (Zh.mk c 0) (w64 (x4.pos-0)) m1_0 m3_0).bind fun x5=>
   (lp (Zbi b c m1_0 m2_0 m3_0 m5_0 m6_0 x0 x4) ()).bind fun r44=>
   match r44 with
   | (.inl r44)=>
    some (.inr (.inl (r44.1,r44.2.1,r44.2.2.1,r44.2.2.2.1,r44.2.2.2.2)))
   | (.inr r44)=>
    some (.inr (.inr (.inl (m1_0++[(w64 (x4.pos-0))]))))
  else
   (Zaf (Zh.mk c 0) (w64 (x2.work-0)) m1_0 m3_0).bind fun x45=>
   (lp (ZbZ b c m1_0 m2_0 m3_0 m5_0 m6_0 x0 x2) ()).bind fun r84=>
   match r84 with
   | (.inl r84)=>
    some (.inr (.inl (r84.1,r84.2.1,r84.2.2.1,r84.2.2.2.1,r84.2.2.2.2)))
   | (.inr r84)=>
    some (.inr (.inr (.inl (m1_0++[(w64 (x2.work-0))]))))
 else
  some (.inr (.inr (.inr ())))
noncomputable def ZcX (b:Zo) (c:Int) (m1_0:(List Int)) (m2_0:(List Zm)) (m3_0:(List Zh)) (m5_0:(List (Int×Int))) (m6_0:(List (Zi×Int))):Option (((List (Int×Int))×(List (Zi×Int))×(List Int)×(List Zm)×(List Zh))⊕((List Int)⊕Unit)):=
 (ZcE b c).bind fun x0=>
 (lp (Zbj b c m1_0 m2_0 m3_0 m5_0 m6_0 x0) ()).bind fun r85=>
 match r85 with
 | (.inl r85)=>
  some (.inl (r85.1,r85.2.1,r85.2.2.1,r85.2.2.2.1,r85.2.2.2.2))
 | (.inr (.inl r85))=>
  some (.inr (.inl r85))
 | (.inr (.inr r85))=>
  some (.inr (.inr ()))
noncomputable def ZcA (a:Int):Option Bool:=
 bif (decide (a<0)) then
  some true
 else
  bif (decide (1000<a)) then
   some true
  else
   some false
noncomputable def Zed (a:Int) (b0:(List Int)):Option Bool:=
 bif (decide (0≤a)) then
  bif (decide (a<(b0.length:Int))) then
   some true
  else
   some false
 else
  some false
noncomputable def ZdY (a:Za2) (s0:(List Int)×(List Bool)) (s1:Int) (s3:Int):Option (Int⊕(Unit⊕Unit)):=
 bif (decide (s3<(a.edges.length:Int))) then
  (ZF a.edges s3).bind fun x4=>
  bif (x4.dst==s1) then
   (ZF s0.2 x4.src).bind fun x5=>
   bif x5 then
    some (.inl (w64 (s3+1)))
   else
    some (.inr (.inl ()))
  else
   some (.inl (w64 (s3+1)))
 else
  some (.inr (.inr ()))
noncomputable def Zdg (a:Za2) (s0:(List Int)×(List Bool)) (s1:Int):Option (Int⊕(((List Int)×(List Bool))⊕Unit)):=
 bif (decide (s1<(a.work.length:Int))) then
  (ZF s0.2 s1).bind fun x2=>
  bif x2 then
   some (.inl (w64 (s1+1)))
  else
   (lp (ZdY a s0 s1) 0).bind fun r6=>
   match r6 with
   | (.inl r6)=>
    some (.inl (w64 (s1+1)))
   | (.inr r6)=>
    bif (Nat.ble (List.length s0.1+1) lim) then
     some (.inr (.inl ((s0.1++[s1]),(List.set s0.2 s1.toNat true))))
    else
     none
 else
  some (.inr (.inr ()))
noncomputable def Zd0 (a:Za2) (s0:(List Int)×(List Bool)):Option (((List Int)×(List Bool))⊕((List Int)⊕(List Int))):=
 bif (decide ((s0.1.length:Int)<(a.work.length:Int))) then
  (lp (Zdg a s0) 0).bind fun r7=>
  match r7 with
  | (.inl r7)=>
   some (.inl (r7.1,r7.2))
  | (.inr r7)=>
   some (.inr (.inl s0.1))
 else
  some (.inr (.inr s0.1))
noncomputable def Zel (a:Za2):Option ((List Int)×Bool):=
 bif (decide (0≤(a.work.length:Int))&&decide ((a.work.length:Int)≤lim)&&decide ((a.work.length:Int)==(a.work.length:Int))) then
  (lp (Zd0 a) (([]:(List Int)),(List.replicate (a.work.length:Int).toNat (false:Bool)))).bind fun r8=>
  match r8 with
  | (.inl r8)=>
   some (([]:List Int),false)
  | (.inr r8)=>
   some (r8,true)
 else
  none
noncomputable def Zdo (a:Za2) (s1:Int):Option (Int⊕(Unit⊕Unit)):=
 bif (decide (s1<(a.edges.length:Int))) then
  (ZF a.edges s1).bind fun x2=>
  (Zed x2.src a.work).bind fun x3=>
  bif x3 then
   (Zed x2.dst a.work).bind fun x4=>
   bif x4 then
    bif (x2.src==x2.dst) then
     some (.inr (.inl ()))
    else
     bif (decide (0≤s1)) then
      bif (Nat.ble s1.toNat (List.length a.edges)) then
       (ZaL (List.take s1.toNat a.edges) x2).bind fun x5=>
       bif x5 then
        some (.inr (.inl ()))
       else
        some (.inl (w64 (s1+1)))
      else
       none
     else
      none
   else
    some (.inr (.inl ()))
  else
   some (.inr (.inl ()))
 else
  some (.inr (.inr ()))
noncomputable def Zer (a:Za2):Option Int:=
 bif (decide (64<(a.work.length:Int))) then
  some 40
 else
  bif (decide (256<(a.edges.length:Int))) then
   some 40
  else
   (Z1 a.work (fun z0=>ZcA z0)).bind fun x0=>
   bif x0 then
    some 41
   else
    (lp (Zdo a) 0).bind fun r6=>
    match r6 with
    | (.inl r6)=>
     some 42
    | (.inr r6)=>
     (Zel a).bind fun x7=>
     bif x7.2 then
      some 0
     else
      some 43
noncomputable def Zca (a:Zo) (s1:Int×(List Int)×(List Zm)×(List Zh)×(List (Int×Int))×(List (Int×Int))×(List (Zi×Int))):Option ((Int×(List Int)×(List Zm)×(List Zh)×(List (Int×Int))×(List (Int×Int))×(List (Zi×Int)))⊕((List Int)×(List Zm)×(List Zh)×(List (Int×Int))×(List (Int×Int))×(List (Zi×Int)))):=
 bif (decide (s1.1<(a.parts.length:Int))) then
  (ZcX a s1.1 s1.2.1 s1.2.2.1 s1.2.2.2.1 s1.2.2.2.2.2.1 s1.2.2.2.2.2.2).bind fun x2=>
  match x2 with
  | (.inl x2)=>
   some (.inl ((w64 (s1.1+1)),x2.2.2.1,x2.2.2.2.1,x2.2.2.2.2,(Zt (fun ka kb:Int=>(ka==kb)) s1.2.2.2.2.1 s1.1 (s1.2.2.2.1.length:Int)),x2.1,x2.2.1))
  | (.inr (.inl x2))=>
   some (.inl ((w64 (s1.1+1)),x2,s1.2.2.1,(s1.2.2.2.1++[(Zh.mk s1.1 0)]),(Zt (fun ka kb:Int=>(ka==kb)) s1.2.2.2.2.1 s1.1 (s1.2.2.2.1.length:Int)),(Zt (fun ka kb:Int=>(ka==kb)) s1.2.2.2.2.2.1 s1.1 (w64 ((List.length (s1.2.2.2.1++[(Zh.mk s1.1 0)]):Int)-1))),s1.2.2.2.2.2.2))
  | (.inr (.inr x2))=>
   some (.inl ((w64 (s1.1+1)),s1.2.1,s1.2.2.1,s1.2.2.2.1,(Zt (fun ka kb:Int=>(ka==kb)) s1.2.2.2.2.1 s1.1 (s1.2.2.2.1.length:Int)),s1.2.2.2.2.2.1,s1.2.2.2.2.2.2))
 else
  some (.inr (s1.2.1,s1.2.2.1,s1.2.2.2.1,s1.2.2.2.2.1,s1.2.2.2.2.2.1,s1.2.2.2.2.2.2))
noncomputable def Zcu (a:Zo) (r3:((List Int)×(List Zm)×(List Zh)×(List (Int×Int))×(List (Int×Int))×(List (Zi×Int)))) (s4:Int×(List Zm)):Option ((Int×(List Zm))⊕(List Zm)):=
 bif (decide (s4.1<(a.edges.length:Int))) then
  (ZF a.edges s4.1).bind fun x5=>
  (ZG (Z2 (fun ka kb:Int=>(ka==kb)) r3.2.2.2.2.1 x5.src 0) (Z2 (fun ka kb:Int=>(ka==kb)) r3.2.2.2.1 x5.dst 0) s4.2).bind fun x6=>
  some (.inl ((w64 (s4.1+1)),(s4.2++[(Zm.mk (Z2 (fun ka kb:Int=>(ka==kb)) r3.2.2.2.2.1 x5.src 0) (Z2 (fun ka kb:Int=>(ka==kb)) r3.2.2.2.1 x5.dst 0))])))
 else
  some (.inr s4.2)
noncomputable def Zcx (a:Zo) (r3:((List Int)×(List Zm)×(List Zh)×(List (Int×Int))×(List (Int×Int))×(List (Zi×Int)))) (s8:Int×(List Zm)):Option ((Int×(List Zm))⊕(List Zm)):=
 bif (decide (s8.1<(a.futures.length:Int))) then
  (ZF a.futures s8.1).bind fun x9=>
  (ZG (Z2 (fun ka kb:Int=>(ka==kb)) r3.2.2.2.2.1 x9.maker 0) (Z2 (fun ka kb:Zi=>((ka.maker==kb.maker)&&((ka.user==kb.user)&&((ka.pos==kb.pos)&&true)))) r3.2.2.2.2.2 x9 0) s8.2).bind fun x10=>
  some (.inl ((w64 (s8.1+1)),(s8.2++[(Zm.mk (Z2 (fun ka kb:Int=>(ka==kb)) r3.2.2.2.2.1 x9.maker 0) (Z2 (fun ka kb:Zi=>((ka.maker==kb.maker)&&((ka.user==kb.user)&&((ka.pos==kb.pos)&&true)))) r3.2.2.2.2.2 x9 0))])))
 else
  some (.inr s8.2)
noncomputable def Zda (r3:((List Int)×(List Zm)×(List Zh)×(List (Int×Int))×(List (Int×Int))×(List (Zi×Int)))) (s12:Int×(List Int)×(List Zm)×(List Zh)) (x13:Zq) (s15:Int×(List Zm)):Option ((Int×(List Zm))⊕(List Zm)):=
 bif (decide (s15.1<(x13.ins.length:Int))) then
  (ZF x13.ins s15.1).bind fun x16=>
  (ZG (Z2 (fun ka kb:Int=>(ka==kb)) r3.2.2.2.2.1 x16 0) (w64 ((List.length (s12.2.2.2++[(Zh.mk (-1) s12.1)]):Int)-1)) s15.2).bind fun x17=>
  some (.inl ((w64 (s15.1+1)),(s15.2++[(Zm.mk (Z2 (fun ka kb:Int=>(ka==kb)) r3.2.2.2.2.1 x16 0) (w64 ((List.length (s12.2.2.2++[(Zh.mk (-1) s12.1)]):Int)-1)))])))
 else
  some (.inr s15.2)
noncomputable def Zdb (r3:((List Int)×(List Zm)×(List Zh)×(List (Int×Int))×(List (Int×Int))×(List (Zi×Int)))) (s12:Int×(List Int)×(List Zm)×(List Zh)) (x13:Zq) (s19:Int×(List Zm)):Option ((Int×(List Zm))⊕(List Zm)):=
 bif (decide (s19.1<(x13.outs.length:Int))) then
  (ZF x13.outs s19.1).bind fun x20=>
  (ZG (w64 ((List.length (s12.2.2.2++[(Zh.mk (-1) s12.1)]):Int)-1)) (Z2 (fun ka kb:Int=>(ka==kb)) r3.2.2.2.1 x20 0) s19.2).bind fun x21=>
  some (.inl ((w64 (s19.1+1)),(s19.2++[(Zm.mk (w64 ((List.length (s12.2.2.2++[(Zh.mk (-1) s12.1)]):Int)-1)) (Z2 (fun ka kb:Int=>(ka==kb)) r3.2.2.2.1 x20 0))])))
 else
  some (.inr s19.2)
noncomputable def Zcw (a:Zo) (r3:((List Int)×(List Zm)×(List Zh)×(List (Int×Int))×(List (Int×Int))×(List (Zi×Int)))) (s12:Int×(List Int)×(List Zm)×(List Zh)):Option ((Int×(List Int)×(List Zm)×(List Zh))⊕((List Int)×(List Zm)×(List Zh))):=
 bif (decide (s12.1<(a.barriers.length:Int))) then
  (ZF a.barriers s12.1).bind fun x13=>
  (Zaf (Zh.mk (-1) s12.1) 1 s12.2.1 s12.2.2.2).bind fun x14=>
  (lp (Zda r3 s12 x13) (0,s12.2.2.1)).bind fun r18=>
  (lp (Zdb r3 s12 x13) (0,r18)).bind fun r22=>
  some (.inl ((w64 (s12.1+1)),(s12.2.1++[1]),r22,(s12.2.2.2++[(Zh.mk (-1) s12.1)])))
 else
  some (.inr (s12.2.1,s12.2.2.1,s12.2.2.2))
noncomputable def ZeO (a:Zo):Option (Zf9×Int):=
 (ZeE a).bind fun x0=>
 bif (x0 != 0) then
  some ((Zf9.mk (Za2.mk ([]:List Int) ([]:List Zm)) ([]:List Zh)),x0)
 else
  (lp (Zca a) (0,([]:(List Int)),([]:(List Zm)),([]:(List Zh)),([]:(List (Int×Int))),([]:(List (Int×Int))),([]:(List (Zi×Int))))).bind fun r3=>
  (lp (Zcu a r3) (0,r3.2.1)).bind fun r7=>
  (lp (Zcx a r3) (0,r7)).bind fun r11=>
  (lp (Zcw a r3) (0,r3.1,r11,r3.2.2.1)).bind fun r23=>
  (Zer (Za2.mk r23.1 r23.2.1)).bind fun x24=>
  bif (x24 != 0) then
   some ((Zf9.mk (Za2.mk ([]:List Int) ([]:List Zm)) ([]:List Zh)),70)
  else
   some ((Zf9.mk (Za2.mk r23.1 r23.2.1) r23.2.2),0)
noncomputable def ZdA (a:Za2) (b:Za2) (s0:Int):Option (Int⊕(Unit⊕Unit)):=
 bif (decide (s0<(a.work.length:Int))) then
  (ZF a.work s0).bind fun x1=>
  (ZF b.work s0).bind fun x2=>
  bif (x1 != x2) then
   some (.inr (.inl ()))
  else
   some (.inl (w64 (s0+1)))
 else
  some (.inr (.inr ()))
noncomputable def Zdx (a:Za2) (b:Za2) (s4:Int):Option (Int⊕(Unit⊕Unit)):=
 bif (decide (s4<(a.edges.length:Int))) then
  (ZF a.edges s4).bind fun x5=>
  (ZF b.edges s4).bind fun x6=>
  bif (!((x5.src==x6.src)&&((x5.dst==x6.dst)&&true))) then
   some (.inr (.inl ()))
  else
   some (.inl (w64 (s4+1)))
 else
  some (.inr (.inr ()))
noncomputable def Ze9 (a:Za2) (b:Za2):Option Bool:=
 bif ((a.work.length:Int) != (b.work.length:Int)) then
  some false
 else
  bif ((a.edges.length:Int) != (b.edges.length:Int)) then
   some false
  else
   (lp (ZdA a b) 0).bind fun r3=>
   match r3 with
   | (.inl r3)=>
    some false
   | (.inr r3)=>
    (lp (Zdx a b) 0).bind fun r7=>
    match r7 with
    | (.inl r7)=>
     some false
    | (.inr r7)=>
     some true
noncomputable def Zdy (a:Zf9) (b:Zf9) (s0:Int):Option (Int⊕(Unit⊕Unit)):=
 bif (decide (s0<(a.pieces.length:Int))) then
  (ZF a.pieces s0).bind fun x1=>
  (ZF b.pieces s0).bind fun x2=>
  bif (!((x1.part==x2.part)&&((x1.step==x2.step)&&true))) then
   some (.inr (.inl ()))
  else
   some (.inl (w64 (s0+1)))
 else
  some (.inr (.inr ()))
noncomputable def Ze4 (a:Zf9) (b:Zf9):Option Bool:=
 bif ((a.pieces.length:Int) != (b.pieces.length:Int)) then
  some false
 else
  (lp (Zdy a b) 0).bind fun r3=>
  match r3 with
  | (.inl r3)=>
   some false
  | (.inr r3)=>
   (Ze9 a.dag b.dag).bind fun x4=>
   bif x4 then
    some true
   else
    some false
noncomputable def ZdT (a:Za2) (s1:Int×Int):Option ((Int×Int)⊕Int):=
 bif (decide (s1.2<(a.work.length:Int))) then
  (ZF a.work s1.2).bind fun x2=>
  some (.inl ((w64 (s1.1+x2)),(w64 (s1.2+1))))
 else
  some (.inr s1.1)
noncomputable def ZfI (a:Za2):Option Int:=
 (Zer a).bind fun x0=>
 bif (x0==0) then
  (lp (ZdT a) (0,0)).bind fun r3=>
  some r3
 else
  some 0
noncomputable def Zcy (a:Zo) (s5:Int×Int):Option ((Int×Int)⊕Int):=
 bif (decide (s5.2<(a.parts.length:Int))) then
  (ZF a.parts s5.2).bind fun x6=>
  some (.inl ((w64 (s5.1+x6.work)),(w64 (s5.2+1))))
 else
  some (.inr s5.1)
noncomputable def Zb5 (x3:(Zf9×Int)) (s8:Int):Option (Int⊕(Unit⊕Unit)):=
 bif (decide (s8<(x3.1.dag.work.length:Int))) then
  (ZF x3.1.dag.work s8).bind fun x9=>
  bif (decide (x9<1)) then
   some (.inr (.inl ()))
  else
   some (.inl (w64 (s8+1)))
 else
  some (.inr (.inr ()))
noncomputable def ZeS (a:Zo):Option Bool:=
 ZeL.bind fun x0=>
 bif x0 then
  (ZfK a).bind fun x1=>
  bif x1 then
   (ZfP a).bind fun x2=>
   (ZeO (Zo.mk a.period a.deadline a.parts a.edges a.futures x2)).bind fun x3=>
   bif (x3.2 != 0) then
    (Ze4 x3.1 (Zf9.mk (Za2.mk ([]:List Int) ([]:List Zm)) ([]:List Zh))).bind fun x4=>
    bif x4 then
     some true
    else
     some false
   else
    (lp (Zcy a) ((a.barriers.length:Int),0)).bind fun r7=>
    (lp (Zb5 x3) 0).bind fun r10=>
    match r10 with
    | (.inl r10)=>
     some false
    | (.inr r10)=>
     (Zer x3.1.dag).bind fun x11=>
     bif (x11==0) then
      (ZfI x3.1.dag).bind fun x12=>
      bif (x12==r7) then
       bif ((x3.1.dag.work.length:Int)==(w64 ((w64 ((a.parts.length:Int)+(a.futures.length:Int)))+(a.barriers.length:Int)))) then
        bif ((x3.1.pieces.length:Int)==(x3.1.dag.work.length:Int)) then
         some true
        else
         some false
       else
        some false
      else
       some false
     else
      some false
  else
   ZeL.bind fun x13=>
   bif x13 then
    some true
   else
    some false
 else
  ZeL.bind fun x14=>
  bif x14 then
   some true
  else
   some false
end Go.Proofs.YtljgncbdagmeeaaDoor
namespace Go.Proofs.YtljgncbdagmeeaaDoorE
open Go
set_option linter.unusedVariables false
set_option linter.unusedSimpArgs false
theorem ZeA {i n:Nat} (h:i<n):decide ((i:Int)<(n:Int))=true:=decide_eq_true (by omega)
theorem Zfe (n:Nat):decide ((n:Int)<(n:Int))=false:=decide_eq_false (by omega)
theorem ZaX {γ:Type} {l:List γ} {i:Nat} {x:γ} (h:l[i]? = some x):ZF l (i:Int)=some x:=(Zs6 l i).trans h
theorem ZoA {γ:Type} {l:List γ} {i:Int} {x:γ} (h0:0≤i) (h:l[i.toNat]? = some x):ZF l i=some x:=by
 have:=ZaX h
 rwa [Int.toNat_of_nonneg h0] at this
theorem Zcm {n:Int} (h1 : -9223372036854775808≤n) (h2:n<9223372036854775808):w64 n=n:=Zwl h1 h2
theorem Z8 {i n:Nat} (h:i<n) (hn:n<9223372036854775808):w64 ((i:Int)+1)=((i+1:Nat):Int):=by rw[Zcm (by omega) (by omega)]; omega
theorem Zh9 {n:Nat} (h:n≤1073741824):Nat.ble n lim=true:=Nat.ble_eq_true_of_le h
def ZkM {γ S R:Type} (f:Nat→γ→S→Option (S⊕R)) (fin:S→Option R):Nat→List γ→S→Option R
 | _,[],s=>fin s
 | i,x :: l,s=>(match f i x s with | some (.inl s')=>ZkM f fin (i+1) l s' | some (.inr r)=>some r | none=>none)
theorem ZnW {γ S St R:Type} (l:List γ) (step:St→Option (St⊕R)) (st:Nat→S→St) (f:Nat→γ→S→Option (S⊕R)) (fin:S→Option R)
  (h1:∀i x s,i<l.length→l[i]? = some x→step (st i s)=(match f i x s with | some (.inl s')=>some (.inl (st (i+1) s')) | some (.inr r)=>some (.inr r) | none=>none))
  (h2:∀s,step (st l.length s)=(fin s).map Sum.inr):∀s,lp step (st 0 s)=ZkM f fin 0 l s:=by
 have key:∀(k i:Nat) (s:S),i+k=l.length→lp step (st i s)=ZkM f fin i (l.drop i) s:=by
  intro k
  induction k with
  | zero=>
   intro i s hi
   have:i=l.length:=by omega
   subst this
   rw[List.drop_length,Zbl,h2]
   unfold ZkM
   cases fin s<;>rfl
  | succ k ih=>
   intro i s hi
   have hi':i<l.length:=by omega
   rw[List.drop_eq_getElem_cons hi',Zbl,h1 i l[i] s hi' (List.getElem?_eq_getElem hi')]
   conv=>rhs; unfold ZkM
   cases f i l[i] s with
   | none=>rfl
   | some t=>
    cases t with
    | inl s'=>exact ih (i+1) s' (by omega)
    | inr r=>rfl
 intro s
 have:=key l.length 0 s (by omega)
 rwa [List.drop_zero] at this
def Zgg {γ R:Type} (p:Nat→γ→Bool) (out:Nat→γ→R) (fin:R):Nat→List γ→R
 | _,[]=>fin
 | i,x :: l=>bif p i x then out i x else Zgg p out fin (i+1) l
theorem ZfB {γ R:Type} (l:List γ) (step:Int→Option (Int⊕R)) (p:Nat→γ→Bool) (out:Nat→γ→R) (fin:R)
  (h1:∀i x,i<l.length→l[i]? = some x→step (i:Int)=some (bif p i x then .inr (out i x) else .inl ((i+1:Nat):Int)))
  (h2:step (l.length:Int)=some (.inr fin)):lp step 0=some (Zgg p out fin 0 l):=by
 have key:=ZnW (S:=Unit) l step (fun i _=>(i:Int)) (fun i x _=>some (bif p i x then .inr (out i x) else .inl ())) (fun _=>some fin)
  (fun i x s hi hx=>by rw[h1 i x hi hx]; cases p i x<;>rfl) (fun _=>h2) ()
 refine(key:lp step 0=_).trans ?_
 have:∀(l:List γ) (i:Nat),ZkM (S:=Unit) (fun i x _=>some (bif p i x then Sum.inr (out i x) else Sum.inl ())) (fun _=>some fin) i l ()=some (Zgg p out fin i l):=by
  intro l
  induction l with
  | nil=>intro i; rfl
  | cons x l ih=>
   intro i
   unfold ZkM Zgg
   cases p i x with
   | true=>rfl
   | false=>exact ih (i+1)
 exact this l 0
def Zfy {γ:Type} (p:Nat→γ→Bool):Nat→List γ→Bool
 | _,[]=>false
 | i,x :: l=>p i x || Zfy p (i+1) l
theorem Zii {γ:Type} (p:γ→Bool):∀(l:List γ) (i:Nat),Zfy (fun _=>p) i l=l.any p
 | [],_=>rfl
 | x :: l,i=>by rw[Zfy,List.any_cons,Zii p l]
theorem Zd7 {γ R:Type} (p:Nat→γ→Bool) (c fin:R):∀(l:List γ) (i:Nat),Zgg p (fun _ _=>c) fin i l=bif Zfy p i l then c else fin
 | [],_=>rfl
 | x :: l,i=>by
  unfold Zgg Zfy
  rw[Zd7 p c fin l (i+1)]
  cases p i x<;>rfl
theorem Zme {γ R:Type} (p:γ→Bool) (fin:R):∀(l:List γ) (i:Nat),(∃j:Nat,Zgg (fun _=>p) (fun i _=>(Sum.inl (i:Int):Int⊕R)) (.inr fin) i l = .inl (j:Int)∧l.any p=true)∨(Zgg (fun _=>p) (fun i _=>(Sum.inl (i:Int):Int⊕R)) (.inr fin) i l = .inr fin∧l.any p=false)
 | [],_=>.inr ⟨rfl,rfl⟩
 | x :: l,i=>by
  unfold Zgg
  rw[List.any_cons]
  cases h:p x with
  | true=>exact .inl ⟨i,rfl,rfl⟩
  | false=>simpa using Zme p fin l (i+1)
theorem Zin {γ:Type} (p:Nat→γ→Bool):∀(l:List γ) (i:Nat),Zfy p i l=true↔∃j x,l[j]? = some x∧p (i+j) x=true
 | [],i=>by simp[Zfy]
 | x :: l,i=>by
  rw[Zfy,Bool.or_eq_true,Zin p l (i+1)]
  constructor
  ·rintro (h | ⟨j,y,hj,hp⟩)
   ·exact⟨0,x,rfl,h⟩
   ·exact⟨j+1,y,by simpa using hj,by rw[show i+(j+1)=i+1+j by omega]; exact hp⟩
  ·rintro ⟨j,y,hj,hp⟩
   cases j with
   | zero=>left; simp at hj; subst hj; exact hp
   | succ j=>right; exact⟨j,y,by simpa using hj,by rw[show i+1+j=i+(j+1) by omega]; exact hp⟩
theorem Zn2 {γ:Type} [DecidableEq γ] (a b:List γ) (he:a.length=b.length) (step:Int→Option (Int⊕(Unit⊕Unit)))
  (h1:∀i x y,i<a.length→a[i]? = some x→b[i]? = some y→step (i:Int)=some (bif decide (x=y) then .inl ((i+1:Nat):Int) else .inr (.inl ())))
  (h2:step (a.length:Int)=some (.inr (.inr ()))):lp step 0=some (bif decide (a=b) then .inr () else .inl ()):=by
 have key:∀(k i:Nat),i+k=a.length→lp step (i:Int)=some (bif decide (a.drop i=b.drop i) then .inr () else .inl ()):=by
  intro k
  induction k with
  | zero=>
   intro i hi
   have:i=a.length:=by omega
   subst this
   rw[Zbl,h2,List.drop_length,he,List.drop_length]
   rfl
  | succ k ih=>
   intro i hi
   have ha:i<a.length:=by omega
   have hb:i<b.length:=by omega
   rw[Zbl,h1 i a[i] b[i] ha (List.getElem?_eq_getElem ha) (List.getElem?_eq_getElem hb),List.drop_eq_getElem_cons ha,List.drop_eq_getElem_cons hb]
   by_cases h:a[i]=b[i]
   ·rw[decide_eq_true h]
    simp only[cond_true]
    rw[ih (i+1) (by omega)]
    by_cases h3:a.drop (i+1)=b.drop (i+1)
    ·rw[decide_eq_true h3,decide_eq_true (by rw[h,h3])]
    ·rw[decide_eq_false h3,decide_eq_false (by intro h4; exact h3 (List.cons.inj h4).2)]
   ·rw[decide_eq_false h,decide_eq_false (by intro h4; exact h (List.cons.inj h4).1)]
    rfl
 have:=key a.length 0 (by omega)
 rwa [List.drop_zero,List.drop_zero] at this
end Go.Proofs.YtljgncbdagmeeaaDoorE
namespace Go.Proofs.YtljgncbdagmeeaaDoor
open Go Go.Proofs.YtljgncbdagmeeaaDoorE
set_option linter.unusedVariables false
set_option linter.unusedSimpArgs false
def ZcF (n a b:Int):Bool:=decide (a≤n)&&decide (n≤b)
theorem Zip (n a b:Int):Zbh n a b=some (ZcF n a b):=by
 unfold Zbh ZcF
 cases decide (a≤n)<;>cases decide (n≤b)<;>rfl
def ZeR (p:ZV):Bool:=!(ZcF p.op 0 5&&(ZcF p.arg 0 2147483647&&ZcF p.work 1 100))
theorem Zv5 (p:ZV):Zd3 p=some (ZeR p):=by
 unfold Zd3 ZeR
 simp only[Zip,Option.bind_some]
 cases ZcF p.op 0 5<;>cases ZcF p.arg 0 2147483647<;>cases ZcF p.work 1 100<;>rfl
theorem Zit {γ:Type} (l:List γ) (p:γ→Bool) (step:Int→Option (Int⊕(Int⊕Unit)))
  (h1:∀i x,i<l.length→l[i]? = some x→step (i:Int)=some (bif p x then .inr (.inl (i:Int)) else .inl ((i+1:Nat):Int)))
  (h2:step (l.length:Int)=some (.inr (.inr ()))) :
  (((lp step 0).bind fun(r:Int⊕Unit)=>match r with | .inl r=>some r | .inr _=>some (-1)).bind fun x=>bif decide (0≤x) then some true else some false)=some (l.any p):=by
 rw[ZfB l step (fun _=>p) (fun i _=>.inl (i:Int)) (.inr ()) h1 h2]
 rcases Zme p () l 0 with⟨j,e1,e2⟩ | ⟨e1,e2⟩
 ·rw[e1,e2]
  show(bif decide ((0:Int)≤(j:Int)) then some true else some false)=some true
  rw[decide_eq_true (by omega)]
  rfl
 ·rw[e1,e2]
  rfl
theorem ZmJ (l:List ZV) (f:ZV→Option Bool) (p:ZV→Bool) (hf:∀x∈l,f x=some (p x)) (hl:l.length<9223372036854775808):ZaN l f=some (l.any p):=by
 unfold ZaN ZbK
 refine Zit l p _ (fun i x hi hx=>?_) ?_
 ·simp only[ZaM,ZeA hi,ZaX hx,Option.bind_some,hf x (List.mem_of_getElem? hx),Z8 hi hl,cond_true]
  cases p x<;>rfl
 ·simp only[ZaM,Zfe]; rfl
def ZlP (e x:Zm):Bool:=e.src==x.src&&(e.dst==x.dst&&true)
theorem ZnO (l:List Zm) (e:Zm) (hl:l.length<9223372036854775808):ZaL l e=some (l.any (ZlP e)):=by
 unfold ZaL Zcg
 refine Zit l (ZlP e) _ (fun i x hi hx=>?_) ?_
 ·simp only[Za6,ZeA hi,ZaX hx,Option.bind_some,Z8 hi hl,cond_true,ZlP]
  cases (e.src==x.src&&(e.dst==x.dst&&true))<;>rfl
 ·simp only[Za6,Zfe]; rfl
def again (f g:Zi):Bool:=g.user==f.user&&g.pos==f.pos
theorem ZkF (l:List Zi) (f:Zi→Option Bool) (p:Zi→Bool) (hf:∀x∈l,f x=some (p x)) (hl:l.length<9223372036854775808):Zaw l f=some (l.any p):=by
 unfold Zaw Za9
 refine Zit l p _ (fun i x hi hx=>?_) ?_
 ·simp only[Zav,ZeA hi,ZaX hx,Option.bind_some,hf x (List.mem_of_getElem? hx),Z8 hi hl,cond_true]
  cases p x<;>rfl
 ·simp only[Zav,Zfe]; rfl
theorem ZuG (f g:Zi):ZcG g f.user f.pos=some (again f g):=by
 unfold ZcG again
 cases (g.user==f.user)<;>cases (g.pos==f.pos)<;>rfl
theorem Zt2 (l:List Int) (n:Int) (hl:l.length<9223372036854775808):Zbp l n=some (l.any (fun x=>n==x)):=by
 unfold Zbp ZcB
 refine Zit l (fun x=>n==x) _ (fun i x hi hx=>?_) ?_
 ·simp only[Zbq,ZeA hi,ZaX hx,Option.bind_some,Z8 hi hl,cond_true]
  cases (n==x)<;>rfl
 ·simp only[Zbq,Zfe]; rfl
def ZmP (b:Zq) (n:Int):Bool:=b.outs.any fun x=>n==x
theorem Zjo (l:List Int) (f:Int→Option Bool) (p:Int→Bool) (hf:∀x∈l,f x=some (p x)) (hl:l.length<9223372036854775808):Z1 l f=some (l.any p):=by
 unfold Z1 ZaO
 refine Zit l p _ (fun i x hi hx=>?_) ?_
 ·simp only[Zaj,ZeA hi,ZaX hx,Option.bind_some,hf x (List.mem_of_getElem? hx),Z8 hi hl,cond_true]
  cases p x<;>rfl
 ·simp only[Zaj,Zfe]; rfl
theorem Zye (b:Zq) (h2:b.outs.length<9223372036854775808) (n:Int):ZcI n b.outs=some (ZmP b n):=by
 unfold ZcI
 simp only[Zt2 _ _ h2,Option.bind_some]
 unfold ZmP
 cases (b.outs.any fun y=>n==y)<;>rfl
def two (n:Nat) (a b:Int):Bool:=(a != b)&&(ZcF a 0 (n-1)&&ZcF b 0 (n-1))
theorem Zvt (d:Zo) (hl:d.parts.length<9223372036854775808) (a b:Int):Zft d a b=some (two d.parts.length a b):=by
 unfold Zft two
 rw[Zcm (by omega) (by omega)]
 simp only[Zip,Option.bind_some]
 cases (a != b)<;>cases ZcF a 0 (d.parts.length-1)<;>cases ZcF b 0 (d.parts.length-1)<;>rfl
def Znk (n:Nat) (l:List Int) (i:Nat) (x:Int):Bool:=!(ZcF x 0 (n-1)) || (match i with | 0=>false | j+1=>match l[j]? with | some y=>decide (x≤y) | none=>false)
def Zjk (n:Nat) (l:List Int):Bool:=!(Zfy (Znk n l) 0 l) && !l.isEmpty
theorem ZuK (b:Bool) (l:List Int):((some (bif b then (Sum.inl ():Unit⊕Unit) else .inr ())).bind fun r=>match r with | .inl _=>some false | .inr _=>bif decide (0<(l.length:Int)) then some true else some false)=some (!b && !l.isEmpty):=by
 cases b with
 | true=>rfl
 | false=>
  cases l with
  | nil=>rfl
  | cons x l=>show(bif decide (0<((x :: l).length:Int)) then some true else some false)=some true; rw[decide_eq_true (by rw[List.length_cons]; omega)]; rfl
theorem Zvu (d:Zo) (hd:d.parts.length<9223372036854775808) (l:List Int) (hl:l.length<9223372036854775808):Zfu d l=some (Zjk d.parts.length l):=by
 have key:=ZfB l (Zef d l) (Znk d.parts.length l) (fun _ _=>.inl ()) (.inr ()) (fun i x hi hx=>by
   simp only[Zef,ZeA hi,ZaX hx,Option.bind_some,Z8 hi hl,cond_true,Zip,Znk]
   rw[Zcm (by omega) (by omega)]
   cases ZcF x 0 (d.parts.length-1) with
   | false=>rfl
   | true=>
    cases i with
    | zero=>rfl
    | succ i=>
     rw[decide_eq_true (show(0:Int)<((i+1:Nat):Int) by omega),Zcm (by omega) (by omega),show(((i+1:Nat):Int)-1)=(i:Int) by omega]
     have hi2:l[i]? = some l[i]:=List.getElem?_eq_getElem (by omega)
     rw[ZaX hi2]
     simp only[cond_true,Option.bind_some,Bool.not_true,Bool.false_or,hi2]
     cases decide (x≤l[i])<;>rfl) (by simp only[Zef,Zfe]; rfl)
 unfold Zfu Zjk
 rw[key,Zd7]
 exact ZuK _ _
end Go.Proofs.YtljgncbdagmeeaaDoor
namespace Go.Proofs.YtljgncbdagmeeaaDoor
open Go Go.Proofs.YtljgncbdagmeeaaDoorE
set_option linter.unusedVariables false
set_option linter.unusedSimpArgs false
def ZnZ (n:Int):Int:=bif decide (n<0) then 10 else bif decide (1099511627775<n) then 11 else 0
theorem ZpG (n:Int):ZfG n=some (ZnZ n):=by
 unfold ZfG ZnZ
 cases decide (n<0)<;>cases decide (1099511627775<n)<;>rfl
noncomputable def Zus (x:Int):Int:=match Zb9 x with | some n=>n | none=>0
theorem Zwq (x:Int):Zcp x=some (Zus x):=by
 unfold Zcp Zus Zb9
 rfl
noncomputable def ZuW (n:Int):Bool:=!(ZnZ n != 0) && !(Zus (IntKind.u64.wrap n) != 1)
theorem Zsy (n:Int):∃k,Zhk n=some (k,ZuW n):=by
 have tz:∃k,Zco (IntKind.u64.wrap n)=some k:=⟨_,rfl⟩
 obtain⟨k,hk⟩:=tz
 unfold Zhk ZuW
 simp only[ZpG,Zwq,Option.bind_some,hk]
 cases (ZnZ n != 0)
 ·cases (Zus (IntKind.u64.wrap n) != 1)
  ·exact⟨k,rfl⟩
  ·exact⟨0,rfl⟩
 ·exact⟨0,rfl⟩
end Go.Proofs.YtljgncbdagmeeaaDoor
namespace Go.Proofs.YtljgncbdagmeeaaDoor
open Go Go.Proofs.YtljgncbdagmeeaaDoorE
set_option linter.unusedVariables false
set_option linter.unusedSimpArgs false
def Zvr (b:Zq):Prop:=b.ins.length<9223372036854775808∧b.outs.length<9223372036854775808
structure Ziv (d:Zo):Prop where
 p:d.parts.length<9223372036854775808
 e:d.edges.length<9223372036854775808
 f:d.futures.length<9223372036854775808
 b:d.barriers.length<9223372036854775808
 i:∀b∈d.barriers,Zvr b
theorem ZjB {γ:Type} {l:List γ} {i n:Nat} (h:l.length<n):(l.take i).length<n:=by rw[List.length_take]; omega
def Zfd (d:Zo) (i:Nat) (e:Zm):Bool:=!(two d.parts.length e.src e.dst) || (d.edges.take i).any (ZlP e)
theorem ZuM (d:Zo) (h:Ziv d):lp (ZcR d) 0=some (bif Zfy (Zfd d) 0 d.edges then .inl () else .inr ()):=by
 have key:=ZfB d.edges (ZcR d) (Zfd d) (fun _ _=>.inl ()) (.inr ()) (fun i x hi hx=>by
   simp only[ZcR,ZeA hi,ZaX hx,Option.bind_some,Z8 hi h.e,cond_true,Zvt d h.p,Zfd,Int.toNat_natCast,ZnO _ _ (ZjB h.e)]
   rw[decide_eq_true (show(0:Int)≤(i:Int) by omega),Nat.ble_eq_true_of_le (Nat.le_of_lt hi)]
   cases two d.parts.length x.src x.dst<;>cases (d.edges.take i).any (ZlP x)<;>rfl) (by simp only[ZcR,Zfe]; rfl)
 rw[key,Zd7]
def Zdt (ps:List ZV) (z:Int):Int:=match ps[z.toNat]? with | some p=>p.work | none=>0
def Zdv (d:Zo) (i:Nat) (f:Zi):Bool:=!(two d.parts.length f.maker f.user) || (!(ZcF f.pos 1 (Zdt d.parts f.user-1)) || (d.futures.take i).any (again f))
theorem Zmp {n:Nat} {a b:Int} (h:two n a b=true):(0≤a∧a.toNat<n)∧(0≤b∧b.toNat<n)∧a≠b:=by
 simp only[two,ZcF,Bool.and_eq_true,decide_eq_true_eq,bne_iff_ne] at h
 omega
theorem Zvm {γ:Type} {l:List γ} {z:Int} (h0:0≤z) (h:z.toNat<l.length):ZF l z=some l[z.toNat]:=ZoA h0 (List.getElem?_eq_getElem h)
theorem Zr3 (d:Zo) (h:Ziv d) (hg:∀p∈d.parts,1≤p.work∧p.work≤100):lp (ZcV d) 0=some (bif Zfy (Zdv d) 0 d.futures then .inl () else .inr ()):=by
 have key:=ZfB d.futures (ZcV d) (Zdv d) (fun _ _=>.inl ()) (.inr ()) (fun i x hi hx=>by
   simp only[ZcV,ZeA hi,ZaX hx,Option.bind_some,Z8 hi h.f,cond_true,Zvt d h.p,Zdv]
   cases h1:two d.parts.length x.maker x.user with
   | false=>rfl
   | true=>
    obtain⟨_,⟨u1,u2⟩,_⟩:=Zmp h1
    have w:=hg _ (List.getElem_mem u2)
    have wa:Zdt d.parts x.user=d.parts[x.user.toNat].work:=by simp only[Zdt,List.getElem?_eq_getElem u2]
    rw[← wa] at w
    rw[Zvm u1 u2]
    simp only[cond_true,Option.bind_some,Zip,← wa,Zcm (show -9223372036854775808≤Zdt d.parts x.user-1 by omega) (by omega),Int.toNat_natCast]
    rw[decide_eq_true (show(0:Int)≤(i:Int) by omega),Nat.ble_eq_true_of_le (Nat.le_of_lt hi),ZkF _ _ (again x) (fun y _=>ZuG x y) (ZjB h.f)]
    cases ZcF x.pos 1 (Zdt d.parts x.user-1)<;>cases (d.futures.take i).any (again x)<;>rfl) (by simp only[ZcV,Zfe]; rfl)
 rw[key,Zd7]
def Zep (n:Nat) (b:Zq):Bool:=!(Zjk n b.ins) || (!(Zjk n b.outs) || b.ins.any (ZmP b))
theorem Zqj (d:Zo) (h:Ziv d):lp (ZcT d) 0=some (bif d.barriers.any (Zep d.parts.length) then .inl () else .inr ()):=by
 have key:=ZfB d.barriers (ZcT d) (fun _=>Zep d.parts.length) (fun _ _=>.inl ()) (.inr ()) (fun i x hi hx=>by
   have hb:=h.i x (List.mem_of_getElem? hx)
   simp only[ZcT,ZeA hi,ZaX hx,Option.bind_some,Z8 hi h.b,cond_true,Zvu d h.p _ hb.1,Zvu d h.p _ hb.2,Zep,Zjo x.ins _ (ZmP x) (fun y _=>Zye x hb.2 y) hb.1]
   cases Zjk d.parts.length x.ins<;>cases Zjk d.parts.length x.outs<;>cases x.ins.any (ZmP x)<;>rfl) (by simp only[ZcT,Zfe]; rfl)
 rw[key,Zd7,Zii]
noncomputable def ZmO (d:Zo):Bool:=ZuW d.period&&(!decide (4096<d.period)&&ZcF d.deadline 1 d.period)
def Zjw (d:Zo):Bool:=ZcF (d.parts.length:Int) 1 16&&(!decide ((48:Int)<d.edges.length)&&(!decide ((16:Int)<d.futures.length) && !decide ((4:Int)<d.barriers.length)))
noncomputable def Zfz (d:Zo):Int:=
 bif Zjw d then bif ZmO d then bif d.parts.any ZeR then 52 else bif Zfy (Zfd d) 0 d.edges then 53 else
 bif Zfy (Zdv d) 0 d.futures then 54 else bif d.barriers.any (Zep d.parts.length) then 55 else 0 else 51 else 50
theorem ZmQ {ps:List ZV} (h:ps.any ZeR=false):∀p∈ps,1≤p.work∧p.work≤100:=fun p hp=>by
 have:=List.any_eq_false.1 h p hp
 simp only[ZeR,ZcF,Bool.not_eq_true,Bool.not_eq_false',Bool.and_eq_true,decide_eq_true_eq] at this
 exact this.2.2
theorem ZqH (d:Zo) (h:Ziv d):ZeE d=some (Zfz d):=by
 obtain⟨k,hk⟩:=Zsy d.period
 unfold ZeE Zfz Zjw ZmO
 simp only[Zip,Option.bind_some,hk,ZmJ _ _ ZeR (fun x _=>Zv5 x) h.p,ZuM d h,Zqj d h]
 cases ZcF (d.parts.length:Int) 1 16 with
 | false=>rfl
 | true=>
  cases decide ((48:Int)<d.edges.length) with
  | true=>rfl
  | false=>
   cases decide ((16:Int)<d.futures.length) with
   | true=>rfl
   | false=>
    cases decide ((4:Int)<d.barriers.length) with
    | true=>rfl
    | false=>
     cases ZuW d.period with
     | false=>rfl
     | true=>
      cases decide (4096<d.period) with
      | true=>rfl
      | false=>
       cases ZcF d.deadline 1 d.period with
       | false=>rfl
       | true=>
        cases hp:d.parts.any ZeR with
        | true=>rfl
        | false=>
         rw[Zr3 d h (ZmQ hp)]
         cases Zfy (Zfd d) 0 d.edges<;>cases Zfy (Zdv d) 0 d.futures<;>cases d.barriers.any (Zep d.parts.length)<;>rfl
end Go.Proofs.YtljgncbdagmeeaaDoor
